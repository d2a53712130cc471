/-
  Walks: Wide of both sides.
-/
import Derived.Test.YthkleolkkgichaaDoorBldRune
namespace Go.Proofs.YthkleolkkgichaaDoor
open Go.RowKit

set_option maxRecDepth 100000 in
set_option maxHeartbeats 1000000 in
theorem wide_any (l : List UInt8) (w : World) (hl : l.length ≤ 1000000) :
    Calls Tryd.prog 12 #[.string ⟨l.toArray⟩] w fun e w' => e = .returned (.string ⟨(wide l).toArray⟩) ∧ Fr nob w w' := by
  go_enter Tryd.func12, Tryd.ntmps12
  go_wp2_with fail
  go_loopw [7] (fun i wr => ∃ (k : Nat) (g : Option Nat), i = .int .i64 k ∧ k ≤ l.length ∧ Bb w.heap.size (wide (l.take k)) g wr ∧ Fr nob w wr ∧ (∀ j, g = some j → w.heap.size ≤ j)) (fun i _ => l.length - (intOf i).toNat)
  case atStart => exact ⟨0, none, rfl, Nat.zero_le _, Bb.new _, (Fr.refl _ _).alloc _, fun _ h => (by cases h)⟩
  case round =>
    obtain ⟨k, g, rfl, hk, hr, hfr, hg⟩ := hrel
    have HR := Lib.hid hr; have HFR := Lib.hid hfr; have HG := Lib.hid hg; clear hr hfr hg
    by_cases hlt : k < l.length
    · have hlen : (wide (l.take k)).length ≤ 2000000 := by have := (wide_le (l.take k)).1; have := List.length_take_le k l; omega
      have HT := Lib.hid (wide_take hlt)
      have hbd := toNat_bd l[k]
      go_wp2_with fail
      refine (bb_writeRune _ _ l[k] g _ HR.out (by omega)).mono ?_
      rintro e w1 ⟨⟨r, rfl⟩, g1, h1, hf1, hg1⟩
      have HB1 := Lib.hid h1; have HF1 := Lib.hid (keep_new (g' := none) (Nat.le_refl _) HFR.out HG.out hf1); have HG1 := Lib.hid (new_blk HFR.out HG.out hg1); clear h1 hf1 hg1
      go_wp2
      go_roundw
      case rel => exact ⟨k + 1, g1, by go_num, by omega, by rw [HT.out]; exact HB1.out, HF1.out, HG1.out⟩
      case measure => simp [intOf]; omega
    · obtain rfl : k = l.length := by omega
      have HT := Lib.hid (List.take_of_length_le (l := l) (Nat.le_refl _))
      go_wp2_with fail
      refine (bb_string _ _ g _ HR.out).mono ?_
      rw [HT.out]
      rintro e w2 ⟨rfl, hf2⟩
      have HF2 := Lib.hid hf2; clear hf2
      go_wp2
      go_ret
      exact ⟨rfl, HFR.out.trans HF2.out (fun i hi h => by have := HG.out i h.symm; omega)⟩

end Go.Proofs.YthkleolkkgichaaDoor
