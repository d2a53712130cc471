/-
  Walks: Wide of both sides.
-/
import Derived.Test.YthkleolkkgichaaBldRune
namespace Go.Proofs.Ythkleolkkgichaa
open Go.RowKit

set_option maxRecDepth 100000 in
set_option maxHeartbeats 1000000 in
theorem wide_any (l : List UInt8) (w : World) (hl : l.length ≤ 1000000) :
    Calls Try.prog 12 #[.string ⟨l.toArray⟩] w fun e w' => e = .returned (.string ⟨(wide l).toArray⟩) ∧ Fr nob w w' := by
  go_enter Try.func12, Try.ntmps12
  go_wp2_with fail
  go_loopw [7] (fun i wr => ∃ (k : Nat) (g : Option Nat), i = .int .i64 k ∧ k ≤ l.length ∧ Bb w.heap.size (wide (l.take k)) g wr ∧ Fr nob w wr ∧ (∀ j, g = some j → w.heap.size ≤ j)) (fun i _ => l.length - (intOf i).toNat)
  case atStart => exact ⟨0, none, rfl, Nat.zero_le _, Bb.new _, (Fr.refl _ _).alloc _, fun _ h => (by cases h)⟩
  case round =>
    obtain ⟨k, g, rfl, hk, hr, hfr, hg⟩ := hrel
    have HR := Lib.hid hr; have HFR := Lib.hid hfr; have HG := Lib.hid hg; clear hr hfr hg
    by_cases hlt : k < l.length
    · have hlen : (wide (l.take k)).length ≤ 2000000 := by have := (wide_le (l.take k)).1; have := List.length_take_le k l; omega
      have HT := Lib.hid (wide_take hlt)
      have hbd := toNat_bd l[k]
      go_wp2_with fail
      refine (bb_writeRune _ _ l[k] g _ HR.out (by omega)).mono ?_
      rintro e w1 ⟨⟨r, rfl⟩, g1, h1, hf1, hg1⟩
      have HB1 := Lib.hid h1; have HF1 := Lib.hid (keep_new (g' := none) (Nat.le_refl _) HFR.out HG.out hf1); have HG1 := Lib.hid (new_blk HFR.out HG.out hg1); clear h1 hf1 hg1
      go_wp2
      go_roundw
      case rel => exact ⟨k + 1, g1, by go_num, by omega, by rw [HT.out]; exact HB1.out, HF1.out, HG1.out⟩
      case measure => simp [intOf]; omega
    · obtain rfl : k = l.length := by omega
      have HT := Lib.hid (List.take_of_length_le (l := l) (Nat.le_refl _))
      go_wp2_with fail
      refine (bb_string _ _ g _ HR.out).mono ?_
      rw [HT.out]
      rintro e w2 ⟨rfl, hf2⟩
      have HF2 := Lib.hid hf2; clear hf2
      go_wp2
      go_ret
      exact ⟨rfl, HFR.out.trans HF2.out (fun i hi h => by have := HG.out i h.symm; omega)⟩

set_option maxRecDepth 100000 in
set_option maxHeartbeats 1000000 in
theorem wideR_any (l : List UInt8) (w : World) (hl : l.length ≤ 1000000) :
    Calls Try.prog 14 #[.string ⟨l.toArray⟩] w fun e w' => e = .returned (.string ⟨(wide l).toArray⟩) ∧ Fr nob w w' := by
  go_enter Try.func14, Try.ntmps14
  go_wp2_with fail
  go_loopw [3, 8] (fun o i wr => ∃ k : Nat, i = .int .i64 k ∧ k ≤ l.length ∧ o = .string ⟨(wide (l.take k)).toArray⟩ ∧ Fr nob w wr) (fun _ i _ => l.length - (intOf i).toNat)
  case atStart => exact ⟨0, rfl, Nat.zero_le _, rfl, Fr.refl _ _⟩
  case round =>
    obtain ⟨k, rfl, hk, rfl, hfr⟩ := hrel
    have HFR := Lib.hid hfr; clear hfr
    by_cases hlt : k < l.length
    · have hlen : (wide (l.take k)).length ≤ 2000000 := by have := (wide_le (l.take k)).1; have := List.length_take_le k l; omega
      have HT := Lib.hid (wide_take hlt)
      obtain ⟨out, hout⟩ : ∃ x, wide (l.take k) = x := ⟨_, rfl⟩
      rw [hout] at hlen HT ⊢
      have HO := Lib.hid hout; clear hout
      by_cases h : l[k].toNat < 128
      · have hw := Lib.hid (show wide1 l[k] = [l[k]] by unfold wide1; rw [if_pos h])
        have h' : (l[k].toNat : Int) < 128 := by omega
        have hsl := fun wx => run_slice_one (P := Try.prog) (t := 9) l (k := k) (lo := k) (hi := k + 1) Try.underlying9 hlt rfl rfl wx
        go_wp2
        go_roundw
        case rel => exact ⟨k + 1, by go_num, by omega, by rw [HT.out, hw.out], HFR.out⟩
        case measure => simp [intOf]; omega
      · have h' : (128 : Int) ≤ (l[k].toNat : Int) := by omega
        have h2 := toNat_bd l[k]
        obtain ⟨x1, hx1⟩ : ∃ x, (192 + l[k].toNat / 64).toUInt8 = x := ⟨_, rfl⟩
        obtain ⟨x2, hx2⟩ : ∃ x, (128 + l[k].toNat % 64).toUInt8 = x := ⟨_, rfl⟩
        have hw := Lib.hid (show wide1 l[k] = [x1, x2] by unfold wide1; rw [if_neg h, hx1, hx2])
        have q1 : 192 + (l[k].toNat : Int) / 64 = (x1.toNat : Int) := by rw [← hx1]; simp; omega
        have q2 : 128 + (l[k].toNat : Int) % 64 = (x2.toNat : Int) := by rw [← hx2]; simp; omega
        have hcv := fun wx : World => run_conv_two (P := Try.prog) (src := 35) (dst := 9) (e := 5) Try.underlying35 Try.underlying5 Try.underlying9 x1 x2 wx
        rw [← q1, ← q2] at hcv
        clear q1 q2 hx1 hx2
        go_wp2
        go_roundw
        case rel => exact ⟨k + 1, by go_num, by omega, by rw [HT.out, hw.out], HFR.out.alloc _⟩
        case measure => simp [intOf]; omega
    · obtain rfl : k = l.length := by omega
      have HT := Lib.hid (List.take_of_length_le (l := l) (Nat.le_refl _))
      rw [HT.out]
      go_wp2
      go_ret
      exact ⟨rfl, HFR.out⟩

end Go.Proofs.Ythkleolkkgichaa
