/-
  OctetWides: any bytes as signs, and back, are they; the signs are as many as the bytes, of the same numbers. For every input; no condition.
-/
import Derived.Test.YthkleolkkgichaaAwake1
import Derived.Test.YthkleolkkgichaaOctetX
import Derived.Test.YthkleolkkgichaaClaim
import Derived.Test.YthkleolkkgichaaRows
namespace Go.Proofs.Ythkleolkkgichaa
open Go.RowKit

theorem eq_bytes2 (l : List UInt8) : (l == l) = true := by simp
theorem nar_wide_all (l : List UInt8) : nar (wide l) ((wide l).length + 1) 0 [] = some l := by
  have := nar_wide l l.length 0 ((wide l).length + 1) (by omega) (by have := (wide_le l).2; omega)
  simpa [wide] using this

set_option maxRecDepth 100000 in
set_option maxHeartbeats 1000000 in
theorem lawWides (l : List UInt8) (w : World) (hl : l.length ≤ 9223372036854775807) :
    Calls Try.prog 4 #[.string ⟨l.toArray⟩] w fun e w' => e = .returned (.bool true) ∧ Fr nob w w' := by
  by_cases hlen : l.length ≤ 500
  · have h50 : ¬ (500 : Int) < l.length := by omega
    have hwl := (wide_le l).1
    go_enter Try.func4, Try.ntmps4
    go_wp2_with fail
    refine (awake1_any _).mono ?_
    rintro e w1 ⟨rfl, f1⟩
    go_wp2_with fail
    refine (wide_any l _ (by omega)).mono ?_
    rintro e w2 ⟨rfl, f2⟩
    go_wp2_with fail
    refine (narrow_any (wide l) _ (by omega)).mono ?_
    rw [nar_wide_all]
    unfold narV
    rintro e w3 ⟨rfl, f3⟩
    simp only [Option.getD_some, Option.isSome_some]
    obtain ⟨x, hx⟩ : ∃ x, wide l = x := ⟨_, rfl⟩
    rw [hx] at hwl ⊢
    have HX := Lib.hid hx; clear hx
    have F := Lib.hid (f1.trans' (f2.trans' f3)); clear f1 f2 f3
    go_wp2_with fail
    go_loopg [6] (l.length + 1) (fun n v wr => ∃ k : Nat, v = .int .i64 k ∧ k ≤ l.length ∧ l.length < n + k ∧ wr.heap[w3.heap.size]? = some (.stringIter ⟨x.toArray⟩ (wide (l.take k)).length) ∧ Fr nob w wr)
    case atStart => exact ⟨0, rfl, Nat.zero_le _, by omega, heap_alloc_new _ _, F.out.alloc _⟩
    case round =>
      obtain ⟨k, rfl, hk, hn, hit, hfr⟩ := hrel
      obtain ⟨m, rfl⟩ : ∃ m, gk = m + 1 := ⟨gk - 1, by omega⟩
      have HI := Lib.hid hit; have HFR := Lib.hid hfr; clear hit hfr
      by_cases hlt : k < l.length
      · have hat : (wide (l.take k)).length < x.length := by rw [← HX.out]; exact wide_at hlt
        have hnx : ∀ ty, (Instr.next (.pointer (some ⟨w3.heap.size, 0, none⟩)) true ty).run Try.prog wr = .ok (.tuple #[.bool true, .int .i64 ((wide (l.take k)).length : Nat), .int .i32 (l[k].toNat : Nat)]) (wr.iterAt w3.heap.size ⟨x.toArray⟩ (wide (l.take (k + 1))).length) := by
          intro ty
          have := Lib.run_next_any_at (P := Try.prog) wr w3.heap.size ⟨x.toArray⟩ (wide (l.take k)).length ty HI.out (by rw [bsize]; exact hat)
          rw [decode_yes hat (by rw [← HX.out]; exact nar1_at hlt)] at this
          rw [wide_take hlt, List.length_append]; exact this
        have hi1 := Lib.iterAt_heap wr w3.heap.size ⟨x.toArray⟩ _ (wide (l.take (k + 1))).length HI.out
        have hlw : w.heap.size ≤ w3.heap.size := F.out.size
        have hf1 : Fr nob w (wr.iterAt w3.heap.size ⟨x.toArray⟩ (wide (l.take (k + 1))).length) := HFR.out.trans (fr_iterAt _ _ _ _) (fun i hi e => by omega)
        have hbd := toNat_bd l[k]
        have t1 : ((l[k].toNat : Int) != (l[k].toNat : Int)) = false := by simp
        obtain ⟨w4, hw⟩ : ∃ w4, wr.iterAt w3.heap.size ⟨x.toArray⟩ (wide (l.take (k + 1))).length = w4 := ⟨_, rfl⟩
        rw [hw] at hnx hi1 hf1
        have HI1 := Lib.hid hi1; have HF1 := Lib.hid hf1
        clear hw hi1 hf1 hat
        go_wp2
        go_roundg m
        case measure => omega
        case rel => exact ⟨k + 1, by go_num, by omega, by omega, HI1.out, HF1.out⟩
      · obtain rfl : k = l.length := by omega
        have hT : (wide (l.take l.length)).length = x.length := by rw [List.take_of_length_le (Nat.le_refl _), HX.out]
        have hnx : ∀ ty, (Instr.next (.pointer (some ⟨w3.heap.size, 0, none⟩)) true ty).run Try.prog wr = .ok (.tuple #[.bool false]) wr := by
          intro ty
          exact Lib.run_next_end_at (P := Try.prog) wr w3.heap.size ⟨x.toArray⟩ _ ty HI.out (by rw [bsize, hT]; omega)
        clear hT
        have e1 := eq_bytes2 x; have e2 := eq_bytes2 l
        have e3 : ((l.length : Int) == (l.length : Int)) = true := by simp
        go_wp2_with fail
        refine (wideR_any l _ (by omega)).mono ?_
        rw [HX.out]
        rintro e w5 ⟨rfl, f5⟩
        go_wp2
        go_ret
        exact ⟨by simp, HFR.out.trans' f5⟩
  · have h50 : (500 : Int) < l.length := by omega
    go_enter Try.func4, Try.ntmps4
    go_wp2_with fail
    refine (awake1_any _).mono ?_
    rintro e w1 ⟨rfl, f1⟩
    go_wp2_with fail
    refine (awake1_any _).mono ?_
    rintro e w2 ⟨rfl, f2⟩
    go_wp2
    go_ret
    exact ⟨rfl, f1.trans' f2⟩

namespace octetWides
open Go.ChangeShapes Go.WideShapes Go.ChangeAt Go.RowKit
open Go.ChangeMaps (open_string shut_string)

theorem own : ownKnob Try.prog.godebug = none := by kernel_rfl
theorem laidOut : laidOutB Try.prog = true := by kernel_rfl

theorem readable : ∀ t ∈ Try.f4.params.toList, Try.prog.readableRec t = true ∧ t < Try.prog.types.size := by
  rw [Try.params4]
  intro t ht
  simp only [List.mem_cons, List.not_mem_nil, or_false] at ht
  subst ht
  exact ⟨by kernel_rfl, of_decide_eq_true (by kernel_rfl)⟩

set_option maxRecDepth 100000 in
theorem lifted (os : Os) (started : os.Started) (H : Type) (enc : TypeId × Value → H) :
    ReturnsInHanded {} Try.checked os 4 .any (Rows.octetWidesSpec.pre6 enc Try.prog Try.f4 Rows.octetWidesRow.domain false) (Rows.octetWidesSpec.post enc Try.prog Try.f4 false true false false) := by
  refine returnsInHanded_of_change (C := Try.checked) own started (by kernel_rfl) Try.func4
    (ChangeSpec.witness6 (enc := enc) (C := Try.checked) false ⟨#[], #[.string ByteArray.empty], []⟩ 8 (by kernel_rfl) (by kernel_rfl) (by kernel_rfl) (by kernel_rfl)) ?_
  intro W base args ds gs before hval0 hW hcnd _
  have hval : ∀ (j : Nat) t v, Try.f4.params[j]? = some t → args[j]? = some v → Value.okWide Try.prog W .any base t v := hval0
  have hW' : DataW.Whole enc Try.prog Try.f4.params.toList Rows.octetWidesSpec.vars false W args.toList ds gs before := hW
  obtain ⟨p, q, hA0, hV, rfl, hfz, hnd⟩ := hW
  have hA : DataW.TrodAll enc Try.prog W 0 (fun _ => true) true Try.f4.params.toList args.toList ds p := hA0
  rw [Try.params4] at hA hval
  obtain ⟨v0, vs0, d0, ds0, p0, q0, hargs, rfl, rfl, h0, r0⟩ := trodAll_cons hA
  obtain ⟨rfl, rfl, rfl⟩ := trodAll_nil r0
  obtain rfl : args = #[v0] := by cases args; simp_all
  obtain ⟨rfl, rfl⟩ := trodVars_none hV
  obtain ⟨s0, rfl, _, _, ws0⟩ := open_string Try.underlying9 (hval 0 9 v0 rfl rfl) h0
  have hs0 : s0 = ⟨s0.data.toList.toArray⟩ := by simp
  refine (show Calls Try.prog 4 #[.string s0] W _ from ?_).mono fun e W' h => h
  rw [hs0]
  refine (lawWides s0.data.toList W (by unfold maxLen at ws0; exact ws0)).mono fun e W' ⟨he, hg⟩ => ?_
  subst he
  exact ⟨_, rfl, law_post rfl (by kernel_rfl) Try.underlying4 laidOut readable rfl hW' hg.below⟩

theorem over : Rows.octetWidesRow.holds Try.pinned (OpenSpec.ofChange Rows.octetWidesSpec) :=
  OpenClaim.holds_of_wide 4 Try.f4 rfl rfl rfl rfl rfl rfl rfl ⟨rfl, rfl, rfl, rfl, rfl⟩ rfl rfl rfl rfl rfl (by kernel_rfl) Try.func4 (by kernel_rfl)
    (of_decide_eq_true (by kernel_rfl)) (by unfold Func.isWrapper; first | (rw [if_pos (by decide +kernel)]; kernel_rfl) | (rw [if_neg (by decide +kernel)]; exact ⟨rfl, rfl⟩))
    (fun os started H enc _ => lifted os started H enc)

/-- THE STATEMENT. -/
theorem proved : Rows.OctetWidesSaid := over
#print axioms proved
end octetWides

end Go.Proofs.Ythkleolkkgichaa
