/-
  OctetLaws: of any sets what isn't in both is not in the one or not in the other; both and either have together as many bytes as the two. For every input; no condition.
-/
import Derived.Test.YthkleolkkgichaaAwake1
import Derived.Test.YthkleolkkgichaaClaimB
import Derived.Test.YthkleolkkgichaaRows
namespace Go.Proofs.Ythkleolkkgichaa
open Go.RowKit

theorem and_lit (s t : S4) (w : World) : Calls Try.prog 19 #[setV s, setV t] w fun e w' => e = .returned (setV (s.and t)) ∧ Fr nob w w' := and_any s t w
theorem or_lit (s t : S4) (w : World) : Calls Try.prog 22 #[setV s, setV t] w fun e w' => e = .returned (setV (s.or t)) ∧ Fr nob w w' := or_any s t w
theorem not_lit (s : S4) (w : World) : Calls Try.prog 18 #[setV s] w fun e w' => e = .returned (setV s.not) ∧ Fr nob w w' := not_any s w
theorem same_mk (a b c d : Int) : S4.same ⟨a, b, c, d⟩ ⟨a, b, c, d⟩ = true := S4.same_refl _

set_option maxRecDepth 100000 in
set_option maxHeartbeats 1000000 in
theorem lawLaws (s t : S4) (w : World) (hs : s.fit) (ht : t.fit) :
    Calls Try.prog 8 #[setV s, setV t] w fun e w' => e = .returned (.bool true) ∧ Fr nob w w' := by
  go_enter Try.func8, Try.ntmps8
  go_wp2_with fail
  refine (awake1_any _).mono ?_
  rintro e w1 ⟨rfl, f1⟩
  have hA := f1.heap (heap_alloc_lt (.cells #[.int .u64 t.a, .int .u64 t.b, .int .u64 t.c, .int .u64 t.d] 28) (heap_alloc_new w (.cells #[.int .u64 s.a, .int .u64 s.b, .int .u64 s.c, .int .u64 s.d] 28))) (fun x => x)
  have hB := f1.heap (heap_alloc_new' (w.alloc (.cells #[.int .u64 s.a, .int .u64 s.b, .int .u64 s.c, .int .u64 s.d] 28)) (.cells #[.int .u64 t.a, .int .u64 t.b, .int .u64 t.c, .int .u64 t.d] 28) (w.heap.size + 1) (by simp)) (fun x => x)
  have rA := rule4 hA _ (Fr.refl _ _)
  have rB := rule4 hB _ (Fr.refl _ _)
  have lA := lt_heap hA; have lB := lt_heap hB
  have F1 := Lib.hid ((((Fr.refl nob w).alloc (.cells #[.int .u64 s.a, .int .u64 s.b, .int .u64 s.c, .int .u64 s.d] 28)).alloc (.cells #[.int .u64 t.a, .int .u64 t.b, .int .u64 t.c, .int .u64 t.d] 28)).trans' f1)
  clear hA hB f1
  go_wp2_with fail
  go_cut [5, 6] (fun v5 v6 w' => ∃ b5 b6, v5 = .pointer (some ⟨b5, 0, none⟩) ∧ v6 = .pointer (some ⟨b6, 0, none⟩) ∧ w'.heap[b5]? = some (.cells #[.int .u64 s.a, .int .u64 s.b, .int .u64 s.c, .int .u64 s.d] 25 (0, 0)) ∧ w'.heap[b6]? = some (.cells #[.int .u64 t.a, .int .u64 t.b, .int .u64 t.c, .int .u64 t.d] 25 (0, 0)) ∧ Fr nob w w')
  case first =>
    go_region
    all_goals
      go_wp2
      go_meet
      case rel =>
        refine ⟨_, _, rfl, rfl, ?_, ?_, ((F1.out.alloc _).alloc _).drew⟩ <;> first | (with_reducible exact two_new_a _ _ _) | (with_reducible exact two_new_b _ _ _)
  case rest =>
    obtain ⟨b5, b6, rfl, rfl, h5, h6, f⟩ := hcut
    have r5 := rule4 h5; have r6 := rule4 h6
    have l5 := lt_heap h5; have l6 := lt_heap h6
    have F := Lib.hid f
    clear h5 h6 f rA rB lA lB
    obtain ⟨sa, hsa⟩ : ∃ x, s.and t = x := ⟨_, rfl⟩
    obtain ⟨so, hso⟩ : ∃ x, s.or t = x := ⟨_, rfl⟩
    obtain ⟨n1, hn1⟩ : ∃ x, s.not = x := ⟨_, rfl⟩
    obtain ⟨n2, hn2⟩ : ∃ x, t.not = x := ⟨_, rfl⟩
    obtain ⟨na, hna⟩ : ∃ x, sa.not = x := ⟨_, rfl⟩
    obtain ⟨k1, hk1⟩ : ∃ x, sa.len = x := ⟨_, rfl⟩
    obtain ⟨k2, hk2⟩ : ∃ x, so.len = x := ⟨_, rfl⟩
    obtain ⟨k3, hk3⟩ : ∃ x, s.len = x := ⟨_, rfl⟩
    obtain ⟨k4, hk4⟩ : ∃ x, t.len = x := ⟨_, rfl⟩
    obtain ⟨k5, hk5⟩ : ∃ x, n1.len = x := ⟨_, rfl⟩
    have fa : sa.fit := by rw [← hsa]; exact fit_and _ _
    have fo : so.fit := by rw [← hso]; exact fit_or _ _
    have fn : n1.fit := by rw [← hn1]; exact fit_not _
    have e1 : n1.or n2 = na := by rw [← hn1, ← hn2, ← hna, ← hsa]; exact (S4.not_and s t).symm
    have e2 : t.and s = sa := by rw [← hsa]; exact S4.and_comm _ _
    have e3 : t.or s = so := by rw [← hso]; exact S4.or_comm _ _
    have e4 : k1 + k2 = k3 + k4 := by rw [← hk1, ← hk2, ← hk3, ← hk4, ← hsa, ← hso]; exact len_and_or hs ht
    have e5 : k5 + k3 = 256 := by rw [← hk5, ← hk3, ← hn1]; exact len_not hs
    have m1 : k1 ≤ 256 := by rw [← hk1]; exact len_le fa
    have m2 : k2 ≤ 256 := by rw [← hk2]; exact len_le fo
    have m3 : k3 ≤ 256 := by rw [← hk3]; exact len_le hs
    have m4 : k4 ≤ 256 := by rw [← hk4]; exact len_le ht
    have c1 := fun w => and_lit s t w; rw [hsa] at c1
    have c2 := fun w => and_lit t s w; rw [e2] at c2
    have c3 := fun w => or_lit s t w; rw [hso] at c3
    have c4 := fun w => or_lit t s w; rw [e3] at c4
    have c5 := fun w => not_lit s w; rw [hn1] at c5
    have c6 := fun w => not_lit t w; rw [hn2] at c6
    have c7 := fun w => not_lit sa w; rw [hna] at c7
    have c8 := fun w => or_lit n1 n2 w; rw [e1] at c8
    have d1 := fun w => len_lit sa w fa; rw [hk1] at d1
    have d2 := fun w => len_lit so w fo; rw [hk2] at d2
    have d3 := fun w => len_lit s w hs; rw [hk3] at d3
    have d4 := fun w => len_lit t w ht; rw [hk4] at d4
    have d5 := fun w => len_lit n1 w fn; rw [hk5] at d5
    have C1 := Lib.hid c1; have C2 := Lib.hid c2; have C3 := Lib.hid c3; have C4 := Lib.hid c4; have C5 := Lib.hid c5; have C6 := Lib.hid c6; have C7 := Lib.hid c7; have C8 := Lib.hid c8
    have D1 := Lib.hid d1; have D2 := Lib.hid d2; have D3 := Lib.hid d3; have D4 := Lib.hid d4; have D5 := Lib.hid d5
    have q1 : IntKind.i64.wrap ((k1 : Int) + k2) = (k1 : Int) + k2 := IntWalk.i64_in _ (by omega)
    have q2 : IntKind.i64.wrap ((k3 : Int) + k4) = (k3 : Int) + k4 := IntWalk.i64_in _ (by omega)
    have q3 : IntKind.i64.wrap (256 - (k3 : Int)) = 256 - (k3 : Int) := IntWalk.i64_in _ (by omega)
    have t1 : (((k1 : Int) + k2) == ((k3 : Int) + k4)) = true := by simp; omega
    have t2 : ((k5 : Int) == (256 - (k3 : Int))) = true := by simp; omega
    have t3 := same_mk
    clear hsa hso hn1 hn2 hna hk1 hk2 hk3 hk4 hk5 fa fo fn e1 e2 e3 e4 e5 c1 c2 c3 c4 c5 c6 c7 c8 d1 d2 d3 d4 d5 hs ht m1 m2 m3 m4
    go_wp2_with fail
    refine region_fr 54 (by kernel_rfl) (by kernel_rfl) ?_
    simp only [List.take_succ_cons, List.take_zero, List.drop_succ_cons, List.drop_zero]
    repeat (quiet_step ((first | (with_reducible exact calls_fr (C1.out _)) | (with_reducible exact calls_fr (C2.out _)) | (with_reducible exact calls_fr (C3.out _)) | (with_reducible exact calls_fr (C4.out _)) | (with_reducible exact calls_fr (C5.out _)) | (with_reducible exact calls_fr (C6.out _)) | (with_reducible exact calls_fr (C7.out _)) | (with_reducible exact calls_fr (C8.out _)) | (with_reducible exact calls_fr (D1.out _)) | (with_reducible exact calls_fr (D2.out _)) | (with_reducible exact calls_fr (D3.out _)) | (with_reducible exact calls_fr (D4.out _)) | (with_reducible exact calls_fr (D5.out _)))))
    refine wpQuiet_nil ?_
    intro wC fC
    go_wp2
    go_ret
    exact ⟨rfl, F.out.trans' fC⟩

namespace octetLaws
open Go.ChangeShapes Go.WideShapes Go.ChangeAt Go.RowKit
open Go.ChangeMaps (open_string shut_string)

theorem own : ownKnob Try.prog.godebug = none := by kernel_rfl
theorem laidOut : laidOutB Try.prog = true := by kernel_rfl

theorem readable : ∀ t ∈ Try.f8.params.toList, Try.prog.readableRec t = true ∧ t < Try.prog.types.size := by
  rw [Try.params8]
  intro t ht
  simp only [List.mem_cons, List.not_mem_nil, or_false] at ht
  rcases ht with rfl | rfl
  all_goals exact ⟨by kernel_rfl, of_decide_eq_true (by kernel_rfl)⟩

set_option maxRecDepth 100000 in
theorem lifted (os : Os) (started : os.Started) (H : Type) (enc : TypeId × Value → H) :
    ReturnsInHanded {} Try.checked os 8 .any (Rows.octetLawsSpec.pre6 enc Try.prog Try.f8 Rows.octetLawsRow.domain false) (Rows.octetLawsSpec.post enc Try.prog Try.f8 false true false false) := by
  refine returnsInHanded_of_change (C := Try.checked) own started (by kernel_rfl) Try.func8
    (ChangeSpec.witness6 (enc := enc) (C := Try.checked) false ⟨#[], #[.agg #[.int .u64 0, .int .u64 0, .int .u64 0, .int .u64 0], .agg #[.int .u64 0, .int .u64 0, .int .u64 0, .int .u64 0]], []⟩ 8 (by kernel_rfl) (by kernel_rfl) (by kernel_rfl) (by kernel_rfl)) ?_
  intro W base args ds gs before hval0 hW hcnd _
  have hval : ∀ (j : Nat) t v, Try.f8.params[j]? = some t → args[j]? = some v → Value.okWide Try.prog W .any base t v := hval0
  have hW' : DataW.Whole enc Try.prog Try.f8.params.toList Rows.octetLawsSpec.vars false W args.toList ds gs before := hW
  obtain ⟨p, q, hA0, hV, rfl, hfz, hnd⟩ := hW
  have hA : DataW.TrodAll enc Try.prog W 0 (fun _ => true) true Try.f8.params.toList args.toList ds p := hA0
  rw [Try.params8] at hA hval
  obtain ⟨v0, vs0, d0, ds0, p0, q0, hargs, rfl, rfl, h0, r0⟩ := trodAll_cons hA
  obtain ⟨v1, vs1, d1, ds1, p1, q1, rfl, rfl, rfl, h1, r1⟩ := trodAll_cons r0
  obtain ⟨rfl, rfl, rfl⟩ := trodAll_nil r1
  obtain rfl : args = #[v0, v1] := by cases args; simp_all
  obtain ⟨rfl, rfl⟩ := trodVars_none hV
  obtain ⟨zs0, hz0, rfl, hw0⟩ := open_iarr Try.underlying28 Try.underlying23 (by kernel_rfl) (by kernel_rfl) (hval 0 28 v0 rfl rfl) h0
  obtain ⟨a0, b0, c0, e0, rfl⟩ := list4_of hz0
  have hf0 : (S4.mk a0 b0 c0 e0).fit := ⟨fit_of_wf (hw0 _ (by simp)), fit_of_wf (hw0 _ (by simp)), fit_of_wf (hw0 _ (by simp)), fit_of_wf (hw0 _ (by simp))⟩
  obtain ⟨zs1, hz1, rfl, hw1⟩ := open_iarr Try.underlying28 Try.underlying23 (by kernel_rfl) (by kernel_rfl) (hval 1 28 v1 rfl rfl) h1
  obtain ⟨a1, b1, c1, e1, rfl⟩ := list4_of hz1
  have hf1 : (S4.mk a1 b1 c1 e1).fit := ⟨fit_of_wf (hw1 _ (by simp)), fit_of_wf (hw1 _ (by simp)), fit_of_wf (hw1 _ (by simp)), fit_of_wf (hw1 _ (by simp))⟩
  refine (show Calls Try.prog 8 #[.agg #[.int .u64 a0, .int .u64 b0, .int .u64 c0, .int .u64 e0], .agg #[.int .u64 a1, .int .u64 b1, .int .u64 c1, .int .u64 e1]] W _ from ?_).mono fun e W' h => h
  refine (lawLaws ⟨a0, b0, c0, e0⟩ ⟨a1, b1, c1, e1⟩ W hf0 hf1).mono fun e W' ⟨he, hg⟩ => ?_
  subst he
  exact ⟨_, rfl, law_post rfl (by kernel_rfl) Try.underlying4 laidOut readable rfl hW' hg.below⟩

theorem over : Rows.octetLawsRow.holds Try.pinned (OpenSpec.ofChange Rows.octetLawsSpec) :=
  OpenClaim.holds_of_wide 8 Try.f8 rfl rfl rfl rfl rfl rfl rfl ⟨rfl, rfl, rfl, rfl, rfl⟩ rfl rfl rfl rfl rfl (by kernel_rfl) Try.func8 (by kernel_rfl)
    (of_decide_eq_true (by kernel_rfl)) (by unfold Func.isWrapper; first | (rw [if_pos (by decide +kernel)]; kernel_rfl) | (rw [if_neg (by decide +kernel)]; exact ⟨rfl, rfl⟩))
    (fun os started H enc _ => lifted os started H enc)

/-- THE STATEMENT. -/
theorem proved : Rows.OctetLawsSaid := over
#print axioms proved
end octetLaws

end Go.Proofs.Ythkleolkkgichaa
