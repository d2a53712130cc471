/-
  OctetSets: of any sets and any byte each call answers as the document says. For every input; no condition.
-/
import Derived.Test.YthkleolkkgichaaLawLaws
namespace Go.Proofs.Ythkleolkkgichaa
open Go.RowKit

theorem hasR_lit (s : S4) (d : Nat) (w : World) (hs : s.fit) (hd : d < 256) : Calls Try.prog 20 #[setV s, .int .u8 d] w fun e w' => e = .returned (.bool (s.has d)) ∧ Fr nob w w' := hasR_any s d w hs hd
theorem lenR_lit (s : S4) (w : World) (hs : s.fit) : Calls Try.prog 26 #[setV s] w fun e w' => e = .returned (.int .i64 s.len) ∧ Fr nob w w' := lenR_any s w hs
theorem withR_lit (s : S4) (d : Nat) (w : World) (hd : d < 256) : Calls Try.prog 27 #[setV s, .int .u8 d] w fun e w' => e = .returned (setV (s.put d)) ∧ Fr nob w w' := withR_any s d w hd

set_option maxRecDepth 100000 in
set_option maxHeartbeats 4000000 in
theorem lawSets (s t : S4) (c : UInt8) (w : World) (hs : s.fit) (ht : t.fit) :
    Calls Try.prog 7 #[setV s, setV t, .int .u8 (c.toNat : Int)] w fun e w' => e = .returned (.bool true) ∧ Fr nob w w' := by
  go_enter Try.func7, Try.ntmps7
  go_wp2_with fail
  refine (awake1_any _).mono ?_
  rintro e w1 ⟨rfl, f1⟩
  have hA := f1.heap (heap_alloc_lt (.cells #[.int .u64 t.a, .int .u64 t.b, .int .u64 t.c, .int .u64 t.d] 28) (heap_alloc_new w (.cells #[.int .u64 s.a, .int .u64 s.b, .int .u64 s.c, .int .u64 s.d] 28))) (fun x => x)
  have hB := f1.heap (heap_alloc_new' (w.alloc (.cells #[.int .u64 s.a, .int .u64 s.b, .int .u64 s.c, .int .u64 s.d] 28)) (.cells #[.int .u64 t.a, .int .u64 t.b, .int .u64 t.c, .int .u64 t.d] 28) (w.heap.size + 1) (by simp)) (fun x => x)
  have rA := rule4 hA _ (Fr.refl _ _)
  have rB := rule4 hB _ (Fr.refl _ _)
  have lA := lt_heap hA; have lB := lt_heap hB
  have F1 := Lib.hid ((((Fr.refl nob w).alloc (.cells #[.int .u64 s.a, .int .u64 s.b, .int .u64 s.c, .int .u64 s.d] 28)).alloc (.cells #[.int .u64 t.a, .int .u64 t.b, .int .u64 t.c, .int .u64 t.d] 28)).trans' f1)
  have HA' := Lib.hid hA; have HB' := Lib.hid hB
  clear hA hB f1
  go_wp2_with fail
  go_cut [7, 8] (fun v5 v6 w' => ∃ b5 b6, v5 = .pointer (some ⟨b5, 0, none⟩) ∧ v6 = .pointer (some ⟨b6, 0, none⟩) ∧ w'.heap[b5]? = some (.cells #[.int .u64 s.a, .int .u64 s.b, .int .u64 s.c, .int .u64 s.d] 25 (0, 0)) ∧ w'.heap[b6]? = some (.cells #[.int .u64 t.a, .int .u64 t.b, .int .u64 t.c, .int .u64 t.d] 25 (0, 0)) ∧ Fr nob w1 w')
  case first =>
    go_region
    all_goals
      go_wp2
      go_meet
      case rel =>
        refine ⟨_, _, rfl, rfl, ?_, ?_, (((Fr.refl nob w1).alloc _).alloc _).drew⟩ <;> first | (with_reducible exact two_new_a _ _ _) | (with_reducible exact two_new_b _ _ _)
  case rest =>
    obtain ⟨b5, b6, rfl, rfl, h5, h6, f⟩ := hcut
    have r5 := rule4 h5; have r6 := rule4 h6
    have l5 := lt_heap h5; have l6 := lt_heap h6
    have F := Lib.hid f
    clear rA rB lA lB
    have hA := f.heap HA'.out (fun x => x)
    have hB := f.heap HB'.out (fun x => x)
    have r3 := rule4 hA; have r4 := rule4 hB
    have l3 := lt_heap hA; have l4 := lt_heap hB
    have F := Lib.hid (F1.out.trans' f)
    clear h5 h6 f hA hB HA' HB'
    obtain ⟨sa, hsa⟩ : ∃ x, s.and t = x := ⟨_, rfl⟩
    obtain ⟨so, hso⟩ : ∃ x, s.or t = x := ⟨_, rfl⟩
    obtain ⟨n1, hn1⟩ : ∃ x, s.not = x := ⟨_, rfl⟩
    obtain ⟨k3, hk3⟩ : ∃ x, s.len = x := ⟨_, rfl⟩
    obtain ⟨b, hb⟩ : ∃ x, s.has c.toNat = x := ⟨_, rfl⟩
    obtain ⟨z1, hz1⟩ : ∃ x, S4.zero.puts [c] = x := ⟨_, rfl⟩
    obtain ⟨sp, hsp⟩ : ∃ x, s.put c.toNat = x := ⟨_, rfl⟩
    have e1 : z1.or s = sp := by rw [← hz1, ← hsp]; exact S4.put_or hs c.toNat_lt
    have c1 := fun w => and_lit s t w; rw [hsa] at c1
    have c2 := fun w => andR_lit s t w; rw [hsa] at c2
    have c3 := fun w => or_lit s t w; rw [hso] at c3
    have c4 := fun w => orR_lit s t w; rw [hso] at c4
    have c5 := fun w => not_lit s w; rw [hn1] at c5
    have c6 := fun w => notR_lit s w; rw [hn1] at c6
    have c7 := fun w => len_lit s w hs; rw [hk3] at c7
    have c8 := fun w => lenR_lit s w hs; rw [hk3] at c8
    have d1 := fun w => has_lit s c.toNat w hs c.toNat_lt; rw [hb] at d1
    have d2 := fun w => hasR_lit s c.toNat w hs c.toNat_lt; rw [hb] at d2
    have d3 := fun w => of_lit [c] _ _ (by simp) (SB_new1 w c 5); rw [hz1] at d3
    have d4 := fun w => or_lit z1 s w; rw [e1] at d4
    have d5 := fun w => withR_lit s c.toNat w c.toNat_lt; rw [hsp] at d5
    have C1 := Lib.hid c1; have C2 := Lib.hid c2; have C3 := Lib.hid c3; have C4 := Lib.hid c4; have C5 := Lib.hid c5; have C6 := Lib.hid c6; have C7 := Lib.hid c7; have C8 := Lib.hid c8
    have D1 := Lib.hid d1; have D2 := Lib.hid d2; have D3 := Lib.hid d3; have D4 := Lib.hid d4; have D5 := Lib.hid d5
    have t3 := same_mk
    have t4 : ((k3 : Int) == (k3 : Int)) = true := by simp
    have t5 : (b == b) = true := by simp
    clear hsa hso hn1 hk3 hb hz1 hsp e1 c1 c2 c3 c4 c5 c6 c7 c8 d1 d2 d3 d4 d5 hs ht
    go_wp2_with fail
    go_region_held3 (fun w' => Fr nob wc w') (repeat (first | (with_reducible exact Fr.refl _ _) | (with_reducible assumption) | (with_reducible refine Fr.drew ?_) | (with_reducible refine Fr.alloc ?_ _) | (with_reducible refine Fr.trans' ?_ (by with_reducible assumption)))) (first | ((with_reducible refine (C1.out _).mono ?_); rintro e w5 ⟨rfl, f5⟩) | ((with_reducible refine (C2.out _).mono ?_); rintro e w5 ⟨rfl, f5⟩) | ((with_reducible refine (C3.out _).mono ?_); rintro e w5 ⟨rfl, f5⟩) | ((with_reducible refine (C4.out _).mono ?_); rintro e w5 ⟨rfl, f5⟩) | ((with_reducible refine (C5.out _).mono ?_); rintro e w5 ⟨rfl, f5⟩) | ((with_reducible refine (C6.out _).mono ?_); rintro e w5 ⟨rfl, f5⟩) | ((with_reducible refine (C7.out _).mono ?_); rintro e w5 ⟨rfl, f5⟩) | ((with_reducible refine (C8.out _).mono ?_); rintro e w5 ⟨rfl, f5⟩) | ((with_reducible refine (D1.out _).mono ?_); rintro e w5 ⟨rfl, f5⟩) | ((with_reducible refine (D2.out _).mono ?_); rintro e w5 ⟨rfl, f5⟩) | ((with_reducible refine (D3.out _).mono ?_); rintro e w5 ⟨rfl, f5⟩) | ((with_reducible refine (D4.out _).mono ?_); rintro e w5 ⟨rfl, f5⟩) | ((with_reducible refine (D5.out _).mono ?_); rintro e w5 ⟨rfl, f5⟩))
    all_goals
      go_wp2
      go_ret
      refine ⟨rfl, F.out.trans' ?_⟩
      repeat (first | (with_reducible exact Fr.refl _ _) | (with_reducible assumption) | (with_reducible refine Fr.drew ?_) | (with_reducible refine Fr.alloc ?_ _) | (with_reducible refine Fr.trans' ?_ (by with_reducible assumption)))

namespace octetSets
open Go.ChangeShapes Go.WideShapes Go.ChangeAt Go.RowKit
open Go.ChangeMaps (open_string shut_string)

theorem own : ownKnob Try.prog.godebug = none := by kernel_rfl
theorem laidOut : laidOutB Try.prog = true := by kernel_rfl

theorem readable : ∀ t ∈ Try.f7.params.toList, Try.prog.readableRec t = true ∧ t < Try.prog.types.size := by
  rw [Try.params7]
  intro t ht
  simp only [List.mem_cons, List.not_mem_nil, or_false] at ht
  rcases ht with rfl | rfl | rfl
  all_goals exact ⟨by kernel_rfl, of_decide_eq_true (by kernel_rfl)⟩

set_option maxRecDepth 100000 in
theorem lifted (os : Os) (started : os.Started) (H : Type) (enc : TypeId × Value → H) :
    ReturnsInHanded {} Try.checked os 7 .any (Rows.octetSetsSpec.pre6 enc Try.prog Try.f7 Rows.octetSetsRow.domain false) (Rows.octetSetsSpec.post enc Try.prog Try.f7 false true false false) := by
  refine returnsInHanded_of_change (C := Try.checked) own started (by kernel_rfl) Try.func7
    (ChangeSpec.witness6 (enc := enc) (C := Try.checked) false ⟨#[], #[.agg #[.int .u64 0, .int .u64 0, .int .u64 0, .int .u64 0], .agg #[.int .u64 0, .int .u64 0, .int .u64 0, .int .u64 0], .int .u8 0], []⟩ 8 (by kernel_rfl) (by kernel_rfl) (by kernel_rfl) (by kernel_rfl)) ?_
  intro W base args ds gs before hval0 hW hcnd _
  have hval : ∀ (j : Nat) t v, Try.f7.params[j]? = some t → args[j]? = some v → Value.okWide Try.prog W .any base t v := hval0
  have hW' : DataW.Whole enc Try.prog Try.f7.params.toList Rows.octetSetsSpec.vars false W args.toList ds gs before := hW
  obtain ⟨p, q, hA0, hV, rfl, hfz, hnd⟩ := hW
  have hA : DataW.TrodAll enc Try.prog W 0 (fun _ => true) true Try.f7.params.toList args.toList ds p := hA0
  rw [Try.params7] at hA hval
  obtain ⟨v0, vs0, d0, ds0, p0, q0, hargs, rfl, rfl, h0, r0⟩ := trodAll_cons hA
  obtain ⟨v1, vs1, d1, ds1, p1, q1, rfl, rfl, rfl, h1, r1⟩ := trodAll_cons r0
  obtain ⟨v2, vs2, d2, ds2, p2, q2, rfl, rfl, rfl, h2, r2⟩ := trodAll_cons r1
  obtain ⟨rfl, rfl, rfl⟩ := trodAll_nil r2
  obtain rfl : args = #[v0, v1, v2] := by cases args; simp_all
  obtain ⟨rfl, rfl⟩ := trodVars_none hV
  obtain ⟨zs0, hz0, rfl, hw0⟩ := open_iarr Try.underlying28 Try.underlying23 (by kernel_rfl) (by kernel_rfl) (hval 0 28 v0 rfl rfl) h0
  obtain ⟨a0, b0, c0, e0, rfl⟩ := list4_of hz0
  have hf0 : (S4.mk a0 b0 c0 e0).fit := ⟨fit_of_wf (hw0 _ (by simp)), fit_of_wf (hw0 _ (by simp)), fit_of_wf (hw0 _ (by simp)), fit_of_wf (hw0 _ (by simp))⟩
  obtain ⟨zs1, hz1, rfl, hw1⟩ := open_iarr Try.underlying28 Try.underlying23 (by kernel_rfl) (by kernel_rfl) (hval 1 28 v1 rfl rfl) h1
  obtain ⟨a1, b1, c1, e1, rfl⟩ := list4_of hz1
  have hf1 : (S4.mk a1 b1 c1 e1).fit := ⟨fit_of_wf (hw1 _ (by simp)), fit_of_wf (hw1 _ (by simp)), fit_of_wf (hw1 _ (by simp)), fit_of_wf (hw1 _ (by simp))⟩
  obtain ⟨x2, rfl, _, _, wx2⟩ := open_int Try.underlying5 (hval 2 5 v2 rfl rfl) h2
  obtain ⟨c2, hc2⟩ : ∃ c : UInt8, (c.toNat : Int) = x2 := ⟨_, byte_of_wf wx2⟩
  subst hc2
  refine (show Calls Try.prog 7 #[.agg #[.int .u64 a0, .int .u64 b0, .int .u64 c0, .int .u64 e0], .agg #[.int .u64 a1, .int .u64 b1, .int .u64 c1, .int .u64 e1], .int .u8 (c2.toNat : Int)] W _ from ?_).mono fun e W' h => h
  refine (lawSets ⟨a0, b0, c0, e0⟩ ⟨a1, b1, c1, e1⟩ c2 W hf0 hf1).mono fun e W' ⟨he, hg⟩ => ?_
  subst he
  exact ⟨_, rfl, law_post rfl (by kernel_rfl) Try.underlying4 laidOut readable rfl hW' hg.below⟩

theorem over : Rows.octetSetsRow.holds Try.pinned (OpenSpec.ofChange Rows.octetSetsSpec) :=
  OpenClaim.holds_of_wide 7 Try.f7 rfl rfl rfl rfl rfl rfl rfl ⟨rfl, rfl, rfl, rfl, rfl⟩ rfl rfl rfl rfl rfl (by kernel_rfl) Try.func7 (by kernel_rfl)
    (of_decide_eq_true (by kernel_rfl)) (by unfold Func.isWrapper; first | (rw [if_pos (by decide +kernel)]; kernel_rfl) | (rw [if_neg (by decide +kernel)]; exact ⟨rfl, rfl⟩))
    (fun os started H enc _ => lifted os started H enc)

/-- THE STATEMENT. -/
theorem proved : Rows.OctetSetsSaid := over
#print axioms proved
end octetSets

end Go.Proofs.Ythkleolkkgichaa
