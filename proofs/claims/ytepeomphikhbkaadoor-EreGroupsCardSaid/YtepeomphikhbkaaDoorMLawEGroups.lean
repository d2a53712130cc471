/-
  EreGroups: a regex in a group; two regexes, one or the other. For every two strings; the tables of the library lie as start-up lays them (tied).
-/
import Derived.Test.YtepeomphikhbkaaDoorCards
import Derived.Test.YtepeomphikhbkaaDoorTie
import Derived.Test.YtepeomphikhbkaaDoorM04
import Derived.Test.YtepeomphikhbkaaDoorM22
import Derived.Test.YtepeomphikhbkaaDoorM23
import Derived.Test.YtepeomphikhbkaaDoorM32
import Derived.Test.YtepeomphikhbkaaDoorM36

namespace Go.Proofs.YtepeomphikhbkaaDoor
open Go.RowKit

set_option maxRecDepth 100000 in
set_option maxHeartbeats 4000000 in
theorem lawEreGroups (l r : List UInt8) (w : World) (hl : l.length ≤ maxLen) (hr : r.length ≤ maxLen) (hE : Env w) :
    Calls Tryd.prog 3 #[.string ⟨l.toArray⟩, .string ⟨r.toArray⟩] w fun e w' => e = .returned (.bool true) ∧ Fr nob w w' := by
  unfold maxLen at hl hr
  have HE := Lib.hid hE; clear hE
  have HA1 := Lib.hid (awake5_any w HE.out)
  by_cases h100 : 100 < l.length
  · have h1 : (100 : Int) < l.length := by omega
    go_enter Tryd.func3, Tryd.ntmps3
    go_wp2_with fail
    refine HA1.out.mono ?_
    rintro e w1 ⟨rfl, f1⟩
    have F1 := Lib.hid f1; clear f1
    go_wp2_with fail
    refine (awake5_any w1 (HE.out.on F1.out)).mono ?_
    rintro e w2 ⟨rfl, f2⟩
    have F2 := Lib.hid (F1.out.trans' f2); clear f2
    go_wp2
    go_ret
    exact ⟨rfl, F2.out⟩
  by_cases h200 : 100 < r.length
  · have h1 : ¬ (100 : Int) < l.length := by omega
    have h2 : (100 : Int) < r.length := by omega
    go_enter Tryd.func3, Tryd.ntmps3
    go_wp2_with fail
    refine HA1.out.mono ?_
    rintro e w1 ⟨rfl, f1⟩
    have F1 := Lib.hid f1; clear f1
    go_wp2_with fail
    refine (awake5_any w1 (HE.out.on F1.out)).mono ?_
    rintro e w2 ⟨rfl, f2⟩
    have F2 := Lib.hid (F1.out.trans' f2); clear f2
    go_wp2
    go_ret
    exact ⟨rfl, F2.out⟩
  have h1 : ¬ (100 : Int) < l.length := by omega
  have h2 : ¬ (100 : Int) < r.length := by omega
  have hla : l.length ≤ 100 := by omega
  have hra : r.length ≤ 100 := by omega
  have HLA := Lib.hid hla; have HRA := Lib.hid hra
  clear h100 h200 hl hr hla hra
  have hP := fun w' (f : Fr nob w w') => ere_parse l w' (by have := HLA.out; omega) (HE.out.on f)
  have hQ := fun w' (f : Fr nob w w') => ere_parse r w' (by have := HRA.out; omega) (HE.out.on f)
  cases hp : parseD prg true l with
  | inl z =>
    obtain ⟨z, p⟩ := z
    have hz : (z == 0) = false := by simpa using parseD_err hp
    have hz' : ¬ z = 0 := parseD_err hp
    rw [hp] at hP
    have HP := Lib.hid hP; have HQ := Lib.hid hQ; clear hP hQ hp
    cases hq : parseD prg true r with
    | inl y =>
      obtain ⟨y, q⟩ := y
      have HQ' := Lib.hid (fun w' f => by have := HQ.out w' f; rw [hq] at this; exact this); clear hq
      go_enter Tryd.func3, Tryd.ntmps3
      go_wp2_with fail
      refine HA1.out.mono ?_
      rintro e w1 ⟨rfl, f1⟩
      have F1 := Lib.hid f1; clear f1
      go_wp2_with fail
      refine (HP.out w1 F1.out).mono ?_
      rintro e w2 ⟨f2, rfl⟩
      have F2 := Lib.hid (F1.out.trans' f2); clear f2
      go_wp2_with fail
      refine (HQ'.out w2 F2.out).mono ?_
      rintro e w3 ⟨f3, rfl⟩
      have F3 := Lib.hid (F2.out.trans' f3); clear f3
      go_wp2
      go_ret
      exact ⟨rfl, F3.out⟩
    | inr y =>
      obtain ⟨b, s2⟩ := y
      have HQ' := Lib.hid (fun w' f => by have := HQ.out w' f; rw [hq] at this; exact this); clear hq
      go_enter Tryd.func3, Tryd.ntmps3
      go_wp2_with fail
      refine HA1.out.mono ?_
      rintro e w1 ⟨rfl, f1⟩
      have F1 := Lib.hid f1; clear f1
      go_wp2_with fail
      refine (HP.out w1 F1.out).mono ?_
      rintro e w2 ⟨f2, rfl⟩
      have F2 := Lib.hid (F1.out.trans' f2); clear f2
      go_wp2_with fail
      refine (HQ'.out w2 F2.out).mono ?_
      rintro e w3 ⟨f3, r2, mv2, rfl, rn2, ma2⟩
      have F3 := Lib.hid (F2.out.trans' f3); clear f3 rn2 ma2
      go_wp2
      go_ret
      exact ⟨rfl, F3.out⟩
  | inr z =>
    obtain ⟨a, s1⟩ := z
    rw [hp] at hP
    have HP := Lib.hid hP; clear hP
    cases hq : parseD prg true r with
    | inl y =>
      obtain ⟨y, q⟩ := y
      have hz : (y == 0) = false := by simpa using parseD_err hq
      have hz' : ¬ y = 0 := parseD_err hq
      rw [hq] at hQ
      have HQ := Lib.hid hQ; clear hQ hp hq
      go_enter Tryd.func3, Tryd.ntmps3
      go_wp2_with fail
      refine HA1.out.mono ?_
      rintro e w1 ⟨rfl, f1⟩
      have F1 := Lib.hid f1; clear f1
      go_wp2_with fail
      refine (HP.out w1 F1.out).mono ?_
      rintro e w2 ⟨f2, r1, mv1, rfl, rn1, ma1⟩
      have F2 := Lib.hid (F1.out.trans' f2); clear f2 rn1 ma1
      go_wp2_with fail
      refine (HQ.out w2 F2.out).mono ?_
      rintro e w3 ⟨f3, rfl⟩
      have F3 := Lib.hid (F2.out.trans' f3); clear f3
      go_wp2
      go_ret
      exact ⟨rfl, F3.out⟩
    | inr y =>
      obtain ⟨b, s2⟩ := y
      rw [hq] at hQ
      have HQ := Lib.hid hQ; clear hQ
      obtain ⟨za, na, _⟩ := parseE_size hp
      obtain ⟨zb, nb, _⟩ := parseE_size hq
      have HPA := Lib.hid hp; have HPB := Lib.hid hq; have HZA := Lib.hid za; have HZB := Lib.hid zb; have HNA := Lib.hid na; have HNB := Lib.hid nb
      clear hp hq za zb na nb
      have CB := fun (n : Nd) (hn : n.size ≤ 600) v w' (h : RN nob w' n v) => backs_any n.size n v w' (Nat.le_refl _) (by omega) h
      have HCB := Lib.hid CB; clear CB
      cases hba : a.backs with
      | true =>
        have HCA := Lib.hid (fun v w' (h : RN nob w' a v) => by have := HCB.out a HZA.out v w' h; rw [hba] at this; exact this)
        go_enter Tryd.func3, Tryd.ntmps3
        go_wp2_with fail
        refine HA1.out.mono ?_
        rintro e w1 ⟨rfl, f1⟩
        have F1 := Lib.hid f1; clear f1
        go_wp2_with fail
        refine (HP.out w1 F1.out).mono ?_
        rintro e w2 ⟨f2, r1, mv1, rfl, rn1, ma1⟩
        have F2 := Lib.hid (F1.out.trans' f2); have RN1 := Lib.hid rn1; clear f2 rn1 ma1
        go_wp2_with fail
        refine (HQ.out w2 F2.out).mono ?_
        rintro e w3 ⟨f3, r2, mv2, rfl, rn2, ma2⟩
        have F3 := Lib.hid (F2.out.trans' f3); have RN1' := Lib.hid (RN1.out.on f3); clear f3 rn2 ma2
        go_wp2_with fail
        refine (HCA.out _ w3 RN1'.out).mono ?_
        rintro e w4 ⟨rfl, f4⟩
        have F4 := Lib.hid (F3.out.trans' f4); clear f4
        go_wp2
        go_ret
        exact ⟨rfl, F4.out⟩
      | false =>
      have HCA := Lib.hid (fun v w' (h : RN nob w' a v) => by have := HCB.out a HZA.out v w' h; rw [hba] at this; exact this)
      cases hbb : b.backs with
      | true =>
        have HCD := Lib.hid (fun v w' (h : RN nob w' b v) => by have := HCB.out b HZB.out v w' h; rw [hbb] at this; exact this)
        go_enter Tryd.func3, Tryd.ntmps3
        go_wp2_with fail
        refine HA1.out.mono ?_
        rintro e w1 ⟨rfl, f1⟩
        have F1 := Lib.hid f1; clear f1
        go_wp2_with fail
        refine (HP.out w1 F1.out).mono ?_
        rintro e w2 ⟨f2, r1, mv1, rfl, rn1, ma1⟩
        have F2 := Lib.hid (F1.out.trans' f2); have RN1 := Lib.hid rn1; clear f2 rn1 ma1
        go_wp2_with fail
        refine (HQ.out w2 F2.out).mono ?_
        rintro e w3 ⟨f3, r2, mv2, rfl, rn2, ma2⟩
        have F3 := Lib.hid (F2.out.trans' f3); have RN1' := Lib.hid (RN1.out.on f3); have RN2 := Lib.hid rn2; clear f3 rn2 ma2
        go_wp2_with fail
        refine (HCA.out _ w3 RN1'.out).mono ?_
        rintro e w4 ⟨rfl, f4⟩
        have F4 := Lib.hid (F3.out.trans' f4); have RN2' := Lib.hid (RN2.out.on f4); clear f4
        go_wp2_with fail
        refine (HCD.out _ w4 RN2'.out).mono ?_
        rintro e w5 ⟨rfl, f5⟩
        have F5 := Lib.hid (F4.out.trans' f5); clear f5
        go_wp2
        go_ret
        exact ⟨rfl, F5.out⟩
      | false =>
      have HCD := Lib.hid (fun v w' (h : RN nob w' b v) => by have := HCB.out b HZB.out v w' h; rw [hbb] at this; exact this)
      exact eg_ok l r w HE.out HLA.out HRA.out HPA.out HPB.out hba hbb

namespace ereGroups
open Go.ChangeShapes Go.WideShapes Go.ChangeAt Go.RowKit
open Go.ChangeMaps (open_string shut_string)

theorem readable : ∀ t ∈ Tryd.f3.params.toList, Tryd.prog.readableRec t = true ∧ t < Tryd.prog.types.size := by
  rw [Tryd.params3]
  intro t ht
  simp only [List.mem_cons, List.not_mem_nil, or_false] at ht
  rcases ht with rfl | rfl
  all_goals exact ⟨by kernel_rfl, of_decide_eq_true (by kernel_rfl)⟩

set_option maxRecDepth 100000 in
theorem lifted (os : Os) (started : os.Started) (H : Type) (enc : TypeId × Value → H) :
    ReturnsInHanded {} Tryd.checked os 3 .any (fun w args => (Rows.ereGroupsSpec.pre enc Tryd.prog Tryd.f3 [] false w args ∧ laidMetH Tryd.prog door.list1 w) ∧ sizedMet enc Tryd.prog Tryd.f3 (OpenSpec.ofChange Rows.ereGroupsSpec) false w args)
      (Rows.ereGroupsSpec.post enc Tryd.prog Tryd.f3 false true false false) := by
  refine returns_door (C := Tryd.checked) (X := fun w _ => laidMetH Tryd.prog door.list1 w) (fun _ _ _ hh h => h.of_heap hh) door.own started (by kernel_rfl) Tryd.func3
    (ChangeSpec.witness_shaped (enc := enc) (C := Tryd.checked) (os := os) (X := fun w _ => laidMetH Tryd.prog door.list1 w) false (World.doorLaid Tryd.prog 14 os) #[.string ByteArray.empty, .string ByteArray.empty] 8 rfl (World.shaped_of_RefB (by kernel_rfl) (by kernel_rfl)) (by kernel_rfl) (by kernel_rfl) (by kernel_rfl) (door.met os _)) ?_
  intro W base args ds gs before hval0 hW _ hL hsh
  have hval : ∀ (j : Nat) t v, Tryd.f3.params[j]? = some t → args[j]? = some v → Value.okWide Tryd.prog W .any base t v := hval0
  have hW' : DataW.Whole enc Tryd.prog Tryd.f3.params.toList Rows.ereGroupsSpec.vars false W args.toList ds gs before := hW
  obtain ⟨p, q, hA0, hV, rfl, hfz, hnd⟩ := hW
  have hA : DataW.TrodAll enc Tryd.prog W 0 (fun _ => true) true Tryd.f3.params.toList args.toList ds p := hA0
  rw [Tryd.params3] at hA hval
  obtain ⟨v0, vs0, d0, ds0, p0, q0, hargs, rfl, rfl, h0, r0⟩ := trodAll_cons hA
  obtain ⟨v1, vs1, d1, ds1, p1, q1, rfl, rfl, rfl, h1, r1⟩ := trodAll_cons r0
  obtain ⟨rfl, rfl, rfl⟩ := trodAll_nil r1
  obtain rfl : args = #[v0, v1] := by cases args; simp_all
  obtain ⟨rfl, rfl⟩ := trodVars_none hV
  obtain ⟨s0, rfl, _, _, ws0⟩ := open_string Tryd.underlying9 (hval 0 9 v0 rfl rfl) h0
  obtain ⟨s1, rfl, _, _, ws1⟩ := open_string Tryd.underlying9 (hval 1 9 v1 rfl rfl) h1
  have hs0 : s0 = ⟨s0.data.toList.toArray⟩ := by simp
  have hs1 : s1 = ⟨s1.data.toList.toArray⟩ := by simp
  refine (show Calls Tryd.prog 3 #[.string s0, .string s1] W _ from ?_).mono fun e W' h => h
  rw [hs0]
  rw [hs1]
  refine (lawEreGroups s0.data.toList s1.data.toList W (by unfold maxLen at ws0; exact ws0) (by unfold maxLen at ws1; exact ws1) (door.env hL hsh)).mono fun e W' ⟨he, hg⟩ => ?_
  subst he
  exact ⟨_, rfl, law_post rfl (by kernel_rfl) Tryd.underlying4 door.laidOut readable rfl hW' hg.below⟩

theorem over : Rows.ereGroupsRow.holds Tryd.pinned (OpenSpec.ofChange Rows.ereGroupsSpec) :=
  OpenClaim.holds_of_wide 3 Tryd.f3 rfl rfl rfl rfl rfl rfl rfl ⟨rfl, rfl, rfl, rfl, rfl⟩ rfl rfl rfl rfl rfl (by kernel_rfl) Tryd.func3 (by kernel_rfl)
    (of_decide_eq_true (by kernel_rfl)) (by unfold Func.isWrapper; first | (rw [if_pos (by decide +kernel)]; kernel_rfl) | (rw [if_neg (by decide +kernel)]; exact ⟨rfl, rfl⟩))
    (fun os started H enc _ => lifted os started H enc)

/-- THE STATEMENT: the tied card. -/
theorem proved : Rows.EreGroupsCardSaid :=
  Claim7.holds_tied_plain_at .later [] [.data] true _ true over (fun _ h => by cases h) (by kernel_rfl) (fun _ h => by cases h) ereGroups_row_tie rfl ⟨rfl, rfl⟩ (by kernel_rfl) rfl
    (fun f fn hf hfn => by
      obtain rfl : f = 3 := (Option.some.inj ((show Tryd.prog.funcNamed "placket/placketlaw05.EreGroups" = some 3 by kernel_rfl).symm.trans hf)).symm
      obtain rfl : fn = Tryd.f3 := (Option.some.inj (Tryd.func3.symm.trans hfn)).symm
      exact ⟨by kernel_rfl, fun j t ht => by
        rw [Tryd.params3] at ht
        have hm : t ∈ [9, 9] := by
          have := Array.mem_of_getElem? ht
          simpa using this
        exact List.all_eq_true.1 (show ([9, 9] : List TypeId).all (fun t => !Tryd.prog.wantsStandIn t) = true by kernel_rfl) t hm |> fun h => by show Tryd.prog.wantsStandIn t = false; simpa using h⟩)
    (by kernel_rfl)
#print axioms proved
end ereGroups

end Go.Proofs.YtepeomphikhbkaaDoor
