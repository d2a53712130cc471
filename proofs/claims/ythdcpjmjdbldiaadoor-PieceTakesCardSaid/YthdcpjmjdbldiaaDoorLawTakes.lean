/-
  PieceTakes: of any text, from any place on, blanks, space and numbers, lines and names, are the document's, or what is wrong, and where. For every input; no condition but the card's own (the library's tables lie as they were laid).
-/
import Derived.Test.YthdcpjmjdbldiaaDoorPieceK
import Derived.Test.YthdcpjmjdbldiaaDoorDoorP
import Derived.Test.YthdcpjmjdbldiaaDoorTie
import Derived.Test.YthdcpjmjdbldiaaDoorCards
namespace Go.Proofs.YthdcpjmjdbldiaaDoor
open Go.RowKit

set_option maxRecDepth 100000 in
set_option maxHeartbeats 2000000 in
theorem lawTakes (l : List UInt8) (at_ : Int) (label : Bool) (w : World) (hl : l.length ≤ 9223372036854775807) (_ : True) :
    Calls Tryd.prog 3 #[.string ⟨l.toArray⟩, .int .i64 at_, .bool label] w fun e w' => e = .returned (.bool true) ∧ Fr nob w w' := by
  by_cases h300 : (300 : Int) < l.length
  · go_enter Tryd.func3, Tryd.ntmps3
    go_wp2_with fail
    refine (awake_any _).mono ?_
    rintro e w1 ⟨rfl, g1⟩
    have G1 := Lib.hid g1; clear g1
    go_wp2_with fail
    refine (awake_any _).mono ?_
    rintro e w2 ⟨rfl, g2⟩
    have G2 := Lib.hid g2; clear g2
    go_wp2
    go_ret
    exact ⟨rfl, G1.out.trans' G2.out⟩
  · have hs : l.length ≤ 100000 := by omega
    have hs' : l.length ≤ 1000000 := by omega
    by_cases ho : at_ < 0 ∨ (l.length : Int) < at_
    · have ho1 : (decide (at_ < 0) || decide ((l.length : Int) < at_)) = true := by simpa using ho
      have hB := fun w => blanks_any l at_ w hs'
      have hRB := fun w => refBlanks_any l at_ w hs'
      have hS := fun w => space_any l at_ w hs'
      have hRS := fun w => refSpace_any l at_ w hs'
      rw [if_pos ho] at hB hRB hS hRS
      have HB := Lib.hid hB; have HRB := Lib.hid hRB; have HS := Lib.hid hS; have HRS := Lib.hid hRS; have HO := Lib.hid ho1
      clear hB hRB hS hRS ho1 ho
      have hlow : l.length ≤ 9223372036854775807 := hl
      go_enter Tryd.func3, Tryd.ntmps3
      go_wp2_with fail
      refine (awake_any _).mono ?_
      rintro e w1 ⟨rfl, g1⟩
      have G1 := Lib.hid g1; clear g1
      go_wp2_with (first
        | (go_at_call 5; refine (number_over _ _ _ hs' HO.out).mono ?_; rintro e w' ⟨rfl, rfl⟩)
        | (go_at_call 6; refine (refNumber_over _ _ _ hs' HO.out).mono ?_; rintro e w' ⟨rfl, rfl⟩)
        | (go_at_call 11; refine (lines_over _ _ _ hs' HO.out).mono ?_; rintro e w' ⟨rfl, rfl⟩)
        | (go_at_call 12; refine (refLines_over _ _ _ hs' HO.out).mono ?_; rintro e w' ⟨rfl, rfl⟩)
        | (go_at_call 13; refine (name_over _ _ _ _ hs' HO.out).mono ?_; rintro e w' ⟨rfl, rfl⟩)
        | (go_at_call 14; refine (refName_over _ _ _ _ hs' HO.out).mono ?_; rintro e w' ⟨rfl, rfl⟩)
        | (go_at_call 7; refine (HB.out _).mono ?_; rintro e w2 ⟨rfl, g2⟩; have G2 := Lib.hid g2; clear g2)
        | (go_at_call 8; refine (HRB.out _).mono ?_; rintro e w3 ⟨rfl, g3⟩; have G3 := Lib.hid g3; clear g3)
        | (go_at_call 9; refine (HS.out _).mono ?_; rintro e w4 ⟨rfl, g4⟩; have G4 := Lib.hid g4; clear g4)
        | (go_at_call 10; refine (HRS.out _).mono ?_; rintro e w5 ⟨rfl, g5⟩; have G5 := Lib.hid g5; clear g5))
      go_ret
      exact ⟨rfl, (((G1.out.trans' G2.out).trans' G3.out).trans' G4.out).trans' G5.out⟩
    · obtain ⟨k, rfl⟩ : ∃ k : Nat, at_ = k := ⟨at_.toNat, by omega⟩
      have hk : k ≤ l.length := by omega
      have hB := fun w => blanks_any l k w hs'
      have hRB := fun w => refBlanks_any l k w hs'
      have hS := fun w => space_any l k w hs'
      have hRS := fun w => refSpace_any l k w hs'
      rw [if_neg ho, Int.toNat_natCast] at hB hRB hS hRS
      have hN := fun w => number_any l k w hs hk
      have hRN := fun w => refNumber_any l k w hs hk
      have hL := fun w => lines_any l k w hs hk
      have hRL := fun w => refLines_any l k w hs hk
      have hM := fun w => name_any l k label w hs hk
      have hRM := fun w => refName_any l k label w hs hk
      revert hB hRB hS hRS hN hRN hL hRL hM hRM
      generalize bhd l [32, 9] k = b1
      generalize bhd l [32, 9, 10, 59] k = b2
      generalize nm k (l.drop k) 0 0 = n1
      generalize ln l (l.length + 1) k [] = n2
      generalize nam l k label = n3
      obtain ⟨na, nb', nc⟩ := n1
      obtain ⟨la, lb, lc⟩ := n2
      obtain ⟨ma, mb, mc⟩ := n3
      intro hB hRB hS hRS hN hRN hL hRL hM hRM
      simp only at hN hRN hL hRL hM hRM
      have HB := Lib.hid hB; have HRB := Lib.hid hRB; have HS := Lib.hid hS; have HRS := Lib.hid hRS
      have HN := Lib.hid hN; have HRN := Lib.hid hRN; have HL := Lib.hid hL; have HRL := Lib.hid hRL; have HM := Lib.hid hM; have HRM := Lib.hid hRM
      clear hB hRB hS hRS hN hRN hL hRL hM hRM ho
      go_enter Tryd.func3, Tryd.ntmps3
      go_wp2_with fail
      refine (awake_any _).mono ?_
      rintro e w1 ⟨rfl, g1⟩
      have G1 := Lib.hid g1; clear g1
      go_wp2_with (first
        | (go_at_call 5; refine (HN.out _).mono ?_; rintro e w6 ⟨rfl, g6⟩; have G6 := Lib.hid (G1.out.trans' g6); clear g6)
        | (go_at_call 6; refine (HRN.out _).mono ?_; rintro e w' ⟨rfl, rfl⟩)
        | (go_at_call 11; refine (HL.out _).mono ?_; rintro e w7 ⟨rfl, g7⟩; have G7 := Lib.hid (G5.out.trans' g7); clear g7)
        | (go_at_call 12; refine (HRL.out _).mono ?_; rintro e w' ⟨rfl, rfl⟩)
        | (go_at_call 13; refine (HM.out _).mono ?_; rintro e w8 ⟨rfl, g8⟩; have G8 := Lib.hid (G7.out.trans' g8); clear g8)
        | (go_at_call 14; refine (HRM.out _).mono ?_; rintro e w9 ⟨rfl, g9⟩; have G9 := Lib.hid (G8.out.trans' g9); clear g9)
        | (go_at_call 7; refine (HB.out _).mono ?_; rintro e w2 ⟨rfl, g2⟩; have G2 := Lib.hid (G6.out.trans' g2); clear g2)
        | (go_at_call 8; refine (HRB.out _).mono ?_; rintro e w3 ⟨rfl, g3⟩; have G3 := Lib.hid (G2.out.trans' g3); clear g3)
        | (go_at_call 9; refine (HS.out _).mono ?_; rintro e w4 ⟨rfl, g4⟩; have G4 := Lib.hid (G3.out.trans' g4); clear g4)
        | (go_at_call 10; refine (HRS.out _).mono ?_; rintro e w5 ⟨rfl, g5⟩; have G5 := Lib.hid (G4.out.trans' g5); clear g5))
      go_ret
      exact ⟨by simp, G9.out⟩

namespace pieceTakes
open Go.ChangeShapes Go.WideShapes Go.ChangeAt Go.RowKit
open Go.ChangeMaps (open_string shut_string)

theorem readable : ∀ t ∈ Tryd.f3.params.toList, Tryd.prog.readableRec t = true ∧ t < Tryd.prog.types.size := by
  rw [Tryd.params3]
  intro t ht
  simp only [List.mem_cons, List.not_mem_nil, or_false] at ht
  rcases ht with rfl | rfl | rfl
  all_goals exact ⟨by kernel_rfl, of_decide_eq_true (by kernel_rfl)⟩

set_option maxRecDepth 100000 in
theorem lifted (os : Os) (started : os.Started) (H : Type) (enc : TypeId × Value → H) :
    ReturnsInHanded {} Tryd.checked os 3 .any (fun w args => (Rows.pieceTakesSpec.pre enc Tryd.prog Tryd.f3 [] false w args ∧ laidMetH Tryd.prog door.list1 w) ∧ sizedMet enc Tryd.prog Tryd.f3 (OpenSpec.ofChange Rows.pieceTakesSpec) false w args)
      (Rows.pieceTakesSpec.post enc Tryd.prog Tryd.f3 false true false false) := by
  refine returnsInHanded_of_change_and (C := Tryd.checked) (X := fun w _ => laidMetH Tryd.prog door.list1 w) (fun _ _ _ hh h => h.of_heap hh) door.own started (by kernel_rfl) Tryd.func3
    (ChangeSpec.witness_shaped (enc := enc) (C := Tryd.checked) (os := os) (X := fun w _ => laidMetH Tryd.prog door.list1 w) false (World.laidAll Tryd.prog os door.list1) #[.string ByteArray.empty, .int .i64 0, .bool false] 8 (World.laidAll_os _ _ _) (World.shaped_of_ZipB (by kernel_rfl) (by kernel_rfl)) (by kernel_rfl) (by kernel_rfl) (by kernel_rfl) (by rw [MakeChecks.laidMetH_plain _ _ _ (by kernel_rfl)]; exact laidMet_laidAll _ (by kernel_rfl) (by kernel_rfl))) ?_
  intro W base args ds gs before hval0 hW _ _ hL _
  have hval : ∀ (j : Nat) t v, Tryd.f3.params[j]? = some t → args[j]? = some v → Value.okWide Tryd.prog W .any base t v := hval0
  have hW' : DataW.Whole enc Tryd.prog Tryd.f3.params.toList Rows.pieceTakesSpec.vars false W args.toList ds gs before := hW
  obtain ⟨p, q, hA0, hV, rfl, hfz, hnd⟩ := hW
  have hA : DataW.TrodAll enc Tryd.prog W 0 (fun _ => true) true Tryd.f3.params.toList args.toList ds p := hA0
  rw [Tryd.params3] at hA hval
  obtain ⟨v0, vs0, d0, ds0, p0, q0, hargs, rfl, rfl, h0, r0⟩ := trodAll_cons hA
  obtain ⟨v1, vs1, d1, ds1, p1, q1, rfl, rfl, rfl, h1, r1⟩ := trodAll_cons r0
  obtain ⟨v2, vs2, d2, ds2, p2, q2, rfl, rfl, rfl, h2, r2⟩ := trodAll_cons r1
  obtain ⟨rfl, rfl, rfl⟩ := trodAll_nil r2
  obtain rfl : args = #[v0, v1, v2] := by cases args; simp_all
  obtain ⟨rfl, rfl⟩ := trodVars_none hV
  obtain ⟨s0, rfl, _, _, ws0⟩ := open_string Tryd.underlying9 (hval 0 9 v0 rfl rfl) h0
  obtain ⟨x1, rfl, _, _, wx1⟩ := open_int Tryd.underlying3 (hval 1 3 v1 rfl rfl) h1
  obtain ⟨b2, rfl, _, _⟩ := open_bool Tryd.underlying4 (hval 2 4 v2 rfl rfl) h2
  have hs0 : s0 = ⟨s0.data.toList.toArray⟩ := by simp
  refine (show Calls Tryd.prog 3 #[.string s0, .int .i64 x1, .bool b2] W _ from ?_).mono fun e W' h => h
  rw [hs0]
  refine (lawTakes s0.data.toList x1 b2 W (by unfold maxLen at ws0; exact ws0) (door.tab hL)).mono fun e W' ⟨he, hg⟩ => ?_
  subst he
  exact ⟨_, rfl, law_post rfl (by kernel_rfl) Tryd.underlying4 door.laidOut readable rfl hW' hg.below⟩

theorem over : Rows.pieceTakesRow.holds Tryd.pinned (OpenSpec.ofChange Rows.pieceTakesSpec) :=
  OpenClaim.holds_of_wide 3 Tryd.f3 rfl rfl rfl rfl rfl rfl rfl ⟨rfl, rfl, rfl, rfl, rfl⟩ rfl rfl rfl rfl rfl (by kernel_rfl) Tryd.func3 (by kernel_rfl)
    (of_decide_eq_true (by kernel_rfl)) (by unfold Func.isWrapper; first | (rw [if_pos (by decide +kernel)]; kernel_rfl) | (rw [if_neg (by decide +kernel)]; exact ⟨rfl, rfl⟩))
    (fun os started H enc _ => lifted os started H enc)

/-- THE STATEMENT: the tied card. -/
theorem proved : Rows.PieceTakesCardSaid :=
  Claim7.holds_tied_plain_at .later [] [.data, .pinned] true _ false over (fun _ h => by cases h) (by kernel_rfl) (fun _ h => by cases h) pieceTakes_row_tie rfl ⟨rfl, rfl⟩ (by kernel_rfl) rfl
    (fun f fn hf hfn => by
      obtain rfl : f = 3 := (Option.some.inj ((show Tryd.prog.funcNamed "placket/placketlaw11.PieceTakes" = some 3 by kernel_rfl).symm.trans hf)).symm
      obtain rfl : fn = Tryd.f3 := (Option.some.inj (Tryd.func3.symm.trans hfn)).symm
      exact ⟨by kernel_rfl, fun j t ht => by
        rw [Tryd.params3] at ht
        have hm : t ∈ [9, 3, 4] := by
          have := Array.mem_of_getElem? ht
          simpa using this
        exact List.all_eq_true.1 (show ([9, 3, 4] : List TypeId).all (fun t => !Tryd.prog.wantsStandIn t) = true by kernel_rfl) t hm |> fun h => by show Tryd.prog.wantsStandIn t = false; simpa using h⟩)
    (by kernel_rfl)
#print axioms proved
end pieceTakes

end Go.Proofs.YthdcpjmjdbldiaaDoor
