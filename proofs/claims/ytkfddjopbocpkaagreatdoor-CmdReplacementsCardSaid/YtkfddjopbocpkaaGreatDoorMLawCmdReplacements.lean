/-
  CmdReplacements: bytes, each told as it must be, are a replacement of one part, just these; with an & behind of two. For every input; the tables of the library lie as start-up lays them (tied).
-/
import Derived.Test.YtkfddjopbocpkaaGreatDoorM34
import Derived.Test.YtkfddjopbocpkaaGreatDoorM36

set_option linter.unusedVariables false
set_option linter.unusedSimpArgs false
namespace Go.Proofs.YtkfddjopbocpkaaGreatDoor
open Go.RowKit

-- CLOSING
namespace cmdReplacements
open Go.ChangeShapes Go.WideShapes Go.ChangeAt Go.RowKit
open Go.ChangeMaps (open_string shut_string)

theorem readable : ∀ t ∈ Tryz.f4.params.toList, Tryz.prog.readableRec t = true ∧ t < Tryz.prog.types.size := by
  rw [Tryz.params4]
  intro t ht
  simp only [List.mem_cons, List.not_mem_nil, or_false] at ht
  rcases ht with rfl | rfl
  all_goals exact ⟨by kernel_rfl, of_decide_eq_true (by kernel_rfl)⟩

set_option maxRecDepth 100000 in
theorem lifted (os : Os) (started : os.Started) (H : Type) (enc : TypeId × Value → H) :
    ReturnsInHanded {} Tryz.checked os 4 .any (fun w args => (Rows.cmdReplacementsSpec.pre enc Tryz.prog Tryz.f4 [] false w args ∧ laidMetH Tryz.prog door.list1 w) ∧ sizedMet enc Tryz.prog Tryz.f4 (OpenSpec.ofChange Rows.cmdReplacementsSpec) false w args)
      (Rows.cmdReplacementsSpec.post enc Tryz.prog Tryz.f4 false true false false) := by
  refine returns_door (C := Tryz.checked) (X := fun w _ => laidMetH Tryz.prog door.list1 w) (fun _ _ _ hh h => h.of_heap hh) door.own started (by kernel_rfl) Tryz.func4
    (ChangeSpec.witness_shaped (enc := enc) (C := Tryz.checked) (os := os) (X := fun w _ => laidMetH Tryz.prog door.list1 w) false (World.laidAll Tryz.prog os door.list1) #[.slice none 0 0, .bool false] 8 (World.laidAll_os _ _ _) (World.shaped_of_ZipB (by kernel_rfl) (by kernel_rfl)) (by kernel_rfl) (by kernel_rfl) (by kernel_rfl) (by rw [MakeChecks.laidMetH_plain _ _ _ (by kernel_rfl)]; exact laidMet_laidAll _ (by kernel_rfl) (by kernel_rfl))) ?_
  intro W base args ds gs before hval0 hW _ hL hsh
  have hval : ∀ (j : Nat) t v, Tryz.f4.params[j]? = some t → args[j]? = some v → Value.okWide Tryz.prog W .any base t v := hval0
  have hW' : DataW.Whole enc Tryz.prog Tryz.f4.params.toList Rows.cmdReplacementsSpec.vars false W args.toList ds gs before := hW
  obtain ⟨p, q, hA0, hV, rfl, hfz, hnd⟩ := hW
  have hA : DataW.TrodAll enc Tryz.prog W 0 (fun _ => true) true Tryz.f4.params.toList args.toList ds p := hA0
  rw [Tryz.params4] at hA hval
  obtain ⟨v0, vs0, d0, ds0, p0, q0, hargs, rfl, rfl, h0, r0⟩ := trodAll_cons hA
  obtain ⟨v1, vs1, d1, ds1, p1, q1, rfl, rfl, rfl, h1, r1⟩ := trodAll_cons r0
  obtain ⟨rfl, rfl, rfl⟩ := trodAll_nil r1
  obtain rfl : args = #[v0, v1] := by cases args; simp_all
  obtain ⟨rfl, rfl⟩ := trodVars_none hV
  obtain ⟨l0, wl0, sb0⟩ := open_bytes Tryz.underlying22 Tryz.underlying5 (by kernel_rfl) (hval 0 22 v0 rfl rfl) h0
  obtain ⟨b1, rfl, _, _⟩ := open_bool Tryz.underlying4 (hval 1 4 v1 rfl rfl) h1
  refine (show Calls Tryz.prog 4 #[v0, .bool b1] W _ from ?_).mono fun e W' h => h
  refine (lawCmdReplacements l0 v0 b1 W wl0 sb0 (door.env hL hsh)).mono fun e W' ⟨he, hg⟩ => ?_
  subst he
  exact ⟨_, rfl, law_post rfl (by kernel_rfl) Tryz.underlying4 door.laidOut readable rfl hW' hg.below⟩

theorem over : Rows.cmdReplacementsRow.holds Tryz.pinned (OpenSpec.ofChange Rows.cmdReplacementsSpec) :=
  OpenClaim.holds_of_wide 4 Tryz.f4 rfl rfl rfl rfl rfl rfl rfl ⟨rfl, rfl, rfl, rfl, rfl⟩ rfl rfl rfl rfl rfl (by kernel_rfl) Tryz.func4 cmdReplacements_joined
    (of_decide_eq_true (by kernel_rfl)) (by unfold Func.isWrapper; first | (rw [if_pos (by decide +kernel)]; kernel_rfl) | (rw [if_neg (by decide +kernel)]; exact ⟨rfl, rfl⟩))
    (fun os started H enc _ => lifted os started H enc)

/-- THE STATEMENT: the tied card. -/
theorem proved : Rows.CmdReplacementsCardSaid :=
  Claim7.holds_tied_plain_at .later [] [.data, .data, .pinned] true _ true over (fun _ h => by cases h) (by kernel_rfl) (fun _ h => by cases h) cmdReplacements_row_tie rfl ⟨rfl, rfl⟩ (by kernel_rfl) rfl
    (fun f fn hf hfn => by
      obtain rfl : f = 4 := (Option.some.inj ((show Tryz.prog.funcNamed "placket/placketlaw13.CmdReplacements" = some 4 by kernel_rfl).symm.trans hf)).symm
      obtain rfl : fn = Tryz.f4 := (Option.some.inj (Tryz.func4.symm.trans hfn)).symm
      exact ⟨by kernel_rfl, fun j t ht => by
        rw [Tryz.params4] at ht
        have hm : t ∈ [22, 4] := by
          have := Array.mem_of_getElem? ht
          simpa using this
        exact List.all_eq_true.1 (show ([22, 4] : List TypeId).all (fun t => !Tryz.prog.wantsStandIn t) = true by kernel_rfl) t hm |> fun h => by show Tryz.prog.wantsStandIn t = false; simpa using h⟩)
    (by kernel_rfl)
#print axioms proved
end cmdReplacements

end Go.Proofs.YtkfddjopbocpkaaGreatDoor
