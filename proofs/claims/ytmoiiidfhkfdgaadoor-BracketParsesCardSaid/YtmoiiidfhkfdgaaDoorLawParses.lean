/-
  BracketParses: the set of any text, from any place on, and the place behind it, or what is wrong first, and where, are the document's. For every input; the tables of the library lie as start-up lays them (tied).
-/
import Derived.Test.YtmoiiidfhkfdgaaDoorBrkQ
import Derived.Test.YtmoiiidfhkfdgaaDoorBrkR
import Derived.Test.YtmoiiidfhkfdgaaDoorDoorB
import Derived.Test.YtmoiiidfhkfdgaaDoorClaimB
import Derived.Test.YtmoiiidfhkfdgaaDoorCards
import Derived.Test.YtmoiiidfhkfdgaaDoorTie
namespace Go.Proofs.YtmoiiidfhkfdgaaDoor
open Go.RowKit

set_option maxRecDepth 100000 in
set_option maxHeartbeats 2000000 in
theorem lawParses (l : List UInt8) (a : Int) (w : World) (hl : l.length ≤ 9223372036854775807) (hE : Env w) :
    Calls Tryd.prog 3 #[.string ⟨l.toArray⟩, .int .i64 a] w fun e w' => e = .returned (.bool true) ∧ Fr nob w w' := by
  have HE := Lib.hid hE; clear hE
  by_cases hlen : l.length ≤ 300
  · have h300 : ¬ (300 : Int) < l.length := by omega
    obtain ⟨S, P, E, hR⟩ : ∃ S P E, prsV (prz l a) = .tuple #[setV S, .int .i64 P, .int .i64 E] := by
      cases prz l a with
      | inl z => exact ⟨_, _, _, rfl⟩
      | inr x => exact ⟨_, _, _, rfl⟩
    have c1 := fun w (h : Env w) => parse_all l a w (by omega) h
    have c2 := fun w => rparse_all l a w (by omega)
    rw [hR] at c1 c2
    have C1 := Lib.hid c1; have C2 := Lib.hid c2
    clear c1 c2 hR
    go_enter Tryd.func3, Tryd.ntmps3
    go_wp2_with fail
    refine (awake2_any _ HE.out).mono ?_
    rintro e w1 ⟨rfl, f1⟩
    go_wp2_with fail
    refine (C1.out _ (HE.out.on f1)).mono ?_
    rintro e w2 ⟨rfl, f2⟩
    go_wp2_with fail
    refine (C2.out _).mono ?_
    rintro e w3 ⟨rfl, f3⟩
    have hb := f3.heap (heap_alloc_new w2 (.cells #[.int .u64 S.a, .int .u64 S.b, .int .u64 S.c, .int .u64 S.d] 25)) (fun x => x)
    have r0 := rule4 hb _ (Fr.refl _ _)
    have hlt := lt_heap hb
    clear hb
    have hse := S4.same_refl S
    go_wp2
    go_ret
    exact ⟨by simp, f1.trans' (f2.trans' (((Fr.refl _ _).alloc _).trans' (f3.alloc _)))⟩
  · have h300 : (300 : Int) < l.length := by omega
    go_enter Tryd.func3, Tryd.ntmps3
    go_wp2_with fail
    refine (awake2_any _ HE.out).mono ?_
    rintro e w1 ⟨rfl, f1⟩
    go_wp2_with fail
    refine (awake2_any _ (HE.out.on f1)).mono ?_
    rintro e w2 ⟨rfl, f2⟩
    go_wp2
    go_ret
    exact ⟨rfl, f1.trans' f2⟩

namespace bracketParses
open Go.ChangeShapes Go.WideShapes Go.ChangeAt Go.RowKit
open Go.ChangeMaps (open_string shut_string)

theorem readable : ∀ t ∈ Tryd.f3.params.toList, Tryd.prog.readableRec t = true ∧ t < Tryd.prog.types.size := by
  rw [Tryd.params3]
  intro t ht
  simp only [List.mem_cons, List.not_mem_nil, or_false] at ht
  rcases ht with rfl | rfl
  all_goals exact ⟨by kernel_rfl, of_decide_eq_true (by kernel_rfl)⟩

set_option maxRecDepth 100000 in
theorem lifted (os : Os) (started : os.Started) (H : Type) (enc : TypeId × Value → H) :
    ReturnsInHanded {} Tryd.checked os 3 .any (fun w args => (Rows.bracketParsesSpec.pre enc Tryd.prog Tryd.f3 [] false w args ∧ laidMetH Tryd.prog door.list1 w) ∧ sizedMet enc Tryd.prog Tryd.f3 (OpenSpec.ofChange Rows.bracketParsesSpec) false w args)
      (Rows.bracketParsesSpec.post enc Tryd.prog Tryd.f3 false true false false) := by
  refine returns_door (C := Tryd.checked) (X := fun w _ => laidMetH Tryd.prog door.list1 w) (fun _ _ _ hh h => h.of_heap hh) door.own started (by kernel_rfl) Tryd.func3
    (ChangeSpec.witness_shaped (enc := enc) (C := Tryd.checked) (os := os) (X := fun w _ => laidMetH Tryd.prog door.list1 w) false (World.doorLaid Tryd.prog 14 os) #[.string ByteArray.empty, .int .i64 0] 8 rfl (World.shaped_of_RefB (by kernel_rfl) (by kernel_rfl)) (by kernel_rfl) (by kernel_rfl) (by kernel_rfl) (door.met os _)) ?_
  intro W base args ds gs before hval0 hW _ hL hsh
  have hval : ∀ (j : Nat) t v, Tryd.f3.params[j]? = some t → args[j]? = some v → Value.okWide Tryd.prog W .any base t v := hval0
  have hW' : DataW.Whole enc Tryd.prog Tryd.f3.params.toList Rows.bracketParsesSpec.vars false W args.toList ds gs before := hW
  obtain ⟨p, q, hA0, hV, rfl, hfz, hnd⟩ := hW
  have hA : DataW.TrodAll enc Tryd.prog W 0 (fun _ => true) true Tryd.f3.params.toList args.toList ds p := hA0
  rw [Tryd.params3] at hA hval
  obtain ⟨v0, vs0, d0, ds0, p0, q0, hargs, rfl, rfl, h0, r0⟩ := trodAll_cons hA
  obtain ⟨v1, vs1, d1, ds1, p1, q1, rfl, rfl, rfl, h1, r1⟩ := trodAll_cons r0
  obtain ⟨rfl, rfl, rfl⟩ := trodAll_nil r1
  obtain rfl : args = #[v0, v1] := by cases args; simp_all
  obtain ⟨rfl, rfl⟩ := trodVars_none hV
  obtain ⟨s0, rfl, _, _, ws0⟩ := open_string Tryd.underlying9 (hval 0 9 v0 rfl rfl) h0
  obtain ⟨x1, rfl, _, _, wx1⟩ := open_int Tryd.underlying3 (hval 1 3 v1 rfl rfl) h1
  have hs0 : s0 = ⟨s0.data.toList.toArray⟩ := by simp
  refine (show Calls Tryd.prog 3 #[.string s0, .int .i64 x1] W _ from ?_).mono fun e W' h => h
  rw [hs0]
  refine (lawParses s0.data.toList x1 W (by unfold maxLen at ws0; exact ws0) (door.env hL hsh)).mono fun e W' ⟨he, hg⟩ => ?_
  subst he
  exact ⟨_, rfl, law_post rfl (by kernel_rfl) Tryd.underlying4 door.laidOut readable rfl hW' hg.below⟩

theorem over : Rows.bracketParsesRow.holds Tryd.pinned (OpenSpec.ofChange Rows.bracketParsesSpec) :=
  OpenClaim.holds_of_wide 3 Tryd.f3 rfl rfl rfl rfl rfl rfl rfl ⟨rfl, rfl, rfl, rfl, rfl⟩ rfl rfl rfl rfl rfl (by kernel_rfl) Tryd.func3 (by kernel_rfl)
    (of_decide_eq_true (by kernel_rfl)) (by unfold Func.isWrapper; first | (rw [if_pos (by decide +kernel)]; kernel_rfl) | (rw [if_neg (by decide +kernel)]; exact ⟨rfl, rfl⟩))
    (fun os started H enc _ => lifted os started H enc)

/-- THE STATEMENT: the tied card. -/
theorem proved : Rows.BracketParsesCardSaid :=
  Claim7.holds_tied_plain_at .later [] [.data] true _ false over (fun _ h => by cases h) (by kernel_rfl) (fun _ h => by cases h) bracketParses_row_tie rfl ⟨rfl, rfl⟩ (by kernel_rfl) rfl
    (fun f fn hf hfn => by
      obtain rfl : f = 3 := (Option.some.inj ((show Tryd.prog.funcNamed "placket/placketlaw02.BracketParses" = some 3 by kernel_rfl).symm.trans hf)).symm
      obtain rfl : fn = Tryd.f3 := (Option.some.inj (Tryd.func3.symm.trans hfn)).symm
      exact ⟨by kernel_rfl, fun j t ht => by
        rw [Tryd.params3] at ht
        have hm : t ∈ [9, 3] := by
          have := Array.mem_of_getElem? ht
          simpa using this
        exact List.all_eq_true.1 (show ([9, 3] : List TypeId).all (fun t => !Tryd.prog.wantsStandIn t) = true by kernel_rfl) t hm |> fun h => by show Tryd.prog.wantsStandIn t = false; simpa using h⟩)
    (by kernel_rfl)
#print axioms proved
end bracketParses

end Go.Proofs.YtmoiiidfhkfdgaaDoor
