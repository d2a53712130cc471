/-
  EreQuotes: any bytes, those of punct behind a backslash, are read as just these, without a mark. For every input; the tables of the library lie as start-up lays them (tied).
-/
import Derived.Test.YtepeomphikhbkaaDoorCards
import Derived.Test.YtepeomphikhbkaaDoorTie
import Derived.Test.YtepeomphikhbkaaDoorM04
import Derived.Test.YtepeomphikhbkaaDoorM22
import Derived.Test.YtepeomphikhbkaaDoorM23
import Derived.Test.YtepeomphikhbkaaDoorM32

namespace Go.Proofs.YtepeomphikhbkaaDoor
open Go.RowKit

set_option maxRecDepth 100000 in
set_option maxHeartbeats 2000000 in
theorem lawEreQuotes (l : List UInt8) (u : Value) (w : World) (hl : l.length ≤ maxLen) (hu : SB w l u) (hE : Env w) :
    Calls Tryd.prog 4 #[u] w fun e w' => e = .returned (.bool true) ∧ Fr nob w w' := by
  unfold maxLen at hl
  obtain ⟨ua, uc, hus⟩ := hu.shape
  have HU := Lib.hid hu; have HE := Lib.hid hE; clear hu hE
  subst hus
  have HA1 := Lib.hid (awake5_any w HE.out)
  by_cases h0 : l.length = 0
  · rw [h0] at HU ⊢
    clear hl
    go_enter Tryd.func4, Tryd.ntmps4
    go_wp2_with fail
    refine HA1.out.mono ?_
    rintro e w1 ⟨rfl, f1⟩
    have F1 := Lib.hid f1; clear f1
    go_wp2_with fail
    refine (awake5_any w1 (HE.out.on F1.out)).mono ?_
    rintro e w2 ⟨rfl, f2⟩
    have F2 := Lib.hid (F1.out.trans' f2); clear f2
    go_wp2
    go_ret
    exact ⟨rfl, F2.out⟩
  · have h0' : ((l.length : Int) == 0) = false := by simp only [beq_eq_false_iff_ne, ne_eq]; omega
    have h0'' : ¬ (l.length : Int) = 0 := by omega
    by_cases h100 : 100 < l.length
    · have h1 : (100 : Int) < l.length := by omega
      go_enter Tryd.func4, Tryd.ntmps4
      go_wp2_with fail
      refine HA1.out.mono ?_
      rintro e w1 ⟨rfl, f1⟩
      have F1 := Lib.hid f1; clear f1
      go_wp2_with fail
      refine (awake5_any w1 (HE.out.on F1.out)).mono ?_
      rintro e w2 ⟨rfl, f2⟩
      have F2 := Lib.hid (F1.out.trans' f2); clear f2
      go_wp2
      go_ret
      exact ⟨rfl, F2.out⟩
    · have h1 : ¬ (100 : Int) < l.length := by omega
      go_enter Tryd.func4, Tryd.ntmps4
      go_wp2_with fail
      refine HA1.out.mono ?_
      rintro e w1 ⟨rfl, f1⟩
      have F1 := Lib.hid f1; clear f1
      have hne : l ≠ [] := by rintro rfl; simp at h0
      have HQ := Lib.hid (quoted_any true l (.slice ua l.length uc) w1 (by omega) (HU.out.on F1.out))
      have hqp := quo_parseE hne (by omega)
      have hql := quoT_le true l
      have hP := fun w' (f : Fr nob w1 w') => ere_parse (quoT true l) w' (by omega) ((HE.out.on F1.out).on f)
      rw [hqp] at hP
      obtain ⟨Q, hQ⟩ : ∃ Q, quoT true l = Q := ⟨_, rfl⟩
      have HBY := Lib.hid (fun i y w' => bytes_any (joined (ones l)) i y l (.slice ua l.length uc) w' (by omega) (by have := joined_le (ones l); rw [ones_size] at this; omega))
      obtain ⟨J, hJ⟩ : ∃ J, joined (ones l) = J := ⟨_, rfl⟩
      have HNN := Lib.hid (show J ≠ .nil from hJ ▸ brn_nil (joined_brn (fun t ht => by unfold ones at ht; obtain ⟨b, _, rfl⟩ := List.mem_map.1 ht; rfl)))
      rw [hJ] at hP HBY
      rw [hQ] at hP HQ
      have HP := Lib.hid hP
      clear hP hqp hql hJ hQ
      go_wp2_with fail
      refine HQ.out.mono ?_
      rintro e w2 ⟨rfl, f2⟩
      have HP2 := Lib.hid (HP.out w2 f2)
      have F2 := Lib.hid (F1.out.trans' f2); clear f2
      go_wp2_with fail
      refine HP2.out.mono ?_
      rintro e w3 ⟨f3, r3, mv, rfl, rn, ma⟩
      obtain ⟨i, y, rfl⟩ := rn.some HNN.out
      obtain ⟨am, cm, hm⟩ := ownsRow_slice ma
      subst hm
      have HX := Lib.hid (HBY.out i y w3 rn ((HU.out.on F2.out).on f3))
      have F3 := Lib.hid (F2.out.trans' f3)
      clear rn ma f3
      go_wp2_with fail
      refine HX.out.mono ?_
      rintro e w4 ⟨r, rfl, hr, f4⟩
      obtain rfl : r = true := hr.2 (by first | trivial | rfl)
      have F4 := Lib.hid (F3.out.trans' f4); clear f4 hr
      go_wp2
      go_ret
      exact ⟨rfl, F4.out⟩

namespace ereQuotes
open Go.ChangeShapes Go.WideShapes Go.ChangeAt Go.RowKit
open Go.ChangeMaps (open_string shut_string)

theorem readable : ∀ t ∈ Tryd.f4.params.toList, Tryd.prog.readableRec t = true ∧ t < Tryd.prog.types.size := by
  rw [Tryd.params4]
  intro t ht
  simp only [List.mem_cons, List.not_mem_nil, or_false] at ht
  subst ht
  exact ⟨by kernel_rfl, of_decide_eq_true (by kernel_rfl)⟩

set_option maxRecDepth 100000 in
theorem lifted (os : Os) (started : os.Started) (H : Type) (enc : TypeId × Value → H) :
    ReturnsInHanded {} Tryd.checked os 4 .any (fun w args => (Rows.ereQuotesSpec.pre enc Tryd.prog Tryd.f4 [] false w args ∧ laidMetH Tryd.prog door.list1 w) ∧ sizedMet enc Tryd.prog Tryd.f4 (OpenSpec.ofChange Rows.ereQuotesSpec) false w args)
      (Rows.ereQuotesSpec.post enc Tryd.prog Tryd.f4 false true false false) := by
  refine returns_door (C := Tryd.checked) (X := fun w _ => laidMetH Tryd.prog door.list1 w) (fun _ _ _ hh h => h.of_heap hh) door.own started (by kernel_rfl) Tryd.func4
    (ChangeSpec.witness_shaped (enc := enc) (C := Tryd.checked) (os := os) (X := fun w _ => laidMetH Tryd.prog door.list1 w) false (World.doorLaid Tryd.prog 14 os) #[.slice none 0 0] 8 rfl (World.shaped_of_RefB (by kernel_rfl) (by kernel_rfl)) (by kernel_rfl) (by kernel_rfl) (by kernel_rfl) (door.met os _)) ?_
  intro W base args ds gs before hval0 hW _ hL hsh
  have hval : ∀ (j : Nat) t v, Tryd.f4.params[j]? = some t → args[j]? = some v → Value.okWide Tryd.prog W .any base t v := hval0
  have hW' : DataW.Whole enc Tryd.prog Tryd.f4.params.toList Rows.ereQuotesSpec.vars false W args.toList ds gs before := hW
  obtain ⟨p, q, hA0, hV, rfl, hfz, hnd⟩ := hW
  have hA : DataW.TrodAll enc Tryd.prog W 0 (fun _ => true) true Tryd.f4.params.toList args.toList ds p := hA0
  rw [Tryd.params4] at hA hval
  obtain ⟨v0, vs0, d0, ds0, p0, q0, hargs, rfl, rfl, h0, r0⟩ := trodAll_cons hA
  obtain ⟨rfl, rfl, rfl⟩ := trodAll_nil r0
  obtain rfl : args = #[v0] := by cases args; simp_all
  obtain ⟨rfl, rfl⟩ := trodVars_none hV
  obtain ⟨l0, wl0, sb0⟩ := open_bytes Tryd.underlying39 Tryd.underlying5 (by kernel_rfl) (hval 0 39 v0 rfl rfl) h0
  refine (show Calls Tryd.prog 4 #[v0] W _ from ?_).mono fun e W' h => h
  refine (lawEreQuotes l0 v0 W wl0 sb0 (door.env hL hsh)).mono fun e W' ⟨he, hg⟩ => ?_
  subst he
  exact ⟨_, rfl, law_post rfl (by kernel_rfl) Tryd.underlying4 door.laidOut readable rfl hW' hg.below⟩

theorem over : Rows.ereQuotesRow.holds Tryd.pinned (OpenSpec.ofChange Rows.ereQuotesSpec) :=
  OpenClaim.holds_of_wide 4 Tryd.f4 rfl rfl rfl rfl rfl rfl rfl ⟨rfl, rfl, rfl, rfl, rfl⟩ rfl rfl rfl rfl rfl (by kernel_rfl) Tryd.func4 (by kernel_rfl)
    (of_decide_eq_true (by kernel_rfl)) (by unfold Func.isWrapper; first | (rw [if_pos (by decide +kernel)]; kernel_rfl) | (rw [if_neg (by decide +kernel)]; exact ⟨rfl, rfl⟩))
    (fun os started H enc _ => lifted os started H enc)

/-- THE STATEMENT: the tied card. -/
theorem proved : Rows.EreQuotesCardSaid :=
  Claim7.holds_tied_plain_at .later [] [.data] true _ true over (fun _ h => by cases h) (by kernel_rfl) (fun _ h => by cases h) ereQuotes_row_tie rfl ⟨rfl, rfl⟩ (by kernel_rfl) rfl
    (fun f fn hf hfn => by
      obtain rfl : f = 4 := (Option.some.inj ((show Tryd.prog.funcNamed "placket/placketlaw05.EreQuotes" = some 4 by kernel_rfl).symm.trans hf)).symm
      obtain rfl : fn = Tryd.f4 := (Option.some.inj (Tryd.func4.symm.trans hfn)).symm
      exact ⟨by kernel_rfl, fun j t ht => by
        rw [Tryd.params4] at ht
        have hm : t ∈ [39] := by
          have := Array.mem_of_getElem? ht
          simpa using this
        exact List.all_eq_true.1 (show ([39] : List TypeId).all (fun t => !Tryd.prog.wantsStandIn t) = true by kernel_rfl) t hm |> fun h => by show Tryd.prog.wantsStandIn t = false; simpa using h⟩)
    (by kernel_rfl)
#print axioms proved
end ereQuotes

end Go.Proofs.YtepeomphikhbkaaDoor
