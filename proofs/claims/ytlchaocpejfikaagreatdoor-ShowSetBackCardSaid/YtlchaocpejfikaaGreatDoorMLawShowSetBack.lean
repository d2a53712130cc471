/-
  ShowSetBack: any set's text, read as an extended regex, is a One of it. For every set; the tables of the library lie as start-up lays them (tied).
-/
import Derived.Test.YtlchaocpejfikaaGreatDoorCards
import Derived.Test.YtlchaocpejfikaaGreatDoorTie
import Derived.Test.YtlchaocpejfikaaGreatDoorM03
import Derived.Test.YtlchaocpejfikaaGreatDoorM13
import Derived.Test.YtlchaocpejfikaaGreatDoorM19
import Derived.Test.YtlchaocpejfikaaGreatDoorM25
import Derived.Test.YtlchaocpejfikaaGreatDoorM28
import Derived.Test.YtlchaocpejfikaaGreatDoorM32

namespace Go.Proofs.YtlchaocpejfikaaGreatDoor
open Go.RowKit

theorem isOne_self (s : S4) : (Nd.one s).isOne s = true := S4.same_refl s
set_option maxRecDepth 100000 in
set_option maxHeartbeats 4000000 in
theorem lawShowSetBack (s : S4) (w : World) (hs : s.fit) (hE : Env6 w) :
    Calls Tryz.prog 6 #[setV s] w fun e w' => e = .returned (.bool true) ∧ Fr nob w w' := by
  obtain ⟨w1, hw1⟩ : ∃ w1, w1 = w.alloc (.cells #[.int .u64 s.a, .int .u64 s.b, .int .u64 s.c, .int .u64 s.d] 24) := ⟨_, rfl⟩
  have f01 : Fr nob w w1 := by rw [hw1]; exact (Fr.refl _ _).alloc _
  have hb1 : w1.heap[w.heap.size]? = some (.cells #[.int .u64 s.a, .int .u64 s.b, .int .u64 s.c, .int .u64 s.d] 24 (0, 0)) := by rw [hw1]; exact newAt _ _
  have HA := Lib.hid (awake6_any w1 (hE.1.on f01) (hE.2.on f01))
  have HSS := Lib.hid (fun w' (f : Fr nob w w') => show_Set s w' hs (hE.1.on f))
  have hle := setT_le s
  have HP := Lib.hid (fun (h : (setT s).length ≤ 250) w' (f : Fr nob w w') => by
    have := ere_parse (setT s) w' (by omega) (hE.1.on f)
    rw [set_back hs h] at this
    exact this)
  obtain ⟨T, hT⟩ : ∃ T, setT s = T := ⟨_, rfl⟩
  rw [hT] at HSS HP hle
  have F01 := Lib.hid f01; have HW1 := Lib.hid hw1; have HB1 := Lib.hid hb1
  clear hs hE f01 hw1 hb1 hT
  by_cases h250 : (250 : Int) < T.length
  · go_enter Tryz.func6, Tryz.ntmps6
    go_wp2_with (rw [← HW1.out])
    refine HA.out.mono ?_
    rintro e w2 ⟨rfl, f2⟩
    have hb2 := f2.heap HB1.out (fun x => x)
    have c0 := cell_at (j := 0) hb2 rfl
    have c1 := cell_at (j := 1) hb2 rfl
    have c2 := cell_at (j := 2) hb2 rfl
    have c3 := cell_at (j := 3) hb2 rfl
    have F2 := Lib.hid (F01.out.trans' f2); clear f2 hb2
    go_wp2_with fail
    refine (HSS.out _ F2.out).mono ?_
    rintro e w3 ⟨rfl, f3⟩
    have F3 := Lib.hid (F2.out.trans' f3); clear f3 c0 c1 c2 c3
    go_wp2
    go_ret
    exact ⟨rfl, F3.out⟩
  · have HPP := Lib.hid (HP.out (by omega))
    have ho := isOne_self s
    go_enter Tryz.func6, Tryz.ntmps6
    go_wp2_with (rw [← HW1.out])
    refine HA.out.mono ?_
    rintro e w2 ⟨rfl, f2⟩
    have hb2 := f2.heap HB1.out (fun x => x)
    have c0 := cell_at (j := 0) hb2 rfl
    have c1 := cell_at (j := 1) hb2 rfl
    have c2 := cell_at (j := 2) hb2 rfl
    have c3 := cell_at (j := 3) hb2 rfl
    have HB2 := Lib.hid hb2
    have F2 := Lib.hid (F01.out.trans' f2); clear f2 hb2
    go_wp2_with fail
    refine (HSS.out _ F2.out).mono ?_
    rintro e w3 ⟨rfl, f3⟩
    have hb3 := f3.heap HB2.out (fun x => x)
    have HB3 := Lib.hid hb3
    have F3 := Lib.hid (F2.out.trans' f3); clear f3 c0 c1 c2 c3 hb3
    go_wp2_with fail
    refine (HPP.out _ F3.out).mono ?_
    rintro e w4 ⟨f4, r, mv, rfl, hr, hm⟩
    obtain ⟨a, c, rfl⟩ : ∃ a c, mv = .slice a 0 c := ownsRow_slice hm
    have hb4 := f4.heap HB3.out (fun x => x)
    have c0 := cell_at (j := 0) hb4 rfl
    have c1 := cell_at (j := 1) hb4 rfl
    have c2 := cell_at (j := 2) hb4 rfl
    have c3 := cell_at (j := 3) hb4 rfl
    have HH := Lib.hid (fun w' (f : Fr nob w4 w') => by
      have := holds_any (.one s) s r w' (hr.on f)
      rw [ho] at this
      exact this)
    have F4 := Lib.hid (F3.out.trans' f4); clear f4 hb4 hr hm ho
    go_wp2_with fail
    refine (HH.out _ (Fr.refl _ _)).mono ?_
    rintro e w5 ⟨rfl, f5⟩
    have F5 := Lib.hid (F4.out.trans' f5); clear f5
    go_wp2
    go_ret
    exact ⟨rfl, F5.out⟩

namespace showSetBack
open Go.ChangeShapes Go.WideShapes Go.ChangeAt Go.RowKit
open Go.ChangeMaps (open_string shut_string)

theorem readable : ∀ t ∈ Tryz.f6.params.toList, Tryz.prog.readableRec t = true ∧ t < Tryz.prog.types.size := by
  rw [Tryz.params6]
  intro t ht
  simp only [List.mem_cons, List.not_mem_nil, or_false] at ht
  subst ht
  exact ⟨by kernel_rfl, of_decide_eq_true (by kernel_rfl)⟩

set_option maxRecDepth 100000 in
theorem lifted (os : Os) (started : os.Started) (H : Type) (enc : TypeId × Value → H) :
    ReturnsInHanded {} Tryz.checked os 6 .any (fun w args => (Rows.showSetBackSpec.pre enc Tryz.prog Tryz.f6 [] false w args ∧ laidMetH Tryz.prog door.list1 w) ∧ sizedMet enc Tryz.prog Tryz.f6 (OpenSpec.ofChange Rows.showSetBackSpec) false w args)
      (Rows.showSetBackSpec.post enc Tryz.prog Tryz.f6 false true false false) := by
  refine returns_door (C := Tryz.checked) (X := fun w _ => laidMetH Tryz.prog door.list1 w) (fun _ _ _ hh h => h.of_heap hh) door.own started (by kernel_rfl) Tryz.func6
    (ChangeSpec.witness_shaped (enc := enc) (C := Tryz.checked) (os := os) (X := fun w _ => laidMetH Tryz.prog door.list1 w) false (World.doorLaid Tryz.prog 14 os) #[.agg #[.int .u64 0, .int .u64 0, .int .u64 0, .int .u64 0]] 8 rfl (World.shaped_of_RefB (by kernel_rfl) (by kernel_rfl)) (by kernel_rfl) (by kernel_rfl) (by kernel_rfl) (door.met os _)) ?_
  intro W base args ds gs before hval0 hW _ hL hsh
  have hval : ∀ (j : Nat) t v, Tryz.f6.params[j]? = some t → args[j]? = some v → Value.okWide Tryz.prog W .any base t v := hval0
  have hW' : DataW.Whole enc Tryz.prog Tryz.f6.params.toList Rows.showSetBackSpec.vars false W args.toList ds gs before := hW
  obtain ⟨p, q, hA0, hV, rfl, hfz, hnd⟩ := hW
  have hA : DataW.TrodAll enc Tryz.prog W 0 (fun _ => true) true Tryz.f6.params.toList args.toList ds p := hA0
  rw [Tryz.params6] at hA hval
  obtain ⟨v0, vs0, d0, ds0, p0, q0, hargs, rfl, rfl, h0, r0⟩ := trodAll_cons hA
  obtain ⟨rfl, rfl, rfl⟩ := trodAll_nil r0
  obtain rfl : args = #[v0] := by cases args; simp_all
  obtain ⟨rfl, rfl⟩ := trodVars_none hV
  obtain ⟨zs0, hz0, rfl, hw0⟩ := open_iarr Tryz.underlying24 Tryz.underlying22 (by kernel_rfl) (by kernel_rfl) (hval 0 24 v0 rfl rfl) h0
  obtain ⟨a0, b0, c0, e0, rfl⟩ := list4_of hz0
  have hf0 : (S4.mk a0 b0 c0 e0).fit := ⟨fit_of_wf (hw0 _ (by simp)), fit_of_wf (hw0 _ (by simp)), fit_of_wf (hw0 _ (by simp)), fit_of_wf (hw0 _ (by simp))⟩
  refine (show Calls Tryz.prog 6 #[.agg #[.int .u64 a0, .int .u64 b0, .int .u64 c0, .int .u64 e0]] W _ from ?_).mono fun e W' h => h
  refine (lawShowSetBack ⟨a0, b0, c0, e0⟩ W hf0 (door.env hL hsh)).mono fun e W' ⟨he, hg⟩ => ?_
  subst he
  exact ⟨_, rfl, law_post rfl (by kernel_rfl) Tryz.underlying4 door.laidOut readable rfl hW' hg.below⟩

theorem over : Rows.showSetBackRow.holds Tryz.pinned (OpenSpec.ofChange Rows.showSetBackSpec) :=
  OpenClaim.holds_of_wide 6 Tryz.f6 rfl rfl rfl rfl rfl rfl rfl ⟨rfl, rfl, rfl, rfl, rfl⟩ rfl rfl rfl rfl rfl (by kernel_rfl) Tryz.func6 (by kernel_rfl)
    (of_decide_eq_true (by kernel_rfl)) (by unfold Func.isWrapper; first | (rw [if_pos (by decide +kernel)]; kernel_rfl) | (rw [if_neg (by decide +kernel)]; exact ⟨rfl, rfl⟩))
    (fun os started H enc _ => lifted os started H enc)

/-- THE STATEMENT: the tied card. -/
theorem proved : Rows.ShowSetBackCardSaid :=
  Claim7.holds_tied_plain_at .later [] [.data, .data, .data] true _ true over (fun _ h => by cases h) (by kernel_rfl) (fun _ h => by cases h) showSetBack_row_tie rfl ⟨rfl, rfl⟩ (by kernel_rfl) rfl
    (fun f fn hf hfn => by
      obtain rfl : f = 6 := (Option.some.inj ((show Tryz.prog.funcNamed "placket/placketlaw06.ShowSetBack" = some 6 by kernel_rfl).symm.trans hf)).symm
      obtain rfl : fn = Tryz.f6 := (Option.some.inj (Tryz.func6.symm.trans hfn)).symm
      exact ⟨by kernel_rfl, fun j t ht => by
        rw [Tryz.params6] at ht
        have hm : t ∈ [24] := by
          have := Array.mem_of_getElem? ht
          simpa using this
        exact List.all_eq_true.1 (show ([24] : List TypeId).all (fun t => !Tryz.prog.wantsStandIn t) = true by kernel_rfl) t hm |> fun h => by show Tryz.prog.wantsStandIn t = false; simpa using h⟩)
    (by kernel_rfl)
#print axioms proved
end showSetBack

end Go.Proofs.YtlchaocpejfikaaGreatDoor
