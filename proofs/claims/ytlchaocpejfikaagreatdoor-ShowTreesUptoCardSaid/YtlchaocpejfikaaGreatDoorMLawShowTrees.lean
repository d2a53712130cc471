/-
  ShowTrees: any tree as a text is the document's; one that isn't right has none. Where what the law reads is of bulk at most 1048576; the tables of the library lie as start-up lays them (tied).
-/
import Derived.Test.YtlchaocpejfikaaGreatDoorCards
import Derived.Test.YtlchaocpejfikaaGreatDoorTie
import Derived.Test.YtlchaocpejfikaaGreatDoorM16
import Derived.Test.YtlchaocpejfikaaGreatDoorM24
import Derived.Test.YtlchaocpejfikaaGreatDoorM29
import Derived.Test.YtlchaocpejfikaaGreatDoorM33

namespace Go.Proofs.YtlchaocpejfikaaGreatDoor
open Go.RowKit
attribute [local go_sem ↓] Go.wp_at_zero Go.wp_at_succ

set_option maxRecDepth 100000 in
set_option maxHeartbeats 8000000 in
theorem lawShowTrees (t : T) (cs : List Value) (w : World) (hb : t.bulk ≤ 1048576) (h : RT nob w t cs) (hwf : t.wf) (hE : Env6 w) :
    Calls Tryz.prog 4 #[.agg cs.toArray] w fun e w' => e = .returned (.bool true) ∧ Fr nob w w' := by
  obtain ⟨kd, s, ps, mn, mx, nu, ua, uc, _, rfl, _⟩ := h.open'
  have HT := Lib.hid h; clear h
  obtain ⟨w0, hw0⟩ : ∃ w0, w0 = w.alloc (.cells #[.int .i64 kd, .int .u64 s.a, .int .u64 s.b, .int .u64 s.c, .int .u64 s.d, .slice ua ps.length uc, .int .i64 mn, .int .i64 mx, .int .i64 nu] 32) := ⟨_, rfl⟩
  have f0 : Fr nob w w0 := by rw [hw0]; exact (Fr.refl _ _).alloc _
  have hb0 : w0.heap[w.heap.size]? = some (.cells #[.int .i64 kd, .int .u64 s.a, .int .u64 s.b, .int .u64 s.c, .int .u64 s.d, .slice ua ps.length uc, .int .i64 mn, .int .i64 mx, .int .i64 nu] 32 (0, 0)) := by rw [hw0]; exact newAt _ _
  have HA := Lib.hid (awake6_any w0 (hE.1.on f0) (hE.2.on f0))
  have HE1 := Lib.hid hE.1; have HE2 := Lib.hid hE.2; have HW0 := Lib.hid hw0; have F0 := Lib.hid f0; have HB0 := Lib.hid hb0
  clear hE hw0 f0 hb0
  go_enter Tryz.func4, Tryz.ntmps4
  go_wp2_with (rw [← HW0.out])
  refine HA.out.mono ?_
  rintro e w1 ⟨rfl, f1⟩
  have hx1 := f1.heap HB0.out (fun x => x)
  obtain ⟨x0, x1, x2, x3, x4, x5, x6, x7, x8⟩ := C9.of hx1
  have HX1 := Lib.hid hx1
  have F1 := Lib.hid (F0.out.trans' f1); clear f1 hx1
  go_wp2_with fail
  refine (few_any t 60 _ _ (by omega) (HT.out.on F1.out)).mono ?_
  rintro e w2 ⟨rfl, f2⟩
  have F2 := Lib.hid (F1.out.trans' f2); have HX2 := Lib.hid (f2.heap HX1.out (fun x => x)); clear f2 x0 x1 x2 x3 x4 x5 x6 x7 x8
  cases hfa : t.few 60 with
  | false =>
    clear hfa
    go_wp2_with fail
    refine (awake6_any w2 (HE1.out.on F2.out) (HE2.out.on F2.out)).mono ?_
    rintro e w3 ⟨rfl, f3⟩
    go_wp2
    go_ret
    exact ⟨rfl, F2.out.trans' f3⟩
  | true =>
    obtain ⟨hz, hk, hs⟩ := T.few_shw hfa hwf
    have HK := Lib.hid hk; have HS := Lib.hid hs
    clear hfa hk hs hwf
    obtain ⟨tx, htx⟩ : ∃ tx, (if t.nd.right = true then t.nd.txt else []) = tx := ⟨_, rfl⟩
    have HTX := Lib.hid htx; clear htx
    have HC := Lib.hid (C9.on (C9.of HX2.out) ((Fr.refl nob _).drew))
    have FD := Lib.hid F2.out.drew
    go_wp2_with fail
    go_region_held3 (fun w' => C9 w' w.heap.size (.int .i64 kd) (.int .u64 s.a) (.int .u64 s.b) (.int .u64 s.c) (.int .u64 s.d) (.slice ua ps.length uc) (.int .i64 mn) (.int .i64 mx) (.int .i64 nu))
      (first | (with_reducible exact HC.out) | (with_reducible exact C9.on HC.out G1.out) | (with_reducible exact C9.on HC.out G2.out) | (with_reducible exact C9.on HC.out G3.out))
      (first | (go_at_call 13; (with_reducible refine (real_any _ t _ _ (Nat.le_refl _) (by omega) (HT.out.on FD.out)).mono ?_); rintro e g1 ⟨v, rfl, r1, f1⟩; obtain ⟨i1, y1, rfl⟩ := T.nd_iface r1; have R1 := Lib.hid r1.any; have G1 := Lib.hid f1; clear f1 r1) | (go_at_call 12; (with_reducible refine (show_Ere t.nd _ _ (HE1.out.on (FD.out.trans' G1.out)) (HE2.out.on (FD.out.trans' G1.out)) (by omega) R1.out HS.out).mono ?_); rintro e g2 ⟨he, f2⟩; rw [HTX.out] at he; subst he; have G2 := Lib.hid (G1.out.trans' f2); clear f2) | (go_at_call 14; (with_reducible refine (ref_Ere t _ _ (by omega) HK.out HS.out (HT.out.on (FD.out.trans' G2.out))).mono ?_); rintro e g3 ⟨he, f3⟩; rw [HTX.out] at he; subst he; have G3 := Lib.hid (G2.out.trans' f3); clear f3))
    all_goals
      go_wp2
      go_ret
      exact ⟨rfl, FD.out.trans' G3.out⟩

namespace showTrees
open Go.ChangeShapes Go.WideShapes Go.ChangeAt Go.RowKit

theorem readable : ∀ t ∈ Tryz.f4.params.toList, Tryz.prog.readableRec t = true ∧ t < Tryz.prog.types.size := by
  rw [Tryz.params4]
  intro t ht
  simp only [List.mem_cons, List.not_mem_nil, or_false] at ht
  subst ht
  exact ⟨by kernel_rfl, of_decide_eq_true (by kernel_rfl)⟩

set_option maxRecDepth 100000 in
theorem contract (H : Type) (enc : TypeId × Value → H) (W : World) (base : Nat) (args : Array Value) (ds gs : List (DataW H)) (before : List MemPlace)
    (hval : ∀ (j : Nat) t v, Tryz.f4.params[j]? = some t → args[j]? = some v → Value.okWide Tryz.prog W .any base t v)
    (hW : DataW.Whole enc Tryz.prog Tryz.f4.params.toList Rows.showTreesSpec.vars false W args.toList ds gs before) (hk : Rows.uptoSmall H (ds ++ gs) = true) (hL : laidMetH Tryz.prog door.list1 W) (hsh : W.ShapedOpen Tryz.prog) :
    Calls Tryz.prog 4 args W fun e W' => ∃ v, e = .returned v ∧ Rows.showTreesSpec.post enc Tryz.prog Tryz.f4 false true false false W args v W' := by
  have hW' := hW
  obtain ⟨p, q, hA0, hV, rfl, hfz, hnd⟩ := hW
  have hA : DataW.TrodAll enc Tryz.prog W 0 (fun _ => true) true Tryz.f4.params.toList args.toList ds p := hA0
  rw [Tryz.params4] at hA hval
  obtain ⟨v0, vs0, d0, ds0, p0, q0, hargs, rfl, rfl, h0, r0⟩ := trodAll_cons hA
  obtain ⟨rfl, rfl, rfl⟩ := trodAll_nil r0
  obtain rfl : args = #[v0] := by cases args; simp_all
  obtain ⟨rfl, rfl⟩ := trodVars_none hV
  have hb := of_decide_eq_true hk
  simp only [List.append_nil, Rows.uptoBulkAll, Nat.add_zero] at hb
  obtain ⟨t0, c0, rfl, e0, w0, b0⟩ := open_T (hval 0 32 v0 rfl rfl) h0
  refine (lawShowTrees t0 c0 W (by omega) e0 w0 (door.env hL hsh)).mono fun e W' ⟨he, hg⟩ => ?_
  subst he
  exact ⟨_, rfl, law_post rfl (by kernel_rfl) Tryz.underlying4 door.laidOut readable rfl hW' hg.below⟩

set_option maxRecDepth 100000 in
theorem lifted (os : Os) (started : os.Started) (H : Type) (enc : TypeId × Value → H) (F : Stop.Interp) :
    ReturnsInHanded {} Tryz.checked os 4 .any (fun w args => ((Rows.OpenSpec.upto Rows.showTreesSpec).pre enc Tryz.prog Tryz.f4 [] false w args ∧ laidMetH Tryz.prog door.list1 w) ∧ sizedMet enc Tryz.prog Tryz.f4 (Rows.OpenSpec.upto Rows.showTreesSpec) false w args)
      (((Rows.OpenSpec.upto Rows.showTreesSpec).at F).post enc Tryz.prog Tryz.f4 false true false false) := by
  refine returns_doorU (C := Tryz.checked) (s := Rows.OpenSpec.upto Rows.showTreesSpec) (k := Rows.uptoSmall) rfl (X := fun w _ => laidMetH Tryz.prog door.list1 w) (fun _ _ _ hh h => h.of_heap hh) door.own started (by kernel_rfl) Tryz.func4
    (witnessU (enc := enc) (C := Tryz.checked) (os := os) (s := Rows.OpenSpec.upto Rows.showTreesSpec) (k := Rows.uptoSmall) rfl (X := fun w _ => laidMetH Tryz.prog door.list1 w) false (World.doorLaid Tryz.prog 14 os) #[.agg #[.int .i64 0, .int .u64 0, .int .u64 0, .int .u64 0, .int .u64 0, .slice none 0 0, .int .i64 0, .int .i64 0, .int .i64 0]] 8 rfl (World.shaped_of_RefB (by kernel_rfl) (by kernel_rfl)) (by kernel_rfl)
      (x := ([.agg [.lit (.int .i64 0), .agg [.lit (.int .u64 0), .lit (.int .u64 0), .lit (.int .u64 0), .lit (.int .u64 0)], .nil, .lit (.int .i64 0), .lit (.int .i64 0), .lit (.int .i64 0)]], [], [])) (by kernel_rfl) rfl (by kernel_rfl) (by kernel_rfl) (door.met os _)) ?_
  intro W base args ds gs before hval hW hk hL hsh
  exact contract H enc W base args ds gs before hval hW hk hL hsh

theorem over : Rows.showTreesUptoRow.holds Tryz.pinned (Rows.OpenSpec.upto Rows.showTreesSpec) :=
  OpenClaim.holds_of_cond 4 Tryz.f4 rfl rfl rfl rfl rfl rfl rfl ⟨rfl, rfl, rfl, rfl, rfl⟩ rfl rfl rfl rfl rfl (by kernel_rfl) Tryz.func4 (by kernel_rfl)
    (of_decide_eq_true (by kernel_rfl)) (by unfold Func.isWrapper; first | (rw [if_pos (by decide +kernel)]; kernel_rfl) | (rw [if_neg (by decide +kernel)]; exact ⟨rfl, rfl⟩))
    (fun os started H enc _ F => lifted os started H enc F)

/-- THE STATEMENT: the tied card. -/
theorem proved : Rows.ShowTreesUptoCardSaid :=
  Claim7.holds_tied_plain_at .later [] [.data, .data, .data] true _ true over (fun _ h => by cases h) (by kernel_rfl) (fun _ h => by cases h) showTreesUpto_row_tie rfl ⟨rfl, rfl⟩ (by kernel_rfl) rfl
    (fun f fn hf hfn => by
      obtain rfl : f = 4 := (Option.some.inj ((show Tryz.prog.funcNamed "placket/placketlaw06.ShowTrees" = some 4 by kernel_rfl).symm.trans hf)).symm
      obtain rfl : fn = Tryz.f4 := (Option.some.inj (Tryz.func4.symm.trans hfn)).symm
      exact ⟨by kernel_rfl, fun j t ht => by
        rw [Tryz.params4] at ht
        have hm : t ∈ [32] := by
          have := Array.mem_of_getElem? ht
          simpa using this
        exact List.all_eq_true.1 (show ([32] : List TypeId).all (fun t => !Tryz.prog.wantsStandIn t) = true by kernel_rfl) t hm |> fun h => by show Tryz.prog.wantsStandIn t = false; simpa using h⟩)
    (by kernel_rfl)
#print axioms proved
end showTrees

end Go.Proofs.YtlchaocpejfikaaGreatDoor
