/-
  TreeAsks: of any tree what each call answers is the document's. Where what the law reads is of bulk at most 1048576.
-/
import Derived.Test.YticeknkikflmkaaLawSames
import Derived.Test.YticeknkikflmkaaRefG
namespace Go.Proofs.Yticeknkikflmkaa
open Go.RowKit
attribute [local go_sem ↓] Go.wp_at_zero Go.wp_at_succ

set_option maxRecDepth 100000 in
set_option maxHeartbeats 8000000 in
theorem lawAsks (t : T) (cs : List Value) (w : World) (hb : t.bulk ≤ 1048576) (h : RT nob w t cs) :
    Calls Try.prog 6 #[.agg cs.toArray] w fun e w' => e = .returned (.bool true) ∧ Fr nob w w' := by
  obtain ⟨kd, s, ps, mn, mx, nu, ua, uc, _, rfl, _⟩ := h.open'
  have HT := Lib.hid h; clear h
  have hz := T.nd_size t
  have hz : t.nd.size ≤ 3000000 := by omega
  obtain ⟨rr, hrr⟩ : ∃ r, t.nd.right = r := ⟨_, rfl⟩
  obtain ⟨bb, hbb⟩ : ∃ r, t.nd.backs = r := ⟨_, rfl⟩
  have HRR := Lib.hid hrr; have HBB := Lib.hid hbb
  have hzi : (t.nd.size : Int) ≤ 3000000 := by omega
  clear hrr hbb
  go_enter Try.func6, Try.ntmps6
  go_wp2_with fail
  refine (awake_any _).mono ?_
  rintro e w1 ⟨rfl, f1⟩
  have hx1 := f1.heap (heap_alloc_new _ _) (fun x => x)
  obtain ⟨x0, x1, x2, x3, x4, x5, x6, x7, x8⟩ := C9.of hx1
  have HX1 := Lib.hid hx1
  have F1 := Lib.hid (((Fr.refl nob w).alloc _).trans' f1); clear f1 hx1
  go_wp2_with fail
  refine (few_any t 200 _ _ (by omega) (HT.out.on F1.out)).mono ?_
  rintro e w2 ⟨rfl, f2⟩
  have F2 := Lib.hid (F1.out.trans' f2); have HX2 := Lib.hid (f2.heap HX1.out (fun x => x)); clear f2 x0 x1 x2 x3 x4 x5 x6 x7 x8
  cases hfa : t.few 200 with
  | false =>
    clear hfa
    go_wp2_with fail
    refine (awake_any _).mono ?_
    rintro e w3 ⟨rfl, f3⟩
    go_wp2
    go_ret
    exact ⟨rfl, F2.out.trans' f3⟩
  | true =>
    have HK := Lib.hid (T.few_known hfa)
    clear hfa
    obtain ⟨x0, x1, x2, x3, x4, x5, x6, x7, x8⟩ := C9.of HX2.out
    go_wp2_with fail
    refine (real_any _ t _ _ (Nat.le_refl _) hz (HT.out.on F2.out)).mono ?_
    rintro e w3 ⟨v, rfl, r3, f3⟩
    obtain ⟨i1, y1, rfl⟩ := T.nd_iface r3
    have HN := Lib.hid r3.any; have F3 := Lib.hid (F2.out.trans' f3); have HX3 := Lib.hid (f3.heap HX2.out (fun x => x)); clear r3 f3 x0 x1 x2 x3 x4 x5 x6 x7 x8
    have HC := Lib.hid (C9.on (C9.of HX3.out) ((Fr.refl nob _).drew))
    have FD := Lib.hid F3.out.drew
    go_wp2_with fail
    go_region_held3 (fun w' => C9 w' w.heap.size (.int .i64 kd) (.int .u64 s.a) (.int .u64 s.b) (.int .u64 s.c) (.int .u64 s.d) (.slice ua ps.length uc) (.int .i64 mn) (.int .i64 mx) (.int .i64 nu))
      (first | (with_reducible exact HC.out) | (with_reducible exact C9.on HC.out G1.out) | (with_reducible exact C9.on HC.out G2.out) | (with_reducible exact C9.on HC.out G3.out) | (with_reducible exact C9.on HC.out G4.out) | (with_reducible exact C9.on HC.out G5.out) | (with_reducible exact C9.on HC.out G6.out) | (with_reducible exact C9.on HC.out G7.out) | (with_reducible exact C9.on HC.out G8.out) | (with_reducible exact C9.on HC.out G9.out) | (with_reducible exact C9.on HC.out G10.out) | (with_reducible exact C9.on HC.out G11.out) | (with_reducible exact C9.on HC.out G12.out) | (with_reducible exact C9.on HC.out G13.out) | (with_reducible exact C9.on HC.out G14.out))
      (first | (go_at_call 20; (with_reducible refine (right_of t.nd _ _ hz (HN.out.on (Fr.drew (Fr.refl nob _)))).mono ?_); rintro e g1 ⟨he, f1⟩; rw [HRR.out] at he; subst he; have G1 := Lib.hid (f1); clear f1) | (go_at_call 21; (with_reducible refine (right_ref t _ _ hz HK.out (HT.out.on (FD.out.trans' G1.out))).mono ?_); rintro e g2 ⟨he, f2⟩; rw [HRR.out] at he; subst he; have G2 := Lib.hid (G1.out.trans' f2); clear f2) | (go_at_call 22; (with_reducible refine (size_any _ t.nd _ _ (Nat.le_refl _) hz (HN.out.on (Fr.trans' ((Fr.refl nob _).drew) G2.out))).mono ?_); rintro e g3 ⟨rfl, f3⟩; skip; have G3 := Lib.hid (G2.out.trans' f3); clear f3) | (go_at_call 23; (with_reducible refine (tnsize_T _ t _ _ (Nat.le_refl _) hz (HT.out.on (FD.out.trans' G3.out))).mono ?_); rintro e g4 ⟨rfl, f4⟩; skip; have G4 := Lib.hid (G3.out.trans' f4); clear f4) | (go_at_call 24; (with_reducible refine (deep_any _ t.nd _ _ (Nat.le_refl _) hz (HN.out.on (Fr.trans' ((Fr.refl nob _).drew) G4.out))).mono ?_); rintro e g5 ⟨rfl, f5⟩; skip; have G5 := Lib.hid (G4.out.trans' f5); clear f5) | (go_at_call 25; (with_reducible refine (deep_T _ t _ _ (Nat.le_refl _) hz (HT.out.on (FD.out.trans' G5.out))).mono ?_); rintro e g6 ⟨rfl, f6⟩; skip; have G6 := Lib.hid (G5.out.trans' f6); clear f6) | (go_at_call 26; (with_reducible refine (groups_any _ t.nd _ _ (Nat.le_refl _) hz (HN.out.on (Fr.trans' ((Fr.refl nob _).drew) G6.out))).mono ?_); rintro e g7 ⟨rfl, f7⟩; skip; have G7 := Lib.hid (G6.out.trans' f7); clear f7) | (go_at_call 27; (with_reducible refine (groups_T _ t _ _ (Nat.le_refl _) hz (HT.out.on (FD.out.trans' G7.out))).mono ?_); rintro e g8 ⟨rfl, f8⟩; skip; have G8 := Lib.hid (G7.out.trans' f8); clear f8) | (go_at_call 28; (with_reducible refine (backs_any _ t.nd _ _ (Nat.le_refl _) hz (HN.out.on (Fr.trans' ((Fr.refl nob _).drew) G8.out))).mono ?_); rintro e g9 ⟨he, f9⟩; rw [HBB.out] at he; subst he; have G9 := Lib.hid (G8.out.trans' f9); clear f9) | (go_at_call 29; (with_reducible refine (backs_T _ t _ _ (Nat.le_refl _) hz (HT.out.on (FD.out.trans' G9.out))).mono ?_); rintro e g10 ⟨he, f10⟩; rw [HBB.out] at he; subst he; have G10 := Lib.hid (G9.out.trans' f10); clear f10) | (go_at_call 18; (with_reducible refine (same_any _ t.nd t.nd _ _ _ (Nat.le_refl _) hz hz (HN.out.on (Fr.trans' ((Fr.refl nob _).drew) G10.out)) (HN.out.on (Fr.trans' ((Fr.refl nob _).drew) G10.out))).mono ?_); rintro e g11 ⟨q, rfl, hq, f11⟩; obtain rfl := hq.2 rfl; clear hq; have G11 := Lib.hid (G10.out.trans' f11); clear f11) | (go_at_call 22; (with_reducible refine (size_any 1 .nil _ _ (Nat.le_refl _) (by simp [Nd.size]) (by rw [RN])).mono ?_); rintro e g12 ⟨rfl, f12⟩; skip; have G12 := Lib.hid (G11.out.trans' f12); clear f12) | (go_at_call 20; (with_reducible refine (right_of .nil _ _ (by simp [Nd.size]) (by rw [RN])).mono ?_); rintro e g13 ⟨he, f13⟩; rw [show Nd.nil.right = true from rfl] at he; subst he; have G13 := Lib.hid (G12.out.trans' f13); clear f13) | (go_at_call 18; (with_reducible refine (same_any 1 .nil .empty _ _ _ (Nat.le_refl _) (by simp [Nd.size]) (by simp [Nd.size]) (by rw [RN]) (by rw [RN])).mono ?_); rintro e g14 ⟨q, rfl, hq, f14⟩; obtain rfl := hq.2 rfl; clear hq; have G14 := Lib.hid (G13.out.trans' f14); clear f14))
    all_goals
      go_wp2
      go_ret
      exact ⟨rfl, FD.out.trans' G14.out⟩

namespace treeAsks
open Go.ChangeShapes Go.WideShapes Go.ChangeAt Go.RowKit

theorem own : ownKnob Try.prog.godebug = none := by kernel_rfl
theorem laidOut : laidOutB Try.prog = true := by kernel_rfl

theorem readable : ∀ t ∈ Try.f6.params.toList, Try.prog.readableRec t = true ∧ t < Try.prog.types.size := by
  rw [Try.params6]
  intro t ht
  simp only [List.mem_cons, List.not_mem_nil, or_false] at ht
  rcases ht with rfl
  all_goals exact ⟨by kernel_rfl, of_decide_eq_true (by kernel_rfl)⟩

theorem contract (H : Type) (enc : TypeId × Value → H) (W : World) (base : Nat) (args : Array Value) (ds gs : List (DataW H)) (before : List MemPlace)
    (hval : ∀ (j : Nat) t v, Try.f6.params[j]? = some t → args[j]? = some v → Value.okWide Try.prog W .any base t v)
    (hW : DataW.Whole enc Try.prog Try.f6.params.toList Rows.treeAsksSpec.vars false W args.toList ds gs before) (hk : Rows.uptoSmall H (ds ++ gs) = true) :
    Calls Try.prog 6 args W fun e W' => ∃ v, e = .returned v ∧ Rows.treeAsksSpec.post enc Try.prog Try.f6 false true false false W args v W' := by
  have hW' := hW
  obtain ⟨p, q, hA0, hV, rfl, hfz, hnd⟩ := hW
  have hA : DataW.TrodAll enc Try.prog W 0 (fun _ => true) true Try.f6.params.toList args.toList ds p := hA0
  rw [Try.params6] at hA hval
  obtain ⟨v0, vs0, d0, ds0, p0, q0, hargs, rfl, rfl, h0, r0⟩ := trodAll_cons hA
  obtain ⟨rfl, rfl, rfl⟩ := trodAll_nil r0
  obtain rfl : args = #[v0] := by cases args; simp_all
  obtain ⟨rfl, rfl⟩ := trodVars_none hV
  have hb := of_decide_eq_true hk
  simp only [List.append_nil, Rows.uptoBulkAll, Nat.add_zero] at hb
  obtain ⟨t0, c0, rfl, e0, w0, b0⟩ := open_T (hval 0 27 v0 rfl rfl) h0
  refine (lawAsks t0 c0 W (by omega) e0).mono fun e W' ⟨he, hg⟩ => ?_
  subst he
  exact ⟨_, rfl, law_post rfl (by kernel_rfl) Try.underlying4 laidOut readable rfl hW' hg.below⟩

set_option maxRecDepth 100000 in
theorem lifted (os : Os) (started : os.Started) (H : Type) (enc : TypeId × Value → H) (F : Stop.Interp) :
    ReturnsInHanded {} Try.checked os 6 .any ((Rows.OpenSpec.upto Rows.treeAsksSpec).pre6 enc Try.prog Try.f6 Rows.treeAsksUptoRow.domain false) (((Rows.OpenSpec.upto Rows.treeAsksSpec).at F).post enc Try.prog Try.f6 false true false false) := by
  refine returnsInHanded_of_cond (C := Try.checked) (s := Rows.OpenSpec.upto Rows.treeAsksSpec) (k := Rows.uptoSmall) rfl own started (by kernel_rfl) Try.func6
    (OpenSpec.witness (enc := enc) (C := Try.checked) (s := Rows.OpenSpec.upto Rows.treeAsksSpec) (k := Rows.uptoSmall) rfl false ⟨#[], #[.agg #[.int .i64 0, .int .u64 0, .int .u64 0, .int .u64 0, .int .u64 0, .slice none 0 0, .int .i64 0, .int .i64 0, .int .i64 0]], []⟩ 8 (by kernel_rfl) (by kernel_rfl) (by kernel_rfl)
      (x := ([.agg [.lit (.int .i64 0), .agg [.lit (.int .u64 0), .lit (.int .u64 0), .lit (.int .u64 0), .lit (.int .u64 0)], .nil, .lit (.int .i64 0), .lit (.int .i64 0), .lit (.int .i64 0)]], [], [])) (by kernel_rfl) rfl (by kernel_rfl)) ?_
  intro W base args ds gs before hval hW _ hk _
  exact contract H enc W base args ds gs before hval hW hk

theorem over : Rows.treeAsksUptoRow.holds Try.pinned (Rows.OpenSpec.upto Rows.treeAsksSpec) :=
  OpenClaim.holds_of_cond 6 Try.f6 rfl rfl rfl rfl rfl rfl rfl ⟨rfl, rfl, rfl, rfl, rfl⟩ rfl rfl rfl rfl rfl (by kernel_rfl) Try.func6 (by kernel_rfl)
    (of_decide_eq_true (by kernel_rfl)) (by unfold Func.isWrapper; first | (rw [if_pos (by decide +kernel)]; kernel_rfl) | (rw [if_neg (by decide +kernel)]; exact ⟨rfl, rfl⟩))
    (fun os started H enc _ F => lifted os started H enc F)

/-- THE STATEMENT. -/
theorem proved : Rows.TreeAsksUptoSaid := over
#print axioms proved
end treeAsks

end Go.Proofs.Yticeknkikflmkaa
