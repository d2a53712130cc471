/-
  TreeSames: whether any two trees are the same is the document's. Where what the law reads is of bulk at most 1048576.
-/
import Derived.Test.YticeknkikflmkaaRefI
import Derived.Test.YticeknkikflmkaaLawT
namespace Go.Proofs.Yticeknkikflmkaa
open Go.RowKit
attribute [local go_sem ↓] Go.wp_at_zero Go.wp_at_succ

mutual
theorem T.nd_norm : ∀ t : T, t.nd.norm = t.nd
  | .mk k s ps mn mx nu => by
    have h1 := T.nds_norm ps
    have h2 := T.nd1_norm ps
    simp only [T.nd]
    split
    · simp [Nd.norm]
    split
    · simp [Nd.norm, h1]
    split
    · simp [Nd.norm, h1]
    split
    · simp [Nd.norm, h2]
    split
    · simp [Nd.norm, h2]
    split
    · simp [Nd.norm]
    split
    · simp [Nd.norm]
    split
    · simp [Nd.norm]
    · simp [Nd.norm]
theorem T.nds_norm : ∀ l : List T, Nd.norms (T.nds l) = T.nds l
  | [] => rfl
  | t :: ts => by simp only [T.nds, Nd.norms, T.nd_norm t, T.nds_norm ts]
theorem T.nd1_norm : ∀ l : List T, (T.nd1 l).norm = T.nd1 l
  | [] => rfl
  | t :: _ => by simp only [T.nd1, T.nd_norm t]
end
mutual
theorem T.nd_size : ∀ t : T, t.nd.size ≤ 2 * t.bulk
  | .mk k s ps mn mx nu => by
    have h1 := T.nds_size ps
    have h2 := T.nd1_size ps
    simp only [T.nd, T.bulk]
    split
    · simp only [Nd.size]; omega
    split
    · simp only [Nd.size]; omega
    split
    · simp only [Nd.size]; omega
    split
    · simp only [Nd.size]; omega
    split
    · simp only [Nd.size]; omega
    split
    · simp only [Nd.size]; omega
    split
    · simp only [Nd.size]; omega
    split
    · simp only [Nd.size]; omega
    · simp only [Nd.size]; omega
theorem T.nds_size : ∀ l : List T, Nd.sizes (T.nds l) ≤ 2 * T.bulks l
  | [] => by simp [T.nds, Nd.sizes]
  | t :: ts => by have := T.nd_size t; have := T.nds_size ts; simp only [T.nds, Nd.sizes, T.bulks]; omega
theorem T.nd1_size : ∀ l : List T, (T.nd1 l).size ≤ 1 + 2 * T.bulks l
  | [] => by simp [T.nd1, Nd.size]
  | t :: ts => by have := T.nd_size t; simp only [T.nd1, T.bulks]; omega
end
theorem T.nd_iface {S : Nat → Prop} {w : World} {t : T} {v : Value} (h : RN S w t.nd v) : ∃ i x, v = .iface i x := by
  rcases h.shape with rfl | h
  · have := T.nd_norm t
    have hn : t.nd = .nil := by
      rcases h.tyv with ⟨e, _⟩ | ⟨i, x, _, e⟩
      · generalize t.nd = n at *
        cases n <;> first | rfl | cases e
      · cases e
    rw [hn] at this
    cases this
  · exact h
theorem T.few_known {t : T} {m : Int} (h : t.few m = true) : t.known = true := by
  unfold T.few at h; simp only [Bool.and_eq_true] at h; exact h.2
theorem RN.any {S : Nat → Prop} {w : World} {n : Nd} {v : Value} (h : RN S w n v) : RN nob w n v := RN.keep (Fr.refl nob _) (fun _ _ x => x.elim) (fun _ _ x => x.elim) _ _ h

set_option maxRecDepth 100000 in
set_option maxHeartbeats 4000000 in
theorem lawSames (a b : T) (ca cb : List Value) (w : World) (hba : a.bulk ≤ 1048576) (hbb : b.bulk ≤ 1048576) (ha : RT nob w a ca) (hb : RT nob w b cb) :
    Calls Try.prog 5 #[.agg ca.toArray, .agg cb.toArray] w fun e w' => e = .returned (.bool true) ∧ Fr nob w w' := by
  obtain ⟨kd, s, ps, mn, mx, nu, ua, uc, _, rfl, _⟩ := ha.open'
  obtain ⟨kd', s', ps', mn', mx', nu', ua', uc', _, rfl, _⟩ := hb.open'
  have HA := Lib.hid ha; have HB := Lib.hid hb; clear ha hb
  have hza := Lib.hid (T.nd_size a); have hzb := Lib.hid (T.nd_size b)
  have HSA := Lib.hid (box2_a w [.int .i64 kd, .int .u64 s.a, .int .u64 s.b, .int .u64 s.c, .int .u64 s.d, .slice ua ps.length uc, .int .i64 mn, .int .i64 mx, .int .i64 nu] [.int .i64 kd', .int .u64 s'.a, .int .u64 s'.b, .int .u64 s'.c, .int .u64 s'.d, .slice ua' ps'.length uc', .int .i64 mn', .int .i64 mx', .int .i64 nu'])
  have HSB := Lib.hid (box2_b w [.int .i64 kd, .int .u64 s.a, .int .u64 s.b, .int .u64 s.c, .int .u64 s.d, .slice ua ps.length uc, .int .i64 mn, .int .i64 mx, .int .i64 nu] [.int .i64 kd', .int .u64 s'.a, .int .u64 s'.b, .int .u64 s'.c, .int .u64 s'.d, .slice ua' ps'.length uc', .int .i64 mn', .int .i64 mx', .int .i64 nu'])
  have F0 := Lib.hid (box2_fr w [.int .i64 kd, .int .u64 s.a, .int .u64 s.b, .int .u64 s.c, .int .u64 s.d, .slice ua ps.length uc, .int .i64 mn, .int .i64 mx, .int .i64 nu] [.int .i64 kd', .int .u64 s'.a, .int .u64 s'.b, .int .u64 s'.c, .int .u64 s'.d, .slice ua' ps'.length uc', .int .i64 mn', .int .i64 mx', .int .i64 nu'])
  go_enter Try.func5, Try.ntmps5
  go_wp2_with fail
  refine (awake_any _).mono ?_
  rintro e w1 ⟨rfl, f1⟩
  obtain ⟨x0, x1, x2, x3, x4, x5, x6, x7, x8⟩ := C9.of (f1.heap HSA.out (fun x => x))
  have F1 := Lib.hid (F0.out.trans' f1)
  have HA1 := Lib.hid (f1.heap HSA.out (fun x => x)); have HB1 := Lib.hid (f1.heap HSB.out (fun x => x)); clear f1
  go_wp2_with fail
  refine (few_any a 200 _ _ (by omega) (HA.out.on F1.out)).mono ?_
  rintro e w2 ⟨rfl, f2⟩
  have F2 := Lib.hid (F1.out.trans' f2); have HA2 := Lib.hid (f2.heap HA1.out (fun x => x)); have HB2 := Lib.hid (f2.heap HB1.out (fun x => x)); clear f2 x0 x1 x2 x3 x4 x5 x6 x7 x8
  cases hfa : a.few 200 with
  | false =>
    clear hfa
    go_wp2_with fail
    refine (awake_any _).mono ?_
    rintro e w3 ⟨rfl, f3⟩
    go_wp2
    go_ret
    exact ⟨rfl, F2.out.trans' f3⟩
  | true =>
    have HKA := Lib.hid (T.few_known hfa)
    clear hfa
    obtain ⟨x0, x1, x2, x3, x4, x5, x6, x7, x8⟩ := C9.of HB2.out
    go_wp2_with fail
    refine (few_any b 200 _ _ (by omega) (HB.out.on F2.out)).mono ?_
    rintro e w3 ⟨rfl, f3⟩
    have F3 := Lib.hid (F2.out.trans' f3); have HA3 := Lib.hid (f3.heap HA2.out (fun x => x)); have HB3 := Lib.hid (f3.heap HB2.out (fun x => x)); clear f3 x0 x1 x2 x3 x4 x5 x6 x7 x8
    cases hfb : b.few 200 with
    | false =>
      clear hfb
      go_wp2_with fail
      refine (awake_any _).mono ?_
      rintro e w4 ⟨rfl, f4⟩
      go_wp2
      go_ret
      exact ⟨rfl, F3.out.trans' f4⟩
    | true =>
      have HKB := Lib.hid (T.few_known hfb)
      clear hfb
      have HC := Lib.hid (C9.two ⟨C9.of HA3.out, C9.of HB3.out⟩ ((Fr.refl nob _).drew))
      have FD := Lib.hid F3.out.drew
      have ha3 : a.nd.size ≤ 3000000 := by have := hza.out; omega
      have hb3 : b.nd.size ≤ 3000000 := by have := hzb.out; omega
      go_wp2_with fail
      go_region_held3 (fun w' => C9 w' w.heap.size (.int .i64 kd) (.int .u64 s.a) (.int .u64 s.b) (.int .u64 s.c) (.int .u64 s.d) (.slice ua ps.length uc) (.int .i64 mn) (.int .i64 mx) (.int .i64 nu) ∧ C9 w' (w.heap.size + 1) (.int .i64 kd') (.int .u64 s'.a) (.int .u64 s'.b) (.int .u64 s'.c) (.int .u64 s'.d) (.slice ua' ps'.length uc') (.int .i64 mn') (.int .i64 mx') (.int .i64 nu'))
        (first | (with_reducible exact HC.out) | (with_reducible exact C9.two HC.out G1.out) | (with_reducible exact C9.two HC.out G2.out) | (with_reducible exact C9.two HC.out G3.out) | (with_reducible exact C9.two HC.out G4.out) | (with_reducible exact C9.two HC.out G5.out) | (with_reducible exact C9.two HC.out G6.out) | (with_reducible exact C9.two HC.out G7.out) | (with_reducible exact C9.two HC.out G8.out))
        (first | (go_at_call 10; (with_reducible refine (real_any _ a _ _ (Nat.le_refl _) ha3 (HA.out.on FD.out)).mono ?_); rintro e g1 ⟨v1, rfl, r1, f1⟩; obtain ⟨i1, y1, rfl⟩ := T.nd_iface r1; have R1 := Lib.hid r1.any; have G1 := Lib.hid f1; clear r1 f1) | (go_at_call 10; (with_reducible refine (real_any _ b _ _ (Nat.le_refl _) hb3 (HB.out.on (FD.out.trans' G1.out))).mono ?_); rintro e g2 ⟨v2, rfl, r2, f2⟩; obtain ⟨i2, y2, rfl⟩ := T.nd_iface r2; have R2 := Lib.hid r2.any; have G12 := Lib.hid f2; have G2 := Lib.hid (G1.out.trans' f2); clear r2 f2) | (go_at_call 18; (with_reducible refine (same_any _ a.nd b.nd _ _ _ (Nat.le_refl _) ha3 hb3 (R1.out.on G12.out) R2.out).mono ?_); rintro e g3 ⟨q1, rfl, h1, f3⟩; have Q1 := Lib.hid h1; have G3 := Lib.hid (G2.out.trans' f3); clear h1 f3) | (go_at_call 19; (with_reducible refine (same_T _ a b _ _ _ (Nat.le_refl _) ha3 hb3 HKA.out HKB.out (HA.out.on (FD.out.trans' G3.out)) (HB.out.on (FD.out.trans' G3.out))).mono ?_); rintro e g4 ⟨q2, he, h2, f4⟩; have hq : q2 = q1 := (Bool.eq_iff_iff.2 (h2.trans (by rw [Q1.out, T.nd_norm, T.nd_norm]))); rw [hq] at he; subst he; have G4 := Lib.hid (G3.out.trans' f4); clear h2 f4 hq) | (go_at_call 10; (with_reducible refine (real_any _ b _ _ (Nat.le_refl _) hb3 (HB.out.on (FD.out.trans' G4.out))).mono ?_); rintro e g5 ⟨v5, rfl, r5, f5⟩; obtain ⟨i5, y5, rfl⟩ := T.nd_iface r5; have R5 := Lib.hid r5.any; have G5 := Lib.hid (G4.out.trans' f5); clear r5 f5) | (go_at_call 10; (with_reducible refine (real_any _ a _ _ (Nat.le_refl _) ha3 (HA.out.on (FD.out.trans' G5.out))).mono ?_); rintro e g6 ⟨v6, rfl, r6, f6⟩; obtain ⟨i6, y6, rfl⟩ := T.nd_iface r6; have R6 := Lib.hid r6.any; have G16 := Lib.hid f6; have G6 := Lib.hid (G5.out.trans' f6); clear r6 f6) | (go_at_call 18; (with_reducible refine (same_any _ b.nd a.nd _ _ _ (Nat.le_refl _) hb3 ha3 (R5.out.on G16.out) R6.out).mono ?_); rintro e g7 ⟨q3, rfl, h3, f7⟩; have Q3 := Lib.hid h3; have G7 := Lib.hid (G6.out.trans' f7); clear h3 f7) | (go_at_call 19; (with_reducible refine (same_T _ a b _ _ _ (Nat.le_refl _) ha3 hb3 HKA.out HKB.out (HA.out.on (FD.out.trans' G7.out)) (HB.out.on (FD.out.trans' G7.out))).mono ?_); rintro e g8 ⟨q4, he, h4, f8⟩; have hq : q4 = q3 := (Bool.eq_iff_iff.2 (h4.trans (by rw [Q3.out, T.nd_norm, T.nd_norm]; exact eq_comm))); rw [hq] at he; subst he; have G8 := Lib.hid (G7.out.trans' f8); clear h4 f8 hq))
      all_goals
        go_wp2
        go_ret
        exact ⟨rfl, FD.out.trans' G8.out⟩

namespace treeSames
open Go.ChangeShapes Go.WideShapes Go.ChangeAt Go.RowKit

theorem own : ownKnob Try.prog.godebug = none := by kernel_rfl
theorem laidOut : laidOutB Try.prog = true := by kernel_rfl

theorem readable : ∀ t ∈ Try.f5.params.toList, Try.prog.readableRec t = true ∧ t < Try.prog.types.size := by
  rw [Try.params5]
  intro t ht
  simp only [List.mem_cons, List.not_mem_nil, or_false] at ht
  rcases ht with rfl | rfl
  all_goals exact ⟨by kernel_rfl, of_decide_eq_true (by kernel_rfl)⟩

theorem contract (H : Type) (enc : TypeId × Value → H) (W : World) (base : Nat) (args : Array Value) (ds gs : List (DataW H)) (before : List MemPlace)
    (hval : ∀ (j : Nat) t v, Try.f5.params[j]? = some t → args[j]? = some v → Value.okWide Try.prog W .any base t v)
    (hW : DataW.Whole enc Try.prog Try.f5.params.toList Rows.treeSamesSpec.vars false W args.toList ds gs before) (hk : Rows.uptoSmall H (ds ++ gs) = true) :
    Calls Try.prog 5 args W fun e W' => ∃ v, e = .returned v ∧ Rows.treeSamesSpec.post enc Try.prog Try.f5 false true false false W args v W' := by
  have hW' := hW
  obtain ⟨p, q, hA0, hV, rfl, hfz, hnd⟩ := hW
  have hA : DataW.TrodAll enc Try.prog W 0 (fun _ => true) true Try.f5.params.toList args.toList ds p := hA0
  rw [Try.params5] at hA hval
  obtain ⟨v0, vs0, d0, ds0, p0, q0, hargs, rfl, rfl, h0, r0⟩ := trodAll_cons hA
  obtain ⟨v1, vs1, d1, ds1, p1, q1, rfl, rfl, rfl, h1, r1⟩ := trodAll_cons r0
  obtain ⟨rfl, rfl, rfl⟩ := trodAll_nil r1
  obtain rfl : args = #[v0, v1] := by cases args; simp_all
  obtain ⟨rfl, rfl⟩ := trodVars_none hV
  have hb := of_decide_eq_true hk
  simp only [List.append_nil, Rows.uptoBulkAll, Nat.add_zero] at hb
  obtain ⟨t0, c0, rfl, e0, w0, b0⟩ := open_T (hval 0 27 v0 rfl rfl) h0
  obtain ⟨t1, c1, rfl, e1, w1, b1⟩ := open_T (hval 1 27 v1 rfl rfl) h1
  refine (lawSames t0 t1 c0 c1 W (by omega) (by omega) e0 e1).mono fun e W' ⟨he, hg⟩ => ?_
  subst he
  exact ⟨_, rfl, law_post rfl (by kernel_rfl) Try.underlying4 laidOut readable rfl hW' hg.below⟩

set_option maxRecDepth 100000 in
theorem lifted (os : Os) (started : os.Started) (H : Type) (enc : TypeId × Value → H) (F : Stop.Interp) :
    ReturnsInHanded {} Try.checked os 5 .any ((Rows.OpenSpec.upto Rows.treeSamesSpec).pre6 enc Try.prog Try.f5 Rows.treeSamesUptoRow.domain false) (((Rows.OpenSpec.upto Rows.treeSamesSpec).at F).post enc Try.prog Try.f5 false true false false) := by
  refine returnsInHanded_of_cond (C := Try.checked) (s := Rows.OpenSpec.upto Rows.treeSamesSpec) (k := Rows.uptoSmall) rfl own started (by kernel_rfl) Try.func5
    (OpenSpec.witness (enc := enc) (C := Try.checked) (s := Rows.OpenSpec.upto Rows.treeSamesSpec) (k := Rows.uptoSmall) rfl false ⟨#[], #[.agg #[.int .i64 0, .int .u64 0, .int .u64 0, .int .u64 0, .int .u64 0, .slice none 0 0, .int .i64 0, .int .i64 0, .int .i64 0], .agg #[.int .i64 0, .int .u64 0, .int .u64 0, .int .u64 0, .int .u64 0, .slice none 0 0, .int .i64 0, .int .i64 0, .int .i64 0]], []⟩ 8 (by kernel_rfl) (by kernel_rfl) (by kernel_rfl)
      (x := ([.agg [.lit (.int .i64 0), .agg [.lit (.int .u64 0), .lit (.int .u64 0), .lit (.int .u64 0), .lit (.int .u64 0)], .nil, .lit (.int .i64 0), .lit (.int .i64 0), .lit (.int .i64 0)], .agg [.lit (.int .i64 0), .agg [.lit (.int .u64 0), .lit (.int .u64 0), .lit (.int .u64 0), .lit (.int .u64 0)], .nil, .lit (.int .i64 0), .lit (.int .i64 0), .lit (.int .i64 0)]], [], [])) (by kernel_rfl) rfl (by kernel_rfl)) ?_
  intro W base args ds gs before hval hW _ hk _
  exact contract H enc W base args ds gs before hval hW hk

theorem over : Rows.treeSamesUptoRow.holds Try.pinned (Rows.OpenSpec.upto Rows.treeSamesSpec) :=
  OpenClaim.holds_of_cond 5 Try.f5 rfl rfl rfl rfl rfl rfl rfl ⟨rfl, rfl, rfl, rfl, rfl⟩ rfl rfl rfl rfl rfl (by kernel_rfl) Try.func5 (by kernel_rfl)
    (of_decide_eq_true (by kernel_rfl)) (by unfold Func.isWrapper; first | (rw [if_pos (by decide +kernel)]; kernel_rfl) | (rw [if_neg (by decide +kernel)]; exact ⟨rfl, rfl⟩))
    (fun os started H enc _ F => lifted os started H enc F)

/-- THE STATEMENT. -/
theorem proved : Rows.TreeSamesUptoSaid := over
#print axioms proved
end treeSames

end Go.Proofs.Yticeknkikflmkaa
