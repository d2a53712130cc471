/-
  TreeAdds: joined, and chosen among, parts have together their groups and backs; joined they are as deep as the deepest; joined, or chosen among, once more right ones are the same. Where what the law reads is of bulk at most 1048576.
-/
import Derived.Test.YticeknkikflmkaaLawPlain
namespace Go.Proofs.Yticeknkikflmkaa
open Go.RowKit
attribute [local go_sem ↓] Go.wp_at_zero Go.wp_at_succ

theorem two_sn {W : World} {x y : Nd} {vx vy : Value} {b : Nat} {e : TypeId} (hx : RN nob W x vx) (hy : RN nob W y vy) (hb : b = W.heap.size) : SN nob (W.alloc (.cells #[vx, vy] e)) [x, y] (.slice (some ⟨b, 0, none⟩) 2 2) := by
  subst hb
  refine .inr ⟨_, _, _, rfl, by simp, RNs.of (vs := [vx, vy]) (fun x => x) (by simp) ⟨vx, [vy], rfl, hx.on ((Fr.refl _ _).alloc _), ⟨vy, [], rfl, hy.on ((Fr.refl _ _).alloc _), rfl⟩⟩ ?_⟩
  exact At.new W #[vx, vy] e rfl
theorem one_sn {W : World} {x : Nd} {vx : Value} {b : Nat} {e : TypeId} (hx : RN nob W x vx) (hb : b = W.heap.size) : SN nob (W.alloc (.cells #[vx] e)) [x] (.slice (some ⟨b, 0, none⟩) 1 1) := by
  subst hb
  refine .inr ⟨_, _, _, rfl, by simp, RNs.of (vs := [vx]) (fun x => x) (by simp) ⟨vx, [], rfl, hx.on ((Fr.refl _ _).alloc _), rfl⟩ ?_⟩
  exact At.new W #[vx] e rfl
theorem not_nil_iface {S : Nat → Prop} {w : World} {n : Nd} {v : Value} (h : RN S w n v) (hn : n ≠ .nil) : ∃ i x, v = .iface i x := by
  rcases h.tyv with ⟨e, _⟩ | ⟨i, x, _, e⟩
  · cases n <;> first | exact (hn rfl).elim | cases e
  · exact ⟨i, x, e⟩
theorem T.few_bulk {t : T} {m : Int} (h : t.few m = true) : (t.bulk : Int) ≤ m := by
  unfold T.few at h; simp only [Bool.and_eq_true, decide_eq_true_eq] at h; exact h.1
theorem onlyOf_nil {l : List Nd} {n : Nd} (hl : ∀ x ∈ l, x ≠ .nil) (hn : n ≠ .nil) : onlyOf l n ≠ .nil := by
  match l, hl with
  | [], _ => simp [onlyOf]
  | [x], hl => exact hl x (by simp)
  | x :: y :: r, _ => exact hn

set_option maxRecDepth 100000 in
set_option maxHeartbeats 8000000 in
theorem lawAdds (a b : T) (ca cb : List Value) (w : World) (hba : a.bulk ≤ 1048576) (hbb : b.bulk ≤ 1048576) (ha : RT nob w a ca) (hb : RT nob w b cb) :
    Calls Try.prog 7 #[.agg ca.toArray, .agg cb.toArray] w fun e w' => e = .returned (.bool true) ∧ Fr nob w w' := by
  obtain ⟨kd, s, ps, mn, mx, nu, ua, uc, _, rfl, _⟩ := ha.open'
  obtain ⟨kd', s', ps', mn', mx', nu', ua', uc', _, rfl, _⟩ := hb.open'
  have HA := Lib.hid ha; have HB := Lib.hid hb; clear ha hb
  have hza := T.nd_size a; have hzb := T.nd_size b
  have ha3 : a.nd.size ≤ 2097152 := by omega
  have hb3 : b.nd.size ≤ 2097152 := by omega
  clear hza hzb
  have HSA := Lib.hid (box2_a w [.int .i64 kd, .int .u64 s.a, .int .u64 s.b, .int .u64 s.c, .int .u64 s.d, .slice ua ps.length uc, .int .i64 mn, .int .i64 mx, .int .i64 nu] [.int .i64 kd', .int .u64 s'.a, .int .u64 s'.b, .int .u64 s'.c, .int .u64 s'.d, .slice ua' ps'.length uc', .int .i64 mn', .int .i64 mx', .int .i64 nu'])
  have HSB := Lib.hid (box2_b w [.int .i64 kd, .int .u64 s.a, .int .u64 s.b, .int .u64 s.c, .int .u64 s.d, .slice ua ps.length uc, .int .i64 mn, .int .i64 mx, .int .i64 nu] [.int .i64 kd', .int .u64 s'.a, .int .u64 s'.b, .int .u64 s'.c, .int .u64 s'.d, .slice ua' ps'.length uc', .int .i64 mn', .int .i64 mx', .int .i64 nu'])
  have F0 := Lib.hid (box2_fr w [.int .i64 kd, .int .u64 s.a, .int .u64 s.b, .int .u64 s.c, .int .u64 s.d, .slice ua ps.length uc, .int .i64 mn, .int .i64 mx, .int .i64 nu] [.int .i64 kd', .int .u64 s'.a, .int .u64 s'.b, .int .u64 s'.c, .int .u64 s'.d, .slice ua' ps'.length uc', .int .i64 mn', .int .i64 mx', .int .i64 nu'])
  go_enter Try.func7, Try.ntmps7
  go_wp2_with fail
  refine (awake_any _).mono ?_
  rintro e w1 ⟨rfl, f1⟩
  obtain ⟨x0, x1, x2, x3, x4, x5, x6, x7, x8⟩ := C9.of (f1.heap HSA.out (fun x => x))
  have F1 := Lib.hid (F0.out.trans' f1)
  have HA1 := Lib.hid (f1.heap HSA.out (fun x => x)); have HB1 := Lib.hid (f1.heap HSB.out (fun x => x)); clear f1
  go_wp2_with fail
  refine (few_any a 100 _ _ (by omega) (HA.out.on F1.out)).mono ?_
  rintro e w2 ⟨rfl, f2⟩
  have F2 := Lib.hid (F1.out.trans' f2); have HA2 := Lib.hid (f2.heap HA1.out (fun x => x)); have HB2 := Lib.hid (f2.heap HB1.out (fun x => x)); clear f2 x0 x1 x2 x3 x4 x5 x6 x7 x8
  cases hfa : a.few 100 with
  | false =>
    clear hfa
    go_wp2_with fail
    refine (awake_any _).mono ?_
    rintro e w3 ⟨rfl, f3⟩
    go_wp2
    go_ret
    exact ⟨rfl, F2.out.trans' f3⟩
  | true =>
    have HFA := Lib.hid hfa
    clear hfa
    obtain ⟨x0, x1, x2, x3, x4, x5, x6, x7, x8⟩ := C9.of HB2.out
    go_wp2_with fail
    refine (few_any b 100 _ _ (by omega) (HB.out.on F2.out)).mono ?_
    rintro e w3 ⟨rfl, f3⟩
    have F3 := Lib.hid (F2.out.trans' f3); have HA3 := Lib.hid (f3.heap HA2.out (fun x => x)); have HB3 := Lib.hid (f3.heap HB2.out (fun x => x)); clear f3 x0 x1 x2 x3 x4 x5 x6 x7 x8
    cases hfb : b.few 100 with
    | false =>
      clear hfb
      go_wp2_with fail
      refine (awake_any _).mono ?_
      rintro e w4 ⟨rfl, f4⟩
      go_wp2
      go_ret
      exact ⟨rfl, F3.out.trans' f4⟩
    | true =>
      have hfa := HFA.out; have hka := T.few_known hfa; have hkb := T.few_known hfb
      have hba2 := T.few_bulk hfa; have hbb2 := T.few_bulk hfb
      have hza := T.nd_size a; have hzb := T.nd_size b
      have ha4 : a.nd.size ≤ 200 := by omega
      have hb4 : b.nd.size ≤ 200 := by omega
      have hkn : T.knowns [a, b] = true := by simp [T.knowns, hka, hkb]
      have hjt : joined [a.nd, b.nd] = (joinT [a, b]).nd := joined_nd hkn
      have hct : chosen [a.nd, b.nd] = (chooseT [a, b]).nd := chosen_nd hkn
      have hjs := joined_size [a.nd, b.nd]
      have hcs := chosen_size [a.nd, b.nd]
      simp only [Nd.sizes] at hjs hcs
      have hj4 : (joined [a.nd, b.nd]).size ≤ 401 := by omega
      have hc4 : (chosen [a.nd, b.nd]).size ≤ 401 := by omega
      have HJT := Lib.hid hjt; have HCT := Lib.hid hct
      have HC := Lib.hid (C9.two ⟨C9.of HA3.out, C9.of HB3.out⟩ ((Fr.refl nob _).drew))
      have FD := Lib.hid F3.out.drew
      have HADJ := Lib.hid (adds_joined a.nd b.nd)
      have HADC := Lib.hid (adds_chosen a.nd b.nd)
      clear hfa hfb hka hkb hba2 hbb2 hza hzb hkn hjt hct hjs hcs
      go_wp2_with fail
      go_region_held3 (fun w' => C9 w' w.heap.size (.int .i64 kd) (.int .u64 s.a) (.int .u64 s.b) (.int .u64 s.c) (.int .u64 s.d) (.slice ua ps.length uc) (.int .i64 mn) (.int .i64 mx) (.int .i64 nu) ∧ C9 w' (w.heap.size + 1) (.int .i64 kd') (.int .u64 s'.a) (.int .u64 s'.b) (.int .u64 s'.c) (.int .u64 s'.d) (.slice ua' ps'.length uc') (.int .i64 mn') (.int .i64 mx') (.int .i64 nu'))
        (first | (with_reducible exact HC.out) | (with_reducible exact C9.two HC.out G1.out) | (with_reducible exact C9.two HC.out G2.out))
        (first | (go_at_call 10; (with_reducible refine (real_any _ a _ _ (Nat.le_refl _) (by omega) (HA.out.on FD.out)).mono ?_); rintro e g1 ⟨v1, rfl, r1, f1⟩; obtain ⟨i1, y1, rfl⟩ := T.nd_iface r1; have R1 := Lib.hid r1.any; have G1 := Lib.hid f1; clear r1 f1) | (go_at_call 10; (with_reducible refine (real_any _ b _ _ (Nat.le_refl _) (by omega) (HB.out.on (FD.out.trans' G1.out))).mono ?_); rintro e g2 ⟨v2, rfl, r2, f2⟩; obtain ⟨i2, y2, rfl⟩ := T.nd_iface r2; have R2 := Lib.hid r2.any; have G12 := Lib.hid f2; have G2 := Lib.hid (G1.out.trans' f2); clear r2 f2))
      all_goals
        have RX := Lib.hid (R1.out.on G12.out)
        have FG := Lib.hid (FD.out.trans' G2.out)
        go_wp2_with fail
        refine (join_any [a.nd, b.nd] _ _ (by simp only [Nd.sizes]; omega) (two_sn RX.out R2.out rfl)).mono ?_
        rw [HJT.out]
        rintro e g3 ⟨v3, rfl, r3, f3⟩
        obtain ⟨i3, y3, rfl⟩ := T.nd_iface r3
        rw [← HJT.out] at r3
        have R3 := Lib.hid r3; have G3 := Lib.hid (((Fr.refl nob _).alloc _).trans' f3); clear r3 f3
        go_wp2_with fail
        refine (choose_any [a.nd, b.nd] _ _ (by simp only [Nd.sizes]; omega) (two_sn (RX.out.on G3.out) (R2.out.on G3.out) rfl)).mono ?_
        rw [HCT.out]
        rintro e g4 ⟨v4, rfl, r4, f4⟩
        obtain ⟨i4, y4, rfl⟩ := T.nd_iface r4
        rw [← HCT.out] at r4
        have R4 := Lib.hid r4; have G34 := Lib.hid (((Fr.refl nob _).alloc _).trans' f4); clear r4 f4
        have R34 := Lib.hid (R3.out.on G34.out)
        have G4 := Lib.hid (G3.out.trans' G34.out)
        have RX4 := Lib.hid (RX.out.on G4.out); have RY4 := Lib.hid (R2.out.on G4.out)
        have FG4 := Lib.hid (FG.out.trans' G4.out)
        have hall := Lib.hid (show ∀ k : Nat, k < 2 → ∃ n i x, (∀ w, (Instr.index 50 (.agg #[.iface i3 y3, .iface i4 y4]) (.int .i64 k)).run Try.prog w = .ok (.iface i x) w) ∧ RN nob g4 n (.iface i x) ∧ Adds a.nd b.nd n ∧ n.size ≤ 401 by
          intro k hk
          have : k = 0 ∨ k = 1 := by omega
          rcases this with rfl | rfl
          · exact ⟨_, i3, y3, fun _ => by kernel_rfl, R34.out, HADJ.out, hj4⟩
          · exact ⟨_, i4, y4, fun _ => by kernel_rfl, R4.out, HADC.out, hc4⟩)
        have hg1 := a.nd.groups_le; have hg2 := b.nd.groups_le; have hd1 := a.nd.deep_le; have hd2 := b.nd.deep_le
        obtain ⟨xg, hxg⟩ : ∃ x, a.nd.groups = x := ⟨_, rfl⟩
        obtain ⟨yg, hyg⟩ : ∃ x, b.nd.groups = x := ⟨_, rfl⟩
        obtain ⟨xd, hxd⟩ : ∃ x, a.nd.deep = x := ⟨_, rfl⟩
        obtain ⟨yd, hyd⟩ : ∃ x, b.nd.deep = x := ⟨_, rfl⟩
        obtain ⟨xb, hxb⟩ : ∃ x, a.nd.backs = x := ⟨_, rfl⟩
        obtain ⟨yb, hyb⟩ : ∃ x, b.nd.backs = x := ⟨_, rfl⟩
        have hg1' : xg ≤ 200 := by omega
        have hg2' : yg ≤ 200 := by omega
        have hd1' : xd ≤ 200 := by omega
        have hd2' : yd ≤ 200 := by omega
        have HXG := Lib.hid hxg; have HYG := Lib.hid hyg; have HXD := Lib.hid hxd; have HYD := Lib.hid hyd; have HXB := Lib.hid hxb; have HYB := Lib.hid hyb
        clear hg1 hg2 hd1 hd2 hxg hyg hxd hyd hxb hyb
        go_wp2_with fail
        go_loopw [39] (fun i wr => ∃ k : Nat, i = .int .i64 k ∧ k ≤ 2 ∧ Fr nob g4 wr) (fun i _ => 2 - (intOf i).toNat)
        case atStart => exact ⟨0, rfl, by omega, Fr.refl _ _⟩
        case round =>
          obtain ⟨k, rfl, hk, fr⟩ := hrel
          have FR := Lib.hid fr; clear fr
          by_cases hlt : k < 2
          · obtain ⟨n, iv, xv, hix, hrn, ⟨had1, had2, had3⟩, hsz⟩ := hall.out k hlt
            rw [HXG.out, HYG.out] at had1
            rw [HXB.out, HYB.out] at had2
            rw [HXD.out, HYD.out] at had3
            have HRN := Lib.hid hrn; have A1 := Lib.hid had1; have A2 := Lib.hid had2; have A3 := Lib.hid had3
            clear hrn had1 had2 had3
            go_wp2_with fail
            refine (groups_any _ n _ _ (Nat.le_refl _) (by omega) (HRN.out.on FR.out)).mono ?_
            rw [A1.out]
            rintro e h1 ⟨rfl, f1⟩
            have K1 := Lib.hid (FR.out.trans' f1); clear f1
            go_wp2_with fail
            refine (groups_any _ a.nd _ _ (Nat.le_refl _) (by omega) (RX4.out.on K1.out)).mono ?_
            rw [HXG.out]
            rintro e h2 ⟨rfl, f2⟩
            have K2 := Lib.hid (K1.out.trans' f2); clear f2
            go_wp2_with fail
            refine (groups_any _ b.nd _ _ (Nat.le_refl _) (by omega) (RY4.out.on K2.out)).mono ?_
            rw [HYG.out]
            rintro e h3 ⟨rfl, f3⟩
            have K3 := Lib.hid (K2.out.trans' f3); clear f3
            go_wp2_with fail
            refine (backs_any _ n _ _ (Nat.le_refl _) (by omega) (HRN.out.on K3.out)).mono ?_
            rw [A2.out]
            rintro e h4 ⟨rfl, f4⟩
            have K4 := Lib.hid (K3.out.trans' f4); clear f4
            go_wp2_with fail
            refine (backs_any _ a.nd _ _ (Nat.le_refl _) (by omega) (RX4.out.on K4.out)).mono ?_
            rw [HXB.out]
            rintro e h5 ⟨rfl, f5⟩
            have K5 := Lib.hid (K4.out.trans' f5); clear f5
            cases xb with
            | true =>
              simp only [Bool.true_or]
              go_wp2_with fail
              refine (deep_any _ n _ _ (Nat.le_refl _) (by omega) (HRN.out.on K5.out)).mono ?_
              rw [A3.out]
              rintro e h7 ⟨rfl, f7⟩
              have K7 := Lib.hid (K5.out.trans' f7); clear f7
              go_wp2_with fail
              refine (deep_any _ a.nd _ _ (Nat.le_refl _) (by omega) (RX4.out.on K7.out)).mono ?_
              rw [HXD.out]
              rintro e h8 ⟨rfl, f8⟩
              have K8 := Lib.hid (K7.out.trans' f8); clear f8
              go_wp2_with fail
              refine (deep_any _ b.nd _ _ (Nat.le_refl _) (by omega) (RY4.out.on K8.out)).mono ?_
              rw [HYD.out]
              rintro e h9 ⟨rfl, f9⟩
              have K9 := Lib.hid (K8.out.trans' f9); clear f9
              obtain ⟨mx1, hmx⟩ : ∃ m, max xd yd = m := ⟨_, rfl⟩
              rw [hmx]
              by_cases hle : xd ≤ yd
              · obtain rfl : mx1 = yd := by omega
                clear hmx
                go_wp2
                all_goals
                  go_roundw
                  case rel => exact ⟨k + 1, by go_num, by omega, K9.out⟩
                  case measure => simp [intOf]; omega
              · obtain rfl : mx1 = xd := by omega
                clear hmx
                go_wp2
                all_goals
                  go_roundw
                  case rel => exact ⟨k + 1, by go_num, by omega, K9.out⟩
                  case measure => simp [intOf]; omega
            | false =>
              simp only [Bool.false_or]
              go_wp2_with fail
              refine (backs_any _ b.nd _ _ (Nat.le_refl _) (by omega) (RY4.out.on K5.out)).mono ?_
              rw [HYB.out]
              rintro e h6 ⟨rfl, f6⟩
              have K6 := Lib.hid (K5.out.trans' f6); clear f6
              go_wp2_with fail
              refine (deep_any _ n _ _ (Nat.le_refl _) (by omega) (HRN.out.on K6.out)).mono ?_
              rw [A3.out]
              rintro e h7 ⟨rfl, f7⟩
              have K7 := Lib.hid (K6.out.trans' f7); clear f7
              go_wp2_with fail
              refine (deep_any _ a.nd _ _ (Nat.le_refl _) (by omega) (RX4.out.on K7.out)).mono ?_
              rw [HXD.out]
              rintro e h8 ⟨rfl, f8⟩
              have K8 := Lib.hid (K7.out.trans' f8); clear f8
              go_wp2_with fail
              refine (deep_any _ b.nd _ _ (Nat.le_refl _) (by omega) (RY4.out.on K8.out)).mono ?_
              rw [HYD.out]
              rintro e h9 ⟨rfl, f9⟩
              have K9 := Lib.hid (K8.out.trans' f9); clear f9
              obtain ⟨mx1, hmx⟩ : ∃ m, max xd yd = m := ⟨_, rfl⟩
              rw [hmx]
              by_cases hle : xd ≤ yd
              · obtain rfl : mx1 = yd := by omega
                clear hmx
                go_wp2
                all_goals
                  go_roundw
                  case rel => exact ⟨k + 1, by go_num, by omega, K9.out⟩
                  case measure => simp [intOf]; omega
              · obtain rfl : mx1 = xd := by omega
                clear hmx
                go_wp2
                all_goals
                  go_roundw
                  case rel => exact ⟨k + 1, by go_num, by omega, K9.out⟩
                  case measure => simp [intOf]; omega
          · obtain rfl : k = 2 := by omega
            have hR := right_of a.nd _ _ (by omega) (RX4.out.on FR.out)
            obtain ⟨ra, hra⟩ : ∃ r, a.nd.right = r := ⟨_, rfl⟩
            obtain ⟨rb, hrb⟩ : ∃ r, b.nd.right = r := ⟨_, rfl⟩
            have HRA := Lib.hid hra; have HRB := Lib.hid hrb
            rw [hra] at hR
            have HRR := Lib.hid hR
            clear hR hra hrb
            go_wp2_with fail
            refine HRR.out.mono ?_
            rintro e h1 ⟨rfl, f1⟩
            have K1 := Lib.hid (FR.out.trans' f1); clear f1
            cases ra with
            | false =>
              go_wp2
              go_ret
              exact ⟨rfl, FG4.out.trans' K1.out⟩
            | true =>
              go_wp2_with fail
              refine (right_of b.nd _ _ (by omega) (RY4.out.on K1.out)).mono ?_
              rw [HRB.out]
              rintro e h2 ⟨rfl, f2⟩
              have K2 := Lib.hid (K1.out.trans' f2); clear f2
              cases rb with
              | false =>
                go_wp2
                go_ret
                exact ⟨rfl, FG4.out.trans' K2.out⟩
              | true =>
                have HO1 := Lib.hid (once_joined HRA.out HRB.out); have HO2 := Lib.hid (once_chosen HRA.out HRB.out)
                go_wp2_with fail
                refine (join_any [joined [a.nd, b.nd]] _ _ (by simp only [Nd.sizes]; omega) (one_sn (R34.out.on K2.out) rfl)).mono ?_
                rw [HO1.out]
                rintro e h3 ⟨v5, rfl, r5, f5⟩
                have R5 := Lib.hid r5; have K3 := Lib.hid ((K2.out.alloc _).trans' f5); clear r5 f5
                go_wp2_with fail
                refine (same_any _ _ _ _ _ _ (Nat.le_refl _) (by omega) (by omega) R5.out (R34.out.on K3.out)).mono ?_
                rintro e h4 ⟨q, rfl, hq, f6⟩
                obtain rfl := hq.2 rfl
                have K4 := Lib.hid (K3.out.trans' f6); clear hq f6
                go_wp2_with fail
                refine (choose_any [chosen [a.nd, b.nd]] _ _ (by simp only [Nd.sizes]; omega) (one_sn (R4.out.on K4.out) rfl)).mono ?_
                rw [HO2.out]
                rintro e h5 ⟨v7, rfl, r7, f7⟩
                have R7 := Lib.hid r7; have K5 := Lib.hid ((K4.out.alloc _).trans' f7); clear r7 f7
                go_wp2_with fail
                refine (same_any _ _ _ _ _ _ (Nat.le_refl _) (by omega) (by omega) R7.out (R4.out.on K5.out)).mono ?_
                rintro e h6 ⟨q, rfl, hq, f8⟩
                obtain rfl := hq.2 rfl
                have K6 := Lib.hid (K5.out.trans' f8); clear hq f8
                go_wp2
                go_ret
                exact ⟨rfl, FG4.out.trans' K6.out⟩

namespace treeAdds
open Go.ChangeShapes Go.WideShapes Go.ChangeAt Go.RowKit

theorem own : ownKnob Try.prog.godebug = none := by kernel_rfl
theorem laidOut : laidOutB Try.prog = true := by kernel_rfl

theorem readable : ∀ t ∈ Try.f7.params.toList, Try.prog.readableRec t = true ∧ t < Try.prog.types.size := by
  rw [Try.params7]
  intro t ht
  simp only [List.mem_cons, List.not_mem_nil, or_false] at ht
  rcases ht with rfl | rfl
  all_goals exact ⟨by kernel_rfl, of_decide_eq_true (by kernel_rfl)⟩

theorem contract (H : Type) (enc : TypeId × Value → H) (W : World) (base : Nat) (args : Array Value) (ds gs : List (DataW H)) (before : List MemPlace)
    (hval : ∀ (j : Nat) t v, Try.f7.params[j]? = some t → args[j]? = some v → Value.okWide Try.prog W .any base t v)
    (hW : DataW.Whole enc Try.prog Try.f7.params.toList Rows.treeAddsSpec.vars false W args.toList ds gs before) (hk : Rows.uptoSmall H (ds ++ gs) = true) :
    Calls Try.prog 7 args W fun e W' => ∃ v, e = .returned v ∧ Rows.treeAddsSpec.post enc Try.prog Try.f7 false true false false W args v W' := by
  have hW' := hW
  obtain ⟨p, q, hA0, hV, rfl, hfz, hnd⟩ := hW
  have hA : DataW.TrodAll enc Try.prog W 0 (fun _ => true) true Try.f7.params.toList args.toList ds p := hA0
  rw [Try.params7] at hA hval
  obtain ⟨v0, vs0, d0, ds0, p0, q0, hargs, rfl, rfl, h0, r0⟩ := trodAll_cons hA
  obtain ⟨v1, vs1, d1, ds1, p1, q1, rfl, rfl, rfl, h1, r1⟩ := trodAll_cons r0
  obtain ⟨rfl, rfl, rfl⟩ := trodAll_nil r1
  obtain rfl : args = #[v0, v1] := by cases args; simp_all
  obtain ⟨rfl, rfl⟩ := trodVars_none hV
  have hb := of_decide_eq_true hk
  simp only [List.append_nil, Rows.uptoBulkAll, Nat.add_zero] at hb
  obtain ⟨t0, c0, rfl, e0, w0, b0⟩ := open_T (hval 0 27 v0 rfl rfl) h0
  obtain ⟨t1, c1, rfl, e1, w1, b1⟩ := open_T (hval 1 27 v1 rfl rfl) h1
  refine (lawAdds t0 t1 c0 c1 W (by omega) (by omega) e0 e1).mono fun e W' ⟨he, hg⟩ => ?_
  subst he
  exact ⟨_, rfl, law_post rfl (by kernel_rfl) Try.underlying4 laidOut readable rfl hW' hg.below⟩

set_option maxRecDepth 100000 in
theorem lifted (os : Os) (started : os.Started) (H : Type) (enc : TypeId × Value → H) (F : Stop.Interp) :
    ReturnsInHanded {} Try.checked os 7 .any ((Rows.OpenSpec.upto Rows.treeAddsSpec).pre6 enc Try.prog Try.f7 Rows.treeAddsUptoRow.domain false) (((Rows.OpenSpec.upto Rows.treeAddsSpec).at F).post enc Try.prog Try.f7 false true false false) := by
  refine returnsInHanded_of_cond (C := Try.checked) (s := Rows.OpenSpec.upto Rows.treeAddsSpec) (k := Rows.uptoSmall) rfl own started (by kernel_rfl) Try.func7
    (OpenSpec.witness (enc := enc) (C := Try.checked) (s := Rows.OpenSpec.upto Rows.treeAddsSpec) (k := Rows.uptoSmall) rfl false ⟨#[], #[.agg #[.int .i64 0, .int .u64 0, .int .u64 0, .int .u64 0, .int .u64 0, .slice none 0 0, .int .i64 0, .int .i64 0, .int .i64 0], .agg #[.int .i64 0, .int .u64 0, .int .u64 0, .int .u64 0, .int .u64 0, .slice none 0 0, .int .i64 0, .int .i64 0, .int .i64 0]], []⟩ 8 (by kernel_rfl) (by kernel_rfl) (by kernel_rfl)
      (x := ([.agg [.lit (.int .i64 0), .agg [.lit (.int .u64 0), .lit (.int .u64 0), .lit (.int .u64 0), .lit (.int .u64 0)], .nil, .lit (.int .i64 0), .lit (.int .i64 0), .lit (.int .i64 0)], .agg [.lit (.int .i64 0), .agg [.lit (.int .u64 0), .lit (.int .u64 0), .lit (.int .u64 0), .lit (.int .u64 0)], .nil, .lit (.int .i64 0), .lit (.int .i64 0), .lit (.int .i64 0)]], [], [])) (by kernel_rfl) rfl (by kernel_rfl)) ?_
  intro W base args ds gs before hval hW _ hk _
  exact contract H enc W base args ds gs before hval hW hk

theorem over : Rows.treeAddsUptoRow.holds Try.pinned (Rows.OpenSpec.upto Rows.treeAddsSpec) :=
  OpenClaim.holds_of_cond 7 Try.f7 rfl rfl rfl rfl rfl rfl rfl ⟨rfl, rfl, rfl, rfl, rfl⟩ rfl rfl rfl rfl rfl (by kernel_rfl) Try.func7 (by kernel_rfl)
    (of_decide_eq_true (by kernel_rfl)) (by unfold Func.isWrapper; first | (rw [if_pos (by decide +kernel)]; kernel_rfl) | (rw [if_neg (by decide +kernel)]; exact ⟨rfl, rfl⟩))
    (fun os started H enc _ F => lifted os started H enc F)

/-- THE STATEMENT. -/
theorem proved : Rows.TreeAddsUptoSaid := over
#print axioms proved
end treeAdds

end Go.Proofs.Yticeknkikflmkaa
