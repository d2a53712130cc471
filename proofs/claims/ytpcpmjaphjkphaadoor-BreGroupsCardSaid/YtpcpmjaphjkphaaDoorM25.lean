/-
  Merged texts of this claim: BreGT.
-/
import Derived.Test.YtpcpmjaphjkphaaDoorM20
import Derived.Test.YtpcpmjaphjkphaaDoorM24

/-
  Walk of placketlaw04.BreGroups behind two regexes that are whole and without references.
-/
namespace Go.Proofs.YtpcpmjaphjkphaaDoor
open Go.RowKit
attribute [local go_sem ↓] Go.wp_at_zero Go.wp_at_succ

mutual
theorem Nd.rf_bulk : ∀ n : Nd, n.rf.bulk ≤ n.size
  | .nil | .empty | .one _ | .back _ | .start | .fin => by simp [Nd.rf, T.zero, T.bulk, T.bulks, Nd.size]
  | .cat l => by have := Nd.rfs_bulk l; simp only [Nd.rf, T.bulk, Nd.size]; omega
  | .alt l => by have := Nd.rfs_bulk l; simp only [Nd.rf, T.bulk, Nd.size]; omega
  | .rep x _ _ => by have := Nd.rf_bulk x; simp only [Nd.rf, T.bulk, T.bulks, Nd.size]; omega
  | .group _ x => by have := Nd.rf_bulk x; simp only [Nd.rf, T.bulk, T.bulks, Nd.size]; omega
theorem Nd.rfs_bulk : ∀ l : List Nd, T.bulks (Nd.rfs l) ≤ Nd.sizes l
  | [] => by simp [Nd.rfs, T.bulks]
  | t :: ts => by have := Nd.rf_bulk t; have := Nd.rfs_bulk ts; simp only [Nd.rfs, T.bulks, Nd.sizes]; omega
end
theorem ST.two {S : Nat → Prop} {w : World} {t t' : T} {cs cs' : List Value} {b : Nat} (h : RT S w t cs) (h' : RT S w t' cs') (hl : cs.length = 9) (hS : ∀ k, S k → k < w.heap.size) (e : TypeId) (hb : b = w.heap.size) :
    ST S (w.alloc (.cells (cs ++ cs').toArray e)) [t, t'] (.slice (some ⟨b, 0, none⟩) 2 2) := by
  subst hb
  have ha := At.new w (cs ++ cs').toArray e rfl
  simp only [List.toList_toArray] at ha
  refine .inr ⟨_, _, _, rfl, by simp, ?_⟩
  rw [RTs, RTs, RTs]
  refine ⟨fun x => by have := hS _ x; omega, by simp, ⟨cs, h.on ((Fr.refl _ _).alloc _), fun j v hj => ha j v (by rw [List.getElem?_append_left (List.getElem?_eq_some_iff.1 hj).1]; exact hj)⟩, fun x => by have := hS _ x; omega, by simp, ⟨cs', h'.on ((Fr.refl _ _).alloc _), fun j v hj => ?_⟩, trivial⟩
  have := ha (9 + j) v (by rw [List.getElem?_append_right (by omega), hl]; simpa using hj)
  rw [← Nat.add_assoc] at this
  exact this
theorem mkC_size (l : List (Nat × List UInt8)) : (mkC l).length = l.length * 2 := by
  induction l with
  | nil => rfl
  | cons m r ih => rw [show mkC (m :: r) = [.int .i64 (m.1 : Nat), .string ⟨m.2.toArray⟩] ++ mkC r from by simp [mkC], List.length_append, ih]; simp; omega
theorem mkC_nth (l m : List (Nat × List UInt8)) (x : Nat × List UInt8) : (mkC (l ++ x :: m))[l.length * 2]? = some (.int .i64 (x.1 : Nat)) := by
  rw [show mkC (l ++ x :: m) = mkC l ++ mkC (x :: m) from by simp [mkC], ← mkC_size, List.getElem?_append_right (Nat.le_refl _), Nat.sub_self]
  rfl
/-- The mark behind the first ones: where it stands in the text. -/
theorem OwM.nth {w : World} {l m L : List (Nat × List UInt8)} {x : Nat × List UInt8} {v : Value} (hL : L = l ++ x :: m) (h : OwM w L v) : ∃ q cap, v = .slice (some ⟨q, 0, none⟩) L.length cap ∧ w.cell? ⟨q, l.length * 2, none⟩ = some (.int .i64 (x.1 : Nat)) := by
  obtain ⟨_, h⟩ := h
  rcases h with ⟨rfl, h0⟩ | ⟨r, cap, cur, rfl, _, hr, hn, _, _, htake⟩
  · subst hL; simp at h0
  · refine ⟨r, cap, rfl, ?_⟩
    have hj := mkC_nth l m x
    rw [← hL, ← htake, List.getElem?_take] at hj
    split at hj
    · exact cell_at hr (by simpa using hj)
    · cases hj

theorem chosen_some {ts : List Nd} (h : brns ts) : chosen ts ≠ .nil := by
  rw [chosen_brns h]
  match ts, h with
  | [], _ => intro e; cases e
  | [x], h => intro e; have := h x (by simp); rw [show x = Nd.nil from e] at this; cases this
  | x :: y :: r, _ => intro e; cases e
theorem turn_some {o : Int} {t : Nd} (h : t ≠ .nil) : t.turn o ≠ .nil := by cases t <;> first | exact absurd rfl h | (intro e; rw [Nd.turn] at e; cases e)
set_option maxRecDepth 100000 in
set_option maxHeartbeats 4000000 in
theorem bg_ok (l r : List UInt8) (w : World) (hE : Env w) (hla : l.length ≤ 100) (hra : r.length ≤ 100) {a b : Nd} {s1 s2 : RxS} (hp : parseS prg l = .inr (a, s1)) (hq : parseS prg r = .inr (b, s2)) (hba : a.backs = false) (hbb : b.backs = false) :
    Calls Tryd.prog 4 #[.string ⟨l.toArray⟩, .string ⟨r.toArray⟩] w fun e w' => e = .returned (.bool true) ∧ Fr nob w w' := by
  have HE := Lib.hid hE; clear hE
  have HA1 := Lib.hid (awake4_any w HE.out)
  have h1 : ¬ (100 : Int) < l.length := by omega
  have h2 : ¬ (100 : Int) < r.length := by omega
  have HLA := Lib.hid hla; have HRA := Lib.hid hra
  clear hla hra
  have hP := fun w' (f : Fr nob w w') => bre_parse l w' (by have := HLA.out; omega) (HE.out.on f)
  have hQ := fun w' (f : Fr nob w w') => bre_parse r w' (by have := HRA.out; omega) (HE.out.on f)
  rw [hp] at hP
  rw [hq] at hQ
  have HP := Lib.hid hP; have HQ := Lib.hid hQ; clear hP hQ
  obtain ⟨za, na, _⟩ := parse_size hp
  obtain ⟨zb, nb, _⟩ := parse_size hq
  have HPA := Lib.hid hp; have HPB := Lib.hid hq; have HZA := Lib.hid za; have HZB := Lib.hid zb; have HNA := Lib.hid na; have HNB := Lib.hid nb
  clear hp hq za zb na nb
  have HCA := Lib.hid (fun v w' (h : RN nob w' a v) => by have := backs_any a.size a v w' (Nat.le_refl _) (by have := HZA.out; omega) h; rw [hba] at this; exact this)
  have HCD := Lib.hid (fun v w' (h : RN nob w' b v) => by have := backs_any b.size b v w' (Nat.le_refl _) (by have := HZB.out; omega) h; rw [hbb] at this; exact this)
  -- what comes behind, said once
  obtain ⟨ta, tb, s4, ea, eb, ba, bb, nta, ntb, hp4, hm4⟩ := parse_two (by have := HLA.out; omega) (by have := HRA.out; omega) HPA.out HPB.out hba hbb
  obtain ⟨n, hn⟩ : ∃ n, chosen (ta ++ Nd.turns (a.groups : Nat) tb) = n := ⟨_, rfl⟩
  have hnn : n.norm = (chooseT [a.rf, b.rf.turn (a.groups : Nat)]).nd := by rw [← hn, two_norm ba bb nta ntb, ← ea, ← eb]
  have hng : n.groups = a.groups + b.groups := by
    rw [← hn, chosen_groups (fun x hx => (List.mem_append.1 hx).elim (ba x) (brns_turns bb x)), Nd.groupss_append, Nd.turns_groups, ← chosen_groups ba, ← chosen_groups bb, ← ea, ← eb]
  rw [hn] at hp4
  obtain ⟨zn, _, _⟩ := parse_size hp4
  obtain ⟨H1, hH1⟩ : ∃ H1, H1 = l ++ [92, 124] := ⟨_, rfl⟩
  obtain ⟨H2, hH2⟩ : ∃ H2, H2 = H1 ++ r := ⟨_, rfl⟩
  have e2 : l ++ ([92, 124] ++ r) = H2 := by rw [hH2, hH1, List.append_assoc]
  rw [e2] at hp4
  have lH : H2.length ≤ 250 := by rw [hH2, hH1]; simp only [List.length_append]; have := HLA.out; have := HRA.out; simp; omega
  have HPN := Lib.hid (fun w' (f : Fr nob w w') => by have := bre_parse H2 w' (by omega) (HE.out.on f); rw [hp4] at this; exact this)
  have ar1 : ∀ w', (Op.stringOp .add ⟨l.toArray⟩ ⟨#[92, 124]⟩).run Tryd.prog w' = .ok (.string ⟨H1.toArray⟩) w' := fun w' => by rw [hH1]; exact run_string_add_lists w' l [92, 124] (by have := HLA.out; omega) (by decide)
  have ar2 : ∀ w', (Op.stringOp .add ⟨H1.toArray⟩ ⟨r.toArray⟩).run Tryd.prog w' = .ok (.string ⟨H2.toArray⟩) w' := fun w' => by rw [hH2]; exact run_string_add_lists w' H1 r (by rw [hH1]; simp; have := HLA.out; omega) (by have := HRA.out; omega)
  have hm4l : s4.marks.length = s1.marks.length + s2.marks.length + 1 := by rw [hm4]; simp; omega
  have HHM := Lib.hid hm4; have HNN := Lib.hid hnn; have HNG := Lib.hid hng; have HZN := Lib.hid zn
  have HNI := Lib.hid (show a ≠ Nd.nil by rw [ea]; exact chosen_some ba)
  clear ea eb ba bb nta ntb hn hp4 e2 lH hH1 hH2 hm4 hnn hng zn
  have HSB := Lib.hid (Nd.rf_small b (parse_small HPB.out))
  have HKN := Lib.hid (show (chooseT [a.rf, b.rf.turn (a.groups : Nat)]).known = true from onlyT_known (by omega) (armsT_known (by simp only [T.knowns, T.turn_known, Nd.rf_known, Bool.and_self])))
  go_enter Tryd.func4, Tryd.ntmps4
  go_wp2_with fail
  refine HA1.out.mono ?_
  rintro e w1 ⟨rfl, f1⟩
  have F1 := Lib.hid f1; clear f1
  go_wp2_with fail
  refine (HP.out w1 F1.out).mono ?_
  rintro e w2 ⟨f2, i1, y1, mv1, rfl, rn1, ma1⟩
  obtain ⟨am1, cm1, hm1⟩ := ownsRow_slice ma1
  subst hm1
  have F2 := Lib.hid (F1.out.trans' f2); have RN1 := Lib.hid rn1; clear f2 rn1 ma1
  go_wp2_with fail
  refine (HQ.out w2 F2.out).mono ?_
  rintro e w3 ⟨f3, i2, y2, mv2, rfl, rn2, ma2⟩
  obtain ⟨am2, cm2, hm2⟩ := ownsRow_slice ma2
  subst hm2
  have F3 := Lib.hid (F2.out.trans' f3); have RN1' := Lib.hid (RN1.out.on f3); have RN2 := Lib.hid rn2; clear f3 rn2 ma2
  go_wp2_with fail
  refine (HCA.out _ w3 RN1'.out).mono ?_
  rintro e w4 ⟨rfl, f4⟩
  have F4 := Lib.hid (F3.out.trans' f4); have RN2' := Lib.hid (RN2.out.on f4); have f34 := f4; have F34 := Lib.hid f34; clear f4 f34
  go_wp2_with fail
  refine (HCD.out _ w4 RN2'.out).mono ?_
  rintro e w5 ⟨rfl, f5⟩
  have F5 := Lib.hid (F4.out.trans' f5); have RA5 := Lib.hid (RN1'.out.on (F34.out.trans' f5)); have RB5 := Lib.hid (RN2'.out.on f5); clear f5
  go_wp2_with fail
  by_cases hd : a.deep < 12
  case' pos =>
    have hdI : (a.deep : Int) < 12 := by omega
    obtain ⟨s5, hp5, hm5⟩ := parse_group (l := l) (by have := HLA.out; omega) HPA.out hba hd
    obtain ⟨G1, hG1⟩ : ∃ G1, G1 = [92, 40] ++ l := ⟨_, rfl⟩
    obtain ⟨G2, hG2⟩ : ∃ G2, G2 = G1 ++ [92, 41] := ⟨_, rfl⟩
    have e5 : [92, 40] ++ (l ++ [92, 41]) = G2 := by rw [hG2, hG1, List.append_assoc]
    rw [e5] at hp5
    have lG : G2.length ≤ 250 := by rw [hG2, hG1]; simp only [List.length_append]; have := HLA.out; simp; omega
    have HPG := Lib.hid (fun w' (f : Fr nob w w') => by have := bre_parse G2 w' (by omega) (HE.out.on f); rw [hp5] at this; exact this)
    have ag1 : ∀ w', (Op.stringOp .add ⟨#[92, 40]⟩ ⟨l.toArray⟩).run Tryd.prog w' = .ok (.string ⟨G1.toArray⟩) w' := fun w' => by rw [hG1]; exact run_string_add_lists w' [92, 40] l (by decide) (by have := HLA.out; omega)
    have ag2 : ∀ w', (Op.stringOp .add ⟨G1.toArray⟩ ⟨#[92, 41]⟩).run Tryd.prog w' = .ok (.string ⟨G2.toArray⟩) w' := fun w' => by rw [hG2]; exact run_string_add_lists w' G1 [92, 41] (by rw [hG1]; simp; have := HLA.out; omega) (by decide)
    have h5l : s5.marks.length = s1.marks.length := by rw [hm5]; simp
    have HGT := Lib.hid (fun v w' (h : RN nob w' (a.turn 1) v) => by have := groups_any (a.turn 1).size (a.turn 1) v w' (Nat.le_refl _) (by rw [Nd.turn_size]; have := HZA.out; omega) h; rw [Nd.turn_groups] at this; exact this)
    have HST := Lib.hid (fun v w' (h : RN nob w' (a.turn 1) v) => by have := size_any (a.turn 1).size (a.turn 1) v w' (Nat.le_refl _) (by rw [Nd.turn_size]; have := HZA.out; omega) h; rw [Nd.turn_size] at this; exact this)
    have H5L := Lib.hid h5l
    clear hp5 hm5 hG1 hG2 e5 lG h5l hd
    refine (deep_any a.size a _ w5 (Nat.le_refl _) (by have := HZA.out; omega) RA5.out).mono ?_
    rintro e w6 ⟨rfl, f6⟩
    have F6 := Lib.hid (F5.out.trans' f6); have RA6 := Lib.hid (RA5.out.on f6); have RB6 := Lib.hid (RB5.out.on f6); clear f6
    go_wp2_with fail
    refine (HPG.out w6 F6.out).mono ?_
    rintro e w7 ⟨f7, i5, y5, mv5, rfl, rn5, ma5⟩
    obtain ⟨u5, hi5, rnu⟩ := rn5
    injection hi5 with j1 j2
    subst j1; subst j2
    obtain ⟨iu, yu, rfl⟩ := rnu.some (turn_some HNI.out)
    obtain ⟨am5, cm5, hm5⟩ := ownsRow_slice ma5
    rw [H5L.out] at hm5
    subst hm5
    have F7 := Lib.hid (F6.out.trans' f7); have RA7 := Lib.hid (RA6.out.on f7); have RB7 := Lib.hid (RB6.out.on f7); have RU7 := Lib.hid rnu
    clear f7 rnu ma5
    go_wp2_with fail
    refine (HGT.out _ _ (RU7.out.on (by repeat (first | exact Fr.refl _ _ | apply Fr.alloc | apply Fr.drew)))).mono ?_
    rintro e w9 ⟨rfl, f9⟩
    have F79 := Lib.hid (((Fr.refl nob w7).alloc _).trans' f9); have FX9 := Lib.hid f9; clear f9
    go_wp2_with fail
    refine (groups_any a.size a _ _ (Nat.le_refl _) (by have := HZA.out; omega) (RA7.out.on F79.out)).mono ?_
    rintro e w10 ⟨rfl, f10⟩
    have F710 := Lib.hid (F79.out.trans' f10)
    have hz10 := (FX9.out.trans' f10).heap (heap_alloc_new _ _) (fun x => x)
    have zc0 := cell_at (j := 0) (v := .int .i64 1) hz10 rfl
    have zc1 := cell_at (j := 1) (v := .iface iu yu) hz10 rfl
    clear f10 hz10
    go_wp2_with fail
    refine (HST.out _ _ (RU7.out.on F710.out)).mono ?_
    rintro e w11 ⟨rfl, f11⟩
    have F711 := Lib.hid (F710.out.trans' f11); clear f11
    go_wp2_with fail
    refine (size_any a.size a _ _ (Nat.le_refl _) (by have := HZA.out; omega) (RA7.out.on F711.out)).mono ?_
    rintro e wK ⟨rfl, fK⟩
    have F7K := Lib.hid (F711.out.trans' fK); clear fK
    have FK := Lib.hid (F7.out.trans' F7K.out); have RAK := Lib.hid (RA7.out.on F7K.out); have RBK := Lib.hid (RB7.out.on F7K.out)
  case' neg =>
    have hdI : ¬ (a.deep : Int) < 12 := by omega
    clear hd
    refine (deep_any a.size a _ w5 (Nat.le_refl _) (by have := HZA.out; omega) RA5.out).mono ?_
    rintro e wK ⟨rfl, fK⟩
    have FK := Lib.hid (F5.out.trans' fK); have RAK := Lib.hid (RA5.out.on fK); have RBK := Lib.hid (RB5.out.on fK); clear fK
  all_goals
    go_wp2_with fail
    refine (HPN.out _ FK.out).mono ?_
    rintro e w8 ⟨f8, i8, y8, mv8, rfl, rn8, ma8⟩
    obtain ⟨q8, cm8, hm8, hc8⟩ := OwM.nth HHM.out ma8
    rw [hm4l] at hm8
    subst hm8
    have F8 := Lib.hid (FK.out.trans' f8); have RA8 := Lib.hid (RAK.out.on f8); have RB8 := Lib.hid (RBK.out.on f8); have RN8 := Lib.hid rn8
    clear f8 rn8 ma8
    have hb1 := HNA.out; have hb2 := HNB.out
    have hix : (s1.marks.length : Int) < s1.marks.length + s2.marks.length + 1 := by omega
    go_wp2_with fail
    refine (groups_any n.size n _ _ (Nat.le_refl _) (by have := HZN.out; omega) RN8.out).mono ?_
    rw [HNG.out]
    rintro e v1 ⟨rfl, f1⟩
    have K1 := Lib.hid f1; clear f1
    go_wp2_with fail
    refine (groups_any a.size a _ _ (Nat.le_refl _) (by have := HZA.out; omega) (RA8.out.on K1.out)).mono ?_
    rintro e v2 ⟨rfl, f2⟩
    have K2 := Lib.hid (K1.out.trans' f2); clear f2
    go_wp2_with fail
    refine (groups_any b.size b _ _ (Nat.le_refl _) (by have := HZB.out; omega) (RB8.out.on K2.out)).mono ?_
    rintro e v3 ⟨rfl, f3⟩
    have K3 := Lib.hid (K2.out.trans' f3); clear f3
    have hga : a.groups ≤ 300 := Nat.le_trans a.groups_le HZA.out
    have hgb : b.groups ≤ 300 := Nat.le_trans b.groups_le HZB.out
    go_wp2_with fail
    refine (ref_any a.size a _ _ (Nat.le_refl _) (by have := HZA.out; omega) (RA8.out.on K3.out)).mono ?_
    rintro e v4 ⟨ca, rfl, hra, f4⟩
    obtain ⟨ka, sa, pa, mna, mxa, nua, aa, cca, _, rfl, _⟩ := hra.open'
    have K4 := Lib.hid (K3.out.trans' f4); have TA := Lib.hid (RT.keep (S' := nob) (Fr.refl nob _) (fun _ _ x => x.elim) (fun _ _ x => x.elim) _ _ hra)
    clear f4 hra
    go_wp2_with fail
    refine (ref_any b.size b _ _ (Nat.le_refl _) (by have := HZB.out; omega) (RB8.out.on K4.out)).mono ?_
    rintro e v5 ⟨cb, rfl, hrb, f5⟩
    obtain ⟨kb, sb, pb, mnb, mxb, nub, ab, ccb, _, rfl, _⟩ := hrb.open'
    have K5 := Lib.hid (K4.out.trans' f5); have TA5 := Lib.hid (TA.out.on f5); have TB := Lib.hid (RT.keep (S' := nob) (Fr.refl nob _) (fun _ _ x => x.elim) (fun _ _ x => x.elim) _ _ hrb)
    clear f5 hrb
    go_wp2_with fail
    refine (groups_any a.size a _ _ (Nat.le_refl _) (by have := HZA.out; omega) (RA8.out.on K5.out)).mono ?_
    rintro e v6 ⟨rfl, f6⟩
    have K6 := Lib.hid (K5.out.trans' f6); have TA6 := Lib.hid (TA5.out.on f6); have TB6 := Lib.hid (TB.out.on f6)
    clear f6
    go_wp2_with fail
    refine (turned_any (a.groups : Nat) (by omega) (by omega) b.rf.bulk b.rf _ _ (Nat.le_refl _) (Nat.le_trans b.rf_bulk (by have := HZB.out; omega)) HSB.out TB6.out).mono ?_
    rintro e v7 ⟨cd, rfl, hrd, f7⟩
    obtain ⟨kd, sd, pd, mnd, mxd, nud, ad, ccd, _, rfl, _⟩ := hrd.open'
    have K7 := Lib.hid (K6.out.trans' f7); have TA7 := Lib.hid (TA6.out.on f7); have TD := Lib.hid (RT.keep (S' := nob) (Fr.refl nob _) (fun _ _ x => x.elim) (fun _ _ x => x.elim) _ _ hrd)
    clear f7 hrd
    have HSL := Lib.hid (ST.two TA7.out TD.out rfl (fun _ x => x.elim) 51 rfl)
    go_wp2_with fail
    refine (chooseT_any [a.rf, b.rf.turn (a.groups : Nat)] _ _ (by simp only [T.bulks, T.turn_bulk]; have := a.rf_bulk; have := b.rf_bulk; have := HZA.out; have := HZB.out; omega) HSL.out).mono ?_
    rintro e v8 ⟨ce, rfl, hre, f8⟩
    obtain ⟨ke, se, pe, mne, mxe, nue, ae, cce, _, rfl, _⟩ := hre.open'
    have K8 := Lib.hid ((K7.out.alloc _).trans' f8); have TE := Lib.hid hre
    clear f8 hre
    go_wp2_with fail
    refine (is_any n (chooseT [a.rf, b.rf.turn (a.groups : Nat)]) _ _ _ (by have := HZN.out; omega) (by rw [← HNN.out, Nd.norm_size]; have := HZN.out; omega) HKN.out (RN8.out.on K8.out) TE.out).mono ?_
    rintro e v9 ⟨r, rfl, hr, f9⟩
    obtain rfl : r = true := hr.2 HNN.out
    have K9 := Lib.hid (F8.out.trans' (K8.out.trans' f9)); clear f9 hr
    go_wp2
    go_ret
    exact ⟨rfl, K9.out⟩
end Go.Proofs.YtpcpmjaphjkphaaDoor
