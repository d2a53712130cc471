/-
  Merged texts of this claim: EreGT.
-/
import Derived.Test.YtepeomphikhbkaaDoorM32
import Derived.Test.YtepeomphikhbkaaDoorM35

/-
  Walk of placketlaw05.EreGroups behind two regexes that are whole and without references.
-/
namespace Go.Proofs.YtepeomphikhbkaaDoor
open Go.RowKit
attribute [local go_sem ↓] Go.wp_at_zero Go.wp_at_succ

theorem parseE_size {l : List UInt8} {t : Nd} {s : RxS} (h : parseD prg true l = .inr (t, s)) : t.size ≤ 600 ∧ s.marks.length ≤ 250 ∧ l.length ≤ 250 := by
  have hl : l.length ≤ 250 := by
    by_cases hl : l.length ≤ 250
    · exact hl
    · unfold parseD at h; rw [if_pos (by omega)] at h; cases h
  unfold parseD at h
  rw [if_neg (by omega)] at h
  obtain ⟨k1, k2, k3⟩ := chD_kept 12 _ (sane_initE l) _ _ h
  have h1 := k1.le
  have h2 := k1.mr
  have h3 : t.size + 0 ≤ 2 * s.at_ + 2 := k3
  exact ⟨by omega, by omega, hl⟩

theorem turn_someE {o : Int} {t : Nd} (h : t ≠ .nil) : t.turn o ≠ .nil := by cases t <;> first | exact absurd rfl h | (intro e; rw [Nd.turn] at e; cases e)

theorem two_alt {ta tb : List Nd} (ba : brns ta) (bb : brns tb) (na : ta ≠ []) (nb : tb ≠ []) (o : Int) : ∃ ts : List Nd, chosen (ta ++ Nd.turns o tb) = .alt ts ∧ 1 < ts.length := by
  rw [chosen_brns (fun x hx => (List.mem_append.1 hx).elim (ba x) (brns_turns bb x))]
  have h2 : 1 < (ta ++ Nd.turns o tb).length := by
    cases ta with
    | nil => exact absurd rfl na
    | cons x ta => cases tb with
      | nil => exact absurd rfl nb
      | cons y tb => simp [Nd.turns]; omega
  refine ⟨_, ?_, h2⟩
  generalize ta ++ Nd.turns o tb = L at h2 ⊢
  match L, h2 with
  | x :: y :: r, _ => rfl

set_option maxRecDepth 100000 in
set_option maxHeartbeats 4000000 in
theorem eg_ok (l r : List UInt8) (w : World) (hE : Env w) (hla : l.length ≤ 100) (hra : r.length ≤ 100) {a b : Nd} {s1 s2 : RxS} (hp : parseD prg true l = .inr (a, s1)) (hq : parseD prg true r = .inr (b, s2)) (hba : a.backs = false) (hbb : b.backs = false) :
    Calls Tryd.prog 3 #[.string ⟨l.toArray⟩, .string ⟨r.toArray⟩] w fun e w' => e = .returned (.bool true) ∧ Fr nob w w' := by
  have HE := Lib.hid hE; clear hE
  have HA1 := Lib.hid (awake5_any w HE.out)
  have h1 : ¬ (100 : Int) < l.length := by omega
  have h2 : ¬ (100 : Int) < r.length := by omega
  have HLA := Lib.hid hla; have HRA := Lib.hid hra
  clear hla hra
  have hP := fun w' (f : Fr nob w w') => ere_parse l w' (by have := HLA.out; omega) (HE.out.on f)
  have hQ := fun w' (f : Fr nob w w') => ere_parse r w' (by have := HRA.out; omega) (HE.out.on f)
  rw [hp] at hP
  rw [hq] at hQ
  have HP := Lib.hid hP; have HQ := Lib.hid hQ; clear hP hQ
  obtain ⟨za, na, _⟩ := parseE_size hp
  obtain ⟨zb, nb, _⟩ := parseE_size hq
  have HPA := Lib.hid hp; have HPB := Lib.hid hq; have HZA := Lib.hid za; have HZB := Lib.hid zb; have HNA := Lib.hid na; have HNB := Lib.hid nb
  clear hp hq za zb na nb
  have HCA := Lib.hid (fun v w' (h : RN nob w' a v) => by have := backs_any a.size a v w' (Nat.le_refl _) (by have := HZA.out; omega) h; rw [hba] at this; exact this)
  have HCD := Lib.hid (fun v w' (h : RN nob w' b v) => by have := backs_any b.size b v w' (Nat.le_refl _) (by have := HZB.out; omega) h; rw [hbb] at this; exact this)
  -- what comes behind, said once
  obtain ⟨ta, tb, s4, ea, eb, ba, bb, nta, ntb, hp4, hm4⟩ := parseE_two (by have := HLA.out; omega) (by have := HRA.out; omega) HPA.out HPB.out hba hbb
  obtain ⟨ts, hts, h2ts⟩ := two_alt ba bb nta ntb (s1.opened : Nat)
  obtain ⟨n, hn⟩ : ∃ n, Nd.alt ts = n := ⟨_, rfl⟩
  have hng : n.groups = a.groups + b.groups := by
    rw [← hn, ← hts, chosen_groups (fun x hx => (List.mem_append.1 hx).elim (ba x) (brns_turns bb x)), Nd.groupss_append, Nd.turns_groups, ← chosen_groups ba, ← chosen_groups bb, ← ea, ← eb]
  rw [hts, hn] at hp4
  obtain ⟨zn, _, _⟩ := parseE_size hp4
  obtain ⟨H1, hH1⟩ : ∃ H1, H1 = l ++ [124] := ⟨_, rfl⟩
  obtain ⟨H2, hH2⟩ : ∃ H2, H2 = H1 ++ r := ⟨_, rfl⟩
  have e2 : l ++ ([124] ++ r) = H2 := by rw [hH2, hH1, List.append_assoc]
  rw [e2] at hp4
  have lH : H2.length ≤ 250 := by rw [hH2, hH1]; simp only [List.length_append]; have := HLA.out; have := HRA.out; simp; omega
  have HPN := Lib.hid (fun w' (f : Fr nob w w') => by have := ere_parse H2 w' (by omega) (HE.out.on f); rw [hp4] at this; exact this)
  have ar1 : ∀ w', (Op.stringOp .add ⟨l.toArray⟩ ⟨#[124]⟩).run Tryd.prog w' = .ok (.string ⟨H1.toArray⟩) w' := fun w' => by rw [hH1]; exact run_string_add_lists w' l [124] (by have := HLA.out; omega) (by decide)
  have ar2 : ∀ w', (Op.stringOp .add ⟨H1.toArray⟩ ⟨r.toArray⟩).run Tryd.prog w' = .ok (.string ⟨H2.toArray⟩) w' := fun w' => by rw [hH2]; exact run_string_add_lists w' H1 r (by rw [hH1]; simp; have := HLA.out; omega) (by have := HRA.out; omega)
  have hm4l : s4.marks.length = s1.marks.length + s2.marks.length := by rw [hm4]; simp
  have HM4 := Lib.hid hm4l; have HNG := Lib.hid hng; have HZN := Lib.hid zn; have HN := Lib.hid hn; have H2T := Lib.hid h2ts
  have HNI := Lib.hid (show a ≠ Nd.nil by rw [ea]; exact chosen_nil ba)
  clear ea eb ba bb nta ntb hts hp4 e2 lH hH1 hH2 hm4 hng zn hm4l hn h2ts
  go_enter Tryd.func3, Tryd.ntmps3
  go_wp2_with fail
  refine HA1.out.mono ?_
  rintro e w1 ⟨rfl, f1⟩
  have F1 := Lib.hid f1; clear f1
  go_wp2_with fail
  refine (HP.out w1 F1.out).mono ?_
  rintro e w2 ⟨f2, r1, mv1, rfl, rn1, ma1⟩
  obtain ⟨am1, cm1, hm1⟩ := ownsRow_slice ma1
  subst hm1
  obtain ⟨i1, y1, rfl⟩ := rn1.some HNI.out
  have F2 := Lib.hid (F1.out.trans' f2); have RN1 := Lib.hid rn1; clear f2 rn1 ma1
  go_wp2_with fail
  refine (HQ.out w2 F2.out).mono ?_
  rintro e w3 ⟨f3, r2, mv2, rfl, rn2, ma2⟩
  obtain ⟨am2, cm2, hm2⟩ := ownsRow_slice ma2
  subst hm2
  have F3 := Lib.hid (F2.out.trans' f3); have RN1' := Lib.hid (RN1.out.on f3); have RN2 := Lib.hid rn2; clear f3 rn2 ma2
  go_wp2_with fail
  refine (HCA.out _ w3 RN1'.out).mono ?_
  rintro e w4 ⟨rfl, f4⟩
  have F4 := Lib.hid (F3.out.trans' f4); have RN2' := Lib.hid (RN2.out.on f4); have f34 := f4; have F34 := Lib.hid f34; clear f4 f34
  go_wp2_with fail
  refine (HCD.out _ w4 RN2'.out).mono ?_
  rintro e w5 ⟨rfl, f5⟩
  have F5 := Lib.hid (F4.out.trans' f5); have RA5 := Lib.hid (RN1'.out.on (F34.out.trans' f5)); have RB5 := Lib.hid (RN2'.out.on f5); clear f5
  go_wp2_with fail
  by_cases hd : a.deep < 12
  case' pos =>
    have hdI : (a.deep : Int) < 12 := by omega
    obtain ⟨s5, hp5, hm5⟩ := parseE_group (l := l) (by have := HLA.out; omega) HPA.out hba hd
    obtain ⟨G1, hG1⟩ : ∃ G1, G1 = [40] ++ l := ⟨_, rfl⟩
    obtain ⟨G2, hG2⟩ : ∃ G2, G2 = G1 ++ [41] := ⟨_, rfl⟩
    have e5 : [40] ++ (l ++ [41]) = G2 := by rw [hG2, hG1, List.append_assoc]
    rw [e5] at hp5
    have lG : G2.length ≤ 250 := by rw [hG2, hG1]; simp only [List.length_append]; have := HLA.out; simp; omega
    have HPG := Lib.hid (fun w' (f : Fr nob w w') => by have := ere_parse G2 w' (by omega) (HE.out.on f); rw [hp5] at this; exact this)
    have ag1 : ∀ w', (Op.stringOp .add ⟨#[40]⟩ ⟨l.toArray⟩).run Tryd.prog w' = .ok (.string ⟨G1.toArray⟩) w' := fun w' => by rw [hG1]; exact run_string_add_lists w' [40] l (by decide) (by have := HLA.out; omega)
    have ag2 : ∀ w', (Op.stringOp .add ⟨G1.toArray⟩ ⟨#[41]⟩).run Tryd.prog w' = .ok (.string ⟨G2.toArray⟩) w' := fun w' => by rw [hG2]; exact run_string_add_lists w' G1 [41] (by rw [hG1]; simp; have := HLA.out; omega) (by decide)
    have h5l : s5.marks.length = s1.marks.length := by rw [hm5]; simp
    have HGT := Lib.hid (fun v w' (h : RN nob w' (a.turn 1) v) => by have := groups_any (a.turn 1).size (a.turn 1) v w' (Nat.le_refl _) (by rw [Nd.turn_size]; have := HZA.out; omega) h; rw [Nd.turn_groups] at this; exact this)
    have HST := Lib.hid (fun v w' (h : RN nob w' (a.turn 1) v) => by have := size_any (a.turn 1).size (a.turn 1) v w' (Nat.le_refl _) (by rw [Nd.turn_size]; have := HZA.out; omega) h; rw [Nd.turn_size] at this; exact this)
    have H5L := Lib.hid h5l
    clear hp5 hm5 hG1 hG2 e5 lG h5l hd
    refine (deep_any a.size a _ w5 (Nat.le_refl _) (by have := HZA.out; omega) RA5.out).mono ?_
    rintro e w6 ⟨rfl, f6⟩
    have F6 := Lib.hid (F5.out.trans' f6); have RA6 := Lib.hid (RA5.out.on f6); have RB6 := Lib.hid (RB5.out.on f6); clear f6
    go_wp2_with fail
    refine (HPG.out w6 F6.out).mono ?_
    rintro e w7 ⟨f7, r5, mv5, rfl, rn5, ma5⟩
    rw [RN] at rn5
    obtain ⟨u5, rfl, rnu⟩ := rn5
    obtain ⟨iu, yu, rfl⟩ := rnu.some (turn_someE HNI.out)
    obtain ⟨am5, cm5, hm5⟩ := ownsRow_slice ma5
    rw [H5L.out] at hm5
    subst hm5
    have F7 := Lib.hid (F6.out.trans' f7); have RA7 := Lib.hid (RA6.out.on f7); have RB7 := Lib.hid (RB6.out.on f7); have RU7 := Lib.hid rnu
    clear f7 rnu ma5
    go_wp2_with fail
    refine (HGT.out _ _ (RU7.out.on (by repeat (first | exact Fr.refl _ _ | apply Fr.alloc | apply Fr.drew)))).mono ?_
    rintro e w9 ⟨rfl, f9⟩
    have F79 := Lib.hid (((Fr.refl nob w7).alloc _).trans' f9); have FX9 := Lib.hid f9; clear f9
    go_wp2_with fail
    refine (groups_any a.size a _ _ (Nat.le_refl _) (by have := HZA.out; omega) (RA7.out.on F79.out)).mono ?_
    rintro e w10 ⟨rfl, f10⟩
    have F710 := Lib.hid (F79.out.trans' f10)
    have hz10 := (FX9.out.trans' f10).heap (heap_alloc_new _ _) (fun x => x)
    have zc0 := cell_at (j := 0) (v := .int .i64 1) hz10 rfl
    have zc1 := cell_at (j := 1) (v := .iface iu yu) hz10 rfl
    clear f10 hz10
    go_wp2_with fail
    refine (HST.out _ _ (RU7.out.on F710.out)).mono ?_
    rintro e w11 ⟨rfl, f11⟩
    have F711 := Lib.hid (F710.out.trans' f11); clear f11
    go_wp2_with fail
    refine (size_any a.size a _ _ (Nat.le_refl _) (by have := HZA.out; omega) (RA7.out.on F711.out)).mono ?_
    rintro e wK ⟨rfl, fK⟩
    have F7K := Lib.hid (F711.out.trans' fK); clear fK
    have FK := Lib.hid (F7.out.trans' F7K.out); have RAK := Lib.hid (RA7.out.on F7K.out); have RBK := Lib.hid (RB7.out.on F7K.out)
  case' neg =>
    have hdI : ¬ (a.deep : Int) < 12 := by omega
    clear hd
    refine (deep_any a.size a _ w5 (Nat.le_refl _) (by have := HZA.out; omega) RA5.out).mono ?_
    rintro e wK ⟨rfl, fK⟩
    have FK := Lib.hid (F5.out.trans' fK); have RAK := Lib.hid (RA5.out.on fK); have RBK := Lib.hid (RB5.out.on fK); clear fK
  all_goals
    go_wp2_with fail
    refine (HPN.out _ FK.out).mono ?_
    rintro e w8 ⟨f8, r8, mv8, rfl, rn8, ma8⟩
    have RN8 := Lib.hid rn8
    rw [← HN.out] at rn8
    obtain ⟨u8, rfl, sn8⟩ := RN_alt.1 rn8
    obtain ⟨au8, cu8, rfl⟩ := sn8.shape
    obtain ⟨am8, cm8, hm8⟩ := ownsRow_slice ma8
    rw [HM4.out] at hm8
    subst hm8
    have F8 := Lib.hid (FK.out.trans' f8); have RA8 := Lib.hid (RAK.out.on f8); have RB8 := Lib.hid (RBK.out.on f8)
    clear f8 rn8 ma8 sn8
    have hb1 := HNA.out; have hb2 := HNB.out
    have h2T : (1 : Int) < ts.length := by have := H2T.out; omega
    go_wp2_with fail
    refine (groups_any n.size n _ _ (Nat.le_refl _) (by have := HZN.out; omega) (RN8.out.on (by repeat (first | exact Fr.refl _ _ | apply Fr.alloc | apply Fr.drew)))).mono ?_
    rw [HNG.out]
    rintro e v1 ⟨rfl, f1⟩
    have K1 := Lib.hid (((Fr.refl nob w8).alloc _).trans' f1); have FX1 := Lib.hid f1; clear f1
    go_wp2_with fail
    refine (groups_any a.size a _ _ (Nat.le_refl _) (by have := HZA.out; omega) (RA8.out.on K1.out)).mono ?_
    rintro e v2 ⟨rfl, f2⟩
    have K2 := Lib.hid (K1.out.trans' f2); have FX2 := Lib.hid (FX1.out.trans' f2); clear f2
    go_wp2_with fail
    refine (groups_any b.size b _ _ (Nat.le_refl _) (by have := HZB.out; omega) (RB8.out.on K2.out)).mono ?_
    rintro e v3 ⟨rfl, f3⟩
    have K3 := Lib.hid (K2.out.trans' f3)
    have hz3 := (FX2.out.trans' f3).heap (heap_alloc_new _ _) (fun x => x)
    have zd0 := cell_at (j := 0) (v := .slice au8 ts.length cu8) hz3 rfl
    clear f3 hz3
    have hga : a.groups ≤ 600 := Nat.le_trans a.groups_le HZA.out
    have hgb : b.groups ≤ 600 := Nat.le_trans b.groups_le HZB.out
    go_wp2
    go_ret
    exact ⟨rfl, F8.out.trans' K3.out⟩
end Go.Proofs.YtepeomphikhbkaaDoor
