/-
  ShowJoins: the text of right parts without groups and backs, joined, is theirs, one behind the other; chosen among, with a bar between. Where what the law reads is of bulk at most 1048576; the tables of the library lie as start-up lays them (tied).
-/
import Derived.Test.YtlchaocpejfikaaGreatDoorCards
import Derived.Test.YtlchaocpejfikaaGreatDoorTie
import Derived.Test.YtlchaocpejfikaaGreatDoorM16
import Derived.Test.YtlchaocpejfikaaGreatDoorM22
import Derived.Test.YtlchaocpejfikaaGreatDoorM23
import Derived.Test.YtlchaocpejfikaaGreatDoorM29
import Derived.Test.YtlchaocpejfikaaGreatDoorM32
import Derived.Test.YtlchaocpejfikaaGreatDoorM33

namespace Go.Proofs.YtlchaocpejfikaaGreatDoor
open Go.RowKit

set_option maxRecDepth 100000 in
set_option maxHeartbeats 8000000 in
theorem lawShowJoins (a b : T) (ca cb : List Value) (w : World) (hba : a.bulk ≤ 1048576) (hbb : b.bulk ≤ 1048576) (ha : RT nob w a ca) (hb : RT nob w b cb) (hwa : a.wf) (hwb : b.wf) (hE : Env6 w) :
    Calls Tryz.prog 5 #[.agg ca.toArray, .agg cb.toArray] w fun e w' => e = .returned (.bool true) ∧ Fr nob w w' := by
  obtain ⟨kd, s, ps, mn, mx, nu, ua, uc, hta, rfl, _⟩ := ha.open'
  obtain ⟨kd', s', ps', mn', mx', nu', ua', uc', htb, rfl, _⟩ := hb.open'
  obtain ⟨w0, hw0⟩ : ∃ w0, w0 = (w.alloc (.cells #[.int .i64 kd, .int .u64 s.a, .int .u64 s.b, .int .u64 s.c, .int .u64 s.d, .slice ua ps.length uc, .int .i64 mn, .int .i64 mx, .int .i64 nu] 32)).alloc (.cells #[.int .i64 kd', .int .u64 s'.a, .int .u64 s'.b, .int .u64 s'.c, .int .u64 s'.d, .slice ua' ps'.length uc', .int .i64 mn', .int .i64 mx', .int .i64 nu'] 32) := ⟨_, rfl⟩
  have f0 : Fr nob w w0 := by rw [hw0]; exact ((Fr.refl _ _).alloc _).alloc _
  have hA0 : w0.heap[w.heap.size]? = some (.cells #[.int .i64 kd, .int .u64 s.a, .int .u64 s.b, .int .u64 s.c, .int .u64 s.d, .slice ua ps.length uc, .int .i64 mn, .int .i64 mx, .int .i64 nu] 32 (0, 0)) := by rw [hw0]; exact box2_a w [.int .i64 kd, .int .u64 s.a, .int .u64 s.b, .int .u64 s.c, .int .u64 s.d, .slice ua ps.length uc, .int .i64 mn, .int .i64 mx, .int .i64 nu] [.int .i64 kd', .int .u64 s'.a, .int .u64 s'.b, .int .u64 s'.c, .int .u64 s'.d, .slice ua' ps'.length uc', .int .i64 mn', .int .i64 mx', .int .i64 nu']
  have hB0 : w0.heap[w.heap.size + 1]? = some (.cells #[.int .i64 kd', .int .u64 s'.a, .int .u64 s'.b, .int .u64 s'.c, .int .u64 s'.d, .slice ua' ps'.length uc', .int .i64 mn', .int .i64 mx', .int .i64 nu'] 32 (0, 0)) := by rw [hw0]; exact box2_b w [.int .i64 kd, .int .u64 s.a, .int .u64 s.b, .int .u64 s.c, .int .u64 s.d, .slice ua ps.length uc, .int .i64 mn, .int .i64 mx, .int .i64 nu] [.int .i64 kd', .int .u64 s'.a, .int .u64 s'.b, .int .u64 s'.c, .int .u64 s'.d, .slice ua' ps'.length uc', .int .i64 mn', .int .i64 mx', .int .i64 nu']
  have HAW := Lib.hid (fun w' (f : Fr nob w w') => awake6_any w' (hE.1.on f) (hE.2.on f))
  have HFA := Lib.hid (fun w' (f : Fr nob w w') => few_any a 60 _ w' (by omega) (ha.on f))
  have HFB := Lib.hid (fun w' (f : Fr nob w w') => few_any b 60 _ w' (by omega) (hb.on f))
  have F0 := Lib.hid f0; have HW0 := Lib.hid hw0; have HA0 := Lib.hid hA0; have HB0 := Lib.hid hB0
  have HTA := Lib.hid hta; have HTB := Lib.hid htb; have HA := Lib.hid ha; have HB := Lib.hid hb; have HE1 := Lib.hid hE.1; have HE2 := Lib.hid hE.2
  obtain ⟨x0, x1, x2, x3, x4, x5, x6, x7, x8⟩ := C9.of hA0
  obtain ⟨y0, y1, y2, y3, y4, y5, y6, y7, y8⟩ := C9.of hB0
  have e0 := cell_keptv x0; have e1 := cell_keptv x1; have e2 := cell_keptv x2; have e3 := cell_keptv x3; have e4 := cell_keptv x4; have e5 := cell_keptv x5; have e6 := cell_keptv x6; have e7 := cell_keptv x7; have e8 := cell_keptv x8
  have u0 := cell_keptv y0; have u1 := cell_keptv y1; have u2 := cell_keptv y2; have u3 := cell_keptv y3; have u4 := cell_keptv y4; have u5 := cell_keptv y5; have u6 := cell_keptv y6; have u7 := cell_keptv y7; have u8 := cell_keptv y8
  clear ha hb hE f0 hw0 hA0 hB0 hta htb
  cases hfa : a.few 60 with
  | false =>
    rw [hfa] at HFA
    clear hfa
    go_enter Tryz.func5, Tryz.ntmps5
    go_wp2_with (rw [← HW0.out])
    refine region_fr 26 (by kernel_rfl) (by kernel_rfl) ?_
    simp only [List.take_succ_cons, List.take_zero, List.drop_succ_cons, List.drop_zero]
    repeat (quiet_step (first | (with_reducible exact calls_fr (HAW.out _ (Fr.trans' F0.out (grown_fr _ _ _)))) | (with_reducible exact calls_fr (HFA.out _ (Fr.trans' F0.out (grown_fr _ _ _))))))
    refine wpQuiet_nil ?_
    intro w1 f1
    have F1 := Lib.hid (F0.out.trans' f1)
    clear f1
    go_wp2_with fail
    refine (HAW.out _ F1.out).mono ?_
    rintro e w2 ⟨rfl, f2⟩
    have F2 := Lib.hid (F1.out.trans' f2); clear f2
    go_wp2
    go_ret
    exact ⟨rfl, F2.out⟩
  | true =>
  obtain ⟨hza, hka, hsa⟩ := T.few_shw hfa hwa
  rw [hfa] at HFA
  clear hfa hwa
  cases hfb : b.few 60 with
  | false =>
    rw [hfb] at HFB
    clear hfb hsa
    go_enter Tryz.func5, Tryz.ntmps5
    go_wp2_with (rw [← HW0.out])
    refine region_fr 26 (by kernel_rfl) (by kernel_rfl) ?_
    simp only [List.take_succ_cons, List.take_zero, List.drop_succ_cons, List.drop_zero]
    repeat (quiet_step (first | (with_reducible exact calls_fr (HAW.out _ (Fr.trans' F0.out (grown_fr _ _ _)))) | (with_reducible exact calls_fr (HFA.out _ (Fr.trans' F0.out (grown_fr _ _ _)))) | (with_reducible exact calls_fr (HFB.out _ (Fr.trans' F0.out (grown_fr _ _ _))))))
    refine wpQuiet_nil ?_
    intro w1 f1
    have F1 := Lib.hid (F0.out.trans' f1)
    clear f1
    go_wp2_with fail
    refine (HAW.out _ F1.out).mono ?_
    rintro e w2 ⟨rfl, f2⟩
    have F2 := Lib.hid (F1.out.trans' f2); clear f2
    go_wp2
    go_ret
    exact ⟨rfl, F2.out⟩
  | true =>
  obtain ⟨hzb, hkb, hsb⟩ := T.few_shw hfb hwb
  rw [hfb] at HFB
  clear hfb hwb
  have HRA := Lib.hid (fun w' (f : Fr nob w w') => right_ref a _ w' (by omega) hka (HA.out.on f))
  have HRB := Lib.hid (fun w' (f : Fr nob w w') => right_ref b _ w' (by omega) hkb (HB.out.on f))
  cases hra : a.nd.right with
  | false =>
    rw [hra] at HRA
    clear hra hsa hsb hka hkb
    go_enter Tryz.func5, Tryz.ntmps5
    go_wp2_with (rw [← HW0.out])
    refine region_fr 26 (by kernel_rfl) (by kernel_rfl) ?_
    simp only [List.take_succ_cons, List.take_zero, List.drop_succ_cons, List.drop_zero]
    repeat (quiet_step (first | (with_reducible exact calls_fr (HAW.out _ (Fr.trans' F0.out (grown_fr _ _ _)))) | (with_reducible exact calls_fr (HFA.out _ (Fr.trans' F0.out (grown_fr _ _ _)))) | (with_reducible exact calls_fr (HFB.out _ (Fr.trans' F0.out (grown_fr _ _ _)))) | (with_reducible exact calls_fr (HRA.out _ (Fr.trans' F0.out (grown_fr _ _ _))))))
    refine wpQuiet_nil ?_
    intro w1 f1
    have F1 := Lib.hid (F0.out.trans' f1)
    clear f1
    go_wp2_with fail
    refine (HAW.out _ F1.out).mono ?_
    rintro e w2 ⟨rfl, f2⟩
    have F2 := Lib.hid (F1.out.trans' f2); clear f2
    go_wp2
    go_ret
    exact ⟨rfl, F2.out⟩
  | true =>
  rw [hra] at HRA
  cases hrb : b.nd.right with
  | false =>
    rw [hrb] at HRB
    clear hra hrb hsa hsb hka hkb
    go_enter Tryz.func5, Tryz.ntmps5
    go_wp2_with (rw [← HW0.out])
    refine region_fr 26 (by kernel_rfl) (by kernel_rfl) ?_
    simp only [List.take_succ_cons, List.take_zero, List.drop_succ_cons, List.drop_zero]
    repeat (quiet_step (first | (with_reducible exact calls_fr (HAW.out _ (Fr.trans' F0.out (grown_fr _ _ _)))) | (with_reducible exact calls_fr (HFA.out _ (Fr.trans' F0.out (grown_fr _ _ _)))) | (with_reducible exact calls_fr (HFB.out _ (Fr.trans' F0.out (grown_fr _ _ _)))) | (with_reducible exact calls_fr (HRA.out _ (Fr.trans' F0.out (grown_fr _ _ _)))) | (with_reducible exact calls_fr (HRB.out _ (Fr.trans' F0.out (grown_fr _ _ _))))))
    refine wpQuiet_nil ?_
    intro w1 f1
    have F1 := Lib.hid (F0.out.trans' f1)
    clear f1
    go_wp2_with fail
    refine (HAW.out _ F1.out).mono ?_
    rintro e w2 ⟨rfl, f2⟩
    have F2 := Lib.hid (F1.out.trans' f2); clear f2
    go_wp2
    go_ret
    exact ⟨rfl, F2.out⟩
  | true =>
  rw [hrb] at HRB
  have sa := hsa hra
  have sb := hsb hrb
  have HGA := Lib.hid (fun w' (f : Fr nob w w') => groups_T _ a _ w' (Nat.le_refl _) (by omega) (HA.out.on f))
  have HGB := Lib.hid (fun w' (f : Fr nob w w') => groups_T _ b _ w' (Nat.le_refl _) (by omega) (HB.out.on f))
  have hgla := Nd.groups_le a.nd
  have hglb := Nd.groups_le b.nd
  by_cases hg : (0 : Int) < (a.nd.groups : Int) + (b.nd.groups : Int)
  · obtain ⟨ga, hga⟩ : ∃ g : Int, (a.nd.groups : Int) = g := ⟨_, rfl⟩
    obtain ⟨gb, hgb⟩ : ∃ g : Int, (b.nd.groups : Int) = g := ⟨_, rfl⟩
    have hga1 : 0 ≤ ga := by omega
    have hga2 : ga ≤ 120 := by omega
    have hgb1 : 0 ≤ gb := by omega
    have hgb2 : gb ≤ 120 := by omega
    rw [hga] at HGA hg
    rw [hgb] at HGB hg
    clear hra hrb hsa hsb hka hkb sa sb hgla hglb hga hgb
    go_enter Tryz.func5, Tryz.ntmps5
    go_wp2_with (rw [← HW0.out])
    refine region_fr 26 (by kernel_rfl) (by kernel_rfl) ?_
    simp only [List.take_succ_cons, List.take_zero, List.drop_succ_cons, List.drop_zero]
    repeat (quiet_step (first | (with_reducible exact calls_fr (HAW.out _ (Fr.trans' F0.out (grown_fr _ _ _)))) | (with_reducible exact calls_fr (HFA.out _ (Fr.trans' F0.out (grown_fr _ _ _)))) | (with_reducible exact calls_fr (HFB.out _ (Fr.trans' F0.out (grown_fr _ _ _)))) | (with_reducible exact calls_fr (HRA.out _ (Fr.trans' F0.out (grown_fr _ _ _)))) | (with_reducible exact calls_fr (HRB.out _ (Fr.trans' F0.out (grown_fr _ _ _)))) | (with_reducible exact calls_fr (HGA.out _ (Fr.trans' F0.out (grown_fr _ _ _))))))
    refine wpQuiet_nil ?_
    intro w1 f1
    have F1 := Lib.hid (F0.out.trans' f1)
    clear f1
    go_wp2_with fail
    refine (HGB.out _ F1.out).mono ?_
    rintro e w1' ⟨rfl, f1⟩
    have F1' := Lib.hid (F1.out.trans' f1); clear f1
    go_wp2_with fail
    refine (HAW.out _ F1'.out).mono ?_
    rintro e w2 ⟨rfl, f2⟩
    have F2 := Lib.hid (F1'.out.trans' f2); clear f2
    go_wp2
    go_ret
    exact ⟨rfl, F2.out⟩
  have hga0 : a.nd.groups = 0 := by omega
  have hgb0 : b.nd.groups = 0 := by omega
  rw [hga0] at HGA
  rw [hgb0] at HGB
  obtain ⟨c1, c2, c3⟩ := choose_txt hra hrb hga0 hgb0 (T.nd_some a) (T.nd_some b)
  have hcs := chosen_size [a.nd, b.nd]
  have hjs := joined_size [a.nd, b.nd]
  simp only [Nd.sizes] at hcs hjs
  have HEA := Lib.hid (fun v w' (f : Fr nob w w') (h : RN nob w' a.nd v) => by
    have := show_Ere a.nd v w' (HE1.out.on f) (HE2.out.on f) (by omega) h hsa
    rw [hra, if_pos rfl] at this; exact this)
  have HEB := Lib.hid (fun v w' (f : Fr nob w w') (h : RN nob w' b.nd v) => by
    have := show_Ere b.nd v w' (HE1.out.on f) (HE2.out.on f) (by omega) h hsb
    rw [hrb, if_pos rfl] at this; exact this)
  have HEC := Lib.hid (fun v w' (f : Fr nob w w') (h : RN nob w' (chosen [a.nd, b.nd]) v) => by
    have := show_Ere _ v w' (HE1.out.on f) (HE2.out.on f) (by omega) h (fun _ => c3 sa sb)
    rw [c1, if_pos rfl, c2] at this; exact this)
  have HJJ := Lib.hid (fun (na : a.nd.isAlt = false) (nb : b.nd.isAlt = false) v w' (f : Fr nob w w') (h : RN nob w' (joined [a.nd, b.nd]) v) => by
    obtain ⟨j1, j2, j3⟩ := join_txt hra hrb hga0 hgb0 na nb
    have := show_Ere _ v w' (HE1.out.on f) (HE2.out.on f) (by omega) h (fun _ => j3 sa sb)
    rw [j1, if_pos rfl, j2] at this; exact this)
  have hla := Nd.txt_le _ sa
  have hlb := Nd.txt_le _ sb
  have hsz2 : Nd.sizes [a.nd, b.nd] ≤ 3000000 := by simp only [Nd.sizes]; omega
  obtain ⟨TA, hTA⟩ : ∃ t, a.nd.txt = t := ⟨_, rfl⟩
  obtain ⟨TB, hTB⟩ : ∃ t, b.nd.txt = t := ⟨_, rfl⟩
  rw [hTA] at HEA HEC HJJ hla
  rw [hTB] at HEB HEC HJJ hlb
  obtain ⟨T1, hT1⟩ : ∃ t, TA ++ [124] = t := ⟨_, rfl⟩
  rw [hT1] at HEC
  obtain ⟨T2, hT2⟩ : ∃ t, T1 ++ TB = t := ⟨_, rfl⟩
  rw [hT2] at HEC
  obtain ⟨T3, hT3⟩ : ∃ t, TA ++ TB = t := ⟨_, rfl⟩
  rw [hT3] at HJJ
  have h1l : T1.length ≤ 1000000 := by rw [← hT1]; simp; omega
  have ar1 : ∀ w', (Op.stringOp .add ⟨TA.toArray⟩ ⟨#[124]⟩).run Tryz.prog w' = .ok (.string ⟨T1.toArray⟩) w' := fun w' => by rw [← hT1]; exact run_string_add_lists w' TA [124] (by omega) (by decide)
  have ar2 : ∀ w', (Op.stringOp .add ⟨T1.toArray⟩ ⟨TB.toArray⟩).run Tryz.prog w' = .ok (.string ⟨T2.toArray⟩) w' := fun w' => by rw [← hT2]; exact run_string_add_lists w' T1 TB (by omega) (by omega)
  have ar3 : ∀ w', (Op.stringOp .add ⟨TA.toArray⟩ ⟨TB.toArray⟩).run Tryz.prog w' = .ok (.string ⟨T3.toArray⟩) w' := fun w' => by rw [← hT3]; exact run_string_add_lists w' TA TB (by omega) (by omega)
  have haa : a.nd.isAlt = decide (kd = 3) := by rw [HTA.out]; exact T.nd_alt _ _ _ _ _ _
  have hab : b.nd.isAlt = decide (kd' = 3) := by rw [HTB.out]; exact T.nd_alt _ _ _ _ _ _
  have HAA := Lib.hid haa; have HAB := Lib.hid hab
  clear hra hrb hsa hsb hka hkb sa sb hgla hglb hg hga0 hgb0 c1 c2 c3 hcs hjs hla hlb hTA hTB hT1 hT2 hT3 h1l haa hab
  go_enter Tryz.func5, Tryz.ntmps5
  go_wp2_with (rw [← HW0.out])
  refine region_fr 26 (by kernel_rfl) (by kernel_rfl) ?_
  simp only [List.take_succ_cons, List.take_zero, List.drop_succ_cons, List.drop_zero]
  repeat (quiet_step (first | (with_reducible exact calls_fr (HAW.out _ (Fr.trans' F0.out (grown_fr _ _ _)))) | (with_reducible exact calls_fr (HFA.out _ (Fr.trans' F0.out (grown_fr _ _ _)))) | (with_reducible exact calls_fr (HFB.out _ (Fr.trans' F0.out (grown_fr _ _ _)))) | (with_reducible exact calls_fr (HRA.out _ (Fr.trans' F0.out (grown_fr _ _ _)))) | (with_reducible exact calls_fr (HRB.out _ (Fr.trans' F0.out (grown_fr _ _ _)))) | (with_reducible exact calls_fr (HGA.out _ (Fr.trans' F0.out (grown_fr _ _ _))))))
  refine wpQuiet_nil ?_
  intro w1 f1
  have F1 := Lib.hid (F0.out.trans' f1)
  have HA1 := Lib.hid (f1.heap HA0.out (fun x => x)); have HB1 := Lib.hid (f1.heap HB0.out (fun x => x))
  clear f1 e0 e1 e2 e3 e4 e5 e6 e7 e8 u0 u1 u2 u3 u4 u5 u6 u7 u8 x0 x1 x2 x3 x4 x5 x6 x7 x8 y0 y1 y2 y3 y4 y5 y6 y7 y8
  go_wp2_with fail
  refine (HGB.out _ F1.out).mono ?_
  rintro e w2 ⟨rfl, f2⟩
  have HA2 := Lib.hid (f2.heap HA1.out (fun x => x)); have HB2 := Lib.hid (f2.heap HB1.out (fun x => x))
  have F2 := Lib.hid (F1.out.trans' f2); clear f2
  have HC := Lib.hid (C9.two ⟨C9.of HA2.out, C9.of HB2.out⟩ ((Fr.refl nob _).drew))
  have FD := Lib.hid F2.out.drew
  go_wp2_with fail
  go_region_held3 (fun w' => C9 w' w.heap.size (.int .i64 kd) (.int .u64 s.a) (.int .u64 s.b) (.int .u64 s.c) (.int .u64 s.d) (.slice ua ps.length uc) (.int .i64 mn) (.int .i64 mx) (.int .i64 nu) ∧ C9 w' (w.heap.size + 1) (.int .i64 kd') (.int .u64 s'.a) (.int .u64 s'.b) (.int .u64 s'.c) (.int .u64 s'.d) (.slice ua' ps'.length uc') (.int .i64 mn') (.int .i64 mx') (.int .i64 nu'))
    (first | (with_reducible exact HC.out) | (with_reducible exact C9.two HC.out G1.out) | (with_reducible exact C9.two HC.out G2.out))
    (first | (go_at_call 13; (with_reducible refine (real_any _ a _ _ (Nat.le_refl _) (by omega) (HA.out.on FD.out)).mono ?_); rintro e g1 ⟨v1, rfl, r1, f1⟩; obtain ⟨i1, y1, rfl⟩ := T.nd_iface r1; have R1 := Lib.hid r1.any; have G1 := Lib.hid f1; clear r1 f1) | (go_at_call 13; (with_reducible refine (real_any _ b _ _ (Nat.le_refl _) (by omega) (HB.out.on (FD.out.trans' G1.out))).mono ?_); rintro e g2 ⟨v2, rfl, r2, f2⟩; obtain ⟨i2, y2, rfl⟩ := T.nd_iface r2; have R2 := Lib.hid r2.any; have G12 := Lib.hid f2; have G2 := Lib.hid (G1.out.trans' f2); clear r2 f2))
  all_goals
    have RX := Lib.hid (R1.out.on G12.out)
    have FG := Lib.hid (FD.out.trans' G2.out)
    go_wp2_with fail
    refine (choose_any [a.nd, b.nd] _ _ hsz2 (two_snJ RX.out R2.out rfl)).mono ?_
    rintro e g3 ⟨v3, rfl, r3, f3⟩
    have R3 := Lib.hid r3
    have G3 := Lib.hid (((Fr.refl nob _).alloc _).trans' f3); clear r3 f3
    have F3 := Lib.hid (FG.out.trans' G3.out)
    have RX3 := Lib.hid (RX.out.on G3.out); have RY3 := Lib.hid (R2.out.on G3.out)
    go_wp2_with fail
    refine (HEC.out _ _ F3.out R3.out).mono ?_
    rintro e g4 ⟨rfl, f4⟩
    have F4 := Lib.hid (F3.out.trans' f4); have RX4 := Lib.hid (RX3.out.on f4); have RY4 := Lib.hid (RY3.out.on f4); have G4 := Lib.hid (G3.out.trans' f4); clear f4
    go_wp2_with fail
    refine (HEA.out _ _ F4.out RX4.out).mono ?_
    rintro e g5 ⟨rfl, f5⟩
    have F5 := Lib.hid (F4.out.trans' f5); have RX5 := Lib.hid (RX4.out.on f5); have RY5 := Lib.hid (RY4.out.on f5); have G5 := Lib.hid (G4.out.trans' f5); clear f5
    go_wp2_with fail
    refine (HEB.out _ _ F5.out RY5.out).mono ?_
    rintro e g6 ⟨rfl, f6⟩
    have F6 := Lib.hid (F5.out.trans' f6); have RX6 := Lib.hid (RX5.out.on f6); have RY6 := Lib.hid (RY5.out.on f6); have G6 := Lib.hid (G5.out.trans' f6); clear f6
    have cc := C9.two HC.out (G2.out.trans' G6.out)
    obtain ⟨⟨z0, _⟩, ⟨z1, _⟩⟩ := cc
    by_cases h3 : kd = 3
    · subst h3
      go_wp2
      go_ret
      exact ⟨rfl, F6.out⟩
    by_cases h3' : kd' = 3
    · subst h3'
      go_wp2
      go_ret
      exact ⟨rfl, F6.out⟩
    have HJ := Lib.hid (HJJ.out (by rw [HAA.out]; simpa using h3) (by rw [HAB.out]; simpa using h3'))
    go_wp2_with fail
    refine (join_any [a.nd, b.nd] _ _ hsz2 (two_snJ RX6.out RY6.out rfl)).mono ?_
    rintro e g7 ⟨v7, rfl, r7, f7⟩
    have R7 := Lib.hid r7
    have G7 := Lib.hid (((Fr.refl nob _).alloc _).trans' f7); clear r7 f7 z0 z1
    have F7 := Lib.hid (F6.out.trans' G7.out)
    have RX7 := Lib.hid (RX6.out.on G7.out); have RY7 := Lib.hid (RY6.out.on G7.out)
    go_wp2_with fail
    refine (HJ.out _ _ F7.out R7.out).mono ?_
    rintro e g8 ⟨rfl, f8⟩
    have F8 := Lib.hid (F7.out.trans' f8); have RX8 := Lib.hid (RX7.out.on f8); have RY8 := Lib.hid (RY7.out.on f8); clear f8
    go_wp2_with fail
    refine (HEA.out _ _ F8.out RX8.out).mono ?_
    rintro e g9 ⟨rfl, f9⟩
    have F9 := Lib.hid (F8.out.trans' f9); have RY9 := Lib.hid (RY8.out.on f9); clear f9
    go_wp2_with fail
    refine (HEB.out _ _ F9.out RY9.out).mono ?_
    rintro e g10 ⟨rfl, f10⟩
    have F10 := Lib.hid (F9.out.trans' f10); clear f10
    go_wp2
    go_ret
    exact ⟨rfl, F10.out⟩

namespace showJoins
open Go.ChangeShapes Go.WideShapes Go.ChangeAt Go.RowKit

theorem readable : ∀ t ∈ Tryz.f5.params.toList, Tryz.prog.readableRec t = true ∧ t < Tryz.prog.types.size := by
  rw [Tryz.params5]
  intro t ht
  simp only [List.mem_cons, List.not_mem_nil, or_false] at ht
  rcases ht with rfl | rfl
  all_goals exact ⟨by kernel_rfl, of_decide_eq_true (by kernel_rfl)⟩

set_option maxRecDepth 100000 in
theorem contract (H : Type) (enc : TypeId × Value → H) (W : World) (base : Nat) (args : Array Value) (ds gs : List (DataW H)) (before : List MemPlace)
    (hval : ∀ (j : Nat) t v, Tryz.f5.params[j]? = some t → args[j]? = some v → Value.okWide Tryz.prog W .any base t v)
    (hW : DataW.Whole enc Tryz.prog Tryz.f5.params.toList Rows.showJoinsSpec.vars false W args.toList ds gs before) (hk : Rows.uptoSmall H (ds ++ gs) = true) (hL : laidMetH Tryz.prog door.list1 W) (hsh : W.ShapedOpen Tryz.prog) :
    Calls Tryz.prog 5 args W fun e W' => ∃ v, e = .returned v ∧ Rows.showJoinsSpec.post enc Tryz.prog Tryz.f5 false true false false W args v W' := by
  have hW' := hW
  obtain ⟨p, q, hA0, hV, rfl, hfz, hnd⟩ := hW
  have hA : DataW.TrodAll enc Tryz.prog W 0 (fun _ => true) true Tryz.f5.params.toList args.toList ds p := hA0
  rw [Tryz.params5] at hA hval
  obtain ⟨v0, vs0, d0, ds0, p0, q0, hargs, rfl, rfl, h0, r0⟩ := trodAll_cons hA
  obtain ⟨v1, vs1, d1, ds1, p1, q1, rfl, rfl, rfl, h1, r1⟩ := trodAll_cons r0
  obtain ⟨rfl, rfl, rfl⟩ := trodAll_nil r1
  obtain rfl : args = #[v0, v1] := by cases args; simp_all
  obtain ⟨rfl, rfl⟩ := trodVars_none hV
  have hb := of_decide_eq_true hk
  simp only [List.append_nil, Rows.uptoBulkAll, Nat.add_zero] at hb
  obtain ⟨t0, c0, rfl, e0, w0, b0⟩ := open_T (hval 0 32 v0 rfl rfl) h0
  obtain ⟨t1, c1, rfl, e1, w1, b1⟩ := open_T (hval 1 32 v1 rfl rfl) h1
  refine (lawShowJoins t0 t1 c0 c1 W (by omega) (by omega) e0 e1 w0 w1 (door.env hL hsh)).mono fun e W' ⟨he, hg⟩ => ?_
  subst he
  exact ⟨_, rfl, law_post rfl (by kernel_rfl) Tryz.underlying4 door.laidOut readable rfl hW' hg.below⟩

set_option maxRecDepth 100000 in
theorem lifted (os : Os) (started : os.Started) (H : Type) (enc : TypeId × Value → H) (F : Stop.Interp) :
    ReturnsInHanded {} Tryz.checked os 5 .any (fun w args => ((Rows.OpenSpec.upto Rows.showJoinsSpec).pre enc Tryz.prog Tryz.f5 [] false w args ∧ laidMetH Tryz.prog door.list1 w) ∧ sizedMet enc Tryz.prog Tryz.f5 (Rows.OpenSpec.upto Rows.showJoinsSpec) false w args)
      (((Rows.OpenSpec.upto Rows.showJoinsSpec).at F).post enc Tryz.prog Tryz.f5 false true false false) := by
  refine returns_doorU (C := Tryz.checked) (s := Rows.OpenSpec.upto Rows.showJoinsSpec) (k := Rows.uptoSmall) rfl (X := fun w _ => laidMetH Tryz.prog door.list1 w) (fun _ _ _ hh h => h.of_heap hh) door.own started (by kernel_rfl) Tryz.func5
    (witnessU (enc := enc) (C := Tryz.checked) (os := os) (s := Rows.OpenSpec.upto Rows.showJoinsSpec) (k := Rows.uptoSmall) rfl (X := fun w _ => laidMetH Tryz.prog door.list1 w) false (World.doorLaid Tryz.prog 14 os) #[.agg #[.int .i64 0, .int .u64 0, .int .u64 0, .int .u64 0, .int .u64 0, .slice none 0 0, .int .i64 0, .int .i64 0, .int .i64 0], .agg #[.int .i64 0, .int .u64 0, .int .u64 0, .int .u64 0, .int .u64 0, .slice none 0 0, .int .i64 0, .int .i64 0, .int .i64 0]] 8 rfl (World.shaped_of_RefB (by kernel_rfl) (by kernel_rfl)) (by kernel_rfl)
      (x := ([.agg [.lit (.int .i64 0), .agg [.lit (.int .u64 0), .lit (.int .u64 0), .lit (.int .u64 0), .lit (.int .u64 0)], .nil, .lit (.int .i64 0), .lit (.int .i64 0), .lit (.int .i64 0)], .agg [.lit (.int .i64 0), .agg [.lit (.int .u64 0), .lit (.int .u64 0), .lit (.int .u64 0), .lit (.int .u64 0)], .nil, .lit (.int .i64 0), .lit (.int .i64 0), .lit (.int .i64 0)]], [], [])) (by kernel_rfl) rfl (by kernel_rfl) (by kernel_rfl) (door.met os _)) ?_
  intro W base args ds gs before hval hW hk hL hsh
  exact contract H enc W base args ds gs before hval hW hk hL hsh

theorem over : Rows.showJoinsUptoRow.holds Tryz.pinned (Rows.OpenSpec.upto Rows.showJoinsSpec) :=
  OpenClaim.holds_of_cond 5 Tryz.f5 rfl rfl rfl rfl rfl rfl rfl ⟨rfl, rfl, rfl, rfl, rfl⟩ rfl rfl rfl rfl rfl (by kernel_rfl) Tryz.func5 (by kernel_rfl)
    (of_decide_eq_true (by kernel_rfl)) (by unfold Func.isWrapper; first | (rw [if_pos (by decide +kernel)]; kernel_rfl) | (rw [if_neg (by decide +kernel)]; exact ⟨rfl, rfl⟩))
    (fun os started H enc _ F => lifted os started H enc F)

/-- THE STATEMENT: the tied card. -/
theorem proved : Rows.ShowJoinsUptoCardSaid :=
  Claim7.holds_tied_plain_at .later [] [.data, .data, .data] true _ true over (fun _ h => by cases h) (by kernel_rfl) (fun _ h => by cases h) showJoinsUpto_row_tie rfl ⟨rfl, rfl⟩ (by kernel_rfl) rfl
    (fun f fn hf hfn => by
      obtain rfl : f = 5 := (Option.some.inj ((show Tryz.prog.funcNamed "placket/placketlaw06.ShowJoins" = some 5 by kernel_rfl).symm.trans hf)).symm
      obtain rfl : fn = Tryz.f5 := (Option.some.inj (Tryz.func5.symm.trans hfn)).symm
      exact ⟨by kernel_rfl, fun j t ht => by
        rw [Tryz.params5] at ht
        have hm : t ∈ [32, 32] := by
          have := Array.mem_of_getElem? ht
          simpa using this
        exact List.all_eq_true.1 (show ([32, 32] : List TypeId).all (fun t => !Tryz.prog.wantsStandIn t) = true by kernel_rfl) t hm |> fun h => by show Tryz.prog.wantsStandIn t = false; simpa using h⟩)
    (by kernel_rfl)
#print axioms proved
end showJoins

end Go.Proofs.YtlchaocpejfikaaGreatDoor
