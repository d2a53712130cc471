/-
  Merged texts of this claim: CmdTabW.
-/
import Derived.Test.YtkfddjopbocpkaaGreatDoorCards
import Derived.Test.YtkfddjopbocpkaaGreatDoorTie
import Derived.Test.YtkfddjopbocpkaaGreatDoorM16
import Derived.Test.YtkfddjopbocpkaaGreatDoorM22
import Derived.Test.YtkfddjopbocpkaaGreatDoorM33
import Derived.Test.YtkfddjopbocpkaaGreatDoorM34

set_option linter.unusedVariables false
set_option linter.unusedSimpArgs false
/-
  CmdTables: of two told lists the table has of each byte what it becomes; of lists of unlike lengths, or a byte that stands twice, there is none. For every input; the tables of the library lie as start-up lays them (tied).
-/
namespace Go.Proofs.YtkfddjopbocpkaaGreatDoor
open Go.RowKit
attribute [-go_sem] storeVar
theorem zip_drop {f t : List UInt8} {k : Nat} (hf : k < f.length) (ht : k < t.length) : (f.zip t).drop k = (f[k], t[k]) :: (f.zip t).drop (k + 1) := by
  have h : k < (f.zip t).length := by rw [List.length_zip]; omega
  rw [List.drop_eq_getElem_cons h, List.getElem_zip]
theorem wantL_round {x : UInt8} {f t : List UInt8} {k : Nat} {wv : UInt8} (hf : k < f.length) (ht : k < t.length) (hc : (f.take k).contains f[k] = false) :
    wantL x ((f.zip t).drop k) (f.take k) wv = wantL x ((f.zip t).drop (k + 1)) (f.take (k + 1)) (if f[k] = x then t[k] else wv) := by
  rw [zip_drop hf ht, wantL, if_neg (by rw [hc]; simp), List.take_succ_eq_append_getElem hf]
theorem wantL_none {x : UInt8} {f t : List UInt8} {k j : Nat} {wv : UInt8} (hf : k < f.length) (ht : k < t.length) (hj : j < k) (he : f[j]'(by omega) = f[k]) :
    wantL x ((f.zip t).drop k) (f.take k) wv = none := by
  have hc : (f.take k).contains f[k] = true := by
    rw [List.contains_iff_mem, ← he]
    exact List.mem_iff_getElem.2 ⟨j, by rw [List.length_take]; omega, by rw [List.getElem_take]⟩
  rw [zip_drop hf ht, wantL, if_pos hc]
theorem take_free {f : List UInt8} {k : Nat} (hf : k < f.length) (h : ∀ j (hj : j < k), f[j]'(by omega) ≠ f[k]) : (f.take k).contains f[k] = false := by
  rw [Bool.eq_false_iff]
  intro hc
  rw [List.contains_iff_mem] at hc
  obtain ⟨j, hj, e⟩ := List.mem_iff_getElem.1 hc
  rw [List.length_take] at hj
  rw [List.getElem_take] at e
  exact h j (by omega) e

set_option maxRecDepth 100000 in
set_option maxHeartbeats 4000000 in
theorem tabs_far1 (f : List UInt8) (uf : Value) (t : List UInt8) (ut : Value) (x : UInt8) (w : World) (hf : SB w f uf) (ht : SB w t ut) (hE : Env w) (hcp : ∀ a n c, uf = .slice a n c → n ≤ c) (h1 : 30 < f.length) (hl1 : f.length ≤ maxLen) (hl2 : t.length ≤ maxLen) :
    Calls Tryz.prog 3 #[uf, ut, .int .u8 (x.toNat : Int)] w fun e w' => e = .returned (.bool true) ∧ Fr nob w w' := by
  unfold maxLen at hl1 hl2
  obtain ⟨ua, uc, rfl⟩ := hf.shape
  obtain ⟨ub, ud, rfl⟩ := ht.shape
  have hcu := hcp _ _ _ rfl
  have HF := Lib.hid hf; have HT := Lib.hid ht
  have HA := Lib.hid (awake13_any w hE)
  clear hf ht hcp
  have HE := Lib.hid hE; clear hE
  go_enter Tryz.func3, Tryz.ntmps3
  go_wp2_with fail
  refine HA.out.mono ?_
  rintro e w1 ⟨rfl, f1⟩
  have F1 := Lib.hid f1; clear f1
  have HA2 := Lib.hid (awake13_any w1 (HE.out.on F1.out))
  go_wp2_with fail
  refine HA2.out.mono ?_
  rintro e w2 ⟨rfl, f2⟩
  have F2 := Lib.hid (F1.out.trans' f2); clear f2
  go_wp2
  go_ret
  exact ⟨rfl, F2.out⟩
set_option maxRecDepth 100000 in
set_option maxHeartbeats 4000000 in
theorem tabs_far2 (f : List UInt8) (uf : Value) (t : List UInt8) (ut : Value) (x : UInt8) (w : World) (hf : SB w f uf) (ht : SB w t ut) (hE : Env w) (hcp : ∀ a n c, uf = .slice a n c → n ≤ c) (h0 : f.length ≤ 30) (h1 : 30 < t.length) (hl1 : f.length ≤ maxLen) (hl2 : t.length ≤ maxLen) :
    Calls Tryz.prog 3 #[uf, ut, .int .u8 (x.toNat : Int)] w fun e w' => e = .returned (.bool true) ∧ Fr nob w w' := by
  unfold maxLen at hl1 hl2
  obtain ⟨ua, uc, rfl⟩ := hf.shape
  obtain ⟨ub, ud, rfl⟩ := ht.shape
  have hcu := hcp _ _ _ rfl
  have HF := Lib.hid hf; have HT := Lib.hid ht
  have HA := Lib.hid (awake13_any w hE)
  clear hf ht hcp
  have HE := Lib.hid hE; clear hE
  go_enter Tryz.func3, Tryz.ntmps3
  go_wp2_with fail
  refine HA.out.mono ?_
  rintro e w1 ⟨rfl, f1⟩
  have F1 := Lib.hid f1; clear f1
  have HA2 := Lib.hid (awake13_any w1 (HE.out.on F1.out))
  go_wp2_with fail
  refine HA2.out.mono ?_
  rintro e w2 ⟨rfl, f2⟩
  have F2 := Lib.hid (F1.out.trans' f2); clear f2
  go_wp2
  go_ret
  exact ⟨rfl, F2.out⟩
set_option maxRecDepth 100000 in
set_option maxHeartbeats 4000000 in
theorem tabs_len (f : List UInt8) (uf : Value) (t : List UInt8) (ut : Value) (x : UInt8) (w : World) (hf : SB w f uf) (ht : SB w t ut) (hE : Env w) (hcp : ∀ a n c, uf = .slice a n c → n ≤ c) (h0 : f.length ≤ 30) (h1 : t.length ≤ 30) (hne : f.length ≠ t.length) :
    Calls Tryz.prog 3 #[uf, ut, .int .u8 (x.toNat : Int)] w fun e w' => e = .returned (.bool true) ∧ Fr nob w w' := by
  obtain ⟨ua, uc, rfl⟩ := hf.shape
  obtain ⟨ub, ud, rfl⟩ := ht.shape
  have hcu := hcp _ _ _ rfl
  have HF := Lib.hid hf; have HT := Lib.hid ht
  have HA := Lib.hid (awake13_any w hE)
  clear hf ht hcp
  have hC := (show cmdD false (yS f t) 0 = .inl (18, 2 + (yT f).length + 1) by rw [cmd_table, if_pos hne])
  have HTF := Lib.hid (fun (w' : World) (g : Fr nob w w') => told13_any f (.slice ua f.length uc) w' (by omega) (HF.out.on g))
  have HTT := Lib.hid (fun (w' : World) (g : Fr nob w w') => told13_any t (.slice ub t.length ud) w' (by omega) (HT.out.on g))
  have hyl : (yS f t).length ≤ 130 := by
    have h1 := yT_le f; have h2 := yT_le t
    unfold yS; simp only [List.length_cons, List.length_append, List.length_nil]; omega
  have hp0 := fun (w' : World) (g : Fr nob w w') => cmd_parse nob (yS f t) 0 ⟨⟩ w' (by omega) (Nat.zero_le _) (hE.on g) (fun _ h => h.elim)
  rw [hC] at hp0
  have HP := Lib.hid (fun (X : List UInt8) (e : X = yS f t) (w' : World) (g : Fr nob w w') => by rw [← e] at hp0; exact hp0 w' g)
  have hy1 := yT_le f; have hy2 := yT_le t
  clear hE hyl hp0 hC
  have hd1 : ((f.length : Int) == (t.length : Int)) = false := by simp; omega
  have hd2 : ((f.length : Int) != (t.length : Int)) = true := by simp; omega
  obtain ⟨n1, hn1⟩ : ∃ n1, f.length = n1 := ⟨_, rfl⟩
  obtain ⟨n2, hn2⟩ : ∃ n2, t.length = n2 := ⟨_, rfl⟩
  rw [hn1, hn2] at hd1 hd2
  rw [hn1] at h0 HF HTF hy1 hcu ⊢
  rw [hn2] at h1 HT HTT hy2 ⊢
  clear hn1 hn2 hne
  go_enter Tryz.func3, Tryz.ntmps3
  go_wp2_with fail
  refine HA.out.mono ?_
  rintro e w1 ⟨rfl, f1⟩
  have F1 := Lib.hid f1; clear f1
  obtain ⟨y1, e1⟩ : ∃ y, yT f = y := ⟨_, rfl⟩
  obtain ⟨y2, e2⟩ : ∃ y, yT t = y := ⟨_, rfl⟩
  have EY := Lib.hid (And.intro e1 e2)
  rw [e1] at HTF hy1; rw [e2] at HTT hy2
  clear e1 e2
  go_wp2_with fail
  refine (HTF.out _ F1.out).mono ?_
  rintro e w2 ⟨rfl, f2⟩
  have F2 := Lib.hid (F1.out.trans' f2); clear f2
  go_wp2_with fail
  refine (HTT.out _ F2.out).mono ?_
  rintro e w3 ⟨rfl, f3⟩
  have F3 := Lib.hid (F2.out.trans' f3); clear f3
  go_wp2_with fail
  refine (HP.out _ (by unfold yS; rw [EY.out.1, EY.out.2]; (try simp)) _ F3.out).mono ?_
  rintro e w4 ⟨f4, rfl⟩
  obtain ⟨hb5, f5⟩ := new_row w4 zC
  obtain ⟨w5, hw5⟩ : ∃ w5, w5 = (w4.alloc (.cells zC 35)).setRow w4.heap.size zC := ⟨_, rfl⟩
  rw [← hw5] at hb5 f5
  have HW5 := Lib.hid hw5; have F5 := Lib.hid (F3.out.trans' (f4.trans' f5)); have B5 := Lib.hid hb5
  clear hw5 f4 f5 hb5
  go_wp2_with (first | refine wpList_store_row rfl 35 _ _ rfl w4.heap.size zC rfl rfl 35 _ (newAt _ _) info_C rfl (by kernel_rfl) ?_ | rw [← HW5.out])
  go_ret
  exact ⟨rfl, F5.out⟩
set_option maxRecDepth 100000 in
set_option maxHeartbeats 4000000 in
theorem tabs_no (f : List UInt8) (uf : Value) (t : List UInt8) (ut : Value) (x : UInt8) (w : World) (hf : SB w f uf) (ht : SB w t ut) (hE : Env w) (hcp : ∀ a n c, uf = .slice a n c → n ≤ c) (h0 : f.length ≤ 30) (hl : f.length = t.length) (hW : wantL x (f.zip t) [] x = none) :
    Calls Tryz.prog 3 #[uf, ut, .int .u8 (x.toNat : Int)] w fun e w' => e = .returned (.bool true) ∧ Fr nob w w' := by
  obtain ⟨ua, uc, rfl⟩ := hf.shape
  obtain ⟨ub, ud, rfl⟩ := ht.shape
  have hcu := hcp _ _ _ rfl
  have HF := Lib.hid hf; have HT := Lib.hid ht
  have HA := Lib.hid (awake13_any w hE)
  clear hf ht hcp
  obtain ⟨i1, i2⟩ := idTab_at x
  have ht1 := tabL_want x (f.zip t) [] idTab x i1 i2
  have t1 := ht1.1 hW
  have hC := (show cmdD false (yS f t) 0 = .inl (15, 2 + (yT f).length + 1) by rw [cmd_table, if_neg (fun e => e hl), if_neg (by rw [t1]; simp)])
  clear i1 i2 ht1
  have h1 : t.length ≤ 30 := by omega
  have HTF := Lib.hid (fun (w' : World) (g : Fr nob w w') => told13_any f (.slice ua f.length uc) w' (by omega) (HF.out.on g))
  have HTT := Lib.hid (fun (w' : World) (g : Fr nob w w') => told13_any t (.slice ub t.length ud) w' (by omega) (HT.out.on g))
  have hyl : (yS f t).length ≤ 130 := by
    have h1 := yT_le f; have h2 := yT_le t
    unfold yS; simp only [List.length_cons, List.length_append, List.length_nil]; omega
  have hp0 := fun (w' : World) (g : Fr nob w w') => cmd_parse nob (yS f t) 0 ⟨⟩ w' (by omega) (Nat.zero_le _) (hE.on g) (fun _ h => h.elim)
  rw [hC] at hp0
  have HP := Lib.hid (fun (X : List UInt8) (e : X = yS f t) (w' : World) (g : Fr nob w w') => by rw [← e] at hp0; exact hp0 w' g)
  have hy1 := yT_le f; have hy2 := yT_le t
  clear hE hyl hp0 hC
  obtain ⟨n1, hn1⟩ : ∃ n1, f.length = n1 := ⟨_, rfl⟩
  have hn2 : t.length = n1 := by omega
  rw [hn1] at h0 HF HTF hy1 hcu ⊢
  rw [hn2] at h1 HT HTT hy2 ⊢
  have HN1 := Lib.hid hn1; have HN2 := Lib.hid hn2; have HW := Lib.hid hW
  clear hn1 hn2 hl hW
  go_enter Tryz.func3, Tryz.ntmps3
  go_wp2_with fail
  refine HA.out.mono ?_
  rintro e w1 ⟨rfl, f1⟩
  have F1 := Lib.hid f1; clear f1
  obtain ⟨y1, e1⟩ : ∃ y, yT f = y := ⟨_, rfl⟩
  obtain ⟨y2, e2⟩ : ∃ y, yT t = y := ⟨_, rfl⟩
  have EY := Lib.hid (And.intro e1 e2)
  rw [e1] at HTF hy1; rw [e2] at HTT hy2
  clear e1 e2
  go_wp2_with fail
  refine (HTF.out _ F1.out).mono ?_
  rintro e w2 ⟨rfl, f2⟩
  have F2 := Lib.hid (F1.out.trans' f2); clear f2
  go_wp2_with fail
  refine (HTT.out _ F2.out).mono ?_
  rintro e w3 ⟨rfl, f3⟩
  have F3 := Lib.hid (F2.out.trans' f3); clear f3
  go_wp2_with fail
  refine (HP.out _ (by unfold yS; rw [EY.out.1, EY.out.2]; (try simp)) _ F3.out).mono ?_
  rintro e w4 ⟨f4, rfl⟩
  obtain ⟨hb5, f5⟩ := new_row w4 zC
  obtain ⟨w5, hw5⟩ : ∃ w5, w5 = (w4.alloc (.cells zC 35)).setRow w4.heap.size zC := ⟨_, rfl⟩
  rw [← hw5] at hb5 f5
  have HW5 := Lib.hid hw5; have F5 := Lib.hid (F3.out.trans' (f4.trans' f5)); have B5 := Lib.hid hb5
  clear hw5 f4 f5 hb5
  go_wp2_with (first | refine wpList_store_row rfl 35 _ _ rfl w4.heap.size zC rfl rfl 35 _ (newAt _ _) info_C rfl (by kernel_rfl) ?_ | rw [← HW5.out])
  go_loopw [11, 53] (fun wv j wr => ∃ (k : Nat) (b : UInt8), j = .int .i64 k ∧ wv = .int .u8 (b.toNat : Int) ∧ k ≤ n1 ∧ wantL x ((f.zip t).drop k) (f.take k) b = none ∧ Fr nob w5 wr) (fun _ j _ => n1 - (intOf j).toNat)
  case atStart => exact ⟨0, x, rfl, rfl, Nat.zero_le _, HW.out, Fr.refl _ _⟩
  case round =>
    obtain ⟨k, b, rfl, rfl, hk, hw, fr⟩ := hrel
    have HWK := Lib.hid hw; have FR := Lib.hid fr
    clear hw fr
    by_cases hlt : k < n1
    · obtain ⟨q, off, cap, he, hc⟩ := HF.out.get (F5.out.trans' FR.out) (show k < f.length by rw [HN1.out]; exact hlt)
      obtain ⟨q', off', cap', he', hc'⟩ := HT.out.get (F5.out.trans' FR.out) (show k < t.length by rw [HN2.out]; exact hlt)
      injection he with e1 e2 e3
      injection he' with e4 e5 e6
      subst e1; subst e3; subst e4; subst e6
      obtain ⟨a, ha⟩ : ∃ a, f[k]'(by rw [HN1.out]; exact hlt) = a := ⟨_, rfl⟩
      obtain ⟨a', ha'⟩ : ∃ a, t[k]'(by rw [HN2.out]; exact hlt) = a := ⟨_, rfl⟩
      rw [ha] at hc; rw [ha'] at hc'
      have HA1 := Lib.hid ha; have HA2 := Lib.hid ha'
      have HC' := Lib.hid hc'
      clear e2 e5 ha ha' hc'
      go_wp2_with fail
      go_loopw [62] (fun j wr2 => ∃ i : Nat, j = .int .i64 i ∧ i ≤ k ∧ (∀ i' (hi : i' < i), f[i']? ≠ some a) ∧ Fr nob wr wr2) (fun j _ => k - (intOf j).toNat)
      case atStart => exact ⟨0, rfl, Nat.zero_le _, fun i' hi => absurd hi (Nat.not_lt_zero _), Fr.refl _ _⟩
      case round =>
        obtain ⟨i, rfl, hi, hno, fr2⟩ := hrel
        have HNO := Lib.hid hno; have FR2 := Lib.hid fr2
        clear hno hc
        by_cases hik : i < k
        · have hif : i < f.length := by rw [HN1.out]; omega
          obtain ⟨q2, off2, cap2, he2, hc2⟩ := HF.out.get (F5.out.trans' (FR.out.trans' FR2.out)) hif
          injection he2 with e7 e8 e9
          injection e7 with e7; injection e7 with e10 e11
          subst e10; subst e11; subst e9
          obtain ⟨d, hd⟩ : ∃ d, f[i]'hif = d := ⟨_, rfl⟩
          rw [hd] at hc2
          have HD := Lib.hid hd
          clear e8 hd fr2
          by_cases hda : a = d
          · have tq : ((a.toNat : Int) == (d.toNat : Int)) = true := tb_eq hda
            have HDA := Lib.hid hda
            clear hda
            go_wp2
            go_ret
            exact ⟨rfl, F5.out.trans' (FR.out.trans' FR2.out)⟩
          · have tq : ((a.toNat : Int) == (d.toNat : Int)) = false := tb_ne hda
            have HDA := Lib.hid hda
            clear hda
            go_wp2
            go_roundw
            case rel =>
              refine ⟨i + 1, by go_num, by omega, fun i' hi' => ?_, FR2.out⟩
              rcases Nat.lt_succ_iff_lt_or_eq.1 hi' with h | h
              · exact HNO.out i' h
              · subst h
                rw [List.getElem?_eq_getElem hif, HD.out]
                intro e; injection e with e; exact HDA.out e.symm
            case measure => simp [intOf]; omega
        · obtain rfl : i = k := by omega
          have hfree : (f.take i).contains (f[i]'(by rw [HN1.out]; exact hlt)) = false := take_free _ (fun j hj e => HNO.out j hj (by rw [List.getElem?_eq_getElem (by rw [HN1.out]; omega), e, HA1.out]))
          have hrd := wantL_round (x := x) (f := f) (t := t) (wv := b) (by rw [HN1.out]; exact hlt) (by rw [HN2.out]; exact hlt) hfree
          rw [HWK.out, HA1.out, HA2.out] at hrd
          have HRD := Lib.hid hrd
          have hc3 := FR2.out.cell HC'.out (fun x => x)
          clear hfree hrd
          by_cases hax : a = x
          · have tq : ((a.toNat : Int) == (x.toNat : Int)) = true := tb_eq hax
            rw [if_pos hax] at HRD
            clear hax
            go_wp2
            go_roundw
            case rel => exact ⟨i + 1, a', by go_num, rfl, by omega, HRD.out.symm, FR.out.trans' FR2.out⟩
            case measure => simp [intOf]; omega
          · have tq : ((a.toNat : Int) == (x.toNat : Int)) = false := tb_ne hax
            rw [if_neg hax] at HRD
            clear hax
            go_wp2
            go_roundw
            case rel => exact ⟨i + 1, b, by go_num, rfl, by omega, HRD.out.symm, FR.out.trans' FR2.out⟩
            case measure => simp [intOf]; omega
    · obtain rfl : k = n1 := by omega
      have hwe := HWK.out
      rw [List.drop_of_length_le (by rw [List.length_zip, HN1.out, HN2.out]; omega)] at hwe
      exfalso
      unfold wantL at hwe; cases hwe
set_option maxRecDepth 100000 in
set_option maxHeartbeats 4000000 in
theorem tabs_yes (f : List UInt8) (uf : Value) (t : List UInt8) (ut : Value) (x : UInt8) (w : World) (hf : SB w f uf) (ht : SB w t ut) (hE : Env w) (hcp : ∀ a n c, uf = .slice a n c → n ≤ c) (h0 : f.length ≤ 30) (hl : f.length = t.length) (v : UInt8) (hW : wantL x (f.zip t) [] x = some v) :
    Calls Tryz.prog 3 #[uf, ut, .int .u8 (x.toNat : Int)] w fun e w' => e = .returned (.bool true) ∧ Fr nob w w' := by
  obtain ⟨ua, uc, rfl⟩ := hf.shape
  obtain ⟨ub, ud, rfl⟩ := ht.shape
  have hcu := hcp _ _ _ rfl
  have HF := Lib.hid hf; have HT := Lib.hid ht
  have HA := Lib.hid (awake13_any w hE)
  clear hf ht hcp
  obtain ⟨i1, i2⟩ := idTab_at x
  have ht1 := tabL_want x (f.zip t) [] idTab x i1 i2
  obtain ⟨t1, t2, t3⟩ := ht1.2 v hW
  have hC := (show cmdD false (yS f t) 0 = .inr (⟨0, GV.zero, 121, [], SV.zero, (tabL (f.zip t) [] idTab).1⟩, ⟨(yS f t).length, [], 0⟩) by rw [cmd_table, if_neg (fun e => e hl), if_pos t1])
  obtain ⟨tb, htb⟩ : ∃ tb, (tabL (f.zip t) [] idTab).1 = tb := ⟨_, rfl⟩
  rw [htb] at hC t2 t3
  clear i1 i2 ht1
  have h1 : t.length ≤ 30 := by omega
  have HTF := Lib.hid (fun (w' : World) (g : Fr nob w w') => told13_any f (.slice ua f.length uc) w' (by omega) (HF.out.on g))
  have HTT := Lib.hid (fun (w' : World) (g : Fr nob w w') => told13_any t (.slice ub t.length ud) w' (by omega) (HT.out.on g))
  have hyl : (yS f t).length ≤ 130 := by
    have h1 := yT_le f; have h2 := yT_le t
    unfold yS; simp only [List.length_cons, List.length_append, List.length_nil]; omega
  have hp0 := fun (w' : World) (g : Fr nob w w') => cmd_parse nob (yS f t) 0 ⟨⟩ w' (by omega) (Nat.zero_le _) (hE.on g) (fun _ h => h.elim)
  rw [hC] at hp0
  have HP := Lib.hid (fun (X : List UInt8) (e : X = yS f t) (w' : World) (g : Fr nob w w') => by rw [← e] at hp0; exact hp0 w' g)
  have hy1 := yT_le f; have hy2 := yT_le t
  clear hE hyl hp0 hC
  obtain ⟨n1, hn1⟩ : ∃ n1, f.length = n1 := ⟨_, rfl⟩
  have hn2 : t.length = n1 := by omega
  rw [hn1] at h0 HF HTF hy1 hcu ⊢
  rw [hn2] at h1 HT HTT hy2 ⊢
  have HN1 := Lib.hid hn1; have HN2 := Lib.hid hn2; have HW := Lib.hid hW
  clear hn1 hn2 hl hW
  go_enter Tryz.func3, Tryz.ntmps3
  go_wp2_with fail
  refine HA.out.mono ?_
  rintro e w1 ⟨rfl, f1⟩
  have F1 := Lib.hid f1; clear f1
  obtain ⟨y1, e1⟩ : ∃ y, yT f = y := ⟨_, rfl⟩
  obtain ⟨y2, e2⟩ : ∃ y, yT t = y := ⟨_, rfl⟩
  have EY := Lib.hid (And.intro e1 e2)
  rw [e1] at HTF hy1; rw [e2] at HTT hy2
  clear e1 e2
  go_wp2_with fail
  refine (HTF.out _ F1.out).mono ?_
  rintro e w2 ⟨rfl, f2⟩
  have F2 := Lib.hid (F1.out.trans' f2); clear f2
  go_wp2_with fail
  refine (HTT.out _ F2.out).mono ?_
  rintro e w3 ⟨rfl, f3⟩
  have F3 := Lib.hid (F2.out.trans' f3); clear f3
  go_wp2_with fail
  refine (HP.out _ (by unfold yS; rw [EY.out.1, EY.out.2]; (try simp)) _ F3.out).mono ?_
  rintro e w4 ⟨f4, vv, mv, rfl, hv, hm, _⟩
  obtain ⟨cs, pa, pc, rfl, hsz, hone, hpo, _, hrow⟩ := hv.opened
  obtain ⟨ma, mc, rfl⟩ := ownsRow_slice hm
  have HI := Lib.hid (show (Tryz.prog.info? 35).map (·.size) = some cs.size by rw [hsz]; exact info_C)
  have HZ := Lib.hid (show zC.size = cs.size by rw [hsz]; rfl); have HO := Lib.hid hone; have HR := Lib.hid hrow
  clear hv hm hpo hsz hone hrow
  obtain ⟨hb5, f5⟩ := new_row w4 cs
  obtain ⟨w5, hw5⟩ : ∃ w5, w5 = (w4.alloc (.cells zC 35)).setRow w4.heap.size cs := ⟨_, rfl⟩
  rw [← hw5] at hb5 f5
  have HW5 := Lib.hid hw5; have F5 := Lib.hid (F3.out.trans' (f4.trans' f5)); have B5 := Lib.hid hb5
  clear hw5 f4 f5 hb5
  go_wp2_with (first | refine wpList_store_row rfl 35 _ _ rfl w4.heap.size cs rfl rfl 35 _ (newAt _ _) HI.out HZ.out HO.out ?_ | rw [← HW5.out])
  go_loopw [11, 53] (fun wv j wr => ∃ (k : Nat) (b : UInt8), j = .int .i64 k ∧ wv = .int .u8 (b.toNat : Int) ∧ k ≤ n1 ∧ wantL x ((f.zip t).drop k) (f.take k) b = some v ∧ Fr nob w5 wr) (fun _ j _ => n1 - (intOf j).toNat)
  case atStart => exact ⟨0, x, rfl, rfl, Nat.zero_le _, HW.out, Fr.refl _ _⟩
  case round =>
    obtain ⟨k, b, rfl, rfl, hk, hw, fr⟩ := hrel
    have HWK := Lib.hid hw; have FR := Lib.hid fr
    clear hw fr
    by_cases hlt : k < n1
    · obtain ⟨q, off, cap, he, hc⟩ := HF.out.get (F5.out.trans' FR.out) (show k < f.length by rw [HN1.out]; exact hlt)
      obtain ⟨q', off', cap', he', hc'⟩ := HT.out.get (F5.out.trans' FR.out) (show k < t.length by rw [HN2.out]; exact hlt)
      injection he with e1 e2 e3
      injection he' with e4 e5 e6
      subst e1; subst e3; subst e4; subst e6
      obtain ⟨a, ha⟩ : ∃ a, f[k]'(by rw [HN1.out]; exact hlt) = a := ⟨_, rfl⟩
      obtain ⟨a', ha'⟩ : ∃ a, t[k]'(by rw [HN2.out]; exact hlt) = a := ⟨_, rfl⟩
      rw [ha] at hc; rw [ha'] at hc'
      have HA1 := Lib.hid ha; have HA2 := Lib.hid ha'
      have HC' := Lib.hid hc'
      clear e2 e5 ha ha' hc'
      go_wp2_with fail
      go_loopw [62] (fun j wr2 => ∃ i : Nat, j = .int .i64 i ∧ i ≤ k ∧ (∀ i' (hi : i' < i), f[i']? ≠ some a) ∧ Fr nob wr wr2) (fun j _ => k - (intOf j).toNat)
      case atStart => exact ⟨0, rfl, Nat.zero_le _, fun i' hi => absurd hi (Nat.not_lt_zero _), Fr.refl _ _⟩
      case round =>
        obtain ⟨i, rfl, hi, hno, fr2⟩ := hrel
        have HNO := Lib.hid hno; have FR2 := Lib.hid fr2
        clear hno hc
        by_cases hik : i < k
        · have hif : i < f.length := by rw [HN1.out]; omega
          obtain ⟨q2, off2, cap2, he2, hc2⟩ := HF.out.get (F5.out.trans' (FR.out.trans' FR2.out)) hif
          injection he2 with e7 e8 e9
          injection e7 with e7; injection e7 with e10 e11
          subst e10; subst e11; subst e9
          obtain ⟨d, hd⟩ : ∃ d, f[i]'hif = d := ⟨_, rfl⟩
          rw [hd] at hc2
          have HD := Lib.hid hd
          clear e8 hd fr2
          by_cases hda : a = d
          · have tq : ((a.toNat : Int) == (d.toNat : Int)) = true := tb_eq hda
            have HDA := Lib.hid hda
            clear hda
            exfalso
            have := wantL_none (x := x) (f := f) (t := t) (wv := b) (k := k) (j := i) (by rw [HN1.out]; exact hlt) (by rw [HN2.out]; exact hlt) hik (HD.out.trans (HDA.out.symm.trans HA1.out.symm))
            rw [HWK.out] at this; cases this
          · have tq : ((a.toNat : Int) == (d.toNat : Int)) = false := tb_ne hda
            have HDA := Lib.hid hda
            clear hda
            go_wp2
            go_roundw
            case rel =>
              refine ⟨i + 1, by go_num, by omega, fun i' hi' => ?_, FR2.out⟩
              rcases Nat.lt_succ_iff_lt_or_eq.1 hi' with h | h
              · exact HNO.out i' h
              · subst h
                rw [List.getElem?_eq_getElem hif, HD.out]
                intro e; injection e with e; exact HDA.out e.symm
            case measure => simp [intOf]; omega
        · obtain rfl : i = k := by omega
          have hfree : (f.take i).contains (f[i]'(by rw [HN1.out]; exact hlt)) = false := take_free _ (fun j hj e => HNO.out j hj (by rw [List.getElem?_eq_getElem (by rw [HN1.out]; omega), e, HA1.out]))
          have hrd := wantL_round (x := x) (f := f) (t := t) (wv := b) (by rw [HN1.out]; exact hlt) (by rw [HN2.out]; exact hlt) hfree
          rw [HWK.out, HA1.out, HA2.out] at hrd
          have HRD := Lib.hid hrd
          have hc3 := FR2.out.cell HC'.out (fun x => x)
          clear hfree hrd
          by_cases hax : a = x
          · have tq : ((a.toNat : Int) == (x.toNat : Int)) = true := tb_eq hax
            rw [if_pos hax] at HRD
            clear hax
            go_wp2
            go_roundw
            case rel => exact ⟨i + 1, a', by go_num, rfl, by omega, HRD.out.symm, FR.out.trans' FR2.out⟩
            case measure => simp [intOf]; omega
          · have tq : ((a.toNat : Int) == (x.toNat : Int)) = false := tb_ne hax
            rw [if_neg hax] at HRD
            clear hax
            go_wp2
            go_roundw
            case rel => exact ⟨i + 1, b, by go_num, rfl, by omega, HRD.out.symm, FR.out.trans' FR2.out⟩
            case measure => simp [intOf]; omega
    · obtain rfl : k = n1 := by omega
      have hwe := HWK.out
      rw [List.drop_of_length_le (by rw [List.length_zip, HN1.out, HN2.out]; omega)] at hwe
      have hbv : b = v := by unfold wantL at hwe; injection hwe
      subst hbv
      have rc := HR.out w5 _ B5.out wr FR.out
      have hx8 : x.toNat < 256 := UInt8.toNat_lt x
      have hxi : tb[x.toNat]'(by rw [t2]; exact hx8) = b := by
        have := t3; rw [List.getElem?_eq_getElem (by rw [t2]; exact hx8)] at this; injection this
      go_wp2
      go_ret
      exact ⟨rfl, F5.out.trans' FR.out⟩
theorem lawCmdTables (f : List UInt8) (uf : Value) (t : List UInt8) (ut : Value) (n : Nat) (w : World) (hl1 : f.length ≤ maxLen) (hf : SB w f uf) (hcp : ∀ a n c, uf = .slice a n c → n ≤ c) (hl2 : t.length ≤ maxLen) (ht : SB w t ut) (hn : n < 256) (hE : Env w) :
    Calls Tryz.prog 3 #[uf, ut, .int .u8 (n : Int)] w fun e w' => e = .returned (.bool true) ∧ Fr nob w w' := by
  have e : (n : Int) = ((UInt8.ofNat n).toNat : Int) := by rw [UInt8.toNat_ofNat']; omega
  rw [e]
  by_cases h1 : 30 < f.length
  · exact tabs_far1 f uf t ut _ w hf ht hE hcp h1 hl1 hl2
  by_cases h2 : 30 < t.length
  · exact tabs_far2 f uf t ut _ w hf ht hE hcp (by omega) h2 hl1 hl2
  by_cases h3 : f.length = t.length
  · cases hW : wantL (UInt8.ofNat n) (f.zip t) [] (UInt8.ofNat n) with
    | none => exact tabs_no f uf t ut _ w hf ht hE hcp (by omega) h3 hW
    | some v => exact tabs_yes f uf t ut _ w hf ht hE hcp (by omega) h3 v hW
  · exact tabs_len f uf t ut _ w hf ht hE hcp (by omega) (by omega) h3
end Go.Proofs.YtkfddjopbocpkaaGreatDoor
