/-
  Merged texts of this claim: ShowO.
-/
import Derived.Test.YtlchaocpejfikaaGreatDoorM12

/-
  The document's answer for package show: Set, told in brackets (printed by tools/showr.py).
-/
namespace Go.Proofs.YtlchaocpejfikaaGreatDoor
open Go.RowKit

theorem lenR_lit6 (s : S4) (w : World) (hs : s.fit) : Calls Tryz.prog 26 #[setV s] w fun e w' => e = .returned (.int .i64 s.len) ∧ Fr nob w w' := lenR_any s w hs
theorem notR_lit6 (s : S4) (w : World) : Calls Tryz.prog 32 #[setV s] w fun e w' => e = .returned (setV s.not) ∧ Fr nob w w' := notR_any s w
theorem spansR_lit6 (s : S4) (w : World) (hs : s.fit) : Calls Tryz.prog 27 #[setV s] w (SpV s w) := spansR_any s w hs
set_option maxRecDepth 100000 in
set_option maxHeartbeats 8000000 in
theorem ref_setB (s : S4) (w : World) (hs : s.fit) (h256 : s.len ≠ 256) (h1 : s.len ≠ 1) :
    Calls Tryz.prog 10 #[setV s] w fun e w' => e = .returned (.string ⟨(setT s).toArray⟩) ∧ Fr nob w w' := by
  obtain ⟨w1, hw1⟩ : ∃ w1, w1 = w.alloc (.cells #[.int .u64 s.a, .int .u64 s.b, .int .u64 s.c, .int .u64 s.d] 24) := ⟨_, rfl⟩
  have f01 : Fr nob w w1 := by rw [hw1]; exact (Fr.refl _ _).alloc _
  have hb1 : w1.heap[w.heap.size]? = some (.cells #[.int .u64 s.a, .int .u64 s.b, .int .u64 s.c, .int .u64 s.d] 24 (0, 0)) := by rw [hw1]; exact newAt _ _
  have r1 := rule4 hb1
  have HL := Lib.hid (lenR_lit6 s w1 hs)
  have HSP := Lib.hid (fun w' => spansR_lit6 s w' hs)
  have HH10 := Lib.hid (show ∀ w', Calls Tryz.prog 30 #[setV s, .int .u8 10] w' fun e w'' => e = .returned (.bool (s.has 10)) ∧ Fr nob w' w'' from fun w' => hasR_lit6 s 10 w' hs (by decide))
  have HEN := Lib.hid (fun w' => ref_ends s w' hs)
  obtain ⟨n, hn⟩ : ∃ n, s.len = n := ⟨_, rfl⟩
  have hn256 : n ≤ 256 := hn ▸ s.len_le
  have HST := Lib.hid (fun o ho => setT_ref hs h256 h1 o ho)
  rw [hn] at h256 h1 HL HST
  have c1 : ((n : Int) == 256) = false := by simp; omega
  have c2 : ((n : Int) == 1) = false := by simp; omega
  have HS := Lib.hid hs; have F01 := Lib.hid f01; have HW1 := Lib.hid hw1; have HB1 := Lib.hid hb1
  clear hs f01 hw1 hb1 hn h256 h1
  go_enter Tryz.func10, Tryz.ntmps10
  go_wp2_with (rw [← HW1.out])
  refine HL.out.mono ?_
  rintro e w2 ⟨rfl, f2⟩
  have F2 := Lib.hid f2; clear f2
  have r2 := rule4 (F2.out.heap HB1.out (fun x => x))
  go_wp2_with fail
  refine (HSP.out w2).mono ?_
  rintro e w3 ⟨v0, rfl, o0, f3, n0⟩
  obtain ⟨a0, l0, rfl⟩ := ownsRow_slice (show w3.ownsRow 0 62 2 v0 (spl s.has 256).length (spC (spl s.has 256)) from o0)
  have O0 := Lib.hid o0
  have F3 := Lib.hid (F2.out.trans' f3); clear f3 n0 o0
  have r3 := rule4 (F3.out.heap HB1.out (fun x => x))
  clear HL r1 r2
  rcases (show (128 < n ∨ (¬ 128 < n ∧ n = 0)) ∨ (¬ 128 < n ∧ n ≠ 0) by omega) with (hg | ⟨hg, h0⟩) | ⟨hg, h0⟩
  · have hgI : (128 : Int) < (n : Int) := by omega
    have ho : decide (128 < n ∨ n = 0) = true := by simp [hg]
    clear hg
    go_wp2_with fail
    cases h10 : s.has 10 with
    | true =>
      have HQ := Lib.hid (show setT s = brkT true s.not by rw [HST.out true ho, h10]; rfl)
      rw [h10] at HH10
      clear HST h10
      refine (HH10.out w3).mono ?_
      rintro e w4 ⟨rfl, f4⟩
      have F4 := Lib.hid (F3.out.trans' f4); have f34 := f4; have F34 := Lib.hid f34; clear f4 f34
      have r4 := rule4 (F4.out.heap HB1.out (fun x => x))
      go_wp2_with fail
      have FA := F4; have F3A := F34
      have rA := r4
      obtain ⟨wA, hwA⟩ : ∃ wA, w4 = wA := ⟨_, rfl⟩
      rw [hwA] at FA F3A rA ⊢
      clear hwA
      refine (notR_lit6 s wA).mono ?_
      obtain ⟨s2, hN⟩ : ∃ x, s.not = x := ⟨_, rfl⟩
      have HS2 := Lib.hid (show s2.fit from hN ▸ fit_not _)
      rw [hN] at HQ
      rw [hN]
      rintro e wB ⟨rfl, fB⟩
      have FB := Lib.hid (FA.out.trans' fB); clear fB hN
      go_wp2_with fail
      refine (spansR_lit6 s2 wB HS2.out).mono ?_
      rintro e w5 ⟨v, rfl, oL, f5, n5⟩
      obtain ⟨av, cv, rfl⟩ := ownsRow_slice (show w5.ownsRow 0 62 2 v (spl s2.has 256).length (spC (spl s2.has 256)) from oL)
      have OL := Lib.hid oL
      have F5 := Lib.hid (FB.out.trans' f5); clear f5 n5 oL
      have hLl := spl_len s2.has 256
      have hLi := (spl_good s2.has 256).in_
      obtain ⟨L, hL⟩ : ∃ L, spl s2.has 256 = L := ⟨_, rfl⟩
      rw [hL] at OL hLl hLi ⊢
      have hset : setT s = [91, 94] ++ spsT L ++ [93] := by rw [HQ.out, ← hL]; rfl
      have HSET := Lib.hid hset; have HLI := Lib.hid hLi
      clear hset hLi hL
      go_wp2_with fail
      go_loopw [7, 54] (fun v7 i wr => ∃ k : Nat, i = .int .i64 k ∧ k ≤ L.length ∧ v7 = .string ⟨([91, 94] ++ spsT (L.take k)).toArray⟩ ∧ Fr nob w5 wr) (fun _ i _ => L.length - (intOf i).toNat)
      case atStart => exact ⟨0, rfl, Nat.zero_le _, rfl, Fr.refl _ _⟩
      case round =>
        obtain ⟨k, rfl, hk, rfl, fr⟩ := hrel
        have FR := Lib.hid fr; clear fr
        by_cases hlt : k < L.length
        · have OK := OL.out.on FR.out (fun _ _ x => x)
          obtain ⟨g, cap, hv, hc0, hc1⟩ := OK.get hlt
          injection hv with e1 e2 e3
          subst e1; subst e3
          have htk := spsT_take hlt
          have hbd := HLI.out L[k] (List.getElem_mem hlt)
          have hsz := spsT_le (L.take k)
          obtain ⟨⟨p, q⟩, hpq⟩ : ∃ x, L[k] = x := ⟨_, rfl⟩
          rw [hpq] at hc0 hc1 htk hbd
          simp only at hc0 hc1 hbd
          rw [List.length_take] at hsz
          have hip := insT_le p; have hiq := insT_le q
          have hep := fun w' => ref_end p w' (by omega)
          have heq := fun w' => ref_end q w' (by omega)
          have hspn : spnT (p, q) = insT p ++ (if p = q then [] else 45 :: insT q) := rfl
          obtain ⟨IP, hIP⟩ : ∃ x, insT p = x := ⟨_, rfl⟩
          obtain ⟨IQ, hIQ⟩ : ∃ x, insT q = x := ⟨_, rfl⟩
          rw [hIP] at hip hep
          rw [hIQ] at hiq heq
          rw [hIP, hIQ] at hspn
          obtain ⟨X, hX⟩ : ∃ X, [91, 94] ++ spsT (L.take k) = X := ⟨_, rfl⟩
          have hXl : X.length ≤ 3000 := by rw [← hX]; simp; omega
          obtain ⟨Y, hY⟩ : ∃ Y, X ++ IP = Y := ⟨_, rfl⟩
          have hYl : Y.length ≤ 3005 := by rw [← hY]; simp; omega
          obtain ⟨Z, hZ⟩ : ∃ Z, Y ++ [45] = Z := ⟨_, rfl⟩
          have hZl : Z.length ≤ 3006 := by rw [← hZ]; simp; omega
          obtain ⟨U, hU⟩ : ∃ U, Z ++ IQ = U := ⟨_, rfl⟩
          have hnext : [91, 94] ++ spsT (L.take (k + 1)) = (if p = q then Y else U) := by
            rw [htk, ← List.append_assoc, hX, hspn, ← hU, ← hZ, ← hY]
            split <;> simp [List.append_assoc]
          have ar1 : ∀ w', (Op.stringOp .add ⟨X.toArray⟩ ⟨IP.toArray⟩).run Tryz.prog w' = .ok (.string ⟨Y.toArray⟩) w' := fun w' => by rw [← hY]; exact run_string_add_lists w' X IP (by omega) (by omega)
          have ar2 : ∀ w', (Op.stringOp .add ⟨Y.toArray⟩ ⟨#[45]⟩).run Tryz.prog w' = .ok (.string ⟨Z.toArray⟩) w' := fun w' => by rw [← hZ]; exact run_string_add_lists w' Y [45] (by omega) (by decide)
          have ar3 : ∀ w', (Op.stringOp .add ⟨Z.toArray⟩ ⟨IQ.toArray⟩).run Tryz.prog w' = .ok (.string ⟨U.toArray⟩) w' := fun w' => by rw [← hU]; exact run_string_add_lists w' Z IQ (by omega) (by omega)
          have HEP := Lib.hid hep; have HEQ := Lib.hid heq; have HNX := Lib.hid hnext
          have HC0 := Lib.hid hc0; have HC1 := Lib.hid hc1
          rw [hX]
          clear e2 hpq htk hX hY hZ hU hIP hIQ hspn OK hep heq hnext
          go_wp2_with fail
          refine (HEP.out _).mono ?_
          rintro e w6 ⟨rfl, f6⟩
          have k0 := cell_keptv (f6.cell HC0.out (fun x => x))
          have k1 := cell_keptv (f6.cell HC1.out (fun x => x))
          have C0 := Lib.hid (f6.cell HC0.out (fun x => x)); have C1 := Lib.hid (f6.cell HC1.out (fun x => x))
          have F6 := Lib.hid (FR.out.trans' f6); clear f6 hc0 hc1
          go_wp2_with fail
          refine region_fr 10 (by kernel_rfl) (by kernel_rfl) ?_
          simp only [List.take_succ_cons, List.take_zero, List.drop_succ_cons, List.drop_zero]
          repeat (quiet_step (fail))
          refine wpQuiet_nil ?_
          intro w7 f7
          have d0 := f7.cell C0.out (fun x => x)
          have d1 := f7.cell C1.out (fun x => x)
          have F7 := Lib.hid (F6.out.trans' f7); clear f7 k0 k1
          by_cases hpq : p = q
          · have q1 : ¬ (p : Int) < (q : Int) := by omega
            rw [if_pos hpq] at HNX
            clear hpq
            go_wp2
            go_roundw
            case rel => exact ⟨k + 1, by go_num, by omega, by rw [HNX.out], F7.out⟩
            case measure => simp [intOf]; omega
          · have q1 : (p : Int) < (q : Int) := by omega
            rw [if_neg hpq] at HNX
            clear hpq
            go_wp2_with fail
            refine (HEQ.out _).mono ?_
            rintro e w8 ⟨rfl, f8⟩
            have F8 := Lib.hid (F7.out.trans' f8); clear f8
            go_wp2
            go_roundw
            case rel => exact ⟨k + 1, by go_num, by omega, by rw [HNX.out], F8.out⟩
            case measure => simp [intOf]; omega
        · obtain rfl : k = L.length := by omega
          have hsz := spsT_le L
          have hT := List.take_of_length_le (l := L) (Nat.le_refl _)
          rw [hT]
          have ar4 : ∀ w', (Op.stringOp .add ⟨([91, 94] ++ spsT L).toArray⟩ ⟨#[93]⟩).run Tryz.prog w' = .ok (.string ⟨(setT s).toArray⟩) w' := fun w' => by rw [HSET.out]; exact run_string_add_lists w' _ [93] (by simp; omega) (by decide)
          obtain ⟨X, hX⟩ : ∃ X, [91, 94] ++ spsT L = X := ⟨_, rfl⟩
          rw [hX] at ar4 ⊢
          clear hX hT
          go_wp2
          go_ret
          exact ⟨rfl, F01.out.trans' (F5.out.trans' FR.out)⟩
    | false =>
      cases hen : endsB s with
      | true =>
        have HQ := Lib.hid (show setT s = brkT false s by rw [HST.out true ho, h10, hen]; rfl)
        rw [h10] at HH10
        clear HST h10
        refine (HH10.out w3).mono ?_
        rintro e w4 ⟨rfl, f4⟩
        have F4 := Lib.hid (F3.out.trans' f4); have f34 := f4; have F34 := Lib.hid f34; clear f4 f34
        have r4 := rule4 (F4.out.heap HB1.out (fun x => x))
        go_wp2_with fail
        rw [hen] at HEN
        clear hen
        refine (HEN.out w4).mono ?_
        rintro e wA ⟨rfl, fA⟩
        have FA := Lib.hid (F4.out.trans' fA); have F3A := Lib.hid (F34.out.trans' fA); clear fA
        have rA := rule4 (FA.out.heap HB1.out (fun x => x))
        go_wp2_with fail
        have OL := Lib.hid (O0.out.on F3A.out (fun _ _ x => x))
        have F5 := FA
        obtain ⟨w5, hw5⟩ : ∃ w5, wA = w5 := ⟨_, rfl⟩
        rw [hw5] at OL F5 rA ⊢
        clear hw5
        obtain ⟨av, hav⟩ : ∃ av, a0 = av := ⟨_, rfl⟩
        obtain ⟨cv, hcv⟩ : ∃ cv, l0 = cv := ⟨_, rfl⟩
        rw [hav, hcv] at OL ⊢
        clear hav hcv
        have hLl := spl_len s.has 256
        have hLi := (spl_good s.has 256).in_
        obtain ⟨L, hL⟩ : ∃ L, spl s.has 256 = L := ⟨_, rfl⟩
        rw [hL] at OL hLl hLi ⊢
        have hset : setT s = [91] ++ spsT L ++ [93] := by rw [HQ.out, ← hL]; rfl
        have HSET := Lib.hid hset; have HLI := Lib.hid hLi
        clear hset hLi hL
        go_wp2_with fail
        go_loopw [7, 54] (fun v7 i wr => ∃ k : Nat, i = .int .i64 k ∧ k ≤ L.length ∧ v7 = .string ⟨([91] ++ spsT (L.take k)).toArray⟩ ∧ Fr nob w5 wr) (fun _ i _ => L.length - (intOf i).toNat)
        case atStart => exact ⟨0, rfl, Nat.zero_le _, rfl, Fr.refl _ _⟩
        case round =>
          obtain ⟨k, rfl, hk, rfl, fr⟩ := hrel
          have FR := Lib.hid fr; clear fr
          by_cases hlt : k < L.length
          · have OK := OL.out.on FR.out (fun _ _ x => x)
            obtain ⟨g, cap, hv, hc0, hc1⟩ := OK.get hlt
            injection hv with e1 e2 e3
            subst e1; subst e3
            have htk := spsT_take hlt
            have hbd := HLI.out L[k] (List.getElem_mem hlt)
            have hsz := spsT_le (L.take k)
            obtain ⟨⟨p, q⟩, hpq⟩ : ∃ x, L[k] = x := ⟨_, rfl⟩
            rw [hpq] at hc0 hc1 htk hbd
            simp only at hc0 hc1 hbd
            rw [List.length_take] at hsz
            have hip := insT_le p; have hiq := insT_le q
            have hep := fun w' => ref_end p w' (by omega)
            have heq := fun w' => ref_end q w' (by omega)
            have hspn : spnT (p, q) = insT p ++ (if p = q then [] else 45 :: insT q) := rfl
            obtain ⟨IP, hIP⟩ : ∃ x, insT p = x := ⟨_, rfl⟩
            obtain ⟨IQ, hIQ⟩ : ∃ x, insT q = x := ⟨_, rfl⟩
            rw [hIP] at hip hep
            rw [hIQ] at hiq heq
            rw [hIP, hIQ] at hspn
            obtain ⟨X, hX⟩ : ∃ X, [91] ++ spsT (L.take k) = X := ⟨_, rfl⟩
            have hXl : X.length ≤ 3000 := by rw [← hX]; simp; omega
            obtain ⟨Y, hY⟩ : ∃ Y, X ++ IP = Y := ⟨_, rfl⟩
            have hYl : Y.length ≤ 3005 := by rw [← hY]; simp; omega
            obtain ⟨Z, hZ⟩ : ∃ Z, Y ++ [45] = Z := ⟨_, rfl⟩
            have hZl : Z.length ≤ 3006 := by rw [← hZ]; simp; omega
            obtain ⟨U, hU⟩ : ∃ U, Z ++ IQ = U := ⟨_, rfl⟩
            have hnext : [91] ++ spsT (L.take (k + 1)) = (if p = q then Y else U) := by
              rw [htk, ← List.append_assoc, hX, hspn, ← hU, ← hZ, ← hY]
              split <;> simp [List.append_assoc]
            have ar1 : ∀ w', (Op.stringOp .add ⟨X.toArray⟩ ⟨IP.toArray⟩).run Tryz.prog w' = .ok (.string ⟨Y.toArray⟩) w' := fun w' => by rw [← hY]; exact run_string_add_lists w' X IP (by omega) (by omega)
            have ar2 : ∀ w', (Op.stringOp .add ⟨Y.toArray⟩ ⟨#[45]⟩).run Tryz.prog w' = .ok (.string ⟨Z.toArray⟩) w' := fun w' => by rw [← hZ]; exact run_string_add_lists w' Y [45] (by omega) (by decide)
            have ar3 : ∀ w', (Op.stringOp .add ⟨Z.toArray⟩ ⟨IQ.toArray⟩).run Tryz.prog w' = .ok (.string ⟨U.toArray⟩) w' := fun w' => by rw [← hU]; exact run_string_add_lists w' Z IQ (by omega) (by omega)
            have HEP := Lib.hid hep; have HEQ := Lib.hid heq; have HNX := Lib.hid hnext
            have HC0 := Lib.hid hc0; have HC1 := Lib.hid hc1
            rw [hX]
            clear e2 hpq htk hX hY hZ hU hIP hIQ hspn OK hep heq hnext
            go_wp2_with fail
            refine (HEP.out _).mono ?_
            rintro e w6 ⟨rfl, f6⟩
            have k0 := cell_keptv (f6.cell HC0.out (fun x => x))
            have k1 := cell_keptv (f6.cell HC1.out (fun x => x))
            have C0 := Lib.hid (f6.cell HC0.out (fun x => x)); have C1 := Lib.hid (f6.cell HC1.out (fun x => x))
            have F6 := Lib.hid (FR.out.trans' f6); clear f6 hc0 hc1
            go_wp2_with fail
            refine region_fr 10 (by kernel_rfl) (by kernel_rfl) ?_
            simp only [List.take_succ_cons, List.take_zero, List.drop_succ_cons, List.drop_zero]
            repeat (quiet_step (fail))
            refine wpQuiet_nil ?_
            intro w7 f7
            have d0 := f7.cell C0.out (fun x => x)
            have d1 := f7.cell C1.out (fun x => x)
            have F7 := Lib.hid (F6.out.trans' f7); clear f7 k0 k1
            by_cases hpq : p = q
            · have q1 : ¬ (p : Int) < (q : Int) := by omega
              rw [if_pos hpq] at HNX
              clear hpq
              go_wp2
              go_roundw
              case rel => exact ⟨k + 1, by go_num, by omega, by rw [HNX.out], F7.out⟩
              case measure => simp [intOf]; omega
            · have q1 : (p : Int) < (q : Int) := by omega
              rw [if_neg hpq] at HNX
              clear hpq
              go_wp2_with fail
              refine (HEQ.out _).mono ?_
              rintro e w8 ⟨rfl, f8⟩
              have F8 := Lib.hid (F7.out.trans' f8); clear f8
              go_wp2
              go_roundw
              case rel => exact ⟨k + 1, by go_num, by omega, by rw [HNX.out], F8.out⟩
              case measure => simp [intOf]; omega
          · obtain rfl : k = L.length := by omega
            have hsz := spsT_le L
            have hT := List.take_of_length_le (l := L) (Nat.le_refl _)
            rw [hT]
            have ar4 : ∀ w', (Op.stringOp .add ⟨([91] ++ spsT L).toArray⟩ ⟨#[93]⟩).run Tryz.prog w' = .ok (.string ⟨(setT s).toArray⟩) w' := fun w' => by rw [HSET.out]; exact run_string_add_lists w' _ [93] (by simp; omega) (by decide)
            obtain ⟨X, hX⟩ : ∃ X, [91] ++ spsT L = X := ⟨_, rfl⟩
            rw [hX] at ar4 ⊢
            clear hX hT
            go_wp2
            go_ret
            exact ⟨rfl, F01.out.trans' (F5.out.trans' FR.out)⟩
      | false =>
        have HQ := Lib.hid (show setT s = brkT true s.not by rw [HST.out true ho, h10, hen]; rfl)
        rw [h10] at HH10
        clear HST h10
        refine (HH10.out w3).mono ?_
        rintro e w4 ⟨rfl, f4⟩
        have F4 := Lib.hid (F3.out.trans' f4); have f34 := f4; have F34 := Lib.hid f34; clear f4 f34
        have r4 := rule4 (F4.out.heap HB1.out (fun x => x))
        go_wp2_with fail
        rw [hen] at HEN
        clear hen
        refine (HEN.out w4).mono ?_
        rintro e wA ⟨rfl, fA⟩
        have FA := Lib.hid (F4.out.trans' fA); have F3A := Lib.hid (F34.out.trans' fA); clear fA
        have rA := rule4 (FA.out.heap HB1.out (fun x => x))
        go_wp2_with fail
        refine (notR_lit6 s wA).mono ?_
        obtain ⟨s2, hN⟩ : ∃ x, s.not = x := ⟨_, rfl⟩
        have HS2 := Lib.hid (show s2.fit from hN ▸ fit_not _)
        rw [hN] at HQ
        rw [hN]
        rintro e wB ⟨rfl, fB⟩
        have FB := Lib.hid (FA.out.trans' fB); clear fB hN
        go_wp2_with fail
        refine (spansR_lit6 s2 wB HS2.out).mono ?_
        rintro e w5 ⟨v, rfl, oL, f5, n5⟩
        obtain ⟨av, cv, rfl⟩ := ownsRow_slice (show w5.ownsRow 0 62 2 v (spl s2.has 256).length (spC (spl s2.has 256)) from oL)
        have OL := Lib.hid oL
        have F5 := Lib.hid (FB.out.trans' f5); clear f5 n5 oL
        have hLl := spl_len s2.has 256
        have hLi := (spl_good s2.has 256).in_
        obtain ⟨L, hL⟩ : ∃ L, spl s2.has 256 = L := ⟨_, rfl⟩
        rw [hL] at OL hLl hLi ⊢
        have hset : setT s = [91, 94] ++ spsT L ++ [93] := by rw [HQ.out, ← hL]; rfl
        have HSET := Lib.hid hset; have HLI := Lib.hid hLi
        clear hset hLi hL
        go_wp2_with fail
        go_loopw [7, 54] (fun v7 i wr => ∃ k : Nat, i = .int .i64 k ∧ k ≤ L.length ∧ v7 = .string ⟨([91, 94] ++ spsT (L.take k)).toArray⟩ ∧ Fr nob w5 wr) (fun _ i _ => L.length - (intOf i).toNat)
        case atStart => exact ⟨0, rfl, Nat.zero_le _, rfl, Fr.refl _ _⟩
        case round =>
          obtain ⟨k, rfl, hk, rfl, fr⟩ := hrel
          have FR := Lib.hid fr; clear fr
          by_cases hlt : k < L.length
          · have OK := OL.out.on FR.out (fun _ _ x => x)
            obtain ⟨g, cap, hv, hc0, hc1⟩ := OK.get hlt
            injection hv with e1 e2 e3
            subst e1; subst e3
            have htk := spsT_take hlt
            have hbd := HLI.out L[k] (List.getElem_mem hlt)
            have hsz := spsT_le (L.take k)
            obtain ⟨⟨p, q⟩, hpq⟩ : ∃ x, L[k] = x := ⟨_, rfl⟩
            rw [hpq] at hc0 hc1 htk hbd
            simp only at hc0 hc1 hbd
            rw [List.length_take] at hsz
            have hip := insT_le p; have hiq := insT_le q
            have hep := fun w' => ref_end p w' (by omega)
            have heq := fun w' => ref_end q w' (by omega)
            have hspn : spnT (p, q) = insT p ++ (if p = q then [] else 45 :: insT q) := rfl
            obtain ⟨IP, hIP⟩ : ∃ x, insT p = x := ⟨_, rfl⟩
            obtain ⟨IQ, hIQ⟩ : ∃ x, insT q = x := ⟨_, rfl⟩
            rw [hIP] at hip hep
            rw [hIQ] at hiq heq
            rw [hIP, hIQ] at hspn
            obtain ⟨X, hX⟩ : ∃ X, [91, 94] ++ spsT (L.take k) = X := ⟨_, rfl⟩
            have hXl : X.length ≤ 3000 := by rw [← hX]; simp; omega
            obtain ⟨Y, hY⟩ : ∃ Y, X ++ IP = Y := ⟨_, rfl⟩
            have hYl : Y.length ≤ 3005 := by rw [← hY]; simp; omega
            obtain ⟨Z, hZ⟩ : ∃ Z, Y ++ [45] = Z := ⟨_, rfl⟩
            have hZl : Z.length ≤ 3006 := by rw [← hZ]; simp; omega
            obtain ⟨U, hU⟩ : ∃ U, Z ++ IQ = U := ⟨_, rfl⟩
            have hnext : [91, 94] ++ spsT (L.take (k + 1)) = (if p = q then Y else U) := by
              rw [htk, ← List.append_assoc, hX, hspn, ← hU, ← hZ, ← hY]
              split <;> simp [List.append_assoc]
            have ar1 : ∀ w', (Op.stringOp .add ⟨X.toArray⟩ ⟨IP.toArray⟩).run Tryz.prog w' = .ok (.string ⟨Y.toArray⟩) w' := fun w' => by rw [← hY]; exact run_string_add_lists w' X IP (by omega) (by omega)
            have ar2 : ∀ w', (Op.stringOp .add ⟨Y.toArray⟩ ⟨#[45]⟩).run Tryz.prog w' = .ok (.string ⟨Z.toArray⟩) w' := fun w' => by rw [← hZ]; exact run_string_add_lists w' Y [45] (by omega) (by decide)
            have ar3 : ∀ w', (Op.stringOp .add ⟨Z.toArray⟩ ⟨IQ.toArray⟩).run Tryz.prog w' = .ok (.string ⟨U.toArray⟩) w' := fun w' => by rw [← hU]; exact run_string_add_lists w' Z IQ (by omega) (by omega)
            have HEP := Lib.hid hep; have HEQ := Lib.hid heq; have HNX := Lib.hid hnext
            have HC0 := Lib.hid hc0; have HC1 := Lib.hid hc1
            rw [hX]
            clear e2 hpq htk hX hY hZ hU hIP hIQ hspn OK hep heq hnext
            go_wp2_with fail
            refine (HEP.out _).mono ?_
            rintro e w6 ⟨rfl, f6⟩
            have k0 := cell_keptv (f6.cell HC0.out (fun x => x))
            have k1 := cell_keptv (f6.cell HC1.out (fun x => x))
            have C0 := Lib.hid (f6.cell HC0.out (fun x => x)); have C1 := Lib.hid (f6.cell HC1.out (fun x => x))
            have F6 := Lib.hid (FR.out.trans' f6); clear f6 hc0 hc1
            go_wp2_with fail
            refine region_fr 10 (by kernel_rfl) (by kernel_rfl) ?_
            simp only [List.take_succ_cons, List.take_zero, List.drop_succ_cons, List.drop_zero]
            repeat (quiet_step (fail))
            refine wpQuiet_nil ?_
            intro w7 f7
            have d0 := f7.cell C0.out (fun x => x)
            have d1 := f7.cell C1.out (fun x => x)
            have F7 := Lib.hid (F6.out.trans' f7); clear f7 k0 k1
            by_cases hpq : p = q
            · have q1 : ¬ (p : Int) < (q : Int) := by omega
              rw [if_pos hpq] at HNX
              clear hpq
              go_wp2
              go_roundw
              case rel => exact ⟨k + 1, by go_num, by omega, by rw [HNX.out], F7.out⟩
              case measure => simp [intOf]; omega
            · have q1 : (p : Int) < (q : Int) := by omega
              rw [if_neg hpq] at HNX
              clear hpq
              go_wp2_with fail
              refine (HEQ.out _).mono ?_
              rintro e w8 ⟨rfl, f8⟩
              have F8 := Lib.hid (F7.out.trans' f8); clear f8
              go_wp2
              go_roundw
              case rel => exact ⟨k + 1, by go_num, by omega, by rw [HNX.out], F8.out⟩
              case measure => simp [intOf]; omega
          · obtain rfl : k = L.length := by omega
            have hsz := spsT_le L
            have hT := List.take_of_length_le (l := L) (Nat.le_refl _)
            rw [hT]
            have ar4 : ∀ w', (Op.stringOp .add ⟨([91, 94] ++ spsT L).toArray⟩ ⟨#[93]⟩).run Tryz.prog w' = .ok (.string ⟨(setT s).toArray⟩) w' := fun w' => by rw [HSET.out]; exact run_string_add_lists w' _ [93] (by simp; omega) (by decide)
            obtain ⟨X, hX⟩ : ∃ X, [91, 94] ++ spsT L = X := ⟨_, rfl⟩
            rw [hX] at ar4 ⊢
            clear hX hT
            go_wp2
            go_ret
            exact ⟨rfl, F01.out.trans' (F5.out.trans' FR.out)⟩
  · have hgI : ¬ (128 : Int) < (n : Int) := by omega
    have hgD : decide ((128 : Int) < (n : Int)) = false := by simp; omega
    have hg0 : ((n : Int) == 0) = true := by subst h0; rfl
    have ho : decide (128 < n ∨ n = 0) = true := by simp [h0]
    clear hg h0
    go_wp2_with fail
    cases h10 : s.has 10 with
    | true =>
      have HQ := Lib.hid (show setT s = brkT true s.not by rw [HST.out true ho, h10]; rfl)
      rw [h10] at HH10
      clear HST h10
      refine (HH10.out w3).mono ?_
      rintro e w4 ⟨rfl, f4⟩
      have F4 := Lib.hid (F3.out.trans' f4); have f34 := f4; have F34 := Lib.hid f34; clear f4 f34
      have r4 := rule4 (F4.out.heap HB1.out (fun x => x))
      go_wp2_with fail
      have FA := F4; have F3A := F34
      have rA := r4
      obtain ⟨wA, hwA⟩ : ∃ wA, w4 = wA := ⟨_, rfl⟩
      rw [hwA] at FA F3A rA ⊢
      clear hwA
      refine (notR_lit6 s wA).mono ?_
      obtain ⟨s2, hN⟩ : ∃ x, s.not = x := ⟨_, rfl⟩
      have HS2 := Lib.hid (show s2.fit from hN ▸ fit_not _)
      rw [hN] at HQ
      rw [hN]
      rintro e wB ⟨rfl, fB⟩
      have FB := Lib.hid (FA.out.trans' fB); clear fB hN
      go_wp2_with fail
      refine (spansR_lit6 s2 wB HS2.out).mono ?_
      rintro e w5 ⟨v, rfl, oL, f5, n5⟩
      obtain ⟨av, cv, rfl⟩ := ownsRow_slice (show w5.ownsRow 0 62 2 v (spl s2.has 256).length (spC (spl s2.has 256)) from oL)
      have OL := Lib.hid oL
      have F5 := Lib.hid (FB.out.trans' f5); clear f5 n5 oL
      have hLl := spl_len s2.has 256
      have hLi := (spl_good s2.has 256).in_
      obtain ⟨L, hL⟩ : ∃ L, spl s2.has 256 = L := ⟨_, rfl⟩
      rw [hL] at OL hLl hLi ⊢
      have hset : setT s = [91, 94] ++ spsT L ++ [93] := by rw [HQ.out, ← hL]; rfl
      have HSET := Lib.hid hset; have HLI := Lib.hid hLi
      clear hset hLi hL
      go_wp2_with fail
      go_loopw [7, 54] (fun v7 i wr => ∃ k : Nat, i = .int .i64 k ∧ k ≤ L.length ∧ v7 = .string ⟨([91, 94] ++ spsT (L.take k)).toArray⟩ ∧ Fr nob w5 wr) (fun _ i _ => L.length - (intOf i).toNat)
      case atStart => exact ⟨0, rfl, Nat.zero_le _, rfl, Fr.refl _ _⟩
      case round =>
        obtain ⟨k, rfl, hk, rfl, fr⟩ := hrel
        have FR := Lib.hid fr; clear fr
        by_cases hlt : k < L.length
        · have OK := OL.out.on FR.out (fun _ _ x => x)
          obtain ⟨g, cap, hv, hc0, hc1⟩ := OK.get hlt
          injection hv with e1 e2 e3
          subst e1; subst e3
          have htk := spsT_take hlt
          have hbd := HLI.out L[k] (List.getElem_mem hlt)
          have hsz := spsT_le (L.take k)
          obtain ⟨⟨p, q⟩, hpq⟩ : ∃ x, L[k] = x := ⟨_, rfl⟩
          rw [hpq] at hc0 hc1 htk hbd
          simp only at hc0 hc1 hbd
          rw [List.length_take] at hsz
          have hip := insT_le p; have hiq := insT_le q
          have hep := fun w' => ref_end p w' (by omega)
          have heq := fun w' => ref_end q w' (by omega)
          have hspn : spnT (p, q) = insT p ++ (if p = q then [] else 45 :: insT q) := rfl
          obtain ⟨IP, hIP⟩ : ∃ x, insT p = x := ⟨_, rfl⟩
          obtain ⟨IQ, hIQ⟩ : ∃ x, insT q = x := ⟨_, rfl⟩
          rw [hIP] at hip hep
          rw [hIQ] at hiq heq
          rw [hIP, hIQ] at hspn
          obtain ⟨X, hX⟩ : ∃ X, [91, 94] ++ spsT (L.take k) = X := ⟨_, rfl⟩
          have hXl : X.length ≤ 3000 := by rw [← hX]; simp; omega
          obtain ⟨Y, hY⟩ : ∃ Y, X ++ IP = Y := ⟨_, rfl⟩
          have hYl : Y.length ≤ 3005 := by rw [← hY]; simp; omega
          obtain ⟨Z, hZ⟩ : ∃ Z, Y ++ [45] = Z := ⟨_, rfl⟩
          have hZl : Z.length ≤ 3006 := by rw [← hZ]; simp; omega
          obtain ⟨U, hU⟩ : ∃ U, Z ++ IQ = U := ⟨_, rfl⟩
          have hnext : [91, 94] ++ spsT (L.take (k + 1)) = (if p = q then Y else U) := by
            rw [htk, ← List.append_assoc, hX, hspn, ← hU, ← hZ, ← hY]
            split <;> simp [List.append_assoc]
          have ar1 : ∀ w', (Op.stringOp .add ⟨X.toArray⟩ ⟨IP.toArray⟩).run Tryz.prog w' = .ok (.string ⟨Y.toArray⟩) w' := fun w' => by rw [← hY]; exact run_string_add_lists w' X IP (by omega) (by omega)
          have ar2 : ∀ w', (Op.stringOp .add ⟨Y.toArray⟩ ⟨#[45]⟩).run Tryz.prog w' = .ok (.string ⟨Z.toArray⟩) w' := fun w' => by rw [← hZ]; exact run_string_add_lists w' Y [45] (by omega) (by decide)
          have ar3 : ∀ w', (Op.stringOp .add ⟨Z.toArray⟩ ⟨IQ.toArray⟩).run Tryz.prog w' = .ok (.string ⟨U.toArray⟩) w' := fun w' => by rw [← hU]; exact run_string_add_lists w' Z IQ (by omega) (by omega)
          have HEP := Lib.hid hep; have HEQ := Lib.hid heq; have HNX := Lib.hid hnext
          have HC0 := Lib.hid hc0; have HC1 := Lib.hid hc1
          rw [hX]
          clear e2 hpq htk hX hY hZ hU hIP hIQ hspn OK hep heq hnext
          go_wp2_with fail
          refine (HEP.out _).mono ?_
          rintro e w6 ⟨rfl, f6⟩
          have k0 := cell_keptv (f6.cell HC0.out (fun x => x))
          have k1 := cell_keptv (f6.cell HC1.out (fun x => x))
          have C0 := Lib.hid (f6.cell HC0.out (fun x => x)); have C1 := Lib.hid (f6.cell HC1.out (fun x => x))
          have F6 := Lib.hid (FR.out.trans' f6); clear f6 hc0 hc1
          go_wp2_with fail
          refine region_fr 10 (by kernel_rfl) (by kernel_rfl) ?_
          simp only [List.take_succ_cons, List.take_zero, List.drop_succ_cons, List.drop_zero]
          repeat (quiet_step (fail))
          refine wpQuiet_nil ?_
          intro w7 f7
          have d0 := f7.cell C0.out (fun x => x)
          have d1 := f7.cell C1.out (fun x => x)
          have F7 := Lib.hid (F6.out.trans' f7); clear f7 k0 k1
          by_cases hpq : p = q
          · have q1 : ¬ (p : Int) < (q : Int) := by omega
            rw [if_pos hpq] at HNX
            clear hpq
            go_wp2
            go_roundw
            case rel => exact ⟨k + 1, by go_num, by omega, by rw [HNX.out], F7.out⟩
            case measure => simp [intOf]; omega
          · have q1 : (p : Int) < (q : Int) := by omega
            rw [if_neg hpq] at HNX
            clear hpq
            go_wp2_with fail
            refine (HEQ.out _).mono ?_
            rintro e w8 ⟨rfl, f8⟩
            have F8 := Lib.hid (F7.out.trans' f8); clear f8
            go_wp2
            go_roundw
            case rel => exact ⟨k + 1, by go_num, by omega, by rw [HNX.out], F8.out⟩
            case measure => simp [intOf]; omega
        · obtain rfl : k = L.length := by omega
          have hsz := spsT_le L
          have hT := List.take_of_length_le (l := L) (Nat.le_refl _)
          rw [hT]
          have ar4 : ∀ w', (Op.stringOp .add ⟨([91, 94] ++ spsT L).toArray⟩ ⟨#[93]⟩).run Tryz.prog w' = .ok (.string ⟨(setT s).toArray⟩) w' := fun w' => by rw [HSET.out]; exact run_string_add_lists w' _ [93] (by simp; omega) (by decide)
          obtain ⟨X, hX⟩ : ∃ X, [91, 94] ++ spsT L = X := ⟨_, rfl⟩
          rw [hX] at ar4 ⊢
          clear hX hT
          go_wp2
          go_ret
          exact ⟨rfl, F01.out.trans' (F5.out.trans' FR.out)⟩
    | false =>
      cases hen : endsB s with
      | true =>
        have HQ := Lib.hid (show setT s = brkT false s by rw [HST.out true ho, h10, hen]; rfl)
        rw [h10] at HH10
        clear HST h10
        refine (HH10.out w3).mono ?_
        rintro e w4 ⟨rfl, f4⟩
        have F4 := Lib.hid (F3.out.trans' f4); have f34 := f4; have F34 := Lib.hid f34; clear f4 f34
        have r4 := rule4 (F4.out.heap HB1.out (fun x => x))
        go_wp2_with fail
        rw [hen] at HEN
        clear hen
        refine (HEN.out w4).mono ?_
        rintro e wA ⟨rfl, fA⟩
        have FA := Lib.hid (F4.out.trans' fA); have F3A := Lib.hid (F34.out.trans' fA); clear fA
        have rA := rule4 (FA.out.heap HB1.out (fun x => x))
        go_wp2_with fail
        have OL := Lib.hid (O0.out.on F3A.out (fun _ _ x => x))
        have F5 := FA
        obtain ⟨w5, hw5⟩ : ∃ w5, wA = w5 := ⟨_, rfl⟩
        rw [hw5] at OL F5 rA ⊢
        clear hw5
        obtain ⟨av, hav⟩ : ∃ av, a0 = av := ⟨_, rfl⟩
        obtain ⟨cv, hcv⟩ : ∃ cv, l0 = cv := ⟨_, rfl⟩
        rw [hav, hcv] at OL ⊢
        clear hav hcv
        have hLl := spl_len s.has 256
        have hLi := (spl_good s.has 256).in_
        obtain ⟨L, hL⟩ : ∃ L, spl s.has 256 = L := ⟨_, rfl⟩
        rw [hL] at OL hLl hLi ⊢
        have hset : setT s = [91] ++ spsT L ++ [93] := by rw [HQ.out, ← hL]; rfl
        have HSET := Lib.hid hset; have HLI := Lib.hid hLi
        clear hset hLi hL
        go_wp2_with fail
        go_loopw [7, 54] (fun v7 i wr => ∃ k : Nat, i = .int .i64 k ∧ k ≤ L.length ∧ v7 = .string ⟨([91] ++ spsT (L.take k)).toArray⟩ ∧ Fr nob w5 wr) (fun _ i _ => L.length - (intOf i).toNat)
        case atStart => exact ⟨0, rfl, Nat.zero_le _, rfl, Fr.refl _ _⟩
        case round =>
          obtain ⟨k, rfl, hk, rfl, fr⟩ := hrel
          have FR := Lib.hid fr; clear fr
          by_cases hlt : k < L.length
          · have OK := OL.out.on FR.out (fun _ _ x => x)
            obtain ⟨g, cap, hv, hc0, hc1⟩ := OK.get hlt
            injection hv with e1 e2 e3
            subst e1; subst e3
            have htk := spsT_take hlt
            have hbd := HLI.out L[k] (List.getElem_mem hlt)
            have hsz := spsT_le (L.take k)
            obtain ⟨⟨p, q⟩, hpq⟩ : ∃ x, L[k] = x := ⟨_, rfl⟩
            rw [hpq] at hc0 hc1 htk hbd
            simp only at hc0 hc1 hbd
            rw [List.length_take] at hsz
            have hip := insT_le p; have hiq := insT_le q
            have hep := fun w' => ref_end p w' (by omega)
            have heq := fun w' => ref_end q w' (by omega)
            have hspn : spnT (p, q) = insT p ++ (if p = q then [] else 45 :: insT q) := rfl
            obtain ⟨IP, hIP⟩ : ∃ x, insT p = x := ⟨_, rfl⟩
            obtain ⟨IQ, hIQ⟩ : ∃ x, insT q = x := ⟨_, rfl⟩
            rw [hIP] at hip hep
            rw [hIQ] at hiq heq
            rw [hIP, hIQ] at hspn
            obtain ⟨X, hX⟩ : ∃ X, [91] ++ spsT (L.take k) = X := ⟨_, rfl⟩
            have hXl : X.length ≤ 3000 := by rw [← hX]; simp; omega
            obtain ⟨Y, hY⟩ : ∃ Y, X ++ IP = Y := ⟨_, rfl⟩
            have hYl : Y.length ≤ 3005 := by rw [← hY]; simp; omega
            obtain ⟨Z, hZ⟩ : ∃ Z, Y ++ [45] = Z := ⟨_, rfl⟩
            have hZl : Z.length ≤ 3006 := by rw [← hZ]; simp; omega
            obtain ⟨U, hU⟩ : ∃ U, Z ++ IQ = U := ⟨_, rfl⟩
            have hnext : [91] ++ spsT (L.take (k + 1)) = (if p = q then Y else U) := by
              rw [htk, ← List.append_assoc, hX, hspn, ← hU, ← hZ, ← hY]
              split <;> simp [List.append_assoc]
            have ar1 : ∀ w', (Op.stringOp .add ⟨X.toArray⟩ ⟨IP.toArray⟩).run Tryz.prog w' = .ok (.string ⟨Y.toArray⟩) w' := fun w' => by rw [← hY]; exact run_string_add_lists w' X IP (by omega) (by omega)
            have ar2 : ∀ w', (Op.stringOp .add ⟨Y.toArray⟩ ⟨#[45]⟩).run Tryz.prog w' = .ok (.string ⟨Z.toArray⟩) w' := fun w' => by rw [← hZ]; exact run_string_add_lists w' Y [45] (by omega) (by decide)
            have ar3 : ∀ w', (Op.stringOp .add ⟨Z.toArray⟩ ⟨IQ.toArray⟩).run Tryz.prog w' = .ok (.string ⟨U.toArray⟩) w' := fun w' => by rw [← hU]; exact run_string_add_lists w' Z IQ (by omega) (by omega)
            have HEP := Lib.hid hep; have HEQ := Lib.hid heq; have HNX := Lib.hid hnext
            have HC0 := Lib.hid hc0; have HC1 := Lib.hid hc1
            rw [hX]
            clear e2 hpq htk hX hY hZ hU hIP hIQ hspn OK hep heq hnext
            go_wp2_with fail
            refine (HEP.out _).mono ?_
            rintro e w6 ⟨rfl, f6⟩
            have k0 := cell_keptv (f6.cell HC0.out (fun x => x))
            have k1 := cell_keptv (f6.cell HC1.out (fun x => x))
            have C0 := Lib.hid (f6.cell HC0.out (fun x => x)); have C1 := Lib.hid (f6.cell HC1.out (fun x => x))
            have F6 := Lib.hid (FR.out.trans' f6); clear f6 hc0 hc1
            go_wp2_with fail
            refine region_fr 10 (by kernel_rfl) (by kernel_rfl) ?_
            simp only [List.take_succ_cons, List.take_zero, List.drop_succ_cons, List.drop_zero]
            repeat (quiet_step (fail))
            refine wpQuiet_nil ?_
            intro w7 f7
            have d0 := f7.cell C0.out (fun x => x)
            have d1 := f7.cell C1.out (fun x => x)
            have F7 := Lib.hid (F6.out.trans' f7); clear f7 k0 k1
            by_cases hpq : p = q
            · have q1 : ¬ (p : Int) < (q : Int) := by omega
              rw [if_pos hpq] at HNX
              clear hpq
              go_wp2
              go_roundw
              case rel => exact ⟨k + 1, by go_num, by omega, by rw [HNX.out], F7.out⟩
              case measure => simp [intOf]; omega
            · have q1 : (p : Int) < (q : Int) := by omega
              rw [if_neg hpq] at HNX
              clear hpq
              go_wp2_with fail
              refine (HEQ.out _).mono ?_
              rintro e w8 ⟨rfl, f8⟩
              have F8 := Lib.hid (F7.out.trans' f8); clear f8
              go_wp2
              go_roundw
              case rel => exact ⟨k + 1, by go_num, by omega, by rw [HNX.out], F8.out⟩
              case measure => simp [intOf]; omega
          · obtain rfl : k = L.length := by omega
            have hsz := spsT_le L
            have hT := List.take_of_length_le (l := L) (Nat.le_refl _)
            rw [hT]
            have ar4 : ∀ w', (Op.stringOp .add ⟨([91] ++ spsT L).toArray⟩ ⟨#[93]⟩).run Tryz.prog w' = .ok (.string ⟨(setT s).toArray⟩) w' := fun w' => by rw [HSET.out]; exact run_string_add_lists w' _ [93] (by simp; omega) (by decide)
            obtain ⟨X, hX⟩ : ∃ X, [91] ++ spsT L = X := ⟨_, rfl⟩
            rw [hX] at ar4 ⊢
            clear hX hT
            go_wp2
            go_ret
            exact ⟨rfl, F01.out.trans' (F5.out.trans' FR.out)⟩
      | false =>
        have HQ := Lib.hid (show setT s = brkT true s.not by rw [HST.out true ho, h10, hen]; rfl)
        rw [h10] at HH10
        clear HST h10
        refine (HH10.out w3).mono ?_
        rintro e w4 ⟨rfl, f4⟩
        have F4 := Lib.hid (F3.out.trans' f4); have f34 := f4; have F34 := Lib.hid f34; clear f4 f34
        have r4 := rule4 (F4.out.heap HB1.out (fun x => x))
        go_wp2_with fail
        rw [hen] at HEN
        clear hen
        refine (HEN.out w4).mono ?_
        rintro e wA ⟨rfl, fA⟩
        have FA := Lib.hid (F4.out.trans' fA); have F3A := Lib.hid (F34.out.trans' fA); clear fA
        have rA := rule4 (FA.out.heap HB1.out (fun x => x))
        go_wp2_with fail
        refine (notR_lit6 s wA).mono ?_
        obtain ⟨s2, hN⟩ : ∃ x, s.not = x := ⟨_, rfl⟩
        have HS2 := Lib.hid (show s2.fit from hN ▸ fit_not _)
        rw [hN] at HQ
        rw [hN]
        rintro e wB ⟨rfl, fB⟩
        have FB := Lib.hid (FA.out.trans' fB); clear fB hN
        go_wp2_with fail
        refine (spansR_lit6 s2 wB HS2.out).mono ?_
        rintro e w5 ⟨v, rfl, oL, f5, n5⟩
        obtain ⟨av, cv, rfl⟩ := ownsRow_slice (show w5.ownsRow 0 62 2 v (spl s2.has 256).length (spC (spl s2.has 256)) from oL)
        have OL := Lib.hid oL
        have F5 := Lib.hid (FB.out.trans' f5); clear f5 n5 oL
        have hLl := spl_len s2.has 256
        have hLi := (spl_good s2.has 256).in_
        obtain ⟨L, hL⟩ : ∃ L, spl s2.has 256 = L := ⟨_, rfl⟩
        rw [hL] at OL hLl hLi ⊢
        have hset : setT s = [91, 94] ++ spsT L ++ [93] := by rw [HQ.out, ← hL]; rfl
        have HSET := Lib.hid hset; have HLI := Lib.hid hLi
        clear hset hLi hL
        go_wp2_with fail
        go_loopw [7, 54] (fun v7 i wr => ∃ k : Nat, i = .int .i64 k ∧ k ≤ L.length ∧ v7 = .string ⟨([91, 94] ++ spsT (L.take k)).toArray⟩ ∧ Fr nob w5 wr) (fun _ i _ => L.length - (intOf i).toNat)
        case atStart => exact ⟨0, rfl, Nat.zero_le _, rfl, Fr.refl _ _⟩
        case round =>
          obtain ⟨k, rfl, hk, rfl, fr⟩ := hrel
          have FR := Lib.hid fr; clear fr
          by_cases hlt : k < L.length
          · have OK := OL.out.on FR.out (fun _ _ x => x)
            obtain ⟨g, cap, hv, hc0, hc1⟩ := OK.get hlt
            injection hv with e1 e2 e3
            subst e1; subst e3
            have htk := spsT_take hlt
            have hbd := HLI.out L[k] (List.getElem_mem hlt)
            have hsz := spsT_le (L.take k)
            obtain ⟨⟨p, q⟩, hpq⟩ : ∃ x, L[k] = x := ⟨_, rfl⟩
            rw [hpq] at hc0 hc1 htk hbd
            simp only at hc0 hc1 hbd
            rw [List.length_take] at hsz
            have hip := insT_le p; have hiq := insT_le q
            have hep := fun w' => ref_end p w' (by omega)
            have heq := fun w' => ref_end q w' (by omega)
            have hspn : spnT (p, q) = insT p ++ (if p = q then [] else 45 :: insT q) := rfl
            obtain ⟨IP, hIP⟩ : ∃ x, insT p = x := ⟨_, rfl⟩
            obtain ⟨IQ, hIQ⟩ : ∃ x, insT q = x := ⟨_, rfl⟩
            rw [hIP] at hip hep
            rw [hIQ] at hiq heq
            rw [hIP, hIQ] at hspn
            obtain ⟨X, hX⟩ : ∃ X, [91, 94] ++ spsT (L.take k) = X := ⟨_, rfl⟩
            have hXl : X.length ≤ 3000 := by rw [← hX]; simp; omega
            obtain ⟨Y, hY⟩ : ∃ Y, X ++ IP = Y := ⟨_, rfl⟩
            have hYl : Y.length ≤ 3005 := by rw [← hY]; simp; omega
            obtain ⟨Z, hZ⟩ : ∃ Z, Y ++ [45] = Z := ⟨_, rfl⟩
            have hZl : Z.length ≤ 3006 := by rw [← hZ]; simp; omega
            obtain ⟨U, hU⟩ : ∃ U, Z ++ IQ = U := ⟨_, rfl⟩
            have hnext : [91, 94] ++ spsT (L.take (k + 1)) = (if p = q then Y else U) := by
              rw [htk, ← List.append_assoc, hX, hspn, ← hU, ← hZ, ← hY]
              split <;> simp [List.append_assoc]
            have ar1 : ∀ w', (Op.stringOp .add ⟨X.toArray⟩ ⟨IP.toArray⟩).run Tryz.prog w' = .ok (.string ⟨Y.toArray⟩) w' := fun w' => by rw [← hY]; exact run_string_add_lists w' X IP (by omega) (by omega)
            have ar2 : ∀ w', (Op.stringOp .add ⟨Y.toArray⟩ ⟨#[45]⟩).run Tryz.prog w' = .ok (.string ⟨Z.toArray⟩) w' := fun w' => by rw [← hZ]; exact run_string_add_lists w' Y [45] (by omega) (by decide)
            have ar3 : ∀ w', (Op.stringOp .add ⟨Z.toArray⟩ ⟨IQ.toArray⟩).run Tryz.prog w' = .ok (.string ⟨U.toArray⟩) w' := fun w' => by rw [← hU]; exact run_string_add_lists w' Z IQ (by omega) (by omega)
            have HEP := Lib.hid hep; have HEQ := Lib.hid heq; have HNX := Lib.hid hnext
            have HC0 := Lib.hid hc0; have HC1 := Lib.hid hc1
            rw [hX]
            clear e2 hpq htk hX hY hZ hU hIP hIQ hspn OK hep heq hnext
            go_wp2_with fail
            refine (HEP.out _).mono ?_
            rintro e w6 ⟨rfl, f6⟩
            have k0 := cell_keptv (f6.cell HC0.out (fun x => x))
            have k1 := cell_keptv (f6.cell HC1.out (fun x => x))
            have C0 := Lib.hid (f6.cell HC0.out (fun x => x)); have C1 := Lib.hid (f6.cell HC1.out (fun x => x))
            have F6 := Lib.hid (FR.out.trans' f6); clear f6 hc0 hc1
            go_wp2_with fail
            refine region_fr 10 (by kernel_rfl) (by kernel_rfl) ?_
            simp only [List.take_succ_cons, List.take_zero, List.drop_succ_cons, List.drop_zero]
            repeat (quiet_step (fail))
            refine wpQuiet_nil ?_
            intro w7 f7
            have d0 := f7.cell C0.out (fun x => x)
            have d1 := f7.cell C1.out (fun x => x)
            have F7 := Lib.hid (F6.out.trans' f7); clear f7 k0 k1
            by_cases hpq : p = q
            · have q1 : ¬ (p : Int) < (q : Int) := by omega
              rw [if_pos hpq] at HNX
              clear hpq
              go_wp2
              go_roundw
              case rel => exact ⟨k + 1, by go_num, by omega, by rw [HNX.out], F7.out⟩
              case measure => simp [intOf]; omega
            · have q1 : (p : Int) < (q : Int) := by omega
              rw [if_neg hpq] at HNX
              clear hpq
              go_wp2_with fail
              refine (HEQ.out _).mono ?_
              rintro e w8 ⟨rfl, f8⟩
              have F8 := Lib.hid (F7.out.trans' f8); clear f8
              go_wp2
              go_roundw
              case rel => exact ⟨k + 1, by go_num, by omega, by rw [HNX.out], F8.out⟩
              case measure => simp [intOf]; omega
          · obtain rfl : k = L.length := by omega
            have hsz := spsT_le L
            have hT := List.take_of_length_le (l := L) (Nat.le_refl _)
            rw [hT]
            have ar4 : ∀ w', (Op.stringOp .add ⟨([91, 94] ++ spsT L).toArray⟩ ⟨#[93]⟩).run Tryz.prog w' = .ok (.string ⟨(setT s).toArray⟩) w' := fun w' => by rw [HSET.out]; exact run_string_add_lists w' _ [93] (by simp; omega) (by decide)
            obtain ⟨X, hX⟩ : ∃ X, [91, 94] ++ spsT L = X := ⟨_, rfl⟩
            rw [hX] at ar4 ⊢
            clear hX hT
            go_wp2
            go_ret
            exact ⟨rfl, F01.out.trans' (F5.out.trans' FR.out)⟩
  · have hgI : ¬ (128 : Int) < (n : Int) := by omega
    have hgD : decide ((128 : Int) < (n : Int)) = false := by simp; omega
    have hg0 : ((n : Int) == 0) = false := by simp; omega
    have ho : decide (128 < n ∨ n = 0) = false := by simp; omega
    clear hg h0
    go_wp2_with fail
    cases h10 : s.has 10 with
    | true =>
      cases hen : endsB s with
      | true =>
        have HQ := Lib.hid (show setT s = brkT true s.not by rw [HST.out false ho, h10, hen]; rfl)
        rw [h10] at HH10
        clear HST h10
        refine (HH10.out w3).mono ?_
        rintro e w4 ⟨rfl, f4⟩
        have F4 := Lib.hid (F3.out.trans' f4); have f34 := f4; have F34 := Lib.hid f34; clear f4 f34
        have r4 := rule4 (F4.out.heap HB1.out (fun x => x))
        go_wp2_with fail
        rw [hen] at HEN
        clear hen
        refine (HEN.out w4).mono ?_
        rintro e wA ⟨rfl, fA⟩
        have FA := Lib.hid (F4.out.trans' fA); have F3A := Lib.hid (F34.out.trans' fA); clear fA
        have rA := rule4 (FA.out.heap HB1.out (fun x => x))
        go_wp2_with fail
        refine (notR_lit6 s wA).mono ?_
        obtain ⟨s2, hN⟩ : ∃ x, s.not = x := ⟨_, rfl⟩
        have HS2 := Lib.hid (show s2.fit from hN ▸ fit_not _)
        rw [hN] at HQ
        rw [hN]
        rintro e wB ⟨rfl, fB⟩
        have FB := Lib.hid (FA.out.trans' fB); clear fB hN
        go_wp2_with fail
        refine (spansR_lit6 s2 wB HS2.out).mono ?_
        rintro e w5 ⟨v, rfl, oL, f5, n5⟩
        obtain ⟨av, cv, rfl⟩ := ownsRow_slice (show w5.ownsRow 0 62 2 v (spl s2.has 256).length (spC (spl s2.has 256)) from oL)
        have OL := Lib.hid oL
        have F5 := Lib.hid (FB.out.trans' f5); clear f5 n5 oL
        have hLl := spl_len s2.has 256
        have hLi := (spl_good s2.has 256).in_
        obtain ⟨L, hL⟩ : ∃ L, spl s2.has 256 = L := ⟨_, rfl⟩
        rw [hL] at OL hLl hLi ⊢
        have hset : setT s = [91, 94] ++ spsT L ++ [93] := by rw [HQ.out, ← hL]; rfl
        have HSET := Lib.hid hset; have HLI := Lib.hid hLi
        clear hset hLi hL
        go_wp2_with fail
        go_loopw [7, 54] (fun v7 i wr => ∃ k : Nat, i = .int .i64 k ∧ k ≤ L.length ∧ v7 = .string ⟨([91, 94] ++ spsT (L.take k)).toArray⟩ ∧ Fr nob w5 wr) (fun _ i _ => L.length - (intOf i).toNat)
        case atStart => exact ⟨0, rfl, Nat.zero_le _, rfl, Fr.refl _ _⟩
        case round =>
          obtain ⟨k, rfl, hk, rfl, fr⟩ := hrel
          have FR := Lib.hid fr; clear fr
          by_cases hlt : k < L.length
          · have OK := OL.out.on FR.out (fun _ _ x => x)
            obtain ⟨g, cap, hv, hc0, hc1⟩ := OK.get hlt
            injection hv with e1 e2 e3
            subst e1; subst e3
            have htk := spsT_take hlt
            have hbd := HLI.out L[k] (List.getElem_mem hlt)
            have hsz := spsT_le (L.take k)
            obtain ⟨⟨p, q⟩, hpq⟩ : ∃ x, L[k] = x := ⟨_, rfl⟩
            rw [hpq] at hc0 hc1 htk hbd
            simp only at hc0 hc1 hbd
            rw [List.length_take] at hsz
            have hip := insT_le p; have hiq := insT_le q
            have hep := fun w' => ref_end p w' (by omega)
            have heq := fun w' => ref_end q w' (by omega)
            have hspn : spnT (p, q) = insT p ++ (if p = q then [] else 45 :: insT q) := rfl
            obtain ⟨IP, hIP⟩ : ∃ x, insT p = x := ⟨_, rfl⟩
            obtain ⟨IQ, hIQ⟩ : ∃ x, insT q = x := ⟨_, rfl⟩
            rw [hIP] at hip hep
            rw [hIQ] at hiq heq
            rw [hIP, hIQ] at hspn
            obtain ⟨X, hX⟩ : ∃ X, [91, 94] ++ spsT (L.take k) = X := ⟨_, rfl⟩
            have hXl : X.length ≤ 3000 := by rw [← hX]; simp; omega
            obtain ⟨Y, hY⟩ : ∃ Y, X ++ IP = Y := ⟨_, rfl⟩
            have hYl : Y.length ≤ 3005 := by rw [← hY]; simp; omega
            obtain ⟨Z, hZ⟩ : ∃ Z, Y ++ [45] = Z := ⟨_, rfl⟩
            have hZl : Z.length ≤ 3006 := by rw [← hZ]; simp; omega
            obtain ⟨U, hU⟩ : ∃ U, Z ++ IQ = U := ⟨_, rfl⟩
            have hnext : [91, 94] ++ spsT (L.take (k + 1)) = (if p = q then Y else U) := by
              rw [htk, ← List.append_assoc, hX, hspn, ← hU, ← hZ, ← hY]
              split <;> simp [List.append_assoc]
            have ar1 : ∀ w', (Op.stringOp .add ⟨X.toArray⟩ ⟨IP.toArray⟩).run Tryz.prog w' = .ok (.string ⟨Y.toArray⟩) w' := fun w' => by rw [← hY]; exact run_string_add_lists w' X IP (by omega) (by omega)
            have ar2 : ∀ w', (Op.stringOp .add ⟨Y.toArray⟩ ⟨#[45]⟩).run Tryz.prog w' = .ok (.string ⟨Z.toArray⟩) w' := fun w' => by rw [← hZ]; exact run_string_add_lists w' Y [45] (by omega) (by decide)
            have ar3 : ∀ w', (Op.stringOp .add ⟨Z.toArray⟩ ⟨IQ.toArray⟩).run Tryz.prog w' = .ok (.string ⟨U.toArray⟩) w' := fun w' => by rw [← hU]; exact run_string_add_lists w' Z IQ (by omega) (by omega)
            have HEP := Lib.hid hep; have HEQ := Lib.hid heq; have HNX := Lib.hid hnext
            have HC0 := Lib.hid hc0; have HC1 := Lib.hid hc1
            rw [hX]
            clear e2 hpq htk hX hY hZ hU hIP hIQ hspn OK hep heq hnext
            go_wp2_with fail
            refine (HEP.out _).mono ?_
            rintro e w6 ⟨rfl, f6⟩
            have k0 := cell_keptv (f6.cell HC0.out (fun x => x))
            have k1 := cell_keptv (f6.cell HC1.out (fun x => x))
            have C0 := Lib.hid (f6.cell HC0.out (fun x => x)); have C1 := Lib.hid (f6.cell HC1.out (fun x => x))
            have F6 := Lib.hid (FR.out.trans' f6); clear f6 hc0 hc1
            go_wp2_with fail
            refine region_fr 10 (by kernel_rfl) (by kernel_rfl) ?_
            simp only [List.take_succ_cons, List.take_zero, List.drop_succ_cons, List.drop_zero]
            repeat (quiet_step (fail))
            refine wpQuiet_nil ?_
            intro w7 f7
            have d0 := f7.cell C0.out (fun x => x)
            have d1 := f7.cell C1.out (fun x => x)
            have F7 := Lib.hid (F6.out.trans' f7); clear f7 k0 k1
            by_cases hpq : p = q
            · have q1 : ¬ (p : Int) < (q : Int) := by omega
              rw [if_pos hpq] at HNX
              clear hpq
              go_wp2
              go_roundw
              case rel => exact ⟨k + 1, by go_num, by omega, by rw [HNX.out], F7.out⟩
              case measure => simp [intOf]; omega
            · have q1 : (p : Int) < (q : Int) := by omega
              rw [if_neg hpq] at HNX
              clear hpq
              go_wp2_with fail
              refine (HEQ.out _).mono ?_
              rintro e w8 ⟨rfl, f8⟩
              have F8 := Lib.hid (F7.out.trans' f8); clear f8
              go_wp2
              go_roundw
              case rel => exact ⟨k + 1, by go_num, by omega, by rw [HNX.out], F8.out⟩
              case measure => simp [intOf]; omega
          · obtain rfl : k = L.length := by omega
            have hsz := spsT_le L
            have hT := List.take_of_length_le (l := L) (Nat.le_refl _)
            rw [hT]
            have ar4 : ∀ w', (Op.stringOp .add ⟨([91, 94] ++ spsT L).toArray⟩ ⟨#[93]⟩).run Tryz.prog w' = .ok (.string ⟨(setT s).toArray⟩) w' := fun w' => by rw [HSET.out]; exact run_string_add_lists w' _ [93] (by simp; omega) (by decide)
            obtain ⟨X, hX⟩ : ∃ X, [91, 94] ++ spsT L = X := ⟨_, rfl⟩
            rw [hX] at ar4 ⊢
            clear hX hT
            go_wp2
            go_ret
            exact ⟨rfl, F01.out.trans' (F5.out.trans' FR.out)⟩
      | false =>
        have HQ := Lib.hid (show setT s = brkT false s by rw [HST.out false ho, h10, hen]; rfl)
        rw [h10] at HH10
        clear HST h10
        refine (HH10.out w3).mono ?_
        rintro e w4 ⟨rfl, f4⟩
        have F4 := Lib.hid (F3.out.trans' f4); have f34 := f4; have F34 := Lib.hid f34; clear f4 f34
        have r4 := rule4 (F4.out.heap HB1.out (fun x => x))
        go_wp2_with fail
        rw [hen] at HEN
        clear hen
        refine (HEN.out w4).mono ?_
        rintro e wA ⟨rfl, fA⟩
        have FA := Lib.hid (F4.out.trans' fA); have F3A := Lib.hid (F34.out.trans' fA); clear fA
        have rA := rule4 (FA.out.heap HB1.out (fun x => x))
        go_wp2_with fail
        have OL := Lib.hid (O0.out.on F3A.out (fun _ _ x => x))
        have F5 := FA
        obtain ⟨w5, hw5⟩ : ∃ w5, wA = w5 := ⟨_, rfl⟩
        rw [hw5] at OL F5 rA ⊢
        clear hw5
        obtain ⟨av, hav⟩ : ∃ av, a0 = av := ⟨_, rfl⟩
        obtain ⟨cv, hcv⟩ : ∃ cv, l0 = cv := ⟨_, rfl⟩
        rw [hav, hcv] at OL ⊢
        clear hav hcv
        have hLl := spl_len s.has 256
        have hLi := (spl_good s.has 256).in_
        obtain ⟨L, hL⟩ : ∃ L, spl s.has 256 = L := ⟨_, rfl⟩
        rw [hL] at OL hLl hLi ⊢
        have hset : setT s = [91] ++ spsT L ++ [93] := by rw [HQ.out, ← hL]; rfl
        have HSET := Lib.hid hset; have HLI := Lib.hid hLi
        clear hset hLi hL
        go_wp2_with fail
        go_loopw [7, 54] (fun v7 i wr => ∃ k : Nat, i = .int .i64 k ∧ k ≤ L.length ∧ v7 = .string ⟨([91] ++ spsT (L.take k)).toArray⟩ ∧ Fr nob w5 wr) (fun _ i _ => L.length - (intOf i).toNat)
        case atStart => exact ⟨0, rfl, Nat.zero_le _, rfl, Fr.refl _ _⟩
        case round =>
          obtain ⟨k, rfl, hk, rfl, fr⟩ := hrel
          have FR := Lib.hid fr; clear fr
          by_cases hlt : k < L.length
          · have OK := OL.out.on FR.out (fun _ _ x => x)
            obtain ⟨g, cap, hv, hc0, hc1⟩ := OK.get hlt
            injection hv with e1 e2 e3
            subst e1; subst e3
            have htk := spsT_take hlt
            have hbd := HLI.out L[k] (List.getElem_mem hlt)
            have hsz := spsT_le (L.take k)
            obtain ⟨⟨p, q⟩, hpq⟩ : ∃ x, L[k] = x := ⟨_, rfl⟩
            rw [hpq] at hc0 hc1 htk hbd
            simp only at hc0 hc1 hbd
            rw [List.length_take] at hsz
            have hip := insT_le p; have hiq := insT_le q
            have hep := fun w' => ref_end p w' (by omega)
            have heq := fun w' => ref_end q w' (by omega)
            have hspn : spnT (p, q) = insT p ++ (if p = q then [] else 45 :: insT q) := rfl
            obtain ⟨IP, hIP⟩ : ∃ x, insT p = x := ⟨_, rfl⟩
            obtain ⟨IQ, hIQ⟩ : ∃ x, insT q = x := ⟨_, rfl⟩
            rw [hIP] at hip hep
            rw [hIQ] at hiq heq
            rw [hIP, hIQ] at hspn
            obtain ⟨X, hX⟩ : ∃ X, [91] ++ spsT (L.take k) = X := ⟨_, rfl⟩
            have hXl : X.length ≤ 3000 := by rw [← hX]; simp; omega
            obtain ⟨Y, hY⟩ : ∃ Y, X ++ IP = Y := ⟨_, rfl⟩
            have hYl : Y.length ≤ 3005 := by rw [← hY]; simp; omega
            obtain ⟨Z, hZ⟩ : ∃ Z, Y ++ [45] = Z := ⟨_, rfl⟩
            have hZl : Z.length ≤ 3006 := by rw [← hZ]; simp; omega
            obtain ⟨U, hU⟩ : ∃ U, Z ++ IQ = U := ⟨_, rfl⟩
            have hnext : [91] ++ spsT (L.take (k + 1)) = (if p = q then Y else U) := by
              rw [htk, ← List.append_assoc, hX, hspn, ← hU, ← hZ, ← hY]
              split <;> simp [List.append_assoc]
            have ar1 : ∀ w', (Op.stringOp .add ⟨X.toArray⟩ ⟨IP.toArray⟩).run Tryz.prog w' = .ok (.string ⟨Y.toArray⟩) w' := fun w' => by rw [← hY]; exact run_string_add_lists w' X IP (by omega) (by omega)
            have ar2 : ∀ w', (Op.stringOp .add ⟨Y.toArray⟩ ⟨#[45]⟩).run Tryz.prog w' = .ok (.string ⟨Z.toArray⟩) w' := fun w' => by rw [← hZ]; exact run_string_add_lists w' Y [45] (by omega) (by decide)
            have ar3 : ∀ w', (Op.stringOp .add ⟨Z.toArray⟩ ⟨IQ.toArray⟩).run Tryz.prog w' = .ok (.string ⟨U.toArray⟩) w' := fun w' => by rw [← hU]; exact run_string_add_lists w' Z IQ (by omega) (by omega)
            have HEP := Lib.hid hep; have HEQ := Lib.hid heq; have HNX := Lib.hid hnext
            have HC0 := Lib.hid hc0; have HC1 := Lib.hid hc1
            rw [hX]
            clear e2 hpq htk hX hY hZ hU hIP hIQ hspn OK hep heq hnext
            go_wp2_with fail
            refine (HEP.out _).mono ?_
            rintro e w6 ⟨rfl, f6⟩
            have k0 := cell_keptv (f6.cell HC0.out (fun x => x))
            have k1 := cell_keptv (f6.cell HC1.out (fun x => x))
            have C0 := Lib.hid (f6.cell HC0.out (fun x => x)); have C1 := Lib.hid (f6.cell HC1.out (fun x => x))
            have F6 := Lib.hid (FR.out.trans' f6); clear f6 hc0 hc1
            go_wp2_with fail
            refine region_fr 10 (by kernel_rfl) (by kernel_rfl) ?_
            simp only [List.take_succ_cons, List.take_zero, List.drop_succ_cons, List.drop_zero]
            repeat (quiet_step (fail))
            refine wpQuiet_nil ?_
            intro w7 f7
            have d0 := f7.cell C0.out (fun x => x)
            have d1 := f7.cell C1.out (fun x => x)
            have F7 := Lib.hid (F6.out.trans' f7); clear f7 k0 k1
            by_cases hpq : p = q
            · have q1 : ¬ (p : Int) < (q : Int) := by omega
              rw [if_pos hpq] at HNX
              clear hpq
              go_wp2
              go_roundw
              case rel => exact ⟨k + 1, by go_num, by omega, by rw [HNX.out], F7.out⟩
              case measure => simp [intOf]; omega
            · have q1 : (p : Int) < (q : Int) := by omega
              rw [if_neg hpq] at HNX
              clear hpq
              go_wp2_with fail
              refine (HEQ.out _).mono ?_
              rintro e w8 ⟨rfl, f8⟩
              have F8 := Lib.hid (F7.out.trans' f8); clear f8
              go_wp2
              go_roundw
              case rel => exact ⟨k + 1, by go_num, by omega, by rw [HNX.out], F8.out⟩
              case measure => simp [intOf]; omega
          · obtain rfl : k = L.length := by omega
            have hsz := spsT_le L
            have hT := List.take_of_length_le (l := L) (Nat.le_refl _)
            rw [hT]
            have ar4 : ∀ w', (Op.stringOp .add ⟨([91] ++ spsT L).toArray⟩ ⟨#[93]⟩).run Tryz.prog w' = .ok (.string ⟨(setT s).toArray⟩) w' := fun w' => by rw [HSET.out]; exact run_string_add_lists w' _ [93] (by simp; omega) (by decide)
            obtain ⟨X, hX⟩ : ∃ X, [91] ++ spsT L = X := ⟨_, rfl⟩
            rw [hX] at ar4 ⊢
            clear hX hT
            go_wp2
            go_ret
            exact ⟨rfl, F01.out.trans' (F5.out.trans' FR.out)⟩
    | false =>
      have HQ := Lib.hid (show setT s = brkT false s by rw [HST.out false ho, h10]; rfl)
      rw [h10] at HH10
      clear HST h10
      refine (HH10.out w3).mono ?_
      rintro e w4 ⟨rfl, f4⟩
      have F4 := Lib.hid (F3.out.trans' f4); have f34 := f4; have F34 := Lib.hid f34; clear f4 f34
      have r4 := rule4 (F4.out.heap HB1.out (fun x => x))
      go_wp2_with fail
      have FA := F4; have F3A := F34
      have rA := r4
      obtain ⟨wA, hwA⟩ : ∃ wA, w4 = wA := ⟨_, rfl⟩
      rw [hwA] at FA F3A rA ⊢
      clear hwA
      have OL := Lib.hid (O0.out.on F3A.out (fun _ _ x => x))
      have F5 := FA
      obtain ⟨w5, hw5⟩ : ∃ w5, wA = w5 := ⟨_, rfl⟩
      rw [hw5] at OL F5 rA ⊢
      clear hw5
      obtain ⟨av, hav⟩ : ∃ av, a0 = av := ⟨_, rfl⟩
      obtain ⟨cv, hcv⟩ : ∃ cv, l0 = cv := ⟨_, rfl⟩
      rw [hav, hcv] at OL ⊢
      clear hav hcv
      have hLl := spl_len s.has 256
      have hLi := (spl_good s.has 256).in_
      obtain ⟨L, hL⟩ : ∃ L, spl s.has 256 = L := ⟨_, rfl⟩
      rw [hL] at OL hLl hLi ⊢
      have hset : setT s = [91] ++ spsT L ++ [93] := by rw [HQ.out, ← hL]; rfl
      have HSET := Lib.hid hset; have HLI := Lib.hid hLi
      clear hset hLi hL
      go_wp2_with fail
      go_loopw [7, 54] (fun v7 i wr => ∃ k : Nat, i = .int .i64 k ∧ k ≤ L.length ∧ v7 = .string ⟨([91] ++ spsT (L.take k)).toArray⟩ ∧ Fr nob w5 wr) (fun _ i _ => L.length - (intOf i).toNat)
      case atStart => exact ⟨0, rfl, Nat.zero_le _, rfl, Fr.refl _ _⟩
      case round =>
        obtain ⟨k, rfl, hk, rfl, fr⟩ := hrel
        have FR := Lib.hid fr; clear fr
        by_cases hlt : k < L.length
        · have OK := OL.out.on FR.out (fun _ _ x => x)
          obtain ⟨g, cap, hv, hc0, hc1⟩ := OK.get hlt
          injection hv with e1 e2 e3
          subst e1; subst e3
          have htk := spsT_take hlt
          have hbd := HLI.out L[k] (List.getElem_mem hlt)
          have hsz := spsT_le (L.take k)
          obtain ⟨⟨p, q⟩, hpq⟩ : ∃ x, L[k] = x := ⟨_, rfl⟩
          rw [hpq] at hc0 hc1 htk hbd
          simp only at hc0 hc1 hbd
          rw [List.length_take] at hsz
          have hip := insT_le p; have hiq := insT_le q
          have hep := fun w' => ref_end p w' (by omega)
          have heq := fun w' => ref_end q w' (by omega)
          have hspn : spnT (p, q) = insT p ++ (if p = q then [] else 45 :: insT q) := rfl
          obtain ⟨IP, hIP⟩ : ∃ x, insT p = x := ⟨_, rfl⟩
          obtain ⟨IQ, hIQ⟩ : ∃ x, insT q = x := ⟨_, rfl⟩
          rw [hIP] at hip hep
          rw [hIQ] at hiq heq
          rw [hIP, hIQ] at hspn
          obtain ⟨X, hX⟩ : ∃ X, [91] ++ spsT (L.take k) = X := ⟨_, rfl⟩
          have hXl : X.length ≤ 3000 := by rw [← hX]; simp; omega
          obtain ⟨Y, hY⟩ : ∃ Y, X ++ IP = Y := ⟨_, rfl⟩
          have hYl : Y.length ≤ 3005 := by rw [← hY]; simp; omega
          obtain ⟨Z, hZ⟩ : ∃ Z, Y ++ [45] = Z := ⟨_, rfl⟩
          have hZl : Z.length ≤ 3006 := by rw [← hZ]; simp; omega
          obtain ⟨U, hU⟩ : ∃ U, Z ++ IQ = U := ⟨_, rfl⟩
          have hnext : [91] ++ spsT (L.take (k + 1)) = (if p = q then Y else U) := by
            rw [htk, ← List.append_assoc, hX, hspn, ← hU, ← hZ, ← hY]
            split <;> simp [List.append_assoc]
          have ar1 : ∀ w', (Op.stringOp .add ⟨X.toArray⟩ ⟨IP.toArray⟩).run Tryz.prog w' = .ok (.string ⟨Y.toArray⟩) w' := fun w' => by rw [← hY]; exact run_string_add_lists w' X IP (by omega) (by omega)
          have ar2 : ∀ w', (Op.stringOp .add ⟨Y.toArray⟩ ⟨#[45]⟩).run Tryz.prog w' = .ok (.string ⟨Z.toArray⟩) w' := fun w' => by rw [← hZ]; exact run_string_add_lists w' Y [45] (by omega) (by decide)
          have ar3 : ∀ w', (Op.stringOp .add ⟨Z.toArray⟩ ⟨IQ.toArray⟩).run Tryz.prog w' = .ok (.string ⟨U.toArray⟩) w' := fun w' => by rw [← hU]; exact run_string_add_lists w' Z IQ (by omega) (by omega)
          have HEP := Lib.hid hep; have HEQ := Lib.hid heq; have HNX := Lib.hid hnext
          have HC0 := Lib.hid hc0; have HC1 := Lib.hid hc1
          rw [hX]
          clear e2 hpq htk hX hY hZ hU hIP hIQ hspn OK hep heq hnext
          go_wp2_with fail
          refine (HEP.out _).mono ?_
          rintro e w6 ⟨rfl, f6⟩
          have k0 := cell_keptv (f6.cell HC0.out (fun x => x))
          have k1 := cell_keptv (f6.cell HC1.out (fun x => x))
          have C0 := Lib.hid (f6.cell HC0.out (fun x => x)); have C1 := Lib.hid (f6.cell HC1.out (fun x => x))
          have F6 := Lib.hid (FR.out.trans' f6); clear f6 hc0 hc1
          go_wp2_with fail
          refine region_fr 10 (by kernel_rfl) (by kernel_rfl) ?_
          simp only [List.take_succ_cons, List.take_zero, List.drop_succ_cons, List.drop_zero]
          repeat (quiet_step (fail))
          refine wpQuiet_nil ?_
          intro w7 f7
          have d0 := f7.cell C0.out (fun x => x)
          have d1 := f7.cell C1.out (fun x => x)
          have F7 := Lib.hid (F6.out.trans' f7); clear f7 k0 k1
          by_cases hpq : p = q
          · have q1 : ¬ (p : Int) < (q : Int) := by omega
            rw [if_pos hpq] at HNX
            clear hpq
            go_wp2
            go_roundw
            case rel => exact ⟨k + 1, by go_num, by omega, by rw [HNX.out], F7.out⟩
            case measure => simp [intOf]; omega
          · have q1 : (p : Int) < (q : Int) := by omega
            rw [if_neg hpq] at HNX
            clear hpq
            go_wp2_with fail
            refine (HEQ.out _).mono ?_
            rintro e w8 ⟨rfl, f8⟩
            have F8 := Lib.hid (F7.out.trans' f8); clear f8
            go_wp2
            go_roundw
            case rel => exact ⟨k + 1, by go_num, by omega, by rw [HNX.out], F8.out⟩
            case measure => simp [intOf]; omega
        · obtain rfl : k = L.length := by omega
          have hsz := spsT_le L
          have hT := List.take_of_length_le (l := L) (Nat.le_refl _)
          rw [hT]
          have ar4 : ∀ w', (Op.stringOp .add ⟨([91] ++ spsT L).toArray⟩ ⟨#[93]⟩).run Tryz.prog w' = .ok (.string ⟨(setT s).toArray⟩) w' := fun w' => by rw [HSET.out]; exact run_string_add_lists w' _ [93] (by simp; omega) (by decide)
          obtain ⟨X, hX⟩ : ∃ X, [91] ++ spsT L = X := ⟨_, rfl⟩
          rw [hX] at ar4 ⊢
          clear hX hT
          go_wp2
          go_ret
          exact ⟨rfl, F01.out.trans' (F5.out.trans' FR.out)⟩
end Go.Proofs.YtlchaocpejfikaaGreatDoor
