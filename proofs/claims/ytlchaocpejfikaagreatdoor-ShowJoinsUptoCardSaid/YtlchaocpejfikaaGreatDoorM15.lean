/-
  Merged texts of this claim: ShowE.
-/
import Derived.Test.YtlchaocpejfikaaGreatDoorM11

/-
  Package show: set, told in brackets (printed by tools/showd.py).
-/
namespace Go.Proofs.YtlchaocpejfikaaGreatDoor
open Go.RowKit

section
variable {W0 w w' : World} {K : Nat → Prop} {b : Nat} {out : List UInt8}
/-- A block that was laid between stays from now on. -/
theorem TxW.add {P : Nat → Prop} (h : TxW W0 K b out w) (f : Fr nob w w') (hP : ∀ k, P k → w.heap.size ≤ k ∧ k < w'.heap.size) : TxW W0 (fun k => K k ∨ P k) b out w' := by
  obtain ⟨fr, g, ht, hk⟩ := h
  have hb : b < w.heap.size := by obtain ⟨cs, ⟨hb, _⟩, _⟩ := ht; exact lt_heap hb
  have hg : ∀ k, g = some k → k < w.heap.size := by
    intro k e
    obtain ⟨cs, ⟨_, _, _, v, _, hown, hgv, _⟩, _⟩ := ht
    subst e
    rcases hown.2 with ⟨rfl, _⟩ | ⟨q, cap, cur, rfl, _, hh, _⟩
    · cases hgv
    · injection hgv with e; subst e; exact lt_heap hh
  refine ⟨fr.trans' f, g, ht.on f (fun x => x) (fun _ _ x => x), fun k hk' => ?_⟩
  have hs := f.size
  rcases hk' with h | h | h
  · obtain ⟨h1, h2, h3⟩ := hk k (.inl h); exact ⟨h1, h2, by omega⟩
  · obtain ⟨h1, h2, h3⟩ := hk k (.inr h); exact ⟨h1, h2, by omega⟩
  · obtain ⟨h1, h2⟩ := hP k h
    exact ⟨by omega, fun e => by have := hg _ e.symm; omega, h2⟩
theorem Txn.less {K' : Nat → Prop} {k : Nat} (hK : ∀ k, K k → K' k) (h : Txn W0 K' k) : Txn W0 K k := fun x => h (x.imp id (hK k))
theorem OwnP.lt {v : Value} {L : List (Nat × Nat)} (h : OwnP w v L) : ∀ k, v.ownBlock = some k → k < w.heap.size := by
  intro k e
  rcases h.2 with ⟨rfl, _⟩ | ⟨q, cap, cur, rfl, _, hh, _⟩
  · cases e
  · injection e with e; subst e; exact lt_heap hh

set_option maxRecDepth 100000 in
set_option maxHeartbeats 8000000 in
theorem show_setB (s : S4) (hs : s.fit) (hE : Env W0) (h : TxW W0 K b out w) (hlen : out.length ≤ 10000000000000) (h256 : s.len ≠ 256) (h1 : s.len ≠ 1) :
    Calls Tryz.prog 24 #[.pointer (some ⟨b, 0, none⟩), setV s] w (TxA W0 K b (out ++ setT s) w (.tuple #[])) := by
  have hw0 : W0.heap.size ≤ w.heap.size := h.fr.size
  obtain ⟨w1, hw1⟩ : ∃ w1, w1 = w.alloc (.cells #[.int .u64 s.a, .int .u64 s.b, .int .u64 s.c, .int .u64 s.d] 27) := ⟨_, rfl⟩
  have f01 : Fr nob w w1 := by rw [hw1]; exact (Fr.refl _ _).alloc _
  have hb1 : w1.heap[w.heap.size]? = some (.cells #[.int .u64 s.a, .int .u64 s.b, .int .u64 s.c, .int .u64 s.d] 27 (0, 0)) := by rw [hw1]; exact newAt _ _
  have t1 : TxW W0 (fun k => K k ∨ k = w.heap.size) b out w1 := h.add f01 (fun k e => by subst e; rw [hw1]; simp)
  have r1 := rule4 hb1
  have hE1 : Env w1 := hE.on (h.fr.trans' f01)
  have HL := Lib.hid (len_lit s w1 hs)
  have HLs := Lib.hid (fun w' (f : Fr nob w1 w') => least_any s w' hs (hE1.on f).1)
  have HS := Lib.hid hs; have H1 := Lib.hid t1; have F01 := Lib.hid f01; have HW1 := Lib.hid hw1; have HB1 := Lib.hid hb1; have HW0 := Lib.hid hw0
  obtain ⟨n, hn⟩ : ∃ n, s.len = n := ⟨_, rfl⟩
  have hn256 : n ≤ 256 := hn ▸ s.len_le
  have hST : ∀ o, decide (128 < n ∨ n = 0) = o → ∀ s1, (if o then s.not else s) = s1 → ∀ e, endB (spl s1.has 256) = e → setT s = brkT (o != e) (if e then s1.not else s1) := by
    intro o ho s1 hs1 e he
    unfold setT
    rw [if_neg h256, if_neg h1, hn, ho]
    simp only
    rw [hs1, he]
  have HST := Lib.hid hST
  rw [hn] at h256 h1 HL
  have c1 : ((n : Int) == 256) = false := by simp; omega
  have c2 : ((n : Int) == 1) = false := by simp; omega
  clear h hs f01 hw1 t1 hb1 hE1 hE hw0 hn hST h256 h1
  go_enter Tryz.func24, Tryz.ntmps24
  go_wp2_with (rw [← HW1.out])
  refine HL.out.mono ?_
  rintro e w2 ⟨rfl, f2⟩
  have F2 := Lib.hid f2; clear f2
  have r2 := rule4 (F2.out.heap HB1.out (fun x => x))
  go_wp2_with fail
  refine (HLs.out _ F2.out).mono ?_
  rintro e w3 ⟨d, bb, rfl, hld, f3⟩
  have F3 := Lib.hid (F2.out.trans' f3); clear f3 hld HLs
  have H3 := Lib.hid (H1.out.quiet F3.out)
  go_wp2_with fail
  refine (tx_byte 91 91 (by decide) rfl H3.out (by omega)).mono ?_
  rintro e w4 ⟨rfl, h4, f4⟩
  have H4 := Lib.hid h4
  have F4 := Lib.hid (show Fr (Txn W0 K) w w4 from (F01.out.trans' F3.out).toTx.trans f4 (fun i _ x => Txn.less (fun _ => .inl) x))
  have HB4 := Lib.hid (f4.heap (F3.out.heap HB1.out (fun x => x)) (fun x => x (.inr (.inr rfl))))
  have r4 := rule4 HB4.out
  clear h4 f4 r1 r2 HW1 H1 F01 HB1 F2 F3 H3 HL
  rcases (show (128 < n ∨ (¬ 128 < n ∧ n = 0)) ∨ (¬ 128 < n ∧ n ≠ 0) by omega) with (hg | ⟨hg, h0⟩) | ⟨hg, h0⟩
  · have hgI : (128 : Int) < (n : Int) := by omega
    have ho : decide (128 < n ∨ n = 0) = true := by simp [hg]
    clear hg
    obtain ⟨s1, hN1⟩ : ∃ x, s.not = x := ⟨_, rfl⟩
    have hs1 := Lib.hid (show s1.fit from hN1 ▸ fit_not _)
    go_wp2_with fail
    cases he : endB (spl s1.has 256) with
    | true =>
      obtain ⟨s2, hN2⟩ : ∃ x, s1.not = x := ⟨_, rfl⟩
      have HS2 := Lib.hid (show s2.fit from hN2 ▸ fit_not _)
      have HQ := Lib.hid (show setT s = brkT false s2 by rw [HST.out true ho _ rfl true (by simpa [hN1] using he)]; simp [hN1, hN2])
      clear HST
      refine (not_lit s w4).mono ?_
      rw [hN1]
      rintro e w5 ⟨rfl, f5⟩
      have hb5 := f5.heap HB4.out (fun x => x)
      have r5 := rule4 hb5
      obtain ⟨w6, hw6⟩ : ∃ w6, w6 = ((((w5.setCell ⟨w.heap.size, 0, none⟩ (.int .u64 s1.a)).setCell ⟨w.heap.size, 1, none⟩ (.int .u64 s1.b)).setCell ⟨w.heap.size, 2, none⟩ (.int .u64 s1.c)).setCell ⟨w.heap.size, 3, none⟩ (.int .u64 s1.d)) := ⟨_, rfl⟩
      have HW6 := Lib.hid hw6
      have HB6 := Lib.hid (show w6.heap[w.heap.size]? = some (.cells #[.int .u64 s1.a, .int .u64 s1.b, .int .u64 s1.c, .int .u64 s1.d] 27 (0, 0)) by rw [hw6]; exact setFour_heap hb5 _ _ _ _)
      have H6 := Lib.hid (show TxW W0 (fun k => K k ∨ k = w.heap.size) b (out ++ [91]) w6 by rw [hw6]; exact (H4.out.quiet f5).on (setFour_one w5 w.heap.size _ _ _ _) (fun k x => ⟨.inr x, by rw [x]; exact HW0.out⟩))
      have F6 := Lib.hid (show Fr (Txn W0 K) w w6 by rw [hw6]; exact setFour_frS (F4.out.trans f5 (fun _ _ x => x.elim)) (Nat.le_refl _) _ _ _ _)
      have r6 := rule4 HB6.out
      clear hw6 f5 hb5
      go_wp2_with (rw [← HW6.out])
      refine (spans_any s1 w6 hs1.out).mono ?_
      rintro e w7 ⟨v7, rfl, o7, f7, n7⟩
      go_wp2_with fail
      refine (ended_any (spl s1.has 256) v7 w7 (spl_len _ _) (fun x hx => by have := (spl_good s1.has 256).in_ x hx; omega) o7).mono ?_
      rintro e w8 ⟨rfl, f8⟩
      rw [he]
      have F8 := Lib.hid (F6.out.trans (f7.trans' f8) (fun _ _ x => x.elim)); have H8 := Lib.hid (H6.out.quiet (f7.trans' f8)); have HB8 := Lib.hid ((f7.trans' f8).heap HB6.out (fun x => x))
      have r8 := rule4 HB8.out
      clear f7 f8 n7 o7
      go_wp2_with fail
      refine (not_lit s1 w8).mono ?_
      rw [hN2]
      rintro e w9 ⟨rfl, f9⟩
      have hb9 := f9.heap HB8.out (fun x => x)
      have r9 := rule4 hb9
      obtain ⟨wA, hwA⟩ : ∃ wA, wA = ((((w9.setCell ⟨w.heap.size, 0, none⟩ (.int .u64 s2.a)).setCell ⟨w.heap.size, 1, none⟩ (.int .u64 s2.b)).setCell ⟨w.heap.size, 2, none⟩ (.int .u64 s2.c)).setCell ⟨w.heap.size, 3, none⟩ (.int .u64 s2.d)) := ⟨_, rfl⟩
      have HWA := Lib.hid hwA
      have HBA := Lib.hid (show wA.heap[w.heap.size]? = some (.cells #[.int .u64 s2.a, .int .u64 s2.b, .int .u64 s2.c, .int .u64 s2.d] 27 (0, 0)) by rw [hwA]; exact setFour_heap hb9 _ _ _ _)
      have HA := Lib.hid (show TxW W0 (fun k => K k ∨ k = w.heap.size) b (out ++ [91]) wA by rw [hwA]; exact (H8.out.quiet f9).on (setFour_one w9 w.heap.size _ _ _ _) (fun k x => ⟨.inr x, by rw [x]; exact HW0.out⟩))
      have FA := Lib.hid (show Fr (Txn W0 K) w wA by rw [hwA]; exact setFour_frS (F8.out.trans f9 (fun _ _ x => x.elim)) (Nat.le_refl _) _ _ _ _)
      have rA := rule4 HBA.out
      clear hwA f9 hb9
      go_wp2_with (rw [← HWA.out])
      have HB := HA; have FB := FA; have HBB := HBA
      have rB := rA
      obtain ⟨wB, hwB⟩ : ∃ wB, wA = wB := ⟨_, rfl⟩
      rw [hwB] at HB FB HBB rB ⊢
      clear hwB
      refine (spans_any s2 wB HS2.out).mono ?_
      rintro e w5 ⟨v, rfl, oL, f5, n5⟩
      obtain ⟨L, hL⟩ : ∃ L, spl s2.has 256 = L := ⟨_, rfl⟩
      have hLl := spl_len s2.has 256
      have hLi := (spl_good s2.has 256).in_
      rw [hL] at oL hLl hLi
      have hset : out ++ setT s = out ++ [91] ++ [] ++ spsT L ++ [93] := by rw [HQ.out, ← hL]; simp [brkT, List.append_assoc]
      obtain ⟨av, cv, rfl⟩ := ownsRow_slice (show w5.ownsRow 0 62 2 v L.length (spC L) from oL)
      obtain ⟨K2, hK2⟩ : ∃ K2 : Nat → Prop, K2 = fun k => (K k ∨ k = w.heap.size) ∨ (Value.slice av L.length cv).ownBlock = some k := ⟨_, rfl⟩
      have hKK : ∀ k, K k → K2 k := fun k x => by rw [hK2]; exact .inl (.inl x)
      have hKv : ∀ k, (Value.slice av L.length cv).ownBlock = some k → K2 k := fun k x => by rw [hK2]; exact .inr x
      have HC := Lib.hid (show TxW W0 K2 b (out ++ [91] ++ []) w5 by rw [hK2]; have := HB.out.add f5 (P := fun k => (Value.slice av L.length cv).ownBlock = some k) (fun k e => ⟨n5 k e, oL.lt k e⟩); simpa using this)
      have FC := Lib.hid (show Fr (Txn W0 K) w w5 from FB.out.trans f5 (fun _ _ x => x.elim))
      have OL := Lib.hid oL; have HSET := Lib.hid hset; have HKK := Lib.hid hKK; have HKV := Lib.hid hKv; have HLI := Lib.hid hLi
      clear oL hset hK2 hKK hKv hL hLi n5 f5
      go_wp2_with fail
      go_loopw [57] (fun i wr => ∃ k : Nat, i = .int .i64 k ∧ k ≤ L.length ∧ TxW W0 K2 b (out ++ [91] ++ [] ++ spsT (L.take k)) wr ∧ Fr (Txn W0 K2) w5 wr) (fun i _ => L.length - (intOf i).toNat)
      case atStart => exact ⟨0, rfl, Nat.zero_le _, by simpa [spsT] using HC.out, Fr.refl _ _⟩
      case round =>
        obtain ⟨k, rfl, hk, tx, fr⟩ := hrel
        have HR := Lib.hid tx; have FR := Lib.hid fr; clear tx fr
        by_cases hlt : k < L.length
        · have OK := OL.out.on FR.out (fun j e x => x (.inr (HKV.out j e)))
          obtain ⟨g, cap, hv, hc0, hc1⟩ := OK.get hlt
          injection hv with e1 e2 e3
          subst e1; subst e3
          have htk := spsT_take hlt
          have hbd := HLI.out L[k] (List.getElem_mem hlt)
          have hsz := spsT_le (L.take k)
          obtain ⟨⟨p, q⟩, hpq⟩ : ∃ x, L[k] = x := ⟨_, rfl⟩
          rw [hpq] at hc0 hc1 htk hbd
          simp only at hc0 hc1 hbd
          rw [List.length_take] at hsz
          obtain ⟨X, hX⟩ : ∃ X, out ++ [91] ++ [] ++ spsT (L.take k) = X := ⟨_, rfl⟩
          have hXl : X.length ≤ 10000000010000 := by rw [← hX]; simp; omega
          have hnext : X ++ spnT (p, q) = out ++ [91] ++ [] ++ spsT (L.take (k + 1)) := by rw [htk, ← hX]; simp [List.append_assoc]
          rw [hX] at HR
          obtain ⟨wa, hwa⟩ : ∃ wa, wa = wr.alloc (.cells #[.int .u8 (p : Int), .int .u8 (q : Int)] 62) := ⟨_, rfl⟩
          have hza : wa.heap[wr.heap.size]? = some (.cells #[.int .u8 (p : Int), .int .u8 (q : Int)] 62 (0, 0)) := by rw [hwa]; exact newAt _ _
          have k0 := cell_at (j := 0) (v := .int .u8 (p : Int)) hza rfl
          have k1 := cell_at (j := 1) (v := .int .u8 (q : Int)) hza rfl
          have TA := Lib.hid (show TxW W0 (fun k => K2 k ∨ k = wr.heap.size) b X wa by rw [hwa]; exact HR.out.alloc _ HR.out.lt)
          have FA' := Lib.hid (show Fr (Txn W0 K2) w5 wa by rw [hwa]; exact FR.out.alloc _)
          have HWa := Lib.hid hwa; have HNX := Lib.hid hnext; have HZA := Lib.hid hza
          clear e2 hpq htk hX OK hwa hnext hza
          go_wp2_with (rw [← HWa.out])
          refine (show_inside p (by omega) TA.out (by omega)).mono ?_
          rintro e wx ⟨rfl, tx, fx⟩
          have hzx := fx.heap HZA.out (fun x => x (.inr (.inr rfl)))
          have k0x := cell_at (j := 0) (v := .int .u8 (p : Int)) hzx rfl
          have k1x := cell_at (j := 1) (v := .int .u8 (q : Int)) hzx rfl
          have TX := Lib.hid tx; have FX := Lib.hid (FA'.out.trans fx (fun _ _ x => Txn.less (fun _ => .inl) x)); have HZX := Lib.hid hzx
          have hip := insT_le p
          clear tx fx hzx
          by_cases hpq : p = q
          · have q1 : ((p : Int) != (q : Int)) = false := by subst hpq; simp
            have hsp : spnT (p, q) = insT p := by unfold spnT; simp [hpq]
            have HSP := Lib.hid hsp
            clear hsp hpq
            go_wp2
            go_roundw
            case rel => exact ⟨k + 1, by go_num, by omega, by have := TX.out.less (K' := K2) (fun _ => .inl); rw [← HNX.out, HSP.out]; exact this, FX.out⟩
            case measure => simp [intOf]; omega
          · have q1 : ((p : Int) != (q : Int)) = true := by simp; omega
            have hsp : spnT (p, q) = insT p ++ ([45] ++ insT q) := by unfold spnT; simp [hpq]
            have HSP := Lib.hid hsp
            clear hsp hpq
            go_wp2_with fail
            refine (tx_byte 45 45 (by decide) rfl TX.out (by simp; omega)).mono ?_
            rintro e wy ⟨rfl, ty, fy⟩
            have hzy := fy.heap HZX.out (fun x => x (.inr (.inr rfl)))
            have k0y := cell_at (j := 0) (v := .int .u8 (p : Int)) hzy rfl
            have k1y := cell_at (j := 1) (v := .int .u8 (q : Int)) hzy rfl
            have TY := Lib.hid ty; have FY := Lib.hid (FX.out.trans fy (fun _ _ x => Txn.less (fun _ => .inl) x))
            clear ty fy hzy
            go_wp2_with fail
            refine (show_inside q (by omega) TY.out (by simp; omega)).mono ?_
            rintro e wz ⟨rfl, tz, fz⟩
            have TZ := Lib.hid tz; have FZ := Lib.hid (FY.out.trans fz (fun _ _ x => Txn.less (fun _ => .inl) x))
            clear tz fz
            go_wp2
            go_roundw
            case rel => exact ⟨k + 1, by go_num, by omega, by have := TZ.out.less (K' := K2) (fun _ => .inl); rw [← HNX.out, HSP.out]; simpa [List.append_assoc] using this, FZ.out⟩
            case measure => simp [intOf]; omega
        · obtain rfl : k = L.length := by omega
          have hsz := spsT_le L
          have hT := List.take_of_length_le (l := L) (Nat.le_refl _)
          rw [hT] at HR
          clear hT
          go_wp2_with fail
          refine (tx_byte 93 93 (by decide) rfl HR.out (by simp; omega)).mono ?_
          rintro e wy ⟨rfl, ty, fy⟩
          have TY := Lib.hid ty; have FY := Lib.hid (FR.out.trans fy (fun _ _ x => x))
          clear ty fy
          go_wp2
          go_end0
          refine ⟨rfl, by rw [HSET.out]; exact TY.out.less HKK.out, FC.out.trans FY.out (fun _ _ x => Txn.less HKK.out x)⟩
    | false =>
      have HQ := Lib.hid (show setT s = brkT true s1 by rw [HST.out true ho _ rfl false (by simpa [hN1] using he)]; simp [hN1])
      clear HST
      refine (not_lit s w4).mono ?_
      rw [hN1]
      rintro e w5 ⟨rfl, f5⟩
      have hb5 := f5.heap HB4.out (fun x => x)
      have r5 := rule4 hb5
      obtain ⟨w6, hw6⟩ : ∃ w6, w6 = ((((w5.setCell ⟨w.heap.size, 0, none⟩ (.int .u64 s1.a)).setCell ⟨w.heap.size, 1, none⟩ (.int .u64 s1.b)).setCell ⟨w.heap.size, 2, none⟩ (.int .u64 s1.c)).setCell ⟨w.heap.size, 3, none⟩ (.int .u64 s1.d)) := ⟨_, rfl⟩
      have HW6 := Lib.hid hw6
      have HB6 := Lib.hid (show w6.heap[w.heap.size]? = some (.cells #[.int .u64 s1.a, .int .u64 s1.b, .int .u64 s1.c, .int .u64 s1.d] 27 (0, 0)) by rw [hw6]; exact setFour_heap hb5 _ _ _ _)
      have H6 := Lib.hid (show TxW W0 (fun k => K k ∨ k = w.heap.size) b (out ++ [91]) w6 by rw [hw6]; exact (H4.out.quiet f5).on (setFour_one w5 w.heap.size _ _ _ _) (fun k x => ⟨.inr x, by rw [x]; exact HW0.out⟩))
      have F6 := Lib.hid (show Fr (Txn W0 K) w w6 by rw [hw6]; exact setFour_frS (F4.out.trans f5 (fun _ _ x => x.elim)) (Nat.le_refl _) _ _ _ _)
      have r6 := rule4 HB6.out
      clear hw6 f5 hb5
      go_wp2_with (rw [← HW6.out])
      refine (spans_any s1 w6 hs1.out).mono ?_
      rintro e w7 ⟨v7, rfl, o7, f7, n7⟩
      go_wp2_with fail
      refine (ended_any (spl s1.has 256) v7 w7 (spl_len _ _) (fun x hx => by have := (spl_good s1.has 256).in_ x hx; omega) o7).mono ?_
      rintro e w8 ⟨rfl, f8⟩
      rw [he]
      have F8 := Lib.hid (F6.out.trans (f7.trans' f8) (fun _ _ x => x.elim)); have H8 := Lib.hid (H6.out.quiet (f7.trans' f8)); have HB8 := Lib.hid ((f7.trans' f8).heap HB6.out (fun x => x))
      have r8 := rule4 HB8.out
      clear f7 f8 n7 o7
      go_wp2_with fail
      have HBA := HB8; have HA := H8; have FA := F8
      have rA := r8
      obtain ⟨wA, hwA⟩ : ∃ wA, w8 = wA := ⟨_, rfl⟩
      rw [hwA] at HBA HA FA rA ⊢
      clear hwA
      refine (tx_byte 94 94 (by decide) rfl HA.out (by simp; omega)).mono ?_
      rintro e wB ⟨rfl, hB, fB⟩
      have HB := Lib.hid hB; have FB := Lib.hid (FA.out.trans fB (fun _ _ x => Txn.less (fun _ => .inl) x)); have HBB := Lib.hid (fB.heap HBA.out (fun x => x (.inr (.inr rfl))))
      have rB := rule4 HBB.out
      clear hB fB
      go_wp2_with fail
      refine (spans_any s1 wB hs1.out).mono ?_
      rintro e w5 ⟨v, rfl, oL, f5, n5⟩
      obtain ⟨L, hL⟩ : ∃ L, spl s1.has 256 = L := ⟨_, rfl⟩
      have hLl := spl_len s1.has 256
      have hLi := (spl_good s1.has 256).in_
      rw [hL] at oL hLl hLi
      have hset : out ++ setT s = out ++ [91] ++ [94] ++ spsT L ++ [93] := by rw [HQ.out, ← hL]; simp [brkT, List.append_assoc]
      obtain ⟨av, cv, rfl⟩ := ownsRow_slice (show w5.ownsRow 0 62 2 v L.length (spC L) from oL)
      obtain ⟨K2, hK2⟩ : ∃ K2 : Nat → Prop, K2 = fun k => (K k ∨ k = w.heap.size) ∨ (Value.slice av L.length cv).ownBlock = some k := ⟨_, rfl⟩
      have hKK : ∀ k, K k → K2 k := fun k x => by rw [hK2]; exact .inl (.inl x)
      have hKv : ∀ k, (Value.slice av L.length cv).ownBlock = some k → K2 k := fun k x => by rw [hK2]; exact .inr x
      have HC := Lib.hid (show TxW W0 K2 b (out ++ [91] ++ [94]) w5 by rw [hK2]; have := HB.out.add f5 (P := fun k => (Value.slice av L.length cv).ownBlock = some k) (fun k e => ⟨n5 k e, oL.lt k e⟩); simpa using this)
      have FC := Lib.hid (show Fr (Txn W0 K) w w5 from FB.out.trans f5 (fun _ _ x => x.elim))
      have OL := Lib.hid oL; have HSET := Lib.hid hset; have HKK := Lib.hid hKK; have HKV := Lib.hid hKv; have HLI := Lib.hid hLi
      clear oL hset hK2 hKK hKv hL hLi n5 f5
      go_wp2_with fail
      go_loopw [57] (fun i wr => ∃ k : Nat, i = .int .i64 k ∧ k ≤ L.length ∧ TxW W0 K2 b (out ++ [91] ++ [94] ++ spsT (L.take k)) wr ∧ Fr (Txn W0 K2) w5 wr) (fun i _ => L.length - (intOf i).toNat)
      case atStart => exact ⟨0, rfl, Nat.zero_le _, by simpa [spsT] using HC.out, Fr.refl _ _⟩
      case round =>
        obtain ⟨k, rfl, hk, tx, fr⟩ := hrel
        have HR := Lib.hid tx; have FR := Lib.hid fr; clear tx fr
        by_cases hlt : k < L.length
        · have OK := OL.out.on FR.out (fun j e x => x (.inr (HKV.out j e)))
          obtain ⟨g, cap, hv, hc0, hc1⟩ := OK.get hlt
          injection hv with e1 e2 e3
          subst e1; subst e3
          have htk := spsT_take hlt
          have hbd := HLI.out L[k] (List.getElem_mem hlt)
          have hsz := spsT_le (L.take k)
          obtain ⟨⟨p, q⟩, hpq⟩ : ∃ x, L[k] = x := ⟨_, rfl⟩
          rw [hpq] at hc0 hc1 htk hbd
          simp only at hc0 hc1 hbd
          rw [List.length_take] at hsz
          obtain ⟨X, hX⟩ : ∃ X, out ++ [91] ++ [94] ++ spsT (L.take k) = X := ⟨_, rfl⟩
          have hXl : X.length ≤ 10000000010000 := by rw [← hX]; simp; omega
          have hnext : X ++ spnT (p, q) = out ++ [91] ++ [94] ++ spsT (L.take (k + 1)) := by rw [htk, ← hX]; simp [List.append_assoc]
          rw [hX] at HR
          obtain ⟨wa, hwa⟩ : ∃ wa, wa = wr.alloc (.cells #[.int .u8 (p : Int), .int .u8 (q : Int)] 62) := ⟨_, rfl⟩
          have hza : wa.heap[wr.heap.size]? = some (.cells #[.int .u8 (p : Int), .int .u8 (q : Int)] 62 (0, 0)) := by rw [hwa]; exact newAt _ _
          have k0 := cell_at (j := 0) (v := .int .u8 (p : Int)) hza rfl
          have k1 := cell_at (j := 1) (v := .int .u8 (q : Int)) hza rfl
          have TA := Lib.hid (show TxW W0 (fun k => K2 k ∨ k = wr.heap.size) b X wa by rw [hwa]; exact HR.out.alloc _ HR.out.lt)
          have FA' := Lib.hid (show Fr (Txn W0 K2) w5 wa by rw [hwa]; exact FR.out.alloc _)
          have HWa := Lib.hid hwa; have HNX := Lib.hid hnext; have HZA := Lib.hid hza
          clear e2 hpq htk hX OK hwa hnext hza
          go_wp2_with (rw [← HWa.out])
          refine (show_inside p (by omega) TA.out (by omega)).mono ?_
          rintro e wx ⟨rfl, tx, fx⟩
          have hzx := fx.heap HZA.out (fun x => x (.inr (.inr rfl)))
          have k0x := cell_at (j := 0) (v := .int .u8 (p : Int)) hzx rfl
          have k1x := cell_at (j := 1) (v := .int .u8 (q : Int)) hzx rfl
          have TX := Lib.hid tx; have FX := Lib.hid (FA'.out.trans fx (fun _ _ x => Txn.less (fun _ => .inl) x)); have HZX := Lib.hid hzx
          have hip := insT_le p
          clear tx fx hzx
          by_cases hpq : p = q
          · have q1 : ((p : Int) != (q : Int)) = false := by subst hpq; simp
            have hsp : spnT (p, q) = insT p := by unfold spnT; simp [hpq]
            have HSP := Lib.hid hsp
            clear hsp hpq
            go_wp2
            go_roundw
            case rel => exact ⟨k + 1, by go_num, by omega, by have := TX.out.less (K' := K2) (fun _ => .inl); rw [← HNX.out, HSP.out]; exact this, FX.out⟩
            case measure => simp [intOf]; omega
          · have q1 : ((p : Int) != (q : Int)) = true := by simp; omega
            have hsp : spnT (p, q) = insT p ++ ([45] ++ insT q) := by unfold spnT; simp [hpq]
            have HSP := Lib.hid hsp
            clear hsp hpq
            go_wp2_with fail
            refine (tx_byte 45 45 (by decide) rfl TX.out (by simp; omega)).mono ?_
            rintro e wy ⟨rfl, ty, fy⟩
            have hzy := fy.heap HZX.out (fun x => x (.inr (.inr rfl)))
            have k0y := cell_at (j := 0) (v := .int .u8 (p : Int)) hzy rfl
            have k1y := cell_at (j := 1) (v := .int .u8 (q : Int)) hzy rfl
            have TY := Lib.hid ty; have FY := Lib.hid (FX.out.trans fy (fun _ _ x => Txn.less (fun _ => .inl) x))
            clear ty fy hzy
            go_wp2_with fail
            refine (show_inside q (by omega) TY.out (by simp; omega)).mono ?_
            rintro e wz ⟨rfl, tz, fz⟩
            have TZ := Lib.hid tz; have FZ := Lib.hid (FY.out.trans fz (fun _ _ x => Txn.less (fun _ => .inl) x))
            clear tz fz
            go_wp2
            go_roundw
            case rel => exact ⟨k + 1, by go_num, by omega, by have := TZ.out.less (K' := K2) (fun _ => .inl); rw [← HNX.out, HSP.out]; simpa [List.append_assoc] using this, FZ.out⟩
            case measure => simp [intOf]; omega
        · obtain rfl : k = L.length := by omega
          have hsz := spsT_le L
          have hT := List.take_of_length_le (l := L) (Nat.le_refl _)
          rw [hT] at HR
          clear hT
          go_wp2_with fail
          refine (tx_byte 93 93 (by decide) rfl HR.out (by simp; omega)).mono ?_
          rintro e wy ⟨rfl, ty, fy⟩
          have TY := Lib.hid ty; have FY := Lib.hid (FR.out.trans fy (fun _ _ x => x))
          clear ty fy
          go_wp2
          go_end0
          refine ⟨rfl, by rw [HSET.out]; exact TY.out.less HKK.out, FC.out.trans FY.out (fun _ _ x => Txn.less HKK.out x)⟩
  · have hgI : ¬ (128 : Int) < (n : Int) := by omega
    have hg0 : ((n : Int) == 0) = true := by subst h0; rfl
    have ho : decide (128 < n ∨ n = 0) = true := by simp [h0]
    clear hg h0
    obtain ⟨s1, hN1⟩ : ∃ x, s.not = x := ⟨_, rfl⟩
    have hs1 := Lib.hid (show s1.fit from hN1 ▸ fit_not _)
    go_wp2_with fail
    cases he : endB (spl s1.has 256) with
    | true =>
      obtain ⟨s2, hN2⟩ : ∃ x, s1.not = x := ⟨_, rfl⟩
      have HS2 := Lib.hid (show s2.fit from hN2 ▸ fit_not _)
      have HQ := Lib.hid (show setT s = brkT false s2 by rw [HST.out true ho _ rfl true (by simpa [hN1] using he)]; simp [hN1, hN2])
      clear HST
      refine (not_lit s w4).mono ?_
      rw [hN1]
      rintro e w5 ⟨rfl, f5⟩
      have hb5 := f5.heap HB4.out (fun x => x)
      have r5 := rule4 hb5
      obtain ⟨w6, hw6⟩ : ∃ w6, w6 = ((((w5.setCell ⟨w.heap.size, 0, none⟩ (.int .u64 s1.a)).setCell ⟨w.heap.size, 1, none⟩ (.int .u64 s1.b)).setCell ⟨w.heap.size, 2, none⟩ (.int .u64 s1.c)).setCell ⟨w.heap.size, 3, none⟩ (.int .u64 s1.d)) := ⟨_, rfl⟩
      have HW6 := Lib.hid hw6
      have HB6 := Lib.hid (show w6.heap[w.heap.size]? = some (.cells #[.int .u64 s1.a, .int .u64 s1.b, .int .u64 s1.c, .int .u64 s1.d] 27 (0, 0)) by rw [hw6]; exact setFour_heap hb5 _ _ _ _)
      have H6 := Lib.hid (show TxW W0 (fun k => K k ∨ k = w.heap.size) b (out ++ [91]) w6 by rw [hw6]; exact (H4.out.quiet f5).on (setFour_one w5 w.heap.size _ _ _ _) (fun k x => ⟨.inr x, by rw [x]; exact HW0.out⟩))
      have F6 := Lib.hid (show Fr (Txn W0 K) w w6 by rw [hw6]; exact setFour_frS (F4.out.trans f5 (fun _ _ x => x.elim)) (Nat.le_refl _) _ _ _ _)
      have r6 := rule4 HB6.out
      clear hw6 f5 hb5
      go_wp2_with (rw [← HW6.out])
      refine (spans_any s1 w6 hs1.out).mono ?_
      rintro e w7 ⟨v7, rfl, o7, f7, n7⟩
      go_wp2_with fail
      refine (ended_any (spl s1.has 256) v7 w7 (spl_len _ _) (fun x hx => by have := (spl_good s1.has 256).in_ x hx; omega) o7).mono ?_
      rintro e w8 ⟨rfl, f8⟩
      rw [he]
      have F8 := Lib.hid (F6.out.trans (f7.trans' f8) (fun _ _ x => x.elim)); have H8 := Lib.hid (H6.out.quiet (f7.trans' f8)); have HB8 := Lib.hid ((f7.trans' f8).heap HB6.out (fun x => x))
      have r8 := rule4 HB8.out
      clear f7 f8 n7 o7
      go_wp2_with fail
      refine (not_lit s1 w8).mono ?_
      rw [hN2]
      rintro e w9 ⟨rfl, f9⟩
      have hb9 := f9.heap HB8.out (fun x => x)
      have r9 := rule4 hb9
      obtain ⟨wA, hwA⟩ : ∃ wA, wA = ((((w9.setCell ⟨w.heap.size, 0, none⟩ (.int .u64 s2.a)).setCell ⟨w.heap.size, 1, none⟩ (.int .u64 s2.b)).setCell ⟨w.heap.size, 2, none⟩ (.int .u64 s2.c)).setCell ⟨w.heap.size, 3, none⟩ (.int .u64 s2.d)) := ⟨_, rfl⟩
      have HWA := Lib.hid hwA
      have HBA := Lib.hid (show wA.heap[w.heap.size]? = some (.cells #[.int .u64 s2.a, .int .u64 s2.b, .int .u64 s2.c, .int .u64 s2.d] 27 (0, 0)) by rw [hwA]; exact setFour_heap hb9 _ _ _ _)
      have HA := Lib.hid (show TxW W0 (fun k => K k ∨ k = w.heap.size) b (out ++ [91]) wA by rw [hwA]; exact (H8.out.quiet f9).on (setFour_one w9 w.heap.size _ _ _ _) (fun k x => ⟨.inr x, by rw [x]; exact HW0.out⟩))
      have FA := Lib.hid (show Fr (Txn W0 K) w wA by rw [hwA]; exact setFour_frS (F8.out.trans f9 (fun _ _ x => x.elim)) (Nat.le_refl _) _ _ _ _)
      have rA := rule4 HBA.out
      clear hwA f9 hb9
      go_wp2_with (rw [← HWA.out])
      have HB := HA; have FB := FA; have HBB := HBA
      have rB := rA
      obtain ⟨wB, hwB⟩ : ∃ wB, wA = wB := ⟨_, rfl⟩
      rw [hwB] at HB FB HBB rB ⊢
      clear hwB
      refine (spans_any s2 wB HS2.out).mono ?_
      rintro e w5 ⟨v, rfl, oL, f5, n5⟩
      obtain ⟨L, hL⟩ : ∃ L, spl s2.has 256 = L := ⟨_, rfl⟩
      have hLl := spl_len s2.has 256
      have hLi := (spl_good s2.has 256).in_
      rw [hL] at oL hLl hLi
      have hset : out ++ setT s = out ++ [91] ++ [] ++ spsT L ++ [93] := by rw [HQ.out, ← hL]; simp [brkT, List.append_assoc]
      obtain ⟨av, cv, rfl⟩ := ownsRow_slice (show w5.ownsRow 0 62 2 v L.length (spC L) from oL)
      obtain ⟨K2, hK2⟩ : ∃ K2 : Nat → Prop, K2 = fun k => (K k ∨ k = w.heap.size) ∨ (Value.slice av L.length cv).ownBlock = some k := ⟨_, rfl⟩
      have hKK : ∀ k, K k → K2 k := fun k x => by rw [hK2]; exact .inl (.inl x)
      have hKv : ∀ k, (Value.slice av L.length cv).ownBlock = some k → K2 k := fun k x => by rw [hK2]; exact .inr x
      have HC := Lib.hid (show TxW W0 K2 b (out ++ [91] ++ []) w5 by rw [hK2]; have := HB.out.add f5 (P := fun k => (Value.slice av L.length cv).ownBlock = some k) (fun k e => ⟨n5 k e, oL.lt k e⟩); simpa using this)
      have FC := Lib.hid (show Fr (Txn W0 K) w w5 from FB.out.trans f5 (fun _ _ x => x.elim))
      have OL := Lib.hid oL; have HSET := Lib.hid hset; have HKK := Lib.hid hKK; have HKV := Lib.hid hKv; have HLI := Lib.hid hLi
      clear oL hset hK2 hKK hKv hL hLi n5 f5
      go_wp2_with fail
      go_loopw [57] (fun i wr => ∃ k : Nat, i = .int .i64 k ∧ k ≤ L.length ∧ TxW W0 K2 b (out ++ [91] ++ [] ++ spsT (L.take k)) wr ∧ Fr (Txn W0 K2) w5 wr) (fun i _ => L.length - (intOf i).toNat)
      case atStart => exact ⟨0, rfl, Nat.zero_le _, by simpa [spsT] using HC.out, Fr.refl _ _⟩
      case round =>
        obtain ⟨k, rfl, hk, tx, fr⟩ := hrel
        have HR := Lib.hid tx; have FR := Lib.hid fr; clear tx fr
        by_cases hlt : k < L.length
        · have OK := OL.out.on FR.out (fun j e x => x (.inr (HKV.out j e)))
          obtain ⟨g, cap, hv, hc0, hc1⟩ := OK.get hlt
          injection hv with e1 e2 e3
          subst e1; subst e3
          have htk := spsT_take hlt
          have hbd := HLI.out L[k] (List.getElem_mem hlt)
          have hsz := spsT_le (L.take k)
          obtain ⟨⟨p, q⟩, hpq⟩ : ∃ x, L[k] = x := ⟨_, rfl⟩
          rw [hpq] at hc0 hc1 htk hbd
          simp only at hc0 hc1 hbd
          rw [List.length_take] at hsz
          obtain ⟨X, hX⟩ : ∃ X, out ++ [91] ++ [] ++ spsT (L.take k) = X := ⟨_, rfl⟩
          have hXl : X.length ≤ 10000000010000 := by rw [← hX]; simp; omega
          have hnext : X ++ spnT (p, q) = out ++ [91] ++ [] ++ spsT (L.take (k + 1)) := by rw [htk, ← hX]; simp [List.append_assoc]
          rw [hX] at HR
          obtain ⟨wa, hwa⟩ : ∃ wa, wa = wr.alloc (.cells #[.int .u8 (p : Int), .int .u8 (q : Int)] 62) := ⟨_, rfl⟩
          have hza : wa.heap[wr.heap.size]? = some (.cells #[.int .u8 (p : Int), .int .u8 (q : Int)] 62 (0, 0)) := by rw [hwa]; exact newAt _ _
          have k0 := cell_at (j := 0) (v := .int .u8 (p : Int)) hza rfl
          have k1 := cell_at (j := 1) (v := .int .u8 (q : Int)) hza rfl
          have TA := Lib.hid (show TxW W0 (fun k => K2 k ∨ k = wr.heap.size) b X wa by rw [hwa]; exact HR.out.alloc _ HR.out.lt)
          have FA' := Lib.hid (show Fr (Txn W0 K2) w5 wa by rw [hwa]; exact FR.out.alloc _)
          have HWa := Lib.hid hwa; have HNX := Lib.hid hnext; have HZA := Lib.hid hza
          clear e2 hpq htk hX OK hwa hnext hza
          go_wp2_with (rw [← HWa.out])
          refine (show_inside p (by omega) TA.out (by omega)).mono ?_
          rintro e wx ⟨rfl, tx, fx⟩
          have hzx := fx.heap HZA.out (fun x => x (.inr (.inr rfl)))
          have k0x := cell_at (j := 0) (v := .int .u8 (p : Int)) hzx rfl
          have k1x := cell_at (j := 1) (v := .int .u8 (q : Int)) hzx rfl
          have TX := Lib.hid tx; have FX := Lib.hid (FA'.out.trans fx (fun _ _ x => Txn.less (fun _ => .inl) x)); have HZX := Lib.hid hzx
          have hip := insT_le p
          clear tx fx hzx
          by_cases hpq : p = q
          · have q1 : ((p : Int) != (q : Int)) = false := by subst hpq; simp
            have hsp : spnT (p, q) = insT p := by unfold spnT; simp [hpq]
            have HSP := Lib.hid hsp
            clear hsp hpq
            go_wp2
            go_roundw
            case rel => exact ⟨k + 1, by go_num, by omega, by have := TX.out.less (K' := K2) (fun _ => .inl); rw [← HNX.out, HSP.out]; exact this, FX.out⟩
            case measure => simp [intOf]; omega
          · have q1 : ((p : Int) != (q : Int)) = true := by simp; omega
            have hsp : spnT (p, q) = insT p ++ ([45] ++ insT q) := by unfold spnT; simp [hpq]
            have HSP := Lib.hid hsp
            clear hsp hpq
            go_wp2_with fail
            refine (tx_byte 45 45 (by decide) rfl TX.out (by simp; omega)).mono ?_
            rintro e wy ⟨rfl, ty, fy⟩
            have hzy := fy.heap HZX.out (fun x => x (.inr (.inr rfl)))
            have k0y := cell_at (j := 0) (v := .int .u8 (p : Int)) hzy rfl
            have k1y := cell_at (j := 1) (v := .int .u8 (q : Int)) hzy rfl
            have TY := Lib.hid ty; have FY := Lib.hid (FX.out.trans fy (fun _ _ x => Txn.less (fun _ => .inl) x))
            clear ty fy hzy
            go_wp2_with fail
            refine (show_inside q (by omega) TY.out (by simp; omega)).mono ?_
            rintro e wz ⟨rfl, tz, fz⟩
            have TZ := Lib.hid tz; have FZ := Lib.hid (FY.out.trans fz (fun _ _ x => Txn.less (fun _ => .inl) x))
            clear tz fz
            go_wp2
            go_roundw
            case rel => exact ⟨k + 1, by go_num, by omega, by have := TZ.out.less (K' := K2) (fun _ => .inl); rw [← HNX.out, HSP.out]; simpa [List.append_assoc] using this, FZ.out⟩
            case measure => simp [intOf]; omega
        · obtain rfl : k = L.length := by omega
          have hsz := spsT_le L
          have hT := List.take_of_length_le (l := L) (Nat.le_refl _)
          rw [hT] at HR
          clear hT
          go_wp2_with fail
          refine (tx_byte 93 93 (by decide) rfl HR.out (by simp; omega)).mono ?_
          rintro e wy ⟨rfl, ty, fy⟩
          have TY := Lib.hid ty; have FY := Lib.hid (FR.out.trans fy (fun _ _ x => x))
          clear ty fy
          go_wp2
          go_end0
          refine ⟨rfl, by rw [HSET.out]; exact TY.out.less HKK.out, FC.out.trans FY.out (fun _ _ x => Txn.less HKK.out x)⟩
    | false =>
      have HQ := Lib.hid (show setT s = brkT true s1 by rw [HST.out true ho _ rfl false (by simpa [hN1] using he)]; simp [hN1])
      clear HST
      refine (not_lit s w4).mono ?_
      rw [hN1]
      rintro e w5 ⟨rfl, f5⟩
      have hb5 := f5.heap HB4.out (fun x => x)
      have r5 := rule4 hb5
      obtain ⟨w6, hw6⟩ : ∃ w6, w6 = ((((w5.setCell ⟨w.heap.size, 0, none⟩ (.int .u64 s1.a)).setCell ⟨w.heap.size, 1, none⟩ (.int .u64 s1.b)).setCell ⟨w.heap.size, 2, none⟩ (.int .u64 s1.c)).setCell ⟨w.heap.size, 3, none⟩ (.int .u64 s1.d)) := ⟨_, rfl⟩
      have HW6 := Lib.hid hw6
      have HB6 := Lib.hid (show w6.heap[w.heap.size]? = some (.cells #[.int .u64 s1.a, .int .u64 s1.b, .int .u64 s1.c, .int .u64 s1.d] 27 (0, 0)) by rw [hw6]; exact setFour_heap hb5 _ _ _ _)
      have H6 := Lib.hid (show TxW W0 (fun k => K k ∨ k = w.heap.size) b (out ++ [91]) w6 by rw [hw6]; exact (H4.out.quiet f5).on (setFour_one w5 w.heap.size _ _ _ _) (fun k x => ⟨.inr x, by rw [x]; exact HW0.out⟩))
      have F6 := Lib.hid (show Fr (Txn W0 K) w w6 by rw [hw6]; exact setFour_frS (F4.out.trans f5 (fun _ _ x => x.elim)) (Nat.le_refl _) _ _ _ _)
      have r6 := rule4 HB6.out
      clear hw6 f5 hb5
      go_wp2_with (rw [← HW6.out])
      refine (spans_any s1 w6 hs1.out).mono ?_
      rintro e w7 ⟨v7, rfl, o7, f7, n7⟩
      go_wp2_with fail
      refine (ended_any (spl s1.has 256) v7 w7 (spl_len _ _) (fun x hx => by have := (spl_good s1.has 256).in_ x hx; omega) o7).mono ?_
      rintro e w8 ⟨rfl, f8⟩
      rw [he]
      have F8 := Lib.hid (F6.out.trans (f7.trans' f8) (fun _ _ x => x.elim)); have H8 := Lib.hid (H6.out.quiet (f7.trans' f8)); have HB8 := Lib.hid ((f7.trans' f8).heap HB6.out (fun x => x))
      have r8 := rule4 HB8.out
      clear f7 f8 n7 o7
      go_wp2_with fail
      have HBA := HB8; have HA := H8; have FA := F8
      have rA := r8
      obtain ⟨wA, hwA⟩ : ∃ wA, w8 = wA := ⟨_, rfl⟩
      rw [hwA] at HBA HA FA rA ⊢
      clear hwA
      refine (tx_byte 94 94 (by decide) rfl HA.out (by simp; omega)).mono ?_
      rintro e wB ⟨rfl, hB, fB⟩
      have HB := Lib.hid hB; have FB := Lib.hid (FA.out.trans fB (fun _ _ x => Txn.less (fun _ => .inl) x)); have HBB := Lib.hid (fB.heap HBA.out (fun x => x (.inr (.inr rfl))))
      have rB := rule4 HBB.out
      clear hB fB
      go_wp2_with fail
      refine (spans_any s1 wB hs1.out).mono ?_
      rintro e w5 ⟨v, rfl, oL, f5, n5⟩
      obtain ⟨L, hL⟩ : ∃ L, spl s1.has 256 = L := ⟨_, rfl⟩
      have hLl := spl_len s1.has 256
      have hLi := (spl_good s1.has 256).in_
      rw [hL] at oL hLl hLi
      have hset : out ++ setT s = out ++ [91] ++ [94] ++ spsT L ++ [93] := by rw [HQ.out, ← hL]; simp [brkT, List.append_assoc]
      obtain ⟨av, cv, rfl⟩ := ownsRow_slice (show w5.ownsRow 0 62 2 v L.length (spC L) from oL)
      obtain ⟨K2, hK2⟩ : ∃ K2 : Nat → Prop, K2 = fun k => (K k ∨ k = w.heap.size) ∨ (Value.slice av L.length cv).ownBlock = some k := ⟨_, rfl⟩
      have hKK : ∀ k, K k → K2 k := fun k x => by rw [hK2]; exact .inl (.inl x)
      have hKv : ∀ k, (Value.slice av L.length cv).ownBlock = some k → K2 k := fun k x => by rw [hK2]; exact .inr x
      have HC := Lib.hid (show TxW W0 K2 b (out ++ [91] ++ [94]) w5 by rw [hK2]; have := HB.out.add f5 (P := fun k => (Value.slice av L.length cv).ownBlock = some k) (fun k e => ⟨n5 k e, oL.lt k e⟩); simpa using this)
      have FC := Lib.hid (show Fr (Txn W0 K) w w5 from FB.out.trans f5 (fun _ _ x => x.elim))
      have OL := Lib.hid oL; have HSET := Lib.hid hset; have HKK := Lib.hid hKK; have HKV := Lib.hid hKv; have HLI := Lib.hid hLi
      clear oL hset hK2 hKK hKv hL hLi n5 f5
      go_wp2_with fail
      go_loopw [57] (fun i wr => ∃ k : Nat, i = .int .i64 k ∧ k ≤ L.length ∧ TxW W0 K2 b (out ++ [91] ++ [94] ++ spsT (L.take k)) wr ∧ Fr (Txn W0 K2) w5 wr) (fun i _ => L.length - (intOf i).toNat)
      case atStart => exact ⟨0, rfl, Nat.zero_le _, by simpa [spsT] using HC.out, Fr.refl _ _⟩
      case round =>
        obtain ⟨k, rfl, hk, tx, fr⟩ := hrel
        have HR := Lib.hid tx; have FR := Lib.hid fr; clear tx fr
        by_cases hlt : k < L.length
        · have OK := OL.out.on FR.out (fun j e x => x (.inr (HKV.out j e)))
          obtain ⟨g, cap, hv, hc0, hc1⟩ := OK.get hlt
          injection hv with e1 e2 e3
          subst e1; subst e3
          have htk := spsT_take hlt
          have hbd := HLI.out L[k] (List.getElem_mem hlt)
          have hsz := spsT_le (L.take k)
          obtain ⟨⟨p, q⟩, hpq⟩ : ∃ x, L[k] = x := ⟨_, rfl⟩
          rw [hpq] at hc0 hc1 htk hbd
          simp only at hc0 hc1 hbd
          rw [List.length_take] at hsz
          obtain ⟨X, hX⟩ : ∃ X, out ++ [91] ++ [94] ++ spsT (L.take k) = X := ⟨_, rfl⟩
          have hXl : X.length ≤ 10000000010000 := by rw [← hX]; simp; omega
          have hnext : X ++ spnT (p, q) = out ++ [91] ++ [94] ++ spsT (L.take (k + 1)) := by rw [htk, ← hX]; simp [List.append_assoc]
          rw [hX] at HR
          obtain ⟨wa, hwa⟩ : ∃ wa, wa = wr.alloc (.cells #[.int .u8 (p : Int), .int .u8 (q : Int)] 62) := ⟨_, rfl⟩
          have hza : wa.heap[wr.heap.size]? = some (.cells #[.int .u8 (p : Int), .int .u8 (q : Int)] 62 (0, 0)) := by rw [hwa]; exact newAt _ _
          have k0 := cell_at (j := 0) (v := .int .u8 (p : Int)) hza rfl
          have k1 := cell_at (j := 1) (v := .int .u8 (q : Int)) hza rfl
          have TA := Lib.hid (show TxW W0 (fun k => K2 k ∨ k = wr.heap.size) b X wa by rw [hwa]; exact HR.out.alloc _ HR.out.lt)
          have FA' := Lib.hid (show Fr (Txn W0 K2) w5 wa by rw [hwa]; exact FR.out.alloc _)
          have HWa := Lib.hid hwa; have HNX := Lib.hid hnext; have HZA := Lib.hid hza
          clear e2 hpq htk hX OK hwa hnext hza
          go_wp2_with (rw [← HWa.out])
          refine (show_inside p (by omega) TA.out (by omega)).mono ?_
          rintro e wx ⟨rfl, tx, fx⟩
          have hzx := fx.heap HZA.out (fun x => x (.inr (.inr rfl)))
          have k0x := cell_at (j := 0) (v := .int .u8 (p : Int)) hzx rfl
          have k1x := cell_at (j := 1) (v := .int .u8 (q : Int)) hzx rfl
          have TX := Lib.hid tx; have FX := Lib.hid (FA'.out.trans fx (fun _ _ x => Txn.less (fun _ => .inl) x)); have HZX := Lib.hid hzx
          have hip := insT_le p
          clear tx fx hzx
          by_cases hpq : p = q
          · have q1 : ((p : Int) != (q : Int)) = false := by subst hpq; simp
            have hsp : spnT (p, q) = insT p := by unfold spnT; simp [hpq]
            have HSP := Lib.hid hsp
            clear hsp hpq
            go_wp2
            go_roundw
            case rel => exact ⟨k + 1, by go_num, by omega, by have := TX.out.less (K' := K2) (fun _ => .inl); rw [← HNX.out, HSP.out]; exact this, FX.out⟩
            case measure => simp [intOf]; omega
          · have q1 : ((p : Int) != (q : Int)) = true := by simp; omega
            have hsp : spnT (p, q) = insT p ++ ([45] ++ insT q) := by unfold spnT; simp [hpq]
            have HSP := Lib.hid hsp
            clear hsp hpq
            go_wp2_with fail
            refine (tx_byte 45 45 (by decide) rfl TX.out (by simp; omega)).mono ?_
            rintro e wy ⟨rfl, ty, fy⟩
            have hzy := fy.heap HZX.out (fun x => x (.inr (.inr rfl)))
            have k0y := cell_at (j := 0) (v := .int .u8 (p : Int)) hzy rfl
            have k1y := cell_at (j := 1) (v := .int .u8 (q : Int)) hzy rfl
            have TY := Lib.hid ty; have FY := Lib.hid (FX.out.trans fy (fun _ _ x => Txn.less (fun _ => .inl) x))
            clear ty fy hzy
            go_wp2_with fail
            refine (show_inside q (by omega) TY.out (by simp; omega)).mono ?_
            rintro e wz ⟨rfl, tz, fz⟩
            have TZ := Lib.hid tz; have FZ := Lib.hid (FY.out.trans fz (fun _ _ x => Txn.less (fun _ => .inl) x))
            clear tz fz
            go_wp2
            go_roundw
            case rel => exact ⟨k + 1, by go_num, by omega, by have := TZ.out.less (K' := K2) (fun _ => .inl); rw [← HNX.out, HSP.out]; simpa [List.append_assoc] using this, FZ.out⟩
            case measure => simp [intOf]; omega
        · obtain rfl : k = L.length := by omega
          have hsz := spsT_le L
          have hT := List.take_of_length_le (l := L) (Nat.le_refl _)
          rw [hT] at HR
          clear hT
          go_wp2_with fail
          refine (tx_byte 93 93 (by decide) rfl HR.out (by simp; omega)).mono ?_
          rintro e wy ⟨rfl, ty, fy⟩
          have TY := Lib.hid ty; have FY := Lib.hid (FR.out.trans fy (fun _ _ x => x))
          clear ty fy
          go_wp2
          go_end0
          refine ⟨rfl, by rw [HSET.out]; exact TY.out.less HKK.out, FC.out.trans FY.out (fun _ _ x => Txn.less HKK.out x)⟩
  · have hgI : ¬ (128 : Int) < (n : Int) := by omega
    have hgD : decide ((128 : Int) < (n : Int)) = false := by simp; omega
    have hg0 : ((n : Int) == 0) = false := by simp; omega
    have ho : decide (128 < n ∨ n = 0) = false := by simp; omega
    clear hg h0
    go_wp2_with fail
    cases he : endB (spl s.has 256) with
    | true =>
      obtain ⟨s2, hN2⟩ : ∃ x, s.not = x := ⟨_, rfl⟩
      have HS2 := Lib.hid (show s2.fit from hN2 ▸ fit_not _)
      have HQ := Lib.hid (show setT s = brkT true s2 by rw [HST.out false ho _ rfl true (by simpa using he)]; simp [hN2])
      clear HST
      have HB6 := HB4; have H6 := H4; have F6 := F4
      have r6 := r4
      obtain ⟨w6, hw6⟩ : ∃ w6, w4 = w6 := ⟨_, rfl⟩
      rw [hw6] at HB6 H6 F6 r6 ⊢
      clear hw6
      refine (spans_any s w6 HS.out).mono ?_
      rintro e w7 ⟨v7, rfl, o7, f7, n7⟩
      go_wp2_with fail
      refine (ended_any (spl s.has 256) v7 w7 (spl_len _ _) (fun x hx => by have := (spl_good s.has 256).in_ x hx; omega) o7).mono ?_
      rintro e w8 ⟨rfl, f8⟩
      rw [he]
      have F8 := Lib.hid (F6.out.trans (f7.trans' f8) (fun _ _ x => x.elim)); have H8 := Lib.hid (H6.out.quiet (f7.trans' f8)); have HB8 := Lib.hid ((f7.trans' f8).heap HB6.out (fun x => x))
      have r8 := rule4 HB8.out
      clear f7 f8 n7 o7
      go_wp2_with fail
      refine (not_lit s w8).mono ?_
      rw [hN2]
      rintro e w9 ⟨rfl, f9⟩
      have hb9 := f9.heap HB8.out (fun x => x)
      have r9 := rule4 hb9
      obtain ⟨wA, hwA⟩ : ∃ wA, wA = ((((w9.setCell ⟨w.heap.size, 0, none⟩ (.int .u64 s2.a)).setCell ⟨w.heap.size, 1, none⟩ (.int .u64 s2.b)).setCell ⟨w.heap.size, 2, none⟩ (.int .u64 s2.c)).setCell ⟨w.heap.size, 3, none⟩ (.int .u64 s2.d)) := ⟨_, rfl⟩
      have HWA := Lib.hid hwA
      have HBA := Lib.hid (show wA.heap[w.heap.size]? = some (.cells #[.int .u64 s2.a, .int .u64 s2.b, .int .u64 s2.c, .int .u64 s2.d] 27 (0, 0)) by rw [hwA]; exact setFour_heap hb9 _ _ _ _)
      have HA := Lib.hid (show TxW W0 (fun k => K k ∨ k = w.heap.size) b (out ++ [91]) wA by rw [hwA]; exact (H8.out.quiet f9).on (setFour_one w9 w.heap.size _ _ _ _) (fun k x => ⟨.inr x, by rw [x]; exact HW0.out⟩))
      have FA := Lib.hid (show Fr (Txn W0 K) w wA by rw [hwA]; exact setFour_frS (F8.out.trans f9 (fun _ _ x => x.elim)) (Nat.le_refl _) _ _ _ _)
      have rA := rule4 HBA.out
      clear hwA f9 hb9
      go_wp2_with (rw [← HWA.out])
      refine (tx_byte 94 94 (by decide) rfl HA.out (by simp; omega)).mono ?_
      rintro e wB ⟨rfl, hB, fB⟩
      have HB := Lib.hid hB; have FB := Lib.hid (FA.out.trans fB (fun _ _ x => Txn.less (fun _ => .inl) x)); have HBB := Lib.hid (fB.heap HBA.out (fun x => x (.inr (.inr rfl))))
      have rB := rule4 HBB.out
      clear hB fB
      go_wp2_with fail
      refine (spans_any s2 wB HS2.out).mono ?_
      rintro e w5 ⟨v, rfl, oL, f5, n5⟩
      obtain ⟨L, hL⟩ : ∃ L, spl s2.has 256 = L := ⟨_, rfl⟩
      have hLl := spl_len s2.has 256
      have hLi := (spl_good s2.has 256).in_
      rw [hL] at oL hLl hLi
      have hset : out ++ setT s = out ++ [91] ++ [94] ++ spsT L ++ [93] := by rw [HQ.out, ← hL]; simp [brkT, List.append_assoc]
      obtain ⟨av, cv, rfl⟩ := ownsRow_slice (show w5.ownsRow 0 62 2 v L.length (spC L) from oL)
      obtain ⟨K2, hK2⟩ : ∃ K2 : Nat → Prop, K2 = fun k => (K k ∨ k = w.heap.size) ∨ (Value.slice av L.length cv).ownBlock = some k := ⟨_, rfl⟩
      have hKK : ∀ k, K k → K2 k := fun k x => by rw [hK2]; exact .inl (.inl x)
      have hKv : ∀ k, (Value.slice av L.length cv).ownBlock = some k → K2 k := fun k x => by rw [hK2]; exact .inr x
      have HC := Lib.hid (show TxW W0 K2 b (out ++ [91] ++ [94]) w5 by rw [hK2]; have := HB.out.add f5 (P := fun k => (Value.slice av L.length cv).ownBlock = some k) (fun k e => ⟨n5 k e, oL.lt k e⟩); simpa using this)
      have FC := Lib.hid (show Fr (Txn W0 K) w w5 from FB.out.trans f5 (fun _ _ x => x.elim))
      have OL := Lib.hid oL; have HSET := Lib.hid hset; have HKK := Lib.hid hKK; have HKV := Lib.hid hKv; have HLI := Lib.hid hLi
      clear oL hset hK2 hKK hKv hL hLi n5 f5
      go_wp2_with fail
      go_loopw [57] (fun i wr => ∃ k : Nat, i = .int .i64 k ∧ k ≤ L.length ∧ TxW W0 K2 b (out ++ [91] ++ [94] ++ spsT (L.take k)) wr ∧ Fr (Txn W0 K2) w5 wr) (fun i _ => L.length - (intOf i).toNat)
      case atStart => exact ⟨0, rfl, Nat.zero_le _, by simpa [spsT] using HC.out, Fr.refl _ _⟩
      case round =>
        obtain ⟨k, rfl, hk, tx, fr⟩ := hrel
        have HR := Lib.hid tx; have FR := Lib.hid fr; clear tx fr
        by_cases hlt : k < L.length
        · have OK := OL.out.on FR.out (fun j e x => x (.inr (HKV.out j e)))
          obtain ⟨g, cap, hv, hc0, hc1⟩ := OK.get hlt
          injection hv with e1 e2 e3
          subst e1; subst e3
          have htk := spsT_take hlt
          have hbd := HLI.out L[k] (List.getElem_mem hlt)
          have hsz := spsT_le (L.take k)
          obtain ⟨⟨p, q⟩, hpq⟩ : ∃ x, L[k] = x := ⟨_, rfl⟩
          rw [hpq] at hc0 hc1 htk hbd
          simp only at hc0 hc1 hbd
          rw [List.length_take] at hsz
          obtain ⟨X, hX⟩ : ∃ X, out ++ [91] ++ [94] ++ spsT (L.take k) = X := ⟨_, rfl⟩
          have hXl : X.length ≤ 10000000010000 := by rw [← hX]; simp; omega
          have hnext : X ++ spnT (p, q) = out ++ [91] ++ [94] ++ spsT (L.take (k + 1)) := by rw [htk, ← hX]; simp [List.append_assoc]
          rw [hX] at HR
          obtain ⟨wa, hwa⟩ : ∃ wa, wa = wr.alloc (.cells #[.int .u8 (p : Int), .int .u8 (q : Int)] 62) := ⟨_, rfl⟩
          have hza : wa.heap[wr.heap.size]? = some (.cells #[.int .u8 (p : Int), .int .u8 (q : Int)] 62 (0, 0)) := by rw [hwa]; exact newAt _ _
          have k0 := cell_at (j := 0) (v := .int .u8 (p : Int)) hza rfl
          have k1 := cell_at (j := 1) (v := .int .u8 (q : Int)) hza rfl
          have TA := Lib.hid (show TxW W0 (fun k => K2 k ∨ k = wr.heap.size) b X wa by rw [hwa]; exact HR.out.alloc _ HR.out.lt)
          have FA' := Lib.hid (show Fr (Txn W0 K2) w5 wa by rw [hwa]; exact FR.out.alloc _)
          have HWa := Lib.hid hwa; have HNX := Lib.hid hnext; have HZA := Lib.hid hza
          clear e2 hpq htk hX OK hwa hnext hza
          go_wp2_with (rw [← HWa.out])
          refine (show_inside p (by omega) TA.out (by omega)).mono ?_
          rintro e wx ⟨rfl, tx, fx⟩
          have hzx := fx.heap HZA.out (fun x => x (.inr (.inr rfl)))
          have k0x := cell_at (j := 0) (v := .int .u8 (p : Int)) hzx rfl
          have k1x := cell_at (j := 1) (v := .int .u8 (q : Int)) hzx rfl
          have TX := Lib.hid tx; have FX := Lib.hid (FA'.out.trans fx (fun _ _ x => Txn.less (fun _ => .inl) x)); have HZX := Lib.hid hzx
          have hip := insT_le p
          clear tx fx hzx
          by_cases hpq : p = q
          · have q1 : ((p : Int) != (q : Int)) = false := by subst hpq; simp
            have hsp : spnT (p, q) = insT p := by unfold spnT; simp [hpq]
            have HSP := Lib.hid hsp
            clear hsp hpq
            go_wp2
            go_roundw
            case rel => exact ⟨k + 1, by go_num, by omega, by have := TX.out.less (K' := K2) (fun _ => .inl); rw [← HNX.out, HSP.out]; exact this, FX.out⟩
            case measure => simp [intOf]; omega
          · have q1 : ((p : Int) != (q : Int)) = true := by simp; omega
            have hsp : spnT (p, q) = insT p ++ ([45] ++ insT q) := by unfold spnT; simp [hpq]
            have HSP := Lib.hid hsp
            clear hsp hpq
            go_wp2_with fail
            refine (tx_byte 45 45 (by decide) rfl TX.out (by simp; omega)).mono ?_
            rintro e wy ⟨rfl, ty, fy⟩
            have hzy := fy.heap HZX.out (fun x => x (.inr (.inr rfl)))
            have k0y := cell_at (j := 0) (v := .int .u8 (p : Int)) hzy rfl
            have k1y := cell_at (j := 1) (v := .int .u8 (q : Int)) hzy rfl
            have TY := Lib.hid ty; have FY := Lib.hid (FX.out.trans fy (fun _ _ x => Txn.less (fun _ => .inl) x))
            clear ty fy hzy
            go_wp2_with fail
            refine (show_inside q (by omega) TY.out (by simp; omega)).mono ?_
            rintro e wz ⟨rfl, tz, fz⟩
            have TZ := Lib.hid tz; have FZ := Lib.hid (FY.out.trans fz (fun _ _ x => Txn.less (fun _ => .inl) x))
            clear tz fz
            go_wp2
            go_roundw
            case rel => exact ⟨k + 1, by go_num, by omega, by have := TZ.out.less (K' := K2) (fun _ => .inl); rw [← HNX.out, HSP.out]; simpa [List.append_assoc] using this, FZ.out⟩
            case measure => simp [intOf]; omega
        · obtain rfl : k = L.length := by omega
          have hsz := spsT_le L
          have hT := List.take_of_length_le (l := L) (Nat.le_refl _)
          rw [hT] at HR
          clear hT
          go_wp2_with fail
          refine (tx_byte 93 93 (by decide) rfl HR.out (by simp; omega)).mono ?_
          rintro e wy ⟨rfl, ty, fy⟩
          have TY := Lib.hid ty; have FY := Lib.hid (FR.out.trans fy (fun _ _ x => x))
          clear ty fy
          go_wp2
          go_end0
          refine ⟨rfl, by rw [HSET.out]; exact TY.out.less HKK.out, FC.out.trans FY.out (fun _ _ x => Txn.less HKK.out x)⟩
    | false =>
      have HQ := Lib.hid (show setT s = brkT false s by rw [HST.out false ho _ rfl false (by simpa using he)]; simp [])
      clear HST
      have HB6 := HB4; have H6 := H4; have F6 := F4
      have r6 := r4
      obtain ⟨w6, hw6⟩ : ∃ w6, w4 = w6 := ⟨_, rfl⟩
      rw [hw6] at HB6 H6 F6 r6 ⊢
      clear hw6
      refine (spans_any s w6 HS.out).mono ?_
      rintro e w7 ⟨v7, rfl, o7, f7, n7⟩
      go_wp2_with fail
      refine (ended_any (spl s.has 256) v7 w7 (spl_len _ _) (fun x hx => by have := (spl_good s.has 256).in_ x hx; omega) o7).mono ?_
      rintro e w8 ⟨rfl, f8⟩
      rw [he]
      have F8 := Lib.hid (F6.out.trans (f7.trans' f8) (fun _ _ x => x.elim)); have H8 := Lib.hid (H6.out.quiet (f7.trans' f8)); have HB8 := Lib.hid ((f7.trans' f8).heap HB6.out (fun x => x))
      have r8 := rule4 HB8.out
      clear f7 f8 n7 o7
      go_wp2_with fail
      have HBA := HB8; have HA := H8; have FA := F8
      have rA := r8
      obtain ⟨wA, hwA⟩ : ∃ wA, w8 = wA := ⟨_, rfl⟩
      rw [hwA] at HBA HA FA rA ⊢
      clear hwA
      have HB := HA; have FB := FA; have HBB := HBA
      have rB := rA
      obtain ⟨wB, hwB⟩ : ∃ wB, wA = wB := ⟨_, rfl⟩
      rw [hwB] at HB FB HBB rB ⊢
      clear hwB
      refine (spans_any s wB HS.out).mono ?_
      rintro e w5 ⟨v, rfl, oL, f5, n5⟩
      obtain ⟨L, hL⟩ : ∃ L, spl s.has 256 = L := ⟨_, rfl⟩
      have hLl := spl_len s.has 256
      have hLi := (spl_good s.has 256).in_
      rw [hL] at oL hLl hLi
      have hset : out ++ setT s = out ++ [91] ++ [] ++ spsT L ++ [93] := by rw [HQ.out, ← hL]; simp [brkT, List.append_assoc]
      obtain ⟨av, cv, rfl⟩ := ownsRow_slice (show w5.ownsRow 0 62 2 v L.length (spC L) from oL)
      obtain ⟨K2, hK2⟩ : ∃ K2 : Nat → Prop, K2 = fun k => (K k ∨ k = w.heap.size) ∨ (Value.slice av L.length cv).ownBlock = some k := ⟨_, rfl⟩
      have hKK : ∀ k, K k → K2 k := fun k x => by rw [hK2]; exact .inl (.inl x)
      have hKv : ∀ k, (Value.slice av L.length cv).ownBlock = some k → K2 k := fun k x => by rw [hK2]; exact .inr x
      have HC := Lib.hid (show TxW W0 K2 b (out ++ [91] ++ []) w5 by rw [hK2]; have := HB.out.add f5 (P := fun k => (Value.slice av L.length cv).ownBlock = some k) (fun k e => ⟨n5 k e, oL.lt k e⟩); simpa using this)
      have FC := Lib.hid (show Fr (Txn W0 K) w w5 from FB.out.trans f5 (fun _ _ x => x.elim))
      have OL := Lib.hid oL; have HSET := Lib.hid hset; have HKK := Lib.hid hKK; have HKV := Lib.hid hKv; have HLI := Lib.hid hLi
      clear oL hset hK2 hKK hKv hL hLi n5 f5
      go_wp2_with fail
      go_loopw [57] (fun i wr => ∃ k : Nat, i = .int .i64 k ∧ k ≤ L.length ∧ TxW W0 K2 b (out ++ [91] ++ [] ++ spsT (L.take k)) wr ∧ Fr (Txn W0 K2) w5 wr) (fun i _ => L.length - (intOf i).toNat)
      case atStart => exact ⟨0, rfl, Nat.zero_le _, by simpa [spsT] using HC.out, Fr.refl _ _⟩
      case round =>
        obtain ⟨k, rfl, hk, tx, fr⟩ := hrel
        have HR := Lib.hid tx; have FR := Lib.hid fr; clear tx fr
        by_cases hlt : k < L.length
        · have OK := OL.out.on FR.out (fun j e x => x (.inr (HKV.out j e)))
          obtain ⟨g, cap, hv, hc0, hc1⟩ := OK.get hlt
          injection hv with e1 e2 e3
          subst e1; subst e3
          have htk := spsT_take hlt
          have hbd := HLI.out L[k] (List.getElem_mem hlt)
          have hsz := spsT_le (L.take k)
          obtain ⟨⟨p, q⟩, hpq⟩ : ∃ x, L[k] = x := ⟨_, rfl⟩
          rw [hpq] at hc0 hc1 htk hbd
          simp only at hc0 hc1 hbd
          rw [List.length_take] at hsz
          obtain ⟨X, hX⟩ : ∃ X, out ++ [91] ++ [] ++ spsT (L.take k) = X := ⟨_, rfl⟩
          have hXl : X.length ≤ 10000000010000 := by rw [← hX]; simp; omega
          have hnext : X ++ spnT (p, q) = out ++ [91] ++ [] ++ spsT (L.take (k + 1)) := by rw [htk, ← hX]; simp [List.append_assoc]
          rw [hX] at HR
          obtain ⟨wa, hwa⟩ : ∃ wa, wa = wr.alloc (.cells #[.int .u8 (p : Int), .int .u8 (q : Int)] 62) := ⟨_, rfl⟩
          have hza : wa.heap[wr.heap.size]? = some (.cells #[.int .u8 (p : Int), .int .u8 (q : Int)] 62 (0, 0)) := by rw [hwa]; exact newAt _ _
          have k0 := cell_at (j := 0) (v := .int .u8 (p : Int)) hza rfl
          have k1 := cell_at (j := 1) (v := .int .u8 (q : Int)) hza rfl
          have TA := Lib.hid (show TxW W0 (fun k => K2 k ∨ k = wr.heap.size) b X wa by rw [hwa]; exact HR.out.alloc _ HR.out.lt)
          have FA' := Lib.hid (show Fr (Txn W0 K2) w5 wa by rw [hwa]; exact FR.out.alloc _)
          have HWa := Lib.hid hwa; have HNX := Lib.hid hnext; have HZA := Lib.hid hza
          clear e2 hpq htk hX OK hwa hnext hza
          go_wp2_with (rw [← HWa.out])
          refine (show_inside p (by omega) TA.out (by omega)).mono ?_
          rintro e wx ⟨rfl, tx, fx⟩
          have hzx := fx.heap HZA.out (fun x => x (.inr (.inr rfl)))
          have k0x := cell_at (j := 0) (v := .int .u8 (p : Int)) hzx rfl
          have k1x := cell_at (j := 1) (v := .int .u8 (q : Int)) hzx rfl
          have TX := Lib.hid tx; have FX := Lib.hid (FA'.out.trans fx (fun _ _ x => Txn.less (fun _ => .inl) x)); have HZX := Lib.hid hzx
          have hip := insT_le p
          clear tx fx hzx
          by_cases hpq : p = q
          · have q1 : ((p : Int) != (q : Int)) = false := by subst hpq; simp
            have hsp : spnT (p, q) = insT p := by unfold spnT; simp [hpq]
            have HSP := Lib.hid hsp
            clear hsp hpq
            go_wp2
            go_roundw
            case rel => exact ⟨k + 1, by go_num, by omega, by have := TX.out.less (K' := K2) (fun _ => .inl); rw [← HNX.out, HSP.out]; exact this, FX.out⟩
            case measure => simp [intOf]; omega
          · have q1 : ((p : Int) != (q : Int)) = true := by simp; omega
            have hsp : spnT (p, q) = insT p ++ ([45] ++ insT q) := by unfold spnT; simp [hpq]
            have HSP := Lib.hid hsp
            clear hsp hpq
            go_wp2_with fail
            refine (tx_byte 45 45 (by decide) rfl TX.out (by simp; omega)).mono ?_
            rintro e wy ⟨rfl, ty, fy⟩
            have hzy := fy.heap HZX.out (fun x => x (.inr (.inr rfl)))
            have k0y := cell_at (j := 0) (v := .int .u8 (p : Int)) hzy rfl
            have k1y := cell_at (j := 1) (v := .int .u8 (q : Int)) hzy rfl
            have TY := Lib.hid ty; have FY := Lib.hid (FX.out.trans fy (fun _ _ x => Txn.less (fun _ => .inl) x))
            clear ty fy hzy
            go_wp2_with fail
            refine (show_inside q (by omega) TY.out (by simp; omega)).mono ?_
            rintro e wz ⟨rfl, tz, fz⟩
            have TZ := Lib.hid tz; have FZ := Lib.hid (FY.out.trans fz (fun _ _ x => Txn.less (fun _ => .inl) x))
            clear tz fz
            go_wp2
            go_roundw
            case rel => exact ⟨k + 1, by go_num, by omega, by have := TZ.out.less (K' := K2) (fun _ => .inl); rw [← HNX.out, HSP.out]; simpa [List.append_assoc] using this, FZ.out⟩
            case measure => simp [intOf]; omega
        · obtain rfl : k = L.length := by omega
          have hsz := spsT_le L
          have hT := List.take_of_length_le (l := L) (Nat.le_refl _)
          rw [hT] at HR
          clear hT
          go_wp2_with fail
          refine (tx_byte 93 93 (by decide) rfl HR.out (by simp; omega)).mono ?_
          rintro e wy ⟨rfl, ty, fy⟩
          have TY := Lib.hid ty; have FY := Lib.hid (FR.out.trans fy (fun _ _ x => x))
          clear ty fy
          go_wp2
          go_end0
          refine ⟨rfl, by rw [HSET.out]; exact TY.out.less HKK.out, FC.out.trans FY.out (fun _ _ x => Txn.less HKK.out x)⟩
end
end Go.Proofs.YtlchaocpejfikaaGreatDoor
