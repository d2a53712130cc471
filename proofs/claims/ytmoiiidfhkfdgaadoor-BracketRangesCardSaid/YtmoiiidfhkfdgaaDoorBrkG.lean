/-
  Walks of package bracket: part.
-/
import Derived.Test.YtmoiiidfhkfdgaaDoorBrkF
namespace Go.Proofs.YtmoiiidfhkfdgaaDoor
open Go.RowKit

theorem setFour_old {w : World} {b k : Nat} {o : Obj} (hk : w.heap[k]? = some o) (hne : k ≠ b) (v0 v1 v2 v3 : Value) : (setFour w b v0 v1 v2 v3).heap[k]? = some o :=
  heap_setCell_ne (heap_setCell_ne (heap_setCell_ne (heap_setCell_ne hk hne _) hne _) hne _) hne _
theorem setFour_frS {S : Nat → Prop} {w a : World} {b : Nat} (f : Fr S a w) (hb : a.heap.size ≤ b) (v0 v1 v2 v3 : Value) : Fr S a (setFour w b v0 v1 v2 v3) := by
  have h : ∀ (x : World) (j : Nat) (v : Value), Fr S a x → Fr S a (x.setCell ⟨b, j, none⟩ v) := fun x j v hx => hx.setCell (p := ⟨b, j, none⟩) (fun h => absurd h (Nat.not_lt.2 hb)) v
  exact h _ _ _ (h _ _ _ (h _ _ _ (h _ _ _ f)))
theorem PtEnd.to {b : Nat} {l : List UInt8} {p : Int} {s : S4} {R : (Int × Nat) ⊕ (S4 × Nat)} {w w' : World} (h : PtEnd b l p s R w) (f : ∀ x r q, Rd w b l x r q → Rd w' b l x r q) : PtEnd b l p s R w' := by
  cases R with
  | inr x => exact ⟨h.1, f _ _ _ h.2⟩
  | inl z => obtain ⟨a', h1, h2, h3⟩ := h; exact ⟨a', h1, h2, f _ _ _ h3⟩

set_option maxRecDepth 100000 in
set_option maxHeartbeats 8000000 in
theorem part_any (b : Nat) (l : List UInt8) (a : Nat) (p : Int) (w : World) (hl : l.length ≤ 100000) (ha : a ≤ l.length) (hb : 2 ≤ b) (hE : Env w) (h : Rd w b l a 0 p) :
    Calls Tryd.prog 18 #[.pointer (some ⟨b, 0, none⟩)] w (PtAns b l p (prt l a) w) := by
  obtain ⟨R, hR⟩ : ∃ R, prt l a = R := ⟨_, rfl⟩
  rw [hR]
  have HR := Lib.hid hR; clear hR
  have rr := rule4 h
  have hbw := lt_heap h
  obtain ⟨w0, hw0⟩ : ∃ w0, w0 = w.alloc (.cells #[.int .u64 0, .int .u64 0, .int .u64 0, .int .u64 0] 25) := ⟨_, rfl⟩
  have f0 : Fr nob w w0 := by rw [hw0]; exact (Fr.refl _ _).alloc _
  have HZ0 := Lib.hid (show w0.heap[w.heap.size]? = some (.cells #[.int .u64 0, .int .u64 0, .int .u64 0, .int .u64 0] 25 (0, 0)) by rw [hw0]; exact newAt _ _)
  have FW0 := Lib.hid f0
  have H0 := Lib.hid (h.on f0); have HE0 := Lib.hid (hE.on f0)
  have HW0 := Lib.hid hw0
  have hal : (a : Int) ≤ l.length := by omega
  clear hw0 h hE f0
  go_enter Tryd.func18, Tryd.ntmps18
  go_wp2_with fail
  rw [← HW0.out]
  refine (item_any b l a p w0 hl ha hb HE0.out H0.out).mono ?_
  rintro e w1 ⟨s, o, rfl, hs, f1, hend⟩
  have hbw0 := lt_heap H0.out
  have hz1 := f1.heap HZ0.out (fun e => by omega)
  have hlz1 := lt_heap hz1
  have hbw1 : b < w1.heap.size := Nat.lt_of_lt_of_le hbw0 f1.size
  obtain ⟨w2, hw2⟩ : ∃ w2, w2 = w1.alloc (.cells #[.int .u64 s.a, .int .u64 s.b, .int .u64 s.c, .int .u64 s.d, .bool o] 57) := ⟨_, rfl⟩
  have f12 : Fr nob w1 w2 := by rw [hw2]; exact (Fr.refl _ _).alloc _
  have hz2 := f12.heap hz1 (fun x => x)
  have hx2 : w2.heap[w1.heap.size]? = some (.cells #[.int .u64 s.a, .int .u64 s.b, .int .u64 s.c, .int .u64 s.d, .bool o] 57 (0, 0)) := by rw [hw2]; exact newAt _ _
  have rx2 := rule5 hx2
  have rz2 := rule4 hz2
  have F2 := Lib.hid ((FW0.out.any.trans f1 (fun i hi e => e)).trans f12 (fun i hi e => e.elim))
  have HE2 := Lib.hid ((HE0.out.on2 f1 hb).on f12)
  have HZ2 := Lib.hid hz2; have HX2 := Lib.hid hx2; have HW2 := Lib.hid hw2
  have hend2 := hend.to (w' := w2) (fun x r q h => h.on f12)
  have HS := Lib.hid hs
  clear hw2 hz1 hz2 hx2 f1 f12 hend hs rr
  cases hi : itm l a with
  | inl z =>
    rw [hi] at hend2
    obtain ⟨a', h1, h2, h3⟩ := hend2
    have HRV := Lib.hid (prt_inl hi)
    have r4 := rule4 h3
    have hz10 : (z.1 != 0) = true := by simpa using h2
    have HEND := Lib.hid (show PtEnd b l p s (.inl z) w2 from ⟨a', h1, h2, h3⟩)
    have C1 := Lib.hid trivial; have C2 := Lib.hid trivial
    clear h3 hi h1
    go_wp2_with fail
    rw [← HW2.out]
    refine region_fr_all (by kernel_rfl) (by kernel_rfl) ?_
    repeat (go_big_quiet_step (fail))
    refine wpQuiet_nil ?_
    intro wC fC
    go_wp2
    (try simp only [Exit.inBlock, Exit.then])
    have hzc := fC.heap HZ2.out (fun x => x)
    refine bodyPost_ret (results_set (s := s) rfl rfl (setFour_heap hzc _ _ _ _)) rfl ⟨s, rfl, HS.out, setFour_frS (F2.out.trans fC (fun i hi e => e.elim)) (Nat.le_refl _) _ _ _ _, ?_⟩
    rw [← HR.out, HRV.out]
    exact HEND.out.to fun x r q h => setFour_old (h.on fC) (by omega) _ _ _ _
  | inr x =>
    rw [hi] at hend2
    obtain ⟨h1, h2, h3⟩ := hend2
    have hn := itm_next hi
    have hnl : (x.next : Int) ≤ l.length := by omega
    have hn0 : (0 : Int) ≤ x.next := by omega
    have r4 := rule4 h3
    have H3 := Lib.hid h3
    obtain ⟨d1, hd1⟩ : ∃ d, [45].isPrefixOf (l.drop x.next) = d := ⟨_, rfl⟩
    obtain ⟨d2, hd2⟩ : ∃ d, [45, 93].isPrefixOf (l.drop x.next) = d := ⟨_, rfl⟩
    have hc1 : ∀ w', Fr nob w2 w' → _ := fun w' f => ahead_any b l [45] x.next 0 p w' (by omega) (by simp) (by omega) (h3.on f)
    have hc2 : ∀ w', Fr nob w2 w' → _ := fun w' f => ahead_any b l [45, 93] x.next 0 p w' (by omega) (by simp) (by omega) (h3.on f)
    rw [hd1] at hc1
    rw [hd2] at hc2
    have C1 := Lib.hid hc1; have C2 := Lib.hid hc2
    have hrg := rng_iff l x.next
    rw [hd1, hd2] at hrg
    have HI := Lib.hid hi; have H1 := Lib.hid h1; have H2 := Lib.hid h2
    clear hc1 hc2 hd1 hd2 h3 hi h1 h2
    by_cases hcase : rng l x.next = false
    · have HRV := Lib.hid (prt_set HI.out hcase)
      have HEND := Lib.hid (show PtEnd b l p s (.inr (x.set, x.next)) w2 from ⟨H1.out, H3.out⟩)
      rw [hcase] at hrg
      have HG := Lib.hid hrg; clear hrg hcase
      cases d1 with
      | false =>
        go_wp2_with fail
        rw [← HW2.out]
        refine region_fr_all (by kernel_rfl) (by kernel_rfl) ?_
        repeat (go_big_quiet_step ((first | (with_reducible exact calls_fr (C1.out _ (grown_fr _ _ _))) | (with_reducible exact calls_fr (C2.out _ (grown_fr _ _ _))))))
        refine wpQuiet_nil ?_
        intro wC fC
        go_wp2
        (try simp only [Exit.inBlock, Exit.then])
        have hzc := fC.heap HZ2.out (fun x => x)
        refine bodyPost_ret (results_set (s := s) rfl rfl (setFour_heap hzc _ _ _ _)) rfl ⟨s, rfl, HS.out, setFour_frS (F2.out.trans fC (fun i hi e => e.elim)) (Nat.le_refl _) _ _ _ _, ?_⟩
        rw [← HR.out, HRV.out]
        exact HEND.out.to fun x r q h => setFour_old (h.on fC) (by omega) _ _ _ _
      | true =>
        cases d2 with
        | true =>
          go_wp2_with fail
          rw [← HW2.out]
          refine region_fr_all (by kernel_rfl) (by kernel_rfl) ?_
          repeat (go_big_quiet_step ((first | (with_reducible exact calls_fr (C1.out _ (grown_fr _ _ _))) | (with_reducible exact calls_fr (C2.out _ (grown_fr _ _ _))))))
          refine wpQuiet_nil ?_
          intro wC fC
          go_wp2
          (try simp only [Exit.inBlock, Exit.then])
          have hzc := fC.heap HZ2.out (fun x => x)
          refine bodyPost_ret (results_set (s := s) rfl rfl (setFour_heap hzc _ _ _ _)) rfl ⟨s, rfl, HS.out, setFour_frS (F2.out.trans fC (fun i hi e => e.elim)) (Nat.le_refl _) _ _ _ _, ?_⟩
          rw [← HR.out, HRV.out]
          exact HEND.out.to fun x r q h => setFour_old (h.on fC) (by omega) _ _ _ _
        | false =>
          have tn : (l.length : Int) ≤ (x.next : Int) + 1 := by
            have := HG.out; simp at this; omega
          go_wp2_with fail
          rw [← HW2.out]
          refine region_fr_all (by kernel_rfl) (by kernel_rfl) ?_
          repeat (go_big_quiet_step ((first | (with_reducible exact calls_fr (C1.out _ (grown_fr _ _ _))) | (with_reducible exact calls_fr (C2.out _ (grown_fr _ _ _))))))
          refine wpQuiet_nil ?_
          intro wC fC
          go_wp2
          (try simp only [Exit.inBlock, Exit.then])
          have hzc := fC.heap HZ2.out (fun x => x)
          refine bodyPost_ret (results_set (s := s) rfl rfl (setFour_heap hzc _ _ _ _)) rfl ⟨s, rfl, HS.out, setFour_frS (F2.out.trans fC (fun i hi e => e.elim)) (Nat.le_refl _) _ _ _ _, ?_⟩
          rw [← HR.out, HRV.out]
          exact HEND.out.to fun x r q h => setFour_old (h.on fC) (by omega) _ _ _ _
    · have hcase : rng l x.next = true := by simpa using hcase
      rw [hcase] at hrg
      simp only [Bool.and_eq_true, decide_eq_true_eq, Bool.not_eq_true', eq_comm (a := true)] at hrg
      obtain ⟨⟨htn, rfl⟩, rfl⟩ := hrg
      have tn : ¬ ((l.length : Int) ≤ (x.next : Int) + 1) := by omega
      have HCASE := Lib.hid hcase; clear hcase
      go_wp2_with fail
      rw [← HW2.out]
      refine region_fr_all (by kernel_rfl) (by kernel_rfl) ?_
      repeat (go_big_quiet_step ((first | (with_reducible exact calls_fr (C1.out _ (grown_fr _ _ _))) | (with_reducible exact calls_fr (C2.out _ (grown_fr _ _ _))))))
      refine wpQuiet_nil ?_
      intro wC fC
      obtain ⟨w3, hw3⟩ : ∃ w3, w3 = wC.setCell ⟨b, 1, none⟩ (.int .i64 ((x.next : Int) + 1)) := ⟨_, rfl⟩
      have hR3 : Rd w3 b l ((x.next + 1 : Nat) : Int) 0 p := by
        rw [hw3, show ((x.next + 1 : Nat) : Int) = (x.next : Int) + 1 by omega]; exact heap_setCell_at (fC.heap H3.out (fun x => x)) 1 _
      have f23 : Fr (fun k => k = b) w2 w3 := by rw [hw3]; exact Fr.setCell (S := fun k => k = b) (p := ⟨b, 1, none⟩) fC.any (fun _ => rfl) _
      have hz3 := f23.heap HZ2.out (fun e => by omega)
      have hx3 := f23.heap HX2.out (fun e => by omega)
      have F3 := Lib.hid (F2.out.trans f23 (fun i hi e => e)); have HE3 := Lib.hid (HE2.out.on2 f23 hb)
      have HW3 := Lib.hid hw3; have HR3 := Lib.hid hR3; have HZ3 := Lib.hid hz3; have HX3 := Lib.hid hx3
      clear hw3 hR3 f23 hz3 hx3
      go_wp2_with fail
      rw [← HW3.out]
      refine (item_any b l (x.next + 1) p w3 hl (by omega) hb HE3.out HR3.out).mono ?_
      rintro e w4 ⟨s', o', rfl, hs', f4, hend4⟩
      have hz4 := f4.heap HZ3.out (fun e => by omega)
      have hx4 := f4.heap HX3.out (fun e => by omega)
      have hlz4 := lt_heap hz4
      have hlx4 := lt_heap hx4
      obtain ⟨a', r, q, ha', hR4, hbad, hgood⟩ := part_fin HI.out HCASE.out hend4
      have hbw4 := lt_heap hR4
      obtain ⟨w5, hw5⟩ : ∃ w5, w5 = w4.alloc (.cells #[.int .u64 s'.a, .int .u64 s'.b, .int .u64 s'.c, .int .u64 s'.d, .bool o'] 57) := ⟨_, rfl⟩
      have f45 : Fr nob w4 w5 := by rw [hw5]; exact (Fr.refl _ _).alloc _
      have hz5 := f45.heap hz4 (fun x => x)
      have hx5 := f45.heap hx4 (fun x => x)
      have hy5 : w5.heap[w4.heap.size]? = some (.cells #[.int .u64 s'.a, .int .u64 s'.b, .int .u64 s'.c, .int .u64 s'.d, .bool o'] 57 (0, 0)) := by rw [hw5]; exact newAt _ _
      have hR5 := hR4.on f45
      have hss : s = x.set := H1.out
      have hoo : o = x.one.isSome := H2.out
      rw [HR.out, ← hss] at hbad hgood
      rw [← hoo] at hbad hgood
      have hl1 := lst_lt s
      have hl2 := lst_lt s'
      obtain ⟨m1, hm1⟩ : ∃ m, lst s = m := ⟨_, rfl⟩
      obtain ⟨m2, hm2⟩ : ∃ m, lst s' = m := ⟨_, rfl⟩
      have hT5 : Env w5 := ((HE3.out.on2 f4 hb).on f45)
      have hc3 : ∀ w', Fr nob w5 w' → _ := fun w' f => itLeast_fix s o w' HS.out (hT5.on f).1
      have hc4 : ∀ w', Fr nob w5 w' → _ := fun w' f => itLeast_fix s' o' w' hs' (hT5.on f).1
      have LX0 := fun w' (h : Env w') => itLeast_fix s o w' HS.out h.1
      have LY0 := fun w' (h : Env w') => itLeast_fix s' o' w' hs' h.1
      rw [hm1] at LX0
      rw [hm2] at LY0
      have LX := Lib.hid LX0; have LY := Lib.hid LY0
      clear LX0 LY0
      rw [hm1] at hl1 hc3 hbad hgood
      rw [hm2] at hl2 hc4 hbad hgood
      have hfit := fit_spn m1 m2
      have hsp := fun w => span_lit m1 m2 w hl1 hl2
      obtain ⟨S, hS⟩ : ∃ S, spn m1 m2 = S := ⟨_, rfl⟩
      rw [hS] at hbad hgood hfit hsp
      have ry5 := rule5 hy5
      have rx5 := rule5 hx5
      have rz5 := rule4 hz5
      have F5 := Lib.hid ((F3.out.trans f4 (fun i hi e => e)).trans f45 (fun i hi e => e.elim))
      have HZ5 := Lib.hid hz5; have HX5 := Lib.hid hx5; have HY5 := Lib.hid hy5; have HR5 := Lib.hid hR5; have HW5 := Lib.hid hw5
      have C3 := Lib.hid hc3; have C4 := Lib.hid hc4; have CS := Lib.hid hsp; have HB := Lib.hid hbad; have HG := Lib.hid hgood; have HF := Lib.hid hfit; have HT5 := Lib.hid hT5
      clear hz4 hx4 hR4 hbad hgood hw5 f45 hz5 hx5 hy5 hR5 hc3 hc4 hsp hS hfit f4 hend4 hs' hT5 rx2 rz2 r4 fC hss hoo hm1 hm2
      cases o with
      | false =>
        go_wp2_with fail
        rw [← HW5.out]
        refine region_fr_all (by kernel_rfl) (by kernel_rfl) ?_
        repeat (go_big_quiet_step ((first | (with_reducible exact calls_fr (C3.out _ (grown_fr _ _ _))) | (with_reducible exact calls_fr (C4.out _ (grown_fr _ _ _))))))
        refine wpQuiet_nil ?_
        intro wE fE
        go_wp2_with fail
        refine (fail_any b l a' r q 1 a wE (HR5.out.on fE)).mono ?_
        rintro e w6 ⟨rfl, hR6, f6⟩
        have hpe := HB.out w6 (by simp) hR6
        have f56 : Fr (fun k => k = b) w5 w6 := fE.any.trans f6 (fun i hi e => e)
        have hz6 := f56.heap HZ5.out (fun e => by omega)
        have hx6 := f56.heap HX5.out (fun e => by omega)
        have hy6 := f56.heap HY5.out (fun e => by omega)
        have rz6 := rule4 hz6
        have rx6 := rule5 hx6
        have ry6 := rule5 hy6
        have hc5 : ∀ w', Fr nob w6 w' → _ := fun w' f => LX.out w' ((HT5.out.on2 f56 hb).on f)
        have hc6 : ∀ w', Fr nob w6 w' → _ := fun w' f => LY.out w' ((HT5.out.on2 f56 hb).on f)
        have C5 := Lib.hid hc5; have C6 := Lib.hid hc6; have F6 := Lib.hid (F5.out.trans f56 (fun i hi e => e)); have HPE := Lib.hid hpe; have HZ6 := Lib.hid hz6
        clear hc5 hc6 hz6 hx6 hy6 f56 hpe
        go_wp2_with fail
        refine region_fr 5 (by kernel_rfl) (by kernel_rfl) ?_
        simp only [List.take_succ_cons, List.take_zero, List.drop_succ_cons, List.drop_zero]
        repeat (go_big_quiet_step ((first | (with_reducible exact calls_fr (C5.out _ (grown_fr _ _ _))) | (with_reducible exact calls_fr (C6.out _ (grown_fr _ _ _))) | (with_reducible exact calls_fr (CS.out _)))))
        refine wpQuiet_nil ?_
        intro wC fC
        go_wp2
        (try simp only [Exit.inBlock, Exit.then])
        have hzc := fC.heap HZ6.out (fun x => x)
        have hlzc := lt_heap hzc
        refine bodyPost_ret (results_set (s := S) rfl rfl (setFour_heap hzc _ _ _ _)) rfl ⟨S, rfl, HF.out, setFour_frS (F6.out.trans fC (fun i hi e => e.elim)) (Nat.le_refl _) _ _ _ _, ?_⟩
        exact HPE.out.to fun x r q h => setFour_old (h.on fC) (by omega) _ _ _ _
      | true =>
        cases o' with
        | false =>
          go_wp2_with fail
          rw [← HW5.out]
          refine region_fr_all (by kernel_rfl) (by kernel_rfl) ?_
          repeat (go_big_quiet_step ((first | (with_reducible exact calls_fr (C3.out _ (grown_fr _ _ _))) | (with_reducible exact calls_fr (C4.out _ (grown_fr _ _ _))))))
          refine wpQuiet_nil ?_
          intro wE fE
          go_wp2_with fail
          refine (fail_any b l a' r q 1 a wE (HR5.out.on fE)).mono ?_
          rintro e w6 ⟨rfl, hR6, f6⟩
          have hpe := HB.out w6 (by simp) hR6
          have f56 : Fr (fun k => k = b) w5 w6 := fE.any.trans f6 (fun i hi e => e)
          have hz6 := f56.heap HZ5.out (fun e => by omega)
          have hx6 := f56.heap HX5.out (fun e => by omega)
          have hy6 := f56.heap HY5.out (fun e => by omega)
          have rz6 := rule4 hz6
          have rx6 := rule5 hx6
          have ry6 := rule5 hy6
          have hc5 : ∀ w', Fr nob w6 w' → _ := fun w' f => LX.out w' ((HT5.out.on2 f56 hb).on f)
          have hc6 : ∀ w', Fr nob w6 w' → _ := fun w' f => LY.out w' ((HT5.out.on2 f56 hb).on f)
          have C5 := Lib.hid hc5; have C6 := Lib.hid hc6; have F6 := Lib.hid (F5.out.trans f56 (fun i hi e => e)); have HPE := Lib.hid hpe; have HZ6 := Lib.hid hz6
          clear hc5 hc6 hz6 hx6 hy6 f56 hpe
          go_wp2_with fail
          refine region_fr 5 (by kernel_rfl) (by kernel_rfl) ?_
          simp only [List.take_succ_cons, List.take_zero, List.drop_succ_cons, List.drop_zero]
          repeat (go_big_quiet_step ((first | (with_reducible exact calls_fr (C5.out _ (grown_fr _ _ _))) | (with_reducible exact calls_fr (C6.out _ (grown_fr _ _ _))) | (with_reducible exact calls_fr (CS.out _)))))
          refine wpQuiet_nil ?_
          intro wC fC
          go_wp2
          (try simp only [Exit.inBlock, Exit.then])
          have hzc := fC.heap HZ6.out (fun x => x)
          have hlzc := lt_heap hzc
          refine bodyPost_ret (results_set (s := S) rfl rfl (setFour_heap hzc _ _ _ _)) rfl ⟨S, rfl, HF.out, setFour_frS (F6.out.trans fC (fun i hi e => e.elim)) (Nat.le_refl _) _ _ _ _, ?_⟩
          exact HPE.out.to fun x r q h => setFour_old (h.on fC) (by omega) _ _ _ _
        | true =>
          by_cases hlt : (m2 : Int) < m1
          · have hlt' := hlt
            go_wp2_with fail
            rw [← HW5.out]
            refine region_fr_all (by kernel_rfl) (by kernel_rfl) ?_
            repeat (go_big_quiet_step ((first | (with_reducible exact calls_fr (C3.out _ (grown_fr _ _ _))) | (with_reducible exact calls_fr (C4.out _ (grown_fr _ _ _))))))
            refine wpQuiet_nil ?_
            intro wE fE
            go_wp2_with fail
            refine (fail_any b l a' r q 1 a wE (HR5.out.on fE)).mono ?_
            rintro e w6 ⟨rfl, hR6, f6⟩
            have hpe := HB.out w6 (.inr (.inr (by omega))) hR6
            have f56 : Fr (fun k => k = b) w5 w6 := fE.any.trans f6 (fun i hi e => e)
            have hz6 := f56.heap HZ5.out (fun e => by omega)
            have hx6 := f56.heap HX5.out (fun e => by omega)
            have hy6 := f56.heap HY5.out (fun e => by omega)
            have rz6 := rule4 hz6
            have rx6 := rule5 hx6
            have ry6 := rule5 hy6
            have hc5 : ∀ w', Fr nob w6 w' → _ := fun w' f => LX.out w' ((HT5.out.on2 f56 hb).on f)
            have hc6 : ∀ w', Fr nob w6 w' → _ := fun w' f => LY.out w' ((HT5.out.on2 f56 hb).on f)
            have C5 := Lib.hid hc5; have C6 := Lib.hid hc6; have F6 := Lib.hid (F5.out.trans f56 (fun i hi e => e)); have HPE := Lib.hid hpe; have HZ6 := Lib.hid hz6
            clear hc5 hc6 hz6 hx6 hy6 f56 hpe
            go_wp2_with fail
            refine region_fr 5 (by kernel_rfl) (by kernel_rfl) ?_
            simp only [List.take_succ_cons, List.take_zero, List.drop_succ_cons, List.drop_zero]
            repeat (go_big_quiet_step ((first | (with_reducible exact calls_fr (C5.out _ (grown_fr _ _ _))) | (with_reducible exact calls_fr (C6.out _ (grown_fr _ _ _))) | (with_reducible exact calls_fr (CS.out _)))))
            refine wpQuiet_nil ?_
            intro wC fC
            go_wp2
            (try simp only [Exit.inBlock, Exit.then])
            have hzc := fC.heap HZ6.out (fun x => x)
            have hlzc := lt_heap hzc
            refine bodyPost_ret (results_set (s := S) rfl rfl (setFour_heap hzc _ _ _ _)) rfl ⟨S, rfl, HF.out, setFour_frS (F6.out.trans fC (fun i hi e => e.elim)) (Nat.le_refl _) _ _ _ _, ?_⟩
            exact HPE.out.to fun x r q h => setFour_old (h.on fC) (by omega) _ _ _ _
          · have hlt' := hlt
            go_wp2_with fail
            rw [← HW5.out]
            refine region_fr_all (by kernel_rfl) (by kernel_rfl) ?_
            repeat (go_big_quiet_step ((first | (with_reducible exact calls_fr (C3.out _ (grown_fr _ _ _))) | (with_reducible exact calls_fr (C4.out _ (grown_fr _ _ _))))))
            refine wpQuiet_nil ?_
            intro wE fE
            obtain ⟨w6, hw6⟩ : ∃ w6, w6 = wE := ⟨_, rfl⟩
            have hpe := HG.out w6 (by simp) (by simp) (by omega) (by rw [hw6]; exact HR5.out.on fE)
            have f56 : Fr (fun k => k = b) w5 w6 := by rw [hw6]; exact fE.any
            rw [← hw6]
            clear hw6
            have hz6 := f56.heap HZ5.out (fun e => by omega)
            have hx6 := f56.heap HX5.out (fun e => by omega)
            have hy6 := f56.heap HY5.out (fun e => by omega)
            have rz6 := rule4 hz6
            have rx6 := rule5 hx6
            have ry6 := rule5 hy6
            have hc5 : ∀ w', Fr nob w6 w' → _ := fun w' f => LX.out w' ((HT5.out.on2 f56 hb).on f)
            have hc6 : ∀ w', Fr nob w6 w' → _ := fun w' f => LY.out w' ((HT5.out.on2 f56 hb).on f)
            have C5 := Lib.hid hc5; have C6 := Lib.hid hc6; have F6 := Lib.hid (F5.out.trans f56 (fun i hi e => e)); have HPE := Lib.hid hpe; have HZ6 := Lib.hid hz6
            clear hc5 hc6 hz6 hx6 hy6 f56 hpe
            go_wp2_with fail
            refine region_fr 5 (by kernel_rfl) (by kernel_rfl) ?_
            simp only [List.take_succ_cons, List.take_zero, List.drop_succ_cons, List.drop_zero]
            repeat (go_big_quiet_step ((first | (with_reducible exact calls_fr (C5.out _ (grown_fr _ _ _))) | (with_reducible exact calls_fr (C6.out _ (grown_fr _ _ _))) | (with_reducible exact calls_fr (CS.out _)))))
            refine wpQuiet_nil ?_
            intro wC fC
            go_wp2
            (try simp only [Exit.inBlock, Exit.then])
            have hzc := fC.heap HZ6.out (fun x => x)
            have hlzc := lt_heap hzc
            refine bodyPost_ret (results_set (s := S) rfl rfl (setFour_heap hzc _ _ _ _)) rfl ⟨S, rfl, HF.out, setFour_frS (F6.out.trans fC (fun i hi e => e.elim)) (Nat.le_refl _) _ _ _ _, ?_⟩
            exact HPE.out.to fun x r q h => setFour_old (h.on fC) (by omega) _ _ _ _

end Go.Proofs.YtmoiiidfhkfdgaaDoor
