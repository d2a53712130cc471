/-
  Merged texts of this claim: BrkG, BrkH, BreP, ShowA, ShowB, ShowC.
-/
import Derived.Defers
import Derived.Test.YtlchaocpejfikaaGreatDoorM01
import Derived.Test.YtlchaocpejfikaaGreatDoorM03
import Derived.Test.YtlchaocpejfikaaGreatDoorM05
import Derived.Test.YtlchaocpejfikaaGreatDoorM09
import Derived.Test.YtlchaocpejfikaaGreatDoorM10

/-
  Walks of package bracket: part.
-/
namespace Go.Proofs.YtlchaocpejfikaaGreatDoor
open Go.RowKit

theorem setFour_old {w : World} {b k : Nat} {o : Obj} (hk : w.heap[k]? = some o) (hne : k ≠ b) (v0 v1 v2 v3 : Value) : (setFour w b v0 v1 v2 v3).heap[k]? = some o :=
  heap_setCell_ne (heap_setCell_ne (heap_setCell_ne (heap_setCell_ne hk hne _) hne _) hne _) hne _
theorem setFour_frS {S : Nat → Prop} {w a : World} {b : Nat} (f : Fr S a w) (hb : a.heap.size ≤ b) (v0 v1 v2 v3 : Value) : Fr S a (setFour w b v0 v1 v2 v3) := by
  have h : ∀ (x : World) (j : Nat) (v : Value), Fr S a x → Fr S a (x.setCell ⟨b, j, none⟩ v) := fun x j v hx => hx.setCell (p := ⟨b, j, none⟩) (fun h => absurd h (Nat.not_lt.2 hb)) v
  exact h _ _ _ (h _ _ _ (h _ _ _ (h _ _ _ f)))
theorem PtEnd.to {b : Nat} {l : List UInt8} {p : Int} {s : S4} {R : (Int × Nat) ⊕ (S4 × Nat)} {w w' : World} (h : PtEnd b l p s R w) (f : ∀ x r q, Rd w b l x r q → Rd w' b l x r q) : PtEnd b l p s R w' := by
  cases R with
  | inr x => exact ⟨h.1, f _ _ _ h.2⟩
  | inl z => obtain ⟨a', h1, h2, h3⟩ := h; exact ⟨a', h1, h2, f _ _ _ h3⟩

set_option maxRecDepth 100000 in
set_option maxHeartbeats 8000000 in
theorem part_any (b : Nat) (l : List UInt8) (a : Nat) (p : Int) (w : World) (hl : l.length ≤ 100000) (ha : a ≤ l.length) (hb : envB ≤ b) (hE : Env w) (h : Rd w b l a 0 p) :
    Calls Tryz.prog 131 #[.pointer (some ⟨b, 0, none⟩)] w (PtAns b l p (prt l a) w) := by
  obtain ⟨R, hR⟩ : ∃ R, prt l a = R := ⟨_, rfl⟩
  rw [hR]
  have HR := Lib.hid hR; clear hR
  have rr := rule4 h
  have hbw := lt_heap h
  obtain ⟨w0, hw0⟩ : ∃ w0, w0 = w.alloc (.cells #[.int .u64 0, .int .u64 0, .int .u64 0, .int .u64 0] 27) := ⟨_, rfl⟩
  have f0 : Fr nob w w0 := by rw [hw0]; exact (Fr.refl _ _).alloc _
  have HZ0 := Lib.hid (show w0.heap[w.heap.size]? = some (.cells #[.int .u64 0, .int .u64 0, .int .u64 0, .int .u64 0] 27 (0, 0)) by rw [hw0]; exact newAt _ _)
  have FW0 := Lib.hid f0
  have H0 := Lib.hid (h.on f0); have HE0 := Lib.hid (hE.on f0)
  have HW0 := Lib.hid hw0
  have hal : (a : Int) ≤ l.length := by omega
  clear hw0 h hE f0
  go_enter Tryz.func131, Tryz.ntmps131
  go_wp2_with fail
  rw [← HW0.out]
  refine (item_any b l a p w0 hl ha hb HE0.out H0.out).mono ?_
  rintro e w1 ⟨s, o, rfl, hs, f1, hend⟩
  have hbw0 := lt_heap H0.out
  have hz1 := f1.heap HZ0.out (fun e => by omega)
  have hlz1 := lt_heap hz1
  have hbw1 : b < w1.heap.size := Nat.lt_of_lt_of_le hbw0 f1.size
  obtain ⟨w2, hw2⟩ : ∃ w2, w2 = w1.alloc (.cells #[.int .u64 s.a, .int .u64 s.b, .int .u64 s.c, .int .u64 s.d, .bool o] 203) := ⟨_, rfl⟩
  have f12 : Fr nob w1 w2 := by rw [hw2]; exact (Fr.refl _ _).alloc _
  have hz2 := f12.heap hz1 (fun x => x)
  have hx2 : w2.heap[w1.heap.size]? = some (.cells #[.int .u64 s.a, .int .u64 s.b, .int .u64 s.c, .int .u64 s.d, .bool o] 203 (0, 0)) := by rw [hw2]; exact newAt _ _
  have rx2 := rule5 hx2
  have rz2 := rule4 hz2
  have F2 := Lib.hid ((FW0.out.any.trans f1 (fun i hi e => e)).trans f12 (fun i hi e => e.elim))
  have HE2 := Lib.hid ((HE0.out.on2 f1 hb).on f12)
  have HZ2 := Lib.hid hz2; have HX2 := Lib.hid hx2; have HW2 := Lib.hid hw2
  have hend2 := hend.to (w' := w2) (fun x r q h => h.on f12)
  have HS := Lib.hid hs
  clear hw2 hz1 hz2 hx2 f1 f12 hend hs rr
  cases hi : itm l a with
  | inl z =>
    rw [hi] at hend2
    obtain ⟨a', h1, h2, h3⟩ := hend2
    have HRV := Lib.hid (prt_inl hi)
    have r4 := rule4 h3
    have hz10 : (z.1 != 0) = true := by simpa using h2
    have HEND := Lib.hid (show PtEnd b l p s (.inl z) w2 from ⟨a', h1, h2, h3⟩)
    have C1 := Lib.hid trivial; have C2 := Lib.hid trivial
    clear h3 hi h1
    go_wp2_with fail
    rw [← HW2.out]
    refine region_fr_all (by kernel_rfl) (by kernel_rfl) ?_
    repeat (go_big_quiet_step (fail))
    refine wpQuiet_nil ?_
    intro wC fC
    go_wp2
    (try simp only [Exit.inBlock, Exit.then])
    have hzc := fC.heap HZ2.out (fun x => x)
    refine bodyPost_ret (results_set (s := s) rfl rfl (setFour_heap hzc _ _ _ _)) rfl ⟨s, rfl, HS.out, setFour_frS (F2.out.trans fC (fun i hi e => e.elim)) (Nat.le_refl _) _ _ _ _, ?_⟩
    rw [← HR.out, HRV.out]
    exact HEND.out.to fun x r q h => setFour_old (h.on fC) (by omega) _ _ _ _
  | inr x =>
    rw [hi] at hend2
    obtain ⟨h1, h2, h3⟩ := hend2
    have hn := itm_next hi
    have hnl : (x.next : Int) ≤ l.length := by omega
    have hn0 : (0 : Int) ≤ x.next := by omega
    have r4 := rule4 h3
    have H3 := Lib.hid h3
    obtain ⟨d1, hd1⟩ : ∃ d, [45].isPrefixOf (l.drop x.next) = d := ⟨_, rfl⟩
    obtain ⟨d2, hd2⟩ : ∃ d, [45, 93].isPrefixOf (l.drop x.next) = d := ⟨_, rfl⟩
    have hc1 : ∀ w', Fr nob w2 w' → _ := fun w' f => ahead_any b l [45] x.next 0 p w' (by omega) (by simp) (by omega) (h3.on f)
    have hc2 : ∀ w', Fr nob w2 w' → _ := fun w' f => ahead_any b l [45, 93] x.next 0 p w' (by omega) (by simp) (by omega) (h3.on f)
    rw [hd1] at hc1
    rw [hd2] at hc2
    have C1 := Lib.hid hc1; have C2 := Lib.hid hc2
    have hrg := rng_iff l x.next
    rw [hd1, hd2] at hrg
    have HI := Lib.hid hi; have H1 := Lib.hid h1; have H2 := Lib.hid h2
    clear hc1 hc2 hd1 hd2 h3 hi h1 h2
    by_cases hcase : rng l x.next = false
    · have HRV := Lib.hid (prt_set HI.out hcase)
      have HEND := Lib.hid (show PtEnd b l p s (.inr (x.set, x.next)) w2 from ⟨H1.out, H3.out⟩)
      rw [hcase] at hrg
      have HG := Lib.hid hrg; clear hrg hcase
      cases d1 with
      | false =>
        go_wp2_with fail
        rw [← HW2.out]
        refine region_fr_all (by kernel_rfl) (by kernel_rfl) ?_
        repeat (go_big_quiet_step ((first | (with_reducible exact calls_fr (C1.out _ (grown_fr _ _ _))) | (with_reducible exact calls_fr (C2.out _ (grown_fr _ _ _))))))
        refine wpQuiet_nil ?_
        intro wC fC
        go_wp2
        (try simp only [Exit.inBlock, Exit.then])
        have hzc := fC.heap HZ2.out (fun x => x)
        refine bodyPost_ret (results_set (s := s) rfl rfl (setFour_heap hzc _ _ _ _)) rfl ⟨s, rfl, HS.out, setFour_frS (F2.out.trans fC (fun i hi e => e.elim)) (Nat.le_refl _) _ _ _ _, ?_⟩
        rw [← HR.out, HRV.out]
        exact HEND.out.to fun x r q h => setFour_old (h.on fC) (by omega) _ _ _ _
      | true =>
        cases d2 with
        | true =>
          go_wp2_with fail
          rw [← HW2.out]
          refine region_fr_all (by kernel_rfl) (by kernel_rfl) ?_
          repeat (go_big_quiet_step ((first | (with_reducible exact calls_fr (C1.out _ (grown_fr _ _ _))) | (with_reducible exact calls_fr (C2.out _ (grown_fr _ _ _))))))
          refine wpQuiet_nil ?_
          intro wC fC
          go_wp2
          (try simp only [Exit.inBlock, Exit.then])
          have hzc := fC.heap HZ2.out (fun x => x)
          refine bodyPost_ret (results_set (s := s) rfl rfl (setFour_heap hzc _ _ _ _)) rfl ⟨s, rfl, HS.out, setFour_frS (F2.out.trans fC (fun i hi e => e.elim)) (Nat.le_refl _) _ _ _ _, ?_⟩
          rw [← HR.out, HRV.out]
          exact HEND.out.to fun x r q h => setFour_old (h.on fC) (by omega) _ _ _ _
        | false =>
          have tn : (l.length : Int) ≤ (x.next : Int) + 1 := by
            have := HG.out; simp at this; omega
          go_wp2_with fail
          rw [← HW2.out]
          refine region_fr_all (by kernel_rfl) (by kernel_rfl) ?_
          repeat (go_big_quiet_step ((first | (with_reducible exact calls_fr (C1.out _ (grown_fr _ _ _))) | (with_reducible exact calls_fr (C2.out _ (grown_fr _ _ _))))))
          refine wpQuiet_nil ?_
          intro wC fC
          go_wp2
          (try simp only [Exit.inBlock, Exit.then])
          have hzc := fC.heap HZ2.out (fun x => x)
          refine bodyPost_ret (results_set (s := s) rfl rfl (setFour_heap hzc _ _ _ _)) rfl ⟨s, rfl, HS.out, setFour_frS (F2.out.trans fC (fun i hi e => e.elim)) (Nat.le_refl _) _ _ _ _, ?_⟩
          rw [← HR.out, HRV.out]
          exact HEND.out.to fun x r q h => setFour_old (h.on fC) (by omega) _ _ _ _
    · have hcase : rng l x.next = true := by simpa using hcase
      rw [hcase] at hrg
      simp only [Bool.and_eq_true, decide_eq_true_eq, Bool.not_eq_true', eq_comm (a := true)] at hrg
      obtain ⟨⟨htn, rfl⟩, rfl⟩ := hrg
      have tn : ¬ ((l.length : Int) ≤ (x.next : Int) + 1) := by omega
      have HCASE := Lib.hid hcase; clear hcase
      go_wp2_with fail
      rw [← HW2.out]
      refine region_fr_all (by kernel_rfl) (by kernel_rfl) ?_
      repeat (go_big_quiet_step ((first | (with_reducible exact calls_fr (C1.out _ (grown_fr _ _ _))) | (with_reducible exact calls_fr (C2.out _ (grown_fr _ _ _))))))
      refine wpQuiet_nil ?_
      intro wC fC
      obtain ⟨w3, hw3⟩ : ∃ w3, w3 = wC.setCell ⟨b, 1, none⟩ (.int .i64 ((x.next : Int) + 1)) := ⟨_, rfl⟩
      have hR3 : Rd w3 b l ((x.next + 1 : Nat) : Int) 0 p := by
        rw [hw3, show ((x.next + 1 : Nat) : Int) = (x.next : Int) + 1 by omega]; exact heap_setCell_at (fC.heap H3.out (fun x => x)) 1 _
      have f23 : Fr (fun k => k = b) w2 w3 := by rw [hw3]; exact Fr.setCell (S := fun k => k = b) (p := ⟨b, 1, none⟩) fC.any (fun _ => rfl) _
      have hz3 := f23.heap HZ2.out (fun e => by omega)
      have hx3 := f23.heap HX2.out (fun e => by omega)
      have F3 := Lib.hid (F2.out.trans f23 (fun i hi e => e)); have HE3 := Lib.hid (HE2.out.on2 f23 hb)
      have HW3 := Lib.hid hw3; have HR3 := Lib.hid hR3; have HZ3 := Lib.hid hz3; have HX3 := Lib.hid hx3
      clear hw3 hR3 f23 hz3 hx3
      go_wp2_with fail
      rw [← HW3.out]
      refine (item_any b l (x.next + 1) p w3 hl (by omega) hb HE3.out HR3.out).mono ?_
      rintro e w4 ⟨s', o', rfl, hs', f4, hend4⟩
      have hz4 := f4.heap HZ3.out (fun e => by omega)
      have hx4 := f4.heap HX3.out (fun e => by omega)
      have hlz4 := lt_heap hz4
      have hlx4 := lt_heap hx4
      obtain ⟨a', r, q, ha', hR4, hbad, hgood⟩ := part_fin HI.out HCASE.out hend4
      have hbw4 := lt_heap hR4
      obtain ⟨w5, hw5⟩ : ∃ w5, w5 = w4.alloc (.cells #[.int .u64 s'.a, .int .u64 s'.b, .int .u64 s'.c, .int .u64 s'.d, .bool o'] 203) := ⟨_, rfl⟩
      have f45 : Fr nob w4 w5 := by rw [hw5]; exact (Fr.refl _ _).alloc _
      have hz5 := f45.heap hz4 (fun x => x)
      have hx5 := f45.heap hx4 (fun x => x)
      have hy5 : w5.heap[w4.heap.size]? = some (.cells #[.int .u64 s'.a, .int .u64 s'.b, .int .u64 s'.c, .int .u64 s'.d, .bool o'] 203 (0, 0)) := by rw [hw5]; exact newAt _ _
      have hR5 := hR4.on f45
      have hss : s = x.set := H1.out
      have hoo : o = x.one.isSome := H2.out
      rw [HR.out, ← hss] at hbad hgood
      rw [← hoo] at hbad hgood
      have hl1 := lst_lt s
      have hl2 := lst_lt s'
      obtain ⟨m1, hm1⟩ : ∃ m, lst s = m := ⟨_, rfl⟩
      obtain ⟨m2, hm2⟩ : ∃ m, lst s' = m := ⟨_, rfl⟩
      have hT5 : Env w5 := ((HE3.out.on2 f4 hb).on f45)
      have hc3 : ∀ w', Fr nob w5 w' → _ := fun w' f => itLeast_fix s o w' HS.out (hT5.on f).1
      have hc4 : ∀ w', Fr nob w5 w' → _ := fun w' f => itLeast_fix s' o' w' hs' (hT5.on f).1
      have LX0 := fun w' (h : Env w') => itLeast_fix s o w' HS.out h.1
      have LY0 := fun w' (h : Env w') => itLeast_fix s' o' w' hs' h.1
      rw [hm1] at LX0
      rw [hm2] at LY0
      have LX := Lib.hid LX0; have LY := Lib.hid LY0
      clear LX0 LY0
      rw [hm1] at hl1 hc3 hbad hgood
      rw [hm2] at hl2 hc4 hbad hgood
      have hfit := fit_spn m1 m2
      have hsp := fun w => span_lit m1 m2 w hl1 hl2
      obtain ⟨S, hS⟩ : ∃ S, spn m1 m2 = S := ⟨_, rfl⟩
      rw [hS] at hbad hgood hfit hsp
      have ry5 := rule5 hy5
      have rx5 := rule5 hx5
      have rz5 := rule4 hz5
      have F5 := Lib.hid ((F3.out.trans f4 (fun i hi e => e)).trans f45 (fun i hi e => e.elim))
      have HZ5 := Lib.hid hz5; have HX5 := Lib.hid hx5; have HY5 := Lib.hid hy5; have HR5 := Lib.hid hR5; have HW5 := Lib.hid hw5
      have C3 := Lib.hid hc3; have C4 := Lib.hid hc4; have CS := Lib.hid hsp; have HB := Lib.hid hbad; have HG := Lib.hid hgood; have HF := Lib.hid hfit; have HT5 := Lib.hid hT5
      clear hz4 hx4 hR4 hbad hgood hw5 f45 hz5 hx5 hy5 hR5 hc3 hc4 hsp hS hfit f4 hend4 hs' hT5 rx2 rz2 r4 fC hss hoo hm1 hm2
      cases o with
      | false =>
        go_wp2_with fail
        rw [← HW5.out]
        refine region_fr_all (by kernel_rfl) (by kernel_rfl) ?_
        repeat (go_big_quiet_step ((first | (with_reducible exact calls_fr (C3.out _ (grown_fr _ _ _))) | (with_reducible exact calls_fr (C4.out _ (grown_fr _ _ _))))))
        refine wpQuiet_nil ?_
        intro wE fE
        go_wp2_with fail
        refine (fail_any b l a' r q 1 a wE (HR5.out.on fE)).mono ?_
        rintro e w6 ⟨rfl, hR6, f6⟩
        have hpe := HB.out w6 (by simp) hR6
        have f56 : Fr (fun k => k = b) w5 w6 := fE.any.trans f6 (fun i hi e => e)
        have hz6 := f56.heap HZ5.out (fun e => by omega)
        have hx6 := f56.heap HX5.out (fun e => by omega)
        have hy6 := f56.heap HY5.out (fun e => by omega)
        have rz6 := rule4 hz6
        have rx6 := rule5 hx6
        have ry6 := rule5 hy6
        have hc5 : ∀ w', Fr nob w6 w' → _ := fun w' f => LX.out w' ((HT5.out.on2 f56 hb).on f)
        have hc6 : ∀ w', Fr nob w6 w' → _ := fun w' f => LY.out w' ((HT5.out.on2 f56 hb).on f)
        have C5 := Lib.hid hc5; have C6 := Lib.hid hc6; have F6 := Lib.hid (F5.out.trans f56 (fun i hi e => e)); have HPE := Lib.hid hpe; have HZ6 := Lib.hid hz6
        clear hc5 hc6 hz6 hx6 hy6 f56 hpe
        go_wp2_with fail
        refine region_fr 5 (by kernel_rfl) (by kernel_rfl) ?_
        simp only [List.take_succ_cons, List.take_zero, List.drop_succ_cons, List.drop_zero]
        repeat (go_big_quiet_step ((first | (with_reducible exact calls_fr (C5.out _ (grown_fr _ _ _))) | (with_reducible exact calls_fr (C6.out _ (grown_fr _ _ _))) | (with_reducible exact calls_fr (CS.out _)))))
        refine wpQuiet_nil ?_
        intro wC fC
        go_wp2
        (try simp only [Exit.inBlock, Exit.then])
        have hzc := fC.heap HZ6.out (fun x => x)
        have hlzc := lt_heap hzc
        refine bodyPost_ret (results_set (s := S) rfl rfl (setFour_heap hzc _ _ _ _)) rfl ⟨S, rfl, HF.out, setFour_frS (F6.out.trans fC (fun i hi e => e.elim)) (Nat.le_refl _) _ _ _ _, ?_⟩
        exact HPE.out.to fun x r q h => setFour_old (h.on fC) (by omega) _ _ _ _
      | true =>
        cases o' with
        | false =>
          go_wp2_with fail
          rw [← HW5.out]
          refine region_fr_all (by kernel_rfl) (by kernel_rfl) ?_
          repeat (go_big_quiet_step ((first | (with_reducible exact calls_fr (C3.out _ (grown_fr _ _ _))) | (with_reducible exact calls_fr (C4.out _ (grown_fr _ _ _))))))
          refine wpQuiet_nil ?_
          intro wE fE
          go_wp2_with fail
          refine (fail_any b l a' r q 1 a wE (HR5.out.on fE)).mono ?_
          rintro e w6 ⟨rfl, hR6, f6⟩
          have hpe := HB.out w6 (by simp) hR6
          have f56 : Fr (fun k => k = b) w5 w6 := fE.any.trans f6 (fun i hi e => e)
          have hz6 := f56.heap HZ5.out (fun e => by omega)
          have hx6 := f56.heap HX5.out (fun e => by omega)
          have hy6 := f56.heap HY5.out (fun e => by omega)
          have rz6 := rule4 hz6
          have rx6 := rule5 hx6
          have ry6 := rule5 hy6
          have hc5 : ∀ w', Fr nob w6 w' → _ := fun w' f => LX.out w' ((HT5.out.on2 f56 hb).on f)
          have hc6 : ∀ w', Fr nob w6 w' → _ := fun w' f => LY.out w' ((HT5.out.on2 f56 hb).on f)
          have C5 := Lib.hid hc5; have C6 := Lib.hid hc6; have F6 := Lib.hid (F5.out.trans f56 (fun i hi e => e)); have HPE := Lib.hid hpe; have HZ6 := Lib.hid hz6
          clear hc5 hc6 hz6 hx6 hy6 f56 hpe
          go_wp2_with fail
          refine region_fr 5 (by kernel_rfl) (by kernel_rfl) ?_
          simp only [List.take_succ_cons, List.take_zero, List.drop_succ_cons, List.drop_zero]
          repeat (go_big_quiet_step ((first | (with_reducible exact calls_fr (C5.out _ (grown_fr _ _ _))) | (with_reducible exact calls_fr (C6.out _ (grown_fr _ _ _))) | (with_reducible exact calls_fr (CS.out _)))))
          refine wpQuiet_nil ?_
          intro wC fC
          go_wp2
          (try simp only [Exit.inBlock, Exit.then])
          have hzc := fC.heap HZ6.out (fun x => x)
          have hlzc := lt_heap hzc
          refine bodyPost_ret (results_set (s := S) rfl rfl (setFour_heap hzc _ _ _ _)) rfl ⟨S, rfl, HF.out, setFour_frS (F6.out.trans fC (fun i hi e => e.elim)) (Nat.le_refl _) _ _ _ _, ?_⟩
          exact HPE.out.to fun x r q h => setFour_old (h.on fC) (by omega) _ _ _ _
        | true =>
          by_cases hlt : (m2 : Int) < m1
          · have hlt' := hlt
            go_wp2_with fail
            rw [← HW5.out]
            refine region_fr_all (by kernel_rfl) (by kernel_rfl) ?_
            repeat (go_big_quiet_step ((first | (with_reducible exact calls_fr (C3.out _ (grown_fr _ _ _))) | (with_reducible exact calls_fr (C4.out _ (grown_fr _ _ _))))))
            refine wpQuiet_nil ?_
            intro wE fE
            go_wp2_with fail
            refine (fail_any b l a' r q 1 a wE (HR5.out.on fE)).mono ?_
            rintro e w6 ⟨rfl, hR6, f6⟩
            have hpe := HB.out w6 (.inr (.inr (by omega))) hR6
            have f56 : Fr (fun k => k = b) w5 w6 := fE.any.trans f6 (fun i hi e => e)
            have hz6 := f56.heap HZ5.out (fun e => by omega)
            have hx6 := f56.heap HX5.out (fun e => by omega)
            have hy6 := f56.heap HY5.out (fun e => by omega)
            have rz6 := rule4 hz6
            have rx6 := rule5 hx6
            have ry6 := rule5 hy6
            have hc5 : ∀ w', Fr nob w6 w' → _ := fun w' f => LX.out w' ((HT5.out.on2 f56 hb).on f)
            have hc6 : ∀ w', Fr nob w6 w' → _ := fun w' f => LY.out w' ((HT5.out.on2 f56 hb).on f)
            have C5 := Lib.hid hc5; have C6 := Lib.hid hc6; have F6 := Lib.hid (F5.out.trans f56 (fun i hi e => e)); have HPE := Lib.hid hpe; have HZ6 := Lib.hid hz6
            clear hc5 hc6 hz6 hx6 hy6 f56 hpe
            go_wp2_with fail
            refine region_fr 5 (by kernel_rfl) (by kernel_rfl) ?_
            simp only [List.take_succ_cons, List.take_zero, List.drop_succ_cons, List.drop_zero]
            repeat (go_big_quiet_step ((first | (with_reducible exact calls_fr (C5.out _ (grown_fr _ _ _))) | (with_reducible exact calls_fr (C6.out _ (grown_fr _ _ _))) | (with_reducible exact calls_fr (CS.out _)))))
            refine wpQuiet_nil ?_
            intro wC fC
            go_wp2
            (try simp only [Exit.inBlock, Exit.then])
            have hzc := fC.heap HZ6.out (fun x => x)
            have hlzc := lt_heap hzc
            refine bodyPost_ret (results_set (s := S) rfl rfl (setFour_heap hzc _ _ _ _)) rfl ⟨S, rfl, HF.out, setFour_frS (F6.out.trans fC (fun i hi e => e.elim)) (Nat.le_refl _) _ _ _ _, ?_⟩
            exact HPE.out.to fun x r q h => setFour_old (h.on fC) (by omega) _ _ _ _
          · have hlt' := hlt
            go_wp2_with fail
            rw [← HW5.out]
            refine region_fr_all (by kernel_rfl) (by kernel_rfl) ?_
            repeat (go_big_quiet_step ((first | (with_reducible exact calls_fr (C3.out _ (grown_fr _ _ _))) | (with_reducible exact calls_fr (C4.out _ (grown_fr _ _ _))))))
            refine wpQuiet_nil ?_
            intro wE fE
            obtain ⟨w6, hw6⟩ : ∃ w6, w6 = wE := ⟨_, rfl⟩
            have hpe := HG.out w6 (by simp) (by simp) (by omega) (by rw [hw6]; exact HR5.out.on fE)
            have f56 : Fr (fun k => k = b) w5 w6 := by rw [hw6]; exact fE.any
            rw [← hw6]
            clear hw6
            have hz6 := f56.heap HZ5.out (fun e => by omega)
            have hx6 := f56.heap HX5.out (fun e => by omega)
            have hy6 := f56.heap HY5.out (fun e => by omega)
            have rz6 := rule4 hz6
            have rx6 := rule5 hx6
            have ry6 := rule5 hy6
            have hc5 : ∀ w', Fr nob w6 w' → _ := fun w' f => LX.out w' ((HT5.out.on2 f56 hb).on f)
            have hc6 : ∀ w', Fr nob w6 w' → _ := fun w' f => LY.out w' ((HT5.out.on2 f56 hb).on f)
            have C5 := Lib.hid hc5; have C6 := Lib.hid hc6; have F6 := Lib.hid (F5.out.trans f56 (fun i hi e => e)); have HPE := Lib.hid hpe; have HZ6 := Lib.hid hz6
            clear hc5 hc6 hz6 hx6 hy6 f56 hpe
            go_wp2_with fail
            refine region_fr 5 (by kernel_rfl) (by kernel_rfl) ?_
            simp only [List.take_succ_cons, List.take_zero, List.drop_succ_cons, List.drop_zero]
            repeat (go_big_quiet_step ((first | (with_reducible exact calls_fr (C5.out _ (grown_fr _ _ _))) | (with_reducible exact calls_fr (C6.out _ (grown_fr _ _ _))) | (with_reducible exact calls_fr (CS.out _)))))
            refine wpQuiet_nil ?_
            intro wC fC
            go_wp2
            (try simp only [Exit.inBlock, Exit.then])
            have hzc := fC.heap HZ6.out (fun x => x)
            have hlzc := lt_heap hzc
            refine bodyPost_ret (results_set (s := S) rfl rfl (setFour_heap hzc _ _ _ _)) rfl ⟨S, rfl, HF.out, setFour_frS (F6.out.trans fC (fun i hi e => e.elim)) (Nat.le_refl _) _ _ _ _, ?_⟩
            exact HPE.out.to fun x r q h => setFour_old (h.on fC) (by omega) _ _ _ _

end Go.Proofs.YtlchaocpejfikaaGreatDoor

/-
  Walks of package bracket: Parse.
-/
namespace Go.Proofs.YtlchaocpejfikaaGreatDoor
open Go.RowKit

theorem Env.big {w : World} (h : Env w) : envB ≤ w.heap.size + 1 := by
  obtain ⟨m, hm⟩ := h.2
  have h1 := World.block_lt_of_cell? w _ hm
  have h2 := h.1.lt
  simp only at h1
  unfold envB
  omega
def prsV : (Int × Nat) ⊕ (S4 × Nat) → Value
  | .inl z => .tuple #[setV S4.zero, .int .i64 z.2, .int .i64 z.1]
  | .inr x => .tuple #[setV x.1, .int .i64 x.2, .int .i64 0]

/-- A set and two numbers that are handed back. -/
theorem results_set3 {fn : Func} {p q r : Tmp} (h : fn.results = #[.cell p 27, .tmp q, .tmp r]) {tmps : Array Value} {b : Nat} (ht : tmps.getD p undef = .pointer (some ⟨b, 0, none⟩)) {u v : Value} (hq : tmps.getD q undef = u) (hr : tmps.getD r undef = v) {W : World} {s : S4}
    (hb : W.heap[b]? = some (.cells #[.int .u64 s.a, .int .u64 s.b, .int .u64 s.c, .int .u64 s.d] 27 (0, 0))) : (results fn tmps).run Tryz.prog W = .ok (.tuple #[setV s, u, v]) W := by
  have c0 := cell_at (j := 0) (v := .int .u64 s.a) hb rfl
  have c1 := cell_at (j := 1) (v := .int .u64 s.b) hb rfl
  have c2 := cell_at (j := 2) (v := .int .u64 s.c) hb rfl
  have c3 := cell_at (j := 3) (v := .int .u64 s.d) hb rfl
  have ht' : tmps[p]?.getD undef = .pointer (some ⟨b, 0, none⟩) := by rw [← ht]; simp
  have hq' : tmps[q]?.getD undef = u := by rw [← hq]; simp
  have hr' : tmps[r]?.getD undef = v := by rw [← hr]; simp
  simp only [results, h]
  simp [ht', hq', hr', go_sem, c0, c1, c2, c3]

abbrev Q4 (w : World) (b : Nat) (s : S4) : Prop := w.cell? ⟨b, 0, none⟩ = some (.int .u64 s.a) ∧ w.cell? ⟨b, 1, none⟩ = some (.int .u64 s.b) ∧ w.cell? ⟨b, 2, none⟩ = some (.int .u64 s.c) ∧ w.cell? ⟨b, 3, none⟩ = some (.int .u64 s.d)
abbrev At4 (w : World) (b : Nat) (s : S4) : Prop := w.heap[b]? = some (.cells #[.int .u64 s.a, .int .u64 s.b, .int .u64 s.c, .int .u64 s.d] 27 (0, 0))
theorem Q4.of {w : World} {b : Nat} {s : S4} (h : At4 w b s) : Q4 w b s := ⟨cell_at h rfl, cell_at h rfl, cell_at h rfl, cell_at h rfl⟩
theorem or_lit (s t : S4) (w : World) : Calls Tryz.prog 132 #[setV s, setV t] w fun e w' => e = .returned (setV (s.or t)) ∧ Fr nob w w' := or_any s t w
theorem not_lit (s : S4) (w : World) : Calls Tryz.prog 53 #[setV s] w fun e w' => e = .returned (setV s.not) ∧ Fr nob w w' := not_any s w

/-- What the loop is to come to. -/
def lopF (l : List UInt8) (n : Nat) : (Int × Nat) ⊕ (S4 × Nat) → (Int × Nat) ⊕ (S4 × Nat)
  | .inl z => .inl z
  | .inr x => lop l n x.2 x.1
def lopN (l : List UInt8) (n : Nat) (R : (Int × Nat) ⊕ (S4 × Nat)) : Prop := ∀ x, R = .inr x → x.2 ≤ l.length ∧ l.length < n + x.2
def orF (s : S4) : (Int × Nat) ⊕ (S4 × Nat) → (Int × Nat) ⊕ (S4 × Nat)
  | .inl z => .inl z
  | .inr x => .inr (s.or x.1, x.2)
theorem lop_go {l : List UInt8} {n a : Nat} {s : S4} (h : l[a]? ≠ some 93) : lop l (n + 1) a s = lopF l n (orF s (prt l a)) := by
  rw [lop, if_neg h]
  cases prt l a <;> rfl
theorem lop_end {l : List UInt8} {n a : Nat} {s : S4} (h : l[a]? = some 93) : lop l (n + 1) a s = .inr (s, a) := by rw [lop, if_pos h]
theorem lopN_go {l : List UInt8} {n a : Nat} {s : S4} (hn : l.length < n + 1 + a) : lopN l n (orF s (prt l a)) := by
  intro x hx
  cases hp : prt l a with
  | inl z => rw [hp] at hx; cases hx
  | inr y =>
    rw [hp] at hx
    injection hx with hx; subst hx
    have := prt_next hp
    exact ⟨this.2.1, by simp only; omega⟩
theorem PtEnd.or {b : Nat} {l : List UInt8} {p : Int} {s t : S4} {R : (Int × Nat) ⊕ (S4 × Nat)} {w : World} (h : PtEnd b l p s R w) : PtEnd b l p (t.or s) (orF t R) w := by
  cases R with
  | inr x => exact ⟨by rw [h.1], h.2⟩
  | inl z => exact h
def prsNot (d : Bool) : (Int × Nat) ⊕ (S4 × Nat) → (Int × Nat) ⊕ (S4 × Nat)
  | .inl z => .inl z
  | .inr y => .inr (if d then y.1.not else y.1, y.2 + 1)
theorem prs_yes {l : List UInt8} {a : Nat} (h : [94].isPrefixOf (l.drop a) = true) : prs l a = prsNot true (lopF l (l.length + 1) (prt l (a + 1))) := by
  have h := pre1.1 h
  unfold prs prsNot lopF
  simp only [h, if_true]
  cases prt l (a + 1) with
  | inl z => rfl
  | inr x => simp only; cases lop l (l.length + 1) x.2 x.1 <;> rfl
theorem prs_no {l : List UInt8} {a : Nat} (h : [94].isPrefixOf (l.drop a) = false) : prs l a = prsNot false (lopF l (l.length + 1) (prt l a)) := by
  have h : ¬ l[a]? = some 94 := fun e => by rw [pre1.2 e] at h; cases h
  unfold prs prsNot lopF
  simp only [if_neg h]
  cases prt l a with
  | inl z => rfl
  | inr x => simp only; cases lop l (l.length + 1) x.2 x.1 <;> rfl

theorem setFour_one (w : World) (b : Nat) (v0 v1 v2 v3 : Value) : Fr (fun k => k = b) w (setFour w b v0 v1 v2 v3) :=
  have h : ∀ (x : World) (j : Nat) (v : Value), Fr (fun k => k = b) w x → Fr (fun k => k = b) w (x.setCell ⟨b, j, none⟩ v) := fun x j v hx => hx.setCell (p := ⟨b, j, none⟩) (fun _ => rfl) v
  h _ _ _ (h _ _ _ (h _ _ _ (h _ _ _ (Fr.refl _ _))))
theorem itm_not91 {l : List UInt8} {a : Nat} (ha : a < l.length) (h : ¬ l[a] = 91) : itm l a = .inr ⟨spn (l[a]).toNat (l[a]).toNat, some l[a], a + 1⟩ := by
  unfold itm
  rw [List.getElem?_eq_getElem ha]; simp only
  split
  · rfl
  · rw [if_neg (fun e => h e.1)]
theorem itm_last {l : List UInt8} {a : Nat} (ha : a < l.length) (h : l.length ≤ a + 1) : itm l a = .inr ⟨spn (l[a]).toNat (l[a]).toNat, some l[a], a + 1⟩ := by
  unfold itm
  rw [List.getElem?_eq_getElem ha]; simp only
  rw [List.getElem?_eq_none h]
theorem itm_unkind {l : List UInt8} {a : Nat} (ha : a + 1 < l.length) (h : isKind l[a + 1] = false) : itm l a = .inr ⟨spn (l[a]).toNat (l[a]).toNat, some l[a], a + 1⟩ := by
  unfold itm
  rw [List.getElem?_eq_getElem (by omega : a < l.length)]; simp only
  rw [List.getElem?_eq_getElem ha]; simp only
  rw [if_neg (fun e => by rw [h] at e; exact absurd e.2 (by simp))]
theorem itm_kind {l : List UInt8} {a : Nat} {k : UInt8} (ha : a + 1 < l.length) (h : l[a] = 91) (hk : l[a + 1] = k) (h2 : isKind k = true) : itm l a = itmN l a k := by
  unfold itm
  rw [List.getElem?_eq_getElem (by omega : a < l.length)]; simp only
  rw [List.getElem?_eq_getElem ha]; simp only
  rw [hk, if_pos ⟨h, h2⟩]
def colIt' (a e : Nat) : Option (Int → Bool) → (Int × Nat) ⊕ It
  | none => .inl (6, a)
  | some p => .inr ⟨pk p 256, none, e + 2⟩
abbrev RQ (w : World) (b : Nat) (v2 v3 : Value) : Prop := w.cell? ⟨b, 2, none⟩ = some v2 ∧ w.cell? ⟨b, 3, none⟩ = some v3
theorem cell_ne {w : World} {b c i j : Nat} {v u : Value} (h : w.cell? ⟨b, i, none⟩ = some v) (hn : c ≠ b) : (w.setCell ⟨c, j, none⟩ u).cell? ⟨b, i, none⟩ = some v := by
  have hb : (w.setCell ⟨c, j, none⟩ u).heap[b]? = w.heap[b]? := by
    cases hx : w.heap[b]? with
    | none =>
      have : w.heap.size ≤ b := Array.getElem?_eq_none_iff.1 hx
      exact Array.getElem?_eq_none_iff.2 (by simpa using this)
    | some x => exact heap_setCell_ne hx (Ne.symm hn) _
  unfold World.cell? at h ⊢
  simp only [hb]
  exact h
theorem RQ.drew {w : World} {b : Nat} {v2 v3 : Value} (h : RQ w b v2 v3) : RQ w.drew b v2 v3 := h
theorem RQ.set {w : World} {b c j : Nat} {v2 v3 : Value} (h : RQ w b v2 v3) (hn : c ≠ b) (u : Value) : RQ (w.setCell ⟨c, j, none⟩ u) b v2 v3 := ⟨cell_ne h.1 hn, cell_ne h.2 hn⟩
abbrev RA (w : World) (b : Nat) (v1 : Value) (r9 : Nat) (s : S4) : Prop := w.cell? ⟨b, 1, none⟩ = some v1 ∧ Q4 w r9 s
theorem RA.drew {w : World} {b r9 : Nat} {v1 : Value} {s : S4} (h : RA w b v1 r9 s) : RA w.drew b v1 r9 s := h
theorem RA.set {w : World} {b c j r9 : Nat} {v1 : Value} {s : S4} (h : RA w b v1 r9 s) (hn : c ≠ b) (hn9 : c ≠ r9) (u : Value) : RA (w.setCell ⟨c, j, none⟩ u) b v1 r9 s :=
  ⟨cell_ne h.1 hn, cell_ne h.2.1 hn9, cell_ne h.2.2.1 hn9, cell_ne h.2.2.2.1 hn9, cell_ne h.2.2.2.2 hn9⟩

end Go.Proofs.YtlchaocpejfikaaGreatDoor

/-
  A basic regex in plain words: how it is read. No walk.
-/
namespace Go.Proofs.YtlchaocpejfikaaGreatDoor
open Go.RowKit

/-- How trees are made: the program's, and the document's. -/
structure Alg (α : Type) where
  one : S4 → α
  rep : α → Int → Int → α
  group : Int → α → α
  back : Int → α
  start : α
  fin : α
  join : List α → α
  choose : List α → α

/-- How far a text is read, the groups opened and closed, the marks. -/
structure RxS where
  at_ : Nat
  opened : Nat
  closed : List Nat
  marks : List (Nat × List UInt8)

/-- What is wrong, and where; or what was read, and how far. -/
abbrev Out (α : Type) := (Int × Nat) ⊕ (α × RxS)

def ahd (l : List UInt8) (k : Nat) (t : List UInt8) : Bool := t.isPrefixOf (l.drop k)
def RxS.go (s : RxS) (n : Nat) : RxS := { s with at_ := s.at_ + n }
def RxS.to (s : RxS) (n : Nat) : RxS := { s with at_ := n }
def RxS.mark (s : RxS) (t : List UInt8) : RxS := { s with marks := s.marks ++ [(s.at_, t)] }

/-- 1 to 3 digits: how many so far, the number so far. -/
def num3 : List UInt8 → Nat → Nat → Nat × Nat
  | [], c, n => (n, c)
  | x :: r, c, n => if 48 ≤ x.toNat ∧ x.toNat ≤ 57 ∧ c ≠ 3 then num3 r (c + 1) (n * 10 + (x.toNat - 48)) else (n, c)

/-- The bounds behind the opening sign. -/
def itvB (l : List UInt8) (k : Nat) : Option (Int × Int × Nat) :=
  let m := num3 (l.drop k) 0 0
  if m.2 = 0 then none
  else
    let k1 := k + m.2
    let x := num3 (l.drop (k1 + 1)) 0 0
    let mx : Int := if ahd l k1 [44] then (if x.2 = 0 then -1 else x.1) else m.1
    let k2 := if ahd l k1 [44] then k1 + 1 + x.2 else k1
    if ahd l k2 [92, 125] = false ∨ 255 < m.1 ∨ 255 < mx ∨ (0 ≤ mx ∧ mx < m.1) then none else some (m.1, mx, k2 + 2)

section
variable {α : Type} (A : Alg α) (l : List UInt8)

/-- The repetitions of an atom. -/
def repS : Nat → RxS → α → Out α
  | 0, s, t => .inr (t, s)
  | n + 1, s, t =>
    if ahd l s.at_ [92, 43] then repS n ((s.mark [92, 43]).go 2) (A.rep t 1 (-1))
    else if ahd l s.at_ [92, 63] then repS n ((s.mark [92, 63]).go 2) (A.rep t 0 1)
    else if ahd l s.at_ [92, 123] then
      match itvB l (s.at_ + 2) with
      | none => .inl (7, s.at_)
      | some (m, x, k) => repS n (s.to k) (A.rep t m x)
    else if ahd l s.at_ [42] then repS n (s.go 1) (A.rep t 0 (-1))
    else .inr (t, s)

/-- The set of a byte behind a backslash; whether that is an extension. -/
def wordS : S4 := (clsSet (clsOf ⟨#[97, 108, 110, 117, 109]⟩)).or (spn 95 95)
def spaceS : S4 := clsSet (clsOf ⟨#[115, 112, 97, 99, 101]⟩)
def punctS : S4 := clsSet (clsOf ⟨#[112, 117, 110, 99, 116]⟩)
def escB (b : UInt8) : Option (S4 × Bool) :=
  if b = 110 then some (spn 10 10, false)
  else if b = 116 then some (spn 9 9, true)
  else if b = 119 then some (wordS, true)
  else if b = 87 then some (wordS.not, true)
  else if b = 115 then some (spaceS, true)
  else if b = 83 then some (spaceS.not, true)
  else if punctS.has b.toNat then some (spn b.toNat b.toNat, false)
  else none

/-- A group, behind its opening sign: 'C' reads what stands in it; none: too deep. -/
def groupS (C : Option (RxS → Out α)) (begin : Nat) (s : RxS) : Out α :=
  match C with
  | none => .inl (4, begin)
  | some f =>
    match f { s with opened := s.opened + 1 } with
    | .inl e => .inl e
    | .inr (t, s') =>
      if ahd l s'.at_ [92, 41] then .inr (A.group ((s.opened + 1 : Nat) : Int) t, { s'.go 2 with closed := s'.closed ++ [s.opened + 1] })
      else .inl (8, begin)

/-- A backslash, and what stands behind it. -/
def escS (C : Option (RxS → Out α)) (s : RxS) : Out α :=
  match l[s.at_ + 1]? with
  | none => .inl (11, s.at_)
  | some b =>
    if ahd l s.at_ [92, 40] then groupS A l C s.at_ (s.go 2)
    else if ahd l s.at_ [92, 41] then .inl (8, s.at_)
    else if 49 ≤ b.toNat ∧ b.toNat ≤ 57 then
      (if s.closed.contains (b.toNat - 48) then .inr (A.back ((b.toNat - 48 : Nat) : Int), s.go 2) else .inl (9, s.at_))
    else
      match escB b with
      | none => .inl (2, s.at_)
      | some (c, m) => .inr (A.one c, (if m then s.mark [92, b] else s).go 2)

/-- An atom: the byte at the place is b. -/
def atomS (C : Option (RxS → Out α)) (s : RxS) (b : UInt8) : Out α :=
  if b = 92 then escS A l C s
  else if b = 91 then
    match prs l (s.at_ + 1) with
    | .inl (e, p) => .inl (e, p)
    | .inr (c, k) => .inr (A.one c, s.to k)
  else if b = 46 then .inr (A.one (spn 0 255), s.go 1)
  else .inr (A.one (spn b.toNat b.toNat), s.go 1)

/-- Is a $ at the place an anchor? -/
def lastS (k : Nat) : Bool := (l.drop (k + 1)).isEmpty || ahd l (k + 1) [92, 41] || ahd l (k + 1) [92, 124]

/-- A branch's parts, from a place on; 'inner': in a group. -/
def brS (C : Option (RxS → Out α)) (inner : Bool) : Nat → Bool → RxS → List α → Out α
  | 0, _, s, ps => .inr (A.join ps, s)
  | n + 1, front, s, ps =>
    match l[s.at_]? with
    | none => .inr (A.join ps, s)
    | some b =>
      if ahd l s.at_ [92, 124] || (inner && ahd l s.at_ [92, 41]) then .inr (A.join ps, s)
      else if front && (ahd l s.at_ [92, 123] || (ahd l s.at_ [92, 43] || ahd l s.at_ [92, 63])) then .inl (10, s.at_)
      else if ahd l s.at_ [36] && lastS l s.at_ then brS C inner n false (s.go 1) (ps ++ [A.fin])
      else
        match atomS A l C s b with
        | .inl e => .inl e
        | .inr (t, s1) =>
          match repS A l (l.length + 1) s1 t with
          | .inl e => .inl e
          | .inr (t, s2) => brS C inner n false s2 (ps ++ [t])
def branchS (C : Option (RxS → Out α)) (inner : Bool) (s : RxS) : Out α :=
  if ahd l s.at_ [94] then brS A l C inner (l.length + 1) true (s.go 1) [A.start] else brS A l C inner (l.length + 1) true s []

/-- Branches, from the second on. -/
def chLoop (C : Option (RxS → Out α)) (inner : Bool) : Nat → RxS → List α → Out α
  | 0, s, ts => .inr (A.choose ts, s)
  | n + 1, s, ts =>
    if ahd l s.at_ [92, 124] then
      match branchS A l C inner ((s.mark [92, 124]).go 2) with
      | .inl e => .inl e
      | .inr (t, s') => chLoop C inner n s' (ts ++ [t])
    else .inr (A.choose ts, s)
def choiceS (C : Option (RxS → Out α)) (inner : Bool) (s : RxS) : Out α :=
  match branchS A l C inner s with
  | .inl e => .inl e
  | .inr (t, s') => chLoop A l C inner (l.length + 1) s' [t]
/-- At a depth: so many more may be in one another. -/
def chS : Nat → RxS → Out α
  | 0 => choiceS A l none true
  | n + 1 => choiceS A l (some (chS n)) (decide (n + 1 < 12))
def parseS : Out α := if 250 < l.length then .inl (3, 250) else chS A l 12 ⟨0, 0, [], []⟩
end
end Go.Proofs.YtlchaocpejfikaaGreatDoor

/-
  Package show: a text that grows (a strings.Builder in a struct); a byte as a regex, and in brackets.
-/
namespace Go.Proofs.YtlchaocpejfikaaGreatDoor
open Go.RowKit

/-- The text at a block: what it holds. -/
def TxB (b : Nat) (out : List UInt8) (g : Option Nat) (w : World) : Prop := ∃ cs, BldAt 5 56 b 0 cs out g w ∧ cs.size = 2
theorem TxB.new (w : World) : TxB w.heap.size [] none (w.alloc (.cells #[.pointer none, .slice none 0 0] 56)) :=
  ⟨_, ⟨heap_alloc_new w _, by simp, .inl rfl, .slice none 0 0, rfl, World.ownsRow_nil _ _ _ _, rfl, by simp, fun _ => rfl⟩, rfl⟩
theorem bldIn_text {n : Nat} (h : n = 2) : BldIn 56 n 0 := by subst h; unfold BldIn; kernel_rfl
/-- A text that grows beside blocks that stay: those that were there (W0), and K. -/
structure TxW (W0 : World) (K : Nat → Prop) (b : Nat) (out : List UInt8) (w : World) : Prop where
  fr : Fr nob W0 w
  tx : ∃ g, TxB b out g w ∧ ∀ k, (k < W0.heap.size ∨ K k) → k ≠ b ∧ some k ≠ g ∧ k < w.heap.size
/-- What a step may turn. -/
def Txn (W0 : World) (K : Nat → Prop) (k : Nat) : Prop := ¬ (k < W0.heap.size ∨ K k)
def TxA (W0 : World) (K : Nat → Prop) (b : Nat) (out : List UInt8) (w : World) (v : Value) (e : Ending) (w' : World) : Prop := e = .returned v ∧ TxW W0 K b out w' ∧ Fr (Txn W0 K) w w'
section
variable {W0 w w' : World} {K : Nat → Prop} {b : Nat} {out : List UInt8}
theorem TxB.on {g : Option Nat} {S : Nat → Prop} (h : TxB b out g w) (f : Fr S w w') (h1 : ¬ S b) (h2 : ∀ k, g = some k → ¬ S k) : TxB b out g w' := by
  obtain ⟨cs, ⟨hb, ho, hp, v, hv, hown, hg, hne, hni⟩, hs⟩ := h
  exact ⟨cs, ⟨f.heap hb h1, ho, hp, v, hv, ownsRow_fr hown f (fun k hk => h2 k (hg ▸ hk)), hg, hne, hni⟩, hs⟩
/-- Other steps leave it as it is. -/
theorem TxW.on {S : Nat → Prop} (h : TxW W0 K b out w) (f : Fr S w w') (hS : ∀ k, S k → K k ∧ W0.heap.size ≤ k) : TxW W0 K b out w' := by
  obtain ⟨fr, g, ht, hk⟩ := h
  refine ⟨fr.trans f (fun i hi x => by have := (hS i x).2; omega), g, ht.on f (fun x => (hk b (.inr (hS b x).1)).1 rfl) (fun k e x => (hk k (.inr (hS k x).1)).2.1 e.symm), fun k h => ?_⟩
  obtain ⟨h1, h2, h3⟩ := hk k h
  exact ⟨h1, h2, Nat.lt_of_lt_of_le h3 f.size⟩
theorem TxW.quiet (h : TxW W0 K b out w) (f : Fr nob w w') : TxW W0 K b out w' := h.on f (fun _ x => x.elim)
/-- A new block that stays. -/
theorem TxW.alloc (h : TxW W0 K b out w) (o : Obj) (hb : b < w.heap.size) : TxW W0 (fun k => K k ∨ k = w.heap.size) b out (w.alloc o) := by
  obtain ⟨fr, g, ht, hk⟩ := h
  have hg : ∀ k, g = some k → k < w.heap.size := by
    intro k e
    obtain ⟨cs, ⟨_, _, _, v, _, hown, hgv, _⟩, _⟩ := ht
    subst e
    rcases hown.2 with ⟨rfl, _⟩ | ⟨q, cap, cur, rfl, _, hh, _⟩
    · cases hgv
    · injection hgv with e; subst e; exact lt_heap hh
  refine ⟨fr.alloc o, g, ht.on ((Fr.refl nob w).alloc o) (fun x => x) (fun _ _ x => x), fun k hk' => ?_⟩
  have hsz : (w.alloc o).heap.size = w.heap.size + 1 := by simp
  rw [hsz]
  rcases hk' with h | h | rfl
  · obtain ⟨h1, h2, h3⟩ := hk k (.inl h); exact ⟨h1, h2, by omega⟩
  · obtain ⟨h1, h2, h3⟩ := hk k (.inr h); exact ⟨h1, h2, by omega⟩
  · exact ⟨by omega, fun e => by have := hg _ e.symm; omega, by omega⟩
theorem TxW.less {K' : Nat → Prop} (h : TxW W0 K b out w) (hK : ∀ k, K' k → K k) : TxW W0 K' b out w :=
  ⟨h.fr, let ⟨g, ht, hk⟩ := h.tx; ⟨g, ht, fun k x => hk k (x.imp id (hK k))⟩⟩
theorem TxW.lt (h : TxW W0 K b out w) : b < w.heap.size := by
  obtain ⟨_, _, ⟨_, ⟨hb, _⟩, _⟩, _⟩ := h
  exact lt_heap hb

theorem tx_byte (c : Int) (x : UInt8) (hc : 0 ≤ c ∧ c ≤ 255) (hx : c.toNat.toUInt8 = x) (h : TxW W0 K b out w) (hlen : out.length ≤ 140737488355327) :
    Calls Tryz.prog 51 #[.pointer (some ⟨b, 0, none⟩), .int .u8 c] w (TxA W0 K b (out ++ [x]) w .nilIface) := by
  obtain ⟨fr, g, ⟨cs, hb, hs⟩, hk⟩ := h
  refine (writeByte_any _ b 0 cs out g c w hc hb (bldIn_text hs) hlen).mono ?_
  rintro e w' ⟨rfl, v', hb', hf, hn⟩
  subst hx
  refine ⟨rfl, ⟨fr.trans hf (fun i hi x => ?_), _, ⟨_, hb', by rw [bldCells_size]; exact hs⟩, fun k hk' => ?_⟩, hf.mono (fun k _ x => ?_)⟩
  · rcases x with x | x
    · exact (hk i (.inl hi)).1 x
    · exact (hk i (.inl hi)).2.1 x
  · obtain ⟨h1, h2, h3⟩ := hk k hk'
    refine ⟨h1, fun e => ?_, Nat.lt_of_lt_of_le h3 hf.size⟩
    rcases hn k e.symm with x | x
    · exact h2 x
    · omega
  · intro hk'
    rcases x with x | x
    · exact (hk k hk').1 x
    · exact (hk k hk').2.1 x
theorem tx_str (l : List UInt8) (h : TxW W0 K b out w) (hlen : out.length + l.length ≤ 140737488355328) :
    Calls Tryz.prog 60 #[.pointer (some ⟨b, 0, none⟩), .string ⟨l.toArray⟩] w (TxA W0 K b (out ++ l) w (.tuple #[.int .i64 l.length, .nilIface])) := by
  obtain ⟨fr, g, ⟨cs, hb, hs⟩, hk⟩ := h
  refine (writeString_any _ b 0 cs out g l w hb (bldIn_text hs) hlen).mono ?_
  rintro e w' ⟨rfl, v', hb', hf, hn⟩
  refine ⟨rfl, ⟨fr.trans hf (fun i hi x => ?_), _, ⟨_, hb', by rw [bldCells_size]; exact hs⟩, fun k hk' => ?_⟩, hf.mono (fun k _ x => ?_)⟩
  · rcases x with x | x
    · exact (hk i (.inl hi)).1 x
    · exact (hk i (.inl hi)).2.1 x
  · obtain ⟨h1, h2, h3⟩ := hk k hk'
    refine ⟨h1, fun e => ?_, Nat.lt_of_lt_of_le h3 hf.size⟩
    rcases hn k e.symm with x | x
    · exact h2 x
    · omega
  · intro hk'
    rcases x with x | x
    · exact (hk k hk').1 x
    · exact (hk k hk').2.1 x
end

/-- A byte as a regex; in brackets. -/
def sngT (n : Nat) : List UInt8 := if n = 10 then [92, 110] else if punctS.has n then [92, n.toUInt8] else [n.toUInt8]
def insT (n : Nat) : List UInt8 := if punctS.has n then [91, 46, n.toUInt8, 46, 93] else [n.toUInt8]

set_option maxRecDepth 100000 in
theorem show_punct (n : Nat) (w : World) (hn : n < 256) :
    Calls Tryz.prog 77 #[.int .u8 (n : Int)] w fun e w' => e = .returned (.bool (punctS.has n)) ∧ Fr nob w w' := by
  have hc := class_lit ⟨#[112, 117, 110, 99, 116]⟩ _ rfl w
  rw [show clsSet (clsOf ⟨#[112, 117, 110, 99, 116]⟩) = punctS from rfl] at hc
  have hfit : punctS.fit := fit_clsSet _
  have hh := fun w => has_lit punctS n w hfit hn
  obtain ⟨S, hS⟩ : ∃ S, punctS = S := ⟨_, rfl⟩
  rw [hS] at hc
  simp only [hS] at hh ⊢
  have HC := Lib.hid hc; have HH := Lib.hid hh
  clear hc hh hfit hS
  go_enter Tryz.func77, Tryz.ntmps77
  go_wp2_with fail
  refine HC.out.mono ?_
  rintro e w2 ⟨rfl, f2⟩
  have hb0 := rule4 (heap_alloc_new w2 (.cells #[.int .u64 S.a, .int .u64 S.b, .int .u64 S.c, .int .u64 S.d] 27))
  have F2 := Lib.hid (f2.alloc (.cells #[.int .u64 S.a, .int .u64 S.b, .int .u64 S.c, .int .u64 S.d] 27))
  clear f2
  go_wp2_with fail
  refine (HH.out _).mono ?_
  rintro e w3 ⟨rfl, f3⟩
  have F3 := Lib.hid (F2.out.trans' f3); clear f3
  go_wp2
  go_ret
  exact ⟨rfl, F3.out⟩
end Go.Proofs.YtlchaocpejfikaaGreatDoor

/-
  Package show: single, inside.
-/
namespace Go.Proofs.YtlchaocpejfikaaGreatDoor
open Go.RowKit

theorem Fr.toTx {W0 w w' : World} {K : Nat → Prop} (f : Fr nob w w') : Fr (Txn W0 K) w w' := f.mono (fun _ _ x => x.elim)
/-- A method of two results that nobody asks for, deferred. -/
theorem tx_strD {W0 : World} {K : Nat → Prop} {b : Nat} {out : List UInt8} (l : List UInt8) (u : FrameMode) (w : World) (h : TxW W0 K b out w) (hlen : out.length + l.length ≤ 140737488355328) :
    CallsD Tryz.prog 60 #[.pointer (some ⟨b, 0, none⟩), .string ⟨l.toArray⟩] u w fun e u' w' => u' = u ∧ TxA W0 K b (out ++ l) w (.tuple #[.int .i64 l.length, .nilIface]) e w' := by
  obtain ⟨fr, g, ⟨cs, hb, hs⟩, hk⟩ := h
  refine (writeString_d _ b 0 cs out g l u w hb (bldIn_text hs) hlen).mono ?_
  rintro e u' w' ⟨rfl, rfl, v', hb', hf, hn⟩
  refine ⟨rfl, rfl, ⟨fr.trans hf (fun i hi x => ?_), _, ⟨_, hb', by rw [bldCells_size]; exact hs⟩, fun k hk' => ?_⟩, hf.mono (fun k _ x => ?_)⟩
  · rcases x with x | x
    · exact (hk i (.inl hi)).1 x
    · exact (hk i (.inl hi)).2.1 x
  · obtain ⟨h1, h2, h3⟩ := hk k hk'
    refine ⟨h1, fun e => ?_, Nat.lt_of_lt_of_le h3 hf.size⟩
    rcases hn k e.symm with x | x
    · exact h2 x
    · omega
  · intro hk'
    rcases x with x | x
    · exact (hk k hk').1 x
    · exact (hk k hk').2.1 x

section
variable {W0 w : World} {K : Nat → Prop} {b : Nat} {out : List UInt8}
set_option maxRecDepth 100000 in
set_option maxHeartbeats 1000000 in
theorem show_single (n : Nat) (hn : n < 256) (h : TxW W0 K b out w) (hlen : out.length ≤ 100000000000000) :
    Calls Tryz.prog 52 #[.pointer (some ⟨b, 0, none⟩), .int .u8 (n : Int)] w (TxA W0 K b (out ++ sngT n) w (.tuple #[])) := by
  have hp := show_punct n w hn
  have HT := Lib.hid h; have HP := Lib.hid hp
  clear h hp
  unfold sngT
  by_cases h10 : n = 10
  · have t1 : ((n : Int) == 10) = true := by subst h10; rfl
    rw [if_pos h10]
    clear h10
    go_enter Tryz.func52, Tryz.ntmps52
    go_wp2_with fail
    refine (tx_str [92, 110] HT.out (by simp; omega)).mono ?_
    rintro e w1 ⟨rfl, h1, f1⟩
    have H1 := Lib.hid h1; have F1 := Lib.hid f1; clear h1 f1
    go_wp2
    exact bodyPost_ret (results_none rfl _ _ _) rfl ⟨rfl, H1.out, F1.out⟩
  · have t1 : ((n : Int) == 10) = false := by simp; omega
    rw [if_neg h10]
    cases hc : punctS.has n with
    | true =>
      rw [if_pos rfl]
      rw [hc] at HP
      clear hc
      go_enter Tryz.func52, Tryz.ntmps52
      go_wp2_with fail
      refine HP.out.mono ?_
      rintro e w1 ⟨rfl, f1⟩
      have H1 := Lib.hid (HT.out.quiet f1); have F1 := Lib.hid (Fr.toTx (W0 := W0) (K := K) f1); clear f1
      go_wp2_with fail
      refine (tx_byte 92 92 (by decide) rfl H1.out (by omega)).mono ?_
      rintro e w2 ⟨rfl, h2, f2⟩
      have H2 := Lib.hid h2; have F2 := Lib.hid (F1.out.trans f2 (fun i _ x => x)); clear h2 f2
      go_wp2_with fail
      refine (tx_byte n n.toUInt8 (by omega) rfl H2.out (by simp; omega)).mono ?_
      rintro e w3 ⟨rfl, h3, f3⟩
      have H3 := Lib.hid h3; have F3 := Lib.hid (F2.out.trans f3 (fun i _ x => x)); clear h3 f3
      go_wp2
      go_end0
      refine ⟨rfl, ?_, F3.out⟩
      have := H3.out
      rw [List.append_assoc] at this
      exact this
    | false =>
      rw [if_neg (by decide)]
      rw [hc] at HP
      clear hc
      go_enter Tryz.func52, Tryz.ntmps52
      go_wp2_with fail
      refine HP.out.mono ?_
      rintro e w1 ⟨rfl, f1⟩
      have H1 := Lib.hid (HT.out.quiet f1); have F1 := Lib.hid (Fr.toTx (W0 := W0) (K := K) f1); clear f1
      go_wp2_with fail
      refine (tx_byte n n.toUInt8 (by omega) rfl H1.out (by omega)).mono ?_
      rintro e w3 ⟨rfl, h3, f3⟩
      have H3 := Lib.hid h3; have F3 := Lib.hid (F1.out.trans f3 (fun i _ x => x)); clear h3 f3
      go_wp2
      go_end0
      exact ⟨rfl, H3.out, F3.out⟩

set_option maxRecDepth 100000 in
set_option maxHeartbeats 1000000 in
theorem show_inside (n : Nat) (hn : n < 256) (h : TxW W0 K b out w) (hlen : out.length ≤ 100000000000000) :
    Calls Tryz.prog 56 #[.pointer (some ⟨b, 0, none⟩), .int .u8 (n : Int)] w (TxA W0 K b (out ++ insT n) w (.tuple #[])) := by
  have hp := show_punct n w hn
  have HT := Lib.hid h; have HP := Lib.hid hp
  clear h hp
  unfold insT
  cases hc : punctS.has n with
  | true =>
    rw [if_pos rfl]
    rw [hc] at HP
    clear hc
    go_enter_defers Tryz.func56, Tryz.ntmps56
    go_wp2_with fail
    refine HP.out.mono ?_
    rintro e w1 ⟨rfl, f1⟩
    have H1 := Lib.hid (HT.out.quiet f1); have F1 := Lib.hid (Fr.toTx (W0 := W0) (K := K) f1); clear f1
    go_wp2_with fail
    refine (tx_str [91, 46] H1.out (by simp; omega)).mono ?_
    rintro e w2 ⟨rfl, h2, f2⟩
    have H2 := Lib.hid h2; have F2 := Lib.hid (F1.out.trans f2 (fun i _ x => x)); clear h2 f2
    go_wp2_with fail
    refine (tx_byte n n.toUInt8 (by omega) rfl H2.out (by simp; omega)).mono ?_
    rintro e w3 ⟨rfl, h3, f3⟩
    have H3 := Lib.hid h3; have F3 := Lib.hid (F2.out.trans f3 (fun i _ x => x)); clear h3 f3
    go_wp2
    refine leaves_cons (f := 60) (args := #[.pointer (some ⟨b, 0, none⟩), .string ⟨#[46, 93]⟩]) (by simp) (by simp [go_sem]) ?_
    refine (tx_strD [46, 93] _ _ H3.out (by simp; omega)).mono ?_
    rintro e u' w4 ⟨rfl, rfl, h4, f4⟩
    refine ⟨_, results_none rfl _ _ _, rfl, ?_, F3.out.trans f4 (fun i _ x => x)⟩
    rw [List.append_assoc, List.append_assoc] at h4
    exact h4
  | false =>
    rw [if_neg (by decide)]
    rw [hc] at HP
    clear hc
    go_enter_defers Tryz.func56, Tryz.ntmps56
    go_wp2_with fail
    refine HP.out.mono ?_
    rintro e w1 ⟨rfl, f1⟩
    have H1 := Lib.hid (HT.out.quiet f1); have F1 := Lib.hid (Fr.toTx (W0 := W0) (K := K) f1); clear f1
    go_wp2_with fail
    refine (tx_byte n n.toUInt8 (by omega) rfl H1.out (by omega)).mono ?_
    rintro e w3 ⟨rfl, h3, f3⟩
    have H3 := Lib.hid h3; have F3 := Lib.hid (F1.out.trans f3 (fun i _ x => x)); clear h3 f3
    go_wp2
    exact ⟨_, results_none rfl _ _ _, rfl, H3.out, F3.out⟩
end
end Go.Proofs.YtlchaocpejfikaaGreatDoor

/-
  Package show: is a span's end the byte A; the text of a set, in plain words.
-/
namespace Go.Proofs.YtlchaocpejfikaaGreatDoor
open Go.RowKit

theorem least_nil' {s : S4} (hs : s.fit) (h : spl s.has 256 = []) : LeastIs s 0 false := by
  have g := spl_good s.has 256
  rw [h] at g
  refine .inl ⟨rfl, rfl, S4.ext_has hs fit_zero fun e he => ?_⟩
  rw [has_zero]
  have := g.cov e he
  cases hp : s.has e with
  | false => rfl
  | true => obtain ⟨x, hx, _⟩ := this.1 hp; cases hx
theorem least_first' {s : S4} {x : Nat × Nat} {r : List (Nat × Nat)} (h : spl s.has 256 = x :: r) : LeastIs s x.1 true := by
  have g := spl_good s.has 256
  rw [h] at g
  have hx := g.in_ x (by simp)
  refine .inr ⟨rfl, by omega, (g.cov x.1 (by omega)).2 ⟨x, by simp, Nat.le_refl _, hx.1⟩, fun e he => ?_⟩
  cases hp : s.has e with
  | false => rfl
  | true =>
    obtain ⟨y, hy, h1, h2⟩ := (g.cov e (by omega)).1 hp
    rcases List.mem_cons.1 hy with rfl | hy
    · omega
    · have := (List.pairwise_cons.1 g.gap).1 y hy
      omega
/-- The least byte; 0, if there is none. -/
def lowS (s : S4) : Nat := match spl s.has 256 with
  | [] => 0
  | x :: _ => x.1
theorem LeastIs.lowS {s : S4} {d : Nat} {b : Bool} (hs : s.fit) (h : LeastIs s d b) : d = lowS s := by
  unfold Go.Proofs.YtlchaocpejfikaaGreatDoor.lowS
  cases hp : spl s.has 256 with
  | nil => exact (h.uniq (least_nil' hs hp)).1
  | cons x r => exact (h.uniq (least_first' hp)).1
theorem lowS_lt (s : S4) : lowS s < 256 := by
  unfold lowS
  have g := spl_good s.has 256
  cases hp : spl s.has 256 with
  | nil => simp
  | cons x r => rw [hp] at g; have := g.in_ x (by simp); show x.1 < 256; omega
def endB (L : List (Nat × Nat)) : Bool := L.any fun x => x.1 == 10 || x.2 == 10
def spnT (x : Nat × Nat) : List UInt8 := insT x.1 ++ (if x.1 = x.2 then [] else 45 :: insT x.2)
def spsT : List (Nat × Nat) → List UInt8
  | [] => []
  | x :: r => spnT x ++ spsT r
/-- A set as a text, in brackets: 's' or the others. -/
def brkT (o : Bool) (s : S4) : List UInt8 := 91 :: ((if o then [94] else []) ++ (spsT (spl s.has 256) ++ [93]))
def setT (s : S4) : List UInt8 :=
  if s.len = 256 then [46] else if s.len = 1 then sngT (lowS s)
  else
    let o := decide (128 < s.len ∨ s.len = 0)
    let s1 := if o then s.not else s
    let e := endB (spl s1.has 256)
    brkT (o != e) (if e then s1.not else s1)
theorem insT_le (n : Nat) : (insT n).length ≤ 5 := by unfold insT; split <;> simp
theorem sngT_le (n : Nat) : (sngT n).length ≤ 2 := by unfold sngT; split; simp; split <;> simp
theorem spnT_le (x : Nat × Nat) : (spnT x).length ≤ 11 := by
  unfold spnT
  have := insT_le x.1; have := insT_le x.2
  rw [List.length_append]
  split
  · simp; omega
  · simp; omega
theorem spsT_le : ∀ L : List (Nat × Nat), (spsT L).length ≤ 11 * L.length
  | [] => Nat.le_refl _
  | x :: r => by have := spsT_le r; have := spnT_le x; simp only [spsT, List.length_append, List.length_cons]; omega
theorem spsT_append : ∀ L M : List (Nat × Nat), spsT (L ++ M) = spsT L ++ spsT M
  | [], _ => rfl
  | x :: r, M => by simp only [List.cons_append, spsT, spsT_append r M, List.append_assoc]
theorem spsT_take {L : List (Nat × Nat)} {k : Nat} (h : k < L.length) : spsT (L.take (k + 1)) = spsT (L.take k) ++ spnT L[k] := by
  rw [List.take_succ_eq_append_getElem h, spsT_append]; simp [spsT]
theorem brkT_le (o : Bool) (s : S4) : (brkT o s).length ≤ 2819 := by
  have := spsT_le (spl s.has 256); have := spl_len s.has 256
  unfold brkT
  cases o <;> simp <;> omega
theorem setT_le (s : S4) : (setT s).length ≤ 2819 := by
  unfold setT
  split
  · simp
  · split
    · have := sngT_le (lowS s); omega
    · exact brkT_le _ _

theorem OwnP.get {w : World} {v : Value} {L : List (Nat × Nat)} (h : OwnP w v L) {k : Nat} (hk : k < L.length) : ∃ g cap, v = .slice (some ⟨g, 0, none⟩) L.length cap ∧
    w.cell? ⟨g, k * 2, none⟩ = some (.int .u8 (L[k].1 : Int)) ∧ w.cell? ⟨g, k * 2 + 1, none⟩ = some (.int .u8 (L[k].2 : Int)) := by
  have hne : L ≠ [] := fun e => by rw [e] at hk; simp at hk
  obtain ⟨g, cap, rfl, hg⟩ := h.slc hne
  have hl := spC_length L
  unfold OwnP at h
  exact ⟨g, cap, rfl, (h.cellAt (k * 2) (by omega)).trans (spC_at L k hk).1, (h.cellAt (k * 2 + 1) (by omega)).trans (spC_at L k hk).2⟩

set_option maxRecDepth 100000 in
theorem ended1_any (a b : Nat) (w : World) (ha : a < 256) (hb : b < 256) :
    Calls Tryz.prog 79 #[.agg #[.int .u8 (a : Int), .int .u8 (b : Int)]] w fun e w' => e = .returned (.bool (a == 10 || b == 10)) ∧ Fr nob w w' := by
  have hf := (Fr.refl nob w).alloc (.cells #[.int .u8 (a : Int), .int .u8 (b : Int)] 62)
  have hz := heap_alloc_new w (.cells #[.int .u8 (a : Int), .int .u8 (b : Int)] 62)
  have k0 := cell_at (j := 0) (v := .int .u8 (a : Int)) hz rfl
  have k1 := cell_at (j := 1) (v := .int .u8 (b : Int)) hz rfl
  have HF := Lib.hid hf
  clear hf hz
  have ea : ((a : Int) == 10) = (a == 10) := by rw [Bool.eq_iff_iff]; simp; omega
  have eb : ((b : Int) == 10) = (b == 10) := by rw [Bool.eq_iff_iff]; simp; omega
  cases h1 : (a == 10) with
  | true =>
    rw [h1] at ea
    go_enter Tryz.func79, Tryz.ntmps79
    go_wp2
    go_ret
    exact ⟨rfl, HF.out⟩
  | false =>
    rw [h1] at ea
    cases h2 : (b == 10) with
    | true =>
      rw [h2] at eb
      go_enter Tryz.func79, Tryz.ntmps79
      go_wp2
      go_ret
      exact ⟨rfl, HF.out⟩
    | false =>
      rw [h2] at eb
      go_enter Tryz.func79, Tryz.ntmps79
      go_wp2
      go_ret
      exact ⟨rfl, HF.out⟩

set_option maxRecDepth 100000 in
set_option maxHeartbeats 1000000 in
theorem indexP_any (L : List (Nat × Nat)) (u : Value) (w : World) (hl : L.length ≤ 256) (hL : ∀ x ∈ L, x.1 < 256 ∧ x.2 < 256) (h : OwnP w u L) :
    Calls Tryz.prog 101 #[u, .func (.func 79) #[] #[]] w fun e w' => (∃ i : Int, e = .returned (.int .i64 i) ∧ (decide (0 ≤ i)) = endB L) ∧ Fr nob w w' := by
  obtain ⟨a, c, rfl⟩ := ownsRow_slice (show w.ownsRow 0 62 2 u L.length (spC L) from h)
  have H := Lib.hid h; clear h
  have HL := Lib.hid hL; clear hL
  go_enter Tryz.func101, Tryz.ntmps101
  go_wp2_with fail
  go_loopw [8] (fun i wr => ∃ k : Nat, i = .int .i64 k ∧ k ≤ L.length ∧ endB (L.take k) = false ∧ Fr nob w wr) (fun i _ => L.length - (intOf i).toNat)
  case atStart => exact ⟨0, rfl, Nat.zero_le _, rfl, Fr.refl _ _⟩
  case round =>
    obtain ⟨k, rfl, hk, hn, fr⟩ := hrel
    have HR := Lib.hid (H.out.on fr (fun _ _ x => x)); have FR := Lib.hid fr; have HN := Lib.hid hn; clear fr hn
    by_cases hlt : k < L.length
    · obtain ⟨g, cap, he, hc0, hc1⟩ := HR.out.get hlt
      injection he with e1 e2 e3
      subst e1; subst e3
      clear e2
      have hts := Lib.hid (List.take_succ_eq_append_getElem hlt)
      have hany : endB (L.take (k + 1)) = (L[k].1 == 10 || L[k].2 == 10) := by unfold endB; rw [hts.out, List.any_append, show (L.take k).any _ = false from HN.out]; simp
      have hmem : ((L[k].1 == 10 || L[k].2 == 10) = true) → endB L = true := fun h => List.any_eq_true.2 ⟨_, List.getElem_mem hlt, h⟩
      have hb := HL.out L[k] (List.getElem_mem hlt)
      have HA := Lib.hid hany; have HM := Lib.hid hmem; clear hany hmem
      obtain ⟨⟨p, q⟩, hpq⟩ : ∃ x, L[k] = x := ⟨_, rfl⟩
      rw [hpq] at hc0 hc1 HA HM hb
      simp only at hc0 hc1 HA HM hb
      have HE := Lib.hid (fun w => ended1_any p q w hb.1 hb.2)
      clear hpq
      go_wp2_with fail
      refine (HE.out _).mono ?_
      rintro e w2 ⟨rfl, f2⟩
      have F2 := Lib.hid f2; clear f2
      cases hpk : (p == 10 || q == 10) with
      | true =>
        have HALL := Lib.hid (HM.out hpk)
        clear hpk
        go_wp2
        go_ret
        exact ⟨⟨k, rfl, by rw [HALL.out]; simp⟩, FR.out.trans' F2.out⟩
      | false =>
        have HA2 := Lib.hid (HA.out.trans hpk)
        clear hpk
        go_wp2
        go_roundw
        case rel => exact ⟨k + 1, by go_num, by omega, HA2.out, FR.out.trans' F2.out⟩
        case measure => simp [intOf]; omega
    · obtain rfl : k = L.length := by omega
      have hT := Lib.hid (List.take_of_length_le (l := L) (Nat.le_refl _))
      go_wp2
      go_ret
      exact ⟨⟨-1, rfl, by have := HN.out; rw [hT.out] at this; rw [this]; decide⟩, FR.out⟩

set_option maxRecDepth 100000 in
theorem ended_any (L : List (Nat × Nat)) (u : Value) (w : World) (hl : L.length ≤ 256) (hL : ∀ x ∈ L, x.1 < 256 ∧ x.2 < 256) (h : OwnP w u L) :
    Calls Tryz.prog 54 #[u] w fun e w' => e = .returned (.bool (endB L)) ∧ Fr nob w w' := by
  have HI := Lib.hid (indexP_any L u w hl hL h)
  clear h
  go_enter Tryz.func54, Tryz.ntmps54
  go_wp2_with fail
  refine (show Calls Tryz.prog 78 #[u, .func (.func 79) #[] #[]] w fun e w' => e = .returned (.bool (endB L)) ∧ Fr nob w w' from ?_).mono ?_
  · go_enter Tryz.func78, Tryz.ntmps78
    go_wp2_with fail
    refine HI.out.mono ?_
    rintro e w1 ⟨⟨i, rfl, hi⟩, f1⟩
    have F1 := Lib.hid f1; have HI := Lib.hid hi; clear f1 hi
    go_wp2
    go_ret
    exact ⟨by rw [← HI.out]; rfl, F1.out⟩
  · rintro e w1 ⟨rfl, f1⟩
    have F1 := Lib.hid f1; clear f1
    go_wp2
    go_ret
    exact ⟨rfl, F1.out⟩
end Go.Proofs.YtlchaocpejfikaaGreatDoor
