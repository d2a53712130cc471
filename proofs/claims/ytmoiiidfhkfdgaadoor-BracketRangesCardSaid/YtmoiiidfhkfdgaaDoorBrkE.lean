/-
  Walks of package bracket: item.
-/
import Derived.Test.YtmoiiidfhkfdgaaDoorBrkC
import Derived.Test.YtmoiiidfhkfdgaaDoorBrkD
import Derived.LoopN
namespace Go.Proofs.YtmoiiidfhkfdgaaDoor
open Go.RowKit

theorem named_any (b : Nat) (l : List UInt8) (a : Nat) (k : UInt8) (p : Int) (w : World) (hl : l.length ≤ 100000) (ha : a + 2 ≤ l.length) (hb : 2 ≤ b) (hE : Env w) (h : Rd w b l a 0 p) :
    Calls Tryd.prog 33 #[.pointer (some ⟨b, 0, none⟩), .int .u8 (k.toNat : Int)] w (ItAns b l a p (itmN l a k) w) := by
  by_cases hk : k = 58
  · subst hk; exact named_col b l a p w hl ha hb hE h
  · exact named_oth b l a k p w hl ha hb hE h hk

theorem opn0 (w : World) : (Instr.index 68 (.agg #[.string ⟨#[91, 58]⟩, .string ⟨#[91, 61]⟩, .string ⟨#[91, 46]⟩]) (.int .i64 0)).run Tryd.prog w = .ok (.string ⟨#[91, 58]⟩) w := by kernel_rfl
theorem opn1 (w : World) : (Instr.index 68 (.agg #[.string ⟨#[91, 58]⟩, .string ⟨#[91, 61]⟩, .string ⟨#[91, 46]⟩]) (.int .i64 1)).run Tryd.prog w = .ok (.string ⟨#[91, 61]⟩) w := by kernel_rfl
theorem opn2 (w : World) : (Instr.index 68 (.agg #[.string ⟨#[91, 58]⟩, .string ⟨#[91, 61]⟩, .string ⟨#[91, 46]⟩]) (.int .i64 2)).run Tryd.prog w = .ok (.string ⟨#[91, 46]⟩) w := by kernel_rfl

theorem pre2 {l : List UInt8} {k : UInt8} {a : Nat} : ([91, k].isPrefixOf (l.drop a) = true) ↔ l[a]? = some 91 ∧ l[a + 1]? = some k := by
  have := occ2 l a 0 k
  unfold Lib.occAt at this
  have e1 : l[a]? = (l.drop a)[0]? := by simp
  have e2 : l[a + 1]? = (l.drop a)[1]? := by simp
  rw [e1, e2]
  cases h : l.drop a with
  | nil => simp
  | cons x r =>
    cases r with
    | nil => simp
    | cons y r =>
      simp [List.isPrefixOf]
      constructor <;> (rintro ⟨h1, h2⟩; exact ⟨h1.symm, h2.symm⟩)
theorem itm_named {l : List UInt8} {a : Nat} {k : UInt8} (hk : isKind k = true) (h : [91, k].isPrefixOf (l.drop a) = true) : itm l a = itmN l a k ∧ a + 2 ≤ l.length := by
  obtain ⟨h1, h2⟩ := pre2.1 h
  have := (List.getElem?_eq_some_iff.1 h2).1
  unfold itm
  rw [h1]; simp only; rw [h2]; simp only
  rw [if_pos ⟨trivial, hk⟩]
  exact ⟨rfl, by omega⟩
theorem itm_plain {l : List UInt8} {a : Nat} (ha : a < l.length) (h1 : [91, 58].isPrefixOf (l.drop a) = false) (h2 : [91, 61].isPrefixOf (l.drop a) = false) (h3 : [91, 46].isPrefixOf (l.drop a) = false) :
    itm l a = .inr ⟨spn (l[a]).toNat (l[a]).toNat, some l[a], a + 1⟩ := by
  unfold itm
  rw [List.getElem?_eq_getElem ha]; simp only
  split
  · rfl
  · next k hk =>
    split
    · next hc =>
      have h91 : l[a]? = some 91 := by rw [List.getElem?_eq_getElem ha, hc.1]
      have hkk := hc.2
      unfold isKind at hkk
      simp only [Bool.or_eq_true, beq_iff_eq] at hkk
      rcases hkk with (rfl | rfl) | rfl
      · rw [pre2.2 ⟨h91, hk⟩] at h1; cases h1
      · rw [pre2.2 ⟨h91, hk⟩] at h2; cases h2
      · rw [pre2.2 ⟨h91, hk⟩] at h3; cases h3
    · rfl
theorem itm_end {l : List UInt8} {a : Nat} (ha : l.length ≤ a) : itm l a = .inl (5, l.length) := by
  unfold itm; rw [List.getElem?_eq_none ha]

abbrev itCells (s : S4) (o : Bool) : Obj := .cells #[.int .u64 s.a, .int .u64 s.b, .int .u64 s.c, .int .u64 s.d, .bool o] 57

set_option maxRecDepth 100000 in
set_option maxHeartbeats 4000000 in
theorem item_any (b : Nat) (l : List UInt8) (a : Nat) (p : Int) (w : World) (hl : l.length ≤ 100000) (ha : a ≤ l.length) (hb : 2 ≤ b) (hE : Env w) (h : Rd w b l a 0 p) :
    Calls Tryd.prog 27 #[.pointer (some ⟨b, 0, none⟩)] w (ItAns b l a p (itm l a) w) := by
  obtain ⟨R, hR⟩ : ∃ R, itm l a = R := ⟨_, rfl⟩
  rw [hR]
  have HR := Lib.hid hR; clear hR
  have rr := rule4 h
  have hbw := lt_heap h
  obtain ⟨w0, hw0⟩ : ∃ w0, w0 = w.alloc (.cells #[.int .u64 0, .int .u64 0, .int .u64 0, .int .u64 0, .bool false] 57) := ⟨_, rfl⟩
  have f0 : Fr nob w w0 := by rw [hw0]; exact (Fr.refl _ _).alloc _
  have HZ0 := Lib.hid (show w0.heap[w.heap.size]? = some (.cells #[.int .u64 0, .int .u64 0, .int .u64 0, .int .u64 0, .bool false] 57 (0, 0)) by rw [hw0]; exact newAt _ _)
  have FW0 := Lib.hid f0
  have H0 := Lib.hid (h.on f0); have HE0 := Lib.hid (hE.on f0)
  have hbw0 : b < w0.heap.size := Nat.lt_of_lt_of_le hbw f0.size
  have rr0 := rule4 H0.out
  have HW0 := Lib.hid hw0
  clear hw0
  clear h hE f0
  have hal : (a : Int) ≤ l.length := by omega
  by_cases hend : l.length ≤ a
  · have HRV := Lib.hid (itm_end hend)
    have t1 : ((l.length : Int) ≤ a) := by omega
    go_enter Tryd.func27, Tryd.ntmps27
    go_wp2_with fail
    rw [← HW0.out]
    refine region_fr_all (by kernel_rfl) (by kernel_rfl) ?_
    repeat (quiet_step (fail))
    refine wpQuiet_nil ?_
    intro wC fC
    go_wp2_with fail
    refine (fail_ok b l a p 5 l.length _ (H0.out.on fC)).mono ?_
    rintro e w2 ⟨rfl, h2, f2⟩
    have hz2 := f2.heap (fC.heap HZ0.out (fun x => x)) (fun e => by omega)
    have r2 := rule5 hz2
    have hlz := lt_heap hz2
    have HH := Lib.hid h2; have FF := Lib.hid ((FW0.out.trans' fC).any.trans f2 (fun i hi e => e)); have HZ2 := Lib.hid hz2
    clear h2 f2 hz2 fC
    go_wp2
    (try simp only [Exit.inBlock, Exit.then])
    refine bodyPost_ret (results_it (s := S4.zero) (e := false) rfl rfl (setFive_heap HZ2.out _ _ _ _ _)) rfl ⟨S4.zero, false, rfl, fit_zero, setFive_fr FF.out (Nat.le_refl _) _ _ _ _ _, ?_⟩
    rw [← HR.out, HRV.out]
    exact ⟨a, by omega, (by simp), setFive_old HH.out (by omega) _ _ _ _ _⟩
  · have t1 : ¬ ((l.length : Int) ≤ a) := by omega
    have HA := Lib.hid (fun (t : List UInt8) (ht : t.length ≤ 1000000) w h => ahead_any b l t a 0 p w (by omega) ht ha h)
    go_enter Tryd.func27, Tryd.ntmps27
    go_wp2_with fail
    rw [← HW0.out]
    refine region_fr_all (by kernel_rfl) (by kernel_rfl) ?_
    repeat (quiet_step (fail))
    refine wpQuiet_nil ?_
    intro wC fC
    have o0 := opn0; have o1 := opn1; have o2 := opn2
    go_wp2_with fail
    refine wp_loop_rounds 4 ?_
    rw [rounds_succ]
    go_wp2_with fail
    refine (HA.out [91, 58] (by simp) wC (H0.out.on fC)).mono ?_
    obtain ⟨q0, hq0⟩ : ∃ q, [91, 58].isPrefixOf (l.drop a) = q := ⟨_, rfl⟩
    rw [hq0]
    rintro e v0 ⟨rfl, g0⟩
    have g0 := Fr.trans' fC g0
    cases q0 with
    | true =>
      obtain ⟨hRV, h2l⟩ := itm_named (k := 58) rfl hq0
      have HRV := Lib.hid hRV; clear hRV
      go_wp2_with fail
      refine (named_any b l a 58 p v0 hl h2l hb (HE0.out.on g0) (H0.out.on g0)).mono ?_
      rintro e w2 ⟨s, o, rfl, hsf, f2, hRR⟩
      rw [← HRV.out, HR.out] at hRR
      have hz2 := f2.heap (Fr.heap g0 HZ0.out (fun x => x)) (fun e => by omega)
      have r2 := rule5 hz2
      have hlz := lt_heap hz2
      have FF := Lib.hid ((FW0.out.trans' g0).any.trans f2 (fun i hi e => e)); have HZ2 := Lib.hid hz2; have HRR := Lib.hid hRR; have HSF := Lib.hid hsf
      clear f2 hz2 hRR hsf
      go_wp2
      (try simp only [Exit.inBlock, Exit.then])
      refine bodyPost_ret (results_it (s := s) (e := o) rfl rfl (setFive_heap HZ2.out _ _ _ _ _)) rfl ⟨s, o, rfl, HSF.out, setFive_fr FF.out (Nat.le_refl _) _ _ _ _ _, ?_⟩
      exact HRR.out.to fun x r q h => setFive_old h (by omega) _ _ _ _ _
    | false =>
    have HQ0 := Lib.hid hq0; clear hq0
    go_wp2_with fail
    rw [rounds_succ]
    go_wp2_with fail
    refine (HA.out [91, 61] (by simp) v0 (H0.out.on g0)).mono ?_
    obtain ⟨q1, hq1⟩ : ∃ q, [91, 61].isPrefixOf (l.drop a) = q := ⟨_, rfl⟩
    rw [hq1]
    rintro e v1 ⟨rfl, g1⟩
    have g1 := Fr.trans' g0 g1
    cases q1 with
    | true =>
      obtain ⟨hRV, h2l⟩ := itm_named (k := 61) rfl hq1
      have HRV := Lib.hid hRV; clear hRV
      go_wp2_with fail
      refine (named_any b l a 61 p v1 hl h2l hb (HE0.out.on g1) (H0.out.on g1)).mono ?_
      rintro e w2 ⟨s, o, rfl, hsf, f2, hRR⟩
      rw [← HRV.out, HR.out] at hRR
      have hz2 := f2.heap (Fr.heap g1 HZ0.out (fun x => x)) (fun e => by omega)
      have r2 := rule5 hz2
      have hlz := lt_heap hz2
      have FF := Lib.hid ((FW0.out.trans' g1).any.trans f2 (fun i hi e => e)); have HZ2 := Lib.hid hz2; have HRR := Lib.hid hRR; have HSF := Lib.hid hsf
      clear f2 hz2 hRR hsf
      go_wp2
      (try simp only [Exit.inBlock, Exit.then])
      refine bodyPost_ret (results_it (s := s) (e := o) rfl rfl (setFive_heap HZ2.out _ _ _ _ _)) rfl ⟨s, o, rfl, HSF.out, setFive_fr FF.out (Nat.le_refl _) _ _ _ _ _, ?_⟩
      exact HRR.out.to fun x r q h => setFive_old h (by omega) _ _ _ _ _
    | false =>
    have HQ1 := Lib.hid hq1; clear hq1
    go_wp2_with fail
    rw [rounds_succ]
    go_wp2_with fail
    refine (HA.out [91, 46] (by simp) v1 (H0.out.on g1)).mono ?_
    obtain ⟨q2, hq2⟩ : ∃ q, [91, 46].isPrefixOf (l.drop a) = q := ⟨_, rfl⟩
    rw [hq2]
    rintro e v2 ⟨rfl, g2⟩
    have g2 := Fr.trans' g1 g2
    cases q2 with
    | true =>
      obtain ⟨hRV, h2l⟩ := itm_named (k := 46) rfl hq2
      have HRV := Lib.hid hRV; clear hRV
      go_wp2_with fail
      refine (named_any b l a 46 p v2 hl h2l hb (HE0.out.on g2) (H0.out.on g2)).mono ?_
      rintro e w2 ⟨s, o, rfl, hsf, f2, hRR⟩
      rw [← HRV.out, HR.out] at hRR
      have hz2 := f2.heap (Fr.heap g2 HZ0.out (fun x => x)) (fun e => by omega)
      have r2 := rule5 hz2
      have hlz := lt_heap hz2
      have FF := Lib.hid ((FW0.out.trans' g2).any.trans f2 (fun i hi e => e)); have HZ2 := Lib.hid hz2; have HRR := Lib.hid hRR; have HSF := Lib.hid hsf
      clear f2 hz2 hRR hsf
      go_wp2
      (try simp only [Exit.inBlock, Exit.then])
      refine bodyPost_ret (results_it (s := s) (e := o) rfl rfl (setFive_heap HZ2.out _ _ _ _ _)) rfl ⟨s, o, rfl, HSF.out, setFive_fr FF.out (Nat.le_refl _) _ _ _ _ _, ?_⟩
      exact HRR.out.to fun x r q h => setFive_old h (by omega) _ _ _ _ _
    | false =>
    have HQ2 := Lib.hid hq2; clear hq2
    go_wp2_with fail
    rw [rounds_succ]
    go_wp2_with fail
    have hlt : (a : Int) < l.length := by omega
    have HRV := Lib.hid (itm_plain (show a < l.length by omega) HQ0.out HQ1.out HQ2.out)
    obtain ⟨c, hc⟩ : ∃ c, l[a]'(by omega) = c := ⟨_, rfl⟩
    refine region_fr 8 (by kernel_rfl) (by kernel_rfl) ?_
    simp only [List.take_succ_cons, List.take_zero, List.drop_succ_cons, List.drop_zero]
    repeat (quiet_step (fail))
    refine wpQuiet_nil ?_
    intro wD fD
    have gD := Fr.trans' g2 fD
    obtain ⟨w5, hw5⟩ : ∃ w5, w5 = wD.setCell ⟨b, 1, none⟩ (.int .i64 ((a : Int) + 1)) := ⟨_, rfl⟩
    have hs5 : w5.heap.size = wD.heap.size := by rw [hw5]; simp
    have H5 := Lib.hid (show Rd w5 b l ((a + 1 : Nat) : Int) 0 p by
      rw [hw5, show ((a + 1 : Nat) : Int) = (a : Int) + 1 by omega]; exact heap_setCell_at (gD.heap H0.out (fun x => x)) 1 _)
    have HZ5 := Lib.hid (show w5.heap[w.heap.size]? = some (.cells #[.int .u64 0, .int .u64 0, .int .u64 0, .int .u64 0, .bool false] 57 (0, 0)) by
      rw [hw5]; exact heap_setCell_ne (gD.heap HZ0.out (fun x => x)) (by simp only; omega) _)
    have FW5 := Lib.hid (show Fr (fun k => k = b) w w5 by rw [hw5]; exact Fr.setCell (S := fun k => k = b) (p := ⟨b, 1, none⟩) (FW0.out.trans' gD).any (fun _ => rfl) _)
    have HW5 := Lib.hid hw5; clear hw5
    go_wp2_with fail
    rw [← HW5.out, ← hs5]
    refine (of_one c w5 _).mono ?_
    obtain ⟨S, hS⟩ : ∃ S, spn c.toNat c.toNat = S := ⟨_, rfl⟩
    have hfit : S.fit := by rw [← hS]; exact fit_spn _ _
    rw [hS]
    have HS := Lib.hid hS; clear hS
    rintro e w6 ⟨rfl, f6⟩
    have f56 : Fr nob w5 w6 := ((Fr.refl _ _).alloc _).trans' f6
    have hz6 := f56.heap HZ5.out (fun x => x)
    have r6 := rule5 hz6
    have hlz := lt_heap hz6
    have FF := Lib.hid (FW5.out.trans f56 (fun i hi e => e.elim)); have HZ6 := Lib.hid hz6; have HR6 := Lib.hid (H5.out.on f56); have HCC := Lib.hid hc
    clear hz6 f6 f56 hc
    go_wp2
    (try simp only [Exit.inBlock, Exit.then])
    refine bodyPost_ret (results_it (s := S) (e := true) rfl rfl (setFive_heap HZ6.out _ _ _ _ _)) rfl ⟨S, true, rfl, hfit, setFive_fr FF.out (Nat.le_refl _) _ _ _ _ _, ?_⟩
    rw [← HR.out, HRV.out, HCC.out]
    exact ⟨HS.out.symm, rfl, setFive_old HR6.out (by omega) _ _ _ _ _⟩

end Go.Proofs.YtmoiiidfhkfdgaaDoor
