/-
  Merged texts of this claim: AdrK, CmdW, AdrO.
-/
import Derived.Test.YtkfddjopbocpkaaGreatDoorM08
import Derived.Test.YtkfddjopbocpkaaGreatDoorM17
import Derived.Test.YtkfddjopbocpkaaGreatDoorM21
import Derived.Test.YtkfddjopbocpkaaGreatDoorM28

set_option linter.unusedVariables false
set_option linter.unusedSimpArgs false
/-
  Walks of package addr: ParseGuard, read.
-/
namespace Go.Proofs.YtkfddjopbocpkaaGreatDoor
open Go.RowKit

theorem BC.drew {w : World} {b c : Nat} {v0 v1 v2 v3 v4 u0 u1 u2 u3 u4 u5 u6 u7 u8 : Value} (h : B5 w b v0 v1 v2 v3 v4 ∧ C9 w c u0 u1 u2 u3 u4 u5 u6 u7 u8) : B5 w.drew b v0 v1 v2 v3 v4 ∧ C9 w.drew c u0 u1 u2 u3 u4 u5 u6 u7 u8 := h
theorem BC.set {w : World} {b c k j : Nat} {v0 v1 v2 v3 v4 u0 u1 u2 u3 u4 u5 u6 u7 u8 : Value} (h : B5 w b v0 v1 v2 v3 v4 ∧ C9 w c u0 u1 u2 u3 u4 u5 u6 u7 u8) (hb : k ≠ b) (hc : k ≠ c) (u : Value) : B5 (w.setCell ⟨k, j, none⟩ u) b v0 v1 v2 v3 v4 ∧ C9 (w.setCell ⟨k, j, none⟩ u) c u0 u1 u2 u3 u4 u5 u6 u7 u8 := by
  obtain ⟨h1, c0, c1, c2, c3, c4, c5, c6, c7, c8⟩ := h
  exact ⟨h1.set hb u, cell_ne c0 hc, cell_ne c1 hc, cell_ne c2 hc, cell_ne c3 hc, cell_ne c4 hc, cell_ne c5 hc, cell_ne c6 hc, cell_ne c7 hc, cell_ne c8 hc⟩

set_option maxRecDepth 100000 in
set_option maxHeartbeats 4000000 in
theorem parseG_ok (l : List UInt8) (p : Nat) (x : BF) (w : World) (hl : l.length ≤ 99000) (hp : p ≤ l.length) (hE : Env w) (gv : GV) (q : Nat) (ms : List (Nat × List UInt8)) (hR : guardD x l ⟨p, [], 0⟩ = .inr (gv, ⟨q, ms, 0⟩)) (O0 : Nat → Prop) (hO0 : ∀ k, O0 k → k < w.heap.size) :
    Calls Tryz.prog 29 #[.string ⟨l.toArray⟩, .int .i64 (p : Nat), .bool x] w fun e w' => ∃ v mv, e = .returned (.tuple #[v, mv, .int .i64 (q : Nat), .int .i64 0]) ∧ GVal nob w' gv v ∧ OwM w' ms mv ∧ Fr nob w w' ∧ ∃ T : Nat → Prop, (∀ k, mv.ownBlock = some k → T k) ∧ (∀ k, T k → w.heap.size ≤ k ∧ k < w'.heap.size) ∧ GVal (SO T O0) w' gv v := by
  obtain ⟨w1, hw1⟩ : ∃ w1, w1 = w.alloc (.cells zG 30) := ⟨_, rfl⟩
  have f1 : Fr nob w w1 := by rw [hw1]; exact (Fr.refl _ _).alloc _
  have hz : w1.heap[w.heap.size]? = some (.cells zG 30 (0, 0)) := by rw [hw1]; exact newAt _ _
  have hs1 : w1.heap.size = w.heap.size + 1 := by rw [hw1]; simp
  obtain ⟨w2, hw2⟩ : ∃ w2, w2 = w1.alloc (.cells #[.string ⟨l.toArray⟩, .int .i64 (p : Nat), .bool x, .slice none 0 0, .int .i64 0] 116) := ⟨_, rfl⟩
  have f2 : Fr nob w1 w2 := by rw [hw2]; exact (Fr.refl _ _).alloc _
  have hb : w2.heap[w.heap.size + 1]? = some (.cells #[.string ⟨l.toArray⟩, .int .i64 (p : Nat), .bool x, .slice none 0 0, .int .i64 0] 116 (0, 0)) := by
    rw [hw2, ← hs1]; exact newAt _ _
  have hs2 : w2.heap.size = w.heap.size + 2 := by rw [hw2]; simp [hs1]
  have hA : ARd (w.heap.size + 1) l x ⟨p, [], 0⟩ (fun k => k = w.heap.size + 1) w2 := ⟨.slice none 0 0, ⟨hb, World.ownsRow_nil _ _ _ _, fun _ h => (by cases h), rfl⟩⟩
  have hG := ad_guard (w.heap.size + 1) l x p (fun k => k = w.heap.size + 1) (fun k => k = w.heap.size ∨ O0 k) w2 hl hp (fun k hk => by omega) (fun k hk => by rcases hk with hk | hk; (· omega); (· have := hO0 k hk; omega)) w hE (f1.trans' f2) (fun k hk => by omega) hA
  rw [hR] at hG
  have hz' := f2.heap hz (fun x => x)
  have q1 : ¬ (l.length : Int) < (p : Int) := by omega
  have HG := Lib.hid hG; have HW1 := Lib.hid hw1; have HW2 := Lib.hid hw2; have F12 := Lib.hid (f1.trans' f2); have HZ := Lib.hid hz'; have HS2 := Lib.hid hs2; have HS1 := Lib.hid hs1
  clear hG hw1 hw2 f1 f2 hz hz' hb hA hs1 hs2 hE hR
  go_enter Tryz.func29, Tryz.ntmps29
  go_wp2_with (first | rw [← HW1.out] | rw [HS1.out] | rw [← HW2.out])
  refine HG.out.mono ?_
  intro e w3 he
  obtain ⟨v, S', rfl, ⟨u1, u2, rfl, rn1, rn2⟩, hA3, st3⟩ := he
  obtain ⟨mv3, h3⟩ := hA3
  have hz3 := st3.fr.heap HZ.out (fun h => by omega)
  have hrb : w.heap.size ≠ w.heap.size + 1 := by omega
  have hr3 : w.heap.size ≠ w3.heap.size := by have := st3.fr.size; have := HS2.out; omega
  have FF := Lib.hid (F12.out.trans st3.fr (fun i hi h => by omega))
  have hnr : ∀ k, mv3.ownBlock = some k → ¬ k = w.heap.size := fun k hk e => by
    have h1 := (h3.nm k hk).2
    have h2 := st3.old k (by have := HS2.out; omega) h1
    have h2 : k = w.heap.size + 1 := h2
    omega
  have hT1 : ∀ k, mv3.ownBlock = some k → S' k := fun k hk => (h3.nm k hk).2
  have hT2 : ∀ k, S' k → w.heap.size ≤ k ∧ k < w3.heap.size := fun k hk => ⟨by
    by_cases ho : k < w2.heap.size
    · have h2 : k = w.heap.size + 1 := st3.old k ho hk
      omega
    · have := HS2.out; omega, st3.lt (fun i (hi : i = w.heap.size + 1) => by have := HS2.out; omega) k hk⟩
  have HT1 := Lib.hid hT1; have HT2 := Lib.hid hT2
  clear hT1 hT2
  obtain ⟨w4, hw4⟩ : ∃ w4, w4 = w3.alloc (.cells #[.int .i64 gv.a.kind, .int .i64 gv.a.line, .string ⟨gv.a.text.toArray⟩, u1, .int .i64 gv.b.kind, .int .i64 gv.b.line, .string ⟨gv.b.text.toArray⟩, u2, .bool gv.no] 30) := ⟨_, rfl⟩
  have f4 : Fr nob w3 w4 := by rw [hw4]; exact (Fr.refl _ _).alloc _
  have hg4 : w4.heap[w3.heap.size]? = some (.cells #[.int .i64 gv.a.kind, .int .i64 gv.a.line, .string ⟨gv.a.text.toArray⟩, u1, .int .i64 gv.b.kind, .int .i64 gv.b.line, .string ⟨gv.b.text.toArray⟩, u2, .bool gv.no] 30 (0, 0)) := by rw [hw4]; exact newAt _ _
  have hb4 := f4.heap h3.blk (fun x => x)
  have hma := h3.ma
  obtain ⟨am, cm, hmv⟩ := ownsRow_slice hma
  subst hmv
  have hz4 := f4.heap hz3 (fun x => x)
  have r4 := rule5 hb4 _ (Fr.refl _ _)
  have HQ := Lib.hid (And.intro (B5.of hb4) (C9.of hg4)); have HQd := Lib.hid (BC.drew (And.intro (B5.of hb4) (C9.of hg4)))
  have rz := rule9 hz4
  have HT4 := Lib.hid (show ∀ k, S' k → w.heap.size ≤ k ∧ k < w4.heap.size from fun k hk => ⟨(HT2.out k hk).1, by have := f4.size; have := (HT2.out k hk).2; omega⟩)
  have HW4 := Lib.hid hw4; have HZ4 := Lib.hid hz4; have FF4 := Lib.hid (FF.out.trans' f4)
  have RN1 := Lib.hid (rn1.on f4); have RN2 := Lib.hid (rn2.on f4); have MA := Lib.hid (ownsRow_fr hma f4 (fun _ _ x => x)); have NR := Lib.hid hnr
  have sh1 := rn1.shape
  have sh2 := rn2.shape
  clear rn1 rn2 hw4 f4 hb4 hz4 h3 hz3 st3 hg4 hma hnr
  rcases sh1 with rfl | ⟨i1, y1, rfl⟩
  all_goals rcases sh2 with rfl | ⟨i2, y2, rfl⟩
  · go_wp2_with (rw [← HW4.out])
    go_region_held3 (fun w' => B5 w' (w.heap.size + 1) (.string ⟨l.toArray⟩) (.int .i64 (q : Nat)) (.bool x) (.slice am ms.length cm) (.int .i64 0) ∧ C9 w' w3.heap.size (.int .i64 gv.a.kind) (.int .i64 gv.a.line) (.string ⟨gv.a.text.toArray⟩) .nilIface (.int .i64 gv.b.kind) (.int .i64 gv.b.line) (.string ⟨gv.b.text.toArray⟩) .nilIface (.bool gv.no)) (repeat (first | (with_reducible exact HQ.out) | (with_reducible exact HQd.out) | (with_reducible refine BC.set ?_ (by omega) (by omega) _) | (with_reducible refine BC.drew ?_))) (fail)
    all_goals
      obtain ⟨w5, hw5⟩ : ∃ w5, w5 = (((((((((w4.setCell ⟨w.heap.size, 0, none⟩ (.int .i64 gv.a.kind)).setCell ⟨w.heap.size, 1, none⟩ (.int .i64 gv.a.line)).setCell ⟨w.heap.size, 2, none⟩ (.string ⟨gv.a.text.toArray⟩)).setCell ⟨w.heap.size, 3, none⟩ .nilIface).setCell ⟨w.heap.size, 4, none⟩ (.int .i64 gv.b.kind)).setCell ⟨w.heap.size, 5, none⟩ (.int .i64 gv.b.line)).setCell ⟨w.heap.size, 6, none⟩ (.string ⟨gv.b.text.toArray⟩)).setCell ⟨w.heap.size, 7, none⟩ .nilIface).setCell ⟨w.heap.size, 8, none⟩ (.bool gv.no)).drew := ⟨_, rfl⟩
      rw [← hw5]
      have hz5 : w5.heap[w.heap.size]? = some (.cells #[.int .i64 gv.a.kind, .int .i64 gv.a.line, .string ⟨gv.a.text.toArray⟩, .nilIface, .int .i64 gv.b.kind, .int .i64 gv.b.line, .string ⟨gv.b.text.toArray⟩, .nilIface, .bool gv.no] 30 (0, 0)) := by rw [hw5]; exact heap_drew (setNine_heap HZ4.out (.int .i64 gv.a.kind) (.int .i64 gv.a.line) (.string ⟨gv.a.text.toArray⟩) .nilIface (.int .i64 gv.b.kind) (.int .i64 gv.b.line) (.string ⟨gv.b.text.toArray⟩) .nilIface (.bool gv.no))
      have f45 : Fr (fun k => k = w.heap.size) w4 w5 := by rw [hw5]; exact (setNine_one (.int .i64 gv.a.kind) (.int .i64 gv.a.line) (.string ⟨gv.a.text.toArray⟩) .nilIface (.int .i64 gv.b.kind) (.int .i64 gv.b.line) (.string ⟨gv.b.text.toArray⟩) .nilIface (.bool gv.no)).drew
      have HFF := Lib.hid (show Fr nob w w5 from FF4.out.trans f45 (fun i hi h => by have h : i = w.heap.size := h; omega))
      have HP1 := Lib.hid (RN.keep f45 (fun k _ h => .inr (.inl h)) (fun _ _ x => x.elim .inl (fun e => .inr (.inr e))) _ _ RN1.out : RN (SO S' O0) w5 gv.a.tree .nilIface)
      have HR1 := Lib.hid (RN.keep f45 (fun k _ h => .inr (.inl h)) (fun _ _ x => x.elim) _ _ RN1.out : RN nob w5 gv.a.tree .nilIface)
      have HP2 := Lib.hid (RN.keep f45 (fun k _ h => .inr (.inl h)) (fun _ _ x => x.elim .inl (fun e => .inr (.inr e))) _ _ RN2.out : RN (SO S' O0) w5 gv.b.tree .nilIface)
      have HT5 := Lib.hid (show ∀ k, S' k → w.heap.size ≤ k ∧ k < w5.heap.size from fun k hk => ⟨(HT4.out k hk).1, by have := f45.size; have := (HT4.out k hk).2; omega⟩)
      have HR2 := Lib.hid (RN.keep f45 (fun k _ h => .inr (.inl h)) (fun _ _ x => x.elim) _ _ RN2.out : RN nob w5 gv.b.tree .nilIface)
      have HMA := Lib.hid (show OwM w5 ms (.slice am ms.length cm) from ownsRow_fr MA.out f45 (fun k hk h => NR.out k hk h))
      have HZ5 := Lib.hid hz5
      clear hw5 hz5 f45 rz r4
      go_wp2
      (try simp only [Exit.inBlock, Exit.then])
      exact bodyPost_ret (results_P9 rfl rfl HZ5.out) rfl ⟨_, _, rfl, ⟨_, _, rfl, HR1.out, HR2.out⟩, HMA.out, HFF.out, S', HT1.out, HT5.out, ⟨_, _, rfl, HP1.out, HP2.out⟩⟩
  · go_wp2_with (rw [← HW4.out])
    go_region_held3 (fun w' => B5 w' (w.heap.size + 1) (.string ⟨l.toArray⟩) (.int .i64 (q : Nat)) (.bool x) (.slice am ms.length cm) (.int .i64 0) ∧ C9 w' w3.heap.size (.int .i64 gv.a.kind) (.int .i64 gv.a.line) (.string ⟨gv.a.text.toArray⟩) .nilIface (.int .i64 gv.b.kind) (.int .i64 gv.b.line) (.string ⟨gv.b.text.toArray⟩) (.iface i2 y2) (.bool gv.no)) (repeat (first | (with_reducible exact HQ.out) | (with_reducible exact HQd.out) | (with_reducible refine BC.set ?_ (by omega) (by omega) _) | (with_reducible refine BC.drew ?_))) (fail)
    all_goals
      obtain ⟨w5, hw5⟩ : ∃ w5, w5 = (((((((((w4.setCell ⟨w.heap.size, 0, none⟩ (.int .i64 gv.a.kind)).setCell ⟨w.heap.size, 1, none⟩ (.int .i64 gv.a.line)).setCell ⟨w.heap.size, 2, none⟩ (.string ⟨gv.a.text.toArray⟩)).setCell ⟨w.heap.size, 3, none⟩ .nilIface).setCell ⟨w.heap.size, 4, none⟩ (.int .i64 gv.b.kind)).setCell ⟨w.heap.size, 5, none⟩ (.int .i64 gv.b.line)).setCell ⟨w.heap.size, 6, none⟩ (.string ⟨gv.b.text.toArray⟩)).setCell ⟨w.heap.size, 7, none⟩ (.iface i2 y2)).setCell ⟨w.heap.size, 8, none⟩ (.bool gv.no)).drew := ⟨_, rfl⟩
      rw [← hw5]
      have hz5 : w5.heap[w.heap.size]? = some (.cells #[.int .i64 gv.a.kind, .int .i64 gv.a.line, .string ⟨gv.a.text.toArray⟩, .nilIface, .int .i64 gv.b.kind, .int .i64 gv.b.line, .string ⟨gv.b.text.toArray⟩, .iface i2 y2, .bool gv.no] 30 (0, 0)) := by rw [hw5]; exact heap_drew (setNine_heap HZ4.out (.int .i64 gv.a.kind) (.int .i64 gv.a.line) (.string ⟨gv.a.text.toArray⟩) .nilIface (.int .i64 gv.b.kind) (.int .i64 gv.b.line) (.string ⟨gv.b.text.toArray⟩) (.iface i2 y2) (.bool gv.no))
      have f45 : Fr (fun k => k = w.heap.size) w4 w5 := by rw [hw5]; exact (setNine_one (.int .i64 gv.a.kind) (.int .i64 gv.a.line) (.string ⟨gv.a.text.toArray⟩) .nilIface (.int .i64 gv.b.kind) (.int .i64 gv.b.line) (.string ⟨gv.b.text.toArray⟩) (.iface i2 y2) (.bool gv.no)).drew
      have HFF := Lib.hid (show Fr nob w w5 from FF4.out.trans f45 (fun i hi h => by have h : i = w.heap.size := h; omega))
      have HP1 := Lib.hid (RN.keep f45 (fun k _ h => .inr (.inl h)) (fun _ _ x => x.elim .inl (fun e => .inr (.inr e))) _ _ RN1.out : RN (SO S' O0) w5 gv.a.tree .nilIface)
      have HR1 := Lib.hid (RN.keep f45 (fun k _ h => .inr (.inl h)) (fun _ _ x => x.elim) _ _ RN1.out : RN nob w5 gv.a.tree .nilIface)
      have HP2 := Lib.hid (RN.keep f45 (fun k _ h => .inr (.inl h)) (fun _ _ x => x.elim .inl (fun e => .inr (.inr e))) _ _ RN2.out : RN (SO S' O0) w5 gv.b.tree (.iface i2 y2))
      have HT5 := Lib.hid (show ∀ k, S' k → w.heap.size ≤ k ∧ k < w5.heap.size from fun k hk => ⟨(HT4.out k hk).1, by have := f45.size; have := (HT4.out k hk).2; omega⟩)
      have HR2 := Lib.hid (RN.keep f45 (fun k _ h => .inr (.inl h)) (fun _ _ x => x.elim) _ _ RN2.out : RN nob w5 gv.b.tree (.iface i2 y2))
      have HMA := Lib.hid (show OwM w5 ms (.slice am ms.length cm) from ownsRow_fr MA.out f45 (fun k hk h => NR.out k hk h))
      have HZ5 := Lib.hid hz5
      clear hw5 hz5 f45 rz r4
      go_wp2
      (try simp only [Exit.inBlock, Exit.then])
      exact bodyPost_ret (results_P9 rfl rfl HZ5.out) rfl ⟨_, _, rfl, ⟨_, _, rfl, HR1.out, HR2.out⟩, HMA.out, HFF.out, S', HT1.out, HT5.out, ⟨_, _, rfl, HP1.out, HP2.out⟩⟩
  · go_wp2_with (rw [← HW4.out])
    go_region_held3 (fun w' => B5 w' (w.heap.size + 1) (.string ⟨l.toArray⟩) (.int .i64 (q : Nat)) (.bool x) (.slice am ms.length cm) (.int .i64 0) ∧ C9 w' w3.heap.size (.int .i64 gv.a.kind) (.int .i64 gv.a.line) (.string ⟨gv.a.text.toArray⟩) (.iface i1 y1) (.int .i64 gv.b.kind) (.int .i64 gv.b.line) (.string ⟨gv.b.text.toArray⟩) .nilIface (.bool gv.no)) (repeat (first | (with_reducible exact HQ.out) | (with_reducible exact HQd.out) | (with_reducible refine BC.set ?_ (by omega) (by omega) _) | (with_reducible refine BC.drew ?_))) (fail)
    all_goals
      obtain ⟨w5, hw5⟩ : ∃ w5, w5 = (((((((((w4.setCell ⟨w.heap.size, 0, none⟩ (.int .i64 gv.a.kind)).setCell ⟨w.heap.size, 1, none⟩ (.int .i64 gv.a.line)).setCell ⟨w.heap.size, 2, none⟩ (.string ⟨gv.a.text.toArray⟩)).setCell ⟨w.heap.size, 3, none⟩ (.iface i1 y1)).setCell ⟨w.heap.size, 4, none⟩ (.int .i64 gv.b.kind)).setCell ⟨w.heap.size, 5, none⟩ (.int .i64 gv.b.line)).setCell ⟨w.heap.size, 6, none⟩ (.string ⟨gv.b.text.toArray⟩)).setCell ⟨w.heap.size, 7, none⟩ .nilIface).setCell ⟨w.heap.size, 8, none⟩ (.bool gv.no)).drew := ⟨_, rfl⟩
      rw [← hw5]
      have hz5 : w5.heap[w.heap.size]? = some (.cells #[.int .i64 gv.a.kind, .int .i64 gv.a.line, .string ⟨gv.a.text.toArray⟩, .iface i1 y1, .int .i64 gv.b.kind, .int .i64 gv.b.line, .string ⟨gv.b.text.toArray⟩, .nilIface, .bool gv.no] 30 (0, 0)) := by rw [hw5]; exact heap_drew (setNine_heap HZ4.out (.int .i64 gv.a.kind) (.int .i64 gv.a.line) (.string ⟨gv.a.text.toArray⟩) (.iface i1 y1) (.int .i64 gv.b.kind) (.int .i64 gv.b.line) (.string ⟨gv.b.text.toArray⟩) .nilIface (.bool gv.no))
      have f45 : Fr (fun k => k = w.heap.size) w4 w5 := by rw [hw5]; exact (setNine_one (.int .i64 gv.a.kind) (.int .i64 gv.a.line) (.string ⟨gv.a.text.toArray⟩) (.iface i1 y1) (.int .i64 gv.b.kind) (.int .i64 gv.b.line) (.string ⟨gv.b.text.toArray⟩) .nilIface (.bool gv.no)).drew
      have HFF := Lib.hid (show Fr nob w w5 from FF4.out.trans f45 (fun i hi h => by have h : i = w.heap.size := h; omega))
      have HP1 := Lib.hid (RN.keep f45 (fun k _ h => .inr (.inl h)) (fun _ _ x => x.elim .inl (fun e => .inr (.inr e))) _ _ RN1.out : RN (SO S' O0) w5 gv.a.tree (.iface i1 y1))
      have HR1 := Lib.hid (RN.keep f45 (fun k _ h => .inr (.inl h)) (fun _ _ x => x.elim) _ _ RN1.out : RN nob w5 gv.a.tree (.iface i1 y1))
      have HP2 := Lib.hid (RN.keep f45 (fun k _ h => .inr (.inl h)) (fun _ _ x => x.elim .inl (fun e => .inr (.inr e))) _ _ RN2.out : RN (SO S' O0) w5 gv.b.tree .nilIface)
      have HT5 := Lib.hid (show ∀ k, S' k → w.heap.size ≤ k ∧ k < w5.heap.size from fun k hk => ⟨(HT4.out k hk).1, by have := f45.size; have := (HT4.out k hk).2; omega⟩)
      have HR2 := Lib.hid (RN.keep f45 (fun k _ h => .inr (.inl h)) (fun _ _ x => x.elim) _ _ RN2.out : RN nob w5 gv.b.tree .nilIface)
      have HMA := Lib.hid (show OwM w5 ms (.slice am ms.length cm) from ownsRow_fr MA.out f45 (fun k hk h => NR.out k hk h))
      have HZ5 := Lib.hid hz5
      clear hw5 hz5 f45 rz r4
      go_wp2
      (try simp only [Exit.inBlock, Exit.then])
      exact bodyPost_ret (results_P9 rfl rfl HZ5.out) rfl ⟨_, _, rfl, ⟨_, _, rfl, HR1.out, HR2.out⟩, HMA.out, HFF.out, S', HT1.out, HT5.out, ⟨_, _, rfl, HP1.out, HP2.out⟩⟩
  · go_wp2_with (rw [← HW4.out])
    go_region_held3 (fun w' => B5 w' (w.heap.size + 1) (.string ⟨l.toArray⟩) (.int .i64 (q : Nat)) (.bool x) (.slice am ms.length cm) (.int .i64 0) ∧ C9 w' w3.heap.size (.int .i64 gv.a.kind) (.int .i64 gv.a.line) (.string ⟨gv.a.text.toArray⟩) (.iface i1 y1) (.int .i64 gv.b.kind) (.int .i64 gv.b.line) (.string ⟨gv.b.text.toArray⟩) (.iface i2 y2) (.bool gv.no)) (repeat (first | (with_reducible exact HQ.out) | (with_reducible exact HQd.out) | (with_reducible refine BC.set ?_ (by omega) (by omega) _) | (with_reducible refine BC.drew ?_))) (fail)
    all_goals
      obtain ⟨w5, hw5⟩ : ∃ w5, w5 = (((((((((w4.setCell ⟨w.heap.size, 0, none⟩ (.int .i64 gv.a.kind)).setCell ⟨w.heap.size, 1, none⟩ (.int .i64 gv.a.line)).setCell ⟨w.heap.size, 2, none⟩ (.string ⟨gv.a.text.toArray⟩)).setCell ⟨w.heap.size, 3, none⟩ (.iface i1 y1)).setCell ⟨w.heap.size, 4, none⟩ (.int .i64 gv.b.kind)).setCell ⟨w.heap.size, 5, none⟩ (.int .i64 gv.b.line)).setCell ⟨w.heap.size, 6, none⟩ (.string ⟨gv.b.text.toArray⟩)).setCell ⟨w.heap.size, 7, none⟩ (.iface i2 y2)).setCell ⟨w.heap.size, 8, none⟩ (.bool gv.no)).drew := ⟨_, rfl⟩
      rw [← hw5]
      have hz5 : w5.heap[w.heap.size]? = some (.cells #[.int .i64 gv.a.kind, .int .i64 gv.a.line, .string ⟨gv.a.text.toArray⟩, .iface i1 y1, .int .i64 gv.b.kind, .int .i64 gv.b.line, .string ⟨gv.b.text.toArray⟩, .iface i2 y2, .bool gv.no] 30 (0, 0)) := by rw [hw5]; exact heap_drew (setNine_heap HZ4.out (.int .i64 gv.a.kind) (.int .i64 gv.a.line) (.string ⟨gv.a.text.toArray⟩) (.iface i1 y1) (.int .i64 gv.b.kind) (.int .i64 gv.b.line) (.string ⟨gv.b.text.toArray⟩) (.iface i2 y2) (.bool gv.no))
      have f45 : Fr (fun k => k = w.heap.size) w4 w5 := by rw [hw5]; exact (setNine_one (.int .i64 gv.a.kind) (.int .i64 gv.a.line) (.string ⟨gv.a.text.toArray⟩) (.iface i1 y1) (.int .i64 gv.b.kind) (.int .i64 gv.b.line) (.string ⟨gv.b.text.toArray⟩) (.iface i2 y2) (.bool gv.no)).drew
      have HFF := Lib.hid (show Fr nob w w5 from FF4.out.trans f45 (fun i hi h => by have h : i = w.heap.size := h; omega))
      have HP1 := Lib.hid (RN.keep f45 (fun k _ h => .inr (.inl h)) (fun _ _ x => x.elim .inl (fun e => .inr (.inr e))) _ _ RN1.out : RN (SO S' O0) w5 gv.a.tree (.iface i1 y1))
      have HR1 := Lib.hid (RN.keep f45 (fun k _ h => .inr (.inl h)) (fun _ _ x => x.elim) _ _ RN1.out : RN nob w5 gv.a.tree (.iface i1 y1))
      have HP2 := Lib.hid (RN.keep f45 (fun k _ h => .inr (.inl h)) (fun _ _ x => x.elim .inl (fun e => .inr (.inr e))) _ _ RN2.out : RN (SO S' O0) w5 gv.b.tree (.iface i2 y2))
      have HT5 := Lib.hid (show ∀ k, S' k → w.heap.size ≤ k ∧ k < w5.heap.size from fun k hk => ⟨(HT4.out k hk).1, by have := f45.size; have := (HT4.out k hk).2; omega⟩)
      have HR2 := Lib.hid (RN.keep f45 (fun k _ h => .inr (.inl h)) (fun _ _ x => x.elim) _ _ RN2.out : RN nob w5 gv.b.tree (.iface i2 y2))
      have HMA := Lib.hid (show OwM w5 ms (.slice am ms.length cm) from ownsRow_fr MA.out f45 (fun k hk h => NR.out k hk h))
      have HZ5 := Lib.hid hz5
      clear hw5 hz5 f45 rz r4
      go_wp2
      (try simp only [Exit.inBlock, Exit.then])
      exact bodyPost_ret (results_P9 rfl rfl HZ5.out) rfl ⟨_, _, rfl, ⟨_, _, rfl, HR1.out, HR2.out⟩, HMA.out, HFF.out, S', HT1.out, HT5.out, ⟨_, _, rfl, HP1.out, HP2.out⟩⟩
end Go.Proofs.YtkfddjopbocpkaaGreatDoor

/-
  Package cmd, plain: how many marks a command's argument lays. No walk.
-/
namespace Go.Proofs.YtkfddjopbocpkaaGreatDoor
open Go.RowKit

section
variable {l : List UInt8} {s : AdS} {N : Nat}
theorem failC_mk (e : Int) (p : Nat) (h : s.marks.length ≤ N) : (failC s e p).marks.length ≤ N := by unfold failC; split <;> assumption
theorem movedC_mk (e : Int) (p : Nat) (h : s.marks.length ≤ N) : (movedC s p e).marks.length ≤ N := by unfold movedC; split <;> assumption
theorem labelC_mk (must : Bool) (h : s.marks.length ≤ N) : (labelC l must s).2.marks.length ≤ N := by
  unfold labelC
  split
  · exact movedC_mk _ _ h
  · exact movedC_mk _ _ h
theorem fileC_mk (h : s.marks.length ≤ N) : (fileC l s).2.marks.length ≤ N := by
  unfold fileC
  split
  · exact failC_mk _ _ h
  · exact movedC_mk _ _ h
theorem linesC_mk (b : Nat) (h : s.marks.length ≤ N) : (linesC l b s).2.marks.length ≤ N + 1 := by
  unfold linesC
  simp only
  have h1 : (s.to (bhd l [32, 9] s.at_)).marks.length ≤ N + 1 := Nat.le_succ_of_le h
  split
  · exact failC_mk _ _ h1
  · split
    · exact failC_mk _ _ h1
    · split
      · exact movedC_mk _ _ h1
      · refine movedC_mk _ _ ?_
        show (s.marks ++ [_]).length ≤ N + 1
        rw [List.length_append]; simpa using h
theorem delimC_mk (h : s.marks.length ≤ N) : (delimC l s).2.marks.length ≤ N := by
  unfold delimC
  split
  · exact failC_mk _ _ h
  · split
    · exact failC_mk _ _ h
    · exact h
theorem betwC_mk (d : UInt8) (rx : Bool) (h : s.marks.length ≤ N) : (betwC l d rx s).2.marks.length ≤ N := by
  unfold betwC
  split
  · exact h
  · exact movedC_mk _ _ h
theorem betwC_ln (d : UInt8) (rx : Bool) : (betwC l d rx s).1.length ≤ l.length := by
  unfold betwC
  split
  · exact Nat.zero_le _
  · have := bt_le l d rx (l.length + 1) s.at_ []; simp only [List.length_nil] at this; show (bt l d rx (l.length + 1) s.at_ []).1.length ≤ _; omega
theorem regexC_mk (x : Bool) (d : UInt8) (hs : s.at_ ≤ l.length) (h : s.marks.length ≤ N) : (regexC x l d s).2.marks.length ≤ N + l.length := by
  unfold regexC
  simp only
  have hb := betwC_mk (l := l) d true h
  have hb' := betwC_ln (l := l) (s := s) d true
  have h2 : (if (betwC l d true s).2.e = 0 ∧ (betwC l d true s).1 = [] then failC (betwC l d true s).2 2 s.at_ else (betwC l d true s).2).marks.length ≤ N := by
    split
    · exact failC_mk _ _ hb
    · exact hb
  generalize (if (betwC l d true s).2.e = 0 ∧ (betwC l d true s).1 = [] then failC (betwC l d true s).2 2 s.at_ else (betwC l d true s).2) = s2 at h2 ⊢
  split
  · exact Nat.le_trans h2 (Nat.le_add_right _ _)
  · cases hp : parseD prg x (betwC l d true s).1 with
    | inl z => exact Nat.le_trans (failC_mk _ _ h2) (Nat.le_add_right _ _)
    | inr z =>
      obtain ⟨n, r⟩ := z
      have h3 := (parseD_marks hp).2.1
      show (s2.marks ++ r.marks.map (shM s.at_)).length ≤ _
      rw [List.length_append, List.length_map]; omega
theorem flagC_mk (sub : SV) (h : s.marks.length ≤ N) : (flagC l sub s).2.2.marks.length ≤ N := by
  unfold flagC
  split
  · simp only; split; exact failC_mk _ _ h; exact h
  · split
    · simp only; split; exact failC_mk _ _ h; exact h
    · split
      · simp only
        split
        · exact failC_mk _ _ h
        · have hm := movedC_mk (nm s.at_ (l.drop s.at_) 0 0).2.2 (nm s.at_ (l.drop s.at_) 0 0).2.1 h
          split
          · exact failC_mk _ _ hm
          · exact hm
      · split
        · exact fileC_mk h
        · exact h
theorem flagsC_mk : ∀ (n : Nat) (sub : SV) (s : AdS), s.marks.length ≤ N → (flagsC l n sub s).2.marks.length ≤ N
  | 0, _, _, h => h
  | n + 1, sub, s, h => by
    rw [flagsC]
    have hf := flagC_mk (l := l) sub h
    cases hr : flagC l sub s with
    | mk a b =>
      rw [hr] at hf
      obtain ⟨b, c⟩ := b
      cases a with
      | true => exact flagsC_mk n b c hf
      | false => exact hf
theorem subC_mk (x : Bool) (hs : s.at_ ≤ l.length) (h : s.marks.length ≤ N) : (subC x l s).2.marks.length ≤ N + l.length := by
  unfold subC
  simp only
  have h1 := delimC_mk (l := l) h
  have hs1 := delimC_in hs
  split
  · exact Nat.le_trans h1 (Nat.le_add_right _ _)
  · have h2 := regexC_mk x (delimC l s).1 hs1 h1
    have h3 := betwC_mk (l := l) (delimC l s).1 false h2
    split
    · exact h3
    · split
      · exact failC_mk _ _ h3
      · exact flagsC_mk _ _ _ h3
theorem tableC_mk (h : s.marks.length ≤ N) : (tableC l s).2.marks.length ≤ N := by
  unfold tableC
  simp only
  have h1 := delimC_mk (l := l) h
  have h2 := betwC_mk (l := l) (delimC l s).1 false h1
  have h3 := betwC_mk (l := l) (delimC l s).1 false h2
  split
  · exact h3
  · split
    · exact failC_mk _ _ h3
    · split
      · exact h3
      · exact failC_mk _ _ h3
theorem argsC_mk (x : Bool) (c : CV) (hs : s.at_ ≤ l.length) (h : s.marks.length ≤ N) : (argsC x l c s).2.2.marks.length ≤ N + l.length + 1 := by
  unfold argsC
  split
  · show s.marks.length ≤ _; omega
  split
  · have := labelC_mk (l := l) true h; show (labelC l true s).2.marks.length ≤ _; omega
  split
  · have := labelC_mk (l := l) false h; show (labelC l false s).2.marks.length ≤ _; omega
  split
  · have := linesC_mk (l := l) c.at_ h; show (linesC l c.at_ s).2.marks.length ≤ _; omega
  split
  · have := fileC_mk (l := l) h; show (fileC l s).2.marks.length ≤ _; omega
  split
  · have := subC_mk x hs h; show (subC x l s).2.marks.length ≤ _; omega
  split
  · have := tableC_mk (l := l) h; show (tableC l s).2.marks.length ≤ _; omega
  · show s.marks.length ≤ _; omega
end
theorem notD_mk {l : List UInt8} {a b : AV} {s s' : AdS} {g : GV} (h : notD l a b s = .inr (g, s')) : s'.marks = s.marks := by
  unfold notD at h
  split at h
  · split at h
    · cases h
    · injection h with h; injection h with _ h; subst h; rfl
  · injection h with h; injection h with _ h; subst h; rfl
theorem guardD_mk {x : Bool} {l : List UInt8} {p : Nat} {g : GV} {s' : AdS} (hp : p ≤ l.length) (h : guardD x l ⟨p, [], 0⟩ = .inr (g, s')) : s'.marks.length ≤ 2 * l.length + 2 := by
  unfold guardD at h
  cases ha : addrD x l false ⟨p, [], 0⟩ with
  | inl e => rw [ha] at h; cases h
  | inr z =>
    obtain ⟨a, s1⟩ := z
    rw [ha] at h
    simp only at h
    have h1 : s1.marks.length ≤ ([] : List (Nat × List UInt8)).length + l.length + 1 := (addrD_in (s := ⟨p, [], 0⟩) hp rfl ha).mks
    simp only [List.length_nil] at h1
    by_cases hk : a.kind = 0
    · rw [if_pos hk] at h
      simp only at h
      rw [notD_mk h]; omega
    · rw [if_neg hk] at h
      cases hb : pairD x l s1 with
      | inl e => rw [hb] at h; cases h
      | inr z =>
        obtain ⟨b, s2⟩ := z
        rw [hb] at h
        simp only at h
        have h2 := (pairD_in hb).mks
        rw [notD_mk h]; omega
end Go.Proofs.YtkfddjopbocpkaaGreatDoor

/-
  Walks of package addr: Same, SameGuard.
-/
namespace Go.Proofs.YtkfddjopbocpkaaGreatDoor
open Go.RowKit

end Go.Proofs.YtkfddjopbocpkaaGreatDoor
