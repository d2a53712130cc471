/-
  Merged texts of this claim: AdrK, AdrO, AdrQ, AdrL, AdrR.
-/
import Derived.Test.YtmoeboknelnaoaaGreatDoorM13
import Derived.Test.YtmoeboknelnaoaaGreatDoorM31
import Derived.Test.YtmoeboknelnaoaaGreatDoorM34

/-
  Walks of package addr: ParseGuard, read.
-/
namespace Go.Proofs.YtmoeboknelnaoaaGreatDoor
open Go.RowKit

theorem BC.drew {w : World} {b c : Nat} {v0 v1 v2 v3 v4 u0 u1 u2 u3 u4 u5 u6 u7 u8 : Value} (h : B5 w b v0 v1 v2 v3 v4 ∧ C9 w c u0 u1 u2 u3 u4 u5 u6 u7 u8) : B5 w.drew b v0 v1 v2 v3 v4 ∧ C9 w.drew c u0 u1 u2 u3 u4 u5 u6 u7 u8 := h
theorem BC.set {w : World} {b c k j : Nat} {v0 v1 v2 v3 v4 u0 u1 u2 u3 u4 u5 u6 u7 u8 : Value} (h : B5 w b v0 v1 v2 v3 v4 ∧ C9 w c u0 u1 u2 u3 u4 u5 u6 u7 u8) (hb : k ≠ b) (hc : k ≠ c) (u : Value) : B5 (w.setCell ⟨k, j, none⟩ u) b v0 v1 v2 v3 v4 ∧ C9 (w.setCell ⟨k, j, none⟩ u) c u0 u1 u2 u3 u4 u5 u6 u7 u8 := by
  obtain ⟨h1, c0, c1, c2, c3, c4, c5, c6, c7, c8⟩ := h
  exact ⟨h1.set hb u, cell_ne c0 hc, cell_ne c1 hc, cell_ne c2 hc, cell_ne c3 hc, cell_ne c4 hc, cell_ne c5 hc, cell_ne c6 hc, cell_ne c7 hc, cell_ne c8 hc⟩

set_option maxRecDepth 100000 in
set_option maxHeartbeats 4000000 in
theorem parseG_ok (l : List UInt8) (p : Nat) (x : Bool) (w : World) (hl : l.length ≤ 99000) (hp : p ≤ l.length) (hE : Env w) (gv : GV) (q : Nat) (ms : List (Nat × List UInt8)) (hR : guardD x l ⟨p, [], 0⟩ = .inr (gv, ⟨q, ms, 0⟩)) :
    Calls Tryz.prog 9 #[.string ⟨l.toArray⟩, .int .i64 (p : Nat), .bool x] w fun e w' => ∃ v mv, e = .returned (.tuple #[v, mv, .int .i64 (q : Nat), .int .i64 0]) ∧ GVal nob w' gv v ∧ OwM w' ms mv ∧ Fr nob w w' := by
  obtain ⟨w1, hw1⟩ : ∃ w1, w1 = w.alloc (.cells zG 29) := ⟨_, rfl⟩
  have f1 : Fr nob w w1 := by rw [hw1]; exact (Fr.refl _ _).alloc _
  have hz : w1.heap[w.heap.size]? = some (.cells zG 29 (0, 0)) := by rw [hw1]; exact newAt _ _
  have hs1 : w1.heap.size = w.heap.size + 1 := by rw [hw1]; simp
  obtain ⟨w2, hw2⟩ : ∃ w2, w2 = w1.alloc (.cells #[.string ⟨l.toArray⟩, .int .i64 (p : Nat), .bool x, .slice none 0 0, .int .i64 0] 74) := ⟨_, rfl⟩
  have f2 : Fr nob w1 w2 := by rw [hw2]; exact (Fr.refl _ _).alloc _
  have hb : w2.heap[w.heap.size + 1]? = some (.cells #[.string ⟨l.toArray⟩, .int .i64 (p : Nat), .bool x, .slice none 0 0, .int .i64 0] 74 (0, 0)) := by
    rw [hw2, ← hs1]; exact newAt _ _
  have hs2 : w2.heap.size = w.heap.size + 2 := by rw [hw2]; simp [hs1]
  have hA : ARd (w.heap.size + 1) l x ⟨p, [], 0⟩ (fun k => k = w.heap.size + 1) w2 := ⟨.slice none 0 0, ⟨hb, World.ownsRow_nil _ _ _ _, fun _ h => (by cases h), rfl⟩⟩
  have hG := ad_guard (w.heap.size + 1) l x p (fun k => k = w.heap.size + 1) (fun k => k = w.heap.size) w2 hl hp (fun k hk => by omega) (fun k hk => by omega) w hE (f1.trans' f2) (fun k hk => by omega) hA
  rw [hR] at hG
  have hz' := f2.heap hz (fun x => x)
  have q1 : ¬ (l.length : Int) < (p : Int) := by omega
  have HG := Lib.hid hG; have HW1 := Lib.hid hw1; have HW2 := Lib.hid hw2; have F12 := Lib.hid (f1.trans' f2); have HZ := Lib.hid hz'; have HS2 := Lib.hid hs2; have HS1 := Lib.hid hs1
  clear hG hw1 hw2 f1 f2 hz hz' hb hA hs1 hs2 hE hR
  go_enter Tryz.func9, Tryz.ntmps9
  go_wp2_with (first | rw [← HW1.out] | rw [HS1.out] | rw [← HW2.out])
  refine HG.out.mono ?_
  intro e w3 he
  obtain ⟨v, S', rfl, ⟨u1, u2, rfl, rn1, rn2⟩, hA3, st3⟩ := he
  obtain ⟨mv3, h3⟩ := hA3
  have hz3 := st3.fr.heap HZ.out (fun h => by omega)
  have hrb : w.heap.size ≠ w.heap.size + 1 := by omega
  have hr3 : w.heap.size ≠ w3.heap.size := by have := st3.fr.size; have := HS2.out; omega
  have FF := Lib.hid (F12.out.trans st3.fr (fun i hi h => by omega))
  have hnr : ∀ k, mv3.ownBlock = some k → ¬ k = w.heap.size := fun k hk e => by
    have h1 := (h3.nm k hk).2
    have h2 := st3.old k (by have := HS2.out; omega) h1
    have h2 : k = w.heap.size + 1 := h2
    omega
  obtain ⟨w4, hw4⟩ : ∃ w4, w4 = w3.alloc (.cells #[.int .i64 gv.a.kind, .int .i64 gv.a.line, .string ⟨gv.a.text.toArray⟩, u1, .int .i64 gv.b.kind, .int .i64 gv.b.line, .string ⟨gv.b.text.toArray⟩, u2, .bool gv.no] 29) := ⟨_, rfl⟩
  have f4 : Fr nob w3 w4 := by rw [hw4]; exact (Fr.refl _ _).alloc _
  have hg4 : w4.heap[w3.heap.size]? = some (.cells #[.int .i64 gv.a.kind, .int .i64 gv.a.line, .string ⟨gv.a.text.toArray⟩, u1, .int .i64 gv.b.kind, .int .i64 gv.b.line, .string ⟨gv.b.text.toArray⟩, u2, .bool gv.no] 29 (0, 0)) := by rw [hw4]; exact newAt _ _
  have hb4 := f4.heap h3.blk (fun x => x)
  have hma := h3.ma
  obtain ⟨am, cm, hmv⟩ := ownsRow_slice hma
  subst hmv
  have hz4 := f4.heap hz3 (fun x => x)
  have r4 := rule5 hb4 _ (Fr.refl _ _)
  have HQ := Lib.hid (And.intro (B5.of hb4) (C9.of hg4)); have HQd := Lib.hid (BC.drew (And.intro (B5.of hb4) (C9.of hg4)))
  have rz := rule9 hz4
  have HW4 := Lib.hid hw4; have HZ4 := Lib.hid hz4; have FF4 := Lib.hid (FF.out.trans' f4)
  have RN1 := Lib.hid (rn1.on f4); have RN2 := Lib.hid (rn2.on f4); have MA := Lib.hid (ownsRow_fr hma f4 (fun _ _ x => x)); have NR := Lib.hid hnr
  have sh1 := rn1.shape
  have sh2 := rn2.shape
  clear rn1 rn2 hw4 f4 hb4 hz4 h3 hz3 st3 hg4 hma hnr
  rcases sh1 with rfl | ⟨i1, y1, rfl⟩
  all_goals rcases sh2 with rfl | ⟨i2, y2, rfl⟩
  · go_wp2_with (rw [← HW4.out])
    go_region_held3 (fun w' => B5 w' (w.heap.size + 1) (.string ⟨l.toArray⟩) (.int .i64 (q : Nat)) (.bool x) (.slice am ms.length cm) (.int .i64 0) ∧ C9 w' w3.heap.size (.int .i64 gv.a.kind) (.int .i64 gv.a.line) (.string ⟨gv.a.text.toArray⟩) .nilIface (.int .i64 gv.b.kind) (.int .i64 gv.b.line) (.string ⟨gv.b.text.toArray⟩) .nilIface (.bool gv.no)) (repeat (first | (with_reducible exact HQ.out) | (with_reducible exact HQd.out) | (with_reducible refine BC.set ?_ (by omega) (by omega) _) | (with_reducible refine BC.drew ?_))) (fail)
    all_goals
      obtain ⟨w5, hw5⟩ : ∃ w5, w5 = (((((((((w4.setCell ⟨w.heap.size, 0, none⟩ (.int .i64 gv.a.kind)).setCell ⟨w.heap.size, 1, none⟩ (.int .i64 gv.a.line)).setCell ⟨w.heap.size, 2, none⟩ (.string ⟨gv.a.text.toArray⟩)).setCell ⟨w.heap.size, 3, none⟩ .nilIface).setCell ⟨w.heap.size, 4, none⟩ (.int .i64 gv.b.kind)).setCell ⟨w.heap.size, 5, none⟩ (.int .i64 gv.b.line)).setCell ⟨w.heap.size, 6, none⟩ (.string ⟨gv.b.text.toArray⟩)).setCell ⟨w.heap.size, 7, none⟩ .nilIface).setCell ⟨w.heap.size, 8, none⟩ (.bool gv.no)).drew := ⟨_, rfl⟩
      rw [← hw5]
      have hz5 : w5.heap[w.heap.size]? = some (.cells #[.int .i64 gv.a.kind, .int .i64 gv.a.line, .string ⟨gv.a.text.toArray⟩, .nilIface, .int .i64 gv.b.kind, .int .i64 gv.b.line, .string ⟨gv.b.text.toArray⟩, .nilIface, .bool gv.no] 29 (0, 0)) := by rw [hw5]; exact heap_drew (setNine_heap HZ4.out (.int .i64 gv.a.kind) (.int .i64 gv.a.line) (.string ⟨gv.a.text.toArray⟩) .nilIface (.int .i64 gv.b.kind) (.int .i64 gv.b.line) (.string ⟨gv.b.text.toArray⟩) .nilIface (.bool gv.no))
      have f45 : Fr (fun k => k = w.heap.size) w4 w5 := by rw [hw5]; exact (setNine_one (.int .i64 gv.a.kind) (.int .i64 gv.a.line) (.string ⟨gv.a.text.toArray⟩) .nilIface (.int .i64 gv.b.kind) (.int .i64 gv.b.line) (.string ⟨gv.b.text.toArray⟩) .nilIface (.bool gv.no)).drew
      have HFF := Lib.hid (show Fr nob w w5 from FF4.out.trans f45 (fun i hi h => by have h : i = w.heap.size := h; omega))
      have HR1 := Lib.hid (RN.keep f45 (fun k _ h => .inr h) (fun _ _ x => x.elim) _ _ RN1.out : RN nob w5 gv.a.tree .nilIface)
      have HR2 := Lib.hid (RN.keep f45 (fun k _ h => .inr h) (fun _ _ x => x.elim) _ _ RN2.out : RN nob w5 gv.b.tree .nilIface)
      have HMA := Lib.hid (show OwM w5 ms (.slice am ms.length cm) from ownsRow_fr MA.out f45 (fun k hk h => NR.out k hk h))
      have HZ5 := Lib.hid hz5
      clear hw5 hz5 f45 rz r4
      go_wp2
      (try simp only [Exit.inBlock, Exit.then])
      exact bodyPost_ret (results_P9 rfl rfl HZ5.out) rfl ⟨_, _, rfl, ⟨_, _, rfl, HR1.out, HR2.out⟩, HMA.out, HFF.out⟩
  · go_wp2_with (rw [← HW4.out])
    go_region_held3 (fun w' => B5 w' (w.heap.size + 1) (.string ⟨l.toArray⟩) (.int .i64 (q : Nat)) (.bool x) (.slice am ms.length cm) (.int .i64 0) ∧ C9 w' w3.heap.size (.int .i64 gv.a.kind) (.int .i64 gv.a.line) (.string ⟨gv.a.text.toArray⟩) .nilIface (.int .i64 gv.b.kind) (.int .i64 gv.b.line) (.string ⟨gv.b.text.toArray⟩) (.iface i2 y2) (.bool gv.no)) (repeat (first | (with_reducible exact HQ.out) | (with_reducible exact HQd.out) | (with_reducible refine BC.set ?_ (by omega) (by omega) _) | (with_reducible refine BC.drew ?_))) (fail)
    all_goals
      obtain ⟨w5, hw5⟩ : ∃ w5, w5 = (((((((((w4.setCell ⟨w.heap.size, 0, none⟩ (.int .i64 gv.a.kind)).setCell ⟨w.heap.size, 1, none⟩ (.int .i64 gv.a.line)).setCell ⟨w.heap.size, 2, none⟩ (.string ⟨gv.a.text.toArray⟩)).setCell ⟨w.heap.size, 3, none⟩ .nilIface).setCell ⟨w.heap.size, 4, none⟩ (.int .i64 gv.b.kind)).setCell ⟨w.heap.size, 5, none⟩ (.int .i64 gv.b.line)).setCell ⟨w.heap.size, 6, none⟩ (.string ⟨gv.b.text.toArray⟩)).setCell ⟨w.heap.size, 7, none⟩ (.iface i2 y2)).setCell ⟨w.heap.size, 8, none⟩ (.bool gv.no)).drew := ⟨_, rfl⟩
      rw [← hw5]
      have hz5 : w5.heap[w.heap.size]? = some (.cells #[.int .i64 gv.a.kind, .int .i64 gv.a.line, .string ⟨gv.a.text.toArray⟩, .nilIface, .int .i64 gv.b.kind, .int .i64 gv.b.line, .string ⟨gv.b.text.toArray⟩, .iface i2 y2, .bool gv.no] 29 (0, 0)) := by rw [hw5]; exact heap_drew (setNine_heap HZ4.out (.int .i64 gv.a.kind) (.int .i64 gv.a.line) (.string ⟨gv.a.text.toArray⟩) .nilIface (.int .i64 gv.b.kind) (.int .i64 gv.b.line) (.string ⟨gv.b.text.toArray⟩) (.iface i2 y2) (.bool gv.no))
      have f45 : Fr (fun k => k = w.heap.size) w4 w5 := by rw [hw5]; exact (setNine_one (.int .i64 gv.a.kind) (.int .i64 gv.a.line) (.string ⟨gv.a.text.toArray⟩) .nilIface (.int .i64 gv.b.kind) (.int .i64 gv.b.line) (.string ⟨gv.b.text.toArray⟩) (.iface i2 y2) (.bool gv.no)).drew
      have HFF := Lib.hid (show Fr nob w w5 from FF4.out.trans f45 (fun i hi h => by have h : i = w.heap.size := h; omega))
      have HR1 := Lib.hid (RN.keep f45 (fun k _ h => .inr h) (fun _ _ x => x.elim) _ _ RN1.out : RN nob w5 gv.a.tree .nilIface)
      have HR2 := Lib.hid (RN.keep f45 (fun k _ h => .inr h) (fun _ _ x => x.elim) _ _ RN2.out : RN nob w5 gv.b.tree (.iface i2 y2))
      have HMA := Lib.hid (show OwM w5 ms (.slice am ms.length cm) from ownsRow_fr MA.out f45 (fun k hk h => NR.out k hk h))
      have HZ5 := Lib.hid hz5
      clear hw5 hz5 f45 rz r4
      go_wp2
      (try simp only [Exit.inBlock, Exit.then])
      exact bodyPost_ret (results_P9 rfl rfl HZ5.out) rfl ⟨_, _, rfl, ⟨_, _, rfl, HR1.out, HR2.out⟩, HMA.out, HFF.out⟩
  · go_wp2_with (rw [← HW4.out])
    go_region_held3 (fun w' => B5 w' (w.heap.size + 1) (.string ⟨l.toArray⟩) (.int .i64 (q : Nat)) (.bool x) (.slice am ms.length cm) (.int .i64 0) ∧ C9 w' w3.heap.size (.int .i64 gv.a.kind) (.int .i64 gv.a.line) (.string ⟨gv.a.text.toArray⟩) (.iface i1 y1) (.int .i64 gv.b.kind) (.int .i64 gv.b.line) (.string ⟨gv.b.text.toArray⟩) .nilIface (.bool gv.no)) (repeat (first | (with_reducible exact HQ.out) | (with_reducible exact HQd.out) | (with_reducible refine BC.set ?_ (by omega) (by omega) _) | (with_reducible refine BC.drew ?_))) (fail)
    all_goals
      obtain ⟨w5, hw5⟩ : ∃ w5, w5 = (((((((((w4.setCell ⟨w.heap.size, 0, none⟩ (.int .i64 gv.a.kind)).setCell ⟨w.heap.size, 1, none⟩ (.int .i64 gv.a.line)).setCell ⟨w.heap.size, 2, none⟩ (.string ⟨gv.a.text.toArray⟩)).setCell ⟨w.heap.size, 3, none⟩ (.iface i1 y1)).setCell ⟨w.heap.size, 4, none⟩ (.int .i64 gv.b.kind)).setCell ⟨w.heap.size, 5, none⟩ (.int .i64 gv.b.line)).setCell ⟨w.heap.size, 6, none⟩ (.string ⟨gv.b.text.toArray⟩)).setCell ⟨w.heap.size, 7, none⟩ .nilIface).setCell ⟨w.heap.size, 8, none⟩ (.bool gv.no)).drew := ⟨_, rfl⟩
      rw [← hw5]
      have hz5 : w5.heap[w.heap.size]? = some (.cells #[.int .i64 gv.a.kind, .int .i64 gv.a.line, .string ⟨gv.a.text.toArray⟩, .iface i1 y1, .int .i64 gv.b.kind, .int .i64 gv.b.line, .string ⟨gv.b.text.toArray⟩, .nilIface, .bool gv.no] 29 (0, 0)) := by rw [hw5]; exact heap_drew (setNine_heap HZ4.out (.int .i64 gv.a.kind) (.int .i64 gv.a.line) (.string ⟨gv.a.text.toArray⟩) (.iface i1 y1) (.int .i64 gv.b.kind) (.int .i64 gv.b.line) (.string ⟨gv.b.text.toArray⟩) .nilIface (.bool gv.no))
      have f45 : Fr (fun k => k = w.heap.size) w4 w5 := by rw [hw5]; exact (setNine_one (.int .i64 gv.a.kind) (.int .i64 gv.a.line) (.string ⟨gv.a.text.toArray⟩) (.iface i1 y1) (.int .i64 gv.b.kind) (.int .i64 gv.b.line) (.string ⟨gv.b.text.toArray⟩) .nilIface (.bool gv.no)).drew
      have HFF := Lib.hid (show Fr nob w w5 from FF4.out.trans f45 (fun i hi h => by have h : i = w.heap.size := h; omega))
      have HR1 := Lib.hid (RN.keep f45 (fun k _ h => .inr h) (fun _ _ x => x.elim) _ _ RN1.out : RN nob w5 gv.a.tree (.iface i1 y1))
      have HR2 := Lib.hid (RN.keep f45 (fun k _ h => .inr h) (fun _ _ x => x.elim) _ _ RN2.out : RN nob w5 gv.b.tree .nilIface)
      have HMA := Lib.hid (show OwM w5 ms (.slice am ms.length cm) from ownsRow_fr MA.out f45 (fun k hk h => NR.out k hk h))
      have HZ5 := Lib.hid hz5
      clear hw5 hz5 f45 rz r4
      go_wp2
      (try simp only [Exit.inBlock, Exit.then])
      exact bodyPost_ret (results_P9 rfl rfl HZ5.out) rfl ⟨_, _, rfl, ⟨_, _, rfl, HR1.out, HR2.out⟩, HMA.out, HFF.out⟩
  · go_wp2_with (rw [← HW4.out])
    go_region_held3 (fun w' => B5 w' (w.heap.size + 1) (.string ⟨l.toArray⟩) (.int .i64 (q : Nat)) (.bool x) (.slice am ms.length cm) (.int .i64 0) ∧ C9 w' w3.heap.size (.int .i64 gv.a.kind) (.int .i64 gv.a.line) (.string ⟨gv.a.text.toArray⟩) (.iface i1 y1) (.int .i64 gv.b.kind) (.int .i64 gv.b.line) (.string ⟨gv.b.text.toArray⟩) (.iface i2 y2) (.bool gv.no)) (repeat (first | (with_reducible exact HQ.out) | (with_reducible exact HQd.out) | (with_reducible refine BC.set ?_ (by omega) (by omega) _) | (with_reducible refine BC.drew ?_))) (fail)
    all_goals
      obtain ⟨w5, hw5⟩ : ∃ w5, w5 = (((((((((w4.setCell ⟨w.heap.size, 0, none⟩ (.int .i64 gv.a.kind)).setCell ⟨w.heap.size, 1, none⟩ (.int .i64 gv.a.line)).setCell ⟨w.heap.size, 2, none⟩ (.string ⟨gv.a.text.toArray⟩)).setCell ⟨w.heap.size, 3, none⟩ (.iface i1 y1)).setCell ⟨w.heap.size, 4, none⟩ (.int .i64 gv.b.kind)).setCell ⟨w.heap.size, 5, none⟩ (.int .i64 gv.b.line)).setCell ⟨w.heap.size, 6, none⟩ (.string ⟨gv.b.text.toArray⟩)).setCell ⟨w.heap.size, 7, none⟩ (.iface i2 y2)).setCell ⟨w.heap.size, 8, none⟩ (.bool gv.no)).drew := ⟨_, rfl⟩
      rw [← hw5]
      have hz5 : w5.heap[w.heap.size]? = some (.cells #[.int .i64 gv.a.kind, .int .i64 gv.a.line, .string ⟨gv.a.text.toArray⟩, .iface i1 y1, .int .i64 gv.b.kind, .int .i64 gv.b.line, .string ⟨gv.b.text.toArray⟩, .iface i2 y2, .bool gv.no] 29 (0, 0)) := by rw [hw5]; exact heap_drew (setNine_heap HZ4.out (.int .i64 gv.a.kind) (.int .i64 gv.a.line) (.string ⟨gv.a.text.toArray⟩) (.iface i1 y1) (.int .i64 gv.b.kind) (.int .i64 gv.b.line) (.string ⟨gv.b.text.toArray⟩) (.iface i2 y2) (.bool gv.no))
      have f45 : Fr (fun k => k = w.heap.size) w4 w5 := by rw [hw5]; exact (setNine_one (.int .i64 gv.a.kind) (.int .i64 gv.a.line) (.string ⟨gv.a.text.toArray⟩) (.iface i1 y1) (.int .i64 gv.b.kind) (.int .i64 gv.b.line) (.string ⟨gv.b.text.toArray⟩) (.iface i2 y2) (.bool gv.no)).drew
      have HFF := Lib.hid (show Fr nob w w5 from FF4.out.trans f45 (fun i hi h => by have h : i = w.heap.size := h; omega))
      have HR1 := Lib.hid (RN.keep f45 (fun k _ h => .inr h) (fun _ _ x => x.elim) _ _ RN1.out : RN nob w5 gv.a.tree (.iface i1 y1))
      have HR2 := Lib.hid (RN.keep f45 (fun k _ h => .inr h) (fun _ _ x => x.elim) _ _ RN2.out : RN nob w5 gv.b.tree (.iface i2 y2))
      have HMA := Lib.hid (show OwM w5 ms (.slice am ms.length cm) from ownsRow_fr MA.out f45 (fun k hk h => NR.out k hk h))
      have HZ5 := Lib.hid hz5
      clear hw5 hz5 f45 rz r4
      go_wp2
      (try simp only [Exit.inBlock, Exit.then])
      exact bodyPost_ret (results_P9 rfl rfl HZ5.out) rfl ⟨_, _, rfl, ⟨_, _, rfl, HR1.out, HR2.out⟩, HMA.out, HFF.out⟩
theorem parse_guard (l : List UInt8) (p : Nat) (x : Bool) (w : World) (hl : l.length ≤ 99000) (hp : p ≤ l.length) (hE : Env w) :
    Calls Tryz.prog 9 #[.string ⟨l.toArray⟩, .int .i64 (p : Nat), .bool x] w (GParse (guardD x l ⟨p, [], 0⟩) w) := by
  cases hR : guardD x l ⟨p, [], 0⟩ with
  | inl z =>
    obtain ⟨z, q⟩ := z
    exact (parseG_no l p x w hl hp hE z q hR).mono fun e w' h => ⟨h.2, h.1⟩
  | inr z =>
    obtain ⟨gv, q, ms, e⟩ := z
    obtain rfl : e = 0 := guardD_ok hR
    exact (parseG_ok l p x w hl hp hE gv q ms hR).mono fun e w' ⟨v, mv, h1, h2, h3, h4⟩ => ⟨h4, v, mv, h1, h2, h3⟩
end Go.Proofs.YtmoeboknelnaoaaGreatDoor

/-
  Walks of package addr: Same, SameGuard.
-/
namespace Go.Proofs.YtmoeboknelnaoaaGreatDoor
open Go.RowKit

/-- Are two addresses the same, but for their texts? -/
def AV.same (a b : AV) : Prop := a.kind = b.kind ∧ ((a.kind = 1 ∨ a.kind = 4) → a.line = b.line) ∧ (a.kind = 3 → a.tree.norm = b.tree.norm)

set_option maxRecDepth 100000 in
set_option maxHeartbeats 2000000 in
theorem same_adr (a b : AV) (va vb : Value) (w : World) (sa : a.tree.size ≤ 3000000) (sb : b.tree.size ≤ 3000000) (ha : AVal nob w a va) (hb : AVal nob w b vb) :
    Calls Tryz.prog 24 #[va, vb] w fun e w' => ∃ r : Bool, e = .returned (.bool r) ∧ (r = true ↔ AV.same a b) ∧ Fr nob w w' := by
  obtain ⟨k1, n1, t1, d1⟩ := a
  obtain ⟨k2, n2, t2, d2⟩ := b
  obtain ⟨u1, rfl, r1⟩ := ha
  obtain ⟨u2, rfl, r2⟩ := hb
  simp only at sa sb r1 r2 ⊢
  have o1 := r1.shape; have o2 := r2.shape
  have HS := Lib.hid (fun (w' : World) (f : Fr nob w w') => same_any 3000000 d1 d2 u1 u2 w' sa sa sb (r1.on f) (r2.on f))
  clear r1 r2
  unfold AV.same
  simp only
  rcases o1 with rfl | ⟨i1, y1, rfl⟩ <;> rcases o2 with rfl | ⟨i2, y2, rfl⟩
  all_goals
    by_cases hk : k1 = k2
    · subst hk
      by_cases h1 : k1 = 1
      · subst h1
        go_enter Tryz.func24, Tryz.ntmps24
        go_wp2
        go_ret
        exact ⟨_, rfl, by simp, ((Fr.refl nob w).alloc _).alloc _⟩
      · by_cases h4 : k1 = 4
        · subst h4
          go_enter Tryz.func24, Tryz.ntmps24
          go_wp2
          go_ret
          exact ⟨_, rfl, by simp, ((Fr.refl nob w).alloc _).alloc _⟩
        · by_cases h3 : k1 = 3
          · subst h3
            go_enter Tryz.func24, Tryz.ntmps24
            go_wp2_with fail
            refine (HS.out _ (((Fr.refl nob w).alloc _).alloc _)).mono ?_
            rintro e w3 ⟨r, rfl, hr, f3⟩
            have F3 := Lib.hid ((((Fr.refl nob w).alloc _).alloc _).trans' f3)
            clear f3
            go_wp2
            go_ret
            exact ⟨_, rfl, by rw [hr]; simp, F3.out⟩
          · have e1 : (k1 == 1) = false := by simpa using h1
            have e4 : (k1 == 4) = false := by simpa using h4
            have e3 : (k1 == 3) = false := by simpa using h3
            have H := Lib.hid (And.intro h1 (And.intro h4 h3)); clear h1 h4 h3
            go_enter Tryz.func24, Tryz.ntmps24
            go_wp2
            go_ret
            exact ⟨_, rfl, by have := H.out; simp [this.1, this.2.1, this.2.2], ((Fr.refl nob w).alloc _).alloc _⟩
    · have e1 : (k1 == k2) = false := by simpa using hk
      have H := Lib.hid hk; clear hk
      go_enter Tryz.func24, Tryz.ntmps24
      go_wp2
      go_ret
      exact ⟨_, rfl, by simp [H.out], ((Fr.refl nob w).alloc _).alloc _⟩
/-- And two guards? -/
def GV.same (a b : GV) : Prop := AV.same a.a b.a ∧ AV.same a.b b.b ∧ a.no = b.no
set_option maxRecDepth 100000 in
set_option maxHeartbeats 2000000 in
theorem same_guard (g h : GV) (vg vh : Value) (w : World) (s1 : g.a.tree.size ≤ 3000000) (s2 : g.b.tree.size ≤ 3000000) (s3 : h.a.tree.size ≤ 3000000) (s4 : h.b.tree.size ≤ 3000000) (hg : GVal nob w g vg) (hh : GVal nob w h vh) :
    Calls Tryz.prog 22 #[vg, vh] w fun e w' => ∃ r : Bool, e = .returned (.bool r) ∧ (r = true ↔ GV.same g h) ∧ Fr nob w w' := by
  obtain ⟨A, B, n⟩ := g
  obtain ⟨C, D, m⟩ := h
  obtain ⟨u1, u2, rfl, r1, r2⟩ := hg
  obtain ⟨u3, u4, rfl, r3, r4⟩ := hh
  simp only at s1 s2 s3 s4 r1 r2 r3 r4 ⊢
  have o1 := r1.shape; have o2 := r2.shape; have o3 := r3.shape; have o4 := r4.shape
  have HA := Lib.hid (fun (w' : World) (f : Fr nob w w') => same_adr A C _ _ w' s1 s3 ⟨u1, rfl, r1.on f⟩ ⟨u3, rfl, r3.on f⟩)
  have HB := Lib.hid (fun (w' : World) (f : Fr nob w w') => same_adr B D _ _ w' s2 s4 ⟨u2, rfl, r2.on f⟩ ⟨u4, rfl, r4.on f⟩)
  clear r1 r2 r3 r4 s1 s2 s3 s4
  unfold GV.same
  simp only
  rcases o1 with rfl | ⟨i1, y1, rfl⟩ <;> rcases o2 with rfl | ⟨i2, y2, rfl⟩ <;> rcases o3 with rfl | ⟨i3, y3, rfl⟩ <;> rcases o4 with rfl | ⟨i4, y4, rfl⟩
  all_goals
    go_enter Tryz.func22, Tryz.ntmps22
    go_wp2_with fail
    refine (HA.out _ (((Fr.refl nob w).alloc _).alloc _)).mono ?_
    rintro e w3 ⟨r, rfl, hr, f3⟩
    have g1 := f3.heap (((Fr.refl nob _).alloc _).heap (newAt0 w _) (fun x => x)) (fun x => x)
    have g2 := f3.heap (newAt0 (w.alloc _) _) (fun x => x)
    rw [show ∀ B, (w.alloc B).heap.size = w.heap.size + 1 from fun B => by simp] at g2
    have ra := rule9 g1
    have rb := rule9 g2
    have F3 := Lib.hid ((((Fr.refl nob w).alloc _).alloc _).trans' f3)
    have HR := Lib.hid hr
    have G1 := Lib.hid g1; have G2 := Lib.hid g2
    clear hr g1 g2 f3
    cases r with
    | false =>
      go_wp2
      go_ret
      exact ⟨_, rfl, by simp only [← HR.out]; simp, F3.out⟩
    | true =>
      go_wp2_with fail
      refine (HB.out _ F3.out).mono ?_
      rintro e w4 ⟨r, rfl, hr, f4⟩
      have F4 := Lib.hid (F3.out.trans' f4)
      have HR2 := Lib.hid hr
      have ra4 := rule9 (f4.heap G1.out (fun x => x))
      have rb4 := rule9 (f4.heap G2.out (fun x => x))
      clear hr f4 ra rb
      cases r with
      | false =>
        go_wp2
        go_ret
        exact ⟨_, rfl, by simp only [← HR2.out]; simp, F4.out⟩
      | true =>
        rcases (by cases n <;> cases m <;> simp : (n = m ∧ (n == m) = true) ∨ (n ≠ m ∧ (n == m) = false)) with ⟨e, e2⟩ | ⟨e, e2⟩
        · have E := Lib.hid e; clear e
          go_wp2
          go_ret
          exact ⟨_, rfl, by simp only [← HR.out, ← HR2.out, E.out]; simp, F4.out⟩
        · have E := Lib.hid e; clear e
          go_wp2
          go_ret
          exact ⟨_, rfl, by simp only [← HR.out, ← HR2.out]; simp [E.out], F4.out⟩
end Go.Proofs.YtmoeboknelnaoaaGreatDoor

/-
  Chapter 12: the fixed fact.
-/
namespace Go.Proofs.YtmoeboknelnaoaaGreatDoor
open Go.RowKit

theorem awake12_a : guardD false [50, 44, 47, 120, 47, 33, 112] ⟨0, [], 0⟩ = .inr (⟨⟨1, 2, [], .nil⟩, ⟨3, 0, [120], .one (spn 120 120)⟩, true⟩, ⟨6, [], 0⟩) := by kernel_rfl

set_option maxRecDepth 100000 in
set_option maxHeartbeats 1000000 in
theorem awake12_any (w : World) (hE : Env w) : Calls Tryz.prog 8 #[] w fun e w' => e = .returned (.bool true) ∧ Fr nob w w' := by
  have P1 := parse_guard [50, 44, 47, 120, 47, 33, 112] 0 false w (by decide) (by decide) hE
  rw [awake12_a] at P1
  have HP := Lib.hid P1; clear P1 hE
  go_enter Tryz.func8, Tryz.ntmps8
  go_wp2_with fail
  refine HP.out.mono ?_
  rintro e w1 ⟨f1, v, mv, rfl, ⟨u1, u2, rfl, r1, r2⟩, ma⟩
  obtain ⟨am, cm, hm⟩ := ownsRow_slice ma
  subst hm
  have o1 := r1.shape; have o2 := r2.shape
  have F1 := Lib.hid f1
  clear f1 r1 r2 ma
  rcases o1 with rfl | ⟨i1, y1, rfl⟩ <;> rcases o2 with rfl | ⟨i2, y2, rfl⟩
  all_goals
    go_wp2
    go_ret
    exact ⟨rfl, F1.out.alloc _⟩
end Go.Proofs.YtmoeboknelnaoaaGreatDoor

/-
  Walk of addr.Parse.
-/
namespace Go.Proofs.YtmoeboknelnaoaaGreatDoor
open Go.RowKit

abbrev B4 (w : World) (b : Nat) (v0 v1 v2 v3 : Value) : Prop := w.cell? ⟨b, 0, none⟩ = some v0 ∧ w.cell? ⟨b, 1, none⟩ = some v1 ∧ w.cell? ⟨b, 2, none⟩ = some v2 ∧ w.cell? ⟨b, 3, none⟩ = some v3
section
variable {w : World} {b c k j : Nat} {v0 v1 v2 v3 v4 u0 u1 u2 u3 : Value}
theorem B4.of {T : TypeId} {fr : Nat × Nat} (h : w.heap[b]? = some (.cells #[v0, v1, v2, v3] T fr)) : B4 w b v0 v1 v2 v3 := ⟨cell_at h rfl, cell_at h rfl, cell_at h rfl, cell_at h rfl⟩
theorem BA.drew (h : B5 w b v0 v1 v2 v3 v4 ∧ B4 w c u0 u1 u2 u3) : B5 w.drew b v0 v1 v2 v3 v4 ∧ B4 w.drew c u0 u1 u2 u3 := h
theorem BA.set (h : B5 w b v0 v1 v2 v3 v4 ∧ B4 w c u0 u1 u2 u3) (hb : k ≠ b) (hc : k ≠ c) (u : Value) : B5 (w.setCell ⟨k, j, none⟩ u) b v0 v1 v2 v3 v4 ∧ B4 (w.setCell ⟨k, j, none⟩ u) c u0 u1 u2 u3 := by
  obtain ⟨h1, c0, c1, c2, c3⟩ := h
  exact ⟨h1.set hb u, cell_ne c0 hc, cell_ne c1 hc, cell_ne c2 hc, cell_ne c3 hc⟩
end

set_option maxRecDepth 100000 in
set_option maxHeartbeats 1000000 in
theorem parseA_no (l : List UInt8) (p : Nat) (x sc : Bool) (w : World) (hl : l.length ≤ 99000) (hp : p ≤ l.length) (hE : Env w) (z : Int) (q : Nat) (hR : addrD x l sc ⟨p, [], 0⟩ = .inl (z, q)) :
    Calls Tryz.prog 13 #[.string ⟨l.toArray⟩, .int .i64 (p : Nat), .bool x, .bool sc] w fun e w' => e = .returned (.tuple #[.agg zA, .slice none 0 0, .int .i64 (q : Nat), .int .i64 z]) ∧ Fr nob w w' := by
  have hz0 : ¬ z = 0 := addrD_err hR
  have hz1 : (z == 0) = false := by simpa using hz0
  have hz2 : (z != 0) = true := by simpa using hz0
  obtain ⟨w1, hw1⟩ : ∃ w1, w1 = w.alloc (.cells zA 27) := ⟨_, rfl⟩
  have f1 : Fr nob w w1 := by rw [hw1]; exact (Fr.refl _ _).alloc _
  have hz : w1.heap[w.heap.size]? = some (.cells zA 27 (0, 0)) := by rw [hw1]; exact newAt _ _
  have hs1 : w1.heap.size = w.heap.size + 1 := by rw [hw1]; simp
  obtain ⟨w2, hw2⟩ : ∃ w2, w2 = w1.alloc (.cells #[.string ⟨l.toArray⟩, .int .i64 (p : Nat), .bool x, .slice none 0 0, .int .i64 0] 74) := ⟨_, rfl⟩
  have f2 : Fr nob w1 w2 := by rw [hw2]; exact (Fr.refl _ _).alloc _
  have hb : w2.heap[w.heap.size + 1]? = some (.cells #[.string ⟨l.toArray⟩, .int .i64 (p : Nat), .bool x, .slice none 0 0, .int .i64 0] 74 (0, 0)) := by
    rw [hw2, ← hs1]; exact newAt _ _
  have hs2 : w2.heap.size = w.heap.size + 2 := by rw [hw2]; simp [hs1]
  have hA : ARd (w.heap.size + 1) l x ⟨p, [], 0⟩ (fun k => k = w.heap.size + 1) w2 := ⟨.slice none 0 0, ⟨hb, World.ownsRow_nil _ _ _ _, fun _ h => (by cases h), rfl⟩⟩
  have hG := ad_address (w.heap.size + 1) l x sc ⟨p, [], 0⟩ (fun k => k = w.heap.size + 1) (fun k => k = w.heap.size) w2 (by omega) hp (by simp) rfl (fun k hk => by omega) (fun k hk => by omega) w hE (f1.trans' f2) (fun k hk => by omega) hA
  rw [hR] at hG
  have hz' := f2.heap hz (fun x => x)
  have q1 : ¬ (l.length : Int) < (p : Int) := by omega
  have HG := Lib.hid hG; have HW1 := Lib.hid hw1; have HW2 := Lib.hid hw2; have F12 := Lib.hid (f1.trans' f2); have HZ := Lib.hid hz'; have HS2 := Lib.hid hs2; have HS1 := Lib.hid hs1
  clear hG hw1 hw2 f1 f2 hz hz' hb hA hs1 hs2 hE hR
  go_enter Tryz.func13, Tryz.ntmps13
  go_wp2_with (first | rw [← HW1.out] | rw [HS1.out] | rw [← HW2.out])
  refine HG.out.mono ?_
  intro e w3 he
  obtain ⟨rfl, S', ms, hA3, st3⟩ := he
  obtain ⟨mv3, h3⟩ := hA3
  have hz3 := st3.fr.heap HZ.out (fun h => by omega)
  have hrb : w.heap.size ≠ w.heap.size + 1 := by omega
  have FF := Lib.hid (F12.out.trans st3.fr (fun i hi h => by omega))
  obtain ⟨w4, hw4⟩ : ∃ w4, w4 = w3.alloc (.cells #[.int .i64 0, .int .i64 0, .string ⟨#[]⟩, .nilIface] 27) := ⟨_, rfl⟩
  have f4 : Fr nob w3 w4 := by rw [hw4]; exact (Fr.refl _ _).alloc _
  have hb4 := f4.heap h3.blk (fun x => x)
  have hz4 := f4.heap hz3 (fun x => x)
  have r3 := rule5 h3.blk
  have r4 := rule5 hb4 _ (Fr.refl _ _)
  have HQ := Lib.hid (B5.of hb4); have HQd := Lib.hid (B5.drew (B5.of hb4))
  have rz := rule4 hz3
  have HW4 := Lib.hid hw4; have HZ4 := Lib.hid hz4; have FF4 := Lib.hid (FF.out.trans' f4)
  clear hw4 f4 hb4 hz4 h3 hz3 st3
  go_wp2_with fail
  rw [← HW4.out]
  clear r3 rz
  have rz := rule4 HZ4.out
  go_region_held3 (fun w' => B5 w' (w.heap.size + 1) (.string ⟨l.toArray⟩) (.int .i64 (q : Nat)) (.bool x) mv3 (.int .i64 z)) (repeat (first | (with_reducible exact HQ.out) | (with_reducible exact HQd.out) | (with_reducible refine B5.set ?_ (by omega) _) | (with_reducible refine B5.drew ?_))) (fail)
  obtain ⟨w5, hw5⟩ : ∃ w5, w5 = ((((w4.setCell ⟨w.heap.size, 0, none⟩ (.int .i64 0)).setCell ⟨w.heap.size, 1, none⟩ (.int .i64 0)).setCell ⟨w.heap.size, 2, none⟩ (.string ⟨#[]⟩)).setCell ⟨w.heap.size, 3, none⟩ .nilIface).drew := ⟨_, rfl⟩
  rw [← hw5]
  have hz5 : w5.heap[w.heap.size]? = some (.cells zA 27 (0, 0)) := by rw [hw5]; exact heap_drew (setFour_heap HZ4.out (.int .i64 0) (.int .i64 0) (.string ⟨#[]⟩) .nilIface)
  have ff5 : Fr nob w w5 := by rw [hw5]; exact (setFour_fr FF4.out (Nat.le_refl _) (.int .i64 0) (.int .i64 0) (.string ⟨#[]⟩) .nilIface).drew
  have HZ5 := Lib.hid hz5
  have FF5 := Lib.hid ff5
  clear hw5 hz5 ff5 rz r4
  go_wp2
  (try simp only [Exit.inBlock, Exit.then])
  exact bodyPost_ret (results_P4 rfl rfl HZ5.out) rfl ⟨rfl, FF5.out⟩

set_option maxRecDepth 100000 in
set_option maxHeartbeats 4000000 in
theorem parseA_ok (l : List UInt8) (p : Nat) (x sc : Bool) (w : World) (hl : l.length ≤ 99000) (hp : p ≤ l.length) (hE : Env w) (gv : AV) (q : Nat) (ms : List (Nat × List UInt8)) (hR : addrD x l sc ⟨p, [], 0⟩ = .inr (gv, ⟨q, ms, 0⟩)) :
    Calls Tryz.prog 13 #[.string ⟨l.toArray⟩, .int .i64 (p : Nat), .bool x, .bool sc] w fun e w' => ∃ v mv, e = .returned (.tuple #[v, mv, .int .i64 (q : Nat), .int .i64 0]) ∧ AVal nob w' gv v ∧ OwM w' ms mv ∧ Fr nob w w' := by
  obtain ⟨w1, hw1⟩ : ∃ w1, w1 = w.alloc (.cells zA 27) := ⟨_, rfl⟩
  have f1 : Fr nob w w1 := by rw [hw1]; exact (Fr.refl _ _).alloc _
  have hz : w1.heap[w.heap.size]? = some (.cells zA 27 (0, 0)) := by rw [hw1]; exact newAt _ _
  have hs1 : w1.heap.size = w.heap.size + 1 := by rw [hw1]; simp
  obtain ⟨w2, hw2⟩ : ∃ w2, w2 = w1.alloc (.cells #[.string ⟨l.toArray⟩, .int .i64 (p : Nat), .bool x, .slice none 0 0, .int .i64 0] 74) := ⟨_, rfl⟩
  have f2 : Fr nob w1 w2 := by rw [hw2]; exact (Fr.refl _ _).alloc _
  have hb : w2.heap[w.heap.size + 1]? = some (.cells #[.string ⟨l.toArray⟩, .int .i64 (p : Nat), .bool x, .slice none 0 0, .int .i64 0] 74 (0, 0)) := by
    rw [hw2, ← hs1]; exact newAt _ _
  have hs2 : w2.heap.size = w.heap.size + 2 := by rw [hw2]; simp [hs1]
  have hA : ARd (w.heap.size + 1) l x ⟨p, [], 0⟩ (fun k => k = w.heap.size + 1) w2 := ⟨.slice none 0 0, ⟨hb, World.ownsRow_nil _ _ _ _, fun _ h => (by cases h), rfl⟩⟩
  have hG := ad_address (w.heap.size + 1) l x sc ⟨p, [], 0⟩ (fun k => k = w.heap.size + 1) (fun k => k = w.heap.size) w2 (by omega) hp (by simp) rfl (fun k hk => by omega) (fun k hk => by omega) w hE (f1.trans' f2) (fun k hk => by omega) hA
  rw [hR] at hG
  have hz' := f2.heap hz (fun x => x)
  have q1 : ¬ (l.length : Int) < (p : Int) := by omega
  have HG := Lib.hid hG; have HW1 := Lib.hid hw1; have HW2 := Lib.hid hw2; have F12 := Lib.hid (f1.trans' f2); have HZ := Lib.hid hz'; have HS2 := Lib.hid hs2; have HS1 := Lib.hid hs1
  clear hG hw1 hw2 f1 f2 hz hz' hb hA hs1 hs2 hE hR
  go_enter Tryz.func13, Tryz.ntmps13
  go_wp2_with (first | rw [← HW1.out] | rw [HS1.out] | rw [← HW2.out])
  refine HG.out.mono ?_
  intro e w3 he
  obtain ⟨v, S', rfl, ⟨u1, rfl, rn1⟩, hA3, st3⟩ := he
  obtain ⟨mv3, h3⟩ := hA3
  have hz3 := st3.fr.heap HZ.out (fun h => by omega)
  have hrb : w.heap.size ≠ w.heap.size + 1 := by omega
  have hr3 : w.heap.size ≠ w3.heap.size := by have := st3.fr.size; have := HS2.out; omega
  have FF := Lib.hid (F12.out.trans st3.fr (fun i hi h => by omega))
  have hnr : ∀ k, mv3.ownBlock = some k → ¬ k = w.heap.size := fun k hk e => by
    have h1 := (h3.nm k hk).2
    have h2 := st3.old k (by have := HS2.out; omega) h1
    have h2 : k = w.heap.size + 1 := h2
    omega
  obtain ⟨w4, hw4⟩ : ∃ w4, w4 = w3.alloc (.cells #[.int .i64 gv.kind, .int .i64 gv.line, .string ⟨gv.text.toArray⟩, u1] 27) := ⟨_, rfl⟩
  have f4 : Fr nob w3 w4 := by rw [hw4]; exact (Fr.refl _ _).alloc _
  have hg4 : w4.heap[w3.heap.size]? = some (.cells #[.int .i64 gv.kind, .int .i64 gv.line, .string ⟨gv.text.toArray⟩, u1] 27 (0, 0)) := by rw [hw4]; exact newAt _ _
  have hb4 := f4.heap h3.blk (fun x => x)
  have hma := h3.ma
  obtain ⟨am, cm, hmv⟩ := ownsRow_slice hma
  subst hmv
  have hz4 := f4.heap hz3 (fun x => x)
  have r4 := rule5 hb4 _ (Fr.refl _ _)
  have HQ := Lib.hid (And.intro (B5.of hb4) (B4.of hg4)); have HQd := Lib.hid (BA.drew (And.intro (B5.of hb4) (B4.of hg4)))
  have rz := rule4 hz4
  have HW4 := Lib.hid hw4; have HZ4 := Lib.hid hz4; have FF4 := Lib.hid (FF.out.trans' f4)
  have RN1 := Lib.hid (rn1.on f4)
  have MA := Lib.hid (show OwM w4 ms (.slice am ms.length cm) from ownsRow_fr hma f4 (fun _ _ h => h))
  have NR := Lib.hid hnr
  have sh1 := rn1.shape
  clear rn1 hw4 f4 hg4 hb4 hz4 h3 hz3 st3 hma hnr
  rcases sh1 with rfl | ⟨i1, y1, rfl⟩
  · go_wp2_with (rw [← HW4.out])
    go_region_held3 (fun w' => B5 w' (w.heap.size + 1) (.string ⟨l.toArray⟩) (.int .i64 (q : Nat)) (.bool x) (.slice am ms.length cm) (.int .i64 0) ∧ B4 w' w3.heap.size (.int .i64 gv.kind) (.int .i64 gv.line) (.string ⟨gv.text.toArray⟩) .nilIface) (repeat (first | (with_reducible exact HQ.out) | (with_reducible exact HQd.out) | (with_reducible refine BA.set ?_ (by omega) (by omega) _) | (with_reducible refine BA.drew ?_))) (fail)
    all_goals
      obtain ⟨w5, hw5⟩ : ∃ w5, w5 = ((((w4.setCell ⟨w.heap.size, 0, none⟩ (.int .i64 gv.kind)).setCell ⟨w.heap.size, 1, none⟩ (.int .i64 gv.line)).setCell ⟨w.heap.size, 2, none⟩ (.string ⟨gv.text.toArray⟩)).setCell ⟨w.heap.size, 3, none⟩ .nilIface).drew := ⟨_, rfl⟩
      rw [← hw5]
      have hz5 : w5.heap[w.heap.size]? = some (.cells #[.int .i64 gv.kind, .int .i64 gv.line, .string ⟨gv.text.toArray⟩, .nilIface] 27 (0, 0)) := by rw [hw5]; exact heap_drew (setFour_heap HZ4.out (.int .i64 gv.kind) (.int .i64 gv.line) (.string ⟨gv.text.toArray⟩) .nilIface)
      have f45 : Fr (fun k => k = w.heap.size) w4 w5 := by rw [hw5]; exact (setFour_one w4 w.heap.size (.int .i64 gv.kind) (.int .i64 gv.line) (.string ⟨gv.text.toArray⟩) .nilIface).drew
      have HFF := Lib.hid (show Fr nob w w5 from FF4.out.trans f45 (fun i hi h => by have h : i = w.heap.size := h; omega))
      have HR1 := Lib.hid (RN.keep f45 (fun k _ h => .inr h) (fun _ _ x => x.elim) _ _ RN1.out : RN nob w5 gv.tree .nilIface)
      have HMA := Lib.hid (show OwM w5 ms (.slice am ms.length cm) from ownsRow_fr MA.out f45 (fun k hk h => NR.out k hk h))
      have HZ5 := Lib.hid hz5
      clear hw5 hz5 f45 rz r4
      go_wp2
      (try simp only [Exit.inBlock, Exit.then])
      exact bodyPost_ret (results_P4 rfl rfl HZ5.out) rfl ⟨_, _, rfl, ⟨_, rfl, HR1.out⟩, HMA.out, HFF.out⟩
  · go_wp2_with (rw [← HW4.out])
    go_region_held3 (fun w' => B5 w' (w.heap.size + 1) (.string ⟨l.toArray⟩) (.int .i64 (q : Nat)) (.bool x) (.slice am ms.length cm) (.int .i64 0) ∧ B4 w' w3.heap.size (.int .i64 gv.kind) (.int .i64 gv.line) (.string ⟨gv.text.toArray⟩) (.iface i1 y1)) (repeat (first | (with_reducible exact HQ.out) | (with_reducible exact HQd.out) | (with_reducible refine BA.set ?_ (by omega) (by omega) _) | (with_reducible refine BA.drew ?_))) (fail)
    all_goals
      obtain ⟨w5, hw5⟩ : ∃ w5, w5 = ((((w4.setCell ⟨w.heap.size, 0, none⟩ (.int .i64 gv.kind)).setCell ⟨w.heap.size, 1, none⟩ (.int .i64 gv.line)).setCell ⟨w.heap.size, 2, none⟩ (.string ⟨gv.text.toArray⟩)).setCell ⟨w.heap.size, 3, none⟩ (.iface i1 y1)).drew := ⟨_, rfl⟩
      rw [← hw5]
      have hz5 : w5.heap[w.heap.size]? = some (.cells #[.int .i64 gv.kind, .int .i64 gv.line, .string ⟨gv.text.toArray⟩, .iface i1 y1] 27 (0, 0)) := by rw [hw5]; exact heap_drew (setFour_heap HZ4.out (.int .i64 gv.kind) (.int .i64 gv.line) (.string ⟨gv.text.toArray⟩) (.iface i1 y1))
      have f45 : Fr (fun k => k = w.heap.size) w4 w5 := by rw [hw5]; exact (setFour_one w4 w.heap.size (.int .i64 gv.kind) (.int .i64 gv.line) (.string ⟨gv.text.toArray⟩) (.iface i1 y1)).drew
      have HFF := Lib.hid (show Fr nob w w5 from FF4.out.trans f45 (fun i hi h => by have h : i = w.heap.size := h; omega))
      have HR1 := Lib.hid (RN.keep f45 (fun k _ h => .inr h) (fun _ _ x => x.elim) _ _ RN1.out : RN nob w5 gv.tree (.iface i1 y1))
      have HMA := Lib.hid (show OwM w5 ms (.slice am ms.length cm) from ownsRow_fr MA.out f45 (fun k hk h => NR.out k hk h))
      have HZ5 := Lib.hid hz5
      clear hw5 hz5 f45 rz r4
      go_wp2
      (try simp only [Exit.inBlock, Exit.then])
      exact bodyPost_ret (results_P4 rfl rfl HZ5.out) rfl ⟨_, _, rfl, ⟨_, rfl, HR1.out⟩, HMA.out, HFF.out⟩
theorem parse_addr (l : List UInt8) (p : Nat) (x sc : Bool) (w : World) (hl : l.length ≤ 99000) (hp : p ≤ l.length) (hE : Env w) :
    Calls Tryz.prog 13 #[.string ⟨l.toArray⟩, .int .i64 (p : Nat), .bool x, .bool sc] w (AParse (addrD x l sc ⟨p, [], 0⟩) w) := by
  cases hR : addrD x l sc ⟨p, [], 0⟩ with
  | inl z =>
    obtain ⟨z, q⟩ := z
    exact (parseA_no l p x sc w hl hp hE z q hR).mono fun e w' h => ⟨h.2, h.1⟩
  | inr z =>
    obtain ⟨gv, q, ms, e⟩ := z
    obtain rfl : e = 0 := (addrD_in hp rfl hR).ok
    exact (parseA_ok l p x sc w hl hp hE gv q ms hR).mono fun e w' ⟨v, mv, h1, h2, h3, h4⟩ => ⟨h4, v, mv, h1, h2, h3⟩
end Go.Proofs.YtmoeboknelnaoaaGreatDoor

/-
  For AddrDelimiters: what stands between delimiters, in plain words; the document's Byte.
-/
namespace Go.Proofs.YtmoeboknelnaoaaGreatDoor
open Go.RowKit

theorem bt_run (l : List UInt8) (d : UInt8) (hd : d ≠ 97) : ∀ (m n k : Nat) (out : List UInt8), m < n → (∀ i, i < m → l[k + i]? = some 97) → l[k + m]? = some d → bt l d true n k out = (out ++ List.replicate m 97, k + m + 1, 0)
  | 0, 0, k, out, h, _, _ => by omega
  | 0, n + 1, k, out, _, _, h => by
    rw [bt]
    have h : l[k]? = some d := h
    rw [h]
    simp
  | m + 1, 0, k, out, h, _, _ => by omega
  | m + 1, n + 1, k, out, h, ha, hd' => by
    have h0 : l[k]? = some 97 := ha 0 (by omega)
    rw [bt, h0]
    simp only
    rw [if_neg (fun e => hd e.symm), if_neg (by decide)]
    simp only [show ((97 : UInt8) = 91 ∧ True) = False by simp, if_false]
    obtain ⟨hk, e⟩ := List.getElem?_eq_some_iff.1 h0
    have ht : (l.drop k).take 1 = [97] := by rw [take_one hk, e]
    rw [ht, if_pos (by decide)]
    rw [bt_run l d hd m n (k + 1) _ (by omega) (fun i hi => by have := ha (i + 1) (by omega); rw [← this]; congr 1; omega) (by rw [← hd']; congr 1; omega)]
    congr 1
    · rw [List.append_assoc]; rfl
    · congr 1; omega
/-- The program's tree of so many bytes a. -/
def aN (m : Nat) : Nd := joined (List.replicate m (.one (spn 97 97)))
theorem as_parse (x : Bool) (m : Nat) (h1 : 1 ≤ m) (h2 : m ≤ 10) : parseD prg x (List.replicate m 97) = .inr (aN m, ⟨m, 0, [], []⟩) := by
  obtain rfl | rfl | rfl | rfl | rfl | rfl | rfl | rfl | rfl | rfl : m = 1 ∨ m = 2 ∨ m = 3 ∨ m = 4 ∨ m = 5 ∨ m = 6 ∨ m = 7 ∨ m = 8 ∨ m = 9 ∨ m = 10 := by omega
  all_goals cases x <;> kernel_rfl
/-- The document's node of a byte a. -/
def aT : T := .mk 1 (spn 97 97) [] 0 0 0
theorem as_tree (m : Nat) (h1 : 1 ≤ m) (h2 : m ≤ 10) : (aN m).norm = (joinT (List.replicate m aT)).nd.norm ∧ (aN m).size ≤ 3000000 ∧ (joinT (List.replicate m aT)).nd.size ≤ 3000000 := by
  obtain rfl | rfl | rfl | rfl | rfl | rfl | rfl | rfl | rfl | rfl : m = 1 ∨ m = 2 ∨ m = 3 ∨ m = 4 ∨ m = 5 ∨ m = 6 ∨ m = 7 ∨ m = 8 ∨ m = 9 ∨ m = 10 := by omega
  all_goals exact ⟨by kernel_rfl, by decide +kernel, by decide +kernel⟩
theorem delim_addr (x : Bool) (d : UInt8) (m : Nat) (h1 : 1 ≤ m) (h2 : m ≤ 10) (hd : d ≠ 97) (hd1 : d ≠ 92) (hd2 : d ≠ 10) :
    addrD x ([92] ++ [d] ++ List.replicate m 97 ++ [d] ++ [112]) false ⟨0, [], 0⟩ = .inr (⟨3, 0, List.replicate m 97, aN m⟩, ⟨m + 3, [], 0⟩) := by
  obtain ⟨l, hl⟩ : ∃ l, [92] ++ [d] ++ List.replicate m 97 ++ [d] ++ [112] = l := ⟨_, rfl⟩
  have b0 : l[0]? = some 92 := by rw [← hl]; simp
  have b1 : l[1]? = some d := by rw [← hl]; simp
  have ba : ∀ i, i < m → l[2 + i]? = some 97 := fun i hi => by
    rw [← hl, List.append_assoc, List.append_assoc, List.getElem?_append_right (by simp), List.getElem?_append_left (by simp; omega)]
    simp [List.getElem?_replicate, hi]
  have be : l[2 + m]? = some d := by
    rw [← hl, List.append_assoc, List.append_assoc, List.getElem?_append_right (by simp), List.getElem?_append_right (by simp)]
    simp
  have hlen : l.length = m + 4 := by rw [← hl]; simp
  rw [hl]
  have e0 : byt l 0 = 92 := by unfold byt; rw [b0]; rfl
  have e1 : byt l 1 = d := by unfold byt; rw [b1]; rfl
  unfold addrD
  simp only [Nat.zero_add]
  rw [e0, if_neg (by decide), if_neg (by decide), if_neg (by decide), if_pos rfl, e1, if_neg (by rintro (h | h | h); omega; exact hd1 h; exact hd2 h)]
  unfold regexD
  simp only
  rw [bt_run l d hd m (l.length + 1) 2 [] (by omega) ba be]
  simp only [List.nil_append]
  rw [if_neg (by simp), if_neg (by intro h; have := congrArg List.length h; simp at this; omega), as_parse x m h1 h2]
  simp only [List.map_nil, List.append_nil]
  congr 3
  omega

set_option maxRecDepth 100000 in
set_option maxHeartbeats 1000000 in
theorem byteT_any (w : World) : Calls Tryz.prog 16 #[.int .u8 97] w fun e w' => e = .returned (.agg (nine 1 (spn 97 97) (.slice none 0 0) 0 0 0).toArray) ∧ Fr nob w w' := by
  obtain ⟨S, hS⟩ : ∃ S, spn 97 97 = S := ⟨_, rfl⟩
  have HSP := Lib.hid (fun w' => (show _ from hS ▸ spanR_lit 97 97 w' (by decide) (by decide) : Calls Tryz.prog 33 #[.int .u8 97, .int .u8 97] w' fun e w'' => e = .returned (setV S) ∧ Fr nob w' w''))
  rw [hS]
  clear hS
  go_enter Tryz.func16, Tryz.ntmps16
  go_wp2_with fail
  refine (HSP.out _).mono ?_
  rintro e w2 ⟨rfl, f2⟩
  have hr := f2.heap (heap_alloc_new w _) (fun x => x)
  obtain ⟨z0, z1, z2, z3, z4, z5, z6, z7, z8⟩ := C9.of hr
  obtain ⟨q0, q1, q2, q3, q4, q5, q6, q7, q8⟩ := there9 hr
  have HR := Lib.hid hr
  have FW := Lib.hid (((Fr.refl nob w).alloc _).trans' f2)
  clear f2 hr
  go_wp2
  (try simp only [Exit.inBlock, Exit.then])
  exact bodyPost_ret (results_T (k := 1) (s := S) (v := .slice none 0 0) (mn := 0) (mx := 0) (nu := 0) rfl rfl (setNine_heap HR.out _ _ _ _ _ _ _ _ _)) rfl ⟨rfl, setNine_fr FW.out (Nat.le_refl _) _ _ _ _ _ _ _ _ _⟩
theorem byteT_lit {S : S4} (hS : spn 97 97 = S) (w : World) : Calls Tryz.prog 16 #[.int .u8 97] w fun e w' => e = .returned (.agg #[.int .i64 1, .int .u64 S.a, .int .u64 S.b, .int .u64 S.c, .int .u64 S.d, .slice none 0 0, .int .i64 0, .int .i64 0, .int .i64 0]) ∧ Fr nob w w' := hS ▸ byteT_any w
theorem aT_rt (S : Nat → Prop) (w : World) : RT S w aT (nine 1 (spn 97 97) (.slice none 0 0) 0 0 0) := RT_mk.2 ⟨_, rfl, .inl ⟨⟨none, 0, rfl⟩, rfl⟩⟩
theorem RN.isnil {S : Nat → Prop} {w : World} {t : Nd} (h : RN S w t .nilIface) : t = .nil := by
  cases t <;> first | rfl | (rw [RN] at h; first | (injection h; done) | (obtain ⟨_, h, _⟩ := h; injection h; done) | (cases h; done))
def Nd.isnil : Nd → Bool
  | .nil => true
  | _ => false
theorem Nd.isnil_eq {t : Nd} (h : t = .nil) : t.isnil = true := by rw [h]; rfl
theorem aN_some {S : Nat → Prop} {w : World} {m : Nat} {u : Value} (h1 : 1 ≤ m) (h2 : m ≤ 10) (h : RN S w (aN m) u) : ∃ i y, u = .iface i y := by
  rcases h.shape with rfl | h'
  · have e := RN.isnil h
    exfalso
    obtain rfl | rfl | rfl | rfl | rfl | rfl | rfl | rfl | rfl | rfl : m = 1 ∨ m = 2 ∨ m = 3 ∨ m = 4 ∨ m = 5 ∨ m = 6 ∨ m = 7 ∨ m = 8 ∨ m = 9 ∨ m = 10 := by omega
    all_goals exact absurd (Nd.isnil_eq e) (by decide +kernel)
  · exact h'
end Go.Proofs.YtmoeboknelnaoaaGreatDoor
