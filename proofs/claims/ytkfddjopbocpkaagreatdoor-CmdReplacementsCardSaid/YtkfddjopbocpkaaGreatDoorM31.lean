/-
  Merged texts of this claim: CmdL, CmdO.
-/
import Derived.Test.YtkfddjopbocpkaaGreatDoorM29
import Derived.Test.YtkfddjopbocpkaaGreatDoorM30

set_option linter.unusedVariables false
set_option linter.unusedSimpArgs false
/-
  Package cmd: a command's value, and what command answers (both from CmdK).
-/
namespace Go.Proofs.YtkfddjopbocpkaaGreatDoor
open Go.RowKit

def CVal (S : Nat → Prop) (w : World) (c : CV) (v : Value) : Prop :=
  ∃ u1 u2 u pv, v = .agg (cmd20 c.at_ (.int .i64 c.guard.a.kind) (.int .i64 c.guard.a.line) (.string ⟨c.guard.a.text.toArray⟩) u1 (.int .i64 c.guard.b.kind) (.int .i64 c.guard.b.line) (.string ⟨c.guard.b.text.toArray⟩) u2 (.bool c.guard.no) c.name c.arg c.sub u pv c.table) ∧
    RN S w c.guard.a.tree u1 ∧ RN S w c.guard.b.tree u2 ∧ RN S w c.sub.tree u ∧ PrO S w c.sub.parts pv
theorem CVal.keep {S S' X : Nat → Prop} {w w' : World} {c : CV} {v : Value} (h : CVal S w c v) (f : Fr X w w') (hX : ∀ k, X k → S k) (hS : ∀ k, k < w.heap.size → S' k → S k) : CVal S' w' c v := by
  obtain ⟨u1, u2, u, pv, rfl, r1, r2, r3, p⟩ := h
  exact ⟨u1, u2, u, pv, rfl, RN.keep f (fun k _ e => hX k e) hS _ _ r1, RN.keep f (fun k _ e => hX k e) hS _ _ r2, RN.keep f (fun k _ e => hX k e) hS _ _ r3, p.keep f hX hS⟩
theorem CVal.on {S : Nat → Prop} {w w' : World} {c : CV} {v : Value} (h : CVal S w c v) (f : Fr nob w w') : CVal S w' c v := h.keep f (fun _ x => x.elim) (fun _ _ x => x)
def CmV (b : Nat) (l : List UInt8) (x : Bool) (S O : Nat → Prop) (w : World) (R : CV × AdS) (r : Ending) (w' : World) : Prop :=
  ∃ v S', r = .returned v ∧ CVal (SO S' O) w' R.1 v ∧ CRd b l x R.2 S' w' ∧ Stp S w S' w'
theorem CmAns.val {b : Nat} {l : List UInt8} {x : Bool} {S O : Nat → Prop} {w : World} {R : CV × AdS} {r : Ending} {w' : World} (h : CmAns b l x S O w R r w') : CmV b l x S O w R r w' := by
  obtain ⟨u1, u2, u, pv, S', rfl, r1, r2, r3, p, hr, st⟩ := h
  exact ⟨_, S', rfl, ⟨u1, u2, u, pv, rfl, r1, r2, r3, p⟩, hr, st⟩
theorem cm_command (b : Nat) (l : List UInt8) (x : BF) (s : AdS) (S O : Nat → Prop) (g : GV) (v : Value) (w : World) (hl : l.length ≤ 99000) (ha : s.at_ ≤ l.length) (hm : s.marks.length ≤ 90000) (hS : ∀ k, S k → k < w.heap.size) (hO : ∀ k, O k → k < w.heap.size) (W0 : World) (hE : Env W0) (hW : Fr nob W0 w) (hSW : ∀ k, S k → W0.heap.size ≤ k) (h : CRd b l x s S w) (he : s.e = 0) (hv : GVal (SO S O) w g v) :
    Calls Tryz.prog 30 #[.pointer (some ⟨b, 0, none⟩), v] w (CmV b l x S O w (cmdC x l g s)) := by
  obtain ⟨u1, u2, rfl, rn1, rn2⟩ := hv
  have o1 : u1.oneCell' = true := by rcases rn1.shape with rfl | ⟨i, y, rfl⟩ <;> rfl
  have o2 : u2.oneCell' = true := by rcases rn2.shape with rfl | ⟨i, y, rfl⟩ <;> rfl
  refine Calls.mono ?_ (fun _ _ h => CmAns.val h)
  by_cases ho : l.length ≤ s.at_
  · rw [show cmdC x l g s = (CV.zero, failC s 5 l.length) from if_pos ho]
    exact cmd_over0 o1 o2 b l x s S O g w hl ha hm hS hO W0 hE hW hSW h ho
  have ho' : s.at_ < l.length := by omega
  have hn : byt l s.at_ = l[s.at_] := byt_in ho'
  obtain ⟨n, hn'⟩ : ∃ n, l[s.at_] = n := ⟨_, rfl⟩
  rw [hn'] at hn
  by_cases c1 : addrsC n < 0
  · have e : cmdC x l g s = (CV.zero, failC s 13 s.at_) := by
      unfold cmdC
      rw [if_neg ho]
      simp only [hn]
      rw [if_pos c1, if_pos (by rw [failC_yes he]; exact fun h => by cases h)]
    rw [e]
    exact cmd_neg0 o1 o2 b l x s S O g w hl ha hm hS hO W0 hE hW hSW h ho' n hn' he rn1 rn2 c1
  by_cases c2 : addrsC n < toldC g
  · have e : cmdC x l g s = (CV.zero, failC s 19 s.at_) := by
      unfold cmdC
      rw [if_neg ho]
      simp only [hn]
      rw [if_neg c1, if_pos c2, if_pos (by rw [failC_yes he]; exact fun h => by cases h)]
    rw [e]
    exact cmd_told0 o1 o2 b l x s S O g w hl ha hm hS hO W0 hE hW hSW h ho' n hn' he rn1 rn2 c1 c2
  by_cases c3 : n = 81 ∨ n = 84 ∨ n = 122
  · have e : cmdC x l g s = endR l (argsC x l (cv0 s.at_ g n) ((markC s s.at_ [n]).to (s.at_ + 1))) := by
      unfold cmdC
      rw [if_neg ho]
      simp only [hn]
      rw [if_neg c1, if_neg c2, if_pos c3, if_neg (fun h => h he)]
      rfl
    rw [e]
    exact cmd_mark0 o1 o2 b l x s S O g w hl ha hm hS hO W0 hE hW hSW h ho' n hn' he rn1 rn2 c1 c2 (by rcases c3 with rfl | rfl | rfl <;> rfl)
  · have e : cmdC x l g s = endR l (argsC x l (cv0 s.at_ g n) (s.to (s.at_ + 1))) := by
      unfold cmdC
      rw [if_neg ho]
      simp only [hn]
      rw [if_neg c1, if_neg c2, if_neg c3, if_neg (fun h => h he)]
      rfl
    rw [e]
    exact cmd_plain0 o1 o2 b l x s S O g w hl ha hm hS hO W0 hE hW hSW h ho' n hn' he rn1 rn2 c1 c2 (by simpa using c3)
end Go.Proofs.YtkfddjopbocpkaaGreatDoor

/-
  Walks of package cmd: slices.Equal of parts; Same, of two that are the same.
-/
namespace Go.Proofs.YtkfddjopbocpkaaGreatDoor
open Go.RowKit

theorem pC_at (ms : List Prt) (k : Nat) (hk : k < ms.length) : (pC ms)[k * 2]? = some (.int .i64 ms[k].1) ∧ (pC ms)[k * 2 + 1]? = some (.string ⟨ms[k].2.toArray⟩) := by
  induction ms generalizing k with
  | nil => simp at hk
  | cons m r ih =>
    have e : pC (m :: r) = .int .i64 m.1 :: .string ⟨m.2.toArray⟩ :: pC r := rfl
    cases k with
    | zero => rw [e]; exact ⟨rfl, rfl⟩
    | succ k =>
      rw [e, show (k + 1) * 2 = k * 2 + 2 by omega]
      simp only [List.length_cons] at hk
      exact ih k (by omega)
theorem OwP.get {w : World} {ms : List Prt} {v : Value} (h : OwP w ms v) {k : Nat} (hk : k < ms.length) :
    ∃ g cap, v = .slice (some ⟨g, 0, none⟩) ms.length cap ∧ g < w.heap.size ∧ w.cell? ⟨g, k * 2, none⟩ = some (.int .i64 ms[k].1) ∧ w.cell? ⟨g, k * 2 + 1, none⟩ = some (.string ⟨ms[k].2.toArray⟩) := by
  have hl := pC_length ms
  unfold OwP at h
  obtain ⟨a, c, rfl⟩ := ownsRow_slice h
  rcases h.2 with ⟨e, hn⟩ | ⟨r, cap, cur, e, _, hr, _⟩
  · omega
  · injection e with e1 e2 e3
    subst e1
    exact ⟨r, c, rfl, lt_heap hr, (h.cellAt (k * 2) (by omega)).trans (pC_at ms k hk).1, (h.cellAt (k * 2 + 1) (by omega)).trans (pC_at ms k hk).2⟩
end Go.Proofs.YtkfddjopbocpkaaGreatDoor
