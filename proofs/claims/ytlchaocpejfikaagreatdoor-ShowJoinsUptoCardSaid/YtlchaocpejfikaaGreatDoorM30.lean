/-
  Merged texts of this claim: RefI.
-/
import Derived.Deep.DrawnRows
import Derived.Test.YtlchaocpejfikaaGreatDoorM23

/-
  Walks: list, Ref: the program's node as the document's.
-/
namespace Go.Proofs.YtlchaocpejfikaaGreatDoor
open Go.RowKit
attribute [local go_sem ↓] Go.wp_at_zero Go.wp_at_succ

/-- What Ref answers. -/
def RefIs (n : Nd) (w : World) (e : Ending) (w' : World) : Prop := ∃ cs, e = .returned (.agg cs.toArray) ∧ RT (Old w) w' n.rf cs ∧ Fr nob w w'

theorem new_of' {w wr w2 : World} {g : Option Nat} (h2 : w.heap.size ≤ wr.heap.size) (hg : ∀ k, g = some k → k < wr.heap.size) :
    ∀ k, k < w2.heap.size → LS2 (Old w) g k → Old wr k := by
  intro k _ hk
  unfold Old
  rcases hk with hk | hk
  · unfold Old at hk; omega
  · exact hg k hk

/-- Nine cells stored anew. -/
abbrev setNine (w : World) (b : Nat) (v0 v1 v2 v3 v4 v5 v6 v7 v8 : Value) : World :=
  ((((((((w.setCell ⟨b, 0, none⟩ v0).setCell ⟨b, 1, none⟩ v1).setCell ⟨b, 2, none⟩ v2).setCell ⟨b, 3, none⟩ v3).setCell ⟨b, 4, none⟩ v4).setCell ⟨b, 5, none⟩ v5).setCell ⟨b, 6, none⟩ v6).setCell ⟨b, 7, none⟩ v7).setCell ⟨b, 8, none⟩ v8
theorem setNine_heap {w : World} {b : Nat} {a0 a1 a2 a3 a4 a5 a6 a7 a8 : Value} {T : TypeId} {fr : Nat × Nat} (h : w.heap[b]? = some (.cells #[a0, a1, a2, a3, a4, a5, a6, a7, a8] T fr)) (v0 v1 v2 v3 v4 v5 v6 v7 v8 : Value) :
    (setNine w b v0 v1 v2 v3 v4 v5 v6 v7 v8).heap[b]? = some (.cells #[v0, v1, v2, v3, v4, v5, v6, v7, v8] T fr) := by
  have h0 : (w.setCell ⟨b, 0, none⟩ v0).heap[b]? = some (.cells #[v0, a1, a2, a3, a4, a5, a6, a7, a8] T fr) := heap_setCell_at h 0 v0
  have h1 : ((w.setCell ⟨b, 0, none⟩ v0).setCell ⟨b, 1, none⟩ v1).heap[b]? = some (.cells #[v0, v1, a2, a3, a4, a5, a6, a7, a8] T fr) := heap_setCell_at h0 1 v1
  have h2 : (((w.setCell ⟨b, 0, none⟩ v0).setCell ⟨b, 1, none⟩ v1).setCell ⟨b, 2, none⟩ v2).heap[b]? = some (.cells #[v0, v1, v2, a3, a4, a5, a6, a7, a8] T fr) := heap_setCell_at h1 2 v2
  have h3 : ((((w.setCell ⟨b, 0, none⟩ v0).setCell ⟨b, 1, none⟩ v1).setCell ⟨b, 2, none⟩ v2).setCell ⟨b, 3, none⟩ v3).heap[b]? = some (.cells #[v0, v1, v2, v3, a4, a5, a6, a7, a8] T fr) := heap_setCell_at h2 3 v3
  have h4 : (((((w.setCell ⟨b, 0, none⟩ v0).setCell ⟨b, 1, none⟩ v1).setCell ⟨b, 2, none⟩ v2).setCell ⟨b, 3, none⟩ v3).setCell ⟨b, 4, none⟩ v4).heap[b]? = some (.cells #[v0, v1, v2, v3, v4, a5, a6, a7, a8] T fr) := heap_setCell_at h3 4 v4
  have h5 : ((((((w.setCell ⟨b, 0, none⟩ v0).setCell ⟨b, 1, none⟩ v1).setCell ⟨b, 2, none⟩ v2).setCell ⟨b, 3, none⟩ v3).setCell ⟨b, 4, none⟩ v4).setCell ⟨b, 5, none⟩ v5).heap[b]? = some (.cells #[v0, v1, v2, v3, v4, v5, a6, a7, a8] T fr) := heap_setCell_at h4 5 v5
  have h6 : (((((((w.setCell ⟨b, 0, none⟩ v0).setCell ⟨b, 1, none⟩ v1).setCell ⟨b, 2, none⟩ v2).setCell ⟨b, 3, none⟩ v3).setCell ⟨b, 4, none⟩ v4).setCell ⟨b, 5, none⟩ v5).setCell ⟨b, 6, none⟩ v6).heap[b]? = some (.cells #[v0, v1, v2, v3, v4, v5, v6, a7, a8] T fr) := heap_setCell_at h5 6 v6
  have h7 : ((((((((w.setCell ⟨b, 0, none⟩ v0).setCell ⟨b, 1, none⟩ v1).setCell ⟨b, 2, none⟩ v2).setCell ⟨b, 3, none⟩ v3).setCell ⟨b, 4, none⟩ v4).setCell ⟨b, 5, none⟩ v5).setCell ⟨b, 6, none⟩ v6).setCell ⟨b, 7, none⟩ v7).heap[b]? = some (.cells #[v0, v1, v2, v3, v4, v5, v6, v7, a8] T fr) := heap_setCell_at h6 7 v7
  have h8 : (((((((((w.setCell ⟨b, 0, none⟩ v0).setCell ⟨b, 1, none⟩ v1).setCell ⟨b, 2, none⟩ v2).setCell ⟨b, 3, none⟩ v3).setCell ⟨b, 4, none⟩ v4).setCell ⟨b, 5, none⟩ v5).setCell ⟨b, 6, none⟩ v6).setCell ⟨b, 7, none⟩ v7).setCell ⟨b, 8, none⟩ v8).heap[b]? = some (.cells #[v0, v1, v2, v3, v4, v5, v6, v7, v8] T fr) := heap_setCell_at h7 8 v8
  exact h8
theorem setNine_fr {w a : World} {b : Nat} (f : Fr nob a w) (hb : a.heap.size ≤ b) (v0 v1 v2 v3 v4 v5 v6 v7 v8 : Value) : Fr nob a (setNine w b v0 v1 v2 v3 v4 v5 v6 v7 v8) := by
  have h : ∀ (x : World) (j : Nat) (v : Value), Fr nob a x → Fr nob a (x.setCell ⟨b, j, none⟩ v) := fun x j v hx => hx.setCell (p := ⟨b, j, none⟩) (fun h => absurd h (Nat.not_lt.2 hb)) v
  exact h _ _ _ (h _ _ _ (h _ _ _ (h _ _ _ (h _ _ _ (h _ _ _ (h _ _ _ (h _ _ _ (h _ _ _ f))))))))
theorem setNine_one {w : World} {b : Nat} (v0 v1 v2 v3 v4 v5 v6 v7 v8 : Value) : Fr (fun k => k = b) w (setNine w b v0 v1 v2 v3 v4 v5 v6 v7 v8) := by
  have h : ∀ (x : World) (j : Nat) (v : Value), Fr (fun k => k = b) w x → Fr (fun k => k = b) w (x.setCell ⟨b, j, none⟩ v) := fun x j v hx => hx.setCell (p := ⟨b, j, none⟩) (fun _ => rfl) v
  exact h _ _ _ (h _ _ _ (h _ _ _ (h _ _ _ (h _ _ _ (h _ _ _ (h _ _ _ (h _ _ _ (h _ _ _ (Fr.refl _ w)))))))))

theorem setNine_size {w : World} {b : Nat} (v0 v1 v2 v3 v4 v5 v6 v7 v8 : Value) : (setNine w b v0 v1 v2 v3 v4 v5 v6 v7 v8).heap.size = w.heap.size := by
  simp [World.setCell]

/-- Nine cells that are there and may be written. -/
theorem there9 {w : World} {b : Nat} {a0 a1 a2 a3 a4 a5 a6 a7 a8 : Value} {T : TypeId} (h : w.heap[b]? = some (.cells #[a0, a1, a2, a3, a4, a5, a6, a7, a8] T (0, 0))) :
    (w.frozen? ⟨b, 0, none⟩ = false ∧ w.frozen? ⟨b, 1, none⟩ = false ∧ w.frozen? ⟨b, 2, none⟩ = false ∧ w.frozen? ⟨b, 3, none⟩ = false ∧ w.frozen? ⟨b, 4, none⟩ = false ∧ w.frozen? ⟨b, 5, none⟩ = false ∧ w.frozen? ⟨b, 6, none⟩ = false ∧ w.frozen? ⟨b, 7, none⟩ = false ∧ w.frozen? ⟨b, 8, none⟩ = false) :=
  ⟨unfrozen_at h _, unfrozen_at h _, unfrozen_at h _, unfrozen_at h _, unfrozen_at h _, unfrozen_at h _, unfrozen_at h _, unfrozen_at h _, unfrozen_at h _⟩

/-- Three cells; two. -/
abbrev C3 (w : World) (b : Nat) (v0 v1 v2 : Value) : Prop := w.cell? ⟨b, 0, none⟩ = some v0 ∧ w.cell? ⟨b, 1, none⟩ = some v1 ∧ w.cell? ⟨b, 2, none⟩ = some v2
abbrev C2 (w : World) (b : Nat) (v0 v1 : Value) : Prop := w.cell? ⟨b, 0, none⟩ = some v0 ∧ w.cell? ⟨b, 1, none⟩ = some v1
theorem C3.on {w w' : World} {b : Nat} {v0 v1 v2 : Value} (h : C3 w b v0 v1 v2) (f : Fr nob w w') : C3 w' b v0 v1 v2 := ⟨f.cell h.1 (fun x => x), f.cell h.2.1 (fun x => x), f.cell h.2.2 (fun x => x)⟩
theorem C2.on {w w' : World} {b : Nat} {v0 v1 : Value} (h : C2 w b v0 v1) (f : Fr nob w w') : C2 w' b v0 v1 := ⟨f.cell h.1 (fun x => x), f.cell h.2 (fun x => x)⟩
theorem C3.set {w : World} {b c : Nat} {v0 v1 v2 : Value} (h : C3 w b v0 v1 v2) (hn : ¬ b = c) (u0 u1 u2 u3 u4 u5 u6 u7 u8 : Value) : C3 (setNine w c u0 u1 u2 u3 u4 u5 u6 u7 u8) b v0 v1 v2 :=
  ⟨Fr.cell (setNine_one u0 u1 u2 u3 u4 u5 u6 u7 u8) h.1 hn, Fr.cell (setNine_one u0 u1 u2 u3 u4 u5 u6 u7 u8) h.2.1 hn, Fr.cell (setNine_one u0 u1 u2 u3 u4 u5 u6 u7 u8) h.2.2 hn⟩
theorem C2.set {w : World} {b c : Nat} {v0 v1 : Value} (h : C2 w b v0 v1) (hn : ¬ b = c) (u0 u1 u2 u3 u4 u5 u6 u7 u8 : Value) : C2 (setNine w c u0 u1 u2 u3 u4 u5 u6 u7 u8) b v0 v1 :=
  ⟨Fr.cell (setNine_one u0 u1 u2 u3 u4 u5 u6 u7 u8) h.1 hn, Fr.cell (setNine_one u0 u1 u2 u3 u4 u5 u6 u7 u8) h.2 hn⟩
theorem C3.of {w : World} {b : Nat} {v0 v1 v2 : Value} {T : TypeId} {fr : Nat × Nat} (h : w.heap[b]? = some (.cells #[v0, v1, v2] T fr)) : C3 w b v0 v1 v2 := ⟨cell_at h rfl, cell_at h rfl, cell_at h rfl⟩
theorem C2.of {w : World} {b : Nat} {v0 v1 : Value} {T : TypeId} {fr : Nat × Nat} (h : w.heap[b]? = some (.cells #[v0, v1] T fr)) : C2 w b v0 v1 := ⟨cell_at h rfl, cell_at h rfl⟩

/-- Is a node the document's? -/
def IsT (n : Nd) (t : T) (w : World) (e : Ending) (w' : World) : Prop := ∃ r : Bool, e = .returned (.bool r) ∧ (r = true ↔ n.norm = t.nd) ∧ Fr nob w w'

end Go.Proofs.YtlchaocpejfikaaGreatDoor
