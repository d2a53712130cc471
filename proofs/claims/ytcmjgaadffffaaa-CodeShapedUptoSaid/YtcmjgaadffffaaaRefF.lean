/-
  Walks over the document's nodes: Same; right, Right.
-/
import Derived.Test.YtcmjgaadffffaaaRefE
import Derived.Test.YtcmjgaadffffaaaTreeK
import Derived.Deep.RegionHeld3
import Derived.StillTailTactics
namespace Go.Proofs.Ytcmjgaadffffaaa
open Go.RowKit

/-- A kind's number. -/
def Nd.kd : Nd → Int
  | .nil => 0
  | .empty => 0
  | .one _ => 1
  | .cat _ => 2
  | .alt _ => 3
  | .rep _ _ _ => 4
  | .group _ _ => 5
  | .back _ => 6
  | .start => 7
  | .fin => 8

theorem T.known_kd {k : Int} {s : S4} {ps : List T} {mn mx nu : Int} (h : (T.mk k s ps mn mx nu).known = true) : (k = 0 ∨ k = 1 ∨ k = 2 ∨ k = 3 ∨ k = 4 ∨ k = 5 ∨ k = 6 ∨ k = 7 ∨ k = 8) ∧ T.knowns ps = true := by
  simp only [T.known, Bool.and_eq_true, Bool.not_eq_true', Bool.or_eq_false_iff, decide_eq_false_iff_not] at h
  exact ⟨by omega, h.2⟩
theorem T.kd_nd {k : Int} {s : S4} {ps : List T} {mn mx nu : Int} (h : (T.mk k s ps mn mx nu).known = true) : (T.mk k s ps mn mx nu).nd.kd = k := by
  rcases (T.known_kd h).1 with rfl | rfl | rfl | rfl | rfl | rfl | rfl | rfl | rfl <;> simp [T.nd, Nd.kd]
theorem T.known_kids {t : T} (h : t.known = true) : ∀ x ∈ t.kids, x.known = true := by
  obtain ⟨k, s, ps, mn, mx, nu⟩ := t
  have hp := (T.known_kd h).2
  intro x hx
  unfold T.kids at hx
  split at hx
  · exact T.knowns_mem hp hx
  · split at hx
    · simp only [List.mem_singleton] at hx
      subst hx
      cases ps with
      | nil => rfl
      | cons y r => exact T.knowns_mem hp (by simp [T.of, T.parts])
    · cases hx

/-- Two nodes of one kind: their own parts. -/
def headSame (k : Int) (s : S4) (mn mx nu : Int) (s' : S4) (mn' mx' nu' : Int) : Prop :=
  (k = 1 → s = s') ∧ (k = 4 → mn = mn' ∧ mx = mx') ∧ (k = 5 ∨ k = 6 → nu = nu')
theorem T.same_iff {k : Int} {s : S4} {ps : List T} {mn mx nu : Int} {s' : S4} {ps' : List T} {mn' mx' nu' : Int} (h : (T.mk k s ps mn mx nu).known = true) :
    (T.mk k s ps mn mx nu).nd = (T.mk k s' ps' mn' mx' nu').nd ↔ headSame k s mn mx nu s' mn' mx' nu' ∧ (T.mk k s ps mn mx nu).nd.kids = (T.mk k s' ps' mn' mx' nu').nd.kids := by
  rcases (T.known_kd h).1 with rfl | rfl | rfl | rfl | rfl | rfl | rfl | rfl | rfl <;> simp [T.nd, headSame, Nd.kids]
  · constructor
    · rintro ⟨a, b, c⟩; exact ⟨⟨b, c⟩, a⟩
    · rintro ⟨⟨b, c⟩, a⟩; exact ⟨a, b, c⟩
theorem T.same_kd {t t' : T} (h : t.known = true) (h' : t'.known = true) (e : t.nd = t'.nd) : t.kind = t'.kind := by
  obtain ⟨k, s, ps, mn, mx, nu⟩ := t
  obtain ⟨k', s', ps', mn', mx', nu'⟩ := t'
  have := congrArg Nd.kd e
  rwa [T.kd_nd h, T.kd_nd h'] at this

/-- Nine cells of a variable that holds a node. -/
abbrev C9 (w : World) (b : Nat) (v0 v1 v2 v3 v4 v5 v6 v7 v8 : Value) : Prop :=
  w.cell? ⟨b, 0, none⟩ = some v0 ∧ w.cell? ⟨b, 1, none⟩ = some v1 ∧ w.cell? ⟨b, 2, none⟩ = some v2 ∧ w.cell? ⟨b, 3, none⟩ = some v3 ∧ w.cell? ⟨b, 4, none⟩ = some v4 ∧ w.cell? ⟨b, 5, none⟩ = some v5 ∧ w.cell? ⟨b, 6, none⟩ = some v6 ∧ w.cell? ⟨b, 7, none⟩ = some v7 ∧ w.cell? ⟨b, 8, none⟩ = some v8
theorem C9.on {w w' : World} {b : Nat} {v0 v1 v2 v3 v4 v5 v6 v7 v8 : Value} (h : C9 w b v0 v1 v2 v3 v4 v5 v6 v7 v8) (f : Fr nob w w') : C9 w' b v0 v1 v2 v3 v4 v5 v6 v7 v8 := by
  obtain ⟨h0, h1, h2, h3, h4, h5, h6, h7, h8⟩ := h
  exact ⟨f.cell h0 (fun x => x), f.cell h1 (fun x => x), f.cell h2 (fun x => x), f.cell h3 (fun x => x), f.cell h4 (fun x => x), f.cell h5 (fun x => x), f.cell h6 (fun x => x), f.cell h7 (fun x => x), f.cell h8 (fun x => x)⟩
theorem C9.of {w : World} {b : Nat} {v0 v1 v2 v3 v4 v5 v6 v7 v8 : Value} {T : TypeId} {fr : Nat × Nat} (h : w.heap[b]? = some (.cells #[v0, v1, v2, v3, v4, v5, v6, v7, v8] T fr)) : C9 w b v0 v1 v2 v3 v4 v5 v6 v7 v8 :=
  ⟨cell_at h rfl, cell_at h rfl, cell_at h rfl, cell_at h rfl, cell_at h rfl, cell_at h rfl, cell_at h rfl, cell_at h rfl, cell_at h rfl⟩

theorem C9.two {w w' : World} {b : Nat} {v0 v1 v2 v3 v4 v5 v6 v7 v8 : Value} {c : Nat} {u0 u1 u2 u3 u4 u5 u6 u7 u8 : Value} (h : C9 w b v0 v1 v2 v3 v4 v5 v6 v7 v8 ∧ C9 w c u0 u1 u2 u3 u4 u5 u6 u7 u8) (f : Fr nob w w') :
    C9 w' b v0 v1 v2 v3 v4 v5 v6 v7 v8 ∧ C9 w' c u0 u1 u2 u3 u4 u5 u6 u7 u8 := ⟨C9.on h.1 f, C9.on h.2 f⟩

/-- Same's answer. -/
def SameT (a b : T) (w : World) (e : Ending) (w' : World) : Prop := ∃ r : Bool, e = .returned (.bool r) ∧ (r = true ↔ a.nd = b.nd) ∧ Fr nob w w'

/-- Two variables that hold nodes. -/
abbrev box2 (w : World) (X Y : List Value) : World := (w.alloc (.cells X.toArray 27)).alloc (.cells Y.toArray 27)

theorem box2_fr (w : World) (X Y : List Value) : Fr nob w (box2 w X Y) := ((Fr.refl _ _).alloc _).alloc _
theorem box2_a (w : World) (X Y : List Value) : (box2 w X Y).heap[w.heap.size]? = some (.cells X.toArray 27 (0, 0)) := heap_alloc_lt _ (heap_alloc_new _ _)
theorem box2_b (w : World) (X Y : List Value) : (box2 w X Y).heap[w.heap.size + 1]? = some (.cells Y.toArray 27 (0, 0)) := by
  have := heap_alloc_new (w.alloc (.cells X.toArray 27)) (.cells Y.toArray 27); simpa using this

end Go.Proofs.Ytcmjgaadffffaaa
