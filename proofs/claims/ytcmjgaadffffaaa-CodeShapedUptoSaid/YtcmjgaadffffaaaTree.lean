/-
  Trees in plain words: the program's nodes (Nd), the document's (T), sets of bytes (S4); how they lie in memory.
-/
import Derived.Test.YtcmjgaadffffaaaSets
namespace Go.Proofs.Ytcmjgaadffffaaa
open Go.RowKit

/-- The document's node. -/
inductive T where
  | mk (kind : Int) (set : S4) (parts : List T) (min max number : Int)

/-- The program's node. -/
inductive Nd where
  | nil
  | empty
  | one (s : S4)
  | cat (l : List Nd)
  | alt (l : List Nd)
  | rep (x : Nd) (min max : Int)
  | group (n : Int) (x : Nd)
  | back (n : Int)
  | start
  | fin

/-- Cells that lie one behind the other. -/
def At (w : World) (g off : Nat) (cs : List Value) : Prop := ∀ j v, cs[j]? = some v → w.cell? ⟨g, off + j, none⟩ = some v

theorem At.fr {X : Nat → Prop} {w w' : World} {g off : Nat} {cs : List Value} (h : At w g off cs) (hf : Fr X w w') (hg : ¬ X g) : At w' g off cs :=
  fun j v hj => hf.cell (h j v hj) hg

mutual
/-- The cells of the document's node: 'S': blocks that it does not touch. -/
def RT (S : Nat → Prop) (w : World) : T → List Value → Prop
  | .mk k s ps mn mx nu, cs => ∃ v, cs = .int .i64 k :: (s.cells ++ [v, .int .i64 mn, .int .i64 mx, .int .i64 nu]) ∧
      (((∃ a c, v = .slice a 0 c) ∧ ps = []) ∨ ∃ g off cap, v = .slice (some ⟨g, off, none⟩) ps.length cap ∧ ps.length ≤ cap ∧ RTs S w ps g off)
/-- Nodes one behind the other, from a place on. -/
def RTs (S : Nat → Prop) (w : World) : List T → Nat → Nat → Prop
  | [], _, _ => True
  | t :: ts, g, off => ¬ S g ∧ g < w.heap.size ∧ (∃ cs, RT S w t cs ∧ At w g off cs) ∧ RTs S w ts g (off + 9)
end

mutual
/-- The program's node as a value. -/
def RN (S : Nat → Prop) (w : World) : Nd → Value → Prop
  | .nil, v => v = .nilIface
  | .empty, v => v = .iface 73 (.agg #[])
  | .one s, v => v = .iface 48 (.agg s.cells.toArray)
  | .cat l, v => ∃ u, v = .iface 64 (.agg #[u]) ∧ ((u = .slice none 0 0 ∧ l = []) ∨ ∃ g off cap, u = .slice (some ⟨g, off, none⟩) l.length cap ∧ l.length ≤ cap ∧ RNs S w l g off)
  | .alt l, v => ∃ u, v = .iface 65 (.agg #[u]) ∧ ((u = .slice none 0 0 ∧ l = []) ∨ ∃ g off cap, u = .slice (some ⟨g, off, none⟩) l.length cap ∧ l.length ≤ cap ∧ RNs S w l g off)
  | .rep x mn mx, v => ∃ u, v = .iface 50 (.agg #[u, .int .i64 mn, .int .i64 mx]) ∧ RN S w x u
  | .group n x, v => ∃ u, v = .iface 67 (.agg #[.int .i64 n, u]) ∧ RN S w x u
  | .back n, v => v = .iface 69 (.agg #[.int .i64 n])
  | .start, v => v = .iface 71 (.agg #[])
  | .fin, v => v = .iface 72 (.agg #[])
/-- Nodes one behind the other, from a place on. -/
def RNs (S : Nat → Prop) (w : World) : List Nd → Nat → Nat → Prop
  | [], _, _ => True
  | t :: ts, g, off => ¬ S g ∧ g < w.heap.size ∧ (∃ v, RN S w t v ∧ w.cell? ⟨g, off, none⟩ = some v) ∧ RNs S w ts g (off + 1)
end

/-- A slice of the program's nodes; of the document's. -/
def SN (S : Nat → Prop) (w : World) (l : List Nd) (u : Value) : Prop := (u = .slice none 0 0 ∧ l = []) ∨ ∃ g off cap, u = .slice (some ⟨g, off, none⟩) l.length cap ∧ l.length ≤ cap ∧ RNs S w l g off
def ST (S : Nat → Prop) (w : World) (l : List T) (u : Value) : Prop := ((∃ a c, u = .slice a 0 c) ∧ l = []) ∨ ∃ g off cap, u = .slice (some ⟨g, off, none⟩) l.length cap ∧ l.length ≤ cap ∧ RTs S w l g off

theorem RT_mk {S : Nat → Prop} {w : World} {k : Int} {s : S4} {ps : List T} {mn mx nu : Int} {cs : List Value} :
    RT S w (.mk k s ps mn mx nu) cs ↔ ∃ v, cs = .int .i64 k :: (s.cells ++ [v, .int .i64 mn, .int .i64 mx, .int .i64 nu]) ∧ ST S w ps v := by rw [RT]; rfl
theorem RN_cat {S : Nat → Prop} {w : World} {l : List Nd} {v : Value} : RN S w (.cat l) v ↔ ∃ u, v = .iface 64 (.agg #[u]) ∧ SN S w l u := by rw [RN]; rfl
theorem RN_alt {S : Nat → Prop} {w : World} {l : List Nd} {v : Value} : RN S w (.alt l) v ↔ ∃ u, v = .iface 65 (.agg #[u]) ∧ SN S w l u := by rw [RN]; rfl

section
variable {S X S' : Nat → Prop} {w w' : World}
mutual
/-- What lies outside the blocks that turn stays; and it lies in old blocks alone. -/
theorem RT.keep (hf : Fr X w w') (hX : ∀ k, k < w.heap.size → X k → S k) (hS : ∀ k, k < w.heap.size → S' k → S k) : ∀ (t : T) (cs : List Value), RT S w t cs → RT S' w' t cs
  | .mk k s ps mn mx nu, cs, h => by
    rw [RT] at h ⊢
    obtain ⟨v, rfl, h⟩ := h
    refine ⟨v, rfl, ?_⟩
    rcases h with h | ⟨g, off, cap, rfl, hc, h⟩
    · exact .inl h
    · exact .inr ⟨g, off, cap, rfl, hc, RTs.keep hf hX hS ps g off h⟩
theorem RTs.keep (hf : Fr X w w') (hX : ∀ k, k < w.heap.size → X k → S k) (hS : ∀ k, k < w.heap.size → S' k → S k) : ∀ (ts : List T) (g off : Nat), RTs S w ts g off → RTs S' w' ts g off
  | [], _, _, _ => by rw [RTs]; trivial
  | t :: ts, g, off, h => by
    rw [RTs] at h ⊢
    obtain ⟨h1, h2, ⟨cs, h3, h4⟩, h5⟩ := h
    exact ⟨fun x => h1 (hS g h2 x), Nat.lt_of_lt_of_le h2 hf.size, ⟨cs, RT.keep hf hX hS t cs h3, h4.fr hf (fun x => h1 (hX g h2 x))⟩, RTs.keep hf hX hS ts g (off + 9) h5⟩
end
mutual
theorem RN.keep (hf : Fr X w w') (hX : ∀ k, k < w.heap.size → X k → S k) (hS : ∀ k, k < w.heap.size → S' k → S k) : ∀ (t : Nd) (v : Value), RN S w t v → RN S' w' t v
  | .nil, _, h => by rw [RN] at h ⊢; exact h
  | .empty, _, h => by rw [RN] at h ⊢; exact h
  | .one _, _, h => by rw [RN] at h ⊢; exact h
  | .cat l, _, h => by
    rw [RN] at h ⊢
    obtain ⟨u, rfl, h⟩ := h
    refine ⟨u, rfl, ?_⟩
    rcases h with h | ⟨g, off, cap, rfl, hc, h⟩
    · exact .inl h
    · exact .inr ⟨g, off, cap, rfl, hc, RNs.keep hf hX hS l g off h⟩
  | .alt l, _, h => by
    rw [RN] at h ⊢
    obtain ⟨u, rfl, h⟩ := h
    refine ⟨u, rfl, ?_⟩
    rcases h with h | ⟨g, off, cap, rfl, hc, h⟩
    · exact .inl h
    · exact .inr ⟨g, off, cap, rfl, hc, RNs.keep hf hX hS l g off h⟩
  | .rep x _ _, _, h => by
    rw [RN] at h ⊢
    obtain ⟨u, rfl, h⟩ := h
    exact ⟨u, rfl, RN.keep hf hX hS x u h⟩
  | .group _ x, _, h => by
    rw [RN] at h ⊢
    obtain ⟨u, rfl, h⟩ := h
    exact ⟨u, rfl, RN.keep hf hX hS x u h⟩
  | .back _, _, h => by rw [RN] at h ⊢; exact h
  | .start, _, h => by rw [RN] at h ⊢; exact h
  | .fin, _, h => by rw [RN] at h ⊢; exact h
theorem RNs.keep (hf : Fr X w w') (hX : ∀ k, k < w.heap.size → X k → S k) (hS : ∀ k, k < w.heap.size → S' k → S k) : ∀ (ts : List Nd) (g off : Nat), RNs S w ts g off → RNs S' w' ts g off
  | [], _, _, _ => by rw [RNs]; trivial
  | t :: ts, g, off, h => by
    rw [RNs] at h ⊢
    obtain ⟨h1, h2, ⟨v, h3, h4⟩, h5⟩ := h
    exact ⟨fun x => h1 (hS g h2 x), Nat.lt_of_lt_of_le h2 hf.size, ⟨v, RN.keep hf hX hS t v h3, hf.cell h4 (fun x => h1 (hX g h2 x))⟩, RNs.keep hf hX hS ts g (off + 1) h5⟩
end
end


theorem SN.keep {S X S' : Nat → Prop} {w w' : World} {l : List Nd} {u : Value} (h : SN S w l u) (hf : Fr X w w') (hX : ∀ k, k < w.heap.size → X k → S k) (hS : ∀ k, k < w.heap.size → S' k → S k) : SN S' w' l u := by
  rcases h with h | ⟨g, off, cap, rfl, hc, h⟩
  · exact .inl h
  · exact .inr ⟨g, off, cap, rfl, hc, RNs.keep hf hX hS l g off h⟩
theorem ST.keep {S X S' : Nat → Prop} {w w' : World} {l : List T} {u : Value} (h : ST S w l u) (hf : Fr X w w') (hX : ∀ k, k < w.heap.size → X k → S k) (hS : ∀ k, k < w.heap.size → S' k → S k) : ST S' w' l u := by
  rcases h with h | ⟨g, off, cap, rfl, hc, h⟩
  · exact .inl h
  · exact .inr ⟨g, off, cap, rfl, hc, RTs.keep hf hX hS l g off h⟩

/-- With nothing written at all. -/
theorem RN.on {S : Nat → Prop} {w w' : World} {t : Nd} {v : Value} (h : RN S w t v) (hf : Fr nob w w') : RN S w' t v := RN.keep hf (fun _ _ x => x.elim) (fun _ _ x => x) t v h
theorem RT.on {S : Nat → Prop} {w w' : World} {t : T} {cs : List Value} (h : RT S w t cs) (hf : Fr nob w w') : RT S w' t cs := RT.keep hf (fun _ _ x => x.elim) (fun _ _ x => x) t cs h
theorem SN.on {S : Nat → Prop} {w w' : World} {l : List Nd} {u : Value} (h : SN S w l u) (hf : Fr nob w w') : SN S w' l u := h.keep hf (fun _ _ x => x.elim) (fun _ _ x => x)
theorem ST.on {S : Nat → Prop} {w w' : World} {l : List T} {u : Value} (h : ST S w l u) (hf : Fr nob w w') : ST S w' l u := h.keep hf (fun _ _ x => x.elim) (fun _ _ x => x)

/-- Values of nodes, one behind the other. -/
def VN (S : Nat → Prop) (w : World) : List Nd → List Value → Prop
  | [], vs => vs = []
  | t :: ts, vs => ∃ v r, vs = v :: r ∧ RN S w t v ∧ VN S w ts r

theorem VN.length {S : Nat → Prop} {w : World} : ∀ {l : List Nd} {vs : List Value}, VN S w l vs → vs.length = l.length
  | [], _, h => by rw [VN] at h; subst h; rfl
  | t :: ts, _, h => by rw [VN] at h; obtain ⟨v, r, rfl, _, h⟩ := h; simp [VN.length h]

theorem VN.append {S : Nat → Prop} {w : World} : ∀ {l m : List Nd} {vs us : List Value}, VN S w l vs → VN S w m us → VN S w (l ++ m) (vs ++ us)
  | [], _, _, _, h, k => by rw [VN] at h; subst h; exact k
  | t :: ts, _, _, _, h, k => by rw [VN] at h; obtain ⟨v, r, rfl, h1, h⟩ := h; exact ⟨v, _, rfl, h1, VN.append h k⟩

theorem VN.keep {S X S' : Nat → Prop} {w w' : World} (hf : Fr X w w') (hX : ∀ k, k < w.heap.size → X k → S k) (hS : ∀ k, k < w.heap.size → S' k → S k) : ∀ {l : List Nd} {vs : List Value}, VN S w l vs → VN S' w' l vs
  | [], _, h => by rw [VN] at h ⊢; exact h
  | t :: ts, _, h => by rw [VN] at h ⊢; obtain ⟨v, r, rfl, h1, h⟩ := h; exact ⟨v, r, rfl, RN.keep hf hX hS _ _ h1, VN.keep hf hX hS h⟩

theorem At.tail {w : World} {g off : Nat} {v : Value} {r : List Value} (h : At w g off (v :: r)) : At w g (off + 1) r := fun j u hj => by
  have := h (j + 1) u (by simpa using hj); rwa [show off + (j + 1) = off + 1 + j by omega] at this
theorem At.head {w : World} {g off : Nat} {v : Value} {r : List Value} (h : At w g off (v :: r)) : w.cell? ⟨g, off, none⟩ = some v := h 0 v rfl
theorem At.cons {w : World} {g off : Nat} {v : Value} {r : List Value} (h0 : w.cell? ⟨g, off, none⟩ = some v) (h : At w g (off + 1) r) : At w g off (v :: r) := fun j u hj => by
  cases j with
  | zero => simp at hj; subst hj; exact h0
  | succ j => have := h j u (by simpa using hj); rwa [show off + 1 + j = off + (j + 1) by omega] at this
theorem At.drop {w : World} {g off n : Nat} {cs : List Value} (h : At w g off cs) : At w g (off + n) (cs.drop n) := fun j u hj => by
  rw [List.getElem?_drop] at hj; have := h (n + j) u hj; rwa [show off + (n + j) = off + n + j by omega] at this
theorem At.take {w : World} {g off n : Nat} {cs : List Value} (h : At w g off cs) : At w g off (cs.take n) := fun j u hj => h j u (by
  rw [List.getElem?_take] at hj; split at hj; exact hj; cases hj)

theorem RNs.of {S : Nat → Prop} {w : World} {g : Nat} (hg : ¬ S g) (hs : g < w.heap.size) : ∀ {l : List Nd} {vs : List Value} {off : Nat}, VN S w l vs → At w g off vs → RNs S w l g off
  | [], _, _, _, _ => by rw [RNs]; trivial
  | t :: ts, _, off, h, ha => by
    rw [VN] at h; obtain ⟨v, r, rfl, h1, h⟩ := h
    rw [RNs]; exact ⟨hg, hs, ⟨v, h1, ha.head⟩, RNs.of hg hs h ha.tail⟩
theorem RNs.vals {S : Nat → Prop} {w : World} {g : Nat} : ∀ {l : List Nd} {off : Nat}, RNs S w l g off → ∃ vs, VN S w l vs ∧ At w g off vs
  | [], _, _ => ⟨[], rfl, fun j v hj => by simp at hj⟩
  | t :: ts, off, h => by
    rw [RNs] at h; obtain ⟨_, _, ⟨v, h1, h2⟩, h⟩ := h
    obtain ⟨vs, hv, ha⟩ := RNs.vals h
    exact ⟨v :: vs, ⟨v, vs, rfl, h1, hv⟩, At.cons h2 ha⟩
theorem RNs.blk {S : Nat → Prop} {w : World} {g off : Nat} {l : List Nd} (h : RNs S w l g off) (hl : l ≠ []) : ¬ S g ∧ g < w.heap.size := by
  cases l with
  | nil => exact (hl rfl).elim
  | cons t ts => rw [RNs] at h; exact ⟨h.1, h.2.1⟩

/-- A slice of the call's own that holds nodes. -/
theorem SN.of_own {S : Nat → Prop} {w : World} {l : List Nd} {u : Value} {vs : List Value} {e : TypeId} (h : w.ownsRow 0 e 1 u l.length vs) (hv : VN S w l vs) (hS : ∀ k, u.ownBlock = some k → ¬ S k) : SN S w l u := by
  obtain ⟨_, h⟩ := h
  rcases h with ⟨rfl, h0⟩ | ⟨g, cap, cur, rfl, _, hg, hn, _, _, htake⟩
  · exact .inl ⟨rfl, List.length_eq_zero_iff.1 h0⟩
  · refine .inr ⟨g, 0, cap, rfl, hn, RNs.of (hS g rfl) (lt_heap hg) hv ?_⟩
    intro j v hj
    rw [← htake, List.getElem?_take] at hj
    split at hj
    · exact cell_at hg (by simpa using hj)
    · cases hj

theorem RN.shape {S : Nat → Prop} {w : World} {t : Nd} {v : Value} (h : RN S w t v) : v = .nilIface ∨ ∃ i x, v = .iface i x := by
  cases t <;> rw [RN] at h
  · exact .inl h
  · exact .inr ⟨_, _, h⟩
  · exact .inr ⟨_, _, h⟩
  · obtain ⟨u, h, _⟩ := h; exact .inr ⟨_, _, h⟩
  · obtain ⟨u, h, _⟩ := h; exact .inr ⟨_, _, h⟩
  · obtain ⟨u, h, _⟩ := h; exact .inr ⟨_, _, h⟩
  · obtain ⟨u, h, _⟩ := h; exact .inr ⟨_, _, h⟩
  · exact .inr ⟨_, _, h⟩
  · exact .inr ⟨_, _, h⟩
  · exact .inr ⟨_, _, h⟩
theorem SN.shape {S : Nat → Prop} {w : World} {l : List Nd} {u : Value} (h : SN S w l u) : ∃ a c, u = .slice a l.length c := by
  rcases h with ⟨rfl, rfl⟩ | ⟨g, off, cap, rfl, _⟩
  · exact ⟨_, _, rfl⟩
  · exact ⟨_, _, rfl⟩
theorem SN.one {S : Nat → Prop} {w : World} {t : Nd} {v : Value} (h : RN S w t v) (hS : ∀ k, S k → k < w.heap.size) (e : TypeId) : SN S (w.alloc (.cells #[v] e)) [t] (.slice (some ⟨w.heap.size, 0, none⟩) 1 1) := by
  refine .inr ⟨_, _, _, rfl, by simp, RNs.of (vs := [v]) (fun x => by have := hS _ x; omega) (by simp) ⟨v, [], rfl, h.on ((Fr.refl _ _).alloc _), rfl⟩ ?_⟩
  intro j u hj
  cases j with
  | zero => simp at hj; subst hj; simp [World.cell?_alloc_new]
  | succ j => simp at hj
theorem SN.one' {S : Nat → Prop} {w : World} {t : Nd} {v : Value} {b : Nat} (h : RN S w t v) (hS : ∀ k, S k → k < w.heap.size) (e : TypeId) (hb : b = w.heap.size) : SN S (w.alloc (.cells #[v] e)) [t] (.slice (some ⟨b, 0, none⟩) 1 1) := by
  subst hb; exact SN.one h hS e
theorem SN.nil {S : Nat → Prop} {w : World} : SN S w [] (.slice none 0 0) := .inl ⟨rfl, rfl⟩

/-- A node's parts. -/
def Nd.kids : Nd → List Nd
  | .cat l => l
  | .alt l => l
  | .rep x _ _ => [x]
  | .group _ x => [x]
  | _ => []


mutual
/-- How many nodes. -/
def Nd.size : Nd → Nat
  | .cat l => 1 + Nd.sizes l
  | .alt l => 1 + Nd.sizes l
  | .rep x _ _ => 1 + x.size
  | .group _ x => 1 + x.size
  | .nil | .empty | .one _ | .back _ | .start | .fin => 1
def Nd.sizes : List Nd → Nat
  | [] => 0
  | t :: ts => t.size + Nd.sizes ts
end

theorem Nd.size_pos (n : Nd) : 1 ≤ n.size := by cases n <;> simp [Nd.size] <;> omega
theorem Nd.size_kids (n : Nd) : n.size = 1 + Nd.sizes n.kids := by cases n <;> simp [Nd.size, Nd.kids, Nd.sizes]
theorem Nd.sizes_append (l m : List Nd) : Nd.sizes (l ++ m) = Nd.sizes l + Nd.sizes m := by
  induction l with
  | nil => simp [Nd.sizes]
  | cons t ts ih => simp only [List.cons_append, Nd.sizes, ih]; omega
theorem Nd.length_le (l : List Nd) : l.length ≤ Nd.sizes l := by
  induction l with
  | nil => simp
  | cons t ts ih => have := t.size_pos; simp only [List.length_cons, Nd.sizes]; omega
theorem Nd.sizes_mem {l : List Nd} {t : Nd} (h : t ∈ l) : t.size ≤ Nd.sizes l := by
  induction l with
  | nil => simp at h
  | cons a l ih =>
    simp only [Nd.sizes]
    rcases List.mem_cons.1 h with rfl | h
    · omega
    · have := ih h; omega
theorem Nd.sizes_take {l : List Nd} {k : Nat} (h : k < l.length) : Nd.sizes (l.take (k + 1)) = Nd.sizes (l.take k) + l[k].size := by
  rw [List.take_succ_eq_append_getElem h, Nd.sizes_append]; simp [Nd.sizes]
theorem Nd.sizes_take_le (l : List Nd) (k : Nat) : Nd.sizes (l.take k) ≤ Nd.sizes l := by
  have := Nd.sizes_append (l.take k) (l.drop k)
  rw [List.take_append_drop] at this; omega
theorem Nd.kid_lt {n t : Nd} (h : t ∈ n.kids) : t.size < n.size := by
  have := Nd.sizes_mem h; rw [Nd.size_kids n]; omega

/-- The k-th of nodes that lie one behind the other. -/
theorem RNs.get {S : Nat → Prop} {w : World} {g : Nat} : ∀ {l : List Nd} {off : Nat}, RNs S w l g off → ∀ {k : Nat} (hk : k < l.length), ∃ v, RN S w l[k] v ∧ w.cell? ⟨g, off + k, none⟩ = some v
  | [], _, _, k, hk => by simp at hk
  | t :: ts, off, h, k, hk => by
    rw [RNs] at h; obtain ⟨_, _, ⟨v, h1, h2⟩, h⟩ := h
    cases k with
    | zero => exact ⟨v, h1, h2⟩
    | succ k =>
      obtain ⟨u, h3, h4⟩ := RNs.get h (k := k) (by simpa using hk)
      exact ⟨u, by simpa using h3, by rwa [show off + (k + 1) = off + 1 + k by omega]⟩
theorem SN.get {S : Nat → Prop} {w : World} {l : List Nd} {u : Value} (h : SN S w l u) {k : Nat} (hk : k < l.length) : ∃ g off cap v, u = .slice (some ⟨g, off, none⟩) l.length cap ∧ RN S w l[k] v ∧ w.cell? ⟨g, off + k, none⟩ = some v := by
  rcases h with ⟨_, rfl⟩ | ⟨g, off, cap, rfl, _, h⟩
  · simp at hk
  · obtain ⟨v, h1, h2⟩ := h.get hk
    exact ⟨g, off, cap, v, rfl, h1, h2⟩

end Go.Proofs.Ytcmjgaadffffaaa
