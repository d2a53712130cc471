/-
  Merged texts of this claim: Tree, OctetA, Words, Popc, BldStrD.
-/
import Derived.Test.YtlchaocpejfikaaGreatDoorChecked
import Derived.StillTailTactics
import Derived.OpenShut
import Derived.Defers
import Derived.Test.YtlchaocpejfikaaGreatDoorM01

/-
  Trees in plain words: the program's nodes (Nd), the document's (T), sets of bytes (S4); how they lie in memory.
-/
namespace Go.Proofs.YtlchaocpejfikaaGreatDoor
open Go.RowKit

/-- The document's node. -/
inductive T where
  | mk (kind : Int) (set : S4) (parts : List T) (min max number : Int)

/-- The program's node. -/
inductive Nd where
  | nil
  | empty
  | one (s : S4)
  | cat (l : List Nd)
  | alt (l : List Nd)
  | rep (x : Nd) (min max : Int)
  | group (n : Int) (x : Nd)
  | back (n : Int)
  | start
  | fin

/-- Cells that lie one behind the other. -/
def At (w : World) (g off : Nat) (cs : List Value) : Prop := ∀ j v, cs[j]? = some v → w.cell? ⟨g, off + j, none⟩ = some v

theorem At.fr {X : Nat → Prop} {w w' : World} {g off : Nat} {cs : List Value} (h : At w g off cs) (hf : Fr X w w') (hg : ¬ X g) : At w' g off cs :=
  fun j v hj => hf.cell (h j v hj) hg

mutual
/-- The cells of the document's node: 'S': blocks that it does not touch. -/
def RT (S : Nat → Prop) (w : World) : T → List Value → Prop
  | .mk k s ps mn mx nu, cs => ∃ v, cs = .int .i64 k :: (s.cells ++ [v, .int .i64 mn, .int .i64 mx, .int .i64 nu]) ∧
      (((∃ a c, v = .slice a 0 c) ∧ ps = []) ∨ ∃ g off cap, v = .slice (some ⟨g, off, none⟩) ps.length cap ∧ ps.length ≤ cap ∧ RTs S w ps g off)
/-- Nodes one behind the other, from a place on. -/
def RTs (S : Nat → Prop) (w : World) : List T → Nat → Nat → Prop
  | [], _, _ => True
  | t :: ts, g, off => ¬ S g ∧ g < w.heap.size ∧ (∃ cs, RT S w t cs ∧ At w g off cs) ∧ RTs S w ts g (off + 9)
end

mutual
/-- The program's node as a value. -/
def RN (S : Nat → Prop) (w : World) : Nd → Value → Prop
  | .nil, v => v = .nilIface
  | .empty, v => v = .iface 84 (.agg #[])
  | .one s, v => v = .iface 71 (.agg s.cells.toArray)
  | .cat l, v => ∃ u, v = .iface 73 (.agg #[u]) ∧ ((u = .slice none 0 0 ∧ l = []) ∨ ∃ g off cap, u = .slice (some ⟨g, off, none⟩) l.length cap ∧ l.length ≤ cap ∧ RNs S w l g off)
  | .alt l, v => ∃ u, v = .iface 74 (.agg #[u]) ∧ ((u = .slice none 0 0 ∧ l = []) ∨ ∃ g off cap, u = .slice (some ⟨g, off, none⟩) l.length cap ∧ l.length ≤ cap ∧ RNs S w l g off)
  | .rep x mn mx, v => ∃ u, v = .iface 76 (.agg #[u, .int .i64 mn, .int .i64 mx]) ∧ RN S w x u
  | .group n x, v => ∃ u, v = .iface 78 (.agg #[.int .i64 n, u]) ∧ RN S w x u
  | .back n, v => v = .iface 80 (.agg #[.int .i64 n])
  | .start, v => v = .iface 82 (.agg #[])
  | .fin, v => v = .iface 83 (.agg #[])
/-- Nodes one behind the other, from a place on. -/
def RNs (S : Nat → Prop) (w : World) : List Nd → Nat → Nat → Prop
  | [], _, _ => True
  | t :: ts, g, off => ¬ S g ∧ g < w.heap.size ∧ (∃ v, RN S w t v ∧ w.cell? ⟨g, off, none⟩ = some v) ∧ RNs S w ts g (off + 1)
end

/-- A slice of the program's nodes; of the document's. -/
def SN (S : Nat → Prop) (w : World) (l : List Nd) (u : Value) : Prop := (u = .slice none 0 0 ∧ l = []) ∨ ∃ g off cap, u = .slice (some ⟨g, off, none⟩) l.length cap ∧ l.length ≤ cap ∧ RNs S w l g off
def ST (S : Nat → Prop) (w : World) (l : List T) (u : Value) : Prop := ((∃ a c, u = .slice a 0 c) ∧ l = []) ∨ ∃ g off cap, u = .slice (some ⟨g, off, none⟩) l.length cap ∧ l.length ≤ cap ∧ RTs S w l g off

theorem RT_mk {S : Nat → Prop} {w : World} {k : Int} {s : S4} {ps : List T} {mn mx nu : Int} {cs : List Value} :
    RT S w (.mk k s ps mn mx nu) cs ↔ ∃ v, cs = .int .i64 k :: (s.cells ++ [v, .int .i64 mn, .int .i64 mx, .int .i64 nu]) ∧ ST S w ps v := by rw [RT]; rfl
theorem RN_cat {S : Nat → Prop} {w : World} {l : List Nd} {v : Value} : RN S w (.cat l) v ↔ ∃ u, v = .iface 73 (.agg #[u]) ∧ SN S w l u := by rw [RN]; rfl
theorem RN_alt {S : Nat → Prop} {w : World} {l : List Nd} {v : Value} : RN S w (.alt l) v ↔ ∃ u, v = .iface 74 (.agg #[u]) ∧ SN S w l u := by rw [RN]; rfl

section
variable {S X S' : Nat → Prop} {w w' : World}
mutual
/-- What lies outside the blocks that turn stays; and it lies in old blocks alone. -/
theorem RT.keep (hf : Fr X w w') (hX : ∀ k, k < w.heap.size → X k → S k) (hS : ∀ k, k < w.heap.size → S' k → S k) : ∀ (t : T) (cs : List Value), RT S w t cs → RT S' w' t cs
  | .mk k s ps mn mx nu, cs, h => by
    rw [RT] at h ⊢
    obtain ⟨v, rfl, h⟩ := h
    refine ⟨v, rfl, ?_⟩
    rcases h with h | ⟨g, off, cap, rfl, hc, h⟩
    · exact .inl h
    · exact .inr ⟨g, off, cap, rfl, hc, RTs.keep hf hX hS ps g off h⟩
theorem RTs.keep (hf : Fr X w w') (hX : ∀ k, k < w.heap.size → X k → S k) (hS : ∀ k, k < w.heap.size → S' k → S k) : ∀ (ts : List T) (g off : Nat), RTs S w ts g off → RTs S' w' ts g off
  | [], _, _, _ => by rw [RTs]; trivial
  | t :: ts, g, off, h => by
    rw [RTs] at h ⊢
    obtain ⟨h1, h2, ⟨cs, h3, h4⟩, h5⟩ := h
    exact ⟨fun x => h1 (hS g h2 x), Nat.lt_of_lt_of_le h2 hf.size, ⟨cs, RT.keep hf hX hS t cs h3, h4.fr hf (fun x => h1 (hX g h2 x))⟩, RTs.keep hf hX hS ts g (off + 9) h5⟩
end
mutual
theorem RN.keep (hf : Fr X w w') (hX : ∀ k, k < w.heap.size → X k → S k) (hS : ∀ k, k < w.heap.size → S' k → S k) : ∀ (t : Nd) (v : Value), RN S w t v → RN S' w' t v
  | .nil, _, h => by rw [RN] at h ⊢; exact h
  | .empty, _, h => by rw [RN] at h ⊢; exact h
  | .one _, _, h => by rw [RN] at h ⊢; exact h
  | .cat l, _, h => by
    rw [RN] at h ⊢
    obtain ⟨u, rfl, h⟩ := h
    refine ⟨u, rfl, ?_⟩
    rcases h with h | ⟨g, off, cap, rfl, hc, h⟩
    · exact .inl h
    · exact .inr ⟨g, off, cap, rfl, hc, RNs.keep hf hX hS l g off h⟩
  | .alt l, _, h => by
    rw [RN] at h ⊢
    obtain ⟨u, rfl, h⟩ := h
    refine ⟨u, rfl, ?_⟩
    rcases h with h | ⟨g, off, cap, rfl, hc, h⟩
    · exact .inl h
    · exact .inr ⟨g, off, cap, rfl, hc, RNs.keep hf hX hS l g off h⟩
  | .rep x _ _, _, h => by
    rw [RN] at h ⊢
    obtain ⟨u, rfl, h⟩ := h
    exact ⟨u, rfl, RN.keep hf hX hS x u h⟩
  | .group _ x, _, h => by
    rw [RN] at h ⊢
    obtain ⟨u, rfl, h⟩ := h
    exact ⟨u, rfl, RN.keep hf hX hS x u h⟩
  | .back _, _, h => by rw [RN] at h ⊢; exact h
  | .start, _, h => by rw [RN] at h ⊢; exact h
  | .fin, _, h => by rw [RN] at h ⊢; exact h
theorem RNs.keep (hf : Fr X w w') (hX : ∀ k, k < w.heap.size → X k → S k) (hS : ∀ k, k < w.heap.size → S' k → S k) : ∀ (ts : List Nd) (g off : Nat), RNs S w ts g off → RNs S' w' ts g off
  | [], _, _, _ => by rw [RNs]; trivial
  | t :: ts, g, off, h => by
    rw [RNs] at h ⊢
    obtain ⟨h1, h2, ⟨v, h3, h4⟩, h5⟩ := h
    exact ⟨fun x => h1 (hS g h2 x), Nat.lt_of_lt_of_le h2 hf.size, ⟨v, RN.keep hf hX hS t v h3, hf.cell h4 (fun x => h1 (hX g h2 x))⟩, RNs.keep hf hX hS ts g (off + 1) h5⟩
end
end


theorem SN.keep {S X S' : Nat → Prop} {w w' : World} {l : List Nd} {u : Value} (h : SN S w l u) (hf : Fr X w w') (hX : ∀ k, k < w.heap.size → X k → S k) (hS : ∀ k, k < w.heap.size → S' k → S k) : SN S' w' l u := by
  rcases h with h | ⟨g, off, cap, rfl, hc, h⟩
  · exact .inl h
  · exact .inr ⟨g, off, cap, rfl, hc, RNs.keep hf hX hS l g off h⟩
theorem ST.keep {S X S' : Nat → Prop} {w w' : World} {l : List T} {u : Value} (h : ST S w l u) (hf : Fr X w w') (hX : ∀ k, k < w.heap.size → X k → S k) (hS : ∀ k, k < w.heap.size → S' k → S k) : ST S' w' l u := by
  rcases h with h | ⟨g, off, cap, rfl, hc, h⟩
  · exact .inl h
  · exact .inr ⟨g, off, cap, rfl, hc, RTs.keep hf hX hS l g off h⟩

/-- With nothing written at all. -/
theorem RN.on {S : Nat → Prop} {w w' : World} {t : Nd} {v : Value} (h : RN S w t v) (hf : Fr nob w w') : RN S w' t v := RN.keep hf (fun _ _ x => x.elim) (fun _ _ x => x) t v h
theorem RT.on {S : Nat → Prop} {w w' : World} {t : T} {cs : List Value} (h : RT S w t cs) (hf : Fr nob w w') : RT S w' t cs := RT.keep hf (fun _ _ x => x.elim) (fun _ _ x => x) t cs h
theorem SN.on {S : Nat → Prop} {w w' : World} {l : List Nd} {u : Value} (h : SN S w l u) (hf : Fr nob w w') : SN S w' l u := h.keep hf (fun _ _ x => x.elim) (fun _ _ x => x)
theorem ST.on {S : Nat → Prop} {w w' : World} {l : List T} {u : Value} (h : ST S w l u) (hf : Fr nob w w') : ST S w' l u := h.keep hf (fun _ _ x => x.elim) (fun _ _ x => x)

/-- Values of nodes, one behind the other. -/
def VN (S : Nat → Prop) (w : World) : List Nd → List Value → Prop
  | [], vs => vs = []
  | t :: ts, vs => ∃ v r, vs = v :: r ∧ RN S w t v ∧ VN S w ts r

theorem VN.length {S : Nat → Prop} {w : World} : ∀ {l : List Nd} {vs : List Value}, VN S w l vs → vs.length = l.length
  | [], _, h => by rw [VN] at h; subst h; rfl
  | t :: ts, _, h => by rw [VN] at h; obtain ⟨v, r, rfl, _, h⟩ := h; simp [VN.length h]

theorem VN.append {S : Nat → Prop} {w : World} : ∀ {l m : List Nd} {vs us : List Value}, VN S w l vs → VN S w m us → VN S w (l ++ m) (vs ++ us)
  | [], _, _, _, h, k => by rw [VN] at h; subst h; exact k
  | t :: ts, _, _, _, h, k => by rw [VN] at h; obtain ⟨v, r, rfl, h1, h⟩ := h; exact ⟨v, _, rfl, h1, VN.append h k⟩

theorem VN.keep {S X S' : Nat → Prop} {w w' : World} (hf : Fr X w w') (hX : ∀ k, k < w.heap.size → X k → S k) (hS : ∀ k, k < w.heap.size → S' k → S k) : ∀ {l : List Nd} {vs : List Value}, VN S w l vs → VN S' w' l vs
  | [], _, h => by rw [VN] at h ⊢; exact h
  | t :: ts, _, h => by rw [VN] at h ⊢; obtain ⟨v, r, rfl, h1, h⟩ := h; exact ⟨v, r, rfl, RN.keep hf hX hS _ _ h1, VN.keep hf hX hS h⟩

theorem At.tail {w : World} {g off : Nat} {v : Value} {r : List Value} (h : At w g off (v :: r)) : At w g (off + 1) r := fun j u hj => by
  have := h (j + 1) u (by simpa using hj); rwa [show off + (j + 1) = off + 1 + j by omega] at this
theorem At.head {w : World} {g off : Nat} {v : Value} {r : List Value} (h : At w g off (v :: r)) : w.cell? ⟨g, off, none⟩ = some v := h 0 v rfl
theorem At.cons {w : World} {g off : Nat} {v : Value} {r : List Value} (h0 : w.cell? ⟨g, off, none⟩ = some v) (h : At w g (off + 1) r) : At w g off (v :: r) := fun j u hj => by
  cases j with
  | zero => simp at hj; subst hj; exact h0
  | succ j => have := h j u (by simpa using hj); rwa [show off + 1 + j = off + (j + 1) by omega] at this
theorem At.drop {w : World} {g off n : Nat} {cs : List Value} (h : At w g off cs) : At w g (off + n) (cs.drop n) := fun j u hj => by
  rw [List.getElem?_drop] at hj; have := h (n + j) u hj; rwa [show off + (n + j) = off + n + j by omega] at this
theorem At.take {w : World} {g off n : Nat} {cs : List Value} (h : At w g off cs) : At w g off (cs.take n) := fun j u hj => h j u (by
  rw [List.getElem?_take] at hj; split at hj; exact hj; cases hj)

theorem RNs.of {S : Nat → Prop} {w : World} {g : Nat} (hg : ¬ S g) (hs : g < w.heap.size) : ∀ {l : List Nd} {vs : List Value} {off : Nat}, VN S w l vs → At w g off vs → RNs S w l g off
  | [], _, _, _, _ => by rw [RNs]; trivial
  | t :: ts, _, off, h, ha => by
    rw [VN] at h; obtain ⟨v, r, rfl, h1, h⟩ := h
    rw [RNs]; exact ⟨hg, hs, ⟨v, h1, ha.head⟩, RNs.of hg hs h ha.tail⟩
theorem RNs.vals {S : Nat → Prop} {w : World} {g : Nat} : ∀ {l : List Nd} {off : Nat}, RNs S w l g off → ∃ vs, VN S w l vs ∧ At w g off vs
  | [], _, _ => ⟨[], rfl, fun j v hj => by simp at hj⟩
  | t :: ts, off, h => by
    rw [RNs] at h; obtain ⟨_, _, ⟨v, h1, h2⟩, h⟩ := h
    obtain ⟨vs, hv, ha⟩ := RNs.vals h
    exact ⟨v :: vs, ⟨v, vs, rfl, h1, hv⟩, At.cons h2 ha⟩
theorem RNs.blk {S : Nat → Prop} {w : World} {g off : Nat} {l : List Nd} (h : RNs S w l g off) (hl : l ≠ []) : ¬ S g ∧ g < w.heap.size := by
  cases l with
  | nil => exact (hl rfl).elim
  | cons t ts => rw [RNs] at h; exact ⟨h.1, h.2.1⟩

/-- A slice of the call's own that holds nodes. -/
theorem SN.of_own {S : Nat → Prop} {w : World} {l : List Nd} {u : Value} {vs : List Value} {e : TypeId} (h : w.ownsRow 0 e 1 u l.length vs) (hv : VN S w l vs) (hS : ∀ k, u.ownBlock = some k → ¬ S k) : SN S w l u := by
  obtain ⟨_, h⟩ := h
  rcases h with ⟨rfl, h0⟩ | ⟨g, cap, cur, rfl, _, hg, hn, _, _, htake⟩
  · exact .inl ⟨rfl, List.length_eq_zero_iff.1 h0⟩
  · refine .inr ⟨g, 0, cap, rfl, hn, RNs.of (hS g rfl) (lt_heap hg) hv ?_⟩
    intro j v hj
    rw [← htake, List.getElem?_take] at hj
    split at hj
    · exact cell_at hg (by simpa using hj)
    · cases hj

theorem RN.shape {S : Nat → Prop} {w : World} {t : Nd} {v : Value} (h : RN S w t v) : v = .nilIface ∨ ∃ i x, v = .iface i x := by
  cases t <;> rw [RN] at h
  · exact .inl h
  · exact .inr ⟨_, _, h⟩
  · exact .inr ⟨_, _, h⟩
  · obtain ⟨u, h, _⟩ := h; exact .inr ⟨_, _, h⟩
  · obtain ⟨u, h, _⟩ := h; exact .inr ⟨_, _, h⟩
  · obtain ⟨u, h, _⟩ := h; exact .inr ⟨_, _, h⟩
  · obtain ⟨u, h, _⟩ := h; exact .inr ⟨_, _, h⟩
  · exact .inr ⟨_, _, h⟩
  · exact .inr ⟨_, _, h⟩
  · exact .inr ⟨_, _, h⟩
theorem SN.shape {S : Nat → Prop} {w : World} {l : List Nd} {u : Value} (h : SN S w l u) : ∃ a c, u = .slice a l.length c := by
  rcases h with ⟨rfl, rfl⟩ | ⟨g, off, cap, rfl, _⟩
  · exact ⟨_, _, rfl⟩
  · exact ⟨_, _, rfl⟩
theorem SN.one {S : Nat → Prop} {w : World} {t : Nd} {v : Value} (h : RN S w t v) (hS : ∀ k, S k → k < w.heap.size) (e : TypeId) : SN S (w.alloc (.cells #[v] e)) [t] (.slice (some ⟨w.heap.size, 0, none⟩) 1 1) := by
  refine .inr ⟨_, _, _, rfl, by simp, RNs.of (vs := [v]) (fun x => by have := hS _ x; omega) (by simp) ⟨v, [], rfl, h.on ((Fr.refl _ _).alloc _), rfl⟩ ?_⟩
  intro j u hj
  cases j with
  | zero => simp at hj; subst hj; simp [World.cell?_alloc_new]
  | succ j => simp at hj
theorem SN.one' {S : Nat → Prop} {w : World} {t : Nd} {v : Value} {b : Nat} (h : RN S w t v) (hS : ∀ k, S k → k < w.heap.size) (e : TypeId) (hb : b = w.heap.size) : SN S (w.alloc (.cells #[v] e)) [t] (.slice (some ⟨b, 0, none⟩) 1 1) := by
  subst hb; exact SN.one h hS e
theorem SN.nil {S : Nat → Prop} {w : World} : SN S w [] (.slice none 0 0) := .inl ⟨rfl, rfl⟩

/-- A node's parts. -/
def Nd.kids : Nd → List Nd
  | .cat l => l
  | .alt l => l
  | .rep x _ _ => [x]
  | .group _ x => [x]
  | _ => []


mutual
/-- How many nodes. -/
def Nd.size : Nd → Nat
  | .cat l => 1 + Nd.sizes l
  | .alt l => 1 + Nd.sizes l
  | .rep x _ _ => 1 + x.size
  | .group _ x => 1 + x.size
  | .nil | .empty | .one _ | .back _ | .start | .fin => 1
def Nd.sizes : List Nd → Nat
  | [] => 0
  | t :: ts => t.size + Nd.sizes ts
end

theorem Nd.size_pos (n : Nd) : 1 ≤ n.size := by cases n <;> simp [Nd.size] <;> omega
theorem Nd.size_kids (n : Nd) : n.size = 1 + Nd.sizes n.kids := by cases n <;> simp [Nd.size, Nd.kids, Nd.sizes]
theorem Nd.sizes_append (l m : List Nd) : Nd.sizes (l ++ m) = Nd.sizes l + Nd.sizes m := by
  induction l with
  | nil => simp [Nd.sizes]
  | cons t ts ih => simp only [List.cons_append, Nd.sizes, ih]; omega
theorem Nd.length_le (l : List Nd) : l.length ≤ Nd.sizes l := by
  induction l with
  | nil => simp
  | cons t ts ih => have := t.size_pos; simp only [List.length_cons, Nd.sizes]; omega
theorem Nd.sizes_mem {l : List Nd} {t : Nd} (h : t ∈ l) : t.size ≤ Nd.sizes l := by
  induction l with
  | nil => simp at h
  | cons a l ih =>
    simp only [Nd.sizes]
    rcases List.mem_cons.1 h with rfl | h
    · omega
    · have := ih h; omega
theorem Nd.sizes_take {l : List Nd} {k : Nat} (h : k < l.length) : Nd.sizes (l.take (k + 1)) = Nd.sizes (l.take k) + l[k].size := by
  rw [List.take_succ_eq_append_getElem h, Nd.sizes_append]; simp [Nd.sizes]
theorem Nd.sizes_take_le (l : List Nd) (k : Nat) : Nd.sizes (l.take k) ≤ Nd.sizes l := by
  have := Nd.sizes_append (l.take k) (l.drop k)
  rw [List.take_append_drop] at this; omega
theorem Nd.kid_lt {n t : Nd} (h : t ∈ n.kids) : t.size < n.size := by
  have := Nd.sizes_mem h; rw [Nd.size_kids n]; omega

/-- The k-th of nodes that lie one behind the other. -/
theorem RNs.get {S : Nat → Prop} {w : World} {g : Nat} : ∀ {l : List Nd} {off : Nat}, RNs S w l g off → ∀ {k : Nat} (hk : k < l.length), ∃ v, RN S w l[k] v ∧ w.cell? ⟨g, off + k, none⟩ = some v
  | [], _, _, k, hk => by simp at hk
  | t :: ts, off, h, k, hk => by
    rw [RNs] at h; obtain ⟨_, _, ⟨v, h1, h2⟩, h⟩ := h
    cases k with
    | zero => exact ⟨v, h1, h2⟩
    | succ k =>
      obtain ⟨u, h3, h4⟩ := RNs.get h (k := k) (by simpa using hk)
      exact ⟨u, by simpa using h3, by rwa [show off + (k + 1) = off + 1 + k by omega]⟩
theorem SN.get {S : Nat → Prop} {w : World} {l : List Nd} {u : Value} (h : SN S w l u) {k : Nat} (hk : k < l.length) : ∃ g off cap v, u = .slice (some ⟨g, off, none⟩) l.length cap ∧ RN S w l[k] v ∧ w.cell? ⟨g, off + k, none⟩ = some v := by
  rcases h with ⟨_, rfl⟩ | ⟨g, off, cap, rfl, _, h⟩
  · simp at hk
  · obtain ⟨v, h1, h2⟩ := h.get hk
    exact ⟨g, off, cap, v, rfl, h1, h2⟩

end Go.Proofs.YtlchaocpejfikaaGreatDoor

/-
  Walks of package octet: add, Of: a set of bytes is four words.
-/
namespace Go.Proofs.YtlchaocpejfikaaGreatDoor
open Go.RowKit

/-- One bit more in a word. -/
def orw (x : Int) (n : Nat) : Int := bits BinOp.or IntKind.u64 x (IntKind.u64.wrap (2 ^ n))
/-- One byte more in a set. -/
def S4.put (s : S4) (d : Nat) : S4 := match d / 64 with
  | 0 => { s with a := orw s.a (d % 64) }
  | 1 => { s with b := orw s.b (d % 64) }
  | 2 => { s with c := orw s.c (d % 64) }
  | _ => { s with d := orw s.d (d % 64) }
def S4.puts (s : S4) : List UInt8 → S4
  | [] => s
  | c :: r => S4.puts (s.put c.toNat) r
def S4.zero : S4 := ⟨0, 0, 0, 0⟩

theorem cellS {w : World} {b : Nat} {s : S4} {T : TypeId} (h : w.heap[b]? = some (.cells s.cells.toArray T (0, 0))) :
    w.cell? ⟨b, 0, none⟩ = some (.int .u64 s.a) ∧ w.cell? ⟨b, 1, none⟩ = some (.int .u64 s.b) ∧ w.cell? ⟨b, 2, none⟩ = some (.int .u64 s.c) ∧ w.cell? ⟨b, 3, none⟩ = some (.int .u64 s.d) ∧
    w.frozen? ⟨b, 0, none⟩ = false ∧ w.frozen? ⟨b, 1, none⟩ = false ∧ w.frozen? ⟨b, 2, none⟩ = false ∧ w.frozen? ⟨b, 3, none⟩ = false :=
  ⟨cell_at h rfl, cell_at h rfl, cell_at h rfl, cell_at h rfl, unfrozen_at h _, unfrozen_at h _, unfrozen_at h _, unfrozen_at h _⟩

set_option maxRecDepth 100000 in
set_option maxHeartbeats 1000000 in
theorem add_any (b : Nat) (s : S4) (d : Nat) (w : World) (hd : d < 256) (h : w.heap[b]? = some (.cells s.cells.toArray 27 (0, 0))) :
    Calls Tryz.prog 48 #[.pointer (some ⟨b, 0, none⟩), .int .u8 d] w fun e w' => e = .returned (.tuple #[]) ∧ w'.heap[b]? = some (.cells (s.put d).cells.toArray 27 (0, 0)) ∧ Fr (fun k => k = b) w w' := by
  obtain ⟨c0, c1, c2, c3, f0, f1, f2, f3⟩ := cellS h
  have hb := lt_heap h
  have H := Lib.hid h; clear h
  have hdiv : Int.tdiv (d : Int) 64 = ((d / 64 : Nat) : Int) := (Int.ofNat_tdiv d 64).symm
  have hmod : Int.tmod (d : Int) 64 = ((d % 64 : Nat) : Int) := (Int.ofNat_tmod d 64).symm
  have hq : d / 64 = 0 ∨ d / 64 = 1 ∨ d / 64 = 2 ∨ d / 64 = 3 := by omega
  have hr : d % 64 < 64 := by omega
  have w0 : IntKind.u8.wrap 0 = 0 := by decide
  have w1 : IntKind.u8.wrap 1 = 1 := by decide
  have w2 : IntKind.u8.wrap 2 = 2 := by decide
  have w3 : IntKind.u8.wrap 3 = 3 := by decide
  have wm : IntKind.u8.wrap ((d % 64 : Nat) : Int) = ((d % 64 : Nat) : Int) := IntWalk.u8_in _ (by omega)
  have wm' : IntKind.u8.wrap ((d : Int) % 64) = ((d % 64 : Nat) : Int) := by rw [show (d : Int) % 64 = ((d % 64 : Nat) : Int) by omega]; exact wm
  go_enter Tryz.func48, Tryz.ntmps48
  go_wp2
  rcases hq with hq | hq | hq | hq
  all_goals
    rw [hq] at hdiv
    go_still_tail 11, (by kernel_rfl)
    change wpList _ _ _ _ _ w.drew
    go_wp2
    go_end0
    refine ⟨rfl, ?_, ((Fr.refl (fun k => k = b) w).setCell (p := ⟨b, _, none⟩) (fun _ => rfl) _).drew⟩
    unfold S4.put
    rw [hq]
    exact heap_setCell_at H.out _ _

theorem S4.cells_eq (s : S4) : s.cells.toArray = #[.int .u64 s.a, .int .u64 s.b, .int .u64 s.c, .int .u64 s.d] := rfl

/-- A slice of bytes: what it reads. -/
def SB (w : World) (l : List UInt8) (u : Value) : Prop := (l = [] ∧ ∃ a c, u = .slice a 0 c) ∨ ∃ g off cap, u = .slice (some ⟨g, off, none⟩) l.length cap ∧ g < w.heap.size ∧ ∀ j x, l[j]? = some x → w.cell? ⟨g, off + j, none⟩ = some (.int .u8 (x.toNat : Int))
theorem SB.shape {w : World} {l : List UInt8} {u : Value} (h : SB w l u) : ∃ a c, u = .slice a l.length c := by
  rcases h with ⟨rfl, a, c, rfl⟩ | ⟨g, off, cap, rfl, _⟩
  · exact ⟨_, _, rfl⟩
  · exact ⟨_, _, rfl⟩
theorem SB.get {w w' : World} {l : List UInt8} {u : Value} (h : SB w l u) (hf : Fr nob w w') {k : Nat} (hk : k < l.length) : ∃ g off cap, u = .slice (some ⟨g, off, none⟩) l.length cap ∧ w'.cell? ⟨g, off + k, none⟩ = some (.int .u8 (l[k].toNat : Int)) := by
  rcases h with ⟨rfl, _⟩ | ⟨g, off, cap, rfl, _, h⟩
  · simp at hk
  · exact ⟨g, off, cap, rfl, hf.cell (h k _ (List.getElem?_eq_getElem hk)) (fun x => x)⟩
theorem SB.on {w w' : World} {l : List UInt8} {u : Value} (h : SB w l u) (hf : Fr nob w w') : SB w' l u := by
  rcases h with h | ⟨g, off, cap, rfl, hg, h⟩
  · exact .inl h
  · exact .inr ⟨g, off, cap, rfl, Nat.lt_of_lt_of_le hg hf.size, fun j x hj => hf.cell (h j x hj) (fun x => x)⟩

theorem puts_append (s : S4) (l m : List UInt8) : s.puts (l ++ m) = (s.puts l).puts m := by
  induction l generalizing s with
  | nil => rfl
  | cons c r ih => exact ih _
theorem puts_take (s : S4) {l : List UInt8} {k : Nat} (h : k < l.length) : s.puts (l.take (k + 1)) = (s.puts (l.take k)).put l[k].toNat := by
  rw [List.take_succ_eq_append_getElem h, puts_append]; rfl
theorem heap_alloc_new (w : World) (o : Obj) : (w.alloc o).heap[w.heap.size]? = some o := by
  unfold World.alloc
  exact Array.getElem?_push_size

theorem heap_alloc_new' (w : World) (o : Obj) (b : Nat) (hb : b = w.heap.size) : (w.alloc o).heap[b]? = some o := by subst hb; exact heap_alloc_new w o

/-- A set that is handed back out of a variable. -/
theorem results_set {fn : Func} {p : Tmp} (h : fn.results = #[.cell p 27]) {tmps : Array Value} {r : Nat} (ht : tmps.getD p undef = .pointer (some ⟨r, 0, none⟩)) {W : World} {s : S4}
    (hb : W.heap[r]? = some (.cells s.cells.toArray 27 (0, 0))) : (results fn tmps).run Tryz.prog W = .ok (.agg s.cells.toArray) W := by
  obtain ⟨c0, c1, c2, c3, _⟩ := cellS hb
  have ht' : tmps[p]?.getD undef = .pointer (some ⟨r, 0, none⟩) := by rw [← ht]; simp
  simp only [results, h]
  simp [ht', go_sem, c0, c1, c2, c3, S4.cells]

set_option maxRecDepth 100000 in
set_option maxHeartbeats 1000000 in
theorem of_any (l : List UInt8) (u : Value) (w : World) (hl : l.length ≤ 9000000000000000000) (h : SB w l u) :
    Calls Tryz.prog 23 #[u] w fun e w' => e = .returned (.agg (S4.zero.puts l).cells.toArray) ∧ Fr nob w w' := by
  obtain ⟨a, c, rfl⟩ := h.shape
  have H := Lib.hid h; clear h
  go_enter Tryz.func23, Tryz.ntmps23
  go_wp2_with fail
  obtain ⟨w0, hw0⟩ : ∃ w0, w0 = ((w.alloc (.cells S4.zero.cells.toArray 27)).alloc (.cells S4.zero.cells.toArray 27)) := ⟨_, rfl⟩
  have f0 : Fr nob w w0 := by rw [hw0]; exact ((Fr.refl _ _).alloc _).alloc _
  have hr0 : w0.heap[w.heap.size]? = some (.cells S4.zero.cells.toArray 27 (0, 0)) := by rw [hw0]; exact heap_alloc_lt _ (heap_alloc_new _ _)
  have hb0 : w0.heap[w.heap.size + 1]? = some (.cells S4.zero.cells.toArray 27 (0, 0)) := by
    rw [hw0]; have := heap_alloc_new (w.alloc (.cells S4.zero.cells.toArray 27)) (.cells S4.zero.cells.toArray 27); simpa using this
  change Code.wp _ _ _ _ ((w.alloc (.cells S4.zero.cells.toArray 27)).alloc (.cells S4.zero.cells.toArray 27))
  rw [← hw0]
  have F0 := Lib.hid f0; have HR0 := Lib.hid hr0; have HB0 := Lib.hid hb0; clear f0 hr0 hb0 hw0
  go_loopw [8] (fun i wr => ∃ k : Nat, i = .int .i64 k ∧ k ≤ l.length ∧ wr.heap[w.heap.size + 1]? = some (.cells (S4.zero.puts (l.take k)).cells.toArray 27 (0, 0)) ∧ Fr (fun k => k = w.heap.size + 1) w0 wr) (fun i _ => l.length - (intOf i).toNat)
  case atStart => exact ⟨0, rfl, Nat.zero_le _, HB0.out, Fr.refl _ _⟩
  case round =>
    obtain ⟨k, rfl, hk, hb, fr⟩ := hrel
    have HB := Lib.hid hb; have FR := Lib.hid fr; clear hb fr
    have FW := Lib.hid (F0.out.trans FR.out (fun i hi x => by omega))
    by_cases hlt : k < l.length
    · obtain ⟨q, off, cap, he, hc⟩ := H.out.get FW.out hlt
      injection he with e1 e2 e3
      subst e1; subst e3
      clear e2
      have hpt := Lib.hid (puts_take S4.zero hlt)
      have hd : l[k].toNat < 256 := l[k].toNat_lt
      go_wp2_with fail
      refine (add_any (w.heap.size + 1) _ l[k].toNat _ hd HB.out).mono ?_
      rintro e w3 ⟨rfl, h3, f3⟩
      have H3 := Lib.hid h3; have F3 := Lib.hid f3; clear h3 f3
      go_wp2
      go_roundw
      case rel => exact ⟨k + 1, by go_num, by omega, by rw [hpt.out]; exact H3.out, FR.out.trans' F3.out⟩
      case measure => simp [intOf]; omega
    · obtain rfl : k = l.length := by omega
      have hT := List.take_of_length_le (l := l) (Nat.le_refl _)
      have hb := HB.out
      rw [hT] at hb
      obtain ⟨c0, c1, c2, c3, _⟩ := cellS hb
      have hr := FR.out.heap HR0.out (fun e => by omega)
      obtain ⟨_, _, _, _, f0, f1, f2, f3⟩ := cellS hr
      have hlr := lt_heap hr; have hlb := lt_heap hb
      have HBB := Lib.hid hb; have HRR := Lib.hid hr; clear hb hr hT
      go_wp2
      (try simp only [Exit.inBlock, Exit.then])
      have hW := heap_setCell_at (heap_setCell_at (heap_setCell_at (heap_setCell_at HRR.out 0 (.int .u64 (S4.zero.puts l).a)) 1 (.int .u64 (S4.zero.puts l).b)) 2 (.int .u64 (S4.zero.puts l).c)) 3 (.int .u64 (S4.zero.puts l).d)
      refine bodyPost_ret (results_set (s := S4.zero.puts l) rfl rfl hW) rfl ⟨rfl, ?_⟩
      exact (((FW.out.setCell (p := ⟨w.heap.size, 0, none⟩) (fun h => absurd h (Nat.lt_irrefl _)) _).setCell (p := ⟨w.heap.size, 1, none⟩) (fun h => absurd h (Nat.lt_irrefl _)) _).setCell (p := ⟨w.heap.size, 2, none⟩) (fun h => absurd h (Nat.lt_irrefl _)) _).setCell (p := ⟨w.heap.size, 3, none⟩) (fun h => absurd h (Nat.lt_irrefl _)) _

end Go.Proofs.YtlchaocpejfikaaGreatDoor

/-
  Words of 64 bits, as numbers and as bits; sets as four words. No walk.
-/
namespace Go.Proofs.YtlchaocpejfikaaGreatDoor
open Go.RowKit

/-- A word's bits. -/
def wd (x : Int) : BitVec 64 := BitVec.ofInt 64 x
/-- A word that fits. -/
def Fit (x : Int) : Prop := 0 ≤ x ∧ x < 18446744073709551616

theorem fit_of_wf {x : Int} (h : (Lit.int .u64 x).wf = true) : Fit x := by
  simp [Lit.wf, IntKind.min, IntKind.max, IntKind.signed, IntKind.bits] at h; exact ⟨h.1, by omega⟩
theorem fit_nat (b : BitVec 64) : Fit (b.toNat : Int) := ⟨by omega, by have := b.isLt; omega⟩
theorem wd_nat (b : BitVec 64) : wd (b.toNat : Int) = b := by unfold wd; simp
theorem wd_val {x : Int} (h : Fit x) : ((wd x).toNat : Int) = x := by
  unfold wd
  rw [BitVec.toNat_ofInt]
  have := h.1; have := h.2
  simp only [Nat.reducePow]
  omega
theorem wd_inj {x y : Int} (hx : Fit x) (hy : Fit y) (h : wd x = wd y) : x = y := by rw [← wd_val hx, ← wd_val hy, h]
theorem wrap_nat (b : BitVec 64) : IntKind.u64.wrap (b.toNat : Int) = (b.toNat : Int) := by
  have := b.isLt
  simp only [IntKind.wrap, IntKind.bits, IntKind.signed]
  simp
  omega
theorem bits_and (x y : Int) : bits .and .u64 x y = ((wd x &&& wd y).toNat : Int) := wrap_nat _
theorem bits_or (x y : Int) : bits .or .u64 x y = ((wd x ||| wd y).toNat : Int) := wrap_nat _
theorem bits_xor (x y : Int) : bits .xor .u64 x y = ((wd x ^^^ wd y).toNat : Int) := wrap_nat _
theorem wd_and (x y : Int) : wd (bits .and .u64 x y) = wd x &&& wd y := by rw [bits_and, wd_nat]
theorem wd_or (x y : Int) : wd (bits .or .u64 x y) = wd x ||| wd y := by rw [bits_or, wd_nat]
theorem fit_bits (op : BinOp) (x y : Int) : Fit (bits op .u64 x y) := fit_of_wf (wf_bits op .u64 x y)
theorem wd_max : wd IntKind.u64.max = BitVec.allOnes 64 := by decide
theorem wd_not (x : Int) : wd (bits .xor .u64 IntKind.u64.max x) = ~~~ wd x := by
  rw [bits_xor, wd_nat, wd_max, BitVec.allOnes_xor]

/-- Is bit n in a word? -/
theorem bit_and {x : Int} (h : Fit x) {n : Nat} (hn : n < 64) : (bits .and .u64 (x / 2 ^ n) 1 == 1) = (wd x).getLsbD n := by
  have hx := wd_val h
  obtain ⟨b, hb⟩ : ∃ b, wd x = b := ⟨_, rfl⟩
  rw [hb] at hx ⊢
  subst hx
  rw [bits_and]
  have hd : ((b.toNat : Int) / 2 ^ n) = (((b >>> n).toNat : Nat) : Int) := by
    rw [BitVec.toNat_ushiftRight, Nat.shiftRight_eq_div_pow]; push_cast; rfl
  rw [hd, wd_nat]
  have h1 : wd 1 = 1#64 := by decide
  rw [h1]
  have h2 : (b >>> n &&& 1#64).toNat = if b.getLsbD n then 1 else 0 := by
    rw [BitVec.toNat_and, BitVec.toNat_ushiftRight]
    simp only [BitVec.toNat_ofNat, Nat.reducePow, Nat.reduceMod]
    rw [Nat.and_one_is_mod, Nat.shiftRight_eq_div_pow, BitVec.getLsbD, Nat.testBit_eq_decide_div_mod_eq]
    split <;> simp_all <;> omega
  rw [h2]
  cases b.getLsbD n <;> simp
theorem bit_mod {x : Int} (h : Fit x) {n : Nat} (hn : n < 64) : ((x / 2 ^ n) % 2 == 1) = (wd x).getLsbD n := by
  have hx := wd_val h
  obtain ⟨b, hb⟩ : ∃ b, wd x = b := ⟨_, rfl⟩
  rw [hb] at hx ⊢
  subst hx
  rw [BitVec.getLsbD, Nat.testBit_eq_decide_div_mod_eq]
  rw [Bool.eq_iff_iff]
  simp only [beq_iff_eq, decide_eq_true_eq]
  have : ((b.toNat : Int) / 2 ^ n) = ((b.toNat / 2 ^ n : Nat) : Int) := by push_cast; rfl
  rw [this]; omega
theorem bit_tmod {x : Int} (h : Fit x) {n : Nat} (hn : n < 64) : ((x / 2 ^ n).tmod 2 == 1) = (wd x).getLsbD n := by
  rw [Int.tmod_eq_emod_of_nonneg (Int.ediv_nonneg h.1 (Int.le_of_lt (Int.pow_pos (by decide)))), bit_mod h hn]

end Go.Proofs.YtlchaocpejfikaaGreatDoor

/-
  How many bits a word has: the sum that math/bits reckons, byte by byte. Plain: no walk.
-/
namespace Go.Proofs.YtlchaocpejfikaaGreatDoor

theorem and_split (p q M c : Nat) (hq : q < 256) (hc : c < 256) : (256 * p + q) &&& (256 * M + c) = 256 * (p &&& M) + (q &&& c) := by
  have h1 : ((256 * p + q) &&& (256 * M + c)) / 256 = p &&& M := by
    have := @Nat.and_div_two_pow (256 * p + q) (256 * M + c) 8
    rw [show (2 : Nat) ^ 8 = 256 from rfl] at this
    rw [this, show (256 * p + q) / 256 = p by omega, show (256 * M + c) / 256 = M by omega]
  have h2 : ((256 * p + q) &&& (256 * M + c)) % 256 = q &&& c := by
    have := @Nat.and_mod_two_pow (256 * p + q) (256 * M + c) 8
    rw [show (2 : Nat) ^ 8 = 256 from rfl] at this
    rw [this, show (256 * p + q) % 256 = q by omega, show (256 * M + c) % 256 = c by omega]
  omega

def pf1 (M x : Nat) : Nat := ((x / 2) &&& M) + (x &&& M)
def pf2 (M x : Nat) : Nat := ((x / 4) &&& M) + (x &&& M)
def pf3 (M x : Nat) : Nat := (x / 16 + x) &&& M

theorem low1 : ∀ (c : Fin 2) (b : Fin 256), (c.val * 128 + b.val / 2) &&& 85 = (b.val / 2) &&& 85 := by decide +kernel
theorem low2 : ∀ (c : Fin 4) (b : Fin 256), (c.val * 64 + b.val / 4) &&& 51 = (b.val / 4) &&& 51 := by decide +kernel
theorem low3 : ∀ (c : Fin 5) (b : Fin 69), (c.val * 16 + (b.val / 16 + b.val)) &&& 15 = (b.val / 16 + b.val) &&& 15 := by decide +kernel

theorem step1 (y b M : Nat) (hb : b < 256) : pf1 (256 * M + 85) (256 * y + b) = 256 * pf1 M y + pf1 85 b := by
  unfold pf1
  have h := low1 ⟨y % 2, by omega⟩ ⟨b, hb⟩
  simp only at h
  rw [show (256 * y + b) / 2 = 256 * (y / 2) + (y % 2 * 128 + b / 2) by omega, and_split _ _ _ _ (by omega) (by decide), and_split _ _ _ _ hb (by decide), h]
  omega
theorem step2 (y b M : Nat) (hb : b < 256) : pf2 (256 * M + 51) (256 * y + b) = 256 * pf2 M y + pf2 51 b := by
  unfold pf2
  have h := low2 ⟨y % 4, by omega⟩ ⟨b, hb⟩
  simp only at h
  rw [show (256 * y + b) / 4 = 256 * (y / 4) + (y % 4 * 64 + b / 4) by omega, and_split _ _ _ _ (by omega) (by decide), and_split _ _ _ _ hb (by decide), h]
  omega
theorem step3 (y b M : Nat) (hb : b < 69) (hy : y % 16 < 5) : pf3 (256 * M + 15) (256 * y + b) = 256 * pf3 M y + pf3 15 b := by
  unfold pf3
  have h := low3 ⟨y % 16, hy⟩ ⟨b, hb⟩
  simp only at h
  rw [show (256 * y + b) / 16 + (256 * y + b) = 256 * (y / 16 + y) + (y % 16 * 16 + (b / 16 + b)) by omega, and_split _ _ _ _ (by omega) (by decide), h]

/-- A byte's bits. -/
def pop8 (b : Nat) : Nat := b % 2 + b / 2 % 2 + b / 4 % 2 + b / 8 % 2 + b / 16 % 2 + b / 32 % 2 + b / 64 % 2 + b / 128 % 2
theorem pop8_eq : ∀ b : Fin 256, pf3 15 (pf2 51 (pf1 85 b.val)) = pop8 b.val := by decide +kernel
theorem pf1_lt : ∀ b : Fin 256, pf1 85 b.val < 256 := by decide +kernel
theorem pf2_lt : ∀ b : Fin 256, pf2 51 (pf1 85 b.val) < 69 := by decide +kernel
theorem pf2_low : ∀ b : Fin 256, pf2 51 (pf1 85 b.val) % 16 < 5 := by decide +kernel
theorem pop8_le : ∀ b : Fin 256, pop8 b.val ≤ 8 := by decide +kernel

/-- Eight bytes as a word. -/
def by8 (b0 b1 b2 b3 b4 b5 b6 b7 : Nat) : Nat := 256 * (256 * (256 * (256 * (256 * (256 * (256 * b7 + b6) + b5) + b4) + b3) + b2) + b1) + b0

theorem pf1_8 {b0 b1 b2 b3 b4 b5 b6 b7 : Nat} (h0 : b0 < 256) (h1 : b1 < 256) (h2 : b2 < 256) (h3 : b3 < 256) (h4 : b4 < 256) (h5 : b5 < 256) (h6 : b6 < 256) :
    pf1 6148914691236517205 (by8 b0 b1 b2 b3 b4 b5 b6 b7) = by8 (pf1 85 b0) (pf1 85 b1) (pf1 85 b2) (pf1 85 b3) (pf1 85 b4) (pf1 85 b5) (pf1 85 b6) (pf1 85 b7) := by
  unfold by8
  rw [show 6148914691236517205 = 256 * (256 * (256 * (256 * (256 * (256 * (256 * 85 + 85) + 85) + 85) + 85) + 85) + 85) + 85 from rfl]
  rw [step1 _ _ _ h0, step1 _ _ _ h1, step1 _ _ _ h2, step1 _ _ _ h3, step1 _ _ _ h4, step1 _ _ _ h5, step1 _ _ _ h6]
theorem pf2_8 {b0 b1 b2 b3 b4 b5 b6 b7 : Nat} (h0 : b0 < 256) (h1 : b1 < 256) (h2 : b2 < 256) (h3 : b3 < 256) (h4 : b4 < 256) (h5 : b5 < 256) (h6 : b6 < 256) :
    pf2 3689348814741910323 (by8 b0 b1 b2 b3 b4 b5 b6 b7) = by8 (pf2 51 b0) (pf2 51 b1) (pf2 51 b2) (pf2 51 b3) (pf2 51 b4) (pf2 51 b5) (pf2 51 b6) (pf2 51 b7) := by
  unfold by8
  rw [show 3689348814741910323 = 256 * (256 * (256 * (256 * (256 * (256 * (256 * 51 + 51) + 51) + 51) + 51) + 51) + 51) + 51 from rfl]
  rw [step2 _ _ _ h0, step2 _ _ _ h1, step2 _ _ _ h2, step2 _ _ _ h3, step2 _ _ _ h4, step2 _ _ _ h5, step2 _ _ _ h6]
theorem mod16 (y b : Nat) : (256 * y + b) % 16 = b % 16 := by omega
theorem pf3_8 {b0 b1 b2 b3 b4 b5 b6 b7 : Nat} (h0 : b0 < 69) (h1 : b1 < 69) (h2 : b2 < 69) (h3 : b3 < 69) (h4 : b4 < 69) (h5 : b5 < 69) (h6 : b6 < 69)
    (g1 : b1 % 16 < 5) (g2 : b2 % 16 < 5) (g3 : b3 % 16 < 5) (g4 : b4 % 16 < 5) (g5 : b5 % 16 < 5) (g6 : b6 % 16 < 5) (g7 : b7 % 16 < 5) :
    pf3 1085102592571150095 (by8 b0 b1 b2 b3 b4 b5 b6 b7) = by8 (pf3 15 b0) (pf3 15 b1) (pf3 15 b2) (pf3 15 b3) (pf3 15 b4) (pf3 15 b5) (pf3 15 b6) (pf3 15 b7) := by
  unfold by8
  rw [show 1085102592571150095 = 256 * (256 * (256 * (256 * (256 * (256 * (256 * 15 + 15) + 15) + 15) + 15) + 15) + 15) + 15 from rfl]
  rw [step3 _ _ _ h0 (by rw [mod16]; exact g1), step3 _ _ _ h1 (by rw [mod16]; exact g2), step3 _ _ _ h2 (by rw [mod16]; exact g3), step3 _ _ _ h3 (by rw [mod16]; exact g4), step3 _ _ _ h4 (by rw [mod16]; exact g5), step3 _ _ _ h5 (by rw [mod16]; exact g6), step3 _ _ _ h6 g7]

/-- The three first steps. -/
def swar3 (x : Nat) : Nat := pf3 1085102592571150095 (pf2 3689348814741910323 (pf1 6148914691236517205 x))
/-- The three last ones. -/
def swar6 (x : Nat) : Nat := ((x + x / 256) + (x + x / 256) / 65536) + ((x + x / 256) + (x + x / 256) / 65536) / 4294967296
/-- A word's bits. -/
def pop (x : Nat) : Nat := pop8 (x % 256) + pop8 (x / 256 % 256) + pop8 (x / 65536 % 256) + pop8 (x / 16777216 % 256) + pop8 (x / 4294967296 % 256) + pop8 (x / 1099511627776 % 256) + pop8 (x / 281474976710656 % 256) + pop8 (x / 72057594037927936 % 256)

theorem by8_of (x : Nat) (h : x < 18446744073709551616) : x = by8 (x % 256) (x / 256 % 256) (x / 65536 % 256) (x / 16777216 % 256) (x / 4294967296 % 256) (x / 1099511627776 % 256) (x / 281474976710656 % 256) (x / 72057594037927936 % 256) := by
  unfold by8; omega
theorem swar3_eq (x : Nat) (h : x < 18446744073709551616) : swar3 x = by8 (pop8 (x % 256)) (pop8 (x / 256 % 256)) (pop8 (x / 65536 % 256)) (pop8 (x / 16777216 % 256)) (pop8 (x / 4294967296 % 256)) (pop8 (x / 1099511627776 % 256)) (pop8 (x / 281474976710656 % 256)) (pop8 (x / 72057594037927936 % 256)) := by
  have hx := by8_of x h
  have l : ∀ n, n % 256 < 256 := fun n => Nat.mod_lt _ (by decide)
  have e : ∀ n, n % 256 = n % 256 → pf3 15 (pf2 51 (pf1 85 (n % 256))) = pop8 (n % 256) := fun n _ => pop8_eq ⟨n % 256, l n⟩
  have a : ∀ n, pf1 85 (n % 256) < 256 := fun n => pf1_lt ⟨n % 256, l n⟩
  have b : ∀ n, pf2 51 (pf1 85 (n % 256)) < 69 := fun n => pf2_lt ⟨n % 256, l n⟩
  have c : ∀ n, pf2 51 (pf1 85 (n % 256)) % 16 < 5 := fun n => pf2_low ⟨n % 256, l n⟩
  unfold swar3
  have h1 := pf1_8 (b7 := x / 72057594037927936 % 256) (l x) (l (x / 256)) (l (x / 65536)) (l (x / 16777216)) (l (x / 4294967296)) (l (x / 1099511627776)) (l (x / 281474976710656))
  have h2 := pf2_8 (b7 := pf1 85 (x / 72057594037927936 % 256)) (a x) (a (x / 256)) (a (x / 65536)) (a (x / 16777216)) (a (x / 4294967296)) (a (x / 1099511627776)) (a (x / 281474976710656))
  have h3 := pf3_8 (b x) (b (x / 256)) (b (x / 65536)) (b (x / 16777216)) (b (x / 4294967296)) (b (x / 1099511627776)) (b (x / 281474976710656)) (c (x / 256)) (c (x / 65536)) (c (x / 16777216)) (c (x / 4294967296)) (c (x / 1099511627776)) (c (x / 281474976710656)) (c (x / 72057594037927936))
  rw [← hx] at h1
  rw [h1, h2, h3, e x rfl, e (x / 256) rfl, e (x / 65536) rfl, e (x / 16777216) rfl, e (x / 4294967296) rfl, e (x / 1099511627776) rfl, e (x / 281474976710656) rfl, e (x / 72057594037927936) rfl]

theorem swar6_eq (c0 c1 c2 c3 c4 c5 c6 c7 : Nat) (h0 : c0 ≤ 8) (h1 : c1 ≤ 8) (h2 : c2 ≤ 8) (h3 : c3 ≤ 8) (h4 : c4 ≤ 8) (h5 : c5 ≤ 8) (h6 : c6 ≤ 8) (h7 : c7 ≤ 8) :
    swar6 (by8 c0 c1 c2 c3 c4 c5 c6 c7) % 128 = c0 + c1 + c2 + c3 + c4 + c5 + c6 + c7 ∧ swar6 (by8 c0 c1 c2 c3 c4 c5 c6 c7) < 9223372036854775808 := by
  have hx : by8 c0 c1 c2 c3 c4 c5 c6 c7 / 256 = by8 c1 c2 c3 c4 c5 c6 c7 0 := by unfold by8; omega
  have hy : by8 c0 c1 c2 c3 c4 c5 c6 c7 + by8 c1 c2 c3 c4 c5 c6 c7 0 = by8 (c0 + c1) (c1 + c2) (c2 + c3) (c3 + c4) (c4 + c5) (c5 + c6) (c6 + c7) c7 := by unfold by8; omega
  have hz : by8 (c0 + c1) (c1 + c2) (c2 + c3) (c3 + c4) (c4 + c5) (c5 + c6) (c6 + c7) c7 / 65536 = by8 (c2 + c3) (c3 + c4) (c4 + c5) (c5 + c6) (c6 + c7) c7 0 0 := by unfold by8; omega
  have hu : by8 (c0 + c1) (c1 + c2) (c2 + c3) (c3 + c4) (c4 + c5) (c5 + c6) (c6 + c7) c7 + by8 (c2 + c3) (c3 + c4) (c4 + c5) (c5 + c6) (c6 + c7) c7 0 0 = by8 (c0 + c1 + (c2 + c3)) (c1 + c2 + (c3 + c4)) (c2 + c3 + (c4 + c5)) (c3 + c4 + (c5 + c6)) (c4 + c5 + (c6 + c7)) (c5 + c6 + c7) (c6 + c7) c7 := by unfold by8; omega
  have hv : by8 (c0 + c1 + (c2 + c3)) (c1 + c2 + (c3 + c4)) (c2 + c3 + (c4 + c5)) (c3 + c4 + (c5 + c6)) (c4 + c5 + (c6 + c7)) (c5 + c6 + c7) (c6 + c7) c7 / 4294967296 = by8 (c4 + c5 + (c6 + c7)) (c5 + c6 + c7) (c6 + c7) c7 0 0 0 0 := by unfold by8; omega
  unfold swar6
  rw [hx, hy, hz, hu, hv]
  unfold by8
  constructor <;> omega

theorem swar_eq (x : Nat) (h : x < 18446744073709551616) : swar6 (swar3 x) % 128 = pop x ∧ swar6 (swar3 x) < 9223372036854775808 := by
  have l : ∀ n, pop8 (n % 256) ≤ 8 := fun n => pop8_le ⟨n % 256, Nat.mod_lt _ (by decide)⟩
  rw [swar3_eq x h]
  exact swar6_eq _ _ _ _ _ _ _ _ (l _) (l _) (l _) (l _) (l _) (l _) (l _) (l _)

end Go.Proofs.YtlchaocpejfikaaGreatDoor

/-
  strings.Builder: WriteString as a deferred call (the walk of BldStr once more, printed from it).
-/
namespace Go.Proofs.YtlchaocpejfikaaGreatDoor
open Go.RowKit

set_option maxRecDepth 100000 in
set_option maxHeartbeats 1000000 in
theorem writeString_d (T : TypeId) (b o : Nat) (cs : Array Value) (bs : List UInt8) (g : Option Nat) (l : List UInt8) (u : FrameMode) (w : World) (h : BldAt 5 T b o cs bs g w) (hl : BldIn T cs.size o) (hlen : bs.length + l.length ≤ 140737488355328) :
    CallsD Tryz.prog 60 #[.pointer (some ⟨b, o, none⟩), .string ⟨l.toArray⟩] u w fun e u' w' => u' = u ∧ e = .returned (.tuple #[.int .i64 l.length, .nilIface]) ∧
      ∃ v', BldAt 5 T b o (bldCells cs b o v') (bs ++ l) v'.ownBlock w' ∧ Fr (fun k => k = b ∨ some k = g) w w' ∧ (∀ k, v'.ownBlock = some k → some k = g ∨ w.heap.size ≤ k) := by
  obtain ⟨i0, hi, hz0, hz1, hz2⟩ := info_parts info_u8
  have HL := Lib.hid hl; clear hl
  go_enter_d Tryz.func60, Tryz.ntmps60
  go_wp2_with (go_at_call 76; refine (copyCheck_any T b o cs bs g _ h HL.out).mono ?_)
  rintro e w1 ⟨rfl, h1, hf1⟩
  obtain ⟨hb, ho, hp, v, hv, hown, hg, hne, hni⟩ := h1
  have c1 : w1.cell? ⟨b, o + 1, none⟩ = some v := cell_at hb hv
  have HB := Lib.hid hb; have HO := Lib.hid ho; have HV := Lib.hid hv; have HG := Lib.hid hg; have HN := Lib.hid hne; have HP := Lib.hid hp; have HI := Lib.hid hni
  clear hb ho hv hg hne hp hni
  go_wp2_with (at_builtin; refine wpList_append_gs rfl _ _ 52 9 rfl 5 i0 Tryz.underlying52 Tryz.underlying9 hi hz0 hz1 hz2 _ _ _ rfl hown ⟨l.toArray⟩ rfl ?c3 ?c4 ?_)
  case c3 => unfold maxLen; show bs.length + l.toArray.size ≤ _; simp; omega
  case c4 => show bs.length + l.toArray.size ≤ _; simp; omega
  intro v' w2 hown' hap
  have hb := HB.out
  have hgb := HG.out; have hnb := HN.out
  have hb2 : w2.heap[b]? = some (.cells (cs.setIfInBounds o (.pointer (some ⟨b, o, none⟩))) T (0, 0)) :=
    hap.fr.heap hb (fun e => hnb (by rw [← hgb, e]))
  have d1 : w2.cell? ⟨b, o + 1, none⟩ = some v := cell_at hb2 HV.out
  have f1 : w2.frozen? ⟨b, o + 1, none⟩ = false := unfrozen_at hb2 _
  have hlt := lt_heap hb
  have hne' : v'.ownBlock ≠ some b := by
    intro e
    rcases hap.old b e with h | h
    · exact hnb (by rw [← hgb, h])
    · omega
  have hnew : ∀ k, v'.ownBlock = some k → some k = g ∨ w.heap.size ≤ k := by
    intro k hk
    have := hf1.size
    rcases hap.old k hk with h | h
    · exact .inl (by rw [← hgb, h])
    · exact .inr (by omega)
  have hrow : w2.ownsRow 0 5 1 v' (bs ++ l).length (bcells (bs ++ l)) := by
    rw [bcells_append, List.length_append]
    exact hown'
  have hni' : bs ++ l = [] → v' = .slice none 0 0 := fun h => by
    rw [List.append_eq_nil_iff] at h
    exact hap.nil.2 ⟨HI.out h.1, by show l.toArray.size = 0; simp [h.2]⟩
  have hfr : Fr (fun k => k = b ∨ some k = g) w w2 := by
    refine (hf1.mono (fun _ _ h => Or.inl h)).trans hap.fr (fun k _ h => Or.inr ?_)
    rw [← hgb, h]
  obtain ⟨ga, gn, gc, hvs⟩ := ownsRow_slice' hrow
  have HNI := Lib.hid hni'; clear hni'
  have HB2 := Lib.hid hb2; have HNE := Lib.hid hne'; have HNEW := Lib.hid hnew; have HROW := Lib.hid hrow; have HFR := Lib.hid hfr
  clear hb hb2 hgb hnb hne' hnew hrow hown' hfr
  subst hvs
  go_wp2
  go_ret2
  have ho := HO.out
  refine ⟨by simp, _, ⟨heap_setCell_at HB2.out _ _, ?_, .inr ?_, _, set_at ho, ?_, rfl, HNE.out, HNI.out⟩, ?_, HNEW.out⟩
  · rw [bldCells_size]; simpa using ho
  · unfold bldCells; rw [set_set_ne (by omega)]; exact set_at (by simp at ho; omega)
  · exact ownsRow_fr HROW.out ((Fr.refl (fun k => k = b) w2).setCell (p := ⟨b, o + 1, none⟩) (fun _ => rfl) _) (fun k hk e => HNE.out (by rw [hk, e]))
  · exact HFR.out.setCell (p := ⟨b, o + 1, none⟩) (fun _ => Or.inl rfl) _
end Go.Proofs.YtlchaocpejfikaaGreatDoor
