/-
  Merged texts of this claim: RefH, RefF, RefI, RefJ, TreeP.
-/
import Derived.Deep.RegionHeld3
import Derived.StillTailTactics
import Derived.Deep.DrawnRows
import Derived.Test.YtepeomphikhbkaaDoorM17
import Derived.Test.YtepeomphikhbkaaDoorM20

/-
  A call's own slice of the document's nodes, and append to it. Walks: list, Ref; Join, Choose of the document.
-/
namespace Go.Proofs.YtepeomphikhbkaaDoor
open Go.RowKit

/-- Nodes' cells, one behind the other. -/
def VT (S : Nat → Prop) (w : World) : List T → List Value → Prop
  | [], vs => vs = []
  | t :: ts, vs => ∃ cs r, vs = cs ++ r ∧ cs.length = 9 ∧ RT S w t cs ∧ VT S w ts r

theorem RT.length {S : Nat → Prop} {w : World} {t : T} {cs : List Value} (h : RT S w t cs) : cs.length = 9 := by
  obtain ⟨k, s, ps, mn, mx, nu, a, c, _, rfl, _⟩ := h.open'; rfl
theorem VT.length {S : Nat → Prop} {w : World} : ∀ {l : List T} {vs : List Value}, VT S w l vs → vs.length = l.length * 9
  | [], _, h => by rw [VT] at h; subst h; rfl
  | t :: ts, _, h => by rw [VT] at h; obtain ⟨cs, r, rfl, hl, _, h⟩ := h; rw [List.length_append, hl, VT.length h, List.length_cons]; omega
theorem VT.append {S : Nat → Prop} {w : World} : ∀ {l m : List T} {vs us : List Value}, VT S w l vs → VT S w m us → VT S w (l ++ m) (vs ++ us)
  | [], _, _, _, h, k => by rw [VT] at h; subst h; exact k
  | t :: ts, _, _, _, h, k => by rw [VT] at h; obtain ⟨cs, r, rfl, hl, h1, h⟩ := h; exact ⟨cs, _, by rw [List.append_assoc], hl, h1, VT.append h k⟩
theorem VT.keep {S X S' : Nat → Prop} {w w' : World} (hf : Fr X w w') (hX : ∀ k, k < w.heap.size → X k → S k) (hS : ∀ k, k < w.heap.size → S' k → S k) : ∀ {l : List T} {vs : List Value}, VT S w l vs → VT S' w' l vs
  | [], _, h => by rw [VT] at h ⊢; exact h
  | t :: ts, _, h => by rw [VT] at h ⊢; obtain ⟨cs, r, rfl, hl, h1, h⟩ := h; exact ⟨cs, r, rfl, hl, RT.keep hf hX hS _ _ h1, VT.keep hf hX hS h⟩
theorem RT.cell1 {S : Nat → Prop} {w : World} {t : T} {cs : List Value} (h : RT S w t cs) : ∀ u ∈ cs, u.oneCell' = true := by
  obtain ⟨k, s, ps, mn, mx, nu, a, c, _, rfl, _⟩ := h.open'
  intro u hu
  simp only [List.mem_cons, List.not_mem_nil, or_false] at hu
  rcases hu with rfl | rfl | rfl | rfl | rfl | rfl | rfl | rfl | rfl <;> rfl
theorem VT.cell1 {S : Nat → Prop} {w : World} : ∀ {l : List T} {vs : List Value}, VT S w l vs → ∀ u ∈ vs, u.oneCell' = true
  | [], _, h, u, hu => by rw [VT] at h; subst h; cases hu
  | t :: ts, _, h, u, hu => by
    rw [VT] at h; obtain ⟨cs, r, rfl, hl, h1, h⟩ := h
    rcases List.mem_append.1 hu with hu | hu
    · exact h1.cell1 u hu
    · exact VT.cell1 h u hu

theorem At.left {w : World} {g off : Nat} {a b : List Value} (h : At w g off (a ++ b)) : At w g off a := fun j v hj => h j v (by
  rw [List.getElem?_append_left (List.getElem?_eq_some_iff.1 hj).1]; exact hj)
theorem At.right {w : World} {g off : Nat} {a b : List Value} (h : At w g off (a ++ b)) : At w g (off + a.length) b := fun j v hj => by
  have := h (a.length + j) v (by rw [List.getElem?_append_right (by omega)]; simpa using hj)
  rwa [show off + (a.length + j) = off + a.length + j by omega] at this
theorem At.join {w : World} {g off : Nat} {a b : List Value} (h : At w g off a) (k : At w g (off + a.length) b) : At w g off (a ++ b) := fun j v hj => by
  by_cases hl : j < a.length
  · rw [List.getElem?_append_left hl] at hj; exact h j v hj
  · rw [List.getElem?_append_right (by omega)] at hj
    have := k (j - a.length) v hj
    rwa [show off + a.length + (j - a.length) = off + j by omega] at this

theorem RTs.of {S : Nat → Prop} {w : World} {g : Nat} (hg : ¬ S g) (hs : g < w.heap.size) : ∀ {l : List T} {vs : List Value} {off : Nat}, VT S w l vs → At w g off vs → RTs S w l g off
  | [], _, _, _, _ => by rw [RTs]; trivial
  | t :: ts, _, off, h, ha => by
    rw [VT] at h; obtain ⟨cs, r, rfl, hl, h1, h⟩ := h
    have hr := ha.right
    rw [hl] at hr
    rw [RTs]; exact ⟨hg, hs, ⟨cs, h1, ha.left⟩, RTs.of hg hs h hr⟩
theorem RTs.vals {S : Nat → Prop} {w : World} {g : Nat} : ∀ {l : List T} {off : Nat}, RTs S w l g off → ∃ vs, VT S w l vs ∧ At w g off vs
  | [], _, _ => ⟨[], rfl, fun j v hj => by simp at hj⟩
  | t :: ts, off, h => by
    rw [RTs] at h; obtain ⟨_, _, ⟨cs, h1, h2⟩, h⟩ := h
    obtain ⟨vs, hv, ha⟩ := RTs.vals h
    have hl := h1.length
    exact ⟨cs ++ vs, ⟨cs, vs, rfl, hl, h1, hv⟩, At.join h2 (by rw [hl]; exact ha)⟩

/-- A slice of the call's own that holds the document's nodes. -/
theorem ST.of_own {S : Nat → Prop} {w : World} {l : List T} {u : Value} {vs : List Value} {e : TypeId} (h : w.ownsRow 0 e 9 u l.length vs) (hv : VT S w l vs) (hS : ∀ k, u.ownBlock = some k → ¬ S k) : ST S w l u := by
  obtain ⟨_, h⟩ := h
  rcases h with ⟨rfl, h0⟩ | ⟨g, cap, cur, rfl, _, hg, hn, _, _, htake⟩
  · exact .inl ⟨⟨none, 0, rfl⟩, List.length_eq_zero_iff.1 h0⟩
  · refine .inr ⟨g, 0, cap, rfl, hn, RTs.of (hS g rfl) (lt_heap hg) hv ?_⟩
    intro j v hj
    rw [← htake, List.getElem?_take] at hj
    split at hj
    · exact cell_at hg (by simpa using hj)
    · cases hj

theorem run_append_zero {P : Program} {w : World} (base : Nat) (t ty e : TypeId) (i : TypeInfo) (size : Nat) (ht : P.underlying t = some (.slice e)) (hi : P.info? e = some i)
    (v : Value) (n : Nat) (xs : List Value) (hown : w.ownsRow base e size v n xs) (a : Option Addr) (c : Nat) :
    (Builtin.append_ #[t, t] ty #[v, .slice a 0 c]).run P w = .ok v w := by
  rcases hown.2 with ⟨rfl, rfl⟩ | ⟨g, cap, cur, rfl, _, _, hnc, _⟩
  · cases a <;> simp [Builtin.append_, run_underlying ht, sizeOf, typeInfo, hi, Builtin.lenOf, Builtin.firstCells, loadCells, loadCellsFrom]
  · cases a <;> simp [Builtin.append_, run_underlying ht, sizeOf, typeInfo, hi, Builtin.lenOf, Builtin.firstCells, hnc, storeCells, loadCells, loadCellsFrom]

mutual
/-- The program's node as the document's. -/
def Nd.rf : Nd → T
  | .nil => T.zero
  | .empty => T.zero
  | .one s => .mk 1 s [] 0 0 0
  | .cat l => .mk 2 S4.zero (Nd.rfs l) 0 0 0
  | .alt l => .mk 3 S4.zero (Nd.rfs l) 0 0 0
  | .rep x mn mx => .mk 4 S4.zero [x.rf] mn mx 0
  | .group n x => .mk 5 S4.zero [x.rf] 0 0 n
  | .back n => .mk 6 S4.zero [] 0 0 n
  | .start => .mk 7 S4.zero [] 0 0 0
  | .fin => .mk 8 S4.zero [] 0 0 0
def Nd.rfs : List Nd → List T
  | [] => []
  | t :: ts => t.rf :: Nd.rfs ts
end
theorem Nd.rfs_eq (l : List Nd) : Nd.rfs l = l.map Nd.rf := by
  induction l with
  | nil => rfl
  | cons t ts ih => simp only [Nd.rfs, List.map_cons, ih]
mutual
theorem Nd.rf_nd : ∀ n : Nd, n.rf.nd = n.norm
  | .nil | .empty | .one _ | .back _ | .start | .fin => by simp [Nd.rf, T.zero, T.nd, Nd.norm]
  | .cat l => by simp [Nd.rf, T.nd, Nd.norm, Nd.rfs_nd l]
  | .alt l => by simp [Nd.rf, T.nd, Nd.norm, Nd.rfs_nd l]
  | .rep x _ _ => by simp [Nd.rf, T.nd, Nd.norm, T.nd1, Nd.rf_nd x]
  | .group _ x => by simp [Nd.rf, T.nd, Nd.norm, T.nd1, Nd.rf_nd x]
theorem Nd.rfs_nd : ∀ l : List Nd, T.nds (Nd.rfs l) = Nd.norms l
  | [] => rfl
  | t :: ts => by simp only [Nd.rfs, T.nds, Nd.norms, Nd.rf_nd t, Nd.rfs_nd ts]
end
mutual
theorem Nd.rf_known : ∀ n : Nd, n.rf.known = true
  | .nil | .empty | .one _ | .back _ | .start | .fin => by simp [Nd.rf, T.zero, T.known, T.knowns]
  | .cat l => by simp [Nd.rf, T.known, Nd.rfs_known l]
  | .alt l => by simp [Nd.rf, T.known, Nd.rfs_known l]
  | .rep x _ _ => by simp [Nd.rf, T.known, T.knowns, Nd.rf_known x]
  | .group _ x => by simp [Nd.rf, T.known, T.knowns, Nd.rf_known x]
theorem Nd.rfs_known : ∀ l : List Nd, T.knowns (Nd.rfs l) = true
  | [] => rfl
  | t :: ts => by simp only [Nd.rfs, T.knowns, Nd.rf_known t, Nd.rfs_known ts, Bool.and_self]
end
mutual
theorem Nd.norm_size : ∀ n : Nd, n.norm.size = n.size
  | .nil | .empty | .one _ | .back _ | .start | .fin => by simp [Nd.norm, Nd.size]
  | .cat l => by simp [Nd.norm, Nd.size, Nd.norms_size l]
  | .alt l => by simp [Nd.norm, Nd.size, Nd.norms_size l]
  | .rep x _ _ => by simp [Nd.norm, Nd.size, Nd.norm_size x]
  | .group _ x => by simp [Nd.norm, Nd.size, Nd.norm_size x]
theorem Nd.norms_size : ∀ l : List Nd, Nd.sizes (Nd.norms l) = Nd.sizes l
  | [] => rfl
  | t :: ts => by simp only [Nd.norms, Nd.sizes, Nd.norm_size t, Nd.norms_size ts]
end
theorem Nd.rfs_take {l : List Nd} {k : Nat} (h : k < l.length) : Nd.rfs (l.take (k + 1)) = Nd.rfs (l.take k) ++ [l[k].rf] := by
  simp only [Nd.rfs_eq]; rw [List.take_succ_eq_append_getElem h, List.map_append]; rfl
theorem Nd.rfs_length (l : List Nd) : (Nd.rfs l).length = l.length := by rw [Nd.rfs_eq, List.length_map]

end Go.Proofs.YtepeomphikhbkaaDoor

/-
  Walks over the document's nodes: Same; right, Right.
-/
namespace Go.Proofs.YtepeomphikhbkaaDoor
open Go.RowKit

/-- A kind's number. -/
def Nd.kd : Nd → Int
  | .nil => 0
  | .empty => 0
  | .one _ => 1
  | .cat _ => 2
  | .alt _ => 3
  | .rep _ _ _ => 4
  | .group _ _ => 5
  | .back _ => 6
  | .start => 7
  | .fin => 8

theorem T.known_kd {k : Int} {s : S4} {ps : List T} {mn mx nu : Int} (h : (T.mk k s ps mn mx nu).known = true) : (k = 0 ∨ k = 1 ∨ k = 2 ∨ k = 3 ∨ k = 4 ∨ k = 5 ∨ k = 6 ∨ k = 7 ∨ k = 8) ∧ T.knowns ps = true := by
  simp only [T.known, Bool.and_eq_true, Bool.not_eq_true', Bool.or_eq_false_iff, decide_eq_false_iff_not] at h
  exact ⟨by omega, h.2⟩
theorem T.kd_nd {k : Int} {s : S4} {ps : List T} {mn mx nu : Int} (h : (T.mk k s ps mn mx nu).known = true) : (T.mk k s ps mn mx nu).nd.kd = k := by
  rcases (T.known_kd h).1 with rfl | rfl | rfl | rfl | rfl | rfl | rfl | rfl | rfl <;> simp [T.nd, Nd.kd]
theorem T.known_kids {t : T} (h : t.known = true) : ∀ x ∈ t.kids, x.known = true := by
  obtain ⟨k, s, ps, mn, mx, nu⟩ := t
  have hp := (T.known_kd h).2
  intro x hx
  unfold T.kids at hx
  split at hx
  · exact T.knowns_mem hp hx
  · split at hx
    · simp only [List.mem_singleton] at hx
      subst hx
      cases ps with
      | nil => rfl
      | cons y r => exact T.knowns_mem hp (by simp [T.of, T.parts])
    · cases hx

/-- Two nodes of one kind: their own parts. -/
def headSame (k : Int) (s : S4) (mn mx nu : Int) (s' : S4) (mn' mx' nu' : Int) : Prop :=
  (k = 1 → s = s') ∧ (k = 4 → mn = mn' ∧ mx = mx') ∧ (k = 5 ∨ k = 6 → nu = nu')
theorem T.same_iff {k : Int} {s : S4} {ps : List T} {mn mx nu : Int} {s' : S4} {ps' : List T} {mn' mx' nu' : Int} (h : (T.mk k s ps mn mx nu).known = true) :
    (T.mk k s ps mn mx nu).nd = (T.mk k s' ps' mn' mx' nu').nd ↔ headSame k s mn mx nu s' mn' mx' nu' ∧ (T.mk k s ps mn mx nu).nd.kids = (T.mk k s' ps' mn' mx' nu').nd.kids := by
  rcases (T.known_kd h).1 with rfl | rfl | rfl | rfl | rfl | rfl | rfl | rfl | rfl <;> simp [T.nd, headSame, Nd.kids]
  · constructor
    · rintro ⟨a, b, c⟩; exact ⟨⟨b, c⟩, a⟩
    · rintro ⟨⟨b, c⟩, a⟩; exact ⟨a, b, c⟩
theorem T.same_kd {t t' : T} (h : t.known = true) (h' : t'.known = true) (e : t.nd = t'.nd) : t.kind = t'.kind := by
  obtain ⟨k, s, ps, mn, mx, nu⟩ := t
  obtain ⟨k', s', ps', mn', mx', nu'⟩ := t'
  have := congrArg Nd.kd e
  rwa [T.kd_nd h, T.kd_nd h'] at this

/-- Nine cells of a variable that holds a node. -/
abbrev C9 (w : World) (b : Nat) (v0 v1 v2 v3 v4 v5 v6 v7 v8 : Value) : Prop :=
  w.cell? ⟨b, 0, none⟩ = some v0 ∧ w.cell? ⟨b, 1, none⟩ = some v1 ∧ w.cell? ⟨b, 2, none⟩ = some v2 ∧ w.cell? ⟨b, 3, none⟩ = some v3 ∧ w.cell? ⟨b, 4, none⟩ = some v4 ∧ w.cell? ⟨b, 5, none⟩ = some v5 ∧ w.cell? ⟨b, 6, none⟩ = some v6 ∧ w.cell? ⟨b, 7, none⟩ = some v7 ∧ w.cell? ⟨b, 8, none⟩ = some v8
theorem C9.on {w w' : World} {b : Nat} {v0 v1 v2 v3 v4 v5 v6 v7 v8 : Value} (h : C9 w b v0 v1 v2 v3 v4 v5 v6 v7 v8) (f : Fr nob w w') : C9 w' b v0 v1 v2 v3 v4 v5 v6 v7 v8 := by
  obtain ⟨h0, h1, h2, h3, h4, h5, h6, h7, h8⟩ := h
  exact ⟨f.cell h0 (fun x => x), f.cell h1 (fun x => x), f.cell h2 (fun x => x), f.cell h3 (fun x => x), f.cell h4 (fun x => x), f.cell h5 (fun x => x), f.cell h6 (fun x => x), f.cell h7 (fun x => x), f.cell h8 (fun x => x)⟩
theorem C9.of {w : World} {b : Nat} {v0 v1 v2 v3 v4 v5 v6 v7 v8 : Value} {T : TypeId} {fr : Nat × Nat} (h : w.heap[b]? = some (.cells #[v0, v1, v2, v3, v4, v5, v6, v7, v8] T fr)) : C9 w b v0 v1 v2 v3 v4 v5 v6 v7 v8 :=
  ⟨cell_at h rfl, cell_at h rfl, cell_at h rfl, cell_at h rfl, cell_at h rfl, cell_at h rfl, cell_at h rfl, cell_at h rfl, cell_at h rfl⟩

theorem C9.two {w w' : World} {b : Nat} {v0 v1 v2 v3 v4 v5 v6 v7 v8 : Value} {c : Nat} {u0 u1 u2 u3 u4 u5 u6 u7 u8 : Value} (h : C9 w b v0 v1 v2 v3 v4 v5 v6 v7 v8 ∧ C9 w c u0 u1 u2 u3 u4 u5 u6 u7 u8) (f : Fr nob w w') :
    C9 w' b v0 v1 v2 v3 v4 v5 v6 v7 v8 ∧ C9 w' c u0 u1 u2 u3 u4 u5 u6 u7 u8 := ⟨C9.on h.1 f, C9.on h.2 f⟩

/-- Same's answer. -/
def SameT (a b : T) (w : World) (e : Ending) (w' : World) : Prop := ∃ r : Bool, e = .returned (.bool r) ∧ (r = true ↔ a.nd = b.nd) ∧ Fr nob w w'

end Go.Proofs.YtepeomphikhbkaaDoor

/-
  Walks: list, Ref: the program's node as the document's.
-/
namespace Go.Proofs.YtepeomphikhbkaaDoor
open Go.RowKit
attribute [local go_sem ↓] Go.wp_at_zero Go.wp_at_succ

/-- What Ref answers. -/
def RefIs (n : Nd) (w : World) (e : Ending) (w' : World) : Prop := ∃ cs, e = .returned (.agg cs.toArray) ∧ RT (Old w) w' n.rf cs ∧ Fr nob w w'

theorem new_of' {w wr w2 : World} {g : Option Nat} (h2 : w.heap.size ≤ wr.heap.size) (hg : ∀ k, g = some k → k < wr.heap.size) :
    ∀ k, k < w2.heap.size → LS2 (Old w) g k → Old wr k := by
  intro k _ hk
  unfold Old
  rcases hk with hk | hk
  · unfold Old at hk; omega
  · exact hg k hk

/-- Nine cells stored anew. -/
abbrev setNine (w : World) (b : Nat) (v0 v1 v2 v3 v4 v5 v6 v7 v8 : Value) : World :=
  ((((((((w.setCell ⟨b, 0, none⟩ v0).setCell ⟨b, 1, none⟩ v1).setCell ⟨b, 2, none⟩ v2).setCell ⟨b, 3, none⟩ v3).setCell ⟨b, 4, none⟩ v4).setCell ⟨b, 5, none⟩ v5).setCell ⟨b, 6, none⟩ v6).setCell ⟨b, 7, none⟩ v7).setCell ⟨b, 8, none⟩ v8
theorem setNine_heap {w : World} {b : Nat} {a0 a1 a2 a3 a4 a5 a6 a7 a8 : Value} {T : TypeId} {fr : Nat × Nat} (h : w.heap[b]? = some (.cells #[a0, a1, a2, a3, a4, a5, a6, a7, a8] T fr)) (v0 v1 v2 v3 v4 v5 v6 v7 v8 : Value) :
    (setNine w b v0 v1 v2 v3 v4 v5 v6 v7 v8).heap[b]? = some (.cells #[v0, v1, v2, v3, v4, v5, v6, v7, v8] T fr) := by
  have h0 : (w.setCell ⟨b, 0, none⟩ v0).heap[b]? = some (.cells #[v0, a1, a2, a3, a4, a5, a6, a7, a8] T fr) := heap_setCell_at h 0 v0
  have h1 : ((w.setCell ⟨b, 0, none⟩ v0).setCell ⟨b, 1, none⟩ v1).heap[b]? = some (.cells #[v0, v1, a2, a3, a4, a5, a6, a7, a8] T fr) := heap_setCell_at h0 1 v1
  have h2 : (((w.setCell ⟨b, 0, none⟩ v0).setCell ⟨b, 1, none⟩ v1).setCell ⟨b, 2, none⟩ v2).heap[b]? = some (.cells #[v0, v1, v2, a3, a4, a5, a6, a7, a8] T fr) := heap_setCell_at h1 2 v2
  have h3 : ((((w.setCell ⟨b, 0, none⟩ v0).setCell ⟨b, 1, none⟩ v1).setCell ⟨b, 2, none⟩ v2).setCell ⟨b, 3, none⟩ v3).heap[b]? = some (.cells #[v0, v1, v2, v3, a4, a5, a6, a7, a8] T fr) := heap_setCell_at h2 3 v3
  have h4 : (((((w.setCell ⟨b, 0, none⟩ v0).setCell ⟨b, 1, none⟩ v1).setCell ⟨b, 2, none⟩ v2).setCell ⟨b, 3, none⟩ v3).setCell ⟨b, 4, none⟩ v4).heap[b]? = some (.cells #[v0, v1, v2, v3, v4, a5, a6, a7, a8] T fr) := heap_setCell_at h3 4 v4
  have h5 : ((((((w.setCell ⟨b, 0, none⟩ v0).setCell ⟨b, 1, none⟩ v1).setCell ⟨b, 2, none⟩ v2).setCell ⟨b, 3, none⟩ v3).setCell ⟨b, 4, none⟩ v4).setCell ⟨b, 5, none⟩ v5).heap[b]? = some (.cells #[v0, v1, v2, v3, v4, v5, a6, a7, a8] T fr) := heap_setCell_at h4 5 v5
  have h6 : (((((((w.setCell ⟨b, 0, none⟩ v0).setCell ⟨b, 1, none⟩ v1).setCell ⟨b, 2, none⟩ v2).setCell ⟨b, 3, none⟩ v3).setCell ⟨b, 4, none⟩ v4).setCell ⟨b, 5, none⟩ v5).setCell ⟨b, 6, none⟩ v6).heap[b]? = some (.cells #[v0, v1, v2, v3, v4, v5, v6, a7, a8] T fr) := heap_setCell_at h5 6 v6
  have h7 : ((((((((w.setCell ⟨b, 0, none⟩ v0).setCell ⟨b, 1, none⟩ v1).setCell ⟨b, 2, none⟩ v2).setCell ⟨b, 3, none⟩ v3).setCell ⟨b, 4, none⟩ v4).setCell ⟨b, 5, none⟩ v5).setCell ⟨b, 6, none⟩ v6).setCell ⟨b, 7, none⟩ v7).heap[b]? = some (.cells #[v0, v1, v2, v3, v4, v5, v6, v7, a8] T fr) := heap_setCell_at h6 7 v7
  have h8 : (((((((((w.setCell ⟨b, 0, none⟩ v0).setCell ⟨b, 1, none⟩ v1).setCell ⟨b, 2, none⟩ v2).setCell ⟨b, 3, none⟩ v3).setCell ⟨b, 4, none⟩ v4).setCell ⟨b, 5, none⟩ v5).setCell ⟨b, 6, none⟩ v6).setCell ⟨b, 7, none⟩ v7).setCell ⟨b, 8, none⟩ v8).heap[b]? = some (.cells #[v0, v1, v2, v3, v4, v5, v6, v7, v8] T fr) := heap_setCell_at h7 8 v8
  exact h8
theorem setNine_fr {w a : World} {b : Nat} (f : Fr nob a w) (hb : a.heap.size ≤ b) (v0 v1 v2 v3 v4 v5 v6 v7 v8 : Value) : Fr nob a (setNine w b v0 v1 v2 v3 v4 v5 v6 v7 v8) := by
  have h : ∀ (x : World) (j : Nat) (v : Value), Fr nob a x → Fr nob a (x.setCell ⟨b, j, none⟩ v) := fun x j v hx => hx.setCell (p := ⟨b, j, none⟩) (fun h => absurd h (Nat.not_lt.2 hb)) v
  exact h _ _ _ (h _ _ _ (h _ _ _ (h _ _ _ (h _ _ _ (h _ _ _ (h _ _ _ (h _ _ _ (h _ _ _ f))))))))
theorem setNine_one {w : World} {b : Nat} (v0 v1 v2 v3 v4 v5 v6 v7 v8 : Value) : Fr (fun k => k = b) w (setNine w b v0 v1 v2 v3 v4 v5 v6 v7 v8) := by
  have h : ∀ (x : World) (j : Nat) (v : Value), Fr (fun k => k = b) w x → Fr (fun k => k = b) w (x.setCell ⟨b, j, none⟩ v) := fun x j v hx => hx.setCell (p := ⟨b, j, none⟩) (fun _ => rfl) v
  exact h _ _ _ (h _ _ _ (h _ _ _ (h _ _ _ (h _ _ _ (h _ _ _ (h _ _ _ (h _ _ _ (h _ _ _ (Fr.refl _ w)))))))))

theorem setNine_size {w : World} {b : Nat} (v0 v1 v2 v3 v4 v5 v6 v7 v8 : Value) : (setNine w b v0 v1 v2 v3 v4 v5 v6 v7 v8).heap.size = w.heap.size := by
  simp [World.setCell]

/-- Nine cells that are there and may be written. -/
theorem there9 {w : World} {b : Nat} {a0 a1 a2 a3 a4 a5 a6 a7 a8 : Value} {T : TypeId} (h : w.heap[b]? = some (.cells #[a0, a1, a2, a3, a4, a5, a6, a7, a8] T (0, 0))) :
    (w.frozen? ⟨b, 0, none⟩ = false ∧ w.frozen? ⟨b, 1, none⟩ = false ∧ w.frozen? ⟨b, 2, none⟩ = false ∧ w.frozen? ⟨b, 3, none⟩ = false ∧ w.frozen? ⟨b, 4, none⟩ = false ∧ w.frozen? ⟨b, 5, none⟩ = false ∧ w.frozen? ⟨b, 6, none⟩ = false ∧ w.frozen? ⟨b, 7, none⟩ = false ∧ w.frozen? ⟨b, 8, none⟩ = false) :=
  ⟨unfrozen_at h _, unfrozen_at h _, unfrozen_at h _, unfrozen_at h _, unfrozen_at h _, unfrozen_at h _, unfrozen_at h _, unfrozen_at h _, unfrozen_at h _⟩

/-- Three cells; two. -/
abbrev C3 (w : World) (b : Nat) (v0 v1 v2 : Value) : Prop := w.cell? ⟨b, 0, none⟩ = some v0 ∧ w.cell? ⟨b, 1, none⟩ = some v1 ∧ w.cell? ⟨b, 2, none⟩ = some v2
abbrev C2 (w : World) (b : Nat) (v0 v1 : Value) : Prop := w.cell? ⟨b, 0, none⟩ = some v0 ∧ w.cell? ⟨b, 1, none⟩ = some v1
theorem C3.on {w w' : World} {b : Nat} {v0 v1 v2 : Value} (h : C3 w b v0 v1 v2) (f : Fr nob w w') : C3 w' b v0 v1 v2 := ⟨f.cell h.1 (fun x => x), f.cell h.2.1 (fun x => x), f.cell h.2.2 (fun x => x)⟩
theorem C2.on {w w' : World} {b : Nat} {v0 v1 : Value} (h : C2 w b v0 v1) (f : Fr nob w w') : C2 w' b v0 v1 := ⟨f.cell h.1 (fun x => x), f.cell h.2 (fun x => x)⟩
theorem C3.set {w : World} {b c : Nat} {v0 v1 v2 : Value} (h : C3 w b v0 v1 v2) (hn : ¬ b = c) (u0 u1 u2 u3 u4 u5 u6 u7 u8 : Value) : C3 (setNine w c u0 u1 u2 u3 u4 u5 u6 u7 u8) b v0 v1 v2 :=
  ⟨Fr.cell (setNine_one u0 u1 u2 u3 u4 u5 u6 u7 u8) h.1 hn, Fr.cell (setNine_one u0 u1 u2 u3 u4 u5 u6 u7 u8) h.2.1 hn, Fr.cell (setNine_one u0 u1 u2 u3 u4 u5 u6 u7 u8) h.2.2 hn⟩
theorem C2.set {w : World} {b c : Nat} {v0 v1 : Value} (h : C2 w b v0 v1) (hn : ¬ b = c) (u0 u1 u2 u3 u4 u5 u6 u7 u8 : Value) : C2 (setNine w c u0 u1 u2 u3 u4 u5 u6 u7 u8) b v0 v1 :=
  ⟨Fr.cell (setNine_one u0 u1 u2 u3 u4 u5 u6 u7 u8) h.1 hn, Fr.cell (setNine_one u0 u1 u2 u3 u4 u5 u6 u7 u8) h.2 hn⟩
theorem C3.of {w : World} {b : Nat} {v0 v1 v2 : Value} {T : TypeId} {fr : Nat × Nat} (h : w.heap[b]? = some (.cells #[v0, v1, v2] T fr)) : C3 w b v0 v1 v2 := ⟨cell_at h rfl, cell_at h rfl, cell_at h rfl⟩
theorem C2.of {w : World} {b : Nat} {v0 v1 : Value} {T : TypeId} {fr : Nat × Nat} (h : w.heap[b]? = some (.cells #[v0, v1] T fr)) : C2 w b v0 v1 := ⟨cell_at h rfl, cell_at h rfl⟩

/-- Is a node the document's? -/
def IsT (n : Nd) (t : T) (w : World) (e : Ending) (w' : World) : Prop := ∃ r : Bool, e = .returned (.bool r) ∧ (r = true ↔ n.norm = t.nd) ∧ Fr nob w w'

end Go.Proofs.YtepeomphikhbkaaDoor

/-
  Walks: Join, Choose of the document.
-/
namespace Go.Proofs.YtepeomphikhbkaaDoor
open Go.RowKit

/-- What a part brings to a Cat; to an Alt. -/
def T.partT (t : T) : List T := if t.kind = 0 then [] else if t.kind = 2 then t.parts else [t]
def T.armT (t : T) : List T := if t.kind = 3 then t.parts else [t]
def partsT : List T → List T
  | [] => []
  | t :: ts => t.partT ++ partsT ts
def armsT : List T → List T
  | [] => []
  | t :: ts => t.armT ++ armsT ts
def onlyT (k : Int) : List T → T
  | [] => T.zero
  | [x] => x
  | x :: y :: l => .mk k S4.zero (x :: y :: l) 0 0 0
def joinT (l : List T) : T := onlyT 2 (partsT l)
def chooseT (l : List T) : T := onlyT 3 (armsT l)

theorem partsT_append (l m : List T) : partsT (l ++ m) = partsT l ++ partsT m := by
  induction l with
  | nil => rfl
  | cons t ts ih => simp only [List.cons_append, partsT, ih, List.append_assoc]
theorem armsT_append (l m : List T) : armsT (l ++ m) = armsT l ++ armsT m := by
  induction l with
  | nil => rfl
  | cons t ts ih => simp only [List.cons_append, armsT, ih, List.append_assoc]
theorem partsT_take {l : List T} {k : Nat} (h : k < l.length) : partsT (l.take (k + 1)) = partsT (l.take k) ++ l[k].partT := by
  rw [List.take_succ_eq_append_getElem h, partsT_append]; simp [partsT]
theorem armsT_take {l : List T} {k : Nat} (h : k < l.length) : armsT (l.take (k + 1)) = armsT (l.take k) ++ l[k].armT := by
  rw [List.take_succ_eq_append_getElem h, armsT_append]; simp [armsT]
theorem T.partT_bulk (t : T) : T.bulks t.partT ≤ t.bulk := by
  have := t.bulk_parts
  unfold T.partT; split
  · simp [T.bulks]
  split
  · omega
  · simp [T.bulks]
theorem T.armT_bulk (t : T) : T.bulks t.armT ≤ t.bulk := by
  have := t.bulk_parts
  unfold T.armT; split
  · omega
  · simp [T.bulks]
theorem partsT_bulk (l : List T) : T.bulks (partsT l) ≤ T.bulks l := by
  induction l with
  | nil => simp [partsT]
  | cons t ts ih => have := t.partT_bulk; simp only [partsT, T.bulks, T.bulks_append]; omega
theorem armsT_bulk (l : List T) : T.bulks (armsT l) ≤ T.bulks l := by
  induction l with
  | nil => simp [armsT]
  | cons t ts ih => have := t.armT_bulk; simp only [armsT, T.bulks, T.bulks_append]; omega

/-- The block of a result. -/
abbrev SRb (w : World) : Nat → Prop := fun k => k = w.heap.size

theorem late_ST {w wr : World} {g : Option Nat} {l : List T} {u : Value} (h : ST nob w l u) (f : Fr nob w wr) (hg : ∀ j, g = some j → w.heap.size < j) : ST (LS2 (SRb w) g) wr l u :=
  h.keep f (fun _ _ x => x) (fun k hk x => by
    rcases x with x | x
    · unfold SRb at x; omega
    · have := hg k x; omega)
theorem late_RT {w wr : World} {g : Option Nat} {t : T} {cs : List Value} (h : RT nob w t cs) (f : Fr nob w wr) (hg : ∀ j, g = some j → w.heap.size < j) : RT (LS2 (SRb w) g) wr t cs :=
  RT.keep f (fun _ _ x => x) (fun k hk x => by
    rcases x with x | x
    · unfold SRb at x; omega
    · have := hg k x; omega) _ _ h

end Go.Proofs.YtepeomphikhbkaaDoor

/-
  Plain facts on what Join and Choose make, on both sides. No walk.
-/
namespace Go.Proofs.YtepeomphikhbkaaDoor
open Go.RowKit

theorem T.part_nd {t : T} (h : t.known = true) : t.nd.part = T.nds t.partT := by
  obtain ⟨k, s, ps, mn, mx, nu⟩ := t
  rcases (T.known_kd h).1 with rfl | rfl | rfl | rfl | rfl | rfl | rfl | rfl | rfl <;> simp [T.nd, Nd.part, T.partT, T.kind, T.parts, T.nds]
theorem T.arm_nd {t : T} (h : t.known = true) : t.nd.arm = T.nds t.armT := by
  obtain ⟨k, s, ps, mn, mx, nu⟩ := t
  rcases (T.known_kd h).1 with rfl | rfl | rfl | rfl | rfl | rfl | rfl | rfl | rfl <;> simp [T.nd, Nd.arm, Nd.told, T.armT, T.kind, T.parts, T.nds]
theorem T.nds_append (l m : List T) : T.nds (l ++ m) = T.nds l ++ T.nds m := by simp only [T.nds_eq, List.map_append]
theorem parts_nds {l : List T} (h : T.knowns l = true) : parts (T.nds l) = T.nds (partsT l) := by
  induction l with
  | nil => rfl
  | cons t ts ih =>
    simp only [T.knowns, Bool.and_eq_true] at h
    simp only [T.nds, parts, partsT, T.nds_append, T.part_nd h.1, ih h.2]
theorem arms_nds {l : List T} (h : T.knowns l = true) : arms (T.nds l) = T.nds (armsT l) := by
  induction l with
  | nil => rfl
  | cons t ts ih =>
    simp only [T.knowns, Bool.and_eq_true] at h
    simp only [T.nds, arms, armsT, T.nds_append, T.arm_nd h.1, ih h.2]
theorem T.zero_nd : T.zero.nd = .empty := by simp [T.zero, T.nd]
theorem only_nd2 (l : List T) : (onlyT 2 l).nd = onlyOf (T.nds l) (.cat (T.nds l)) := by
  match l with
  | [] => exact T.zero_nd
  | [x] => rfl
  | x :: y :: r => simp [onlyT, T.nd, T.nds, onlyOf]
theorem only_nd3 (l : List T) : (onlyT 3 l).nd = onlyOf (T.nds l) (.alt (T.nds l)) := by
  match l with
  | [] => exact T.zero_nd
  | [x] => rfl
  | x :: y :: r => simp [onlyT, T.nd, T.nds, onlyOf]
theorem joined_nd {l : List T} (h : T.knowns l = true) : joined (T.nds l) = (joinT l).nd := by
  unfold joined joinT; rw [parts_nds h, only_nd2]
theorem chosen_nd {l : List T} (h : T.knowns l = true) : chosen (T.nds l) = (chooseT l).nd := by
  unfold chosen chooseT; rw [arms_nds h, only_nd3]
theorem parts_nil (l : List Nd) : parts (l ++ [.nil]) = parts l := by rw [parts_append]; simp [parts, Nd.part]
theorem joined_nil (l : List Nd) : joined (l ++ [.nil]) = joined l := by unfold joined; rw [parts_nil]
theorem onlyT_known {k : Int} (hk : 0 ≤ k ∧ k ≤ 8) {l : List T} (h : T.knowns l = true) : (onlyT k l).known = true := by
  match l, h with
  | [], _ => rfl
  | [x], h => simp only [T.knowns, Bool.and_true] at h; exact h
  | x :: y :: r, h =>
    simp only [onlyT, T.known, h, Bool.and_true, Bool.not_eq_true', Bool.or_eq_false_iff, decide_eq_false_iff_not]; omega
theorem partsT_known {l : List T} (h : T.knowns l = true) : T.knowns (partsT l) = true := by
  induction l with
  | nil => rfl
  | cons t ts ih =>
    simp only [T.knowns, Bool.and_eq_true] at h
    have ha : ∀ a b : List T, T.knowns (a ++ b) = (T.knowns a && T.knowns b) := by
      intro a b
      induction a with
      | nil => simp [T.knowns]
      | cons t ts ih => simp only [List.cons_append, T.knowns, ih, Bool.and_assoc]
    have hp : T.knowns t.partT = true := by
      unfold T.partT; split
      · rfl
      split
      · obtain ⟨k, s, ps, mn, mx, nu⟩ := t; exact (T.known_kd h.1).2
      · simp [T.knowns, h.1]
    simp only [partsT, ha, hp, ih h.2, Bool.and_self]
theorem armsT_known {l : List T} (h : T.knowns l = true) : T.knowns (armsT l) = true := by
  induction l with
  | nil => rfl
  | cons t ts ih =>
    simp only [T.knowns, Bool.and_eq_true] at h
    have ha : ∀ a b : List T, T.knowns (a ++ b) = (T.knowns a && T.knowns b) := by
      intro a b
      induction a with
      | nil => simp [T.knowns]
      | cons t ts ih => simp only [List.cons_append, T.knowns, ih, Bool.and_assoc]
    have hp : T.knowns t.armT = true := by
      unfold T.armT; split
      · obtain ⟨k, s, ps, mn, mx, nu⟩ := t; exact (T.known_kd h.1).2
      · simp [T.knowns, h.1]
    simp only [armsT, ha, hp, ih h.2, Bool.and_self]
theorem onlyOf_size {l : List Nd} {n : Nd} (hn : n.size ≤ 1 + Nd.sizes l) : (onlyOf l n).size ≤ 1 + Nd.sizes l := by
  match l with
  | [] => simp [onlyOf, Nd.size]
  | [x] => simp [onlyOf, Nd.sizes]
  | x :: y :: r => exact hn
theorem joined_size (l : List Nd) : (joined l).size ≤ 1 + Nd.sizes l := by
  have := parts_sizes l
  have h := onlyOf_size (l := parts l) (n := .cat (parts l)) (by simp [Nd.size])
  unfold joined; omega
theorem chosen_size (l : List Nd) : (chosen l).size ≤ 1 + Nd.sizes l := by
  have := arms_sizes l
  have h := onlyOf_size (l := arms l) (n := .alt (arms l)) (by simp [Nd.size])
  unfold chosen; omega

/-! ### Groups, backs and depth of what is joined -/
theorem onlyOf_groups {l : List Nd} {n : Nd} (hn : n.groups = Nd.groupss l) : (onlyOf l n).groups = Nd.groupss l := by
  match l with
  | [] => simp [onlyOf, Nd.groups, Nd.groupss]
  | [x] => simp [onlyOf, Nd.groupss]
  | x :: y :: r => exact hn
theorem onlyOf_deep {l : List Nd} {n : Nd} (hn : n.deep = Nd.deeps l) : (onlyOf l n).deep = Nd.deeps l := by
  match l with
  | [] => simp [onlyOf, Nd.deep, Nd.deeps]
  | [x] => simp [onlyOf, Nd.deeps]
  | x :: y :: r => exact hn
theorem onlyOf_backs {l : List Nd} {n : Nd} (hn : n.backs = Nd.backss l) : (onlyOf l n).backs = Nd.backss l := by
  match l with
  | [] => simp [onlyOf, Nd.backs, Nd.backss]
  | [x] => simp [onlyOf, Nd.backss]
  | x :: y :: r => exact hn
theorem backss_append (l m : List Nd) : Nd.backss (l ++ m) = (Nd.backss l || Nd.backss m) := by simp only [Nd.backss_eq, List.any_append]
theorem part_groups (n : Nd) : Nd.groupss n.part = n.groups := by cases n <;> simp [Nd.part, Nd.groups, Nd.groupss]
theorem part_deep (n : Nd) : Nd.deeps n.part = n.deep := by cases n <;> simp [Nd.part, Nd.deep, Nd.deeps]
theorem part_backs (n : Nd) : Nd.backss n.part = n.backs := by cases n <;> simp [Nd.part, Nd.backs, Nd.backss]
theorem arm_groups (n : Nd) : Nd.groupss n.arm = n.groups := by cases n <;> simp [Nd.arm, Nd.told, Nd.groups, Nd.groupss]
theorem arm_deep (n : Nd) : Nd.deeps n.arm = n.deep := by cases n <;> simp [Nd.arm, Nd.told, Nd.deep, Nd.deeps]
theorem arm_backs (n : Nd) : Nd.backss n.arm = n.backs := by cases n <;> simp [Nd.arm, Nd.told, Nd.backs, Nd.backss]
theorem two_parts (x y : Nd) : parts [x, y] = x.part ++ y.part := by simp [parts]
theorem two_arms (x y : Nd) : arms [x, y] = x.arm ++ y.arm := by simp [arms]
/-- What TreeAdds asks of a node made of two. -/
def Adds (x y n : Nd) : Prop := n.groups = x.groups + y.groups ∧ n.backs = (x.backs || y.backs) ∧ n.deep = max x.deep y.deep
theorem adds_joined (x y : Nd) : Adds x y (joined [x, y]) := by
  refine ⟨?_, ?_, ?_⟩
  · unfold joined; rw [onlyOf_groups (by simp [Nd.groups]), two_parts, Nd.groupss_append, part_groups, part_groups]
  · unfold joined; rw [onlyOf_backs (by simp [Nd.backs]), two_parts, backss_append, part_backs, part_backs]
  · unfold joined; rw [onlyOf_deep (by simp [Nd.deep]), two_parts, Nd.deeps_append, part_deep, part_deep]
theorem adds_chosen (x y : Nd) : Adds x y (chosen [x, y]) := by
  refine ⟨?_, ?_, ?_⟩
  · unfold chosen; rw [onlyOf_groups (by simp [Nd.groups]), two_arms, Nd.groupss_append, arm_groups, arm_groups]
  · unfold chosen; rw [onlyOf_backs (by simp [Nd.backs]), two_arms, backss_append, arm_backs, arm_backs]
  · unfold chosen; rw [onlyOf_deep (by simp [Nd.deep]), two_arms, Nd.deeps_append, arm_deep, arm_deep]

/-! ### Once more -/
theorem right_cat {l : List Nd} (h : (Nd.cat l).right = true) : 1 < l.length ∧ ∀ n ∈ l, n.plain = true := by
  unfold Nd.right at h
  simp only [Nd.look] at h
  split at h
  · rename_i hc
    simp only [Bool.and_eq_true, decide_eq_true_eq, Bool.not_eq_true', List.any_eq_false] at hc
    exact ⟨hc.1, fun n hn => by simpa using hc.2 n hn⟩
  · cases h
theorem right_alt {l : List Nd} (h : (Nd.alt l).right = true) : 1 < l.length ∧ ∀ n ∈ l, n.isAlt = false := by
  unfold Nd.right at h
  simp only [Nd.look] at h
  split at h
  · rename_i hc
    simp only [Bool.and_eq_true, decide_eq_true_eq, Bool.not_eq_true', List.any_eq_false] at hc
    exact ⟨hc.1, fun n hn => by simpa using hc.2 n hn⟩
  · cases h
/-- Parts of a right node hold no Cat, no Empty. -/
theorem part_flat {n : Nd} (h : n.right = true) : ∀ x ∈ n.part, x.part = [x] := by
  intro x hx
  cases n with
  | cat l =>
    have := (right_cat h).2 x hx
    cases x <;> first | rfl | (simp [Nd.plain] at this)
  | nil => simp [Nd.part] at hx
  | empty => simp [Nd.part] at hx
  | _ => simp only [Nd.part, List.mem_singleton] at hx; subst hx; rfl
theorem arm_flat {n : Nd} (h : n.right = true) : ∀ x ∈ n.arm, x.isAlt = false := by
  intro x hx
  cases n with
  | alt l => exact (right_alt h).2 x hx
  | nil => simp only [Nd.arm, Nd.told, List.mem_singleton] at hx; subst hx; rfl
  | _ => simp only [Nd.arm, Nd.told, List.mem_singleton] at hx; subst hx; rfl
theorem arm_pos {n : Nd} (h : n.right = true) : 1 ≤ n.arm.length := by
  cases n with
  | alt l => have := (right_alt h).1; simp only [Nd.arm]; omega
  | _ => simp [Nd.arm]
theorem once_joined {x y : Nd} (hx : x.right = true) (hy : y.right = true) : joined [joined [x, y]] = joined [x, y] := by
  have hf : ∀ n ∈ parts [x, y], n.part = [n] := by
    intro n hn
    rw [two_parts] at hn
    rcases List.mem_append.1 hn with h | h
    · exact part_flat hx n h
    · exact part_flat hy n h
  have h1 : parts [joined [x, y]] = parts [x, y] := by
    unfold joined
    match hp : parts [x, y], hf with
    | [], _ => rfl
    | [z], hf => have := hf z (by simp); simp [parts, onlyOf, this]
    | z :: u :: r, _ => simp [parts, onlyOf, Nd.part]
  show onlyOf (parts [joined [x, y]]) (.cat (parts [joined [x, y]])) = joined [x, y]
  rw [h1]; rfl
theorem once_chosen {x y : Nd} (hx : x.right = true) (hy : y.right = true) : chosen [chosen [x, y]] = chosen [x, y] := by
  have h2 : 2 ≤ (arms [x, y]).length := by have := arm_pos hx; have := arm_pos hy; rw [two_arms, List.length_append]; omega
  have h1 : arms [chosen [x, y]] = arms [x, y] := by
    unfold chosen
    match hp : arms [x, y], h2 with
    | z :: u :: r, _ => simp [arms, onlyOf, Nd.arm]
  show onlyOf (arms [chosen [x, y]]) (.alt (arms [chosen [x, y]])) = chosen [x, y]
  rw [h1]; rfl

end Go.Proofs.YtepeomphikhbkaaDoor
