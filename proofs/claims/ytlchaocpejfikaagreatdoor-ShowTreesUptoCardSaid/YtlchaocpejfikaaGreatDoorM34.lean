/-
  Merged texts of this claim: RefH, RefI.
-/
import Derived.Deep.DrawnRows
import Derived.Test.YtlchaocpejfikaaGreatDoorM22
import Derived.Test.YtlchaocpejfikaaGreatDoorM24
import Derived.Test.YtlchaocpejfikaaGreatDoorM25

/-
  A call's own slice of the document's nodes, and append to it. Walks: list, Ref; Join, Choose of the document.
-/
namespace Go.Proofs.YtlchaocpejfikaaGreatDoor
open Go.RowKit

/-- Nodes' cells, one behind the other. -/
def VT (S : Nat → Prop) (w : World) : List T → List Value → Prop
  | [], vs => vs = []
  | t :: ts, vs => ∃ cs r, vs = cs ++ r ∧ cs.length = 9 ∧ RT S w t cs ∧ VT S w ts r

theorem RT.length {S : Nat → Prop} {w : World} {t : T} {cs : List Value} (h : RT S w t cs) : cs.length = 9 := by
  obtain ⟨k, s, ps, mn, mx, nu, a, c, _, rfl, _⟩ := h.open'; rfl
theorem VT.length {S : Nat → Prop} {w : World} : ∀ {l : List T} {vs : List Value}, VT S w l vs → vs.length = l.length * 9
  | [], _, h => by rw [VT] at h; subst h; rfl
  | t :: ts, _, h => by rw [VT] at h; obtain ⟨cs, r, rfl, hl, _, h⟩ := h; rw [List.length_append, hl, VT.length h, List.length_cons]; omega
theorem VT.append {S : Nat → Prop} {w : World} : ∀ {l m : List T} {vs us : List Value}, VT S w l vs → VT S w m us → VT S w (l ++ m) (vs ++ us)
  | [], _, _, _, h, k => by rw [VT] at h; subst h; exact k
  | t :: ts, _, _, _, h, k => by rw [VT] at h; obtain ⟨cs, r, rfl, hl, h1, h⟩ := h; exact ⟨cs, _, by rw [List.append_assoc], hl, h1, VT.append h k⟩
theorem VT.keep {S X S' : Nat → Prop} {w w' : World} (hf : Fr X w w') (hX : ∀ k, k < w.heap.size → X k → S k) (hS : ∀ k, k < w.heap.size → S' k → S k) : ∀ {l : List T} {vs : List Value}, VT S w l vs → VT S' w' l vs
  | [], _, h => by rw [VT] at h ⊢; exact h
  | t :: ts, _, h => by rw [VT] at h ⊢; obtain ⟨cs, r, rfl, hl, h1, h⟩ := h; exact ⟨cs, r, rfl, hl, RT.keep hf hX hS _ _ h1, VT.keep hf hX hS h⟩
theorem RT.cell1 {S : Nat → Prop} {w : World} {t : T} {cs : List Value} (h : RT S w t cs) : ∀ u ∈ cs, u.oneCell' = true := by
  obtain ⟨k, s, ps, mn, mx, nu, a, c, _, rfl, _⟩ := h.open'
  intro u hu
  simp only [List.mem_cons, List.not_mem_nil, or_false] at hu
  rcases hu with rfl | rfl | rfl | rfl | rfl | rfl | rfl | rfl | rfl <;> rfl
theorem VT.cell1 {S : Nat → Prop} {w : World} : ∀ {l : List T} {vs : List Value}, VT S w l vs → ∀ u ∈ vs, u.oneCell' = true
  | [], _, h, u, hu => by rw [VT] at h; subst h; cases hu
  | t :: ts, _, h, u, hu => by
    rw [VT] at h; obtain ⟨cs, r, rfl, hl, h1, h⟩ := h
    rcases List.mem_append.1 hu with hu | hu
    · exact h1.cell1 u hu
    · exact VT.cell1 h u hu

theorem At.left {w : World} {g off : Nat} {a b : List Value} (h : At w g off (a ++ b)) : At w g off a := fun j v hj => h j v (by
  rw [List.getElem?_append_left (List.getElem?_eq_some_iff.1 hj).1]; exact hj)
theorem At.right {w : World} {g off : Nat} {a b : List Value} (h : At w g off (a ++ b)) : At w g (off + a.length) b := fun j v hj => by
  have := h (a.length + j) v (by rw [List.getElem?_append_right (by omega)]; simpa using hj)
  rwa [show off + (a.length + j) = off + a.length + j by omega] at this
theorem At.join {w : World} {g off : Nat} {a b : List Value} (h : At w g off a) (k : At w g (off + a.length) b) : At w g off (a ++ b) := fun j v hj => by
  by_cases hl : j < a.length
  · rw [List.getElem?_append_left hl] at hj; exact h j v hj
  · rw [List.getElem?_append_right (by omega)] at hj
    have := k (j - a.length) v hj
    rwa [show off + a.length + (j - a.length) = off + j by omega] at this

theorem RTs.of {S : Nat → Prop} {w : World} {g : Nat} (hg : ¬ S g) (hs : g < w.heap.size) : ∀ {l : List T} {vs : List Value} {off : Nat}, VT S w l vs → At w g off vs → RTs S w l g off
  | [], _, _, _, _ => by rw [RTs]; trivial
  | t :: ts, _, off, h, ha => by
    rw [VT] at h; obtain ⟨cs, r, rfl, hl, h1, h⟩ := h
    have hr := ha.right
    rw [hl] at hr
    rw [RTs]; exact ⟨hg, hs, ⟨cs, h1, ha.left⟩, RTs.of hg hs h hr⟩
theorem RTs.vals {S : Nat → Prop} {w : World} {g : Nat} : ∀ {l : List T} {off : Nat}, RTs S w l g off → ∃ vs, VT S w l vs ∧ At w g off vs
  | [], _, _ => ⟨[], rfl, fun j v hj => by simp at hj⟩
  | t :: ts, off, h => by
    rw [RTs] at h; obtain ⟨_, _, ⟨cs, h1, h2⟩, h⟩ := h
    obtain ⟨vs, hv, ha⟩ := RTs.vals h
    have hl := h1.length
    exact ⟨cs ++ vs, ⟨cs, vs, rfl, hl, h1, hv⟩, At.join h2 (by rw [hl]; exact ha)⟩

/-- A slice of the call's own that holds the document's nodes. -/
theorem ST.of_own {S : Nat → Prop} {w : World} {l : List T} {u : Value} {vs : List Value} {e : TypeId} (h : w.ownsRow 0 e 9 u l.length vs) (hv : VT S w l vs) (hS : ∀ k, u.ownBlock = some k → ¬ S k) : ST S w l u := by
  obtain ⟨_, h⟩ := h
  rcases h with ⟨rfl, h0⟩ | ⟨g, cap, cur, rfl, _, hg, hn, _, _, htake⟩
  · exact .inl ⟨⟨none, 0, rfl⟩, List.length_eq_zero_iff.1 h0⟩
  · refine .inr ⟨g, 0, cap, rfl, hn, RTs.of (hS g rfl) (lt_heap hg) hv ?_⟩
    intro j v hj
    rw [← htake, List.getElem?_take] at hj
    split at hj
    · exact cell_at hg (by simpa using hj)
    · cases hj

/-- A call's own slice of the document's nodes, all of them outside S. -/
def OwnT (S : Nat → Prop) (w : World) (l : List T) (v : Value) (g : Option Nat) : Prop := ∃ vs, w.ownsRow 0 32 9 v l.length vs ∧ VT (LS2 S g) w l vs ∧ v.ownBlock = g ∧ ∀ k, g = some k → ¬ S k

theorem OwnT.nil (S : Nat → Prop) (w : World) : OwnT S w [] (.slice none 0 0) none := ⟨[], World.ownsRow_nil _ _ _ _, rfl, rfl, fun _ h => by cases h⟩
theorem OwnT.shape {S : Nat → Prop} {w : World} {l : List T} {v : Value} {g : Option Nat} (h : OwnT S w l v g) : ∃ a c, v = .slice a l.length c := by
  obtain ⟨vs, h1, _⟩ := h; exact ownsRow_slice h1
theorem OwnT.on {S : Nat → Prop} {w w' : World} {l : List T} {v : Value} {g : Option Nat} (h : OwnT S w l v g) (f : Fr nob w w') : OwnT S w' l v g := by
  obtain ⟨vs, h1, h2, h3, h4⟩ := h
  exact ⟨vs, ownsRow_fr h1 f (fun _ _ x => x), h2.keep f (fun _ _ x => x.elim) (fun _ _ x => x), h3, h4⟩
theorem OwnT.lt {S : Nat → Prop} {w : World} {l : List T} {v : Value} {g : Option Nat} (h : OwnT S w l v g) : ∀ k, g = some k → k < w.heap.size := by
  intro k hk
  obtain ⟨vs, hown, _, hg, _⟩ := h
  rcases hown.2 with ⟨rfl, _⟩ | ⟨r, cap, cur, rfl, _, hr, _⟩
  · rw [← hg] at hk; cases hk
  · rw [← hg] at hk; injection hk with hk; subst hk; exact lt_heap hr
theorem OwnT.st {S : Nat → Prop} {w : World} {l : List T} {v : Value} {g : Option Nat} (h : OwnT S w l v g) : ST S w l v := by
  obtain ⟨vs, h1, h2, h3, h4⟩ := h
  exact ST.of_own h1 (h2.keep (S' := S) (Fr.refl nob w) (fun _ _ x => x.elim) (fun _ _ x => .inl x)) (fun k hk => h4 k (by rw [← h3, hk]))

theorem info_T : (Tryz.prog.info? 32).map (fun i => (i.zero, i.size, i.bytes)) = some (some (.agg #[.int .i64 0, .int .u64 0, .int .u64 0, .int .u64 0, .int .u64 0, .slice none 0 0, .int .i64 0, .int .i64 0, .int .i64 0]), 9, 88) := by kernel_rfl

theorem run_append_zero {P : Program} {w : World} (base : Nat) (t ty e : TypeId) (i : TypeInfo) (size : Nat) (ht : P.underlying t = some (.slice e)) (hi : P.info? e = some i)
    (v : Value) (n : Nat) (xs : List Value) (hown : w.ownsRow base e size v n xs) (a : Option Addr) (c : Nat) :
    (Builtin.append_ #[t, t] ty #[v, .slice a 0 c]).run P w = .ok v w := by
  rcases hown.2 with ⟨rfl, rfl⟩ | ⟨g, cap, cur, rfl, _, _, hnc, _⟩
  · cases a <;> simp [Builtin.append_, run_underlying ht, sizeOf, typeInfo, hi, Builtin.lenOf, Builtin.firstCells, loadCells, loadCellsFrom]
  · cases a <;> simp [Builtin.append_, run_underlying ht, sizeOf, typeInfo, hi, Builtin.lenOf, Builtin.firstCells, hnc, storeCells, loadCells, loadCellsFrom]

theorem wpList_append_t {S : Nat → Prop} {w : World} {ops : Array Oper} {rest : List Oper} {o : Oper} {a : Act} {Q : Exit → Act → World → Prop} (hgd : o.guard = none) (s x : Operand)
    (ho : o.op = .call { callee := .builtin .append, args := #[s, x], argTypes := #[30, 30] })
    (l m : List T) (v ux : Value) (g : Option Nat) (hs : a.eval s = v) (hown : OwnT S w l v g) (hx : a.eval x = ux) (hm : ST (LS2 S g) w m ux) (hS : ∀ k, S k → k < w.heap.size) (hb : l.length + m.length ≤ 3000000)
    (h : ∀ v' w' g', OwnT S w' (l ++ m) v' g' → Fr (fun k => g = some k) w w' → (∀ k, g' = some k → g = some k ∨ w.heap.size ≤ k) → wpList Tryz.prog ops Q rest (a.put o.dst v') w') : wpList Tryz.prog ops Q (o :: rest) a w := by
  obtain ⟨i0, hi, hz0, hz1, hz2⟩ := info_parts info_T
  obtain ⟨vs, h1, h2, h3, h4⟩ := hown
  rcases hm with ⟨⟨ax, cx, rfl⟩, rfl⟩ | ⟨q, off, cap, rfl, _, hm⟩
  · refine wpList_plain hgd fun K hK => ?_
    have hr := run_append_zero (P := Tryz.prog) (w := w) 0 30 o.type 32 i0 9 Tryz.underlying30 hi v l.length vs h1 ax cx
    unfold Oper.wp execOp
    simp only [ho, resolve, invoke, builtin, Sem.run_bind, Sem.run_pure, Result.andThen_ok, List.map_toArray, List.map_cons, List.map_nil, hs, hx, hr]
    exact hK _ _ (h v w g (by rw [List.append_nil]; exact ⟨vs, h1, h2, h3, h4⟩) (Fr.refl _ _) (fun k hk => .inl hk))
  · obtain ⟨us, hu, ha⟩ := RTs.vals hm
    have hul := hu.length
    refine wpList_append_g hgd s x _ ho 32 i0 _ 9 88 Tryz.underlying30 hi hz0 hz1 hz2 rfl (by decide) v l.length vs hs h1 ⟨q, off, none⟩ m.length cap us hx (by omega) (fun j u hj => by have := ha j u hj; by_cases hj0 : j = 0 <;> simpa [Addr.add, hj0] using this) hu.cell1 (by unfold maxLen; omega) (by omega) ?_
    intro v' w' hown' hap
    have hold : ∀ k, v'.ownBlock = some k → g = some k ∨ w.heap.size ≤ k := fun k hk => by
      rcases hap.old k hk with h | h
      · exact .inl (by rw [← h3, h])
      · exact .inr h
    have hfr : Fr (fun k => g = some k) w w' := hap.fr.mono fun k _ hk => by rw [← h3, hk]
    refine h v' w' v'.ownBlock ⟨vs ++ us, by simpa using hown', (VT.append h2 hu).keep hfr (fun _ _ x => .inr x) ?_, rfl, ?_⟩ hfr hold
    · intro k hk x
      rcases x with x | x
      · exact .inl x
      · rcases hold k x with e | e
        · exact .inr e
        · omega
    · intro k hk hsk
      rcases hold k hk with e | e
      · exact h4 k e hsk
      · have := hS k hsk; omega

mutual
/-- The program's node as the document's. -/
def Nd.rf : Nd → T
  | .nil => T.zero
  | .empty => T.zero
  | .one s => .mk 1 s [] 0 0 0
  | .cat l => .mk 2 S4.zero (Nd.rfs l) 0 0 0
  | .alt l => .mk 3 S4.zero (Nd.rfs l) 0 0 0
  | .rep x mn mx => .mk 4 S4.zero [x.rf] mn mx 0
  | .group n x => .mk 5 S4.zero [x.rf] 0 0 n
  | .back n => .mk 6 S4.zero [] 0 0 n
  | .start => .mk 7 S4.zero [] 0 0 0
  | .fin => .mk 8 S4.zero [] 0 0 0
def Nd.rfs : List Nd → List T
  | [] => []
  | t :: ts => t.rf :: Nd.rfs ts
end
theorem Nd.rfs_eq (l : List Nd) : Nd.rfs l = l.map Nd.rf := by
  induction l with
  | nil => rfl
  | cons t ts ih => simp only [Nd.rfs, List.map_cons, ih]
mutual
theorem Nd.rf_nd : ∀ n : Nd, n.rf.nd = n.norm
  | .nil | .empty | .one _ | .back _ | .start | .fin => by simp [Nd.rf, T.zero, T.nd, Nd.norm]
  | .cat l => by simp [Nd.rf, T.nd, Nd.norm, Nd.rfs_nd l]
  | .alt l => by simp [Nd.rf, T.nd, Nd.norm, Nd.rfs_nd l]
  | .rep x _ _ => by simp [Nd.rf, T.nd, Nd.norm, T.nd1, Nd.rf_nd x]
  | .group _ x => by simp [Nd.rf, T.nd, Nd.norm, T.nd1, Nd.rf_nd x]
theorem Nd.rfs_nd : ∀ l : List Nd, T.nds (Nd.rfs l) = Nd.norms l
  | [] => rfl
  | t :: ts => by simp only [Nd.rfs, T.nds, Nd.norms, Nd.rf_nd t, Nd.rfs_nd ts]
end
mutual
theorem Nd.rf_known : ∀ n : Nd, n.rf.known = true
  | .nil | .empty | .one _ | .back _ | .start | .fin => by simp [Nd.rf, T.zero, T.known, T.knowns]
  | .cat l => by simp [Nd.rf, T.known, Nd.rfs_known l]
  | .alt l => by simp [Nd.rf, T.known, Nd.rfs_known l]
  | .rep x _ _ => by simp [Nd.rf, T.known, T.knowns, Nd.rf_known x]
  | .group _ x => by simp [Nd.rf, T.known, T.knowns, Nd.rf_known x]
theorem Nd.rfs_known : ∀ l : List Nd, T.knowns (Nd.rfs l) = true
  | [] => rfl
  | t :: ts => by simp only [Nd.rfs, T.knowns, Nd.rf_known t, Nd.rfs_known ts, Bool.and_self]
end
mutual
theorem Nd.norm_size : ∀ n : Nd, n.norm.size = n.size
  | .nil | .empty | .one _ | .back _ | .start | .fin => by simp [Nd.norm, Nd.size]
  | .cat l => by simp [Nd.norm, Nd.size, Nd.norms_size l]
  | .alt l => by simp [Nd.norm, Nd.size, Nd.norms_size l]
  | .rep x _ _ => by simp [Nd.norm, Nd.size, Nd.norm_size x]
  | .group _ x => by simp [Nd.norm, Nd.size, Nd.norm_size x]
theorem Nd.norms_size : ∀ l : List Nd, Nd.sizes (Nd.norms l) = Nd.sizes l
  | [] => rfl
  | t :: ts => by simp only [Nd.norms, Nd.sizes, Nd.norm_size t, Nd.norms_size ts]
end
theorem Nd.rfs_take {l : List Nd} {k : Nat} (h : k < l.length) : Nd.rfs (l.take (k + 1)) = Nd.rfs (l.take k) ++ [l[k].rf] := by
  simp only [Nd.rfs_eq]; rw [List.take_succ_eq_append_getElem h, List.map_append]; rfl
theorem Nd.rfs_length (l : List Nd) : (Nd.rfs l).length = l.length := by rw [Nd.rfs_eq, List.length_map]

end Go.Proofs.YtlchaocpejfikaaGreatDoor

/-
  Walks: list, Ref: the program's node as the document's.
-/
namespace Go.Proofs.YtlchaocpejfikaaGreatDoor
open Go.RowKit
attribute [local go_sem ↓] Go.wp_at_zero Go.wp_at_succ

/-- What Ref answers. -/
def RefIs (n : Nd) (w : World) (e : Ending) (w' : World) : Prop := ∃ cs, e = .returned (.agg cs.toArray) ∧ RT (Old w) w' n.rf cs ∧ Fr nob w w'

theorem new_of' {w wr w2 : World} {g : Option Nat} (h2 : w.heap.size ≤ wr.heap.size) (hg : ∀ k, g = some k → k < wr.heap.size) :
    ∀ k, k < w2.heap.size → LS2 (Old w) g k → Old wr k := by
  intro k _ hk
  unfold Old
  rcases hk with hk | hk
  · unfold Old at hk; omega
  · exact hg k hk

/-- Nine cells stored anew. -/
abbrev setNine (w : World) (b : Nat) (v0 v1 v2 v3 v4 v5 v6 v7 v8 : Value) : World :=
  ((((((((w.setCell ⟨b, 0, none⟩ v0).setCell ⟨b, 1, none⟩ v1).setCell ⟨b, 2, none⟩ v2).setCell ⟨b, 3, none⟩ v3).setCell ⟨b, 4, none⟩ v4).setCell ⟨b, 5, none⟩ v5).setCell ⟨b, 6, none⟩ v6).setCell ⟨b, 7, none⟩ v7).setCell ⟨b, 8, none⟩ v8
theorem setNine_heap {w : World} {b : Nat} {a0 a1 a2 a3 a4 a5 a6 a7 a8 : Value} {T : TypeId} {fr : Nat × Nat} (h : w.heap[b]? = some (.cells #[a0, a1, a2, a3, a4, a5, a6, a7, a8] T fr)) (v0 v1 v2 v3 v4 v5 v6 v7 v8 : Value) :
    (setNine w b v0 v1 v2 v3 v4 v5 v6 v7 v8).heap[b]? = some (.cells #[v0, v1, v2, v3, v4, v5, v6, v7, v8] T fr) := by
  have h0 : (w.setCell ⟨b, 0, none⟩ v0).heap[b]? = some (.cells #[v0, a1, a2, a3, a4, a5, a6, a7, a8] T fr) := heap_setCell_at h 0 v0
  have h1 : ((w.setCell ⟨b, 0, none⟩ v0).setCell ⟨b, 1, none⟩ v1).heap[b]? = some (.cells #[v0, v1, a2, a3, a4, a5, a6, a7, a8] T fr) := heap_setCell_at h0 1 v1
  have h2 : (((w.setCell ⟨b, 0, none⟩ v0).setCell ⟨b, 1, none⟩ v1).setCell ⟨b, 2, none⟩ v2).heap[b]? = some (.cells #[v0, v1, v2, a3, a4, a5, a6, a7, a8] T fr) := heap_setCell_at h1 2 v2
  have h3 : ((((w.setCell ⟨b, 0, none⟩ v0).setCell ⟨b, 1, none⟩ v1).setCell ⟨b, 2, none⟩ v2).setCell ⟨b, 3, none⟩ v3).heap[b]? = some (.cells #[v0, v1, v2, v3, a4, a5, a6, a7, a8] T fr) := heap_setCell_at h2 3 v3
  have h4 : (((((w.setCell ⟨b, 0, none⟩ v0).setCell ⟨b, 1, none⟩ v1).setCell ⟨b, 2, none⟩ v2).setCell ⟨b, 3, none⟩ v3).setCell ⟨b, 4, none⟩ v4).heap[b]? = some (.cells #[v0, v1, v2, v3, v4, a5, a6, a7, a8] T fr) := heap_setCell_at h3 4 v4
  have h5 : ((((((w.setCell ⟨b, 0, none⟩ v0).setCell ⟨b, 1, none⟩ v1).setCell ⟨b, 2, none⟩ v2).setCell ⟨b, 3, none⟩ v3).setCell ⟨b, 4, none⟩ v4).setCell ⟨b, 5, none⟩ v5).heap[b]? = some (.cells #[v0, v1, v2, v3, v4, v5, a6, a7, a8] T fr) := heap_setCell_at h4 5 v5
  have h6 : (((((((w.setCell ⟨b, 0, none⟩ v0).setCell ⟨b, 1, none⟩ v1).setCell ⟨b, 2, none⟩ v2).setCell ⟨b, 3, none⟩ v3).setCell ⟨b, 4, none⟩ v4).setCell ⟨b, 5, none⟩ v5).setCell ⟨b, 6, none⟩ v6).heap[b]? = some (.cells #[v0, v1, v2, v3, v4, v5, v6, a7, a8] T fr) := heap_setCell_at h5 6 v6
  have h7 : ((((((((w.setCell ⟨b, 0, none⟩ v0).setCell ⟨b, 1, none⟩ v1).setCell ⟨b, 2, none⟩ v2).setCell ⟨b, 3, none⟩ v3).setCell ⟨b, 4, none⟩ v4).setCell ⟨b, 5, none⟩ v5).setCell ⟨b, 6, none⟩ v6).setCell ⟨b, 7, none⟩ v7).heap[b]? = some (.cells #[v0, v1, v2, v3, v4, v5, v6, v7, a8] T fr) := heap_setCell_at h6 7 v7
  have h8 : (((((((((w.setCell ⟨b, 0, none⟩ v0).setCell ⟨b, 1, none⟩ v1).setCell ⟨b, 2, none⟩ v2).setCell ⟨b, 3, none⟩ v3).setCell ⟨b, 4, none⟩ v4).setCell ⟨b, 5, none⟩ v5).setCell ⟨b, 6, none⟩ v6).setCell ⟨b, 7, none⟩ v7).setCell ⟨b, 8, none⟩ v8).heap[b]? = some (.cells #[v0, v1, v2, v3, v4, v5, v6, v7, v8] T fr) := heap_setCell_at h7 8 v8
  exact h8
theorem setNine_fr {w a : World} {b : Nat} (f : Fr nob a w) (hb : a.heap.size ≤ b) (v0 v1 v2 v3 v4 v5 v6 v7 v8 : Value) : Fr nob a (setNine w b v0 v1 v2 v3 v4 v5 v6 v7 v8) := by
  have h : ∀ (x : World) (j : Nat) (v : Value), Fr nob a x → Fr nob a (x.setCell ⟨b, j, none⟩ v) := fun x j v hx => hx.setCell (p := ⟨b, j, none⟩) (fun h => absurd h (Nat.not_lt.2 hb)) v
  exact h _ _ _ (h _ _ _ (h _ _ _ (h _ _ _ (h _ _ _ (h _ _ _ (h _ _ _ (h _ _ _ (h _ _ _ f))))))))
theorem setNine_one {w : World} {b : Nat} (v0 v1 v2 v3 v4 v5 v6 v7 v8 : Value) : Fr (fun k => k = b) w (setNine w b v0 v1 v2 v3 v4 v5 v6 v7 v8) := by
  have h : ∀ (x : World) (j : Nat) (v : Value), Fr (fun k => k = b) w x → Fr (fun k => k = b) w (x.setCell ⟨b, j, none⟩ v) := fun x j v hx => hx.setCell (p := ⟨b, j, none⟩) (fun _ => rfl) v
  exact h _ _ _ (h _ _ _ (h _ _ _ (h _ _ _ (h _ _ _ (h _ _ _ (h _ _ _ (h _ _ _ (h _ _ _ (Fr.refl _ w)))))))))

theorem setNine_size {w : World} {b : Nat} (v0 v1 v2 v3 v4 v5 v6 v7 v8 : Value) : (setNine w b v0 v1 v2 v3 v4 v5 v6 v7 v8).heap.size = w.heap.size := by
  simp [World.setCell]

/-- Nine cells that are there and may be written. -/
theorem there9 {w : World} {b : Nat} {a0 a1 a2 a3 a4 a5 a6 a7 a8 : Value} {T : TypeId} (h : w.heap[b]? = some (.cells #[a0, a1, a2, a3, a4, a5, a6, a7, a8] T (0, 0))) :
    (w.frozen? ⟨b, 0, none⟩ = false ∧ w.frozen? ⟨b, 1, none⟩ = false ∧ w.frozen? ⟨b, 2, none⟩ = false ∧ w.frozen? ⟨b, 3, none⟩ = false ∧ w.frozen? ⟨b, 4, none⟩ = false ∧ w.frozen? ⟨b, 5, none⟩ = false ∧ w.frozen? ⟨b, 6, none⟩ = false ∧ w.frozen? ⟨b, 7, none⟩ = false ∧ w.frozen? ⟨b, 8, none⟩ = false) :=
  ⟨unfrozen_at h _, unfrozen_at h _, unfrozen_at h _, unfrozen_at h _, unfrozen_at h _, unfrozen_at h _, unfrozen_at h _, unfrozen_at h _, unfrozen_at h _⟩

/-- Three cells; two. -/
abbrev C3 (w : World) (b : Nat) (v0 v1 v2 : Value) : Prop := w.cell? ⟨b, 0, none⟩ = some v0 ∧ w.cell? ⟨b, 1, none⟩ = some v1 ∧ w.cell? ⟨b, 2, none⟩ = some v2
abbrev C2 (w : World) (b : Nat) (v0 v1 : Value) : Prop := w.cell? ⟨b, 0, none⟩ = some v0 ∧ w.cell? ⟨b, 1, none⟩ = some v1
theorem C3.on {w w' : World} {b : Nat} {v0 v1 v2 : Value} (h : C3 w b v0 v1 v2) (f : Fr nob w w') : C3 w' b v0 v1 v2 := ⟨f.cell h.1 (fun x => x), f.cell h.2.1 (fun x => x), f.cell h.2.2 (fun x => x)⟩
theorem C2.on {w w' : World} {b : Nat} {v0 v1 : Value} (h : C2 w b v0 v1) (f : Fr nob w w') : C2 w' b v0 v1 := ⟨f.cell h.1 (fun x => x), f.cell h.2 (fun x => x)⟩
theorem C3.set {w : World} {b c : Nat} {v0 v1 v2 : Value} (h : C3 w b v0 v1 v2) (hn : ¬ b = c) (u0 u1 u2 u3 u4 u5 u6 u7 u8 : Value) : C3 (setNine w c u0 u1 u2 u3 u4 u5 u6 u7 u8) b v0 v1 v2 :=
  ⟨Fr.cell (setNine_one u0 u1 u2 u3 u4 u5 u6 u7 u8) h.1 hn, Fr.cell (setNine_one u0 u1 u2 u3 u4 u5 u6 u7 u8) h.2.1 hn, Fr.cell (setNine_one u0 u1 u2 u3 u4 u5 u6 u7 u8) h.2.2 hn⟩
theorem C2.set {w : World} {b c : Nat} {v0 v1 : Value} (h : C2 w b v0 v1) (hn : ¬ b = c) (u0 u1 u2 u3 u4 u5 u6 u7 u8 : Value) : C2 (setNine w c u0 u1 u2 u3 u4 u5 u6 u7 u8) b v0 v1 :=
  ⟨Fr.cell (setNine_one u0 u1 u2 u3 u4 u5 u6 u7 u8) h.1 hn, Fr.cell (setNine_one u0 u1 u2 u3 u4 u5 u6 u7 u8) h.2 hn⟩
theorem C3.of {w : World} {b : Nat} {v0 v1 v2 : Value} {T : TypeId} {fr : Nat × Nat} (h : w.heap[b]? = some (.cells #[v0, v1, v2] T fr)) : C3 w b v0 v1 v2 := ⟨cell_at h rfl, cell_at h rfl, cell_at h rfl⟩
theorem C2.of {w : World} {b : Nat} {v0 v1 : Value} {T : TypeId} {fr : Nat × Nat} (h : w.heap[b]? = some (.cells #[v0, v1] T fr)) : C2 w b v0 v1 := ⟨cell_at h rfl, cell_at h rfl⟩

/-- Is a node the document's? -/
def IsT (n : Nd) (t : T) (w : World) (e : Ending) (w' : World) : Prop := ∃ r : Bool, e = .returned (.bool r) ∧ (r = true ↔ n.norm = t.nd) ∧ Fr nob w w'

end Go.Proofs.YtlchaocpejfikaaGreatDoor
