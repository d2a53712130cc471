/-
  Merged texts of this claim: RefH, RefF, RefI, RefJ.
-/
import Derived.Deep.RegionHeld3
import Derived.StillTailTactics
import Derived.Deep.DrawnRows
import Derived.Test.YtmoeboknelnaoaaGreatDoorM13
import Derived.Test.YtmoeboknelnaoaaGreatDoorM18

/-
  A call's own slice of the document's nodes, and append to it. Walks: list, Ref; Join, Choose of the document.
-/
namespace Go.Proofs.YtmoeboknelnaoaaGreatDoor
open Go.RowKit

/-- Nodes' cells, one behind the other. -/
def VT (S : Nat → Prop) (w : World) : List T → List Value → Prop
  | [], vs => vs = []
  | t :: ts, vs => ∃ cs r, vs = cs ++ r ∧ cs.length = 9 ∧ RT S w t cs ∧ VT S w ts r

theorem RT.length {S : Nat → Prop} {w : World} {t : T} {cs : List Value} (h : RT S w t cs) : cs.length = 9 := by
  obtain ⟨k, s, ps, mn, mx, nu, a, c, _, rfl, _⟩ := h.open'; rfl
theorem VT.length {S : Nat → Prop} {w : World} : ∀ {l : List T} {vs : List Value}, VT S w l vs → vs.length = l.length * 9
  | [], _, h => by rw [VT] at h; subst h; rfl
  | t :: ts, _, h => by rw [VT] at h; obtain ⟨cs, r, rfl, hl, _, h⟩ := h; rw [List.length_append, hl, VT.length h, List.length_cons]; omega
theorem VT.append {S : Nat → Prop} {w : World} : ∀ {l m : List T} {vs us : List Value}, VT S w l vs → VT S w m us → VT S w (l ++ m) (vs ++ us)
  | [], _, _, _, h, k => by rw [VT] at h; subst h; exact k
  | t :: ts, _, _, _, h, k => by rw [VT] at h; obtain ⟨cs, r, rfl, hl, h1, h⟩ := h; exact ⟨cs, _, by rw [List.append_assoc], hl, h1, VT.append h k⟩
theorem VT.keep {S X S' : Nat → Prop} {w w' : World} (hf : Fr X w w') (hX : ∀ k, k < w.heap.size → X k → S k) (hS : ∀ k, k < w.heap.size → S' k → S k) : ∀ {l : List T} {vs : List Value}, VT S w l vs → VT S' w' l vs
  | [], _, h => by rw [VT] at h ⊢; exact h
  | t :: ts, _, h => by rw [VT] at h ⊢; obtain ⟨cs, r, rfl, hl, h1, h⟩ := h; exact ⟨cs, r, rfl, hl, RT.keep hf hX hS _ _ h1, VT.keep hf hX hS h⟩
theorem RT.cell1 {S : Nat → Prop} {w : World} {t : T} {cs : List Value} (h : RT S w t cs) : ∀ u ∈ cs, u.oneCell' = true := by
  obtain ⟨k, s, ps, mn, mx, nu, a, c, _, rfl, _⟩ := h.open'
  intro u hu
  simp only [List.mem_cons, List.not_mem_nil, or_false] at hu
  rcases hu with rfl | rfl | rfl | rfl | rfl | rfl | rfl | rfl | rfl <;> rfl
theorem VT.cell1 {S : Nat → Prop} {w : World} : ∀ {l : List T} {vs : List Value}, VT S w l vs → ∀ u ∈ vs, u.oneCell' = true
  | [], _, h, u, hu => by rw [VT] at h; subst h; cases hu
  | t :: ts, _, h, u, hu => by
    rw [VT] at h; obtain ⟨cs, r, rfl, hl, h1, h⟩ := h
    rcases List.mem_append.1 hu with hu | hu
    · exact h1.cell1 u hu
    · exact VT.cell1 h u hu

theorem At.left {w : World} {g off : Nat} {a b : List Value} (h : At w g off (a ++ b)) : At w g off a := fun j v hj => h j v (by
  rw [List.getElem?_append_left (List.getElem?_eq_some_iff.1 hj).1]; exact hj)
theorem At.right {w : World} {g off : Nat} {a b : List Value} (h : At w g off (a ++ b)) : At w g (off + a.length) b := fun j v hj => by
  have := h (a.length + j) v (by rw [List.getElem?_append_right (by omega)]; simpa using hj)
  rwa [show off + (a.length + j) = off + a.length + j by omega] at this
theorem At.join {w : World} {g off : Nat} {a b : List Value} (h : At w g off a) (k : At w g (off + a.length) b) : At w g off (a ++ b) := fun j v hj => by
  by_cases hl : j < a.length
  · rw [List.getElem?_append_left hl] at hj; exact h j v hj
  · rw [List.getElem?_append_right (by omega)] at hj
    have := k (j - a.length) v hj
    rwa [show off + a.length + (j - a.length) = off + j by omega] at this

theorem RTs.of {S : Nat → Prop} {w : World} {g : Nat} (hg : ¬ S g) (hs : g < w.heap.size) : ∀ {l : List T} {vs : List Value} {off : Nat}, VT S w l vs → At w g off vs → RTs S w l g off
  | [], _, _, _, _ => by rw [RTs]; trivial
  | t :: ts, _, off, h, ha => by
    rw [VT] at h; obtain ⟨cs, r, rfl, hl, h1, h⟩ := h
    have hr := ha.right
    rw [hl] at hr
    rw [RTs]; exact ⟨hg, hs, ⟨cs, h1, ha.left⟩, RTs.of hg hs h hr⟩
theorem RTs.vals {S : Nat → Prop} {w : World} {g : Nat} : ∀ {l : List T} {off : Nat}, RTs S w l g off → ∃ vs, VT S w l vs ∧ At w g off vs
  | [], _, _ => ⟨[], rfl, fun j v hj => by simp at hj⟩
  | t :: ts, off, h => by
    rw [RTs] at h; obtain ⟨_, _, ⟨cs, h1, h2⟩, h⟩ := h
    obtain ⟨vs, hv, ha⟩ := RTs.vals h
    have hl := h1.length
    exact ⟨cs ++ vs, ⟨cs, vs, rfl, hl, h1, hv⟩, At.join h2 (by rw [hl]; exact ha)⟩

/-- A slice of the call's own that holds the document's nodes. -/
theorem ST.of_own {S : Nat → Prop} {w : World} {l : List T} {u : Value} {vs : List Value} {e : TypeId} (h : w.ownsRow 0 e 9 u l.length vs) (hv : VT S w l vs) (hS : ∀ k, u.ownBlock = some k → ¬ S k) : ST S w l u := by
  obtain ⟨_, h⟩ := h
  rcases h with ⟨rfl, h0⟩ | ⟨g, cap, cur, rfl, _, hg, hn, _, _, htake⟩
  · exact .inl ⟨⟨none, 0, rfl⟩, List.length_eq_zero_iff.1 h0⟩
  · refine .inr ⟨g, 0, cap, rfl, hn, RTs.of (hS g rfl) (lt_heap hg) hv ?_⟩
    intro j v hj
    rw [← htake, List.getElem?_take] at hj
    split at hj
    · exact cell_at hg (by simpa using hj)
    · cases hj

/-- A call's own slice of the document's nodes, all of them outside S. -/
def OwnT (S : Nat → Prop) (w : World) (l : List T) (v : Value) (g : Option Nat) : Prop := ∃ vs, w.ownsRow 0 39 9 v l.length vs ∧ VT (LS2 S g) w l vs ∧ v.ownBlock = g ∧ ∀ k, g = some k → ¬ S k

theorem OwnT.nil (S : Nat → Prop) (w : World) : OwnT S w [] (.slice none 0 0) none := ⟨[], World.ownsRow_nil _ _ _ _, rfl, rfl, fun _ h => by cases h⟩
theorem OwnT.shape {S : Nat → Prop} {w : World} {l : List T} {v : Value} {g : Option Nat} (h : OwnT S w l v g) : ∃ a c, v = .slice a l.length c := by
  obtain ⟨vs, h1, _⟩ := h; exact ownsRow_slice h1
theorem OwnT.on {S : Nat → Prop} {w w' : World} {l : List T} {v : Value} {g : Option Nat} (h : OwnT S w l v g) (f : Fr nob w w') : OwnT S w' l v g := by
  obtain ⟨vs, h1, h2, h3, h4⟩ := h
  exact ⟨vs, ownsRow_fr h1 f (fun _ _ x => x), h2.keep f (fun _ _ x => x.elim) (fun _ _ x => x), h3, h4⟩
theorem OwnT.lt {S : Nat → Prop} {w : World} {l : List T} {v : Value} {g : Option Nat} (h : OwnT S w l v g) : ∀ k, g = some k → k < w.heap.size := by
  intro k hk
  obtain ⟨vs, hown, _, hg, _⟩ := h
  rcases hown.2 with ⟨rfl, _⟩ | ⟨r, cap, cur, rfl, _, hr, _⟩
  · rw [← hg] at hk; cases hk
  · rw [← hg] at hk; injection hk with hk; subst hk; exact lt_heap hr
theorem OwnT.st {S : Nat → Prop} {w : World} {l : List T} {v : Value} {g : Option Nat} (h : OwnT S w l v g) : ST S w l v := by
  obtain ⟨vs, h1, h2, h3, h4⟩ := h
  exact ST.of_own h1 (h2.keep (S' := S) (Fr.refl nob w) (fun _ _ x => x.elim) (fun _ _ x => .inl x)) (fun k hk => h4 k (by rw [← h3, hk]))

theorem info_T : (Tryz.prog.info? 39).map (fun i => (i.zero, i.size, i.bytes)) = some (some (.agg #[.int .i64 0, .int .u64 0, .int .u64 0, .int .u64 0, .int .u64 0, .slice none 0 0, .int .i64 0, .int .i64 0, .int .i64 0]), 9, 88) := by kernel_rfl

theorem run_append_zero {P : Program} {w : World} (base : Nat) (t ty e : TypeId) (i : TypeInfo) (size : Nat) (ht : P.underlying t = some (.slice e)) (hi : P.info? e = some i)
    (v : Value) (n : Nat) (xs : List Value) (hown : w.ownsRow base e size v n xs) (a : Option Addr) (c : Nat) :
    (Builtin.append_ #[t, t] ty #[v, .slice a 0 c]).run P w = .ok v w := by
  rcases hown.2 with ⟨rfl, rfl⟩ | ⟨g, cap, cur, rfl, _, _, hnc, _⟩
  · cases a <;> simp [Builtin.append_, run_underlying ht, sizeOf, typeInfo, hi, Builtin.lenOf, Builtin.firstCells, loadCells, loadCellsFrom]
  · cases a <;> simp [Builtin.append_, run_underlying ht, sizeOf, typeInfo, hi, Builtin.lenOf, Builtin.firstCells, hnc, storeCells, loadCells, loadCellsFrom]

theorem wpList_append_t {S : Nat → Prop} {w : World} {ops : Array Oper} {rest : List Oper} {o : Oper} {a : Act} {Q : Exit → Act → World → Prop} (hgd : o.guard = none) (s x : Operand)
    (ho : o.op = .call { callee := .builtin .append, args := #[s, x], argTypes := #[37, 37] })
    (l m : List T) (v ux : Value) (g : Option Nat) (hs : a.eval s = v) (hown : OwnT S w l v g) (hx : a.eval x = ux) (hm : ST (LS2 S g) w m ux) (hS : ∀ k, S k → k < w.heap.size) (hb : l.length + m.length ≤ 3000000)
    (h : ∀ v' w' g', OwnT S w' (l ++ m) v' g' → Fr (fun k => g = some k) w w' → (∀ k, g' = some k → g = some k ∨ w.heap.size ≤ k) → wpList Tryz.prog ops Q rest (a.put o.dst v') w') : wpList Tryz.prog ops Q (o :: rest) a w := by
  obtain ⟨i0, hi, hz0, hz1, hz2⟩ := info_parts info_T
  obtain ⟨vs, h1, h2, h3, h4⟩ := hown
  rcases hm with ⟨⟨ax, cx, rfl⟩, rfl⟩ | ⟨q, off, cap, rfl, _, hm⟩
  · refine wpList_plain hgd fun K hK => ?_
    have hr := run_append_zero (P := Tryz.prog) (w := w) 0 37 o.type 39 i0 9 Tryz.underlying37 hi v l.length vs h1 ax cx
    unfold Oper.wp execOp
    simp only [ho, resolve, invoke, builtin, Sem.run_bind, Sem.run_pure, Result.andThen_ok, List.map_toArray, List.map_cons, List.map_nil, hs, hx, hr]
    exact hK _ _ (h v w g (by rw [List.append_nil]; exact ⟨vs, h1, h2, h3, h4⟩) (Fr.refl _ _) (fun k hk => .inl hk))
  · obtain ⟨us, hu, ha⟩ := RTs.vals hm
    have hul := hu.length
    refine wpList_append_g hgd s x _ ho 39 i0 _ 9 88 Tryz.underlying37 hi hz0 hz1 hz2 rfl (by decide) v l.length vs hs h1 ⟨q, off, none⟩ m.length cap us hx (by omega) (fun j u hj => by have := ha j u hj; by_cases hj0 : j = 0 <;> simpa [Addr.add, hj0] using this) hu.cell1 (by unfold maxLen; omega) (by omega) ?_
    intro v' w' hown' hap
    have hold : ∀ k, v'.ownBlock = some k → g = some k ∨ w.heap.size ≤ k := fun k hk => by
      rcases hap.old k hk with h | h
      · exact .inl (by rw [← h3, h])
      · exact .inr h
    have hfr : Fr (fun k => g = some k) w w' := hap.fr.mono fun k _ hk => by rw [← h3, hk]
    refine h v' w' v'.ownBlock ⟨vs ++ us, by simpa using hown', (VT.append h2 hu).keep hfr (fun _ _ x => .inr x) ?_, rfl, ?_⟩ hfr hold
    · intro k hk x
      rcases x with x | x
      · exact .inl x
      · rcases hold k x with e | e
        · exact .inr e
        · omega
    · intro k hk hsk
      rcases hold k hk with e | e
      · exact h4 k e hsk
      · have := hS k hsk; omega

end Go.Proofs.YtmoeboknelnaoaaGreatDoor

/-
  Walks over the document's nodes: Same; right, Right.
-/
namespace Go.Proofs.YtmoeboknelnaoaaGreatDoor
open Go.RowKit

/-- A kind's number. -/
def Nd.kd : Nd → Int
  | .nil => 0
  | .empty => 0
  | .one _ => 1
  | .cat _ => 2
  | .alt _ => 3
  | .rep _ _ _ => 4
  | .group _ _ => 5
  | .back _ => 6
  | .start => 7
  | .fin => 8

theorem T.known_kd {k : Int} {s : S4} {ps : List T} {mn mx nu : Int} (h : (T.mk k s ps mn mx nu).known = true) : (k = 0 ∨ k = 1 ∨ k = 2 ∨ k = 3 ∨ k = 4 ∨ k = 5 ∨ k = 6 ∨ k = 7 ∨ k = 8) ∧ T.knowns ps = true := by
  simp only [T.known, Bool.and_eq_true, Bool.not_eq_true', Bool.or_eq_false_iff, decide_eq_false_iff_not] at h
  exact ⟨by omega, h.2⟩
/-- Two nodes of one kind: their own parts. -/
def headSame (k : Int) (s : S4) (mn mx nu : Int) (s' : S4) (mn' mx' nu' : Int) : Prop :=
  (k = 1 → s = s') ∧ (k = 4 → mn = mn' ∧ mx = mx') ∧ (k = 5 ∨ k = 6 → nu = nu')
theorem T.same_iff {k : Int} {s : S4} {ps : List T} {mn mx nu : Int} {s' : S4} {ps' : List T} {mn' mx' nu' : Int} (h : (T.mk k s ps mn mx nu).known = true) :
    (T.mk k s ps mn mx nu).nd = (T.mk k s' ps' mn' mx' nu').nd ↔ headSame k s mn mx nu s' mn' mx' nu' ∧ (T.mk k s ps mn mx nu).nd.kids = (T.mk k s' ps' mn' mx' nu').nd.kids := by
  rcases (T.known_kd h).1 with rfl | rfl | rfl | rfl | rfl | rfl | rfl | rfl | rfl <;> simp [T.nd, headSame, Nd.kids]
  · constructor
    · rintro ⟨a, b, c⟩; exact ⟨⟨b, c⟩, a⟩
    · rintro ⟨⟨b, c⟩, a⟩; exact ⟨a, b, c⟩
/-- Nine cells of a variable that holds a node. -/
abbrev C9 (w : World) (b : Nat) (v0 v1 v2 v3 v4 v5 v6 v7 v8 : Value) : Prop :=
  w.cell? ⟨b, 0, none⟩ = some v0 ∧ w.cell? ⟨b, 1, none⟩ = some v1 ∧ w.cell? ⟨b, 2, none⟩ = some v2 ∧ w.cell? ⟨b, 3, none⟩ = some v3 ∧ w.cell? ⟨b, 4, none⟩ = some v4 ∧ w.cell? ⟨b, 5, none⟩ = some v5 ∧ w.cell? ⟨b, 6, none⟩ = some v6 ∧ w.cell? ⟨b, 7, none⟩ = some v7 ∧ w.cell? ⟨b, 8, none⟩ = some v8
theorem C9.on {w w' : World} {b : Nat} {v0 v1 v2 v3 v4 v5 v6 v7 v8 : Value} (h : C9 w b v0 v1 v2 v3 v4 v5 v6 v7 v8) (f : Fr nob w w') : C9 w' b v0 v1 v2 v3 v4 v5 v6 v7 v8 := by
  obtain ⟨h0, h1, h2, h3, h4, h5, h6, h7, h8⟩ := h
  exact ⟨f.cell h0 (fun x => x), f.cell h1 (fun x => x), f.cell h2 (fun x => x), f.cell h3 (fun x => x), f.cell h4 (fun x => x), f.cell h5 (fun x => x), f.cell h6 (fun x => x), f.cell h7 (fun x => x), f.cell h8 (fun x => x)⟩
theorem C9.of {w : World} {b : Nat} {v0 v1 v2 v3 v4 v5 v6 v7 v8 : Value} {T : TypeId} {fr : Nat × Nat} (h : w.heap[b]? = some (.cells #[v0, v1, v2, v3, v4, v5, v6, v7, v8] T fr)) : C9 w b v0 v1 v2 v3 v4 v5 v6 v7 v8 :=
  ⟨cell_at h rfl, cell_at h rfl, cell_at h rfl, cell_at h rfl, cell_at h rfl, cell_at h rfl, cell_at h rfl, cell_at h rfl, cell_at h rfl⟩

theorem C9.two {w w' : World} {b : Nat} {v0 v1 v2 v3 v4 v5 v6 v7 v8 : Value} {c : Nat} {u0 u1 u2 u3 u4 u5 u6 u7 u8 : Value} (h : C9 w b v0 v1 v2 v3 v4 v5 v6 v7 v8 ∧ C9 w c u0 u1 u2 u3 u4 u5 u6 u7 u8) (f : Fr nob w w') :
    C9 w' b v0 v1 v2 v3 v4 v5 v6 v7 v8 ∧ C9 w' c u0 u1 u2 u3 u4 u5 u6 u7 u8 := ⟨C9.on h.1 f, C9.on h.2 f⟩

end Go.Proofs.YtmoeboknelnaoaaGreatDoor

/-
  Walks: list, Ref: the program's node as the document's.
-/
namespace Go.Proofs.YtmoeboknelnaoaaGreatDoor
open Go.RowKit
attribute [local go_sem ↓] Go.wp_at_zero Go.wp_at_succ

/-- Nine cells stored anew. -/
abbrev setNine (w : World) (b : Nat) (v0 v1 v2 v3 v4 v5 v6 v7 v8 : Value) : World :=
  ((((((((w.setCell ⟨b, 0, none⟩ v0).setCell ⟨b, 1, none⟩ v1).setCell ⟨b, 2, none⟩ v2).setCell ⟨b, 3, none⟩ v3).setCell ⟨b, 4, none⟩ v4).setCell ⟨b, 5, none⟩ v5).setCell ⟨b, 6, none⟩ v6).setCell ⟨b, 7, none⟩ v7).setCell ⟨b, 8, none⟩ v8
theorem setNine_heap {w : World} {b : Nat} {a0 a1 a2 a3 a4 a5 a6 a7 a8 : Value} {T : TypeId} {fr : Nat × Nat} (h : w.heap[b]? = some (.cells #[a0, a1, a2, a3, a4, a5, a6, a7, a8] T fr)) (v0 v1 v2 v3 v4 v5 v6 v7 v8 : Value) :
    (setNine w b v0 v1 v2 v3 v4 v5 v6 v7 v8).heap[b]? = some (.cells #[v0, v1, v2, v3, v4, v5, v6, v7, v8] T fr) := by
  have h0 : (w.setCell ⟨b, 0, none⟩ v0).heap[b]? = some (.cells #[v0, a1, a2, a3, a4, a5, a6, a7, a8] T fr) := heap_setCell_at h 0 v0
  have h1 : ((w.setCell ⟨b, 0, none⟩ v0).setCell ⟨b, 1, none⟩ v1).heap[b]? = some (.cells #[v0, v1, a2, a3, a4, a5, a6, a7, a8] T fr) := heap_setCell_at h0 1 v1
  have h2 : (((w.setCell ⟨b, 0, none⟩ v0).setCell ⟨b, 1, none⟩ v1).setCell ⟨b, 2, none⟩ v2).heap[b]? = some (.cells #[v0, v1, v2, a3, a4, a5, a6, a7, a8] T fr) := heap_setCell_at h1 2 v2
  have h3 : ((((w.setCell ⟨b, 0, none⟩ v0).setCell ⟨b, 1, none⟩ v1).setCell ⟨b, 2, none⟩ v2).setCell ⟨b, 3, none⟩ v3).heap[b]? = some (.cells #[v0, v1, v2, v3, a4, a5, a6, a7, a8] T fr) := heap_setCell_at h2 3 v3
  have h4 : (((((w.setCell ⟨b, 0, none⟩ v0).setCell ⟨b, 1, none⟩ v1).setCell ⟨b, 2, none⟩ v2).setCell ⟨b, 3, none⟩ v3).setCell ⟨b, 4, none⟩ v4).heap[b]? = some (.cells #[v0, v1, v2, v3, v4, a5, a6, a7, a8] T fr) := heap_setCell_at h3 4 v4
  have h5 : ((((((w.setCell ⟨b, 0, none⟩ v0).setCell ⟨b, 1, none⟩ v1).setCell ⟨b, 2, none⟩ v2).setCell ⟨b, 3, none⟩ v3).setCell ⟨b, 4, none⟩ v4).setCell ⟨b, 5, none⟩ v5).heap[b]? = some (.cells #[v0, v1, v2, v3, v4, v5, a6, a7, a8] T fr) := heap_setCell_at h4 5 v5
  have h6 : (((((((w.setCell ⟨b, 0, none⟩ v0).setCell ⟨b, 1, none⟩ v1).setCell ⟨b, 2, none⟩ v2).setCell ⟨b, 3, none⟩ v3).setCell ⟨b, 4, none⟩ v4).setCell ⟨b, 5, none⟩ v5).setCell ⟨b, 6, none⟩ v6).heap[b]? = some (.cells #[v0, v1, v2, v3, v4, v5, v6, a7, a8] T fr) := heap_setCell_at h5 6 v6
  have h7 : ((((((((w.setCell ⟨b, 0, none⟩ v0).setCell ⟨b, 1, none⟩ v1).setCell ⟨b, 2, none⟩ v2).setCell ⟨b, 3, none⟩ v3).setCell ⟨b, 4, none⟩ v4).setCell ⟨b, 5, none⟩ v5).setCell ⟨b, 6, none⟩ v6).setCell ⟨b, 7, none⟩ v7).heap[b]? = some (.cells #[v0, v1, v2, v3, v4, v5, v6, v7, a8] T fr) := heap_setCell_at h6 7 v7
  have h8 : (((((((((w.setCell ⟨b, 0, none⟩ v0).setCell ⟨b, 1, none⟩ v1).setCell ⟨b, 2, none⟩ v2).setCell ⟨b, 3, none⟩ v3).setCell ⟨b, 4, none⟩ v4).setCell ⟨b, 5, none⟩ v5).setCell ⟨b, 6, none⟩ v6).setCell ⟨b, 7, none⟩ v7).setCell ⟨b, 8, none⟩ v8).heap[b]? = some (.cells #[v0, v1, v2, v3, v4, v5, v6, v7, v8] T fr) := heap_setCell_at h7 8 v8
  exact h8
theorem setNine_fr {w a : World} {b : Nat} (f : Fr nob a w) (hb : a.heap.size ≤ b) (v0 v1 v2 v3 v4 v5 v6 v7 v8 : Value) : Fr nob a (setNine w b v0 v1 v2 v3 v4 v5 v6 v7 v8) := by
  have h : ∀ (x : World) (j : Nat) (v : Value), Fr nob a x → Fr nob a (x.setCell ⟨b, j, none⟩ v) := fun x j v hx => hx.setCell (p := ⟨b, j, none⟩) (fun h => absurd h (Nat.not_lt.2 hb)) v
  exact h _ _ _ (h _ _ _ (h _ _ _ (h _ _ _ (h _ _ _ (h _ _ _ (h _ _ _ (h _ _ _ (h _ _ _ f))))))))
theorem setNine_one {w : World} {b : Nat} (v0 v1 v2 v3 v4 v5 v6 v7 v8 : Value) : Fr (fun k => k = b) w (setNine w b v0 v1 v2 v3 v4 v5 v6 v7 v8) := by
  have h : ∀ (x : World) (j : Nat) (v : Value), Fr (fun k => k = b) w x → Fr (fun k => k = b) w (x.setCell ⟨b, j, none⟩ v) := fun x j v hx => hx.setCell (p := ⟨b, j, none⟩) (fun _ => rfl) v
  exact h _ _ _ (h _ _ _ (h _ _ _ (h _ _ _ (h _ _ _ (h _ _ _ (h _ _ _ (h _ _ _ (h _ _ _ (Fr.refl _ w)))))))))

theorem setNine_size {w : World} {b : Nat} (v0 v1 v2 v3 v4 v5 v6 v7 v8 : Value) : (setNine w b v0 v1 v2 v3 v4 v5 v6 v7 v8).heap.size = w.heap.size := by
  simp [World.setCell]

/-- Nine cells that are there and may be written. -/
theorem there9 {w : World} {b : Nat} {a0 a1 a2 a3 a4 a5 a6 a7 a8 : Value} {T : TypeId} (h : w.heap[b]? = some (.cells #[a0, a1, a2, a3, a4, a5, a6, a7, a8] T (0, 0))) :
    (w.frozen? ⟨b, 0, none⟩ = false ∧ w.frozen? ⟨b, 1, none⟩ = false ∧ w.frozen? ⟨b, 2, none⟩ = false ∧ w.frozen? ⟨b, 3, none⟩ = false ∧ w.frozen? ⟨b, 4, none⟩ = false ∧ w.frozen? ⟨b, 5, none⟩ = false ∧ w.frozen? ⟨b, 6, none⟩ = false ∧ w.frozen? ⟨b, 7, none⟩ = false ∧ w.frozen? ⟨b, 8, none⟩ = false) :=
  ⟨unfrozen_at h _, unfrozen_at h _, unfrozen_at h _, unfrozen_at h _, unfrozen_at h _, unfrozen_at h _, unfrozen_at h _, unfrozen_at h _, unfrozen_at h _⟩

/-- Three cells; two. -/
abbrev C3 (w : World) (b : Nat) (v0 v1 v2 : Value) : Prop := w.cell? ⟨b, 0, none⟩ = some v0 ∧ w.cell? ⟨b, 1, none⟩ = some v1 ∧ w.cell? ⟨b, 2, none⟩ = some v2
abbrev C2 (w : World) (b : Nat) (v0 v1 : Value) : Prop := w.cell? ⟨b, 0, none⟩ = some v0 ∧ w.cell? ⟨b, 1, none⟩ = some v1
theorem C3.on {w w' : World} {b : Nat} {v0 v1 v2 : Value} (h : C3 w b v0 v1 v2) (f : Fr nob w w') : C3 w' b v0 v1 v2 := ⟨f.cell h.1 (fun x => x), f.cell h.2.1 (fun x => x), f.cell h.2.2 (fun x => x)⟩
theorem C2.on {w w' : World} {b : Nat} {v0 v1 : Value} (h : C2 w b v0 v1) (f : Fr nob w w') : C2 w' b v0 v1 := ⟨f.cell h.1 (fun x => x), f.cell h.2 (fun x => x)⟩
theorem C3.set {w : World} {b c : Nat} {v0 v1 v2 : Value} (h : C3 w b v0 v1 v2) (hn : ¬ b = c) (u0 u1 u2 u3 u4 u5 u6 u7 u8 : Value) : C3 (setNine w c u0 u1 u2 u3 u4 u5 u6 u7 u8) b v0 v1 v2 :=
  ⟨Fr.cell (setNine_one u0 u1 u2 u3 u4 u5 u6 u7 u8) h.1 hn, Fr.cell (setNine_one u0 u1 u2 u3 u4 u5 u6 u7 u8) h.2.1 hn, Fr.cell (setNine_one u0 u1 u2 u3 u4 u5 u6 u7 u8) h.2.2 hn⟩
theorem C2.set {w : World} {b c : Nat} {v0 v1 : Value} (h : C2 w b v0 v1) (hn : ¬ b = c) (u0 u1 u2 u3 u4 u5 u6 u7 u8 : Value) : C2 (setNine w c u0 u1 u2 u3 u4 u5 u6 u7 u8) b v0 v1 :=
  ⟨Fr.cell (setNine_one u0 u1 u2 u3 u4 u5 u6 u7 u8) h.1 hn, Fr.cell (setNine_one u0 u1 u2 u3 u4 u5 u6 u7 u8) h.2 hn⟩
theorem C3.of {w : World} {b : Nat} {v0 v1 v2 : Value} {T : TypeId} {fr : Nat × Nat} (h : w.heap[b]? = some (.cells #[v0, v1, v2] T fr)) : C3 w b v0 v1 v2 := ⟨cell_at h rfl, cell_at h rfl, cell_at h rfl⟩
theorem C2.of {w : World} {b : Nat} {v0 v1 : Value} {T : TypeId} {fr : Nat × Nat} (h : w.heap[b]? = some (.cells #[v0, v1] T fr)) : C2 w b v0 v1 := ⟨cell_at h rfl, cell_at h rfl⟩

end Go.Proofs.YtmoeboknelnaoaaGreatDoor

/-
  Walks: Join, Choose of the document.
-/
namespace Go.Proofs.YtmoeboknelnaoaaGreatDoor
open Go.RowKit

/-- What a part brings to a Cat; to an Alt. -/
def T.partT (t : T) : List T := if t.kind = 0 then [] else if t.kind = 2 then t.parts else [t]
def partsT : List T → List T
  | [] => []
  | t :: ts => t.partT ++ partsT ts
def onlyT (k : Int) : List T → T
  | [] => T.zero
  | [x] => x
  | x :: y :: l => .mk k S4.zero (x :: y :: l) 0 0 0
def joinT (l : List T) : T := onlyT 2 (partsT l)
theorem partsT_append (l m : List T) : partsT (l ++ m) = partsT l ++ partsT m := by
  induction l with
  | nil => rfl
  | cons t ts ih => simp only [List.cons_append, partsT, ih, List.append_assoc]
theorem partsT_take {l : List T} {k : Nat} (h : k < l.length) : partsT (l.take (k + 1)) = partsT (l.take k) ++ l[k].partT := by
  rw [List.take_succ_eq_append_getElem h, partsT_append]; simp [partsT]
theorem T.partT_bulk (t : T) : T.bulks t.partT ≤ t.bulk := by
  have := t.bulk_parts
  unfold T.partT; split
  · simp [T.bulks]
  split
  · omega
  · simp [T.bulks]
theorem partsT_bulk (l : List T) : T.bulks (partsT l) ≤ T.bulks l := by
  induction l with
  | nil => simp [partsT]
  | cons t ts ih => have := t.partT_bulk; simp only [partsT, T.bulks, T.bulks_append]; omega
/-- The block of a result. -/
abbrev SRb (w : World) : Nat → Prop := fun k => k = w.heap.size

theorem late_ST {w wr : World} {g : Option Nat} {l : List T} {u : Value} (h : ST nob w l u) (f : Fr nob w wr) (hg : ∀ j, g = some j → w.heap.size < j) : ST (LS2 (SRb w) g) wr l u :=
  h.keep f (fun _ _ x => x) (fun k hk x => by
    rcases x with x | x
    · unfold SRb at x; omega
    · have := hg k x; omega)
theorem late_RT {w wr : World} {g : Option Nat} {t : T} {cs : List Value} (h : RT nob w t cs) (f : Fr nob w wr) (hg : ∀ j, g = some j → w.heap.size < j) : RT (LS2 (SRb w) g) wr t cs :=
  RT.keep f (fun _ _ x => x) (fun k hk x => by
    rcases x with x | x
    · unfold SRb at x; omega
    · have := hg k x; omega) _ _ h

set_option maxRecDepth 100000 in
set_option maxHeartbeats 2000000 in
theorem joinT_any (l : List T) (u : Value) (w : World) (hl : T.bulks l ≤ 3000000) (h : ST nob w l u) :
    Calls Tryz.prog 19 #[u] w fun e w' => ∃ cs, e = .returned (.agg cs.toArray) ∧ RT nob w' (joinT l) cs ∧ Fr nob w w' := by
  obtain ⟨a, c, rfl⟩ := h.shape
  have H := Lib.hid h; clear h
  have hll := T.length_le l
  have hpl := Lib.hid (Nat.le_trans (T.length_le (partsT l)) (partsT_bulk l))
  go_enter Tryz.func19, Tryz.ntmps19
  go_wp2_with fail
  go_loopw [3, 7] (fun s i wr => ∃ (k : Nat) (g : Option Nat), i = .int .i64 k ∧ k ≤ l.length ∧ OwnT (SRb w) wr (partsT (l.take k)) s g ∧ Fr nob (w.alloc (.cells #[.int .i64 0, .int .u64 0, .int .u64 0, .int .u64 0, .int .u64 0, .slice none 0 0, .int .i64 0, .int .i64 0, .int .i64 0] 39)) wr ∧ ∀ j, g = some j → w.heap.size < j) (fun _ i _ => l.length - (intOf i).toNat)
  case atStart => exact ⟨0, none, rfl, Nat.zero_le _, OwnT.nil _ _, Fr.refl _ _, fun _ h => by cases h⟩
  case round =>
    obtain ⟨k, g, rfl, hk, ho, fr, hg⟩ := hrel
    obtain ⟨av, cv, rfl⟩ := ho.shape
    have HO := Lib.hid ho; have FR := Lib.hid fr; have HG := Lib.hid hg
    have hlw := fr.size
    simp only [World.size_alloc] at hlw
    clear ho fr hg
    by_cases hlt : k < l.length
    · obtain ⟨q, off, cap, cx, he, hx, hc, hgs⟩ := H.out.get hlt
      injection he with e1 e2 e3
      subst e1; subst e3
      have hpt := Lib.hid (partsT_take hlt)
      have hlen' := Nat.le_trans (T.length_le (partsT (l.take (k + 1)))) (Nat.le_trans (partsT_bulk _) (T.bulks_take_le l (k + 1)))
      obtain ⟨x, hxe⟩ : ∃ x, l[k] = x := ⟨_, rfl⟩
      rw [hxe] at hx hpt
      obtain ⟨k', s', ps', mn', mx', nu', a', c', hx0, rfl, hxx⟩ := hx.open'
      obtain ⟨d0, d1, d2, d3, d4, d5, d6, d7, d8⟩ := (hc.fr (((Fr.refl nob w).alloc _).trans' FR.out) (fun x => x)).nine
      rw [hpt.out, List.length_append] at hlen'
      have HX0 := Lib.hid hx; have HXS := Lib.hid hxx; clear hx hxx e2 hc hxe
      by_cases k0 : k' = 0
      · have hpe : x.partT = [] := by rw [hx0]; simp [T.partT, T.kind, k0]
        have HPT := Lib.hid (show partsT (l.take (k + 1)) = partsT (l.take k) by rw [hpt.out, hpe, List.append_nil])
        subst k0
        clear hpe hlen'
        go_wp2
        go_roundw
        case rel => exact ⟨k + 1, g, by go_num, by omega, by rw [HPT.out]; exact HO.out, FR.out, HG.out⟩
        case measure => simp [intOf]; omega
      have k0' : (k' == 0) = false := by simpa using k0
      by_cases k2 : k' = 2
      · have hpe : x.partT = ps' := by rw [hx0]; simp [T.partT, T.kind, T.parts, k2]
        rw [hpe] at hpt hlen'
        have hlen : (partsT (l.take k)).length + ps'.length ≤ 3000000 := by omega
        subst k2
        clear hpe hlen' k0 k0'
        go_wp2_with (at_builtin; refine wpList_append_t (S := SRb w) rfl (.tmp 26) (.tmp 31) rfl (partsT (l.take k)) ps' _ _ g (by rfl) (HO.out.on (Fr.refl _ _)) (by rfl) (late_ST HXS.out (((Fr.refl nob w).alloc _).trans' FR.out) HG.out) (fun k hk => by unfold SRb at hk; omega) hlen ?_; intro v' w3 g' ho3 hf3 hg3; obtain ⟨av', cv', he3⟩ := ho3.shape; simp only [List.length_append, List.length_singleton] at he3; subst he3; have HO3 := Lib.hid ho3; have HF3 := Lib.hid hf3; have HG3 := Lib.hid hg3; clear ho3 hf3 hg3)
        go_roundw
        case rel => exact ⟨k + 1, g', by go_num, by omega, by rw [hpt.out]; exact HO3.out, FR.out.trans HF3.out (fun i hi x => by have := HG.out i x; simp at hi; omega), fun j hj => by
            rcases HG3.out j hj with h | h
            · exact HG.out j h
            · first | omega | (simp only [World.size_alloc] at h; omega)⟩
        case measure => simp [intOf]; omega
      have k2' : (k' == 2) = false := by simpa using k2
      have hpe : x.partT = [x] := by rw [hx0]; simp [T.partT, T.kind, k0, k2]
      rw [hpe] at hpt hlen'
      have hlen : (partsT (l.take k)).length + [x].length ≤ 3000000 := by omega
      clear hpe hlen' hx0 k0 k2
      go_wp2_with (at_builtin; refine wpList_append_t (S := SRb w) rfl (.tmp 15) (.tmp 20) rfl (partsT (l.take k)) [x] _ _ g (by rfl) (HO.out.on ((Fr.refl _ _).alloc _)) (by rfl) (ST.one (late_RT HX0.out (((Fr.refl nob w).alloc _).trans' FR.out) HG.out) (fun k hk => by rcases hk with hk | hk; (unfold SRb at hk; omega); exact HO.out.lt k hk) _ rfl) (fun k hk => by unfold SRb at hk; simp; omega) hlen ?_; intro v' w3 g' ho3 hf3 hg3; obtain ⟨av', cv', he3⟩ := ho3.shape; simp only [List.length_append, List.length_singleton] at he3; subst he3; have HO3 := Lib.hid ho3; have HF3 := Lib.hid hf3; have HG3 := Lib.hid hg3; clear ho3 hf3 hg3)
      go_roundw
      case rel => exact ⟨k + 1, g', by go_num, by omega, by rw [hpt.out]; exact HO3.out, (FR.out.alloc _).trans HF3.out (fun i hi x => by have := HG.out i x; simp at hi; omega), fun j hj => by
          rcases HG3.out j hj with h | h
          · exact HG.out j h
          · first | omega | (simp only [World.size_alloc] at h; omega)⟩
      case measure => simp [intOf]; omega

    · obtain rfl : k = l.length := by omega
      have hT := List.take_of_length_le (l := l) (Nat.le_refl _)
      have hO := HO.out
      rw [hT] at hO ⊢
      have HST := Lib.hid hO.st
      have hr := FR.out.heap (heap_alloc_new _ _) (fun x => x)
      obtain ⟨z0, z1, z2, z3, z4, z5, z6, z7, z8⟩ := C9.of hr
      obtain ⟨q0, q1, q2, q3, q4, q5, q6, q7, q8⟩ := there9 hr
      have HR := Lib.hid hr
      have FW := Lib.hid (((Fr.refl nob w).alloc _).trans' FR.out)
      obtain ⟨ps, hps⟩ : ∃ ps, partsT l = ps := ⟨_, rfl⟩
      rw [hps] at HST hpl ⊢
      have HJ := Lib.hid (show joinT l = onlyT 2 ps by unfold joinT; rw [hps])
      clear hT hO hr HO hps
      match ps with
      | [] =>
        go_wp2
        (try simp only [Exit.inBlock, Exit.then])
        refine bodyPost_ret (results_T (k := 0) (s := S4.zero) (v := .slice none 0 0) (mn := 0) (mx := 0) (nu := 0) rfl rfl (setNine_heap HR.out _ _ _ _ _ _ _ _ _)) rfl ⟨_, rfl, ?_, setNine_fr FW.out (Nat.le_refl _) _ _ _ _ _ _ _ _ _⟩
        rw [HJ.out]
        exact RT_mk.2 ⟨_, rfl, .inl ⟨⟨none, 0, rfl⟩, rfl⟩⟩
      | [x] =>
        obtain ⟨q, off, cap, cx, he, hx, hc, hgs⟩ := HST.out.get (k := 0) (by simp)
        injection he with e1 e2 e3
        subst e1; subst e3
        have hx' : RT (SRb w) wr x cx := hx
        obtain ⟨k', s', ps', mn', mx', nu', a', c', hx0, rfl, hxx⟩ := hx'.open'
        simp only [Nat.zero_mul, Nat.add_zero] at hc
        obtain ⟨d0, d1, d2, d3, d4, d5, d6, d7, d8⟩ := hc.nine
        have HX := Lib.hid hx'; clear hx hx' hxx hc e2 hx0
        simp only [List.length_cons, List.length_nil, Nat.zero_add]
        go_wp2
        (try simp only [Exit.inBlock, Exit.then])
        refine bodyPost_ret (results_T (k := k') (s := s') (v := .slice a' ps'.length c') (mn := mn') (mx := mx') (nu := nu') rfl rfl (setNine_heap HR.out _ _ _ _ _ _ _ _ _)) rfl ⟨_, rfl, ?_, setNine_fr FW.out (Nat.le_refl _) _ _ _ _ _ _ _ _ _⟩
        rw [HJ.out]
        exact RT.keep (setNine_one _ _ _ _ _ _ _ _ _) (fun k hk x => x) (fun _ _ x => x.elim) _ _ HX.out
      | x :: y :: r =>
        have hpl2 := hpl.out
        obtain ⟨n, hn⟩ : ∃ n, (x :: y :: r).length = n := ⟨_, rfl⟩
        have hn0 : ¬ (n : Int) = 0 := by rw [← hn]; simp; omega
        have hn1 : ¬ (n : Int) = 1 := by rw [← hn]; simp; omega
        have HN := Lib.hid hn
        rw [hn] at hpl2 ⊢
        clear hn
        go_wp2
        (try simp only [Exit.inBlock, Exit.then])
        refine bodyPost_ret (results_T (k := 2) (s := S4.zero) (v := .slice av n cv) (mn := 0) (mx := 0) (nu := 0) rfl rfl (setNine_heap HR.out _ _ _ _ _ _ _ _ _)) rfl ⟨_, rfl, ?_, setNine_fr FW.out (Nat.le_refl _) _ _ _ _ _ _ _ _ _⟩
        rw [HJ.out]
        refine RT_mk.2 ⟨_, rfl, ?_⟩
        have hs := HST.out
        rw [HN.out] at hs
        exact hs.keep (setNine_one _ _ _ _ _ _ _ _ _) (fun k hk x => x) (fun _ _ x => x.elim)

end Go.Proofs.YtmoeboknelnaoaaGreatDoor
