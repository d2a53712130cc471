/-
  Merged texts of this claim: RefH, RefF.
-/
import Derived.Deep.RegionHeld3
import Derived.StillTailTactics
import Derived.Test.YtepeomphikhbkaaGreatDoorM21
import Derived.Test.YtepeomphikhbkaaGreatDoorM28

/-
  A call's own slice of the document's nodes, and append to it. Walks: list, Ref; Join, Choose of the document.
-/
namespace Go.Proofs.YtepeomphikhbkaaGreatDoor
open Go.RowKit

/-- Nodes' cells, one behind the other. -/
def VT (S : Nat → Prop) (w : World) : List T → List Value → Prop
  | [], vs => vs = []
  | t :: ts, vs => ∃ cs r, vs = cs ++ r ∧ cs.length = 9 ∧ RT S w t cs ∧ VT S w ts r

theorem RT.length {S : Nat → Prop} {w : World} {t : T} {cs : List Value} (h : RT S w t cs) : cs.length = 9 := by
  obtain ⟨k, s, ps, mn, mx, nu, a, c, _, rfl, _⟩ := h.open'; rfl
theorem VT.length {S : Nat → Prop} {w : World} : ∀ {l : List T} {vs : List Value}, VT S w l vs → vs.length = l.length * 9
  | [], _, h => by rw [VT] at h; subst h; rfl
  | t :: ts, _, h => by rw [VT] at h; obtain ⟨cs, r, rfl, hl, _, h⟩ := h; rw [List.length_append, hl, VT.length h, List.length_cons]; omega
theorem VT.append {S : Nat → Prop} {w : World} : ∀ {l m : List T} {vs us : List Value}, VT S w l vs → VT S w m us → VT S w (l ++ m) (vs ++ us)
  | [], _, _, _, h, k => by rw [VT] at h; subst h; exact k
  | t :: ts, _, _, _, h, k => by rw [VT] at h; obtain ⟨cs, r, rfl, hl, h1, h⟩ := h; exact ⟨cs, _, by rw [List.append_assoc], hl, h1, VT.append h k⟩
theorem VT.keep {S X S' : Nat → Prop} {w w' : World} (hf : Fr X w w') (hX : ∀ k, k < w.heap.size → X k → S k) (hS : ∀ k, k < w.heap.size → S' k → S k) : ∀ {l : List T} {vs : List Value}, VT S w l vs → VT S' w' l vs
  | [], _, h => by rw [VT] at h ⊢; exact h
  | t :: ts, _, h => by rw [VT] at h ⊢; obtain ⟨cs, r, rfl, hl, h1, h⟩ := h; exact ⟨cs, r, rfl, hl, RT.keep hf hX hS _ _ h1, VT.keep hf hX hS h⟩
theorem RT.cell1 {S : Nat → Prop} {w : World} {t : T} {cs : List Value} (h : RT S w t cs) : ∀ u ∈ cs, u.oneCell' = true := by
  obtain ⟨k, s, ps, mn, mx, nu, a, c, _, rfl, _⟩ := h.open'
  intro u hu
  simp only [List.mem_cons, List.not_mem_nil, or_false] at hu
  rcases hu with rfl | rfl | rfl | rfl | rfl | rfl | rfl | rfl | rfl <;> rfl
theorem VT.cell1 {S : Nat → Prop} {w : World} : ∀ {l : List T} {vs : List Value}, VT S w l vs → ∀ u ∈ vs, u.oneCell' = true
  | [], _, h, u, hu => by rw [VT] at h; subst h; cases hu
  | t :: ts, _, h, u, hu => by
    rw [VT] at h; obtain ⟨cs, r, rfl, hl, h1, h⟩ := h
    rcases List.mem_append.1 hu with hu | hu
    · exact h1.cell1 u hu
    · exact VT.cell1 h u hu

theorem At.left {w : World} {g off : Nat} {a b : List Value} (h : At w g off (a ++ b)) : At w g off a := fun j v hj => h j v (by
  rw [List.getElem?_append_left (List.getElem?_eq_some_iff.1 hj).1]; exact hj)
theorem At.right {w : World} {g off : Nat} {a b : List Value} (h : At w g off (a ++ b)) : At w g (off + a.length) b := fun j v hj => by
  have := h (a.length + j) v (by rw [List.getElem?_append_right (by omega)]; simpa using hj)
  rwa [show off + (a.length + j) = off + a.length + j by omega] at this
theorem At.join {w : World} {g off : Nat} {a b : List Value} (h : At w g off a) (k : At w g (off + a.length) b) : At w g off (a ++ b) := fun j v hj => by
  by_cases hl : j < a.length
  · rw [List.getElem?_append_left hl] at hj; exact h j v hj
  · rw [List.getElem?_append_right (by omega)] at hj
    have := k (j - a.length) v hj
    rwa [show off + a.length + (j - a.length) = off + j by omega] at this

theorem RTs.of {S : Nat → Prop} {w : World} {g : Nat} (hg : ¬ S g) (hs : g < w.heap.size) : ∀ {l : List T} {vs : List Value} {off : Nat}, VT S w l vs → At w g off vs → RTs S w l g off
  | [], _, _, _, _ => by rw [RTs]; trivial
  | t :: ts, _, off, h, ha => by
    rw [VT] at h; obtain ⟨cs, r, rfl, hl, h1, h⟩ := h
    have hr := ha.right
    rw [hl] at hr
    rw [RTs]; exact ⟨hg, hs, ⟨cs, h1, ha.left⟩, RTs.of hg hs h hr⟩
theorem RTs.vals {S : Nat → Prop} {w : World} {g : Nat} : ∀ {l : List T} {off : Nat}, RTs S w l g off → ∃ vs, VT S w l vs ∧ At w g off vs
  | [], _, _ => ⟨[], rfl, fun j v hj => by simp at hj⟩
  | t :: ts, off, h => by
    rw [RTs] at h; obtain ⟨_, _, ⟨cs, h1, h2⟩, h⟩ := h
    obtain ⟨vs, hv, ha⟩ := RTs.vals h
    have hl := h1.length
    exact ⟨cs ++ vs, ⟨cs, vs, rfl, hl, h1, hv⟩, At.join h2 (by rw [hl]; exact ha)⟩

/-- A slice of the call's own that holds the document's nodes. -/
theorem ST.of_own {S : Nat → Prop} {w : World} {l : List T} {u : Value} {vs : List Value} {e : TypeId} (h : w.ownsRow 0 e 9 u l.length vs) (hv : VT S w l vs) (hS : ∀ k, u.ownBlock = some k → ¬ S k) : ST S w l u := by
  obtain ⟨_, h⟩ := h
  rcases h with ⟨rfl, h0⟩ | ⟨g, cap, cur, rfl, _, hg, hn, _, _, htake⟩
  · exact .inl ⟨⟨none, 0, rfl⟩, List.length_eq_zero_iff.1 h0⟩
  · refine .inr ⟨g, 0, cap, rfl, hn, RTs.of (hS g rfl) (lt_heap hg) hv ?_⟩
    intro j v hj
    rw [← htake, List.getElem?_take] at hj
    split at hj
    · exact cell_at hg (by simpa using hj)
    · cases hj

/-- A call's own slice of the document's nodes, all of them outside S. -/
def OwnT (S : Nat → Prop) (w : World) (l : List T) (v : Value) (g : Option Nat) : Prop := ∃ vs, w.ownsRow 0 34 9 v l.length vs ∧ VT (LS2 S g) w l vs ∧ v.ownBlock = g ∧ ∀ k, g = some k → ¬ S k

theorem OwnT.nil (S : Nat → Prop) (w : World) : OwnT S w [] (.slice none 0 0) none := ⟨[], World.ownsRow_nil _ _ _ _, rfl, rfl, fun _ h => by cases h⟩
theorem OwnT.shape {S : Nat → Prop} {w : World} {l : List T} {v : Value} {g : Option Nat} (h : OwnT S w l v g) : ∃ a c, v = .slice a l.length c := by
  obtain ⟨vs, h1, _⟩ := h; exact ownsRow_slice h1
theorem OwnT.on {S : Nat → Prop} {w w' : World} {l : List T} {v : Value} {g : Option Nat} (h : OwnT S w l v g) (f : Fr nob w w') : OwnT S w' l v g := by
  obtain ⟨vs, h1, h2, h3, h4⟩ := h
  exact ⟨vs, ownsRow_fr h1 f (fun _ _ x => x), h2.keep f (fun _ _ x => x.elim) (fun _ _ x => x), h3, h4⟩
theorem OwnT.lt {S : Nat → Prop} {w : World} {l : List T} {v : Value} {g : Option Nat} (h : OwnT S w l v g) : ∀ k, g = some k → k < w.heap.size := by
  intro k hk
  obtain ⟨vs, hown, _, hg, _⟩ := h
  rcases hown.2 with ⟨rfl, _⟩ | ⟨r, cap, cur, rfl, _, hr, _⟩
  · rw [← hg] at hk; cases hk
  · rw [← hg] at hk; injection hk with hk; subst hk; exact lt_heap hr
theorem OwnT.st {S : Nat → Prop} {w : World} {l : List T} {v : Value} {g : Option Nat} (h : OwnT S w l v g) : ST S w l v := by
  obtain ⟨vs, h1, h2, h3, h4⟩ := h
  exact ST.of_own h1 (h2.keep (S' := S) (Fr.refl nob w) (fun _ _ x => x.elim) (fun _ _ x => .inl x)) (fun k hk => h4 k (by rw [← h3, hk]))

theorem info_T : (Tryz.prog.info? 34).map (fun i => (i.zero, i.size, i.bytes)) = some (some (.agg #[.int .i64 0, .int .u64 0, .int .u64 0, .int .u64 0, .int .u64 0, .slice none 0 0, .int .i64 0, .int .i64 0, .int .i64 0]), 9, 88) := by kernel_rfl

theorem run_append_zero {P : Program} {w : World} (base : Nat) (t ty e : TypeId) (i : TypeInfo) (size : Nat) (ht : P.underlying t = some (.slice e)) (hi : P.info? e = some i)
    (v : Value) (n : Nat) (xs : List Value) (hown : w.ownsRow base e size v n xs) (a : Option Addr) (c : Nat) :
    (Builtin.append_ #[t, t] ty #[v, .slice a 0 c]).run P w = .ok v w := by
  rcases hown.2 with ⟨rfl, rfl⟩ | ⟨g, cap, cur, rfl, _, _, hnc, _⟩
  · cases a <;> simp [Builtin.append_, run_underlying ht, sizeOf, typeInfo, hi, Builtin.lenOf, Builtin.firstCells, loadCells, loadCellsFrom]
  · cases a <;> simp [Builtin.append_, run_underlying ht, sizeOf, typeInfo, hi, Builtin.lenOf, Builtin.firstCells, hnc, storeCells, loadCells, loadCellsFrom]

theorem wpList_append_t {S : Nat → Prop} {w : World} {ops : Array Oper} {rest : List Oper} {o : Oper} {a : Act} {Q : Exit → Act → World → Prop} (hgd : o.guard = none) (s x : Operand)
    (ho : o.op = .call { callee := .builtin .append, args := #[s, x], argTypes := #[32, 32] })
    (l m : List T) (v ux : Value) (g : Option Nat) (hs : a.eval s = v) (hown : OwnT S w l v g) (hx : a.eval x = ux) (hm : ST (LS2 S g) w m ux) (hS : ∀ k, S k → k < w.heap.size) (hb : l.length + m.length ≤ 3000000)
    (h : ∀ v' w' g', OwnT S w' (l ++ m) v' g' → Fr (fun k => g = some k) w w' → (∀ k, g' = some k → g = some k ∨ w.heap.size ≤ k) → wpList Tryz.prog ops Q rest (a.put o.dst v') w') : wpList Tryz.prog ops Q (o :: rest) a w := by
  obtain ⟨i0, hi, hz0, hz1, hz2⟩ := info_parts info_T
  obtain ⟨vs, h1, h2, h3, h4⟩ := hown
  rcases hm with ⟨⟨ax, cx, rfl⟩, rfl⟩ | ⟨q, off, cap, rfl, _, hm⟩
  · refine wpList_plain hgd fun K hK => ?_
    have hr := run_append_zero (P := Tryz.prog) (w := w) 0 32 o.type 34 i0 9 Tryz.underlying32 hi v l.length vs h1 ax cx
    unfold Oper.wp execOp
    simp only [ho, resolve, invoke, builtin, Sem.run_bind, Sem.run_pure, Result.andThen_ok, List.map_toArray, List.map_cons, List.map_nil, hs, hx, hr]
    exact hK _ _ (h v w g (by rw [List.append_nil]; exact ⟨vs, h1, h2, h3, h4⟩) (Fr.refl _ _) (fun k hk => .inl hk))
  · obtain ⟨us, hu, ha⟩ := RTs.vals hm
    have hul := hu.length
    refine wpList_append_g hgd s x _ ho 34 i0 _ 9 88 Tryz.underlying32 hi hz0 hz1 hz2 rfl (by decide) v l.length vs hs h1 ⟨q, off, none⟩ m.length cap us hx (by omega) (fun j u hj => by have := ha j u hj; by_cases hj0 : j = 0 <;> simpa [Addr.add, hj0] using this) hu.cell1 (by unfold maxLen; omega) (by omega) ?_
    intro v' w' hown' hap
    have hold : ∀ k, v'.ownBlock = some k → g = some k ∨ w.heap.size ≤ k := fun k hk => by
      rcases hap.old k hk with h | h
      · exact .inl (by rw [← h3, h])
      · exact .inr h
    have hfr : Fr (fun k => g = some k) w w' := hap.fr.mono fun k _ hk => by rw [← h3, hk]
    refine h v' w' v'.ownBlock ⟨vs ++ us, by simpa using hown', (VT.append h2 hu).keep hfr (fun _ _ x => .inr x) ?_, rfl, ?_⟩ hfr hold
    · intro k hk x
      rcases x with x | x
      · exact .inl x
      · rcases hold k x with e | e
        · exact .inr e
        · omega
    · intro k hk hsk
      rcases hold k hk with e | e
      · exact h4 k e hsk
      · have := hS k hsk; omega

mutual
/-- The program's node as the document's. -/
def Nd.rf : Nd → T
  | .nil => T.zero
  | .empty => T.zero
  | .one s => .mk 1 s [] 0 0 0
  | .cat l => .mk 2 S4.zero (Nd.rfs l) 0 0 0
  | .alt l => .mk 3 S4.zero (Nd.rfs l) 0 0 0
  | .rep x mn mx => .mk 4 S4.zero [x.rf] mn mx 0
  | .group n x => .mk 5 S4.zero [x.rf] 0 0 n
  | .back n => .mk 6 S4.zero [] 0 0 n
  | .start => .mk 7 S4.zero [] 0 0 0
  | .fin => .mk 8 S4.zero [] 0 0 0
def Nd.rfs : List Nd → List T
  | [] => []
  | t :: ts => t.rf :: Nd.rfs ts
end
theorem Nd.rfs_eq (l : List Nd) : Nd.rfs l = l.map Nd.rf := by
  induction l with
  | nil => rfl
  | cons t ts ih => simp only [Nd.rfs, List.map_cons, ih]
mutual
theorem Nd.rf_nd : ∀ n : Nd, n.rf.nd = n.norm
  | .nil | .empty | .one _ | .back _ | .start | .fin => by simp [Nd.rf, T.zero, T.nd, Nd.norm]
  | .cat l => by simp [Nd.rf, T.nd, Nd.norm, Nd.rfs_nd l]
  | .alt l => by simp [Nd.rf, T.nd, Nd.norm, Nd.rfs_nd l]
  | .rep x _ _ => by simp [Nd.rf, T.nd, Nd.norm, T.nd1, Nd.rf_nd x]
  | .group _ x => by simp [Nd.rf, T.nd, Nd.norm, T.nd1, Nd.rf_nd x]
theorem Nd.rfs_nd : ∀ l : List Nd, T.nds (Nd.rfs l) = Nd.norms l
  | [] => rfl
  | t :: ts => by simp only [Nd.rfs, T.nds, Nd.norms, Nd.rf_nd t, Nd.rfs_nd ts]
end
mutual
theorem Nd.rf_known : ∀ n : Nd, n.rf.known = true
  | .nil | .empty | .one _ | .back _ | .start | .fin => by simp [Nd.rf, T.zero, T.known, T.knowns]
  | .cat l => by simp [Nd.rf, T.known, Nd.rfs_known l]
  | .alt l => by simp [Nd.rf, T.known, Nd.rfs_known l]
  | .rep x _ _ => by simp [Nd.rf, T.known, T.knowns, Nd.rf_known x]
  | .group _ x => by simp [Nd.rf, T.known, T.knowns, Nd.rf_known x]
theorem Nd.rfs_known : ∀ l : List Nd, T.knowns (Nd.rfs l) = true
  | [] => rfl
  | t :: ts => by simp only [Nd.rfs, T.knowns, Nd.rf_known t, Nd.rfs_known ts, Bool.and_self]
end
mutual
theorem Nd.norm_size : ∀ n : Nd, n.norm.size = n.size
  | .nil | .empty | .one _ | .back _ | .start | .fin => by simp [Nd.norm, Nd.size]
  | .cat l => by simp [Nd.norm, Nd.size, Nd.norms_size l]
  | .alt l => by simp [Nd.norm, Nd.size, Nd.norms_size l]
  | .rep x _ _ => by simp [Nd.norm, Nd.size, Nd.norm_size x]
  | .group _ x => by simp [Nd.norm, Nd.size, Nd.norm_size x]
theorem Nd.norms_size : ∀ l : List Nd, Nd.sizes (Nd.norms l) = Nd.sizes l
  | [] => rfl
  | t :: ts => by simp only [Nd.norms, Nd.sizes, Nd.norm_size t, Nd.norms_size ts]
end
theorem Nd.rfs_take {l : List Nd} {k : Nat} (h : k < l.length) : Nd.rfs (l.take (k + 1)) = Nd.rfs (l.take k) ++ [l[k].rf] := by
  simp only [Nd.rfs_eq]; rw [List.take_succ_eq_append_getElem h, List.map_append]; rfl
theorem Nd.rfs_length (l : List Nd) : (Nd.rfs l).length = l.length := by rw [Nd.rfs_eq, List.length_map]

end Go.Proofs.YtepeomphikhbkaaGreatDoor

/-
  Walks over the document's nodes: Same; right, Right.
-/
namespace Go.Proofs.YtepeomphikhbkaaGreatDoor
open Go.RowKit

/-- A kind's number. -/
def Nd.kd : Nd → Int
  | .nil => 0
  | .empty => 0
  | .one _ => 1
  | .cat _ => 2
  | .alt _ => 3
  | .rep _ _ _ => 4
  | .group _ _ => 5
  | .back _ => 6
  | .start => 7
  | .fin => 8

theorem T.known_kd {k : Int} {s : S4} {ps : List T} {mn mx nu : Int} (h : (T.mk k s ps mn mx nu).known = true) : (k = 0 ∨ k = 1 ∨ k = 2 ∨ k = 3 ∨ k = 4 ∨ k = 5 ∨ k = 6 ∨ k = 7 ∨ k = 8) ∧ T.knowns ps = true := by
  simp only [T.known, Bool.and_eq_true, Bool.not_eq_true', Bool.or_eq_false_iff, decide_eq_false_iff_not] at h
  exact ⟨by omega, h.2⟩
theorem T.kd_nd {k : Int} {s : S4} {ps : List T} {mn mx nu : Int} (h : (T.mk k s ps mn mx nu).known = true) : (T.mk k s ps mn mx nu).nd.kd = k := by
  rcases (T.known_kd h).1 with rfl | rfl | rfl | rfl | rfl | rfl | rfl | rfl | rfl <;> simp [T.nd, Nd.kd]
theorem T.known_kids {t : T} (h : t.known = true) : ∀ x ∈ t.kids, x.known = true := by
  obtain ⟨k, s, ps, mn, mx, nu⟩ := t
  have hp := (T.known_kd h).2
  intro x hx
  unfold T.kids at hx
  split at hx
  · exact T.knowns_mem hp hx
  · split at hx
    · simp only [List.mem_singleton] at hx
      subst hx
      cases ps with
      | nil => rfl
      | cons y r => exact T.knowns_mem hp (by simp [T.of, T.parts])
    · cases hx

/-- Two nodes of one kind: their own parts. -/
def headSame (k : Int) (s : S4) (mn mx nu : Int) (s' : S4) (mn' mx' nu' : Int) : Prop :=
  (k = 1 → s = s') ∧ (k = 4 → mn = mn' ∧ mx = mx') ∧ (k = 5 ∨ k = 6 → nu = nu')
theorem T.same_iff {k : Int} {s : S4} {ps : List T} {mn mx nu : Int} {s' : S4} {ps' : List T} {mn' mx' nu' : Int} (h : (T.mk k s ps mn mx nu).known = true) :
    (T.mk k s ps mn mx nu).nd = (T.mk k s' ps' mn' mx' nu').nd ↔ headSame k s mn mx nu s' mn' mx' nu' ∧ (T.mk k s ps mn mx nu).nd.kids = (T.mk k s' ps' mn' mx' nu').nd.kids := by
  rcases (T.known_kd h).1 with rfl | rfl | rfl | rfl | rfl | rfl | rfl | rfl | rfl <;> simp [T.nd, headSame, Nd.kids]
  · constructor
    · rintro ⟨a, b, c⟩; exact ⟨⟨b, c⟩, a⟩
    · rintro ⟨⟨b, c⟩, a⟩; exact ⟨a, b, c⟩
theorem T.same_kd {t t' : T} (h : t.known = true) (h' : t'.known = true) (e : t.nd = t'.nd) : t.kind = t'.kind := by
  obtain ⟨k, s, ps, mn, mx, nu⟩ := t
  obtain ⟨k', s', ps', mn', mx', nu'⟩ := t'
  have := congrArg Nd.kd e
  rwa [T.kd_nd h, T.kd_nd h'] at this

/-- Nine cells of a variable that holds a node. -/
abbrev C9 (w : World) (b : Nat) (v0 v1 v2 v3 v4 v5 v6 v7 v8 : Value) : Prop :=
  w.cell? ⟨b, 0, none⟩ = some v0 ∧ w.cell? ⟨b, 1, none⟩ = some v1 ∧ w.cell? ⟨b, 2, none⟩ = some v2 ∧ w.cell? ⟨b, 3, none⟩ = some v3 ∧ w.cell? ⟨b, 4, none⟩ = some v4 ∧ w.cell? ⟨b, 5, none⟩ = some v5 ∧ w.cell? ⟨b, 6, none⟩ = some v6 ∧ w.cell? ⟨b, 7, none⟩ = some v7 ∧ w.cell? ⟨b, 8, none⟩ = some v8
theorem C9.on {w w' : World} {b : Nat} {v0 v1 v2 v3 v4 v5 v6 v7 v8 : Value} (h : C9 w b v0 v1 v2 v3 v4 v5 v6 v7 v8) (f : Fr nob w w') : C9 w' b v0 v1 v2 v3 v4 v5 v6 v7 v8 := by
  obtain ⟨h0, h1, h2, h3, h4, h5, h6, h7, h8⟩ := h
  exact ⟨f.cell h0 (fun x => x), f.cell h1 (fun x => x), f.cell h2 (fun x => x), f.cell h3 (fun x => x), f.cell h4 (fun x => x), f.cell h5 (fun x => x), f.cell h6 (fun x => x), f.cell h7 (fun x => x), f.cell h8 (fun x => x)⟩
theorem C9.of {w : World} {b : Nat} {v0 v1 v2 v3 v4 v5 v6 v7 v8 : Value} {T : TypeId} {fr : Nat × Nat} (h : w.heap[b]? = some (.cells #[v0, v1, v2, v3, v4, v5, v6, v7, v8] T fr)) : C9 w b v0 v1 v2 v3 v4 v5 v6 v7 v8 :=
  ⟨cell_at h rfl, cell_at h rfl, cell_at h rfl, cell_at h rfl, cell_at h rfl, cell_at h rfl, cell_at h rfl, cell_at h rfl, cell_at h rfl⟩

theorem C9.two {w w' : World} {b : Nat} {v0 v1 v2 v3 v4 v5 v6 v7 v8 : Value} {c : Nat} {u0 u1 u2 u3 u4 u5 u6 u7 u8 : Value} (h : C9 w b v0 v1 v2 v3 v4 v5 v6 v7 v8 ∧ C9 w c u0 u1 u2 u3 u4 u5 u6 u7 u8) (f : Fr nob w w') :
    C9 w' b v0 v1 v2 v3 v4 v5 v6 v7 v8 ∧ C9 w' c u0 u1 u2 u3 u4 u5 u6 u7 u8 := ⟨C9.on h.1 f, C9.on h.2 f⟩

/-- Same's answer. -/
def SameT (a b : T) (w : World) (e : Ending) (w' : World) : Prop := ∃ r : Bool, e = .returned (.bool r) ∧ (r = true ↔ a.nd = b.nd) ∧ Fr nob w w'

/-- Two variables that hold nodes. -/
abbrev box2 (w : World) (X Y : List Value) : World := (w.alloc (.cells X.toArray 34)).alloc (.cells Y.toArray 34)

theorem box2_fr (w : World) (X Y : List Value) : Fr nob w (box2 w X Y) := ((Fr.refl _ _).alloc _).alloc _
theorem box2_a (w : World) (X Y : List Value) : (box2 w X Y).heap[w.heap.size]? = some (.cells X.toArray 34 (0, 0)) := heap_alloc_lt _ (heap_alloc_new _ _)
theorem box2_b (w : World) (X Y : List Value) : (box2 w X Y).heap[w.heap.size + 1]? = some (.cells Y.toArray 34 (0, 0)) := by
  have := heap_alloc_new (w.alloc (.cells X.toArray 34)) (.cells Y.toArray 34); simpa using this

set_option maxRecDepth 100000 in
set_option maxHeartbeats 2000000 in
/-- The part of Same that goes along the kids. -/
theorem same_T (m : Nat) : ∀ (a b : T) (ca cb : List Value) (w : World), a.nd.size ≤ m → a.nd.size ≤ 3000000 → b.nd.size ≤ 3000000 → a.known = true → b.known = true → RT nob w a ca → RT nob w b cb →
    Calls Tryz.prog 17 #[.agg ca.toArray, .agg cb.toArray] w (SameT a b w) := by
  induction m with
  | zero => intro a b ca cb w h; have := a.nd.size_pos; omega
  | succ m ih =>
    intro a b ca cb w hm hsa hsb hka hkb ha hb
    obtain ⟨kd, s, ps, mn, mx, nu, ua, uc, hea, rfl, hps⟩ := ha.open'
    obtain ⟨kd', s', ps', mn', mx', nu', ua', uc', heb, rfl, hps'⟩ := hb.open'
    have IH := Lib.hid ih; have HA := Lib.hid ha; have HB := Lib.hid hb; have HEA := Lib.hid hea; have HEB := Lib.hid heb; have HKA := Lib.hid hka; have HKB := Lib.hid hkb
    clear ih ha hb hps hps' hea heb hka hkb
    have hla : a.kids.length ≤ 3000000 := by have h1 := Nd.length_le a.nd.kids; have h2 := a.nd.size_kids; have h3 := a.kids_len; omega
    have hlb : b.kids.length ≤ 3000000 := by have h1 := Nd.length_le b.nd.kids; have h2 := b.nd.size_kids; have h3 := b.kids_len; omega
    by_cases hkk : kd = kd'
    · subst hkk
      have hsi : a.nd = b.nd ↔ headSame kd s mn mx nu s' mn' mx' nu' ∧ a.nd.kids = b.nd.kids := by
        have h1 := HKA.out
        rw [HEA.out] at h1
        have := T.same_iff (s' := s') (ps' := ps') (mn' := mn') (mx' := mx') (nu' := nu') h1
        rw [HEA.out, HEB.out]; exact this
      by_cases h1 : kd = 1
      · have hk1 : a.nd = b.nd ↔ s = s' := by
          rw [HEA.out, HEB.out, h1]; simp [T.nd]
        have HK1 := Lib.hid hk1
        subst h1
        clear hsi hk1
        obtain ⟨a1, b1, c1, d1⟩ := s
        obtain ⟨a2, b2, c2, d2⟩ := s'
        cases hp : S4.same ⟨a1, b1, c1, d1⟩ ⟨a2, b2, c2, d2⟩
        all_goals
          have HPP := Lib.hid hp
          go_enter Tryz.func17, Tryz.ntmps17
          go_wp2
          go_ret
          exact ⟨_, rfl, ⟨fun h => by first | (cases h; done) | exact HK1.out.2 (S4.same_iff.1 HPP.out), fun h => HPP.out.symm.trans (S4.same_iff.2 (HK1.out.1 h))⟩, box2_fr _ _ _⟩
      by_cases hh : headSame kd s mn mx nu s' mn' mx' nu'
      · have HSI := Lib.hid (show a.nd = b.nd ↔ a.nd.kids = b.nd.kids by rw [hsi]; exact ⟨fun h => h.2, fun h => ⟨hh, h⟩⟩)
        have hcase : ((kd == 4) = true ∧ (mn != mn') = false ∧ (mx != mx') = false) ∨ ((kd == 4) = false ∧ (kd == 5) = true ∧ (nu != nu') = false) ∨ ((kd == 4) = false ∧ (kd == 5) = false ∧ (kd == 6) = true ∧ (nu != nu') = false) ∨ ((kd == 4) = false ∧ (kd == 5) = false ∧ (kd == 6) = false) := by
          obtain ⟨_, q4, q56⟩ := hh
          by_cases h4 : kd = 4
          · obtain ⟨e1, e2⟩ := q4 h4
            exact .inl (by simp [h4, e1, e2])
          by_cases h5 : kd = 5
          · exact .inr (.inl (by simp [h5, q56 (.inl h5)]))
          by_cases h6 : kd = 6
          · exact .inr (.inr (.inl (by simp [h6, q56 (.inr h6)])))
          exact .inr (.inr (.inr (by simp [h4, h5, h6])))
        have h1' : (kd == 1) = false := by simpa using h1
        have CA := C9.of (box2_a w [.int .i64 kd, .int .u64 s.a, .int .u64 s.b, .int .u64 s.c, .int .u64 s.d, .slice ua ps.length uc, .int .i64 mn, .int .i64 mx, .int .i64 nu] [.int .i64 kd, .int .u64 s'.a, .int .u64 s'.b, .int .u64 s'.c, .int .u64 s'.d, .slice ua' ps'.length uc', .int .i64 mn', .int .i64 mx', .int .i64 nu'])
        have CB := C9.of (box2_b w [.int .i64 kd, .int .u64 s.a, .int .u64 s.b, .int .u64 s.c, .int .u64 s.d, .slice ua ps.length uc, .int .i64 mn, .int .i64 mx, .int .i64 nu] [.int .i64 kd, .int .u64 s'.a, .int .u64 s'.b, .int .u64 s'.c, .int .u64 s'.d, .slice ua' ps'.length uc', .int .i64 mn', .int .i64 mx', .int .i64 nu'])
        have HC := Lib.hid (And.intro CA CB)
        have F0 := Lib.hid (box2_fr w [.int .i64 kd, .int .u64 s.a, .int .u64 s.b, .int .u64 s.c, .int .u64 s.d, .slice ua ps.length uc, .int .i64 mn, .int .i64 mx, .int .i64 nu] [.int .i64 kd, .int .u64 s'.a, .int .u64 s'.b, .int .u64 s'.c, .int .u64 s'.d, .slice ua' ps'.length uc', .int .i64 mn', .int .i64 mx', .int .i64 nu'])
        clear hh hsi CA CB h1
        rcases hcase with ⟨h4, h5, h6⟩ | ⟨h4, h5, h6⟩ | ⟨h4, h5, h6, h7⟩ | ⟨h4, h5, h6⟩
        all_goals
          go_enter Tryz.func17, Tryz.ntmps17
          go_wp2_with fail
          go_region_held3 (fun w' => C9 w' w.heap.size (.int .i64 kd) (.int .u64 s.a) (.int .u64 s.b) (.int .u64 s.c) (.int .u64 s.d) (.slice ua ps.length uc) (.int .i64 mn) (.int .i64 mx) (.int .i64 nu) ∧ C9 w' (w.heap.size + 1) (.int .i64 kd) (.int .u64 s'.a) (.int .u64 s'.b) (.int .u64 s'.c) (.int .u64 s'.d) (.slice ua' ps'.length uc') (.int .i64 mn') (.int .i64 mx') (.int .i64 nu'))
            (first | exact C9.two ‹_› F2.out | exact C9.two ‹_› F1.out | exact C9.two HC.out ((Fr.refl nob _).drew))
            (first | (go_at_call 30; with_reducible refine (kids_T a _ _ (HA.out.on (F0.out.drew))).mono ?_; rintro e w1 ⟨u1, rfl, s1, f1⟩; obtain ⟨a1, c1, rfl⟩ := s1.shape; have S1 := Lib.hid s1; have F1 := Lib.hid f1; clear s1 f1) | (go_at_call 30; with_reducible refine (kids_T b _ _ (HB.out.on (F0.out.drew.trans' F1.out))).mono ?_; rintro e w2 ⟨u2, rfl, s2, f2⟩; obtain ⟨a2, c2, rfl⟩ := s2.shape; have S2 := Lib.hid s2; have F2 := Lib.hid f2; clear s2 f2))
          by_cases hlen : a.kids.length = b.kids.length
          · have e1 : (((a.kids.length : Nat) : Int) != ((b.kids.length : Nat) : Int)) = false := by rw [hlen]; simp
            have HLEN := Lib.hid hlen
            clear hlen
            have FK := Lib.hid ((F0.out.drew.trans' F1.out).trans' F2.out)
            go_wp2_with fail
            go_loopw [55] (fun i wr => ∃ k : Nat, i = .int .i64 k ∧ k ≤ a.kids.length ∧ (a.kids.take k).map T.nd = (b.kids.take k).map T.nd ∧ Fr nob w2 wr) (fun i _ => a.kids.length - (intOf i).toNat)
            case atStart => exact ⟨0, rfl, Nat.zero_le _, rfl, Fr.refl _ _⟩
            case round =>
              obtain ⟨k, rfl, hk, hq, fr⟩ := hrel
              have HQ := Lib.hid hq; have FR := Lib.hid fr; clear hq fr
              by_cases hlt : k < a.kids.length
              · have hlt' : k < b.kids.length := by have := HLEN.out; omega
                obtain ⟨q, off, cap, cx, he, hx, hc, hgs⟩ := (S1.out.on (F2.out.trans' FR.out)).get hlt
                obtain ⟨q', off', cap', cx', he', hx', hc', hgs'⟩ := (S2.out.on FR.out).get hlt'
                injection he with e1 e2 e3
                injection he' with e1' e2' e3'
                subst e1 e3 e1' e3'
                have hna := a.kid_at hlt (by have := a.kids_len; omega)
                have hnb := b.kid_at hlt' (by have := b.kids_len; omega)
                have hza : a.kids[k].nd.size < a.nd.size := Nd.kid_lt (by rw [← hna]; exact List.getElem_mem _)
                have hzb : b.kids[k].nd.size < b.nd.size := Nd.kid_lt (by rw [← hnb]; exact List.getElem_mem _)
                have hkx := T.known_kids HKA.out _ (List.getElem_mem hlt)
                have hky := T.known_kids HKB.out _ (List.getElem_mem hlt')
                have hta : (a.kids.take (k + 1)).map T.nd = (a.kids.take k).map T.nd ++ [a.kids[k].nd] := by rw [List.take_succ_eq_append_getElem hlt, List.map_append]; rfl
                have htb : (b.kids.take (k + 1)).map T.nd = (b.kids.take k).map T.nd ++ [b.kids[k].nd] := by rw [List.take_succ_eq_append_getElem hlt', List.map_append]; rfl
                have hall : a.nd.kids = b.nd.kids → a.kids[k].nd = b.kids[k].nd := fun h => by
                  rw [a.kids_nd, b.kids_nd] at h
                  have := congrArg (fun l => l[k]?) h
                  simpa [List.getElem?_map, List.getElem?_eq_getElem hlt, List.getElem?_eq_getElem hlt'] using this
                obtain ⟨x, hxe⟩ : ∃ x, a.kids[k] = x := ⟨_, rfl⟩
                obtain ⟨y, hye⟩ : ∃ y, b.kids[k] = y := ⟨_, rfl⟩
                rw [hxe] at hx hza hkx hta hall
                rw [hye] at hx' hzb hky htb hall
                obtain ⟨k1, s1, p1, mn1, mx1, nu1, a1, c1, hx0, rfl, hxx⟩ := hx.open'
                obtain ⟨k2, s2, p2, mn2, mx2, nu2, a2, c2, hy0, rfl, hyy⟩ := hx'.open'
                obtain ⟨d0, d1, d2, d3, d4, d5, d6, d7, d8⟩ := hc.nine
                obtain ⟨g0, g1, g2, g3, g4, g5, g6, g7, g8⟩ := hc'.nine
                have HX := Lib.hid hx; have HY := Lib.hid hx'; have HTA := Lib.hid hta; have HTB := Lib.hid htb; have HALL := Lib.hid hall; have HKX := Lib.hid hkx; have HKY := Lib.hid hky
                clear hx hx' hta htb hall hkx hky hxx hyy hx0 hy0 e2 e2' hc hc' hxe hye hna hnb
                have q1 : (0 : Int) ≤ k := by omega
                have q2 : (k : Int) < a.kids.length := by omega
                have q3 : (k : Int) < b.kids.length := by omega
                go_wp2_with fail
                go_still_tail 8, (by kernel_rfl)
                change wpList _ _ _ _ _ wr.drew
                go_wp2_with fail
                refine (IH.out x y _ _ _ (by omega) (by omega) (by omega) HKX.out HKY.out (HX.out.on ((Fr.refl _ _).drew)) (HY.out.on ((Fr.refl _ _).drew))).mono ?_
                rintro e w3 ⟨r, rfl, hr, f3⟩
                have F3 := Lib.hid f3; have HR := Lib.hid hr; clear f3 hr
                cases r with
                | true =>
                  have HXY := Lib.hid (HR.out.1 (by trivial))
                  go_wp2
                  go_roundw
                  case rel => exact ⟨k + 1, by go_num, by omega, by rw [HTA.out, HTB.out, HQ.out, HXY.out], FR.out.drew.trans' F3.out⟩
                  case measure => simp [intOf]; omega
                | false =>
                  go_wp2
                  go_ret
                  exact ⟨false, rfl, ⟨fun h => (nomatch h), fun h => HR.out.2 (HALL.out (HSI.out.1 h))⟩, FK.out.trans' (FR.out.drew.trans' F3.out)⟩
              · obtain rfl : k = a.kids.length := by omega
                go_wp2
                go_ret
                refine ⟨true, rfl, ⟨fun _ => HSI.out.2 ?_, fun _ => rfl⟩, FK.out.trans' FR.out⟩
                have := HQ.out
                rw [List.take_of_length_le (Nat.le_refl _), HLEN.out, List.take_of_length_le (Nat.le_refl _)] at this
                rw [a.kids_nd, b.kids_nd, this]
          · have e1 : (((a.kids.length : Nat) : Int) != ((b.kids.length : Nat) : Int)) = true := by simp; omega
            have HLEN := Lib.hid hlen
            have hne : ¬ ((a.kids.length : Nat) : Int) = ((b.kids.length : Nat) : Int) := by omega
            clear hlen
            go_wp2
            go_ret
            refine ⟨false, rfl, ⟨fun h => (nomatch h), fun h => ?_⟩, (F0.out.drew.trans' F1.out).trans' F2.out⟩
            have := congrArg List.length (HSI.out.1 h)
            rw [a.kids_len, b.kids_len] at this
            exact (HLEN.out this).elim
      · have hf : ¬ a.nd = b.nd := fun h => hh (hsi.1 h).1
        have HF := Lib.hid hf
        have hcase : (kd = 4 ∧ mn ≠ mn') ∨ (kd = 4 ∧ mn = mn' ∧ mx ≠ mx') ∨ (kd = 5 ∧ nu ≠ nu') ∨ (kd = 6 ∧ nu ≠ nu') := by
          by_cases h4 : kd = 4
          · by_cases e1 : mn = mn'
            · by_cases e2 : mx = mx'
              · exact (hh ⟨fun h => (h1 h).elim, fun _ => ⟨e1, e2⟩, fun h => by omega⟩).elim
              · exact .inr (.inl ⟨h4, e1, e2⟩)
            · exact .inl ⟨h4, e1⟩
          by_cases h56 : kd = 5 ∨ kd = 6
          · have e3 : nu ≠ nu' := fun e => hh ⟨fun h => (h1 h).elim, fun h => (h4 h).elim, fun _ => e⟩
            rcases h56 with h | h
            · exact .inr (.inr (.inl ⟨h, e3⟩))
            · exact .inr (.inr (.inr ⟨h, e3⟩))
          · exact (hh ⟨fun h => (h1 h).elim, fun h => (h4 h).elim, fun h => (h56 h).elim⟩).elim
        clear hh hsi hf
        rcases hcase with ⟨rfl, e1⟩ | ⟨rfl, rfl, e1⟩ | ⟨rfl, e1⟩ | ⟨rfl, e1⟩
        · have e2 : (mn != mn') = true := by simpa using e1
          go_enter Tryz.func17, Tryz.ntmps17
          go_wp2
          go_ret
          exact ⟨_, rfl, ⟨fun h => (nomatch h), fun h => (HF.out h).elim⟩, box2_fr _ _ _⟩
        · have e2 : (mx != mx') = true := by simpa using e1
          go_enter Tryz.func17, Tryz.ntmps17
          go_wp2
          go_ret
          exact ⟨_, rfl, ⟨fun h => (nomatch h), fun h => (HF.out h).elim⟩, box2_fr _ _ _⟩
        all_goals
          have e2 : (nu != nu') = true := by simpa using e1
          go_enter Tryz.func17, Tryz.ntmps17
          go_wp2
          go_ret
          exact ⟨_, rfl, ⟨fun h => (nomatch h), fun h => (HF.out h).elim⟩, box2_fr _ _ _⟩
    · have h1 : (kd != kd') = true := by simpa using hkk
      go_enter Tryz.func17, Tryz.ntmps17
      go_wp2
      go_ret
      refine ⟨false, rfl, ⟨fun h => (nomatch h), fun h => ?_⟩, box2_fr _ _ _⟩
      have := T.same_kd HKA.out HKB.out h
      rw [HEA.out, HEB.out] at this
      exact (hkk this).elim

end Go.Proofs.YtepeomphikhbkaaGreatDoor
