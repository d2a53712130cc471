/-
  Walks of package bracket: Parse.
-/
import Derived.Test.YtmoiiidfhkfdgaaDoorBrkG
namespace Go.Proofs.YtmoiiidfhkfdgaaDoor
open Go.RowKit

theorem Env.big {w : World} (h : Env w) : 2 ≤ w.heap.size + 1 := by
  obtain ⟨m, hm⟩ := h.2
  have := World.block_lt_of_cell? w _ hm
  simp only at this
  omega
def prsV : (Int × Nat) ⊕ (S4 × Nat) → Value
  | .inl z => .tuple #[setV S4.zero, .int .i64 z.2, .int .i64 z.1]
  | .inr x => .tuple #[setV x.1, .int .i64 x.2, .int .i64 0]

/-- A set and two numbers that are handed back. -/
theorem results_set3 {fn : Func} {p q r : Tmp} (h : fn.results = #[.cell p 25, .tmp q, .tmp r]) {tmps : Array Value} {b : Nat} (ht : tmps.getD p undef = .pointer (some ⟨b, 0, none⟩)) {u v : Value} (hq : tmps.getD q undef = u) (hr : tmps.getD r undef = v) {W : World} {s : S4}
    (hb : W.heap[b]? = some (.cells #[.int .u64 s.a, .int .u64 s.b, .int .u64 s.c, .int .u64 s.d] 25 (0, 0))) : (results fn tmps).run Tryd.prog W = .ok (.tuple #[setV s, u, v]) W := by
  have c0 := cell_at (j := 0) (v := .int .u64 s.a) hb rfl
  have c1 := cell_at (j := 1) (v := .int .u64 s.b) hb rfl
  have c2 := cell_at (j := 2) (v := .int .u64 s.c) hb rfl
  have c3 := cell_at (j := 3) (v := .int .u64 s.d) hb rfl
  have ht' : tmps[p]?.getD undef = .pointer (some ⟨b, 0, none⟩) := by rw [← ht]; simp
  have hq' : tmps[q]?.getD undef = u := by rw [← hq]; simp
  have hr' : tmps[r]?.getD undef = v := by rw [← hr]; simp
  simp only [results, h]
  simp [ht', hq', hr', go_sem, c0, c1, c2, c3]

abbrev Q4 (w : World) (b : Nat) (s : S4) : Prop := w.cell? ⟨b, 0, none⟩ = some (.int .u64 s.a) ∧ w.cell? ⟨b, 1, none⟩ = some (.int .u64 s.b) ∧ w.cell? ⟨b, 2, none⟩ = some (.int .u64 s.c) ∧ w.cell? ⟨b, 3, none⟩ = some (.int .u64 s.d)
abbrev At4 (w : World) (b : Nat) (s : S4) : Prop := w.heap[b]? = some (.cells #[.int .u64 s.a, .int .u64 s.b, .int .u64 s.c, .int .u64 s.d] 25 (0, 0))
theorem Q4.of {w : World} {b : Nat} {s : S4} (h : At4 w b s) : Q4 w b s := ⟨cell_at h rfl, cell_at h rfl, cell_at h rfl, cell_at h rfl⟩
theorem or_lit (s t : S4) (w : World) : Calls Tryd.prog 19 #[setV s, setV t] w fun e w' => e = .returned (setV (s.or t)) ∧ Fr nob w w' := or_any s t w
theorem not_lit (s : S4) (w : World) : Calls Tryd.prog 11 #[setV s] w fun e w' => e = .returned (setV s.not) ∧ Fr nob w w' := not_any s w

/-- What the loop is to come to. -/
def lopF (l : List UInt8) (n : Nat) : (Int × Nat) ⊕ (S4 × Nat) → (Int × Nat) ⊕ (S4 × Nat)
  | .inl z => .inl z
  | .inr x => lop l n x.2 x.1
def lopN (l : List UInt8) (n : Nat) (R : (Int × Nat) ⊕ (S4 × Nat)) : Prop := ∀ x, R = .inr x → x.2 ≤ l.length ∧ l.length < n + x.2
def orF (s : S4) : (Int × Nat) ⊕ (S4 × Nat) → (Int × Nat) ⊕ (S4 × Nat)
  | .inl z => .inl z
  | .inr x => .inr (s.or x.1, x.2)
theorem lop_go {l : List UInt8} {n a : Nat} {s : S4} (h : l[a]? ≠ some 93) : lop l (n + 1) a s = lopF l n (orF s (prt l a)) := by
  rw [lop, if_neg h]
  cases prt l a <;> rfl
theorem lop_end {l : List UInt8} {n a : Nat} {s : S4} (h : l[a]? = some 93) : lop l (n + 1) a s = .inr (s, a) := by rw [lop, if_pos h]
theorem lopN_go {l : List UInt8} {n a : Nat} {s : S4} (hn : l.length < n + 1 + a) : lopN l n (orF s (prt l a)) := by
  intro x hx
  cases hp : prt l a with
  | inl z => rw [hp] at hx; cases hx
  | inr y =>
    rw [hp] at hx
    injection hx with hx; subst hx
    have := prt_next hp
    exact ⟨this.2.1, by simp only; omega⟩
theorem PtEnd.or {b : Nat} {l : List UInt8} {p : Int} {s t : S4} {R : (Int × Nat) ⊕ (S4 × Nat)} {w : World} (h : PtEnd b l p s R w) : PtEnd b l p (t.or s) (orF t R) w := by
  cases R with
  | inr x => exact ⟨by rw [h.1], h.2⟩
  | inl z => exact h
def prsNot (d : Bool) : (Int × Nat) ⊕ (S4 × Nat) → (Int × Nat) ⊕ (S4 × Nat)
  | .inl z => .inl z
  | .inr y => .inr (if d then y.1.not else y.1, y.2 + 1)
theorem prs_yes {l : List UInt8} {a : Nat} (h : [94].isPrefixOf (l.drop a) = true) : prs l a = prsNot true (lopF l (l.length + 1) (prt l (a + 1))) := by
  have h := pre1.1 h
  unfold prs prsNot lopF
  simp only [h, if_true]
  cases prt l (a + 1) with
  | inl z => rfl
  | inr x => simp only; cases lop l (l.length + 1) x.2 x.1 <;> rfl
theorem prs_no {l : List UInt8} {a : Nat} (h : [94].isPrefixOf (l.drop a) = false) : prs l a = prsNot false (lopF l (l.length + 1) (prt l a)) := by
  have h : ¬ l[a]? = some 94 := fun e => by rw [pre1.2 e] at h; cases h
  unfold prs prsNot lopF
  simp only [if_neg h]
  cases prt l a with
  | inl z => rfl
  | inr x => simp only; cases lop l (l.length + 1) x.2 x.1 <;> rfl

theorem setFour_one (w : World) (b : Nat) (v0 v1 v2 v3 : Value) : Fr (fun k => k = b) w (setFour w b v0 v1 v2 v3) :=
  have h : ∀ (x : World) (j : Nat) (v : Value), Fr (fun k => k = b) w x → Fr (fun k => k = b) w (x.setCell ⟨b, j, none⟩ v) := fun x j v hx => hx.setCell (p := ⟨b, j, none⟩) (fun _ => rfl) v
  h _ _ _ (h _ _ _ (h _ _ _ (h _ _ _ (Fr.refl _ _))))
theorem itm_not91 {l : List UInt8} {a : Nat} (ha : a < l.length) (h : ¬ l[a] = 91) : itm l a = .inr ⟨spn (l[a]).toNat (l[a]).toNat, some l[a], a + 1⟩ := by
  unfold itm
  rw [List.getElem?_eq_getElem ha]; simp only
  split
  · rfl
  · rw [if_neg (fun e => h e.1)]
theorem itm_last {l : List UInt8} {a : Nat} (ha : a < l.length) (h : l.length ≤ a + 1) : itm l a = .inr ⟨spn (l[a]).toNat (l[a]).toNat, some l[a], a + 1⟩ := by
  unfold itm
  rw [List.getElem?_eq_getElem ha]; simp only
  rw [List.getElem?_eq_none h]
theorem itm_unkind {l : List UInt8} {a : Nat} (ha : a + 1 < l.length) (h : isKind l[a + 1] = false) : itm l a = .inr ⟨spn (l[a]).toNat (l[a]).toNat, some l[a], a + 1⟩ := by
  unfold itm
  rw [List.getElem?_eq_getElem (by omega : a < l.length)]; simp only
  rw [List.getElem?_eq_getElem ha]; simp only
  rw [if_neg (fun e => by rw [h] at e; exact absurd e.2 (by simp))]
theorem itm_kind {l : List UInt8} {a : Nat} {k : UInt8} (ha : a + 1 < l.length) (h : l[a] = 91) (hk : l[a + 1] = k) (h2 : isKind k = true) : itm l a = itmN l a k := by
  unfold itm
  rw [List.getElem?_eq_getElem (by omega : a < l.length)]; simp only
  rw [List.getElem?_eq_getElem ha]; simp only
  rw [hk, if_pos ⟨h, h2⟩]
def colIt' (a e : Nat) : Option (Int → Bool) → (Int × Nat) ⊕ It
  | none => .inl (6, a)
  | some p => .inr ⟨pk p 256, none, e + 2⟩
abbrev RQ (w : World) (b : Nat) (v2 v3 : Value) : Prop := w.cell? ⟨b, 2, none⟩ = some v2 ∧ w.cell? ⟨b, 3, none⟩ = some v3
theorem cell_ne {w : World} {b c i j : Nat} {v u : Value} (h : w.cell? ⟨b, i, none⟩ = some v) (hn : c ≠ b) : (w.setCell ⟨c, j, none⟩ u).cell? ⟨b, i, none⟩ = some v := by
  have hb : (w.setCell ⟨c, j, none⟩ u).heap[b]? = w.heap[b]? := by
    cases hx : w.heap[b]? with
    | none =>
      have : w.heap.size ≤ b := Array.getElem?_eq_none_iff.1 hx
      exact Array.getElem?_eq_none_iff.2 (by simpa using this)
    | some x => exact heap_setCell_ne hx (Ne.symm hn) _
  unfold World.cell? at h ⊢
  simp only [hb]
  exact h
theorem RQ.drew {w : World} {b : Nat} {v2 v3 : Value} (h : RQ w b v2 v3) : RQ w.drew b v2 v3 := h
theorem RQ.set {w : World} {b c j : Nat} {v2 v3 : Value} (h : RQ w b v2 v3) (hn : c ≠ b) (u : Value) : RQ (w.setCell ⟨c, j, none⟩ u) b v2 v3 := ⟨cell_ne h.1 hn, cell_ne h.2 hn⟩
abbrev RA (w : World) (b : Nat) (v1 : Value) (r9 : Nat) (s : S4) : Prop := w.cell? ⟨b, 1, none⟩ = some v1 ∧ Q4 w r9 s
theorem RA.drew {w : World} {b r9 : Nat} {v1 : Value} {s : S4} (h : RA w b v1 r9 s) : RA w.drew b v1 r9 s := h
theorem RA.set {w : World} {b c j r9 : Nat} {v1 : Value} {s : S4} (h : RA w b v1 r9 s) (hn : c ≠ b) (hn9 : c ≠ r9) (u : Value) : RA (w.setCell ⟨c, j, none⟩ u) b v1 r9 s :=
  ⟨cell_ne h.1 hn, cell_ne h.2.1 hn9, cell_ne h.2.2.1 hn9, cell_ne h.2.2.2.1 hn9, cell_ne h.2.2.2.2 hn9⟩

end Go.Proofs.YtmoiiidfhkfdgaaDoor
