/-
  Walks of package bracket: named, item.
-/
import Derived.Test.YtmoiiidfhkfdgaaDoorBrkA
import Derived.Test.YtmoiiidfhkfdgaaDoorShelf
import Derived.Test.YtmoiiidfhkfdgaaDoorAwake1
namespace Go.Proofs.YtmoiiidfhkfdgaaDoor
open Go.RowKit

/-- What the library's variables hold. -/
def Env (w : World) : Prop := Tab w ∧ ∃ m, w.cell? ⟨1, 0, none⟩ = some (.int .i64 m)
theorem Env.on {w w' : World} (h : Env w) (f : Fr nob w w') : Env w' := ⟨h.1.on f, let ⟨m, hm⟩ := h.2; ⟨m, f.cell hm (fun x => x)⟩⟩
theorem Env.on2 {w w' : World} {b : Nat} (h : Env w) (f : Fr (fun k => k = b) w w') (hb : 2 ≤ b) : Env w' :=
  ⟨h.1.on2 f (fun e => by omega), let ⟨m, hm⟩ := h.2; ⟨m, f.cell hm (fun e => by simp only at e; omega)⟩⟩

theorem strIndex (s t : List UInt8) (w : World) (hs : s.length ≤ 1000000) (h : Env w) :
    Calls Tryd.prog 38 #[.string ⟨s.toArray⟩, .string ⟨t.toArray⟩] w fun e w' => e = .returned (.int .i64 (Lib.index s t)) ∧ w = w' := by
  obtain ⟨m, hm⟩ := h.2
  refine (Tryd.strings_Index ⟨s.toArray⟩ ⟨t.toArray⟩ m w (by rw [bsize]; omega) hm).mono ?_
  rintro e w' ⟨rfl, rfl⟩
  exact ⟨rfl, rfl⟩

/-- An item of five cells that is handed back out of a variable. -/
theorem results_it {fn : Func} {p : Tmp} (h : fn.results = #[.cell p 57]) {tmps : Array Value} {r : Nat} (ht : tmps.getD p undef = .pointer (some ⟨r, 0, none⟩)) {W : World} {s : S4} {e : Bool}
    (hb : W.heap[r]? = some (.cells #[.int .u64 s.a, .int .u64 s.b, .int .u64 s.c, .int .u64 s.d, .bool e] 57 (0, 0))) : (results fn tmps).run Tryd.prog W = .ok (itV s e) W := by
  have c0 := cell_at (j := 0) (v := .int .u64 s.a) hb rfl
  have c1 := cell_at (j := 1) (v := .int .u64 s.b) hb rfl
  have c2 := cell_at (j := 2) (v := .int .u64 s.c) hb rfl
  have c3 := cell_at (j := 3) (v := .int .u64 s.d) hb rfl
  have c4 := cell_at (j := 4) (v := .bool e) hb rfl
  have ht' : tmps[p]?.getD undef = .pointer (some ⟨r, 0, none⟩) := by rw [← ht]; simp
  simp only [results, h]
  simp [ht', go_sem, c0, c1, c2, c3, c4]
theorem rule5 {w : World} {b : Nat} {v0 v1 v2 v3 v4 : Value} {T : TypeId} (h : w.heap[b]? = some (.cells #[v0, v1, v2, v3, v4] T (0, 0))) : ∀ w', Fr nob w w' →
    (w'.cell? ⟨b, 0, none⟩ = some v0 ∧ w'.cell? ⟨b, 1, none⟩ = some v1 ∧ w'.cell? ⟨b, 2, none⟩ = some v2 ∧ w'.cell? ⟨b, 3, none⟩ = some v3 ∧ w'.cell? ⟨b, 4, none⟩ = some v4) ∧
    (w'.frozen? ⟨b, 0, none⟩ = false ∧ w'.frozen? ⟨b, 1, none⟩ = false ∧ w'.frozen? ⟨b, 2, none⟩ = false ∧ w'.frozen? ⟨b, 3, none⟩ = false ∧ w'.frozen? ⟨b, 4, none⟩ = false) := fun _ f => by
  have h' := f.heap h (fun x => x)
  exact ⟨⟨cell_at h' rfl, cell_at h' rfl, cell_at h' rfl, cell_at h' rfl, cell_at h' rfl⟩, unfrozen_at h' _, unfrozen_at h' _, unfrozen_at h' _, unfrozen_at h' _, unfrozen_at h' _⟩
abbrev setFive (w : World) (b : Nat) (v0 v1 v2 v3 v4 : Value) : World := (setFour w b v0 v1 v2 v3).setCell ⟨b, 4, none⟩ v4
theorem setFive_heap {w : World} {b : Nat} {a0 a1 a2 a3 a4 : Value} {T : TypeId} {fr : Nat × Nat} (h : w.heap[b]? = some (.cells #[a0, a1, a2, a3, a4] T fr)) (v0 v1 v2 v3 v4 : Value) :
    (setFive w b v0 v1 v2 v3 v4).heap[b]? = some (.cells #[v0, v1, v2, v3, v4] T fr) := by
  have h0 : (w.setCell ⟨b, 0, none⟩ v0).heap[b]? = some (.cells #[v0, a1, a2, a3, a4] T fr) := heap_setCell_at h 0 v0
  have h1 : ((w.setCell ⟨b, 0, none⟩ v0).setCell ⟨b, 1, none⟩ v1).heap[b]? = some (.cells #[v0, v1, a2, a3, a4] T fr) := heap_setCell_at h0 1 v1
  have h2 : (((w.setCell ⟨b, 0, none⟩ v0).setCell ⟨b, 1, none⟩ v1).setCell ⟨b, 2, none⟩ v2).heap[b]? = some (.cells #[v0, v1, v2, a3, a4] T fr) := heap_setCell_at h1 2 v2
  have h3 : (setFour w b v0 v1 v2 v3).heap[b]? = some (.cells #[v0, v1, v2, v3, a4] T fr) := heap_setCell_at h2 3 v3
  exact heap_setCell_at h3 4 v4
theorem setFive_fr {S : Nat → Prop} {w a : World} {b : Nat} (f : Fr S a w) (hb : a.heap.size ≤ b) (v0 v1 v2 v3 v4 : Value) : Fr S a (setFive w b v0 v1 v2 v3 v4) := by
  have h : ∀ (x : World) (j : Nat) (v : Value), Fr S a x → Fr S a (x.setCell ⟨b, j, none⟩ v) := fun x j v hx => hx.setCell (p := ⟨b, j, none⟩) (fun h => absurd h (Nat.not_lt.2 hb)) v
  exact h _ _ _ (h _ _ _ (h _ _ _ (h _ _ _ (h _ _ _ f))))
theorem setFive_old {w : World} {b k : Nat} {o : Obj} (hk : w.heap[k]? = some o) (hne : k ≠ b) (v0 v1 v2 v3 v4 : Value) : (setFive w b v0 v1 v2 v3 v4).heap[k]? = some o :=
  heap_setCell_ne (heap_setCell_ne (heap_setCell_ne (heap_setCell_ne (heap_setCell_ne hk hne _) hne _) hne _) hne _) hne _

theorem puts_one (c : UInt8) : S4.zero.puts [c] = spn c.toNat c.toNat := S4.ext_has (fit_puts _ fit_zero) (fit_spn _ _) fun e he => by
  have := c.toNat_lt
  rw [has_puts _ _ he, has_zero, has_spn _ _ _ (by omega) (by omega) he]
  by_cases h : c.toNat = e
  · subst h; simp
  · simp only [List.any_cons, List.any_nil, Bool.or_false, h, decide_false]
    by_cases h2 : c.toNat ≤ e
    · simp [h2]; omega
    · simp [h2]
theorem of_one (c : UInt8) (w : World) (T : TypeId) : Calls Tryd.prog 34 #[.slice (some ⟨w.heap.size, 0, none⟩) 1 1] (w.alloc (.cells #[.int .u8 (c.toNat : Int)] T)) fun e w' => e = .returned (setV (spn c.toNat c.toNat)) ∧ Fr nob (w.alloc (.cells #[.int .u8 (c.toNat : Int)] T)) w' := by
  rw [← puts_one]; exact of_lit [c] _ _ (by simp) (SB_new1 w c T)
theorem dot_some (k c : UInt8) : ((k.toNat : Int) == 46) = (if k = 46 then some c else none).isSome := by
  by_cases h : k = 46
  · subst h; rfl
  · have := (fun e => h (UInt8.toNat_inj.1 e) : k.toNat ≠ (46 : UInt8).toNat)
    rw [if_neg h]; simp at this ⊢; omega

abbrev ItEnd (b : Nat) (l : List UInt8) (p : Int) (s : S4) (o : Bool) (R : (Int × Nat) ⊕ It) (w' : World) : Prop := match R with
    | .inr x => s = x.set ∧ o = x.one.isSome ∧ Rd w' b l x.next 0 p
    | .inl z => ∃ a' : Nat, a' ≤ l.length ∧ z.1 ≠ 0 ∧ Rd w' b l a' z.1 z.2
theorem ItEnd.to {b : Nat} {l : List UInt8} {p : Int} {s : S4} {o : Bool} {R : (Int × Nat) ⊕ It} {w w' : World} (h : ItEnd b l p s o R w) (f : ∀ x r q, Rd w b l x r q → Rd w' b l x r q) : ItEnd b l p s o R w' := by
  cases R with
  | inr x => exact ⟨h.1, h.2.1, f _ _ _ h.2.2⟩
  | inl z => obtain ⟨a', h1, h2, h3⟩ := h; exact ⟨a', h1, h2, f _ _ _ h3⟩
/-- Behind an item that was read, or was wrong. -/
def ItAns (b : Nat) (l : List UInt8) (a : Nat) (p : Int) (R : (Int × Nat) ⊕ It) (w : World) (e : Ending) (w' : World) : Prop :=
  ∃ s o, e = .returned (itV s o) ∧ s.fit ∧ Fr (fun k => k = b) w w' ∧ ItEnd b l p s o R w'

end Go.Proofs.YtmoiiidfhkfdgaaDoor
