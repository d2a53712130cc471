/-
  Walks of the document's Parse. Printed by tools/rparse02.py.
-/
import Derived.Test.YtmoiiidfhkfdgaaDoorBrkL
import Derived.Test.YtmoiiidfhkfdgaaDoorBrkO
import Derived.Deep.DeepCutAuto
namespace Go.Proofs.YtmoiiidfhkfdgaaDoor
open Go.RowKit

theorem stop_seq {P : Program} {Q : Exit → Act → World → Prop} {a : Act} {w : World} {ops : Array Oper} {b : Bool} {c : Code} (n : Nat) (h : ∀ X : Prop, Hid (((Code.region n ops b).seq c).wp P Q a w → X) → X) : ((Code.region n ops b).seq c).wp P Q a w := h _ (Lib.hid id)
abbrev AtR (w : World) (b : Nat) (s : S4) : Prop := w.heap[b]? = some (.cells #[.int .u64 s.a, .int .u64 s.b, .int .u64 s.c, .int .u64 s.d] 29 (0, 0))
def RS (l : List UInt8) (F : (Int × Nat) ⊕ (S4 × Nat)) (fst : Bool) (n k : Nat) (acc : S4) : Prop :=
  if fst then acc = S4.zero ∧ n = l.length + 2 ∧ lopF l (l.length + 1) (prt l k) = F else lop l n k acc = F
theorem orF_zero {l : List UInt8} {k : Nat} : orF S4.zero (prt l k) = prt l k := by
  cases h : prt l k with
  | inl z => rfl
  | inr x => have := (prt_next h).2.2; simp only [orF]; rw [zero_or this]
theorem RS.go {l : List UInt8} {F : (Int × Nat) ⊕ (S4 × Nat)} {fst : Bool} {m k : Nat} {acc : S4} (h : RS l F fst (m + 1) k acc) (hg : fst = true ∨ l[k]? ≠ some 93) : lopF l m (orF acc (prt l k)) = F := by
  unfold RS at h
  cases fst with
  | true =>
    simp only [if_true] at h
    obtain ⟨rfl, h1, h2⟩ := h
    obtain rfl : m = l.length + 1 := by omega
    rw [orF_zero]; exact h2
  | false =>
    rw [if_neg (by simp)] at h
    rw [← h]
    exact (lop_go (hg.resolve_left (by simp))).symm
theorem RS.halt {l : List UInt8} {F : (Int × Nat) ⊕ (S4 × Nat)} {m k : Nat} {acc : S4} (h : RS l F false (m + 1) k acc) (hg : l[k]? = some 93) : F = .inr (acc, k) := by
  unfold RS at h
  rw [if_neg (by simp)] at h
  rw [← h]; exact lop_end hg
theorem itmN_err {l : List UInt8} {a : Nat} {k : UInt8} {z : Int × Nat} (h : itmN l a k = .inl z) : z.1 ≠ 0 := by
  unfold itmN at h
  split at h
  · injection h with h; subst h; simp
  · split at h
    · split at h
      · injection h with h; subst h; simp
      · cases h
    · split at h
      · cases h
      · injection h with h; subst h; simp
theorem itm_err {l : List UInt8} {a : Nat} {z : Int × Nat} (h : itm l a = .inl z) : z.1 ≠ 0 := by
  unfold itm at h
  split at h
  · injection h with h; subst h; simp
  · split at h
    · cases h
    · split at h
      · exact itmN_err h
      · cases h
theorem RS.next {l : List UInt8} {F : (Int × Nat) ⊕ (S4 × Nat)} {m k p : Nat} {acc s : S4} (h : lopF l m (orF acc (prt l k)) = F) (hn : lopN l m (orF acc (prt l k))) (hp : prt l k = .inr (s, p)) :
    RS l F false m p (acc.or s) ∧ p ≤ l.length ∧ l.length < m + p := by
  rw [hp] at h hn
  refine ⟨?_, hn _ rfl⟩
  unfold RS
  rw [if_neg (by simp)]
  exact h
theorem RS.bad {l : List UInt8} {F : (Int × Nat) ⊕ (S4 × Nat)} {m k : Nat} {acc : S4} {z : Int × Nat} (h : lopF l m (orF acc (prt l k)) = F) (hp : prt l k = .inl z) : F = .inl z := by
  rw [← h, hp]; rfl
theorem rng_yes {l : List UInt8} {k : Nat} (h : rng l k = true) : ∃ h : k + 1 < l.length, l[k] = 45 ∧ l[k + 1] ≠ 93 := by
  unfold rng at h
  simp only [Bool.and_eq_true, decide_eq_true_eq, beq_iff_eq, Bool.not_eq_true', beq_eq_false_iff_ne] at h
  obtain ⟨⟨h1, h2⟩, h3⟩ := h
  exact ⟨h1, (List.getElem?_eq_some_iff.1 h2).2, fun e => h3 (by rw [List.getElem?_eq_getElem h1, e])⟩
theorem rng_no {l : List UInt8} {k : Nat} (h : rng l k = false) : l.length ≤ k + 1 ∨ (∃ h : k + 1 < l.length, l[k] ≠ 45) ∨ ∃ h : k + 1 < l.length, l[k] = 45 ∧ l[k + 1] = 93 := by
  by_cases h1 : k + 1 < l.length
  · by_cases h2 : l[k] = 45
    · by_cases h3 : l[k + 1] = 93
      · exact .inr (.inr ⟨h1, h2, h3⟩)
      · exfalso
        unfold rng at h
        rw [List.getElem?_eq_getElem h1, List.getElem?_eq_getElem (by omega : k < l.length)] at h
        simp [h1, h2, h3] at h
    · exact .inr (.inl ⟨h1, h2⟩)
  · exact .inl (by omega)
def PAns (R : (Int × Nat) ⊕ (S4 × Nat)) (w : World) (e : Ending) (w' : World) : Prop := e = .returned (prsV R) ∧ Fr nob w w'
abbrev RInv (l : List UInt8) (w : World) (F : (Int × Nat) ⊕ (S4 × Nat)) (n : Nat) (v1 v10 : Value) (wr : World) : Prop :=
  ∃ (k : Nat) (acc : S4) (fst : Bool), v1 = .int .i64 k ∧ v10 = .bool fst ∧ AtR wr (w.heap.size + 1) acc ∧ AtR wr w.heap.size S4.zero ∧ AtR wr (w.heap.size + 2) S4.zero ∧ Fr nob w wr ∧ acc.fit ∧ k ≤ l.length ∧ l.length < n + k ∧ RS l F fst n k acc

end Go.Proofs.YtmoiiidfhkfdgaaDoor
