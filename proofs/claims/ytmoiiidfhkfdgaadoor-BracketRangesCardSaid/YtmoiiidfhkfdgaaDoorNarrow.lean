/-
  Bytes as signs, and back: plain.
-/
import Derived.Test.YtmoiiidfhkfdgaaDoorBytes
import Derived.Laws.RangeAny
namespace Go.Proofs.YtmoiiidfhkfdgaaDoor

/-- The bytes of a sign below 256. -/
def wide1 (c : UInt8) : List UInt8 := if c.toNat < 128 then [c] else [(192 + c.toNat / 64).toUInt8, (128 + c.toNat % 64).toUInt8]
def wide : List UInt8 → List UInt8
  | [] => []
  | c :: r => wide1 c ++ wide r

/-- The sign at a place, and how many bytes it has; none: it is none of the 256. -/
def nar1 (l : List UInt8) (k : Nat) : Option (UInt8 × Nat) :=
  let b := (l[k]?.getD 0).toNat
  let c := (l[k + 1]?.getD 0).toNat
  if b < 128 then some (b.toUInt8, 1)
  else if (b = 194 ∨ b = 195) ∧ k + 1 < l.length ∧ 128 ≤ c ∧ c < 192 then some (((b - 192) * 64 + c - 128).toUInt8, 2)
  else none
def nar (l : List UInt8) : Nat → Nat → List UInt8 → Option (List UInt8)
  | 0, _, _ => none
  | n + 1, k, out => if k < l.length then (match nar1 l k with | some (c, m) => nar l n (k + m) (out ++ [c]) | none => none) else some out

theorem nar_end {l : List UInt8} {n k : Nat} {out : List UInt8} (h : ¬ k < l.length) : nar l (n + 1) k out = some out := by rw [nar, if_neg h]
theorem nar_yes {l : List UInt8} {n k m : Nat} {out : List UInt8} {c : UInt8} (h : k < l.length) (e : nar1 l k = some (c, m)) : nar l (n + 1) k out = nar l n (k + m) (out ++ [c]) := by rw [nar, if_pos h, e]
theorem nar_no {l : List UInt8} {n k : Nat} {out : List UInt8} (h : k < l.length) (e : nar1 l k = none) : nar l (n + 1) k out = none := by rw [nar, if_pos h, e]

theorem nar1_le {l : List UInt8} {k m : Nat} {c : UInt8} (h : k < l.length) (e : nar1 l k = some (c, m)) : 1 ≤ m ∧ k + m ≤ l.length := by
  unfold nar1 at e
  simp only at e
  split at e
  · injection e with e; injection e with _ e; omega
  · split at e
    · injection e with e; injection e with _ e; omega
    · cases e
theorem wide1_len (c : UInt8) : 1 ≤ (wide1 c).length ∧ (wide1 c).length ≤ 2 := by unfold wide1; split <;> simp
theorem wide_append (a b : List UInt8) : wide (a ++ b) = wide a ++ wide b := by
  induction a with
  | nil => rfl
  | cons c r ih => simp only [List.cons_append, wide, ih, List.append_assoc]
theorem wide_take {l : List UInt8} {k : Nat} (h : k < l.length) : wide (l.take (k + 1)) = wide (l.take k) ++ wide1 l[k] := by
  rw [List.take_succ_eq_append_getElem h, wide_append]; simp [wide]
theorem wide_split {l : List UInt8} {k : Nat} (h : k < l.length) : wide l = wide (l.take k) ++ (wide1 l[k] ++ wide (l.drop (k + 1))) := by
  conv => lhs; rw [← List.take_append_drop k l, wide_append, List.drop_eq_getElem_cons h]
  rfl
theorem wide_le (l : List UInt8) : (wide l).length ≤ 2 * l.length ∧ l.length ≤ (wide l).length := by
  induction l with
  | nil => simp [wide]
  | cons c r ih => have := wide1_len c; simp only [wide, List.length_append, List.length_cons]; omega

theorem nar1_wide (p q : List UInt8) (c : UInt8) : nar1 (p ++ (wide1 c ++ q)) p.length = some (c, (wide1 c).length) := by
  have hc := c.toNat_lt
  unfold wide1
  split
  · next h => simp [nar1, h]
  · next h =>
    have e1 : (192 + c.toNat / 64).toUInt8.toNat = 192 + c.toNat / 64 := by simp; omega
    have e2 : (128 + c.toNat % 64).toUInt8.toNat = 128 + c.toNat % 64 := by simp; omega
    unfold nar1
    have g0 : (p ++ ([(192 + c.toNat / 64).toUInt8, (128 + c.toNat % 64).toUInt8] ++ q))[p.length]? = some (192 + c.toNat / 64).toUInt8 := by
      rw [List.getElem?_append_right (Nat.le_refl _), Nat.sub_self]; rfl
    have g1 : (p ++ ([(192 + c.toNat / 64).toUInt8, (128 + c.toNat % 64).toUInt8] ++ q))[p.length + 1]? = some (128 + c.toNat % 64).toUInt8 := by
      rw [List.getElem?_append_right (by omega), show p.length + 1 - p.length = 1 by omega]; rfl
    rw [g0, g1]
    simp only [Option.getD_some, e1, e2]
    rw [if_neg (by omega), if_pos ⟨by omega, by simp, by omega, by omega⟩]
    have : (192 + c.toNat / 64 - 192) * 64 + (128 + c.toNat % 64) - 128 = c.toNat := by omega
    rw [this]
    simp
theorem nar1_at {l : List UInt8} {k : Nat} (h : k < l.length) : nar1 (wide l) (wide (l.take k)).length = some (l[k], (wide1 l[k]).length) := by
  rw [wide_split h]; exact nar1_wide _ _ _
theorem wide_at {l : List UInt8} {k : Nat} (h : k < l.length) : (wide (l.take k)).length < (wide l).length := by
  conv => rhs; rw [wide_split h]
  have := wide1_len l[k]
  simp only [List.length_append]; omega
theorem nar_wide (l : List UInt8) : ∀ (j k n : Nat), k + j = l.length → j < n → nar (wide l) n (wide (l.take k)).length (l.take k) = some l := by
  intro j
  induction j with
  | zero =>
    intro k n hk hn
    obtain ⟨m, rfl⟩ : ∃ m, n = m + 1 := ⟨n - 1, by omega⟩
    have : l.take k = l := List.take_of_length_le (by omega)
    rw [this, nar_end (by omega)]
  | succ j ih =>
    intro k n hk hn
    obtain ⟨m, rfl⟩ : ∃ m, n = m + 1 := ⟨n - 1, by omega⟩
    have hlt : k < l.length := by omega
    rw [nar_yes (wide_at hlt) (nar1_at hlt)]
    have := ih (k + 1) m (by omega) (by omega)
    rw [wide_take hlt, List.length_append, List.take_succ_eq_append_getElem hlt] at this
    exact this

theorem bget_at (l : List UInt8) (i : Nat) : ((ByteArray.mk l.toArray).get! i) = l[i]?.getD 0 := by
  show (l.toArray)[i]! = _
  rw [getElem!_def]; simp
  cases l[i]? <;> rfl

/-- What a range over a string tells of a place. -/
theorem decode_yes {l : List UInt8} {k m : Nat} {c : UInt8} (h : k < l.length) (e : nar1 l k = some (c, m)) : Utf8.decode ⟨l.toArray⟩ k = (c.toNat, m) := by
  unfold nar1 at e
  unfold Utf8.decode
  simp only [bget_at, bsize, Nat.add_zero] at e ⊢
  have hb := (l[k]?.getD 0).toNat_lt
  have hc := (l[k + 1]?.getD 0).toNat_lt
  generalize (l[k]?.getD 0).toNat = b at *
  generalize (l[k + 1]?.getD 0).toNat = d at *
  split at e
  · next hlt =>
    rw [if_pos hlt]
    injection e with e; injection e with e1 e2
    subst e1; subst e2
    simp; omega
  · next hge =>
    rw [if_neg hge]
    split at e
    · next hx =>
      injection e with e; injection e with e1 e2
      subst e1; subst e2
      have q1 : (b / 32 == 6) = true := by simp; omega
      have q2 : (d / 64 == 2) = true := by simp; omega
      have q3 : decide (k + 1 < l.length) = true := by simp; omega
      simp only [q1, q2, q3, Bool.and_self, if_true]
      rw [if_pos (by omega)]
      simp; omega
    · cases e
theorem decode_no {l : List UInt8} {k : Nat} (h : k < l.length) (e : nar1 l k = none) : 256 ≤ (Utf8.decode ⟨l.toArray⟩ k).1 := by
  unfold nar1 at e
  unfold Utf8.decode
  simp only [bget_at, bsize, Nat.add_zero] at e ⊢
  have hb := (l[k]?.getD 0).toNat_lt
  have hc := (l[k + 1]?.getD 0).toNat_lt
  generalize (l[k]?.getD 0).toNat = b at *
  generalize (l[k + 1]?.getD 0).toNat = d at *
  split at e
  · cases e
  · next hge =>
    rw [if_neg hge]
    split at e
    · cases e
    · next hx =>
      split
      · next hy =>
        simp only [Bool.and_eq_true, beq_iff_eq, decide_eq_true_eq] at hy
        split
        · show 256 ≤ _; simp only; omega
        · simp [Utf8.runeError]
      · split
        · split
          · next hz => simp only [Bool.and_eq_true, decide_eq_true_eq] at hz; show 256 ≤ _; simp only; omega
          · simp [Utf8.runeError]
        · split
          · split
            · next hz => simp only [Bool.and_eq_true, decide_eq_true_eq] at hz; show 256 ≤ _; simp only; omega
            · simp [Utf8.runeError]
          · simp [Utf8.runeError]

end Go.Proofs.YtmoiiidfhkfdgaaDoor
