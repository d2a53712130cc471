/-
  Counting a set's bytes one by one is what the bits' sum is. Plain: no walk.
-/
import Derived.Test.YtmoiiidfhkfdgaaDoorOctetD
namespace Go.Proofs.YtmoiiidfhkfdgaaDoor

/-- How many below k are so. -/
def cntTo (f : Nat → Bool) : Nat → Nat
  | 0 => 0
  | k + 1 => cntTo f k + (if f k = true then 1 else 0)
theorem cntTo_le (f : Nat → Bool) (k : Nat) : cntTo f k ≤ k := by
  induction k with
  | zero => exact Nat.le_refl _
  | succ k ih => simp only [cntTo]; split <;> omega
theorem cntTo_add (f : Nat → Bool) (a b : Nat) : cntTo f (a + b) = cntTo f a + cntTo (fun i => f (a + i)) b := by
  induction b with
  | zero => rfl
  | succ b ih => rw [← Nat.add_assoc]; simp only [cntTo, ih]; omega
theorem cntTo_congr {f g : Nat → Bool} {k : Nat} (h : ∀ i, i < k → f i = g i) : cntTo f k = cntTo g k := by
  induction k with
  | zero => rfl
  | succ k ih => simp only [cntTo, ih (fun i hi => h i (by omega)), h k (by omega)]

theorem bit_if (m k : Nat) : (if decide (m / k % 2 = 1) = true then 1 else 0) = m / k % 2 := by
  by_cases h : m / k % 2 = 1
  · simp [h]
  · have : m / k % 2 = 0 := by omega
    simp [this]
theorem cnt8 (m : Nat) : cntTo (fun i => decide (m / 2 ^ i % 2 = 1)) 8 = pop8 (m % 256) := by
  simp only [cntTo, bit_if]
  unfold pop8
  simp only [Nat.reducePow]
  omega
theorem cnt64 (n : Nat) (_h : n < 18446744073709551616) : cntTo (fun i => decide (n / 2 ^ i % 2 = 1)) 64 = pop n := by
  have st : ∀ (m : Nat) (k : Nat), cntTo (fun i => decide (m / 2 ^ i % 2 = 1)) (8 + k) = pop8 (m % 256) + cntTo (fun i => decide (m / 256 / 2 ^ i % 2 = 1)) k := by
    intro m k
    rw [cntTo_add, cnt8]
    congr 1
    refine cntTo_congr fun i _ => ?_
    rw [Nat.div_div_eq_div_mul, show 2 ^ (8 + i) = 256 * 2 ^ i by rw [Nat.pow_add]]
  rw [show 64 = 8 + (8 + (8 + (8 + (8 + (8 + (8 + (8 + 0))))))) from rfl, st, st, st, st, st, st, st, st]
  simp only [cntTo, Nat.div_div_eq_div_mul]
  unfold pop
  simp only [Nat.reduceMul]
  omega

theorem wd_bit (n i : Nat) (hn : n < 18446744073709551616) (_hi : i < 64) : (wd (n : Int)).getLsbD i = decide (n / 2 ^ i % 2 = 1) := by
  have h1 : wd (n : Int) = BitVec.ofNat 64 n := by unfold wd; simp
  rw [h1, BitVec.getLsbD, BitVec.toNat_ofNat, Nat.mod_eq_of_lt (by simpa using hn), Nat.testBit_eq_decide_div_mod_eq]
theorem cnt_word {x : Int} (h : Fit x) : cntTo (fun i => (wd x).getLsbD i) 64 = pop x.toNat := by
  obtain ⟨n, rfl⟩ := Int.eq_ofNat_of_zero_le h.1
  have hn : n < 18446744073709551616 := by have := h.2; omega
  rw [cntTo_congr (fun i hi => wd_bit n i hn hi), cnt64 n hn]
  simp
/-- A set's bytes, counted. -/
theorem cnt_set {s : S4} (h : s.fit) : cntTo s.has 256 = s.len := by
  obtain ⟨h0, h1, h2, h3⟩ := h
  have e0 : cntTo (fun i => s.has i) 64 = pop s.a.toNat := by
    rw [← cnt_word h0]; refine cntTo_congr fun i hi => ?_
    unfold S4.has S4.word; rw [show i / 64 = 0 by omega, show i % 64 = i by omega]; rfl
  have e1 : cntTo (fun i => s.has (64 + i)) 64 = pop s.b.toNat := by
    rw [← cnt_word h1]; refine cntTo_congr fun i hi => ?_
    unfold S4.has S4.word; rw [show (64 + i) / 64 = 1 by omega, show (64 + i) % 64 = i by omega]; rfl
  have e2 : cntTo (fun i => s.has (64 + (64 + i))) 64 = pop s.c.toNat := by
    rw [← cnt_word h2]; refine cntTo_congr fun i hi => ?_
    unfold S4.has S4.word; rw [show (64 + (64 + i)) / 64 = 2 by omega, show (64 + (64 + i)) % 64 = i by omega]; rfl
  have e3 : cntTo (fun i => s.has (64 + (64 + (64 + i)))) 64 = pop s.d.toNat := by
    rw [← cnt_word h3]; refine cntTo_congr fun i hi => ?_
    unfold S4.has S4.word; rw [show (64 + (64 + (64 + i))) / 64 = 3 by omega, show (64 + (64 + (64 + i))) % 64 = i by omega]; rfl
  rw [show 256 = 64 + (64 + (64 + 64)) from rfl, cntTo_add, cntTo_add, cntTo_add]
  show cntTo (fun i => s.has i) 64 + _ = _
  rw [e0, e1, e2, e3]
  unfold S4.len; omega

end Go.Proofs.YtmoiiidfhkfdgaaDoor
