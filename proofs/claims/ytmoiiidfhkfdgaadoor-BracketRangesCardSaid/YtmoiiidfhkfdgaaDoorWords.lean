/-
  Words of 64 bits, as numbers and as bits; sets as four words. No walk.
-/
import Derived.Test.YtmoiiidfhkfdgaaDoorSets
import Derived.OpenShut
namespace Go.Proofs.YtmoiiidfhkfdgaaDoor
open Go.RowKit

/-- A word's bits. -/
def wd (x : Int) : BitVec 64 := BitVec.ofInt 64 x
/-- A word that fits. -/
def Fit (x : Int) : Prop := 0 ≤ x ∧ x < 18446744073709551616

theorem fit_of_wf {x : Int} (h : (Lit.int .u64 x).wf = true) : Fit x := by
  simp [Lit.wf, IntKind.min, IntKind.max, IntKind.signed, IntKind.bits] at h; exact ⟨h.1, by omega⟩
theorem fit_nat (b : BitVec 64) : Fit (b.toNat : Int) := ⟨by omega, by have := b.isLt; omega⟩
theorem wd_nat (b : BitVec 64) : wd (b.toNat : Int) = b := by unfold wd; simp
theorem wd_val {x : Int} (h : Fit x) : ((wd x).toNat : Int) = x := by
  unfold wd
  rw [BitVec.toNat_ofInt]
  have := h.1; have := h.2
  simp only [Nat.reducePow]
  omega
theorem wd_inj {x y : Int} (hx : Fit x) (hy : Fit y) (h : wd x = wd y) : x = y := by rw [← wd_val hx, ← wd_val hy, h]
theorem wrap_nat (b : BitVec 64) : IntKind.u64.wrap (b.toNat : Int) = (b.toNat : Int) := by
  have := b.isLt
  simp only [IntKind.wrap, IntKind.bits, IntKind.signed]
  simp
  omega
theorem bits_and (x y : Int) : bits .and .u64 x y = ((wd x &&& wd y).toNat : Int) := wrap_nat _
theorem bits_or (x y : Int) : bits .or .u64 x y = ((wd x ||| wd y).toNat : Int) := wrap_nat _
theorem bits_xor (x y : Int) : bits .xor .u64 x y = ((wd x ^^^ wd y).toNat : Int) := wrap_nat _
theorem wd_and (x y : Int) : wd (bits .and .u64 x y) = wd x &&& wd y := by rw [bits_and, wd_nat]
theorem wd_or (x y : Int) : wd (bits .or .u64 x y) = wd x ||| wd y := by rw [bits_or, wd_nat]
theorem fit_bits (op : BinOp) (x y : Int) : Fit (bits op .u64 x y) := fit_of_wf (wf_bits op .u64 x y)
theorem wd_max : wd IntKind.u64.max = BitVec.allOnes 64 := by decide
theorem wd_not (x : Int) : wd (bits .xor .u64 IntKind.u64.max x) = ~~~ wd x := by
  rw [bits_xor, wd_nat, wd_max, BitVec.allOnes_xor]

/-- Is bit n in a word? -/
theorem bit_and {x : Int} (h : Fit x) {n : Nat} (hn : n < 64) : (bits .and .u64 (x / 2 ^ n) 1 == 1) = (wd x).getLsbD n := by
  have hx := wd_val h
  obtain ⟨b, hb⟩ : ∃ b, wd x = b := ⟨_, rfl⟩
  rw [hb] at hx ⊢
  subst hx
  rw [bits_and]
  have hd : ((b.toNat : Int) / 2 ^ n) = (((b >>> n).toNat : Nat) : Int) := by
    rw [BitVec.toNat_ushiftRight, Nat.shiftRight_eq_div_pow]; push_cast; rfl
  rw [hd, wd_nat]
  have h1 : wd 1 = 1#64 := by decide
  rw [h1]
  have h2 : (b >>> n &&& 1#64).toNat = if b.getLsbD n then 1 else 0 := by
    rw [BitVec.toNat_and, BitVec.toNat_ushiftRight]
    simp only [BitVec.toNat_ofNat, Nat.reducePow, Nat.reduceMod]
    rw [Nat.and_one_is_mod, Nat.shiftRight_eq_div_pow, BitVec.getLsbD, Nat.testBit_eq_decide_div_mod_eq]
    split <;> simp_all <;> omega
  rw [h2]
  cases b.getLsbD n <;> simp
theorem bit_mod {x : Int} (h : Fit x) {n : Nat} (hn : n < 64) : ((x / 2 ^ n) % 2 == 1) = (wd x).getLsbD n := by
  have hx := wd_val h
  obtain ⟨b, hb⟩ : ∃ b, wd x = b := ⟨_, rfl⟩
  rw [hb] at hx ⊢
  subst hx
  rw [BitVec.getLsbD, Nat.testBit_eq_decide_div_mod_eq]
  rw [Bool.eq_iff_iff]
  simp only [beq_iff_eq, decide_eq_true_eq]
  have : ((b.toNat : Int) / 2 ^ n) = ((b.toNat / 2 ^ n : Nat) : Int) := by push_cast; rfl
  rw [this]; omega
theorem bit_tmod {x : Int} (h : Fit x) {n : Nat} (hn : n < 64) : ((x / 2 ^ n).tmod 2 == 1) = (wd x).getLsbD n := by
  rw [Int.tmod_eq_emod_of_nonneg (Int.ediv_nonneg h.1 (Int.le_of_lt (Int.pow_pos (by decide)))), bit_mod h hn]

end Go.Proofs.YtmoiiidfhkfdgaaDoor
