/-
  Merged texts of this claim: Words, Popc, Bld, EreM, Cell8, Claim, ClaimB.
-/
import Derived.OpenShut
import Derived.Test.YtepeomphikhbkaaGreatDoorChecked
import Derived.WalkKit
import Derived.Laws.Externs
import Derived.Laws.IdiomCopy
import Derived.Shelf.Lays
import Derived.Shelf.RegionOpenPlain
import Derived.Lib.UnsafeStr
import Derived.StillTailTactics
import Derived.MapKept
import Derived.ProofKit
import Derived.ChangeSame
import Derived.ChangeOld
import Derived.Below
import Derived.Carry
import Derived.ShutString
import Derived.Test.YtepeomphikhbkaaGreatDoorM01

/-
  Words of 64 bits, as numbers and as bits; sets as four words. No walk.
-/
namespace Go.Proofs.YtepeomphikhbkaaGreatDoor
open Go.RowKit

/-- A word's bits. -/
def wd (x : Int) : BitVec 64 := BitVec.ofInt 64 x
/-- A word that fits. -/
def Fit (x : Int) : Prop := 0 ≤ x ∧ x < 18446744073709551616

theorem fit_of_wf {x : Int} (h : (Lit.int .u64 x).wf = true) : Fit x := by
  simp [Lit.wf, IntKind.min, IntKind.max, IntKind.signed, IntKind.bits] at h; exact ⟨h.1, by omega⟩
theorem fit_nat (b : BitVec 64) : Fit (b.toNat : Int) := ⟨by omega, by have := b.isLt; omega⟩
theorem wd_nat (b : BitVec 64) : wd (b.toNat : Int) = b := by unfold wd; simp
theorem wd_val {x : Int} (h : Fit x) : ((wd x).toNat : Int) = x := by
  unfold wd
  rw [BitVec.toNat_ofInt]
  have := h.1; have := h.2
  simp only [Nat.reducePow]
  omega
theorem wd_inj {x y : Int} (hx : Fit x) (hy : Fit y) (h : wd x = wd y) : x = y := by rw [← wd_val hx, ← wd_val hy, h]
theorem wrap_nat (b : BitVec 64) : IntKind.u64.wrap (b.toNat : Int) = (b.toNat : Int) := by
  have := b.isLt
  simp only [IntKind.wrap, IntKind.bits, IntKind.signed]
  simp
  omega
theorem bits_and (x y : Int) : bits .and .u64 x y = ((wd x &&& wd y).toNat : Int) := wrap_nat _
theorem bits_or (x y : Int) : bits .or .u64 x y = ((wd x ||| wd y).toNat : Int) := wrap_nat _
theorem bits_xor (x y : Int) : bits .xor .u64 x y = ((wd x ^^^ wd y).toNat : Int) := wrap_nat _
theorem wd_and (x y : Int) : wd (bits .and .u64 x y) = wd x &&& wd y := by rw [bits_and, wd_nat]
theorem wd_or (x y : Int) : wd (bits .or .u64 x y) = wd x ||| wd y := by rw [bits_or, wd_nat]
theorem fit_bits (op : BinOp) (x y : Int) : Fit (bits op .u64 x y) := fit_of_wf (wf_bits op .u64 x y)
theorem wd_max : wd IntKind.u64.max = BitVec.allOnes 64 := by decide
theorem wd_not (x : Int) : wd (bits .xor .u64 IntKind.u64.max x) = ~~~ wd x := by
  rw [bits_xor, wd_nat, wd_max, BitVec.allOnes_xor]

/-- Is bit n in a word? -/
theorem bit_and {x : Int} (h : Fit x) {n : Nat} (hn : n < 64) : (bits .and .u64 (x / 2 ^ n) 1 == 1) = (wd x).getLsbD n := by
  have hx := wd_val h
  obtain ⟨b, hb⟩ : ∃ b, wd x = b := ⟨_, rfl⟩
  rw [hb] at hx ⊢
  subst hx
  rw [bits_and]
  have hd : ((b.toNat : Int) / 2 ^ n) = (((b >>> n).toNat : Nat) : Int) := by
    rw [BitVec.toNat_ushiftRight, Nat.shiftRight_eq_div_pow]; push_cast; rfl
  rw [hd, wd_nat]
  have h1 : wd 1 = 1#64 := by decide
  rw [h1]
  have h2 : (b >>> n &&& 1#64).toNat = if b.getLsbD n then 1 else 0 := by
    rw [BitVec.toNat_and, BitVec.toNat_ushiftRight]
    simp only [BitVec.toNat_ofNat, Nat.reducePow, Nat.reduceMod]
    rw [Nat.and_one_is_mod, Nat.shiftRight_eq_div_pow, BitVec.getLsbD, Nat.testBit_eq_decide_div_mod_eq]
    split <;> simp_all <;> omega
  rw [h2]
  cases b.getLsbD n <;> simp
theorem bit_mod {x : Int} (h : Fit x) {n : Nat} (hn : n < 64) : ((x / 2 ^ n) % 2 == 1) = (wd x).getLsbD n := by
  have hx := wd_val h
  obtain ⟨b, hb⟩ : ∃ b, wd x = b := ⟨_, rfl⟩
  rw [hb] at hx ⊢
  subst hx
  rw [BitVec.getLsbD, Nat.testBit_eq_decide_div_mod_eq]
  rw [Bool.eq_iff_iff]
  simp only [beq_iff_eq, decide_eq_true_eq]
  have : ((b.toNat : Int) / 2 ^ n) = ((b.toNat / 2 ^ n : Nat) : Int) := by push_cast; rfl
  rw [this]; omega
theorem bit_tmod {x : Int} (h : Fit x) {n : Nat} (hn : n < 64) : ((x / 2 ^ n).tmod 2 == 1) = (wd x).getLsbD n := by
  rw [Int.tmod_eq_emod_of_nonneg (Int.ediv_nonneg h.1 (Int.le_of_lt (Int.pow_pos (by decide)))), bit_mod h hn]

end Go.Proofs.YtepeomphikhbkaaGreatDoor

/-
  How many bits a word has: the sum that math/bits reckons, byte by byte. Plain: no walk.
-/
namespace Go.Proofs.YtepeomphikhbkaaGreatDoor

theorem and_split (p q M c : Nat) (hq : q < 256) (hc : c < 256) : (256 * p + q) &&& (256 * M + c) = 256 * (p &&& M) + (q &&& c) := by
  have h1 : ((256 * p + q) &&& (256 * M + c)) / 256 = p &&& M := by
    have := @Nat.and_div_two_pow (256 * p + q) (256 * M + c) 8
    rw [show (2 : Nat) ^ 8 = 256 from rfl] at this
    rw [this, show (256 * p + q) / 256 = p by omega, show (256 * M + c) / 256 = M by omega]
  have h2 : ((256 * p + q) &&& (256 * M + c)) % 256 = q &&& c := by
    have := @Nat.and_mod_two_pow (256 * p + q) (256 * M + c) 8
    rw [show (2 : Nat) ^ 8 = 256 from rfl] at this
    rw [this, show (256 * p + q) % 256 = q by omega, show (256 * M + c) % 256 = c by omega]
  omega

def pf1 (M x : Nat) : Nat := ((x / 2) &&& M) + (x &&& M)
def pf2 (M x : Nat) : Nat := ((x / 4) &&& M) + (x &&& M)
def pf3 (M x : Nat) : Nat := (x / 16 + x) &&& M

theorem low1 : ∀ (c : Fin 2) (b : Fin 256), (c.val * 128 + b.val / 2) &&& 85 = (b.val / 2) &&& 85 := by decide +kernel
theorem low2 : ∀ (c : Fin 4) (b : Fin 256), (c.val * 64 + b.val / 4) &&& 51 = (b.val / 4) &&& 51 := by decide +kernel
theorem low3 : ∀ (c : Fin 5) (b : Fin 69), (c.val * 16 + (b.val / 16 + b.val)) &&& 15 = (b.val / 16 + b.val) &&& 15 := by decide +kernel

theorem step1 (y b M : Nat) (hb : b < 256) : pf1 (256 * M + 85) (256 * y + b) = 256 * pf1 M y + pf1 85 b := by
  unfold pf1
  have h := low1 ⟨y % 2, by omega⟩ ⟨b, hb⟩
  simp only at h
  rw [show (256 * y + b) / 2 = 256 * (y / 2) + (y % 2 * 128 + b / 2) by omega, and_split _ _ _ _ (by omega) (by decide), and_split _ _ _ _ hb (by decide), h]
  omega
theorem step2 (y b M : Nat) (hb : b < 256) : pf2 (256 * M + 51) (256 * y + b) = 256 * pf2 M y + pf2 51 b := by
  unfold pf2
  have h := low2 ⟨y % 4, by omega⟩ ⟨b, hb⟩
  simp only at h
  rw [show (256 * y + b) / 4 = 256 * (y / 4) + (y % 4 * 64 + b / 4) by omega, and_split _ _ _ _ (by omega) (by decide), and_split _ _ _ _ hb (by decide), h]
  omega
theorem step3 (y b M : Nat) (hb : b < 69) (hy : y % 16 < 5) : pf3 (256 * M + 15) (256 * y + b) = 256 * pf3 M y + pf3 15 b := by
  unfold pf3
  have h := low3 ⟨y % 16, hy⟩ ⟨b, hb⟩
  simp only at h
  rw [show (256 * y + b) / 16 + (256 * y + b) = 256 * (y / 16 + y) + (y % 16 * 16 + (b / 16 + b)) by omega, and_split _ _ _ _ (by omega) (by decide), h]

/-- A byte's bits. -/
def pop8 (b : Nat) : Nat := b % 2 + b / 2 % 2 + b / 4 % 2 + b / 8 % 2 + b / 16 % 2 + b / 32 % 2 + b / 64 % 2 + b / 128 % 2
theorem pop8_eq : ∀ b : Fin 256, pf3 15 (pf2 51 (pf1 85 b.val)) = pop8 b.val := by decide +kernel
theorem pf1_lt : ∀ b : Fin 256, pf1 85 b.val < 256 := by decide +kernel
theorem pf2_lt : ∀ b : Fin 256, pf2 51 (pf1 85 b.val) < 69 := by decide +kernel
theorem pf2_low : ∀ b : Fin 256, pf2 51 (pf1 85 b.val) % 16 < 5 := by decide +kernel
theorem pop8_le : ∀ b : Fin 256, pop8 b.val ≤ 8 := by decide +kernel

/-- Eight bytes as a word. -/
def by8 (b0 b1 b2 b3 b4 b5 b6 b7 : Nat) : Nat := 256 * (256 * (256 * (256 * (256 * (256 * (256 * b7 + b6) + b5) + b4) + b3) + b2) + b1) + b0

theorem pf1_8 {b0 b1 b2 b3 b4 b5 b6 b7 : Nat} (h0 : b0 < 256) (h1 : b1 < 256) (h2 : b2 < 256) (h3 : b3 < 256) (h4 : b4 < 256) (h5 : b5 < 256) (h6 : b6 < 256) :
    pf1 6148914691236517205 (by8 b0 b1 b2 b3 b4 b5 b6 b7) = by8 (pf1 85 b0) (pf1 85 b1) (pf1 85 b2) (pf1 85 b3) (pf1 85 b4) (pf1 85 b5) (pf1 85 b6) (pf1 85 b7) := by
  unfold by8
  rw [show 6148914691236517205 = 256 * (256 * (256 * (256 * (256 * (256 * (256 * 85 + 85) + 85) + 85) + 85) + 85) + 85) + 85 from rfl]
  rw [step1 _ _ _ h0, step1 _ _ _ h1, step1 _ _ _ h2, step1 _ _ _ h3, step1 _ _ _ h4, step1 _ _ _ h5, step1 _ _ _ h6]
theorem pf2_8 {b0 b1 b2 b3 b4 b5 b6 b7 : Nat} (h0 : b0 < 256) (h1 : b1 < 256) (h2 : b2 < 256) (h3 : b3 < 256) (h4 : b4 < 256) (h5 : b5 < 256) (h6 : b6 < 256) :
    pf2 3689348814741910323 (by8 b0 b1 b2 b3 b4 b5 b6 b7) = by8 (pf2 51 b0) (pf2 51 b1) (pf2 51 b2) (pf2 51 b3) (pf2 51 b4) (pf2 51 b5) (pf2 51 b6) (pf2 51 b7) := by
  unfold by8
  rw [show 3689348814741910323 = 256 * (256 * (256 * (256 * (256 * (256 * (256 * 51 + 51) + 51) + 51) + 51) + 51) + 51) + 51 from rfl]
  rw [step2 _ _ _ h0, step2 _ _ _ h1, step2 _ _ _ h2, step2 _ _ _ h3, step2 _ _ _ h4, step2 _ _ _ h5, step2 _ _ _ h6]
theorem mod16 (y b : Nat) : (256 * y + b) % 16 = b % 16 := by omega
theorem pf3_8 {b0 b1 b2 b3 b4 b5 b6 b7 : Nat} (h0 : b0 < 69) (h1 : b1 < 69) (h2 : b2 < 69) (h3 : b3 < 69) (h4 : b4 < 69) (h5 : b5 < 69) (h6 : b6 < 69)
    (g1 : b1 % 16 < 5) (g2 : b2 % 16 < 5) (g3 : b3 % 16 < 5) (g4 : b4 % 16 < 5) (g5 : b5 % 16 < 5) (g6 : b6 % 16 < 5) (g7 : b7 % 16 < 5) :
    pf3 1085102592571150095 (by8 b0 b1 b2 b3 b4 b5 b6 b7) = by8 (pf3 15 b0) (pf3 15 b1) (pf3 15 b2) (pf3 15 b3) (pf3 15 b4) (pf3 15 b5) (pf3 15 b6) (pf3 15 b7) := by
  unfold by8
  rw [show 1085102592571150095 = 256 * (256 * (256 * (256 * (256 * (256 * (256 * 15 + 15) + 15) + 15) + 15) + 15) + 15) + 15 from rfl]
  rw [step3 _ _ _ h0 (by rw [mod16]; exact g1), step3 _ _ _ h1 (by rw [mod16]; exact g2), step3 _ _ _ h2 (by rw [mod16]; exact g3), step3 _ _ _ h3 (by rw [mod16]; exact g4), step3 _ _ _ h4 (by rw [mod16]; exact g5), step3 _ _ _ h5 (by rw [mod16]; exact g6), step3 _ _ _ h6 g7]

/-- The three first steps. -/
def swar3 (x : Nat) : Nat := pf3 1085102592571150095 (pf2 3689348814741910323 (pf1 6148914691236517205 x))
/-- The three last ones. -/
def swar6 (x : Nat) : Nat := ((x + x / 256) + (x + x / 256) / 65536) + ((x + x / 256) + (x + x / 256) / 65536) / 4294967296
/-- A word's bits. -/
def pop (x : Nat) : Nat := pop8 (x % 256) + pop8 (x / 256 % 256) + pop8 (x / 65536 % 256) + pop8 (x / 16777216 % 256) + pop8 (x / 4294967296 % 256) + pop8 (x / 1099511627776 % 256) + pop8 (x / 281474976710656 % 256) + pop8 (x / 72057594037927936 % 256)

theorem by8_of (x : Nat) (h : x < 18446744073709551616) : x = by8 (x % 256) (x / 256 % 256) (x / 65536 % 256) (x / 16777216 % 256) (x / 4294967296 % 256) (x / 1099511627776 % 256) (x / 281474976710656 % 256) (x / 72057594037927936 % 256) := by
  unfold by8; omega
theorem swar3_eq (x : Nat) (h : x < 18446744073709551616) : swar3 x = by8 (pop8 (x % 256)) (pop8 (x / 256 % 256)) (pop8 (x / 65536 % 256)) (pop8 (x / 16777216 % 256)) (pop8 (x / 4294967296 % 256)) (pop8 (x / 1099511627776 % 256)) (pop8 (x / 281474976710656 % 256)) (pop8 (x / 72057594037927936 % 256)) := by
  have hx := by8_of x h
  have l : ∀ n, n % 256 < 256 := fun n => Nat.mod_lt _ (by decide)
  have e : ∀ n, n % 256 = n % 256 → pf3 15 (pf2 51 (pf1 85 (n % 256))) = pop8 (n % 256) := fun n _ => pop8_eq ⟨n % 256, l n⟩
  have a : ∀ n, pf1 85 (n % 256) < 256 := fun n => pf1_lt ⟨n % 256, l n⟩
  have b : ∀ n, pf2 51 (pf1 85 (n % 256)) < 69 := fun n => pf2_lt ⟨n % 256, l n⟩
  have c : ∀ n, pf2 51 (pf1 85 (n % 256)) % 16 < 5 := fun n => pf2_low ⟨n % 256, l n⟩
  unfold swar3
  have h1 := pf1_8 (b7 := x / 72057594037927936 % 256) (l x) (l (x / 256)) (l (x / 65536)) (l (x / 16777216)) (l (x / 4294967296)) (l (x / 1099511627776)) (l (x / 281474976710656))
  have h2 := pf2_8 (b7 := pf1 85 (x / 72057594037927936 % 256)) (a x) (a (x / 256)) (a (x / 65536)) (a (x / 16777216)) (a (x / 4294967296)) (a (x / 1099511627776)) (a (x / 281474976710656))
  have h3 := pf3_8 (b x) (b (x / 256)) (b (x / 65536)) (b (x / 16777216)) (b (x / 4294967296)) (b (x / 1099511627776)) (b (x / 281474976710656)) (c (x / 256)) (c (x / 65536)) (c (x / 16777216)) (c (x / 4294967296)) (c (x / 1099511627776)) (c (x / 281474976710656)) (c (x / 72057594037927936))
  rw [← hx] at h1
  rw [h1, h2, h3, e x rfl, e (x / 256) rfl, e (x / 65536) rfl, e (x / 16777216) rfl, e (x / 4294967296) rfl, e (x / 1099511627776) rfl, e (x / 281474976710656) rfl, e (x / 72057594037927936) rfl]

theorem swar6_eq (c0 c1 c2 c3 c4 c5 c6 c7 : Nat) (h0 : c0 ≤ 8) (h1 : c1 ≤ 8) (h2 : c2 ≤ 8) (h3 : c3 ≤ 8) (h4 : c4 ≤ 8) (h5 : c5 ≤ 8) (h6 : c6 ≤ 8) (h7 : c7 ≤ 8) :
    swar6 (by8 c0 c1 c2 c3 c4 c5 c6 c7) % 128 = c0 + c1 + c2 + c3 + c4 + c5 + c6 + c7 ∧ swar6 (by8 c0 c1 c2 c3 c4 c5 c6 c7) < 9223372036854775808 := by
  have hx : by8 c0 c1 c2 c3 c4 c5 c6 c7 / 256 = by8 c1 c2 c3 c4 c5 c6 c7 0 := by unfold by8; omega
  have hy : by8 c0 c1 c2 c3 c4 c5 c6 c7 + by8 c1 c2 c3 c4 c5 c6 c7 0 = by8 (c0 + c1) (c1 + c2) (c2 + c3) (c3 + c4) (c4 + c5) (c5 + c6) (c6 + c7) c7 := by unfold by8; omega
  have hz : by8 (c0 + c1) (c1 + c2) (c2 + c3) (c3 + c4) (c4 + c5) (c5 + c6) (c6 + c7) c7 / 65536 = by8 (c2 + c3) (c3 + c4) (c4 + c5) (c5 + c6) (c6 + c7) c7 0 0 := by unfold by8; omega
  have hu : by8 (c0 + c1) (c1 + c2) (c2 + c3) (c3 + c4) (c4 + c5) (c5 + c6) (c6 + c7) c7 + by8 (c2 + c3) (c3 + c4) (c4 + c5) (c5 + c6) (c6 + c7) c7 0 0 = by8 (c0 + c1 + (c2 + c3)) (c1 + c2 + (c3 + c4)) (c2 + c3 + (c4 + c5)) (c3 + c4 + (c5 + c6)) (c4 + c5 + (c6 + c7)) (c5 + c6 + c7) (c6 + c7) c7 := by unfold by8; omega
  have hv : by8 (c0 + c1 + (c2 + c3)) (c1 + c2 + (c3 + c4)) (c2 + c3 + (c4 + c5)) (c3 + c4 + (c5 + c6)) (c4 + c5 + (c6 + c7)) (c5 + c6 + c7) (c6 + c7) c7 / 4294967296 = by8 (c4 + c5 + (c6 + c7)) (c5 + c6 + c7) (c6 + c7) c7 0 0 0 0 := by unfold by8; omega
  unfold swar6
  rw [hx, hy, hz, hu, hv]
  unfold by8
  constructor <;> omega

theorem swar_eq (x : Nat) (h : x < 18446744073709551616) : swar6 (swar3 x) % 128 = pop x ∧ swar6 (swar3 x) < 9223372036854775808 := by
  have l : ∀ n, pop8 (n % 256) ≤ 8 := fun n => pop8_le ⟨n % 256, Nat.mod_lt _ (by decide)⟩
  rw [swar3_eq x h]
  exact swar6_eq _ _ _ _ _ _ _ _ (l _) (l _) (l _) (l _) (l _) (l _) (l _) (l _)

end Go.Proofs.YtepeomphikhbkaaGreatDoor

/-
  strings.Builder's methods at a builder that lies anywhere in a block: what each does.
-/
namespace Go.Proofs.YtepeomphikhbkaaGreatDoor
open Go.RowKit

def bldT : TypeId := 109
def u8T : TypeId := 5

theorem info_bld : (Tryz.prog.info? 109).map (·.size) = some 2 := by kernel_rfl
theorem info_u8 : (Tryz.prog.info? 5).map (fun i => (i.zero, i.size, i.bytes)) = some (some (.int .u8 0), 1, 1) := by kernel_rfl

/-- Where a type's lay-out has a Builder at a place. -/
def BldIn (T : TypeId) (n o : Nat) : Prop := liesAt Tryz.prog Tryz.prog.depth T (n / Tryz.prog.cellsOf T) o 109 1 = true

set_option maxRecDepth 100000 in
set_option maxHeartbeats 1000000 in
theorem copyCheck_any (T : TypeId) (b o : Nat) (cs : Array Value) (bs : List UInt8) (g : Option Nat) (w : World) (h : BldAt 5 T b o cs bs g w) (hl : BldIn T cs.size o) :
    Calls Tryz.prog 64 #[.pointer (some ⟨b, o, none⟩)] w fun e w' => e = .returned (.tuple #[]) ∧
      BldAt 5 T b o (cs.setIfInBounds o (.pointer (some ⟨b, o, none⟩))) bs g w' ∧ Fr (fun k => k = b) w w' := by
  obtain ⟨hb, ho, hp, v, hv, hown, hg, hne, hni⟩ := h
  obtain ⟨j, hj, hjs⟩ := Option.map_eq_some_iff.1 info_bld
  have hsh : w.shape? b = some (T, cs.size) := by simp [World.shape?, hb]
  have hfz : w.frozen? ⟨b, o, none⟩ = false := unfrozen_at hb o
  rcases hp with hp | hp
  · have h0 := cell_at hb hp
    have HB := Lib.hid hb; have HO := Lib.hid ho; have HV := Lib.hid hv; have HW := Lib.hid hown; have HG := Lib.hid hg; have HN := Lib.hid hne; have HP := Lib.hid hp; have HL := Lib.hid hl; have HJ := Lib.hid hjs; have HS := Lib.hid hsh; have HI := Lib.hid hni
    clear hb ho hv hown hg hne hp hl hjs hsh hni
    go_enter Tryz.func64, Tryz.ntmps64
    go_wp2
    rw [Lib.run_to_unsafe w ⟨b, o, none⟩ Tryz.underlying107 Tryz.underlying143 hj (by rw [HJ.out]; decide) HS.out (Nat.lt_of_succ_lt HO.out)]
    simp only [Result.andThen]
    rw [Oper.upon_value]
    go_wp2
    rw [run_callFunc_extern Tryz.func83 (by kernel_rfl) (by kernel_rfl) (by kernel_rfl) (e := Extern.AbiNoEscape.same) (by kernel_rfl)]
    rw [Lib.run_noEscape]
    simp only [Result.andThen]
    rw [Oper.upon_value]
    go_wp2
    rw [Lib.run_from_unsafe w ⟨b, o, none⟩ Tryz.underlying143 Tryz.underlying107 hj HS.out HL.out]
    simp only [Result.andThen]
    rw [Oper.upon_value]
    go_wp2
    go_end0
    have ho := HO.out
    refine ⟨rfl, ⟨heap_setCell_at HB.out o _, by simpa using ho, .inr (by rw [Array.getElem?_setIfInBounds, if_pos rfl, if_pos (by omega)]), v, ?_, ?_, HG.out, HN.out, HI.out⟩, (Fr.refl (fun k => k = b) w).setCell (p := ⟨b, o, none⟩) (fun _ => rfl) _⟩
    · rw [Array.getElem?_setIfInBounds, if_neg (by omega)]; exact HV.out
    · have hn := HN.out
      exact ownsRow_fr HW.out ((Fr.refl (fun k => k = b) w).setCell (p := ⟨b, o, none⟩) (fun _ => rfl) _) (fun k hk e => hn (by rw [← HG.out, hk, e]))
  · have h0 := cell_at hb hp
    have HB := Lib.hid hb; have HO := Lib.hid ho; have HV := Lib.hid hv; have HW := Lib.hid hown; have HG := Lib.hid hg; have HN := Lib.hid hne; have HP := Lib.hid hp; have HL := Lib.hid hl; have HJ := Lib.hid hjs; have HS := Lib.hid hsh; have HI := Lib.hid hni
    clear hb ho hv hown hg hne hp hl hjs hsh hni
    go_enter Tryz.func64, Tryz.ntmps64
    go_wp2
    rw [Lib.run_neq_ptr_same w _ Tryz.underlying107 hj]
    go_wp2
    go_end0
    have hcs : cs.setIfInBounds o (.pointer (some ⟨b, o, none⟩)) = cs := by
      apply Array.ext_getElem?
      intro i
      rw [Array.getElem?_setIfInBounds]
      have ho := HO.out
      split
      · subst_vars; rw [if_pos (by omega)]; exact HP.out.symm
      · rfl
    rw [hcs]
    exact ⟨rfl, ⟨HB.out, HO.out, .inr HP.out, v, HV.out, HW.out, HG.out, HN.out, HI.out⟩, Fr.refl _ _⟩


theorem set_set_ne {cs : Array Value} {o i : Nat} {p : Value} (h : i ≠ o) : (cs.setIfInBounds o p)[i]? = cs[i]? := by
  rw [Array.getElem?_setIfInBounds, if_neg (fun e => h e.symm)]

theorem set_at {cs : Array Value} {o : Nat} {p : Value} (h : o < cs.size) : (cs.setIfInBounds o p)[o]? = some p := by
  rw [Array.getElem?_setIfInBounds, if_pos rfl, if_pos h]

/-- What a Builder's cells are behind a write. -/
def bldCells (cs : Array Value) (b o : Nat) (v : Value) : Array Value := (cs.setIfInBounds o (.pointer (some ⟨b, o, none⟩))).setIfInBounds (o + 1) v

theorem bldCells_size (cs : Array Value) (b o : Nat) (v : Value) : (bldCells cs b o v).size = cs.size := by simp [bldCells]

theorem bldCells_ne (cs : Array Value) (b o : Nat) (v : Value) {i : Nat} (h : i ≠ o) (h' : i ≠ o + 1) : (bldCells cs b o v)[i]? = cs[i]? := by
  unfold bldCells; rw [set_set_ne h', set_set_ne h]

theorem fr_freeze {S : Nat → Prop} {a w : World} (h : Fr S a w) {p : Addr} (hp : p.block < a.heap.size → S p.block) (n : Nat) : Fr S a (w.freeze p n) := by
  refine h.trans (T := fun k => k = p.block) ?_ (fun i hi e => by subst e; exact hp hi)
  unfold World.freeze
  split
  · exact Fr.refl _ _
  · refine ⟨rfl, rfl, rfl, by simp, fun k _ hk => ?_⟩
    simp only [Array.getElem?_modify]
    rw [if_neg (fun e => hk e.symm)]

set_option maxRecDepth 100000 in
set_option maxHeartbeats 1000000 in
theorem string_some (T : TypeId) (b o : Nat) (cs : Array Value) (bs : List UInt8) (g : Option Nat) (w : World) (h : BldAt 5 T b o cs bs g w) (h0 : bs ≠ []) :
    Calls Tryz.prog 39 #[.pointer (some ⟨b, o, none⟩)] w fun e w' => e = .returned (.string ⟨bs.toArray⟩) ∧ Fr (fun k => some k = g) w w' := by
  obtain ⟨hb, ho, hp, v, hv, hown, hg, hne, _⟩ := h
  have hl0 : bs.length ≠ 0 := by simpa using h0
  obtain ⟨gb, cap, cur, rfl, _, hgh, hnc, hcm, hcs, htake⟩ : ∃ g cap cur, v = .slice (some ⟨g, 0, none⟩) bs.length cap ∧ 0 ≤ g ∧ w.heap[g]? = some (.cells cur 5 (0, 0)) ∧ bs.length ≤ cap ∧ cap ≤ maxLen ∧ cur.size = cap * 1 ∧ cur.toList.take (bs.length * 1) = bcells bs := by
    rcases hown.2 with ⟨_, hz⟩ | ⟨g, cap, cur, hv, r⟩
    · exact absurd hz hl0
    · exact ⟨g, cap, cur, hv, r⟩
  have c1 : w.drew.cell? ⟨b, o + 1, none⟩ = some (.slice (some ⟨gb, 0, none⟩) bs.length cap) := cell_at (w := w.drew) hb hv
  have hSD : (Builtin.unsafeSliceData_ #[42] 127 #[.slice (some ⟨gb, 0, none⟩) bs.length cap]).run Tryz.prog w.drew = .ok (.pointer (some ⟨gb, 0, none⟩)) w.drew :=
    Lib.run_unsafeSliceData_row _ _ _ _ _ _ (by omega)
  have hUS : (Builtin.unsafeString_ #[127, 3] 9 #[.pointer (some ⟨gb, 0, none⟩), .int .i64 bs.length]).run Tryz.prog w.drew = .ok (.string ⟨bs.toArray⟩) (w.drew.freeze ⟨gb, 0, none⟩ bs.length) := by
    refine Lib.run_unsafeString_row w.drew 127 3 9 5 Tryz.underlying127 (by kernel_rfl) gb cur.size (by have hg' : w.drew.heap[gb]? = some (.cells cur 5 (0, 0)) := hgh; simp [World.shape?, hg']) bs h0 (by omega) (by unfold maxLen at hcm; omega) ?_
    intro j x hx
    have := hown.cells (g := gb) rfl j (.int .u8 x.toNat) (by simp [bcells, bcell, hx])
    exact this
  have HG := Lib.hid hg; have HB := Lib.hid hb
  clear hb ho hp hv hown hg hne hgh hnc hcm hcs htake hl0 h0
  go_enter Tryz.func39, Tryz.ntmps39
  go_wp2
  go_still_tail 10, (by kernel_rfl)
  change wpList _ _ _ _ _ w.drew
  all_goals (go_wp2; go_ret; exact ⟨rfl, fr_freeze (Fr.refl _ w).drew (p := ⟨gb, 0, none⟩) (fun _ => HG.out) _⟩)


set_option maxRecDepth 100000 in
set_option maxHeartbeats 1000000 in
theorem string_none (T : TypeId) (b o : Nat) (cs : Array Value) (g : Option Nat) (w : World) (h : BldAt 5 T b o cs [] g w) :
    Calls Tryz.prog 39 #[.pointer (some ⟨b, o, none⟩)] w fun e w' => e = .returned (.string ⟨#[]⟩) ∧ Fr (fun k => some k = g) w w' := by
  obtain ⟨hb, ho, hp, v, hv, hown, hg, hne, hn⟩ := h
  have hnil := hn rfl; subst hnil
  have c1 : w.drew.cell? ⟨b, o + 1, none⟩ = some (.slice none 0 0) := cell_at (w := w.drew) hb hv
  have hSD : (Builtin.unsafeSliceData_ #[42] 127 #[.slice none 0 0]).run Tryz.prog w.drew = .ok (.pointer none) w.drew := rfl
  have hUS : (Builtin.unsafeString_ #[127, 3] 9 #[.pointer none, .int .i64 0]).run Tryz.prog w.drew = .ok (.string .empty) w.drew := Lib.run_unsafeString_none w.drew _ _ _ none
  clear hb ho hp hv hown hg hne hn
  go_enter Tryz.func39, Tryz.ntmps39
  go_wp2
  go_still_tail 10, (by kernel_rfl)
  change wpList _ _ _ _ _ w.drew
  all_goals (go_wp2; go_ret; exact ⟨rfl, (Fr.refl _ w).drew⟩)

/-- (*strings.Builder).String: the bytes. -/
theorem string_any (T : TypeId) (b o : Nat) (cs : Array Value) (bs : List UInt8) (g : Option Nat) (w : World) (h : BldAt 5 T b o cs bs g w) :
    Calls Tryz.prog 39 #[.pointer (some ⟨b, o, none⟩)] w fun e w' => e = .returned (.string ⟨bs.toArray⟩) ∧ Fr (fun k => some k = g) w w' := by
  by_cases h0 : bs = []
  · subst h0; exact string_none T b o cs g w h
  · exact string_some T b o cs bs g w h h0

/-- A strings.Builder in a block of its own. -/
def Bb (b : Nat) (out : List UInt8) (g : Option Nat) (w : World) : Prop := ∃ cs, BldAt 5 109 b 0 cs out g w ∧ cs.size = 2

theorem Bb.new (w : World) : Bb w.heap.size [] none (w.alloc (.cells #[.pointer none, .slice none 0 0] 109)) :=
  ⟨_, ⟨heap_alloc_new w _, by simp, .inl rfl, .slice none 0 0, rfl, World.ownsRow_nil _ _ _ _, rfl, by simp, fun _ => rfl⟩, rfl⟩
theorem bldIn_own {n : Nat} (h : n = 2) : BldIn 109 n 0 := by subst h; unfold BldIn; kernel_rfl

theorem bb_string (b : Nat) (out : List UInt8) (g : Option Nat) (w : World) (h : Bb b out g w) :
    Calls Tryz.prog 39 #[.pointer (some ⟨b, 0, none⟩)] w fun e w' => e = .returned (.string ⟨out.toArray⟩) ∧ Fr (fun k => some k = g) w w' := by
  obtain ⟨cs, hb, hs⟩ := h
  exact string_any _ b 0 cs out g w hb

theorem keep_new {b : Nat} {g g' : Option Nat} {w wr w1 : World} (hb : w.heap.size ≤ b) (hf : Fr nob w wr) (hg : ∀ j, g = some j → w.heap.size ≤ j) (hf1 : Fr (fun k => k = b ∨ some k = g) wr w1) : Fr nob w w1 :=
  hf.trans hf1 (fun i hi h => by rcases h with h | h; omega; have := hg i h.symm; omega)
theorem new_blk {g g' : Option Nat} {w wr : World} (hf : Fr nob w wr) (hg : ∀ j, g = some j → w.heap.size ≤ j) (hg1 : ∀ k, g' = some k → some k = g ∨ wr.heap.size ≤ k) : ∀ j, g' = some j → w.heap.size ≤ j := fun j hj => by
  have := hf.size
  rcases hg1 j hj with h | h
  · exact hg j h.symm
  · omega

end Go.Proofs.YtepeomphikhbkaaGreatDoor

/-
  A map from numbers to how often each was told: lookup, '++'. No walk.
-/
namespace Go.Proofs.YtepeomphikhbkaaGreatDoor
open Go.RowKit Go.MapKept

/-- The map in block m tells of each number how often it stands in cl. -/
def IMap (w : World) (m : Nat) (cl : List Nat) : Prop := ∃ es clock, w.heap[m]? = some (.map es clock) ∧ Stamped es clock ∧
  (∀ x ∈ es.toList, ∃ k : Nat, x.key = .int .i64 k ∧ x.val = .int .i64 (cl.count k : Nat)) ∧ (∀ k ∈ cl, ∃ x ∈ es.toList, x.key = .int .i64 (k : Nat))
theorem IMap.fr {X : Nat → Prop} {w w' : World} {m : Nat} {cl : List Nat} (h : IMap w m cl) (f : Fr X w w') (hm : ¬ X m) : IMap w' m cl := by
  obtain ⟨es, clock, hb, h⟩ := h; exact ⟨es, clock, f.heap hb hm, h⟩
theorem IMap.lt {w : World} {m : Nat} {cl : List Nat} (h : IMap w m cl) : m < w.heap.size := by obtain ⟨es, clock, hb, _⟩ := h; exact lt_heap hb
theorem IMap.new {w : World} {m : Nat} (h : w.heap[m]? = some (.map #[] 0)) : IMap w m [] := ⟨#[], 0, h, stamped_empty 0, by simp, by simp⟩
theorem fr_setHeap {w : World} {m : Nat} (o : Obj) : Fr (fun k => k = m) w { w with heap := w.heap.setIfInBounds m o } :=
  ⟨rfl, rfl, rfl, by simp, fun k hk hn => by simp [Array.getElem?_setIfInBounds_ne (Ne.symm hn)]⟩

theorem nodup_inj {α : Type} {l : List α} (h : l.Nodup) {i j : Nat} (hi : i < l.length) (e : l[i]? = l[j]?) : i = j := by
  have hj : j < l.length := by
    rw [List.getElem?_eq_getElem hi] at e
    exact (List.getElem?_eq_some_iff.1 e.symm).1
  rw [List.getElem?_eq_getElem hi, List.getElem?_eq_getElem hj] at e
  injection e with e
  have hp := List.pairwise_iff_getElem.1 h
  rcases Nat.lt_trichotomy i j with hlt | rfl | hlt
  · exact absurd e (hp i j hi hj hlt)
  · rfl
  · exact absurd e.symm (hp j i hj hi hlt)
section
variable {P : Program} {mty kt et : TypeId}
theorem imap_look (hm : P.underlying mty = some (.map kt et)) (hd : P.underlying kt = some (.int .i64)) (hz : ∀ w, (zeroValue et).run P w = .ok (.int .i64 0) w) {w : World} {m : Nat} {cl : List Nat} (h : IMap w m cl) (n : Nat) :
    (Instr.lookup mty (.map (some m)) (.int .i64 n) false).run P w = .ok (.int .i64 (cl.count n : Nat)) w := by
  obtain ⟨es, clock, hb, hs, hv, hk⟩ := h
  have hks : ∀ x ∈ es.toList, IsKey (.int .i64) x.key := fun x hx => by obtain ⟨k, e, _⟩ := hv x hx; rw [e]; rfl
  have hkn : IsKey (.int .i64) (.int .i64 (n : Int)) := rfl
  rcases findNow_spec hkn es.toList 0 hks with ⟨h1, h2⟩ | ⟨j, e, h1, h2, h3⟩
  · have hc : cl.count n = 0 := List.count_eq_zero.2 fun hn => by obtain ⟨x, hx, e⟩ := hk n hn; exact h2 x hx e
    simp [Instr.lookup, run_underlying hm, MapKept.run_getObj_map hb, run_checkKey hd hkn, run_findKey hd h1, Result.andThen, hz, hc]
  · have he : e ∈ es.toList := List.mem_of_getElem? h2
    obtain ⟨k, e1, e2⟩ := hv e he
    rw [e1] at h3
    have : k = n := by injection h3 with _ h; omega
    subst this
    simp [Instr.lookup, run_underlying hm, MapKept.run_getObj_map hb, run_checkKey hd hkn, run_findKey hd h1, Result.andThen, e2]

theorem imap_update (hm : P.underlying mty = some (.map kt et)) (hd : P.underlying kt = some (.int .i64)) {w : World} {m : Nat} {cl : List Nat} (h : IMap w m cl) (n : Nat) :
    ∃ w', (Instr.mapUpdate mty (.map (some m)) (.int .i64 n) (.int .i64 ((cl.count n : Nat) + 1))).run P w = .ok () w' ∧ IMap w' m (cl ++ [n]) ∧ Fr (fun k => k = m) w w' := by
  obtain ⟨es, clock, hb, hs, hv, hk⟩ := h
  have hks : ∀ x ∈ es.toList, IsKey (.int .i64) x.key := fun x hx => by obtain ⟨k, e, _⟩ := hv x hx; rw [e]; rfl
  have hkn : IsKey (.int .i64) (.int .i64 (n : Int)) := rfl
  have hother : ∀ x ∈ es.toList, x.key ≠ .int .i64 (n : Nat) → ∃ k : Nat, x.key = .int .i64 k ∧ x.val = .int .i64 ((cl ++ [n]).count k : Nat) := fun x hx hne => by
    obtain ⟨k, k1, k2⟩ := hv x hx
    refine ⟨k, k1, ?_⟩
    have hkn : k ≠ n := by rintro rfl; exact hne k1
    rw [k2, List.count_append]
    simp [List.count_singleton, Ne.symm hkn]
  rcases findNow_spec hkn es.toList 0 hks with ⟨h1, h2⟩ | ⟨j, e, h1, h2, h3⟩
  · have hc : cl.count n = 0 := List.count_eq_zero.2 fun hn => by obtain ⟨x, hx, e⟩ := hk n hn; exact h2 x hx e
    refine ⟨{ w with heap := w.heap.setIfInBounds m (.map (es.push { key := .int .i64 n, val := .int .i64 ((cl.count n : Nat) + 1), born := clock }) (clock + 1)) }, ?_, ?_, fr_setHeap _⟩
    · simp [Instr.mapUpdate, run_underlying hm, MapKept.run_getObj_map hb, run_checkKey hd hkn, run_findKey hd h1, Result.andThen, MapKept.run_setObj_map _ hb]
    · refine ⟨_, _, (heap_set hb).1, stamped_push hs h2, ?_, ?_⟩
      · intro x hx
        simp only [Array.toList_push, List.mem_append, List.mem_singleton] at hx
        rcases hx with hx | rfl
        · exact hother x hx (h2 x hx)
        · exact ⟨n, rfl, by simp⟩
      · intro k hkc
        rcases List.mem_append.1 hkc with hkc | hkc
        · obtain ⟨x, hx, e⟩ := hk k hkc
          exact ⟨x, by simp [hx], e⟩
        · rw [List.mem_singleton] at hkc; subst hkc
          exact ⟨{ key := .int .i64 k, val := .int .i64 ((cl.count k : Nat) + 1), born := clock }, by simp, rfl⟩
  · have he : e ∈ es.toList := List.mem_of_getElem? h2
    have hj : es[j]? = some e := by simpa using h2
    have hjl : j < es.size := (Array.getElem?_eq_some_iff.1 hj).1
    have hkey : ∀ e', es[j]? = some e' → ({ e' with key := .int .i64 (n : Nat), val := .int .i64 ((cl.count n : Nat) + 1) } : MapEntry).key = e'.key := fun e' he' => by rw [hj] at he'; cases he'; exact h3.symm
    refine ⟨{ w with heap := w.heap.setIfInBounds m (.map (es.modify j fun x => { x with key := .int .i64 (n : Nat), val := .int .i64 ((cl.count n : Nat) + 1) }) clock) }, ?_, ?_, fr_setHeap _⟩
    · simp [Instr.mapUpdate, run_underlying hm, MapKept.run_getObj_map hb, run_checkKey hd hkn, run_findKey hd h1, Result.andThen, hj, h3, run_keyThatStays hkn, MapKept.run_setObj_map _ hb]
    · refine ⟨_, _, (heap_set hb).1, stamped_modify hs _ _ (fun _ _ => rfl) (fun e' _ he' => hkey e' he'), ?_, ?_⟩
      · intro y hy
        rw [Array.mem_toList_iff, Array.mem_iff_getElem?] at hy
        obtain ⟨i, hi⟩ := hy
        rw [Array.getElem?_modify] at hi
        split at hi
        · rw [show es[i]? = some e from by rw [← hj]; congr 1; omega] at hi
          simp only [Option.map_some, Option.some.injEq] at hi
          subst hi
          exact ⟨n, rfl, by simp⟩
        · next hij =>
          refine hother y (Array.mem_toList_iff.2 (Array.mem_of_getElem? hi)) fun hy => ?_
          have hil : i < es.size := (Array.getElem?_eq_some_iff.1 hi).1
          have e1 : (es.toList.map (·.key))[j]? = (es.toList.map (·.key))[i]? := by
            rw [List.getElem?_map, List.getElem?_map, Array.getElem?_toList, Array.getElem?_toList, hj, hi]
            simp only [Option.map_some, Option.some.injEq]
            rw [h3, hy]
          exact hij (nodup_inj hs.2.2 (by simpa using hjl) e1)
      · intro k hkc
        have hkeys := MapKept.modify_keys (es := es) j (fun x => { x with key := .int .i64 (n : Nat), val := .int .i64 ((cl.count n : Nat) + 1) }) hkey
        have : ∃ x ∈ es.toList, x.key = .int .i64 (k : Nat) := by
          rcases List.mem_append.1 hkc with h | h
          · exact hk k h
          · rw [List.mem_singleton] at h; subst h; exact ⟨e, he, h3⟩
        obtain ⟨y, hy, hyk⟩ := this
        have hm : (.int .i64 (k : Nat) : Value) ∈ (es.modify j (fun x => { x with key := .int .i64 (n : Nat), val := .int .i64 ((cl.count n : Nat) + 1) })).toList.map (·.key) := by
          rw [hkeys]; exact List.mem_map.2 ⟨y, hy, hyk⟩
        obtain ⟨z, hz, hzk⟩ := List.mem_map.1 hm
        exact ⟨z, hz, hzk⟩
end
end Go.Proofs.YtepeomphikhbkaaGreatDoor

/-
  A block of eight cells, in every later world.
-/
namespace Go.Proofs.YtepeomphikhbkaaGreatDoor
open Go.RowKit

theorem rule8 {w : World} {b : Nat} {v0 v1 v2 v3 v4 v5 v6 v7 : Value} {T : TypeId} (h : w.heap[b]? = some (.cells #[v0, v1, v2, v3, v4, v5, v6, v7] T (0, 0))) : ∀ w', Fr nob w w' →
    (w'.cell? ⟨b, 0, none⟩ = some v0 ∧ w'.cell? ⟨b, 1, none⟩ = some v1 ∧ w'.cell? ⟨b, 2, none⟩ = some v2 ∧ w'.cell? ⟨b, 3, none⟩ = some v3 ∧ w'.cell? ⟨b, 4, none⟩ = some v4 ∧ w'.cell? ⟨b, 5, none⟩ = some v5 ∧ w'.cell? ⟨b, 6, none⟩ = some v6 ∧ w'.cell? ⟨b, 7, none⟩ = some v7) ∧
    (w'.frozen? ⟨b, 0, none⟩ = false ∧ w'.frozen? ⟨b, 1, none⟩ = false ∧ w'.frozen? ⟨b, 2, none⟩ = false ∧ w'.frozen? ⟨b, 3, none⟩ = false ∧ w'.frozen? ⟨b, 4, none⟩ = false ∧ w'.frozen? ⟨b, 5, none⟩ = false ∧ w'.frozen? ⟨b, 6, none⟩ = false ∧ w'.frozen? ⟨b, 7, none⟩ = false) := fun _ f => by
  have h' := f.heap h (fun x => x)
  exact ⟨⟨cell_at h' rfl, cell_at h' rfl, cell_at h' rfl, cell_at h' rfl, cell_at h' rfl, cell_at h' rfl, cell_at h' rfl, cell_at h' rfl⟩, unfrozen_at h' _, unfrozen_at h' _, unfrozen_at h' _, unfrozen_at h' _, unfrozen_at h' _, unfrozen_at h' _, unfrozen_at h' _, unfrozen_at h' _⟩
theorem results_tmp4 {fn : Func} {t u v x : Tmp} (h : fn.results = #[.tmp t, .tmp u, .tmp v, .tmp x]) (tmps : Array Value) (P : Program) (w : World) :
    (results fn tmps).run P w = .ok (.tuple #[tmps.getD t undef, tmps.getD u undef, tmps.getD v undef, tmps.getD x undef]) w := by
  simp [results, h]
end Go.Proofs.YtepeomphikhbkaaGreatDoor

/-
  A law's last step, for arguments of whatever types: the call returned true and below the old heap's size nothing has turned.
-/
namespace Go.Proofs.YtepeomphikhbkaaGreatDoor
open Go.ChangeShapes Go.WideShapes Go.ChangeAt Go.RowKit

section
variable {H : Type} {enc : TypeId × Value → H} {P : Program}

theorem trodAll_stays (hl : laidOutB P = true) {W W' : World} {sp : Nat → Bool} (hb : Below W.heap.size W W') : ∀ (ts : List TypeId) (vs : List Value) (ds : List (DataW H)) (ps : List MemPlace),
    (∀ t ∈ ts, P.readableRec t = true ∧ t < P.types.size) → DataW.TrodAll enc P W 0 (fun _ => true) true ts vs ds ps → (∀ x ∈ ps, x.block < W.heap.size) → (∀ x ∈ ps, sp x.block = true) →
    DataW.TrodAll enc P W' 0 sp true ts vs ds ps
  | [], [], [], ps, _, h, _, _ => h
  | t :: ts, v :: vs, d :: ds, ps, hr, ⟨p, q, h1, h2, e⟩, hlt, hsp => by
    subst e
    refine ⟨p, q, ?_, ?_, rfl⟩
    · exact WideElems.Trod_stays hl (hr t (by simp)).1 (hr t (by simp)).2 h1 (fun x hx => hb.same (hlt x (by simp [hx]))) (fun x hx => hsp x (by simp [hx]))
    · exact trodAll_stays hl hb ts vs ds q (fun t ht => hr t (by simp [ht])) h2 (fun x hx => hlt x (by simp [hx])) (fun x hx => hsp x (by simp [hx]))
  | [], [], _ :: _, _, _, h, _, _ => h.elim
  | [], _ :: _, _, _, _, h, _, _ => h.elim
  | _ :: _, [], _, _, _, h, _, _ => h.elim
  | _ :: _, _ :: _, [], _, _, h, _, _ => h.elim

theorem okWide_array' {n : Nat} {e t : TypeId} {w : World} {r : Reach} {b : Nat} {v : Value} (ht : P.underlying t = some (.array n e)) (h : Value.okWide P w r b t v) : ∃ cs, v = .agg cs ∧ cs.size = P.cellsOf t := by
  simp only [Value.okWide, ht] at h
  obtain ⟨cs, h1, h2, _⟩ := h
  exact ⟨cs, h1, h2⟩

theorem ints_of_trod {w : World} {base : Nat} {spare : Nat → Bool} {held : Bool} {m : Nat} {k : IntKind} {e : TypeId} (he : P.underlying e = some (.int k)) : ∀ (cs : List Value) (xs : List (DataW H × List MemPlace)),
    cs.length = xs.length → (∀ i, i < xs.length → DataW.trod enc P w base spare held m e ((cs.drop i).take 1) = xs[i]?) → ∃ zs : List Int, cs = zs.map (Value.int k) ∧ ∀ z ∈ zs, (Lit.int k z).wf = true
  | [], _, _, _ => ⟨[], rfl, by simp⟩
  | c :: cs, [], h, _ => by simp at h
  | c :: cs, x :: xs, hl, h => by
    obtain ⟨zs, hz, hw⟩ := ints_of_trod he cs xs (by simpa using hl) (fun i hi => by simpa using h (i + 1) (by simp; omega))
    have h0 := h 0 (by simp)
    simp only [List.drop_zero, List.take_succ_cons, List.take_zero, List.getElem?_cons_zero] at h0
    obtain ⟨z, hc, _, wz⟩ := DataW.trod_int he h0
    simp only [List.cons.injEq, and_true] at hc
    refine ⟨z :: zs, by simp [hc, hz], ?_⟩
    intro y hy
    rcases List.mem_cons.1 hy with rfl | hy
    · exact wz
    · exact hw y hy

theorem list2_of {α : Type} {zs : List α} (h : zs.length = 2) : ∃ a b, zs = [a, b] := by
  match zs, h with
  | [a, b], _ => exact ⟨a, b, rfl⟩
theorem list4_of {α : Type} {zs : List α} (h : zs.length = 4) : ∃ a b c d, zs = [a, b, c, d] := by
  match zs, h with
  | [a, b, c, d], _ => exact ⟨a, b, c, d, rfl⟩

/-- An array of integers, by value. -/
theorem open_iarr {n : Nat} {e t : TypeId} {k : IntKind} {w w' : World} {r : Reach} {b base : Nat} {spare : Nat → Bool} {held : Bool} {v : Value} {d : DataW H} {p : List MemPlace}
    (ht : P.underlying t = some (.array n e)) (he : P.underlying e = some (.int k)) (hc : P.cellsOf e = 1) (hct : P.cellsOf t = n) (hv : Value.okWide P w r b t v) (h : DataW.Trod enc P w' base spare held t v d p) :
    ∃ zs : List Int, zs.length = n ∧ v = .agg (zs.map (Value.int k)).toArray ∧ ∀ z ∈ zs, (Lit.int k z).wf = true := by
  obtain ⟨cs, rfl, hsz⟩ := okWide_array' ht hv
  obtain ⟨fuel, hf⟩ := h
  obtain ⟨xs, m, _, _, hl, hn, hx⟩ := DataW.trod_array ht hf
  rw [hc] at hx
  have hl' : (Value.agg cs).cells.toList.length = n := by rw [hl, hct]
  obtain ⟨zs, hz, hw⟩ := ints_of_trod he (Value.agg cs).cells.toList xs (by rw [hl', hn]) (fun i hi => by simpa using hx i (by omega))
  have hzl : zs.length = n := by have := congrArg List.length hz; rw [hl', List.length_map] at this; exact this.symm
  refine ⟨zs, hzl, ?_, hw⟩
  have hcs : cs.toList = zs.map (Value.int k) := hz
  rw [← hcs]

/-- The last step of a law. -/
theorem law_post {f : Func} {s : ChangeSpec} {apart fresh handsOn again : Bool} {W W' : World} {args : Array Value} {ds gs : List (DataW H)} {before : List MemPlace} {tb : TypeId}
    (hvars : s.vars = []) (hres : f.resultTypes = #[tb]) (htb : P.underlying tb = some .bool) (hl : laidOutB P = true) (hrd : ∀ t ∈ f.params.toList, P.readableRec t = true ∧ t < P.types.size)
    (hsp : s.fn H (ds ++ gs) = { results := [.lit (.bool true)], args := ds })
    (hW : DataW.Whole enc P f.params.toList s.vars apart W args.toList ds gs before) (hb : Below W.heap.size W W') :
    s.post enc P f apart fresh handsOn again W args (.bool true) W' := by
  have hlt : ∀ p ∈ before, p.block < W.heap.size := fun p hp => hW.lt p hp
  have hold : ∀ p ∈ before, (fun b => decide (b < W.heap.size)) p.block = true := fun p hp => by simpa using hlt p hp
  have hres0 : ∀ (b : Nat) (sp : Nat → Bool) (hd : Bool), DataW.TrodAll enc P W' b sp hd f.resultTypes.toList ((Value.bool true).resultList f.resultTypes.size) (s.fn H (ds ++ gs)).results [] := by
    intro b sp hd; rw [hsp, hres]; exact trodAll_cons_mk (shut_bool htb _) trodAll_mk0
  obtain ⟨p, q, hA, hV, hpq, hz, hn⟩ := hW
  have hW : DataW.Whole enc P f.params.toList s.vars apart W args.toList ds gs before := ⟨p, q, hA, hV, hpq, hz, hn⟩
  have hV' := hV
  rw [hvars] at hV'
  obtain ⟨rfl, rfl⟩ := trodVars_none hV'
  simp only [List.append_nil] at hpq hsp hres0
  subst hpq
  have hargs : ∀ sp : Nat → Bool, (∀ x ∈ before, sp x.block = true) → DataW.TrodAll enc P W' 0 sp true f.params.toList args.toList (s.fn H (ds ++ [])).args before := by
    intro sp h; simp only [List.append_nil]; rw [hsp]; exact trodAll_stays hl hb _ _ _ _ hrd hA hlt h
  have hvs : ∀ sp : Nat → Bool, DataW.TrodVars enc P W' sp s.vars (s.fn H (ds ++ [])).vars [] := by
    intro sp; simp only [List.append_nil]; rw [hvars, hsp]; rfl
  refine ⟨ds, [], before, [], before, [], hW, by simpa using hres0 _ _ _, hargs _ hold, hvs _, World.keptBut_mono (fun x hx => ⟨hx, .inr (.inl hx)⟩) (hb.frame (· ∈ before)), fun _ => ?_⟩
  refine ⟨ok_one hres rfl (okWide_bool_mk htb _), (s.fn H (ds ++ [])).results ++ (s.fn H (ds ++ [])).args, [], before, ⟨[] ++ before, [], ?_, ?_, by simp, ?_, ?_⟩, ?_⟩
  · exact trodAll_append (hargs _ (fun _ _ => rfl)) (by simpa using hres0 _ _ _)
  · rw [hvars]; rfl
  · intro b off hp
    rw [hb.frozen (hlt _ hp)]
    exact hz b off hp
  · intro ha; exact hn ha
  · intro x hx _; exact hx
end

end Go.Proofs.YtepeomphikhbkaaGreatDoor

/-
  A slice of bytes among a law's arguments.
-/
namespace Go.Proofs.YtepeomphikhbkaaGreatDoor
open Go.ChangeShapes Go.WideShapes Go.ChangeAt Go.RowKit

section
variable {H : Type} {enc : TypeId × Value → H} {P : Program}

theorem byte_of_wf {n : Int} (h : (Lit.int .u8 n).wf = true) : ((UInt8.ofNat n.toNat).toNat : Int) = n := by
  simp [Lit.wf, IntKind.min, IntKind.max, IntKind.signed, IntKind.bits] at h
  have h2 : n.toNat < 256 := by omega
  simp [UInt8.toNat_ofNat']; omega

theorem open_bytes {t e : TypeId} {w : World} {r : Reach} {b base : Nat} {spare : Nat → Bool} {held : Bool} {v : Value} {d : DataW H} {p : List MemPlace}
    (ht : P.underlying t = some (.slice e)) (he : P.underlying e = some (.int .u8)) (hc : P.cellsOf e = 1) (hv : Value.okWide P w r b t v) (h : DataW.Trod enc P w base spare held t v d p) :
    ∃ l : List UInt8, l.length ≤ maxLen ∧ SB w l v := by
  obtain ⟨a0, len, cap, rfl⟩ := okWide_slice ht hv
  obtain ⟨fuel, hf⟩ := h
  rcases open_ints ht he hc hf with ⟨hcs, _⟩ | ⟨a, len', cap', zs, hcs, _, hl, hm, hz, _, hcell, hwz⟩
  · simp only [Value.cells, List.cons.injEq, and_true] at hcs
    injection hcs with e1 e2 e3
    subst e1; subst e2; subst e3
    exact ⟨[], Nat.zero_le _, .inl ⟨rfl, _, _, rfl⟩⟩
  · simp only [Value.cells, List.cons.injEq, and_true] at hcs
    injection hcs with e1 e2 e3
    subst e1; subst e2; subst e3
    have hlz : len ≤ zs.length := by rw [hz]; split <;> omega
    by_cases h0 : len = 0
    · subst h0; exact ⟨[], Nat.zero_le _, .inl ⟨rfl, _, _, rfl⟩⟩
    · obtain ⟨g, off, rfl, hcc⟩ := ints_at hcell (by omega)
      refine ⟨(zs.take len).map fun n => UInt8.ofNat n.toNat, by simp; omega, .inr ⟨g, off, cap, by simp [Nat.min_eq_left hlz], ?_, ?_⟩⟩
      · exact World.block_lt_of_cell? w _ (hcc 0 (by omega))
      · intro j x hj
        have hjl : j < len := by
          have := (List.getElem?_eq_some_iff.1 hj).1
          simp at this; omega
        rw [hcc j (by omega)]
        have hx : x = UInt8.ofNat (zs.getD j 0).toNat := by
          have hjz : j < zs.length := by omega
          simp [hjl, hjz] at hj ⊢
          exact hj.symm
        rw [hx, byte_of_wf]
        apply hwz
        have hjz : j < zs.length := by omega
        simp [hjz]
end

end Go.Proofs.YtepeomphikhbkaaGreatDoor
