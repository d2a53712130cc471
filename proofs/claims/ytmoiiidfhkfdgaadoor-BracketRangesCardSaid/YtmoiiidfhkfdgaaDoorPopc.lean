/-
  How many bits a word has: the sum that math/bits reckons, byte by byte. Plain: no walk.
-/
import Derived.Test.YtmoiiidfhkfdgaaDoorWords
namespace Go.Proofs.YtmoiiidfhkfdgaaDoor

theorem and_split (p q M c : Nat) (hq : q < 256) (hc : c < 256) : (256 * p + q) &&& (256 * M + c) = 256 * (p &&& M) + (q &&& c) := by
  have h1 : ((256 * p + q) &&& (256 * M + c)) / 256 = p &&& M := by
    have := @Nat.and_div_two_pow (256 * p + q) (256 * M + c) 8
    rw [show (2 : Nat) ^ 8 = 256 from rfl] at this
    rw [this, show (256 * p + q) / 256 = p by omega, show (256 * M + c) / 256 = M by omega]
  have h2 : ((256 * p + q) &&& (256 * M + c)) % 256 = q &&& c := by
    have := @Nat.and_mod_two_pow (256 * p + q) (256 * M + c) 8
    rw [show (2 : Nat) ^ 8 = 256 from rfl] at this
    rw [this, show (256 * p + q) % 256 = q by omega, show (256 * M + c) % 256 = c by omega]
  omega

def pf1 (M x : Nat) : Nat := ((x / 2) &&& M) + (x &&& M)
def pf2 (M x : Nat) : Nat := ((x / 4) &&& M) + (x &&& M)
def pf3 (M x : Nat) : Nat := (x / 16 + x) &&& M

theorem low1 : ∀ (c : Fin 2) (b : Fin 256), (c.val * 128 + b.val / 2) &&& 85 = (b.val / 2) &&& 85 := by decide +kernel
theorem low2 : ∀ (c : Fin 4) (b : Fin 256), (c.val * 64 + b.val / 4) &&& 51 = (b.val / 4) &&& 51 := by decide +kernel
theorem low3 : ∀ (c : Fin 5) (b : Fin 69), (c.val * 16 + (b.val / 16 + b.val)) &&& 15 = (b.val / 16 + b.val) &&& 15 := by decide +kernel

theorem step1 (y b M : Nat) (hb : b < 256) : pf1 (256 * M + 85) (256 * y + b) = 256 * pf1 M y + pf1 85 b := by
  unfold pf1
  have h := low1 ⟨y % 2, by omega⟩ ⟨b, hb⟩
  simp only at h
  rw [show (256 * y + b) / 2 = 256 * (y / 2) + (y % 2 * 128 + b / 2) by omega, and_split _ _ _ _ (by omega) (by decide), and_split _ _ _ _ hb (by decide), h]
  omega
theorem step2 (y b M : Nat) (hb : b < 256) : pf2 (256 * M + 51) (256 * y + b) = 256 * pf2 M y + pf2 51 b := by
  unfold pf2
  have h := low2 ⟨y % 4, by omega⟩ ⟨b, hb⟩
  simp only at h
  rw [show (256 * y + b) / 4 = 256 * (y / 4) + (y % 4 * 64 + b / 4) by omega, and_split _ _ _ _ (by omega) (by decide), and_split _ _ _ _ hb (by decide), h]
  omega
theorem step3 (y b M : Nat) (hb : b < 69) (hy : y % 16 < 5) : pf3 (256 * M + 15) (256 * y + b) = 256 * pf3 M y + pf3 15 b := by
  unfold pf3
  have h := low3 ⟨y % 16, hy⟩ ⟨b, hb⟩
  simp only at h
  rw [show (256 * y + b) / 16 + (256 * y + b) = 256 * (y / 16 + y) + (y % 16 * 16 + (b / 16 + b)) by omega, and_split _ _ _ _ (by omega) (by decide), h]

/-- A byte's bits. -/
def pop8 (b : Nat) : Nat := b % 2 + b / 2 % 2 + b / 4 % 2 + b / 8 % 2 + b / 16 % 2 + b / 32 % 2 + b / 64 % 2 + b / 128 % 2
theorem pop8_eq : ∀ b : Fin 256, pf3 15 (pf2 51 (pf1 85 b.val)) = pop8 b.val := by decide +kernel
theorem pf1_lt : ∀ b : Fin 256, pf1 85 b.val < 256 := by decide +kernel
theorem pf2_lt : ∀ b : Fin 256, pf2 51 (pf1 85 b.val) < 69 := by decide +kernel
theorem pf2_low : ∀ b : Fin 256, pf2 51 (pf1 85 b.val) % 16 < 5 := by decide +kernel
theorem pop8_le : ∀ b : Fin 256, pop8 b.val ≤ 8 := by decide +kernel

/-- Eight bytes as a word. -/
def by8 (b0 b1 b2 b3 b4 b5 b6 b7 : Nat) : Nat := 256 * (256 * (256 * (256 * (256 * (256 * (256 * b7 + b6) + b5) + b4) + b3) + b2) + b1) + b0

theorem pf1_8 {b0 b1 b2 b3 b4 b5 b6 b7 : Nat} (h0 : b0 < 256) (h1 : b1 < 256) (h2 : b2 < 256) (h3 : b3 < 256) (h4 : b4 < 256) (h5 : b5 < 256) (h6 : b6 < 256) :
    pf1 6148914691236517205 (by8 b0 b1 b2 b3 b4 b5 b6 b7) = by8 (pf1 85 b0) (pf1 85 b1) (pf1 85 b2) (pf1 85 b3) (pf1 85 b4) (pf1 85 b5) (pf1 85 b6) (pf1 85 b7) := by
  unfold by8
  rw [show 6148914691236517205 = 256 * (256 * (256 * (256 * (256 * (256 * (256 * 85 + 85) + 85) + 85) + 85) + 85) + 85) + 85 from rfl]
  rw [step1 _ _ _ h0, step1 _ _ _ h1, step1 _ _ _ h2, step1 _ _ _ h3, step1 _ _ _ h4, step1 _ _ _ h5, step1 _ _ _ h6]
theorem pf2_8 {b0 b1 b2 b3 b4 b5 b6 b7 : Nat} (h0 : b0 < 256) (h1 : b1 < 256) (h2 : b2 < 256) (h3 : b3 < 256) (h4 : b4 < 256) (h5 : b5 < 256) (h6 : b6 < 256) :
    pf2 3689348814741910323 (by8 b0 b1 b2 b3 b4 b5 b6 b7) = by8 (pf2 51 b0) (pf2 51 b1) (pf2 51 b2) (pf2 51 b3) (pf2 51 b4) (pf2 51 b5) (pf2 51 b6) (pf2 51 b7) := by
  unfold by8
  rw [show 3689348814741910323 = 256 * (256 * (256 * (256 * (256 * (256 * (256 * 51 + 51) + 51) + 51) + 51) + 51) + 51) + 51 from rfl]
  rw [step2 _ _ _ h0, step2 _ _ _ h1, step2 _ _ _ h2, step2 _ _ _ h3, step2 _ _ _ h4, step2 _ _ _ h5, step2 _ _ _ h6]
theorem mod16 (y b : Nat) : (256 * y + b) % 16 = b % 16 := by omega
theorem pf3_8 {b0 b1 b2 b3 b4 b5 b6 b7 : Nat} (h0 : b0 < 69) (h1 : b1 < 69) (h2 : b2 < 69) (h3 : b3 < 69) (h4 : b4 < 69) (h5 : b5 < 69) (h6 : b6 < 69)
    (g1 : b1 % 16 < 5) (g2 : b2 % 16 < 5) (g3 : b3 % 16 < 5) (g4 : b4 % 16 < 5) (g5 : b5 % 16 < 5) (g6 : b6 % 16 < 5) (g7 : b7 % 16 < 5) :
    pf3 1085102592571150095 (by8 b0 b1 b2 b3 b4 b5 b6 b7) = by8 (pf3 15 b0) (pf3 15 b1) (pf3 15 b2) (pf3 15 b3) (pf3 15 b4) (pf3 15 b5) (pf3 15 b6) (pf3 15 b7) := by
  unfold by8
  rw [show 1085102592571150095 = 256 * (256 * (256 * (256 * (256 * (256 * (256 * 15 + 15) + 15) + 15) + 15) + 15) + 15) + 15 from rfl]
  rw [step3 _ _ _ h0 (by rw [mod16]; exact g1), step3 _ _ _ h1 (by rw [mod16]; exact g2), step3 _ _ _ h2 (by rw [mod16]; exact g3), step3 _ _ _ h3 (by rw [mod16]; exact g4), step3 _ _ _ h4 (by rw [mod16]; exact g5), step3 _ _ _ h5 (by rw [mod16]; exact g6), step3 _ _ _ h6 g7]

/-- The three first steps. -/
def swar3 (x : Nat) : Nat := pf3 1085102592571150095 (pf2 3689348814741910323 (pf1 6148914691236517205 x))
/-- The three last ones. -/
def swar6 (x : Nat) : Nat := ((x + x / 256) + (x + x / 256) / 65536) + ((x + x / 256) + (x + x / 256) / 65536) / 4294967296
/-- A word's bits. -/
def pop (x : Nat) : Nat := pop8 (x % 256) + pop8 (x / 256 % 256) + pop8 (x / 65536 % 256) + pop8 (x / 16777216 % 256) + pop8 (x / 4294967296 % 256) + pop8 (x / 1099511627776 % 256) + pop8 (x / 281474976710656 % 256) + pop8 (x / 72057594037927936 % 256)

theorem by8_of (x : Nat) (h : x < 18446744073709551616) : x = by8 (x % 256) (x / 256 % 256) (x / 65536 % 256) (x / 16777216 % 256) (x / 4294967296 % 256) (x / 1099511627776 % 256) (x / 281474976710656 % 256) (x / 72057594037927936 % 256) := by
  unfold by8; omega
theorem swar3_eq (x : Nat) (h : x < 18446744073709551616) : swar3 x = by8 (pop8 (x % 256)) (pop8 (x / 256 % 256)) (pop8 (x / 65536 % 256)) (pop8 (x / 16777216 % 256)) (pop8 (x / 4294967296 % 256)) (pop8 (x / 1099511627776 % 256)) (pop8 (x / 281474976710656 % 256)) (pop8 (x / 72057594037927936 % 256)) := by
  have hx := by8_of x h
  have l : ∀ n, n % 256 < 256 := fun n => Nat.mod_lt _ (by decide)
  have e : ∀ n, n % 256 = n % 256 → pf3 15 (pf2 51 (pf1 85 (n % 256))) = pop8 (n % 256) := fun n _ => pop8_eq ⟨n % 256, l n⟩
  have a : ∀ n, pf1 85 (n % 256) < 256 := fun n => pf1_lt ⟨n % 256, l n⟩
  have b : ∀ n, pf2 51 (pf1 85 (n % 256)) < 69 := fun n => pf2_lt ⟨n % 256, l n⟩
  have c : ∀ n, pf2 51 (pf1 85 (n % 256)) % 16 < 5 := fun n => pf2_low ⟨n % 256, l n⟩
  unfold swar3
  have h1 := pf1_8 (b7 := x / 72057594037927936 % 256) (l x) (l (x / 256)) (l (x / 65536)) (l (x / 16777216)) (l (x / 4294967296)) (l (x / 1099511627776)) (l (x / 281474976710656))
  have h2 := pf2_8 (b7 := pf1 85 (x / 72057594037927936 % 256)) (a x) (a (x / 256)) (a (x / 65536)) (a (x / 16777216)) (a (x / 4294967296)) (a (x / 1099511627776)) (a (x / 281474976710656))
  have h3 := pf3_8 (b x) (b (x / 256)) (b (x / 65536)) (b (x / 16777216)) (b (x / 4294967296)) (b (x / 1099511627776)) (b (x / 281474976710656)) (c (x / 256)) (c (x / 65536)) (c (x / 16777216)) (c (x / 4294967296)) (c (x / 1099511627776)) (c (x / 281474976710656)) (c (x / 72057594037927936))
  rw [← hx] at h1
  rw [h1, h2, h3, e x rfl, e (x / 256) rfl, e (x / 65536) rfl, e (x / 16777216) rfl, e (x / 4294967296) rfl, e (x / 1099511627776) rfl, e (x / 281474976710656) rfl, e (x / 72057594037927936) rfl]

theorem swar6_eq (c0 c1 c2 c3 c4 c5 c6 c7 : Nat) (h0 : c0 ≤ 8) (h1 : c1 ≤ 8) (h2 : c2 ≤ 8) (h3 : c3 ≤ 8) (h4 : c4 ≤ 8) (h5 : c5 ≤ 8) (h6 : c6 ≤ 8) (h7 : c7 ≤ 8) :
    swar6 (by8 c0 c1 c2 c3 c4 c5 c6 c7) % 128 = c0 + c1 + c2 + c3 + c4 + c5 + c6 + c7 ∧ swar6 (by8 c0 c1 c2 c3 c4 c5 c6 c7) < 9223372036854775808 := by
  have hx : by8 c0 c1 c2 c3 c4 c5 c6 c7 / 256 = by8 c1 c2 c3 c4 c5 c6 c7 0 := by unfold by8; omega
  have hy : by8 c0 c1 c2 c3 c4 c5 c6 c7 + by8 c1 c2 c3 c4 c5 c6 c7 0 = by8 (c0 + c1) (c1 + c2) (c2 + c3) (c3 + c4) (c4 + c5) (c5 + c6) (c6 + c7) c7 := by unfold by8; omega
  have hz : by8 (c0 + c1) (c1 + c2) (c2 + c3) (c3 + c4) (c4 + c5) (c5 + c6) (c6 + c7) c7 / 65536 = by8 (c2 + c3) (c3 + c4) (c4 + c5) (c5 + c6) (c6 + c7) c7 0 0 := by unfold by8; omega
  have hu : by8 (c0 + c1) (c1 + c2) (c2 + c3) (c3 + c4) (c4 + c5) (c5 + c6) (c6 + c7) c7 + by8 (c2 + c3) (c3 + c4) (c4 + c5) (c5 + c6) (c6 + c7) c7 0 0 = by8 (c0 + c1 + (c2 + c3)) (c1 + c2 + (c3 + c4)) (c2 + c3 + (c4 + c5)) (c3 + c4 + (c5 + c6)) (c4 + c5 + (c6 + c7)) (c5 + c6 + c7) (c6 + c7) c7 := by unfold by8; omega
  have hv : by8 (c0 + c1 + (c2 + c3)) (c1 + c2 + (c3 + c4)) (c2 + c3 + (c4 + c5)) (c3 + c4 + (c5 + c6)) (c4 + c5 + (c6 + c7)) (c5 + c6 + c7) (c6 + c7) c7 / 4294967296 = by8 (c4 + c5 + (c6 + c7)) (c5 + c6 + c7) (c6 + c7) c7 0 0 0 0 := by unfold by8; omega
  unfold swar6
  rw [hx, hy, hz, hu, hv]
  unfold by8
  constructor <;> omega

theorem swar_eq (x : Nat) (h : x < 18446744073709551616) : swar6 (swar3 x) % 128 = pop x ∧ swar6 (swar3 x) < 9223372036854775808 := by
  have l : ∀ n, pop8 (n % 256) ≤ 8 := fun n => pop8_le ⟨n % 256, Nat.mod_lt _ (by decide)⟩
  rw [swar3_eq x h]
  exact swar6_eq _ _ _ _ _ _ _ _ (l _) (l _) (l _) (l _) (l _) (l _) (l _) (l _)

end Go.Proofs.YtmoiiidfhkfdgaaDoor
