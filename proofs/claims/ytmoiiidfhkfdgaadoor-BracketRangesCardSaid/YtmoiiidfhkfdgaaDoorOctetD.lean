/-
  Walks: OnesCount64; Len of both sides.
-/
import Derived.Test.YtmoiiidfhkfdgaaDoorOctetC
import Derived.Test.YtmoiiidfhkfdgaaDoorPopc
namespace Go.Proofs.YtmoiiidfhkfdgaaDoor
open Go.RowKit

theorem and_nat (a m : Nat) (ha : a < 18446744073709551616) (hm : m < 18446744073709551616) : bits .and .u64 (a : Int) (m : Int) = ((a &&& m : Nat) : Int) := by
  rw [bits_and]
  have h1 : wd (a : Int) = BitVec.ofNat 64 a := by unfold wd; simp
  have h2 : wd (m : Int) = BitVec.ofNat 64 m := by unfold wd; simp
  rw [h1, h2, BitVec.toNat_and, BitVec.toNat_ofNat, BitVec.toNat_ofNat, Nat.mod_eq_of_lt (by simpa using ha), Nat.mod_eq_of_lt (by simpa using hm)]
theorem wrap_small (a : Nat) (ha : a < 18446744073709551616) : IntKind.u64.wrap (a : Int) = (a : Int) := by
  have := wrap_nat (BitVec.ofNat 64 a)
  rw [BitVec.toNat_ofNat, Nat.mod_eq_of_lt (by simpa using ha)] at this
  exact this
theorem wrap_small' (a : Nat) (ha : a < 9223372036854775808) : IntKind.i64.wrap (a : Int) = (a : Int) := by
  simp only [IntKind.wrap, IntKind.bits, IntKind.signed]
  simp
  omega
theorem and_127 (a : Nat) (ha : a < 9223372036854775808) : bits .and .i64 (a : Int) 127 = ((a % 128 : Nat) : Int) := by
  have h1 : BitVec.ofInt 64 (a : Int) = BitVec.ofNat 64 a := by simp
  have h2 : BitVec.ofInt 64 127 = BitVec.ofNat 64 127 := by decide
  show IntKind.i64.wrap (((BitVec.ofInt 64 (a : Int)) &&& (BitVec.ofInt 64 127)).toNat : Int) = _
  rw [h1, h2, BitVec.toNat_and, BitVec.toNat_ofNat, BitVec.toNat_ofNat, Nat.mod_eq_of_lt (by simp; omega)]
  have h3 : a &&& 127 % 2 ^ 64 = a % 128 := by
    have := Nat.and_two_pow_sub_one_eq_mod a 7
    simpa using this
  rw [h3]
  exact wrap_small' _ (by omega)

set_option maxRecDepth 100000 in
set_option maxHeartbeats 1000000 in
theorem ones_any (n : Nat) (w : World) (hn : n < 18446744073709551616) :
    Calls Tryd.prog 25 #[.int .u64 n] w fun e w' => e = .returned (.int .i64 (pop n)) ∧ w = w' := by
  have hp := Lib.hid (swar_eq n hn)
  obtain ⟨x1, h1⟩ : ∃ x, pf1 6148914691236517205 n = x := ⟨_, rfl⟩
  obtain ⟨x2, h2⟩ : ∃ x, pf2 3689348814741910323 x1 = x := ⟨_, rfl⟩
  obtain ⟨x3, h3⟩ : ∃ x, pf3 1085102592571150095 x2 = x := ⟨_, rfl⟩
  have hs : swar3 n = x3 := by unfold swar3; rw [h1, h2, h3]
  have HP := Lib.hid (show swar6 x3 % 128 = pop n ∧ swar6 x3 < 9223372036854775808 by rw [← hs]; exact hp.out)
  have b1 : x1 ≤ 12297829382473034410 := by
    rw [← h1]; unfold pf1
    have := @Nat.and_le_right (n / 2) 6148914691236517205
    have := @Nat.and_le_right n 6148914691236517205
    omega
  have b2 : x2 ≤ 7378697629483820646 := by
    rw [← h2]; unfold pf2
    have := @Nat.and_le_right (x1 / 4) 3689348814741910323
    have := @Nat.and_le_right x1 3689348814741910323
    omega
  have b3 : x3 ≤ 1085102592571150095 := by
    rw [← h3]; unfold pf3; exact Nat.and_le_right
  obtain ⟨x4, h4⟩ : ∃ x, x3 + x3 / 256 = x := ⟨_, rfl⟩
  obtain ⟨x5, h5⟩ : ∃ x, x4 + x4 / 65536 = x := ⟨_, rfl⟩
  obtain ⟨x6, h6⟩ : ∃ x, x5 + x5 / 4294967296 = x := ⟨_, rfl⟩
  have h66 : swar6 x3 = x6 := by unfold swar6; rw [h4, h5, h6]
  have e1 : IntKind.u64.wrap (bits .and .u64 ((n : Int) / 2) 6148914691236517205 + bits .and .u64 (n : Int) 6148914691236517205) = (x1 : Int) := by
    have q1 := and_nat (n / 2) 6148914691236517205 (by omega) (by decide)
    have q2 := and_nat n 6148914691236517205 hn (by decide)
    have q3 : ((n : Int) / 2) = ((n / 2 : Nat) : Int) := by omega
    rw [q3, show (6148914691236517205 : Int) = ((6148914691236517205 : Nat) : Int) from rfl, q1, q2, ← Int.natCast_add]
    rw [show (n / 2 &&& 6148914691236517205) + (n &&& 6148914691236517205) = x1 from h1]
    exact wrap_small _ (by omega)
  have e2 : IntKind.u64.wrap (bits .and .u64 ((x1 : Int) / 4) 3689348814741910323 + bits .and .u64 (x1 : Int) 3689348814741910323) = (x2 : Int) := by
    have q1 := and_nat (x1 / 4) 3689348814741910323 (by omega) (by decide)
    have q2 := and_nat x1 3689348814741910323 (by omega) (by decide)
    have q3 : ((x1 : Int) / 4) = ((x1 / 4 : Nat) : Int) := by omega
    rw [q3, show (3689348814741910323 : Int) = ((3689348814741910323 : Nat) : Int) from rfl, q1, q2, ← Int.natCast_add]
    rw [show (x1 / 4 &&& 3689348814741910323) + (x1 &&& 3689348814741910323) = x2 from h2]
    exact wrap_small _ (by omega)
  have e3 : bits .and .u64 (IntKind.u64.wrap ((x2 : Int) / 16 + (x2 : Int))) 1085102592571150095 = (x3 : Int) := by
    have q3 : ((x2 : Int) / 16 + (x2 : Int)) = ((x2 / 16 + x2 : Nat) : Int) := by omega
    rw [q3, wrap_small _ (by omega), show (1085102592571150095 : Int) = ((1085102592571150095 : Nat) : Int) from rfl, and_nat _ _ (by omega) (by decide)]
    rw [show (x2 / 16 + x2) &&& 1085102592571150095 = x3 from h3]
  have e4 : IntKind.u64.wrap ((x3 : Int) + (x3 : Int) / 256) = (x4 : Int) := by
    rw [show (x3 : Int) + (x3 : Int) / 256 = ((x4 : Nat) : Int) by omega]; exact wrap_small _ (by omega)
  have e5 : IntKind.u64.wrap ((x4 : Int) + (x4 : Int) / 65536) = (x5 : Int) := by
    rw [show (x4 : Int) + (x4 : Int) / 65536 = ((x5 : Nat) : Int) by omega]; exact wrap_small _ (by omega)
  have e6 : IntKind.u64.wrap ((x5 : Int) + (x5 : Int) / 4294967296) = (x6 : Int) := by
    rw [show (x5 : Int) + (x5 : Int) / 4294967296 = ((x6 : Nat) : Int) by omega]; exact wrap_small _ (by omega)
  have e7 : IntKind.i64.wrap (x6 : Int) = (x6 : Int) := wrap_small' _ (by omega)
  have e8 : bits .and .i64 (x6 : Int) 127 = ((pop n : Nat) : Int) := by
    rw [and_127 _ (by omega), ← h66, HP.out.1]
  have n0 : (0 : Int) ≤ x2 := by omega
  clear h1 h2 h3 h4 h5 h6 hs h66 b1 b2 b3 hn
  go_enter Tryd.func25, Tryd.ntmps25
  go_wp2
  go_ret
  exact ⟨rfl, rfl⟩

/-- How many bytes a set has. -/
def S4.len (s : S4) : Nat := pop s.a.toNat + pop s.b.toNat + pop s.c.toNat + pop s.d.toNat
def S4.lenTo (k : Nat) (s : S4) : Nat := (if 0 < k then pop s.a.toNat else 0) + (if 1 < k then pop s.b.toNat else 0) + (if 2 < k then pop s.c.toNat else 0) + (if 3 < k then pop s.d.toNat else 0)
theorem pop8_le' (n : Nat) : pop8 n ≤ 8 := by unfold pop8; omega
theorem pop_le (n : Nat) : pop n ≤ 64 := by
  have h := fun k => pop8_le' (n / k % 256)
  have := pop8_le' (n % 256); have := h 256; have := h 65536; have := h 16777216; have := h 4294967296; have := h 1099511627776; have := h 281474976710656; have := h 72057594037927936
  unfold pop; omega
theorem S4.len_le (s : S4) : s.len ≤ 256 := by
  have := pop_le s.a.toNat; have := pop_le s.b.toNat; have := pop_le s.c.toNat; have := pop_le s.d.toNat
  unfold S4.len; omega

set_option maxRecDepth 100000 in
set_option maxHeartbeats 1000000 in
theorem len_any (s : S4) (w : World) (hs : s.fit) :
    Calls Tryd.prog 15 #[.agg s.cells.toArray] w fun e w' => e = .returned (.int .i64 s.len) ∧ Fr nob w w' := by
  obtain ⟨a, b, c, d⟩ := s
  obtain ⟨⟨l0, u0⟩, ⟨l1, u1⟩, ⟨l2, u2⟩, ⟨l3, u3⟩⟩ := hs
  simp only at l0 u0 l1 u1 l2 u2 l3 u3
  obtain ⟨na, rfl⟩ := Int.eq_ofNat_of_zero_le l0
  obtain ⟨nb, rfl⟩ := Int.eq_ofNat_of_zero_le l1
  obtain ⟨nc, rfl⟩ := Int.eq_ofNat_of_zero_le l2
  obtain ⟨nd, rfl⟩ := Int.eq_ofNat_of_zero_le l3
  have hla := pop_le na; have hlb := pop_le nb; have hlc := pop_le nc; have hld := pop_le nd
  have HLEN := Lib.hid (show S4.len ⟨na, nb, nc, nd⟩ = pop na + pop nb + pop nc + pop nd by simp [S4.len])
  have i0 : ∀ w, (Instr.index 25 (.agg #[.int .u64 na, .int .u64 nb, .int .u64 nc, .int .u64 nd]) (.int .i64 0)).run Tryd.prog w = .ok (.int .u64 na) w := fun _ => by kernel_rfl
  have i1 : ∀ w, (Instr.index 25 (.agg #[.int .u64 na, .int .u64 nb, .int .u64 nc, .int .u64 nd]) (.int .i64 1)).run Tryd.prog w = .ok (.int .u64 nb) w := fun _ => by kernel_rfl
  have i2 : ∀ w, (Instr.index 25 (.agg #[.int .u64 na, .int .u64 nb, .int .u64 nc, .int .u64 nd]) (.int .i64 2)).run Tryd.prog w = .ok (.int .u64 nc) w := fun _ => by kernel_rfl
  have i3 : ∀ w, (Instr.index 25 (.agg #[.int .u64 na, .int .u64 nb, .int .u64 nc, .int .u64 nd]) (.int .i64 3)).run Tryd.prog w = .ok (.int .u64 nd) w := fun _ => by kernel_rfl
  rw [S4.cells_eq]
  clear l0 l1 l2 l3
  have m0 : na < 18446744073709551616 := by omega
  have m1 : nb < 18446744073709551616 := by omega
  have m2 : nc < 18446744073709551616 := by omega
  have m3 : nd < 18446744073709551616 := by omega
  clear u0 u1 u2 u3
  go_enter Tryd.func15, Tryd.ntmps15
  go_wp2_with fail
  go_loop [3, 7] (fun n i => ∃ k : Nat, i = .int .i64 k ∧ k ≤ 4 ∧ ((k = 0 ∧ n = .int .i64 0) ∨ (k = 1 ∧ n = .int .i64 (pop na : Nat)) ∨ (k = 2 ∧ n = .int .i64 ((pop na + pop nb : Nat) : Int)) ∨ (k = 3 ∧ n = .int .i64 ((pop na + pop nb + pop nc : Nat) : Int)) ∨ (k = 4 ∧ n = .int .i64 ((pop na + pop nb + pop nc + pop nd : Nat) : Int)))) (fun _ i => 4 - (intOf i).toNat)
  case atStart => exact ⟨0, rfl, by omega, .inl ⟨rfl, rfl⟩⟩
  case round =>
    obtain ⟨k, rfl, hk, hh⟩ := hrel
    rcases hh with ⟨rfl, rfl⟩ | ⟨rfl, rfl⟩ | ⟨rfl, rfl⟩ | ⟨rfl, rfl⟩ | ⟨rfl, rfl⟩
    · go_wp2_with fail
      refine (ones_any na _ m0).mono ?_
      rintro e w1 ⟨rfl, rfl⟩
      go_wp2
      go_round
      case rel => exact ⟨1, by go_num, by omega, .inr (.inl ⟨rfl, by go_num⟩)⟩
      case measure => simp [intOf]
    · go_wp2_with fail
      refine (ones_any nb _ m1).mono ?_
      rintro e w1 ⟨rfl, rfl⟩
      go_wp2
      go_round
      case rel => exact ⟨2, by go_num, by omega, .inr (.inr (.inl ⟨rfl, by go_num⟩))⟩
      case measure => simp [intOf]
    · go_wp2_with fail
      refine (ones_any nc _ m2).mono ?_
      rintro e w1 ⟨rfl, rfl⟩
      go_wp2
      go_round
      case rel => exact ⟨3, by go_num, by omega, .inr (.inr (.inr (.inl ⟨rfl, by go_num⟩)))⟩
      case measure => simp [intOf]
    · go_wp2_with fail
      refine (ones_any nd _ m3).mono ?_
      rintro e w1 ⟨rfl, rfl⟩
      go_wp2
      go_round
      case rel => exact ⟨4, by go_num, by omega, .inr (.inr (.inr (.inr ⟨rfl, by go_num⟩)))⟩
      case measure => simp [intOf]
    · go_wp2
      go_ret
      exact ⟨ret_int (by rw [HLEN.out]; push_cast; rfl), (Fr.refl _ _).alloc _⟩

end Go.Proofs.YtmoiiidfhkfdgaaDoor
