/-
  Merged texts of this claim: Least, OctetS.
-/
import Derived.Laws.Bits64b
import Derived.Lib.TrailingZeros
import Derived.Test.YtmoeboknelnaoaaGreatDoorM03

/-
  Walks: TrailingZeros64 (its table as start-up lays it), Least.
-/
namespace Go.Proofs.YtmoeboknelnaoaaGreatDoor
open Go.RowKit

/-- The table of math/bits lies in its variable. -/
def Tab (w : World) : Prop := ∀ j, j < 64 → w.cell? ⟨3, j, none⟩ = some (.int .u8 (Lib.deBruijn64tab.getD j 0 : Nat))
theorem Tab.on {w w' : World} (h : Tab w) (f : Fr nob w w') : Tab w' := fun j hj => f.cell (h j hj) (fun x => x)

theorem Tab.on2 {w w' : World} {S : Nat → Prop} (h : Tab w) (f : Fr S w w') (hn : ¬ S 3) : Tab w' := fun j hj => f.cell (h j hj) hn
theorem Tab.lt {w : World} (h : Tab w) : 3 < w.heap.size := World.block_lt_of_cell? w _ (h 0 (by decide))
theorem tz_key (x a : Nat) (hx : x < 18446744073709551616) (hx0 : x ≠ 0) (hlow : x &&& (18446744073709551616 - x) = a) :
    IntKind.u64.wrap (bits .and .u64 (x : Int) (IntKind.u64.wrap (-(x : Int))) * 285870213051353865) / 288230376151711744 = ((a * 285870213051353865 % 18446744073709551616 / 288230376151711744 : Nat) : Int) := by
  have e1 : IntKind.u64.wrap (-(x : Int)) = ((18446744073709551616 - x : Nat) : Int) := by rw [IntKind.wrap_u64]; omega
  rw [e1, bits_and_u64_nat x _ hx (by omega), hlow, IntKind.wrap_u64]
  omega

set_option maxRecDepth 100000 in
set_option maxHeartbeats 1000000 in
theorem tz_any (x : Nat) (hx : x < 18446744073709551616) (hx0 : x ≠ 0) (w : World) (hT : Tab w) :
    Calls Tryz.prog 181 #[.int .u64 x] w fun e w' => e = .returned (.int .i64 (Lib.ctz 64 x)) ∧ w = w' := by
  obtain ⟨hlow, hk⟩ := Lib.lowest_bit 64 x hx0 hx
  obtain ⟨hi, htab⟩ := Lib.deBruijn64_at _ hk
  have key := tz_key x _ hx hx0 hlow
  have hcell := hT _ hi
  rw [htab] at hcell
  obtain ⟨k, hkk⟩ : ∃ k, Lib.ctz 64 x = k := ⟨_, rfl⟩
  rw [hkk] at hcell hk key hi ⊢
  obtain ⟨idx, hidx⟩ : ∃ i, 2 ^ k * 285870213051353865 % 18446744073709551616 / 288230376151711744 = i := ⟨_, rfl⟩
  rw [hidx] at hcell key hi
  have h0 : ((x : Int) == 0) = false := by simp; omega
  have KEY := Lib.hid key
  clear hlow htab hkk hidx hx hx0 hT key
  go_enter Tryz.func181, Tryz.ntmps181
  go_wp2_with (simp only [KEY.out])
  go_ret
  exact ⟨rfl, rfl⟩

theorem ctz_lt {x : Nat} (hx0 : x ≠ 0) (hx : x < 18446744073709551616) : Lib.ctz 64 x < 64 := (Lib.lowest_bit 64 x hx0 hx).2
theorem ctz_bits {x : Nat} (hx0 : x ≠ 0) (hx : x < 18446744073709551616) : x.testBit (Lib.ctz 64 x) = true ∧ ∀ i, i < Lib.ctz 64 x → x.testBit i = false := by
  unfold Lib.ctz
  rw [if_neg hx0]
  obtain ⟨m, hm, _⟩ := Lib.ctzFrom_spec 64 x (by omega) hx
  generalize Lib.ctzFrom 64 x = k at *
  subst hm
  constructor
  · rw [Nat.testBit_eq_decide_div_mod_eq, Nat.mul_div_cancel_left _ (Nat.two_pow_pos k)]; simp
  · intro i hi
    rw [Nat.testBit_eq_decide_div_mod_eq]
    obtain ⟨d, rfl⟩ : ∃ d, k = i + (d + 1) := ⟨k - i - 1, by omega⟩
    rw [Nat.pow_add, Nat.mul_assoc, Nat.mul_div_cancel_left _ (Nat.two_pow_pos i), Nat.pow_succ]
    simp
    rw [Nat.mul_assoc, Nat.mul_comm, Nat.mul_assoc]
    omega

/-- The least byte that a set has; whether it has one. -/
def LeastIs (s : S4) (d : Nat) (b : Bool) : Prop := (b = false ∧ d = 0 ∧ s = S4.zero) ∨ (b = true ∧ d < 256 ∧ s.has d = true ∧ ∀ e, e < d → s.has e = false)

theorem LeastIs.uniq {s : S4} {d d' : Nat} {b b' : Bool} (h : LeastIs s d b) (h' : LeastIs s d' b') : d = d' ∧ b = b' := by
  rcases h with ⟨rfl, rfl, rfl⟩ | ⟨rfl, h1, h2, h3⟩ <;> rcases h' with ⟨rfl, rfl, h'⟩ | ⟨rfl, h1', h2', h3'⟩
  · exact ⟨rfl, rfl⟩
  · rw [has_zero] at h2'; cases h2'
  · subst h'; rw [has_zero] at h2; cases h2
  · refine ⟨?_, rfl⟩
    rcases Nat.lt_trichotomy d d' with h | h | h
    · rw [h3' d h] at h2; cases h2
    · exact h
    · rw [h3 d' h] at h2'; cases h2'

theorem word_bit {x : Int} (h : Fit x) (i : Nat) : (wd x).getLsbD i = x.toNat.testBit i := by
  have := wd_val h
  have e : (wd x).toNat = x.toNat := by omega
  rw [BitVec.getLsbD, e]
theorem S4.has_word {s : S4} (hs : s.fit) (q i : Nat) (hq : q < 4) (hi : i < 64) : s.has (64 * q + i) = (s.word (64 * q)).toNat.testBit i := by
  unfold S4.has
  have hw : s.word (64 * q + i) = s.word (64 * q) := by unfold S4.word; rw [show (64 * q + i) / 64 = 64 * q / 64 by omega]
  have hf : Fit (s.word (64 * q)) := by unfold S4.word; split; exact hs.1; exact hs.2.1; exact hs.2.2.1; exact hs.2.2.2
  rw [hw, word_bit hf, show (64 * q + i) % 64 = i by omega]
/-- The first q words are nought. -/
def S4.noughts (s : S4) (q : Nat) : Prop := ∀ r, r < q → s.word (64 * r) = 0
theorem least_hit {s : S4} (hs : s.fit) {q : Nat} (hq : q < 4) (h0 : s.noughts q) (x : Nat) (hx : s.word (64 * q) = (x : Int)) (hx0 : x ≠ 0) : LeastIs s (64 * q + Lib.ctz 64 x) true := by
  have hf : Fit (s.word (64 * q)) := by unfold S4.word; split; exact hs.1; exact hs.2.1; exact hs.2.2.1; exact hs.2.2.2
  have hlt : x < 18446744073709551616 := by have := hf.2; omega
  have hc := ctz_lt hx0 hlt
  obtain ⟨b1, b2⟩ := ctz_bits hx0 hlt
  refine .inr ⟨rfl, by omega, ?_, ?_⟩
  · rw [S4.has_word hs q _ hq hc, hx]; exact b1
  · intro e he
    have hd : e = 64 * (e / 64) + e % 64 := by omega
    have hm : e % 64 < 64 := Nat.mod_lt _ (by decide)
    rw [hd, S4.has_word hs _ _ (by omega) hm]
    rcases Nat.lt_or_ge (e / 64) q with h | h
    · rw [h0 _ h]; simp
    · have : e / 64 = q := by omega
      rw [this, hx]; exact b2 _ (by omega)
theorem least_none {s : S4} (h0 : s.noughts 4) : LeastIs s 0 false := by
  refine .inl ⟨rfl, rfl, ?_⟩
  obtain ⟨a, b, c, d⟩ := s
  have e0 := h0 0 (by decide); have e1 := h0 1 (by decide); have e2 := h0 2 (by decide); have e3 := h0 3 (by decide)
  simp [S4.word] at e0 e1 e2 e3
  subst e0; subst e1; subst e2; subst e3; rfl

theorem idxSet0 (a b c d : Value) (w : World) : (Instr.index 91 (.agg #[a, b, c, d]) (.int .i64 0)).run Tryz.prog w = .ok a w := by kernel_rfl
theorem idxSet1 (a b c d : Value) (w : World) : (Instr.index 91 (.agg #[a, b, c, d]) (.int .i64 1)).run Tryz.prog w = .ok b w := by kernel_rfl
theorem idxSet2 (a b c d : Value) (w : World) : (Instr.index 91 (.agg #[a, b, c, d]) (.int .i64 2)).run Tryz.prog w = .ok c w := by kernel_rfl
theorem idxSet3 (a b c d : Value) (w : World) : (Instr.index 91 (.agg #[a, b, c, d]) (.int .i64 3)).run Tryz.prog w = .ok d w := by kernel_rfl

def LeastV (s : S4) (w : World) (e : Ending) (w' : World) : Prop := ∃ (d : Nat) (b : Bool), e = .returned (.tuple #[.int .u8 d, .bool b]) ∧ LeastIs s d b ∧ Fr nob w w'

set_option maxRecDepth 100000 in
set_option maxHeartbeats 1000000 in
theorem least_any (s : S4) (w : World) (hs : s.fit) (hT : Tab w) :
    Calls Tryz.prog 177 #[.agg #[.int .u64 s.a, .int .u64 s.b, .int .u64 s.c, .int .u64 s.d]] w (LeastV s w) := by
  obtain ⟨s0, s1, s2, s3⟩ := s
  obtain ⟨x0, rfl⟩ : ∃ x : Nat, s0 = (x : Int) := ⟨s0.toNat, by have := hs.1.1; simp only at this; omega⟩
  obtain ⟨x1, rfl⟩ : ∃ x : Nat, s1 = (x : Int) := ⟨s1.toNat, by have := hs.2.1.1; simp only at this; omega⟩
  obtain ⟨x2, rfl⟩ : ∃ x : Nat, s2 = (x : Int) := ⟨s2.toNat, by have := hs.2.2.1.1; simp only at this; omega⟩
  obtain ⟨x3, rfl⟩ : ∃ x : Nat, s3 = (x : Int) := ⟨s3.toNat, by have := hs.2.2.2.1; simp only at this; omega⟩
  have b0 : x0 < 18446744073709551616 := by have := hs.1.2; simp only at this; omega
  have b1 : x1 < 18446744073709551616 := by have := hs.2.1.2; simp only at this; omega
  have b2 : x2 < 18446744073709551616 := by have := hs.2.2.1.2; simp only at this; omega
  have b3 : x3 < 18446744073709551616 := by have := hs.2.2.2.2; simp only at this; omega
  have B0 := Lib.hid b0; have B1 := Lib.hid b1; have B2 := Lib.hid b2; have B3 := Lib.hid b3
  clear b0 b1 b2 b3
  have HS := Lib.hid hs
  have i0 := idxSet0; have i1 := idxSet1; have i2 := idxSet2; have i3 := idxSet3
  have HT := Lib.hid (hT.on ((Fr.refl nob w).alloc (.cells #[.int .u64 x0, .int .u64 x1, .int .u64 x2, .int .u64 x3] 91)))
  clear hT hs
  go_enter Tryz.func177, Tryz.ntmps177
  go_wp2_with fail
  go_loop [7] (fun i => ∃ k : Nat, i = .int .i64 k ∧ k ≤ 4 ∧ (S4.mk (x0 : Int) x1 x2 x3).noughts k) (fun i => 4 - (intOf i).toNat)
  case atStart => exact ⟨0, rfl, by omega, fun r hr => by omega⟩
  case round =>
    obtain ⟨k, rfl, hk, h0⟩ := hrel
    have H0 := Lib.hid h0; clear h0
    have hkk : k = 0 ∨ k = 1 ∨ k = 2 ∨ k = 3 ∨ k = 4 := by omega
    rcases hkk with rfl | rfl | rfl | rfl | rfl
    · by_cases hx0 : x0 = 0
      · have HN := Lib.hid (show (S4.mk (x0 : Int) x1 x2 x3).noughts 1 from fun r hr => by
          rcases Nat.lt_or_ge r 0 with h | h
          · exact H0.out r h
          · obtain rfl : r = 0 := by omega
            show (x0 : Int) = 0
            omega)
        have t0 : ((x0 : Int) != 0) = false := by simp; omega
        clear hx0
        go_wp2
        go_round
        case rel => exact ⟨1, by go_num, by omega, HN.out⟩
        case measure => simp [intOf]
      · have t0 : ((x0 : Int) != 0) = true := by simp; omega
        have HL := Lib.hid (least_hit HS.out (q := 0) (by decide) H0.out x0 rfl hx0)
        have hc := ctz_lt hx0 B0.out
        have hT := HT.out
        go_wp2_with fail
        refine (tz_any x0 B0.out hx0 _ hT).mono ?_
        rintro e w' ⟨rfl, rfl⟩
        go_wp2
        go_ret2
        exact ⟨_, true, by simp, HL.out, (Fr.refl _ _).alloc _⟩
    · by_cases hx0 : x1 = 0
      · have HN := Lib.hid (show (S4.mk (x0 : Int) x1 x2 x3).noughts 2 from fun r hr => by
          rcases Nat.lt_or_ge r 1 with h | h
          · exact H0.out r h
          · obtain rfl : r = 1 := by omega
            show (x1 : Int) = 0
            omega)
        have t0 : ((x1 : Int) != 0) = false := by simp; omega
        clear hx0
        go_wp2
        go_round
        case rel => exact ⟨2, by go_num, by omega, HN.out⟩
        case measure => simp [intOf]
      · have t0 : ((x1 : Int) != 0) = true := by simp; omega
        have HL := Lib.hid (least_hit HS.out (q := 1) (by decide) H0.out x1 rfl hx0)
        have hc := ctz_lt hx0 B1.out
        have hT := HT.out
        go_wp2_with fail
        refine (tz_any x1 B1.out hx0 _ hT).mono ?_
        rintro e w' ⟨rfl, rfl⟩
        go_wp2
        go_ret2
        exact ⟨_, true, by simp, HL.out, (Fr.refl _ _).alloc _⟩
    · by_cases hx0 : x2 = 0
      · have HN := Lib.hid (show (S4.mk (x0 : Int) x1 x2 x3).noughts 3 from fun r hr => by
          rcases Nat.lt_or_ge r 2 with h | h
          · exact H0.out r h
          · obtain rfl : r = 2 := by omega
            show (x2 : Int) = 0
            omega)
        have t0 : ((x2 : Int) != 0) = false := by simp; omega
        clear hx0
        go_wp2
        go_round
        case rel => exact ⟨3, by go_num, by omega, HN.out⟩
        case measure => simp [intOf]
      · have t0 : ((x2 : Int) != 0) = true := by simp; omega
        have HL := Lib.hid (least_hit HS.out (q := 2) (by decide) H0.out x2 rfl hx0)
        have hc := ctz_lt hx0 B2.out
        have hT := HT.out
        go_wp2_with fail
        refine (tz_any x2 B2.out hx0 _ hT).mono ?_
        rintro e w' ⟨rfl, rfl⟩
        go_wp2
        go_ret2
        exact ⟨_, true, by simp, HL.out, (Fr.refl _ _).alloc _⟩
    · by_cases hx0 : x3 = 0
      · have HN := Lib.hid (show (S4.mk (x0 : Int) x1 x2 x3).noughts 4 from fun r hr => by
          rcases Nat.lt_or_ge r 3 with h | h
          · exact H0.out r h
          · obtain rfl : r = 3 := by omega
            show (x3 : Int) = 0
            omega)
        have t0 : ((x3 : Int) != 0) = false := by simp; omega
        clear hx0
        go_wp2
        go_round
        case rel => exact ⟨4, by go_num, by omega, HN.out⟩
        case measure => simp [intOf]
      · have t0 : ((x3 : Int) != 0) = true := by simp; omega
        have HL := Lib.hid (least_hit HS.out (q := 3) (by decide) H0.out x3 rfl hx0)
        have hc := ctz_lt hx0 B3.out
        have hT := HT.out
        go_wp2_with fail
        refine (tz_any x3 B3.out hx0 _ hT).mono ?_
        rintro e w' ⟨rfl, rfl⟩
        go_wp2
        go_ret2
        exact ⟨_, true, by simp, HL.out, (Fr.refl _ _).alloc _⟩
    · go_wp2
      go_ret2
      exact ⟨0, false, rfl, least_none H0.out, (Fr.refl _ _).alloc _⟩

end Go.Proofs.YtmoeboknelnaoaaGreatDoor

/-
  Walks: octet.Span.
-/
namespace Go.Proofs.YtmoeboknelnaoaaGreatDoor
open Go.RowKit

set_option maxRecDepth 100000 in
set_option maxHeartbeats 1000000 in
theorem span_any (a b : Nat) (w : World) (ha : a < 256) (hb : b < 256) :
    Calls Tryz.prog 145 #[.int .u8 a, .int .u8 b] w fun e w' => e = .returned (.agg (spn a b).cells.toArray) ∧ Fr nob w w' := by
  go_enter Tryz.func145, Tryz.ntmps145
  go_wp2_with fail
  obtain ⟨w0, hw0⟩ : ∃ w0, w0 = ((w.alloc (.cells S4.zero.cells.toArray 91)).alloc (.cells S4.zero.cells.toArray 91)) := ⟨_, rfl⟩
  have f0 : Fr nob w w0 := by rw [hw0]; exact ((Fr.refl _ _).alloc _).alloc _
  have hr0 : w0.heap[w.heap.size]? = some (.cells S4.zero.cells.toArray 91 (0, 0)) := by rw [hw0]; exact heap_alloc_lt _ (heap_alloc_new _ _)
  have hb0 : w0.heap[w.heap.size + 1]? = some (.cells S4.zero.cells.toArray 91 (0, 0)) := by
    rw [hw0]; have := heap_alloc_new (w.alloc (.cells S4.zero.cells.toArray 91)) (.cells S4.zero.cells.toArray 91); simpa using this
  change Code.wp _ _ _ _ ((w.alloc (.cells S4.zero.cells.toArray 91)).alloc (.cells S4.zero.cells.toArray 91))
  rw [← hw0]
  have F0 := Lib.hid f0; have HR0 := Lib.hid hr0; have HB0 := Lib.hid hb0; clear f0 hr0 hb0 hw0
  go_loopw [6] (fun i wr => ∃ k : Nat, i = .int .i64 (a + k : Nat) ∧ (k = 0 ∨ a + k ≤ b + 1) ∧ wr.heap[w.heap.size + 1]? = some (.cells (spanTo a k).cells.toArray 91 (0, 0)) ∧ Fr (fun k => k = w.heap.size + 1) w0 wr) (fun i _ => 256 - (intOf i).toNat)
  case atStart => exact ⟨0, rfl, .inl rfl, HB0.out, Fr.refl _ _⟩
  case round =>
    obtain ⟨k, rfl, hk, hb', fr⟩ := hrel
    have HB := Lib.hid hb'; have FR := Lib.hid fr; clear hb' fr
    have FW := Lib.hid (F0.out.trans FR.out (fun i hi x => by omega))
    obtain ⟨n, hn⟩ : ∃ n, a + k = n := ⟨_, rfl⟩
    rw [hn]
    have HN := Lib.hid hn
    by_cases hlt : n ≤ b
    · have wn : IntKind.u8.wrap (n : Int) = (n : Int) := IntWalk.u8_in _ (by omega)
      clear hn hk
      go_wp2_with fail
      refine (add_any (w.heap.size + 1) _ n _ (by omega) HB.out).mono ?_
      rintro e w3 ⟨rfl, h3, f3⟩
      have H3 := Lib.hid h3; have F3 := Lib.hid f3; clear h3 f3
      go_wp2
      go_roundw
      case rel => exact ⟨k + 1, by have := HN.out; congr 1; omega, .inr (by have := HN.out; omega), by have := H3.out; rw [← HN.out] at this; exact this, FR.out.trans' F3.out⟩
      case measure => simp [intOf]; omega
    · have hsp := Lib.hid (show spanTo a k = spn a b by unfold spn; congr 1; omega)
      clear hn hk
      have hb := HB.out
      rw [hsp.out] at hb
      obtain ⟨c0, c1, c2, c3, _⟩ := cellS hb
      have hr := FR.out.heap HR0.out (fun e => by omega)
      obtain ⟨_, _, _, _, f0, f1, f2, f3⟩ := cellS hr
      have hlr := lt_heap hr; have hlb := lt_heap hb
      have HBB := Lib.hid hb; have HRR := Lib.hid hr; clear hb hr
      go_wp2
      (try simp only [Exit.inBlock, Exit.then])
      exact bodyPost_ret (results_set (s := spn a b) rfl rfl (setFour_heap HRR.out _ _ _ _)) rfl ⟨rfl, setFour_fr FW.out (Nat.le_refl _) _ _ _ _⟩

end Go.Proofs.YtmoeboknelnaoaaGreatDoor
