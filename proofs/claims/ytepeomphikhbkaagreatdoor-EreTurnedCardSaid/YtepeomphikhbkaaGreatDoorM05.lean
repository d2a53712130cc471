/-
  Merged texts of this claim: OctetC, OctetD, Count, OctetE, OctetF, OctetG, OctetH, OctetI.
-/
import Derived.Test.YtepeomphikhbkaaGreatDoorM03
import Derived.Test.YtepeomphikhbkaaGreatDoorM04

/-
  Walks of package octet, and of the document's: Has, Not; And, Or, With of the document.
-/
namespace Go.Proofs.YtepeomphikhbkaaGreatDoor
open Go.RowKit

/-- Do all four words fit? -/
def S4.fit (s : S4) : Prop := Fit s.a ∧ Fit s.b ∧ Fit s.c ∧ Fit s.d
/-- The word that tells of a byte. -/
def S4.word (s : S4) (d : Nat) : Int := match d / 64 with
  | 0 => s.a
  | 1 => s.b
  | 2 => s.c
  | _ => s.d
/-- Is a byte in a set? -/
def S4.has (s : S4) (d : Nat) : Bool := (wd (s.word d)).getLsbD (d % 64)
def S4.not (s : S4) : S4 := ⟨bits .xor .u64 IntKind.u64.max s.a, bits .xor .u64 IntKind.u64.max s.b, bits .xor .u64 IntKind.u64.max s.c, bits .xor .u64 IntKind.u64.max s.d⟩

set_option maxRecDepth 100000 in
set_option maxHeartbeats 1000000 in
theorem has_any (s : S4) (d : Nat) (w : World) (hs : s.fit) (hd : d < 256) :
    Calls Tryz.prog 101 #[.agg s.cells.toArray, .int .u8 d] w fun e w' => e = .returned (.bool (s.has d)) ∧ Fr nob w w' := by
  rw [S4.cells_eq s]
  have hdiv : Int.tdiv (d : Int) 64 = ((d / 64 : Nat) : Int) := (Int.ofNat_tdiv d 64).symm
  have hmod : Int.tmod (d : Int) 64 = ((d % 64 : Nat) : Int) := (Int.ofNat_tmod d 64).symm
  have hq : d / 64 = 0 ∨ d / 64 = 1 ∨ d / 64 = 2 ∨ d / 64 = 3 := by omega
  have hr : d % 64 < 64 := by omega
  have w0 : IntKind.u8.wrap 0 = 0 := by decide
  have w1 : IntKind.u8.wrap 1 = 1 := by decide
  have w2 : IntKind.u8.wrap 2 = 2 := by decide
  have w3 : IntKind.u8.wrap 3 = 3 := by decide
  have wm : IntKind.u8.wrap ((d % 64 : Nat) : Int) = ((d % 64 : Nat) : Int) := IntWalk.u8_in _ (by omega)
  have wm' : IntKind.u8.wrap ((d : Int) % 64) = ((d % 64 : Nat) : Int) := by rw [show (d : Int) % 64 = ((d % 64 : Nat) : Int) by omega]; exact wm
  have HS := Lib.hid hs; clear hs
  obtain ⟨p0, p1, p2, p3⟩ := HS.out
  have n0 : 0 ≤ s.a := p0.1
  have n1 : 0 ≤ s.b := p1.1
  have n2 : 0 ≤ s.c := p2.1
  have n3 : 0 ≤ s.d := p3.1
  clear p0 p1 p2 p3
  rcases hq with hq | hq | hq | hq
  · have HH := Lib.hid (show s.has d = (wd s.a).getLsbD (d % 64) by unfold S4.has S4.word; rw [hq]; rfl)
    have HB := Lib.hid (bit_and HS.out.1 hr)
    rw [hq] at hdiv
    clear hq
    go_enter Tryz.func101, Tryz.ntmps101
    go_wp2
    go_ret
    exact ⟨ret_bool (by rw [HH.out]; exact HB.out), (Fr.refl _ _).alloc _⟩
  · have HH := Lib.hid (show s.has d = (wd s.b).getLsbD (d % 64) by unfold S4.has S4.word; rw [hq]; rfl)
    have HB := Lib.hid (bit_and HS.out.2.1 hr)
    rw [hq] at hdiv
    clear hq
    go_enter Tryz.func101, Tryz.ntmps101
    go_wp2
    go_ret
    exact ⟨ret_bool (by rw [HH.out]; exact HB.out), (Fr.refl _ _).alloc _⟩
  · have HH := Lib.hid (show s.has d = (wd s.c).getLsbD (d % 64) by unfold S4.has S4.word; rw [hq]; rfl)
    have HB := Lib.hid (bit_and HS.out.2.2.1 hr)
    rw [hq] at hdiv
    clear hq
    go_enter Tryz.func101, Tryz.ntmps101
    go_wp2
    go_ret
    exact ⟨ret_bool (by rw [HH.out]; exact HB.out), (Fr.refl _ _).alloc _⟩
  · have HH := Lib.hid (show s.has d = (wd s.d).getLsbD (d % 64) by unfold S4.has S4.word; rw [hq]; rfl)
    have HB := Lib.hid (bit_and HS.out.2.2.2 hr)
    rw [hq] at hdiv
    clear hq
    go_enter Tryz.func101, Tryz.ntmps101
    go_wp2
    go_ret
    exact ⟨ret_bool (by rw [HH.out]; exact HB.out), (Fr.refl _ _).alloc _⟩

set_option maxRecDepth 100000 in
set_option maxHeartbeats 1000000 in
theorem hasR_any (s : S4) (d : Nat) (w : World) (hs : s.fit) (hd : d < 256) :
    Calls Tryz.prog 111 #[.agg s.cells.toArray, .int .u8 d] w fun e w' => e = .returned (.bool (s.has d)) ∧ Fr nob w w' := by
  rw [S4.cells_eq s]
  have hdiv : Int.tdiv (d : Int) 64 = ((d / 64 : Nat) : Int) := (Int.ofNat_tdiv d 64).symm
  have hmod : Int.tmod (d : Int) 64 = ((d % 64 : Nat) : Int) := (Int.ofNat_tmod d 64).symm
  have hq : d / 64 = 0 ∨ d / 64 = 1 ∨ d / 64 = 2 ∨ d / 64 = 3 := by omega
  have hr : d % 64 < 64 := by omega
  have w0 : IntKind.u8.wrap 0 = 0 := by decide
  have w1 : IntKind.u8.wrap 1 = 1 := by decide
  have w2 : IntKind.u8.wrap 2 = 2 := by decide
  have w3 : IntKind.u8.wrap 3 = 3 := by decide
  have wm : IntKind.u8.wrap ((d % 64 : Nat) : Int) = ((d % 64 : Nat) : Int) := IntWalk.u8_in _ (by omega)
  have wm' : IntKind.u8.wrap ((d : Int) % 64) = ((d % 64 : Nat) : Int) := by rw [show (d : Int) % 64 = ((d % 64 : Nat) : Int) by omega]; exact wm
  have HS := Lib.hid hs; clear hs
  obtain ⟨p0, p1, p2, p3⟩ := HS.out
  have n0 : 0 ≤ s.a := p0.1
  have n1 : 0 ≤ s.b := p1.1
  have n2 : 0 ≤ s.c := p2.1
  have n3 : 0 ≤ s.d := p3.1
  clear p0 p1 p2 p3
  rcases hq with hq | hq | hq | hq
  · have HH := Lib.hid (show s.has d = (wd s.a).getLsbD (d % 64) by unfold S4.has S4.word; rw [hq]; rfl)
    have HB := Lib.hid (bit_tmod HS.out.1 hr)
    rw [hq] at hdiv
    clear hq
    go_enter Tryz.func111, Tryz.ntmps111
    go_wp2
    go_ret
    exact ⟨ret_bool (by rw [HH.out]; exact HB.out), (Fr.refl _ _).alloc _⟩
  · have HH := Lib.hid (show s.has d = (wd s.b).getLsbD (d % 64) by unfold S4.has S4.word; rw [hq]; rfl)
    have HB := Lib.hid (bit_tmod HS.out.2.1 hr)
    rw [hq] at hdiv
    clear hq
    go_enter Tryz.func111, Tryz.ntmps111
    go_wp2
    go_ret
    exact ⟨ret_bool (by rw [HH.out]; exact HB.out), (Fr.refl _ _).alloc _⟩
  · have HH := Lib.hid (show s.has d = (wd s.c).getLsbD (d % 64) by unfold S4.has S4.word; rw [hq]; rfl)
    have HB := Lib.hid (bit_tmod HS.out.2.2.1 hr)
    rw [hq] at hdiv
    clear hq
    go_enter Tryz.func111, Tryz.ntmps111
    go_wp2
    go_ret
    exact ⟨ret_bool (by rw [HH.out]; exact HB.out), (Fr.refl _ _).alloc _⟩
  · have HH := Lib.hid (show s.has d = (wd s.d).getLsbD (d % 64) by unfold S4.has S4.word; rw [hq]; rfl)
    have HB := Lib.hid (bit_tmod HS.out.2.2.2 hr)
    rw [hq] at hdiv
    clear hq
    go_enter Tryz.func111, Tryz.ntmps111
    go_wp2
    go_ret
    exact ⟨ret_bool (by rw [HH.out]; exact HB.out), (Fr.refl _ _).alloc _⟩

/-- Two variables: a set, and a result. -/
abbrev bx2 (w : World) (s : S4) (T : TypeId) : World := (w.alloc (.cells s.cells.toArray T)).alloc (.cells S4.zero.cells.toArray T)
theorem bx2_fr (w : World) (s : S4) (T : TypeId) : Fr nob w (bx2 w s T) := ((Fr.refl _ _).alloc _).alloc _
theorem bx2_a (w : World) (s : S4) (T : TypeId) : (bx2 w s T).heap[w.heap.size]? = some (.cells s.cells.toArray T (0, 0)) := heap_alloc_lt _ (heap_alloc_new _ _)
theorem bx2_b (w : World) (s : S4) (T : TypeId) : (bx2 w s T).heap[w.heap.size + 1]? = some (.cells S4.zero.cells.toArray T (0, 0)) := by
  have := heap_alloc_new (w.alloc (.cells s.cells.toArray T)) (.cells S4.zero.cells.toArray T); simpa using this
theorem bx2_size (w : World) (s : S4) (T : TypeId) : (bx2 w s T).heap.size = w.heap.size + 2 := by simp
def S4.mix1 (f : Int → Int) (k : Nat) (s : S4) : S4 :=
  ⟨if 0 < k then f s.a else s.a, if 1 < k then f s.b else s.b, if 2 < k then f s.c else s.c, if 3 < k then f s.d else s.d⟩

set_option maxRecDepth 100000 in
set_option maxHeartbeats 1000000 in
theorem not_any (s : S4) (w : World) :
    Calls Tryz.prog 90 #[.agg s.cells.toArray] w fun e w' => e = .returned (.agg s.not.cells.toArray) ∧ Fr nob w w' := by
  have HA := Lib.hid (bx2_a w s 85); have HC := Lib.hid (bx2_b w s 85)
  have F0 := Lib.hid (bx2_fr w s 85)
  have hsz := Lib.hid (bx2_size w s 85)
  rw [S4.cells_eq s]
  go_enter Tryz.func90, Tryz.ntmps90
  go_wp2_with fail
  obtain ⟨w0, hw0⟩ : ∃ w0, w0 = bx2 w s 85 := ⟨_, rfl⟩
  change Code.wp _ _ _ _ (bx2 w s 85)
  rw [← hw0] at HA HC F0 hsz ⊢
  clear hw0
  go_loopw [4] (fun i wr => ∃ k : Nat, i = .int .i64 k ∧ k ≤ 4 ∧ wr.heap[w.heap.size]? = some (.cells (S4.mix1 (bits .xor .u64 IntKind.u64.max) k s).cells.toArray 85 (0, 0)) ∧ Fr (fun j => j = w.heap.size) w0 wr) (fun i _ => 4 - (intOf i).toNat)
  case atStart => exact ⟨0, rfl, by omega, HA.out, Fr.refl _ _⟩
  case round =>
    obtain ⟨k, rfl, hk, hh, fr⟩ := hrel
    have hhc := fr.heap HC.out (by omega)
    obtain ⟨c0, c1, c2, c3, z0, z1, z2, z3⟩ := cellS hh
    have HH := Lib.hid hh; have FR := Lib.hid fr; have HHC := Lib.hid hhc
    clear hh fr hhc
    have hkk : k = 0 ∨ k = 1 ∨ k = 2 ∨ k = 3 ∨ k = 4 := by omega
    rcases hkk with rfl | rfl | rfl | rfl | rfl
    · simp only [S4.mix1, Nat.lt_irrefl, Nat.zero_lt_one, if_true, if_false, Nat.not_lt_zero, Nat.reduceLT] at c0 c1 c2 c3
      go_wp2
      go_roundw
      case rel => exact ⟨1, by go_num, by omega, heap_setCell_at HH.out 0 (.int .u64 (bits .xor .u64 IntKind.u64.max s.a)), (FR.out.setCell (p := ⟨w.heap.size, 0, none⟩) (fun _ => rfl) _)⟩
      case measure => simp [intOf]
    · simp only [S4.mix1, Nat.lt_irrefl, Nat.zero_lt_one, if_true, if_false, Nat.not_lt_zero, Nat.reduceLT] at c0 c1 c2 c3
      go_wp2
      go_roundw
      case rel => exact ⟨2, by go_num, by omega, heap_setCell_at HH.out 1 (.int .u64 (bits .xor .u64 IntKind.u64.max s.b)), (FR.out.setCell (p := ⟨w.heap.size, 1, none⟩) (fun _ => rfl) _)⟩
      case measure => simp [intOf]
    · simp only [S4.mix1, Nat.lt_irrefl, Nat.zero_lt_one, if_true, if_false, Nat.not_lt_zero, Nat.reduceLT] at c0 c1 c2 c3
      go_wp2
      go_roundw
      case rel => exact ⟨3, by go_num, by omega, heap_setCell_at HH.out 2 (.int .u64 (bits .xor .u64 IntKind.u64.max s.c)), (FR.out.setCell (p := ⟨w.heap.size, 2, none⟩) (fun _ => rfl) _)⟩
      case measure => simp [intOf]
    · simp only [S4.mix1, Nat.lt_irrefl, Nat.zero_lt_one, if_true, if_false, Nat.not_lt_zero, Nat.reduceLT] at c0 c1 c2 c3
      go_wp2
      go_roundw
      case rel => exact ⟨4, by go_num, by omega, heap_setCell_at HH.out 3 (.int .u64 (bits .xor .u64 IntKind.u64.max s.d)), (FR.out.setCell (p := ⟨w.heap.size, 3, none⟩) (fun _ => rfl) _)⟩
      case measure => simp [intOf]
    · obtain ⟨x0, x1, x2, x3, y0, y1, y2, y3⟩ := cellS HHC.out
      have FW := Lib.hid (F0.out.trans FR.out (fun i hi e => by omega))
      simp only [S4.mix1, Nat.lt_irrefl, Nat.zero_lt_one, if_true, if_false, Nat.not_lt_zero, Nat.reduceLT] at c0 c1 c2 c3
      go_wp2
      (try simp only [Exit.inBlock, Exit.then])
      exact bodyPost_ret (results_set (s := s.not) rfl rfl (setFour_heap HHC.out _ _ _ _)) rfl ⟨rfl, setFour_fr FW.out (by omega) _ _ _ _⟩

/-- A set of the document's that is handed back out of a variable. -/
theorem results_setR {fn : Func} {p : Tmp} (h : fn.results = #[.cell p 31]) {tmps : Array Value} {r : Nat} (ht : tmps.getD p undef = .pointer (some ⟨r, 0, none⟩)) {W : World} {s : S4}
    (hb : W.heap[r]? = some (.cells s.cells.toArray 31 (0, 0))) : (results fn tmps).run Tryz.prog W = .ok (.agg s.cells.toArray) W := by
  obtain ⟨c0, c1, c2, c3, _⟩ := cellS hb
  have ht' : tmps[p]?.getD undef = .pointer (some ⟨r, 0, none⟩) := by rw [← ht]; simp
  simp only [results, h]
  simp [ht', go_sem, c0, c1, c2, c3, S4.cells]

set_option maxRecDepth 100000 in
set_option maxHeartbeats 1000000 in
theorem notR_any (s : S4) (w : World) :
    Calls Tryz.prog 108 #[.agg s.cells.toArray] w fun e w' => e = .returned (.agg s.not.cells.toArray) ∧ Fr nob w w' := by
  rw [S4.cells_eq s]
  go_enter Tryz.func108, Tryz.ntmps108
  go_wp2
  (try simp only [Exit.inBlock, Exit.then])
  exact bodyPost_ret (results_setR (s := s.not) rfl rfl (heap_alloc_new' _ _ _ (by simp))) rfl ⟨rfl, ((Fr.refl _ _).alloc _).alloc _⟩

set_option maxRecDepth 100000 in
set_option maxHeartbeats 1000000 in
theorem andR_any (s t : S4) (w : World) :
    Calls Tryz.prog 124 #[.agg s.cells.toArray, .agg t.cells.toArray] w fun e w' => e = .returned (.agg (s.and t).cells.toArray) ∧ Fr nob w w' := by
  rw [S4.cells_eq s, S4.cells_eq t]
  go_enter Tryz.func124, Tryz.ntmps124
  go_wp2
  (try simp only [Exit.inBlock, Exit.then])
  exact bodyPost_ret (results_setR (s := s.and t) rfl rfl (heap_alloc_new' _ _ _ (by simp))) rfl ⟨rfl, (((Fr.refl _ _).alloc _).alloc _).alloc _⟩

set_option maxRecDepth 100000 in
set_option maxHeartbeats 1000000 in
theorem orR_any (s t : S4) (w : World) :
    Calls Tryz.prog 107 #[.agg s.cells.toArray, .agg t.cells.toArray] w fun e w' => e = .returned (.agg (s.or t).cells.toArray) ∧ Fr nob w w' := by
  rw [S4.cells_eq s, S4.cells_eq t]
  go_enter Tryz.func107, Tryz.ntmps107
  go_wp2
  (try simp only [Exit.inBlock, Exit.then])
  exact bodyPost_ret (results_setR (s := s.or t) rfl rfl (heap_alloc_new' _ _ _ (by simp))) rfl ⟨rfl, (((Fr.refl _ _).alloc _).alloc _).alloc _⟩

set_option maxRecDepth 100000 in
set_option maxHeartbeats 1000000 in
theorem withR_any (s : S4) (d : Nat) (w : World) (hd : d < 256) :
    Calls Tryz.prog 109 #[.agg s.cells.toArray, .int .u8 d] w fun e w' => e = .returned (.agg (s.put d).cells.toArray) ∧ Fr nob w w' := by
  rw [S4.cells_eq s]
  have hdiv : Int.tdiv (d : Int) 64 = ((d / 64 : Nat) : Int) := (Int.ofNat_tdiv d 64).symm
  have hmod : Int.tmod (d : Int) 64 = ((d % 64 : Nat) : Int) := (Int.ofNat_tmod d 64).symm
  have hq : d / 64 = 0 ∨ d / 64 = 1 ∨ d / 64 = 2 ∨ d / 64 = 3 := by omega
  have hr : d % 64 < 64 := by omega
  have w0 : IntKind.u8.wrap 0 = 0 := by decide
  have w1 : IntKind.u8.wrap 1 = 1 := by decide
  have w2 : IntKind.u8.wrap 2 = 2 := by decide
  have w3 : IntKind.u8.wrap 3 = 3 := by decide
  have wm : IntKind.u8.wrap ((d % 64 : Nat) : Int) = ((d % 64 : Nat) : Int) := IntWalk.u8_in _ (by omega)
  have wm' : IntKind.u8.wrap ((d : Int) % 64) = ((d % 64 : Nat) : Int) := by rw [show (d : Int) % 64 = ((d % 64 : Nat) : Int) by omega]; exact wm
  rcases hq with hq | hq | hq | hq
  all_goals
    have HQ := Lib.hid hq
    rw [hq] at hdiv
    clear hq
    go_enter Tryz.func109, Tryz.ntmps109
    go_wp2
    (try simp only [Exit.inBlock, Exit.then])
    refine bodyPost_ret (results_setR (s := s.put d) rfl rfl ?_) rfl ⟨rfl, ?_⟩
    · have hp : s.put d = s.put d := rfl
      unfold S4.put
      rw [HQ.out]
      exact heap_alloc_new' _ _ _ (by simp)
    · exact ((Fr.refl _ _).alloc _).alloc _

end Go.Proofs.YtepeomphikhbkaaGreatDoor

/-
  Walks: OnesCount64; Len of both sides.
-/
namespace Go.Proofs.YtepeomphikhbkaaGreatDoor
open Go.RowKit

theorem and_nat (a m : Nat) (ha : a < 18446744073709551616) (hm : m < 18446744073709551616) : bits .and .u64 (a : Int) (m : Int) = ((a &&& m : Nat) : Int) := by
  rw [bits_and]
  have h1 : wd (a : Int) = BitVec.ofNat 64 a := by unfold wd; simp
  have h2 : wd (m : Int) = BitVec.ofNat 64 m := by unfold wd; simp
  rw [h1, h2, BitVec.toNat_and, BitVec.toNat_ofNat, BitVec.toNat_ofNat, Nat.mod_eq_of_lt (by simpa using ha), Nat.mod_eq_of_lt (by simpa using hm)]
theorem wrap_small (a : Nat) (ha : a < 18446744073709551616) : IntKind.u64.wrap (a : Int) = (a : Int) := by
  have := wrap_nat (BitVec.ofNat 64 a)
  rw [BitVec.toNat_ofNat, Nat.mod_eq_of_lt (by simpa using ha)] at this
  exact this
theorem wrap_small' (a : Nat) (ha : a < 9223372036854775808) : IntKind.i64.wrap (a : Int) = (a : Int) := by
  simp only [IntKind.wrap, IntKind.bits, IntKind.signed]
  simp
  omega
theorem and_127 (a : Nat) (ha : a < 9223372036854775808) : bits .and .i64 (a : Int) 127 = ((a % 128 : Nat) : Int) := by
  have h1 : BitVec.ofInt 64 (a : Int) = BitVec.ofNat 64 a := by simp
  have h2 : BitVec.ofInt 64 127 = BitVec.ofNat 64 127 := by decide
  show IntKind.i64.wrap (((BitVec.ofInt 64 (a : Int)) &&& (BitVec.ofInt 64 127)).toNat : Int) = _
  rw [h1, h2, BitVec.toNat_and, BitVec.toNat_ofNat, BitVec.toNat_ofNat, Nat.mod_eq_of_lt (by simp; omega)]
  have h3 : a &&& 127 % 2 ^ 64 = a % 128 := by
    have := Nat.and_two_pow_sub_one_eq_mod a 7
    simpa using this
  rw [h3]
  exact wrap_small' _ (by omega)

/-- How many bytes a set has. -/
def S4.len (s : S4) : Nat := pop s.a.toNat + pop s.b.toNat + pop s.c.toNat + pop s.d.toNat
def S4.lenTo (k : Nat) (s : S4) : Nat := (if 0 < k then pop s.a.toNat else 0) + (if 1 < k then pop s.b.toNat else 0) + (if 2 < k then pop s.c.toNat else 0) + (if 3 < k then pop s.d.toNat else 0)
theorem pop8_le' (n : Nat) : pop8 n ≤ 8 := by unfold pop8; omega
theorem pop_le (n : Nat) : pop n ≤ 64 := by
  have h := fun k => pop8_le' (n / k % 256)
  have := pop8_le' (n % 256); have := h 256; have := h 65536; have := h 16777216; have := h 4294967296; have := h 1099511627776; have := h 281474976710656; have := h 72057594037927936
  unfold pop; omega
theorem S4.len_le (s : S4) : s.len ≤ 256 := by
  have := pop_le s.a.toNat; have := pop_le s.b.toNat; have := pop_le s.c.toNat; have := pop_le s.d.toNat
  unfold S4.len; omega

end Go.Proofs.YtepeomphikhbkaaGreatDoor

/-
  Counting a set's bytes one by one is what the bits' sum is. Plain: no walk.
-/
namespace Go.Proofs.YtepeomphikhbkaaGreatDoor

/-- How many below k are so. -/
def cntTo (f : Nat → Bool) : Nat → Nat
  | 0 => 0
  | k + 1 => cntTo f k + (if f k = true then 1 else 0)
theorem cntTo_le (f : Nat → Bool) (k : Nat) : cntTo f k ≤ k := by
  induction k with
  | zero => exact Nat.le_refl _
  | succ k ih => simp only [cntTo]; split <;> omega
theorem cntTo_add (f : Nat → Bool) (a b : Nat) : cntTo f (a + b) = cntTo f a + cntTo (fun i => f (a + i)) b := by
  induction b with
  | zero => rfl
  | succ b ih => rw [← Nat.add_assoc]; simp only [cntTo, ih]; omega
theorem cntTo_congr {f g : Nat → Bool} {k : Nat} (h : ∀ i, i < k → f i = g i) : cntTo f k = cntTo g k := by
  induction k with
  | zero => rfl
  | succ k ih => simp only [cntTo, ih (fun i hi => h i (by omega)), h k (by omega)]

theorem bit_if (m k : Nat) : (if decide (m / k % 2 = 1) = true then 1 else 0) = m / k % 2 := by
  by_cases h : m / k % 2 = 1
  · simp [h]
  · have : m / k % 2 = 0 := by omega
    simp [this]
theorem cnt8 (m : Nat) : cntTo (fun i => decide (m / 2 ^ i % 2 = 1)) 8 = pop8 (m % 256) := by
  simp only [cntTo, bit_if]
  unfold pop8
  simp only [Nat.reducePow]
  omega
theorem cnt64 (n : Nat) (_h : n < 18446744073709551616) : cntTo (fun i => decide (n / 2 ^ i % 2 = 1)) 64 = pop n := by
  have st : ∀ (m : Nat) (k : Nat), cntTo (fun i => decide (m / 2 ^ i % 2 = 1)) (8 + k) = pop8 (m % 256) + cntTo (fun i => decide (m / 256 / 2 ^ i % 2 = 1)) k := by
    intro m k
    rw [cntTo_add, cnt8]
    congr 1
    refine cntTo_congr fun i _ => ?_
    rw [Nat.div_div_eq_div_mul, show 2 ^ (8 + i) = 256 * 2 ^ i by rw [Nat.pow_add]]
  rw [show 64 = 8 + (8 + (8 + (8 + (8 + (8 + (8 + (8 + 0))))))) from rfl, st, st, st, st, st, st, st, st]
  simp only [cntTo, Nat.div_div_eq_div_mul]
  unfold pop
  simp only [Nat.reduceMul]
  omega

theorem wd_bit (n i : Nat) (hn : n < 18446744073709551616) (_hi : i < 64) : (wd (n : Int)).getLsbD i = decide (n / 2 ^ i % 2 = 1) := by
  have h1 : wd (n : Int) = BitVec.ofNat 64 n := by unfold wd; simp
  rw [h1, BitVec.getLsbD, BitVec.toNat_ofNat, Nat.mod_eq_of_lt (by simpa using hn), Nat.testBit_eq_decide_div_mod_eq]
theorem cnt_word {x : Int} (h : Fit x) : cntTo (fun i => (wd x).getLsbD i) 64 = pop x.toNat := by
  obtain ⟨n, rfl⟩ := Int.eq_ofNat_of_zero_le h.1
  have hn : n < 18446744073709551616 := by have := h.2; omega
  rw [cntTo_congr (fun i hi => wd_bit n i hn hi), cnt64 n hn]
  simp
/-- A set's bytes, counted. -/
theorem cnt_set {s : S4} (h : s.fit) : cntTo s.has 256 = s.len := by
  obtain ⟨h0, h1, h2, h3⟩ := h
  have e0 : cntTo (fun i => s.has i) 64 = pop s.a.toNat := by
    rw [← cnt_word h0]; refine cntTo_congr fun i hi => ?_
    unfold S4.has S4.word; rw [show i / 64 = 0 by omega, show i % 64 = i by omega]; rfl
  have e1 : cntTo (fun i => s.has (64 + i)) 64 = pop s.b.toNat := by
    rw [← cnt_word h1]; refine cntTo_congr fun i hi => ?_
    unfold S4.has S4.word; rw [show (64 + i) / 64 = 1 by omega, show (64 + i) % 64 = i by omega]; rfl
  have e2 : cntTo (fun i => s.has (64 + (64 + i))) 64 = pop s.c.toNat := by
    rw [← cnt_word h2]; refine cntTo_congr fun i hi => ?_
    unfold S4.has S4.word; rw [show (64 + (64 + i)) / 64 = 2 by omega, show (64 + (64 + i)) % 64 = i by omega]; rfl
  have e3 : cntTo (fun i => s.has (64 + (64 + (64 + i)))) 64 = pop s.d.toNat := by
    rw [← cnt_word h3]; refine cntTo_congr fun i hi => ?_
    unfold S4.has S4.word; rw [show (64 + (64 + (64 + i))) / 64 = 3 by omega, show (64 + (64 + (64 + i))) % 64 = i by omega]; rfl
  rw [show 256 = 64 + (64 + (64 + 64)) from rfl, cntTo_add, cntTo_add, cntTo_add]
  show cntTo (fun i => s.has i) 64 + _ = _
  rw [e0, e1, e2, e3]
  unfold S4.len; omega

end Go.Proofs.YtepeomphikhbkaaGreatDoor

/-
  Walks: Len of the document; Span of both sides.
-/
namespace Go.Proofs.YtepeomphikhbkaaGreatDoor
open Go.RowKit

theorem C4s {w : World} {b : Nat} {s : S4} {T : TypeId} (h : w.heap[b]? = some (.cells s.cells.toArray T (0, 0))) (w' : World) (f : Fr nob w w') :
    w'.cell? ⟨b, 0, none⟩ = some (.int .u64 s.a) ∧ w'.cell? ⟨b, 1, none⟩ = some (.int .u64 s.b) ∧ w'.cell? ⟨b, 2, none⟩ = some (.int .u64 s.c) ∧ w'.cell? ⟨b, 3, none⟩ = some (.int .u64 s.d) := by
  obtain ⟨c0, c1, c2, c3, _⟩ := cellS (f.heap h (fun x => x))
  exact ⟨c0, c1, c2, c3⟩

end Go.Proofs.YtepeomphikhbkaaGreatDoor

/-
  Walks: the predicates of the classes.
-/
namespace Go.Proofs.YtepeomphikhbkaaGreatDoor
open Go.RowKit

/-- A function of the program that answers a predicate of signs. -/
def IsRune (f : FuncId) (p : Int → Bool) : Prop := ∀ (r : Int) (w : World), Calls Tryz.prog f #[.int .i32 r] w fun e w' => e = .returned (.bool (p r)) ∧ w = w'

def btw (r a b : Int) : Bool := decide (a ≤ r) && decide (r ≤ b)

set_option maxRecDepth 100000 in
theorem between_any (r a b : Int) (w : World) : Calls Tryz.prog 131 #[.int .i32 r, .int .i32 a, .int .i32 b] w fun e w' => e = .returned (.bool (btw r a b)) ∧ w = w' := by
  by_cases h1 : a ≤ r
  · by_cases h2 : r ≤ b
    · have HB := Lib.hid (show btw r a b = true by simp [btw, h1, h2])
      go_enter Tryz.func131, Tryz.ntmps131
      go_wp2
      go_ret
      exact ⟨ret_bool (by rw [HB.out]), rfl⟩
    · have HB := Lib.hid (show btw r a b = false by simp [btw, h2])
      go_enter Tryz.func131, Tryz.ntmps131
      go_wp2
      go_ret
      exact ⟨ret_bool (by rw [HB.out]), rfl⟩
  · have HB := Lib.hid (show btw r a b = false by simp [btw, h1])
    go_enter Tryz.func131, Tryz.ntmps131
    go_wp2
    go_ret
    exact ⟨ret_bool HB.out.symm, rfl⟩

def isLower (r : Int) : Bool := btw r 97 122
def isUpper (r : Int) : Bool := btw r 65 90
def isDigit (r : Int) : Bool := btw r 48 57
def isAlpha (r : Int) : Bool := isLower r || isUpper r
def isAlnum (r : Int) : Bool := isAlpha r || isDigit r
def isBlank (r : Int) : Bool := decide (r = 32) || decide (r = 9)
def isGraph (r : Int) : Bool := btw r 33 126
def isXdigit (r : Int) : Bool := isDigit r || btw r 65 70 || btw r 97 102
def isSpace (r : Int) : Bool := isBlank r || btw r 10 13
def isCntrl (r : Int) : Bool := decide (r < 32) || decide (r = 127)
def isPrint (r : Int) : Bool := decide (r = 32) || isGraph r
def isPunct (r : Int) : Bool := isGraph r && !isAlnum r

set_option maxRecDepth 100000 in
theorem rune_lower : IsRune 125 isLower := by
  intro r w
  go_enter Tryz.func125, Tryz.ntmps125
  go_wp2_with fail
  refine (between_any r 97 122 w).mono ?_
  rintro e w1 ⟨rfl, rfl⟩
  go_wp2
  go_ret
  exact ⟨rfl, rfl⟩
set_option maxRecDepth 100000 in
theorem rune_upper : IsRune 126 isUpper := by
  intro r w
  go_enter Tryz.func126, Tryz.ntmps126
  go_wp2_with fail
  refine (between_any r 65 90 w).mono ?_
  rintro e w1 ⟨rfl, rfl⟩
  go_wp2
  go_ret
  exact ⟨rfl, rfl⟩
set_option maxRecDepth 100000 in
theorem rune_digit : IsRune 128 isDigit := by
  intro r w
  go_enter Tryz.func128, Tryz.ntmps128
  go_wp2_with fail
  refine (between_any r 48 57 w).mono ?_
  rintro e w1 ⟨rfl, rfl⟩
  go_wp2
  go_ret
  exact ⟨rfl, rfl⟩
set_option maxRecDepth 100000 in
theorem rune_graph : IsRune 136 isGraph := by
  intro r w
  go_enter Tryz.func136, Tryz.ntmps136
  go_wp2_with fail
  refine (between_any r 33 126 w).mono ?_
  rintro e w1 ⟨rfl, rfl⟩
  go_wp2
  go_ret
  exact ⟨rfl, rfl⟩
set_option maxRecDepth 100000 in
theorem rune_Alpha : IsRune 127 isAlpha := by
  intro r w
  obtain ⟨v, hv⟩ : ∃ v, isAlpha r = v := ⟨_, rfl⟩
  rw [hv]
  have HV := Lib.hid hv; clear hv
  obtain ⟨p0, hp0⟩ : ∃ p, isLower r = p := ⟨_, rfl⟩
  have HP0 := Lib.hid hp0; clear hp0
  obtain ⟨p1, hp1⟩ : ∃ p, isUpper r = p := ⟨_, rfl⟩
  have HP1 := Lib.hid hp1; clear hp1
  have HE := Lib.hid (show v = (p0 || p1) by rw [← HV.out]; unfold isAlpha; rw [HP0.out, HP1.out])
  go_enter Tryz.func127, Tryz.ntmps127
  go_wp2_with fail
  refine (rune_lower r w).mono ?_
  rw [HP0.out]
  rintro e w1 ⟨rfl, rfl⟩
  cases p0 with
  | true =>
    go_wp2
    go_ret
    exact ⟨ret_bool (by rw [HE.out]; simp), rfl⟩
  | false =>
    go_wp2_with fail
    refine (rune_upper r w).mono ?_
    rw [HP1.out]
    rintro e w2 ⟨rfl, rfl⟩
    go_wp2
    go_ret
    exact ⟨ret_bool (by rw [HE.out]; simp), rfl⟩
set_option maxRecDepth 100000 in
theorem rune_Alnum : IsRune 129 isAlnum := by
  intro r w
  obtain ⟨v, hv⟩ : ∃ v, isAlnum r = v := ⟨_, rfl⟩
  rw [hv]
  have HV := Lib.hid hv; clear hv
  obtain ⟨p0, hp0⟩ : ∃ p, isAlpha r = p := ⟨_, rfl⟩
  have HP0 := Lib.hid hp0; clear hp0
  obtain ⟨p1, hp1⟩ : ∃ p, isDigit r = p := ⟨_, rfl⟩
  have HP1 := Lib.hid hp1; clear hp1
  have HE := Lib.hid (show v = (p0 || p1) by rw [← HV.out]; unfold isAlnum; rw [HP0.out, HP1.out])
  go_enter Tryz.func129, Tryz.ntmps129
  go_wp2_with fail
  refine (rune_Alpha r w).mono ?_
  rw [HP0.out]
  rintro e w1 ⟨rfl, rfl⟩
  cases p0 with
  | true =>
    go_wp2
    go_ret
    exact ⟨ret_bool (by rw [HE.out]; simp), rfl⟩
  | false =>
    go_wp2_with fail
    refine (rune_digit r w).mono ?_
    rw [HP1.out]
    rintro e w2 ⟨rfl, rfl⟩
    go_wp2
    go_ret
    exact ⟨ret_bool (by rw [HE.out]; simp), rfl⟩
set_option maxRecDepth 100000 in
theorem rune_Xdigit : IsRune 130 isXdigit := by
  intro r w
  obtain ⟨v, hv⟩ : ∃ v, isXdigit r = v := ⟨_, rfl⟩
  rw [hv]
  have HV := Lib.hid hv; clear hv
  obtain ⟨p0, hp0⟩ : ∃ p, isDigit r = p := ⟨_, rfl⟩
  have HP0 := Lib.hid hp0; clear hp0
  obtain ⟨p1, hp1⟩ : ∃ p, btw r 65 70 = p := ⟨_, rfl⟩
  have HP1 := Lib.hid hp1; clear hp1
  obtain ⟨p2, hp2⟩ : ∃ p, btw r 97 102 = p := ⟨_, rfl⟩
  have HP2 := Lib.hid hp2; clear hp2
  have HE := Lib.hid (show v = (p0 || p1 || p2) by rw [← HV.out]; unfold isXdigit; rw [HP0.out, HP1.out, HP2.out])
  go_enter Tryz.func130, Tryz.ntmps130
  go_wp2_with fail
  refine (rune_digit r w).mono ?_
  rw [HP0.out]
  rintro e w1 ⟨rfl, rfl⟩
  cases p0 with
  | true =>
    go_wp2
    go_ret
    exact ⟨ret_bool (by rw [HE.out]; simp), rfl⟩
  | false =>
    go_wp2_with fail
    refine (between_any r 65 70 w).mono ?_
    rw [HP1.out]
    rintro e w2 ⟨rfl, rfl⟩
    cases p1 with
    | true =>
      go_wp2
      go_ret
      exact ⟨ret_bool (by rw [HE.out]; simp), rfl⟩
    | false =>
      go_wp2_with fail
      refine (between_any r 97 102 w).mono ?_
      rw [HP2.out]
      rintro e w3 ⟨rfl, rfl⟩
      go_wp2
      go_ret
      exact ⟨ret_bool (by rw [HE.out]; simp), rfl⟩
set_option maxRecDepth 100000 in
theorem rune_blank : IsRune 132 isBlank := by
  intro r w
  by_cases h1 : r = 32
  · have HE := Lib.hid (show isBlank r = true by simp [isBlank, h1])
    subst h1
    go_enter Tryz.func132, Tryz.ntmps132
    go_wp2
    go_ret
    exact ⟨ret_bool HE.out.symm, rfl⟩
  · have h2 : (r == 32) = false := by simpa using h1
    have HE := Lib.hid (show isBlank r = (r == 9) by rw [Bool.eq_iff_iff]; simp [isBlank, h1])
    clear h1
    go_enter Tryz.func132, Tryz.ntmps132
    go_wp2
    go_ret
    exact ⟨ret_bool HE.out.symm, rfl⟩
set_option maxRecDepth 100000 in
theorem rune_Space : IsRune 133 isSpace := by
  intro r w
  obtain ⟨v, hv⟩ : ∃ v, isSpace r = v := ⟨_, rfl⟩
  rw [hv]
  have HV := Lib.hid hv; clear hv
  obtain ⟨p0, hp0⟩ : ∃ p, isBlank r = p := ⟨_, rfl⟩
  have HP0 := Lib.hid hp0; clear hp0
  obtain ⟨p1, hp1⟩ : ∃ p, btw r 10 13 = p := ⟨_, rfl⟩
  have HP1 := Lib.hid hp1; clear hp1
  have HE := Lib.hid (show v = (p0 || p1) by rw [← HV.out]; unfold isSpace; rw [HP0.out, HP1.out])
  go_enter Tryz.func133, Tryz.ntmps133
  go_wp2_with fail
  refine (rune_blank r w).mono ?_
  rw [HP0.out]
  rintro e w1 ⟨rfl, rfl⟩
  cases p0 with
  | true =>
    go_wp2
    go_ret
    exact ⟨ret_bool (by rw [HE.out]; simp), rfl⟩
  | false =>
    go_wp2_with fail
    refine (between_any r 10 13 w).mono ?_
    rw [HP1.out]
    rintro e w2 ⟨rfl, rfl⟩
    go_wp2
    go_ret
    exact ⟨ret_bool (by rw [HE.out]; simp), rfl⟩
set_option maxRecDepth 100000 in
theorem rune_Cntrl : IsRune 134 isCntrl := by
  intro r w
  by_cases h1 : r < 32
  · have HE := Lib.hid (show isCntrl r = true by simp [isCntrl, h1])
    go_enter Tryz.func134, Tryz.ntmps134
    go_wp2
    go_ret
    exact ⟨ret_bool HE.out.symm, rfl⟩
  · have HE := Lib.hid (show isCntrl r = (r == 127) by rw [Bool.eq_iff_iff]; simp [isCntrl, h1])
    go_enter Tryz.func134, Tryz.ntmps134
    go_wp2
    go_ret
    exact ⟨ret_bool HE.out.symm, rfl⟩
set_option maxRecDepth 100000 in
theorem rune_Print : IsRune 135 isPrint := by
  intro r w
  by_cases h1 : r = 32
  · have HE := Lib.hid (show isPrint r = true by simp [isPrint, h1])
    subst h1
    go_enter Tryz.func135, Tryz.ntmps135
    go_wp2
    go_ret
    exact ⟨ret_bool HE.out.symm, rfl⟩
  · have h2 : (r == 32) = false := by simpa using h1
    have HE := Lib.hid (show isPrint r = isGraph r by simp [isPrint, h1])
    clear h1
    go_enter Tryz.func135, Tryz.ntmps135
    go_wp2_with fail
    refine (rune_graph r w).mono ?_
    rintro e w1 ⟨rfl, rfl⟩
    go_wp2
    go_ret
    exact ⟨ret_bool HE.out.symm, rfl⟩
set_option maxRecDepth 100000 in
theorem rune_Punct : IsRune 137 isPunct := by
  intro r w
  obtain ⟨p, hp⟩ : ∃ p, isGraph r = p := ⟨_, rfl⟩
  obtain ⟨q, hq⟩ : ∃ q, isAlnum r = q := ⟨_, rfl⟩
  have HE := Lib.hid (show isPunct r = (p && !q) by unfold isPunct; rw [hp, hq])
  have HP := Lib.hid hp; have HQ := Lib.hid hq; clear hp hq
  go_enter Tryz.func137, Tryz.ntmps137
  go_wp2_with fail
  refine (rune_graph r w).mono ?_
  rw [HP.out]
  rintro e w1 ⟨rfl, rfl⟩
  cases p with
  | false =>
    go_wp2
    go_ret
    exact ⟨ret_bool (by rw [HE.out]; rfl), rfl⟩
  | true =>
    go_wp2_with fail
    refine (rune_Alnum r w).mono ?_
    rw [HQ.out]
    rintro e w1 ⟨rfl, rfl⟩
    go_wp2
    go_ret
    exact ⟨ret_bool (by rw [HE.out]; simp), rfl⟩

end Go.Proofs.YtepeomphikhbkaaGreatDoor

/-
  Walks: octet.class, from a name to the predicate.
-/
namespace Go.Proofs.YtepeomphikhbkaaGreatDoor
open Go.RowKit

/-- A call of the value f enters the function f. -/
def IsFn (f : FuncId) : Prop := ∀ (r : Int) (w : World), (callFunc f #[.int .i32 r]).run Tryz.prog w = .ok (.enter f #[.int .i32 r]) w

/-- A value that is the function of a predicate, or no function. -/
def Cls (v : Value) (o : Option (Int → Bool)) : Prop :=
  (v = .nilFunc ∧ o = none) ∨ ∃ f p, v = .func (.func f) #[] #[] ∧ o = some p ∧ IsFn f ∧ IsRune f p

/-- What class answers by the name. -/
def clsOf (s : ByteArray) : Option (Int → Bool) :=
  if s.toList == [108, 111, 119, 101, 114] then some isLower
  else if s.toList == [117, 112, 112, 101, 114] then some isUpper
  else if s.toList == [97, 108, 112, 104, 97] then some isAlpha
  else if s.toList == [100, 105, 103, 105, 116] then some isDigit
  else if s.toList == [97, 108, 110, 117, 109] then some isAlnum
  else if s.toList == [120, 100, 105, 103, 105, 116] then some isXdigit
  else if s.toList == [98, 108, 97, 110, 107] then some isBlank
  else if s.toList == [115, 112, 97, 99, 101] then some isSpace
  else if s.toList == [99, 110, 116, 114, 108] then some isCntrl
  else if s.toList == [112, 114, 105, 110, 116] then some isPrint
  else if s.toList == [103, 114, 97, 112, 104] then some isGraph
  else if s.toList == [112, 117, 110, 99, 116] then some isPunct
  else none

set_option maxRecDepth 100000 in
theorem class_any (s : ByteArray) (w : World) : Calls Tryz.prog 120 #[.string s] w fun e w' => ∃ v, e = .returned v ∧ Cls v (clsOf s) ∧ w = w' := by
  go_enter Tryz.func120, Tryz.ntmps120
  go_wp2
  · go_ret
    exact ⟨_, rfl, Or.inr ⟨_, _, rfl, (by simp only [clsOf, *]; rfl), (fun _ _ => rfl), rune_lower⟩, rfl⟩
  · go_ret
    exact ⟨_, rfl, Or.inr ⟨_, _, rfl, (by simp only [clsOf, *]; rfl), (fun _ _ => rfl), rune_upper⟩, rfl⟩
  · go_ret
    exact ⟨_, rfl, Or.inr ⟨_, _, rfl, (by simp only [clsOf, *]; rfl), (fun _ _ => rfl), rune_Alpha⟩, rfl⟩
  · go_ret
    exact ⟨_, rfl, Or.inr ⟨_, _, rfl, (by simp only [clsOf, *]; rfl), (fun _ _ => rfl), rune_digit⟩, rfl⟩
  · go_ret
    exact ⟨_, rfl, Or.inr ⟨_, _, rfl, (by simp only [clsOf, *]; rfl), (fun _ _ => rfl), rune_Alnum⟩, rfl⟩
  · go_ret
    exact ⟨_, rfl, Or.inr ⟨_, _, rfl, (by simp only [clsOf, *]; rfl), (fun _ _ => rfl), rune_Xdigit⟩, rfl⟩
  · go_ret
    exact ⟨_, rfl, Or.inr ⟨_, _, rfl, (by simp only [clsOf, *]; rfl), (fun _ _ => rfl), rune_blank⟩, rfl⟩
  · go_ret
    exact ⟨_, rfl, Or.inr ⟨_, _, rfl, (by simp only [clsOf, *]; rfl), (fun _ _ => rfl), rune_Space⟩, rfl⟩
  · go_ret
    exact ⟨_, rfl, Or.inr ⟨_, _, rfl, (by simp only [clsOf, *]; rfl), (fun _ _ => rfl), rune_Cntrl⟩, rfl⟩
  · go_ret
    exact ⟨_, rfl, Or.inr ⟨_, _, rfl, (by simp only [clsOf, *]; rfl), (fun _ _ => rfl), rune_Print⟩, rfl⟩
  · go_ret
    exact ⟨_, rfl, Or.inr ⟨_, _, rfl, (by simp only [clsOf, *]; rfl), (fun _ _ => rfl), rune_graph⟩, rfl⟩
  · go_ret
    exact ⟨_, rfl, Or.inr ⟨_, _, rfl, (by simp only [clsOf, *]; rfl), (fun _ _ => rfl), rune_Punct⟩, rfl⟩
  · go_ret
    exact ⟨_, rfl, Or.inl ⟨rfl, (by simp only [clsOf, *]; rfl)⟩, rfl⟩

end Go.Proofs.YtepeomphikhbkaaGreatDoor

/-
  Walks: pick, the set of the signs that a predicate takes.
-/
namespace Go.Proofs.YtepeomphikhbkaaGreatDoor
open Go.RowKit

/-- The set of the signs below k that p takes. -/
def pk (p : Int → Bool) : Nat → S4
  | 0 => S4.zero
  | k + 1 => if p k then (pk p k).put k else pk p k

set_option maxRecDepth 100000 in
set_option maxHeartbeats 1000000 in
theorem pick_any (f : FuncId) (p : Int → Bool) (w : World) (hn : IsFn f) (hf : IsRune f p) :
    Calls Tryz.prog 121 #[.func (.func f) #[] #[]] w fun e w' => e = .returned (.agg (pk p 256).cells.toArray) ∧ Fr nob w w' := by
  go_enter Tryz.func121, Tryz.ntmps121
  go_wp2_with fail
  obtain ⟨w0, hw0⟩ : ∃ w0, w0 = ((w.alloc (.cells S4.zero.cells.toArray 85)).alloc (.cells S4.zero.cells.toArray 85)) := ⟨_, rfl⟩
  have f0 : Fr nob w w0 := by rw [hw0]; exact ((Fr.refl _ _).alloc _).alloc _
  have hr0 : w0.heap[w.heap.size]? = some (.cells S4.zero.cells.toArray 85 (0, 0)) := by rw [hw0]; exact heap_alloc_lt _ (heap_alloc_new _ _)
  have hb0 : w0.heap[w.heap.size + 1]? = some (.cells S4.zero.cells.toArray 85 (0, 0)) := by
    rw [hw0]; have := heap_alloc_new (w.alloc (.cells S4.zero.cells.toArray 85)) (.cells S4.zero.cells.toArray 85); simpa using this
  change Code.wp _ _ _ _ ((w.alloc (.cells S4.zero.cells.toArray 85)).alloc (.cells S4.zero.cells.toArray 85))
  rw [← hw0]
  have F0 := Lib.hid f0; have HR0 := Lib.hid hr0; have HB0 := Lib.hid hb0; clear f0 hr0 hb0 hw0
  go_loopw [5] (fun i wr => ∃ k : Nat, i = .int .i32 k ∧ k ≤ 256 ∧ wr.heap[w.heap.size + 1]? = some (.cells (pk p k).cells.toArray 85 (0, 0)) ∧ Fr (fun k => k = w.heap.size + 1) w0 wr) (fun i _ => 256 - (intOf i).toNat)
  case atStart => exact ⟨0, rfl, Nat.zero_le _, HB0.out, Fr.refl _ _⟩
  case round =>
    obtain ⟨k, rfl, hk, hb, fr⟩ := hrel
    have HB := Lib.hid hb; have FR := Lib.hid fr; clear hb fr
    have FW := Lib.hid (F0.out.trans FR.out (fun i hi x => by omega))
    by_cases hlt : k < 256
    · cases hp : p k with
      | true =>
        have hpt := Lib.hid (show pk p (k + 1) = (pk p k).put k by simp [pk, hp])
        have HP := Lib.hid hp; clear hp
        go_wp2_with fail
        rw [hn]
        refine (hf k _).mono ?_
        rw [HP.out]
        rintro e w3 ⟨rfl, rfl⟩
        go_wp2_with fail
        refine (add_any (w.heap.size + 1) _ k _ hlt HB.out).mono ?_
        rintro e w3 ⟨rfl, h3, f3⟩
        have H3 := Lib.hid h3; have F3 := Lib.hid f3; clear h3 f3
        go_wp2
        go_roundw
        case rel => exact ⟨k + 1, by go_num, by omega, by rw [hpt.out]; exact H3.out, FR.out.trans' F3.out⟩
        case measure => simp [intOf]; omega
      | false =>
        have hpt := Lib.hid (show pk p (k + 1) = pk p k by simp [pk, hp])
        have HP := Lib.hid hp; clear hp
        go_wp2_with fail
        rw [hn]
        refine (hf k _).mono ?_
        rw [HP.out]
        rintro e w3 ⟨rfl, rfl⟩
        go_wp2
        go_roundw
        case rel => exact ⟨k + 1, by go_num, by omega, by rw [hpt.out]; exact HB.out, FR.out⟩
        case measure => simp [intOf]; omega
    · obtain rfl : k = 256 := by omega
      have hb := HB.out
      obtain ⟨c0, c1, c2, c3, _⟩ := cellS hb
      have hr := FR.out.heap HR0.out (fun e => by omega)
      obtain ⟨_, _, _, _, f0, f1, f2, f3⟩ := cellS hr
      have hlr := lt_heap hr; have hlb := lt_heap hb
      have HBB := Lib.hid hb; have HRR := Lib.hid hr; clear hb hr
      go_wp2
      (try simp only [Exit.inBlock, Exit.then])
      have hW := heap_setCell_at (heap_setCell_at (heap_setCell_at (heap_setCell_at HRR.out 0 (.int .u64 (pk p 256).a)) 1 (.int .u64 (pk p 256).b)) 2 (.int .u64 (pk p 256).c)) 3 (.int .u64 (pk p 256).d)
      refine bodyPost_ret (results_set (s := pk p 256) rfl rfl hW) rfl ⟨rfl, ?_⟩
      exact (((FW.out.setCell (p := ⟨w.heap.size, 0, none⟩) (fun h => absurd h (Nat.lt_irrefl _)) _).setCell (p := ⟨w.heap.size, 1, none⟩) (fun h => absurd h (Nat.lt_irrefl _)) _).setCell (p := ⟨w.heap.size, 2, none⟩) (fun h => absurd h (Nat.lt_irrefl _)) _).setCell (p := ⟨w.heap.size, 3, none⟩) (fun h => absurd h (Nat.lt_irrefl _)) _

end Go.Proofs.YtepeomphikhbkaaGreatDoor

/-
  Walks: octet.Class; Span of both sides.
-/
namespace Go.Proofs.YtepeomphikhbkaaGreatDoor
open Go.RowKit

def clsSet (o : Option (Int → Bool)) : S4 := match o with
  | none => S4.zero
  | some p => pk p 256

theorem eq_nilfn_nil (w : World) : (binOp .eql 78 .nilFunc .nilFunc).run Tryz.prog w = .ok (.bool true) w := by kernel_rfl
theorem eq_nilfn (f : FuncId) (w : World) : (binOp .eql 78 (.func (.func f) #[] #[]) .nilFunc).run Tryz.prog w = .ok (.bool false) w := by kernel_rfl

/-- A set and a bool that are handed back. -/
theorem results_setB {fn : Func} {p q : Tmp} (h : fn.results = #[.cell p 85, .tmp q]) {tmps : Array Value} {r : Nat} (ht : tmps.getD p undef = .pointer (some ⟨r, 0, none⟩)) {v : Value} (hq : tmps.getD q undef = v) {W : World} {s : S4}
    (hb : W.heap[r]? = some (.cells s.cells.toArray 85 (0, 0))) : (results fn tmps).run Tryz.prog W = .ok (.tuple #[.agg s.cells.toArray, v]) W := by
  obtain ⟨c0, c1, c2, c3, _⟩ := cellS hb
  have ht' : tmps[p]?.getD undef = .pointer (some ⟨r, 0, none⟩) := by rw [← ht]; simp
  have hq' : tmps[q]?.getD undef = v := by rw [← hq]; simp
  simp only [results, h]
  simp [ht', hq', go_sem, c0, c1, c2, c3, S4.cells]

set_option maxRecDepth 100000 in
theorem octClass_any (s : ByteArray) (w : World) : Calls Tryz.prog 115 #[.string s] w fun e w' => e = .returned (.tuple #[.agg (clsSet (clsOf s)).cells.toArray, .bool (clsOf s).isSome]) ∧ Fr nob w w' := by
  obtain ⟨o, ho⟩ : ∃ o, clsOf s = o := ⟨_, rfl⟩
  rw [ho]
  have HO := Lib.hid ho; clear ho
  have q0 := eq_nilfn_nil; have q1 := eq_nilfn
  go_enter Tryz.func115, Tryz.ntmps115
  go_wp2_with fail
  refine (class_any s _).mono ?_
  rw [HO.out]
  rintro e w1 ⟨v, rfl, hc, rfl⟩
  rcases hc with ⟨rfl, rfl⟩ | ⟨f, p, rfl, rfl, hn, hf⟩
  · go_wp2
    (try simp only [Exit.inBlock, Exit.then])
    exact bodyPost_ret (results_setB (s := S4.zero) rfl rfl rfl (heap_alloc_new' _ _ _ (by simp))) rfl ⟨rfl, (Fr.refl _ _).alloc _⟩
  · go_wp2_with fail
    refine (pick_any f p _ hn hf).mono ?_
    rintro e w1 ⟨he, h1⟩
    rw [S4.cells_eq] at he; subst he
    have hb := h1.heap (heap_alloc_new w (.cells S4.zero.cells.toArray 85)) (fun x => x)
    obtain ⟨c0, c1, c2, c3, f0, f1, f2, f3⟩ := cellS hb
    have HB := Lib.hid hb
    have F1 := Lib.hid h1; clear h1 hb
    go_wp2
    (try simp only [Exit.inBlock, Exit.then])
    exact bodyPost_ret (results_setB (s := pk p 256) rfl rfl rfl (setFour_heap HB.out _ _ _ _)) rfl ⟨rfl, setFour_fr (((Fr.refl _ _).alloc _).trans' F1.out) (Nat.le_refl _) _ _ _ _⟩

/-- n bytes from a on. -/
def spanTo (a : Nat) : Nat → S4
  | 0 => S4.zero
  | n + 1 => (spanTo a n).put (a + n)
def spn (a b : Nat) : S4 := spanTo a (b + 1 - a)

set_option maxRecDepth 100000 in
set_option maxHeartbeats 1000000 in
theorem spanR_any (a b : Nat) (w : World) (ha : a < 256) (hb : b < 256) :
    Calls Tryz.prog 94 #[.int .u8 a, .int .u8 b] w fun e w' => e = .returned (.agg (spn a b).cells.toArray) ∧ Fr nob w w' := by
  go_enter Tryz.func94, Tryz.ntmps94
  go_wp2_with fail
  obtain ⟨w0, hw0⟩ : ∃ w0, w0 = ((w.alloc (.cells S4.zero.cells.toArray 31)).alloc (.cells S4.zero.cells.toArray 31)) := ⟨_, rfl⟩
  have f0 : Fr nob w w0 := by rw [hw0]; exact ((Fr.refl _ _).alloc _).alloc _
  have hr0 : w0.heap[w.heap.size]? = some (.cells S4.zero.cells.toArray 31 (0, 0)) := by rw [hw0]; exact heap_alloc_lt _ (heap_alloc_new _ _)
  have hb0 : w0.heap[w.heap.size + 1]? = some (.cells S4.zero.cells.toArray 31 (0, 0)) := by
    rw [hw0]; have := heap_alloc_new (w.alloc (.cells S4.zero.cells.toArray 31)) (.cells S4.zero.cells.toArray 31); simpa using this
  change Code.wp _ _ _ _ ((w.alloc (.cells S4.zero.cells.toArray 31)).alloc (.cells S4.zero.cells.toArray 31))
  rw [← hw0]
  have F0 := Lib.hid f0; have HR0 := Lib.hid hr0; have HB0 := Lib.hid hb0; clear f0 hr0 hb0 hw0
  go_loopw [6] (fun i wr => ∃ k : Nat, i = .int .i64 (a + k : Nat) ∧ (k = 0 ∨ a + k ≤ b + 1) ∧ wr.heap[w.heap.size + 1]? = some (.cells (spanTo a k).cells.toArray 31 (0, 0)) ∧ Fr (fun k => k = w.heap.size + 1) w0 wr) (fun i _ => 256 - (intOf i).toNat)
  case atStart => exact ⟨0, rfl, .inl rfl, HB0.out, Fr.refl _ _⟩
  case round =>
    obtain ⟨k, rfl, hk, hb', fr⟩ := hrel
    have HB := Lib.hid hb'; have FR := Lib.hid fr
    have FW := Lib.hid (F0.out.trans FR.out (fun i hi x => by omega))
    obtain ⟨c0, c1, c2, c3, z0, z1, z2, z3⟩ := cellS hb'
    have hlb := lt_heap hb'
    clear hb' fr
    obtain ⟨n, hn⟩ : ∃ n, a + k = n := ⟨_, rfl⟩
    rw [hn]
    have HN := Lib.hid hn
    by_cases hlt : n ≤ b
    · have wn : IntKind.u8.wrap (n : Int) = (n : Int) := IntWalk.u8_in _ (by omega)
      clear hn hk
      go_wp2_with fail
      refine (withR_any (spanTo a k) n _ (by omega)).mono ?_
      rintro e w3 ⟨he, f3⟩
      rw [S4.cells_eq] at he; subst he
      have h3 := f3.heap HB.out (fun x => x)
      obtain ⟨_, _, _, _, y0, y1, y2, y3⟩ := cellS h3
      have hl3 := lt_heap h3
      have H3 := Lib.hid h3; have F3 := Lib.hid f3; clear h3 f3
      go_wp2
      go_roundw
      case rel =>
        refine ⟨k + 1, by have := HN.out; congr 1; omega, .inr (by have := HN.out; omega), ?_, ?_⟩
        · have := setFour_heap (w := w3) (b := w.heap.size + 1) H3.out (.int .u64 ((spanTo a k).put n).a) (.int .u64 ((spanTo a k).put n).b) (.int .u64 ((spanTo a k).put n).c) (.int .u64 ((spanTo a k).put n).d)
          rw [show spanTo a (k + 1) = (spanTo a k).put n by rw [← HN.out]; rfl]
          exact this
        · refine FR.out.trans' ?_
          have h : ∀ (x : World) (j : Nat) (v : Value), Fr (fun k => k = w.heap.size + 1) wr x → Fr (fun k => k = w.heap.size + 1) wr (x.setCell ⟨w.heap.size + 1, j, none⟩ v) := fun x j v hx => hx.setCell (p := ⟨w.heap.size + 1, j, none⟩) (fun _ => rfl) v
          exact h _ _ _ (h _ _ _ (h _ _ _ (h _ _ _ F3.out.any)))
      case measure => simp [intOf]; omega
    · have hsp := Lib.hid (show spanTo a k = spn a b by unfold spn; congr 1; omega)
      clear hn hk
      have hb := HB.out
      rw [hsp.out] at hb c0 c1 c2 c3
      have hr := FR.out.heap HR0.out (fun e => by omega)
      obtain ⟨_, _, _, _, f0, f1, f2, f3⟩ := cellS hr
      have hlr := lt_heap hr
      have HBB := Lib.hid hb; have HRR := Lib.hid hr; clear hb hr
      go_wp2
      (try simp only [Exit.inBlock, Exit.then])
      exact bodyPost_ret (results_setR (s := spn a b) rfl rfl (setFour_heap HRR.out _ _ _ _)) rfl ⟨rfl, setFour_fr FW.out (Nat.le_refl _) _ _ _ _⟩

end Go.Proofs.YtepeomphikhbkaaGreatDoor
