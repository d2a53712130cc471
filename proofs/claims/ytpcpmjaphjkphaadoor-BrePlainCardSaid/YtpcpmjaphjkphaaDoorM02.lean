/-
  Merged texts of this claim: EqS, OctetB, Words, OctetC, Popc, OctetD, Count, OctetE, OctetF.
-/
import Derived.Test.YtpcpmjaphjkphaaDoorChecked
import Derived.Laws.StructEq
import Derived.OpenShut
import Derived.Test.YtpcpmjaphjkphaaDoorM01

/-
  '==' of two sets, of two structs that hold one.
-/
namespace Go.Proofs.YtpcpmjaphjkphaaDoor
open Go.RowKit

theorem all_range_int : ∀ (xs ys : List Int), xs.length = ys.length → ((List.range xs.length).all fun i => xs.getD i 0 == ys.getD i 0) = (xs == ys)
  | [], [], _ => rfl
  | x :: xs, y :: ys, h => by
    have ih := all_range_int xs ys (by simpa using h)
    rw [List.length_cons, List.range_succ_eq_map, List.all_cons, List.all_map]
    simp only [List.getD_cons_zero, Function.comp_def, List.getD_cons_succ, ih]
    simp [List.cons_beq_cons]
  | [], _ :: _, h => by simp at h
  | _ :: _, [], h => by simp at h

theorem run_equalIn_iarr {P : Program} (w : World) (k : IntKind) (d : Nat) (t e : TypeId) (n : Nat) (ht : P.underlying t = some (.array n e)) (he : P.underlying e = some (.int k)) (hsz : ∀ w, (sizeOf e).run P w = .ok 1 w)
    (xs ys : List Int) (hx : xs.length = n) (hy : ys.length = n) :
    (Op.equalIn (d + 2) t (.agg (xs.map (Value.int k)).toArray) (.agg (ys.map (Value.int k)).toArray)).run P w = .ok (xs == ys) w := by
  rw [← all_range_int xs ys (hx.trans hy.symm), hx, List.range_eq_range', Op.equalIn]
  simp only [Sem.run_bind, run_underlying ht, Result.andThen_ok, hsz, Std.Legacy.Range.forIn_eq_forIn_range', Std.Legacy.Range.size, Nat.sub_zero, Nat.add_sub_cancel, Nat.div_one]
  have hl : ∀ i ∈ List.range' 0 n 1, i < n := fun i hi => by simpa using (List.mem_range'_1.1 hi).2
  generalize List.range' 0 n 1 = l at hl ⊢
  induction l with
  | nil => simp
  | cons i l ih =>
    have hi : i < n := hl i (by simp)
    have px : (part e (xs.map (Value.int k)).toArray (i * 1)).run P w = .ok (.int k (xs.getD i 0)) w := by
      simp [part, isAgg, run_underlying he, List.getD, List.getElem?_eq_getElem (show i < xs.length by omega)]
    have py : (part e (ys.map (Value.int k)).toArray (i * 1)).run P w = .ok (.int k (ys.getD i 0)) w := by
      simp [part, isAgg, run_underlying he, List.getD, List.getElem?_eq_getElem (show i < ys.length by omega)]
    have pe : (Op.equalIn (d + 1) e (.int k (xs.getD i 0)) (.int k (ys.getD i 0))).run P w = .ok (xs.getD i 0 == ys.getD i 0) w := by
      rw [run_equalIn_int w d e k k _ _ he]
    simp only [List.forIn_cons, Sem.run_bind, px, py, pe, Result.andThen_ok, List.all_cons]
    cases hb : (xs.getD i 0 == ys.getD i 0)
    · simp
    · simp only [Bool.not_true, Bool.false_eq_true, if_false, Sem.run_pure, Result.andThen_ok, Bool.true_and]
      exact ih fun j hj => hl j (by simp [hj])

/-- Are two sets the same? -/
def S4.same (s t : S4) : Bool := decide (s = t)
theorem S4.same_iff {s t : S4} : s.same t = true ↔ s = t := by simp [S4.same]
theorem S4.same_refl (s : S4) : s.same s = true := by simp [S4.same]
theorem S4.same_ne {s t : S4} (h : s ≠ t) : s.same t = false := by simp [S4.same, h]

theorem S4.eq_list (a b c d a' b' c' d' : Int) : ([a, b, c, d] == [a', b', c', d']) = S4.same ⟨a, b, c, d⟩ ⟨a', b', c', d'⟩ := by
  rw [Bool.eq_iff_iff, S4.same_iff]; simp

/-- Two sets. -/
theorem eq_set (a b c d a' b' c' d' : Int) (k : Nat) (w : World) : (Op.equalIn (k + 2) 37 (.agg #[.int .u64 a, .int .u64 b, .int .u64 c, .int .u64 d]) (.agg #[.int .u64 a', .int .u64 b', .int .u64 c', .int .u64 d'])).run Tryd.prog w = .ok (S4.same ⟨a, b, c, d⟩ ⟨a', b', c', d'⟩) w := by
  rw [← S4.eq_list]; exact run_equalIn_iarr w .u64 k 37 35 4 Tryd.underlying37 Tryd.underlying35 (fun _ => by kernel_rfl) [a, b, c, d] [a', b', c', d'] rfl rfl
theorem eq_setS (a b c d a' b' c' d' : Int) (k : Nat) (w : World) : (Op.equalIn (k + 2) 48 (.agg #[.int .u64 a, .int .u64 b, .int .u64 c, .int .u64 d]) (.agg #[.int .u64 a', .int .u64 b', .int .u64 c', .int .u64 d'])).run Tryd.prog w = .ok (S4.same ⟨a, b, c, d⟩ ⟨a', b', c', d'⟩) w := by
  rw [← S4.eq_list]; exact run_equalIn_iarr w .u64 k 48 35 4 Tryd.underlying48 Tryd.underlying35 (fun _ => by kernel_rfl) [a, b, c, d] [a', b', c', d'] rfl rfl
theorem eq_set_9999 (a b c d a' b' c' d' : Int) (w : World) : (Op.equalIn 9999 37 (.agg #[.int .u64 a, .int .u64 b, .int .u64 c, .int .u64 d]) (.agg #[.int .u64 a', .int .u64 b', .int .u64 c', .int .u64 d'])).run Tryd.prog w = .ok (S4.same ⟨a, b, c, d⟩ ⟨a', b', c', d'⟩) w := eq_set a b c d a' b' c' d' 9997 w
attribute [go_sem] eq_set_9999
theorem eq_set_10000 (a b c d a' b' c' d' : Int) (w : World) : (Op.equalIn 10000 37 (.agg #[.int .u64 a, .int .u64 b, .int .u64 c, .int .u64 d]) (.agg #[.int .u64 a', .int .u64 b', .int .u64 c', .int .u64 d'])).run Tryd.prog w = .ok (S4.same ⟨a, b, c, d⟩ ⟨a', b', c', d'⟩) w := eq_set a b c d a' b' c' d' 9998 w
attribute [go_sem] eq_set_10000
theorem eq_setS_9999 (a b c d a' b' c' d' : Int) (w : World) : (Op.equalIn 9999 48 (.agg #[.int .u64 a, .int .u64 b, .int .u64 c, .int .u64 d]) (.agg #[.int .u64 a', .int .u64 b', .int .u64 c', .int .u64 d'])).run Tryd.prog w = .ok (S4.same ⟨a, b, c, d⟩ ⟨a', b', c', d'⟩) w := eq_setS a b c d a' b' c' d' 9997 w
attribute [go_sem] eq_setS_9999
theorem eq_setS_10000 (a b c d a' b' c' d' : Int) (w : World) : (Op.equalIn 10000 48 (.agg #[.int .u64 a, .int .u64 b, .int .u64 c, .int .u64 d]) (.agg #[.int .u64 a', .int .u64 b', .int .u64 c', .int .u64 d'])).run Tryd.prog w = .ok (S4.same ⟨a, b, c, d⟩ ⟨a', b', c', d'⟩) w := eq_setS a b c d a' b' c' d' 9998 w
attribute [go_sem] eq_setS_10000

end Go.Proofs.YtpcpmjaphjkphaaDoor

/-
  Walks of package octet, and of the document's: And, Or, Not, Has, With.
-/
namespace Go.Proofs.YtpcpmjaphjkphaaDoor
open Go.RowKit

/-- Word by word, the first k of them. -/
def S4.mix (f : Int → Int → Int) (k : Nat) (s t : S4) : S4 :=
  ⟨if 0 < k then f s.a t.a else s.a, if 1 < k then f s.b t.b else s.b, if 2 < k then f s.c t.c else s.c, if 3 < k then f s.d t.d else s.d⟩
def S4.and (s t : S4) : S4 := ⟨bits .and .u64 s.a t.a, bits .and .u64 s.b t.b, bits .and .u64 s.c t.c, bits .and .u64 s.d t.d⟩
def S4.or (s t : S4) : S4 := ⟨bits .or .u64 s.a t.a, bits .or .u64 s.b t.b, bits .or .u64 s.c t.c, bits .or .u64 s.d t.d⟩

theorem ret_set {w w' : World} {s : S4} {e : Ending} (h : e = .returned (.agg s.cells.toArray)) (f : Fr nob w w') : e = .returned (.agg s.cells.toArray) ∧ Fr nob w w' := ⟨h, f⟩

abbrev setFour (w : World) (b : Nat) (v0 v1 v2 v3 : Value) : World := (((w.setCell ⟨b, 0, none⟩ v0).setCell ⟨b, 1, none⟩ v1).setCell ⟨b, 2, none⟩ v2).setCell ⟨b, 3, none⟩ v3
theorem setFour_heap {w : World} {b : Nat} {a0 a1 a2 a3 : Value} {T : TypeId} {fr : Nat × Nat} (h : w.heap[b]? = some (.cells #[a0, a1, a2, a3] T fr)) (v0 v1 v2 v3 : Value) :
    (setFour w b v0 v1 v2 v3).heap[b]? = some (.cells #[v0, v1, v2, v3] T fr) := by
  have h0 : (w.setCell ⟨b, 0, none⟩ v0).heap[b]? = some (.cells #[v0, a1, a2, a3] T fr) := heap_setCell_at h 0 v0
  have h1 : ((w.setCell ⟨b, 0, none⟩ v0).setCell ⟨b, 1, none⟩ v1).heap[b]? = some (.cells #[v0, v1, a2, a3] T fr) := heap_setCell_at h0 1 v1
  have h2 : (((w.setCell ⟨b, 0, none⟩ v0).setCell ⟨b, 1, none⟩ v1).setCell ⟨b, 2, none⟩ v2).heap[b]? = some (.cells #[v0, v1, v2, a3] T fr) := heap_setCell_at h1 2 v2
  exact heap_setCell_at h2 3 v3
theorem setFour_fr {w a : World} {b : Nat} (f : Fr nob a w) (hb : a.heap.size ≤ b) (v0 v1 v2 v3 : Value) : Fr nob a (setFour w b v0 v1 v2 v3) := by
  have h : ∀ (x : World) (j : Nat) (v : Value), Fr nob a x → Fr nob a (x.setCell ⟨b, j, none⟩ v) := fun x j v hx => hx.setCell (p := ⟨b, j, none⟩) (fun h => absurd h (Nat.not_lt.2 hb)) v
  exact h _ _ _ (h _ _ _ (h _ _ _ (h _ _ _ f)))

/-- Three variables: two sets, and a result. -/
abbrev box3 (w : World) (s t : S4) (T : TypeId) : World := ((w.alloc (.cells s.cells.toArray T)).alloc (.cells t.cells.toArray T)).alloc (.cells S4.zero.cells.toArray T)
theorem box3_fr (w : World) (s t : S4) (T : TypeId) : Fr nob w (box3 w s t T) := (((Fr.refl _ _).alloc _).alloc _).alloc _
theorem box3_a (w : World) (s t : S4) (T : TypeId) : (box3 w s t T).heap[w.heap.size]? = some (.cells s.cells.toArray T (0, 0)) := heap_alloc_lt _ (heap_alloc_lt _ (heap_alloc_new _ _))
theorem box3_b (w : World) (s t : S4) (T : TypeId) : (box3 w s t T).heap[w.heap.size + 1]? = some (.cells t.cells.toArray T (0, 0)) := by
  refine heap_alloc_lt _ ?_
  have := heap_alloc_new (w.alloc (.cells s.cells.toArray T)) (.cells t.cells.toArray T); simpa using this
theorem box3_c (w : World) (s t : S4) (T : TypeId) : (box3 w s t T).heap[w.heap.size + 2]? = some (.cells S4.zero.cells.toArray T (0, 0)) := by
  have := heap_alloc_new ((w.alloc (.cells s.cells.toArray T)).alloc (.cells t.cells.toArray T)) (.cells S4.zero.cells.toArray T); simpa using this
theorem box3_size (w : World) (s t : S4) (T : TypeId) : (box3 w s t T).heap.size = w.heap.size + 3 := by simp

set_option maxRecDepth 100000 in
set_option maxHeartbeats 1000000 in
theorem or_any (s t : S4) (w : World) :
    Calls Tryd.prog 85 #[.agg s.cells.toArray, .agg t.cells.toArray] w fun e w' => e = .returned (.agg (s.or t).cells.toArray) ∧ Fr nob w w' := by
  have HA := Lib.hid (box3_a w s t 37); have HB := Lib.hid (box3_b w s t 37); have HC := Lib.hid (box3_c w s t 37)
  have F0 := Lib.hid (box3_fr w s t 37)
  have hsz := Lib.hid (box3_size w s t 37)
  rw [S4.cells_eq s, S4.cells_eq t]
  go_enter Tryd.func85, Tryd.ntmps85
  go_wp2_with fail
  obtain ⟨w0, hw0⟩ : ∃ w0, w0 = box3 w s t 37 := ⟨_, rfl⟩
  change Code.wp _ _ _ _ (box3 w s t 37)
  rw [← hw0] at HA HB HC F0 hsz ⊢
  clear hw0
  go_loopw [6] (fun i wr => ∃ k : Nat, i = .int .i64 k ∧ k ≤ 4 ∧ wr.heap[w.heap.size]? = some (.cells (S4.mix (bits .or .u64) k s t).cells.toArray 37 (0, 0)) ∧ Fr (fun j => j = w.heap.size) w0 wr) (fun i _ => 4 - (intOf i).toNat)
  case atStart => exact ⟨0, rfl, by omega, HA.out, Fr.refl _ _⟩
  case round =>
    obtain ⟨k, rfl, hk, hh, fr⟩ := hrel
    have hhb := fr.heap HB.out (by omega)
    have hhc := fr.heap HC.out (by omega)
    obtain ⟨c0, c1, c2, c3, z0, z1, z2, z3⟩ := cellS hh
    obtain ⟨g0, g1, g2, g3, _⟩ := cellS hhb
    have HH := Lib.hid hh; have FR := Lib.hid fr; have HHB := Lib.hid hhb; have HHC := Lib.hid hhc
    clear hh fr hhb hhc
    have hkk : k = 0 ∨ k = 1 ∨ k = 2 ∨ k = 3 ∨ k = 4 := by omega
    rcases hkk with rfl | rfl | rfl | rfl | rfl
    · simp only [S4.mix, Nat.lt_irrefl, Nat.zero_lt_one, if_true, if_false, Nat.not_lt_zero, Nat.reduceLT] at c0 c1 c2 c3
      go_wp2_with fail
      go_still_tail 6, (by kernel_rfl)
      change wpList _ _ _ _ _ wr.drew
      go_wp2
      go_roundw
      case rel => exact ⟨1, by go_num, by omega, heap_setCell_at HH.out 0 (.int .u64 (bits .or .u64 s.a t.a)), (FR.out.setCell (p := ⟨w.heap.size, 0, none⟩) (fun _ => rfl) _).drew⟩
      case measure => simp [intOf]
    · simp only [S4.mix, Nat.lt_irrefl, Nat.zero_lt_one, if_true, if_false, Nat.not_lt_zero, Nat.reduceLT] at c0 c1 c2 c3
      go_wp2_with fail
      go_still_tail 6, (by kernel_rfl)
      change wpList _ _ _ _ _ wr.drew
      go_wp2
      go_roundw
      case rel => exact ⟨2, by go_num, by omega, heap_setCell_at HH.out 1 (.int .u64 (bits .or .u64 s.b t.b)), (FR.out.setCell (p := ⟨w.heap.size, 1, none⟩) (fun _ => rfl) _).drew⟩
      case measure => simp [intOf]
    · simp only [S4.mix, Nat.lt_irrefl, Nat.zero_lt_one, if_true, if_false, Nat.not_lt_zero, Nat.reduceLT] at c0 c1 c2 c3
      go_wp2_with fail
      go_still_tail 6, (by kernel_rfl)
      change wpList _ _ _ _ _ wr.drew
      go_wp2
      go_roundw
      case rel => exact ⟨3, by go_num, by omega, heap_setCell_at HH.out 2 (.int .u64 (bits .or .u64 s.c t.c)), (FR.out.setCell (p := ⟨w.heap.size, 2, none⟩) (fun _ => rfl) _).drew⟩
      case measure => simp [intOf]
    · simp only [S4.mix, Nat.lt_irrefl, Nat.zero_lt_one, if_true, if_false, Nat.not_lt_zero, Nat.reduceLT] at c0 c1 c2 c3
      go_wp2_with fail
      go_still_tail 6, (by kernel_rfl)
      change wpList _ _ _ _ _ wr.drew
      go_wp2
      go_roundw
      case rel => exact ⟨4, by go_num, by omega, heap_setCell_at HH.out 3 (.int .u64 (bits .or .u64 s.d t.d)), (FR.out.setCell (p := ⟨w.heap.size, 3, none⟩) (fun _ => rfl) _).drew⟩
      case measure => simp [intOf]
    · obtain ⟨_, _, _, _, y0, y1, y2, y3⟩ := cellS HHC.out
      obtain ⟨x0, x1, x2, x3, _⟩ := cellS HHC.out
      have FW := Lib.hid (F0.out.trans FR.out (fun i hi e => by omega))
      simp only [S4.mix, Nat.lt_irrefl, Nat.zero_lt_one, if_true, if_false, Nat.not_lt_zero, Nat.reduceLT] at c0 c1 c2 c3
      go_wp2
      (try simp only [Exit.inBlock, Exit.then])
      exact bodyPost_ret (results_set (s := s.or t) rfl rfl (setFour_heap HHC.out _ _ _ _)) rfl ⟨rfl, setFour_fr FW.out (by omega) _ _ _ _⟩

end Go.Proofs.YtpcpmjaphjkphaaDoor

/-
  Words of 64 bits, as numbers and as bits; sets as four words. No walk.
-/
namespace Go.Proofs.YtpcpmjaphjkphaaDoor
open Go.RowKit

/-- A word's bits. -/
def wd (x : Int) : BitVec 64 := BitVec.ofInt 64 x
/-- A word that fits. -/
def Fit (x : Int) : Prop := 0 ≤ x ∧ x < 18446744073709551616

theorem fit_of_wf {x : Int} (h : (Lit.int .u64 x).wf = true) : Fit x := by
  simp [Lit.wf, IntKind.min, IntKind.max, IntKind.signed, IntKind.bits] at h; exact ⟨h.1, by omega⟩
theorem fit_nat (b : BitVec 64) : Fit (b.toNat : Int) := ⟨by omega, by have := b.isLt; omega⟩
theorem wd_nat (b : BitVec 64) : wd (b.toNat : Int) = b := by unfold wd; simp
theorem wd_val {x : Int} (h : Fit x) : ((wd x).toNat : Int) = x := by
  unfold wd
  rw [BitVec.toNat_ofInt]
  have := h.1; have := h.2
  simp only [Nat.reducePow]
  omega
theorem wd_inj {x y : Int} (hx : Fit x) (hy : Fit y) (h : wd x = wd y) : x = y := by rw [← wd_val hx, ← wd_val hy, h]
theorem wrap_nat (b : BitVec 64) : IntKind.u64.wrap (b.toNat : Int) = (b.toNat : Int) := by
  have := b.isLt
  simp only [IntKind.wrap, IntKind.bits, IntKind.signed]
  simp
  omega
theorem bits_and (x y : Int) : bits .and .u64 x y = ((wd x &&& wd y).toNat : Int) := wrap_nat _
theorem bits_or (x y : Int) : bits .or .u64 x y = ((wd x ||| wd y).toNat : Int) := wrap_nat _
theorem bits_xor (x y : Int) : bits .xor .u64 x y = ((wd x ^^^ wd y).toNat : Int) := wrap_nat _
theorem wd_and (x y : Int) : wd (bits .and .u64 x y) = wd x &&& wd y := by rw [bits_and, wd_nat]
theorem wd_or (x y : Int) : wd (bits .or .u64 x y) = wd x ||| wd y := by rw [bits_or, wd_nat]
theorem fit_bits (op : BinOp) (x y : Int) : Fit (bits op .u64 x y) := fit_of_wf (wf_bits op .u64 x y)
theorem wd_max : wd IntKind.u64.max = BitVec.allOnes 64 := by decide
theorem wd_not (x : Int) : wd (bits .xor .u64 IntKind.u64.max x) = ~~~ wd x := by
  rw [bits_xor, wd_nat, wd_max, BitVec.allOnes_xor]

/-- Is bit n in a word? -/
theorem bit_and {x : Int} (h : Fit x) {n : Nat} (hn : n < 64) : (bits .and .u64 (x / 2 ^ n) 1 == 1) = (wd x).getLsbD n := by
  have hx := wd_val h
  obtain ⟨b, hb⟩ : ∃ b, wd x = b := ⟨_, rfl⟩
  rw [hb] at hx ⊢
  subst hx
  rw [bits_and]
  have hd : ((b.toNat : Int) / 2 ^ n) = (((b >>> n).toNat : Nat) : Int) := by
    rw [BitVec.toNat_ushiftRight, Nat.shiftRight_eq_div_pow]; push_cast; rfl
  rw [hd, wd_nat]
  have h1 : wd 1 = 1#64 := by decide
  rw [h1]
  have h2 : (b >>> n &&& 1#64).toNat = if b.getLsbD n then 1 else 0 := by
    rw [BitVec.toNat_and, BitVec.toNat_ushiftRight]
    simp only [BitVec.toNat_ofNat, Nat.reducePow, Nat.reduceMod]
    rw [Nat.and_one_is_mod, Nat.shiftRight_eq_div_pow, BitVec.getLsbD, Nat.testBit_eq_decide_div_mod_eq]
    split <;> simp_all <;> omega
  rw [h2]
  cases b.getLsbD n <;> simp
theorem bit_mod {x : Int} (h : Fit x) {n : Nat} (hn : n < 64) : ((x / 2 ^ n) % 2 == 1) = (wd x).getLsbD n := by
  have hx := wd_val h
  obtain ⟨b, hb⟩ : ∃ b, wd x = b := ⟨_, rfl⟩
  rw [hb] at hx ⊢
  subst hx
  rw [BitVec.getLsbD, Nat.testBit_eq_decide_div_mod_eq]
  rw [Bool.eq_iff_iff]
  simp only [beq_iff_eq, decide_eq_true_eq]
  have : ((b.toNat : Int) / 2 ^ n) = ((b.toNat / 2 ^ n : Nat) : Int) := by push_cast; rfl
  rw [this]; omega
theorem bit_tmod {x : Int} (h : Fit x) {n : Nat} (hn : n < 64) : ((x / 2 ^ n).tmod 2 == 1) = (wd x).getLsbD n := by
  rw [Int.tmod_eq_emod_of_nonneg (Int.ediv_nonneg h.1 (Int.le_of_lt (Int.pow_pos (by decide)))), bit_mod h hn]

end Go.Proofs.YtpcpmjaphjkphaaDoor

/-
  Walks of package octet, and of the document's: Has, Not; And, Or, With of the document.
-/
namespace Go.Proofs.YtpcpmjaphjkphaaDoor
open Go.RowKit

/-- Do all four words fit? -/
def S4.fit (s : S4) : Prop := Fit s.a ∧ Fit s.b ∧ Fit s.c ∧ Fit s.d
/-- The word that tells of a byte. -/
def S4.word (s : S4) (d : Nat) : Int := match d / 64 with
  | 0 => s.a
  | 1 => s.b
  | 2 => s.c
  | _ => s.d
/-- Is a byte in a set? -/
def S4.has (s : S4) (d : Nat) : Bool := (wd (s.word d)).getLsbD (d % 64)
def S4.not (s : S4) : S4 := ⟨bits .xor .u64 IntKind.u64.max s.a, bits .xor .u64 IntKind.u64.max s.b, bits .xor .u64 IntKind.u64.max s.c, bits .xor .u64 IntKind.u64.max s.d⟩

set_option maxRecDepth 100000 in
set_option maxHeartbeats 1000000 in
theorem has_any (s : S4) (d : Nat) (w : World) (hs : s.fit) (hd : d < 256) :
    Calls Tryd.prog 23 #[.agg s.cells.toArray, .int .u8 d] w fun e w' => e = .returned (.bool (s.has d)) ∧ Fr nob w w' := by
  rw [S4.cells_eq s]
  have hdiv : Int.tdiv (d : Int) 64 = ((d / 64 : Nat) : Int) := (Int.ofNat_tdiv d 64).symm
  have hmod : Int.tmod (d : Int) 64 = ((d % 64 : Nat) : Int) := (Int.ofNat_tmod d 64).symm
  have hq : d / 64 = 0 ∨ d / 64 = 1 ∨ d / 64 = 2 ∨ d / 64 = 3 := by omega
  have hr : d % 64 < 64 := by omega
  have w0 : IntKind.u8.wrap 0 = 0 := by decide
  have w1 : IntKind.u8.wrap 1 = 1 := by decide
  have w2 : IntKind.u8.wrap 2 = 2 := by decide
  have w3 : IntKind.u8.wrap 3 = 3 := by decide
  have wm : IntKind.u8.wrap ((d % 64 : Nat) : Int) = ((d % 64 : Nat) : Int) := IntWalk.u8_in _ (by omega)
  have wm' : IntKind.u8.wrap ((d : Int) % 64) = ((d % 64 : Nat) : Int) := by rw [show (d : Int) % 64 = ((d % 64 : Nat) : Int) by omega]; exact wm
  have HS := Lib.hid hs; clear hs
  obtain ⟨p0, p1, p2, p3⟩ := HS.out
  have n0 : 0 ≤ s.a := p0.1
  have n1 : 0 ≤ s.b := p1.1
  have n2 : 0 ≤ s.c := p2.1
  have n3 : 0 ≤ s.d := p3.1
  clear p0 p1 p2 p3
  rcases hq with hq | hq | hq | hq
  · have HH := Lib.hid (show s.has d = (wd s.a).getLsbD (d % 64) by unfold S4.has S4.word; rw [hq]; rfl)
    have HB := Lib.hid (bit_and HS.out.1 hr)
    rw [hq] at hdiv
    clear hq
    go_enter Tryd.func23, Tryd.ntmps23
    go_wp2
    go_ret
    exact ⟨ret_bool (by rw [HH.out]; exact HB.out), (Fr.refl _ _).alloc _⟩
  · have HH := Lib.hid (show s.has d = (wd s.b).getLsbD (d % 64) by unfold S4.has S4.word; rw [hq]; rfl)
    have HB := Lib.hid (bit_and HS.out.2.1 hr)
    rw [hq] at hdiv
    clear hq
    go_enter Tryd.func23, Tryd.ntmps23
    go_wp2
    go_ret
    exact ⟨ret_bool (by rw [HH.out]; exact HB.out), (Fr.refl _ _).alloc _⟩
  · have HH := Lib.hid (show s.has d = (wd s.c).getLsbD (d % 64) by unfold S4.has S4.word; rw [hq]; rfl)
    have HB := Lib.hid (bit_and HS.out.2.2.1 hr)
    rw [hq] at hdiv
    clear hq
    go_enter Tryd.func23, Tryd.ntmps23
    go_wp2
    go_ret
    exact ⟨ret_bool (by rw [HH.out]; exact HB.out), (Fr.refl _ _).alloc _⟩
  · have HH := Lib.hid (show s.has d = (wd s.d).getLsbD (d % 64) by unfold S4.has S4.word; rw [hq]; rfl)
    have HB := Lib.hid (bit_and HS.out.2.2.2 hr)
    rw [hq] at hdiv
    clear hq
    go_enter Tryd.func23, Tryd.ntmps23
    go_wp2
    go_ret
    exact ⟨ret_bool (by rw [HH.out]; exact HB.out), (Fr.refl _ _).alloc _⟩

set_option maxRecDepth 100000 in
set_option maxHeartbeats 1000000 in
theorem hasR_any (s : S4) (d : Nat) (w : World) (hs : s.fit) (hd : d < 256) :
    Calls Tryd.prog 32 #[.agg s.cells.toArray, .int .u8 d] w fun e w' => e = .returned (.bool (s.has d)) ∧ Fr nob w w' := by
  rw [S4.cells_eq s]
  have hdiv : Int.tdiv (d : Int) 64 = ((d / 64 : Nat) : Int) := (Int.ofNat_tdiv d 64).symm
  have hmod : Int.tmod (d : Int) 64 = ((d % 64 : Nat) : Int) := (Int.ofNat_tmod d 64).symm
  have hq : d / 64 = 0 ∨ d / 64 = 1 ∨ d / 64 = 2 ∨ d / 64 = 3 := by omega
  have hr : d % 64 < 64 := by omega
  have w0 : IntKind.u8.wrap 0 = 0 := by decide
  have w1 : IntKind.u8.wrap 1 = 1 := by decide
  have w2 : IntKind.u8.wrap 2 = 2 := by decide
  have w3 : IntKind.u8.wrap 3 = 3 := by decide
  have wm : IntKind.u8.wrap ((d % 64 : Nat) : Int) = ((d % 64 : Nat) : Int) := IntWalk.u8_in _ (by omega)
  have wm' : IntKind.u8.wrap ((d : Int) % 64) = ((d % 64 : Nat) : Int) := by rw [show (d : Int) % 64 = ((d % 64 : Nat) : Int) by omega]; exact wm
  have HS := Lib.hid hs; clear hs
  obtain ⟨p0, p1, p2, p3⟩ := HS.out
  have n0 : 0 ≤ s.a := p0.1
  have n1 : 0 ≤ s.b := p1.1
  have n2 : 0 ≤ s.c := p2.1
  have n3 : 0 ≤ s.d := p3.1
  clear p0 p1 p2 p3
  rcases hq with hq | hq | hq | hq
  · have HH := Lib.hid (show s.has d = (wd s.a).getLsbD (d % 64) by unfold S4.has S4.word; rw [hq]; rfl)
    have HB := Lib.hid (bit_tmod HS.out.1 hr)
    rw [hq] at hdiv
    clear hq
    go_enter Tryd.func32, Tryd.ntmps32
    go_wp2
    go_ret
    exact ⟨ret_bool (by rw [HH.out]; exact HB.out), (Fr.refl _ _).alloc _⟩
  · have HH := Lib.hid (show s.has d = (wd s.b).getLsbD (d % 64) by unfold S4.has S4.word; rw [hq]; rfl)
    have HB := Lib.hid (bit_tmod HS.out.2.1 hr)
    rw [hq] at hdiv
    clear hq
    go_enter Tryd.func32, Tryd.ntmps32
    go_wp2
    go_ret
    exact ⟨ret_bool (by rw [HH.out]; exact HB.out), (Fr.refl _ _).alloc _⟩
  · have HH := Lib.hid (show s.has d = (wd s.c).getLsbD (d % 64) by unfold S4.has S4.word; rw [hq]; rfl)
    have HB := Lib.hid (bit_tmod HS.out.2.2.1 hr)
    rw [hq] at hdiv
    clear hq
    go_enter Tryd.func32, Tryd.ntmps32
    go_wp2
    go_ret
    exact ⟨ret_bool (by rw [HH.out]; exact HB.out), (Fr.refl _ _).alloc _⟩
  · have HH := Lib.hid (show s.has d = (wd s.d).getLsbD (d % 64) by unfold S4.has S4.word; rw [hq]; rfl)
    have HB := Lib.hid (bit_tmod HS.out.2.2.2 hr)
    rw [hq] at hdiv
    clear hq
    go_enter Tryd.func32, Tryd.ntmps32
    go_wp2
    go_ret
    exact ⟨ret_bool (by rw [HH.out]; exact HB.out), (Fr.refl _ _).alloc _⟩

/-- Two variables: a set, and a result. -/
abbrev bx2 (w : World) (s : S4) (T : TypeId) : World := (w.alloc (.cells s.cells.toArray T)).alloc (.cells S4.zero.cells.toArray T)
theorem bx2_fr (w : World) (s : S4) (T : TypeId) : Fr nob w (bx2 w s T) := ((Fr.refl _ _).alloc _).alloc _
theorem bx2_a (w : World) (s : S4) (T : TypeId) : (bx2 w s T).heap[w.heap.size]? = some (.cells s.cells.toArray T (0, 0)) := heap_alloc_lt _ (heap_alloc_new _ _)
theorem bx2_b (w : World) (s : S4) (T : TypeId) : (bx2 w s T).heap[w.heap.size + 1]? = some (.cells S4.zero.cells.toArray T (0, 0)) := by
  have := heap_alloc_new (w.alloc (.cells s.cells.toArray T)) (.cells S4.zero.cells.toArray T); simpa using this
theorem bx2_size (w : World) (s : S4) (T : TypeId) : (bx2 w s T).heap.size = w.heap.size + 2 := by simp
def S4.mix1 (f : Int → Int) (k : Nat) (s : S4) : S4 :=
  ⟨if 0 < k then f s.a else s.a, if 1 < k then f s.b else s.b, if 2 < k then f s.c else s.c, if 3 < k then f s.d else s.d⟩

set_option maxRecDepth 100000 in
set_option maxHeartbeats 1000000 in
theorem not_any (s : S4) (w : World) :
    Calls Tryd.prog 86 #[.agg s.cells.toArray] w fun e w' => e = .returned (.agg s.not.cells.toArray) ∧ Fr nob w w' := by
  have HA := Lib.hid (bx2_a w s 37); have HC := Lib.hid (bx2_b w s 37)
  have F0 := Lib.hid (bx2_fr w s 37)
  have hsz := Lib.hid (bx2_size w s 37)
  rw [S4.cells_eq s]
  go_enter Tryd.func86, Tryd.ntmps86
  go_wp2_with fail
  obtain ⟨w0, hw0⟩ : ∃ w0, w0 = bx2 w s 37 := ⟨_, rfl⟩
  change Code.wp _ _ _ _ (bx2 w s 37)
  rw [← hw0] at HA HC F0 hsz ⊢
  clear hw0
  go_loopw [4] (fun i wr => ∃ k : Nat, i = .int .i64 k ∧ k ≤ 4 ∧ wr.heap[w.heap.size]? = some (.cells (S4.mix1 (bits .xor .u64 IntKind.u64.max) k s).cells.toArray 37 (0, 0)) ∧ Fr (fun j => j = w.heap.size) w0 wr) (fun i _ => 4 - (intOf i).toNat)
  case atStart => exact ⟨0, rfl, by omega, HA.out, Fr.refl _ _⟩
  case round =>
    obtain ⟨k, rfl, hk, hh, fr⟩ := hrel
    have hhc := fr.heap HC.out (by omega)
    obtain ⟨c0, c1, c2, c3, z0, z1, z2, z3⟩ := cellS hh
    have HH := Lib.hid hh; have FR := Lib.hid fr; have HHC := Lib.hid hhc
    clear hh fr hhc
    have hkk : k = 0 ∨ k = 1 ∨ k = 2 ∨ k = 3 ∨ k = 4 := by omega
    rcases hkk with rfl | rfl | rfl | rfl | rfl
    · simp only [S4.mix1, Nat.lt_irrefl, Nat.zero_lt_one, if_true, if_false, Nat.not_lt_zero, Nat.reduceLT] at c0 c1 c2 c3
      go_wp2
      go_roundw
      case rel => exact ⟨1, by go_num, by omega, heap_setCell_at HH.out 0 (.int .u64 (bits .xor .u64 IntKind.u64.max s.a)), (FR.out.setCell (p := ⟨w.heap.size, 0, none⟩) (fun _ => rfl) _)⟩
      case measure => simp [intOf]
    · simp only [S4.mix1, Nat.lt_irrefl, Nat.zero_lt_one, if_true, if_false, Nat.not_lt_zero, Nat.reduceLT] at c0 c1 c2 c3
      go_wp2
      go_roundw
      case rel => exact ⟨2, by go_num, by omega, heap_setCell_at HH.out 1 (.int .u64 (bits .xor .u64 IntKind.u64.max s.b)), (FR.out.setCell (p := ⟨w.heap.size, 1, none⟩) (fun _ => rfl) _)⟩
      case measure => simp [intOf]
    · simp only [S4.mix1, Nat.lt_irrefl, Nat.zero_lt_one, if_true, if_false, Nat.not_lt_zero, Nat.reduceLT] at c0 c1 c2 c3
      go_wp2
      go_roundw
      case rel => exact ⟨3, by go_num, by omega, heap_setCell_at HH.out 2 (.int .u64 (bits .xor .u64 IntKind.u64.max s.c)), (FR.out.setCell (p := ⟨w.heap.size, 2, none⟩) (fun _ => rfl) _)⟩
      case measure => simp [intOf]
    · simp only [S4.mix1, Nat.lt_irrefl, Nat.zero_lt_one, if_true, if_false, Nat.not_lt_zero, Nat.reduceLT] at c0 c1 c2 c3
      go_wp2
      go_roundw
      case rel => exact ⟨4, by go_num, by omega, heap_setCell_at HH.out 3 (.int .u64 (bits .xor .u64 IntKind.u64.max s.d)), (FR.out.setCell (p := ⟨w.heap.size, 3, none⟩) (fun _ => rfl) _)⟩
      case measure => simp [intOf]
    · obtain ⟨x0, x1, x2, x3, y0, y1, y2, y3⟩ := cellS HHC.out
      have FW := Lib.hid (F0.out.trans FR.out (fun i hi e => by omega))
      simp only [S4.mix1, Nat.lt_irrefl, Nat.zero_lt_one, if_true, if_false, Nat.not_lt_zero, Nat.reduceLT] at c0 c1 c2 c3
      go_wp2
      (try simp only [Exit.inBlock, Exit.then])
      exact bodyPost_ret (results_set (s := s.not) rfl rfl (setFour_heap HHC.out _ _ _ _)) rfl ⟨rfl, setFour_fr FW.out (by omega) _ _ _ _⟩

/-- A set of the document's that is handed back out of a variable. -/
theorem results_setR {fn : Func} {p : Tmp} (h : fn.results = #[.cell p 48]) {tmps : Array Value} {r : Nat} (ht : tmps.getD p undef = .pointer (some ⟨r, 0, none⟩)) {W : World} {s : S4}
    (hb : W.heap[r]? = some (.cells s.cells.toArray 48 (0, 0))) : (results fn tmps).run Tryd.prog W = .ok (.agg s.cells.toArray) W := by
  obtain ⟨c0, c1, c2, c3, _⟩ := cellS hb
  have ht' : tmps[p]?.getD undef = .pointer (some ⟨r, 0, none⟩) := by rw [← ht]; simp
  simp only [results, h]
  simp [ht', go_sem, c0, c1, c2, c3, S4.cells]

set_option maxRecDepth 100000 in
set_option maxHeartbeats 1000000 in
theorem notR_any (s : S4) (w : World) :
    Calls Tryd.prog 46 #[.agg s.cells.toArray] w fun e w' => e = .returned (.agg s.not.cells.toArray) ∧ Fr nob w w' := by
  rw [S4.cells_eq s]
  go_enter Tryd.func46, Tryd.ntmps46
  go_wp2
  (try simp only [Exit.inBlock, Exit.then])
  exact bodyPost_ret (results_setR (s := s.not) rfl rfl (heap_alloc_new' _ _ _ (by simp))) rfl ⟨rfl, ((Fr.refl _ _).alloc _).alloc _⟩

set_option maxRecDepth 100000 in
set_option maxHeartbeats 1000000 in
theorem andR_any (s t : S4) (w : World) :
    Calls Tryd.prog 45 #[.agg s.cells.toArray, .agg t.cells.toArray] w fun e w' => e = .returned (.agg (s.and t).cells.toArray) ∧ Fr nob w w' := by
  rw [S4.cells_eq s, S4.cells_eq t]
  go_enter Tryd.func45, Tryd.ntmps45
  go_wp2
  (try simp only [Exit.inBlock, Exit.then])
  exact bodyPost_ret (results_setR (s := s.and t) rfl rfl (heap_alloc_new' _ _ _ (by simp))) rfl ⟨rfl, (((Fr.refl _ _).alloc _).alloc _).alloc _⟩

set_option maxRecDepth 100000 in
set_option maxHeartbeats 1000000 in
theorem orR_any (s t : S4) (w : World) :
    Calls Tryd.prog 44 #[.agg s.cells.toArray, .agg t.cells.toArray] w fun e w' => e = .returned (.agg (s.or t).cells.toArray) ∧ Fr nob w w' := by
  rw [S4.cells_eq s, S4.cells_eq t]
  go_enter Tryd.func44, Tryd.ntmps44
  go_wp2
  (try simp only [Exit.inBlock, Exit.then])
  exact bodyPost_ret (results_setR (s := s.or t) rfl rfl (heap_alloc_new' _ _ _ (by simp))) rfl ⟨rfl, (((Fr.refl _ _).alloc _).alloc _).alloc _⟩

set_option maxRecDepth 100000 in
set_option maxHeartbeats 1000000 in
theorem withR_any (s : S4) (d : Nat) (w : World) (hd : d < 256) :
    Calls Tryd.prog 72 #[.agg s.cells.toArray, .int .u8 d] w fun e w' => e = .returned (.agg (s.put d).cells.toArray) ∧ Fr nob w w' := by
  rw [S4.cells_eq s]
  have hdiv : Int.tdiv (d : Int) 64 = ((d / 64 : Nat) : Int) := (Int.ofNat_tdiv d 64).symm
  have hmod : Int.tmod (d : Int) 64 = ((d % 64 : Nat) : Int) := (Int.ofNat_tmod d 64).symm
  have hq : d / 64 = 0 ∨ d / 64 = 1 ∨ d / 64 = 2 ∨ d / 64 = 3 := by omega
  have hr : d % 64 < 64 := by omega
  have w0 : IntKind.u8.wrap 0 = 0 := by decide
  have w1 : IntKind.u8.wrap 1 = 1 := by decide
  have w2 : IntKind.u8.wrap 2 = 2 := by decide
  have w3 : IntKind.u8.wrap 3 = 3 := by decide
  have wm : IntKind.u8.wrap ((d % 64 : Nat) : Int) = ((d % 64 : Nat) : Int) := IntWalk.u8_in _ (by omega)
  have wm' : IntKind.u8.wrap ((d : Int) % 64) = ((d % 64 : Nat) : Int) := by rw [show (d : Int) % 64 = ((d % 64 : Nat) : Int) by omega]; exact wm
  rcases hq with hq | hq | hq | hq
  all_goals
    have HQ := Lib.hid hq
    rw [hq] at hdiv
    clear hq
    go_enter Tryd.func72, Tryd.ntmps72
    go_wp2
    (try simp only [Exit.inBlock, Exit.then])
    refine bodyPost_ret (results_setR (s := s.put d) rfl rfl ?_) rfl ⟨rfl, ?_⟩
    · have hp : s.put d = s.put d := rfl
      unfold S4.put
      rw [HQ.out]
      exact heap_alloc_new' _ _ _ (by simp)
    · exact ((Fr.refl _ _).alloc _).alloc _

end Go.Proofs.YtpcpmjaphjkphaaDoor

/-
  How many bits a word has: the sum that math/bits reckons, byte by byte. Plain: no walk.
-/
namespace Go.Proofs.YtpcpmjaphjkphaaDoor

theorem and_split (p q M c : Nat) (hq : q < 256) (hc : c < 256) : (256 * p + q) &&& (256 * M + c) = 256 * (p &&& M) + (q &&& c) := by
  have h1 : ((256 * p + q) &&& (256 * M + c)) / 256 = p &&& M := by
    have := @Nat.and_div_two_pow (256 * p + q) (256 * M + c) 8
    rw [show (2 : Nat) ^ 8 = 256 from rfl] at this
    rw [this, show (256 * p + q) / 256 = p by omega, show (256 * M + c) / 256 = M by omega]
  have h2 : ((256 * p + q) &&& (256 * M + c)) % 256 = q &&& c := by
    have := @Nat.and_mod_two_pow (256 * p + q) (256 * M + c) 8
    rw [show (2 : Nat) ^ 8 = 256 from rfl] at this
    rw [this, show (256 * p + q) % 256 = q by omega, show (256 * M + c) % 256 = c by omega]
  omega

def pf1 (M x : Nat) : Nat := ((x / 2) &&& M) + (x &&& M)
def pf2 (M x : Nat) : Nat := ((x / 4) &&& M) + (x &&& M)
def pf3 (M x : Nat) : Nat := (x / 16 + x) &&& M

theorem low1 : ∀ (c : Fin 2) (b : Fin 256), (c.val * 128 + b.val / 2) &&& 85 = (b.val / 2) &&& 85 := by decide +kernel
theorem low2 : ∀ (c : Fin 4) (b : Fin 256), (c.val * 64 + b.val / 4) &&& 51 = (b.val / 4) &&& 51 := by decide +kernel
theorem low3 : ∀ (c : Fin 5) (b : Fin 69), (c.val * 16 + (b.val / 16 + b.val)) &&& 15 = (b.val / 16 + b.val) &&& 15 := by decide +kernel

theorem step1 (y b M : Nat) (hb : b < 256) : pf1 (256 * M + 85) (256 * y + b) = 256 * pf1 M y + pf1 85 b := by
  unfold pf1
  have h := low1 ⟨y % 2, by omega⟩ ⟨b, hb⟩
  simp only at h
  rw [show (256 * y + b) / 2 = 256 * (y / 2) + (y % 2 * 128 + b / 2) by omega, and_split _ _ _ _ (by omega) (by decide), and_split _ _ _ _ hb (by decide), h]
  omega
theorem step2 (y b M : Nat) (hb : b < 256) : pf2 (256 * M + 51) (256 * y + b) = 256 * pf2 M y + pf2 51 b := by
  unfold pf2
  have h := low2 ⟨y % 4, by omega⟩ ⟨b, hb⟩
  simp only at h
  rw [show (256 * y + b) / 4 = 256 * (y / 4) + (y % 4 * 64 + b / 4) by omega, and_split _ _ _ _ (by omega) (by decide), and_split _ _ _ _ hb (by decide), h]
  omega
theorem step3 (y b M : Nat) (hb : b < 69) (hy : y % 16 < 5) : pf3 (256 * M + 15) (256 * y + b) = 256 * pf3 M y + pf3 15 b := by
  unfold pf3
  have h := low3 ⟨y % 16, hy⟩ ⟨b, hb⟩
  simp only at h
  rw [show (256 * y + b) / 16 + (256 * y + b) = 256 * (y / 16 + y) + (y % 16 * 16 + (b / 16 + b)) by omega, and_split _ _ _ _ (by omega) (by decide), h]

/-- A byte's bits. -/
def pop8 (b : Nat) : Nat := b % 2 + b / 2 % 2 + b / 4 % 2 + b / 8 % 2 + b / 16 % 2 + b / 32 % 2 + b / 64 % 2 + b / 128 % 2
theorem pop8_eq : ∀ b : Fin 256, pf3 15 (pf2 51 (pf1 85 b.val)) = pop8 b.val := by decide +kernel
theorem pf1_lt : ∀ b : Fin 256, pf1 85 b.val < 256 := by decide +kernel
theorem pf2_lt : ∀ b : Fin 256, pf2 51 (pf1 85 b.val) < 69 := by decide +kernel
theorem pf2_low : ∀ b : Fin 256, pf2 51 (pf1 85 b.val) % 16 < 5 := by decide +kernel
theorem pop8_le : ∀ b : Fin 256, pop8 b.val ≤ 8 := by decide +kernel

/-- Eight bytes as a word. -/
def by8 (b0 b1 b2 b3 b4 b5 b6 b7 : Nat) : Nat := 256 * (256 * (256 * (256 * (256 * (256 * (256 * b7 + b6) + b5) + b4) + b3) + b2) + b1) + b0

theorem pf1_8 {b0 b1 b2 b3 b4 b5 b6 b7 : Nat} (h0 : b0 < 256) (h1 : b1 < 256) (h2 : b2 < 256) (h3 : b3 < 256) (h4 : b4 < 256) (h5 : b5 < 256) (h6 : b6 < 256) :
    pf1 6148914691236517205 (by8 b0 b1 b2 b3 b4 b5 b6 b7) = by8 (pf1 85 b0) (pf1 85 b1) (pf1 85 b2) (pf1 85 b3) (pf1 85 b4) (pf1 85 b5) (pf1 85 b6) (pf1 85 b7) := by
  unfold by8
  rw [show 6148914691236517205 = 256 * (256 * (256 * (256 * (256 * (256 * (256 * 85 + 85) + 85) + 85) + 85) + 85) + 85) + 85 from rfl]
  rw [step1 _ _ _ h0, step1 _ _ _ h1, step1 _ _ _ h2, step1 _ _ _ h3, step1 _ _ _ h4, step1 _ _ _ h5, step1 _ _ _ h6]
theorem pf2_8 {b0 b1 b2 b3 b4 b5 b6 b7 : Nat} (h0 : b0 < 256) (h1 : b1 < 256) (h2 : b2 < 256) (h3 : b3 < 256) (h4 : b4 < 256) (h5 : b5 < 256) (h6 : b6 < 256) :
    pf2 3689348814741910323 (by8 b0 b1 b2 b3 b4 b5 b6 b7) = by8 (pf2 51 b0) (pf2 51 b1) (pf2 51 b2) (pf2 51 b3) (pf2 51 b4) (pf2 51 b5) (pf2 51 b6) (pf2 51 b7) := by
  unfold by8
  rw [show 3689348814741910323 = 256 * (256 * (256 * (256 * (256 * (256 * (256 * 51 + 51) + 51) + 51) + 51) + 51) + 51) + 51 from rfl]
  rw [step2 _ _ _ h0, step2 _ _ _ h1, step2 _ _ _ h2, step2 _ _ _ h3, step2 _ _ _ h4, step2 _ _ _ h5, step2 _ _ _ h6]
theorem mod16 (y b : Nat) : (256 * y + b) % 16 = b % 16 := by omega
theorem pf3_8 {b0 b1 b2 b3 b4 b5 b6 b7 : Nat} (h0 : b0 < 69) (h1 : b1 < 69) (h2 : b2 < 69) (h3 : b3 < 69) (h4 : b4 < 69) (h5 : b5 < 69) (h6 : b6 < 69)
    (g1 : b1 % 16 < 5) (g2 : b2 % 16 < 5) (g3 : b3 % 16 < 5) (g4 : b4 % 16 < 5) (g5 : b5 % 16 < 5) (g6 : b6 % 16 < 5) (g7 : b7 % 16 < 5) :
    pf3 1085102592571150095 (by8 b0 b1 b2 b3 b4 b5 b6 b7) = by8 (pf3 15 b0) (pf3 15 b1) (pf3 15 b2) (pf3 15 b3) (pf3 15 b4) (pf3 15 b5) (pf3 15 b6) (pf3 15 b7) := by
  unfold by8
  rw [show 1085102592571150095 = 256 * (256 * (256 * (256 * (256 * (256 * (256 * 15 + 15) + 15) + 15) + 15) + 15) + 15) + 15 from rfl]
  rw [step3 _ _ _ h0 (by rw [mod16]; exact g1), step3 _ _ _ h1 (by rw [mod16]; exact g2), step3 _ _ _ h2 (by rw [mod16]; exact g3), step3 _ _ _ h3 (by rw [mod16]; exact g4), step3 _ _ _ h4 (by rw [mod16]; exact g5), step3 _ _ _ h5 (by rw [mod16]; exact g6), step3 _ _ _ h6 g7]

/-- The three first steps. -/
def swar3 (x : Nat) : Nat := pf3 1085102592571150095 (pf2 3689348814741910323 (pf1 6148914691236517205 x))
/-- The three last ones. -/
def swar6 (x : Nat) : Nat := ((x + x / 256) + (x + x / 256) / 65536) + ((x + x / 256) + (x + x / 256) / 65536) / 4294967296
/-- A word's bits. -/
def pop (x : Nat) : Nat := pop8 (x % 256) + pop8 (x / 256 % 256) + pop8 (x / 65536 % 256) + pop8 (x / 16777216 % 256) + pop8 (x / 4294967296 % 256) + pop8 (x / 1099511627776 % 256) + pop8 (x / 281474976710656 % 256) + pop8 (x / 72057594037927936 % 256)

theorem by8_of (x : Nat) (h : x < 18446744073709551616) : x = by8 (x % 256) (x / 256 % 256) (x / 65536 % 256) (x / 16777216 % 256) (x / 4294967296 % 256) (x / 1099511627776 % 256) (x / 281474976710656 % 256) (x / 72057594037927936 % 256) := by
  unfold by8; omega
theorem swar3_eq (x : Nat) (h : x < 18446744073709551616) : swar3 x = by8 (pop8 (x % 256)) (pop8 (x / 256 % 256)) (pop8 (x / 65536 % 256)) (pop8 (x / 16777216 % 256)) (pop8 (x / 4294967296 % 256)) (pop8 (x / 1099511627776 % 256)) (pop8 (x / 281474976710656 % 256)) (pop8 (x / 72057594037927936 % 256)) := by
  have hx := by8_of x h
  have l : ∀ n, n % 256 < 256 := fun n => Nat.mod_lt _ (by decide)
  have e : ∀ n, n % 256 = n % 256 → pf3 15 (pf2 51 (pf1 85 (n % 256))) = pop8 (n % 256) := fun n _ => pop8_eq ⟨n % 256, l n⟩
  have a : ∀ n, pf1 85 (n % 256) < 256 := fun n => pf1_lt ⟨n % 256, l n⟩
  have b : ∀ n, pf2 51 (pf1 85 (n % 256)) < 69 := fun n => pf2_lt ⟨n % 256, l n⟩
  have c : ∀ n, pf2 51 (pf1 85 (n % 256)) % 16 < 5 := fun n => pf2_low ⟨n % 256, l n⟩
  unfold swar3
  have h1 := pf1_8 (b7 := x / 72057594037927936 % 256) (l x) (l (x / 256)) (l (x / 65536)) (l (x / 16777216)) (l (x / 4294967296)) (l (x / 1099511627776)) (l (x / 281474976710656))
  have h2 := pf2_8 (b7 := pf1 85 (x / 72057594037927936 % 256)) (a x) (a (x / 256)) (a (x / 65536)) (a (x / 16777216)) (a (x / 4294967296)) (a (x / 1099511627776)) (a (x / 281474976710656))
  have h3 := pf3_8 (b x) (b (x / 256)) (b (x / 65536)) (b (x / 16777216)) (b (x / 4294967296)) (b (x / 1099511627776)) (b (x / 281474976710656)) (c (x / 256)) (c (x / 65536)) (c (x / 16777216)) (c (x / 4294967296)) (c (x / 1099511627776)) (c (x / 281474976710656)) (c (x / 72057594037927936))
  rw [← hx] at h1
  rw [h1, h2, h3, e x rfl, e (x / 256) rfl, e (x / 65536) rfl, e (x / 16777216) rfl, e (x / 4294967296) rfl, e (x / 1099511627776) rfl, e (x / 281474976710656) rfl, e (x / 72057594037927936) rfl]

theorem swar6_eq (c0 c1 c2 c3 c4 c5 c6 c7 : Nat) (h0 : c0 ≤ 8) (h1 : c1 ≤ 8) (h2 : c2 ≤ 8) (h3 : c3 ≤ 8) (h4 : c4 ≤ 8) (h5 : c5 ≤ 8) (h6 : c6 ≤ 8) (h7 : c7 ≤ 8) :
    swar6 (by8 c0 c1 c2 c3 c4 c5 c6 c7) % 128 = c0 + c1 + c2 + c3 + c4 + c5 + c6 + c7 ∧ swar6 (by8 c0 c1 c2 c3 c4 c5 c6 c7) < 9223372036854775808 := by
  have hx : by8 c0 c1 c2 c3 c4 c5 c6 c7 / 256 = by8 c1 c2 c3 c4 c5 c6 c7 0 := by unfold by8; omega
  have hy : by8 c0 c1 c2 c3 c4 c5 c6 c7 + by8 c1 c2 c3 c4 c5 c6 c7 0 = by8 (c0 + c1) (c1 + c2) (c2 + c3) (c3 + c4) (c4 + c5) (c5 + c6) (c6 + c7) c7 := by unfold by8; omega
  have hz : by8 (c0 + c1) (c1 + c2) (c2 + c3) (c3 + c4) (c4 + c5) (c5 + c6) (c6 + c7) c7 / 65536 = by8 (c2 + c3) (c3 + c4) (c4 + c5) (c5 + c6) (c6 + c7) c7 0 0 := by unfold by8; omega
  have hu : by8 (c0 + c1) (c1 + c2) (c2 + c3) (c3 + c4) (c4 + c5) (c5 + c6) (c6 + c7) c7 + by8 (c2 + c3) (c3 + c4) (c4 + c5) (c5 + c6) (c6 + c7) c7 0 0 = by8 (c0 + c1 + (c2 + c3)) (c1 + c2 + (c3 + c4)) (c2 + c3 + (c4 + c5)) (c3 + c4 + (c5 + c6)) (c4 + c5 + (c6 + c7)) (c5 + c6 + c7) (c6 + c7) c7 := by unfold by8; omega
  have hv : by8 (c0 + c1 + (c2 + c3)) (c1 + c2 + (c3 + c4)) (c2 + c3 + (c4 + c5)) (c3 + c4 + (c5 + c6)) (c4 + c5 + (c6 + c7)) (c5 + c6 + c7) (c6 + c7) c7 / 4294967296 = by8 (c4 + c5 + (c6 + c7)) (c5 + c6 + c7) (c6 + c7) c7 0 0 0 0 := by unfold by8; omega
  unfold swar6
  rw [hx, hy, hz, hu, hv]
  unfold by8
  constructor <;> omega

theorem swar_eq (x : Nat) (h : x < 18446744073709551616) : swar6 (swar3 x) % 128 = pop x ∧ swar6 (swar3 x) < 9223372036854775808 := by
  have l : ∀ n, pop8 (n % 256) ≤ 8 := fun n => pop8_le ⟨n % 256, Nat.mod_lt _ (by decide)⟩
  rw [swar3_eq x h]
  exact swar6_eq _ _ _ _ _ _ _ _ (l _) (l _) (l _) (l _) (l _) (l _) (l _) (l _)

end Go.Proofs.YtpcpmjaphjkphaaDoor

/-
  Walks: OnesCount64; Len of both sides.
-/
namespace Go.Proofs.YtpcpmjaphjkphaaDoor
open Go.RowKit

theorem and_nat (a m : Nat) (ha : a < 18446744073709551616) (hm : m < 18446744073709551616) : bits .and .u64 (a : Int) (m : Int) = ((a &&& m : Nat) : Int) := by
  rw [bits_and]
  have h1 : wd (a : Int) = BitVec.ofNat 64 a := by unfold wd; simp
  have h2 : wd (m : Int) = BitVec.ofNat 64 m := by unfold wd; simp
  rw [h1, h2, BitVec.toNat_and, BitVec.toNat_ofNat, BitVec.toNat_ofNat, Nat.mod_eq_of_lt (by simpa using ha), Nat.mod_eq_of_lt (by simpa using hm)]
theorem wrap_small (a : Nat) (ha : a < 18446744073709551616) : IntKind.u64.wrap (a : Int) = (a : Int) := by
  have := wrap_nat (BitVec.ofNat 64 a)
  rw [BitVec.toNat_ofNat, Nat.mod_eq_of_lt (by simpa using ha)] at this
  exact this
theorem wrap_small' (a : Nat) (ha : a < 9223372036854775808) : IntKind.i64.wrap (a : Int) = (a : Int) := by
  simp only [IntKind.wrap, IntKind.bits, IntKind.signed]
  simp
  omega
theorem and_127 (a : Nat) (ha : a < 9223372036854775808) : bits .and .i64 (a : Int) 127 = ((a % 128 : Nat) : Int) := by
  have h1 : BitVec.ofInt 64 (a : Int) = BitVec.ofNat 64 a := by simp
  have h2 : BitVec.ofInt 64 127 = BitVec.ofNat 64 127 := by decide
  show IntKind.i64.wrap (((BitVec.ofInt 64 (a : Int)) &&& (BitVec.ofInt 64 127)).toNat : Int) = _
  rw [h1, h2, BitVec.toNat_and, BitVec.toNat_ofNat, BitVec.toNat_ofNat, Nat.mod_eq_of_lt (by simp; omega)]
  have h3 : a &&& 127 % 2 ^ 64 = a % 128 := by
    have := Nat.and_two_pow_sub_one_eq_mod a 7
    simpa using this
  rw [h3]
  exact wrap_small' _ (by omega)

/-- How many bytes a set has. -/
def S4.len (s : S4) : Nat := pop s.a.toNat + pop s.b.toNat + pop s.c.toNat + pop s.d.toNat
def S4.lenTo (k : Nat) (s : S4) : Nat := (if 0 < k then pop s.a.toNat else 0) + (if 1 < k then pop s.b.toNat else 0) + (if 2 < k then pop s.c.toNat else 0) + (if 3 < k then pop s.d.toNat else 0)
theorem pop8_le' (n : Nat) : pop8 n ≤ 8 := by unfold pop8; omega
theorem pop_le (n : Nat) : pop n ≤ 64 := by
  have h := fun k => pop8_le' (n / k % 256)
  have := pop8_le' (n % 256); have := h 256; have := h 65536; have := h 16777216; have := h 4294967296; have := h 1099511627776; have := h 281474976710656; have := h 72057594037927936
  unfold pop; omega
theorem S4.len_le (s : S4) : s.len ≤ 256 := by
  have := pop_le s.a.toNat; have := pop_le s.b.toNat; have := pop_le s.c.toNat; have := pop_le s.d.toNat
  unfold S4.len; omega

end Go.Proofs.YtpcpmjaphjkphaaDoor

/-
  Counting a set's bytes one by one is what the bits' sum is. Plain: no walk.
-/
namespace Go.Proofs.YtpcpmjaphjkphaaDoor

/-- How many below k are so. -/
def cntTo (f : Nat → Bool) : Nat → Nat
  | 0 => 0
  | k + 1 => cntTo f k + (if f k = true then 1 else 0)
theorem cntTo_le (f : Nat → Bool) (k : Nat) : cntTo f k ≤ k := by
  induction k with
  | zero => exact Nat.le_refl _
  | succ k ih => simp only [cntTo]; split <;> omega
theorem cntTo_add (f : Nat → Bool) (a b : Nat) : cntTo f (a + b) = cntTo f a + cntTo (fun i => f (a + i)) b := by
  induction b with
  | zero => rfl
  | succ b ih => rw [← Nat.add_assoc]; simp only [cntTo, ih]; omega
theorem cntTo_congr {f g : Nat → Bool} {k : Nat} (h : ∀ i, i < k → f i = g i) : cntTo f k = cntTo g k := by
  induction k with
  | zero => rfl
  | succ k ih => simp only [cntTo, ih (fun i hi => h i (by omega)), h k (by omega)]

theorem bit_if (m k : Nat) : (if decide (m / k % 2 = 1) = true then 1 else 0) = m / k % 2 := by
  by_cases h : m / k % 2 = 1
  · simp [h]
  · have : m / k % 2 = 0 := by omega
    simp [this]
theorem cnt8 (m : Nat) : cntTo (fun i => decide (m / 2 ^ i % 2 = 1)) 8 = pop8 (m % 256) := by
  simp only [cntTo, bit_if]
  unfold pop8
  simp only [Nat.reducePow]
  omega
theorem cnt64 (n : Nat) (_h : n < 18446744073709551616) : cntTo (fun i => decide (n / 2 ^ i % 2 = 1)) 64 = pop n := by
  have st : ∀ (m : Nat) (k : Nat), cntTo (fun i => decide (m / 2 ^ i % 2 = 1)) (8 + k) = pop8 (m % 256) + cntTo (fun i => decide (m / 256 / 2 ^ i % 2 = 1)) k := by
    intro m k
    rw [cntTo_add, cnt8]
    congr 1
    refine cntTo_congr fun i _ => ?_
    rw [Nat.div_div_eq_div_mul, show 2 ^ (8 + i) = 256 * 2 ^ i by rw [Nat.pow_add]]
  rw [show 64 = 8 + (8 + (8 + (8 + (8 + (8 + (8 + (8 + 0))))))) from rfl, st, st, st, st, st, st, st, st]
  simp only [cntTo, Nat.div_div_eq_div_mul]
  unfold pop
  simp only [Nat.reduceMul]
  omega

theorem wd_bit (n i : Nat) (hn : n < 18446744073709551616) (_hi : i < 64) : (wd (n : Int)).getLsbD i = decide (n / 2 ^ i % 2 = 1) := by
  have h1 : wd (n : Int) = BitVec.ofNat 64 n := by unfold wd; simp
  rw [h1, BitVec.getLsbD, BitVec.toNat_ofNat, Nat.mod_eq_of_lt (by simpa using hn), Nat.testBit_eq_decide_div_mod_eq]
theorem cnt_word {x : Int} (h : Fit x) : cntTo (fun i => (wd x).getLsbD i) 64 = pop x.toNat := by
  obtain ⟨n, rfl⟩ := Int.eq_ofNat_of_zero_le h.1
  have hn : n < 18446744073709551616 := by have := h.2; omega
  rw [cntTo_congr (fun i hi => wd_bit n i hn hi), cnt64 n hn]
  simp
/-- A set's bytes, counted. -/
theorem cnt_set {s : S4} (h : s.fit) : cntTo s.has 256 = s.len := by
  obtain ⟨h0, h1, h2, h3⟩ := h
  have e0 : cntTo (fun i => s.has i) 64 = pop s.a.toNat := by
    rw [← cnt_word h0]; refine cntTo_congr fun i hi => ?_
    unfold S4.has S4.word; rw [show i / 64 = 0 by omega, show i % 64 = i by omega]; rfl
  have e1 : cntTo (fun i => s.has (64 + i)) 64 = pop s.b.toNat := by
    rw [← cnt_word h1]; refine cntTo_congr fun i hi => ?_
    unfold S4.has S4.word; rw [show (64 + i) / 64 = 1 by omega, show (64 + i) % 64 = i by omega]; rfl
  have e2 : cntTo (fun i => s.has (64 + (64 + i))) 64 = pop s.c.toNat := by
    rw [← cnt_word h2]; refine cntTo_congr fun i hi => ?_
    unfold S4.has S4.word; rw [show (64 + (64 + i)) / 64 = 2 by omega, show (64 + (64 + i)) % 64 = i by omega]; rfl
  have e3 : cntTo (fun i => s.has (64 + (64 + (64 + i)))) 64 = pop s.d.toNat := by
    rw [← cnt_word h3]; refine cntTo_congr fun i hi => ?_
    unfold S4.has S4.word; rw [show (64 + (64 + (64 + i))) / 64 = 3 by omega, show (64 + (64 + (64 + i))) % 64 = i by omega]; rfl
  rw [show 256 = 64 + (64 + (64 + 64)) from rfl, cntTo_add, cntTo_add, cntTo_add]
  show cntTo (fun i => s.has i) 64 + _ = _
  rw [e0, e1, e2, e3]
  unfold S4.len; omega

end Go.Proofs.YtpcpmjaphjkphaaDoor

/-
  Walks: Len of the document; Span of both sides.
-/
namespace Go.Proofs.YtpcpmjaphjkphaaDoor
open Go.RowKit

theorem C4s {w : World} {b : Nat} {s : S4} {T : TypeId} (h : w.heap[b]? = some (.cells s.cells.toArray T (0, 0))) (w' : World) (f : Fr nob w w') :
    w'.cell? ⟨b, 0, none⟩ = some (.int .u64 s.a) ∧ w'.cell? ⟨b, 1, none⟩ = some (.int .u64 s.b) ∧ w'.cell? ⟨b, 2, none⟩ = some (.int .u64 s.c) ∧ w'.cell? ⟨b, 3, none⟩ = some (.int .u64 s.d) := by
  obtain ⟨c0, c1, c2, c3, _⟩ := cellS (f.heap h (fun x => x))
  exact ⟨c0, c1, c2, c3⟩

end Go.Proofs.YtpcpmjaphjkphaaDoor

/-
  Walks: the predicates of the classes.
-/
namespace Go.Proofs.YtpcpmjaphjkphaaDoor
open Go.RowKit

/-- A function of the program that answers a predicate of signs. -/
def IsRune (f : FuncId) (p : Int → Bool) : Prop := ∀ (r : Int) (w : World), Calls Tryd.prog f #[.int .i32 r] w fun e w' => e = .returned (.bool (p r)) ∧ w = w'

def btw (r a b : Int) : Bool := decide (a ≤ r) && decide (r ≤ b)

set_option maxRecDepth 100000 in
theorem between_any (r a b : Int) (w : World) : Calls Tryd.prog 57 #[.int .i32 r, .int .i32 a, .int .i32 b] w fun e w' => e = .returned (.bool (btw r a b)) ∧ w = w' := by
  by_cases h1 : a ≤ r
  · by_cases h2 : r ≤ b
    · have HB := Lib.hid (show btw r a b = true by simp [btw, h1, h2])
      go_enter Tryd.func57, Tryd.ntmps57
      go_wp2
      go_ret
      exact ⟨ret_bool (by rw [HB.out]), rfl⟩
    · have HB := Lib.hid (show btw r a b = false by simp [btw, h2])
      go_enter Tryd.func57, Tryd.ntmps57
      go_wp2
      go_ret
      exact ⟨ret_bool (by rw [HB.out]), rfl⟩
  · have HB := Lib.hid (show btw r a b = false by simp [btw, h1])
    go_enter Tryd.func57, Tryd.ntmps57
    go_wp2
    go_ret
    exact ⟨ret_bool HB.out.symm, rfl⟩

def isLower (r : Int) : Bool := btw r 97 122
def isUpper (r : Int) : Bool := btw r 65 90
def isDigit (r : Int) : Bool := btw r 48 57
def isAlpha (r : Int) : Bool := isLower r || isUpper r
def isAlnum (r : Int) : Bool := isAlpha r || isDigit r
def isBlank (r : Int) : Bool := decide (r = 32) || decide (r = 9)
def isGraph (r : Int) : Bool := btw r 33 126
def isXdigit (r : Int) : Bool := isDigit r || btw r 65 70 || btw r 97 102
def isSpace (r : Int) : Bool := isBlank r || btw r 10 13
def isCntrl (r : Int) : Bool := decide (r < 32) || decide (r = 127)
def isPrint (r : Int) : Bool := decide (r = 32) || isGraph r
def isPunct (r : Int) : Bool := isGraph r && !isAlnum r

set_option maxRecDepth 100000 in
theorem rune_lower : IsRune 51 isLower := by
  intro r w
  go_enter Tryd.func51, Tryd.ntmps51
  go_wp2_with fail
  refine (between_any r 97 122 w).mono ?_
  rintro e w1 ⟨rfl, rfl⟩
  go_wp2
  go_ret
  exact ⟨rfl, rfl⟩
set_option maxRecDepth 100000 in
theorem rune_upper : IsRune 52 isUpper := by
  intro r w
  go_enter Tryd.func52, Tryd.ntmps52
  go_wp2_with fail
  refine (between_any r 65 90 w).mono ?_
  rintro e w1 ⟨rfl, rfl⟩
  go_wp2
  go_ret
  exact ⟨rfl, rfl⟩
set_option maxRecDepth 100000 in
theorem rune_digit : IsRune 54 isDigit := by
  intro r w
  go_enter Tryd.func54, Tryd.ntmps54
  go_wp2_with fail
  refine (between_any r 48 57 w).mono ?_
  rintro e w1 ⟨rfl, rfl⟩
  go_wp2
  go_ret
  exact ⟨rfl, rfl⟩
set_option maxRecDepth 100000 in
theorem rune_graph : IsRune 62 isGraph := by
  intro r w
  go_enter Tryd.func62, Tryd.ntmps62
  go_wp2_with fail
  refine (between_any r 33 126 w).mono ?_
  rintro e w1 ⟨rfl, rfl⟩
  go_wp2
  go_ret
  exact ⟨rfl, rfl⟩
set_option maxRecDepth 100000 in
theorem rune_Alpha : IsRune 53 isAlpha := by
  intro r w
  obtain ⟨v, hv⟩ : ∃ v, isAlpha r = v := ⟨_, rfl⟩
  rw [hv]
  have HV := Lib.hid hv; clear hv
  obtain ⟨p0, hp0⟩ : ∃ p, isLower r = p := ⟨_, rfl⟩
  have HP0 := Lib.hid hp0; clear hp0
  obtain ⟨p1, hp1⟩ : ∃ p, isUpper r = p := ⟨_, rfl⟩
  have HP1 := Lib.hid hp1; clear hp1
  have HE := Lib.hid (show v = (p0 || p1) by rw [← HV.out]; unfold isAlpha; rw [HP0.out, HP1.out])
  go_enter Tryd.func53, Tryd.ntmps53
  go_wp2_with fail
  refine (rune_lower r w).mono ?_
  rw [HP0.out]
  rintro e w1 ⟨rfl, rfl⟩
  cases p0 with
  | true =>
    go_wp2
    go_ret
    exact ⟨ret_bool (by rw [HE.out]; simp), rfl⟩
  | false =>
    go_wp2_with fail
    refine (rune_upper r w).mono ?_
    rw [HP1.out]
    rintro e w2 ⟨rfl, rfl⟩
    go_wp2
    go_ret
    exact ⟨ret_bool (by rw [HE.out]; simp), rfl⟩
set_option maxRecDepth 100000 in
theorem rune_Alnum : IsRune 55 isAlnum := by
  intro r w
  obtain ⟨v, hv⟩ : ∃ v, isAlnum r = v := ⟨_, rfl⟩
  rw [hv]
  have HV := Lib.hid hv; clear hv
  obtain ⟨p0, hp0⟩ : ∃ p, isAlpha r = p := ⟨_, rfl⟩
  have HP0 := Lib.hid hp0; clear hp0
  obtain ⟨p1, hp1⟩ : ∃ p, isDigit r = p := ⟨_, rfl⟩
  have HP1 := Lib.hid hp1; clear hp1
  have HE := Lib.hid (show v = (p0 || p1) by rw [← HV.out]; unfold isAlnum; rw [HP0.out, HP1.out])
  go_enter Tryd.func55, Tryd.ntmps55
  go_wp2_with fail
  refine (rune_Alpha r w).mono ?_
  rw [HP0.out]
  rintro e w1 ⟨rfl, rfl⟩
  cases p0 with
  | true =>
    go_wp2
    go_ret
    exact ⟨ret_bool (by rw [HE.out]; simp), rfl⟩
  | false =>
    go_wp2_with fail
    refine (rune_digit r w).mono ?_
    rw [HP1.out]
    rintro e w2 ⟨rfl, rfl⟩
    go_wp2
    go_ret
    exact ⟨ret_bool (by rw [HE.out]; simp), rfl⟩
set_option maxRecDepth 100000 in
theorem rune_Xdigit : IsRune 56 isXdigit := by
  intro r w
  obtain ⟨v, hv⟩ : ∃ v, isXdigit r = v := ⟨_, rfl⟩
  rw [hv]
  have HV := Lib.hid hv; clear hv
  obtain ⟨p0, hp0⟩ : ∃ p, isDigit r = p := ⟨_, rfl⟩
  have HP0 := Lib.hid hp0; clear hp0
  obtain ⟨p1, hp1⟩ : ∃ p, btw r 65 70 = p := ⟨_, rfl⟩
  have HP1 := Lib.hid hp1; clear hp1
  obtain ⟨p2, hp2⟩ : ∃ p, btw r 97 102 = p := ⟨_, rfl⟩
  have HP2 := Lib.hid hp2; clear hp2
  have HE := Lib.hid (show v = (p0 || p1 || p2) by rw [← HV.out]; unfold isXdigit; rw [HP0.out, HP1.out, HP2.out])
  go_enter Tryd.func56, Tryd.ntmps56
  go_wp2_with fail
  refine (rune_digit r w).mono ?_
  rw [HP0.out]
  rintro e w1 ⟨rfl, rfl⟩
  cases p0 with
  | true =>
    go_wp2
    go_ret
    exact ⟨ret_bool (by rw [HE.out]; simp), rfl⟩
  | false =>
    go_wp2_with fail
    refine (between_any r 65 70 w).mono ?_
    rw [HP1.out]
    rintro e w2 ⟨rfl, rfl⟩
    cases p1 with
    | true =>
      go_wp2
      go_ret
      exact ⟨ret_bool (by rw [HE.out]; simp), rfl⟩
    | false =>
      go_wp2_with fail
      refine (between_any r 97 102 w).mono ?_
      rw [HP2.out]
      rintro e w3 ⟨rfl, rfl⟩
      go_wp2
      go_ret
      exact ⟨ret_bool (by rw [HE.out]; simp), rfl⟩
set_option maxRecDepth 100000 in
theorem rune_blank : IsRune 58 isBlank := by
  intro r w
  by_cases h1 : r = 32
  · have HE := Lib.hid (show isBlank r = true by simp [isBlank, h1])
    subst h1
    go_enter Tryd.func58, Tryd.ntmps58
    go_wp2
    go_ret
    exact ⟨ret_bool HE.out.symm, rfl⟩
  · have h2 : (r == 32) = false := by simpa using h1
    have HE := Lib.hid (show isBlank r = (r == 9) by rw [Bool.eq_iff_iff]; simp [isBlank, h1])
    clear h1
    go_enter Tryd.func58, Tryd.ntmps58
    go_wp2
    go_ret
    exact ⟨ret_bool HE.out.symm, rfl⟩
set_option maxRecDepth 100000 in
theorem rune_Space : IsRune 59 isSpace := by
  intro r w
  obtain ⟨v, hv⟩ : ∃ v, isSpace r = v := ⟨_, rfl⟩
  rw [hv]
  have HV := Lib.hid hv; clear hv
  obtain ⟨p0, hp0⟩ : ∃ p, isBlank r = p := ⟨_, rfl⟩
  have HP0 := Lib.hid hp0; clear hp0
  obtain ⟨p1, hp1⟩ : ∃ p, btw r 10 13 = p := ⟨_, rfl⟩
  have HP1 := Lib.hid hp1; clear hp1
  have HE := Lib.hid (show v = (p0 || p1) by rw [← HV.out]; unfold isSpace; rw [HP0.out, HP1.out])
  go_enter Tryd.func59, Tryd.ntmps59
  go_wp2_with fail
  refine (rune_blank r w).mono ?_
  rw [HP0.out]
  rintro e w1 ⟨rfl, rfl⟩
  cases p0 with
  | true =>
    go_wp2
    go_ret
    exact ⟨ret_bool (by rw [HE.out]; simp), rfl⟩
  | false =>
    go_wp2_with fail
    refine (between_any r 10 13 w).mono ?_
    rw [HP1.out]
    rintro e w2 ⟨rfl, rfl⟩
    go_wp2
    go_ret
    exact ⟨ret_bool (by rw [HE.out]; simp), rfl⟩
set_option maxRecDepth 100000 in
theorem rune_Cntrl : IsRune 60 isCntrl := by
  intro r w
  by_cases h1 : r < 32
  · have HE := Lib.hid (show isCntrl r = true by simp [isCntrl, h1])
    go_enter Tryd.func60, Tryd.ntmps60
    go_wp2
    go_ret
    exact ⟨ret_bool HE.out.symm, rfl⟩
  · have HE := Lib.hid (show isCntrl r = (r == 127) by rw [Bool.eq_iff_iff]; simp [isCntrl, h1])
    go_enter Tryd.func60, Tryd.ntmps60
    go_wp2
    go_ret
    exact ⟨ret_bool HE.out.symm, rfl⟩
set_option maxRecDepth 100000 in
theorem rune_Print : IsRune 61 isPrint := by
  intro r w
  by_cases h1 : r = 32
  · have HE := Lib.hid (show isPrint r = true by simp [isPrint, h1])
    subst h1
    go_enter Tryd.func61, Tryd.ntmps61
    go_wp2
    go_ret
    exact ⟨ret_bool HE.out.symm, rfl⟩
  · have h2 : (r == 32) = false := by simpa using h1
    have HE := Lib.hid (show isPrint r = isGraph r by simp [isPrint, h1])
    clear h1
    go_enter Tryd.func61, Tryd.ntmps61
    go_wp2_with fail
    refine (rune_graph r w).mono ?_
    rintro e w1 ⟨rfl, rfl⟩
    go_wp2
    go_ret
    exact ⟨ret_bool HE.out.symm, rfl⟩
set_option maxRecDepth 100000 in
theorem rune_Punct : IsRune 63 isPunct := by
  intro r w
  obtain ⟨p, hp⟩ : ∃ p, isGraph r = p := ⟨_, rfl⟩
  obtain ⟨q, hq⟩ : ∃ q, isAlnum r = q := ⟨_, rfl⟩
  have HE := Lib.hid (show isPunct r = (p && !q) by unfold isPunct; rw [hp, hq])
  have HP := Lib.hid hp; have HQ := Lib.hid hq; clear hp hq
  go_enter Tryd.func63, Tryd.ntmps63
  go_wp2_with fail
  refine (rune_graph r w).mono ?_
  rw [HP.out]
  rintro e w1 ⟨rfl, rfl⟩
  cases p with
  | false =>
    go_wp2
    go_ret
    exact ⟨ret_bool (by rw [HE.out]; rfl), rfl⟩
  | true =>
    go_wp2_with fail
    refine (rune_Alnum r w).mono ?_
    rw [HQ.out]
    rintro e w1 ⟨rfl, rfl⟩
    go_wp2
    go_ret
    exact ⟨ret_bool (by rw [HE.out]; simp), rfl⟩

end Go.Proofs.YtpcpmjaphjkphaaDoor
