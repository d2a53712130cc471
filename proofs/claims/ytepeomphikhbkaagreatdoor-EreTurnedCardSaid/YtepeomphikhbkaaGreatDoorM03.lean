/-
  Merged texts of this claim: EqS, OctetB.
-/
import Derived.Test.YtepeomphikhbkaaGreatDoorChecked
import Derived.Laws.StructEq
import Derived.Test.YtepeomphikhbkaaGreatDoorM01

/-
  '==' of two sets, of two structs that hold one.
-/
namespace Go.Proofs.YtepeomphikhbkaaGreatDoor
open Go.RowKit

theorem all_range_int : ∀ (xs ys : List Int), xs.length = ys.length → ((List.range xs.length).all fun i => xs.getD i 0 == ys.getD i 0) = (xs == ys)
  | [], [], _ => rfl
  | x :: xs, y :: ys, h => by
    have ih := all_range_int xs ys (by simpa using h)
    rw [List.length_cons, List.range_succ_eq_map, List.all_cons, List.all_map]
    simp only [List.getD_cons_zero, Function.comp_def, List.getD_cons_succ, ih]
    simp [List.cons_beq_cons]
  | [], _ :: _, h => by simp at h
  | _ :: _, [], h => by simp at h

theorem run_equalIn_iarr {P : Program} (w : World) (k : IntKind) (d : Nat) (t e : TypeId) (n : Nat) (ht : P.underlying t = some (.array n e)) (he : P.underlying e = some (.int k)) (hsz : ∀ w, (sizeOf e).run P w = .ok 1 w)
    (xs ys : List Int) (hx : xs.length = n) (hy : ys.length = n) :
    (Op.equalIn (d + 2) t (.agg (xs.map (Value.int k)).toArray) (.agg (ys.map (Value.int k)).toArray)).run P w = .ok (xs == ys) w := by
  rw [← all_range_int xs ys (hx.trans hy.symm), hx, List.range_eq_range', Op.equalIn]
  simp only [Sem.run_bind, run_underlying ht, Result.andThen_ok, hsz, Std.Legacy.Range.forIn_eq_forIn_range', Std.Legacy.Range.size, Nat.sub_zero, Nat.add_sub_cancel, Nat.div_one]
  have hl : ∀ i ∈ List.range' 0 n 1, i < n := fun i hi => by simpa using (List.mem_range'_1.1 hi).2
  generalize List.range' 0 n 1 = l at hl ⊢
  induction l with
  | nil => simp
  | cons i l ih =>
    have hi : i < n := hl i (by simp)
    have px : (part e (xs.map (Value.int k)).toArray (i * 1)).run P w = .ok (.int k (xs.getD i 0)) w := by
      simp [part, isAgg, run_underlying he, List.getD, List.getElem?_eq_getElem (show i < xs.length by omega)]
    have py : (part e (ys.map (Value.int k)).toArray (i * 1)).run P w = .ok (.int k (ys.getD i 0)) w := by
      simp [part, isAgg, run_underlying he, List.getD, List.getElem?_eq_getElem (show i < ys.length by omega)]
    have pe : (Op.equalIn (d + 1) e (.int k (xs.getD i 0)) (.int k (ys.getD i 0))).run P w = .ok (xs.getD i 0 == ys.getD i 0) w := by
      rw [run_equalIn_int w d e k k _ _ he]
    simp only [List.forIn_cons, Sem.run_bind, px, py, pe, Result.andThen_ok, List.all_cons]
    cases hb : (xs.getD i 0 == ys.getD i 0)
    · simp
    · simp only [Bool.not_true, Bool.false_eq_true, if_false, Sem.run_pure, Result.andThen_ok, Bool.true_and]
      exact ih fun j hj => hl j (by simp [hj])

/-- Are two sets the same? -/
def S4.same (s t : S4) : Bool := decide (s = t)
theorem S4.same_iff {s t : S4} : s.same t = true ↔ s = t := by simp [S4.same]
theorem S4.same_refl (s : S4) : s.same s = true := by simp [S4.same]
theorem S4.same_ne {s t : S4} (h : s ≠ t) : s.same t = false := by simp [S4.same, h]

theorem S4.eq_list (a b c d a' b' c' d' : Int) : ([a, b, c, d] == [a', b', c', d']) = S4.same ⟨a, b, c, d⟩ ⟨a', b', c', d'⟩ := by
  rw [Bool.eq_iff_iff, S4.same_iff]; simp

/-- Two sets. -/
theorem eq_set (a b c d a' b' c' d' : Int) (k : Nat) (w : World) : (Op.equalIn (k + 2) 85 (.agg #[.int .u64 a, .int .u64 b, .int .u64 c, .int .u64 d]) (.agg #[.int .u64 a', .int .u64 b', .int .u64 c', .int .u64 d'])).run Tryz.prog w = .ok (S4.same ⟨a, b, c, d⟩ ⟨a', b', c', d'⟩) w := by
  rw [← S4.eq_list]; exact run_equalIn_iarr w .u64 k 85 29 4 Tryz.underlying85 Tryz.underlying29 (fun _ => by kernel_rfl) [a, b, c, d] [a', b', c', d'] rfl rfl
theorem eq_setS (a b c d a' b' c' d' : Int) (k : Nat) (w : World) : (Op.equalIn (k + 2) 31 (.agg #[.int .u64 a, .int .u64 b, .int .u64 c, .int .u64 d]) (.agg #[.int .u64 a', .int .u64 b', .int .u64 c', .int .u64 d'])).run Tryz.prog w = .ok (S4.same ⟨a, b, c, d⟩ ⟨a', b', c', d'⟩) w := by
  rw [← S4.eq_list]; exact run_equalIn_iarr w .u64 k 31 29 4 Tryz.underlying31 Tryz.underlying29 (fun _ => by kernel_rfl) [a, b, c, d] [a', b', c', d'] rfl rfl
theorem eq_set_9999 (a b c d a' b' c' d' : Int) (w : World) : (Op.equalIn 9999 85 (.agg #[.int .u64 a, .int .u64 b, .int .u64 c, .int .u64 d]) (.agg #[.int .u64 a', .int .u64 b', .int .u64 c', .int .u64 d'])).run Tryz.prog w = .ok (S4.same ⟨a, b, c, d⟩ ⟨a', b', c', d'⟩) w := eq_set a b c d a' b' c' d' 9997 w
attribute [go_sem] eq_set_9999
theorem eq_set_10000 (a b c d a' b' c' d' : Int) (w : World) : (Op.equalIn 10000 85 (.agg #[.int .u64 a, .int .u64 b, .int .u64 c, .int .u64 d]) (.agg #[.int .u64 a', .int .u64 b', .int .u64 c', .int .u64 d'])).run Tryz.prog w = .ok (S4.same ⟨a, b, c, d⟩ ⟨a', b', c', d'⟩) w := eq_set a b c d a' b' c' d' 9998 w
attribute [go_sem] eq_set_10000
theorem eq_setS_9999 (a b c d a' b' c' d' : Int) (w : World) : (Op.equalIn 9999 31 (.agg #[.int .u64 a, .int .u64 b, .int .u64 c, .int .u64 d]) (.agg #[.int .u64 a', .int .u64 b', .int .u64 c', .int .u64 d'])).run Tryz.prog w = .ok (S4.same ⟨a, b, c, d⟩ ⟨a', b', c', d'⟩) w := eq_setS a b c d a' b' c' d' 9997 w
attribute [go_sem] eq_setS_9999
theorem eq_setS_10000 (a b c d a' b' c' d' : Int) (w : World) : (Op.equalIn 10000 31 (.agg #[.int .u64 a, .int .u64 b, .int .u64 c, .int .u64 d]) (.agg #[.int .u64 a', .int .u64 b', .int .u64 c', .int .u64 d'])).run Tryz.prog w = .ok (S4.same ⟨a, b, c, d⟩ ⟨a', b', c', d'⟩) w := eq_setS a b c d a' b' c' d' 9998 w
attribute [go_sem] eq_setS_10000

end Go.Proofs.YtepeomphikhbkaaGreatDoor

/-
  Walks of package octet, and of the document's: And, Or, Not, Has, With.
-/
namespace Go.Proofs.YtepeomphikhbkaaGreatDoor
open Go.RowKit

/-- Word by word, the first k of them. -/
def S4.mix (f : Int → Int → Int) (k : Nat) (s t : S4) : S4 :=
  ⟨if 0 < k then f s.a t.a else s.a, if 1 < k then f s.b t.b else s.b, if 2 < k then f s.c t.c else s.c, if 3 < k then f s.d t.d else s.d⟩
def S4.and (s t : S4) : S4 := ⟨bits .and .u64 s.a t.a, bits .and .u64 s.b t.b, bits .and .u64 s.c t.c, bits .and .u64 s.d t.d⟩
def S4.or (s t : S4) : S4 := ⟨bits .or .u64 s.a t.a, bits .or .u64 s.b t.b, bits .or .u64 s.c t.c, bits .or .u64 s.d t.d⟩

theorem ret_set {w w' : World} {s : S4} {e : Ending} (h : e = .returned (.agg s.cells.toArray)) (f : Fr nob w w') : e = .returned (.agg s.cells.toArray) ∧ Fr nob w w' := ⟨h, f⟩

abbrev setFour (w : World) (b : Nat) (v0 v1 v2 v3 : Value) : World := (((w.setCell ⟨b, 0, none⟩ v0).setCell ⟨b, 1, none⟩ v1).setCell ⟨b, 2, none⟩ v2).setCell ⟨b, 3, none⟩ v3
theorem setFour_heap {w : World} {b : Nat} {a0 a1 a2 a3 : Value} {T : TypeId} {fr : Nat × Nat} (h : w.heap[b]? = some (.cells #[a0, a1, a2, a3] T fr)) (v0 v1 v2 v3 : Value) :
    (setFour w b v0 v1 v2 v3).heap[b]? = some (.cells #[v0, v1, v2, v3] T fr) := by
  have h0 : (w.setCell ⟨b, 0, none⟩ v0).heap[b]? = some (.cells #[v0, a1, a2, a3] T fr) := heap_setCell_at h 0 v0
  have h1 : ((w.setCell ⟨b, 0, none⟩ v0).setCell ⟨b, 1, none⟩ v1).heap[b]? = some (.cells #[v0, v1, a2, a3] T fr) := heap_setCell_at h0 1 v1
  have h2 : (((w.setCell ⟨b, 0, none⟩ v0).setCell ⟨b, 1, none⟩ v1).setCell ⟨b, 2, none⟩ v2).heap[b]? = some (.cells #[v0, v1, v2, a3] T fr) := heap_setCell_at h1 2 v2
  exact heap_setCell_at h2 3 v3
theorem setFour_fr {w a : World} {b : Nat} (f : Fr nob a w) (hb : a.heap.size ≤ b) (v0 v1 v2 v3 : Value) : Fr nob a (setFour w b v0 v1 v2 v3) := by
  have h : ∀ (x : World) (j : Nat) (v : Value), Fr nob a x → Fr nob a (x.setCell ⟨b, j, none⟩ v) := fun x j v hx => hx.setCell (p := ⟨b, j, none⟩) (fun h => absurd h (Nat.not_lt.2 hb)) v
  exact h _ _ _ (h _ _ _ (h _ _ _ (h _ _ _ f)))

/-- Three variables: two sets, and a result. -/
abbrev box3 (w : World) (s t : S4) (T : TypeId) : World := ((w.alloc (.cells s.cells.toArray T)).alloc (.cells t.cells.toArray T)).alloc (.cells S4.zero.cells.toArray T)
theorem box3_fr (w : World) (s t : S4) (T : TypeId) : Fr nob w (box3 w s t T) := (((Fr.refl _ _).alloc _).alloc _).alloc _
theorem box3_a (w : World) (s t : S4) (T : TypeId) : (box3 w s t T).heap[w.heap.size]? = some (.cells s.cells.toArray T (0, 0)) := heap_alloc_lt _ (heap_alloc_lt _ (heap_alloc_new _ _))
theorem box3_b (w : World) (s t : S4) (T : TypeId) : (box3 w s t T).heap[w.heap.size + 1]? = some (.cells t.cells.toArray T (0, 0)) := by
  refine heap_alloc_lt _ ?_
  have := heap_alloc_new (w.alloc (.cells s.cells.toArray T)) (.cells t.cells.toArray T); simpa using this
theorem box3_c (w : World) (s t : S4) (T : TypeId) : (box3 w s t T).heap[w.heap.size + 2]? = some (.cells S4.zero.cells.toArray T (0, 0)) := by
  have := heap_alloc_new ((w.alloc (.cells s.cells.toArray T)).alloc (.cells t.cells.toArray T)) (.cells S4.zero.cells.toArray T); simpa using this
theorem box3_size (w : World) (s t : S4) (T : TypeId) : (box3 w s t T).heap.size = w.heap.size + 3 := by simp

set_option maxRecDepth 100000 in
set_option maxHeartbeats 1000000 in
theorem or_any (s t : S4) (w : World) :
    Calls Tryz.prog 89 #[.agg s.cells.toArray, .agg t.cells.toArray] w fun e w' => e = .returned (.agg (s.or t).cells.toArray) ∧ Fr nob w w' := by
  have HA := Lib.hid (box3_a w s t 85); have HB := Lib.hid (box3_b w s t 85); have HC := Lib.hid (box3_c w s t 85)
  have F0 := Lib.hid (box3_fr w s t 85)
  have hsz := Lib.hid (box3_size w s t 85)
  rw [S4.cells_eq s, S4.cells_eq t]
  go_enter Tryz.func89, Tryz.ntmps89
  go_wp2_with fail
  obtain ⟨w0, hw0⟩ : ∃ w0, w0 = box3 w s t 85 := ⟨_, rfl⟩
  change Code.wp _ _ _ _ (box3 w s t 85)
  rw [← hw0] at HA HB HC F0 hsz ⊢
  clear hw0
  go_loopw [6] (fun i wr => ∃ k : Nat, i = .int .i64 k ∧ k ≤ 4 ∧ wr.heap[w.heap.size]? = some (.cells (S4.mix (bits .or .u64) k s t).cells.toArray 85 (0, 0)) ∧ Fr (fun j => j = w.heap.size) w0 wr) (fun i _ => 4 - (intOf i).toNat)
  case atStart => exact ⟨0, rfl, by omega, HA.out, Fr.refl _ _⟩
  case round =>
    obtain ⟨k, rfl, hk, hh, fr⟩ := hrel
    have hhb := fr.heap HB.out (by omega)
    have hhc := fr.heap HC.out (by omega)
    obtain ⟨c0, c1, c2, c3, z0, z1, z2, z3⟩ := cellS hh
    obtain ⟨g0, g1, g2, g3, _⟩ := cellS hhb
    have HH := Lib.hid hh; have FR := Lib.hid fr; have HHB := Lib.hid hhb; have HHC := Lib.hid hhc
    clear hh fr hhb hhc
    have hkk : k = 0 ∨ k = 1 ∨ k = 2 ∨ k = 3 ∨ k = 4 := by omega
    rcases hkk with rfl | rfl | rfl | rfl | rfl
    · simp only [S4.mix, Nat.lt_irrefl, Nat.zero_lt_one, if_true, if_false, Nat.not_lt_zero, Nat.reduceLT] at c0 c1 c2 c3
      go_wp2_with fail
      go_still_tail 6, (by kernel_rfl)
      change wpList _ _ _ _ _ wr.drew
      go_wp2
      go_roundw
      case rel => exact ⟨1, by go_num, by omega, heap_setCell_at HH.out 0 (.int .u64 (bits .or .u64 s.a t.a)), (FR.out.setCell (p := ⟨w.heap.size, 0, none⟩) (fun _ => rfl) _).drew⟩
      case measure => simp [intOf]
    · simp only [S4.mix, Nat.lt_irrefl, Nat.zero_lt_one, if_true, if_false, Nat.not_lt_zero, Nat.reduceLT] at c0 c1 c2 c3
      go_wp2_with fail
      go_still_tail 6, (by kernel_rfl)
      change wpList _ _ _ _ _ wr.drew
      go_wp2
      go_roundw
      case rel => exact ⟨2, by go_num, by omega, heap_setCell_at HH.out 1 (.int .u64 (bits .or .u64 s.b t.b)), (FR.out.setCell (p := ⟨w.heap.size, 1, none⟩) (fun _ => rfl) _).drew⟩
      case measure => simp [intOf]
    · simp only [S4.mix, Nat.lt_irrefl, Nat.zero_lt_one, if_true, if_false, Nat.not_lt_zero, Nat.reduceLT] at c0 c1 c2 c3
      go_wp2_with fail
      go_still_tail 6, (by kernel_rfl)
      change wpList _ _ _ _ _ wr.drew
      go_wp2
      go_roundw
      case rel => exact ⟨3, by go_num, by omega, heap_setCell_at HH.out 2 (.int .u64 (bits .or .u64 s.c t.c)), (FR.out.setCell (p := ⟨w.heap.size, 2, none⟩) (fun _ => rfl) _).drew⟩
      case measure => simp [intOf]
    · simp only [S4.mix, Nat.lt_irrefl, Nat.zero_lt_one, if_true, if_false, Nat.not_lt_zero, Nat.reduceLT] at c0 c1 c2 c3
      go_wp2_with fail
      go_still_tail 6, (by kernel_rfl)
      change wpList _ _ _ _ _ wr.drew
      go_wp2
      go_roundw
      case rel => exact ⟨4, by go_num, by omega, heap_setCell_at HH.out 3 (.int .u64 (bits .or .u64 s.d t.d)), (FR.out.setCell (p := ⟨w.heap.size, 3, none⟩) (fun _ => rfl) _).drew⟩
      case measure => simp [intOf]
    · obtain ⟨_, _, _, _, y0, y1, y2, y3⟩ := cellS HHC.out
      obtain ⟨x0, x1, x2, x3, _⟩ := cellS HHC.out
      have FW := Lib.hid (F0.out.trans FR.out (fun i hi e => by omega))
      simp only [S4.mix, Nat.lt_irrefl, Nat.zero_lt_one, if_true, if_false, Nat.not_lt_zero, Nat.reduceLT] at c0 c1 c2 c3
      go_wp2
      (try simp only [Exit.inBlock, Exit.then])
      exact bodyPost_ret (results_set (s := s.or t) rfl rfl (setFour_heap HHC.out _ _ _ _)) rfl ⟨rfl, setFour_fr FW.out (by omega) _ _ _ _⟩

end Go.Proofs.YtepeomphikhbkaaGreatDoor
