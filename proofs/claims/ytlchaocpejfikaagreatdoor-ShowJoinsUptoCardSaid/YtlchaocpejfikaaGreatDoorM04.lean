/-
  Merged texts of this claim: EqS, OctetB, OctetC, OctetD, Count, OctetE, OctetF, OctetG.
-/
import Derived.Test.YtlchaocpejfikaaGreatDoorChecked
import Derived.Laws.StructEq
import Derived.Test.YtlchaocpejfikaaGreatDoorM01
import Derived.Test.YtlchaocpejfikaaGreatDoorM03

/-
  '==' of two sets, of two structs that hold one.
-/
namespace Go.Proofs.YtlchaocpejfikaaGreatDoor
open Go.RowKit

theorem all_range_int : ∀ (xs ys : List Int), xs.length = ys.length → ((List.range xs.length).all fun i => xs.getD i 0 == ys.getD i 0) = (xs == ys)
  | [], [], _ => rfl
  | x :: xs, y :: ys, h => by
    have ih := all_range_int xs ys (by simpa using h)
    rw [List.length_cons, List.range_succ_eq_map, List.all_cons, List.all_map]
    simp only [List.getD_cons_zero, Function.comp_def, List.getD_cons_succ, ih]
    simp [List.cons_beq_cons]
  | [], _ :: _, h => by simp at h
  | _ :: _, [], h => by simp at h

theorem run_equalIn_iarr {P : Program} (w : World) (k : IntKind) (d : Nat) (t e : TypeId) (n : Nat) (ht : P.underlying t = some (.array n e)) (he : P.underlying e = some (.int k)) (hsz : ∀ w, (sizeOf e).run P w = .ok 1 w)
    (xs ys : List Int) (hx : xs.length = n) (hy : ys.length = n) :
    (Op.equalIn (d + 2) t (.agg (xs.map (Value.int k)).toArray) (.agg (ys.map (Value.int k)).toArray)).run P w = .ok (xs == ys) w := by
  rw [← all_range_int xs ys (hx.trans hy.symm), hx, List.range_eq_range', Op.equalIn]
  simp only [Sem.run_bind, run_underlying ht, Result.andThen_ok, hsz, Std.Legacy.Range.forIn_eq_forIn_range', Std.Legacy.Range.size, Nat.sub_zero, Nat.add_sub_cancel, Nat.div_one]
  have hl : ∀ i ∈ List.range' 0 n 1, i < n := fun i hi => by simpa using (List.mem_range'_1.1 hi).2
  generalize List.range' 0 n 1 = l at hl ⊢
  induction l with
  | nil => simp
  | cons i l ih =>
    have hi : i < n := hl i (by simp)
    have px : (part e (xs.map (Value.int k)).toArray (i * 1)).run P w = .ok (.int k (xs.getD i 0)) w := by
      simp [part, isAgg, run_underlying he, List.getD, List.getElem?_eq_getElem (show i < xs.length by omega)]
    have py : (part e (ys.map (Value.int k)).toArray (i * 1)).run P w = .ok (.int k (ys.getD i 0)) w := by
      simp [part, isAgg, run_underlying he, List.getD, List.getElem?_eq_getElem (show i < ys.length by omega)]
    have pe : (Op.equalIn (d + 1) e (.int k (xs.getD i 0)) (.int k (ys.getD i 0))).run P w = .ok (xs.getD i 0 == ys.getD i 0) w := by
      rw [run_equalIn_int w d e k k _ _ he]
    simp only [List.forIn_cons, Sem.run_bind, px, py, pe, Result.andThen_ok, List.all_cons]
    cases hb : (xs.getD i 0 == ys.getD i 0)
    · simp
    · simp only [Bool.not_true, Bool.false_eq_true, if_false, Sem.run_pure, Result.andThen_ok, Bool.true_and]
      exact ih fun j hj => hl j (by simp [hj])

/-- Are two sets the same? -/
def S4.same (s t : S4) : Bool := decide (s = t)
theorem S4.same_iff {s t : S4} : s.same t = true ↔ s = t := by simp [S4.same]
theorem S4.same_refl (s : S4) : s.same s = true := by simp [S4.same]
theorem S4.same_ne {s t : S4} (h : s ≠ t) : s.same t = false := by simp [S4.same, h]

theorem S4.eq_list (a b c d a' b' c' d' : Int) : ([a, b, c, d] == [a', b', c', d']) = S4.same ⟨a, b, c, d⟩ ⟨a', b', c', d'⟩ := by
  rw [Bool.eq_iff_iff, S4.same_iff]; simp

/-- Two sets. -/
theorem eq_set (a b c d a' b' c' d' : Int) (k : Nat) (w : World) : (Op.equalIn (k + 2) 27 (.agg #[.int .u64 a, .int .u64 b, .int .u64 c, .int .u64 d]) (.agg #[.int .u64 a', .int .u64 b', .int .u64 c', .int .u64 d'])).run Tryz.prog w = .ok (S4.same ⟨a, b, c, d⟩ ⟨a', b', c', d'⟩) w := by
  rw [← S4.eq_list]; exact run_equalIn_iarr w .u64 k 27 22 4 Tryz.underlying27 Tryz.underlying22 (fun _ => by kernel_rfl) [a, b, c, d] [a', b', c', d'] rfl rfl
theorem eq_setS (a b c d a' b' c' d' : Int) (k : Nat) (w : World) : (Op.equalIn (k + 2) 24 (.agg #[.int .u64 a, .int .u64 b, .int .u64 c, .int .u64 d]) (.agg #[.int .u64 a', .int .u64 b', .int .u64 c', .int .u64 d'])).run Tryz.prog w = .ok (S4.same ⟨a, b, c, d⟩ ⟨a', b', c', d'⟩) w := by
  rw [← S4.eq_list]; exact run_equalIn_iarr w .u64 k 24 22 4 Tryz.underlying24 Tryz.underlying22 (fun _ => by kernel_rfl) [a, b, c, d] [a', b', c', d'] rfl rfl
theorem eq_set_9999 (a b c d a' b' c' d' : Int) (w : World) : (Op.equalIn 9999 27 (.agg #[.int .u64 a, .int .u64 b, .int .u64 c, .int .u64 d]) (.agg #[.int .u64 a', .int .u64 b', .int .u64 c', .int .u64 d'])).run Tryz.prog w = .ok (S4.same ⟨a, b, c, d⟩ ⟨a', b', c', d'⟩) w := eq_set a b c d a' b' c' d' 9997 w
attribute [go_sem] eq_set_9999
theorem eq_set_10000 (a b c d a' b' c' d' : Int) (w : World) : (Op.equalIn 10000 27 (.agg #[.int .u64 a, .int .u64 b, .int .u64 c, .int .u64 d]) (.agg #[.int .u64 a', .int .u64 b', .int .u64 c', .int .u64 d'])).run Tryz.prog w = .ok (S4.same ⟨a, b, c, d⟩ ⟨a', b', c', d'⟩) w := eq_set a b c d a' b' c' d' 9998 w
attribute [go_sem] eq_set_10000
theorem eq_setS_9999 (a b c d a' b' c' d' : Int) (w : World) : (Op.equalIn 9999 24 (.agg #[.int .u64 a, .int .u64 b, .int .u64 c, .int .u64 d]) (.agg #[.int .u64 a', .int .u64 b', .int .u64 c', .int .u64 d'])).run Tryz.prog w = .ok (S4.same ⟨a, b, c, d⟩ ⟨a', b', c', d'⟩) w := eq_setS a b c d a' b' c' d' 9997 w
attribute [go_sem] eq_setS_9999
theorem eq_setS_10000 (a b c d a' b' c' d' : Int) (w : World) : (Op.equalIn 10000 24 (.agg #[.int .u64 a, .int .u64 b, .int .u64 c, .int .u64 d]) (.agg #[.int .u64 a', .int .u64 b', .int .u64 c', .int .u64 d'])).run Tryz.prog w = .ok (S4.same ⟨a, b, c, d⟩ ⟨a', b', c', d'⟩) w := eq_setS a b c d a' b' c' d' 9998 w
attribute [go_sem] eq_setS_10000

end Go.Proofs.YtlchaocpejfikaaGreatDoor

/-
  Walks of package octet, and of the document's: And, Or, Not, Has, With.
-/
namespace Go.Proofs.YtlchaocpejfikaaGreatDoor
open Go.RowKit

/-- Word by word, the first k of them. -/
def S4.mix (f : Int → Int → Int) (k : Nat) (s t : S4) : S4 :=
  ⟨if 0 < k then f s.a t.a else s.a, if 1 < k then f s.b t.b else s.b, if 2 < k then f s.c t.c else s.c, if 3 < k then f s.d t.d else s.d⟩
def S4.and (s t : S4) : S4 := ⟨bits .and .u64 s.a t.a, bits .and .u64 s.b t.b, bits .and .u64 s.c t.c, bits .and .u64 s.d t.d⟩
def S4.or (s t : S4) : S4 := ⟨bits .or .u64 s.a t.a, bits .or .u64 s.b t.b, bits .or .u64 s.c t.c, bits .or .u64 s.d t.d⟩

theorem ret_set {w w' : World} {s : S4} {e : Ending} (h : e = .returned (.agg s.cells.toArray)) (f : Fr nob w w') : e = .returned (.agg s.cells.toArray) ∧ Fr nob w w' := ⟨h, f⟩

abbrev setFour (w : World) (b : Nat) (v0 v1 v2 v3 : Value) : World := (((w.setCell ⟨b, 0, none⟩ v0).setCell ⟨b, 1, none⟩ v1).setCell ⟨b, 2, none⟩ v2).setCell ⟨b, 3, none⟩ v3
theorem setFour_heap {w : World} {b : Nat} {a0 a1 a2 a3 : Value} {T : TypeId} {fr : Nat × Nat} (h : w.heap[b]? = some (.cells #[a0, a1, a2, a3] T fr)) (v0 v1 v2 v3 : Value) :
    (setFour w b v0 v1 v2 v3).heap[b]? = some (.cells #[v0, v1, v2, v3] T fr) := by
  have h0 : (w.setCell ⟨b, 0, none⟩ v0).heap[b]? = some (.cells #[v0, a1, a2, a3] T fr) := heap_setCell_at h 0 v0
  have h1 : ((w.setCell ⟨b, 0, none⟩ v0).setCell ⟨b, 1, none⟩ v1).heap[b]? = some (.cells #[v0, v1, a2, a3] T fr) := heap_setCell_at h0 1 v1
  have h2 : (((w.setCell ⟨b, 0, none⟩ v0).setCell ⟨b, 1, none⟩ v1).setCell ⟨b, 2, none⟩ v2).heap[b]? = some (.cells #[v0, v1, v2, a3] T fr) := heap_setCell_at h1 2 v2
  exact heap_setCell_at h2 3 v3
theorem setFour_fr {w a : World} {b : Nat} (f : Fr nob a w) (hb : a.heap.size ≤ b) (v0 v1 v2 v3 : Value) : Fr nob a (setFour w b v0 v1 v2 v3) := by
  have h : ∀ (x : World) (j : Nat) (v : Value), Fr nob a x → Fr nob a (x.setCell ⟨b, j, none⟩ v) := fun x j v hx => hx.setCell (p := ⟨b, j, none⟩) (fun h => absurd h (Nat.not_lt.2 hb)) v
  exact h _ _ _ (h _ _ _ (h _ _ _ (h _ _ _ f)))

/-- Three variables: two sets, and a result. -/
abbrev box3 (w : World) (s t : S4) (T : TypeId) : World := ((w.alloc (.cells s.cells.toArray T)).alloc (.cells t.cells.toArray T)).alloc (.cells S4.zero.cells.toArray T)
theorem box3_fr (w : World) (s t : S4) (T : TypeId) : Fr nob w (box3 w s t T) := (((Fr.refl _ _).alloc _).alloc _).alloc _
theorem box3_a (w : World) (s t : S4) (T : TypeId) : (box3 w s t T).heap[w.heap.size]? = some (.cells s.cells.toArray T (0, 0)) := heap_alloc_lt _ (heap_alloc_lt _ (heap_alloc_new _ _))
theorem box3_b (w : World) (s t : S4) (T : TypeId) : (box3 w s t T).heap[w.heap.size + 1]? = some (.cells t.cells.toArray T (0, 0)) := by
  refine heap_alloc_lt _ ?_
  have := heap_alloc_new (w.alloc (.cells s.cells.toArray T)) (.cells t.cells.toArray T); simpa using this
theorem box3_c (w : World) (s t : S4) (T : TypeId) : (box3 w s t T).heap[w.heap.size + 2]? = some (.cells S4.zero.cells.toArray T (0, 0)) := by
  have := heap_alloc_new ((w.alloc (.cells s.cells.toArray T)).alloc (.cells t.cells.toArray T)) (.cells S4.zero.cells.toArray T); simpa using this
theorem box3_size (w : World) (s t : S4) (T : TypeId) : (box3 w s t T).heap.size = w.heap.size + 3 := by simp

set_option maxRecDepth 100000 in
set_option maxHeartbeats 1000000 in
theorem or_any (s t : S4) (w : World) :
    Calls Tryz.prog 132 #[.agg s.cells.toArray, .agg t.cells.toArray] w fun e w' => e = .returned (.agg (s.or t).cells.toArray) ∧ Fr nob w w' := by
  have HA := Lib.hid (box3_a w s t 27); have HB := Lib.hid (box3_b w s t 27); have HC := Lib.hid (box3_c w s t 27)
  have F0 := Lib.hid (box3_fr w s t 27)
  have hsz := Lib.hid (box3_size w s t 27)
  rw [S4.cells_eq s, S4.cells_eq t]
  go_enter Tryz.func132, Tryz.ntmps132
  go_wp2_with fail
  obtain ⟨w0, hw0⟩ : ∃ w0, w0 = box3 w s t 27 := ⟨_, rfl⟩
  change Code.wp _ _ _ _ (box3 w s t 27)
  rw [← hw0] at HA HB HC F0 hsz ⊢
  clear hw0
  go_loopw [6] (fun i wr => ∃ k : Nat, i = .int .i64 k ∧ k ≤ 4 ∧ wr.heap[w.heap.size]? = some (.cells (S4.mix (bits .or .u64) k s t).cells.toArray 27 (0, 0)) ∧ Fr (fun j => j = w.heap.size) w0 wr) (fun i _ => 4 - (intOf i).toNat)
  case atStart => exact ⟨0, rfl, by omega, HA.out, Fr.refl _ _⟩
  case round =>
    obtain ⟨k, rfl, hk, hh, fr⟩ := hrel
    have hhb := fr.heap HB.out (by omega)
    have hhc := fr.heap HC.out (by omega)
    obtain ⟨c0, c1, c2, c3, z0, z1, z2, z3⟩ := cellS hh
    obtain ⟨g0, g1, g2, g3, _⟩ := cellS hhb
    have HH := Lib.hid hh; have FR := Lib.hid fr; have HHB := Lib.hid hhb; have HHC := Lib.hid hhc
    clear hh fr hhb hhc
    have hkk : k = 0 ∨ k = 1 ∨ k = 2 ∨ k = 3 ∨ k = 4 := by omega
    rcases hkk with rfl | rfl | rfl | rfl | rfl
    · simp only [S4.mix, Nat.lt_irrefl, Nat.zero_lt_one, if_true, if_false, Nat.not_lt_zero, Nat.reduceLT] at c0 c1 c2 c3
      go_wp2_with fail
      go_still_tail 6, (by kernel_rfl)
      change wpList _ _ _ _ _ wr.drew
      go_wp2
      go_roundw
      case rel => exact ⟨1, by go_num, by omega, heap_setCell_at HH.out 0 (.int .u64 (bits .or .u64 s.a t.a)), (FR.out.setCell (p := ⟨w.heap.size, 0, none⟩) (fun _ => rfl) _).drew⟩
      case measure => simp [intOf]
    · simp only [S4.mix, Nat.lt_irrefl, Nat.zero_lt_one, if_true, if_false, Nat.not_lt_zero, Nat.reduceLT] at c0 c1 c2 c3
      go_wp2_with fail
      go_still_tail 6, (by kernel_rfl)
      change wpList _ _ _ _ _ wr.drew
      go_wp2
      go_roundw
      case rel => exact ⟨2, by go_num, by omega, heap_setCell_at HH.out 1 (.int .u64 (bits .or .u64 s.b t.b)), (FR.out.setCell (p := ⟨w.heap.size, 1, none⟩) (fun _ => rfl) _).drew⟩
      case measure => simp [intOf]
    · simp only [S4.mix, Nat.lt_irrefl, Nat.zero_lt_one, if_true, if_false, Nat.not_lt_zero, Nat.reduceLT] at c0 c1 c2 c3
      go_wp2_with fail
      go_still_tail 6, (by kernel_rfl)
      change wpList _ _ _ _ _ wr.drew
      go_wp2
      go_roundw
      case rel => exact ⟨3, by go_num, by omega, heap_setCell_at HH.out 2 (.int .u64 (bits .or .u64 s.c t.c)), (FR.out.setCell (p := ⟨w.heap.size, 2, none⟩) (fun _ => rfl) _).drew⟩
      case measure => simp [intOf]
    · simp only [S4.mix, Nat.lt_irrefl, Nat.zero_lt_one, if_true, if_false, Nat.not_lt_zero, Nat.reduceLT] at c0 c1 c2 c3
      go_wp2_with fail
      go_still_tail 6, (by kernel_rfl)
      change wpList _ _ _ _ _ wr.drew
      go_wp2
      go_roundw
      case rel => exact ⟨4, by go_num, by omega, heap_setCell_at HH.out 3 (.int .u64 (bits .or .u64 s.d t.d)), (FR.out.setCell (p := ⟨w.heap.size, 3, none⟩) (fun _ => rfl) _).drew⟩
      case measure => simp [intOf]
    · obtain ⟨_, _, _, _, y0, y1, y2, y3⟩ := cellS HHC.out
      obtain ⟨x0, x1, x2, x3, _⟩ := cellS HHC.out
      have FW := Lib.hid (F0.out.trans FR.out (fun i hi e => by omega))
      simp only [S4.mix, Nat.lt_irrefl, Nat.zero_lt_one, if_true, if_false, Nat.not_lt_zero, Nat.reduceLT] at c0 c1 c2 c3
      go_wp2
      (try simp only [Exit.inBlock, Exit.then])
      exact bodyPost_ret (results_set (s := s.or t) rfl rfl (setFour_heap HHC.out _ _ _ _)) rfl ⟨rfl, setFour_fr FW.out (by omega) _ _ _ _⟩

end Go.Proofs.YtlchaocpejfikaaGreatDoor

/-
  Walks of package octet, and of the document's: Has, Not; And, Or, With of the document.
-/
namespace Go.Proofs.YtlchaocpejfikaaGreatDoor
open Go.RowKit

/-- Do all four words fit? -/
def S4.fit (s : S4) : Prop := Fit s.a ∧ Fit s.b ∧ Fit s.c ∧ Fit s.d
/-- The word that tells of a byte. -/
def S4.word (s : S4) (d : Nat) : Int := match d / 64 with
  | 0 => s.a
  | 1 => s.b
  | 2 => s.c
  | _ => s.d
/-- Is a byte in a set? -/
def S4.has (s : S4) (d : Nat) : Bool := (wd (s.word d)).getLsbD (d % 64)
def S4.not (s : S4) : S4 := ⟨bits .xor .u64 IntKind.u64.max s.a, bits .xor .u64 IntKind.u64.max s.b, bits .xor .u64 IntKind.u64.max s.c, bits .xor .u64 IntKind.u64.max s.d⟩

set_option maxRecDepth 100000 in
set_option maxHeartbeats 1000000 in
theorem has_any (s : S4) (d : Nat) (w : World) (hs : s.fit) (hd : d < 256) :
    Calls Tryz.prog 80 #[.agg s.cells.toArray, .int .u8 d] w fun e w' => e = .returned (.bool (s.has d)) ∧ Fr nob w w' := by
  rw [S4.cells_eq s]
  have hdiv : Int.tdiv (d : Int) 64 = ((d / 64 : Nat) : Int) := (Int.ofNat_tdiv d 64).symm
  have hmod : Int.tmod (d : Int) 64 = ((d % 64 : Nat) : Int) := (Int.ofNat_tmod d 64).symm
  have hq : d / 64 = 0 ∨ d / 64 = 1 ∨ d / 64 = 2 ∨ d / 64 = 3 := by omega
  have hr : d % 64 < 64 := by omega
  have w0 : IntKind.u8.wrap 0 = 0 := by decide
  have w1 : IntKind.u8.wrap 1 = 1 := by decide
  have w2 : IntKind.u8.wrap 2 = 2 := by decide
  have w3 : IntKind.u8.wrap 3 = 3 := by decide
  have wm : IntKind.u8.wrap ((d % 64 : Nat) : Int) = ((d % 64 : Nat) : Int) := IntWalk.u8_in _ (by omega)
  have wm' : IntKind.u8.wrap ((d : Int) % 64) = ((d % 64 : Nat) : Int) := by rw [show (d : Int) % 64 = ((d % 64 : Nat) : Int) by omega]; exact wm
  have HS := Lib.hid hs; clear hs
  obtain ⟨p0, p1, p2, p3⟩ := HS.out
  have n0 : 0 ≤ s.a := p0.1
  have n1 : 0 ≤ s.b := p1.1
  have n2 : 0 ≤ s.c := p2.1
  have n3 : 0 ≤ s.d := p3.1
  clear p0 p1 p2 p3
  rcases hq with hq | hq | hq | hq
  · have HH := Lib.hid (show s.has d = (wd s.a).getLsbD (d % 64) by unfold S4.has S4.word; rw [hq]; rfl)
    have HB := Lib.hid (bit_and HS.out.1 hr)
    rw [hq] at hdiv
    clear hq
    go_enter Tryz.func80, Tryz.ntmps80
    go_wp2
    go_ret
    exact ⟨ret_bool (by rw [HH.out]; exact HB.out), (Fr.refl _ _).alloc _⟩
  · have HH := Lib.hid (show s.has d = (wd s.b).getLsbD (d % 64) by unfold S4.has S4.word; rw [hq]; rfl)
    have HB := Lib.hid (bit_and HS.out.2.1 hr)
    rw [hq] at hdiv
    clear hq
    go_enter Tryz.func80, Tryz.ntmps80
    go_wp2
    go_ret
    exact ⟨ret_bool (by rw [HH.out]; exact HB.out), (Fr.refl _ _).alloc _⟩
  · have HH := Lib.hid (show s.has d = (wd s.c).getLsbD (d % 64) by unfold S4.has S4.word; rw [hq]; rfl)
    have HB := Lib.hid (bit_and HS.out.2.2.1 hr)
    rw [hq] at hdiv
    clear hq
    go_enter Tryz.func80, Tryz.ntmps80
    go_wp2
    go_ret
    exact ⟨ret_bool (by rw [HH.out]; exact HB.out), (Fr.refl _ _).alloc _⟩
  · have HH := Lib.hid (show s.has d = (wd s.d).getLsbD (d % 64) by unfold S4.has S4.word; rw [hq]; rfl)
    have HB := Lib.hid (bit_and HS.out.2.2.2 hr)
    rw [hq] at hdiv
    clear hq
    go_enter Tryz.func80, Tryz.ntmps80
    go_wp2
    go_ret
    exact ⟨ret_bool (by rw [HH.out]; exact HB.out), (Fr.refl _ _).alloc _⟩

set_option maxRecDepth 100000 in
set_option maxHeartbeats 1000000 in
theorem hasR_any (s : S4) (d : Nat) (w : World) (hs : s.fit) (hd : d < 256) :
    Calls Tryz.prog 30 #[.agg s.cells.toArray, .int .u8 d] w fun e w' => e = .returned (.bool (s.has d)) ∧ Fr nob w w' := by
  rw [S4.cells_eq s]
  have hdiv : Int.tdiv (d : Int) 64 = ((d / 64 : Nat) : Int) := (Int.ofNat_tdiv d 64).symm
  have hmod : Int.tmod (d : Int) 64 = ((d % 64 : Nat) : Int) := (Int.ofNat_tmod d 64).symm
  have hq : d / 64 = 0 ∨ d / 64 = 1 ∨ d / 64 = 2 ∨ d / 64 = 3 := by omega
  have hr : d % 64 < 64 := by omega
  have w0 : IntKind.u8.wrap 0 = 0 := by decide
  have w1 : IntKind.u8.wrap 1 = 1 := by decide
  have w2 : IntKind.u8.wrap 2 = 2 := by decide
  have w3 : IntKind.u8.wrap 3 = 3 := by decide
  have wm : IntKind.u8.wrap ((d % 64 : Nat) : Int) = ((d % 64 : Nat) : Int) := IntWalk.u8_in _ (by omega)
  have wm' : IntKind.u8.wrap ((d : Int) % 64) = ((d % 64 : Nat) : Int) := by rw [show (d : Int) % 64 = ((d % 64 : Nat) : Int) by omega]; exact wm
  have HS := Lib.hid hs; clear hs
  obtain ⟨p0, p1, p2, p3⟩ := HS.out
  have n0 : 0 ≤ s.a := p0.1
  have n1 : 0 ≤ s.b := p1.1
  have n2 : 0 ≤ s.c := p2.1
  have n3 : 0 ≤ s.d := p3.1
  clear p0 p1 p2 p3
  rcases hq with hq | hq | hq | hq
  · have HH := Lib.hid (show s.has d = (wd s.a).getLsbD (d % 64) by unfold S4.has S4.word; rw [hq]; rfl)
    have HB := Lib.hid (bit_tmod HS.out.1 hr)
    rw [hq] at hdiv
    clear hq
    go_enter Tryz.func30, Tryz.ntmps30
    go_wp2
    go_ret
    exact ⟨ret_bool (by rw [HH.out]; exact HB.out), (Fr.refl _ _).alloc _⟩
  · have HH := Lib.hid (show s.has d = (wd s.b).getLsbD (d % 64) by unfold S4.has S4.word; rw [hq]; rfl)
    have HB := Lib.hid (bit_tmod HS.out.2.1 hr)
    rw [hq] at hdiv
    clear hq
    go_enter Tryz.func30, Tryz.ntmps30
    go_wp2
    go_ret
    exact ⟨ret_bool (by rw [HH.out]; exact HB.out), (Fr.refl _ _).alloc _⟩
  · have HH := Lib.hid (show s.has d = (wd s.c).getLsbD (d % 64) by unfold S4.has S4.word; rw [hq]; rfl)
    have HB := Lib.hid (bit_tmod HS.out.2.2.1 hr)
    rw [hq] at hdiv
    clear hq
    go_enter Tryz.func30, Tryz.ntmps30
    go_wp2
    go_ret
    exact ⟨ret_bool (by rw [HH.out]; exact HB.out), (Fr.refl _ _).alloc _⟩
  · have HH := Lib.hid (show s.has d = (wd s.d).getLsbD (d % 64) by unfold S4.has S4.word; rw [hq]; rfl)
    have HB := Lib.hid (bit_tmod HS.out.2.2.2 hr)
    rw [hq] at hdiv
    clear hq
    go_enter Tryz.func30, Tryz.ntmps30
    go_wp2
    go_ret
    exact ⟨ret_bool (by rw [HH.out]; exact HB.out), (Fr.refl _ _).alloc _⟩

/-- Two variables: a set, and a result. -/
abbrev bx2 (w : World) (s : S4) (T : TypeId) : World := (w.alloc (.cells s.cells.toArray T)).alloc (.cells S4.zero.cells.toArray T)
theorem bx2_fr (w : World) (s : S4) (T : TypeId) : Fr nob w (bx2 w s T) := ((Fr.refl _ _).alloc _).alloc _
theorem bx2_a (w : World) (s : S4) (T : TypeId) : (bx2 w s T).heap[w.heap.size]? = some (.cells s.cells.toArray T (0, 0)) := heap_alloc_lt _ (heap_alloc_new _ _)
theorem bx2_b (w : World) (s : S4) (T : TypeId) : (bx2 w s T).heap[w.heap.size + 1]? = some (.cells S4.zero.cells.toArray T (0, 0)) := by
  have := heap_alloc_new (w.alloc (.cells s.cells.toArray T)) (.cells S4.zero.cells.toArray T); simpa using this
theorem bx2_size (w : World) (s : S4) (T : TypeId) : (bx2 w s T).heap.size = w.heap.size + 2 := by simp
def S4.mix1 (f : Int → Int) (k : Nat) (s : S4) : S4 :=
  ⟨if 0 < k then f s.a else s.a, if 1 < k then f s.b else s.b, if 2 < k then f s.c else s.c, if 3 < k then f s.d else s.d⟩

set_option maxRecDepth 100000 in
set_option maxHeartbeats 1000000 in
theorem not_any (s : S4) (w : World) :
    Calls Tryz.prog 53 #[.agg s.cells.toArray] w fun e w' => e = .returned (.agg s.not.cells.toArray) ∧ Fr nob w w' := by
  have HA := Lib.hid (bx2_a w s 27); have HC := Lib.hid (bx2_b w s 27)
  have F0 := Lib.hid (bx2_fr w s 27)
  have hsz := Lib.hid (bx2_size w s 27)
  rw [S4.cells_eq s]
  go_enter Tryz.func53, Tryz.ntmps53
  go_wp2_with fail
  obtain ⟨w0, hw0⟩ : ∃ w0, w0 = bx2 w s 27 := ⟨_, rfl⟩
  change Code.wp _ _ _ _ (bx2 w s 27)
  rw [← hw0] at HA HC F0 hsz ⊢
  clear hw0
  go_loopw [4] (fun i wr => ∃ k : Nat, i = .int .i64 k ∧ k ≤ 4 ∧ wr.heap[w.heap.size]? = some (.cells (S4.mix1 (bits .xor .u64 IntKind.u64.max) k s).cells.toArray 27 (0, 0)) ∧ Fr (fun j => j = w.heap.size) w0 wr) (fun i _ => 4 - (intOf i).toNat)
  case atStart => exact ⟨0, rfl, by omega, HA.out, Fr.refl _ _⟩
  case round =>
    obtain ⟨k, rfl, hk, hh, fr⟩ := hrel
    have hhc := fr.heap HC.out (by omega)
    obtain ⟨c0, c1, c2, c3, z0, z1, z2, z3⟩ := cellS hh
    have HH := Lib.hid hh; have FR := Lib.hid fr; have HHC := Lib.hid hhc
    clear hh fr hhc
    have hkk : k = 0 ∨ k = 1 ∨ k = 2 ∨ k = 3 ∨ k = 4 := by omega
    rcases hkk with rfl | rfl | rfl | rfl | rfl
    · simp only [S4.mix1, Nat.lt_irrefl, Nat.zero_lt_one, if_true, if_false, Nat.not_lt_zero, Nat.reduceLT] at c0 c1 c2 c3
      go_wp2
      go_roundw
      case rel => exact ⟨1, by go_num, by omega, heap_setCell_at HH.out 0 (.int .u64 (bits .xor .u64 IntKind.u64.max s.a)), (FR.out.setCell (p := ⟨w.heap.size, 0, none⟩) (fun _ => rfl) _)⟩
      case measure => simp [intOf]
    · simp only [S4.mix1, Nat.lt_irrefl, Nat.zero_lt_one, if_true, if_false, Nat.not_lt_zero, Nat.reduceLT] at c0 c1 c2 c3
      go_wp2
      go_roundw
      case rel => exact ⟨2, by go_num, by omega, heap_setCell_at HH.out 1 (.int .u64 (bits .xor .u64 IntKind.u64.max s.b)), (FR.out.setCell (p := ⟨w.heap.size, 1, none⟩) (fun _ => rfl) _)⟩
      case measure => simp [intOf]
    · simp only [S4.mix1, Nat.lt_irrefl, Nat.zero_lt_one, if_true, if_false, Nat.not_lt_zero, Nat.reduceLT] at c0 c1 c2 c3
      go_wp2
      go_roundw
      case rel => exact ⟨3, by go_num, by omega, heap_setCell_at HH.out 2 (.int .u64 (bits .xor .u64 IntKind.u64.max s.c)), (FR.out.setCell (p := ⟨w.heap.size, 2, none⟩) (fun _ => rfl) _)⟩
      case measure => simp [intOf]
    · simp only [S4.mix1, Nat.lt_irrefl, Nat.zero_lt_one, if_true, if_false, Nat.not_lt_zero, Nat.reduceLT] at c0 c1 c2 c3
      go_wp2
      go_roundw
      case rel => exact ⟨4, by go_num, by omega, heap_setCell_at HH.out 3 (.int .u64 (bits .xor .u64 IntKind.u64.max s.d)), (FR.out.setCell (p := ⟨w.heap.size, 3, none⟩) (fun _ => rfl) _)⟩
      case measure => simp [intOf]
    · obtain ⟨x0, x1, x2, x3, y0, y1, y2, y3⟩ := cellS HHC.out
      have FW := Lib.hid (F0.out.trans FR.out (fun i hi e => by omega))
      simp only [S4.mix1, Nat.lt_irrefl, Nat.zero_lt_one, if_true, if_false, Nat.not_lt_zero, Nat.reduceLT] at c0 c1 c2 c3
      go_wp2
      (try simp only [Exit.inBlock, Exit.then])
      exact bodyPost_ret (results_set (s := s.not) rfl rfl (setFour_heap HHC.out _ _ _ _)) rfl ⟨rfl, setFour_fr FW.out (by omega) _ _ _ _⟩

/-- A set of the document's that is handed back out of a variable. -/
theorem results_setR {fn : Func} {p : Tmp} (h : fn.results = #[.cell p 24]) {tmps : Array Value} {r : Nat} (ht : tmps.getD p undef = .pointer (some ⟨r, 0, none⟩)) {W : World} {s : S4}
    (hb : W.heap[r]? = some (.cells s.cells.toArray 24 (0, 0))) : (results fn tmps).run Tryz.prog W = .ok (.agg s.cells.toArray) W := by
  obtain ⟨c0, c1, c2, c3, _⟩ := cellS hb
  have ht' : tmps[p]?.getD undef = .pointer (some ⟨r, 0, none⟩) := by rw [← ht]; simp
  simp only [results, h]
  simp [ht', go_sem, c0, c1, c2, c3, S4.cells]

set_option maxRecDepth 100000 in
set_option maxHeartbeats 1000000 in
theorem notR_any (s : S4) (w : World) :
    Calls Tryz.prog 32 #[.agg s.cells.toArray] w fun e w' => e = .returned (.agg s.not.cells.toArray) ∧ Fr nob w w' := by
  rw [S4.cells_eq s]
  go_enter Tryz.func32, Tryz.ntmps32
  go_wp2
  (try simp only [Exit.inBlock, Exit.then])
  exact bodyPost_ret (results_setR (s := s.not) rfl rfl (heap_alloc_new' _ _ _ (by simp))) rfl ⟨rfl, ((Fr.refl _ _).alloc _).alloc _⟩

set_option maxRecDepth 100000 in
set_option maxHeartbeats 1000000 in
theorem andR_any (s t : S4) (w : World) :
    Calls Tryz.prog 83 #[.agg s.cells.toArray, .agg t.cells.toArray] w fun e w' => e = .returned (.agg (s.and t).cells.toArray) ∧ Fr nob w w' := by
  rw [S4.cells_eq s, S4.cells_eq t]
  go_enter Tryz.func83, Tryz.ntmps83
  go_wp2
  (try simp only [Exit.inBlock, Exit.then])
  exact bodyPost_ret (results_setR (s := s.and t) rfl rfl (heap_alloc_new' _ _ _ (by simp))) rfl ⟨rfl, (((Fr.refl _ _).alloc _).alloc _).alloc _⟩

set_option maxRecDepth 100000 in
set_option maxHeartbeats 1000000 in
theorem orR_any (s t : S4) (w : World) :
    Calls Tryz.prog 82 #[.agg s.cells.toArray, .agg t.cells.toArray] w fun e w' => e = .returned (.agg (s.or t).cells.toArray) ∧ Fr nob w w' := by
  rw [S4.cells_eq s, S4.cells_eq t]
  go_enter Tryz.func82, Tryz.ntmps82
  go_wp2
  (try simp only [Exit.inBlock, Exit.then])
  exact bodyPost_ret (results_setR (s := s.or t) rfl rfl (heap_alloc_new' _ _ _ (by simp))) rfl ⟨rfl, (((Fr.refl _ _).alloc _).alloc _).alloc _⟩

set_option maxRecDepth 100000 in
set_option maxHeartbeats 1000000 in
theorem withR_any (s : S4) (d : Nat) (w : World) (hd : d < 256) :
    Calls Tryz.prog 102 #[.agg s.cells.toArray, .int .u8 d] w fun e w' => e = .returned (.agg (s.put d).cells.toArray) ∧ Fr nob w w' := by
  rw [S4.cells_eq s]
  have hdiv : Int.tdiv (d : Int) 64 = ((d / 64 : Nat) : Int) := (Int.ofNat_tdiv d 64).symm
  have hmod : Int.tmod (d : Int) 64 = ((d % 64 : Nat) : Int) := (Int.ofNat_tmod d 64).symm
  have hq : d / 64 = 0 ∨ d / 64 = 1 ∨ d / 64 = 2 ∨ d / 64 = 3 := by omega
  have hr : d % 64 < 64 := by omega
  have w0 : IntKind.u8.wrap 0 = 0 := by decide
  have w1 : IntKind.u8.wrap 1 = 1 := by decide
  have w2 : IntKind.u8.wrap 2 = 2 := by decide
  have w3 : IntKind.u8.wrap 3 = 3 := by decide
  have wm : IntKind.u8.wrap ((d % 64 : Nat) : Int) = ((d % 64 : Nat) : Int) := IntWalk.u8_in _ (by omega)
  have wm' : IntKind.u8.wrap ((d : Int) % 64) = ((d % 64 : Nat) : Int) := by rw [show (d : Int) % 64 = ((d % 64 : Nat) : Int) by omega]; exact wm
  rcases hq with hq | hq | hq | hq
  all_goals
    have HQ := Lib.hid hq
    rw [hq] at hdiv
    clear hq
    go_enter Tryz.func102, Tryz.ntmps102
    go_wp2
    (try simp only [Exit.inBlock, Exit.then])
    refine bodyPost_ret (results_setR (s := s.put d) rfl rfl ?_) rfl ⟨rfl, ?_⟩
    · have hp : s.put d = s.put d := rfl
      unfold S4.put
      rw [HQ.out]
      exact heap_alloc_new' _ _ _ (by simp)
    · exact ((Fr.refl _ _).alloc _).alloc _

end Go.Proofs.YtlchaocpejfikaaGreatDoor

/-
  Walks: OnesCount64; Len of both sides.
-/
namespace Go.Proofs.YtlchaocpejfikaaGreatDoor
open Go.RowKit

theorem and_nat (a m : Nat) (ha : a < 18446744073709551616) (hm : m < 18446744073709551616) : bits .and .u64 (a : Int) (m : Int) = ((a &&& m : Nat) : Int) := by
  rw [bits_and]
  have h1 : wd (a : Int) = BitVec.ofNat 64 a := by unfold wd; simp
  have h2 : wd (m : Int) = BitVec.ofNat 64 m := by unfold wd; simp
  rw [h1, h2, BitVec.toNat_and, BitVec.toNat_ofNat, BitVec.toNat_ofNat, Nat.mod_eq_of_lt (by simpa using ha), Nat.mod_eq_of_lt (by simpa using hm)]
theorem wrap_small (a : Nat) (ha : a < 18446744073709551616) : IntKind.u64.wrap (a : Int) = (a : Int) := by
  have := wrap_nat (BitVec.ofNat 64 a)
  rw [BitVec.toNat_ofNat, Nat.mod_eq_of_lt (by simpa using ha)] at this
  exact this
theorem wrap_small' (a : Nat) (ha : a < 9223372036854775808) : IntKind.i64.wrap (a : Int) = (a : Int) := by
  simp only [IntKind.wrap, IntKind.bits, IntKind.signed]
  simp
  omega
theorem and_127 (a : Nat) (ha : a < 9223372036854775808) : bits .and .i64 (a : Int) 127 = ((a % 128 : Nat) : Int) := by
  have h1 : BitVec.ofInt 64 (a : Int) = BitVec.ofNat 64 a := by simp
  have h2 : BitVec.ofInt 64 127 = BitVec.ofNat 64 127 := by decide
  show IntKind.i64.wrap (((BitVec.ofInt 64 (a : Int)) &&& (BitVec.ofInt 64 127)).toNat : Int) = _
  rw [h1, h2, BitVec.toNat_and, BitVec.toNat_ofNat, BitVec.toNat_ofNat, Nat.mod_eq_of_lt (by simp; omega)]
  have h3 : a &&& 127 % 2 ^ 64 = a % 128 := by
    have := Nat.and_two_pow_sub_one_eq_mod a 7
    simpa using this
  rw [h3]
  exact wrap_small' _ (by omega)

set_option maxRecDepth 100000 in
set_option maxHeartbeats 1000000 in
theorem ones_any (n : Nat) (w : World) (hn : n < 18446744073709551616) :
    Calls Tryz.prog 74 #[.int .u64 n] w fun e w' => e = .returned (.int .i64 (pop n)) ∧ w = w' := by
  have hp := Lib.hid (swar_eq n hn)
  obtain ⟨x1, h1⟩ : ∃ x, pf1 6148914691236517205 n = x := ⟨_, rfl⟩
  obtain ⟨x2, h2⟩ : ∃ x, pf2 3689348814741910323 x1 = x := ⟨_, rfl⟩
  obtain ⟨x3, h3⟩ : ∃ x, pf3 1085102592571150095 x2 = x := ⟨_, rfl⟩
  have hs : swar3 n = x3 := by unfold swar3; rw [h1, h2, h3]
  have HP := Lib.hid (show swar6 x3 % 128 = pop n ∧ swar6 x3 < 9223372036854775808 by rw [← hs]; exact hp.out)
  have b1 : x1 ≤ 12297829382473034410 := by
    rw [← h1]; unfold pf1
    have := @Nat.and_le_right (n / 2) 6148914691236517205
    have := @Nat.and_le_right n 6148914691236517205
    omega
  have b2 : x2 ≤ 7378697629483820646 := by
    rw [← h2]; unfold pf2
    have := @Nat.and_le_right (x1 / 4) 3689348814741910323
    have := @Nat.and_le_right x1 3689348814741910323
    omega
  have b3 : x3 ≤ 1085102592571150095 := by
    rw [← h3]; unfold pf3; exact Nat.and_le_right
  obtain ⟨x4, h4⟩ : ∃ x, x3 + x3 / 256 = x := ⟨_, rfl⟩
  obtain ⟨x5, h5⟩ : ∃ x, x4 + x4 / 65536 = x := ⟨_, rfl⟩
  obtain ⟨x6, h6⟩ : ∃ x, x5 + x5 / 4294967296 = x := ⟨_, rfl⟩
  have h66 : swar6 x3 = x6 := by unfold swar6; rw [h4, h5, h6]
  have e1 : IntKind.u64.wrap (bits .and .u64 ((n : Int) / 2) 6148914691236517205 + bits .and .u64 (n : Int) 6148914691236517205) = (x1 : Int) := by
    have q1 := and_nat (n / 2) 6148914691236517205 (by omega) (by decide)
    have q2 := and_nat n 6148914691236517205 hn (by decide)
    have q3 : ((n : Int) / 2) = ((n / 2 : Nat) : Int) := by omega
    rw [q3, show (6148914691236517205 : Int) = ((6148914691236517205 : Nat) : Int) from rfl, q1, q2, ← Int.natCast_add]
    rw [show (n / 2 &&& 6148914691236517205) + (n &&& 6148914691236517205) = x1 from h1]
    exact wrap_small _ (by omega)
  have e2 : IntKind.u64.wrap (bits .and .u64 ((x1 : Int) / 4) 3689348814741910323 + bits .and .u64 (x1 : Int) 3689348814741910323) = (x2 : Int) := by
    have q1 := and_nat (x1 / 4) 3689348814741910323 (by omega) (by decide)
    have q2 := and_nat x1 3689348814741910323 (by omega) (by decide)
    have q3 : ((x1 : Int) / 4) = ((x1 / 4 : Nat) : Int) := by omega
    rw [q3, show (3689348814741910323 : Int) = ((3689348814741910323 : Nat) : Int) from rfl, q1, q2, ← Int.natCast_add]
    rw [show (x1 / 4 &&& 3689348814741910323) + (x1 &&& 3689348814741910323) = x2 from h2]
    exact wrap_small _ (by omega)
  have e3 : bits .and .u64 (IntKind.u64.wrap ((x2 : Int) / 16 + (x2 : Int))) 1085102592571150095 = (x3 : Int) := by
    have q3 : ((x2 : Int) / 16 + (x2 : Int)) = ((x2 / 16 + x2 : Nat) : Int) := by omega
    rw [q3, wrap_small _ (by omega), show (1085102592571150095 : Int) = ((1085102592571150095 : Nat) : Int) from rfl, and_nat _ _ (by omega) (by decide)]
    rw [show (x2 / 16 + x2) &&& 1085102592571150095 = x3 from h3]
  have e4 : IntKind.u64.wrap ((x3 : Int) + (x3 : Int) / 256) = (x4 : Int) := by
    rw [show (x3 : Int) + (x3 : Int) / 256 = ((x4 : Nat) : Int) by omega]; exact wrap_small _ (by omega)
  have e5 : IntKind.u64.wrap ((x4 : Int) + (x4 : Int) / 65536) = (x5 : Int) := by
    rw [show (x4 : Int) + (x4 : Int) / 65536 = ((x5 : Nat) : Int) by omega]; exact wrap_small _ (by omega)
  have e6 : IntKind.u64.wrap ((x5 : Int) + (x5 : Int) / 4294967296) = (x6 : Int) := by
    rw [show (x5 : Int) + (x5 : Int) / 4294967296 = ((x6 : Nat) : Int) by omega]; exact wrap_small _ (by omega)
  have e7 : IntKind.i64.wrap (x6 : Int) = (x6 : Int) := wrap_small' _ (by omega)
  have e8 : bits .and .i64 (x6 : Int) 127 = ((pop n : Nat) : Int) := by
    rw [and_127 _ (by omega), ← h66, HP.out.1]
  have n0 : (0 : Int) ≤ x2 := by omega
  clear h1 h2 h3 h4 h5 h6 hs h66 b1 b2 b3 hn
  go_enter Tryz.func74, Tryz.ntmps74
  go_wp2
  go_ret
  exact ⟨rfl, rfl⟩

/-- How many bytes a set has. -/
def S4.len (s : S4) : Nat := pop s.a.toNat + pop s.b.toNat + pop s.c.toNat + pop s.d.toNat
def S4.lenTo (k : Nat) (s : S4) : Nat := (if 0 < k then pop s.a.toNat else 0) + (if 1 < k then pop s.b.toNat else 0) + (if 2 < k then pop s.c.toNat else 0) + (if 3 < k then pop s.d.toNat else 0)
theorem pop8_le' (n : Nat) : pop8 n ≤ 8 := by unfold pop8; omega
theorem pop_le (n : Nat) : pop n ≤ 64 := by
  have h := fun k => pop8_le' (n / k % 256)
  have := pop8_le' (n % 256); have := h 256; have := h 65536; have := h 16777216; have := h 4294967296; have := h 1099511627776; have := h 281474976710656; have := h 72057594037927936
  unfold pop; omega
theorem S4.len_le (s : S4) : s.len ≤ 256 := by
  have := pop_le s.a.toNat; have := pop_le s.b.toNat; have := pop_le s.c.toNat; have := pop_le s.d.toNat
  unfold S4.len; omega

set_option maxRecDepth 100000 in
set_option maxHeartbeats 1000000 in
theorem len_any (s : S4) (w : World) (hs : s.fit) :
    Calls Tryz.prog 49 #[.agg s.cells.toArray] w fun e w' => e = .returned (.int .i64 s.len) ∧ Fr nob w w' := by
  obtain ⟨a, b, c, d⟩ := s
  obtain ⟨⟨l0, u0⟩, ⟨l1, u1⟩, ⟨l2, u2⟩, ⟨l3, u3⟩⟩ := hs
  simp only at l0 u0 l1 u1 l2 u2 l3 u3
  obtain ⟨na, rfl⟩ := Int.eq_ofNat_of_zero_le l0
  obtain ⟨nb, rfl⟩ := Int.eq_ofNat_of_zero_le l1
  obtain ⟨nc, rfl⟩ := Int.eq_ofNat_of_zero_le l2
  obtain ⟨nd, rfl⟩ := Int.eq_ofNat_of_zero_le l3
  have hla := pop_le na; have hlb := pop_le nb; have hlc := pop_le nc; have hld := pop_le nd
  have HLEN := Lib.hid (show S4.len ⟨na, nb, nc, nd⟩ = pop na + pop nb + pop nc + pop nd by simp [S4.len])
  have i0 : ∀ w, (Instr.index 27 (.agg #[.int .u64 na, .int .u64 nb, .int .u64 nc, .int .u64 nd]) (.int .i64 0)).run Tryz.prog w = .ok (.int .u64 na) w := fun _ => by kernel_rfl
  have i1 : ∀ w, (Instr.index 27 (.agg #[.int .u64 na, .int .u64 nb, .int .u64 nc, .int .u64 nd]) (.int .i64 1)).run Tryz.prog w = .ok (.int .u64 nb) w := fun _ => by kernel_rfl
  have i2 : ∀ w, (Instr.index 27 (.agg #[.int .u64 na, .int .u64 nb, .int .u64 nc, .int .u64 nd]) (.int .i64 2)).run Tryz.prog w = .ok (.int .u64 nc) w := fun _ => by kernel_rfl
  have i3 : ∀ w, (Instr.index 27 (.agg #[.int .u64 na, .int .u64 nb, .int .u64 nc, .int .u64 nd]) (.int .i64 3)).run Tryz.prog w = .ok (.int .u64 nd) w := fun _ => by kernel_rfl
  rw [S4.cells_eq]
  clear l0 l1 l2 l3
  have m0 : na < 18446744073709551616 := by omega
  have m1 : nb < 18446744073709551616 := by omega
  have m2 : nc < 18446744073709551616 := by omega
  have m3 : nd < 18446744073709551616 := by omega
  clear u0 u1 u2 u3
  go_enter Tryz.func49, Tryz.ntmps49
  go_wp2_with fail
  go_loop [3, 7] (fun n i => ∃ k : Nat, i = .int .i64 k ∧ k ≤ 4 ∧ ((k = 0 ∧ n = .int .i64 0) ∨ (k = 1 ∧ n = .int .i64 (pop na : Nat)) ∨ (k = 2 ∧ n = .int .i64 ((pop na + pop nb : Nat) : Int)) ∨ (k = 3 ∧ n = .int .i64 ((pop na + pop nb + pop nc : Nat) : Int)) ∨ (k = 4 ∧ n = .int .i64 ((pop na + pop nb + pop nc + pop nd : Nat) : Int)))) (fun _ i => 4 - (intOf i).toNat)
  case atStart => exact ⟨0, rfl, by omega, .inl ⟨rfl, rfl⟩⟩
  case round =>
    obtain ⟨k, rfl, hk, hh⟩ := hrel
    rcases hh with ⟨rfl, rfl⟩ | ⟨rfl, rfl⟩ | ⟨rfl, rfl⟩ | ⟨rfl, rfl⟩ | ⟨rfl, rfl⟩
    · go_wp2_with fail
      refine (ones_any na _ m0).mono ?_
      rintro e w1 ⟨rfl, rfl⟩
      go_wp2
      go_round
      case rel => exact ⟨1, by go_num, by omega, .inr (.inl ⟨rfl, by go_num⟩)⟩
      case measure => simp [intOf]
    · go_wp2_with fail
      refine (ones_any nb _ m1).mono ?_
      rintro e w1 ⟨rfl, rfl⟩
      go_wp2
      go_round
      case rel => exact ⟨2, by go_num, by omega, .inr (.inr (.inl ⟨rfl, by go_num⟩))⟩
      case measure => simp [intOf]
    · go_wp2_with fail
      refine (ones_any nc _ m2).mono ?_
      rintro e w1 ⟨rfl, rfl⟩
      go_wp2
      go_round
      case rel => exact ⟨3, by go_num, by omega, .inr (.inr (.inr (.inl ⟨rfl, by go_num⟩)))⟩
      case measure => simp [intOf]
    · go_wp2_with fail
      refine (ones_any nd _ m3).mono ?_
      rintro e w1 ⟨rfl, rfl⟩
      go_wp2
      go_round
      case rel => exact ⟨4, by go_num, by omega, .inr (.inr (.inr (.inr ⟨rfl, by go_num⟩)))⟩
      case measure => simp [intOf]
    · go_wp2
      go_ret
      exact ⟨ret_int (by rw [HLEN.out]; push_cast; rfl), (Fr.refl _ _).alloc _⟩

end Go.Proofs.YtlchaocpejfikaaGreatDoor

/-
  Counting a set's bytes one by one is what the bits' sum is. Plain: no walk.
-/
namespace Go.Proofs.YtlchaocpejfikaaGreatDoor

/-- How many below k are so. -/
def cntTo (f : Nat → Bool) : Nat → Nat
  | 0 => 0
  | k + 1 => cntTo f k + (if f k = true then 1 else 0)
theorem cntTo_le (f : Nat → Bool) (k : Nat) : cntTo f k ≤ k := by
  induction k with
  | zero => exact Nat.le_refl _
  | succ k ih => simp only [cntTo]; split <;> omega
theorem cntTo_add (f : Nat → Bool) (a b : Nat) : cntTo f (a + b) = cntTo f a + cntTo (fun i => f (a + i)) b := by
  induction b with
  | zero => rfl
  | succ b ih => rw [← Nat.add_assoc]; simp only [cntTo, ih]; omega
theorem cntTo_congr {f g : Nat → Bool} {k : Nat} (h : ∀ i, i < k → f i = g i) : cntTo f k = cntTo g k := by
  induction k with
  | zero => rfl
  | succ k ih => simp only [cntTo, ih (fun i hi => h i (by omega)), h k (by omega)]

theorem bit_if (m k : Nat) : (if decide (m / k % 2 = 1) = true then 1 else 0) = m / k % 2 := by
  by_cases h : m / k % 2 = 1
  · simp [h]
  · have : m / k % 2 = 0 := by omega
    simp [this]
theorem cnt8 (m : Nat) : cntTo (fun i => decide (m / 2 ^ i % 2 = 1)) 8 = pop8 (m % 256) := by
  simp only [cntTo, bit_if]
  unfold pop8
  simp only [Nat.reducePow]
  omega
theorem cnt64 (n : Nat) (_h : n < 18446744073709551616) : cntTo (fun i => decide (n / 2 ^ i % 2 = 1)) 64 = pop n := by
  have st : ∀ (m : Nat) (k : Nat), cntTo (fun i => decide (m / 2 ^ i % 2 = 1)) (8 + k) = pop8 (m % 256) + cntTo (fun i => decide (m / 256 / 2 ^ i % 2 = 1)) k := by
    intro m k
    rw [cntTo_add, cnt8]
    congr 1
    refine cntTo_congr fun i _ => ?_
    rw [Nat.div_div_eq_div_mul, show 2 ^ (8 + i) = 256 * 2 ^ i by rw [Nat.pow_add]]
  rw [show 64 = 8 + (8 + (8 + (8 + (8 + (8 + (8 + (8 + 0))))))) from rfl, st, st, st, st, st, st, st, st]
  simp only [cntTo, Nat.div_div_eq_div_mul]
  unfold pop
  simp only [Nat.reduceMul]
  omega

theorem wd_bit (n i : Nat) (hn : n < 18446744073709551616) (_hi : i < 64) : (wd (n : Int)).getLsbD i = decide (n / 2 ^ i % 2 = 1) := by
  have h1 : wd (n : Int) = BitVec.ofNat 64 n := by unfold wd; simp
  rw [h1, BitVec.getLsbD, BitVec.toNat_ofNat, Nat.mod_eq_of_lt (by simpa using hn), Nat.testBit_eq_decide_div_mod_eq]
theorem cnt_word {x : Int} (h : Fit x) : cntTo (fun i => (wd x).getLsbD i) 64 = pop x.toNat := by
  obtain ⟨n, rfl⟩ := Int.eq_ofNat_of_zero_le h.1
  have hn : n < 18446744073709551616 := by have := h.2; omega
  rw [cntTo_congr (fun i hi => wd_bit n i hn hi), cnt64 n hn]
  simp
/-- A set's bytes, counted. -/
theorem cnt_set {s : S4} (h : s.fit) : cntTo s.has 256 = s.len := by
  obtain ⟨h0, h1, h2, h3⟩ := h
  have e0 : cntTo (fun i => s.has i) 64 = pop s.a.toNat := by
    rw [← cnt_word h0]; refine cntTo_congr fun i hi => ?_
    unfold S4.has S4.word; rw [show i / 64 = 0 by omega, show i % 64 = i by omega]; rfl
  have e1 : cntTo (fun i => s.has (64 + i)) 64 = pop s.b.toNat := by
    rw [← cnt_word h1]; refine cntTo_congr fun i hi => ?_
    unfold S4.has S4.word; rw [show (64 + i) / 64 = 1 by omega, show (64 + i) % 64 = i by omega]; rfl
  have e2 : cntTo (fun i => s.has (64 + (64 + i))) 64 = pop s.c.toNat := by
    rw [← cnt_word h2]; refine cntTo_congr fun i hi => ?_
    unfold S4.has S4.word; rw [show (64 + (64 + i)) / 64 = 2 by omega, show (64 + (64 + i)) % 64 = i by omega]; rfl
  have e3 : cntTo (fun i => s.has (64 + (64 + (64 + i)))) 64 = pop s.d.toNat := by
    rw [← cnt_word h3]; refine cntTo_congr fun i hi => ?_
    unfold S4.has S4.word; rw [show (64 + (64 + (64 + i))) / 64 = 3 by omega, show (64 + (64 + (64 + i))) % 64 = i by omega]; rfl
  rw [show 256 = 64 + (64 + (64 + 64)) from rfl, cntTo_add, cntTo_add, cntTo_add]
  show cntTo (fun i => s.has i) 64 + _ = _
  rw [e0, e1, e2, e3]
  unfold S4.len; omega

end Go.Proofs.YtlchaocpejfikaaGreatDoor

/-
  Walks: Len of the document; Span of both sides.
-/
namespace Go.Proofs.YtlchaocpejfikaaGreatDoor
open Go.RowKit

theorem C4s {w : World} {b : Nat} {s : S4} {T : TypeId} (h : w.heap[b]? = some (.cells s.cells.toArray T (0, 0))) (w' : World) (f : Fr nob w w') :
    w'.cell? ⟨b, 0, none⟩ = some (.int .u64 s.a) ∧ w'.cell? ⟨b, 1, none⟩ = some (.int .u64 s.b) ∧ w'.cell? ⟨b, 2, none⟩ = some (.int .u64 s.c) ∧ w'.cell? ⟨b, 3, none⟩ = some (.int .u64 s.d) := by
  obtain ⟨c0, c1, c2, c3, _⟩ := cellS (f.heap h (fun x => x))
  exact ⟨c0, c1, c2, c3⟩

set_option maxRecDepth 100000 in
set_option maxHeartbeats 1000000 in
theorem lenR_any (s : S4) (w : World) (hs : s.fit) :
    Calls Tryz.prog 26 #[.agg s.cells.toArray] w fun e w' => e = .returned (.int .i64 s.len) ∧ Fr nob w w' := by
  have HS := Lib.hid hs
  have HB := Lib.hid (heap_alloc_new w (.cells s.cells.toArray 24))
  have HCNT := Lib.hid (cnt_set hs)
  clear hs
  rw [S4.cells_eq]
  go_enter Tryz.func26, Tryz.ntmps26
  go_wp2_with fail
  go_loopw [3, 5] (fun n i wr => ∃ k : Nat, i = .int .i64 k ∧ k ≤ 256 ∧ n = .int .i64 (cntTo s.has k : Nat) ∧ Fr nob (w.alloc (.cells s.cells.toArray 24)) wr) (fun _ i _ => 256 - (intOf i).toNat)
  case atStart => exact ⟨0, rfl, by omega, rfl, Fr.refl _ _⟩
  case round =>
    obtain ⟨k, rfl, hk, rfl, fr⟩ := hrel
    obtain ⟨c0, c1, c2, c3⟩ := C4s HB.out wr fr
    have FR := Lib.hid fr; clear fr
    have hle := cntTo_le s.has k
    have hce := Lib.hid (show cntTo s.has (k + 1) = cntTo s.has k + (if s.has k = true then 1 else 0) from rfl)
    obtain ⟨c, hc⟩ : ∃ c, cntTo s.has k = c := ⟨_, rfl⟩
    rw [hc] at hle hce ⊢
    have HC := Lib.hid hc; clear hc
    by_cases hlt : k < 256
    · have wk : IntKind.u8.wrap (k : Int) = (k : Int) := IntWalk.u8_in _ (by omega)
      go_wp2_with fail
      refine (hasR_any s k _ HS.out hlt).mono ?_
      obtain ⟨p, hp⟩ : ∃ p, s.has k = p := ⟨_, rfl⟩
      rw [hp] at hce ⊢
      rintro e w2 ⟨rfl, f2⟩
      have F2 := Lib.hid f2; clear f2 hp
      cases p with
      | true =>
        have HN := Lib.hid (show cntTo s.has (k + 1) = c + 1 from hce.out)
        go_wp2
        go_roundw
        case rel => exact ⟨k + 1, by go_num, by omega, by rw [HN.out]; go_num, FR.out.trans' F2.out⟩
        case measure => simp [intOf]; omega
      | false =>
        have HN := Lib.hid (show cntTo s.has (k + 1) = c from hce.out)
        go_wp2
        go_roundw
        case rel => exact ⟨k + 1, by go_num, by omega, by rw [HN.out], FR.out.trans' F2.out⟩
        case measure => simp [intOf]; omega
    · obtain rfl : k = 256 := by omega
      have HE := Lib.hid (show s.len = c by rw [← HCNT.out, HC.out])
      go_wp2
      go_ret
      exact ⟨ret_int (by rw [HE.out]), ((Fr.refl _ _).alloc _).trans' FR.out⟩

end Go.Proofs.YtlchaocpejfikaaGreatDoor

/-
  Walks: the predicates of the classes.
-/
namespace Go.Proofs.YtlchaocpejfikaaGreatDoor
open Go.RowKit

/-- A function of the program that answers a predicate of signs. -/
def IsRune (f : FuncId) (p : Int → Bool) : Prop := ∀ (r : Int) (w : World), Calls Tryz.prog f #[.int .i32 r] w fun e w' => e = .returned (.bool (p r)) ∧ w = w'

def btw (r a b : Int) : Bool := decide (a ≤ r) && decide (r ≤ b)

set_option maxRecDepth 100000 in
theorem between_any (r a b : Int) (w : World) : Calls Tryz.prog 142 #[.int .i32 r, .int .i32 a, .int .i32 b] w fun e w' => e = .returned (.bool (btw r a b)) ∧ w = w' := by
  by_cases h1 : a ≤ r
  · by_cases h2 : r ≤ b
    · have HB := Lib.hid (show btw r a b = true by simp [btw, h1, h2])
      go_enter Tryz.func142, Tryz.ntmps142
      go_wp2
      go_ret
      exact ⟨ret_bool (by rw [HB.out]), rfl⟩
    · have HB := Lib.hid (show btw r a b = false by simp [btw, h2])
      go_enter Tryz.func142, Tryz.ntmps142
      go_wp2
      go_ret
      exact ⟨ret_bool (by rw [HB.out]), rfl⟩
  · have HB := Lib.hid (show btw r a b = false by simp [btw, h1])
    go_enter Tryz.func142, Tryz.ntmps142
    go_wp2
    go_ret
    exact ⟨ret_bool HB.out.symm, rfl⟩

def isLower (r : Int) : Bool := btw r 97 122
def isUpper (r : Int) : Bool := btw r 65 90
def isDigit (r : Int) : Bool := btw r 48 57
def isAlpha (r : Int) : Bool := isLower r || isUpper r
def isAlnum (r : Int) : Bool := isAlpha r || isDigit r
def isBlank (r : Int) : Bool := decide (r = 32) || decide (r = 9)
def isGraph (r : Int) : Bool := btw r 33 126
def isXdigit (r : Int) : Bool := isDigit r || btw r 65 70 || btw r 97 102
def isSpace (r : Int) : Bool := isBlank r || btw r 10 13
def isCntrl (r : Int) : Bool := decide (r < 32) || decide (r = 127)
def isPrint (r : Int) : Bool := decide (r = 32) || isGraph r
def isPunct (r : Int) : Bool := isGraph r && !isAlnum r

set_option maxRecDepth 100000 in
theorem rune_lower : IsRune 136 isLower := by
  intro r w
  go_enter Tryz.func136, Tryz.ntmps136
  go_wp2_with fail
  refine (between_any r 97 122 w).mono ?_
  rintro e w1 ⟨rfl, rfl⟩
  go_wp2
  go_ret
  exact ⟨rfl, rfl⟩
set_option maxRecDepth 100000 in
theorem rune_upper : IsRune 137 isUpper := by
  intro r w
  go_enter Tryz.func137, Tryz.ntmps137
  go_wp2_with fail
  refine (between_any r 65 90 w).mono ?_
  rintro e w1 ⟨rfl, rfl⟩
  go_wp2
  go_ret
  exact ⟨rfl, rfl⟩
set_option maxRecDepth 100000 in
theorem rune_digit : IsRune 139 isDigit := by
  intro r w
  go_enter Tryz.func139, Tryz.ntmps139
  go_wp2_with fail
  refine (between_any r 48 57 w).mono ?_
  rintro e w1 ⟨rfl, rfl⟩
  go_wp2
  go_ret
  exact ⟨rfl, rfl⟩
set_option maxRecDepth 100000 in
theorem rune_graph : IsRune 147 isGraph := by
  intro r w
  go_enter Tryz.func147, Tryz.ntmps147
  go_wp2_with fail
  refine (between_any r 33 126 w).mono ?_
  rintro e w1 ⟨rfl, rfl⟩
  go_wp2
  go_ret
  exact ⟨rfl, rfl⟩
set_option maxRecDepth 100000 in
theorem rune_Alpha : IsRune 138 isAlpha := by
  intro r w
  obtain ⟨v, hv⟩ : ∃ v, isAlpha r = v := ⟨_, rfl⟩
  rw [hv]
  have HV := Lib.hid hv; clear hv
  obtain ⟨p0, hp0⟩ : ∃ p, isLower r = p := ⟨_, rfl⟩
  have HP0 := Lib.hid hp0; clear hp0
  obtain ⟨p1, hp1⟩ : ∃ p, isUpper r = p := ⟨_, rfl⟩
  have HP1 := Lib.hid hp1; clear hp1
  have HE := Lib.hid (show v = (p0 || p1) by rw [← HV.out]; unfold isAlpha; rw [HP0.out, HP1.out])
  go_enter Tryz.func138, Tryz.ntmps138
  go_wp2_with fail
  refine (rune_lower r w).mono ?_
  rw [HP0.out]
  rintro e w1 ⟨rfl, rfl⟩
  cases p0 with
  | true =>
    go_wp2
    go_ret
    exact ⟨ret_bool (by rw [HE.out]; simp), rfl⟩
  | false =>
    go_wp2_with fail
    refine (rune_upper r w).mono ?_
    rw [HP1.out]
    rintro e w2 ⟨rfl, rfl⟩
    go_wp2
    go_ret
    exact ⟨ret_bool (by rw [HE.out]; simp), rfl⟩
set_option maxRecDepth 100000 in
theorem rune_Alnum : IsRune 140 isAlnum := by
  intro r w
  obtain ⟨v, hv⟩ : ∃ v, isAlnum r = v := ⟨_, rfl⟩
  rw [hv]
  have HV := Lib.hid hv; clear hv
  obtain ⟨p0, hp0⟩ : ∃ p, isAlpha r = p := ⟨_, rfl⟩
  have HP0 := Lib.hid hp0; clear hp0
  obtain ⟨p1, hp1⟩ : ∃ p, isDigit r = p := ⟨_, rfl⟩
  have HP1 := Lib.hid hp1; clear hp1
  have HE := Lib.hid (show v = (p0 || p1) by rw [← HV.out]; unfold isAlnum; rw [HP0.out, HP1.out])
  go_enter Tryz.func140, Tryz.ntmps140
  go_wp2_with fail
  refine (rune_Alpha r w).mono ?_
  rw [HP0.out]
  rintro e w1 ⟨rfl, rfl⟩
  cases p0 with
  | true =>
    go_wp2
    go_ret
    exact ⟨ret_bool (by rw [HE.out]; simp), rfl⟩
  | false =>
    go_wp2_with fail
    refine (rune_digit r w).mono ?_
    rw [HP1.out]
    rintro e w2 ⟨rfl, rfl⟩
    go_wp2
    go_ret
    exact ⟨ret_bool (by rw [HE.out]; simp), rfl⟩
set_option maxRecDepth 100000 in
theorem rune_Xdigit : IsRune 141 isXdigit := by
  intro r w
  obtain ⟨v, hv⟩ : ∃ v, isXdigit r = v := ⟨_, rfl⟩
  rw [hv]
  have HV := Lib.hid hv; clear hv
  obtain ⟨p0, hp0⟩ : ∃ p, isDigit r = p := ⟨_, rfl⟩
  have HP0 := Lib.hid hp0; clear hp0
  obtain ⟨p1, hp1⟩ : ∃ p, btw r 65 70 = p := ⟨_, rfl⟩
  have HP1 := Lib.hid hp1; clear hp1
  obtain ⟨p2, hp2⟩ : ∃ p, btw r 97 102 = p := ⟨_, rfl⟩
  have HP2 := Lib.hid hp2; clear hp2
  have HE := Lib.hid (show v = (p0 || p1 || p2) by rw [← HV.out]; unfold isXdigit; rw [HP0.out, HP1.out, HP2.out])
  go_enter Tryz.func141, Tryz.ntmps141
  go_wp2_with fail
  refine (rune_digit r w).mono ?_
  rw [HP0.out]
  rintro e w1 ⟨rfl, rfl⟩
  cases p0 with
  | true =>
    go_wp2
    go_ret
    exact ⟨ret_bool (by rw [HE.out]; simp), rfl⟩
  | false =>
    go_wp2_with fail
    refine (between_any r 65 70 w).mono ?_
    rw [HP1.out]
    rintro e w2 ⟨rfl, rfl⟩
    cases p1 with
    | true =>
      go_wp2
      go_ret
      exact ⟨ret_bool (by rw [HE.out]; simp), rfl⟩
    | false =>
      go_wp2_with fail
      refine (between_any r 97 102 w).mono ?_
      rw [HP2.out]
      rintro e w3 ⟨rfl, rfl⟩
      go_wp2
      go_ret
      exact ⟨ret_bool (by rw [HE.out]; simp), rfl⟩
set_option maxRecDepth 100000 in
theorem rune_blank : IsRune 143 isBlank := by
  intro r w
  by_cases h1 : r = 32
  · have HE := Lib.hid (show isBlank r = true by simp [isBlank, h1])
    subst h1
    go_enter Tryz.func143, Tryz.ntmps143
    go_wp2
    go_ret
    exact ⟨ret_bool HE.out.symm, rfl⟩
  · have h2 : (r == 32) = false := by simpa using h1
    have HE := Lib.hid (show isBlank r = (r == 9) by rw [Bool.eq_iff_iff]; simp [isBlank, h1])
    clear h1
    go_enter Tryz.func143, Tryz.ntmps143
    go_wp2
    go_ret
    exact ⟨ret_bool HE.out.symm, rfl⟩
set_option maxRecDepth 100000 in
theorem rune_Space : IsRune 144 isSpace := by
  intro r w
  obtain ⟨v, hv⟩ : ∃ v, isSpace r = v := ⟨_, rfl⟩
  rw [hv]
  have HV := Lib.hid hv; clear hv
  obtain ⟨p0, hp0⟩ : ∃ p, isBlank r = p := ⟨_, rfl⟩
  have HP0 := Lib.hid hp0; clear hp0
  obtain ⟨p1, hp1⟩ : ∃ p, btw r 10 13 = p := ⟨_, rfl⟩
  have HP1 := Lib.hid hp1; clear hp1
  have HE := Lib.hid (show v = (p0 || p1) by rw [← HV.out]; unfold isSpace; rw [HP0.out, HP1.out])
  go_enter Tryz.func144, Tryz.ntmps144
  go_wp2_with fail
  refine (rune_blank r w).mono ?_
  rw [HP0.out]
  rintro e w1 ⟨rfl, rfl⟩
  cases p0 with
  | true =>
    go_wp2
    go_ret
    exact ⟨ret_bool (by rw [HE.out]; simp), rfl⟩
  | false =>
    go_wp2_with fail
    refine (between_any r 10 13 w).mono ?_
    rw [HP1.out]
    rintro e w2 ⟨rfl, rfl⟩
    go_wp2
    go_ret
    exact ⟨ret_bool (by rw [HE.out]; simp), rfl⟩
set_option maxRecDepth 100000 in
theorem rune_Cntrl : IsRune 145 isCntrl := by
  intro r w
  by_cases h1 : r < 32
  · have HE := Lib.hid (show isCntrl r = true by simp [isCntrl, h1])
    go_enter Tryz.func145, Tryz.ntmps145
    go_wp2
    go_ret
    exact ⟨ret_bool HE.out.symm, rfl⟩
  · have HE := Lib.hid (show isCntrl r = (r == 127) by rw [Bool.eq_iff_iff]; simp [isCntrl, h1])
    go_enter Tryz.func145, Tryz.ntmps145
    go_wp2
    go_ret
    exact ⟨ret_bool HE.out.symm, rfl⟩
set_option maxRecDepth 100000 in
theorem rune_Print : IsRune 146 isPrint := by
  intro r w
  by_cases h1 : r = 32
  · have HE := Lib.hid (show isPrint r = true by simp [isPrint, h1])
    subst h1
    go_enter Tryz.func146, Tryz.ntmps146
    go_wp2
    go_ret
    exact ⟨ret_bool HE.out.symm, rfl⟩
  · have h2 : (r == 32) = false := by simpa using h1
    have HE := Lib.hid (show isPrint r = isGraph r by simp [isPrint, h1])
    clear h1
    go_enter Tryz.func146, Tryz.ntmps146
    go_wp2_with fail
    refine (rune_graph r w).mono ?_
    rintro e w1 ⟨rfl, rfl⟩
    go_wp2
    go_ret
    exact ⟨ret_bool HE.out.symm, rfl⟩
set_option maxRecDepth 100000 in
theorem rune_Punct : IsRune 148 isPunct := by
  intro r w
  obtain ⟨p, hp⟩ : ∃ p, isGraph r = p := ⟨_, rfl⟩
  obtain ⟨q, hq⟩ : ∃ q, isAlnum r = q := ⟨_, rfl⟩
  have HE := Lib.hid (show isPunct r = (p && !q) by unfold isPunct; rw [hp, hq])
  have HP := Lib.hid hp; have HQ := Lib.hid hq; clear hp hq
  go_enter Tryz.func148, Tryz.ntmps148
  go_wp2_with fail
  refine (rune_graph r w).mono ?_
  rw [HP.out]
  rintro e w1 ⟨rfl, rfl⟩
  cases p with
  | false =>
    go_wp2
    go_ret
    exact ⟨ret_bool (by rw [HE.out]; rfl), rfl⟩
  | true =>
    go_wp2_with fail
    refine (rune_Alnum r w).mono ?_
    rw [HQ.out]
    rintro e w1 ⟨rfl, rfl⟩
    go_wp2
    go_ret
    exact ⟨ret_bool (by rw [HE.out]; simp), rfl⟩

end Go.Proofs.YtlchaocpejfikaaGreatDoor

/-
  Walks: octet.class, from a name to the predicate.
-/
namespace Go.Proofs.YtlchaocpejfikaaGreatDoor
open Go.RowKit

/-- A call of the value f enters the function f. -/
def IsFn (f : FuncId) : Prop := ∀ (r : Int) (w : World), (callFunc f #[.int .i32 r]).run Tryz.prog w = .ok (.enter f #[.int .i32 r]) w

/-- A value that is the function of a predicate, or no function. -/
def Cls (v : Value) (o : Option (Int → Bool)) : Prop :=
  (v = .nilFunc ∧ o = none) ∨ ∃ f p, v = .func (.func f) #[] #[] ∧ o = some p ∧ IsFn f ∧ IsRune f p

/-- What class answers by the name. -/
def clsOf (s : ByteArray) : Option (Int → Bool) :=
  if s.toList == [108, 111, 119, 101, 114] then some isLower
  else if s.toList == [117, 112, 112, 101, 114] then some isUpper
  else if s.toList == [97, 108, 112, 104, 97] then some isAlpha
  else if s.toList == [100, 105, 103, 105, 116] then some isDigit
  else if s.toList == [97, 108, 110, 117, 109] then some isAlnum
  else if s.toList == [120, 100, 105, 103, 105, 116] then some isXdigit
  else if s.toList == [98, 108, 97, 110, 107] then some isBlank
  else if s.toList == [115, 112, 97, 99, 101] then some isSpace
  else if s.toList == [99, 110, 116, 114, 108] then some isCntrl
  else if s.toList == [112, 114, 105, 110, 116] then some isPrint
  else if s.toList == [103, 114, 97, 112, 104] then some isGraph
  else if s.toList == [112, 117, 110, 99, 116] then some isPunct
  else none

set_option maxRecDepth 100000 in
theorem class_any (s : ByteArray) (w : World) : Calls Tryz.prog 119 #[.string s] w fun e w' => ∃ v, e = .returned v ∧ Cls v (clsOf s) ∧ w = w' := by
  go_enter Tryz.func119, Tryz.ntmps119
  go_wp2
  · go_ret
    exact ⟨_, rfl, Or.inr ⟨_, _, rfl, (by simp only [clsOf, *]; rfl), (fun _ _ => rfl), rune_lower⟩, rfl⟩
  · go_ret
    exact ⟨_, rfl, Or.inr ⟨_, _, rfl, (by simp only [clsOf, *]; rfl), (fun _ _ => rfl), rune_upper⟩, rfl⟩
  · go_ret
    exact ⟨_, rfl, Or.inr ⟨_, _, rfl, (by simp only [clsOf, *]; rfl), (fun _ _ => rfl), rune_Alpha⟩, rfl⟩
  · go_ret
    exact ⟨_, rfl, Or.inr ⟨_, _, rfl, (by simp only [clsOf, *]; rfl), (fun _ _ => rfl), rune_digit⟩, rfl⟩
  · go_ret
    exact ⟨_, rfl, Or.inr ⟨_, _, rfl, (by simp only [clsOf, *]; rfl), (fun _ _ => rfl), rune_Alnum⟩, rfl⟩
  · go_ret
    exact ⟨_, rfl, Or.inr ⟨_, _, rfl, (by simp only [clsOf, *]; rfl), (fun _ _ => rfl), rune_Xdigit⟩, rfl⟩
  · go_ret
    exact ⟨_, rfl, Or.inr ⟨_, _, rfl, (by simp only [clsOf, *]; rfl), (fun _ _ => rfl), rune_blank⟩, rfl⟩
  · go_ret
    exact ⟨_, rfl, Or.inr ⟨_, _, rfl, (by simp only [clsOf, *]; rfl), (fun _ _ => rfl), rune_Space⟩, rfl⟩
  · go_ret
    exact ⟨_, rfl, Or.inr ⟨_, _, rfl, (by simp only [clsOf, *]; rfl), (fun _ _ => rfl), rune_Cntrl⟩, rfl⟩
  · go_ret
    exact ⟨_, rfl, Or.inr ⟨_, _, rfl, (by simp only [clsOf, *]; rfl), (fun _ _ => rfl), rune_Print⟩, rfl⟩
  · go_ret
    exact ⟨_, rfl, Or.inr ⟨_, _, rfl, (by simp only [clsOf, *]; rfl), (fun _ _ => rfl), rune_graph⟩, rfl⟩
  · go_ret
    exact ⟨_, rfl, Or.inr ⟨_, _, rfl, (by simp only [clsOf, *]; rfl), (fun _ _ => rfl), rune_Punct⟩, rfl⟩
  · go_ret
    exact ⟨_, rfl, Or.inl ⟨rfl, (by simp only [clsOf, *]; rfl)⟩, rfl⟩

end Go.Proofs.YtlchaocpejfikaaGreatDoor
