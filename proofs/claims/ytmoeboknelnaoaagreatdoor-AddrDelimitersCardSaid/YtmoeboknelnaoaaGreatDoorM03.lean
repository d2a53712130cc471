/-
  Merged texts of this claim: EqS, OctetB, OctetC, OctetD, Count, OctetE, OctetF, OctetG, OctetH, OctetI, SetLaw.
-/
import Derived.Test.YtmoeboknelnaoaaGreatDoorChecked
import Derived.Laws.StructEq
import Derived.Test.YtmoeboknelnaoaaGreatDoorM01

/-
  '==' of two sets, of two structs that hold one.
-/
namespace Go.Proofs.YtmoeboknelnaoaaGreatDoor
open Go.RowKit

theorem all_range_int : ∀ (xs ys : List Int), xs.length = ys.length → ((List.range xs.length).all fun i => xs.getD i 0 == ys.getD i 0) = (xs == ys)
  | [], [], _ => rfl
  | x :: xs, y :: ys, h => by
    have ih := all_range_int xs ys (by simpa using h)
    rw [List.length_cons, List.range_succ_eq_map, List.all_cons, List.all_map]
    simp only [List.getD_cons_zero, Function.comp_def, List.getD_cons_succ, ih]
    simp [List.cons_beq_cons]
  | [], _ :: _, h => by simp at h
  | _ :: _, [], h => by simp at h

theorem run_equalIn_iarr {P : Program} (w : World) (k : IntKind) (d : Nat) (t e : TypeId) (n : Nat) (ht : P.underlying t = some (.array n e)) (he : P.underlying e = some (.int k)) (hsz : ∀ w, (sizeOf e).run P w = .ok 1 w)
    (xs ys : List Int) (hx : xs.length = n) (hy : ys.length = n) :
    (Op.equalIn (d + 2) t (.agg (xs.map (Value.int k)).toArray) (.agg (ys.map (Value.int k)).toArray)).run P w = .ok (xs == ys) w := by
  rw [← all_range_int xs ys (hx.trans hy.symm), hx, List.range_eq_range', Op.equalIn]
  simp only [Sem.run_bind, run_underlying ht, Result.andThen_ok, hsz, Std.Legacy.Range.forIn_eq_forIn_range', Std.Legacy.Range.size, Nat.sub_zero, Nat.add_sub_cancel, Nat.div_one]
  have hl : ∀ i ∈ List.range' 0 n 1, i < n := fun i hi => by simpa using (List.mem_range'_1.1 hi).2
  generalize List.range' 0 n 1 = l at hl ⊢
  induction l with
  | nil => simp
  | cons i l ih =>
    have hi : i < n := hl i (by simp)
    have px : (part e (xs.map (Value.int k)).toArray (i * 1)).run P w = .ok (.int k (xs.getD i 0)) w := by
      simp [part, isAgg, run_underlying he, List.getD, List.getElem?_eq_getElem (show i < xs.length by omega)]
    have py : (part e (ys.map (Value.int k)).toArray (i * 1)).run P w = .ok (.int k (ys.getD i 0)) w := by
      simp [part, isAgg, run_underlying he, List.getD, List.getElem?_eq_getElem (show i < ys.length by omega)]
    have pe : (Op.equalIn (d + 1) e (.int k (xs.getD i 0)) (.int k (ys.getD i 0))).run P w = .ok (xs.getD i 0 == ys.getD i 0) w := by
      rw [run_equalIn_int w d e k k _ _ he]
    simp only [List.forIn_cons, Sem.run_bind, px, py, pe, Result.andThen_ok, List.all_cons]
    cases hb : (xs.getD i 0 == ys.getD i 0)
    · simp
    · simp only [Bool.not_true, Bool.false_eq_true, if_false, Sem.run_pure, Result.andThen_ok, Bool.true_and]
      exact ih fun j hj => hl j (by simp [hj])

/-- Are two sets the same? -/
def S4.same (s t : S4) : Bool := decide (s = t)
theorem S4.same_iff {s t : S4} : s.same t = true ↔ s = t := by simp [S4.same]
theorem S4.same_refl (s : S4) : s.same s = true := by simp [S4.same]
theorem S4.eq_list (a b c d a' b' c' d' : Int) : ([a, b, c, d] == [a', b', c', d']) = S4.same ⟨a, b, c, d⟩ ⟨a', b', c', d'⟩ := by
  rw [Bool.eq_iff_iff, S4.same_iff]; simp

/-- Two sets. -/
theorem eq_set (a b c d a' b' c' d' : Int) (k : Nat) (w : World) : (Op.equalIn (k + 2) 91 (.agg #[.int .u64 a, .int .u64 b, .int .u64 c, .int .u64 d]) (.agg #[.int .u64 a', .int .u64 b', .int .u64 c', .int .u64 d'])).run Tryz.prog w = .ok (S4.same ⟨a, b, c, d⟩ ⟨a', b', c', d'⟩) w := by
  rw [← S4.eq_list]; exact run_equalIn_iarr w .u64 k 91 34 4 Tryz.underlying91 Tryz.underlying34 (fun _ => by kernel_rfl) [a, b, c, d] [a', b', c', d'] rfl rfl
theorem eq_setS (a b c d a' b' c' d' : Int) (k : Nat) (w : World) : (Op.equalIn (k + 2) 36 (.agg #[.int .u64 a, .int .u64 b, .int .u64 c, .int .u64 d]) (.agg #[.int .u64 a', .int .u64 b', .int .u64 c', .int .u64 d'])).run Tryz.prog w = .ok (S4.same ⟨a, b, c, d⟩ ⟨a', b', c', d'⟩) w := by
  rw [← S4.eq_list]; exact run_equalIn_iarr w .u64 k 36 34 4 Tryz.underlying36 Tryz.underlying34 (fun _ => by kernel_rfl) [a, b, c, d] [a', b', c', d'] rfl rfl
theorem eq_set_9999 (a b c d a' b' c' d' : Int) (w : World) : (Op.equalIn 9999 91 (.agg #[.int .u64 a, .int .u64 b, .int .u64 c, .int .u64 d]) (.agg #[.int .u64 a', .int .u64 b', .int .u64 c', .int .u64 d'])).run Tryz.prog w = .ok (S4.same ⟨a, b, c, d⟩ ⟨a', b', c', d'⟩) w := eq_set a b c d a' b' c' d' 9997 w
attribute [go_sem] eq_set_9999
theorem eq_set_10000 (a b c d a' b' c' d' : Int) (w : World) : (Op.equalIn 10000 91 (.agg #[.int .u64 a, .int .u64 b, .int .u64 c, .int .u64 d]) (.agg #[.int .u64 a', .int .u64 b', .int .u64 c', .int .u64 d'])).run Tryz.prog w = .ok (S4.same ⟨a, b, c, d⟩ ⟨a', b', c', d'⟩) w := eq_set a b c d a' b' c' d' 9998 w
attribute [go_sem] eq_set_10000
theorem eq_setS_9999 (a b c d a' b' c' d' : Int) (w : World) : (Op.equalIn 9999 36 (.agg #[.int .u64 a, .int .u64 b, .int .u64 c, .int .u64 d]) (.agg #[.int .u64 a', .int .u64 b', .int .u64 c', .int .u64 d'])).run Tryz.prog w = .ok (S4.same ⟨a, b, c, d⟩ ⟨a', b', c', d'⟩) w := eq_setS a b c d a' b' c' d' 9997 w
attribute [go_sem] eq_setS_9999
theorem eq_setS_10000 (a b c d a' b' c' d' : Int) (w : World) : (Op.equalIn 10000 36 (.agg #[.int .u64 a, .int .u64 b, .int .u64 c, .int .u64 d]) (.agg #[.int .u64 a', .int .u64 b', .int .u64 c', .int .u64 d'])).run Tryz.prog w = .ok (S4.same ⟨a, b, c, d⟩ ⟨a', b', c', d'⟩) w := eq_setS a b c d a' b' c' d' 9998 w
attribute [go_sem] eq_setS_10000

end Go.Proofs.YtmoeboknelnaoaaGreatDoor

/-
  Walks of package octet, and of the document's: And, Or, Not, Has, With.
-/
namespace Go.Proofs.YtmoeboknelnaoaaGreatDoor
open Go.RowKit

/-- Word by word, the first k of them. -/
def S4.mix (f : Int → Int → Int) (k : Nat) (s t : S4) : S4 :=
  ⟨if 0 < k then f s.a t.a else s.a, if 1 < k then f s.b t.b else s.b, if 2 < k then f s.c t.c else s.c, if 3 < k then f s.d t.d else s.d⟩
def S4.and (s t : S4) : S4 := ⟨bits .and .u64 s.a t.a, bits .and .u64 s.b t.b, bits .and .u64 s.c t.c, bits .and .u64 s.d t.d⟩
def S4.or (s t : S4) : S4 := ⟨bits .or .u64 s.a t.a, bits .or .u64 s.b t.b, bits .or .u64 s.c t.c, bits .or .u64 s.d t.d⟩

abbrev setFour (w : World) (b : Nat) (v0 v1 v2 v3 : Value) : World := (((w.setCell ⟨b, 0, none⟩ v0).setCell ⟨b, 1, none⟩ v1).setCell ⟨b, 2, none⟩ v2).setCell ⟨b, 3, none⟩ v3
theorem setFour_heap {w : World} {b : Nat} {a0 a1 a2 a3 : Value} {T : TypeId} {fr : Nat × Nat} (h : w.heap[b]? = some (.cells #[a0, a1, a2, a3] T fr)) (v0 v1 v2 v3 : Value) :
    (setFour w b v0 v1 v2 v3).heap[b]? = some (.cells #[v0, v1, v2, v3] T fr) := by
  have h0 : (w.setCell ⟨b, 0, none⟩ v0).heap[b]? = some (.cells #[v0, a1, a2, a3] T fr) := heap_setCell_at h 0 v0
  have h1 : ((w.setCell ⟨b, 0, none⟩ v0).setCell ⟨b, 1, none⟩ v1).heap[b]? = some (.cells #[v0, v1, a2, a3] T fr) := heap_setCell_at h0 1 v1
  have h2 : (((w.setCell ⟨b, 0, none⟩ v0).setCell ⟨b, 1, none⟩ v1).setCell ⟨b, 2, none⟩ v2).heap[b]? = some (.cells #[v0, v1, v2, a3] T fr) := heap_setCell_at h1 2 v2
  exact heap_setCell_at h2 3 v3
theorem setFour_fr {w a : World} {b : Nat} (f : Fr nob a w) (hb : a.heap.size ≤ b) (v0 v1 v2 v3 : Value) : Fr nob a (setFour w b v0 v1 v2 v3) := by
  have h : ∀ (x : World) (j : Nat) (v : Value), Fr nob a x → Fr nob a (x.setCell ⟨b, j, none⟩ v) := fun x j v hx => hx.setCell (p := ⟨b, j, none⟩) (fun h => absurd h (Nat.not_lt.2 hb)) v
  exact h _ _ _ (h _ _ _ (h _ _ _ (h _ _ _ f)))

/-- Three variables: two sets, and a result. -/
abbrev box3 (w : World) (s t : S4) (T : TypeId) : World := ((w.alloc (.cells s.cells.toArray T)).alloc (.cells t.cells.toArray T)).alloc (.cells S4.zero.cells.toArray T)
theorem box3_fr (w : World) (s t : S4) (T : TypeId) : Fr nob w (box3 w s t T) := (((Fr.refl _ _).alloc _).alloc _).alloc _
theorem box3_a (w : World) (s t : S4) (T : TypeId) : (box3 w s t T).heap[w.heap.size]? = some (.cells s.cells.toArray T (0, 0)) := heap_alloc_lt _ (heap_alloc_lt _ (heap_alloc_new _ _))
theorem box3_b (w : World) (s t : S4) (T : TypeId) : (box3 w s t T).heap[w.heap.size + 1]? = some (.cells t.cells.toArray T (0, 0)) := by
  refine heap_alloc_lt _ ?_
  have := heap_alloc_new (w.alloc (.cells s.cells.toArray T)) (.cells t.cells.toArray T); simpa using this
theorem box3_c (w : World) (s t : S4) (T : TypeId) : (box3 w s t T).heap[w.heap.size + 2]? = some (.cells S4.zero.cells.toArray T (0, 0)) := by
  have := heap_alloc_new ((w.alloc (.cells s.cells.toArray T)).alloc (.cells t.cells.toArray T)) (.cells S4.zero.cells.toArray T); simpa using this
theorem box3_size (w : World) (s t : S4) (T : TypeId) : (box3 w s t T).heap.size = w.heap.size + 3 := by simp

set_option maxRecDepth 100000 in
set_option maxHeartbeats 1000000 in
theorem or_any (s t : S4) (w : World) :
    Calls Tryz.prog 159 #[.agg s.cells.toArray, .agg t.cells.toArray] w fun e w' => e = .returned (.agg (s.or t).cells.toArray) ∧ Fr nob w w' := by
  have HA := Lib.hid (box3_a w s t 91); have HB := Lib.hid (box3_b w s t 91); have HC := Lib.hid (box3_c w s t 91)
  have F0 := Lib.hid (box3_fr w s t 91)
  have hsz := Lib.hid (box3_size w s t 91)
  rw [S4.cells_eq s, S4.cells_eq t]
  go_enter Tryz.func159, Tryz.ntmps159
  go_wp2_with fail
  obtain ⟨w0, hw0⟩ : ∃ w0, w0 = box3 w s t 91 := ⟨_, rfl⟩
  change Code.wp _ _ _ _ (box3 w s t 91)
  rw [← hw0] at HA HB HC F0 hsz ⊢
  clear hw0
  go_loopw [6] (fun i wr => ∃ k : Nat, i = .int .i64 k ∧ k ≤ 4 ∧ wr.heap[w.heap.size]? = some (.cells (S4.mix (bits .or .u64) k s t).cells.toArray 91 (0, 0)) ∧ Fr (fun j => j = w.heap.size) w0 wr) (fun i _ => 4 - (intOf i).toNat)
  case atStart => exact ⟨0, rfl, by omega, HA.out, Fr.refl _ _⟩
  case round =>
    obtain ⟨k, rfl, hk, hh, fr⟩ := hrel
    have hhb := fr.heap HB.out (by omega)
    have hhc := fr.heap HC.out (by omega)
    obtain ⟨c0, c1, c2, c3, z0, z1, z2, z3⟩ := cellS hh
    obtain ⟨g0, g1, g2, g3, _⟩ := cellS hhb
    have HH := Lib.hid hh; have FR := Lib.hid fr; have HHB := Lib.hid hhb; have HHC := Lib.hid hhc
    clear hh fr hhb hhc
    have hkk : k = 0 ∨ k = 1 ∨ k = 2 ∨ k = 3 ∨ k = 4 := by omega
    rcases hkk with rfl | rfl | rfl | rfl | rfl
    · simp only [S4.mix, Nat.lt_irrefl, Nat.zero_lt_one, if_true, if_false, Nat.not_lt_zero, Nat.reduceLT] at c0 c1 c2 c3
      go_wp2_with fail
      go_still_tail 6, (by kernel_rfl)
      change wpList _ _ _ _ _ wr.drew
      go_wp2
      go_roundw
      case rel => exact ⟨1, by go_num, by omega, heap_setCell_at HH.out 0 (.int .u64 (bits .or .u64 s.a t.a)), (FR.out.setCell (p := ⟨w.heap.size, 0, none⟩) (fun _ => rfl) _).drew⟩
      case measure => simp [intOf]
    · simp only [S4.mix, Nat.lt_irrefl, Nat.zero_lt_one, if_true, if_false, Nat.not_lt_zero, Nat.reduceLT] at c0 c1 c2 c3
      go_wp2_with fail
      go_still_tail 6, (by kernel_rfl)
      change wpList _ _ _ _ _ wr.drew
      go_wp2
      go_roundw
      case rel => exact ⟨2, by go_num, by omega, heap_setCell_at HH.out 1 (.int .u64 (bits .or .u64 s.b t.b)), (FR.out.setCell (p := ⟨w.heap.size, 1, none⟩) (fun _ => rfl) _).drew⟩
      case measure => simp [intOf]
    · simp only [S4.mix, Nat.lt_irrefl, Nat.zero_lt_one, if_true, if_false, Nat.not_lt_zero, Nat.reduceLT] at c0 c1 c2 c3
      go_wp2_with fail
      go_still_tail 6, (by kernel_rfl)
      change wpList _ _ _ _ _ wr.drew
      go_wp2
      go_roundw
      case rel => exact ⟨3, by go_num, by omega, heap_setCell_at HH.out 2 (.int .u64 (bits .or .u64 s.c t.c)), (FR.out.setCell (p := ⟨w.heap.size, 2, none⟩) (fun _ => rfl) _).drew⟩
      case measure => simp [intOf]
    · simp only [S4.mix, Nat.lt_irrefl, Nat.zero_lt_one, if_true, if_false, Nat.not_lt_zero, Nat.reduceLT] at c0 c1 c2 c3
      go_wp2_with fail
      go_still_tail 6, (by kernel_rfl)
      change wpList _ _ _ _ _ wr.drew
      go_wp2
      go_roundw
      case rel => exact ⟨4, by go_num, by omega, heap_setCell_at HH.out 3 (.int .u64 (bits .or .u64 s.d t.d)), (FR.out.setCell (p := ⟨w.heap.size, 3, none⟩) (fun _ => rfl) _).drew⟩
      case measure => simp [intOf]
    · obtain ⟨_, _, _, _, y0, y1, y2, y3⟩ := cellS HHC.out
      obtain ⟨x0, x1, x2, x3, _⟩ := cellS HHC.out
      have FW := Lib.hid (F0.out.trans FR.out (fun i hi e => by omega))
      simp only [S4.mix, Nat.lt_irrefl, Nat.zero_lt_one, if_true, if_false, Nat.not_lt_zero, Nat.reduceLT] at c0 c1 c2 c3
      go_wp2
      (try simp only [Exit.inBlock, Exit.then])
      exact bodyPost_ret (results_set (s := s.or t) rfl rfl (setFour_heap HHC.out _ _ _ _)) rfl ⟨rfl, setFour_fr FW.out (by omega) _ _ _ _⟩

end Go.Proofs.YtmoeboknelnaoaaGreatDoor

/-
  Walks of package octet, and of the document's: Has, Not; And, Or, With of the document.
-/
namespace Go.Proofs.YtmoeboknelnaoaaGreatDoor
open Go.RowKit

/-- Do all four words fit? -/
def S4.fit (s : S4) : Prop := Fit s.a ∧ Fit s.b ∧ Fit s.c ∧ Fit s.d
/-- The word that tells of a byte. -/
def S4.word (s : S4) (d : Nat) : Int := match d / 64 with
  | 0 => s.a
  | 1 => s.b
  | 2 => s.c
  | _ => s.d
/-- Is a byte in a set? -/
def S4.has (s : S4) (d : Nat) : Bool := (wd (s.word d)).getLsbD (d % 64)
def S4.not (s : S4) : S4 := ⟨bits .xor .u64 IntKind.u64.max s.a, bits .xor .u64 IntKind.u64.max s.b, bits .xor .u64 IntKind.u64.max s.c, bits .xor .u64 IntKind.u64.max s.d⟩

set_option maxRecDepth 100000 in
set_option maxHeartbeats 1000000 in
theorem has_any (s : S4) (d : Nat) (w : World) (hs : s.fit) (hd : d < 256) :
    Calls Tryz.prog 168 #[.agg s.cells.toArray, .int .u8 d] w fun e w' => e = .returned (.bool (s.has d)) ∧ Fr nob w w' := by
  rw [S4.cells_eq s]
  have hdiv : Int.tdiv (d : Int) 64 = ((d / 64 : Nat) : Int) := (Int.ofNat_tdiv d 64).symm
  have hmod : Int.tmod (d : Int) 64 = ((d % 64 : Nat) : Int) := (Int.ofNat_tmod d 64).symm
  have hq : d / 64 = 0 ∨ d / 64 = 1 ∨ d / 64 = 2 ∨ d / 64 = 3 := by omega
  have hr : d % 64 < 64 := by omega
  have w0 : IntKind.u8.wrap 0 = 0 := by decide
  have w1 : IntKind.u8.wrap 1 = 1 := by decide
  have w2 : IntKind.u8.wrap 2 = 2 := by decide
  have w3 : IntKind.u8.wrap 3 = 3 := by decide
  have wm : IntKind.u8.wrap ((d % 64 : Nat) : Int) = ((d % 64 : Nat) : Int) := IntWalk.u8_in _ (by omega)
  have wm' : IntKind.u8.wrap ((d : Int) % 64) = ((d % 64 : Nat) : Int) := by rw [show (d : Int) % 64 = ((d % 64 : Nat) : Int) by omega]; exact wm
  have HS := Lib.hid hs; clear hs
  obtain ⟨p0, p1, p2, p3⟩ := HS.out
  have n0 : 0 ≤ s.a := p0.1
  have n1 : 0 ≤ s.b := p1.1
  have n2 : 0 ≤ s.c := p2.1
  have n3 : 0 ≤ s.d := p3.1
  clear p0 p1 p2 p3
  rcases hq with hq | hq | hq | hq
  · have HH := Lib.hid (show s.has d = (wd s.a).getLsbD (d % 64) by unfold S4.has S4.word; rw [hq]; rfl)
    have HB := Lib.hid (bit_and HS.out.1 hr)
    rw [hq] at hdiv
    clear hq
    go_enter Tryz.func168, Tryz.ntmps168
    go_wp2
    go_ret
    exact ⟨ret_bool (by rw [HH.out]; exact HB.out), (Fr.refl _ _).alloc _⟩
  · have HH := Lib.hid (show s.has d = (wd s.b).getLsbD (d % 64) by unfold S4.has S4.word; rw [hq]; rfl)
    have HB := Lib.hid (bit_and HS.out.2.1 hr)
    rw [hq] at hdiv
    clear hq
    go_enter Tryz.func168, Tryz.ntmps168
    go_wp2
    go_ret
    exact ⟨ret_bool (by rw [HH.out]; exact HB.out), (Fr.refl _ _).alloc _⟩
  · have HH := Lib.hid (show s.has d = (wd s.c).getLsbD (d % 64) by unfold S4.has S4.word; rw [hq]; rfl)
    have HB := Lib.hid (bit_and HS.out.2.2.1 hr)
    rw [hq] at hdiv
    clear hq
    go_enter Tryz.func168, Tryz.ntmps168
    go_wp2
    go_ret
    exact ⟨ret_bool (by rw [HH.out]; exact HB.out), (Fr.refl _ _).alloc _⟩
  · have HH := Lib.hid (show s.has d = (wd s.d).getLsbD (d % 64) by unfold S4.has S4.word; rw [hq]; rfl)
    have HB := Lib.hid (bit_and HS.out.2.2.2 hr)
    rw [hq] at hdiv
    clear hq
    go_enter Tryz.func168, Tryz.ntmps168
    go_wp2
    go_ret
    exact ⟨ret_bool (by rw [HH.out]; exact HB.out), (Fr.refl _ _).alloc _⟩

/-- Two variables: a set, and a result. -/
abbrev bx2 (w : World) (s : S4) (T : TypeId) : World := (w.alloc (.cells s.cells.toArray T)).alloc (.cells S4.zero.cells.toArray T)
theorem bx2_fr (w : World) (s : S4) (T : TypeId) : Fr nob w (bx2 w s T) := ((Fr.refl _ _).alloc _).alloc _
theorem bx2_a (w : World) (s : S4) (T : TypeId) : (bx2 w s T).heap[w.heap.size]? = some (.cells s.cells.toArray T (0, 0)) := heap_alloc_lt _ (heap_alloc_new _ _)
theorem bx2_b (w : World) (s : S4) (T : TypeId) : (bx2 w s T).heap[w.heap.size + 1]? = some (.cells S4.zero.cells.toArray T (0, 0)) := by
  have := heap_alloc_new (w.alloc (.cells s.cells.toArray T)) (.cells S4.zero.cells.toArray T); simpa using this
theorem bx2_size (w : World) (s : S4) (T : TypeId) : (bx2 w s T).heap.size = w.heap.size + 2 := by simp
def S4.mix1 (f : Int → Int) (k : Nat) (s : S4) : S4 :=
  ⟨if 0 < k then f s.a else s.a, if 1 < k then f s.b else s.b, if 2 < k then f s.c else s.c, if 3 < k then f s.d else s.d⟩

set_option maxRecDepth 100000 in
set_option maxHeartbeats 1000000 in
theorem not_any (s : S4) (w : World) :
    Calls Tryz.prog 160 #[.agg s.cells.toArray] w fun e w' => e = .returned (.agg s.not.cells.toArray) ∧ Fr nob w w' := by
  have HA := Lib.hid (bx2_a w s 91); have HC := Lib.hid (bx2_b w s 91)
  have F0 := Lib.hid (bx2_fr w s 91)
  have hsz := Lib.hid (bx2_size w s 91)
  rw [S4.cells_eq s]
  go_enter Tryz.func160, Tryz.ntmps160
  go_wp2_with fail
  obtain ⟨w0, hw0⟩ : ∃ w0, w0 = bx2 w s 91 := ⟨_, rfl⟩
  change Code.wp _ _ _ _ (bx2 w s 91)
  rw [← hw0] at HA HC F0 hsz ⊢
  clear hw0
  go_loopw [4] (fun i wr => ∃ k : Nat, i = .int .i64 k ∧ k ≤ 4 ∧ wr.heap[w.heap.size]? = some (.cells (S4.mix1 (bits .xor .u64 IntKind.u64.max) k s).cells.toArray 91 (0, 0)) ∧ Fr (fun j => j = w.heap.size) w0 wr) (fun i _ => 4 - (intOf i).toNat)
  case atStart => exact ⟨0, rfl, by omega, HA.out, Fr.refl _ _⟩
  case round =>
    obtain ⟨k, rfl, hk, hh, fr⟩ := hrel
    have hhc := fr.heap HC.out (by omega)
    obtain ⟨c0, c1, c2, c3, z0, z1, z2, z3⟩ := cellS hh
    have HH := Lib.hid hh; have FR := Lib.hid fr; have HHC := Lib.hid hhc
    clear hh fr hhc
    have hkk : k = 0 ∨ k = 1 ∨ k = 2 ∨ k = 3 ∨ k = 4 := by omega
    rcases hkk with rfl | rfl | rfl | rfl | rfl
    · simp only [S4.mix1, Nat.lt_irrefl, Nat.zero_lt_one, if_true, if_false, Nat.not_lt_zero, Nat.reduceLT] at c0 c1 c2 c3
      go_wp2
      go_roundw
      case rel => exact ⟨1, by go_num, by omega, heap_setCell_at HH.out 0 (.int .u64 (bits .xor .u64 IntKind.u64.max s.a)), (FR.out.setCell (p := ⟨w.heap.size, 0, none⟩) (fun _ => rfl) _)⟩
      case measure => simp [intOf]
    · simp only [S4.mix1, Nat.lt_irrefl, Nat.zero_lt_one, if_true, if_false, Nat.not_lt_zero, Nat.reduceLT] at c0 c1 c2 c3
      go_wp2
      go_roundw
      case rel => exact ⟨2, by go_num, by omega, heap_setCell_at HH.out 1 (.int .u64 (bits .xor .u64 IntKind.u64.max s.b)), (FR.out.setCell (p := ⟨w.heap.size, 1, none⟩) (fun _ => rfl) _)⟩
      case measure => simp [intOf]
    · simp only [S4.mix1, Nat.lt_irrefl, Nat.zero_lt_one, if_true, if_false, Nat.not_lt_zero, Nat.reduceLT] at c0 c1 c2 c3
      go_wp2
      go_roundw
      case rel => exact ⟨3, by go_num, by omega, heap_setCell_at HH.out 2 (.int .u64 (bits .xor .u64 IntKind.u64.max s.c)), (FR.out.setCell (p := ⟨w.heap.size, 2, none⟩) (fun _ => rfl) _)⟩
      case measure => simp [intOf]
    · simp only [S4.mix1, Nat.lt_irrefl, Nat.zero_lt_one, if_true, if_false, Nat.not_lt_zero, Nat.reduceLT] at c0 c1 c2 c3
      go_wp2
      go_roundw
      case rel => exact ⟨4, by go_num, by omega, heap_setCell_at HH.out 3 (.int .u64 (bits .xor .u64 IntKind.u64.max s.d)), (FR.out.setCell (p := ⟨w.heap.size, 3, none⟩) (fun _ => rfl) _)⟩
      case measure => simp [intOf]
    · obtain ⟨x0, x1, x2, x3, y0, y1, y2, y3⟩ := cellS HHC.out
      have FW := Lib.hid (F0.out.trans FR.out (fun i hi e => by omega))
      simp only [S4.mix1, Nat.lt_irrefl, Nat.zero_lt_one, if_true, if_false, Nat.not_lt_zero, Nat.reduceLT] at c0 c1 c2 c3
      go_wp2
      (try simp only [Exit.inBlock, Exit.then])
      exact bodyPost_ret (results_set (s := s.not) rfl rfl (setFour_heap HHC.out _ _ _ _)) rfl ⟨rfl, setFour_fr FW.out (by omega) _ _ _ _⟩

/-- A set of the document's that is handed back out of a variable. -/
theorem results_setR {fn : Func} {p : Tmp} (h : fn.results = #[.cell p 36]) {tmps : Array Value} {r : Nat} (ht : tmps.getD p undef = .pointer (some ⟨r, 0, none⟩)) {W : World} {s : S4}
    (hb : W.heap[r]? = some (.cells s.cells.toArray 36 (0, 0))) : (results fn tmps).run Tryz.prog W = .ok (.agg s.cells.toArray) W := by
  obtain ⟨c0, c1, c2, c3, _⟩ := cellS hb
  have ht' : tmps[p]?.getD undef = .pointer (some ⟨r, 0, none⟩) := by rw [← ht]; simp
  simp only [results, h]
  simp [ht', go_sem, c0, c1, c2, c3, S4.cells]

set_option maxRecDepth 100000 in
set_option maxHeartbeats 1000000 in
theorem withR_any (s : S4) (d : Nat) (w : World) (hd : d < 256) :
    Calls Tryz.prog 54 #[.agg s.cells.toArray, .int .u8 d] w fun e w' => e = .returned (.agg (s.put d).cells.toArray) ∧ Fr nob w w' := by
  rw [S4.cells_eq s]
  have hdiv : Int.tdiv (d : Int) 64 = ((d / 64 : Nat) : Int) := (Int.ofNat_tdiv d 64).symm
  have hmod : Int.tmod (d : Int) 64 = ((d % 64 : Nat) : Int) := (Int.ofNat_tmod d 64).symm
  have hq : d / 64 = 0 ∨ d / 64 = 1 ∨ d / 64 = 2 ∨ d / 64 = 3 := by omega
  have hr : d % 64 < 64 := by omega
  have w0 : IntKind.u8.wrap 0 = 0 := by decide
  have w1 : IntKind.u8.wrap 1 = 1 := by decide
  have w2 : IntKind.u8.wrap 2 = 2 := by decide
  have w3 : IntKind.u8.wrap 3 = 3 := by decide
  have wm : IntKind.u8.wrap ((d % 64 : Nat) : Int) = ((d % 64 : Nat) : Int) := IntWalk.u8_in _ (by omega)
  have wm' : IntKind.u8.wrap ((d : Int) % 64) = ((d % 64 : Nat) : Int) := by rw [show (d : Int) % 64 = ((d % 64 : Nat) : Int) by omega]; exact wm
  rcases hq with hq | hq | hq | hq
  all_goals
    have HQ := Lib.hid hq
    rw [hq] at hdiv
    clear hq
    go_enter Tryz.func54, Tryz.ntmps54
    go_wp2
    (try simp only [Exit.inBlock, Exit.then])
    refine bodyPost_ret (results_setR (s := s.put d) rfl rfl ?_) rfl ⟨rfl, ?_⟩
    · have hp : s.put d = s.put d := rfl
      unfold S4.put
      rw [HQ.out]
      exact heap_alloc_new' _ _ _ (by simp)
    · exact ((Fr.refl _ _).alloc _).alloc _

end Go.Proofs.YtmoeboknelnaoaaGreatDoor

/-
  Walks: OnesCount64; Len of both sides.
-/
namespace Go.Proofs.YtmoeboknelnaoaaGreatDoor
open Go.RowKit

/-- How many bytes a set has. -/
def S4.len (s : S4) : Nat := pop s.a.toNat + pop s.b.toNat + pop s.c.toNat + pop s.d.toNat
end Go.Proofs.YtmoeboknelnaoaaGreatDoor

/-
  Counting a set's bytes one by one is what the bits' sum is. Plain: no walk.
-/
namespace Go.Proofs.YtmoeboknelnaoaaGreatDoor

end Go.Proofs.YtmoeboknelnaoaaGreatDoor

/-
  Walks: Len of the document; Span of both sides.
-/
namespace Go.Proofs.YtmoeboknelnaoaaGreatDoor
open Go.RowKit

end Go.Proofs.YtmoeboknelnaoaaGreatDoor

/-
  Walks: the predicates of the classes.
-/
namespace Go.Proofs.YtmoeboknelnaoaaGreatDoor
open Go.RowKit

/-- A function of the program that answers a predicate of signs. -/
def IsRune (f : FuncId) (p : Int → Bool) : Prop := ∀ (r : Int) (w : World), Calls Tryz.prog f #[.int .i32 r] w fun e w' => e = .returned (.bool (p r)) ∧ w = w'

def btw (r a b : Int) : Bool := decide (a ≤ r) && decide (r ≤ b)

set_option maxRecDepth 100000 in
theorem between_any (r a b : Int) (w : World) : Calls Tryz.prog 188 #[.int .i32 r, .int .i32 a, .int .i32 b] w fun e w' => e = .returned (.bool (btw r a b)) ∧ w = w' := by
  by_cases h1 : a ≤ r
  · by_cases h2 : r ≤ b
    · have HB := Lib.hid (show btw r a b = true by simp [btw, h1, h2])
      go_enter Tryz.func188, Tryz.ntmps188
      go_wp2
      go_ret
      exact ⟨ret_bool (by rw [HB.out]), rfl⟩
    · have HB := Lib.hid (show btw r a b = false by simp [btw, h2])
      go_enter Tryz.func188, Tryz.ntmps188
      go_wp2
      go_ret
      exact ⟨ret_bool (by rw [HB.out]), rfl⟩
  · have HB := Lib.hid (show btw r a b = false by simp [btw, h1])
    go_enter Tryz.func188, Tryz.ntmps188
    go_wp2
    go_ret
    exact ⟨ret_bool HB.out.symm, rfl⟩

def isLower (r : Int) : Bool := btw r 97 122
def isUpper (r : Int) : Bool := btw r 65 90
def isDigit (r : Int) : Bool := btw r 48 57
def isAlpha (r : Int) : Bool := isLower r || isUpper r
def isAlnum (r : Int) : Bool := isAlpha r || isDigit r
def isBlank (r : Int) : Bool := decide (r = 32) || decide (r = 9)
def isGraph (r : Int) : Bool := btw r 33 126
def isXdigit (r : Int) : Bool := isDigit r || btw r 65 70 || btw r 97 102
def isSpace (r : Int) : Bool := isBlank r || btw r 10 13
def isCntrl (r : Int) : Bool := decide (r < 32) || decide (r = 127)
def isPrint (r : Int) : Bool := decide (r = 32) || isGraph r
def isPunct (r : Int) : Bool := isGraph r && !isAlnum r

set_option maxRecDepth 100000 in
theorem rune_lower : IsRune 182 isLower := by
  intro r w
  go_enter Tryz.func182, Tryz.ntmps182
  go_wp2_with fail
  refine (between_any r 97 122 w).mono ?_
  rintro e w1 ⟨rfl, rfl⟩
  go_wp2
  go_ret
  exact ⟨rfl, rfl⟩
set_option maxRecDepth 100000 in
theorem rune_upper : IsRune 183 isUpper := by
  intro r w
  go_enter Tryz.func183, Tryz.ntmps183
  go_wp2_with fail
  refine (between_any r 65 90 w).mono ?_
  rintro e w1 ⟨rfl, rfl⟩
  go_wp2
  go_ret
  exact ⟨rfl, rfl⟩
set_option maxRecDepth 100000 in
theorem rune_digit : IsRune 185 isDigit := by
  intro r w
  go_enter Tryz.func185, Tryz.ntmps185
  go_wp2_with fail
  refine (between_any r 48 57 w).mono ?_
  rintro e w1 ⟨rfl, rfl⟩
  go_wp2
  go_ret
  exact ⟨rfl, rfl⟩
set_option maxRecDepth 100000 in
theorem rune_graph : IsRune 193 isGraph := by
  intro r w
  go_enter Tryz.func193, Tryz.ntmps193
  go_wp2_with fail
  refine (between_any r 33 126 w).mono ?_
  rintro e w1 ⟨rfl, rfl⟩
  go_wp2
  go_ret
  exact ⟨rfl, rfl⟩
set_option maxRecDepth 100000 in
theorem rune_Alpha : IsRune 184 isAlpha := by
  intro r w
  obtain ⟨v, hv⟩ : ∃ v, isAlpha r = v := ⟨_, rfl⟩
  rw [hv]
  have HV := Lib.hid hv; clear hv
  obtain ⟨p0, hp0⟩ : ∃ p, isLower r = p := ⟨_, rfl⟩
  have HP0 := Lib.hid hp0; clear hp0
  obtain ⟨p1, hp1⟩ : ∃ p, isUpper r = p := ⟨_, rfl⟩
  have HP1 := Lib.hid hp1; clear hp1
  have HE := Lib.hid (show v = (p0 || p1) by rw [← HV.out]; unfold isAlpha; rw [HP0.out, HP1.out])
  go_enter Tryz.func184, Tryz.ntmps184
  go_wp2_with fail
  refine (rune_lower r w).mono ?_
  rw [HP0.out]
  rintro e w1 ⟨rfl, rfl⟩
  cases p0 with
  | true =>
    go_wp2
    go_ret
    exact ⟨ret_bool (by rw [HE.out]; simp), rfl⟩
  | false =>
    go_wp2_with fail
    refine (rune_upper r w).mono ?_
    rw [HP1.out]
    rintro e w2 ⟨rfl, rfl⟩
    go_wp2
    go_ret
    exact ⟨ret_bool (by rw [HE.out]; simp), rfl⟩
set_option maxRecDepth 100000 in
theorem rune_Alnum : IsRune 186 isAlnum := by
  intro r w
  obtain ⟨v, hv⟩ : ∃ v, isAlnum r = v := ⟨_, rfl⟩
  rw [hv]
  have HV := Lib.hid hv; clear hv
  obtain ⟨p0, hp0⟩ : ∃ p, isAlpha r = p := ⟨_, rfl⟩
  have HP0 := Lib.hid hp0; clear hp0
  obtain ⟨p1, hp1⟩ : ∃ p, isDigit r = p := ⟨_, rfl⟩
  have HP1 := Lib.hid hp1; clear hp1
  have HE := Lib.hid (show v = (p0 || p1) by rw [← HV.out]; unfold isAlnum; rw [HP0.out, HP1.out])
  go_enter Tryz.func186, Tryz.ntmps186
  go_wp2_with fail
  refine (rune_Alpha r w).mono ?_
  rw [HP0.out]
  rintro e w1 ⟨rfl, rfl⟩
  cases p0 with
  | true =>
    go_wp2
    go_ret
    exact ⟨ret_bool (by rw [HE.out]; simp), rfl⟩
  | false =>
    go_wp2_with fail
    refine (rune_digit r w).mono ?_
    rw [HP1.out]
    rintro e w2 ⟨rfl, rfl⟩
    go_wp2
    go_ret
    exact ⟨ret_bool (by rw [HE.out]; simp), rfl⟩
set_option maxRecDepth 100000 in
theorem rune_Xdigit : IsRune 187 isXdigit := by
  intro r w
  obtain ⟨v, hv⟩ : ∃ v, isXdigit r = v := ⟨_, rfl⟩
  rw [hv]
  have HV := Lib.hid hv; clear hv
  obtain ⟨p0, hp0⟩ : ∃ p, isDigit r = p := ⟨_, rfl⟩
  have HP0 := Lib.hid hp0; clear hp0
  obtain ⟨p1, hp1⟩ : ∃ p, btw r 65 70 = p := ⟨_, rfl⟩
  have HP1 := Lib.hid hp1; clear hp1
  obtain ⟨p2, hp2⟩ : ∃ p, btw r 97 102 = p := ⟨_, rfl⟩
  have HP2 := Lib.hid hp2; clear hp2
  have HE := Lib.hid (show v = (p0 || p1 || p2) by rw [← HV.out]; unfold isXdigit; rw [HP0.out, HP1.out, HP2.out])
  go_enter Tryz.func187, Tryz.ntmps187
  go_wp2_with fail
  refine (rune_digit r w).mono ?_
  rw [HP0.out]
  rintro e w1 ⟨rfl, rfl⟩
  cases p0 with
  | true =>
    go_wp2
    go_ret
    exact ⟨ret_bool (by rw [HE.out]; simp), rfl⟩
  | false =>
    go_wp2_with fail
    refine (between_any r 65 70 w).mono ?_
    rw [HP1.out]
    rintro e w2 ⟨rfl, rfl⟩
    cases p1 with
    | true =>
      go_wp2
      go_ret
      exact ⟨ret_bool (by rw [HE.out]; simp), rfl⟩
    | false =>
      go_wp2_with fail
      refine (between_any r 97 102 w).mono ?_
      rw [HP2.out]
      rintro e w3 ⟨rfl, rfl⟩
      go_wp2
      go_ret
      exact ⟨ret_bool (by rw [HE.out]; simp), rfl⟩
set_option maxRecDepth 100000 in
theorem rune_blank : IsRune 189 isBlank := by
  intro r w
  by_cases h1 : r = 32
  · have HE := Lib.hid (show isBlank r = true by simp [isBlank, h1])
    subst h1
    go_enter Tryz.func189, Tryz.ntmps189
    go_wp2
    go_ret
    exact ⟨ret_bool HE.out.symm, rfl⟩
  · have h2 : (r == 32) = false := by simpa using h1
    have HE := Lib.hid (show isBlank r = (r == 9) by rw [Bool.eq_iff_iff]; simp [isBlank, h1])
    clear h1
    go_enter Tryz.func189, Tryz.ntmps189
    go_wp2
    go_ret
    exact ⟨ret_bool HE.out.symm, rfl⟩
set_option maxRecDepth 100000 in
theorem rune_Space : IsRune 190 isSpace := by
  intro r w
  obtain ⟨v, hv⟩ : ∃ v, isSpace r = v := ⟨_, rfl⟩
  rw [hv]
  have HV := Lib.hid hv; clear hv
  obtain ⟨p0, hp0⟩ : ∃ p, isBlank r = p := ⟨_, rfl⟩
  have HP0 := Lib.hid hp0; clear hp0
  obtain ⟨p1, hp1⟩ : ∃ p, btw r 10 13 = p := ⟨_, rfl⟩
  have HP1 := Lib.hid hp1; clear hp1
  have HE := Lib.hid (show v = (p0 || p1) by rw [← HV.out]; unfold isSpace; rw [HP0.out, HP1.out])
  go_enter Tryz.func190, Tryz.ntmps190
  go_wp2_with fail
  refine (rune_blank r w).mono ?_
  rw [HP0.out]
  rintro e w1 ⟨rfl, rfl⟩
  cases p0 with
  | true =>
    go_wp2
    go_ret
    exact ⟨ret_bool (by rw [HE.out]; simp), rfl⟩
  | false =>
    go_wp2_with fail
    refine (between_any r 10 13 w).mono ?_
    rw [HP1.out]
    rintro e w2 ⟨rfl, rfl⟩
    go_wp2
    go_ret
    exact ⟨ret_bool (by rw [HE.out]; simp), rfl⟩
set_option maxRecDepth 100000 in
theorem rune_Cntrl : IsRune 191 isCntrl := by
  intro r w
  by_cases h1 : r < 32
  · have HE := Lib.hid (show isCntrl r = true by simp [isCntrl, h1])
    go_enter Tryz.func191, Tryz.ntmps191
    go_wp2
    go_ret
    exact ⟨ret_bool HE.out.symm, rfl⟩
  · have HE := Lib.hid (show isCntrl r = (r == 127) by rw [Bool.eq_iff_iff]; simp [isCntrl, h1])
    go_enter Tryz.func191, Tryz.ntmps191
    go_wp2
    go_ret
    exact ⟨ret_bool HE.out.symm, rfl⟩
set_option maxRecDepth 100000 in
theorem rune_Print : IsRune 192 isPrint := by
  intro r w
  by_cases h1 : r = 32
  · have HE := Lib.hid (show isPrint r = true by simp [isPrint, h1])
    subst h1
    go_enter Tryz.func192, Tryz.ntmps192
    go_wp2
    go_ret
    exact ⟨ret_bool HE.out.symm, rfl⟩
  · have h2 : (r == 32) = false := by simpa using h1
    have HE := Lib.hid (show isPrint r = isGraph r by simp [isPrint, h1])
    clear h1
    go_enter Tryz.func192, Tryz.ntmps192
    go_wp2_with fail
    refine (rune_graph r w).mono ?_
    rintro e w1 ⟨rfl, rfl⟩
    go_wp2
    go_ret
    exact ⟨ret_bool HE.out.symm, rfl⟩
set_option maxRecDepth 100000 in
theorem rune_Punct : IsRune 194 isPunct := by
  intro r w
  obtain ⟨p, hp⟩ : ∃ p, isGraph r = p := ⟨_, rfl⟩
  obtain ⟨q, hq⟩ : ∃ q, isAlnum r = q := ⟨_, rfl⟩
  have HE := Lib.hid (show isPunct r = (p && !q) by unfold isPunct; rw [hp, hq])
  have HP := Lib.hid hp; have HQ := Lib.hid hq; clear hp hq
  go_enter Tryz.func194, Tryz.ntmps194
  go_wp2_with fail
  refine (rune_graph r w).mono ?_
  rw [HP.out]
  rintro e w1 ⟨rfl, rfl⟩
  cases p with
  | false =>
    go_wp2
    go_ret
    exact ⟨ret_bool (by rw [HE.out]; rfl), rfl⟩
  | true =>
    go_wp2_with fail
    refine (rune_Alnum r w).mono ?_
    rw [HQ.out]
    rintro e w1 ⟨rfl, rfl⟩
    go_wp2
    go_ret
    exact ⟨ret_bool (by rw [HE.out]; simp), rfl⟩

end Go.Proofs.YtmoeboknelnaoaaGreatDoor

/-
  Walks: octet.class, from a name to the predicate.
-/
namespace Go.Proofs.YtmoeboknelnaoaaGreatDoor
open Go.RowKit

/-- A call of the value f enters the function f. -/
def IsFn (f : FuncId) : Prop := ∀ (r : Int) (w : World), (callFunc f #[.int .i32 r]).run Tryz.prog w = .ok (.enter f #[.int .i32 r]) w

/-- A value that is the function of a predicate, or no function. -/
def Cls (v : Value) (o : Option (Int → Bool)) : Prop :=
  (v = .nilFunc ∧ o = none) ∨ ∃ f p, v = .func (.func f) #[] #[] ∧ o = some p ∧ IsFn f ∧ IsRune f p

/-- What class answers by the name. -/
def clsOf (s : ByteArray) : Option (Int → Bool) :=
  if s.toList == [108, 111, 119, 101, 114] then some isLower
  else if s.toList == [117, 112, 112, 101, 114] then some isUpper
  else if s.toList == [97, 108, 112, 104, 97] then some isAlpha
  else if s.toList == [100, 105, 103, 105, 116] then some isDigit
  else if s.toList == [97, 108, 110, 117, 109] then some isAlnum
  else if s.toList == [120, 100, 105, 103, 105, 116] then some isXdigit
  else if s.toList == [98, 108, 97, 110, 107] then some isBlank
  else if s.toList == [115, 112, 97, 99, 101] then some isSpace
  else if s.toList == [99, 110, 116, 114, 108] then some isCntrl
  else if s.toList == [112, 114, 105, 110, 116] then some isPrint
  else if s.toList == [103, 114, 97, 112, 104] then some isGraph
  else if s.toList == [112, 117, 110, 99, 116] then some isPunct
  else none

set_option maxRecDepth 100000 in
theorem class_any (s : ByteArray) (w : World) : Calls Tryz.prog 178 #[.string s] w fun e w' => ∃ v, e = .returned v ∧ Cls v (clsOf s) ∧ w = w' := by
  go_enter Tryz.func178, Tryz.ntmps178
  go_wp2
  · go_ret
    exact ⟨_, rfl, Or.inr ⟨_, _, rfl, (by simp only [clsOf, *]; rfl), (fun _ _ => rfl), rune_lower⟩, rfl⟩
  · go_ret
    exact ⟨_, rfl, Or.inr ⟨_, _, rfl, (by simp only [clsOf, *]; rfl), (fun _ _ => rfl), rune_upper⟩, rfl⟩
  · go_ret
    exact ⟨_, rfl, Or.inr ⟨_, _, rfl, (by simp only [clsOf, *]; rfl), (fun _ _ => rfl), rune_Alpha⟩, rfl⟩
  · go_ret
    exact ⟨_, rfl, Or.inr ⟨_, _, rfl, (by simp only [clsOf, *]; rfl), (fun _ _ => rfl), rune_digit⟩, rfl⟩
  · go_ret
    exact ⟨_, rfl, Or.inr ⟨_, _, rfl, (by simp only [clsOf, *]; rfl), (fun _ _ => rfl), rune_Alnum⟩, rfl⟩
  · go_ret
    exact ⟨_, rfl, Or.inr ⟨_, _, rfl, (by simp only [clsOf, *]; rfl), (fun _ _ => rfl), rune_Xdigit⟩, rfl⟩
  · go_ret
    exact ⟨_, rfl, Or.inr ⟨_, _, rfl, (by simp only [clsOf, *]; rfl), (fun _ _ => rfl), rune_blank⟩, rfl⟩
  · go_ret
    exact ⟨_, rfl, Or.inr ⟨_, _, rfl, (by simp only [clsOf, *]; rfl), (fun _ _ => rfl), rune_Space⟩, rfl⟩
  · go_ret
    exact ⟨_, rfl, Or.inr ⟨_, _, rfl, (by simp only [clsOf, *]; rfl), (fun _ _ => rfl), rune_Cntrl⟩, rfl⟩
  · go_ret
    exact ⟨_, rfl, Or.inr ⟨_, _, rfl, (by simp only [clsOf, *]; rfl), (fun _ _ => rfl), rune_Print⟩, rfl⟩
  · go_ret
    exact ⟨_, rfl, Or.inr ⟨_, _, rfl, (by simp only [clsOf, *]; rfl), (fun _ _ => rfl), rune_graph⟩, rfl⟩
  · go_ret
    exact ⟨_, rfl, Or.inr ⟨_, _, rfl, (by simp only [clsOf, *]; rfl), (fun _ _ => rfl), rune_Punct⟩, rfl⟩
  · go_ret
    exact ⟨_, rfl, Or.inl ⟨rfl, (by simp only [clsOf, *]; rfl)⟩, rfl⟩

end Go.Proofs.YtmoeboknelnaoaaGreatDoor

/-
  Walks: pick, the set of the signs that a predicate takes.
-/
namespace Go.Proofs.YtmoeboknelnaoaaGreatDoor
open Go.RowKit

/-- The set of the signs below k that p takes. -/
def pk (p : Int → Bool) : Nat → S4
  | 0 => S4.zero
  | k + 1 => if p k then (pk p k).put k else pk p k

set_option maxRecDepth 100000 in
set_option maxHeartbeats 1000000 in
theorem pick_any (f : FuncId) (p : Int → Bool) (w : World) (hn : IsFn f) (hf : IsRune f p) :
    Calls Tryz.prog 179 #[.func (.func f) #[] #[]] w fun e w' => e = .returned (.agg (pk p 256).cells.toArray) ∧ Fr nob w w' := by
  go_enter Tryz.func179, Tryz.ntmps179
  go_wp2_with fail
  obtain ⟨w0, hw0⟩ : ∃ w0, w0 = ((w.alloc (.cells S4.zero.cells.toArray 91)).alloc (.cells S4.zero.cells.toArray 91)) := ⟨_, rfl⟩
  have f0 : Fr nob w w0 := by rw [hw0]; exact ((Fr.refl _ _).alloc _).alloc _
  have hr0 : w0.heap[w.heap.size]? = some (.cells S4.zero.cells.toArray 91 (0, 0)) := by rw [hw0]; exact heap_alloc_lt _ (heap_alloc_new _ _)
  have hb0 : w0.heap[w.heap.size + 1]? = some (.cells S4.zero.cells.toArray 91 (0, 0)) := by
    rw [hw0]; have := heap_alloc_new (w.alloc (.cells S4.zero.cells.toArray 91)) (.cells S4.zero.cells.toArray 91); simpa using this
  change Code.wp _ _ _ _ ((w.alloc (.cells S4.zero.cells.toArray 91)).alloc (.cells S4.zero.cells.toArray 91))
  rw [← hw0]
  have F0 := Lib.hid f0; have HR0 := Lib.hid hr0; have HB0 := Lib.hid hb0; clear f0 hr0 hb0 hw0
  go_loopw [5] (fun i wr => ∃ k : Nat, i = .int .i32 k ∧ k ≤ 256 ∧ wr.heap[w.heap.size + 1]? = some (.cells (pk p k).cells.toArray 91 (0, 0)) ∧ Fr (fun k => k = w.heap.size + 1) w0 wr) (fun i _ => 256 - (intOf i).toNat)
  case atStart => exact ⟨0, rfl, Nat.zero_le _, HB0.out, Fr.refl _ _⟩
  case round =>
    obtain ⟨k, rfl, hk, hb, fr⟩ := hrel
    have HB := Lib.hid hb; have FR := Lib.hid fr; clear hb fr
    have FW := Lib.hid (F0.out.trans FR.out (fun i hi x => by omega))
    by_cases hlt : k < 256
    · cases hp : p k with
      | true =>
        have hpt := Lib.hid (show pk p (k + 1) = (pk p k).put k by simp [pk, hp])
        have HP := Lib.hid hp; clear hp
        go_wp2_with fail
        rw [hn]
        refine (hf k _).mono ?_
        rw [HP.out]
        rintro e w3 ⟨rfl, rfl⟩
        go_wp2_with fail
        refine (add_any (w.heap.size + 1) _ k _ hlt HB.out).mono ?_
        rintro e w3 ⟨rfl, h3, f3⟩
        have H3 := Lib.hid h3; have F3 := Lib.hid f3; clear h3 f3
        go_wp2
        go_roundw
        case rel => exact ⟨k + 1, by go_num, by omega, by rw [hpt.out]; exact H3.out, FR.out.trans' F3.out⟩
        case measure => simp [intOf]; omega
      | false =>
        have hpt := Lib.hid (show pk p (k + 1) = pk p k by simp [pk, hp])
        have HP := Lib.hid hp; clear hp
        go_wp2_with fail
        rw [hn]
        refine (hf k _).mono ?_
        rw [HP.out]
        rintro e w3 ⟨rfl, rfl⟩
        go_wp2
        go_roundw
        case rel => exact ⟨k + 1, by go_num, by omega, by rw [hpt.out]; exact HB.out, FR.out⟩
        case measure => simp [intOf]; omega
    · obtain rfl : k = 256 := by omega
      have hb := HB.out
      obtain ⟨c0, c1, c2, c3, _⟩ := cellS hb
      have hr := FR.out.heap HR0.out (fun e => by omega)
      obtain ⟨_, _, _, _, f0, f1, f2, f3⟩ := cellS hr
      have hlr := lt_heap hr; have hlb := lt_heap hb
      have HBB := Lib.hid hb; have HRR := Lib.hid hr; clear hb hr
      go_wp2
      (try simp only [Exit.inBlock, Exit.then])
      have hW := heap_setCell_at (heap_setCell_at (heap_setCell_at (heap_setCell_at HRR.out 0 (.int .u64 (pk p 256).a)) 1 (.int .u64 (pk p 256).b)) 2 (.int .u64 (pk p 256).c)) 3 (.int .u64 (pk p 256).d)
      refine bodyPost_ret (results_set (s := pk p 256) rfl rfl hW) rfl ⟨rfl, ?_⟩
      exact (((FW.out.setCell (p := ⟨w.heap.size, 0, none⟩) (fun h => absurd h (Nat.lt_irrefl _)) _).setCell (p := ⟨w.heap.size, 1, none⟩) (fun h => absurd h (Nat.lt_irrefl _)) _).setCell (p := ⟨w.heap.size, 2, none⟩) (fun h => absurd h (Nat.lt_irrefl _)) _).setCell (p := ⟨w.heap.size, 3, none⟩) (fun h => absurd h (Nat.lt_irrefl _)) _

end Go.Proofs.YtmoeboknelnaoaaGreatDoor

/-
  Walks: octet.Class; Span of both sides.
-/
namespace Go.Proofs.YtmoeboknelnaoaaGreatDoor
open Go.RowKit

def clsSet (o : Option (Int → Bool)) : S4 := match o with
  | none => S4.zero
  | some p => pk p 256

theorem eq_nilfn_nil (w : World) : (binOp .eql 198 .nilFunc .nilFunc).run Tryz.prog w = .ok (.bool true) w := by kernel_rfl
theorem eq_nilfn (f : FuncId) (w : World) : (binOp .eql 198 (.func (.func f) #[] #[]) .nilFunc).run Tryz.prog w = .ok (.bool false) w := by kernel_rfl

/-- A set and a bool that are handed back. -/
theorem results_setB {fn : Func} {p q : Tmp} (h : fn.results = #[.cell p 91, .tmp q]) {tmps : Array Value} {r : Nat} (ht : tmps.getD p undef = .pointer (some ⟨r, 0, none⟩)) {v : Value} (hq : tmps.getD q undef = v) {W : World} {s : S4}
    (hb : W.heap[r]? = some (.cells s.cells.toArray 91 (0, 0))) : (results fn tmps).run Tryz.prog W = .ok (.tuple #[.agg s.cells.toArray, v]) W := by
  obtain ⟨c0, c1, c2, c3, _⟩ := cellS hb
  have ht' : tmps[p]?.getD undef = .pointer (some ⟨r, 0, none⟩) := by rw [← ht]; simp
  have hq' : tmps[q]?.getD undef = v := by rw [← hq]; simp
  simp only [results, h]
  simp [ht', hq', go_sem, c0, c1, c2, c3, S4.cells]

set_option maxRecDepth 100000 in
theorem octClass_any (s : ByteArray) (w : World) : Calls Tryz.prog 175 #[.string s] w fun e w' => e = .returned (.tuple #[.agg (clsSet (clsOf s)).cells.toArray, .bool (clsOf s).isSome]) ∧ Fr nob w w' := by
  obtain ⟨o, ho⟩ : ∃ o, clsOf s = o := ⟨_, rfl⟩
  rw [ho]
  have HO := Lib.hid ho; clear ho
  have q0 := eq_nilfn_nil; have q1 := eq_nilfn
  go_enter Tryz.func175, Tryz.ntmps175
  go_wp2_with fail
  refine (class_any s _).mono ?_
  rw [HO.out]
  rintro e w1 ⟨v, rfl, hc, rfl⟩
  rcases hc with ⟨rfl, rfl⟩ | ⟨f, p, rfl, rfl, hn, hf⟩
  · go_wp2
    (try simp only [Exit.inBlock, Exit.then])
    exact bodyPost_ret (results_setB (s := S4.zero) rfl rfl rfl (heap_alloc_new' _ _ _ (by simp))) rfl ⟨rfl, (Fr.refl _ _).alloc _⟩
  · go_wp2_with fail
    refine (pick_any f p _ hn hf).mono ?_
    rintro e w1 ⟨he, h1⟩
    rw [S4.cells_eq] at he; subst he
    have hb := h1.heap (heap_alloc_new w (.cells S4.zero.cells.toArray 91)) (fun x => x)
    obtain ⟨c0, c1, c2, c3, f0, f1, f2, f3⟩ := cellS hb
    have HB := Lib.hid hb
    have F1 := Lib.hid h1; clear h1 hb
    go_wp2
    (try simp only [Exit.inBlock, Exit.then])
    exact bodyPost_ret (results_setB (s := pk p 256) rfl rfl rfl (setFour_heap HB.out _ _ _ _)) rfl ⟨rfl, setFour_fr (((Fr.refl _ _).alloc _).trans' F1.out) (Nat.le_refl _) _ _ _ _⟩

/-- n bytes from a on. -/
def spanTo (a : Nat) : Nat → S4
  | 0 => S4.zero
  | n + 1 => (spanTo a n).put (a + n)
def spn (a b : Nat) : S4 := spanTo a (b + 1 - a)

set_option maxRecDepth 100000 in
set_option maxHeartbeats 1000000 in
theorem spanR_any (a b : Nat) (w : World) (ha : a < 256) (hb : b < 256) :
    Calls Tryz.prog 33 #[.int .u8 a, .int .u8 b] w fun e w' => e = .returned (.agg (spn a b).cells.toArray) ∧ Fr nob w w' := by
  go_enter Tryz.func33, Tryz.ntmps33
  go_wp2_with fail
  obtain ⟨w0, hw0⟩ : ∃ w0, w0 = ((w.alloc (.cells S4.zero.cells.toArray 36)).alloc (.cells S4.zero.cells.toArray 36)) := ⟨_, rfl⟩
  have f0 : Fr nob w w0 := by rw [hw0]; exact ((Fr.refl _ _).alloc _).alloc _
  have hr0 : w0.heap[w.heap.size]? = some (.cells S4.zero.cells.toArray 36 (0, 0)) := by rw [hw0]; exact heap_alloc_lt _ (heap_alloc_new _ _)
  have hb0 : w0.heap[w.heap.size + 1]? = some (.cells S4.zero.cells.toArray 36 (0, 0)) := by
    rw [hw0]; have := heap_alloc_new (w.alloc (.cells S4.zero.cells.toArray 36)) (.cells S4.zero.cells.toArray 36); simpa using this
  change Code.wp _ _ _ _ ((w.alloc (.cells S4.zero.cells.toArray 36)).alloc (.cells S4.zero.cells.toArray 36))
  rw [← hw0]
  have F0 := Lib.hid f0; have HR0 := Lib.hid hr0; have HB0 := Lib.hid hb0; clear f0 hr0 hb0 hw0
  go_loopw [6] (fun i wr => ∃ k : Nat, i = .int .i64 (a + k : Nat) ∧ (k = 0 ∨ a + k ≤ b + 1) ∧ wr.heap[w.heap.size + 1]? = some (.cells (spanTo a k).cells.toArray 36 (0, 0)) ∧ Fr (fun k => k = w.heap.size + 1) w0 wr) (fun i _ => 256 - (intOf i).toNat)
  case atStart => exact ⟨0, rfl, .inl rfl, HB0.out, Fr.refl _ _⟩
  case round =>
    obtain ⟨k, rfl, hk, hb', fr⟩ := hrel
    have HB := Lib.hid hb'; have FR := Lib.hid fr
    have FW := Lib.hid (F0.out.trans FR.out (fun i hi x => by omega))
    obtain ⟨c0, c1, c2, c3, z0, z1, z2, z3⟩ := cellS hb'
    have hlb := lt_heap hb'
    clear hb' fr
    obtain ⟨n, hn⟩ : ∃ n, a + k = n := ⟨_, rfl⟩
    rw [hn]
    have HN := Lib.hid hn
    by_cases hlt : n ≤ b
    · have wn : IntKind.u8.wrap (n : Int) = (n : Int) := IntWalk.u8_in _ (by omega)
      clear hn hk
      go_wp2_with fail
      refine (withR_any (spanTo a k) n _ (by omega)).mono ?_
      rintro e w3 ⟨he, f3⟩
      rw [S4.cells_eq] at he; subst he
      have h3 := f3.heap HB.out (fun x => x)
      obtain ⟨_, _, _, _, y0, y1, y2, y3⟩ := cellS h3
      have hl3 := lt_heap h3
      have H3 := Lib.hid h3; have F3 := Lib.hid f3; clear h3 f3
      go_wp2
      go_roundw
      case rel =>
        refine ⟨k + 1, by have := HN.out; congr 1; omega, .inr (by have := HN.out; omega), ?_, ?_⟩
        · have := setFour_heap (w := w3) (b := w.heap.size + 1) H3.out (.int .u64 ((spanTo a k).put n).a) (.int .u64 ((spanTo a k).put n).b) (.int .u64 ((spanTo a k).put n).c) (.int .u64 ((spanTo a k).put n).d)
          rw [show spanTo a (k + 1) = (spanTo a k).put n by rw [← HN.out]; rfl]
          exact this
        · refine FR.out.trans' ?_
          have h : ∀ (x : World) (j : Nat) (v : Value), Fr (fun k => k = w.heap.size + 1) wr x → Fr (fun k => k = w.heap.size + 1) wr (x.setCell ⟨w.heap.size + 1, j, none⟩ v) := fun x j v hx => hx.setCell (p := ⟨w.heap.size + 1, j, none⟩) (fun _ => rfl) v
          exact h _ _ _ (h _ _ _ (h _ _ _ (h _ _ _ F3.out.any)))
      case measure => simp [intOf]; omega
    · have hsp := Lib.hid (show spanTo a k = spn a b by unfold spn; congr 1; omega)
      clear hn hk
      have hb := HB.out
      rw [hsp.out] at hb c0 c1 c2 c3
      have hr := FR.out.heap HR0.out (fun e => by omega)
      obtain ⟨_, _, _, _, f0, f1, f2, f3⟩ := cellS hr
      have hlr := lt_heap hr
      have HBB := Lib.hid hb; have HRR := Lib.hid hr; clear hb hr
      go_wp2
      (try simp only [Exit.inBlock, Exit.then])
      exact bodyPost_ret (results_setR (s := spn a b) rfl rfl (setFour_heap HRR.out _ _ _ _)) rfl ⟨rfl, setFour_fr FW.out (Nat.le_refl _) _ _ _ _⟩

end Go.Proofs.YtmoeboknelnaoaaGreatDoor

/-
  Sets of bytes: what is in them. Plain: no walk.
-/
namespace Go.Proofs.YtmoeboknelnaoaaGreatDoor
open Go.RowKit

theorem S4.word_and (s t : S4) (d : Nat) : wd ((s.and t).word d) = wd (s.word d) &&& wd (t.word d) := by
  unfold S4.word S4.and; split <;> exact wd_and _ _
theorem S4.word_or (s t : S4) (d : Nat) : wd ((s.or t).word d) = wd (s.word d) ||| wd (t.word d) := by
  unfold S4.word S4.or; split <;> exact wd_or _ _
theorem has_and (s t : S4) (d : Nat) : (s.and t).has d = (s.has d && t.has d) := by
  unfold S4.has; rw [S4.word_and, BitVec.getLsbD_and]
theorem has_or (s t : S4) (d : Nat) : (s.or t).has d = (s.has d || t.has d) := by
  unfold S4.has; rw [S4.word_or, BitVec.getLsbD_or]
theorem has_zero (d : Nat) : S4.zero.has d = false := by
  unfold S4.has S4.word S4.zero
  have : wd 0 = 0#64 := by decide
  split <;> rw [this] <;> simp

theorem fit_and (s t : S4) : (s.and t).fit := ⟨fit_bits .and s.a t.a, fit_bits .and s.b t.b, fit_bits .and s.c t.c, fit_bits .and s.d t.d⟩
theorem fit_or (s t : S4) : (s.or t).fit := ⟨fit_bits .or s.a t.a, fit_bits .or s.b t.b, fit_bits .or s.c t.c, fit_bits .or s.d t.d⟩
theorem fit_not (s : S4) : s.not.fit := ⟨fit_bits .xor _ s.a, fit_bits .xor _ s.b, fit_bits .xor _ s.c, fit_bits .xor _ s.d⟩
theorem fit_0 : Fit 0 := ⟨by decide, by decide⟩
theorem fit_zero : S4.zero.fit := ⟨fit_0, fit_0, fit_0, fit_0⟩
theorem fit_orw (x : Int) (n : Nat) : Fit (orw x n) := fit_bits .or x _
theorem fit_put {s : S4} (h : s.fit) (d : Nat) : (s.put d).fit := by
  unfold S4.put
  split
  · exact ⟨fit_orw _ _, h.2.1, h.2.2.1, h.2.2.2⟩
  · exact ⟨h.1, fit_orw _ _, h.2.2.1, h.2.2.2⟩
  · exact ⟨h.1, h.2.1, fit_orw _ _, h.2.2.2⟩
  · exact ⟨h.1, h.2.1, h.2.2.1, fit_orw _ _⟩
theorem fit_puts (l : List UInt8) : ∀ {s : S4}, s.fit → (s.puts l).fit := by
  induction l with
  | nil => intro s h; exact h
  | cons c r ih => intro s h; exact ih (fit_put h _)
theorem fit_spanTo (a : Nat) : ∀ n, (spanTo a n).fit
  | 0 => fit_zero
  | n + 1 => fit_put (fit_spanTo a n) _
theorem fit_spn (a b : Nat) : (spn a b).fit := fit_spanTo _ _
theorem fit_pk (p : Int → Bool) : ∀ n, (pk p n).fit
  | 0 => fit_zero
  | n + 1 => by unfold pk; split; exact fit_put (fit_pk p n) _; exact fit_pk p n
theorem fit_clsSet (o : Option (Int → Bool)) : (clsSet o).fit := by
  unfold clsSet; split; exact fit_zero; exact fit_pk _ _

/-- Two sets of the same bytes are one. -/
theorem S4.ext_has {s t : S4} (hs : s.fit) (ht : t.fit) (h : ∀ d, d < 256 → s.has d = t.has d) : s = t := by
  have e : ∀ q, q < 4 → wd (s.word (64 * q)) = wd (t.word (64 * q)) := by
    intro q hq
    apply BitVec.eq_of_getLsbD_eq
    intro i hi
    have := h (64 * q + i) (by omega)
    unfold S4.has at this
    have w1 : ∀ u : S4, u.word (64 * q + i) = u.word (64 * q) := fun u => by
      unfold S4.word; rw [show (64 * q + i) / 64 = 64 * q / 64 by omega]
    rw [w1, w1, show (64 * q + i) % 64 = i by omega] at this
    exact this
  obtain ⟨a, b, c, d⟩ := s
  obtain ⟨a', b', c', d'⟩ := t
  have h0 := wd_inj hs.1 ht.1 (e 0 (by decide))
  have h1 := wd_inj hs.2.1 ht.2.1 (e 1 (by decide))
  have h2 := wd_inj hs.2.2.1 ht.2.2.1 (e 2 (by decide))
  have h3 := wd_inj hs.2.2.2 ht.2.2.2 (e 3 (by decide))
  subst h0; subst h1; subst h2; subst h3; rfl

theorem wd_pow : ∀ n : Fin 64, wd (IntKind.u64.wrap (2 ^ n.val)) = BitVec.twoPow 64 n.val := by decide +kernel
theorem wd_orw (x : Int) {n : Nat} (h : n < 64) : wd (orw x n) = wd x ||| BitVec.twoPow 64 n := by
  unfold orw; rw [wd_or, wd_pow ⟨n, h⟩]
theorem word_put (s : S4) (d e : Nat) (hd : d < 256) (he : e < 256) : wd ((s.put d).word e) = if d / 64 = e / 64 then wd (s.word e) ||| BitVec.twoPow 64 (d % 64) else wd (s.word e) := by
  have hm : d % 64 < 64 := Nat.mod_lt _ (by decide)
  have hq : d / 64 = 0 ∨ d / 64 = 1 ∨ d / 64 = 2 ∨ d / 64 = 3 := by omega
  have hr : e / 64 = 0 ∨ e / 64 = 1 ∨ e / 64 = 2 ∨ e / 64 = 3 := by omega
  unfold S4.put S4.word
  rcases hq with hq | hq | hq | hq <;> rcases hr with hr | hr | hr | hr <;> simp [hq, hr, wd_orw, hm]
theorem has_put (s : S4) (d e : Nat) (hd : d < 256) (he : e < 256) : (s.put d).has e = (decide (d = e) || s.has e) := by
  unfold S4.has
  rw [word_put s d e hd he]
  split
  · next h =>
    rw [BitVec.getLsbD_or, BitVec.getLsbD_twoPow, Bool.or_comm]
    congr 1
    have : d % 64 < 64 := Nat.mod_lt _ (by decide)
    simp only [this, decide_true, Bool.true_and]
    rw [decide_eq_decide]
    omega
  · next h =>
    have : d ≠ e := fun x => h (by rw [x])
    simp [this]
theorem has_puts (l : List UInt8) (e : Nat) (he : e < 256) : ∀ s : S4, (s.puts l).has e = (l.any (fun c => decide (c.toNat = e)) || s.has e) := by
  induction l with
  | nil => intro s; simp [S4.puts]
  | cons c r ih =>
    intro s
    rw [S4.puts, ih, has_put _ _ _ c.toNat_lt he, List.any_cons]
    cases decide (c.toNat = e) <;> cases r.any (fun c => decide (c.toNat = e)) <;> simp
theorem has_spanTo (a e : Nat) (he : e < 256) : ∀ n, a + n ≤ 256 → (spanTo a n).has e = (decide (a ≤ e) && decide (e < a + n)) := by
  intro n
  induction n with
  | zero => intro _; rw [spanTo, has_zero]; simp <;> omega
  | succ n ih =>
    intro h
    rw [spanTo, has_put _ _ _ (by omega) he, ih (by omega)]
    rw [Bool.eq_iff_iff]; simp; omega
theorem has_spn (a b e : Nat) (ha : a < 256) (hb : b < 256) (he : e < 256) : (spn a b).has e = (decide (a ≤ e) && decide (e ≤ b)) := by
  unfold spn
  rcases Nat.lt_or_ge b a with h | h
  · rw [show b + 1 - a = 0 by omega]; rw [spanTo, has_zero]; simp <;> omega
  · rw [has_spanTo _ _ he _ (by omega)]; rw [Bool.eq_iff_iff]; simp; omega

theorem S4.and_comm (s t : S4) : s.and t = t.and s := S4.ext_has (fit_and _ _) (fit_and _ _) fun d _ => by simp [has_and, Bool.and_comm]
theorem S4.or_comm (s t : S4) : s.or t = t.or s := S4.ext_has (fit_or _ _) (fit_or _ _) fun d _ => by simp [has_or, Bool.or_comm]
end Go.Proofs.YtmoeboknelnaoaaGreatDoor
