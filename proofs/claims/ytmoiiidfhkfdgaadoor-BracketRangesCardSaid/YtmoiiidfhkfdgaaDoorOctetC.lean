/-
  Walks of package octet, and of the document's: Has, Not; And, Or, With of the document.
-/
import Derived.Test.YtmoiiidfhkfdgaaDoorOctetB
import Derived.Test.YtmoiiidfhkfdgaaDoorWords
namespace Go.Proofs.YtmoiiidfhkfdgaaDoor
open Go.RowKit

/-- Do all four words fit? -/
def S4.fit (s : S4) : Prop := Fit s.a ∧ Fit s.b ∧ Fit s.c ∧ Fit s.d
/-- The word that tells of a byte. -/
def S4.word (s : S4) (d : Nat) : Int := match d / 64 with
  | 0 => s.a
  | 1 => s.b
  | 2 => s.c
  | _ => s.d
/-- Is a byte in a set? -/
def S4.has (s : S4) (d : Nat) : Bool := (wd (s.word d)).getLsbD (d % 64)
def S4.not (s : S4) : S4 := ⟨bits .xor .u64 IntKind.u64.max s.a, bits .xor .u64 IntKind.u64.max s.b, bits .xor .u64 IntKind.u64.max s.c, bits .xor .u64 IntKind.u64.max s.d⟩

set_option maxRecDepth 100000 in
set_option maxHeartbeats 1000000 in
theorem has_any (s : S4) (d : Nat) (w : World) (hs : s.fit) (hd : d < 256) :
    Calls Tryd.prog 16 #[.agg s.cells.toArray, .int .u8 d] w fun e w' => e = .returned (.bool (s.has d)) ∧ Fr nob w w' := by
  rw [S4.cells_eq s]
  have hdiv : Int.tdiv (d : Int) 64 = ((d / 64 : Nat) : Int) := (Int.ofNat_tdiv d 64).symm
  have hmod : Int.tmod (d : Int) 64 = ((d % 64 : Nat) : Int) := (Int.ofNat_tmod d 64).symm
  have hq : d / 64 = 0 ∨ d / 64 = 1 ∨ d / 64 = 2 ∨ d / 64 = 3 := by omega
  have hr : d % 64 < 64 := by omega
  have w0 : IntKind.u8.wrap 0 = 0 := by decide
  have w1 : IntKind.u8.wrap 1 = 1 := by decide
  have w2 : IntKind.u8.wrap 2 = 2 := by decide
  have w3 : IntKind.u8.wrap 3 = 3 := by decide
  have wm : IntKind.u8.wrap ((d % 64 : Nat) : Int) = ((d % 64 : Nat) : Int) := IntWalk.u8_in _ (by omega)
  have wm' : IntKind.u8.wrap ((d : Int) % 64) = ((d % 64 : Nat) : Int) := by rw [show (d : Int) % 64 = ((d % 64 : Nat) : Int) by omega]; exact wm
  have HS := Lib.hid hs; clear hs
  obtain ⟨p0, p1, p2, p3⟩ := HS.out
  have n0 : 0 ≤ s.a := p0.1
  have n1 : 0 ≤ s.b := p1.1
  have n2 : 0 ≤ s.c := p2.1
  have n3 : 0 ≤ s.d := p3.1
  clear p0 p1 p2 p3
  rcases hq with hq | hq | hq | hq
  · have HH := Lib.hid (show s.has d = (wd s.a).getLsbD (d % 64) by unfold S4.has S4.word; rw [hq]; rfl)
    have HB := Lib.hid (bit_and HS.out.1 hr)
    rw [hq] at hdiv
    clear hq
    go_enter Tryd.func16, Tryd.ntmps16
    go_wp2
    go_ret
    exact ⟨ret_bool (by rw [HH.out]; exact HB.out), (Fr.refl _ _).alloc _⟩
  · have HH := Lib.hid (show s.has d = (wd s.b).getLsbD (d % 64) by unfold S4.has S4.word; rw [hq]; rfl)
    have HB := Lib.hid (bit_and HS.out.2.1 hr)
    rw [hq] at hdiv
    clear hq
    go_enter Tryd.func16, Tryd.ntmps16
    go_wp2
    go_ret
    exact ⟨ret_bool (by rw [HH.out]; exact HB.out), (Fr.refl _ _).alloc _⟩
  · have HH := Lib.hid (show s.has d = (wd s.c).getLsbD (d % 64) by unfold S4.has S4.word; rw [hq]; rfl)
    have HB := Lib.hid (bit_and HS.out.2.2.1 hr)
    rw [hq] at hdiv
    clear hq
    go_enter Tryd.func16, Tryd.ntmps16
    go_wp2
    go_ret
    exact ⟨ret_bool (by rw [HH.out]; exact HB.out), (Fr.refl _ _).alloc _⟩
  · have HH := Lib.hid (show s.has d = (wd s.d).getLsbD (d % 64) by unfold S4.has S4.word; rw [hq]; rfl)
    have HB := Lib.hid (bit_and HS.out.2.2.2 hr)
    rw [hq] at hdiv
    clear hq
    go_enter Tryd.func16, Tryd.ntmps16
    go_wp2
    go_ret
    exact ⟨ret_bool (by rw [HH.out]; exact HB.out), (Fr.refl _ _).alloc _⟩

set_option maxRecDepth 100000 in
set_option maxHeartbeats 1000000 in
theorem hasR_any (s : S4) (d : Nat) (w : World) (hs : s.fit) (hd : d < 256) :
    Calls Tryd.prog 37 #[.agg s.cells.toArray, .int .u8 d] w fun e w' => e = .returned (.bool (s.has d)) ∧ Fr nob w w' := by
  rw [S4.cells_eq s]
  have hdiv : Int.tdiv (d : Int) 64 = ((d / 64 : Nat) : Int) := (Int.ofNat_tdiv d 64).symm
  have hmod : Int.tmod (d : Int) 64 = ((d % 64 : Nat) : Int) := (Int.ofNat_tmod d 64).symm
  have hq : d / 64 = 0 ∨ d / 64 = 1 ∨ d / 64 = 2 ∨ d / 64 = 3 := by omega
  have hr : d % 64 < 64 := by omega
  have w0 : IntKind.u8.wrap 0 = 0 := by decide
  have w1 : IntKind.u8.wrap 1 = 1 := by decide
  have w2 : IntKind.u8.wrap 2 = 2 := by decide
  have w3 : IntKind.u8.wrap 3 = 3 := by decide
  have wm : IntKind.u8.wrap ((d % 64 : Nat) : Int) = ((d % 64 : Nat) : Int) := IntWalk.u8_in _ (by omega)
  have wm' : IntKind.u8.wrap ((d : Int) % 64) = ((d % 64 : Nat) : Int) := by rw [show (d : Int) % 64 = ((d % 64 : Nat) : Int) by omega]; exact wm
  have HS := Lib.hid hs; clear hs
  obtain ⟨p0, p1, p2, p3⟩ := HS.out
  have n0 : 0 ≤ s.a := p0.1
  have n1 : 0 ≤ s.b := p1.1
  have n2 : 0 ≤ s.c := p2.1
  have n3 : 0 ≤ s.d := p3.1
  clear p0 p1 p2 p3
  rcases hq with hq | hq | hq | hq
  · have HH := Lib.hid (show s.has d = (wd s.a).getLsbD (d % 64) by unfold S4.has S4.word; rw [hq]; rfl)
    have HB := Lib.hid (bit_tmod HS.out.1 hr)
    rw [hq] at hdiv
    clear hq
    go_enter Tryd.func37, Tryd.ntmps37
    go_wp2
    go_ret
    exact ⟨ret_bool (by rw [HH.out]; exact HB.out), (Fr.refl _ _).alloc _⟩
  · have HH := Lib.hid (show s.has d = (wd s.b).getLsbD (d % 64) by unfold S4.has S4.word; rw [hq]; rfl)
    have HB := Lib.hid (bit_tmod HS.out.2.1 hr)
    rw [hq] at hdiv
    clear hq
    go_enter Tryd.func37, Tryd.ntmps37
    go_wp2
    go_ret
    exact ⟨ret_bool (by rw [HH.out]; exact HB.out), (Fr.refl _ _).alloc _⟩
  · have HH := Lib.hid (show s.has d = (wd s.c).getLsbD (d % 64) by unfold S4.has S4.word; rw [hq]; rfl)
    have HB := Lib.hid (bit_tmod HS.out.2.2.1 hr)
    rw [hq] at hdiv
    clear hq
    go_enter Tryd.func37, Tryd.ntmps37
    go_wp2
    go_ret
    exact ⟨ret_bool (by rw [HH.out]; exact HB.out), (Fr.refl _ _).alloc _⟩
  · have HH := Lib.hid (show s.has d = (wd s.d).getLsbD (d % 64) by unfold S4.has S4.word; rw [hq]; rfl)
    have HB := Lib.hid (bit_tmod HS.out.2.2.2 hr)
    rw [hq] at hdiv
    clear hq
    go_enter Tryd.func37, Tryd.ntmps37
    go_wp2
    go_ret
    exact ⟨ret_bool (by rw [HH.out]; exact HB.out), (Fr.refl _ _).alloc _⟩

/-- Two variables: a set, and a result. -/
abbrev bx2 (w : World) (s : S4) (T : TypeId) : World := (w.alloc (.cells s.cells.toArray T)).alloc (.cells S4.zero.cells.toArray T)
theorem bx2_fr (w : World) (s : S4) (T : TypeId) : Fr nob w (bx2 w s T) := ((Fr.refl _ _).alloc _).alloc _
theorem bx2_a (w : World) (s : S4) (T : TypeId) : (bx2 w s T).heap[w.heap.size]? = some (.cells s.cells.toArray T (0, 0)) := heap_alloc_lt _ (heap_alloc_new _ _)
theorem bx2_b (w : World) (s : S4) (T : TypeId) : (bx2 w s T).heap[w.heap.size + 1]? = some (.cells S4.zero.cells.toArray T (0, 0)) := by
  have := heap_alloc_new (w.alloc (.cells s.cells.toArray T)) (.cells S4.zero.cells.toArray T); simpa using this
theorem bx2_size (w : World) (s : S4) (T : TypeId) : (bx2 w s T).heap.size = w.heap.size + 2 := by simp
def S4.mix1 (f : Int → Int) (k : Nat) (s : S4) : S4 :=
  ⟨if 0 < k then f s.a else s.a, if 1 < k then f s.b else s.b, if 2 < k then f s.c else s.c, if 3 < k then f s.d else s.d⟩

set_option maxRecDepth 100000 in
set_option maxHeartbeats 1000000 in
theorem not_any (s : S4) (w : World) :
    Calls Tryd.prog 11 #[.agg s.cells.toArray] w fun e w' => e = .returned (.agg s.not.cells.toArray) ∧ Fr nob w w' := by
  have HA := Lib.hid (bx2_a w s 25); have HC := Lib.hid (bx2_b w s 25)
  have F0 := Lib.hid (bx2_fr w s 25)
  have hsz := Lib.hid (bx2_size w s 25)
  rw [S4.cells_eq s]
  go_enter Tryd.func11, Tryd.ntmps11
  go_wp2_with fail
  obtain ⟨w0, hw0⟩ : ∃ w0, w0 = bx2 w s 25 := ⟨_, rfl⟩
  change Code.wp _ _ _ _ (bx2 w s 25)
  rw [← hw0] at HA HC F0 hsz ⊢
  clear hw0
  go_loopw [4] (fun i wr => ∃ k : Nat, i = .int .i64 k ∧ k ≤ 4 ∧ wr.heap[w.heap.size]? = some (.cells (S4.mix1 (bits .xor .u64 IntKind.u64.max) k s).cells.toArray 25 (0, 0)) ∧ Fr (fun j => j = w.heap.size) w0 wr) (fun i _ => 4 - (intOf i).toNat)
  case atStart => exact ⟨0, rfl, by omega, HA.out, Fr.refl _ _⟩
  case round =>
    obtain ⟨k, rfl, hk, hh, fr⟩ := hrel
    have hhc := fr.heap HC.out (by omega)
    obtain ⟨c0, c1, c2, c3, z0, z1, z2, z3⟩ := cellS hh
    have HH := Lib.hid hh; have FR := Lib.hid fr; have HHC := Lib.hid hhc
    clear hh fr hhc
    have hkk : k = 0 ∨ k = 1 ∨ k = 2 ∨ k = 3 ∨ k = 4 := by omega
    rcases hkk with rfl | rfl | rfl | rfl | rfl
    · simp only [S4.mix1, Nat.lt_irrefl, Nat.zero_lt_one, if_true, if_false, Nat.not_lt_zero, Nat.reduceLT] at c0 c1 c2 c3
      go_wp2
      go_roundw
      case rel => exact ⟨1, by go_num, by omega, heap_setCell_at HH.out 0 (.int .u64 (bits .xor .u64 IntKind.u64.max s.a)), (FR.out.setCell (p := ⟨w.heap.size, 0, none⟩) (fun _ => rfl) _)⟩
      case measure => simp [intOf]
    · simp only [S4.mix1, Nat.lt_irrefl, Nat.zero_lt_one, if_true, if_false, Nat.not_lt_zero, Nat.reduceLT] at c0 c1 c2 c3
      go_wp2
      go_roundw
      case rel => exact ⟨2, by go_num, by omega, heap_setCell_at HH.out 1 (.int .u64 (bits .xor .u64 IntKind.u64.max s.b)), (FR.out.setCell (p := ⟨w.heap.size, 1, none⟩) (fun _ => rfl) _)⟩
      case measure => simp [intOf]
    · simp only [S4.mix1, Nat.lt_irrefl, Nat.zero_lt_one, if_true, if_false, Nat.not_lt_zero, Nat.reduceLT] at c0 c1 c2 c3
      go_wp2
      go_roundw
      case rel => exact ⟨3, by go_num, by omega, heap_setCell_at HH.out 2 (.int .u64 (bits .xor .u64 IntKind.u64.max s.c)), (FR.out.setCell (p := ⟨w.heap.size, 2, none⟩) (fun _ => rfl) _)⟩
      case measure => simp [intOf]
    · simp only [S4.mix1, Nat.lt_irrefl, Nat.zero_lt_one, if_true, if_false, Nat.not_lt_zero, Nat.reduceLT] at c0 c1 c2 c3
      go_wp2
      go_roundw
      case rel => exact ⟨4, by go_num, by omega, heap_setCell_at HH.out 3 (.int .u64 (bits .xor .u64 IntKind.u64.max s.d)), (FR.out.setCell (p := ⟨w.heap.size, 3, none⟩) (fun _ => rfl) _)⟩
      case measure => simp [intOf]
    · obtain ⟨x0, x1, x2, x3, y0, y1, y2, y3⟩ := cellS HHC.out
      have FW := Lib.hid (F0.out.trans FR.out (fun i hi e => by omega))
      simp only [S4.mix1, Nat.lt_irrefl, Nat.zero_lt_one, if_true, if_false, Nat.not_lt_zero, Nat.reduceLT] at c0 c1 c2 c3
      go_wp2
      (try simp only [Exit.inBlock, Exit.then])
      exact bodyPost_ret (results_set (s := s.not) rfl rfl (setFour_heap HHC.out _ _ _ _)) rfl ⟨rfl, setFour_fr FW.out (by omega) _ _ _ _⟩

/-- A set of the document's that is handed back out of a variable. -/
theorem results_setR {fn : Func} {p : Tmp} (h : fn.results = #[.cell p 29]) {tmps : Array Value} {r : Nat} (ht : tmps.getD p undef = .pointer (some ⟨r, 0, none⟩)) {W : World} {s : S4}
    (hb : W.heap[r]? = some (.cells s.cells.toArray 29 (0, 0))) : (results fn tmps).run Tryd.prog W = .ok (.agg s.cells.toArray) W := by
  obtain ⟨c0, c1, c2, c3, _⟩ := cellS hb
  have ht' : tmps[p]?.getD undef = .pointer (some ⟨r, 0, none⟩) := by rw [← ht]; simp
  simp only [results, h]
  simp [ht', go_sem, c0, c1, c2, c3, S4.cells]

set_option maxRecDepth 100000 in
set_option maxHeartbeats 1000000 in
theorem notR_any (s : S4) (w : World) :
    Calls Tryd.prog 13 #[.agg s.cells.toArray] w fun e w' => e = .returned (.agg s.not.cells.toArray) ∧ Fr nob w w' := by
  rw [S4.cells_eq s]
  go_enter Tryd.func13, Tryd.ntmps13
  go_wp2
  (try simp only [Exit.inBlock, Exit.then])
  exact bodyPost_ret (results_setR (s := s.not) rfl rfl (heap_alloc_new' _ _ _ (by simp))) rfl ⟨rfl, ((Fr.refl _ _).alloc _).alloc _⟩

set_option maxRecDepth 100000 in
set_option maxHeartbeats 1000000 in
theorem andR_any (s t : S4) (w : World) :
    Calls Tryd.prog 36 #[.agg s.cells.toArray, .agg t.cells.toArray] w fun e w' => e = .returned (.agg (s.and t).cells.toArray) ∧ Fr nob w w' := by
  rw [S4.cells_eq s, S4.cells_eq t]
  go_enter Tryd.func36, Tryd.ntmps36
  go_wp2
  (try simp only [Exit.inBlock, Exit.then])
  exact bodyPost_ret (results_setR (s := s.and t) rfl rfl (heap_alloc_new' _ _ _ (by simp))) rfl ⟨rfl, (((Fr.refl _ _).alloc _).alloc _).alloc _⟩

set_option maxRecDepth 100000 in
set_option maxHeartbeats 1000000 in
theorem orR_any (s t : S4) (w : World) :
    Calls Tryd.prog 23 #[.agg s.cells.toArray, .agg t.cells.toArray] w fun e w' => e = .returned (.agg (s.or t).cells.toArray) ∧ Fr nob w w' := by
  rw [S4.cells_eq s, S4.cells_eq t]
  go_enter Tryd.func23, Tryd.ntmps23
  go_wp2
  (try simp only [Exit.inBlock, Exit.then])
  exact bodyPost_ret (results_setR (s := s.or t) rfl rfl (heap_alloc_new' _ _ _ (by simp))) rfl ⟨rfl, (((Fr.refl _ _).alloc _).alloc _).alloc _⟩

set_option maxRecDepth 100000 in
set_option maxHeartbeats 1000000 in
theorem withR_any (s : S4) (d : Nat) (w : World) (hd : d < 256) :
    Calls Tryd.prog 12 #[.agg s.cells.toArray, .int .u8 d] w fun e w' => e = .returned (.agg (s.put d).cells.toArray) ∧ Fr nob w w' := by
  rw [S4.cells_eq s]
  have hdiv : Int.tdiv (d : Int) 64 = ((d / 64 : Nat) : Int) := (Int.ofNat_tdiv d 64).symm
  have hmod : Int.tmod (d : Int) 64 = ((d % 64 : Nat) : Int) := (Int.ofNat_tmod d 64).symm
  have hq : d / 64 = 0 ∨ d / 64 = 1 ∨ d / 64 = 2 ∨ d / 64 = 3 := by omega
  have hr : d % 64 < 64 := by omega
  have w0 : IntKind.u8.wrap 0 = 0 := by decide
  have w1 : IntKind.u8.wrap 1 = 1 := by decide
  have w2 : IntKind.u8.wrap 2 = 2 := by decide
  have w3 : IntKind.u8.wrap 3 = 3 := by decide
  have wm : IntKind.u8.wrap ((d % 64 : Nat) : Int) = ((d % 64 : Nat) : Int) := IntWalk.u8_in _ (by omega)
  have wm' : IntKind.u8.wrap ((d : Int) % 64) = ((d % 64 : Nat) : Int) := by rw [show (d : Int) % 64 = ((d % 64 : Nat) : Int) by omega]; exact wm
  rcases hq with hq | hq | hq | hq
  all_goals
    have HQ := Lib.hid hq
    rw [hq] at hdiv
    clear hq
    go_enter Tryd.func12, Tryd.ntmps12
    go_wp2
    (try simp only [Exit.inBlock, Exit.then])
    refine bodyPost_ret (results_setR (s := s.put d) rfl rfl ?_) rfl ⟨rfl, ?_⟩
    · have hp : s.put d = s.put d := rfl
      unfold S4.put
      rw [HQ.out]
      exact heap_alloc_new' _ _ _ (by simp)
    · exact ((Fr.refl _ _).alloc _).alloc _

end Go.Proofs.YtmoiiidfhkfdgaaDoor
