/-
  Walks of both Parses where the place is out of the text.
-/
import Derived.Test.YtmoiiidfhkfdgaaDoorBrkJ
namespace Go.Proofs.YtmoiiidfhkfdgaaDoor
open Go.RowKit

def OutAns (w : World) (e : Ending) (w' : World) : Prop := e = .returned (.tuple #[setV S4.zero, .int .i64 0, .int .i64 1]) ∧ Fr nob w w'

theorem results_setR3 {fn : Func} {p q r : Tmp} (h : fn.results = #[.cell p 29, .tmp q, .tmp r]) {tmps : Array Value} {b : Nat} (ht : tmps.getD p undef = .pointer (some ⟨b, 0, none⟩)) {u v : Value} (hq : tmps.getD q undef = u) (hr : tmps.getD r undef = v) {W : World} {s : S4}
    (hb : W.heap[b]? = some (.cells #[.int .u64 s.a, .int .u64 s.b, .int .u64 s.c, .int .u64 s.d] 29 (0, 0))) : (results fn tmps).run Tryd.prog W = .ok (.tuple #[setV s, u, v]) W := by
  have c0 := cell_at (j := 0) (v := .int .u64 s.a) hb rfl
  have c1 := cell_at (j := 1) (v := .int .u64 s.b) hb rfl
  have c2 := cell_at (j := 2) (v := .int .u64 s.c) hb rfl
  have c3 := cell_at (j := 3) (v := .int .u64 s.d) hb rfl
  have ht' : tmps[p]?.getD undef = .pointer (some ⟨b, 0, none⟩) := by rw [← ht]; simp
  have hq' : tmps[q]?.getD undef = u := by rw [← hq]; simp
  have hr' : tmps[r]?.getD undef = v := by rw [← hr]; simp
  simp only [results, h]
  simp [ht', hq', hr', go_sem, c0, c1, c2, c3]

set_option maxRecDepth 100000 in
set_option maxHeartbeats 2000000 in
theorem parse_out (l : List UInt8) (a : Int) (w : World) (h : a < 0 ∨ (l.length : Int) < a) :
    Calls Tryd.prog 9 #[.string ⟨l.toArray⟩, .int .i64 a] w (OutAns w) := by
  obtain ⟨w0, hw0⟩ : ∃ w0, w0 = w.alloc (.cells #[.int .u64 0, .int .u64 0, .int .u64 0, .int .u64 0] 25) := ⟨_, rfl⟩
  have hz : w0.heap[w.heap.size]? = some (.cells #[.int .u64 0, .int .u64 0, .int .u64 0, .int .u64 0] 25 (0, 0)) := by rw [hw0]; exact newAt _ _
  have F := Lib.hid (show Fr nob w w0 by rw [hw0]; exact (Fr.refl _ _).alloc _)
  have rz := rule4 hz
  have HZ := Lib.hid hz; have HW := Lib.hid hw0; clear hz hw0
  by_cases h0 : a < 0
  · clear h
    go_enter Tryd.func9, Tryd.ntmps9
    iterate 14 go_step
    rw [← HW.out]
    go_wp2
    (try simp only [Exit.inBlock, Exit.then])
    refine bodyPost_ret (results_set3 (s := S4.zero) (by rfl) (by rfl) (by rfl) (by rfl) (setFour_heap HZ.out _ _ _ _)) rfl ⟨?_, setFour_frS F.out (Nat.le_refl _) _ _ _ _⟩
    rfl
  · have h1 : (l.length : Int) < a := h.resolve_left h0
    clear h
    go_enter Tryd.func9, Tryd.ntmps9
    iterate 14 go_step
    rw [← HW.out]
    go_wp2
    (try simp only [Exit.inBlock, Exit.then])
    refine bodyPost_ret (results_set3 (s := S4.zero) (by rfl) (by rfl) (by rfl) (by rfl) (setFour_heap HZ.out _ _ _ _)) rfl ⟨?_, setFour_frS F.out (Nat.le_refl _) _ _ _ _⟩
    rfl

set_option maxRecDepth 100000 in
set_option maxHeartbeats 2000000 in
theorem rparse_out (l : List UInt8) (a : Int) (w : World) (h : a < 0 ∨ (l.length : Int) < a) :
    Calls Tryd.prog 10 #[.string ⟨l.toArray⟩, .int .i64 a] w (OutAns w) := by
  obtain ⟨w0, hw0⟩ : ∃ w0, w0 = ((w.alloc (.cells #[.int .u64 0, .int .u64 0, .int .u64 0, .int .u64 0] 29)).alloc (.cells #[.int .u64 0, .int .u64 0, .int .u64 0, .int .u64 0] 29)).alloc (.cells #[.int .u64 0, .int .u64 0, .int .u64 0, .int .u64 0] 29) := ⟨_, rfl⟩
  have hz : w0.heap[w.heap.size]? = some (.cells #[.int .u64 0, .int .u64 0, .int .u64 0, .int .u64 0] 29 (0, 0)) := by rw [hw0]; exact heap_alloc_lt _ (heap_alloc_lt _ (newAt _ _))
  have hn : w0.heap[w.heap.size + 2]? = some (.cells #[.int .u64 0, .int .u64 0, .int .u64 0, .int .u64 0] 29 (0, 0)) := by rw [hw0]; have := newAt ((w.alloc (.cells #[.int .u64 0, .int .u64 0, .int .u64 0, .int .u64 0] 29)).alloc (.cells #[.int .u64 0, .int .u64 0, .int .u64 0, .int .u64 0] 29)) (.cells #[.int .u64 0, .int .u64 0, .int .u64 0, .int .u64 0] 29); simpa using this
  have F := Lib.hid (show Fr nob w w0 by rw [hw0]; exact (((Fr.refl _ _).alloc _).alloc _).alloc _)
  have rz := rule4 hz
  have rn := rule4 hn
  have HZ := Lib.hid hz; have HW := Lib.hid hw0; clear hz hw0 hn
  by_cases h0 : a < 0
  · clear h
    go_enter Tryd.func10, Tryd.ntmps10
    iterate 26 go_step
    rw [← HW.out]
    go_wp2
    (try simp only [Exit.inBlock, Exit.then])
    refine bodyPost_ret (results_setR3 (s := S4.zero) (by rfl) (by rfl) (by rfl) (by rfl) (setFour_heap HZ.out _ _ _ _)) rfl ⟨?_, setFour_frS F.out (Nat.le_refl _) _ _ _ _⟩
    rfl
  · have h1 : (l.length : Int) < a := h.resolve_left h0
    clear h
    go_enter Tryd.func10, Tryd.ntmps10
    iterate 26 go_step
    rw [← HW.out]
    go_wp2
    (try simp only [Exit.inBlock, Exit.then])
    refine bodyPost_ret (results_setR3 (s := S4.zero) (by rfl) (by rfl) (by rfl) (by rfl) (setFour_heap HZ.out _ _ _ _)) rfl ⟨?_, setFour_frS F.out (Nat.le_refl _) _ _ _ _⟩
    rfl

end Go.Proofs.YtmoiiidfhkfdgaaDoor
