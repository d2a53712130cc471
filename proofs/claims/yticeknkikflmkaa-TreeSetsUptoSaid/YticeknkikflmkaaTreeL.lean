/-
  Walks: SetOf (it returns, or it panics), caught: its panic is recovered.
-/
import Derived.Test.YticeknkikflmkaaTreeK
import Derived.Test.YticeknkikflmkaaRefC
import Derived.Outline
import Derived.Defers
import Derived.Recover
import Derived.Laws.Pointers
namespace Go.Proofs.Yticeknkikflmkaa
open Go.RowKit

theorem run_assert_ok {P : Program} {x a : TypeId} {fs : Array Field} (h : P.underlying a = some (.struct fs)) (v : Value) (w : World) :
    (Instr.typeAssert (.iface a v) x a false).run P w = .ok v w := by
  simp [Instr.typeAssert, run_underlying h]
theorem as_ok_One (v : Value) (w : World) : (Instr.typeAssert (.iface 53 v) 31 53 false).run Try.prog w = .ok v w := run_assert_ok Try.underlying53 v w
attribute [go_sem] as_ok_One

theorem tae : ∃ e, Try.prog.underlying Try.prog.rt.typeAssertionError = some (.pointer e) := by
  have h : (match Try.prog.underlying Try.prog.rt.typeAssertionError with | some (.pointer _) => true | _ => false) = true := by kernel_rfl
  split at h
  · rename_i e he; exact ⟨_, he⟩
  · cases h

/-- The assertion that fails: it panics, with some error; what lay there is as it was. -/
theorem assert_panics {v : Value} (h : v = .nilIface ∨ ∃ i x, v = .iface i x ∧ i ≠ 53) (w : World) :
    ∃ i p w', (Instr.typeAssert v 31 53 false).run Try.prog w = .halt (.panic (.iface i p)) w' ∧ Fr nob w w' := by
  have hu := Try.underlying53
  obtain ⟨e, he⟩ := tae
  have rp : ∀ i c a m, ∃ p w', (runtimePanic (α := Value) (.typeAssertion i c a m)).run Try.prog w = .halt (.panic (.iface Try.prog.rt.typeAssertionError p)) w' ∧ Fr nob w w' := by
    intro i c a m
    unfold runtimePanic
    simp only [Sem.run_bind, run_program, Result.andThen_ok, elemOf, run_underlying he, Sem.run_pure]
    exact ⟨_, _, rfl, (Fr.refl _ _).alloc _⟩
  rcases h with rfl | ⟨i, x, rfl, hi⟩
  · obtain ⟨p, w', h1, h2⟩ := rp (some 31) none 53 ""
    exact ⟨Try.prog.rt.typeAssertionError, p, w', by simp [Instr.typeAssert, run_underlying hu, h1], h2⟩
  · obtain ⟨p, w', h1, h2⟩ := rp (some 31) (some i) 53 ""
    exact ⟨Try.prog.rt.typeAssertionError, p, w', by simp [Instr.typeAssert, run_underlying hu, hi, h1], h2⟩

theorem setOf_one (s : S4) (w : World) :
    Calls Try.prog 35 #[.iface 53 (.agg s.cells.toArray)] w fun e w' => e = .returned (.agg #[.int .u64 s.a, .int .u64 s.b, .int .u64 s.c, .int .u64 s.d]) ∧ Fr nob w w' := by
  rw [S4.cells_eq]
  have hfl : ∀ w, (Instr.field 53 (.agg #[.int .u64 s.a, .int .u64 s.b, .int .u64 s.c, .int .u64 s.d]) 0).run Try.prog w = .ok (.agg #[.int .u64 s.a, .int .u64 s.b, .int .u64 s.c, .int .u64 s.d]) w := fun _ => by kernel_rfl
  go_enter Try.func35, Try.ntmps35
  go_wp2
  (try simp only [Exit.inBlock, Exit.then])
  exact bodyPost_ret (results_set (s := s) rfl rfl (heap_alloc_new _ _)) rfl ⟨rfl, (Fr.refl _ _).alloc _⟩

theorem setOf_panics {v : Value} (h : v = .nilIface ∨ ∃ i x, v = .iface i x ∧ i ≠ 53) (w : World) :
    Calls Try.prog 35 #[v] w fun e w' => ∃ i p, e = .panicked [{ v := .iface i p, recovered := false }] ∧ Fr nob w w' := by
  obtain ⟨i, p, w1, hr, hf⟩ := assert_panics h (w.alloc (.cells #[.int .u64 0, .int .u64 0, .int .u64 0, .int .u64 0] 33))
  clear h
  go_enter Try.func35, Try.ntmps35
  go_wp2
  exact ⟨rfl, i, p, rfl, ((Fr.refl _ _).alloc _).trans' hf⟩

theorem catch_panicking (b : Nat) (x : Bool) (u : TypeId) (pv : Value) (older : List PanicEntry) (w : World) (hc : w.cell? ⟨b, 0, none⟩ = some (.bool x)) (hz : w.frozen? ⟨b, 0, none⟩ = false) :
    CallsD Try.prog 34 #[.pointer (some ⟨b, 0, none⟩)] (.panicking ({ v := .iface u pv, recovered := false } :: older)) w fun e u' w' =>
      e = .returned (.tuple #[]) ∧ u' = .panicking ({ v := .iface u pv, recovered := true } :: older) ∧ w' = w.setCell ⟨b, 0, none⟩ (.bool true) := by
  refine callsD_of_wpS Try.func34 rfl fun c₀ cs hu => ?_
  apply wpS_region
  simp [wpOpsS, go_sem, recoverD, hu, Try.ntmps34, Exit.thenS, hc, hz, bodyPostS, results, Try.results34]

theorem catch_idle (b : Nat) (x : Bool) (w : World) (hc : w.cell? ⟨b, 0, none⟩ = some (.bool x)) (hz : w.frozen? ⟨b, 0, none⟩ = false) :
    CallsD Try.prog 34 #[.pointer (some ⟨b, 0, none⟩)] .returning w fun e u' w' => e = .returned (.tuple #[]) ∧ u' = .returning ∧ w' = w.setCell ⟨b, 0, none⟩ (.bool false) := by
  refine callsD_of_wpS Try.func34 rfl fun c₀ cs hu => ?_
  apply wpS_region
  simp [wpOpsS, go_sem, recoverD, hu, Try.ntmps34, Exit.thenS, hc, hz, bodyPostS, results, Try.results34]
  cases c₀
  simp_all


theorem makeFunc_run (fn : Fn) (first cap : Array Value) (w : World) : (Instr.makeFunc fn first cap).run Try.prog w = .ok (.func fn first cap) w := rfl

set_option maxRecDepth 100000 in
set_option maxHeartbeats 1000000 in
theorem caught_one (s : S4) (w : World) :
    Calls Try.prog 11 #[.iface 53 (.agg s.cells.toArray)] w fun e w' => e = .returned (.tuple #[.agg s.cells.toArray, .bool false]) ∧ Fr nob w w' := by
  have hmf := makeFunc_run
  rw [S4.cells_eq]
  go_enter_defers Try.func11, Try.ntmps11
  go_wp2_with fail
  refine (setOf_one s _).mono ?_
  rintro e w1 ⟨rfl, f1⟩
  have hb0 := f1.heap (heap_alloc_lt _ (heap_alloc_new _ _)) (fun x => x)
  have hb1 := f1.heap (heap_alloc_new' _ _ (w.heap.size + 1) (by simp)) (fun x => x)
  obtain ⟨c0, c1, c2, c3, z0, z1, z2, z3⟩ := cellS (s := S4.zero) hb0
  have d0 := cell_at (j := 0) hb1 rfl
  have d1 := unfrozen_at hb1 0
  have HB0 := Lib.hid hb0; have HB1 := Lib.hid hb1; have F1 := Lib.hid f1
  clear hb0 hb1 f1
  go_wp2
  have e0 := heap_setCell_at HB0.out 0 (.int .u64 s.a)
  have e1 := heap_setCell_at e0 1 (.int .u64 s.b)
  have e2 := heap_setCell_at e1 2 (.int .u64 s.c)
  have e3 := heap_setCell_at e2 3 (.int .u64 s.d)
  have g3 := heap_setCell_ne (p := ⟨w.heap.size, 3, none⟩) (heap_setCell_ne (p := ⟨w.heap.size, 2, none⟩) (heap_setCell_ne (p := ⟨w.heap.size, 1, none⟩) (heap_setCell_ne (p := ⟨w.heap.size, 0, none⟩) HB1.out (by simp) (.int .u64 s.a)) (by simp) (.int .u64 s.b)) (by simp) (.int .u64 s.c)) (by simp) (.int .u64 s.d)
  have e4 := heap_setCell_ne (p := ⟨w.heap.size + 1, 0, none⟩) e3 (by simp) (.bool false)
  have g4 := heap_setCell_at g3 0 (.bool false)
  have FW := Lib.hid (((Fr.refl nob w).alloc _).alloc _ |>.trans' F1.out)
  refine leaves_cons (f := 34) (args := #[.pointer (some ⟨w.heap.size + 1, 0, none⟩)]) (by simp) (by simp [go_sem]) ?_
  refine (catch_idle (w.heap.size + 1) false _ (cell_at g4 rfl) (unfrozen_at g4 0)).mono ?_
  rintro e u' w'' ⟨rfl, rfl, rfl⟩
  have e5 := heap_setCell_ne (p := ⟨w.heap.size + 1, 0, none⟩) e4 (by simp) (.bool false)
  have g5 := heap_setCell_at g4 0 (.bool false)
  obtain ⟨k0, k1, k2, k3, _⟩ := cellS (s := s) e5
  have k4 := cell_at (j := 0) g5 rfl
  have hfr := ((((((FW.out.setCell (p := ⟨w.heap.size, 0, none⟩) (fun h => absurd h (Nat.lt_irrefl _)) (.int .u64 s.a)).setCell (p := ⟨w.heap.size, 1, none⟩) (fun h => absurd h (Nat.lt_irrefl _)) (.int .u64 s.b)).setCell (p := ⟨w.heap.size, 2, none⟩) (fun h => absurd h (Nat.lt_irrefl _)) (.int .u64 s.c)).setCell (p := ⟨w.heap.size, 3, none⟩) (fun h => absurd h (Nat.lt_irrefl _)) (.int .u64 s.d)).setCell (p := ⟨w.heap.size + 1, 0, none⟩) (fun h => absurd h (by simp)) (.bool false)).setCell (p := ⟨w.heap.size + 1, 0, none⟩) (fun h => absurd h (by simp)) (.bool false))
  have HFR := Lib.hid hfr
  clear hfr e0 e1 e2 e3 e4 e5 g3 g4 g5 c0 c1 c2 c3 d0 d1 z0 z1 z2 z3 hmf
  simp only [Leaves, settle, results, Try.results11]
  simp [go_sem, k0, k1, k2, k3, k4]
  exact HFR.out

theorem caught_none {v : Value} (h : v = .nilIface ∨ ∃ i x, v = .iface i x ∧ i ≠ 53) (w : World) :
    Calls Try.prog 11 #[v] w fun e w' => e = .returned (.tuple #[.agg S4.zero.cells.toArray, .bool true]) ∧ Fr nob w w' := by
  have hmf := makeFunc_run
  have H := Lib.hid h
  go_enter_defers Try.func11, Try.ntmps11
  go_wp2_with fail
  refine (setOf_panics H.out _).mono ?_
  rintro e w1 ⟨i, p, rfl, f1⟩
  have hb0 := f1.heap (heap_alloc_lt _ (heap_alloc_new _ _)) (fun x => x)
  have hb1 := f1.heap (heap_alloc_new' _ _ (w.heap.size + 1) (by simp)) (fun x => x)
  obtain ⟨c0, c1, c2, c3, z0, z1, z2, z3⟩ := cellS (s := S4.zero) hb0
  have d0 := cell_at (j := 0) hb1 rfl
  have d1 := unfrozen_at hb1 0
  have HB0 := Lib.hid hb0; have HB1 := Lib.hid hb1; have F1 := Lib.hid f1
  clear hb0 hb1 f1
  go_wp2
  have FW := Lib.hid (((Fr.refl nob w).alloc _).alloc _ |>.trans' F1.out)
  refine leaves_cons (f := 34) (args := #[.pointer (some ⟨w.heap.size + 1, 0, none⟩)]) (by simp) (by simp [go_sem]) ?_
  refine (catch_panicking (w.heap.size + 1) false i p [] _ (cell_at HB1.out rfl) (unfrozen_at HB1.out 0)).mono ?_
  rintro e u' w'' ⟨rfl, rfl, rfl⟩
  have e5 := heap_setCell_ne (p := ⟨w.heap.size + 1, 0, none⟩) HB0.out (by simp) (.bool true)
  have g5 := heap_setCell_at HB1.out 0 (.bool true)
  obtain ⟨k0, k1, k2, k3, _⟩ := cellS (s := S4.zero) e5
  have k4 := cell_at (j := 0) g5 rfl
  have HFR := Lib.hid (FW.out.setCell (p := ⟨w.heap.size + 1, 0, none⟩) (fun h => absurd h (by simp)) (.bool true))
  clear e5 g5 c0 c1 c2 c3 d0 d1 z0 z1 z2 z3 hmf
  simp [Leaves, settle, results, Try.results11, go_sem, k0, k1, k2, k3, k4, S4.cells]
  exact HFR.out

end Go.Proofs.Yticeknkikflmkaa
