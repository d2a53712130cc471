/-
  Merged texts of this claim: TreeL.
-/
import Derived.Outline
import Derived.Defers
import Derived.Recover
import Derived.Laws.Pointers
import Derived.Test.YtlchaocpejfikaaGreatDoorM20
import Derived.Test.YtlchaocpejfikaaGreatDoorM22

/-
  Walks: SetOf (it returns, or it panics), caught: its panic is recovered.
-/
namespace Go.Proofs.YtlchaocpejfikaaGreatDoor
open Go.RowKit

theorem run_assert_ok {P : Program} {x a : TypeId} {fs : Array Field} (h : P.underlying a = some (.struct fs)) (v : Value) (w : World) :
    (Instr.typeAssert (.iface a v) x a false).run P w = .ok v w := by
  simp [Instr.typeAssert, run_underlying h]
theorem as_ok_One (v : Value) (w : World) : (Instr.typeAssert (.iface 71 v) 36 71 false).run Tryz.prog w = .ok v w := run_assert_ok Tryz.underlying71 v w
attribute [go_sem] as_ok_One

theorem tae : ∃ e, Tryz.prog.underlying Tryz.prog.rt.typeAssertionError = some (.pointer e) := by
  have h : (match Tryz.prog.underlying Tryz.prog.rt.typeAssertionError with | some (.pointer _) => true | _ => false) = true := by kernel_rfl
  split at h
  · rename_i e he; exact ⟨_, he⟩
  · cases h

/-- The assertion that fails: it panics, with some error; what lay there is as it was. -/
theorem assert_panics {v : Value} (h : v = .nilIface ∨ ∃ i x, v = .iface i x ∧ i ≠ 71) (w : World) :
    ∃ i p w', (Instr.typeAssert v 36 71 false).run Tryz.prog w = .halt (.panic (.iface i p)) w' ∧ Fr nob w w' := by
  have hu := Tryz.underlying71
  obtain ⟨e, he⟩ := tae
  have rp : ∀ i c a m, ∃ p w', (runtimePanic (α := Value) (.typeAssertion i c a m)).run Tryz.prog w = .halt (.panic (.iface Tryz.prog.rt.typeAssertionError p)) w' ∧ Fr nob w w' := by
    intro i c a m
    unfold runtimePanic
    simp only [Sem.run_bind, run_program, Result.andThen_ok, elemOf, run_underlying he, Sem.run_pure]
    exact ⟨_, _, rfl, (Fr.refl _ _).alloc _⟩
  rcases h with rfl | ⟨i, x, rfl, hi⟩
  · obtain ⟨p, w', h1, h2⟩ := rp (some 36) none 71 ""
    exact ⟨Tryz.prog.rt.typeAssertionError, p, w', by simp [Instr.typeAssert, run_underlying hu, h1], h2⟩
  · obtain ⟨p, w', h1, h2⟩ := rp (some 36) (some i) 71 ""
    exact ⟨Tryz.prog.rt.typeAssertionError, p, w', by simp [Instr.typeAssert, run_underlying hu, hi, h1], h2⟩

theorem makeFunc_run (fn : Fn) (first cap : Array Value) (w : World) : (Instr.makeFunc fn first cap).run Tryz.prog w = .ok (.func fn first cap) w := rfl

end Go.Proofs.YtlchaocpejfikaaGreatDoor
