/-
  Merged texts of this claim: DoorS, DoorT.
-/
import Derived.Test.YtlchaocpejfikaaGreatDoorRows
import Derived.ProofKit
import Derived.LaidMore
import Derived.OpenShut
import Derived.Stop.Joined
import Derived.Lib.LaidTab
import Derived.Stop.LaidErr
import Derived.Shelf.Vars
import Derived.Test.YtlchaocpejfikaaGreatDoorM10
import Derived.Test.YtlchaocpejfikaaGreatDoorM17

/-
  The three tables of chapter 6's rows out of a row's condition; a world in which they lie. (A seat of three tables: instead of Door.)
-/
namespace Go.Proofs.YtlchaocpejfikaaGreatDoor
open Go.ChangeShapes Go.WideShapes Go.ChangeAt Go.RowKit

namespace door
theorem own : ownKnob Tryz.prog.godebug = none := by kernel_rfl
theorem laidOut : laidOutB Tryz.prog = true := by kernel_rfl
theorem gTab : Tryz.prog.globalNamed "math/bits.deBruijn64tab" = some 0 := by kernel_rfl
theorem tTab : (Tryz.prog.globals[0]?).map (·.type) = some 155 := by kernel_rfl
abbrev list1 : List (String × DataW Unit) := [("math/bits.deBruijn32tab", Rows.laid_math_bits_deBruijn32tab), ("math/bits.deBruijn64tab", Rows.laid_math_bits_deBruijn64tab), ("internal/strconv.uint64pow10", Rows.laid_internal_strconv_uint64pow10)]
theorem d64_eq : (Rows.laid_math_bits_deBruijn64tab : DataW Unit) = Lib.tabData .u8 (Lib.deBruijn64tab.map Int.ofNat) := by kernel_rfl
theorem p10_eq : (Rows.laid_internal_strconv_uint64pow10 : DataW Unit) = Lib.tabData .u64 Lib.pow10Tab := by kernel_rfl
theorem tab_len : (Lib.deBruijn64tab.map Int.ofNat).length = 64 := by decide
theorem met (os : Os) (args : Array Value) : laidMetH Tryz.prog list1 ((World.doorLaid Tryz.prog 14 os).forCall (fun _ _ => 0) ⟨#[], args, []⟩).memory :=
  laidMetH_of_parts3 (fuel := 8) (laidMet_of_run' 8 (by kernel_rfl) (by kernel_rfl)) (by kernel_rfl) (by kernel_rfl)
theorem parts {W : World} (h : laidMetH Tryz.prog list1 W) : Lib.TabIs Tryz.prog W "math/bits.deBruijn64tab" .u8 (Lib.deBruijn64tab.map Int.ofNat) ∧ Lib.TabIs Tryz.prog W "internal/strconv.uint64pow10" .u64 Lib.pow10Tab := by
  rw [MakeChecks.laidMetH_plain _ _ _ (by kernel_rfl)] at h
  unfold list1 at h
  rw [d64_eq, p10_eq] at h
  have h1 := laidMet.tail h
  have h2 := laidMet.tail h1
  exact ⟨Lib.tabIs_of_head (P := Tryz.prog) (W := W) (t := 155) (e := 5) (n := 64) gTab tTab Tryz.underlying155 Tryz.underlying5 (by kernel_rfl) (by kernel_rfl) h1,
    Lib.tabIs_of_head (P := Tryz.prog) (W := W) (g := 1) (t := 197) (e := 22) (n := 20) (by kernel_rfl) (by kernel_rfl) Tryz.underlying197 Tryz.underlying22 (by kernel_rfl) (by kernel_rfl) h2⟩
theorem tab {W : World} (h : laidMetH Tryz.prog list1 W) : Tab W := by
  have ht := (parts h).1
  intro j hj
  have hc := ht.cell gTab j (by rw [tab_len]; exact hj)
  rw [hc]
  congr 2
  have hl : j < Lib.deBruijn64tab.length := by have := tab_len; simp at this; omega
  simp [hl]
theorem p10 {W : World} (h : laidMetH Tryz.prog list1 W) : P10 W := by
  have ht := (parts h).2
  unfold Lib.TabIs World.var? at ht
  rw [show Tryz.prog.globalNamed "internal/strconv.uint64pow10" = some 1 by kernel_rfl] at ht
  simp only [Option.bind_some] at ht
  split at ht
  · next cs T fr e => injection ht with ht; subst ht; exact ⟨T, fr, e⟩
  · cases ht
end door
end Go.Proofs.YtlchaocpejfikaaGreatDoor

/-
  A law's row that lists laid variables, with the world's shape for the walk; what the library's variables hold then.
-/
namespace Go.Proofs.YtlchaocpejfikaaGreatDoor
open Go.ChangeShapes Go.WideShapes Go.ChangeAt Go.RowKit
variable {H : Type} {enc : TypeId × Value → H}

theorem returns_door {a : Assume} {C : Checked} {os : Os} {f : FuncId} {fn : Func} {s : ChangeSpec} {conds : List PathCond} {apart fresh handsOn again : Bool} {X : World → Array Value → Prop}
    (hX : ∀ (w w' : World) (args : Array Value), w.heap = w'.heap → X w args → X w' args)
    (own : ownKnob C.prog.godebug = none) (started : os.Started) (noInit : C.prog.inits.idxOf? f = none) (hfn : C.prog.funcs[f]? = some fn)
    (witness : ∃ (w : World) (tape : Tape) (i : Input), w.os = os ∧ (w.forCall tape i).Shaped C.prog ∧ i.vars = [] ∧ Input.okWide C.prog (w.forCall tape i) .any w.heap.size f i ∧
      ((s.pre enc C.prog fn conds apart (w.forCall tape i).memory i.args ∧ X (w.forCall tape i).memory i.args) ∧ sizedMet enc C.prog fn (OpenSpec.ofChange s) apart (w.forCall tape i).memory i.args) ∧ a.holds C.prog (lone (Frame.enter C.prog f i.args .normal) [] (w.forCall tape i)))
    (contract : ∀ (W : World) (base : Nat) (args : Array Value) (ds gs : List (DataW H)) (before : List MemPlace),
      (∀ (j : Nat) t v, fn.params[j]? = some t → args[j]? = some v → Value.okWide C.prog W .any base t v) →
      DataW.Whole enc C.prog fn.params.toList s.vars apart W args.toList ds gs before →
      (DataW.weightsEach C.prog (fn.params.toList ++ s.plain.varTypes C.prog) (ds ++ gs)).all (· ≤ reachBytes) = true → X W args → W.ShapedOpen C.prog →
      Calls C.prog f args W fun e W' => ∃ v, e = .returned v ∧ s.post enc C.prog fn apart fresh handsOn again W args v W') :
    ReturnsInHanded a C os f .any (fun w args => (s.pre enc C.prog fn conds apart w args ∧ X w args) ∧ sizedMet enc C.prog fn (OpenSpec.ofChange s) apart w args) (s.post enc C.prog fn apart fresh handsOn again) := by
  refine returnsInHanded_of_calls own started noInit witness ?_
  intro w tape i _ hsh _ hok hpre _
  obtain ⟨_, _, _, fn', hfn', _, _, _, _, hval⟩ := hok
  obtain rfl : fn' = fn := Option.some.inj (hfn'.symm.trans hfn)
  obtain ⟨⟨⟨ds, gs, before, hw, _⟩, hx⟩, hz⟩ := hpre
  refine (contract (w.forCall tape i) w.heap.size i.args ds gs before hval (DataW.Whole.of_heap (w' := w.forCall tape i) (by rfl) hw) (hz.weights hw) (hX _ _ _ (by rfl) hx) hsh).mono fun e W' ⟨v, he, hp⟩ => ?_
  subst he
  exact ChangeSpec.post_blind hp

theorem door.env0 {W : World} (h : laidMetH Tryz.prog door.list1 W) (hs : W.ShapedOpen Tryz.prog) : Env W :=
  ⟨door.tab h, cell_of_shapedOpen_int (zero := #[.int .i64 0]) (t := 3) (k := .i64) hs (of_decide_eq_true (by kernel_rfl)) (by kernel_rfl) rfl (by kernel_rfl) (by kernel_rfl) Tryz.underlying3⟩

/-- What a law of chapter 6 is given. -/
def Env6 (w : World) : Prop := Env w ∧ P10 w
theorem door.env {W : World} (h : laidMetH Tryz.prog door.list1 W) (hs : W.ShapedOpen Tryz.prog) : Env6 W := ⟨door.env0 h hs, door.p10 h⟩
end Go.Proofs.YtlchaocpejfikaaGreatDoor
