/-
  OctetClasses: the class of any name is the document's. For every input; no condition.
-/
import Derived.Test.YthkleolkkgichaaAwake1
import Derived.Test.YthkleolkkgichaaClaim
import Derived.Test.YthkleolkkgichaaRows
namespace Go.Proofs.Ythkleolkkgichaa
open Go.RowKit

theorem refClass_lit (s : ByteArray) (o : Option (Int → Bool)) (ho : clsOf s = o) (w : World) : Calls Try.prog 11 #[.string s] w fun e w' => e = .returned (.tuple #[setV (clsSet o), .bool o.isSome]) ∧ Fr nob w w' := by
  subst ho; exact refClass_any s w

set_option maxRecDepth 100000 in
set_option maxHeartbeats 1000000 in
theorem lawClasses (s : ByteArray) (w : World) (hl : s.size ≤ 9223372036854775807) :
    Calls Try.prog 3 #[.string s] w fun e w' => e = .returned (.bool true) ∧ Fr nob w w' := by
  by_cases hlen : s.size ≤ 50
  · have h50 : ¬ (50 : Int) < s.size := by omega
    go_enter Try.func3, Try.ntmps3
    go_wp2_with fail
    refine (awake1_any _).mono ?_
    rintro e w1 ⟨rfl, f1⟩
    go_wp2_with fail
    obtain ⟨o, ho⟩ : ∃ o, clsOf s = o := ⟨_, rfl⟩
    refine (class_lit s o ho _).mono ?_
    have HO := Lib.hid ho; clear ho
    obtain ⟨S, hS⟩ : ∃ S, clsSet o = S := ⟨_, rfl⟩
    obtain ⟨b, hb⟩ : ∃ b, o.isSome = b := ⟨_, rfl⟩
    rw [hS, hb]
    have HS := Lib.hid hS; have HB := Lib.hid hb; clear hS hb
    rintro e w2 ⟨rfl, f2⟩
    go_wp2_with fail
    refine (refClass_lit s o HO.out _).mono ?_
    rw [HS.out, HB.out]
    rintro e w3 ⟨rfl, f3⟩
    have hb := f3.heap (heap_alloc_new w2 (.cells #[.int .u64 S.a, .int .u64 S.b, .int .u64 S.c, .int .u64 S.d] 25)) (fun x => x)
    have r0 := rule4 hb _ (Fr.refl _ _)
    have hlt := lt_heap hb
    clear hb
    have hse := S4.same_refl S
    have hbe : (b == b) = true := by simp
    go_wp2
    go_ret
    exact ⟨by simp, f1.trans' (f2.trans' (((Fr.refl _ _).alloc _).trans' (f3.alloc _)))⟩
  · have h50 : (50 : Int) < s.size := by omega
    go_enter Try.func3, Try.ntmps3
    go_wp2_with fail
    refine (awake1_any _).mono ?_
    rintro e w1 ⟨rfl, f1⟩
    go_wp2_with fail
    refine (awake1_any _).mono ?_
    rintro e w2 ⟨rfl, f2⟩
    go_wp2
    go_ret
    exact ⟨rfl, f1.trans' f2⟩

namespace octetClasses
open Go.ChangeShapes Go.WideShapes Go.ChangeAt Go.RowKit
open Go.ChangeMaps (open_string shut_string)

theorem own : ownKnob Try.prog.godebug = none := by kernel_rfl
theorem laidOut : laidOutB Try.prog = true := by kernel_rfl

theorem readable : ∀ t ∈ Try.f3.params.toList, Try.prog.readableRec t = true ∧ t < Try.prog.types.size := by
  rw [Try.params3]
  intro t ht
  simp only [List.mem_cons, List.not_mem_nil, or_false] at ht
  subst ht
  exact ⟨by kernel_rfl, of_decide_eq_true (by kernel_rfl)⟩

set_option maxRecDepth 100000 in
theorem lifted (os : Os) (started : os.Started) (H : Type) (enc : TypeId × Value → H) :
    ReturnsInHanded {} Try.checked os 3 .any (Rows.octetClassesSpec.pre6 enc Try.prog Try.f3 Rows.octetClassesRow.domain false) (Rows.octetClassesSpec.post enc Try.prog Try.f3 false true false false) := by
  refine returnsInHanded_of_change (C := Try.checked) own started (by kernel_rfl) Try.func3
    (ChangeSpec.witness6 (enc := enc) (C := Try.checked) false ⟨#[], #[.string ByteArray.empty], []⟩ 8 (by kernel_rfl) (by kernel_rfl) (by kernel_rfl) (by kernel_rfl)) ?_
  intro W base args ds gs before hval0 hW hcnd _
  have hval : ∀ (j : Nat) t v, Try.f3.params[j]? = some t → args[j]? = some v → Value.okWide Try.prog W .any base t v := hval0
  have hW' : DataW.Whole enc Try.prog Try.f3.params.toList Rows.octetClassesSpec.vars false W args.toList ds gs before := hW
  obtain ⟨p, q, hA0, hV, rfl, hfz, hnd⟩ := hW
  have hA : DataW.TrodAll enc Try.prog W 0 (fun _ => true) true Try.f3.params.toList args.toList ds p := hA0
  rw [Try.params3] at hA hval
  obtain ⟨v0, vs0, d0, ds0, p0, q0, hargs, rfl, rfl, h0, r0⟩ := trodAll_cons hA
  obtain ⟨rfl, rfl, rfl⟩ := trodAll_nil r0
  obtain rfl : args = #[v0] := by cases args; simp_all
  obtain ⟨rfl, rfl⟩ := trodVars_none hV
  obtain ⟨s0, rfl, _, _, ws0⟩ := open_string Try.underlying9 (hval 0 9 v0 rfl rfl) h0
  refine (show Calls Try.prog 3 #[.string s0] W _ from ?_).mono fun e W' h => h
  refine (lawClasses s0 W (by unfold maxLen at ws0; exact ws0)).mono fun e W' ⟨he, hg⟩ => ?_
  subst he
  exact ⟨_, rfl, law_post rfl (by kernel_rfl) Try.underlying4 laidOut readable rfl hW' hg.below⟩

theorem over : Rows.octetClassesRow.holds Try.pinned (OpenSpec.ofChange Rows.octetClassesSpec) :=
  OpenClaim.holds_of_wide 3 Try.f3 rfl rfl rfl rfl rfl rfl rfl ⟨rfl, rfl, rfl, rfl, rfl⟩ rfl rfl rfl rfl rfl (by kernel_rfl) Try.func3 (by kernel_rfl)
    (of_decide_eq_true (by kernel_rfl)) (by unfold Func.isWrapper; first | (rw [if_pos (by decide +kernel)]; kernel_rfl) | (rw [if_neg (by decide +kernel)]; exact ⟨rfl, rfl⟩))
    (fun os started H enc _ => lifted os started H enc)

/-- THE STATEMENT. -/
theorem proved : Rows.OctetClassesSaid := over
#print axioms proved
end octetClasses

end Go.Proofs.Ythkleolkkgichaa
