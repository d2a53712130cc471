/-
  OctetNarrows: the bytes of any text of signs, or that it has none, are the document's. For every input; no condition.
-/
import Derived.Test.YthkleolkkgichaaAwake1
import Derived.Test.YthkleolkkgichaaOctetX
import Derived.Test.YthkleolkkgichaaClaim
import Derived.Test.YthkleolkkgichaaRows
namespace Go.Proofs.Ythkleolkkgichaa
open Go.RowKit

theorem eq_bytes (l : List UInt8) : (l == l) = true := by simp

set_option maxRecDepth 100000 in
set_option maxHeartbeats 1000000 in
theorem lawNarrows (l : List UInt8) (w : World) (hl : l.length ≤ 9223372036854775807) :
    Calls Try.prog 5 #[.string ⟨l.toArray⟩] w fun e w' => e = .returned (.bool true) ∧ Fr nob w w' := by
  by_cases hlen : l.length ≤ 500
  · have h50 : ¬ (500 : Int) < l.length := by omega
    go_enter Try.func5, Try.ntmps5
    go_wp2_with fail
    refine (awake1_any _).mono ?_
    rintro e w1 ⟨rfl, f1⟩
    go_wp2_with fail
    refine (narrow_any l _ (by omega)).mono ?_
    obtain ⟨o, ho⟩ : ∃ o, nar l (l.length + 1) 0 [] = o := ⟨_, rfl⟩
    rw [ho]
    have HO := Lib.hid ho; clear ho
    unfold narV
    obtain ⟨S, hS⟩ : ∃ S, o.getD [] = S := ⟨_, rfl⟩
    obtain ⟨b, hb⟩ : ∃ b, o.isSome = b := ⟨_, rfl⟩
    rw [hS, hb]
    have HS := Lib.hid hS; have HB := Lib.hid hb; clear hS hb
    rintro e w2 ⟨rfl, f2⟩
    go_wp2_with fail
    refine (narrowR_any l _ (by omega)).mono ?_
    unfold narV
    rw [HO.out, HS.out, HB.out]
    rintro e w3 ⟨rfl, f3⟩
    have hse := eq_bytes S
    have hbe : (b == b) = true := by simp
    go_wp2
    go_ret
    exact ⟨by simp, f1.trans' (f2.trans' f3)⟩
  · have h50 : (500 : Int) < l.length := by omega
    go_enter Try.func5, Try.ntmps5
    go_wp2_with fail
    refine (awake1_any _).mono ?_
    rintro e w1 ⟨rfl, f1⟩
    go_wp2_with fail
    refine (awake1_any _).mono ?_
    rintro e w2 ⟨rfl, f2⟩
    go_wp2
    go_ret
    exact ⟨rfl, f1.trans' f2⟩

namespace octetNarrows
open Go.ChangeShapes Go.WideShapes Go.ChangeAt Go.RowKit
open Go.ChangeMaps (open_string shut_string)

theorem own : ownKnob Try.prog.godebug = none := by kernel_rfl
theorem laidOut : laidOutB Try.prog = true := by kernel_rfl

theorem readable : ∀ t ∈ Try.f5.params.toList, Try.prog.readableRec t = true ∧ t < Try.prog.types.size := by
  rw [Try.params5]
  intro t ht
  simp only [List.mem_cons, List.not_mem_nil, or_false] at ht
  subst ht
  exact ⟨by kernel_rfl, of_decide_eq_true (by kernel_rfl)⟩

set_option maxRecDepth 100000 in
theorem lifted (os : Os) (started : os.Started) (H : Type) (enc : TypeId × Value → H) :
    ReturnsInHanded {} Try.checked os 5 .any (Rows.octetNarrowsSpec.pre6 enc Try.prog Try.f5 Rows.octetNarrowsRow.domain false) (Rows.octetNarrowsSpec.post enc Try.prog Try.f5 false true false false) := by
  refine returnsInHanded_of_change (C := Try.checked) own started (by kernel_rfl) Try.func5
    (ChangeSpec.witness6 (enc := enc) (C := Try.checked) false ⟨#[], #[.string ByteArray.empty], []⟩ 8 (by kernel_rfl) (by kernel_rfl) (by kernel_rfl) (by kernel_rfl)) ?_
  intro W base args ds gs before hval0 hW hcnd _
  have hval : ∀ (j : Nat) t v, Try.f5.params[j]? = some t → args[j]? = some v → Value.okWide Try.prog W .any base t v := hval0
  have hW' : DataW.Whole enc Try.prog Try.f5.params.toList Rows.octetNarrowsSpec.vars false W args.toList ds gs before := hW
  obtain ⟨p, q, hA0, hV, rfl, hfz, hnd⟩ := hW
  have hA : DataW.TrodAll enc Try.prog W 0 (fun _ => true) true Try.f5.params.toList args.toList ds p := hA0
  rw [Try.params5] at hA hval
  obtain ⟨v0, vs0, d0, ds0, p0, q0, hargs, rfl, rfl, h0, r0⟩ := trodAll_cons hA
  obtain ⟨rfl, rfl, rfl⟩ := trodAll_nil r0
  obtain rfl : args = #[v0] := by cases args; simp_all
  obtain ⟨rfl, rfl⟩ := trodVars_none hV
  obtain ⟨s0, rfl, _, _, ws0⟩ := open_string Try.underlying9 (hval 0 9 v0 rfl rfl) h0
  have hs0 : s0 = ⟨s0.data.toList.toArray⟩ := by simp
  refine (show Calls Try.prog 5 #[.string s0] W _ from ?_).mono fun e W' h => h
  rw [hs0]
  refine (lawNarrows s0.data.toList W (by unfold maxLen at ws0; exact ws0)).mono fun e W' ⟨he, hg⟩ => ?_
  subst he
  exact ⟨_, rfl, law_post rfl (by kernel_rfl) Try.underlying4 laidOut readable rfl hW' hg.below⟩

theorem over : Rows.octetNarrowsRow.holds Try.pinned (OpenSpec.ofChange Rows.octetNarrowsSpec) :=
  OpenClaim.holds_of_wide 5 Try.f5 rfl rfl rfl rfl rfl rfl rfl ⟨rfl, rfl, rfl, rfl, rfl⟩ rfl rfl rfl rfl rfl (by kernel_rfl) Try.func5 (by kernel_rfl)
    (of_decide_eq_true (by kernel_rfl)) (by unfold Func.isWrapper; first | (rw [if_pos (by decide +kernel)]; kernel_rfl) | (rw [if_neg (by decide +kernel)]; exact ⟨rfl, rfl⟩))
    (fun os started H enc _ => lifted os started H enc)

/-- THE STATEMENT. -/
theorem proved : Rows.OctetNarrowsSaid := over
#print axioms proved
end octetNarrows

end Go.Proofs.Ythkleolkkgichaa
