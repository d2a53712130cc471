/-
  CodeLong: a byte so many times has as many Bytes, and a program just if that isn't too long. For every input; no condition.
-/
import Derived.Test.YtcmjgaadffffaaaCodeK
import Derived.Test.YtcmjgaadffffaaaClaimB
import Derived.Test.YtcmjgaadffffaaaRows
namespace Go.Proofs.Ytcmjgaadffffaaa
open Go.RowKit

set_option maxRecDepth 100000 in
set_option maxHeartbeats 4000000 in
theorem lawLong (a b : UInt8) (w : World) :
    Calls Try.prog 4 #[.int .u8 a.toNat, .int .u8 b.toNat] w fun e w' => e = .returned (.bool true) ∧ Fr nob w w' := by
  have ha := a.toNat_lt; have hb := b.toNat_lt
  obtain ⟨x, hx⟩ : ∃ x, a.toNat = x := ⟨_, rfl⟩
  obtain ⟨y, hy⟩ : ∃ y, b.toNat = y := ⟨_, rfl⟩
  rw [hx] at ha ⊢; rw [hy] at hb ⊢
  clear hx hy
  have hxy : x * y ≤ 255 * 255 := Nat.mul_le_mul (by omega) (by omega)
  have hr := fun c => right_long c x y (by omega) (by omega)
  have hl := fun c => comp_long c x y
  obtain ⟨P, hP⟩ : ∃ P, x * y = P := ⟨_, rfl⟩
  have hPi : (x : Int) * (y : Int) = (P : Int) := by rw [← hP]; simp
  simp only [hP] at hxy hl
  have HR := Lib.hid hr; have HL := Lib.hid hl
  have q1 : IntKind.i64.wrap (P : Int) = P := IntWalk.i64_in _ (by omega)
  have q2 : IntKind.i64.wrap ((P : Int) + 3) = (P : Int) + 3 := IntWalk.i64_in _ (by omega)
  have q3 : IntKind.i64.wrap (x : Int) = x := IntWalk.i64_in _ (by omega)
  have q4 : IntKind.i64.wrap (y : Int) = y := IntWalk.i64_in _ (by omega)
  clear hr hl hP
  go_enter Try.func4, Try.ntmps4
  go_wp2_with fail
  refine (awake07_any _).mono ?_
  rintro e w1 ⟨rfl, f1⟩
  go_wp2_with fail
  refine (of_97 w1).mono ?_
  rintro e w2 ⟨c, rfl, f2⟩
  have F2 := Lib.hid (f1.trans' (((Fr.refl _ _).alloc _).trans' f2)); clear f1 f2
  go_wp2_with fail
  refine (compile_any (.rep (.rep (.one c) x x) y y) _ w2 (by simp [Nd.size]) (by rw [RN]; exact ⟨_, rfl, by rw [RN]; exact ⟨_, rfl, by rw [RN]; rfl⟩⟩)).mono ?_
  rintro e w3 ⟨f3, h⟩
  have F3 := Lib.hid (F2.out.trans' f3); clear f3
  rcases h with ⟨h, _⟩ | ⟨_, h, rfl⟩ | ⟨_, h, sl, rfl, hp⟩
  · rw [HR.out c] at h; cases h
  · have hlt : 3000 < P + 3 := Nat.lt_of_not_le fun hle => by rw [((HL.out c).1 hle).1] at h; cases h
    have t1 : (3000 : Int) < (P : Int) + 3 := by omega
    clear h hlt
    go_wp2
    go_ret
    exact ⟨rfl, F3.out.alloc _⟩
  · have hle : P + 3 ≤ 3000 := Nat.le_of_not_lt fun hlt => by rw [(HL.out c).2 hlt] at h; cases h
    have t1 : ¬ (3000 : Int) < (P : Int) + 3 := by omega
    obtain ⟨_, h2, h3⟩ := (HL.out c).1 hle
    obtain ⟨g, cp, rfl, _, _, _⟩ := prog_get hp (by rw [h2]; omega)
    rw [h2]
    obtain ⟨C, hC⟩ : ∃ C, (Nd.rep (.rep (.one c) x x) y y).comp = C := ⟨_, rfl⟩
    rw [hC] at h3 ⊢
    clear h hle h2 hp hC
    have t2 : (((P + 3 : Nat) : Int) == (P : Int) + 3) = true := by rw [beq_iff_eq]; omega
    go_wp2
    go_ret
    exact ⟨by simp, F3.out.alloc _⟩

namespace codeLong
open Go.ChangeShapes Go.WideShapes Go.ChangeAt Go.RowKit
open Go.ChangeMaps (open_string shut_string)

theorem own : ownKnob Try.prog.godebug = none := by kernel_rfl
theorem laidOut : laidOutB Try.prog = true := by kernel_rfl

theorem readable : ∀ t ∈ Try.f4.params.toList, Try.prog.readableRec t = true ∧ t < Try.prog.types.size := by
  rw [Try.params4]
  intro t ht
  simp only [List.mem_cons, List.not_mem_nil, or_false] at ht
  rcases ht with rfl | rfl
  all_goals exact ⟨by kernel_rfl, of_decide_eq_true (by kernel_rfl)⟩

set_option maxRecDepth 100000 in
theorem lifted (os : Os) (started : os.Started) (H : Type) (enc : TypeId × Value → H) :
    ReturnsInHanded {} Try.checked os 4 .any (Rows.codeLongSpec.pre6 enc Try.prog Try.f4 Rows.codeLongRow.domain false) (Rows.codeLongSpec.post enc Try.prog Try.f4 false true false false) := by
  refine returnsInHanded_of_change (C := Try.checked) own started (by kernel_rfl) Try.func4
    (ChangeSpec.witness6 (enc := enc) (C := Try.checked) false ⟨#[], #[.int .u8 0, .int .u8 0], []⟩ 8 (by kernel_rfl) (by kernel_rfl) (by kernel_rfl) (by kernel_rfl)) ?_
  intro W base args ds gs before hval0 hW hcnd _
  have hval : ∀ (j : Nat) t v, Try.f4.params[j]? = some t → args[j]? = some v → Value.okWide Try.prog W .any base t v := hval0
  have hW' : DataW.Whole enc Try.prog Try.f4.params.toList Rows.codeLongSpec.vars false W args.toList ds gs before := hW
  obtain ⟨p, q, hA0, hV, rfl, hfz, hnd⟩ := hW
  have hA : DataW.TrodAll enc Try.prog W 0 (fun _ => true) true Try.f4.params.toList args.toList ds p := hA0
  rw [Try.params4] at hA hval
  obtain ⟨v0, vs0, d0, ds0, p0, q0, hargs, rfl, rfl, h0, r0⟩ := trodAll_cons hA
  obtain ⟨v1, vs1, d1, ds1, p1, q1, rfl, rfl, rfl, h1, r1⟩ := trodAll_cons r0
  obtain ⟨rfl, rfl, rfl⟩ := trodAll_nil r1
  obtain rfl : args = #[v0, v1] := by cases args; simp_all
  obtain ⟨rfl, rfl⟩ := trodVars_none hV
  obtain ⟨x0, rfl, _, _, wx0⟩ := open_int Try.underlying5 (hval 0 5 v0 rfl rfl) h0
  obtain ⟨c0, hc0⟩ : ∃ c : UInt8, (c.toNat : Int) = x0 := ⟨_, byte_of_wf wx0⟩
  subst hc0
  obtain ⟨x1, rfl, _, _, wx1⟩ := open_int Try.underlying5 (hval 1 5 v1 rfl rfl) h1
  obtain ⟨c1, hc1⟩ : ∃ c : UInt8, (c.toNat : Int) = x1 := ⟨_, byte_of_wf wx1⟩
  subst hc1
  refine (show Calls Try.prog 4 #[.int .u8 (c0.toNat : Int), .int .u8 (c1.toNat : Int)] W _ from ?_).mono fun e W' h => h
  refine (lawLong c0 c1 W ).mono fun e W' ⟨he, hg⟩ => ?_
  subst he
  exact ⟨_, rfl, law_post rfl (by kernel_rfl) Try.underlying4 laidOut readable rfl hW' hg.below⟩

theorem over : Rows.codeLongRow.holds Try.pinned (OpenSpec.ofChange Rows.codeLongSpec) :=
  OpenClaim.holds_of_wide 4 Try.f4 rfl rfl rfl rfl rfl rfl rfl ⟨rfl, rfl, rfl, rfl, rfl⟩ rfl rfl rfl rfl rfl (by kernel_rfl) Try.func4 (by kernel_rfl)
    (of_decide_eq_true (by kernel_rfl)) (by unfold Func.isWrapper; first | (rw [if_pos (by decide +kernel)]; kernel_rfl) | (rw [if_neg (by decide +kernel)]; exact ⟨rfl, rfl⟩))
    (fun os started H enc _ => lifted os started H enc)

/-- THE STATEMENT. -/
theorem proved : Rows.CodeLongSaid := over
#print axioms proved
end codeLong

end Go.Proofs.Ytcmjgaadffffaaa
