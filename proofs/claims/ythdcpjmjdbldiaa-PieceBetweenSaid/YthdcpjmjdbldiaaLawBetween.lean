/-
  PieceBetween: what stands between any delimiters, in any text, from any place on, or what is wrong, and where, is the document's. For every input; no condition.
-/
import Derived.Test.YthdcpjmjdbldiaaPieceE
import Derived.Test.YthdcpjmjdbldiaaClaim
import Derived.Test.YthdcpjmjdbldiaaRows
namespace Go.Proofs.Ythdcpjmjdbldiaa
open Go.RowKit

set_option maxRecDepth 100000 in
set_option maxHeartbeats 1000000 in
theorem lawBetween (l : List UInt8) (a d : Int) (rx : Bool) (w : World) (hl : l.length ≤ 9223372036854775807) :
    Calls Try.prog 3 #[.string ⟨l.toArray⟩, .agg #[.int .i64 a, .int .i64 d], .bool rx] w fun e w' => e = .returned (.bool true) ∧ Fr nob w w' := by
  by_cases hlen : l.length ≤ 300
  · have h300 : ¬ (300 : Int) < l.length := by omega
    have HL := Lib.hid hl; clear hl
    go_enter Try.func3, Try.ntmps3
    go_wp2_with fail
    refine (awake_any _).mono ?_
    rintro e w1 ⟨rfl, h1⟩
    have hb := h1.heap (heap_alloc_new w (.cells #[.int .i64 a, .int .i64 d] 22)) (fun x => x)
    have c0 := cell_at (j := 0) (v := .int .i64 a) hb rfl
    have c1 := cell_at (j := 1) (v := .int .i64 d) hb rfl
    have H1 := Lib.hid h1; clear h1 hb
    go_wp2_with fail
    go_quiet (fail)
    go_wp2_with fail
    obtain ⟨x, hx⟩ : ∃ x : UInt8, (d % 256) = x.toNat := ⟨(d % 256).toNat.toUInt8, by simp; omega⟩
    rw [hx]
    by_cases ho : (decide (a < 0) || decide ((l.length : Int) < a)) = true
    · have HO := Lib.hid ho; clear ho
      refine (between_over l a _ rx _ (by omega) HO.out).mono ?_
      rintro e w2 ⟨rfl, rfl⟩
      go_wp2_with fail
      refine (refBetween_over l a _ rx _ (by omega) HO.out).mono ?_
      rintro e w2 ⟨rfl, rfl⟩
      go_wp2
      go_ret
      exact ⟨rfl, (((Fr.refl _ w).alloc _).trans' H1.out).drewN _⟩
    · have ho2 : 0 ≤ a ∧ a ≤ l.length := by simp at ho; omega
      obtain ⟨k, rfl⟩ := Int.eq_ofNat_of_zero_le ho2.1
      have hk : k ≤ l.length := by omega
      clear ho ho2
      refine (between_any l k x rx _ (by omega) hk).mono ?_
      rintro e w2 ⟨rfl, h2⟩
      have H2 := Lib.hid h2; clear h2
      go_wp2_with fail
      refine (refBetween_any l k x rx _ (by omega) hk).mono ?_
      rintro e w3 ⟨rfl, rfl⟩
      generalize bt l x rx (l.length + 1) k [] = F
      go_wp2
      go_ret
      exact ⟨by simp, (((Fr.refl _ w).alloc _).trans' H1.out |>.drewN _).trans' H2.out⟩
  · have h300 : (300 : Int) < l.length := by omega
    go_enter Try.func3, Try.ntmps3
    go_wp2_with fail
    refine (awake_any _).mono ?_
    rintro e w1 ⟨rfl, h1⟩
    have H1 := Lib.hid h1; clear h1
    go_wp2_with fail
    refine (awake_any _).mono ?_
    rintro e w2 ⟨rfl, h2⟩
    have H2 := Lib.hid h2; clear h2
    go_wp2
    go_ret
    exact ⟨rfl, (((Fr.refl _ w).alloc _).trans' H1.out).trans' H2.out⟩


namespace pieceBetween
open Go.ChangeShapes Go.WideShapes Go.ChangeAt Go.RowKit
open Go.ChangeMaps (open_string shut_string)

theorem own : ownKnob Try.prog.godebug = none := by kernel_rfl
theorem laidOut : laidOutB Try.prog = true := by kernel_rfl

theorem readable : ∀ t ∈ Try.f3.params.toList, Try.prog.readableRec t = true ∧ t < Try.prog.types.size := by
  rw [Try.params3]
  intro t ht
  simp only [List.mem_cons, List.not_mem_nil, or_false] at ht
  rcases ht with rfl | rfl | rfl
  · exact ⟨by kernel_rfl, of_decide_eq_true (by kernel_rfl)⟩
  · exact ⟨by kernel_rfl, of_decide_eq_true (by kernel_rfl)⟩
  · exact ⟨by kernel_rfl, of_decide_eq_true (by kernel_rfl)⟩

set_option maxRecDepth 100000 in
theorem lifted (os : Os) (started : os.Started) (H : Type) (enc : TypeId × Value → H) :
    ReturnsInHanded {} Try.checked os 3 .any (Rows.pieceBetweenSpec.pre6 enc Try.prog Try.f3 Rows.pieceBetweenRow.domain false) (Rows.pieceBetweenSpec.post enc Try.prog Try.f3 false true false false) := by
  refine returnsInHanded_of_change (C := Try.checked) own started (by kernel_rfl) Try.func3
    (ChangeSpec.witness6 (enc := enc) (C := Try.checked) false ⟨#[], #[.string ByteArray.empty, .agg #[.int .i64 0, .int .i64 0], .bool false], []⟩ 8 (by kernel_rfl) (by kernel_rfl) (by kernel_rfl) (by kernel_rfl)) ?_
  intro W base args ds gs before hval0 hW hcnd _
  have hval : ∀ (j : Nat) t v, Try.f3.params[j]? = some t → args[j]? = some v → Value.okWide Try.prog W .any base t v := hval0
  have hW' : DataW.Whole enc Try.prog Try.f3.params.toList Rows.pieceBetweenSpec.vars false W args.toList ds gs before := hW
  obtain ⟨p, q, hA0, hV, rfl, hfz, hnd⟩ := hW
  have hA : DataW.TrodAll enc Try.prog W 0 (fun _ => true) true Try.f3.params.toList args.toList ds p := hA0
  rw [Try.params3] at hA hval
  obtain ⟨v0, vs0, d0, ds0, p0, q0, hargs, rfl, rfl, h0, r0⟩ := trodAll_cons hA
  obtain ⟨v1, vs1, d1, ds1, p1, q1, rfl, rfl, rfl, h1, r1⟩ := trodAll_cons r0
  obtain ⟨v2, vs2, d2, ds2, p2, q2, rfl, rfl, rfl, h2, r2⟩ := trodAll_cons r1
  obtain ⟨rfl, rfl, rfl⟩ := trodAll_nil r2
  obtain rfl : args = #[v0, v1, v2] := by cases args; simp_all
  obtain ⟨rfl, rfl⟩ := trodVars_none hV
  obtain ⟨s, rfl, _, _, ws⟩ := open_string Try.underlying9 (hval 0 9 v0 rfl rfl) h0
  obtain ⟨zs, hzl, rfl, _⟩ := open_iarr Try.underlying22 Try.underlying3 (by kernel_rfl) (by kernel_rfl) (hval 1 22 v1 rfl rfl) h1
  obtain ⟨b, rfl, _, _⟩ := open_bool Try.underlying4 (hval 2 4 v2 rfl rfl) h2
  obtain ⟨a, d, rfl⟩ := list2_of hzl
  have hs : s = ⟨s.data.toList.toArray⟩ := by simp
  refine (show Calls Try.prog 3 #[.string s, .agg #[.int .i64 a, .int .i64 d], .bool b] W _ from ?_).mono fun e W' h => h
  rw [hs]
  refine (lawBetween s.data.toList a d b W (by unfold maxLen at ws; exact ws)).mono fun e W' ⟨he, hg⟩ => ?_
  subst he
  exact ⟨_, rfl, law_post rfl (by kernel_rfl) Try.underlying4 laidOut readable rfl hW' hg.below⟩

theorem over : Rows.pieceBetweenRow.holds Try.pinned (OpenSpec.ofChange Rows.pieceBetweenSpec) :=
  OpenClaim.holds_of_wide 3 Try.f3 rfl rfl rfl rfl rfl rfl rfl ⟨rfl, rfl, rfl, rfl, rfl⟩ rfl rfl rfl rfl rfl (by kernel_rfl) Try.func3 (by kernel_rfl)
    (of_decide_eq_true (by kernel_rfl)) (by unfold Func.isWrapper; first | (rw [if_pos (by decide +kernel)]; kernel_rfl) | (rw [if_neg (by decide +kernel)]; exact ⟨rfl, rfl⟩))
    (fun os started H enc _ => lifted os started H enc)

/-- THE STATEMENT. -/
theorem proved : Rows.PieceBetweenSaid := over
#print axioms proved
end pieceBetween

end Go.Proofs.Ythdcpjmjdbldiaa
