/-
  PieceTexts: any bytes, each behind a backslash, are read as a text's lines as they are, with a byte A at their end. For every input; no condition.
-/
import Derived.Test.YthdcpjmjdbldiaaPieceF
import Derived.Test.YthdcpjmjdbldiaaClaim
import Derived.Test.YthdcpjmjdbldiaaRows
namespace Go.Proofs.Ythdcpjmjdbldiaa
open Go.RowKit

def bsl (l : List UInt8) : List UInt8 := l.flatMap (fun c => [92, c])
theorem bsl_snoc (c : UInt8) (l : List UInt8) : bsl (l ++ [c]) = bsl l ++ [92, c] := by simp [bsl]
theorem bsl_len (l : List UInt8) : (bsl l).length = 2 * l.length := by
  induction l with
  | nil => rfl
  | cons c l ih =>
    have : bsl (c :: l) = 92 :: c :: bsl l := rfl
    rw [this, List.length_cons, List.length_cons, List.length_cons, ih]; omega

theorem ln_bsl (rest : List UInt8) : ∀ (l pre out : List UInt8) (n : Nat), l.length < n →
    ln (pre ++ (bsl l ++ 10 :: rest)) n pre.length out = (out ++ l ++ [10], pre.length + 2 * l.length + 1, 0) := by
  intro l
  induction l with
  | nil =>
    intro pre out n hn
    obtain ⟨m, rfl⟩ : ∃ m, n = m + 1 := ⟨n - 1, by omega⟩
    have e0 : bsl [] = [] := rfl
    rw [e0, List.nil_append]
    rw [ln_nl (by simp) (by simp)]
    simp
  | cons c l ih =>
    intro pre out n hn
    obtain ⟨m, rfl⟩ : ∃ m, n = m + 1 := ⟨n - 1, by omega⟩
    have e0 : bsl (c :: l) = [92, c] ++ bsl l := rfl
    rw [e0]
    have hg : (pre ++ ([92, c] ++ bsl l ++ 10 :: rest))[pre.length + 1]'(by simp) = c := by rw [List.getElem_append_right (by omega)]; simp
    rw [ln_esc (by simp) (by simp) (by simp), hg]
    have := ih (pre ++ [92, c]) (out ++ [c]) m (by simp at hn; omega)
    simp only [List.length_append, List.length_cons, List.length_nil, List.append_assoc, List.cons_append, List.nil_append] at this ⊢
    rw [this]
    simp; omega

set_option maxRecDepth 100000 in
set_option maxHeartbeats 2000000 in
theorem lawTexts (l : List UInt8) (w : World) (hl : l.length ≤ 9223372036854775807) :
    Calls Try.prog 6 #[.string ⟨l.toArray⟩] w fun e w' => e = .returned (.bool true) ∧ Fr nob w w' := by
  by_cases hlen : l.length ≤ 200
  · have h200 : ¬ (200 : Int) < l.length := by omega
    clear hl
    go_enter Try.func6, Try.ntmps6
    go_wp2_with fail
    refine (awake_any _).mono ?_
    rintro e w1 ⟨rfl, g1⟩
    have G1 := Lib.hid g1; clear g1
    go_wp2_with fail
    go_loop [3, 18] (fun t i => ∃ k : Nat, k ≤ l.length ∧ i = .int .i64 k ∧ t = .string ⟨(bsl (l.take k)).toArray⟩) (fun _ i => l.length - (intOf i).toNat)
    case atStart => exact ⟨0, Nat.zero_le _, rfl, rfl⟩
    case round =>
      obtain ⟨k, hk, rfl, rfl⟩ := hrel
      by_cases hlt : k < l.length
      · have hsl := run_slice_one (P := Try.prog) l (k := k) (lo := (k : Int)) (hi := (k : Int) + 1) Try.underlying9 hlt rfl rfl
        have hsn := List.take_succ_eq_append_getElem hlt
        have hes : bsl (l.take (k + 1)) = bsl (l.take k) ++ [92, l[k]] := by rw [hsn, bsl_snoc]
        have hel : (bsl (l.take k)).length ≤ 400 := by rw [bsl_len, List.length_take]; omega
        have HES := Lib.hid hes; clear hes hsn
        go_wp2
        go_round
        case rel => exact ⟨k + 1, by omega, by go_num, by rw [HES.out]⟩
        case measure => simp [intOf]; omega
      · obtain rfl : k = l.length := by omega
        have hT := List.take_of_length_le (l := l) (Nat.le_refl l.length)
        rw [hT]
        have hel := bsl_len l
        have hel2 : (bsl l).length ≤ 400 := by omega
        have hln := ln_bsl [114, 101, 115, 116] l [] [] ((bsl l ++ [10, 114, 101, 115, 116]).length + 1) (by rw [List.length_append]; omega)
        simp only [List.nil_append, List.length_nil] at hln
        have hsz : (bsl l ++ [10, 114, 101, 115, 116]).length ≤ 100000 := by rw [List.length_append]; simp only [List.length_cons, List.length_nil]; omega
        have HLN := Lib.hid hln; have HEL := Lib.hid hel; clear hln hel hT
        go_wp2_with fail
        refine (lines_any (bsl l ++ [10, 114, 101, 115, 116]) 0 _ hsz (Nat.zero_le _)).mono ?_
        rw [HLN.out]
        rintro e w2 ⟨rfl, g2⟩
        have G2 := Lib.hid g2; clear g2 hsz
        have hx : (((0 : Int) + 2 * l.length + 1) == (bsl l).length + 1) = true := by rw [HEL.out]; simp
        go_wp2
        go_ret
        exact ⟨by simp [HEL.out], G1.out.trans' G2.out⟩
  · have h200 : (200 : Int) < l.length := by omega
    go_enter Try.func6, Try.ntmps6
    go_wp2_with fail
    refine (awake_any _).mono ?_
    rintro e w1 ⟨rfl, g1⟩
    have G1 := Lib.hid g1; clear g1
    go_wp2_with fail
    refine (awake_any _).mono ?_
    rintro e w2 ⟨rfl, g2⟩
    have G2 := Lib.hid g2; clear g2
    go_wp2
    go_ret
    exact ⟨rfl, G1.out.trans' G2.out⟩

namespace pieceTexts
open Go.ChangeShapes Go.WideShapes Go.ChangeAt Go.RowKit
open Go.ChangeMaps (open_string shut_string)

theorem own : ownKnob Try.prog.godebug = none := by kernel_rfl
theorem laidOut : laidOutB Try.prog = true := by kernel_rfl

theorem readable : ∀ t ∈ Try.f6.params.toList, Try.prog.readableRec t = true ∧ t < Try.prog.types.size := by
  rw [Try.params6]
  intro t ht
  simp only [List.mem_cons, List.not_mem_nil, or_false] at ht
  subst ht
  · exact ⟨by kernel_rfl, of_decide_eq_true (by kernel_rfl)⟩

set_option maxRecDepth 100000 in
theorem lifted (os : Os) (started : os.Started) (H : Type) (enc : TypeId × Value → H) :
    ReturnsInHanded {} Try.checked os 6 .any (Rows.pieceTextsSpec.pre6 enc Try.prog Try.f6 Rows.pieceTextsRow.domain false) (Rows.pieceTextsSpec.post enc Try.prog Try.f6 false true false false) := by
  refine returnsInHanded_of_change (C := Try.checked) own started (by kernel_rfl) Try.func6
    (ChangeSpec.witness6 (enc := enc) (C := Try.checked) false ⟨#[], #[.string ByteArray.empty], []⟩ 8 (by kernel_rfl) (by kernel_rfl) (by kernel_rfl) (by kernel_rfl)) ?_
  intro W base args ds gs before hval0 hW hcnd _
  have hval : ∀ (j : Nat) t v, Try.f6.params[j]? = some t → args[j]? = some v → Value.okWide Try.prog W .any base t v := hval0
  have hW' : DataW.Whole enc Try.prog Try.f6.params.toList Rows.pieceTextsSpec.vars false W args.toList ds gs before := hW
  obtain ⟨p, q, hA0, hV, rfl, hfz, hnd⟩ := hW
  have hA : DataW.TrodAll enc Try.prog W 0 (fun _ => true) true Try.f6.params.toList args.toList ds p := hA0
  rw [Try.params6] at hA hval
  obtain ⟨v0, vs0, d0, ds0, p0, q0, hargs, rfl, rfl, h0, r0⟩ := trodAll_cons hA
  obtain ⟨rfl, rfl, rfl⟩ := trodAll_nil r0
  obtain rfl : args = #[v0] := by cases args; simp_all
  obtain ⟨rfl, rfl⟩ := trodVars_none hV
  obtain ⟨s, rfl, _, _, w0⟩ := open_string Try.underlying9 (hval 0 9 v0 rfl rfl) h0
  have e0 : s = ⟨s.data.toList.toArray⟩ := by simp
  refine (show Calls Try.prog 6 #[.string s] W _ from ?_).mono fun e W' h => h
  rw [e0]
  refine (lawTexts s.data.toList W (by unfold maxLen at w0; exact w0)).mono fun e W' ⟨he, hg⟩ => ?_
  subst he
  exact ⟨_, rfl, law_post rfl (by kernel_rfl) Try.underlying4 laidOut readable rfl hW' hg.below⟩

theorem over : Rows.pieceTextsRow.holds Try.pinned (OpenSpec.ofChange Rows.pieceTextsSpec) :=
  OpenClaim.holds_of_wide 6 Try.f6 rfl rfl rfl rfl rfl rfl rfl ⟨rfl, rfl, rfl, rfl, rfl⟩ rfl rfl rfl rfl rfl (by kernel_rfl) Try.func6 (by kernel_rfl)
    (of_decide_eq_true (by kernel_rfl)) (by unfold Func.isWrapper; first | (rw [if_pos (by decide +kernel)]; kernel_rfl) | (rw [if_neg (by decide +kernel)]; exact ⟨rfl, rfl⟩))
    (fun os started H enc _ => lifted os started H enc)

/-- THE STATEMENT. -/
theorem proved : Rows.PieceTextsSaid := over
#print axioms proved
end pieceTexts

end Go.Proofs.Ythdcpjmjdbldiaa
