/-
  CodeSizes: a right tree without a Rep has a program of as many instructions as its bytes, anchors and backs are, two for each group, two for each branch but one, and three. Where what the law reads is of bulk at most 1048576.
-/
import Derived.Test.YtcmjgaadffffaaaCodeK
import Derived.Test.YtcmjgaadffffaaaClaim
import Derived.Test.YtcmjgaadffffaaaRows
namespace Go.Proofs.Ytcmjgaadffffaaa
open Go.RowKit

set_option maxRecDepth 100000 in
set_option maxHeartbeats 4000000 in
theorem lawSizes (t : T) (ct : List Value) (w : World) (hb : t.bulk ≤ 1048576) (ht : RT nob w t ct) :
    Calls Try.prog 5 #[.agg ct.toArray] w fun e w' => e = .returned (.bool true) ∧ Fr nob w w' := by
  obtain ⟨kd, s, ps, mn, mx, nu, ua, uc, _, rfl, _⟩ := ht.open'
  have HT := Lib.hid ht; clear ht
  obtain ⟨w0, hw0⟩ : ∃ w0, w0 = w.alloc (.cells #[.int .i64 kd, .int .u64 s.a, .int .u64 s.b, .int .u64 s.c, .int .u64 s.d, .slice ua ps.length uc, .int .i64 mn, .int .i64 mx, .int .i64 nu] 27) := ⟨_, rfl⟩
  have f0 : Fr nob w w0 := by rw [hw0]; exact (Fr.refl _ _).alloc _
  have hb0 : w0.heap[w.heap.size]? = some (.cells #[.int .i64 kd, .int .u64 s.a, .int .u64 s.b, .int .u64 s.c, .int .u64 s.d, .slice ua ps.length uc, .int .i64 mn, .int .i64 mx, .int .i64 nu] 27 (0, 0)) := by rw [hw0]; exact newAtB _ _
  have F0 := Lib.hid f0; have HB0 := Lib.hid hb0; have HW0 := Lib.hid hw0
  clear f0 hb0 hw0
  go_enter Try.func5, Try.ntmps5
  go_wp2_with (rw [← HW0.out])
  try rw [← HW0.out]
  refine (awake07_any _).mono ?_
  rintro e w1 ⟨rfl, f1⟩
  have F1 := Lib.hid (F0.out.trans' f1); have HB1 := Lib.hid (f1.heap HB0.out (fun x => x))
  obtain ⟨x0, x1, x2, x3, x4, x5, x6, x7, x8⟩ := C9.of HB1.out
  clear f1
  go_wp2_with fail
  refine (few_any t 100 _ _ (by omega) (HT.out.on F1.out)).mono ?_
  rintro e w2 ⟨rfl, f2⟩
  have F2 := Lib.hid (F1.out.trans' f2); have HB2 := Lib.hid (f2.heap HB1.out (fun x => x)); clear f2 x0 x1 x2 x3 x4 x5 x6 x7 x8
  cases hfa : t.few 100 with
  | false =>
    clear hfa
    go_wp2_with fail
    refine (awake07_any _).mono ?_
    rintro e w3 ⟨rfl, f3⟩
    go_wp2
    go_ret
    exact ⟨rfl, F2.out.trans' f3⟩
  | true =>
    have HK := Lib.hid (T.few_known hfa)
    have hbk := T.few_bulk hfa
    have hnz := T.nd_size t
    have hz2 : t.nd.size ≤ 200 := by omega
    have hz : t.nd.size ≤ 3000000 := by omega
    clear hfa hbk hnz
    obtain ⟨x0, x1, x2, x3, x4, x5, x6, x7, x8⟩ := C9.of HB2.out
    go_wp2_with fail
    refine (right_ref t _ _ hz HK.out (HT.out.on F2.out)).mono ?_
    rintro e w3 ⟨rfl, f3⟩
    have F3 := Lib.hid (F2.out.trans' f3); have HB3 := Lib.hid (f3.heap HB2.out (fun x => x)); clear f3 x0 x1 x2 x3 x4 x5 x6 x7 x8
    cases hr : t.nd.right with
    | false =>
      clear hr
      go_wp2_with fail
      refine (awake07_any _).mono ?_
      rintro e w4 ⟨rfl, f4⟩
      go_wp2
      go_ret
      exact ⟨rfl, F3.out.trans' f4⟩
    | true =>
      have HR := Lib.hid hr
      have HFI := Lib.hid (right_fine hr hz)
      clear hr
      obtain ⟨x0, x1, x2, x3, x4, x5, x6, x7, x8⟩ := C9.of HB3.out
      go_wp2_with fail
      refine (instr_T _ t _ _ (Nat.le_refl _) hz HFI.out HK.out (HT.out.on F3.out)).mono ?_
      rintro e w4 ⟨rfl, f4⟩
      have F4 := Lib.hid (F3.out.trans' f4); have HB4 := Lib.hid (f4.heap HB3.out (fun x => x)); clear f4 x0 x1 x2 x3 x4 x5 x6 x7 x8
      cases hi : t.nd.isz with
      | none =>
        rw [show insAns none = .tuple #[.int .i64 0, .bool false] from rfl]
        clear hi
        go_wp2
        go_ret
        exact ⟨rfl, F4.out⟩
      | some k =>
        rw [show insAns (some k) = .tuple #[.int .i64 k, .bool true] from rfl]
        have HS := Lib.hid (comp_size HR.out hz2 hi)
        have hkl := isz_le _ _ hi
        have hk3 : (k : Int) ≤ 1000 := by omega
        clear hi hkl
        obtain ⟨x0, x1, x2, x3, x4, x5, x6, x7, x8⟩ := C9.of HB4.out
        go_wp2_with fail
        refine (real_any _ t _ _ (Nat.le_refl _) hz (HT.out.on F4.out)).mono ?_
        rintro e w5 ⟨v, rfl, r5, f5⟩
        have hsh := r5.shape
        have HN := Lib.hid r5.any; have F5 := Lib.hid (F4.out.trans' f5); clear r5 f5 x0 x1 x2 x3 x4 x5 x6 x7 x8
        go_wp2_with fail
        refine (compile_any t.nd v w5 hz HN.out).mono ?_
        rintro e w6 ⟨f6, h⟩
        have F6 := Lib.hid (F5.out.trans' f6); clear f6
        rcases h with ⟨h, _⟩ | ⟨_, h, _⟩ | ⟨_, h, sl, rfl, hp⟩
        · rw [HR.out] at h; cases h
        · rw [HS.out.1] at h; cases h
        · obtain ⟨_, h2, h3⟩ := HS.out
          obtain ⟨g, cp, rfl, _, _, _⟩ := prog_get hp (by rw [h2]; omega)
          rw [h2]
          obtain ⟨C, hC⟩ : ∃ C, t.nd.comp = C := ⟨_, rfl⟩
          rw [hC] at h3 ⊢
          clear h h2 hp hC HS
          have t2 : (((k + 3 : Nat) : Int) == (k : Int) + 3) = true := by rw [beq_iff_eq]; omega
          go_wp2
          go_ret
          exact ⟨by simp, F6.out.alloc _⟩

namespace codeSizes
open Go.ChangeShapes Go.WideShapes Go.ChangeAt Go.RowKit

theorem own : ownKnob Try.prog.godebug = none := by kernel_rfl
theorem laidOut : laidOutB Try.prog = true := by kernel_rfl

theorem readable : ∀ t ∈ Try.f5.params.toList, Try.prog.readableRec t = true ∧ t < Try.prog.types.size := by
  rw [Try.params5]
  intro t ht
  simp only [List.mem_cons, List.not_mem_nil, or_false] at ht
  rcases ht with rfl
  all_goals exact ⟨by kernel_rfl, of_decide_eq_true (by kernel_rfl)⟩

theorem contract (H : Type) (enc : TypeId × Value → H) (W : World) (base : Nat) (args : Array Value) (ds gs : List (DataW H)) (before : List MemPlace)
    (hval : ∀ (j : Nat) t v, Try.f5.params[j]? = some t → args[j]? = some v → Value.okWide Try.prog W .any base t v)
    (hW : DataW.Whole enc Try.prog Try.f5.params.toList Rows.codeSizesSpec.vars false W args.toList ds gs before) (hk : Rows.uptoSmall H (ds ++ gs) = true) :
    Calls Try.prog 5 args W fun e W' => ∃ v, e = .returned v ∧ Rows.codeSizesSpec.post enc Try.prog Try.f5 false true false false W args v W' := by
  have hW' := hW
  obtain ⟨p, q, hA0, hV, rfl, hfz, hnd⟩ := hW
  have hA : DataW.TrodAll enc Try.prog W 0 (fun _ => true) true Try.f5.params.toList args.toList ds p := hA0
  rw [Try.params5] at hA hval
  obtain ⟨v0, vs0, d0, ds0, p0, q0, hargs, rfl, rfl, h0, r0⟩ := trodAll_cons hA
  obtain ⟨rfl, rfl, rfl⟩ := trodAll_nil r0
  obtain rfl : args = #[v0] := by cases args; simp_all
  obtain ⟨rfl, rfl⟩ := trodVars_none hV
  have hb := of_decide_eq_true hk
  simp only [List.append_nil, Rows.uptoBulkAll, Nat.add_zero] at hb
  obtain ⟨t0, c0, rfl, e0, w0, b0⟩ := open_T (hval 0 27 v0 rfl rfl) h0
  refine (lawSizes t0 c0 W (by omega) e0).mono fun e W' ⟨he, hg⟩ => ?_
  subst he
  exact ⟨_, rfl, law_post rfl (by kernel_rfl) Try.underlying4 laidOut readable rfl hW' hg.below⟩

set_option maxRecDepth 100000 in
theorem lifted (os : Os) (started : os.Started) (H : Type) (enc : TypeId × Value → H) (F : Stop.Interp) :
    ReturnsInHanded {} Try.checked os 5 .any ((Rows.OpenSpec.upto Rows.codeSizesSpec).pre6 enc Try.prog Try.f5 Rows.codeSizesUptoRow.domain false) (((Rows.OpenSpec.upto Rows.codeSizesSpec).at F).post enc Try.prog Try.f5 false true false false) := by
  refine returnsInHanded_of_cond (C := Try.checked) (s := Rows.OpenSpec.upto Rows.codeSizesSpec) (k := Rows.uptoSmall) rfl own started (by kernel_rfl) Try.func5
    (OpenSpec.witness (enc := enc) (C := Try.checked) (s := Rows.OpenSpec.upto Rows.codeSizesSpec) (k := Rows.uptoSmall) rfl false ⟨#[], #[.agg #[.int .i64 0, .int .u64 0, .int .u64 0, .int .u64 0, .int .u64 0, .slice none 0 0, .int .i64 0, .int .i64 0, .int .i64 0]], []⟩ 8 (by kernel_rfl) (by kernel_rfl) (by kernel_rfl)
      (x := ([.agg [.lit (.int .i64 0), .agg [.lit (.int .u64 0), .lit (.int .u64 0), .lit (.int .u64 0), .lit (.int .u64 0)], .nil, .lit (.int .i64 0), .lit (.int .i64 0), .lit (.int .i64 0)]], [], [])) (by kernel_rfl) rfl (by kernel_rfl)) ?_
  intro W base args ds gs before hval hW _ hk _
  exact contract H enc W base args ds gs before hval hW hk

theorem over : Rows.codeSizesUptoRow.holds Try.pinned (Rows.OpenSpec.upto Rows.codeSizesSpec) :=
  OpenClaim.holds_of_cond 5 Try.f5 rfl rfl rfl rfl rfl rfl rfl ⟨rfl, rfl, rfl, rfl, rfl⟩ rfl rfl rfl rfl rfl (by kernel_rfl) Try.func5 (by kernel_rfl)
    (of_decide_eq_true (by kernel_rfl)) (by unfold Func.isWrapper; first | (rw [if_pos (by decide +kernel)]; kernel_rfl) | (rw [if_neg (by decide +kernel)]; exact ⟨rfl, rfl⟩))
    (fun os started H enc _ F => lifted os started H enc F)

/-- THE STATEMENT. -/
theorem proved : Rows.CodeSizesUptoSaid := over
#print axioms proved
end codeSizes

end Go.Proofs.Ytcmjgaadffffaaa
