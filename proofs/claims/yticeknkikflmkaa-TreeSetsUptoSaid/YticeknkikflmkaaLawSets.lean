/-
  TreeSets: the set of any node is told, or the call panics, just as the document says; Holds never does. Where what the law reads is of bulk at most 1048576.
-/
import Derived.Test.YticeknkikflmkaaLawSames
import Derived.Test.YticeknkikflmkaaTreeL
namespace Go.Proofs.Yticeknkikflmkaa
open Go.RowKit
attribute [local go_sem ↓] Go.wp_at_zero Go.wp_at_succ

theorem S4.same_comm (s t : S4) : s.same t = t.same s := by
  rw [Bool.eq_iff_iff, S4.same_iff, S4.same_iff]; exact eq_comm
abbrev C4 (w : World) (b : Nat) (v0 v1 v2 v3 : Value) : Prop := w.cell? ⟨b, 0, none⟩ = some v0 ∧ w.cell? ⟨b, 1, none⟩ = some v1 ∧ w.cell? ⟨b, 2, none⟩ = some v2 ∧ w.cell? ⟨b, 3, none⟩ = some v3
theorem C4.on {w w' : World} {b : Nat} {v0 v1 v2 v3 : Value} (h : C4 w b v0 v1 v2 v3) (f : Fr nob w w') : C4 w' b v0 v1 v2 v3 := ⟨f.cell h.1 (fun x => x), f.cell h.2.1 (fun x => x), f.cell h.2.2.1 (fun x => x), f.cell h.2.2.2 (fun x => x)⟩
theorem C4.of {w : World} {b : Nat} {v0 v1 v2 v3 : Value} {T : TypeId} {fr : Nat × Nat} (h : w.heap[b]? = some (.cells #[v0, v1, v2, v3] T fr)) : C4 w b v0 v1 v2 v3 := ⟨cell_at h rfl, cell_at h rfl, cell_at h rfl, cell_at h rfl⟩
/-- Two nodes' variables, and a set's. -/
theorem three_on {w w' : World} {b : Nat} {v0 v1 v2 v3 v4 v5 v6 v7 v8 : Value} {c : Nat} {u0 u1 u2 u3 u4 u5 u6 u7 u8 : Value} {d : Nat} {x0 x1 x2 x3 : Value}
    (h : (C9 w b v0 v1 v2 v3 v4 v5 v6 v7 v8 ∧ C9 w c u0 u1 u2 u3 u4 u5 u6 u7 u8) ∧ C4 w d x0 x1 x2 x3) (f : Fr nob w w') :
    (C9 w' b v0 v1 v2 v3 v4 v5 v6 v7 v8 ∧ C9 w' c u0 u1 u2 u3 u4 u5 u6 u7 u8) ∧ C4 w' d x0 x1 x2 x3 := ⟨C9.two h.1 f, C4.on h.2 f⟩
theorem T.one_ty {kd : Int} {s : S4} {ps : List T} {mn mx nu : Int} (h : kd ≠ 1) : (T.mk kd s ps mn mx nu).nd.ty ≠ some 53 := by
  simp only [T.nd, if_neg h]
  split
  · simp [Nd.ty]
  split
  · simp [Nd.ty]
  split
  · simp [Nd.ty]
  split
  · simp [Nd.ty]
  split
  · simp [Nd.ty]
  split
  · simp [Nd.ty]
  split <;> simp [Nd.ty]
theorem isOne_ty {n : Nd} (h : n.ty ≠ some 53) (s : S4) : n.isOne s = false := by
  cases n <;> first | rfl | exact (h rfl).elim

set_option maxRecDepth 100000 in
set_option maxHeartbeats 4000000 in
theorem lawSets (a b : T) (ca cb : List Value) (w : World) (hba : a.bulk ≤ 1048576) (hbb : b.bulk ≤ 1048576) (ha : RT nob w a ca) (hb : RT nob w b cb) :
    Calls Try.prog 3 #[.agg ca.toArray, .agg cb.toArray] w fun e w' => e = .returned (.bool true) ∧ Fr nob w w' := by
  obtain ⟨kd, s, ps, mn, mx, nu, ua, uc, hea, rfl, _⟩ := ha.open'
  obtain ⟨kd', s', ps', mn', mx', nu', ua', uc', _, rfl, _⟩ := hb.open'
  have HA := Lib.hid ha; have HB := Lib.hid hb; have HEA := Lib.hid hea; clear ha hb hea
  have hza := Lib.hid (T.nd_size a)
  have HSA := Lib.hid (box2_a w [.int .i64 kd, .int .u64 s.a, .int .u64 s.b, .int .u64 s.c, .int .u64 s.d, .slice ua ps.length uc, .int .i64 mn, .int .i64 mx, .int .i64 nu] [.int .i64 kd', .int .u64 s'.a, .int .u64 s'.b, .int .u64 s'.c, .int .u64 s'.d, .slice ua' ps'.length uc', .int .i64 mn', .int .i64 mx', .int .i64 nu'])
  have HSB := Lib.hid (box2_b w [.int .i64 kd, .int .u64 s.a, .int .u64 s.b, .int .u64 s.c, .int .u64 s.d, .slice ua ps.length uc, .int .i64 mn, .int .i64 mx, .int .i64 nu] [.int .i64 kd', .int .u64 s'.a, .int .u64 s'.b, .int .u64 s'.c, .int .u64 s'.d, .slice ua' ps'.length uc', .int .i64 mn', .int .i64 mx', .int .i64 nu'])
  have F0 := Lib.hid (box2_fr w [.int .i64 kd, .int .u64 s.a, .int .u64 s.b, .int .u64 s.c, .int .u64 s.d, .slice ua ps.length uc, .int .i64 mn, .int .i64 mx, .int .i64 nu] [.int .i64 kd', .int .u64 s'.a, .int .u64 s'.b, .int .u64 s'.c, .int .u64 s'.d, .slice ua' ps'.length uc', .int .i64 mn', .int .i64 mx', .int .i64 nu'])
  go_enter Try.func3, Try.ntmps3
  go_wp2_with fail
  refine (awake_any _).mono ?_
  rintro e w1 ⟨rfl, f1⟩
  obtain ⟨x0, x1, x2, x3, x4, x5, x6, x7, x8⟩ := C9.of (f1.heap HSA.out (fun x => x))
  have F1 := Lib.hid (F0.out.trans' f1)
  have HA1 := Lib.hid (f1.heap HSA.out (fun x => x)); have HB1 := Lib.hid (f1.heap HSB.out (fun x => x)); clear f1
  go_wp2_with fail
  refine (few_any a 200 _ _ (by omega) (HA.out.on F1.out)).mono ?_
  rintro e w2 ⟨rfl, f2⟩
  have F2 := Lib.hid (F1.out.trans' f2); have HA2 := Lib.hid (f2.heap HA1.out (fun x => x)); have HB2 := Lib.hid (f2.heap HB1.out (fun x => x)); clear f2 x0 x1 x2 x3 x4 x5 x6 x7 x8
  cases hfa : a.few 200 with
  | false =>
    clear hfa
    go_wp2_with fail
    refine (awake_any _).mono ?_
    rintro e w3 ⟨rfl, f3⟩
    go_wp2
    go_ret
    exact ⟨rfl, F2.out.trans' f3⟩
  | true =>
    clear hfa
    obtain ⟨x0, x1, x2, x3, x4, x5, x6, x7, x8⟩ := C9.of HB2.out
    go_wp2_with fail
    refine (few_any b 20 _ _ (by omega) (HB.out.on F2.out)).mono ?_
    rintro e w3 ⟨rfl, f3⟩
    have F3 := Lib.hid (F2.out.trans' f3); have HA3 := Lib.hid (f3.heap HA2.out (fun x => x)); have HB3 := Lib.hid (f3.heap HB2.out (fun x => x)); clear f3 x0 x1 x2 x3 x4 x5 x6 x7 x8
    cases hfb : b.few 20 with
    | false =>
      clear hfb
      go_wp2_with fail
      refine (awake_any _).mono ?_
      rintro e w4 ⟨rfl, f4⟩
      go_wp2
      go_ret
      exact ⟨rfl, F3.out.trans' f4⟩
    | true =>
      clear hfb
      have ha3 : a.nd.size ≤ 3000000 := by have := hza.out; omega
      obtain ⟨x0, x1, x2, x3, x4, x5, x6, x7, x8⟩ := C9.of HA3.out
      go_wp2_with fail
      refine (real_any _ a _ _ (Nat.le_refl _) ha3 (HA.out.on F3.out)).mono ?_
      rintro e w4 ⟨v, rfl, r4, f4⟩
      have HN := Lib.hid r4.any; have F4 := Lib.hid (F3.out.trans' f4); have HA4 := Lib.hid (f4.heap HA3.out (fun x => x)); have HB4 := Lib.hid (f4.heap HB3.out (fun x => x)); clear r4 f4 x0 x1 x2 x3 x4 x5 x6 x7 x8
      by_cases k1 : kd = 1
      · have hone : a.nd = .one s := by rw [HEA.out, k1]; simp [T.nd]
        have hk := HN.out
        rw [hone] at hk
        obtain rfl := hk.kind
        have HK := Lib.hid hk
        have kb : (kd != 1) = false := by simpa using k1
        clear hk hone k1
        obtain ⟨s0, s1, s2, s3⟩ := s
        obtain ⟨o0, o1, o2, o3⟩ := s'
        rw [S4.cells_eq] at HK ⊢
        go_wp2_with fail
        refine (caught_one ⟨s0, s1, s2, s3⟩ _).mono ?_
        rintro e w5 ⟨rfl, f5⟩
        rw [S4.cells_eq]
        have F5 := Lib.hid (F4.out.trans' f5)
        have hA5 := f5.heap HA4.out (fun x => x)
        have hB5 := f5.heap HB4.out (fun x => x)
        obtain ⟨x0, x1, x2, x3, x4, x5, x6, x7, x8⟩ := C9.of hA5
        have hlA := lt_heap hA5
        have hlB := lt_heap hB5
        have hnA : ¬ w.heap.size = w5.heap.size := by omega
        have hnB : ¬ w.heap.size + 1 = w5.heap.size := by omega
        have HF5 := Lib.hid f5
        have HA5 := Lib.hid hA5; have HB5 := Lib.hid hB5
        clear f5 hA5 hB5
        have hs1 := S4.same_refl ⟨s0, s1, s2, s3⟩
        have HCC := Lib.hid (show (And (And (C9 (w5.alloc (.cells #[.int .u64 s0, .int .u64 s1, .int .u64 s2, .int .u64 s3] 33)).drew w.heap.size (.int .i64 kd) (.int .u64 s0) (.int .u64 s1) (.int .u64 s2) (.int .u64 s3) (.slice ua ps.length uc) (.int .i64 mn) (.int .i64 mx) (.int .i64 nu)) (C9 (w5.alloc (.cells #[.int .u64 s0, .int .u64 s1, .int .u64 s2, .int .u64 s3] 33)).drew (w.heap.size + 1) (.int .i64 kd') (.int .u64 o0) (.int .u64 o1) (.int .u64 o2) (.int .u64 o3) (.slice ua' ps'.length uc') (.int .i64 mn') (.int .i64 mx') (.int .i64 nu'))) (C4 (w5.alloc (.cells #[.int .u64 s0, .int .u64 s1, .int .u64 s2, .int .u64 s3] 33)).drew w5.heap.size (.int .u64 s0) (.int .u64 s1) (.int .u64 s2) (.int .u64 s3))) from
          ⟨C9.two ⟨C9.of HA5.out, C9.of HB5.out⟩ ((Fr.refl nob _).alloc _).drew, C4.on (C4.of (heap_alloc_new _ _)) ((Fr.refl nob _).drew)⟩)
        have FD := Lib.hid ((((Fr.refl nob w5).alloc (.cells #[.int .u64 s0, .int .u64 s1, .int .u64 s2, .int .u64 s3] 33))).drew)
        have HK5 := Lib.hid (HK.out.on (HF5.out.trans' FD.out))
        obtain ⟨q, hq⟩ : ∃ q, S4.same ⟨s0, s1, s2, s3⟩ ⟨o0, o1, o2, o3⟩ = q := ⟨_, rfl⟩
        have hq2 : S4.same ⟨o0, o1, o2, o3⟩ ⟨s0, s1, s2, s3⟩ = q := by rw [S4.same_comm]; exact hq
        have HQ := Lib.hid (show (Nd.one ⟨s0, s1, s2, s3⟩).isOne ⟨o0, o1, o2, o3⟩ = q from hq)
        have HQ1 := Lib.hid (show (Nd.one ⟨s0, s1, s2, s3⟩).isOne ⟨s0, s1, s2, s3⟩ = true from hs1)
        go_wp2_with fail
        go_region_held3 (fun w' => (C9 w' w.heap.size (.int .i64 kd) (.int .u64 s0) (.int .u64 s1) (.int .u64 s2) (.int .u64 s3) (.slice ua ps.length uc) (.int .i64 mn) (.int .i64 mx) (.int .i64 nu) ∧ C9 w' (w.heap.size + 1) (.int .i64 kd') (.int .u64 o0) (.int .u64 o1) (.int .u64 o2) (.int .u64 o3) (.slice ua' ps'.length uc') (.int .i64 mn') (.int .i64 mx') (.int .i64 nu')) ∧ C4 w' w5.heap.size (.int .u64 s0) (.int .u64 s1) (.int .u64 s2) (.int .u64 s3))
          (first | (with_reducible exact HCC.out) | (with_reducible exact three_on HCC.out G1.out) | (with_reducible exact three_on HCC.out G2.out))
          (first | (go_at_call 12; (with_reducible refine (holds_any (.one ⟨s0, s1, s2, s3⟩) ⟨s0, s1, s2, s3⟩ _ _ HK5.out).mono ?_); rintro e g1 ⟨he, f1⟩; rw [HQ1.out] at he; subst he; have G1 := Lib.hid f1; clear f1) | (go_at_call 12; (with_reducible refine (holds_any (.one ⟨s0, s1, s2, s3⟩) ⟨o0, o1, o2, o3⟩ _ _ (HK5.out.on G1.out)).mono ?_); rintro e g2 ⟨he, f2⟩; rw [HQ.out] at he; subst he; have G2 := Lib.hid (G1.out.trans' f2); clear f2))
        all_goals
          go_wp2
          go_ret
          exact ⟨rfl, (F5.out.trans' FD.out).trans' G2.out⟩
      · have hty : a.nd.ty ≠ some 53 := by rw [HEA.out]; exact T.one_ty k1
        have HO := Lib.hid (isOne_ty hty s')
        have hm := HN.out.miss hty
        have kb : (kd != 1) = true := by simpa using k1
        have HM := Lib.hid hm
        clear hty hm k1
        go_wp2_with fail
        refine (caught_none HM.out _).mono ?_
        rintro e w5 ⟨rfl, f5⟩
        rw [S4.cells_eq]
        have F5 := Lib.hid (F4.out.trans' f5)
        have hA5 := f5.heap HA4.out (fun x => x)
        have hB5 := f5.heap HB4.out (fun x => x)
        obtain ⟨x0, x1, x2, x3, x4, x5, x6, x7, x8⟩ := C9.of hA5
        obtain ⟨y0, y1, y2, y3, y4, y5, y6, y7, y8⟩ := C9.of hB5
        have hlA := lt_heap hA5
        have hlB := lt_heap hB5
        have hnA : ¬ w.heap.size = w5.heap.size := by omega
        have hnB : ¬ w.heap.size + 1 = w5.heap.size := by omega
        have HF5 := Lib.hid f5
        clear f5 hA5 hB5
        go_wp2_with fail
        refine (holds_any a.nd s' _ _ (HN.out.on (HF5.out.trans' ((Fr.refl nob w5).alloc _)))).mono ?_
        rw [HO.out]
        rintro e w6 ⟨rfl, f6⟩
        go_wp2
        go_ret
        exact ⟨rfl, (F5.out.alloc _).trans' f6⟩

namespace treeSets
open Go.ChangeShapes Go.WideShapes Go.ChangeAt Go.RowKit

theorem own : ownKnob Try.prog.godebug = none := by kernel_rfl
theorem laidOut : laidOutB Try.prog = true := by kernel_rfl

theorem readable : ∀ t ∈ Try.f3.params.toList, Try.prog.readableRec t = true ∧ t < Try.prog.types.size := by
  rw [Try.params3]
  intro t ht
  simp only [List.mem_cons, List.not_mem_nil, or_false] at ht
  rcases ht with rfl | rfl
  all_goals exact ⟨by kernel_rfl, of_decide_eq_true (by kernel_rfl)⟩

theorem contract (H : Type) (enc : TypeId × Value → H) (W : World) (base : Nat) (args : Array Value) (ds gs : List (DataW H)) (before : List MemPlace)
    (hval : ∀ (j : Nat) t v, Try.f3.params[j]? = some t → args[j]? = some v → Value.okWide Try.prog W .any base t v)
    (hW : DataW.Whole enc Try.prog Try.f3.params.toList Rows.treeSetsSpec.vars false W args.toList ds gs before) (hk : Rows.uptoSmall H (ds ++ gs) = true) :
    Calls Try.prog 3 args W fun e W' => ∃ v, e = .returned v ∧ Rows.treeSetsSpec.post enc Try.prog Try.f3 false true false false W args v W' := by
  have hW' := hW
  obtain ⟨p, q, hA0, hV, rfl, hfz, hnd⟩ := hW
  have hA : DataW.TrodAll enc Try.prog W 0 (fun _ => true) true Try.f3.params.toList args.toList ds p := hA0
  rw [Try.params3] at hA hval
  obtain ⟨v0, vs0, d0, ds0, p0, q0, hargs, rfl, rfl, h0, r0⟩ := trodAll_cons hA
  obtain ⟨v1, vs1, d1, ds1, p1, q1, rfl, rfl, rfl, h1, r1⟩ := trodAll_cons r0
  obtain ⟨rfl, rfl, rfl⟩ := trodAll_nil r1
  obtain rfl : args = #[v0, v1] := by cases args; simp_all
  obtain ⟨rfl, rfl⟩ := trodVars_none hV
  have hb := of_decide_eq_true hk
  simp only [List.append_nil, Rows.uptoBulkAll, Nat.add_zero] at hb
  obtain ⟨t0, c0, rfl, e0, w0, b0⟩ := open_T (hval 0 27 v0 rfl rfl) h0
  obtain ⟨t1, c1, rfl, e1, w1, b1⟩ := open_T (hval 1 27 v1 rfl rfl) h1
  refine (lawSets t0 t1 c0 c1 W (by omega) (by omega) e0 e1).mono fun e W' ⟨he, hg⟩ => ?_
  subst he
  exact ⟨_, rfl, law_post rfl (by kernel_rfl) Try.underlying4 laidOut readable rfl hW' hg.below⟩

set_option maxRecDepth 100000 in
theorem lifted (os : Os) (started : os.Started) (H : Type) (enc : TypeId × Value → H) (F : Stop.Interp) :
    ReturnsInHanded {} Try.checked os 3 .any ((Rows.OpenSpec.upto Rows.treeSetsSpec).pre6 enc Try.prog Try.f3 Rows.treeSetsUptoRow.domain false) (((Rows.OpenSpec.upto Rows.treeSetsSpec).at F).post enc Try.prog Try.f3 false true false false) := by
  refine returnsInHanded_of_cond (C := Try.checked) (s := Rows.OpenSpec.upto Rows.treeSetsSpec) (k := Rows.uptoSmall) rfl own started (by kernel_rfl) Try.func3
    (OpenSpec.witness (enc := enc) (C := Try.checked) (s := Rows.OpenSpec.upto Rows.treeSetsSpec) (k := Rows.uptoSmall) rfl false ⟨#[], #[.agg #[.int .i64 0, .int .u64 0, .int .u64 0, .int .u64 0, .int .u64 0, .slice none 0 0, .int .i64 0, .int .i64 0, .int .i64 0], .agg #[.int .i64 0, .int .u64 0, .int .u64 0, .int .u64 0, .int .u64 0, .slice none 0 0, .int .i64 0, .int .i64 0, .int .i64 0]], []⟩ 8 (by kernel_rfl) (by kernel_rfl) (by kernel_rfl)
      (x := ([.agg [.lit (.int .i64 0), .agg [.lit (.int .u64 0), .lit (.int .u64 0), .lit (.int .u64 0), .lit (.int .u64 0)], .nil, .lit (.int .i64 0), .lit (.int .i64 0), .lit (.int .i64 0)], .agg [.lit (.int .i64 0), .agg [.lit (.int .u64 0), .lit (.int .u64 0), .lit (.int .u64 0), .lit (.int .u64 0)], .nil, .lit (.int .i64 0), .lit (.int .i64 0), .lit (.int .i64 0)]], [], [])) (by kernel_rfl) rfl (by kernel_rfl)) ?_
  intro W base args ds gs before hval hW _ hk _
  exact contract H enc W base args ds gs before hval hW hk

theorem over : Rows.treeSetsUptoRow.holds Try.pinned (Rows.OpenSpec.upto Rows.treeSetsSpec) :=
  OpenClaim.holds_of_cond 3 Try.f3 rfl rfl rfl rfl rfl rfl rfl ⟨rfl, rfl, rfl, rfl, rfl⟩ rfl rfl rfl rfl rfl (by kernel_rfl) Try.func3 (by kernel_rfl)
    (of_decide_eq_true (by kernel_rfl)) (by unfold Func.isWrapper; first | (rw [if_pos (by decide +kernel)]; kernel_rfl) | (rw [if_neg (by decide +kernel)]; exact ⟨rfl, rfl⟩))
    (fun os started H enc _ F => lifted os started H enc F)

/-- THE STATEMENT. -/
theorem proved : Rows.TreeSetsUptoSaid := over
#print axioms proved
end treeSets

end Go.Proofs.Yticeknkikflmkaa
