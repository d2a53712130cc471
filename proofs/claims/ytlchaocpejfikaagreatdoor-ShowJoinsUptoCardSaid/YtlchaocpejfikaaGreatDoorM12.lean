/-
  Merged texts of this claim: BrkJ, ShowL, ShowM, ShowN.
-/
import Derived.Test.YtlchaocpejfikaaGreatDoorM05
import Derived.Test.YtlchaocpejfikaaGreatDoorM09
import Derived.Test.YtlchaocpejfikaaGreatDoorM11

/-
  Walks of the document's bracket expressions: item. Printed by tools/ref02.py.
-/
namespace Go.Proofs.YtlchaocpejfikaaGreatDoor
open Go.RowKit

def ritV : (Int × Nat) ⊕ It → Value
  | .inl z => .tuple #[setV S4.zero, .bool false, .int .i64 0, .int .i64 z.1, .int .i64 z.2]
  | .inr x => .tuple #[setV x.set, .bool x.one.isSome, .int .i64 x.next, .int .i64 0, .int .i64 0]

theorem results_set5 {fn : Func} {p q r s' t' : Tmp} (h : fn.results = #[.cell p 24, .tmp q, .tmp r, .tmp s', .tmp t']) {tmps : Array Value} {b : Nat} (ht : tmps.getD p undef = .pointer (some ⟨b, 0, none⟩)) {u v x y : Value} (hq : tmps.getD q undef = u) (hr : tmps.getD r undef = v) (hs : tmps.getD s' undef = x) (hu : tmps.getD t' undef = y) {W : World} {s : S4}
    (hb : W.heap[b]? = some (.cells #[.int .u64 s.a, .int .u64 s.b, .int .u64 s.c, .int .u64 s.d] 24 (0, 0))) : (results fn tmps).run Tryz.prog W = .ok (.tuple #[setV s, u, v, x, y]) W := by
  have c0 := cell_at (j := 0) (v := .int .u64 s.a) hb rfl
  have c1 := cell_at (j := 1) (v := .int .u64 s.b) hb rfl
  have c2 := cell_at (j := 2) (v := .int .u64 s.c) hb rfl
  have c3 := cell_at (j := 3) (v := .int .u64 s.d) hb rfl
  have ht' : tmps[p]?.getD undef = .pointer (some ⟨b, 0, none⟩) := by rw [← ht]; simp
  have hq' : tmps[q]?.getD undef = u := by rw [← hq]; simp
  have hr' : tmps[r]?.getD undef = v := by rw [← hr]; simp
  have hs' : tmps[s']?.getD undef = x := by rw [← hs]; simp
  have hu' : tmps[t']?.getD undef = y := by rw [← hu]; simp
  simp only [results, h]
  simp [ht', hq', hr', hs', hu', go_sem, c0, c1, c2, c3]
theorem classR_lit (s : ByteArray) (o : Option (Int → Bool)) (ho : clsOf s = o) (w : World) : Calls Tryz.prog 57 #[.string s] w fun e w' => e = .returned (.tuple #[setV (clsSet o), .bool o.isSome]) ∧ Fr nob w w' := by
  subst ho; exact refClass_any s w

def RItAns (R : (Int × Nat) ⊕ It) (w : World) (e : Ending) (w' : World) : Prop := e = .returned (ritV R) ∧ Fr nob w w'
end Go.Proofs.YtlchaocpejfikaaGreatDoor

/-
  The document's answer for package show: punct, text, end.
-/
namespace Go.Proofs.YtlchaocpejfikaaGreatDoor
open Go.RowKit

theorem hasR_lit6 (s : S4) (d : Nat) (w : World) (hs : s.fit) (hd : d < 256) : Calls Tryz.prog 30 #[setV s, .int .u8 d] w fun e w' => e = .returned (.bool (s.has d)) ∧ Fr nob w w' := hasR_any s d w hs hd
set_option maxRecDepth 100000 in
theorem ref_punct (n : Nat) (w : World) (hn : n < 256) :
    Calls Tryz.prog 28 #[.int .u8 (n : Int)] w fun e w' => e = .returned (.bool (punctS.has n)) ∧ Fr nob w w' := by
  have hc := classR_lit ⟨#[112, 117, 110, 99, 116]⟩ _ rfl w
  rw [show clsSet (clsOf ⟨#[112, 117, 110, 99, 116]⟩) = punctS from rfl] at hc
  have hfit : punctS.fit := fit_clsSet _
  have hh := fun w => hasR_lit6 punctS n w hfit hn
  obtain ⟨S, hS⟩ : ∃ S, punctS = S := ⟨_, rfl⟩
  rw [hS] at hc
  simp only [hS] at hh ⊢
  have HC := Lib.hid hc; have HH := Lib.hid hh
  clear hc hh hfit hS
  go_enter Tryz.func28, Tryz.ntmps28
  go_wp2_with fail
  refine HC.out.mono ?_
  rintro e w2 ⟨rfl, f2⟩
  have hb0 := rule4 (heap_alloc_new w2 (.cells #[.int .u64 S.a, .int .u64 S.b, .int .u64 S.c, .int .u64 S.d] 24))
  have F2 := Lib.hid (f2.alloc (.cells #[.int .u64 S.a, .int .u64 S.b, .int .u64 S.c, .int .u64 S.d] 24))
  clear f2
  go_wp2_with fail
  refine (HH.out _).mono ?_
  rintro e w3 ⟨rfl, f3⟩
  have F3 := Lib.hid (F2.out.trans' f3); clear f3
  go_wp2
  go_ret
  exact ⟨rfl, F3.out⟩
set_option maxRecDepth 100000 in
theorem ref_text (n : Nat) (w : World) (hn : n < 256) :
    Calls Tryz.prog 29 #[.int .u8 (n : Int)] w fun e w' => e = .returned (.string ⟨[n.toUInt8].toArray⟩) ∧ Fr nob w w' := by
  have hcv := run_conv_one (P := Tryz.prog) Tryz.underlying52 Tryz.underlying5 Tryz.underlying9 n.toUInt8
  have hnn : ((n.toUInt8.toNat : Nat) : Int) = (n : Int) := by rw [show n.toUInt8.toNat = n from by simp; omega]
  rw [hnn] at hcv
  go_enter Tryz.func29, Tryz.ntmps29
  go_wp2
  go_ret
  exact ⟨rfl, (Fr.refl nob w).alloc _⟩
set_option maxRecDepth 100000 in
theorem ref_end (n : Nat) (w : World) (hn : n < 256) :
    Calls Tryz.prog 33 #[.int .u8 (n : Int)] w fun e w' => e = .returned (.string ⟨(insT n).toArray⟩) ∧ Fr nob w w' := by
  have HP := Lib.hid (ref_punct n w hn)
  have HT := Lib.hid (fun w' => ref_text n w' hn)
  unfold insT
  cases hc : punctS.has n with
  | true =>
    rw [hc] at HP
    rw [if_pos rfl]
    clear hc
    go_enter Tryz.func33, Tryz.ntmps33
    go_wp2_with fail
    refine HP.out.mono ?_
    rintro e w2 ⟨rfl, f2⟩
    have F2 := Lib.hid f2; clear f2
    go_wp2_with fail
    refine (HT.out _).mono ?_
    rintro e w3 ⟨rfl, f3⟩
    have F3 := Lib.hid (F2.out.trans' f3); clear f3
    go_wp2
    go_ret
    exact ⟨rfl, F3.out⟩
  | false =>
    rw [hc] at HP
    rw [if_neg (by decide)]
    clear hc
    go_enter Tryz.func33, Tryz.ntmps33
    go_wp2_with fail
    refine HP.out.mono ?_
    rintro e w2 ⟨rfl, f2⟩
    have F2 := Lib.hid f2; clear f2
    go_wp2_with fail
    refine (HT.out _).mono ?_
    rintro e w3 ⟨rfl, f3⟩
    have F3 := Lib.hid (F2.out.trans' f3); clear f3
    go_wp2
    go_ret
    exact ⟨rfl, F3.out⟩
end Go.Proofs.YtlchaocpejfikaaGreatDoor

/-
  The document's answer for package show: ends.
-/
namespace Go.Proofs.YtlchaocpejfikaaGreatDoor
open Go.RowKit

def endsB (s : S4) : Bool := (s.has 9 != s.has 10) || (s.has 11 != s.has 10)
set_option maxRecDepth 100000 in
set_option maxHeartbeats 4000000 in
theorem ref_ends (s : S4) (w : World) (hs : s.fit) :
    Calls Tryz.prog 31 #[setV s] w fun e w' => e = .returned (.bool (endsB s)) ∧ Fr nob w w' := by
  obtain ⟨w1, hw1⟩ : ∃ w1, w1 = w.alloc (.cells #[.int .u64 s.a, .int .u64 s.b, .int .u64 s.c, .int .u64 s.d] 24) := ⟨_, rfl⟩
  have hz1 : w1.heap[w.heap.size]? = some (.cells #[.int .u64 s.a, .int .u64 s.b, .int .u64 s.c, .int .u64 s.d] 24 (0, 0)) := by rw [hw1]; exact newAt _ _
  have f1 : Fr nob w w1 := by rw [hw1]; exact (Fr.refl _ _).alloc _
  have hh := fun d (hd : d < 256) w' => hasR_lit6 s d w' hs hd
  have h9 := Lib.hid (hh 9 (by decide)); have h10 := Lib.hid (hh 10 (by decide)); have h11 := Lib.hid (hh 11 (by decide))
  have r1 := rule4 hz1
  have rk := fun d os => rule4 hz1 _ (grown_fr w1 d os)
  have HW1 := Lib.hid hw1; have F1 := Lib.hid f1; have HZ := Lib.hid hz1
  unfold endsB
  obtain ⟨x9, hx9⟩ : ∃ x, s.has 9 = x := ⟨_, rfl⟩
  obtain ⟨x10, hx10⟩ : ∃ x, s.has 10 = x := ⟨_, rfl⟩
  obtain ⟨x11, hx11⟩ : ∃ x, s.has 11 = x := ⟨_, rfl⟩
  rw [hx9] at h9 ⊢
  rw [hx10] at h10 ⊢
  rw [hx11] at h11 ⊢
  clear hh hx9 hx10 hx11 hw1 f1 hz1 hs
  have g9 : ∀ w', Calls Tryz.prog 30 #[.agg #[.int .u64 s.a, .int .u64 s.b, .int .u64 s.c, .int .u64 s.d], .int .u8 9] w' fun e w'' => e = .returned (.bool x9) ∧ Fr nob w' w'' := h9.out
  have g10 : ∀ w', Calls Tryz.prog 30 #[.agg #[.int .u64 s.a, .int .u64 s.b, .int .u64 s.c, .int .u64 s.d], .int .u8 10] w' fun e w'' => e = .returned (.bool x10) ∧ Fr nob w' w'' := h10.out
  have g11 : ∀ w', Calls Tryz.prog 30 #[.agg #[.int .u64 s.a, .int .u64 s.b, .int .u64 s.c, .int .u64 s.d], .int .u8 11] w' fun e w'' => e = .returned (.bool x11) ∧ Fr nob w' w'' := h11.out
  have G9 := Lib.hid g9; have G10 := Lib.hid g10; have G11 := Lib.hid g11
  clear g9 g10 g11 h9 h10 h11
  rw [show (x9 != x10) = (!(x9 == x10)) from rfl]
  cases hne : (!(x9 == x10)) with
  | true =>
    rw [Bool.true_or]
    go_enter Tryz.func31, Tryz.ntmps31
    go_wp2_with (rw [← HW1.out])
    refine region_fr 9 (by kernel_rfl) (by kernel_rfl) ?_
    simp only [List.take_succ_cons, List.take_zero, List.drop_succ_cons, List.drop_zero]
    repeat (quiet_step (first | (with_reducible exact calls_fr (G9.out _)) | (with_reducible exact calls_fr (G10.out _)) | (with_reducible exact calls_fr (G11.out _))))
    refine wpQuiet_nil ?_
    intro w2 f2
    have F2 := Lib.hid (F1.out.trans' f2); clear f2
    go_wp2
    go_ret
    exact ⟨rfl, F2.out⟩
  | false =>
    rw [Bool.false_or]
    go_enter Tryz.func31, Tryz.ntmps31
    go_wp2_with (rw [← HW1.out])
    refine region_fr 9 (by kernel_rfl) (by kernel_rfl) ?_
    simp only [List.take_succ_cons, List.take_zero, List.drop_succ_cons, List.drop_zero]
    repeat (quiet_step (first | (with_reducible exact calls_fr (G9.out _)) | (with_reducible exact calls_fr (G10.out _)) | (with_reducible exact calls_fr (G11.out _))))
    refine wpQuiet_nil ?_
    intro w2 f2
    have F2 := Lib.hid (F1.out.trans' f2); clear f2
    go_wp2_with fail
    refine (G10.out _).mono ?_
    rintro e w3 ⟨rfl, f3⟩
    have F3 := Lib.hid (F2.out.trans' f3); clear f3
    go_wp2
    go_ret
    exact ⟨rfl, F3.out⟩
end Go.Proofs.YtlchaocpejfikaaGreatDoor

/-
  The document's text of a set is the program's. Plain.
-/
namespace Go.Proofs.YtlchaocpejfikaaGreatDoor
open Go.RowKit

/-- The byte A begins or ends a span: it is in the set, and one beside it isn't. -/
theorem endB_spl (p : Nat → Bool) : endB (spl p 256) = (p 10 && (!p 9 || !p 11)) := by
  have g := spl_good p 256
  rw [Bool.eq_iff_iff]
  unfold endB
  rw [List.any_eq_true]
  constructor
  · rintro ⟨x, hx, h⟩
    have hi := g.in_ x hx
    have hc : ∀ e, x.1 ≤ e → e ≤ x.2 → p e = true := fun e h1 h2 => (g.cov e (by omega)).2 ⟨x, hx, h1, h2⟩
    -- what stands right ahead of a span, or behind it, is in none
    have hno : ∀ e, (e + 1 = x.1 ∨ e = x.2 + 1) → e < 256 → p e = false := fun e he h256 => by
      cases hp : p e with
      | false => rfl
      | true =>
        obtain ⟨y, hy, h1, h2⟩ := (g.cov e h256).1 hp
        obtain ⟨i, hi', rfl⟩ := List.getElem_of_mem hx
        obtain ⟨j, hj, rfl⟩ := List.getElem_of_mem hy
        have hp := List.pairwise_iff_getElem.1 g.gap
        rcases Nat.lt_trichotomy i j with hij | rfl | hij
        · have := hp i j hi' hj hij; omega
        · omega
        · have := hp j i hj hi' hij; have := g.in_ _ hy; omega
    simp only [Bool.or_eq_true, beq_iff_eq] at h
    rw [Bool.and_eq_true, Bool.or_eq_true]
    rcases h with h | h
    · refine ⟨hc 10 (by omega) (by omega), .inl ?_⟩
      rw [hno 9 (by omega) (by omega)]; rfl
    · refine ⟨hc 10 (by omega) (by omega), .inr ?_⟩
      rw [hno 11 (by omega) (by omega)]; rfl
  · intro h
    rw [Bool.and_eq_true, Bool.or_eq_true] at h
    obtain ⟨h10, h⟩ := h
    obtain ⟨x, hx, h1, h2⟩ := (g.cov 10 (by omega)).1 h10
    have hi := g.in_ x hx
    have hc : ∀ e, x.1 ≤ e → e ≤ x.2 → p e = true := fun e h1 h2 => (g.cov e (by omega)).2 ⟨x, hx, h1, h2⟩
    refine ⟨x, hx, ?_⟩
    simp only [Bool.or_eq_true, beq_iff_eq]
    rcases h with h | h
    · left
      by_cases hx1 : x.1 = 10
      · exact hx1
      · rw [hc 9 (by omega) (by omega)] at h; cases h
    · right
      by_cases hx2 : x.2 = 10
      · exact hx2
      · rw [hc 11 (by omega) (by omega)] at h; cases h
/-- What the document tells. -/
theorem setT_ref {s : S4} (hs : s.fit) (h256 : s.len ≠ 256) (h1 : s.len ≠ 1) (o : Bool) (ho : decide (128 < s.len ∨ s.len = 0) = o) :
    setT s = brkT (if ((o != s.has 10) && endsB s) = true then !o else o) (if (if ((o != s.has 10) && endsB s) = true then !o else o) = true then s.not else s) := by
  unfold setT
  rw [if_neg h256, if_neg h1]
  simp only
  rw [ho, endB_spl]
  unfold endsB
  cases o with
  | true =>
    simp only [if_true, has_not]
    cases h9 : s.has 9 <;> cases h10 : s.has 10 <;> cases h11 : s.has 11 <;> simp [S4.not_not hs]
  | false =>
    simp only [Bool.false_eq_true, if_false]
    cases h9 : s.has 9 <;> cases h10 : s.has 10 <;> cases h11 : s.has 11 <;> simp
end Go.Proofs.YtlchaocpejfikaaGreatDoor
