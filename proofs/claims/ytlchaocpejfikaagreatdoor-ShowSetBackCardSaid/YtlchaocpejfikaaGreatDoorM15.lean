/-
  Merged texts of this claim: ShowG.
-/
import Derived.Laws.OwnMore
import Derived.Test.YtlchaocpejfikaaGreatDoorM13
import Derived.Test.YtlchaocpejfikaaGreatDoorM14

/-
  Package show: times.
-/
namespace Go.Proofs.YtlchaocpejfikaaGreatDoor
open Go.RowKit

theorem eq_pairI (a b a' b' : Int) (k : Nat) (w : World) : (Op.equalIn (k + 2) 141 (.agg #[.int .i64 a, .int .i64 b]) (.agg #[.int .i64 a', .int .i64 b'])).run Tryz.prog w = .ok ([a, b] == [a', b']) w :=
  run_equalIn_iarr w .i64 k 141 3 2 Tryz.underlying141 Tryz.underlying3 (fun _ => by kernel_rfl) [a, b] [a', b'] rfl rfl
theorem two_eq (a b a' b' : Int) : ([a, b] == [a', b']) = (a == a' && b == b') := by simp
theorem eq_pairI_9999 (a b a' b' : Int) (w : World) : (Op.equalIn 9999 141 (.agg #[.int .i64 a, .int .i64 b]) (.agg #[.int .i64 a', .int .i64 b'])).run Tryz.prog w = .ok (a == a' && b == b') w := by
  rw [eq_pairI a b a' b' 9997 w, two_eq]
theorem eq_pairI_10000 (a b a' b' : Int) (w : World) : (Op.equalIn 10000 141 (.agg #[.int .i64 a, .int .i64 b]) (.agg #[.int .i64 a', .int .i64 b'])).run Tryz.prog w = .ok (a == a' && b == b') w := by
  rw [eq_pairI a b a' b' 9998 w, two_eq]
attribute [local go_sem] eq_pairI_9999 eq_pairI_10000

/-- How often, as a text. -/
def timesT (mn mx : Int) : List UInt8 :=
  if mn = 0 ∧ mx = -1 then [42] else if mn = 1 ∧ mx = -1 then [43] else if mn = 0 ∧ mx = 1 then [63]
  else [123] ++ Lib.decDigits mn.toNat ++ (if mx = mn then [] else if mx = -1 then [44] else [44] ++ Lib.decDigits mx.toNat) ++ [125]

section
variable {W0 w w' : World} {K : Nat → Prop} {b : Nat} {out : List UInt8}
set_option maxRecDepth 100000 in
set_option maxHeartbeats 4000000 in
theorem show_times1 (mn mx : Int) (c : UInt8) (h : TxW W0 K b out w) (hlen : out.length ≤ 10000000000000) (hc : (mn = 0 ∧ mx = -1 ∧ c = 42) ∨ (mn = 1 ∧ mx = -1 ∧ c = 43) ∨ (mn = 0 ∧ mx = 1 ∧ c = 63)) :
    Calls Tryz.prog 59 #[.pointer (some ⟨b, 0, none⟩), .int .i64 mn, .int .i64 mx] w (TxA W0 K b (out ++ [c]) w (.tuple #[])) := by
  have HT := Lib.hid h
  clear h
  rcases hc with ⟨rfl, rfl, rfl⟩ | ⟨rfl, rfl, rfl⟩ | ⟨rfl, rfl, rfl⟩
  · go_enter Tryz.func59, Tryz.ntmps59
    go_wp2_with fail
    refine (tx_byte 42 42 (by decide) rfl HT.out (by omega)).mono ?_
    rintro e w4 ⟨rfl, h4, f4⟩
    have H4 := Lib.hid h4; have F4 := Lib.hid f4; clear h4 f4
    go_wp2
    exact bodyPost_ret (results_none rfl _ _ _) rfl ⟨rfl, H4.out, F4.out⟩
  · go_enter Tryz.func59, Tryz.ntmps59
    go_wp2_with fail
    refine (tx_byte 43 43 (by decide) rfl HT.out (by omega)).mono ?_
    rintro e w4 ⟨rfl, h4, f4⟩
    have H4 := Lib.hid h4; have F4 := Lib.hid f4; clear h4 f4
    go_wp2
    exact bodyPost_ret (results_none rfl _ _ _) rfl ⟨rfl, H4.out, F4.out⟩
  · go_enter Tryz.func59, Tryz.ntmps59
    go_wp2_with fail
    refine (tx_byte 63 63 (by decide) rfl HT.out (by omega)).mono ?_
    rintro e w4 ⟨rfl, h4, f4⟩
    have H4 := Lib.hid h4; have F4 := Lib.hid f4; clear h4 f4
    go_wp2
    exact bodyPost_ret (results_none rfl _ _ _) rfl ⟨rfl, H4.out, F4.out⟩
theorem dec_len : ∀ n : Nat, n ≤ 100000 → (Lib.decDigits n).length ≤ 6 := by
  intro n hn
  have h : ∀ k m, m < 10 ^ (k + 1) → (Lib.decDigits m).length ≤ k + 1 := by
    intro k
    induction k with
    | zero => intro m hm; rw [Lib.decDigits, dif_pos (by omega)]; simp
    | succ k ih =>
      intro m hm
      rw [Lib.decDigits]
      split
      · simp
      · rw [List.length_append]; have := ih (m / 10) (by rw [Nat.pow_succ] at hm; omega); simp; omega
  exact h 5 n (by omega)
set_option maxRecDepth 100000 in
set_option maxHeartbeats 8000000 in
theorem show_times2 (m : Nat) (mx : Int) (h : TxW W0 K b out w) (hlen : out.length ≤ 10000000000000) (hP : P10 W0) (hm : m ≤ 255) (hx : mx = -1 ∨ ((m : Int) ≤ mx ∧ mx ≤ 255))
    (h1 : ¬ ((m : Int) = 0 ∧ mx = -1)) (h2 : ¬ ((m : Int) = 1 ∧ mx = -1)) (h3 : ¬ ((m : Int) = 0 ∧ mx = 1)) :
    Calls Tryz.prog 59 #[.pointer (some ⟨b, 0, none⟩), .int .i64 (m : Int), .int .i64 mx] w (TxA W0 K b (out ++ timesT m mx) w (.tuple #[])) := by
  have t1 : (((m : Int) == 0) && (mx == -1)) = false := by rw [Bool.and_eq_false_iff]; simp; omega
  have t2 : (((m : Int) == 1) && (mx == -1)) = false := by rw [Bool.and_eq_false_iff]; simp; omega
  have t3 : (((m : Int) == 0) && (mx == 1)) = false := by rw [Bool.and_eq_false_iff]; simp; omega
  have hsp : timesT m mx = [123] ++ Lib.decDigits m ++ (if mx = m then [] else if mx = -1 then [44] else [44] ++ Lib.decDigits mx.toNat) ++ [125] := by
    unfold timesT; rw [if_neg h1, if_neg h2, if_neg h3]; rfl
  have hdl := dec_len m (by omega)
  have HI := Lib.hid (fun w' (f : Fr nob W0 w') => itoa_any m w' (by omega) (hP.on f))
  have hdx : mx ≠ -1 → (Lib.decDigits mx.toNat).length ≤ 6 := fun _ => dec_len mx.toNat (by omega)
  have HIX := Lib.hid (show mx ≠ -1 → ∀ w' (f : Fr nob W0 w'), Calls Tryz.prog 61 #[.int .i64 mx] w' fun e w'' => e = .returned (.string ⟨(Lib.decDigits mx.toNat).toArray⟩) ∧ Fr nob w' w'' from fun hne w' f => by
    have := itoa_any mx.toNat w' (by omega) (hP.on f)
    rwa [show ((mx.toNat : Nat) : Int) = mx by omega] at this)
  have HT := Lib.hid h; have HSP := Lib.hid hsp; have HX := Lib.hid hx; have HDX := Lib.hid hdx
  obtain ⟨D, hD⟩ : ∃ D, Lib.decDigits m = D := ⟨_, rfl⟩
  rw [hD] at HI HSP hdl
  obtain ⟨X, hX⟩ : ∃ X, [123] ++ D = X := ⟨_, rfl⟩
  have hXl : X.length ≤ 7 := by rw [← hX]; simp; omega
  have ar : ∀ w', (Op.stringOp .add ⟨#[123]⟩ ⟨D.toArray⟩).run Tryz.prog w' = .ok (.string ⟨X.toArray⟩) w' := fun w' => by rw [← hX]; exact run_string_add_lists w' [123] D (by decide) (by omega)
  rw [hX] at HSP
  clear hX
  clear h hsp hx h1 h2 h3 hP hD hdx
  go_enter Tryz.func59, Tryz.ntmps59
  go_wp2_with fail
  refine region_fr 6 (by kernel_rfl) (by kernel_rfl) ?_
  simp only [List.take_succ_cons, List.take_zero, List.drop_succ_cons, List.drop_zero]
  repeat (quiet_step ((with_reducible exact calls_fr (HI.out _ (Fr.trans' HT.out.fr (grown_fr _ _ _))))))
  refine wpQuiet_nil ?_
  intro w1 f1
  have H1 := Lib.hid (HT.out.quiet f1); have F1 := Lib.hid (Fr.toTx (W0 := W0) (K := K) f1); clear f1
  go_wp2_with fail
  refine (tx_str X H1.out (by omega)).mono ?_
  rintro e w2 ⟨rfl, h2, f2⟩
  have H2 := Lib.hid h2; have F2 := Lib.hid (F1.out.trans f2 (fun i _ x => x)); clear h2 f2
  have last : ∀ (o : List UInt8) (w3 : World), TxW W0 K b o w3 → o.length ≤ 20000000000000 → Calls Tryz.prog 51 #[.pointer (some ⟨b, 0, none⟩), .int .u8 125] w3 (TxA W0 K b (o ++ [125]) w3 .nilIface) := fun o w3 h ho => tx_byte 125 125 (by decide) rfl h (by omega)
  have LAST := Lib.hid last
  clear last
  by_cases hxm : mx = m
  · have q1 : (mx != (m : Int)) = false := by simp [hxm]
    have q2 : ¬ (m : Int) < mx := by omega
    rw [if_pos hxm] at HSP
    clear hxm
    go_wp2_with fail
    refine (LAST.out _ w2 H2.out (by simp; omega)).mono ?_
    rintro e w3 ⟨rfl, h3, f3⟩
    have H3 := Lib.hid h3; have F3 := Lib.hid (F2.out.trans f3 (fun i _ x => x)); clear h3 f3
    go_wp2
    go_end0
    exact ⟨rfl, by rw [HSP.out]; simpa [List.append_assoc] using H3.out, F3.out⟩
  · have q1 : (mx != (m : Int)) = true := by simp [hxm]
    rw [if_neg hxm] at HSP
    go_wp2_with fail
    refine (tx_byte 44 44 (by decide) rfl H2.out (by simp; omega)).mono ?_
    rintro e w3 ⟨rfl, h3, f3⟩
    have H3 := Lib.hid h3; have F3 := Lib.hid (F2.out.trans f3 (fun i _ x => x)); clear h3 f3
    by_cases hx1 : mx = -1
    · have q2 : ¬ (m : Int) < mx := by omega
      rw [if_pos hx1] at HSP
      clear hxm hx1
      go_wp2_with fail
      refine (LAST.out _ w3 H3.out (by simp; omega)).mono ?_
      rintro e w4 ⟨rfl, h4, f4⟩
      have H4 := Lib.hid h4; have F4 := Lib.hid (F3.out.trans f4 (fun i _ x => x)); clear h4 f4
      go_wp2
      go_end0
      exact ⟨rfl, by rw [HSP.out]; simpa [List.append_assoc] using H4.out, F4.out⟩
    · have q2 : (m : Int) < mx := by have := HX.out; omega
      rw [if_neg hx1] at HSP
      have hY := HDX.out hx1
      have hIY := HIX.out hx1
      obtain ⟨Y, hYY⟩ : ∃ Y, Lib.decDigits mx.toNat = Y := ⟨_, rfl⟩
      rw [hYY] at HSP hY hIY
      have HIY := Lib.hid hIY
      clear hxm hx1 hYY HIX HDX hIY
      go_wp2_with fail
      refine region_fr 5 (by kernel_rfl) (by kernel_rfl) ?_
      simp only [List.take_succ_cons, List.take_zero, List.drop_succ_cons, List.drop_zero]
      repeat (quiet_step ((with_reducible exact calls_fr (HIY.out _ (Fr.trans' H3.out.fr (grown_fr _ _ _))))))
      refine wpQuiet_nil ?_
      intro w4 f4
      have H4 := Lib.hid (H3.out.quiet f4); have F4 := Lib.hid (F3.out.trans (Fr.toTx (W0 := W0) (K := K) f4) (fun i _ x => x)); clear f4
      go_wp2_with fail
      refine (tx_str Y H4.out (by simp; omega)).mono ?_
      rintro e w5 ⟨rfl, h5, f5⟩
      have H5 := Lib.hid h5; have F5 := Lib.hid (F4.out.trans f5 (fun i _ x => x)); clear h5 f5
      go_wp2_with fail
      refine (LAST.out _ w5 H5.out (by simp; omega)).mono ?_
      rintro e w6 ⟨rfl, h6, f6⟩
      have H6 := Lib.hid h6; have F6 := Lib.hid (F5.out.trans f6 (fun i _ x => x)); clear h6 f6
      go_wp2
      go_end0
      exact ⟨rfl, by rw [HSP.out]; simpa [List.append_assoc] using H6.out, F6.out⟩
theorem show_times (mn mx : Int) (h : TxW W0 K b out w) (hlen : out.length ≤ 10000000000000) (hP : P10 W0) (hr : repOk true mn mx = true) :
    Calls Tryz.prog 59 #[.pointer (some ⟨b, 0, none⟩), .int .i64 mn, .int .i64 mx] w (TxA W0 K b (out ++ timesT mn mx) w (.tuple #[])) := by
  unfold repOk at hr
  simp only [Bool.true_and, Bool.and_eq_true, Bool.or_eq_true, decide_eq_true_eq, beq_iff_eq] at hr
  by_cases h1 : mn = 0 ∧ mx = -1
  · have := show_times1 mn mx 42 h hlen (.inl ⟨h1.1, h1.2, rfl⟩)
    unfold timesT; rw [if_pos h1]; exact this
  · by_cases h2 : mn = 1 ∧ mx = -1
    · have := show_times1 mn mx 43 h hlen (.inr (.inl ⟨h2.1, h2.2, rfl⟩))
      unfold timesT; rw [if_neg h1, if_pos h2]; exact this
    · by_cases h3 : mn = 0 ∧ mx = 1
      · have := show_times1 mn mx 63 h hlen (.inr (.inr ⟨h3.1, h3.2, rfl⟩))
        unfold timesT; rw [if_neg h1, if_neg h2, if_pos h3]; exact this
      · obtain ⟨m, rfl⟩ : ∃ m : Nat, (m : Int) = mn := ⟨mn.toNat, by omega⟩
        exact show_times2 m mx h hlen hP (by omega) (by omega) h1 h2 h3
end
end Go.Proofs.YtlchaocpejfikaaGreatDoor
