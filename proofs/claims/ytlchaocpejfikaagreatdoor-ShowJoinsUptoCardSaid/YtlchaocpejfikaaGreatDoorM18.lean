/-
  Merged texts of this claim: ShowG, ShowR, ShowS.
-/
import Derived.Laws.OwnMore
import Derived.Test.YtlchaocpejfikaaGreatDoorM16
import Derived.Test.YtlchaocpejfikaaGreatDoorM17

/-
  Package show: times.
-/
namespace Go.Proofs.YtlchaocpejfikaaGreatDoor
open Go.RowKit

theorem eq_pairI (a b a' b' : Int) (k : Nat) (w : World) : (Op.equalIn (k + 2) 141 (.agg #[.int .i64 a, .int .i64 b]) (.agg #[.int .i64 a', .int .i64 b'])).run Tryz.prog w = .ok ([a, b] == [a', b']) w :=
  run_equalIn_iarr w .i64 k 141 3 2 Tryz.underlying141 Tryz.underlying3 (fun _ => by kernel_rfl) [a, b] [a', b'] rfl rfl
theorem two_eq (a b a' b' : Int) : ([a, b] == [a', b']) = (a == a' && b == b') := by simp
theorem eq_pairI_9999 (a b a' b' : Int) (w : World) : (Op.equalIn 9999 141 (.agg #[.int .i64 a, .int .i64 b]) (.agg #[.int .i64 a', .int .i64 b'])).run Tryz.prog w = .ok (a == a' && b == b') w := by
  rw [eq_pairI a b a' b' 9997 w, two_eq]
theorem eq_pairI_10000 (a b a' b' : Int) (w : World) : (Op.equalIn 10000 141 (.agg #[.int .i64 a, .int .i64 b]) (.agg #[.int .i64 a', .int .i64 b'])).run Tryz.prog w = .ok (a == a' && b == b') w := by
  rw [eq_pairI a b a' b' 9998 w, two_eq]
attribute [local go_sem] eq_pairI_9999 eq_pairI_10000

/-- How often, as a text. -/
def timesT (mn mx : Int) : List UInt8 :=
  if mn = 0 ∧ mx = -1 then [42] else if mn = 1 ∧ mx = -1 then [43] else if mn = 0 ∧ mx = 1 then [63]
  else [123] ++ Lib.decDigits mn.toNat ++ (if mx = mn then [] else if mx = -1 then [44] else [44] ++ Lib.decDigits mx.toNat) ++ [125]

section
variable {W0 w w' : World} {K : Nat → Prop} {b : Nat} {out : List UInt8}
set_option maxRecDepth 100000 in
set_option maxHeartbeats 4000000 in
theorem show_times1 (mn mx : Int) (c : UInt8) (h : TxW W0 K b out w) (hlen : out.length ≤ 10000000000000) (hc : (mn = 0 ∧ mx = -1 ∧ c = 42) ∨ (mn = 1 ∧ mx = -1 ∧ c = 43) ∨ (mn = 0 ∧ mx = 1 ∧ c = 63)) :
    Calls Tryz.prog 59 #[.pointer (some ⟨b, 0, none⟩), .int .i64 mn, .int .i64 mx] w (TxA W0 K b (out ++ [c]) w (.tuple #[])) := by
  have HT := Lib.hid h
  clear h
  rcases hc with ⟨rfl, rfl, rfl⟩ | ⟨rfl, rfl, rfl⟩ | ⟨rfl, rfl, rfl⟩
  · go_enter Tryz.func59, Tryz.ntmps59
    go_wp2_with fail
    refine (tx_byte 42 42 (by decide) rfl HT.out (by omega)).mono ?_
    rintro e w4 ⟨rfl, h4, f4⟩
    have H4 := Lib.hid h4; have F4 := Lib.hid f4; clear h4 f4
    go_wp2
    exact bodyPost_ret (results_none rfl _ _ _) rfl ⟨rfl, H4.out, F4.out⟩
  · go_enter Tryz.func59, Tryz.ntmps59
    go_wp2_with fail
    refine (tx_byte 43 43 (by decide) rfl HT.out (by omega)).mono ?_
    rintro e w4 ⟨rfl, h4, f4⟩
    have H4 := Lib.hid h4; have F4 := Lib.hid f4; clear h4 f4
    go_wp2
    exact bodyPost_ret (results_none rfl _ _ _) rfl ⟨rfl, H4.out, F4.out⟩
  · go_enter Tryz.func59, Tryz.ntmps59
    go_wp2_with fail
    refine (tx_byte 63 63 (by decide) rfl HT.out (by omega)).mono ?_
    rintro e w4 ⟨rfl, h4, f4⟩
    have H4 := Lib.hid h4; have F4 := Lib.hid f4; clear h4 f4
    go_wp2
    exact bodyPost_ret (results_none rfl _ _ _) rfl ⟨rfl, H4.out, F4.out⟩
theorem dec_len : ∀ n : Nat, n ≤ 100000 → (Lib.decDigits n).length ≤ 6 := by
  intro n hn
  have h : ∀ k m, m < 10 ^ (k + 1) → (Lib.decDigits m).length ≤ k + 1 := by
    intro k
    induction k with
    | zero => intro m hm; rw [Lib.decDigits, dif_pos (by omega)]; simp
    | succ k ih =>
      intro m hm
      rw [Lib.decDigits]
      split
      · simp
      · rw [List.length_append]; have := ih (m / 10) (by rw [Nat.pow_succ] at hm; omega); simp; omega
  exact h 5 n (by omega)
set_option maxRecDepth 100000 in
set_option maxHeartbeats 8000000 in
theorem show_times2 (m : Nat) (mx : Int) (h : TxW W0 K b out w) (hlen : out.length ≤ 10000000000000) (hP : P10 W0) (hm : m ≤ 255) (hx : mx = -1 ∨ ((m : Int) ≤ mx ∧ mx ≤ 255))
    (h1 : ¬ ((m : Int) = 0 ∧ mx = -1)) (h2 : ¬ ((m : Int) = 1 ∧ mx = -1)) (h3 : ¬ ((m : Int) = 0 ∧ mx = 1)) :
    Calls Tryz.prog 59 #[.pointer (some ⟨b, 0, none⟩), .int .i64 (m : Int), .int .i64 mx] w (TxA W0 K b (out ++ timesT m mx) w (.tuple #[])) := by
  have t1 : (((m : Int) == 0) && (mx == -1)) = false := by rw [Bool.and_eq_false_iff]; simp; omega
  have t2 : (((m : Int) == 1) && (mx == -1)) = false := by rw [Bool.and_eq_false_iff]; simp; omega
  have t3 : (((m : Int) == 0) && (mx == 1)) = false := by rw [Bool.and_eq_false_iff]; simp; omega
  have hsp : timesT m mx = [123] ++ Lib.decDigits m ++ (if mx = m then [] else if mx = -1 then [44] else [44] ++ Lib.decDigits mx.toNat) ++ [125] := by
    unfold timesT; rw [if_neg h1, if_neg h2, if_neg h3]; rfl
  have hdl := dec_len m (by omega)
  have HI := Lib.hid (fun w' (f : Fr nob W0 w') => itoa_any m w' (by omega) (hP.on f))
  have hdx : mx ≠ -1 → (Lib.decDigits mx.toNat).length ≤ 6 := fun _ => dec_len mx.toNat (by omega)
  have HIX := Lib.hid (show mx ≠ -1 → ∀ w' (f : Fr nob W0 w'), Calls Tryz.prog 61 #[.int .i64 mx] w' fun e w'' => e = .returned (.string ⟨(Lib.decDigits mx.toNat).toArray⟩) ∧ Fr nob w' w'' from fun hne w' f => by
    have := itoa_any mx.toNat w' (by omega) (hP.on f)
    rwa [show ((mx.toNat : Nat) : Int) = mx by omega] at this)
  have HT := Lib.hid h; have HSP := Lib.hid hsp; have HX := Lib.hid hx; have HDX := Lib.hid hdx
  obtain ⟨D, hD⟩ : ∃ D, Lib.decDigits m = D := ⟨_, rfl⟩
  rw [hD] at HI HSP hdl
  obtain ⟨X, hX⟩ : ∃ X, [123] ++ D = X := ⟨_, rfl⟩
  have hXl : X.length ≤ 7 := by rw [← hX]; simp; omega
  have ar : ∀ w', (Op.stringOp .add ⟨#[123]⟩ ⟨D.toArray⟩).run Tryz.prog w' = .ok (.string ⟨X.toArray⟩) w' := fun w' => by rw [← hX]; exact run_string_add_lists w' [123] D (by decide) (by omega)
  rw [hX] at HSP
  clear hX
  clear h hsp hx h1 h2 h3 hP hD hdx
  go_enter Tryz.func59, Tryz.ntmps59
  go_wp2_with fail
  refine region_fr 6 (by kernel_rfl) (by kernel_rfl) ?_
  simp only [List.take_succ_cons, List.take_zero, List.drop_succ_cons, List.drop_zero]
  repeat (quiet_step ((with_reducible exact calls_fr (HI.out _ (Fr.trans' HT.out.fr (grown_fr _ _ _))))))
  refine wpQuiet_nil ?_
  intro w1 f1
  have H1 := Lib.hid (HT.out.quiet f1); have F1 := Lib.hid (Fr.toTx (W0 := W0) (K := K) f1); clear f1
  go_wp2_with fail
  refine (tx_str X H1.out (by omega)).mono ?_
  rintro e w2 ⟨rfl, h2, f2⟩
  have H2 := Lib.hid h2; have F2 := Lib.hid (F1.out.trans f2 (fun i _ x => x)); clear h2 f2
  have last : ∀ (o : List UInt8) (w3 : World), TxW W0 K b o w3 → o.length ≤ 20000000000000 → Calls Tryz.prog 51 #[.pointer (some ⟨b, 0, none⟩), .int .u8 125] w3 (TxA W0 K b (o ++ [125]) w3 .nilIface) := fun o w3 h ho => tx_byte 125 125 (by decide) rfl h (by omega)
  have LAST := Lib.hid last
  clear last
  by_cases hxm : mx = m
  · have q1 : (mx != (m : Int)) = false := by simp [hxm]
    have q2 : ¬ (m : Int) < mx := by omega
    rw [if_pos hxm] at HSP
    clear hxm
    go_wp2_with fail
    refine (LAST.out _ w2 H2.out (by simp; omega)).mono ?_
    rintro e w3 ⟨rfl, h3, f3⟩
    have H3 := Lib.hid h3; have F3 := Lib.hid (F2.out.trans f3 (fun i _ x => x)); clear h3 f3
    go_wp2
    go_end0
    exact ⟨rfl, by rw [HSP.out]; simpa [List.append_assoc] using H3.out, F3.out⟩
  · have q1 : (mx != (m : Int)) = true := by simp [hxm]
    rw [if_neg hxm] at HSP
    go_wp2_with fail
    refine (tx_byte 44 44 (by decide) rfl H2.out (by simp; omega)).mono ?_
    rintro e w3 ⟨rfl, h3, f3⟩
    have H3 := Lib.hid h3; have F3 := Lib.hid (F2.out.trans f3 (fun i _ x => x)); clear h3 f3
    by_cases hx1 : mx = -1
    · have q2 : ¬ (m : Int) < mx := by omega
      rw [if_pos hx1] at HSP
      clear hxm hx1
      go_wp2_with fail
      refine (LAST.out _ w3 H3.out (by simp; omega)).mono ?_
      rintro e w4 ⟨rfl, h4, f4⟩
      have H4 := Lib.hid h4; have F4 := Lib.hid (F3.out.trans f4 (fun i _ x => x)); clear h4 f4
      go_wp2
      go_end0
      exact ⟨rfl, by rw [HSP.out]; simpa [List.append_assoc] using H4.out, F4.out⟩
    · have q2 : (m : Int) < mx := by have := HX.out; omega
      rw [if_neg hx1] at HSP
      have hY := HDX.out hx1
      have hIY := HIX.out hx1
      obtain ⟨Y, hYY⟩ : ∃ Y, Lib.decDigits mx.toNat = Y := ⟨_, rfl⟩
      rw [hYY] at HSP hY hIY
      have HIY := Lib.hid hIY
      clear hxm hx1 hYY HIX HDX hIY
      go_wp2_with fail
      refine region_fr 5 (by kernel_rfl) (by kernel_rfl) ?_
      simp only [List.take_succ_cons, List.take_zero, List.drop_succ_cons, List.drop_zero]
      repeat (quiet_step ((with_reducible exact calls_fr (HIY.out _ (Fr.trans' H3.out.fr (grown_fr _ _ _))))))
      refine wpQuiet_nil ?_
      intro w4 f4
      have H4 := Lib.hid (H3.out.quiet f4); have F4 := Lib.hid (F3.out.trans (Fr.toTx (W0 := W0) (K := K) f4) (fun i _ x => x)); clear f4
      go_wp2_with fail
      refine (tx_str Y H4.out (by simp; omega)).mono ?_
      rintro e w5 ⟨rfl, h5, f5⟩
      have H5 := Lib.hid h5; have F5 := Lib.hid (F4.out.trans f5 (fun i _ x => x)); clear h5 f5
      go_wp2_with fail
      refine (LAST.out _ w5 H5.out (by simp; omega)).mono ?_
      rintro e w6 ⟨rfl, h6, f6⟩
      have H6 := Lib.hid h6; have F6 := Lib.hid (F5.out.trans f6 (fun i _ x => x)); clear h6 f6
      go_wp2
      go_end0
      exact ⟨rfl, by rw [HSP.out]; simpa [List.append_assoc] using H6.out, F6.out⟩
theorem show_times (mn mx : Int) (h : TxW W0 K b out w) (hlen : out.length ≤ 10000000000000) (hP : P10 W0) (hr : repOk true mn mx = true) :
    Calls Tryz.prog 59 #[.pointer (some ⟨b, 0, none⟩), .int .i64 mn, .int .i64 mx] w (TxA W0 K b (out ++ timesT mn mx) w (.tuple #[])) := by
  unfold repOk at hr
  simp only [Bool.true_and, Bool.and_eq_true, Bool.or_eq_true, decide_eq_true_eq, beq_iff_eq] at hr
  by_cases h1 : mn = 0 ∧ mx = -1
  · have := show_times1 mn mx 42 h hlen (.inl ⟨h1.1, h1.2, rfl⟩)
    unfold timesT; rw [if_pos h1]; exact this
  · by_cases h2 : mn = 1 ∧ mx = -1
    · have := show_times1 mn mx 43 h hlen (.inr (.inl ⟨h2.1, h2.2, rfl⟩))
      unfold timesT; rw [if_neg h1, if_pos h2]; exact this
    · by_cases h3 : mn = 0 ∧ mx = 1
      · have := show_times1 mn mx 63 h hlen (.inr (.inr ⟨h3.1, h3.2, rfl⟩))
        unfold timesT; rw [if_neg h1, if_neg h2, if_pos h3]; exact this
      · obtain ⟨m, rfl⟩ : ∃ m : Nat, (m : Int) = mn := ⟨mn.toNat, by omega⟩
        exact show_times2 m mx h hlen hP (by omega) (by omega) h1 h2 h3
end
end Go.Proofs.YtlchaocpejfikaaGreatDoor

/-
  The document's answer for package show: Digits.
-/
namespace Go.Proofs.YtlchaocpejfikaaGreatDoor
open Go.RowKit

theorem slice_digit (d : Nat) (hd : d < 10) (w : World) : (Instr.slice 9 (.string ⟨#[48, 49, 50, 51, 52, 53, 54, 55, 56, 57]⟩) (some (.int .i64 (d : Int))) (some (.int .i64 ((d : Int) + 1))) none).run Tryz.prog w = .ok (.string ⟨#[UInt8.ofNat (48 + d)]⟩) w := by
  rcases (show d = 0 ∨ d = 1 ∨ d = 2 ∨ d = 3 ∨ d = 4 ∨ d = 5 ∨ d = 6 ∨ d = 7 ∨ d = 8 ∨ d = 9 by omega) with rfl | rfl | rfl | rfl | rfl | rfl | rfl | rfl | rfl | rfl
  all_goals kernel_rfl
set_option maxRecDepth 100000 in
set_option maxHeartbeats 1000000 in
theorem ref_digits (n : Nat) (w : World) (hn : n ≤ 100000) :
    Calls Tryz.prog 64 #[.int .i64 (n : Int)] w fun e w' => e = .returned (.string ⟨(Lib.decDigits n).toArray⟩) ∧ Fr nob w w' := by
  obtain ⟨D, hD⟩ : ∃ D, Lib.decDigits n = D := ⟨_, rfl⟩
  have hDl : D.length ≤ 6 := hD ▸ dec_len n hn
  rw [hD]
  go_enter Tryz.func64, Tryz.ntmps64
  go_wp2_with fail
  go_loopw [0, 3] (fun v0 v3 wr => ∃ (m : Nat) (r : List UInt8), v0 = .int .i64 (m : Int) ∧ v3 = .string ⟨r.toArray⟩ ∧ Lib.decDigits m ++ r = D ∧ m ≤ 100000 ∧ Fr nob w wr) (fun v0 _ _ => (intOf v0).toNat)
  case atStart => exact ⟨n, [], rfl, rfl, by rw [hD]; simp, hn, Fr.refl _ _⟩
  case round =>
    obtain ⟨m, r, rfl, rfl, hm, hmb, fr⟩ := hrel
    have hrl : r.length ≤ 6 := by have := congrArg List.length hm; simp at this; omega
    have HM := Lib.hid hm; have FR := Lib.hid fr; clear hm fr
    by_cases h10 : 10 ≤ m
    · have q1 : (10 : Int) ≤ (m : Int) := by omega
      have hs := fun w => slice_digit (m % 10) (by omega) w
      rw [show ((m % 10 : Nat) : Int) = (m : Int) % 10 by omega] at hs
      have hdd : Lib.decDigits m = Lib.decDigits (m / 10) ++ [UInt8.ofNat (48 + m % 10)] := by rw [Lib.decDigits, dif_neg (by omega)]
      obtain ⟨c, hc⟩ : ∃ c, UInt8.ofNat (48 + m % 10) = c := ⟨_, rfl⟩
      rw [hc] at hs hdd
      have hnx : Lib.decDigits (m / 10) ++ (c :: r) = D := by rw [← HM.out, hdd]; simp [List.append_assoc]
      have ar : ∀ w', (Op.stringOp .add ⟨#[c]⟩ ⟨r.toArray⟩).run Tryz.prog w' = .ok (.string ⟨(c :: r).toArray⟩) w' := fun w' => run_string_add_lists w' [c] r (by simp) (by omega)
      have hdv : (m : Int) / 10 = ((m / 10 : Nat) : Int) := by omega
      have HNX := Lib.hid hnx; have HDV := Lib.hid hdv
      clear hc hdd hnx hdv
      go_wp2
      go_roundw
      case rel => exact ⟨m / 10, c :: r, by rw [← HDV.out], rfl, HNX.out, by omega, FR.out⟩
      case measure => simp [intOf]; omega
    · have q1 : ¬ (10 : Int) ≤ (m : Int) := by omega
      have hs := fun w => slice_digit m (by omega) w
      have hdd : Lib.decDigits m = [UInt8.ofNat (48 + m)] := by rw [Lib.decDigits, dif_pos (by omega)]
      obtain ⟨c, hc⟩ : ∃ c, UInt8.ofNat (48 + m) = c := ⟨_, rfl⟩
      rw [hc] at hs hdd
      have ar : ∀ w', (Op.stringOp .add ⟨#[c]⟩ ⟨r.toArray⟩).run Tryz.prog w' = .ok (.string ⟨D.toArray⟩) w' := fun w' => by rw [← HM.out, hdd]; exact run_string_add_lists w' [c] r (by simp) (by omega)
      clear hc hdd
      go_wp2
      go_ret
      exact ⟨rfl, FR.out⟩
end Go.Proofs.YtlchaocpejfikaaGreatDoor

/-
  The document's answer for package show: times.
-/
namespace Go.Proofs.YtlchaocpejfikaaGreatDoor
open Go.RowKit

set_option maxRecDepth 100000 in
set_option maxHeartbeats 2000000 in
theorem ref_times1 (mn mx : Int) (c : UInt8) (w : World) (hc : (mn = 0 ∧ mx = -1 ∧ c = 42) ∨ (mn = 1 ∧ mx = -1 ∧ c = 43) ∨ (mn = 0 ∧ mx = 1 ∧ c = 63)) :
    Calls Tryz.prog 63 #[.int .i64 mn, .int .i64 mx] w fun e w' => e = .returned (.string ⟨[c].toArray⟩) ∧ Fr nob w w' := by
  rcases hc with ⟨rfl, rfl, rfl⟩ | ⟨rfl, rfl, rfl⟩ | ⟨rfl, rfl, rfl⟩
  all_goals
    go_enter Tryz.func63, Tryz.ntmps63
    go_wp2
    go_ret
    exact ⟨rfl, Fr.refl _ _⟩
set_option maxRecDepth 100000 in
set_option maxHeartbeats 4000000 in
theorem ref_times_eq (m : Nat) (mx : Int) (w : World) (hm : m ≤ 255) (hx : mx = -1 ∨ ((m : Int) ≤ mx ∧ mx ≤ 255))
    (h1 : ¬ ((m : Int) = 0 ∧ mx = -1)) (h2 : ¬ ((m : Int) = 1 ∧ mx = -1)) (h3 : ¬ ((m : Int) = 0 ∧ mx = 1)) (hxm : mx = m) :
    Calls Tryz.prog 63 #[.int .i64 (m : Int), .int .i64 mx] w fun e w' => e = .returned (.string ⟨(timesT m mx).toArray⟩) ∧ Fr nob w w' := by
  have hsp : timesT m mx = [123] ++ Lib.decDigits m ++ [125] := by
    unfold timesT; rw [if_neg h1, if_neg h2, if_neg h3, if_pos hxm]; simp
  have hdl := dec_len m (by omega)
  have HD := Lib.hid (fun w' => ref_digits m w' (by omega))
  obtain ⟨D, hD⟩ : ∃ D, Lib.decDigits m = D := ⟨_, rfl⟩
  rw [hD] at HD hdl hsp
  obtain ⟨X, hX⟩ : ∃ X, [123] ++ D = X := ⟨_, rfl⟩
  have hXl : X.length ≤ 7 := by rw [← hX]; simp; omega
  have ar1 : ∀ w', (Op.stringOp .add ⟨#[123]⟩ ⟨D.toArray⟩).run Tryz.prog w' = .ok (.string ⟨X.toArray⟩) w' := fun w' => by rw [← hX]; exact run_string_add_lists w' [123] D (by decide) (by omega)
  have ar2 : ∀ w', (Op.stringOp .add ⟨X.toArray⟩ ⟨#[125]⟩).run Tryz.prog w' = .ok (.string ⟨(timesT m mx).toArray⟩) w' := fun w' => by rw [hsp, hX]; exact run_string_add_lists w' X [125] (by omega) (by decide)
  obtain ⟨T, hT⟩ : ∃ T, timesT m mx = T := ⟨_, rfl⟩
  rw [hT] at ar2 ⊢
  have t1 : ((m : Int) == 0 && mx == -1) = false := by rw [Bool.and_eq_false_iff]; simp; omega
  have t2 : ((m : Int) == 1 && mx == -1) = false := by rw [Bool.and_eq_false_iff]; simp; omega
  have t3 : ((m : Int) == 0 && mx == 1) = false := by rw [Bool.and_eq_false_iff]; simp; omega
  have t4 : ((m : Int) == mx) = true := by simp [hxm]
  have e0 : ((m : Int) == 0) = decide (m = 0) := by rw [Bool.eq_iff_iff]; simp
  have e1 : (mx == -1) = false := by simp; omega
  have e2 : ((m : Int) == 0 && mx == 1) = false := t3
  clear hD hX hsp hT hx h1 h2 h3 hxm t1 t2 t3
  cases h0 : decide (m = 0) with
  | true =>
    rw [h0] at e0
    have e3 : (mx == 1) = false := by rw [e0] at e2; simpa using e2
    have e4 : ((m : Int) == 1) = false := by have : m = 0 := by simpa using h0
                                             subst this; rfl
    clear h0 e2
    go_enter Tryz.func63, Tryz.ntmps63
    go_wp2_with fail
    refine (HD.out _).mono ?_
    rintro e w2 ⟨rfl, f2⟩
    have F2 := Lib.hid f2; clear f2
    go_wp2
    go_ret
    exact ⟨rfl, F2.out⟩
  | false =>
    rw [h0] at e0
    clear h0 e2
    cases e4 : ((m : Int) == 1) with
    | true =>
      go_enter Tryz.func63, Tryz.ntmps63
      go_wp2_with fail
      refine (HD.out _).mono ?_
      rintro e w2 ⟨rfl, f2⟩
      have F2 := Lib.hid f2; clear f2
      go_wp2
      go_ret
      exact ⟨rfl, F2.out⟩
    | false =>
      go_enter Tryz.func63, Tryz.ntmps63
      go_wp2_with fail
      refine (HD.out _).mono ?_
      rintro e w2 ⟨rfl, f2⟩
      have F2 := Lib.hid f2; clear f2
      go_wp2
      go_ret
      exact ⟨rfl, F2.out⟩
set_option maxRecDepth 100000 in
set_option maxHeartbeats 4000000 in
theorem ref_times_inf (m : Nat) (w : World) (hm : m ≤ 255) (h2m : 2 ≤ m) :
    Calls Tryz.prog 63 #[.int .i64 (m : Int), .int .i64 (-1)] w fun e w' => e = .returned (.string ⟨(timesT m (-1)).toArray⟩) ∧ Fr nob w w' := by
  have hsp : timesT m (-1) = [123] ++ Lib.decDigits m ++ [44, 125] := by
    unfold timesT; rw [if_neg (by omega), if_neg (by omega), if_neg (by omega), if_neg (by omega), if_pos rfl]; simp
  have hdl := dec_len m (by omega)
  have HD := Lib.hid (fun w' => ref_digits m w' (by omega))
  obtain ⟨D, hD⟩ : ∃ D, Lib.decDigits m = D := ⟨_, rfl⟩
  rw [hD] at HD hdl hsp
  obtain ⟨X, hX⟩ : ∃ X, [123] ++ D = X := ⟨_, rfl⟩
  have hXl : X.length ≤ 7 := by rw [← hX]; simp; omega
  have ar1 : ∀ w', (Op.stringOp .add ⟨#[123]⟩ ⟨D.toArray⟩).run Tryz.prog w' = .ok (.string ⟨X.toArray⟩) w' := fun w' => by rw [← hX]; exact run_string_add_lists w' [123] D (by decide) (by omega)
  have ar2 : ∀ w', (Op.stringOp .add ⟨X.toArray⟩ ⟨#[44, 125]⟩).run Tryz.prog w' = .ok (.string ⟨(timesT m (-1)).toArray⟩) w' := fun w' => by rw [hsp, hX]; exact run_string_add_lists w' X [44, 125] (by omega) (by decide)
  obtain ⟨T, hT⟩ : ∃ T, timesT m (-1) = T := ⟨_, rfl⟩
  rw [hT] at ar2 ⊢
  have e0 : ((m : Int) == 0) = false := by simp; omega
  have e1 : ((m : Int) == 1) = false := by simp; omega
  have e2 : ((m : Int) == -1) = false := by simp
  clear hD hX hsp hT hm h2m
  go_enter Tryz.func63, Tryz.ntmps63
  go_wp2_with fail
  refine (HD.out _).mono ?_
  rintro e w2 ⟨rfl, f2⟩
  have F2 := Lib.hid f2; clear f2
  go_wp2
  go_ret
  exact ⟨rfl, F2.out⟩
set_option maxRecDepth 100000 in
set_option maxHeartbeats 4000000 in
theorem ref_times_two (m x : Nat) (w : World) (hmx : m < x) (hx : x ≤ 255) (h3 : ¬ (m = 0 ∧ x = 1)) :
    Calls Tryz.prog 63 #[.int .i64 (m : Int), .int .i64 (x : Int)] w fun e w' => e = .returned (.string ⟨(timesT m x).toArray⟩) ∧ Fr nob w w' := by
  have hsp : timesT m x = [123] ++ Lib.decDigits m ++ [44] ++ Lib.decDigits x ++ [125] := by
    unfold timesT; rw [if_neg (by omega), if_neg (by omega), if_neg (by omega), if_neg (by omega), if_neg (by omega)]; simp
  have hdl := dec_len m (by omega)
  have hel := dec_len x (by omega)
  have HD := Lib.hid (fun w' => ref_digits m w' (by omega))
  have HX := Lib.hid (fun w' => ref_digits x w' (by omega))
  obtain ⟨D, hD⟩ : ∃ D, Lib.decDigits m = D := ⟨_, rfl⟩
  obtain ⟨E, hE⟩ : ∃ E, Lib.decDigits x = E := ⟨_, rfl⟩
  rw [hD] at HD hdl hsp
  rw [hE] at HX hel hsp
  obtain ⟨X, hX⟩ : ∃ X, [123] ++ D = X := ⟨_, rfl⟩
  obtain ⟨Y, hY⟩ : ∃ Y, X ++ [44] = Y := ⟨_, rfl⟩
  obtain ⟨Z, hZ⟩ : ∃ Z, Y ++ E = Z := ⟨_, rfl⟩
  have hXl : X.length ≤ 7 := by rw [← hX]; simp; omega
  have hYl : Y.length ≤ 8 := by rw [← hY]; simp; omega
  have hZl : Z.length ≤ 14 := by rw [← hZ]; simp; omega
  have ar1 : ∀ w', (Op.stringOp .add ⟨#[123]⟩ ⟨D.toArray⟩).run Tryz.prog w' = .ok (.string ⟨X.toArray⟩) w' := fun w' => by rw [← hX]; exact run_string_add_lists w' [123] D (by decide) (by omega)
  have ar2 : ∀ w', (Op.stringOp .add ⟨X.toArray⟩ ⟨#[44]⟩).run Tryz.prog w' = .ok (.string ⟨Y.toArray⟩) w' := fun w' => by rw [← hY]; exact run_string_add_lists w' X [44] (by omega) (by decide)
  have ar3 : ∀ w', (Op.stringOp .add ⟨Y.toArray⟩ ⟨E.toArray⟩).run Tryz.prog w' = .ok (.string ⟨Z.toArray⟩) w' := fun w' => by rw [← hZ]; exact run_string_add_lists w' Y E (by omega) (by omega)
  have ar4 : ∀ w', (Op.stringOp .add ⟨Z.toArray⟩ ⟨#[125]⟩).run Tryz.prog w' = .ok (.string ⟨(timesT m x).toArray⟩) w' := fun w' => by rw [hsp, hX, hY, hZ]; exact run_string_add_lists w' Z [125] (by omega) (by decide)
  obtain ⟨T, hT⟩ : ∃ T, timesT m x = T := ⟨_, rfl⟩
  rw [hT] at ar4 ⊢
  have e1 : ((x : Int) == -1) = false := by simp
  have e2 : ((m : Int) == (x : Int)) = false := by simp; omega
  cases h0 : decide (m = 0) with
  | true =>
    have e0 : ((m : Int) == 0) = true := by simp at h0; simp; omega
    have e3 : ((x : Int) == 1) = false := by simp at h0; simp; omega
    have e4 : ((m : Int) == 1) = false := by simp at h0; simp; omega
    clear h0 hD hE hX hY hZ hsp hT hmx hx h3
    go_enter Tryz.func63, Tryz.ntmps63
    go_wp2_with fail
    refine (HD.out _).mono ?_
    rintro e w2 ⟨rfl, f2⟩
    have F2 := Lib.hid f2; clear f2
    go_wp2_with fail
    refine (HX.out _).mono ?_
    rintro e w3 ⟨rfl, f3⟩
    have F3 := Lib.hid (F2.out.trans' f3); clear f3
    go_wp2
    go_ret
    exact ⟨rfl, F3.out⟩
  | false =>
    have e0 : ((m : Int) == 0) = false := by simp at h0; simp; omega
    cases e4 : ((m : Int) == 1) with
    | true =>
      clear h0 hD hE hX hY hZ hsp hT hmx hx h3
      go_enter Tryz.func63, Tryz.ntmps63
      go_wp2_with fail
      refine (HD.out _).mono ?_
      rintro e w2 ⟨rfl, f2⟩
      have F2 := Lib.hid f2; clear f2
      go_wp2_with fail
      refine (HX.out _).mono ?_
      rintro e w3 ⟨rfl, f3⟩
      have F3 := Lib.hid (F2.out.trans' f3); clear f3
      go_wp2
      go_ret
      exact ⟨rfl, F3.out⟩
    | false =>
      clear h0 hD hE hX hY hZ hsp hT hmx hx h3
      go_enter Tryz.func63, Tryz.ntmps63
      go_wp2_with fail
      refine (HD.out _).mono ?_
      rintro e w2 ⟨rfl, f2⟩
      have F2 := Lib.hid f2; clear f2
      go_wp2_with fail
      refine (HX.out _).mono ?_
      rintro e w3 ⟨rfl, f3⟩
      have F3 := Lib.hid (F2.out.trans' f3); clear f3
      go_wp2
      go_ret
      exact ⟨rfl, F3.out⟩
theorem ref_times (mn mx : Int) (w : World) (hr : repOk true mn mx = true) :
    Calls Tryz.prog 63 #[.int .i64 mn, .int .i64 mx] w fun e w' => e = .returned (.string ⟨(timesT mn mx).toArray⟩) ∧ Fr nob w w' := by
  unfold repOk at hr
  simp only [Bool.true_and, Bool.and_eq_true, Bool.or_eq_true, decide_eq_true_eq, beq_iff_eq] at hr
  obtain ⟨hr1, hr2, hr3⟩ := hr
  obtain ⟨m, rfl⟩ : ∃ m : Nat, mn = m := ⟨mn.toNat, by omega⟩
  by_cases h1 : (m : Int) = 0 ∧ mx = -1
  · have := ref_times1 m mx 42 w (.inl ⟨h1.1, h1.2, rfl⟩)
    rwa [show timesT m mx = [42] by unfold timesT; rw [if_pos h1]]
  by_cases h2 : (m : Int) = 1 ∧ mx = -1
  · have := ref_times1 m mx 43 w (.inr (.inl ⟨h2.1, h2.2, rfl⟩))
    rwa [show timesT m mx = [43] by unfold timesT; rw [if_neg h1, if_pos h2]]
  by_cases h3 : (m : Int) = 0 ∧ mx = 1
  · have := ref_times1 m mx 63 w (.inr (.inr ⟨h3.1, h3.2, rfl⟩))
    rwa [show timesT m mx = [63] by unfold timesT; rw [if_neg h1, if_neg h2, if_pos h3]]
  by_cases h4 : mx = m
  · exact ref_times_eq m mx w (by omega) (by omega) h1 h2 h3 h4
  rcases hr3 with rfl | hr3
  · exact ref_times_inf m w (by omega) (by omega)
  · obtain ⟨x, rfl⟩ : ∃ x : Nat, mx = x := ⟨mx.toNat, by omega⟩
    exact ref_times_two m x w (by omega) (by omega) (by omega)
end Go.Proofs.YtlchaocpejfikaaGreatDoor
