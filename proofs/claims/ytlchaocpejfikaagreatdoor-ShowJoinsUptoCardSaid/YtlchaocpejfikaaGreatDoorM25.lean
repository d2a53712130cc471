/-
  Merged texts of this claim: BreD, BreE, BreF, BreG, BreH, BreI.
-/
import Derived.Test.YtlchaocpejfikaaGreatDoorM10
import Derived.Test.YtlchaocpejfikaaGreatDoorM24

/-
  Walks of package bre: interval, repeated.
-/
namespace Go.Proofs.YtlchaocpejfikaaGreatDoor
open Go.RowKit

theorem itvB_zero {l : List UInt8} {k m : Nat} (h : num3 (l.drop k) 0 0 = (m, 0)) : itvB l k = none := by
  unfold itvB; rw [h]; rfl
theorem itvB_one {l : List UInt8} {k m c : Nat} (h : num3 (l.drop k) 0 0 = (m, c)) (hc : c ≠ 0) (ha : ahd l (k + c) [44] = false) :
    itvB l k = if ahd l (k + c) [92, 125] = false ∨ 255 < m then none else some ((m : Int), (m : Int), k + c + 2) := by
  unfold itvB; rw [h]
  simp only [hc, if_false, ha, Bool.false_eq_true]
  by_cases h1 : ahd l (k + c) [92, 125] = false ∨ 255 < m
  · rw [if_pos h1, if_pos (by rcases h1 with h1 | h1; exact .inl h1; exact .inr (.inl h1))]
  · rw [if_neg h1, if_neg (by intro h2; rcases h2 with h2 | h2 | h2 | h2; exact h1 (.inl h2); exact h1 (.inr h2); exact h1 (.inr (by omega)); omega)]
theorem itvB_open {l : List UInt8} {k m c x : Nat} (h : num3 (l.drop k) 0 0 = (m, c)) (hc : c ≠ 0) (ha : ahd l (k + c) [44] = true) (h2 : num3 (l.drop (k + c + 1)) 0 0 = (x, 0)) :
    itvB l k = if ahd l (k + c + 1) [92, 125] = false ∨ 255 < m then none else some ((m : Int), -1, k + c + 1 + 2) := by
  unfold itvB; rw [h]
  simp only [hc, if_false, ha, if_true, h2, Nat.add_zero]
  by_cases h1 : ahd l (k + c + 1) [92, 125] = false ∨ 255 < m
  · rw [if_pos h1, if_pos (by rcases h1 with h1 | h1; exact .inl h1; exact .inr (.inl h1))]
  · rw [if_neg h1, if_neg (by intro h2; rcases h2 with h2 | h2 | h2 | h2; exact h1 (.inl h2); exact h1 (.inr h2); omega; omega)]
theorem itvB_two {l : List UInt8} {k m c x d : Nat} (h : num3 (l.drop k) 0 0 = (m, c)) (hc : c ≠ 0) (ha : ahd l (k + c) [44] = true) (h2 : num3 (l.drop (k + c + 1)) 0 0 = (x, d)) (hd : d ≠ 0) :
    itvB l k = if ahd l (k + c + 1 + d) [92, 125] = false ∨ 255 < m ∨ 255 < x ∨ x < m then none else some ((m : Int), (x : Int), k + c + 1 + d + 2) := by
  unfold itvB; rw [h]
  simp only [hc, if_false, ha, if_true, h2, hd]
  by_cases h1 : ahd l (k + c + 1 + d) [92, 125] = false ∨ 255 < m ∨ 255 < x ∨ x < m
  · rw [if_pos h1, if_pos (by rcases h1 with h1 | h1 | h1 | h1; exact .inl h1; exact .inr (.inl h1); exact .inr (.inr (.inl (by omega))); exact .inr (.inr (.inr ⟨by omega, by omega⟩)))]
  · rw [if_neg h1, if_neg (by intro h2; rcases h2 with h2 | h2 | h2 | h2; exact h1 (.inl h2); exact h1 (.inr (.inl h2)); exact h1 (.inr (.inr (.inl (by omega)))); exact h1 (.inr (.inr (.inr (by omega)))))]

theorem ahd_le {l t : List UInt8} {k : Nat} (h : ahd l k t = true) (ht : 1 ≤ t.length) : k + t.length ≤ l.length := by
  unfold ahd at h
  rw [List.isPrefixOf_iff_prefix] at h
  have := h.length_le
  rw [List.length_drop] at this
  omega
theorem num3_bd (l : List UInt8) (k : Nat) (h : k ≤ l.length) : (num3 (l.drop k) 0 0).2 ≤ 3 ∧ (num3 (l.drop k) 0 0).1 < 1000 ∧ k + (num3 (l.drop k) 0 0).2 ≤ l.length := by
  obtain ⟨h1, h2, _, h4⟩ := num3_le (l.drop k) 0 0 (by omega) (by decide)
  rw [List.length_drop] at h4
  refine ⟨h1, Nat.lt_of_lt_of_le h2 (by have := p10_le h1; unfold p10 at this; exact this), by omega⟩

/-- What interval leaves. -/
def ItvAns (b : Nat) (l : List UInt8) (s : RxS) (S : Nat → Prop) (w : World) (p : Nat) : Option (Int × Int × Nat) → Ending → World → Prop
  | none, x, w' => x = .panicked (thrown 7 p) ∧ Stp S w S w'
  | some (m, n, k), x, w' => x = .returned (.tuple #[.int .i64 m, .int .i64 n]) ∧ Rdg b l (s.to k) S w' ∧ Stp S w S w'

set_option maxRecDepth 100000 in
set_option maxHeartbeats 1500000 in
theorem br_interval (b : Nat) (l : List UInt8) (s : RxS) (S : Nat → Prop) (w : World) (p : Nat) (hl : l.length ≤ 100000) (ha : s.at_ ≤ l.length) (h : Rdg b l s S w) :
    Calls Tryz.prog 116 #[.pointer (some ⟨b, 0, none⟩), .int .i64 (p : Nat)] w fun x w' => ItvAns b l s S w p (itvB l s.at_) x w' := by
  obtain ⟨hb1, hb2, hb3⟩ := num3_bd l s.at_ ha
  have hN := br_number b l s S w hl ha h
  clear h
  obtain ⟨m, c, hM⟩ : ∃ m c, num3 (l.drop s.at_) 0 0 = (m, c) := ⟨_, _, rfl⟩
  rw [hM] at hN hb1 hb2 hb3
  simp only at hN hb1 hb2 hb3
  obtain ⟨I, hI⟩ : ∃ I, itvB l s.at_ = I := ⟨_, rfl⟩
  rw [hI]
  have HM := Lib.hid hM; have HI := Lib.hid hI; clear hM hI
  go_enter Tryz.func116, Tryz.ntmps116
  go_wp2_with fail
  refine hN.mono ?_
  rintro e w1 ⟨rfl, r1, t1⟩
  have R1 := Lib.hid r1; have T1 := Lib.hid t1; clear r1 t1 hN
  by_cases hc : c = 0
  · subst hc
    have hI := HI.out
    rw [itvB_zero HM.out] at hI
    subst hI
    go_wp2_with (go_at_call 93; refine (br_fail 7 p _).mono ?_; rintro e w' ⟨rfl, rfl⟩)
    exact ⟨rfl, rfl, T1.out⟩
  · have hc0 : decide (0 < c) = true := by simp; omega
    have hT := br_take b l [44] (s.go c) S w1 hl (by decide) (by show s.at_ + c ≤ _; omega) R1.out
    rw [show (s.go c).at_ = s.at_ + c from rfl] at hT
    have HC := Lib.hid hc
    have hmm : ¬ (m : Int) < m := by omega
    have hm0 : (0 : Int) ≤ m := by omega
    clear hc
    cases hA : ahd l (s.at_ + c) [44] with
    | false =>
      have hI := HI.out
      rw [itvB_one HM.out HC.out hA] at hI
      rw [hA] at hT
      simp only [Bool.false_eq_true, if_false] at hT
      have HT2 := Lib.hid hT; clear hT hA
      go_wp2_with (go_at_call 91; (with_reducible refine (HT2.out).mono ?_); rintro e w2 ⟨rfl, r2, t2⟩; have R2 := Lib.hid r2; have T2 := Lib.hid t2; clear r2 t2)
      have hT3 := br_take b l [92, 125] (s.go c) S w2 hl (by decide) (by show s.at_ + c ≤ _; omega) R2.out
      rw [show (s.go c).at_ = s.at_ + c from rfl] at hT3
      cases hE : ahd l (s.at_ + c) [92, 125] with
      | false =>
        rw [if_pos (.inl hE)] at hI
        subst hI
        rw [hE] at hT3
        have HT3 := Lib.hid hT3; clear hT3 hE
        go_wp2_with (first | (go_at_call 91; (with_reducible refine (HT3.out).mono ?_); rintro e w3 ⟨rfl, r3, t3⟩; have R3 := Lib.hid r3; have T3 := Lib.hid t3; clear r3 t3) | (go_at_call 93; refine (br_fail 7 p _).mono ?_; rintro e w' ⟨rfl, rfl⟩))
        exact ⟨rfl, rfl, (T1.out.trans T2.out).trans T3.out⟩
      | true =>
        have hE' := Lib.hid hE
        rw [hE] at hT3
        simp only [if_true] at hT3
        have HT3 := Lib.hid hT3; clear hT3 hE
        by_cases h255 : 255 < m
        · rw [if_pos (.inr h255)] at hI
          subst hI
          go_wp2_with (first | (go_at_call 91; (with_reducible refine (HT3.out).mono ?_); rintro e w3 ⟨rfl, r3, t3⟩; have R3 := Lib.hid r3; have T3 := Lib.hid t3; clear r3 t3) | (go_at_call 93; refine (br_fail 7 p _).mono ?_; rintro e w' ⟨rfl, rfl⟩))
          exact ⟨rfl, rfl, (T1.out.trans T2.out).trans T3.out⟩
        · rw [if_neg (by rintro (h | h); rw [hE'.out] at h; cases h; exact h255 h)] at hI
          subst hI
          go_wp2_with (go_at_call 91; (with_reducible refine (HT3.out).mono ?_); rintro e w3 ⟨rfl, r3, t3⟩; have R3 := Lib.hid r3; have T3 := Lib.hid t3; clear r3 t3)
          go_ret2
          exact ⟨rfl, R3.out, (T1.out.trans T2.out).trans T3.out⟩
    | true =>
      have hle1 := ahd_le hA (by decide)
      simp only [List.length_singleton] at hle1
      rw [hA] at hT
      simp only [if_true] at hT
      have HA := Lib.hid hA
      have HT2 := Lib.hid hT; clear hT hA
      obtain ⟨k1, k2, k3⟩ := num3_bd l (s.at_ + c + 1) hle1
      obtain ⟨x, d, hX⟩ : ∃ x d, num3 (l.drop (s.at_ + c + 1)) 0 0 = (x, d) := ⟨_, _, rfl⟩
      rw [hX] at k1 k2 k3
      simp only at k1 k2 k3
      have HX := Lib.hid hX; clear hX
      have hx0 : (0 : Int) ≤ x := by omega
      go_wp2_with (go_at_call 91; (with_reducible refine (HT2.out).mono ?_); rintro e w2 ⟨rfl, r2, t2⟩; have R2 := Lib.hid r2; have T2 := Lib.hid t2; clear r2 t2)
      have hN3 := br_number b l ((s.go c).go 1) S w2 hl (by show s.at_ + c + 1 ≤ _; omega) R2.out
      rw [show ((s.go c).go 1).at_ = s.at_ + c + 1 from rfl, HX.out] at hN3
      have HT3 := Lib.hid hN3; clear hN3
      by_cases hd : d = 0
      · subst hd
        have hI := HI.out
        go_wp2_with (go_at_call 133; (with_reducible refine (HT3.out).mono ?_); rintro e w3 ⟨rfl, r3, t3⟩; have R3 := Lib.hid r3; have T3 := Lib.hid t3; clear r3 t3)
        rw [itvB_open HM.out HC.out HA.out HX.out] at hI
        have hT4 := br_take b l [92, 125] (((s.go c).go 1).go 0) S w3 hl (by decide) (by show s.at_ + c + 1 + 0 ≤ _; omega) R3.out
        rw [show (((s.go c).go 1).go 0).at_ = s.at_ + c + 1 from rfl] at hT4
        cases hE : ahd l (s.at_ + c + 1) [92, 125] with
        | false =>
          rw [if_pos (.inl hE)] at hI
          subst hI
          rw [hE] at hT4
          have HT4 := Lib.hid hT4; clear hT4 hE
          go_wp2_with (first | (go_at_call 91; (with_reducible refine (HT4.out).mono ?_); rintro e w4 ⟨rfl, r4, t4⟩; have R4 := Lib.hid r4; have T4 := Lib.hid t4; clear r4 t4) | (go_at_call 93; refine (br_fail 7 p _).mono ?_; rintro e w' ⟨rfl, rfl⟩))
          exact ⟨rfl, rfl, ((T1.out.trans T2.out).trans T3.out).trans T4.out⟩
        | true =>
          have hE' := Lib.hid hE
          rw [hE] at hT4
          simp only [if_true] at hT4
          have HT4 := Lib.hid hT4; clear hT4 hE
          by_cases h255 : 255 < m
          · rw [if_pos (.inr h255)] at hI
            subst hI
            go_wp2_with (first | (go_at_call 91; (with_reducible refine (HT4.out).mono ?_); rintro e w4 ⟨rfl, r4, t4⟩; have R4 := Lib.hid r4; have T4 := Lib.hid t4; clear r4 t4) | (go_at_call 93; refine (br_fail 7 p _).mono ?_; rintro e w' ⟨rfl, rfl⟩))
            exact ⟨rfl, rfl, ((T1.out.trans T2.out).trans T3.out).trans T4.out⟩
          · rw [if_neg (by rintro (h | h); rw [hE'.out] at h; cases h; exact h255 h)] at hI
            subst hI
            go_wp2_with (go_at_call 91; (with_reducible refine (HT4.out).mono ?_); rintro e w4 ⟨rfl, r4, t4⟩; have R4 := Lib.hid r4; have T4 := Lib.hid t4; clear r4 t4)
            go_ret2
            exact ⟨rfl, R4.out, ((T1.out.trans T2.out).trans T3.out).trans T4.out⟩
      · have hI := HI.out
        rw [itvB_two HM.out HC.out HA.out HX.out hd] at hI
        have hd0 : decide (0 < d) = true := by simp; omega
        go_wp2_with (go_at_call 133; (with_reducible refine (HT3.out).mono ?_); rintro e w3 ⟨rfl, r3, t3⟩; have R3 := Lib.hid r3; have T3 := Lib.hid t3; clear r3 t3)
        have hT4 := br_take b l [92, 125] (((s.go c).go 1).go d) S w3 hl (by decide) (by show s.at_ + c + 1 + d ≤ _; omega) R3.out
        rw [show (((s.go c).go 1).go d).at_ = s.at_ + c + 1 + d from rfl] at hT4
        clear hd
        cases hE : ahd l (s.at_ + c + 1 + d) [92, 125] with
        | false =>
          rw [if_pos (.inl hE)] at hI
          subst hI
          rw [hE] at hT4
          have HT4 := Lib.hid hT4; clear hT4 hE
          go_wp2_with (first | (go_at_call 91; (with_reducible refine (HT4.out).mono ?_); rintro e w4 ⟨rfl, r4, t4⟩; have R4 := Lib.hid r4; have T4 := Lib.hid t4; clear r4 t4) | (go_at_call 93; refine (br_fail 7 p _).mono ?_; rintro e w' ⟨rfl, rfl⟩))
          exact ⟨rfl, rfl, ((T1.out.trans T2.out).trans T3.out).trans T4.out⟩
        | true =>
          have hE' := Lib.hid hE
          rw [hE] at hT4
          simp only [if_true] at hT4
          have HT4 := Lib.hid hT4; clear hT4 hE
          by_cases h255 : 255 < m
          · rw [if_pos (.inr (.inl h255))] at hI
            subst hI
            go_wp2_with (first | (go_at_call 91; (with_reducible refine (HT4.out).mono ?_); rintro e w4 ⟨rfl, r4, t4⟩; have R4 := Lib.hid r4; have T4 := Lib.hid t4; clear r4 t4) | (go_at_call 93; refine (br_fail 7 p _).mono ?_; rintro e w' ⟨rfl, rfl⟩))
            exact ⟨rfl, rfl, ((T1.out.trans T2.out).trans T3.out).trans T4.out⟩
          · by_cases hx255 : 255 < x
            · rw [if_pos (.inr (.inr (.inl hx255)))] at hI
              subst hI
              go_wp2_with (first | (go_at_call 91; (with_reducible refine (HT4.out).mono ?_); rintro e w4 ⟨rfl, r4, t4⟩; have R4 := Lib.hid r4; have T4 := Lib.hid t4; clear r4 t4) | (go_at_call 93; refine (br_fail 7 p _).mono ?_; rintro e w' ⟨rfl, rfl⟩))
              exact ⟨rfl, rfl, ((T1.out.trans T2.out).trans T3.out).trans T4.out⟩
            · by_cases hxm : x < m
              · rw [if_pos (.inr (.inr (.inr hxm)))] at hI
                subst hI
                have hxm' : (x : Int) < m := by omega
                go_wp2_with (first | (go_at_call 91; (with_reducible refine (HT4.out).mono ?_); rintro e w4 ⟨rfl, r4, t4⟩; have R4 := Lib.hid r4; have T4 := Lib.hid t4; clear r4 t4) | (go_at_call 93; refine (br_fail 7 p _).mono ?_; rintro e w' ⟨rfl, rfl⟩))
                exact ⟨rfl, rfl, ((T1.out.trans T2.out).trans T3.out).trans T4.out⟩
              · rw [if_neg (by rintro (h | h | h | h); rw [hE'.out] at h; cases h; exact h255 h; exact hx255 h; exact hxm h)] at hI
                subst hI
                have hxm' : ¬ (x : Int) < m := by omega
                go_wp2_with (go_at_call 91; (with_reducible refine (HT4.out).mono ?_); rintro e w4 ⟨rfl, r4, t4⟩; have R4 := Lib.hid r4; have T4 := Lib.hid t4; clear r4 t4)
                go_ret2
                exact ⟨rfl, R4.out, ((T1.out.trans T2.out).trans T3.out).trans T4.out⟩
end Go.Proofs.YtlchaocpejfikaaGreatDoor

/-
  Walk of package bre: repeated.
-/
namespace Go.Proofs.YtlchaocpejfikaaGreatDoor
open Go.RowKit

/-- The program's trees. -/
def prg : Alg Nd := ⟨.one, .rep, .group, .back, .start, .fin, joined, chosen⟩

/-- What a reading function leaves: it throws, or it hands back a node. -/
def OutAns4 (b : Nat) (l : List UInt8) (S O : Nat → Prop) (w : World) : Out Nd → Ending → World → Prop
  | .inl (e, p), x, w' => x = .panicked (thrown e p) ∧ ∃ S', Stp S w S' w'
  | .inr (t, s'), x, w' => ∃ i y S', x = .returned (.iface i y) ∧ RN (SO S' O) w' t (.iface i y) ∧ Rdg b l s' S' w' ∧ Stp S w S' w'

section
variable {α : Type} {A : Alg α} {l : List UInt8} {n : Nat} {s : RxS} {t : α}
theorem repS_plus (h : ahd l s.at_ [92, 43] = true) : repS A l (n + 1) s t = repS A l n ((s.mark [92, 43]).go 2) (A.rep t 1 (-1)) := by rw [repS, if_pos h]
theorem repS_maybe (h : ahd l s.at_ [92, 43] = false) (h2 : ahd l s.at_ [92, 63] = true) : repS A l (n + 1) s t = repS A l n ((s.mark [92, 63]).go 2) (A.rep t 0 1) := by
  rw [repS, if_neg (by rw [h]; decide), if_pos h2]
theorem repS_bad (h : ahd l s.at_ [92, 43] = false) (h2 : ahd l s.at_ [92, 63] = false) (h3 : ahd l s.at_ [92, 123] = true) (h4 : itvB l (s.at_ + 2) = none) : repS A l (n + 1) s t = .inl (7, s.at_) := by
  rw [repS, if_neg (by rw [h]; decide), if_neg (by rw [h2]; decide), if_pos h3, h4]
theorem repS_bound (h : ahd l s.at_ [92, 43] = false) (h2 : ahd l s.at_ [92, 63] = false) (h3 : ahd l s.at_ [92, 123] = true) {m x : Int} {k : Nat} (h4 : itvB l (s.at_ + 2) = some (m, x, k)) :
    repS A l (n + 1) s t = repS A l n (s.to k) (A.rep t m x) := by
  rw [repS, if_neg (by rw [h]; decide), if_neg (by rw [h2]; decide), if_pos h3, h4]
theorem repS_star (h : ahd l s.at_ [92, 43] = false) (h2 : ahd l s.at_ [92, 63] = false) (h3 : ahd l s.at_ [92, 123] = false) (h4 : ahd l s.at_ [42] = true) : repS A l (n + 1) s t = repS A l n (s.go 1) (A.rep t 0 (-1)) := by
  rw [repS, if_neg (by rw [h]; decide), if_neg (by rw [h2]; decide), if_neg (by rw [h3]; decide), if_pos h4]
theorem repS_end (h : ahd l s.at_ [92, 43] = false) (h2 : ahd l s.at_ [92, 63] = false) (h3 : ahd l s.at_ [92, 123] = false) (h4 : ahd l s.at_ [42] = false) : repS A l (n + 1) s t = .inr (t, s) := by
  rw [repS, if_neg (by rw [h]; decide), if_neg (by rw [h2]; decide), if_neg (by rw [h3]; decide), if_neg (by rw [h4]; decide)]
end

theorem itvB_le {l : List UInt8} {k : Nat} {m x : Int} {j : Nat} (hk : k ≤ l.length) (h : itvB l k = some (m, x, j)) : k + 3 ≤ j ∧ j ≤ l.length ∧ 0 ≤ m ∧ m ≤ 255 ∧ -1 ≤ x ∧ x ≤ 255 := by
  obtain ⟨b1, b2, b3⟩ := num3_bd l k hk
  obtain ⟨p, c, hM⟩ : ∃ p c, num3 (l.drop k) 0 0 = (p, c) := ⟨_, _, rfl⟩
  rw [hM] at b1 b2 b3
  simp only at b1 b2 b3
  by_cases hc : c = 0
  · subst hc; rw [itvB_zero hM] at h; cases h
  · cases ha : ahd l (k + c) [44] with
    | false =>
      rw [itvB_one hM hc ha] at h
      split at h
      · cases h
      · next hn =>
        have he : ahd l (k + c) [92, 125] = true := by cases hq : ahd l (k + c) [92, 125]; exact absurd (.inl hq) hn; rfl
        have := ahd_le he (by decide)
        simp only [List.length_cons, List.length_nil] at this
        simp only [Option.some.injEq, Prod.mk.injEq] at h
        obtain ⟨rfl, rfl, rfl⟩ := h
        have : ¬ 255 < p := fun x => hn (.inr x)
        omega
    | true =>
      have hle1 := ahd_le ha (by decide)
      simp only [List.length_singleton] at hle1
      obtain ⟨e1, e2, e3⟩ := num3_bd l (k + c + 1) hle1
      obtain ⟨y, d, hX⟩ : ∃ y d, num3 (l.drop (k + c + 1)) 0 0 = (y, d) := ⟨_, _, rfl⟩
      rw [hX] at e1 e2 e3
      simp only at e1 e2 e3
      by_cases hd : d = 0
      · subst hd
        rw [itvB_open hM hc ha hX] at h
        split at h
        · cases h
        · next hn =>
          have he : ahd l (k + c + 1) [92, 125] = true := by cases hq : ahd l (k + c + 1) [92, 125]; exact absurd (.inl hq) hn; rfl
          have := ahd_le he (by decide)
          simp only [List.length_cons, List.length_nil] at this
          simp only [Option.some.injEq, Prod.mk.injEq] at h
          obtain ⟨rfl, rfl, rfl⟩ := h
          have : ¬ 255 < p := fun x => hn (.inr x)
          omega
      · rw [itvB_two hM hc ha hX hd] at h
        split at h
        · cases h
        · next hn =>
          have he : ahd l (k + c + 1 + d) [92, 125] = true := by cases hq : ahd l (k + c + 1 + d) [92, 125]; exact absurd (.inl hq) hn; rfl
          have := ahd_le he (by decide)
          simp only [List.length_cons, List.length_nil] at this
          simp only [Option.some.injEq, Prod.mk.injEq] at h
          obtain ⟨rfl, rfl, rfl⟩ := h
          have : ¬ 255 < p := fun x => hn (.inr (.inl x))
          have : ¬ 255 < y := fun x => hn (.inr (.inr (.inl x)))
          omega

theorem RN.rep {S : Nat → Prop} {w : World} {t : Nd} {v : Value} (h : RN S w t v) (m x : Int) : RN S w (.rep t m x) (.iface 76 (.agg #[v, .int .i64 m, .int .i64 x])) := by
  rw [RN.eq_def]; exact ⟨v, rfl, h⟩

/-- The loop's relation. -/
def RepRel (b : Nat) (l : List UInt8) (S O : Nat → Prop) (w : World) (F : Out Nd) (n : Nat) (v : Value) (wr : World) : Prop :=
  ∃ i y s t S', v = .iface i y ∧ RN (SO S' O) wr t v ∧ Rdg b l s S' wr ∧ Stp S w S' wr ∧ l.length < n + s.at_ ∧ s.at_ ≤ l.length ∧ s.marks.length ≤ s.at_ ∧ repS prg l n s t = F

set_option maxRecDepth 100000 in
set_option maxHeartbeats 2000000 in
theorem br_repeated (b : Nat) (l : List UInt8) (s : RxS) (t : Nd) (i : TypeId) (y : Value) (S O : Nat → Prop) (w : World) (hl : l.length ≤ 100000) (ha : s.at_ ≤ l.length) (hm : s.marks.length ≤ s.at_) (hv : RN (SO S O) w t (.iface i y)) (h : Rdg b l s S w) :
    Calls Tryz.prog 95 #[.pointer (some ⟨b, 0, none⟩), .iface i y] w fun x w' => OutAns4 b l S O w (repS prg l (l.length + 1) s t) x w' := by
  obtain ⟨F, hF⟩ : ∃ F, repS prg l (l.length + 1) s t = F := ⟨_, rfl⟩
  rw [hF]
  have HF := Lib.hid hF; have HV := Lib.hid hv; have HH := Lib.hid h; clear hF hv h
  go_enter Tryz.func95, Tryz.ntmps95
  go_wp2_with fail
  go_loopg [1] (l.length + 1) (fun n u wr => RepRel b l S O w F n u wr)
  case atStart => exact ⟨i, y, s, t, S, rfl, HV.out, HH.out, Stp.refl _ _, by omega, ha, hm, HF.out⟩
  case round =>
    clear HF HV HH ha hm
    clear s t
    obtain ⟨i, y, s, t, S1, rfl, hv, hr, hst, hn, ha, hm, hF⟩ := hrel
    obtain ⟨m, rfl⟩ : ∃ m, gk = m + 1 := ⟨gk - 1, by omega⟩
    have h1 := br_ahead b l [92, 43] s S1 wr (by omega) (by decide) ha hr
    obtain ⟨cv, mv, hB⟩ := hr
    obtain ⟨⟨c0, c1, c2, c3, c4⟩, d0, d1, d2, d3, d4⟩ := rule5 hB.blk _ (Fr.refl _ _)
    have HV := Lib.hid hv; have HB := Lib.hid hB; have HST := Lib.hid hst; have HF := Lib.hid hF
    have HA := Lib.hid (fun (tt : List UInt8) (w' : World) (f : Fr nob wr w') (ht : tt.length ≤ 1000) => br_ahead b l tt s S1 w' (by omega) (by omega) ha ⟨cv, mv, hB.on f⟩)
    have HT := Lib.hid (fun (tt : List UInt8) (w' : World) (f : Fr nob wr w') (ht : tt.length ≤ 1000) => br_take b l tt s S1 w' hl ht ha ⟨cv, mv, hB.on f⟩)
    clear hv hB hst hF h1
    cases e1 : ahd l s.at_ [92, 43] with
    | true =>
      have hle := ahd_le e1 (by decide)
      simp only [List.length_cons, List.length_nil] at hle
      have hF := HF.out
      rw [repS_plus e1] at hF
      have H1 := Lib.hid (HA.out [92, 43] wr (Fr.refl _ _) (by decide))
      rw [e1] at H1
      have HF2 := Lib.hid hF
      clear hF e1 HF
      go_wp2_with fail
      refine (H1.out).mono ?_
      rintro e w1 ⟨rfl, f1⟩
      have F1 := Lib.hid f1; clear f1
      go_wp2_with fail
      refine (br_mark b l [92, 43] s S1 w1 (by omega) ⟨cv, mv, HB.out.on F1.out⟩).mono ?_
      rintro e w5 ⟨rfl, S5, ⟨cv5, mv5, hB5⟩, st5⟩
      obtain ⟨⟨_, k1, _⟩, _, k2, _⟩ := rule5 hB5.blk _ (Fr.refl _ _)
      rw [show (s.mark [92, 43]).at_ = s.at_ from rfl] at k1
      have HB5 := Lib.hid hB5; have ST5 := Lib.hid ((Stp.of F1.out).trans st5); clear hB5 st5
      go_wp2
      go_roundg m
      case measure => omega
      case rel =>
        have hs5 := HB5.out.stp 1 (.int .i64 ((s.at_ : Int) + 2))
        refine ⟨_, _, (s.mark [92, 43]).go 2, .rep t 1 (-1), S5, rfl, ((ST5.out.trans hs5).rn HV.out).rep _ _, ⟨cv5, mv5, HB5.out.turned 1 _ _ (by simp [RxS.go, RxS.mark]) rfl rfl⟩, (HST.out.trans ST5.out).trans hs5, ?_, ?_, ?_, HF2.out⟩
        · show l.length < m + (s.at_ + 2); omega
        · show s.at_ + 2 ≤ _; omega
        · show (s.marks ++ [_]).length ≤ s.at_ + 2; simp; omega
    | false =>
      have H1 := Lib.hid (HA.out [92, 43] wr (Fr.refl _ _) (by decide))
      rw [e1] at H1
      go_wp2_with fail
      refine (H1.out).mono ?_
      rintro e w1 ⟨rfl, f1⟩
      have F1 := Lib.hid f1; clear f1
      cases e2 : ahd l s.at_ [92, 63] with
      | true =>
        have hle := ahd_le e2 (by decide)
        simp only [List.length_cons, List.length_nil] at hle
        have hF := HF.out
        rw [repS_maybe e1 e2] at hF
        have H2 := Lib.hid (HA.out [92, 63] w1 F1.out (by decide))
        rw [e2] at H2
        have HF2 := Lib.hid hF
        clear hF e1 e2 HF
        go_wp2_with fail
        refine (H2.out).mono ?_
        rintro e w2 ⟨rfl, f2⟩
        have F2 := Lib.hid (F1.out.trans' f2); clear f2
        go_wp2_with fail
        refine (br_mark b l [92, 63] s S1 w2 (by omega) ⟨cv, mv, HB.out.on F2.out⟩).mono ?_
        rintro e w5 ⟨rfl, S5, ⟨cv5, mv5, hB5⟩, st5⟩
        obtain ⟨⟨_, k1, _⟩, _, k2, _⟩ := rule5 hB5.blk _ (Fr.refl _ _)
        rw [show (s.mark [92, 63]).at_ = s.at_ from rfl] at k1
        have HB5 := Lib.hid hB5; have ST5 := Lib.hid ((Stp.of F2.out).trans st5); clear hB5 st5
        go_wp2
        go_roundg m
        case measure => omega
        case rel =>
          have hs5 := HB5.out.stp 1 (.int .i64 ((s.at_ : Int) + 2))
          refine ⟨_, _, (s.mark [92, 63]).go 2, .rep t 0 1, S5, rfl, ((ST5.out.trans hs5).rn HV.out).rep _ _, ⟨cv5, mv5, HB5.out.turned 1 _ _ (by simp [RxS.go, RxS.mark]) rfl rfl⟩, (HST.out.trans ST5.out).trans hs5, ?_, ?_, ?_, HF2.out⟩
          · show l.length < m + (s.at_ + 2); omega
          · show s.at_ + 2 ≤ _; omega
          · show (s.marks ++ [_]).length ≤ s.at_ + 2; simp; omega
      | false =>
        have H2 := Lib.hid (HA.out [92, 63] w1 F1.out (by decide))
        rw [e2] at H2
        go_wp2_with fail
        refine (H2.out).mono ?_
        rintro e w2 ⟨rfl, f2⟩
        have F2 := Lib.hid (F1.out.trans' f2); clear f2
        cases e3 : ahd l s.at_ [92, 123] with
        | true =>
          have hle := ahd_le e3 (by decide)
          simp only [List.length_cons, List.length_nil] at hle
          have H3 := Lib.hid (HT.out [92, 123] w2 F2.out (by decide))
          rw [e3] at H3
          go_wp2_with fail
          refine (H3.out).mono ?_
          rintro e w3 ⟨rfl, r3, t3⟩
          have hI := br_interval b l (s.go 2) S1 w3 s.at_ hl (by show s.at_ + 2 ≤ _; omega) r3
          rw [show (s.go 2).at_ = s.at_ + 2 from rfl] at hI
          have T3 := Lib.hid ((Stp.of F2.out).trans t3); clear r3 t3
          cases e4 : itvB l (s.at_ + 2) with
          | none =>
            have hF := HF.out
            rw [repS_bad e1 e2 e3 e4] at hF
            rw [e4] at hI
            have HI := Lib.hid hI
            subst hF
            clear e1 e2 e3 e4 HF hI
            go_wp2_with fail
            refine (HI.out).mono ?_
            rintro e w4 ⟨rfl, t4⟩
            exact ⟨rfl, rfl, S1, (HST.out.trans T3.out).trans t4⟩
          | some q =>
            obtain ⟨mn, mx, k⟩ := q
            have hF := HF.out
            rw [repS_bound e1 e2 e3 e4] at hF
            rw [e4] at hI
            obtain ⟨g1, g2, g3, g4, g5, g6⟩ := itvB_le (by omega) e4
            have HI := Lib.hid hI; have HF2 := Lib.hid hF
            clear e1 e2 e3 e4 HF hI hF
            go_wp2_with fail
            refine (HI.out).mono ?_
            rintro e w4 ⟨rfl, r4, t4⟩
            have R4 := Lib.hid r4; have T4 := Lib.hid (T3.out.trans t4); clear r4 t4
            go_wp2
            go_roundg m
            case measure => omega
            case rel =>
              refine ⟨_, _, s.to k, .rep t mn mx, S1, rfl, (T4.out.rn HV.out).rep _ _, R4.out, HST.out.trans T4.out, ?_, ?_, ?_, HF2.out⟩
              · show l.length < m + k; omega
              · show k ≤ _; omega
              · show s.marks.length ≤ k; omega
        | false =>
          have H3 := Lib.hid (HT.out [92, 123] w2 F2.out (by decide))
          rw [e3] at H3
          go_wp2_with fail
          refine (H3.out).mono ?_
          rintro e w3 ⟨rfl, r3, t3⟩
          simp only [Bool.false_eq_true, if_false] at r3
          have h4 := br_take b l [42] s S1 w3 hl (by decide) ha r3
          have T3 := Lib.hid ((Stp.of F2.out).trans t3); clear r3 t3
          cases e4 : ahd l s.at_ [42] with
          | true =>
            have hle := ahd_le e4 (by decide)
            simp only [List.length_singleton] at hle
            have hF := HF.out
            rw [repS_star e1 e2 e3 e4] at hF
            rw [e4] at h4
            have H4 := Lib.hid h4; have HF2 := Lib.hid hF
            clear e1 e2 e3 e4 HF h4 hF
            go_wp2_with fail
            refine (H4.out).mono ?_
            rintro e w4 ⟨rfl, r4, t4⟩
            have R4 := Lib.hid r4; have T4 := Lib.hid (T3.out.trans t4); clear r4 t4
            go_wp2
            go_roundg m
            case measure => omega
            case rel =>
              refine ⟨_, _, s.go 1, .rep t 0 (-1), S1, rfl, (T4.out.rn HV.out).rep _ _, R4.out, HST.out.trans T4.out, ?_, ?_, ?_, HF2.out⟩
              · show l.length < m + (s.at_ + 1); omega
              · show s.at_ + 1 ≤ _; omega
              · show s.marks.length ≤ s.at_ + 1; omega
          | false =>
            have hF := HF.out
            rw [repS_end e1 e2 e3 e4] at hF
            rw [e4] at h4
            have H4 := Lib.hid h4
            subst hF
            clear e1 e2 e3 e4 HF h4
            go_wp2_with fail
            refine (H4.out).mono ?_
            rintro e w4 ⟨rfl, r4, t4⟩
            simp only [Bool.false_eq_true, if_false] at r4
            have R4 := Lib.hid r4; have T4 := Lib.hid (T3.out.trans t4); clear r4 t4
            go_wp2
            go_ret
            exact ⟨_, _, S1, rfl, T4.out.rn HV.out, R4.out, HST.out.trans T4.out⟩
end Go.Proofs.YtlchaocpejfikaaGreatDoor

/-
  Walks of package bre: space, word, escaped.
-/
namespace Go.Proofs.YtlchaocpejfikaaGreatDoor
open Go.RowKit

set_option maxRecDepth 100000 in
set_option maxHeartbeats 1000000 in
theorem br_space (w : World) : Calls Tryz.prog 159 #[] w fun e w' => e = .returned (setV spaceS) ∧ Fr nob w w' := by
  have hc := fun w => class_lit ⟨#[115, 112, 97, 99, 101]⟩ _ rfl w
  obtain ⟨s, hs⟩ : ∃ s, clsSet (clsOf ⟨#[115, 112, 97, 99, 101]⟩) = s := ⟨_, rfl⟩
  unfold spaceS
  rw [hs] at hc ⊢
  have HC := Lib.hid hc; clear hc hs
  go_enter Tryz.func159, Tryz.ntmps159
  go_wp2_with fail
  refine (HC.out _).mono ?_
  rintro e w1 ⟨rfl, f1⟩
  have hb0 := f1.heap (newAt0 w _) (fun x => x)
  have rr := rule4 hb0
  have HB := Lib.hid hb0; have F1 := Lib.hid f1; clear f1 hb0
  go_wp2
  have hzc := heap_alloc_lt (w := w1) (.cells #[.int .u64 s.a, .int .u64 s.b, .int .u64 s.c, .int .u64 s.d] 27) HB.out
  exact bodyPost_ret (results_set (s := s) rfl rfl (setFour_heap hzc _ _ _ _)) rfl ⟨rfl, setFour_fr ((((Fr.refl nob w).alloc _).trans' F1.out).alloc _) (Nat.le_refl _) _ _ _ _⟩

theorem q4_on {w w' : World} {b : Nat} {s : S4} (h : Q4 w b s) (f : Fr nob w w') : Q4 w' b s := ⟨f.cell h.1 (fun x => x), f.cell h.2.1 (fun x => x), f.cell h.2.2.1 (fun x => x), f.cell h.2.2.2 (fun x => x)⟩
theorem q4_four {w w' : World} {b c : Nat} {s : S4} (h : Q4 w b s) (f : Fr nob w w') (hne : b ≠ c) (v0 v1 v2 v3 : Value) : Q4 (setFour w' c v0 v1 v2 v3) b s := by
  have h' := q4_on h f
  have g := setFour_one w' c v0 v1 v2 v3
  exact ⟨g.cell h'.1 hne, g.cell h'.2.1 hne, g.cell h'.2.2.1 hne, g.cell h'.2.2.2 hne⟩
theorem of_95 (w : World) (T : TypeId) : Calls Tryz.prog 23 #[.slice (some ⟨w.heap.size, 0, none⟩) 1 1] (w.alloc (.cells #[.int .u8 95] T)) fun e w' => e = .returned (setV (spn 95 95)) ∧ Fr nob (w.alloc (.cells #[.int .u8 95] T)) w' := of_one 95 w T

set_option maxRecDepth 100000 in
set_option maxHeartbeats 1000000 in
theorem br_word (w : World) : Calls Tryz.prog 158 #[] w fun e w' => e = .returned (setV wordS) ∧ Fr nob w w' := by
  have hc := fun w => class_lit ⟨#[97, 108, 110, 117, 109]⟩ _ rfl w
  obtain ⟨s, hs⟩ : ∃ s, clsSet (clsOf ⟨#[97, 108, 110, 117, 109]⟩) = s := ⟨_, rfl⟩
  unfold wordS
  rw [hs] at hc ⊢
  obtain ⟨u, hu⟩ : ∃ u, spn 95 95 = u := ⟨_, rfl⟩
  have ho := of_95
  rw [hu] at ho ⊢
  have HO := Lib.hid ho
  have HC := Lib.hid hc; clear hc hs hu ho
  obtain ⟨x, hx⟩ : ∃ x, s.or u = x := ⟨_, rfl⟩
  have hor := fun w => or_lit s u w
  rw [hx] at hor ⊢
  have HOR := Lib.hid hor; clear hor hx
  go_enter Tryz.func158, Tryz.ntmps158
  go_wp2_with fail
  refine (HC.out _).mono ?_
  rintro e w1 ⟨rfl, f1⟩
  have hb0 := f1.heap (newAt0 w _) (fun x => x)
  have HB := Lib.hid hb0; have F1 := Lib.hid f1; clear f1 hb0
  go_wp2_with fail
  have hb1 := newAt0 w1 (.cells #[.int .u64 s.a, .int .u64 s.b, .int .u64 s.c, .int .u64 s.d] 27)
  have hq : Q4 (w1.alloc (.cells #[.int .u64 s.a, .int .u64 s.b, .int .u64 s.c, .int .u64 s.d] 27)) w1.heap.size s := Q4.of hb1
  obtain ⟨w2, hw2⟩ : ∃ w2, w2 = w1.alloc (.cells #[.int .u64 s.a, .int .u64 s.b, .int .u64 s.c, .int .u64 s.d] 27) := ⟨_, rfl⟩
  rw [← hw2] at hq ⊢
  have F2 := Lib.hid (show Fr nob w1 w2 by rw [hw2]; exact (Fr.refl _ _).alloc _)
  have HQ := Lib.hid hq
  clear hb1 hq hw2
  have hz := F2.out.heap HB.out (fun x => x)
  have rr := rule4 hz
  have HZ := Lib.hid hz; clear hz
  have hne : w1.heap.size ≠ w.heap.size := by have := F1.out.size; simp at this; omega
  go_region_held3 (fun w' => Q4 w' w1.heap.size s) (first | (with_reducible exact HQ.out) | (with_reducible exact q4_on HQ.out ((Fr.refl nob w2).drew)) | (with_reducible exact q4_on HQ.out (((Fr.refl nob w2).drew).alloc _)) | (with_reducible exact q4_on HQ.out ((Fr.refl nob w2).alloc _)) | (with_reducible exact q4_on HQ.out (((Fr.refl nob w2).alloc _).drew)) | (with_reducible exact q4_on HQ.out G2) | (with_reducible exact q4_on HQ.out G1) | (exact q4_four HQ.out G2 hne _ _ _ _)) (first | (go_at_call 23; refine (HO.out (World.drew w2) _).mono ?_; rintro e g1 ⟨rfl, f1⟩; have G1 : Fr nob w2 g1 := (by first | exact ((((Fr.refl nob w2).drew).alloc _).trans' f1) | exact (((Fr.refl nob w2).alloc _).trans' f1)); clear f1) | (go_at_call 132; (with_reducible refine (HOR.out _).mono ?_); rintro e g2 ⟨rfl, f2⟩; have G2 : Fr nob w2 g2 := G1.trans' f2; clear f2))
  all_goals
    go_wp2
    exact bodyPost_ret (results_set (s := x) rfl rfl (setFour_heap (G2.heap HZ.out (fun x => x)) _ _ _ _)) rfl ⟨rfl, setFour_fr (((((Fr.refl nob w).alloc _).trans' F1.out).trans' F2.out).trans' G2) (Nat.le_refl _) _ _ _ _⟩
end Go.Proofs.YtlchaocpejfikaaGreatDoor

/-
  Walk of package bre: escaped.
-/
namespace Go.Proofs.YtlchaocpejfikaaGreatDoor
open Go.RowKit

/-- What escaped hands back: the set, whether it is an extension, whether there is one. -/
def escR (b : UInt8) : S4 × Bool × Bool :=
  match escB b with
  | some (c, m) => (c, m, true)
  | none => (spn b.toNat b.toNat, false, false)
theorem escR_110 : escR 110 = (spn 10 10, false, true) := rfl
theorem escR_116 : escR 116 = (spn 9 9, true, true) := rfl
theorem escR_119 : escR 119 = (wordS, true, true) := rfl
theorem escR_87 : escR 87 = (wordS.not, true, true) := rfl
theorem escR_115 : escR 115 = (spaceS, true, true) := rfl
theorem escR_83 : escR 83 = (spaceS.not, true, true) := rfl
theorem escR_else {b : UInt8} (h1 : b ≠ 110) (h2 : b ≠ 116) (h3 : b ≠ 119) (h4 : b ≠ 87) (h5 : b ≠ 115) (h6 : b ≠ 83) : escR b = (spn b.toNat b.toNat, false, punctS.has b.toNat) := by
  unfold escR escB
  rw [if_neg h1, if_neg h2, if_neg h3, if_neg h4, if_neg h5, if_neg h6]
  cases punctS.has b.toNat <;> rfl

theorem results_set_bb {fn : Func} {p q r : Tmp} (h : fn.results = #[.cell p 27, .tmp q, .tmp r]) {tmps : Array Value} {b : Nat} (ht : tmps.getD p undef = .pointer (some ⟨b, 0, none⟩)) {u v : Value} (hq : tmps.getD q undef = u) (hr : tmps.getD r undef = v) {W : World} {s : S4}
    (hb : W.heap[b]? = some (.cells #[.int .u64 s.a, .int .u64 s.b, .int .u64 s.c, .int .u64 s.d] 27 (0, 0))) : (results fn tmps).run Tryz.prog W = .ok (.tuple #[setV s, u, v]) W := results_set3 h ht hq hr hb
theorem of_10 (w : World) (T : TypeId) : Calls Tryz.prog 23 #[.slice (some ⟨w.heap.size, 0, none⟩) 1 1] (w.alloc (.cells #[.int .u8 10] T)) fun e w' => e = .returned (setV (spn 10 10)) ∧ Fr nob (w.alloc (.cells #[.int .u8 10] T)) w' := of_one 10 w T
theorem of_9 (w : World) (T : TypeId) : Calls Tryz.prog 23 #[.slice (some ⟨w.heap.size, 0, none⟩) 1 1] (w.alloc (.cells #[.int .u8 9] T)) fun e w' => e = .returned (setV (spn 9 9)) ∧ Fr nob (w.alloc (.cells #[.int .u8 9] T)) w' := of_one 9 w T

abbrev EscPost (R : S4 × Bool × Bool) (w : World) (e : Ending) (w' : World) : Prop := e = .returned (.tuple #[setV R.1, .bool R.2.1, .bool R.2.2]) ∧ Fr nob w w'

set_option maxRecDepth 100000 in
set_option maxHeartbeats 1000000 in
theorem br_escaped (b : UInt8) (w : World) : Calls Tryz.prog 135 #[.int .u8 b.toNat] w fun e w' => EscPost (escR b) w e w' := by
  obtain ⟨w0, hw0⟩ : ∃ w0, w0 = w.alloc (.cells #[.int .u64 0, .int .u64 0, .int .u64 0, .int .u64 0] 27) := ⟨_, rfl⟩
  have hz : w0.heap[w.heap.size]? = some (.cells #[.int .u64 0, .int .u64 0, .int .u64 0, .int .u64 0] 27 (0, 0)) := by rw [hw0]; exact newAt0 w _
  have F0 := Lib.hid (show Fr nob w w0 by rw [hw0]; exact (Fr.refl _ _).alloc _)
  have hsz : w0.heap.size = w.heap.size + 1 := by rw [hw0]; simp
  have rr := rule4 hz
  have HZ := Lib.hid hz; have HW := Lib.hid hw0
  clear hz hw0
  by_cases h1 : b = 110
  · subst h1
    rw [escR_110]
    obtain ⟨s, hs⟩ : ∃ s, spn 10 10 = s := ⟨_, rfl⟩
    have ho := of_10
    rw [hs] at ho ⊢
    have ho1 := ho w0 5
    rw [hsz] at ho1
    have HO := Lib.hid ho1; clear ho ho1 hs hsz
    go_enter Tryz.func135, Tryz.ntmps135
    go_wp2_with fail
    rw [← HW.out]
    with_reducible refine (HO.out).mono ?_
    rintro e w1 ⟨rfl, f1⟩
    have f2 : Fr nob w0 w1 := ((Fr.refl _ _).alloc _).trans' f1
    clear f1
    go_wp2
    exact bodyPost_ret (results_set3 (s := s) rfl rfl rfl rfl (setFour_heap (f2.heap HZ.out (fun x => x)) _ _ _ _)) rfl ⟨rfl, setFour_fr (F0.out.trans' f2) (Nat.le_refl _) _ _ _ _⟩
  · have t1 : ((b.toNat : Int) == 110) = false := tb_ne (b := 110) h1
    by_cases h2 : b = 116
    · subst h2
      rw [escR_116]
      obtain ⟨s, hs⟩ : ∃ s, spn 9 9 = s := ⟨_, rfl⟩
      have ho := of_9
      rw [hs] at ho ⊢
      have ho1 := ho w0 5
      rw [hsz] at ho1
      have HO := Lib.hid ho1; clear ho ho1 hs hsz
      go_enter Tryz.func135, Tryz.ntmps135
      go_wp2_with fail
      rw [← HW.out]
      with_reducible refine (HO.out).mono ?_
      rintro e w1 ⟨rfl, f1⟩
      have f2 : Fr nob w0 w1 := ((Fr.refl _ _).alloc _).trans' f1
      clear f1
      go_wp2
      exact bodyPost_ret (results_set3 (s := s) rfl rfl rfl rfl (setFour_heap (f2.heap HZ.out (fun x => x)) _ _ _ _)) rfl ⟨rfl, setFour_fr (F0.out.trans' f2) (Nat.le_refl _) _ _ _ _⟩
    · have t2 : ((b.toNat : Int) == 116) = false := tb_ne (b := 116) h2
      by_cases h3 : b = 119
      · subst h3
        rw [escR_119]
        have ho := br_word w0
        obtain ⟨s, hs⟩ : ∃ s, wordS = s := ⟨_, rfl⟩
        rw [hs] at ho ⊢
        have HO := Lib.hid ho; clear ho hs hsz
        go_enter Tryz.func135, Tryz.ntmps135
        go_wp2_with fail
        rw [← HW.out]
        with_reducible refine (HO.out).mono ?_
        rintro e w1 ⟨rfl, f2⟩
        go_wp2
        exact bodyPost_ret (results_set3 (s := s) rfl rfl rfl rfl (setFour_heap (f2.heap HZ.out (fun x => x)) _ _ _ _)) rfl ⟨rfl, setFour_fr (F0.out.trans' f2) (Nat.le_refl _) _ _ _ _⟩
      · have t3 : ((b.toNat : Int) == 119) = false := tb_ne (b := 119) h3
        by_cases h4 : b = 87
        · subst h4
          rw [escR_87]
          have ho := br_word w0
          obtain ⟨s, hs⟩ : ∃ s, wordS = s := ⟨_, rfl⟩
          rw [hs] at ho ⊢
          have HO := Lib.hid ho; clear ho hs hsz
          have hno := fun w => not_lit s w
          obtain ⟨u, hu⟩ : ∃ u, s.not = u := ⟨_, rfl⟩
          rw [hu] at hno ⊢
          have HNO := Lib.hid hno; clear hno hu
          go_enter Tryz.func135, Tryz.ntmps135
          go_wp2_with fail
          rw [← HW.out]
          with_reducible refine (HO.out).mono ?_
          rintro e w1 ⟨rfl, f2⟩
          go_wp2_with fail
          with_reducible refine (HNO.out _).mono ?_
          rintro e w2 ⟨rfl, f3⟩
          have f4 : Fr nob w0 w2 := f2.trans' f3
          clear f2 f3
          go_wp2
          exact bodyPost_ret (results_set3 (s := u) rfl rfl rfl rfl (setFour_heap (f4.heap HZ.out (fun x => x)) _ _ _ _)) rfl ⟨rfl, setFour_fr (F0.out.trans' f4) (Nat.le_refl _) _ _ _ _⟩
        · have t4 : ((b.toNat : Int) == 87) = false := tb_ne (b := 87) h4
          by_cases h5 : b = 115
          · subst h5
            rw [escR_115]
            have ho := br_space w0
            obtain ⟨s, hs⟩ : ∃ s, spaceS = s := ⟨_, rfl⟩
            rw [hs] at ho ⊢
            have HO := Lib.hid ho; clear ho hs hsz
            go_enter Tryz.func135, Tryz.ntmps135
            go_wp2_with fail
            rw [← HW.out]
            with_reducible refine (HO.out).mono ?_
            rintro e w1 ⟨rfl, f2⟩
            go_wp2
            exact bodyPost_ret (results_set3 (s := s) rfl rfl rfl rfl (setFour_heap (f2.heap HZ.out (fun x => x)) _ _ _ _)) rfl ⟨rfl, setFour_fr (F0.out.trans' f2) (Nat.le_refl _) _ _ _ _⟩
          · have t5 : ((b.toNat : Int) == 115) = false := tb_ne (b := 115) h5
            by_cases h6 : b = 83
            · subst h6
              rw [escR_83]
              have ho := br_space w0
              obtain ⟨s, hs⟩ : ∃ s, spaceS = s := ⟨_, rfl⟩
              rw [hs] at ho ⊢
              have HO := Lib.hid ho; clear ho hs hsz
              have hno := fun w => not_lit s w
              obtain ⟨u, hu⟩ : ∃ u, s.not = u := ⟨_, rfl⟩
              rw [hu] at hno ⊢
              have HNO := Lib.hid hno; clear hno hu
              go_enter Tryz.func135, Tryz.ntmps135
              go_wp2_with fail
              rw [← HW.out]
              with_reducible refine (HO.out).mono ?_
              rintro e w1 ⟨rfl, f2⟩
              go_wp2_with fail
              with_reducible refine (HNO.out _).mono ?_
              rintro e w2 ⟨rfl, f3⟩
              have f4 : Fr nob w0 w2 := f2.trans' f3
              clear f2 f3
              go_wp2
              exact bodyPost_ret (results_set3 (s := u) rfl rfl rfl rfl (setFour_heap (f4.heap HZ.out (fun x => x)) _ _ _ _)) rfl ⟨rfl, setFour_fr (F0.out.trans' f4) (Nat.le_refl _) _ _ _ _⟩
            · have t6 : ((b.toNat : Int) == 83) = false := tb_ne (b := 83) h6
              rw [escR_else h1 h2 h3 h4 h5 h6]
              clear h1 h2 h3 h4 h5 h6
              have hb := b.toNat_lt
              have hfit : punctS.fit := fit_clsSet _
              have hc := fun w => class_lit ⟨#[112, 117, 110, 99, 116]⟩ _ rfl w
              rw [show clsSet (clsOf ⟨#[112, 117, 110, 99, 116]⟩) = punctS from rfl] at hc
              have hh := fun w => has_lit punctS b.toNat w hfit (by omega)
              obtain ⟨u, hu⟩ : ∃ u, spn b.toNat b.toNat = u := ⟨_, rfl⟩
              have ho := of_one b
              rw [hu] at ho ⊢
              obtain ⟨q, hq⟩ : ∃ q, punctS.has b.toNat = q := ⟨_, rfl⟩
              rw [hq] at hh ⊢
              obtain ⟨s, hs⟩ : ∃ s, punctS = s := ⟨_, rfl⟩
              rw [hs] at hc hh
              have HO := Lib.hid ho; have HC := Lib.hid hc; have HH := Lib.hid hh
              clear ho hc hh hu hq hs hfit hsz
              go_enter Tryz.func135, Tryz.ntmps135
              go_wp2_with fail
              rw [← HW.out]
              with_reducible refine (HC.out _).mono ?_
              rintro e w1 ⟨rfl, f1⟩
              have F1 := Lib.hid f1; clear f1
              go_wp2_with fail
              have hq4 : Q4 (w1.alloc (.cells #[.int .u64 s.a, .int .u64 s.b, .int .u64 s.c, .int .u64 s.d] 27)) w1.heap.size s := Q4.of (newAt0 w1 _)
              obtain ⟨w2, hw2⟩ : ∃ w2, w2 = w1.alloc (.cells #[.int .u64 s.a, .int .u64 s.b, .int .u64 s.c, .int .u64 s.d] 27) := ⟨_, rfl⟩
              rw [← hw2] at hq4 ⊢
              have F2 := Lib.hid (show Fr nob w1 w2 by rw [hw2]; exact (Fr.refl _ _).alloc _)
              have HQ := Lib.hid hq4
              clear hq4 hw2
              have hz2 := F2.out.heap (F1.out.heap HZ.out (fun x => x)) (fun x => x)
              clear rr
              have rr := rule4 hz2
              have HZ2 := Lib.hid hz2; clear hz2
              have hne : w1.heap.size ≠ w.heap.size := by have := F1.out.size; have := lt_heap HZ.out; omega
              have hoa : Calls Tryz.prog 23 #[.slice (some ⟨w2.heap.size, 0, none⟩) 1 1] (World.drew (w2.alloc (.cells #[.int .u8 b.toNat] 5))) fun e w' => e = .returned (setV u) ∧ Fr nob w2 w' := (HO.out (World.drew w2) _).mono fun e w' h => ⟨h.1, (((Fr.refl nob w2).drew).alloc _).trans' h.2⟩
              have HOA := Lib.hid hoa; clear hoa HO
              go_region_held3 (fun w' => Q4 w' w1.heap.size s) (first | (with_reducible exact HQ.out) | (with_reducible exact q4_on HQ.out ((Fr.refl nob w2).drew)) | (with_reducible exact q4_on HQ.out (((Fr.refl nob w2).drew).alloc _)) | (with_reducible exact q4_on HQ.out ((Fr.refl nob w2).alloc _)) | (with_reducible exact q4_on HQ.out (((Fr.refl nob w2).alloc _).drew)) | (with_reducible exact q4_on HQ.out G2) | (with_reducible exact q4_on HQ.out G1) | (with_reducible exact q4_four HQ.out G1 hne _ _ _ _) | (with_reducible exact q4_four HQ.out G2 hne _ _ _ _) | (trace_state; fail)) (first | (go_at_call 23; (with_reducible refine (HOA.out).mono ?_); rintro e g1 ⟨rfl, G1⟩) | (go_at_call 80; (with_reducible refine (HH.out _).mono ?_); rintro e g2 ⟨rfl, f2⟩; have G2 : Fr nob w2 g2 := G1.trans' f2; clear f2))
              all_goals
                go_wp2
                exact bodyPost_ret (results_set3 (s := u) rfl rfl rfl rfl (setFour_heap (G2.heap HZ2.out (fun x => x)) _ _ _ _)) rfl ⟨rfl, setFour_fr (((F0.out.trans' F1.out).trans' F2.out).trans' G2) (Nat.le_refl _) _ _ _ _⟩
end Go.Proofs.YtlchaocpejfikaaGreatDoor

/-
  Walk of package bre: is a group closed? (slices.Contains)
-/
namespace Go.Proofs.YtlchaocpejfikaaGreatDoor
open Go.RowKit

/-- The first place from k on at which a number stands. -/
def ixC (l : List Nat) (n k : Nat) : Int := if (l.drop k).contains n then (k + (l.drop k).idxOf n : Nat) else -1
theorem ixC_end {l : List Nat} {n k : Nat} (h : l.length ≤ k) : ixC l n k = -1 := by
  unfold ixC; rw [List.drop_eq_nil_of_le h]; rfl
theorem ixC_hit {l : List Nat} {n k : Nat} (h : k < l.length) (e : l[k] = n) : ixC l n k = k := by
  unfold ixC; rw [List.drop_eq_getElem_cons h, e]
  simp
theorem ixC_next {l : List Nat} {n k : Nat} (h : k < l.length) (e : l[k] ≠ n) : ixC l n k = ixC l n (k + 1) := by
  unfold ixC; rw [List.drop_eq_getElem_cons h]
  have e' : (l[k] == n) = false := by simpa using e
  have e2 : (n == l[k]) = false := by simpa using fun h => e h.symm
  rw [List.contains_cons, e2, Bool.false_or, List.idxOf_cons, e']
  split
  · simp; omega
  · rfl
theorem ixC_bool {l : List Nat} {n : Nat} : decide (0 ≤ ixC l n 0) = l.contains n := by
  unfold ixC
  rw [List.drop_zero]
  cases h : l.contains n <;> simp

theorem OwC.get {w : World} {l : List Nat} {v : Value} (h : OwC w l v) : ∃ a c, v = .slice a l.length c ∧ ∀ k (hk : k < l.length), ∃ g, a = some ⟨g, 0, none⟩ ∧ w.cell? ⟨g, k, none⟩ = some (.int .i64 (l[k] : Nat)) := by
  have h0 := h
  unfold OwC at h
  rcases h.2 with ⟨rfl, hn⟩ | ⟨gb, c, _, rfl, _⟩
  · exact ⟨none, 0, by rw [hn], fun k hk => by omega⟩
  · refine ⟨_, c, rfl, fun k hk => ⟨gb, rfl, ?_⟩⟩
    rw [h.cellAt k (by omega)]
    simp [List.getElem?_eq_getElem hk]

set_option maxRecDepth 100000 in
set_option maxHeartbeats 1000000 in
theorem br_index (l : List Nat) (n : Nat) (v : Value) (w : World) (hl : l.length ≤ 1000000) (h : OwC w l v) :
    Calls Tryz.prog 122 #[v, .int .i64 n] w fun e w' => e = .returned (.int .i64 (ixC l n 0)) ∧ w = w' := by
  obtain ⟨a, c, rfl, hg⟩ := h.get
  obtain ⟨F, hF⟩ : ∃ F, ixC l n 0 = F := ⟨_, rfl⟩
  rw [hF]
  have HF := Lib.hid hF; have HG := Lib.hid hg; clear hF hg h
  go_enter Tryz.func122, Tryz.ntmps122
  go_wp2_with fail
  go_loop [8] (fun i => ∃ k : Nat, i = .int .i64 k ∧ k ≤ l.length ∧ ixC l n k = F) (fun i => l.length - (intOf i).toNat)
  case atStart => exact ⟨0, rfl, Nat.zero_le _, HF.out⟩
  case round =>
    obtain ⟨k, rfl, hk, hF⟩ := hrel
    by_cases hlt : k < l.length
    · obtain ⟨g, rfl, hc⟩ := HG.out k hlt
      obtain ⟨x, hx⟩ : ∃ x, l[k] = x := ⟨_, rfl⟩
      rw [hx] at hc
      by_cases he : l[k] = n
      · rw [ixC_hit hlt he] at hF
        subst hF
        have t1 : ((n : Int) == x) = true := by rw [← hx, he]; simp
        clear he hx
        go_wp2
        go_ret
        exact ⟨rfl, rfl⟩
      · rw [ixC_next hlt he] at hF
        have HX := Lib.hid hF
        have t1 : ((n : Int) == x) = false := by rw [hx] at he; simp; omega
        clear he hx hF
        go_wp2
        go_round
        case rel => exact ⟨k + 1, by go_num, by omega, HX.out⟩
        case measure => simp [intOf]; omega
    · rw [ixC_end (by omega)] at hF
      subst hF
      go_wp2
      go_ret
      exact ⟨rfl, rfl⟩

theorem br_contains (l : List Nat) (n : Nat) (v : Value) (w : World) (hl : l.length ≤ 1000000) (h : OwC w l v) :
    Calls Tryz.prog 107 #[v, .int .i64 n] w fun e w' => e = .returned (.bool (l.contains n)) ∧ w = w' := by
  have hi := br_index l n v w hl h
  obtain ⟨a, c, rfl, _⟩ := h.get
  clear h
  go_enter Tryz.func107, Tryz.ntmps107
  go_wp2_with ((with_reducible refine hi.mono ?_); rintro e w' ⟨rfl, rfl⟩)
  go_ret
  exact ⟨ret_bool ixC_bool, rfl⟩
end Go.Proofs.YtlchaocpejfikaaGreatDoor

/-
  Walk of package bre: group.
-/
namespace Go.Proofs.YtlchaocpejfikaaGreatDoor
open Go.RowKit

/-- What holds of a reading's state at every place. -/
structure Sane (l : List UInt8) (s : RxS) : Prop where
  le : s.at_ ≤ l.length
  mr : s.marks.length ≤ s.at_
  cl : s.closed.length ≤ s.at_
  op : s.opened ≤ s.at_
/-- All that may turn was not there at the start. -/
structure Wd (W0 : World) (S : Nat → Prop) (w : World) : Prop where
  fr : Fr nob W0 w
  ge : ∀ k, S k → W0.heap.size ≤ k
  lt : ∀ k, S k → k < w.heap.size
theorem Wd.stp {W0 : World} {S S' : Nat → Prop} {w w' : World} (h : Wd W0 S w) (k : Stp S w S' w') : Wd W0 S' w' :=
  ⟨k.from h.fr h.ge, fun i hi => by
    by_cases hlt : i < w.heap.size
    · exact h.ge i (k.old i hlt hi)
    · have := h.fr.size; omega, k.lt h.lt⟩

/-- What choice does at a depth. -/
def ChAt (l : List UInt8) (W0 : World) (deep : Nat) (f : RxS → Out Nd) : Prop :=
  ∀ b s S (O : Nat → Prop) w, (∀ k, O k → k < w.heap.size) → Sane l s → Wd W0 S w → Rdg b l s S w → Calls Tryz.prog 46 #[.pointer (some ⟨b, 0, none⟩), .int .i64 deep] w fun x w' => OutAns4 b l S O w (f s) x w'
/-- A reading function that keeps its state sane. -/
def KeptS (l : List UInt8) (f : RxS → Out Nd) : Prop := ∀ s, Sane l s → ∀ t s', f s = .inr (t, s') → Sane l s' ∧ s.at_ ≤ s'.at_

theorem info_int4 : (Tryz.prog.info? 3).map (fun i => (i.zero, i.size, i.bytes)) = some (some (.int .i64 0), 1, 8) := by kernel_rfl
theorem RN.grp {S : Nat → Prop} {w : World} {t : Nd} {v : Value} (h : RN S w t v) (n : Int) : RN S w (.group n t) (.iface 78 (.agg #[.int .i64 n, v])) := by
  rw [RN.eq_def]; exact ⟨v, rfl, h⟩

theorem br_group_deep (b : Nat) (l : List UInt8) (s : RxS) (S O : Nat → Prop) (w : World) (p : Nat) :
    Calls Tryz.prog 134 #[.pointer (some ⟨b, 0, none⟩), .int .i64 (p : Nat), .int .i64 12] w fun x w' => OutAns4 b l S O w (groupS prg l none p s) x w' := by
  go_enter Tryz.func134, Tryz.ntmps134
  go_wp2_with (go_at_call 93; (with_reducible refine (br_fail 4 p _).mono ?_); rintro e w' ⟨rfl, rfl⟩)
  exact ⟨rfl, rfl, S, Stp.refl _ _⟩

set_option maxRecDepth 100000 in
set_option maxHeartbeats 1000000 in
theorem br_group (b : Nat) (l : List UInt8) (W0 : World) (deep : Nat) (f : RxS → Out Nd) (s : RxS) (S O : Nat → Prop) (w : World) (p : Nat) (hO : ∀ k, O k → k < w.heap.size) (hl : l.length ≤ 100000) (hd : deep < 12) (hC : ChAt l W0 (deep + 1) f) (hK : KeptS l f)
    (hs : Sane l s) (h1 : s.opened < s.at_) (hW : Wd W0 S w) (h : Rdg b l s S w) :
    Calls Tryz.prog 134 #[.pointer (some ⟨b, 0, none⟩), .int .i64 (p : Nat), .int .i64 deep] w fun x w' => OutAns4 b l S O w (groupS prg l (some f) p s) x w' := by
  obtain ⟨cv, mv, hB⟩ := h
  obtain ⟨⟨c0, c1, c2, c3, c4⟩, d0, d1, d2, d3, d4⟩ := rule5 hB.blk _ (Fr.refl _ _)
  have hs1 : Sane l { s with opened := s.opened + 1 } := ⟨hs.le, hs.mr, hs.cl, h1⟩
  have hsle := hs.le
  have hop := hs.op
  obtain ⟨w1, hw1⟩ : ∃ w1, w1 = w.setCell ⟨b, 2, none⟩ (.int .i64 ((s.opened : Int) + 1)) := ⟨_, rfl⟩
  have hB1 : Br b l { s with opened := s.opened + 1 } S cv mv w1 := by rw [hw1]; exact hB.turned 2 _ _ (by simp) rfl rfl
  have hS1 : Stp S w S w1 := by rw [hw1]; exact hB.stp 2 _
  have hc := hC b { s with opened := s.opened + 1 } S O w1 (by rw [hw1]; simpa [World.setCell] using hO) hs1 (hW.stp hS1) ⟨cv, mv, hB1⟩
  obtain ⟨Z, hZ⟩ : ∃ Z, f { s with opened := s.opened + 1 } = Z := ⟨_, rfl⟩
  rw [hZ, show ((deep + 1 : Nat) : Int) = (deep : Int) + 1 from by simp] at hc
  obtain ⟨R, hR⟩ : ∃ R, groupS prg l (some f) p s = R := ⟨_, rfl⟩
  rw [hR]
  unfold groupS at hR
  simp only [hZ] at hR
  have HW := Lib.hid hw1; have HC := Lib.hid hc; have HS1 := Lib.hid hS1; have HK := Lib.hid (hK _ hs1); have HZ := Lib.hid hZ
  have hdd : ((deep : Int) == 12) = false := by simp; omega
  have hdI : (deep : Int) < 12 := by omega
  have e2 : w1.cell? ⟨b, 2, none⟩ = some (.int .i64 ((s.opened : Int) + 1)) := by
    obtain ⟨⟨_, _, k2, _⟩, _⟩ := rule5 hB1.blk _ (Fr.refl _ _)
    simpa using k2
  clear hw1 hc hS1 hB1 hK hC hZ hB hs1 hd hO
  go_enter Tryz.func134, Tryz.ntmps134
  go_wp2_with (rw [← HW.out])
  with_reducible refine (HC.out).mono ?_
  cases Z with
  | inl z =>
    obtain ⟨z1, z2⟩ := z
    rintro e w2 ⟨rfl, S2, st2⟩
    subst hR
    exact ⟨rfl, rfl, S2, HS1.out.trans st2⟩
  | inr z =>
    obtain ⟨t, s2⟩ := z
    rintro e w2 ⟨i, y, S2, rfl, rn2, r2, st2⟩
    simp only at hR
    obtain ⟨sn2, sle⟩ := HK.out t s2 HZ.out
    have hsn := sn2.le
    have hT := br_take b l [92, 41] s2 S2 w2 hl (by decide) sn2.le r2
    have RN2 := Lib.hid rn2; have ST2 := Lib.hid (HS1.out.trans st2); have SN2 := Lib.hid sn2
    clear rn2 r2 st2 sn2
    cases hA : ahd l s2.at_ [92, 41] with
    | false =>
      rw [hA] at hT
      rw [if_neg (by rw [hA]; decide)] at hR
      subst hR
      have HT := Lib.hid hT; clear hT hA
      go_wp2_with (first | ((with_reducible refine (HT.out).mono ?_); rintro e w3 ⟨rfl, r3, t3⟩; have T3 := Lib.hid t3; clear r3 t3) | (go_at_call 93; (with_reducible refine (br_fail 8 p _).mono ?_); rintro e w' ⟨rfl, rfl⟩))
      exact ⟨rfl, rfl, S2, ST2.out.trans T3.out⟩
    | true =>
      have hle := ahd_le hA (by decide)
      simp only [List.length_cons, List.length_nil] at hle
      rw [hA] at hT
      rw [if_pos hA] at hR
      subst hR
      simp only [if_true] at hT
      have HT := Lib.hid hT; clear hT hA
      go_wp2_with fail
      refine (HT.out).mono ?_
      rintro e w3 ⟨rfl, ⟨cv3, mv3, hB3⟩, t3⟩
      have HB3 := Lib.hid hB3; have T3 := Lib.hid t3; clear t3
      obtain ⟨a3, c3', rfl⟩ := ownsRow_slice hB3.cl
      obtain ⟨i0, hi, hz0, hz1, hz2⟩ := info_parts info_int4
      have rr := rule5 hB3.blk
      have hcl3 : (s2.go 2).closed.length ≤ 100000 := by have := SN2.out.cl; show s2.closed.length ≤ _; omega
      clear hB3
      go_wp2_with (at_builtin; refine wpList_append_g rfl _ _ 85 rfl 3 i0 (.int .i64 0) 1 8 Tryz.underlying85 hi hz0 hz1 hz2 rfl (by decide) _ _ _ rfl (ownsRow_fr HB3.out.cl ((Fr.refl nob w3).alloc _) (fun _ _ x => x)) ⟨w3.heap.size, 0, none⟩ 1 1 [.int .i64 ((s.opened : Int) + 1)] rfl rfl ?c1 ?c2 ?c3 ?c4 ?_)
      case c1 => intro j u hj; match j, hj with | 0, hj => simp at hj; subst hj; simp [Addr.add]
      case c2 => intro u hu; simp at hu; subst hu; rfl
      case c3 => unfold maxLen; exact Nat.le_trans (Nat.succ_le_succ hcl3) (by decide)
      case c4 => exact Nat.le_trans (Nat.mul_le_mul_right 8 (Nat.succ_le_succ hcl3)) (by decide)
      intro v' w4 hown' hap
      obtain ⟨av, cv4, rfl⟩ := ownsRow_slice hown'
      have hown2 := hown'
      rw [show ((s.opened : Int) + 1) = ((s.opened + 1 : Nat) : Int) from by simp] at hown2
      obtain ⟨⟨pc, pf⟩, r4, st4⟩ := HB3.out.pushC ((Fr.refl nob w3).alloc _) hap hown2
      have R4 := Lib.hid r4; have ST4 := Lib.hid (T3.out.trans st4)
      clear hown' hown2 hap r4 st4 rr
      go_wp2
      go_ret
      refine ⟨_, _, _, rfl, ?_, R4.out, ST2.out.trans ST4.out⟩
      have := (ST4.out.rn RN2.out).grp ((s.opened + 1 : Nat) : Int)
      rw [show (((s.opened + 1 : Nat) : Int)) = (s.opened : Int) + 1 from by simp] at this
      exact this
end Go.Proofs.YtlchaocpejfikaaGreatDoor
