/-
  Merged texts of this claim: EreQ, EreS.
-/
import Derived.Test.YtepeomphikhbkaaGreatDoorM17
import Derived.Test.YtepeomphikhbkaaGreatDoorM30
import Derived.Test.YtepeomphikhbkaaGreatDoorM42

/-
  An extended regex in plain words: bytes told one behind the other. No walk.
-/
namespace Go.Proofs.YtepeomphikhbkaaGreatDoor
open Go.RowKit

/-- How a byte is told. -/
def Te (b : UInt8) (u : List UInt8) : Prop := (u = [b] ∧ punctS.has b.toNat = false) ∨ ∃ x, u = [92, x] ∧ ¬ (49 ≤ x.toNat ∧ x.toNat ≤ 57) ∧ escB x = some (spn b.toNat b.toNat, false)
theorem punct_92 : punctS.has 92 = true := by decide +kernel
theorem te_ne {b c : UInt8} {u : List UInt8} (h : Te b u) (hc : punctS.has c.toNat = true) : (u == [c]) = false := by
  rcases h with ⟨rfl, h⟩ | ⟨x, rfl, _⟩
  · have : b ≠ c := by rintro rfl; rw [hc] at h; cases h
    simp [this]
  · simp
theorem te_sgn {l : List UInt8} {b : UInt8} {u r : List UInt8} {k : Nat} (h : Te b u) (hd : l.drop k = u ++ r) : sgn l k = u := by
  rcases h with ⟨rfl, h⟩ | ⟨x, rfl, _⟩
  · obtain ⟨hk, hb, _⟩ := get_of_drop hd
    have hne : b ≠ 92 := by rintro rfl; rw [show (92 : UInt8).toNat = 92 from rfl, punct_92] at h; cases h
    rw [sgn_one hk (by rw [hb]; exact hne), hb]
  · obtain ⟨hk, hb, hd2⟩ := get_of_drop (r := x :: r) hd
    obtain ⟨hk2, hx, _⟩ := get_of_drop hd2
    rw [sgn_two hk2 hb, hx]
theorem te_len {b : UInt8} {u : List UInt8} (h : Te b u) : 1 ≤ u.length ∧ u ≠ [] := by
  rcases h with ⟨rfl, _⟩ | ⟨x, rfl, _⟩ <;> simp
theorem puncts : ∀ c ∈ ([40, 41, 91, 46, 92, 124, 94, 36, 42, 43, 63, 123] : List UInt8), punctS.has c.toNat = true := by decide +kernel
theorem te_no {b : UInt8} {u : List UInt8} (h : Te b u) : (u == []) = false ∧ (∀ c ∈ ([40, 41, 91, 46, 92, 124, 94, 36, 42, 43, 63, 123] : List UInt8), (u == [c]) = false) := ⟨by have := (te_len h).2; simp [this], fun c hc => te_ne h (puncts c hc)⟩
section
variable {l : List UInt8} {C : Option (RxS → Out Nd)}
theorem te_atom {s : RxS} {b : UInt8} {u r : List UInt8} (h : Te b u) (hd : l.drop s.at_ = u ++ r) : atomD prg true l C s = .inr (.one (spn b.toNat b.toNat), s.go u.length) := by
  have hs := te_sgn h hd
  obtain ⟨h0, hn⟩ := te_no h
  unfold atomD
  rw [hs]
  simp only [opB_ere, hn 40 (by simp), hn 41 (by simp), hn 91 (by simp), hn 46 (by simp), hn 92 (by simp), Bool.false_eq_true, if_false]
  rcases h with ⟨rfl, h⟩ | ⟨x, rfl, h1, h2⟩
  · rfl
  · show escD prg true s x = _
    unfold escD
    rw [if_neg h1, h2]
    rfl
theorem te_rep {s : RxS} {t : Nd} {n : Nat} (h : sgn l s.at_ = [] ∨ ∃ b, Te b (sgn l s.at_)) : repD prg true l (n + 1) s t = .inr (t, s) := by
  have hn : ∀ c ∈ ([42, 43, 63, 123] : List UInt8), (sgn l s.at_ == [c]) = false := by
    rcases h with h | ⟨b, h⟩
    · rw [h]; intro c _; simp
    · intro c hc; exact (te_no h).2 c (by simp at hc ⊢; rcases hc with rfl | rfl | rfl | rfl <;> simp)
  rw [repD]
  simp only [opB_ere, hn 42 (by simp), hn 43 (by simp), hn 63 (by simp), hn 123 (by simp), Bool.false_eq_true, if_false]
theorem brD_tes {inner : Bool} : ∀ (ts : List (UInt8 × List UInt8)) (n : Nat) (first front : Bool) (s : RxS) (ps : List Nd), (∀ x ∈ ts, Te x.1 x.2) → s.at_ ≤ l.length → l.drop s.at_ = telT ts → l.length < n + s.at_ →
    brD prg true l C inner n first front s ps = .inr (joined (ps ++ telN ts), s.to l.length)
  | [], n, first, front, s, ps, ht, ha, hd, hn => by
    have hle : l.length ≤ s.at_ := by have := congrArg List.length hd; simp [telT] at this; omega
    obtain ⟨m, rfl⟩ : ∃ m, n = m + 1 := ⟨n - 1, by omega⟩
    rw [brD, sgn_out hle]
    have : s.to l.length = s := by unfold RxS.to; cases s; simp at *; omega
    rw [this]; simp [telN]
    rfl
  | (b, u) :: ts, n, first, front, s, ps, ht, ha, hd, hn => by
    obtain ⟨m, rfl⟩ : ∃ m, n = m + 1 := ⟨n - 1, by omega⟩
    have hT := ht (b, u) (by simp)
    have ht' : ∀ x ∈ ts, Te x.1 x.2 := fun x hx => ht x (by simp [hx])
    have hs := te_sgn hT hd
    obtain ⟨h0, hno⟩ := te_no hT
    have hd' : l.drop (s.go u.length).at_ = telT ts := by
      show l.drop (s.at_ + u.length) = _
      rw [← List.drop_drop, hd, telT, List.drop_left']; rfl
    have hu : 1 ≤ u.length := (te_len hT).1
    have hle : s.at_ + u.length ≤ l.length := by
      have := congrArg List.length hd; simp [telT] at this; omega
    have hnext : sgn l (s.go u.length).at_ = [] ∨ ∃ b, Te b (sgn l (s.go u.length).at_) := by
      cases ts with
      | nil =>
        left
        exact sgn_out (by have := congrArg List.length hd'; simp [telT] at this; omega)
      | cons y ts =>
        right
        have hy := ht' y (by simp)
        refine ⟨y.1, ?_⟩
        rw [te_sgn hy (r := telT ts) hd']
        exact hy
    rw [brD, hs]
    simp only [opB_ere, h0, hno 124 (by simp), hno 41 (by simp), hno 94 (by simp), hno 36 (by simp), hno 123 (by simp), hno 43 (by simp), hno 63 (by simp), hno 42 (by simp), Bool.false_or, Bool.false_and, Bool.and_false, Bool.or_false, Bool.false_eq_true, if_false]
    rw [te_atom hT hd]
    simp only
    rw [te_rep hnext]
    simp only
    rw [brD_tes ts m false false (s.go u.length) _ ht' hle hd' (by show _ < m + (s.at_ + u.length); omega)]
    simp [telN, RxS.go, RxS.to]
end
theorem parse_tes (ts : List (UInt8 × List UInt8)) (h : ∀ x ∈ ts, Te x.1 x.2) (hne : ts ≠ []) (hl : (telT ts).length ≤ 250) : parseD prg true (telT ts) = .inr (joined (telN ts), ⟨(telT ts).length, 0, [], []⟩) := by
  unfold parseD
  rw [if_neg (by omega), chD]
  unfold choiceD branchD
  rw [brD_tes ts _ _ _ _ _ h (by simp) (by simp) (by split <;> simp)]
  simp only
  rw [chLoopD, if_neg (by
    rw [sgn_out (by simp [RxS.to])]
    decide)]
  rw [List.nil_append]
  show Sum.inr (chosen [joined (telN ts)], _) = _
  rw [chosen_joined_tel hne]
  rfl
theorem te_quo (b : UInt8) : Te b (quo true b) := by
  unfold quo
  split
  · next h => subst h; exact .inr ⟨110, rfl, by decide, rfl⟩
  · rw [if_neg (fun h => by cases h.1)]
    split
    · next h =>
      refine .inr ⟨b, rfl, fun hd => ?_, escB_punct h⟩
      have := punct_digits b.toNat (by omega) hd.1
      rw [h] at this; cases this
    · next h => exact .inl ⟨rfl, by simpa using h⟩
theorem quo_parseE {l : List UInt8} (hne : l ≠ []) (hl : l.length ≤ 100) : parseD prg true (quoT true l) = .inr (joined (ones l), ⟨(quoT true l).length, 0, [], []⟩) := by
  have hle := quoT_le true l
  have := parse_tes (l.map fun b => (b, quo true b)) (fun x hx => by obtain ⟨b, hb, rfl⟩ := List.mem_map.1 hx; exact te_quo b) (by simpa using hne) (by show (quoT true l).length ≤ 250; omega)
  rw [telN_ones, List.map_map] at this
  show parseD prg true (telT _) = _
  rw [this]
  simp [Function.comp_def, quoT]
end Go.Proofs.YtepeomphikhbkaaGreatDoor

/-
  Chapter 5: the fixed fact.
-/
namespace Go.Proofs.YtepeomphikhbkaaGreatDoor
open Go.RowKit

theorem awake5_a : ∃ s, parseD prg true [97, 124, 40, 98, 41, 43] = .inr (.alt [.one (spn 97 97), .rep (.group 1 (.one (spn 98 98))) 1 (-1)], s) := ⟨⟨6, 1, [1], []⟩, by kernel_rfl⟩
theorem awake5_b : parseD prg true [42, 97] = .inl (10, 0) := by kernel_rfl

set_option maxRecDepth 100000 in
set_option maxHeartbeats 1000000 in
theorem awake5_any (w : World) (hE : Env w) : Calls Tryz.prog 5 #[] w fun e w' => e = .returned (.bool true) ∧ Fr nob w w' := by
  obtain ⟨s1, p1⟩ := awake5_a
  have P1 := Lib.hid (ere_parse [97, 124, 40, 98, 41, 43] w (by decide) hE)
  rw [p1] at P1
  have HE := Lib.hid hE
  clear p1 hE
  go_enter Tryz.func5, Tryz.ntmps5
  go_wp2_with fail
  refine P1.out.mono ?_
  rintro e w1 ⟨f1, r, mv, rfl, rn, ma⟩
  obtain ⟨u, hu, sn⟩ := RN_alt.1 rn
  obtain ⟨a, c, hs⟩ := sn.shape
  subst hs
  subst hu
  obtain ⟨am, cm, hm⟩ := ownsRow_slice ma
  subst hm
  have RN1 := Lib.hid rn; have F1 := Lib.hid f1
  clear rn f1 ma sn
  have P2 := Lib.hid (fun (w' : World) (f : Fr nob w1 w') => ere_parse [42, 97] w' (by decide) ((HE.out.on F1.out).on f))
  rw [awake5_b] at P2
  have hbw := newAt0 w1 (.cells #[.slice a 2 c] 47)
  have HBW := Lib.hid hbw; clear hbw
  go_wp2_with fail
  refine (P2.out _ ((Fr.refl nob w1).alloc _)).mono ?_
  rintro e w2 ⟨f2, rfl⟩
  have hb2 := f2.heap HBW.out (fun x => x)
  have k0 := cell_at (j := 0) (v := .slice a 2 c) hb2 rfl
  have F2 := Lib.hid (((Fr.refl nob w1).alloc (.cells #[.slice a 2 c] 47)).trans' f2)
  have HB := Lib.hid (fun (w' : World) (h : RN nob w' (.alt [.one (spn 97 97), .rep (.group 1 (.one (spn 98 98))) 1 (-1)]) (.iface 47 (.agg #[.slice a 2 c]))) => groups_any 3000000 _ _ w' (by simp [Nd.size, Nd.sizes]) (by simp [Nd.size, Nd.sizes]) h)
  rw [show Nd.groups (.alt [.one (spn 97 97), .rep (.group 1 (.one (spn 98 98))) 1 (-1)]) = 1 from rfl] at HB
  clear hb2 f2
  go_wp2_with fail
  refine (HB.out _ (RN1.out.on F2.out)).mono ?_
  rintro e w3 ⟨rfl, f3⟩
  have F3 := Lib.hid f3; clear f3
  go_wp2
  go_ret
  exact ⟨rfl, (F1.out.trans' F2.out).trans' F3.out⟩
end Go.Proofs.YtepeomphikhbkaaGreatDoor
