/-
  Merged texts of this claim: BreJ, BrkR, BrkS, BreL.
-/
import Derived.Test.YtpcpmjaphjkphaaDoorM03
import Derived.Test.YtpcpmjaphjkphaaDoorM06
import Derived.Test.YtpcpmjaphjkphaaDoorM09

/-
  Walk of package bre: escape.
-/
namespace Go.Proofs.YtpcpmjaphjkphaaDoor
open Go.RowKit

/-- What group does at a depth. -/
def GrAt (l : List UInt8) (W0 : World) (deep : Nat) (C : Option (RxS → Out Nd)) : Prop :=
  ∀ b s S (O : Nat → Prop) w (p : Nat), (∀ k, O k → k < w.heap.size) → Sane l s → s.opened < s.at_ → Wd W0 S w → Rdg b l s S w → Calls Tryd.prog 80 #[.pointer (some ⟨b, 0, none⟩), .int .i64 p, .int .i64 deep] w fun x w' => OutAns4 b l S O w (groupS prg l C p s) x w'

theorem escS_tail {l : List UInt8} {C : Option (RxS → Out Nd)} {s : RxS} (h : l.length ≤ s.at_ + 1) : escS prg l C s = .inl (11, s.at_) := by
  unfold escS; rw [List.getElem?_eq_none h]
theorem escS_in {l : List UInt8} {C : Option (RxS → Out Nd)} {s : RxS} (h : s.at_ + 1 < l.length) : escS prg l C s =
    if ahd l s.at_ [92, 40] then groupS prg l C s.at_ (s.go 2)
    else if ahd l s.at_ [92, 41] then .inl (8, s.at_)
    else if 49 ≤ l[s.at_ + 1].toNat ∧ l[s.at_ + 1].toNat ≤ 57 then
      (if s.closed.contains (l[s.at_ + 1].toNat - 48) then .inr (.back ((l[s.at_ + 1].toNat - 48 : Nat) : Int), s.go 2) else .inl (9, s.at_))
    else if (escR l[s.at_ + 1]).2.2 then .inr (.one (escR l[s.at_ + 1]).1, (if (escR l[s.at_ + 1]).2.1 then s.mark [92, l[s.at_ + 1]] else s).go 2) else .inl (2, s.at_) := by
  unfold escS
  rw [List.getElem?_eq_getElem h]
  simp only [prg]
  split
  · rfl
  · split
    · rfl
    · split
      · rfl
      · unfold escR
        cases escB l[s.at_ + 1] with
        | none => rfl
        | some q => obtain ⟨c, m⟩ := q; rfl

set_option maxRecDepth 100000 in
set_option maxHeartbeats 1000000 in
theorem br_escape (b : Nat) (l : List UInt8) (W0 : World) (deep : Nat) (C : Option (RxS → Out Nd)) (s : RxS) (S O : Nat → Prop) (w : World) (hO : ∀ k, O k → k < w.heap.size) (hl : l.length ≤ 100000) (hd : deep ≤ 12) (hG : GrAt l W0 deep C)
    (hs : Sane l s) (ha : s.at_ < l.length) (h92 : l[s.at_] = 92) (hW : Wd W0 S w) (h : Rdg b l s S w) :
    Calls Tryd.prog 75 #[.pointer (some ⟨b, 0, none⟩), .int .i64 deep] w fun x w' => OutAns4 b l S O w (escS prg l C s) x w' := by
  obtain ⟨R, hR⟩ : ∃ R, escS prg l C s = R := ⟨_, rfl⟩
  rw [hR]
  have hr := h
  obtain ⟨cv, mv, hB⟩ := h
  have rr := rule5 hB.blk
  have HR := Lib.hid hr; have HG := Lib.hid hG; have HS := Lib.hid hs; have HW := Lib.hid hW; have HB := Lib.hid hB
  have hdI : (deep : Int) ≤ 12 := by omega
  have hop := hs.op
  have hmr := hs.mr
  have hcl := hs.cl
  clear hr hG hs hW hB hd
  by_cases hend : s.at_ + 1 < l.length
  · rw [escS_in hend] at hR
    obtain ⟨x, hx⟩ : ∃ x, l[s.at_ + 1] = x := ⟨_, rfl⟩
    rw [hx] at hR
    have hge : ¬ (l.length : Int) ≤ (s.at_ : Int) + 1 := by omega
    have HT := Lib.hid (br_take b l [92, 40] s S w hl (by decide) (by omega) HR.out)
    cases e1 : ahd l s.at_ [92, 40] with
    | true =>
      rw [if_pos e1] at hR
      rw [e1] at HT
      simp only [if_true] at HT
      go_enter Tryd.func75, Tryd.ntmps75
      go_wp2_with fail
      with_reducible refine (HT.out).mono ?_
      rintro e w1 ⟨rfl, r1, t1⟩
      have hg := HG.out b (s.go 2) S O w1 s.at_ (fun k hk => Nat.lt_of_lt_of_le (hO k hk) t1.fr.size) ⟨by show s.at_ + 2 ≤ _; omega, by show s.marks.length ≤ s.at_ + 2; omega, by show s.closed.length ≤ s.at_ + 2; omega, by show s.opened ≤ s.at_ + 2; omega⟩ (by show s.opened < s.at_ + 2; omega) (HW.out.stp t1) r1
      rw [hR] at hg
      have HGG := Lib.hid hg; have T1 := Lib.hid t1
      clear hg r1 t1 rr e1 hR
      go_wp2_with fail
      with_reducible refine (HGG.out).mono ?_
      cases R with
      | inl z =>
        obtain ⟨z1, z2⟩ := z
        rintro e w2 ⟨rfl, S2, st2⟩
        exact ⟨rfl, rfl, S2, T1.out.trans st2⟩
      | inr z =>
        obtain ⟨t, s2⟩ := z
        rintro e w2 ⟨i, y, S2, rfl, rn2, r2, st2⟩
        have RN2 := Lib.hid rn2; have R2 := Lib.hid r2; have ST2 := Lib.hid (T1.out.trans st2); clear rn2 r2 st2
        go_wp2
        go_ret
        exact ⟨_, _, S2, rfl, RN2.out, R2.out, ST2.out⟩
    | false =>
      rw [if_neg (by rw [e1]; decide)] at hR
      rw [e1] at HT
      simp only [Bool.false_eq_true, if_false] at HT
      go_enter Tryd.func75, Tryd.ntmps75
      go_wp2_with fail
      with_reducible refine (HT.out).mono ?_
      rintro e w1 ⟨rfl, r1, t1⟩
      have hA := br_ahead b l [92, 41] s S w1 (by omega) (by decide) (by omega) r1
      obtain ⟨cv1, mv1, hB1⟩ := r1
      have HB1 := Lib.hid hB1; have T1 := Lib.hid t1
      clear t1 rr e1 hB1
      cases e2 : ahd l s.at_ [92, 41] with
      | true =>
        rw [if_pos e2] at hR
        subst hR
        rw [e2] at hA
        have HA := Lib.hid hA; clear hA e2
        go_wp2_with (first | ((with_reducible refine (HA.out).mono ?_); rintro e w2 ⟨rfl, f2⟩; have F2 := Lib.hid f2; clear f2) | (go_at_call 66; (with_reducible refine (br_fail 8 _ _).mono ?_); rintro e w' ⟨rfl, rfl⟩))
        exact ⟨rfl, rfl, S, T1.out.trans (Stp.of F2.out)⟩
      | false =>
        rw [if_neg (by rw [e2]; decide)] at hR
        rw [e2] at hA
        have HA := Lib.hid hA; clear hA e2
        go_wp2_with fail
        with_reducible refine (HA.out).mono ?_
        rintro e w2 ⟨rfl, f2⟩
        have hB2 := HB1.out.on f2
        have rr2 := rule5 hB2.blk
        obtain ⟨a2, c2', hcv⟩ := ownsRow_slice hB2.cl
        subst hcv
        have HB2 := Lib.hid hB2; have T2 := Lib.hid (T1.out.trans (Stp.of f2)); clear hB2 f2
        have hal : (s.at_ : Int) + 1 < l.length := by omega
        by_cases hd : 49 ≤ x.toNat ∧ x.toNat ≤ 57
        · rw [if_pos hd] at hR
          obtain ⟨hd1, hd2⟩ := hd
          obtain ⟨n, hn⟩ : ∃ n, x.toNat = n + 48 := ⟨x.toNat - 48, by omega⟩
          rw [hn] at hR hd1 hd2
          rw [show n + 48 - 48 = n from by omega] at hR
          have hw8 : IntKind.u8.wrap (n : Int) = n := IntWalk.u8_in _ (by omega)
          have hN := br_contains s.closed n _ w2 (by omega) HB2.out.cl
          cases hq : s.closed.contains n with
          | true =>
            rw [if_pos hq] at hR
            subst hR
            rw [hq] at hN
            have HN := Lib.hid hN; clear hN hq
            go_wp2_with ((with_reducible refine (HN.out).mono ?_); rintro e w3 ⟨rfl, rfl⟩)
            go_ret
            exact ⟨_, _, S, rfl, by rw [RN], ⟨_, _, HB2.out.turned 1 _ (s.go 2) (by simp [RxS.go]) rfl rfl⟩, T2.out.trans (HB2.out.stp 1 _)⟩
          | false =>
            rw [if_neg (by rw [hq]; decide)] at hR
            subst hR
            rw [hq] at hN
            have HN := Lib.hid hN; clear hN hq
            go_wp2_with (first | ((with_reducible refine (HN.out).mono ?_); rintro e w3 ⟨rfl, rfl⟩) | (go_at_call 66; (with_reducible refine (br_fail 9 _ _).mono ?_); rintro e w' ⟨rfl, rfl⟩))
            exact ⟨rfl, rfl, S, T2.out⟩
        · rw [if_neg hd] at hR
          have hd' : x.toNat < 49 ∨ (49 ≤ x.toNat ∧ 57 < x.toNat) := by omega
          have hE := br_escaped x w2
          have hxb := x.toNat_lt
          have hsl := run_slice_bs (P := Tryd.prog) l (lo := (s.at_ : Int)) (hi := (s.at_ : Int) + 2) Tryd.underlying9 (by omega) (by omega) (by omega)
          have hsn : List.take (((s.at_ : Int) + 2).toNat - ((s.at_ : Int)).toNat) (List.drop ((s.at_ : Int)).toNat l) = [92, x] := by
            rw [show ((s.at_ : Int)).toNat = s.at_ from by omega, show ((s.at_ : Int) + 2).toNat - s.at_ = 2 from by omega, List.drop_eq_getElem_cons ha, List.drop_eq_getElem_cons hend, h92, hx]
            rfl
          rw [hsn] at hsl
          obtain ⟨⟨c, m, k⟩, hq⟩ : ∃ q, escR x = q := ⟨_, rfl⟩
          rw [hq] at hE hR
          simp only at hR
          have HE := Lib.hid hE; have HX := Lib.hid hq
          clear hd hE hsn hq
          cases k with
          | false =>
            rw [if_neg (by decide)] at hR
            subst hR
            rcases hd' with hd' | ⟨hd1, hd2⟩
            all_goals
              go_wp2_with (first | ((with_reducible refine (HE.out).mono ?_); rintro e w3 ⟨rfl, f3⟩; have F3 := Lib.hid f3; clear f3) | (go_at_call 66; (with_reducible refine (br_fail 2 _ _).mono ?_); rintro e w' ⟨rfl, rfl⟩))
              exact ⟨rfl, rfl, S, T2.out.trans (Stp.of ((F3.out).alloc _))⟩
          | true =>
            rw [if_pos rfl] at hR
            subst hR
            cases m with
            | false =>
              rcases hd' with hd' | ⟨hd1, hd2⟩
              all_goals
                go_wp2_with fail
                with_reducible refine (HE.out).mono ?_
                rintro e w3 ⟨rfl, f3⟩
                obtain ⟨w4, hw4⟩ : ∃ w4, w4 = w3.alloc (.cells #[.int .u64 c.a, .int .u64 c.b, .int .u64 c.c, .int .u64 c.d] 37) := ⟨_, rfl⟩
                have f4 : Fr nob w2 w4 := by rw [hw4]; exact f3.alloc _
                have hB4 := HB2.out.on f4
                have hq4 : Q4 w4 w3.heap.size c := by rw [hw4]; exact Q4.of (newAt0 w3 _)
                have hbn : b < w3.heap.size := Nat.lt_of_lt_of_le (lt_heap HB2.out.blk) f3.size
                have hnS : ¬ S w3.heap.size := fun hk => by have := (HW.out.stp T2.out).lt _ hk; have := f3.size; omega
                obtain ⟨⟨k0, k1, _⟩, _, j1, _⟩ := rule5 hB4.blk _ (Fr.refl _ _)
                have HW4 := Lib.hid hw4; have HB4 := Lib.hid hB4; have HQ4 := Lib.hid hq4; have T4 := Lib.hid (T2.out.trans (Stp.of f4))
                clear hw4 f4 f3 hB4 hq4 rr2
                simp only
                have hq5 : Q4 (w4.setCell ⟨b, 1, none⟩ (.int .i64 ((s.at_ : Int) + 2))) w3.heap.size c := by
                  have g := (Fr.refl (fun k => k = b) w4).setCell (p := ⟨b, 1, none⟩) (fun _ => rfl) (.int .i64 ((s.at_ : Int) + 2))
                  have hne : w3.heap.size ≠ b := by omega
                  exact ⟨g.cell HQ4.out.1 hne, g.cell HQ4.out.2.1 hne, g.cell HQ4.out.2.2.1 hne, g.cell HQ4.out.2.2.2 hne⟩
                go_wp2_with (rw [← HW4.out])
                go_ret
                exact ⟨_, _, S, rfl, by rw [RN]; rfl, ⟨_, _, HB4.out.turned 1 _ (s.go 2) (by simp [RxS.go]) rfl rfl⟩, T4.out.trans (HB4.out.stp 1 _)⟩
            | true =>
              rcases hd' with hd' | ⟨hd1, hd2⟩
              all_goals
                go_wp2_with fail
                with_reducible refine (HE.out).mono ?_
                rintro e w3 ⟨rfl, f3⟩
                obtain ⟨w4, hw4⟩ : ∃ w4, w4 = w3.alloc (.cells #[.int .u64 c.a, .int .u64 c.b, .int .u64 c.c, .int .u64 c.d] 37) := ⟨_, rfl⟩
                have f4 : Fr nob w2 w4 := by rw [hw4]; exact f3.alloc _
                have hB4 := HB2.out.on f4
                have hq4 : Q4 w4 w3.heap.size c := by rw [hw4]; exact Q4.of (newAt0 w3 _)
                have hbn : b < w3.heap.size := Nat.lt_of_lt_of_le (lt_heap HB2.out.blk) f3.size
                have hnS : ¬ S w3.heap.size := fun hk => by have := (HW.out.stp T2.out).lt _ hk; have := f3.size; omega
                obtain ⟨⟨k0, k1, _⟩, _, j1, _⟩ := rule5 hB4.blk _ (Fr.refl _ _)
                have HW4 := Lib.hid hw4; have HB4 := Lib.hid hB4; have HQ4 := Lib.hid hq4; have T4 := Lib.hid (T2.out.trans (Stp.of f4))
                clear hw4 f4 f3 hB4 hq4 rr2
                simp only
                go_wp2_with (rw [← HW4.out])
                refine (br_mark b l [92, x] s S w4 (by omega) ⟨_, _, HB4.out⟩).mono ?_
                rintro e w5 ⟨rfl, S5, ⟨cv5, mv5, hB5⟩, st5⟩
                have hne : w3.heap.size ≠ b := by omega
                have hq5 : Q4 w5 w3.heap.size c := ⟨st5.fr.cell HQ4.out.1 hnS, st5.fr.cell HQ4.out.2.1 hnS, st5.fr.cell HQ4.out.2.2.1 hnS, st5.fr.cell HQ4.out.2.2.2 hnS⟩
                have hq6 : Q4 (w5.setCell ⟨b, 1, none⟩ (.int .i64 ((s.at_ : Int) + 2))) w3.heap.size c := by
                  have g := (Fr.refl (fun k => k = b) w5).setCell (p := ⟨b, 1, none⟩) (fun _ => rfl) (.int .i64 ((s.at_ : Int) + 2))
                  exact ⟨g.cell hq5.1 hne, g.cell hq5.2.1 hne, g.cell hq5.2.2.1 hne, g.cell hq5.2.2.2 hne⟩
                obtain ⟨⟨_, n1, _⟩, _, n2, _⟩ := rule5 hB5.blk _ (Fr.refl _ _)
                rw [show (s.mark [92, x]).at_ = s.at_ from rfl] at n1
                have HB5 := Lib.hid hB5; have ST5 := Lib.hid (T4.out.trans st5); clear hB5 st5 hq5 k0 k1 j1
                go_wp2
                go_ret
                exact ⟨_, _, S5, rfl, by rw [RN]; rfl, ⟨_, _, HB5.out.turned 1 _ ((s.mark [92, x]).go 2) (by simp [RxS.go, RxS.mark]) rfl rfl⟩, ST5.out.trans (HB5.out.stp 1 _)⟩
  · rw [escS_tail (by omega)] at hR
    subst hR
    have hge : (l.length : Int) ≤ (s.at_ : Int) + 1 := by omega
    go_enter Tryd.func75, Tryd.ntmps75
    go_wp2_with (go_at_call 66; (with_reducible refine (br_fail 11 _ _).mono ?_); rintro e w' ⟨rfl, rfl⟩)
    exact ⟨rfl, rfl, S, Stp.refl _ _⟩
end Go.Proofs.YtpcpmjaphjkphaaDoor

/-
  Bracket expressions in plain words: what stands ahead, or behind. No walk.
-/
namespace Go.Proofs.YtpcpmjaphjkphaaDoor
open Go.RowKit

/-- Places, so many further on. -/
def shE (k : Nat) : Int × Nat → Int × Nat := fun z => (z.1, k + z.2)
def shI (k : Nat) : (Int × Nat) ⊕ It → (Int × Nat) ⊕ It
  | .inl z => .inl (shE k z)
  | .inr x => .inr ⟨x.set, x.one, k + x.next⟩
def shP (k : Nat) : (Int × Nat) ⊕ (S4 × Nat) → (Int × Nat) ⊕ (S4 × Nat)
  | .inl z => .inl (shE k z)
  | .inr x => .inr (x.1, k + x.2)

section
variable (p l : List UInt8)
theorem get_sh (a : Nat) : (p ++ l)[p.length + a]? = l[a]? := by
  rw [List.getElem?_append_right (by omega)]; congr 1; omega
theorem drop_sh (a : Nat) : (p ++ l).drop (p.length + a) = l.drop a := by
  rw [List.drop_append, List.drop_eq_nil_of_le (by omega), List.nil_append]; congr 1; omega
theorem nam_sh (a e : Nat) : nam (p ++ l) (p.length + a) (p.length + e) = nam l a e := by
  unfold nam
  rw [show p.length + a + 2 = p.length + (a + 2) by omega, drop_sh]
  congr 1; omega
theorem fnd_sh (k : UInt8) : ∀ n a, fnd (p ++ l) k n (p.length + a) = (fnd l k n a).map (p.length + ·)
  | 0, _ => rfl
  | n + 1, a => by
    rw [fnd, fnd, List.length_append, show p.length + a + 1 = p.length + (a + 1) by omega, get_sh, get_sh, fnd_sh k n (a + 1)]
    by_cases h : a + 1 < l.length
    · rw [if_pos (by omega), if_pos h]; split <;> rfl
    · rw [if_neg (by omega), if_neg h]; rfl
/-- Fuel beyond what is left of the text does nothing. -/
theorem fnd_fuel (k : UInt8) : ∀ n m a, l.length ≤ n + a → l.length ≤ m + a → fnd l k n a = fnd l k m a
  | 0, 0, _, _, _ => rfl
  | 0, m + 1, a, h, _ => by rw [fnd, fnd, if_neg (by omega)]
  | n + 1, 0, a, _, h => by rw [fnd, fnd, if_neg (by omega)]
  | n + 1, m + 1, a, h, h' => by rw [fnd, fnd, fnd_fuel k n m (a + 1) (by omega) (by omega)]
theorem itmN_sh (a : Nat) (k : UInt8) : itmN (p ++ l) (p.length + a) k = shI p.length (itmN l a k) := by
  unfold itmN
  rw [show p.length + a + 2 + skp k = p.length + (a + 2 + skp k) by omega, fnd_sh, fnd_fuel l k ((p ++ l).length + 1) (l.length + 1) _ (by simp; omega) (by omega)]
  cases fnd l k (l.length + 1) (a + 2 + skp k) with
  | none => simp [shI, shE]
  | some e =>
    simp only [Option.map_some, nam_sh]
    split
    · split <;> simp [shI, shE, Nat.add_assoc]
    · split <;> simp [shI, shE, Nat.add_assoc]
theorem itm_sh (a : Nat) : itm (p ++ l) (p.length + a) = shI p.length (itm l a) := by
  unfold itm
  rw [show p.length + a + 1 = p.length + (a + 1) by omega, get_sh, get_sh]
  cases l[a]? with
  | none => simp [shI, shE]
  | some c =>
    simp only
    cases l[a + 1]? with
    | none => rfl
    | some k => simp only; split <;> first | exact itmN_sh p l a k | rfl
theorem rng_sh (a : Nat) : rng (p ++ l) (p.length + a) = rng l a := by
  unfold rng
  rw [show p.length + a + 1 = p.length + (a + 1) by omega, get_sh, get_sh]
  congr 2
  simp
theorem prt_sh (a : Nat) : prt (p ++ l) (p.length + a) = shP p.length (prt l a) := by
  unfold prt
  rw [itm_sh]
  cases itm l a with
  | inl z => rfl
  | inr x =>
    simp only [shI, rng_sh]
    split
    · rw [show p.length + x.next + 1 = p.length + (x.next + 1) by omega, itm_sh]
      cases itm l (x.next + 1) with
      | inl z => rfl
      | inr y =>
        simp only [shI]
        cases x.one with
        | none => rfl
        | some c => cases y.one with
          | none => rfl
          | some d => simp only; split <;> rfl
    · rfl
theorem lop_sh : ∀ n a o, a ≤ l.length → l.length < n + a → lop (p ++ l) n (p.length + a) o = shP p.length (lop l n a o)
  | 0, a, o, h, h' => by omega
  | n + 1, a, o, h, h' => by
    rw [lop, lop, get_sh, prt_sh]
    split
    · rfl
    · cases hp : prt l a with
      | inl z => rfl
      | inr x => have := prt_next hp; exact lop_sh n x.2 _ this.2.1 (by omega)
theorem lop_fuel : ∀ n m a o, a ≤ l.length → l.length < n + a → l.length < m + a → lop l n a o = lop l m a o
  | 0, _, _, _, _, _, _ => by omega
  | _, 0, _, _, _, _, _ => by omega
  | n + 1, m + 1, a, o, h, h1, h2 => by
    rw [lop, lop]
    split
    · rfl
    · cases hp : prt l a with
      | inl z => rfl
      | inr x => have := prt_next hp; exact lop_fuel n m x.2 _ this.2.1 (by omega) (by omega)
end

/-- What stands behind ^, if it does. -/
def bod (l : List UInt8) (a : Nat) : (Int × Nat) ⊕ (S4 × Nat) := match prt l a with
  | .inl z => .inl z
  | .inr x => lop l (l.length + 1) x.2 x.1
def ends (d : Bool) : (Int × Nat) ⊕ (S4 × Nat) → (Int × Nat) ⊕ (S4 × Nat)
  | .inl z => .inl z
  | .inr y => .inr (if d then y.1.not else y.1, y.2 + 1)
theorem prs_t {l : List UInt8} {a : Nat} (h : l[a]? = some 94) : prs l a = ends true (bod l (a + 1)) := by
  unfold prs bod; simp only [h, if_true]
  cases prt l (a + 1) with
  | inl z => rfl
  | inr x => simp only; cases lop l (l.length + 1) x.2 x.1 <;> rfl
theorem prs_f {l : List UInt8} {a : Nat} (h : l[a]? ≠ some 94) : prs l a = ends false (bod l a) := by
  unfold prs bod; simp only [if_neg h]
  cases prt l a with
  | inl z => rfl
  | inr x => simp only; cases lop l (l.length + 1) x.2 x.1 <;> rfl
theorem bod_sh (p l : List UInt8) (a : Nat) : bod (p ++ l) (p.length + a) = shP p.length (bod l a) := by
  unfold bod
  rw [prt_sh]
  cases hp : prt l a with
  | inl z => rfl
  | inr x =>
    have := prt_next hp
    simp only [shP]
    rw [lop_fuel (p ++ l) _ (l.length + 1) _ _ (by simp; omega) (by simp; omega) (by simp; omega), lop_sh p l _ _ _ this.2.1 (by omega)]
    cases lop l (l.length + 1) x.2 x.1 <;> rfl
theorem ends_sh (d : Bool) (k : Nat) (R : (Int × Nat) ⊕ (S4 × Nat)) : ends d (shP k R) = shP k (ends d R) := by cases R <;> rfl
theorem prs_sh (p l : List UInt8) (a : Nat) : prs (p ++ l) (p.length + a) = shP p.length (prs l a) := by
  by_cases h : l[a]? = some 94
  · rw [prs_t (by rw [get_sh]; exact h), prs_t h, ← ends_sh, ← bod_sh]; rfl
  · rw [prs_f (by rw [get_sh]; exact h), prs_f h, ← ends_sh, ← bod_sh]

/-! ### What stands behind -/
section
variable (t : List UInt8) {l : List UInt8}
theorem get_app {a : Nat} (h : a < l.length) : (l ++ t)[a]? = l[a]? := List.getElem?_append_left h
theorem fnd_app {k : UInt8} : ∀ {n m a e : Nat}, n ≤ m → fnd l k n a = some e → fnd (l ++ t) k m a = some e
  | 0, _, _, _, _, h => by cases h
  | n + 1, 0, _, _, hm, _ => by omega
  | n + 1, m + 1, a, e, hm, h => by
    rw [fnd] at h ⊢
    split at h
    · next hl =>
      rw [if_pos (by simp; omega), get_app t (by omega), get_app t hl]
      split at h
      · next hk => rw [if_pos hk]; exact h
      · next hk => rw [if_neg hk]; exact fnd_app (by omega) h
    · cases h
theorem nam_app {a e : Nat} (h : e ≤ l.length) : nam (l ++ t) a e = nam l a e := by
  unfold nam
  by_cases ha : a + 2 ≤ l.length
  · rw [List.drop_append_of_le_length ha, List.take_append_of_le_length (by simp; omega)]
  · rw [show e - (a + 2) = 0 by omega]; rfl
theorem itmN_app {a : Nat} {k : UInt8} {x : It} (h : itmN l a k = .inr x) : itmN (l ++ t) a k = .inr x := by
  unfold itmN at h ⊢
  cases hf : fnd l k (l.length + 1) (a + 2 + skp k) with
  | none => rw [hf] at h; cases h
  | some e =>
    have he := (fnd_some hf).2.1
    rw [fnd_app t (m := (l ++ t).length + 1) (by simp) hf]
    rw [hf] at h
    simp only [nam_app t (show e ≤ l.length by omega)] at h ⊢
    exact h
theorem itm_app {a : Nat} {x : It} (h : itm l a = .inr x) (hx : x.next < l.length) : itm (l ++ t) a = .inr x := by
  have hn := itm_next h
  unfold itm at h ⊢
  rw [get_app t (by omega)]
  cases hc : l[a]? with
  | none => rw [hc] at h; cases h
  | some c =>
    rw [hc] at h
    simp only at h ⊢
    rw [get_app t (by omega)]
    cases hk : l[a + 1]? with
    | none => rw [hk] at h; injection h with h; subst h; have := List.getElem?_eq_none_iff.1 hk; simp only at hx; omega
    | some k =>
      rw [hk] at h
      simp only at h ⊢
      split at h
      · next hc => rw [if_pos hc]; exact itmN_app t h
      · next hc => rw [if_neg hc]; exact h
theorem rng_app {a : Nat} (h : a + 1 < l.length) : rng (l ++ t) a = rng l a := by
  unfold rng; rw [get_app t (by omega), get_app t h]; congr 2; simp; omega
theorem rng_93 {l : List UInt8} {a : Nat} (h : l[a]? = some 93) : rng l a = false := by unfold rng; rw [h]; simp
theorem prt_app {a : Nat} {x : S4 × Nat} (h : prt l a = .inr x) (h1 : x.2 < l.length) (h2 : x.2 + 1 < l.length ∨ l[x.2]? = some 93) : prt (l ++ t) a = .inr x := by
  unfold prt at h ⊢
  cases hy : itm l a with
  | inl z => rw [hy] at h; cases h
  | inr y =>
    have hn := itm_next hy
    rw [hy] at h
    simp only at h
    by_cases hr : rng l y.next = true
    · have hr2 : y.next + 1 < l.length := by unfold rng at hr; simp at hr; exact hr.1.1
      rw [if_pos hr] at h
      rw [itm_app t hy (by omega)]
      simp only
      rw [rng_app t hr2, if_pos hr]
      cases hz : itm l (y.next + 1) with
      | inl z => rw [hz] at h; cases h
      | inr z =>
        rw [hz] at h
        have hzn : z.next < l.length := by
          simp only at h
          split at h
          · split at h
            · injection h with h; subst h; exact h1
            · cases h
          · cases h
        rw [itm_app t hz hzn]
        exact h
    · rw [if_neg hr] at h
      injection h with h; subst h
      have hr' : rng l y.next = false := by simpa using hr
      rw [itm_app t hy h1]
      simp only
      have : rng (l ++ t) y.next = false := by
        rcases h2 with h2 | h2
        · rw [rng_app t h2, hr']
        · exact rng_93 (by rw [get_app t h1]; exact h2)
      rw [this]; rfl
theorem lop_room {l : List UInt8} {n a : Nat} {o : S4} {y : S4 × Nat} (ho : o.fit) (h : lop l n a o = .inr y) : a < l.length ∧ (a + 1 < l.length ∨ l[a]? = some 93) := by
  have hn := lop_next ho h
  refine ⟨by omega, ?_⟩
  cases n with
  | zero => simp [lop] at h
  | succ n =>
    rw [lop] at h
    split at h
    · next hc => exact .inr hc
    · cases hp : prt l a with
      | inl z => rw [hp] at h; cases h
      | inr x =>
        rw [hp] at h
        have h1 := prt_next hp
        have h2 := lop_next (fit_or _ _) h
        exact .inl (by omega)
theorem lop_app : ∀ {n m a : Nat} {o : S4} {y : S4 × Nat}, n ≤ m → lop l n a o = .inr y → o.fit → lop (l ++ t) m a o = .inr y
  | 0, _, _, _, _, _, h, _ => by simp [lop] at h
  | n + 1, 0, _, _, _, hm, _, _ => by omega
  | n + 1, m + 1, a, o, y, hm, h, ho => by
    have hr := lop_room ho h
    rw [lop] at h ⊢
    rw [get_app t hr.1]
    split at h
    · next hc => rw [if_pos hc]; exact h
    · next hc =>
      rw [if_neg hc]
      cases hp : prt l a with
      | inl z => rw [hp] at h; cases h
      | inr x =>
        rw [hp] at h
        have h2 := lop_room (fit_or _ _) h
        rw [prt_app t hp h2.1 h2.2]
        exact lop_app (by omega) h (fit_or _ _)
theorem bod_app {a : Nat} {y : S4 × Nat} (h : bod l a = .inr y) : bod (l ++ t) a = .inr y := by
  unfold bod at h ⊢
  cases hp : prt l a with
  | inl z => rw [hp] at h; cases h
  | inr x =>
    rw [hp] at h
    have hf := (prt_next hp).2.2
    have h2 := lop_room hf h
    rw [prt_app t hp h2.1 h2.2]
    exact lop_app t (by simp) h hf
theorem prs_app {a : Nat} {y : S4 × Nat} (h : prs l a = .inr y) : prs (l ++ t) a = .inr y := by
  have ha : a < l.length := by
    by_cases ha : a < l.length
    · exact ha
    · have hn : l[a]? = none := List.getElem?_eq_none (by omega)
      rw [prs_f (by rw [hn]; simp)] at h
      unfold bod prt itm at h
      rw [hn] at h
      simp [ends] at h
  by_cases hc : l[a]? = some 94
  · rw [prs_t hc] at h
    rw [prs_t (by rw [get_app t ha]; exact hc)]
    cases hb : bod l (a + 1) with
    | inl z => rw [hb] at h; cases h
    | inr x => rw [hb] at h; rw [bod_app t hb]; exact h
  · rw [prs_f hc] at h
    rw [prs_f (by rw [get_app t ha]; exact hc)]
    cases hb : bod l a with
    | inl z => rw [hb] at h; cases h
    | inr x => rw [hb] at h; rw [bod_app t hb]; exact h
end

/-- A text that begins with no ^, behind ^. -/
theorem prs_not {l : List UInt8} (h : l[0]? ≠ some 94) : prs (94 :: l) 0 = (match prs l 0 with | .inl z => .inl (z.1, z.2 + 1) | .inr y => .inr (y.1.not, y.2 + 1)) := by
  rw [prs_t rfl, prs_f h]
  have := bod_sh [94] l 0
  simp only [List.singleton_append, List.length_singleton, Nat.add_zero] at this
  rw [show 0 + 1 = 1 from rfl, this]
  cases bod l 0 with
  | inl z => simp [ends, shP, shE, Nat.add_comm]
  | inr y => simp [ends, shP, Nat.add_comm, Nat.add_left_comm]
/-- What stands ahead, or behind, changes nothing. -/
theorem prs_amid {p s t : List UInt8} {y : S4 × Nat} (h : prs s 0 = .inr y) : prs (p ++ s ++ t) p.length = .inr (y.1, p.length + y.2) := by
  have h1 := prs_app t h
  have h2 := prs_sh p (s ++ t) 0
  rw [Nat.add_zero, h1, ← List.append_assoc] at h2
  exact h2

/-! ### Single bytes, each between [. and .] -/
theorem itm_kind' {l : List UInt8} {a : Nat} {k : UInt8} (h0 : a + 1 < l.length) (h : l[a]? = some 91) (hk : l[a + 1]? = some k) (h2 : isKind k = true) : itm l a = itmN l a k := by
  unfold itm
  rw [h]; simp only
  rw [hk]; simp only
  rw [if_pos (by simp [h2])]
def brk (b : UInt8) : List UInt8 := [91, 46, b, 46, 93]
def brks (l : List UInt8) : List UInt8 := l.flatMap brk
theorem brks_len (l : List UInt8) : (brks l).length = 5 * l.length := by
  induction l with
  | nil => rfl
  | cons b l ih => rw [brks, List.flatMap_cons, List.length_append, ← brks, ih]; simp [brk]; omega
theorem itm_brk (b : UInt8) (r : List UInt8) : itm (brk b ++ r) 0 = .inr ⟨spn b.toNat b.toNat, some b, 5⟩ := by
  rw [itm_kind' (l := brk b ++ r) (a := 0) (k := 46) (by simp [brk]) (by simp [brk]) (by simp [brk]) (by decide)]
  refine (itmN_one (e := 3) (c := b) (by decide) ?_ ?_).trans rfl
  · rw [fnd, if_pos (by simp [brk]), if_pos (by simp [brk])]
  · simp [nam, brk]
theorem prt_brk (b : UInt8) (r : List UInt8) (h : rng (brk b ++ r) 5 = false) : prt (brk b ++ r) 0 = .inr (spn b.toNat b.toNat, 5) := by
  unfold prt; rw [itm_brk]; simp only; rw [h]; rfl
theorem rng_brks (b : UInt8) (l : List UInt8) (t : List UInt8) : rng (brk b ++ (brks l ++ 93 :: t)) 5 = false := by
  cases l with
  | nil => exact rng_93 (by simp [brk, brks])
  | cons c l => unfold rng; simp [brk, brks]
theorem or_one {o : S4} (ho : o.fit) (b : UInt8) : o.or (spn b.toNat b.toNat) = o.put b.toNat := by
  have hb := b.toNat_lt
  refine S4.ext_has (fit_or _ _) (fit_put ho _) fun e he => ?_
  rw [has_or, has_spn _ _ _ (by omega) (by omega) he, has_put _ _ _ (by omega) he, Bool.or_comm]
  congr 1
  rw [Bool.eq_iff_iff]; simp; omega
theorem lop_brks (t : List UInt8) : ∀ (l p : List UInt8) (n : Nat) (o : S4), o.fit → l.length < n → lop (p ++ (brks l ++ 93 :: t)) n p.length o = .inr (o.puts l, p.length + 5 * l.length)
  | [], p, n, o, _, hn => by
    obtain ⟨n, rfl⟩ : ∃ m, n = m + 1 := ⟨n - 1, by simp at hn; omega⟩
    rw [lop, if_pos (by simp [brks])]; rfl
  | b :: l, p, n, o, ho, hn => by
    obtain ⟨n, rfl⟩ : ∃ m, n = m + 1 := ⟨n - 1, by simp at hn; omega⟩
    have hp := prt_sh p (brks (b :: l) ++ 93 :: t) 0
    rw [Nat.add_zero] at hp
    have e1 : brks (b :: l) ++ 93 :: t = brk b ++ (brks l ++ 93 :: t) := by simp [brks]
    rw [lop, if_neg (by simp [brks, brk]), hp, e1, prt_brk b _ (rng_brks b l t)]
    simp only [shP]
    have e2 : p ++ (brk b ++ (brks l ++ 93 :: t)) = (p ++ brk b) ++ (brks l ++ 93 :: t) := by simp
    have ih := lop_brks t l (p ++ brk b) n (o.put b.toNat) (fit_put ho _) (by simp at hn; omega)
    rw [show (p ++ brk b).length = p.length + 5 by simp [brk]] at ih
    rw [e2, or_one ho, ih]
    simp [S4.puts, List.length_cons]; omega
theorem bod_brks (p l : List UInt8) (h : l ≠ []) : bod (p ++ (brks l ++ [93])) p.length = .inr (S4.zero.puts l, p.length + 5 * l.length) := by
  cases l with
  | nil => exact absurd rfl h
  | cons b l =>
    have e1 : brks (b :: l) ++ [93] = brk b ++ (brks l ++ [93]) := by simp [brks]
    have hp := prt_sh p (brk b ++ (brks l ++ [93])) 0
    rw [Nat.add_zero, prt_brk b _ (rng_brks b l [])] at hp
    unfold bod
    rw [e1, hp]
    simp only [shP]
    have e2 : p ++ (brk b ++ (brks l ++ [93])) = (p ++ brk b) ++ (brks l ++ [93]) := by simp
    have ih := lop_brks [] l (p ++ brk b) ((p ++ (brk b ++ (brks l ++ [93]))).length + 1) (spn b.toNat b.toNat) (fit_spn _ _) (by have := brks_len l; simp [brk]; omega)
    rw [show (p ++ brk b).length = p.length + 5 by simp [brk]] at ih
    rw [← zero_or (fit_spn b.toNat b.toNat), or_one fit_zero] at ih
    rw [e2] at ih ⊢
    rw [← zero_or (fit_spn b.toNat b.toNat), or_one fit_zero, ih]
    simp [S4.puts, List.length_cons]; omega
theorem prs_brks (l : List UInt8) (h : l ≠ []) : prs (brks l ++ [93]) 0 = .inr (S4.zero.puts l, 5 * l.length + 1) := by
  rw [prs_f (by cases l with | nil => exact absurd rfl h | cons b l => simp [brks, brk])]
  have := bod_brks [] l h
  simp only [List.nil_append, List.length_nil, Nat.zero_add] at this
  rw [this]; rfl
theorem prs_nbrks (l : List UInt8) (h : l ≠ []) : prs (94 :: (brks l ++ [93])) 0 = .inr ((S4.zero.puts l).not, 5 * l.length + 2) := by
  rw [prs_not (by cases l with | nil => exact absurd rfl h | cons b l => simp [brks, brk]), prs_brks l h]
/-- Two of them, with a - between. -/
theorem prs_two (a b : UInt8) : prs (brk a ++ (45 :: (brk b ++ [93]))) 0 = if a.toNat ≤ b.toNat then .inr (spn a.toNat b.toNat, 12) else .inl (1, 0) := by
  rw [prs_f (by simp [brk])]
  have h2 : itm (brk a ++ (45 :: (brk b ++ [93]))) 6 = .inr ⟨spn b.toNat b.toNat, some b, 11⟩ := by
    have := itm_sh (brk a ++ [45]) (brk b ++ [93]) 0
    rw [itm_brk] at this
    simpa [brk, shI] using this
  unfold bod prt
  rw [itm_brk]
  simp only
  rw [if_pos (by simp [rng, brk]), h2]
  simp only
  by_cases hab : a.toNat ≤ b.toNat
  · rw [if_pos hab, if_pos hab]
    simp only
    rw [lop, if_pos (by simp [brk])]; rfl
  · rw [if_neg hab, if_neg hab]; rfl

end Go.Proofs.YtpcpmjaphjkphaaDoor

/-
  Bracket expressions in plain words: an error is never 0; how far Parse goes. No walk.
-/
namespace Go.Proofs.YtpcpmjaphjkphaaDoor
open Go.RowKit

theorem prt_err {l : List UInt8} {a : Nat} {z : Int × Nat} (h : prt l a = .inl z) : z.1 ≠ 0 := by
  unfold prt at h
  split at h
  · next e he => injection h with h; subst h; exact itm_err he
  · split at h
    · split at h
      · next e he => injection h with h; subst h; exact itm_err he
      · split at h
        · split at h
          · cases h
          · injection h with h; subst h; simp
        · injection h with h; subst h; simp
    · cases h
theorem lop_err {l : List UInt8} : ∀ {n a : Nat} {o : S4} {z : Int × Nat}, a ≤ l.length → l.length < n + a → lop l n a o = .inl z → z.1 ≠ 0
  | 0, a, _, _, h, h', _ => by omega
  | n + 1, a, o, z, h, h', hz => by
    rw [lop] at hz
    split at hz
    · cases hz
    · cases hp : prt l a with
      | inl y => rw [hp] at hz; injection hz with hz; subst hz; exact prt_err hp
      | inr x => rw [hp] at hz; have := prt_next hp; exact lop_err this.2.1 (by omega) hz
theorem prs_err {l : List UInt8} {a : Nat} {z : Int × Nat} (h : prs l a = .inl z) : z.1 ≠ 0 := by
  have key : ∀ b d, ends d (bod l b) = .inl z → z.1 ≠ 0 := by
    intro b d hb
    unfold bod at hb
    cases hp : prt l b with
    | inl y => rw [hp] at hb; injection hb with hb; subst hb; exact prt_err hp
    | inr x =>
      rw [hp] at hb
      simp only at hb
      cases hq : lop l (l.length + 1) x.2 x.1 with
      | inl y => rw [hq] at hb; injection hb with hb; subst hb; have := prt_next hp; exact lop_err this.2.1 (by omega) hq
      | inr y => rw [hq] at hb; cases hb
  by_cases hc : l[a]? = some 94
  · rw [prs_t hc] at h; exact key _ _ h
  · rw [prs_f hc] at h; exact key _ _ h
theorem prs_in {l : List UInt8} {a : Nat} {y : S4 × Nat} (h : prs l a = .inr y) : y.1.fit ∧ a < y.2 ∧ y.2 ≤ l.length := by
  have key : ∀ b d, ends d (bod l b) = .inr y → y.1.fit ∧ b < y.2 ∧ y.2 ≤ l.length := by
    intro b d hb
    unfold bod at hb
    cases hp : prt l b with
    | inl z => rw [hp] at hb; cases hb
    | inr x =>
      rw [hp] at hb
      simp only at hb
      cases hq : lop l (l.length + 1) x.2 x.1 with
      | inl z => rw [hq] at hb; cases hb
      | inr z =>
        rw [hq] at hb; injection hb with hb; subst hb
        have h1 := prt_next hp
        have h2 := lop_next h1.2.2 hq
        refine ⟨?_, by simp only; omega, by simp only; omega⟩
        cases d
        · exact h2.2.2
        · exact fit_not _
  by_cases hc : l[a]? = some 94
  · rw [prs_t hc] at h; have := key _ _ h; exact ⟨this.1, by omega, this.2.2⟩
  · rw [prs_f hc] at h; exact key _ _ h
end Go.Proofs.YtpcpmjaphjkphaaDoor

/-
  A basic regex in plain words: the state stays sane, the place goes on, a tree is no larger than what was read. No walk.
-/
namespace Go.Proofs.YtpcpmjaphjkphaaDoor
open Go.RowKit

def KeptZ (l : List UInt8) (c : Nat) (f : RxS → Out Nd) : Prop := ∀ s, Sane l s → ∀ t s', f s = .inr (t, s') → Sane l s' ∧ s.at_ ≤ s'.at_ ∧ t.size + s.at_ ≤ s'.at_ + c
theorem KeptZ.kept {l : List UInt8} {c : Nat} {f : RxS → Out Nd} (h : KeptZ l c f) : KeptS l f := fun s hs t s' e => ⟨(h s hs t s' e).1, (h s hs t s' e).2.1⟩

section
variable {l : List UInt8} {s : RxS} (hs : Sane l s)
include hs
theorem Sane.go {n : Nat} (h : s.at_ + n ≤ l.length) : Sane l (s.go n) :=
  ⟨h, Nat.le_trans hs.mr (Nat.le_add_right _ _), Nat.le_trans hs.cl (Nat.le_add_right _ _), Nat.le_trans hs.op (Nat.le_add_right _ _)⟩
theorem Sane.to {n : Nat} (h : s.at_ ≤ n) (h' : n ≤ l.length) : Sane l (s.to n) :=
  ⟨h', Nat.le_trans hs.mr h, Nat.le_trans hs.cl h, Nat.le_trans hs.op h⟩
theorem Sane.markgo {n : Nat} (t : List UInt8) (hn : 1 ≤ n) (h : s.at_ + n ≤ l.length) : Sane l ((s.mark t).go n) :=
  ⟨h, by have := hs.mr; show (s.marks ++ [_]).length ≤ s.at_ + n; simp; omega, Nat.le_trans hs.cl (Nat.le_add_right _ _), Nat.le_trans hs.op (Nat.le_add_right _ _)⟩
end

theorem repS_kept {l : List UInt8} : ∀ (n : Nat) (s : RxS) (t : Nd) (t' : Nd) (s' : RxS), Sane l s → repS prg l n s t = .inr (t', s') → Sane l s' ∧ s.at_ ≤ s'.at_ ∧ t'.size + s.at_ ≤ s'.at_ + t.size
  | 0, s, t, t', s', hs, h => by
    rw [repS] at h; injection h with h; injection h with h1 h2; subst h1; subst h2; exact ⟨hs, Nat.le_refl _, by omega⟩
  | n + 1, s, t, t', s', hs, h => by
    have hz : ∀ a b, (prg.rep t a b).size = 1 + t.size := fun _ _ => rfl
    cases e1 : ahd l s.at_ [92, 43] with
    | true =>
      rw [repS_plus e1] at h
      have hle := ahd_le e1 (by decide)
      simp only [List.length_cons, List.length_nil] at hle
      obtain ⟨k1, k2, k3⟩ := repS_kept n _ _ _ _ (hs.markgo _ (by omega) hle) h
      rw [hz] at k3
      refine ⟨k1, ?_, ?_⟩
      · have : s.at_ + 2 ≤ s'.at_ := k2; omega
      · have : 1 + 0 + t'.size + (s.at_ + 2) ≤ 1 + 0 + s'.at_ + (1 + t.size) := by have : t'.size + (s.at_ + 2) ≤ s'.at_ + (1 + t.size) := k3; omega
        omega
    | false =>
      cases e2 : ahd l s.at_ [92, 63] with
      | true =>
        rw [repS_maybe e1 e2] at h
        have hle := ahd_le e2 (by decide)
        simp only [List.length_cons, List.length_nil] at hle
        obtain ⟨k1, k2, k3⟩ := repS_kept n _ _ _ _ (hs.markgo _ (by omega) hle) h
        rw [hz] at k3
        refine ⟨k1, ?_, ?_⟩
        · have : s.at_ + 2 ≤ s'.at_ := k2; omega
        · have : t'.size + (s.at_ + 2) ≤ s'.at_ + (1 + t.size) := k3; omega
      | false =>
        cases e3 : ahd l s.at_ [92, 123] with
        | true =>
          have hle := ahd_le e3 (by decide)
          simp only [List.length_cons, List.length_nil] at hle
          cases e4 : itvB l (s.at_ + 2) with
          | none => rw [repS_bad e1 e2 e3 e4] at h; cases h
          | some q =>
            obtain ⟨m, x, k⟩ := q
            rw [repS_bound e1 e2 e3 e4] at h
            obtain ⟨g1, g2, _⟩ := itvB_le (by omega) e4
            obtain ⟨k1, k2, k3⟩ := repS_kept n _ _ _ _ (hs.to (by omega) g2) h
            rw [hz] at k3
            refine ⟨k1, ?_, ?_⟩
            · have : k ≤ s'.at_ := k2; omega
            · have : t'.size + k ≤ s'.at_ + (1 + t.size) := k3; omega
        | false =>
          cases e4 : ahd l s.at_ [42] with
          | true =>
            have hle := ahd_le e4 (by decide)
            simp only [List.length_singleton] at hle
            rw [repS_star e1 e2 e3 e4] at h
            obtain ⟨k1, k2, k3⟩ := repS_kept n _ _ _ _ (hs.go hle) h
            rw [hz] at k3
            refine ⟨k1, ?_, ?_⟩
            · have : s.at_ + 1 ≤ s'.at_ := k2; omega
            · have : t'.size + (s.at_ + 1) ≤ s'.at_ + (1 + t.size) := k3; omega
          | false =>
            rw [repS_end e1 e2 e3 e4] at h
            injection h with h; injection h with h1 h2; subst h1; subst h2; exact ⟨hs, Nat.le_refl _, by omega⟩

theorem groupS_kept {l : List UInt8} {C : Option (RxS → Out Nd)} (hC : ∀ f, C = some f → KeptZ l 2 f) {p : Nat} {s s' : RxS} {t : Nd} (hs : Sane l s) (h1 : s.opened < s.at_) (h : groupS prg l C p s = .inr (t, s')) :
    Sane l s' ∧ s.at_ + 2 ≤ s'.at_ ∧ t.size + s.at_ ≤ s'.at_ + 1 := by
  cases C with
  | none => cases h
  | some f =>
    unfold groupS at h
    simp only at h
    cases hf : f { s with opened := s.opened + 1 } with
    | inl e => rw [hf] at h; cases h
    | inr z =>
      obtain ⟨t1, s1⟩ := z
      rw [hf] at h
      simp only at h
      obtain ⟨k1, k2, k3⟩ := hC f rfl { s with opened := s.opened + 1 } ⟨hs.le, hs.mr, hs.cl, h1⟩ t1 s1 hf
      have k2 : s.at_ ≤ s1.at_ := k2
      have k3 : t1.size + s.at_ ≤ s1.at_ + 2 := k3
      split at h
      · next ha =>
        have hle := ahd_le ha (by decide)
        simp only [List.length_cons, List.length_nil] at hle
        injection h with h; injection h with h2 h3; subst h2; subst h3
        refine ⟨⟨hle, Nat.le_trans k1.mr (Nat.le_add_right _ _), ?_, ?_⟩, ?_, ?_⟩
        · show (s1.closed ++ [_]).length ≤ s1.at_ + 2
          have := k1.cl; simp; omega
        · exact Nat.le_trans k1.op (Nat.le_add_right _ _)
        · show s.at_ + 2 ≤ s1.at_ + 2; omega
        · show (1 + t1.size) + s.at_ ≤ s1.at_ + 2 + 1; omega
      · cases h

theorem escS_kept {l : List UInt8} {C : Option (RxS → Out Nd)} (hC : ∀ f, C = some f → KeptZ l 2 f) {s s' : RxS} {t : Nd} (hs : Sane l s) (h : escS prg l C s = .inr (t, s')) :
    Sane l s' ∧ s.at_ < s'.at_ ∧ t.size + s.at_ ≤ s'.at_ := by
  by_cases hl : s.at_ + 1 < l.length
  · rw [escS_in hl] at h
    split at h
    · next ha =>
      have := hs.op
      obtain ⟨k1, k2, k3⟩ := groupS_kept hC (hs.go (n := 2) (by omega)) (by show s.opened < s.at_ + 2; omega) h
      have k2 : s.at_ + 2 + 2 ≤ s'.at_ := k2
      have k3 : t.size + (s.at_ + 2) ≤ s'.at_ + 1 := k3
      exact ⟨k1, by omega, by omega⟩
    · split at h
      · cases h
      · split at h
        · split at h
          · injection h with h; injection h with h2 h3; subst h2; subst h3
            exact ⟨hs.go (by omega), by show s.at_ < s.at_ + 2; omega, by show 1 + s.at_ ≤ s.at_ + 2; omega⟩
          · cases h
        · split at h
          · injection h with h; injection h with h2 h3; subst h2; subst h3
            split
            · exact ⟨hs.markgo _ (by omega) (by omega), by show s.at_ < s.at_ + 2; omega, by show 1 + s.at_ ≤ s.at_ + 2; omega⟩
            · exact ⟨hs.go (by omega), by show s.at_ < s.at_ + 2; omega, by show 1 + s.at_ ≤ s.at_ + 2; omega⟩
          · cases h
  · rw [escS_tail (by omega)] at h; cases h

theorem atomS_kept {l : List UInt8} {C : Option (RxS → Out Nd)} (hC : ∀ f, C = some f → KeptZ l 2 f) {s s' : RxS} {t : Nd} {b : UInt8} (hs : Sane l s) (ha : s.at_ < l.length) (h : atomS prg l C s b = .inr (t, s')) :
    Sane l s' ∧ s.at_ < s'.at_ ∧ t.size + s.at_ ≤ s'.at_ := by
  unfold atomS at h
  split at h
  · exact escS_kept hC hs h
  · split at h
    · cases hp : prs l (s.at_ + 1) with
      | inl z => rw [hp] at h; cases h
      | inr y =>
        obtain ⟨c, k⟩ := y
        rw [hp] at h
        injection h with h; injection h with h2 h3; subst h2; subst h3
        obtain ⟨p1, p2, p3⟩ := prs_in hp
        have p2 : s.at_ + 1 < k := p2
        have p3 : k ≤ l.length := p3
        exact ⟨hs.to (by omega) p3, by show s.at_ < k; omega, by show 1 + s.at_ ≤ k; omega⟩
    · split at h
      · injection h with h; injection h with h2 h3; subst h2; subst h3
        exact ⟨hs.go (by omega), by show s.at_ < s.at_ + 1; omega, by show 1 + s.at_ ≤ s.at_ + 1; omega⟩
      · injection h with h; injection h with h2 h3; subst h2; subst h3
        exact ⟨hs.go (by omega), by show s.at_ < s.at_ + 1; omega, by show 1 + s.at_ ≤ s.at_ + 1; omega⟩

theorem only_size {l : List Nd} {n : Nd} {k : Nat} (h1 : 1 ≤ k) (h2 : Nd.sizes l ≤ k) (h3 : n.size ≤ k) : (onlyOf l n).size ≤ k := by
  match l, h2 with
  | [], _ => exact h1
  | [x], h2 => simpa [onlyOf, Nd.sizes] using h2
  | _ :: _ :: _, _ => exact h3
theorem joined_le (l : List Nd) : (joined l).size ≤ Nd.sizes l + 1 :=
  have h := parts_sizes l
  only_size (by omega) (by omega) (by show 1 + Nd.sizes (parts l) ≤ _; omega)
theorem chosen_le (l : List Nd) : (chosen l).size ≤ Nd.sizes l + 1 :=
  have h := arms_sizes l
  only_size (by omega) (by omega) (by show 1 + Nd.sizes (arms l) ≤ _; omega)

/-- One round of a branch. -/
def rndS (l : List UInt8) (C : Option (RxS → Out Nd)) (s : RxS) (b : UInt8) : Out Nd :=
  match atomS prg l C s b with
  | .inl e => .inl e
  | .inr (t, s1) => repS prg l (l.length + 1) s1 t
theorem rndS_kept {l : List UInt8} {C : Option (RxS → Out Nd)} (hC : ∀ f, C = some f → KeptZ l 2 f) {s s' : RxS} {t : Nd} {b : UInt8} (hs : Sane l s) (ha : s.at_ < l.length) (h : rndS l C s b = .inr (t, s')) :
    Sane l s' ∧ s.at_ < s'.at_ ∧ t.size + s.at_ ≤ s'.at_ := by
  unfold rndS at h
  cases hp : atomS prg l C s b with
  | inl z => rw [hp] at h; cases h
  | inr y =>
    obtain ⟨t1, s1⟩ := y
    rw [hp] at h
    simp only at h
    obtain ⟨k1, k2, k3⟩ := atomS_kept hC hs ha hp
    obtain ⟨j1, j2, j3⟩ := repS_kept _ _ _ _ _ k1 h
    exact ⟨j1, by omega, by omega⟩

section
variable {l : List UInt8} {C : Option (RxS → Out Nd)} {inner front : Bool} {n : Nat} {s : RxS} {ps : List Nd}
theorem brS_over (h : l.length ≤ s.at_) : brS prg l C inner (n + 1) front s ps = .inr (joined ps, s) := by
  rw [brS, List.getElem?_eq_none h]; rfl
theorem brS_stop (h : s.at_ < l.length) (h1 : (ahd l s.at_ [92, 124] || (inner && ahd l s.at_ [92, 41])) = true) : brS prg l C inner (n + 1) front s ps = .inr (joined ps, s) := by
  rw [brS, List.getElem?_eq_getElem h]; simp only; rw [if_pos h1]; rfl
theorem brS_bad (h : s.at_ < l.length) (h1 : (ahd l s.at_ [92, 124] || (inner && ahd l s.at_ [92, 41])) = false) (h2 : (front && (ahd l s.at_ [92, 123] || (ahd l s.at_ [92, 43] || ahd l s.at_ [92, 63]))) = true) :
    brS prg l C inner (n + 1) front s ps = .inl (10, s.at_) := by
  rw [brS, List.getElem?_eq_getElem h]; simp only; rw [if_neg (by rw [h1]; decide), if_pos h2]
theorem brS_fin (h : s.at_ < l.length) (h1 : (ahd l s.at_ [92, 124] || (inner && ahd l s.at_ [92, 41])) = false) (h2 : (front && (ahd l s.at_ [92, 123] || (ahd l s.at_ [92, 43] || ahd l s.at_ [92, 63]))) = false) (h3 : (ahd l s.at_ [36] && lastS l s.at_) = true) :
    brS prg l C inner (n + 1) front s ps = brS prg l C inner n false (s.go 1) (ps ++ [.fin]) := by
  rw [brS, List.getElem?_eq_getElem h]; simp only; rw [if_neg (by rw [h1]; decide), if_neg (by rw [h2]; decide), if_pos h3]; rfl
theorem brS_go (h : s.at_ < l.length) (h1 : (ahd l s.at_ [92, 124] || (inner && ahd l s.at_ [92, 41])) = false) (h2 : (front && (ahd l s.at_ [92, 123] || (ahd l s.at_ [92, 43] || ahd l s.at_ [92, 63]))) = false) (h3 : (ahd l s.at_ [36] && lastS l s.at_) = false) :
    brS prg l C inner (n + 1) front s ps = match rndS l C s l[s.at_] with | .inl e => .inl e | .inr (t, s2) => brS prg l C inner n false s2 (ps ++ [t]) := by
  rw [brS, List.getElem?_eq_getElem h]; simp only; rw [if_neg (by rw [h1]; decide), if_neg (by rw [h2]; decide), if_neg (by rw [h3]; decide)]
  unfold rndS
  cases atomS prg l C s l[s.at_] with
  | inl e => rfl
  | inr z => obtain ⟨t, s1⟩ := z; simp only; cases repS prg l (l.length + 1) s1 t <;> rfl
end

theorem brS_kept {l : List UInt8} {C : Option (RxS → Out Nd)} (hC : ∀ f, C = some f → KeptZ l 2 f) {inner : Bool} : ∀ (n : Nat) (front : Bool) (s : RxS) (ps : List Nd) (t : Nd) (s' : RxS), Sane l s → brS prg l C inner n front s ps = .inr (t, s') →
    Sane l s' ∧ s.at_ ≤ s'.at_ ∧ t.size + s.at_ ≤ s'.at_ + Nd.sizes ps + 1
  | 0, front, s, ps, t, s', hs, h => by
    rw [brS] at h; injection h with h; injection h with h1 h2; subst h1; subst h2
    have := joined_le ps
    exact ⟨hs, Nat.le_refl _, by show (joined ps).size + s.at_ ≤ _; omega⟩
  | n + 1, front, s, ps, t, s', hs, h => by
    have hj := joined_le ps
    by_cases hl : s.at_ < l.length
    · cases h1 : (ahd l s.at_ [92, 124] || (inner && ahd l s.at_ [92, 41])) with
      | true =>
        rw [brS_stop hl h1] at h; injection h with h; injection h with h1 h2; subst h1; subst h2
        exact ⟨hs, Nat.le_refl _, by omega⟩
      | false =>
        cases h2 : (front && (ahd l s.at_ [92, 123] || (ahd l s.at_ [92, 43] || ahd l s.at_ [92, 63]))) with
        | true => rw [brS_bad hl h1 h2] at h; cases h
        | false =>
          cases h3 : (ahd l s.at_ [36] && lastS l s.at_) with
          | true =>
            rw [brS_fin hl h1 h2 h3] at h
            obtain ⟨k1, k2, k3⟩ := brS_kept hC n _ _ _ _ _ (hs.go (n := 1) (by omega)) h
            rw [Nd.sizes_append] at k3
            have k2 : s.at_ + 1 ≤ s'.at_ := k2
            have k3 : t.size + (s.at_ + 1) ≤ s'.at_ + (Nd.sizes ps + (1 + 0)) + 1 := k3
            exact ⟨k1, by omega, by omega⟩
          | false =>
            rw [brS_go hl h1 h2 h3] at h
            cases hr : rndS l C s l[s.at_] with
            | inl e => rw [hr] at h; cases h
            | inr z =>
              obtain ⟨t1, s1⟩ := z
              rw [hr] at h
              simp only at h
              obtain ⟨r1, r2, r3⟩ := rndS_kept hC hs hl hr
              obtain ⟨k1, k2, k3⟩ := brS_kept hC n _ _ _ _ _ r1 h
              rw [Nd.sizes_append] at k3
              have k3 : t.size + s1.at_ ≤ s'.at_ + (Nd.sizes ps + (t1.size + 0)) + 1 := k3
              exact ⟨k1, by omega, by omega⟩
    · rw [brS_over (by omega)] at h; injection h with h; injection h with h1 h2; subst h1; subst h2
      exact ⟨hs, Nat.le_refl _, by omega⟩

theorem branchS_kept {l : List UInt8} {C : Option (RxS → Out Nd)} (hC : ∀ f, C = some f → KeptZ l 2 f) {inner : Bool} : KeptZ l 1 (branchS prg l C inner) := by
  intro s hs t s' h
  unfold branchS at h
  split at h
  · next ha =>
    have hle := ahd_le ha (by decide)
    simp only [List.length_singleton] at hle
    obtain ⟨k1, k2, k3⟩ := brS_kept hC _ _ _ _ _ _ (hs.go hle) h
    have k2 : s.at_ + 1 ≤ s'.at_ := k2
    have k3 : t.size + (s.at_ + 1) ≤ s'.at_ + (1 + 0) + 1 := k3
    exact ⟨k1, by omega, by omega⟩
  · obtain ⟨k1, k2, k3⟩ := brS_kept hC _ _ _ _ _ _ hs h
    have k3 : t.size + s.at_ ≤ s'.at_ + 0 + 1 := k3
    exact ⟨k1, by omega, by omega⟩

theorem chLoop_kept {l : List UInt8} {C : Option (RxS → Out Nd)} (hC : ∀ f, C = some f → KeptZ l 2 f) {inner : Bool} : ∀ (n : Nat) (s : RxS) (ts : List Nd) (t : Nd) (s' : RxS), Sane l s → chLoop prg l C inner n s ts = .inr (t, s') →
    Sane l s' ∧ s.at_ ≤ s'.at_ ∧ t.size + s.at_ ≤ s'.at_ + Nd.sizes ts + 1
  | 0, s, ts, t, s', hs, h => by
    rw [chLoop] at h; injection h with h; injection h with h1 h2; subst h1; subst h2
    have := chosen_le ts
    exact ⟨hs, Nat.le_refl _, by show (chosen ts).size + s.at_ ≤ _; omega⟩
  | n + 1, s, ts, t, s', hs, h => by
    rw [chLoop] at h
    split at h
    · next ha =>
      have hle := ahd_le ha (by decide)
      simp only [List.length_cons, List.length_nil] at hle
      cases hb : branchS prg l C inner ((s.mark [92, 124]).go 2) with
      | inl e => rw [hb] at h; cases h
      | inr z =>
        obtain ⟨t1, s1⟩ := z
        rw [hb] at h
        simp only at h
        obtain ⟨r1, r2, r3⟩ := branchS_kept hC _ (hs.markgo [92, 124] (n := 2) (by omega) hle) _ _ hb
        obtain ⟨k1, k2, k3⟩ := chLoop_kept hC n _ _ _ _ r1 h
        rw [Nd.sizes_append] at k3
        have r2 : s.at_ + 2 ≤ s1.at_ := r2
        have r3 : t1.size + (s.at_ + 2) ≤ s1.at_ + 1 := r3
        have k3 : t.size + s1.at_ ≤ s'.at_ + (Nd.sizes ts + (t1.size + 0)) + 1 := k3
        exact ⟨k1, by omega, by omega⟩
    · injection h with h; injection h with h1 h2; subst h1; subst h2
      have := chosen_le ts
      exact ⟨hs, Nat.le_refl _, by show (chosen ts).size + s.at_ ≤ _; omega⟩

theorem choiceS_kept {l : List UInt8} {C : Option (RxS → Out Nd)} (hC : ∀ f, C = some f → KeptZ l 2 f) {inner : Bool} : KeptZ l 2 (choiceS prg l C inner) := by
  intro s hs t s' h
  unfold choiceS at h
  cases hb : branchS prg l C inner s with
  | inl e => rw [hb] at h; cases h
  | inr z =>
    obtain ⟨t1, s1⟩ := z
    rw [hb] at h
    simp only at h
    obtain ⟨r1, r2, r3⟩ := branchS_kept hC _ hs _ _ hb
    obtain ⟨k1, k2, k3⟩ := chLoop_kept hC _ _ _ _ _ r1 h
    have k3 : t.size + s1.at_ ≤ s'.at_ + (t1.size + 0) + 1 := k3
    exact ⟨k1, by omega, by omega⟩

theorem chS_kept {l : List UInt8} : ∀ n, KeptZ l 2 (chS prg l n)
  | 0 => by
    have : chS prg l 0 = choiceS prg l none true := by funext s; rw [chS]
    rw [this]; exact choiceS_kept (fun f hf => by cases hf)
  | n + 1 => by
    have : chS prg l (n + 1) = choiceS prg l (some (chS prg l n)) (decide (n + 1 < 12)) := by funext s; rw [chS]
    rw [this]; exact choiceS_kept (fun f hf => by injection hf with hf; subst hf; exact chS_kept n)
end Go.Proofs.YtpcpmjaphjkphaaDoor
