/-
  Merged texts of this claim: ShowW, ShowX, ShowY.
-/
import Derived.Test.YtlchaocpejfikaaGreatDoorM18
import Derived.Test.YtlchaocpejfikaaGreatDoorM19
import Derived.Test.YtlchaocpejfikaaGreatDoorM24

/-
  What a read tree is made of; its text is read as the tree. Plain.
-/
namespace Go.Proofs.YtlchaocpejfikaaGreatDoor
open Go.RowKit

/-! ### What a read tree is made of -/
mutual
/-- A tree that was read, so many levels being left. -/
def Nd.wft : Nd → Nat → Prop
  | .nil, _ => False
  | .one c, _ => c.fit
  | .cat l, m => 1 < l.length ∧ units l ∧ Nd.wfts l m
  | .alt l, m => 1 < l.length ∧ brns l ∧ Nd.wfts l m
  | .rep x a b, m => x.atom = true ∧ repOk true a b = true ∧ x.wft m
  | .group _ x, m => ∃ k, m = k + 1 ∧ x.wft k
  | .back n, _ => 1 ≤ n ∧ n ≤ 9
  | .empty, _ => True
  | .start, _ => True
  | .fin, _ => True
def Nd.wfts : List Nd → Nat → Prop
  | [], _ => True
  | x :: r, m => x.wft m ∧ Nd.wfts r m
end
theorem Nd.wfts_snoc {m : Nat} {t : Nd} (ht : t.wft m) : ∀ {l : List Nd}, Nd.wfts l m → Nd.wfts (l ++ [t]) m
  | [], _ => by rw [List.nil_append, Nd.wfts]; exact ⟨ht, by rw [Nd.wfts]; trivial⟩
  | x :: r, h => by rw [Nd.wfts] at h; rw [List.cons_append, Nd.wfts]; exact ⟨h.1, Nd.wfts_snoc ht h.2⟩
theorem joined_wft {ps : List Nd} {m : Nat} (hu : units ps) (h : Nd.wfts ps m) : (joined ps).wft m := by
  rw [joined_units hu]
  match ps, hu, h with
  | [], _, _ => show Nd.wft .empty m; rw [Nd.wft]; trivial
  | [x], _, h => rw [Nd.wfts] at h; exact h.1
  | x :: y :: r, hu, h => show Nd.wft (.cat (x :: y :: r)) m; rw [Nd.wft]; exact ⟨by simp, hu, h⟩
theorem chosen_wft {ts : List Nd} {m : Nat} (hu : brns ts) (h : Nd.wfts ts m) : (chosen ts).wft m := by
  rw [chosen_brns hu]
  match ts, hu, h with
  | [], _, _ => show Nd.wft .empty m; rw [Nd.wft]; trivial
  | [x], _, h => rw [Nd.wfts] at h; exact h.1
  | x :: y :: r, hu, h => show Nd.wft (.alt (x :: y :: r)) m; rw [Nd.wft]; exact ⟨by simp, hu, h⟩
theorem escB_fit {b : UInt8} {c : S4} {k : Bool} (h : escB b = some (c, k)) : c.fit := by
  have key : ∀ (x : S4) (y : Bool), x.fit → some (x, y) = some (c, k) → c.fit := fun x y hx e => by
    have h1 : x = c := congrArg Prod.fst (Option.some.inj e)
    rw [← h1]; exact hx
  unfold escB at h
  by_cases h1 : b = 110
  · rw [if_pos h1] at h; exact key _ _ (fit_spn _ _) h
  rw [if_neg h1] at h
  by_cases h2 : b = 116
  · rw [if_pos h2] at h; exact key _ _ (fit_spn _ _) h
  rw [if_neg h2] at h
  by_cases h3 : b = 119
  · rw [if_pos h3] at h; exact key _ _ (fit_or _ _) h
  rw [if_neg h3] at h
  by_cases h4 : b = 87
  · rw [if_pos h4] at h; exact key _ _ (fit_not _) h
  rw [if_neg h4] at h
  by_cases h5 : b = 115
  · rw [if_pos h5] at h; exact key _ _ (fit_clsSet _) h
  rw [if_neg h5] at h
  by_cases h6 : b = 83
  · rw [if_pos h6] at h; exact key _ _ (fit_not _) h
  rw [if_neg h6] at h
  by_cases h7 : punctS.has b.toNat = true
  · rw [if_pos h7] at h; exact key _ _ (fit_spn _ _) h
  rw [if_neg h7] at h
  exact absurd h (by simp)
theorem rep_wft {t : Nd} {a b : Int} {m : Nat} (ht : t.atom = true) (h : t.wft m) (hr : repOk true a b = true) : (Nd.rep t a b).wft m := by rw [Nd.wft]; exact ⟨ht, hr, h⟩
theorem repD_wft {ere : Bool} {l : List UInt8} {m : Nat} : ∀ (n : Nat) (s : RxS) (t t' : Nd) (s' : RxS), t.atom = true → t.wft m → repD prg ere l n s t = .inr (t', s') → t'.wft m ∧ t'.atom = true
  | 0, s, t, t', s', ht, hk, h => by
    rw [repD] at h; injection h with h; injection h with h1 h2; subst h1; subst h2; exact ⟨hk, ht⟩
  | n + 1, s, t, t', s', ht, hk, h => by
    rw [repD] at h
    split at h
    · exact repD_wft n _ _ _ _ rfl (rep_wft (a := 0) (b := -1) ht hk (by decide)) h
    · split at h
      · exact repD_wft n _ _ _ _ rfl (rep_wft (a := 1) (b := -1) ht hk (by decide)) h
      · split at h
        · exact repD_wft n _ _ _ _ rfl (rep_wft (a := 0) (b := 1) ht hk (by decide)) h
        · split at h
          · cases hi : ditv l ere (s.at_ + (opB ere 123).length) with
            | none => rw [hi] at h; cases h
            | some y =>
              obtain ⟨mn, x, j⟩ := y
              rw [hi] at h
              exact repD_wft n _ _ _ _ rfl (rep_wft (a := mn) (b := x) ht hk (ditv_ok hi)) h
          · injection h with h; injection h with h1 h2; subst h1; subst h2; exact ⟨hk, ht⟩
def Wfts (m : Nat) (f : RxS → Out Nd) : Prop := ∀ s t s', f s = .inr (t, s') → t.wft m
section
variable {ere : Bool} {l : List UInt8} {C : Option (RxS → Out Nd)} {m : Nat} (hC : ∀ f, C = some f → ∃ k, m = k + 1 ∧ Wfts k f)
include hC
theorem atomD_wft {s s' : RxS} {t : Nd} (h : atomD prg ere l C s = .inr (t, s')) : t.wft m ∧ t.atom = true := by
  unfold atomD at h
  split at h
  · unfold groupD at h
    cases C with
    | none => cases h
    | some f =>
      simp only at h
      cases hf : f { s.go (opB ere 40).length with opened := s.opened + 1 } with
      | inl e => rw [hf] at h; cases h
      | inr z =>
        obtain ⟨t1, s1⟩ := z
        rw [hf] at h
        simp only at h
        obtain ⟨k, hm, hk⟩ := hC f rfl
        have hk := hk _ _ _ hf
        split at h
        · injection h with h; injection h with h1 h2; subst h1; subst h2
          refine ⟨?_, rfl⟩
          show (Nd.group _ t1).wft m
          rw [Nd.wft]; exact ⟨k, hm, hk⟩
        · cases h
  · split at h
    · cases h
    · split at h
      · cases hp : prs l (s.at_ + 1) with
        | inl z => rw [hp] at h; cases h
        | inr y =>
          rw [hp] at h
          injection h with h; injection h with h2 h3; subst h2; subst h3
          exact ⟨by show (Nd.one y.1).wft m; rw [Nd.wft]; exact (prs_in hp).1, rfl⟩
      · split at h
        · injection h with h; injection h with h2 h3; subst h2; subst h3
          exact ⟨by show (Nd.one _).wft m; rw [Nd.wft]; exact fit_spn _ _, rfl⟩
        · split at h
          · cases h
          · split at h
            · cases h
            · injection h with h; injection h with h2 h3; subst h2; subst h3
              exact ⟨by show (Nd.one _).wft m; rw [Nd.wft]; exact fit_spn _ _, rfl⟩
            · next b r e =>
              unfold escD at h
              split at h
              · next hb =>
                split at h
                · next hc =>
                  injection h with h; injection h with h2 h3; subst h2; subst h3
                  refine ⟨?_, rfl⟩
                  show (Nd.back _).wft m
                  rw [Nd.wft]; omega
                · cases h
              · split at h
                · cases h
                · next c m' he =>
                  injection h with h; injection h with h2 h3; subst h2; subst h3
                  exact ⟨by show (Nd.one _).wft m; rw [Nd.wft]; exact escB_fit he, rfl⟩
theorem brD_wft {inner : Bool} : ∀ (n : Nat) (first front : Bool) (s : RxS) (ps : List Nd) (t : Nd) (s' : RxS), units ps → Nd.wfts ps m → brD prg ere l C inner n first front s ps = .inr (t, s') → t.wft m ∧ t.brn
  | 0, first, front, s, ps, t, s', hu, hk, h => by
    rw [brD] at h; injection h with h; injection h with h1 h2; subst h1; subst h2
    exact ⟨joined_wft hu hk, joined_brn hu⟩
  | n + 1, first, front, s, ps, t, s', hu, hk, h => by
    rw [brD] at h
    split at h
    · injection h with h; injection h with h1 h2; subst h1; subst h2
      exact ⟨joined_wft hu hk, joined_brn hu⟩
    · split at h
      · exact brD_wft n _ _ _ _ _ _ (hu.snoc rfl) (Nd.wfts_snoc (t := .start) (by rw [Nd.wft]; trivial) hk) h
      · split at h
        · exact brD_wft n _ _ _ _ _ _ (hu.snoc rfl) (Nd.wfts_snoc (t := .fin) (by rw [Nd.wft]; trivial) hk) h
        · split at h
          · cases h
          · split at h
            · cases h
            · next t1 s1 e1 =>
              split at h
              · cases h
              · next t2 s2 e2 =>
                obtain ⟨a1, a2⟩ := atomD_wft hC e1
                obtain ⟨b1, b2⟩ := repD_wft _ _ _ _ _ a2 a1 e2
                exact brD_wft n _ _ _ _ _ _ (hu.snoc (atom_unit b2)) (Nd.wfts_snoc b1 hk) h
theorem loopD_wft {inner : Bool} : ∀ (n : Nat) (s : RxS) (ts : List Nd) (t : Nd) (s' : RxS), brns ts → Nd.wfts ts m → chLoopD prg ere l C inner n s ts = .inr (t, s') → t.wft m
  | 0, s, ts, t, s', hu, hk, h => by
    rw [chLoopD] at h; injection h with h; injection h with h1 h2; subst h1; subst h2
    exact chosen_wft hu hk
  | n + 1, s, ts, t, s', hu, hk, h => by
    rw [chLoopD] at h
    split at h
    · split at h
      · cases h
      · next t1 s1 e1 =>
        obtain ⟨a1, a2⟩ := brD_wft hC _ _ _ _ _ _ _ (fun x hx => by cases hx) (by rw [Nd.wfts]; trivial) e1
        exact loopD_wft n _ _ _ _ (hu.snoc a2) (Nd.wfts_snoc a1 hk) h
    · injection h with h; injection h with h1 h2; subst h1; subst h2
      exact chosen_wft hu hk
theorem choiceD_wft {inner : Bool} : Wfts m (choiceD prg ere l C inner) := by
  intro s t s' h
  unfold choiceD at h
  split at h
  · cases h
  · next t1 s1 e1 =>
    obtain ⟨a1, a2⟩ := brD_wft hC _ _ _ _ _ _ _ (fun x hx => by cases hx) (by rw [Nd.wfts]; trivial) e1
    exact loopD_wft hC _ _ _ _ _ (fun x hx => by rw [List.mem_singleton.1 hx]; exact a2) (by rw [Nd.wfts]; exact ⟨a1, by rw [Nd.wfts]; trivial⟩) h
end
theorem chD_wft {ere : Bool} {l : List UInt8} : ∀ n, Wfts n (chD prg ere l n)
  | 0 => by rw [chD]; exact choiceD_wft (fun f hf => by cases hf)
  | n + 1 => by rw [chD]; exact choiceD_wft (fun f hf => by injection hf with hf; subst hf; exact ⟨n, rfl, chD_wft n⟩)
theorem parseD_wft {ere : Bool} {l : List UInt8} {t : Nd} {s : RxS} (h : parseD prg ere l = .inr (t, s)) : t.wft 12 := by
  unfold parseD at h
  split at h
  · cases h
  · exact chD_wft 12 _ _ _ h
theorem parseD_look {ere : Bool} {l : List UInt8} {t : Nd} {s : RxS} (h : parseD prg ere l = .inr (t, s)) : t.look 0 [] = some ((s.opened : Int), ci s.closed) := by
  unfold parseD at h
  split at h
  · cases h
  · exact chD_look 12 _ _ _ h

/-! ### Places in a text -/
structure AtD (l : List UInt8) (s : RxS) (D : List UInt8) : Prop where
  dr : l.drop s.at_ = D
  le : s.at_ ≤ l.length
section
variable {l D x : List UInt8} {s : RxS}
theorem AtD.sgn (h : AtD l s D) : Go.Proofs.YtlchaocpejfikaaGreatDoor.sgn l s.at_ = sg1 D := sgn_drop h.dr
theorem AtD.len (h : AtD l s D) : D.length + s.at_ = l.length := by
  have h1 := congrArg List.length h.dr
  have := h.le
  rw [List.length_drop] at h1
  omega
theorem AtD.go (h : AtD l s (x ++ D)) {n : Nat} (hn : n = x.length) : AtD l (s.go n) D := by
  subst hn
  have hl := h.len
  rw [List.length_append] at hl
  refine ⟨?_, by show s.at_ + _ ≤ _; omega⟩
  show l.drop (s.at_ + _) = _
  rw [← List.drop_drop, h.dr, List.drop_left' rfl]
end

/-! ### How often -/
theorem dec_dg : ∀ n : Nat, n < 100000 → Lib.decDigits n = dg n := by
  intro n
  induction n using Nat.strongRecOn with
  | _ n ih =>
    intro hn
    by_cases h : n < 10
    · rw [Lib.decDigits, dif_pos h, dg_one h]; rfl
    · rw [Lib.decDigits, dif_neg h, dg_more h hn, ih (n / 10) (by omega) (by omega)]; rfl
theorem noDig_125 (r : List UInt8) : noDig (125 :: r) := fun c n => by rw [num3, if_neg (fun h => by have := h.2.1; simp at this)]
theorem dnum_dec {l D : List UInt8} {k n : Nat} (h : l.drop k = Lib.decDigits n ++ D) (hn : n ≤ 255) (hD : noDig D) : dnum l k = (n, (Lib.decDigits n).length) := by
  have e := dec_dg n (by omega)
  unfold dnum
  rw [h, e, num3_dg (by omega) hD, if_neg (by simp only; omega)]
theorem dec_pos (n : Nat) (h : n < 100000) : 1 ≤ (Lib.decDigits n).length := by rw [dec_dg n h]; exact (dg_len h).1
theorem ahd_one {l q : List UInt8} {k : Nat} {b c : UInt8} (h : l.drop k = b :: q) : ahd l k [c] = (c == b) := by
  unfold ahd; rw [h]; simp [List.isPrefixOf]
theorem ditv_times {l D : List UInt8} {k : Nat} {mn mx : Int} (hr : repOk true mn mx = true) (h1 : ¬ (mn = 0 ∧ mx = -1)) (h2 : ¬ (mn = 1 ∧ mx = -1)) (h3 : ¬ (mn = 0 ∧ mx = 1))
    (h : l.drop k = timesT mn mx ++ D) : ditv l true (k + 1) = some (mn, mx, k + (timesT mn mx).length) := by
  unfold repOk at hr
  simp only [Bool.true_and, Bool.and_eq_true, Bool.or_eq_true, decide_eq_true_eq, beq_iff_eq] at hr
  obtain ⟨hr1, hr2, hr3⟩ := hr
  obtain ⟨m, rfl⟩ : ∃ m : Nat, mn = m := ⟨mn.toNat, by omega⟩
  have hm : m ≤ 255 := by omega
  have dp := dec_pos m (by omega)
  unfold timesT at h ⊢
  rw [if_neg h1, if_neg h2, if_neg h3] at h ⊢
  simp only [Int.toNat_natCast, List.append_assoc] at h ⊢
  have ha : l.drop (k + 1) = Lib.decDigits m ++ ((if mx = (m : Int) then [] else if mx = -1 then [44] else [44] ++ Lib.decDigits mx.toNat) ++ ([125] ++ D)) := by
    rw [← List.drop_drop, h]; rfl
  generalize hk : k + 1 = j at ha ⊢
  by_cases e1 : mx = (m : Int)
  · rw [if_pos e1] at ha ⊢
    rw [List.nil_append] at ha
    have d1 := dnum_dec ha hm (noDig_125 D)
    have hb : l.drop (j + (Lib.decDigits m).length) = 125 :: D := drop_add ha
    have a1 : ahd l (j + (Lib.decDigits m).length) [44] = false := by rw [ahd_one hb]; rfl
    have a2 : ahd l (j + (Lib.decDigits m).length) [125] = true := by rw [ahd_one hb]; rfl
    unfold ditv
    simp only [d1, a1, opB, if_true, Bool.false_eq_true, if_false, a2]
    rw [if_neg (by omega), if_neg (by simp), e1]
    congr 3
    simp; omega
  · rw [if_neg e1] at ha ⊢
    by_cases e2 : mx = -1
    · rw [if_pos e2] at ha ⊢
      have d1 := dnum_dec (D := 44 :: (125 :: D)) ha hm (noDig_44 _)
      have hb : l.drop (j + (Lib.decDigits m).length) = 44 :: 125 :: D := drop_add ha
      have hc : l.drop (j + (Lib.decDigits m).length + 1) = 125 :: D := by rw [← List.drop_drop, hb]; rfl
      have d2 : dnum l (j + (Lib.decDigits m).length + 1) = (0, 0) := by unfold dnum; rw [hc, noDig_125]; rfl
      have a1 : ahd l (j + (Lib.decDigits m).length) [44] = true := by rw [ahd_one hb]; rfl
      have a2 : ahd l (j + (Lib.decDigits m).length + 1) [125] = true := by rw [ahd_one hc]; rfl
      unfold ditv
      simp only [d1, a1, d2, opB, if_true]
      rw [if_neg (by omega)]
      simp only [if_true, Nat.lt_irrefl, if_false, Nat.add_zero, a2]
      rw [if_neg (by simp), e2]
      congr 3
      simp; omega
    · rw [if_neg e2] at ha ⊢
      obtain ⟨x, rfl⟩ : ∃ x : Nat, mx = x := ⟨mx.toNat, by omega⟩
      have hx : x ≤ 255 := by omega
      have dpx := dec_pos x (by omega)
      simp only [Int.toNat_natCast] at ha ⊢
      have d1 := dnum_dec (D := 44 :: (Lib.decDigits x ++ (125 :: D))) (by rw [ha]; simp) hm (noDig_44 _)
      have hb : l.drop (j + (Lib.decDigits m).length) = 44 :: (Lib.decDigits x ++ (125 :: D)) := drop_add (by rw [ha]; simp)
      have hc : l.drop (j + (Lib.decDigits m).length + 1) = Lib.decDigits x ++ (125 :: D) := by rw [← List.drop_drop, hb]; rfl
      have d2 := dnum_dec hc hx (noDig_125 D)
      have hd : l.drop (j + (Lib.decDigits m).length + 1 + (Lib.decDigits x).length) = 125 :: D := drop_add hc
      have a1 : ahd l (j + (Lib.decDigits m).length) [44] = true := by rw [ahd_one hb]; rfl
      have a2 : ahd l (j + (Lib.decDigits m).length + 1 + (Lib.decDigits x).length) [125] = true := by rw [ahd_one hd]; rfl
      unfold ditv
      simp only [d1, a1, d2, opB, if_true]
      rw [if_neg (by omega)]
      simp only [if_true, if_pos (show 0 < (Lib.decDigits x).length by omega), a2]
      rw [if_neg (by simp; omega)]
      congr 3
      simp; omega
end Go.Proofs.YtlchaocpejfikaaGreatDoor

/-
  A read tree's text is read as the tree. Plain.
-/
namespace Go.Proofs.YtlchaocpejfikaaGreatDoor
open Go.RowKit

/-- A sign that doesn't say how often. -/
def okF (g : List UInt8) : Prop := g ≠ [42] ∧ g ≠ [43] ∧ g ≠ [63] ∧ g ≠ [123]
/-- A sign that an atom begins with. -/
def atF (g : List UInt8) : Prop := okF g ∧ g ≠ [] ∧ g ≠ [124] ∧ g ≠ [41] ∧ g ≠ [94] ∧ g ≠ [36]
theorem atF_two (a b : UInt8) : atF [a, b] := ⟨⟨by simp, by simp, by simp, by simp⟩, by simp, by simp, by simp, by simp, by simp⟩
theorem punct_set : [42, 43, 63, 123, 124, 41, 94, 36, 92, 91, 46, 40].all punctS.has = true := by decide +kernel
theorem plain_ne {n : Nat} (h : n < 256) (hp : ¬ punctS.has n = true) (c : UInt8) (k : Nat) (hk : k = c.toNat) (hc : k ∈ [42, 43, 63, 123, 124, 41, 94, 36, 92, 91, 46, 40]) : n.toUInt8 ≠ c :=
  u8_ne h fun e => hp (by rw [e, ← hk]; exact List.all_eq_true.1 punct_set k hc)
theorem atF_plain {n : Nat} (h : n < 256) (hp : ¬ punctS.has n = true) : atF [n.toUInt8] := by
  have q : ∀ c : UInt8, n.toUInt8 ≠ c → [n.toUInt8] ≠ [c] := fun c hc e => hc (by injection e)
  exact ⟨⟨q _ (plain_ne h hp 42 42 rfl (by simp)), q _ (plain_ne h hp 43 43 rfl (by simp)), q _ (plain_ne h hp 63 63 rfl (by simp)), q _ (plain_ne h hp 123 123 rfl (by simp))⟩, by simp,
    q _ (plain_ne h hp 124 124 rfl (by simp)), q _ (plain_ne h hp 41 41 rfl (by simp)), q _ (plain_ne h hp 94 94 rfl (by simp)), q _ (plain_ne h hp 36 36 rfl (by simp))⟩
theorem sg1_plain {n : Nat} (h : n < 256) (hp : ¬ punctS.has n = true) (D : List UInt8) : sg1 (n.toUInt8 :: D) = [n.toUInt8] := by
  show (if n.toUInt8 = 92 then _ else [n.toUInt8]) = _
  rw [if_neg (plain_ne h hp 92 92 rfl (by simp))]
theorem set_first {c : S4} (hc : c.fit) (D : List UInt8) : atF (sg1 (setT c ++ D)) := by
  by_cases h256 : c.len = 256
  · unfold setT; rw [if_pos h256]
    exact ⟨⟨by simp [sg1], by simp [sg1], by simp [sg1], by simp [sg1]⟩, by simp [sg1], by simp [sg1], by simp [sg1], by simp [sg1], by simp [sg1]⟩
  · by_cases h1 : c.len = 1
    · unfold setT; rw [if_neg h256, if_pos h1]
      unfold sngT
      split
      · exact atF_two _ _
      · split
        · exact atF_two _ _
        · next hp =>
          rw [List.cons_append, List.nil_append, sg1_plain (lowS_lt c) hp]
          exact atF_plain (lowS_lt c) hp
    · obtain ⟨q, e, _⟩ := setT_brk hc h256 h1
      rw [e]
      exact ⟨⟨by simp [sg1], by simp [sg1], by simp [sg1], by simp [sg1]⟩, by simp [sg1], by simp [sg1], by simp [sg1], by simp [sg1], by simp [sg1]⟩
theorem escB_pt {n : Nat} (h : n < 256) (hp : punctS.has n = true) : ¬ (49 ≤ (n.toUInt8).toNat ∧ (n.toUInt8).toNat ≤ 57) ∧ escB n.toUInt8 = some (spn n n, false) := by
  have ha := List.all_eq_true.1 punct_all n (List.mem_range.2 h)
  rw [hp] at ha
  simp only [Bool.not_true, Bool.false_or, Bool.and_eq_true, bne_iff_ne, ne_eq, Bool.not_eq_true', Bool.and_eq_false_iff, decide_eq_false_iff_not] at ha
  obtain ⟨h1, h2, h3, h4, h5, h6, h7⟩ := ha
  refine ⟨by rw [u8_nat h]; omega, ?_⟩
  unfold escB
  rw [if_neg (u8_ne h (c := 110) h2), if_neg (u8_ne h (c := 116) h3), if_neg (u8_ne h (c := 119) h4), if_neg (u8_ne h (c := 87) h5), if_neg (u8_ne h (c := 115) h6), if_neg (u8_ne h (c := 83) h7), u8_nat h, if_pos hp]
/-- A set's text is an atom: the set. -/
theorem set_atom {l D : List UInt8} {s : RxS} {c : S4} {C : Option (RxS → Out Nd)} (hc : c.fit) (h : AtD l s (setT c ++ D)) : atomD prg true l C s = .inr (.one c, s.go (setT c).length) := by
  have hsg := h.sgn
  unfold atomD
  by_cases h256 : c.len = 256
  · have e := len_full hc h256
    have et : setT c = [46] := by unfold setT; rw [if_pos h256]
    rw [et] at hsg ⊢
    rw [hsg, e]
    rfl
  · by_cases h1 : c.len = 1
    · have hl := lowS_lt c
      have e := len_one hc h1
      have et : setT c = sngT (lowS c) := by unfold setT; rw [if_neg h256, if_pos h1]
      rw [et] at hsg ⊢
      generalize lowS c = n at e hsg hl ⊢
      subst e
      by_cases h10 : n = 10
      · have et : sngT n = [92, 110] := by unfold sngT; rw [if_pos h10]
        rw [et] at hsg ⊢
        rw [hsg, h10]
        rfl
      · by_cases hp : punctS.has n = true
        · have et : sngT n = [92, n.toUInt8] := by unfold sngT; rw [if_neg h10, if_pos hp]
          rw [et] at hsg ⊢
          rw [hsg]
          obtain ⟨a1, a2⟩ := escB_pt hl hp
          show escD prg true s n.toUInt8 = _
          unfold escD
          rw [if_neg a1, a2]
          rfl
        · have et : sngT n = [n.toUInt8] := by unfold sngT; rw [if_neg h10, if_neg hp]
          rw [et] at hsg ⊢
          rw [List.cons_append, List.nil_append, sg1_plain hl hp] at hsg
          rw [hsg]
          have q : ∀ c : UInt8, n.toUInt8 ≠ c → ([n.toUInt8] == [c]) = false := fun c hc => by simpa using hc
          rw [show opB true 40 = [40] from rfl, show opB true 41 = [41] from rfl, q _ (plain_ne hl hp 40 40 rfl (by simp)), q _ (plain_ne hl hp 41 41 rfl (by simp)), q _ (plain_ne hl hp 91 91 rfl (by simp)), q _ (plain_ne hl hp 46 46 rfl (by simp)), q _ (plain_ne hl hp 92 92 rfl (by simp))]
          show (Sum.inr (prg.one (spn (n.toUInt8).toNat (n.toUInt8).toNat), s.go 1) : Out Nd) = _
          rw [u8_nat hl]
          rfl
    · obtain ⟨q, e, hp⟩ := setT_brk hc h256 h1
      have hg : sg1 (setT c ++ D) = [91] := by rw [e]; rfl
      rw [hsg, hg]
      show (match prs l (s.at_ + 1) with
        | .inl (e, p) => (.inl (e, p) : Out Nd)
        | .inr (c, k) => .inr (prg.one c, s.to k)) = _
      have hl : l.take s.at_ ++ (setT c ++ D) = l := by rw [← h.dr, List.take_append_drop]
      have hsh := prs_sh (l.take s.at_) (setT c ++ D) 1
      rw [hl, List.length_take, Nat.min_eq_left h.le, hp] at hsh
      rw [hsh]
      rfl

theorem times_first {mn mx : Int} : ∃ c q, timesT mn mx = c :: q := by
  unfold timesT
  repeat' split
  all_goals exact ⟨_, _, rfl⟩
/-- How often, read. -/
theorem rep_times {l D : List UInt8} {s : RxS} {mn mx : Int} (hr : repOk true mn mx = true) (h : AtD l s (timesT mn mx ++ D)) (t : Nd) :
    ∃ s2, (∀ f, repD prg true l (f + 1) s t = repD prg true l f s2 (.rep t mn mx)) ∧ AtD l s2 D ∧ s2.opened = s.opened ∧ s2.closed = s.closed := by
  have hsg := h.sgn
  by_cases h1 : mn = 0 ∧ mx = -1
  · obtain ⟨rfl, rfl⟩ := h1
    exact ⟨s.go 1, fun f => by rw [repD, hsg]; rfl, h.go rfl, rfl, rfl⟩
  by_cases h2 : mn = 1 ∧ mx = -1
  · obtain ⟨rfl, rfl⟩ := h2
    exact ⟨s.go 1, fun f => by rw [repD, hsg]; rfl, h.go rfl, rfl, rfl⟩
  by_cases h3 : mn = 0 ∧ mx = 1
  · obtain ⟨rfl, rfl⟩ := h3
    exact ⟨s.go 1, fun f => by rw [repD, hsg]; rfl, h.go rfl, rfl, rfl⟩
  have hd := ditv_times hr h1 h2 h3 h.dr
  have hg : sg1 (timesT mn mx ++ D) = [123] := by unfold timesT; rw [if_neg h1, if_neg h2, if_neg h3]; rfl
  refine ⟨s.go (timesT mn mx).length, fun f => ?_, h.go rfl, rfl, rfl⟩
  rw [repD, hsg, hg]
  show (match ditv l true (s.at_ + 1) with
    | none => (.inl (7, s.at_) : Out Nd)
    | some (m, x, k) => repD prg true l f (s.to k) (prg.rep t m x)) = _
  rw [hd]
  rfl
theorem rep_end {l D : List UInt8} {s : RxS} (h : AtD l s D) (hD : okF (sg1 D)) (f : Nat) (t : Nd) : repD prg true l (f + 1) s t = .inr (t, s) := by
  rw [repD, h.sgn]
  obtain ⟨a, b, c, d⟩ := hD
  have q : ∀ c : List UInt8, sg1 D ≠ c → (sg1 D == c) = false := fun c hc => by simpa using hc
  rw [show opB true 43 = [43] from rfl, show opB true 63 = [63] from rfl, show opB true 123 = [123] from rfl, q _ a, q _ b, q _ c, q _ d]
  rfl

theorem atom_first : ∀ (u : Nd) (m : Nat), u.atom = true → u.wft m → ∀ D, atF (sg1 (u.txt ++ D))
  | .one c, m, _, h, D => by rw [Nd.wft] at h; rw [Nd.txt]; exact set_first h D
  | .rep x a b, m, _, h, D => by
    rw [Nd.wft] at h
    rw [Nd.txt, List.append_assoc]
    exact atom_first x m h.1 h.2.2 _
  | .group k x, m, _, h, D => by
    rw [Nd.txt]
    exact ⟨⟨by simp [sg1], by simp [sg1], by simp [sg1], by simp [sg1]⟩, by simp [sg1], by simp [sg1], by simp [sg1], by simp [sg1], by simp [sg1]⟩
  | .back n, m, _, h, D => by
    rw [Nd.txt, List.append_assoc]
    have : 1 ≤ (Lib.decDigits n.toNat).length := by
      rw [Nd.wft] at h
      exact dec_pos _ (by omega)
    match hq : Lib.decDigits n.toNat with
    | [] => rw [hq] at this; simp at this
    | a :: r => exact atF_two _ _
  | .nil, _, h, _, _ => by cases h
  | .empty, _, h, _, _ => by cases h
  | .cat _, _, h, _, _ => by cases h
  | .alt _, _, h, _, _ => by cases h
  | .start, _, h, _, _ => by cases h
  | .fin, _, h, _, _ => by cases h

/-- Where an inside ends, so many levels being left. -/
def EndC (m : Nat) (D : List UInt8) : Prop := D = [] ∨ (m < 12 ∧ ∃ q, D = 41 :: q)
def EndB (m : Nat) (D : List UInt8) : Prop := EndC m D ∨ ∃ q, D = 124 :: q
theorem EndB.ok {m : Nat} {D : List UInt8} (h : EndB m D) : okF (sg1 D) := by
  rcases h with (rfl | ⟨_, q, rfl⟩) | ⟨q, rfl⟩
  all_goals exact ⟨by simp [sg1], by simp [sg1], by simp [sg1], by simp [sg1]⟩
/-- So deep what is told is read as it is. -/
def Reads (l : List UInt8) (m : Nat) : Prop := ∀ (n : Nd), n.wft m → ∀ (D : List UInt8) (s : RxS) (o' : Int) (c' : List Int), EndC m D → AtD l s (n.txt ++ D) → n.look s.opened (ci s.closed) = some (o', c') →
  ∃ s', chD prg true l m s = .inr (n, s') ∧ AtD l s' D ∧ (s'.opened : Int) = o' ∧ ci s'.closed = c'
section
variable {l : List UInt8} {m : Nat} (hm : m ≤ 12) (hsub : ∀ k, m = k + 1 → Reads l k)
include hm hsub
theorem atom_read : ∀ (u : Nd), u.atom = true → u.wft m → ∀ (D : List UInt8) (s : RxS) (o' : Int) (c' : List Int), AtD l s (u.txt ++ D) → u.look s.opened (ci s.closed) = some (o', c') →
    ∃ t0 s1 k s2, atomD prg true l (levD true l m) s = .inr (t0, s1) ∧ (∀ f, repD prg true l (f + k) s1 t0 = repD prg true l f s2 u) ∧ AtD l s2 D ∧ (s2.opened : Int) = o' ∧ ci s2.closed = c' ∧ k ≤ u.txt.length
  | .one c, _, h, D, s, o', c', ha, hl => by
    rw [Nd.wft] at h
    rw [Nd.txt] at ha
    rw [Nd.look] at hl; injection hl with hl; injection hl with h1 h2
    exact ⟨_, _, 0, _, set_atom h ha, fun f => rfl, ha.go rfl, h1, h2, Nat.zero_le _⟩
  | .rep x a b, _, h, D, s, o', c', ha, hl => by
    rw [Nd.wft] at h
    rw [Nd.txt, List.append_assoc] at ha
    rw [Nd.look, h.1, if_pos h.2.1] at hl
    obtain ⟨t0, s1, k, s2, e1, e2, a2, ho, hc, hk⟩ := atom_read x h.1 h.2.2 _ s o' c' ha hl
    obtain ⟨s3, e3, a3, ho3, hc3⟩ := rep_times h.2.1 a2 x
    refine ⟨t0, s1, k + 1, s3, e1, fun f => ?_, a3, by rw [ho3, ho], by rw [hc3, hc], ?_⟩
    · rw [show f + (k + 1) = (f + 1) + k by omega, e2, e3]
    · obtain ⟨c, q, e⟩ := times_first (mn := a) (mx := b)
      rw [Nd.txt, List.length_append, e, List.length_cons]; omega
  | .group n x, _, h, D, s, o', c', ha, hl => by
    rw [Nd.wft] at h
    obtain ⟨k, rfl, hx⟩ := h
    have hR := hsub k rfl
    have etx : (Nd.group n x).txt ++ D = [40] ++ (x.txt ++ (41 :: D)) := by rw [Nd.txt]; simp
    rw [etx] at ha
    rw [Nd.look] at hl
    split at hl
    · next hn =>
      have hn : n = (s.opened : Int) + 1 := by simpa using hn
      cases hlx : x.look ((s.opened : Int) + 1) (ci s.closed) with
      | none => rw [hlx] at hl; cases hl
      | some y =>
        obtain ⟨o1, c1⟩ := y
        rw [hlx] at hl
        injection hl with hl; injection hl with h1 h2
        have ha1 : AtD l { s.go (opB true 40).length with opened := s.opened + 1 } (x.txt ++ (41 :: D)) := by
          have := ha.go (n := 1) rfl
          exact ⟨this.dr, this.le⟩
        obtain ⟨s', e', a', ho', hc'⟩ := hR x hx (41 :: D) _ o1 c1 (.inr ⟨by omega, D, rfl⟩) ha1 (by
          show x.look ((s.opened + 1 : Nat) : Int) (ci s.closed) = _
          rw [← hlx]; congr 1)
        have a2 : AtD l { s'.go (opB true 40).length with closed := s'.closed ++ [s.opened + 1] } D := by
          have := AtD.go (x := [41]) (D := D) a' (n := 1) rfl
          exact ⟨this.dr, this.le⟩
        refine ⟨_, _, 0, _, ?_, fun f => rfl, a2, ?_, ?_, Nat.zero_le _⟩
        · unfold atomD
          rw [ha.sgn]
          show groupD prg true l (levD true l (k + 1)) s = _
          unfold groupD levD
          simp only
          rw [e']
          simp only
          rw [a'.sgn]
          show (Sum.inr (prg.group ((s.opened + 1 : Nat) : Int) x, _) : Out Nd) = _
          rw [hn]
          rfl
        · rw [← h1]; exact ho'
        · rw [← h2, hn, ← hc']; exact ci_add _ _
    · cases hl
  | .back n, _, h, D, s, o', c', ha, hl => by
    rw [Nd.wft] at h
    obtain ⟨d, rfl⟩ : ∃ d : Nat, n = d := ⟨n.toNat, by omega⟩
    rw [Nd.look] at hl
    split at hl
    · next hn =>
      rw [ci_has] at hn
      injection hl with hl; injection hl with h1 h2
      have ed : Lib.decDigits d = [dig d] := by rw [dec_dg d (by omega), dg_one (by omega)]
      have hdn := dig_nat (show d < 10 by omega)
      have etx : (Nd.back (d : Int)).txt = [92, dig d] := by rw [Nd.txt, Int.toNat_natCast, ed]; rfl
      rw [etx] at ha ⊢
      have a2 := ha.go (n := 2) rfl
      refine ⟨_, (s.mark [92, dig d]).go 2, 0, _, ?_, fun f => rfl, ⟨a2.dr, a2.le⟩, ?_, ?_, Nat.zero_le _⟩
      · unfold atomD
        rw [ha.sgn]
        show escD prg true s (dig d) = _
        unfold escD
        rw [if_pos (by omega), hdn, show 48 + d - 48 = d by omega, if_pos hn]
        rfl
      · exact h1
      · exact h2
    · cases hl
  | .nil, h, _, _, _, _, _, _, _ => by cases h
  | .empty, h, _, _, _, _, _, _, _ => by cases h
  | .cat _, h, _, _, _, _, _, _, _ => by cases h
  | .alt _, h, _, _, _, _, _, _, _ => by cases h
  | .start, h, _, _, _, _, _, _, _ => by cases h
  | .fin, h, _, _, _, _, _, _, _ => by cases h
end
end Go.Proofs.YtlchaocpejfikaaGreatDoor

/-
  A read tree's text is read as the tree: branches, choices, whole. Plain.
-/
namespace Go.Proofs.YtlchaocpejfikaaGreatDoor
open Go.RowKit

theorem unit_atom {u : Nd} (h : u.unit = true) : u = .start ∨ u = .fin ∨ u.atom = true := by
  cases u <;> first | (cases h; done) | exact .inl rfl | exact .inr (.inl rfl) | exact .inr (.inr rfl)
theorem atom_pos {u : Nd} {m : Nat} (ha : u.atom = true) (h : u.wft m) : 1 ≤ u.txt.length := by
  have := (atom_first u m ha h []).2.1
  rw [List.append_nil] at this
  match hq : u.txt with
  | [] => rw [hq] at this; exact absurd rfl this
  | a :: r => simp
theorem unit_pos {u : Nd} {m : Nat} (hu : u.unit = true) (h : u.wft m) : 1 ≤ u.txt.length := by
  rcases unit_atom hu with rfl | rfl | ha
  · simp [Nd.txt]
  · simp [Nd.txt]
  · exact atom_pos ha h
theorem units_len {m : Nat} : ∀ {ps : List Nd}, units ps → Nd.wfts ps m → ps.length ≤ (Nd.txts ps).length
  | [], _, _ => by simp
  | u :: r, hu, h => by
    rw [Nd.wfts] at h
    have := unit_pos (hu u (by simp)) h.1
    have := units_len (fun x hx => hu x (by simp [hx])) h.2
    rw [Nd.txts, List.length_append, List.length_cons]; omega
theorem units_first {m : Nat} {ps : List Nd} {D : List UInt8} (hu : units ps) (h : Nd.wfts ps m) (hD : EndB m D) : okF (sg1 (Nd.txts ps ++ D)) := by
  match ps, hu, h with
  | [], _, _ => exact hD.ok
  | u :: r, hu, h =>
    rw [Nd.wfts] at h
    rw [Nd.txts, List.append_assoc]
    rcases unit_atom (hu u (by simp)) with rfl | rfl | ha
    · exact ⟨by simp [sg1, Nd.txt], by simp [sg1, Nd.txt], by simp [sg1, Nd.txt], by simp [sg1, Nd.txt]⟩
    · exact ⟨by simp [sg1, Nd.txt], by simp [sg1, Nd.txt], by simp [sg1, Nd.txt], by simp [sg1, Nd.txt]⟩
    · exact (atom_first u m ha h.1 _).1
theorem looks_snd {x : Nd} {r : List Nd} {o : Int} {c : List Int} {o' : Int} {c' : List Int} (h : Nd.looks (x :: r) o c = some (o', c')) : ∃ o1 c1, x.look o c = some (o1, c1) ∧ Nd.looks r o1 c1 = some (o', c') := by
  rw [Nd.looks] at h
  cases e : x.look o c with
  | none => rw [e] at h; cases h
  | some y => obtain ⟨o1, c1⟩ := y; rw [e] at h; exact ⟨o1, c1, rfl, h⟩
section
variable {l : List UInt8} {m : Nat} (hm : m ≤ 12) (hsub : ∀ k, m = k + 1 → Reads l k)
include hm hsub
theorem br_read {D : List UInt8} (hD : EndB m D) : ∀ (ps : List Nd), units ps → Nd.wfts ps m → ∀ (f : Nat) (first front : Bool) (s : RxS) (acc : List Nd) (o' : Int) (c' : List Int), ps.length < f → AtD l s (Nd.txts ps ++ D) → Nd.looks ps s.opened (ci s.closed) = some (o', c') →
    ∃ s', brD prg true l (levD true l m) (decide (m < 12)) f first front s acc = .inr (joined (acc ++ ps), s') ∧ AtD l s' D ∧ (s'.opened : Int) = o' ∧ ci s'.closed = c'
  | [], _, _, f, first, front, s, acc, o', c', hf, ha, hl => by
    obtain ⟨f, rfl⟩ : ∃ k, f = k + 1 := ⟨f - 1, by omega⟩
    rw [Nd.looks] at hl; injection hl with hl; injection hl with h1 h2
    have ha : AtD l s D := ha
    refine ⟨s, ?_, ha, h1, h2⟩
    rw [brD, ha.sgn, List.append_nil]
    rcases hD with (rfl | ⟨hlt, q, rfl⟩) | ⟨q, rfl⟩
    · rfl
    · rw [decide_eq_true hlt]; rfl
    · rfl
  | u :: r, hu, h, f, first, front, s, acc, o', c', hf, ha, hl => by
    obtain ⟨f, rfl⟩ : ∃ k, f = k + 1 := ⟨f - 1, by omega⟩
    have hur : units r := fun x hx => hu x (by simp [hx])
    rw [Nd.wfts] at h
    rw [Nd.txts, List.append_assoc] at ha
    obtain ⟨o1, c1, hl1, hl2⟩ := looks_snd hl
    have hfr : r.length < f := by simp at hf; omega
    have eacc : acc ++ u :: r = (acc ++ [u]) ++ r := by simp
    rw [eacc]
    have hsg := ha.sgn
    rcases unit_atom (hu u (by simp)) with rfl | rfl | hat
    · rw [Nd.look] at hl1; injection hl1 with hl1; injection hl1 with h1 h2; subst h1; subst h2
      obtain ⟨s', e, hrest⟩ := br_read hD r hur h.2 f false true (s.go 1) (acc ++ [.start]) o' c' hfr (ha.go (by simp [Nd.txt])) hl2
      refine ⟨s', ?_, hrest⟩
      rw [brD, hsg, ← e]
      have : sg1 (Nd.start.txt ++ (Nd.txts r ++ D)) = [94] := by rw [Nd.txt]; rfl
      rw [this]
      rfl
    · rw [Nd.look] at hl1; injection hl1 with hl1; injection hl1 with h1 h2; subst h1; subst h2
      obtain ⟨s', e, hrest⟩ := br_read hD r hur h.2 f false true (s.go 1) (acc ++ [.fin]) o' c' hfr (ha.go (by simp [Nd.txt])) hl2
      refine ⟨s', ?_, hrest⟩
      rw [brD, hsg, ← e]
      have : sg1 (Nd.fin.txt ++ (Nd.txts r ++ D)) = [36] := by rw [Nd.txt]; rfl
      rw [this]
      rfl
    · obtain ⟨⟨g1, g2, g3, g4⟩, g5, g6, g7, g8, g9⟩ := atom_first u m hat h.1 (Nd.txts r ++ D)
      obtain ⟨t0, s1, k, s2, e1, e2, a2, ho, hc, hk⟩ := atom_read hm hsub u hat h.1 _ s o1 c1 ha hl1
      have hkl : k ≤ l.length := by have := ha.len; rw [List.length_append] at this; omega
      obtain ⟨s', e, hrest⟩ := br_read hD r hur h.2 f false false s2 (acc ++ [u]) o' c' hfr a2 (by rw [ho, hc]; exact hl2)
      refine ⟨s', ?_, hrest⟩
      have q : ∀ c : List UInt8, sg1 (u.txt ++ (Nd.txts r ++ D)) ≠ c → (sg1 (u.txt ++ (Nd.txts r ++ D)) == c) = false := fun c hc => by simpa using hc
      rw [brD, hsg, show opB true 124 = [124] from rfl, show opB true 41 = [41] from rfl, show opB true 123 = [123] from rfl, show opB true 43 = [43] from rfl, show opB true 63 = [63] from rfl,
        q _ g5, q _ g6, q _ g7, q _ g8, q _ g9, q _ g4, q _ g2, q _ g3, q _ g1]
      simp only [Bool.false_or, Bool.false_and, Bool.and_false, Bool.or_false, Bool.false_eq_true, if_false]
      rw [e1]
      simp only
      rw [show l.length + 1 = (l.length - k + 1) + k by omega, e2, rep_end a2 (units_first hur h.2 hD)]
      exact e
/-- A branch's parts. -/
def Nd.brs : Nd → List Nd
  | .empty => []
  | .cat l => l
  | n => [n]
omit hm hsub in
theorem brs_units {n : Nd} (h : n.brn) : units n.brs := by
  cases n with
  | empty => intro x hx; cases hx
  | cat l => exact h.2
  | nil => cases h
  | alt l => cases h
  | _ => intro x hx; rw [List.mem_singleton.1 hx]; rfl
omit hm hsub in
theorem brs_wft {n : Nd} (h : n.brn) (hw : n.wft m) : Nd.wfts n.brs m ∧ joined n.brs = n ∧ Nd.txts n.brs = n.txt ∧ ∀ o c o' c', n.look o c = some (o', c') → Nd.looks n.brs o c = some (o', c') := by
  have one : ∀ x : Nd, x.unit = true → x.wft m → Nd.wfts [x] m ∧ joined [x] = x ∧ Nd.txts [x] = x.txt ∧ ∀ o c o' c', x.look o c = some (o', c') → Nd.looks [x] o c = some (o', c') := by
    intro x hu hx
    refine ⟨by rw [Nd.wfts]; exact ⟨hx, by rw [Nd.wfts]; trivial⟩, ?_, by simp [Nd.txts], fun o c o' c' hl => by rw [looks_one]; exact hl⟩
    rw [joined_units (fun y hy => by rw [List.mem_singleton.1 hy]; exact hu)]; rfl
  cases n with
  | empty =>
    refine ⟨by rw [Nd.brs, Nd.wfts]; trivial, rfl, by rw [Nd.brs, Nd.txt]; rfl, fun o c o' c' hl => ?_⟩
    rw [Nd.look] at hl
    rw [Nd.brs, Nd.looks]; exact hl
  | cat l =>
    rw [Nd.wft] at hw
    refine ⟨hw.2.2, ?_, by rw [Nd.txt]; rfl, fun o c o' c' hl => ?_⟩
    · show joined l = _
      rw [joined_units hw.2.1]
      match l, hw.1 with
      | x :: y :: r, _ => rfl
    · rw [Nd.look] at hl
      split at hl
      · exact hl
      · cases hl
  | nil => cases h
  | alt l => cases h
  | one c => exact one _ rfl hw
  | rep x a b => exact one _ rfl hw
  | group k x => exact one _ rfl hw
  | back k => exact one _ rfl hw
  | start => exact one _ rfl hw
  | fin => exact one _ rfl hw
theorem branch_read {D : List UInt8} (hD : EndB m D) {n : Nd} (hb : n.brn) (hw : n.wft m) {s : RxS} {o' : Int} {c' : List Int} (ha : AtD l s (n.txt ++ D)) (hl : n.look s.opened (ci s.closed) = some (o', c')) :
    ∃ s', branchD prg true l (levD true l m) (decide (m < 12)) s = .inr (n, s') ∧ AtD l s' D ∧ (s'.opened : Int) = o' ∧ ci s'.closed = c' := by
  obtain ⟨w1, w2, w3, w4⟩ := brs_wft hb hw
  have hu := brs_units hb
  rw [← w3] at ha
  unfold branchD
  have hlen := units_len hu w1
  have := ha.len
  rw [List.length_append] at this
  obtain ⟨s', e, hrest⟩ := br_read hm hsub hD n.brs hu w1 (if Go.Proofs.YtlchaocpejfikaaGreatDoor.sgn l s.at_ == [94] then l.length + 2 else l.length + 1) true true s [] o' c' (by split <;> omega) ha (w4 _ _ _ _ hl)
  refine ⟨s', ?_, hrest⟩
  rw [e, List.nil_append, w2]
omit hm hsub in
def Nd.txtb : List Nd → List UInt8
  | [] => []
  | x :: r => 124 :: (x.txt ++ Nd.txtb r)
omit hm hsub in
theorem txta_b : ∀ (x : Nd) (r : List Nd), Nd.txta (x :: r) = x.txt ++ Nd.txtb r
  | x, [] => by simp [Nd.txta, Nd.txtb]
  | x, y :: r => by rw [Nd.txta, txta_b y r]; rfl
theorem loop_read {D : List UInt8} (hD : EndC m D) : ∀ (ts : List Nd), brns ts → Nd.wfts ts m → ∀ (f : Nat) (s : RxS) (acc : List Nd) (o' : Int) (c' : List Int), ts.length < f → AtD l s (Nd.txtb ts ++ D) → Nd.looks ts s.opened (ci s.closed) = some (o', c') →
    ∃ s', chLoopD prg true l (levD true l m) (decide (m < 12)) f s acc = .inr (chosen (acc ++ ts), s') ∧ AtD l s' D ∧ (s'.opened : Int) = o' ∧ ci s'.closed = c'
  | [], _, _, f, s, acc, o', c', hf, ha, hl => by
    obtain ⟨f, rfl⟩ : ∃ k, f = k + 1 := ⟨f - 1, by omega⟩
    rw [Nd.looks] at hl; injection hl with hl; injection hl with h1 h2
    have ha : AtD l s D := ha
    refine ⟨s, ?_, ha, h1, h2⟩
    rw [chLoopD, ha.sgn, List.append_nil]
    rcases hD with rfl | ⟨hlt, q, rfl⟩
    · rfl
    · rfl
  | x :: r, hu, h, f, s, acc, o', c', hf, ha, hl => by
    obtain ⟨f, rfl⟩ : ∃ k, f = k + 1 := ⟨f - 1, by omega⟩
    rw [Nd.wfts] at h
    obtain ⟨o1, c1, hl1, hl2⟩ := looks_snd hl
    have e0 : Nd.txtb (x :: r) ++ D = [124] ++ (x.txt ++ (Nd.txtb r ++ D)) := by simp [Nd.txtb]
    rw [e0] at ha
    have hDr : EndB m (Nd.txtb r ++ D) := by
      cases r with
      | nil => exact .inl hD
      | cons y q => exact .inr ⟨_, rfl⟩
    obtain ⟨s1, e1, a1, ho, hc⟩ := branch_read hm hsub hDr (hu x (by simp)) h.1 (s := s.go 1) (ha.go rfl) hl1
    obtain ⟨s', e, hrest⟩ := loop_read hD r (fun y hy => hu y (by simp [hy])) h.2 f s1 (acc ++ [x]) o' c' (by simp at hf; omega) a1 (by rw [ho, hc]; exact hl2)
    refine ⟨s', ?_, hrest⟩
    rw [chLoopD, ha.sgn, if_pos (show (sg1 ([124] ++ (x.txt ++ (Nd.txtb r ++ D))) == opB true 124) = true from rfl),
      show (if true = true then s else s.mark [92, 124]).go (opB true 124).length = s.go 1 from rfl]
    rw [e1]
    simp only
    rw [e]
    simp
theorem choice_read : Reads l m := by
  intro n hw D s o' c' hD ha hl
  rw [chD_levD]
  have key : ∀ (x : Nd) (ts : List Nd), brns (x :: ts) → Nd.wfts (x :: ts) m → AtD l s (x.txt ++ (Nd.txtb ts ++ D)) → Nd.looks (x :: ts) s.opened (ci s.closed) = some (o', c') → chosen (x :: ts) = n →
      ∃ s', choiceD prg true l (levD true l m) (decide (m < 12)) s = .inr (n, s') ∧ AtD l s' D ∧ (s'.opened : Int) = o' ∧ ci s'.closed = c' := by
    intro x ts hu h ha hl hn
    rw [Nd.wfts] at h
    obtain ⟨o1, c1, hl1, hl2⟩ := looks_snd hl
    have hDr : EndB m (Nd.txtb ts ++ D) := by
      cases ts with
      | nil => exact .inl hD
      | cons y q => exact .inr ⟨_, rfl⟩
    obtain ⟨s1, e1, a1, ho, hc⟩ := branch_read hm hsub hDr (hu x (by simp)) h.1 ha hl1
    have hlen : ∀ l : List Nd, l.length ≤ (Nd.txtb l).length := by
      intro l
      induction l with
      | nil => simp
      | cons a r ih => rw [Nd.txtb, List.length_cons, List.length_cons, List.length_append]; omega
    have h2 := hlen ts
    have h3 := a1.len
    rw [List.length_append] at h3
    obtain ⟨s', e, hrest⟩ := loop_read hm hsub hD ts (fun y hy => hu y (by simp [hy])) h.2 (l.length + 1) s1 [x] o' c' (by omega) a1 (by rw [ho, hc]; exact hl2)
    refine ⟨s', ?_, hrest⟩
    unfold choiceD
    rw [e1]
    simp only
    rw [e, ← hn]
    rfl
  cases hn : n.isAlt with
  | true =>
    cases n with
    | alt L =>
      rw [Nd.wft] at hw
      obtain ⟨h1, hu, h⟩ := hw
      rw [Nd.look] at hl
      split at hl
      · match L, h1, hu, h, ha, hl with
        | x :: y :: r, _, hu, h, ha, hl =>
          refine key x (y :: r) hu h ?_ hl ?_
          · rw [Nd.txt, txta_b, List.append_assoc] at ha; exact ha
          · rw [chosen_brns hu]; rfl
      · cases hl
    | _ => cases hn
  | false =>
    have hb : n.brn := by
      cases n with
      | nil => rw [Nd.wft] at hw; exact hw.elim
      | empty => trivial
      | cat L => rw [Nd.wft] at hw; exact ⟨hw.1, hw.2.1⟩
      | alt L => cases hn
      | _ => rfl
    refine key n [] (fun x hx => by rw [List.mem_singleton.1 hx]; exact hb) (by rw [Nd.wfts]; exact ⟨hw, by rw [Nd.wfts]; trivial⟩) (by rw [Nd.txtb]; exact ha) (by rw [looks_one]; exact hl) ?_
    rw [chosen_brns (fun x hx => by rw [List.mem_singleton.1 hx]; exact hb)]; rfl
end
theorem reads_all (l : List UInt8) : ∀ m, m ≤ 12 → Reads l m
  | 0, h => choice_read h (fun k hk => by omega)
  | m + 1, h => choice_read h (fun k hk => by obtain rfl : m = k := by omega
                                              exact reads_all l m (by omega))
/-- A read tree, told and read, is the tree. -/
theorem parse_back {n : Nd} {o' : Int} {c' : List Int} (hw : n.wft 12) (hl : n.look 0 [] = some (o', c')) (h250 : n.txt.length ≤ 250) : ∃ s', parseD prg true n.txt = .inr (n, s') := by
  obtain ⟨s', e, _⟩ := reads_all n.txt 12 (Nat.le_refl _) n hw [] ⟨0, 0, [], []⟩ o' c' (.inl rfl) ⟨by simp, Nat.zero_le _⟩ hl
  refine ⟨s', ?_⟩
  unfold parseD
  rw [if_neg (by omega)]
  exact e
/-- A set's text, read, is a One of it, without a mark. -/
theorem set_back {c : S4} (hc : c.fit) (h250 : (setT c).length ≤ 250) : parseD prg true (setT c) = .inr (.one c, ⟨(setT c).length, 0, [], []⟩) := by
  have ha : AtD (setT c) ⟨0, 0, [], []⟩ (setT c ++ []) := ⟨by simp, Nat.zero_le _⟩
  have e1 := set_atom (C := levD true (setT c) 12) hc ha
  obtain ⟨⟨g1, g2, g3, g4⟩, g5, g6, g7, g8, g9⟩ := set_first hc []
  have hend : AtD (setT c) (RxS.go ⟨0, 0, [], []⟩ (setT c).length) [] := AtD.go (D := []) ha rfl
  have hpos : 1 ≤ (setT c).length := by
    rw [List.append_nil] at g5
    match hq : setT c with
    | [] => rw [hq] at g5; exact absurd rfl g5
    | a :: r => simp
  generalize hT : setT c = T at *
  have hsg := ha.sgn
  have q : ∀ c : List UInt8, sg1 (T ++ []) ≠ c → (sg1 (T ++ []) == c) = false := fun c hc => by simpa using hc
  unfold parseD
  rw [if_neg (by omega), chD_levD]
  unfold choiceD branchD
  rw [hsg, q _ g8]
  have hbr : brD prg true T (levD true T 12) (decide (12 < 12)) (T.length + 1) true true ⟨0, 0, [], []⟩ [] = .inr (.one c, RxS.go ⟨0, 0, [], []⟩ T.length) := by
    rw [brD, hsg, show opB true 124 = [124] from rfl, show opB true 41 = [41] from rfl, show opB true 123 = [123] from rfl, show opB true 43 = [43] from rfl, show opB true 63 = [63] from rfl,
        q _ g5, q _ g6, q _ g7, q _ g8, q _ g9, q _ g4, q _ g2, q _ g3, q _ g1]
    simp only [Bool.false_or, Bool.false_and, Bool.and_false, Bool.or_false, Bool.false_eq_true, if_false]
    rw [e1]
    simp only
    rw [rep_end hend ⟨by simp [sg1], by simp [sg1], by simp [sg1], by simp [sg1]⟩]
    simp only
    obtain ⟨k, hk⟩ : ∃ k, T.length = k + 1 := ⟨T.length - 1, by omega⟩
    rw [hk, brD, ← hk, hend.sgn]
    rfl
  simp only [Bool.false_eq_true, if_false]
  rw [hbr]
  simp only
  rw [chLoopD, hend.sgn]
  simp [RxS.go, sg1, opB]
  rfl
end Go.Proofs.YtlchaocpejfikaaGreatDoor
