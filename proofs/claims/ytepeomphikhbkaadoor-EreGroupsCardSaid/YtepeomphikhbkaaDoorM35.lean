/-
  Merged texts of this claim: EreW.
-/
import Derived.Test.YtepeomphikhbkaaDoorM25
import Derived.Test.YtepeomphikhbkaaDoorM34

/-
  An extended regex in plain words: the same reading within a text; in a group; two with a bar between. No walk.
-/
namespace Go.Proofs.YtepeomphikhbkaaDoor
open Go.RowKit

section
variable {p l q : List UInt8} (hq : TailE q) {o : Nat} {c0 : List Nat} {m0 : List (Nat × List UInt8)}
include hq
theorem ce_rep : ∀ (m m' : Nat) (s : RxS) (t t1 : Nd) (s1 : RxS), s.at_ ≤ l.length → l.length < m + s.at_ → (p ++ (l ++ q)).length < m' + (p.length + s.at_) → repD prg true l m s t = .inr (t1, s1) →
    repD prg true (p ++ (l ++ q)) m' (s.sh p.length o c0 m0) (t.turn o) = .inr (t1.turn o, s1.sh p.length o c0 m0)
  | 0, _, s, t, t1, s1, ha, hm, _, _ => by omega
  | m + 1, m', s, t, t1, s1, ha, hm, hm', h => by
    obtain ⟨k, rfl⟩ : ∃ k, m' = k + 1 := ⟨m' - 1, by simp only [List.length_append] at hm'; omega⟩
    have a (c : UInt8) (hc : c ≠ 41 ∧ c ≠ 124) : ((p ++ (l ++ q))[(s.sh p.length o c0 m0).at_]? = some c) = (l[s.at_]? = some c) := ce_iff hq ha (.inr hc)
    have one : ∀ mn mx, l[s.at_]? ≠ none → repD prg true l m (s.go 1) (.rep t mn mx) = .inr (t1, s1) → repD prg true (p ++ (l ++ q)) k ((s.sh p.length o c0 m0).go 1) (.rep (t.turn o) mn mx) = .inr (t1.turn o, s1.sh p.length o c0 m0) := fun mn mx hne h => by
      have hle : s.at_ + 1 ≤ l.length := by
        by_cases hh : s.at_ < l.length
        · exact hh
        · exact absurd (List.getElem?_eq_none (by omega)) hne
      rw [← sh_go]
      exact ce_rep m k (s.go 1) (.rep t mn mx) _ _ hle (by show _ < m + (s.at_ + 1); omega) (by show _ < k + (p.length + (s.at_ + 1)); omega) h
    rw [repD_T] at h ⊢
    simp only [a 42 (by decide), a 43 (by decide), a 63 (by decide), a 123 (by decide)]
    split at h
    · next e => rw [if_pos e]; exact one _ _ (by rw [e]; simp) h
    · next e => 
      rw [if_neg e]
      split at h
      · next e => rw [if_pos e]; exact one _ _ (by rw [e]; simp) h
      · next e =>
        rw [if_neg e]
        split at h
        · next e => rw [if_pos e]; exact one _ _ (by rw [e]; simp) h
        · next e =>
          rw [if_neg e]
          split at h
          · next e =>
            rw [if_pos e]
            have hle := getE_lt e
            cases e4 : ditv l true (s.at_ + 1) with
            | none => rw [e4] at h; cases h
            | some z =>
              obtain ⟨mn, mx, j⟩ := z
              rw [e4] at h
              simp only at h
              obtain ⟨g1, g2⟩ := ditv_in e4
              have e5 : ditv (p ++ (l ++ q)) true ((s.sh p.length o c0 m0).at_ + 1) = some (mn, mx, p.length + j) := by
                rw [sh_at, Nat.add_assoc]; exact ce_itv hq hle e4
              rw [e5]
              simp only
              rw [← sh_to]
              exact ce_rep m k _ (.rep t mn mx) _ _ g2 (by show _ < m + j; omega) (by show _ < k + (p.length + j); omega) h
          · next e =>
            rw [if_neg e]
            injection h with h; injection h with h1 h2; subst h1; subst h2; rfl

/-- Of a reading and the one within the other text: they agree where there are no backs, and no more than so many groups in one another (or 'E': as many levels are left in both). -/
def SubE (p l : List UInt8) (o : Nat) (c0 : List Nat) (m0 : List (Nat × List UInt8)) (d : Nat) (E : Prop) (C C' : Option (RxS → Out Nd)) : Prop :=
  ∀ f, C = some f → ∀ s t s', Sane l s → f s = .inr (t, s') → s'.at_ < l.length → t.backs = false → (t.deep < d ∨ E) → ∃ g, C' = some g ∧ g (s.sh p.length o c0 m0) = .inr (t.turn o, s'.sh p.length o c0 m0)

variable {d : Nat} {E : Prop} {C C' : Option (RxS → Out Nd)} (hS : SubE p l o c0 m0 d E C C')
include hS

omit hq in
theorem ce_group {s s1 : RxS} {t1 : Nd} (hs : Sane l s) (hl : s.at_ < l.length) (h : groupD prg true l C s = .inr (t1, s1)) (hb : t1.backs = false) (hd : t1.deep ≤ d ∨ E) :
    groupD prg true (p ++ (l ++ q)) C' (s.sh p.length o c0 m0) = .inr (t1.turn o, s1.sh p.length o c0 m0) := by
  rw [groupD_T] at h ⊢
  cases C with
  | none => cases h
  | some f =>
    simp only at h
    cases hf : f { s.go 1 with opened := s.opened + 1 } with
    | inl e => rw [hf] at h; cases h
    | inr z =>
      obtain ⟨t2, s2⟩ := z
      rw [hf] at h
      simp only at h
      split at h
      · next ha =>
        have hle := getE_lt ha
        injection h with h; injection h with h1 h2; subst h1; subst h2
        have hg := hs.go (n := 1) hl
        have hop := hs.op
        obtain ⟨g, hg, hgs⟩ := hS f rfl { s.go 1 with opened := s.opened + 1 } t2 s2 ⟨hg.le, hg.mr, hg.cl, by show s.opened + 1 ≤ s.at_ + 1; omega⟩ hf hle (by rw [Nd.backs] at hb; exact hb) (hd.imp (fun h => by rw [Nd.deep] at h; omega) id)
        subst hg
        simp only
        have e0 : ({ (s.sh p.length o c0 m0).go 1 with opened := (s.sh p.length o c0 m0).opened + 1 } : RxS) = ({ s.go 1 with opened := s.opened + 1 } : RxS).sh p.length o c0 m0 := by
          simp [RxS.sh, RxS.go]; omega
        rw [e0, hgs]
        simp only
        rw [if_pos (by rw [sh_at, ce_get hle]; exact ha)]
        have e1 : ((s.sh p.length o c0 m0).opened + 1 : Nat) = s.opened + 1 + o := by show s.opened + o + 1 = _; omega
        rw [e1]
        have e2 : (((s.opened + 1 + o : Nat)) : Int) = ((s.opened + 1 : Nat) : Int) + (o : Int) := by omega
        rw [e2]
        show Sum.inr (Nd.group _ (t2.turn o), _) = Sum.inr (Nd.group _ (t2.turn o), _)
        congr 2
        simp [RxS.sh, RxS.go, Nat.add_assoc]
      · cases h
omit hq in
theorem ce_atom {s s1 : RxS} {t1 : Nd} {c : UInt8} (hs : Sane l s) (hc : l[s.at_]? = some c) (h : atomD prg true l C s = .inr (t1, s1)) (hb : t1.backs = false) (hd : t1.deep ≤ d ∨ E) :
    atomD prg true (p ++ (l ++ q)) C' (s.sh p.length o c0 m0) = .inr (t1.turn o, s1.sh p.length o c0 m0) := by
  have hl := getE_lt hc
  have hc' : (p ++ (l ++ q))[(s.sh p.length o c0 m0).at_]? = some c := by rw [sh_at, ce_get hl, hc]
  rw [atomD_T hc] at h
  rw [atomD_T hc']
  split at h
  · next e => rw [if_pos e]; exact ce_group hS hs hl h hb hd
  · next e =>
    rw [if_neg e]
    split at h
    · cases h
    · next e =>
      rw [if_neg e]
      split at h
      · next e =>
        rw [if_pos e]
        cases h2 : l[s.at_ + 1]? with
        | none => rw [h2] at h; cases h
        | some b =>
          rw [h2] at h
          simp only at h
          have h2' : (p ++ (l ++ q))[(s.sh p.length o c0 m0).at_ + 1]? = some b := by rw [sh_at, Nat.add_assoc, ce_get (getE_lt h2), h2]
          rw [h2']
          simp only
          unfold escD at h ⊢
          split at h
          · split at h
            · injection h with h; injection h with h1 h2; subst h1; cases hb
            · cases h
          · next hdg =>
            rw [if_neg hdg]
            cases he : escB b with
            | none => rw [he] at h; cases h
            | some z =>
              obtain ⟨S, m⟩ := z
              rw [he] at h
              simp only at h ⊢
              injection h with h; injection h with h1 h2; subst h1; subst h2
              cases m
              · simp only [Bool.false_eq_true, if_false, sh_go]; rfl
              · simp only [if_true, sh_go, sh_mark]; rfl
      · next e =>
        rw [if_neg e]
        split at h
        · next e =>
          rw [if_pos e]
          cases hp : prs l (s.at_ + 1) with
          | inl z => rw [hp] at h; cases h
          | inr z =>
            obtain ⟨S, j⟩ := z
            rw [hp] at h
            simp only at h
            injection h with h; injection h with h1 h2; subst h1; subst h2
            rw [sh_at, show p.length + s.at_ + 1 = p.length + (s.at_ + 1) from by omega, cx_prs hp]
            simp only [sh_to]; rfl
        · next e =>
          rw [if_neg e]
          split at h
          · next e => rw [if_pos e]; injection h with h; injection h with h1 h2; subst h1; subst h2; rw [sh_go]; rfl
          · next e => rw [if_neg e]; injection h with h; injection h with h1 h2; subst h1; subst h2; rw [sh_go]; rfl

/-- The branch ends where it ended. -/
def EndsE (q : List UInt8) (inner : Bool) : Prop := q = [] ∨ (inner = true ∧ ∃ r, q = 41 :: r) ∨ ∃ r, q = 124 :: r

theorem ce_br (hC : ∀ f, C = some f → KeptE l f) {inner inner' : Bool} (hin : inner = inner' ∨ inner = false) : ∀ (m m' : Nat) (first first' front : Bool) (s : RxS) (ps : List Nd) (t : Nd) (s' : RxS), units ps → Sane l s → l.length < m + s.at_ → (p ++ (l ++ q)).length < m' + (p.length + s.at_) →
    (s'.at_ < l.length ∨ EndsE q inner') → brD prg true l C inner m first front s ps = .inr (t, s') → t.backs = false → (t.deep ≤ d ∨ E) →
    brD prg true (p ++ (l ++ q)) C' inner' m' first' front (s.sh p.length o c0 m0) (Nd.turns o ps) = .inr (t.turn o, s'.sh p.length o c0 m0) ∧ Nd.backss ps = false ∧ (Nd.deeps ps ≤ d ∨ E)
  | 0, _, first, first', front, s, ps, t, s', hu, hs, hm, _, _, _, _, _ => by have := hs.le; omega
  | m + 1, m', first, first', front, s, ps, t, s', hu, hs, hm, hm', hE, h, hb, hd => by
    obtain ⟨k, rfl⟩ : ∃ k, m' = k + 1 := ⟨m' - 1, by have := hs.le; simp only [List.length_append] at hm'; omega⟩
    have hfin : t = joined ps → Nd.backss ps = false ∧ (Nd.deeps ps ≤ d ∨ E) := fun e => by
      subst e; rw [joined_backs hu] at hb; rw [joined_deep hu] at hd; exact ⟨hb, hd⟩
    cases hc : l[s.at_]? with
    | none =>
      rw [brD_none hc] at h
      injection h with h; injection h with h1 h2
      have hle := hs.le
      have hat : s.at_ = l.length := by have := List.getElem?_eq_none_iff.1 hc; omega
      have hE' : EndsE q inner' := by
        rcases hE with hE | hE
        · subst h2; omega
        · exact hE
      refine ⟨?_, hfin h1.symm⟩
      have hg : (p ++ (l ++ q))[(s.sh p.length o c0 m0).at_]? = q[0]? := by rw [sh_at, hat]; exact ce_end
      rcases hE' with h0 | ⟨hi, r, h0⟩ | ⟨r, h0⟩
      · rw [brD_none (by rw [hg, h0]; rfl), joined_turn hu, h1, h2]
      · rw [brD_some (c := 41) (by rw [hg, h0]; rfl), if_pos (.inl ⟨rfl, hi⟩), joined_turn hu, h1, h2]
      · rw [brD_some (c := 124) (by rw [hg, h0]; rfl), if_pos (.inr rfl), joined_turn hu, h1, h2]
    | some c =>
      have hl := getE_lt hc
      have hc' : (p ++ (l ++ q))[(s.sh p.length o c0 m0).at_]? = some c := by rw [sh_at, ce_get hl, hc]
      rw [brD_some hc] at h
      rw [brD_some hc']
      have one : ∀ u : Nd, u.turn o = u → u.backs = false → u.deep = 0 → u.unit = true → brD prg true l C inner m false true (s.go 1) (ps ++ [u]) = .inr (t, s') →
          brD prg true (p ++ (l ++ q)) C' inner' k false true ((s.sh p.length o c0 m0).go 1) (Nd.turns o ps ++ [u]) = .inr (t.turn o, s'.sh p.length o c0 m0) ∧ Nd.backss ps = false ∧ (Nd.deeps ps ≤ d ∨ E) := fun u hu1 hu2 hu3 hu4 h => by
        obtain ⟨r1, r2, r3⟩ := ce_br hC hin m k false false true (s.go 1) (ps ++ [u]) t s' (hu.snoc hu4) (hs.go (n := 1) hl) (by show _ < m + (s.at_ + 1); omega) (by show _ < k + (p.length + (s.at_ + 1)); omega) hE h hb hd
        rw [Nd.turns_append, sh_go] at r1
        rw [backss_snoc, Bool.or_eq_false_iff] at r2
        rw [deeps_snoc] at r3
        rw [show Nd.turns (o : Int) [u] = [u] from by show [u.turn o] = _; rw [hu1]] at r1
        exact ⟨r1, r2.1, r3.imp (fun h => by omega) id⟩
      by_cases e1 : (c = 41 ∧ inner = true) ∨ c = 124
      · rw [if_pos e1] at h
        injection h with h; injection h with h1 h2
        refine ⟨?_, hfin h1.symm⟩
        rw [if_pos (e1.imp (fun e => ⟨e.1, by rcases hin with rfl | rfl; exact e.2; cases e.2⟩) id), joined_turn hu, h1, h2]
      · rw [if_neg e1] at h
        have hno : ¬ (c = 41 ∧ inner' = true) := fun e => by
          have h41 := e.1
          rw [if_neg (by rw [h41]; decide), if_neg (by rw [h41]; decide), if_neg (fun e => by rcases e.2 with e | e | e | e <;> (rw [h41] at e; revert e; decide)), atomD_T hc, if_neg (by rw [h41]; decide), if_pos h41] at h
          cases h
        rw [if_neg (fun e => e.elim hno (fun e => e1 (.inr e)))]
        by_cases e2 : c = 94
        · rw [if_pos e2] at h ⊢
          exact one .start rfl rfl rfl rfl h
        · rw [if_neg e2] at h ⊢
          by_cases e3 : c = 36
          · rw [if_pos e3] at h ⊢
            exact one .fin rfl rfl rfl rfl h
          · rw [if_neg e3] at h ⊢
            by_cases e4 : front = true ∧ (c = 123 ∨ c = 43 ∨ c = 63 ∨ c = 42)
            · rw [if_pos e4] at h; cases h
            · rw [if_neg e4] at h ⊢
              cases ha : atomD prg true l C s with
              | inl e => rw [ha] at h; cases h
              | inr z =>
                obtain ⟨t1, s1⟩ := z
                rw [ha] at h
                simp only at h
                obtain ⟨k1, k2, _⟩ := atomD_kept hC hs ha
                cases hr : repD prg true l (l.length + 1) s1 t1 with
                | inl e => rw [hr] at h; cases h
                | inr z =>
                  obtain ⟨t2, s2⟩ := z
                  rw [hr] at h
                  simp only at h
                  obtain ⟨j1, j2, _⟩ := repD_kept _ _ _ _ _ k1 hr
                  obtain ⟨q1, q2⟩ := repD_same _ _ _ _ _ hr
                  obtain ⟨r1, r2, r3⟩ := ce_br hC hin m k false false false s2 (ps ++ [t2]) t s' (hu.snoc (repD_unit _ _ _ _ _ (atomD_unit hc ha) hr)) j1 (by omega) (by omega) hE h hb hd
                  rw [backss_snoc, Bool.or_eq_false_iff] at r2
                  rw [deeps_snoc] at r3
                  rw [ce_atom hS hs hc ha (by rw [← q1]; exact r2.2) (r3.imp (fun h => by rw [← q2]; omega) id)]
                  simp only
                  rw [ce_rep hq _ _ _ _ _ _ k1.le (by omega) (by simp only [List.length_append]; omega) hr]
                  simp only
                  rw [Nd.turns_append] at r1
                  exact ⟨r1, r2.1, r3.imp (fun h => by omega) id⟩

theorem ce_branch (hC : ∀ f, C = some f → KeptE l f) {inner inner' : Bool} (hin : inner = inner' ∨ inner = false) {s s' : RxS} {t : Nd} (hs : Sane l s) (hE : s'.at_ < l.length ∨ EndsE q inner') (h : branchD prg true l C inner s = .inr (t, s')) (hb : t.backs = false) (hd : t.deep ≤ d ∨ E) :
    branchD prg true (p ++ (l ++ q)) C' inner' (s.sh p.length o c0 m0) = .inr (t.turn o, s'.sh p.length o c0 m0) := by
  unfold branchD at h ⊢
  exact (ce_br hq hS hC hin _ _ _ _ _ _ [] _ _ (fun x hx => by cases hx) hs (by split <;> omega) (by split <;> omega) hE h hb hd).1

theorem ce_ch (hC : ∀ f, C = some f → KeptE l f) {inner inner' : Bool} (hin : inner = inner' ∨ inner = false) (pre : List Nd) : ∀ (m m' : Nat) (s : RxS) (ts : List Nd) (t : Nd) (s' : RxS), brns ts → Sane l s → l.length < m + s.at_ → (p ++ (l ++ q)).length < m' + (p.length + s.at_) →
    (s'.at_ < l.length ∨ EndsE q inner') → chLoopD prg true l C inner m s ts = .inr (t, s') → t.backs = false → (t.deep ≤ d ∨ E) →
    ∃ tsf k, t = chosen tsf ∧ brns tsf ∧ chLoopD prg true (p ++ (l ++ q)) C' inner' m' (s.sh p.length o c0 m0) (pre ++ Nd.turns o ts) = chLoopD prg true (p ++ (l ++ q)) C' inner' k (s'.sh p.length o c0 m0) (pre ++ Nd.turns o tsf) ∧
      (p ++ (l ++ q)).length < k + (p.length + s'.at_) ∧ Nd.backss ts = false ∧ (Nd.deeps ts ≤ d ∨ E) ∧ Sane l s' ∧ ¬ l[s'.at_]? = some 124 ∧ s.at_ ≤ s'.at_ ∧ ts.length ≤ tsf.length
  | 0, _, s, ts, t, s', hu, hs, hm, _, _, _, _, _ => by have := hs.le; omega
  | m + 1, m', s, ts, t, s', hu, hs, hm, hm', hE, h, hb, hd => by
    obtain ⟨k, rfl⟩ : ∃ k, m' = k + 1 := ⟨m' - 1, by have := hs.le; simp only [List.length_append] at hm'; omega⟩
    rw [chLoopD_T] at h
    by_cases ha : l[s.at_]? = some 124
    · rw [if_pos ha] at h
      have hle := getE_lt ha
      cases hbr : branchD prg true l C inner (s.go 1) with
      | inl e => rw [hbr] at h; cases h
      | inr z =>
        obtain ⟨t1, s1⟩ := z
        rw [hbr] at h
        simp only at h
        have hs2 := hs.go (n := 1) hle
        obtain ⟨k1, k2, _⟩ := branchD_kept hC hs2 hbr
        have k2 : s.at_ + 1 ≤ s1.at_ := k2
        obtain ⟨tsf, k', e1, e2, e3, e4, e5, e6, e7, e8, e9, e10⟩ := ce_ch hC hin pre m k s1 (ts ++ [t1]) t s' (hu.snoc (branchD_brn hbr)) k1 (by omega) (by omega) hE h hb hd
        rw [backss_snoc, Bool.or_eq_false_iff] at e5
        rw [deeps_snoc] at e6
        refine ⟨tsf, k', e1, e2, ?_, e4, e5.1, e6.imp (fun h => by omega) id, e7, e8, by omega, by simp only [List.length_append, List.length_singleton] at e10; omega⟩
        rw [← e3, chLoopD_T, if_pos (by rw [sh_at, ce_get hle]; exact ha), ← sh_go,
          ce_branch hq hS hC hin hs2 (by rcases hE with hE | hE; exact .inl (by omega); exact .inr hE) hbr e5.2 (e6.imp (fun h => by omega) id)]
        simp only
        simp only [Nd.turns_append, Nd.turns, List.append_assoc]
    · rw [if_neg ha] at h
      injection h with h; injection h with h1 h2; subst h1; subst h2
      refine ⟨ts, k + 1, rfl, hu, rfl, hm', ?_, ?_, hs, ha, Nat.le_refl _, Nat.le_refl _⟩
      · rw [chosen_backs hu] at hb; exact hb
      · rw [chosen_deep hu] at hd; exact hd

theorem ce_choice (hC : ∀ f, C = some f → KeptE l f) {inner inner' : Bool} (hin : inner = inner' ∨ inner = false) {s s' : RxS} {t : Nd} (hs : Sane l s) (hE : s'.at_ < l.length ∨ q = [] ∨ (inner' = true ∧ ∃ r, q = 41 :: r)) (h : choiceD prg true l C inner s = .inr (t, s')) (hb : t.backs = false) (hd : t.deep ≤ d ∨ E) :
    choiceD prg true (p ++ (l ++ q)) C' inner' (s.sh p.length o c0 m0) = .inr (t.turn o, s'.sh p.length o c0 m0) := by
  have hE' : s'.at_ < l.length ∨ EndsE q inner' := by
    rcases hE with h | h | h
    · exact .inl h
    · exact .inr (.inl h)
    · exact .inr (.inr (.inl h))
  unfold choiceD at h ⊢
  cases hbr : branchD prg true l C inner s with
  | inl e => rw [hbr] at h; cases h
  | inr z =>
    obtain ⟨t1, s1⟩ := z
    rw [hbr] at h
    simp only at h
    obtain ⟨k1, k2, _⟩ := branchD_kept hC hs hbr
    obtain ⟨tsf, k', e1, e2, e3, e4, e5, e6, e7, e8, e9, _⟩ := ce_ch (o := o) (c0 := c0) (m0 := m0) hq hS hC hin [] (l.length + 1) ((p ++ (l ++ q)).length + 1) s1 [t1] t s' (fun x hx => by rw [List.mem_singleton.1 hx]; exact branchD_brn hbr) k1 (by omega) (by omega) hE' h hb hd
    have b1 : t1.backs = false := by simpa [Nd.backss] using e5
    have b2 : t1.deep ≤ d ∨ E := by simpa [Nd.deeps] using e6
    rw [ce_branch hq hS hC hin hs (by rcases hE' with h | h; exact .inl (by omega); exact .inr h) hbr b1 b2]
    simp only
    have e3' : chLoopD prg true (p ++ (l ++ q)) C' inner' ((p ++ (l ++ q)).length + 1) (s1.sh p.length o c0 m0) [t1.turn o] = _ := e3
    rw [e3']
    obtain ⟨k2, rfl⟩ : ∃ k2, k' = k2 + 1 := ⟨k' - 1, by have := e7.le; simp only [List.length_append] at e4; omega⟩
    rw [chLoopD_T, if_neg ?_]
    · rw [List.nil_append]; show Sum.inr (chosen _, _) = _; rw [chosen_turn e2, e1]
    · rw [sh_at]
      by_cases hlt : s'.at_ < l.length
      · rw [ce_get hlt]; exact e8
      · obtain hat : s'.at_ = l.length := by have := e7.le; omega
        rw [hat, ce_end]
        rcases hE with h0 | h0 | ⟨_, r, h0⟩
        · omega
        · rw [h0]; simp
        · rw [h0]; simp
end

/-- What reads a group's inside, so many levels being left. -/
def levE (l : List UInt8) : Nat → Option (RxS → Out Nd)
  | 0 => none
  | n + 1 => some (chD prg true l n)
theorem chD_lev (l : List UInt8) (n : Nat) : chD prg true l n = choiceD prg true l (levE l n) (decide (n < 12)) := by
  cases n with
  | zero => funext s; rw [chD]; rfl
  | succ n => funext s; rw [chD]; rfl
theorem levE_kept (l : List UInt8) (n : Nat) : ∀ f, levE l n = some f → KeptE l f := by
  cases n with
  | zero => intro f h; cases h
  | succ n => intro f h; injection h with h; subst h; exact chD_kept n
theorem subE_lev {p l q : List UInt8} (hq : TailE q) {o : Nat} {c0 : List Nat} {m0 : List (Nat × List UInt8)} : ∀ (d n m : Nat), d ≤ n → d ≤ m → n ≤ 12 → m ≤ 12 → SubE p l o c0 m0 d (n = m) (levE l n) (levE (p ++ (l ++ q)) m)
  | d, n + 1, m + 1, h1, h2, h3, h4 => by
    intro f hf s t s' hs h hat hb hd
    injection hf with hf; subst hf
    refine ⟨_, rfl, ?_⟩
    rw [chD_lev, decide_eq_true (by omega : n < 12)] at h
    rw [chD_lev, decide_eq_true (by omega : m < 12)]
    exact ce_choice hq (subE_lev hq (d - 1) n m (by omega) (by omega) (by omega) (by omega)) (levE_kept l n) (.inl rfl) hs (.inl hat) h hb (hd.imp (fun h => by omega) (fun h => by omega))
  | d, 0, _, h, _, _, _ => fun f hf => by cases hf
  | d, n + 1, 0, _, h, _, _ => fun f hf s t s' _ _ _ _ hd => by
    rcases hd with hd | hd
    · omega
    · omega

/-! ### Where a reading ends that stands in no group -/
theorem brD_stops {l : List UInt8} {C : Option (RxS → Out Nd)} (hC : ∀ f, C = some f → KeptE l f) : ∀ (m : Nat) (first front : Bool) (s : RxS) (ps : List Nd) (t : Nd) (s' : RxS), Sane l s → l.length < m + s.at_ → brD prg true l C false m first front s ps = .inr (t, s') → s'.at_ = l.length ∨ l[s'.at_]? = some 124
  | 0, first, front, s, ps, t, s', hs, hm, _ => by have := hs.le; omega
  | m + 1, first, front, s, ps, t, s', hs, hm, h => by
    have hle := hs.le
    cases hc : l[s.at_]? with
    | none =>
      rw [brD_none hc] at h; injection h with h; injection h with h2 h3; subst h3
      have := List.getElem?_eq_none_iff.1 hc
      exact .inl (by omega)
    | some c =>
      have hl := getE_lt hc
      rw [brD_some hc] at h
      split at h
      · next e =>
        injection h with h; injection h with h2 h3; subst h3
        rcases e with e | e
        · cases e.2
        · rw [hc, e]; exact .inr rfl
      · split at h
        · exact brD_stops hC m _ _ _ _ _ _ (hs.go (n := 1) hl) (by show _ < m + (s.at_ + 1); omega) h
        · split at h
          · exact brD_stops hC m _ _ _ _ _ _ (hs.go (n := 1) hl) (by show _ < m + (s.at_ + 1); omega) h
          · split at h
            · cases h
            · cases ha : atomD prg true l C s with
              | inl e => rw [ha] at h; cases h
              | inr z =>
                obtain ⟨t1, s1⟩ := z
                rw [ha] at h
                simp only at h
                obtain ⟨k1, k2, _⟩ := atomD_kept hC hs ha
                cases hr : repD prg true l (l.length + 1) s1 t1 with
                | inl e => rw [hr] at h; cases h
                | inr z =>
                  obtain ⟨t2, s2⟩ := z
                  rw [hr] at h
                  obtain ⟨j1, j2, _⟩ := repD_kept _ _ _ _ _ k1 hr
                  exact brD_stops hC m _ _ _ _ _ _ j1 (by omega) h
theorem branchD_stops {l : List UInt8} {C : Option (RxS → Out Nd)} (hC : ∀ f, C = some f → KeptE l f) {s s' : RxS} {t : Nd} (hs : Sane l s) (h : branchD prg true l C false s = .inr (t, s')) : s'.at_ = l.length ∨ l[s'.at_]? = some 124 :=
  brD_stops hC _ _ _ _ _ _ _ hs (by split <;> omega) h
theorem chLoopD_stops {l : List UInt8} {C : Option (RxS → Out Nd)} (hC : ∀ f, C = some f → KeptE l f) : ∀ (m : Nat) (s : RxS) (ts : List Nd) (t : Nd) (s' : RxS), Sane l s → l.length < m + s.at_ → (s.at_ = l.length ∨ l[s.at_]? = some 124) → chLoopD prg true l C false m s ts = .inr (t, s') → s'.at_ = l.length
  | 0, s, ts, t, s', hs, hm, _, _ => by have := hs.le; omega
  | m + 1, s, ts, t, s', hs, hm, hE, h => by
    rw [chLoopD_T] at h
    by_cases ha : l[s.at_]? = some 124
    · rw [if_pos ha] at h
      have hle := getE_lt ha
      have hs2 := hs.go (n := 1) hle
      cases hb : branchD prg true l C false (s.go 1) with
      | inl e => rw [hb] at h; cases h
      | inr z =>
        obtain ⟨t1, s1⟩ := z
        rw [hb] at h
        obtain ⟨k1, k2, _⟩ := branchD_kept hC hs2 hb
        have k2 : s.at_ + 1 ≤ s1.at_ := k2
        exact chLoopD_stops hC m _ _ _ _ k1 (by omega) (branchD_stops hC hs2 hb) h
    · rw [if_neg ha] at h
      injection h with h; injection h with h1 h2; subst h2
      exact hE.resolve_right ha
theorem choiceD_stops {l : List UInt8} {C : Option (RxS → Out Nd)} (hC : ∀ f, C = some f → KeptE l f) {s s' : RxS} {t : Nd} (hs : Sane l s) (h : choiceD prg true l C false s = .inr (t, s')) : s'.at_ = l.length := by
  unfold choiceD at h
  cases hb : branchD prg true l C false s with
  | inl e => rw [hb] at h; cases h
  | inr z =>
    obtain ⟨t1, s1⟩ := z
    rw [hb] at h
    obtain ⟨k1, k2, _⟩ := branchD_kept hC hs hb
    exact chLoopD_stops hC _ _ _ _ _ k1 (by omega) (branchD_stops hC hs hb) h

def initE : RxS := ⟨0, 0, [], []⟩
theorem sane_initE (l : List UInt8) : Sane l initE := ⟨Nat.zero_le _, Nat.le_refl _, Nat.le_refl _, Nat.le_refl _⟩
theorem parseD_in {l : List UInt8} (h : l.length ≤ 250) : parseD prg true l = choiceD prg true l (levE l 12) false initE := by
  unfold parseD; rw [if_neg (by omega), chD_lev]; rfl

/-- A regex in a group. -/
theorem parseE_group {l : List UInt8} (hl : l.length ≤ 200) {a : Nd} {s1 : RxS} (h : parseD prg true l = .inr (a, s1)) (hb : a.backs = false) (hd : a.deep < 12) :
    ∃ s2, parseD prg true ([40] ++ (l ++ [41])) = .inr (.group 1 (a.turn 1), s2) ∧ s2.marks = s1.marks.map fun m => (1 + m.1, m.2) := by
  rw [parseD_in (by omega)] at h
  have hat := choiceD_stops (levE_kept l 12) (sane_initE l) h
  have hq : TailE [41] := .inr (.inl ⟨[], rfl⟩)
  have hc := ce_choice (p := [40]) (o := 1) (c0 := []) (m0 := []) hq (subE_lev hq 11 12 11 (by omega) (by omega) (by omega) (by omega)) (levE_kept l 12) (inner' := true) (.inr rfl) (sane_initE l) (.inr (.inr ⟨rfl, [], rfl⟩)) h hb (.inl (by omega))
  obtain ⟨L, hL⟩ : ∃ L, L = ([40] : List UInt8) ++ (l ++ [41]) := ⟨_, rfl⟩
  have hlast : L[1 + l.length]? = some 41 := by rw [hL]; exact ce_end (p := [40]) (l := l) (q := [41])
  rw [← hL] at hc ⊢
  have hlen : L.length = l.length + 2 := by rw [hL]; simp
  have h0 : L[0]? = some 40 := by rw [hL]; rfl
  have hov : L[L.length]? = none := by simp
  obtain ⟨z, hz⟩ : ∃ z : RxS, z = ⟨L.length, s1.opened + 1, (s1.closed.map (· + 1)) ++ [1], s1.marks.map fun m => (1 + m.1, m.2)⟩ := ⟨_, rfl⟩
  have hzl : z.at_ = L.length := by rw [hz]
  have hgr : groupD prg true L (levE L 12) initE = .inr (.group 1 (a.turn 1), z) := by
    rw [groupD_T]
    show (match chD prg true L 11 { initE.go 1 with opened := initE.opened + 1 } with | .inl e => _ | .inr (t, s') => _) = _
    have e : ({ initE.go 1 with opened := initE.opened + 1 } : RxS) = initE.sh ([40] : List UInt8).length 1 [] [] := rfl
    rw [e, chD_lev, decide_eq_true (by omega : 11 < 12), hc]
    simp only
    rw [if_pos (by rw [sh_at, hat]; exact hlast)]
    rw [hz]
    congr 2
    simp [RxS.sh, RxS.go, hat, hlen, initE]; omega
  refine ⟨z, ?_, by rw [hz]⟩
  rw [parseD_in (by omega)]
  unfold choiceD branchD
  obtain ⟨k, hk⟩ : ∃ k, (if sgn L initE.at_ == [94] then L.length + 2 else L.length + 1) = k + 2 := ⟨(if sgn L initE.at_ == [94] then L.length else L.length - 1), by split <;> omega⟩
  rw [hk, brD_some (s := initE) h0]
  rw [if_neg (by simp), if_neg (by decide), if_neg (by decide), if_neg (by simp), atomD_T (s := initE) h0, if_pos rfl, hgr]
  simp only
  rw [repD_T, hzl]
  simp only [hov, reduceCtorEq, if_false]
  rw [brD_none (by rw [hzl]; exact hov)]
  simp only
  rw [chLoopD_T, if_neg (by rw [hzl, hov]; simp)]
  rfl

/-- Two regexes with a bar between. -/
theorem parseE_two {l r : List UInt8} (hl : l.length ≤ 120) (hr : r.length ≤ 120) {a b : Nd} {s1 s2 : RxS} (h1 : parseD prg true l = .inr (a, s1)) (h2 : parseD prg true r = .inr (b, s2)) (hb1 : a.backs = false) (hb2 : b.backs = false) :
    ∃ ta tb s3, a = chosen ta ∧ b = chosen tb ∧ brns ta ∧ brns tb ∧ ta ≠ [] ∧ tb ≠ [] ∧ parseD prg true (l ++ ([124] ++ r)) = .inr (chosen (ta ++ Nd.turns (s1.opened : Nat) tb), s3) ∧
      s3.marks = s1.marks ++ s2.marks.map fun m => (l.length + 1 + m.1, m.2) := by
  rw [parseD_in (by omega)] at h1 h2
  have hat1 := choiceD_stops (levE_kept l 12) (sane_initE l) h1
  have hat2 := choiceD_stops (levE_kept r 12) (sane_initE r) h2
  have hq1 : TailE ([124] ++ r) := .inr (.inr ⟨r, rfl⟩)
  have hq2 : TailE ([] : List UInt8) := .inl rfl
  have hE1 : EndsE ([124] ++ r) false := .inr (.inr ⟨r, rfl⟩)
  have hE2 : EndsE ([] : List UInt8) false := .inl rfl
  obtain ⟨L, hL⟩ : ∃ L, L = l ++ ([124] ++ r) := ⟨_, rfl⟩
  have hL1 : [] ++ (l ++ ([124] ++ r)) = L := hL.symm
  have hL2 : (l ++ [124]) ++ (r ++ []) = L := by rw [hL]; simp
  have hlen : L.length = l.length + 1 + r.length := by rw [hL]; simp; omega
  have hp2 : (l ++ [124]).length = l.length + 1 := by simp
  have hS1 := subE_lev (p := []) (l := l) (q := [124] ++ r) hq1 (o := 0) (c0 := []) (m0 := []) 12 12 12 (by omega) (by omega) (by omega) (by omega)
  have hS2 := subE_lev (p := l ++ [124]) (l := r) (q := []) hq2 (o := s1.opened) (c0 := s1.closed) (m0 := s1.marks) 12 12 12 (by omega) (by omega) (by omega) (by omega)
  rw [hL1] at hS1
  rw [hL2] at hS2
  unfold choiceD at h1 h2
  cases e1 : branchD prg true l (levE l 12) false initE with
  | inl e => rw [e1] at h1; cases h1
  | inr z1 =>
  obtain ⟨u1, v1⟩ := z1
  rw [e1] at h1
  cases e2 : branchD prg true r (levE r 12) false initE with
  | inl e => rw [e2] at h2; cases h2
  | inr z2 =>
  obtain ⟨u2, v2⟩ := z2
  rw [e2] at h2
  simp only at h1 h2
  obtain ⟨kv1, _, _⟩ := branchD_kept (levE_kept l 12) (sane_initE l) e1
  obtain ⟨kv2, _, _⟩ := branchD_kept (levE_kept r 12) (sane_initE r) e2
  obtain ⟨ta, k1, ea, ba, ca, fa, xa, _, _, _, _, na⟩ := ce_ch (p := []) (q := [124] ++ r) (o := 0) (c0 := []) (m0 := []) (C' := levE L 12) hq1 hS1 (levE_kept l 12) (inner' := false) (.inl rfl) [] (l.length + 1) (L.length + 1) v1 [u1] a s1 (fun x hx => by rw [List.mem_singleton.1 hx]; exact branchD_brn e1) kv1 (by omega) (by rw [hL1]; simp; omega) (.inr hE1) h1 hb1 (.inr rfl)
  rw [hL1] at ca fa
  have bu1 : u1.backs = false := by simpa [Nd.backss] using xa
  have cb1 := ce_branch (p := []) (q := [124] ++ r) (o := 0) (c0 := []) (m0 := []) (C' := levE L 12) hq1 hS1 (levE_kept l 12) (inner' := false) (.inl rfl) (sane_initE l) (.inr hE1) e1 bu1 (.inr rfl)
  rw [hL1] at cb1
  simp only [List.length_nil, sh_zero, Int.ofNat_zero, Nd.turn_zero, Nd.turns_zero, List.nil_append, Nat.zero_add, Int.natCast_zero] at ca cb1 fa
  obtain ⟨k2, rfl⟩ : ∃ k2, k1 = k2 + 1 := ⟨k1 - 1, by omega⟩
  obtain ⟨tb, k3, eb, bb, cb, fb, xb, _, _, _, _, nb⟩ := ce_ch (p := l ++ [124]) (q := []) (o := s1.opened) (c0 := s1.closed) (m0 := s1.marks) (C' := levE L 12) hq2 hS2 (levE_kept r 12) (inner' := false) (.inl rfl) ta (r.length + 1) k2 v2 [u2] b s2 (fun x hx => by rw [List.mem_singleton.1 hx]; exact branchD_brn e2) kv2 (by omega) (by rw [hL2]; have := kv2.le; omega) (.inr hE2) h2 hb2 (.inr rfl)
  rw [hL2] at cb fb
  have bu2 : u2.backs = false := by simpa [Nd.backss] using xb
  have cb2 := ce_branch (p := l ++ [124]) (q := []) (o := s1.opened) (c0 := s1.closed) (m0 := s1.marks) (C' := levE L 12) hq2 hS2 (levE_kept r 12) (inner' := false) (.inl rfl) (sane_initE r) (.inr hE2) e2 bu2 (.inr rfl)
  rw [hL2] at cb2
  have hst : initE.sh (l ++ [124]).length s1.opened s1.closed s1.marks = s1.go 1 := by
    unfold RxS.sh initE RxS.go
    simp [hat1]
  rw [hst] at cb2
  have hab : L[s1.at_]? = some 124 := by rw [hat1, hL]; simp
  have hov : ∀ k, chLoopD prg true L (levE L 12) false (k + 1) (s2.sh (l ++ [124]).length s1.opened s1.closed s1.marks) (ta ++ Nd.turns (s1.opened : Nat) tb) = .inr (chosen (ta ++ Nd.turns (s1.opened : Nat) tb), s2.sh (l ++ [124]).length s1.opened s1.closed s1.marks) := fun k => by
    rw [chLoopD_T, if_neg (by rw [sh_at, hat2, List.getElem?_eq_none (by rw [hp2, hlen]; omega)]; simp)]
  obtain ⟨k4, rfl⟩ : ∃ k4, k3 = k4 + 1 := ⟨k3 - 1, by rw [hp2, hat2] at fb; omega⟩
  refine ⟨ta, tb, s2.sh (l ++ [124]).length s1.opened s1.closed s1.marks, ea, eb, ba, bb, ?_, ?_, ?_, ?_⟩
  · rintro rfl; simp at na
  · rintro rfl; simp at nb
  · rw [← hL, parseD_in (by omega)]
    unfold choiceD
    rw [cb1]
    simp only
    rw [ca, chLoopD_T, if_pos hab, cb2]
    simp only
    have cb' : chLoopD prg true L (levE L 12) false k2 (v2.sh (l ++ [124]).length s1.opened s1.closed s1.marks) (ta ++ [u2.turn (s1.opened : Nat)]) = _ := cb
    rw [cb', hov]
  · simp [RxS.sh, hp2]
end Go.Proofs.YtepeomphikhbkaaDoor
