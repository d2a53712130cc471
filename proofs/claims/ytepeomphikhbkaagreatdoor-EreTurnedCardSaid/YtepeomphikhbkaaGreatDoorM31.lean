/-
  Merged texts of this claim: BreW.
-/
import Derived.Test.YtepeomphikhbkaaGreatDoorM27

/-
  A basic regex in plain words: the same reading within a text. No walk.
-/
namespace Go.Proofs.YtepeomphikhbkaaGreatDoor
open Go.RowKit

/-! ### How many groups; backs and depths of parts -/
theorem repS_same {l : List UInt8} : ∀ (n : Nat) (s : RxS) (t t' : Nd) (s' : RxS), repS prg l n s t = .inr (t', s') → t'.backs = t.backs ∧ t'.deep = t.deep ∧ t'.groups = t.groups ∧ s'.opened = s.opened ∧ s'.closed = s.closed
  | 0, s, t, t', s', h => by rw [repS] at h; injection h with h; injection h with h1 h2; subst h1; subst h2; exact ⟨rfl, rfl, rfl, rfl, rfl⟩
  | n + 1, s, t, t', s', h => by
    rw [repS] at h
    split at h
    · (have := repS_same n _ _ _ _ h; simpa [prg, Nd.backs, Nd.deep, Nd.groups, RxS.go, RxS.mark, RxS.to] using this)
    · split at h
      · (have := repS_same n _ _ _ _ h; simpa [prg, Nd.backs, Nd.deep, Nd.groups, RxS.go, RxS.mark, RxS.to] using this)
      · split at h
        · split at h
          · cases h
          · (have := repS_same n _ _ _ _ h; simpa [prg, Nd.backs, Nd.deep, Nd.groups, RxS.go, RxS.mark, RxS.to] using this)
        · split at h
          · (have := repS_same n _ _ _ _ h; simpa [prg, Nd.backs, Nd.deep, Nd.groups, RxS.go, RxS.mark, RxS.to] using this)
          · injection h with h; injection h with h1 h2; subst h1; subst h2; exact ⟨rfl, rfl, rfl, rfl, rfl⟩

/-- A reading opens as many groups as its tree has. -/
def Opens (f : RxS → Out Nd) : Prop := ∀ s t s', f s = .inr (t, s') → s'.opened = s.opened + t.groups
section
variable {l : List UInt8} {C : Option (RxS → Out Nd)} (hC : ∀ f, C = some f → Opens f)
include hC
theorem groupS_opens {p : Nat} : Opens (groupS prg l C p) := by
  intro s t s' h
  unfold groupS at h
  cases C with
  | none => cases h
  | some f =>
    simp only at h
    cases hf : f { s with opened := s.opened + 1 } with
    | inl e => rw [hf] at h; cases h
    | inr z =>
      obtain ⟨t1, s1⟩ := z
      rw [hf] at h
      simp only at h
      split at h
      · injection h with h; injection h with h1 h2; subst h1; subst h2
        have := hC f rfl _ _ _ hf
        have e : s1.opened = s.opened + 1 + t1.groups := this
        show s1.opened = s.opened + Nd.groups (.group _ t1)
        rw [Nd.groups]
        omega
      · cases h
theorem atomS_opens {b : UInt8} : Opens (fun s => atomS prg l C s b) := by
  intro s t s' h
  simp only at h
  unfold atomS at h
  split at h
  · unfold escS at h
    split at h
    · cases h
    · split at h
      · exact groupS_opens hC (s.go 2) t s' h
      · split at h
        · cases h
        · split at h
          · split at h
            · injection h with h; injection h with h1 h2; subst h1; subst h2; rfl
            · cases h
          · split at h
            · cases h
            · injection h with h; injection h with h1 h2; subst h1; subst h2; split <;> rfl
  · split at h
    · split at h
      · cases h
      · injection h with h; injection h with h1 h2; subst h1; subst h2; rfl
    · split at h
      · injection h with h; injection h with h1 h2; subst h1; subst h2; rfl
      · injection h with h; injection h with h1 h2; subst h1; subst h2; rfl
theorem rndS_opens {b : UInt8} : Opens (fun s => rndS l C s b) := by
  intro s t s' h
  simp only at h
  unfold rndS at h
  cases hp : atomS prg l C s b with
  | inl z => rw [hp] at h; cases h
  | inr y =>
    obtain ⟨t1, s1⟩ := y
    rw [hp] at h
    simp only at h
    have h1 := atomS_opens hC s t1 s1 hp
    obtain ⟨_, _, h2, h3, _⟩ := repS_same _ _ _ _ _ h
    omega
theorem brS_opens {inner : Bool} : ∀ (n : Nat) (front : Bool) (s : RxS) (ps : List Nd) (t : Nd) (s' : RxS), units ps → brS prg l C inner n front s ps = .inr (t, s') → s'.opened + Nd.groupss ps = s.opened + t.groups
  | 0, front, s, ps, t, s', hu, h => by rw [brS] at h; injection h with h; injection h with h1 h2; subst h1; subst h2; show s.opened + _ = s.opened + (joined ps).groups; rw [joined_groups hu]
  | n + 1, front, s, ps, t, s', hu, h => by
    by_cases hl : s.at_ < l.length
    · cases h1 : (ahd l s.at_ [92, 124] || (inner && ahd l s.at_ [92, 41])) with
      | true => rw [brS_stop hl h1] at h; injection h with h; injection h with h1 h2; subst h1; subst h2; rw [joined_groups hu]
      | false =>
        cases h2 : (front && (ahd l s.at_ [92, 123] || (ahd l s.at_ [92, 43] || ahd l s.at_ [92, 63]))) with
        | true => rw [brS_bad hl h1 h2] at h; cases h
        | false =>
          cases h3 : (ahd l s.at_ [36] && lastS l s.at_) with
          | true =>
            rw [brS_fin hl h1 h2 h3] at h
            have := brS_opens n _ _ _ _ _ (hu.snoc (by rfl)) h
            rw [groupss_snoc] at this
            have e : s'.opened + (Nd.groupss ps + 0) = s.opened + t.groups := this
            omega
          | false =>
            rw [brS_go hl h1 h2 h3] at h
            cases hr : rndS l C s l[s.at_] with
            | inl e => rw [hr] at h; cases h
            | inr z =>
              obtain ⟨t1, s1⟩ := z
              rw [hr] at h
              have h4 := rndS_opens hC s t1 s1 hr
              have := brS_opens n _ _ _ _ _ (hu.snoc (rndS_unit hr)) h
              rw [groupss_snoc] at this
              omega
    · rw [brS_over (by omega)] at h; injection h with h; injection h with h1 h2; subst h1; subst h2; rw [joined_groups hu]
theorem branchS_opens {inner : Bool} : Opens (branchS prg l C inner) := by
  intro s t s' h
  unfold branchS at h
  split at h
  · have := brS_opens hC _ _ _ _ _ _ (fun x hx => by rw [List.mem_singleton.1 hx]; rfl) h
    have e : s'.opened + 0 = s.opened + t.groups := this
    omega
  · have := brS_opens hC _ _ _ _ _ _ (fun x hx => by cases hx) h
    have e : s'.opened + 0 = s.opened + t.groups := this
    omega
theorem chLoop_opens {inner : Bool} : ∀ (n : Nat) (s : RxS) (ts : List Nd) (t : Nd) (s' : RxS), brns ts → chLoop prg l C inner n s ts = .inr (t, s') → s'.opened + Nd.groupss ts = s.opened + t.groups
  | 0, s, ts, t, s', hu, h => by rw [chLoop] at h; injection h with h; injection h with h1 h2; subst h1; subst h2; show s.opened + _ = s.opened + (chosen ts).groups; rw [chosen_groups hu]
  | n + 1, s, ts, t, s', hu, h => by
    rw [chLoop] at h
    split at h
    · cases hb : branchS prg l C inner ((s.mark [92, 124]).go 2) with
      | inl e => rw [hb] at h; cases h
      | inr z =>
        obtain ⟨t1, s1⟩ := z
        rw [hb] at h
        have h4 := branchS_opens hC _ t1 s1 hb
        have := chLoop_opens n _ _ _ _ (hu.snoc (branchS_brn hb)) h
        rw [groupss_snoc] at this
        have e : s1.opened = s.opened + t1.groups := h4
        omega
    · injection h with h; injection h with h1 h2; subst h1; subst h2
      show s.opened + _ = s.opened + (chosen ts).groups; rw [chosen_groups hu]
theorem choiceS_opens {inner : Bool} : Opens (choiceS prg l C inner) := by
  intro s t s' h
  unfold choiceS at h
  cases hb : branchS prg l C inner s with
  | inl e => rw [hb] at h; cases h
  | inr z =>
    obtain ⟨t1, s1⟩ := z
    rw [hb] at h
    have h4 := branchS_opens hC _ t1 s1 hb
    have := chLoop_opens hC _ _ _ _ _ (fun x hx => by rw [List.mem_singleton.1 hx]; exact branchS_brn hb) h
    have e : s'.opened + (t1.groups + 0) = s1.opened + t.groups := this
    omega
end
theorem chS_opens {l : List UInt8} : ∀ n, Opens (chS prg l n)
  | 0 => by
    have : chS prg l 0 = choiceS prg l none true := by funext s; rw [chS]
    rw [this]; exact choiceS_opens (fun f hf => by cases hf)
  | n + 1 => by
    have : chS prg l (n + 1) = choiceS prg l (some (chS prg l n)) (decide (n + 1 < 12)) := by funext s; rw [chS]
    rw [this]; exact choiceS_opens (fun f hf => by injection hf with hf; subst hf; exact chS_opens n)

/-! ### The same within a text -/
theorem sh_opened {P o : Nat} {c0 : List Nat} {m0 : List (Nat × List UInt8)} (s : RxS) : ({ s with opened := s.opened + 1 } : RxS).sh P o c0 m0 = { s.sh P o c0 m0 with opened := (s.sh P o c0 m0).opened + 1 } := by
  simp [RxS.sh]; omega

section
variable {p l q : List UInt8} (hq : Tail q) {o : Nat} {c0 : List Nat} {m0 : List (Nat × List UInt8)}
include hq

theorem cx_rep : ∀ (m m' : Nat) (s : RxS) (t t1 : Nd) (s1 : RxS), s.at_ ≤ l.length → l.length < m + s.at_ → (p ++ (l ++ q)).length < m' + (p.length + s.at_) → repS prg l m s t = .inr (t1, s1) →
    repS prg (p ++ (l ++ q)) m' (s.sh p.length o c0 m0) (t.turn o) = .inr (t1.turn o, s1.sh p.length o c0 m0)
  | 0, _, s, t, t1, s1, ha, hm, _, _ => by omega
  | m + 1, m', s, t, t1, s1, ha, hm, hm', h => by
    obtain ⟨k, rfl⟩ : ∃ k, m' = k + 1 := ⟨m' - 1, by simp only [List.length_append] at hm'; omega⟩
    have a1 : ahd (p ++ (l ++ q)) (s.sh p.length o c0 m0).at_ [92, 43] = ahd l s.at_ [92, 43] := cx_ahd2 hq ha (by decide) (.inr (by decide))
    have a2 : ahd (p ++ (l ++ q)) (s.sh p.length o c0 m0).at_ [92, 63] = ahd l s.at_ [92, 63] := cx_ahd2 hq ha (by decide) (.inr (by decide))
    have a3 : ahd (p ++ (l ++ q)) (s.sh p.length o c0 m0).at_ [92, 123] = ahd l s.at_ [92, 123] := cx_ahd2 hq ha (by decide) (.inr (by decide))
    have a4 : ahd (p ++ (l ++ q)) (s.sh p.length o c0 m0).at_ [42] = ahd l s.at_ [42] := cx_ahd1 hq ha (by decide)
    cases e1 : ahd l s.at_ [92, 43] with
    | true =>
      have hle := ahd_le e1 (by decide)
      simp only [List.length_cons, List.length_nil] at hle
      rw [repS_plus e1] at h
      rw [repS_plus (by rw [a1, e1]), ← sh_mark, ← sh_go]
      exact cx_rep m k _ (.rep t 1 (-1)) _ _ hle (by show _ < m + (s.at_ + 2); omega) (by show _ < k + (p.length + (s.at_ + 2)); omega) h
    | false =>
      cases e2 : ahd l s.at_ [92, 63] with
      | true =>
        have hle := ahd_le e2 (by decide)
        simp only [List.length_cons, List.length_nil] at hle
        rw [repS_maybe e1 e2] at h
        rw [repS_maybe (by rw [a1, e1]) (by rw [a2, e2]), ← sh_mark, ← sh_go]
        exact cx_rep m k _ (.rep t 0 1) _ _ hle (by show _ < m + (s.at_ + 2); omega) (by show _ < k + (p.length + (s.at_ + 2)); omega) h
      | false =>
        cases e3 : ahd l s.at_ [92, 123] with
        | true =>
          have hle := ahd_le e3 (by decide)
          simp only [List.length_cons, List.length_nil] at hle
          cases e4 : itvB l (s.at_ + 2) with
          | none => rw [repS_bad e1 e2 e3 e4] at h; cases h
          | some z =>
            obtain ⟨mn, mx, j⟩ := z
            obtain ⟨g1, g2, _⟩ := itvB_le (by omega) e4
            rw [repS_bound e1 e2 e3 e4] at h
            have e5 : itvB (p ++ (l ++ q)) ((s.sh p.length o c0 m0).at_ + 2) = some (mn, mx, p.length + j) := by
              rw [sh_at, Nat.add_assoc]; exact cx_itv hq (by omega) e4
            rw [repS_bound (by rw [a1, e1]) (by rw [a2, e2]) (by rw [a3, e3]) e5, ← sh_to]
            exact cx_rep m k _ (.rep t mn mx) _ _ g2 (by show _ < m + j; omega) (by show _ < k + (p.length + j); omega) h
        | false =>
          cases e4 : ahd l s.at_ [42] with
          | true =>
            have hle := ahd_le e4 (by decide)
            simp only [List.length_singleton] at hle
            rw [repS_star e1 e2 e3 e4] at h
            rw [repS_star (by rw [a1, e1]) (by rw [a2, e2]) (by rw [a3, e3]) (by rw [a4, e4]), ← sh_go]
            exact cx_rep m k _ (.rep t 0 (-1)) _ _ hle (by show _ < m + (s.at_ + 1); omega) (by show _ < k + (p.length + (s.at_ + 1)); omega) h
          | false =>
            rw [repS_end e1 e2 e3 e4] at h
            injection h with h; injection h with h1 h2; subst h1; subst h2
            rw [repS_end (by rw [a1, e1]) (by rw [a2, e2]) (by rw [a3, e3]) (by rw [a4, e4])]

/-- Of a reading and the one within the other text: they agree where there are no backs, and no more than so many groups in one another. -/
def Sub (p l : List UInt8) (o : Nat) (c0 : List Nat) (m0 : List (Nat × List UInt8)) (d : Nat) (C C' : Option (RxS → Out Nd)) : Prop :=
  ∀ f, C = some f → ∀ s t s', Sane l s → f s = .inr (t, s') → s'.at_ < l.length → t.backs = false → t.deep < d → ∃ g, C' = some g ∧ g (s.sh p.length o c0 m0) = .inr (t.turn o, s'.sh p.length o c0 m0)

variable {d : Nat} {C C' : Option (RxS → Out Nd)} (hS : Sub p l o c0 m0 d C C')
include hS

theorem cx_group {b b' : Nat} {s s1 : RxS} {t1 : Nd} (hs : Sane l s) (ho : s.opened < s.at_) (h : groupS prg l C b s = .inr (t1, s1)) (hb : t1.backs = false) (hd : t1.deep ≤ d) :
    groupS prg (p ++ (l ++ q)) C' b' (s.sh p.length o c0 m0) = .inr (t1.turn o, s1.sh p.length o c0 m0) := by
  unfold groupS at h
  cases C with
  | none => cases h
  | some f =>
    simp only at h
    cases hf : f { s with opened := s.opened + 1 } with
    | inl e => rw [hf] at h; cases h
    | inr z =>
      obtain ⟨t2, s2⟩ := z
      rw [hf] at h
      simp only at h
      split at h
      · next ha =>
        have hle := ahd_le ha (by decide)
        simp only [List.length_cons, List.length_nil] at hle
        injection h with h; injection h with h1 h2; subst h1; subst h2
        have hdp : t2.deep + 1 ≤ d := by
          have e : (prg.group ((s.opened + 1 : Nat) : Int) t2).deep = 1 + t2.deep := by show Nd.deep (.group _ _) = _; rw [Nd.deep]; omega
          rw [e] at hd; omega
        obtain ⟨g, hg, hgs⟩ := hS f rfl { s with opened := s.opened + 1 } t2 s2 ⟨hs.le, hs.mr, hs.cl, ho⟩ hf (by omega) (by rw [show (prg.group ((s.opened + 1 : Nat) : Int) t2) = .group ((s.opened + 1 : Nat) : Int) t2 from rfl, Nd.backs] at hb; exact hb) (by omega)
        subst hg
        unfold groupS
        simp only
        rw [← sh_opened, hgs]
        simp only
        rw [if_pos (by rw [sh_at, cx_ahd2 hq (by omega) (by decide) (.inl (by omega)), ha])]
        have e1 : ((s.sh p.length o c0 m0).opened + 1 : Nat) = s.opened + 1 + o := by show s.opened + o + 1 = _; omega
        rw [e1]
        have e2 : (((s.opened + 1 + o : Nat)) : Int) = ((s.opened + 1 : Nat) : Int) + (o : Int) := by omega
        rw [e2]
        show Sum.inr (Nd.group _ (t2.turn o), _) = Sum.inr (Nd.group _ (t2.turn o), _)
        congr 2
        simp [RxS.sh, RxS.go, Nat.add_assoc]
      · cases h

theorem cx_atom {s s1 : RxS} {t1 : Nd} (hs : Sane l s) (hl : s.at_ < l.length) (h : atomS prg l C s l[s.at_] = .inr (t1, s1)) (hb : t1.backs = false) (hd : t1.deep ≤ d) :
    atomS prg (p ++ (l ++ q)) C' (s.sh p.length o c0 m0) l[s.at_] = .inr (t1.turn o, s1.sh p.length o c0 m0) := by
  obtain ⟨x, hx⟩ : ∃ x, l[s.at_] = x := ⟨_, rfl⟩
  rw [hx] at h ⊢
  unfold atomS at h ⊢
  by_cases h92 : x = 92
  · rw [if_pos h92] at h ⊢
    by_cases hl2 : s.at_ + 1 < l.length
    · unfold escS at h ⊢
      rw [List.getElem?_eq_getElem hl2] at h
      rw [sh_at, show p.length + s.at_ + 1 = p.length + (s.at_ + 1) from by omega, cx_get hl2]
      simp only at h ⊢
      rw [cx_ahd2 hq hs.le (by decide) (.inl hl), cx_ahd2 hq hs.le (by decide) (.inl hl)]
      split at h
      · next ha =>
        rw [if_pos ha, ← sh_go]
        have hop := hs.op
        exact cx_group hq hS (hs.go (n := 2) (by omega)) (by show s.opened < s.at_ + 2; omega) h hb hd
      · next ha =>
        rw [if_neg ha]
        split at h
        · cases h
        · next ha2 =>
          rw [if_neg ha2]
          split at h
          · split at h
            · injection h with h; injection h with h1 h2; subst h1; cases hb
            · cases h
          · next hdg =>
            rw [if_neg hdg]
            cases he : escB l[s.at_ + 1] with
            | none => rw [he] at h; cases h
            | some z =>
              obtain ⟨c, m⟩ := z
              rw [he] at h
              simp only at h ⊢
              injection h with h; injection h with h1 h2; subst h1; subst h2
              cases m
              · simp only [Bool.false_eq_true, if_false, sh_go]; rfl
              · simp only [if_true, sh_go, sh_mark]; rfl
    · unfold escS at h
      rw [List.getElem?_eq_none (by omega)] at h; cases h
  · rw [if_neg h92] at h ⊢
    by_cases h91 : x = 91
    · rw [if_pos h91] at h ⊢
      cases hp : prs l (s.at_ + 1) with
      | inl z => rw [hp] at h; cases h
      | inr z =>
        obtain ⟨c, j⟩ := z
        rw [hp] at h
        simp only at h
        injection h with h; injection h with h1 h2; subst h1; subst h2
        rw [sh_at, show p.length + s.at_ + 1 = p.length + (s.at_ + 1) from by omega, cx_prs hp]
        simp only [sh_to]; rfl
    · rw [if_neg h91] at h ⊢
      by_cases h46 : x = 46
      · rw [if_pos h46] at h ⊢
        injection h with h; injection h with h1 h2; subst h1; subst h2
        rw [sh_go]; rfl
      · rw [if_neg h46] at h ⊢
        injection h with h; injection h with h1 h2; subst h1; subst h2
        rw [sh_go]; rfl

theorem cx_rnd (hC : ∀ f, C = some f → KeptZ l 2 f) {s s1 : RxS} {t1 : Nd} (hs : Sane l s) (hl : s.at_ < l.length) (h : rndS l C s l[s.at_] = .inr (t1, s1)) (hb : t1.backs = false) (hd : t1.deep ≤ d) :
    rndS (p ++ (l ++ q)) C' (s.sh p.length o c0 m0) l[s.at_] = .inr (t1.turn o, s1.sh p.length o c0 m0) := by
  unfold rndS at h ⊢
  cases hp : atomS prg l C s l[s.at_] with
  | inl z => rw [hp] at h; cases h
  | inr y =>
    obtain ⟨t2, s2⟩ := y
    rw [hp] at h
    simp only at h
    obtain ⟨k1, k2, k3⟩ := atomS_kept hC hs hl hp
    obtain ⟨r1, r2, _⟩ := repS_same _ _ _ _ _ h
    rw [cx_atom hq hS hs hl hp (by rw [← r1]; exact hb) (by rw [← r2]; exact hd)]
    exact cx_rep hq _ _ _ _ _ _ k1.le (by omega) (by simp only [List.length_append]; omega) h

/-- The branch ends where it ended. -/
def Ends (q : List UInt8) (inner : Bool) : Prop := q = [] ∨ (inner = true ∧ ∃ r, q = 92 :: 41 :: r) ∨ ∃ r, q = 92 :: 124 :: r

theorem cx_br (hC : ∀ f, C = some f → KeptZ l 2 f) {inner inner' : Bool} (hin : inner = inner' ∨ inner = false) : ∀ (m m' : Nat) (front : Bool) (s : RxS) (ps : List Nd) (t : Nd) (s' : RxS), units ps → Sane l s → l.length < m + s.at_ → (p ++ (l ++ q)).length < m' + (p.length + s.at_) →
    (s'.at_ < l.length ∨ Ends q inner') → brS prg l C inner m front s ps = .inr (t, s') → t.backs = false → t.deep ≤ d →
    brS prg (p ++ (l ++ q)) C' inner' m' front (s.sh p.length o c0 m0) (Nd.turns o ps) = .inr (t.turn o, s'.sh p.length o c0 m0) ∧ Nd.backss ps = false ∧ Nd.deeps ps ≤ d
  | 0, _, front, s, ps, t, s', hu, hs, hm, _, _, _, _, _ => by have := hs.le; omega
  | m + 1, m', front, s, ps, t, s', hu, hs, hm, hm', hE, h, hb, hd => by
    obtain ⟨k, rfl⟩ : ∃ k, m' = k + 1 := ⟨m' - 1, by have := hs.le; simp only [List.length_append] at hm'; omega⟩
    have hend : brS prg l C inner (m + 1) front s ps = .inr (joined ps, s) → (t = joined ps ∧ s' = s) := fun e => by
      rw [e] at h; injection h with h; injection h with h1 h2; exact ⟨h1.symm, h2.symm⟩
    have hfin : t = joined ps → Nd.backss ps = false ∧ Nd.deeps ps ≤ d := fun e => by
      subst e; rw [joined_backs hu] at hb; rw [joined_deep hu] at hd; exact ⟨hb, hd⟩
    by_cases hl : s.at_ < l.length
    · have hL : (s.sh p.length o c0 m0).at_ < (p ++ (l ++ q)).length := by rw [sh_at]; simp only [List.length_append]; omega
      have hg : (p ++ (l ++ q))[(s.sh p.length o c0 m0).at_] = l[s.at_] := by
        have this : (p ++ (l ++ q))[(s.sh p.length o c0 m0).at_]? = some l[s.at_] := cx_get hl
        rw [List.getElem?_eq_getElem hL] at this
        exact Option.some.inj this
      have b1 : ahd (p ++ (l ++ q)) (s.sh p.length o c0 m0).at_ [92, 124] = ahd l s.at_ [92, 124] := cx_ahd2 hq hs.le (by decide) (.inl hl)
      have b2 : ahd (p ++ (l ++ q)) (s.sh p.length o c0 m0).at_ [92, 41] = ahd l s.at_ [92, 41] := cx_ahd2 hq hs.le (by decide) (.inl hl)
      have b3 : ahd (p ++ (l ++ q)) (s.sh p.length o c0 m0).at_ [92, 123] = ahd l s.at_ [92, 123] := cx_ahd2 hq hs.le (by decide) (.inl hl)
      have b4 : ahd (p ++ (l ++ q)) (s.sh p.length o c0 m0).at_ [92, 43] = ahd l s.at_ [92, 43] := cx_ahd2 hq hs.le (by decide) (.inl hl)
      have b5 : ahd (p ++ (l ++ q)) (s.sh p.length o c0 m0).at_ [92, 63] = ahd l s.at_ [92, 63] := cx_ahd2 hq hs.le (by decide) (.inl hl)
      have b6 : ahd (p ++ (l ++ q)) (s.sh p.length o c0 m0).at_ [36] = ahd l s.at_ [36] := cx_ahd1 hq hs.le (by decide)
      have b7 : lastS (p ++ (l ++ q)) (s.sh p.length o c0 m0).at_ = lastS l s.at_ := cx_last hq hl
      cases h1 : (ahd l s.at_ [92, 124] || (inner && ahd l s.at_ [92, 41])) with
      | true =>
        obtain ⟨e1, e2⟩ := hend (brS_stop hl h1)
        refine ⟨?_, hfin e1⟩
        rw [brS_stop hL (by
          rw [b1, b2]
          rcases hin with rfl | rfl
          · exact h1
          · simp only [Bool.false_and, Bool.or_false] at h1; rw [h1]; rfl), joined_turn hu, e1, e2]
      | false =>
        cases h2 : (front && (ahd l s.at_ [92, 123] || (ahd l s.at_ [92, 43] || ahd l s.at_ [92, 63]))) with
        | true => rw [brS_bad hl h1 h2] at h; cases h
        | false =>
          have hno : ahd l s.at_ [92, 41] = false ∨ inner = true := by
            cases hx : inner with
            | true => exact .inr rfl
            | false =>
              refine .inl ?_
              cases ha : ahd l s.at_ [92, 41] with
              | false => rfl
              | true =>
                exfalso
                have hh := ha
                unfold ahd at hh
                rw [List.drop_eq_getElem_cons hl] at hh
                have hx92 : l[s.at_] = 92 := by
                  simp only [List.isPrefixOf, Bool.and_eq_true, beq_iff_eq] at hh; exact hh.1.symm
                have h36 : ahd l s.at_ [36] = false := by unfold ahd; rw [List.drop_eq_getElem_cons hl, hx92]; rfl
                have h40 : ahd l s.at_ [92, 40] = false := by
                  have := ahd_le ha (by decide)
                  simp only [List.length_cons, List.length_nil] at this
                  unfold ahd at ha ⊢
                  rw [List.drop_eq_getElem_cons hl, List.drop_eq_getElem_cons (by omega : s.at_ + 1 < l.length)] at ha ⊢
                  simp only [List.isPrefixOf, Bool.and_eq_true, beq_iff_eq, Bool.and_true] at ha ⊢
                  rw [← ha.2]; simp
                rw [brS_go hl h1 h2 (by rw [h36]; rfl)] at h
                have hr : rndS l C s l[s.at_] = .inl (8, s.at_) := by
                  have hle := ahd_le ha (by decide)
                  simp only [List.length_cons, List.length_nil] at hle
                  unfold rndS atomS escS
                  rw [if_pos hx92, List.getElem?_eq_getElem (by omega : s.at_ + 1 < l.length)]
                  simp only
                  rw [if_neg (by rw [h40]; decide), if_pos ha]
                rw [hr] at h; cases h
          have h1' : (ahd (p ++ (l ++ q)) (s.sh p.length o c0 m0).at_ [92, 124] || (inner' && ahd (p ++ (l ++ q)) (s.sh p.length o c0 m0).at_ [92, 41])) = false := by
            rw [b1, b2]
            rcases hin with rfl | rfl
            · exact h1
            · simp only [Bool.false_and, Bool.or_false] at h1
              rcases hno with hno | hno
              · rw [h1, hno]; simp
              · cases hno
          have h2' : (front && (ahd (p ++ (l ++ q)) (s.sh p.length o c0 m0).at_ [92, 123] || (ahd (p ++ (l ++ q)) (s.sh p.length o c0 m0).at_ [92, 43] || ahd (p ++ (l ++ q)) (s.sh p.length o c0 m0).at_ [92, 63]))) = false := by rw [b3, b4, b5]; exact h2
          cases h3 : (ahd l s.at_ [36] && lastS l s.at_) with
          | true =>
            rw [brS_fin hl h1 h2 h3] at h
            rw [brS_fin hL h1' h2' (by rw [b6, b7]; exact h3)]
            obtain ⟨r1, r2, r3⟩ := cx_br hC hin m k false (s.go 1) (ps ++ [.fin]) t s' (hu.snoc (by rfl)) (hs.go (n := 1) (by omega)) (by show _ < m + (s.at_ + 1); omega) (by show _ < k + (p.length + (s.at_ + 1)); omega) hE h hb hd
            rw [Nd.turns_append, sh_go] at r1
            rw [backss_snoc] at r2
            rw [deeps_snoc] at r3
            exact ⟨r1, by simp only [Bool.or_eq_false_iff] at r2; exact r2.1, by omega⟩
          | false =>
            rw [brS_go hl h1 h2 h3] at h
            rw [brS_go hL h1' h2' (by rw [b6, b7]; exact h3), hg]
            cases hr : rndS l C s l[s.at_] with
            | inl e => rw [hr] at h; cases h
            | inr z =>
              obtain ⟨t1, s1⟩ := z
              rw [hr] at h
              simp only at h
              obtain ⟨k1, k2, k3⟩ := rndS_kept hC hs hl hr
              obtain ⟨r1, r2, r3⟩ := cx_br hC hin m k false s1 (ps ++ [t1]) t s' (hu.snoc (rndS_unit hr)) k1 (by omega) (by omega) hE h hb hd
              rw [backss_snoc, Bool.or_eq_false_iff] at r2
              rw [deeps_snoc] at r3
              rw [cx_rnd hq hS hC hs hl hr r2.2 (by omega)]
              rw [Nd.turns_append] at r1
              exact ⟨r1, r2.1, by omega⟩
    · obtain ⟨e1, e2⟩ := hend (brS_over (by omega))
      have hle := hs.le
      have hat : s.at_ = l.length := by omega
      have hE' : Ends q inner' := by
        rcases hE with hE | hE
        · subst e2; omega
        · exact hE
      refine ⟨?_, hfin e1⟩
      have hdr : (p ++ (l ++ q)).drop (s.sh p.length o c0 m0).at_ = q := by
        rw [sh_at, hat, cx_drop (Nat.le_refl _), List.drop_eq_nil_of_le (Nat.le_refl _)]; rfl
      by_cases hq0 : q = []
      · rw [brS_over (by rw [sh_at, hat]; simp [hq0]), joined_turn hu, e1, e2]
      · have hL : (s.sh p.length o c0 m0).at_ < (p ++ (l ++ q)).length := by
          have : 0 < q.length := by cases q with | nil => exact absurd rfl hq0 | cons a r => simp
          rw [sh_at, hat]; simp only [List.length_append]; omega
        rw [brS_stop hL ?_, joined_turn hu, e1, e2]
        unfold ahd
        rw [hdr]
        rcases hE' with h0 | ⟨hi, r, rfl⟩ | ⟨r, rfl⟩
        · exact absurd h0 hq0
        · rw [hi]; simp [List.isPrefixOf]
        · simp [List.isPrefixOf]

theorem cx_branch (hC : ∀ f, C = some f → KeptZ l 2 f) {inner inner' : Bool} (hin : inner = inner' ∨ inner = false) {s s' : RxS} {t : Nd} (hs : Sane l s) (hE : s'.at_ < l.length ∨ Ends q inner') (h : branchS prg l C inner s = .inr (t, s')) (hb : t.backs = false) (hd : t.deep ≤ d) :
    branchS prg (p ++ (l ++ q)) C' inner' (s.sh p.length o c0 m0) = .inr (t.turn o, s'.sh p.length o c0 m0) := by
  have a1 : ahd (p ++ (l ++ q)) (s.sh p.length o c0 m0).at_ [94] = ahd l s.at_ [94] := cx_ahd1 hq hs.le (by decide)
  unfold branchS at h ⊢
  rw [a1]
  split at h
  · next ha =>
    have hle := ahd_le ha (by decide)
    simp only [List.length_singleton] at hle
    rw [if_pos ha, ← sh_go]
    exact (cx_br hq hS hC hin _ _ _ _ [.start] _ _ (fun x hx => by rw [List.mem_singleton.1 hx]; rfl) (hs.go hle) (by omega) (by omega) hE h hb hd).1
  · next ha =>
    rw [if_neg ha]
    exact (cx_br hq hS hC hin _ _ _ _ [] _ _ (fun x hx => by cases hx) hs (by omega) (by omega) hE h hb hd).1

theorem cx_ch (hC : ∀ f, C = some f → KeptZ l 2 f) {inner inner' : Bool} (hin : inner = inner' ∨ inner = false) (pre : List Nd) : ∀ (m m' : Nat) (s : RxS) (ts : List Nd) (t : Nd) (s' : RxS), brns ts → Sane l s → l.length < m + s.at_ → (p ++ (l ++ q)).length < m' + (p.length + s.at_) →
    (s'.at_ < l.length ∨ Ends q inner') → chLoop prg l C inner m s ts = .inr (t, s') → t.backs = false → t.deep ≤ d →
    ∃ tsf k, t = chosen tsf ∧ brns tsf ∧ chLoop prg (p ++ (l ++ q)) C' inner' m' (s.sh p.length o c0 m0) (pre ++ Nd.turns o ts) = chLoop prg (p ++ (l ++ q)) C' inner' k (s'.sh p.length o c0 m0) (pre ++ Nd.turns o tsf) ∧
      (p ++ (l ++ q)).length < k + (p.length + s'.at_) ∧ Nd.backss ts = false ∧ Nd.deeps ts ≤ d ∧ Sane l s' ∧ ahd l s'.at_ [92, 124] = false ∧ s.at_ ≤ s'.at_ ∧ ts.length ≤ tsf.length
  | 0, _, s, ts, t, s', hu, hs, hm, _, _, _, _, _ => by have := hs.le; omega
  | m + 1, m', s, ts, t, s', hu, hs, hm, hm', hE, h, hb, hd => by
    obtain ⟨k, rfl⟩ : ∃ k, m' = k + 1 := ⟨m' - 1, by have := hs.le; simp only [List.length_append] at hm'; omega⟩
    rw [chLoop] at h
    by_cases ha : ahd l s.at_ [92, 124] = true
    · rw [if_pos ha] at h
      have hle := ahd_le ha (by decide)
      simp only [List.length_cons, List.length_nil] at hle
      cases hbr : branchS prg l C inner ((s.mark [92, 124]).go 2) with
      | inl e => rw [hbr] at h; cases h
      | inr z =>
        obtain ⟨t1, s1⟩ := z
        rw [hbr] at h
        simp only at h
        have hs2 := hs.markgo [92, 124] (n := 2) (by omega) hle
        obtain ⟨k1, k2, _⟩ := branchS_kept hC _ hs2 _ _ hbr
        have k2 : s.at_ + 2 ≤ s1.at_ := k2
        obtain ⟨tsf, k', e1, e2, e3, e4, e5, e6, e7, e8, e9, e10⟩ := cx_ch hC hin pre m k s1 (ts ++ [t1]) t s' (hu.snoc (branchS_brn hbr)) k1 (by omega) (by omega) hE h hb hd
        rw [backss_snoc, Bool.or_eq_false_iff] at e5
        rw [deeps_snoc] at e6
        refine ⟨tsf, k', e1, e2, ?_, e4, e5.1, by omega, e7, e8, by omega, by simp only [List.length_append, List.length_singleton] at e10; omega⟩
        rw [← e3, chLoop, if_pos (by rw [sh_at, cx_ahd2 hq hs.le (by decide) (.inl (by omega)), ha]), ← sh_mark, ← sh_go,
          cx_branch hq hS hC hin hs2 (by rcases hE with hE | hE; exact .inl (by omega); exact .inr hE) hbr e5.2 (by omega)]
        simp only
        simp only [Nd.turns_append, Nd.turns, List.append_assoc]
    · rw [if_neg ha] at h
      injection h with h; injection h with h1 h2; subst h1; subst h2
      refine ⟨ts, k + 1, rfl, hu, rfl, hm', ?_, ?_, hs, by simpa using ha, Nat.le_refl _, Nat.le_refl _⟩
      · rw [show prg.choose ts = chosen ts from rfl, chosen_backs hu] at hb; exact hb
      · rw [show prg.choose ts = chosen ts from rfl, chosen_deep hu] at hd; exact hd

theorem cx_choice (hC : ∀ f, C = some f → KeptZ l 2 f) {inner inner' : Bool} (hin : inner = inner' ∨ inner = false) {s s' : RxS} {t : Nd} (hs : Sane l s) (hE : s'.at_ < l.length ∨ q = [] ∨ (inner' = true ∧ ∃ r, q = 92 :: 41 :: r)) (h : choiceS prg l C inner s = .inr (t, s')) (hb : t.backs = false) (hd : t.deep ≤ d) :
    choiceS prg (p ++ (l ++ q)) C' inner' (s.sh p.length o c0 m0) = .inr (t.turn o, s'.sh p.length o c0 m0) := by
  have hE' : s'.at_ < l.length ∨ Ends q inner' := by
    rcases hE with h | h | h
    · exact .inl h
    · exact .inr (.inl h)
    · exact .inr (.inr (.inl h))
  unfold choiceS at h ⊢
  cases hbr : branchS prg l C inner s with
  | inl e => rw [hbr] at h; cases h
  | inr z =>
    obtain ⟨t1, s1⟩ := z
    rw [hbr] at h
    simp only at h
    obtain ⟨k1, k2, _⟩ := branchS_kept hC _ hs _ _ hbr
    obtain ⟨tsf, k', e1, e2, e3, e4, e5, e6, e7, e8, e9, _⟩ := cx_ch (o := o) (c0 := c0) (m0 := m0) hq hS hC hin [] (l.length + 1) ((p ++ (l ++ q)).length + 1) s1 [t1] t s' (fun x hx => by rw [List.mem_singleton.1 hx]; exact branchS_brn hbr) k1 (by omega) (by omega) hE' h hb hd
    have b1 : t1.backs = false := by simpa [Nd.backss] using e5
    have b2 : t1.deep ≤ d := by simpa [Nd.deeps] using e6
    rw [cx_branch hq hS hC hin hs (by rcases hE' with h | h; exact .inl (by omega); exact .inr h) hbr b1 b2]
    simp only
    have e3' : chLoop prg (p ++ (l ++ q)) C' inner' ((p ++ (l ++ q)).length + 1) (s1.sh p.length o c0 m0) [t1.turn o] = _ := e3
    rw [e3']
    obtain ⟨k2, rfl⟩ : ∃ k2, k' = k2 + 1 := ⟨k' - 1, by have := e7.le; simp only [List.length_append] at e4; omega⟩
    rw [chLoop, if_neg ?_]
    · rw [List.nil_append]; show Sum.inr (chosen _, _) = _; rw [chosen_turn e2, e1]
    · rw [sh_at]
      rcases hE with h0 | h0 | ⟨_, r, h0⟩
      · rw [cx_ahd2 hq e7.le (by decide) (.inl h0), e8]; decide
      · by_cases hlt : s'.at_ < l.length
        · rw [cx_ahd2 hq e7.le (by decide) (.inl hlt), e8]; decide
        · unfold ahd; rw [cx_drop e7.le, List.drop_eq_nil_of_le (by omega), h0]; decide
      · by_cases hlt : s'.at_ < l.length
        · rw [cx_ahd2 hq e7.le (by decide) (.inl hlt), e8]; decide
        · unfold ahd; rw [cx_drop e7.le, List.drop_eq_nil_of_le (by omega), h0]; simp [List.isPrefixOf]
end

/-- What reads a group's inside, so many levels being left. -/
def lev (l : List UInt8) : Nat → Option (RxS → Out Nd)
  | 0 => none
  | n + 1 => some (chS prg l n)
theorem chS_lev (l : List UInt8) (n : Nat) : chS prg l n = choiceS prg l (lev l n) (decide (n < 12)) := by
  cases n with
  | zero => funext s; rw [chS]; rfl
  | succ n => funext s; rw [chS]; rfl
theorem lev_kept (l : List UInt8) (n : Nat) : ∀ f, lev l n = some f → KeptZ l 2 f := by
  cases n with
  | zero => intro f h; cases h
  | succ n => intro f h; injection h with h; subst h; exact chS_kept n
theorem lev_opens (l : List UInt8) (n : Nat) : ∀ f, lev l n = some f → Opens f := by
  cases n with
  | zero => intro f h; cases h
  | succ n => intro f h; injection h with h; subst h; exact chS_opens n

theorem sub_lev {p l q : List UInt8} (hq : Tail q) {o : Nat} {c0 : List Nat} {m0 : List (Nat × List UInt8)} : ∀ (d n m : Nat), d ≤ n → d ≤ m → n ≤ 12 → m ≤ 12 → Sub p l o c0 m0 d (lev l n) (lev (p ++ (l ++ q)) m)
  | 0, n, m, _, _, _, _ => fun f _ s t s' _ _ _ _ h => by omega
  | d + 1, n + 1, m + 1, h1, h2, h3, h4 => by
    intro f hf s t s' hs h hat hb hd
    injection hf with hf; subst hf
    refine ⟨_, rfl, ?_⟩
    rw [chS_lev, decide_eq_true (by omega : n < 12)] at h
    rw [chS_lev, decide_eq_true (by omega : m < 12)]
    exact cx_choice hq (sub_lev hq d n m (by omega) (by omega) (by omega) (by omega)) (lev_kept l n) (.inl rfl) hs (.inl hat) h hb (by omega)
  | d + 1, 0, _, h, _, _, _ => by omega
  | d + 1, _, 0, _, h, _, _ => by omega

/-! ### Where a reading ends that stands in no group -/
theorem brS_stops {l : List UInt8} {C : Option (RxS → Out Nd)} (hC : ∀ f, C = some f → KeptZ l 2 f) : ∀ (m : Nat) (front : Bool) (s : RxS) (ps : List Nd) (t : Nd) (s' : RxS), Sane l s → l.length < m + s.at_ → brS prg l C false m front s ps = .inr (t, s') → s'.at_ = l.length ∨ ahd l s'.at_ [92, 124] = true
  | 0, front, s, ps, t, s', hs, hm, _ => by have := hs.le; omega
  | m + 1, front, s, ps, t, s', hs, hm, h => by
    have hle := hs.le
    by_cases hl : s.at_ < l.length
    · cases h1 : (ahd l s.at_ [92, 124] || (false && ahd l s.at_ [92, 41])) with
      | true =>
        rw [brS_stop hl h1] at h; injection h with h; injection h with h2 h3; subst h3
        simp only [Bool.false_and, Bool.or_false] at h1
        exact .inr h1
      | false =>
        cases h2 : (front && (ahd l s.at_ [92, 123] || (ahd l s.at_ [92, 43] || ahd l s.at_ [92, 63]))) with
        | true => rw [brS_bad hl h1 h2] at h; cases h
        | false =>
          cases h3 : (ahd l s.at_ [36] && lastS l s.at_) with
          | true => rw [brS_fin hl h1 h2 h3] at h; exact brS_stops hC m _ _ _ _ _ (hs.go (n := 1) (by omega)) (by show _ < m + (s.at_ + 1); omega) h
          | false =>
            rw [brS_go hl h1 h2 h3] at h
            cases hr : rndS l C s l[s.at_] with
            | inl e => rw [hr] at h; cases h
            | inr z =>
              obtain ⟨t1, s1⟩ := z
              rw [hr] at h
              obtain ⟨k1, k2, _⟩ := rndS_kept hC hs hl hr
              exact brS_stops hC m _ _ _ _ _ k1 (by omega) h
    · rw [brS_over (by omega)] at h; injection h with h; injection h with h2 h3; subst h3; exact .inl (by omega)
theorem branchS_stops {l : List UInt8} {C : Option (RxS → Out Nd)} (hC : ∀ f, C = some f → KeptZ l 2 f) {s s' : RxS} {t : Nd} (hs : Sane l s) (h : branchS prg l C false s = .inr (t, s')) : s'.at_ = l.length ∨ ahd l s'.at_ [92, 124] = true := by
  unfold branchS at h
  split at h
  · next ha =>
    have hle := ahd_le ha (by decide)
    simp only [List.length_singleton] at hle
    exact brS_stops hC _ _ _ _ _ _ (hs.go hle) (by omega) h
  · exact brS_stops hC _ _ _ _ _ _ hs (by omega) h
theorem chLoop_stops {l : List UInt8} {C : Option (RxS → Out Nd)} (hC : ∀ f, C = some f → KeptZ l 2 f) : ∀ (m : Nat) (s : RxS) (ts : List Nd) (t : Nd) (s' : RxS), Sane l s → l.length < m + s.at_ → (s.at_ = l.length ∨ ahd l s.at_ [92, 124] = true) → chLoop prg l C false m s ts = .inr (t, s') → s'.at_ = l.length
  | 0, s, ts, t, s', hs, hm, _, _ => by have := hs.le; omega
  | m + 1, s, ts, t, s', hs, hm, hE, h => by
    rw [chLoop] at h
    by_cases ha : ahd l s.at_ [92, 124] = true
    · rw [if_pos ha] at h
      have hle := ahd_le ha (by decide)
      simp only [List.length_cons, List.length_nil] at hle
      have hs2 := hs.markgo [92, 124] (n := 2) (by omega) hle
      cases hb : branchS prg l C false ((s.mark [92, 124]).go 2) with
      | inl e => rw [hb] at h; cases h
      | inr z =>
        obtain ⟨t1, s1⟩ := z
        rw [hb] at h
        obtain ⟨k1, k2, _⟩ := branchS_kept hC _ hs2 _ _ hb
        have k2 : s.at_ + 2 ≤ s1.at_ := k2
        exact chLoop_stops hC m _ _ _ _ k1 (by omega) (branchS_stops hC hs2 hb) h
    · rw [if_neg ha] at h
      injection h with h; injection h with h1 h2; subst h2
      exact hE.resolve_right ha
theorem choiceS_stops {l : List UInt8} {C : Option (RxS → Out Nd)} (hC : ∀ f, C = some f → KeptZ l 2 f) {s s' : RxS} {t : Nd} (hs : Sane l s) (h : choiceS prg l C false s = .inr (t, s')) : s'.at_ = l.length := by
  unfold choiceS at h
  cases hb : branchS prg l C false s with
  | inl e => rw [hb] at h; cases h
  | inr z =>
    obtain ⟨t1, s1⟩ := z
    rw [hb] at h
    obtain ⟨k1, k2, _⟩ := branchS_kept hC _ hs _ _ hb
    exact chLoop_stops hC _ _ _ _ _ k1 (by omega) (branchS_stops hC hs hb) h

def RxS.init : RxS := ⟨0, 0, [], []⟩
theorem sane_init (l : List UInt8) : Sane l RxS.init := ⟨Nat.zero_le _, Nat.le_refl _, Nat.le_refl _, Nat.le_refl _⟩
theorem parseS_in {l : List UInt8} (h : l.length ≤ 250) : parseS prg l = choiceS prg l (lev l 12) false RxS.init := by
  unfold parseS; rw [if_neg (by omega), chS_lev]; rfl

/-- A regex in a group. -/
theorem parse_group {l : List UInt8} (hl : l.length ≤ 200) {a : Nd} {s1 : RxS} (h : parseS prg l = .inr (a, s1)) (hb : a.backs = false) (hd : a.deep < 12) :
    ∃ s2, parseS prg ([92, 40] ++ (l ++ [92, 41])) = .inr (.group 1 (a.turn 1), s2) ∧ s2.marks = s1.marks.map fun m => (2 + m.1, m.2) := by
  rw [parseS_in (by omega)] at h
  have hat := choiceS_stops (lev_kept l 12) (sane_init l) h
  obtain ⟨ks, _, _⟩ := choiceS_kept (lev_kept l 12) _ (sane_init l) _ _ h
  have hq : Tail [92, 41] := .inr (.inl ⟨[], rfl⟩)
  have hc := cx_choice (p := [92, 40]) (o := 1) (c0 := []) (m0 := []) hq (sub_lev hq 11 12 11 (by omega) (by omega) (by omega) (by omega)) (lev_kept l 12) (inner' := true) (.inr rfl) (sane_init l) (.inr (.inr ⟨rfl, [], rfl⟩)) h hb (by omega)
  obtain ⟨L, hL⟩ : ∃ L, L = ([92, 40] : List UInt8) ++ (l ++ [92, 41]) := ⟨_, rfl⟩
  rw [← hL] at hc ⊢
  have hlen : L.length = l.length + 4 := by rw [hL]; simp
  have hdr : L.drop 0 = 92 :: 40 :: (l ++ [92, 41]) := by rw [hL]; rfl
  have hend : L.drop (2 + l.length) = [92, 41] := by rw [hL]; have := cx_drop (p := [92, 40]) (l := l) (q := [92, 41]) (Nat.le_refl _); rw [List.drop_eq_nil_of_le (Nat.le_refl _)] at this; exact this
  have ha0 : ∀ (x : UInt8), x ≠ 40 → ahd L 0 [92, x] = false := fun x hx => by unfold ahd; rw [hdr]; simp [List.isPrefixOf, hx]
  have ha1 : ahd L 0 [92, 40] = true := by unfold ahd; rw [hdr]; rfl
  have hx : ∀ (x : UInt8), x ≠ 92 → ahd L 0 [x] = false := fun x hx => by unfold ahd; rw [hdr]; simp [List.isPrefixOf, hx]
  have hover : ∀ (t : List UInt8), t ≠ [] → ahd L L.length t = false := fun t ht => by unfold ahd; rw [List.drop_eq_nil_of_le (Nat.le_refl _)]; cases t with | nil => exact absurd rfl ht | cons x r => rfl
  have hg0 : 0 < L.length := by omega
  have hg1 : 1 < L.length := by omega
  have g0 : L[0] = 92 := by simp [hL]
  have g1 : L[1] = 40 := by simp [hL]
  have hgr : groupS prg L (lev L 12) 0 ⟨2, 0, [], []⟩ = .inr (.group 1 (a.turn 1), ⟨L.length, s1.opened + 1, (s1.closed.map (· + 1)) ++ [1], s1.marks.map fun m => (2 + m.1, m.2)⟩) := by
    unfold groupS lev
    simp only
    have e : ({ at_ := 2, opened := 0 + 1, closed := [], marks := [] } : RxS) = RxS.init.sh ([92, 40] : List UInt8).length 1 [] [] := rfl
    rw [e, chS_lev, decide_eq_true (by omega : 11 < 12), hc]
    simp only
    rw [if_pos (by unfold ahd; rw [sh_at, hat]; show ([92, 41] : List UInt8).isPrefixOf (L.drop (2 + l.length)) = true; rw [hend]; rfl)]
    show Sum.inr (Nd.group _ _, _) = _
    congr 2
    simp [RxS.sh, RxS.go, hat, hlen]; omega
  have hrn : rndS L (lev L 12) RxS.init L[0] = .inr (.group 1 (a.turn 1), ⟨L.length, s1.opened + 1, (s1.closed.map (· + 1)) ++ [1], s1.marks.map fun m => (2 + m.1, m.2)⟩) := by
    have hat : atomS prg L (lev L 12) RxS.init L[0] = groupS prg L (lev L 12) 0 ⟨2, 0, [], []⟩ := by
      unfold atomS escS
      rw [if_pos g0]
      show (match L[1]? with | none => _ | some b => _) = _
      rw [List.getElem?_eq_getElem hg1, g1]
      simp only
      rw [if_pos (show ahd L RxS.init.at_ [92, 40] = true from ha1)]; rfl
    unfold rndS
    rw [hat, hgr]
    simp only
    exact repS_end (hover _ (by simp)) (hover _ (by simp)) (hover _ (by simp)) (hover _ (by simp))
  refine ⟨⟨L.length, s1.opened + 1, (s1.closed.map (· + 1)) ++ [1], s1.marks.map fun m => (2 + m.1, m.2)⟩, ?_, rfl⟩
  rw [parseS_in (by omega)]
  unfold choiceS branchS
  rw [if_neg (by rw [show RxS.init.at_ = 0 from rfl, hx 94 (by decide)]; decide)]
  obtain ⟨k, hk⟩ : ∃ k, L.length = k + 1 := ⟨L.length - 1, by omega⟩
  rw [brS_go (s := RxS.init) hg0 (by show (ahd L 0 _ || (false && ahd L 0 _)) = false; rw [ha0 124 (by decide)]; rfl) (by show (true && (ahd L 0 _ || (ahd L 0 _ || ahd L 0 _))) = false; rw [ha0 123 (by decide), ha0 43 (by decide), ha0 63 (by decide)]; rfl) (by show (ahd L 0 _ && _) = false; rw [hx 36 (by decide)]; rfl), (show rndS L (lev L 12) RxS.init (L[RxS.init.at_]'hg0) = _ from hrn)]
  simp only
  obtain ⟨z, hz⟩ : ∃ z : RxS, z = ⟨L.length, s1.opened + 1, (s1.closed.map (· + 1)) ++ [1], s1.marks.map fun m => (2 + m.1, m.2)⟩ := ⟨_, rfl⟩
  rw [← hz]
  have hzl : z.at_ = L.length := by rw [hz]
  have hov : ahd L z.at_ [92, 124] = false := by rw [hzl]; exact hover _ (by simp)
  clear hz hrn hgr
  rw [show brS prg L (lev L 12) false L.length false z ([] ++ [.group 1 (a.turn 1)]) = .inr (joined ([] ++ [.group 1 (a.turn 1)]), z) from by rw [hk]; exact brS_over (by omega)]
  simp only
  rw [chLoop, if_neg (by rw [hov]; decide)]
  rfl
end Go.Proofs.YtepeomphikhbkaaGreatDoor
