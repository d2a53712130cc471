/-
  Bracket expressions in plain words: what stands ahead, or behind. No walk.
-/
import Derived.Test.YtmoiiidfhkfdgaaDoorBrkP
namespace Go.Proofs.YtmoiiidfhkfdgaaDoor
open Go.RowKit

/-- Places, so many further on. -/
def shE (k : Nat) : Int × Nat → Int × Nat := fun z => (z.1, k + z.2)
def shI (k : Nat) : (Int × Nat) ⊕ It → (Int × Nat) ⊕ It
  | .inl z => .inl (shE k z)
  | .inr x => .inr ⟨x.set, x.one, k + x.next⟩
def shP (k : Nat) : (Int × Nat) ⊕ (S4 × Nat) → (Int × Nat) ⊕ (S4 × Nat)
  | .inl z => .inl (shE k z)
  | .inr x => .inr (x.1, k + x.2)

section
variable (p l : List UInt8)
theorem get_sh (a : Nat) : (p ++ l)[p.length + a]? = l[a]? := by
  rw [List.getElem?_append_right (by omega)]; congr 1; omega
theorem drop_sh (a : Nat) : (p ++ l).drop (p.length + a) = l.drop a := by
  rw [List.drop_append, List.drop_eq_nil_of_le (by omega), List.nil_append]; congr 1; omega
theorem nam_sh (a e : Nat) : nam (p ++ l) (p.length + a) (p.length + e) = nam l a e := by
  unfold nam
  rw [show p.length + a + 2 = p.length + (a + 2) by omega, drop_sh]
  congr 1; omega
theorem fnd_sh (k : UInt8) : ∀ n a, fnd (p ++ l) k n (p.length + a) = (fnd l k n a).map (p.length + ·)
  | 0, _ => rfl
  | n + 1, a => by
    rw [fnd, fnd, List.length_append, show p.length + a + 1 = p.length + (a + 1) by omega, get_sh, get_sh, fnd_sh k n (a + 1)]
    by_cases h : a + 1 < l.length
    · rw [if_pos (by omega), if_pos h]; split <;> rfl
    · rw [if_neg (by omega), if_neg h]; rfl
/-- Fuel beyond what is left of the text does nothing. -/
theorem fnd_fuel (k : UInt8) : ∀ n m a, l.length ≤ n + a → l.length ≤ m + a → fnd l k n a = fnd l k m a
  | 0, 0, _, _, _ => rfl
  | 0, m + 1, a, h, _ => by rw [fnd, fnd, if_neg (by omega)]
  | n + 1, 0, a, _, h => by rw [fnd, fnd, if_neg (by omega)]
  | n + 1, m + 1, a, h, h' => by rw [fnd, fnd, fnd_fuel k n m (a + 1) (by omega) (by omega)]
theorem itmN_sh (a : Nat) (k : UInt8) : itmN (p ++ l) (p.length + a) k = shI p.length (itmN l a k) := by
  unfold itmN
  rw [show p.length + a + 2 + skp k = p.length + (a + 2 + skp k) by omega, fnd_sh, fnd_fuel l k ((p ++ l).length + 1) (l.length + 1) _ (by simp; omega) (by omega)]
  cases fnd l k (l.length + 1) (a + 2 + skp k) with
  | none => simp [shI, shE]
  | some e =>
    simp only [Option.map_some, nam_sh]
    split
    · split <;> simp [shI, shE, Nat.add_assoc]
    · split <;> simp [shI, shE, Nat.add_assoc]
theorem itm_sh (a : Nat) : itm (p ++ l) (p.length + a) = shI p.length (itm l a) := by
  unfold itm
  rw [show p.length + a + 1 = p.length + (a + 1) by omega, get_sh, get_sh]
  cases l[a]? with
  | none => simp [shI, shE]
  | some c =>
    simp only
    cases l[a + 1]? with
    | none => rfl
    | some k => simp only; split <;> first | exact itmN_sh p l a k | rfl
theorem rng_sh (a : Nat) : rng (p ++ l) (p.length + a) = rng l a := by
  unfold rng
  rw [show p.length + a + 1 = p.length + (a + 1) by omega, get_sh, get_sh]
  congr 2
  simp
theorem prt_sh (a : Nat) : prt (p ++ l) (p.length + a) = shP p.length (prt l a) := by
  unfold prt
  rw [itm_sh]
  cases itm l a with
  | inl z => rfl
  | inr x =>
    simp only [shI, rng_sh]
    split
    · rw [show p.length + x.next + 1 = p.length + (x.next + 1) by omega, itm_sh]
      cases itm l (x.next + 1) with
      | inl z => rfl
      | inr y =>
        simp only [shI]
        cases x.one with
        | none => rfl
        | some c => cases y.one with
          | none => rfl
          | some d => simp only; split <;> rfl
    · rfl
theorem lop_sh : ∀ n a o, a ≤ l.length → l.length < n + a → lop (p ++ l) n (p.length + a) o = shP p.length (lop l n a o)
  | 0, a, o, h, h' => by omega
  | n + 1, a, o, h, h' => by
    rw [lop, lop, get_sh, prt_sh]
    split
    · rfl
    · cases hp : prt l a with
      | inl z => rfl
      | inr x => have := prt_next hp; exact lop_sh n x.2 _ this.2.1 (by omega)
theorem lop_fuel : ∀ n m a o, a ≤ l.length → l.length < n + a → l.length < m + a → lop l n a o = lop l m a o
  | 0, _, _, _, _, _, _ => by omega
  | _, 0, _, _, _, _, _ => by omega
  | n + 1, m + 1, a, o, h, h1, h2 => by
    rw [lop, lop]
    split
    · rfl
    · cases hp : prt l a with
      | inl z => rfl
      | inr x => have := prt_next hp; exact lop_fuel n m x.2 _ this.2.1 (by omega) (by omega)
end

/-- What stands behind ^, if it does. -/
def bod (l : List UInt8) (a : Nat) : (Int × Nat) ⊕ (S4 × Nat) := match prt l a with
  | .inl z => .inl z
  | .inr x => lop l (l.length + 1) x.2 x.1
def ends (d : Bool) : (Int × Nat) ⊕ (S4 × Nat) → (Int × Nat) ⊕ (S4 × Nat)
  | .inl z => .inl z
  | .inr y => .inr (if d then y.1.not else y.1, y.2 + 1)
theorem prs_t {l : List UInt8} {a : Nat} (h : l[a]? = some 94) : prs l a = ends true (bod l (a + 1)) := by
  unfold prs bod; simp only [h, if_true]
  cases prt l (a + 1) with
  | inl z => rfl
  | inr x => simp only; cases lop l (l.length + 1) x.2 x.1 <;> rfl
theorem prs_f {l : List UInt8} {a : Nat} (h : l[a]? ≠ some 94) : prs l a = ends false (bod l a) := by
  unfold prs bod; simp only [if_neg h]
  cases prt l a with
  | inl z => rfl
  | inr x => simp only; cases lop l (l.length + 1) x.2 x.1 <;> rfl
theorem bod_sh (p l : List UInt8) (a : Nat) : bod (p ++ l) (p.length + a) = shP p.length (bod l a) := by
  unfold bod
  rw [prt_sh]
  cases hp : prt l a with
  | inl z => rfl
  | inr x =>
    have := prt_next hp
    simp only [shP]
    rw [lop_fuel (p ++ l) _ (l.length + 1) _ _ (by simp; omega) (by simp; omega) (by simp; omega), lop_sh p l _ _ _ this.2.1 (by omega)]
    cases lop l (l.length + 1) x.2 x.1 <;> rfl
theorem ends_sh (d : Bool) (k : Nat) (R : (Int × Nat) ⊕ (S4 × Nat)) : ends d (shP k R) = shP k (ends d R) := by cases R <;> rfl
theorem prs_sh (p l : List UInt8) (a : Nat) : prs (p ++ l) (p.length + a) = shP p.length (prs l a) := by
  by_cases h : l[a]? = some 94
  · rw [prs_t (by rw [get_sh]; exact h), prs_t h, ← ends_sh, ← bod_sh]; rfl
  · rw [prs_f (by rw [get_sh]; exact h), prs_f h, ← ends_sh, ← bod_sh]

/-! ### What stands behind -/
section
variable (t : List UInt8) {l : List UInt8}
theorem get_app {a : Nat} (h : a < l.length) : (l ++ t)[a]? = l[a]? := List.getElem?_append_left h
theorem fnd_app {k : UInt8} : ∀ {n m a e : Nat}, n ≤ m → fnd l k n a = some e → fnd (l ++ t) k m a = some e
  | 0, _, _, _, _, h => by cases h
  | n + 1, 0, _, _, hm, _ => by omega
  | n + 1, m + 1, a, e, hm, h => by
    rw [fnd] at h ⊢
    split at h
    · next hl =>
      rw [if_pos (by simp; omega), get_app t (by omega), get_app t hl]
      split at h
      · next hk => rw [if_pos hk]; exact h
      · next hk => rw [if_neg hk]; exact fnd_app (by omega) h
    · cases h
theorem nam_app {a e : Nat} (h : e ≤ l.length) : nam (l ++ t) a e = nam l a e := by
  unfold nam
  by_cases ha : a + 2 ≤ l.length
  · rw [List.drop_append_of_le_length ha, List.take_append_of_le_length (by simp; omega)]
  · rw [show e - (a + 2) = 0 by omega]; rfl
theorem itmN_app {a : Nat} {k : UInt8} {x : It} (h : itmN l a k = .inr x) : itmN (l ++ t) a k = .inr x := by
  unfold itmN at h ⊢
  cases hf : fnd l k (l.length + 1) (a + 2 + skp k) with
  | none => rw [hf] at h; cases h
  | some e =>
    have he := (fnd_some hf).2.1
    rw [fnd_app t (m := (l ++ t).length + 1) (by simp) hf]
    rw [hf] at h
    simp only [nam_app t (show e ≤ l.length by omega)] at h ⊢
    exact h
theorem itm_app {a : Nat} {x : It} (h : itm l a = .inr x) (hx : x.next < l.length) : itm (l ++ t) a = .inr x := by
  have hn := itm_next h
  unfold itm at h ⊢
  rw [get_app t (by omega)]
  cases hc : l[a]? with
  | none => rw [hc] at h; cases h
  | some c =>
    rw [hc] at h
    simp only at h ⊢
    rw [get_app t (by omega)]
    cases hk : l[a + 1]? with
    | none => rw [hk] at h; injection h with h; subst h; have := List.getElem?_eq_none_iff.1 hk; simp only at hx; omega
    | some k =>
      rw [hk] at h
      simp only at h ⊢
      split at h
      · next hc => rw [if_pos hc]; exact itmN_app t h
      · next hc => rw [if_neg hc]; exact h
theorem rng_app {a : Nat} (h : a + 1 < l.length) : rng (l ++ t) a = rng l a := by
  unfold rng; rw [get_app t (by omega), get_app t h]; congr 2; simp; omega
theorem rng_93 {l : List UInt8} {a : Nat} (h : l[a]? = some 93) : rng l a = false := by unfold rng; rw [h]; simp
theorem prt_app {a : Nat} {x : S4 × Nat} (h : prt l a = .inr x) (h1 : x.2 < l.length) (h2 : x.2 + 1 < l.length ∨ l[x.2]? = some 93) : prt (l ++ t) a = .inr x := by
  unfold prt at h ⊢
  cases hy : itm l a with
  | inl z => rw [hy] at h; cases h
  | inr y =>
    have hn := itm_next hy
    rw [hy] at h
    simp only at h
    by_cases hr : rng l y.next = true
    · have hr2 : y.next + 1 < l.length := by unfold rng at hr; simp at hr; exact hr.1.1
      rw [if_pos hr] at h
      rw [itm_app t hy (by omega)]
      simp only
      rw [rng_app t hr2, if_pos hr]
      cases hz : itm l (y.next + 1) with
      | inl z => rw [hz] at h; cases h
      | inr z =>
        rw [hz] at h
        have hzn : z.next < l.length := by
          simp only at h
          split at h
          · split at h
            · injection h with h; subst h; exact h1
            · cases h
          · cases h
        rw [itm_app t hz hzn]
        exact h
    · rw [if_neg hr] at h
      injection h with h; subst h
      have hr' : rng l y.next = false := by simpa using hr
      rw [itm_app t hy h1]
      simp only
      have : rng (l ++ t) y.next = false := by
        rcases h2 with h2 | h2
        · rw [rng_app t h2, hr']
        · exact rng_93 (by rw [get_app t h1]; exact h2)
      rw [this]; rfl
theorem lop_room {l : List UInt8} {n a : Nat} {o : S4} {y : S4 × Nat} (ho : o.fit) (h : lop l n a o = .inr y) : a < l.length ∧ (a + 1 < l.length ∨ l[a]? = some 93) := by
  have hn := lop_next ho h
  refine ⟨by omega, ?_⟩
  cases n with
  | zero => simp [lop] at h
  | succ n =>
    rw [lop] at h
    split at h
    · next hc => exact .inr hc
    · cases hp : prt l a with
      | inl z => rw [hp] at h; cases h
      | inr x =>
        rw [hp] at h
        have h1 := prt_next hp
        have h2 := lop_next (fit_or _ _) h
        exact .inl (by omega)
theorem lop_app : ∀ {n m a : Nat} {o : S4} {y : S4 × Nat}, n ≤ m → lop l n a o = .inr y → o.fit → lop (l ++ t) m a o = .inr y
  | 0, _, _, _, _, _, h, _ => by simp [lop] at h
  | n + 1, 0, _, _, _, hm, _, _ => by omega
  | n + 1, m + 1, a, o, y, hm, h, ho => by
    have hr := lop_room ho h
    rw [lop] at h ⊢
    rw [get_app t hr.1]
    split at h
    · next hc => rw [if_pos hc]; exact h
    · next hc =>
      rw [if_neg hc]
      cases hp : prt l a with
      | inl z => rw [hp] at h; cases h
      | inr x =>
        rw [hp] at h
        have h2 := lop_room (fit_or _ _) h
        rw [prt_app t hp h2.1 h2.2]
        exact lop_app (by omega) h (fit_or _ _)
theorem bod_app {a : Nat} {y : S4 × Nat} (h : bod l a = .inr y) : bod (l ++ t) a = .inr y := by
  unfold bod at h ⊢
  cases hp : prt l a with
  | inl z => rw [hp] at h; cases h
  | inr x =>
    rw [hp] at h
    have hf := (prt_next hp).2.2
    have h2 := lop_room hf h
    rw [prt_app t hp h2.1 h2.2]
    exact lop_app t (by simp) h hf
theorem prs_app {a : Nat} {y : S4 × Nat} (h : prs l a = .inr y) : prs (l ++ t) a = .inr y := by
  have ha : a < l.length := by
    by_cases ha : a < l.length
    · exact ha
    · have hn : l[a]? = none := List.getElem?_eq_none (by omega)
      rw [prs_f (by rw [hn]; simp)] at h
      unfold bod prt itm at h
      rw [hn] at h
      simp [ends] at h
  by_cases hc : l[a]? = some 94
  · rw [prs_t hc] at h
    rw [prs_t (by rw [get_app t ha]; exact hc)]
    cases hb : bod l (a + 1) with
    | inl z => rw [hb] at h; cases h
    | inr x => rw [hb] at h; rw [bod_app t hb]; exact h
  · rw [prs_f hc] at h
    rw [prs_f (by rw [get_app t ha]; exact hc)]
    cases hb : bod l a with
    | inl z => rw [hb] at h; cases h
    | inr x => rw [hb] at h; rw [bod_app t hb]; exact h
end

/-- A text that begins with no ^, behind ^. -/
theorem prs_not {l : List UInt8} (h : l[0]? ≠ some 94) : prs (94 :: l) 0 = (match prs l 0 with | .inl z => .inl (z.1, z.2 + 1) | .inr y => .inr (y.1.not, y.2 + 1)) := by
  rw [prs_t rfl, prs_f h]
  have := bod_sh [94] l 0
  simp only [List.singleton_append, List.length_singleton, Nat.add_zero] at this
  rw [show 0 + 1 = 1 from rfl, this]
  cases bod l 0 with
  | inl z => simp [ends, shP, shE, Nat.add_comm]
  | inr y => simp [ends, shP, Nat.add_comm, Nat.add_left_comm]
/-- What stands ahead, or behind, changes nothing. -/
theorem prs_amid {p s t : List UInt8} {y : S4 × Nat} (h : prs s 0 = .inr y) : prs (p ++ s ++ t) p.length = .inr (y.1, p.length + y.2) := by
  have h1 := prs_app t h
  have h2 := prs_sh p (s ++ t) 0
  rw [Nat.add_zero, h1, ← List.append_assoc] at h2
  exact h2

/-! ### Single bytes, each between [. and .] -/
theorem itm_kind' {l : List UInt8} {a : Nat} {k : UInt8} (h0 : a + 1 < l.length) (h : l[a]? = some 91) (hk : l[a + 1]? = some k) (h2 : isKind k = true) : itm l a = itmN l a k := by
  unfold itm
  rw [h]; simp only
  rw [hk]; simp only
  rw [if_pos (by simp [h2])]
def brk (b : UInt8) : List UInt8 := [91, 46, b, 46, 93]
def brks (l : List UInt8) : List UInt8 := l.flatMap brk
theorem brks_len (l : List UInt8) : (brks l).length = 5 * l.length := by
  induction l with
  | nil => rfl
  | cons b l ih => rw [brks, List.flatMap_cons, List.length_append, ← brks, ih]; simp [brk]; omega
theorem itm_brk (b : UInt8) (r : List UInt8) : itm (brk b ++ r) 0 = .inr ⟨spn b.toNat b.toNat, some b, 5⟩ := by
  rw [itm_kind' (l := brk b ++ r) (a := 0) (k := 46) (by simp [brk]) (by simp [brk]) (by simp [brk]) (by decide)]
  refine (itmN_one (e := 3) (c := b) (by decide) ?_ ?_).trans rfl
  · rw [fnd, if_pos (by simp [brk]), if_pos (by simp [brk])]
  · simp [nam, brk]
theorem prt_brk (b : UInt8) (r : List UInt8) (h : rng (brk b ++ r) 5 = false) : prt (brk b ++ r) 0 = .inr (spn b.toNat b.toNat, 5) := by
  unfold prt; rw [itm_brk]; simp only; rw [h]; rfl
theorem rng_brks (b : UInt8) (l : List UInt8) (t : List UInt8) : rng (brk b ++ (brks l ++ 93 :: t)) 5 = false := by
  cases l with
  | nil => exact rng_93 (by simp [brk, brks])
  | cons c l => unfold rng; simp [brk, brks]
theorem or_one {o : S4} (ho : o.fit) (b : UInt8) : o.or (spn b.toNat b.toNat) = o.put b.toNat := by
  have hb := b.toNat_lt
  refine S4.ext_has (fit_or _ _) (fit_put ho _) fun e he => ?_
  rw [has_or, has_spn _ _ _ (by omega) (by omega) he, has_put _ _ _ (by omega) he, Bool.or_comm]
  congr 1
  rw [Bool.eq_iff_iff]; simp; omega
theorem lop_brks (t : List UInt8) : ∀ (l p : List UInt8) (n : Nat) (o : S4), o.fit → l.length < n → lop (p ++ (brks l ++ 93 :: t)) n p.length o = .inr (o.puts l, p.length + 5 * l.length)
  | [], p, n, o, _, hn => by
    obtain ⟨n, rfl⟩ : ∃ m, n = m + 1 := ⟨n - 1, by simp at hn; omega⟩
    rw [lop, if_pos (by simp [brks])]; rfl
  | b :: l, p, n, o, ho, hn => by
    obtain ⟨n, rfl⟩ : ∃ m, n = m + 1 := ⟨n - 1, by simp at hn; omega⟩
    have hp := prt_sh p (brks (b :: l) ++ 93 :: t) 0
    rw [Nat.add_zero] at hp
    have e1 : brks (b :: l) ++ 93 :: t = brk b ++ (brks l ++ 93 :: t) := by simp [brks]
    rw [lop, if_neg (by simp [brks, brk]), hp, e1, prt_brk b _ (rng_brks b l t)]
    simp only [shP]
    have e2 : p ++ (brk b ++ (brks l ++ 93 :: t)) = (p ++ brk b) ++ (brks l ++ 93 :: t) := by simp
    have ih := lop_brks t l (p ++ brk b) n (o.put b.toNat) (fit_put ho _) (by simp at hn; omega)
    rw [show (p ++ brk b).length = p.length + 5 by simp [brk]] at ih
    rw [e2, or_one ho, ih]
    simp [S4.puts, List.length_cons]; omega
theorem bod_brks (p l : List UInt8) (h : l ≠ []) : bod (p ++ (brks l ++ [93])) p.length = .inr (S4.zero.puts l, p.length + 5 * l.length) := by
  cases l with
  | nil => exact absurd rfl h
  | cons b l =>
    have e1 : brks (b :: l) ++ [93] = brk b ++ (brks l ++ [93]) := by simp [brks]
    have hp := prt_sh p (brk b ++ (brks l ++ [93])) 0
    rw [Nat.add_zero, prt_brk b _ (rng_brks b l [])] at hp
    unfold bod
    rw [e1, hp]
    simp only [shP]
    have e2 : p ++ (brk b ++ (brks l ++ [93])) = (p ++ brk b) ++ (brks l ++ [93]) := by simp
    have ih := lop_brks [] l (p ++ brk b) ((p ++ (brk b ++ (brks l ++ [93]))).length + 1) (spn b.toNat b.toNat) (fit_spn _ _) (by have := brks_len l; simp [brk]; omega)
    rw [show (p ++ brk b).length = p.length + 5 by simp [brk]] at ih
    rw [← zero_or (fit_spn b.toNat b.toNat), or_one fit_zero] at ih
    rw [e2] at ih ⊢
    rw [← zero_or (fit_spn b.toNat b.toNat), or_one fit_zero, ih]
    simp [S4.puts, List.length_cons]; omega
theorem prs_brks (l : List UInt8) (h : l ≠ []) : prs (brks l ++ [93]) 0 = .inr (S4.zero.puts l, 5 * l.length + 1) := by
  rw [prs_f (by cases l with | nil => exact absurd rfl h | cons b l => simp [brks, brk])]
  have := bod_brks [] l h
  simp only [List.nil_append, List.length_nil, Nat.zero_add] at this
  rw [this]; rfl
theorem prs_nbrks (l : List UInt8) (h : l ≠ []) : prs (94 :: (brks l ++ [93])) 0 = .inr ((S4.zero.puts l).not, 5 * l.length + 2) := by
  rw [prs_not (by cases l with | nil => exact absurd rfl h | cons b l => simp [brks, brk]), prs_brks l h]
/-- Two of them, with a - between. -/
theorem prs_two (a b : UInt8) : prs (brk a ++ (45 :: (brk b ++ [93]))) 0 = if a.toNat ≤ b.toNat then .inr (spn a.toNat b.toNat, 12) else .inl (1, 0) := by
  rw [prs_f (by simp [brk])]
  have h2 : itm (brk a ++ (45 :: (brk b ++ [93]))) 6 = .inr ⟨spn b.toNat b.toNat, some b, 11⟩ := by
    have := itm_sh (brk a ++ [45]) (brk b ++ [93]) 0
    rw [itm_brk] at this
    simpa [brk, shI] using this
  unfold bod prt
  rw [itm_brk]
  simp only
  rw [if_pos (by simp [rng, brk]), h2]
  simp only
  by_cases hab : a.toNat ≤ b.toNat
  · rw [if_pos hab, if_pos hab]
    simp only
    rw [lop, if_pos (by simp [brk])]; rfl
  · rw [if_neg hab, if_neg hab]; rfl

end Go.Proofs.YtmoiiidfhkfdgaaDoor
