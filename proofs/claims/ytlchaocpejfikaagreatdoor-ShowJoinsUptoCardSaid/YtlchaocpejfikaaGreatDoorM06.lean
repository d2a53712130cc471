/-
  Merged texts of this claim: BrkP, BrkR.
-/
import Derived.Lib.IndexMore
import Derived.Test.YtlchaocpejfikaaGreatDoorM02
import Derived.Test.YtlchaocpejfikaaGreatDoorM05

/-
  Bracket expressions: what the document reads. Plain: no walk.
-/
namespace Go.Proofs.YtlchaocpejfikaaGreatDoor
open Go.RowKit

/-- Where a sign and ] stand first, from a place on. -/
def fnd (l : List UInt8) (k : UInt8) : Nat → Nat → Option Nat
  | 0, _ => none
  | n + 1, p => if p + 1 < l.length then (if l[p]? = some k ∧ l[p + 1]? = some 93 then some p else fnd l k n (p + 1)) else none
/-- What an item has: its bytes; its one byte, if it may begin or end a range; the place behind. -/
structure It where
  set : S4
  one : Option UInt8
  next : Nat
def isKind (c : UInt8) : Bool := c == 58 || c == 61 || c == 46
def skp (k : UInt8) : Nat := if k = 58 then 0 else 1
def nam (l : List UInt8) (at_ e : Nat) : List UInt8 := (l.drop (at_ + 2)).take (e - (at_ + 2))
def itmN (l : List UInt8) (at_ : Nat) (k : UInt8) : (Int × Nat) ⊕ It :=
  match fnd l k (l.length + 1) (at_ + 2 + skp k) with
  | none => .inl (5, l.length)
  | some e =>
    if k = 58 then (match clsOf ⟨(nam l at_ e).toArray⟩ with | none => .inl (6, at_) | some p => .inr ⟨pk p 256, none, e + 2⟩)
    else (match nam l at_ e with | [b] => .inr ⟨spn b.toNat b.toNat, if k = 46 then some b else none, e + 2⟩ | _ => .inl (6, at_))
def itm (l : List UInt8) (at_ : Nat) : (Int × Nat) ⊕ It :=
  match l[at_]? with
  | none => .inl (5, l.length)
  | some c => match l[at_ + 1]? with
    | none => .inr ⟨spn c.toNat c.toNat, some c, at_ + 1⟩
    | some k => if c = 91 ∧ isKind k = true then itmN l at_ k else .inr ⟨spn c.toNat c.toNat, some c, at_ + 1⟩
def rng (l : List UInt8) (k : Nat) : Bool := decide (k + 1 < l.length) && (l[k]? == some 45) && !(l[k + 1]? == some 93)
def prt (l : List UInt8) (at_ : Nat) : (Int × Nat) ⊕ (S4 × Nat) :=
  match itm l at_ with
  | .inl e => .inl e
  | .inr x => if rng l x.next then
      (match itm l (x.next + 1) with
      | .inl e => .inl e
      | .inr y => match x.one, y.one with
        | some a, some b => if a.toNat ≤ b.toNat then .inr (spn a.toNat b.toNat, y.next) else .inl (1, at_)
        | _, _ => .inl (1, at_))
    else .inr (x.set, x.next)
def lop (l : List UInt8) : Nat → Nat → S4 → (Int × Nat) ⊕ (S4 × Nat)
  | 0, _, _ => .inl (0, 0)
  | n + 1, at_, out => if l[at_]? = some 93 then .inr (out, at_) else
    match prt l at_ with | .inl e => .inl e | .inr x => lop l n x.2 (out.or x.1)
def prs (l : List UInt8) (at_ : Nat) : (Int × Nat) ⊕ (S4 × Nat) :=
  let at' := if l[at_]? = some 94 then at_ + 1 else at_
  match prt l at' with
  | .inl e => .inl e
  | .inr x => match lop l (l.length + 1) x.2 x.1 with
    | .inl e => .inl e
    | .inr y => .inr (if l[at_]? = some 94 then y.1.not else y.1, y.2 + 1)

/-! ### Where things stand -/
theorem fnd_some {l : List UInt8} {k : UInt8} : ∀ {n p e : Nat}, fnd l k n p = some e → p ≤ e ∧ e + 1 < l.length ∧ l[e]? = some k ∧ l[e + 1]? = some 93 ∧ ∀ j, p ≤ j → j < e → ¬ (l[j]? = some k ∧ l[j + 1]? = some 93)
  | 0, p, e, h => by simp [fnd] at h
  | n + 1, p, e, h => by
    rw [fnd] at h
    split at h
    · next hl =>
      split at h
      · next hk => injection h with h; subst h; exact ⟨Nat.le_refl _, hl, hk.1, hk.2, fun j h1 h2 => by omega⟩
      · next hk =>
        obtain ⟨h1, h2, h3, h4, h5⟩ := fnd_some h
        refine ⟨by omega, h2, h3, h4, fun j hj hje => ?_⟩
        rcases Nat.eq_or_lt_of_le hj with rfl | hj
        · exact hk
        · exact h5 j hj hje
    · cases h
theorem fnd_none {l : List UInt8} {k : UInt8} : ∀ {n p : Nat}, l.length < n + p → fnd l k n p = none → ∀ j, p ≤ j → ¬ (l[j]? = some k ∧ l[j + 1]? = some 93)
  | 0, p, hn, _, j, hj => fun h => by
    have := (List.getElem?_eq_some_iff.1 h.1).1; omega
  | n + 1, p, hn, h, j, hj => by
    rw [fnd] at h
    split at h
    · split at h
      · cases h
      · next hk =>
        rcases Nat.eq_or_lt_of_le hj with rfl | hj
        · exact hk
        · exact fnd_none (by omega) h j hj
    · next hl => exact fun hc => by have := (List.getElem?_eq_some_iff.1 hc.2).1; omega
theorem occ2 (l : List UInt8) (p i : Nat) (k : UInt8) : Lib.occAt (l.drop p) [k, 93] i = true ↔ l[p + i]? = some k ∧ l[p + i + 1]? = some 93 := by
  unfold Lib.occAt
  rw [List.drop_drop]
  have e1 : l[p + i]? = (l.drop (p + i))[0]? := by simp
  have e2 : l[p + i + 1]? = (l.drop (p + i))[1]? := by simp
  rw [e1, e2]
  cases h : l.drop (p + i) with
  | nil => simp
  | cons a r =>
    cases r with
    | nil => simp
    | cons b r =>
      simp [List.isPrefixOf]
      constructor <;> (rintro ⟨h1, h2⟩; exact ⟨h1.symm, h2.symm⟩)
theorem idx_fnd (l : List UInt8) (k : UInt8) (p : Nat) (hp : p ≤ l.length) : Lib.index (l.drop p) [k, 93] = match fnd l k (l.length + 1) p with | some e => (e : Int) - p | none => -1 := by
  cases h : fnd l k (l.length + 1) p with
  | none =>
    have hn := fnd_none (by omega) h
    refine Lib.index_none fun j hj => ?_
    cases ho : Lib.occAt (l.drop p) [k, 93] j with
    | false => rfl
    | true => exact absurd ((occ2 l p j k).1 ho) (hn (p + j) (by omega))
  | some e =>
    obtain ⟨h1, h2, h3, h4, h5⟩ := fnd_some h
    have := Lib.index_first (s := l.drop p) (sub := [k, 93]) (i := e - p) (by simp; omega) ((occ2 l p (e - p) k).2 ⟨by rw [show p + (e - p) = e by omega]; exact h3, by rw [show p + (e - p) = e by omega]; exact h4⟩) (fun j hj => by
      cases ho : Lib.occAt (l.drop p) [k, 93] j with
      | false => rfl
      | true => exact absurd ((occ2 l p j k).1 ho) (h5 (p + j) (by omega) (by omega)))
    rw [this]; simp only; omega

theorem itmN_one {l : List UInt8} {a e : Nat} {k c : UInt8} (hk : k ≠ 58) (hf : fnd l k (l.length + 1) (a + 2 + 1) = some e) (hn : nam l a e = [c]) : itmN l a k = .inr ⟨spn c.toNat c.toNat, if k = 46 then some c else none, e + 2⟩ := by
  unfold itmN skp; rw [if_neg hk, hf]; simp only; rw [if_neg hk, hn]
theorem itmN_bad {l : List UInt8} {a e : Nat} {k : UInt8} (hk : k ≠ 58) (hf : fnd l k (l.length + 1) (a + 2 + 1) = some e) (hn : (nam l a e).length ≠ 1) : itmN l a k = .inl (6, a) := by
  unfold itmN skp; rw [if_neg hk, hf]; simp only; rw [if_neg hk]
  split
  · next h => rw [h] at hn; simp at hn
  · rfl
theorem itmN_cls {l : List UInt8} {a e : Nat} {p : Int → Bool} (hf : fnd l 58 (l.length + 1) (a + 2) = some e) (hn : clsOf ⟨(nam l a e).toArray⟩ = some p) : itmN l a 58 = .inr ⟨pk p 256, none, e + 2⟩ := by
  unfold itmN skp; rw [if_pos rfl, Nat.add_zero, hf]; simp only; rw [if_pos trivial, hn]
theorem itmN_clsno {l : List UInt8} {a e : Nat} (hf : fnd l 58 (l.length + 1) (a + 2) = some e) (hn : clsOf ⟨(nam l a e).toArray⟩ = none) : itmN l a 58 = .inl (6, a) := by
  unfold itmN skp; rw [if_pos rfl, Nat.add_zero, hf]; simp only; rw [if_pos trivial, hn]
theorem itmN_none {l : List UInt8} {a : Nat} {k : UInt8} (hf : fnd l k (l.length + 1) (a + 2 + skp k) = none) : itmN l a k = .inl (5, l.length) := by
  unfold itmN; rw [hf]
theorem itmN_next {l : List UInt8} {a : Nat} {k : UInt8} {x : It} (h : itmN l a k = .inr x) : a < x.next ∧ x.next ≤ l.length ∧ x.set.fit := by
  unfold itmN at h
  cases hf : fnd l k (l.length + 1) (a + 2 + skp k) with
  | none => rw [hf] at h; cases h
  | some e =>
    obtain ⟨h1, h2, _⟩ := fnd_some hf
    rw [hf] at h
    simp only at h
    split at h
    · split at h
      · cases h
      · injection h with h; subst h; exact ⟨by simp only; omega, by simp only; omega, fit_pk _ _⟩
    · split at h
      · injection h with h; subst h; exact ⟨by simp only; omega, by simp only; omega, fit_spn _ _⟩
      · cases h
theorem itm_next {l : List UInt8} {a : Nat} {x : It} (h : itm l a = .inr x) : a < x.next ∧ x.next ≤ l.length ∧ x.set.fit := by
  unfold itm at h
  split at h
  · cases h
  · next c hc =>
    have hl := (List.getElem?_eq_some_iff.1 hc).1
    split at h
    · injection h with h; subst h; exact ⟨Nat.lt_succ_self _, hl, fit_spn _ _⟩
    · split at h
      · exact itmN_next h
      · injection h with h; subst h; exact ⟨Nat.lt_succ_self _, hl, fit_spn _ _⟩
theorem itm_one {l : List UInt8} {a : Nat} {x : It} {c : UInt8} (h : itm l a = .inr x) (ho : x.one = some c) : x.set = spn c.toNat c.toNat := by
  unfold itm at h
  split at h
  · cases h
  · split at h
    · injection h with h; subst h; injection ho with ho; subst ho; rfl
    · split at h
      · unfold itmN at h
        split at h
        · cases h
        · split at h
          · split at h
            · cases h
            · injection h with h; subst h; cases ho
          · split at h
            · injection h with h; subst h
              simp only at ho
              split at ho
              · injection ho with ho; subst ho; rfl
              · cases ho
            · cases h
      · injection h with h; subst h; injection ho with ho; subst ho; rfl
theorem prt_next {l : List UInt8} {a : Nat} {x : S4 × Nat} (h : prt l a = .inr x) : a < x.2 ∧ x.2 ≤ l.length ∧ x.1.fit := by
  unfold prt at h
  split at h
  · cases h
  · next y hy =>
    have h1 := itm_next hy
    split at h
    · split at h
      · cases h
      · next z hz =>
        have h2 := itm_next hz
        split at h
        · split at h
          · injection h with h; subst h; exact ⟨by simp only; omega, h2.2.1, fit_spn _ _⟩
          · cases h
        · cases h
    · injection h with h; subst h; exact h1
theorem lop_next {l : List UInt8} : ∀ {n a : Nat} {o : S4} {x : S4 × Nat}, o.fit → lop l n a o = .inr x → a ≤ x.2 ∧ x.2 < l.length ∧ x.1.fit
  | 0, a, o, x, ho, h => by simp [lop] at h
  | n + 1, a, o, x, ho, h => by
    rw [lop] at h
    split at h
    · next hc => injection h with h; subst h; exact ⟨Nat.le_refl _, (List.getElem?_eq_some_iff.1 hc).1, ho⟩
    · split at h
      · cases h
      · next y hy =>
        have h1 := prt_next hy
        have h2 := lop_next (fit_or _ _) h
        exact ⟨by omega, h2.2⟩
theorem zero_or {s : S4} (h : s.fit) : S4.zero.or s = s := S4.ext_has (fit_or _ _) h fun e _ => by rw [has_or, has_zero]; rfl

end Go.Proofs.YtlchaocpejfikaaGreatDoor

/-
  Bracket expressions in plain words: what stands ahead, or behind. No walk.
-/
namespace Go.Proofs.YtlchaocpejfikaaGreatDoor
open Go.RowKit

/-- Places, so many further on. -/
def shE (k : Nat) : Int × Nat → Int × Nat := fun z => (z.1, k + z.2)
def shI (k : Nat) : (Int × Nat) ⊕ It → (Int × Nat) ⊕ It
  | .inl z => .inl (shE k z)
  | .inr x => .inr ⟨x.set, x.one, k + x.next⟩
def shP (k : Nat) : (Int × Nat) ⊕ (S4 × Nat) → (Int × Nat) ⊕ (S4 × Nat)
  | .inl z => .inl (shE k z)
  | .inr x => .inr (x.1, k + x.2)

section
variable (p l : List UInt8)
theorem get_sh (a : Nat) : (p ++ l)[p.length + a]? = l[a]? := by
  rw [List.getElem?_append_right (by omega)]; congr 1; omega
theorem drop_sh (a : Nat) : (p ++ l).drop (p.length + a) = l.drop a := by
  rw [List.drop_append, List.drop_eq_nil_of_le (by omega), List.nil_append]; congr 1; omega
theorem nam_sh (a e : Nat) : nam (p ++ l) (p.length + a) (p.length + e) = nam l a e := by
  unfold nam
  rw [show p.length + a + 2 = p.length + (a + 2) by omega, drop_sh]
  congr 1; omega
theorem fnd_sh (k : UInt8) : ∀ n a, fnd (p ++ l) k n (p.length + a) = (fnd l k n a).map (p.length + ·)
  | 0, _ => rfl
  | n + 1, a => by
    rw [fnd, fnd, List.length_append, show p.length + a + 1 = p.length + (a + 1) by omega, get_sh, get_sh, fnd_sh k n (a + 1)]
    by_cases h : a + 1 < l.length
    · rw [if_pos (by omega), if_pos h]; split <;> rfl
    · rw [if_neg (by omega), if_neg h]; rfl
/-- Fuel beyond what is left of the text does nothing. -/
theorem fnd_fuel (k : UInt8) : ∀ n m a, l.length ≤ n + a → l.length ≤ m + a → fnd l k n a = fnd l k m a
  | 0, 0, _, _, _ => rfl
  | 0, m + 1, a, h, _ => by rw [fnd, fnd, if_neg (by omega)]
  | n + 1, 0, a, _, h => by rw [fnd, fnd, if_neg (by omega)]
  | n + 1, m + 1, a, h, h' => by rw [fnd, fnd, fnd_fuel k n m (a + 1) (by omega) (by omega)]
theorem itmN_sh (a : Nat) (k : UInt8) : itmN (p ++ l) (p.length + a) k = shI p.length (itmN l a k) := by
  unfold itmN
  rw [show p.length + a + 2 + skp k = p.length + (a + 2 + skp k) by omega, fnd_sh, fnd_fuel l k ((p ++ l).length + 1) (l.length + 1) _ (by simp; omega) (by omega)]
  cases fnd l k (l.length + 1) (a + 2 + skp k) with
  | none => simp [shI, shE]
  | some e =>
    simp only [Option.map_some, nam_sh]
    split
    · split <;> simp [shI, shE, Nat.add_assoc]
    · split <;> simp [shI, shE, Nat.add_assoc]
theorem itm_sh (a : Nat) : itm (p ++ l) (p.length + a) = shI p.length (itm l a) := by
  unfold itm
  rw [show p.length + a + 1 = p.length + (a + 1) by omega, get_sh, get_sh]
  cases l[a]? with
  | none => simp [shI, shE]
  | some c =>
    simp only
    cases l[a + 1]? with
    | none => rfl
    | some k => simp only; split <;> first | exact itmN_sh p l a k | rfl
theorem rng_sh (a : Nat) : rng (p ++ l) (p.length + a) = rng l a := by
  unfold rng
  rw [show p.length + a + 1 = p.length + (a + 1) by omega, get_sh, get_sh]
  congr 2
  simp
theorem prt_sh (a : Nat) : prt (p ++ l) (p.length + a) = shP p.length (prt l a) := by
  unfold prt
  rw [itm_sh]
  cases itm l a with
  | inl z => rfl
  | inr x =>
    simp only [shI, rng_sh]
    split
    · rw [show p.length + x.next + 1 = p.length + (x.next + 1) by omega, itm_sh]
      cases itm l (x.next + 1) with
      | inl z => rfl
      | inr y =>
        simp only [shI]
        cases x.one with
        | none => rfl
        | some c => cases y.one with
          | none => rfl
          | some d => simp only; split <;> rfl
    · rfl
theorem lop_sh : ∀ n a o, a ≤ l.length → l.length < n + a → lop (p ++ l) n (p.length + a) o = shP p.length (lop l n a o)
  | 0, a, o, h, h' => by omega
  | n + 1, a, o, h, h' => by
    rw [lop, lop, get_sh, prt_sh]
    split
    · rfl
    · cases hp : prt l a with
      | inl z => rfl
      | inr x => have := prt_next hp; exact lop_sh n x.2 _ this.2.1 (by omega)
theorem lop_fuel : ∀ n m a o, a ≤ l.length → l.length < n + a → l.length < m + a → lop l n a o = lop l m a o
  | 0, _, _, _, _, _, _ => by omega
  | _, 0, _, _, _, _, _ => by omega
  | n + 1, m + 1, a, o, h, h1, h2 => by
    rw [lop, lop]
    split
    · rfl
    · cases hp : prt l a with
      | inl z => rfl
      | inr x => have := prt_next hp; exact lop_fuel n m x.2 _ this.2.1 (by omega) (by omega)
end

/-- What stands behind ^, if it does. -/
def bod (l : List UInt8) (a : Nat) : (Int × Nat) ⊕ (S4 × Nat) := match prt l a with
  | .inl z => .inl z
  | .inr x => lop l (l.length + 1) x.2 x.1
def ends (d : Bool) : (Int × Nat) ⊕ (S4 × Nat) → (Int × Nat) ⊕ (S4 × Nat)
  | .inl z => .inl z
  | .inr y => .inr (if d then y.1.not else y.1, y.2 + 1)
theorem prs_t {l : List UInt8} {a : Nat} (h : l[a]? = some 94) : prs l a = ends true (bod l (a + 1)) := by
  unfold prs bod; simp only [h, if_true]
  cases prt l (a + 1) with
  | inl z => rfl
  | inr x => simp only; cases lop l (l.length + 1) x.2 x.1 <;> rfl
theorem prs_f {l : List UInt8} {a : Nat} (h : l[a]? ≠ some 94) : prs l a = ends false (bod l a) := by
  unfold prs bod; simp only [if_neg h]
  cases prt l a with
  | inl z => rfl
  | inr x => simp only; cases lop l (l.length + 1) x.2 x.1 <;> rfl
theorem bod_sh (p l : List UInt8) (a : Nat) : bod (p ++ l) (p.length + a) = shP p.length (bod l a) := by
  unfold bod
  rw [prt_sh]
  cases hp : prt l a with
  | inl z => rfl
  | inr x =>
    have := prt_next hp
    simp only [shP]
    rw [lop_fuel (p ++ l) _ (l.length + 1) _ _ (by simp; omega) (by simp; omega) (by simp; omega), lop_sh p l _ _ _ this.2.1 (by omega)]
    cases lop l (l.length + 1) x.2 x.1 <;> rfl
theorem ends_sh (d : Bool) (k : Nat) (R : (Int × Nat) ⊕ (S4 × Nat)) : ends d (shP k R) = shP k (ends d R) := by cases R <;> rfl
theorem prs_sh (p l : List UInt8) (a : Nat) : prs (p ++ l) (p.length + a) = shP p.length (prs l a) := by
  by_cases h : l[a]? = some 94
  · rw [prs_t (by rw [get_sh]; exact h), prs_t h, ← ends_sh, ← bod_sh]; rfl
  · rw [prs_f (by rw [get_sh]; exact h), prs_f h, ← ends_sh, ← bod_sh]

/-! ### What stands behind -/
section
variable (t : List UInt8) {l : List UInt8}
theorem get_app {a : Nat} (h : a < l.length) : (l ++ t)[a]? = l[a]? := List.getElem?_append_left h
theorem fnd_app {k : UInt8} : ∀ {n m a e : Nat}, n ≤ m → fnd l k n a = some e → fnd (l ++ t) k m a = some e
  | 0, _, _, _, _, h => by cases h
  | n + 1, 0, _, _, hm, _ => by omega
  | n + 1, m + 1, a, e, hm, h => by
    rw [fnd] at h ⊢
    split at h
    · next hl =>
      rw [if_pos (by simp; omega), get_app t (by omega), get_app t hl]
      split at h
      · next hk => rw [if_pos hk]; exact h
      · next hk => rw [if_neg hk]; exact fnd_app (by omega) h
    · cases h
theorem nam_app {a e : Nat} (h : e ≤ l.length) : nam (l ++ t) a e = nam l a e := by
  unfold nam
  by_cases ha : a + 2 ≤ l.length
  · rw [List.drop_append_of_le_length ha, List.take_append_of_le_length (by simp; omega)]
  · rw [show e - (a + 2) = 0 by omega]; rfl
theorem itmN_app {a : Nat} {k : UInt8} {x : It} (h : itmN l a k = .inr x) : itmN (l ++ t) a k = .inr x := by
  unfold itmN at h ⊢
  cases hf : fnd l k (l.length + 1) (a + 2 + skp k) with
  | none => rw [hf] at h; cases h
  | some e =>
    have he := (fnd_some hf).2.1
    rw [fnd_app t (m := (l ++ t).length + 1) (by simp) hf]
    rw [hf] at h
    simp only [nam_app t (show e ≤ l.length by omega)] at h ⊢
    exact h
theorem itm_app {a : Nat} {x : It} (h : itm l a = .inr x) (hx : x.next < l.length) : itm (l ++ t) a = .inr x := by
  have hn := itm_next h
  unfold itm at h ⊢
  rw [get_app t (by omega)]
  cases hc : l[a]? with
  | none => rw [hc] at h; cases h
  | some c =>
    rw [hc] at h
    simp only at h ⊢
    rw [get_app t (by omega)]
    cases hk : l[a + 1]? with
    | none => rw [hk] at h; injection h with h; subst h; have := List.getElem?_eq_none_iff.1 hk; simp only at hx; omega
    | some k =>
      rw [hk] at h
      simp only at h ⊢
      split at h
      · next hc => rw [if_pos hc]; exact itmN_app t h
      · next hc => rw [if_neg hc]; exact h
theorem rng_app {a : Nat} (h : a + 1 < l.length) : rng (l ++ t) a = rng l a := by
  unfold rng; rw [get_app t (by omega), get_app t h]; congr 2; simp; omega
theorem rng_93 {l : List UInt8} {a : Nat} (h : l[a]? = some 93) : rng l a = false := by unfold rng; rw [h]; simp
theorem prt_app {a : Nat} {x : S4 × Nat} (h : prt l a = .inr x) (h1 : x.2 < l.length) (h2 : x.2 + 1 < l.length ∨ l[x.2]? = some 93) : prt (l ++ t) a = .inr x := by
  unfold prt at h ⊢
  cases hy : itm l a with
  | inl z => rw [hy] at h; cases h
  | inr y =>
    have hn := itm_next hy
    rw [hy] at h
    simp only at h
    by_cases hr : rng l y.next = true
    · have hr2 : y.next + 1 < l.length := by unfold rng at hr; simp at hr; exact hr.1.1
      rw [if_pos hr] at h
      rw [itm_app t hy (by omega)]
      simp only
      rw [rng_app t hr2, if_pos hr]
      cases hz : itm l (y.next + 1) with
      | inl z => rw [hz] at h; cases h
      | inr z =>
        rw [hz] at h
        have hzn : z.next < l.length := by
          simp only at h
          split at h
          · split at h
            · injection h with h; subst h; exact h1
            · cases h
          · cases h
        rw [itm_app t hz hzn]
        exact h
    · rw [if_neg hr] at h
      injection h with h; subst h
      have hr' : rng l y.next = false := by simpa using hr
      rw [itm_app t hy h1]
      simp only
      have : rng (l ++ t) y.next = false := by
        rcases h2 with h2 | h2
        · rw [rng_app t h2, hr']
        · exact rng_93 (by rw [get_app t h1]; exact h2)
      rw [this]; rfl
theorem lop_room {l : List UInt8} {n a : Nat} {o : S4} {y : S4 × Nat} (ho : o.fit) (h : lop l n a o = .inr y) : a < l.length ∧ (a + 1 < l.length ∨ l[a]? = some 93) := by
  have hn := lop_next ho h
  refine ⟨by omega, ?_⟩
  cases n with
  | zero => simp [lop] at h
  | succ n =>
    rw [lop] at h
    split at h
    · next hc => exact .inr hc
    · cases hp : prt l a with
      | inl z => rw [hp] at h; cases h
      | inr x =>
        rw [hp] at h
        have h1 := prt_next hp
        have h2 := lop_next (fit_or _ _) h
        exact .inl (by omega)
theorem lop_app : ∀ {n m a : Nat} {o : S4} {y : S4 × Nat}, n ≤ m → lop l n a o = .inr y → o.fit → lop (l ++ t) m a o = .inr y
  | 0, _, _, _, _, _, h, _ => by simp [lop] at h
  | n + 1, 0, _, _, _, hm, _, _ => by omega
  | n + 1, m + 1, a, o, y, hm, h, ho => by
    have hr := lop_room ho h
    rw [lop] at h ⊢
    rw [get_app t hr.1]
    split at h
    · next hc => rw [if_pos hc]; exact h
    · next hc =>
      rw [if_neg hc]
      cases hp : prt l a with
      | inl z => rw [hp] at h; cases h
      | inr x =>
        rw [hp] at h
        have h2 := lop_room (fit_or _ _) h
        rw [prt_app t hp h2.1 h2.2]
        exact lop_app (by omega) h (fit_or _ _)
theorem bod_app {a : Nat} {y : S4 × Nat} (h : bod l a = .inr y) : bod (l ++ t) a = .inr y := by
  unfold bod at h ⊢
  cases hp : prt l a with
  | inl z => rw [hp] at h; cases h
  | inr x =>
    rw [hp] at h
    have hf := (prt_next hp).2.2
    have h2 := lop_room hf h
    rw [prt_app t hp h2.1 h2.2]
    exact lop_app t (by simp) h hf
theorem prs_app {a : Nat} {y : S4 × Nat} (h : prs l a = .inr y) : prs (l ++ t) a = .inr y := by
  have ha : a < l.length := by
    by_cases ha : a < l.length
    · exact ha
    · have hn : l[a]? = none := List.getElem?_eq_none (by omega)
      rw [prs_f (by rw [hn]; simp)] at h
      unfold bod prt itm at h
      rw [hn] at h
      simp [ends] at h
  by_cases hc : l[a]? = some 94
  · rw [prs_t hc] at h
    rw [prs_t (by rw [get_app t ha]; exact hc)]
    cases hb : bod l (a + 1) with
    | inl z => rw [hb] at h; cases h
    | inr x => rw [hb] at h; rw [bod_app t hb]; exact h
  · rw [prs_f hc] at h
    rw [prs_f (by rw [get_app t ha]; exact hc)]
    cases hb : bod l a with
    | inl z => rw [hb] at h; cases h
    | inr x => rw [hb] at h; rw [bod_app t hb]; exact h
end

/-- A text that begins with no ^, behind ^. -/
theorem prs_not {l : List UInt8} (h : l[0]? ≠ some 94) : prs (94 :: l) 0 = (match prs l 0 with | .inl z => .inl (z.1, z.2 + 1) | .inr y => .inr (y.1.not, y.2 + 1)) := by
  rw [prs_t rfl, prs_f h]
  have := bod_sh [94] l 0
  simp only [List.singleton_append, List.length_singleton, Nat.add_zero] at this
  rw [show 0 + 1 = 1 from rfl, this]
  cases bod l 0 with
  | inl z => simp [ends, shP, shE, Nat.add_comm]
  | inr y => simp [ends, shP, Nat.add_comm, Nat.add_left_comm]
/-- What stands ahead, or behind, changes nothing. -/
theorem prs_amid {p s t : List UInt8} {y : S4 × Nat} (h : prs s 0 = .inr y) : prs (p ++ s ++ t) p.length = .inr (y.1, p.length + y.2) := by
  have h1 := prs_app t h
  have h2 := prs_sh p (s ++ t) 0
  rw [Nat.add_zero, h1, ← List.append_assoc] at h2
  exact h2

/-! ### Single bytes, each between [. and .] -/
theorem itm_kind' {l : List UInt8} {a : Nat} {k : UInt8} (h0 : a + 1 < l.length) (h : l[a]? = some 91) (hk : l[a + 1]? = some k) (h2 : isKind k = true) : itm l a = itmN l a k := by
  unfold itm
  rw [h]; simp only
  rw [hk]; simp only
  rw [if_pos (by simp [h2])]
def brk (b : UInt8) : List UInt8 := [91, 46, b, 46, 93]
def brks (l : List UInt8) : List UInt8 := l.flatMap brk
theorem brks_len (l : List UInt8) : (brks l).length = 5 * l.length := by
  induction l with
  | nil => rfl
  | cons b l ih => rw [brks, List.flatMap_cons, List.length_append, ← brks, ih]; simp [brk]; omega
theorem itm_brk (b : UInt8) (r : List UInt8) : itm (brk b ++ r) 0 = .inr ⟨spn b.toNat b.toNat, some b, 5⟩ := by
  rw [itm_kind' (l := brk b ++ r) (a := 0) (k := 46) (by simp [brk]) (by simp [brk]) (by simp [brk]) (by decide)]
  refine (itmN_one (e := 3) (c := b) (by decide) ?_ ?_).trans rfl
  · rw [fnd, if_pos (by simp [brk]), if_pos (by simp [brk])]
  · simp [nam, brk]
theorem prt_brk (b : UInt8) (r : List UInt8) (h : rng (brk b ++ r) 5 = false) : prt (brk b ++ r) 0 = .inr (spn b.toNat b.toNat, 5) := by
  unfold prt; rw [itm_brk]; simp only; rw [h]; rfl
theorem rng_brks (b : UInt8) (l : List UInt8) (t : List UInt8) : rng (brk b ++ (brks l ++ 93 :: t)) 5 = false := by
  cases l with
  | nil => exact rng_93 (by simp [brk, brks])
  | cons c l => unfold rng; simp [brk, brks]
theorem or_one {o : S4} (ho : o.fit) (b : UInt8) : o.or (spn b.toNat b.toNat) = o.put b.toNat := by
  have hb := b.toNat_lt
  refine S4.ext_has (fit_or _ _) (fit_put ho _) fun e he => ?_
  rw [has_or, has_spn _ _ _ (by omega) (by omega) he, has_put _ _ _ (by omega) he, Bool.or_comm]
  congr 1
  rw [Bool.eq_iff_iff]; simp; omega
theorem lop_brks (t : List UInt8) : ∀ (l p : List UInt8) (n : Nat) (o : S4), o.fit → l.length < n → lop (p ++ (brks l ++ 93 :: t)) n p.length o = .inr (o.puts l, p.length + 5 * l.length)
  | [], p, n, o, _, hn => by
    obtain ⟨n, rfl⟩ : ∃ m, n = m + 1 := ⟨n - 1, by simp at hn; omega⟩
    rw [lop, if_pos (by simp [brks])]; rfl
  | b :: l, p, n, o, ho, hn => by
    obtain ⟨n, rfl⟩ : ∃ m, n = m + 1 := ⟨n - 1, by simp at hn; omega⟩
    have hp := prt_sh p (brks (b :: l) ++ 93 :: t) 0
    rw [Nat.add_zero] at hp
    have e1 : brks (b :: l) ++ 93 :: t = brk b ++ (brks l ++ 93 :: t) := by simp [brks]
    rw [lop, if_neg (by simp [brks, brk]), hp, e1, prt_brk b _ (rng_brks b l t)]
    simp only [shP]
    have e2 : p ++ (brk b ++ (brks l ++ 93 :: t)) = (p ++ brk b) ++ (brks l ++ 93 :: t) := by simp
    have ih := lop_brks t l (p ++ brk b) n (o.put b.toNat) (fit_put ho _) (by simp at hn; omega)
    rw [show (p ++ brk b).length = p.length + 5 by simp [brk]] at ih
    rw [e2, or_one ho, ih]
    simp [S4.puts, List.length_cons]; omega
theorem bod_brks (p l : List UInt8) (h : l ≠ []) : bod (p ++ (brks l ++ [93])) p.length = .inr (S4.zero.puts l, p.length + 5 * l.length) := by
  cases l with
  | nil => exact absurd rfl h
  | cons b l =>
    have e1 : brks (b :: l) ++ [93] = brk b ++ (brks l ++ [93]) := by simp [brks]
    have hp := prt_sh p (brk b ++ (brks l ++ [93])) 0
    rw [Nat.add_zero, prt_brk b _ (rng_brks b l [])] at hp
    unfold bod
    rw [e1, hp]
    simp only [shP]
    have e2 : p ++ (brk b ++ (brks l ++ [93])) = (p ++ brk b) ++ (brks l ++ [93]) := by simp
    have ih := lop_brks [] l (p ++ brk b) ((p ++ (brk b ++ (brks l ++ [93]))).length + 1) (spn b.toNat b.toNat) (fit_spn _ _) (by have := brks_len l; simp [brk]; omega)
    rw [show (p ++ brk b).length = p.length + 5 by simp [brk]] at ih
    rw [← zero_or (fit_spn b.toNat b.toNat), or_one fit_zero] at ih
    rw [e2] at ih ⊢
    rw [← zero_or (fit_spn b.toNat b.toNat), or_one fit_zero, ih]
    simp [S4.puts, List.length_cons]; omega
theorem prs_brks (l : List UInt8) (h : l ≠ []) : prs (brks l ++ [93]) 0 = .inr (S4.zero.puts l, 5 * l.length + 1) := by
  rw [prs_f (by cases l with | nil => exact absurd rfl h | cons b l => simp [brks, brk])]
  have := bod_brks [] l h
  simp only [List.nil_append, List.length_nil, Nat.zero_add] at this
  rw [this]; rfl
theorem prs_nbrks (l : List UInt8) (h : l ≠ []) : prs (94 :: (brks l ++ [93])) 0 = .inr ((S4.zero.puts l).not, 5 * l.length + 2) := by
  rw [prs_not (by cases l with | nil => exact absurd rfl h | cons b l => simp [brks, brk]), prs_brks l h]
/-- Two of them, with a - between. -/
theorem prs_two (a b : UInt8) : prs (brk a ++ (45 :: (brk b ++ [93]))) 0 = if a.toNat ≤ b.toNat then .inr (spn a.toNat b.toNat, 12) else .inl (1, 0) := by
  rw [prs_f (by simp [brk])]
  have h2 : itm (brk a ++ (45 :: (brk b ++ [93]))) 6 = .inr ⟨spn b.toNat b.toNat, some b, 11⟩ := by
    have := itm_sh (brk a ++ [45]) (brk b ++ [93]) 0
    rw [itm_brk] at this
    simpa [brk, shI] using this
  unfold bod prt
  rw [itm_brk]
  simp only
  rw [if_pos (by simp [rng, brk]), h2]
  simp only
  by_cases hab : a.toNat ≤ b.toNat
  · rw [if_pos hab, if_pos hab]
    simp only
    rw [lop, if_pos (by simp [brk])]; rfl
  · rw [if_neg hab, if_neg hab]; rfl

end Go.Proofs.YtlchaocpejfikaaGreatDoor
