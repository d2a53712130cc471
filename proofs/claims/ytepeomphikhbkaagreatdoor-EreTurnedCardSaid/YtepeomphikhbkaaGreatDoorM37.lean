/-
  Merged texts of this claim: EreP, EreR.
-/
import Derived.Test.YtepeomphikhbkaaGreatDoorM17
import Derived.Test.YtepeomphikhbkaaGreatDoorM36

/-
  An extended regex in plain words, just as the program reads it: with a sticky error. It is the regex of either kind by its signs. No walk.
-/
namespace Go.Proofs.YtepeomphikhbkaaGreatDoor
open Go.RowKit

/-- The state of a reading; what is wrong first, and where. -/
structure ES where
  r : RxS
  x : Option (Int × Nat)

def ES.go (s : ES) (n : Nat) : ES := ⟨s.r.go n, s.x⟩
def ES.to (s : ES) (n : Nat) : ES := ⟨s.r.to n, s.x⟩
def ES.mark (s : ES) (t : List UInt8) : ES := ⟨s.r.mark t, s.x⟩
def ES.fail (l : List UInt8) (s : ES) (e : Int) (p : Nat) : ES := ⟨s.r.to l.length, some (s.x.getD (e, p))⟩

section
variable (l : List UInt8)
def numX (s : ES) : Int × ES := (if (num3 (l.drop s.r.at_) 0 0).2 = 0 then -1 else ((num3 (l.drop s.r.at_) 0 0).1 : Int), s.go (num3 (l.drop s.r.at_) 0 0).2)
/-- The bounds behind a brace. -/
def itvX2 (s1 : ES) (mn : Int) : Int × ES := if 0 ≤ mn ∧ l[s1.r.at_]? = some 44 then numX l (s1.go 1) else (mn, s1)
def itvX3 (mn mx : Int) (s2 : ES) : Bool × ES :=
  if 0 ≤ mn ∧ l[s2.r.at_]? = some 125 then (decide (mn ≤ 255) && (decide (mx ≤ 255) && (decide (mx < 0) || decide (mn ≤ mx))), s2.go 1) else (false, s2)
def itvX (s : ES) : Int × Int × Bool × ES :=
  let a := numX l s
  let b := itvX2 l a.2 a.1
  let c := itvX3 l a.1 b.1 b.2
  (a.1, b.1, c.1, c.2)
def repX : Nat → ES → Nd → Nd × ES
  | 0, s, t => (t, s)
  | n + 1, s, t =>
    if l[s.r.at_]? = some 42 then repX n (s.go 1) (.rep t 0 (-1))
    else if l[s.r.at_]? = some 43 then repX n (s.go 1) (.rep t 1 (-1))
    else if l[s.r.at_]? = some 63 then repX n (s.go 1) (.rep t 0 1)
    else if l[s.r.at_]? = some 123 then
      (if (itvX l (s.go 1)).2.2.1 then repX n (itvX l (s.go 1)).2.2.2 (.rep t (itvX l (s.go 1)).1 (itvX l (s.go 1)).2.1) else (t, (itvX l (s.go 1)).2.2.2.fail l 7 s.r.at_))
    else (t, s)
/-- Is a backslash and this byte an extension? -/
def mrkX (c : UInt8) : Bool := c == 116 || (c == 119 || (c == 87 || (c == 115 || (c == 83 || (decide (49 ≤ c.toNat) && decide (c.toNat ≤ 57))))))
def escX (s : ES) : Nd × ES :=
  match l[s.r.at_ + 1]? with
  | none => (.nil, s.fail l 11 s.r.at_)
  | some c =>
    let s2 := (if mrkX c then s.mark [92, c] else s).go 2
    if 49 ≤ c.toNat ∧ c.toNat ≤ 57 then (.back ((c.toNat - 48 : Nat) : Int), if s.r.closed.contains (c.toNat - 48) then s2 else s2.fail l 9 s.r.at_)
    else match escB c with
      | none => (.one (spn c.toNat c.toNat), s2.fail l 2 s.r.at_)
      | some (S, _) => (.one S, s2)
def grpIn (s : ES) : ES := ⟨{ s.r.go 1 with opened := s.r.opened + 1 }, s.x⟩
def grpOut (n p : Nat) (s : ES) : ES :=
  let s3 := if l[s.r.at_]? = some 41 then s.go 1 else s.fail l 8 p
  ⟨{ s3.r with closed := s3.r.closed ++ [n] }, s3.x⟩
def groupX (C : Option (ES → Nd × ES)) (s : ES) : Nd × ES :=
  match C with
  | none => (.nil, s.fail l 4 s.r.at_)
  | some f => (.group ((s.r.opened + 1 : Nat) : Int) (f (grpIn s)).1, grpOut l (s.r.opened + 1) s.r.at_ (f (grpIn s)).2)
def atomX (C : Option (ES → Nd × ES)) (s : ES) (c : UInt8) : Nd × ES :=
  if c = 40 then groupX l C s
  else if c = 41 then (.nil, s.fail l 8 s.r.at_)
  else if c = 92 then escX l s
  else if c = 91 then
    match prs l (s.r.at_ + 1) with
    | .inl (e, p) => (.nil, s.fail l e p)
    | .inr (S, k) => (.one S, s.to k)
  else if c = 46 then (.one (spn 0 255), s.go 1)
  else (.one (spn c.toNat c.toNat), s.go 1)
/-- What a sign in front of an atom tells. -/
def frtX (front : Bool) (s : ES) (c : UInt8) : ES :=
  if c = 41 then s.fail l 8 s.r.at_
  else if (c = 42 ∨ c = 43 ∨ c = 63 ∨ c = 123) ∧ front = true then s.fail l 10 s.r.at_
  else s
def brX (C : Option (ES → Nd × ES)) (inner : Bool) : Nat → Bool → ES → List Nd → Nd × ES
  | 0, _, s, ps => (joined ps, s)
  | n + 1, front, s, ps =>
    match l[s.r.at_]? with
    | none => (joined ps, s)
    | some c =>
      if (c = 41 ∧ inner = true) ∨ c = 124 then (joined ps, s)
      else if c = 94 then brX C inner n true (s.go 1) (ps ++ [.start])
      else if c = 36 then brX C inner n true (s.go 1) (ps ++ [.fin])
      else if (frtX l front s c).x.isSome then (.nil, frtX l front s c)
      else
        let a := atomX l C s c
        let b := repX l (l.length + 1) a.2 a.1
        brX C inner n false b.2 (ps ++ [b.1])
def branchX (C : Option (ES → Nd × ES)) (inner : Bool) (s : ES) : Nd × ES := brX l C inner (if sgn l s.r.at_ == [94] then l.length + 2 else l.length + 1) true s []
def chLoopX (C : Option (ES → Nd × ES)) (inner : Bool) : Nat → ES → List Nd → Nd × ES
  | 0, s, ts => (chosen ts, s)
  | n + 1, s, ts =>
    if l[s.r.at_]? = some 124 then chLoopX C inner n (branchX l C inner (s.go 1)).2 (ts ++ [(branchX l C inner (s.go 1)).1])
    else (chosen ts, s)
def choiceX (C : Option (ES → Nd × ES)) (inner : Bool) (s : ES) : Nd × ES := chLoopX l C inner (l.length + 1) (branchX l C inner s).2 [(branchX l C inner s).1]
def chX : Nat → ES → Nd × ES
  | 0 => choiceX l none true
  | n + 1 => choiceX l (some (chX n)) (decide (n + 1 < 12))
end

/-! ### How far, and how great -/
theorem getE_lt {l : List UInt8} {k : Nat} {c : UInt8} (h : l[k]? = some c) : k < l.length := (List.getElem?_eq_some_iff.1 h).1
theorem Sane.goE {l : List UInt8} {s : ES} {n : Nat} (hs : Sane l s.r) (h : s.r.at_ + n ≤ l.length) : Sane l (s.go n).r := Sane.go hs h
theorem Sane.failE {l : List UInt8} {s : ES} (e : Int) (p : Nat) (hs : Sane l s.r) : Sane l (s.fail l e p).r := Sane.to hs hs.le (Nat.le_refl _)
theorem numX_kept {l : List UInt8} {s : ES} (hs : Sane l s.r) : Sane l (numX l s).2.r ∧ s.r.at_ ≤ (numX l s).2.r.at_ ∧ (numX l s).2.r.closed = s.r.closed := by
  obtain ⟨b1, b2, b3⟩ := num3_bd l s.r.at_ hs.le
  exact ⟨hs.goE b3, Nat.le_add_right _ _, rfl⟩
theorem itvX_kept {l : List UInt8} {s : ES} (hs : Sane l s.r) : Sane l (itvX l s).2.2.2.r ∧ s.r.at_ ≤ (itvX l s).2.2.2.r.at_ ∧ (itvX l s).2.2.2.r.closed = s.r.closed := by
  have h1 := numX_kept hs
  have h2 : ∀ s1 mn, Sane l s1.r → Sane l (itvX2 l s1 mn).2.r ∧ s1.r.at_ ≤ (itvX2 l s1 mn).2.r.at_ ∧ (itvX2 l s1 mn).2.r.closed = s1.r.closed := fun s1 mn h => by
    unfold itvX2
    split
    · next e =>
      have := numX_kept (s := s1.go 1) (h.goE (getE_lt e.2))
      exact ⟨this.1, Nat.le_trans (Nat.le_add_right _ _) this.2.1, this.2.2⟩
    · exact ⟨h, Nat.le_refl _, rfl⟩
  have h3 : ∀ mn mx s2, Sane l s2.r → Sane l (itvX3 l mn mx s2).2.r ∧ s2.r.at_ ≤ (itvX3 l mn mx s2).2.r.at_ ∧ (itvX3 l mn mx s2).2.r.closed = s2.r.closed := fun mn mx s2 h => by
    unfold itvX3
    split
    · next e => exact ⟨h.goE (getE_lt e.2), Nat.le_add_right _ _, rfl⟩
    · exact ⟨h, Nat.le_refl _, rfl⟩
  have h4 := h2 (numX l s).2 (numX l s).1 h1.1
  have h5 := h3 (numX l s).1 (itvX2 l (numX l s).2 (numX l s).1).1 _ h4.1
  exact ⟨h5.1, Nat.le_trans h1.2.1 (Nat.le_trans h4.2.1 h5.2.1), h5.2.2.trans (h4.2.2.trans h1.2.2)⟩
/-- What a part's reading keeps: 'd': how much its tree may be greater. -/
structure Kp (l : List UInt8) (s : ES) (q : Nd × ES) (d : Nat) : Prop where
  sn : Sane l q.2.r
  at_ : s.r.at_ ≤ q.2.r.at_
  sz : q.1.size + 3 * s.r.at_ ≤ 3 * q.2.r.at_ + d
  cl : q.2.r.closed.length + s.r.at_ ≤ s.r.closed.length + q.2.r.at_
theorem Kp.fail {l : List UInt8} {s s2 : ES} {t : Nd} {d : Nat} (e : Int) (p : Nat) (hs : Sane l s2.r) (h1 : s.r.at_ ≤ l.length) (h2 : t.size + 3 * s.r.at_ ≤ 3 * l.length + d) (h3 : s2.r.closed = s.r.closed) : Kp l s (t, s2.fail l e p) d :=
  ⟨hs.failE _ _, h1, h2, by show s2.r.closed.length + _ ≤ _ + l.length; rw [h3]; omega⟩
theorem Kp.of {l : List UInt8} {s s2 : ES} {t : Nd} {d : Nat} (hs : Sane l s2.r) (h1 : s.r.at_ ≤ s2.r.at_) (h2 : t.size + 3 * s.r.at_ ≤ 3 * s2.r.at_ + d) (h3 : s2.r.closed = s.r.closed) : Kp l s (t, s2) d :=
  ⟨hs, h1, h2, by show s2.r.closed.length + _ ≤ _ + s2.r.at_; rw [h3]; omega⟩
theorem Kp.trans {l : List UInt8} {s s2 : ES} {q : Nd × ES} {d d' : Nat} (h : Kp l s2 q d) (h1 : s.r.at_ ≤ s2.r.at_) (h2 : d + 3 * s.r.at_ ≤ 3 * s2.r.at_ + d') (h3 : s2.r.closed.length + s.r.at_ ≤ s.r.closed.length + s2.r.at_) : Kp l s q d' :=
  ⟨h.sn, Nat.le_trans h1 h.at_, by have := h.sz; omega, by have := h.cl; omega⟩
theorem repX_kept {l : List UInt8} : ∀ (n : Nat) (s : ES) (t : Nd), Sane l s.r → Kp l s (repX l n s t) t.size
  | 0, s, t, hs => by rw [repX]; exact Kp.of hs (Nat.le_refl _) (by omega) rfl
  | n + 1, s, t, hs => by
    have one : ∀ a b, s.r.at_ < l.length → Kp l s (repX l n (s.go 1) (.rep t a b)) t.size := fun a b hlt =>
      (repX_kept n (s.go 1) (.rep t a b) (hs.goE hlt)).trans (Nat.le_add_right _ _) (by show 1 + t.size + 3 * s.r.at_ ≤ 3 * (s.r.at_ + 1) + t.size; omega) (by show s.r.closed.length + _ ≤ _ + (s.r.at_ + 1); omega)
    rw [repX]
    split
    · next e => exact one _ _ (getE_lt e)
    · split
      · next e => exact one _ _ (getE_lt e)
      · split
        · next e => exact one _ _ (getE_lt e)
        · split
          · next e =>
            have hlt := getE_lt e
            obtain ⟨i1, i2, i3⟩ := itvX_kept (s := s.go 1) (hs.goE hlt)
            have i2 : s.r.at_ + 1 ≤ _ := i2
            split
            · exact (repX_kept n _ (.rep t _ _) i1).trans (by omega) (by show 1 + t.size + _ ≤ _; omega) (by rw [i3]; show s.r.closed.length + _ ≤ _; omega)
            · exact Kp.fail _ _ i1 hs.le (by have := hs.le; omega) i3
          · exact Kp.of hs (Nat.le_refl _) (by omega) rfl
theorem escX_kept {l : List UInt8} {s : ES} (hs : Sane l s.r) (hl : s.r.at_ < l.length) : Kp l s (escX l s) 0 ∧ s.r.at_ < (escX l s).2.r.at_ := by
  unfold escX
  cases h : l[s.r.at_ + 1]? with
  | none => exact ⟨Kp.fail _ _ hs hs.le (by show 1 + 3 * s.r.at_ ≤ _; omega) rfl, hl⟩
  | some c =>
    have hlt := getE_lt h
    simp only
    have h2 : Sane l ((if mrkX c then s.mark [92, c] else s).go 2).r := by
      cases mrkX c
      · exact hs.goE (by omega)
      · exact hs.markgo _ (by omega) (by omega)
    have h3 : ((if mrkX c then s.mark [92, c] else s).go 2).r.at_ = s.r.at_ + 2 := by cases mrkX c <;> rfl
    have h4 : ((if mrkX c then s.mark [92, c] else s).go 2).r.closed = s.r.closed := by cases mrkX c <;> rfl
    split
    · split
      · exact ⟨Kp.of h2 (by omega) (by rw [h3]; show 1 + 3 * s.r.at_ ≤ _; omega) h4, by rw [h3]; omega⟩
      · exact ⟨Kp.fail _ _ h2 hs.le (by show 1 + 3 * s.r.at_ ≤ _; omega) h4, hl⟩
    · split
      · exact ⟨Kp.fail _ _ h2 hs.le (by show 1 + 3 * s.r.at_ ≤ _; omega) h4, hl⟩
      · exact ⟨Kp.of h2 (by omega) (by rw [h3]; show 1 + 3 * s.r.at_ ≤ _; omega) h4, by rw [h3]; omega⟩
section
variable {l : List UInt8} {C : Option (ES → Nd × ES)} (hC : ∀ f, C = some f → ∀ s, Sane l s.r → Kp l s (f s) 2)
theorem grpIn_sane {s : ES} (hs : Sane l s.r) (hl : s.r.at_ < l.length) : Sane l (grpIn s).r := by
  have hg := hs.goE (n := 1) hl
  have hop := hs.op
  exact ⟨hg.le, hg.mr, hg.cl, by show s.r.opened + 1 ≤ s.r.at_ + 1; omega⟩
include hC
theorem groupX_kept {s : ES} (hs : Sane l s.r) (hl : s.r.at_ < l.length) : Kp l s (groupX l C s) 0 ∧ s.r.at_ < (groupX l C s).2.r.at_ := by
  unfold groupX
  cases C with
  | none => exact ⟨Kp.fail _ _ hs hs.le (by show 1 + 3 * s.r.at_ ≤ _; omega) rfl, hl⟩
  | some f =>
    simp only
    have hk := hC f rfl (grpIn s) (grpIn_sane hs hl)
    obtain ⟨q, hq⟩ : ∃ q, f (grpIn s) = q := ⟨_, rfl⟩
    rw [hq] at hk ⊢
    obtain ⟨k1, k2, k3, k4⟩ := hk
    have k2 : s.r.at_ + 1 ≤ _ := k2
    have k3 : _ + 3 * (s.r.at_ + 1) ≤ _ := k3
    have k4 : _ + (s.r.at_ + 1) ≤ s.r.closed.length + _ := k4
    have hcl := hs.cl
    unfold grpOut
    split
    · next e =>
      have he := getE_lt e
      refine ⟨⟨⟨he, Nat.le_trans k1.mr (Nat.le_add_right _ _), ?_, Nat.le_trans k1.op (Nat.le_add_right _ _)⟩, ?_, ?_, ?_⟩, ?_⟩
      · show (q.2.r.closed ++ [_]).length ≤ q.2.r.at_ + 1
        rw [List.length_append]; simp only [List.length_singleton]; omega
      · show s.r.at_ ≤ q.2.r.at_ + 1; omega
      · show 1 + q.1.size + 3 * s.r.at_ ≤ 3 * (q.2.r.at_ + 1) + 0; omega
      · show (q.2.r.closed ++ [_]).length + _ ≤ _ + (q.2.r.at_ + 1)
        rw [List.length_append]; simp only [List.length_singleton]; omega
      · show s.r.at_ < q.2.r.at_ + 1; omega
    · have hle := k1.le
      refine ⟨⟨⟨Nat.le_refl _, Nat.le_trans k1.mr hle, ?_, Nat.le_trans k1.op hle⟩, hs.le, ?_, ?_⟩, hl⟩
      · show (q.2.r.closed ++ [_]).length ≤ l.length
        rw [List.length_append]; simp only [List.length_singleton]; omega
      · show 1 + q.1.size + 3 * s.r.at_ ≤ 3 * l.length + 0; omega
      · show (q.2.r.closed ++ [_]).length + _ ≤ _ + l.length
        rw [List.length_append]; simp only [List.length_singleton]; omega
theorem atomX_kept {s : ES} {c : UInt8} (hs : Sane l s.r) (h : l[s.r.at_]? = some c) : Kp l s (atomX l C s c) 0 ∧ s.r.at_ < (atomX l C s c).2.r.at_ := by
  have hl := getE_lt h
  have hfail : ∀ e p, Kp l s (.nil, s.fail l e p) 0 ∧ s.r.at_ < (s.fail l e p).r.at_ := fun e p => ⟨Kp.fail _ _ hs hs.le (by show 1 + 3 * s.r.at_ ≤ _; omega) rfl, hl⟩
  have hone : ∀ S, Kp l s (.one S, s.go 1) 0 ∧ s.r.at_ < (s.go 1).r.at_ := fun S => ⟨Kp.of (hs.goE hl) (Nat.le_add_right _ _) (by show 1 + 3 * s.r.at_ ≤ 3 * (s.r.at_ + 1) + 0; omega) rfl, Nat.lt_succ_self _⟩
  unfold atomX
  split
  · exact groupX_kept hC hs hl
  · split
    · exact hfail _ _
    · split
      · exact escX_kept hs hl
      · split
        · cases hp : prs l (s.r.at_ + 1) with
          | inl z => exact hfail _ _
          | inr y =>
            obtain ⟨_, p2, p3⟩ := prs_in hp
            have p2 : s.r.at_ + 1 < y.2 := p2
            have p3 : y.2 ≤ l.length := p3
            refine ⟨Kp.of (Sane.to hs (by omega) p3) (by show s.r.at_ ≤ y.2; omega) (by show 1 + 3 * s.r.at_ ≤ 3 * y.2 + 0; omega) rfl, by show s.r.at_ < y.2; omega⟩
        · split
          · exact hone _
          · exact hone _
theorem brX_kept {inner : Bool} : ∀ (n : Nat) (front : Bool) (s : ES) (ps : List Nd), Sane l s.r → Kp l s (brX l C inner n front s ps) (Nd.sizes ps + 1)
  | 0, front, s, ps, hs => by rw [brX]; exact Kp.of hs (Nat.le_refl _) (by have := joined_le ps; omega) rfl
  | n + 1, front, s, ps, hs => by
    have hj : Kp l s (joined ps, s) (Nd.sizes ps + 1) := Kp.of hs (Nat.le_refl _) (by have := joined_le ps; omega) rfl
    rw [brX]
    cases h : l[s.r.at_]? with
    | none => exact hj
    | some c =>
      have hl := getE_lt h
      simp only
      have hone : ∀ t : Nd, t.size = 1 → Kp l s (brX l C inner n true (s.go 1) (ps ++ [t])) (Nd.sizes ps + 1) := fun t ht => by
        refine (brX_kept n true (s.go 1) _ (hs.goE hl)).trans (Nat.le_add_right _ _) ?_ (by show s.r.closed.length + _ ≤ _ + (s.r.at_ + 1); omega)
        rw [Nd.sizes_append]
        have : Nd.sizes [t] = t.size := by simp [Nd.sizes]
        show _ + 3 * s.r.at_ ≤ 3 * (s.r.at_ + 1) + _; omega
      split
      · exact hj
      · split
        · exact hone _ rfl
        · split
          · exact hone _ rfl
          · split
            · next hx =>
              have hf : (∃ e p, frtX l front s c = s.fail l e p) ∨ frtX l front s c = s := by
                unfold frtX
                split
                · exact .inl ⟨_, _, rfl⟩
                · split
                  · exact .inl ⟨_, _, rfl⟩
                  · exact .inr rfl
              rcases hf with ⟨e, p, hf⟩ | hf
              · rw [hf]; exact Kp.fail _ _ hs hs.le (by show 1 + 3 * s.r.at_ ≤ _; omega) rfl
              · rw [hf]; exact Kp.of hs (Nat.le_refl _) (by show 1 + 3 * s.r.at_ ≤ _; omega) rfl
            · obtain ⟨a1, a2⟩ := atomX_kept hC (c := c) hs h
              have b1 := repX_kept (l.length + 1) (atomX l C s c).2 (atomX l C s c).1 a1.sn
              have k1 := brX_kept (inner := inner) n false (repX l (l.length + 1) (atomX l C s c).2 (atomX l C s c).1).2 (ps ++ [(repX l (l.length + 1) (atomX l C s c).2 (atomX l C s c).1).1]) b1.sn
              have c1 := a1.at_; have c2 := b1.at_; have c3 := a1.sz; have c4 := b1.sz; have c5 := a1.cl; have c6 := b1.cl
              refine k1.trans (by omega) ?_ (by omega)
              rw [Nd.sizes_append]
              have : ∀ t : Nd, Nd.sizes [t] = t.size := fun t => by simp [Nd.sizes]
              rw [this]; omega
theorem branchX_kept {inner : Bool} {s : ES} (hs : Sane l s.r) : Kp l s (branchX l C inner s) 1 := brX_kept hC _ _ _ _ hs
theorem chLoopX_kept {inner : Bool} : ∀ (n : Nat) (s : ES) (ts : List Nd), Sane l s.r → Kp l s (chLoopX l C inner n s ts) (Nd.sizes ts + 1)
  | 0, s, ts, hs => by rw [chLoopX]; exact Kp.of hs (Nat.le_refl _) (by have := chosen_le ts; omega) rfl
  | n + 1, s, ts, hs => by
    rw [chLoopX]
    split
    · next e =>
      have hg := hs.goE (n := 1) (getE_lt e)
      have b1 := branchX_kept hC (inner := inner) hg
      have k1 := chLoopX_kept (inner := inner) n (branchX l C inner (s.go 1)).2 (ts ++ [(branchX l C inner (s.go 1)).1]) b1.sn
      have c2 := b1.at_; have c4 := b1.sz; have c6 := b1.cl
      have c2 : s.r.at_ + 1 ≤ _ := c2
      have c4 : _ + 3 * (s.r.at_ + 1) ≤ _ := c4
      have c6 : _ + (s.r.at_ + 1) ≤ s.r.closed.length + _ := c6
      refine k1.trans (by omega) ?_ (by omega)
      rw [Nd.sizes_append]
      have : ∀ t : Nd, Nd.sizes [t] = t.size := fun t => by simp [Nd.sizes]
      rw [this]; omega
    · exact Kp.of hs (Nat.le_refl _) (by have := chosen_le ts; omega) rfl
theorem choiceX_kept {inner : Bool} {s : ES} (hs : Sane l s.r) : Kp l s (choiceX l C inner s) 2 := by
  have b1 := branchX_kept hC (inner := inner) hs
  have k1 := chLoopX_kept hC (inner := inner) (l.length + 1) _ [(branchX l C inner s).1] b1.sn
  have c2 := b1.at_; have c4 := b1.sz; have c6 := b1.cl
  have : ∀ t : Nd, Nd.sizes [t] = t.size := fun t => by simp [Nd.sizes]
  exact k1.trans c2 (by rw [this]; omega) c6
end
theorem chX_kept {l : List UInt8} : ∀ n s, Sane l s.r → Kp l s (chX l n s) 2
  | 0, s, hs => by rw [chX]; exact choiceX_kept (fun f hf => by cases hf) hs
  | n + 1, s, hs => by rw [chX]; exact choiceX_kept (fun f hf => by injection hf with hf; subst hf; exact chX_kept n) hs
end Go.Proofs.YtepeomphikhbkaaGreatDoor

/-
  The program's reading of an extended regex, with its sticky error, is the reading of either kind by its signs. No walk.
-/
namespace Go.Proofs.YtepeomphikhbkaaGreatDoor
open Go.RowKit

/-- What the one reading gives, and the other. -/
def Rl (l : List UInt8) : Out Nd → Nd × ES → Prop
  | .inr (t, r), q => q = (t, ⟨r, none⟩)
  | .inl e, q => q.2.x = some e ∧ q.2.r.at_ = l.length
/-- Something is wrong, and nothing more is read. -/
def Stuck (l : List UInt8) (e : Int × Nat) (s : ES) : Prop := s.x = some e ∧ s.r.at_ = l.length

section
variable {l : List UInt8} {e : Int × Nat} {s : ES}
theorem Stuck.no (h : Stuck l e s) : l[s.r.at_]? = none := by rw [h.2]; simp
theorem Stuck.rep (h : Stuck l e s) (n : Nat) (t : Nd) : repX l n s t = (t, s) := by
  cases n with
  | zero => rfl
  | succ n => rw [repX, h.no]; simp
theorem Stuck.br (h : Stuck l e s) (C : Option (ES → Nd × ES)) (inner : Bool) (n : Nat) (front : Bool) (ps : List Nd) : brX l C inner n front s ps = (joined ps, s) := by
  cases n with
  | zero => rfl
  | succ n => rw [brX, h.no]
theorem Stuck.loop (h : Stuck l e s) (C : Option (ES → Nd × ES)) (inner : Bool) (n : Nat) (ts : List Nd) : chLoopX l C inner n s ts = (chosen ts, s) := by
  cases n with
  | zero => rfl
  | succ n => rw [chLoopX, h.no]; simp
theorem Stuck.out (h : Stuck l e s) (n p : Nat) : Stuck l e (grpOut l n p s) := by
  unfold grpOut
  rw [h.no]
  simp only [reduceCtorEq, if_false]
  exact ⟨by show some (s.x.getD _) = _; rw [h.1]; rfl, rfl⟩
theorem fail_stuck (r : RxS) (z : Int) (p : Nat) : Stuck l (z, p) (ES.fail l ⟨r, none⟩ z p) := ⟨rfl, rfl⟩
end

theorem sgn_get {l : List UInt8} {k : Nat} {c : UInt8} (hc : c ≠ 92) : (sgn l k == [c]) = decide (l[k]? = some c) := by
  unfold sgn
  cases h : l[k]? with
  | none => simp
  | some b =>
    by_cases h92 : b = 92
    · subst h92
      have : ¬ (92 : UInt8) = c := fun h => hc h.symm
      simp only [if_true]
      cases l[k + 1]? <;> simp [this]
    · simp only [if_neg h92]
      by_cases hbc : b = c <;> simp [hbc]
theorem ahd_get {l : List UInt8} {k : Nat} {c : UInt8} (hc : c ≠ 92) : ahd l k [c] = decide (l[k]? = some c) := by rw [← sgn_hd hc, sgn_get hc]

theorem itvX_x (l : List UInt8) (s : ES) : (itvX l s).2.2.2.x = s.x := by
  have h2 : ∀ s1 mn, (itvX2 l s1 mn).2.x = s1.x := fun s1 mn => by unfold itvX2; split <;> rfl
  have h3 : ∀ mn mx s2, (itvX3 l mn mx s2).2.x = s2.x := fun mn mx s2 => by unfold itvX3; split <;> rfl
  exact (h3 _ _ _).trans (h2 _ _)
theorem itvX3_no {l : List UInt8} {mn mx : Int} {s : ES} (h : 255 < mn ∨ 255 < mx ∨ mn < 0 ∨ ¬ l[s.r.at_]? = some 125) : (itvX3 l mn mx s).1 = false := by
  unfold itvX3
  split
  · next e =>
    rcases h with h | h | h | h
    · have : ¬ mn ≤ 255 := by omega
      simp [this]
    · have : ¬ mx ≤ 255 := by omega
      simp [this]
    · omega
    · exact absurd e.2 h
  · rfl
theorem itvX_D {l : List UInt8} {s : ES} : match ditv l true s.r.at_ with
    | none => (itvX l s).2.2.1 = false
    | some (m, x, j) => itvX l s = (m, x, true, s.to j) := by
  obtain ⟨m, c, hm⟩ : ∃ m c, num3 (l.drop s.r.at_) 0 0 = (m, c) := ⟨_, _, rfl⟩
  have hn : numX l s = (if c = 0 then -1 else (m : Int), s.go c) := by unfold numX; rw [hm]
  have h125 : (125 : UInt8) ≠ 92 := by decide
  have h44 : (44 : UInt8) ≠ 92 := by decide
  unfold ditv itvX dnum
  rw [hn, hm]
  simp only [opB_ere, ahd_get h125, ahd_get h44, List.length_singleton]
  by_cases hc : c = 0
  · subst hc
    have e1 : (if 255 < m then ((0, 0) : Nat × Nat) else (m, 0)).2 = 0 := by split <;> rfl
    rw [if_pos e1]
    exact itvX3_no (.inr (.inr (.inl (by simp))))
  · simp only [hc, if_false]
    by_cases h255 : 255 < m
    · rw [if_pos h255]
      simp only [if_true]
      exact itvX3_no (.inl (by omega))
    · simp only [if_neg h255, hc, if_false]
      have hm255 : (m : Int) ≤ 255 := by omega
      have hm0 : (0 : Int) ≤ m := by omega
      by_cases hk : l[s.r.at_ + c]? = some 44
      · have hk' : l[(s.go c).r.at_]? = some 44 := hk
        have hi2 : itvX2 l (s.go c) (m : Int) = numX l ((s.go c).go 1) := by unfold itvX2; rw [if_pos ⟨hm0, hk'⟩]
        rw [hi2]
        obtain ⟨x, d, hx⟩ : ∃ x d, num3 (l.drop (s.r.at_ + c + 1)) 0 0 = (x, d) := ⟨_, _, rfl⟩
        have hn2 : numX l ((s.go c).go 1) = (if d = 0 then -1 else (x : Int), ((s.go c).go 1).go d) := by
          unfold numX; rw [show ((s.go c).go 1).r.at_ = s.r.at_ + c + 1 from rfl, hx]
        rw [hn2, hx]
        simp only [hk, decide_true, if_true]
        have hto : ∀ j, j = s.r.at_ + c + 1 + d + 1 → (((s.go c).go 1).go d).go 1 = s.to j := fun j h => by subst h; rfl
        have hat : (((s.go c).go 1).go d).r.at_ = s.r.at_ + c + 1 + d := rfl
        by_cases hx255 : 255 < x
        · have hd : d ≠ 0 := by
            intro h0; subst h0
            obtain ⟨b, t, ht, hb1, hb2⟩ := num3_pos hx (by omega)
            rw [ht, num3, if_pos ⟨hb1, hb2, by decide⟩] at hx
            have := num3_ge t 1 (0 * 10 + (b.toNat - 48))
            rw [hx] at this; simp at this
          obtain ⟨b, t, ht, hb1, hb2⟩ := num3_pos hx (by omega)
          have hnb : ¬ l[s.r.at_ + c + 1]? = some 125 := by
            have : l[s.r.at_ + c + 1]? = (l.drop (s.r.at_ + c + 1))[0]? := by simp
            rw [this, ht]
            simp only [List.getElem?_cons_zero, Option.some.injEq]
            rintro rfl
            simp at hb2
          simp only [if_pos hx255, Nat.lt_irrefl, if_false, hd, Nat.add_zero]
          rw [if_pos (.inl (by simp [hnb]))]
          exact itvX3_no (.inr (.inl (by omega)))
        · simp only [if_neg hx255]
          by_cases hd : d = 0
          · subst hd
            simp only [Nat.lt_irrefl, if_false, Nat.add_zero, if_true]
            unfold itvX3
            rw [hat, Nat.add_zero]
            by_cases hb : l[s.r.at_ + c + 1]? = some 125
            · have e1 : ¬ ((0 : Int) ≤ -1 ∧ (-1 : Int) < m) := by omega
              rw [if_neg (by simp [hb]), if_pos ⟨hm0, hb⟩]
              simp [hm255, hto]
            · rw [if_pos (by simp [hb]), if_neg (fun h => hb h.2)]
          · have hd' : 0 < d := by omega
            simp only [hd', if_true, hd, if_false]
            unfold itvX3
            rw [hat]
            have hx0 : (x : Int) ≤ 255 := by omega
            by_cases hb : l[s.r.at_ + c + 1 + d]? = some 125
            · rw [if_pos (⟨hm0, hb⟩ : (0 : Int) ≤ m ∧ _)]
              by_cases hmx : (x : Int) < m
              · have h0x : (0 : Int) ≤ x := by omega
                have hxm : ¬ (m : Int) ≤ x := by omega
                have hxn : ¬ (x : Int) < 0 := by omega
                rw [if_pos (.inr ⟨h0x, hmx⟩)]
                simp [hxm, hxn]
              · have hxm : (m : Int) ≤ x := by omega
                rw [if_neg (by simp [hb]; omega)]
                simp only [hto _ rfl]
                simp [hm255, hx0, hxm]
            · rw [if_pos (by simp [hb]), if_neg (fun h => hb h.2)]
      · have hk' : ¬ l[(s.go c).r.at_]? = some 44 := hk
        have hi2 : itvX2 l (s.go c) (m : Int) = ((m : Int), s.go c) := by unfold itvX2; rw [if_neg (fun h => hk' h.2)]
        rw [hi2]
        simp only [hk, decide_false, Bool.false_eq_true, if_false]
        have hat : (s.go c).r.at_ = s.r.at_ + c := rfl
        unfold itvX3
        rw [hat]
        by_cases hb : l[s.r.at_ + c]? = some 125
        · rw [if_neg (by simp [hb]), if_pos ⟨hm0, hb⟩]
          simp [hm255, ES.go, ES.to, RxS.go, RxS.to]
        · rw [if_pos (by simp [hb]), if_neg (fun h => hb h.2)]

section
variable {l : List UInt8}
theorem repX_D : ∀ (n : Nat) (r : RxS) (t : Nd), Rl l (repD prg true l n r t) (repX l n ⟨r, none⟩ t)
  | 0, r, t => rfl
  | n + 1, r, t => by
    rw [repD, repX]
    simp only [opB_ere, sgn_get (show (42 : UInt8) ≠ 92 by decide), sgn_get (show (43 : UInt8) ≠ 92 by decide), sgn_get (show (63 : UInt8) ≠ 92 by decide), sgn_get (show (123 : UInt8) ≠ 92 by decide), decide_eq_true_eq, if_true, List.length_singleton]
    split
    · exact repX_D n _ _
    · split
      · exact repX_D n _ _
      · split
        · exact repX_D n _ _
        · split
          · have hi := itvX_D (l := l) (s := (⟨r, none⟩ : ES).go 1)
            rw [show ((⟨r, none⟩ : ES).go 1).r.at_ = r.at_ + 1 from rfl] at hi
            cases hd : ditv l true (r.at_ + 1) with
            | none =>
              rw [hd] at hi
              simp only at hi
              simp only [hi, Bool.false_eq_true, if_false]
              refine ⟨?_, rfl⟩
              show some (Option.getD _ _) = _
              rw [itvX_x]; rfl
            | some q =>
              obtain ⟨m, x, j⟩ := q
              rw [hd] at hi
              simp only at hi
              simp only [hi, if_true]
              exact repX_D n _ _
          · rfl
theorem escB_mrk {b : UInt8} {c : S4} {m : Bool} (hb : ¬ (49 ≤ b.toNat ∧ b.toNat ≤ 57)) (h : escB b = some (c, m)) : mrkX b = m := by
  have hd : (decide (49 ≤ b.toNat) && decide (b.toNat ≤ 57)) = false := by
    cases hq : (decide (49 ≤ b.toNat) && decide (b.toNat ≤ 57)) with
    | false => rfl
    | true => simp at hq; exact absurd hq hb
  unfold escB at h
  unfold mrkX
  rw [hd]
  split at h
  · next e => subst e; simp only [Option.some.injEq, Prod.mk.injEq] at h; obtain ⟨_, rfl⟩ := h; decide
  · split at h
    · next e => subst e; simp only [Option.some.injEq, Prod.mk.injEq] at h; obtain ⟨_, rfl⟩ := h; decide
    · split at h
      · next e => subst e; simp only [Option.some.injEq, Prod.mk.injEq] at h; obtain ⟨_, rfl⟩ := h; decide
      · split at h
        · next e => subst e; simp only [Option.some.injEq, Prod.mk.injEq] at h; obtain ⟨_, rfl⟩ := h; decide
        · split at h
          · next e => subst e; simp only [Option.some.injEq, Prod.mk.injEq] at h; obtain ⟨_, rfl⟩ := h; decide
          · split at h
            · next e => subst e; simp only [Option.some.injEq, Prod.mk.injEq] at h; obtain ⟨_, rfl⟩ := h; decide
            · split at h
              · simp only [Option.some.injEq, Prod.mk.injEq] at h; obtain ⟨_, rfl⟩ := h
                simp [*]
              · cases h
theorem escX_D {r : RxS} {b : UInt8} (h : l[r.at_ + 1]? = some b) : Rl l (escD prg true r b) (escX l ⟨r, none⟩) := by
  unfold escD escX
  simp only [h]
  split
  · next hd =>
    have hm : mrkX b = true := by unfold mrkX; simp [hd.1, hd.2]
    simp only [hm, if_true]
    split
    · rfl
    · exact ⟨rfl, rfl⟩
  · next hd =>
    cases he : escB b with
    | none => cases mrkX b <;> exact ⟨rfl, rfl⟩
    | some q =>
      obtain ⟨c, m⟩ := q
      simp only [escB_mrk hd he]
      cases m <;> rfl
variable {C : Option (RxS → Out Nd)} {D : Option (ES → Nd × ES)} (hC : match C, D with | none, none => True | some f, some g => ∀ r, Rl l (f r) (g ⟨r, none⟩) | _, _ => False)
include hC
theorem groupX_D (r : RxS) : Rl l (groupD prg true l C r) (groupX l D ⟨r, none⟩) := by
  unfold groupD groupX
  match C, D, hC with
  | none, none, _ => exact ⟨rfl, rfl⟩
  | some f, some g, hC =>
    simp only [opB_ere, List.length_singleton, sgn_get (show (41 : UInt8) ≠ 92 by decide), decide_eq_true_eq]
    have h := hC { r.go 1 with opened := r.opened + 1 }
    have hg : grpIn ⟨r, none⟩ = ⟨{ r.go 1 with opened := r.opened + 1 }, none⟩ := rfl
    rw [hg]
    cases hf : f { r.go 1 with opened := r.opened + 1 } with
    | inl e => rw [hf] at h; exact Stuck.out h _ _
    | inr q =>
      obtain ⟨t, r1⟩ := q
      rw [hf] at h
      have h : g _ = _ := h
      rw [h]
      simp only
      unfold grpOut
      split
      · rfl
      · exact ⟨rfl, rfl⟩
theorem atomX_D (r : RxS) {c : UInt8} (h : l[r.at_]? = some c) : Rl l (atomD prg true l C r) (atomX l D ⟨r, none⟩ c) := by
  have hs : ∀ b : UInt8, b ≠ 92 → (sgn l r.at_ == [b]) = decide (c = b) := fun b hb => by rw [sgn_get hb, h]; simp
  unfold atomD atomX
  simp only [opB_ere, hs 40 (by decide), hs 41 (by decide), hs 91 (by decide), hs 46 (by decide), decide_eq_true_eq]
  by_cases h40 : c = 40
  · simp only [h40, if_true]; exact groupX_D hC r
  · simp only [if_neg h40]
    by_cases h41 : c = 41
    · simp only [h41, if_true]; exact ⟨rfl, rfl⟩
    · simp only [if_neg h41]
      by_cases h92 : c = 92
      · subst h92
        simp only [show ¬ (92 : UInt8) = 91 by decide, show ¬ (92 : UInt8) = 46 by decide, if_false, if_true]
        cases h2 : l[r.at_ + 1]? with
        | none =>
          have hsg : sgn l r.at_ = [92] := by unfold sgn; rw [h]; simp only [if_true, h2]
          rw [hsg]
          unfold escX
          simp only [h2]
          exact ⟨rfl, rfl⟩
        | some b =>
          have hsg : sgn l r.at_ = [92, b] := by unfold sgn; rw [h]; simp only [if_true, h2]
          rw [hsg]
          have : ([92, b] == [(92 : UInt8)]) = false := by simp
          simp only [this, Bool.false_eq_true, if_false]
          exact escX_D h2
      · simp only [if_neg h92]
        have hsg : sgn l r.at_ = [c] := by unfold sgn; rw [h]; simp only [if_neg h92]
        rw [hsg]
        by_cases h91 : c = 91
        · simp only [h91, if_true]
          cases prs l (r.at_ + 1) with
          | inl z => exact ⟨rfl, rfl⟩
          | inr y => rfl
        · simp only [if_neg h91]
          by_cases h46 : c = 46
          · simp only [h46, if_true]; rfl
          · have : ([c] == [(92 : UInt8)]) = false := by simp [h92]
            simp only [if_neg h46, this, Bool.false_eq_true, if_false]
            rfl
theorem brX_D {inner : Bool} : ∀ (n : Nat) (first front : Bool) (r : RxS) (ps : List Nd), Rl l (brD prg true l C inner n first front r ps) (brX l D inner n front ⟨r, none⟩ ps)
  | 0, first, front, r, ps => rfl
  | n + 1, first, front, r, ps => by
    rw [brD, brX]
    simp only [opB_ere, Bool.true_or, Bool.and_true, Bool.true_and]
    cases h : l[r.at_]? with
    | none =>
      have hsg : sgn l r.at_ = [] := by unfold sgn; rw [h]
      simp only [hsg, beq_self_eq_true, Bool.true_or, if_true]; rfl
    | some c =>
      have hs : ∀ b : UInt8, b ≠ 92 → (sgn l r.at_ == [b]) = decide (c = b) := fun b hb => by rw [sgn_get hb, h]; simp
      have hne : (sgn l r.at_ == []) = false := by rw [sgn_nil]; have := getE_lt h; simp; omega
      simp only [hs 124 (by decide), hs 41 (by decide), hs 94 (by decide), hs 36 (by decide), hs 123 (by decide), hs 43 (by decide), hs 63 (by decide), hs 42 (by decide), hne, Bool.false_or, Bool.or_eq_true, Bool.and_eq_true, decide_eq_true_eq]
      by_cases h1 : (c = 41 ∧ inner = true) ∨ c = 124
      · rw [if_pos h1, if_pos (h1.symm)]; rfl
      · rw [if_neg h1, if_neg (fun h => h1 h.symm)]
        by_cases h2 : c = 94
        · rw [if_pos h2, if_pos h2]; exact brX_D n _ _ _ _
        · rw [if_neg h2, if_neg h2]
          by_cases h3 : c = 36
          · rw [if_pos h3, if_pos h3]; exact brX_D n _ _ _ _
          · rw [if_neg h3, if_neg h3]
            by_cases h4 : c = 41
            · have hf : frtX l front ⟨r, none⟩ c = ES.fail l ⟨r, none⟩ 8 r.at_ := by unfold frtX; rw [if_pos h4]
              rw [hf]
              have ha : atomD prg true l C r = .inl (8, r.at_) := by
                unfold atomD
                simp only [opB_ere, hs 40 (by decide), hs 41 (by decide), h4]; rfl
              rw [ha]
              have : ¬ (front = true ∧ (c = 123 ∨ c = 43 ∨ c = 63 ∨ c = 42)) := by subst h4; simp
              rw [if_neg this]
              exact ⟨rfl, rfl⟩
            · by_cases h5 : front = true ∧ (c = 123 ∨ c = 43 ∨ c = 63 ∨ c = 42)
              · have hf : frtX l front ⟨r, none⟩ c = ES.fail l ⟨r, none⟩ 10 r.at_ := by
                  unfold frtX
                  rw [if_neg h4, if_pos ⟨by rcases h5.2 with h | h | h | h <;> simp [h], h5.1⟩]
                rw [hf, if_pos h5]
                exact ⟨rfl, rfl⟩
              · have hf : frtX l front ⟨r, none⟩ c = ⟨r, none⟩ := by
                  unfold frtX
                  rw [if_neg h4, if_neg (fun h => h5 ⟨h.2, by rcases h.1 with h | h | h | h <;> simp [h]⟩)]
                rw [hf, if_neg h5]
                simp only [Option.isSome_none, Bool.false_eq_true, if_false]
                have ha := atomX_D hC r h
                cases hd : atomD prg true l C r with
                | inl e =>
                  rw [hd] at ha
                  have ha : Stuck l e _ := ha
                  simp only
                  rw [ha.rep]
                  rw [ha.br]
                  exact ha
                | inr q =>
                  obtain ⟨t, r1⟩ := q
                  rw [hd] at ha
                  have ha : atomX l D ⟨r, none⟩ c = _ := ha
                  rw [ha]
                  simp only
                  have hr := repX_D (l := l) (l.length + 1) r1 t
                  cases hd2 : repD prg true l (l.length + 1) r1 t with
                  | inl e =>
                    rw [hd2] at hr
                    have hr : Stuck l e _ := hr
                    simp only
                    rw [hr.br]
                    exact hr
                  | inr q =>
                    obtain ⟨t2, r2⟩ := q
                    rw [hd2] at hr
                    have hr : repX l _ ⟨r1, none⟩ t = _ := hr
                    rw [hr]
                    exact brX_D n _ _ _ _
theorem branchX_D {inner : Bool} (r : RxS) : Rl l (branchD prg true l C inner r) (branchX l D inner ⟨r, none⟩) := brX_D hC _ _ _ _ _
theorem chLoopX_D {inner : Bool} : ∀ (n : Nat) (r : RxS) (ts : List Nd), Rl l (chLoopD prg true l C inner n r ts) (chLoopX l D inner n ⟨r, none⟩ ts)
  | 0, r, ts => rfl
  | n + 1, r, ts => by
    rw [chLoopD, chLoopX]
    simp only [opB_ere, sgn_get (show (124 : UInt8) ≠ 92 by decide), decide_eq_true_eq, if_true, List.length_singleton]
    split
    · have hb := branchX_D hC (inner := inner) (r.go 1)
      cases hd : branchD prg true l C inner (r.go 1) with
      | inl e =>
        rw [hd] at hb
        have hb : Stuck l e (branchX l D inner ((⟨r, none⟩ : ES).go 1)).2 := hb
        simp only
        rw [hb.loop]
        exact hb
      | inr q =>
        obtain ⟨t, r1⟩ := q
        rw [hd] at hb
        have hb : branchX l D inner ((⟨r, none⟩ : ES).go 1) = _ := hb
        rw [hb]
        exact chLoopX_D n _ _
    · rfl
theorem choiceX_D {inner : Bool} (r : RxS) : Rl l (choiceD prg true l C inner r) (choiceX l D inner ⟨r, none⟩) := by
  unfold choiceD choiceX
  have hb := branchX_D hC (inner := inner) r
  cases hd : branchD prg true l C inner r with
  | inl e =>
    rw [hd] at hb
    have hb : Stuck l e _ := hb
    simp only
    rw [hb.loop]
    exact hb
  | inr q =>
    obtain ⟨t, r1⟩ := q
    rw [hd] at hb
    have hb : branchX l D inner ⟨r, none⟩ = _ := hb
    rw [hb]
    exact chLoopX_D hC _ _ _
end
theorem chX_D {l : List UInt8} : ∀ (n : Nat) (r : RxS), Rl l (chD prg true l n r) (chX l n ⟨r, none⟩)
  | 0, r => by rw [chD, chX]; exact choiceX_D (C := none) (D := none) trivial r
  | n + 1, r => by rw [chD, chX]; exact choiceX_D (C := some (chD prg true l n)) (D := some (chX l n)) (chX_D n) r
end Go.Proofs.YtepeomphikhbkaaGreatDoor
