/-
  Merged texts of this claim: EreR.
-/
import Derived.Test.YtmoeboknelnaoaaGreatDoorM16

/-
  The program's reading of an extended regex, with its sticky error, is the reading of either kind by its signs. No walk.
-/
namespace Go.Proofs.YtmoeboknelnaoaaGreatDoor
open Go.RowKit

/-- What the one reading gives, and the other. -/
def Rl (l : List UInt8) : Out Nd → Nd × ES → Prop
  | .inr (t, r), q => q = (t, ⟨r, none⟩)
  | .inl e, q => q.2.x = some e ∧ q.2.r.at_ = l.length
/-- Something is wrong, and nothing more is read. -/
def Stuck (l : List UInt8) (e : Int × Nat) (s : ES) : Prop := s.x = some e ∧ s.r.at_ = l.length

section
variable {l : List UInt8} {e : Int × Nat} {s : ES}
theorem Stuck.no (h : Stuck l e s) : l[s.r.at_]? = none := by rw [h.2]; simp
theorem Stuck.rep (h : Stuck l e s) (n : Nat) (t : Nd) : repX l n s t = (t, s) := by
  cases n with
  | zero => rfl
  | succ n => rw [repX, h.no]; simp
theorem Stuck.br (h : Stuck l e s) (C : Option (ES → Nd × ES)) (inner : Bool) (n : Nat) (front : Bool) (ps : List Nd) : brX l C inner n front s ps = (joined ps, s) := by
  cases n with
  | zero => rfl
  | succ n => rw [brX, h.no]
theorem Stuck.loop (h : Stuck l e s) (C : Option (ES → Nd × ES)) (inner : Bool) (n : Nat) (ts : List Nd) : chLoopX l C inner n s ts = (chosen ts, s) := by
  cases n with
  | zero => rfl
  | succ n => rw [chLoopX, h.no]; simp
theorem Stuck.out (h : Stuck l e s) (n p : Nat) : Stuck l e (grpOut l n p s) := by
  unfold grpOut
  rw [h.no]
  simp only [reduceCtorEq, if_false]
  exact ⟨by show some (s.x.getD _) = _; rw [h.1]; rfl, rfl⟩
end

theorem sgn_get {l : List UInt8} {k : Nat} {c : UInt8} (hc : c ≠ 92) : (sgn l k == [c]) = decide (l[k]? = some c) := by
  unfold sgn
  cases h : l[k]? with
  | none => simp
  | some b =>
    by_cases h92 : b = 92
    · subst h92
      have : ¬ (92 : UInt8) = c := fun h => hc h.symm
      simp only [if_true]
      cases l[k + 1]? <;> simp [this]
    · simp only [if_neg h92]
      by_cases hbc : b = c <;> simp [hbc]
theorem ahd_get {l : List UInt8} {k : Nat} {c : UInt8} (hc : c ≠ 92) : ahd l k [c] = decide (l[k]? = some c) := by rw [← sgn_hd hc, sgn_get hc]

theorem itvX_x (l : List UInt8) (s : ES) : (itvX l s).2.2.2.x = s.x := by
  have h2 : ∀ s1 mn, (itvX2 l s1 mn).2.x = s1.x := fun s1 mn => by unfold itvX2; split <;> rfl
  have h3 : ∀ mn mx s2, (itvX3 l mn mx s2).2.x = s2.x := fun mn mx s2 => by unfold itvX3; split <;> rfl
  exact (h3 _ _ _).trans (h2 _ _)
theorem itvX3_no {l : List UInt8} {mn mx : Int} {s : ES} (h : 255 < mn ∨ 255 < mx ∨ mn < 0 ∨ ¬ l[s.r.at_]? = some 125) : (itvX3 l mn mx s).1 = false := by
  unfold itvX3
  split
  · next e =>
    rcases h with h | h | h | h
    · have : ¬ mn ≤ 255 := by omega
      simp [this]
    · have : ¬ mx ≤ 255 := by omega
      simp [this]
    · omega
    · exact absurd e.2 h
  · rfl
theorem itvX_D {l : List UInt8} {s : ES} : match ditv l true s.r.at_ with
    | none => (itvX l s).2.2.1 = false
    | some (m, x, j) => itvX l s = (m, x, true, s.to j) := by
  obtain ⟨m, c, hm⟩ : ∃ m c, num3 (l.drop s.r.at_) 0 0 = (m, c) := ⟨_, _, rfl⟩
  have hn : numX l s = (if c = 0 then -1 else (m : Int), s.go c) := by unfold numX; rw [hm]
  have h125 : (125 : UInt8) ≠ 92 := by decide
  have h44 : (44 : UInt8) ≠ 92 := by decide
  unfold ditv itvX dnum
  rw [hn, hm]
  simp only [opB_ere, ahd_get h125, ahd_get h44, List.length_singleton]
  by_cases hc : c = 0
  · subst hc
    have e1 : (if 255 < m then ((0, 0) : Nat × Nat) else (m, 0)).2 = 0 := by split <;> rfl
    rw [if_pos e1]
    exact itvX3_no (.inr (.inr (.inl (by simp))))
  · simp only [hc, if_false]
    by_cases h255 : 255 < m
    · rw [if_pos h255]
      simp only [if_true]
      exact itvX3_no (.inl (by omega))
    · simp only [if_neg h255, hc, if_false]
      have hm255 : (m : Int) ≤ 255 := by omega
      have hm0 : (0 : Int) ≤ m := by omega
      by_cases hk : l[s.r.at_ + c]? = some 44
      · have hk' : l[(s.go c).r.at_]? = some 44 := hk
        have hi2 : itvX2 l (s.go c) (m : Int) = numX l ((s.go c).go 1) := by unfold itvX2; rw [if_pos ⟨hm0, hk'⟩]
        rw [hi2]
        obtain ⟨x, d, hx⟩ : ∃ x d, num3 (l.drop (s.r.at_ + c + 1)) 0 0 = (x, d) := ⟨_, _, rfl⟩
        have hn2 : numX l ((s.go c).go 1) = (if d = 0 then -1 else (x : Int), ((s.go c).go 1).go d) := by
          unfold numX; rw [show ((s.go c).go 1).r.at_ = s.r.at_ + c + 1 from rfl, hx]
        rw [hn2, hx]
        simp only [hk, decide_true, if_true]
        have hto : ∀ j, j = s.r.at_ + c + 1 + d + 1 → (((s.go c).go 1).go d).go 1 = s.to j := fun j h => by subst h; rfl
        have hat : (((s.go c).go 1).go d).r.at_ = s.r.at_ + c + 1 + d := rfl
        by_cases hx255 : 255 < x
        · have hd : d ≠ 0 := by
            intro h0; subst h0
            obtain ⟨b, t, ht, hb1, hb2⟩ := num3_pos hx (by omega)
            rw [ht, num3, if_pos ⟨hb1, hb2, by decide⟩] at hx
            have := num3_ge t 1 (0 * 10 + (b.toNat - 48))
            rw [hx] at this; simp at this
          obtain ⟨b, t, ht, hb1, hb2⟩ := num3_pos hx (by omega)
          have hnb : ¬ l[s.r.at_ + c + 1]? = some 125 := by
            have : l[s.r.at_ + c + 1]? = (l.drop (s.r.at_ + c + 1))[0]? := by simp
            rw [this, ht]
            simp only [List.getElem?_cons_zero, Option.some.injEq]
            rintro rfl
            simp at hb2
          simp only [if_pos hx255, Nat.lt_irrefl, if_false, hd, Nat.add_zero]
          rw [if_pos (.inl (by simp [hnb]))]
          exact itvX3_no (.inr (.inl (by omega)))
        · simp only [if_neg hx255]
          by_cases hd : d = 0
          · subst hd
            simp only [Nat.lt_irrefl, if_false, Nat.add_zero, if_true]
            unfold itvX3
            rw [hat, Nat.add_zero]
            by_cases hb : l[s.r.at_ + c + 1]? = some 125
            · have e1 : ¬ ((0 : Int) ≤ -1 ∧ (-1 : Int) < m) := by omega
              rw [if_neg (by simp [hb]), if_pos ⟨hm0, hb⟩]
              simp [hm255, hto]
            · rw [if_pos (by simp [hb]), if_neg (fun h => hb h.2)]
          · have hd' : 0 < d := by omega
            simp only [hd', if_true, hd, if_false]
            unfold itvX3
            rw [hat]
            have hx0 : (x : Int) ≤ 255 := by omega
            by_cases hb : l[s.r.at_ + c + 1 + d]? = some 125
            · rw [if_pos (⟨hm0, hb⟩ : (0 : Int) ≤ m ∧ _)]
              by_cases hmx : (x : Int) < m
              · have h0x : (0 : Int) ≤ x := by omega
                have hxm : ¬ (m : Int) ≤ x := by omega
                have hxn : ¬ (x : Int) < 0 := by omega
                rw [if_pos (.inr ⟨h0x, hmx⟩)]
                simp [hxm, hxn]
              · have hxm : (m : Int) ≤ x := by omega
                rw [if_neg (by simp [hb]; omega)]
                simp only [hto _ rfl]
                simp [hm255, hx0, hxm]
            · rw [if_pos (by simp [hb]), if_neg (fun h => hb h.2)]
      · have hk' : ¬ l[(s.go c).r.at_]? = some 44 := hk
        have hi2 : itvX2 l (s.go c) (m : Int) = ((m : Int), s.go c) := by unfold itvX2; rw [if_neg (fun h => hk' h.2)]
        rw [hi2]
        simp only [hk, decide_false, Bool.false_eq_true, if_false]
        have hat : (s.go c).r.at_ = s.r.at_ + c := rfl
        unfold itvX3
        rw [hat]
        by_cases hb : l[s.r.at_ + c]? = some 125
        · rw [if_neg (by simp [hb]), if_pos ⟨hm0, hb⟩]
          simp [hm255, ES.go, ES.to, RxS.go, RxS.to]
        · rw [if_pos (by simp [hb]), if_neg (fun h => hb h.2)]

section
variable {l : List UInt8}
theorem repX_D : ∀ (n : Nat) (r : RxS) (t : Nd), Rl l (repD prg true l n r t) (repX l n ⟨r, none⟩ t)
  | 0, r, t => rfl
  | n + 1, r, t => by
    rw [repD, repX]
    simp only [opB_ere, sgn_get (show (42 : UInt8) ≠ 92 by decide), sgn_get (show (43 : UInt8) ≠ 92 by decide), sgn_get (show (63 : UInt8) ≠ 92 by decide), sgn_get (show (123 : UInt8) ≠ 92 by decide), decide_eq_true_eq, if_true, List.length_singleton]
    split
    · exact repX_D n _ _
    · split
      · exact repX_D n _ _
      · split
        · exact repX_D n _ _
        · split
          · have hi := itvX_D (l := l) (s := (⟨r, none⟩ : ES).go 1)
            rw [show ((⟨r, none⟩ : ES).go 1).r.at_ = r.at_ + 1 from rfl] at hi
            cases hd : ditv l true (r.at_ + 1) with
            | none =>
              rw [hd] at hi
              simp only at hi
              simp only [hi, Bool.false_eq_true, if_false]
              refine ⟨?_, rfl⟩
              show some (Option.getD _ _) = _
              rw [itvX_x]; rfl
            | some q =>
              obtain ⟨m, x, j⟩ := q
              rw [hd] at hi
              simp only at hi
              simp only [hi, if_true]
              exact repX_D n _ _
          · rfl
theorem escB_mrk {b : UInt8} {c : S4} {m : Bool} (hb : ¬ (49 ≤ b.toNat ∧ b.toNat ≤ 57)) (h : escB b = some (c, m)) : mrkX b = m := by
  have hd : (decide (49 ≤ b.toNat) && decide (b.toNat ≤ 57)) = false := by
    cases hq : (decide (49 ≤ b.toNat) && decide (b.toNat ≤ 57)) with
    | false => rfl
    | true => simp at hq; exact absurd hq hb
  unfold escB at h
  unfold mrkX
  rw [hd]
  split at h
  · next e => subst e; simp only [Option.some.injEq, Prod.mk.injEq] at h; obtain ⟨_, rfl⟩ := h; decide
  · split at h
    · next e => subst e; simp only [Option.some.injEq, Prod.mk.injEq] at h; obtain ⟨_, rfl⟩ := h; decide
    · split at h
      · next e => subst e; simp only [Option.some.injEq, Prod.mk.injEq] at h; obtain ⟨_, rfl⟩ := h; decide
      · split at h
        · next e => subst e; simp only [Option.some.injEq, Prod.mk.injEq] at h; obtain ⟨_, rfl⟩ := h; decide
        · split at h
          · next e => subst e; simp only [Option.some.injEq, Prod.mk.injEq] at h; obtain ⟨_, rfl⟩ := h; decide
          · split at h
            · next e => subst e; simp only [Option.some.injEq, Prod.mk.injEq] at h; obtain ⟨_, rfl⟩ := h; decide
            · split at h
              · simp only [Option.some.injEq, Prod.mk.injEq] at h; obtain ⟨_, rfl⟩ := h
                simp [*]
              · cases h
theorem escX_D {r : RxS} {b : UInt8} (h : l[r.at_ + 1]? = some b) : Rl l (escD prg true r b) (escX l ⟨r, none⟩) := by
  unfold escD escX
  simp only [h]
  split
  · next hd =>
    have hm : mrkX b = true := by unfold mrkX; simp [hd.1, hd.2]
    simp only [hm, if_true]
    split
    · rfl
    · exact ⟨rfl, rfl⟩
  · next hd =>
    cases he : escB b with
    | none => cases mrkX b <;> exact ⟨rfl, rfl⟩
    | some q =>
      obtain ⟨c, m⟩ := q
      simp only [escB_mrk hd he]
      cases m <;> rfl
variable {C : Option (RxS → Out Nd)} {D : Option (ES → Nd × ES)} (hC : match C, D with | none, none => True | some f, some g => ∀ r, Rl l (f r) (g ⟨r, none⟩) | _, _ => False)
include hC
theorem groupX_D (r : RxS) : Rl l (groupD prg true l C r) (groupX l D ⟨r, none⟩) := by
  unfold groupD groupX
  match C, D, hC with
  | none, none, _ => exact ⟨rfl, rfl⟩
  | some f, some g, hC =>
    simp only [opB_ere, List.length_singleton, sgn_get (show (41 : UInt8) ≠ 92 by decide), decide_eq_true_eq]
    have h := hC { r.go 1 with opened := r.opened + 1 }
    have hg : grpIn ⟨r, none⟩ = ⟨{ r.go 1 with opened := r.opened + 1 }, none⟩ := rfl
    rw [hg]
    cases hf : f { r.go 1 with opened := r.opened + 1 } with
    | inl e => rw [hf] at h; exact Stuck.out h _ _
    | inr q =>
      obtain ⟨t, r1⟩ := q
      rw [hf] at h
      have h : g _ = _ := h
      rw [h]
      simp only
      unfold grpOut
      split
      · rfl
      · exact ⟨rfl, rfl⟩
theorem atomX_D (r : RxS) {c : UInt8} (h : l[r.at_]? = some c) : Rl l (atomD prg true l C r) (atomX l D ⟨r, none⟩ c) := by
  have hs : ∀ b : UInt8, b ≠ 92 → (sgn l r.at_ == [b]) = decide (c = b) := fun b hb => by rw [sgn_get hb, h]; simp
  unfold atomD atomX
  simp only [opB_ere, hs 40 (by decide), hs 41 (by decide), hs 91 (by decide), hs 46 (by decide), decide_eq_true_eq]
  by_cases h40 : c = 40
  · simp only [h40, if_true]; exact groupX_D hC r
  · simp only [if_neg h40]
    by_cases h41 : c = 41
    · simp only [h41, if_true]; exact ⟨rfl, rfl⟩
    · simp only [if_neg h41]
      by_cases h92 : c = 92
      · subst h92
        simp only [show ¬ (92 : UInt8) = 91 by decide, show ¬ (92 : UInt8) = 46 by decide, if_false, if_true]
        cases h2 : l[r.at_ + 1]? with
        | none =>
          have hsg : sgn l r.at_ = [92] := by unfold sgn; rw [h]; simp only [if_true, h2]
          rw [hsg]
          unfold escX
          simp only [h2]
          exact ⟨rfl, rfl⟩
        | some b =>
          have hsg : sgn l r.at_ = [92, b] := by unfold sgn; rw [h]; simp only [if_true, h2]
          rw [hsg]
          have : ([92, b] == [(92 : UInt8)]) = false := by simp
          simp only [this, Bool.false_eq_true, if_false]
          exact escX_D h2
      · simp only [if_neg h92]
        have hsg : sgn l r.at_ = [c] := by unfold sgn; rw [h]; simp only [if_neg h92]
        rw [hsg]
        by_cases h91 : c = 91
        · simp only [h91, if_true]
          cases prs l (r.at_ + 1) with
          | inl z => exact ⟨rfl, rfl⟩
          | inr y => rfl
        · simp only [if_neg h91]
          by_cases h46 : c = 46
          · simp only [h46, if_true]; rfl
          · have : ([c] == [(92 : UInt8)]) = false := by simp [h92]
            simp only [if_neg h46, this, Bool.false_eq_true, if_false]
            rfl
theorem brX_D {inner : Bool} : ∀ (n : Nat) (first front : Bool) (r : RxS) (ps : List Nd), Rl l (brD prg true l C inner n first front r ps) (brX l D inner n front ⟨r, none⟩ ps)
  | 0, first, front, r, ps => rfl
  | n + 1, first, front, r, ps => by
    rw [brD, brX]
    simp only [opB_ere, Bool.true_or, Bool.and_true, Bool.true_and]
    cases h : l[r.at_]? with
    | none =>
      have hsg : sgn l r.at_ = [] := by unfold sgn; rw [h]
      simp only [hsg, beq_self_eq_true, Bool.true_or, if_true]; rfl
    | some c =>
      have hs : ∀ b : UInt8, b ≠ 92 → (sgn l r.at_ == [b]) = decide (c = b) := fun b hb => by rw [sgn_get hb, h]; simp
      have hne : (sgn l r.at_ == []) = false := by rw [sgn_nil]; have := getE_lt h; simp; omega
      simp only [hs 124 (by decide), hs 41 (by decide), hs 94 (by decide), hs 36 (by decide), hs 123 (by decide), hs 43 (by decide), hs 63 (by decide), hs 42 (by decide), hne, Bool.false_or, Bool.or_eq_true, Bool.and_eq_true, decide_eq_true_eq]
      by_cases h1 : (c = 41 ∧ inner = true) ∨ c = 124
      · rw [if_pos h1, if_pos (h1.symm)]; rfl
      · rw [if_neg h1, if_neg (fun h => h1 h.symm)]
        by_cases h2 : c = 94
        · rw [if_pos h2, if_pos h2]; exact brX_D n _ _ _ _
        · rw [if_neg h2, if_neg h2]
          by_cases h3 : c = 36
          · rw [if_pos h3, if_pos h3]; exact brX_D n _ _ _ _
          · rw [if_neg h3, if_neg h3]
            by_cases h4 : c = 41
            · have hf : frtX l front ⟨r, none⟩ c = ES.fail l ⟨r, none⟩ 8 r.at_ := by unfold frtX; rw [if_pos h4]
              rw [hf]
              have ha : atomD prg true l C r = .inl (8, r.at_) := by
                unfold atomD
                simp only [opB_ere, hs 40 (by decide), hs 41 (by decide), h4]; rfl
              rw [ha]
              have : ¬ (front = true ∧ (c = 123 ∨ c = 43 ∨ c = 63 ∨ c = 42)) := by subst h4; simp
              rw [if_neg this]
              exact ⟨rfl, rfl⟩
            · by_cases h5 : front = true ∧ (c = 123 ∨ c = 43 ∨ c = 63 ∨ c = 42)
              · have hf : frtX l front ⟨r, none⟩ c = ES.fail l ⟨r, none⟩ 10 r.at_ := by
                  unfold frtX
                  rw [if_neg h4, if_pos ⟨by rcases h5.2 with h | h | h | h <;> simp [h], h5.1⟩]
                rw [hf, if_pos h5]
                exact ⟨rfl, rfl⟩
              · have hf : frtX l front ⟨r, none⟩ c = ⟨r, none⟩ := by
                  unfold frtX
                  rw [if_neg h4, if_neg (fun h => h5 ⟨h.2, by rcases h.1 with h | h | h | h <;> simp [h]⟩)]
                rw [hf, if_neg h5]
                simp only [Option.isSome_none, Bool.false_eq_true, if_false]
                have ha := atomX_D hC r h
                cases hd : atomD prg true l C r with
                | inl e =>
                  rw [hd] at ha
                  have ha : Stuck l e _ := ha
                  simp only
                  rw [ha.rep]
                  rw [ha.br]
                  exact ha
                | inr q =>
                  obtain ⟨t, r1⟩ := q
                  rw [hd] at ha
                  have ha : atomX l D ⟨r, none⟩ c = _ := ha
                  rw [ha]
                  simp only
                  have hr := repX_D (l := l) (l.length + 1) r1 t
                  cases hd2 : repD prg true l (l.length + 1) r1 t with
                  | inl e =>
                    rw [hd2] at hr
                    have hr : Stuck l e _ := hr
                    simp only
                    rw [hr.br]
                    exact hr
                  | inr q =>
                    obtain ⟨t2, r2⟩ := q
                    rw [hd2] at hr
                    have hr : repX l _ ⟨r1, none⟩ t = _ := hr
                    rw [hr]
                    exact brX_D n _ _ _ _
theorem branchX_D {inner : Bool} (r : RxS) : Rl l (branchD prg true l C inner r) (branchX l D inner ⟨r, none⟩) := brX_D hC _ _ _ _ _
theorem chLoopX_D {inner : Bool} : ∀ (n : Nat) (r : RxS) (ts : List Nd), Rl l (chLoopD prg true l C inner n r ts) (chLoopX l D inner n ⟨r, none⟩ ts)
  | 0, r, ts => rfl
  | n + 1, r, ts => by
    rw [chLoopD, chLoopX]
    simp only [opB_ere, sgn_get (show (124 : UInt8) ≠ 92 by decide), decide_eq_true_eq, if_true, List.length_singleton]
    split
    · have hb := branchX_D hC (inner := inner) (r.go 1)
      cases hd : branchD prg true l C inner (r.go 1) with
      | inl e =>
        rw [hd] at hb
        have hb : Stuck l e (branchX l D inner ((⟨r, none⟩ : ES).go 1)).2 := hb
        simp only
        rw [hb.loop]
        exact hb
      | inr q =>
        obtain ⟨t, r1⟩ := q
        rw [hd] at hb
        have hb : branchX l D inner ((⟨r, none⟩ : ES).go 1) = _ := hb
        rw [hb]
        exact chLoopX_D n _ _
    · rfl
theorem choiceX_D {inner : Bool} (r : RxS) : Rl l (choiceD prg true l C inner r) (choiceX l D inner ⟨r, none⟩) := by
  unfold choiceD choiceX
  have hb := branchX_D hC (inner := inner) r
  cases hd : branchD prg true l C inner r with
  | inl e =>
    rw [hd] at hb
    have hb : Stuck l e _ := hb
    simp only
    rw [hb.loop]
    exact hb
  | inr q =>
    obtain ⟨t, r1⟩ := q
    rw [hd] at hb
    have hb : branchX l D inner ⟨r, none⟩ = _ := hb
    rw [hb]
    exact chLoopX_D hC _ _ _
end
theorem chX_D {l : List UInt8} : ∀ (n : Nat) (r : RxS), Rl l (chD prg true l n r) (chX l n ⟨r, none⟩)
  | 0, r => by rw [chD, chX]; exact choiceX_D (C := none) (D := none) trivial r
  | n + 1, r => by rw [chD, chX]; exact choiceX_D (C := some (chD prg true l n)) (D := some (chX l n)) (chX_D n) r
end Go.Proofs.YtmoeboknelnaoaaGreatDoor
