/-
  Merged texts of this claim: ShowV, BrkN, BrkI, BrkQ, RdE, DoorS, DoorT.
-/
import Derived.Deep.RegionWith
import Derived.Test.YtlchaocpejfikaaGreatDoorRows
import Derived.ProofKit
import Derived.LaidMore
import Derived.OpenShut
import Derived.Stop.Joined
import Derived.Lib.LaidTab
import Derived.Stop.LaidErr
import Derived.Shelf.Vars
import Derived.Test.YtlchaocpejfikaaGreatDoorM06
import Derived.Test.YtlchaocpejfikaaGreatDoorM10
import Derived.Test.YtlchaocpejfikaaGreatDoorM11
import Derived.Test.YtlchaocpejfikaaGreatDoorM13

/-
  A set's text is read as the set. Plain.
-/
namespace Go.Proofs.YtlchaocpejfikaaGreatDoor
open Go.RowKit

theorem u8_nat {n : Nat} (h : n < 256) : (n.toUInt8).toNat = n := by
  show n % 256 = n; omega
theorem u8_ne {n : Nat} (h : n < 256) {c : UInt8} (hc : n ≠ c.toNat) : n.toUInt8 ≠ c := fun e => hc (by rw [← e, u8_nat h])

/-! ### How many, told by which -/
theorem cntTo_pos {p : Nat → Bool} : ∀ {n i : Nat}, i < n → p i = true → 1 ≤ cntTo p n
  | 0, i, h, _ => by omega
  | n + 1, i, h, hp => by
    rw [cntTo]
    by_cases hi : i = n
    · subst hi; rw [if_pos hp]; omega
    · have := cntTo_pos (n := n) (by omega) hp; omega
theorem cntTo_two {p : Nat → Bool} {n i j : Nat} (hij : i < j) (hj : j < n) (hi : p i = true) (hjp : p j = true) : 2 ≤ cntTo p n := by
  obtain ⟨m, rfl⟩ : ∃ m, n = (i + 1) + m := ⟨n - (i + 1), by omega⟩
  rw [cntTo_add]
  have h1 := cntTo_pos (p := p) (n := i + 1) (i := i) (by omega) hi
  have h2 := cntTo_pos (p := fun k => p (i + 1 + k)) (n := m) (i := j - (i + 1)) (by omega) (by show p (i + 1 + (j - (i + 1))) = true; rw [show i + 1 + (j - (i + 1)) = j by omega]; exact hjp)
  omega
theorem len_no {s : S4} (hs : s.fit) (h : s.len = 0) : ∀ e, e < 256 → s.has e = false := fun e he => by
  cases hp : s.has e with
  | false => rfl
  | true => have := cntTo_pos he hp; rw [cnt_set hs] at this; omega
theorem len_full {s : S4} (hs : s.fit) (h : s.len = 256) : s = spn 0 255 := by
  have hn := len_not hs
  refine S4.ext_has hs (fit_spn _ _) fun e he => ?_
  have := len_no (fit_not s) (by omega) e he
  rw [has_not] at this
  rw [has_spn _ _ _ (by omega) (by omega) he]
  have h1 : s.has e = true := by simpa using this
  rw [h1]; symm; simp; omega
theorem len_one {s : S4} (hs : s.fit) (h : s.len = 1) : s = spn (lowS s) (lowS s) := by
  have hc := cnt_set hs
  have g := spl_good s.has 256
  have hlow : s.has (lowS s) = true := by
    unfold lowS
    cases hp : spl s.has 256 with
    | nil =>
      exfalso
      have : s.len = 0 := by
        rw [← hc]
        have hall : ∀ e, e < 256 → s.has e = false := fun e he => by
          cases hq : s.has e with
          | false => rfl
          | true => obtain ⟨x, hx, _⟩ := (g.cov e he).1 hq; rw [hp] at hx; cases hx
        rw [cntTo_congr (g := fun _ => false) hall]
        decide +kernel
      omega
    | cons x r =>
      rw [hp] at g
      have hx := g.in_ x (by simp)
      exact (g.cov x.1 (by omega)).2 ⟨x, by simp, Nat.le_refl _, hx.1⟩
  have hl := lowS_lt s
  refine S4.ext_has hs (fit_spn _ _) fun e he => ?_
  rw [has_spn _ _ _ hl hl he]
  cases hp : s.has e with
  | false => symm; rw [Bool.and_eq_false_iff]; simp only [decide_eq_false_iff_not]
             by_cases h1 : lowS s ≤ e
             · right; intro h2; rw [show lowS s = e by omega, hp] at hlow; cases hlow
             · exact .inl h1
  | true =>
    symm; rw [Bool.and_eq_true]; simp only [decide_eq_true_eq]
    by_cases h1 : lowS s < e
    · have := cntTo_two h1 he hlow hp; omega
    · by_cases h2 : e < lowS s
      · have := cntTo_two h2 hl hp hlow; omega
      · omega

/-! ### What stands in a text of spans -/
theorem punct_93 : punctS.has 93 = true := by decide +kernel
theorem punct_94 : punctS.has 94 = true := by decide +kernel
theorem punct_45 : punctS.has 45 = true := by decide +kernel
theorem punct_91 : punctS.has 91 = true := by decide +kernel
theorem punct_all : (List.range 256).all (fun b => !punctS.has b || (!(decide (49 ≤ b) && decide (b ≤ 57)) && (b != 110 && (b != 116 && (b != 119 && (b != 87 && (b != 115 && b != 83))))))) = true := by decide +kernel
theorem ins_first {n : Nat} (h : n < 256) : ∃ c q, insT n = c :: q ∧ c ≠ 93 ∧ c ≠ 45 ∧ c ≠ 94 := by
  unfold insT
  split
  · exact ⟨91, _, rfl, by decide, by decide, by decide⟩
  · next hp =>
    refine ⟨n.toUInt8, [], rfl, ?_, ?_, ?_⟩
    all_goals
      refine u8_ne h fun e => hp ?_
      rw [e]
      decide +kernel
theorem itm_ins {n : Nat} (h : n < 256) (r : List UInt8) : itm (insT n ++ r) 0 = .inr ⟨spn n n, some n.toUInt8, (insT n).length⟩ := by
  unfold insT
  split
  · have := itm_brk n.toUInt8 r
    unfold brk at this
    rw [u8_nat h] at this
    exact this
  · next hp =>
    have h91 : n.toUInt8 ≠ 91 := u8_ne h fun e => hp (by rw [e]; exact punct_91)
    unfold itm
    simp only [List.cons_append, List.nil_append, List.getElem?_cons_zero, List.length_singleton]
    rw [u8_nat h]
    cases r with
    | nil => rfl
    | cons k q =>
      simp only [Nat.zero_add, List.getElem?_cons_succ, List.getElem?_cons_zero]
      rw [if_neg (fun e => h91 e.1)]
theorem spn_first {x : Nat × Nat} (h1 : x.1 ≤ x.2) (h2 : x.2 < 256) : ∃ c q, spnT x = c :: q ∧ c ≠ 93 ∧ c ≠ 45 ∧ c ≠ 94 := by
  obtain ⟨c, q, e, h⟩ := ins_first (show x.1 < 256 by omega)
  exact ⟨c, q ++ _, by unfold spnT; rw [e]; rfl, h⟩
theorem prt_spn {x : Nat × Nat} (h1 : x.1 ≤ x.2) (h2 : x.2 < 256) (r : List UInt8) (hr : ∀ c q, r = c :: q → c ≠ 45) : prt (spnT x ++ r) 0 = .inr (spn x.1 x.2, (spnT x).length) := by
  unfold prt
  by_cases he : x.1 = x.2
  · have e : spnT x = insT x.1 := by unfold spnT; rw [if_pos he, List.append_nil]
    rw [e, itm_ins (by omega)]
    simp only
    have : rng (insT x.1 ++ r) (insT x.1).length = false := by
      unfold rng
      cases r with
      | nil => simp
      | cons c q => have := hr c q rfl; simp [this]
    rw [this, if_neg (by decide), ← he]
  · have e : spnT x = insT x.1 ++ 45 :: insT x.2 := by unfold spnT; rw [if_neg he]
    rw [e, List.append_assoc, itm_ins (by omega)]
    simp only
    obtain ⟨c, q, ec, h93, _, _⟩ := ins_first h2
    have : rng (insT x.1 ++ (45 :: insT x.2 ++ r)) (insT x.1).length = true := by
      unfold rng
      rw [ec]
      simp [h93]
    rw [this, if_pos rfl]
    have hi : itm (insT x.1 ++ (45 :: insT x.2 ++ r)) ((insT x.1).length + 1) = .inr ⟨spn x.2 x.2, some x.2.toUInt8, (insT x.1).length + 1 + (insT x.2).length⟩ := by
      have := itm_sh (insT x.1 ++ [45]) (insT x.2 ++ r) 0
      rw [itm_ins h2] at this
      simpa [shI] using this
    rw [hi]
    simp only
    rw [u8_nat (show x.1 < 256 by omega), u8_nat h2, if_pos h1]
    congr 2
    simp; omega
def orsS : S4 → List (Nat × Nat) → S4
  | o, [] => o
  | o, x :: r => orsS (o.or (spn x.1 x.2)) r
theorem fit_orsS : ∀ (L : List (Nat × Nat)) {o : S4}, o.fit → (orsS o L).fit
  | [], _, h => h
  | _ :: r, _, _ => fit_orsS r (fit_or _ _)
theorem has_orsS : ∀ (L : List (Nat × Nat)) (o : S4), (∀ x ∈ L, x.1 ≤ x.2 ∧ x.2 < 256) → ∀ e, e < 256 → (orsS o L).has e = (o.has e || L.any fun x => decide (x.1 ≤ e) && decide (e ≤ x.2))
  | [], o, _, e, _ => by simp [orsS]
  | x :: r, o, h, e, he => by
    have hx := h x (by simp)
    rw [orsS, has_orsS r _ (fun y hy => h y (by simp [hy])) e he, has_or, has_spn _ _ _ (by omega) hx.2 he, List.any_cons, Bool.or_assoc]
theorem orsS_spl {s : S4} (hs : s.fit) : orsS S4.zero (spl s.has 256) = s := by
  have g := spl_good s.has 256
  refine S4.ext_has (fit_orsS _ fit_zero) hs fun e he => ?_
  rw [has_orsS _ _ g.in_ e he, has_zero, Bool.false_or, Bool.eq_iff_iff, List.any_eq_true, g.cov e he]
  simp
theorem sps_next (L : List (Nat × Nat)) (hL : ∀ x ∈ L, x.1 ≤ x.2 ∧ x.2 < 256) (t : List UInt8) : ∀ c q, spsT L ++ 93 :: t = c :: q → c ≠ 45 := by
  intro c q e
  cases L with
  | nil => simp [spsT] at e; rw [← e.1]; decide
  | cons x r =>
    obtain ⟨c', q', e', h⟩ := spn_first (hL x (by simp)).1 (hL x (by simp)).2
    rw [spsT, e'] at e
    simp at e
    rw [← e.1]; exact h.2.1
theorem lop_sps (t : List UInt8) : ∀ (L : List (Nat × Nat)) (p : List UInt8) (n : Nat) (o : S4), (∀ x ∈ L, x.1 ≤ x.2 ∧ x.2 < 256) → L.length < n → lop (p ++ (spsT L ++ 93 :: t)) n p.length o = .inr (orsS o L, p.length + (spsT L).length)
  | [], p, n, o, _, hn => by
    obtain ⟨n, rfl⟩ : ∃ m, n = m + 1 := ⟨n - 1, by simp at hn; omega⟩
    rw [lop, if_pos (by simp [spsT])]; rfl
  | x :: L, p, n, o, hL, hn => by
    obtain ⟨n, rfl⟩ : ∃ m, n = m + 1 := ⟨n - 1, by simp at hn; omega⟩
    have hx := hL x (by simp)
    have hL' : ∀ y ∈ L, y.1 ≤ y.2 ∧ y.2 < 256 := fun y hy => hL y (by simp [hy])
    have e1 : spsT (x :: L) ++ 93 :: t = spnT x ++ (spsT L ++ 93 :: t) := by simp [spsT]
    have hp := prt_sh p (spnT x ++ (spsT L ++ 93 :: t)) 0
    rw [Nat.add_zero, prt_spn hx.1 hx.2 _ (sps_next L hL' t)] at hp
    obtain ⟨c, q, ec, h93, _⟩ := spn_first hx.1 hx.2
    rw [e1, lop, if_neg (by rw [ec]; simp [h93]), hp]
    simp only [shP]
    have ih := lop_sps t L (p ++ spnT x) n (o.or (spn x.1 x.2)) hL' (by simp at hn; omega)
    rw [List.length_append, List.append_assoc] at ih
    rw [ih, orsS, spsT, List.length_append, Nat.add_assoc]
theorem bod_sps {p : List UInt8} {L : List (Nat × Nat)} {t : List UInt8} (hL : ∀ x ∈ L, x.1 ≤ x.2 ∧ x.2 < 256) (h0 : L ≠ []) : bod (p ++ (spsT L ++ 93 :: t)) p.length = .inr (orsS S4.zero L, p.length + (spsT L).length) := by
  cases L with
  | nil => exact absurd rfl h0
  | cons x L =>
    have hx := hL x (by simp)
    have hL' : ∀ y ∈ L, y.1 ≤ y.2 ∧ y.2 < 256 := fun y hy => hL y (by simp [hy])
    have e1 : spsT (x :: L) ++ 93 :: t = spnT x ++ (spsT L ++ 93 :: t) := by simp [spsT]
    have hp := prt_sh p (spnT x ++ (spsT L ++ 93 :: t)) 0
    rw [Nat.add_zero, prt_spn hx.1 hx.2 _ (sps_next L hL' t)] at hp
    unfold bod
    rw [e1, hp]
    simp only [shP]
    have ih := lop_sps t L (p ++ spnT x) ((p ++ (spnT x ++ (spsT L ++ 93 :: t))).length + 1) (spn x.1 x.2) hL' (by
      have hb : ∀ M : List (Nat × Nat), (∀ y ∈ M, y.1 ≤ y.2 ∧ y.2 < 256) → M.length ≤ (spsT M).length := by
        intro M
        induction M with
        | nil => intro _; simp
        | cons y M ihM =>
          intro hM
          obtain ⟨c, q, ec, _⟩ := spn_first (hM y (by simp)).1 (hM y (by simp)).2
          have := ihM (fun z hz => hM z (by simp [hz]))
          rw [spsT, List.length_append, ec]; simp; omega
      have := hb L hL'
      simp; omega)
    rw [show (p ++ spnT x).length = p.length + (spnT x).length by simp, List.append_assoc] at ih
    rw [ih, orsS, zero_or (fit_spn _ _), spsT, List.length_append, Nat.add_assoc]
theorem prs_brkT {o : Bool} {s : S4} (hs : s.fit) (h0 : spl s.has 256 ≠ []) (t : List UInt8) : prs (brkT o s ++ t) 1 = .inr (if o = true then s.not else s, (brkT o s).length) := by
  have g := spl_good s.has 256
  unfold brkT
  cases o with
  | false =>
    obtain ⟨x, L, eL⟩ := List.exists_cons_of_ne_nil h0
    have hx := g.in_ x (by rw [eL]; simp)
    obtain ⟨c, q, ec, _, _, h94⟩ := spn_first hx.1 hx.2
    have e : 91 :: ((if false = true then [94] else []) ++ (spsT (spl s.has 256) ++ [93])) ++ t = [91] ++ (spsT (spl s.has 256) ++ 93 :: t) := by simp
    have hb := bod_sps (p := [91]) (t := t) g.in_ h0
    rw [e, prs_f (by rw [eL, spsT, ec]; simp [h94])]
    rw [List.length_singleton] at hb
    rw [hb, orsS_spl hs]
    simp [ends]
    omega
  | true =>
    have e : 91 :: ((if true = true then [94] else []) ++ (spsT (spl s.has 256) ++ [93])) ++ t = [91, 94] ++ (spsT (spl s.has 256) ++ 93 :: t) := by simp
    have hb := bod_sps (p := [91, 94]) (t := t) g.in_ h0
    rw [e, prs_t (by simp)]
    rw [show ([91, 94] : List UInt8).length = 2 from rfl] at hb
    rw [hb, orsS_spl hs]
    simp [ends]
    omega
/-- A set that isn't every byte, nor one: in brackets, read as itself. -/
theorem setT_brk {s : S4} (hs : s.fit) (h256 : s.len ≠ 256) (h1 : s.len ≠ 1) : ∃ q, setT s = 91 :: q ∧ ∀ t, prs (setT s ++ t) 1 = .inr (s, (setT s).length) := by
  unfold setT
  rw [if_neg h256, if_neg h1]
  simp only
  obtain ⟨o, ho⟩ : ∃ o, decide (128 < s.len ∨ s.len = 0) = o := ⟨_, rfl⟩
  obtain ⟨s1, hs1⟩ : ∃ s1, (if o = true then s.not else s) = s1 := ⟨_, rfl⟩
  obtain ⟨e, he⟩ : ∃ e, endB (spl s1.has 256) = e := ⟨_, rfl⟩
  rw [ho, hs1, he]
  have f1 : s1.fit := by rw [← hs1]; split; exact fit_not _; exact hs
  have hne : ∀ c : S4, (∃ d, d < 256 ∧ c.has d = true) → spl c.has 256 ≠ [] := fun c ⟨d, hd, hc⟩ h => by
    have g := spl_good c.has 256
    obtain ⟨x, hx, _⟩ := (g.cov d hd).1 hc
    rw [h] at hx; cases hx
  have hln : ∀ c : S4, c.fit → c.len ≠ 0 → ∃ d, d < 256 ∧ c.has d = true := fun c hc h => by
    refine Classical.byContradiction fun hn => h ?_
    rw [← cnt_set hc, cntTo_congr (g := fun _ => false) (fun i hi => by
      cases hq : c.has i with
      | false => rfl
      | true => exact absurd ⟨i, hi, hq⟩ hn)]
    decide +kernel
  have h0 : spl (if e = true then s1.not else s1).has 256 ≠ [] := by
    cases e with
    | true =>
      rw [if_pos rfl]
      rw [endB_spl, Bool.and_eq_true, Bool.or_eq_true] at he
      refine hne _ ?_
      rcases he.2 with h | h
      · exact ⟨9, by decide, by rw [has_not]; exact h⟩
      · exact ⟨11, by decide, by rw [has_not]; exact h⟩
    | false =>
      rw [if_neg (by decide)]
      refine hne _ (hln _ f1 ?_)
      rw [← hs1]
      have := len_not hs
      split
      · next h => rw [h] at ho; omega
      · next h =>
        have : o = false := by simpa using h
        rw [this] at ho
        simp at ho; omega
  have f2 : (if e = true then s1.not else s1).fit := by split; exact fit_not _; exact f1
  refine ⟨_, rfl, fun t => ?_⟩
  rw [prs_brkT f2 h0]
  have : (if (o != e) = true then (if e = true then s1.not else s1).not else (if e = true then s1.not else s1)) = s := by
    rw [← hs1]
    cases o <;> cases e <;> simp [S4.not_not hs, S4.not_not (fit_not s)]
  rw [this]
end Go.Proofs.YtlchaocpejfikaaGreatDoor

/-
  Walks of the document's Parse. Printed by tools/rparse02.py.
-/
namespace Go.Proofs.YtlchaocpejfikaaGreatDoor
open Go.RowKit

end Go.Proofs.YtlchaocpejfikaaGreatDoor

/-
  Walks of package bracket: Parse. Printed by tools/parse02.py.
-/
namespace Go.Proofs.YtlchaocpejfikaaGreatDoor
open Go.RowKit

abbrev PInv (l : List UInt8) (w0 : World) (b r4 r9 : Nat) (F : (Int × Nat) ⊕ (S4 × Nat)) (n : Nat) (wr : World) : Prop :=
  ∃ R s, PtEnd b l 0 s R wr ∧ At4 wr r9 s ∧ At4 wr r4 S4.zero ∧ Fr nob w0 wr ∧ lopF l n R = F ∧ lopN l n R

set_option maxRecDepth 100000 in
set_option maxHeartbeats 8000000 in
theorem parse_any (l : List UInt8) (a : Nat) (w : World) (hl : l.length ≤ 100000) (ha : a ≤ l.length) (hE : Env w) :
    Calls Tryz.prog 114 #[.string ⟨l.toArray⟩, .int .i64 a] w fun e w' => e = .returned (prsV (prs l a)) ∧ Fr nob w w' := by
  obtain ⟨w0, hw0⟩ : ∃ w0, w0 = (w.alloc (.cells #[.int .u64 0, .int .u64 0, .int .u64 0, .int .u64 0] 27)).alloc (.cells #[.string ⟨l.toArray⟩, .int .i64 a, .int .i64 0, .int .i64 0] 187) := ⟨_, rfl⟩
  have f0 : Fr nob w w0 := by rw [hw0]; exact ((Fr.refl _ _).alloc _).alloc _
  have hw2 := hE.1
  have hz0 : w0.heap[w.heap.size]? = some (.cells #[.int .u64 0, .int .u64 0, .int .u64 0, .int .u64 0] 27 (0, 0)) := by rw [hw0]; exact heap_alloc_lt _ (newAt _ _)
  have hr0 : Rd w0 (w.heap.size + 1) l a 0 0 := by
    rw [hw0]; unfold Rd
    have := newAt (w.alloc (.cells #[.int .u64 0, .int .u64 0, .int .u64 0, .int .u64 0] 27)) (.cells #[.string ⟨l.toArray⟩, .int .i64 a, .int .i64 0, .int .i64 0] 187)
    simpa using this
  have hb2 : envB ≤ w.heap.size + 1 := Env.big hE
  have hE0 := hE.on f0
  obtain ⟨b, hb⟩ : ∃ b, w.heap.size + 1 = b := ⟨_, rfl⟩
  rw [hb] at hr0 hb2
  have rr0 := rule4 hr0
  have hal : (a : Int) ≤ l.length := by omega
  have ha0 : (0 : Int) ≤ a := by omega
  obtain ⟨d0, hd0⟩ : ∃ d, [94].isPrefixOf (l.drop a) = d := ⟨_, rfl⟩
  have hc0 : ∀ w', Fr nob w0 w' → _ := fun w' f => ahead_any b l [94] a 0 0 w' (by omega) (by simp) ha (hr0.on f)
  rw [hd0] at hc0
  have C0 := Lib.hid hc0; have HR0 := Lib.hid hr0; have HZ0 := Lib.hid hz0; have FW0 := Lib.hid f0; have HE0 := Lib.hid hE0; have HW0 := Lib.hid hw0; have HBB := Lib.hid hb
  have hbs : w.heap.size < b := by omega
  clear hc0 hr0 hz0 f0 hE0 hw0 hE hb hw2
  cases d0 with
  | true =>
    have HD0 := Lib.hid hd0; clear hd0
    go_enter Tryz.func114, Tryz.ntmps114
    go_wp2_with fail
    rw [← HW0.out]
    simp only [HBB.out]
    refine (C0.out w0 (Fr.refl _ _)).mono ?_
    rintro e w1 ⟨rfl, f1⟩
    have HR1 := Lib.hid (HR0.out.on f1); have HZ1 := Lib.hid (f1.heap HZ0.out (fun x => x)); have FW1 := Lib.hid (FW0.out.trans' f1); have HE1 := Lib.hid (HE0.out.on f1)
    clear f1
    have hlt : a + 1 ≤ l.length := by
      have := (List.getElem?_eq_some_iff.1 (pre1.1 HD0.out)).1
      omega
    have rr1 := rule4 HR1.out
    obtain ⟨w2, hw2⟩ : ∃ w2, w2 = w1.setCell ⟨b, 1, none⟩ (.int .i64 ((a : Int) + 1)) := ⟨_, rfl⟩
    have HR2 := Lib.hid (show Rd w2 b l ((a + 1 : Nat) : Int) 0 0 by
      rw [hw2, show ((a + 1 : Nat) : Int) = (a : Int) + 1 by omega]; exact heap_setCell_at HR1.out 1 _)
    have HZ2 := Lib.hid (show w2.heap[w.heap.size]? = some (.cells #[.int .u64 0, .int .u64 0, .int .u64 0, .int .u64 0] 27 (0, 0)) by rw [hw2]; exact heap_setCell_ne HZ1.out (by simp only; omega) _)
    have FW2 := Lib.hid (show Fr nob w w2 by rw [hw2]; exact Fr.setCell (p := ⟨b, 1, none⟩) FW1.out (fun h => absurd h (by simp only; omega)) _)
    have HE2 := Lib.hid (show Env w2 by rw [hw2]; exact HE1.out.on2 (Fr.setCell (S := fun k => k = b) (p := ⟨b, 1, none⟩) (Fr.refl _ _) (fun _ => rfl) _) hb2)
    have HW2 := Lib.hid hw2
    clear hw2
    go_wp2_with fail
    rw [← HW2.out]
    refine (part_any b l (a + 1) 0 w2 hl hlt hb2 HE2.out HR2.out).mono ?_
    rintro e w3 ⟨s, rfl, hs, f3, hend⟩
    have hz3 := f3.heap HZ2.out (fun e => by omega)
    obtain ⟨w4, hw4⟩ : ∃ w4, w4 = w3.alloc (.cells #[.int .u64 s.a, .int .u64 s.b, .int .u64 s.c, .int .u64 s.d] 27) := ⟨_, rfl⟩
    have f34 : Fr nob w3 w4 := by rw [hw4]; exact (Fr.refl _ _).alloc _
    have hbw2 := lt_heap HR2.out
    have hz4 := f34.heap hz3 (fun x => x)
    have hlz4 := lt_heap hz3
    obtain ⟨r9, hr9⟩ : ∃ r, w3.heap.size = r := ⟨_, rfl⟩
    have h94 : At4 w4 r9 s := by rw [hw4, ← hr9]; exact newAt _ _
    have hb9 : b < r9 := by rw [← hr9]; exact Nat.lt_of_lt_of_le hbw2 f3.size
    have F4 := Lib.hid ((FW2.out.trans f3 (fun i hi e => by omega)).trans' f34)
    have HE4 := Lib.hid ((HE2.out.on2 f3 hb2).on f34)
    have hend4 := hend.to (w' := w4) (fun x r q h => h.on f34)
    have hF : prs l a = prsNot _ (lopF l (l.length + 1) (prt l (a + 1))) := prs_yes HD0.out
    have hN0 : lopN l (l.length + 1) (prt l (a + 1)) := fun x hx => by
      have := prt_next hx; exact ⟨this.2.1, by omega⟩
    obtain ⟨F, hFF⟩ : ∃ F, lopF l (l.length + 1) (prt l (a + 1)) = F := ⟨_, rfl⟩
    rw [hFF] at hF
    have HF := Lib.hid hF; have HW4 := Lib.hid hw4
    have HI := Lib.hid (show PInv l w b w.heap.size r9 F (l.length + 1) w4 from ⟨_, s, hend4, h94, hz4, F4.out, hFF, hN0⟩)
    have H9 := Lib.hid hr9
    clear hz3 hw4 f34 hz4 h94 hend hend4 hF hN0 hFF hr9 hs f3
    go_wp2_with fail
    rw [← HW4.out]
    simp only [H9.out]
    go_loopg [] (l.length + 1) (fun n wr => PInv l w b w.heap.size r9 F n wr ∧ Env wr)
    case atStart => exact ⟨HI.out, HE4.out⟩
    case round =>
      obtain ⟨⟨R, o, hend, h9, hz, hfr, hF, hN⟩, hEr⟩ := hrel
      have rz := rule4 hz
      have rq9 := rule4 h9
      have HEND := Lib.hid hend; have HZ := Lib.hid hz; have HH9 := Lib.hid h9; have HFR := Lib.hid hfr; have HER := Lib.hid hEr
      clear hend hz h9 hfr hEr
      have HF0 := Lib.hid hF; clear hF
      cases R with
      | inl z =>
        obtain ⟨a', h1, h2, h3⟩ := HEND.out
        have rr := rule4 h3
        have t1 : (z.1 == 0) = false := by simpa using h2
        have t2 : (z.1 != 0) = true := by simpa using h2
        have HFz := Lib.hid (HF0.out.symm : F = .inl z)
        have HRz := Lib.hid h3
        clear h1 h2 h3 hN
        have hne : w.heap.size ≠ b := by omega
        have HQ := Lib.hid (show RQ wr b (.int .i64 z.1) (.int .i64 z.2) from ⟨cell_at HRz.out rfl, cell_at HRz.out rfl⟩)
        have HQd := Lib.hid (show RQ wr.drew b (.int .i64 z.1) (.int .i64 z.2) from ⟨cell_at HRz.out rfl, cell_at HRz.out rfl⟩)
        have HZd := Lib.hid (show At4 wr.drew w.heap.size S4.zero from HZ.out)
        have FRd := Lib.hid HFR.out.drew
        go_wp2_with fail
        go_region_held3 (fun w' => RQ w' b (.int .i64 z.1) (.int .i64 z.2)) (repeat (first | (with_reducible exact HQ.out) | (with_reducible exact HQd.out) | (with_reducible refine RQ.set ?_ hne _) | (with_reducible refine RQ.drew ?_))) (fail)
        all_goals
          go_wp2
          (try simp only [Exit.inBlock, Exit.then])
          refine bodyPost_ret (results_set3 (s := S4.zero) rfl rfl rfl rfl (setFour_heap HZd.out _ _ _ _)) rfl ⟨?_, setFour_frS FRd.out (Nat.le_refl _) _ _ _ _⟩
          rw [HF.out, HFz.out]; rfl
      | inr x =>
        obtain ⟨o1, n0⟩ := x
        obtain ⟨hso, h3⟩ := HEND.out
        simp only at hso
        subst hso
        obtain ⟨hn0, hng⟩ := hN _ rfl
        simp only at hn0 hng h3 rq9
        obtain ⟨m, rfl⟩ : ∃ m, gk = m + 1 := ⟨gk - 1, by omega⟩
        have rr := rule4 h3
        have hnl : (n0 : Int) ≤ l.length := by omega
        have hn00 : (0 : Int) ≤ n0 := by omega
        have hwr : IntKind.i64.wrap ((n0 : Int) + 1) = (n0 : Int) + 1 := IntWalk.i64_in _ (by omega)
        obtain ⟨D, hD⟩ : ∃ d, [93].isPrefixOf (l.drop n0) = d := ⟨_, rfl⟩
        have hc1 := ahead_any b l [93] n0 0 0 wr (by omega) (by simp) hn0 h3
        rw [hD] at hc1
        have C1 := Lib.hid hc1; have HR := Lib.hid h3; have HD := Lib.hid hD
        clear hc1 h3 hD hN HEND
        cases D with
        | true =>
          have HFy := Lib.hid (show F = .inr (o, n0) by rw [← HF0.out]; exact lop_end (pre1.1 HD.out))
          go_wp2_with fail
          refine C1.out.mono ?_
          rintro e w5 ⟨rfl, f5⟩
          have HR5 := Lib.hid (HR.out.on f5); have HZ5 := Lib.hid (f5.heap HZ.out (fun x => x)); have H95 := Lib.hid (f5.heap HH9.out (fun x => x)); have F5 := Lib.hid (HFR.out.trans' f5)
          go_wp2_with fail
          refine (not_lit o w5).mono ?_
          obtain ⟨N, hNo⟩ : ∃ N, o.not = N := ⟨_, rfl⟩
          rw [hNo]
          rintro e w6 ⟨rfl, f6⟩
          obtain ⟨w7, hw7⟩ : ∃ w7, w7 = (((w6.setCell ⟨r9, 0, none⟩ (.int .u64 N.a)).setCell ⟨r9, 1, none⟩ (.int .u64 N.b)).setCell ⟨r9, 2, none⟩ (.int .u64 N.c)).setCell ⟨r9, 3, none⟩ (.int .u64 N.d) := ⟨_, rfl⟩
          have h97 : At4 w7 r9 N := by rw [hw7]; exact setFour_heap (f6.heap H95.out (fun x => x)) _ _ _ _
          have hr7 : Rd w7 b l n0 0 0 := by rw [hw7]; exact setFour_old (HR5.out.on f6) (by omega) _ _ _ _
          have hz7 : At4 w7 w.heap.size S4.zero := by rw [hw7]; exact setFour_old (f6.heap HZ5.out (fun x => x)) (by omega) _ _ _ _
          have F7 := Lib.hid (show Fr nob w w7 by rw [hw7]; exact setFour_frS (F5.out.trans' f6) (by omega) _ _ _ _)
          have HNo := Lib.hid hNo
          have HW7 := Lib.hid hw7
          have rn6 := rule4 (f6.heap H95.out (fun x => x))
          clear hNo hw7
          go_wp2_with fail
          rw [← HW7.out]
          have rr7 := rule4 hr7
          have rn7 := rule4 h97
          have rz7 := rule4 hz7
          have HZ7 := Lib.hid hz7; have HR7 := Lib.hid hr7; have H97 := Lib.hid h97
          clear hr7 h97 hz7
          have hne : w.heap.size ≠ b := by omega
          have hne9 : w.heap.size ≠ r9 := by omega
          have HQ7 := Lib.hid (show RA w7 b (.int .i64 n0) r9 N from ⟨cell_at HR7.out rfl, Q4.of H97.out⟩)
          have HQ7d := Lib.hid (show RA (World.drew w7) b (.int .i64 n0) r9 N from ⟨cell_at HR7.out rfl, Q4.of H97.out⟩)
          have HZd := Lib.hid (show At4 (World.drew w7) w.heap.size S4.zero from HZ7.out)
          have FRd := Lib.hid (Fr.drew F7.out)
          go_region_held3 (fun w' => RA w' b (.int .i64 n0) r9 N) (repeat (first | (with_reducible exact HQ7.out) | (with_reducible exact HQ7d.out) | (with_reducible refine RA.set ?_ hne hne9 _) | (with_reducible refine RA.drew ?_))) (fail)
          all_goals
            go_wp2
            (try simp only [Exit.inBlock, Exit.then])
            refine bodyPost_ret (results_set3 (s := N) rfl rfl rfl rfl (setFour_heap HZd.out _ _ _ _)) rfl ⟨?_, setFour_frS FRd.out (Nat.le_refl _) _ _ _ _⟩
            rw [HF.out, HFy.out]
            rw [← HNo.out]; rfl
        | false =>
          have hne : l[n0]? ≠ some 93 := fun e => by rw [pre1.2 e] at HD; exact absurd HD.out (by simp)
          have HFn := Lib.hid (show lopF l m (orF o (prt l n0)) = F by rw [← HF0.out]; exact (lop_go hne).symm)
          have HNn := Lib.hid (show lopN l m (orF o (prt l n0)) from lopN_go (by omega))
          clear hne
          go_wp2_with fail
          refine C1.out.mono ?_
          rintro e w5 ⟨rfl, f5⟩
          have HR5 := Lib.hid (HR.out.on f5.drew); have HZ5 := Lib.hid (f5.drew.heap HZ.out (fun x => x)); have H95 := Lib.hid (f5.drew.heap HH9.out (fun x => x)); have F5 := Lib.hid (HFR.out.trans' f5.drew); have HE5 := Lib.hid (HER.out.on f5.drew)
          have HQ5 := Lib.hid (Q4.of (f5.heap HH9.out (fun x => x))); have HQ5d := Lib.hid (Q4.of H95.out)
          go_wp2_with fail
          go_region_with (first | (go_at_call 131; (refine (part_any b l n0 0 w5.drew hl hn0 hb2 HE5.out HR5.out).mono ?_); rintro e w6 ⟨s', rfl, hs', f6, hend6⟩; have H96 := Lib.hid (f6.heap H95.out (fun e => by omega)); have HQ6 := Lib.hid (Q4.of H96.out); have HZ6 := Lib.hid (f6.heap HZ5.out (fun e => by omega)); have HE6 := Lib.hid (HE5.out.on2 f6 hb2); have F6 := Lib.hid (F5.out.trans f6 (fun i hi e => by omega)); have HEND6 := Lib.hid (hend6.or (t := o)); have rn6 := rule4 H96.out; clear f6 hend6) | (go_at_call 132; (refine (or_lit o s' w6).mono ?_); obtain ⟨N, hNo⟩ : ∃ N, o.or s' = N := ⟨_, rfl⟩; rw [hNo] at HEND6 ⊢; rintro e w7 ⟨rfl, f7⟩; have H97 := Lib.hid (f7.heap H96.out (fun x => x)); have HQ7 := Lib.hid (Q4.of H97.out); have HZ7 := Lib.hid (f7.heap HZ6.out (fun x => x)); have HE7 := Lib.hid (HE6.out.on f7); have F7 := Lib.hid (F6.out.trans' f7); have HEND7 := Lib.hid (HEND6.out.to (w' := w7) (fun x r q h => h.on f7)); have rn7 := rule4 H97.out; clear f7))
          all_goals
            have hfin := HFn.out
            have hfn := HNn.out
            obtain ⟨w8, hw8⟩ : ∃ w8, w8 = (((w7.setCell ⟨r9, 0, none⟩ (.int .u64 N.a)).setCell ⟨r9, 1, none⟩ (.int .u64 N.b)).setCell ⟨r9, 2, none⟩ (.int .u64 N.c)).setCell ⟨r9, 3, none⟩ (.int .u64 N.d) := ⟨_, rfl⟩
            have HI8 := Lib.hid (show PInv l w b w.heap.size r9 F m w8 ∧ Env w8 by
              rw [hw8]
              refine ⟨⟨_, N, HEND7.out.to (fun x r q h => setFour_old h (by omega) _ _ _ _), setFour_heap H97.out _ _ _ _, setFour_old HZ7.out (by omega) _ _ _ _, setFour_frS F7.out (by omega) _ _ _ _, hfin, hfn⟩, HE7.out.on2 (setFour_one _ _ _ _ _ _) (by omega)⟩)
            have HW8 := Lib.hid hw8
            clear hw8 hfin hfn
            go_wp2_with fail
            rw [← HW8.out]
            go_roundg m
            case measure => omega
            case rel => exact HI8.out
  | false =>
    have HD0 := Lib.hid hd0; clear hd0
    go_enter Tryz.func114, Tryz.ntmps114
    go_wp2_with fail
    rw [← HW0.out]
    simp only [HBB.out]
    refine (C0.out w0 (Fr.refl _ _)).mono ?_
    rintro e w1 ⟨rfl, f1⟩
    have HR1 := Lib.hid (HR0.out.on f1); have HZ1 := Lib.hid (f1.heap HZ0.out (fun x => x)); have FW1 := Lib.hid (FW0.out.trans' f1); have HE1 := Lib.hid (HE0.out.on f1)
    clear f1
    obtain ⟨w2, hw2⟩ : ∃ w2, w2 = w1 := ⟨_, rfl⟩
    rw [← hw2] at HR1 HZ1 FW1 HE1
    have HR2 := HR1; have HZ2 := HZ1; have FW2 := FW1; have HE2 := HE1
    go_wp2_with fail
    rw [← hw2]
    clear hw2
    refine (part_any b l (a) 0 w2 hl ha hb2 HE2.out HR2.out).mono ?_
    rintro e w3 ⟨s, rfl, hs, f3, hend⟩
    have hz3 := f3.heap HZ2.out (fun e => by omega)
    obtain ⟨w4, hw4⟩ : ∃ w4, w4 = w3.alloc (.cells #[.int .u64 s.a, .int .u64 s.b, .int .u64 s.c, .int .u64 s.d] 27) := ⟨_, rfl⟩
    have f34 : Fr nob w3 w4 := by rw [hw4]; exact (Fr.refl _ _).alloc _
    have hbw2 := lt_heap HR2.out
    have hz4 := f34.heap hz3 (fun x => x)
    have hlz4 := lt_heap hz3
    obtain ⟨r9, hr9⟩ : ∃ r, w3.heap.size = r := ⟨_, rfl⟩
    have h94 : At4 w4 r9 s := by rw [hw4, ← hr9]; exact newAt _ _
    have hb9 : b < r9 := by rw [← hr9]; exact Nat.lt_of_lt_of_le hbw2 f3.size
    have F4 := Lib.hid ((FW2.out.trans f3 (fun i hi e => by omega)).trans' f34)
    have HE4 := Lib.hid ((HE2.out.on2 f3 hb2).on f34)
    have hend4 := hend.to (w' := w4) (fun x r q h => h.on f34)
    have hF : prs l a = prsNot _ (lopF l (l.length + 1) (prt l (a))) := prs_no HD0.out
    have hN0 : lopN l (l.length + 1) (prt l (a)) := fun x hx => by
      have := prt_next hx; exact ⟨this.2.1, by omega⟩
    obtain ⟨F, hFF⟩ : ∃ F, lopF l (l.length + 1) (prt l (a)) = F := ⟨_, rfl⟩
    rw [hFF] at hF
    have HF := Lib.hid hF; have HW4 := Lib.hid hw4
    have HI := Lib.hid (show PInv l w b w.heap.size r9 F (l.length + 1) w4 from ⟨_, s, hend4, h94, hz4, F4.out, hFF, hN0⟩)
    have H9 := Lib.hid hr9
    clear hz3 hw4 f34 hz4 h94 hend hend4 hF hN0 hFF hr9 hs f3
    go_wp2_with fail
    rw [← HW4.out]
    simp only [H9.out]
    go_loopg [] (l.length + 1) (fun n wr => PInv l w b w.heap.size r9 F n wr ∧ Env wr)
    case atStart => exact ⟨HI.out, HE4.out⟩
    case round =>
      obtain ⟨⟨R, o, hend, h9, hz, hfr, hF, hN⟩, hEr⟩ := hrel
      have rz := rule4 hz
      have rq9 := rule4 h9
      have HEND := Lib.hid hend; have HZ := Lib.hid hz; have HH9 := Lib.hid h9; have HFR := Lib.hid hfr; have HER := Lib.hid hEr
      clear hend hz h9 hfr hEr
      have HF0 := Lib.hid hF; clear hF
      cases R with
      | inl z =>
        obtain ⟨a', h1, h2, h3⟩ := HEND.out
        have rr := rule4 h3
        have t1 : (z.1 == 0) = false := by simpa using h2
        have t2 : (z.1 != 0) = true := by simpa using h2
        have HFz := Lib.hid (HF0.out.symm : F = .inl z)
        have HRz := Lib.hid h3
        clear h1 h2 h3 hN
        have hne : w.heap.size ≠ b := by omega
        have HQ := Lib.hid (show RQ wr b (.int .i64 z.1) (.int .i64 z.2) from ⟨cell_at HRz.out rfl, cell_at HRz.out rfl⟩)
        have HQd := Lib.hid (show RQ wr.drew b (.int .i64 z.1) (.int .i64 z.2) from ⟨cell_at HRz.out rfl, cell_at HRz.out rfl⟩)
        have HZd := Lib.hid (show At4 wr.drew w.heap.size S4.zero from HZ.out)
        have FRd := Lib.hid HFR.out.drew
        go_wp2_with fail
        go_region_held3 (fun w' => RQ w' b (.int .i64 z.1) (.int .i64 z.2)) (repeat (first | (with_reducible exact HQ.out) | (with_reducible exact HQd.out) | (with_reducible refine RQ.set ?_ hne _) | (with_reducible refine RQ.drew ?_))) (fail)
        all_goals
          go_wp2
          (try simp only [Exit.inBlock, Exit.then])
          refine bodyPost_ret (results_set3 (s := S4.zero) rfl rfl rfl rfl (setFour_heap HZd.out _ _ _ _)) rfl ⟨?_, setFour_frS FRd.out (Nat.le_refl _) _ _ _ _⟩
          rw [HF.out, HFz.out]; rfl
      | inr x =>
        obtain ⟨o1, n0⟩ := x
        obtain ⟨hso, h3⟩ := HEND.out
        simp only at hso
        subst hso
        obtain ⟨hn0, hng⟩ := hN _ rfl
        simp only at hn0 hng h3 rq9
        obtain ⟨m, rfl⟩ : ∃ m, gk = m + 1 := ⟨gk - 1, by omega⟩
        have rr := rule4 h3
        have hnl : (n0 : Int) ≤ l.length := by omega
        have hn00 : (0 : Int) ≤ n0 := by omega
        have hwr : IntKind.i64.wrap ((n0 : Int) + 1) = (n0 : Int) + 1 := IntWalk.i64_in _ (by omega)
        obtain ⟨D, hD⟩ : ∃ d, [93].isPrefixOf (l.drop n0) = d := ⟨_, rfl⟩
        have hc1 := ahead_any b l [93] n0 0 0 wr (by omega) (by simp) hn0 h3
        rw [hD] at hc1
        have C1 := Lib.hid hc1; have HR := Lib.hid h3; have HD := Lib.hid hD
        clear hc1 h3 hD hN HEND
        cases D with
        | true =>
          have HFy := Lib.hid (show F = .inr (o, n0) by rw [← HF0.out]; exact lop_end (pre1.1 HD.out))
          go_wp2_with fail
          refine C1.out.mono ?_
          rintro e w5 ⟨rfl, f5⟩
          have HR5 := Lib.hid (HR.out.on f5); have HZ5 := Lib.hid (f5.heap HZ.out (fun x => x)); have H95 := Lib.hid (f5.heap HH9.out (fun x => x)); have F5 := Lib.hid (HFR.out.trans' f5)
          go_wp2_with fail
          have rr7 := rule4 HR5.out
          have rn7 := rule4 H95.out
          have rz7 := rule4 HZ5.out
          have HZ7 := HZ5; have F7 := F5; have HR7 := HR5; have H97 := H95
          have hne : w.heap.size ≠ b := by omega
          have hne9 : w.heap.size ≠ r9 := by omega
          have HQ7 := Lib.hid (show RA w5 b (.int .i64 n0) r9 o from ⟨cell_at HR7.out rfl, Q4.of H97.out⟩)
          have HQ7d := Lib.hid (show RA (World.drew w5) b (.int .i64 n0) r9 o from ⟨cell_at HR7.out rfl, Q4.of H97.out⟩)
          have HZd := Lib.hid (show At4 (World.drew w5) w.heap.size S4.zero from HZ7.out)
          have FRd := Lib.hid (Fr.drew F7.out)
          go_region_held3 (fun w' => RA w' b (.int .i64 n0) r9 o) (repeat (first | (with_reducible exact HQ7.out) | (with_reducible exact HQ7d.out) | (with_reducible refine RA.set ?_ hne hne9 _) | (with_reducible refine RA.drew ?_))) (fail)
          all_goals
            go_wp2
            (try simp only [Exit.inBlock, Exit.then])
            refine bodyPost_ret (results_set3 (s := o) rfl rfl rfl rfl (setFour_heap HZd.out _ _ _ _)) rfl ⟨?_, setFour_frS FRd.out (Nat.le_refl _) _ _ _ _⟩
            rw [HF.out, HFy.out]
            rfl
        | false =>
          have hne : l[n0]? ≠ some 93 := fun e => by rw [pre1.2 e] at HD; exact absurd HD.out (by simp)
          have HFn := Lib.hid (show lopF l m (orF o (prt l n0)) = F by rw [← HF0.out]; exact (lop_go hne).symm)
          have HNn := Lib.hid (show lopN l m (orF o (prt l n0)) from lopN_go (by omega))
          clear hne
          go_wp2_with fail
          refine C1.out.mono ?_
          rintro e w5 ⟨rfl, f5⟩
          have HR5 := Lib.hid (HR.out.on f5.drew); have HZ5 := Lib.hid (f5.drew.heap HZ.out (fun x => x)); have H95 := Lib.hid (f5.drew.heap HH9.out (fun x => x)); have F5 := Lib.hid (HFR.out.trans' f5.drew); have HE5 := Lib.hid (HER.out.on f5.drew)
          have HQ5 := Lib.hid (Q4.of (f5.heap HH9.out (fun x => x))); have HQ5d := Lib.hid (Q4.of H95.out)
          go_wp2_with fail
          go_region_with (first | (go_at_call 131; (refine (part_any b l n0 0 w5.drew hl hn0 hb2 HE5.out HR5.out).mono ?_); rintro e w6 ⟨s', rfl, hs', f6, hend6⟩; have H96 := Lib.hid (f6.heap H95.out (fun e => by omega)); have HQ6 := Lib.hid (Q4.of H96.out); have HZ6 := Lib.hid (f6.heap HZ5.out (fun e => by omega)); have HE6 := Lib.hid (HE5.out.on2 f6 hb2); have F6 := Lib.hid (F5.out.trans f6 (fun i hi e => by omega)); have HEND6 := Lib.hid (hend6.or (t := o)); have rn6 := rule4 H96.out; clear f6 hend6) | (go_at_call 132; (refine (or_lit o s' w6).mono ?_); obtain ⟨N, hNo⟩ : ∃ N, o.or s' = N := ⟨_, rfl⟩; rw [hNo] at HEND6 ⊢; rintro e w7 ⟨rfl, f7⟩; have H97 := Lib.hid (f7.heap H96.out (fun x => x)); have HQ7 := Lib.hid (Q4.of H97.out); have HZ7 := Lib.hid (f7.heap HZ6.out (fun x => x)); have HE7 := Lib.hid (HE6.out.on f7); have F7 := Lib.hid (F6.out.trans' f7); have HEND7 := Lib.hid (HEND6.out.to (w' := w7) (fun x r q h => h.on f7)); have rn7 := rule4 H97.out; clear f7))
          all_goals
            have hfin := HFn.out
            have hfn := HNn.out
            obtain ⟨w8, hw8⟩ : ∃ w8, w8 = (((w7.setCell ⟨r9, 0, none⟩ (.int .u64 N.a)).setCell ⟨r9, 1, none⟩ (.int .u64 N.b)).setCell ⟨r9, 2, none⟩ (.int .u64 N.c)).setCell ⟨r9, 3, none⟩ (.int .u64 N.d) := ⟨_, rfl⟩
            have HI8 := Lib.hid (show PInv l w b w.heap.size r9 F m w8 ∧ Env w8 by
              rw [hw8]
              refine ⟨⟨_, N, HEND7.out.to (fun x r q h => setFour_old h (by omega) _ _ _ _), setFour_heap H97.out _ _ _ _, setFour_old HZ7.out (by omega) _ _ _ _, setFour_frS F7.out (by omega) _ _ _ _, hfin, hfn⟩, HE7.out.on2 (setFour_one _ _ _ _ _ _) (by omega)⟩)
            have HW8 := Lib.hid hw8
            clear hw8 hfin hfn
            go_wp2_with fail
            rw [← HW8.out]
            go_roundg m
            case measure => omega
            case rel => exact HI8.out

end Go.Proofs.YtlchaocpejfikaaGreatDoor

/-
  Both Parses, whatever the place; the fixed fact of chapter 2.
-/
namespace Go.Proofs.YtlchaocpejfikaaGreatDoor
open Go.RowKit

/-- What Parse answers, whatever the place. -/
def prz (l : List UInt8) (a : Int) : (Int × Nat) ⊕ (S4 × Nat) := if a < 0 ∨ (l.length : Int) < a then .inl (1, 0) else prs l a.toNat
theorem prz_out {l : List UInt8} {a : Int} (h : a < 0 ∨ (l.length : Int) < a) : prz l a = .inl (1, 0) := if_pos h
theorem prz_in {l : List UInt8} {a : Nat} (h : a ≤ l.length) : prz l a = prs l a := by unfold prz; rw [if_neg (by omega)]; rfl

theorem parse_all (l : List UInt8) (a : Int) (w : World) (hl : l.length ≤ 100000) (hE : Env w) :
    Calls Tryz.prog 114 #[.string ⟨l.toArray⟩, .int .i64 a] w fun e w' => e = .returned (prsV (prz l a)) ∧ Fr nob w w' := by
  by_cases h : a < 0 ∨ (l.length : Int) < a
  · rw [prz_out h]; exact parse_out l a w h
  · obtain ⟨n, rfl⟩ : ∃ n : Nat, a = n := ⟨a.toNat, by omega⟩
    rw [prz_in (by omega)]
    exact parse_any l n w hl (by omega) hE

theorem prs_awake1 : ∃ N, prs [94, 97, 45, 93] 0 = .inr (N, 4) ∧ N.fit ∧ N.len = 254 ∧ N.has 45 = false := by
  refine ⟨((spn 97 97).or (spn 45 45)).not, by decide +kernel, fit_not _, by decide +kernel, by decide +kernel⟩
theorem prs_awake2 : prs [91, 58, 100, 105, 103, 105, 116, 58, 93, 45, 122, 93] 0 = .inl (1, 0) := by decide +kernel

end Go.Proofs.YtlchaocpejfikaaGreatDoor

/-
  What is no regex of either kind is told by an error other than nought.
-/
namespace Go.Proofs.YtlchaocpejfikaaGreatDoor
open Go.RowKit

section
variable {α : Type} {A : Alg α} {ere : Bool} {l : List UInt8}
theorem repD_err : ∀ (n : Nat) (s : RxS) (t : α) (z : Int × Nat), repD A ere l n s t = .inl z → z.1 ≠ 0
  | 0, s, t, z, h => by rw [repD] at h; cases h
  | n + 1, s, t, z, h => by
    rw [repD] at h
    split at h
    · exact repD_err n _ _ z h
    · split at h
      · exact repD_err n _ _ z h
      · split at h
        · exact repD_err n _ _ z h
        · split at h
          · split at h
            · injection h with h; subst h; simp
            · exact repD_err n _ _ z h
          · cases h
variable {C : Option (RxS → Out α)} (hC : ∀ f, C = some f → ∀ s z, f s = .inl z → z.1 ≠ 0)
include hC
theorem groupD_err {s : RxS} {z : Int × Nat} (h : groupD A ere l C s = .inl z) : z.1 ≠ 0 := by
  unfold groupD at h
  cases C with
  | none => injection h with h; subst h; simp
  | some f =>
    simp only at h
    cases hf : f { s.go (opB ere 40).length with opened := s.opened + 1 } with
    | inl e => rw [hf] at h; injection h with h; subst h; exact hC f rfl _ _ hf
    | inr y =>
      rw [hf] at h; simp only at h
      split at h
      · cases h
      · injection h with h; subst h; simp
theorem atomD_err {s : RxS} {z : Int × Nat} (h : atomD A ere l C s = .inl z) : z.1 ≠ 0 := by
  unfold atomD at h
  split at h
  · exact groupD_err hC h
  · split at h
    · injection h with h; subst h; simp
    · split at h
      · split at h
        · next e p hp => injection h with h; subst h; exact prs_err hp
        · cases h
      · split at h
        · cases h
        · split at h
          · injection h with h; subst h; simp
          · split at h
            · injection h with h; subst h; simp
            · cases h
            · unfold escD at h
              split at h
              · split at h
                · cases h
                · injection h with h; subst h; simp
              · split at h
                · injection h with h; subst h; simp
                · cases h
theorem brD_err {inner : Bool} : ∀ (n : Nat) (first front : Bool) (s : RxS) (ps : List α) (z : Int × Nat), brD A ere l C inner n first front s ps = .inl z → z.1 ≠ 0
  | 0, first, front, s, ps, z, h => by rw [brD] at h; cases h
  | n + 1, first, front, s, ps, z, h => by
    rw [brD] at h
    split at h
    · cases h
    · split at h
      · exact brD_err n _ _ _ _ z h
      · split at h
        · exact brD_err n _ _ _ _ z h
        · split at h
          · injection h with h; subst h; simp
          · split at h
            · next e he => injection h with h; subst h; exact atomD_err hC he
            · split at h
              · next e he => injection h with h; subst h; exact repD_err _ _ _ _ he
              · exact brD_err n _ _ _ _ z h
theorem loopD_err {inner : Bool} : ∀ (n : Nat) (s : RxS) (ts : List α) (z : Int × Nat), chLoopD A ere l C inner n s ts = .inl z → z.1 ≠ 0
  | 0, s, ts, z, h => by rw [chLoopD] at h; cases h
  | n + 1, s, ts, z, h => by
    rw [chLoopD] at h
    split at h
    · split at h
      · next e he => injection h with h; subst h; exact brD_err hC _ _ _ _ _ _ he
      · exact loopD_err n _ _ z h
    · cases h
theorem choiceD_err {inner : Bool} {s : RxS} {z : Int × Nat} (h : choiceD A ere l C inner s = .inl z) : z.1 ≠ 0 := by
  unfold choiceD at h
  split at h
  · next e he => injection h with h; subst h; exact brD_err hC _ _ _ _ _ _ he
  · exact loopD_err hC _ _ _ _ h
end
theorem chD_err {α : Type} {A : Alg α} {ere : Bool} {l : List UInt8} : ∀ (n : Nat) (s : RxS) (z : Int × Nat), chD A ere l n s = .inl z → z.1 ≠ 0
  | 0, s, z, h => by rw [chD] at h; exact choiceD_err (fun f hf => by cases hf) h
  | n + 1, s, z, h => by rw [chD] at h; exact choiceD_err (fun f hf s z hz => by injection hf with hf; subst hf; exact chD_err n s z hz) h
theorem parseD_err {α : Type} {A : Alg α} {ere : Bool} {l : List UInt8} {z : Int × Nat} (h : parseD A ere l = .inl z) : z.1 ≠ 0 := by
  unfold parseD at h
  split at h
  · injection h with h; subst h; simp
  · exact chD_err _ _ _ h
end Go.Proofs.YtlchaocpejfikaaGreatDoor

/-
  The three tables of chapter 6's rows out of a row's condition; a world in which they lie. (A seat of three tables: instead of Door.)
-/
namespace Go.Proofs.YtlchaocpejfikaaGreatDoor
open Go.ChangeShapes Go.WideShapes Go.ChangeAt Go.RowKit

namespace door
theorem own : ownKnob Tryz.prog.godebug = none := by kernel_rfl
theorem laidOut : laidOutB Tryz.prog = true := by kernel_rfl
theorem gTab : Tryz.prog.globalNamed "math/bits.deBruijn64tab" = some 0 := by kernel_rfl
theorem tTab : (Tryz.prog.globals[0]?).map (·.type) = some 155 := by kernel_rfl
abbrev list1 : List (String × DataW Unit) := [("math/bits.deBruijn32tab", Rows.laid_math_bits_deBruijn32tab), ("math/bits.deBruijn64tab", Rows.laid_math_bits_deBruijn64tab), ("internal/strconv.uint64pow10", Rows.laid_internal_strconv_uint64pow10)]
theorem d64_eq : (Rows.laid_math_bits_deBruijn64tab : DataW Unit) = Lib.tabData .u8 (Lib.deBruijn64tab.map Int.ofNat) := by kernel_rfl
theorem p10_eq : (Rows.laid_internal_strconv_uint64pow10 : DataW Unit) = Lib.tabData .u64 Lib.pow10Tab := by kernel_rfl
theorem tab_len : (Lib.deBruijn64tab.map Int.ofNat).length = 64 := by decide
theorem met (os : Os) (args : Array Value) : laidMetH Tryz.prog list1 ((World.doorLaid Tryz.prog 14 os).forCall (fun _ _ => 0) ⟨#[], args, []⟩).memory :=
  laidMetH_of_parts3 (fuel := 8) (laidMet_of_run' 8 (by kernel_rfl) (by kernel_rfl)) (by kernel_rfl) (by kernel_rfl)
theorem parts {W : World} (h : laidMetH Tryz.prog list1 W) : Lib.TabIs Tryz.prog W "math/bits.deBruijn64tab" .u8 (Lib.deBruijn64tab.map Int.ofNat) ∧ Lib.TabIs Tryz.prog W "internal/strconv.uint64pow10" .u64 Lib.pow10Tab := by
  rw [MakeChecks.laidMetH_plain _ _ _ (by kernel_rfl)] at h
  unfold list1 at h
  rw [d64_eq, p10_eq] at h
  have h1 := laidMet.tail h
  have h2 := laidMet.tail h1
  exact ⟨Lib.tabIs_of_head (P := Tryz.prog) (W := W) (t := 155) (e := 5) (n := 64) gTab tTab Tryz.underlying155 Tryz.underlying5 (by kernel_rfl) (by kernel_rfl) h1,
    Lib.tabIs_of_head (P := Tryz.prog) (W := W) (g := 1) (t := 197) (e := 22) (n := 20) (by kernel_rfl) (by kernel_rfl) Tryz.underlying197 Tryz.underlying22 (by kernel_rfl) (by kernel_rfl) h2⟩
theorem tab {W : World} (h : laidMetH Tryz.prog list1 W) : Tab W := by
  have ht := (parts h).1
  intro j hj
  have hc := ht.cell gTab j (by rw [tab_len]; exact hj)
  rw [hc]
  congr 2
  have hl : j < Lib.deBruijn64tab.length := by have := tab_len; simp at this; omega
  simp [hl]
theorem p10 {W : World} (h : laidMetH Tryz.prog list1 W) : P10 W := by
  have ht := (parts h).2
  unfold Lib.TabIs World.var? at ht
  rw [show Tryz.prog.globalNamed "internal/strconv.uint64pow10" = some 1 by kernel_rfl] at ht
  simp only [Option.bind_some] at ht
  split at ht
  · next cs T fr e => injection ht with ht; subst ht; exact ⟨T, fr, e⟩
  · cases ht
end door
end Go.Proofs.YtlchaocpejfikaaGreatDoor

/-
  A law's row that lists laid variables, with the world's shape for the walk; what the library's variables hold then.
-/
namespace Go.Proofs.YtlchaocpejfikaaGreatDoor
open Go.ChangeShapes Go.WideShapes Go.ChangeAt Go.RowKit
variable {H : Type} {enc : TypeId × Value → H}

theorem returns_door {a : Assume} {C : Checked} {os : Os} {f : FuncId} {fn : Func} {s : ChangeSpec} {conds : List PathCond} {apart fresh handsOn again : Bool} {X : World → Array Value → Prop}
    (hX : ∀ (w w' : World) (args : Array Value), w.heap = w'.heap → X w args → X w' args)
    (own : ownKnob C.prog.godebug = none) (started : os.Started) (noInit : C.prog.inits.idxOf? f = none) (hfn : C.prog.funcs[f]? = some fn)
    (witness : ∃ (w : World) (tape : Tape) (i : Input), w.os = os ∧ (w.forCall tape i).Shaped C.prog ∧ i.vars = [] ∧ Input.okWide C.prog (w.forCall tape i) .any w.heap.size f i ∧
      ((s.pre enc C.prog fn conds apart (w.forCall tape i).memory i.args ∧ X (w.forCall tape i).memory i.args) ∧ sizedMet enc C.prog fn (OpenSpec.ofChange s) apart (w.forCall tape i).memory i.args) ∧ a.holds C.prog (lone (Frame.enter C.prog f i.args .normal) [] (w.forCall tape i)))
    (contract : ∀ (W : World) (base : Nat) (args : Array Value) (ds gs : List (DataW H)) (before : List MemPlace),
      (∀ (j : Nat) t v, fn.params[j]? = some t → args[j]? = some v → Value.okWide C.prog W .any base t v) →
      DataW.Whole enc C.prog fn.params.toList s.vars apart W args.toList ds gs before →
      (DataW.weightsEach C.prog (fn.params.toList ++ s.plain.varTypes C.prog) (ds ++ gs)).all (· ≤ reachBytes) = true → X W args → W.ShapedOpen C.prog →
      Calls C.prog f args W fun e W' => ∃ v, e = .returned v ∧ s.post enc C.prog fn apart fresh handsOn again W args v W') :
    ReturnsInHanded a C os f .any (fun w args => (s.pre enc C.prog fn conds apart w args ∧ X w args) ∧ sizedMet enc C.prog fn (OpenSpec.ofChange s) apart w args) (s.post enc C.prog fn apart fresh handsOn again) := by
  refine returnsInHanded_of_calls own started noInit witness ?_
  intro w tape i _ hsh _ hok hpre _
  obtain ⟨_, _, _, fn', hfn', _, _, _, _, hval⟩ := hok
  obtain rfl : fn' = fn := Option.some.inj (hfn'.symm.trans hfn)
  obtain ⟨⟨⟨ds, gs, before, hw, _⟩, hx⟩, hz⟩ := hpre
  refine (contract (w.forCall tape i) w.heap.size i.args ds gs before hval (DataW.Whole.of_heap (w' := w.forCall tape i) (by rfl) hw) (hz.weights hw) (hX _ _ _ (by rfl) hx) hsh).mono fun e W' ⟨v, he, hp⟩ => ?_
  subst he
  exact ChangeSpec.post_blind hp

theorem door.env0 {W : World} (h : laidMetH Tryz.prog door.list1 W) (hs : W.ShapedOpen Tryz.prog) : Env W :=
  ⟨door.tab h, cell_of_shapedOpen_int (zero := #[.int .i64 0]) (t := 3) (k := .i64) hs (of_decide_eq_true (by kernel_rfl)) (by kernel_rfl) rfl (by kernel_rfl) (by kernel_rfl) Tryz.underlying3⟩

/-- What a law of chapter 6 is given. -/
def Env6 (w : World) : Prop := Env w ∧ P10 w
theorem door.env {W : World} (h : laidMetH Tryz.prog door.list1 W) (hs : W.ShapedOpen Tryz.prog) : Env6 W := ⟨door.env0 h hs, door.p10 h⟩
end Go.Proofs.YtlchaocpejfikaaGreatDoor
