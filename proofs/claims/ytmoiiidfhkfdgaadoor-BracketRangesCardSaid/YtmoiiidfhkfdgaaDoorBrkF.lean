/-
  Walks of package bracket: part.
-/
import Derived.Test.YtmoiiidfhkfdgaaDoorBrkE
import Derived.Test.YtmoiiidfhkfdgaaDoorOctetS
namespace Go.Proofs.YtmoiiidfhkfdgaaDoor
open Go.RowKit

open Classical in
/-- A set's least byte, or 0. -/
noncomputable def lst (s : S4) : Nat := if h : ∃ d b, LeastIs s d b then h.choose else 0
theorem lst_is {s : S4} {d : Nat} {b : Bool} (h : LeastIs s d b) : lst s = d := by
  have hx : ∃ d b, LeastIs s d b := ⟨d, b, h⟩
  unfold lst; rw [dif_pos hx]
  obtain ⟨b', hb⟩ := hx.choose_spec
  exact (hb.uniq h).1
theorem lst_lt (s : S4) : lst s < 256 := by
  unfold lst
  split
  · next h =>
    obtain ⟨b, hb⟩ := h.choose_spec
    rcases hb with ⟨_, h0, _⟩ | ⟨_, h0, _⟩ <;> omega
  · omega
theorem lst_one {c : Nat} (h : c < 256) : lst (spn c c) = c :=
  lst_is (b := true) (.inr ⟨rfl, h, by rw [has_spn _ _ _ h h h]; simp, fun e he => by rw [has_spn _ _ _ h h (by omega)]; simp; omega⟩)
theorem itLeast_fix (s : S4) (o : Bool) (w : World) (hs : s.fit) (hT : Tab w) :
    Calls Tryd.prog 28 #[itV s o] w fun e w' => e = .returned (.int .u8 (lst s)) ∧ Fr nob w w' := by
  refine (itLeast_any s o w hs hT).mono ?_
  rintro e w' ⟨d, b, rfl, h, _, f⟩
  rw [lst_is h]
  exact ⟨rfl, f⟩
theorem span_lit (a b : Nat) (w : World) (ha : a < 256) (hb : b < 256) : Calls Tryd.prog 14 #[.int .u8 a, .int .u8 b] w fun e w' => e = .returned (setV (spn a b)) ∧ Fr nob w w' := span_any a b w ha hb

abbrev PtEnd (b : Nat) (l : List UInt8) (p : Int) (s : S4) (R : (Int × Nat) ⊕ (S4 × Nat)) (w' : World) : Prop := match R with
    | .inr x => s = x.1 ∧ Rd w' b l x.2 0 p
    | .inl z => ∃ a' : Nat, a' ≤ l.length ∧ z.1 ≠ 0 ∧ Rd w' b l a' z.1 z.2
def PtAns (b : Nat) (l : List UInt8) (p : Int) (R : (Int × Nat) ⊕ (S4 × Nat)) (w : World) (e : Ending) (w' : World) : Prop :=
  ∃ s, e = .returned (setV s) ∧ s.fit ∧ Fr (fun k => k = b) w w' ∧ PtEnd b l p s R w'

theorem rng_iff (l : List UInt8) (k : Nat) : rng l k = (decide (k + 1 < l.length) && [45].isPrefixOf (l.drop k) && !([45, 93].isPrefixOf (l.drop k))) := by
  unfold rng
  have e1 : ([45].isPrefixOf (l.drop k)) = (l[k]? == some 45) := by
    rw [Bool.eq_iff_iff, pre1]; simp
  have e2 : ([45, 93].isPrefixOf (l.drop k)) = ((l[k]? == some 45) && (l[k + 1]? == some 93)) := by
    have := occ2 l k 0 45
    rw [Bool.eq_iff_iff]
    simp only [Bool.and_eq_true, beq_iff_eq]
    unfold Lib.occAt at this
    simpa using this
  rw [e1, e2]
  cases decide (k + 1 < l.length) <;> cases (l[k]? == some 45) <;> cases (l[k + 1]? == some 93) <;> rfl

theorem fail_any (b : Nat) (l : List UInt8) (a r p e q : Int) (w : World) (h : Rd w b l a r p) :
    Calls Tryd.prog 29 #[.pointer (some ⟨b, 0, none⟩), .int .i64 e, .int .i64 q] w fun x w' => x = .returned (.tuple #[]) ∧ Rd w' b l a (if r = 0 then e else r) (if r = 0 then q else p) ∧ Fr (fun k => k = b) w w' := by
  by_cases hr : r = 0
  · subst hr
    simp only [if_true]
    exact fail_ok b l a p e q w h
  · rw [if_neg hr, if_neg hr]
    refine (fail_set b l a r p e q w hr h).mono ?_
    rintro x w' ⟨rfl, rfl⟩
    exact ⟨rfl, h, Fr.refl _ _⟩
theorem prt_inl {l : List UInt8} {a : Nat} {z : Int × Nat} (h : itm l a = .inl z) : prt l a = .inl z := by unfold prt; rw [h]
theorem prt_set {l : List UInt8} {a : Nat} {x : It} (h : itm l a = .inr x) (hr : rng l x.next = false) : prt l a = .inr (x.set, x.next) := by
  unfold prt; rw [h]; simp only; rw [hr]; rfl
def rgo (a : Nat) (o1 o2 : Option UInt8) (n : Nat) : (Int × Nat) ⊕ (S4 × Nat) := match o1, o2 with
  | some c, some d => if c.toNat ≤ d.toNat then .inr (spn c.toNat d.toNat, n) else .inl (1, a)
  | _, _ => .inl (1, a)
theorem rgo_none {a n : Nat} {o : Option UInt8} : rgo a none o n = .inl (1, a) := rfl
theorem rgo_none2 {a n : Nat} {o : Option UInt8} : rgo a o none n = .inl (1, a) := by cases o <;> rfl
theorem rgo_ok {a n : Nat} {c d : UInt8} (h : c.toNat ≤ d.toNat) : rgo a (some c) (some d) n = .inr (spn c.toNat d.toNat, n) := if_pos h
theorem rgo_no {a n : Nat} {c d : UInt8} (h : ¬ c.toNat ≤ d.toNat) : rgo a (some c) (some d) n = .inl (1, a) := if_neg h
theorem prt_bad {l : List UInt8} {a : Nat} {x : It} {z : Int × Nat} (hx : itm l a = .inr x) (hr : rng l x.next = true) (hy : itm l (x.next + 1) = .inl z) : prt l a = .inl z := by
  unfold prt; rw [hx]; simp only; rw [hr, hy]; rfl
theorem prt_rgo {l : List UInt8} {a : Nat} {x y : It} (hx : itm l a = .inr x) (hr : rng l x.next = true) (hy : itm l (x.next + 1) = .inr y) : prt l a = rgo a x.one y.one y.next := by
  unfold prt rgo; rw [hx]; simp only; rw [hr, hy]; rfl
theorem part_fin {b : Nat} {l : List UInt8} {a : Nat} {p : Int} {x : It} {s' : S4} {o' : Bool} {w4 : World} (hx : itm l a = .inr x) (hr : rng l x.next = true) (h : ItEnd b l p s' o' (itm l (x.next + 1)) w4) :
    ∃ (a' : Nat) (r q : Int), a' ≤ l.length ∧ Rd w4 b l a' r q ∧
      (∀ w, (x.one.isSome = false ∨ o' = false ∨ lst s' < lst x.set) → Rd w b l a' (if r = 0 then 1 else r) (if r = 0 then (a : Int) else q) → PtEnd b l p (spn (lst x.set) (lst s')) (prt l a) w) ∧
      (∀ w, x.one.isSome = true → o' = true → ¬ lst s' < lst x.set → Rd w b l a' r q → PtEnd b l p (spn (lst x.set) (lst s')) (prt l a) w) := by
  cases hy : itm l (x.next + 1) with
  | inl z =>
    rw [hy] at h
    obtain ⟨a', h1, h2, h3⟩ := h
    rw [prt_bad hx hr hy]
    refine ⟨a', z.1, z.2, h1, h3, fun w _ hw => ?_, fun w _ _ _ hw => ⟨a', h1, h2, hw⟩⟩
    rw [if_neg h2, if_neg h2] at hw
    exact ⟨a', h1, h2, hw⟩
  | inr y =>
    rw [hy] at h
    obtain ⟨h1, h2, h3⟩ := h
    have hyn := itm_next hy
    rw [prt_rgo hx hr hy]
    refine ⟨y.next, 0, p, hyn.2.1, h3, fun w hb hw => ?_, fun w h4 h5 h6 hw => ?_⟩
    · simp only [if_true] at hw
      cases hxo : x.one with
      | none => rw [rgo_none]; exact ⟨y.next, hyn.2.1, (by simp), hw⟩
      | some c =>
        cases hyo : y.one with
        | none => rw [rgo_none2]; exact ⟨y.next, hyn.2.1, (by simp), hw⟩
        | some d =>
          have e1 := itm_one hx hxo
          have e2 := itm_one hy hyo
          rw [hxo, h2, hyo, h1, e1, e2, lst_one c.toNat_lt, lst_one d.toNat_lt] at hb
          simp only [Option.isSome_some, Bool.true_eq_false, false_or, reduceCtorEq] at hb
          rw [rgo_no (by omega)]
          exact ⟨y.next, hyn.2.1, (by simp), hw⟩
    · cases hxo : x.one with
      | none => rw [hxo] at h4; cases h4
      | some c =>
        cases hyo : y.one with
        | none => rw [h2, hyo] at h5; cases h5
        | some d =>
          have e1 := itm_one hx hxo
          have e2 := itm_one hy hyo
          rw [h1, e1, e2, lst_one c.toNat_lt, lst_one d.toNat_lt] at h6 ⊢
          rw [rgo_ok (by omega)]
          exact ⟨rfl, hw⟩

end Go.Proofs.YtmoiiidfhkfdgaaDoor
