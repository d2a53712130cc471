/-
  Merged texts of this claim: ShowU, ShowZ.
-/
import Derived.Test.YtlchaocpejfikaaGreatDoorM03
import Derived.Test.YtlchaocpejfikaaGreatDoorM19
import Derived.Test.YtlchaocpejfikaaGreatDoorM21
import Derived.Test.YtlchaocpejfikaaGreatDoorM32

/-
  Few nodes, as the document's arguments: their sets are sets, what they can be told as. Plain.
-/
namespace Go.Proofs.YtlchaocpejfikaaGreatDoor
open Go.RowKit

theorem S4.wf_fit {s : S4} (h : s.wf) : s.fit := ⟨fit_of_wf h.1, fit_of_wf h.2.1, fit_of_wf h.2.2.1, fit_of_wf h.2.2.2⟩
mutual
theorem T.wf_fits : ∀ t : T, t.wf → t.nd.fits
  | .mk k s ps mn mx nu, h => by
    rw [T.wf] at h
    have h1 := T.wfs_fits ps h.2.2.2.2.2
    have h2 := T.wf1_fits ps h.2.2.2.2.2
    have h3 := S4.wf_fit h.1
    simp only [T.nd]
    repeat' split
    all_goals first
      | exact h3
      | exact h1
      | exact h2
      | trivial
theorem T.wfs_fits : ∀ l : List T, T.wfs l → Nd.fitss (T.nds l)
  | [], _ => trivial
  | t :: ts, h => ⟨T.wf_fits t h.1, T.wfs_fits ts h.2⟩
theorem T.wf1_fits : ∀ l : List T, T.wfs l → (T.nd1 l).fits
  | [], _ => trivial
  | t :: _, h => T.wf_fits t h.1
end
/-- What few, real ones can be told as. -/
theorem T.few_shw {t : T} (h : t.few 60 = true) (hw : t.wf) : t.nd.size ≤ 120 ∧ t.known = true ∧ (t.nd.right = true → t.nd.shw) := by
  unfold T.few at h
  simp only [Bool.and_eq_true, decide_eq_true_eq] at h
  have hz := T.nd_size t
  exact ⟨by omega, h.2, fun hr => Nd.right_shw hr (by omega) (T.wf_fits t hw)⟩
theorem two_snJ {W : World} {x y : Nd} {vx vy : Value} {b : Nat} {e : TypeId} (hx : RN nob W x vx) (hy : RN nob W y vy) (hb : b = W.heap.size) : SN nob (W.alloc (.cells #[vx, vy] e)) [x, y] (.slice (some ⟨b, 0, none⟩) 2 2) := by
  subst hb
  refine .inr ⟨_, _, _, rfl, by simp, RNs.of (vs := [vx, vy]) (fun x => x) (by simp) ⟨vx, [vy], rfl, hx.on ((Fr.refl _ _).alloc _), ⟨vy, [], rfl, hy.on ((Fr.refl _ _).alloc _), rfl⟩⟩ ?_⟩
  exact At.new W #[vx, vy] e rfl
theorem T.nd_some (t : T) : t.nd ≠ .nil := by
  cases t with
  | mk k s ps mn mx nu =>
    simp only [T.nd]
    repeat' split
    all_goals intro e; cases e
theorem T.nd_alt (k : Int) (s : S4) (ps : List T) (mn mx nu : Int) : (T.mk k s ps mn mx nu).nd.isAlt = decide (k = 3) := by
  simp only [T.nd]
  by_cases a1 : k = 1
  · simp [a1, Nd.isAlt]
  by_cases a2 : k = 2
  · simp [a2, Nd.isAlt]
  by_cases a3 : k = 3
  · simp [a3, Nd.isAlt]
  by_cases a4 : k = 4
  · simp [a4, Nd.isAlt]
  by_cases a5 : k = 5
  · simp [a5, Nd.isAlt]
  by_cases a6 : k = 6
  · simp [a6, Nd.isAlt]
  by_cases a7 : k = 7
  · simp [a7, Nd.isAlt]
  by_cases a8 : k = 8
  · simp [a8, Nd.isAlt]
  simp [a1, a2, a3, a4, a5, a6, a7, a8, Nd.isAlt]
end Go.Proofs.YtlchaocpejfikaaGreatDoor

/-
  The text of joined, and chosen among, parts without groups. Plain.
-/
namespace Go.Proofs.YtlchaocpejfikaaGreatDoor
open Go.RowKit

mutual
/-- Without a group a look changes nothing. -/
theorem Nd.look_gr : ∀ (n : Nd) (o : Int) (c : List Int) (o' : Int) (c' : List Int), n.look o c = some (o', c') → n.groups = 0 → o' = o ∧ c' = c
  | .nil, o, c, o', c', h, _ | .empty, o, c, o', c', h, _ | .one _, o, c, o', c', h, _ | .start, o, c, o', c', h, _ | .fin, o, c, o', c', h, _ => by
    rw [Nd.look] at h; injection h with h; injection h with h1 h2; exact ⟨h1.symm, h2.symm⟩
  | .cat l, o, c, o', c', h, hg => by
    rw [Nd.look] at h
    split at h
    · exact Nd.looks_gr l o c o' c' h (by rw [Nd.groups] at hg; exact hg)
    · cases h
  | .alt l, o, c, o', c', h, hg => by
    rw [Nd.look] at h
    split at h
    · exact Nd.looks_gr l o c o' c' h (by rw [Nd.groups] at hg; exact hg)
    · cases h
  | .rep x a b, o, c, o', c', h, hg => by
    rw [Nd.look] at h
    split at h
    · exact Nd.look_gr x o c o' c' h (by rw [Nd.groups] at hg; exact hg)
    · cases h
  | .group n x, o, c, o', c', h, hg => by rw [Nd.groups] at hg; omega
  | .back n, o, c, o', c', h, _ => by
    rw [Nd.look] at h
    split at h
    · injection h with h; injection h with h1 h2; exact ⟨h1.symm, h2.symm⟩
    · cases h
theorem Nd.looks_gr : ∀ (l : List Nd) (o : Int) (c : List Int) (o' : Int) (c' : List Int), Nd.looks l o c = some (o', c') → Nd.groupss l = 0 → o' = o ∧ c' = c
  | [], o, c, o', c', h, _ => by
    rw [Nd.looks] at h; injection h with h; injection h with h1 h2; exact ⟨h1.symm, h2.symm⟩
  | x :: r, o, c, o', c', h, hg => by
    rw [Nd.groupss] at hg
    rw [Nd.looks] at h
    cases e : x.look o c with
    | none => rw [e] at h; cases h
    | some q =>
      obtain ⟨o1, c1⟩ := q
      rw [e] at h
      obtain ⟨rfl, rfl⟩ := Nd.look_gr x o c o1 c1 e (by omega)
      exact Nd.looks_gr r _ _ o' c' h (by omega)
end
theorem look_zero {n : Nd} (h : n.right = true) (hg : n.groups = 0) : n.look 0 [] = some (0, []) := by
  unfold Nd.right at h
  obtain ⟨⟨o, c⟩, e⟩ := Option.isSome_iff_exists.1 h
  obtain ⟨rfl, rfl⟩ := Nd.look_gr n 0 [] o c e hg
  exact e
theorem looks_join : ∀ (l m : List Nd) (o : Int) (c : List Int) (o' : Int) (c' : List Int), Nd.looks l o c = some (o', c') → Nd.looks (l ++ m) o c = Nd.looks m o' c'
  | [], m, o, c, o', c', h => by rw [Nd.looks] at h; injection h with h; injection h with h1 h2; subst h1; subst h2; rfl
  | x :: r, m, o, c, o', c', h => by
    rw [List.cons_append, Nd.looks]
    rw [Nd.looks] at h
    cases e : x.look o c with
    | none => rw [e] at h; cases h
    | some q => obtain ⟨o1, c1⟩ := q; rw [e] at h; exact looks_join r m o1 c1 o' c' h
theorem txta_join : ∀ (l m : List Nd), l ≠ [] → m ≠ [] → Nd.txta (l ++ m) = Nd.txta l ++ ([124] ++ Nd.txta m)
  | [], _, h, _ => absurd rfl h
  | [x], m, _, hm => by
    match m, hm with
    | y :: q, _ => rw [List.singleton_append, Nd.txta, Nd.txta]
  | x :: y :: r, m, _, hm => by
    have := txta_join (y :: r) m (by simp) hm
    rw [List.cons_append] at this
    rw [List.cons_append, List.cons_append, Nd.txta, this, Nd.txta]
    simp [List.append_assoc]
theorem shws_join : ∀ {l m : List Nd}, Nd.shws l → Nd.shws m → Nd.shws (l ++ m)
  | [], _, _, h => h
  | _ :: _, _, h, h' => ⟨h.1, shws_join h.2 h'⟩
theorem arm_fact {A : Nd} (h : A.right = true) (hg : A.groups = 0) (hn : A ≠ .nil) : A.arm ≠ [] ∧ (∀ x ∈ A.arm, x.isAlt = false) ∧ Nd.txta A.arm = A.txt ∧ Nd.looks A.arm 0 [] = some (0, []) ∧ (A.shw → Nd.shws A.arm) := by
  have hl := look_zero h hg
  cases A with
  | alt l =>
    rw [Nd.look] at hl
    split at hl
    · next hc =>
      simp only [Bool.and_eq_true, decide_eq_true_eq, Bool.not_eq_true', List.any_eq_false] at hc
      refine ⟨fun e => ?_, fun x hx => by simpa using hc.2 x hx, by rw [Nd.txt]; rfl, hl, fun hs => by rw [Nd.shw] at hs; exact hs⟩
      have : l = [] := e
      rw [this] at hc; simp at hc
    · cases hl
  | nil => exact absurd rfl hn
  | _ => exact ⟨by simp [Nd.arm], fun x hx => by rw [List.mem_singleton.1 hx]; rfl, rfl, by show Nd.looks [_] 0 [] = _; rw [looks_one]; exact hl, fun hs => ⟨hs, trivial⟩⟩
/-- Chosen among. -/
theorem choose_txt {A B : Nd} (ha : A.right = true) (hb : B.right = true) (ga : A.groups = 0) (gb : B.groups = 0) (na : A ≠ .nil) (nb : B ≠ .nil) :
    (chosen [A, B]).right = true ∧ (chosen [A, B]).txt = (A.txt ++ [124]) ++ B.txt ∧ (A.shw → B.shw → (chosen [A, B]).shw) := by
  obtain ⟨a1, a2, a3, a4, a5⟩ := arm_fact ha ga na
  obtain ⟨b1, b2, b3, b4, b5⟩ := arm_fact hb gb nb
  have e : arms [A, B] = A.arm ++ B.arm := by simp [arms]
  have hc : chosen [A, B] = .alt (A.arm ++ B.arm) := by
    unfold chosen
    rw [e]
    match hA : A.arm, a1, hB : B.arm, b1 with
    | x :: p, _, y :: q, _ =>
      cases p with
      | nil => rfl
      | cons z p => rfl
  rw [hc]
  refine ⟨?_, ?_, fun h1 h2 => ?_⟩
  · unfold Nd.right
    have : (Nd.alt (A.arm ++ B.arm)).look 0 [] = some (0, []) := by
      rw [Nd.look, if_pos ?_, looks_join _ _ _ _ _ _ a4, b4]
      simp only [Bool.and_eq_true, decide_eq_true_eq, Bool.not_eq_true', List.any_eq_false]
      refine ⟨?_, fun x hx => ?_⟩
      · rw [List.length_append]
        have := List.length_pos_iff.2 a1; have := List.length_pos_iff.2 b1; omega
      · rcases List.mem_append.1 hx with hx | hx
        · rw [a2 x hx]; decide
        · rw [b2 x hx]; decide
    rw [this]; rfl
  · rw [Nd.txt, txta_join _ _ a1 b1, a3, b3]; simp
  · rw [Nd.shw]; exact shws_join (a5 h1) (b5 h2)
theorem part_fact {A : Nd} (h : A.right = true) (hg : A.groups = 0) (hn : A.isAlt = false) : (∀ x ∈ A.part, x.plain = true) ∧ Nd.txts A.part = A.txt ∧ Nd.looks A.part 0 [] = some (0, []) ∧ (A.shw → Nd.shws A.part) := by
  have hl := look_zero h hg
  have one : ∀ x : Nd, x.plain = true → x.part = [x] → x.look 0 [] = some (0, []) → (∀ y ∈ x.part, y.plain = true) ∧ Nd.txts x.part = x.txt ∧ Nd.looks x.part 0 [] = some (0, []) ∧ (x.shw → Nd.shws x.part) := by
    intro x hp e hl
    rw [e]
    exact ⟨fun y hy => by rw [List.mem_singleton.1 hy]; exact hp, by simp [Nd.txts], by rw [looks_one]; exact hl, fun hs => ⟨hs, trivial⟩⟩
  cases A with
  | alt l => cases hn
  | cat l =>
    rw [Nd.look] at hl
    split at hl
    · next hc =>
      simp only [Bool.and_eq_true, decide_eq_true_eq, Bool.not_eq_true', List.any_eq_false] at hc
      exact ⟨fun x hx => by simpa using hc.2 x hx, by rw [Nd.txt]; rfl, hl, fun hs => by rw [Nd.shw] at hs; exact hs⟩
    · cases hl
  | nil => exact ⟨fun x hx => absurd (show x ∈ ([] : List Nd) from hx) (by simp), by show Nd.txts [] = Nd.txt .nil; rw [Nd.txts, Nd.txt], by show Nd.looks [] 0 [] = some (0, []); rw [Nd.looks], fun _ => trivial⟩
  | empty => exact ⟨fun x hx => absurd (show x ∈ ([] : List Nd) from hx) (by simp), by show Nd.txts [] = Nd.txt .empty; rw [Nd.txts, Nd.txt], by show Nd.looks [] 0 [] = some (0, []); rw [Nd.looks], fun _ => trivial⟩
  | _ => exact one _ rfl rfl hl
/-- Joined. -/
theorem join_txt {A B : Nd} (ha : A.right = true) (hb : B.right = true) (ga : A.groups = 0) (gb : B.groups = 0) (na : A.isAlt = false) (nb : B.isAlt = false) :
    (joined [A, B]).right = true ∧ (joined [A, B]).txt = A.txt ++ B.txt ∧ (A.shw → B.shw → (joined [A, B]).shw) := by
  obtain ⟨a2, a3, a4, a5⟩ := part_fact ha ga na
  obtain ⟨b2, b3, b4, b5⟩ := part_fact hb gb nb
  have e : parts [A, B] = A.part ++ B.part := by simp [parts]
  unfold joined
  rw [e]
  have hl : Nd.looks (A.part ++ B.part) 0 [] = some (0, []) := by rw [looks_join _ _ _ _ _ _ a4, b4]
  have ht : Nd.txts (A.part ++ B.part) = A.txt ++ B.txt := by rw [Nd.txts_append, a3, b3]
  have hs : A.shw → B.shw → Nd.shws (A.part ++ B.part) := fun h1 h2 => shws_join (a5 h1) (b5 h2)
  have hp : ∀ x ∈ A.part ++ B.part, x.plain = true := fun x hx => by
    rcases List.mem_append.1 hx with hx | hx
    · exact a2 x hx
    · exact b2 x hx
  generalize A.part ++ B.part = P at hl ht hs hp
  match P, hl, ht, hs, hp with
  | [], _, ht, _, _ => exact ⟨by decide, by rw [← ht]; show Nd.txt .empty = _; rw [Nd.txt]; rfl, fun _ _ => trivial⟩
  | [x], hl, ht, hs, _ =>
    refine ⟨?_, ?_, fun h1 h2 => (hs h1 h2).1⟩
    · rw [looks_one] at hl
      show Nd.right x = true
      unfold Nd.right; rw [hl]; rfl
    · rw [← ht]; show x.txt = _; simp [Nd.txts]
  | x :: y :: r, hl, ht, hs, hp =>
    refine ⟨?_, ?_, fun h1 h2 => ?_⟩
    · show Nd.right (.cat (x :: y :: r)) = true
      unfold Nd.right
      have e : (x :: y :: r).any (fun n => !n.plain) = false := by
        rw [List.any_eq_false]; intro z hz; rw [hp z hz]; decide
      rw [Nd.look, e, if_pos (by simp), hl]; rfl
    · show Nd.txt (.cat (x :: y :: r)) = _
      rw [Nd.txt]; exact ht
    · show Nd.shw (.cat (x :: y :: r))
      rw [Nd.shw]; exact hs h1 h2
end Go.Proofs.YtlchaocpejfikaaGreatDoor
