/-
  Merged texts of this claim: LawSames, RefJ, TreeP.
-/
import Derived.Test.YtlchaocpejfikaaGreatDoorM23
import Derived.Test.YtlchaocpejfikaaGreatDoorM30
import Derived.Test.YtlchaocpejfikaaGreatDoorM31

/-
  TreeSames: whether any two trees are the same is the document's. Where what the law reads is of bulk at most 1048576.
-/
namespace Go.Proofs.YtlchaocpejfikaaGreatDoor
open Go.RowKit
attribute [local go_sem ↓] Go.wp_at_zero Go.wp_at_succ

mutual
theorem T.nd_norm : ∀ t : T, t.nd.norm = t.nd
  | .mk k s ps mn mx nu => by
    have h1 := T.nds_norm ps
    have h2 := T.nd1_norm ps
    simp only [T.nd]
    split
    · simp [Nd.norm]
    split
    · simp [Nd.norm, h1]
    split
    · simp [Nd.norm, h1]
    split
    · simp [Nd.norm, h2]
    split
    · simp [Nd.norm, h2]
    split
    · simp [Nd.norm]
    split
    · simp [Nd.norm]
    split
    · simp [Nd.norm]
    · simp [Nd.norm]
theorem T.nds_norm : ∀ l : List T, Nd.norms (T.nds l) = T.nds l
  | [] => rfl
  | t :: ts => by simp only [T.nds, Nd.norms, T.nd_norm t, T.nds_norm ts]
theorem T.nd1_norm : ∀ l : List T, (T.nd1 l).norm = T.nd1 l
  | [] => rfl
  | t :: _ => by simp only [T.nd1, T.nd_norm t]
end
mutual
theorem T.nd_size : ∀ t : T, t.nd.size ≤ 2 * t.bulk
  | .mk k s ps mn mx nu => by
    have h1 := T.nds_size ps
    have h2 := T.nd1_size ps
    simp only [T.nd, T.bulk]
    split
    · simp only [Nd.size]; omega
    split
    · simp only [Nd.size]; omega
    split
    · simp only [Nd.size]; omega
    split
    · simp only [Nd.size]; omega
    split
    · simp only [Nd.size]; omega
    split
    · simp only [Nd.size]; omega
    split
    · simp only [Nd.size]; omega
    split
    · simp only [Nd.size]; omega
    · simp only [Nd.size]; omega
theorem T.nds_size : ∀ l : List T, Nd.sizes (T.nds l) ≤ 2 * T.bulks l
  | [] => by simp [T.nds, Nd.sizes]
  | t :: ts => by have := T.nd_size t; have := T.nds_size ts; simp only [T.nds, Nd.sizes, T.bulks]; omega
theorem T.nd1_size : ∀ l : List T, (T.nd1 l).size ≤ 1 + 2 * T.bulks l
  | [] => by simp [T.nd1, Nd.size]
  | t :: ts => by have := T.nd_size t; simp only [T.nd1, T.bulks]; omega
end
theorem T.nd_iface {S : Nat → Prop} {w : World} {t : T} {v : Value} (h : RN S w t.nd v) : ∃ i x, v = .iface i x := by
  rcases h.shape with rfl | h
  · have := T.nd_norm t
    have hn : t.nd = .nil := by
      rcases h.tyv with ⟨e, _⟩ | ⟨i, x, _, e⟩
      · generalize t.nd = n at *
        cases n <;> first | rfl | cases e
      · cases e
    rw [hn] at this
    cases this
  · exact h
theorem T.few_known {t : T} {m : Int} (h : t.few m = true) : t.known = true := by
  unfold T.few at h; simp only [Bool.and_eq_true] at h; exact h.2
theorem RN.any {S : Nat → Prop} {w : World} {n : Nd} {v : Value} (h : RN S w n v) : RN nob w n v := RN.keep (Fr.refl nob _) (fun _ _ x => x.elim) (fun _ _ x => x.elim) _ _ h

namespace treeSames
open Go.ChangeShapes Go.WideShapes Go.ChangeAt Go.RowKit

theorem own : ownKnob Tryz.prog.godebug = none := by kernel_rfl
theorem laidOut : laidOutB Tryz.prog = true := by kernel_rfl

end treeSames

end Go.Proofs.YtlchaocpejfikaaGreatDoor

/-
  Walks: Join, Choose of the document.
-/
namespace Go.Proofs.YtlchaocpejfikaaGreatDoor
open Go.RowKit

/-- What a part brings to a Cat; to an Alt. -/
def T.partT (t : T) : List T := if t.kind = 0 then [] else if t.kind = 2 then t.parts else [t]
def T.armT (t : T) : List T := if t.kind = 3 then t.parts else [t]
def partsT : List T → List T
  | [] => []
  | t :: ts => t.partT ++ partsT ts
def armsT : List T → List T
  | [] => []
  | t :: ts => t.armT ++ armsT ts
def onlyT (k : Int) : List T → T
  | [] => T.zero
  | [x] => x
  | x :: y :: l => .mk k S4.zero (x :: y :: l) 0 0 0
def joinT (l : List T) : T := onlyT 2 (partsT l)
def chooseT (l : List T) : T := onlyT 3 (armsT l)

theorem partsT_append (l m : List T) : partsT (l ++ m) = partsT l ++ partsT m := by
  induction l with
  | nil => rfl
  | cons t ts ih => simp only [List.cons_append, partsT, ih, List.append_assoc]
theorem armsT_append (l m : List T) : armsT (l ++ m) = armsT l ++ armsT m := by
  induction l with
  | nil => rfl
  | cons t ts ih => simp only [List.cons_append, armsT, ih, List.append_assoc]
theorem partsT_take {l : List T} {k : Nat} (h : k < l.length) : partsT (l.take (k + 1)) = partsT (l.take k) ++ l[k].partT := by
  rw [List.take_succ_eq_append_getElem h, partsT_append]; simp [partsT]
theorem armsT_take {l : List T} {k : Nat} (h : k < l.length) : armsT (l.take (k + 1)) = armsT (l.take k) ++ l[k].armT := by
  rw [List.take_succ_eq_append_getElem h, armsT_append]; simp [armsT]
theorem T.partT_bulk (t : T) : T.bulks t.partT ≤ t.bulk := by
  have := t.bulk_parts
  unfold T.partT; split
  · simp [T.bulks]
  split
  · omega
  · simp [T.bulks]
theorem T.armT_bulk (t : T) : T.bulks t.armT ≤ t.bulk := by
  have := t.bulk_parts
  unfold T.armT; split
  · omega
  · simp [T.bulks]
theorem partsT_bulk (l : List T) : T.bulks (partsT l) ≤ T.bulks l := by
  induction l with
  | nil => simp [partsT]
  | cons t ts ih => have := t.partT_bulk; simp only [partsT, T.bulks, T.bulks_append]; omega
theorem armsT_bulk (l : List T) : T.bulks (armsT l) ≤ T.bulks l := by
  induction l with
  | nil => simp [armsT]
  | cons t ts ih => have := t.armT_bulk; simp only [armsT, T.bulks, T.bulks_append]; omega

/-- The block of a result. -/
abbrev SRb (w : World) : Nat → Prop := fun k => k = w.heap.size

theorem late_ST {w wr : World} {g : Option Nat} {l : List T} {u : Value} (h : ST nob w l u) (f : Fr nob w wr) (hg : ∀ j, g = some j → w.heap.size < j) : ST (LS2 (SRb w) g) wr l u :=
  h.keep f (fun _ _ x => x) (fun k hk x => by
    rcases x with x | x
    · unfold SRb at x; omega
    · have := hg k x; omega)
theorem late_RT {w wr : World} {g : Option Nat} {t : T} {cs : List Value} (h : RT nob w t cs) (f : Fr nob w wr) (hg : ∀ j, g = some j → w.heap.size < j) : RT (LS2 (SRb w) g) wr t cs :=
  RT.keep f (fun _ _ x => x) (fun k hk x => by
    rcases x with x | x
    · unfold SRb at x; omega
    · have := hg k x; omega) _ _ h

end Go.Proofs.YtlchaocpejfikaaGreatDoor

/-
  Plain facts on what Join and Choose make, on both sides. No walk.
-/
namespace Go.Proofs.YtlchaocpejfikaaGreatDoor
open Go.RowKit

theorem T.part_nd {t : T} (h : t.known = true) : t.nd.part = T.nds t.partT := by
  obtain ⟨k, s, ps, mn, mx, nu⟩ := t
  rcases (T.known_kd h).1 with rfl | rfl | rfl | rfl | rfl | rfl | rfl | rfl | rfl <;> simp [T.nd, Nd.part, T.partT, T.kind, T.parts, T.nds]
theorem T.arm_nd {t : T} (h : t.known = true) : t.nd.arm = T.nds t.armT := by
  obtain ⟨k, s, ps, mn, mx, nu⟩ := t
  rcases (T.known_kd h).1 with rfl | rfl | rfl | rfl | rfl | rfl | rfl | rfl | rfl <;> simp [T.nd, Nd.arm, Nd.told, T.armT, T.kind, T.parts, T.nds]
theorem T.nds_append (l m : List T) : T.nds (l ++ m) = T.nds l ++ T.nds m := by simp only [T.nds_eq, List.map_append]
theorem parts_nds {l : List T} (h : T.knowns l = true) : parts (T.nds l) = T.nds (partsT l) := by
  induction l with
  | nil => rfl
  | cons t ts ih =>
    simp only [T.knowns, Bool.and_eq_true] at h
    simp only [T.nds, parts, partsT, T.nds_append, T.part_nd h.1, ih h.2]
theorem arms_nds {l : List T} (h : T.knowns l = true) : arms (T.nds l) = T.nds (armsT l) := by
  induction l with
  | nil => rfl
  | cons t ts ih =>
    simp only [T.knowns, Bool.and_eq_true] at h
    simp only [T.nds, arms, armsT, T.nds_append, T.arm_nd h.1, ih h.2]
theorem T.zero_nd : T.zero.nd = .empty := by simp [T.zero, T.nd]
theorem only_nd2 (l : List T) : (onlyT 2 l).nd = onlyOf (T.nds l) (.cat (T.nds l)) := by
  match l with
  | [] => exact T.zero_nd
  | [x] => rfl
  | x :: y :: r => simp [onlyT, T.nd, T.nds, onlyOf]
theorem only_nd3 (l : List T) : (onlyT 3 l).nd = onlyOf (T.nds l) (.alt (T.nds l)) := by
  match l with
  | [] => exact T.zero_nd
  | [x] => rfl
  | x :: y :: r => simp [onlyT, T.nd, T.nds, onlyOf]
theorem joined_nd {l : List T} (h : T.knowns l = true) : joined (T.nds l) = (joinT l).nd := by
  unfold joined joinT; rw [parts_nds h, only_nd2]
theorem chosen_nd {l : List T} (h : T.knowns l = true) : chosen (T.nds l) = (chooseT l).nd := by
  unfold chosen chooseT; rw [arms_nds h, only_nd3]
theorem parts_nil (l : List Nd) : parts (l ++ [.nil]) = parts l := by rw [parts_append]; simp [parts, Nd.part]
theorem joined_nil (l : List Nd) : joined (l ++ [.nil]) = joined l := by unfold joined; rw [parts_nil]
theorem onlyT_known {k : Int} (hk : 0 ≤ k ∧ k ≤ 8) {l : List T} (h : T.knowns l = true) : (onlyT k l).known = true := by
  match l, h with
  | [], _ => rfl
  | [x], h => simp only [T.knowns, Bool.and_true] at h; exact h
  | x :: y :: r, h =>
    simp only [onlyT, T.known, h, Bool.and_true, Bool.not_eq_true', Bool.or_eq_false_iff, decide_eq_false_iff_not]; omega
theorem partsT_known {l : List T} (h : T.knowns l = true) : T.knowns (partsT l) = true := by
  induction l with
  | nil => rfl
  | cons t ts ih =>
    simp only [T.knowns, Bool.and_eq_true] at h
    have ha : ∀ a b : List T, T.knowns (a ++ b) = (T.knowns a && T.knowns b) := by
      intro a b
      induction a with
      | nil => simp [T.knowns]
      | cons t ts ih => simp only [List.cons_append, T.knowns, ih, Bool.and_assoc]
    have hp : T.knowns t.partT = true := by
      unfold T.partT; split
      · rfl
      split
      · obtain ⟨k, s, ps, mn, mx, nu⟩ := t; exact (T.known_kd h.1).2
      · simp [T.knowns, h.1]
    simp only [partsT, ha, hp, ih h.2, Bool.and_self]
theorem armsT_known {l : List T} (h : T.knowns l = true) : T.knowns (armsT l) = true := by
  induction l with
  | nil => rfl
  | cons t ts ih =>
    simp only [T.knowns, Bool.and_eq_true] at h
    have ha : ∀ a b : List T, T.knowns (a ++ b) = (T.knowns a && T.knowns b) := by
      intro a b
      induction a with
      | nil => simp [T.knowns]
      | cons t ts ih => simp only [List.cons_append, T.knowns, ih, Bool.and_assoc]
    have hp : T.knowns t.armT = true := by
      unfold T.armT; split
      · obtain ⟨k, s, ps, mn, mx, nu⟩ := t; exact (T.known_kd h.1).2
      · simp [T.knowns, h.1]
    simp only [armsT, ha, hp, ih h.2, Bool.and_self]
theorem onlyOf_size {l : List Nd} {n : Nd} (hn : n.size ≤ 1 + Nd.sizes l) : (onlyOf l n).size ≤ 1 + Nd.sizes l := by
  match l with
  | [] => simp [onlyOf, Nd.size]
  | [x] => simp [onlyOf, Nd.sizes]
  | x :: y :: r => exact hn
theorem joined_size (l : List Nd) : (joined l).size ≤ 1 + Nd.sizes l := by
  have := parts_sizes l
  have h := onlyOf_size (l := parts l) (n := .cat (parts l)) (by simp [Nd.size])
  unfold joined; omega
theorem chosen_size (l : List Nd) : (chosen l).size ≤ 1 + Nd.sizes l := by
  have := arms_sizes l
  have h := onlyOf_size (l := arms l) (n := .alt (arms l)) (by simp [Nd.size])
  unfold chosen; omega

/-! ### Groups, backs and depth of what is joined -/
theorem onlyOf_groups {l : List Nd} {n : Nd} (hn : n.groups = Nd.groupss l) : (onlyOf l n).groups = Nd.groupss l := by
  match l with
  | [] => simp [onlyOf, Nd.groups, Nd.groupss]
  | [x] => simp [onlyOf, Nd.groupss]
  | x :: y :: r => exact hn
theorem onlyOf_deep {l : List Nd} {n : Nd} (hn : n.deep = Nd.deeps l) : (onlyOf l n).deep = Nd.deeps l := by
  match l with
  | [] => simp [onlyOf, Nd.deep, Nd.deeps]
  | [x] => simp [onlyOf, Nd.deeps]
  | x :: y :: r => exact hn
theorem onlyOf_backs {l : List Nd} {n : Nd} (hn : n.backs = Nd.backss l) : (onlyOf l n).backs = Nd.backss l := by
  match l with
  | [] => simp [onlyOf, Nd.backs, Nd.backss]
  | [x] => simp [onlyOf, Nd.backss]
  | x :: y :: r => exact hn
theorem backss_append (l m : List Nd) : Nd.backss (l ++ m) = (Nd.backss l || Nd.backss m) := by simp only [Nd.backss_eq, List.any_append]
theorem part_groups (n : Nd) : Nd.groupss n.part = n.groups := by cases n <;> simp [Nd.part, Nd.groups, Nd.groupss]
theorem part_deep (n : Nd) : Nd.deeps n.part = n.deep := by cases n <;> simp [Nd.part, Nd.deep, Nd.deeps]
theorem part_backs (n : Nd) : Nd.backss n.part = n.backs := by cases n <;> simp [Nd.part, Nd.backs, Nd.backss]
theorem arm_groups (n : Nd) : Nd.groupss n.arm = n.groups := by cases n <;> simp [Nd.arm, Nd.told, Nd.groups, Nd.groupss]
theorem arm_deep (n : Nd) : Nd.deeps n.arm = n.deep := by cases n <;> simp [Nd.arm, Nd.told, Nd.deep, Nd.deeps]
theorem arm_backs (n : Nd) : Nd.backss n.arm = n.backs := by cases n <;> simp [Nd.arm, Nd.told, Nd.backs, Nd.backss]
theorem two_parts (x y : Nd) : parts [x, y] = x.part ++ y.part := by simp [parts]
theorem two_arms (x y : Nd) : arms [x, y] = x.arm ++ y.arm := by simp [arms]
/-- What TreeAdds asks of a node made of two. -/
def Adds (x y n : Nd) : Prop := n.groups = x.groups + y.groups ∧ n.backs = (x.backs || y.backs) ∧ n.deep = max x.deep y.deep
theorem adds_joined (x y : Nd) : Adds x y (joined [x, y]) := by
  refine ⟨?_, ?_, ?_⟩
  · unfold joined; rw [onlyOf_groups (by simp [Nd.groups]), two_parts, Nd.groupss_append, part_groups, part_groups]
  · unfold joined; rw [onlyOf_backs (by simp [Nd.backs]), two_parts, backss_append, part_backs, part_backs]
  · unfold joined; rw [onlyOf_deep (by simp [Nd.deep]), two_parts, Nd.deeps_append, part_deep, part_deep]
theorem adds_chosen (x y : Nd) : Adds x y (chosen [x, y]) := by
  refine ⟨?_, ?_, ?_⟩
  · unfold chosen; rw [onlyOf_groups (by simp [Nd.groups]), two_arms, Nd.groupss_append, arm_groups, arm_groups]
  · unfold chosen; rw [onlyOf_backs (by simp [Nd.backs]), two_arms, backss_append, arm_backs, arm_backs]
  · unfold chosen; rw [onlyOf_deep (by simp [Nd.deep]), two_arms, Nd.deeps_append, arm_deep, arm_deep]

/-! ### Once more -/
theorem right_cat {l : List Nd} (h : (Nd.cat l).right = true) : 1 < l.length ∧ ∀ n ∈ l, n.plain = true := by
  unfold Nd.right at h
  simp only [Nd.look] at h
  split at h
  · rename_i hc
    simp only [Bool.and_eq_true, decide_eq_true_eq, Bool.not_eq_true', List.any_eq_false] at hc
    exact ⟨hc.1, fun n hn => by simpa using hc.2 n hn⟩
  · cases h
theorem right_alt {l : List Nd} (h : (Nd.alt l).right = true) : 1 < l.length ∧ ∀ n ∈ l, n.isAlt = false := by
  unfold Nd.right at h
  simp only [Nd.look] at h
  split at h
  · rename_i hc
    simp only [Bool.and_eq_true, decide_eq_true_eq, Bool.not_eq_true', List.any_eq_false] at hc
    exact ⟨hc.1, fun n hn => by simpa using hc.2 n hn⟩
  · cases h
/-- Parts of a right node hold no Cat, no Empty. -/
theorem part_flat {n : Nd} (h : n.right = true) : ∀ x ∈ n.part, x.part = [x] := by
  intro x hx
  cases n with
  | cat l =>
    have := (right_cat h).2 x hx
    cases x <;> first | rfl | (simp [Nd.plain] at this)
  | nil => simp [Nd.part] at hx
  | empty => simp [Nd.part] at hx
  | _ => simp only [Nd.part, List.mem_singleton] at hx; subst hx; rfl
theorem arm_flat {n : Nd} (h : n.right = true) : ∀ x ∈ n.arm, x.isAlt = false := by
  intro x hx
  cases n with
  | alt l => exact (right_alt h).2 x hx
  | nil => simp only [Nd.arm, Nd.told, List.mem_singleton] at hx; subst hx; rfl
  | _ => simp only [Nd.arm, Nd.told, List.mem_singleton] at hx; subst hx; rfl
theorem arm_pos {n : Nd} (h : n.right = true) : 1 ≤ n.arm.length := by
  cases n with
  | alt l => have := (right_alt h).1; simp only [Nd.arm]; omega
  | _ => simp [Nd.arm]
theorem once_joined {x y : Nd} (hx : x.right = true) (hy : y.right = true) : joined [joined [x, y]] = joined [x, y] := by
  have hf : ∀ n ∈ parts [x, y], n.part = [n] := by
    intro n hn
    rw [two_parts] at hn
    rcases List.mem_append.1 hn with h | h
    · exact part_flat hx n h
    · exact part_flat hy n h
  have h1 : parts [joined [x, y]] = parts [x, y] := by
    unfold joined
    match hp : parts [x, y], hf with
    | [], _ => rfl
    | [z], hf => have := hf z (by simp); simp [parts, onlyOf, this]
    | z :: u :: r, _ => simp [parts, onlyOf, Nd.part]
  show onlyOf (parts [joined [x, y]]) (.cat (parts [joined [x, y]])) = joined [x, y]
  rw [h1]; rfl
theorem once_chosen {x y : Nd} (hx : x.right = true) (hy : y.right = true) : chosen [chosen [x, y]] = chosen [x, y] := by
  have h2 : 2 ≤ (arms [x, y]).length := by have := arm_pos hx; have := arm_pos hy; rw [two_arms, List.length_append]; omega
  have h1 : arms [chosen [x, y]] = arms [x, y] := by
    unfold chosen
    match hp : arms [x, y], h2 with
    | z :: u :: r, _ => simp [arms, onlyOf, Nd.arm]
  show onlyOf (arms [chosen [x, y]]) (.alt (arms [chosen [x, y]])) = chosen [x, y]
  rw [h1]; rfl

end Go.Proofs.YtlchaocpejfikaaGreatDoor
