/-
  Package tree: a node as it is told (norm); when two are the same; depth, groups, backs. No walk.
-/
import Derived.Test.YtcmjgaadffffaaaTreeH
namespace Go.Proofs.Ytcmjgaadffffaaa
open Go.RowKit

mutual
/-- A node, its parts that are not told as Empty. -/
def Nd.norm : Nd → Nd
  | .nil => .empty
  | .empty => .empty
  | .one s => .one s
  | .cat l => .cat (Nd.norms l)
  | .alt l => .alt (Nd.norms l)
  | .rep x a b => .rep x.norm a b
  | .group n x => .group n x.norm
  | .back n => .back n
  | .start => .start
  | .fin => .fin
def Nd.norms : List Nd → List Nd
  | [] => []
  | t :: ts => t.norm :: Nd.norms ts
end
theorem Nd.norms_eq (l : List Nd) : Nd.norms l = l.map Nd.norm := by
  induction l with
  | nil => rfl
  | cons t ts ih => simp only [Nd.norms, List.map_cons, ih]

/-- Are two nodes the same, their parts not looked at? -/
def Nd.head : Nd → Nd → Bool
  | .one s, .one t => decide (s = t)
  | .cat _, .cat _ => true
  | .alt _, .alt _ => true
  | .rep _ a b, .rep _ c d => decide (a = c) && decide (b = d)
  | .group n _, .group m _ => decide (n = m)
  | .back n, .back m => decide (n = m)
  | .start, .start => true
  | .fin, .fin => true
  | .nil, .nil => true
  | .nil, .empty => true
  | .empty, .nil => true
  | .empty, .empty => true
  | _, _ => false

theorem Nd.same_iff (a b : Nd) : a.norm = b.norm ↔ a.head b = true ∧ Nd.norms a.kids = Nd.norms b.kids := by
  cases a <;> cases b <;> simp [Nd.norm, Nd.head, Nd.kids, Nd.norms]
  · constructor
    · rintro ⟨a, b, c⟩; exact ⟨⟨b, c⟩, a⟩
    · rintro ⟨⟨b, c⟩, a⟩; exact ⟨a, b, c⟩

def Nd.isGroup : Nd → Bool
  | .group _ _ => true
  | _ => false
def Nd.isBack : Nd → Bool
  | .back _ => true
  | _ => false
mutual
/-- How many groups are in one another. -/
def Nd.deep : Nd → Nat
  | .cat l => Nd.deeps l
  | .alt l => Nd.deeps l
  | .rep x _ _ => x.deep
  | .group _ x => x.deep + 1
  | .nil | .empty | .one _ | .back _ | .start | .fin => 0
def Nd.deeps : List Nd → Nat
  | [] => 0
  | t :: ts => max t.deep (Nd.deeps ts)
end
mutual
/-- How many groups. -/
def Nd.groups : Nd → Nat
  | .cat l => Nd.groupss l
  | .alt l => Nd.groupss l
  | .rep x _ _ => x.groups
  | .group _ x => x.groups + 1
  | .nil | .empty | .one _ | .back _ | .start | .fin => 0
def Nd.groupss : List Nd → Nat
  | [] => 0
  | t :: ts => t.groups + Nd.groupss ts
end
mutual
/-- Has it a Back? -/
def Nd.backs : Nd → Bool
  | .cat l => Nd.backss l
  | .alt l => Nd.backss l
  | .rep x _ _ => x.backs
  | .group _ x => x.backs
  | .back _ => true
  | .nil | .empty | .one _ | .start | .fin => false
def Nd.backss : List Nd → Bool
  | [] => false
  | t :: ts => t.backs || Nd.backss ts
end
theorem Nd.backss_eq (l : List Nd) : Nd.backss l = l.any Nd.backs := by
  induction l with
  | nil => rfl
  | cons t ts ih => simp only [Nd.backss, List.any_cons, ih]
theorem Nd.deep_kids (n : Nd) : n.deep = Nd.deeps n.kids + (if n.isGroup = true then 1 else 0) := by
  cases n <;> simp [Nd.deep, Nd.kids, Nd.deeps, Nd.isGroup]
theorem Nd.groups_kids (n : Nd) : n.groups = Nd.groupss n.kids + (if n.isGroup = true then 1 else 0) := by
  cases n <;> simp [Nd.groups, Nd.kids, Nd.groupss, Nd.isGroup]
theorem Nd.backs_kids (n : Nd) : n.backs = (n.isBack || Nd.backss n.kids) := by
  cases n <;> simp [Nd.backs, Nd.kids, Nd.backss, Nd.isBack]
theorem Nd.deeps_append (l m : List Nd) : Nd.deeps (l ++ m) = max (Nd.deeps l) (Nd.deeps m) := by
  induction l with
  | nil => simp [Nd.deeps]
  | cons t ts ih => simp only [List.cons_append, Nd.deeps, ih]; omega
theorem Nd.groupss_append (l m : List Nd) : Nd.groupss (l ++ m) = Nd.groupss l + Nd.groupss m := by
  induction l with
  | nil => simp [Nd.groupss]
  | cons t ts ih => simp only [List.cons_append, Nd.groupss, ih]; omega
theorem Nd.deeps_take {l : List Nd} {k : Nat} (h : k < l.length) : Nd.deeps (l.take (k + 1)) = max (Nd.deeps (l.take k)) l[k].deep := by
  rw [List.take_succ_eq_append_getElem h, Nd.deeps_append]; simp [Nd.deeps]
theorem Nd.groupss_take {l : List Nd} {k : Nat} (h : k < l.length) : Nd.groupss (l.take (k + 1)) = Nd.groupss (l.take k) + l[k].groups := by
  rw [List.take_succ_eq_append_getElem h, Nd.groupss_append]; simp [Nd.groupss]
mutual
theorem Nd.deep_le : ∀ n : Nd, n.deep ≤ n.size
  | .cat l => by have := Nd.deeps_le l; simp only [Nd.deep, Nd.size]; omega
  | .alt l => by have := Nd.deeps_le l; simp only [Nd.deep, Nd.size]; omega
  | .rep x _ _ => by have := Nd.deep_le x; simp only [Nd.deep, Nd.size]; omega
  | .group _ x => by have := Nd.deep_le x; simp only [Nd.deep, Nd.size]; omega
  | .nil | .empty | .one _ | .back _ | .start | .fin => by simp [Nd.deep]
theorem Nd.deeps_le : ∀ l : List Nd, Nd.deeps l ≤ Nd.sizes l
  | [] => by simp [Nd.deeps]
  | t :: ts => by have := Nd.deep_le t; have := Nd.deeps_le ts; simp only [Nd.deeps, Nd.sizes]; omega
end
mutual
theorem Nd.groups_le : ∀ n : Nd, n.groups ≤ n.size
  | .cat l => by have := Nd.groupss_le l; simp only [Nd.groups, Nd.size]; omega
  | .alt l => by have := Nd.groupss_le l; simp only [Nd.groups, Nd.size]; omega
  | .rep x _ _ => by have := Nd.groups_le x; simp only [Nd.groups, Nd.size]; omega
  | .group _ x => by have := Nd.groups_le x; simp only [Nd.groups, Nd.size]; omega
  | .nil | .empty | .one _ | .back _ | .start | .fin => by simp [Nd.groups]
theorem Nd.groupss_le : ∀ l : List Nd, Nd.groupss l ≤ Nd.sizes l
  | [] => by simp [Nd.groupss]
  | t :: ts => by have := Nd.groups_le t; have := Nd.groupss_le ts; simp only [Nd.groupss, Nd.sizes]; omega
end

end Go.Proofs.Ytcmjgaadffffaaa
