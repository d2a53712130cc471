/-
  Merged texts of this claim: LawSames, RefJ.
-/
import Derived.Test.YtlchaocpejfikaaGreatDoorM34
import Derived.Test.YtlchaocpejfikaaGreatDoorM35

/-
  TreeSames: whether any two trees are the same is the document's. Where what the law reads is of bulk at most 1048576.
-/
namespace Go.Proofs.YtlchaocpejfikaaGreatDoor
open Go.RowKit
attribute [local go_sem ↓] Go.wp_at_zero Go.wp_at_succ

mutual
theorem T.nd_norm : ∀ t : T, t.nd.norm = t.nd
  | .mk k s ps mn mx nu => by
    have h1 := T.nds_norm ps
    have h2 := T.nd1_norm ps
    simp only [T.nd]
    split
    · simp [Nd.norm]
    split
    · simp [Nd.norm, h1]
    split
    · simp [Nd.norm, h1]
    split
    · simp [Nd.norm, h2]
    split
    · simp [Nd.norm, h2]
    split
    · simp [Nd.norm]
    split
    · simp [Nd.norm]
    split
    · simp [Nd.norm]
    · simp [Nd.norm]
theorem T.nds_norm : ∀ l : List T, Nd.norms (T.nds l) = T.nds l
  | [] => rfl
  | t :: ts => by simp only [T.nds, Nd.norms, T.nd_norm t, T.nds_norm ts]
theorem T.nd1_norm : ∀ l : List T, (T.nd1 l).norm = T.nd1 l
  | [] => rfl
  | t :: _ => by simp only [T.nd1, T.nd_norm t]
end
mutual
theorem T.nd_size : ∀ t : T, t.nd.size ≤ 2 * t.bulk
  | .mk k s ps mn mx nu => by
    have h1 := T.nds_size ps
    have h2 := T.nd1_size ps
    simp only [T.nd, T.bulk]
    split
    · simp only [Nd.size]; omega
    split
    · simp only [Nd.size]; omega
    split
    · simp only [Nd.size]; omega
    split
    · simp only [Nd.size]; omega
    split
    · simp only [Nd.size]; omega
    split
    · simp only [Nd.size]; omega
    split
    · simp only [Nd.size]; omega
    split
    · simp only [Nd.size]; omega
    · simp only [Nd.size]; omega
theorem T.nds_size : ∀ l : List T, Nd.sizes (T.nds l) ≤ 2 * T.bulks l
  | [] => by simp [T.nds, Nd.sizes]
  | t :: ts => by have := T.nd_size t; have := T.nds_size ts; simp only [T.nds, Nd.sizes, T.bulks]; omega
theorem T.nd1_size : ∀ l : List T, (T.nd1 l).size ≤ 1 + 2 * T.bulks l
  | [] => by simp [T.nd1, Nd.size]
  | t :: ts => by have := T.nd_size t; simp only [T.nd1, T.bulks]; omega
end
theorem T.nd_iface {S : Nat → Prop} {w : World} {t : T} {v : Value} (h : RN S w t.nd v) : ∃ i x, v = .iface i x := by
  rcases h.shape with rfl | h
  · have := T.nd_norm t
    have hn : t.nd = .nil := by
      rcases h.tyv with ⟨e, _⟩ | ⟨i, x, _, e⟩
      · generalize t.nd = n at *
        cases n <;> first | rfl | cases e
      · cases e
    rw [hn] at this
    cases this
  · exact h
theorem T.few_known {t : T} {m : Int} (h : t.few m = true) : t.known = true := by
  unfold T.few at h; simp only [Bool.and_eq_true] at h; exact h.2
theorem RN.any {S : Nat → Prop} {w : World} {n : Nd} {v : Value} (h : RN S w n v) : RN nob w n v := RN.keep (Fr.refl nob _) (fun _ _ x => x.elim) (fun _ _ x => x.elim) _ _ h

namespace treeSames
open Go.ChangeShapes Go.WideShapes Go.ChangeAt Go.RowKit

theorem own : ownKnob Tryz.prog.godebug = none := by kernel_rfl
theorem laidOut : laidOutB Tryz.prog = true := by kernel_rfl

end treeSames

end Go.Proofs.YtlchaocpejfikaaGreatDoor

/-
  Walks: Join, Choose of the document.
-/
namespace Go.Proofs.YtlchaocpejfikaaGreatDoor
open Go.RowKit

/-- What a part brings to a Cat; to an Alt. -/
def T.partT (t : T) : List T := if t.kind = 0 then [] else if t.kind = 2 then t.parts else [t]
def T.armT (t : T) : List T := if t.kind = 3 then t.parts else [t]
def partsT : List T → List T
  | [] => []
  | t :: ts => t.partT ++ partsT ts
def armsT : List T → List T
  | [] => []
  | t :: ts => t.armT ++ armsT ts
def onlyT (k : Int) : List T → T
  | [] => T.zero
  | [x] => x
  | x :: y :: l => .mk k S4.zero (x :: y :: l) 0 0 0
def joinT (l : List T) : T := onlyT 2 (partsT l)
def chooseT (l : List T) : T := onlyT 3 (armsT l)

theorem partsT_append (l m : List T) : partsT (l ++ m) = partsT l ++ partsT m := by
  induction l with
  | nil => rfl
  | cons t ts ih => simp only [List.cons_append, partsT, ih, List.append_assoc]
theorem armsT_append (l m : List T) : armsT (l ++ m) = armsT l ++ armsT m := by
  induction l with
  | nil => rfl
  | cons t ts ih => simp only [List.cons_append, armsT, ih, List.append_assoc]
theorem partsT_take {l : List T} {k : Nat} (h : k < l.length) : partsT (l.take (k + 1)) = partsT (l.take k) ++ l[k].partT := by
  rw [List.take_succ_eq_append_getElem h, partsT_append]; simp [partsT]
theorem armsT_take {l : List T} {k : Nat} (h : k < l.length) : armsT (l.take (k + 1)) = armsT (l.take k) ++ l[k].armT := by
  rw [List.take_succ_eq_append_getElem h, armsT_append]; simp [armsT]
theorem T.partT_bulk (t : T) : T.bulks t.partT ≤ t.bulk := by
  have := t.bulk_parts
  unfold T.partT; split
  · simp [T.bulks]
  split
  · omega
  · simp [T.bulks]
theorem T.armT_bulk (t : T) : T.bulks t.armT ≤ t.bulk := by
  have := t.bulk_parts
  unfold T.armT; split
  · omega
  · simp [T.bulks]
theorem partsT_bulk (l : List T) : T.bulks (partsT l) ≤ T.bulks l := by
  induction l with
  | nil => simp [partsT]
  | cons t ts ih => have := t.partT_bulk; simp only [partsT, T.bulks, T.bulks_append]; omega
theorem armsT_bulk (l : List T) : T.bulks (armsT l) ≤ T.bulks l := by
  induction l with
  | nil => simp [armsT]
  | cons t ts ih => have := t.armT_bulk; simp only [armsT, T.bulks, T.bulks_append]; omega

/-- The block of a result. -/
abbrev SRb (w : World) : Nat → Prop := fun k => k = w.heap.size

theorem late_ST {w wr : World} {g : Option Nat} {l : List T} {u : Value} (h : ST nob w l u) (f : Fr nob w wr) (hg : ∀ j, g = some j → w.heap.size < j) : ST (LS2 (SRb w) g) wr l u :=
  h.keep f (fun _ _ x => x) (fun k hk x => by
    rcases x with x | x
    · unfold SRb at x; omega
    · have := hg k x; omega)
theorem late_RT {w wr : World} {g : Option Nat} {t : T} {cs : List Value} (h : RT nob w t cs) (f : Fr nob w wr) (hg : ∀ j, g = some j → w.heap.size < j) : RT (LS2 (SRb w) g) wr t cs :=
  RT.keep f (fun _ _ x => x) (fun k hk x => by
    rcases x with x | x
    · unfold SRb at x; omega
    · have := hg k x; omega) _ _ h

end Go.Proofs.YtlchaocpejfikaaGreatDoor
