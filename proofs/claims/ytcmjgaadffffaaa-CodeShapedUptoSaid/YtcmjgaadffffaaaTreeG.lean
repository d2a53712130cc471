/-
  Walks of package tree: Join, Choose.
-/
import Derived.Test.YtcmjgaadffffaaaTreeF
namespace Go.Proofs.Ytcmjgaadffffaaa
open Go.RowKit

/-- What a part brings to a Cat; to an Alt. -/
def Nd.part : Nd → List Nd
  | .nil | .empty => []
  | .cat l => l
  | n => [n]
def Nd.arm : Nd → List Nd
  | .alt l => l
  | n => [n.told]
def parts : List Nd → List Nd
  | [] => []
  | t :: ts => t.part ++ parts ts
def arms : List Nd → List Nd
  | [] => []
  | t :: ts => t.arm ++ arms ts
def joined (l : List Nd) : Nd := onlyOf (parts l) (.cat (parts l))
def chosen (l : List Nd) : Nd := onlyOf (arms l) (.alt (arms l))

theorem Nd.part_sizes (n : Nd) : Nd.sizes n.part ≤ n.size := by
  cases n <;> simp only [Nd.part, Nd.sizes, Nd.size] <;> omega
theorem Nd.arm_sizes (n : Nd) : Nd.sizes n.arm ≤ n.size := by
  cases n <;> simp only [Nd.arm, Nd.told, Nd.sizes, Nd.size] <;> omega
theorem parts_sizes (l : List Nd) : Nd.sizes (parts l) ≤ Nd.sizes l := by
  induction l with
  | nil => simp [parts]
  | cons t ts ih => have := t.part_sizes; simp only [parts, Nd.sizes, Nd.sizes_append]; omega
theorem arms_sizes (l : List Nd) : Nd.sizes (arms l) ≤ Nd.sizes l := by
  induction l with
  | nil => simp [arms]
  | cons t ts ih => have := t.arm_sizes; simp only [arms, Nd.sizes, Nd.sizes_append]; omega
theorem parts_append (l m : List Nd) : parts (l ++ m) = parts l ++ parts m := by
  induction l with
  | nil => rfl
  | cons t ts ih => simp only [List.cons_append, parts, ih, List.append_assoc]
theorem arms_append (l m : List Nd) : arms (l ++ m) = arms l ++ arms m := by
  induction l with
  | nil => rfl
  | cons t ts ih => simp only [List.cons_append, arms, ih, List.append_assoc]
theorem parts_take {l : List Nd} {k : Nat} (h : k < l.length) : parts (l.take (k + 1)) = parts (l.take k) ++ l[k].part := by
  rw [List.take_succ_eq_append_getElem h, parts_append]; simp [parts]
theorem arms_take {l : List Nd} {k : Nat} (h : k < l.length) : arms (l.take (k + 1)) = arms (l.take k) ++ l[k].arm := by
  rw [List.take_succ_eq_append_getElem h, arms_append]; simp [arms]

/-- The slice that Join, Choose build, behind some rounds: it lies behind the world w. -/
def Built (w : World) (l : List Nd) (v : Value) (wr : World) : Prop := ∃ g, OwnN wr l v g ∧ Fr nob w wr ∧ ∀ k, g = some k → w.heap.size ≤ k

theorem Built.nil (w : World) : Built w [] (.slice none 0 0) w := ⟨none, OwnN.nil w, Fr.refl _ _, fun _ h => by cases h⟩
theorem Built.on {w wr w' : World} {l : List Nd} {v : Value} (h : Built w l v wr) (f : Fr nob wr w') : Built w l v w' := by
  obtain ⟨g, h1, h2, h3⟩ := h; exact ⟨g, h1.on f, h2.trans' f, h3⟩
theorem Built.shape {w wr : World} {l : List Nd} {v : Value} (h : Built w l v wr) : ∃ a c, v = .slice a l.length c := by
  obtain ⟨g, h1, h2, h3⟩ := h; exact h1.shape
theorem Built.fr {w wr : World} {l : List Nd} {v : Value} (h : Built w l v wr) : Fr nob w wr := by
  obtain ⟨g, h1, h2, h3⟩ := h; exact h2
theorem Built.sn {w wr : World} {l : List Nd} {v : Value} (h : Built w l v wr) : SN nob wr l v := by
  obtain ⟨g, h1, h2, h3⟩ := h; exact h1.sn

theorem wpList_append_bt {W w : World} {ops : Array Oper} {rest : List Oper} {o : Oper} {a : Act} {Q : Exit → Act → World → Prop} (hgd : o.guard = none) (s x : Operand)
    (ho : o.op = .call { callee := .builtin .append, args := #[s, x], argTypes := #[61, 61] })
    (l m : List Nd) (v ux : Value) (hs : a.eval s = v) (hown : Built W l v w) (hx : a.eval x = ux)
    (hm : ∀ g, (∀ k, g = some k → W.heap.size ≤ k) → OwnN w l v g → SN (LG g) w m ux) (hb : l.length + m.length ≤ 3000000)
    (h : ∀ v' w', Built W (l ++ m) v' w' → wpList Try.prog ops Q rest (a.put o.dst v') w') : wpList Try.prog ops Q (o :: rest) a w := by
  obtain ⟨g, h1, h2, h3⟩ := hown
  refine wpList_append_sn hgd s x ho l m v ux g hs h1 hx (hm g h3 h1) hb fun v' w' g' q1 q2 q3 => h v' w' ⟨g', q1, ?_, ?_⟩
  · exact h2.trans q2 (fun i hi hg => by have := h3 i hg; omega)
  · intro k hk
    have := h2.size
    rcases q3 k hk with h | h
    · exact h3 k h
    · omega

/-- What lay in W, seen from a world behind, where a slice of the call's own lies. -/
theorem SN.behind {W w : World} {m : List Nd} {u : Value} {g : Option Nat} (h : SN nob W m u) (f : Fr nob W w) (hg : ∀ k, g = some k → W.heap.size ≤ k) : SN (LG g) w m u :=
  h.keep f (fun _ _ x => x) (fun k hk x => by have := hg k x; omega)
theorem RN.behind {W w : World} {m : Nd} {u : Value} {g : Option Nat} (h : RN nob W m u) (f : Fr nob W w) (hg : ∀ k, g = some k → W.heap.size ≤ k) : RN (LG g) w m u :=
  RN.keep f (fun _ _ x => x) (fun k hk x => by have := hg k x; omega) _ _ h
theorem OwnN.lt {w : World} {l : List Nd} {v : Value} {g : Option Nat} (h : OwnN w l v g) : ∀ k, LG g k → k < w.heap.size := by
  intro k hk
  obtain ⟨vs, hown, _, hg⟩ := h
  rcases hown.2 with ⟨rfl, _⟩ | ⟨r, cap, cur, rfl, _, hr, _⟩
  · rw [← hg] at hk; cases hk
  · rw [← hg] at hk; injection hk with hk; subst hk; exact lt_heap hr

theorem OwnN.blk {w : World} {l : List Nd} {v : Value} {g : Option Nat} (h : OwnN w l v g) : v.ownBlock = g := by
  obtain ⟨_, _, _, h⟩ := h; exact h
theorem Built.lt {w wr : World} {l : List Nd} {v : Value} (h : Built w l v wr) : ∀ k, v.ownBlock = some k → k < wr.heap.size := by
  obtain ⟨g, h1, h2, h3⟩ := h
  intro k hk
  rw [h1.blk] at hk
  exact h1.lt k hk

end Go.Proofs.Ytcmjgaadffffaaa
