/-
  Programs in plain words: what is laid leads to what is there. No walk.
-/
import Derived.Test.YtcmjgaadffffaaaCodeG
namespace Go.Proofs.Ytcmjgaadffffaaa
open Go.RowKit

def cnt (l : List Ins) : Nat := l.countP (fun x => x.op == 7)
theorem cnt_append (l m : List Ins) : cnt (l ++ m) = cnt l + cnt m := List.countP_append
theorem cnt_le (l : List Ins) : cnt l ≤ l.length := List.countP_le_length
theorem cnt_one (x : Ins) : cnt [x] = if x.op = 7 then 1 else 0 := by unfold cnt; rw [List.countP_singleton]; simp
theorem cnt_pre {l m : List Ins} (h : l <+: m) : cnt l ≤ cnt m := by obtain ⟨t, rfl⟩ := h; rw [cnt_append]; omega
theorem cnt_take {l m : List Ins} (h : l <+: m) {i : Nat} (hi : i ≤ l.length) : cnt (m.take i) = cnt (l.take i) := by
  obtain ⟨t, rfl⟩ := h; rw [List.take_append_of_le_length hi]
/-- An instruction that leads to what is there. -/
def Good (l : List Ins) (e : Nat) (G : Int) (bk : Bool) (i : Nat) (x : Ins) : Prop :=
  (x.op = 0 ∨ x.op = 5 ∨ x.op = 6) ∨ (x.op = 1 ∧ x.x = i + 1 ∧ (i : Int) < x.y ∧ x.y ≤ e) ∨ (x.op = 2 ∧ 0 ≤ x.x ∧ x.x ≤ e ∧ x.x ≠ i) ∨ (x.op = 3 ∧ 0 ≤ x.x ∧ x.x ≤ 2 * G + 1) ∨
  (x.op = 4 ∧ 1 ≤ x.x ∧ x.x ≤ G ∧ bk = true) ∨ (x.op = 7 ∧ x.x = cnt (l.take i)) ∨ (x.op = 8 ∧ 0 ≤ x.x ∧ x.x < cnt (l.take i))
theorem Good.mono {l m : List Ins} {e e' : Nat} {G : Int} {bk bk' : Bool} {i : Nat} {x : Ins} (h : Good l e G bk i x) (hp : l <+: m) (hi : i ≤ l.length) (he : e ≤ e') (hb : bk = true → bk' = true) : Good m e' G bk' i x := by
  unfold Good at h ⊢
  rw [cnt_take hp hi]
  rcases h with h | ⟨h1, h2, h3, h4⟩ | ⟨h1, h2, h3, h4⟩ | h | ⟨h1, h2, h3, h4⟩ | h | h
  · exact .inl h
  · exact .inr (.inl ⟨h1, h2, h3, by omega⟩)
  · exact .inr (.inr (.inl ⟨h1, h2, by omega, h4⟩))
  · exact .inr (.inr (.inr (.inl h)))
  · exact .inr (.inr (.inr (.inr (.inl ⟨h1, h2, h3, hb h4⟩))))
  · exact .inr (.inr (.inr (.inr (.inr (.inl h)))))
  · exact .inr (.inr (.inr (.inr (.inr (.inr h)))))

/-- From one builder to the next: what was laid stays; what is new is good, or waits (P). -/
structure SegB (G : Int) (P : Nat → Ins → Prop) (s t : Bd) : Prop where
  fu : s.full = false
  pre : s.ins <+: t.ins
  bk : s.backs = true → t.backs = true
  lp : s.loops = cnt s.ins → t.loops = cnt t.ins
  gd : s.loops = cnt s.ins → ∀ i x, s.ins.length ≤ i → t.ins[i]? = some x → Good t.ins t.ins.length G t.backs i x ∨ P i x
def Seg (G : Int) (P : Nat → Ins → Prop) (s t : Bd) : Prop := t.full = false → SegB G P s t
abbrev NoP : Nat → Ins → Prop := fun _ _ => False
theorem Seg.refl (G : Int) (P : Nat → Ins → Prop) (s : Bd) : Seg G P s s := fun h => ⟨h, List.prefix_refl _, id, id, fun _ i x hi hx => by
  have := (List.getElem?_eq_some_iff.1 hx).1; omega⟩
theorem Seg.mono {G : Int} {P Q : Nat → Ins → Prop} {s t : Bd} (h : Seg G P s t) (hq : ∀ i x, s.ins.length ≤ i → t.ins[i]? = some x → P i x → Q i x) : Seg G Q s t := fun hf =>
  let h := h hf
  ⟨h.fu, h.pre, h.bk, h.lp, fun hl i x hi hx => (h.gd hl i x hi hx).imp id (hq i x hi hx)⟩
theorem get_pre {l m : List Ins} (h : l <+: m) {i : Nat} (hi : i < l.length) : m[i]? = l[i]? := by obtain ⟨t, rfl⟩ := h; exact List.getElem?_append_left hi
theorem Seg.trans {G : Int} {P : Nat → Ins → Prop} {s t u : Bd} (h : Seg G P s t) (k : Seg G P t u) : Seg G P s u := fun hf =>
  let k := k hf
  let h := h k.fu
  ⟨h.fu, h.pre.trans k.pre, fun hb => k.bk (h.bk hb), fun hl => k.lp (h.lp hl), fun hl i x hi hx => by
    by_cases hit : i < t.ins.length
    · rw [get_pre k.pre hit] at hx
      exact (h.gd hl i x hi hx).imp (fun g => g.mono k.pre (by omega) k.pre.length_le k.bk) id
    · exact k.gd (h.lp hl) i x (by omega) hx⟩
theorem put_full_iff {s : Bd} {x : Ins} (h : (s.put x).full = false) : s.full = false ∧ s.ins.length < 3000 ∧ s.put x = { s with ins := s.ins ++ [x] } ∧ s.at = s.ins.length := by
  unfold Bd.put Bd.at at *
  split at h
  · next hl => exact ⟨h, hl, by simp [hl], by simp [hl]⟩
  · cases h
/-- An instruction more, that is good or waits. -/
theorem Seg.put {G : Int} {P : Nat → Ins → Prop} {s : Bd} {x : Ins} (h7 : x.op ≠ 7) (h : s.loops = cnt s.ins → s.ins.length < 3000 → Good s.ins s.ins.length G s.backs s.ins.length x ∨ P s.ins.length x) : Seg G P s (s.put x) := fun hf => by
  obtain ⟨h1, h2, h3, _⟩ := put_full_iff hf
  rw [h3]
  refine ⟨h1, List.prefix_append _ _, id, fun hl => ?_, fun hl i y hi hy => ?_⟩
  · simp only [cnt_append, cnt_one, if_neg h7, hl]; simp
  · simp only at hy ⊢
    have hi' := (List.getElem?_eq_some_iff.1 hy).1
    simp at hi'
    obtain rfl : i = s.ins.length := by omega
    rw [List.getElem?_append_right (Nat.le_refl _)] at hy
    simp at hy
    subst hy
    exact (h hl h2).imp (fun g => g.mono (List.prefix_append _ _) (Nat.le_refl _) (by simp) id) id

/-! ### What leads elsewhere later -/
def Fix (f : Ins → Ins) : Prop := ∀ x, (f x).op = x.op
theorem cnt_modify {f : Ins → Ins} (hf : Fix f) (l : List Ins) (k : Nat) : cnt (l.modify k f) = cnt l := by
  induction l generalizing k with
  | nil => cases k <;> rfl
  | cons a l ih =>
    cases k with
    | zero => rw [List.modify_zero_cons]; unfold cnt; simp [List.countP_cons, hf a]
    | succ k => rw [List.modify_succ_cons]; unfold cnt at ih ⊢; simp [List.countP_cons, ih k]
theorem take_modify {f : Ins → Ins} (l : List Ins) (k i : Nat) : (l.modify k f).take i = (l.take i).modify k f := by
  induction l generalizing k i with
  | nil => cases k <;> simp
  | cons a l ih =>
    cases i with
    | zero => cases k <;> simp
    | succ i =>
      cases k with
      | zero => simp [List.modify_zero_cons]
      | succ k => simp [List.modify_succ_cons, ih]
theorem modify_app {f : Ins → Ins} (l m : List Ins) (k : Nat) (h : l.length ≤ k) : (l ++ m).modify k f = l ++ m.modify (k - l.length) f := by
  induction l generalizing k with
  | nil => simp
  | cons a l ih =>
    obtain ⟨k, rfl⟩ : ∃ j, k = j + 1 := ⟨k - 1, by simp at h; omega⟩
    rw [List.cons_append, List.modify_succ_cons, ih k (by simpa using h), List.cons_append, List.length_cons, Nat.add_sub_add_right]
theorem Good.mod {f : Ins → Ins} (hf : Fix f) {l : List Ins} {e : Nat} {G : Int} {bk : Bool} {i k : Nat} {x : Ins} : Good (l.modify k f) e G bk i x ↔ Good l e G bk i x := by
  unfold Good; rw [take_modify, cnt_modify hf]
/-- One that waits is good now. -/
theorem Seg.modify {G : Int} {P Q : Nat → Ins → Prop} {s t : Bd} (h : Seg G P s t) (k : Nat) (hk : s.ins.length ≤ k) (f : Ins → Ins) (hf : Fix f)
    (hfix : t.full = false → ∀ x, t.ins[k]? = some x → s.loops = cnt s.ins → Good t.ins t.ins.length G t.backs k (f x) ∨ Q k (f x)) (hq : ∀ i x, i ≠ k → P i x → Q i x) : Seg G Q s { t with ins := t.ins.modify k f } := fun hfu =>
  let h := h hfu
  ⟨h.fu, by
    obtain ⟨seg, hs⟩ := h.pre
    refine ⟨seg.modify (k - s.ins.length) f, ?_⟩
    simp only
    rw [← hs, modify_app _ _ _ hk], h.bk, fun hl => by simp only [cnt_modify hf]; exact h.lp hl, fun hl i x hi hx => by
    simp only [List.length_modify] at hx ⊢
    rw [Good.mod hf]
    by_cases hik : i = k
    · subst hik
      rw [List.getElem?_modify] at hx
      cases hy : t.ins[i]? with
      | none => rw [hy] at hx; cases hx
      | some y =>
        rw [hy] at hx
        simp at hx
        subst hx
        exact hfix hfu y hy hl
    · have hx' : t.ins[i]? = some x := by rw [List.getElem?_modify] at hx; simpa [Ne.symm hik] using hx
      exact (h.gd hl i x hi hx').imp id (hq i x hik)⟩

end Go.Proofs.Ytcmjgaadffffaaa
