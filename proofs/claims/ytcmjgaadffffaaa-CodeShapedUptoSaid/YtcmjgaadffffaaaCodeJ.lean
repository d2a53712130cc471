/-
  Programs in plain words: the whole program; how long it is; a map of what was entered. No walk.
-/
import Derived.Test.YtcmjgaadffffaaaCodeI
import Derived.Maps.OwnSet
import Derived.Maps.OwnOps
import Derived.Maps.Views
namespace Go.Proofs.Ytcmjgaadffffaaa
open Go.RowKit

mutual
theorem look_nums : ∀ (n : Nd) (o : Int) (c : List Int) (o' : Int) (c' : List Int), n.look o c = some (o', c') → 0 ≤ o → (∀ k ∈ c, 1 ≤ k ∧ k ≤ o) → o' = o + n.groups ∧ (∀ k ∈ c', 1 ≤ k ∧ k ≤ o') ∧ ∀ G, o' ≤ G → n.nums G
  | .cat l, o, c, o', c', h, h0, hc => by
    simp only [Nd.look] at h
    split at h
    · have := looks_nums l o c o' c' h h0 hc; simpa only [Nd.nums, Nd.groups] using this
    · cases h
  | .alt l, o, c, o', c', h, h0, hc => by
    simp only [Nd.look] at h
    split at h
    · have := looks_nums l o c o' c' h h0 hc; simpa only [Nd.nums, Nd.groups] using this
    · cases h
  | .rep x _ _, o, c, o', c', h, h0, hc => by
    simp only [Nd.look] at h
    split at h
    · have := look_nums x o c o' c' h h0 hc; simpa only [Nd.nums, Nd.groups] using this
    · cases h
  | .group n x, o, c, o', c', h, h0, hc => by
    simp only [Nd.look] at h
    split at h
    · next hn =>
      have hn : n = o + 1 := by simpa using hn
      split at h
      · cases h
      · next a b e =>
        obtain ⟨h1, h2, h3⟩ := look_nums x (o + 1) c a b e (by omega) (fun k hk => by have := hc k hk; omega)
        injection h with h; injection h with h4 h5; subst h4; subst h5
        refine ⟨by simp only [Nd.groups]; omega, fun k hk => ?_, fun G hG => ?_⟩
        · rcases List.mem_append.1 hk with hk | hk
          · exact h2 k hk
          · have : k = n := by simpa using hk
            omega
        · rw [Nd.nums]; exact ⟨by omega, by omega, h3 G hG⟩
    · cases h
  | .back n, o, c, o', c', h, h0, hc => by
    simp only [Nd.look] at h
    split at h
    · next hn =>
      injection h with h; injection h with h1 h2; subst h1; subst h2
      have hm := hc n (by simpa using hn)
      exact ⟨by simp [Nd.groups], hc, fun G hG => by rw [Nd.nums]; omega⟩
    · cases h
  | .nil, o, c, o', c', h, h0, hc => by simp only [Nd.look] at h; injection h with h; injection h with h1 h2; subst h1; subst h2; exact ⟨by simp [Nd.groups], hc, fun G hG => by simp only [Nd.nums]⟩
  | .empty, o, c, o', c', h, h0, hc => by simp only [Nd.look] at h; injection h with h; injection h with h1 h2; subst h1; subst h2; exact ⟨by simp [Nd.groups], hc, fun G hG => by simp only [Nd.nums]⟩
  | .one _, o, c, o', c', h, h0, hc => by simp only [Nd.look] at h; injection h with h; injection h with h1 h2; subst h1; subst h2; exact ⟨by simp [Nd.groups], hc, fun G hG => by simp only [Nd.nums]⟩
  | .start, o, c, o', c', h, h0, hc => by simp only [Nd.look] at h; injection h with h; injection h with h1 h2; subst h1; subst h2; exact ⟨by simp [Nd.groups], hc, fun G hG => by simp only [Nd.nums]⟩
  | .fin, o, c, o', c', h, h0, hc => by simp only [Nd.look] at h; injection h with h; injection h with h1 h2; subst h1; subst h2; exact ⟨by simp [Nd.groups], hc, fun G hG => by simp only [Nd.nums]⟩
theorem looks_nums : ∀ (l : List Nd) (o : Int) (c : List Int) (o' : Int) (c' : List Int), Nd.looks l o c = some (o', c') → 0 ≤ o → (∀ k ∈ c, 1 ≤ k ∧ k ≤ o) → o' = o + Nd.groupss l ∧ (∀ k ∈ c', 1 ≤ k ∧ k ≤ o') ∧ ∀ G, o' ≤ G → Nd.numss G l
  | [], o, c, o', c', h, h0, hc => by simp only [Nd.looks] at h; injection h with h; injection h with h1 h2; subst h1; subst h2; exact ⟨by simp [Nd.groupss], hc, fun G hG => by simp only [Nd.numss]⟩
  | t :: ts, o, c, o', c', h, h0, hc => by
    simp only [Nd.looks] at h
    split at h
    · cases h
    · next a b e =>
      obtain ⟨h1, h2, h3⟩ := look_nums t o c a b e h0 hc
      obtain ⟨h4, h5, h6⟩ := looks_nums ts a b o' c' h (by omega) h2
      exact ⟨by simp only [Nd.groupss]; omega, h5, fun G hG => by rw [Nd.numss]; exact ⟨h3 G (by omega), h6 G hG⟩⟩
end
theorem right_nums {n : Nd} (h : n.right = true) : n.nums n.groups := by
  unfold Nd.right at h
  cases hq : n.look 0 [] with
  | none => rw [hq] at h; cases h
  | some x =>
    obtain ⟨h1, _, h3⟩ := look_nums n 0 [] x.1 x.2 hq (Int.le_refl _) (fun k hk => by cases hk)
    exact h3 _ (by omega)

/-! ### The number of groups stays -/
theorem groups_put (s : Bd) (i : Ins) : (s.put i).groups = s.groups := by unfold Bd.put; split <;> rfl
theorem groups_setYs : ∀ (l : List Int) (s : Bd), (Bd.setYs l s).groups = s.groups
  | [], _ => rfl
  | i :: l, s => groups_setYs l (s.setY i)
theorem groups_setXs : ∀ (l : List Int) (s : Bd), (Bd.setXs l s).groups = s.groups
  | [], _ => rfl
  | i :: l, s => groups_setXs l (s.setX i)
def GrF (f : Bd → Bd) : Prop := ∀ s : Bd, (f s).groups = s.groups
theorem groups_round {f : Bd → Bd} (hf : GrF f) (s : Bd) : (roundF f s).groups = s.groups := by unfold roundF; rw [groups_put, hf, groups_put]; rfl
theorem groups_repMin {f : Bd → Bd} (hf : GrF f) : ∀ n (s : Bd), (repMin f n s).groups = s.groups
  | 0, _ => rfl
  | n + 1, s => by rw [repMin]; split; exact hf s; rw [groups_repMin hf n, hf]
theorem groups_repOpt {f : Bd → Bd} (hf : GrF f) : ∀ n (s : Bd) (sp : List Int), (repOpt f n s sp).1.groups = s.groups
  | 0, _, _ => rfl
  | n + 1, s, sp => by rw [repOpt]; split; rfl; rw [groups_repOpt hf n, groups_round hf]; exact groups_put _ _
theorem groups_repF {f : Bd → Bd} (hf : GrF f) (mn mx : Int) (s : Bd) : (repF f mn mx s).groups = s.groups := by
  unfold repF
  simp only
  split
  · show (Bd.put _ _).groups = _
    rw [groups_put, groups_round hf]; exact (groups_put _ _).trans (groups_repMin hf _ _)
  · rw [groups_setYs, groups_repOpt hf, groups_repMin hf]
mutual
theorem groups_lay : ∀ (n : Nd) (s : Bd), (n.lay s).groups = s.groups
  | .one _, s => by rw [Nd.lay]; split; rfl; exact groups_put _ _
  | .start, s => by rw [Nd.lay]; split; rfl; exact groups_put _ _
  | .fin, s => by rw [Nd.lay]; split; rfl; exact groups_put _ _
  | .back _, s => by rw [Nd.lay]; split; rfl; exact groups_put _ _
  | .cat l, s => by rw [Nd.lay]; split; rfl; exact groups_lays l s
  | .alt l, s => by rw [Nd.lay]; split; rfl; rw [groups_setXs]; exact groups_layAlt l s []
  | .group k x, s => by rw [Nd.lay]; split; rfl; rw [groups_put, groups_lay x, groups_put]
  | .rep x mn mx, s => by rw [Nd.lay]; split; rfl; exact groups_repF (groups_lay x) mn mx s
  | .nil, s => by rw [Nd.lay]
  | .empty, s => by rw [Nd.lay]
theorem groups_lays : ∀ (l : List Nd) (s : Bd), (Nd.lays l s).groups = s.groups
  | [], s => by rw [Nd.lays]
  | t :: ts, s => by rw [Nd.lays, groups_lays ts, groups_lay t]
theorem groups_layAlt : ∀ (l : List Nd) (s : Bd) (js : List Int), (Nd.layAlt l s js).1.groups = s.groups
  | [], s, js => by rw [Nd.layAlt]
  | [t], s, js => by rw [Nd.layAlt]; exact groups_lay t s
  | t :: u :: ts, s, js => by
    rw [Nd.layAlt, groups_layAlt (u :: ts)]
    show (Bd.put _ _).groups = _
    rw [groups_put, groups_lay t]; exact groups_put _ _
end

/-- Where an instruction of the whole program leads. -/
def OkAt (L : List Ins) (G : Int) (bk : Bool) (i : Nat) (x : Ins) : Prop := (i + 1 = L.length ∧ x.op = 9) ∨ (i + 1 < L.length ∧ Good L (L.length - 1) G bk i x)
theorem comp_shape {n : Nd} (hr : n.right = true) (hf : n.comp.full = false) :
    1 ≤ n.comp.ins.length ∧ n.comp.ins.length ≤ 3000 ∧ n.comp.loops = cnt n.comp.ins ∧ n.comp.groups = n.groups ∧ ∀ i x, n.comp.ins[i]? = some x → OkAt n.comp.ins n.groups n.comp.backs i x := by
  have ok0 := comp0_ok n
  have u1 := up_lay n _ ok0
  have ok1 := u1.ok ok0
  have hgr : n.comp.groups = n.groups := by unfold Nd.comp; rw [groups_put, groups_put, groups_lay]; unfold Nd.comp0; exact groups_put _ _
  have hseg := lay_seg (G := n.groups) n _ ok0 (right_nums hr)
  have hall : Up n.comp0 n.comp := (u1.trans (up_put ok1 (mkI 3 1 0))).trans (up_put ((up_put ok1 (mkI 3 1 0)).ok ok1) (mkI 9 0 0))
  obtain ⟨t, ht⟩ : ∃ t, n.lay n.comp0 = t := ⟨_, rfl⟩
  have hc : n.comp = (t.put (mkI 3 1 0)).put (mkI 9 0 0) := by rw [← ht]; rfl
  rw [ht] at hseg u1
  obtain ⟨a1, a2, a3, _⟩ := put_full_iff (show ((t.put (mkI 3 1 0)).put (mkI 9 0 0)).full = false by rw [← hc]; exact hf)
  obtain ⟨b1, b2, b3, _⟩ := put_full_iff a1
  have hins : n.comp.ins = t.ins ++ [mkI 3 1 0, mkI 9 0 0] := by rw [hc, a3, b3]; simp
  have hlp : n.comp.loops = t.loops := by rw [hc, a3, b3]
  have hbk : n.comp.backs = t.backs := by rw [hc, a3, b3]
  have sg := hseg b1
  have h0 : n.comp0.ins = [mkI 3 0 0] := rfl
  have hl0 : n.comp0.loops = cnt n.comp0.ins := rfl
  have hc2 : cnt [mkI 3 1 0, mkI 9 0 0] = 0 := rfl
  refine ⟨Nat.le_trans ok0.lo hall.le, hall.hi, ?_, hgr, fun i x hx => ?_⟩
  · rw [hlp, sg.lp hl0, hins, cnt_append, hc2]; rfl
  · rw [hins] at hx ⊢
    rw [hbk]
    unfold OkAt
    have hlen : (t.ins ++ [mkI 3 1 0, mkI 9 0 0]).length = t.ins.length + 2 := by simp
    rw [hlen]
    by_cases hi : i < t.ins.length
    · right
      refine ⟨by omega, ?_⟩
      rw [List.getElem?_append_left hi] at hx
      by_cases h1 : 1 ≤ i
      · exact ((sg.gd hl0 i x (by rw [h0]; exact h1) hx).resolve_right id).mono (List.prefix_append _ _) (by omega) (by omega) id
      · obtain rfl : i = 0 := by omega
        have := get_pre sg.pre (i := 0) (by rw [h0]; simp)
        rw [hx, h0] at this
        simp at this
        subst this
        exact .inr (.inr (.inr (.inl ⟨rfl, by show (0 : Int) ≤ 0; omega, by show (0 : Int) ≤ 2 * n.groups + 1; omega⟩)))
    · rw [List.getElem?_append_right (by omega)] at hx
      by_cases h1 : i = t.ins.length
      · subst h1
        right
        simp at hx
        subst hx
        exact ⟨by omega, .inr (.inr (.inr (.inl ⟨rfl, by show (0 : Int) ≤ 1; omega, by show (1 : Int) ≤ 2 * n.groups + 1; omega⟩)))⟩
      · left
        have hi2 : i - t.ins.length < 2 := by have := lt_of_get hx; simpa using this
        obtain rfl : i = t.ins.length + 1 := by omega
        simp at hx
        subst hx
        exact ⟨rfl, rfl⟩

/-! ### How many instructions -/
mutual
/-- How many a node without a Rep has. -/
def Nd.isz : Nd → Option Nat
  | .cat l => Nd.iszs l
  | .alt l => (Nd.iszs l).map (2 * (l.length - 1) + ·)
  | .rep _ _ _ => none
  | .group _ x => x.isz.map (2 + ·)
  | .one _ | .start | .fin | .back _ => some 1
  | .nil | .empty => some 0
def Nd.iszs : List Nd → Option Nat
  | [] => some 0
  | t :: ts => match t.isz, Nd.iszs ts with
    | some a, some b => some (a + b)
    | _, _ => none
end
theorem put_room {s : Bd} {i : Ins} (h : s.ins.length < 3000) : s.put i = { s with ins := s.ins ++ [i] } := by unfold Bd.put; rw [if_pos h]
/-- So much longer, and no more. -/
structure Grew (s t : Bd) (k : Nat) : Prop where
  len : t.ins.length = s.ins.length + k
  fu : t.full = false
  lp : t.loops = s.loops
theorem Grew.trans {s t u : Bd} {a b : Nat} (h : Grew s t a) (k : Grew t u b) : Grew s u (a + b) := ⟨by rw [k.len, h.len]; omega, k.fu, k.lp.trans h.lp⟩
theorem grew_put {s : Bd} {i : Ins} (hf : s.full = false) (h : s.ins.length + 1 ≤ 3000) : Grew s (s.put i) 1 := by rw [put_room (by omega)]; exact ⟨by simp, hf, rfl⟩
theorem grew_setY {s t : Bd} {k : Nat} (h : Grew s t k) (i : Int) : Grew s (t.setY i) k := ⟨by simp [Bd.setY, h.len], h.fu, h.lp⟩
theorem grew_setXs {s : Bd} {k : Nat} : ∀ (l : List Int) {t : Bd}, Grew s t k → Grew s (Bd.setXs l t) k
  | [], _, h => h
  | i :: l, _, h => grew_setXs l ⟨by simp [Bd.setX, h.len], h.fu, h.lp⟩
mutual
theorem grew_lay : ∀ (n : Nd) (s : Bd) (k : Nat), n.isz = some k → n.fine → s.full = false → s.ins.length + k ≤ 3000 → Grew s (n.lay s) k
  | .one _, s, k, h, _, hf, hl => by rw [Nd.lay, if_neg (by rw [hf]; simp)]; simp only [Nd.isz] at h; injection h with h; subst h; exact grew_put hf hl
  | .start, s, k, h, _, hf, hl => by rw [Nd.lay, if_neg (by rw [hf]; simp)]; simp only [Nd.isz] at h; injection h with h; subst h; exact grew_put hf hl
  | .fin, s, k, h, _, hf, hl => by rw [Nd.lay, if_neg (by rw [hf]; simp)]; simp only [Nd.isz] at h; injection h with h; subst h; exact grew_put hf hl
  | .back _, s, k, h, _, hf, hl => by
    rw [Nd.lay, if_neg (by rw [hf]; simp)]; simp only [Nd.isz] at h; injection h with h; subst h
    have := grew_put (i := mkI 4 ‹Int› 0) hf hl
    exact ⟨this.len, this.fu, this.lp⟩
  | .cat l, s, k, h, hi, hf, hl => by rw [Nd.lay, if_neg (by rw [hf]; simp)]; rw [Nd.fine] at hi; exact grew_lays l s k (by simpa only [Nd.isz] using h) hi hf hl
  | .alt l, s, k, h, hi, hf, hl => by
    rw [Nd.lay, if_neg (by rw [hf]; simp)]; rw [Nd.fine] at hi
    simp only [Nd.isz, Option.map_eq_some_iff] at h
    obtain ⟨a, h1, h2⟩ := h
    subst h2
    exact grew_setXs _ (grew_layAlt l s [] a h1 hi.2 hi.1 hf (by omega))
  | .group g x, s, k, h, hi, hf, hl => by
    rw [Nd.lay, if_neg (by rw [hf]; simp)]; rw [Nd.fine] at hi
    simp only [Nd.isz, Option.map_eq_some_iff] at h
    obtain ⟨a, h1, h2⟩ := h
    subst h2
    have g1 := grew_put (i := mkI 3 (2 * g) 0) hf (by omega)
    have g2 := g1.trans (grew_lay x _ a h1 hi.2 g1.fu (by rw [g1.len]; omega))
    have g3 := g2.trans (grew_put (i := mkI 3 (2 * g + 1) 0) g2.fu (by rw [g2.len]; omega))
    exact ⟨by rw [g3.len]; omega, g3.fu, g3.lp⟩
  | .rep _ _ _, s, k, h, _, _, _ => by simp [Nd.isz] at h
  | .nil, s, k, h, _, hf, _ => by rw [Nd.lay]; simp only [Nd.isz] at h; injection h with h; subst h; exact ⟨rfl, hf, rfl⟩
  | .empty, s, k, h, _, hf, _ => by rw [Nd.lay]; simp only [Nd.isz] at h; injection h with h; subst h; exact ⟨rfl, hf, rfl⟩
theorem grew_lays : ∀ (l : List Nd) (s : Bd) (k : Nat), Nd.iszs l = some k → Nd.fines l → s.full = false → s.ins.length + k ≤ 3000 → Grew s (Nd.lays l s) k
  | [], s, k, h, _, hf, _ => by rw [Nd.lays]; simp only [Nd.iszs] at h; injection h with h; subst h; exact ⟨rfl, hf, rfl⟩
  | t :: ts, s, k, h, hi, hf, hl => by
    rw [Nd.lays]; rw [Nd.fines] at hi
    simp only [Nd.iszs] at h
    split at h
    · next a b h1 h2 =>
      injection h with h; subst h
      have g1 := grew_lay t s a h1 hi.1 hf (by omega)
      exact g1.trans (grew_lays ts _ b h2 hi.2 g1.fu (by rw [g1.len]; omega))
    · cases h
theorem grew_layAlt : ∀ (l : List Nd) (s : Bd) (js : List Int) (k : Nat), Nd.iszs l = some k → Nd.fines l → l ≠ [] → s.full = false → s.ins.length + (2 * (l.length - 1) + k) ≤ 3000 → Grew s (Nd.layAlt l s js).1 (2 * (l.length - 1) + k)
  | [], _, _, _, _, _, h, _, _ => absurd rfl h
  | [t], s, js, k, h, hi, _, hf, hl => by
    rw [Nd.layAlt]; rw [Nd.fines] at hi
    simp only [Nd.iszs] at h
    split at h
    · next a b h1 h2 =>
      injection h with h; injection h2 with h2; subst h2; subst h
      have := grew_lay t s a h1 hi.1 hf (by simp at hl; omega)
      simpa using this
    · cases h
  | t :: u :: ts, s, js, k, h, hi, _, hf, hl => by
    rw [Nd.layAlt]; rw [Nd.fines] at hi
    rw [Nd.iszs] at h
    split at h
    · next a b h1 h2 =>
      injection h with h; subst h
      simp only [List.length_cons] at hl
      have g1 : Grew s s.split 1 := grew_put hf (by omega)
      have g2 := g1.trans (grew_lay t _ a h1 hi.1 g1.fu (by rw [g1.len]; omega))
      have g3 := g2.trans (grew_put (i := mkI 2 0 0) g2.fu (by rw [g2.len]; omega))
      have g4 := grew_setY g3 s.at
      have g5 := g4.trans (grew_layAlt (u :: ts) _ (js ++ [(t.lay s.split).at]) b h2 hi.2 (by simp) g4.fu (by rw [g4.len]; simp only [List.length_cons]; omega))
      exact ⟨by rw [g5.len]; simp only [List.length_cons]; omega, g5.fu, g5.lp⟩
    · cases h
end
mutual
theorem isz_le : ∀ (n : Nd) (k : Nat), n.isz = some k → k + 2 ≤ 4 * n.size
  | .one _, k, h => by simp only [Nd.isz] at h; injection h with h; subst h; simp [Nd.size]
  | .start, k, h => by simp only [Nd.isz] at h; injection h with h; subst h; simp [Nd.size]
  | .fin, k, h => by simp only [Nd.isz] at h; injection h with h; subst h; simp [Nd.size]
  | .back _, k, h => by simp only [Nd.isz] at h; injection h with h; subst h; simp [Nd.size]
  | .nil, k, h => by simp only [Nd.isz] at h; injection h with h; subst h; simp [Nd.size]
  | .empty, k, h => by simp only [Nd.isz] at h; injection h with h; subst h; simp [Nd.size]
  | .rep _ _ _, k, h => by simp [Nd.isz] at h
  | .group _ x, k, h => by
    simp only [Nd.isz, Option.map_eq_some_iff] at h
    obtain ⟨a, h1, h2⟩ := h
    have := isz_le x a h1
    simp only [Nd.size]; omega
  | .cat l, k, h => by have := iszs_le l k (by simpa only [Nd.isz] using h); simp only [Nd.size]; omega
  | .alt l, k, h => by
    simp only [Nd.isz, Option.map_eq_some_iff] at h
    obtain ⟨a, h1, h2⟩ := h
    have := iszs_le l a h1
    simp only [Nd.size]; omega
theorem iszs_le : ∀ (l : List Nd) (k : Nat), Nd.iszs l = some k → k + 2 * l.length ≤ 4 * Nd.sizes l
  | [], k, h => by simp only [Nd.iszs] at h; injection h with h; subst h; simp [Nd.sizes]
  | t :: ts, k, h => by
    simp only [Nd.iszs] at h
    split at h
    · next a b h1 h2 =>
      injection h with h; subst h
      have := isz_le t a h1; have := iszs_le ts b h2
      simp only [Nd.sizes, List.length_cons]; omega
    · cases h
end
theorem comp_size {n : Nd} {k : Nat} (hr : n.right = true) (hn : n.size ≤ 200) (h : n.isz = some k) : n.comp.full = false ∧ n.comp.ins.length = k + 3 ∧ n.comp.loops = 0 := by
  have hk := isz_le n k h
  have g1 := grew_lay n n.comp0 k h (right_fine hr (by omega)) rfl (by show 1 + k ≤ 3000; omega)
  have h1 : (n.lay n.comp0).ins.length = 1 + k := g1.len
  have g2 := g1.trans (grew_put (i := mkI 3 1 0) g1.fu (by omega))
  have g3 := g2.trans (grew_put (i := mkI 9 0 0) g2.fu (by rw [g2.len]; show 1 + (k + 1) + 1 ≤ 3000; omega))
  refine ⟨g3.fu, ?_, g3.lp⟩
  have : n.comp.ins.length = 1 + (k + 1 + 1) := g3.len
  omega

/-! ### A byte so many times -/
theorem one_lay (c : S4) (s : Bd) (hf : s.full = false) : (Nd.one c).lay s = s.put ⟨0, c, 0, 0⟩ := by rw [Nd.lay, if_neg (by rw [hf]; simp)]
/-- From a builder that is not full: so many more, or full. -/
def Many (k : Nat) (s t : Bd) : Prop := (s.ins.length + k ≤ 3000 → Grew s t k) ∧ (3000 < s.ins.length + k → t.full = true)
theorem full_repMin {f : Bd → Bd} (hf : ∀ s : Bd, s.full = true → f s = s) : ∀ n (s : Bd), s.full = true → repMin f n s = s
  | 0, _, _ => rfl
  | n + 1, s, h => by rw [repMin, hf s h, if_pos rfl]
theorem many_repMin {f : Bd → Bd} {k : Nat} (hfull : ∀ s : Bd, s.full = true → f s = s) (hf : ∀ s : Bd, s.full = false → s.ins.length ≤ 3000 → Many k s (f s)) :
    ∀ n (s : Bd), s.full = false → s.ins.length ≤ 3000 → Many (n * k) s (repMin f n s)
  | 0, s, h, hl => ⟨fun _ => ⟨by rw [repMin]; simp, h, rfl⟩, fun h' => by omega⟩
  | n + 1, s, h, hl => by
    have hm := hf s h hl
    have e : (n + 1) * k = k + n * k := by rw [Nat.add_mul]; omega
    rw [e, repMin]
    by_cases hfit : s.ins.length + k ≤ 3000
    · have g := hm.1 hfit
      by_cases hk : k = 0
      · subst hk
        rw [if_pos (by rw [g.len]; rfl)]
        simpa using hm
      · rw [if_neg (by rw [g.len]; omega)]
        obtain ⟨r1, r2⟩ := many_repMin hfull hf n (f s) g.fu (by rw [g.len]; exact hfit)
        refine ⟨fun h' => g.trans (r1 (by rw [g.len]; omega)), fun h' => r2 (by rw [g.len]; omega)⟩
    · have hfu := hm.2 (by omega)
      refine ⟨fun h' => by omega, fun _ => ?_⟩
      split
      · exact hfu
      · rw [full_repMin hfull n _ hfu]; exact hfu
theorem many_rep (x : Nd) (a : Nat) (k : Nat) (hx : ∀ s : Bd, s.full = false → s.ins.length ≤ 3000 → Many k s (x.lay s)) (s : Bd) (h : s.full = false) (hl : s.ins.length ≤ 3000) : Many (a * k) s ((Nd.rep x a a).lay s) := by
  rw [Nd.lay, if_neg (by rw [h]; simp)]
  unfold repF
  simp only
  rw [if_neg (by omega), show ((a : Int) - a).toNat = 0 by omega]
  show Many (a * k) s (repMin x.lay a s)
  exact many_repMin (fun s hs => lay_full hs x) hx a s h hl
theorem many_one (c : S4) (s : Bd) (h : s.full = false) (hl : s.ins.length ≤ 3000) : Many 1 s ((Nd.one c).lay s) := by
  rw [one_lay c s h]
  refine ⟨fun h' => grew_put h h', fun h' => ?_⟩
  unfold Bd.put; rw [if_neg (by omega)]
theorem comp_long (c : S4) (a b : Nat) : (a * b + 3 ≤ 3000 → (Nd.rep (.rep (.one c) a a) b b).comp.full = false ∧ (Nd.rep (.rep (.one c) a a) b b).comp.ins.length = a * b + 3 ∧ (Nd.rep (.rep (.one c) a a) b b).comp.loops = 0) ∧
    (3000 < a * b + 3 → (Nd.rep (.rep (.one c) a a) b b).comp.full = true) := by
  obtain ⟨m1, m2⟩ := many_rep (.rep (.one c) a a) b (a * 1) (fun s h hl => many_rep (.one c) a 1 (many_one c) s h hl) (Nd.rep (.rep (.one c) a a) b b).comp0 rfl (by show 1 ≤ 3000; omega)
  rw [Nat.mul_one, Nat.mul_comm b a] at m1 m2
  have hl0 : (Nd.rep (.rep (.one c) a a) b b).comp0.ins.length = 1 := rfl
  rw [hl0] at m1 m2
  unfold Nd.comp
  obtain ⟨t, ht⟩ : ∃ t, (Nd.rep (.rep (.one c) a a) b b).lay (Nd.rep (.rep (.one c) a a) b b).comp0 = t := ⟨_, rfl⟩
  rw [ht] at m1 m2 ⊢
  refine ⟨fun h => ?_, fun h => ?_⟩
  · have g1 := m1 (by omega)
    have h1 : t.ins.length = 1 + a * b := g1.len
    have g2 := g1.trans (grew_put (i := mkI 3 1 0) g1.fu (by omega))
    have h2 : (t.put (mkI 3 1 0)).ins.length = 1 + (a * b + 1) := g2.len
    have g3 := g2.trans (grew_put (i := mkI 9 0 0) g2.fu (by omega))
    have h3 : ((t.put (mkI 3 1 0)).put (mkI 9 0 0)).ins.length = 1 + (a * b + 1 + 1) := g3.len
    exact ⟨g3.fu, by omega, g3.lp⟩
  · have keep : ∀ (s : Bd) (i : Ins), s.full = true → (s.put i).full = true := fun s i hs => by unfold Bd.put; split; exact hs; rfl
    by_cases hb : 3000 < 1 + a * b
    · exact keep _ _ (keep _ _ (m2 hb))
    · have g1 := m1 (by omega)
      have h1 : t.ins.length = 1 + a * b := g1.len
      by_cases h2 : t.ins.length + 1 ≤ 3000
      · have g2 := grew_put (i := mkI 3 1 0) g1.fu h2
        have h3 := g2.len
        show (Bd.put _ _).full = true
        unfold Bd.put at h3 ⊢
        rw [if_pos (by omega)] at h3
        rw [if_neg (by rw [if_pos (by omega)]; omega)]
      · refine keep _ _ ?_
        unfold Bd.put; rw [if_neg (by omega)]
theorem right_long (c : S4) (a b : Nat) (ha : a ≤ 255) (hb : b ≤ 255) : (Nd.rep (.rep (.one c) a a) b b).right = true := by
  have h : ∀ (n : Nat), n ≤ 255 → repOk true n n = true := fun n hn => by unfold repOk; simp; omega
  unfold Nd.right
  rw [Nd.look, show (Nd.rep (.one c) a a).atom = true from rfl, if_pos (h b hb), Nd.look, show (Nd.one c).atom = true from rfl, if_pos (h a ha)]
  rfl

/-! ### What was entered -/
def ents : Nat → DataW Unit
  | 0 => .map []
  | c + 1 => (ents c).put (.int .i64 c) (.lit (.int .i64 1))
theorem ents_map : ∀ c, Maps.IsMap (ents c)
  | 0 => Maps.isMap_empty
  | c + 1 => (ents_map c).put _ _
theorem ents_at : ∀ (c : Nat) (k : Int), (ents c).atKey (.int .i64 k) (.lit (.int .i64 0)) = .lit (.int .i64 (if 0 ≤ k ∧ k < c then 1 else 0))
  | 0, k => by rw [if_neg (by omega)]; rfl
  | c + 1, k => by
    rw [ents]
    by_cases hk : k = c
    · subst hk
      rw [Maps.atKey_put_same (ents_map c) (by simp [WideAt.IsKeyLit]), if_pos (by omega)]
    · rw [Maps.atKey_put_other (by simpa using hk), ents_at c k]
      have e : (if 0 ≤ k ∧ k < (c : Int) then (1 : Int) else 0) = if 0 ≤ k ∧ k < ((c + 1 : Nat) : Int) then 1 else 0 := by
        by_cases h : 0 ≤ k ∧ k < c
        · rw [if_pos h, if_pos (by omega)]
        · rw [if_neg h, if_neg (by omega)]
      rw [e]
theorem ents_has : ∀ (c : Nat) (k : Int), Maps.has (ents c) (.int .i64 k) = decide (0 ≤ k ∧ k < c)
  | 0, k => by rw [decide_eq_false (by omega)]; rfl
  | c + 1, k => by
    rw [ents]
    by_cases hk : k = c
    · subst hk
      rw [Maps.has_put_same (ents_map c) (by simp [WideAt.IsKeyLit]), decide_eq_true (by omega)]
    · rw [Maps.has_put_other (by simpa using hk), ents_has c k]
      congr 1
      exact propext ⟨fun h => by omega, fun h => by omega⟩

theorem ents_tidy : ∀ c, Maps.Tidy (ents c)
  | 0 => Maps.tidy_empty
  | c + 1 => (ents_tidy c).put (by simp [WideAt.IsKeyLit]) _
theorem ents_size : ∀ c, Maps.size (ents c) = c
  | 0 => rfl
  | c + 1 => by
    rw [ents, Maps.size_put (ents_tidy c), ents_has, decide_eq_false (by omega), ents_size c]
    rfl

end Go.Proofs.Ytcmjgaadffffaaa
