/-
  Programs in plain words: each node's instructions are good. No walk.
-/
import Derived.Test.YtcmjgaadffffaaaCodeH
namespace Go.Proofs.Ytcmjgaadffffaaa
open Go.RowKit

mutual
/-- Numbers of groups and backs within reach. -/
def Nd.nums (G : Int) : Nd → Prop
  | .cat l => Nd.numss G l
  | .alt l => Nd.numss G l
  | .rep x _ _ => x.nums G
  | .group k x => 1 ≤ k ∧ k ≤ G ∧ x.nums G
  | .back k => 1 ≤ k ∧ k ≤ G
  | _ => True
def Nd.numss (G : Int) : List Nd → Prop
  | [] => True
  | t :: ts => t.nums G ∧ Nd.numss G ts
end

section
variable {G : Int}
theorem Seg.with {P : Nat → Ins → Prop} {s t : Bd} (h : s.loops = cnt s.ins → Seg G P s t) (h' : Seg G (fun _ _ => True) s t) : Seg G P s t := fun hf =>
  let b := h' hf
  ⟨b.fu, b.pre, b.bk, b.lp, fun hl => (h hl hf).gd hl⟩
theorem Seg.any {P : Nat → Ins → Prop} {s t : Bd} (h : Seg G P s t) : Seg G (fun _ _ => True) s t := h.mono fun _ _ _ _ _ => trivial
theorem Seg.of {P : Nat → Ins → Prop} {s t : Bd} (h : Seg G NoP s t) : Seg G P s t := h.mono fun _ _ _ _ x => x.elim
def SegF (G : Int) (f : Bd → Bd) : Prop := ∀ s : Bd, s.ok → Seg G NoP s (f s)
theorem wrap_small {n : Nat} (h : n ≤ 3001) : wrap64 (n : Int) = n := by unfold wrap64; omega
theorem ne7 {k x y : Int} (h : k ≠ 7) : (mkI k x y).op ≠ 7 := h
theorem enter_eq {s : Bd} (h : (s.inc.put (mkI 7 s.loops 0)).full = false) : s.full = false ∧ s.inc.put (mkI 7 s.loops 0) = { s.inc with ins := s.ins ++ [mkI 7 s.loops 0] } := by
  obtain ⟨h1, h2, h3, _⟩ := put_full_iff h
  exact ⟨h1, h3⟩
theorem Seg.enter {P : Nat → Ins → Prop} {s : Bd} (hs : s.ok) : Seg G P s (s.inc.put (mkI 7 s.loops 0)) := fun hf => by
  obtain ⟨h1, h3⟩ := enter_eq hf
  rw [h3]
  refine ⟨h1, List.prefix_append _ _, id, fun hl => ?_, fun hl i y hi hy => .inl ?_⟩
  · simp only [cnt_append, cnt_one, Bd.inc, hl]
    have e : (mkI 7 (cnt s.ins : Int) 0).op = 7 := rfl
    rw [if_pos e]
    have := cnt_le s.ins; have := hs.hi
    have hw := wrap_small (n := cnt s.ins + 1) (by omega)
    simpa using hw
  · simp only at hy ⊢
    have hi' := (List.getElem?_eq_some_iff.1 hy).1
    simp at hi'
    obtain rfl : i = s.ins.length := by omega
    rw [List.getElem?_append_right (Nat.le_refl _)] at hy
    simp at hy
    subst hy
    refine .inr (.inr (.inr (.inr (.inr (.inl ⟨rfl, ?_⟩)))))
    rw [List.take_append_of_le_length (Nat.le_refl _), List.take_length]
    exact hl
theorem seg_round {f : Bd → Bd} (hf : SegF G f) (hu : UpF f) {s : Bd} (hs : s.ok) : Seg G NoP s (roundF f s) := by
  have h1 := up_inc hs
  have ok1 := (h1.trans (up_put (h1.ok hs) (mkI 7 s.loops 0))).ok hs
  have a1 : Seg G NoP s (f (s.inc.put (mkI 7 s.loops 0))) := (Seg.enter hs).trans (hf _ ok1)
  refine Seg.with (fun hl => ?_) (a1.any.trans (Seg.put (ne7 (by decide)) (fun _ _ => .inr trivial)))
  intro hfu
  obtain ⟨b1, b2, b3, _⟩ := put_full_iff hfu
  refine (a1.trans (Seg.put (ne7 (by decide)) (fun _ _ => .inl ?_))) hfu
  refine .inr (.inr (.inr (.inr (.inr (.inr ⟨rfl, ?_, ?_⟩)))))
  · show 0 ≤ s.loops; rw [hl]; omega
  · show s.loops < _
    have c1 := hf _ ok1 b1
    obtain ⟨_, e2⟩ := enter_eq c1.fu
    have hc : cnt (s.inc.put (mkI 7 s.loops 0)).ins = cnt s.ins + 1 := by
      rw [e2]; simp only [cnt_append, cnt_one]; rw [if_pos (show (mkI 7 s.loops 0).op = 7 from rfl)]
    have := cnt_pre c1.pre
    rw [hc] at this
    rw [List.take_length]
    omega

theorem fixY (e : Int) : Fix (fun x => { x with y := e }) := fun _ => rfl
theorem fixX (e : Int) : Fix (fun x => { x with x := e }) := fun _ => rfl
/-- A split that waits. -/
def WaitY (J : List Int) (i : Nat) (x : Ins) : Prop := x.op = 1 ∧ x.x = i + 1 ∧ (i : Int) ∈ J
def WaitX (J : List Int) (i : Nat) (x : Ins) : Prop := x.op = 2 ∧ (i : Int) ∈ J
def AtY (s t : Bd) (j : Int) : Prop := ∃ i : Nat, j = i ∧ s.ins.length ≤ i ∧ ∃ x, t.ins[i]? = some x ∧ x.op = 1 ∧ x.x = i + 1
def AtX (s t : Bd) (j : Int) : Prop := ∃ i : Nat, j = i ∧ s.ins.length ≤ i ∧ ∃ x, t.ins[i]? = some x ∧ x.op = 2
theorem AtY.set {s t : Bd} {j : Int} (h : AtY s t j) (k : Int) : AtY s (t.setY k) j := by
  obtain ⟨i, h1, h2, x, h3, h4, h5⟩ := h
  refine ⟨i, h1, h2, if k.toNat = i then { x with y := t.ins.length } else x, ?_, ?_, ?_⟩
  · simp only [Bd.setY, List.getElem?_modify, h3]; rfl
  · split <;> exact h4
  · split <;> exact h5
theorem AtX.set {s t : Bd} {j : Int} (h : AtX s t j) (k : Int) : AtX s (t.setX k) j := by
  obtain ⟨i, h1, h2, x, h3, h4⟩ := h
  refine ⟨i, h1, h2, if k.toNat = i then { x with x := t.ins.length } else x, ?_, ?_⟩
  · simp only [Bd.setX, List.getElem?_modify, h3]; rfl
  · split <;> exact h4
theorem lt_of_get {l : List Ins} {i : Nat} {x : Ins} (h : l[i]? = some x) : i < l.length := (List.getElem?_eq_some_iff.1 h).1
theorem seg_setY {P Q : Nat → Ins → Prop} {s t : Bd} {j : Int} (h : Seg G P s t) (hj : t.full = false → AtY s t j) (hq : ∀ (i : Nat) x, j ≠ (i : Int) → P i x → Q i x) : Seg G Q s (t.setY j) := fun hfu => by
  obtain ⟨i, h1, h2, x, h3, h4, h5⟩ := hj hfu
  have e : j.toNat = i := by omega
  unfold Bd.setY at hfu ⊢
  rw [e] at hfu ⊢
  refine h.modify i h2 _ (fixY _) (fun _ y hy _ => .inl (.inr (.inl ⟨?_, ?_, ?_, Int.le_refl _⟩))) (fun k y hk => hq k y (by omega)) hfu
  · rw [h3] at hy; injection hy with hy; subst hy; exact h4
  · rw [h3] at hy; injection hy with hy; subst hy; exact h5
  · have := lt_of_get h3; show (i : Int) < (t.ins.length : Int); omega
theorem seg_setX {P Q : Nat → Ins → Prop} {s t : Bd} {j : Int} (h : Seg G P s t) (hj : t.full = false → AtX s t j) (hq : ∀ (i : Nat) x, j ≠ (i : Int) → P i x → Q i x) : Seg G Q s (t.setX j) := fun hfu => by
  obtain ⟨i, h1, h2, x, h3, h4⟩ := hj hfu
  have e : j.toNat = i := by omega
  unfold Bd.setX at hfu ⊢
  rw [e] at hfu ⊢
  have := lt_of_get h3
  refine h.modify i h2 _ (fixX _) (fun _ y hy _ => .inl (.inr (.inr (.inl ⟨?_, ?_, Int.le_refl _, ?_⟩)))) (fun k y hk => hq k y (by omega)) hfu
  · rw [h3] at hy; injection hy with hy; subst hy; exact h4
  · show (0 : Int) ≤ (t.ins.length : Int); omega
  · show (t.ins.length : Int) ≠ (i : Int); omega
theorem seg_setYs {P : Nat → Ins → Prop} {s : Bd} : ∀ (J : List Int) (t : Bd), Seg G (fun i x => P i x ∨ WaitY J i x) s t → (t.full = false → ∀ j ∈ J, AtY s t j) → Seg G P s (Bd.setYs J t)
  | [], t, h, _ => h.mono fun i x _ _ hp => hp.resolve_right fun hw => by cases hw.2.2
  | j :: J, t, h, hj => by
    rw [Bd.setYs]
    refine seg_setYs J _ (seg_setY h (fun hf => hj hf j (by simp)) fun i x hne hp => ?_) fun hf k hk => (hj hf k (by simp [hk])).set j
    rcases hp with hp | ⟨w1, w2, w3⟩
    · exact .inl hp
    · refine .inr ⟨w1, w2, ?_⟩
      rcases List.mem_cons.1 w3 with e | e
      · exact absurd e.symm hne
      · exact e
theorem seg_setXs {P : Nat → Ins → Prop} {s : Bd} : ∀ (J : List Int) (t : Bd), Seg G (fun i x => P i x ∨ WaitX J i x) s t → (t.full = false → ∀ j ∈ J, AtX s t j) → Seg G P s (Bd.setXs J t)
  | [], t, h, _ => h.mono fun i x _ _ hp => hp.resolve_right fun hw => by cases hw.2
  | j :: J, t, h, hj => by
    rw [Bd.setXs]
    refine seg_setXs J _ (seg_setX h (fun hf => hj hf j (by simp)) fun i x hne hp => ?_) fun hf k hk => (hj hf k (by simp [hk])).set j
    rcases hp with hp | ⟨w1, w2⟩
    · exact .inl hp
    · refine .inr ⟨w1, ?_⟩
      rcases List.mem_cons.1 w2 with e | e
      · exact absurd e.symm hne
      · exact e
/-- Where a builder is not full behind more, what was put last lies there. -/
theorem put_there {s t : Bd} {x : Ins} (h : (s.put x).full = false) (hp : (s.put x).ins <+: t.ins) : s.at = s.ins.length ∧ t.ins[s.ins.length]? = some x := by
  obtain ⟨_, _, h3, h4⟩ := put_full_iff h
  refine ⟨h4, ?_⟩
  rw [h3] at hp
  rw [get_pre hp (by simp)]
  simp

theorem repMin_seg {f : Bd → Bd} (hf : SegF G f) (hu : UpF f) : ∀ n {s : Bd}, s.ok → Seg G NoP s (repMin f n s)
  | 0, s, _ => Seg.refl _ _ _
  | n + 1, s, h => by
    rw [repMin]
    split
    · exact hf s h
    · exact (hf s h).trans (repMin_seg hf hu n ((hu s h).ok h))
theorem AtY.later {s s' t u : Bd} {j : Int} (h : AtY s' t j) (hs : s.ins.length ≤ s'.ins.length) (hp : t.ins <+: u.ins) : AtY s u j := by
  obtain ⟨i, h1, h2, x, h3, h4⟩ := h
  exact ⟨i, h1, by omega, x, by rw [get_pre hp (lt_of_get h3)]; exact h3, h4⟩
theorem AtX.later {s s' t u : Bd} {j : Int} (h : AtX s' t j) (hs : s.ins.length ≤ s'.ins.length) (hp : t.ins <+: u.ins) : AtX s u j := by
  obtain ⟨i, h1, h2, x, h3, h4⟩ := h
  exact ⟨i, h1, by omega, x, by rw [get_pre hp (lt_of_get h3)]; exact h3, h4⟩
theorem repOpt_sub {f : Bd → Bd} : ∀ n (s : Bd) (sp : List Int), ∀ j ∈ sp, j ∈ (repOpt f n s sp).2
  | 0, _, _, j, h => h
  | n + 1, s, sp, j, h => by
    rw [repOpt]; split
    · exact h
    · exact repOpt_sub n _ _ j (by simp [h])
theorem repOpt_seg {f : Bd → Bd} (hf : SegF G f) (hu : UpF f) : ∀ n (s : Bd) (sp : List Int), s.ok →
    Seg G (WaitY (repOpt f n s sp).2) s (repOpt f n s sp).1 ∧ ((repOpt f n s sp).1.full = false → ∀ j ∈ (repOpt f n s sp).2, j ∈ sp ∨ AtY s (repOpt f n s sp).1 j)
  | 0, s, sp, _ => ⟨Seg.refl _ _ _, fun _ j hj => .inl hj⟩
  | n + 1, s, sp, h => by
    rw [repOpt]
    split
    · exact ⟨Seg.refl _ _ _, fun _ j hj => .inl hj⟩
    · have ok1 := (up_split h).ok h
      have ok2 := (up_round hu ok1).ok ok1
      have hr := seg_round hf hu ok1
      obtain ⟨h1, h2⟩ := repOpt_seg hf hu n (roundF f s.split) (sp ++ [s.at]) ok2
      have hin := repOpt_sub (f := f) n (roundF f s.split) (sp ++ [s.at]) s.at (by simp)
      have hle := ((up_split h).trans (up_round hu ok1)).le
      have hsp : Seg G (WaitY (repOpt f n (roundF f s.split) (sp ++ [s.at])).2) s s.split := fun hfu =>
        (Seg.put (ne7 (by decide)) (fun _ _ => .inr ⟨rfl, rfl, by rw [← (put_there (t := s.split) hfu (List.prefix_refl _)).1]; exact hin⟩)) hfu
      refine ⟨(hsp.trans hr.of).trans h1, fun hfu j hj => ?_⟩
      rcases h2 hfu j hj with hj | hj
      · rcases List.mem_append.1 hj with hj | hj
        · exact .inl hj
        · have e : j = s.at := by simpa using hj
          have f1 := (h1 hfu)
          have f2 := hr f1.fu
          have := put_there (t := (repOpt f n (roundF f s.split) (sp ++ [s.at])).1) f2.fu (f2.pre.trans f1.pre)
          exact .inr ⟨s.ins.length, by rw [e]; exact this.1, Nat.le_refl _, _, this.2, rfl, rfl⟩
      · exact .inr (hj.later hle (List.prefix_refl _))
theorem repF_seg {f : Bd → Bd} (hf : SegF G f) (hu : UpF f) (mn mx : Int) {s : Bd} (h : s.ok) : Seg G NoP s (repF f mn mx s) := by
  have ok1 := (up_repMin hu mn.toNat h).ok h
  have h1 := repMin_seg hf hu mn.toNat h
  unfold repF
  obtain ⟨s1, hs1⟩ : ∃ s1, repMin f mn.toNat s = s1 := ⟨_, rfl⟩
  rw [hs1] at ok1 h1
  simp only [hs1]
  split
  · have ok2 := (up_split ok1).ok ok1
    have hr := seg_round hf hu ok2
    refine h1.trans ?_
    -- the split waits, the jump leads back to it
    have hsp : Seg G (WaitY [s1.at]) s1 s1.split := fun hfu =>
      (Seg.put (ne7 (by decide)) (fun _ _ => .inr ⟨rfl, rfl, by rw [← (put_there (t := s1.split) hfu (List.prefix_refl _)).1]; simp⟩)) hfu
    have hj : Seg G (WaitY [s1.at]) s1 ((roundF f s1.split).put (mkI 2 s1.at 0)) := fun hfu => by
      obtain ⟨b1, b2, b3, _⟩ := put_full_iff hfu
      have f2 := hr b1
      have hat := put_there (t := roundF f s1.split) f2.fu f2.pre
      refine ((hsp.trans hr.of).trans (Seg.put (ne7 (by decide)) fun _ _ => .inl ?_)) hfu
      have hl := lt_of_get hat.2
      refine .inr (.inr (.inl ⟨rfl, ?_, ?_, ?_⟩)) <;> show _ <;> simp only [mkI] <;> rw [hat.1] <;> omega
    refine seg_setY hj (fun hfu => ?_) (fun i x hne hw => hne (List.mem_singleton.1 hw.2.2).symm)
    obtain ⟨b1, b2, b3, _⟩ := put_full_iff hfu
    have f2 := hr b1
    have hat := put_there (t := (roundF f s1.split).put (mkI 2 s1.at 0)) f2.fu (f2.pre.trans (by rw [b3]; exact List.prefix_append _ _))
    exact ⟨s1.ins.length, hat.1, Nat.le_refl _, _, hat.2, rfl, rfl⟩
  · obtain ⟨h2, h3⟩ := repOpt_seg hf hu (mx - mn).toNat s1 [] ok1
    refine h1.trans (seg_setYs _ _ (h2.mono fun i x _ _ hw => .inr hw) fun hfu j hj => (h3 hfu j hj).resolve_left (by simp))
theorem layAlt_sub : ∀ (l : List Nd) (s : Bd) (js : List Int), ∀ j ∈ js, j ∈ (Nd.layAlt l s js).2
  | [], _, _, j, h => by rw [Nd.layAlt]; exact h
  | [t], _, _, j, h => by rw [Nd.layAlt]; exact h
  | t :: u :: ts, s, js, j, h => by rw [Nd.layAlt]; exact layAlt_sub (u :: ts) _ _ j (by simp [h])
mutual
theorem lay_seg : ∀ (n : Nd) (s : Bd), s.ok → n.nums G → Seg G NoP s (n.lay s)
  | .one c, s, h, _ => by rw [Nd.lay]; split; exact Seg.refl _ _ _; exact Seg.put (by show (0 : Int) ≠ 7; decide) (fun _ _ => .inl (.inl (.inl rfl)))
  | .start, s, h, _ => by rw [Nd.lay]; split; exact Seg.refl _ _ _; exact Seg.put (ne7 (by decide)) (fun _ _ => .inl (.inl (.inr (.inl rfl))))
  | .fin, s, h, _ => by rw [Nd.lay]; split; exact Seg.refl _ _ _; exact Seg.put (ne7 (by decide)) (fun _ _ => .inl (.inl (.inr (.inr rfl))))
  | .back k, s, h, hn => by
    rw [Nd.nums] at hn
    rw [Nd.lay]; split
    · exact Seg.refl _ _ _
    · intro hfu
      have b := (Seg.put (G := G) (P := fun i x => x.op = 4 ∧ 1 ≤ x.x ∧ x.x ≤ G) (s := s) (x := mkI 4 k 0) (ne7 (by decide)) (fun _ _ => .inr ⟨rfl, hn.1, hn.2⟩)) hfu
      refine ⟨b.fu, b.pre, fun _ => rfl, b.lp, fun hl i x hi hx => .inl ?_⟩
      rcases b.gd hl i x hi hx with g | ⟨g1, g2, g3⟩
      · exact g.mono (List.prefix_refl _) (by have := lt_of_get hx; simp only at this ⊢; omega) (Nat.le_refl _) (fun _ => rfl)
      · exact .inr (.inr (.inr (.inr (.inl ⟨g1, g2, g3, rfl⟩))))
  | .cat l, s, h, hn => by rw [Nd.nums] at hn; rw [Nd.lay]; split; exact Seg.refl _ _ _; exact lays_seg l s h hn
  | .alt l, s, h, hn => by
    rw [Nd.nums] at hn; rw [Nd.lay]; split
    · exact Seg.refl _ _ _
    · obtain ⟨h1, h2⟩ := layAlt_seg l s [] h hn
      exact seg_setXs _ _ (h1.mono fun i x _ _ hw => .inr hw) fun hfu j hj => (h2 hfu j hj).resolve_left (by simp)
  | .group k x, s, h, hn => by
    rw [Nd.nums] at hn; rw [Nd.lay]; split
    · exact Seg.refl _ _ _
    · have ok1 := (up_put h (mkI 3 (2 * k) 0)).ok h
      have a1 : Seg G NoP s (s.put (mkI 3 (2 * k) 0)) := Seg.put (ne7 (by decide)) (fun _ _ => .inl (.inr (.inr (.inr (.inl ⟨rfl, by show 0 ≤ 2 * k; omega, by show 2 * k ≤ 2 * G + 1; omega⟩)))))
      exact (a1.trans (lay_seg x _ ok1 hn.2.2)).trans (Seg.put (ne7 (by decide)) (fun _ _ => .inl (.inr (.inr (.inr (.inl ⟨rfl, by show 0 ≤ 2 * k + 1; omega, by show 2 * k + 1 ≤ 2 * G + 1; omega⟩))))))
  | .rep x mn mx, s, h, hn => by rw [Nd.nums] at hn; rw [Nd.lay]; split; exact Seg.refl _ _ _; exact repF_seg (fun s hs => lay_seg x s hs hn) (up_lay x) mn mx h
  | .nil, s, h, _ => by rw [Nd.lay]; exact Seg.refl _ _ _
  | .empty, s, h, _ => by rw [Nd.lay]; exact Seg.refl _ _ _
theorem lays_seg : ∀ (l : List Nd) (s : Bd), s.ok → Nd.numss G l → Seg G NoP s (Nd.lays l s)
  | [], s, h, _ => by rw [Nd.lays]; exact Seg.refl _ _ _
  | t :: ts, s, h, hn => by rw [Nd.numss] at hn; rw [Nd.lays]; exact (lay_seg t s h hn.1).trans (lays_seg ts _ ((up_lay t s h).ok h) hn.2)
theorem layAlt_seg : ∀ (l : List Nd) (s : Bd) (js : List Int), s.ok → Nd.numss G l →
    Seg G (WaitX (Nd.layAlt l s js).2) s (Nd.layAlt l s js).1 ∧ ((Nd.layAlt l s js).1.full = false → ∀ j ∈ (Nd.layAlt l s js).2, j ∈ js ∨ AtX s (Nd.layAlt l s js).1 j)
  | [], s, js, _, _ => by rw [Nd.layAlt]; exact ⟨Seg.refl _ _ _, fun _ j hj => .inl hj⟩
  | [t], s, js, h, hn => by rw [Nd.numss] at hn; rw [Nd.layAlt]; exact ⟨(lay_seg t s h hn.1).of, fun _ j hj => .inl hj⟩
  | t :: u :: ts, s, js, h, hn => by
    rw [Nd.numss] at hn
    rw [Nd.layAlt]
    have ok1 := (up_split h).ok h
    have ok2 := (up_lay t _ ok1).ok ok1
    have ok3 := (up_put ok2 (mkI 2 0 0)).ok ok2
    have u4 := up_setY ok3 s.at
    have ht := lay_seg t _ ok1 hn.1
    obtain ⟨s2, hs2⟩ : ∃ s2, t.lay s.split = s2 := ⟨_, rfl⟩
    have hle : s.ins.length ≤ ((s2.put (mkI 2 0 0)).setY s.at).ins.length := by rw [← hs2]; exact (((up_split h).trans (up_lay t _ ok1)).trans ((up_put ok2 (mkI 2 0 0)).trans u4)).le
    have hle2 : s.ins.length ≤ s2.ins.length := by rw [← hs2]; exact ((up_split h).trans (up_lay t _ ok1)).le
    rw [hs2] at ok2 ok3 u4 ht
    rw [hs2]
    obtain ⟨h1, h2⟩ := layAlt_seg (u :: ts) ((s2.put (mkI 2 0 0)).setY s.at) (js ++ [s2.at]) (u4.ok ok3) hn.2
    have hin := layAlt_sub (u :: ts) ((s2.put (mkI 2 0 0)).setY s.at) (js ++ [s2.at]) s2.at (by simp)
    obtain ⟨R, hR⟩ : ∃ R, Nd.layAlt (u :: ts) ((s2.put (mkI 2 0 0)).setY s.at) (js ++ [s2.at]) = R := ⟨_, rfl⟩
    rw [hR] at h1 h2 hin ⊢
    -- the split waits, the jump waits
    have hsp : Seg G (fun i x => WaitY [s.at] i x ∨ WaitX R.2 i x) s s.split := fun hfu =>
      (Seg.put (ne7 (by decide)) (fun _ _ => .inr (.inl ⟨rfl, rfl, by rw [← (put_there (t := s.split) hfu (List.prefix_refl _)).1]; simp⟩))) hfu
    have hjp : Seg G (fun i x => WaitY [s.at] i x ∨ WaitX R.2 i x) s2 (s2.put (mkI 2 0 0)) := fun hfu =>
      (Seg.put (ne7 (by decide)) (fun _ _ => .inr (.inr ⟨rfl, by rw [← (put_there (t := s2.put (mkI 2 0 0)) hfu (List.prefix_refl _)).1]; exact hin⟩))) hfu
    have hall := (hsp.trans ht.of).trans hjp
    have hset : Seg G (WaitX R.2) s ((s2.put (mkI 2 0 0)).setY s.at) := seg_setY hall (fun hfu => by
      obtain ⟨b1, _, b3, _⟩ := put_full_iff hfu
      have f2 := ht b1
      have hat := put_there (t := s2.put (mkI 2 0 0)) f2.fu (f2.pre.trans (by rw [b3]; exact List.prefix_append _ _))
      exact ⟨s.ins.length, hat.1, Nat.le_refl _, _, hat.2, rfl, rfl⟩) (fun i x hne hw => hw.resolve_left fun hw => hne (List.mem_singleton.1 hw.2.2).symm)
    refine ⟨hset.trans h1, fun hfu j hj => ?_⟩
    rcases h2 hfu j hj with hj | hj
    · rcases List.mem_append.1 hj with hj | hj
      · exact .inl hj
      · have e : j = s2.at := by simpa using hj
        have f1 := h1 hfu
        have hf3 : (s2.put (mkI 2 0 0)).full = false := f1.fu
        have hat := put_there (t := s2.put (mkI 2 0 0)) hf3 (List.prefix_refl _)
        have hx : AtX s ((s2.put (mkI 2 0 0)).setY s.at) s2.at := by
          refine ⟨s2.ins.length, hat.1, hle2, if s.at.toNat = s2.ins.length then { mkI 2 0 0 with y := (s2.put (mkI 2 0 0)).ins.length } else mkI 2 0 0, ?_, ?_⟩
          · simp only [Bd.setY, List.getElem?_modify, hat.2]; rfl
          · split <;> rfl
        rw [e]
        exact .inr (hx.later (Nat.le_refl _) f1.pre)
    · exact .inr (hj.later hle (List.prefix_refl _))
end
end

end Go.Proofs.Ytcmjgaadffffaaa
