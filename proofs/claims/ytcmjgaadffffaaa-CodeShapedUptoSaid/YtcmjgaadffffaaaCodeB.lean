/-
  Programs in plain words: what each node lays; round.
-/
import Derived.Test.YtcmjgaadffffaaaCodeA
import Derived.Test.YtcmjgaadffffaaaQuietTail
namespace Go.Proofs.Ytcmjgaadffffaaa
open Go.RowKit

def Bd.inc (s : Bd) : Bd := { s with loops := wrap64 (s.loops + 1) }
/-- The instruction at a place leads to the next one. -/
def Bd.setY (s : Bd) (i : Int) : Bd := { s with ins := s.ins.modify i.toNat (fun x => { x with y := s.ins.length }) }
def Bd.setX (s : Bd) (i : Int) : Bd := { s with ins := s.ins.modify i.toNat (fun x => { x with x := s.ins.length }) }
def Bd.split (s : Bd) : Bd := s.put (mkI 1 (s.ins.length + 1) 0)
def roundF (f : Bd → Bd) (s : Bd) : Bd := (f (s.inc.put (mkI 7 s.loops 0))).put (mkI 8 s.loops 0)
def repMin (f : Bd → Bd) : Nat → Bd → Bd
  | 0, s => s
  | n + 1, s => if (f s).ins.length = s.ins.length then f s else repMin f n (f s)
def repOpt (f : Bd → Bd) : Nat → Bd → List Int → Bd × List Int
  | 0, s, sp => (s, sp)
  | n + 1, s, sp => if s.full then (s, sp) else repOpt f n (roundF f s.split) (sp ++ [s.at])
def Bd.setYs : List Int → Bd → Bd
  | [], s => s
  | i :: l, s => Bd.setYs l (s.setY i)
def Bd.setXs : List Int → Bd → Bd
  | [], s => s
  | i :: l, s => Bd.setXs l (s.setX i)
def repF (f : Bd → Bd) (mn mx : Int) (s : Bd) : Bd :=
  let s1 := repMin f mn.toNat s
  if mx < 0 then ((roundF f s1.split).put (mkI 2 s1.at 0)).setY s1.at
  else Bd.setYs (repOpt f (mx - mn).toNat s1 []).2 (repOpt f (mx - mn).toNat s1 []).1
mutual
/-- What a node lays. -/
def Nd.lay : Nd → Bd → Bd
  | .one c, s => if s.full then s else s.put ⟨0, c, 0, 0⟩
  | .start, s => if s.full then s else s.put (mkI 5 0 0)
  | .fin, s => if s.full then s else s.put (mkI 6 0 0)
  | .back k, s => if s.full then s else { s.put (mkI 4 k 0) with backs := true }
  | .cat l, s => if s.full then s else Nd.lays l s
  | .alt l, s => if s.full then s else Bd.setXs (Nd.layAlt l s []).2 (Nd.layAlt l s []).1
  | .group k x, s => if s.full then s else (x.lay (s.put (mkI 3 (2 * k) 0))).put (mkI 3 (2 * k + 1) 0)
  | .rep x mn mx, s => if s.full then s else repF x.lay mn mx s
  | .nil, s => s
  | .empty, s => s
def Nd.lays : List Nd → Bd → Bd
  | [], s => s
  | t :: ts, s => Nd.lays ts (t.lay s)
def Nd.layAlt : List Nd → Bd → List Int → Bd × List Int
  | [], s, js => (s, js)
  | [t], s, js => (t.lay s, js)
  | t :: u :: ts, s, js => Nd.layAlt (u :: ts) (((t.lay s.split).put (mkI 2 0 0)).setY s.at) (js ++ [(t.lay s.split).at])
end

/-- Some instructions, and not too many. -/
structure Bd.ok (s : Bd) : Prop where
  lo : 1 ≤ s.ins.length
  hi : s.ins.length ≤ 3000
/-- Behind one builder: no shorter, and still so. -/
structure Up (s t : Bd) : Prop where
  le : s.ins.length ≤ t.ins.length
  hi : t.ins.length ≤ 3000
theorem Up.refl {s : Bd} (h : s.ok) : Up s s := ⟨Nat.le_refl _, h.hi⟩
theorem Up.trans {s t u : Bd} (h : Up s t) (k : Up t u) : Up s u := ⟨Nat.le_trans h.le k.le, k.hi⟩
theorem Up.ok {s t : Bd} (h : Up s t) (hs : s.ok) : t.ok := ⟨Nat.le_trans hs.lo h.le, h.hi⟩
theorem up_put {s : Bd} (h : s.ok) (i : Ins) : Up s (s.put i) := by
  have := h.hi
  unfold Bd.put
  split
  · exact ⟨by simp, by simp; omega⟩
  · exact ⟨Nat.le_refl _, by assumption⟩
theorem up_split {s : Bd} (h : s.ok) : Up s s.split := up_put h _
theorem up_inc {s : Bd} (h : s.ok) : Up s s.inc := ⟨Nat.le_refl _, h.hi⟩
theorem up_setY {s : Bd} (h : s.ok) (i : Int) : Up s (s.setY i) := ⟨by simp [Bd.setY], by simp only [Bd.setY, List.length_modify]; exact h.hi⟩
theorem up_setX {s : Bd} (h : s.ok) (i : Int) : Up s (s.setX i) := ⟨by simp [Bd.setX], by simp only [Bd.setX, List.length_modify]; exact h.hi⟩
theorem up_setYs : ∀ (l : List Int) {s : Bd}, s.ok → Up s (Bd.setYs l s)
  | [], _, h => Up.refl h
  | i :: l, _, h => (up_setY h i).trans (up_setYs l ((up_setY h i).ok h))
theorem up_setXs : ∀ (l : List Int) {s : Bd}, s.ok → Up s (Bd.setXs l s)
  | [], _, h => Up.refl h
  | i :: l, _, h => (up_setX h i).trans (up_setXs l ((up_setX h i).ok h))
def UpF (f : Bd → Bd) : Prop := ∀ s : Bd, s.ok → Up s (f s)
theorem up_round {f : Bd → Bd} (hf : UpF f) {s : Bd} (h : s.ok) : Up s (roundF f s) := by
  have h1 := up_inc h
  have h2 := h1.trans (up_put (h1.ok h) (mkI 7 s.loops 0))
  have h3 := h2.trans (hf _ (h2.ok h))
  exact h3.trans (up_put (h3.ok h) _)
theorem up_repMin {f : Bd → Bd} (hf : UpF f) : ∀ n {s : Bd}, s.ok → Up s (repMin f n s)
  | 0, _, h => Up.refl h
  | n + 1, s, h => by
    rw [repMin]
    split
    · exact hf s h
    · exact (hf s h).trans (up_repMin hf n ((hf s h).ok h))
theorem up_repOpt {f : Bd → Bd} (hf : UpF f) : ∀ n {s : Bd} (sp : List Int), s.ok → Up s (repOpt f n s sp).1
  | 0, _, _, h => Up.refl h
  | n + 1, s, sp, h => by
    rw [repOpt]
    split
    · exact Up.refl h
    · have h1 := up_split h
      have h2 := h1.trans (up_round hf (h1.ok h))
      exact h2.trans (up_repOpt hf n _ (h2.ok h))
theorem up_repF {f : Bd → Bd} (hf : UpF f) (mn mx : Int) {s : Bd} (h : s.ok) : Up s (repF f mn mx s) := by
  have h1 := up_repMin hf mn.toNat h
  unfold repF
  simp only
  split
  · have h2 := h1.trans (up_split (h1.ok h))
    have h3 := h2.trans (up_round hf (h2.ok h))
    have h4 := h3.trans (up_put (h3.ok h) (mkI 2 (repMin f mn.toNat s).at 0))
    exact h4.trans (up_setY (h4.ok h) _)
  · have h2 := h1.trans (up_repOpt hf (mx - mn).toNat [] (h1.ok h))
    exact h2.trans (up_setYs _ (h2.ok h))
mutual
theorem up_lay : ∀ (n : Nd) (s : Bd), s.ok → Up s (n.lay s)
  | .one _, s, h => by rw [Nd.lay]; split; exact Up.refl h; exact up_put h _
  | .start, s, h => by rw [Nd.lay]; split; exact Up.refl h; exact up_put h _
  | .fin, s, h => by rw [Nd.lay]; split; exact Up.refl h; exact up_put h _
  | .back _, s, h => by rw [Nd.lay]; split; exact Up.refl h; exact ⟨(up_put h _).le, (up_put h _).hi⟩
  | .cat l, s, h => by rw [Nd.lay]; split; exact Up.refl h; exact up_lays l s h
  | .alt l, s, h => by
    rw [Nd.lay]; split
    · exact Up.refl h
    · have h1 := up_layAlt l s [] h
      exact h1.trans (up_setXs _ (h1.ok h))
  | .group k x, s, h => by
    rw [Nd.lay]; split
    · exact Up.refl h
    · have h1 := up_put h (mkI 3 (2 * k) 0)
      have h2 := h1.trans (up_lay x _ (h1.ok h))
      exact h2.trans (up_put (h2.ok h) _)
  | .rep x mn mx, s, h => by rw [Nd.lay]; split; exact Up.refl h; exact up_repF (up_lay x) mn mx h
  | .nil, s, h => by rw [Nd.lay]; exact Up.refl h
  | .empty, s, h => by rw [Nd.lay]; exact Up.refl h
theorem up_lays : ∀ (l : List Nd) (s : Bd), s.ok → Up s (Nd.lays l s)
  | [], s, h => by rw [Nd.lays]; exact Up.refl h
  | t :: ts, s, h => by rw [Nd.lays]; exact (up_lay t s h).trans (up_lays ts _ ((up_lay t s h).ok h))
theorem up_layAlt : ∀ (l : List Nd) (s : Bd) (js : List Int), s.ok → Up s (Nd.layAlt l s js).1
  | [], s, js, h => by rw [Nd.layAlt]; exact Up.refl h
  | [t], s, js, h => by rw [Nd.layAlt]; exact up_lay t s h
  | t :: u :: ts, s, js, h => by
    rw [Nd.layAlt]
    have h1 := up_split h
    have h2 := h1.trans (up_lay t _ (h1.ok h))
    have h3 := h2.trans (up_put (h2.ok h) (mkI 2 0 0))
    have h4 := h3.trans (up_setY (h3.ok h) s.at)
    exact h4.trans (up_layAlt (u :: ts) _ _ (h4.ok h))
end
/-- Where an instruction was put there is one. -/
theorem at_lt {s : Bd} (h : s.ok) (i : Ins) : 0 ≤ s.at ∧ s.at < (s.put i).ins.length := by
  have := h.lo
  unfold Bd.at Bd.put
  split <;> simp <;> omega

/-- A call that lays a node. -/
def NodeOk (n : Nd) : Prop := ∀ (v : Value) (w : World) (b : Nat) (s : Bd) (g : Option Nat), s.ok → BAt b s g w → RN (LS b g) w n v →
  Calls Try.prog 18 #[.pointer (some ⟨b, 0, none⟩), v] w fun e w' => e = .returned (.tuple #[]) ∧ Laid b (n.lay s) g w w'

theorem inc_at {b : Nat} {s : Bd} {g : Option Nat} {w : World} (h : BAt b s g w) : Laid b s.inc g w (w.setCell ⟨b, 2, none⟩ (.int .i64 (wrap64 (s.loops + 1)))) := by
  obtain ⟨v, hb, hown, hg, hne⟩ := h
  refine ⟨g, ⟨v, by exact heap_setCell_at hb 2 _, ?_, hg, hne⟩, (Fr.refl (LS b g) w).setCell (p := ⟨b, 2, none⟩) (fun _ => .inl rfl) _, fun _ h => .inl h⟩
  exact ownsRow_fr hown ((Fr.refl (fun k => k = b) w).setCell (p := ⟨b, 2, none⟩) (fun _ => rfl) _) (fun k hk e => hne (by rw [← hg, hk, e]))

set_option maxRecDepth 100000 in
set_option maxHeartbeats 1000000 in
theorem round_any (n : Nd) (hN : NodeOk n) (v : Value) (w : World) (b : Nat) (s : Bd) (g : Option Nat) (hs : s.ok) (h : BAt b s g w) (hn : RN (LS b g) w n v) :
    Calls Try.prog 30 #[.pointer (some ⟨b, 0, none⟩), v] w fun e w' => e = .returned (.tuple #[]) ∧ Laid b (roundF n.lay s) g w w' := by
  have hi := inc_at h
  obtain ⟨w1, hw1⟩ : ∃ w1, w1 = w.setCell ⟨b, 2, none⟩ (.int .i64 (wrap64 (s.loops + 1))) := ⟨_, rfl⟩
  rw [← hw1] at hi
  obtain ⟨g1, B1, f1, h1⟩ := hi
  have N1 := Lib.hid (RN.keep f1 (S := LS b g) (S' := LS b g1) (fun _ _ x => x) (LS.late h1) n v hn)
  have HW := Lib.hid hw1; have HB1 := Lib.hid B1; have F1 := Lib.hid f1; have H1 := Lib.hid h1; have HN := Lib.hid hN
  obtain ⟨u, hb, _⟩ := h
  have rz := ruleB hb
  have hsh := hn.shape
  clear hw1 B1 f1 h1 hb hN hn
  go_enter Try.func30, Try.ntmps30
  go_wp2_with (rw [← HW.out])
  refine (put_any b s.inc g1 (mkI 7 s.loops 0) w1 HB1.out).mono ?_
  rintro e w2 ⟨rfl, g2, B2, f2, h2⟩
  have N2 := Lib.hid (RN.keep f2 (S := LS b g1) (S' := LS b g2) (fun _ _ x => x) (LS.late h2) n v N1.out)
  have F2 := Lib.hid f2; have H2 := Lib.hid h2; have HB2 := Lib.hid B2
  clear f2 h2 B2
  have hs2 : (s.inc.put (mkI 7 s.loops 0)).ok := (up_put ((up_inc hs).ok hs) _).ok ((up_inc hs).ok hs)
  go_wp2_with fail
  refine (HN.out v w2 b _ g2 hs2 HB2.out N2.out).mono ?_
  rintro e w3 ⟨rfl, g3, B3, f3, h3⟩
  have F3 := Lib.hid f3; have H3 := Lib.hid h3; have HB3 := Lib.hid B3
  clear f3 h3 B3
  go_wp2_with fail
  refine (put_any b _ g3 (mkI 8 s.loops 0) w3 HB3.out).mono ?_
  rintro e w4 ⟨rfl, h4⟩
  have H4 := Lib.hid h4; clear h4
  go_wp2
  go_end0
  exact ⟨rfl, Laid.trans F1.out H1.out (Laid.trans F2.out H2.out (Laid.trans F3.out H3.out H4.out))⟩

end Go.Proofs.Ytcmjgaadffffaaa
