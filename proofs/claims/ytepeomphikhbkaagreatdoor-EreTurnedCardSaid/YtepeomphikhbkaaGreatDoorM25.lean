/-
  Merged texts of this claim: BreM.
-/
import Derived.Test.YtepeomphikhbkaaGreatDoorM20
import Derived.Test.YtepeomphikhbkaaGreatDoorM24

/-
  Walk of package bre: branch.
-/
namespace Go.Proofs.YtepeomphikhbkaaGreatDoor
open Go.RowKit

/-! ### Rows of nodes beside a reader -/
def PO (O : Nat → Prop) (v : Value) : Nat → Prop := fun k => O k ∨ v.ownBlock = some k
/-- The parts read so far: a row that was not there in W. -/
def Pts (S O : Nat → Prop) (W w : World) (ps : List Nd) (v : Value) : Prop := OwnNS (SO S O) w ps v v.ownBlock ∧ ∀ k, v.ownBlock = some k → ¬ S k ∧ W.heap.size ≤ k
/-- Only blocks turn that a reading does not know, and W neither. -/
def Off (S : Nat → Prop) (W w w' : World) : Prop := ∃ X, Fr X w w' ∧ ∀ k, X k → ¬ S k ∧ W.heap.size ≤ k

theorem Pts.nil (S O : Nat → Prop) (W w : World) : Pts S O W w [] (.slice none 0 0) := ⟨OwnNS.nil _ _, fun _ h => by cases h⟩
theorem Pts.shape {S O : Nat → Prop} {W w : World} {ps : List Nd} {v : Value} (h : Pts S O W w ps v) : ∃ a c, v = .slice a ps.length c := h.1.shape
theorem Pts.stp {S O S' : Nat → Prop} {W w w' : World} {ps : List Nd} {v : Value} (h : Pts S O W w ps v) (hs : Stp S w S' w') : Pts S' O W w' ps v := by
  obtain ⟨h, hb⟩ := h
  have hlt := h.lt
  obtain ⟨vs, h1, h2, h3⟩ := h
  refine ⟨⟨vs, ownsRow_fr h1 hs.fr (fun k hk => (hb k hk).1), h2.keep hs.fr (fun k _ x => .inl (.inl x)) (fun k hk x => ?_), h3⟩, fun k hk => ⟨fun x => (hb k hk).1 (hs.old k (hlt k hk) x), (hb k hk).2⟩⟩
  rcases x with (x | x) | x
  · exact .inl (.inl (hs.old k hk x))
  · exact .inl (.inr x)
  · exact .inr x
theorem Pts.on {S O : Nat → Prop} {W w w' : World} {ps : List Nd} {v : Value} (h : Pts S O W w ps v) (f : Fr nob w w') : Pts S O W w' ps v := h.stp (Stp.of f)
theorem Pts.lt {S O : Nat → Prop} {W w : World} {ps : List Nd} {v : Value} (h : Pts S O W w ps v) (hO : ∀ k, O k → k < w.heap.size) : ∀ k, PO O v k → k < w.heap.size := fun k hk => hk.elim (hO k) (h.1.lt k)
theorem Pts.sn {S O : Nat → Prop} {W w : World} {ps : List Nd} {v : Value} (h : Pts S O W w ps v) (hO : ∀ k, O k → k < W.heap.size) : SN (SO S O) w ps v :=
  h.1.sn fun k hk x => x.elim (h.2 k hk).1 (fun y => by have := hO k y; have := (h.2 k hk).2; omega)

theorem Br.off {b : Nat} {l : List UInt8} {s : RxS} {S : Nat → Prop} {cv mv : Value} {W w w' : World} (h : Br b l s S cv mv w) (f : Off S W w w') : Br b l s S cv mv w' := by
  obtain ⟨X, f, hX⟩ := f
  exact ⟨f.heap h.blk (fun x => (hX _ x).1 h.me), ownsRow_fr h.cl f (fun k hk x => (hX _ x).1 (h.nc k hk).2), ownsRow_fr h.ma f (fun k hk x => (hX _ x).1 (h.nm k hk).2), h.nc, h.nm, h.ne, h.me⟩
theorem Rdg.off {b : Nat} {l : List UInt8} {s : RxS} {S : Nat → Prop} {W w w' : World} (h : Rdg b l s S w) (f : Off S W w w') : Rdg b l s S w' := by
  obtain ⟨cv, mv, h⟩ := h; exact ⟨cv, mv, h.off f⟩
theorem Stp.off {S0 S : Nat → Prop} {W w w' : World} (h : Stp S0 W S w) (f : Off S W w w') : Stp S0 W S w' := by
  obtain ⟨X, f, hX⟩ := f
  exact ⟨h.fr.trans f (fun i hi x => by have := (hX i x).2; omega), h.old, fun hl k hk => Nat.lt_of_lt_of_le (h.lt hl k hk) f.size⟩
theorem Off.size {S : Nat → Prop} {W w w' : World} (f : Off S W w w') : w.heap.size ≤ w'.heap.size := by obtain ⟨X, f, _⟩ := f; exact f.size

theorem wpList_append_pts {W w0 : World} {S O : Nat → Prop} {ops : Array Oper} {rest : List Oper} {o : Oper} {a : Act} {Q : Exit → Act → World → Prop} (hgd : o.guard = none) (s x : Operand)
    (ho : o.op = .call { callee := .builtin .append, args := #[s, x], argTypes := #[45, 45] })
    (ps : List Nd) (t : Nd) (v val : Value) (e : TypeId) (b : Nat) (hs : a.eval s = v) (hp : Pts S O W w0 ps v) (hlt : ∀ k, S k → k < w0.heap.size) (hO : ∀ k, O k → k < w0.heap.size) (hW : W.heap.size ≤ w0.heap.size) (hb : b = w0.heap.size)
    (hx : a.eval x = .slice (some ⟨b, 0, none⟩) 1 1) (hv : RN (SO S (PO O v)) w0 t val) (hl : ps.length ≤ 2000000)
    (h : ∀ v' w', Pts S O W w' (ps ++ [t]) v' → Off S W w0 w' → wpList Tryz.prog ops Q rest (a.put o.dst v') w') : wpList Tryz.prog ops Q (o :: rest) a (w0.alloc (.cells #[val] e)) := by
  have hv' : RN (LGS (SO S O) v.ownBlock) w0 t val := RN.keep (Fr.refl nob w0) (fun _ _ x => x.elim) (fun k _ x => by
    rcases x with (x | x) | x
    · exact .inl x
    · exact .inr (.inl x)
    · exact .inr (.inr x)) _ _ hv
  have hsn : SN (LGS (SO S O) v.ownBlock) (w0.alloc (.cells #[val] e)) [t] (.slice (some ⟨b, 0, none⟩) 1 1) := SN.one' hv' (fun k x => by
    rcases x with (x | x) | x
    · exact hlt k x
    · exact hO k x
    · exact hp.1.lt k x) e hb
  have hown := hp.1.on ((Fr.refl nob w0).alloc (.cells #[val] e))
  refine wpList_append_snS hgd s x ho ps [t] v _ v.ownBlock hs hown hx hsn (by simp; omega) fun v' w' g' q1 q2 q3 => ?_
  have hg' : v'.ownBlock = g' := q1.blk
  subst hg'
  have hal : w0.heap.size ≤ (w0.alloc (.cells #[val] e)).heap.size := ((Fr.refl nob w0).alloc _).size
  refine h v' w' ⟨q1, fun k hk => ?_⟩ ⟨LG v.ownBlock, ((Fr.refl (LG v.ownBlock) w0).alloc _).trans' q2, fun k hk => hp.2 k hk⟩
  rcases q3 k hk with hk | hk
  · exact hp.2 k hk
  · refine ⟨fun x => by have := hlt k x; omega, ?_⟩
    exact Nat.le_trans (Nat.le_trans hW hal) hk

/-! ### What a branch's parts are -/
def Nd.unit : Nd → Bool
  | .one _ | .rep .. | .group .. | .back _ | .start | .fin => true
  | _ => false
def units (ps : List Nd) : Prop := ∀ t ∈ ps, t.unit = true
theorem units.snoc {ps : List Nd} {t : Nd} (h : units ps) (ht : t.unit = true) : units (ps ++ [t]) := fun x hx => by
  rcases List.mem_append.1 hx with hx | hx
  · exact h x hx
  · rw [List.mem_singleton.1 hx]; exact ht
theorem unit_part {t : Nd} (h : t.unit = true) : t.part = [t] := by cases t <;> first | rfl | cases h
theorem units_parts {ps : List Nd} (h : units ps) : parts ps = ps := by
  induction ps with
  | nil => rfl
  | cons t ts ih =>
    show t.part ++ parts ts = _
    rw [unit_part (h t (by simp)), ih (fun x hx => h x (by simp [hx]))]; rfl
/-- What a branch is. -/
def Nd.brn : Nd → Prop
  | .empty => True
  | .cat l => 1 < l.length ∧ units l
  | t => t.unit = true
theorem joined_brn {ps : List Nd} (h : units ps) : (joined ps).brn := by
  unfold joined
  rw [units_parts h]
  match ps, h with
  | [], _ => trivial
  | [x], h =>
    have := h x (by simp)
    show x.brn
    cases x <;> first | exact this | cases this
  | x :: y :: r, h => exact ⟨by simp, h⟩
theorem brn_arm {t : Nd} (h : t.brn) : t.arm = [t] := by cases t <;> first | rfl | cases h
def brns (ts : List Nd) : Prop := ∀ t ∈ ts, t.brn
theorem brns.snoc {ts : List Nd} {t : Nd} (h : brns ts) (ht : t.brn) : brns (ts ++ [t]) := fun x hx => by
  rcases List.mem_append.1 hx with hx | hx
  · exact h x hx
  · rw [List.mem_singleton.1 hx]; exact ht
theorem brns_arms {ts : List Nd} (h : brns ts) : arms ts = ts := by
  induction ts with
  | nil => rfl
  | cons t r ih =>
    show t.arm ++ arms r = _
    rw [brn_arm (h t (by simp)), ih (fun x hx => h x (by simp [hx]))]; rfl
theorem chosen_brns {ts : List Nd} (h : brns ts) : chosen ts = onlyOf ts (.alt ts) := by unfold chosen; rw [brns_arms h]
theorem chosen_nil {ts : List Nd} (h : brns ts) : chosen ts ≠ .nil := by
  rw [chosen_brns h]
  match ts, h with
  | [], _ => intro e; cases e
  | [x], h => intro e; have := h x (by simp); rw [show x = Nd.nil from e] at this; cases this
  | x :: y :: r, _ => intro e; cases e

theorem repS_unit {l : List UInt8} : ∀ (n : Nat) (s : RxS) (t t' : Nd) (s' : RxS), t.unit = true → repS prg l n s t = .inr (t', s') → t'.unit = true
  | 0, s, t, t', s', ht, h => by rw [repS] at h; injection h with h; injection h with h1 h2; subst h1; exact ht
  | n + 1, s, t, t', s', ht, h => by
    rw [repS] at h
    split at h
    · exact repS_unit n _ _ _ _ (by rfl) h
    · split at h
      · exact repS_unit n _ _ _ _ (by rfl) h
      · split at h
        · split at h
          · cases h
          · exact repS_unit n _ _ _ _ (by rfl) h
        · split at h
          · exact repS_unit n _ _ _ _ (by rfl) h
          · injection h with h; injection h with h1 h2; subst h1; exact ht
theorem groupS_unit {l : List UInt8} {C : Option (RxS → Out Nd)} {p : Nat} {s s' : RxS} {t : Nd} (h : groupS prg l C p s = .inr (t, s')) : t.unit = true := by
  unfold groupS at h
  split at h
  · cases h
  · split at h
    · cases h
    · split at h
      · injection h with h; injection h with h1 h2; subst h1; rfl
      · cases h
theorem atomS_unit {l : List UInt8} {C : Option (RxS → Out Nd)} {s s' : RxS} {t : Nd} {b : UInt8} (h : atomS prg l C s b = .inr (t, s')) : t.unit = true := by
  unfold atomS at h
  split at h
  · unfold escS at h
    split at h
    · cases h
    · split at h
      · exact groupS_unit h
      · split at h
        · cases h
        · split at h
          · split at h
            · injection h with h; injection h with h1 h2; subst h1; rfl
            · cases h
          · split at h
            · cases h
            · injection h with h; injection h with h1 h2; subst h1; rfl
  · split at h
    · split at h
      · cases h
      · injection h with h; injection h with h1 h2; subst h1; rfl
    · split at h
      · injection h with h; injection h with h1 h2; subst h1; rfl
      · injection h with h; injection h with h1 h2; subst h1; rfl
theorem rndS_unit {l : List UInt8} {C : Option (RxS → Out Nd)} {s s' : RxS} {t : Nd} {b : UInt8} (h : rndS l C s b = .inr (t, s')) : t.unit = true := by
  unfold rndS at h
  split at h
  · cases h
  · next hp => exact repS_unit _ _ _ _ _ (atomS_unit hp) h
theorem brS_brn {l : List UInt8} {C : Option (RxS → Out Nd)} {inner : Bool} : ∀ (n : Nat) (front : Bool) (s : RxS) (ps : List Nd) (t : Nd) (s' : RxS), units ps → brS prg l C inner n front s ps = .inr (t, s') → t.brn
  | 0, front, s, ps, t, s', hu, h => by rw [brS] at h; injection h with h; injection h with h1 h2; subst h1; exact joined_brn hu
  | n + 1, front, s, ps, t, s', hu, h => by
    by_cases hl : s.at_ < l.length
    · cases h1 : (ahd l s.at_ [92, 124] || (inner && ahd l s.at_ [92, 41])) with
      | true => rw [brS_stop hl h1] at h; injection h with h; injection h with h1 h2; subst h1; exact joined_brn hu
      | false =>
        cases h2 : (front && (ahd l s.at_ [92, 123] || (ahd l s.at_ [92, 43] || ahd l s.at_ [92, 63]))) with
        | true => rw [brS_bad hl h1 h2] at h; cases h
        | false =>
          cases h3 : (ahd l s.at_ [36] && lastS l s.at_) with
          | true => rw [brS_fin hl h1 h2 h3] at h; exact brS_brn n _ _ _ _ _ (hu.snoc (by rfl)) h
          | false =>
            rw [brS_go hl h1 h2 h3] at h
            cases hr : rndS l C s l[s.at_] with
            | inl e => rw [hr] at h; cases h
            | inr z =>
              obtain ⟨t1, s1⟩ := z
              rw [hr] at h
              exact brS_brn n _ _ _ _ _ (hu.snoc (rndS_unit hr)) h
    · rw [brS_over (by omega)] at h; injection h with h; injection h with h1 h2; subst h1; exact joined_brn hu
theorem branchS_brn {l : List UInt8} {C : Option (RxS → Out Nd)} {inner : Bool} {s s' : RxS} {t : Nd} (h : branchS prg l C inner s = .inr (t, s')) : t.brn := by
  unfold branchS at h
  split at h
  · exact brS_brn _ _ _ _ _ _ (fun x hx => by rw [List.mem_singleton.1 hx]; rfl) h
  · exact brS_brn _ _ _ _ _ _ (fun x hx => by cases hx) h
theorem brn_nil {t : Nd} (h : t.brn) : t ≠ .nil := by rintro rfl; cases h
theorem RN.kind' {S : Nat → Prop} {w : World} {t : Nd} {v : Value} (h : RN S w t v) : t = .nil ∨ ∃ i x, v = .iface i x := by
  cases t with
  | nil => exact .inl rfl
  | _ => exact .inr (by rcases h.shape with e | e <;> first | exact e | (subst e; rw [RN] at h; first | (obtain ⟨_, h, _⟩ := h; cases h; done) | (cases h; done)))
theorem RN.some {S : Nat → Prop} {w : World} {t : Nd} {v : Value} (h : RN S w t v) (ht : t ≠ .nil) : ∃ i x, v = .iface i x := by
  rcases h.kind' with h | h
  · exact absurd h ht
  · exact h
end Go.Proofs.YtepeomphikhbkaaGreatDoor
