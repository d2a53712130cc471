/-
  Merged texts of this claim: BreM, BreV, RdR, RdS, BreQ, BreU.
-/
import Derived.Test.YtlchaocpejfikaaGreatDoorM13
import Derived.Test.YtlchaocpejfikaaGreatDoorM16
import Derived.Test.YtlchaocpejfikaaGreatDoorM21
import Derived.Test.YtlchaocpejfikaaGreatDoorM22
import Derived.Test.YtlchaocpejfikaaGreatDoorM23

/-
  Walk of package bre: branch.
-/
namespace Go.Proofs.YtlchaocpejfikaaGreatDoor
open Go.RowKit

/-! ### Rows of nodes beside a reader -/
def PO (O : Nat → Prop) (v : Value) : Nat → Prop := fun k => O k ∨ v.ownBlock = some k
/-- The parts read so far: a row that was not there in W. -/
def Pts (S O : Nat → Prop) (W w : World) (ps : List Nd) (v : Value) : Prop := OwnNS (SO S O) w ps v v.ownBlock ∧ ∀ k, v.ownBlock = some k → ¬ S k ∧ W.heap.size ≤ k
/-- Only blocks turn that a reading does not know, and W neither. -/
def Off (S : Nat → Prop) (W w w' : World) : Prop := ∃ X, Fr X w w' ∧ ∀ k, X k → ¬ S k ∧ W.heap.size ≤ k

theorem Pts.nil (S O : Nat → Prop) (W w : World) : Pts S O W w [] (.slice none 0 0) := ⟨OwnNS.nil _ _, fun _ h => by cases h⟩
theorem Pts.shape {S O : Nat → Prop} {W w : World} {ps : List Nd} {v : Value} (h : Pts S O W w ps v) : ∃ a c, v = .slice a ps.length c := h.1.shape
theorem Pts.stp {S O S' : Nat → Prop} {W w w' : World} {ps : List Nd} {v : Value} (h : Pts S O W w ps v) (hs : Stp S w S' w') : Pts S' O W w' ps v := by
  obtain ⟨h, hb⟩ := h
  have hlt := h.lt
  obtain ⟨vs, h1, h2, h3⟩ := h
  refine ⟨⟨vs, ownsRow_fr h1 hs.fr (fun k hk => (hb k hk).1), h2.keep hs.fr (fun k _ x => .inl (.inl x)) (fun k hk x => ?_), h3⟩, fun k hk => ⟨fun x => (hb k hk).1 (hs.old k (hlt k hk) x), (hb k hk).2⟩⟩
  rcases x with (x | x) | x
  · exact .inl (.inl (hs.old k hk x))
  · exact .inl (.inr x)
  · exact .inr x
theorem Pts.on {S O : Nat → Prop} {W w w' : World} {ps : List Nd} {v : Value} (h : Pts S O W w ps v) (f : Fr nob w w') : Pts S O W w' ps v := h.stp (Stp.of f)
theorem Pts.lt {S O : Nat → Prop} {W w : World} {ps : List Nd} {v : Value} (h : Pts S O W w ps v) (hO : ∀ k, O k → k < w.heap.size) : ∀ k, PO O v k → k < w.heap.size := fun k hk => hk.elim (hO k) (h.1.lt k)
theorem Pts.sn {S O : Nat → Prop} {W w : World} {ps : List Nd} {v : Value} (h : Pts S O W w ps v) (hO : ∀ k, O k → k < W.heap.size) : SN (SO S O) w ps v :=
  h.1.sn fun k hk x => x.elim (h.2 k hk).1 (fun y => by have := hO k y; have := (h.2 k hk).2; omega)

theorem Br.off {b : Nat} {l : List UInt8} {s : RxS} {S : Nat → Prop} {cv mv : Value} {W w w' : World} (h : Br b l s S cv mv w) (f : Off S W w w') : Br b l s S cv mv w' := by
  obtain ⟨X, f, hX⟩ := f
  exact ⟨f.heap h.blk (fun x => (hX _ x).1 h.me), ownsRow_fr h.cl f (fun k hk x => (hX _ x).1 (h.nc k hk).2), ownsRow_fr h.ma f (fun k hk x => (hX _ x).1 (h.nm k hk).2), h.nc, h.nm, h.ne, h.me⟩
theorem Rdg.off {b : Nat} {l : List UInt8} {s : RxS} {S : Nat → Prop} {W w w' : World} (h : Rdg b l s S w) (f : Off S W w w') : Rdg b l s S w' := by
  obtain ⟨cv, mv, h⟩ := h; exact ⟨cv, mv, h.off f⟩
theorem Stp.off {S0 S : Nat → Prop} {W w w' : World} (h : Stp S0 W S w) (f : Off S W w w') : Stp S0 W S w' := by
  obtain ⟨X, f, hX⟩ := f
  exact ⟨h.fr.trans f (fun i hi x => by have := (hX i x).2; omega), h.old, fun hl k hk => Nat.lt_of_lt_of_le (h.lt hl k hk) f.size⟩
theorem Off.size {S : Nat → Prop} {W w w' : World} (f : Off S W w w') : w.heap.size ≤ w'.heap.size := by obtain ⟨X, f, _⟩ := f; exact f.size

theorem wpList_append_pts {W w0 : World} {S O : Nat → Prop} {ops : Array Oper} {rest : List Oper} {o : Oper} {a : Act} {Q : Exit → Act → World → Prop} (hgd : o.guard = none) (s x : Operand)
    (ho : o.op = .call { callee := .builtin .append, args := #[s, x], argTypes := #[68, 68] })
    (ps : List Nd) (t : Nd) (v val : Value) (e : TypeId) (b : Nat) (hs : a.eval s = v) (hp : Pts S O W w0 ps v) (hlt : ∀ k, S k → k < w0.heap.size) (hO : ∀ k, O k → k < w0.heap.size) (hW : W.heap.size ≤ w0.heap.size) (hb : b = w0.heap.size)
    (hx : a.eval x = .slice (some ⟨b, 0, none⟩) 1 1) (hv : RN (SO S (PO O v)) w0 t val) (hl : ps.length ≤ 2000000)
    (h : ∀ v' w', Pts S O W w' (ps ++ [t]) v' → Off S W w0 w' → wpList Tryz.prog ops Q rest (a.put o.dst v') w') : wpList Tryz.prog ops Q (o :: rest) a (w0.alloc (.cells #[val] e)) := by
  have hv' : RN (LGS (SO S O) v.ownBlock) w0 t val := RN.keep (Fr.refl nob w0) (fun _ _ x => x.elim) (fun k _ x => by
    rcases x with (x | x) | x
    · exact .inl x
    · exact .inr (.inl x)
    · exact .inr (.inr x)) _ _ hv
  have hsn : SN (LGS (SO S O) v.ownBlock) (w0.alloc (.cells #[val] e)) [t] (.slice (some ⟨b, 0, none⟩) 1 1) := SN.one' hv' (fun k x => by
    rcases x with (x | x) | x
    · exact hlt k x
    · exact hO k x
    · exact hp.1.lt k x) e hb
  have hown := hp.1.on ((Fr.refl nob w0).alloc (.cells #[val] e))
  refine wpList_append_snS hgd s x ho ps [t] v _ v.ownBlock hs hown hx hsn (by simp; omega) fun v' w' g' q1 q2 q3 => ?_
  have hg' : v'.ownBlock = g' := q1.blk
  subst hg'
  have hal : w0.heap.size ≤ (w0.alloc (.cells #[val] e)).heap.size := ((Fr.refl nob w0).alloc _).size
  refine h v' w' ⟨q1, fun k hk => ?_⟩ ⟨LG v.ownBlock, ((Fr.refl (LG v.ownBlock) w0).alloc _).trans' q2, fun k hk => hp.2 k hk⟩
  rcases q3 k hk with hk | hk
  · exact hp.2 k hk
  · refine ⟨fun x => by have := hlt k x; omega, ?_⟩
    exact Nat.le_trans (Nat.le_trans hW hal) hk

/-! ### What a branch's parts are -/
def Nd.unit : Nd → Bool
  | .one _ | .rep .. | .group .. | .back _ | .start | .fin => true
  | _ => false
def units (ps : List Nd) : Prop := ∀ t ∈ ps, t.unit = true
theorem units.snoc {ps : List Nd} {t : Nd} (h : units ps) (ht : t.unit = true) : units (ps ++ [t]) := fun x hx => by
  rcases List.mem_append.1 hx with hx | hx
  · exact h x hx
  · rw [List.mem_singleton.1 hx]; exact ht
theorem unit_part {t : Nd} (h : t.unit = true) : t.part = [t] := by cases t <;> first | rfl | cases h
theorem units_parts {ps : List Nd} (h : units ps) : parts ps = ps := by
  induction ps with
  | nil => rfl
  | cons t ts ih =>
    show t.part ++ parts ts = _
    rw [unit_part (h t (by simp)), ih (fun x hx => h x (by simp [hx]))]; rfl
/-- What a branch is. -/
def Nd.brn : Nd → Prop
  | .empty => True
  | .cat l => 1 < l.length ∧ units l
  | t => t.unit = true
theorem joined_brn {ps : List Nd} (h : units ps) : (joined ps).brn := by
  unfold joined
  rw [units_parts h]
  match ps, h with
  | [], _ => trivial
  | [x], h =>
    have := h x (by simp)
    show x.brn
    cases x <;> first | exact this | cases this
  | x :: y :: r, h => exact ⟨by simp, h⟩
theorem brn_arm {t : Nd} (h : t.brn) : t.arm = [t] := by cases t <;> first | rfl | cases h
def brns (ts : List Nd) : Prop := ∀ t ∈ ts, t.brn
theorem brns.snoc {ts : List Nd} {t : Nd} (h : brns ts) (ht : t.brn) : brns (ts ++ [t]) := fun x hx => by
  rcases List.mem_append.1 hx with hx | hx
  · exact h x hx
  · rw [List.mem_singleton.1 hx]; exact ht
theorem brns_arms {ts : List Nd} (h : brns ts) : arms ts = ts := by
  induction ts with
  | nil => rfl
  | cons t r ih =>
    show t.arm ++ arms r = _
    rw [brn_arm (h t (by simp)), ih (fun x hx => h x (by simp [hx]))]; rfl
theorem chosen_brns {ts : List Nd} (h : brns ts) : chosen ts = onlyOf ts (.alt ts) := by unfold chosen; rw [brns_arms h]
theorem chosen_nil {ts : List Nd} (h : brns ts) : chosen ts ≠ .nil := by
  rw [chosen_brns h]
  match ts, h with
  | [], _ => intro e; cases e
  | [x], h => intro e; have := h x (by simp); rw [show x = Nd.nil from e] at this; cases this
  | x :: y :: r, _ => intro e; cases e

theorem repS_unit {l : List UInt8} : ∀ (n : Nat) (s : RxS) (t t' : Nd) (s' : RxS), t.unit = true → repS prg l n s t = .inr (t', s') → t'.unit = true
  | 0, s, t, t', s', ht, h => by rw [repS] at h; injection h with h; injection h with h1 h2; subst h1; exact ht
  | n + 1, s, t, t', s', ht, h => by
    rw [repS] at h
    split at h
    · exact repS_unit n _ _ _ _ (by rfl) h
    · split at h
      · exact repS_unit n _ _ _ _ (by rfl) h
      · split at h
        · split at h
          · cases h
          · exact repS_unit n _ _ _ _ (by rfl) h
        · split at h
          · exact repS_unit n _ _ _ _ (by rfl) h
          · injection h with h; injection h with h1 h2; subst h1; exact ht
theorem groupS_unit {l : List UInt8} {C : Option (RxS → Out Nd)} {p : Nat} {s s' : RxS} {t : Nd} (h : groupS prg l C p s = .inr (t, s')) : t.unit = true := by
  unfold groupS at h
  split at h
  · cases h
  · split at h
    · cases h
    · split at h
      · injection h with h; injection h with h1 h2; subst h1; rfl
      · cases h
theorem atomS_unit {l : List UInt8} {C : Option (RxS → Out Nd)} {s s' : RxS} {t : Nd} {b : UInt8} (h : atomS prg l C s b = .inr (t, s')) : t.unit = true := by
  unfold atomS at h
  split at h
  · unfold escS at h
    split at h
    · cases h
    · split at h
      · exact groupS_unit h
      · split at h
        · cases h
        · split at h
          · split at h
            · injection h with h; injection h with h1 h2; subst h1; rfl
            · cases h
          · split at h
            · cases h
            · injection h with h; injection h with h1 h2; subst h1; rfl
  · split at h
    · split at h
      · cases h
      · injection h with h; injection h with h1 h2; subst h1; rfl
    · split at h
      · injection h with h; injection h with h1 h2; subst h1; rfl
      · injection h with h; injection h with h1 h2; subst h1; rfl
theorem rndS_unit {l : List UInt8} {C : Option (RxS → Out Nd)} {s s' : RxS} {t : Nd} {b : UInt8} (h : rndS l C s b = .inr (t, s')) : t.unit = true := by
  unfold rndS at h
  split at h
  · cases h
  · next hp => exact repS_unit _ _ _ _ _ (atomS_unit hp) h
theorem brS_brn {l : List UInt8} {C : Option (RxS → Out Nd)} {inner : Bool} : ∀ (n : Nat) (front : Bool) (s : RxS) (ps : List Nd) (t : Nd) (s' : RxS), units ps → brS prg l C inner n front s ps = .inr (t, s') → t.brn
  | 0, front, s, ps, t, s', hu, h => by rw [brS] at h; injection h with h; injection h with h1 h2; subst h1; exact joined_brn hu
  | n + 1, front, s, ps, t, s', hu, h => by
    by_cases hl : s.at_ < l.length
    · cases h1 : (ahd l s.at_ [92, 124] || (inner && ahd l s.at_ [92, 41])) with
      | true => rw [brS_stop hl h1] at h; injection h with h; injection h with h1 h2; subst h1; exact joined_brn hu
      | false =>
        cases h2 : (front && (ahd l s.at_ [92, 123] || (ahd l s.at_ [92, 43] || ahd l s.at_ [92, 63]))) with
        | true => rw [brS_bad hl h1 h2] at h; cases h
        | false =>
          cases h3 : (ahd l s.at_ [36] && lastS l s.at_) with
          | true => rw [brS_fin hl h1 h2 h3] at h; exact brS_brn n _ _ _ _ _ (hu.snoc (by rfl)) h
          | false =>
            rw [brS_go hl h1 h2 h3] at h
            cases hr : rndS l C s l[s.at_] with
            | inl e => rw [hr] at h; cases h
            | inr z =>
              obtain ⟨t1, s1⟩ := z
              rw [hr] at h
              exact brS_brn n _ _ _ _ _ (hu.snoc (rndS_unit hr)) h
    · rw [brS_over (by omega)] at h; injection h with h; injection h with h1 h2; subst h1; exact joined_brn hu
theorem branchS_brn {l : List UInt8} {C : Option (RxS → Out Nd)} {inner : Bool} {s s' : RxS} {t : Nd} (h : branchS prg l C inner s = .inr (t, s')) : t.brn := by
  unfold branchS at h
  split at h
  · exact brS_brn _ _ _ _ _ _ (fun x hx => by rw [List.mem_singleton.1 hx]; rfl) h
  · exact brS_brn _ _ _ _ _ _ (fun x hx => by cases hx) h
theorem brn_nil {t : Nd} (h : t.brn) : t ≠ .nil := by rintro rfl; cases h
theorem RN.kind' {S : Nat → Prop} {w : World} {t : Nd} {v : Value} (h : RN S w t v) : t = .nil ∨ ∃ i x, v = .iface i x := by
  cases t with
  | nil => exact .inl rfl
  | _ => exact .inr (by rcases h.shape with e | e <;> first | exact e | (subst e; rw [RN] at h; first | (obtain ⟨_, h, _⟩ := h; cases h; done) | (cases h; done)))
theorem RN.some {S : Nat → Prop} {w : World} {t : Nd} {v : Value} (h : RN S w t v) (ht : t ≠ .nil) : ∃ i x, v = .iface i x := by
  rcases h.kind' with h | h
  · exact absurd h ht
  · exact h
end Go.Proofs.YtlchaocpejfikaaGreatDoor

/-
  A basic regex in plain words: a regex within a text. No walk.
-/
namespace Go.Proofs.YtlchaocpejfikaaGreatDoor
open Go.RowKit

/-! ### Groups of greater numbers -/
mutual
def Nd.turn (o : Int) : Nd → Nd
  | .cat l => .cat (Nd.turns o l)
  | .alt l => .alt (Nd.turns o l)
  | .rep x a b => .rep (x.turn o) a b
  | .group n x => .group (n + o) (x.turn o)
  | .nil => .nil
  | .empty => .empty
  | .one s => .one s
  | .back n => .back n
  | .start => .start
  | .fin => .fin
def Nd.turns (o : Int) : List Nd → List Nd
  | [] => []
  | t :: ts => t.turn o :: Nd.turns o ts
end
theorem Nd.turns_eq (o : Int) (l : List Nd) : Nd.turns o l = l.map (Nd.turn o) := by
  induction l with
  | nil => rfl
  | cons t ts ih => simp only [Nd.turns, List.map_cons, ih]
theorem Nd.turns_append (o : Int) (l m : List Nd) : Nd.turns o (l ++ m) = Nd.turns o l ++ Nd.turns o m := by simp only [Nd.turns_eq, List.map_append]
theorem Nd.turns_length (o : Int) (l : List Nd) : (Nd.turns o l).length = l.length := by simp only [Nd.turns_eq, List.length_map]
theorem unit_turn (o : Int) (t : Nd) : (t.turn o).unit = t.unit := by cases t <;> rfl
theorem units_turns {o : Int} {ps : List Nd} (h : units ps) : units (Nd.turns o ps) := fun x hx => by
  rw [Nd.turns_eq] at hx
  obtain ⟨y, hy, rfl⟩ := List.mem_map.1 hx
  rw [unit_turn]; exact h y hy
theorem brn_turn {o : Int} {t : Nd} (h : t.brn) : (t.turn o).brn := by
  cases t with
  | cat l => exact ⟨by rw [Nd.turns_length]; exact h.1, units_turns h.2⟩
  | nil => cases h
  | alt l => cases h
  | empty => trivial
  | _ => exact h
theorem brns_turns {o : Int} {ts : List Nd} (h : brns ts) : brns (Nd.turns o ts) := fun x hx => by
  rw [Nd.turns_eq] at hx
  obtain ⟨y, hy, rfl⟩ := List.mem_map.1 hx
  exact brn_turn (h y hy)
theorem joined_units {ps : List Nd} (h : units ps) : joined ps = onlyOf ps (.cat ps) := by unfold joined; rw [units_parts h]
theorem joined_turn {o : Int} {ps : List Nd} (h : units ps) : joined (Nd.turns o ps) = (joined ps).turn o := by
  rw [joined_units h, joined_units (units_turns h)]
  match ps with
  | [] => rfl
  | [x] => rfl
  | x :: y :: r => rfl
theorem chosen_turn {o : Int} {ts : List Nd} (h : brns ts) : chosen (Nd.turns o ts) = (chosen ts).turn o := by
  rw [chosen_brns h, chosen_brns (brns_turns h)]
  match ts with
  | [] => rfl
  | [x] => rfl
  | x :: y :: r => rfl
theorem joined_backs {ps : List Nd} (h : units ps) : (joined ps).backs = Nd.backss ps := by
  rw [joined_units h]
  match ps with
  | [] => rfl
  | [x] => simp [onlyOf, Nd.backss]
  | x :: y :: r => rfl
theorem joined_deep {ps : List Nd} (h : units ps) : (joined ps).deep = Nd.deeps ps := by
  rw [joined_units h]
  match ps with
  | [] => rfl
  | [x] => simp [onlyOf, Nd.deeps]
  | x :: y :: r => rfl
theorem joined_groups {ps : List Nd} (h : units ps) : (joined ps).groups = Nd.groupss ps := by
  rw [joined_units h]
  match ps with
  | [] => rfl
  | [x] => simp [onlyOf, Nd.groupss]
  | x :: y :: r => rfl
theorem chosen_backs {ts : List Nd} (h : brns ts) : (chosen ts).backs = Nd.backss ts := by
  rw [chosen_brns h]
  match ts with
  | [] => rfl
  | [x] => simp [onlyOf, Nd.backss]
  | x :: y :: r => rfl
theorem chosen_deep {ts : List Nd} (h : brns ts) : (chosen ts).deep = Nd.deeps ts := by
  rw [chosen_brns h]
  match ts with
  | [] => rfl
  | [x] => simp [onlyOf, Nd.deeps]
  | x :: y :: r => rfl
theorem chosen_groups {ts : List Nd} (h : brns ts) : (chosen ts).groups = Nd.groupss ts := by
  rw [chosen_brns h]
  match ts with
  | [] => rfl
  | [x] => simp [onlyOf, Nd.groupss]
  | x :: y :: r => rfl
theorem backss_snoc (ps : List Nd) (t : Nd) : Nd.backss (ps ++ [t]) = (Nd.backss ps || t.backs) := by
  simp only [Nd.backss_eq, List.any_append, List.any_cons, List.any_nil, Bool.or_false]
theorem deeps_snoc (ps : List Nd) (t : Nd) : Nd.deeps (ps ++ [t]) = max (Nd.deeps ps) t.deep := by
  rw [Nd.deeps_append]; simp [Nd.deeps]
theorem groupss_snoc (ps : List Nd) (t : Nd) : Nd.groupss (ps ++ [t]) = Nd.groupss ps + t.groups := by
  rw [Nd.groupss_append]; simp [Nd.groupss]

/-! ### A text within another -/
/-- What may stand behind. -/
def Tail (q : List UInt8) : Prop := q = [] ∨ (∃ r, q = 92 :: 41 :: r) ∨ ∃ r, q = 92 :: 124 :: r
/-- The state, within the other text. -/
def RxS.sh (P o : Nat) (c0 : List Nat) (m0 : List (Nat × List UInt8)) (s : RxS) : RxS :=
  ⟨P + s.at_, s.opened + o, c0 ++ s.closed.map (· + o), m0 ++ s.marks.map fun m => (P + m.1, m.2)⟩
section
variable {P o : Nat} {c0 : List Nat} {m0 : List (Nat × List UInt8)} (s : RxS)
theorem sh_go (n : Nat) : (s.go n).sh P o c0 m0 = (s.sh P o c0 m0).go n := by simp [RxS.sh, RxS.go, Nat.add_assoc]
theorem sh_to (n : Nat) : (s.to n).sh P o c0 m0 = (s.sh P o c0 m0).to (P + n) := by simp [RxS.sh, RxS.to]
theorem sh_mark (t : List UInt8) : (s.mark t).sh P o c0 m0 = (s.sh P o c0 m0).mark t := by simp [RxS.sh, RxS.mark]
theorem sh_at : (s.sh P o c0 m0).at_ = P + s.at_ := rfl
end
section
variable {p l q : List UInt8}
theorem cx_drop {k : Nat} (hk : k ≤ l.length) : (p ++ (l ++ q)).drop (p.length + k) = l.drop k ++ q := by
  rw [drop_sh, List.drop_append_of_le_length hk]
theorem cx_ahd1 (hq : Tail q) {k : Nat} {c : UInt8} (hk : k ≤ l.length) (hc : c ≠ 92) : ahd (p ++ (l ++ q)) (p.length + k) [c] = ahd l k [c] := by
  unfold ahd
  rw [cx_drop hk]
  cases l.drop k with
  | nil => rcases hq with rfl | ⟨r, rfl⟩ | ⟨r, rfl⟩ <;> simp [List.isPrefixOf, hc]
  | cons a r => simp [List.isPrefixOf]
theorem cx_ahd2 (hq : Tail q) {k : Nat} {c : UInt8} (hk : k ≤ l.length) (hc : c ≠ 92) (h : k < l.length ∨ (c ≠ 41 ∧ c ≠ 124)) : ahd (p ++ (l ++ q)) (p.length + k) [92, c] = ahd l k [92, c] := by
  unfold ahd
  rw [cx_drop hk]
  cases hd : l.drop k with
  | nil =>
    have : ¬ k < l.length := fun hlt => by rw [List.drop_eq_getElem_cons hlt] at hd; cases hd
    obtain ⟨h1, h2⟩ := h.resolve_left this
    rcases hq with rfl | ⟨r, rfl⟩ | ⟨r, rfl⟩ <;> simp [List.isPrefixOf, h1, h2]
  | cons a r =>
    cases r with
    | nil => rcases hq with rfl | ⟨r, rfl⟩ | ⟨r, rfl⟩ <;> simp [List.isPrefixOf, hc]
    | cons b r => simp [List.isPrefixOf]
theorem cx_get {k : Nat} (hk : k < l.length) : (p ++ (l ++ q))[p.length + k]? = some l[k] := by
  rw [get_sh, List.getElem?_append_left hk, List.getElem?_eq_getElem hk]
theorem cx_last (hq : Tail q) {k : Nat} (hk : k < l.length) : lastS (p ++ (l ++ q)) (p.length + k) = lastS l k := by
  unfold lastS
  rw [show p.length + k + 1 = p.length + (k + 1) from by omega]
  by_cases h1 : k + 1 < l.length
  · rw [cx_ahd2 hq (Nat.le_of_lt h1) (by decide) (.inl h1), cx_ahd2 hq (Nat.le_of_lt h1) (by decide) (.inl h1), cx_drop (Nat.le_of_lt h1)]
    have : (l.drop (k + 1)).isEmpty = false := by rw [List.drop_eq_getElem_cons h1]; rfl
    rw [List.drop_eq_getElem_cons h1]; rfl
  · have he : l.drop (k + 1) = [] := List.drop_eq_nil_of_le (by omega)
    unfold ahd
    rw [cx_drop (by omega), he]
    rcases hq with rfl | ⟨r, rfl⟩ | ⟨r, rfl⟩ <;> simp [List.isPrefixOf]
theorem cx_num (hq : Tail q) : ∀ (r : List UInt8) (c n : Nat), num3 (r ++ q) c n = num3 r c n
  | [], c, n => by
    rcases hq with rfl | ⟨r, rfl⟩ | ⟨r, rfl⟩
    · rfl
    · rw [List.nil_append]; show num3 (92 :: _) c n = (n, c); rw [num3, if_neg (fun h => by have := h.2.1; simp at this)]
    · rw [List.nil_append]; show num3 (92 :: _) c n = (n, c); rw [num3, if_neg (fun h => by have := h.2.1; simp at this)]
  | x :: r, c, n => by
    rw [List.cons_append, num3, num3]
    split
    · exact cx_num hq r _ _
    · rfl
theorem cx_itv (hq : Tail q) {m0 x0 : Int} {j : Nat} {k' : Nat} (hk : k' ≤ l.length) (h : itvB l k' = some (m0, x0, j)) : itvB (p ++ (l ++ q)) (p.length + k') = some (m0, x0, p.length + j) := by
  obtain ⟨m, c, hM⟩ : ∃ m c, num3 (l.drop k') 0 0 = (m, c) := ⟨_, _, rfl⟩
  have hb := num3_bd l k' hk
  rw [hM] at hb
  have hb3 : k' + c ≤ l.length := hb.2.2
  have hM' : num3 ((p ++ (l ++ q)).drop (p.length + k')) 0 0 = (m, c) := by rw [cx_drop hk, cx_num hq, hM]
  by_cases hc : c = 0
  · subst hc; rw [itvB_zero hM] at h; cases h
  · have a1 : ahd (p ++ (l ++ q)) (p.length + k' + c) [44] = ahd l (k' + c) [44] := by rw [Nat.add_assoc]; exact cx_ahd1 hq hb3 (by decide)
    cases ha : ahd l (k' + c) [44] with
    | false =>
      rw [ha] at a1
      have a2 : ahd (p ++ (l ++ q)) (p.length + k' + c) [92, 125] = ahd l (k' + c) [92, 125] := by rw [Nat.add_assoc]; exact cx_ahd2 hq hb3 (by decide) (.inr (by decide))
      rw [itvB_one hM hc ha] at h
      rw [itvB_one hM' hc a1, a2]
      split at h
      · cases h
      · next hn => rw [if_neg hn]; injection h with h; injection h with h1 h2; injection h2 with h2 h3; subst h1; subst h2; subst h3; simp only [Nat.add_assoc]
    | true =>
      rw [ha] at a1
      have hle := ahd_le ha (by decide)
      simp only [List.length_singleton] at hle
      obtain ⟨y, d, hX⟩ : ∃ y d, num3 (l.drop (k' + c + 1)) 0 0 = (y, d) := ⟨_, _, rfl⟩
      have hb2 := num3_bd l (k' + c + 1) hle
      rw [hX] at hb2
      have hb4 : k' + c + 1 + d ≤ l.length := hb2.2.2
      have hX' : num3 ((p ++ (l ++ q)).drop (p.length + k' + c + 1)) 0 0 = (y, d) := by rw [show p.length + k' + c + 1 = p.length + (k' + c + 1) from by omega, cx_drop hle, cx_num hq, hX]
      by_cases hd : d = 0
      · subst hd
        have a2 : ahd (p ++ (l ++ q)) (p.length + k' + c + 1) [92, 125] = ahd l (k' + c + 1) [92, 125] := by rw [show p.length + k' + c + 1 = p.length + (k' + c + 1) from by omega]; exact cx_ahd2 hq hle (by decide) (.inr (by decide))
        rw [itvB_open hM hc ha hX] at h
        rw [itvB_open hM' hc a1 hX', a2]
        split at h
        · cases h
        · next hn => rw [if_neg hn]; injection h with h; injection h with h1 h2; injection h2 with h2 h3; subst h1; subst h2; subst h3; simp only [Nat.add_assoc]
      · have a2 : ahd (p ++ (l ++ q)) (p.length + k' + c + 1 + d) [92, 125] = ahd l (k' + c + 1 + d) [92, 125] := by rw [show p.length + k' + c + 1 + d = p.length + (k' + c + 1 + d) from by omega]; exact cx_ahd2 hq hb4 (by decide) (.inr (by decide))
        rw [itvB_two hM hc ha hX hd] at h
        rw [itvB_two hM' hc a1 hX' hd, a2]
        split at h
        · cases h
        · next hn => rw [if_neg hn]; injection h with h; injection h with h1 h2; injection h2 with h2 h3; subst h1; subst h2; subst h3; simp only [Nat.add_assoc]
theorem cx_prs {k : Nat} {c : S4} {j : Nat} (h : prs l k = .inr (c, j)) : prs (p ++ (l ++ q)) (p.length + k) = .inr (c, p.length + j) := by
  rw [prs_sh, prs_app q h]; rfl
end
end Go.Proofs.YtlchaocpejfikaaGreatDoor

/-
  The tree of a regex of either kind is right: its groups are numbered as they are opened, and it refers to closed ones alone. No walk.
-/
namespace Go.Proofs.YtlchaocpejfikaaGreatDoor
open Go.RowKit

def ci (c : List Nat) : List Int := c.map Int.ofNat
theorem ci_add (c : List Nat) (n : Nat) : ci (c ++ [n]) = ci c ++ [(n : Int)] := by simp [ci]
theorem ci_has (c : List Nat) (n : Nat) : (ci c).contains (n : Int) = c.contains n := by
  induction c with
  | nil => rfl
  | cons a r ih =>
    rw [show ci (a :: r) = (a : Int) :: ci r from rfl, List.contains_cons, List.contains_cons, ih]
    have e : ((n : Int) == (a : Int)) = (n == a) := by
      rw [Bool.eq_iff_iff]; simp only [beq_iff_eq]; omega
    rw [e]
/-- A node that was read from one state to another. -/
def Lks (s : RxS) (t : Nd) (s' : RxS) : Prop := t.look s.opened (ci s.closed) = some ((s'.opened : Int), ci s'.closed)
def LksL (s : RxS) (ps : List Nd) (s' : RxS) : Prop := Nd.looks ps s.opened (ci s.closed) = some ((s'.opened : Int), ci s'.closed)
theorem looks_snoc {ps : List Nd} {t : Nd} {o : Int} {c : List Int} {o' : Int} {c' : List Int} (h : Nd.looks ps o c = some (o', c')) : Nd.looks (ps ++ [t]) o c = t.look o' c' := by
  induction ps generalizing o c with
  | nil => rw [Nd.looks] at h; injection h with h; injection h with h1 h2; subst h1; subst h2; exact looks_one t _ _
  | cons a r ih =>
    rw [List.cons_append, Nd.looks]
    rw [Nd.looks] at h
    cases ha : a.look o c with
    | none => rw [ha] at h; cases h
    | some p => obtain ⟨o1, c1⟩ := p; rw [ha] at h; exact ih h
theorem LksL.snoc {s s1 s2 : RxS} {ps : List Nd} {t : Nd} (h : LksL s ps s1) (ht : Lks s1 t s2) : LksL s (ps ++ [t]) s2 := by unfold LksL; rw [looks_snoc h]; exact ht
theorem unit_plain {t : Nd} (h : t.unit = true) : t.plain = true := by cases t <;> first | rfl | cases h
theorem brn_alt {t : Nd} (h : t.brn) : t.isAlt = false := by cases t <;> first | rfl | cases h
theorem joined_look {s s' : RxS} {ps : List Nd} (hu : units ps) (h : LksL s ps s') : Lks s (joined ps) s' := by
  rw [joined_units hu]
  match ps, hu, h with
  | [], _, h => exact h
  | [x], _, h => unfold LksL at h; rw [looks_one] at h; exact h
  | x :: y :: r, hu, h =>
    show Nd.look (.cat (x :: y :: r)) _ _ = _
    have e : (x :: y :: r).any (fun n => !n.plain) = false := by
      rw [List.any_eq_false]; intro z hz; rw [unit_plain (hu z hz)]; decide
    rw [Nd.look, e, if_pos (by simp)]
    exact h
theorem chosen_look {s s' : RxS} {ts : List Nd} (hu : brns ts) (h : LksL s ts s') : Lks s (chosen ts) s' := by
  rw [chosen_brns hu]
  match ts, hu, h with
  | [], _, h => exact h
  | [x], _, h => unfold LksL at h; rw [looks_one] at h; exact h
  | x :: y :: r, hu, h =>
    show Nd.look (.alt (x :: y :: r)) _ _ = _
    have e : (x :: y :: r).any Nd.isAlt = false := by
      rw [List.any_eq_false]; intro z hz; rw [brn_alt (hu z hz)]; decide
    rw [Nd.look, e, if_pos (by simp)]
    exact h
theorem atom_unit {t : Nd} (h : t.atom = true) : t.unit = true := by cases t <;> first | rfl | cases h
theorem rep_look {s0 s s' : RxS} {t : Nd} {a b : Int} (ht : t.atom = true) (h : Lks s0 t s) (hr : repOk true a b = true) (e1 : s'.opened = s.opened) (e2 : s'.closed = s.closed) : Lks s0 (.rep t a b) s' := by
  unfold Lks at h ⊢
  rw [Nd.look, ht, if_pos hr, h, e1, e2]
theorem dnum_max (l : List UInt8) (k : Nat) : (dnum l k).1 ≤ 255 := by
  unfold dnum; split
  · exact Nat.zero_le _
  · omega
theorem ditv_ok {l : List UInt8} {ere : Bool} {k : Nat} {m x : Int} {j : Nat} (h : ditv l ere k = some (m, x, j)) : repOk true m x = true := by
  have d1 := dnum_max l k
  have d2 := dnum_max l (k + (dnum l k).2 + 1)
  unfold ditv at h
  simp only at h
  split at h
  · cases h
  · split at h
    · split at h
      all_goals
        split at h
        · cases h
        · next ha =>
          injection h with h; injection h with h1 h; injection h with h2 h3
          subst h1; subst h2
          simp only [not_or, not_and] at ha
          unfold repOk
          simp only [Bool.true_and, Bool.and_eq_true, decide_eq_true_eq, Bool.or_eq_true, beq_iff_eq]
          refine ⟨by omega, by omega, ?_⟩
          first | exact .inl rfl | exact .inl trivial | trivial | exact .inr ⟨Int.not_lt.1 (ha.2 (Int.natCast_nonneg _)), by omega⟩
    · split at h
      · cases h
      · injection h with h; injection h with h1 h; injection h with h2 h3
        subst h1; subst h2
        unfold repOk
        simp only [Bool.true_and, Bool.and_eq_true, decide_eq_true_eq, Bool.or_eq_true, beq_iff_eq]
        exact ⟨by omega, by omega, .inr ⟨by omega, by omega⟩⟩
theorem repD_look {ere : Bool} {l : List UInt8} {s0 : RxS} : ∀ (n : Nat) (s : RxS) (t t' : Nd) (s' : RxS), t.atom = true → Lks s0 t s → repD prg ere l n s t = .inr (t', s') → Lks s0 t' s' ∧ t'.atom = true
  | 0, s, t, t', s', ht, hk, h => by
    rw [repD] at h; injection h with h; injection h with h1 h2; subst h1; subst h2; exact ⟨hk, ht⟩
  | n + 1, s, t, t', s', ht, hk, h => by
    have hgo : ∀ u b, ((if ere then s else s.mark u).go (opB ere b).length).opened = s.opened ∧ ((if ere then s else s.mark u).go (opB ere b).length).closed = s.closed := fun u b => by cases ere <;> exact ⟨rfl, rfl⟩
    rw [repD] at h
    split at h
    · exact repD_look n _ _ _ _ rfl (show Lks s0 (.rep t 0 (-1)) (s.go 1) from rep_look ht hk (by decide) rfl rfl) h
    · split at h
      · exact repD_look n _ _ _ _ rfl (show Lks s0 (.rep t 1 (-1)) ((if ere then s else s.mark [92, 43]).go (opB ere 43).length) from rep_look ht hk (by decide) (hgo _ _).1 (hgo _ _).2) h
      · split at h
        · exact repD_look n _ _ _ _ rfl (show Lks s0 (.rep t 0 1) ((if ere then s else s.mark [92, 63]).go (opB ere 63).length) from rep_look ht hk (by decide) (hgo _ _).1 (hgo _ _).2) h
        · split at h
          · cases hi : ditv l ere (s.at_ + (opB ere 123).length) with
            | none => rw [hi] at h; cases h
            | some y =>
              obtain ⟨m, x, j⟩ := y
              rw [hi] at h
              exact repD_look n _ _ _ _ rfl (show Lks s0 (.rep t m x) (s.to j) from rep_look ht hk (ditv_ok hi) rfl rfl) h
          · injection h with h; injection h with h1 h2; subst h1; subst h2; exact ⟨hk, ht⟩
def Looks (f : RxS → Out Nd) : Prop := ∀ s t s', f s = .inr (t, s') → Lks s t s'
section
variable {ere : Bool} {l : List UInt8} {C : Option (RxS → Out Nd)} (hC : ∀ f, C = some f → Looks f)
include hC
theorem atomD_look {s s' : RxS} {t : Nd} (h : atomD prg ere l C s = .inr (t, s')) : Lks s t s' ∧ t.atom = true := by
  unfold atomD at h
  split at h
  · unfold groupD at h
    cases C with
    | none => cases h
    | some f =>
      simp only at h
      cases hf : f { s.go (opB ere 40).length with opened := s.opened + 1 } with
      | inl e => rw [hf] at h; cases h
      | inr z =>
        obtain ⟨t1, s1⟩ := z
        rw [hf] at h
        simp only at h
        have hk := hC f rfl _ _ _ hf
        split at h
        · injection h with h; injection h with h1 h2; subst h1; subst h2
          refine ⟨?_, rfl⟩
          unfold Lks at hk ⊢
          show Nd.look (.group ((s.opened + 1 : Nat) : Int) t1) _ _ = _
          rw [Nd.look, if_pos (by simp)]
          have hk : t1.look ((s.opened + 1 : Nat) : Int) (ci s.closed) = some ((s1.opened : Int), ci s1.closed) := hk
          rw [show ((s.opened + 1 : Nat) : Int) = (s.opened : Int) + 1 from by omega] at hk
          rw [hk]
          show some (_, ci s1.closed ++ [_]) = some (_, ci (s1.closed ++ [s.opened + 1]))
          rw [ci_add]; rfl
        · cases h
  · split at h
    · cases h
    · split at h
      · cases hp : prs l (s.at_ + 1) with
        | inl z => rw [hp] at h; cases h
        | inr y =>
          rw [hp] at h
          injection h with h; injection h with h2 h3; subst h2; subst h3
          exact ⟨rfl, rfl⟩
      · split at h
        · injection h with h; injection h with h2 h3; subst h2; subst h3
          exact ⟨rfl, rfl⟩
        · split at h
          · cases h
          · split at h
            · cases h
            · injection h with h; injection h with h2 h3; subst h2; subst h3
              exact ⟨rfl, rfl⟩
            · next b r e =>
              unfold escD at h
              split at h
              · split at h
                · next hc =>
                  injection h with h; injection h with h2 h3; subst h2; subst h3
                  refine ⟨?_, rfl⟩
                  show Nd.look (.back _) _ _ = _
                  rw [Nd.look, ci_has, if_pos hc]
                  cases ere <;> rfl
                · cases h
              · split at h
                · cases h
                · next c m _ =>
                  injection h with h; injection h with h2 h3; subst h2; subst h3
                  refine ⟨?_, rfl⟩
                  show some _ = some _
                  cases m <;> rfl
theorem brD_look {inner : Bool} {s0 : RxS} : ∀ (n : Nat) (first front : Bool) (s : RxS) (ps : List Nd) (t : Nd) (s' : RxS), units ps → LksL s0 ps s → brD prg ere l C inner n first front s ps = .inr (t, s') → Lks s0 t s' ∧ t.brn
  | 0, first, front, s, ps, t, s', hu, hk, h => by
    rw [brD] at h; injection h with h; injection h with h1 h2; subst h1; subst h2
    exact ⟨joined_look hu hk, joined_brn hu⟩
  | n + 1, first, front, s, ps, t, s', hu, hk, h => by
    rw [brD] at h
    split at h
    · injection h with h; injection h with h1 h2; subst h1; subst h2
      exact ⟨joined_look hu hk, joined_brn hu⟩
    · split at h
      · exact brD_look n _ _ _ _ _ _ (hu.snoc rfl) (show LksL s0 (ps ++ [.start]) (s.go 1) from hk.snoc (t := .start) rfl) h
      · split at h
        · exact brD_look n _ _ _ _ _ _ (hu.snoc rfl) (show LksL s0 (ps ++ [.fin]) (s.go 1) from hk.snoc (t := .fin) rfl) h
        · split at h
          · cases h
          · split at h
            · cases h
            · next t1 s1 e1 =>
              split at h
              · cases h
              · next t2 s2 e2 =>
                obtain ⟨a1, a2⟩ := atomD_look hC e1
                obtain ⟨b1, b2⟩ := repD_look _ _ _ _ _ a2 a1 e2
                exact brD_look n _ _ _ _ _ _ (hu.snoc (atom_unit b2)) (hk.snoc b1) h
theorem branchD_look {inner : Bool} {s s' : RxS} {t : Nd} (h : branchD prg ere l C inner s = .inr (t, s')) : Lks s t s' ∧ t.brn :=
  brD_look hC _ _ _ _ _ _ _ (fun x hx => by cases hx) (by unfold LksL; rw [Nd.looks]) h
theorem loopD_look {inner : Bool} {s0 : RxS} : ∀ (n : Nat) (s : RxS) (ts : List Nd) (t : Nd) (s' : RxS), brns ts → LksL s0 ts s → chLoopD prg ere l C inner n s ts = .inr (t, s') → Lks s0 t s'
  | 0, s, ts, t, s', hu, hk, h => by
    rw [chLoopD] at h; injection h with h; injection h with h1 h2; subst h1; subst h2
    exact chosen_look hu hk
  | n + 1, s, ts, t, s', hu, hk, h => by
    rw [chLoopD] at h
    split at h
    · split at h
      · cases h
      · next t1 s1 e1 =>
        obtain ⟨a1, a2⟩ := branchD_look hC e1
        have a1 : Lks s t1 s1 := by
          unfold Lks at a1 ⊢
          cases ere <;> exact a1
        exact loopD_look n _ _ _ _ (hu.snoc a2) (hk.snoc a1) h
    · injection h with h; injection h with h1 h2; subst h1; subst h2
      exact chosen_look hu hk
theorem choiceD_look {inner : Bool} : Looks (choiceD prg ere l C inner) := by
  intro s t s' h
  unfold choiceD at h
  split at h
  · cases h
  · next t1 s1 e1 =>
    obtain ⟨a1, a2⟩ := branchD_look hC e1
    exact loopD_look hC _ _ _ _ _ (fun x hx => by rw [List.mem_singleton.1 hx]; exact a2) (show Nd.looks [t1] _ _ = _ by rw [looks_one]; exact a1) h
end
theorem chD_look {ere : Bool} {l : List UInt8} : ∀ n, Looks (chD prg ere l n)
  | 0 => by rw [chD]; exact choiceD_look (fun f hf => by cases hf)
  | n + 1 => by rw [chD]; exact choiceD_look (fun f hf => by injection hf with hf; subst hf; exact chD_look n)
/-- The tree of a regex is right. -/
theorem parseD_right {ere : Bool} {l : List UInt8} {t : Nd} {s : RxS} (h : parseD prg ere l = .inr (t, s)) : t.right = true := by
  unfold parseD at h
  split at h
  · cases h
  · have := chD_look 12 _ _ _ h
    unfold Nd.right
    have e : t.look 0 [] = some ((s.opened : Int), ci s.closed) := this
    rw [e]; rfl
end Go.Proofs.YtlchaocpejfikaaGreatDoor

/-
  Signs behind a place; what reads a group's inside. No walk.
-/
namespace Go.Proofs.YtlchaocpejfikaaGreatDoor
open Go.RowKit

def sg1 : List UInt8 → List UInt8
  | [] => []
  | b :: r => if b = 92 then (match r with | [] => [92] | c :: _ => [92, c]) else [b]
theorem sgn_drop {l D : List UInt8} {k : Nat} (h : l.drop k = D) : sgn l k = sg1 D := by
  subst h
  unfold sgn sg1
  by_cases hk : k < l.length
  · rw [List.getElem?_eq_getElem hk, List.drop_eq_getElem_cons hk]
    simp only
    split
    · by_cases hk2 : k + 1 < l.length
      · rw [List.getElem?_eq_getElem hk2, List.drop_eq_getElem_cons hk2]
      · rw [List.getElem?_eq_none (by omega), List.drop_eq_nil_of_le (by omega)]
    · rfl
  · rw [List.getElem?_eq_none (by omega), List.drop_eq_nil_of_le (by omega)]
/-- What reads a group's inside, so many levels being left. -/
def levD (ere : Bool) (l : List UInt8) : Nat → Option (RxS → Out Nd)
  | 0 => none
  | n + 1 => some (chD prg ere l n)
theorem chD_levD (ere : Bool) (l : List UInt8) (n : Nat) : chD prg ere l n = choiceD prg ere l (levD ere l n) (decide (n < 12)) := by
  cases n with
  | zero => funext s; rw [chD]; rfl
  | succ n => funext s; rw [chD]; rfl
end Go.Proofs.YtlchaocpejfikaaGreatDoor

/-
  A basic regex in plain words: bytes told one behind the other. No walk.
-/
namespace Go.Proofs.YtlchaocpejfikaaGreatDoor
open Go.RowKit

/-- How a byte is told. -/
def Tel (b : UInt8) (u : List UInt8) : Prop :=
  (u = [b] ∧ b ≠ 92 ∧ b ≠ 91 ∧ b ≠ 46 ∧ b ≠ 36 ∧ b ≠ 42 ∧ b ≠ 94) ∨ ∃ x, u = [92, x] ∧ x ≠ 40 ∧ x ≠ 41 ∧ x ≠ 123 ∧ x ≠ 124 ∧ x ≠ 43 ∧ x ≠ 63 ∧ ¬ (49 ≤ x.toNat ∧ x.toNat ≤ 57) ∧ escB x = some (spn b.toNat b.toNat, false)
def telT : List (UInt8 × List UInt8) → List UInt8
  | [] => []
  | x :: r => x.2 ++ telT r
def telN (ts : List (UInt8 × List UInt8)) : List Nd := ts.map fun x => .one (spn x.1.toNat x.1.toNat)

theorem Tel.pre {b : UInt8} {u : List UInt8} (h : Tel b u) (r : List UInt8) : ([92, 43] : List UInt8).isPrefixOf (u ++ r) = false ∧ ([92, 63] : List UInt8).isPrefixOf (u ++ r) = false ∧ ([92, 123] : List UInt8).isPrefixOf (u ++ r) = false ∧
    ([92, 124] : List UInt8).isPrefixOf (u ++ r) = false ∧ ([92, 41] : List UInt8).isPrefixOf (u ++ r) = false ∧ ([92, 40] : List UInt8).isPrefixOf (u ++ r) = false ∧ ([42] : List UInt8).isPrefixOf (u ++ r) = false ∧ ([36] : List UInt8).isPrefixOf (u ++ r) = false ∧ ([94] : List UInt8).isPrefixOf (u ++ r) = false := by
  rcases h with ⟨rfl, h1, h2, h3, h4, h5, h6⟩ | ⟨x, rfl, h1, h2, h3, h4, h5, h6, _⟩
  · simp [List.isPrefixOf, Ne.symm h1, Ne.symm h4, Ne.symm h5, Ne.symm h6]
  · simp [List.isPrefixOf, Ne.symm h1, Ne.symm h2, Ne.symm h3, Ne.symm h4, Ne.symm h5, Ne.symm h6]
theorem telT_pre {ts : List (UInt8 × List UInt8)} (h : ∀ x ∈ ts, Tel x.1 x.2) : ([92, 43] : List UInt8).isPrefixOf (telT ts) = false ∧ ([92, 63] : List UInt8).isPrefixOf (telT ts) = false ∧ ([92, 123] : List UInt8).isPrefixOf (telT ts) = false ∧
    ([92, 124] : List UInt8).isPrefixOf (telT ts) = false ∧ ([92, 41] : List UInt8).isPrefixOf (telT ts) = false ∧ ([92, 40] : List UInt8).isPrefixOf (telT ts) = false ∧ ([42] : List UInt8).isPrefixOf (telT ts) = false ∧ ([36] : List UInt8).isPrefixOf (telT ts) = false ∧ ([94] : List UInt8).isPrefixOf (telT ts) = false := by
  cases ts with
  | nil => simp [telT, List.isPrefixOf]
  | cons x r => exact (h x (by simp)).pre (telT r)

theorem get_of_drop {l : List UInt8} {k : Nat} {a : UInt8} {r : List UInt8} (h : l.drop k = a :: r) : ∃ hk : k < l.length, l[k] = a ∧ l.drop (k + 1) = r := by
  have hk : k < l.length := by
    by_cases hk : k < l.length
    · exact hk
    · rw [List.drop_eq_nil_of_le (by omega)] at h; cases h
  rw [List.drop_eq_getElem_cons hk] at h
  injection h with h1 h2
  exact ⟨hk, h1, h2⟩

theorem tel_atom {l : List UInt8} {C : Option (RxS → Out Nd)} {s : RxS} {b : UInt8} {u r : List UInt8} (h : Tel b u) (hd : l.drop s.at_ = u ++ r) : ∃ hk : s.at_ < l.length, atomS prg l C s l[s.at_] = .inr (.one (spn b.toNat b.toNat), s.go u.length) := by
  have hp := h.pre r
  rcases h with ⟨rfl, h1, h2, h3, h4, h5, h6⟩ | ⟨x, rfl, h1, h2, h3, h4, h5, h6, h7, h8⟩
  · obtain ⟨hk, hb, _⟩ := get_of_drop hd
    refine ⟨hk, ?_⟩
    unfold atomS
    rw [hb, if_neg h1, if_neg h2, if_neg h3]
    rfl
  · obtain ⟨hk, hb, hd2⟩ := get_of_drop (r := x :: r) hd
    obtain ⟨hk2, hx, _⟩ := get_of_drop hd2
    refine ⟨hk, ?_⟩
    unfold atomS
    rw [if_pos hb]
    unfold escS
    rw [List.getElem?_eq_getElem hk2, hx]
    simp only
    unfold ahd
    rw [hd, if_neg (by rw [hp.2.2.2.2.2.1]; decide), if_neg (by rw [hp.2.2.2.2.1]; decide), if_neg h7, h8]
    rfl

theorem RxS.go_go (s : RxS) (a b : Nat) : (s.go a).go b = s.go (a + b) := by simp [RxS.go, Nat.add_assoc]

theorem brS_tells {l : List UInt8} {C : Option (RxS → Out Nd)} {inner : Bool} : ∀ (ts : List (UInt8 × List UInt8)) (n : Nat) (front : Bool) (s : RxS) (ps : List Nd), (∀ x ∈ ts, Tel x.1 x.2) → s.at_ ≤ l.length → l.drop s.at_ = telT ts → l.length < n + s.at_ →
    brS prg l C inner n front s ps = .inr (joined (ps ++ telN ts), s.to l.length)
  | [], n, front, s, ps, ht, ha, hd, hn => by
    have hle : l.length ≤ s.at_ := by have := congrArg List.length hd; simp [telT] at this; omega
    obtain ⟨m, rfl⟩ : ∃ m, n = m + 1 := ⟨n - 1, by omega⟩
    rw [brS_over hle]
    have : s.to l.length = s := by unfold RxS.to; cases s; simp at *; omega
    rw [this]; simp [telN]
  | (b, u) :: ts, n, front, s, ps, ht, ha, hd, hn => by
    obtain ⟨m, rfl⟩ : ∃ m, n = m + 1 := ⟨n - 1, by omega⟩
    have hp := telT_pre ht
    have hT := ht (b, u) (by simp)
    have ht' : ∀ x ∈ ts, Tel x.1 x.2 := fun x hx => ht x (by simp [hx])
    have hp' := telT_pre ht'
    obtain ⟨hk, hat⟩ := tel_atom (C := C) (s := s) hT (r := telT ts) hd
    have hd' : l.drop (s.go u.length).at_ = telT ts := by
      show l.drop (s.at_ + u.length) = _
      rw [← List.drop_drop, hd, telT, List.drop_left']; rfl
    have hu : 1 ≤ u.length := by rcases hT with ⟨e, _⟩ | ⟨x, e, _⟩ <;> (simp only at e; subst e; simp)
    have hle : s.at_ + u.length ≤ l.length := by
      have := congrArg List.length hd; simp [telT] at this; omega
    have hrnd : rndS l C s l[s.at_] = .inr (.one (spn b.toNat b.toNat), s.go u.length) := by
      unfold rndS
      rw [hat]
      simp only
      refine repS_end ?_ ?_ ?_ ?_
      · unfold ahd; rw [hd']; exact hp'.1
      · unfold ahd; rw [hd']; exact hp'.2.1
      · unfold ahd; rw [hd']; exact hp'.2.2.1
      · unfold ahd; rw [hd']; exact hp'.2.2.2.2.2.2.1
    rw [brS_go hk ?_ ?_ ?_, hrnd]
    · simp only
      rw [brS_tells ts m false (s.go u.length) _ ht' hle hd' (by show _ < m + (s.at_ + u.length); omega)]
      simp [telN, RxS.go, RxS.to]
    · unfold ahd; rw [hd, hp.2.2.2.1, hp.2.2.2.2.1]; simp
    · unfold ahd; rw [hd, hp.2.2.1, hp.1, hp.2.1]; simp
    · unfold ahd; rw [hd, hp.2.2.2.2.2.2.2.1]; rfl

theorem telN_parts (ts : List (UInt8 × List UInt8)) : parts (telN ts) = telN ts := by
  induction ts with
  | nil => rfl
  | cons x r ih => show Nd.part _ ++ parts (telN r) = _; rw [ih]; rfl
theorem chosen_joined_tel {ts : List (UInt8 × List UInt8)} (h : ts ≠ []) : chosen [joined (telN ts)] = joined (telN ts) := by
  unfold joined
  rw [telN_parts]
  match ts, h with
  | [x], _ => rfl
  | x :: y :: r, _ => rfl

theorem parse_tells (ts : List (UInt8 × List UInt8)) (h : ∀ x ∈ ts, Tel x.1 x.2) (hne : ts ≠ []) (hl : (telT ts).length ≤ 250) : parseS prg (telT ts) = .inr (joined (telN ts), ⟨(telT ts).length, 0, [], []⟩) := by
  have hp := telT_pre h
  unfold parseS
  rw [if_neg (by omega), chS]
  unfold choiceS branchS
  rw [if_neg (by unfold ahd; simp only [List.drop_zero]; rw [hp.2.2.2.2.2.2.2.2]; decide)]
  rw [brS_tells ts _ _ _ _ h (by simp) (by simp) (by simp)]
  simp only
  rw [chLoop, if_neg (by
    unfold ahd
    rw [List.drop_eq_nil_of_le (by simp [RxS.to])]
    decide)]
  rw [List.nil_append]
  show Sum.inr (chosen [joined (telN ts)], _) = _
  rw [chosen_joined_tel hne]
  rfl

theorem punct_has : punctS.has 92 = true ∧ punctS.has 91 = true ∧ punctS.has 46 = true ∧ punctS.has 36 = true ∧ punctS.has 42 = true ∧ punctS.has 94 = true := by decide +kernel
theorem punct_letters : punctS.has 110 = false ∧ punctS.has 116 = false ∧ punctS.has 119 = false ∧ punctS.has 87 = false ∧ punctS.has 115 = false ∧ punctS.has 83 = false ∧ punctS.has 10 = false := by decide +kernel
theorem punct_digits : ∀ n, n < 58 → 49 ≤ n → punctS.has n = false := by decide +kernel

theorem tel_plain {b : UInt8} (h : punctS.has b.toNat = false) : Tel b [b] := by
  obtain ⟨h1, h2, h3, h4, h5, h6⟩ := punct_has
  refine .inl ⟨rfl, ?_, ?_, ?_, ?_, ?_, ?_⟩ <;> (rintro rfl; first | (rw [show (92 : UInt8).toNat = 92 from rfl, h1] at h; cases h) | (rw [show (91 : UInt8).toNat = 91 from rfl, h2] at h; cases h) | (rw [show (46 : UInt8).toNat = 46 from rfl, h3] at h; cases h) | (rw [show (36 : UInt8).toNat = 36 from rfl, h4] at h; cases h) | (rw [show (42 : UInt8).toNat = 42 from rfl, h5] at h; cases h) | (rw [show (94 : UInt8).toNat = 94 from rfl, h6] at h; cases h))

/-- How Quoted tells a byte in a basic regex. -/
def quoB (b : UInt8) : List UInt8 :=
  if b = 10 then [92, 110]
  else if b = 40 ∨ b = 41 ∨ b = 123 ∨ b = 124 ∨ b = 43 ∨ b = 63 then [b]
  else if punctS.has b.toNat then [92, b] else [b]
theorem escB_punct {b : UInt8} (h : punctS.has b.toNat = true) : escB b = some (spn b.toNat b.toNat, false) := by
  obtain ⟨h1, h2, h3, h4, h5, h6, _⟩ := punct_letters
  unfold escB
  have e (x : UInt8) (n : Nat) (hx : x.toNat = n) (hn : punctS.has n = false) : b ≠ x := by rintro rfl; rw [hx, hn] at h; cases h
  rw [if_neg (e 110 110 rfl h1), if_neg (e 116 116 rfl h2), if_neg (e 119 119 rfl h3), if_neg (e 87 87 rfl h4), if_neg (e 115 115 rfl h5), if_neg (e 83 83 rfl h6), if_pos h]
theorem tel_quoB (b : UInt8) : Tel b (quoB b) := by
  unfold quoB
  split
  · next h => subst h; exact .inr ⟨110, rfl, by decide, by decide, by decide, by decide, by decide, by decide, by decide, rfl⟩
  · split
    · next h =>
      refine .inl ⟨rfl, ?_⟩
      rcases h with rfl | rfl | rfl | rfl | rfl | rfl <;> decide
    · next h =>
      simp only [not_or] at h
      split
      · next hp =>
        refine .inr ⟨b, rfl, h.1, h.2.1, h.2.2.1, h.2.2.2.1, h.2.2.2.2.1, h.2.2.2.2.2, ?_, escB_punct hp⟩
        rintro ⟨k1, k2⟩
        rw [punct_digits b.toNat (by omega) k1] at hp; cases hp
      · next hp => exact tel_plain (by simpa using hp)
end Go.Proofs.YtlchaocpejfikaaGreatDoor

/-
  Chapter 4: digits; an interval in a text.
-/
namespace Go.Proofs.YtlchaocpejfikaaGreatDoor
open Go.RowKit

def dig (d : Nat) : UInt8 := UInt8.ofNat (48 + d)
theorem dig_nat {d : Nat} (h : d < 10) : (dig d).toNat = 48 + d := by unfold dig; rw [UInt8.toNat_ofNat']; omega
/-- A number's digits. -/
def dgF : Nat → Nat → List UInt8
  | 0, _ => []
  | f + 1, n => if n < 10 then [dig n] else dgF f (n / 10) ++ [dig (n % 10)]
theorem dgF_more : ∀ (f g n : Nat), n < 10 ^ f → n < 10 ^ g → 1 ≤ f → 1 ≤ g → dgF f n = dgF g n
  | 0, _, _, _, _, h, _ => by omega
  | _, 0, _, _, _, _, h => by omega
  | f + 1, g + 1, n, h1, h2, _, _ => by
    rw [dgF, dgF]
    split
    · rfl
    · next hn =>
      have hf : 1 ≤ f := by cases f with | zero => simp at h1; omega | succ f => omega
      have hg : 1 ≤ g := by cases g with | zero => simp at h2; omega | succ g => omega
      rw [dgF_more f g (n / 10) (by rw [Nat.pow_succ] at h1; omega) (by rw [Nat.pow_succ] at h2; omega) hf hg]
def dg (n : Nat) : List UInt8 := dgF 5 n
theorem dg_one {n : Nat} (h : n < 10) : dg n = [dig n] := by unfold dg; rw [dgF, if_pos h]
theorem dg_more {n : Nat} (h : ¬ n < 10) (h2 : n < 100000) : dg n = dg (n / 10) ++ [dig (n % 10)] := by
  unfold dg
  rw [show dgF 5 n = if n < 10 then [dig n] else dgF 4 (n / 10) ++ [dig (n % 10)] from rfl, if_neg h]
  rw [dgF_more 4 5 (n / 10) (by omega) (by omega) (by omega) (by omega)]
theorem dg_two {n : Nat} (h1 : 10 ≤ n) (h2 : n < 100) : dg n = [dig (n / 10), dig (n % 10)] := by
  rw [dg_more (by omega) (by omega), dg_one (by omega)]; rfl
theorem dg_three {n : Nat} (h1 : 100 ≤ n) (h2 : n < 1000) : dg n = [dig (n / 10 / 10), dig (n / 10 % 10), dig (n % 10)] := by
  rw [dg_more (by omega) (by omega), dg_two (by omega) (by omega)]; rfl
theorem dg_four {n : Nat} (h1 : 1000 ≤ n) (h2 : n < 10000) : dg n = [dig (n / 10 / 10 / 10), dig (n / 10 / 10 % 10), dig (n / 10 % 10), dig (n % 10)] := by
  rw [dg_more (by omega) (by omega), dg_three (by omega) (by omega)]; rfl
theorem dg_five {n : Nat} (h1 : 10000 ≤ n) (h2 : n < 100000) : dg n = [dig (n / 10 / 10 / 10 / 10), dig (n / 10 / 10 / 10 % 10), dig (n / 10 / 10 % 10), dig (n / 10 % 10), dig (n % 10)] := by
  rw [dg_more (by omega) (by omega), dg_four (by omega) (by omega)]; rfl
theorem dg_len {n : Nat} (h : n < 100000) : 1 ≤ (dg n).length ∧ (dg n).length ≤ 5 := by
  by_cases h1 : n < 10
  · rw [dg_one h1]; simp
  · by_cases h2 : n < 100
    · rw [dg_two (by omega) h2]; simp
    · by_cases h3 : n < 1000
      · rw [dg_three (by omega) h3]; simp
      · by_cases h4 : n < 10000
        · rw [dg_four (by omega) h4]; simp
        · rw [dg_five (by omega) h]; simp

/-! ### Reading digits -/
theorem num3_dig {d c n : Nat} {r : List UInt8} (hd : d < 10) : num3 (dig d :: r) c n = if c ≠ 3 then num3 r (c + 1) (n * 10 + d) else (n, c) := by
  rw [num3, dig_nat hd]
  by_cases hc : c = 3
  · rw [if_neg (fun h => h.2.2 hc), if_neg (by simpa using hc)]
  · rw [if_pos ⟨by omega, by omega, hc⟩, if_pos hc]; congr 1; omega
def noDig (r : List UInt8) : Prop := ∀ c n, num3 r c n = (n, c)
theorem noDig_44 (r : List UInt8) : noDig (44 :: r) := fun c n => by rw [num3, if_neg (fun h => by have := h.1; simp at this)]
theorem noDig_92 (r : List UInt8) : noDig (92 :: r) := fun c n => by rw [num3, if_neg (fun h => by have := h.2.1; simp at this)]
theorem num3_dg {n : Nat} (h : n < 1000) {r : List UInt8} (hr : noDig r) : num3 (dg n ++ r) 0 0 = (n, (dg n).length) := by
  by_cases h1 : n < 10
  · rw [dg_one h1]
    simp only [List.cons_append, List.nil_append]
    rw [num3_dig h1, if_pos (by decide), hr]; simp
  · by_cases h2 : n < 100
    · rw [dg_two (by omega) h2]
      simp only [List.cons_append, List.nil_append]
      rw [num3_dig (by omega), if_pos (by decide), num3_dig (by omega), if_pos (by decide), hr]; simp; omega
    · rw [dg_three (by omega) h]
      simp only [List.cons_append, List.nil_append]
      rw [num3_dig (by omega), if_pos (by decide), num3_dig (by omega), if_pos (by decide), num3_dig (by omega), if_pos (by decide), hr]; simp; omega
theorem num3_big {n : Nat} (h : 1000 ≤ n) (h2 : n < 100000) (r : List UInt8) : ∃ x d q, num3 (dg n ++ r) 0 0 = (x, 3) ∧ (dg n ++ r).drop 3 = dig d :: q ∧ d < 10 := by
  by_cases h4 : n < 10000
  · rw [dg_four h h4]
    simp only [List.cons_append, List.nil_append]
    rw [num3_dig (by omega), if_pos (by decide), num3_dig (by omega), if_pos (by decide), num3_dig (by omega), if_pos (by decide), num3_dig (by omega), if_neg (by decide)]
    exact ⟨_, _, _, rfl, rfl, by omega⟩
  · rw [dg_five (by omega) h2]
    simp only [List.cons_append, List.nil_append]
    rw [num3_dig (by omega), if_pos (by decide), num3_dig (by omega), if_pos (by decide), num3_dig (by omega), if_pos (by decide), num3_dig (by omega), if_neg (by decide)]
    exact ⟨_, _, _, rfl, rfl, by omega⟩
theorem dig_ne {d : Nat} (h : d < 10) (x : UInt8) (hx : x.toNat < 48 ∨ 57 < x.toNat) : dig d ≠ x := fun e => by have := dig_nat h; rw [e] at this; omega

/-- What stands behind a\{. -/
def bndT (m n how : Nat) : List UInt8 := dg m ++ ((if how = 1 then [44] else if how = 2 then 44 :: dg n else []) ++ [92, 125])
def mxT (m n how : Nat) : Int := if how = 1 then -1 else if how = 2 then n else m

theorem ahd_dig {l : List UInt8} {k d : Nat} {q : List UInt8} (hd : d < 10) (h : l.drop k = dig d :: q) : ahd l k [44] = false ∧ ahd l k [92, 125] = false := by
  have h1 := dig_ne hd 44 (by decide)
  have h2 := dig_ne hd 92 (by decide)
  unfold ahd
  rw [h]
  simp [List.isPrefixOf, Ne.symm h1, Ne.symm h2]
theorem drop_add {l a b : List UInt8} {k : Nat} (h : l.drop k = a ++ b) : l.drop (k + a.length) = b := by
  rw [← List.drop_drop, h, List.drop_left']; rfl

theorem itvB_bnd {l : List UInt8} {k m n how : Nat} (hk : k ≤ l.length) (hd : l.drop k = bndT m n how) (hm : m < 65536) (hn : n < 65536) :
    itvB l k = if 255 < m ∨ 255 < mxT m n how ∨ (0 ≤ mxT m n how ∧ mxT m n how < m) then none else some ((m : Int), mxT m n how, l.length) := by
  have hlen : l.length = k + (bndT m n how).length := by rw [← hd, List.length_drop]; omega
  by_cases hb : 1000 ≤ m
  · obtain ⟨x, d, q, h1, h2, h3⟩ := num3_big hb (by omega) ((if how = 1 then [44] else if how = 2 then 44 :: dg n else []) ++ [92, 125])
    have hd3 : l.drop (k + 3) = dig d :: q := by rw [← List.drop_drop, hd]; exact h2
    obtain ⟨a1, a2⟩ := ahd_dig h3 hd3
    have E1 : num3 (l.drop k) 0 0 = (x, 3) := by rw [hd]; exact h1
    rw [itvB_one E1 (by decide) a1, if_pos (.inl a2), if_pos (.inl (by omega))]
  · have hl1 := dg_len (n := m) (by omega)
    by_cases hw : how = 1
    · subst hw
      have hd0 : l.drop k = dg m ++ [44, 92, 125] := hd
      have e1 := num3_dg (n := m) (by omega) (noDig_44 [92, 125])
      have d1 := drop_add hd0
      have d2 : l.drop (k + (dg m).length + 1) = [92, 125] := by rw [← List.drop_drop, d1]; rfl
      have E1 : num3 (l.drop k) 0 0 = (m, (dg m).length) := by rw [hd0]; exact e1
      have E2 : num3 (l.drop (k + (dg m).length + 1)) 0 0 = (0, 0) := by rw [d2]; exact noDig_92 [125] 0 0
      rw [itvB_open E1 (by omega) (by unfold ahd; rw [d1]; rfl) E2]
      have ha : ahd l (k + (dg m).length + 1) [92, 125] = true := by unfold ahd; rw [d2]; rfl
      rw [ha]
      have hmx : mxT m n 1 = -1 := rfl
      have hL : (bndT m n 1).length = (dg m).length + 3 := by unfold bndT; simp
      rw [hmx]
      by_cases h255 : 255 < m
      · rw [if_pos (.inr h255), if_pos (.inl h255)]
      · rw [if_neg (by simpa using h255), if_neg (by omega)]
        rw [hlen, hL]; rfl
    · by_cases hw2 : how = 2
      · subst hw2
        have hd0 : l.drop k = dg m ++ (44 :: (dg n ++ [92, 125])) := hd
        have e1 := num3_dg (n := m) (by omega) (noDig_44 (dg n ++ [92, 125]))
        have d1 := drop_add hd0
        have d2 : l.drop (k + (dg m).length + 1) = dg n ++ [92, 125] := by rw [← List.drop_drop, d1]; rfl
        have hmx : mxT m n 2 = n := rfl
        have E1 : num3 (l.drop k) 0 0 = (m, (dg m).length) := by rw [hd0]; exact e1
        rw [hmx]
        by_cases hnb : 1000 ≤ n
        · obtain ⟨x, d, q, h1, h2, h3⟩ := num3_big hnb (by omega) [92, 125]
          have hd3 : l.drop (k + (dg m).length + 1 + 3) = dig d :: q := by rw [← List.drop_drop, d2]; exact h2
          obtain ⟨a1, a2⟩ := ahd_dig h3 hd3
          have E2 : num3 (l.drop (k + (dg m).length + 1)) 0 0 = (x, 3) := by rw [d2]; exact h1
          rw [itvB_two E1 (by omega) (by unfold ahd; rw [d1]; rfl) E2 (by decide), if_pos (.inl a2), if_pos (.inr (.inl (by omega)))]
        · have hl2 := dg_len (n := n) (by omega)
          have d3 := drop_add d2
          have E2 : num3 (l.drop (k + (dg m).length + 1)) 0 0 = (n, (dg n).length) := by rw [d2]; exact num3_dg (by omega) (noDig_92 [125])
          rw [itvB_two E1 (by omega) (by unfold ahd; rw [d1]; rfl) E2 (by omega)]
          have ha : ahd l (k + (dg m).length + 1 + (dg n).length) [92, 125] = true := by unfold ahd; rw [d3]; rfl
          rw [ha]
          have hL : (bndT m n 2).length = (dg m).length + ((dg n).length + 3) := by unfold bndT; simp
          by_cases hx : 255 < m ∨ 255 < n ∨ n < m
          · rw [if_pos (.inr hx), if_pos (by omega)]
          · rw [if_neg (by simpa using hx), if_neg (by omega)]
            rw [hlen, hL]; congr 3; omega
      · have hd0 : l.drop k = dg m ++ [92, 125] := by rw [hd]; unfold bndT; rw [if_neg hw, if_neg hw2]; rfl
        have e1 := num3_dg (n := m) (by omega) (noDig_92 [125])
        have d1 := drop_add hd0
        have hmx : mxT m n how = m := by unfold mxT; rw [if_neg hw, if_neg hw2]
        have E1 : num3 (l.drop k) 0 0 = (m, (dg m).length) := by rw [hd0]; exact e1
        rw [itvB_one E1 (by omega) (by unfold ahd; rw [d1]; rfl), hmx]
        have ha : ahd l (k + (dg m).length) [92, 125] = true := by unfold ahd; rw [d1]; rfl
        rw [ha]
        have hL : (bndT m n how).length = (dg m).length + 2 := by unfold bndT; rw [if_neg hw, if_neg hw2]; simp
        by_cases h255 : 255 < m
        · rw [if_pos (.inr h255), if_pos (.inl h255)]
        · rw [if_neg (by simpa using h255), if_neg (by omega)]
          rw [hlen, hL]; rfl

theorem chLoop_end0 {l : List UInt8} {C : Option (RxS → Out Nd)} {inner : Bool} {n : Nat} {s : RxS} {ts : List Nd} (h : ahd l s.at_ [92, 124] = false) : chLoop prg l C inner (n + 1) s ts = .inr (chosen ts, s) := by
  rw [chLoop, if_neg (by rw [h]; decide)]; rfl
/-- The text a\{..\}. -/
def bndL (m n how : Nat) : List UInt8 := 97 :: 92 :: 123 :: bndT m n how
theorem bndL_len {m n how : Nat} (hm : m < 65536) (hn : n < 65536) : (bndL m n how).length ≤ 20 ∧ 4 ≤ (bndL m n how).length := by
  have h1 := dg_len (n := m) (by omega)
  have h2 := dg_len (n := n) (by omega)
  unfold bndL bndT
  simp only [List.length_cons, List.length_append, List.length_nil]
  split
  · simp; omega
  · split
    · simp; omega
    · simp; omega
theorem bnd_parse (m n how : Nat) (hm : m < 65536) (hn : n < 65536) : parseS prg (bndL m n how) =
    if 255 < m ∨ 255 < mxT m n how ∨ (0 ≤ mxT m n how ∧ mxT m n how < m) then .inl (7, 1) else .inr (.rep (.one (spn 97 97)) m (mxT m n how), ⟨(bndL m n how).length, 0, [], []⟩) := by
  obtain ⟨hL, hL4⟩ := bndL_len (how := how) hm hn
  obtain ⟨l, hl⟩ : ∃ l, bndL m n how = l := ⟨_, rfl⟩
  have hd0 : l = 97 :: 92 :: 123 :: bndT m n how := hl.symm
  have hd1 : l.drop 1 = 92 :: 123 :: bndT m n how := by rw [hd0]; rfl
  have hd3 : l.drop 3 = bndT m n how := by rw [hd0]; rfl
  rw [hl] at hL hL4 ⊢
  have hI := itvB_bnd (k := 3) (by omega) hd3 hm hn
  have ha : 0 < l.length := by omega
  have hg : l[0] = 97 := by simp [hd0]
  have hp : ∀ (x : UInt8) (r : List UInt8), x ≠ 97 → ahd l 0 (x :: r) = false := fun x r hx => by unfold ahd; rw [List.drop_zero, hd0]; simp [List.isPrefixOf, hx]
  have hq : ∀ (x : UInt8), x ≠ 123 → ahd l 1 [92, x] = false := fun x hx => by unfold ahd; rw [hd1]; simp [List.isPrefixOf, hx]
  have hend : ∀ (x : UInt8) (r : List UInt8), ahd l l.length (x :: r) = false := fun x r => by unfold ahd; rw [List.drop_eq_nil_of_le (by omega)]; rfl
  unfold parseS
  rw [if_neg (by omega), chS]
  unfold choiceS branchS
  rw [if_neg (by rw [hp 94 [] (by decide)]; decide)]
  obtain ⟨f, hf⟩ : ∃ f, l.length = f + 1 := ⟨l.length - 1, by omega⟩
  rw [brS_go ha (by rw [hp 92 _ (by decide), hp 92 _ (by decide)]; rfl) (by rw [hp 92 _ (by decide), hp 92 _ (by decide), hp 92 _ (by decide)]; rfl) (by rw [hp 36 _ (by decide)]; rfl)]
  have hat : atomS prg l (some (chS prg l 11)) ⟨0, 0, [], []⟩ (l[0]) = .inr (.one (spn 97 97), ⟨1, 0, [], []⟩) := by rw [hg]; rfl
  have hrn : rndS l (some (chS prg l 11)) ⟨0, 0, [], []⟩ (l[0]) = repS prg l (l.length + 1) ⟨1, 0, [], []⟩ (.one (spn 97 97)) := by unfold rndS; rw [hat]
  rw [hrn]
  have e1 : ahd l 1 [92, 43] = false := hq 43 (by decide)
  have e2 : ahd l 1 [92, 63] = false := hq 63 (by decide)
  have e3 : ahd l 1 [92, 123] = true := by unfold ahd; rw [hd1]; simp [List.isPrefixOf]
  by_cases hbad : 255 < m ∨ 255 < mxT m n how ∨ (0 ≤ mxT m n how ∧ mxT m n how < m)
  · rw [if_pos hbad] at hI
    rw [if_pos hbad, repS_bad (s := ⟨1, 0, [], []⟩) e1 e2 e3 hI]
  · rw [if_neg hbad] at hI
    rw [if_neg hbad, repS_bound (s := ⟨1, 0, [], []⟩) e1 e2 e3 hI, hf]
    rw [hf] at hend
    rw [repS_end (s := RxS.to ⟨1, 0, [], []⟩ (f + 1)) (hend _ _) (hend _ _) (hend _ _) (hend _ _)]
    simp only
    rw [brS_over (s := RxS.to ⟨1, 0, [], []⟩ (f + 1)) (by rw [hf]; exact Nat.le_refl _)]
    simp only
    rw [chLoop_end0 (s := RxS.to ⟨1, 0, [], []⟩ (f + 1)) (hend _ _)]
    rfl
end Go.Proofs.YtlchaocpejfikaaGreatDoor
