/-
  Merged texts of this claim: BreM, BreN, BreO, BreQ.
-/
import Derived.Test.YtepeomphikhbkaaDoorM16
import Derived.Test.YtepeomphikhbkaaDoorM18

/-
  Walk of package bre: branch.
-/
namespace Go.Proofs.YtepeomphikhbkaaDoor
open Go.RowKit

/-! ### Rows of nodes beside a reader -/
def PO (O : Nat → Prop) (v : Value) : Nat → Prop := fun k => O k ∨ v.ownBlock = some k
/-- The parts read so far: a row that was not there in W. -/
def Pts (S O : Nat → Prop) (W w : World) (ps : List Nd) (v : Value) : Prop := OwnNS (SO S O) w ps v v.ownBlock ∧ ∀ k, v.ownBlock = some k → ¬ S k ∧ W.heap.size ≤ k
/-- Only blocks turn that a reading does not know, and W neither. -/
def Off (S : Nat → Prop) (W w w' : World) : Prop := ∃ X, Fr X w w' ∧ ∀ k, X k → ¬ S k ∧ W.heap.size ≤ k

theorem Pts.nil (S O : Nat → Prop) (W w : World) : Pts S O W w [] (.slice none 0 0) := ⟨OwnNS.nil _ _, fun _ h => by cases h⟩
theorem Pts.shape {S O : Nat → Prop} {W w : World} {ps : List Nd} {v : Value} (h : Pts S O W w ps v) : ∃ a c, v = .slice a ps.length c := h.1.shape
theorem Pts.stp {S O S' : Nat → Prop} {W w w' : World} {ps : List Nd} {v : Value} (h : Pts S O W w ps v) (hs : Stp S w S' w') : Pts S' O W w' ps v := by
  obtain ⟨h, hb⟩ := h
  have hlt := h.lt
  obtain ⟨vs, h1, h2, h3⟩ := h
  refine ⟨⟨vs, ownsRow_fr h1 hs.fr (fun k hk => (hb k hk).1), h2.keep hs.fr (fun k _ x => .inl (.inl x)) (fun k hk x => ?_), h3⟩, fun k hk => ⟨fun x => (hb k hk).1 (hs.old k (hlt k hk) x), (hb k hk).2⟩⟩
  rcases x with (x | x) | x
  · exact .inl (.inl (hs.old k hk x))
  · exact .inl (.inr x)
  · exact .inr x
theorem Pts.on {S O : Nat → Prop} {W w w' : World} {ps : List Nd} {v : Value} (h : Pts S O W w ps v) (f : Fr nob w w') : Pts S O W w' ps v := h.stp (Stp.of f)
theorem Pts.lt {S O : Nat → Prop} {W w : World} {ps : List Nd} {v : Value} (h : Pts S O W w ps v) (hO : ∀ k, O k → k < w.heap.size) : ∀ k, PO O v k → k < w.heap.size := fun k hk => hk.elim (hO k) (h.1.lt k)
theorem Pts.sn {S O : Nat → Prop} {W w : World} {ps : List Nd} {v : Value} (h : Pts S O W w ps v) (hO : ∀ k, O k → k < W.heap.size) : SN (SO S O) w ps v :=
  h.1.sn fun k hk x => x.elim (h.2 k hk).1 (fun y => by have := hO k y; have := (h.2 k hk).2; omega)

theorem Stp.off {S0 S : Nat → Prop} {W w w' : World} (h : Stp S0 W S w) (f : Off S W w w') : Stp S0 W S w' := by
  obtain ⟨X, f, hX⟩ := f
  exact ⟨h.fr.trans f (fun i hi x => by have := (hX i x).2; omega), h.old, fun hl k hk => Nat.lt_of_lt_of_le (h.lt hl k hk) f.size⟩
theorem Off.size {S : Nat → Prop} {W w w' : World} (f : Off S W w w') : w.heap.size ≤ w'.heap.size := by obtain ⟨X, f, _⟩ := f; exact f.size

theorem wpList_append_pts {W w0 : World} {S O : Nat → Prop} {ops : Array Oper} {rest : List Oper} {o : Oper} {a : Act} {Q : Exit → Act → World → Prop} (hgd : o.guard = none) (s x : Operand)
    (ho : o.op = .call { callee := .builtin .append, args := #[s, x], argTypes := #[34, 34] })
    (ps : List Nd) (t : Nd) (v val : Value) (e : TypeId) (b : Nat) (hs : a.eval s = v) (hp : Pts S O W w0 ps v) (hlt : ∀ k, S k → k < w0.heap.size) (hO : ∀ k, O k → k < w0.heap.size) (hW : W.heap.size ≤ w0.heap.size) (hb : b = w0.heap.size)
    (hx : a.eval x = .slice (some ⟨b, 0, none⟩) 1 1) (hv : RN (SO S (PO O v)) w0 t val) (hl : ps.length ≤ 2000000)
    (h : ∀ v' w', Pts S O W w' (ps ++ [t]) v' → Off S W w0 w' → wpList Tryd.prog ops Q rest (a.put o.dst v') w') : wpList Tryd.prog ops Q (o :: rest) a (w0.alloc (.cells #[val] e)) := by
  have hv' : RN (LGS (SO S O) v.ownBlock) w0 t val := RN.keep (Fr.refl nob w0) (fun _ _ x => x.elim) (fun k _ x => by
    rcases x with (x | x) | x
    · exact .inl x
    · exact .inr (.inl x)
    · exact .inr (.inr x)) _ _ hv
  have hsn : SN (LGS (SO S O) v.ownBlock) (w0.alloc (.cells #[val] e)) [t] (.slice (some ⟨b, 0, none⟩) 1 1) := SN.one' hv' (fun k x => by
    rcases x with (x | x) | x
    · exact hlt k x
    · exact hO k x
    · exact hp.1.lt k x) e hb
  have hown := hp.1.on ((Fr.refl nob w0).alloc (.cells #[val] e))
  refine wpList_append_snS hgd s x ho ps [t] v _ v.ownBlock hs hown hx hsn (by simp; omega) fun v' w' g' q1 q2 q3 => ?_
  have hg' : v'.ownBlock = g' := q1.blk
  subst hg'
  have hal : w0.heap.size ≤ (w0.alloc (.cells #[val] e)).heap.size := ((Fr.refl nob w0).alloc _).size
  refine h v' w' ⟨q1, fun k hk => ?_⟩ ⟨LG v.ownBlock, ((Fr.refl (LG v.ownBlock) w0).alloc _).trans' q2, fun k hk => hp.2 k hk⟩
  rcases q3 k hk with hk | hk
  · exact hp.2 k hk
  · refine ⟨fun x => by have := hlt k x; omega, ?_⟩
    exact Nat.le_trans (Nat.le_trans hW hal) hk

/-! ### What a branch's parts are -/
def Nd.unit : Nd → Bool
  | .one _ | .rep .. | .group .. | .back _ | .start | .fin => true
  | _ => false
def units (ps : List Nd) : Prop := ∀ t ∈ ps, t.unit = true
theorem units.snoc {ps : List Nd} {t : Nd} (h : units ps) (ht : t.unit = true) : units (ps ++ [t]) := fun x hx => by
  rcases List.mem_append.1 hx with hx | hx
  · exact h x hx
  · rw [List.mem_singleton.1 hx]; exact ht
theorem unit_part {t : Nd} (h : t.unit = true) : t.part = [t] := by cases t <;> first | rfl | cases h
theorem units_parts {ps : List Nd} (h : units ps) : parts ps = ps := by
  induction ps with
  | nil => rfl
  | cons t ts ih =>
    show t.part ++ parts ts = _
    rw [unit_part (h t (by simp)), ih (fun x hx => h x (by simp [hx]))]; rfl
/-- What a branch is. -/
def Nd.brn : Nd → Prop
  | .empty => True
  | .cat l => 1 < l.length ∧ units l
  | t => t.unit = true
theorem joined_brn {ps : List Nd} (h : units ps) : (joined ps).brn := by
  unfold joined
  rw [units_parts h]
  match ps, h with
  | [], _ => trivial
  | [x], h =>
    have := h x (by simp)
    show x.brn
    cases x <;> first | exact this | cases this
  | x :: y :: r, h => exact ⟨by simp, h⟩
theorem brn_arm {t : Nd} (h : t.brn) : t.arm = [t] := by cases t <;> first | rfl | cases h
def brns (ts : List Nd) : Prop := ∀ t ∈ ts, t.brn
theorem brns.snoc {ts : List Nd} {t : Nd} (h : brns ts) (ht : t.brn) : brns (ts ++ [t]) := fun x hx => by
  rcases List.mem_append.1 hx with hx | hx
  · exact h x hx
  · rw [List.mem_singleton.1 hx]; exact ht
theorem brns_arms {ts : List Nd} (h : brns ts) : arms ts = ts := by
  induction ts with
  | nil => rfl
  | cons t r ih =>
    show t.arm ++ arms r = _
    rw [brn_arm (h t (by simp)), ih (fun x hx => h x (by simp [hx]))]; rfl
theorem chosen_brns {ts : List Nd} (h : brns ts) : chosen ts = onlyOf ts (.alt ts) := by unfold chosen; rw [brns_arms h]
theorem chosen_nil {ts : List Nd} (h : brns ts) : chosen ts ≠ .nil := by
  rw [chosen_brns h]
  match ts, h with
  | [], _ => intro e; cases e
  | [x], h => intro e; have := h x (by simp); rw [show x = Nd.nil from e] at this; cases this
  | x :: y :: r, _ => intro e; cases e

theorem repS_unit {l : List UInt8} : ∀ (n : Nat) (s : RxS) (t t' : Nd) (s' : RxS), t.unit = true → repS prg l n s t = .inr (t', s') → t'.unit = true
  | 0, s, t, t', s', ht, h => by rw [repS] at h; injection h with h; injection h with h1 h2; subst h1; exact ht
  | n + 1, s, t, t', s', ht, h => by
    rw [repS] at h
    split at h
    · exact repS_unit n _ _ _ _ (by rfl) h
    · split at h
      · exact repS_unit n _ _ _ _ (by rfl) h
      · split at h
        · split at h
          · cases h
          · exact repS_unit n _ _ _ _ (by rfl) h
        · split at h
          · exact repS_unit n _ _ _ _ (by rfl) h
          · injection h with h; injection h with h1 h2; subst h1; exact ht
theorem groupS_unit {l : List UInt8} {C : Option (RxS → Out Nd)} {p : Nat} {s s' : RxS} {t : Nd} (h : groupS prg l C p s = .inr (t, s')) : t.unit = true := by
  unfold groupS at h
  split at h
  · cases h
  · split at h
    · cases h
    · split at h
      · injection h with h; injection h with h1 h2; subst h1; rfl
      · cases h
theorem atomS_unit {l : List UInt8} {C : Option (RxS → Out Nd)} {s s' : RxS} {t : Nd} {b : UInt8} (h : atomS prg l C s b = .inr (t, s')) : t.unit = true := by
  unfold atomS at h
  split at h
  · unfold escS at h
    split at h
    · cases h
    · split at h
      · exact groupS_unit h
      · split at h
        · cases h
        · split at h
          · split at h
            · injection h with h; injection h with h1 h2; subst h1; rfl
            · cases h
          · split at h
            · cases h
            · injection h with h; injection h with h1 h2; subst h1; rfl
  · split at h
    · split at h
      · cases h
      · injection h with h; injection h with h1 h2; subst h1; rfl
    · split at h
      · injection h with h; injection h with h1 h2; subst h1; rfl
      · injection h with h; injection h with h1 h2; subst h1; rfl
theorem rndS_unit {l : List UInt8} {C : Option (RxS → Out Nd)} {s s' : RxS} {t : Nd} {b : UInt8} (h : rndS l C s b = .inr (t, s')) : t.unit = true := by
  unfold rndS at h
  split at h
  · cases h
  · next hp => exact repS_unit _ _ _ _ _ (atomS_unit hp) h
theorem brS_brn {l : List UInt8} {C : Option (RxS → Out Nd)} {inner : Bool} : ∀ (n : Nat) (front : Bool) (s : RxS) (ps : List Nd) (t : Nd) (s' : RxS), units ps → brS prg l C inner n front s ps = .inr (t, s') → t.brn
  | 0, front, s, ps, t, s', hu, h => by rw [brS] at h; injection h with h; injection h with h1 h2; subst h1; exact joined_brn hu
  | n + 1, front, s, ps, t, s', hu, h => by
    by_cases hl : s.at_ < l.length
    · cases h1 : (ahd l s.at_ [92, 124] || (inner && ahd l s.at_ [92, 41])) with
      | true => rw [brS_stop hl h1] at h; injection h with h; injection h with h1 h2; subst h1; exact joined_brn hu
      | false =>
        cases h2 : (front && (ahd l s.at_ [92, 123] || (ahd l s.at_ [92, 43] || ahd l s.at_ [92, 63]))) with
        | true => rw [brS_bad hl h1 h2] at h; cases h
        | false =>
          cases h3 : (ahd l s.at_ [36] && lastS l s.at_) with
          | true => rw [brS_fin hl h1 h2 h3] at h; exact brS_brn n _ _ _ _ _ (hu.snoc (by rfl)) h
          | false =>
            rw [brS_go hl h1 h2 h3] at h
            cases hr : rndS l C s l[s.at_] with
            | inl e => rw [hr] at h; cases h
            | inr z =>
              obtain ⟨t1, s1⟩ := z
              rw [hr] at h
              exact brS_brn n _ _ _ _ _ (hu.snoc (rndS_unit hr)) h
    · rw [brS_over (by omega)] at h; injection h with h; injection h with h1 h2; subst h1; exact joined_brn hu
theorem branchS_brn {l : List UInt8} {C : Option (RxS → Out Nd)} {inner : Bool} {s s' : RxS} {t : Nd} (h : branchS prg l C inner s = .inr (t, s')) : t.brn := by
  unfold branchS at h
  split at h
  · exact brS_brn _ _ _ _ _ _ (fun x hx => by rw [List.mem_singleton.1 hx]; rfl) h
  · exact brS_brn _ _ _ _ _ _ (fun x hx => by cases hx) h
theorem brn_nil {t : Nd} (h : t.brn) : t ≠ .nil := by rintro rfl; cases h
theorem RN.kind' {S : Nat → Prop} {w : World} {t : Nd} {v : Value} (h : RN S w t v) : t = .nil ∨ ∃ i x, v = .iface i x := by
  cases t with
  | nil => exact .inl rfl
  | _ => exact .inr (by rcases h.shape with e | e <;> first | exact e | (subst e; rw [RN] at h; first | (obtain ⟨_, h, _⟩ := h; cases h; done) | (cases h; done)))
theorem RN.some {S : Nat → Prop} {w : World} {t : Nd} {v : Value} (h : RN S w t v) (ht : t ≠ .nil) : ∃ i x, v = .iface i x := by
  rcases h.kind' with h | h
  · exact absurd h ht
  · exact h
end Go.Proofs.YtepeomphikhbkaaDoor

/-
  Walk of package bre: branch. Printed by tools/bren.py.
-/
namespace Go.Proofs.YtepeomphikhbkaaDoor
open Go.RowKit

end Go.Proofs.YtepeomphikhbkaaDoor

/-
  Walk of package bre: choice; at every depth.
-/
namespace Go.Proofs.YtepeomphikhbkaaDoor
open Go.RowKit

theorem ownsRow_one {w : World} {b : Nat} {v : Value} {e : TypeId} (h : w.heap[b]? = some (.cells #[v] e (0, 0))) : w.ownsRow 0 e 1 (.slice (some ⟨b, 0, none⟩) 1 1) 1 [v] := by
  refine ⟨by simp, .inr ⟨b, 1, #[v], rfl, Nat.zero_le _, h, by simp, by simp [maxLen], by simp, by simp⟩⟩
theorem Pts.one {S O : Nat → Prop} {W w0 : World} {t : Nd} {val : Value} {b : Nat} (hv : RN (SO S O) w0 t val) (hlt : ∀ k, S k → k < w0.heap.size) (hO : ∀ k, O k → k < w0.heap.size) (hW : W.heap.size ≤ w0.heap.size) (hb : b = w0.heap.size) :
    Pts S O W (w0.alloc (.cells #[val] 24)) [t] (.slice (some ⟨b, 0, none⟩) 1 1) := by
  subst hb
  refine ⟨⟨[val], ownsRow_one (newAt0 w0 _), ⟨val, [], rfl, ?_, rfl⟩, rfl⟩, fun k hk => ?_⟩
  · refine RN.keep ((Fr.refl nob w0).alloc _) (fun _ _ x => x.elim) (fun k hk x => ?_) _ _ hv
    rcases x with x | x
    · exact x
    · have x : some w0.heap.size = some k := x
      injection x with x; omega
  · have hk : some w0.heap.size = some k := hk
    injection hk with hk
    exact ⟨fun x => by have := hlt k x; omega, by omega⟩

section
variable {l : List UInt8} {C : Option (RxS → Out Nd)} {inner : Bool} {n : Nat} {s : RxS} {ts : List Nd}
theorem chLoop_end (h : ahd l s.at_ [92, 124] = false) : chLoop prg l C inner (n + 1) s ts = .inr (chosen ts, s) := by
  rw [chLoop, if_neg (by rw [h]; decide)]; rfl
theorem chLoop_bad (h : ahd l s.at_ [92, 124] = true) {e : Int × Nat} (hb : branchS prg l C inner ((s.mark [92, 124]).go 2) = .inl e) : chLoop prg l C inner (n + 1) s ts = .inl e := by
  rw [chLoop, if_pos h, hb]
theorem chLoop_go (h : ahd l s.at_ [92, 124] = true) {t : Nd} {s' : RxS} (hb : branchS prg l C inner ((s.mark [92, 124]).go 2) = .inr (t, s')) : chLoop prg l C inner (n + 1) s ts = chLoop prg l C inner n s' (ts ++ [t]) := by
  rw [chLoop, if_pos h, hb]
end

end Go.Proofs.YtepeomphikhbkaaDoor

/-
  A basic regex in plain words: bytes told one behind the other. No walk.
-/
namespace Go.Proofs.YtepeomphikhbkaaDoor
open Go.RowKit

/-- How a byte is told. -/
def Tel (b : UInt8) (u : List UInt8) : Prop :=
  (u = [b] ∧ b ≠ 92 ∧ b ≠ 91 ∧ b ≠ 46 ∧ b ≠ 36 ∧ b ≠ 42 ∧ b ≠ 94) ∨ ∃ x, u = [92, x] ∧ x ≠ 40 ∧ x ≠ 41 ∧ x ≠ 123 ∧ x ≠ 124 ∧ x ≠ 43 ∧ x ≠ 63 ∧ ¬ (49 ≤ x.toNat ∧ x.toNat ≤ 57) ∧ escB x = some (spn b.toNat b.toNat, false)
def telT : List (UInt8 × List UInt8) → List UInt8
  | [] => []
  | x :: r => x.2 ++ telT r
def telN (ts : List (UInt8 × List UInt8)) : List Nd := ts.map fun x => .one (spn x.1.toNat x.1.toNat)

theorem Tel.pre {b : UInt8} {u : List UInt8} (h : Tel b u) (r : List UInt8) : ([92, 43] : List UInt8).isPrefixOf (u ++ r) = false ∧ ([92, 63] : List UInt8).isPrefixOf (u ++ r) = false ∧ ([92, 123] : List UInt8).isPrefixOf (u ++ r) = false ∧
    ([92, 124] : List UInt8).isPrefixOf (u ++ r) = false ∧ ([92, 41] : List UInt8).isPrefixOf (u ++ r) = false ∧ ([92, 40] : List UInt8).isPrefixOf (u ++ r) = false ∧ ([42] : List UInt8).isPrefixOf (u ++ r) = false ∧ ([36] : List UInt8).isPrefixOf (u ++ r) = false ∧ ([94] : List UInt8).isPrefixOf (u ++ r) = false := by
  rcases h with ⟨rfl, h1, h2, h3, h4, h5, h6⟩ | ⟨x, rfl, h1, h2, h3, h4, h5, h6, _⟩
  · simp [List.isPrefixOf, Ne.symm h1, Ne.symm h4, Ne.symm h5, Ne.symm h6]
  · simp [List.isPrefixOf, Ne.symm h1, Ne.symm h2, Ne.symm h3, Ne.symm h4, Ne.symm h5, Ne.symm h6]
theorem telT_pre {ts : List (UInt8 × List UInt8)} (h : ∀ x ∈ ts, Tel x.1 x.2) : ([92, 43] : List UInt8).isPrefixOf (telT ts) = false ∧ ([92, 63] : List UInt8).isPrefixOf (telT ts) = false ∧ ([92, 123] : List UInt8).isPrefixOf (telT ts) = false ∧
    ([92, 124] : List UInt8).isPrefixOf (telT ts) = false ∧ ([92, 41] : List UInt8).isPrefixOf (telT ts) = false ∧ ([92, 40] : List UInt8).isPrefixOf (telT ts) = false ∧ ([42] : List UInt8).isPrefixOf (telT ts) = false ∧ ([36] : List UInt8).isPrefixOf (telT ts) = false ∧ ([94] : List UInt8).isPrefixOf (telT ts) = false := by
  cases ts with
  | nil => simp [telT, List.isPrefixOf]
  | cons x r => exact (h x (by simp)).pre (telT r)

theorem get_of_drop {l : List UInt8} {k : Nat} {a : UInt8} {r : List UInt8} (h : l.drop k = a :: r) : ∃ hk : k < l.length, l[k] = a ∧ l.drop (k + 1) = r := by
  have hk : k < l.length := by
    by_cases hk : k < l.length
    · exact hk
    · rw [List.drop_eq_nil_of_le (by omega)] at h; cases h
  rw [List.drop_eq_getElem_cons hk] at h
  injection h with h1 h2
  exact ⟨hk, h1, h2⟩

theorem tel_atom {l : List UInt8} {C : Option (RxS → Out Nd)} {s : RxS} {b : UInt8} {u r : List UInt8} (h : Tel b u) (hd : l.drop s.at_ = u ++ r) : ∃ hk : s.at_ < l.length, atomS prg l C s l[s.at_] = .inr (.one (spn b.toNat b.toNat), s.go u.length) := by
  have hp := h.pre r
  rcases h with ⟨rfl, h1, h2, h3, h4, h5, h6⟩ | ⟨x, rfl, h1, h2, h3, h4, h5, h6, h7, h8⟩
  · obtain ⟨hk, hb, _⟩ := get_of_drop hd
    refine ⟨hk, ?_⟩
    unfold atomS
    rw [hb, if_neg h1, if_neg h2, if_neg h3]
    rfl
  · obtain ⟨hk, hb, hd2⟩ := get_of_drop (r := x :: r) hd
    obtain ⟨hk2, hx, _⟩ := get_of_drop hd2
    refine ⟨hk, ?_⟩
    unfold atomS
    rw [if_pos hb]
    unfold escS
    rw [List.getElem?_eq_getElem hk2, hx]
    simp only
    unfold ahd
    rw [hd, if_neg (by rw [hp.2.2.2.2.2.1]; decide), if_neg (by rw [hp.2.2.2.2.1]; decide), if_neg h7, h8]
    rfl

theorem RxS.go_go (s : RxS) (a b : Nat) : (s.go a).go b = s.go (a + b) := by simp [RxS.go, Nat.add_assoc]

theorem brS_tells {l : List UInt8} {C : Option (RxS → Out Nd)} {inner : Bool} : ∀ (ts : List (UInt8 × List UInt8)) (n : Nat) (front : Bool) (s : RxS) (ps : List Nd), (∀ x ∈ ts, Tel x.1 x.2) → s.at_ ≤ l.length → l.drop s.at_ = telT ts → l.length < n + s.at_ →
    brS prg l C inner n front s ps = .inr (joined (ps ++ telN ts), s.to l.length)
  | [], n, front, s, ps, ht, ha, hd, hn => by
    have hle : l.length ≤ s.at_ := by have := congrArg List.length hd; simp [telT] at this; omega
    obtain ⟨m, rfl⟩ : ∃ m, n = m + 1 := ⟨n - 1, by omega⟩
    rw [brS_over hle]
    have : s.to l.length = s := by unfold RxS.to; cases s; simp at *; omega
    rw [this]; simp [telN]
  | (b, u) :: ts, n, front, s, ps, ht, ha, hd, hn => by
    obtain ⟨m, rfl⟩ : ∃ m, n = m + 1 := ⟨n - 1, by omega⟩
    have hp := telT_pre ht
    have hT := ht (b, u) (by simp)
    have ht' : ∀ x ∈ ts, Tel x.1 x.2 := fun x hx => ht x (by simp [hx])
    have hp' := telT_pre ht'
    obtain ⟨hk, hat⟩ := tel_atom (C := C) (s := s) hT (r := telT ts) hd
    have hd' : l.drop (s.go u.length).at_ = telT ts := by
      show l.drop (s.at_ + u.length) = _
      rw [← List.drop_drop, hd, telT, List.drop_left']; rfl
    have hu : 1 ≤ u.length := by rcases hT with ⟨e, _⟩ | ⟨x, e, _⟩ <;> (simp only at e; subst e; simp)
    have hle : s.at_ + u.length ≤ l.length := by
      have := congrArg List.length hd; simp [telT] at this; omega
    have hrnd : rndS l C s l[s.at_] = .inr (.one (spn b.toNat b.toNat), s.go u.length) := by
      unfold rndS
      rw [hat]
      simp only
      refine repS_end ?_ ?_ ?_ ?_
      · unfold ahd; rw [hd']; exact hp'.1
      · unfold ahd; rw [hd']; exact hp'.2.1
      · unfold ahd; rw [hd']; exact hp'.2.2.1
      · unfold ahd; rw [hd']; exact hp'.2.2.2.2.2.2.1
    rw [brS_go hk ?_ ?_ ?_, hrnd]
    · simp only
      rw [brS_tells ts m false (s.go u.length) _ ht' hle hd' (by show _ < m + (s.at_ + u.length); omega)]
      simp [telN, RxS.go, RxS.to]
    · unfold ahd; rw [hd, hp.2.2.2.1, hp.2.2.2.2.1]; simp
    · unfold ahd; rw [hd, hp.2.2.1, hp.1, hp.2.1]; simp
    · unfold ahd; rw [hd, hp.2.2.2.2.2.2.2.1]; rfl

theorem telN_parts (ts : List (UInt8 × List UInt8)) : parts (telN ts) = telN ts := by
  induction ts with
  | nil => rfl
  | cons x r ih => show Nd.part _ ++ parts (telN r) = _; rw [ih]; rfl
theorem chosen_joined_tel {ts : List (UInt8 × List UInt8)} (h : ts ≠ []) : chosen [joined (telN ts)] = joined (telN ts) := by
  unfold joined
  rw [telN_parts]
  match ts, h with
  | [x], _ => rfl
  | x :: y :: r, _ => rfl

theorem parse_tells (ts : List (UInt8 × List UInt8)) (h : ∀ x ∈ ts, Tel x.1 x.2) (hne : ts ≠ []) (hl : (telT ts).length ≤ 250) : parseS prg (telT ts) = .inr (joined (telN ts), ⟨(telT ts).length, 0, [], []⟩) := by
  have hp := telT_pre h
  unfold parseS
  rw [if_neg (by omega), chS]
  unfold choiceS branchS
  rw [if_neg (by unfold ahd; simp only [List.drop_zero]; rw [hp.2.2.2.2.2.2.2.2]; decide)]
  rw [brS_tells ts _ _ _ _ h (by simp) (by simp) (by simp)]
  simp only
  rw [chLoop, if_neg (by
    unfold ahd
    rw [List.drop_eq_nil_of_le (by simp [RxS.to])]
    decide)]
  rw [List.nil_append]
  show Sum.inr (chosen [joined (telN ts)], _) = _
  rw [chosen_joined_tel hne]
  rfl

theorem punct_has : punctS.has 92 = true ∧ punctS.has 91 = true ∧ punctS.has 46 = true ∧ punctS.has 36 = true ∧ punctS.has 42 = true ∧ punctS.has 94 = true := by decide +kernel
theorem punct_letters : punctS.has 110 = false ∧ punctS.has 116 = false ∧ punctS.has 119 = false ∧ punctS.has 87 = false ∧ punctS.has 115 = false ∧ punctS.has 83 = false ∧ punctS.has 10 = false := by decide +kernel
theorem punct_digits : ∀ n, n < 58 → 49 ≤ n → punctS.has n = false := by decide +kernel

theorem tel_plain {b : UInt8} (h : punctS.has b.toNat = false) : Tel b [b] := by
  obtain ⟨h1, h2, h3, h4, h5, h6⟩ := punct_has
  refine .inl ⟨rfl, ?_, ?_, ?_, ?_, ?_, ?_⟩ <;> (rintro rfl; first | (rw [show (92 : UInt8).toNat = 92 from rfl, h1] at h; cases h) | (rw [show (91 : UInt8).toNat = 91 from rfl, h2] at h; cases h) | (rw [show (46 : UInt8).toNat = 46 from rfl, h3] at h; cases h) | (rw [show (36 : UInt8).toNat = 36 from rfl, h4] at h; cases h) | (rw [show (42 : UInt8).toNat = 42 from rfl, h5] at h; cases h) | (rw [show (94 : UInt8).toNat = 94 from rfl, h6] at h; cases h))

/-- How Quoted tells a byte in a basic regex. -/
def quoB (b : UInt8) : List UInt8 :=
  if b = 10 then [92, 110]
  else if b = 40 ∨ b = 41 ∨ b = 123 ∨ b = 124 ∨ b = 43 ∨ b = 63 then [b]
  else if punctS.has b.toNat then [92, b] else [b]
theorem escB_punct {b : UInt8} (h : punctS.has b.toNat = true) : escB b = some (spn b.toNat b.toNat, false) := by
  obtain ⟨h1, h2, h3, h4, h5, h6, _⟩ := punct_letters
  unfold escB
  have e (x : UInt8) (n : Nat) (hx : x.toNat = n) (hn : punctS.has n = false) : b ≠ x := by rintro rfl; rw [hx, hn] at h; cases h
  rw [if_neg (e 110 110 rfl h1), if_neg (e 116 116 rfl h2), if_neg (e 119 119 rfl h3), if_neg (e 87 87 rfl h4), if_neg (e 115 115 rfl h5), if_neg (e 83 83 rfl h6), if_pos h]
theorem tel_quoB (b : UInt8) : Tel b (quoB b) := by
  unfold quoB
  split
  · next h => subst h; exact .inr ⟨110, rfl, by decide, by decide, by decide, by decide, by decide, by decide, by decide, rfl⟩
  · split
    · next h =>
      refine .inl ⟨rfl, ?_⟩
      rcases h with rfl | rfl | rfl | rfl | rfl | rfl <;> decide
    · next h =>
      simp only [not_or] at h
      split
      · next hp =>
        refine .inr ⟨b, rfl, h.1, h.2.1, h.2.2.1, h.2.2.2.1, h.2.2.2.2.1, h.2.2.2.2.2, ?_, escB_punct hp⟩
        rintro ⟨k1, k2⟩
        rw [punct_digits b.toNat (by omega) k1] at hp; cases hp
      · next hp => exact tel_plain (by simpa using hp)
end Go.Proofs.YtepeomphikhbkaaDoor
