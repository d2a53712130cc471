/-
  Merged texts of this claim: BreY, RdQ.
-/
import Derived.Test.YtepeomphikhbkaaGreatDoorM17
import Derived.Test.YtepeomphikhbkaaGreatDoorM24
import Derived.Test.YtepeomphikhbkaaGreatDoorM32
import Derived.Test.YtepeomphikhbkaaGreatDoorM35

/-
  Chapter 4: groups of greater numbers, in the document's trees; what two regexes with a bar between are. No walk.
-/
namespace Go.Proofs.YtepeomphikhbkaaGreatDoor
open Go.RowKit

mutual
def T.turn (o : Int) : T → T
  | .mk k s ps mn mx nu => .mk k s (T.turns o ps) mn mx (if k = 5 then nu + o else nu)
def T.turns (o : Int) : List T → List T
  | [] => []
  | t :: ts => t.turn o :: T.turns o ts
end
theorem T.turns_eq (o : Int) (l : List T) : T.turns o l = l.map (T.turn o) := by
  induction l with
  | nil => rfl
  | cons t ts ih => simp only [T.turns, List.map_cons, ih]
theorem T.turns_length (o : Int) (l : List T) : (T.turns o l).length = l.length := by simp only [T.turns_eq, List.length_map]
theorem T.turns_take {o : Int} {l : List T} {k : Nat} (h : k < l.length) : T.turns o (l.take (k + 1)) = T.turns o (l.take k) ++ [l[k].turn o] := by
  simp only [T.turns_eq]; rw [List.take_succ_eq_append_getElem h, List.map_append]; rfl
mutual
theorem T.turn_bulk (o : Int) : ∀ t : T, (t.turn o).bulk = t.bulk
  | .mk k s ps mn mx nu => by simp only [T.turn, T.bulk, T.turns_bulk o ps]
theorem T.turns_bulk (o : Int) : ∀ l : List T, T.bulks (T.turns o l) = T.bulks l
  | [] => rfl
  | t :: ts => by simp only [T.turns, T.bulks, T.turn_bulk o t, T.turns_bulk o ts]
end
mutual
theorem T.turn_known (o : Int) : ∀ t : T, (t.turn o).known = t.known
  | .mk k s ps mn mx nu => by simp only [T.turn, T.known, T.turns_known o ps]
theorem T.turns_known (o : Int) : ∀ l : List T, T.knowns (T.turns o l) = T.knowns l
  | [] => rfl
  | t :: ts => by simp only [T.turns, T.knowns, T.turn_known o t, T.turns_known o ts]
end
mutual
theorem T.turn_nd (o : Int) : ∀ t : T, (t.turn o).nd = t.nd.turn o
  | .mk k s ps mn mx nu => by
    have h1 := T.turns_nd o ps
    have h2 := T.turns_nd1 o ps
    simp only [T.turn, T.nd]
    by_cases k1 : k = 1
    · simp [k1, Nd.turn]
    by_cases k2 : k = 2
    · simp [k2, Nd.turn, h1]
    by_cases k3 : k = 3
    · simp [k3, Nd.turn, h1]
    by_cases k4 : k = 4
    · simp [k4, Nd.turn, h2]
    by_cases k5 : k = 5
    · simp [k5, Nd.turn, h2]
    by_cases k6 : k = 6
    · simp [k6, Nd.turn]
    by_cases k7 : k = 7
    · simp [k7, Nd.turn]
    by_cases k8 : k = 8
    · simp [k8, Nd.turn]
    simp [k1, k2, k3, k4, k5, k6, k7, k8, Nd.turn]
theorem T.turns_nd (o : Int) : ∀ l : List T, T.nds (T.turns o l) = Nd.turns o (T.nds l)
  | [] => rfl
  | t :: ts => by simp only [T.turns, T.nds, Nd.turns, T.turn_nd o t, T.turns_nd o ts]
theorem T.turns_nd1 (o : Int) : ∀ l : List T, T.nd1 (T.turns o l) = (T.nd1 l).turn o
  | [] => rfl
  | t :: ts => by simp only [T.turns, T.nd1, T.turn_nd o t]
end
mutual
theorem Nd.turn_norm (o : Int) : ∀ t : Nd, (t.turn o).norm = t.norm.turn o
  | .cat l => by simp only [Nd.turn, Nd.norm, Nd.turns_norm o l]
  | .alt l => by simp only [Nd.turn, Nd.norm, Nd.turns_norm o l]
  | .rep x a b => by simp only [Nd.turn, Nd.norm, Nd.turn_norm o x]
  | .group n x => by simp only [Nd.turn, Nd.norm, Nd.turn_norm o x]
  | .nil | .empty | .one _ | .back _ | .start | .fin => rfl
theorem Nd.turns_norm (o : Int) : ∀ l : List Nd, Nd.norms (Nd.turns o l) = Nd.turns o (Nd.norms l)
  | [] => rfl
  | t :: ts => by simp only [Nd.turns, Nd.norms, Nd.turn_norm o t, Nd.turns_norm o ts]
end
mutual
theorem Nd.turn_groups (o : Int) : ∀ t : Nd, (t.turn o).groups = t.groups
  | .cat l => by simp only [Nd.turn, Nd.groups, Nd.turns_groups o l]
  | .alt l => by simp only [Nd.turn, Nd.groups, Nd.turns_groups o l]
  | .rep x a b => by simp only [Nd.turn, Nd.groups, Nd.turn_groups o x]
  | .group n x => by simp only [Nd.turn, Nd.groups, Nd.turn_groups o x]
  | .nil | .empty | .one _ | .back _ | .start | .fin => rfl
theorem Nd.turns_groups (o : Int) : ∀ l : List Nd, Nd.groupss (Nd.turns o l) = Nd.groupss l
  | [] => rfl
  | t :: ts => by simp only [Nd.turns, Nd.groupss, Nd.turn_groups o t, Nd.turns_groups o ts]
end
mutual
theorem Nd.turn_size (o : Int) : ∀ t : Nd, (t.turn o).size = t.size
  | .cat l => by simp only [Nd.turn, Nd.size, Nd.turns_size o l]
  | .alt l => by simp only [Nd.turn, Nd.size, Nd.turns_size o l]
  | .rep x a b => by simp only [Nd.turn, Nd.size, Nd.turn_size o x]
  | .group n x => by simp only [Nd.turn, Nd.size, Nd.turn_size o x]
  | .nil | .empty | .one _ | .back _ | .start | .fin => rfl
theorem Nd.turns_size (o : Int) : ∀ l : List Nd, Nd.sizes (Nd.turns o l) = Nd.sizes l
  | [] => rfl
  | t :: ts => by simp only [Nd.turns, Nd.sizes, Nd.turn_size o t, Nd.turns_size o ts]
end

theorem norms_append (l m : List Nd) : Nd.norms (l ++ m) = Nd.norms l ++ Nd.norms m := by simp only [Nd.norms_eq, List.map_append]
theorem chosen_norm {ts : List Nd} (h : brns ts) : (chosen ts).norm = onlyOf (Nd.norms ts) (.alt (Nd.norms ts)) := by
  rw [chosen_brns h]
  match ts with
  | [] => rfl
  | [x] => rfl
  | x :: y :: r => rfl
theorem chosen_norm_arm {ts : List Nd} (h : brns ts) (hne : ts ≠ []) : (chosen ts).norm.arm = Nd.norms ts := by
  rw [chosen_norm h]
  match ts, hne with
  | [x], _ =>
    have hx := h x (by simp)
    show Nd.arm x.norm = [x.norm]
    cases x <;> first | rfl | cases hx
  | x :: y :: r, _ => rfl
/-- What two regexes with a bar between are, as the document has it. -/
theorem two_norm {ta tb : List Nd} {o : Int} (ha : brns ta) (hb : brns tb) (na : ta ≠ []) (nb : tb ≠ []) :
    (chosen (ta ++ Nd.turns o tb)).norm = (chooseT [(chosen ta).rf, (chosen tb).rf.turn o]).nd := by
  have hk : T.knowns [(chosen ta).rf, (chosen tb).rf.turn o] = true := by simp only [T.knowns, T.turn_known, Nd.rf_known, Bool.and_self]
  rw [← chosen_nd hk]
  simp only [T.nds, T.turn_nd, Nd.rf_nd]
  have hb2 := brns_turns (o := o) hb
  have nb2 : Nd.turns o tb ≠ [] := by rw [Nd.turns_eq]; simpa using nb
  rw [← Nd.turn_norm, ← chosen_turn hb, chosen_norm (fun x hx => (List.mem_append.1 hx).elim (ha x) (hb2 x)), norms_append]
  unfold chosen
  rw [two_arms]
  have h1 := chosen_norm_arm ha na
  have h2 := chosen_norm_arm hb2 nb2
  unfold chosen at h1 h2
  rw [h1, h2]

/-! ### Numbers of groups are small -/
mutual
def Nd.small : Nd → Prop
  | .cat l => Nd.smalls l
  | .alt l => Nd.smalls l
  | .rep x _ _ => x.small
  | .group n x => 0 ≤ n ∧ n ≤ 1000 ∧ x.small
  | .nil => True
  | .empty => True
  | .one _ => True
  | .back _ => True
  | .start => True
  | .fin => True
def Nd.smalls : List Nd → Prop
  | [] => True
  | t :: ts => t.small ∧ Nd.smalls ts
end
theorem smalls_snoc {l : List Nd} {t : Nd} (h : Nd.smalls l) (ht : t.small) : Nd.smalls (l ++ [t]) := by
  induction l with
  | nil => exact ⟨ht, trivial⟩
  | cons a r ih => exact ⟨h.1, ih h.2⟩
theorem only_small {l : List Nd} {n : Nd} (h : Nd.smalls l) (hn : n.small) : (onlyOf l n).small := by
  match l, h with
  | [], _ => trivial
  | [x], h => exact h.1
  | x :: y :: r, _ => exact hn
theorem joined_small {ps : List Nd} (hu : units ps) (h : Nd.smalls ps) : (joined ps).small := by rw [joined_units hu]; exact only_small h h
theorem chosen_small {ts : List Nd} (hu : brns ts) (h : Nd.smalls ts) : (chosen ts).small := by rw [chosen_brns hu]; exact only_small h h
theorem repS_small {l : List UInt8} : ∀ (n : Nat) (s : RxS) (t t' : Nd) (s' : RxS), t.small → repS prg l n s t = .inr (t', s') → t'.small
  | 0, s, t, t', s', ht, h => by rw [repS] at h; injection h with h; injection h with h1 h2; subst h1; exact ht
  | n + 1, s, t, t', s', ht, h => by
    rw [repS] at h
    split at h
    · exact repS_small n _ (.rep t 1 (-1)) _ _ ht h
    · split at h
      · exact repS_small n _ (.rep t 0 1) _ _ ht h
      · split at h
        · split at h
          · cases h
          · exact repS_small n _ (.rep t _ _) _ _ ht h
        · split at h
          · exact repS_small n _ (.rep t 0 (-1)) _ _ ht h
          · injection h with h; injection h with h1 h2; subst h1; exact ht
def SmallC (l : List UInt8) (C : Option (RxS → Out Nd)) : Prop := ∀ f, C = some f → ∀ s t s', Sane l s → f s = .inr (t, s') → t.small
section
variable {l : List UInt8} {C : Option (RxS → Out Nd)} (hl : l.length ≤ 900) (hK : ∀ f, C = some f → KeptZ l 2 f) (hC : SmallC l C)
include hl hK hC
theorem groupS_small {p : Nat} {s s' : RxS} {t : Nd} (hs : Sane l s) (ho : s.opened < s.at_) (h : groupS prg l C p s = .inr (t, s')) : t.small := by
  unfold groupS at h
  cases C with
  | none => cases h
  | some f =>
    simp only at h
    cases hf : f { s with opened := s.opened + 1 } with
    | inl e => rw [hf] at h; cases h
    | inr z =>
      obtain ⟨t1, s1⟩ := z
      rw [hf] at h
      simp only at h
      split at h
      · injection h with h; injection h with h1 h2; subst h1
        have hle := hs.le
        exact ⟨by omega, by omega, hC f rfl { s with opened := s.opened + 1 } _ _ ⟨hs.le, hs.mr, hs.cl, ho⟩ hf⟩
      · cases h
theorem rndS_small {s s' : RxS} {t : Nd} (hs : Sane l s) (ha : s.at_ < l.length) (h : rndS l C s l[s.at_] = .inr (t, s')) : t.small := by
  unfold rndS at h
  cases hp : atomS prg l C s l[s.at_] with
  | inl z => rw [hp] at h; cases h
  | inr y =>
    obtain ⟨t1, s1⟩ := y
    rw [hp] at h
    simp only at h
    refine repS_small _ _ _ _ _ ?_ h
    obtain ⟨x, hx⟩ : ∃ x, l[s.at_] = x := ⟨_, rfl⟩
    rw [hx] at hp
    unfold atomS at hp
    split at hp
    · unfold escS at hp
      cases hn : l[s.at_ + 1]? with
      | none => rw [hn] at hp; cases hp
      | some b =>
        have hlt := (List.getElem?_eq_some_iff.1 hn).1
        rw [hn] at hp
        simp only at hp
        have hop := hs.op
        split at hp
        · exact groupS_small hl hK hC (hs.go (n := 2) (by omega)) (by show s.opened < s.at_ + 2; omega) hp
        · split at hp
          · cases hp
          · split at hp
            · split at hp
              · injection hp with hp; injection hp with h1 h2; subst h1; trivial
              · cases hp
            · split at hp
              · cases hp
              · injection hp with hp; injection hp with h1 h2; subst h1; trivial
    · split at hp
      · split at hp
        · cases hp
        · injection hp with hp; injection hp with h1 h2; subst h1; trivial
      · split at hp
        · injection hp with hp; injection hp with h1 h2; subst h1; trivial
        · injection hp with hp; injection hp with h1 h2; subst h1; trivial
theorem brS_small {inner : Bool} : ∀ (n : Nat) (front : Bool) (s : RxS) (ps : List Nd) (t : Nd) (s' : RxS), Sane l s → units ps → Nd.smalls ps → brS prg l C inner n front s ps = .inr (t, s') → t.small
  | 0, front, s, ps, t, s', hs, hu, hd, h => by rw [brS] at h; injection h with h; injection h with h1 h2; subst h1; exact joined_small hu hd
  | n + 1, front, s, ps, t, s', hs, hu, hd, h => by
    by_cases ha : s.at_ < l.length
    · cases h1 : (ahd l s.at_ [92, 124] || (inner && ahd l s.at_ [92, 41])) with
      | true => rw [brS_stop ha h1] at h; injection h with h; injection h with h1 h2; subst h1; exact joined_small hu hd
      | false =>
        cases h2 : (front && (ahd l s.at_ [92, 123] || (ahd l s.at_ [92, 43] || ahd l s.at_ [92, 63]))) with
        | true => rw [brS_bad ha h1 h2] at h; cases h
        | false =>
          cases h3 : (ahd l s.at_ [36] && lastS l s.at_) with
          | true => rw [brS_fin ha h1 h2 h3] at h; exact brS_small n _ _ _ _ _ (hs.go (n := 1) (by omega)) (hu.snoc (by rfl)) (smalls_snoc (t := .fin) hd trivial) h
          | false =>
            rw [brS_go ha h1 h2 h3] at h
            cases hr : rndS l C s l[s.at_] with
            | inl e => rw [hr] at h; cases h
            | inr z =>
              obtain ⟨t1, s1⟩ := z
              rw [hr] at h
              exact brS_small n _ _ _ _ _ (rndS_kept hK hs ha hr).1 (hu.snoc (rndS_unit hr)) (smalls_snoc hd (rndS_small hl hK hC hs ha hr)) h
    · rw [brS_over (by omega)] at h; injection h with h; injection h with h1 h2; subst h1; exact joined_small hu hd
theorem branchS_small {inner : Bool} {s s' : RxS} {t : Nd} (hs : Sane l s) (h : branchS prg l C inner s = .inr (t, s')) : t.small := by
  unfold branchS at h
  split at h
  · next ha =>
    have hle := ahd_le ha (by decide)
    simp only [List.length_singleton] at hle
    exact brS_small hl hK hC _ _ _ _ _ _ (hs.go hle) (fun x hx => by rw [List.mem_singleton.1 hx]; rfl) (show Nd.smalls [.start] from ⟨trivial, trivial⟩) h
  · exact brS_small hl hK hC _ _ _ _ _ _ hs (fun x hx => by cases hx) (show Nd.smalls [] from trivial) h
theorem chLoop_small {inner : Bool} : ∀ (n : Nat) (s : RxS) (ts : List Nd) (t : Nd) (s' : RxS), Sane l s → brns ts → Nd.smalls ts → chLoop prg l C inner n s ts = .inr (t, s') → t.small
  | 0, s, ts, t, s', hs, hu, hd, h => by rw [chLoop] at h; injection h with h; injection h with h1 h2; subst h1; exact chosen_small hu hd
  | n + 1, s, ts, t, s', hs, hu, hd, h => by
    rw [chLoop] at h
    split at h
    · next ha =>
      have hle := ahd_le ha (by decide)
      simp only [List.length_cons, List.length_nil] at hle
      have hs2 := hs.markgo [92, 124] (n := 2) (by omega) hle
      cases hb : branchS prg l C inner ((s.mark [92, 124]).go 2) with
      | inl e => rw [hb] at h; cases h
      | inr z =>
        obtain ⟨t1, s1⟩ := z
        rw [hb] at h
        exact chLoop_small n _ _ _ _ (branchS_kept hK _ hs2 _ _ hb).1 (hu.snoc (branchS_brn hb)) (smalls_snoc hd (branchS_small hl hK hC hs2 hb)) h
    · injection h with h; injection h with h1 h2; subst h1; exact chosen_small hu hd
theorem choiceS_small {inner : Bool} {s s' : RxS} {t : Nd} (hs : Sane l s) (h : choiceS prg l C inner s = .inr (t, s')) : t.small := by
  unfold choiceS at h
  cases hb : branchS prg l C inner s with
  | inl e => rw [hb] at h; cases h
  | inr z =>
    obtain ⟨t1, s1⟩ := z
    rw [hb] at h
    exact chLoop_small hl hK hC _ _ _ _ _ (branchS_kept hK _ hs _ _ hb).1 (fun x hx => by rw [List.mem_singleton.1 hx]; exact branchS_brn hb) (show Nd.smalls [t1] from ⟨branchS_small hl hK hC hs hb, trivial⟩) h
end
theorem lev_small {l : List UInt8} (hl : l.length ≤ 900) : ∀ n, SmallC l (lev l n)
  | 0 => fun f h => by cases h
  | n + 1 => fun f h s t s' hs e => by
    injection h with h; subst h
    rw [chS_lev] at e
    exact choiceS_small hl (lev_kept l n) (lev_small hl n) hs e
theorem parse_small {l : List UInt8} {t : Nd} {s : RxS} (h : parseS prg l = .inr (t, s)) : t.small := by
  have hl : l.length ≤ 250 := by
    by_cases hl : l.length ≤ 250
    · exact hl
    · unfold parseS at h; rw [if_pos (by omega)] at h; cases h
  rw [parseS_in hl] at h
  exact choiceS_small (by omega) (lev_kept l 12) (lev_small (by omega) 12) (sane_init l) h
theorem parse_size {l : List UInt8} {t : Nd} {s : RxS} (h : parseS prg l = .inr (t, s)) : t.size ≤ 300 ∧ s.marks.length ≤ 250 ∧ l.length ≤ 250 := by
  have hl : l.length ≤ 250 := by
    by_cases hl : l.length ≤ 250
    · exact hl
    · unfold parseS at h; rw [if_pos (by omega)] at h; cases h
  rw [parseS_in hl] at h
  obtain ⟨k1, k2, k3⟩ := choiceS_kept (lev_kept l 12) _ (sane_init l) _ _ h
  have h1 := k1.le
  have h2 := k1.mr
  have h3 : t.size + 0 ≤ s.at_ + 2 := k3
  exact ⟨by omega, by omega, hl⟩

/-! So are the document's. -/
mutual
def T.small : T → Prop
  | .mk k _ ps _ _ nu => (k = 5 → 0 ≤ nu ∧ nu ≤ 1000) ∧ T.smalls ps
def T.smalls : List T → Prop
  | [] => True
  | t :: ts => t.small ∧ T.smalls ts
end
theorem T.smalls_mem {l : List T} (h : T.smalls l) : ∀ t ∈ l, t.small := by
  induction l with
  | nil => intro t ht; cases ht
  | cons a r ih => intro t ht; rcases List.mem_cons.1 ht with rfl | ht; exact h.1; exact ih h.2 t ht
mutual
theorem Nd.rf_small : ∀ n : Nd, n.small → n.rf.small
  | .nil, _ | .empty, _ | .one _, _ | .back _, _ | .start, _ | .fin, _ => by simp [Nd.rf, T.zero, T.small, T.smalls]
  | .cat l, h => by simp only [Nd.rf, T.small]; exact ⟨fun e => absurd e (by decide), Nd.rfs_small l h⟩
  | .alt l, h => by simp only [Nd.rf, T.small]; exact ⟨fun e => absurd e (by decide), Nd.rfs_small l h⟩
  | .rep x _ _, h => by simp only [Nd.rf, T.small]; exact ⟨fun e => absurd e (by decide), Nd.rf_small x h, trivial⟩
  | .group n x, h => by simp only [Nd.rf, T.small]; exact ⟨fun _ => ⟨h.1, h.2.1⟩, Nd.rf_small x h.2.2, trivial⟩
theorem Nd.rfs_small : ∀ l : List Nd, Nd.smalls l → T.smalls (Nd.rfs l)
  | [], _ => trivial
  | t :: ts, h => ⟨Nd.rf_small t h.1, Nd.rfs_small ts h.2⟩
end
end Go.Proofs.YtepeomphikhbkaaGreatDoor

/-
  How far a regex of either kind is read, and how great its tree is; the document's joined and chosen trees. No walk.
-/
namespace Go.Proofs.YtepeomphikhbkaaGreatDoor
open Go.RowKit

/-! ### The document's trees -/
theorem onlyT_two (l : List Nd) : onlyT 2 (Nd.rfs l) = (onlyOf l (.cat l)).rf := by
  match l with
  | [] => rfl
  | [x] => rfl
  | x :: y :: r => rfl
theorem onlyT_three (l : List Nd) : onlyT 3 (Nd.rfs l) = (onlyOf l (.alt l)).rf := by
  match l with
  | [] => rfl
  | [x] => rfl
  | x :: y :: r => rfl
theorem rfs_append (l m : List Nd) : Nd.rfs (l ++ m) = Nd.rfs l ++ Nd.rfs m := by simp only [Nd.rfs_eq, List.map_append]
theorem part_rf (n : Nd) : n.rf.partT = Nd.rfs n.part := by cases n <;> rfl
theorem arm_rf (n : Nd) : n.rf.armT = Nd.rfs n.arm := by cases n <;> rfl
theorem parts_rfs (l : List Nd) : partsT (Nd.rfs l) = Nd.rfs (parts l) := by
  induction l with
  | nil => rfl
  | cons t ts ih => rw [Nd.rfs, partsT, parts, part_rf, ih, rfs_append]
theorem arms_rfs (l : List Nd) : armsT (Nd.rfs l) = Nd.rfs (arms l) := by
  induction l with
  | nil => rfl
  | cons t ts ih => rw [Nd.rfs, armsT, arms, arm_rf, ih, rfs_append]
theorem join_rfs (l : List Nd) : joinT (Nd.rfs l) = (joined l).rf := by unfold joinT joined; rw [parts_rfs, onlyT_two]
theorem choose_rfs (l : List Nd) : chooseT (Nd.rfs l) = (chosen l).rf := by unfold chooseT chosen; rw [arms_rfs, onlyT_three]

/-! ### How far -/
theorem sgn_fit {l X : List UInt8} {k : Nat} (h : sgn l k = X) (hX : X ≠ []) : k + X.length ≤ l.length := by
  have hk : k < l.length := by
    by_cases hk : k < l.length
    · exact hk
    · exact absurd (h.symm.trans (sgn_out (by omega))) hX
  have := (sgn_len l k).2
  rw [h] at this
  omega
theorem opB_size (ere : Bool) (b : UInt8) : 1 ≤ (opB ere b).length ∧ (opB ere b).length ≤ 2 ∧ opB ere b ≠ [] ∧ (ere = false → (opB ere b).length = 2) := by cases ere <;> simp [opB]
theorem sgn_op {l : List UInt8} {k : Nat} {ere : Bool} {b : UInt8} (h : (sgn l k == opB ere b) = true) : k + (opB ere b).length ≤ l.length := sgn_fit (eq_of_beq h) (opB_size ere b).2.2.1
theorem num3_len : ∀ (r : List UInt8) (c n : Nat), (num3 r c n).2 ≤ c + r.length
  | [], c, n => Nat.le_refl _
  | b :: r, c, n => by
    rw [num3]
    split
    · have := num3_len r (c + 1) (n * 10 + (b.toNat - 48)); simp only [List.length_cons]; omega
    · exact Nat.le_add_right _ _
theorem ditv_in {l : List UInt8} {ere : Bool} {k : Nat} {m x : Int} {j : Nat} (h : ditv l ere k = some (m, x, j)) : k < j ∧ j ≤ l.length := by
  unfold ditv at h
  simp only at h
  split at h
  · cases h
  · next hc =>
    have h4 := (opB_size ere 125).1
    have key : ∀ (q : Nat), ahd l q (opB ere 125) ≠ false → q + (opB ere 125).length ≤ l.length := fun q hq => ahd_le (by simpa using hq) h4
    split at h
    · split at h
      all_goals
        split at h
        · cases h
        · next ha =>
          injection h with h; injection h with h1 h; injection h with h2 h3
          have := key _ (fun e => ha (.inl e))
          omega
    · split at h
      · cases h
      · next ha =>
        injection h with h; injection h with h1 h; injection h with h2 h3
        have := key _ (fun e => ha (.inl e))
        omega

/-- Where a reading ends, and how great its tree is. -/
def KeptE (l : List UInt8) (f : RxS → Out Nd) : Prop := ∀ s, Sane l s → ∀ t s', f s = .inr (t, s') → Sane l s' ∧ s.at_ ≤ s'.at_ ∧ t.size + 2 * s.at_ ≤ 2 * s'.at_ + 2
theorem Sane.mk2 {l : List UInt8} {s : RxS} {ere : Bool} {b : UInt8} (t : List UInt8) (hs : Sane l s) (h : s.at_ + (opB ere b).length ≤ l.length) : Sane l ((if ere then s else s.mark t).go (opB ere b).length) := by
  cases ere
  · exact hs.markgo t (opB_size false b).1 h
  · exact hs.go h
theorem repD_kept {ere : Bool} {l : List UInt8} : ∀ (n : Nat) (s : RxS) (t : Nd) (t' : Nd) (s' : RxS), Sane l s → repD prg ere l n s t = .inr (t', s') → Sane l s' ∧ s.at_ ≤ s'.at_ ∧ t'.size + 2 * s.at_ ≤ 2 * s'.at_ + t.size
  | 0, s, t, t', s', hs, h => by
    rw [repD] at h; injection h with h; injection h with h1 h2; subst h1; subst h2; exact ⟨hs, Nat.le_refl _, by omega⟩
  | n + 1, s, t, t', s', hs, h => by
    have hz : ∀ a b, (prg.rep t a b).size = 1 + t.size := fun _ _ => rfl
    have hat : ∀ u b, ((if ere then s else s.mark u).go (opB ere b).length).at_ = s.at_ + (opB ere b).length := fun u b => by cases ere <;> rfl
    have ho := opB_size ere
    rw [repD] at h
    split at h
    · next e =>
      have hle : s.at_ + 1 ≤ l.length := sgn_fit (eq_of_beq e) (by decide)
      obtain ⟨k1, k2, k3⟩ := repD_kept n _ _ _ _ (hs.go (n := 1) hle) h
      have k2 : s.at_ + 1 ≤ s'.at_ := k2
      have k3 : t'.size + 2 * (s.at_ + 1) ≤ 2 * s'.at_ + (1 + t.size) := k3
      exact ⟨k1, by omega, by omega⟩
    · split at h
      · next e =>
        obtain ⟨k1, k2, k3⟩ := repD_kept n _ _ _ _ (hs.mk2 _ (sgn_op e)) h
        rw [hat] at k2 k3; rw [hz] at k3
        have := (ho 43).1
        exact ⟨k1, by omega, by omega⟩
      · split at h
        · next e =>
          obtain ⟨k1, k2, k3⟩ := repD_kept n _ _ _ _ (hs.mk2 _ (sgn_op e)) h
          rw [hat] at k2 k3; rw [hz] at k3
          have := (ho 63).1
          exact ⟨k1, by omega, by omega⟩
        · split at h
          · cases hi : ditv l ere (s.at_ + (opB ere 123).length) with
            | none => rw [hi] at h; cases h
            | some y =>
              obtain ⟨m, x, j⟩ := y
              rw [hi] at h
              obtain ⟨j1, j2⟩ := ditv_in hi
              obtain ⟨k1, k2, k3⟩ := repD_kept n _ _ _ _ (hs.to (n := j) (by omega) j2) h
              have k2 : j ≤ s'.at_ := k2
              have k3 : t'.size + 2 * j ≤ 2 * s'.at_ + (1 + t.size) := k3
              exact ⟨k1, by omega, by omega⟩
          · injection h with h; injection h with h1 h2; subst h1; subst h2; exact ⟨hs, Nat.le_refl _, by omega⟩
section
variable {ere : Bool} {l : List UInt8} {C : Option (RxS → Out Nd)} (hC : ∀ f, C = some f → KeptE l f)
theorem escD_kept {s s' : RxS} {t : Nd} {b : UInt8} (hs : Sane l s) (hl : s.at_ + 2 ≤ l.length) (h : escD prg ere s b = .inr (t, s')) : Sane l s' ∧ s.at_ < s'.at_ ∧ t.size + 2 * s.at_ ≤ 2 * s'.at_ := by
  unfold escD at h
  split at h
  · split at h
    · injection h with h; injection h with h1 h2; subst h1; subst h2
      cases ere
      · exact ⟨hs.go hl, by show s.at_ < s.at_ + 2; omega, by show 1 + 2 * s.at_ ≤ 2 * (s.at_ + 2); omega⟩
      · exact ⟨hs.markgo _ (by omega) hl, by show s.at_ < s.at_ + 2; omega, by show 1 + 2 * s.at_ ≤ 2 * (s.at_ + 2); omega⟩
    · cases h
  · split at h
    · cases h
    · next c m _ =>
      injection h with h; injection h with h1 h2; subst h1; subst h2
      cases m
      · exact ⟨hs.go hl, by show s.at_ < s.at_ + 2; omega, by show 1 + 2 * s.at_ ≤ 2 * (s.at_ + 2); omega⟩
      · exact ⟨hs.markgo _ (by omega) hl, by show s.at_ < s.at_ + 2; omega, by show 1 + 2 * s.at_ ≤ 2 * (s.at_ + 2); omega⟩
include hC
theorem groupD_kept {s s' : RxS} {t : Nd} (hs : Sane l s) (hl : s.at_ + (opB ere 40).length ≤ l.length) (h : groupD prg ere l C s = .inr (t, s')) : Sane l s' ∧ s.at_ < s'.at_ ∧ t.size + 2 * s.at_ ≤ 2 * s'.at_ := by
  have ho := opB_size ere 40
  unfold groupD at h
  cases C with
  | none => cases h
  | some f =>
    simp only at h
    cases hf : f { s.go (opB ere 40).length with opened := s.opened + 1 } with
    | inl e => rw [hf] at h; cases h
    | inr z =>
      obtain ⟨t1, s1⟩ := z
      rw [hf] at h
      simp only at h
      have := hs.op
      have hg := hs.go hl
      obtain ⟨k1, k2, k3⟩ := hC f rfl { s.go (opB ere 40).length with opened := s.opened + 1 } ⟨hg.le, hg.mr, hg.cl, by show s.opened + 1 ≤ s.at_ + _; omega⟩ t1 s1 hf
      have k2 : s.at_ + (opB ere 40).length ≤ s1.at_ := k2
      have k3 : t1.size + 2 * (s.at_ + (opB ere 40).length) ≤ 2 * s1.at_ + 2 := k3
      split at h
      · next e =>
        have e1 := sgn_op e
        have e2 : (opB ere 40).length = (opB ere 41).length := by cases ere <;> rfl
        injection h with h; injection h with h1 h2; subst h1; subst h2
        refine ⟨⟨by show s1.at_ + _ ≤ _; omega, Nat.le_trans k1.mr (Nat.le_add_right _ _), ?_, Nat.le_trans k1.op (Nat.le_add_right _ _)⟩, by show s.at_ < s1.at_ + _; omega, ?_⟩
        · show (s1.closed ++ [_]).length ≤ s1.at_ + _
          have := k1.cl
          rw [List.length_append]; simp only [List.length_singleton]; omega
        · show 1 + t1.size + 2 * s.at_ ≤ 2 * (s1.at_ + _); omega
      · cases h
theorem atomD_kept {s s' : RxS} {t : Nd} (hs : Sane l s) (h : atomD prg ere l C s = .inr (t, s')) : Sane l s' ∧ s.at_ < s'.at_ ∧ t.size + 2 * s.at_ ≤ 2 * s'.at_ := by
  unfold atomD at h
  split at h
  · next e => exact groupD_kept hC hs (sgn_op e) h
  · split at h
    · cases h
    · split at h
      · cases hp : prs l (s.at_ + 1) with
        | inl z => rw [hp] at h; cases h
        | inr y =>
          obtain ⟨c, k⟩ := y
          rw [hp] at h
          injection h with h; injection h with h2 h3; subst h2; subst h3
          obtain ⟨_, p2, p3⟩ := prs_in hp
          have p2 : s.at_ + 1 < k := p2
          have p3 : k ≤ l.length := p3
          exact ⟨hs.to (by omega) p3, by show s.at_ < k; omega, by show 1 + 2 * s.at_ ≤ 2 * k; omega⟩
      · split at h
        · next e =>
          have hle : s.at_ + 1 ≤ l.length := sgn_fit (eq_of_beq e) (by decide)
          injection h with h; injection h with h2 h3; subst h2; subst h3
          exact ⟨hs.go hle, by show s.at_ < s.at_ + 1; omega, by show 1 + 2 * s.at_ ≤ 2 * (s.at_ + 1); omega⟩
        · split at h
          · cases h
          · split at h
            · cases h
            · next b e =>
              have hle : s.at_ + 1 ≤ l.length := sgn_fit e (by simp)
              injection h with h; injection h with h2 h3; subst h2; subst h3
              exact ⟨hs.go hle, by show s.at_ < s.at_ + 1; omega, by show 1 + 2 * s.at_ ≤ 2 * (s.at_ + 1); omega⟩
            · next b r e =>
              have h2 := (sgn_len l s.at_).1
              have hle := sgn_fit e (by simp)
              simp only [List.length_cons] at hle
              obtain ⟨k1, k2, k3⟩ := escD_kept hs (by omega) h
              exact ⟨k1, k2, k3⟩
theorem brD_kept {inner : Bool} : ∀ (n : Nat) (first front : Bool) (s : RxS) (ps : List Nd) (t : Nd) (s' : RxS), Sane l s → brD prg ere l C inner n first front s ps = .inr (t, s') →
    Sane l s' ∧ s.at_ ≤ s'.at_ ∧ t.size + 2 * s.at_ ≤ 2 * s'.at_ + Nd.sizes ps + 1
  | 0, first, front, s, ps, t, s', hs, h => by
    rw [brD] at h; injection h with h; injection h with h1 h2; subst h1; subst h2
    have := joined_le ps
    exact ⟨hs, Nat.le_refl _, by show (joined ps).size + _ ≤ _; omega⟩
  | n + 1, first, front, s, ps, t, s', hs, h => by
    have hj := joined_le ps
    rw [brD] at h
    split at h
    · injection h with h; injection h with h1 h2; subst h1; subst h2
      exact ⟨hs, Nat.le_refl _, by show (joined ps).size + _ ≤ _; omega⟩
    · split at h
      · next e =>
        have e1 : (sgn l s.at_ == [94]) = true := by simp only [Bool.and_eq_true] at e; exact e.1
        have hle : s.at_ + 1 ≤ l.length := sgn_fit (eq_of_beq e1) (by decide)
        obtain ⟨k1, k2, k3⟩ := brD_kept n _ _ _ _ _ _ (hs.go (n := 1) hle) h
        have k2 : s.at_ + 1 ≤ s'.at_ := k2
        have k3 : t.size + 2 * (s.at_ + 1) ≤ 2 * s'.at_ + Nd.sizes (ps ++ [.start]) + 1 := k3
        rw [Nd.sizes_append] at k3
        have : Nd.sizes [Nd.start] = 1 := rfl
        exact ⟨k1, by omega, by omega⟩
      · split at h
        · next e =>
          have e1 : (sgn l s.at_ == [36]) = true := by simp only [Bool.and_eq_true] at e; exact e.1
          have hle : s.at_ + 1 ≤ l.length := sgn_fit (eq_of_beq e1) (by decide)
          obtain ⟨k1, k2, k3⟩ := brD_kept n _ _ _ _ _ _ (hs.go (n := 1) hle) h
          have k2 : s.at_ + 1 ≤ s'.at_ := k2
          have k3 : t.size + 2 * (s.at_ + 1) ≤ 2 * s'.at_ + Nd.sizes (ps ++ [.fin]) + 1 := k3
          rw [Nd.sizes_append] at k3
          have : Nd.sizes [Nd.fin] = 1 := rfl
          exact ⟨k1, by omega, by omega⟩
        · split at h
          · cases h
          · split at h
            · cases h
            · next t1 s1 e1 =>
              split at h
              · cases h
              · next t2 s2 e2 =>
                obtain ⟨a1, a2, a3⟩ := atomD_kept hC hs e1
                obtain ⟨b1, b2, b3⟩ := repD_kept _ _ _ _ _ a1 e2
                obtain ⟨k1, k2, k3⟩ := brD_kept n _ _ _ _ _ _ b1 h
                rw [Nd.sizes_append] at k3
                have : Nd.sizes [t2] = t2.size := by simp [Nd.sizes]
                exact ⟨k1, by omega, by omega⟩
theorem branchD_kept {inner : Bool} {s s' : RxS} {t : Nd} (hs : Sane l s) (h : branchD prg ere l C inner s = .inr (t, s')) : Sane l s' ∧ s.at_ ≤ s'.at_ ∧ t.size + 2 * s.at_ ≤ 2 * s'.at_ + 1 := by
  have := brD_kept hC _ _ _ _ _ _ _ hs h
  simpa [Nd.sizes] using this
theorem loopD_kept {inner : Bool} : ∀ (n : Nat) (s : RxS) (ts : List Nd) (t : Nd) (s' : RxS), Sane l s → chLoopD prg ere l C inner n s ts = .inr (t, s') →
    Sane l s' ∧ s.at_ ≤ s'.at_ ∧ t.size + 2 * s.at_ ≤ 2 * s'.at_ + Nd.sizes ts + 1
  | 0, s, ts, t, s', hs, h => by
    rw [chLoopD] at h; injection h with h; injection h with h1 h2; subst h1; subst h2
    have := chosen_le ts
    exact ⟨hs, Nat.le_refl _, by show (chosen ts).size + _ ≤ _; omega⟩
  | n + 1, s, ts, t, s', hs, h => by
    have hj := chosen_le ts
    have hat : ∀ u b, ((if ere then s else s.mark u).go (opB ere b).length).at_ = s.at_ + (opB ere b).length := fun u b => by cases ere <;> rfl
    have ho := opB_size ere 124
    rw [chLoopD] at h
    split at h
    · next e =>
      split at h
      · cases h
      · next t1 s1 e1 =>
        obtain ⟨a1, a2, a3⟩ := branchD_kept hC (hs.mk2 _ (sgn_op e)) e1
        rw [hat] at a2 a3
        obtain ⟨k1, k2, k3⟩ := loopD_kept n _ _ _ _ a1 h
        rw [Nd.sizes_append] at k3
        have : Nd.sizes [t1] = t1.size := by simp [Nd.sizes]
        exact ⟨k1, by omega, by omega⟩
    · injection h with h; injection h with h1 h2; subst h1; subst h2
      exact ⟨hs, Nat.le_refl _, by show (chosen ts).size + _ ≤ _; omega⟩
theorem choiceD_kept {inner : Bool} {s s' : RxS} {t : Nd} (hs : Sane l s) (h : choiceD prg ere l C inner s = .inr (t, s')) : Sane l s' ∧ s.at_ ≤ s'.at_ ∧ t.size + 2 * s.at_ ≤ 2 * s'.at_ + 2 := by
  unfold choiceD at h
  split at h
  · cases h
  · next t1 s1 e1 =>
    obtain ⟨a1, a2, a3⟩ := branchD_kept hC hs e1
    obtain ⟨k1, k2, k3⟩ := loopD_kept hC _ _ _ _ _ a1 h
    have : Nd.sizes [t1] = t1.size := by simp [Nd.sizes]
    exact ⟨k1, by omega, by omega⟩
end
theorem chD_kept {ere : Bool} {l : List UInt8} : ∀ n, KeptE l (chD prg ere l n)
  | 0 => fun s hs t s' h => by rw [chD] at h; exact choiceD_kept (fun f hf => by cases hf) hs h
  | n + 1 => fun s hs t s' h => by rw [chD] at h; exact choiceD_kept (fun f hf => by injection hf with hf; subst hf; exact chD_kept n) hs h
end Go.Proofs.YtepeomphikhbkaaGreatDoor
