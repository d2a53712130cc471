/-
  Merged texts of this claim: BreY, BreZ, BreErr.
-/
import Derived.Deep.DrawnRows
import Derived.Test.YtpcpmjaphjkphaaDoorM11
import Derived.Test.YtpcpmjaphjkphaaDoorM21
import Derived.Test.YtpcpmjaphjkphaaDoorM22
import Derived.Test.YtpcpmjaphjkphaaDoorM23

/-
  Chapter 4: groups of greater numbers, in the document's trees; what two regexes with a bar between are. No walk.
-/
namespace Go.Proofs.YtpcpmjaphjkphaaDoor
open Go.RowKit

mutual
def T.turn (o : Int) : T → T
  | .mk k s ps mn mx nu => .mk k s (T.turns o ps) mn mx (if k = 5 then nu + o else nu)
def T.turns (o : Int) : List T → List T
  | [] => []
  | t :: ts => t.turn o :: T.turns o ts
end
theorem T.turns_eq (o : Int) (l : List T) : T.turns o l = l.map (T.turn o) := by
  induction l with
  | nil => rfl
  | cons t ts ih => simp only [T.turns, List.map_cons, ih]
theorem T.turns_length (o : Int) (l : List T) : (T.turns o l).length = l.length := by simp only [T.turns_eq, List.length_map]
theorem T.turns_take {o : Int} {l : List T} {k : Nat} (h : k < l.length) : T.turns o (l.take (k + 1)) = T.turns o (l.take k) ++ [l[k].turn o] := by
  simp only [T.turns_eq]; rw [List.take_succ_eq_append_getElem h, List.map_append]; rfl
mutual
theorem T.turn_bulk (o : Int) : ∀ t : T, (t.turn o).bulk = t.bulk
  | .mk k s ps mn mx nu => by simp only [T.turn, T.bulk, T.turns_bulk o ps]
theorem T.turns_bulk (o : Int) : ∀ l : List T, T.bulks (T.turns o l) = T.bulks l
  | [] => rfl
  | t :: ts => by simp only [T.turns, T.bulks, T.turn_bulk o t, T.turns_bulk o ts]
end
mutual
theorem T.turn_known (o : Int) : ∀ t : T, (t.turn o).known = t.known
  | .mk k s ps mn mx nu => by simp only [T.turn, T.known, T.turns_known o ps]
theorem T.turns_known (o : Int) : ∀ l : List T, T.knowns (T.turns o l) = T.knowns l
  | [] => rfl
  | t :: ts => by simp only [T.turns, T.knowns, T.turn_known o t, T.turns_known o ts]
end
mutual
theorem T.turn_nd (o : Int) : ∀ t : T, (t.turn o).nd = t.nd.turn o
  | .mk k s ps mn mx nu => by
    have h1 := T.turns_nd o ps
    have h2 := T.turns_nd1 o ps
    simp only [T.turn, T.nd]
    by_cases k1 : k = 1
    · simp [k1, Nd.turn]
    by_cases k2 : k = 2
    · simp [k2, Nd.turn, h1]
    by_cases k3 : k = 3
    · simp [k3, Nd.turn, h1]
    by_cases k4 : k = 4
    · simp [k4, Nd.turn, h2]
    by_cases k5 : k = 5
    · simp [k5, Nd.turn, h2]
    by_cases k6 : k = 6
    · simp [k6, Nd.turn]
    by_cases k7 : k = 7
    · simp [k7, Nd.turn]
    by_cases k8 : k = 8
    · simp [k8, Nd.turn]
    simp [k1, k2, k3, k4, k5, k6, k7, k8, Nd.turn]
theorem T.turns_nd (o : Int) : ∀ l : List T, T.nds (T.turns o l) = Nd.turns o (T.nds l)
  | [] => rfl
  | t :: ts => by simp only [T.turns, T.nds, Nd.turns, T.turn_nd o t, T.turns_nd o ts]
theorem T.turns_nd1 (o : Int) : ∀ l : List T, T.nd1 (T.turns o l) = (T.nd1 l).turn o
  | [] => rfl
  | t :: ts => by simp only [T.turns, T.nd1, T.turn_nd o t]
end
mutual
theorem Nd.turn_norm (o : Int) : ∀ t : Nd, (t.turn o).norm = t.norm.turn o
  | .cat l => by simp only [Nd.turn, Nd.norm, Nd.turns_norm o l]
  | .alt l => by simp only [Nd.turn, Nd.norm, Nd.turns_norm o l]
  | .rep x a b => by simp only [Nd.turn, Nd.norm, Nd.turn_norm o x]
  | .group n x => by simp only [Nd.turn, Nd.norm, Nd.turn_norm o x]
  | .nil | .empty | .one _ | .back _ | .start | .fin => rfl
theorem Nd.turns_norm (o : Int) : ∀ l : List Nd, Nd.norms (Nd.turns o l) = Nd.turns o (Nd.norms l)
  | [] => rfl
  | t :: ts => by simp only [Nd.turns, Nd.norms, Nd.turn_norm o t, Nd.turns_norm o ts]
end
mutual
theorem Nd.turn_groups (o : Int) : ∀ t : Nd, (t.turn o).groups = t.groups
  | .cat l => by simp only [Nd.turn, Nd.groups, Nd.turns_groups o l]
  | .alt l => by simp only [Nd.turn, Nd.groups, Nd.turns_groups o l]
  | .rep x a b => by simp only [Nd.turn, Nd.groups, Nd.turn_groups o x]
  | .group n x => by simp only [Nd.turn, Nd.groups, Nd.turn_groups o x]
  | .nil | .empty | .one _ | .back _ | .start | .fin => rfl
theorem Nd.turns_groups (o : Int) : ∀ l : List Nd, Nd.groupss (Nd.turns o l) = Nd.groupss l
  | [] => rfl
  | t :: ts => by simp only [Nd.turns, Nd.groupss, Nd.turn_groups o t, Nd.turns_groups o ts]
end
mutual
theorem Nd.turn_size (o : Int) : ∀ t : Nd, (t.turn o).size = t.size
  | .cat l => by simp only [Nd.turn, Nd.size, Nd.turns_size o l]
  | .alt l => by simp only [Nd.turn, Nd.size, Nd.turns_size o l]
  | .rep x a b => by simp only [Nd.turn, Nd.size, Nd.turn_size o x]
  | .group n x => by simp only [Nd.turn, Nd.size, Nd.turn_size o x]
  | .nil | .empty | .one _ | .back _ | .start | .fin => rfl
theorem Nd.turns_size (o : Int) : ∀ l : List Nd, Nd.sizes (Nd.turns o l) = Nd.sizes l
  | [] => rfl
  | t :: ts => by simp only [Nd.turns, Nd.sizes, Nd.turn_size o t, Nd.turns_size o ts]
end

theorem norms_append (l m : List Nd) : Nd.norms (l ++ m) = Nd.norms l ++ Nd.norms m := by simp only [Nd.norms_eq, List.map_append]
theorem chosen_norm {ts : List Nd} (h : brns ts) : (chosen ts).norm = onlyOf (Nd.norms ts) (.alt (Nd.norms ts)) := by
  rw [chosen_brns h]
  match ts with
  | [] => rfl
  | [x] => rfl
  | x :: y :: r => rfl
theorem chosen_norm_arm {ts : List Nd} (h : brns ts) (hne : ts ≠ []) : (chosen ts).norm.arm = Nd.norms ts := by
  rw [chosen_norm h]
  match ts, hne with
  | [x], _ =>
    have hx := h x (by simp)
    show Nd.arm x.norm = [x.norm]
    cases x <;> first | rfl | cases hx
  | x :: y :: r, _ => rfl
/-- What two regexes with a bar between are, as the document has it. -/
theorem two_norm {ta tb : List Nd} {o : Int} (ha : brns ta) (hb : brns tb) (na : ta ≠ []) (nb : tb ≠ []) :
    (chosen (ta ++ Nd.turns o tb)).norm = (chooseT [(chosen ta).rf, (chosen tb).rf.turn o]).nd := by
  have hk : T.knowns [(chosen ta).rf, (chosen tb).rf.turn o] = true := by simp only [T.knowns, T.turn_known, Nd.rf_known, Bool.and_self]
  rw [← chosen_nd hk]
  simp only [T.nds, T.turn_nd, Nd.rf_nd]
  have hb2 := brns_turns (o := o) hb
  have nb2 : Nd.turns o tb ≠ [] := by rw [Nd.turns_eq]; simpa using nb
  rw [← Nd.turn_norm, ← chosen_turn hb, chosen_norm (fun x hx => (List.mem_append.1 hx).elim (ha x) (hb2 x)), norms_append]
  unfold chosen
  rw [two_arms]
  have h1 := chosen_norm_arm ha na
  have h2 := chosen_norm_arm hb2 nb2
  unfold chosen at h1 h2
  rw [h1, h2]

/-! ### Numbers of groups are small -/
mutual
def Nd.small : Nd → Prop
  | .cat l => Nd.smalls l
  | .alt l => Nd.smalls l
  | .rep x _ _ => x.small
  | .group n x => 0 ≤ n ∧ n ≤ 1000 ∧ x.small
  | .nil => True
  | .empty => True
  | .one _ => True
  | .back _ => True
  | .start => True
  | .fin => True
def Nd.smalls : List Nd → Prop
  | [] => True
  | t :: ts => t.small ∧ Nd.smalls ts
end
theorem smalls_snoc {l : List Nd} {t : Nd} (h : Nd.smalls l) (ht : t.small) : Nd.smalls (l ++ [t]) := by
  induction l with
  | nil => exact ⟨ht, trivial⟩
  | cons a r ih => exact ⟨h.1, ih h.2⟩
theorem only_small {l : List Nd} {n : Nd} (h : Nd.smalls l) (hn : n.small) : (onlyOf l n).small := by
  match l, h with
  | [], _ => trivial
  | [x], h => exact h.1
  | x :: y :: r, _ => exact hn
theorem joined_small {ps : List Nd} (hu : units ps) (h : Nd.smalls ps) : (joined ps).small := by rw [joined_units hu]; exact only_small h h
theorem chosen_small {ts : List Nd} (hu : brns ts) (h : Nd.smalls ts) : (chosen ts).small := by rw [chosen_brns hu]; exact only_small h h
theorem repS_small {l : List UInt8} : ∀ (n : Nat) (s : RxS) (t t' : Nd) (s' : RxS), t.small → repS prg l n s t = .inr (t', s') → t'.small
  | 0, s, t, t', s', ht, h => by rw [repS] at h; injection h with h; injection h with h1 h2; subst h1; exact ht
  | n + 1, s, t, t', s', ht, h => by
    rw [repS] at h
    split at h
    · exact repS_small n _ (.rep t 1 (-1)) _ _ ht h
    · split at h
      · exact repS_small n _ (.rep t 0 1) _ _ ht h
      · split at h
        · split at h
          · cases h
          · exact repS_small n _ (.rep t _ _) _ _ ht h
        · split at h
          · exact repS_small n _ (.rep t 0 (-1)) _ _ ht h
          · injection h with h; injection h with h1 h2; subst h1; exact ht
def SmallC (l : List UInt8) (C : Option (RxS → Out Nd)) : Prop := ∀ f, C = some f → ∀ s t s', Sane l s → f s = .inr (t, s') → t.small
section
variable {l : List UInt8} {C : Option (RxS → Out Nd)} (hl : l.length ≤ 900) (hK : ∀ f, C = some f → KeptZ l 2 f) (hC : SmallC l C)
include hl hK hC
theorem groupS_small {p : Nat} {s s' : RxS} {t : Nd} (hs : Sane l s) (ho : s.opened < s.at_) (h : groupS prg l C p s = .inr (t, s')) : t.small := by
  unfold groupS at h
  cases C with
  | none => cases h
  | some f =>
    simp only at h
    cases hf : f { s with opened := s.opened + 1 } with
    | inl e => rw [hf] at h; cases h
    | inr z =>
      obtain ⟨t1, s1⟩ := z
      rw [hf] at h
      simp only at h
      split at h
      · injection h with h; injection h with h1 h2; subst h1
        have hle := hs.le
        exact ⟨by omega, by omega, hC f rfl { s with opened := s.opened + 1 } _ _ ⟨hs.le, hs.mr, hs.cl, ho⟩ hf⟩
      · cases h
theorem rndS_small {s s' : RxS} {t : Nd} (hs : Sane l s) (ha : s.at_ < l.length) (h : rndS l C s l[s.at_] = .inr (t, s')) : t.small := by
  unfold rndS at h
  cases hp : atomS prg l C s l[s.at_] with
  | inl z => rw [hp] at h; cases h
  | inr y =>
    obtain ⟨t1, s1⟩ := y
    rw [hp] at h
    simp only at h
    refine repS_small _ _ _ _ _ ?_ h
    obtain ⟨x, hx⟩ : ∃ x, l[s.at_] = x := ⟨_, rfl⟩
    rw [hx] at hp
    unfold atomS at hp
    split at hp
    · unfold escS at hp
      cases hn : l[s.at_ + 1]? with
      | none => rw [hn] at hp; cases hp
      | some b =>
        have hlt := (List.getElem?_eq_some_iff.1 hn).1
        rw [hn] at hp
        simp only at hp
        have hop := hs.op
        split at hp
        · exact groupS_small hl hK hC (hs.go (n := 2) (by omega)) (by show s.opened < s.at_ + 2; omega) hp
        · split at hp
          · cases hp
          · split at hp
            · split at hp
              · injection hp with hp; injection hp with h1 h2; subst h1; trivial
              · cases hp
            · split at hp
              · cases hp
              · injection hp with hp; injection hp with h1 h2; subst h1; trivial
    · split at hp
      · split at hp
        · cases hp
        · injection hp with hp; injection hp with h1 h2; subst h1; trivial
      · split at hp
        · injection hp with hp; injection hp with h1 h2; subst h1; trivial
        · injection hp with hp; injection hp with h1 h2; subst h1; trivial
theorem brS_small {inner : Bool} : ∀ (n : Nat) (front : Bool) (s : RxS) (ps : List Nd) (t : Nd) (s' : RxS), Sane l s → units ps → Nd.smalls ps → brS prg l C inner n front s ps = .inr (t, s') → t.small
  | 0, front, s, ps, t, s', hs, hu, hd, h => by rw [brS] at h; injection h with h; injection h with h1 h2; subst h1; exact joined_small hu hd
  | n + 1, front, s, ps, t, s', hs, hu, hd, h => by
    by_cases ha : s.at_ < l.length
    · cases h1 : (ahd l s.at_ [92, 124] || (inner && ahd l s.at_ [92, 41])) with
      | true => rw [brS_stop ha h1] at h; injection h with h; injection h with h1 h2; subst h1; exact joined_small hu hd
      | false =>
        cases h2 : (front && (ahd l s.at_ [92, 123] || (ahd l s.at_ [92, 43] || ahd l s.at_ [92, 63]))) with
        | true => rw [brS_bad ha h1 h2] at h; cases h
        | false =>
          cases h3 : (ahd l s.at_ [36] && lastS l s.at_) with
          | true => rw [brS_fin ha h1 h2 h3] at h; exact brS_small n _ _ _ _ _ (hs.go (n := 1) (by omega)) (hu.snoc (by rfl)) (smalls_snoc (t := .fin) hd trivial) h
          | false =>
            rw [brS_go ha h1 h2 h3] at h
            cases hr : rndS l C s l[s.at_] with
            | inl e => rw [hr] at h; cases h
            | inr z =>
              obtain ⟨t1, s1⟩ := z
              rw [hr] at h
              exact brS_small n _ _ _ _ _ (rndS_kept hK hs ha hr).1 (hu.snoc (rndS_unit hr)) (smalls_snoc hd (rndS_small hl hK hC hs ha hr)) h
    · rw [brS_over (by omega)] at h; injection h with h; injection h with h1 h2; subst h1; exact joined_small hu hd
theorem branchS_small {inner : Bool} {s s' : RxS} {t : Nd} (hs : Sane l s) (h : branchS prg l C inner s = .inr (t, s')) : t.small := by
  unfold branchS at h
  split at h
  · next ha =>
    have hle := ahd_le ha (by decide)
    simp only [List.length_singleton] at hle
    exact brS_small hl hK hC _ _ _ _ _ _ (hs.go hle) (fun x hx => by rw [List.mem_singleton.1 hx]; rfl) (show Nd.smalls [.start] from ⟨trivial, trivial⟩) h
  · exact brS_small hl hK hC _ _ _ _ _ _ hs (fun x hx => by cases hx) (show Nd.smalls [] from trivial) h
theorem chLoop_small {inner : Bool} : ∀ (n : Nat) (s : RxS) (ts : List Nd) (t : Nd) (s' : RxS), Sane l s → brns ts → Nd.smalls ts → chLoop prg l C inner n s ts = .inr (t, s') → t.small
  | 0, s, ts, t, s', hs, hu, hd, h => by rw [chLoop] at h; injection h with h; injection h with h1 h2; subst h1; exact chosen_small hu hd
  | n + 1, s, ts, t, s', hs, hu, hd, h => by
    rw [chLoop] at h
    split at h
    · next ha =>
      have hle := ahd_le ha (by decide)
      simp only [List.length_cons, List.length_nil] at hle
      have hs2 := hs.markgo [92, 124] (n := 2) (by omega) hle
      cases hb : branchS prg l C inner ((s.mark [92, 124]).go 2) with
      | inl e => rw [hb] at h; cases h
      | inr z =>
        obtain ⟨t1, s1⟩ := z
        rw [hb] at h
        exact chLoop_small n _ _ _ _ (branchS_kept hK _ hs2 _ _ hb).1 (hu.snoc (branchS_brn hb)) (smalls_snoc hd (branchS_small hl hK hC hs2 hb)) h
    · injection h with h; injection h with h1 h2; subst h1; exact chosen_small hu hd
theorem choiceS_small {inner : Bool} {s s' : RxS} {t : Nd} (hs : Sane l s) (h : choiceS prg l C inner s = .inr (t, s')) : t.small := by
  unfold choiceS at h
  cases hb : branchS prg l C inner s with
  | inl e => rw [hb] at h; cases h
  | inr z =>
    obtain ⟨t1, s1⟩ := z
    rw [hb] at h
    exact chLoop_small hl hK hC _ _ _ _ _ (branchS_kept hK _ hs _ _ hb).1 (fun x hx => by rw [List.mem_singleton.1 hx]; exact branchS_brn hb) (show Nd.smalls [t1] from ⟨branchS_small hl hK hC hs hb, trivial⟩) h
end
theorem lev_small {l : List UInt8} (hl : l.length ≤ 900) : ∀ n, SmallC l (lev l n)
  | 0 => fun f h => by cases h
  | n + 1 => fun f h s t s' hs e => by
    injection h with h; subst h
    rw [chS_lev] at e
    exact choiceS_small hl (lev_kept l n) (lev_small hl n) hs e
theorem parse_small {l : List UInt8} {t : Nd} {s : RxS} (h : parseS prg l = .inr (t, s)) : t.small := by
  have hl : l.length ≤ 250 := by
    by_cases hl : l.length ≤ 250
    · exact hl
    · unfold parseS at h; rw [if_pos (by omega)] at h; cases h
  rw [parseS_in hl] at h
  exact choiceS_small (by omega) (lev_kept l 12) (lev_small (by omega) 12) (sane_init l) h
theorem parse_size {l : List UInt8} {t : Nd} {s : RxS} (h : parseS prg l = .inr (t, s)) : t.size ≤ 300 ∧ s.marks.length ≤ 250 ∧ l.length ≤ 250 := by
  have hl : l.length ≤ 250 := by
    by_cases hl : l.length ≤ 250
    · exact hl
    · unfold parseS at h; rw [if_pos (by omega)] at h; cases h
  rw [parseS_in hl] at h
  obtain ⟨k1, k2, k3⟩ := choiceS_kept (lev_kept l 12) _ (sane_init l) _ _ h
  have h1 := k1.le
  have h2 := k1.mr
  have h3 : t.size + 0 ≤ s.at_ + 2 := k3
  exact ⟨by omega, by omega, hl⟩

/-! So are the document's. -/
mutual
def T.small : T → Prop
  | .mk k _ ps _ _ nu => (k = 5 → 0 ≤ nu ∧ nu ≤ 1000) ∧ T.smalls ps
def T.smalls : List T → Prop
  | [] => True
  | t :: ts => t.small ∧ T.smalls ts
end
theorem T.smalls_mem {l : List T} (h : T.smalls l) : ∀ t ∈ l, t.small := by
  induction l with
  | nil => intro t ht; cases ht
  | cons a r ih => intro t ht; rcases List.mem_cons.1 ht with rfl | ht; exact h.1; exact ih h.2 t ht
mutual
theorem Nd.rf_small : ∀ n : Nd, n.small → n.rf.small
  | .nil, _ | .empty, _ | .one _, _ | .back _, _ | .start, _ | .fin, _ => by simp [Nd.rf, T.zero, T.small, T.smalls]
  | .cat l, h => by simp only [Nd.rf, T.small]; exact ⟨fun e => absurd e (by decide), Nd.rfs_small l h⟩
  | .alt l, h => by simp only [Nd.rf, T.small]; exact ⟨fun e => absurd e (by decide), Nd.rfs_small l h⟩
  | .rep x _ _, h => by simp only [Nd.rf, T.small]; exact ⟨fun e => absurd e (by decide), Nd.rf_small x h, trivial⟩
  | .group n x, h => by simp only [Nd.rf, T.small]; exact ⟨fun _ => ⟨h.1, h.2.1⟩, Nd.rf_small x h.2.2, trivial⟩
theorem Nd.rfs_small : ∀ l : List Nd, Nd.smalls l → T.smalls (Nd.rfs l)
  | [], _ => trivial
  | t :: ts, h => ⟨Nd.rf_small t h.1, Nd.rfs_small ts h.2⟩
end
end Go.Proofs.YtpcpmjaphjkphaaDoor

/-
  Walk of placketlaw04.turned: a document's tree with greater numbers of groups.
-/
namespace Go.Proofs.YtpcpmjaphjkphaaDoor
open Go.RowKit
attribute [local go_sem ↓] Go.wp_at_zero Go.wp_at_succ

/-- What turned answers. -/
def TurnIs (o : Int) (t : T) (w : World) (e : Ending) (w' : World) : Prop := ∃ cs, e = .returned (.agg cs.toArray) ∧ RT (Old w) w' (t.turn o) cs ∧ Fr nob w w'

set_option maxRecDepth 100000 in
set_option maxHeartbeats 2000000 in
theorem turned_any (o : Int) (h0 : 0 ≤ o) (h1 : o ≤ 1000) (m : Nat) : ∀ (t : T) (cs : List Value) (w : World), t.bulk ≤ m → t.bulk ≤ 3000000 → t.small → RT nob w t cs →
    Calls Tryd.prog 19 #[.agg cs.toArray, .int .i64 o] w (TurnIs o t w) := by
  induction m with
  | zero => intro t cs w h; have := t.bulk_pos; omega
  | succ m ih =>
    intro t cs w hm hb hsm h
    obtain ⟨kd, s, ps, mn, mx, nu, a, c, ht, rfl, hs⟩ := h.open'
    subst ht
    rw [T.bulk] at hm hb
    rw [T.small] at hsm
    obtain ⟨hnu, hsp⟩ := hsm
    have hpl := T.length_le ps
    have IH := Lib.hid ih; have HS := Lib.hid hs; have HSP := Lib.hid hsp
    clear ih h hs hsp
    obtain ⟨nu2, hnu2⟩ : ∃ nu2, nu2 = if kd = 5 then nu + o else nu := ⟨_, rfl⟩
    have HTT := Lib.hid (show (T.mk kd s ps mn mx nu).turn o = .mk kd s (T.turns o ps) mn mx nu2 by rw [T.turn, hnu2])
    obtain ⟨w1, hw1⟩ : ∃ w1, w1 = w.alloc (.cells #[.int .i64 kd, .int .u64 s.a, .int .u64 s.b, .int .u64 s.c, .int .u64 s.d, .slice a ps.length c, .int .i64 mn, .int .i64 mx, .int .i64 nu2] 51) := ⟨_, rfl⟩
    obtain ⟨w2, hw2⟩ : ∃ w2, w2 = w1.alloc (.cells #[.int .i64 0, .int .u64 0, .int .u64 0, .int .u64 0, .int .u64 0, .slice none 0 0, .int .i64 0, .int .i64 0, .int .i64 0] 51) := ⟨_, rfl⟩
    have hs1 : w1.heap.size = w.heap.size + 1 := by rw [hw1]; simp
    have hs2 : w2.heap.size = w.heap.size + 2 := by rw [hw2]; simp; omega
    have f02 : Fr nob w w2 := by rw [hw2, hw1]; exact ((Fr.refl nob w).alloc _).alloc _
    have hb0 : w2.heap[w.heap.size]? = some (.cells #[.int .i64 kd, .int .u64 s.a, .int .u64 s.b, .int .u64 s.c, .int .u64 s.d, .slice a ps.length c, .int .i64 mn, .int .i64 mx, .int .i64 nu2] 51 (0, 0)) := by
      rw [hw2]; exact heap_alloc_lt _ (by rw [hw1]; exact heap_alloc_new _ _)
    have hb1 : w2.heap[w.heap.size + 1]? = some (.cells #[.int .i64 0, .int .u64 0, .int .u64 0, .int .u64 0, .int .u64 0, .slice none 0 0, .int .i64 0, .int .i64 0, .int .i64 0] 51 (0, 0)) := by
      rw [hw2]; exact heap_alloc_new' _ _ _ hs1.symm
    have HB0 := Lib.hid hb0; have HB1 := Lib.hid hb1; have F02 := Lib.hid f02; have HNU := Lib.hid hnu2; have HW1 := Lib.hid hw1; have HW2 := Lib.hid hw2; have HS1 := Lib.hid hs1
    obtain ⟨z0, z1, z2, z3, z4, z5, z6, z7, z8⟩ := C9.of hb0
    clear hb0 hb1 f02 hw1 hw2
    go_enter Tryd.func19, Tryd.ntmps19
    by_cases k5 : kd = 5
    case' pos =>
      have t1 : (kd == 5) = true := by simpa using k5
      obtain ⟨g1, g2⟩ := hnu k5
      rw [if_pos k5] at hnu2
      subst hnu2
    case' neg =>
      have t1 : (kd == 5) = false := by simpa using k5
      rw [if_neg k5] at hnu2
      subst hnu2
    all_goals
      clear hnu k5
      go_wp2_with (first | rw [← HW1.out] | rw [← HW2.out])
      go_loopw [5, 19] (fun s1 i wr => ∃ (k : Nat) (g : Option Nat), i = .int .i64 k ∧ k ≤ ps.length ∧ OwnT (Old w2) wr (T.turns o (ps.take k)) s1 g ∧ Fr nob w2 wr ∧ ∀ j, g = some j → w2.heap.size ≤ j) (fun _ i _ => ps.length - (intOf i).toNat)
      case atStart => exact ⟨0, none, rfl, Nat.zero_le _, OwnT.nil _ _, Fr.refl _ _, fun _ h => by cases h⟩
      case round =>
        obtain ⟨k, g, rfl, hk, ho, fr, hg⟩ := hrel
        have hsh := ho.shape
        rw [T.turns_length, List.length_take, Nat.min_eq_left hk] at hsh
        obtain ⟨av, cv, rfl⟩ := hsh
        have HO := Lib.hid ho; have FR := Lib.hid fr; have HG := Lib.hid hg
        have hlw := fr.size
        clear ho fr hg
        by_cases hlt : k < ps.length
        · obtain ⟨q, off, cap, cx, he, hx, hcx, hgs⟩ := (HS.out.on (F02.out.trans' FR.out)).get hlt
          injection he with e1 e2 e3
          subst e1; subst e3
          have hnt := T.turns_take (o := o) hlt
          have hnl : (T.turns o (ps.take k)).length + 1 ≤ 3000000 := by rw [T.turns_length, List.length_take]; omega
          have hxb : ps[k].bulk ≤ T.bulks ps := T.bulks_mem (List.getElem_mem hlt)
          have hxs := T.smalls_mem HSP.out _ (List.getElem_mem hlt)
          obtain ⟨x, hxe⟩ : ∃ x, ps[k] = x := ⟨_, rfl⟩
          rw [hxe] at hnt hx hxb hxs
          obtain ⟨k', s', ps', mn', mx', nu', a', c', hx0, rfl, hxx⟩ := hx.open'
          obtain ⟨g0, g1, g2, g3, g4, g5, g6, g7, g8⟩ := hcx.nine
          have HX := Lib.hid hx; have HXS := Lib.hid hxs; have HNT := Lib.hid hnt; have HNL := Lib.hid hnl
          clear hx hxx hx0 e2 hcx hxe hxs hnt hnl
          go_wp2_with fail
          refine (IH.out x _ _ (by omega) (by omega) HXS.out (HX.out.on (by repeat (first | exact Fr.refl _ _ | apply Fr.alloc | apply Fr.drew)))).mono ?_
          rintro e w3 ⟨cs3, rfl, hr, f3⟩
          obtain ⟨k3, s3, ps3, mn3, mx3, nu3, a3, c3, hx3, rfl, hxx3⟩ := hr.open'
          have hl3 := f3.size
          have HR := Lib.hid hr; have F3 := Lib.hid f3
          clear hr f3 hx3 hxx3
          have hl4 : wr.heap.size + 1 ≤ w3.heap.size := by simpa using hl3
          have hSn : ∀ X, ∀ k, Old w2 k → k < (w3.alloc X).heap.size := fun X k (hk : Old w2 k) => by unfold Old at hk; simp only [World.size_alloc]; omega
          have HSN := Lib.hid hSn
          have HST := Lib.hid (ST.one (S := LS2 (Old w2) g) (RT.keep (Fr.refl nob w3) (fun _ _ x => x.elim) (new_of' (by simp; omega) (fun k hk => by have := HO.out.lt k hk; simp; omega)) _ _ HR.out) (fun k hk => by
            rcases hk with hk | hk
            · unfold Old at hk; omega
            · have := HO.out.lt k hk; omega) 51 rfl)
          have F3A := Lib.hid (((Fr.refl nob wr).alloc _).trans' F3.out)
          have FRA := Lib.hid (FR.out.trans' F3A.out)
          clear hSn hl3
          go_wp2_with (at_builtin; refine wpList_append_t (S := Old w2) rfl (.tmp 23) (.tmp 27) rfl (T.turns o (ps.take k)) [x.turn o] _ _ g (by rfl) (HO.out.on (F3A.out.alloc _)) (by rfl) HST.out (HSN.out _) HNL.out ?_; intro v' w4 g' ho3 hf3 hg3; have he3 := ho3.shape; rw [List.length_append, T.turns_length, List.length_take, Nat.min_eq_left hk] at he3; simp only [List.length_singleton] at he3; obtain ⟨av', cv', rfl⟩ := he3; have HO3 := Lib.hid ho3; have HF3 := Lib.hid hf3; have HG3 := Lib.hid hg3; clear ho3 hf3 hg3)
          go_roundw
          case rel => exact ⟨k + 1, g', by go_num, by omega, by rw [HNT.out]; exact HO3.out, (FRA.out.alloc _).trans HF3.out (fun i hi x => by have := HG.out i x; omega), fun j hj => by
            rcases HG3.out j hj with h | h
            · exact HG.out j h
            · simp only [World.size_alloc] at h; omega⟩
          case measure => simp [intOf]; omega
        · obtain rfl : k = ps.length := by omega
          have hO := HO.out
          rw [List.take_of_length_le (Nat.le_refl _)] at hO
          have hr0 := FR.out.heap HB0.out (fun x => x)
          have hr1 := FR.out.heap HB1.out (fun x => x)
          obtain ⟨y0, y1, y2, y3, y4, y5, y6, y7, y8⟩ := C9.of hr0
          obtain ⟨p0, p1, p2, p3, p4, p5, p6, p7, p8⟩ := there9 hr0
          have hc0 := heap_setCell_at hr0 5 (.slice av ps.length cv)
          have hc1 := heap_setCell_ne (p := ⟨w.heap.size, 5, none⟩) hr1 (by simp) (.slice av ps.length cv)
          obtain ⟨x0, x1, x2, x3, x4, x5, x6, x7, x8⟩ := C9.of hc0
          obtain ⟨n0, n1, n2, n3, n4, n5, n6, n7, n8⟩ := C9.of hc1
          obtain ⟨q0, q1, q2, q3, q4, q5, q6, q7, q8⟩ := there9 hc1
          have HC1 := Lib.hid hc1; have HST := Lib.hid hO.st
          have HFW := Lib.hid ((F02.out.trans' FR.out).setCell (p := ⟨w.heap.size, 5, none⟩) (fun h => absurd h (Nat.lt_irrefl _)) (.slice av ps.length cv))
          clear hO hr0 hr1 hc0 hc1
          go_wp2
          (try simp only [Exit.inBlock, Exit.then])
          refine bodyPost_ret (results_T (k := kd) (s := s) (v := .slice av ps.length cv) (mn := mn) (mx := mx) rfl rfl (setNine_heap HC1.out _ _ _ _ _ _ _ _ _)) rfl ⟨_, rfl, ?_, setNine_fr HFW.out (by omega) _ _ _ _ _ _ _ _ _⟩
          rw [HTT.out]
          refine RT_mk.2 ⟨_, rfl, ?_⟩
          exact (HST.out.keep (X := fun k => k = w.heap.size) (S' := Old w2) ((Fr.refl (fun k => k = w.heap.size) wr).setCell (p := ⟨w.heap.size, 5, none⟩) (fun _ => rfl) _) (fun k _ x => by subst x; unfold Old; omega) (fun _ _ x => x)).keep (setNine_one _ _ _ _ _ _ _ _ _) (fun k _ x => by subst x; unfold Old; omega) (fun k _ x => by unfold Old at x ⊢; omega)
end Go.Proofs.YtpcpmjaphjkphaaDoor

/-
  What is no regex is told by an error other than nought.
-/
namespace Go.Proofs.YtpcpmjaphjkphaaDoor
open Go.RowKit

section
variable {α : Type} {A : Alg α} {l : List UInt8}
theorem repS_err : ∀ (n : Nat) (s : RxS) (t : α) (z : Int × Nat), repS A l n s t = .inl z → z.1 ≠ 0
  | 0, s, t, z, h => by rw [repS] at h; cases h
  | n + 1, s, t, z, h => by
    rw [repS] at h
    split at h
    · exact repS_err n _ _ z h
    · split at h
      · exact repS_err n _ _ z h
      · split at h
        · split at h
          · injection h with h; subst h; simp
          · exact repS_err n _ _ z h
        · split at h
          · exact repS_err n _ _ z h
          · cases h
variable {C : Option (RxS → Out α)} (hC : ∀ f, C = some f → ∀ s z, f s = .inl z → z.1 ≠ 0)
include hC
theorem groupS_err {p : Nat} {s : RxS} {z : Int × Nat} (h : groupS A l C p s = .inl z) : z.1 ≠ 0 := by
  unfold groupS at h
  cases C with
  | none => injection h with h; subst h; simp
  | some f =>
    simp only at h
    cases hf : f { s with opened := s.opened + 1 } with
    | inl e => rw [hf] at h; injection h with h; subst h; exact hC f rfl _ _ hf
    | inr y =>
      rw [hf] at h; simp only at h
      split at h
      · cases h
      · injection h with h; subst h; simp
theorem atomS_err {s : RxS} {b : UInt8} {z : Int × Nat} (h : atomS A l C s b = .inl z) : z.1 ≠ 0 := by
  unfold atomS at h
  split at h
  · unfold escS at h
    split at h
    · injection h with h; subst h; simp
    · split at h
      · exact groupS_err hC h
      · split at h
        · injection h with h; subst h; simp
        · split at h
          · split at h
            · cases h
            · injection h with h; subst h; simp
          · split at h
            · injection h with h; subst h; simp
            · cases h
  · split at h
    · split at h
      · next e p hp => injection h with h; subst h; exact prs_err hp
      · cases h
    · split at h <;> cases h
theorem brS_err {inner : Bool} : ∀ (n : Nat) (front : Bool) (s : RxS) (ps : List α) (z : Int × Nat), brS A l C inner n front s ps = .inl z → z.1 ≠ 0
  | 0, front, s, ps, z, h => by rw [brS] at h; cases h
  | n + 1, front, s, ps, z, h => by
    rw [brS] at h
    split at h
    · cases h
    · split at h
      · cases h
      · split at h
        · injection h with h; subst h; simp
        · split at h
          · exact brS_err n _ _ _ z h
          · split at h
            · next e he => injection h with h; subst h; exact atomS_err hC he
            · split at h
              · next e he => injection h with h; subst h; exact repS_err _ _ _ _ he
              · exact brS_err n _ _ _ z h
theorem branchS_err {inner : Bool} {s : RxS} {z : Int × Nat} (h : branchS A l C inner s = .inl z) : z.1 ≠ 0 := by
  unfold branchS at h
  split at h <;> exact brS_err hC _ _ _ _ _ h
theorem chLoop_err {inner : Bool} : ∀ (n : Nat) (s : RxS) (ts : List α) (z : Int × Nat), chLoop A l C inner n s ts = .inl z → z.1 ≠ 0
  | 0, s, ts, z, h => by rw [chLoop] at h; cases h
  | n + 1, s, ts, z, h => by
    rw [chLoop] at h
    split at h
    · split at h
      · next e he => injection h with h; subst h; exact branchS_err hC he
      · exact chLoop_err n _ _ z h
    · cases h
theorem choiceS_err {inner : Bool} {s : RxS} {z : Int × Nat} (h : choiceS A l C inner s = .inl z) : z.1 ≠ 0 := by
  unfold choiceS at h
  split at h
  · next e he => injection h with h; subst h; exact branchS_err hC he
  · exact chLoop_err hC _ _ _ _ h
end
theorem chS_err {α : Type} {A : Alg α} {l : List UInt8} : ∀ (n : Nat) (s : RxS) (z : Int × Nat), chS A l n s = .inl z → z.1 ≠ 0
  | 0, s, z, h => by rw [chS] at h; exact choiceS_err (fun f hf => by cases hf) h
  | n + 1, s, z, h => by rw [chS] at h; exact choiceS_err (fun f hf s z hz => by injection hf with hf; subst hf; exact chS_err n s z hz) h
theorem parseS_err {α : Type} {A : Alg α} {l : List UInt8} {z : Int × Nat} (h : parseS A l = .inl z) : z.1 ≠ 0 := by
  unfold parseS at h
  split at h
  · injection h with h; subst h; simp
  · exact chS_err _ _ _ h
end Go.Proofs.YtpcpmjaphjkphaaDoor
