/-
  Merged texts of this claim: BreX, BreY, EreV.
-/
import Derived.Test.YtepeomphikhbkaaDoorM24
import Derived.Test.YtepeomphikhbkaaDoorM26
import Derived.Test.YtepeomphikhbkaaDoorM31
import Derived.Test.YtepeomphikhbkaaDoorM33

/-
  A basic regex in plain words: two with a bar between. No walk.
-/
namespace Go.Proofs.YtepeomphikhbkaaDoor
open Go.RowKit

/-! ### How deep -/
def DC (C : Option (RxS → Out Nd)) (d : Nat) : Prop := ∀ f, C = some f → ∀ s t s', f s = .inr (t, s') → t.deep + 1 ≤ d
section
variable {l : List UInt8} {C : Option (RxS → Out Nd)} {d : Nat} (hC : DC C d)
include hC
theorem groupS_deep {p : Nat} {s s' : RxS} {t : Nd} (h : groupS prg l C p s = .inr (t, s')) : t.deep ≤ d := by
  unfold groupS at h
  cases C with
  | none => cases h
  | some f =>
    simp only at h
    cases hf : f { s with opened := s.opened + 1 } with
    | inl e => rw [hf] at h; cases h
    | inr z =>
      obtain ⟨t1, s1⟩ := z
      rw [hf] at h
      simp only at h
      split at h
      · injection h with h; injection h with h1 h2; subst h1
        have := hC f rfl _ _ _ hf
        show Nd.deep (.group _ t1) ≤ d
        rw [Nd.deep]; omega
      · cases h
theorem rndS_deep {b : UInt8} {s s' : RxS} {t : Nd} (h : rndS l C s b = .inr (t, s')) : t.deep ≤ d := by
  unfold rndS at h
  cases hp : atomS prg l C s b with
  | inl z => rw [hp] at h; cases h
  | inr y =>
    obtain ⟨t1, s1⟩ := y
    rw [hp] at h
    simp only at h
    rw [(repS_same _ _ _ _ _ h).2.1]
    unfold atomS at hp
    have hone : ∀ c, (prg.one c).deep ≤ d := fun c => Nat.zero_le _
    split at hp
    · unfold escS at hp
      split at hp
      · cases hp
      · split at hp
        · exact groupS_deep hC hp
        · split at hp
          · cases hp
          · split at hp
            · split at hp
              · injection hp with hp; injection hp with h1 h2; subst h1; exact Nat.zero_le _
              · cases hp
            · split at hp
              · cases hp
              · injection hp with hp; injection hp with h1 h2; subst h1; exact Nat.zero_le _
    · split at hp
      · split at hp
        · cases hp
        · injection hp with hp; injection hp with h1 h2; subst h1; exact Nat.zero_le _
      · split at hp
        · injection hp with hp; injection hp with h1 h2; subst h1; exact Nat.zero_le _
        · injection hp with hp; injection hp with h1 h2; subst h1; exact Nat.zero_le _
theorem brS_deep {inner : Bool} : ∀ (n : Nat) (front : Bool) (s : RxS) (ps : List Nd) (t : Nd) (s' : RxS), units ps → Nd.deeps ps ≤ d → brS prg l C inner n front s ps = .inr (t, s') → t.deep ≤ d
  | 0, front, s, ps, t, s', hu, hd, h => by rw [brS] at h; injection h with h; injection h with h1 h2; subst h1; show (joined ps).deep ≤ d; rw [joined_deep hu]; exact hd
  | n + 1, front, s, ps, t, s', hu, hd, h => by
    by_cases hl : s.at_ < l.length
    · cases h1 : (ahd l s.at_ [92, 124] || (inner && ahd l s.at_ [92, 41])) with
      | true => rw [brS_stop hl h1] at h; injection h with h; injection h with h1 h2; subst h1; rw [joined_deep hu]; exact hd
      | false =>
        cases h2 : (front && (ahd l s.at_ [92, 123] || (ahd l s.at_ [92, 43] || ahd l s.at_ [92, 63]))) with
        | true => rw [brS_bad hl h1 h2] at h; cases h
        | false =>
          cases h3 : (ahd l s.at_ [36] && lastS l s.at_) with
          | true => rw [brS_fin hl h1 h2 h3] at h; exact brS_deep n _ _ _ _ _ (hu.snoc (by rfl)) (by rw [deeps_snoc]; exact Nat.max_le.2 ⟨hd, Nat.zero_le _⟩) h
          | false =>
            rw [brS_go hl h1 h2 h3] at h
            cases hr : rndS l C s l[s.at_] with
            | inl e => rw [hr] at h; cases h
            | inr z =>
              obtain ⟨t1, s1⟩ := z
              rw [hr] at h
              exact brS_deep n _ _ _ _ _ (hu.snoc (rndS_unit hr)) (by rw [deeps_snoc]; exact Nat.max_le.2 ⟨hd, rndS_deep hC hr⟩) h
    · rw [brS_over (by omega)] at h; injection h with h; injection h with h1 h2; subst h1; rw [joined_deep hu]; exact hd
theorem branchS_deep {inner : Bool} {s s' : RxS} {t : Nd} (h : branchS prg l C inner s = .inr (t, s')) : t.deep ≤ d := by
  unfold branchS at h
  split at h
  · exact brS_deep hC _ _ _ _ _ _ (fun x hx => by rw [List.mem_singleton.1 hx]; rfl) (Nat.zero_le _) h
  · exact brS_deep hC _ _ _ _ _ _ (fun x hx => by cases hx) (Nat.zero_le _) h
theorem chLoop_deep {inner : Bool} : ∀ (n : Nat) (s : RxS) (ts : List Nd) (t : Nd) (s' : RxS), brns ts → Nd.deeps ts ≤ d → chLoop prg l C inner n s ts = .inr (t, s') → t.deep ≤ d
  | 0, s, ts, t, s', hu, hd, h => by rw [chLoop] at h; injection h with h; injection h with h1 h2; subst h1; show (chosen ts).deep ≤ d; rw [chosen_deep hu]; exact hd
  | n + 1, s, ts, t, s', hu, hd, h => by
    rw [chLoop] at h
    split at h
    · cases hb : branchS prg l C inner ((s.mark [92, 124]).go 2) with
      | inl e => rw [hb] at h; cases h
      | inr z =>
        obtain ⟨t1, s1⟩ := z
        rw [hb] at h
        exact chLoop_deep n _ _ _ _ (hu.snoc (branchS_brn hb)) (by rw [deeps_snoc]; exact Nat.max_le.2 ⟨hd, branchS_deep hC hb⟩) h
    · injection h with h; injection h with h1 h2; subst h1; show (chosen ts).deep ≤ d; rw [chosen_deep hu]; exact hd
theorem choiceS_deep {inner : Bool} {s s' : RxS} {t : Nd} (h : choiceS prg l C inner s = .inr (t, s')) : t.deep ≤ d := by
  unfold choiceS at h
  cases hb : branchS prg l C inner s with
  | inl e => rw [hb] at h; cases h
  | inr z =>
    obtain ⟨t1, s1⟩ := z
    rw [hb] at h
    exact chLoop_deep hC _ _ _ _ _ (fun x hx => by rw [List.mem_singleton.1 hx]; exact branchS_brn hb) (by have := branchS_deep hC hb; simp [Nd.deeps]; exact this) h
end
theorem lev_deep (l : List UInt8) : ∀ n, DC (lev l n) n
  | 0 => fun f h => by cases h
  | n + 1 => fun f h s t s' e => by
    injection h with h; subst h
    rw [chS_lev] at e
    have := choiceS_deep (lev_deep l n) e
    omega

/-! ### By nothing -/
mutual
theorem Nd.turn_zero : ∀ t : Nd, t.turn 0 = t
  | .cat l => by rw [Nd.turn, Nd.turns_zero l]
  | .alt l => by rw [Nd.turn, Nd.turns_zero l]
  | .rep x a b => by rw [Nd.turn, Nd.turn_zero x]
  | .group n x => by rw [Nd.turn, Nd.turn_zero x, Int.add_zero]
  | .nil | .empty | .one _ | .back _ | .start | .fin => rfl
theorem Nd.turns_zero : ∀ l : List Nd, Nd.turns 0 l = l
  | [] => rfl
  | t :: ts => by rw [Nd.turns, Nd.turn_zero t, Nd.turns_zero ts]
end
theorem sh_zero (s : RxS) : s.sh 0 0 [] [] = s := by
  unfold RxS.sh
  have h1 : s.closed.map (· + 0) = s.closed := by simp
  have h2 : (s.marks.map fun m => (0 + m.1, m.2)) = s.marks := by simp
  rw [h1, h2]; simp

/-- Two regexes with a bar between. -/
theorem parse_two {l r : List UInt8} (hl : l.length ≤ 120) (hr : r.length ≤ 120) {a b : Nd} {s1 s2 : RxS} (h1 : parseS prg l = .inr (a, s1)) (h2 : parseS prg r = .inr (b, s2)) (hb1 : a.backs = false) (hb2 : b.backs = false) :
    ∃ ta tb s3, a = chosen ta ∧ b = chosen tb ∧ brns ta ∧ brns tb ∧ ta ≠ [] ∧ tb ≠ [] ∧ parseS prg (l ++ ([92, 124] ++ r)) = .inr (chosen (ta ++ Nd.turns (a.groups : Nat) tb), s3) ∧
      s3.marks = s1.marks ++ (l.length, [92, 124]) :: s2.marks.map fun m => (l.length + 2 + m.1, m.2) := by
  rw [parseS_in (by omega)] at h1 h2
  have hat1 := choiceS_stops (lev_kept l 12) (sane_init l) h1
  have hat2 := choiceS_stops (lev_kept r 12) (sane_init r) h2
  obtain ⟨ks1, _, _⟩ := choiceS_kept (lev_kept l 12) _ (sane_init l) _ _ h1
  obtain ⟨ks2, _, _⟩ := choiceS_kept (lev_kept r 12) _ (sane_init r) _ _ h2
  have hd1 := choiceS_deep (lev_deep l 12) h1
  have hd2 := choiceS_deep (lev_deep r 12) h2
  have ho1 := choiceS_opens (lev_opens l 12) _ _ _ h1
  have ho1 : s1.opened = a.groups := by rw [ho1]; exact Nat.zero_add _
  have hq1 : Tail ([92, 124] ++ r) := .inr (.inr ⟨r, rfl⟩)
  have hq2 : Tail ([] : List UInt8) := .inl rfl
  have hE1 : Ends ([92, 124] ++ r) false := .inr (.inr ⟨r, rfl⟩)
  have hE2 : Ends ([] : List UInt8) false := .inl rfl
  obtain ⟨L, hL⟩ : ∃ L, L = l ++ ([92, 124] ++ r) := ⟨_, rfl⟩
  have hL1 : [] ++ (l ++ ([92, 124] ++ r)) = L := hL.symm
  have hL2 : (l ++ [92, 124]) ++ (r ++ []) = L := by rw [hL]; simp
  have hlen : L.length = l.length + 2 + r.length := by rw [hL]; simp; omega
  have hp2 : (l ++ [92, 124]).length = l.length + 2 := by simp
  have hS1 := sub_lev (p := []) (l := l) (q := [92, 124] ++ r) hq1 (o := 0) (c0 := []) (m0 := []) 12 12 12 (by omega) (by omega) (by omega) (by omega)
  have hS2 := sub_lev (p := l ++ [92, 124]) (l := r) (q := []) hq2 (o := s1.opened) (c0 := s1.closed) (m0 := s1.marks ++ [(l.length, [92, 124])]) 12 12 12 (by omega) (by omega) (by omega) (by omega)
  rw [hL1] at hS1
  rw [hL2] at hS2
  unfold choiceS at h1 h2
  cases e1 : branchS prg l (lev l 12) false RxS.init with
  | inl e => rw [e1] at h1; cases h1
  | inr z1 =>
  obtain ⟨u1, v1⟩ := z1
  rw [e1] at h1
  cases e2 : branchS prg r (lev r 12) false RxS.init with
  | inl e => rw [e2] at h2; cases h2
  | inr z2 =>
  obtain ⟨u2, v2⟩ := z2
  rw [e2] at h2
  simp only at h1 h2
  obtain ⟨kv1, _, _⟩ := branchS_kept (lev_kept l 12) _ (sane_init l) _ _ e1
  obtain ⟨kv2, _, _⟩ := branchS_kept (lev_kept r 12) _ (sane_init r) _ _ e2
  obtain ⟨ta, k1, ea, ba, ca, fa, xa, ya, _, _, _, na⟩ := cx_ch (p := []) (q := [92, 124] ++ r) (o := 0) (c0 := []) (m0 := []) (C' := lev L 12) hq1 hS1 (lev_kept l 12) (inner' := false) (.inl rfl) [] (l.length + 1) (L.length + 1) v1 [u1] a s1 (fun x hx => by rw [List.mem_singleton.1 hx]; exact branchS_brn e1) kv1 (by omega) (by rw [hL1]; simp; omega) (.inr hE1) h1 hb1 hd1
  rw [hL1] at ca fa
  have bu1 : u1.backs = false := by simpa [Nd.backss] using xa
  have du1 : u1.deep ≤ 12 := by simpa [Nd.deeps] using ya
  have cb1 := cx_branch (p := []) (q := [92, 124] ++ r) (o := 0) (c0 := []) (m0 := []) (C' := lev L 12) hq1 hS1 (lev_kept l 12) (inner' := false) (.inl rfl) (sane_init l) (.inr hE1) e1 bu1 du1
  rw [hL1] at cb1
  simp only [List.length_nil, sh_zero, Int.ofNat_zero, Nd.turn_zero, Nd.turns_zero, List.nil_append, Nat.zero_add, Int.natCast_zero] at ca cb1 fa
  obtain ⟨k2, rfl⟩ : ∃ k2, k1 = k2 + 1 := ⟨k1 - 1, by omega⟩
  obtain ⟨tb, k3, eb, bb, cb, fb, xb, yb, _, _, _, nb⟩ := cx_ch (p := l ++ [92, 124]) (q := []) (o := s1.opened) (c0 := s1.closed) (m0 := s1.marks ++ [(l.length, [92, 124])]) (C' := lev L 12) hq2 hS2 (lev_kept r 12) (inner' := false) (.inl rfl) ta (r.length + 1) k2 v2 [u2] b s2 (fun x hx => by rw [List.mem_singleton.1 hx]; exact branchS_brn e2) kv2 (by omega) (by rw [hL2]; have := kv2.le; omega) (.inr hE2) h2 hb2 hd2
  rw [hL2] at cb fb
  have bu2 : u2.backs = false := by simpa [Nd.backss] using xb
  have du2 : u2.deep ≤ 12 := by simpa [Nd.deeps] using yb
  have cb2 := cx_branch (p := l ++ [92, 124]) (q := []) (o := s1.opened) (c0 := s1.closed) (m0 := s1.marks ++ [(l.length, [92, 124])]) (C' := lev L 12) hq2 hS2 (lev_kept r 12) (inner' := false) (.inl rfl) (sane_init r) (.inr hE2) e2 bu2 du2
  rw [hL2] at cb2
  have hst : RxS.init.sh (l ++ [92, 124]).length s1.opened s1.closed (s1.marks ++ [(l.length, [92, 124])]) = (s1.mark [92, 124]).go 2 := by
    unfold RxS.sh RxS.init RxS.mark RxS.go
    simp [hat1]
  rw [hst] at cb2
  have hab : ahd L s1.at_ [92, 124] = true := by
    unfold ahd; rw [hat1, hL, List.drop_left']; rfl; rfl
  have hov : ∀ k, chLoop prg L (lev L 12) false (k + 1) (s2.sh (l ++ [92, 124]).length s1.opened s1.closed (s1.marks ++ [(l.length, [92, 124])])) (ta ++ Nd.turns (s1.opened : Nat) tb) = .inr (chosen (ta ++ Nd.turns (s1.opened : Nat) tb), s2.sh (l ++ [92, 124]).length s1.opened s1.closed (s1.marks ++ [(l.length, [92, 124])])) := fun k => by
    rw [chLoop, if_neg (by unfold ahd; rw [sh_at, hat2, List.drop_eq_nil_of_le (by rw [hp2, hlen]; omega)]; decide)]; rfl
  obtain ⟨k4, rfl⟩ : ∃ k4, k3 = k4 + 1 := ⟨k3 - 1, by rw [hp2, hat2] at fb; omega⟩
  refine ⟨ta, tb, s2.sh (l ++ [92, 124]).length s1.opened s1.closed (s1.marks ++ [(l.length, [92, 124])]), ea, eb, ba, bb, ?_, ?_, ?_, ?_⟩
  · rintro rfl; simp at na
  · rintro rfl; simp at nb
  · rw [← hL, parseS_in (by omega)]
    unfold choiceS
    rw [cb1]
    simp only
    rw [ca, chLoop, if_pos hab, cb2]
    simp only
    have cb' : chLoop prg L (lev L 12) false k2 (v2.sh (l ++ [92, 124]).length s1.opened s1.closed (s1.marks ++ [(l.length, [92, 124])])) (ta ++ [u2.turn (s1.opened : Nat)]) = _ := cb
    rw [cb', hov, ho1]
  · simp [RxS.sh, hp2]
end Go.Proofs.YtepeomphikhbkaaDoor

/-
  Chapter 4: groups of greater numbers, in the document's trees; what two regexes with a bar between are. No walk.
-/
namespace Go.Proofs.YtepeomphikhbkaaDoor
open Go.RowKit

mutual
def T.turn (o : Int) : T → T
  | .mk k s ps mn mx nu => .mk k s (T.turns o ps) mn mx (if k = 5 then nu + o else nu)
def T.turns (o : Int) : List T → List T
  | [] => []
  | t :: ts => t.turn o :: T.turns o ts
end
theorem T.turns_eq (o : Int) (l : List T) : T.turns o l = l.map (T.turn o) := by
  induction l with
  | nil => rfl
  | cons t ts ih => simp only [T.turns, List.map_cons, ih]
theorem T.turns_length (o : Int) (l : List T) : (T.turns o l).length = l.length := by simp only [T.turns_eq, List.length_map]
theorem T.turns_take {o : Int} {l : List T} {k : Nat} (h : k < l.length) : T.turns o (l.take (k + 1)) = T.turns o (l.take k) ++ [l[k].turn o] := by
  simp only [T.turns_eq]; rw [List.take_succ_eq_append_getElem h, List.map_append]; rfl
mutual
theorem T.turn_bulk (o : Int) : ∀ t : T, (t.turn o).bulk = t.bulk
  | .mk k s ps mn mx nu => by simp only [T.turn, T.bulk, T.turns_bulk o ps]
theorem T.turns_bulk (o : Int) : ∀ l : List T, T.bulks (T.turns o l) = T.bulks l
  | [] => rfl
  | t :: ts => by simp only [T.turns, T.bulks, T.turn_bulk o t, T.turns_bulk o ts]
end
mutual
theorem T.turn_known (o : Int) : ∀ t : T, (t.turn o).known = t.known
  | .mk k s ps mn mx nu => by simp only [T.turn, T.known, T.turns_known o ps]
theorem T.turns_known (o : Int) : ∀ l : List T, T.knowns (T.turns o l) = T.knowns l
  | [] => rfl
  | t :: ts => by simp only [T.turns, T.knowns, T.turn_known o t, T.turns_known o ts]
end
mutual
theorem T.turn_nd (o : Int) : ∀ t : T, (t.turn o).nd = t.nd.turn o
  | .mk k s ps mn mx nu => by
    have h1 := T.turns_nd o ps
    have h2 := T.turns_nd1 o ps
    simp only [T.turn, T.nd]
    by_cases k1 : k = 1
    · simp [k1, Nd.turn]
    by_cases k2 : k = 2
    · simp [k2, Nd.turn, h1]
    by_cases k3 : k = 3
    · simp [k3, Nd.turn, h1]
    by_cases k4 : k = 4
    · simp [k4, Nd.turn, h2]
    by_cases k5 : k = 5
    · simp [k5, Nd.turn, h2]
    by_cases k6 : k = 6
    · simp [k6, Nd.turn]
    by_cases k7 : k = 7
    · simp [k7, Nd.turn]
    by_cases k8 : k = 8
    · simp [k8, Nd.turn]
    simp [k1, k2, k3, k4, k5, k6, k7, k8, Nd.turn]
theorem T.turns_nd (o : Int) : ∀ l : List T, T.nds (T.turns o l) = Nd.turns o (T.nds l)
  | [] => rfl
  | t :: ts => by simp only [T.turns, T.nds, Nd.turns, T.turn_nd o t, T.turns_nd o ts]
theorem T.turns_nd1 (o : Int) : ∀ l : List T, T.nd1 (T.turns o l) = (T.nd1 l).turn o
  | [] => rfl
  | t :: ts => by simp only [T.turns, T.nd1, T.turn_nd o t]
end
mutual
theorem Nd.turn_norm (o : Int) : ∀ t : Nd, (t.turn o).norm = t.norm.turn o
  | .cat l => by simp only [Nd.turn, Nd.norm, Nd.turns_norm o l]
  | .alt l => by simp only [Nd.turn, Nd.norm, Nd.turns_norm o l]
  | .rep x a b => by simp only [Nd.turn, Nd.norm, Nd.turn_norm o x]
  | .group n x => by simp only [Nd.turn, Nd.norm, Nd.turn_norm o x]
  | .nil | .empty | .one _ | .back _ | .start | .fin => rfl
theorem Nd.turns_norm (o : Int) : ∀ l : List Nd, Nd.norms (Nd.turns o l) = Nd.turns o (Nd.norms l)
  | [] => rfl
  | t :: ts => by simp only [Nd.turns, Nd.norms, Nd.turn_norm o t, Nd.turns_norm o ts]
end
mutual
theorem Nd.turn_groups (o : Int) : ∀ t : Nd, (t.turn o).groups = t.groups
  | .cat l => by simp only [Nd.turn, Nd.groups, Nd.turns_groups o l]
  | .alt l => by simp only [Nd.turn, Nd.groups, Nd.turns_groups o l]
  | .rep x a b => by simp only [Nd.turn, Nd.groups, Nd.turn_groups o x]
  | .group n x => by simp only [Nd.turn, Nd.groups, Nd.turn_groups o x]
  | .nil | .empty | .one _ | .back _ | .start | .fin => rfl
theorem Nd.turns_groups (o : Int) : ∀ l : List Nd, Nd.groupss (Nd.turns o l) = Nd.groupss l
  | [] => rfl
  | t :: ts => by simp only [Nd.turns, Nd.groupss, Nd.turn_groups o t, Nd.turns_groups o ts]
end
mutual
theorem Nd.turn_size (o : Int) : ∀ t : Nd, (t.turn o).size = t.size
  | .cat l => by simp only [Nd.turn, Nd.size, Nd.turns_size o l]
  | .alt l => by simp only [Nd.turn, Nd.size, Nd.turns_size o l]
  | .rep x a b => by simp only [Nd.turn, Nd.size, Nd.turn_size o x]
  | .group n x => by simp only [Nd.turn, Nd.size, Nd.turn_size o x]
  | .nil | .empty | .one _ | .back _ | .start | .fin => rfl
theorem Nd.turns_size (o : Int) : ∀ l : List Nd, Nd.sizes (Nd.turns o l) = Nd.sizes l
  | [] => rfl
  | t :: ts => by simp only [Nd.turns, Nd.sizes, Nd.turn_size o t, Nd.turns_size o ts]
end

theorem norms_append (l m : List Nd) : Nd.norms (l ++ m) = Nd.norms l ++ Nd.norms m := by simp only [Nd.norms_eq, List.map_append]
theorem chosen_norm {ts : List Nd} (h : brns ts) : (chosen ts).norm = onlyOf (Nd.norms ts) (.alt (Nd.norms ts)) := by
  rw [chosen_brns h]
  match ts with
  | [] => rfl
  | [x] => rfl
  | x :: y :: r => rfl
theorem chosen_norm_arm {ts : List Nd} (h : brns ts) (hne : ts ≠ []) : (chosen ts).norm.arm = Nd.norms ts := by
  rw [chosen_norm h]
  match ts, hne with
  | [x], _ =>
    have hx := h x (by simp)
    show Nd.arm x.norm = [x.norm]
    cases x <;> first | rfl | cases hx
  | x :: y :: r, _ => rfl
/-- What two regexes with a bar between are, as the document has it. -/
theorem two_norm {ta tb : List Nd} {o : Int} (ha : brns ta) (hb : brns tb) (na : ta ≠ []) (nb : tb ≠ []) :
    (chosen (ta ++ Nd.turns o tb)).norm = (chooseT [(chosen ta).rf, (chosen tb).rf.turn o]).nd := by
  have hk : T.knowns [(chosen ta).rf, (chosen tb).rf.turn o] = true := by simp only [T.knowns, T.turn_known, Nd.rf_known, Bool.and_self]
  rw [← chosen_nd hk]
  simp only [T.nds, T.turn_nd, Nd.rf_nd]
  have hb2 := brns_turns (o := o) hb
  have nb2 : Nd.turns o tb ≠ [] := by rw [Nd.turns_eq]; simpa using nb
  rw [← Nd.turn_norm, ← chosen_turn hb, chosen_norm (fun x hx => (List.mem_append.1 hx).elim (ha x) (hb2 x)), norms_append]
  unfold chosen
  rw [two_arms]
  have h1 := chosen_norm_arm ha na
  have h2 := chosen_norm_arm hb2 nb2
  unfold chosen at h1 h2
  rw [h1, h2]

/-! ### Numbers of groups are small -/
mutual
def Nd.small : Nd → Prop
  | .cat l => Nd.smalls l
  | .alt l => Nd.smalls l
  | .rep x _ _ => x.small
  | .group n x => 0 ≤ n ∧ n ≤ 1000 ∧ x.small
  | .nil => True
  | .empty => True
  | .one _ => True
  | .back _ => True
  | .start => True
  | .fin => True
def Nd.smalls : List Nd → Prop
  | [] => True
  | t :: ts => t.small ∧ Nd.smalls ts
end
theorem smalls_snoc {l : List Nd} {t : Nd} (h : Nd.smalls l) (ht : t.small) : Nd.smalls (l ++ [t]) := by
  induction l with
  | nil => exact ⟨ht, trivial⟩
  | cons a r ih => exact ⟨h.1, ih h.2⟩
theorem only_small {l : List Nd} {n : Nd} (h : Nd.smalls l) (hn : n.small) : (onlyOf l n).small := by
  match l, h with
  | [], _ => trivial
  | [x], h => exact h.1
  | x :: y :: r, _ => exact hn
theorem joined_small {ps : List Nd} (hu : units ps) (h : Nd.smalls ps) : (joined ps).small := by rw [joined_units hu]; exact only_small h h
theorem chosen_small {ts : List Nd} (hu : brns ts) (h : Nd.smalls ts) : (chosen ts).small := by rw [chosen_brns hu]; exact only_small h h
theorem repS_small {l : List UInt8} : ∀ (n : Nat) (s : RxS) (t t' : Nd) (s' : RxS), t.small → repS prg l n s t = .inr (t', s') → t'.small
  | 0, s, t, t', s', ht, h => by rw [repS] at h; injection h with h; injection h with h1 h2; subst h1; exact ht
  | n + 1, s, t, t', s', ht, h => by
    rw [repS] at h
    split at h
    · exact repS_small n _ (.rep t 1 (-1)) _ _ ht h
    · split at h
      · exact repS_small n _ (.rep t 0 1) _ _ ht h
      · split at h
        · split at h
          · cases h
          · exact repS_small n _ (.rep t _ _) _ _ ht h
        · split at h
          · exact repS_small n _ (.rep t 0 (-1)) _ _ ht h
          · injection h with h; injection h with h1 h2; subst h1; exact ht
def SmallC (l : List UInt8) (C : Option (RxS → Out Nd)) : Prop := ∀ f, C = some f → ∀ s t s', Sane l s → f s = .inr (t, s') → t.small
section
variable {l : List UInt8} {C : Option (RxS → Out Nd)} (hl : l.length ≤ 900) (hK : ∀ f, C = some f → KeptZ l 2 f) (hC : SmallC l C)
include hl hK hC
theorem groupS_small {p : Nat} {s s' : RxS} {t : Nd} (hs : Sane l s) (ho : s.opened < s.at_) (h : groupS prg l C p s = .inr (t, s')) : t.small := by
  unfold groupS at h
  cases C with
  | none => cases h
  | some f =>
    simp only at h
    cases hf : f { s with opened := s.opened + 1 } with
    | inl e => rw [hf] at h; cases h
    | inr z =>
      obtain ⟨t1, s1⟩ := z
      rw [hf] at h
      simp only at h
      split at h
      · injection h with h; injection h with h1 h2; subst h1
        have hle := hs.le
        exact ⟨by omega, by omega, hC f rfl { s with opened := s.opened + 1 } _ _ ⟨hs.le, hs.mr, hs.cl, ho⟩ hf⟩
      · cases h
theorem rndS_small {s s' : RxS} {t : Nd} (hs : Sane l s) (ha : s.at_ < l.length) (h : rndS l C s l[s.at_] = .inr (t, s')) : t.small := by
  unfold rndS at h
  cases hp : atomS prg l C s l[s.at_] with
  | inl z => rw [hp] at h; cases h
  | inr y =>
    obtain ⟨t1, s1⟩ := y
    rw [hp] at h
    simp only at h
    refine repS_small _ _ _ _ _ ?_ h
    obtain ⟨x, hx⟩ : ∃ x, l[s.at_] = x := ⟨_, rfl⟩
    rw [hx] at hp
    unfold atomS at hp
    split at hp
    · unfold escS at hp
      cases hn : l[s.at_ + 1]? with
      | none => rw [hn] at hp; cases hp
      | some b =>
        have hlt := (List.getElem?_eq_some_iff.1 hn).1
        rw [hn] at hp
        simp only at hp
        have hop := hs.op
        split at hp
        · exact groupS_small hl hK hC (hs.go (n := 2) (by omega)) (by show s.opened < s.at_ + 2; omega) hp
        · split at hp
          · cases hp
          · split at hp
            · split at hp
              · injection hp with hp; injection hp with h1 h2; subst h1; trivial
              · cases hp
            · split at hp
              · cases hp
              · injection hp with hp; injection hp with h1 h2; subst h1; trivial
    · split at hp
      · split at hp
        · cases hp
        · injection hp with hp; injection hp with h1 h2; subst h1; trivial
      · split at hp
        · injection hp with hp; injection hp with h1 h2; subst h1; trivial
        · injection hp with hp; injection hp with h1 h2; subst h1; trivial
theorem brS_small {inner : Bool} : ∀ (n : Nat) (front : Bool) (s : RxS) (ps : List Nd) (t : Nd) (s' : RxS), Sane l s → units ps → Nd.smalls ps → brS prg l C inner n front s ps = .inr (t, s') → t.small
  | 0, front, s, ps, t, s', hs, hu, hd, h => by rw [brS] at h; injection h with h; injection h with h1 h2; subst h1; exact joined_small hu hd
  | n + 1, front, s, ps, t, s', hs, hu, hd, h => by
    by_cases ha : s.at_ < l.length
    · cases h1 : (ahd l s.at_ [92, 124] || (inner && ahd l s.at_ [92, 41])) with
      | true => rw [brS_stop ha h1] at h; injection h with h; injection h with h1 h2; subst h1; exact joined_small hu hd
      | false =>
        cases h2 : (front && (ahd l s.at_ [92, 123] || (ahd l s.at_ [92, 43] || ahd l s.at_ [92, 63]))) with
        | true => rw [brS_bad ha h1 h2] at h; cases h
        | false =>
          cases h3 : (ahd l s.at_ [36] && lastS l s.at_) with
          | true => rw [brS_fin ha h1 h2 h3] at h; exact brS_small n _ _ _ _ _ (hs.go (n := 1) (by omega)) (hu.snoc (by rfl)) (smalls_snoc (t := .fin) hd trivial) h
          | false =>
            rw [brS_go ha h1 h2 h3] at h
            cases hr : rndS l C s l[s.at_] with
            | inl e => rw [hr] at h; cases h
            | inr z =>
              obtain ⟨t1, s1⟩ := z
              rw [hr] at h
              exact brS_small n _ _ _ _ _ (rndS_kept hK hs ha hr).1 (hu.snoc (rndS_unit hr)) (smalls_snoc hd (rndS_small hl hK hC hs ha hr)) h
    · rw [brS_over (by omega)] at h; injection h with h; injection h with h1 h2; subst h1; exact joined_small hu hd
theorem branchS_small {inner : Bool} {s s' : RxS} {t : Nd} (hs : Sane l s) (h : branchS prg l C inner s = .inr (t, s')) : t.small := by
  unfold branchS at h
  split at h
  · next ha =>
    have hle := ahd_le ha (by decide)
    simp only [List.length_singleton] at hle
    exact brS_small hl hK hC _ _ _ _ _ _ (hs.go hle) (fun x hx => by rw [List.mem_singleton.1 hx]; rfl) (show Nd.smalls [.start] from ⟨trivial, trivial⟩) h
  · exact brS_small hl hK hC _ _ _ _ _ _ hs (fun x hx => by cases hx) (show Nd.smalls [] from trivial) h
theorem chLoop_small {inner : Bool} : ∀ (n : Nat) (s : RxS) (ts : List Nd) (t : Nd) (s' : RxS), Sane l s → brns ts → Nd.smalls ts → chLoop prg l C inner n s ts = .inr (t, s') → t.small
  | 0, s, ts, t, s', hs, hu, hd, h => by rw [chLoop] at h; injection h with h; injection h with h1 h2; subst h1; exact chosen_small hu hd
  | n + 1, s, ts, t, s', hs, hu, hd, h => by
    rw [chLoop] at h
    split at h
    · next ha =>
      have hle := ahd_le ha (by decide)
      simp only [List.length_cons, List.length_nil] at hle
      have hs2 := hs.markgo [92, 124] (n := 2) (by omega) hle
      cases hb : branchS prg l C inner ((s.mark [92, 124]).go 2) with
      | inl e => rw [hb] at h; cases h
      | inr z =>
        obtain ⟨t1, s1⟩ := z
        rw [hb] at h
        exact chLoop_small n _ _ _ _ (branchS_kept hK _ hs2 _ _ hb).1 (hu.snoc (branchS_brn hb)) (smalls_snoc hd (branchS_small hl hK hC hs2 hb)) h
    · injection h with h; injection h with h1 h2; subst h1; exact chosen_small hu hd
theorem choiceS_small {inner : Bool} {s s' : RxS} {t : Nd} (hs : Sane l s) (h : choiceS prg l C inner s = .inr (t, s')) : t.small := by
  unfold choiceS at h
  cases hb : branchS prg l C inner s with
  | inl e => rw [hb] at h; cases h
  | inr z =>
    obtain ⟨t1, s1⟩ := z
    rw [hb] at h
    exact chLoop_small hl hK hC _ _ _ _ _ (branchS_kept hK _ hs _ _ hb).1 (fun x hx => by rw [List.mem_singleton.1 hx]; exact branchS_brn hb) (show Nd.smalls [t1] from ⟨branchS_small hl hK hC hs hb, trivial⟩) h
end
theorem lev_small {l : List UInt8} (hl : l.length ≤ 900) : ∀ n, SmallC l (lev l n)
  | 0 => fun f h => by cases h
  | n + 1 => fun f h s t s' hs e => by
    injection h with h; subst h
    rw [chS_lev] at e
    exact choiceS_small hl (lev_kept l n) (lev_small hl n) hs e
theorem parse_small {l : List UInt8} {t : Nd} {s : RxS} (h : parseS prg l = .inr (t, s)) : t.small := by
  have hl : l.length ≤ 250 := by
    by_cases hl : l.length ≤ 250
    · exact hl
    · unfold parseS at h; rw [if_pos (by omega)] at h; cases h
  rw [parseS_in hl] at h
  exact choiceS_small (by omega) (lev_kept l 12) (lev_small (by omega) 12) (sane_init l) h
theorem parse_size {l : List UInt8} {t : Nd} {s : RxS} (h : parseS prg l = .inr (t, s)) : t.size ≤ 300 ∧ s.marks.length ≤ 250 ∧ l.length ≤ 250 := by
  have hl : l.length ≤ 250 := by
    by_cases hl : l.length ≤ 250
    · exact hl
    · unfold parseS at h; rw [if_pos (by omega)] at h; cases h
  rw [parseS_in hl] at h
  obtain ⟨k1, k2, k3⟩ := choiceS_kept (lev_kept l 12) _ (sane_init l) _ _ h
  have h1 := k1.le
  have h2 := k1.mr
  have h3 : t.size + 0 ≤ s.at_ + 2 := k3
  exact ⟨by omega, by omega, hl⟩

/-! So are the document's. -/
mutual
def T.small : T → Prop
  | .mk k _ ps _ _ nu => (k = 5 → 0 ≤ nu ∧ nu ≤ 1000) ∧ T.smalls ps
def T.smalls : List T → Prop
  | [] => True
  | t :: ts => t.small ∧ T.smalls ts
end
theorem T.smalls_mem {l : List T} (h : T.smalls l) : ∀ t ∈ l, t.small := by
  induction l with
  | nil => intro t ht; cases ht
  | cons a r ih => intro t ht; rcases List.mem_cons.1 ht with rfl | ht; exact h.1; exact ih h.2 t ht
mutual
theorem Nd.rf_small : ∀ n : Nd, n.small → n.rf.small
  | .nil, _ | .empty, _ | .one _, _ | .back _, _ | .start, _ | .fin, _ => by simp [Nd.rf, T.zero, T.small, T.smalls]
  | .cat l, h => by simp only [Nd.rf, T.small]; exact ⟨fun e => absurd e (by decide), Nd.rfs_small l h⟩
  | .alt l, h => by simp only [Nd.rf, T.small]; exact ⟨fun e => absurd e (by decide), Nd.rfs_small l h⟩
  | .rep x _ _, h => by simp only [Nd.rf, T.small]; exact ⟨fun e => absurd e (by decide), Nd.rf_small x h, trivial⟩
  | .group n x, h => by simp only [Nd.rf, T.small]; exact ⟨fun _ => ⟨h.1, h.2.1⟩, Nd.rf_small x h.2.2, trivial⟩
theorem Nd.rfs_small : ∀ l : List Nd, Nd.smalls l → T.smalls (Nd.rfs l)
  | [], _ => trivial
  | t :: ts, h => ⟨Nd.rf_small t h.1, Nd.rfs_small ts h.2⟩
end
end Go.Proofs.YtepeomphikhbkaaDoor

/-
  An extended regex in plain words: the same reading within a text. No walk.
-/
namespace Go.Proofs.YtepeomphikhbkaaDoor
open Go.RowKit

/-! ### The reading by the byte at the place -/
section
variable {l : List UInt8} {C : Option (RxS → Out Nd)} {s : RxS} {t : Nd} {n : Nat}
theorem repD_T : repD prg true l (n + 1) s t = if l[s.at_]? = some 42 then repD prg true l n (s.go 1) (.rep t 0 (-1)) else if l[s.at_]? = some 43 then repD prg true l n (s.go 1) (.rep t 1 (-1)) else if l[s.at_]? = some 63 then repD prg true l n (s.go 1) (.rep t 0 1)
    else if l[s.at_]? = some 123 then (match ditv l true (s.at_ + 1) with | none => .inl (7, s.at_) | some (m, x, k) => repD prg true l n (s.to k) (.rep t m x)) else .inr (t, s) := by
  rw [repD]
  simp only [opB_ere, sgn_get (show (42 : UInt8) ≠ 92 by decide), sgn_get (show (43 : UInt8) ≠ 92 by decide), sgn_get (show (63 : UInt8) ≠ 92 by decide), sgn_get (show (123 : UInt8) ≠ 92 by decide), decide_eq_true_eq, if_true, List.length_singleton]
  rfl
theorem atomD_T {c : UInt8} (h : l[s.at_]? = some c) : atomD prg true l C s = if c = 40 then groupD prg true l C s else if c = 41 then .inl (8, s.at_)
    else if c = 92 then (match l[s.at_ + 1]? with | none => .inl (11, s.at_) | some b => escD prg true s b)
    else if c = 91 then (match prs l (s.at_ + 1) with | .inl (e, p) => .inl (e, p) | .inr (S, k) => .inr (.one S, s.to k))
    else if c = 46 then .inr (.one (spn 0 255), s.go 1) else .inr (.one (spn c.toNat c.toNat), s.go 1) := by
  have hs : ∀ b : UInt8, b ≠ 92 → (sgn l s.at_ == [b]) = decide (c = b) := fun b hb => by rw [sgn_get hb, h]; simp
  unfold atomD
  simp only [opB_ere, hs 40 (by decide), hs 41 (by decide), hs 91 (by decide), hs 46 (by decide), decide_eq_true_eq]
  by_cases h40 : c = 40
  · simp only [h40, if_true]
  · simp only [if_neg h40]
    by_cases h41 : c = 41
    · simp only [h41, if_true]
    · simp only [if_neg h41]
      by_cases h92 : c = 92
      · subst h92
        simp only [show ¬ (92 : UInt8) = 91 by decide, show ¬ (92 : UInt8) = 46 by decide, if_false, if_true]
        cases h2 : l[s.at_ + 1]? with
        | none =>
          have hsg : sgn l s.at_ = [92] := by unfold sgn; rw [h]; simp only [if_true, h2]
          rw [hsg]; rfl
        | some b =>
          have hsg : sgn l s.at_ = [92, b] := by unfold sgn; rw [h]; simp only [if_true, h2]
          rw [hsg]
          have : ([92, b] == [(92 : UInt8)]) = false := by simp
          simp only [this, Bool.false_eq_true, if_false]
      · simp only [if_neg h92]
        have hsg : sgn l s.at_ = [c] := by unfold sgn; rw [h]; simp only [if_neg h92]
        rw [hsg]
        by_cases h91 : c = 91
        · simp only [h91, if_true]; rfl
        · simp only [if_neg h91]
          by_cases h46 : c = 46
          · simp only [h46, if_true]; rfl
          · have : ([c] == [(92 : UInt8)]) = false := by simp [h92]
            simp only [if_neg h46, this, Bool.false_eq_true, if_false]
            rfl
theorem groupD_T : groupD prg true l C s = match C with
    | none => .inl (4, s.at_)
    | some f => match f { s.go 1 with opened := s.opened + 1 } with
      | .inl e => .inl e
      | .inr (t, s') => if l[s'.at_]? = some 41 then .inr (.group ((s.opened + 1 : Nat) : Int) t, { s'.go 1 with closed := s'.closed ++ [s.opened + 1] }) else .inl (8, s.at_) := by
  unfold groupD
  cases C with
  | none => rfl
  | some f =>
    simp only [opB_ere, List.length_singleton, sgn_get (show (41 : UInt8) ≠ 92 by decide), decide_eq_true_eq]
    cases f { s.go 1 with opened := s.opened + 1 } with
    | inl e => rfl
    | inr z => rfl
variable {inner first front : Bool} {ps : List Nd}
theorem brD_none (h : l[s.at_]? = none) : brD prg true l C inner (n + 1) first front s ps = .inr (joined ps, s) := by
  have hsg : sgn l s.at_ = [] := by unfold sgn; rw [h]
  rw [brD]
  simp only [hsg, beq_self_eq_true, Bool.true_or, if_true]; rfl
theorem brD_some {c : UInt8} (h : l[s.at_]? = some c) : brD prg true l C inner (n + 1) first front s ps = if (c = 41 ∧ inner = true) ∨ c = 124 then .inr (joined ps, s) else if c = 94 then brD prg true l C inner n false true (s.go 1) (ps ++ [.start])
    else if c = 36 then brD prg true l C inner n false true (s.go 1) (ps ++ [.fin]) else if front = true ∧ (c = 123 ∨ c = 43 ∨ c = 63 ∨ c = 42) then .inl (10, s.at_)
    else match atomD prg true l C s with
      | .inl e => .inl e
      | .inr (t, s1) => match repD prg true l (l.length + 1) s1 t with
        | .inl e => .inl e
        | .inr (t, s2) => brD prg true l C inner n false false s2 (ps ++ [t]) := by
  have hs : ∀ b : UInt8, b ≠ 92 → (sgn l s.at_ == [b]) = decide (c = b) := fun b hb => by rw [sgn_get hb, h]; simp
  have hne : (sgn l s.at_ == []) = false := by rw [sgn_nil]; have := getE_lt h; simp; omega
  rw [brD]
  simp only [opB_ere, Bool.true_or, Bool.and_true, Bool.true_and, hs 124 (by decide), hs 41 (by decide), hs 94 (by decide), hs 36 (by decide), hs 123 (by decide), hs 43 (by decide), hs 63 (by decide), hs 42 (by decide), hne, Bool.false_or, Bool.or_eq_true, Bool.and_eq_true, decide_eq_true_eq]
  by_cases h1 : (c = 41 ∧ inner = true) ∨ c = 124
  · rw [if_pos h1, if_pos h1.symm]; rfl
  · rw [if_neg h1, if_neg (fun h => h1 h.symm)]
    cases atomD prg true l C s with
    | inl e => rfl
    | inr z =>
      simp only
      cases repD prg true l (l.length + 1) z.2 z.1 with
      | inl e => rfl
      | inr y => rfl
theorem chLoopD_T {ts : List Nd} : chLoopD prg true l C inner (n + 1) s ts = if l[s.at_]? = some 124 then (match branchD prg true l C inner (s.go 1) with | .inl e => .inl e | .inr (t, s') => chLoopD prg true l C inner n s' (ts ++ [t])) else .inr (chosen ts, s) := by
  rw [chLoopD]
  simp only [opB_ere, sgn_get (show (124 : UInt8) ≠ 92 by decide), decide_eq_true_eq, if_true, List.length_singleton]
  cases branchD prg true l C inner (s.go 1) with
  | inl e => rfl
  | inr z => rfl
end

/-! ### What the parts are -/
section
variable {l : List UInt8} {C : Option (RxS → Out Nd)}
theorem repD_unit : ∀ (n : Nat) (s : RxS) (t t' : Nd) (s' : RxS), t.unit = true → repD prg true l n s t = .inr (t', s') → t'.unit = true
  | 0, s, t, t', s', ht, h => by rw [repD] at h; injection h with h; injection h with h1 h2; subst h1; exact ht
  | n + 1, s, t, t', s', ht, h => by
    rw [repD_T] at h
    split at h
    · exact repD_unit n _ _ _ _ rfl h
    · split at h
      · exact repD_unit n _ _ _ _ rfl h
      · split at h
        · exact repD_unit n _ _ _ _ rfl h
        · split at h
          · split at h
            · cases h
            · exact repD_unit n _ _ _ _ rfl h
          · injection h with h; injection h with h1 h2; subst h1; exact ht
theorem atomD_unit {s s' : RxS} {t : Nd} {c : UInt8} (hc : l[s.at_]? = some c) (h : atomD prg true l C s = .inr (t, s')) : t.unit = true := by
  rw [atomD_T hc] at h
  split at h
  · rw [groupD_T] at h
    cases C with
    | none => cases h
    | some f =>
      simp only at h
      split at h
      · cases h
      · split at h
        · injection h with h; injection h with h1 h2; subst h1; rfl
        · cases h
  · split at h
    · cases h
    · split at h
      · split at h
        · cases h
        · unfold escD at h
          split at h
          · split at h
            · injection h with h; injection h with h1 h2; subst h1; rfl
            · cases h
          · split at h
            · cases h
            · injection h with h; injection h with h1 h2; subst h1; rfl
      · split at h
        · split at h
          · cases h
          · injection h with h; injection h with h1 h2; subst h1; rfl
        · split at h <;> (injection h with h; injection h with h1 h2; subst h1; rfl)
theorem brD_brn {inner : Bool} : ∀ (n : Nat) (first front : Bool) (s : RxS) (ps : List Nd) (t : Nd) (s' : RxS), units ps → brD prg true l C inner n first front s ps = .inr (t, s') → t.brn
  | 0, first, front, s, ps, t, s', hu, h => by rw [brD] at h; injection h with h; injection h with h1 h2; subst h1; exact joined_brn hu
  | n + 1, first, front, s, ps, t, s', hu, h => by
    cases hc : l[s.at_]? with
    | none => rw [brD_none hc] at h; injection h with h; injection h with h1 h2; subst h1; exact joined_brn hu
    | some c =>
      rw [brD_some hc] at h
      split at h
      · injection h with h; injection h with h1 h2; subst h1; exact joined_brn hu
      · split at h
        · exact brD_brn n _ _ _ _ _ _ (hu.snoc rfl) h
        · split at h
          · exact brD_brn n _ _ _ _ _ _ (hu.snoc rfl) h
          · split at h
            · cases h
            · cases ha : atomD prg true l C s with
              | inl e => rw [ha] at h; cases h
              | inr z =>
                obtain ⟨t1, s1⟩ := z
                rw [ha] at h
                simp only at h
                cases hr : repD prg true l (l.length + 1) s1 t1 with
                | inl e => rw [hr] at h; cases h
                | inr z =>
                  obtain ⟨t2, s2⟩ := z
                  rw [hr] at h
                  exact brD_brn n _ _ _ _ _ _ (hu.snoc (repD_unit _ _ _ _ _ (atomD_unit hc ha) hr)) h
theorem branchD_brn {inner : Bool} {s s' : RxS} {t : Nd} (h : branchD prg true l C inner s = .inr (t, s')) : t.brn := brD_brn _ _ _ _ _ _ _ (fun x hx => by cases hx) h
theorem repD_same : ∀ (n : Nat) (s : RxS) (t t' : Nd) (s' : RxS), repD prg true l n s t = .inr (t', s') → t'.backs = t.backs ∧ t'.deep = t.deep
  | 0, s, t, t', s', h => by rw [repD] at h; injection h with h; injection h with h1 h2; subst h1; exact ⟨rfl, rfl⟩
  | n + 1, s, t, t', s', h => by
    rw [repD_T] at h
    split at h
    · (have := repD_same n _ _ _ _ h; simpa [Nd.backs, Nd.deep] using this)
    · split at h
      · (have := repD_same n _ _ _ _ h; simpa [Nd.backs, Nd.deep] using this)
      · split at h
        · (have := repD_same n _ _ _ _ h; simpa [Nd.backs, Nd.deep] using this)
        · split at h
          · split at h
            · cases h
            · (have := repD_same n _ _ _ _ h; simpa [Nd.backs, Nd.deep] using this)
          · injection h with h; injection h with h1 h2; subst h1; exact ⟨rfl, rfl⟩
end

/-! ### A text within another -/
theorem dnum_bdE (l : List UInt8) (k : Nat) (h : k ≤ l.length) : k + (dnum l k).2 ≤ l.length := by
  have hb := num3_bd l k h
  unfold dnum
  split
  · exact h
  · exact hb.2.2
/-- What may stand behind. -/
def TailE (q : List UInt8) : Prop := q = [] ∨ (∃ r, q = 41 :: r) ∨ ∃ r, q = 124 :: r
section
variable {p l q : List UInt8}
theorem ce_get {k : Nat} (hk : k < l.length) : (p ++ (l ++ q))[p.length + k]? = l[k]? := by
  rw [get_sh, List.getElem?_append_left hk]
theorem ce_end : (p ++ (l ++ q))[p.length + l.length]? = q[0]? := by
  rw [get_sh, List.getElem?_append_right (Nat.le_refl _), Nat.sub_self]
theorem ce_iff (hq : TailE q) {k : Nat} {c : UInt8} (hk : k ≤ l.length) (h : k < l.length ∨ (c ≠ 41 ∧ c ≠ 124)) : ((p ++ (l ++ q))[p.length + k]? = some c) = (l[k]? = some c) := by
  by_cases hlt : k < l.length
  · rw [ce_get hlt]
  · obtain ⟨h1, h2⟩ := h.resolve_left hlt
    obtain rfl : k = l.length := by omega
    rw [ce_end]
    rcases hq with rfl | ⟨r, rfl⟩ | ⟨r, rfl⟩ <;> simp [Ne.symm h1, Ne.symm h2]
theorem ce_drop {k : Nat} (hk : k ≤ l.length) : (p ++ (l ++ q)).drop (p.length + k) = l.drop k ++ q := by
  rw [drop_sh, List.drop_append_of_le_length hk]
theorem ce_num (hq : TailE q) : ∀ (r : List UInt8) (c n : Nat), num3 (r ++ q) c n = num3 r c n
  | [], c, n => by
    rcases hq with rfl | ⟨r, rfl⟩ | ⟨r, rfl⟩
    · rfl
    · rw [List.nil_append]; show num3 (41 :: _) c n = (n, c); rw [num3, if_neg (fun h => by have := h.1; simp at this)]
    · rw [List.nil_append]; show num3 (124 :: _) c n = (n, c); rw [num3, if_neg (fun h => by have := h.2.1; simp at this)]
  | x :: r, c, n => by
    rw [List.cons_append, num3, num3]
    split
    · exact ce_num hq r _ _
    · rfl
theorem ce_dnum (hq : TailE q) {k : Nat} (hk : k ≤ l.length) : dnum (p ++ (l ++ q)) (p.length + k) = dnum l k := by
  unfold dnum; rw [ce_drop hk, ce_num hq]
theorem ce_ahd (hq : TailE q) {k : Nat} {c : UInt8} (hk : k ≤ l.length) (hc : c ≠ 92) (h : c ≠ 41 ∧ c ≠ 124) : ahd (p ++ (l ++ q)) (p.length + k) [c] = ahd l k [c] := by
  rw [ahd_get hc, ahd_get hc]
  congr 1
  exact ce_iff hq hk (.inr h)
theorem ce_itv (hq : TailE q) {m0 x0 : Int} {j k : Nat} (hk : k ≤ l.length) (h : ditv l true k = some (m0, x0, j)) : ditv (p ++ (l ++ q)) true (p.length + k) = some (m0, x0, p.length + j) := by
  obtain ⟨m, c, hM⟩ : ∃ m c, dnum l k = (m, c) := ⟨_, _, rfl⟩
  have hb := dnum_bdE l k hk
  rw [hM] at hb
  have hb3 : k + c ≤ l.length := hb
  have hM' : dnum (p ++ (l ++ q)) (p.length + k) = (m, c) := by rw [ce_dnum hq hk, hM]
  unfold ditv at h ⊢
  rw [hM] at h
  rw [hM']
  simp only [opB_ere] at h ⊢
  by_cases hc : c = 0
  · rw [if_pos hc] at h; cases h
  · rw [if_neg hc] at h ⊢
    have a1 : ahd (p ++ (l ++ q)) (p.length + k + c) [44] = ahd l (k + c) [44] := by rw [Nat.add_assoc]; exact ce_ahd hq hb3 (by decide) (by decide)
    rw [a1]
    cases ha : ahd l (k + c) [44] with
    | false =>
      rw [ha] at h
      simp only [Bool.false_eq_true, if_false] at h ⊢
      have a2 : ahd (p ++ (l ++ q)) (p.length + k + c) [125] = ahd l (k + c) [125] := by rw [Nat.add_assoc]; exact ce_ahd hq hb3 (by decide) (by decide)
      rw [a2]
      split at h
      · cases h
      · next hn => rw [if_neg hn]; injection h with h; injection h with h1 h2; injection h2 with h2 h3; subst h1; subst h2; subst h3; simp only [Nat.add_assoc]
    | true =>
      rw [ha] at h
      simp only [if_true] at h ⊢
      have hle := ahd_le ha (by decide)
      simp only [List.length_singleton] at hle
      have hX' : dnum (p ++ (l ++ q)) (p.length + k + c + 1) = dnum l (k + c + 1) := by rw [show p.length + k + c + 1 = p.length + (k + c + 1) from by omega]; exact ce_dnum hq hle
      rw [hX']
      have hb4 := dnum_bdE l (k + c + 1) hle
      obtain ⟨D, hD⟩ : ∃ D, (if 0 < (dnum l (k + c + 1)).2 then (dnum l (k + c + 1)).2 else 0) = D := ⟨_, rfl⟩
      have hDle : k + c + 1 + D ≤ l.length := by rw [← hD]; split <;> omega
      rw [hD] at h ⊢
      obtain ⟨X, hXX⟩ : ∃ X : Int, (if 0 < (dnum l (k + c + 1)).2 then ((dnum l (k + c + 1)).1 : Int) else -1) = X := ⟨_, rfl⟩
      rw [hXX] at h ⊢
      have a2 : ahd (p ++ (l ++ q)) (p.length + k + c + 1 + D) [125] = ahd l (k + c + 1 + D) [125] := by rw [show p.length + k + c + 1 + D = p.length + (k + c + 1 + D) from by omega]; exact ce_ahd hq hDle (by decide) (by decide)
      rw [a2]
      split at h
      · cases h
      · next hn => rw [if_neg hn]; injection h with h; injection h with h1 h2; injection h2 with h2 h3; subst h1; subst h2; subst h3; simp only [Nat.add_assoc]
end
end Go.Proofs.YtepeomphikhbkaaDoor
