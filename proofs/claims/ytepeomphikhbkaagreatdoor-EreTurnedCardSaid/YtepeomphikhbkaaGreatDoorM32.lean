/-
  Merged texts of this claim: BreX.
-/
import Derived.Test.YtepeomphikhbkaaGreatDoorM31

/-
  A basic regex in plain words: two with a bar between. No walk.
-/
namespace Go.Proofs.YtepeomphikhbkaaGreatDoor
open Go.RowKit

/-! ### How deep -/
def DC (C : Option (RxS → Out Nd)) (d : Nat) : Prop := ∀ f, C = some f → ∀ s t s', f s = .inr (t, s') → t.deep + 1 ≤ d
section
variable {l : List UInt8} {C : Option (RxS → Out Nd)} {d : Nat} (hC : DC C d)
include hC
theorem groupS_deep {p : Nat} {s s' : RxS} {t : Nd} (h : groupS prg l C p s = .inr (t, s')) : t.deep ≤ d := by
  unfold groupS at h
  cases C with
  | none => cases h
  | some f =>
    simp only at h
    cases hf : f { s with opened := s.opened + 1 } with
    | inl e => rw [hf] at h; cases h
    | inr z =>
      obtain ⟨t1, s1⟩ := z
      rw [hf] at h
      simp only at h
      split at h
      · injection h with h; injection h with h1 h2; subst h1
        have := hC f rfl _ _ _ hf
        show Nd.deep (.group _ t1) ≤ d
        rw [Nd.deep]; omega
      · cases h
theorem rndS_deep {b : UInt8} {s s' : RxS} {t : Nd} (h : rndS l C s b = .inr (t, s')) : t.deep ≤ d := by
  unfold rndS at h
  cases hp : atomS prg l C s b with
  | inl z => rw [hp] at h; cases h
  | inr y =>
    obtain ⟨t1, s1⟩ := y
    rw [hp] at h
    simp only at h
    rw [(repS_same _ _ _ _ _ h).2.1]
    unfold atomS at hp
    have hone : ∀ c, (prg.one c).deep ≤ d := fun c => Nat.zero_le _
    split at hp
    · unfold escS at hp
      split at hp
      · cases hp
      · split at hp
        · exact groupS_deep hC hp
        · split at hp
          · cases hp
          · split at hp
            · split at hp
              · injection hp with hp; injection hp with h1 h2; subst h1; exact Nat.zero_le _
              · cases hp
            · split at hp
              · cases hp
              · injection hp with hp; injection hp with h1 h2; subst h1; exact Nat.zero_le _
    · split at hp
      · split at hp
        · cases hp
        · injection hp with hp; injection hp with h1 h2; subst h1; exact Nat.zero_le _
      · split at hp
        · injection hp with hp; injection hp with h1 h2; subst h1; exact Nat.zero_le _
        · injection hp with hp; injection hp with h1 h2; subst h1; exact Nat.zero_le _
theorem brS_deep {inner : Bool} : ∀ (n : Nat) (front : Bool) (s : RxS) (ps : List Nd) (t : Nd) (s' : RxS), units ps → Nd.deeps ps ≤ d → brS prg l C inner n front s ps = .inr (t, s') → t.deep ≤ d
  | 0, front, s, ps, t, s', hu, hd, h => by rw [brS] at h; injection h with h; injection h with h1 h2; subst h1; show (joined ps).deep ≤ d; rw [joined_deep hu]; exact hd
  | n + 1, front, s, ps, t, s', hu, hd, h => by
    by_cases hl : s.at_ < l.length
    · cases h1 : (ahd l s.at_ [92, 124] || (inner && ahd l s.at_ [92, 41])) with
      | true => rw [brS_stop hl h1] at h; injection h with h; injection h with h1 h2; subst h1; rw [joined_deep hu]; exact hd
      | false =>
        cases h2 : (front && (ahd l s.at_ [92, 123] || (ahd l s.at_ [92, 43] || ahd l s.at_ [92, 63]))) with
        | true => rw [brS_bad hl h1 h2] at h; cases h
        | false =>
          cases h3 : (ahd l s.at_ [36] && lastS l s.at_) with
          | true => rw [brS_fin hl h1 h2 h3] at h; exact brS_deep n _ _ _ _ _ (hu.snoc (by rfl)) (by rw [deeps_snoc]; exact Nat.max_le.2 ⟨hd, Nat.zero_le _⟩) h
          | false =>
            rw [brS_go hl h1 h2 h3] at h
            cases hr : rndS l C s l[s.at_] with
            | inl e => rw [hr] at h; cases h
            | inr z =>
              obtain ⟨t1, s1⟩ := z
              rw [hr] at h
              exact brS_deep n _ _ _ _ _ (hu.snoc (rndS_unit hr)) (by rw [deeps_snoc]; exact Nat.max_le.2 ⟨hd, rndS_deep hC hr⟩) h
    · rw [brS_over (by omega)] at h; injection h with h; injection h with h1 h2; subst h1; rw [joined_deep hu]; exact hd
theorem branchS_deep {inner : Bool} {s s' : RxS} {t : Nd} (h : branchS prg l C inner s = .inr (t, s')) : t.deep ≤ d := by
  unfold branchS at h
  split at h
  · exact brS_deep hC _ _ _ _ _ _ (fun x hx => by rw [List.mem_singleton.1 hx]; rfl) (Nat.zero_le _) h
  · exact brS_deep hC _ _ _ _ _ _ (fun x hx => by cases hx) (Nat.zero_le _) h
theorem chLoop_deep {inner : Bool} : ∀ (n : Nat) (s : RxS) (ts : List Nd) (t : Nd) (s' : RxS), brns ts → Nd.deeps ts ≤ d → chLoop prg l C inner n s ts = .inr (t, s') → t.deep ≤ d
  | 0, s, ts, t, s', hu, hd, h => by rw [chLoop] at h; injection h with h; injection h with h1 h2; subst h1; show (chosen ts).deep ≤ d; rw [chosen_deep hu]; exact hd
  | n + 1, s, ts, t, s', hu, hd, h => by
    rw [chLoop] at h
    split at h
    · cases hb : branchS prg l C inner ((s.mark [92, 124]).go 2) with
      | inl e => rw [hb] at h; cases h
      | inr z =>
        obtain ⟨t1, s1⟩ := z
        rw [hb] at h
        exact chLoop_deep n _ _ _ _ (hu.snoc (branchS_brn hb)) (by rw [deeps_snoc]; exact Nat.max_le.2 ⟨hd, branchS_deep hC hb⟩) h
    · injection h with h; injection h with h1 h2; subst h1; show (chosen ts).deep ≤ d; rw [chosen_deep hu]; exact hd
theorem choiceS_deep {inner : Bool} {s s' : RxS} {t : Nd} (h : choiceS prg l C inner s = .inr (t, s')) : t.deep ≤ d := by
  unfold choiceS at h
  cases hb : branchS prg l C inner s with
  | inl e => rw [hb] at h; cases h
  | inr z =>
    obtain ⟨t1, s1⟩ := z
    rw [hb] at h
    exact chLoop_deep hC _ _ _ _ _ (fun x hx => by rw [List.mem_singleton.1 hx]; exact branchS_brn hb) (by have := branchS_deep hC hb; simp [Nd.deeps]; exact this) h
end
theorem lev_deep (l : List UInt8) : ∀ n, DC (lev l n) n
  | 0 => fun f h => by cases h
  | n + 1 => fun f h s t s' e => by
    injection h with h; subst h
    rw [chS_lev] at e
    have := choiceS_deep (lev_deep l n) e
    omega

/-! ### By nothing -/
mutual
theorem Nd.turn_zero : ∀ t : Nd, t.turn 0 = t
  | .cat l => by rw [Nd.turn, Nd.turns_zero l]
  | .alt l => by rw [Nd.turn, Nd.turns_zero l]
  | .rep x a b => by rw [Nd.turn, Nd.turn_zero x]
  | .group n x => by rw [Nd.turn, Nd.turn_zero x, Int.add_zero]
  | .nil | .empty | .one _ | .back _ | .start | .fin => rfl
theorem Nd.turns_zero : ∀ l : List Nd, Nd.turns 0 l = l
  | [] => rfl
  | t :: ts => by rw [Nd.turns, Nd.turn_zero t, Nd.turns_zero ts]
end
theorem sh_zero (s : RxS) : s.sh 0 0 [] [] = s := by
  unfold RxS.sh
  have h1 : s.closed.map (· + 0) = s.closed := by simp
  have h2 : (s.marks.map fun m => (0 + m.1, m.2)) = s.marks := by simp
  rw [h1, h2]; simp

/-- Two regexes with a bar between. -/
theorem parse_two {l r : List UInt8} (hl : l.length ≤ 120) (hr : r.length ≤ 120) {a b : Nd} {s1 s2 : RxS} (h1 : parseS prg l = .inr (a, s1)) (h2 : parseS prg r = .inr (b, s2)) (hb1 : a.backs = false) (hb2 : b.backs = false) :
    ∃ ta tb s3, a = chosen ta ∧ b = chosen tb ∧ brns ta ∧ brns tb ∧ ta ≠ [] ∧ tb ≠ [] ∧ parseS prg (l ++ ([92, 124] ++ r)) = .inr (chosen (ta ++ Nd.turns (a.groups : Nat) tb), s3) ∧
      s3.marks = s1.marks ++ (l.length, [92, 124]) :: s2.marks.map fun m => (l.length + 2 + m.1, m.2) := by
  rw [parseS_in (by omega)] at h1 h2
  have hat1 := choiceS_stops (lev_kept l 12) (sane_init l) h1
  have hat2 := choiceS_stops (lev_kept r 12) (sane_init r) h2
  obtain ⟨ks1, _, _⟩ := choiceS_kept (lev_kept l 12) _ (sane_init l) _ _ h1
  obtain ⟨ks2, _, _⟩ := choiceS_kept (lev_kept r 12) _ (sane_init r) _ _ h2
  have hd1 := choiceS_deep (lev_deep l 12) h1
  have hd2 := choiceS_deep (lev_deep r 12) h2
  have ho1 := choiceS_opens (lev_opens l 12) _ _ _ h1
  have ho1 : s1.opened = a.groups := by rw [ho1]; exact Nat.zero_add _
  have hq1 : Tail ([92, 124] ++ r) := .inr (.inr ⟨r, rfl⟩)
  have hq2 : Tail ([] : List UInt8) := .inl rfl
  have hE1 : Ends ([92, 124] ++ r) false := .inr (.inr ⟨r, rfl⟩)
  have hE2 : Ends ([] : List UInt8) false := .inl rfl
  obtain ⟨L, hL⟩ : ∃ L, L = l ++ ([92, 124] ++ r) := ⟨_, rfl⟩
  have hL1 : [] ++ (l ++ ([92, 124] ++ r)) = L := hL.symm
  have hL2 : (l ++ [92, 124]) ++ (r ++ []) = L := by rw [hL]; simp
  have hlen : L.length = l.length + 2 + r.length := by rw [hL]; simp; omega
  have hp2 : (l ++ [92, 124]).length = l.length + 2 := by simp
  have hS1 := sub_lev (p := []) (l := l) (q := [92, 124] ++ r) hq1 (o := 0) (c0 := []) (m0 := []) 12 12 12 (by omega) (by omega) (by omega) (by omega)
  have hS2 := sub_lev (p := l ++ [92, 124]) (l := r) (q := []) hq2 (o := s1.opened) (c0 := s1.closed) (m0 := s1.marks ++ [(l.length, [92, 124])]) 12 12 12 (by omega) (by omega) (by omega) (by omega)
  rw [hL1] at hS1
  rw [hL2] at hS2
  unfold choiceS at h1 h2
  cases e1 : branchS prg l (lev l 12) false RxS.init with
  | inl e => rw [e1] at h1; cases h1
  | inr z1 =>
  obtain ⟨u1, v1⟩ := z1
  rw [e1] at h1
  cases e2 : branchS prg r (lev r 12) false RxS.init with
  | inl e => rw [e2] at h2; cases h2
  | inr z2 =>
  obtain ⟨u2, v2⟩ := z2
  rw [e2] at h2
  simp only at h1 h2
  obtain ⟨kv1, _, _⟩ := branchS_kept (lev_kept l 12) _ (sane_init l) _ _ e1
  obtain ⟨kv2, _, _⟩ := branchS_kept (lev_kept r 12) _ (sane_init r) _ _ e2
  obtain ⟨ta, k1, ea, ba, ca, fa, xa, ya, _, _, _, na⟩ := cx_ch (p := []) (q := [92, 124] ++ r) (o := 0) (c0 := []) (m0 := []) (C' := lev L 12) hq1 hS1 (lev_kept l 12) (inner' := false) (.inl rfl) [] (l.length + 1) (L.length + 1) v1 [u1] a s1 (fun x hx => by rw [List.mem_singleton.1 hx]; exact branchS_brn e1) kv1 (by omega) (by rw [hL1]; simp; omega) (.inr hE1) h1 hb1 hd1
  rw [hL1] at ca fa
  have bu1 : u1.backs = false := by simpa [Nd.backss] using xa
  have du1 : u1.deep ≤ 12 := by simpa [Nd.deeps] using ya
  have cb1 := cx_branch (p := []) (q := [92, 124] ++ r) (o := 0) (c0 := []) (m0 := []) (C' := lev L 12) hq1 hS1 (lev_kept l 12) (inner' := false) (.inl rfl) (sane_init l) (.inr hE1) e1 bu1 du1
  rw [hL1] at cb1
  simp only [List.length_nil, sh_zero, Int.ofNat_zero, Nd.turn_zero, Nd.turns_zero, List.nil_append, Nat.zero_add, Int.natCast_zero] at ca cb1 fa
  obtain ⟨k2, rfl⟩ : ∃ k2, k1 = k2 + 1 := ⟨k1 - 1, by omega⟩
  obtain ⟨tb, k3, eb, bb, cb, fb, xb, yb, _, _, _, nb⟩ := cx_ch (p := l ++ [92, 124]) (q := []) (o := s1.opened) (c0 := s1.closed) (m0 := s1.marks ++ [(l.length, [92, 124])]) (C' := lev L 12) hq2 hS2 (lev_kept r 12) (inner' := false) (.inl rfl) ta (r.length + 1) k2 v2 [u2] b s2 (fun x hx => by rw [List.mem_singleton.1 hx]; exact branchS_brn e2) kv2 (by omega) (by rw [hL2]; have := kv2.le; omega) (.inr hE2) h2 hb2 hd2
  rw [hL2] at cb fb
  have bu2 : u2.backs = false := by simpa [Nd.backss] using xb
  have du2 : u2.deep ≤ 12 := by simpa [Nd.deeps] using yb
  have cb2 := cx_branch (p := l ++ [92, 124]) (q := []) (o := s1.opened) (c0 := s1.closed) (m0 := s1.marks ++ [(l.length, [92, 124])]) (C' := lev L 12) hq2 hS2 (lev_kept r 12) (inner' := false) (.inl rfl) (sane_init r) (.inr hE2) e2 bu2 du2
  rw [hL2] at cb2
  have hst : RxS.init.sh (l ++ [92, 124]).length s1.opened s1.closed (s1.marks ++ [(l.length, [92, 124])]) = (s1.mark [92, 124]).go 2 := by
    unfold RxS.sh RxS.init RxS.mark RxS.go
    simp [hat1]
  rw [hst] at cb2
  have hab : ahd L s1.at_ [92, 124] = true := by
    unfold ahd; rw [hat1, hL, List.drop_left']; rfl; rfl
  have hov : ∀ k, chLoop prg L (lev L 12) false (k + 1) (s2.sh (l ++ [92, 124]).length s1.opened s1.closed (s1.marks ++ [(l.length, [92, 124])])) (ta ++ Nd.turns (s1.opened : Nat) tb) = .inr (chosen (ta ++ Nd.turns (s1.opened : Nat) tb), s2.sh (l ++ [92, 124]).length s1.opened s1.closed (s1.marks ++ [(l.length, [92, 124])])) := fun k => by
    rw [chLoop, if_neg (by unfold ahd; rw [sh_at, hat2, List.drop_eq_nil_of_le (by rw [hp2, hlen]; omega)]; decide)]; rfl
  obtain ⟨k4, rfl⟩ : ∃ k4, k3 = k4 + 1 := ⟨k3 - 1, by rw [hp2, hat2] at fb; omega⟩
  refine ⟨ta, tb, s2.sh (l ++ [92, 124]).length s1.opened s1.closed (s1.marks ++ [(l.length, [92, 124])]), ea, eb, ba, bb, ?_, ?_, ?_, ?_⟩
  · rintro rfl; simp at na
  · rintro rfl; simp at nb
  · rw [← hL, parseS_in (by omega)]
    unfold choiceS
    rw [cb1]
    simp only
    rw [ca, chLoop, if_pos hab, cb2]
    simp only
    have cb' : chLoop prg L (lev L 12) false k2 (v2.sh (l ++ [92, 124]).length s1.opened s1.closed (s1.marks ++ [(l.length, [92, 124])])) (ta ++ [u2.turn (s1.opened : Nat)]) = _ := cb
    rw [cb', hov, ho1]
  · simp [RxS.sh, hp2]
end Go.Proofs.YtepeomphikhbkaaGreatDoor
