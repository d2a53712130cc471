/-
  Merged texts of this claim: BreO, BreV, BreQ.
-/
import Derived.Test.YtepeomphikhbkaaGreatDoorM20
import Derived.Test.YtepeomphikhbkaaGreatDoorM24
import Derived.Test.YtepeomphikhbkaaGreatDoorM25
import Derived.Test.YtepeomphikhbkaaGreatDoorM26

/-
  Walk of package bre: choice; at every depth.
-/
namespace Go.Proofs.YtepeomphikhbkaaGreatDoor
open Go.RowKit

theorem ownsRow_one {w : World} {b : Nat} {v : Value} {e : TypeId} (h : w.heap[b]? = some (.cells #[v] e (0, 0))) : w.ownsRow 0 e 1 (.slice (some ⟨b, 0, none⟩) 1 1) 1 [v] := by
  refine ⟨by simp, .inr ⟨b, 1, #[v], rfl, Nat.zero_le _, h, by simp, by simp [maxLen], by simp, by simp⟩⟩
theorem Pts.one {S O : Nat → Prop} {W w0 : World} {t : Nd} {val : Value} {b : Nat} (hv : RN (SO S O) w0 t val) (hlt : ∀ k, S k → k < w0.heap.size) (hO : ∀ k, O k → k < w0.heap.size) (hW : W.heap.size ≤ w0.heap.size) (hb : b = w0.heap.size) :
    Pts S O W (w0.alloc (.cells #[val] 24)) [t] (.slice (some ⟨b, 0, none⟩) 1 1) := by
  subst hb
  refine ⟨⟨[val], ownsRow_one (newAt0 w0 _), ⟨val, [], rfl, ?_, rfl⟩, rfl⟩, fun k hk => ?_⟩
  · refine RN.keep ((Fr.refl nob w0).alloc _) (fun _ _ x => x.elim) (fun k hk x => ?_) _ _ hv
    rcases x with x | x
    · exact x
    · have x : some w0.heap.size = some k := x
      injection x with x; omega
  · have hk : some w0.heap.size = some k := hk
    injection hk with hk
    exact ⟨fun x => by have := hlt k x; omega, by omega⟩

section
variable {l : List UInt8} {C : Option (RxS → Out Nd)} {inner : Bool} {n : Nat} {s : RxS} {ts : List Nd}
theorem chLoop_end (h : ahd l s.at_ [92, 124] = false) : chLoop prg l C inner (n + 1) s ts = .inr (chosen ts, s) := by
  rw [chLoop, if_neg (by rw [h]; decide)]; rfl
theorem chLoop_bad (h : ahd l s.at_ [92, 124] = true) {e : Int × Nat} (hb : branchS prg l C inner ((s.mark [92, 124]).go 2) = .inl e) : chLoop prg l C inner (n + 1) s ts = .inl e := by
  rw [chLoop, if_pos h, hb]
theorem chLoop_go (h : ahd l s.at_ [92, 124] = true) {t : Nd} {s' : RxS} (hb : branchS prg l C inner ((s.mark [92, 124]).go 2) = .inr (t, s')) : chLoop prg l C inner (n + 1) s ts = chLoop prg l C inner n s' (ts ++ [t]) := by
  rw [chLoop, if_pos h, hb]
end

def ChRel (b : Nat) (l : List UInt8) (C : Option (RxS → Out Nd)) (inner : Bool) (S O : Nat → Prop) (w : World) (F : Out Nd) (n : Nat) (v5 : Value) (wr : World) : Prop :=
  ∃ s ts S', Pts S' O w wr ts v5 ∧ Rdg b l s S' wr ∧ Stp S w S' wr ∧ Sane l s ∧ l.length < n + s.at_ ∧ Nd.sizes ts ≤ s.at_ + 1 ∧ brns ts ∧ chLoop prg l C inner n s ts = F

set_option maxRecDepth 100000 in
set_option maxHeartbeats 4000000 in
theorem br_choice (b : Nat) (l : List UInt8) (W0 : World) (deep : Nat) (C : Option (RxS → Out Nd)) (s : RxS) (S O : Nat → Prop) (w : World) (hO : ∀ k, O k → k < w.heap.size) (hl : l.length ≤ 100000) (hd : deep ≤ 12) (hE0 : Env W0)
    (hG : GrAt l W0 deep C) (hC : ∀ f, C = some f → KeptZ l 2 f) (hs : Sane l s) (hW : Wd W0 S w) (h : Rdg b l s S w) :
    Calls Tryz.prog 21 #[.pointer (some ⟨b, 0, none⟩), .int .i64 deep] w fun x w' => OutAns4 b l S O w (choiceS prg l C (decide (0 < deep)) s) x w' := by
  obtain ⟨F, hF⟩ : ∃ F, choiceS prg l C (decide (0 < deep)) s = F := ⟨_, rfl⟩
  rw [hF]
  have HBR := Lib.hid (fun (s : RxS) (S O : Nat → Prop) (w : World) (hO : ∀ k, O k → k < w.heap.size) (hs : Sane l s) (hW : Wd W0 S w) (h : Rdg b l s S w) => br_branch b l W0 deep C s S O w hO hl hd hE0 hG hC hs hW h)
  obtain ⟨inner, hin⟩ : ∃ inner, decide (0 < deep) = inner := ⟨_, rfl⟩
  rw [hin] at HBR hF
  have HW := Lib.hid hW; have HC := Lib.hid hC; have HOO := Lib.hid hO
  unfold choiceS at hF
  have H0 := Lib.hid (HBR.out s S O w hO hs hW h)
  clear hW hC hE0 hO h hG hin
  go_enter Tryz.func21, Tryz.ntmps21
  go_wp2_with fail
  refine (H0.out).mono ?_
  cases hb0 : branchS prg l C inner s with
  | inl z =>
    obtain ⟨z1, z2⟩ := z
    rw [hb0] at hF
    subst hF
    rintro e w1 ⟨rfl, S1, t1⟩
    exact ⟨rfl, rfl, S1, t1⟩
  | inr z =>
    obtain ⟨t, s1⟩ := z
    rw [hb0] at hF
    simp only at hF
    obtain ⟨k1, k2, k3⟩ := branchS_kept HC.out _ hs _ _ hb0
    have hbr := branchS_brn hb0
    rintro e w1 ⟨i, y, S1, rfl, rn1, r1, t1⟩
    have HP1 := Lib.hid (Pts.one (W := w) rn1 ((HW.out.stp t1).lt) (fun k hk => Nat.lt_of_lt_of_le (HOO.out k hk) t1.fr.size) t1.fr.size rfl)
    have R1 := Lib.hid r1; have T1 := Lib.hid t1; have HF := Lib.hid hF; have K1 := Lib.hid k1
    clear H0 hb0 hF rn1 r1 t1 k1 hs
    go_wp2_with fail
    go_loopg [5] (l.length + 1) (fun n v wr => ChRel b l C inner S O w F n v wr)
    case atStart => exact ⟨s1, [t], S1, HP1.out, R1.out.on ((Fr.refl _ _).alloc _), T1.out.trans (Stp.of ((Fr.refl _ _).alloc _)), K1.out, by omega, by show t.size + 0 ≤ _; omega, fun x hx => by rw [List.mem_singleton.1 hx]; exact hbr, HF.out⟩
    case round =>
      clear HP1 R1 T1 K1 HF k2 k3 hbr
      obtain ⟨s, ts, S1, hp, hr, hst, hsn, hn, hz, hu, hF⟩ := hrel
      have hsle := hsn.le
      obtain ⟨m, rfl⟩ : ∃ m, gk = m + 1 := ⟨gk - 1, by omega⟩
      obtain ⟨av, cv0, hv⟩ := hp.shape
      subst hv
      obtain ⟨v5, hv5⟩ : ∃ v5, v5 = Value.slice av ts.length cv0 := ⟨_, rfl⟩
      have HA := Lib.hid (br_ahead b l [92, 124] s S1 wr (by omega) (by decide) hsle hr)
      have HP := Lib.hid (show Pts S1 O w wr ts v5 from hv5 ▸ hp); have HR := Lib.hid hr; have HST := Lib.hid hst; have HSN := Lib.hid hsn; have HU := Lib.hid hu; have HF := Lib.hid hF; have HV5 := Lib.hid hv5
      have HW1 := Lib.hid (HW.out.stp hst)
      have HJ := Lib.hid (fun (w' : World) (f : Fr nob wr w') => chooseS_any (SO S1 O) ts (.slice av ts.length cv0) w' (fun k hk => Nat.lt_of_lt_of_le (hk.elim ((HW.out.stp hst).lt k) (fun x => Nat.lt_of_lt_of_le (HOO.out k x) hst.fr.size)) f.size) (by omega) ((hp.on f).sn HOO.out))
      clear hp hr hst hsn hF hv5 hu
      cases e1 : ahd l s.at_ [92, 124] with
      | false =>
        rw [e1] at HA
        have hF := HF.out
        rw [chLoop_end e1] at hF
        subst hF
        clear HF
        go_wp2_with fail
        refine (HA.out).mono ?_
        rintro e w2 ⟨rfl, f2⟩
        have F2 := Lib.hid f2; clear f2
        go_wp2_with fail
        refine (HJ.out _ F2.out).mono ?_
        rintro e wj ⟨r, rfl, hrj, fj⟩
        obtain ⟨ij, yj, rfl⟩ := hrj.some (chosen_nil HU.out)
        have HRJ := Lib.hid hrj; have FJ := Lib.hid (F2.out.trans' fj); clear hrj fj
        go_wp2
        go_ret
        exact ⟨ij, yj, S1, rfl, HRJ.out, HR.out.on FJ.out, HST.out.trans (Stp.of FJ.out)⟩
      | true =>
        have hle := ahd_le e1 (by decide)
        simp only [List.length_cons, List.length_nil] at hle
        rw [e1] at HA
        clear HJ
        go_wp2_with fail
        refine (HA.out).mono ?_
        rintro e w2 ⟨rfl, f2⟩
        have F2 := Lib.hid f2; clear f2
        go_wp2_with fail
        refine (br_mark b l [92, 124] s S1 w2 (by have := HSN.out.mr; omega) (HR.out.on F2.out)).mono ?_
        rintro e w3 ⟨rfl, S3, ⟨cv3, mv3, hB3⟩, st3⟩
        obtain ⟨⟨_, q1, _⟩, _, q2, _⟩ := rule5 hB3.blk _ (Fr.refl _ _)
        rw [show (s.mark [92, 124]).at_ = s.at_ from rfl] at q1
        obtain ⟨w4, hw4⟩ : ∃ w4, w4 = w3.setCell ⟨b, 1, none⟩ (.int .i64 ((s.at_ : Int) + 2)) := ⟨_, rfl⟩
        have hr4 : Rdg b l ((s.mark [92, 124]).go 2) S3 w4 := ⟨cv3, mv3, by rw [hw4]; exact hB3.turned 1 _ _ (by simp [RxS.go, RxS.mark]) rfl rfl⟩
        have ht4 : Stp S1 wr S3 w4 := by rw [hw4]; exact ((Stp.of F2.out).trans st3).trans (hB3.stp 1 _)
        have hsn4 := HSN.out.markgo [92, 124] (n := 2) (by omega) hle
        have hp4 := HP.out.stp ht4
        have H5 := Lib.hid (HBR.out ((s.mark [92, 124]).go 2) S3 (PO O v5) w4 (hp4.lt (fun k hk => Nat.lt_of_lt_of_le (HOO.out k hk) (Nat.le_trans HST.out.fr.size ht4.fr.size))) hsn4 (HW1.out.stp ht4) hr4)
        have HP4 := Lib.hid hp4; have HT4 := Lib.hid ht4; have HW4 := Lib.hid hw4; have HS4 := Lib.hid hsn4
        clear hB3 st3 hr4 ht4 hsn4 hp4 hw4 HA
        go_wp2_with (rw [← HW4.out])
        with_reducible refine (H5.out).mono ?_
        cases hb : branchS prg l C inner ((s.mark [92, 124]).go 2) with
        | inl z =>
          obtain ⟨z1, z2⟩ := z
          have hF := HF.out
          rw [chLoop_bad e1 hb] at hF
          subst hF
          rintro e w5 ⟨rfl, S5, t5⟩
          exact ⟨rfl, rfl, S5, (HST.out.trans HT4.out).trans t5⟩
        | inr z =>
          obtain ⟨t5, s5⟩ := z
          have hF := HF.out
          rw [chLoop_go e1 hb] at hF
          obtain ⟨j1, j2, j3⟩ := branchS_kept HC.out _ HS4.out _ _ hb
          have hbr := branchS_brn hb
          have j2 : s.at_ + 2 ≤ s5.at_ := j2
          have j3 : t5.size + (s.at_ + 2) ≤ s5.at_ + 1 := j3
          rintro e w5 ⟨i5, y5, S5, rfl, rn5, r5, st5⟩
          have T5 := Lib.hid (HT4.out.trans st5); have RN5 := Lib.hid rn5; have R5 := Lib.hid r5; have HF2 := Lib.hid hF
          clear hF rn5 r5 st5 H5 HF e1 hb
          have HP5 := Lib.hid (HP.out.stp T5.out)
          have HLT5 := Lib.hid (HW1.out.stp T5.out).lt
          have HOT := Lib.hid (show ∀ k, O k → k < w5.heap.size from fun k hk => Nat.lt_of_lt_of_le (HOO.out k hk) (Nat.le_trans HST.out.fr.size T5.out.fr.size))
          have HWS := Lib.hid (Nat.le_trans HST.out.fr.size T5.out.fr.size)
          have hpl := Nd.length_le ts
          go_wp2_with (at_builtin; refine wpList_append_pts (W := w) (S := S5) (O := O) rfl (.tmp 21) (.tmp 25) rfl ts t5 v5 _ _ _ (by rw [HV5.out]; rfl) HP5.out HLT5.out HOT.out HWS.out rfl (by rfl) RN5.out (by omega) ?_; intro va wa hpa offa; obtain ⟨aa, ca, hea⟩ := hpa.shape; simp only [List.length_append, List.length_singleton] at hea; subst hea; have HPA := Lib.hid hpa; have HOA := Lib.hid offa; clear hpa offa)
          go_roundg m
          case measure => omega
          case rel =>
            refine ⟨s5, ts ++ [t5], S5, HPA.out, R5.out.off HOA.out, (HST.out.trans T5.out).off HOA.out, j1, by omega, ?_, HU.out.snoc hbr, HF2.out⟩
            rw [Nd.sizes_append]; show Nd.sizes ts + (t5.size + 0) ≤ s5.at_ + 1; omega

/-- choice at every depth. -/
theorem br_chAt (l : List UInt8) (W0 : World) (hl : l.length ≤ 100000) (hE0 : Env W0) : ∀ n deep, n + deep = 12 → ChAt l W0 deep (chS prg l n)
  | 0, deep, hd => by
    obtain rfl : deep = 12 := by omega
    intro b s S O w hO hs hW h
    have hG : GrAt l W0 12 none := fun b s S O w p _ _ _ _ _ => br_group_deep b l s S O w p
    have := br_choice b l W0 12 none s S O w hO hl (Nat.le_refl _) hE0 hG (fun f hf => by cases hf) hs hW h
    rw [chS]
    exact this
  | n + 1, deep, hd => by
    intro b s S O w hO hs hW h
    have ih := br_chAt l W0 hl hE0 n (deep + 1) (by omega)
    have hG : GrAt l W0 deep (some (chS prg l n)) := fun b s S O w p hO hs h1 hW h => br_group b l W0 deep (chS prg l n) s S O w p hO hl (by omega) ih (chS_kept n).kept hs h1 hW h
    have := br_choice b l W0 deep (some (chS prg l n)) s S O w hO hl (by omega) hE0 hG (fun f hf => by injection hf with hf; subst hf; exact chS_kept n) hs hW h
    rw [chS, show decide (n + 1 < 12) = decide (0 < deep) from by congr 1; exact propext ⟨fun _ => by omega, fun _ => by omega⟩]
    exact this
end Go.Proofs.YtepeomphikhbkaaGreatDoor

/-
  A basic regex in plain words: a regex within a text. No walk.
-/
namespace Go.Proofs.YtepeomphikhbkaaGreatDoor
open Go.RowKit

/-! ### Groups of greater numbers -/
mutual
def Nd.turn (o : Int) : Nd → Nd
  | .cat l => .cat (Nd.turns o l)
  | .alt l => .alt (Nd.turns o l)
  | .rep x a b => .rep (x.turn o) a b
  | .group n x => .group (n + o) (x.turn o)
  | .nil => .nil
  | .empty => .empty
  | .one s => .one s
  | .back n => .back n
  | .start => .start
  | .fin => .fin
def Nd.turns (o : Int) : List Nd → List Nd
  | [] => []
  | t :: ts => t.turn o :: Nd.turns o ts
end
theorem Nd.turns_eq (o : Int) (l : List Nd) : Nd.turns o l = l.map (Nd.turn o) := by
  induction l with
  | nil => rfl
  | cons t ts ih => simp only [Nd.turns, List.map_cons, ih]
theorem Nd.turns_append (o : Int) (l m : List Nd) : Nd.turns o (l ++ m) = Nd.turns o l ++ Nd.turns o m := by simp only [Nd.turns_eq, List.map_append]
theorem Nd.turns_length (o : Int) (l : List Nd) : (Nd.turns o l).length = l.length := by simp only [Nd.turns_eq, List.length_map]
theorem unit_turn (o : Int) (t : Nd) : (t.turn o).unit = t.unit := by cases t <;> rfl
theorem units_turns {o : Int} {ps : List Nd} (h : units ps) : units (Nd.turns o ps) := fun x hx => by
  rw [Nd.turns_eq] at hx
  obtain ⟨y, hy, rfl⟩ := List.mem_map.1 hx
  rw [unit_turn]; exact h y hy
theorem brn_turn {o : Int} {t : Nd} (h : t.brn) : (t.turn o).brn := by
  cases t with
  | cat l => exact ⟨by rw [Nd.turns_length]; exact h.1, units_turns h.2⟩
  | nil => cases h
  | alt l => cases h
  | empty => trivial
  | _ => exact h
theorem brns_turns {o : Int} {ts : List Nd} (h : brns ts) : brns (Nd.turns o ts) := fun x hx => by
  rw [Nd.turns_eq] at hx
  obtain ⟨y, hy, rfl⟩ := List.mem_map.1 hx
  exact brn_turn (h y hy)
theorem joined_units {ps : List Nd} (h : units ps) : joined ps = onlyOf ps (.cat ps) := by unfold joined; rw [units_parts h]
theorem joined_turn {o : Int} {ps : List Nd} (h : units ps) : joined (Nd.turns o ps) = (joined ps).turn o := by
  rw [joined_units h, joined_units (units_turns h)]
  match ps with
  | [] => rfl
  | [x] => rfl
  | x :: y :: r => rfl
theorem chosen_turn {o : Int} {ts : List Nd} (h : brns ts) : chosen (Nd.turns o ts) = (chosen ts).turn o := by
  rw [chosen_brns h, chosen_brns (brns_turns h)]
  match ts with
  | [] => rfl
  | [x] => rfl
  | x :: y :: r => rfl
theorem joined_backs {ps : List Nd} (h : units ps) : (joined ps).backs = Nd.backss ps := by
  rw [joined_units h]
  match ps with
  | [] => rfl
  | [x] => simp [onlyOf, Nd.backss]
  | x :: y :: r => rfl
theorem joined_deep {ps : List Nd} (h : units ps) : (joined ps).deep = Nd.deeps ps := by
  rw [joined_units h]
  match ps with
  | [] => rfl
  | [x] => simp [onlyOf, Nd.deeps]
  | x :: y :: r => rfl
theorem joined_groups {ps : List Nd} (h : units ps) : (joined ps).groups = Nd.groupss ps := by
  rw [joined_units h]
  match ps with
  | [] => rfl
  | [x] => simp [onlyOf, Nd.groupss]
  | x :: y :: r => rfl
theorem chosen_backs {ts : List Nd} (h : brns ts) : (chosen ts).backs = Nd.backss ts := by
  rw [chosen_brns h]
  match ts with
  | [] => rfl
  | [x] => simp [onlyOf, Nd.backss]
  | x :: y :: r => rfl
theorem chosen_deep {ts : List Nd} (h : brns ts) : (chosen ts).deep = Nd.deeps ts := by
  rw [chosen_brns h]
  match ts with
  | [] => rfl
  | [x] => simp [onlyOf, Nd.deeps]
  | x :: y :: r => rfl
theorem chosen_groups {ts : List Nd} (h : brns ts) : (chosen ts).groups = Nd.groupss ts := by
  rw [chosen_brns h]
  match ts with
  | [] => rfl
  | [x] => simp [onlyOf, Nd.groupss]
  | x :: y :: r => rfl
theorem backss_snoc (ps : List Nd) (t : Nd) : Nd.backss (ps ++ [t]) = (Nd.backss ps || t.backs) := by
  simp only [Nd.backss_eq, List.any_append, List.any_cons, List.any_nil, Bool.or_false]
theorem deeps_snoc (ps : List Nd) (t : Nd) : Nd.deeps (ps ++ [t]) = max (Nd.deeps ps) t.deep := by
  rw [Nd.deeps_append]; simp [Nd.deeps]
theorem groupss_snoc (ps : List Nd) (t : Nd) : Nd.groupss (ps ++ [t]) = Nd.groupss ps + t.groups := by
  rw [Nd.groupss_append]; simp [Nd.groupss]

/-! ### A text within another -/
/-- What may stand behind. -/
def Tail (q : List UInt8) : Prop := q = [] ∨ (∃ r, q = 92 :: 41 :: r) ∨ ∃ r, q = 92 :: 124 :: r
/-- The state, within the other text. -/
def RxS.sh (P o : Nat) (c0 : List Nat) (m0 : List (Nat × List UInt8)) (s : RxS) : RxS :=
  ⟨P + s.at_, s.opened + o, c0 ++ s.closed.map (· + o), m0 ++ s.marks.map fun m => (P + m.1, m.2)⟩
section
variable {P o : Nat} {c0 : List Nat} {m0 : List (Nat × List UInt8)} (s : RxS)
theorem sh_go (n : Nat) : (s.go n).sh P o c0 m0 = (s.sh P o c0 m0).go n := by simp [RxS.sh, RxS.go, Nat.add_assoc]
theorem sh_to (n : Nat) : (s.to n).sh P o c0 m0 = (s.sh P o c0 m0).to (P + n) := by simp [RxS.sh, RxS.to]
theorem sh_mark (t : List UInt8) : (s.mark t).sh P o c0 m0 = (s.sh P o c0 m0).mark t := by simp [RxS.sh, RxS.mark]
theorem sh_at : (s.sh P o c0 m0).at_ = P + s.at_ := rfl
end
section
variable {p l q : List UInt8}
theorem cx_drop {k : Nat} (hk : k ≤ l.length) : (p ++ (l ++ q)).drop (p.length + k) = l.drop k ++ q := by
  rw [drop_sh, List.drop_append_of_le_length hk]
theorem cx_ahd1 (hq : Tail q) {k : Nat} {c : UInt8} (hk : k ≤ l.length) (hc : c ≠ 92) : ahd (p ++ (l ++ q)) (p.length + k) [c] = ahd l k [c] := by
  unfold ahd
  rw [cx_drop hk]
  cases l.drop k with
  | nil => rcases hq with rfl | ⟨r, rfl⟩ | ⟨r, rfl⟩ <;> simp [List.isPrefixOf, hc]
  | cons a r => simp [List.isPrefixOf]
theorem cx_ahd2 (hq : Tail q) {k : Nat} {c : UInt8} (hk : k ≤ l.length) (hc : c ≠ 92) (h : k < l.length ∨ (c ≠ 41 ∧ c ≠ 124)) : ahd (p ++ (l ++ q)) (p.length + k) [92, c] = ahd l k [92, c] := by
  unfold ahd
  rw [cx_drop hk]
  cases hd : l.drop k with
  | nil =>
    have : ¬ k < l.length := fun hlt => by rw [List.drop_eq_getElem_cons hlt] at hd; cases hd
    obtain ⟨h1, h2⟩ := h.resolve_left this
    rcases hq with rfl | ⟨r, rfl⟩ | ⟨r, rfl⟩ <;> simp [List.isPrefixOf, h1, h2]
  | cons a r =>
    cases r with
    | nil => rcases hq with rfl | ⟨r, rfl⟩ | ⟨r, rfl⟩ <;> simp [List.isPrefixOf, hc]
    | cons b r => simp [List.isPrefixOf]
theorem cx_get {k : Nat} (hk : k < l.length) : (p ++ (l ++ q))[p.length + k]? = some l[k] := by
  rw [get_sh, List.getElem?_append_left hk, List.getElem?_eq_getElem hk]
theorem cx_last (hq : Tail q) {k : Nat} (hk : k < l.length) : lastS (p ++ (l ++ q)) (p.length + k) = lastS l k := by
  unfold lastS
  rw [show p.length + k + 1 = p.length + (k + 1) from by omega]
  by_cases h1 : k + 1 < l.length
  · rw [cx_ahd2 hq (Nat.le_of_lt h1) (by decide) (.inl h1), cx_ahd2 hq (Nat.le_of_lt h1) (by decide) (.inl h1), cx_drop (Nat.le_of_lt h1)]
    have : (l.drop (k + 1)).isEmpty = false := by rw [List.drop_eq_getElem_cons h1]; rfl
    rw [List.drop_eq_getElem_cons h1]; rfl
  · have he : l.drop (k + 1) = [] := List.drop_eq_nil_of_le (by omega)
    unfold ahd
    rw [cx_drop (by omega), he]
    rcases hq with rfl | ⟨r, rfl⟩ | ⟨r, rfl⟩ <;> simp [List.isPrefixOf]
theorem cx_num (hq : Tail q) : ∀ (r : List UInt8) (c n : Nat), num3 (r ++ q) c n = num3 r c n
  | [], c, n => by
    rcases hq with rfl | ⟨r, rfl⟩ | ⟨r, rfl⟩
    · rfl
    · rw [List.nil_append]; show num3 (92 :: _) c n = (n, c); rw [num3, if_neg (fun h => by have := h.2.1; simp at this)]
    · rw [List.nil_append]; show num3 (92 :: _) c n = (n, c); rw [num3, if_neg (fun h => by have := h.2.1; simp at this)]
  | x :: r, c, n => by
    rw [List.cons_append, num3, num3]
    split
    · exact cx_num hq r _ _
    · rfl
theorem cx_itv (hq : Tail q) {m0 x0 : Int} {j : Nat} {k' : Nat} (hk : k' ≤ l.length) (h : itvB l k' = some (m0, x0, j)) : itvB (p ++ (l ++ q)) (p.length + k') = some (m0, x0, p.length + j) := by
  obtain ⟨m, c, hM⟩ : ∃ m c, num3 (l.drop k') 0 0 = (m, c) := ⟨_, _, rfl⟩
  have hb := num3_bd l k' hk
  rw [hM] at hb
  have hb3 : k' + c ≤ l.length := hb.2.2
  have hM' : num3 ((p ++ (l ++ q)).drop (p.length + k')) 0 0 = (m, c) := by rw [cx_drop hk, cx_num hq, hM]
  by_cases hc : c = 0
  · subst hc; rw [itvB_zero hM] at h; cases h
  · have a1 : ahd (p ++ (l ++ q)) (p.length + k' + c) [44] = ahd l (k' + c) [44] := by rw [Nat.add_assoc]; exact cx_ahd1 hq hb3 (by decide)
    cases ha : ahd l (k' + c) [44] with
    | false =>
      rw [ha] at a1
      have a2 : ahd (p ++ (l ++ q)) (p.length + k' + c) [92, 125] = ahd l (k' + c) [92, 125] := by rw [Nat.add_assoc]; exact cx_ahd2 hq hb3 (by decide) (.inr (by decide))
      rw [itvB_one hM hc ha] at h
      rw [itvB_one hM' hc a1, a2]
      split at h
      · cases h
      · next hn => rw [if_neg hn]; injection h with h; injection h with h1 h2; injection h2 with h2 h3; subst h1; subst h2; subst h3; simp only [Nat.add_assoc]
    | true =>
      rw [ha] at a1
      have hle := ahd_le ha (by decide)
      simp only [List.length_singleton] at hle
      obtain ⟨y, d, hX⟩ : ∃ y d, num3 (l.drop (k' + c + 1)) 0 0 = (y, d) := ⟨_, _, rfl⟩
      have hb2 := num3_bd l (k' + c + 1) hle
      rw [hX] at hb2
      have hb4 : k' + c + 1 + d ≤ l.length := hb2.2.2
      have hX' : num3 ((p ++ (l ++ q)).drop (p.length + k' + c + 1)) 0 0 = (y, d) := by rw [show p.length + k' + c + 1 = p.length + (k' + c + 1) from by omega, cx_drop hle, cx_num hq, hX]
      by_cases hd : d = 0
      · subst hd
        have a2 : ahd (p ++ (l ++ q)) (p.length + k' + c + 1) [92, 125] = ahd l (k' + c + 1) [92, 125] := by rw [show p.length + k' + c + 1 = p.length + (k' + c + 1) from by omega]; exact cx_ahd2 hq hle (by decide) (.inr (by decide))
        rw [itvB_open hM hc ha hX] at h
        rw [itvB_open hM' hc a1 hX', a2]
        split at h
        · cases h
        · next hn => rw [if_neg hn]; injection h with h; injection h with h1 h2; injection h2 with h2 h3; subst h1; subst h2; subst h3; simp only [Nat.add_assoc]
      · have a2 : ahd (p ++ (l ++ q)) (p.length + k' + c + 1 + d) [92, 125] = ahd l (k' + c + 1 + d) [92, 125] := by rw [show p.length + k' + c + 1 + d = p.length + (k' + c + 1 + d) from by omega]; exact cx_ahd2 hq hb4 (by decide) (.inr (by decide))
        rw [itvB_two hM hc ha hX hd] at h
        rw [itvB_two hM' hc a1 hX' hd, a2]
        split at h
        · cases h
        · next hn => rw [if_neg hn]; injection h with h; injection h with h1 h2; injection h2 with h2 h3; subst h1; subst h2; subst h3; simp only [Nat.add_assoc]
theorem cx_prs {k : Nat} {c : S4} {j : Nat} (h : prs l k = .inr (c, j)) : prs (p ++ (l ++ q)) (p.length + k) = .inr (c, p.length + j) := by
  rw [prs_sh, prs_app q h]; rfl
end
end Go.Proofs.YtepeomphikhbkaaGreatDoor

/-
  A basic regex in plain words: bytes told one behind the other. No walk.
-/
namespace Go.Proofs.YtepeomphikhbkaaGreatDoor
open Go.RowKit

/-- How a byte is told. -/
def Tel (b : UInt8) (u : List UInt8) : Prop :=
  (u = [b] ∧ b ≠ 92 ∧ b ≠ 91 ∧ b ≠ 46 ∧ b ≠ 36 ∧ b ≠ 42 ∧ b ≠ 94) ∨ ∃ x, u = [92, x] ∧ x ≠ 40 ∧ x ≠ 41 ∧ x ≠ 123 ∧ x ≠ 124 ∧ x ≠ 43 ∧ x ≠ 63 ∧ ¬ (49 ≤ x.toNat ∧ x.toNat ≤ 57) ∧ escB x = some (spn b.toNat b.toNat, false)
def telT : List (UInt8 × List UInt8) → List UInt8
  | [] => []
  | x :: r => x.2 ++ telT r
def telN (ts : List (UInt8 × List UInt8)) : List Nd := ts.map fun x => .one (spn x.1.toNat x.1.toNat)

theorem Tel.pre {b : UInt8} {u : List UInt8} (h : Tel b u) (r : List UInt8) : ([92, 43] : List UInt8).isPrefixOf (u ++ r) = false ∧ ([92, 63] : List UInt8).isPrefixOf (u ++ r) = false ∧ ([92, 123] : List UInt8).isPrefixOf (u ++ r) = false ∧
    ([92, 124] : List UInt8).isPrefixOf (u ++ r) = false ∧ ([92, 41] : List UInt8).isPrefixOf (u ++ r) = false ∧ ([92, 40] : List UInt8).isPrefixOf (u ++ r) = false ∧ ([42] : List UInt8).isPrefixOf (u ++ r) = false ∧ ([36] : List UInt8).isPrefixOf (u ++ r) = false ∧ ([94] : List UInt8).isPrefixOf (u ++ r) = false := by
  rcases h with ⟨rfl, h1, h2, h3, h4, h5, h6⟩ | ⟨x, rfl, h1, h2, h3, h4, h5, h6, _⟩
  · simp [List.isPrefixOf, Ne.symm h1, Ne.symm h4, Ne.symm h5, Ne.symm h6]
  · simp [List.isPrefixOf, Ne.symm h1, Ne.symm h2, Ne.symm h3, Ne.symm h4, Ne.symm h5, Ne.symm h6]
theorem telT_pre {ts : List (UInt8 × List UInt8)} (h : ∀ x ∈ ts, Tel x.1 x.2) : ([92, 43] : List UInt8).isPrefixOf (telT ts) = false ∧ ([92, 63] : List UInt8).isPrefixOf (telT ts) = false ∧ ([92, 123] : List UInt8).isPrefixOf (telT ts) = false ∧
    ([92, 124] : List UInt8).isPrefixOf (telT ts) = false ∧ ([92, 41] : List UInt8).isPrefixOf (telT ts) = false ∧ ([92, 40] : List UInt8).isPrefixOf (telT ts) = false ∧ ([42] : List UInt8).isPrefixOf (telT ts) = false ∧ ([36] : List UInt8).isPrefixOf (telT ts) = false ∧ ([94] : List UInt8).isPrefixOf (telT ts) = false := by
  cases ts with
  | nil => simp [telT, List.isPrefixOf]
  | cons x r => exact (h x (by simp)).pre (telT r)

theorem get_of_drop {l : List UInt8} {k : Nat} {a : UInt8} {r : List UInt8} (h : l.drop k = a :: r) : ∃ hk : k < l.length, l[k] = a ∧ l.drop (k + 1) = r := by
  have hk : k < l.length := by
    by_cases hk : k < l.length
    · exact hk
    · rw [List.drop_eq_nil_of_le (by omega)] at h; cases h
  rw [List.drop_eq_getElem_cons hk] at h
  injection h with h1 h2
  exact ⟨hk, h1, h2⟩

theorem tel_atom {l : List UInt8} {C : Option (RxS → Out Nd)} {s : RxS} {b : UInt8} {u r : List UInt8} (h : Tel b u) (hd : l.drop s.at_ = u ++ r) : ∃ hk : s.at_ < l.length, atomS prg l C s l[s.at_] = .inr (.one (spn b.toNat b.toNat), s.go u.length) := by
  have hp := h.pre r
  rcases h with ⟨rfl, h1, h2, h3, h4, h5, h6⟩ | ⟨x, rfl, h1, h2, h3, h4, h5, h6, h7, h8⟩
  · obtain ⟨hk, hb, _⟩ := get_of_drop hd
    refine ⟨hk, ?_⟩
    unfold atomS
    rw [hb, if_neg h1, if_neg h2, if_neg h3]
    rfl
  · obtain ⟨hk, hb, hd2⟩ := get_of_drop (r := x :: r) hd
    obtain ⟨hk2, hx, _⟩ := get_of_drop hd2
    refine ⟨hk, ?_⟩
    unfold atomS
    rw [if_pos hb]
    unfold escS
    rw [List.getElem?_eq_getElem hk2, hx]
    simp only
    unfold ahd
    rw [hd, if_neg (by rw [hp.2.2.2.2.2.1]; decide), if_neg (by rw [hp.2.2.2.2.1]; decide), if_neg h7, h8]
    rfl

theorem RxS.go_go (s : RxS) (a b : Nat) : (s.go a).go b = s.go (a + b) := by simp [RxS.go, Nat.add_assoc]

theorem brS_tells {l : List UInt8} {C : Option (RxS → Out Nd)} {inner : Bool} : ∀ (ts : List (UInt8 × List UInt8)) (n : Nat) (front : Bool) (s : RxS) (ps : List Nd), (∀ x ∈ ts, Tel x.1 x.2) → s.at_ ≤ l.length → l.drop s.at_ = telT ts → l.length < n + s.at_ →
    brS prg l C inner n front s ps = .inr (joined (ps ++ telN ts), s.to l.length)
  | [], n, front, s, ps, ht, ha, hd, hn => by
    have hle : l.length ≤ s.at_ := by have := congrArg List.length hd; simp [telT] at this; omega
    obtain ⟨m, rfl⟩ : ∃ m, n = m + 1 := ⟨n - 1, by omega⟩
    rw [brS_over hle]
    have : s.to l.length = s := by unfold RxS.to; cases s; simp at *; omega
    rw [this]; simp [telN]
  | (b, u) :: ts, n, front, s, ps, ht, ha, hd, hn => by
    obtain ⟨m, rfl⟩ : ∃ m, n = m + 1 := ⟨n - 1, by omega⟩
    have hp := telT_pre ht
    have hT := ht (b, u) (by simp)
    have ht' : ∀ x ∈ ts, Tel x.1 x.2 := fun x hx => ht x (by simp [hx])
    have hp' := telT_pre ht'
    obtain ⟨hk, hat⟩ := tel_atom (C := C) (s := s) hT (r := telT ts) hd
    have hd' : l.drop (s.go u.length).at_ = telT ts := by
      show l.drop (s.at_ + u.length) = _
      rw [← List.drop_drop, hd, telT, List.drop_left']; rfl
    have hu : 1 ≤ u.length := by rcases hT with ⟨e, _⟩ | ⟨x, e, _⟩ <;> (simp only at e; subst e; simp)
    have hle : s.at_ + u.length ≤ l.length := by
      have := congrArg List.length hd; simp [telT] at this; omega
    have hrnd : rndS l C s l[s.at_] = .inr (.one (spn b.toNat b.toNat), s.go u.length) := by
      unfold rndS
      rw [hat]
      simp only
      refine repS_end ?_ ?_ ?_ ?_
      · unfold ahd; rw [hd']; exact hp'.1
      · unfold ahd; rw [hd']; exact hp'.2.1
      · unfold ahd; rw [hd']; exact hp'.2.2.1
      · unfold ahd; rw [hd']; exact hp'.2.2.2.2.2.2.1
    rw [brS_go hk ?_ ?_ ?_, hrnd]
    · simp only
      rw [brS_tells ts m false (s.go u.length) _ ht' hle hd' (by show _ < m + (s.at_ + u.length); omega)]
      simp [telN, RxS.go, RxS.to]
    · unfold ahd; rw [hd, hp.2.2.2.1, hp.2.2.2.2.1]; simp
    · unfold ahd; rw [hd, hp.2.2.1, hp.1, hp.2.1]; simp
    · unfold ahd; rw [hd, hp.2.2.2.2.2.2.2.1]; rfl

theorem telN_parts (ts : List (UInt8 × List UInt8)) : parts (telN ts) = telN ts := by
  induction ts with
  | nil => rfl
  | cons x r ih => show Nd.part _ ++ parts (telN r) = _; rw [ih]; rfl
theorem chosen_joined_tel {ts : List (UInt8 × List UInt8)} (h : ts ≠ []) : chosen [joined (telN ts)] = joined (telN ts) := by
  unfold joined
  rw [telN_parts]
  match ts, h with
  | [x], _ => rfl
  | x :: y :: r, _ => rfl

theorem parse_tells (ts : List (UInt8 × List UInt8)) (h : ∀ x ∈ ts, Tel x.1 x.2) (hne : ts ≠ []) (hl : (telT ts).length ≤ 250) : parseS prg (telT ts) = .inr (joined (telN ts), ⟨(telT ts).length, 0, [], []⟩) := by
  have hp := telT_pre h
  unfold parseS
  rw [if_neg (by omega), chS]
  unfold choiceS branchS
  rw [if_neg (by unfold ahd; simp only [List.drop_zero]; rw [hp.2.2.2.2.2.2.2.2]; decide)]
  rw [brS_tells ts _ _ _ _ h (by simp) (by simp) (by simp)]
  simp only
  rw [chLoop, if_neg (by
    unfold ahd
    rw [List.drop_eq_nil_of_le (by simp [RxS.to])]
    decide)]
  rw [List.nil_append]
  show Sum.inr (chosen [joined (telN ts)], _) = _
  rw [chosen_joined_tel hne]
  rfl

theorem punct_has : punctS.has 92 = true ∧ punctS.has 91 = true ∧ punctS.has 46 = true ∧ punctS.has 36 = true ∧ punctS.has 42 = true ∧ punctS.has 94 = true := by decide +kernel
theorem punct_letters : punctS.has 110 = false ∧ punctS.has 116 = false ∧ punctS.has 119 = false ∧ punctS.has 87 = false ∧ punctS.has 115 = false ∧ punctS.has 83 = false ∧ punctS.has 10 = false := by decide +kernel
theorem punct_digits : ∀ n, n < 58 → 49 ≤ n → punctS.has n = false := by decide +kernel

theorem tel_plain {b : UInt8} (h : punctS.has b.toNat = false) : Tel b [b] := by
  obtain ⟨h1, h2, h3, h4, h5, h6⟩ := punct_has
  refine .inl ⟨rfl, ?_, ?_, ?_, ?_, ?_, ?_⟩ <;> (rintro rfl; first | (rw [show (92 : UInt8).toNat = 92 from rfl, h1] at h; cases h) | (rw [show (91 : UInt8).toNat = 91 from rfl, h2] at h; cases h) | (rw [show (46 : UInt8).toNat = 46 from rfl, h3] at h; cases h) | (rw [show (36 : UInt8).toNat = 36 from rfl, h4] at h; cases h) | (rw [show (42 : UInt8).toNat = 42 from rfl, h5] at h; cases h) | (rw [show (94 : UInt8).toNat = 94 from rfl, h6] at h; cases h))

/-- How Quoted tells a byte in a basic regex. -/
def quoB (b : UInt8) : List UInt8 :=
  if b = 10 then [92, 110]
  else if b = 40 ∨ b = 41 ∨ b = 123 ∨ b = 124 ∨ b = 43 ∨ b = 63 then [b]
  else if punctS.has b.toNat then [92, b] else [b]
theorem escB_punct {b : UInt8} (h : punctS.has b.toNat = true) : escB b = some (spn b.toNat b.toNat, false) := by
  obtain ⟨h1, h2, h3, h4, h5, h6, _⟩ := punct_letters
  unfold escB
  have e (x : UInt8) (n : Nat) (hx : x.toNat = n) (hn : punctS.has n = false) : b ≠ x := by rintro rfl; rw [hx, hn] at h; cases h
  rw [if_neg (e 110 110 rfl h1), if_neg (e 116 116 rfl h2), if_neg (e 119 119 rfl h3), if_neg (e 87 87 rfl h4), if_neg (e 115 115 rfl h5), if_neg (e 83 83 rfl h6), if_pos h]
theorem tel_quoB (b : UInt8) : Tel b (quoB b) := by
  unfold quoB
  split
  · next h => subst h; exact .inr ⟨110, rfl, by decide, by decide, by decide, by decide, by decide, by decide, by decide, rfl⟩
  · split
    · next h =>
      refine .inl ⟨rfl, ?_⟩
      rcases h with rfl | rfl | rfl | rfl | rfl | rfl <;> decide
    · next h =>
      simp only [not_or] at h
      split
      · next hp =>
        refine .inr ⟨b, rfl, h.1, h.2.1, h.2.2.1, h.2.2.2.1, h.2.2.2.2.1, h.2.2.2.2.2, ?_, escB_punct hp⟩
        rintro ⟨k1, k2⟩
        rw [punct_digits b.toNat (by omega) k1] at hp; cases hp
      · next hp => exact tel_plain (by simpa using hp)
end Go.Proofs.YtepeomphikhbkaaGreatDoor
