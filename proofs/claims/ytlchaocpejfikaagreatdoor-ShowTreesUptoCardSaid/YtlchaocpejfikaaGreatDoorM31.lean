/-
  Merged texts of this claim: BreO.
-/
import Derived.Test.YtlchaocpejfikaaGreatDoorM30

/-
  Walk of package bre: choice; at every depth.
-/
namespace Go.Proofs.YtlchaocpejfikaaGreatDoor
open Go.RowKit

theorem ownsRow_one {w : World} {b : Nat} {v : Value} {e : TypeId} (h : w.heap[b]? = some (.cells #[v] e (0, 0))) : w.ownsRow 0 e 1 (.slice (some ⟨b, 0, none⟩) 1 1) 1 [v] := by
  refine ⟨by simp, .inr ⟨b, 1, #[v], rfl, Nat.zero_le _, h, by simp, by simp [maxLen], by simp, by simp⟩⟩
theorem Pts.one {S O : Nat → Prop} {W w0 : World} {t : Nd} {val : Value} {b : Nat} (hv : RN (SO S O) w0 t val) (hlt : ∀ k, S k → k < w0.heap.size) (hO : ∀ k, O k → k < w0.heap.size) (hW : W.heap.size ≤ w0.heap.size) (hb : b = w0.heap.size) :
    Pts S O W (w0.alloc (.cells #[val] 36)) [t] (.slice (some ⟨b, 0, none⟩) 1 1) := by
  subst hb
  refine ⟨⟨[val], ownsRow_one (newAt0 w0 _), ⟨val, [], rfl, ?_, rfl⟩, rfl⟩, fun k hk => ?_⟩
  · refine RN.keep ((Fr.refl nob w0).alloc _) (fun _ _ x => x.elim) (fun k hk x => ?_) _ _ hv
    rcases x with x | x
    · exact x
    · have x : some w0.heap.size = some k := x
      injection x with x; omega
  · have hk : some w0.heap.size = some k := hk
    injection hk with hk
    exact ⟨fun x => by have := hlt k x; omega, by omega⟩

section
variable {l : List UInt8} {C : Option (RxS → Out Nd)} {inner : Bool} {n : Nat} {s : RxS} {ts : List Nd}
theorem chLoop_end (h : ahd l s.at_ [92, 124] = false) : chLoop prg l C inner (n + 1) s ts = .inr (chosen ts, s) := by
  rw [chLoop, if_neg (by rw [h]; decide)]; rfl
theorem chLoop_bad (h : ahd l s.at_ [92, 124] = true) {e : Int × Nat} (hb : branchS prg l C inner ((s.mark [92, 124]).go 2) = .inl e) : chLoop prg l C inner (n + 1) s ts = .inl e := by
  rw [chLoop, if_pos h, hb]
theorem chLoop_go (h : ahd l s.at_ [92, 124] = true) {t : Nd} {s' : RxS} (hb : branchS prg l C inner ((s.mark [92, 124]).go 2) = .inr (t, s')) : chLoop prg l C inner (n + 1) s ts = chLoop prg l C inner n s' (ts ++ [t]) := by
  rw [chLoop, if_pos h, hb]
end

def ChRel (b : Nat) (l : List UInt8) (C : Option (RxS → Out Nd)) (inner : Bool) (S O : Nat → Prop) (w : World) (F : Out Nd) (n : Nat) (v5 : Value) (wr : World) : Prop :=
  ∃ s ts S', Pts S' O w wr ts v5 ∧ Rdg b l s S' wr ∧ Stp S w S' wr ∧ Sane l s ∧ l.length < n + s.at_ ∧ Nd.sizes ts ≤ s.at_ + 1 ∧ brns ts ∧ chLoop prg l C inner n s ts = F

set_option maxRecDepth 100000 in
set_option maxHeartbeats 4000000 in
theorem br_choice (b : Nat) (l : List UInt8) (W0 : World) (deep : Nat) (C : Option (RxS → Out Nd)) (s : RxS) (S O : Nat → Prop) (w : World) (hO : ∀ k, O k → k < w.heap.size) (hl : l.length ≤ 100000) (hd : deep ≤ 12) (hE0 : Env W0)
    (hG : GrAt l W0 deep C) (hC : ∀ f, C = some f → KeptZ l 2 f) (hs : Sane l s) (hW : Wd W0 S w) (h : Rdg b l s S w) :
    Calls Tryz.prog 46 #[.pointer (some ⟨b, 0, none⟩), .int .i64 deep] w fun x w' => OutAns4 b l S O w (choiceS prg l C (decide (0 < deep)) s) x w' := by
  obtain ⟨F, hF⟩ : ∃ F, choiceS prg l C (decide (0 < deep)) s = F := ⟨_, rfl⟩
  rw [hF]
  have HBR := Lib.hid (fun (s : RxS) (S O : Nat → Prop) (w : World) (hO : ∀ k, O k → k < w.heap.size) (hs : Sane l s) (hW : Wd W0 S w) (h : Rdg b l s S w) => br_branch b l W0 deep C s S O w hO hl hd hE0 hG hC hs hW h)
  obtain ⟨inner, hin⟩ : ∃ inner, decide (0 < deep) = inner := ⟨_, rfl⟩
  rw [hin] at HBR hF
  have HW := Lib.hid hW; have HC := Lib.hid hC; have HOO := Lib.hid hO
  unfold choiceS at hF
  have H0 := Lib.hid (HBR.out s S O w hO hs hW h)
  clear hW hC hE0 hO h hG hin
  go_enter Tryz.func46, Tryz.ntmps46
  go_wp2_with fail
  refine (H0.out).mono ?_
  cases hb0 : branchS prg l C inner s with
  | inl z =>
    obtain ⟨z1, z2⟩ := z
    rw [hb0] at hF
    subst hF
    rintro e w1 ⟨rfl, S1, t1⟩
    exact ⟨rfl, rfl, S1, t1⟩
  | inr z =>
    obtain ⟨t, s1⟩ := z
    rw [hb0] at hF
    simp only at hF
    obtain ⟨k1, k2, k3⟩ := branchS_kept HC.out _ hs _ _ hb0
    have hbr := branchS_brn hb0
    rintro e w1 ⟨i, y, S1, rfl, rn1, r1, t1⟩
    have HP1 := Lib.hid (Pts.one (W := w) rn1 ((HW.out.stp t1).lt) (fun k hk => Nat.lt_of_lt_of_le (HOO.out k hk) t1.fr.size) t1.fr.size rfl)
    have R1 := Lib.hid r1; have T1 := Lib.hid t1; have HF := Lib.hid hF; have K1 := Lib.hid k1
    clear H0 hb0 hF rn1 r1 t1 k1 hs
    go_wp2_with fail
    go_loopg [5] (l.length + 1) (fun n v wr => ChRel b l C inner S O w F n v wr)
    case atStart => exact ⟨s1, [t], S1, HP1.out, R1.out.on ((Fr.refl _ _).alloc _), T1.out.trans (Stp.of ((Fr.refl _ _).alloc _)), K1.out, by omega, by show t.size + 0 ≤ _; omega, fun x hx => by rw [List.mem_singleton.1 hx]; exact hbr, HF.out⟩
    case round =>
      clear HP1 R1 T1 K1 HF k2 k3 hbr
      obtain ⟨s, ts, S1, hp, hr, hst, hsn, hn, hz, hu, hF⟩ := hrel
      have hsle := hsn.le
      obtain ⟨m, rfl⟩ : ∃ m, gk = m + 1 := ⟨gk - 1, by omega⟩
      obtain ⟨av, cv0, hv⟩ := hp.shape
      subst hv
      obtain ⟨v5, hv5⟩ : ∃ v5, v5 = Value.slice av ts.length cv0 := ⟨_, rfl⟩
      have HA := Lib.hid (br_ahead b l [92, 124] s S1 wr (by omega) (by decide) hsle hr)
      have HP := Lib.hid (show Pts S1 O w wr ts v5 from hv5 ▸ hp); have HR := Lib.hid hr; have HST := Lib.hid hst; have HSN := Lib.hid hsn; have HU := Lib.hid hu; have HF := Lib.hid hF; have HV5 := Lib.hid hv5
      have HW1 := Lib.hid (HW.out.stp hst)
      have HJ := Lib.hid (fun (w' : World) (f : Fr nob wr w') => chooseS_any (SO S1 O) ts (.slice av ts.length cv0) w' (fun k hk => Nat.lt_of_lt_of_le (hk.elim ((HW.out.stp hst).lt k) (fun x => Nat.lt_of_lt_of_le (HOO.out k x) hst.fr.size)) f.size) (by omega) ((hp.on f).sn HOO.out))
      clear hp hr hst hsn hF hv5 hu
      cases e1 : ahd l s.at_ [92, 124] with
      | false =>
        rw [e1] at HA
        have hF := HF.out
        rw [chLoop_end e1] at hF
        subst hF
        clear HF
        go_wp2_with fail
        refine (HA.out).mono ?_
        rintro e w2 ⟨rfl, f2⟩
        have F2 := Lib.hid f2; clear f2
        go_wp2_with fail
        refine (HJ.out _ F2.out).mono ?_
        rintro e wj ⟨r, rfl, hrj, fj⟩
        obtain ⟨ij, yj, rfl⟩ := hrj.some (chosen_nil HU.out)
        have HRJ := Lib.hid hrj; have FJ := Lib.hid (F2.out.trans' fj); clear hrj fj
        go_wp2
        go_ret
        exact ⟨ij, yj, S1, rfl, HRJ.out, HR.out.on FJ.out, HST.out.trans (Stp.of FJ.out)⟩
      | true =>
        have hle := ahd_le e1 (by decide)
        simp only [List.length_cons, List.length_nil] at hle
        rw [e1] at HA
        clear HJ
        go_wp2_with fail
        refine (HA.out).mono ?_
        rintro e w2 ⟨rfl, f2⟩
        have F2 := Lib.hid f2; clear f2
        go_wp2_with fail
        refine (br_mark b l [92, 124] s S1 w2 (by have := HSN.out.mr; omega) (HR.out.on F2.out)).mono ?_
        rintro e w3 ⟨rfl, S3, ⟨cv3, mv3, hB3⟩, st3⟩
        obtain ⟨⟨_, q1, _⟩, _, q2, _⟩ := rule5 hB3.blk _ (Fr.refl _ _)
        rw [show (s.mark [92, 124]).at_ = s.at_ from rfl] at q1
        obtain ⟨w4, hw4⟩ : ∃ w4, w4 = w3.setCell ⟨b, 1, none⟩ (.int .i64 ((s.at_ : Int) + 2)) := ⟨_, rfl⟩
        have hr4 : Rdg b l ((s.mark [92, 124]).go 2) S3 w4 := ⟨cv3, mv3, by rw [hw4]; exact hB3.turned 1 _ _ (by simp [RxS.go, RxS.mark]) rfl rfl⟩
        have ht4 : Stp S1 wr S3 w4 := by rw [hw4]; exact ((Stp.of F2.out).trans st3).trans (hB3.stp 1 _)
        have hsn4 := HSN.out.markgo [92, 124] (n := 2) (by omega) hle
        have hp4 := HP.out.stp ht4
        have H5 := Lib.hid (HBR.out ((s.mark [92, 124]).go 2) S3 (PO O v5) w4 (hp4.lt (fun k hk => Nat.lt_of_lt_of_le (HOO.out k hk) (Nat.le_trans HST.out.fr.size ht4.fr.size))) hsn4 (HW1.out.stp ht4) hr4)
        have HP4 := Lib.hid hp4; have HT4 := Lib.hid ht4; have HW4 := Lib.hid hw4; have HS4 := Lib.hid hsn4
        clear hB3 st3 hr4 ht4 hsn4 hp4 hw4 HA
        go_wp2_with (rw [← HW4.out])
        with_reducible refine (H5.out).mono ?_
        cases hb : branchS prg l C inner ((s.mark [92, 124]).go 2) with
        | inl z =>
          obtain ⟨z1, z2⟩ := z
          have hF := HF.out
          rw [chLoop_bad e1 hb] at hF
          subst hF
          rintro e w5 ⟨rfl, S5, t5⟩
          exact ⟨rfl, rfl, S5, (HST.out.trans HT4.out).trans t5⟩
        | inr z =>
          obtain ⟨t5, s5⟩ := z
          have hF := HF.out
          rw [chLoop_go e1 hb] at hF
          obtain ⟨j1, j2, j3⟩ := branchS_kept HC.out _ HS4.out _ _ hb
          have hbr := branchS_brn hb
          have j2 : s.at_ + 2 ≤ s5.at_ := j2
          have j3 : t5.size + (s.at_ + 2) ≤ s5.at_ + 1 := j3
          rintro e w5 ⟨i5, y5, S5, rfl, rn5, r5, st5⟩
          have T5 := Lib.hid (HT4.out.trans st5); have RN5 := Lib.hid rn5; have R5 := Lib.hid r5; have HF2 := Lib.hid hF
          clear hF rn5 r5 st5 H5 HF e1 hb
          have HP5 := Lib.hid (HP.out.stp T5.out)
          have HLT5 := Lib.hid (HW1.out.stp T5.out).lt
          have HOT := Lib.hid (show ∀ k, O k → k < w5.heap.size from fun k hk => Nat.lt_of_lt_of_le (HOO.out k hk) (Nat.le_trans HST.out.fr.size T5.out.fr.size))
          have HWS := Lib.hid (Nat.le_trans HST.out.fr.size T5.out.fr.size)
          have hpl := Nd.length_le ts
          go_wp2_with (at_builtin; refine wpList_append_pts (W := w) (S := S5) (O := O) rfl (.tmp 21) (.tmp 25) rfl ts t5 v5 _ _ _ (by rw [HV5.out]; rfl) HP5.out HLT5.out HOT.out HWS.out rfl (by rfl) RN5.out (by omega) ?_; intro va wa hpa offa; obtain ⟨aa, ca, hea⟩ := hpa.shape; simp only [List.length_append, List.length_singleton] at hea; subst hea; have HPA := Lib.hid hpa; have HOA := Lib.hid offa; clear hpa offa)
          go_roundg m
          case measure => omega
          case rel =>
            refine ⟨s5, ts ++ [t5], S5, HPA.out, R5.out.off HOA.out, (HST.out.trans T5.out).off HOA.out, j1, by omega, ?_, HU.out.snoc hbr, HF2.out⟩
            rw [Nd.sizes_append]; show Nd.sizes ts + (t5.size + 0) ≤ s5.at_ + 1; omega

/-- choice at every depth. -/
theorem br_chAt (l : List UInt8) (W0 : World) (hl : l.length ≤ 100000) (hE0 : Env W0) : ∀ n deep, n + deep = 12 → ChAt l W0 deep (chS prg l n)
  | 0, deep, hd => by
    obtain rfl : deep = 12 := by omega
    intro b s S O w hO hs hW h
    have hG : GrAt l W0 12 none := fun b s S O w p _ _ _ _ _ => br_group_deep b l s S O w p
    have := br_choice b l W0 12 none s S O w hO hl (Nat.le_refl _) hE0 hG (fun f hf => by cases hf) hs hW h
    rw [chS]
    exact this
  | n + 1, deep, hd => by
    intro b s S O w hO hs hW h
    have ih := br_chAt l W0 hl hE0 n (deep + 1) (by omega)
    have hG : GrAt l W0 deep (some (chS prg l n)) := fun b s S O w p hO hs h1 hW h => br_group b l W0 deep (chS prg l n) s S O w p hO hl (by omega) ih (chS_kept n).kept hs h1 hW h
    have := br_choice b l W0 deep (some (chS prg l n)) s S O w hO hl (by omega) hE0 hG (fun f hf => by injection hf with hf; subst hf; exact chS_kept n) hs hW h
    rw [chS, show decide (n + 1 < 12) = decide (0 < deep) from by congr 1; exact propext ⟨fun _ => by omega, fun _ => by omega⟩]
    exact this
end Go.Proofs.YtlchaocpejfikaaGreatDoor
