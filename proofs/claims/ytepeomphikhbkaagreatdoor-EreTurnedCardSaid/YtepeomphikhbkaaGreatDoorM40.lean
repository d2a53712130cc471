/-
  Merged texts of this claim: EreF, EreG.
-/
import Derived.Test.YtepeomphikhbkaaGreatDoorM24
import Derived.Test.YtepeomphikhbkaaGreatDoorM39

/-
  Walk of package ere: group.
-/
namespace Go.Proofs.YtepeomphikhbkaaGreatDoor
open Go.RowKit

/-- What choice does at a depth. -/
def ChX (l : List UInt8) (W0 : World) (deep : Nat) (f : ES → Nd × ES) : Prop :=
  ∀ b s S (O : Nat → Prop) w, (∀ k, O k → k < w.heap.size) → Sane l s.r → Wd W0 S w → Erd b l s S w → Calls Tryz.prog 15 #[.pointer (some ⟨b, 0, none⟩), .int .i64 deep] w (OutX b l S O w (f s))
/-- What group does at a depth. -/
def GrX (l : List UInt8) (W0 : World) (deep : Nat) (C : Option (ES → Nd × ES)) : Prop :=
  ∀ b s S (O : Nat → Prop) w, (∀ k, O k → k < w.heap.size) → Sane l s.r → s.r.at_ < l.length → Wd W0 S w → Erd b l s S w → Calls Tryz.prog 68 #[.pointer (some ⟨b, 0, none⟩), .int .i64 deep] w (OutX b l S O w (groupX l C s))

theorem Er.close {b : Nat} {l : List UInt8} {s : ES} {S : Nat → Prop} {sv : Value} {m : Nat} {mv : Value} {w w' : World} {n : Nat} (h : Er b l s S sv m mv w) (hm : IMap w' m (s.r.closed ++ [n])) (f : Fr (fun k => k = m) w w') :
    Er b l ⟨{ s.r with closed := s.r.closed ++ [n] }, s.x⟩ S sv m mv w' :=
  ⟨f.heap h.blk (fun e => h.bm e), ownsRow_fr h.sg f (fun k hk e => (h.ns k hk).2 (e ▸ h.mm)), hm, ownsRow_fr h.ma f (fun k hk e => (h.nm k hk).2.1 e), h.nm, h.bm, h.ns, h.me, h.mm, h.ok⟩
theorem Er.closeStp {b : Nat} {l : List UInt8} {s : ES} {S : Nat → Prop} {sv : Value} {m : Nat} {mv : Value} {w w' : World} (h : Er b l s S sv m mv w) (f : Fr (fun k => k = m) w w') : Stp S w S w' :=
  ⟨f.mono (fun k _ e => e ▸ h.mm), fun _ _ x => x, fun hl k hk => Nat.lt_of_lt_of_le (hl k hk) f.size⟩

set_option maxRecDepth 100000 in
theorem er_group_deep (b : Nat) (l : List UInt8) (s : ES) (S O : Nat → Prop) (w : World) (hl : l.length ≤ 100000) (h : Erd b l s S w) :
    Calls Tryz.prog 68 #[.pointer (some ⟨b, 0, none⟩), .int .i64 12] w (OutX b l S O w (groupX l none s)) := by
  have hf := er_fail b l s S 4 s.r.at_ w hl (by decide) h
  obtain ⟨sv, m, mv, h⟩ := h
  have rr := rule8 h.blk w (Fr.refl nob w)
  have HF := Lib.hid hf; clear hf h
  go_enter Tryz.func68, Tryz.ntmps68
  go_wp2_with fail
  with_reducible refine HF.out.mono ?_
  rintro e w1 ⟨rfl, e1, t1⟩
  have E1 := Lib.hid e1; have T1 := Lib.hid t1; clear e1 t1
  go_wp2
  go_ret
  exact ⟨.nilIface, S, rfl, by show RN _ _ .nil _; rw [RN], E1.out, T1.out⟩

set_option maxRecDepth 100000 in
set_option maxHeartbeats 2000000 in
theorem er_group (b : Nat) (l : List UInt8) (W0 : World) (deep : Nat) (f : ES → Nd × ES) (s : ES) (S O : Nat → Prop) (w : World) (hO : ∀ k, O k → k < w.heap.size) (hl : l.length ≤ 100000) (hd : deep < 12) (hC : ChX l W0 (deep + 1) f) (hK : ∀ s, Sane l s.r → Kp l s (f s) 2)
    (hs : Sane l s.r) (hlt : s.r.at_ < l.length) (hW : Wd W0 S w) (h : Erd b l s S w) :
    Calls Tryz.prog 68 #[.pointer (some ⟨b, 0, none⟩), .int .i64 deep] w (OutX b l S O w (groupX l (some f) s)) := by
  obtain ⟨sv, m, mv, hE⟩ := h
  have hsg := grpIn_sane hs hlt
  have r0 := rule8 hE.blk _ (Fr.refl _ _)
  have h1 := hE.turned 2 (.int .i64 ((s.r.at_ : Int) + 1)) (s.go 1) (by simp [RxS.go, ES.go]) rfl rfl hE.ok
  have t1 := hE.stp 2 (.int .i64 ((s.r.at_ : Int) + 1))
  have h2 := h1.turned 3 (.int .i64 ((s.r.opened : Int) + 1)) (grpIn s) (by simp [RxS.go, ES.go, grpIn]) rfl rfl hE.ok
  have t2 := h1.stp 3 (.int .i64 ((s.r.opened : Int) + 1))
  have r1 := rule8 h1.blk _ (Fr.refl _ _)
  have r2 := rule8 h2.blk _ (Fr.refl _ _)
  have hat1 : (((s.go 1).r.opened : Nat) : Int) = s.r.opened := rfl
  have hop2 : (((grpIn s).r.opened : Nat) : Int) = (s.r.opened : Int) + 1 := rfl
  rw [hat1] at r1
  rw [hop2] at r2
  have hop := hs.op
  have hle := hs.le
  obtain ⟨w1, hw1⟩ : ∃ w1, w1 = (w.setCell ⟨b, 2, none⟩ (.int .i64 ((s.r.at_ : Int) + 1))).setCell ⟨b, 3, none⟩ (.int .i64 ((s.r.opened : Int) + 1)) := ⟨_, rfl⟩
  rw [← hw1] at h2 t2 r2
  have hsz : w1.heap.size = w.heap.size := by rw [hw1]; simp [World.setCell]
  have T2 := Lib.hid (t1.trans t2)
  have hc := hC b (grpIn s) S O w1 (by rw [hsz]; exact hO) hsg (hW.stp T2.out) ⟨_, _, _, h2⟩
  have hk := hK (grpIn s) hsg
  obtain ⟨t, s2, hq⟩ : ∃ t s2, f (grpIn s) = (t, s2) := ⟨_, _, rfl⟩
  have hR : groupX l (some f) s = (.group ((s.r.opened + 1 : Nat) : Int) t, grpOut l (s.r.opened + 1) s.r.at_ s2) := by unfold groupX; simp only [hq]
  obtain ⟨R, hRR⟩ : ∃ R, groupX l (some f) s = R := ⟨_, rfl⟩
  rw [hRR]
  rw [hR] at hRR
  have HRR := Lib.hid hRR; clear hRR
  rw [hq] at hc hk
  rw [show ((deep + 1 : Nat) : Int) = (deep : Int) + 1 from by simp] at hc
  have HC := Lib.hid hc; have HK := Lib.hid hk; have HW1 := Lib.hid hw1
  have hdd : ((deep : Int) == 12) = false := by simp; omega
  have hdI : (deep : Int) < 12 := by omega
  clear hR hq hc hk hw1 h2 h1 t1 t2 hE hsg hC hK hd hO hat1 hop2 hW
  go_enter Tryz.func68, Tryz.ntmps68
  go_wp2_with (rw [← HW1.out])
  with_reducible refine (HC.out).mono ?_
  rintro e w2 ⟨v2, S2, rfl, rn2, e2, st2⟩
  have hs2 : Sane l s2.r := HK.out.sn
  have hle2 := hs2.le
  have hT : Calls Tryz.prog 27 #[.pointer (some ⟨b, 0, none⟩), .int .i32 41] w2 fun x w' => x = .returned (.bool (decide (l[s2.r.at_]? = some 41))) ∧ Erd b l (if l[s2.r.at_]? = some 41 then s2.go 1 else s2) S2 w' ∧ Stp S2 w2 S2 w' := er_take b l 41 s2 S2 w2 hl hle2 e2
  have RN2 := Lib.hid rn2; have ST2 := Lib.hid (T2.out.trans st2)
  obtain ⟨n, hn⟩ : ∃ n, s.r.opened + 1 = n := ⟨_, rfl⟩
  have hnI : (s.r.opened : Int) + 1 = (n : Nat) := by omega
  have hRR := HRR.out
  rw [hn] at hRR
  have hcl2 := hs2.cl
  -- what follows the test of the closing sign, in a world w3 with state s3
  have key : ∀ (s3 : ES) (w3 : World), s3.r.closed = s2.r.closed → Erd b l s3 S2 w3 → Stp S2 w2 S2 w3 →
      ∃ (m3 : Nat) (w4 : World), (∃ v0 v1 v2' v3 v5 v6 v7, w3.cell? ⟨b, 0, none⟩ = some v0 ∧ w3.cell? ⟨b, 1, none⟩ = some v1 ∧ w3.cell? ⟨b, 2, none⟩ = some v2' ∧ w3.cell? ⟨b, 3, none⟩ = some v3 ∧ w3.cell? ⟨b, 4, none⟩ = some (.map (some m3)) ∧ w3.cell? ⟨b, 5, none⟩ = some v5 ∧ w3.cell? ⟨b, 6, none⟩ = some v6 ∧ w3.cell? ⟨b, 7, none⟩ = some v7) ∧
      (Instr.lookup 53 (.map (some m3)) (.int .i64 (n : Nat)) false).run Tryz.prog w3 = .ok (.int .i64 (s2.r.closed.count n : Nat)) w3 ∧
      (Instr.mapUpdate 53 (.map (some m3)) (.int .i64 (n : Nat)) (.int .i64 ((s2.r.closed.count n : Nat) + 1))).run Tryz.prog w3 = .ok () w4 ∧
      Erd b l ⟨{ s3.r with closed := s3.r.closed ++ [n] }, s3.x⟩ S2 w4 ∧ Stp S2 w2 S2 w4 := by
    rintro s3 w3 hc3 ⟨sv3, m3, mv3, h3⟩ t3
    have hmp := h3.mp
    rw [hc3] at hmp
    obtain ⟨w4, hu1, hu2, hu3⟩ := imap_update (P := Tryz.prog) (mty := 53) (kt := 3) (et := 3) Tryz.underlying53 Tryz.underlying3 hmp n
    obtain ⟨⟨a0, a1, a2, a3, a4, a5, a6, a7⟩, _⟩ := rule8 h3.blk _ (Fr.refl _ _)
    refine ⟨m3, w4, ⟨_, _, _, _, _, _, _, a0, a1, a2, a3, a4, a5, a6, a7⟩, imap_look (P := Tryz.prog) (mty := 53) (kt := 3) (et := 3) Tryz.underlying53 Tryz.underlying3 (fun w => by kernel_rfl) hmp n, hu1, ⟨_, _, _, h3.close (by rw [hc3]; exact hu2) hu3⟩, t3.trans (h3.closeStp hu3)⟩
  have hcnt : s2.r.closed.count n ≤ s2.r.closed.length := List.count_le_length
  obtain ⟨k, hk⟩ : ∃ k, s2.r.closed.count n = k := ⟨_, rfl⟩
  rw [hk] at key hcnt
  have hkI : (k : Int) ≤ 100000 := by omega
  have HNI := Lib.hid hnI; clear hnI hn
  have KEY := Lib.hid key; have HS2 := Lib.hid e2
  have hv2 : v2 = .nilIface ∨ ∃ i y, v2 = .iface i y := by
    rcases rn2.kind' with ht | h
    · left
      have ht : t = .nil := ht
      rw [ht, RN] at rn2; exact rn2
    · exact .inr h
  clear HRR key rn2 st2 hk hcnt r0 r1 r2 e2
  by_cases hA : l[s2.r.at_]? = some 41
  · rw [decide_eq_true hA, if_pos hA] at hT
    have hgo : grpOut l n s.r.at_ s2 = ⟨{ (s2.go 1).r with closed := (s2.go 1).r.closed ++ [n] }, (s2.go 1).x⟩ := by unfold grpOut; rw [if_pos hA]
    rw [hgo] at hRR
    subst hRR
    have HT := Lib.hid hT
    clear hT hA hgo
    go_wp2_with fail
    with_reducible refine HT.out.mono ?_
    rintro e w3 ⟨rfl, e3, t3⟩
    obtain ⟨m3, w4, ⟨v0, v1, v2', v3, v5, v6, v7, a0, a1, a2, a3, a4, a5, a6, a7⟩, hlk, hup, e4, t4⟩ := KEY.out (s2.go 1) w3 rfl e3 t3
    have E4 := Lib.hid e4; have T4 := Lib.hid t4; clear e4 t4 e3 t3
    rw [← HNI.out] at hlk hup
    rcases hv2 with rfl | ⟨vi, vy, rfl⟩
    · go_wp2
      go_ret
      refine ⟨.iface 75 (.agg #[.int .i64 ((s.r.opened : Int) + 1), .nilIface]), S2, rfl, ?_, E4.out, ST2.out.trans T4.out⟩
      rw [HNI.out]
      exact (T4.out.rn RN2.out).grp _
    · go_wp2
      go_ret
      refine ⟨.iface 75 (.agg #[.int .i64 ((s.r.opened : Int) + 1), .iface vi vy]), S2, rfl, ?_, E4.out, ST2.out.trans T4.out⟩
      rw [HNI.out]
      exact (T4.out.rn RN2.out).grp _
  · rw [decide_eq_false hA, if_neg hA] at hT
    have hgo : grpOut l n s.r.at_ s2 = ⟨{ (s2.fail l 8 s.r.at_).r with closed := (s2.fail l 8 s.r.at_).r.closed ++ [n] }, (s2.fail l 8 s.r.at_).x⟩ := by unfold grpOut; rw [if_neg hA]
    rw [hgo] at hRR
    subst hRR
    have HT := Lib.hid hT
    clear hT hA hgo
    go_wp2_with fail
    with_reducible refine HT.out.mono ?_
    rintro e w3 ⟨rfl, e3, t3⟩
    have hf := er_fail b l s2 S2 8 s.r.at_ w3 hl (by decide) e3
    have HF := Lib.hid hf; have T3 := Lib.hid t3
    clear hf e3 t3
    go_wp2_with fail
    with_reducible refine HF.out.mono ?_
    rintro e w5 ⟨rfl, e5, t5⟩
    obtain ⟨m3, w4, ⟨v0, v1, v2', v3, v5, v6, v7, a0, a1, a2, a3, a4, a5, a6, a7⟩, hlk, hup, e4, t4⟩ := KEY.out (s2.fail l 8 s.r.at_) w5 rfl e5 (T3.out.trans t5)
    have E4 := Lib.hid e4; have T4 := Lib.hid t4; clear e4 t4 e5 t5
    rw [← HNI.out] at hlk hup
    rcases hv2 with rfl | ⟨vi, vy, rfl⟩
    · go_wp2
      go_ret
      refine ⟨.iface 75 (.agg #[.int .i64 ((s.r.opened : Int) + 1), .nilIface]), S2, rfl, ?_, E4.out, ST2.out.trans T4.out⟩
      rw [HNI.out]
      exact (T4.out.rn RN2.out).grp _
    · go_wp2
      go_ret
      refine ⟨.iface 75 (.agg #[.int .i64 ((s.r.opened : Int) + 1), .iface vi vy]), S2, rfl, ?_, E4.out, ST2.out.trans T4.out⟩
      rw [HNI.out]
      exact (T4.out.rn RN2.out).grp _
end Go.Proofs.YtepeomphikhbkaaGreatDoor

/-
  Walk of package ere: atom.
-/
namespace Go.Proofs.YtepeomphikhbkaaGreatDoor
open Go.RowKit

abbrev CC02 (w : World) (b : Nat) (v0 v1 : Value) : Prop := w.cell? ⟨b, 0, none⟩ = some v0 ∧ w.cell? ⟨b, 2, none⟩ = some v1
theorem cc02_on {w w' : World} {b : Nat} {v0 v1 : Value} (h : CC02 w b v0 v1) (f : Fr nob w w') : CC02 w' b v0 v1 := ⟨f.cell h.1 (fun x => x), f.cell h.2 (fun x => x)⟩

set_option maxRecDepth 100000 in
set_option maxHeartbeats 2000000 in
theorem er_atom (b : Nat) (l : List UInt8) (W0 : World) (deep : Nat) (C : Option (ES → Nd × ES)) (s : ES) (S O : Nat → Prop) (w : World) (c : UInt8) (hO : ∀ k, O k → k < w.heap.size) (hl : l.length ≤ 100000) (hE0 : Env W0) (hG : GrX l W0 deep C)
    (hs : Sane l s.r) (hx : l[s.r.at_]? = some c) (hW : Wd W0 S w) (h : Erd b l s S w) :
    Calls Tryz.prog 44 #[.pointer (some ⟨b, 0, none⟩), .int .i64 deep] w (OutX b l S O w (atomX l C s c)) := by
  obtain ⟨R, hR⟩ : ∃ R, atomX l C s c = R := ⟨_, rfl⟩
  rw [hR]
  have hlt := getE_lt hx
  have hN := er_next b l s S w hl hs.le h
  rw [hx] at hN
  have hN : Calls Tryz.prog 40 #[.pointer (some ⟨b, 0, none⟩)] w fun x w' => x = .returned (.int .i32 (c.toNat : Int)) ∧ Fr nob w w' := hN
  have hGR := fun w' (f : Fr nob w w') => hG b s S O w' (fun k hk => Nat.lt_of_lt_of_le (hO k hk) f.size) hs hlt (hW.stp (Stp.of f)) (h.on f)
  have hES := fun w' (f : Fr nob w w') => er_escape b l s S O w' hl hlt hs (fun k hk => Nat.lt_of_lt_of_le (hW.lt k hk) f.size) (h.on f)
  have HGR := Lib.hid hGR; have HES := Lib.hid hES; have HH := Lib.hid h
  obtain ⟨sv, m, mv, hE⟩ := h
  have HE := Lib.hid hE; have HW := Lib.hid hW; have HN := Lib.hid hN
  have hcb := c.toNat_lt
  clear hGR hES hG hE hW hO hN hx hs
  go_enter Tryz.func44, Tryz.ntmps44
  go_wp2_with fail
  with_reducible refine HN.out.mono ?_
  rintro e wC ⟨rfl, fC⟩
  have hBC := HE.out.on fC
  obtain ⟨⟨k0, _, k2, _⟩, j0, _, j2, _⟩ := rule8 hBC.blk _ (Fr.refl _ _)
  have HBC := Lib.hid hBC; have FC := Lib.hid fC
  clear hBC fC
  unfold atomX at hR
  by_cases h40 : c = 40
  · rw [if_pos h40] at hR
    have t1 : ((c.toNat : Int) == 40) = true := tb_eq (b := 40) h40
    have HQ := Lib.hid (HGR.out wC FC.out)
    rw [hR] at HQ
    clear h40 hR k0 k2 j0 j2
    go_wp2_with fail
    with_reducible refine (HQ.out).mono ?_
    rintro e w2 ⟨v2, S2, rfl, rn2, r2, st2⟩
    have RN2 := Lib.hid rn2; have R2 := Lib.hid r2; have ST2 := Lib.hid ((Stp.of FC.out).trans st2); clear rn2 r2 st2
    go_wp2
    go_ret
    exact ⟨_, S2, rfl, RN2.out, R2.out, ST2.out⟩
  · rw [if_neg h40] at hR
    have t1 : ((c.toNat : Int) == 40) = false := tb_ne (b := 40) h40
    by_cases h41 : c = 41
    · rw [if_pos h41] at hR
      have t2 : ((c.toNat : Int) == 41) = true := tb_eq (b := 41) h41
      have hf := er_fail b l s S 8 s.r.at_ wC hl (by decide) (HH.out.on FC.out)
      have HF := Lib.hid hf
      subst hR
      clear h40 h41 hf
      go_wp2_with fail
      with_reducible refine (HF.out).mono ?_
      rintro e w2 ⟨rfl, e2, t2'⟩
      have E2 := Lib.hid e2; have T2 := Lib.hid ((Stp.of FC.out).trans t2'); clear e2 t2'
      go_wp2
      go_ret
      exact ⟨.nilIface, S, rfl, by rw [RN], E2.out, T2.out⟩
    · rw [if_neg h41] at hR
      have t2 : ((c.toNat : Int) == 41) = false := tb_ne (b := 41) h41
      by_cases h92 : c = 92
      · rw [if_pos h92] at hR
        have t3 : ((c.toNat : Int) == 92) = true := tb_eq (b := 92) h92
        have HQ := Lib.hid (HES.out wC FC.out)
        rw [hR] at HQ
        clear h40 h41 h92 hR k0 k2 j0 j2
        go_wp2_with fail
        with_reducible refine (HQ.out).mono ?_
        rintro e w2 ⟨v2, S2, rfl, rn2, r2, st2⟩
        have RN2 := Lib.hid rn2; have R2 := Lib.hid r2; have ST2 := Lib.hid ((Stp.of FC.out).trans st2); clear rn2 r2 st2
        go_wp2
        go_ret
        exact ⟨_, S2, rfl, RN2.out, R2.out, ST2.out⟩
      · rw [if_neg h92] at hR
        have t3 : ((c.toNat : Int) == 92) = false := tb_ne (b := 92) h92
        by_cases h91 : c = 91
        · rw [if_pos h91] at hR
          have t4 : ((c.toNat : Int) == 91) = true := tb_eq (b := 91) h91
          have hEnv : ∀ w', Fr nob wC w' → Env w' := fun w' f => hE0.on ((HW.out.fr.trans' FC.out).trans' f)
          have hP := fun w' (f : Fr nob wC w') => parse_all l ((s.r.at_ : Int) + 1) w' hl (hEnv w' f)
          rw [show ((s.r.at_ : Int) + 1) = ((s.r.at_ + 1 : Nat) : Int) from by simp, prz_in (by omega)] at hP
          rw [show ((s.r.at_ + 1 : Nat) : Int) = (s.r.at_ : Int) + 1 from by simp] at hP
          have hw : IntKind.i64.wrap ((s.r.at_ : Int) + 1) = s.r.at_ + 1 := IntWalk.i64_in _ (by omega)
          have hcc : CC02 wC b (.string ⟨l.toArray⟩) (.int .i64 s.r.at_) := ⟨k0, k2⟩
          have HC := Lib.hid hcc
          obtain ⟨P, hPP⟩ : ∃ P, prs l (s.r.at_ + 1) = P := ⟨_, rfl⟩
          rw [hPP] at hP hR
          obtain ⟨u, k, e0, hv, hcase⟩ : ∃ (u : S4) (k : Nat) (e0 : Int), prsV P = .tuple #[setV u, .int .i64 k, .int .i64 e0] ∧ ((e0 ≠ 0 ∧ R = (.nil, s.fail l e0 k)) ∨ (e0 = 0 ∧ R = (.one u, s.to k))) := by
            cases P with
            | inl z => obtain ⟨z1, z2⟩ := z; exact ⟨S4.zero, z2, z1, rfl, .inl ⟨prs_err hPP, hR.symm⟩⟩
            | inr q => obtain ⟨u, k⟩ := q; exact ⟨u, k, 0, rfl, .inr ⟨rfl, hR.symm⟩⟩
          rw [hv] at hP
          have HP := Lib.hid hP; have HCS := Lib.hid hcase
          have rzA := rule4 (show (wC.alloc (.cells #[.int .u64 0, .int .u64 0, .int .u64 0, .int .u64 0] 85)).heap[wC.heap.size]? = some (.cells #[.int .u64 0, .int .u64 0, .int .u64 0, .int .u64 0] 85) from newAt0 wC _)
          have RZA := Lib.hid rzA
          have hSC : ∀ k, wC.heap.size ≤ k → ¬ S k := fun k hk h => by have := HW.out.lt k h; have := FC.out.size; omega
          have HSC := Lib.hid hSC
          clear hP hEnv k0 k2 j0 j2 h91 h92 h41 h40 hcc hPP rzA hv hcase hR hSC
          go_wp2_with fail
          go_region_held3 (fun w' => CC02 w' b (.string ⟨l.toArray⟩) (.int .i64 s.r.at_)) (first | (with_reducible exact HC.out) | (with_reducible exact cc02_on HC.out ((Fr.refl nob wC).drew)) | (with_reducible exact cc02_on HC.out (((Fr.refl nob wC).alloc _).drew)) | (with_reducible exact cc02_on HC.out (((Fr.refl nob wC).drew).alloc _)) | (with_reducible exact cc02_on HC.out G1) | (with_reducible exact cc02_on HC.out (G1.drew)) | (with_reducible exact cc02_on HC.out (G1.alloc _)) | (with_reducible exact cc02_on HC.out (setFour_frS G1 (Nat.le_refl _) _ _ _ _)) | (with_reducible exact cc02_on HC.out (setFour_frS (G1.alloc _) G1.size _ _ _ _)) | (trace_state; fail)) (first | (go_at_call 70; (first | ((with_reducible refine (HP.out _ ((Fr.refl nob wC).drew)).mono ?_); rintro e g1 ⟨rfl, f1⟩; have G1 : Fr nob wC g1 := ((Fr.refl nob wC).drew).trans' f1; have hz := newAt0 g1 (.cells #[.int .u64 0, .int .u64 0, .int .u64 0, .int .u64 0] 85); have HZ := Lib.hid hz; have rz := rule4 hz _ (Fr.refl nob _)) | ((with_reducible refine (HP.out _ (((Fr.refl nob wC).alloc _).drew)).mono ?_); rintro e g1 ⟨rfl, f1⟩; have G1 : Fr nob wC g1 := (((Fr.refl nob wC).alloc _).drew).trans' f1; have hz := (((Fr.refl nob _).drew).trans' f1).heap (newAt0 wC (.cells #[.int .u64 0, .int .u64 0, .int .u64 0, .int .u64 0] 85)) (fun x => x); have HZ := Lib.hid hz; have rz := RZA.out g1 (((Fr.refl nob _).drew).trans' f1))); clear f1 hz))
          · obtain ⟨wf, hwf⟩ : ∃ wf, wf = g1.alloc (.cells #[.int .u64 u.a, .int .u64 u.b, .int .u64 u.c, .int .u64 u.d] 85) := ⟨_, rfl⟩
            have hset : At4 wf g1.heap.size u := by rw [hwf]; exact newAt0 g1 _
            have hfr : Fr nob wC wf := by rw [hwf]; exact G1.alloc _
            rw [← hwf]
            have HF := Lib.hid hfr; have HSET := Lib.hid hset; have hge : wC.heap.size ≤ g1.heap.size := G1.size
            clear hwf hfr hset rz
            have hBf := HBC.out.on HF.out
            have hbl := lt_heap HBC.out.blk
            have hnb : g1.heap.size ≠ b := by omega
            obtain ⟨⟨_, _, n1, _⟩, _, _, n2, _⟩ := rule8 hBf.blk _ (Fr.refl _ _)
            have hnS := HSC.out g1.heap.size hge
            have HBf := Lib.hid hBf; clear hBf
            rcases HCS.out with ⟨hne, hR⟩ | ⟨hne, hR⟩
            · subst hR
              have hz' : ((e0 : Int) != 0) = true := by simpa using hne
              have hf := er_fail b l s S e0 k wf hl hne ⟨_, _, _, HBf.out⟩
              have HFL := Lib.hid hf
              clear hf n1 n2
              go_wp2_with fail
              with_reducible refine (HFL.out).mono ?_
              rintro e w2 ⟨rfl, e2, t2'⟩
              have E2 := Lib.hid e2; have T2 := Lib.hid (((Stp.of FC.out).trans (Stp.of HF.out)).trans t2'); clear e2 t2'
              go_wp2
              go_ret
              exact ⟨.nilIface, S, rfl, by rw [RN], E2.out, T2.out⟩
            · subst hR
              subst hne
              have hq6 : Q4 (wf.setCell ⟨b, 2, none⟩ (.int .i64 (k : Nat))) (g1.heap.size) u := by
                have g := (Fr.refl (fun i => i = b) wf).setCell (p := ⟨b, 2, none⟩) (fun _ => rfl) (.int .i64 (k : Nat))
                have q := Q4.of HSET.out
                exact ⟨g.cell q.1 hnb, g.cell q.2.1 hnb, g.cell q.2.2.1 hnb, g.cell q.2.2.2 hnb⟩
              go_wp2
              go_ret
              exact ⟨_, S, rfl, by rw [RN]; rfl, ⟨_, _, _, HBf.out.turned 2 _ (s.to k) (by simp [RxS.to, ES.to]) rfl rfl HBf.out.ok⟩, ((Stp.of FC.out).trans (Stp.of HF.out)).trans (HBf.out.stp 2 _)⟩
          · obtain ⟨wf, hwf⟩ : ∃ wf, wf = ((((g1.setCell ⟨wC.heap.size, 0, none⟩ (.int .u64 u.a)).setCell ⟨wC.heap.size, 1, none⟩ (.int .u64 u.b)).setCell ⟨wC.heap.size, 2, none⟩ (.int .u64 u.c)).setCell ⟨wC.heap.size, 3, none⟩ (.int .u64 u.d)) := ⟨_, rfl⟩
            have hset : At4 wf wC.heap.size u := by rw [hwf]; with_reducible exact setFour_heap HZ.out _ _ _ _
            have hfr : Fr nob wC wf := by rw [hwf]; exact setFour_frS (G1) (Nat.le_refl _) _ _ _ _
            rw [← hwf]
            have HF := Lib.hid hfr; have HSET := Lib.hid hset; have hge : wC.heap.size ≤ wC.heap.size := Nat.le_refl _
            clear hwf hfr hset rz
            have hBf := HBC.out.on HF.out
            have hbl := lt_heap HBC.out.blk
            have hnb : wC.heap.size ≠ b := by omega
            obtain ⟨⟨_, _, n1, _⟩, _, _, n2, _⟩ := rule8 hBf.blk _ (Fr.refl _ _)
            have hnS := HSC.out wC.heap.size hge
            have HBf := Lib.hid hBf; clear hBf
            rcases HCS.out with ⟨hne, hR⟩ | ⟨hne, hR⟩
            · subst hR
              have hz' : ((e0 : Int) != 0) = true := by simpa using hne
              have hf := er_fail b l s S e0 k wf hl hne ⟨_, _, _, HBf.out⟩
              have HFL := Lib.hid hf
              clear hf n1 n2
              go_wp2_with fail
              with_reducible refine (HFL.out).mono ?_
              rintro e w2 ⟨rfl, e2, t2'⟩
              have E2 := Lib.hid e2; have T2 := Lib.hid (((Stp.of FC.out).trans (Stp.of HF.out)).trans t2'); clear e2 t2'
              go_wp2
              go_ret
              exact ⟨.nilIface, S, rfl, by rw [RN], E2.out, T2.out⟩
            · subst hR
              subst hne
              have hq6 : Q4 (wf.setCell ⟨b, 2, none⟩ (.int .i64 (k : Nat))) (wC.heap.size) u := by
                have g := (Fr.refl (fun i => i = b) wf).setCell (p := ⟨b, 2, none⟩) (fun _ => rfl) (.int .i64 (k : Nat))
                have q := Q4.of HSET.out
                exact ⟨g.cell q.1 hnb, g.cell q.2.1 hnb, g.cell q.2.2.1 hnb, g.cell q.2.2.2 hnb⟩
              go_wp2
              go_ret
              exact ⟨_, S, rfl, by rw [RN]; rfl, ⟨_, _, _, HBf.out.turned 2 _ (s.to k) (by simp [RxS.to, ES.to]) rfl rfl HBf.out.ok⟩, ((Stp.of FC.out).trans (Stp.of HF.out)).trans (HBf.out.stp 2 _)⟩
        · rw [if_neg h91] at hR
          have t4 : ((c.toNat : Int) == 91) = false := tb_ne (b := 91) h91
          obtain ⟨w1, hw1⟩ : ∃ w1, w1 = wC.setCell ⟨b, 2, none⟩ (.int .i64 ((s.r.at_ : Int) + 1)) := ⟨_, rfl⟩
          have hB1 : Er b l (s.go 1) S sv m mv w1 := by rw [hw1]; exact HBC.out.turned 2 _ (s.go 1) (by simp [RxS.go, ES.go]) rfl rfl HBC.out.ok
          have hS1 : Stp S w S w1 := by rw [hw1]; exact (Stp.of FC.out).trans (HBC.out.stp 2 _)
          have hsz : w1.heap.size = wC.heap.size := by rw [hw1]; simp [World.setCell]
          have HW1 := Lib.hid hw1; have HB1 := Lib.hid hB1; have HS1 := Lib.hid hS1
          clear hw1 hB1 hS1 h92 h91 h41 h40
          by_cases h46 : c = 46
          · rw [if_pos h46] at hR
            have t5 : ((c.toNat : Int) == 46) = true := tb_eq (b := 46) h46
            have hsp := span_lit 0 255 w1 (by decide) (by decide)
            rw [show ((0 : Nat) : Int) = 0 from rfl, show ((255 : Nat) : Int) = 255 from rfl] at hsp
            obtain ⟨u, hu⟩ : ∃ u, spn 0 255 = u := ⟨_, rfl⟩
            rw [hu] at hsp hR
            subst hR
            have HSP := Lib.hid hsp
            clear h46 hsp hu
            go_wp2_with (rw [← HW1.out])
            with_reducible refine (HSP.out).mono ?_
            rintro e w2 ⟨rfl, f2⟩
            have F2 := Lib.hid f2; clear f2
            go_wp2
            go_ret
            exact ⟨_, S, rfl, by rw [RN]; rfl, ⟨_, _, _, HB1.out.on F2.out⟩, HS1.out.trans (Stp.of F2.out)⟩
          · rw [if_neg h46] at hR
            have t5 : ((c.toNat : Int) == 46) = false := tb_ne (b := 46) h46
            have hw8 : IntKind.u8.wrap (c.toNat : Int) = c.toNat := IntWalk.u8_in _ (by omega)
            have ho := of_one c w1 5
            obtain ⟨u, hu⟩ : ∃ u, spn c.toNat c.toNat = u := ⟨_, rfl⟩
            rw [hu, hsz] at ho
            rw [hu] at hR
            subst hR
            have HO := Lib.hid ho
            clear h46 ho hu
            go_wp2_with (rw [← HW1.out])
            with_reducible refine (HO.out).mono ?_
            rintro e w2 ⟨rfl, f2⟩
            have F2 := Lib.hid (((Fr.refl nob w1).alloc _).trans' f2); clear f2
            go_wp2
            go_ret
            exact ⟨_, S, rfl, by rw [RN]; rfl, ⟨_, _, _, HB1.out.on F2.out⟩, HS1.out.trans (Stp.of F2.out)⟩
end Go.Proofs.YtepeomphikhbkaaGreatDoor
