/-
  Merged texts of this claim: EreG, EreH, EreI.
-/
import Derived.Test.YtmoeboknelnaoaaGreatDoorM16
import Derived.Test.YtmoeboknelnaoaaGreatDoorM17
import Derived.Test.YtmoeboknelnaoaaGreatDoorM24

/-
  Walk of package ere: atom.
-/
namespace Go.Proofs.YtmoeboknelnaoaaGreatDoor
open Go.RowKit

abbrev CC02 (w : World) (b : Nat) (v0 v1 : Value) : Prop := w.cell? ⟨b, 0, none⟩ = some v0 ∧ w.cell? ⟨b, 2, none⟩ = some v1
theorem cc02_on {w w' : World} {b : Nat} {v0 v1 : Value} (h : CC02 w b v0 v1) (f : Fr nob w w') : CC02 w' b v0 v1 := ⟨f.cell h.1 (fun x => x), f.cell h.2 (fun x => x)⟩

set_option maxRecDepth 100000 in
set_option maxHeartbeats 2000000 in
theorem er_atom (b : Nat) (l : List UInt8) (W0 : World) (deep : Nat) (C : Option (ES → Nd × ES)) (s : ES) (S O : Nat → Prop) (w : World) (c : UInt8) (hO : ∀ k, O k → k < w.heap.size) (hl : l.length ≤ 100000) (hE0 : Env W0) (hG : GrX l W0 deep C)
    (hs : Sane l s.r) (hx : l[s.r.at_]? = some c) (hW : Wd W0 S w) (h : Erd b l s S w) :
    Calls Tryz.prog 122 #[.pointer (some ⟨b, 0, none⟩), .int .i64 deep] w (OutX b l S O w (atomX l C s c)) := by
  obtain ⟨R, hR⟩ : ∃ R, atomX l C s c = R := ⟨_, rfl⟩
  rw [hR]
  have hlt := getE_lt hx
  have hN := er_next b l s S w hl hs.le h
  rw [hx] at hN
  have hN : Calls Tryz.prog 118 #[.pointer (some ⟨b, 0, none⟩)] w fun x w' => x = .returned (.int .i32 (c.toNat : Int)) ∧ Fr nob w w' := hN
  have hGR := fun w' (f : Fr nob w w') => hG b s S O w' (fun k hk => Nat.lt_of_lt_of_le (hO k hk) f.size) hs hlt (hW.stp (Stp.of f)) (h.on f)
  have hES := fun w' (f : Fr nob w w') => er_escape b l s S O w' hl hlt hs (fun k hk => Nat.lt_of_lt_of_le (hW.lt k hk) f.size) (h.on f)
  have HGR := Lib.hid hGR; have HES := Lib.hid hES; have HH := Lib.hid h
  obtain ⟨sv, m, mv, hE⟩ := h
  have HE := Lib.hid hE; have HW := Lib.hid hW; have HN := Lib.hid hN
  have hcb := c.toNat_lt
  clear hGR hES hG hE hW hO hN hx hs
  go_enter Tryz.func122, Tryz.ntmps122
  go_wp2_with fail
  with_reducible refine HN.out.mono ?_
  rintro e wC ⟨rfl, fC⟩
  have hBC := HE.out.on fC
  obtain ⟨⟨k0, _, k2, _⟩, j0, _, j2, _⟩ := rule8 hBC.blk _ (Fr.refl _ _)
  have HBC := Lib.hid hBC; have FC := Lib.hid fC
  clear hBC fC
  unfold atomX at hR
  by_cases h40 : c = 40
  · rw [if_pos h40] at hR
    have t1 : ((c.toNat : Int) == 40) = true := tb_eq (b := 40) h40
    have HQ := Lib.hid (HGR.out wC FC.out)
    rw [hR] at HQ
    clear h40 hR k0 k2 j0 j2
    go_wp2_with fail
    with_reducible refine (HQ.out).mono ?_
    rintro e w2 ⟨v2, S2, rfl, rn2, r2, st2⟩
    have RN2 := Lib.hid rn2; have R2 := Lib.hid r2; have ST2 := Lib.hid ((Stp.of FC.out).trans st2); clear rn2 r2 st2
    go_wp2
    go_ret
    exact ⟨_, S2, rfl, RN2.out, R2.out, ST2.out⟩
  · rw [if_neg h40] at hR
    have t1 : ((c.toNat : Int) == 40) = false := tb_ne (b := 40) h40
    by_cases h41 : c = 41
    · rw [if_pos h41] at hR
      have t2 : ((c.toNat : Int) == 41) = true := tb_eq (b := 41) h41
      have hf := er_fail b l s S 8 s.r.at_ wC hl (by decide) (HH.out.on FC.out)
      have HF := Lib.hid hf
      subst hR
      clear h40 h41 hf
      go_wp2_with fail
      with_reducible refine (HF.out).mono ?_
      rintro e w2 ⟨rfl, e2, t2'⟩
      have E2 := Lib.hid e2; have T2 := Lib.hid ((Stp.of FC.out).trans t2'); clear e2 t2'
      go_wp2
      go_ret
      exact ⟨.nilIface, S, rfl, by rw [RN], E2.out, T2.out⟩
    · rw [if_neg h41] at hR
      have t2 : ((c.toNat : Int) == 41) = false := tb_ne (b := 41) h41
      by_cases h92 : c = 92
      · rw [if_pos h92] at hR
        have t3 : ((c.toNat : Int) == 92) = true := tb_eq (b := 92) h92
        have HQ := Lib.hid (HES.out wC FC.out)
        rw [hR] at HQ
        clear h40 h41 h92 hR k0 k2 j0 j2
        go_wp2_with fail
        with_reducible refine (HQ.out).mono ?_
        rintro e w2 ⟨v2, S2, rfl, rn2, r2, st2⟩
        have RN2 := Lib.hid rn2; have R2 := Lib.hid r2; have ST2 := Lib.hid ((Stp.of FC.out).trans st2); clear rn2 r2 st2
        go_wp2
        go_ret
        exact ⟨_, S2, rfl, RN2.out, R2.out, ST2.out⟩
      · rw [if_neg h92] at hR
        have t3 : ((c.toNat : Int) == 92) = false := tb_ne (b := 92) h92
        by_cases h91 : c = 91
        · rw [if_pos h91] at hR
          have t4 : ((c.toNat : Int) == 91) = true := tb_eq (b := 91) h91
          have hEnv : ∀ w', Fr nob wC w' → Env w' := fun w' f => hE0.on ((HW.out.fr.trans' FC.out).trans' f)
          have hP := fun w' (f : Fr nob wC w') => parse_all l ((s.r.at_ : Int) + 1) w' hl (hEnv w' f)
          rw [show ((s.r.at_ : Int) + 1) = ((s.r.at_ + 1 : Nat) : Int) from by simp, prz_in (by omega)] at hP
          rw [show ((s.r.at_ + 1 : Nat) : Int) = (s.r.at_ : Int) + 1 from by simp] at hP
          have hw : IntKind.i64.wrap ((s.r.at_ : Int) + 1) = s.r.at_ + 1 := IntWalk.i64_in _ (by omega)
          have hcc : CC02 wC b (.string ⟨l.toArray⟩) (.int .i64 s.r.at_) := ⟨k0, k2⟩
          have HC := Lib.hid hcc
          obtain ⟨P, hPP⟩ : ∃ P, prs l (s.r.at_ + 1) = P := ⟨_, rfl⟩
          rw [hPP] at hP hR
          obtain ⟨u, k, e0, hv, hcase⟩ : ∃ (u : S4) (k : Nat) (e0 : Int), prsV P = .tuple #[setV u, .int .i64 k, .int .i64 e0] ∧ ((e0 ≠ 0 ∧ R = (.nil, s.fail l e0 k)) ∨ (e0 = 0 ∧ R = (.one u, s.to k))) := by
            cases P with
            | inl z => obtain ⟨z1, z2⟩ := z; exact ⟨S4.zero, z2, z1, rfl, .inl ⟨prs_err hPP, hR.symm⟩⟩
            | inr q => obtain ⟨u, k⟩ := q; exact ⟨u, k, 0, rfl, .inr ⟨rfl, hR.symm⟩⟩
          rw [hv] at hP
          have HP := Lib.hid hP; have HCS := Lib.hid hcase
          have rzA := rule4 (show (wC.alloc (.cells #[.int .u64 0, .int .u64 0, .int .u64 0, .int .u64 0] 91)).heap[wC.heap.size]? = some (.cells #[.int .u64 0, .int .u64 0, .int .u64 0, .int .u64 0] 91) from newAt0 wC _)
          have RZA := Lib.hid rzA
          have hSC : ∀ k, wC.heap.size ≤ k → ¬ S k := fun k hk h => by have := HW.out.lt k h; have := FC.out.size; omega
          have HSC := Lib.hid hSC
          clear hP hEnv k0 k2 j0 j2 h91 h92 h41 h40 hcc hPP rzA hv hcase hR hSC
          go_wp2_with fail
          go_region_held3 (fun w' => CC02 w' b (.string ⟨l.toArray⟩) (.int .i64 s.r.at_)) (first | (with_reducible exact HC.out) | (with_reducible exact cc02_on HC.out ((Fr.refl nob wC).drew)) | (with_reducible exact cc02_on HC.out (((Fr.refl nob wC).alloc _).drew)) | (with_reducible exact cc02_on HC.out (((Fr.refl nob wC).drew).alloc _)) | (with_reducible exact cc02_on HC.out G1) | (with_reducible exact cc02_on HC.out (G1.drew)) | (with_reducible exact cc02_on HC.out (G1.alloc _)) | (with_reducible exact cc02_on HC.out (setFour_frS G1 (Nat.le_refl _) _ _ _ _)) | (with_reducible exact cc02_on HC.out (setFour_frS (G1.alloc _) G1.size _ _ _ _)) | (trace_state; fail)) (first | (go_at_call 144; (first | ((with_reducible refine (HP.out _ ((Fr.refl nob wC).drew)).mono ?_); rintro e g1 ⟨rfl, f1⟩; have G1 : Fr nob wC g1 := ((Fr.refl nob wC).drew).trans' f1; have hz := newAt0 g1 (.cells #[.int .u64 0, .int .u64 0, .int .u64 0, .int .u64 0] 91); have HZ := Lib.hid hz; have rz := rule4 hz _ (Fr.refl nob _)) | ((with_reducible refine (HP.out _ (((Fr.refl nob wC).alloc _).drew)).mono ?_); rintro e g1 ⟨rfl, f1⟩; have G1 : Fr nob wC g1 := (((Fr.refl nob wC).alloc _).drew).trans' f1; have hz := (((Fr.refl nob _).drew).trans' f1).heap (newAt0 wC (.cells #[.int .u64 0, .int .u64 0, .int .u64 0, .int .u64 0] 91)) (fun x => x); have HZ := Lib.hid hz; have rz := RZA.out g1 (((Fr.refl nob _).drew).trans' f1))); clear f1 hz))
          · obtain ⟨wf, hwf⟩ : ∃ wf, wf = g1.alloc (.cells #[.int .u64 u.a, .int .u64 u.b, .int .u64 u.c, .int .u64 u.d] 91) := ⟨_, rfl⟩
            have hset : At4 wf g1.heap.size u := by rw [hwf]; exact newAt0 g1 _
            have hfr : Fr nob wC wf := by rw [hwf]; exact G1.alloc _
            rw [← hwf]
            have HF := Lib.hid hfr; have HSET := Lib.hid hset; have hge : wC.heap.size ≤ g1.heap.size := G1.size
            clear hwf hfr hset rz
            have hBf := HBC.out.on HF.out
            have hbl := lt_heap HBC.out.blk
            have hnb : g1.heap.size ≠ b := by omega
            obtain ⟨⟨_, _, n1, _⟩, _, _, n2, _⟩ := rule8 hBf.blk _ (Fr.refl _ _)
            have hnS := HSC.out g1.heap.size hge
            have HBf := Lib.hid hBf; clear hBf
            rcases HCS.out with ⟨hne, hR⟩ | ⟨hne, hR⟩
            · subst hR
              have hz' : ((e0 : Int) != 0) = true := by simpa using hne
              have hf := er_fail b l s S e0 k wf hl hne ⟨_, _, _, HBf.out⟩
              have HFL := Lib.hid hf
              clear hf n1 n2
              go_wp2_with fail
              with_reducible refine (HFL.out).mono ?_
              rintro e w2 ⟨rfl, e2, t2'⟩
              have E2 := Lib.hid e2; have T2 := Lib.hid (((Stp.of FC.out).trans (Stp.of HF.out)).trans t2'); clear e2 t2'
              go_wp2
              go_ret
              exact ⟨.nilIface, S, rfl, by rw [RN], E2.out, T2.out⟩
            · subst hR
              subst hne
              have hq6 : Q4 (wf.setCell ⟨b, 2, none⟩ (.int .i64 (k : Nat))) (g1.heap.size) u := by
                have g := (Fr.refl (fun i => i = b) wf).setCell (p := ⟨b, 2, none⟩) (fun _ => rfl) (.int .i64 (k : Nat))
                have q := Q4.of HSET.out
                exact ⟨g.cell q.1 hnb, g.cell q.2.1 hnb, g.cell q.2.2.1 hnb, g.cell q.2.2.2 hnb⟩
              go_wp2
              go_ret
              exact ⟨_, S, rfl, by rw [RN]; rfl, ⟨_, _, _, HBf.out.turned 2 _ (s.to k) (by simp [RxS.to, ES.to]) rfl rfl HBf.out.ok⟩, ((Stp.of FC.out).trans (Stp.of HF.out)).trans (HBf.out.stp 2 _)⟩
          · obtain ⟨wf, hwf⟩ : ∃ wf, wf = ((((g1.setCell ⟨wC.heap.size, 0, none⟩ (.int .u64 u.a)).setCell ⟨wC.heap.size, 1, none⟩ (.int .u64 u.b)).setCell ⟨wC.heap.size, 2, none⟩ (.int .u64 u.c)).setCell ⟨wC.heap.size, 3, none⟩ (.int .u64 u.d)) := ⟨_, rfl⟩
            have hset : At4 wf wC.heap.size u := by rw [hwf]; with_reducible exact setFour_heap HZ.out _ _ _ _
            have hfr : Fr nob wC wf := by rw [hwf]; exact setFour_frS (G1) (Nat.le_refl _) _ _ _ _
            rw [← hwf]
            have HF := Lib.hid hfr; have HSET := Lib.hid hset; have hge : wC.heap.size ≤ wC.heap.size := Nat.le_refl _
            clear hwf hfr hset rz
            have hBf := HBC.out.on HF.out
            have hbl := lt_heap HBC.out.blk
            have hnb : wC.heap.size ≠ b := by omega
            obtain ⟨⟨_, _, n1, _⟩, _, _, n2, _⟩ := rule8 hBf.blk _ (Fr.refl _ _)
            have hnS := HSC.out wC.heap.size hge
            have HBf := Lib.hid hBf; clear hBf
            rcases HCS.out with ⟨hne, hR⟩ | ⟨hne, hR⟩
            · subst hR
              have hz' : ((e0 : Int) != 0) = true := by simpa using hne
              have hf := er_fail b l s S e0 k wf hl hne ⟨_, _, _, HBf.out⟩
              have HFL := Lib.hid hf
              clear hf n1 n2
              go_wp2_with fail
              with_reducible refine (HFL.out).mono ?_
              rintro e w2 ⟨rfl, e2, t2'⟩
              have E2 := Lib.hid e2; have T2 := Lib.hid (((Stp.of FC.out).trans (Stp.of HF.out)).trans t2'); clear e2 t2'
              go_wp2
              go_ret
              exact ⟨.nilIface, S, rfl, by rw [RN], E2.out, T2.out⟩
            · subst hR
              subst hne
              have hq6 : Q4 (wf.setCell ⟨b, 2, none⟩ (.int .i64 (k : Nat))) (wC.heap.size) u := by
                have g := (Fr.refl (fun i => i = b) wf).setCell (p := ⟨b, 2, none⟩) (fun _ => rfl) (.int .i64 (k : Nat))
                have q := Q4.of HSET.out
                exact ⟨g.cell q.1 hnb, g.cell q.2.1 hnb, g.cell q.2.2.1 hnb, g.cell q.2.2.2 hnb⟩
              go_wp2
              go_ret
              exact ⟨_, S, rfl, by rw [RN]; rfl, ⟨_, _, _, HBf.out.turned 2 _ (s.to k) (by simp [RxS.to, ES.to]) rfl rfl HBf.out.ok⟩, ((Stp.of FC.out).trans (Stp.of HF.out)).trans (HBf.out.stp 2 _)⟩
        · rw [if_neg h91] at hR
          have t4 : ((c.toNat : Int) == 91) = false := tb_ne (b := 91) h91
          obtain ⟨w1, hw1⟩ : ∃ w1, w1 = wC.setCell ⟨b, 2, none⟩ (.int .i64 ((s.r.at_ : Int) + 1)) := ⟨_, rfl⟩
          have hB1 : Er b l (s.go 1) S sv m mv w1 := by rw [hw1]; exact HBC.out.turned 2 _ (s.go 1) (by simp [RxS.go, ES.go]) rfl rfl HBC.out.ok
          have hS1 : Stp S w S w1 := by rw [hw1]; exact (Stp.of FC.out).trans (HBC.out.stp 2 _)
          have hsz : w1.heap.size = wC.heap.size := by rw [hw1]; simp [World.setCell]
          have HW1 := Lib.hid hw1; have HB1 := Lib.hid hB1; have HS1 := Lib.hid hS1
          clear hw1 hB1 hS1 h92 h91 h41 h40
          by_cases h46 : c = 46
          · rw [if_pos h46] at hR
            have t5 : ((c.toNat : Int) == 46) = true := tb_eq (b := 46) h46
            have hsp := span_lit 0 255 w1 (by decide) (by decide)
            rw [show ((0 : Nat) : Int) = 0 from rfl, show ((255 : Nat) : Int) = 255 from rfl] at hsp
            obtain ⟨u, hu⟩ : ∃ u, spn 0 255 = u := ⟨_, rfl⟩
            rw [hu] at hsp hR
            subst hR
            have HSP := Lib.hid hsp
            clear h46 hsp hu
            go_wp2_with (rw [← HW1.out])
            with_reducible refine (HSP.out).mono ?_
            rintro e w2 ⟨rfl, f2⟩
            have F2 := Lib.hid f2; clear f2
            go_wp2
            go_ret
            exact ⟨_, S, rfl, by rw [RN]; rfl, ⟨_, _, _, HB1.out.on F2.out⟩, HS1.out.trans (Stp.of F2.out)⟩
          · rw [if_neg h46] at hR
            have t5 : ((c.toNat : Int) == 46) = false := tb_ne (b := 46) h46
            have hw8 : IntKind.u8.wrap (c.toNat : Int) = c.toNat := IntWalk.u8_in _ (by omega)
            have ho := of_one c w1 5
            obtain ⟨u, hu⟩ : ∃ u, spn c.toNat c.toNat = u := ⟨_, rfl⟩
            rw [hu, hsz] at ho
            rw [hu] at hR
            subst hR
            have HO := Lib.hid ho
            clear h46 ho hu
            go_wp2_with (rw [← HW1.out])
            with_reducible refine (HO.out).mono ?_
            rintro e w2 ⟨rfl, f2⟩
            have F2 := Lib.hid (((Fr.refl nob w1).alloc _).trans' f2); clear f2
            go_wp2
            go_ret
            exact ⟨_, S, rfl, by rw [RN]; rfl, ⟨_, _, _, HB1.out.on F2.out⟩, HS1.out.trans (Stp.of F2.out)⟩
end Go.Proofs.YtmoeboknelnaoaaGreatDoor

/-
  Walk of package ere: branch. Printed by tools/ereh.py.
-/
namespace Go.Proofs.YtmoeboknelnaoaaGreatDoor
open Go.RowKit

section
variable {b : Nat} {l : List UInt8} {s : ES} {S : Nat → Prop} {W w w' : World}
theorem Erd.off (h : Erd b l s S w) (f : Off S W w w') (hW : b < W.heap.size) : Erd b l s S w' := by
  obtain ⟨sv, m, mv, h⟩ := h
  obtain ⟨X, f, hX⟩ := f
  exact ⟨sv, m, mv, f.heap h.blk (fun x => (hX _ x).1 h.me), ownsRow_fr h.sg f (fun k hk x => by have := (hX _ x).2; have := (h.ns k hk).1; omega), h.mp.fr f (fun x => (hX _ x).1 h.mm), ownsRow_fr h.ma f (fun k hk x => (hX _ x).1 (h.nm k hk).2.2), h.nm, h.bm, h.ns, h.me, h.mm, h.ok⟩
theorem Erd.lt (h : Erd b l s S w) : b < w.heap.size := by obtain ⟨_, _, _, h⟩ := h; exact lt_heap h.blk
end
theorem fail_none {l : List UInt8} {s : ES} {e : Int} {p : Nat} : l[(s.fail l e p).r.at_]? = none := by show l[l.length]? = none; simp
theorem atomX_nil {l : List UInt8} {C : Option (ES → Nd × ES)} {s : ES} {c : UInt8} (h : (atomX l C s c).1 = .nil) : l[(atomX l C s c).2.r.at_]? = none := by
  obtain ⟨q, hq⟩ : ∃ q, atomX l C s c = q := ⟨_, rfl⟩
  rw [hq] at h ⊢
  unfold atomX at hq
  split at hq
  · unfold groupX at hq
    cases C with
    | none => subst hq; exact fail_none
    | some f => subst hq; cases h
  · split at hq
    · subst hq; exact fail_none
    · split at hq
      · unfold escX at hq
        cases hc : l[s.r.at_ + 1]? with
        | none => rw [hc] at hq; subst hq; exact fail_none
        | some d =>
          rw [hc] at hq
          simp only at hq
          split at hq
          · subst hq; cases h
          · split at hq <;> (subst hq; cases h)
      · split at hq
        · split at hq
          · subst hq; exact fail_none
          · subst hq; cases h
        · split at hq <;> (subst hq; cases h)

def BrX (b : Nat) (l : List UInt8) (C : Option (ES → Nd × ES)) (inner : Bool) (S O : Nat → Prop) (w : World) (F : Nd × ES) (n : Nat) (v5 v6 : Value) (wr : World) : Prop :=
  ∃ front s ps S', v6 = .bool front ∧ Pts S' O w wr ps v5 ∧ Erd b l s S' wr ∧ Stp S w S' wr ∧ Sane l s.r ∧ l.length < n + s.r.at_ ∧ Nd.sizes ps ≤ 3 * s.r.at_ ∧ brX l C inner n front s ps = F
def spc (c : UInt8) : Bool := c == 42 || (c == 43 || (c == 63 || c == 123))
theorem spc_iff {c : UInt8} : spc c = true ↔ (c = 42 ∨ c = 43 ∨ c = 63 ∨ c = 123) := by simp [spc]
theorem shape_nd {S : Nat → Prop} {w : World} {t : Nd} {v : Value} (h : RN S w t v) : v = .nilIface ∨ ∃ i y, v = .iface i y := by
  rcases h.kind' with rfl | h'
  · rw [RN] at h; exact .inl h
  · exact .inr h'

set_option maxRecDepth 100000 in
set_option maxHeartbeats 8000000 in
theorem er_branch (b : Nat) (l : List UInt8) (W0 : World) (deep : Nat) (C : Option (ES → Nd × ES)) (s : ES) (S O : Nat → Prop) (w : World) (hO : ∀ k, O k → k < w.heap.size) (hl : l.length ≤ 100000) (hd : deep ≤ 12) (hE0 : Env W0)
    (hG : GrX l W0 deep C) (hC : ∀ f, C = some f → ∀ s, Sane l s.r → Kp l s (f s) 2) (hs : Sane l s.r) (hW : Wd W0 S w) (h : Erd b l s S w) :
    Calls Tryz.prog 102 #[.pointer (some ⟨b, 0, none⟩), .int .i64 deep] w (OutX b l S O w (branchX l C (decide (0 < deep)) s)) := by
  obtain ⟨inner, hin⟩ : ∃ inner, decide (0 < deep) = inner := ⟨_, rfl⟩
  obtain ⟨F, hF⟩ : ∃ F, branchX l C inner s = F := ⟨_, rfl⟩
  rw [hin, hF]
  obtain ⟨fu, hfu, hfl⟩ : ∃ fu, (if sgn l s.r.at_ == [94] then l.length + 2 else l.length + 1) = fu ∧ l.length < fu := ⟨_, rfl, by split <;> omega⟩
  unfold branchX at hF
  rw [hfu] at hF
  have HSN := Lib.hid hs; have HW := Lib.hid hW; have HG := Lib.hid hG; have HC := Lib.hid hC; have HE0 := Lib.hid hE0; have HOO := Lib.hid hO; have HH := Lib.hid h; have HF := Lib.hid hF
  have hbw := h.lt
  have hdI : inner = true → (0 : Int) < deep := fun e => by rw [e] at hin; have := of_decide_eq_true hin; omega
  have hdN : inner = false → ¬ (0 : Int) < deep := fun e => by rw [e] at hin; have := of_decide_eq_false hin; omega
  have HDI := Lib.hid hdI; have HDN := Lib.hid hdN
  clear hs hW hG hC hE0 hO h hin hfu hF hdI hdN
  go_enter Tryz.func102, Tryz.ntmps102
  go_wp2_with fail
  go_loopg [5, 6] fu (fun n u v wr => BrX b l C inner S O w F n u v wr)
  case atStart => exact ⟨true, s, [], S, rfl, Pts.nil _ _ _ _, HH.out, Stp.refl _ _, HSN.out, by omega, Nat.zero_le _, HF.out⟩
  case round =>
    clear HH HSN HF hfl
    obtain ⟨front, s, ps, S1, rfl, hp, hr, hst, hsn, hn, hz, hF⟩ := hrel
    have hsle := hsn.le
    obtain ⟨m, rfl⟩ : ∃ m, gk = m + 1 := ⟨gk - 1, by omega⟩
    obtain ⟨av, cv0, hv⟩ := hp.shape
    subst hv
    obtain ⟨v5, hv5⟩ : ∃ v5, v5 = Value.slice av ps.length cv0 := ⟨_, rfl⟩
    have hN := er_next b l s S1 wr hl hsle hr
    have HP := Lib.hid (show Pts S1 O w wr ps v5 from hv5 ▸ hp); have HR := Lib.hid hr; have HST := Lib.hid hst; have HSN := Lib.hid hsn; have HF := Lib.hid hF; have HV5 := Lib.hid hv5
    have HW1 := Lib.hid (HW.out.stp hst)
    have HJ := Lib.hid (fun (w' : World) (f : Fr nob wr w') => joinS_any (SO S1 O) ps (.slice av ps.length cv0) w' (fun k hk => Nat.lt_of_lt_of_le (hk.elim ((HW.out.stp hst).lt k) (fun x => Nat.lt_of_lt_of_le (HOO.out k x) hst.fr.size)) f.size) (by omega) ((hp.on f).sn HOO.out))
    have hpl := Nd.length_le ps
    clear hp hr hst hsn hF hv5
    cases hc : l[s.r.at_]? with
    | none =>
      rw [hc] at hN
      have hN : Calls Tryz.prog 118 #[.pointer (some ⟨b, 0, none⟩)] wr fun x w' => x = .returned (.int .i32 (-1)) ∧ Fr nob wr w' := hN
      have HN := Lib.hid hN
      have hF := HF.out
      rw [brX, hc] at hF
      simp only at hF
      subst hF
      clear HF hN hc
      go_wp2_with fail
      with_reducible refine HN.out.mono ?_
      rintro e w1 ⟨rfl, f1⟩
      have F1 := Lib.hid f1; clear f1
      go_wp2_with fail
      refine (HJ.out _ F1.out).mono ?_
      rintro e wj ⟨r, rfl, hrj, fj⟩
      have HRJ := Lib.hid hrj; have FJ := Lib.hid (F1.out.trans' fj); clear hrj fj
      go_wp2
      go_ret
      exact ⟨r, S1, rfl, HRJ.out, HR.out.on FJ.out, HST.out.trans (Stp.of FJ.out)⟩
    | some c =>
      have hlt := getE_lt hc
      rw [hc] at hN
      have hN : Calls Tryz.prog 118 #[.pointer (some ⟨b, 0, none⟩)] wr fun x w' => x = .returned (.int .i32 (c.toNat : Int)) ∧ Fr nob wr w' := hN
      have HN := Lib.hid hN
      have hcb := c.toNat_lt
      have tm : ((c.toNat : Int) == -1) = false := by first | (simp; done) | (simp; omega)
      have hF := HF.out
      rw [brX, hc] at hF
      simp only at hF
      obtain ⟨sv, mm, mv, hE⟩ := HR.out
      have HE := Lib.hid hE
      clear HF hN hE
      by_cases h41 : c = 41
      · have t41 : ((c.toNat : Int) == 41) = true := tb_eq (b := 41) h41
        cases hi : inner with
        | true =>
          have hdeep := HDI.out hi
          rw [if_pos (.inl ⟨h41, hi⟩)] at hF
          subst hF
          clear hc
          go_wp2_with fail
          with_reducible refine HN.out.mono ?_
          rintro e w1 ⟨rfl, f1⟩
          have F1 := Lib.hid f1; clear f1
          go_wp2_with fail
          refine (HJ.out _ F1.out).mono ?_
          rintro e wj ⟨r, rfl, hrj, fj⟩
          have HRJ := Lib.hid hrj; have FJ := Lib.hid (F1.out.trans' fj); clear hrj fj
          go_wp2
          go_ret
          exact ⟨r, S1, rfl, HRJ.out, HR.out.on FJ.out, HST.out.trans (Stp.of FJ.out)⟩
        | false =>
          have hdeep := HDN.out hi
          have h124 : ¬ c = 124 := by rw [h41]; decide
          have h94 : ¬ c = 94 := by rw [h41]; decide
          have h36 : ¬ c = 36 := by rw [h41]; decide
          rw [if_neg (fun h => h.elim (fun h => by rw [hi] at h; cases h.2) h124), if_neg h94, if_neg h36] at hF
          have hfr : frtX l front s c = s.fail l 8 s.r.at_ := by unfold frtX; rw [if_pos h41]
          have hfr2 : (if (frtX l front s c).x.isSome then (Nd.nil, frtX l front s c) else brX l C inner m false (repX l (l.length + 1) (atomX l C s c).2 (atomX l C s c).1).2 (ps ++ [(repX l (l.length + 1) (atomX l C s c).2 (atomX l C s c).1).1])) = (Nd.nil, s.fail l 8 s.r.at_) := by rw [hfr]; rfl
          clear hfr hc
          go_wp2_with fail
          with_reducible refine HN.out.mono ?_
          rintro e w1 ⟨rfl, f1⟩
          have F1 := Lib.hid f1; clear f1
          have hf := er_fail b l s S1 8 s.r.at_ w1 hl (by decide) (HR.out.on F1.out)
          have hE1 := HE.out.on F1.out
          have rr := rule8 hE1.blk _ (Fr.refl _ _)
          rw [hfr2] at hF
          have hF : (Nd.nil, s.fail l 8 s.r.at_) = F := hF
          subst hF
          have HFL := Lib.hid hf
          clear hf hE1
          go_wp2_with fail
          with_reducible refine HFL.out.mono ?_
          rintro e w2 ⟨rfl, ⟨sv2, m2, mv2, e2⟩, t2'⟩
          have rr2 := rule8 e2.blk _ (Fr.refl _ _)
          have hex : eX (s.fail l 8 s.r.at_).x ≠ 0 := e2.ok _ rfl
          obtain ⟨ev, hev⟩ : ∃ ev, eX (s.fail l 8 s.r.at_).x = ev := ⟨_, rfl⟩
          rw [hev] at rr2 hex
          have hex' : ((ev : Int) != 0) = true := by simpa using hex
          have E2 := Lib.hid e2; have T2 := Lib.hid ((Stp.of F1.out).trans t2'); clear e2 t2' hev rr
          go_wp2
          go_ret
          exact ⟨.nilIface, S1, rfl, by rw [RN], ⟨_, _, _, E2.out⟩, HST.out.trans T2.out⟩
      · have t41 : ((c.toNat : Int) == 41) = false := tb_ne (b := 41) h41
        by_cases h124 : c = 124
        · have t124 : ((c.toNat : Int) == 124) = true := tb_eq (b := 124) h124
          rw [if_pos (.inr h124)] at hF
          subst hF
          clear hc
          go_wp2_with fail
          with_reducible refine HN.out.mono ?_
          rintro e w1 ⟨rfl, f1⟩
          have F1 := Lib.hid f1; clear f1
          go_wp2_with fail
          refine (HJ.out _ F1.out).mono ?_
          rintro e wj ⟨r, rfl, hrj, fj⟩
          have HRJ := Lib.hid hrj; have FJ := Lib.hid (F1.out.trans' fj); clear hrj fj
          go_wp2
          go_ret
          exact ⟨r, S1, rfl, HRJ.out, HR.out.on FJ.out, HST.out.trans (Stp.of FJ.out)⟩
        · have t124 : ((c.toNat : Int) == 124) = false := tb_ne (b := 124) h124
          rw [if_neg (fun h => h.elim (fun h => h41 h.1) h124)] at hF
          by_cases h94 : c = 94
          · have t94 : ((c.toNat : Int) == 94) = true := tb_eq (b := 94) h94
            rw [if_pos h94] at hF
            have hF2 := Lib.hid hF
            clear hF hc
            go_wp2_with fail
            with_reducible refine HN.out.mono ?_
            rintro e w1 ⟨rfl, f1⟩
            have F1 := Lib.hid f1; clear f1
            have hE1 := HE.out.on F1.out
            have rr := rule8 hE1.blk _ (Fr.refl _ _)
            have hE2 := hE1.turned 2 (.int .i64 ((s.r.at_ : Int) + 1)) (s.go 1) (by simp [RxS.go, ES.go]) rfl rfl hE1.ok
            have t2 := (Stp.of F1.out).trans (hE1.stp 2 (.int .i64 ((s.r.at_ : Int) + 1)))
            obtain ⟨w2, hw2⟩ : ∃ w2, w2 = w1.setCell ⟨b, 2, none⟩ (.int .i64 ((s.r.at_ : Int) + 1)) := ⟨_, rfl⟩
            rw [← hw2] at hE2 t2
            have HP2 := Lib.hid (HP.out.stp t2)
            have HLT2 := Lib.hid (HW1.out.stp t2).lt
            have HOT := Lib.hid (show ∀ k, O k → k < w2.heap.size from fun k hk => Nat.lt_of_lt_of_le (HOO.out k hk) (Nat.le_trans HST.out.fr.size t2.fr.size))
            have HWS := Lib.hid (Nat.le_trans HST.out.fr.size t2.fr.size)
            have hsz2 : w2.heap.size = w1.heap.size := by rw [hw2]; simp [World.setCell]
            have H2 := Lib.hid hw2; have E2 := Lib.hid (show Erd b l (s.go 1) S1 w2 from ⟨_, _, _, hE2⟩); have T2 := Lib.hid t2
            clear hE1 hE2 t2 hw2
            go_wp2_with (first | (with_reducible rw [← H2.out]) | (at_builtin; refine wpList_append_pts (W := w) (S := S1) (O := O) rfl (.tmp 37) (.tmp 40) rfl ps .start v5 (.iface 104 (.agg #[])) _ w1.heap.size (by rw [HV5.out]; rfl) HP2.out HLT2.out HOT.out HWS.out hsz2.symm (by rfl) (by rw [RN]) (by omega) ?_; intro va wa hpa offa; obtain ⟨aa, ca, hea⟩ := hpa.shape; simp only [List.length_append, List.length_singleton] at hea; subst hea; have HPA := Lib.hid hpa; have HOA := Lib.hid offa; clear hpa offa))
            go_roundg m
            case measure => omega
            case rel =>
              refine ⟨true, s.go 1, ps ++ [.start], S1, rfl, HPA.out, E2.out.off HOA.out hbw, (HST.out.trans T2.out).off HOA.out, HSN.out.goE hlt, ?_, ?_, hF2.out⟩
              · show l.length < m + (s.r.at_ + 1); omega
              · rw [Nd.sizes_append]; show Nd.sizes ps + (1 + 0) ≤ 3 * (s.r.at_ + 1); omega
          · have t94 : ((c.toNat : Int) == 94) = false := tb_ne (b := 94) h94
            rw [if_neg h94] at hF
            by_cases h36 : c = 36
            · have t36 : ((c.toNat : Int) == 36) = true := tb_eq (b := 36) h36
              rw [if_pos h36] at hF
              have hF2 := Lib.hid hF
              clear hF hc
              go_wp2_with fail
              with_reducible refine HN.out.mono ?_
              rintro e w1 ⟨rfl, f1⟩
              have F1 := Lib.hid f1; clear f1
              have hE1 := HE.out.on F1.out
              have rr := rule8 hE1.blk _ (Fr.refl _ _)
              have hE2 := hE1.turned 2 (.int .i64 ((s.r.at_ : Int) + 1)) (s.go 1) (by simp [RxS.go, ES.go]) rfl rfl hE1.ok
              have t2 := (Stp.of F1.out).trans (hE1.stp 2 (.int .i64 ((s.r.at_ : Int) + 1)))
              obtain ⟨w2, hw2⟩ : ∃ w2, w2 = w1.setCell ⟨b, 2, none⟩ (.int .i64 ((s.r.at_ : Int) + 1)) := ⟨_, rfl⟩
              rw [← hw2] at hE2 t2
              have HP2 := Lib.hid (HP.out.stp t2)
              have HLT2 := Lib.hid (HW1.out.stp t2).lt
              have HOT := Lib.hid (show ∀ k, O k → k < w2.heap.size from fun k hk => Nat.lt_of_lt_of_le (HOO.out k hk) (Nat.le_trans HST.out.fr.size t2.fr.size))
              have HWS := Lib.hid (Nat.le_trans HST.out.fr.size t2.fr.size)
              have hsz2 : w2.heap.size = w1.heap.size := by rw [hw2]; simp [World.setCell]
              have H2 := Lib.hid hw2; have E2 := Lib.hid (show Erd b l (s.go 1) S1 w2 from ⟨_, _, _, hE2⟩); have T2 := Lib.hid t2
              clear hE1 hE2 t2 hw2
              go_wp2_with (first | (with_reducible rw [← H2.out]) | (at_builtin; refine wpList_append_pts (W := w) (S := S1) (O := O) rfl (.tmp 51) (.tmp 54) rfl ps .fin v5 (.iface 105 (.agg #[])) _ w1.heap.size (by rw [HV5.out]; rfl) HP2.out HLT2.out HOT.out HWS.out hsz2.symm (by rfl) (by rw [RN]) (by omega) ?_; intro va wa hpa offa; obtain ⟨aa, ca, hea⟩ := hpa.shape; simp only [List.length_append, List.length_singleton] at hea; subst hea; have HPA := Lib.hid hpa; have HOA := Lib.hid offa; clear hpa offa))
              go_roundg m
              case measure => omega
              case rel =>
                refine ⟨true, s.go 1, ps ++ [.fin], S1, rfl, HPA.out, E2.out.off HOA.out hbw, (HST.out.trans T2.out).off HOA.out, HSN.out.goE hlt, ?_, ?_, hF2.out⟩
                · show l.length < m + (s.r.at_ + 1); omega
                · rw [Nd.sizes_append]; show Nd.sizes ps + (1 + 0) ≤ 3 * (s.r.at_ + 1); omega
            · have t36 : ((c.toNat : Int) == 36) = false := tb_ne (b := 36) h36
              rw [if_neg h36] at hF
              go_wp2_with fail
              with_reducible refine HN.out.mono ?_
              rintro e w1 ⟨rfl, f1⟩
              have F1 := Lib.hid f1; clear f1
              go_upto_if 56 with (fail)
              go_cut [56] (fun v w' => v = .bool (spc c) ∧ w1 = w')
              case first =>
                cases hsp : spc c with
                | true =>
                  rcases spc_iff.1 hsp with h | h | h | h
                  · have n0 : ((c.toNat : Int) == 42) = true := by rw [h]; rfl
                    have HM := Lib.hid hsp
                    clear hsp h
                    go_wp2
                    go_meet
                    case rel => exact ⟨by rw [HM.out, n0], rfl⟩
                  · have n0 : ((c.toNat : Int) == 42) = false := by rw [h]; rfl
                    have n1 : ((c.toNat : Int) == 43) = true := by rw [h]; rfl
                    have HM := Lib.hid hsp
                    clear hsp h
                    go_wp2
                    go_meet
                    case rel => exact ⟨by rw [HM.out], rfl⟩
                  · have n0 : ((c.toNat : Int) == 42) = false := by rw [h]; rfl
                    have n1 : ((c.toNat : Int) == 43) = false := by rw [h]; rfl
                    have n2 : ((c.toNat : Int) == 63) = true := by rw [h]; rfl
                    have HM := Lib.hid hsp
                    clear hsp h
                    go_wp2
                    go_meet
                    case rel => exact ⟨by rw [HM.out], rfl⟩
                  · have n0 : ((c.toNat : Int) == 42) = false := by rw [h]; rfl
                    have n1 : ((c.toNat : Int) == 43) = false := by rw [h]; rfl
                    have n2 : ((c.toNat : Int) == 63) = false := by rw [h]; rfl
                    have n3 : ((c.toNat : Int) == 123) = true := by rw [h]; rfl
                    have HM := Lib.hid hsp
                    clear hsp h
                    go_wp2
                    go_meet
                    case rel => exact ⟨by rw [HM.out], rfl⟩
                | false =>
                  have hno : ∀ d : UInt8, spc d = true → c ≠ d := fun d hd e => by rw [e, hd] at hsp; cases hsp
                  have n0 : ((c.toNat : Int) == 42) = false := tb_ne (b := 42) (hno 42 rfl)
                  have n1 : ((c.toNat : Int) == 43) = false := tb_ne (b := 43) (hno 43 rfl)
                  have n2 : ((c.toNat : Int) == 63) = false := tb_ne (b := 63) (hno 63 rfl)
                  have n3 : ((c.toNat : Int) == 123) = false := tb_ne (b := 123) (hno 123 rfl)
                  have HM := Lib.hid hsp
                  clear hsp hno
                  go_wp2
                  go_meet
                  case rel => exact ⟨by rw [HM.out], rfl⟩
              case rest =>
                obtain ⟨rfl, rfl⟩ := hcut
                cases hsp : spc c with
                | true =>
                  have hsp' := spc_iff.1 hsp
                  cases front with
                  | true =>
                    have hfr : frtX l true s c = s.fail l 10 s.r.at_ := by unfold frtX; rw [if_neg h41, if_pos ⟨hsp', rfl⟩]
                    have hfr2 : (if (frtX l true s c).x.isSome then (Nd.nil, frtX l true s c) else brX l C inner m false (repX l (l.length + 1) (atomX l C s c).2 (atomX l C s c).1).2 (ps ++ [(repX l (l.length + 1) (atomX l C s c).2 (atomX l C s c).1).1])) = (Nd.nil, s.fail l 10 s.r.at_) := by rw [hfr]; rfl
                    clear hsp hsp' hfr
                    have hf := er_fail b l s S1 10 s.r.at_ w1 hl (by decide) (HR.out.on F1.out)
                    have hE1 := HE.out.on F1.out
                    have rr := rule8 hE1.blk _ (Fr.refl _ _)
                    rw [hfr2] at hF
                    have hF : (Nd.nil, s.fail l 10 s.r.at_) = F := hF
                    subst hF
                    have HFL := Lib.hid hf
                    clear hf hE1
                    go_wp2_with fail
                    with_reducible refine HFL.out.mono ?_
                    rintro e w2 ⟨rfl, ⟨sv2, m2, mv2, e2⟩, t2'⟩
                    have rr2 := rule8 e2.blk _ (Fr.refl _ _)
                    have hex : eX (s.fail l 10 s.r.at_).x ≠ 0 := e2.ok _ rfl
                    obtain ⟨ev, hev⟩ : ∃ ev, eX (s.fail l 10 s.r.at_).x = ev := ⟨_, rfl⟩
                    rw [hev] at rr2 hex
                    have hex' : ((ev : Int) != 0) = true := by simpa using hex
                    have E2 := Lib.hid e2; have T2 := Lib.hid ((Stp.of F1.out).trans t2'); clear e2 t2' hev rr
                    go_wp2
                    go_ret
                    exact ⟨.nilIface, S1, rfl, by rw [RN], ⟨_, _, _, E2.out⟩, HST.out.trans T2.out⟩
                  | false =>
                    have hfr : frtX l false s c = s := by unfold frtX; rw [if_neg h41, if_neg (fun h => by cases h.2)]
                    clear hsp hsp'
                    -- the walk stands ahead of the test of what is wrong, in w1
                    have hE1 := HE.out.on F1.out
                    have rr := rule8 hE1.blk _ (Fr.refl _ _)
                    cases hx : s.x with
                    | some z =>
                      rw [hfr, hx] at hF
                      simp only [Option.isSome_some, if_true] at hF
                      subst hF
                      have hex : eX s.x ≠ 0 := by rw [hx]; exact hE1.ok z hx
                      obtain ⟨ev, hev⟩ : ∃ ev, eX s.x = ev := ⟨_, rfl⟩
                      rw [hev] at rr hex
                      have hex' : ((ev : Int) != 0) = true := by simpa using hex
                      have E1 := Lib.hid hE1
                      clear hE1 hx hev
                      go_wp2
                      go_ret
                      exact ⟨.nilIface, S1, rfl, by rw [RN], ⟨_, _, _, E1.out⟩, HST.out.trans (Stp.of F1.out)⟩
                    | none =>
                      rw [hfr, hx] at hF
                      simp only [Option.isSome_none, Bool.false_eq_true, if_false] at hF
                      have hex : eX s.x = 0 := by rw [hx]; rfl
                      rw [hex] at rr
                      have E1 := Lib.hid (show Erd b l s S1 w1 from ⟨_, _, _, hE1⟩)
                      have hp1 := HP.out.on F1.out
                      have hWd1 := HW1.out.stp (Stp.of F1.out)
                      have hat := er_atom b l W0 deep C s S1 (PO O v5) w1 c (hp1.lt (fun k hk => Nat.lt_of_lt_of_le (HOO.out k hk) (Nat.le_trans HST.out.fr.size F1.out.size))) hl HE0.out HG.out HSN.out hc hWd1 E1.out
                      have hka := (atomX_kept HC.out (c := c) HSN.out hc)
                      have hnil := atomX_nil (l := l) (C := C) (s := s) (c := c)
                      obtain ⟨ta, s2, hq⟩ : ∃ ta s2, atomX l C s c = (ta, s2) := ⟨_, _, rfl⟩
                      rw [hq] at hat hka hnil hF
                      simp only at hF hnil
                      obtain ⟨⟨a1, a2, a3, a4⟩, a5⟩ := hka
                      have a1 : Sane l s2.r := a1
                      have a3 : ta.size + 3 * s.r.at_ ≤ 3 * s2.r.at_ + 0 := a3
                      have a5 : s.r.at_ < s2.r.at_ := a5
                      have hkr := repX_kept (l.length + 1) s2 ta a1
                      obtain ⟨tr, s3, hq3⟩ : ∃ tr s3, repX l (l.length + 1) s2 ta = (tr, s3) := ⟨_, _, rfl⟩
                      rw [hq3] at hkr hF
                      simp only at hF
                      obtain ⟨b1, b2, b3, b4⟩ := hkr
                      have b1 : Sane l s3.r := b1
                      have b2 : s2.r.at_ ≤ s3.r.at_ := b2
                      have b3 : tr.size + 3 * s2.r.at_ ≤ 3 * s3.r.at_ + ta.size := b3
                      have hnl : ta ≠ .nil ∨ l[s2.r.at_]? = none := by
                        by_cases h : ta = .nil
                        · exact .inr (hnil h)
                        · exact .inl h
                      have HAT := Lib.hid hat; have HF2 := Lib.hid hF; have B1 := Lib.hid b1; have A1 := Lib.hid a1; have HNL := Lib.hid hnl; have HQ3 := Lib.hid hq3
                      clear hE1 hx hex hp1 hWd1 hat hnil hq hF a1 a2 a4 b1 b4 hnl hq3 hc hfr
                      go_wp2_with fail
                      with_reducible refine HAT.out.mono ?_
                      rintro e w2 ⟨v2, S2, rfl, rn2, e2, st2⟩
                      have hrp := er_repeated b l s2 ta v2 S2 (PO O v5) w2 hl A1.out HNL.out rn2 e2
                      rw [HQ3.out] at hrp
                      have HRP := Lib.hid hrp; have ST2 := Lib.hid ((Stp.of F1.out).trans st2)
                      clear rn2 e2 st2 hrp
                      go_wp2_with fail
                      with_reducible refine HRP.out.mono ?_
                      rintro e w3 ⟨v3, S3, rfl, rn3, e3, st3⟩
                      have T3 := Lib.hid (ST2.out.trans st3); have E3 := Lib.hid e3; have RN3 := Lib.hid rn3
                      have hsh := shape_nd rn3
                      clear rn3 e3 st3
                      have HP3 := Lib.hid (HP.out.stp T3.out)
                      have HLT3 := Lib.hid (HW1.out.stp T3.out).lt
                      have HOT := Lib.hid (show ∀ k, O k → k < w3.heap.size from fun k hk => Nat.lt_of_lt_of_le (HOO.out k hk) (Nat.le_trans HST.out.fr.size T3.out.fr.size))
                      have HWS := Lib.hid (Nat.le_trans HST.out.fr.size T3.out.fr.size)
                      rcases hsh with rfl | ⟨vi, vy, rfl⟩
                      all_goals
                        go_wp2_with (at_builtin; refine wpList_append_pts (W := w) (S := S3) (O := O) rfl (.tmp 73) (.tmp 79) rfl ps tr v5 _ _ _ (by rw [HV5.out]; rfl) HP3.out HLT3.out HOT.out HWS.out rfl (by rfl) RN3.out (by omega) ?_; intro va wa hpa offa; obtain ⟨aa, ca, hea⟩ := hpa.shape; simp only [List.length_append, List.length_singleton] at hea; subst hea; have HPA := Lib.hid hpa; have HOA := Lib.hid offa; clear hpa offa)
                        go_roundg m
                        case measure => omega
                        case rel =>
                          refine ⟨false, s3, ps ++ [tr], S3, rfl, HPA.out, E3.out.off HOA.out hbw, (HST.out.trans T3.out).off HOA.out, B1.out, ?_, ?_, HF2.out⟩
                          · omega
                          · rw [Nd.sizes_append]; show Nd.sizes ps + (tr.size + 0) ≤ 3 * s3.r.at_; omega
                | false =>
                  have hfr : frtX l front s c = s := by
                    unfold frtX
                    rw [if_neg h41, if_neg (fun h => by rw [spc_iff.2 h.1] at hsp; cases hsp)]
                  clear hsp
                  -- the walk stands ahead of the test of what is wrong, in w1
                  have hE1 := HE.out.on F1.out
                  have rr := rule8 hE1.blk _ (Fr.refl _ _)
                  cases hx : s.x with
                  | some z =>
                    rw [hfr, hx] at hF
                    simp only [Option.isSome_some, if_true] at hF
                    subst hF
                    have hex : eX s.x ≠ 0 := by rw [hx]; exact hE1.ok z hx
                    obtain ⟨ev, hev⟩ : ∃ ev, eX s.x = ev := ⟨_, rfl⟩
                    rw [hev] at rr hex
                    have hex' : ((ev : Int) != 0) = true := by simpa using hex
                    have E1 := Lib.hid hE1
                    clear hE1 hx hev
                    go_wp2
                    go_ret
                    exact ⟨.nilIface, S1, rfl, by rw [RN], ⟨_, _, _, E1.out⟩, HST.out.trans (Stp.of F1.out)⟩
                  | none =>
                    rw [hfr, hx] at hF
                    simp only [Option.isSome_none, Bool.false_eq_true, if_false] at hF
                    have hex : eX s.x = 0 := by rw [hx]; rfl
                    rw [hex] at rr
                    have E1 := Lib.hid (show Erd b l s S1 w1 from ⟨_, _, _, hE1⟩)
                    have hp1 := HP.out.on F1.out
                    have hWd1 := HW1.out.stp (Stp.of F1.out)
                    have hat := er_atom b l W0 deep C s S1 (PO O v5) w1 c (hp1.lt (fun k hk => Nat.lt_of_lt_of_le (HOO.out k hk) (Nat.le_trans HST.out.fr.size F1.out.size))) hl HE0.out HG.out HSN.out hc hWd1 E1.out
                    have hka := (atomX_kept HC.out (c := c) HSN.out hc)
                    have hnil := atomX_nil (l := l) (C := C) (s := s) (c := c)
                    obtain ⟨ta, s2, hq⟩ : ∃ ta s2, atomX l C s c = (ta, s2) := ⟨_, _, rfl⟩
                    rw [hq] at hat hka hnil hF
                    simp only at hF hnil
                    obtain ⟨⟨a1, a2, a3, a4⟩, a5⟩ := hka
                    have a1 : Sane l s2.r := a1
                    have a3 : ta.size + 3 * s.r.at_ ≤ 3 * s2.r.at_ + 0 := a3
                    have a5 : s.r.at_ < s2.r.at_ := a5
                    have hkr := repX_kept (l.length + 1) s2 ta a1
                    obtain ⟨tr, s3, hq3⟩ : ∃ tr s3, repX l (l.length + 1) s2 ta = (tr, s3) := ⟨_, _, rfl⟩
                    rw [hq3] at hkr hF
                    simp only at hF
                    obtain ⟨b1, b2, b3, b4⟩ := hkr
                    have b1 : Sane l s3.r := b1
                    have b2 : s2.r.at_ ≤ s3.r.at_ := b2
                    have b3 : tr.size + 3 * s2.r.at_ ≤ 3 * s3.r.at_ + ta.size := b3
                    have hnl : ta ≠ .nil ∨ l[s2.r.at_]? = none := by
                      by_cases h : ta = .nil
                      · exact .inr (hnil h)
                      · exact .inl h
                    have HAT := Lib.hid hat; have HF2 := Lib.hid hF; have B1 := Lib.hid b1; have A1 := Lib.hid a1; have HNL := Lib.hid hnl; have HQ3 := Lib.hid hq3
                    clear hE1 hx hex hp1 hWd1 hat hnil hq hF a1 a2 a4 b1 b4 hnl hq3 hc hfr
                    go_wp2_with fail
                    with_reducible refine HAT.out.mono ?_
                    rintro e w2 ⟨v2, S2, rfl, rn2, e2, st2⟩
                    have hrp := er_repeated b l s2 ta v2 S2 (PO O v5) w2 hl A1.out HNL.out rn2 e2
                    rw [HQ3.out] at hrp
                    have HRP := Lib.hid hrp; have ST2 := Lib.hid ((Stp.of F1.out).trans st2)
                    clear rn2 e2 st2 hrp
                    go_wp2_with fail
                    with_reducible refine HRP.out.mono ?_
                    rintro e w3 ⟨v3, S3, rfl, rn3, e3, st3⟩
                    have T3 := Lib.hid (ST2.out.trans st3); have E3 := Lib.hid e3; have RN3 := Lib.hid rn3
                    have hsh := shape_nd rn3
                    clear rn3 e3 st3
                    have HP3 := Lib.hid (HP.out.stp T3.out)
                    have HLT3 := Lib.hid (HW1.out.stp T3.out).lt
                    have HOT := Lib.hid (show ∀ k, O k → k < w3.heap.size from fun k hk => Nat.lt_of_lt_of_le (HOO.out k hk) (Nat.le_trans HST.out.fr.size T3.out.fr.size))
                    have HWS := Lib.hid (Nat.le_trans HST.out.fr.size T3.out.fr.size)
                    rcases hsh with rfl | ⟨vi, vy, rfl⟩
                    all_goals
                      go_wp2_with (at_builtin; refine wpList_append_pts (W := w) (S := S3) (O := O) rfl (.tmp 73) (.tmp 79) rfl ps tr v5 _ _ _ (by rw [HV5.out]; rfl) HP3.out HLT3.out HOT.out HWS.out rfl (by rfl) RN3.out (by omega) ?_; intro va wa hpa offa; obtain ⟨aa, ca, hea⟩ := hpa.shape; simp only [List.length_append, List.length_singleton] at hea; subst hea; have HPA := Lib.hid hpa; have HOA := Lib.hid offa; clear hpa offa)
                      go_roundg m
                      case measure => omega
                      case rel =>
                        refine ⟨false, s3, ps ++ [tr], S3, rfl, HPA.out, E3.out.off HOA.out hbw, (HST.out.trans T3.out).off HOA.out, B1.out, ?_, ?_, HF2.out⟩
                        · omega
                        · rw [Nd.sizes_append]; show Nd.sizes ps + (tr.size + 0) ≤ 3 * s3.r.at_; omega
end Go.Proofs.YtmoeboknelnaoaaGreatDoor

/-
  Walk of package ere: choice; at every depth.
-/
namespace Go.Proofs.YtmoeboknelnaoaaGreatDoor
open Go.RowKit

section
variable {l : List UInt8} {C : Option (ES → Nd × ES)} {inner : Bool} {n : Nat} {s : ES} {ts : List Nd}
theorem chLoopX_end (h : ¬ l[s.r.at_]? = some 124) : chLoopX l C inner (n + 1) s ts = (chosen ts, s) := by rw [chLoopX, if_neg h]
theorem chLoopX_go (h : l[s.r.at_]? = some 124) {t : Nd} {s' : ES} (hb : branchX l C inner (s.go 1) = (t, s')) : chLoopX l C inner (n + 1) s ts = chLoopX l C inner n s' (ts ++ [t]) := by rw [chLoopX, if_pos h, hb]
end

def ChR (b : Nat) (l : List UInt8) (C : Option (ES → Nd × ES)) (inner : Bool) (S O : Nat → Prop) (w : World) (F : Nd × ES) (n : Nat) (v5 : Value) (wr : World) : Prop :=
  ∃ s ts S', Pts S' O w wr ts v5 ∧ Erd b l s S' wr ∧ Stp S w S' wr ∧ Sane l s.r ∧ l.length < n + s.r.at_ ∧ Nd.sizes ts ≤ 3 * s.r.at_ + 1 ∧ chLoopX l C inner n s ts = F

set_option maxRecDepth 100000 in
set_option maxHeartbeats 4000000 in
theorem er_choice (b : Nat) (l : List UInt8) (W0 : World) (deep : Nat) (C : Option (ES → Nd × ES)) (s : ES) (S O : Nat → Prop) (w : World) (hO : ∀ k, O k → k < w.heap.size) (hl : l.length ≤ 100000) (hd : deep ≤ 12) (hE0 : Env W0)
    (hG : GrX l W0 deep C) (hC : ∀ f, C = some f → ∀ s, Sane l s.r → Kp l s (f s) 2) (hs : Sane l s.r) (hW : Wd W0 S w) (h : Erd b l s S w) :
    Calls Tryz.prog 87 #[.pointer (some ⟨b, 0, none⟩), .int .i64 deep] w (OutX b l S O w (choiceX l C (decide (0 < deep)) s)) := by
  obtain ⟨F, hF⟩ : ∃ F, choiceX l C (decide (0 < deep)) s = F := ⟨_, rfl⟩
  rw [hF]
  have HBR := Lib.hid (fun (s : ES) (S O : Nat → Prop) (w : World) (hO : ∀ k, O k → k < w.heap.size) (hs : Sane l s.r) (hW : Wd W0 S w) (h : Erd b l s S w) => er_branch b l W0 deep C s S O w hO hl hd hE0 hG hC hs hW h)
  obtain ⟨inner, hin⟩ : ∃ inner, decide (0 < deep) = inner := ⟨_, rfl⟩
  rw [hin] at HBR hF
  have HW := Lib.hid hW; have HC := Lib.hid hC; have HOO := Lib.hid hO
  unfold choiceX at hF
  have h0 := HBR.out s S O w hO hs hW h
  have hk := branchX_kept hC (inner := inner) hs
  have hbw := h.lt
  obtain ⟨t, s1, hb0⟩ : ∃ t s1, branchX l C inner s = (t, s1) := ⟨_, _, rfl⟩
  rw [hb0] at h0 hk hF
  simp only at hF
  obtain ⟨k1, k2, k3, _⟩ := hk
  have k1 : Sane l s1.r := k1
  have k3 : t.size + 3 * s.r.at_ ≤ 3 * s1.r.at_ + 1 := k3
  have H0 := Lib.hid h0; have HF := Lib.hid hF; have K1 := Lib.hid k1
  clear hW hC hE0 hO h hG hin h0 hb0 hF k1 hs
  go_enter Tryz.func87, Tryz.ntmps87
  go_wp2_with fail
  with_reducible refine (H0.out).mono ?_
  rintro e w1 ⟨v1, S1, rfl, rn1, r1, t1⟩
  have hp1 := Pts.one (W := w) rn1 ((HW.out.stp t1).lt) (fun k hk => Nat.lt_of_lt_of_le (HOO.out k hk) t1.fr.size) t1.fr.size rfl
  have hsh := shape_nd rn1
  have HP1 := Lib.hid hp1; have R1 := Lib.hid r1; have T1 := Lib.hid t1
  clear H0 hp1 rn1 r1 t1
  rcases hsh with rfl | ⟨vi, vy, rfl⟩
  all_goals
    go_wp2_with fail
    go_loopg [5] (l.length + 1) (fun n v wr => ChR b l C inner S O w F n v wr)
    case atStart => exact ⟨s1, [t], S1, HP1.out, R1.out.on ((Fr.refl _ _).alloc _), T1.out.trans (Stp.of ((Fr.refl _ _).alloc _)), K1.out, by omega, by show t.size + 0 ≤ _; omega, HF.out⟩
    case round =>
      clear HP1 R1 T1 K1 HF k2 k3
      obtain ⟨s, ts, S1, hp, hr, hst, hsn, hn, hz, hF⟩ := hrel
      have hsle := hsn.le
      obtain ⟨m, rfl⟩ : ∃ m, gk = m + 1 := ⟨gk - 1, by omega⟩
      obtain ⟨av, cv0, hv⟩ := hp.shape
      subst hv
      obtain ⟨v5, hv5⟩ : ∃ v5, v5 = Value.slice av ts.length cv0 := ⟨_, rfl⟩
      have hT : Calls Tryz.prog 103 #[.pointer (some ⟨b, 0, none⟩), .int .i32 124] wr fun x w' => x = .returned (.bool (decide (l[s.r.at_]? = some 124))) ∧ Erd b l (if l[s.r.at_]? = some 124 then s.go 1 else s) S1 w' ∧ Stp S1 wr S1 w' := er_take b l 124 s S1 wr hl hsle hr
      have HP := Lib.hid (show Pts S1 O w wr ts v5 from hv5 ▸ hp); have HST := Lib.hid hst; have HSN := Lib.hid hsn; have HF := Lib.hid hF; have HV5 := Lib.hid hv5
      have HW1 := Lib.hid (HW.out.stp hst)
      have hpl := Nd.length_le ts
      clear hr hst hsn hF hv5
      by_cases e1 : l[s.r.at_]? = some 124
      · rw [decide_eq_true e1, if_pos e1] at hT
        have hlt := getE_lt e1
        have HT := Lib.hid hT
        clear hT hp
        go_wp2_with fail
        with_reducible refine HT.out.mono ?_
        rintro e w2 ⟨rfl, r2, t2⟩
        have hp2 := HP.out.stp t2
        have h5 := HBR.out (s.go 1) S1 (PO O v5) w2 (hp2.lt (fun k hk => Nat.lt_of_lt_of_le (HOO.out k hk) (Nat.le_trans HST.out.fr.size t2.fr.size))) (HSN.out.goE hlt) (HW1.out.stp t2) r2
        have hk := branchX_kept HC.out (inner := inner) (HSN.out.goE (n := 1) hlt)
        obtain ⟨t5, s5, hb⟩ : ∃ t5 s5, branchX l C inner (s.go 1) = (t5, s5) := ⟨_, _, rfl⟩
        rw [hb] at h5 hk
        obtain ⟨j1, j2, j3, _⟩ := hk
        have j1 : Sane l s5.r := j1
        have j2 : s.r.at_ + 1 ≤ s5.r.at_ := j2
        have j3 : t5.size + 3 * (s.r.at_ + 1) ≤ 3 * s5.r.at_ + 1 := j3
        have hF := HF.out
        rw [chLoopX_go e1 hb] at hF
        have H5 := Lib.hid h5; have T2 := Lib.hid t2; have J1 := Lib.hid j1; have HF2 := Lib.hid hF
        clear h5 t2 j1 hF hp2 r2 hb e1
        go_wp2_with fail
        with_reducible refine H5.out.mono ?_
        rintro e w5 ⟨v6, S5, rfl, rn5, r5, st5⟩
        have T5 := Lib.hid (T2.out.trans st5); have RN5 := Lib.hid rn5; have R5 := Lib.hid r5
        have hsh := shape_nd rn5
        clear rn5 r5 st5
        have HP5 := Lib.hid (HP.out.stp T5.out)
        have HLT5 := Lib.hid (HW1.out.stp T5.out).lt
        have HOT := Lib.hid (show ∀ k, O k → k < w5.heap.size from fun k hk => Nat.lt_of_lt_of_le (HOO.out k hk) (Nat.le_trans HST.out.fr.size T5.out.fr.size))
        have HWS := Lib.hid (Nat.le_trans HST.out.fr.size T5.out.fr.size)
        rcases hsh with rfl | ⟨vi, vy, rfl⟩
        all_goals
          go_wp2_with (at_builtin; refine wpList_append_pts (W := w) (S := S5) (O := O) rfl (.tmp 12) (.tmp 16) rfl ts t5 v5 _ _ _ (by rw [HV5.out]; rfl) HP5.out HLT5.out HOT.out HWS.out rfl (by rfl) RN5.out (by omega) ?_; intro va wa hpa offa; obtain ⟨aa, ca, hea⟩ := hpa.shape; simp only [List.length_append, List.length_singleton] at hea; subst hea; have HPA := Lib.hid hpa; have HOA := Lib.hid offa; clear hpa offa)
          go_roundg m
          case measure => omega
          case rel =>
            refine ⟨s5, ts ++ [t5], S5, HPA.out, R5.out.off HOA.out hbw, (HST.out.trans T5.out).off HOA.out, J1.out, by omega, ?_, HF2.out⟩
            rw [Nd.sizes_append]; show Nd.sizes ts + (t5.size + 0) ≤ 3 * s5.r.at_ + 1; omega
      · rw [decide_eq_false e1, if_neg e1] at hT
        have hF := HF.out
        rw [chLoopX_end e1] at hF
        subst hF
        have HT := Lib.hid hT; have HPW := Lib.hid hp
        clear hT HF hp
        go_wp2_with fail
        with_reducible refine HT.out.mono ?_
        rintro e w2 ⟨rfl, r2, t2⟩
        have hJ := chooseS_any (SO S1 O) ts (.slice av ts.length cv0) w2 (fun k hk => hk.elim ((HW1.out.stp t2).lt k) (fun x => Nat.lt_of_lt_of_le (HOO.out k x) (Nat.le_trans HST.out.fr.size t2.fr.size))) (by omega) ((HPW.out.stp t2).sn HOO.out)
        have HJ := Lib.hid hJ; have R2 := Lib.hid r2; have T2 := Lib.hid t2
        clear hJ r2 t2
        go_wp2_with fail
        refine (HJ.out).mono ?_
        rintro e wj ⟨r, rfl, hrj, fj⟩
        have HRJ := Lib.hid hrj; have FJ := Lib.hid fj; clear hrj fj
        go_wp2
        go_ret
        exact ⟨r, S1, rfl, HRJ.out, R2.out.on FJ.out, (HST.out.trans T2.out).trans (Stp.of FJ.out)⟩

/-- choice at every depth. -/
theorem er_chAt (l : List UInt8) (W0 : World) (hl : l.length ≤ 100000) (hE0 : Env W0) : ∀ n deep, n + deep = 12 → ChX l W0 deep (chX l n)
  | 0, deep, hd => by
    obtain rfl : deep = 12 := by omega
    intro b s S O w hO hs hW h
    have hG : GrX l W0 12 none := fun b s S O w _ _ _ _ h => er_group_deep b l s S O w hl h
    have := er_choice b l W0 12 none s S O w hO hl (Nat.le_refl _) hE0 hG (fun f hf => by cases hf) hs hW h
    rw [chX]
    exact this
  | n + 1, deep, hd => by
    intro b s S O w hO hs hW h
    have ih := er_chAt l W0 hl hE0 n (deep + 1) (by omega)
    have hG : GrX l W0 deep (some (chX l n)) := fun b s S O w hO hs h1 hW h => er_group b l W0 deep (chX l n) s S O w hO hl (by omega) ih (chX_kept n) hs h1 hW h
    have := er_choice b l W0 deep (some (chX l n)) s S O w hO hl (by omega) hE0 hG (fun f hf => by injection hf with hf; subst hf; exact chX_kept n) hs hW h
    rw [chX, show decide (n + 1 < 12) = decide (0 < deep) from by congr 1; exact propext ⟨fun _ => by omega, fun _ => by omega⟩]
    exact this
end Go.Proofs.YtmoeboknelnaoaaGreatDoor
