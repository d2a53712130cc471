/-
  Merged texts of this claim: AdrHP2, AdrI, AdrN, AdrJ.
-/
import Derived.Test.YtmoeboknelnaoaaGreatDoorM32
import Derived.Test.YtmoeboknelnaoaaGreatDoorM33

/-
  Walks of package addr: guard, one of its ways (P2). (Printed by tools/adrh.py.)
-/
namespace Go.Proofs.YtmoeboknelnaoaaGreatDoor
open Go.RowKit

set_option maxRecDepth 100000 in
set_option maxHeartbeats 2000000 in
theorem ad_guard_p2 (b : Nat) (l : List UInt8) (x : Bool) (at0 : Nat) (ms0 : List (Nat × List UInt8)) (S O : Nat → Prop) (w : World) (hl : l.length ≤ 99000) (ha : at0 ≤ l.length) (hm : ms0.length = 0) (hS : ∀ k, S k → k < w.heap.size) (hO : ∀ k, O k → k < w.heap.size) (W0 : World) (hE : Env W0) (hW : Fr nob W0 w) (hSW : ∀ k, S k → W0.heap.size ≤ k) (h : ARd b l x ⟨at0, ms0, 0⟩ S w) (A : AV) (at1 : Nat) (ms1 : List (Nat × List UInt8)) (hR : addrD x l false ⟨at0, ms0, 0⟩ = .inr (A, ⟨at1, ms1, 0⟩)) (hk : A.kind ≠ 0) (B : AV) (at2 : Nat) (ms2 : List (Nat × List UInt8)) (hR2 : pairD x l ⟨at1, ms1, 0⟩ = .inr (B, ⟨at2, ms2, 0⟩)) (pQ : Nat) (hpQ : bhd l [32, 9] at2 = pQ) (pV : Nat) (h33 : byt l pQ = 33) (hpV : bhd l [32, 9] (pQ + 1) = pV) (h33' : byt l pV = 33) :
    Calls Tryz.prog 26 #[.pointer (some ⟨b, 0, none⟩)] w (GuardAns b l x S O w (.inl (15, pV))) := by
  have hl : l.length ≤ 100000 := Nat.le_trans hl (by decide)
  obtain ⟨w1, hw1⟩ : ∃ w1, w1 = w.alloc (.cells zG 29) := ⟨_, rfl⟩
  have f1 : Fr nob w w1 := by rw [hw1]; exact (Fr.refl _ _).alloc _
  have hz : w1.heap[w.heap.size]? = some (.cells zG 29 (0, 0)) := by rw [hw1]; exact newAt _ _
  have hsz : w1.heap.size = w.heap.size + 1 := by rw [hw1]; simp
  have h1 := h.on f1
  have hSL : ∀ k, S k → k < w1.heap.size := fun k hk => by have := hS k hk; omega
  have hOL : ∀ k, GS O w.heap.size k → k < w1.heap.size := fun k hk => by
    rcases hk with hk | hk
    · have := hO k hk; omega
    · have hk : k = w.heap.size := hk; omega
  have HAD := Lib.hid (ad_address b l x false ⟨at0, ms0, 0⟩ S (GS O w.heap.size) w1 (by omega) ha (by show ms0.length ≤ _; omega) rfl hSL hOL W0 hE (hW.trans' f1) hSW h1)
  have HW1 := Lib.hid hw1; have HS := Lib.hid hS; have F1 := Lib.hid f1; have HZ := Lib.hid hz; have HLT := Lib.hid (lt_heap hz); have HSL := Lib.hid hSL; have HE := Lib.hid hE; have HWF := Lib.hid (hW.trans' f1); have HSW := Lib.hid hSW
  have HOL := Lib.hid hOL
  clear h h1 hw1 hS f1 hz hO hE hW hSW hsz hSL hOL
  have hfw := addrD_in (s := ⟨at0, ms0, 0⟩) ha rfl hR
  have h1l : at1 ≤ l.length := hfw.le
  have h1m : ms1.length ≤ 99001 := by have := hfw.mks; simp only at this; omega
  rw [hR] at HAD
  clear hR hfw
  have hk0 : (A.kind == 0) = false := by simpa using hk
  clear hk
  have HPD := Lib.hid (fun w2 w3 S1 u1 (hS' : ∀ k, S1 k → k < w3.heap.size) (hO' : ∀ k, GS O w.heap.size k → k < w3.heap.size) (hW' : Fr nob W0 w3) (hSW' : ∀ k, S1 k → W0.heap.size ≤ k) (h : ARd b l x ⟨at1, ms1, 0⟩ S1 w3) (ng : ¬ S1 w2) hg => ad_pair b l x ⟨at1, ms1, 0⟩ S1 (GS O w.heap.size) w2 A.kind A.line A.text u1 w3 hl h1l (by show ms1.length ≤ _; omega) rfl hS' hO' W0 HE.out hW' hSW' h ng hg)
  have hfw := pairD_in hR2
  have h2l : at2 ≤ l.length := hfw.le
  rw [hR2] at HPD
  clear hR2 hfw
  have hpQl : pQ ≤ l.length := by rw [← hpQ]; exact bhd_le _ _ _
  have HPQ := Lib.hid hpQ
  have hat : pQ < l.length := byt_lt (by rw [h33]; decide)
  have hwr : IntKind.i64.wrap ((pQ : Int) + 1) = pQ + 1 := IntWalk.i64_in _ (by omega)
  have hpVl : pV ≤ l.length := by rw [← hpV]; exact bhd_le _ _ _
  have HPV := Lib.hid hpV; have HC1 := Lib.hid h33
  have HC2 := Lib.hid h33'
  clear h33 h33' hpV hpQ
  go_enter Tryz.func26, Tryz.ntmps26
  go_wp2_with (rw [← HW1.out])
  refine HAD.out.mono ?_
  intro e w2 he
  obtain ⟨v, S1, rfl, ⟨u1, rfl, hrn⟩, h2, st2⟩ := he
  have hlt1 := st2.lt HSL.out
  have hsh1 := hrn.shape
  obtain ⟨w3, hw3⟩ : ∃ w3, w3 = w2.alloc (.cells #[.int .i64 A.kind, .int .i64 A.line, .string ⟨A.text.toArray⟩, u1, .int .i64 0, .int .i64 0, .string ⟨#[]⟩, .nilIface, .bool false] 29) := ⟨_, rfl⟩
  have f3 : Fr nob w2 w3 := by rw [hw3]; exact (Fr.refl _ _).alloc _
  have hg3 : w3.heap[w2.heap.size]? = some (.cells #[.int .i64 A.kind, .int .i64 A.line, .string ⟨A.text.toArray⟩, u1, .int .i64 0, .int .i64 0, .string ⟨#[]⟩, .nilIface, .bool false] 29 (0, 0)) := by rw [hw3]; exact newAt _ _
  have ng3 : ¬ S1 w2.heap.size := fun h => Nat.lt_irrefl _ (hlt1 _ h)
  have h3 := h2.on f3
  have hge : w1.heap.size ≤ w2.heap.size := st2.fr.size
  have st3 : Stp S w1 (GS S1 w2.heap.size) w3 := (st2.trans (Stp.of f3)).plus hge (lt_heap hg3)
  have hr1 : RN (SO (GS S1 w2.heap.size) (GS O w.heap.size)) w3 A.tree u1 := RN.keep f3 (fun _ _ x => x.elim) (fun k hk hx => by
    rcases hx with (hx | hx) | hx
    · exact .inl hx
    · have hx : k = w2.heap.size := hx; omega
    · exact .inr hx) _ _ hrn
  have HW3 := Lib.hid hw3
  obtain ⟨mv3, h35⟩ := h3
  have r3 := rule5 h35.blk _ (Fr.refl _ _)
  have rg3 := rule9 hg3 _ (Fr.refl _ _)
  have HPR := Lib.hid (HPD.out w2.heap.size w3 S1 u1 (fun k hk => by have := hlt1 k hk; have := f3.size; omega) (fun k hk => by have := HOL.out k hk; have := f3.size; omega) ((st2.trans (Stp.of f3)).from HWF.out HSW.out) (fun k hk => by by_cases h : k < w1.heap.size; exact HSW.out k (st2.old k h hk); have := HWF.out.size; omega) ⟨mv3, h35⟩ ng3 hg3)
  have ST3 := Lib.hid st3; have R1 := Lib.hid hr1
  clear hrn h2 st2 hw3 f3 h35 hg3 ng3 st3 hge hlt1 hr1
  rcases hsh1 with rfl | ⟨i1, y1, rfl⟩
  · skip
    go_wp2_with (rw [← HW3.out])
    refine HPR.out.mono ?_
    rintro e wP ⟨rfl, S2, u2, hP, hng, st4, hgb, hr2⟩
    have hst := ST3.out.trans st4
    have hr1 := st4.rn R1.out
    have hr2 : RN (SO (GS S2 w2.heap.size) (GS O w.heap.size)) wP B.tree u2 := RN.keep (Fr.refl nob wP) (fun _ _ x => x.elim) (fun k _ hx => by
      rcases hx with (hx | hx) | hx
      · exact .inl hx
      · exact .inr (.inr hx)
      · exact .inr (.inl hx)) _ _ hr2
    have hsh2 := hr2.shape
    clear st4 r3 rg3
    rcases hsh2 with rfl | ⟨i2, y2, rfl⟩
    · skip
      obtain ⟨mv2, hP5⟩ := hP
      have rP := rule5 hP5.blk _ (Fr.refl _ _)
      have HBL := Lib.hid (ad_blanks b l x ⟨at2, ms2, 0⟩ S2 wP hl h2l ⟨mv2, hP5⟩)
      have HGB := Lib.hid hgb; have HNG := Lib.hid hng; have HST := Lib.hid hst; have HR1 := Lib.hid hr1; have HR2 := Lib.hid hr2; have HLG := Lib.hid (lt_heap hgb)
      have rgP := rule9 hgb _ (Fr.refl _ _)
      clear hP5 hgb hng hst hr1 hr2
      go_wp2_with fail
      refine HBL.out.mono ?_
      rintro e wQ ⟨rfl, hQ, stQ⟩
      rw [show bhd l [32, 9] (AdS.mk at2 ms2 0).at_ = pQ from HPQ.out] at hQ
      have hQ : ARd b l x ⟨pQ, ms2, 0⟩ S2 wQ := hQ
      have HQ := Lib.hid hQ; have STQ := Lib.hid (stQ.gs HLG.out)
      have HNX := Lib.hid (by have := ad_next b l x ⟨pQ, ms2, 0⟩ S2 wQ (by omega) hQ; simp only at this; rw [HC1.out] at this; exact this)
      have HGQ := Lib.hid (stQ.fr.heap HGB.out HNG.out)
      clear hQ stQ rP rgP
      go_wp2_with fail
      refine HNX.out.mono ?_
      rintro e wR ⟨rfl, fR⟩
      have hgR := fR.heap HGQ.out (fun x => x)
      have rgR := rule9 hgR _ (Fr.refl _ _)
      obtain ⟨wS, hwS⟩ : ∃ wS, wS = wR.setCell ⟨w2.heap.size, 8, none⟩ (.bool true) := ⟨_, rfl⟩
      have fS : Fr (fun k => k = w2.heap.size) wR wS := by rw [hwS]; exact (Fr.refl (fun k => k = w2.heap.size) wR).setCell (p := ⟨w2.heap.size, 8, none⟩) (fun _ => rfl) _
      have hsS : wS.heap.size = wR.heap.size := by rw [hwS]; simp [World.setCell]
      have hgS : wS.heap[w2.heap.size]? = some (.cells #[.int .i64 A.kind, .int .i64 A.line, .string ⟨A.text.toArray⟩, .nilIface, (.int .i64 B.kind), (.int .i64 B.line), (.string ⟨B.text.toArray⟩), .nilIface, .bool true] 29 (0, 0)) := by rw [hwS]; simpa using heap_setCell_at hgR 8 (.bool true)
      obtain ⟨mvR, hR5⟩ := HQ.out.on fR
      have hS5 := hR5.keep fS (fun e => HNG.out (e ▸ hR5.me)) (fun k hk e => HNG.out (e ▸ (hR5.nm k hk).2))
      have rS := rule5 hS5.blk _ (Fr.refl _ _)
      have hT5 := hS5.turned 1 (.int .i64 ((pQ : Int) + 1)) ⟨pQ + 1, ms2, 0⟩ (by simp) rfl
      have stT := hS5.stp 1 (.int .i64 ((pQ : Int) + 1))
      obtain ⟨wT, hwT⟩ : ∃ wT, wT = wS.setCell ⟨b, 1, none⟩ (.int .i64 ((pQ : Int) + 1)) := ⟨_, rfl⟩
      rw [← hwT] at hT5 stT
      have hgT := stT.fr.heap hgS HNG.out
      have sST : Stp (GS S2 w2.heap.size) wR (GS S2 w2.heap.size) wS := ⟨fS.mono (fun _ _ e => .inr e), fun _ _ h => h, fun hl k hk => by have := hl k hk; omega⟩
      have st0 := (STQ.out.trans (Stp.of fR)).trans (sST.trans (stT.gs (by have := HLG.out; have := STQ.out.fr.size; have := fR.size; omega)))
      have HWS := Lib.hid hwS; have HWT := Lib.hid hwT; have HGT := Lib.hid hgT; have ST0 := Lib.hid st0
      have HBT := Lib.hid (ad_blanks b l x ⟨pQ + 1, ms2, 0⟩ S2 wT hl (by show pQ + 1 ≤ _; omega) ⟨mvR, hT5⟩)
      have HLT2 := Lib.hid (lt_heap hgT)
      clear hR5 hS5 hT5 stT hwS hwT hgR hgS hgT fS hsS sST st0 fR
      go_wp2_with (first | rw [← HWS.out] | rw [← HWT.out])
      refine HBT.out.mono ?_
      rintro e wU ⟨rfl, hU, stU⟩
      rw [show bhd l [32, 9] (AdS.mk (pQ + 1) ms2 0).at_ = pV from HPV.out] at hU
      have hU : ARd b l x ⟨pV, ms2, 0⟩ S2 wU := hU
      have HU := Lib.hid hU; have STU := Lib.hid (ST0.out.trans (stU.gs HLT2.out))
      have HNU := Lib.hid (by have := ad_next b l x ⟨pV, ms2, 0⟩ S2 wU (by omega) hU; simp only at this; rw [HC2.out] at this; exact this)
      have HGU := Lib.hid (stU.fr.heap HGT.out HNG.out)
      clear hU stU rgR rS
      go_wp2_with fail
      refine HNU.out.mono ?_
      rintro e wV ⟨rfl, fV⟩
      obtain ⟨mvV, hV5⟩ := HU.out.on fV
      have rV := rule5 hV5.blk _ (Fr.refl _ _)
      have hgV := fV.heap HGU.out (fun x => x)
      have HFl := Lib.hid (ad_fail b l x ⟨pV, ms2, 0⟩ S2 15 pV wV ⟨mvV, hV5⟩)
      have STV := Lib.hid (STU.out.trans (Stp.of fV)); have HGV := Lib.hid hgV
      clear hV5 hgV fV
      go_wp2_with fail
      refine HFl.out.mono ?_
      rintro e wX ⟨rfl, hX, stX⟩
      have hgZ := stX.fr.heap HGV.out HNG.out
      have stl := STV.out.trans (stX.gs (lt_heap HGV.out))
      clear stX rV
      have rgZ := rule9 hgZ _ (Fr.refl _ _)
      have st := HST.out.trans stl
      have hzZ := hole9 rfl HS.out HZ.out st
      have rz := rule9 hzZ _ (Fr.refl _ _)
      have q1 := Lib.hid (ard_end hX (fun h => hole_not HLT.out HS.out st h) (.int .i64 A.kind) (.int .i64 A.line) (.string ⟨A.text.toArray⟩) .nilIface (.int .i64 B.kind) (.int .i64 B.line) (.string ⟨B.text.toArray⟩) .nilIface (.bool true))
      have q2 := Lib.hid (stp_end F1.out rfl st (.int .i64 A.kind) (.int .i64 A.line) (.string ⟨A.text.toArray⟩) .nilIface (.int .i64 B.kind) (.int .i64 B.line) (.string ⟨B.text.toArray⟩) .nilIface (.bool true))
      have HZF := Lib.hid (setNine_heap hzZ (.int .i64 A.kind) (.int .i64 A.line) (.string ⟨A.text.toArray⟩) .nilIface (.int .i64 B.kind) (.int .i64 B.line) (.string ⟨B.text.toArray⟩) .nilIface (.bool true))
      have q3 := Lib.hid (rn_end (stl.rn HR1.out) (.int .i64 A.kind) (.int .i64 A.line) (.string ⟨A.text.toArray⟩) .nilIface (.int .i64 B.kind) (.int .i64 B.line) (.string ⟨B.text.toArray⟩) .nilIface (.bool true))
      have q4 := Lib.hid (rn_end (stl.rn HR2.out) (.int .i64 A.kind) (.int .i64 A.line) (.string ⟨A.text.toArray⟩) .nilIface (.int .i64 B.kind) (.int .i64 B.line) (.string ⟨B.text.toArray⟩) .nilIface (.bool true))
      clear hX st stl hzZ hgZ
      go_wp2
      (try simp only [Exit.inBlock, Exit.then])
      exact bodyPost_ret (results_G rfl rfl HZF.out rfl rfl rfl rfl rfl rfl rfl rfl rfl) rfl ⟨⟨A, B, true⟩, _, _, _, rfl, ⟨_, _, rfl, q3.out.weak, q4.out.weak⟩, q1.out, q2.out⟩
    · skip
      obtain ⟨mv2, hP5⟩ := hP
      have rP := rule5 hP5.blk _ (Fr.refl _ _)
      have HBL := Lib.hid (ad_blanks b l x ⟨at2, ms2, 0⟩ S2 wP hl h2l ⟨mv2, hP5⟩)
      have HGB := Lib.hid hgb; have HNG := Lib.hid hng; have HST := Lib.hid hst; have HR1 := Lib.hid hr1; have HR2 := Lib.hid hr2; have HLG := Lib.hid (lt_heap hgb)
      have rgP := rule9 hgb _ (Fr.refl _ _)
      clear hP5 hgb hng hst hr1 hr2
      go_wp2_with fail
      refine HBL.out.mono ?_
      rintro e wQ ⟨rfl, hQ, stQ⟩
      rw [show bhd l [32, 9] (AdS.mk at2 ms2 0).at_ = pQ from HPQ.out] at hQ
      have hQ : ARd b l x ⟨pQ, ms2, 0⟩ S2 wQ := hQ
      have HQ := Lib.hid hQ; have STQ := Lib.hid (stQ.gs HLG.out)
      have HNX := Lib.hid (by have := ad_next b l x ⟨pQ, ms2, 0⟩ S2 wQ (by omega) hQ; simp only at this; rw [HC1.out] at this; exact this)
      have HGQ := Lib.hid (stQ.fr.heap HGB.out HNG.out)
      clear hQ stQ rP rgP
      go_wp2_with fail
      refine HNX.out.mono ?_
      rintro e wR ⟨rfl, fR⟩
      have hgR := fR.heap HGQ.out (fun x => x)
      have rgR := rule9 hgR _ (Fr.refl _ _)
      obtain ⟨wS, hwS⟩ : ∃ wS, wS = wR.setCell ⟨w2.heap.size, 8, none⟩ (.bool true) := ⟨_, rfl⟩
      have fS : Fr (fun k => k = w2.heap.size) wR wS := by rw [hwS]; exact (Fr.refl (fun k => k = w2.heap.size) wR).setCell (p := ⟨w2.heap.size, 8, none⟩) (fun _ => rfl) _
      have hsS : wS.heap.size = wR.heap.size := by rw [hwS]; simp [World.setCell]
      have hgS : wS.heap[w2.heap.size]? = some (.cells #[.int .i64 A.kind, .int .i64 A.line, .string ⟨A.text.toArray⟩, .nilIface, (.int .i64 B.kind), (.int .i64 B.line), (.string ⟨B.text.toArray⟩), (.iface i2 y2), .bool true] 29 (0, 0)) := by rw [hwS]; simpa using heap_setCell_at hgR 8 (.bool true)
      obtain ⟨mvR, hR5⟩ := HQ.out.on fR
      have hS5 := hR5.keep fS (fun e => HNG.out (e ▸ hR5.me)) (fun k hk e => HNG.out (e ▸ (hR5.nm k hk).2))
      have rS := rule5 hS5.blk _ (Fr.refl _ _)
      have hT5 := hS5.turned 1 (.int .i64 ((pQ : Int) + 1)) ⟨pQ + 1, ms2, 0⟩ (by simp) rfl
      have stT := hS5.stp 1 (.int .i64 ((pQ : Int) + 1))
      obtain ⟨wT, hwT⟩ : ∃ wT, wT = wS.setCell ⟨b, 1, none⟩ (.int .i64 ((pQ : Int) + 1)) := ⟨_, rfl⟩
      rw [← hwT] at hT5 stT
      have hgT := stT.fr.heap hgS HNG.out
      have sST : Stp (GS S2 w2.heap.size) wR (GS S2 w2.heap.size) wS := ⟨fS.mono (fun _ _ e => .inr e), fun _ _ h => h, fun hl k hk => by have := hl k hk; omega⟩
      have st0 := (STQ.out.trans (Stp.of fR)).trans (sST.trans (stT.gs (by have := HLG.out; have := STQ.out.fr.size; have := fR.size; omega)))
      have HWS := Lib.hid hwS; have HWT := Lib.hid hwT; have HGT := Lib.hid hgT; have ST0 := Lib.hid st0
      have HBT := Lib.hid (ad_blanks b l x ⟨pQ + 1, ms2, 0⟩ S2 wT hl (by show pQ + 1 ≤ _; omega) ⟨mvR, hT5⟩)
      have HLT2 := Lib.hid (lt_heap hgT)
      clear hR5 hS5 hT5 stT hwS hwT hgR hgS hgT fS hsS sST st0 fR
      go_wp2_with (first | rw [← HWS.out] | rw [← HWT.out])
      refine HBT.out.mono ?_
      rintro e wU ⟨rfl, hU, stU⟩
      rw [show bhd l [32, 9] (AdS.mk (pQ + 1) ms2 0).at_ = pV from HPV.out] at hU
      have hU : ARd b l x ⟨pV, ms2, 0⟩ S2 wU := hU
      have HU := Lib.hid hU; have STU := Lib.hid (ST0.out.trans (stU.gs HLT2.out))
      have HNU := Lib.hid (by have := ad_next b l x ⟨pV, ms2, 0⟩ S2 wU (by omega) hU; simp only at this; rw [HC2.out] at this; exact this)
      have HGU := Lib.hid (stU.fr.heap HGT.out HNG.out)
      clear hU stU rgR rS
      go_wp2_with fail
      refine HNU.out.mono ?_
      rintro e wV ⟨rfl, fV⟩
      obtain ⟨mvV, hV5⟩ := HU.out.on fV
      have rV := rule5 hV5.blk _ (Fr.refl _ _)
      have hgV := fV.heap HGU.out (fun x => x)
      have HFl := Lib.hid (ad_fail b l x ⟨pV, ms2, 0⟩ S2 15 pV wV ⟨mvV, hV5⟩)
      have STV := Lib.hid (STU.out.trans (Stp.of fV)); have HGV := Lib.hid hgV
      clear hV5 hgV fV
      go_wp2_with fail
      refine HFl.out.mono ?_
      rintro e wX ⟨rfl, hX, stX⟩
      have hgZ := stX.fr.heap HGV.out HNG.out
      have stl := STV.out.trans (stX.gs (lt_heap HGV.out))
      clear stX rV
      have rgZ := rule9 hgZ _ (Fr.refl _ _)
      have st := HST.out.trans stl
      have hzZ := hole9 rfl HS.out HZ.out st
      have rz := rule9 hzZ _ (Fr.refl _ _)
      have q1 := Lib.hid (ard_end hX (fun h => hole_not HLT.out HS.out st h) (.int .i64 A.kind) (.int .i64 A.line) (.string ⟨A.text.toArray⟩) .nilIface (.int .i64 B.kind) (.int .i64 B.line) (.string ⟨B.text.toArray⟩) (.iface i2 y2) (.bool true))
      have q2 := Lib.hid (stp_end F1.out rfl st (.int .i64 A.kind) (.int .i64 A.line) (.string ⟨A.text.toArray⟩) .nilIface (.int .i64 B.kind) (.int .i64 B.line) (.string ⟨B.text.toArray⟩) (.iface i2 y2) (.bool true))
      have HZF := Lib.hid (setNine_heap hzZ (.int .i64 A.kind) (.int .i64 A.line) (.string ⟨A.text.toArray⟩) .nilIface (.int .i64 B.kind) (.int .i64 B.line) (.string ⟨B.text.toArray⟩) (.iface i2 y2) (.bool true))
      have q3 := Lib.hid (rn_end (stl.rn HR1.out) (.int .i64 A.kind) (.int .i64 A.line) (.string ⟨A.text.toArray⟩) .nilIface (.int .i64 B.kind) (.int .i64 B.line) (.string ⟨B.text.toArray⟩) (.iface i2 y2) (.bool true))
      have q4 := Lib.hid (rn_end (stl.rn HR2.out) (.int .i64 A.kind) (.int .i64 A.line) (.string ⟨A.text.toArray⟩) .nilIface (.int .i64 B.kind) (.int .i64 B.line) (.string ⟨B.text.toArray⟩) (.iface i2 y2) (.bool true))
      clear hX st stl hzZ hgZ
      go_wp2
      (try simp only [Exit.inBlock, Exit.then])
      exact bodyPost_ret (results_G rfl rfl HZF.out rfl rfl rfl rfl rfl rfl rfl rfl rfl) rfl ⟨⟨A, B, true⟩, _, _, _, rfl, ⟨_, _, rfl, q3.out.weak, q4.out.weak⟩, q1.out, q2.out⟩
  · skip
    go_wp2_with (rw [← HW3.out])
    refine HPR.out.mono ?_
    rintro e wP ⟨rfl, S2, u2, hP, hng, st4, hgb, hr2⟩
    have hst := ST3.out.trans st4
    have hr1 := st4.rn R1.out
    have hr2 : RN (SO (GS S2 w2.heap.size) (GS O w.heap.size)) wP B.tree u2 := RN.keep (Fr.refl nob wP) (fun _ _ x => x.elim) (fun k _ hx => by
      rcases hx with (hx | hx) | hx
      · exact .inl hx
      · exact .inr (.inr hx)
      · exact .inr (.inl hx)) _ _ hr2
    have hsh2 := hr2.shape
    clear st4 r3 rg3
    rcases hsh2 with rfl | ⟨i2, y2, rfl⟩
    · skip
      obtain ⟨mv2, hP5⟩ := hP
      have rP := rule5 hP5.blk _ (Fr.refl _ _)
      have HBL := Lib.hid (ad_blanks b l x ⟨at2, ms2, 0⟩ S2 wP hl h2l ⟨mv2, hP5⟩)
      have HGB := Lib.hid hgb; have HNG := Lib.hid hng; have HST := Lib.hid hst; have HR1 := Lib.hid hr1; have HR2 := Lib.hid hr2; have HLG := Lib.hid (lt_heap hgb)
      have rgP := rule9 hgb _ (Fr.refl _ _)
      clear hP5 hgb hng hst hr1 hr2
      go_wp2_with fail
      refine HBL.out.mono ?_
      rintro e wQ ⟨rfl, hQ, stQ⟩
      rw [show bhd l [32, 9] (AdS.mk at2 ms2 0).at_ = pQ from HPQ.out] at hQ
      have hQ : ARd b l x ⟨pQ, ms2, 0⟩ S2 wQ := hQ
      have HQ := Lib.hid hQ; have STQ := Lib.hid (stQ.gs HLG.out)
      have HNX := Lib.hid (by have := ad_next b l x ⟨pQ, ms2, 0⟩ S2 wQ (by omega) hQ; simp only at this; rw [HC1.out] at this; exact this)
      have HGQ := Lib.hid (stQ.fr.heap HGB.out HNG.out)
      clear hQ stQ rP rgP
      go_wp2_with fail
      refine HNX.out.mono ?_
      rintro e wR ⟨rfl, fR⟩
      have hgR := fR.heap HGQ.out (fun x => x)
      have rgR := rule9 hgR _ (Fr.refl _ _)
      obtain ⟨wS, hwS⟩ : ∃ wS, wS = wR.setCell ⟨w2.heap.size, 8, none⟩ (.bool true) := ⟨_, rfl⟩
      have fS : Fr (fun k => k = w2.heap.size) wR wS := by rw [hwS]; exact (Fr.refl (fun k => k = w2.heap.size) wR).setCell (p := ⟨w2.heap.size, 8, none⟩) (fun _ => rfl) _
      have hsS : wS.heap.size = wR.heap.size := by rw [hwS]; simp [World.setCell]
      have hgS : wS.heap[w2.heap.size]? = some (.cells #[.int .i64 A.kind, .int .i64 A.line, .string ⟨A.text.toArray⟩, (.iface i1 y1), (.int .i64 B.kind), (.int .i64 B.line), (.string ⟨B.text.toArray⟩), .nilIface, .bool true] 29 (0, 0)) := by rw [hwS]; simpa using heap_setCell_at hgR 8 (.bool true)
      obtain ⟨mvR, hR5⟩ := HQ.out.on fR
      have hS5 := hR5.keep fS (fun e => HNG.out (e ▸ hR5.me)) (fun k hk e => HNG.out (e ▸ (hR5.nm k hk).2))
      have rS := rule5 hS5.blk _ (Fr.refl _ _)
      have hT5 := hS5.turned 1 (.int .i64 ((pQ : Int) + 1)) ⟨pQ + 1, ms2, 0⟩ (by simp) rfl
      have stT := hS5.stp 1 (.int .i64 ((pQ : Int) + 1))
      obtain ⟨wT, hwT⟩ : ∃ wT, wT = wS.setCell ⟨b, 1, none⟩ (.int .i64 ((pQ : Int) + 1)) := ⟨_, rfl⟩
      rw [← hwT] at hT5 stT
      have hgT := stT.fr.heap hgS HNG.out
      have sST : Stp (GS S2 w2.heap.size) wR (GS S2 w2.heap.size) wS := ⟨fS.mono (fun _ _ e => .inr e), fun _ _ h => h, fun hl k hk => by have := hl k hk; omega⟩
      have st0 := (STQ.out.trans (Stp.of fR)).trans (sST.trans (stT.gs (by have := HLG.out; have := STQ.out.fr.size; have := fR.size; omega)))
      have HWS := Lib.hid hwS; have HWT := Lib.hid hwT; have HGT := Lib.hid hgT; have ST0 := Lib.hid st0
      have HBT := Lib.hid (ad_blanks b l x ⟨pQ + 1, ms2, 0⟩ S2 wT hl (by show pQ + 1 ≤ _; omega) ⟨mvR, hT5⟩)
      have HLT2 := Lib.hid (lt_heap hgT)
      clear hR5 hS5 hT5 stT hwS hwT hgR hgS hgT fS hsS sST st0 fR
      go_wp2_with (first | rw [← HWS.out] | rw [← HWT.out])
      refine HBT.out.mono ?_
      rintro e wU ⟨rfl, hU, stU⟩
      rw [show bhd l [32, 9] (AdS.mk (pQ + 1) ms2 0).at_ = pV from HPV.out] at hU
      have hU : ARd b l x ⟨pV, ms2, 0⟩ S2 wU := hU
      have HU := Lib.hid hU; have STU := Lib.hid (ST0.out.trans (stU.gs HLT2.out))
      have HNU := Lib.hid (by have := ad_next b l x ⟨pV, ms2, 0⟩ S2 wU (by omega) hU; simp only at this; rw [HC2.out] at this; exact this)
      have HGU := Lib.hid (stU.fr.heap HGT.out HNG.out)
      clear hU stU rgR rS
      go_wp2_with fail
      refine HNU.out.mono ?_
      rintro e wV ⟨rfl, fV⟩
      obtain ⟨mvV, hV5⟩ := HU.out.on fV
      have rV := rule5 hV5.blk _ (Fr.refl _ _)
      have hgV := fV.heap HGU.out (fun x => x)
      have HFl := Lib.hid (ad_fail b l x ⟨pV, ms2, 0⟩ S2 15 pV wV ⟨mvV, hV5⟩)
      have STV := Lib.hid (STU.out.trans (Stp.of fV)); have HGV := Lib.hid hgV
      clear hV5 hgV fV
      go_wp2_with fail
      refine HFl.out.mono ?_
      rintro e wX ⟨rfl, hX, stX⟩
      have hgZ := stX.fr.heap HGV.out HNG.out
      have stl := STV.out.trans (stX.gs (lt_heap HGV.out))
      clear stX rV
      have rgZ := rule9 hgZ _ (Fr.refl _ _)
      have st := HST.out.trans stl
      have hzZ := hole9 rfl HS.out HZ.out st
      have rz := rule9 hzZ _ (Fr.refl _ _)
      have q1 := Lib.hid (ard_end hX (fun h => hole_not HLT.out HS.out st h) (.int .i64 A.kind) (.int .i64 A.line) (.string ⟨A.text.toArray⟩) (.iface i1 y1) (.int .i64 B.kind) (.int .i64 B.line) (.string ⟨B.text.toArray⟩) .nilIface (.bool true))
      have q2 := Lib.hid (stp_end F1.out rfl st (.int .i64 A.kind) (.int .i64 A.line) (.string ⟨A.text.toArray⟩) (.iface i1 y1) (.int .i64 B.kind) (.int .i64 B.line) (.string ⟨B.text.toArray⟩) .nilIface (.bool true))
      have HZF := Lib.hid (setNine_heap hzZ (.int .i64 A.kind) (.int .i64 A.line) (.string ⟨A.text.toArray⟩) (.iface i1 y1) (.int .i64 B.kind) (.int .i64 B.line) (.string ⟨B.text.toArray⟩) .nilIface (.bool true))
      have q3 := Lib.hid (rn_end (stl.rn HR1.out) (.int .i64 A.kind) (.int .i64 A.line) (.string ⟨A.text.toArray⟩) (.iface i1 y1) (.int .i64 B.kind) (.int .i64 B.line) (.string ⟨B.text.toArray⟩) .nilIface (.bool true))
      have q4 := Lib.hid (rn_end (stl.rn HR2.out) (.int .i64 A.kind) (.int .i64 A.line) (.string ⟨A.text.toArray⟩) (.iface i1 y1) (.int .i64 B.kind) (.int .i64 B.line) (.string ⟨B.text.toArray⟩) .nilIface (.bool true))
      clear hX st stl hzZ hgZ
      go_wp2
      (try simp only [Exit.inBlock, Exit.then])
      exact bodyPost_ret (results_G rfl rfl HZF.out rfl rfl rfl rfl rfl rfl rfl rfl rfl) rfl ⟨⟨A, B, true⟩, _, _, _, rfl, ⟨_, _, rfl, q3.out.weak, q4.out.weak⟩, q1.out, q2.out⟩
    · skip
      obtain ⟨mv2, hP5⟩ := hP
      have rP := rule5 hP5.blk _ (Fr.refl _ _)
      have HBL := Lib.hid (ad_blanks b l x ⟨at2, ms2, 0⟩ S2 wP hl h2l ⟨mv2, hP5⟩)
      have HGB := Lib.hid hgb; have HNG := Lib.hid hng; have HST := Lib.hid hst; have HR1 := Lib.hid hr1; have HR2 := Lib.hid hr2; have HLG := Lib.hid (lt_heap hgb)
      have rgP := rule9 hgb _ (Fr.refl _ _)
      clear hP5 hgb hng hst hr1 hr2
      go_wp2_with fail
      refine HBL.out.mono ?_
      rintro e wQ ⟨rfl, hQ, stQ⟩
      rw [show bhd l [32, 9] (AdS.mk at2 ms2 0).at_ = pQ from HPQ.out] at hQ
      have hQ : ARd b l x ⟨pQ, ms2, 0⟩ S2 wQ := hQ
      have HQ := Lib.hid hQ; have STQ := Lib.hid (stQ.gs HLG.out)
      have HNX := Lib.hid (by have := ad_next b l x ⟨pQ, ms2, 0⟩ S2 wQ (by omega) hQ; simp only at this; rw [HC1.out] at this; exact this)
      have HGQ := Lib.hid (stQ.fr.heap HGB.out HNG.out)
      clear hQ stQ rP rgP
      go_wp2_with fail
      refine HNX.out.mono ?_
      rintro e wR ⟨rfl, fR⟩
      have hgR := fR.heap HGQ.out (fun x => x)
      have rgR := rule9 hgR _ (Fr.refl _ _)
      obtain ⟨wS, hwS⟩ : ∃ wS, wS = wR.setCell ⟨w2.heap.size, 8, none⟩ (.bool true) := ⟨_, rfl⟩
      have fS : Fr (fun k => k = w2.heap.size) wR wS := by rw [hwS]; exact (Fr.refl (fun k => k = w2.heap.size) wR).setCell (p := ⟨w2.heap.size, 8, none⟩) (fun _ => rfl) _
      have hsS : wS.heap.size = wR.heap.size := by rw [hwS]; simp [World.setCell]
      have hgS : wS.heap[w2.heap.size]? = some (.cells #[.int .i64 A.kind, .int .i64 A.line, .string ⟨A.text.toArray⟩, (.iface i1 y1), (.int .i64 B.kind), (.int .i64 B.line), (.string ⟨B.text.toArray⟩), (.iface i2 y2), .bool true] 29 (0, 0)) := by rw [hwS]; simpa using heap_setCell_at hgR 8 (.bool true)
      obtain ⟨mvR, hR5⟩ := HQ.out.on fR
      have hS5 := hR5.keep fS (fun e => HNG.out (e ▸ hR5.me)) (fun k hk e => HNG.out (e ▸ (hR5.nm k hk).2))
      have rS := rule5 hS5.blk _ (Fr.refl _ _)
      have hT5 := hS5.turned 1 (.int .i64 ((pQ : Int) + 1)) ⟨pQ + 1, ms2, 0⟩ (by simp) rfl
      have stT := hS5.stp 1 (.int .i64 ((pQ : Int) + 1))
      obtain ⟨wT, hwT⟩ : ∃ wT, wT = wS.setCell ⟨b, 1, none⟩ (.int .i64 ((pQ : Int) + 1)) := ⟨_, rfl⟩
      rw [← hwT] at hT5 stT
      have hgT := stT.fr.heap hgS HNG.out
      have sST : Stp (GS S2 w2.heap.size) wR (GS S2 w2.heap.size) wS := ⟨fS.mono (fun _ _ e => .inr e), fun _ _ h => h, fun hl k hk => by have := hl k hk; omega⟩
      have st0 := (STQ.out.trans (Stp.of fR)).trans (sST.trans (stT.gs (by have := HLG.out; have := STQ.out.fr.size; have := fR.size; omega)))
      have HWS := Lib.hid hwS; have HWT := Lib.hid hwT; have HGT := Lib.hid hgT; have ST0 := Lib.hid st0
      have HBT := Lib.hid (ad_blanks b l x ⟨pQ + 1, ms2, 0⟩ S2 wT hl (by show pQ + 1 ≤ _; omega) ⟨mvR, hT5⟩)
      have HLT2 := Lib.hid (lt_heap hgT)
      clear hR5 hS5 hT5 stT hwS hwT hgR hgS hgT fS hsS sST st0 fR
      go_wp2_with (first | rw [← HWS.out] | rw [← HWT.out])
      refine HBT.out.mono ?_
      rintro e wU ⟨rfl, hU, stU⟩
      rw [show bhd l [32, 9] (AdS.mk (pQ + 1) ms2 0).at_ = pV from HPV.out] at hU
      have hU : ARd b l x ⟨pV, ms2, 0⟩ S2 wU := hU
      have HU := Lib.hid hU; have STU := Lib.hid (ST0.out.trans (stU.gs HLT2.out))
      have HNU := Lib.hid (by have := ad_next b l x ⟨pV, ms2, 0⟩ S2 wU (by omega) hU; simp only at this; rw [HC2.out] at this; exact this)
      have HGU := Lib.hid (stU.fr.heap HGT.out HNG.out)
      clear hU stU rgR rS
      go_wp2_with fail
      refine HNU.out.mono ?_
      rintro e wV ⟨rfl, fV⟩
      obtain ⟨mvV, hV5⟩ := HU.out.on fV
      have rV := rule5 hV5.blk _ (Fr.refl _ _)
      have hgV := fV.heap HGU.out (fun x => x)
      have HFl := Lib.hid (ad_fail b l x ⟨pV, ms2, 0⟩ S2 15 pV wV ⟨mvV, hV5⟩)
      have STV := Lib.hid (STU.out.trans (Stp.of fV)); have HGV := Lib.hid hgV
      clear hV5 hgV fV
      go_wp2_with fail
      refine HFl.out.mono ?_
      rintro e wX ⟨rfl, hX, stX⟩
      have hgZ := stX.fr.heap HGV.out HNG.out
      have stl := STV.out.trans (stX.gs (lt_heap HGV.out))
      clear stX rV
      have rgZ := rule9 hgZ _ (Fr.refl _ _)
      have st := HST.out.trans stl
      have hzZ := hole9 rfl HS.out HZ.out st
      have rz := rule9 hzZ _ (Fr.refl _ _)
      have q1 := Lib.hid (ard_end hX (fun h => hole_not HLT.out HS.out st h) (.int .i64 A.kind) (.int .i64 A.line) (.string ⟨A.text.toArray⟩) (.iface i1 y1) (.int .i64 B.kind) (.int .i64 B.line) (.string ⟨B.text.toArray⟩) (.iface i2 y2) (.bool true))
      have q2 := Lib.hid (stp_end F1.out rfl st (.int .i64 A.kind) (.int .i64 A.line) (.string ⟨A.text.toArray⟩) (.iface i1 y1) (.int .i64 B.kind) (.int .i64 B.line) (.string ⟨B.text.toArray⟩) (.iface i2 y2) (.bool true))
      have HZF := Lib.hid (setNine_heap hzZ (.int .i64 A.kind) (.int .i64 A.line) (.string ⟨A.text.toArray⟩) (.iface i1 y1) (.int .i64 B.kind) (.int .i64 B.line) (.string ⟨B.text.toArray⟩) (.iface i2 y2) (.bool true))
      have q3 := Lib.hid (rn_end (stl.rn HR1.out) (.int .i64 A.kind) (.int .i64 A.line) (.string ⟨A.text.toArray⟩) (.iface i1 y1) (.int .i64 B.kind) (.int .i64 B.line) (.string ⟨B.text.toArray⟩) (.iface i2 y2) (.bool true))
      have q4 := Lib.hid (rn_end (stl.rn HR2.out) (.int .i64 A.kind) (.int .i64 A.line) (.string ⟨A.text.toArray⟩) (.iface i1 y1) (.int .i64 B.kind) (.int .i64 B.line) (.string ⟨B.text.toArray⟩) (.iface i2 y2) (.bool true))
      clear hX st stl hzZ hgZ
      go_wp2
      (try simp only [Exit.inBlock, Exit.then])
      exact bodyPost_ret (results_G rfl rfl HZF.out rfl rfl rfl rfl rfl rfl rfl rfl rfl) rfl ⟨⟨A, B, true⟩, _, _, _, rfl, ⟨_, _, rfl, q3.out.weak, q4.out.weak⟩, q1.out, q2.out⟩
end Go.Proofs.YtmoeboknelnaoaaGreatDoor

/-
  Walks of package addr: guard, whole; what Parse and ParseGuard hand back.
-/
namespace Go.Proofs.YtmoeboknelnaoaaGreatDoor
open Go.RowKit

theorem ad_guard (b : Nat) (l : List UInt8) (x : Bool) (at0 : Nat) (S O : Nat → Prop) (w : World) (hl : l.length ≤ 99000) (ha : at0 ≤ l.length) (hS : ∀ k, S k → k < w.heap.size) (hO : ∀ k, O k → k < w.heap.size) (W0 : World) (hE : Env W0) (hW : Fr nob W0 w) (hSW : ∀ k, S k → W0.heap.size ≤ k) (h : ARd b l x ⟨at0, [], 0⟩ S w) :
    Calls Tryz.prog 26 #[.pointer (some ⟨b, 0, none⟩)] w (GuardAns b l x S O w (guardD x l ⟨at0, [], 0⟩)) := by
  unfold guardD
  cases hR : addrD x l false ⟨at0, [], 0⟩ with
  | inl q => exact ad_guard_e b l x at0 [] S O w hl ha rfl hS hO W0 hE hW hSW h q.1 q.2 hR
  | inr q =>
    obtain ⟨A, at1, ms1, e1⟩ := q
    obtain rfl : e1 = 0 := (addrD_in (s := ⟨at0, [], 0⟩) ha rfl hR).ok
    simp only
    by_cases hk : A.kind = 0
    · rw [if_pos hk]
      simp only
      unfold notD
      simp only
      by_cases h33 : byt l (bhd l [32, 9] at1) = 33
      · rw [if_pos h33]
        by_cases h33' : byt l (bhd l [32, 9] (bhd l [32, 9] at1 + 1)) = 33
        · rw [if_pos h33']
          exact ad_guard_n2 b l x at0 [] S O w hl ha rfl hS hO W0 hE hW hSW h A at1 ms1 hR hk _ rfl _ h33 rfl h33'
        · rw [if_neg h33']
          exact ad_guard_n1 b l x at0 [] S O w hl ha rfl hS hO W0 hE hW hSW h A at1 ms1 hR hk _ rfl _ h33 rfl h33'
      · rw [if_neg h33]
        exact ad_guard_n0 b l x at0 [] S O w hl ha rfl hS hO W0 hE hW hSW h A at1 ms1 hR hk _ rfl h33
    · rw [if_neg hk]
      cases hR2 : pairD x l ⟨at1, ms1, 0⟩ with
      | inl q => exact ad_guard_pe b l x at0 [] S O w hl ha rfl hS hO W0 hE hW hSW h A at1 ms1 hR hk q.1 q.2 hR2
      | inr q =>
        obtain ⟨B, at2, ms2, e2⟩ := q
        obtain rfl : e2 = 0 := (pairD_in hR2).ok
        simp only
        unfold notD
        simp only
        by_cases h33 : byt l (bhd l [32, 9] at2) = 33
        · rw [if_pos h33]
          by_cases h33' : byt l (bhd l [32, 9] (bhd l [32, 9] at2 + 1)) = 33
          · rw [if_pos h33']
            exact ad_guard_p2 b l x at0 [] S O w hl ha rfl hS hO W0 hE hW hSW h A at1 ms1 hR hk B at2 ms2 hR2 _ rfl _ h33 rfl h33'
          · rw [if_neg h33']
            exact ad_guard_p1 b l x at0 [] S O w hl ha rfl hS hO W0 hE hW hSW h A at1 ms1 hR hk B at2 ms2 hR2 _ rfl _ h33 rfl h33'
        · rw [if_neg h33]
          exact ad_guard_p0 b l x at0 [] S O w hl ha rfl hS hO W0 hE hW hSW h A at1 ms1 hR hk B at2 ms2 hR2 _ rfl h33

theorem notD_err {l : List UInt8} {a b : AV} {s : AdS} {z : Int × Nat} (h : notD l a b s = .inl z) : z.1 ≠ 0 := by
  unfold notD at h
  split at h
  · split at h
    · injection h with h; subst h; intro e; cases e
    · cases h
  · cases h
theorem notD_ok {l : List UInt8} {a b : AV} {s s' : AdS} {g : GV} (h : notD l a b s = .inr (g, s')) : s'.e = 0 := by
  unfold notD at h
  split at h
  · split at h
    · cases h
    · injection h with h; injection h with h1 h2; subst h2; rfl
  · injection h with h; injection h with h1 h2; subst h2; rfl
theorem guardD_err {x : Bool} {l : List UInt8} {s : AdS} {z : Int × Nat} (h : guardD x l s = .inl z) : z.1 ≠ 0 := by
  unfold guardD at h
  split at h
  · next y hp => injection h with h; subst h; exact addrD_err hp
  · next a s1 hp =>
    split at h
    · next y hq =>
      injection h with h; subst h
      split at hq
      · cases hq
      · exact pairD_err hq
    · exact notD_err h
theorem guardD_ok {x : Bool} {l : List UInt8} {s s' : AdS} {g : GV} (h : guardD x l s = .inr (g, s')) : s'.e = 0 := by
  unfold guardD at h
  split at h
  · cases h
  · split at h
    · cases h
    · exact notD_ok h

/-- What Parse hands back. -/
def AParse (R : OutA) (w : World) (e : Ending) (w' : World) : Prop := Fr nob w w' ∧ match R with
  | .inl (z, p) => e = .returned (.tuple #[.agg zA, .slice none 0 0, .int .i64 (p : Nat), .int .i64 z])
  | .inr (a, s) => ∃ v mv, e = .returned (.tuple #[v, mv, .int .i64 (s.at_ : Nat), .int .i64 0]) ∧ AVal nob w' a v ∧ OwM w' s.marks mv
def GParse (R : OutG) (w : World) (e : Ending) (w' : World) : Prop := Fr nob w w' ∧ match R with
  | .inl (z, p) => e = .returned (.tuple #[.agg zG, .slice none 0 0, .int .i64 (p : Nat), .int .i64 z])
  | .inr (g, s) => ∃ v mv, e = .returned (.tuple #[v, mv, .int .i64 (s.at_ : Nat), .int .i64 0]) ∧ GVal nob w' g v ∧ OwM w' s.marks mv
theorem results_P9 {fn : Func} {p t u v : Tmp} (h : fn.results = #[.cell p 29, .tmp t, .tmp u, .tmp v]) {tmps : Array Value} {r : Nat} (ht : tmps.getD p undef = .pointer (some ⟨r, 0, none⟩)) {W : World} {a0 a1 a2 a3 a4 a5 a6 a7 a8 : Value}
    (hb : W.heap[r]? = some (.cells #[a0, a1, a2, a3, a4, a5, a6, a7, a8] 29 (0, 0))) :
    (results fn tmps).run Tryz.prog W = .ok (.tuple #[.agg #[a0, a1, a2, a3, a4, a5, a6, a7, a8], tmps.getD t undef, tmps.getD u undef, tmps.getD v undef]) W := by
  have c0 := cell_at (j := 0) hb rfl
  have c1 := cell_at (j := 1) hb rfl
  have c2 := cell_at (j := 2) hb rfl
  have c3 := cell_at (j := 3) hb rfl
  have c4 := cell_at (j := 4) hb rfl
  have c5 := cell_at (j := 5) hb rfl
  have c6 := cell_at (j := 6) hb rfl
  have c7 := cell_at (j := 7) hb rfl
  have c8 := cell_at (j := 8) hb rfl
  have ht' : tmps[p]?.getD undef = .pointer (some ⟨r, 0, none⟩) := by rw [← ht]; simp
  simp only [results, h]
  simp [ht', go_sem, c0, c1, c2, c3, c4, c5, c6, c7, c8]
theorem results_P4 {fn : Func} {p t u v : Tmp} (h : fn.results = #[.cell p 27, .tmp t, .tmp u, .tmp v]) {tmps : Array Value} {r : Nat} (ht : tmps.getD p undef = .pointer (some ⟨r, 0, none⟩)) {W : World} {a0 a1 a2 a3 : Value}
    (hb : W.heap[r]? = some (.cells #[a0, a1, a2, a3] 27 (0, 0))) :
    (results fn tmps).run Tryz.prog W = .ok (.tuple #[.agg #[a0, a1, a2, a3], tmps.getD t undef, tmps.getD u undef, tmps.getD v undef]) W := by
  have c0 := cell_at (j := 0) hb rfl
  have c1 := cell_at (j := 1) hb rfl
  have c2 := cell_at (j := 2) hb rfl
  have c3 := cell_at (j := 3) hb rfl
  have ht' : tmps[p]?.getD undef = .pointer (some ⟨r, 0, none⟩) := by rw [← ht]; simp
  simp only [results, h]
  simp [ht', go_sem, c0, c1, c2, c3]
end Go.Proofs.YtmoeboknelnaoaaGreatDoor

/-
  A guard at a text's end is read alike with more behind it. Plain.
-/
namespace Go.Proofs.YtmoeboknelnaoaaGreatDoor
open Go.RowKit

section
variable {s t : List UInt8}
theorem byt_app {k : Nat} (h : k < s.length) : byt (s ++ t) k = byt s k := by unfold byt; rw [List.getElem?_append_left h]
theorem drop_app {k : Nat} (h : k ≤ s.length) : (s ++ t).drop k = s.drop k ++ t := List.drop_append_of_le_length h
theorem adv_app {c : UInt8} {k : Nat} (h : k < s.length) : adv (s ++ t) c k = adv s c k := by unfold adv; rw [List.getElem?_append_left h]
theorem idx_app {c : UInt8} : ∀ {a b : List UInt8}, a.idxOf c < a.length → (a ++ b).idxOf c = a.idxOf c
  | [], _, h => by simp at h
  | x :: a, b, h => by
    rw [List.cons_append, List.idxOf_cons, List.idxOf_cons]
    rw [List.idxOf_cons, List.length_cons] at h
    cases hx : x == c with
    | true => rfl
    | false =>
      rw [hx] at h
      simp only [cond_false] at h ⊢
      rw [idx_app (b := b) (by omega)]
theorem brE_app {k : Nat} (h : brE s k < s.length) : brE (s ++ t) k = brE s k := by
  have h1 := adv_ge (l := s) (c := 94) (k := k + 1)
  have h2 := adv_ge (l := s) (c := 93) (k := adv s 94 (k + 1))
  have h3 := nxt_ge (l := s) (c := 93) (k := adv s 93 (adv s 94 (k + 1)))
  unfold brE at h ⊢
  have h4 : nxt s 93 (adv s 93 (adv s 94 (k + 1))) + 1 < s.length := by omega
  rw [adv_app (by omega : k + 1 < s.length), adv_app (by omega : adv s 94 (k + 1) < s.length)]
  generalize adv s 93 (adv s 94 (k + 1)) = j at *
  have h5 : nxt (s ++ t) 93 j = nxt s 93 j := by
    unfold nxt at h4 ⊢
    rw [drop_app (by omega), idx_app (by rw [List.length_drop]; omega)]
  rw [h5, List.length_append]
  omega
theorem esc_app {d : UInt8} {rx : Bool} {k : Nat} {out : List UInt8} (h : (esc s d rx k out).1 = 0) : esc (s ++ t) d rx k out = esc s d rx k out ∧ (esc s d rx k out).2.1 = k + 2 ∧ k + 2 ≤ s.length := by
  unfold esc at h ⊢
  cases hc : s[k + 1]? with
  | none => rw [hc] at h; simp at h
  | some y =>
    have hk := (List.getElem?_eq_some_iff.1 hc).1
    rw [hc] at h
    rw [List.getElem?_append_left hk, hc]
    refine ⟨rfl, ?_, by omega⟩
    simp only at h ⊢
    by_cases hd : y = d
    · rw [if_pos hd]
    · rw [if_neg hd] at h ⊢
      by_cases hn : y = 10 ∧ rx = true
      · rw [if_pos hn] at h; exact absurd h (by intro e; cases e)
      · rw [if_neg hn]
theorem bt_app {d : UInt8} {rx : Bool} : ∀ (n k : Nat) (out : List UInt8) (m : Nat), k ≤ s.length → s.length < n + k → n ≤ m → (bt s d rx n k out).2.2 = 0 → bt (s ++ t) d rx m k out = bt s d rx n k out
  | 0, k, out, m, h0, h, _, he => by omega
  | n + 1, k, out, 0, _, _, hm, _ => by omega
  | n + 1, k, out, m + 1, h0, h, hm, he => by
    rw [bt] at he ⊢
    rw [bt]
    cases hc : s[k]? with
    | none => rw [hc] at he; exact absurd he (by intro e; cases e)
    | some c =>
      have hk := (List.getElem?_eq_some_iff.1 hc).1
      rw [hc] at he
      rw [List.getElem?_append_left hk, hc]
      simp only at he ⊢
      by_cases hd : c = d
      · rw [if_pos hd, if_pos hd]
      · rw [if_neg hd] at he ⊢
        rw [if_neg hd]
        by_cases h92 : c = 92
        · rw [if_pos h92] at he ⊢
          rw [if_pos h92]
          by_cases hz : (esc s d rx k out).1 = 0
          · obtain ⟨e1, e2, e3⟩ := esc_app (t := t) hz
            rw [if_pos hz] at he
            rw [e1, if_pos hz, if_pos hz]
            exact bt_app n _ _ m (by omega) (by omega) (by omega) he
          · rw [if_neg hz] at he
            exact absurd he hz
        · rw [if_neg h92] at he ⊢
          rw [if_neg h92]
          have key : ∀ q, 1 ≤ q → k + q ≤ s.length → (if Lib.indexByte ((s.drop k).take q) 10 < 0 then bt s d rx n (k + q) (out ++ (s.drop k).take q) else ([], k + (Lib.indexByte ((s.drop k).take q) 10).toNat, 2)).2.2 = 0 →
              (if Lib.indexByte (((s ++ t).drop k).take q) 10 < 0 then bt (s ++ t) d rx m (k + q) (out ++ ((s ++ t).drop k).take q) else ([], k + (Lib.indexByte (((s ++ t).drop k).take q) 10).toNat, 2)) = (if Lib.indexByte ((s.drop k).take q) 10 < 0 then bt s d rx n (k + q) (out ++ (s.drop k).take q) else ([], k + (Lib.indexByte ((s.drop k).take q) 10).toNat, 2)) := by
            intro q hq1 hq he
            have ht : ((s ++ t).drop k).take q = (s.drop k).take q := by
              rw [drop_app (by omega), List.take_append_of_le_length (by rw [List.length_drop]; omega)]
            rw [ht]
            by_cases hi : Lib.indexByte ((s.drop k).take q) 10 < 0
            · rw [if_pos hi] at he
              rw [if_pos hi, if_pos hi]
              exact bt_app n _ _ m hq (by omega) (by omega) he
            · rw [if_neg hi, if_neg hi]
          by_cases hb : c = 91 ∧ rx = true
          · rw [if_pos hb] at he ⊢
            have hbl : brE s k ≤ s.length := by unfold brE; omega
            have hbg : k < brE s k := by
              have h1 := adv_ge (l := s) (c := 94) (k := k + 1)
              have h2 := adv_ge (l := s) (c := 93) (k := adv s 94 (k + 1))
              have h3 := nxt_ge (l := s) (c := 93) (k := adv s 93 (adv s 94 (k + 1)))
              unfold brE; omega
            have hlt : brE s k < s.length := by
              refine Nat.lt_of_not_le fun hle => ?_
              have e : k + (brE s k - k) = s.length := by omega
              rw [e] at he
              split at he
              · cases n with
                | zero => omega
                | succ n =>
                  rw [bt, List.getElem?_eq_none (Nat.le_refl _)] at he
                  exact absurd he (by intro e; cases e)
              · exact absurd he (by intro e; cases e)
            rw [if_pos hb, brE_app hlt]
            exact key _ (by omega) (by omega) he
          · rw [if_neg hb] at he ⊢
            rw [if_neg hb]
            exact key 1 (by omega) (by omega) he
theorem nm_app {at_ : Nat} {y : UInt8} {r : List UInt8} (hy : ¬ (48 ≤ y.toNat ∧ y.toNat ≤ 57)) : ∀ (m : List UInt8) (n c : Nat), nm at_ (m ++ y :: r) n c = nm at_ m n c
  | [], n, c => by simp only [List.nil_append, nm, if_neg hy]
  | b :: m, n, c => by
    rw [List.cons_append, nm, nm, nm_app hy m]
theorem tl_app {y : UInt8} {r cs : List UInt8} (hy : cs.contains y = false) : ∀ (m : List UInt8), tl (m ++ y :: r) cs = tl m cs ++ y :: r
  | [] => by unfold tl; rw [List.nil_append, List.dropWhile_cons, if_neg (by rw [hy]; simp), List.dropWhile_nil, List.nil_append]
  | b :: m => by
    have ih := tl_app (r := r) hy m
    unfold tl at ih ⊢
    rw [List.cons_append, List.dropWhile_cons, List.dropWhile_cons]
    split
    · exact ih
    · rfl
theorem bhd_app {y : UInt8} {r cs : List UInt8} {k : Nat} (hy : cs.contains y = false) (hk : k ≤ s.length) : bhd (s ++ y :: r) cs k = bhd s cs k := by
  unfold bhd
  rw [drop_app hk, tl_app hy, List.length_append, List.length_append]
  omega
theorem bhd_pad {y z : UInt8} {pad cs : List UInt8} (hp : ∀ b ∈ pad, cs.contains b = true) (hz : cs.contains z = false) : bhd (s ++ y :: (pad ++ [z])) cs (s.length + 1) = s.length + 1 + pad.length := by
  have e1 : (s ++ y :: (pad ++ [z])).drop (s.length + 1) = pad ++ [z] := by
    rw [List.drop_append]; simp
  have e2 : ∀ q : List UInt8, (∀ b ∈ q, cs.contains b = true) → tl (q ++ [z]) cs = [z] := by
    intro q
    induction q with
    | nil => intro _; unfold tl; rw [List.nil_append, List.dropWhile_cons, if_neg (by rw [hz]; simp)]
    | cons b q ih =>
      intro h
      have ih := ih fun x hx => h x (List.mem_cons_of_mem _ hx)
      unfold tl at ih ⊢
      rw [List.cons_append, List.dropWhile_cons, if_pos (h b List.mem_cons_self), ih]
  unfold bhd
  rw [e1, e2 pad hp]
  simp
  omega
theorem regexD_app {x : Bool} {d : UInt8} {q q' : AdS} {a : AV} (hk : q.at_ ≤ s.length) (h : regexD x s d q = .inr (a, q')) : regexD x (s ++ t) d q = .inr (a, q') := by
  have h0 : (bt s d true (s.length + 1) q.at_ []).2.2 = 0 := by
    refine Classical.byContradiction fun hn => ?_
    unfold regexD at h
    rw [if_pos hn] at h
    cases h
  have e := bt_app (t := t) (s.length + 1) q.at_ [] ((s ++ t).length + 1) hk (by omega) (by rw [List.length_append]; omega) h0
  unfold regexD at h ⊢
  rw [e]
  exact h
theorem addrD_app {x : Bool} {sec : Bool} {r : List UInt8} {q q' : AdS} {a : AV} (hk : q.at_ ≤ s.length) (h : addrD x s sec q = .inr (a, q')) : addrD x (s ++ 33 :: r) sec q = .inr (a, q') := by
  rcases Nat.lt_or_ge q.at_ s.length with hlt | hge
  · unfold addrD at h ⊢
    rw [byt_app hlt]
    split
    · next hc =>
      rw [if_pos hc] at h
      unfold lineD at h ⊢
      rw [drop_app hk, nm_app (by decide)]
      exact h
    · next hc =>
      rw [if_neg hc] at h
      split
      · next hc => rw [if_pos hc] at h; exact h
      · next hc =>
        rw [if_neg hc] at h
        split
        · next hc =>
          rw [if_pos hc] at h
          exact regexD_app (by show q.at_ + 1 ≤ _; omega) h
        · next hc =>
          rw [if_neg hc] at h
          split
          · next hc =>
            rw [if_pos hc] at h
            split at h
            · cases h
            · next hn =>
              have hl : q.at_ + 1 < s.length := Nat.lt_of_not_le fun e => hn (Or.inl e)
              rw [byt_app hl, if_neg (by rw [List.length_append]; intro e; exact hn (e.imp (by omega) id))]
              exact regexD_app (by show q.at_ + 1 + 1 ≤ _; omega) h
          · next hc =>
            rw [if_neg hc] at h
            split
            · next hc =>
              rw [if_pos hc] at h
              unfold moreD at h ⊢
              rw [drop_app (by omega), nm_app (by decide)]
              exact h
            · next hc => rw [if_neg hc] at h; exact h
  · have hb : byt s q.at_ = 0 := byt_out hge
    have hb2 : byt (s ++ 33 :: r) q.at_ = 33 := by
      obtain e : q.at_ = s.length := by omega
      unfold byt; rw [e, List.getElem?_append_right (Nat.le_refl _)]; simp
    unfold addrD at h ⊢
    rw [hb] at h
    rw [hb2]
    rw [if_neg (by decide), if_neg (by decide), if_neg (by decide), if_neg (by decide), if_neg (by simp)] at h ⊢
    exact h
theorem byt_end {r : List UInt8} : byt (s ++ 33 :: r) s.length = 33 := by
  unfold byt; rw [List.getElem?_append_right (Nat.le_refl _)]; simp
/-- What stands at a place of the text, or 33 behind it. -/
theorem byt_any {r : List UInt8} {k : Nat} (hk : k ≤ s.length) {c : UInt8} (hc : c ≠ 0) (hc2 : c ≠ 33) : byt (s ++ 33 :: r) k = c ↔ byt s k = c := by
  rcases Nat.lt_or_ge k s.length with hlt | hge
  · rw [byt_app hlt]
  · obtain rfl : k = s.length := by omega
    rw [byt_end, byt_out (Nat.le_refl _)]
    exact ⟨fun e => absurd e.symm hc2, fun e => absurd e.symm hc⟩
theorem pairD_app {x : Bool} {r : List UInt8} {q q' : AdS} {a : AV} (hk : q.at_ ≤ s.length) (h : pairD x s q = .inr (a, q')) : pairD x (s ++ 33 :: r) q = .inr (a, q') := by
  have h1 := bhd_le s [32, 9] q.at_
  unfold pairD at h ⊢
  rw [bhd_app (by decide) hk]
  by_cases hc : byt s (bhd s [32, 9] q.at_) = 44
  · have hlt := byt_lt (by rw [hc]; decide : byt s (bhd s [32, 9] q.at_) ≠ 0)
    rw [if_pos hc] at h
    rw [if_pos ((byt_any h1 (by decide) (by decide)).2 hc), bhd_app (by decide) (by omega)]
    cases hA : addrD x s true ⟨bhd s [32, 9] (bhd s [32, 9] q.at_ + 1), q.marks, 0⟩ with
    | inl z => rw [hA] at h; cases h
    | inr y =>
      obtain ⟨y, s1⟩ := y
      rw [hA] at h
      rw [addrD_app (bhd_le _ _ _) hA]
      exact h
  · rw [if_neg hc] at h
    rw [if_neg (fun e => hc ((byt_any h1 (by decide) (by decide)).1 e))]
    exact h
theorem notD_app {pad : List UInt8} {a b : AV} {g : GV} {q : AdS} {ms : List (Nat × List UInt8)} {e : Int} (hp : ∀ b ∈ pad, b = 32) (hk : q.at_ ≤ s.length) (h : notD s a b q = .inr (g, ⟨s.length, ms, e⟩)) (hg : g.no = false) :
    notD (s ++ 33 :: (pad ++ [112])) a b q = .inr (⟨g.a, g.b, true⟩, ⟨s.length + 1 + pad.length, ms, 0⟩) := by
  unfold notD at h ⊢
  rw [bhd_app (by decide) hk]
  split at h
  · split at h
    · cases h
    · injection h with h; injection h with h2 h3
      rw [← h2] at hg; cases hg
  · injection h with h; injection h with h2 h3
    injection h3 with h3 h4 h5
    rw [h3, byt_end, if_pos rfl, bhd_pad (fun b hb => by rw [hp b hb]; decide) (by decide)]
    have e2 : byt (s ++ 33 :: (pad ++ [112])) (s.length + 1 + pad.length) = 112 := by
      unfold byt
      rw [List.getElem?_append_right (by omega)]
      have : s.length + 1 + pad.length - s.length = pad.length + 1 := by omega
      rw [this, List.getElem?_cons_succ, List.getElem?_append_right (Nat.le_refl _)]
      simp
    rw [e2, if_neg (by decide), ← h2, h4]
/-- A guard that ends where the text ends, with a '!' behind it, is that guard, but a not. -/
theorem guardD_not {x : Bool} {pad : List UInt8} {g : GV} {ms : List (Nat × List UInt8)} {e : Int} (hp : ∀ b ∈ pad, b = 32) (h : guardD x s ⟨0, [], 0⟩ = .inr (g, ⟨s.length, ms, e⟩)) (hg : g.no = false) :
    guardD x (s ++ 33 :: (pad ++ [112])) ⟨0, [], 0⟩ = .inr (⟨g.a, g.b, true⟩, ⟨s.length + 1 + pad.length, ms, 0⟩) := by
  unfold guardD at h ⊢
  cases hA : addrD x s false ⟨0, [], 0⟩ with
  | inl z => rw [hA] at h; cases h
  | inr y =>
    obtain ⟨a, s1⟩ := y
    rw [hA] at h
    rw [addrD_app (Nat.zero_le _) hA]
    have f1 := addrD_in (by show 0 ≤ _; omega) rfl hA
    simp only at h ⊢
    by_cases hk : a.kind = 0
    · rw [if_pos hk] at h ⊢
      exact notD_app hp f1.le h hg
    · rw [if_neg hk] at h ⊢
      cases hB : pairD x s s1 with
      | inl z => rw [hB] at h; cases h
      | inr y =>
        obtain ⟨b, s2⟩ := y
        rw [hB] at h
        rw [pairD_app f1.le hB]
        exact notD_app hp (pairD_in hB).le h hg
end
end Go.Proofs.YtmoeboknelnaoaaGreatDoor

/-
  Walks of package addr: ParseGuard.
-/
namespace Go.Proofs.YtmoeboknelnaoaaGreatDoor
open Go.RowKit

theorem heap_drew {w : World} {k : Nat} {o : Obj} (h : w.heap[k]? = some o) : w.drew.heap[k]? = some o := h
abbrev B5 (w : World) (b : Nat) (v0 v1 v2 v3 v4 : Value) : Prop := w.cell? ⟨b, 0, none⟩ = some v0 ∧ w.cell? ⟨b, 1, none⟩ = some v1 ∧ w.cell? ⟨b, 2, none⟩ = some v2 ∧ w.cell? ⟨b, 3, none⟩ = some v3 ∧ w.cell? ⟨b, 4, none⟩ = some v4
section
variable {w : World} {b k j : Nat} {v0 v1 v2 v3 v4 : Value}
theorem B5.of {T : TypeId} {fr : Nat × Nat} (h : w.heap[b]? = some (.cells #[v0, v1, v2, v3, v4] T fr)) : B5 w b v0 v1 v2 v3 v4 := ⟨cell_at h rfl, cell_at h rfl, cell_at h rfl, cell_at h rfl, cell_at h rfl⟩
theorem B5.drew (h : B5 w b v0 v1 v2 v3 v4) : B5 w.drew b v0 v1 v2 v3 v4 := h
theorem B5.set (h : B5 w b v0 v1 v2 v3 v4) (hb : k ≠ b) (u : Value) : B5 (w.setCell ⟨k, j, none⟩ u) b v0 v1 v2 v3 v4 := ⟨cell_ne h.1 hb, cell_ne h.2.1 hb, cell_ne h.2.2.1 hb, cell_ne h.2.2.2.1 hb, cell_ne h.2.2.2.2 hb⟩
end

set_option maxRecDepth 100000 in
set_option maxHeartbeats 1000000 in
theorem parseG_no (l : List UInt8) (p : Nat) (x : Bool) (w : World) (hl : l.length ≤ 99000) (hp : p ≤ l.length) (hE : Env w) (z : Int) (q : Nat) (hR : guardD x l ⟨p, [], 0⟩ = .inl (z, q)) :
    Calls Tryz.prog 9 #[.string ⟨l.toArray⟩, .int .i64 (p : Nat), .bool x] w fun e w' => e = .returned (.tuple #[.agg zG, .slice none 0 0, .int .i64 (q : Nat), .int .i64 z]) ∧ Fr nob w w' := by
  have hz0 : ¬ z = 0 := guardD_err hR
  have hz1 : (z == 0) = false := by simpa using hz0
  have hz2 : (z != 0) = true := by simpa using hz0
  obtain ⟨w1, hw1⟩ : ∃ w1, w1 = w.alloc (.cells zG 29) := ⟨_, rfl⟩
  have f1 : Fr nob w w1 := by rw [hw1]; exact (Fr.refl _ _).alloc _
  have hz : w1.heap[w.heap.size]? = some (.cells zG 29 (0, 0)) := by rw [hw1]; exact newAt _ _
  have hs1 : w1.heap.size = w.heap.size + 1 := by rw [hw1]; simp
  obtain ⟨w2, hw2⟩ : ∃ w2, w2 = w1.alloc (.cells #[.string ⟨l.toArray⟩, .int .i64 (p : Nat), .bool x, .slice none 0 0, .int .i64 0] 74) := ⟨_, rfl⟩
  have f2 : Fr nob w1 w2 := by rw [hw2]; exact (Fr.refl _ _).alloc _
  have hb : w2.heap[w.heap.size + 1]? = some (.cells #[.string ⟨l.toArray⟩, .int .i64 (p : Nat), .bool x, .slice none 0 0, .int .i64 0] 74 (0, 0)) := by
    rw [hw2, ← hs1]; exact newAt _ _
  have hs2 : w2.heap.size = w.heap.size + 2 := by rw [hw2]; simp [hs1]
  have hA : ARd (w.heap.size + 1) l x ⟨p, [], 0⟩ (fun k => k = w.heap.size + 1) w2 := ⟨.slice none 0 0, ⟨hb, World.ownsRow_nil _ _ _ _, fun _ h => (by cases h), rfl⟩⟩
  have hG := ad_guard (w.heap.size + 1) l x p (fun k => k = w.heap.size + 1) (fun k => k = w.heap.size) w2 hl hp (fun k hk => by omega) (fun k hk => by omega) w hE (f1.trans' f2) (fun k hk => by omega) hA
  rw [hR] at hG
  have hz' := f2.heap hz (fun x => x)
  have q1 : ¬ (l.length : Int) < (p : Int) := by omega
  have HG := Lib.hid hG; have HW1 := Lib.hid hw1; have HW2 := Lib.hid hw2; have F12 := Lib.hid (f1.trans' f2); have HZ := Lib.hid hz'; have HS2 := Lib.hid hs2; have HS1 := Lib.hid hs1
  clear hG hw1 hw2 f1 f2 hz hz' hb hA hs1 hs2 hE hR
  go_enter Tryz.func9, Tryz.ntmps9
  go_wp2_with (first | rw [← HW1.out] | rw [HS1.out] | rw [← HW2.out])
  refine HG.out.mono ?_
  intro e w3 he
  obtain ⟨gv, v, S', ms, rfl, ⟨u1, u2, rfl, rn1, rn2⟩, hA3, st3⟩ := he
  obtain ⟨mv3, h3⟩ := hA3
  have hz3 := st3.fr.heap HZ.out (fun h => by omega)
  have hrb : w.heap.size ≠ w.heap.size + 1 := by omega
  have FF := Lib.hid (F12.out.trans st3.fr (fun i hi h => by omega))
  obtain ⟨w4, hw4⟩ : ∃ w4, w4 = w3.alloc (.cells #[.int .i64 gv.a.kind, .int .i64 gv.a.line, .string ⟨gv.a.text.toArray⟩, u1, .int .i64 gv.b.kind, .int .i64 gv.b.line, .string ⟨gv.b.text.toArray⟩, u2, .bool gv.no] 29) := ⟨_, rfl⟩
  have f4 : Fr nob w3 w4 := by rw [hw4]; exact (Fr.refl _ _).alloc _
  have hb4 := f4.heap h3.blk (fun x => x)
  have hz4 := f4.heap hz3 (fun x => x)
  have r4 := rule5 hb4 _ (Fr.refl _ _)
  have HQ := Lib.hid (B5.of hb4); have HQd := Lib.hid (B5.drew (B5.of hb4))
  have rz := rule9 hz4
  have HW4 := Lib.hid hw4; have HZ4 := Lib.hid hz4; have FF4 := Lib.hid (FF.out.trans' f4)
  have sh1 := rn1.shape
  have sh2 := rn2.shape
  clear rn1 rn2 hw4 f4 hb4 hz4 h3 hz3 st3
  rcases sh1 with rfl | ⟨i1, y1, rfl⟩
  all_goals rcases sh2 with rfl | ⟨i2, y2, rfl⟩
  all_goals
    go_wp2_with (rw [← HW4.out])
    go_region_held3 (fun w' => B5 w' (w.heap.size + 1) (.string ⟨l.toArray⟩) (.int .i64 (q : Nat)) (.bool x) mv3 (.int .i64 z)) (repeat (first | (with_reducible exact HQ.out) | (with_reducible exact HQd.out) | (with_reducible refine B5.set ?_ (by omega) _) | (with_reducible refine B5.drew ?_))) (fail)
  all_goals
    obtain ⟨w5, hw5⟩ : ∃ w5, w5 = (((((((((w4.setCell ⟨w.heap.size, 0, none⟩ (.int .i64 0)).setCell ⟨w.heap.size, 1, none⟩ (.int .i64 0)).setCell ⟨w.heap.size, 2, none⟩ (.string ⟨#[]⟩)).setCell ⟨w.heap.size, 3, none⟩ .nilIface).setCell ⟨w.heap.size, 4, none⟩ (.int .i64 0)).setCell ⟨w.heap.size, 5, none⟩ (.int .i64 0)).setCell ⟨w.heap.size, 6, none⟩ (.string ⟨#[]⟩)).setCell ⟨w.heap.size, 7, none⟩ .nilIface).setCell ⟨w.heap.size, 8, none⟩ (.bool false)).drew := ⟨_, rfl⟩
    rw [← hw5]
    have hz5 : w5.heap[w.heap.size]? = some (.cells zG 29 (0, 0)) := by rw [hw5]; exact heap_drew (setNine_heap HZ4.out (.int .i64 0) (.int .i64 0) (.string ⟨#[]⟩) .nilIface (.int .i64 0) (.int .i64 0) (.string ⟨#[]⟩) .nilIface (.bool false))
    have ff5 : Fr nob w w5 := by rw [hw5]; exact (setNine_fr FF4.out (Nat.le_refl _) (.int .i64 0) (.int .i64 0) (.string ⟨#[]⟩) .nilIface (.int .i64 0) (.int .i64 0) (.string ⟨#[]⟩) .nilIface (.bool false)).drew
    have HZ5 := Lib.hid hz5
    have FF5 := Lib.hid ff5
    clear hw5 hz5 ff5 rz r4
    go_wp2
    (try simp only [Exit.inBlock, Exit.then])
    exact bodyPost_ret (results_P9 rfl rfl HZ5.out) rfl ⟨rfl, FF5.out⟩
end Go.Proofs.YtmoeboknelnaoaaGreatDoor
