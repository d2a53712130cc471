/-
  Merged texts of this claim: AdrHP2, AdrI, CmdP, AdrN, CmdS, CmdT.
-/
import Derived.Test.YtkfddjopbocpkaaGreatDoorM04
import Derived.Test.YtkfddjopbocpkaaGreatDoorM16
import Derived.Test.YtkfddjopbocpkaaGreatDoorM19
import Derived.Test.YtkfddjopbocpkaaGreatDoorM20

set_option linter.unusedVariables false
set_option linter.unusedSimpArgs false
/-
  Walks of package addr: guard, one of its ways (P2). (Printed by tools/adrh.py.)
-/
namespace Go.Proofs.YtkfddjopbocpkaaGreatDoor
open Go.RowKit

set_option maxRecDepth 100000 in
set_option maxHeartbeats 2000000 in
theorem ad_guard_p2 (b : Nat) (l : List UInt8) (x : BF) (at0 : Nat) (ms0 : List (Nat × List UInt8)) (S O : Nat → Prop) (w : World) (hl : l.length ≤ 99000) (ha : at0 ≤ l.length) (hm : ms0.length = 0) (hS : ∀ k, S k → k < w.heap.size) (hO : ∀ k, O k → k < w.heap.size) (W0 : World) (hE : Env W0) (hW : Fr nob W0 w) (hSW : ∀ k, S k → W0.heap.size ≤ k) (h : ARd b l x ⟨at0, ms0, 0⟩ S w) (A : AV) (at1 : Nat) (ms1 : List (Nat × List UInt8)) (hR : addrD x l false ⟨at0, ms0, 0⟩ = .inr (A, ⟨at1, ms1, 0⟩)) (hk : A.kind ≠ 0) (B : AV) (at2 : Nat) (ms2 : List (Nat × List UInt8)) (hR2 : pairD x l ⟨at1, ms1, 0⟩ = .inr (B, ⟨at2, ms2, 0⟩)) (pQ : Nat) (hpQ : bhd l [32, 9] at2 = pQ) (pV : Nat) (h33 : byt l pQ = 33) (hpV : bhd l [32, 9] (pQ + 1) = pV) (h33' : byt l pV = 33) :
    Calls Tryz.prog 51 #[.pointer (some ⟨b, 0, none⟩)] w (GuardAns b l x S O w (.inl (15, pV))) := by
  have hl : l.length ≤ 100000 := Nat.le_trans hl (by decide)
  obtain ⟨w1, hw1⟩ : ∃ w1, w1 = w.alloc (.cells zG 30) := ⟨_, rfl⟩
  have f1 : Fr nob w w1 := by rw [hw1]; exact (Fr.refl _ _).alloc _
  have hz : w1.heap[w.heap.size]? = some (.cells zG 30 (0, 0)) := by rw [hw1]; exact newAt _ _
  have hsz : w1.heap.size = w.heap.size + 1 := by rw [hw1]; simp
  have h1 := h.on f1
  have hSL : ∀ k, S k → k < w1.heap.size := fun k hk => by have := hS k hk; omega
  have hOL : ∀ k, GS O w.heap.size k → k < w1.heap.size := fun k hk => by
    rcases hk with hk | hk
    · have := hO k hk; omega
    · have hk : k = w.heap.size := hk; omega
  have HAD := Lib.hid (ad_address b l x false ⟨at0, ms0, 0⟩ S (GS O w.heap.size) w1 (by omega) ha (by show ms0.length ≤ _; omega) rfl hSL hOL W0 hE (hW.trans' f1) hSW h1)
  have HW1 := Lib.hid hw1; have HS := Lib.hid hS; have F1 := Lib.hid f1; have HZ := Lib.hid hz; have HLT := Lib.hid (lt_heap hz); have HSL := Lib.hid hSL; have HE := Lib.hid hE; have HWF := Lib.hid (hW.trans' f1); have HSW := Lib.hid hSW
  have HOL := Lib.hid hOL
  clear h h1 hw1 hS f1 hz hO hE hW hSW hsz hSL hOL
  have hfw := addrD_in (s := ⟨at0, ms0, 0⟩) ha rfl hR
  have h1l : at1 ≤ l.length := hfw.le
  have h1m : ms1.length ≤ 99001 := by have := hfw.mks; simp only at this; omega
  rw [hR] at HAD
  clear hR hfw
  have hk0 : (A.kind == 0) = false := by simpa using hk
  clear hk
  have HPD := Lib.hid (fun w2 w3 S1 u1 (hS' : ∀ k, S1 k → k < w3.heap.size) (hO' : ∀ k, GS O w.heap.size k → k < w3.heap.size) (hW' : Fr nob W0 w3) (hSW' : ∀ k, S1 k → W0.heap.size ≤ k) (h : ARd b l x ⟨at1, ms1, 0⟩ S1 w3) (ng : ¬ S1 w2) hg => ad_pair b l x ⟨at1, ms1, 0⟩ S1 (GS O w.heap.size) w2 A.kind A.line A.text u1 w3 hl h1l (by show ms1.length ≤ _; omega) rfl hS' hO' W0 HE.out hW' hSW' h ng hg)
  have hfw := pairD_in hR2
  have h2l : at2 ≤ l.length := hfw.le
  rw [hR2] at HPD
  clear hR2 hfw
  have hpQl : pQ ≤ l.length := by rw [← hpQ]; exact bhd_le _ _ _
  have HPQ := Lib.hid hpQ
  have hat : pQ < l.length := byt_lt (by rw [h33]; decide)
  have hwr : IntKind.i64.wrap ((pQ : Int) + 1) = pQ + 1 := IntWalk.i64_in _ (by omega)
  have hpVl : pV ≤ l.length := by rw [← hpV]; exact bhd_le _ _ _
  have HPV := Lib.hid hpV; have HC1 := Lib.hid h33
  have HC2 := Lib.hid h33'
  clear h33 h33' hpV hpQ
  go_enter Tryz.func51, Tryz.ntmps51
  go_wp2_with (rw [← HW1.out])
  refine HAD.out.mono ?_
  intro e w2 he
  obtain ⟨v, S1, rfl, ⟨u1, rfl, hrn⟩, h2, st2⟩ := he
  have hlt1 := st2.lt HSL.out
  have hsh1 := hrn.shape
  obtain ⟨w3, hw3⟩ : ∃ w3, w3 = w2.alloc (.cells #[.int .i64 A.kind, .int .i64 A.line, .string ⟨A.text.toArray⟩, u1, .int .i64 0, .int .i64 0, .string ⟨#[]⟩, .nilIface, .bool false] 30) := ⟨_, rfl⟩
  have f3 : Fr nob w2 w3 := by rw [hw3]; exact (Fr.refl _ _).alloc _
  have hg3 : w3.heap[w2.heap.size]? = some (.cells #[.int .i64 A.kind, .int .i64 A.line, .string ⟨A.text.toArray⟩, u1, .int .i64 0, .int .i64 0, .string ⟨#[]⟩, .nilIface, .bool false] 30 (0, 0)) := by rw [hw3]; exact newAt _ _
  have ng3 : ¬ S1 w2.heap.size := fun h => Nat.lt_irrefl _ (hlt1 _ h)
  have h3 := h2.on f3
  have hge : w1.heap.size ≤ w2.heap.size := st2.fr.size
  have st3 : Stp S w1 (GS S1 w2.heap.size) w3 := (st2.trans (Stp.of f3)).plus hge (lt_heap hg3)
  have hr1 : RN (SO (GS S1 w2.heap.size) (GS O w.heap.size)) w3 A.tree u1 := RN.keep f3 (fun _ _ x => x.elim) (fun k hk hx => by
    rcases hx with (hx | hx) | hx
    · exact .inl hx
    · have hx : k = w2.heap.size := hx; omega
    · exact .inr hx) _ _ hrn
  have HW3 := Lib.hid hw3
  obtain ⟨mv3, h35⟩ := h3
  have r3 := rule5 h35.blk _ (Fr.refl _ _)
  have rg3 := rule9 hg3 _ (Fr.refl _ _)
  have HPR := Lib.hid (HPD.out w2.heap.size w3 S1 u1 (fun k hk => by have := hlt1 k hk; have := f3.size; omega) (fun k hk => by have := HOL.out k hk; have := f3.size; omega) ((st2.trans (Stp.of f3)).from HWF.out HSW.out) (fun k hk => by by_cases h : k < w1.heap.size; exact HSW.out k (st2.old k h hk); have := HWF.out.size; omega) ⟨mv3, h35⟩ ng3 hg3)
  have ST3 := Lib.hid st3; have R1 := Lib.hid hr1
  clear hrn h2 st2 hw3 f3 h35 hg3 ng3 st3 hge hlt1 hr1
  rcases hsh1 with rfl | ⟨i1, y1, rfl⟩
  · skip
    go_wp2_with (rw [← HW3.out])
    refine HPR.out.mono ?_
    rintro e wP ⟨rfl, S2, u2, hP, hng, st4, hgb, hr2⟩
    have hst := ST3.out.trans st4
    have hr1 := st4.rn R1.out
    have hr2 : RN (SO (GS S2 w2.heap.size) (GS O w.heap.size)) wP B.tree u2 := RN.keep (Fr.refl nob wP) (fun _ _ x => x.elim) (fun k _ hx => by
      rcases hx with (hx | hx) | hx
      · exact .inl hx
      · exact .inr (.inr hx)
      · exact .inr (.inl hx)) _ _ hr2
    have hsh2 := hr2.shape
    clear st4 r3 rg3
    rcases hsh2 with rfl | ⟨i2, y2, rfl⟩
    · skip
      obtain ⟨mv2, hP5⟩ := hP
      have rP := rule5 hP5.blk _ (Fr.refl _ _)
      have HBL := Lib.hid (ad_blanks b l x ⟨at2, ms2, 0⟩ S2 wP hl h2l ⟨mv2, hP5⟩)
      have HGB := Lib.hid hgb; have HNG := Lib.hid hng; have HST := Lib.hid hst; have HR1 := Lib.hid hr1; have HR2 := Lib.hid hr2; have HLG := Lib.hid (lt_heap hgb)
      have rgP := rule9 hgb _ (Fr.refl _ _)
      clear hP5 hgb hng hst hr1 hr2
      go_wp2_with fail
      refine HBL.out.mono ?_
      rintro e wQ ⟨rfl, hQ, stQ⟩
      rw [show bhd l [32, 9] (AdS.mk at2 ms2 0).at_ = pQ from HPQ.out] at hQ
      have hQ : ARd b l x ⟨pQ, ms2, 0⟩ S2 wQ := hQ
      have HQ := Lib.hid hQ; have STQ := Lib.hid (stQ.gs HLG.out)
      have HNX := Lib.hid (by have := ad_next b l x ⟨pQ, ms2, 0⟩ S2 wQ (by omega) hQ; simp only at this; rw [HC1.out] at this; exact this)
      have HGQ := Lib.hid (stQ.fr.heap HGB.out HNG.out)
      clear hQ stQ rP rgP
      go_wp2_with fail
      refine HNX.out.mono ?_
      rintro e wR ⟨rfl, fR⟩
      have hgR := fR.heap HGQ.out (fun x => x)
      have rgR := rule9 hgR _ (Fr.refl _ _)
      obtain ⟨wS, hwS⟩ : ∃ wS, wS = wR.setCell ⟨w2.heap.size, 8, none⟩ (.bool true) := ⟨_, rfl⟩
      have fS : Fr (fun k => k = w2.heap.size) wR wS := by rw [hwS]; exact (Fr.refl (fun k => k = w2.heap.size) wR).setCell (p := ⟨w2.heap.size, 8, none⟩) (fun _ => rfl) _
      have hsS : wS.heap.size = wR.heap.size := by rw [hwS]; simp [World.setCell]
      have hgS : wS.heap[w2.heap.size]? = some (.cells #[.int .i64 A.kind, .int .i64 A.line, .string ⟨A.text.toArray⟩, .nilIface, (.int .i64 B.kind), (.int .i64 B.line), (.string ⟨B.text.toArray⟩), .nilIface, .bool true] 30 (0, 0)) := by rw [hwS]; simpa using heap_setCell_at hgR 8 (.bool true)
      obtain ⟨mvR, hR5⟩ := HQ.out.on fR
      have hS5 := hR5.keep fS (fun e => HNG.out (e ▸ hR5.me)) (fun k hk e => HNG.out (e ▸ (hR5.nm k hk).2))
      have rS := rule5 hS5.blk _ (Fr.refl _ _)
      have hT5 := hS5.turned 1 (.int .i64 ((pQ : Int) + 1)) ⟨pQ + 1, ms2, 0⟩ (by simp) rfl
      have stT := hS5.stp 1 (.int .i64 ((pQ : Int) + 1))
      obtain ⟨wT, hwT⟩ : ∃ wT, wT = wS.setCell ⟨b, 1, none⟩ (.int .i64 ((pQ : Int) + 1)) := ⟨_, rfl⟩
      rw [← hwT] at hT5 stT
      have hgT := stT.fr.heap hgS HNG.out
      have sST : Stp (GS S2 w2.heap.size) wR (GS S2 w2.heap.size) wS := ⟨fS.mono (fun _ _ e => .inr e), fun _ _ h => h, fun hl k hk => by have := hl k hk; omega⟩
      have st0 := (STQ.out.trans (Stp.of fR)).trans (sST.trans (stT.gs (by have := HLG.out; have := STQ.out.fr.size; have := fR.size; omega)))
      have HWS := Lib.hid hwS; have HWT := Lib.hid hwT; have HGT := Lib.hid hgT; have ST0 := Lib.hid st0
      have HBT := Lib.hid (ad_blanks b l x ⟨pQ + 1, ms2, 0⟩ S2 wT hl (by show pQ + 1 ≤ _; omega) ⟨mvR, hT5⟩)
      have HLT2 := Lib.hid (lt_heap hgT)
      clear hR5 hS5 hT5 stT hwS hwT hgR hgS hgT fS hsS sST st0 fR
      go_wp2_with (first | rw [← HWS.out] | rw [← HWT.out])
      refine HBT.out.mono ?_
      rintro e wU ⟨rfl, hU, stU⟩
      rw [show bhd l [32, 9] (AdS.mk (pQ + 1) ms2 0).at_ = pV from HPV.out] at hU
      have hU : ARd b l x ⟨pV, ms2, 0⟩ S2 wU := hU
      have HU := Lib.hid hU; have STU := Lib.hid (ST0.out.trans (stU.gs HLT2.out))
      have HNU := Lib.hid (by have := ad_next b l x ⟨pV, ms2, 0⟩ S2 wU (by omega) hU; simp only at this; rw [HC2.out] at this; exact this)
      have HGU := Lib.hid (stU.fr.heap HGT.out HNG.out)
      clear hU stU rgR rS
      go_wp2_with fail
      refine HNU.out.mono ?_
      rintro e wV ⟨rfl, fV⟩
      obtain ⟨mvV, hV5⟩ := HU.out.on fV
      have rV := rule5 hV5.blk _ (Fr.refl _ _)
      have hgV := fV.heap HGU.out (fun x => x)
      have HFl := Lib.hid (ad_fail b l x ⟨pV, ms2, 0⟩ S2 15 pV wV ⟨mvV, hV5⟩)
      have STV := Lib.hid (STU.out.trans (Stp.of fV)); have HGV := Lib.hid hgV
      clear hV5 hgV fV
      go_wp2_with fail
      refine HFl.out.mono ?_
      rintro e wX ⟨rfl, hX, stX⟩
      have hgZ := stX.fr.heap HGV.out HNG.out
      have stl := STV.out.trans (stX.gs (lt_heap HGV.out))
      clear stX rV
      have rgZ := rule9 hgZ _ (Fr.refl _ _)
      have st := HST.out.trans stl
      have hzZ := hole9 rfl HS.out HZ.out st
      have rz := rule9 hzZ _ (Fr.refl _ _)
      have q1 := Lib.hid (ard_end hX (fun h => hole_not HLT.out HS.out st h) (.int .i64 A.kind) (.int .i64 A.line) (.string ⟨A.text.toArray⟩) .nilIface (.int .i64 B.kind) (.int .i64 B.line) (.string ⟨B.text.toArray⟩) .nilIface (.bool true))
      have q2 := Lib.hid (stp_end F1.out rfl st (.int .i64 A.kind) (.int .i64 A.line) (.string ⟨A.text.toArray⟩) .nilIface (.int .i64 B.kind) (.int .i64 B.line) (.string ⟨B.text.toArray⟩) .nilIface (.bool true))
      have HZF := Lib.hid (setNine_heap hzZ (.int .i64 A.kind) (.int .i64 A.line) (.string ⟨A.text.toArray⟩) .nilIface (.int .i64 B.kind) (.int .i64 B.line) (.string ⟨B.text.toArray⟩) .nilIface (.bool true))
      have q3 := Lib.hid (rn_end (stl.rn HR1.out) (.int .i64 A.kind) (.int .i64 A.line) (.string ⟨A.text.toArray⟩) .nilIface (.int .i64 B.kind) (.int .i64 B.line) (.string ⟨B.text.toArray⟩) .nilIface (.bool true))
      have q4 := Lib.hid (rn_end (stl.rn HR2.out) (.int .i64 A.kind) (.int .i64 A.line) (.string ⟨A.text.toArray⟩) .nilIface (.int .i64 B.kind) (.int .i64 B.line) (.string ⟨B.text.toArray⟩) .nilIface (.bool true))
      clear hX st stl hzZ hgZ
      go_wp2
      (try simp only [Exit.inBlock, Exit.then])
      exact bodyPost_ret (results_G rfl rfl HZF.out rfl rfl rfl rfl rfl rfl rfl rfl rfl) rfl ⟨⟨A, B, true⟩, _, _, _, rfl, ⟨_, _, rfl, q3.out.weak, q4.out.weak⟩, q1.out, q2.out⟩
    · skip
      obtain ⟨mv2, hP5⟩ := hP
      have rP := rule5 hP5.blk _ (Fr.refl _ _)
      have HBL := Lib.hid (ad_blanks b l x ⟨at2, ms2, 0⟩ S2 wP hl h2l ⟨mv2, hP5⟩)
      have HGB := Lib.hid hgb; have HNG := Lib.hid hng; have HST := Lib.hid hst; have HR1 := Lib.hid hr1; have HR2 := Lib.hid hr2; have HLG := Lib.hid (lt_heap hgb)
      have rgP := rule9 hgb _ (Fr.refl _ _)
      clear hP5 hgb hng hst hr1 hr2
      go_wp2_with fail
      refine HBL.out.mono ?_
      rintro e wQ ⟨rfl, hQ, stQ⟩
      rw [show bhd l [32, 9] (AdS.mk at2 ms2 0).at_ = pQ from HPQ.out] at hQ
      have hQ : ARd b l x ⟨pQ, ms2, 0⟩ S2 wQ := hQ
      have HQ := Lib.hid hQ; have STQ := Lib.hid (stQ.gs HLG.out)
      have HNX := Lib.hid (by have := ad_next b l x ⟨pQ, ms2, 0⟩ S2 wQ (by omega) hQ; simp only at this; rw [HC1.out] at this; exact this)
      have HGQ := Lib.hid (stQ.fr.heap HGB.out HNG.out)
      clear hQ stQ rP rgP
      go_wp2_with fail
      refine HNX.out.mono ?_
      rintro e wR ⟨rfl, fR⟩
      have hgR := fR.heap HGQ.out (fun x => x)
      have rgR := rule9 hgR _ (Fr.refl _ _)
      obtain ⟨wS, hwS⟩ : ∃ wS, wS = wR.setCell ⟨w2.heap.size, 8, none⟩ (.bool true) := ⟨_, rfl⟩
      have fS : Fr (fun k => k = w2.heap.size) wR wS := by rw [hwS]; exact (Fr.refl (fun k => k = w2.heap.size) wR).setCell (p := ⟨w2.heap.size, 8, none⟩) (fun _ => rfl) _
      have hsS : wS.heap.size = wR.heap.size := by rw [hwS]; simp [World.setCell]
      have hgS : wS.heap[w2.heap.size]? = some (.cells #[.int .i64 A.kind, .int .i64 A.line, .string ⟨A.text.toArray⟩, .nilIface, (.int .i64 B.kind), (.int .i64 B.line), (.string ⟨B.text.toArray⟩), (.iface i2 y2), .bool true] 30 (0, 0)) := by rw [hwS]; simpa using heap_setCell_at hgR 8 (.bool true)
      obtain ⟨mvR, hR5⟩ := HQ.out.on fR
      have hS5 := hR5.keep fS (fun e => HNG.out (e ▸ hR5.me)) (fun k hk e => HNG.out (e ▸ (hR5.nm k hk).2))
      have rS := rule5 hS5.blk _ (Fr.refl _ _)
      have hT5 := hS5.turned 1 (.int .i64 ((pQ : Int) + 1)) ⟨pQ + 1, ms2, 0⟩ (by simp) rfl
      have stT := hS5.stp 1 (.int .i64 ((pQ : Int) + 1))
      obtain ⟨wT, hwT⟩ : ∃ wT, wT = wS.setCell ⟨b, 1, none⟩ (.int .i64 ((pQ : Int) + 1)) := ⟨_, rfl⟩
      rw [← hwT] at hT5 stT
      have hgT := stT.fr.heap hgS HNG.out
      have sST : Stp (GS S2 w2.heap.size) wR (GS S2 w2.heap.size) wS := ⟨fS.mono (fun _ _ e => .inr e), fun _ _ h => h, fun hl k hk => by have := hl k hk; omega⟩
      have st0 := (STQ.out.trans (Stp.of fR)).trans (sST.trans (stT.gs (by have := HLG.out; have := STQ.out.fr.size; have := fR.size; omega)))
      have HWS := Lib.hid hwS; have HWT := Lib.hid hwT; have HGT := Lib.hid hgT; have ST0 := Lib.hid st0
      have HBT := Lib.hid (ad_blanks b l x ⟨pQ + 1, ms2, 0⟩ S2 wT hl (by show pQ + 1 ≤ _; omega) ⟨mvR, hT5⟩)
      have HLT2 := Lib.hid (lt_heap hgT)
      clear hR5 hS5 hT5 stT hwS hwT hgR hgS hgT fS hsS sST st0 fR
      go_wp2_with (first | rw [← HWS.out] | rw [← HWT.out])
      refine HBT.out.mono ?_
      rintro e wU ⟨rfl, hU, stU⟩
      rw [show bhd l [32, 9] (AdS.mk (pQ + 1) ms2 0).at_ = pV from HPV.out] at hU
      have hU : ARd b l x ⟨pV, ms2, 0⟩ S2 wU := hU
      have HU := Lib.hid hU; have STU := Lib.hid (ST0.out.trans (stU.gs HLT2.out))
      have HNU := Lib.hid (by have := ad_next b l x ⟨pV, ms2, 0⟩ S2 wU (by omega) hU; simp only at this; rw [HC2.out] at this; exact this)
      have HGU := Lib.hid (stU.fr.heap HGT.out HNG.out)
      clear hU stU rgR rS
      go_wp2_with fail
      refine HNU.out.mono ?_
      rintro e wV ⟨rfl, fV⟩
      obtain ⟨mvV, hV5⟩ := HU.out.on fV
      have rV := rule5 hV5.blk _ (Fr.refl _ _)
      have hgV := fV.heap HGU.out (fun x => x)
      have HFl := Lib.hid (ad_fail b l x ⟨pV, ms2, 0⟩ S2 15 pV wV ⟨mvV, hV5⟩)
      have STV := Lib.hid (STU.out.trans (Stp.of fV)); have HGV := Lib.hid hgV
      clear hV5 hgV fV
      go_wp2_with fail
      refine HFl.out.mono ?_
      rintro e wX ⟨rfl, hX, stX⟩
      have hgZ := stX.fr.heap HGV.out HNG.out
      have stl := STV.out.trans (stX.gs (lt_heap HGV.out))
      clear stX rV
      have rgZ := rule9 hgZ _ (Fr.refl _ _)
      have st := HST.out.trans stl
      have hzZ := hole9 rfl HS.out HZ.out st
      have rz := rule9 hzZ _ (Fr.refl _ _)
      have q1 := Lib.hid (ard_end hX (fun h => hole_not HLT.out HS.out st h) (.int .i64 A.kind) (.int .i64 A.line) (.string ⟨A.text.toArray⟩) .nilIface (.int .i64 B.kind) (.int .i64 B.line) (.string ⟨B.text.toArray⟩) (.iface i2 y2) (.bool true))
      have q2 := Lib.hid (stp_end F1.out rfl st (.int .i64 A.kind) (.int .i64 A.line) (.string ⟨A.text.toArray⟩) .nilIface (.int .i64 B.kind) (.int .i64 B.line) (.string ⟨B.text.toArray⟩) (.iface i2 y2) (.bool true))
      have HZF := Lib.hid (setNine_heap hzZ (.int .i64 A.kind) (.int .i64 A.line) (.string ⟨A.text.toArray⟩) .nilIface (.int .i64 B.kind) (.int .i64 B.line) (.string ⟨B.text.toArray⟩) (.iface i2 y2) (.bool true))
      have q3 := Lib.hid (rn_end (stl.rn HR1.out) (.int .i64 A.kind) (.int .i64 A.line) (.string ⟨A.text.toArray⟩) .nilIface (.int .i64 B.kind) (.int .i64 B.line) (.string ⟨B.text.toArray⟩) (.iface i2 y2) (.bool true))
      have q4 := Lib.hid (rn_end (stl.rn HR2.out) (.int .i64 A.kind) (.int .i64 A.line) (.string ⟨A.text.toArray⟩) .nilIface (.int .i64 B.kind) (.int .i64 B.line) (.string ⟨B.text.toArray⟩) (.iface i2 y2) (.bool true))
      clear hX st stl hzZ hgZ
      go_wp2
      (try simp only [Exit.inBlock, Exit.then])
      exact bodyPost_ret (results_G rfl rfl HZF.out rfl rfl rfl rfl rfl rfl rfl rfl rfl) rfl ⟨⟨A, B, true⟩, _, _, _, rfl, ⟨_, _, rfl, q3.out.weak, q4.out.weak⟩, q1.out, q2.out⟩
  · skip
    go_wp2_with (rw [← HW3.out])
    refine HPR.out.mono ?_
    rintro e wP ⟨rfl, S2, u2, hP, hng, st4, hgb, hr2⟩
    have hst := ST3.out.trans st4
    have hr1 := st4.rn R1.out
    have hr2 : RN (SO (GS S2 w2.heap.size) (GS O w.heap.size)) wP B.tree u2 := RN.keep (Fr.refl nob wP) (fun _ _ x => x.elim) (fun k _ hx => by
      rcases hx with (hx | hx) | hx
      · exact .inl hx
      · exact .inr (.inr hx)
      · exact .inr (.inl hx)) _ _ hr2
    have hsh2 := hr2.shape
    clear st4 r3 rg3
    rcases hsh2 with rfl | ⟨i2, y2, rfl⟩
    · skip
      obtain ⟨mv2, hP5⟩ := hP
      have rP := rule5 hP5.blk _ (Fr.refl _ _)
      have HBL := Lib.hid (ad_blanks b l x ⟨at2, ms2, 0⟩ S2 wP hl h2l ⟨mv2, hP5⟩)
      have HGB := Lib.hid hgb; have HNG := Lib.hid hng; have HST := Lib.hid hst; have HR1 := Lib.hid hr1; have HR2 := Lib.hid hr2; have HLG := Lib.hid (lt_heap hgb)
      have rgP := rule9 hgb _ (Fr.refl _ _)
      clear hP5 hgb hng hst hr1 hr2
      go_wp2_with fail
      refine HBL.out.mono ?_
      rintro e wQ ⟨rfl, hQ, stQ⟩
      rw [show bhd l [32, 9] (AdS.mk at2 ms2 0).at_ = pQ from HPQ.out] at hQ
      have hQ : ARd b l x ⟨pQ, ms2, 0⟩ S2 wQ := hQ
      have HQ := Lib.hid hQ; have STQ := Lib.hid (stQ.gs HLG.out)
      have HNX := Lib.hid (by have := ad_next b l x ⟨pQ, ms2, 0⟩ S2 wQ (by omega) hQ; simp only at this; rw [HC1.out] at this; exact this)
      have HGQ := Lib.hid (stQ.fr.heap HGB.out HNG.out)
      clear hQ stQ rP rgP
      go_wp2_with fail
      refine HNX.out.mono ?_
      rintro e wR ⟨rfl, fR⟩
      have hgR := fR.heap HGQ.out (fun x => x)
      have rgR := rule9 hgR _ (Fr.refl _ _)
      obtain ⟨wS, hwS⟩ : ∃ wS, wS = wR.setCell ⟨w2.heap.size, 8, none⟩ (.bool true) := ⟨_, rfl⟩
      have fS : Fr (fun k => k = w2.heap.size) wR wS := by rw [hwS]; exact (Fr.refl (fun k => k = w2.heap.size) wR).setCell (p := ⟨w2.heap.size, 8, none⟩) (fun _ => rfl) _
      have hsS : wS.heap.size = wR.heap.size := by rw [hwS]; simp [World.setCell]
      have hgS : wS.heap[w2.heap.size]? = some (.cells #[.int .i64 A.kind, .int .i64 A.line, .string ⟨A.text.toArray⟩, (.iface i1 y1), (.int .i64 B.kind), (.int .i64 B.line), (.string ⟨B.text.toArray⟩), .nilIface, .bool true] 30 (0, 0)) := by rw [hwS]; simpa using heap_setCell_at hgR 8 (.bool true)
      obtain ⟨mvR, hR5⟩ := HQ.out.on fR
      have hS5 := hR5.keep fS (fun e => HNG.out (e ▸ hR5.me)) (fun k hk e => HNG.out (e ▸ (hR5.nm k hk).2))
      have rS := rule5 hS5.blk _ (Fr.refl _ _)
      have hT5 := hS5.turned 1 (.int .i64 ((pQ : Int) + 1)) ⟨pQ + 1, ms2, 0⟩ (by simp) rfl
      have stT := hS5.stp 1 (.int .i64 ((pQ : Int) + 1))
      obtain ⟨wT, hwT⟩ : ∃ wT, wT = wS.setCell ⟨b, 1, none⟩ (.int .i64 ((pQ : Int) + 1)) := ⟨_, rfl⟩
      rw [← hwT] at hT5 stT
      have hgT := stT.fr.heap hgS HNG.out
      have sST : Stp (GS S2 w2.heap.size) wR (GS S2 w2.heap.size) wS := ⟨fS.mono (fun _ _ e => .inr e), fun _ _ h => h, fun hl k hk => by have := hl k hk; omega⟩
      have st0 := (STQ.out.trans (Stp.of fR)).trans (sST.trans (stT.gs (by have := HLG.out; have := STQ.out.fr.size; have := fR.size; omega)))
      have HWS := Lib.hid hwS; have HWT := Lib.hid hwT; have HGT := Lib.hid hgT; have ST0 := Lib.hid st0
      have HBT := Lib.hid (ad_blanks b l x ⟨pQ + 1, ms2, 0⟩ S2 wT hl (by show pQ + 1 ≤ _; omega) ⟨mvR, hT5⟩)
      have HLT2 := Lib.hid (lt_heap hgT)
      clear hR5 hS5 hT5 stT hwS hwT hgR hgS hgT fS hsS sST st0 fR
      go_wp2_with (first | rw [← HWS.out] | rw [← HWT.out])
      refine HBT.out.mono ?_
      rintro e wU ⟨rfl, hU, stU⟩
      rw [show bhd l [32, 9] (AdS.mk (pQ + 1) ms2 0).at_ = pV from HPV.out] at hU
      have hU : ARd b l x ⟨pV, ms2, 0⟩ S2 wU := hU
      have HU := Lib.hid hU; have STU := Lib.hid (ST0.out.trans (stU.gs HLT2.out))
      have HNU := Lib.hid (by have := ad_next b l x ⟨pV, ms2, 0⟩ S2 wU (by omega) hU; simp only at this; rw [HC2.out] at this; exact this)
      have HGU := Lib.hid (stU.fr.heap HGT.out HNG.out)
      clear hU stU rgR rS
      go_wp2_with fail
      refine HNU.out.mono ?_
      rintro e wV ⟨rfl, fV⟩
      obtain ⟨mvV, hV5⟩ := HU.out.on fV
      have rV := rule5 hV5.blk _ (Fr.refl _ _)
      have hgV := fV.heap HGU.out (fun x => x)
      have HFl := Lib.hid (ad_fail b l x ⟨pV, ms2, 0⟩ S2 15 pV wV ⟨mvV, hV5⟩)
      have STV := Lib.hid (STU.out.trans (Stp.of fV)); have HGV := Lib.hid hgV
      clear hV5 hgV fV
      go_wp2_with fail
      refine HFl.out.mono ?_
      rintro e wX ⟨rfl, hX, stX⟩
      have hgZ := stX.fr.heap HGV.out HNG.out
      have stl := STV.out.trans (stX.gs (lt_heap HGV.out))
      clear stX rV
      have rgZ := rule9 hgZ _ (Fr.refl _ _)
      have st := HST.out.trans stl
      have hzZ := hole9 rfl HS.out HZ.out st
      have rz := rule9 hzZ _ (Fr.refl _ _)
      have q1 := Lib.hid (ard_end hX (fun h => hole_not HLT.out HS.out st h) (.int .i64 A.kind) (.int .i64 A.line) (.string ⟨A.text.toArray⟩) (.iface i1 y1) (.int .i64 B.kind) (.int .i64 B.line) (.string ⟨B.text.toArray⟩) .nilIface (.bool true))
      have q2 := Lib.hid (stp_end F1.out rfl st (.int .i64 A.kind) (.int .i64 A.line) (.string ⟨A.text.toArray⟩) (.iface i1 y1) (.int .i64 B.kind) (.int .i64 B.line) (.string ⟨B.text.toArray⟩) .nilIface (.bool true))
      have HZF := Lib.hid (setNine_heap hzZ (.int .i64 A.kind) (.int .i64 A.line) (.string ⟨A.text.toArray⟩) (.iface i1 y1) (.int .i64 B.kind) (.int .i64 B.line) (.string ⟨B.text.toArray⟩) .nilIface (.bool true))
      have q3 := Lib.hid (rn_end (stl.rn HR1.out) (.int .i64 A.kind) (.int .i64 A.line) (.string ⟨A.text.toArray⟩) (.iface i1 y1) (.int .i64 B.kind) (.int .i64 B.line) (.string ⟨B.text.toArray⟩) .nilIface (.bool true))
      have q4 := Lib.hid (rn_end (stl.rn HR2.out) (.int .i64 A.kind) (.int .i64 A.line) (.string ⟨A.text.toArray⟩) (.iface i1 y1) (.int .i64 B.kind) (.int .i64 B.line) (.string ⟨B.text.toArray⟩) .nilIface (.bool true))
      clear hX st stl hzZ hgZ
      go_wp2
      (try simp only [Exit.inBlock, Exit.then])
      exact bodyPost_ret (results_G rfl rfl HZF.out rfl rfl rfl rfl rfl rfl rfl rfl rfl) rfl ⟨⟨A, B, true⟩, _, _, _, rfl, ⟨_, _, rfl, q3.out.weak, q4.out.weak⟩, q1.out, q2.out⟩
    · skip
      obtain ⟨mv2, hP5⟩ := hP
      have rP := rule5 hP5.blk _ (Fr.refl _ _)
      have HBL := Lib.hid (ad_blanks b l x ⟨at2, ms2, 0⟩ S2 wP hl h2l ⟨mv2, hP5⟩)
      have HGB := Lib.hid hgb; have HNG := Lib.hid hng; have HST := Lib.hid hst; have HR1 := Lib.hid hr1; have HR2 := Lib.hid hr2; have HLG := Lib.hid (lt_heap hgb)
      have rgP := rule9 hgb _ (Fr.refl _ _)
      clear hP5 hgb hng hst hr1 hr2
      go_wp2_with fail
      refine HBL.out.mono ?_
      rintro e wQ ⟨rfl, hQ, stQ⟩
      rw [show bhd l [32, 9] (AdS.mk at2 ms2 0).at_ = pQ from HPQ.out] at hQ
      have hQ : ARd b l x ⟨pQ, ms2, 0⟩ S2 wQ := hQ
      have HQ := Lib.hid hQ; have STQ := Lib.hid (stQ.gs HLG.out)
      have HNX := Lib.hid (by have := ad_next b l x ⟨pQ, ms2, 0⟩ S2 wQ (by omega) hQ; simp only at this; rw [HC1.out] at this; exact this)
      have HGQ := Lib.hid (stQ.fr.heap HGB.out HNG.out)
      clear hQ stQ rP rgP
      go_wp2_with fail
      refine HNX.out.mono ?_
      rintro e wR ⟨rfl, fR⟩
      have hgR := fR.heap HGQ.out (fun x => x)
      have rgR := rule9 hgR _ (Fr.refl _ _)
      obtain ⟨wS, hwS⟩ : ∃ wS, wS = wR.setCell ⟨w2.heap.size, 8, none⟩ (.bool true) := ⟨_, rfl⟩
      have fS : Fr (fun k => k = w2.heap.size) wR wS := by rw [hwS]; exact (Fr.refl (fun k => k = w2.heap.size) wR).setCell (p := ⟨w2.heap.size, 8, none⟩) (fun _ => rfl) _
      have hsS : wS.heap.size = wR.heap.size := by rw [hwS]; simp [World.setCell]
      have hgS : wS.heap[w2.heap.size]? = some (.cells #[.int .i64 A.kind, .int .i64 A.line, .string ⟨A.text.toArray⟩, (.iface i1 y1), (.int .i64 B.kind), (.int .i64 B.line), (.string ⟨B.text.toArray⟩), (.iface i2 y2), .bool true] 30 (0, 0)) := by rw [hwS]; simpa using heap_setCell_at hgR 8 (.bool true)
      obtain ⟨mvR, hR5⟩ := HQ.out.on fR
      have hS5 := hR5.keep fS (fun e => HNG.out (e ▸ hR5.me)) (fun k hk e => HNG.out (e ▸ (hR5.nm k hk).2))
      have rS := rule5 hS5.blk _ (Fr.refl _ _)
      have hT5 := hS5.turned 1 (.int .i64 ((pQ : Int) + 1)) ⟨pQ + 1, ms2, 0⟩ (by simp) rfl
      have stT := hS5.stp 1 (.int .i64 ((pQ : Int) + 1))
      obtain ⟨wT, hwT⟩ : ∃ wT, wT = wS.setCell ⟨b, 1, none⟩ (.int .i64 ((pQ : Int) + 1)) := ⟨_, rfl⟩
      rw [← hwT] at hT5 stT
      have hgT := stT.fr.heap hgS HNG.out
      have sST : Stp (GS S2 w2.heap.size) wR (GS S2 w2.heap.size) wS := ⟨fS.mono (fun _ _ e => .inr e), fun _ _ h => h, fun hl k hk => by have := hl k hk; omega⟩
      have st0 := (STQ.out.trans (Stp.of fR)).trans (sST.trans (stT.gs (by have := HLG.out; have := STQ.out.fr.size; have := fR.size; omega)))
      have HWS := Lib.hid hwS; have HWT := Lib.hid hwT; have HGT := Lib.hid hgT; have ST0 := Lib.hid st0
      have HBT := Lib.hid (ad_blanks b l x ⟨pQ + 1, ms2, 0⟩ S2 wT hl (by show pQ + 1 ≤ _; omega) ⟨mvR, hT5⟩)
      have HLT2 := Lib.hid (lt_heap hgT)
      clear hR5 hS5 hT5 stT hwS hwT hgR hgS hgT fS hsS sST st0 fR
      go_wp2_with (first | rw [← HWS.out] | rw [← HWT.out])
      refine HBT.out.mono ?_
      rintro e wU ⟨rfl, hU, stU⟩
      rw [show bhd l [32, 9] (AdS.mk (pQ + 1) ms2 0).at_ = pV from HPV.out] at hU
      have hU : ARd b l x ⟨pV, ms2, 0⟩ S2 wU := hU
      have HU := Lib.hid hU; have STU := Lib.hid (ST0.out.trans (stU.gs HLT2.out))
      have HNU := Lib.hid (by have := ad_next b l x ⟨pV, ms2, 0⟩ S2 wU (by omega) hU; simp only at this; rw [HC2.out] at this; exact this)
      have HGU := Lib.hid (stU.fr.heap HGT.out HNG.out)
      clear hU stU rgR rS
      go_wp2_with fail
      refine HNU.out.mono ?_
      rintro e wV ⟨rfl, fV⟩
      obtain ⟨mvV, hV5⟩ := HU.out.on fV
      have rV := rule5 hV5.blk _ (Fr.refl _ _)
      have hgV := fV.heap HGU.out (fun x => x)
      have HFl := Lib.hid (ad_fail b l x ⟨pV, ms2, 0⟩ S2 15 pV wV ⟨mvV, hV5⟩)
      have STV := Lib.hid (STU.out.trans (Stp.of fV)); have HGV := Lib.hid hgV
      clear hV5 hgV fV
      go_wp2_with fail
      refine HFl.out.mono ?_
      rintro e wX ⟨rfl, hX, stX⟩
      have hgZ := stX.fr.heap HGV.out HNG.out
      have stl := STV.out.trans (stX.gs (lt_heap HGV.out))
      clear stX rV
      have rgZ := rule9 hgZ _ (Fr.refl _ _)
      have st := HST.out.trans stl
      have hzZ := hole9 rfl HS.out HZ.out st
      have rz := rule9 hzZ _ (Fr.refl _ _)
      have q1 := Lib.hid (ard_end hX (fun h => hole_not HLT.out HS.out st h) (.int .i64 A.kind) (.int .i64 A.line) (.string ⟨A.text.toArray⟩) (.iface i1 y1) (.int .i64 B.kind) (.int .i64 B.line) (.string ⟨B.text.toArray⟩) (.iface i2 y2) (.bool true))
      have q2 := Lib.hid (stp_end F1.out rfl st (.int .i64 A.kind) (.int .i64 A.line) (.string ⟨A.text.toArray⟩) (.iface i1 y1) (.int .i64 B.kind) (.int .i64 B.line) (.string ⟨B.text.toArray⟩) (.iface i2 y2) (.bool true))
      have HZF := Lib.hid (setNine_heap hzZ (.int .i64 A.kind) (.int .i64 A.line) (.string ⟨A.text.toArray⟩) (.iface i1 y1) (.int .i64 B.kind) (.int .i64 B.line) (.string ⟨B.text.toArray⟩) (.iface i2 y2) (.bool true))
      have q3 := Lib.hid (rn_end (stl.rn HR1.out) (.int .i64 A.kind) (.int .i64 A.line) (.string ⟨A.text.toArray⟩) (.iface i1 y1) (.int .i64 B.kind) (.int .i64 B.line) (.string ⟨B.text.toArray⟩) (.iface i2 y2) (.bool true))
      have q4 := Lib.hid (rn_end (stl.rn HR2.out) (.int .i64 A.kind) (.int .i64 A.line) (.string ⟨A.text.toArray⟩) (.iface i1 y1) (.int .i64 B.kind) (.int .i64 B.line) (.string ⟨B.text.toArray⟩) (.iface i2 y2) (.bool true))
      clear hX st stl hzZ hgZ
      go_wp2
      (try simp only [Exit.inBlock, Exit.then])
      exact bodyPost_ret (results_G rfl rfl HZF.out rfl rfl rfl rfl rfl rfl rfl rfl rfl) rfl ⟨⟨A, B, true⟩, _, _, _, rfl, ⟨_, _, rfl, q3.out.weak, q4.out.weak⟩, q1.out, q2.out⟩
end Go.Proofs.YtkfddjopbocpkaaGreatDoor

/-
  Walks of package addr: guard, whole; what Parse and ParseGuard hand back.
-/
namespace Go.Proofs.YtkfddjopbocpkaaGreatDoor
open Go.RowKit

theorem ad_guard (b : Nat) (l : List UInt8) (x : BF) (at0 : Nat) (S O : Nat → Prop) (w : World) (hl : l.length ≤ 99000) (ha : at0 ≤ l.length) (hS : ∀ k, S k → k < w.heap.size) (hO : ∀ k, O k → k < w.heap.size) (W0 : World) (hE : Env W0) (hW : Fr nob W0 w) (hSW : ∀ k, S k → W0.heap.size ≤ k) (h : ARd b l x ⟨at0, [], 0⟩ S w) :
    Calls Tryz.prog 51 #[.pointer (some ⟨b, 0, none⟩)] w (GuardAns b l x S O w (guardD x l ⟨at0, [], 0⟩)) := by
  unfold guardD
  cases hR : addrD x l false ⟨at0, [], 0⟩ with
  | inl q => exact ad_guard_e b l x at0 [] S O w hl ha rfl hS hO W0 hE hW hSW h q.1 q.2 hR
  | inr q =>
    obtain ⟨A, at1, ms1, e1⟩ := q
    obtain rfl : e1 = 0 := (addrD_in (s := ⟨at0, [], 0⟩) ha rfl hR).ok
    simp only
    by_cases hk : A.kind = 0
    · rw [if_pos hk]
      simp only
      unfold notD
      simp only
      by_cases h33 : byt l (bhd l [32, 9] at1) = 33
      · rw [if_pos h33]
        by_cases h33' : byt l (bhd l [32, 9] (bhd l [32, 9] at1 + 1)) = 33
        · rw [if_pos h33']
          exact ad_guard_n2 b l x at0 [] S O w hl ha rfl hS hO W0 hE hW hSW h A at1 ms1 hR hk _ rfl _ h33 rfl h33'
        · rw [if_neg h33']
          exact ad_guard_n1 b l x at0 [] S O w hl ha rfl hS hO W0 hE hW hSW h A at1 ms1 hR hk _ rfl _ h33 rfl h33'
      · rw [if_neg h33]
        exact ad_guard_n0 b l x at0 [] S O w hl ha rfl hS hO W0 hE hW hSW h A at1 ms1 hR hk _ rfl h33
    · rw [if_neg hk]
      cases hR2 : pairD x l ⟨at1, ms1, 0⟩ with
      | inl q => exact ad_guard_pe b l x at0 [] S O w hl ha rfl hS hO W0 hE hW hSW h A at1 ms1 hR hk q.1 q.2 hR2
      | inr q =>
        obtain ⟨B, at2, ms2, e2⟩ := q
        obtain rfl : e2 = 0 := (pairD_in hR2).ok
        simp only
        unfold notD
        simp only
        by_cases h33 : byt l (bhd l [32, 9] at2) = 33
        · rw [if_pos h33]
          by_cases h33' : byt l (bhd l [32, 9] (bhd l [32, 9] at2 + 1)) = 33
          · rw [if_pos h33']
            exact ad_guard_p2 b l x at0 [] S O w hl ha rfl hS hO W0 hE hW hSW h A at1 ms1 hR hk B at2 ms2 hR2 _ rfl _ h33 rfl h33'
          · rw [if_neg h33']
            exact ad_guard_p1 b l x at0 [] S O w hl ha rfl hS hO W0 hE hW hSW h A at1 ms1 hR hk B at2 ms2 hR2 _ rfl _ h33 rfl h33'
        · rw [if_neg h33]
          exact ad_guard_p0 b l x at0 [] S O w hl ha rfl hS hO W0 hE hW hSW h A at1 ms1 hR hk B at2 ms2 hR2 _ rfl h33

theorem notD_err {l : List UInt8} {a b : AV} {s : AdS} {z : Int × Nat} (h : notD l a b s = .inl z) : z.1 ≠ 0 := by
  unfold notD at h
  split at h
  · split at h
    · injection h with h; subst h; intro e; cases e
    · cases h
  · cases h
theorem notD_ok {l : List UInt8} {a b : AV} {s s' : AdS} {g : GV} (h : notD l a b s = .inr (g, s')) : s'.e = 0 := by
  unfold notD at h
  split at h
  · split at h
    · cases h
    · injection h with h; injection h with h1 h2; subst h2; rfl
  · injection h with h; injection h with h1 h2; subst h2; rfl
theorem guardD_err {x : Bool} {l : List UInt8} {s : AdS} {z : Int × Nat} (h : guardD x l s = .inl z) : z.1 ≠ 0 := by
  unfold guardD at h
  split at h
  · next y hp => injection h with h; subst h; exact addrD_err hp
  · next a s1 hp =>
    split at h
    · next y hq =>
      injection h with h; subst h
      split at hq
      · cases hq
      · exact pairD_err hq
    · exact notD_err h
theorem guardD_ok {x : Bool} {l : List UInt8} {s s' : AdS} {g : GV} (h : guardD x l s = .inr (g, s')) : s'.e = 0 := by
  unfold guardD at h
  split at h
  · cases h
  · split at h
    · cases h
    · exact notD_ok h

theorem results_P9 {fn : Func} {p t u v : Tmp} (h : fn.results = #[.cell p 30, .tmp t, .tmp u, .tmp v]) {tmps : Array Value} {r : Nat} (ht : tmps.getD p undef = .pointer (some ⟨r, 0, none⟩)) {W : World} {a0 a1 a2 a3 a4 a5 a6 a7 a8 : Value}
    (hb : W.heap[r]? = some (.cells #[a0, a1, a2, a3, a4, a5, a6, a7, a8] 30 (0, 0))) :
    (results fn tmps).run Tryz.prog W = .ok (.tuple #[.agg #[a0, a1, a2, a3, a4, a5, a6, a7, a8], tmps.getD t undef, tmps.getD u undef, tmps.getD v undef]) W := by
  have c0 := cell_at (j := 0) hb rfl
  have c1 := cell_at (j := 1) hb rfl
  have c2 := cell_at (j := 2) hb rfl
  have c3 := cell_at (j := 3) hb rfl
  have c4 := cell_at (j := 4) hb rfl
  have c5 := cell_at (j := 5) hb rfl
  have c6 := cell_at (j := 6) hb rfl
  have c7 := cell_at (j := 7) hb rfl
  have c8 := cell_at (j := 8) hb rfl
  have ht' : tmps[p]?.getD undef = .pointer (some ⟨r, 0, none⟩) := by rw [← ht]; simp
  simp only [results, h]
  simp [ht', go_sem, c0, c1, c2, c3, c4, c5, c6, c7, c8]
end Go.Proofs.YtkfddjopbocpkaaGreatDoor

/-
  Package cmd in plain words: a mirror of the reading, with what is wrong in the state. No walk.
-/
namespace Go.Proofs.YtkfddjopbocpkaaGreatDoor
open Go.RowKit

abbrev Prt := Int × List UInt8
structure SV where
  text : List UInt8
  tree : Nd
  parts : List Prt
  nth : Int
  all : Bool
  print : Bool
  file : List UInt8
def SV.zero : SV := ⟨[], .nil, [], 0, false, false, []⟩
structure CV where
  at_ : Nat
  guard : GV
  name : UInt8
  arg : List UInt8
  sub : SV
  table : List UInt8
def GV.zero : GV := ⟨AV.zero, AV.zero, false⟩
def CV.zero : CV := ⟨0, GV.zero, 0, [], SV.zero, []⟩

def failC (s : AdS) (e : Int) (p : Nat) : AdS := if s.e = 0 then ⟨p, s.marks, e⟩ else s
def nextC (l : List UInt8) (s : AdS) (some : List UInt8) : Bool := match l[s.at_]? with
  | none => false
  | .some b => some.contains b
def markC (s : AdS) (p : Nat) (t : List UInt8) : AdS := ⟨s.at_, s.marks ++ [(p, t)], s.e⟩
def movedC (s : AdS) (p : Nat) (e : Int) : AdS := if s.e = 0 then ⟨p, s.marks, e⟩ else s
def addrsC (n : UInt8) : Int :=
  if n = 125 ∨ n = 58 then 0
  else if n = 61 ∨ n = 113 ∨ n = 81 ∨ n = 97 ∨ n = 105 ∨ n = 114 then 1
  else if n = 123 ∨ n = 100 ∨ n = 68 ∨ n = 103 ∨ n = 71 ∨ n = 104 ∨ n = 72 ∨ n = 108 ∨ n = 110 ∨ n = 78 ∨ n = 112 ∨ n = 80 ∨ n = 120 ∨ n = 122 ∨ n = 98 ∨ n = 116 ∨ n = 84 ∨ n = 99 ∨ n = 119 ∨ n = 115 ∨ n = 121 then 2
  else -1
def toldC (g : GV) : Int := if g.b.kind ≠ 0 then 2 else if g.a.kind ≠ 0 then 1 else 0
def labelC (l : List UInt8) (must : Bool) (s : AdS) : List UInt8 × AdS :=
  if (namL l s.at_ true).2.2 = 14 ∧ must = false then ((namL l s.at_ true).1, movedC s (s.at_ + (upTo (l.drop s.at_) true).length) 0)
  else ((namL l s.at_ true).1, movedC s (namL l s.at_ true).2.1 (namL l s.at_ true).2.2)
def fileC (l : List UInt8) (s : AdS) : List UInt8 × AdS :=
  if nextC l s [32, 9] = false then ([], failC s 2 s.at_)
  else ((namL l s.at_ false).1, movedC s (namL l s.at_ false).2.1 (namL l s.at_ false).2.2)
def AdS.to (s : AdS) (k : Nat) : AdS := ⟨k, s.marks, s.e⟩
def linesC (l : List UInt8) (begin : Nat) (s : AdS) : List UInt8 × AdS :=
  let s1 := s.to (bhd l [32, 9] s.at_)
  if l.length ≤ s1.at_ then ([], failC s1 11 s1.at_)
  else if nextC l s1 [10] then ([], failC s1 5 s1.at_)
  else
    let s2 := if [92, 10].isPrefixOf (l.drop s1.at_) then s1.to (s1.at_ + 2) else markC s1 begin [116, 101, 120, 116]
    ((ln l (l.length + 1) s2.at_ []).1, movedC s2 (ln l (l.length + 1) s2.at_ []).2.1 (ln l (l.length + 1) s2.at_ []).2.2)
def delimC (l : List UInt8) (s : AdS) : UInt8 × AdS :=
  if l.length ≤ s.at_ then (0, failC s 5 l.length)
  else if nextC l s [92, 10] then (0, failC s 2 s.at_)
  else (byt l s.at_, s.to (s.at_ + 1))
def betwC (l : List UInt8) (d : UInt8) (rx : Bool) (s : AdS) : List UInt8 × AdS :=
  if s.e ≠ 0 then ([], s)
  else ((bt l d rx (l.length + 1) s.at_ []).1, movedC s (bt l d rx (l.length + 1) s.at_ []).2.1 (bt l d rx (l.length + 1) s.at_ []).2.2)
def regexC (x : Bool) (l : List UInt8) (d : UInt8) (s : AdS) : (List UInt8 × Nd) × AdS :=
  let t := (betwC l d true s).1
  let s1 := (betwC l d true s).2
  let s2 := if s1.e = 0 ∧ t = [] then failC s1 2 s.at_ else s1
  if s2.e ≠ 0 then (([], .nil), s2)
  else match parseD prg x t with
    | .inl z => ((t, .nil), failC s2 z.1 s.at_)
    | .inr (n, r) => ((t, n), ⟨s2.at_, s2.marks ++ r.marks.map (shM s.at_), s2.e⟩)
def pushT (b : List Prt) (t : List UInt8) : List Prt := match b.getLast? with
  | none => b ++ [(-1, t)]
  | some p => if p.1 = -1 then b.dropLast ++ [(-1, p.2 ++ t)] else b ++ [(-1, t)]
def partsL (groups : Int) : List UInt8 → Bool → List Prt → List Prt × Int
  | [], escaped, b => if escaped then ([], 11) else (b, 0)
  | c :: r, escaped, b =>
    if escaped = false ∧ c = 92 then partsL groups r true b
    else if escaped = false ∧ c = 38 then partsL groups r false (b ++ [(0, [])])
    else if escaped = true ∧ 48 ≤ c.toNat ∧ c.toNat ≤ 57 then
      (if groups < (c.toNat : Int) - 48 then ([], 9) else partsL groups r false (b ++ [((c.toNat : Int) - 48, [])]))
    else if escaped = true ∧ c = 110 then partsL groups r false (pushT b [10])
    else partsL groups r false (pushT b [c])
def flagC (l : List UInt8) (sub : SV) (s : AdS) : Bool × SV × AdS :=
  if nextC l s [103] then
    let s1 := s.to (s.at_ + 1)
    let s2 := if sub.all then failC s1 15 s.at_ else s1
    (s2.e == 0, { sub with all := true }, s2)
  else if nextC l s [112] then
    let s1 := s.to (s.at_ + 1)
    let s2 := if sub.print then failC s1 15 s.at_ else s1
    (s2.e == 0, { sub with print := true }, s2)
  else if nextC l s [48, 49, 50, 51, 52, 53, 54, 55, 56, 57] then
    let n := nm s.at_ (l.drop s.at_) 0 0
    if 0 < sub.nth then ((failC s 15 s.at_).e == 0, { sub with nth := (n.1 : Nat) }, failC s 15 s.at_)
    else
      let s1 := movedC s n.2.1 n.2.2
      let s2 := if s.e = 0 ∧ s1.e = 0 ∧ n.1 = 0 then failC s1 1 s.at_ else s1
      (s2.e == 0, { sub with nth := (n.1 : Nat) }, s2)
  else if nextC l s [119] then
    (false, { sub with file := (fileC l (s.to (s.at_ + 1))).1 }, (fileC l (s.to (s.at_ + 1))).2)
  else (false, sub, s)
def flagsC (l : List UInt8) : Nat → SV → AdS → SV × AdS
  | 0, sub, s => (sub, s)
  | n + 1, sub, s =>
    match flagC l sub s with
    | (true, sub', s') => flagsC l n sub' s'
    | (false, sub', s') => (sub', s')
def subC (x : Bool) (l : List UInt8) (s : AdS) : SV × AdS :=
  let d := (delimC l s).1
  let s1 := (delimC l s).2
  if s1.e ≠ 0 then (SV.zero, s1)
  else
    let rt := (regexC x l d s1).1
    let s2 := (regexC x l d s1).2
    let sub := { SV.zero with text := rt.1, tree := rt.2 }
    let t := (betwC l d false s2).1
    let s3 := (betwC l d false s2).2
    if s3.e ≠ 0 then (sub, s3)
    else
      let p := partsL rt.2.groups t false []
      if p.2 ≠ 0 then (sub, failC s3 p.2 s2.at_)
      else flagsC l (l.length + 2) { sub with parts := p.1 } s3
def listL : List UInt8 → Bool → List UInt8 → List UInt8 × Bool
  | [], escaped, out => (out, !escaped)
  | c :: r, escaped, out =>
    if escaped = false ∧ c = 92 then listL r true out
    else if escaped = true ∧ c = 110 then listL r false (out ++ [10])
    else if escaped = true ∧ c ≠ 92 then ([], false)
    else listL r false (out ++ [c])
def tabL : List (UInt8 × UInt8) → List UInt8 → List UInt8 → List UInt8 × Bool
  | [], _, out => (out, true)
  | (a, b) :: r, seen, out => if seen.contains a then ([], false) else tabL r (seen ++ [a]) (out.set a.toNat b)
def idTab : List UInt8 := (List.range 256).map UInt8.ofNat
def tableC (l : List UInt8) (s : AdS) : List UInt8 × AdS :=
  let d := (delimC l s).1
  let s1 := (delimC l s).2
  let from_ := (betwC l d false s1).1
  let s2 := (betwC l d false s1).2
  let to_ := (betwC l d false s2).1
  let s3 := (betwC l d false s2).2
  if s3.e ≠ 0 then ([], s3)
  else
    let a := listL from_ false []
    let b := listL to_ false []
    if a.2 = false ∨ b.2 = false ∨ a.1.length ≠ b.1.length then ([], failC s3 18 s2.at_)
    else
      let t := tabL (a.1.zip b.1) [] idTab
      if t.2 then (t.1, s3) else ([], failC s3 15 s2.at_)
def argsC (x : Bool) (l : List UInt8) (c : CV) (s : AdS) : Bool × CV × AdS :=
  if c.name = 123 ∨ c.name = 125 then (false, c, s)
  else if c.name = 58 then (false, { c with arg := (labelC l true s).1 }, (labelC l true s).2)
  else if c.name = 98 ∨ c.name = 116 ∨ c.name = 84 then (false, { c with arg := (labelC l false s).1 }, (labelC l false s).2)
  else if c.name = 97 ∨ c.name = 105 ∨ c.name = 99 then (false, { c with arg := (linesC l c.at_ s).1 }, (linesC l c.at_ s).2)
  else if c.name = 114 ∨ c.name = 119 then (false, { c with arg := (fileC l s).1 }, (fileC l s).2)
  else if c.name = 115 then ((subC x l s).1.file == [], { c with sub := (subC x l s).1 }, (subC x l s).2)
  else if c.name = 121 then (true, { c with table := (tableC l s).1 }, (tableC l s).2)
  else (true, c, s)
def endC (l : List UInt8) (s : AdS) : AdS :=
  let s1 := s.to (bhd l [32, 9] s.at_)
  if l.length ≤ s1.at_ ∨ nextC l s1 [59, 10, 35] = true then s1
  else if nextC l s1 [125] then markC s1 s1.at_ [125]
  else failC s1 17 s1.at_
def cmdC (x : Bool) (l : List UInt8) (g : GV) (s : AdS) : CV × AdS :=
  if l.length ≤ s.at_ then (CV.zero, failC s 5 l.length)
  else
    let n := byt l s.at_
    let s1 := if addrsC n < 0 then failC s 13 s.at_
      else if addrsC n < toldC g then failC s 19 s.at_
      else if n = 81 ∨ n = 84 ∨ n = 122 then markC s s.at_ [n]
      else s
    if s1.e ≠ 0 then (CV.zero, s1)
    else
      let r := argsC x l { CV.zero with at_ := s.at_, guard := g, name := n } (s1.to (s1.at_ + 1))
      if r.1 = true ∧ r.2.2.e = 0 then (r.2.1, endC l r.2.2) else (r.2.1, r.2.2)
abbrev OutC := (Int × Nat) ⊕ (CV × AdS)
def cmdD (x : Bool) (l : List UInt8) (p : Nat) : OutC := match guardD x l ⟨p, [], 0⟩ with
  | .inl z => .inl z
  | .inr (g, s) =>
    let r := cmdC x l g s
    if r.2.e ≠ 0 then .inl (r.2.e, r.2.at_) else .inr r
end Go.Proofs.YtkfddjopbocpkaaGreatDoor

/-
  A guard at a text's end is read alike with more behind it. Plain.
-/
namespace Go.Proofs.YtkfddjopbocpkaaGreatDoor
open Go.RowKit

section
variable {s t : List UInt8}
theorem esc_app {d : UInt8} {rx : Bool} {k : Nat} {out : List UInt8} (h : (esc s d rx k out).1 = 0) : esc (s ++ t) d rx k out = esc s d rx k out ∧ (esc s d rx k out).2.1 = k + 2 ∧ k + 2 ≤ s.length := by
  unfold esc at h ⊢
  cases hc : s[k + 1]? with
  | none => rw [hc] at h; simp at h
  | some y =>
    have hk := (List.getElem?_eq_some_iff.1 hc).1
    rw [hc] at h
    rw [List.getElem?_append_left hk, hc]
    refine ⟨rfl, ?_, by omega⟩
    simp only at h ⊢
    by_cases hd : y = d
    · rw [if_pos hd]
    · rw [if_neg hd] at h ⊢
      by_cases hn : y = 10 ∧ rx = true
      · rw [if_pos hn] at h; exact absurd h (by intro e; cases e)
      · rw [if_neg hn]
end
end Go.Proofs.YtkfddjopbocpkaaGreatDoor

/-
  A command is read alike wherever it stands: with a text ahead of it all places are so many further. Plain.
-/
namespace Go.Proofs.YtkfddjopbocpkaaGreatDoor
open Go.RowKit

section
variable {A l : List UInt8}
theorem bhd_in (cs : List UInt8) {k : Nat} (hk : k ≤ l.length) : k ≤ bhd l cs k ∧ bhd l cs k ≤ l.length := by
  unfold bhd
  have := tl_le (l.drop k) cs
  rw [List.length_drop] at this
  omega
theorem brE_gt {k : Nat} (hk : k < l.length) : k < brE l k := by
  have h1 := adv_ge (l := l) (c := 94) (k := k + 1)
  have h2 := adv_ge (l := l) (c := 93) (k := adv l 94 (k + 1))
  have h3 := nxt_ge (l := l) (c := 93) (k := adv l 93 (adv l 94 (k + 1)))
  unfold brE
  omega
theorem brE_le (k : Nat) : brE l k ≤ l.length := by unfold brE; omega
theorem esc_step {d : UInt8} {rx : Bool} {k : Nat} {out : List UInt8} (h : (esc l d rx k out).1 = 0) : (esc l d rx k out).2.1 = k + 2 := (esc_app (t := []) h).2.1
variable {M : List (Nat × List UInt8)} {s : AdS}
theorem nextC_in {l : List UInt8} {s : AdS} {some : List UInt8} (h : nextC l s some = true) : s.at_ < l.length := by
  unfold nextC at h
  cases hc : l[s.at_]? with
  | none => rw [hc] at h; cases h
  | some b => exact (List.getElem?_eq_some_iff.1 hc).1

theorem namL_in {k : Nat} (label : Bool) (hk : k ≤ l.length) : (namL l k label).2.1 ≤ l.length := by
  unfold namL
  split
  · exact hk
  · split
    · exact hk
    · have := upTo_le (l.drop k) label; rw [List.length_drop] at this; simp only; omega
theorem esc_le (d : UInt8) (rx : Bool) {k : Nat} (hk : k < l.length) (out : List UInt8) : (esc l d rx k out).2.1 ≤ l.length := by
  unfold esc
  cases hx : l[k + 1]? with
  | none => exact Nat.le_refl _
  | some y =>
    have := (List.getElem?_eq_some_iff.1 hx).1
    simp only
    split
    · show k + 2 ≤ _; omega
    · split
      · show k + 1 ≤ _; omega
      · show k + 2 ≤ _; omega
theorem bt_in' (d : UInt8) (rx : Bool) : ∀ (n k : Nat) (out : List UInt8), k ≤ l.length → (bt l d rx n k out).2.1 ≤ l.length
  | 0, k, out, _ => by simp [bt]
  | n + 1, k, out, hk => by
    rw [bt]
    cases hc : l[k]? with
    | none => simp
    | some c =>
      have hlt := (List.getElem?_eq_some_iff.1 hc).1
      simp only
      split
      · show k + 1 ≤ _; omega
      · split
        · by_cases h3 : (esc l d rx k out).1 = 0
          · rw [if_pos h3]
            have hb := (esc_app (t := []) h3).2.2
            have hs := esc_step h3
            exact bt_in' d rx n _ _ (by omega)
          · rw [if_neg h3]
            exact esc_le d rx hlt out
        · have hm1 : k + (if c = 91 ∧ rx = true then brE l k - k else 1) ≤ l.length := by
            have := brE_gt hlt
            have := brE_le (l := l) k
            split <;> omega
          generalize (if c = 91 ∧ rx = true then brE l k - k else 1) = m at *
          have hix := indexByte_bd ((l.drop k).take m) 10
          rw [List.length_take, List.length_drop] at hix
          split
          · exact bt_in' d rx n _ _ hm1
          · show k + (Lib.indexByte ((l.drop k).take m) 10).toNat ≤ _
            omega
theorem ln_in : ∀ (n k : Nat) (out : List UInt8), k ≤ l.length → (ln l n k out).2.1 ≤ l.length
  | 0, k, out, _ => by simp [ln]
  | n + 1, k, out, hk => by
    rw [ln]
    cases hc : l[k]? with
    | none => simp only; omega
    | some c =>
      have hlt := (List.getElem?_eq_some_iff.1 hc).1
      simp only
      split
      · simp only; omega
      · split
        · cases hx : l[k + 1]? with
          | none => simp only; omega
          | some y => have := (List.getElem?_eq_some_iff.1 hx).1; exact ln_in n _ _ (by omega)
        · exact ln_in n _ _ (by omega)
theorem failC_in {e : Int} {p : Nat} (h : s.at_ ≤ l.length) (hp : p ≤ l.length) : (failC s e p).at_ ≤ l.length := by unfold failC; split <;> assumption
theorem movedC_in {e : Int} {p : Nat} (h : s.at_ ≤ l.length) (hp : p ≤ l.length) : (movedC s p e).at_ ≤ l.length := by unfold movedC; split <;> assumption
theorem labelC_in (must : Bool) (h : s.at_ ≤ l.length) : (labelC l must s).2.at_ ≤ l.length := by
  unfold labelC
  split
  · have := upTo_le (l.drop s.at_) true; rw [List.length_drop] at this; exact movedC_in h (by omega)
  · exact movedC_in h (namL_in _ h)
theorem fileC_in (h : s.at_ ≤ l.length) : (fileC l s).2.at_ ≤ l.length := by
  unfold fileC
  split
  · exact failC_in h h
  · exact movedC_in h (namL_in _ h)
theorem linesC_in (b : Nat) (h : s.at_ ≤ l.length) : (linesC l b s).2.at_ ≤ l.length := by
  unfold linesC
  simp only
  have hb := (bhd_in [32, 9] h).2
  have h1 : (s.to (bhd l [32, 9] s.at_)).at_ ≤ l.length := hb
  split
  · exact failC_in h1 h1
  · split
    · exact failC_in h1 h1
    · split
      · next hp =>
        have hp2 : bhd l [32, 9] s.at_ + 2 ≤ l.length := by
          have h2 := (List.isPrefixOf_iff_prefix.1 hp).length_le
          simp only [List.length_drop, List.length_cons, List.length_nil] at h2
          have h3 : (s.to (bhd l [32, 9] s.at_)).at_ = bhd l [32, 9] s.at_ := rfl
          omega
        exact movedC_in hp2 (ln_in _ _ _ hp2)
      · exact movedC_in h1 (ln_in _ _ _ h1)
theorem delimC_in (h : s.at_ ≤ l.length) : (delimC l s).2.at_ ≤ l.length := by
  unfold delimC
  split
  · exact failC_in h (Nat.le_refl _)
  · split
    · exact failC_in h h
    · show s.at_ + 1 ≤ _; omega
theorem betwC_in (d : UInt8) (rx : Bool) (h : s.at_ ≤ l.length) : (betwC l d rx s).2.at_ ≤ l.length := by
  unfold betwC
  split
  · exact h
  · exact movedC_in h (bt_in' _ _ _ _ _ h)
theorem regexC_in (x : Bool) (d : UInt8) (h : s.at_ ≤ l.length) : (regexC x l d s).2.at_ ≤ l.length := by
  unfold regexC
  simp only
  have hb := betwC_in d true h
  have h2 : (if (betwC l d true s).2.e = 0 ∧ (betwC l d true s).1 = [] then failC (betwC l d true s).2 2 s.at_ else (betwC l d true s).2).at_ ≤ l.length := by
    split
    · exact failC_in hb h
    · exact hb
  generalize (if (betwC l d true s).2.e = 0 ∧ (betwC l d true s).1 = [] then failC (betwC l d true s).2 2 s.at_ else (betwC l d true s).2) = s2 at h2 ⊢
  split
  · exact h2
  · cases parseD prg x (betwC l d true s).1 with
    | inl z => exact failC_in h2 h
    | inr z => exact h2
theorem flagC_in (sub : SV) (h : s.at_ ≤ l.length) : (flagC l sub s).2.2.at_ ≤ l.length := by
  unfold flagC
  split
  · next hn => have := nextC_in hn; simp only; split; exact failC_in (show s.at_ + 1 ≤ _ from this) h; exact this
  · split
    · next hn => have := nextC_in hn; simp only; split; exact failC_in (show s.at_ + 1 ≤ _ from this) h; exact this
    · split
      · simp only
        split
        · exact failC_in h h
        · have hn : (nm s.at_ (l.drop s.at_) 0 0).2.1 ≤ l.length := by
            have := nm_in s.at_ (l.drop s.at_) 0 0
            rw [List.length_drop] at this; omega
          have hm := movedC_in (s := s) (e := (nm s.at_ (l.drop s.at_) 0 0).2.2) h hn
          split
          · exact failC_in hm h
          · exact hm
      · split
        · next hn => have := nextC_in hn; exact fileC_in (show (s.to (s.at_ + 1)).at_ ≤ _ from this)
        · exact h
theorem flagsC_in : ∀ (n : Nat) (sub : SV) (s : AdS), s.at_ ≤ l.length → (flagsC l n sub s).2.at_ ≤ l.length
  | 0, _, _, h => h
  | n + 1, sub, s, h => by
    rw [flagsC]
    have hf := flagC_in sub h
    cases hr : flagC l sub s with
    | mk a b =>
      rw [hr] at hf
      obtain ⟨b, c⟩ := b
      cases a with
      | true => exact flagsC_in n b c hf
      | false => exact hf
theorem subC_in (x : Bool) (h : s.at_ ≤ l.length) : (subC x l s).2.at_ ≤ l.length := by
  unfold subC
  simp only
  have h1 := delimC_in h
  split
  · exact h1
  · have h2 := regexC_in x (delimC l s).1 h1
    have h3 := betwC_in (delimC l s).1 false h2
    split
    · exact h3
    · split
      · exact failC_in h3 h2
      · exact flagsC_in _ _ _ h3
theorem tableC_in (h : s.at_ ≤ l.length) : (tableC l s).2.at_ ≤ l.length := by
  unfold tableC
  simp only
  have h1 := delimC_in h
  have h2 := betwC_in (delimC l s).1 false h1
  have h3 := betwC_in (delimC l s).1 false h2
  split
  · exact h3
  · split
    · exact failC_in h3 h2
    · split
      · exact h3
      · exact failC_in h3 h2
theorem argsC_in (x : Bool) (c : CV) (h : s.at_ ≤ l.length) : (argsC x l c s).2.2.at_ ≤ l.length := by
  unfold argsC
  split
  · exact h
  split
  · exact labelC_in _ h
  split
  · exact labelC_in _ h
  split
  · exact linesC_in _ h
  split
  · exact fileC_in h
  split
  · exact subC_in x h
  split
  · exact tableC_in h
  · exact h

theorem flagC_more {sub sub' : SV} {s s' : AdS} (h : flagC l sub s = (true, sub', s')) : s.at_ < s'.at_ ∧ s'.at_ ≤ l.length := by
  have hf : ∀ (q : AdS) (e : Int) (p : Nat), e ≠ 0 → ((failC q e p).e == 0) = true → False := by
    intro q e p he hq
    unfold failC at hq
    split at hq
    · exact he (by simpa using hq)
    · next h0 => exact h0 (by simpa using hq)
  unfold flagC at h
  split at h
  · next hn =>
    have := nextC_in hn
    simp only [Prod.mk.injEq] at h
    obtain ⟨h1, _, h3⟩ := h
    split at h3
    · next ha => rw [if_pos ha] at h1; exact (hf _ _ _ (by decide) h1).elim
    · rw [← h3]; exact ⟨Nat.lt_succ_self _, this⟩
  split at h
  · next hn =>
    have := nextC_in hn
    simp only [Prod.mk.injEq] at h
    obtain ⟨h1, _, h3⟩ := h
    split at h3
    · next ha => rw [if_pos ha] at h1; exact (hf _ _ _ (by decide) h1).elim
    · rw [← h3]; exact ⟨Nat.lt_succ_self _, this⟩
  split at h
  · next hn =>
    have hlt := nextC_in hn
    simp only at h
    split at h
    · simp only [Prod.mk.injEq] at h
      exact (hf _ _ _ (by decide) h.1).elim
    · simp only [Prod.mk.injEq] at h
      obtain ⟨h1, _, h3⟩ := h
      split at h3
      · next ha => rw [if_pos ha] at h1; exact (hf _ _ _ (by decide) h1).elim
      · next ha =>
        rw [if_neg ha] at h1
        have hn0 := nm_in s.at_ (l.drop s.at_) 0 0
        rw [List.length_drop] at hn0
        unfold movedC at h1 h3
        split at h3
        · next h0 =>
          rw [if_pos h0] at h1
          rw [← h3]
          simp only at h1 ⊢
          have hz : (nm s.at_ (l.drop s.at_) 0 0).2.2 = 0 := by simpa using h1
          refine ⟨?_, by omega⟩
          have hnm : ∀ (r : List UInt8) (n c : Nat), (nm s.at_ r n c).2.2 = 0 → s.at_ + c ≤ (nm s.at_ r n c).2.1 ∧ 0 < (nm s.at_ r n c).2.1 - s.at_ := by
            intro r
            induction r with
            | nil => intro n c h; rw [nm] at h ⊢; split at h; cases h; next hc => rw [if_neg hc]; simp only; omega
            | cons y r ih =>
              intro n c h
              rw [nm] at h ⊢
              split at h
              · next hd =>
                rw [if_pos hd]
                split at h
                · cases h
                · next hc => rw [if_neg hc]; have := ih _ _ h; omega
              · next hd =>
                rw [if_neg hd]
                split at h
                · cases h
                · next hc => rw [if_neg hc]; simp only; omega
          have := hnm _ _ _ hz
          omega
        · next h0 =>
          rw [if_neg h0] at h1
          exact (h0 (by simpa using h1)).elim
  split at h
  · simp at h
  · simp at h
end
end Go.Proofs.YtkfddjopbocpkaaGreatDoor

/-
  Guards and whole commands further on in a text; a command with an address ahead of it. Plain.
-/
namespace Go.Proofs.YtkfddjopbocpkaaGreatDoor
open Go.RowKit

section
variable {A l : List UInt8} {M : List (Nat × List UInt8)} {s : AdS}
theorem addrD_le {x sec : Bool} {s' : AdS} {a : AV} (h : s.at_ ≤ l.length) (he : s.e = 0) (hr : addrD x l sec s = .inr (a, s')) : s'.at_ ≤ l.length ∧ s'.e = 0 := ⟨(addrD_in h he hr).le, (addrD_in h he hr).ok⟩
theorem pairD_le {x : Bool} {s' : AdS} {a : AV} (h : s.at_ ≤ l.length) (hr : pairD x l s = .inr (a, s')) : s'.at_ ≤ l.length ∧ s'.e = 0 := by
  unfold pairD at hr
  split at hr
  · next h44 =>
    have hlt : bhd l [32, 9] s.at_ < l.length := byt_lt (by rw [h44]; decide)
    have hb2 := (bhd_in [32, 9] (show bhd l [32, 9] s.at_ + 1 ≤ l.length from hlt)).2
    split at hr
    · cases hr
    · next b s1 hp =>
      split at hr
      · cases hr
      · injection hr with hr; injection hr with h1 h2; subst h2
        exact addrD_le (s := ⟨_, _, 0⟩) hb2 rfl hp
  · injection hr with hr; injection hr with h1 h2; subst h2
    exact ⟨(bhd_in [32, 9] h).2, rfl⟩
theorem notD_le {a b : AV} {g : GV} {s' : AdS} (h : s.at_ ≤ l.length) (hr : notD l a b s = .inr (g, s')) : s'.at_ ≤ l.length := by
  unfold notD at hr
  have hb := (bhd_in [32, 9] h).2
  split at hr
  · next h33 =>
    have hlt : bhd l [32, 9] s.at_ < l.length := byt_lt (by rw [h33]; decide)
    have hb2 := (bhd_in [32, 9] (show bhd l [32, 9] s.at_ + 1 ≤ l.length from hlt)).2
    split at hr
    · cases hr
    · injection hr with hr; injection hr with h1 h2; subst h2; exact hb2
  · injection hr with hr; injection hr with h1 h2; subst h2; exact hb
theorem guardD_le {x : Bool} {g : GV} {s' : AdS} (h : s.at_ ≤ l.length) (he : s.e = 0) (hr : guardD x l s = .inr (g, s')) : s'.at_ ≤ l.length := by
  unfold guardD at hr
  cases ha : addrD x l false s with
  | inl z => rw [ha] at hr; cases hr
  | inr z =>
    obtain ⟨a, s1⟩ := z
    obtain ⟨h1, e1⟩ := addrD_le h he ha
    rw [ha] at hr
    simp only at hr
    by_cases h0 : a.kind = 0
    · simp only [if_pos h0] at hr
      exact notD_le h1 hr
    · simp only [if_neg h0] at hr
      cases hp : pairD x l s1 with
      | inl z => rw [hp] at hr; cases hr
      | inr z =>
        obtain ⟨b, s2⟩ := z
        rw [hp] at hr
        exact notD_le (pairD_le h1 hp).1 hr
end

theorem argsC_keep (x : Bool) (l : List UInt8) (c : CV) (s : AdS) : (argsC x l c s).2.1.at_ = c.at_ ∧ (argsC x l c s).2.1.name = c.name ∧ (argsC x l c s).2.1.guard = c.guard := by
  unfold argsC
  split
  · exact ⟨rfl, rfl, rfl⟩
  split
  · exact ⟨rfl, rfl, rfl⟩
  split
  · exact ⟨rfl, rfl, rfl⟩
  split
  · exact ⟨rfl, rfl, rfl⟩
  split
  · exact ⟨rfl, rfl, rfl⟩
  split
  · exact ⟨rfl, rfl, rfl⟩
  split <;> exact ⟨rfl, rfl, rfl⟩
theorem name_not {n : UInt8} (h : 0 ≤ addrsC n) : ¬ (48 ≤ n.toNat ∧ n.toNat ≤ 57) ∧ n ≠ 32 ∧ n ≠ 9 ∧ n ≠ 44 ∧ n ≠ 33 ∧ n ≠ 36 ∧ n ≠ 47 ∧ n ≠ 92 ∧ n ≠ 10 ∧ n ≠ 59 ∧ n ≠ 35 := by
  unfold addrsC at h
  split at h
  · next hc => rcases hc with rfl | rfl <;> decide
  split at h
  · next hc => rcases hc with rfl | rfl | rfl | rfl | rfl | rfl <;> decide
  split at h
  · next hc => rcases hc with rfl | rfl | rfl | rfl | rfl | rfl | rfl | rfl | rfl | rfl | rfl | rfl | rfl | rfl | rfl | rfl | rfl | rfl | rfl | rfl | rfl <;> decide
  · exact absurd h (by decide)
end Go.Proofs.YtkfddjopbocpkaaGreatDoor
