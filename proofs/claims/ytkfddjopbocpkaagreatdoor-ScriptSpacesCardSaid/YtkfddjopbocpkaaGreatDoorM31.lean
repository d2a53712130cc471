/- Lemmas of this claim. -/
import Derived.Test.YtkfddjopbocpkaaGreatDoorM30
set_option linter.unusedVariables false
set_option linter.unusedSimpArgs false
set_option maxRecDepth 100000
set_option maxHeartbeats 4000000
namespace Go.Proofs.YtkfddjopbocpkaaGreatDoor
open Go.Lib (hid)
open Go.RowKit
abbrev zS2:Array Value:= #[.bool false,.slice none 0 0]
theorem Zq0:ZdO false [35,110,10,47,97,47,123,112,59,98,32,120,125]=.inl (16,6):=rfl
theorem Zq1:∃a ms,ZdO false [35,110,10,47,97,47,123,112,59,98,32,120,10,125,10,58,120]=.inr (a,ms)∧a.quiet=true∧a.cmds.length=5∧ZoL a.cmds [120]=4:=⟨_,_,rfl,rfl,rfl,rfl⟩
attribute [-go_sem] storeVar
theorem ZbV(w:World)(hE:Env w):Calls Tryz.prog 17 #[] w fun e w'=>e=.returned (.bool true)∧Fr nob w w':=by
 have h1:=ZbE [35,110,10,47,97,47,123,112,59,98,32,120,125] false w (by decide) hE;rw[Zq0]at h1;obtain⟨⟨aq,ac⟩,ms,ha,hq,hn,hlb⟩:=Zq1;simp only at hq hn hlb;subst hq;have HP:=hid (fun(w':World) (f:Fr nob w w')=>ZbE [35,110,10,47,97,47,123,112,59,98,32,120,10,125,10,58,120] false w' (by decide) (hE.on f));have H1:=hid h1;have HA:=hid ha;have HLB:=hid hlb;have HN:=hid hn;clear h1 ha hE hlb hn;go_enter Tryz.func17,Tryz.ntmps17;go_wp2_with fail;refine H1.out.mono ?_;rintro e w2 ⟨f2,rfl⟩;obtain⟨_,f3,_⟩:=ZaM w2 zS2 zS2 50;obtain⟨w3,hw3⟩:∃w3,w3=(w2.alloc (.cells zS2 50)).setRow w2.heap.size zS2:=⟨_,rfl⟩;rw[←hw3]at f3;have HP3:=hid (HP.out w3 (f2.trans' f3));have HW3:=hid hw3;have F3:=hid (f2.trans' f3);clear hw3 f2 f3;go_wp2_with(first|refine wpList_store_row rfl 50 _ _ rfl w2.heap.size zS2 rfl rfl 50 _ (newAt _ _) (info_S2 _ _) rfl (by kernel_rfl) ?_|rw[←HW3.out]);refine HP3.out.mono ?_
 rw[HA.out];rintro e w4 ⟨f4,cv,mv,rfl,hcm,hma⟩;simp only at hcm;obtain⟨va,vc,rfl⟩:=hcm.shape;obtain⟨ma,mc,rfl⟩:=Zb hma;obtain⟨hb5,f5,_⟩:=ZaM w4 zS2 #[.bool true,.slice va ac.length vc] 50;obtain⟨w5,hw5⟩:∃w5,w5=(w4.alloc (.cells zS2 50)).setRow w4.heap.size #[.bool true,.slice va ac.length vc]:=⟨_,rfl⟩;rw[←hw5]at f5 hb5;have HL:=hid (fun(w':World) (f:Fr nob w5 w')=>ZlE true ac (.slice va ac.length vc) w' [120] (by rw[HN.out];decide) (hcm.on (f5.trans' f)));rw[HLB.out]at HL;have hc0:=Zay (cell_at (j:=0) hb5 rfl);have hc1:=Zay (cell_at (j:=1) hb5 rfl);have hn5:=HN.out;rw[hn5]at HL hc1 hw5;have HW5:=hid hw5;have F5:=hid (F3.out.trans' (f4.trans' f5));clear hw5 f4 f5 hb5 hcm hma;rw[hn5];clear hn5;go_wp2_with(first|refine wpList_store_row rfl 50 _ _ rfl w4.heap.size #[.bool true,.slice va 5 vc] rfl rfl 50 _ (newAt _ _) (info_S2 _ _) rfl (ZiR _ _ _ _) ?_|rw[←HW5.out]|((with_reducible refine(HL.out _ (Fr.refl _ _)).mono ?_);rintro e w6 ⟨rfl,f6⟩;have F6:=hid f6;clear f6))
 go_ret;exact⟨rfl,F5.out.trans' F6.out⟩
end Go.Proofs.YtkfddjopbocpkaaGreatDoor
