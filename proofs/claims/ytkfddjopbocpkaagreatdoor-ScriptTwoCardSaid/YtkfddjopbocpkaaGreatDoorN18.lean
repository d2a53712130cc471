/- Lemmas of this claim. -/
import Derived.Test.YtkfddjopbocpkaaGreatDoorN17
set_option linter.unusedVariables false
set_option linter.unusedSimpArgs false
set_option maxRecDepth 100000
set_option maxHeartbeats 4000000
namespace Go.Proofs.YtkfddjopbocpkaaGreatDoor
open Go.Lib (hid)
open Go.RowKit
theorem ZhC(b:Nat)(l:List UInt8)(x:BF)(at0:Nat)(ms0:List (Nat×List UInt8))(S O:Nat→Prop)(w:World)(hl:l.length≤99000)(ha:at0≤l.length)(hm:ms0.length=0)(hS:∀k,S k→k<w.heap.size)(hO:∀k,O k→k<w.heap.size)(W0:World)(hE:Env W0)(hW:Fr nob W0 w)(hSW:∀k,S k→W0.heap.size≤k)(h:ARd b l x ⟨at0,ms0,0⟩ S w)(A:AV)(at1:Nat)(ms1:List (Nat×List UInt8))(hR:addrD x l false ⟨at0,ms0,0⟩=.inr (A,⟨at1,ms1,0⟩))(hk:A.kind≠0)(B:AV)(at2:Nat)(ms2:List (Nat×List UInt8))(hR2:Zbc x l ⟨at1,ms1,0⟩=.inr (B,⟨at2,ms2,0⟩))(pQ:Nat)(hpQ:bhd l [32,9] at2=pQ)(pV:Nat)(h33:byt l pQ=33)(hpV:bhd l [32,9] (pQ+1)=pV)(h33':byt l pV≠33):
 Calls Tryz.prog 51 #[.pointer (some ⟨b,0,none⟩)] w (ZaV b l x S O w (.inr (⟨A,B,true⟩,⟨pV,ms2,0⟩))):=by
 have hl:l.length≤100000:=Nat.le_trans hl (by decide);obtain⟨w1,hw1⟩:∃w1,w1=w.alloc (.cells zG 30):=⟨_,rfl⟩;have f1:Fr nob w w1:=by rw[hw1];exact(Fr.refl _ _).alloc _
 have hz:w1.heap[w.heap.size]? =some (.cells zG 30 (0,0)):=by rw[hw1];exact newAt _ _
 have hsz:w1.heap.size=w.heap.size+1:=by rw[hw1];simp
 have h1:=h.on f1;have hSL:∀k,S k→k<w1.heap.size:=fun k hk=>by have:=hS k hk;omega
 have hOL:∀k,GS O w.heap.size k→k<w1.heap.size:=fun k hk=>by
  rcases hk with hk|hk
  ·have:=hO k hk;omega
  ·have hk:k=w.heap.size:=hk;omega
 have HAD:=hid (Zal b l x false ⟨at0,ms0,0⟩ S (GS O w.heap.size) w1 (by omega) ha (by show ms0.length≤_;omega) rfl hSL hOL W0 hE (hW.trans' f1) hSW h1);have HW1:=hid hw1;have HS:=hid hS;have F1:=hid f1;have HZ:=hid hz;have HLT:=hid (lt_heap hz);have HSL:=hid hSL;have HE:=hid hE;have HWF:=hid (hW.trans' f1);have HSW:=hid hSW;have HOL:=hid hOL;clear h h1 hw1 hS f1 hz hO hE hW hSW hsz hSL hOL;have hfw:=Zam (s:=⟨at0,ms0,0⟩) ha rfl hR;have h1l:at1≤l.length:=hfw.le;have h1m:ms1.length≤99001:=by have:=hfw.mks;simp only at this;omega
 rw[hR]at HAD;clear hR hfw;have hk0:(A.kind==0)=false:=by simpa using hk
 clear hk;have HPD:=hid (fun w2 w3 S1 u1 (hS':∀k,S1 k→k<w3.heap.size) (hO':∀k,GS O w.heap.size k→k<w3.heap.size) (hW':Fr nob W0 w3) (hSW':∀k,S1 k→W0.heap.size≤k) (h:ARd b l x ⟨at1,ms1,0⟩ S1 w3) (ng:¬S1 w2) hg=>Zfo b l x ⟨at1,ms1,0⟩ S1 (GS O w.heap.size) w2 A.kind A.line A.text u1 w3 hl h1l (by show ms1.length≤_;omega) rfl hS' hO' W0 HE.out hW' hSW' h ng hg);have hfw:=pairD_in hR2;have h2l:at2≤l.length:=hfw.le;rw[hR2]at HPD;clear hR2 hfw;have hpQl:pQ≤l.length:=by rw[←hpQ];exact bhd_le _ _ _
 have HPQ:=hid hpQ;have hat:pQ<l.length:=ZaO (by rw[h33];decide);have hwr:IntKind.i64.wrap ((pQ:Int)+1)=pQ+1:=IntWalk.i64_in _ (by omega);have hpVl:pV≤l.length:=by rw[←hpV];exact bhd_le _ _ _
 have HPV:=hid hpV;have HC1:=hid h33;obtain⟨c2,hc2⟩:∃c2,byt l pV=c2:=⟨_,rfl⟩;have n33:((c2.toNat:Int)==33)=false:=by
  have:c2.toNat≠33:=fun h=>h33' (hc2.trans (UInt8.toNat_inj.1 h));simp;omega
 have HC2:=hid hc2;clear h33 h33' hpV hpQ hc2;go_enter Tryz.func51,Tryz.ntmps51;go_wp2_with(rw[←HW1.out]);refine HAD.out.mono ?_;intro e w2 he;obtain⟨v,S1,rfl,⟨u1,rfl,hrn⟩,h2,st2⟩:=he;have hlt1:=st2.lt HSL.out;have hsh1:=hrn.shape;obtain⟨w3,hw3⟩:∃w3,w3=w2.alloc (.cells #[.int .i64 A.kind,.int .i64 A.line,.string ⟨A.text.toArray⟩,u1,.int .i64 0,.int .i64 0,.string ⟨#[]⟩,.nilIface,.bool false] 30):=⟨_,rfl⟩;have f3:Fr nob w2 w3:=by rw[hw3];exact(Fr.refl _ _).alloc _
 have hg3:w3.heap[w2.heap.size]? =some (.cells #[.int .i64 A.kind,.int .i64 A.line,.string ⟨A.text.toArray⟩,u1,.int .i64 0,.int .i64 0,.string ⟨#[]⟩,.nilIface,.bool false] 30 (0,0)):=by rw[hw3];exact newAt _ _
 have ng3:¬S1 w2.heap.size:=fun h=>Nat.lt_irrefl _ (hlt1 _ h);have h3:=h2.on f3;have hge:w1.heap.size≤w2.heap.size:=st2.fr.size;have st3:Stp S w1 (GS S1 w2.heap.size) w3:=(st2.trans (Stp.of f3)).plus hge (lt_heap hg3);have hr1:RN (SO (GS S1 w2.heap.size) (GS O w.heap.size)) w3 A.tree u1:=RN.keep f3 (fun _ _ x=>x.elim) (fun k hk hx=>by
  rcases hx with(hx|hx)|hx
  ·exact .inl hx
  ·have hx:k=w2.heap.size:=hx;omega
  ·exact .inr hx) _ _ hrn
 have HW3:=hid hw3;obtain⟨mv3,h35⟩:=h3;have r3:=Zd h35.blk _ (Fr.refl _ _);have rg3:=Zk hg3 _ (Fr.refl _ _);have HPR:=hid (HPD.out w2.heap.size w3 S1 u1 (fun k hk=>by have:=hlt1 k hk;have:=f3.size;omega) (fun k hk=>by have:=HOL.out k hk;have:=f3.size;omega) ((st2.trans (Stp.of f3)).from HWF.out HSW.out) (fun k hk=>by by_cases h:k<w1.heap.size;exact HSW.out k (st2.old k h hk);have:=HWF.out.size;omega) ⟨mv3,h35⟩ ng3 hg3);have ST3:=hid st3;have R1:=hid hr1;clear hrn h2 st2 hw3 f3 h35 hg3 ng3 st3 hge hlt1 hr1;rcases hsh1 with rfl|⟨i1,y1,rfl⟩
 ·skip
  go_wp2_with(rw[←HW3.out]);refine HPR.out.mono ?_;rintro e wP ⟨rfl,S2,u2,hP,hng,st4,hgb,hr2⟩;have hst:=ST3.out.trans st4;have hr1:=st4.rn R1.out;have hr2:RN (SO (GS S2 w2.heap.size) (GS O w.heap.size)) wP B.tree u2:=RN.keep (Fr.refl nob wP) (fun _ _ x=>x.elim) (fun k _ hx=>by
   rcases hx with(hx|hx)|hx
   ·exact .inl hx
   ·exact .inr (.inr hx)
   ·exact .inr (.inl hx)) _ _ hr2
  have hsh2:=hr2.shape;clear st4 r3 rg3;rcases hsh2 with rfl|⟨i2,y2,rfl⟩
  ·skip
   obtain⟨mv2,hP5⟩:=hP;have rP:=Zd hP5.blk _ (Fr.refl _ _);have HBL:=hid (Zi b l x ⟨at2,ms2,0⟩ S2 wP hl h2l ⟨mv2,hP5⟩);have HGB:=hid hgb;have HNG:=hid hng;have HST:=hid hst;have HR1:=hid hr1;have HR2:=hid hr2;have HLG:=hid (lt_heap hgb);have rgP:=Zk hgb _ (Fr.refl _ _);clear hP5 hgb hng hst hr1 hr2;go_wp2_with fail;refine HBL.out.mono ?_;rintro e wQ ⟨rfl,hQ,stQ⟩;rw[show bhd l [32,9] (AdS.mk at2 ms2 0).at_=pQ from HPQ.out]at hQ;have hQ:ARd b l x ⟨pQ,ms2,0⟩ S2 wQ:=hQ;have HQ:=hid hQ;have STQ:=hid (stQ.gs HLG.out);have HNX:=hid (by have:=Zt b l x ⟨pQ,ms2,0⟩ S2 wQ (by omega) hQ;simp only at this;rw[HC1.out]at this;exact this);have HGQ:=hid (stQ.fr.heap HGB.out HNG.out);clear hQ stQ rP rgP;go_wp2_with fail;refine HNX.out.mono ?_;rintro e wR ⟨rfl,fR⟩;have hgR:=fR.heap HGQ.out (fun x=>x);have rgR:=Zk hgR _ (Fr.refl _ _);obtain⟨wS,hwS⟩:∃wS,wS=wR.setCell ⟨w2.heap.size,8,none⟩ (.bool true):=⟨_,rfl⟩
   have fS:Fr (fun k=>k=w2.heap.size) wR wS:=by rw[hwS];exact(Fr.refl (fun k=>k=w2.heap.size) wR).setCell (p:=⟨w2.heap.size,8,none⟩) (fun _=>rfl) _
   have hsS:wS.heap.size=wR.heap.size:=by rw[hwS];simp[World.setCell]
   have hgS:wS.heap[w2.heap.size]? =some (.cells #[.int .i64 A.kind,.int .i64 A.line,.string ⟨A.text.toArray⟩,.nilIface,(.int .i64 B.kind),(.int .i64 B.line),(.string ⟨B.text.toArray⟩),.nilIface,.bool true] 30 (0,0)):=by rw[hwS];simpa using Za hgR 8 (.bool true)
   obtain⟨mvR,hR5⟩:=HQ.out.on fR;have hS5:=hR5.keep fS (fun e=>HNG.out (e▸hR5.me)) (fun k hk e=>HNG.out (e▸(hR5.nm k hk).2));have rS:=Zd hS5.blk _ (Fr.refl _ _);have hT5:=hS5.turned 1 (.int .i64 ((pQ:Int)+1)) ⟨pQ+1,ms2,0⟩ (by simp) rfl;have stT:=hS5.stp 1 (.int .i64 ((pQ:Int)+1));obtain⟨wT,hwT⟩:∃wT,wT=wS.setCell ⟨b,1,none⟩ (.int .i64 ((pQ:Int)+1)):=⟨_,rfl⟩;rw[←hwT]at hT5 stT;have hgT:=stT.fr.heap hgS HNG.out;have sST:Stp (GS S2 w2.heap.size) wR (GS S2 w2.heap.size) wS:=⟨fS.mono (fun _ _ e=>.inr e),fun _ _ h=>h,fun hl k hk=>by have:=hl k hk;omega⟩;have st0:=(STQ.out.trans (Stp.of fR)).trans (sST.trans (stT.gs (by have:=HLG.out;have:=STQ.out.fr.size;have:=fR.size;omega)));have HWS:=hid hwS;have HWT:=hid hwT;have HGT:=hid hgT;have ST0:=hid st0;have HBT:=hid (Zi b l x ⟨pQ+1,ms2,0⟩ S2 wT hl (by show pQ+1≤_;omega) ⟨mvR,hT5⟩);have HLT2:=hid (lt_heap hgT);clear hR5 hS5 hT5 stT hwS hwT hgR hgS hgT fS hsS sST st0 fR
   go_wp2_with(first|rw[←HWS.out]|rw[←HWT.out]);refine HBT.out.mono ?_;rintro e wU ⟨rfl,hU,stU⟩;rw[show bhd l [32,9] (AdS.mk (pQ+1) ms2 0).at_=pV from HPV.out]at hU;have hU:ARd b l x ⟨pV,ms2,0⟩ S2 wU:=hU;have HU:=hid hU;have STU:=hid (ST0.out.trans (stU.gs HLT2.out));have HNU:=hid (by have:=Zt b l x ⟨pV,ms2,0⟩ S2 wU (by omega) hU;simp only at this;rw[HC2.out]at this;exact this);have HGU:=hid (stU.fr.heap HGT.out HNG.out);clear hU stU rgR rS;go_wp2_with fail;refine HNU.out.mono ?_;rintro e wV ⟨rfl,fV⟩;have hX:=HU.out.on fV;have hgZ:=fV.heap HGU.out (fun x=>x);have stl:=STU.out.trans (Stp.of fV);clear fV;have rgZ:=Zk hgZ _ (Fr.refl _ _);have st:=HST.out.trans stl;have hzZ:=Zbl rfl HS.out HZ.out st;have rz:=Zk hzZ _ (Fr.refl _ _);have q1:=hid (ZT hX (fun h=>ZE HLT.out HS.out st h) (.int .i64 A.kind) (.int .i64 A.line) (.string ⟨A.text.toArray⟩) .nilIface (.int .i64 B.kind) (.int .i64 B.line) (.string ⟨B.text.toArray⟩) .nilIface (.bool true))
   have q2:=hid (ZU F1.out rfl st (.int .i64 A.kind) (.int .i64 A.line) (.string ⟨A.text.toArray⟩) .nilIface (.int .i64 B.kind) (.int .i64 B.line) (.string ⟨B.text.toArray⟩) .nilIface (.bool true));have HZF:=hid (Zf hzZ (.int .i64 A.kind) (.int .i64 A.line) (.string ⟨A.text.toArray⟩) .nilIface (.int .i64 B.kind) (.int .i64 B.line) (.string ⟨B.text.toArray⟩) .nilIface (.bool true));have q3:=hid (ZB (stl.rn HR1.out) (.int .i64 A.kind) (.int .i64 A.line) (.string ⟨A.text.toArray⟩) .nilIface (.int .i64 B.kind) (.int .i64 B.line) (.string ⟨B.text.toArray⟩) .nilIface (.bool true));have q4:=hid (ZB (stl.rn HR2.out) (.int .i64 A.kind) (.int .i64 A.line) (.string ⟨A.text.toArray⟩) .nilIface (.int .i64 B.kind) (.int .i64 B.line) (.string ⟨B.text.toArray⟩) .nilIface (.bool true));clear hX st stl hzZ hgZ;go_wp2;(try simp only[Exit.inBlock,Exit.then]);exact bodyPost_ret (Zu rfl rfl HZF.out rfl rfl rfl rfl rfl rfl rfl rfl rfl) rfl ⟨_,_,rfl,⟨_,_,rfl,q3.out,q4.out⟩,q1.out,q2.out⟩
  ·skip
   obtain⟨mv2,hP5⟩:=hP;have rP:=Zd hP5.blk _ (Fr.refl _ _);have HBL:=hid (Zi b l x ⟨at2,ms2,0⟩ S2 wP hl h2l ⟨mv2,hP5⟩);have HGB:=hid hgb;have HNG:=hid hng;have HST:=hid hst;have HR1:=hid hr1;have HR2:=hid hr2;have HLG:=hid (lt_heap hgb);have rgP:=Zk hgb _ (Fr.refl _ _);clear hP5 hgb hng hst hr1 hr2;go_wp2_with fail;refine HBL.out.mono ?_;rintro e wQ ⟨rfl,hQ,stQ⟩;rw[show bhd l [32,9] (AdS.mk at2 ms2 0).at_=pQ from HPQ.out]at hQ;have hQ:ARd b l x ⟨pQ,ms2,0⟩ S2 wQ:=hQ;have HQ:=hid hQ;have STQ:=hid (stQ.gs HLG.out);have HNX:=hid (by have:=Zt b l x ⟨pQ,ms2,0⟩ S2 wQ (by omega) hQ;simp only at this;rw[HC1.out]at this;exact this);have HGQ:=hid (stQ.fr.heap HGB.out HNG.out);clear hQ stQ rP rgP;go_wp2_with fail;refine HNX.out.mono ?_;rintro e wR ⟨rfl,fR⟩;have hgR:=fR.heap HGQ.out (fun x=>x);have rgR:=Zk hgR _ (Fr.refl _ _);obtain⟨wS,hwS⟩:∃wS,wS=wR.setCell ⟨w2.heap.size,8,none⟩ (.bool true):=⟨_,rfl⟩
   have fS:Fr (fun k=>k=w2.heap.size) wR wS:=by rw[hwS];exact(Fr.refl (fun k=>k=w2.heap.size) wR).setCell (p:=⟨w2.heap.size,8,none⟩) (fun _=>rfl) _
   have hsS:wS.heap.size=wR.heap.size:=by rw[hwS];simp[World.setCell]
   have hgS:wS.heap[w2.heap.size]? =some (.cells #[.int .i64 A.kind,.int .i64 A.line,.string ⟨A.text.toArray⟩,.nilIface,(.int .i64 B.kind),(.int .i64 B.line),(.string ⟨B.text.toArray⟩),(.iface i2 y2),.bool true] 30 (0,0)):=by rw[hwS];simpa using Za hgR 8 (.bool true)
   obtain⟨mvR,hR5⟩:=HQ.out.on fR;have hS5:=hR5.keep fS (fun e=>HNG.out (e▸hR5.me)) (fun k hk e=>HNG.out (e▸(hR5.nm k hk).2));have rS:=Zd hS5.blk _ (Fr.refl _ _);have hT5:=hS5.turned 1 (.int .i64 ((pQ:Int)+1)) ⟨pQ+1,ms2,0⟩ (by simp) rfl;have stT:=hS5.stp 1 (.int .i64 ((pQ:Int)+1));obtain⟨wT,hwT⟩:∃wT,wT=wS.setCell ⟨b,1,none⟩ (.int .i64 ((pQ:Int)+1)):=⟨_,rfl⟩;rw[←hwT]at hT5 stT;have hgT:=stT.fr.heap hgS HNG.out;have sST:Stp (GS S2 w2.heap.size) wR (GS S2 w2.heap.size) wS:=⟨fS.mono (fun _ _ e=>.inr e),fun _ _ h=>h,fun hl k hk=>by have:=hl k hk;omega⟩;have st0:=(STQ.out.trans (Stp.of fR)).trans (sST.trans (stT.gs (by have:=HLG.out;have:=STQ.out.fr.size;have:=fR.size;omega)));have HWS:=hid hwS;have HWT:=hid hwT;have HGT:=hid hgT;have ST0:=hid st0;have HBT:=hid (Zi b l x ⟨pQ+1,ms2,0⟩ S2 wT hl (by show pQ+1≤_;omega) ⟨mvR,hT5⟩);have HLT2:=hid (lt_heap hgT);clear hR5 hS5 hT5 stT hwS hwT hgR hgS hgT fS hsS sST st0 fR
   go_wp2_with(first|rw[←HWS.out]|rw[←HWT.out]);refine HBT.out.mono ?_;rintro e wU ⟨rfl,hU,stU⟩;rw[show bhd l [32,9] (AdS.mk (pQ+1) ms2 0).at_=pV from HPV.out]at hU;have hU:ARd b l x ⟨pV,ms2,0⟩ S2 wU:=hU;have HU:=hid hU;have STU:=hid (ST0.out.trans (stU.gs HLT2.out));have HNU:=hid (by have:=Zt b l x ⟨pV,ms2,0⟩ S2 wU (by omega) hU;simp only at this;rw[HC2.out]at this;exact this);have HGU:=hid (stU.fr.heap HGT.out HNG.out);clear hU stU rgR rS;go_wp2_with fail;refine HNU.out.mono ?_;rintro e wV ⟨rfl,fV⟩;have hX:=HU.out.on fV;have hgZ:=fV.heap HGU.out (fun x=>x);have stl:=STU.out.trans (Stp.of fV);clear fV;have rgZ:=Zk hgZ _ (Fr.refl _ _);have st:=HST.out.trans stl;have hzZ:=Zbl rfl HS.out HZ.out st;have rz:=Zk hzZ _ (Fr.refl _ _);have q1:=hid (ZT hX (fun h=>ZE HLT.out HS.out st h) (.int .i64 A.kind) (.int .i64 A.line) (.string ⟨A.text.toArray⟩) .nilIface (.int .i64 B.kind) (.int .i64 B.line) (.string ⟨B.text.toArray⟩) (.iface i2 y2) (.bool true))
   have q2:=hid (ZU F1.out rfl st (.int .i64 A.kind) (.int .i64 A.line) (.string ⟨A.text.toArray⟩) .nilIface (.int .i64 B.kind) (.int .i64 B.line) (.string ⟨B.text.toArray⟩) (.iface i2 y2) (.bool true));have HZF:=hid (Zf hzZ (.int .i64 A.kind) (.int .i64 A.line) (.string ⟨A.text.toArray⟩) .nilIface (.int .i64 B.kind) (.int .i64 B.line) (.string ⟨B.text.toArray⟩) (.iface i2 y2) (.bool true));have q3:=hid (ZB (stl.rn HR1.out) (.int .i64 A.kind) (.int .i64 A.line) (.string ⟨A.text.toArray⟩) .nilIface (.int .i64 B.kind) (.int .i64 B.line) (.string ⟨B.text.toArray⟩) (.iface i2 y2) (.bool true));have q4:=hid (ZB (stl.rn HR2.out) (.int .i64 A.kind) (.int .i64 A.line) (.string ⟨A.text.toArray⟩) .nilIface (.int .i64 B.kind) (.int .i64 B.line) (.string ⟨B.text.toArray⟩) (.iface i2 y2) (.bool true));clear hX st stl hzZ hgZ;go_wp2;(try simp only[Exit.inBlock,Exit.then]);exact bodyPost_ret (Zu rfl rfl HZF.out rfl rfl rfl rfl rfl rfl rfl rfl rfl) rfl ⟨_,_,rfl,⟨_,_,rfl,q3.out,q4.out⟩,q1.out,q2.out⟩
 ·skip
  go_wp2_with(rw[←HW3.out]);refine HPR.out.mono ?_;rintro e wP ⟨rfl,S2,u2,hP,hng,st4,hgb,hr2⟩;have hst:=ST3.out.trans st4;have hr1:=st4.rn R1.out;have hr2:RN (SO (GS S2 w2.heap.size) (GS O w.heap.size)) wP B.tree u2:=RN.keep (Fr.refl nob wP) (fun _ _ x=>x.elim) (fun k _ hx=>by
   rcases hx with(hx|hx)|hx
   ·exact .inl hx
   ·exact .inr (.inr hx)
   ·exact .inr (.inl hx)) _ _ hr2
  have hsh2:=hr2.shape;clear st4 r3 rg3;rcases hsh2 with rfl|⟨i2,y2,rfl⟩
  ·skip
   obtain⟨mv2,hP5⟩:=hP;have rP:=Zd hP5.blk _ (Fr.refl _ _);have HBL:=hid (Zi b l x ⟨at2,ms2,0⟩ S2 wP hl h2l ⟨mv2,hP5⟩);have HGB:=hid hgb;have HNG:=hid hng;have HST:=hid hst;have HR1:=hid hr1;have HR2:=hid hr2;have HLG:=hid (lt_heap hgb);have rgP:=Zk hgb _ (Fr.refl _ _);clear hP5 hgb hng hst hr1 hr2;go_wp2_with fail;refine HBL.out.mono ?_;rintro e wQ ⟨rfl,hQ,stQ⟩;rw[show bhd l [32,9] (AdS.mk at2 ms2 0).at_=pQ from HPQ.out]at hQ;have hQ:ARd b l x ⟨pQ,ms2,0⟩ S2 wQ:=hQ;have HQ:=hid hQ;have STQ:=hid (stQ.gs HLG.out);have HNX:=hid (by have:=Zt b l x ⟨pQ,ms2,0⟩ S2 wQ (by omega) hQ;simp only at this;rw[HC1.out]at this;exact this);have HGQ:=hid (stQ.fr.heap HGB.out HNG.out);clear hQ stQ rP rgP;go_wp2_with fail;refine HNX.out.mono ?_;rintro e wR ⟨rfl,fR⟩;have hgR:=fR.heap HGQ.out (fun x=>x);have rgR:=Zk hgR _ (Fr.refl _ _);obtain⟨wS,hwS⟩:∃wS,wS=wR.setCell ⟨w2.heap.size,8,none⟩ (.bool true):=⟨_,rfl⟩
   have fS:Fr (fun k=>k=w2.heap.size) wR wS:=by rw[hwS];exact(Fr.refl (fun k=>k=w2.heap.size) wR).setCell (p:=⟨w2.heap.size,8,none⟩) (fun _=>rfl) _
   have hsS:wS.heap.size=wR.heap.size:=by rw[hwS];simp[World.setCell]
   have hgS:wS.heap[w2.heap.size]? =some (.cells #[.int .i64 A.kind,.int .i64 A.line,.string ⟨A.text.toArray⟩,(.iface i1 y1),(.int .i64 B.kind),(.int .i64 B.line),(.string ⟨B.text.toArray⟩),.nilIface,.bool true] 30 (0,0)):=by rw[hwS];simpa using Za hgR 8 (.bool true)
   obtain⟨mvR,hR5⟩:=HQ.out.on fR;have hS5:=hR5.keep fS (fun e=>HNG.out (e▸hR5.me)) (fun k hk e=>HNG.out (e▸(hR5.nm k hk).2));have rS:=Zd hS5.blk _ (Fr.refl _ _);have hT5:=hS5.turned 1 (.int .i64 ((pQ:Int)+1)) ⟨pQ+1,ms2,0⟩ (by simp) rfl;have stT:=hS5.stp 1 (.int .i64 ((pQ:Int)+1));obtain⟨wT,hwT⟩:∃wT,wT=wS.setCell ⟨b,1,none⟩ (.int .i64 ((pQ:Int)+1)):=⟨_,rfl⟩;rw[←hwT]at hT5 stT;have hgT:=stT.fr.heap hgS HNG.out;have sST:Stp (GS S2 w2.heap.size) wR (GS S2 w2.heap.size) wS:=⟨fS.mono (fun _ _ e=>.inr e),fun _ _ h=>h,fun hl k hk=>by have:=hl k hk;omega⟩;have st0:=(STQ.out.trans (Stp.of fR)).trans (sST.trans (stT.gs (by have:=HLG.out;have:=STQ.out.fr.size;have:=fR.size;omega)));have HWS:=hid hwS;have HWT:=hid hwT;have HGT:=hid hgT;have ST0:=hid st0;have HBT:=hid (Zi b l x ⟨pQ+1,ms2,0⟩ S2 wT hl (by show pQ+1≤_;omega) ⟨mvR,hT5⟩);have HLT2:=hid (lt_heap hgT);clear hR5 hS5 hT5 stT hwS hwT hgR hgS hgT fS hsS sST st0 fR
   go_wp2_with(first|rw[←HWS.out]|rw[←HWT.out]);refine HBT.out.mono ?_;rintro e wU ⟨rfl,hU,stU⟩;rw[show bhd l [32,9] (AdS.mk (pQ+1) ms2 0).at_=pV from HPV.out]at hU;have hU:ARd b l x ⟨pV,ms2,0⟩ S2 wU:=hU;have HU:=hid hU;have STU:=hid (ST0.out.trans (stU.gs HLT2.out));have HNU:=hid (by have:=Zt b l x ⟨pV,ms2,0⟩ S2 wU (by omega) hU;simp only at this;rw[HC2.out]at this;exact this);have HGU:=hid (stU.fr.heap HGT.out HNG.out);clear hU stU rgR rS;go_wp2_with fail;refine HNU.out.mono ?_;rintro e wV ⟨rfl,fV⟩;have hX:=HU.out.on fV;have hgZ:=fV.heap HGU.out (fun x=>x);have stl:=STU.out.trans (Stp.of fV);clear fV;have rgZ:=Zk hgZ _ (Fr.refl _ _);have st:=HST.out.trans stl;have hzZ:=Zbl rfl HS.out HZ.out st;have rz:=Zk hzZ _ (Fr.refl _ _);have q1:=hid (ZT hX (fun h=>ZE HLT.out HS.out st h) (.int .i64 A.kind) (.int .i64 A.line) (.string ⟨A.text.toArray⟩) (.iface i1 y1) (.int .i64 B.kind) (.int .i64 B.line) (.string ⟨B.text.toArray⟩) .nilIface (.bool true))
   have q2:=hid (ZU F1.out rfl st (.int .i64 A.kind) (.int .i64 A.line) (.string ⟨A.text.toArray⟩) (.iface i1 y1) (.int .i64 B.kind) (.int .i64 B.line) (.string ⟨B.text.toArray⟩) .nilIface (.bool true));have HZF:=hid (Zf hzZ (.int .i64 A.kind) (.int .i64 A.line) (.string ⟨A.text.toArray⟩) (.iface i1 y1) (.int .i64 B.kind) (.int .i64 B.line) (.string ⟨B.text.toArray⟩) .nilIface (.bool true));have q3:=hid (ZB (stl.rn HR1.out) (.int .i64 A.kind) (.int .i64 A.line) (.string ⟨A.text.toArray⟩) (.iface i1 y1) (.int .i64 B.kind) (.int .i64 B.line) (.string ⟨B.text.toArray⟩) .nilIface (.bool true));have q4:=hid (ZB (stl.rn HR2.out) (.int .i64 A.kind) (.int .i64 A.line) (.string ⟨A.text.toArray⟩) (.iface i1 y1) (.int .i64 B.kind) (.int .i64 B.line) (.string ⟨B.text.toArray⟩) .nilIface (.bool true));clear hX st stl hzZ hgZ;go_wp2;(try simp only[Exit.inBlock,Exit.then]);exact bodyPost_ret (Zu rfl rfl HZF.out rfl rfl rfl rfl rfl rfl rfl rfl rfl) rfl ⟨_,_,rfl,⟨_,_,rfl,q3.out,q4.out⟩,q1.out,q2.out⟩
  ·skip
   obtain⟨mv2,hP5⟩:=hP;have rP:=Zd hP5.blk _ (Fr.refl _ _);have HBL:=hid (Zi b l x ⟨at2,ms2,0⟩ S2 wP hl h2l ⟨mv2,hP5⟩);have HGB:=hid hgb;have HNG:=hid hng;have HST:=hid hst;have HR1:=hid hr1;have HR2:=hid hr2;have HLG:=hid (lt_heap hgb);have rgP:=Zk hgb _ (Fr.refl _ _);clear hP5 hgb hng hst hr1 hr2;go_wp2_with fail;refine HBL.out.mono ?_;rintro e wQ ⟨rfl,hQ,stQ⟩;rw[show bhd l [32,9] (AdS.mk at2 ms2 0).at_=pQ from HPQ.out]at hQ;have hQ:ARd b l x ⟨pQ,ms2,0⟩ S2 wQ:=hQ;have HQ:=hid hQ;have STQ:=hid (stQ.gs HLG.out);have HNX:=hid (by have:=Zt b l x ⟨pQ,ms2,0⟩ S2 wQ (by omega) hQ;simp only at this;rw[HC1.out]at this;exact this);have HGQ:=hid (stQ.fr.heap HGB.out HNG.out);clear hQ stQ rP rgP;go_wp2_with fail;refine HNX.out.mono ?_;rintro e wR ⟨rfl,fR⟩;have hgR:=fR.heap HGQ.out (fun x=>x);have rgR:=Zk hgR _ (Fr.refl _ _);obtain⟨wS,hwS⟩:∃wS,wS=wR.setCell ⟨w2.heap.size,8,none⟩ (.bool true):=⟨_,rfl⟩
   have fS:Fr (fun k=>k=w2.heap.size) wR wS:=by rw[hwS];exact(Fr.refl (fun k=>k=w2.heap.size) wR).setCell (p:=⟨w2.heap.size,8,none⟩) (fun _=>rfl) _
   have hsS:wS.heap.size=wR.heap.size:=by rw[hwS];simp[World.setCell]
   have hgS:wS.heap[w2.heap.size]? =some (.cells #[.int .i64 A.kind,.int .i64 A.line,.string ⟨A.text.toArray⟩,(.iface i1 y1),(.int .i64 B.kind),(.int .i64 B.line),(.string ⟨B.text.toArray⟩),(.iface i2 y2),.bool true] 30 (0,0)):=by rw[hwS];simpa using Za hgR 8 (.bool true)
   obtain⟨mvR,hR5⟩:=HQ.out.on fR;have hS5:=hR5.keep fS (fun e=>HNG.out (e▸hR5.me)) (fun k hk e=>HNG.out (e▸(hR5.nm k hk).2));have rS:=Zd hS5.blk _ (Fr.refl _ _);have hT5:=hS5.turned 1 (.int .i64 ((pQ:Int)+1)) ⟨pQ+1,ms2,0⟩ (by simp) rfl;have stT:=hS5.stp 1 (.int .i64 ((pQ:Int)+1));obtain⟨wT,hwT⟩:∃wT,wT=wS.setCell ⟨b,1,none⟩ (.int .i64 ((pQ:Int)+1)):=⟨_,rfl⟩;rw[←hwT]at hT5 stT;have hgT:=stT.fr.heap hgS HNG.out;have sST:Stp (GS S2 w2.heap.size) wR (GS S2 w2.heap.size) wS:=⟨fS.mono (fun _ _ e=>.inr e),fun _ _ h=>h,fun hl k hk=>by have:=hl k hk;omega⟩;have st0:=(STQ.out.trans (Stp.of fR)).trans (sST.trans (stT.gs (by have:=HLG.out;have:=STQ.out.fr.size;have:=fR.size;omega)));have HWS:=hid hwS;have HWT:=hid hwT;have HGT:=hid hgT;have ST0:=hid st0;have HBT:=hid (Zi b l x ⟨pQ+1,ms2,0⟩ S2 wT hl (by show pQ+1≤_;omega) ⟨mvR,hT5⟩);have HLT2:=hid (lt_heap hgT);clear hR5 hS5 hT5 stT hwS hwT hgR hgS hgT fS hsS sST st0 fR
   go_wp2_with(first|rw[←HWS.out]|rw[←HWT.out]);refine HBT.out.mono ?_;rintro e wU ⟨rfl,hU,stU⟩;rw[show bhd l [32,9] (AdS.mk (pQ+1) ms2 0).at_=pV from HPV.out]at hU;have hU:ARd b l x ⟨pV,ms2,0⟩ S2 wU:=hU;have HU:=hid hU;have STU:=hid (ST0.out.trans (stU.gs HLT2.out));have HNU:=hid (by have:=Zt b l x ⟨pV,ms2,0⟩ S2 wU (by omega) hU;simp only at this;rw[HC2.out]at this;exact this);have HGU:=hid (stU.fr.heap HGT.out HNG.out);clear hU stU rgR rS;go_wp2_with fail;refine HNU.out.mono ?_;rintro e wV ⟨rfl,fV⟩;have hX:=HU.out.on fV;have hgZ:=fV.heap HGU.out (fun x=>x);have stl:=STU.out.trans (Stp.of fV);clear fV;have rgZ:=Zk hgZ _ (Fr.refl _ _);have st:=HST.out.trans stl;have hzZ:=Zbl rfl HS.out HZ.out st;have rz:=Zk hzZ _ (Fr.refl _ _);have q1:=hid (ZT hX (fun h=>ZE HLT.out HS.out st h) (.int .i64 A.kind) (.int .i64 A.line) (.string ⟨A.text.toArray⟩) (.iface i1 y1) (.int .i64 B.kind) (.int .i64 B.line) (.string ⟨B.text.toArray⟩) (.iface i2 y2) (.bool true))
   have q2:=hid (ZU F1.out rfl st (.int .i64 A.kind) (.int .i64 A.line) (.string ⟨A.text.toArray⟩) (.iface i1 y1) (.int .i64 B.kind) (.int .i64 B.line) (.string ⟨B.text.toArray⟩) (.iface i2 y2) (.bool true));have HZF:=hid (Zf hzZ (.int .i64 A.kind) (.int .i64 A.line) (.string ⟨A.text.toArray⟩) (.iface i1 y1) (.int .i64 B.kind) (.int .i64 B.line) (.string ⟨B.text.toArray⟩) (.iface i2 y2) (.bool true));have q3:=hid (ZB (stl.rn HR1.out) (.int .i64 A.kind) (.int .i64 A.line) (.string ⟨A.text.toArray⟩) (.iface i1 y1) (.int .i64 B.kind) (.int .i64 B.line) (.string ⟨B.text.toArray⟩) (.iface i2 y2) (.bool true));have q4:=hid (ZB (stl.rn HR2.out) (.int .i64 A.kind) (.int .i64 A.line) (.string ⟨A.text.toArray⟩) (.iface i1 y1) (.int .i64 B.kind) (.int .i64 B.line) (.string ⟨B.text.toArray⟩) (.iface i2 y2) (.bool true));clear hX st stl hzZ hgZ;go_wp2;(try simp only[Exit.inBlock,Exit.then])
   exact bodyPost_ret (Zu rfl rfl HZF.out rfl rfl rfl rfl rfl rfl rfl rfl rfl) rfl ⟨_,_,rfl,⟨_,_,rfl,q3.out,q4.out⟩,q1.out,q2.out⟩
theorem ZhD(b:Nat)(l:List UInt8)(x:BF)(at0:Nat)(ms0:List (Nat×List UInt8))(S O:Nat→Prop)(w:World)(hl:l.length≤99000)(ha:at0≤l.length)(hm:ms0.length=0)(hS:∀k,S k→k<w.heap.size)(hO:∀k,O k→k<w.heap.size)(W0:World)(hE:Env W0)(hW:Fr nob W0 w)(hSW:∀k,S k→W0.heap.size≤k)(h:ARd b l x ⟨at0,ms0,0⟩ S w)(A:AV)(at1:Nat)(ms1:List (Nat×List UInt8))(hR:addrD x l false ⟨at0,ms0,0⟩=.inr (A,⟨at1,ms1,0⟩))(hk:A.kind≠0)(B:AV)(at2:Nat)(ms2:List (Nat×List UInt8))(hR2:Zbc x l ⟨at1,ms1,0⟩=.inr (B,⟨at2,ms2,0⟩))(pQ:Nat)(hpQ:bhd l [32,9] at2=pQ)(pV:Nat)(h33:byt l pQ=33)(hpV:bhd l [32,9] (pQ+1)=pV)(h33':byt l pV=33):
 Calls Tryz.prog 51 #[.pointer (some ⟨b,0,none⟩)] w (ZaV b l x S O w (.inl (15,pV))):=by
 have hl:l.length≤100000:=Nat.le_trans hl (by decide);obtain⟨w1,hw1⟩:∃w1,w1=w.alloc (.cells zG 30):=⟨_,rfl⟩;have f1:Fr nob w w1:=by rw[hw1];exact(Fr.refl _ _).alloc _
 have hz:w1.heap[w.heap.size]? =some (.cells zG 30 (0,0)):=by rw[hw1];exact newAt _ _
 have hsz:w1.heap.size=w.heap.size+1:=by rw[hw1];simp
 have h1:=h.on f1;have hSL:∀k,S k→k<w1.heap.size:=fun k hk=>by have:=hS k hk;omega
 have hOL:∀k,GS O w.heap.size k→k<w1.heap.size:=fun k hk=>by
  rcases hk with hk|hk
  ·have:=hO k hk;omega
  ·have hk:k=w.heap.size:=hk;omega
 have HAD:=hid (Zal b l x false ⟨at0,ms0,0⟩ S (GS O w.heap.size) w1 (by omega) ha (by show ms0.length≤_;omega) rfl hSL hOL W0 hE (hW.trans' f1) hSW h1);have HW1:=hid hw1;have HS:=hid hS;have F1:=hid f1;have HZ:=hid hz;have HLT:=hid (lt_heap hz);have HSL:=hid hSL;have HE:=hid hE;have HWF:=hid (hW.trans' f1);have HSW:=hid hSW;have HOL:=hid hOL;clear h h1 hw1 hS f1 hz hO hE hW hSW hsz hSL hOL;have hfw:=Zam (s:=⟨at0,ms0,0⟩) ha rfl hR;have h1l:at1≤l.length:=hfw.le;have h1m:ms1.length≤99001:=by have:=hfw.mks;simp only at this;omega
 rw[hR]at HAD;clear hR hfw;have hk0:(A.kind==0)=false:=by simpa using hk
 clear hk;have HPD:=hid (fun w2 w3 S1 u1 (hS':∀k,S1 k→k<w3.heap.size) (hO':∀k,GS O w.heap.size k→k<w3.heap.size) (hW':Fr nob W0 w3) (hSW':∀k,S1 k→W0.heap.size≤k) (h:ARd b l x ⟨at1,ms1,0⟩ S1 w3) (ng:¬S1 w2) hg=>Zfo b l x ⟨at1,ms1,0⟩ S1 (GS O w.heap.size) w2 A.kind A.line A.text u1 w3 hl h1l (by show ms1.length≤_;omega) rfl hS' hO' W0 HE.out hW' hSW' h ng hg);have hfw:=pairD_in hR2;have h2l:at2≤l.length:=hfw.le;rw[hR2]at HPD;clear hR2 hfw;have hpQl:pQ≤l.length:=by rw[←hpQ];exact bhd_le _ _ _
 have HPQ:=hid hpQ;have hat:pQ<l.length:=ZaO (by rw[h33];decide);have hwr:IntKind.i64.wrap ((pQ:Int)+1)=pQ+1:=IntWalk.i64_in _ (by omega);have hpVl:pV≤l.length:=by rw[←hpV];exact bhd_le _ _ _
 have HPV:=hid hpV;have HC1:=hid h33;have HC2:=hid h33';clear h33 h33' hpV hpQ;go_enter Tryz.func51,Tryz.ntmps51;go_wp2_with(rw[←HW1.out]);refine HAD.out.mono ?_;intro e w2 he;obtain⟨v,S1,rfl,⟨u1,rfl,hrn⟩,h2,st2⟩:=he;have hlt1:=st2.lt HSL.out;have hsh1:=hrn.shape;obtain⟨w3,hw3⟩:∃w3,w3=w2.alloc (.cells #[.int .i64 A.kind,.int .i64 A.line,.string ⟨A.text.toArray⟩,u1,.int .i64 0,.int .i64 0,.string ⟨#[]⟩,.nilIface,.bool false] 30):=⟨_,rfl⟩;have f3:Fr nob w2 w3:=by rw[hw3];exact(Fr.refl _ _).alloc _
 have hg3:w3.heap[w2.heap.size]? =some (.cells #[.int .i64 A.kind,.int .i64 A.line,.string ⟨A.text.toArray⟩,u1,.int .i64 0,.int .i64 0,.string ⟨#[]⟩,.nilIface,.bool false] 30 (0,0)):=by rw[hw3];exact newAt _ _
 have ng3:¬S1 w2.heap.size:=fun h=>Nat.lt_irrefl _ (hlt1 _ h);have h3:=h2.on f3;have hge:w1.heap.size≤w2.heap.size:=st2.fr.size;have st3:Stp S w1 (GS S1 w2.heap.size) w3:=(st2.trans (Stp.of f3)).plus hge (lt_heap hg3);have hr1:RN (SO (GS S1 w2.heap.size) (GS O w.heap.size)) w3 A.tree u1:=RN.keep f3 (fun _ _ x=>x.elim) (fun k hk hx=>by
  rcases hx with(hx|hx)|hx
  ·exact .inl hx
  ·have hx:k=w2.heap.size:=hx;omega
  ·exact .inr hx) _ _ hrn
 have HW3:=hid hw3;obtain⟨mv3,h35⟩:=h3;have r3:=Zd h35.blk _ (Fr.refl _ _);have rg3:=Zk hg3 _ (Fr.refl _ _);have HPR:=hid (HPD.out w2.heap.size w3 S1 u1 (fun k hk=>by have:=hlt1 k hk;have:=f3.size;omega) (fun k hk=>by have:=HOL.out k hk;have:=f3.size;omega) ((st2.trans (Stp.of f3)).from HWF.out HSW.out) (fun k hk=>by by_cases h:k<w1.heap.size;exact HSW.out k (st2.old k h hk);have:=HWF.out.size;omega) ⟨mv3,h35⟩ ng3 hg3);have ST3:=hid st3;have R1:=hid hr1;clear hrn h2 st2 hw3 f3 h35 hg3 ng3 st3 hge hlt1 hr1;rcases hsh1 with rfl|⟨i1,y1,rfl⟩
 ·skip
  go_wp2_with(rw[←HW3.out]);refine HPR.out.mono ?_;rintro e wP ⟨rfl,S2,u2,hP,hng,st4,hgb,hr2⟩;have hst:=ST3.out.trans st4;have hr1:=st4.rn R1.out;have hr2:RN (SO (GS S2 w2.heap.size) (GS O w.heap.size)) wP B.tree u2:=RN.keep (Fr.refl nob wP) (fun _ _ x=>x.elim) (fun k _ hx=>by
   rcases hx with(hx|hx)|hx
   ·exact .inl hx
   ·exact .inr (.inr hx)
   ·exact .inr (.inl hx)) _ _ hr2
  have hsh2:=hr2.shape;clear st4 r3 rg3;rcases hsh2 with rfl|⟨i2,y2,rfl⟩
  ·skip
   obtain⟨mv2,hP5⟩:=hP;have rP:=Zd hP5.blk _ (Fr.refl _ _);have HBL:=hid (Zi b l x ⟨at2,ms2,0⟩ S2 wP hl h2l ⟨mv2,hP5⟩);have HGB:=hid hgb;have HNG:=hid hng;have HST:=hid hst;have HR1:=hid hr1;have HR2:=hid hr2;have HLG:=hid (lt_heap hgb);have rgP:=Zk hgb _ (Fr.refl _ _);clear hP5 hgb hng hst hr1 hr2;go_wp2_with fail;refine HBL.out.mono ?_;rintro e wQ ⟨rfl,hQ,stQ⟩;rw[show bhd l [32,9] (AdS.mk at2 ms2 0).at_=pQ from HPQ.out]at hQ;have hQ:ARd b l x ⟨pQ,ms2,0⟩ S2 wQ:=hQ;have HQ:=hid hQ;have STQ:=hid (stQ.gs HLG.out);have HNX:=hid (by have:=Zt b l x ⟨pQ,ms2,0⟩ S2 wQ (by omega) hQ;simp only at this;rw[HC1.out]at this;exact this);have HGQ:=hid (stQ.fr.heap HGB.out HNG.out);clear hQ stQ rP rgP;go_wp2_with fail;refine HNX.out.mono ?_;rintro e wR ⟨rfl,fR⟩;have hgR:=fR.heap HGQ.out (fun x=>x);have rgR:=Zk hgR _ (Fr.refl _ _);obtain⟨wS,hwS⟩:∃wS,wS=wR.setCell ⟨w2.heap.size,8,none⟩ (.bool true):=⟨_,rfl⟩
   have fS:Fr (fun k=>k=w2.heap.size) wR wS:=by rw[hwS];exact(Fr.refl (fun k=>k=w2.heap.size) wR).setCell (p:=⟨w2.heap.size,8,none⟩) (fun _=>rfl) _
   have hsS:wS.heap.size=wR.heap.size:=by rw[hwS];simp[World.setCell]
   have hgS:wS.heap[w2.heap.size]? =some (.cells #[.int .i64 A.kind,.int .i64 A.line,.string ⟨A.text.toArray⟩,.nilIface,(.int .i64 B.kind),(.int .i64 B.line),(.string ⟨B.text.toArray⟩),.nilIface,.bool true] 30 (0,0)):=by rw[hwS];simpa using Za hgR 8 (.bool true)
   obtain⟨mvR,hR5⟩:=HQ.out.on fR;have hS5:=hR5.keep fS (fun e=>HNG.out (e▸hR5.me)) (fun k hk e=>HNG.out (e▸(hR5.nm k hk).2));have rS:=Zd hS5.blk _ (Fr.refl _ _);have hT5:=hS5.turned 1 (.int .i64 ((pQ:Int)+1)) ⟨pQ+1,ms2,0⟩ (by simp) rfl;have stT:=hS5.stp 1 (.int .i64 ((pQ:Int)+1));obtain⟨wT,hwT⟩:∃wT,wT=wS.setCell ⟨b,1,none⟩ (.int .i64 ((pQ:Int)+1)):=⟨_,rfl⟩;rw[←hwT]at hT5 stT;have hgT:=stT.fr.heap hgS HNG.out;have sST:Stp (GS S2 w2.heap.size) wR (GS S2 w2.heap.size) wS:=⟨fS.mono (fun _ _ e=>.inr e),fun _ _ h=>h,fun hl k hk=>by have:=hl k hk;omega⟩;have st0:=(STQ.out.trans (Stp.of fR)).trans (sST.trans (stT.gs (by have:=HLG.out;have:=STQ.out.fr.size;have:=fR.size;omega)));have HWS:=hid hwS;have HWT:=hid hwT;have HGT:=hid hgT;have ST0:=hid st0;have HBT:=hid (Zi b l x ⟨pQ+1,ms2,0⟩ S2 wT hl (by show pQ+1≤_;omega) ⟨mvR,hT5⟩);have HLT2:=hid (lt_heap hgT);clear hR5 hS5 hT5 stT hwS hwT hgR hgS hgT fS hsS sST st0 fR
   go_wp2_with(first|rw[←HWS.out]|rw[←HWT.out]);refine HBT.out.mono ?_;rintro e wU ⟨rfl,hU,stU⟩;rw[show bhd l [32,9] (AdS.mk (pQ+1) ms2 0).at_=pV from HPV.out]at hU;have hU:ARd b l x ⟨pV,ms2,0⟩ S2 wU:=hU;have HU:=hid hU;have STU:=hid (ST0.out.trans (stU.gs HLT2.out));have HNU:=hid (by have:=Zt b l x ⟨pV,ms2,0⟩ S2 wU (by omega) hU;simp only at this;rw[HC2.out]at this;exact this);have HGU:=hid (stU.fr.heap HGT.out HNG.out);clear hU stU rgR rS;go_wp2_with fail;refine HNU.out.mono ?_;rintro e wV ⟨rfl,fV⟩;obtain⟨mvV,hV5⟩:=HU.out.on fV;have rV:=Zd hV5.blk _ (Fr.refl _ _);have hgV:=fV.heap HGU.out (fun x=>x);have HFl:=hid (ZaB b l x ⟨pV,ms2,0⟩ S2 15 pV wV ⟨mvV,hV5⟩);have STV:=hid (STU.out.trans (Stp.of fV));have HGV:=hid hgV;clear hV5 hgV fV;go_wp2_with fail;refine HFl.out.mono ?_;rintro e wX ⟨rfl,hX,stX⟩;have hgZ:=stX.fr.heap HGV.out HNG.out;have stl:=STV.out.trans (stX.gs (lt_heap HGV.out))
   clear stX rV;have rgZ:=Zk hgZ _ (Fr.refl _ _);have st:=HST.out.trans stl;have hzZ:=Zbl rfl HS.out HZ.out st;have rz:=Zk hzZ _ (Fr.refl _ _);have q1:=hid (ZT hX (fun h=>ZE HLT.out HS.out st h) (.int .i64 A.kind) (.int .i64 A.line) (.string ⟨A.text.toArray⟩) .nilIface (.int .i64 B.kind) (.int .i64 B.line) (.string ⟨B.text.toArray⟩) .nilIface (.bool true));have q2:=hid (ZU F1.out rfl st (.int .i64 A.kind) (.int .i64 A.line) (.string ⟨A.text.toArray⟩) .nilIface (.int .i64 B.kind) (.int .i64 B.line) (.string ⟨B.text.toArray⟩) .nilIface (.bool true));have HZF:=hid (Zf hzZ (.int .i64 A.kind) (.int .i64 A.line) (.string ⟨A.text.toArray⟩) .nilIface (.int .i64 B.kind) (.int .i64 B.line) (.string ⟨B.text.toArray⟩) .nilIface (.bool true));have q3:=hid (ZB (stl.rn HR1.out) (.int .i64 A.kind) (.int .i64 A.line) (.string ⟨A.text.toArray⟩) .nilIface (.int .i64 B.kind) (.int .i64 B.line) (.string ⟨B.text.toArray⟩) .nilIface (.bool true))
   have q4:=hid (ZB (stl.rn HR2.out) (.int .i64 A.kind) (.int .i64 A.line) (.string ⟨A.text.toArray⟩) .nilIface (.int .i64 B.kind) (.int .i64 B.line) (.string ⟨B.text.toArray⟩) .nilIface (.bool true));clear hX st stl hzZ hgZ;go_wp2;(try simp only[Exit.inBlock,Exit.then]);exact bodyPost_ret (Zu rfl rfl HZF.out rfl rfl rfl rfl rfl rfl rfl rfl rfl) rfl ⟨⟨A,B,true⟩,_,_,_,rfl,⟨_,_,rfl,q3.out.weak,q4.out.weak⟩,q1.out,q2.out⟩
  ·skip
   obtain⟨mv2,hP5⟩:=hP;have rP:=Zd hP5.blk _ (Fr.refl _ _);have HBL:=hid (Zi b l x ⟨at2,ms2,0⟩ S2 wP hl h2l ⟨mv2,hP5⟩);have HGB:=hid hgb;have HNG:=hid hng;have HST:=hid hst;have HR1:=hid hr1;have HR2:=hid hr2;have HLG:=hid (lt_heap hgb);have rgP:=Zk hgb _ (Fr.refl _ _);clear hP5 hgb hng hst hr1 hr2;go_wp2_with fail;refine HBL.out.mono ?_;rintro e wQ ⟨rfl,hQ,stQ⟩;rw[show bhd l [32,9] (AdS.mk at2 ms2 0).at_=pQ from HPQ.out]at hQ;have hQ:ARd b l x ⟨pQ,ms2,0⟩ S2 wQ:=hQ;have HQ:=hid hQ;have STQ:=hid (stQ.gs HLG.out);have HNX:=hid (by have:=Zt b l x ⟨pQ,ms2,0⟩ S2 wQ (by omega) hQ;simp only at this;rw[HC1.out]at this;exact this);have HGQ:=hid (stQ.fr.heap HGB.out HNG.out);clear hQ stQ rP rgP;go_wp2_with fail;refine HNX.out.mono ?_;rintro e wR ⟨rfl,fR⟩;have hgR:=fR.heap HGQ.out (fun x=>x);have rgR:=Zk hgR _ (Fr.refl _ _);obtain⟨wS,hwS⟩:∃wS,wS=wR.setCell ⟨w2.heap.size,8,none⟩ (.bool true):=⟨_,rfl⟩
   have fS:Fr (fun k=>k=w2.heap.size) wR wS:=by rw[hwS];exact(Fr.refl (fun k=>k=w2.heap.size) wR).setCell (p:=⟨w2.heap.size,8,none⟩) (fun _=>rfl) _
   have hsS:wS.heap.size=wR.heap.size:=by rw[hwS];simp[World.setCell]
   have hgS:wS.heap[w2.heap.size]? =some (.cells #[.int .i64 A.kind,.int .i64 A.line,.string ⟨A.text.toArray⟩,.nilIface,(.int .i64 B.kind),(.int .i64 B.line),(.string ⟨B.text.toArray⟩),(.iface i2 y2),.bool true] 30 (0,0)):=by rw[hwS];simpa using Za hgR 8 (.bool true)
   obtain⟨mvR,hR5⟩:=HQ.out.on fR;have hS5:=hR5.keep fS (fun e=>HNG.out (e▸hR5.me)) (fun k hk e=>HNG.out (e▸(hR5.nm k hk).2));have rS:=Zd hS5.blk _ (Fr.refl _ _);have hT5:=hS5.turned 1 (.int .i64 ((pQ:Int)+1)) ⟨pQ+1,ms2,0⟩ (by simp) rfl;have stT:=hS5.stp 1 (.int .i64 ((pQ:Int)+1));obtain⟨wT,hwT⟩:∃wT,wT=wS.setCell ⟨b,1,none⟩ (.int .i64 ((pQ:Int)+1)):=⟨_,rfl⟩;rw[←hwT]at hT5 stT;have hgT:=stT.fr.heap hgS HNG.out;have sST:Stp (GS S2 w2.heap.size) wR (GS S2 w2.heap.size) wS:=⟨fS.mono (fun _ _ e=>.inr e),fun _ _ h=>h,fun hl k hk=>by have:=hl k hk;omega⟩;have st0:=(STQ.out.trans (Stp.of fR)).trans (sST.trans (stT.gs (by have:=HLG.out;have:=STQ.out.fr.size;have:=fR.size;omega)));have HWS:=hid hwS;have HWT:=hid hwT;have HGT:=hid hgT;have ST0:=hid st0;have HBT:=hid (Zi b l x ⟨pQ+1,ms2,0⟩ S2 wT hl (by show pQ+1≤_;omega) ⟨mvR,hT5⟩);have HLT2:=hid (lt_heap hgT);clear hR5 hS5 hT5 stT hwS hwT hgR hgS hgT fS hsS sST st0 fR
   go_wp2_with(first|rw[←HWS.out]|rw[←HWT.out]);refine HBT.out.mono ?_;rintro e wU ⟨rfl,hU,stU⟩;rw[show bhd l [32,9] (AdS.mk (pQ+1) ms2 0).at_=pV from HPV.out]at hU;have hU:ARd b l x ⟨pV,ms2,0⟩ S2 wU:=hU;have HU:=hid hU;have STU:=hid (ST0.out.trans (stU.gs HLT2.out));have HNU:=hid (by have:=Zt b l x ⟨pV,ms2,0⟩ S2 wU (by omega) hU;simp only at this;rw[HC2.out]at this;exact this);have HGU:=hid (stU.fr.heap HGT.out HNG.out);clear hU stU rgR rS;go_wp2_with fail;refine HNU.out.mono ?_;rintro e wV ⟨rfl,fV⟩;obtain⟨mvV,hV5⟩:=HU.out.on fV;have rV:=Zd hV5.blk _ (Fr.refl _ _);have hgV:=fV.heap HGU.out (fun x=>x);have HFl:=hid (ZaB b l x ⟨pV,ms2,0⟩ S2 15 pV wV ⟨mvV,hV5⟩);have STV:=hid (STU.out.trans (Stp.of fV));have HGV:=hid hgV;clear hV5 hgV fV;go_wp2_with fail;refine HFl.out.mono ?_;rintro e wX ⟨rfl,hX,stX⟩;have hgZ:=stX.fr.heap HGV.out HNG.out;have stl:=STV.out.trans (stX.gs (lt_heap HGV.out))
   clear stX rV;have rgZ:=Zk hgZ _ (Fr.refl _ _);have st:=HST.out.trans stl;have hzZ:=Zbl rfl HS.out HZ.out st;have rz:=Zk hzZ _ (Fr.refl _ _);have q1:=hid (ZT hX (fun h=>ZE HLT.out HS.out st h) (.int .i64 A.kind) (.int .i64 A.line) (.string ⟨A.text.toArray⟩) .nilIface (.int .i64 B.kind) (.int .i64 B.line) (.string ⟨B.text.toArray⟩) (.iface i2 y2) (.bool true));have q2:=hid (ZU F1.out rfl st (.int .i64 A.kind) (.int .i64 A.line) (.string ⟨A.text.toArray⟩) .nilIface (.int .i64 B.kind) (.int .i64 B.line) (.string ⟨B.text.toArray⟩) (.iface i2 y2) (.bool true));have HZF:=hid (Zf hzZ (.int .i64 A.kind) (.int .i64 A.line) (.string ⟨A.text.toArray⟩) .nilIface (.int .i64 B.kind) (.int .i64 B.line) (.string ⟨B.text.toArray⟩) (.iface i2 y2) (.bool true));have q3:=hid (ZB (stl.rn HR1.out) (.int .i64 A.kind) (.int .i64 A.line) (.string ⟨A.text.toArray⟩) .nilIface (.int .i64 B.kind) (.int .i64 B.line) (.string ⟨B.text.toArray⟩) (.iface i2 y2) (.bool true))
   have q4:=hid (ZB (stl.rn HR2.out) (.int .i64 A.kind) (.int .i64 A.line) (.string ⟨A.text.toArray⟩) .nilIface (.int .i64 B.kind) (.int .i64 B.line) (.string ⟨B.text.toArray⟩) (.iface i2 y2) (.bool true));clear hX st stl hzZ hgZ;go_wp2;(try simp only[Exit.inBlock,Exit.then]);exact bodyPost_ret (Zu rfl rfl HZF.out rfl rfl rfl rfl rfl rfl rfl rfl rfl) rfl ⟨⟨A,B,true⟩,_,_,_,rfl,⟨_,_,rfl,q3.out.weak,q4.out.weak⟩,q1.out,q2.out⟩
 ·skip
  go_wp2_with(rw[←HW3.out]);refine HPR.out.mono ?_;rintro e wP ⟨rfl,S2,u2,hP,hng,st4,hgb,hr2⟩;have hst:=ST3.out.trans st4;have hr1:=st4.rn R1.out;have hr2:RN (SO (GS S2 w2.heap.size) (GS O w.heap.size)) wP B.tree u2:=RN.keep (Fr.refl nob wP) (fun _ _ x=>x.elim) (fun k _ hx=>by
   rcases hx with(hx|hx)|hx
   ·exact .inl hx
   ·exact .inr (.inr hx)
   ·exact .inr (.inl hx)) _ _ hr2
  have hsh2:=hr2.shape;clear st4 r3 rg3;rcases hsh2 with rfl|⟨i2,y2,rfl⟩
  ·skip
   obtain⟨mv2,hP5⟩:=hP;have rP:=Zd hP5.blk _ (Fr.refl _ _);have HBL:=hid (Zi b l x ⟨at2,ms2,0⟩ S2 wP hl h2l ⟨mv2,hP5⟩);have HGB:=hid hgb;have HNG:=hid hng;have HST:=hid hst;have HR1:=hid hr1;have HR2:=hid hr2;have HLG:=hid (lt_heap hgb);have rgP:=Zk hgb _ (Fr.refl _ _);clear hP5 hgb hng hst hr1 hr2;go_wp2_with fail;refine HBL.out.mono ?_;rintro e wQ ⟨rfl,hQ,stQ⟩;rw[show bhd l [32,9] (AdS.mk at2 ms2 0).at_=pQ from HPQ.out]at hQ;have hQ:ARd b l x ⟨pQ,ms2,0⟩ S2 wQ:=hQ;have HQ:=hid hQ;have STQ:=hid (stQ.gs HLG.out);have HNX:=hid (by have:=Zt b l x ⟨pQ,ms2,0⟩ S2 wQ (by omega) hQ;simp only at this;rw[HC1.out]at this;exact this);have HGQ:=hid (stQ.fr.heap HGB.out HNG.out);clear hQ stQ rP rgP;go_wp2_with fail;refine HNX.out.mono ?_;rintro e wR ⟨rfl,fR⟩;have hgR:=fR.heap HGQ.out (fun x=>x);have rgR:=Zk hgR _ (Fr.refl _ _);obtain⟨wS,hwS⟩:∃wS,wS=wR.setCell ⟨w2.heap.size,8,none⟩ (.bool true):=⟨_,rfl⟩
   have fS:Fr (fun k=>k=w2.heap.size) wR wS:=by rw[hwS];exact(Fr.refl (fun k=>k=w2.heap.size) wR).setCell (p:=⟨w2.heap.size,8,none⟩) (fun _=>rfl) _
   have hsS:wS.heap.size=wR.heap.size:=by rw[hwS];simp[World.setCell]
   have hgS:wS.heap[w2.heap.size]? =some (.cells #[.int .i64 A.kind,.int .i64 A.line,.string ⟨A.text.toArray⟩,(.iface i1 y1),(.int .i64 B.kind),(.int .i64 B.line),(.string ⟨B.text.toArray⟩),.nilIface,.bool true] 30 (0,0)):=by rw[hwS];simpa using Za hgR 8 (.bool true)
   obtain⟨mvR,hR5⟩:=HQ.out.on fR;have hS5:=hR5.keep fS (fun e=>HNG.out (e▸hR5.me)) (fun k hk e=>HNG.out (e▸(hR5.nm k hk).2));have rS:=Zd hS5.blk _ (Fr.refl _ _);have hT5:=hS5.turned 1 (.int .i64 ((pQ:Int)+1)) ⟨pQ+1,ms2,0⟩ (by simp) rfl;have stT:=hS5.stp 1 (.int .i64 ((pQ:Int)+1));obtain⟨wT,hwT⟩:∃wT,wT=wS.setCell ⟨b,1,none⟩ (.int .i64 ((pQ:Int)+1)):=⟨_,rfl⟩;rw[←hwT]at hT5 stT;have hgT:=stT.fr.heap hgS HNG.out;have sST:Stp (GS S2 w2.heap.size) wR (GS S2 w2.heap.size) wS:=⟨fS.mono (fun _ _ e=>.inr e),fun _ _ h=>h,fun hl k hk=>by have:=hl k hk;omega⟩;have st0:=(STQ.out.trans (Stp.of fR)).trans (sST.trans (stT.gs (by have:=HLG.out;have:=STQ.out.fr.size;have:=fR.size;omega)));have HWS:=hid hwS;have HWT:=hid hwT;have HGT:=hid hgT;have ST0:=hid st0;have HBT:=hid (Zi b l x ⟨pQ+1,ms2,0⟩ S2 wT hl (by show pQ+1≤_;omega) ⟨mvR,hT5⟩);have HLT2:=hid (lt_heap hgT);clear hR5 hS5 hT5 stT hwS hwT hgR hgS hgT fS hsS sST st0 fR
   go_wp2_with(first|rw[←HWS.out]|rw[←HWT.out]);refine HBT.out.mono ?_;rintro e wU ⟨rfl,hU,stU⟩;rw[show bhd l [32,9] (AdS.mk (pQ+1) ms2 0).at_=pV from HPV.out]at hU;have hU:ARd b l x ⟨pV,ms2,0⟩ S2 wU:=hU;have HU:=hid hU;have STU:=hid (ST0.out.trans (stU.gs HLT2.out));have HNU:=hid (by have:=Zt b l x ⟨pV,ms2,0⟩ S2 wU (by omega) hU;simp only at this;rw[HC2.out]at this;exact this);have HGU:=hid (stU.fr.heap HGT.out HNG.out);clear hU stU rgR rS;go_wp2_with fail;refine HNU.out.mono ?_;rintro e wV ⟨rfl,fV⟩;obtain⟨mvV,hV5⟩:=HU.out.on fV;have rV:=Zd hV5.blk _ (Fr.refl _ _);have hgV:=fV.heap HGU.out (fun x=>x);have HFl:=hid (ZaB b l x ⟨pV,ms2,0⟩ S2 15 pV wV ⟨mvV,hV5⟩);have STV:=hid (STU.out.trans (Stp.of fV));have HGV:=hid hgV;clear hV5 hgV fV;go_wp2_with fail;refine HFl.out.mono ?_;rintro e wX ⟨rfl,hX,stX⟩;have hgZ:=stX.fr.heap HGV.out HNG.out;have stl:=STV.out.trans (stX.gs (lt_heap HGV.out))
   clear stX rV;have rgZ:=Zk hgZ _ (Fr.refl _ _);have st:=HST.out.trans stl;have hzZ:=Zbl rfl HS.out HZ.out st;have rz:=Zk hzZ _ (Fr.refl _ _);have q1:=hid (ZT hX (fun h=>ZE HLT.out HS.out st h) (.int .i64 A.kind) (.int .i64 A.line) (.string ⟨A.text.toArray⟩) (.iface i1 y1) (.int .i64 B.kind) (.int .i64 B.line) (.string ⟨B.text.toArray⟩) .nilIface (.bool true));have q2:=hid (ZU F1.out rfl st (.int .i64 A.kind) (.int .i64 A.line) (.string ⟨A.text.toArray⟩) (.iface i1 y1) (.int .i64 B.kind) (.int .i64 B.line) (.string ⟨B.text.toArray⟩) .nilIface (.bool true));have HZF:=hid (Zf hzZ (.int .i64 A.kind) (.int .i64 A.line) (.string ⟨A.text.toArray⟩) (.iface i1 y1) (.int .i64 B.kind) (.int .i64 B.line) (.string ⟨B.text.toArray⟩) .nilIface (.bool true));have q3:=hid (ZB (stl.rn HR1.out) (.int .i64 A.kind) (.int .i64 A.line) (.string ⟨A.text.toArray⟩) (.iface i1 y1) (.int .i64 B.kind) (.int .i64 B.line) (.string ⟨B.text.toArray⟩) .nilIface (.bool true))
   have q4:=hid (ZB (stl.rn HR2.out) (.int .i64 A.kind) (.int .i64 A.line) (.string ⟨A.text.toArray⟩) (.iface i1 y1) (.int .i64 B.kind) (.int .i64 B.line) (.string ⟨B.text.toArray⟩) .nilIface (.bool true));clear hX st stl hzZ hgZ;go_wp2;(try simp only[Exit.inBlock,Exit.then]);exact bodyPost_ret (Zu rfl rfl HZF.out rfl rfl rfl rfl rfl rfl rfl rfl rfl) rfl ⟨⟨A,B,true⟩,_,_,_,rfl,⟨_,_,rfl,q3.out.weak,q4.out.weak⟩,q1.out,q2.out⟩
  ·skip
   obtain⟨mv2,hP5⟩:=hP;have rP:=Zd hP5.blk _ (Fr.refl _ _);have HBL:=hid (Zi b l x ⟨at2,ms2,0⟩ S2 wP hl h2l ⟨mv2,hP5⟩);have HGB:=hid hgb;have HNG:=hid hng;have HST:=hid hst;have HR1:=hid hr1;have HR2:=hid hr2;have HLG:=hid (lt_heap hgb);have rgP:=Zk hgb _ (Fr.refl _ _);clear hP5 hgb hng hst hr1 hr2;go_wp2_with fail;refine HBL.out.mono ?_;rintro e wQ ⟨rfl,hQ,stQ⟩;rw[show bhd l [32,9] (AdS.mk at2 ms2 0).at_=pQ from HPQ.out]at hQ;have hQ:ARd b l x ⟨pQ,ms2,0⟩ S2 wQ:=hQ;have HQ:=hid hQ;have STQ:=hid (stQ.gs HLG.out);have HNX:=hid (by have:=Zt b l x ⟨pQ,ms2,0⟩ S2 wQ (by omega) hQ;simp only at this;rw[HC1.out]at this;exact this);have HGQ:=hid (stQ.fr.heap HGB.out HNG.out);clear hQ stQ rP rgP;go_wp2_with fail;refine HNX.out.mono ?_;rintro e wR ⟨rfl,fR⟩;have hgR:=fR.heap HGQ.out (fun x=>x);have rgR:=Zk hgR _ (Fr.refl _ _);obtain⟨wS,hwS⟩:∃wS,wS=wR.setCell ⟨w2.heap.size,8,none⟩ (.bool true):=⟨_,rfl⟩
   have fS:Fr (fun k=>k=w2.heap.size) wR wS:=by rw[hwS];exact(Fr.refl (fun k=>k=w2.heap.size) wR).setCell (p:=⟨w2.heap.size,8,none⟩) (fun _=>rfl) _
   have hsS:wS.heap.size=wR.heap.size:=by rw[hwS];simp[World.setCell]
   have hgS:wS.heap[w2.heap.size]? =some (.cells #[.int .i64 A.kind,.int .i64 A.line,.string ⟨A.text.toArray⟩,(.iface i1 y1),(.int .i64 B.kind),(.int .i64 B.line),(.string ⟨B.text.toArray⟩),(.iface i2 y2),.bool true] 30 (0,0)):=by rw[hwS];simpa using Za hgR 8 (.bool true)
   obtain⟨mvR,hR5⟩:=HQ.out.on fR;have hS5:=hR5.keep fS (fun e=>HNG.out (e▸hR5.me)) (fun k hk e=>HNG.out (e▸(hR5.nm k hk).2));have rS:=Zd hS5.blk _ (Fr.refl _ _);have hT5:=hS5.turned 1 (.int .i64 ((pQ:Int)+1)) ⟨pQ+1,ms2,0⟩ (by simp) rfl;have stT:=hS5.stp 1 (.int .i64 ((pQ:Int)+1));obtain⟨wT,hwT⟩:∃wT,wT=wS.setCell ⟨b,1,none⟩ (.int .i64 ((pQ:Int)+1)):=⟨_,rfl⟩;rw[←hwT]at hT5 stT;have hgT:=stT.fr.heap hgS HNG.out;have sST:Stp (GS S2 w2.heap.size) wR (GS S2 w2.heap.size) wS:=⟨fS.mono (fun _ _ e=>.inr e),fun _ _ h=>h,fun hl k hk=>by have:=hl k hk;omega⟩;have st0:=(STQ.out.trans (Stp.of fR)).trans (sST.trans (stT.gs (by have:=HLG.out;have:=STQ.out.fr.size;have:=fR.size;omega)));have HWS:=hid hwS;have HWT:=hid hwT;have HGT:=hid hgT;have ST0:=hid st0;have HBT:=hid (Zi b l x ⟨pQ+1,ms2,0⟩ S2 wT hl (by show pQ+1≤_;omega) ⟨mvR,hT5⟩);have HLT2:=hid (lt_heap hgT);clear hR5 hS5 hT5 stT hwS hwT hgR hgS hgT fS hsS sST st0 fR
   go_wp2_with(first|rw[←HWS.out]|rw[←HWT.out]);refine HBT.out.mono ?_;rintro e wU ⟨rfl,hU,stU⟩;rw[show bhd l [32,9] (AdS.mk (pQ+1) ms2 0).at_=pV from HPV.out]at hU;have hU:ARd b l x ⟨pV,ms2,0⟩ S2 wU:=hU;have HU:=hid hU;have STU:=hid (ST0.out.trans (stU.gs HLT2.out));have HNU:=hid (by have:=Zt b l x ⟨pV,ms2,0⟩ S2 wU (by omega) hU;simp only at this;rw[HC2.out]at this;exact this);have HGU:=hid (stU.fr.heap HGT.out HNG.out);clear hU stU rgR rS;go_wp2_with fail;refine HNU.out.mono ?_;rintro e wV ⟨rfl,fV⟩;obtain⟨mvV,hV5⟩:=HU.out.on fV;have rV:=Zd hV5.blk _ (Fr.refl _ _);have hgV:=fV.heap HGU.out (fun x=>x);have HFl:=hid (ZaB b l x ⟨pV,ms2,0⟩ S2 15 pV wV ⟨mvV,hV5⟩);have STV:=hid (STU.out.trans (Stp.of fV));have HGV:=hid hgV;clear hV5 hgV fV;go_wp2_with fail;refine HFl.out.mono ?_;rintro e wX ⟨rfl,hX,stX⟩;have hgZ:=stX.fr.heap HGV.out HNG.out;have stl:=STV.out.trans (stX.gs (lt_heap HGV.out))
   clear stX rV;have rgZ:=Zk hgZ _ (Fr.refl _ _);have st:=HST.out.trans stl;have hzZ:=Zbl rfl HS.out HZ.out st;have rz:=Zk hzZ _ (Fr.refl _ _);have q1:=hid (ZT hX (fun h=>ZE HLT.out HS.out st h) (.int .i64 A.kind) (.int .i64 A.line) (.string ⟨A.text.toArray⟩) (.iface i1 y1) (.int .i64 B.kind) (.int .i64 B.line) (.string ⟨B.text.toArray⟩) (.iface i2 y2) (.bool true));have q2:=hid (ZU F1.out rfl st (.int .i64 A.kind) (.int .i64 A.line) (.string ⟨A.text.toArray⟩) (.iface i1 y1) (.int .i64 B.kind) (.int .i64 B.line) (.string ⟨B.text.toArray⟩) (.iface i2 y2) (.bool true));have HZF:=hid (Zf hzZ (.int .i64 A.kind) (.int .i64 A.line) (.string ⟨A.text.toArray⟩) (.iface i1 y1) (.int .i64 B.kind) (.int .i64 B.line) (.string ⟨B.text.toArray⟩) (.iface i2 y2) (.bool true));have q3:=hid (ZB (stl.rn HR1.out) (.int .i64 A.kind) (.int .i64 A.line) (.string ⟨A.text.toArray⟩) (.iface i1 y1) (.int .i64 B.kind) (.int .i64 B.line) (.string ⟨B.text.toArray⟩) (.iface i2 y2) (.bool true))
   have q4:=hid (ZB (stl.rn HR2.out) (.int .i64 A.kind) (.int .i64 A.line) (.string ⟨A.text.toArray⟩) (.iface i1 y1) (.int .i64 B.kind) (.int .i64 B.line) (.string ⟨B.text.toArray⟩) (.iface i2 y2) (.bool true));clear hX st stl hzZ hgZ;go_wp2;(try simp only[Exit.inBlock,Exit.then]);exact bodyPost_ret (Zu rfl rfl HZF.out rfl rfl rfl rfl rfl rfl rfl rfl rfl) rfl ⟨⟨A,B,true⟩,_,_,_,rfl,⟨_,_,rfl,q3.out.weak,q4.out.weak⟩,q1.out,q2.out⟩
theorem Ziv(b:Nat)(l:List UInt8)(x:BF)(at0:Nat)(S O:Nat→Prop)(w:World)(hl:l.length≤99000)(ha:at0≤l.length)(hS:∀k,S k→k<w.heap.size)(hO:∀k,O k→k<w.heap.size)(W0:World)(hE:Env W0)(hW:Fr nob W0 w)(hSW:∀k,S k→W0.heap.size≤k)(h:ARd b l x ⟨at0,[],0⟩ S w):
 Calls Tryz.prog 51 #[.pointer (some ⟨b,0,none⟩)] w (ZaV b l x S O w (ZX x l ⟨at0,[],0⟩)):=by
 unfold ZX;cases hR:addrD x l false ⟨at0,[],0⟩with
 |inl q=>exact Zjo b l x at0 [] S O w hl ha rfl hS hO W0 hE hW hSW h q.1 q.2 hR
 |inr q=>
  obtain⟨A,at1,ms1,e1⟩:=q;obtain rfl:e1=0:=(Zam (s:=⟨at0,[],0⟩) ha rfl hR).ok;simp only;by_cases hk:A.kind=0
  ·rw[if_pos hk];simp only;unfold ZgT;simp only;by_cases h33:byt l (bhd l [32,9] at1)=33
   ·rw[if_pos h33];by_cases h33':byt l (bhd l [32,9] (bhd l [32,9] at1+1))=33
    ·rw[if_pos h33'];exact ZhA b l x at0 [] S O w hl ha rfl hS hO W0 hE hW hSW h A at1 ms1 hR hk _ rfl _ h33 rfl h33'
    ·rw[if_neg h33'];exact Zhz b l x at0 [] S O w hl ha rfl hS hO W0 hE hW hSW h A at1 ms1 hR hk _ rfl _ h33 rfl h33'
   ·rw[if_neg h33];exact Zhy b l x at0 [] S O w hl ha rfl hS hO W0 hE hW hSW h A at1 ms1 hR hk _ rfl h33
  ·rw[if_neg hk];cases hR2:Zbc x l ⟨at1,ms1,0⟩with
   |inl q=>exact Zhx b l x at0 [] S O w hl ha rfl hS hO W0 hE hW hSW h A at1 ms1 hR hk q.1 q.2 hR2
   |inr q=>
    obtain⟨B,at2,ms2,e2⟩:=q;obtain rfl:e2=0:=(pairD_in hR2).ok;simp only;unfold ZgT;simp only;by_cases h33:byt l (bhd l [32,9] at2)=33
    ·rw[if_pos h33];by_cases h33':byt l (bhd l [32,9] (bhd l [32,9] at2+1))=33
     ·rw[if_pos h33'];exact ZhD b l x at0 [] S O w hl ha rfl hS hO W0 hE hW hSW h A at1 ms1 hR hk B at2 ms2 hR2 _ rfl _ h33 rfl h33'
     ·rw[if_neg h33'];exact ZhC b l x at0 [] S O w hl ha rfl hS hO W0 hE hW hSW h A at1 ms1 hR hk B at2 ms2 hR2 _ rfl _ h33 rfl h33'
    ·rw[if_neg h33];exact ZhB b l x at0 [] S O w hl ha rfl hS hO W0 hE hW hSW h A at1 ms1 hR hk B at2 ms2 hR2 _ rfl h33
theorem notD_err{l:List UInt8}{a b:AV}{s:AdS}{z:Int×Nat}(h:ZgT l a b s=.inl z):z.1≠0:=by
 unfold ZgT at h;split at h
 ·split at h
  ·injection h with h;subst h;intro e;cases e
  ·cases h
 ·cases h
theorem notD_ok{l:List UInt8}{a b:AV}{s s':AdS}{g:GV}(h:ZgT l a b s=.inr (g,s')):s'.e=0:=by
 unfold ZgT at h;split at h
 ·split at h
  ·cases h
  ·injection h with h;injection h with h1 h2;subst h2;rfl
 ·injection h with h;injection h with h1 h2;subst h2;rfl
theorem guardD_err{x:Bool}{l:List UInt8}{s:AdS}{z:Int×Nat}(h:ZX x l s=.inl z):z.1≠0:=by
 unfold ZX at h;split at h
 ·next y hp=>injection h with h;subst h;exact addrD_err hp
 ·next a s1 hp=>
  split at h
  ·next y hq=>
   injection h with h;subst h;split at hq
   ·cases hq
   ·exact pairD_err hq
  ·exact notD_err h
theorem guardD_ok{x:Bool}{l:List UInt8}{s s':AdS}{g:GV}(h:ZX x l s=.inr (g,s')):s'.e=0:=by
 unfold ZX at h;split at h
 ·cases h
 ·split at h
  ·cases h
  ·exact notD_ok h
theorem ZbB{fn:Func}{p t u v:Tmp}(h:fn.results= #[.cell p 30,.tmp t,.tmp u,.tmp v]){tmps:Array Value}{r:Nat}(ht:tmps.getD p undef=.pointer (some ⟨r,0,none⟩)){W:World}{a0 a1 a2 a3 a4 a5 a6 a7 a8:Value}
 (hb:W.heap[r]? =some (.cells #[a0,a1,a2,a3,a4,a5,a6,a7,a8] 30 (0,0))):
 (results fn tmps).run Tryz.prog W=.ok (.tuple #[.agg #[a0,a1,a2,a3,a4,a5,a6,a7,a8],tmps.getD t undef,tmps.getD u undef,tmps.getD v undef]) W:=by
 have c0:=cell_at (j:=0) hb rfl;have c1:=cell_at (j:=1) hb rfl;have c2:=cell_at (j:=2) hb rfl;have c3:=cell_at (j:=3) hb rfl;have c4:=cell_at (j:=4) hb rfl;have c5:=cell_at (j:=5) hb rfl;have c6:=cell_at (j:=6) hb rfl;have c7:=cell_at (j:=7) hb rfl;have c8:=cell_at (j:=8) hb rfl;have ht':tmps[p]?.getD undef=.pointer (some ⟨r,0,none⟩):=by rw[←ht];simp
 simp only[results,h];simp[ht',go_sem,c0,c1,c2,c3,c4,c5,c6,c7,c8]
abbrev Prt:=Int×List UInt8
structure SV where
 text:List UInt8
 tree:Nd
 parts:List Prt
 nth:Int
 all:Bool
 print:Bool
 file:List UInt8
def SV.zero:SV:=⟨[],.nil,[],0,false,false,[]⟩
structure CV where
 at_:Nat
 guard:GV
 name:UInt8
 arg:List UInt8
 sub:SV
 table:List UInt8
def GV.zero:GV:=⟨AV.zero,AV.zero,false⟩
def CV.zero:CV:=⟨0,GV.zero,0,[],SV.zero,[]⟩
def failC(s:AdS)(e:Int)(p:Nat):AdS:=if s.e=0 then⟨p,s.marks,e⟩else s
def ZI(l:List UInt8)(s:AdS)(some:List UInt8):Bool:=match l[s.at_]? with
 |none=>false
 | .some b=>some.contains b
def Zan(s:AdS)(p:Nat)(t:List UInt8):AdS:=⟨s.at_,s.marks++[(p,t)],s.e⟩
def ZV(s:AdS)(p:Nat)(e:Int):AdS:=if s.e=0 then⟨p,s.marks,e⟩else s
def ZM(n:UInt8):Int:=
 if n=125∨n=58 then 0
 else if n=61∨n=113∨n=81∨n=97∨n=105∨n=114 then 1
 else if n=123∨n=100∨n=68∨n=103∨n=71∨n=104∨n=72∨n=108∨n=110∨n=78∨n=112∨n=80∨n=120∨n=122∨n=98∨n=116∨n=84∨n=99∨n=119∨n=115∨n=121 then 2
 else -1
def ZcD(g:GV):Int:=if g.b.kind≠0 then 2 else if g.a.kind≠0 then 1 else 0
def labelC(l:List UInt8)(must:Bool)(s:AdS):List UInt8×AdS:=
 if(ZcI l s.at_ true).2.2=14∧must=false then((ZcI l s.at_ true).1,ZV s (s.at_+(Zcv (l.drop s.at_) true).length) 0)
 else((ZcI l s.at_ true).1,ZV s (ZcI l s.at_ true).2.1 (ZcI l s.at_ true).2.2)
def ZaR(l:List UInt8)(s:AdS):List UInt8×AdS:=
 if ZI l s [32,9]=false then([],failC s 2 s.at_)
 else((ZcI l s.at_ false).1,ZV s (ZcI l s.at_ false).2.1 (ZcI l s.at_ false).2.2)
def AdS.to(s:AdS)(k:Nat):AdS:=⟨k,s.marks,s.e⟩
def Zah(l:List UInt8)(begin:Nat)(s:AdS):List UInt8×AdS:=
 let s1:=s.to (bhd l [32,9] s.at_)
 if l.length≤s1.at_ then([],failC s1 11 s1.at_)
 else if ZI l s1 [10]then([],failC s1 5 s1.at_)
 else
  let s2:=if[92,10].isPrefixOf (l.drop s1.at_)then s1.to (s1.at_+2)else Zan s1 begin [116,101,120,116]
  ((ln l (l.length+1) s2.at_ []).1,ZV s2 (ln l (l.length+1) s2.at_ []).2.1 (ln l (l.length+1) s2.at_ []).2.2)
def Zv(l:List UInt8)(s:AdS):UInt8×AdS:=
 if l.length≤s.at_ then(0,failC s 5 l.length)
 else if ZI l s [92,10]then(0,failC s 2 s.at_)
 else(byt l s.at_,s.to (s.at_+1))
def Zr(l:List UInt8)(d:UInt8)(rx:Bool)(s:AdS):List UInt8×AdS:=
 if s.e≠0 then([],s)
 else((bt l d rx (l.length+1) s.at_ []).1,ZV s (bt l d rx (l.length+1) s.at_ []).2.1 (bt l d rx (l.length+1) s.at_ []).2.2)
def Zav(x:Bool)(l:List UInt8)(d:UInt8)(s:AdS):(List UInt8×Nd)×AdS:=
 let t:=(Zr l d true s).1
 let s1:=(Zr l d true s).2
 let s2:=if s1.e=0∧t=[]then failC s1 2 s.at_ else s1
 if s2.e≠0 then(([],.nil),s2)
 else match Zac prg x t with
  | .inl z=>((t,.nil),failC s2 z.1 s.at_)
  | .inr (n,r)=>((t,n),⟨s2.at_,s2.marks++r.marks.map (shM s.at_),s2.e⟩)
def pushT(b:List Prt)(t:List UInt8):List Prt:=match b.getLast? with
 |none=>b++[(-1,t)]
 |some p=>if p.1= -1 then b.dropLast++[(-1,p.2++t)]else b++[(-1,t)]
def Zao(groups:Int):List UInt8→Bool→List Prt→List Prt×Int
 |[],escaped,b=>if escaped then([],11)else(b,0)
 |c::r,escaped,b=>
  if escaped=false∧c=92 then Zao groups r true b
  else if escaped=false∧c=38 then Zao groups r false (b++[(0,[])])
  else if escaped=true∧48≤c.toNat∧c.toNat≤57 then
   (if groups<(c.toNat:Int)-48 then([],9)else Zao groups r false (b++[((c.toNat:Int)-48,[])]))
  else if escaped=true∧c=110 then Zao groups r false (pushT b [10])
  else Zao groups r false (pushT b [c])
def Zap(l:List UInt8)(sub:SV)(s:AdS):Bool×SV×AdS:=
 if ZI l s [103]then
  let s1:=s.to (s.at_+1)
  let s2:=if sub.all then failC s1 15 s.at_ else s1
  (s2.e==0,{sub with all:=true},s2)
 else if ZI l s [112]then
  let s1:=s.to (s.at_+1)
  let s2:=if sub.print then failC s1 15 s.at_ else s1
  (s2.e==0,{sub with print:=true},s2)
 else if ZI l s [48,49,50,51,52,53,54,55,56,57]then
  let n:=nm s.at_ (l.drop s.at_) 0 0
  if 0<sub.nth then((failC s 15 s.at_).e==0,{sub with nth:=(n.1:Nat)},failC s 15 s.at_)
  else
   let s1:=ZV s n.2.1 n.2.2
   let s2:=if s.e=0∧s1.e=0∧n.1=0 then failC s1 1 s.at_ else s1
   (s2.e==0,{sub with nth:=(n.1:Nat)},s2)
 else if ZI l s [119]then
  (false,{sub with file:=(ZaR l (s.to (s.at_+1))).1},(ZaR l (s.to (s.at_+1))).2)
 else(false,sub,s)
def Zai(l:List UInt8):Nat→SV→AdS→SV×AdS
 |0,sub,s=>(sub,s)
 |n+1,sub,s=>
  match Zap l sub s with
  |(true,sub',s')=>Zai l n sub' s'
  |(false,sub',s')=>(sub',s')
def Zet(x:Bool)(l:List UInt8)(s:AdS):SV×AdS:=
 let d:=(Zv l s).1
 let s1:=(Zv l s).2
 if s1.e≠0 then(SV.zero,s1)
 else
  let rt:=(Zav x l d s1).1
  let s2:=(Zav x l d s1).2
  let sub:={SV.zero with text:=rt.1,tree:=rt.2}
  let t:=(Zr l d false s2).1
  let s3:=(Zr l d false s2).2
  if s3.e≠0 then(sub,s3)
  else
   let p:=Zao rt.2.groups t false []
   if p.2≠0 then(sub,failC s3 p.2 s2.at_)
   else Zai l (l.length+2) {sub with parts:=p.1} s3
def ZbC:List UInt8→Bool→List UInt8→List UInt8×Bool
 |[],escaped,out=>(out,!escaped)
 |c::r,escaped,out=>
  if escaped=false∧c=92 then ZbC r true out
  else if escaped=true∧c=110 then ZbC r false (out++[10])
  else if escaped=true∧c≠92 then([],false)
  else ZbC r false (out++[c])
def Zod:List (UInt8×UInt8)→List UInt8→List UInt8→List UInt8×Bool
 |[],_,out=>(out,true)
 |(a,b)::r,seen,out=>if seen.contains a then([],false)else Zod r (seen++[a]) (out.set a.toNat b)
def Zjp:List UInt8:=(List.range 256).map UInt8.ofNat
def ZaP(l:List UInt8)(s:AdS):List UInt8×AdS:=
 let d:=(Zv l s).1
 let s1:=(Zv l s).2
 let from_:=(Zr l d false s1).1
 let s2:=(Zr l d false s1).2
 let to_:=(Zr l d false s2).1
 let s3:=(Zr l d false s2).2
 if s3.e≠0 then([],s3)
 else
  let a:=ZbC from_ false []
  let b:=ZbC to_ false []
  if a.2=false∨b.2=false∨a.1.length≠b.1.length then([],failC s3 18 s2.at_)
  else
   let t:=Zod (a.1.zip b.1) [] Zjp
   if t.2 then(t.1,s3)else([],failC s3 15 s2.at_)
def argsC(x:Bool)(l:List UInt8)(c:CV)(s:AdS):Bool×CV×AdS:=
 if c.name=123∨c.name=125 then(false,c,s)
 else if c.name=58 then(false,{c with arg:=(labelC l true s).1},(labelC l true s).2)
 else if c.name=98∨c.name=116∨c.name=84 then(false,{c with arg:=(labelC l false s).1},(labelC l false s).2)
 else if c.name=97∨c.name=105∨c.name=99 then(false,{c with arg:=(Zah l c.at_ s).1},(Zah l c.at_ s).2)
 else if c.name=114∨c.name=119 then(false,{c with arg:=(ZaR l s).1},(ZaR l s).2)
 else if c.name=115 then((Zet x l s).1.file==[],{c with sub:=(Zet x l s).1},(Zet x l s).2)
 else if c.name=121 then(true,{c with table:=(ZaP l s).1},(ZaP l s).2)
 else(true,c,s)
def Zjq(l:List UInt8)(s:AdS):AdS:=
 let s1:=s.to (bhd l [32,9] s.at_)
 if l.length≤s1.at_∨ZI l s1 [59,10,35]=true then s1
 else if ZI l s1 [125]then Zan s1 s1.at_ [125]
 else failC s1 17 s1.at_
def ZbY(x:Bool)(l:List UInt8)(g:GV)(s:AdS):CV×AdS:=
 if l.length≤s.at_ then(CV.zero,failC s 5 l.length)
 else
  let n:=byt l s.at_
  let s1:=if ZM n<0 then failC s 13 s.at_
   else if ZM n<ZcD g then failC s 19 s.at_
   else if n=81∨n=84∨n=122 then Zan s s.at_ [n]
   else s
  if s1.e≠0 then(CV.zero,s1)
  else
   let r:=argsC x l {CV.zero with at_:=s.at_,guard:=g,name:=n} (s1.to (s1.at_+1))
   if r.1=true∧r.2.2.e=0 then(r.2.1,Zjq l r.2.2)else(r.2.1,r.2.2)
abbrev Zqc:=(Int×Nat)⊕(CV×AdS)
def Zeu(x:Bool)(l:List UInt8)(p:Nat):Zqc:=match ZX x l ⟨p,[],0⟩with
 | .inl z=>.inl z
 | .inr (g,s)=>
   let r:=ZbY x l g s
   if r.2.e≠0 then .inl (r.2.e,r.2.at_)else .inr r
section
variable {s t:List UInt8}
theorem byt_app{k:Nat}(h:k<s.length):byt (s++t) k=byt s k:=by unfold byt;rw[List.getElem?_append_left h]
theorem Zq5{k:Nat}(h:k≤s.length):(s++t).drop k=s.drop k++t:=List.drop_append_of_le_length h
theorem Zrw{c:UInt8}{k:Nat}(h:k<s.length):adv (s++t) c k=adv s c k:=by unfold adv;rw[List.getElem?_append_left h]
theorem Zrx{c:UInt8}:∀{a b:List UInt8},a.idxOf c<a.length→(a++b).idxOf c=a.idxOf c
 |[],_,h=>by simp at h
 |x::a,b,h=>by
  rw[List.cons_append,List.idxOf_cons,List.idxOf_cons];rw[List.idxOf_cons,List.length_cons]at h;cases hx:x==c with
  |true=>rfl
  |false=>
   rw[hx]at h;simp only[cond_false]at h⊢;rw[Zrx (b:=b) (by omega)]
theorem ZrX{k:Nat}(h:brE s k<s.length):brE (s++t) k=brE s k:=by
 have h1:=Znc (l:=s) (c:=94) (k:=k+1);have h2:=Znc (l:=s) (c:=93) (k:=adv s 94 (k+1));have h3:=Znb (l:=s) (c:=93) (k:=adv s 93 (adv s 94 (k+1)));unfold brE at h⊢;have h4:nxt s 93 (adv s 93 (adv s 94 (k+1)))+1<s.length:=by omega
 rw[Zrw (by omega:k+1<s.length),Zrw (by omega:adv s 94 (k+1)<s.length)];generalize adv s 93 (adv s 94 (k+1))=j at *;have h5:nxt (s++t) 93 j=nxt s 93 j:=by
  unfold nxt at h4⊢;rw[Zq5 (by omega),Zrx (by rw[List.length_drop];omega)]
 rw[h5,List.length_append];omega
theorem ZhE{d:UInt8}{rx:Bool}{k:Nat}{out:List UInt8}(h:(esc s d rx k out).1=0):esc (s++t) d rx k out=esc s d rx k out∧(esc s d rx k out).2.1=k+2∧k+2≤s.length:=by
 unfold esc at h⊢;cases hc:s[k+1]? with
 |none=>rw[hc]at h;simp at h
 |some y=>
  have hk:=(List.getElem?_eq_some_iff.1 hc).1;rw[hc]at h;rw[List.getElem?_append_left hk,hc];refine⟨rfl,?_,by omega⟩;simp only at h⊢;by_cases hd:y=d
  ·rw[if_pos hd]
  ·rw[if_neg hd]at h⊢;by_cases hn:y=10∧rx=true
   ·rw[if_pos hn]at h;exact absurd h (by intro e;cases e)
   ·rw[if_neg hn]
theorem bt_app{d:UInt8}{rx:Bool}:∀(n k:Nat) (out:List UInt8) (m:Nat),k≤s.length→s.length<n+k→n≤m→(bt s d rx n k out).2.2=0→bt (s++t) d rx m k out=bt s d rx n k out
 |0,k,out,m,h0,h,_,he=>by omega
 |n+1,k,out,0,_,_,hm,_=>by omega
 |n+1,k,out,m+1,h0,h,hm,he=>by
  rw[bt]at he⊢;rw[bt];cases hc:s[k]? with
  |none=>rw[hc]at he;exact absurd he (by intro e;cases e)
  |some c=>
   have hk:=(List.getElem?_eq_some_iff.1 hc).1;rw[hc]at he;rw[List.getElem?_append_left hk,hc];simp only at he⊢;by_cases hd:c=d
   ·rw[if_pos hd,if_pos hd]
   ·rw[if_neg hd]at he⊢;rw[if_neg hd];by_cases h92:c=92
    ·rw[if_pos h92]at he⊢;rw[if_pos h92];by_cases hz:(esc s d rx k out).1=0
     ·obtain⟨e1,e2,e3⟩:=ZhE (t:=t) hz;rw[if_pos hz]at he;rw[e1,if_pos hz,if_pos hz];exact bt_app n _ _ m (by omega) (by omega) (by omega) he
     ·rw[if_neg hz]at he;exact absurd he hz
    ·rw[if_neg h92]at he⊢;rw[if_neg h92];have key:∀q,1≤q→k+q≤s.length→(if Lib.indexByte ((s.drop k).take q) 10<0 then bt s d rx n (k+q) (out++(s.drop k).take q)else([],k+(Lib.indexByte ((s.drop k).take q) 10).toNat,2)).2.2=0→
      (if Lib.indexByte (((s++t).drop k).take q) 10<0 then bt (s++t) d rx m (k+q) (out++((s++t).drop k).take q)else([],k+(Lib.indexByte (((s++t).drop k).take q) 10).toNat,2))=(if Lib.indexByte ((s.drop k).take q) 10<0 then bt s d rx n (k+q) (out++(s.drop k).take q)else([],k+(Lib.indexByte ((s.drop k).take q) 10).toNat,2)):=by
      intro q hq1 hq he;have ht:((s++t).drop k).take q=(s.drop k).take q:=by
       rw[Zq5 (by omega),List.take_append_of_le_length (by rw[List.length_drop];omega)]
      rw[ht];by_cases hi:Lib.indexByte ((s.drop k).take q) 10<0
      ·rw[if_pos hi]at he;rw[if_pos hi,if_pos hi];exact bt_app n _ _ m hq (by omega) (by omega) he
      ·rw[if_neg hi,if_neg hi]
     by_cases hb:c=91∧rx=true
     ·rw[if_pos hb]at he⊢;have hbl:brE s k≤s.length:=by unfold brE;omega
      have hbg:k<brE s k:=by
       have h1:=Znc (l:=s) (c:=94) (k:=k+1);have h2:=Znc (l:=s) (c:=93) (k:=adv s 94 (k+1));have h3:=Znb (l:=s) (c:=93) (k:=adv s 93 (adv s 94 (k+1)));unfold brE;omega
      have hlt:brE s k<s.length:=by
       refine Nat.lt_of_not_le fun hle=> ?_;have e:k+(brE s k-k)=s.length:=by omega
       rw[e]at he;split at he
       ·cases n with
        |zero=>omega
        |succ n=>
         rw[bt,List.getElem?_eq_none (Nat.le_refl _)]at he;exact absurd he (by intro e;cases e)
       ·exact absurd he (by intro e;cases e)
      rw[if_pos hb,ZrX hlt];exact key _ (by omega) (by omega) he
     ·rw[if_neg hb]at he⊢;rw[if_neg hb];exact key 1 (by omega) (by omega) he
theorem Zrm{at_:Nat}{y:UInt8}{r:List UInt8}(hy:¬(48≤y.toNat∧y.toNat≤57)):∀(m:List UInt8) (n c:Nat),nm at_ (m++y::r) n c=nm at_ m n c
 |[],n,c=>by simp only[List.nil_append,nm,if_neg hy]
 |b::m,n,c=>by
  rw[List.cons_append,nm,nm,Zrm hy m]
theorem ZrU{y:UInt8}{r cs:List UInt8}(hy:cs.contains y=false):∀(m:List UInt8),tl (m++y::r) cs=tl m cs++y::r
 |[]=>by unfold tl;rw[List.nil_append,List.dropWhile_cons,if_neg (by rw[hy];simp),List.dropWhile_nil,List.nil_append]
 |b::m=>by
  have ih:=ZrU (r:=r) hy m;unfold tl at ih⊢;rw[List.cons_append,List.dropWhile_cons,List.dropWhile_cons];split
  ·exact ih
  ·rfl
theorem Zq8{y:UInt8}{r cs:List UInt8}{k:Nat}(hy:cs.contains y=false)(hk:k≤s.length):bhd (s++y::r) cs k=bhd s cs k:=by
 unfold bhd;rw[Zq5 hk,ZrU hy,List.length_append,List.length_append];omega
theorem regexD_app{x:Bool}{d:UInt8}{q q':AdS}{a:AV}(hk:q.at_≤s.length)(h:ZaE x s d q=.inr (a,q')):ZaE x (s++t) d q=.inr (a,q'):=by
 have h0:(bt s d true (s.length+1) q.at_ []).2.2=0:=by
  refine Classical.byContradiction fun hn=> ?_;unfold ZaE at h;rw[if_pos hn]at h;cases h
 have e:=bt_app (t:=t) (s.length+1) q.at_ [] ((s++t).length+1) hk (by omega) (by rw[List.length_append];omega) h0;unfold ZaE at h⊢;rw[e];exact h
end
end Go.Proofs.YtkfddjopbocpkaaGreatDoor
