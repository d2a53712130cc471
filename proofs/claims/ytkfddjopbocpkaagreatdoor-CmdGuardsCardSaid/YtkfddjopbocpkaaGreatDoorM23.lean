/-
  Merged texts of this claim: AdrHP0, AdrHP1.
-/
import Derived.Test.YtkfddjopbocpkaaGreatDoorM22
set_option linter.unusedVariables false
set_option linter.unusedSimpArgs false
set_option maxRecDepth 100000
set_option maxHeartbeats 4000000
namespace Go.Proofs.YtkfddjopbocpkaaGreatDoor
open Go.Lib (hid)
open Go.RowKit
theorem ZfZ(b:Nat)(l:List UInt8)(x:BF)(at0:Nat)(ms0:List (Nat×List UInt8))(S O:Nat→Prop)(w:World)(hl:l.length≤99000)(ha:at0≤l.length)(hm:ms0.length=0)(hS:∀k,S k→k<w.heap.size)(hO:∀k,O k→k<w.heap.size)(W0:World)(hE:Env W0)(hW:Fr nob W0 w)(hSW:∀k,S k→W0.heap.size≤k)(h:ARd b l x ⟨at0,ms0,0⟩ S w)(A:AV)(at1:Nat)(ms1:List (Nat×List UInt8))(hR:Zar x l false ⟨at0,ms0,0⟩=.inr (A,⟨at1,ms1,0⟩))(hk:A.kind≠0)(B:AV)(at2:Nat)(ms2:List (Nat×List UInt8))(hR2:Zbs x l ⟨at1,ms1,0⟩=.inr (B,⟨at2,ms2,0⟩))(pQ:Nat)(hpQ:bhd l [32,9] at2=pQ)(h33:byt l pQ≠33):
 Calls Tryz.prog 51 #[.pointer (some ⟨b,0,none⟩)] w (ZaG b l x S O w (.inr (⟨A,B,false⟩,⟨pQ,ms2,0⟩))):=by
 have hl:l.length≤100000:=Nat.le_trans hl (by decide);obtain⟨w1,hw1⟩:∃w1,w1=w.alloc (.cells zG 30):=⟨_,rfl⟩;have f1:Fr nob w w1:=by rw[hw1];exact(Fr.refl _ _).alloc _
 have hz:w1.heap[w.heap.size]? =some (.cells zG 30 (0,0)):=by rw[hw1];exact newAt _ _
 have hsz:w1.heap.size=w.heap.size+1:=by rw[hw1];simp
 have h1:=h.on f1;have hSL:∀k,S k→k<w1.heap.size:=fun k hk=>by have:=hS k hk;omega
 have hOL:∀k,GS O w.heap.size k→k<w1.heap.size:=fun k hk=>by
  rcases hk with hk|hk
  ·have:=hO k hk;omega
  ·have hk:k=w.heap.size:=hk;omega
 have HAD:=hid (Zad b l x false ⟨at0,ms0,0⟩ S (GS O w.heap.size) w1 (by omega) ha (by show ms0.length≤_;omega) rfl hSL hOL W0 hE (hW.trans' f1) hSW h1);have HW1:=hid hw1;have HS:=hid hS;have F1:=hid f1;have HZ:=hid hz;have HLT:=hid (lt_heap hz);have HSL:=hid hSL;have HE:=hid hE;have HWF:=hid (hW.trans' f1);have HSW:=hid hSW;have HOL:=hid hOL;clear h h1 hw1 hS f1 hz hO hE hW hSW hsz hSL hOL;have hfw:=Zae (s:=⟨at0,ms0,0⟩) ha rfl hR;have h1l:at1≤l.length:=hfw.le;have h1m:ms1.length≤99001:=by have:=hfw.mks;simp only at this;omega
 rw[hR]at HAD;clear hR hfw;have hk0:(A.kind==0)=false:=by simpa using hk
 clear hk;have HPD:=hid (fun w2 w3 S1 u1 (hS':∀k,S1 k→k<w3.heap.size) (hO':∀k,GS O w.heap.size k→k<w3.heap.size) (hW':Fr nob W0 w3) (hSW':∀k,S1 k→W0.heap.size≤k) (h:ARd b l x ⟨at1,ms1,0⟩ S1 w3) (ng:¬S1 w2) hg=>Zd5 b l x ⟨at1,ms1,0⟩ S1 (GS O w.heap.size) w2 A.kind A.line A.text u1 w3 hl h1l (by show ms1.length≤_;omega) rfl hS' hO' W0 HE.out hW' hSW' h ng hg);have hfw:=pairD_in hR2;have h2l:at2≤l.length:=hfw.le;rw[hR2]at HPD;clear hR2 hfw;have hpQl:pQ≤l.length:=by rw[←hpQ];exact bhd_le _ _ _
 have HPQ:=hid hpQ;obtain⟨c1,hc1⟩:∃c1,byt l pQ=c1:=⟨_,rfl⟩;have n33:((c1.toNat:Int)==33)=false:=by
  have:c1.toNat≠33:=fun h=>h33 (hc1.trans (UInt8.toNat_inj.1 h));simp;omega
 have HC1:=hid hc1;clear h33 hc1 hpQ;go_enter Tryz.func51,Tryz.ntmps51
 go_wp2_with(rw[←HW1.out])
 refine HAD.out.mono ?_;intro e w2 he;obtain⟨v,S1,rfl,⟨u1,rfl,hrn⟩,h2,st2⟩:=he;have hlt1:=st2.lt HSL.out;have hsh1:=hrn.shape;obtain⟨w3,hw3⟩:∃w3,w3=w2.alloc (.cells #[.int .i64 A.kind,.int .i64 A.line,.string ⟨A.text.toArray⟩,u1,.int .i64 0,.int .i64 0,.string ⟨#[]⟩,.nilIface,.bool false] 30):=⟨_,rfl⟩;have f3:Fr nob w2 w3:=by rw[hw3];exact(Fr.refl _ _).alloc _
 have hg3:w3.heap[w2.heap.size]? =some (.cells #[.int .i64 A.kind,.int .i64 A.line,.string ⟨A.text.toArray⟩,u1,.int .i64 0,.int .i64 0,.string ⟨#[]⟩,.nilIface,.bool false] 30 (0,0)):=by rw[hw3];exact newAt _ _
 have ng3:¬S1 w2.heap.size:=fun h=>Nat.lt_irrefl _ (hlt1 _ h);have h3:=h2.on f3;have hge:w1.heap.size≤w2.heap.size:=st2.fr.size;have st3:Stp S w1 (GS S1 w2.heap.size) w3:=(st2.trans (Stp.of f3)).plus hge (lt_heap hg3);have hr1:RN (SO (GS S1 w2.heap.size) (GS O w.heap.size)) w3 A.tree u1:=RN.keep f3 (fun _ _ x=>x.elim) (fun k hk hx=>by
  rcases hx with(hx|hx)|hx
  ·exact .inl hx
  ·have hx:k=w2.heap.size:=hx;omega
  ·exact .inr hx) _ _ hrn
 have HW3:=hid hw3;obtain⟨mv3,h35⟩:=h3;have r3:=Zd h35.blk _ (Fr.refl _ _);have rg3:=Zj hg3 _ (Fr.refl _ _);have HPR:=hid (HPD.out w2.heap.size w3 S1 u1 (fun k hk=>by have:=hlt1 k hk;have:=f3.size;omega) (fun k hk=>by have:=HOL.out k hk;have:=f3.size;omega) ((st2.trans (Stp.of f3)).from HWF.out HSW.out) (fun k hk=>by by_cases h:k<w1.heap.size;exact HSW.out k (st2.old k h hk);have:=HWF.out.size;omega) ⟨mv3,h35⟩ ng3 hg3);have ST3:=hid st3;have R1:=hid hr1;clear hrn h2 st2 hw3 f3 h35 hg3 ng3 st3 hge hlt1 hr1;rcases hsh1 with rfl|⟨i1,y1,rfl⟩
 ·skip
  go_wp2_with(rw[←HW3.out])
  refine HPR.out.mono ?_;rintro e wP ⟨rfl,S2,u2,hP,hng,st4,hgb,hr2⟩;have hst:=ST3.out.trans st4;have hr1:=st4.rn R1.out;have hr2:RN (SO (GS S2 w2.heap.size) (GS O w.heap.size)) wP B.tree u2:=RN.keep (Fr.refl nob wP) (fun _ _ x=>x.elim) (fun k _ hx=>by
   rcases hx with(hx|hx)|hx
   ·exact .inl hx
   ·exact .inr (.inr hx)
   ·exact .inr (.inl hx)) _ _ hr2
  have hsh2:=hr2.shape;clear st4 r3 rg3;rcases hsh2 with rfl|⟨i2,y2,rfl⟩
  ·skip
   obtain⟨mv2,hP5⟩:=hP;have rP:=Zd hP5.blk _ (Fr.refl _ _);have HBL:=hid (Zi b l x ⟨at2,ms2,0⟩ S2 wP hl h2l ⟨mv2,hP5⟩);have HGB:=hid hgb;have HNG:=hid hng;have HST:=hid hst;have HR1:=hid hr1;have HR2:=hid hr2;have HLG:=hid (lt_heap hgb);have rgP:=Zj hgb _ (Fr.refl _ _);clear hP5 hgb hng hst hr1 hr2
   go_wp2_with fail
   refine HBL.out.mono ?_;rintro e wQ ⟨rfl,hQ,stQ⟩;rw[show bhd l [32,9] (AdS.mk at2 ms2 0).at_=pQ from HPQ.out]at hQ;have hQ:ARd b l x ⟨pQ,ms2,0⟩ S2 wQ:=hQ;have HQ:=hid hQ;have STQ:=hid (stQ.gs HLG.out);have HNX:=hid (by have:=Zq b l x ⟨pQ,ms2,0⟩ S2 wQ (by omega) hQ;simp only at this;rw[HC1.out]at this;exact this);have HGQ:=hid (stQ.fr.heap HGB.out HNG.out);clear hQ stQ rP rgP
   go_wp2_with fail
   refine HNX.out.mono ?_;rintro e wR ⟨rfl,fR⟩;have hX:=HQ.out.on fR;have hgZ:=fR.heap HGQ.out (fun x=>x);have stl:=STQ.out.trans (Stp.of fR);clear fR;have rgZ:=Zj hgZ _ (Fr.refl _ _);have st:=HST.out.trans stl;have hzZ:=Za0 rfl HS.out HZ.out st;have rz:=Zj hzZ _ (Fr.refl _ _);have q1:=hid (ZP hX (fun h=>ZD HLT.out HS.out st h) (.int .i64 A.kind) (.int .i64 A.line) (.string ⟨A.text.toArray⟩) .nilIface (.int .i64 B.kind) (.int .i64 B.line) (.string ⟨B.text.toArray⟩) .nilIface (.bool false));have q2:=hid (ZQ F1.out rfl st (.int .i64 A.kind) (.int .i64 A.line) (.string ⟨A.text.toArray⟩) .nilIface (.int .i64 B.kind) (.int .i64 B.line) (.string ⟨B.text.toArray⟩) .nilIface (.bool false));have HZF:=hid (Zf hzZ (.int .i64 A.kind) (.int .i64 A.line) (.string ⟨A.text.toArray⟩) .nilIface (.int .i64 B.kind) (.int .i64 B.line) (.string ⟨B.text.toArray⟩) .nilIface (.bool false))
   have q3:=hid (ZA (stl.rn HR1.out) (.int .i64 A.kind) (.int .i64 A.line) (.string ⟨A.text.toArray⟩) .nilIface (.int .i64 B.kind) (.int .i64 B.line) (.string ⟨B.text.toArray⟩) .nilIface (.bool false));have q4:=hid (ZA (stl.rn HR2.out) (.int .i64 A.kind) (.int .i64 A.line) (.string ⟨A.text.toArray⟩) .nilIface (.int .i64 B.kind) (.int .i64 B.line) (.string ⟨B.text.toArray⟩) .nilIface (.bool false));clear hX st stl hzZ hgZ;go_wp2
   (try simp only[Exit.inBlock,Exit.then])
   exact bodyPost_ret (Zr rfl rfl HZF.out rfl rfl rfl rfl rfl rfl rfl rfl rfl) rfl ⟨_,_,rfl,⟨_,_,rfl,q3.out,q4.out⟩,q1.out,q2.out⟩
  ·skip
   obtain⟨mv2,hP5⟩:=hP;have rP:=Zd hP5.blk _ (Fr.refl _ _);have HBL:=hid (Zi b l x ⟨at2,ms2,0⟩ S2 wP hl h2l ⟨mv2,hP5⟩);have HGB:=hid hgb;have HNG:=hid hng;have HST:=hid hst;have HR1:=hid hr1;have HR2:=hid hr2;have HLG:=hid (lt_heap hgb);have rgP:=Zj hgb _ (Fr.refl _ _);clear hP5 hgb hng hst hr1 hr2
   go_wp2_with fail
   refine HBL.out.mono ?_;rintro e wQ ⟨rfl,hQ,stQ⟩;rw[show bhd l [32,9] (AdS.mk at2 ms2 0).at_=pQ from HPQ.out]at hQ;have hQ:ARd b l x ⟨pQ,ms2,0⟩ S2 wQ:=hQ;have HQ:=hid hQ;have STQ:=hid (stQ.gs HLG.out);have HNX:=hid (by have:=Zq b l x ⟨pQ,ms2,0⟩ S2 wQ (by omega) hQ;simp only at this;rw[HC1.out]at this;exact this);have HGQ:=hid (stQ.fr.heap HGB.out HNG.out);clear hQ stQ rP rgP
   go_wp2_with fail
   refine HNX.out.mono ?_;rintro e wR ⟨rfl,fR⟩;have hX:=HQ.out.on fR;have hgZ:=fR.heap HGQ.out (fun x=>x);have stl:=STQ.out.trans (Stp.of fR);clear fR;have rgZ:=Zj hgZ _ (Fr.refl _ _);have st:=HST.out.trans stl;have hzZ:=Za0 rfl HS.out HZ.out st;have rz:=Zj hzZ _ (Fr.refl _ _);have q1:=hid (ZP hX (fun h=>ZD HLT.out HS.out st h) (.int .i64 A.kind) (.int .i64 A.line) (.string ⟨A.text.toArray⟩) .nilIface (.int .i64 B.kind) (.int .i64 B.line) (.string ⟨B.text.toArray⟩) (.iface i2 y2) (.bool false));have q2:=hid (ZQ F1.out rfl st (.int .i64 A.kind) (.int .i64 A.line) (.string ⟨A.text.toArray⟩) .nilIface (.int .i64 B.kind) (.int .i64 B.line) (.string ⟨B.text.toArray⟩) (.iface i2 y2) (.bool false));have HZF:=hid (Zf hzZ (.int .i64 A.kind) (.int .i64 A.line) (.string ⟨A.text.toArray⟩) .nilIface (.int .i64 B.kind) (.int .i64 B.line) (.string ⟨B.text.toArray⟩) (.iface i2 y2) (.bool false))
   have q3:=hid (ZA (stl.rn HR1.out) (.int .i64 A.kind) (.int .i64 A.line) (.string ⟨A.text.toArray⟩) .nilIface (.int .i64 B.kind) (.int .i64 B.line) (.string ⟨B.text.toArray⟩) (.iface i2 y2) (.bool false));have q4:=hid (ZA (stl.rn HR2.out) (.int .i64 A.kind) (.int .i64 A.line) (.string ⟨A.text.toArray⟩) .nilIface (.int .i64 B.kind) (.int .i64 B.line) (.string ⟨B.text.toArray⟩) (.iface i2 y2) (.bool false));clear hX st stl hzZ hgZ;go_wp2
   (try simp only[Exit.inBlock,Exit.then])
   exact bodyPost_ret (Zr rfl rfl HZF.out rfl rfl rfl rfl rfl rfl rfl rfl rfl) rfl ⟨_,_,rfl,⟨_,_,rfl,q3.out,q4.out⟩,q1.out,q2.out⟩
 ·skip
  go_wp2_with(rw[←HW3.out])
  refine HPR.out.mono ?_;rintro e wP ⟨rfl,S2,u2,hP,hng,st4,hgb,hr2⟩;have hst:=ST3.out.trans st4;have hr1:=st4.rn R1.out;have hr2:RN (SO (GS S2 w2.heap.size) (GS O w.heap.size)) wP B.tree u2:=RN.keep (Fr.refl nob wP) (fun _ _ x=>x.elim) (fun k _ hx=>by
   rcases hx with(hx|hx)|hx
   ·exact .inl hx
   ·exact .inr (.inr hx)
   ·exact .inr (.inl hx)) _ _ hr2
  have hsh2:=hr2.shape;clear st4 r3 rg3;rcases hsh2 with rfl|⟨i2,y2,rfl⟩
  ·skip
   obtain⟨mv2,hP5⟩:=hP;have rP:=Zd hP5.blk _ (Fr.refl _ _);have HBL:=hid (Zi b l x ⟨at2,ms2,0⟩ S2 wP hl h2l ⟨mv2,hP5⟩);have HGB:=hid hgb;have HNG:=hid hng;have HST:=hid hst;have HR1:=hid hr1;have HR2:=hid hr2;have HLG:=hid (lt_heap hgb);have rgP:=Zj hgb _ (Fr.refl _ _);clear hP5 hgb hng hst hr1 hr2
   go_wp2_with fail
   refine HBL.out.mono ?_;rintro e wQ ⟨rfl,hQ,stQ⟩;rw[show bhd l [32,9] (AdS.mk at2 ms2 0).at_=pQ from HPQ.out]at hQ;have hQ:ARd b l x ⟨pQ,ms2,0⟩ S2 wQ:=hQ;have HQ:=hid hQ;have STQ:=hid (stQ.gs HLG.out);have HNX:=hid (by have:=Zq b l x ⟨pQ,ms2,0⟩ S2 wQ (by omega) hQ;simp only at this;rw[HC1.out]at this;exact this);have HGQ:=hid (stQ.fr.heap HGB.out HNG.out);clear hQ stQ rP rgP
   go_wp2_with fail
   refine HNX.out.mono ?_;rintro e wR ⟨rfl,fR⟩;have hX:=HQ.out.on fR;have hgZ:=fR.heap HGQ.out (fun x=>x);have stl:=STQ.out.trans (Stp.of fR);clear fR;have rgZ:=Zj hgZ _ (Fr.refl _ _);have st:=HST.out.trans stl;have hzZ:=Za0 rfl HS.out HZ.out st;have rz:=Zj hzZ _ (Fr.refl _ _);have q1:=hid (ZP hX (fun h=>ZD HLT.out HS.out st h) (.int .i64 A.kind) (.int .i64 A.line) (.string ⟨A.text.toArray⟩) (.iface i1 y1) (.int .i64 B.kind) (.int .i64 B.line) (.string ⟨B.text.toArray⟩) .nilIface (.bool false));have q2:=hid (ZQ F1.out rfl st (.int .i64 A.kind) (.int .i64 A.line) (.string ⟨A.text.toArray⟩) (.iface i1 y1) (.int .i64 B.kind) (.int .i64 B.line) (.string ⟨B.text.toArray⟩) .nilIface (.bool false));have HZF:=hid (Zf hzZ (.int .i64 A.kind) (.int .i64 A.line) (.string ⟨A.text.toArray⟩) (.iface i1 y1) (.int .i64 B.kind) (.int .i64 B.line) (.string ⟨B.text.toArray⟩) .nilIface (.bool false))
   have q3:=hid (ZA (stl.rn HR1.out) (.int .i64 A.kind) (.int .i64 A.line) (.string ⟨A.text.toArray⟩) (.iface i1 y1) (.int .i64 B.kind) (.int .i64 B.line) (.string ⟨B.text.toArray⟩) .nilIface (.bool false));have q4:=hid (ZA (stl.rn HR2.out) (.int .i64 A.kind) (.int .i64 A.line) (.string ⟨A.text.toArray⟩) (.iface i1 y1) (.int .i64 B.kind) (.int .i64 B.line) (.string ⟨B.text.toArray⟩) .nilIface (.bool false));clear hX st stl hzZ hgZ;go_wp2
   (try simp only[Exit.inBlock,Exit.then])
   exact bodyPost_ret (Zr rfl rfl HZF.out rfl rfl rfl rfl rfl rfl rfl rfl rfl) rfl ⟨_,_,rfl,⟨_,_,rfl,q3.out,q4.out⟩,q1.out,q2.out⟩
  ·skip
   obtain⟨mv2,hP5⟩:=hP;have rP:=Zd hP5.blk _ (Fr.refl _ _);have HBL:=hid (Zi b l x ⟨at2,ms2,0⟩ S2 wP hl h2l ⟨mv2,hP5⟩);have HGB:=hid hgb;have HNG:=hid hng;have HST:=hid hst;have HR1:=hid hr1;have HR2:=hid hr2;have HLG:=hid (lt_heap hgb);have rgP:=Zj hgb _ (Fr.refl _ _);clear hP5 hgb hng hst hr1 hr2
   go_wp2_with fail
   refine HBL.out.mono ?_;rintro e wQ ⟨rfl,hQ,stQ⟩;rw[show bhd l [32,9] (AdS.mk at2 ms2 0).at_=pQ from HPQ.out]at hQ;have hQ:ARd b l x ⟨pQ,ms2,0⟩ S2 wQ:=hQ;have HQ:=hid hQ;have STQ:=hid (stQ.gs HLG.out);have HNX:=hid (by have:=Zq b l x ⟨pQ,ms2,0⟩ S2 wQ (by omega) hQ;simp only at this;rw[HC1.out]at this;exact this);have HGQ:=hid (stQ.fr.heap HGB.out HNG.out);clear hQ stQ rP rgP
   go_wp2_with fail
   refine HNX.out.mono ?_;rintro e wR ⟨rfl,fR⟩;have hX:=HQ.out.on fR;have hgZ:=fR.heap HGQ.out (fun x=>x);have stl:=STQ.out.trans (Stp.of fR);clear fR;have rgZ:=Zj hgZ _ (Fr.refl _ _);have st:=HST.out.trans stl;have hzZ:=Za0 rfl HS.out HZ.out st;have rz:=Zj hzZ _ (Fr.refl _ _);have q1:=hid (ZP hX (fun h=>ZD HLT.out HS.out st h) (.int .i64 A.kind) (.int .i64 A.line) (.string ⟨A.text.toArray⟩) (.iface i1 y1) (.int .i64 B.kind) (.int .i64 B.line) (.string ⟨B.text.toArray⟩) (.iface i2 y2) (.bool false));have q2:=hid (ZQ F1.out rfl st (.int .i64 A.kind) (.int .i64 A.line) (.string ⟨A.text.toArray⟩) (.iface i1 y1) (.int .i64 B.kind) (.int .i64 B.line) (.string ⟨B.text.toArray⟩) (.iface i2 y2) (.bool false));have HZF:=hid (Zf hzZ (.int .i64 A.kind) (.int .i64 A.line) (.string ⟨A.text.toArray⟩) (.iface i1 y1) (.int .i64 B.kind) (.int .i64 B.line) (.string ⟨B.text.toArray⟩) (.iface i2 y2) (.bool false))
   have q3:=hid (ZA (stl.rn HR1.out) (.int .i64 A.kind) (.int .i64 A.line) (.string ⟨A.text.toArray⟩) (.iface i1 y1) (.int .i64 B.kind) (.int .i64 B.line) (.string ⟨B.text.toArray⟩) (.iface i2 y2) (.bool false));have q4:=hid (ZA (stl.rn HR2.out) (.int .i64 A.kind) (.int .i64 A.line) (.string ⟨A.text.toArray⟩) (.iface i1 y1) (.int .i64 B.kind) (.int .i64 B.line) (.string ⟨B.text.toArray⟩) (.iface i2 y2) (.bool false));clear hX st stl hzZ hgZ;go_wp2
   (try simp only[Exit.inBlock,Exit.then])
   exact bodyPost_ret (Zr rfl rfl HZF.out rfl rfl rfl rfl rfl rfl rfl rfl rfl) rfl ⟨_,_,rfl,⟨_,_,rfl,q3.out,q4.out⟩,q1.out,q2.out⟩
theorem Zf0(b:Nat)(l:List UInt8)(x:BF)(at0:Nat)(ms0:List (Nat×List UInt8))(S O:Nat→Prop)(w:World)(hl:l.length≤99000)(ha:at0≤l.length)(hm:ms0.length=0)(hS:∀k,S k→k<w.heap.size)(hO:∀k,O k→k<w.heap.size)(W0:World)(hE:Env W0)(hW:Fr nob W0 w)(hSW:∀k,S k→W0.heap.size≤k)(h:ARd b l x ⟨at0,ms0,0⟩ S w)(A:AV)(at1:Nat)(ms1:List (Nat×List UInt8))(hR:Zar x l false ⟨at0,ms0,0⟩=.inr (A,⟨at1,ms1,0⟩))(hk:A.kind≠0)(B:AV)(at2:Nat)(ms2:List (Nat×List UInt8))(hR2:Zbs x l ⟨at1,ms1,0⟩=.inr (B,⟨at2,ms2,0⟩))(pQ:Nat)(hpQ:bhd l [32,9] at2=pQ)(pV:Nat)(h33:byt l pQ=33)(hpV:bhd l [32,9] (pQ+1)=pV)(h33':byt l pV≠33):
 Calls Tryz.prog 51 #[.pointer (some ⟨b,0,none⟩)] w (ZaG b l x S O w (.inr (⟨A,B,true⟩,⟨pV,ms2,0⟩))):=by
 have hl:l.length≤100000:=Nat.le_trans hl (by decide);obtain⟨w1,hw1⟩:∃w1,w1=w.alloc (.cells zG 30):=⟨_,rfl⟩;have f1:Fr nob w w1:=by rw[hw1];exact(Fr.refl _ _).alloc _
 have hz:w1.heap[w.heap.size]? =some (.cells zG 30 (0,0)):=by rw[hw1];exact newAt _ _
 have hsz:w1.heap.size=w.heap.size+1:=by rw[hw1];simp
 have h1:=h.on f1;have hSL:∀k,S k→k<w1.heap.size:=fun k hk=>by have:=hS k hk;omega
 have hOL:∀k,GS O w.heap.size k→k<w1.heap.size:=fun k hk=>by
  rcases hk with hk|hk
  ·have:=hO k hk;omega
  ·have hk:k=w.heap.size:=hk;omega
 have HAD:=hid (Zad b l x false ⟨at0,ms0,0⟩ S (GS O w.heap.size) w1 (by omega) ha (by show ms0.length≤_;omega) rfl hSL hOL W0 hE (hW.trans' f1) hSW h1);have HW1:=hid hw1;have HS:=hid hS;have F1:=hid f1;have HZ:=hid hz;have HLT:=hid (lt_heap hz);have HSL:=hid hSL;have HE:=hid hE;have HWF:=hid (hW.trans' f1);have HSW:=hid hSW;have HOL:=hid hOL;clear h h1 hw1 hS f1 hz hO hE hW hSW hsz hSL hOL;have hfw:=Zae (s:=⟨at0,ms0,0⟩) ha rfl hR;have h1l:at1≤l.length:=hfw.le;have h1m:ms1.length≤99001:=by have:=hfw.mks;simp only at this;omega
 rw[hR]at HAD;clear hR hfw;have hk0:(A.kind==0)=false:=by simpa using hk
 clear hk;have HPD:=hid (fun w2 w3 S1 u1 (hS':∀k,S1 k→k<w3.heap.size) (hO':∀k,GS O w.heap.size k→k<w3.heap.size) (hW':Fr nob W0 w3) (hSW':∀k,S1 k→W0.heap.size≤k) (h:ARd b l x ⟨at1,ms1,0⟩ S1 w3) (ng:¬S1 w2) hg=>Zd5 b l x ⟨at1,ms1,0⟩ S1 (GS O w.heap.size) w2 A.kind A.line A.text u1 w3 hl h1l (by show ms1.length≤_;omega) rfl hS' hO' W0 HE.out hW' hSW' h ng hg);have hfw:=pairD_in hR2;have h2l:at2≤l.length:=hfw.le;rw[hR2]at HPD;clear hR2 hfw;have hpQl:pQ≤l.length:=by rw[←hpQ];exact bhd_le _ _ _
 have HPQ:=hid hpQ;have hat:pQ<l.length:=Zba (by rw[h33];decide);have hwr:IntKind.i64.wrap ((pQ:Int)+1)=pQ+1:=IntWalk.i64_in _ (by omega);have hpVl:pV≤l.length:=by rw[←hpV];exact bhd_le _ _ _
 have HPV:=hid hpV;have HC1:=hid h33;obtain⟨c2,hc2⟩:∃c2,byt l pV=c2:=⟨_,rfl⟩;have n33:((c2.toNat:Int)==33)=false:=by
  have:c2.toNat≠33:=fun h=>h33' (hc2.trans (UInt8.toNat_inj.1 h));simp;omega
 have HC2:=hid hc2;clear h33 h33' hpV hpQ hc2;go_enter Tryz.func51,Tryz.ntmps51
 go_wp2_with(rw[←HW1.out])
 refine HAD.out.mono ?_;intro e w2 he;obtain⟨v,S1,rfl,⟨u1,rfl,hrn⟩,h2,st2⟩:=he;have hlt1:=st2.lt HSL.out;have hsh1:=hrn.shape;obtain⟨w3,hw3⟩:∃w3,w3=w2.alloc (.cells #[.int .i64 A.kind,.int .i64 A.line,.string ⟨A.text.toArray⟩,u1,.int .i64 0,.int .i64 0,.string ⟨#[]⟩,.nilIface,.bool false] 30):=⟨_,rfl⟩;have f3:Fr nob w2 w3:=by rw[hw3];exact(Fr.refl _ _).alloc _
 have hg3:w3.heap[w2.heap.size]? =some (.cells #[.int .i64 A.kind,.int .i64 A.line,.string ⟨A.text.toArray⟩,u1,.int .i64 0,.int .i64 0,.string ⟨#[]⟩,.nilIface,.bool false] 30 (0,0)):=by rw[hw3];exact newAt _ _
 have ng3:¬S1 w2.heap.size:=fun h=>Nat.lt_irrefl _ (hlt1 _ h);have h3:=h2.on f3;have hge:w1.heap.size≤w2.heap.size:=st2.fr.size;have st3:Stp S w1 (GS S1 w2.heap.size) w3:=(st2.trans (Stp.of f3)).plus hge (lt_heap hg3);have hr1:RN (SO (GS S1 w2.heap.size) (GS O w.heap.size)) w3 A.tree u1:=RN.keep f3 (fun _ _ x=>x.elim) (fun k hk hx=>by
  rcases hx with(hx|hx)|hx
  ·exact .inl hx
  ·have hx:k=w2.heap.size:=hx;omega
  ·exact .inr hx) _ _ hrn
 have HW3:=hid hw3;obtain⟨mv3,h35⟩:=h3;have r3:=Zd h35.blk _ (Fr.refl _ _);have rg3:=Zj hg3 _ (Fr.refl _ _);have HPR:=hid (HPD.out w2.heap.size w3 S1 u1 (fun k hk=>by have:=hlt1 k hk;have:=f3.size;omega) (fun k hk=>by have:=HOL.out k hk;have:=f3.size;omega) ((st2.trans (Stp.of f3)).from HWF.out HSW.out) (fun k hk=>by by_cases h:k<w1.heap.size;exact HSW.out k (st2.old k h hk);have:=HWF.out.size;omega) ⟨mv3,h35⟩ ng3 hg3);have ST3:=hid st3;have R1:=hid hr1;clear hrn h2 st2 hw3 f3 h35 hg3 ng3 st3 hge hlt1 hr1;rcases hsh1 with rfl|⟨i1,y1,rfl⟩
 ·skip
  go_wp2_with(rw[←HW3.out])
  refine HPR.out.mono ?_;rintro e wP ⟨rfl,S2,u2,hP,hng,st4,hgb,hr2⟩;have hst:=ST3.out.trans st4;have hr1:=st4.rn R1.out;have hr2:RN (SO (GS S2 w2.heap.size) (GS O w.heap.size)) wP B.tree u2:=RN.keep (Fr.refl nob wP) (fun _ _ x=>x.elim) (fun k _ hx=>by
   rcases hx with(hx|hx)|hx
   ·exact .inl hx
   ·exact .inr (.inr hx)
   ·exact .inr (.inl hx)) _ _ hr2
  have hsh2:=hr2.shape;clear st4 r3 rg3;rcases hsh2 with rfl|⟨i2,y2,rfl⟩
  ·skip
   obtain⟨mv2,hP5⟩:=hP;have rP:=Zd hP5.blk _ (Fr.refl _ _);have HBL:=hid (Zi b l x ⟨at2,ms2,0⟩ S2 wP hl h2l ⟨mv2,hP5⟩);have HGB:=hid hgb;have HNG:=hid hng;have HST:=hid hst;have HR1:=hid hr1;have HR2:=hid hr2;have HLG:=hid (lt_heap hgb);have rgP:=Zj hgb _ (Fr.refl _ _);clear hP5 hgb hng hst hr1 hr2
   go_wp2_with fail
   refine HBL.out.mono ?_;rintro e wQ ⟨rfl,hQ,stQ⟩;rw[show bhd l [32,9] (AdS.mk at2 ms2 0).at_=pQ from HPQ.out]at hQ;have hQ:ARd b l x ⟨pQ,ms2,0⟩ S2 wQ:=hQ;have HQ:=hid hQ;have STQ:=hid (stQ.gs HLG.out);have HNX:=hid (by have:=Zq b l x ⟨pQ,ms2,0⟩ S2 wQ (by omega) hQ;simp only at this;rw[HC1.out]at this;exact this);have HGQ:=hid (stQ.fr.heap HGB.out HNG.out);clear hQ stQ rP rgP
   go_wp2_with fail
   refine HNX.out.mono ?_;rintro e wR ⟨rfl,fR⟩;have hgR:=fR.heap HGQ.out (fun x=>x);have rgR:=Zj hgR _ (Fr.refl _ _);obtain⟨wS,hwS⟩:∃wS,wS=wR.setCell ⟨w2.heap.size,8,none⟩ (.bool true):=⟨_,rfl⟩;have fS:Fr (fun k=>k=w2.heap.size) wR wS:=by rw[hwS];exact(Fr.refl (fun k=>k=w2.heap.size) wR).setCell (p:=⟨w2.heap.size,8,none⟩) (fun _=>rfl) _
   have hsS:wS.heap.size=wR.heap.size:=by rw[hwS];simp[World.setCell]
   have hgS:wS.heap[w2.heap.size]? =some (.cells #[.int .i64 A.kind,.int .i64 A.line,.string ⟨A.text.toArray⟩,.nilIface,(.int .i64 B.kind),(.int .i64 B.line),(.string ⟨B.text.toArray⟩),.nilIface,.bool true] 30 (0,0)):=by rw[hwS];simpa using Za hgR 8 (.bool true)
   obtain⟨mvR,hR5⟩:=HQ.out.on fR;have hS5:=hR5.keep fS (fun e=>HNG.out (e▸hR5.me)) (fun k hk e=>HNG.out (e▸(hR5.nm k hk).2));have rS:=Zd hS5.blk _ (Fr.refl _ _);have hT5:=hS5.turned 1 (.int .i64 ((pQ:Int)+1)) ⟨pQ+1,ms2,0⟩ (by simp) rfl;have stT:=hS5.stp 1 (.int .i64 ((pQ:Int)+1));obtain⟨wT,hwT⟩:∃wT,wT=wS.setCell ⟨b,1,none⟩ (.int .i64 ((pQ:Int)+1)):=⟨_,rfl⟩;rw[←hwT]at hT5 stT;have hgT:=stT.fr.heap hgS HNG.out;have sST:Stp (GS S2 w2.heap.size) wR (GS S2 w2.heap.size) wS:=⟨fS.mono (fun _ _ e=>.inr e),fun _ _ h=>h,fun hl k hk=>by have:=hl k hk;omega⟩;have st0:=(STQ.out.trans (Stp.of fR)).trans (sST.trans (stT.gs (by have:=HLG.out;have:=STQ.out.fr.size;have:=fR.size;omega)));have HWS:=hid hwS;have HWT:=hid hwT;have HGT:=hid hgT;have ST0:=hid st0;have HBT:=hid (Zi b l x ⟨pQ+1,ms2,0⟩ S2 wT hl (by show pQ+1≤_;omega) ⟨mvR,hT5⟩);have HLT2:=hid (lt_heap hgT);clear hR5 hS5 hT5 stT hwS hwT hgR hgS hgT fS hsS sST st0 fR
   go_wp2_with(first|rw[←HWS.out]|rw[←HWT.out])
   refine HBT.out.mono ?_;rintro e wU ⟨rfl,hU,stU⟩;rw[show bhd l [32,9] (AdS.mk (pQ+1) ms2 0).at_=pV from HPV.out]at hU;have hU:ARd b l x ⟨pV,ms2,0⟩ S2 wU:=hU;have HU:=hid hU;have STU:=hid (ST0.out.trans (stU.gs HLT2.out));have HNU:=hid (by have:=Zq b l x ⟨pV,ms2,0⟩ S2 wU (by omega) hU;simp only at this;rw[HC2.out]at this;exact this);have HGU:=hid (stU.fr.heap HGT.out HNG.out);clear hU stU rgR rS
   go_wp2_with fail
   refine HNU.out.mono ?_;rintro e wV ⟨rfl,fV⟩;have hX:=HU.out.on fV;have hgZ:=fV.heap HGU.out (fun x=>x);have stl:=STU.out.trans (Stp.of fV);clear fV;have rgZ:=Zj hgZ _ (Fr.refl _ _);have st:=HST.out.trans stl;have hzZ:=Za0 rfl HS.out HZ.out st;have rz:=Zj hzZ _ (Fr.refl _ _);have q1:=hid (ZP hX (fun h=>ZD HLT.out HS.out st h) (.int .i64 A.kind) (.int .i64 A.line) (.string ⟨A.text.toArray⟩) .nilIface (.int .i64 B.kind) (.int .i64 B.line) (.string ⟨B.text.toArray⟩) .nilIface (.bool true));have q2:=hid (ZQ F1.out rfl st (.int .i64 A.kind) (.int .i64 A.line) (.string ⟨A.text.toArray⟩) .nilIface (.int .i64 B.kind) (.int .i64 B.line) (.string ⟨B.text.toArray⟩) .nilIface (.bool true));have HZF:=hid (Zf hzZ (.int .i64 A.kind) (.int .i64 A.line) (.string ⟨A.text.toArray⟩) .nilIface (.int .i64 B.kind) (.int .i64 B.line) (.string ⟨B.text.toArray⟩) .nilIface (.bool true))
   have q3:=hid (ZA (stl.rn HR1.out) (.int .i64 A.kind) (.int .i64 A.line) (.string ⟨A.text.toArray⟩) .nilIface (.int .i64 B.kind) (.int .i64 B.line) (.string ⟨B.text.toArray⟩) .nilIface (.bool true));have q4:=hid (ZA (stl.rn HR2.out) (.int .i64 A.kind) (.int .i64 A.line) (.string ⟨A.text.toArray⟩) .nilIface (.int .i64 B.kind) (.int .i64 B.line) (.string ⟨B.text.toArray⟩) .nilIface (.bool true));clear hX st stl hzZ hgZ;go_wp2
   (try simp only[Exit.inBlock,Exit.then])
   exact bodyPost_ret (Zr rfl rfl HZF.out rfl rfl rfl rfl rfl rfl rfl rfl rfl) rfl ⟨_,_,rfl,⟨_,_,rfl,q3.out,q4.out⟩,q1.out,q2.out⟩
  ·skip
   obtain⟨mv2,hP5⟩:=hP;have rP:=Zd hP5.blk _ (Fr.refl _ _);have HBL:=hid (Zi b l x ⟨at2,ms2,0⟩ S2 wP hl h2l ⟨mv2,hP5⟩);have HGB:=hid hgb;have HNG:=hid hng;have HST:=hid hst;have HR1:=hid hr1;have HR2:=hid hr2;have HLG:=hid (lt_heap hgb);have rgP:=Zj hgb _ (Fr.refl _ _);clear hP5 hgb hng hst hr1 hr2
   go_wp2_with fail
   refine HBL.out.mono ?_;rintro e wQ ⟨rfl,hQ,stQ⟩;rw[show bhd l [32,9] (AdS.mk at2 ms2 0).at_=pQ from HPQ.out]at hQ;have hQ:ARd b l x ⟨pQ,ms2,0⟩ S2 wQ:=hQ;have HQ:=hid hQ;have STQ:=hid (stQ.gs HLG.out);have HNX:=hid (by have:=Zq b l x ⟨pQ,ms2,0⟩ S2 wQ (by omega) hQ;simp only at this;rw[HC1.out]at this;exact this);have HGQ:=hid (stQ.fr.heap HGB.out HNG.out);clear hQ stQ rP rgP
   go_wp2_with fail
   refine HNX.out.mono ?_;rintro e wR ⟨rfl,fR⟩;have hgR:=fR.heap HGQ.out (fun x=>x);have rgR:=Zj hgR _ (Fr.refl _ _);obtain⟨wS,hwS⟩:∃wS,wS=wR.setCell ⟨w2.heap.size,8,none⟩ (.bool true):=⟨_,rfl⟩;have fS:Fr (fun k=>k=w2.heap.size) wR wS:=by rw[hwS];exact(Fr.refl (fun k=>k=w2.heap.size) wR).setCell (p:=⟨w2.heap.size,8,none⟩) (fun _=>rfl) _
   have hsS:wS.heap.size=wR.heap.size:=by rw[hwS];simp[World.setCell]
   have hgS:wS.heap[w2.heap.size]? =some (.cells #[.int .i64 A.kind,.int .i64 A.line,.string ⟨A.text.toArray⟩,.nilIface,(.int .i64 B.kind),(.int .i64 B.line),(.string ⟨B.text.toArray⟩),(.iface i2 y2),.bool true] 30 (0,0)):=by rw[hwS];simpa using Za hgR 8 (.bool true)
   obtain⟨mvR,hR5⟩:=HQ.out.on fR;have hS5:=hR5.keep fS (fun e=>HNG.out (e▸hR5.me)) (fun k hk e=>HNG.out (e▸(hR5.nm k hk).2));have rS:=Zd hS5.blk _ (Fr.refl _ _);have hT5:=hS5.turned 1 (.int .i64 ((pQ:Int)+1)) ⟨pQ+1,ms2,0⟩ (by simp) rfl;have stT:=hS5.stp 1 (.int .i64 ((pQ:Int)+1));obtain⟨wT,hwT⟩:∃wT,wT=wS.setCell ⟨b,1,none⟩ (.int .i64 ((pQ:Int)+1)):=⟨_,rfl⟩;rw[←hwT]at hT5 stT;have hgT:=stT.fr.heap hgS HNG.out;have sST:Stp (GS S2 w2.heap.size) wR (GS S2 w2.heap.size) wS:=⟨fS.mono (fun _ _ e=>.inr e),fun _ _ h=>h,fun hl k hk=>by have:=hl k hk;omega⟩;have st0:=(STQ.out.trans (Stp.of fR)).trans (sST.trans (stT.gs (by have:=HLG.out;have:=STQ.out.fr.size;have:=fR.size;omega)));have HWS:=hid hwS;have HWT:=hid hwT;have HGT:=hid hgT;have ST0:=hid st0;have HBT:=hid (Zi b l x ⟨pQ+1,ms2,0⟩ S2 wT hl (by show pQ+1≤_;omega) ⟨mvR,hT5⟩);have HLT2:=hid (lt_heap hgT);clear hR5 hS5 hT5 stT hwS hwT hgR hgS hgT fS hsS sST st0 fR
   go_wp2_with(first|rw[←HWS.out]|rw[←HWT.out])
   refine HBT.out.mono ?_;rintro e wU ⟨rfl,hU,stU⟩;rw[show bhd l [32,9] (AdS.mk (pQ+1) ms2 0).at_=pV from HPV.out]at hU;have hU:ARd b l x ⟨pV,ms2,0⟩ S2 wU:=hU;have HU:=hid hU;have STU:=hid (ST0.out.trans (stU.gs HLT2.out));have HNU:=hid (by have:=Zq b l x ⟨pV,ms2,0⟩ S2 wU (by omega) hU;simp only at this;rw[HC2.out]at this;exact this);have HGU:=hid (stU.fr.heap HGT.out HNG.out);clear hU stU rgR rS
   go_wp2_with fail
   refine HNU.out.mono ?_;rintro e wV ⟨rfl,fV⟩;have hX:=HU.out.on fV;have hgZ:=fV.heap HGU.out (fun x=>x);have stl:=STU.out.trans (Stp.of fV);clear fV;have rgZ:=Zj hgZ _ (Fr.refl _ _);have st:=HST.out.trans stl;have hzZ:=Za0 rfl HS.out HZ.out st;have rz:=Zj hzZ _ (Fr.refl _ _);have q1:=hid (ZP hX (fun h=>ZD HLT.out HS.out st h) (.int .i64 A.kind) (.int .i64 A.line) (.string ⟨A.text.toArray⟩) .nilIface (.int .i64 B.kind) (.int .i64 B.line) (.string ⟨B.text.toArray⟩) (.iface i2 y2) (.bool true));have q2:=hid (ZQ F1.out rfl st (.int .i64 A.kind) (.int .i64 A.line) (.string ⟨A.text.toArray⟩) .nilIface (.int .i64 B.kind) (.int .i64 B.line) (.string ⟨B.text.toArray⟩) (.iface i2 y2) (.bool true));have HZF:=hid (Zf hzZ (.int .i64 A.kind) (.int .i64 A.line) (.string ⟨A.text.toArray⟩) .nilIface (.int .i64 B.kind) (.int .i64 B.line) (.string ⟨B.text.toArray⟩) (.iface i2 y2) (.bool true))
   have q3:=hid (ZA (stl.rn HR1.out) (.int .i64 A.kind) (.int .i64 A.line) (.string ⟨A.text.toArray⟩) .nilIface (.int .i64 B.kind) (.int .i64 B.line) (.string ⟨B.text.toArray⟩) (.iface i2 y2) (.bool true));have q4:=hid (ZA (stl.rn HR2.out) (.int .i64 A.kind) (.int .i64 A.line) (.string ⟨A.text.toArray⟩) .nilIface (.int .i64 B.kind) (.int .i64 B.line) (.string ⟨B.text.toArray⟩) (.iface i2 y2) (.bool true));clear hX st stl hzZ hgZ;go_wp2
   (try simp only[Exit.inBlock,Exit.then])
   exact bodyPost_ret (Zr rfl rfl HZF.out rfl rfl rfl rfl rfl rfl rfl rfl rfl) rfl ⟨_,_,rfl,⟨_,_,rfl,q3.out,q4.out⟩,q1.out,q2.out⟩
 ·skip
  go_wp2_with(rw[←HW3.out])
  refine HPR.out.mono ?_;rintro e wP ⟨rfl,S2,u2,hP,hng,st4,hgb,hr2⟩;have hst:=ST3.out.trans st4;have hr1:=st4.rn R1.out;have hr2:RN (SO (GS S2 w2.heap.size) (GS O w.heap.size)) wP B.tree u2:=RN.keep (Fr.refl nob wP) (fun _ _ x=>x.elim) (fun k _ hx=>by
   rcases hx with(hx|hx)|hx
   ·exact .inl hx
   ·exact .inr (.inr hx)
   ·exact .inr (.inl hx)) _ _ hr2
  have hsh2:=hr2.shape;clear st4 r3 rg3;rcases hsh2 with rfl|⟨i2,y2,rfl⟩
  ·skip
   obtain⟨mv2,hP5⟩:=hP;have rP:=Zd hP5.blk _ (Fr.refl _ _);have HBL:=hid (Zi b l x ⟨at2,ms2,0⟩ S2 wP hl h2l ⟨mv2,hP5⟩);have HGB:=hid hgb;have HNG:=hid hng;have HST:=hid hst;have HR1:=hid hr1;have HR2:=hid hr2;have HLG:=hid (lt_heap hgb);have rgP:=Zj hgb _ (Fr.refl _ _);clear hP5 hgb hng hst hr1 hr2
   go_wp2_with fail
   refine HBL.out.mono ?_;rintro e wQ ⟨rfl,hQ,stQ⟩;rw[show bhd l [32,9] (AdS.mk at2 ms2 0).at_=pQ from HPQ.out]at hQ;have hQ:ARd b l x ⟨pQ,ms2,0⟩ S2 wQ:=hQ;have HQ:=hid hQ;have STQ:=hid (stQ.gs HLG.out);have HNX:=hid (by have:=Zq b l x ⟨pQ,ms2,0⟩ S2 wQ (by omega) hQ;simp only at this;rw[HC1.out]at this;exact this);have HGQ:=hid (stQ.fr.heap HGB.out HNG.out);clear hQ stQ rP rgP
   go_wp2_with fail
   refine HNX.out.mono ?_;rintro e wR ⟨rfl,fR⟩;have hgR:=fR.heap HGQ.out (fun x=>x);have rgR:=Zj hgR _ (Fr.refl _ _);obtain⟨wS,hwS⟩:∃wS,wS=wR.setCell ⟨w2.heap.size,8,none⟩ (.bool true):=⟨_,rfl⟩;have fS:Fr (fun k=>k=w2.heap.size) wR wS:=by rw[hwS];exact(Fr.refl (fun k=>k=w2.heap.size) wR).setCell (p:=⟨w2.heap.size,8,none⟩) (fun _=>rfl) _
   have hsS:wS.heap.size=wR.heap.size:=by rw[hwS];simp[World.setCell]
   have hgS:wS.heap[w2.heap.size]? =some (.cells #[.int .i64 A.kind,.int .i64 A.line,.string ⟨A.text.toArray⟩,(.iface i1 y1),(.int .i64 B.kind),(.int .i64 B.line),(.string ⟨B.text.toArray⟩),.nilIface,.bool true] 30 (0,0)):=by rw[hwS];simpa using Za hgR 8 (.bool true)
   obtain⟨mvR,hR5⟩:=HQ.out.on fR;have hS5:=hR5.keep fS (fun e=>HNG.out (e▸hR5.me)) (fun k hk e=>HNG.out (e▸(hR5.nm k hk).2));have rS:=Zd hS5.blk _ (Fr.refl _ _);have hT5:=hS5.turned 1 (.int .i64 ((pQ:Int)+1)) ⟨pQ+1,ms2,0⟩ (by simp) rfl;have stT:=hS5.stp 1 (.int .i64 ((pQ:Int)+1));obtain⟨wT,hwT⟩:∃wT,wT=wS.setCell ⟨b,1,none⟩ (.int .i64 ((pQ:Int)+1)):=⟨_,rfl⟩;rw[←hwT]at hT5 stT;have hgT:=stT.fr.heap hgS HNG.out;have sST:Stp (GS S2 w2.heap.size) wR (GS S2 w2.heap.size) wS:=⟨fS.mono (fun _ _ e=>.inr e),fun _ _ h=>h,fun hl k hk=>by have:=hl k hk;omega⟩;have st0:=(STQ.out.trans (Stp.of fR)).trans (sST.trans (stT.gs (by have:=HLG.out;have:=STQ.out.fr.size;have:=fR.size;omega)));have HWS:=hid hwS;have HWT:=hid hwT;have HGT:=hid hgT;have ST0:=hid st0;have HBT:=hid (Zi b l x ⟨pQ+1,ms2,0⟩ S2 wT hl (by show pQ+1≤_;omega) ⟨mvR,hT5⟩);have HLT2:=hid (lt_heap hgT);clear hR5 hS5 hT5 stT hwS hwT hgR hgS hgT fS hsS sST st0 fR
   go_wp2_with(first|rw[←HWS.out]|rw[←HWT.out])
   refine HBT.out.mono ?_;rintro e wU ⟨rfl,hU,stU⟩;rw[show bhd l [32,9] (AdS.mk (pQ+1) ms2 0).at_=pV from HPV.out]at hU;have hU:ARd b l x ⟨pV,ms2,0⟩ S2 wU:=hU;have HU:=hid hU;have STU:=hid (ST0.out.trans (stU.gs HLT2.out));have HNU:=hid (by have:=Zq b l x ⟨pV,ms2,0⟩ S2 wU (by omega) hU;simp only at this;rw[HC2.out]at this;exact this);have HGU:=hid (stU.fr.heap HGT.out HNG.out);clear hU stU rgR rS
   go_wp2_with fail
   refine HNU.out.mono ?_;rintro e wV ⟨rfl,fV⟩;have hX:=HU.out.on fV;have hgZ:=fV.heap HGU.out (fun x=>x);have stl:=STU.out.trans (Stp.of fV);clear fV;have rgZ:=Zj hgZ _ (Fr.refl _ _);have st:=HST.out.trans stl;have hzZ:=Za0 rfl HS.out HZ.out st;have rz:=Zj hzZ _ (Fr.refl _ _);have q1:=hid (ZP hX (fun h=>ZD HLT.out HS.out st h) (.int .i64 A.kind) (.int .i64 A.line) (.string ⟨A.text.toArray⟩) (.iface i1 y1) (.int .i64 B.kind) (.int .i64 B.line) (.string ⟨B.text.toArray⟩) .nilIface (.bool true));have q2:=hid (ZQ F1.out rfl st (.int .i64 A.kind) (.int .i64 A.line) (.string ⟨A.text.toArray⟩) (.iface i1 y1) (.int .i64 B.kind) (.int .i64 B.line) (.string ⟨B.text.toArray⟩) .nilIface (.bool true));have HZF:=hid (Zf hzZ (.int .i64 A.kind) (.int .i64 A.line) (.string ⟨A.text.toArray⟩) (.iface i1 y1) (.int .i64 B.kind) (.int .i64 B.line) (.string ⟨B.text.toArray⟩) .nilIface (.bool true))
   have q3:=hid (ZA (stl.rn HR1.out) (.int .i64 A.kind) (.int .i64 A.line) (.string ⟨A.text.toArray⟩) (.iface i1 y1) (.int .i64 B.kind) (.int .i64 B.line) (.string ⟨B.text.toArray⟩) .nilIface (.bool true));have q4:=hid (ZA (stl.rn HR2.out) (.int .i64 A.kind) (.int .i64 A.line) (.string ⟨A.text.toArray⟩) (.iface i1 y1) (.int .i64 B.kind) (.int .i64 B.line) (.string ⟨B.text.toArray⟩) .nilIface (.bool true));clear hX st stl hzZ hgZ;go_wp2
   (try simp only[Exit.inBlock,Exit.then])
   exact bodyPost_ret (Zr rfl rfl HZF.out rfl rfl rfl rfl rfl rfl rfl rfl rfl) rfl ⟨_,_,rfl,⟨_,_,rfl,q3.out,q4.out⟩,q1.out,q2.out⟩
  ·skip
   obtain⟨mv2,hP5⟩:=hP;have rP:=Zd hP5.blk _ (Fr.refl _ _);have HBL:=hid (Zi b l x ⟨at2,ms2,0⟩ S2 wP hl h2l ⟨mv2,hP5⟩);have HGB:=hid hgb;have HNG:=hid hng;have HST:=hid hst;have HR1:=hid hr1;have HR2:=hid hr2;have HLG:=hid (lt_heap hgb);have rgP:=Zj hgb _ (Fr.refl _ _);clear hP5 hgb hng hst hr1 hr2
   go_wp2_with fail
   refine HBL.out.mono ?_;rintro e wQ ⟨rfl,hQ,stQ⟩;rw[show bhd l [32,9] (AdS.mk at2 ms2 0).at_=pQ from HPQ.out]at hQ;have hQ:ARd b l x ⟨pQ,ms2,0⟩ S2 wQ:=hQ;have HQ:=hid hQ;have STQ:=hid (stQ.gs HLG.out);have HNX:=hid (by have:=Zq b l x ⟨pQ,ms2,0⟩ S2 wQ (by omega) hQ;simp only at this;rw[HC1.out]at this;exact this);have HGQ:=hid (stQ.fr.heap HGB.out HNG.out);clear hQ stQ rP rgP
   go_wp2_with fail
   refine HNX.out.mono ?_;rintro e wR ⟨rfl,fR⟩;have hgR:=fR.heap HGQ.out (fun x=>x);have rgR:=Zj hgR _ (Fr.refl _ _);obtain⟨wS,hwS⟩:∃wS,wS=wR.setCell ⟨w2.heap.size,8,none⟩ (.bool true):=⟨_,rfl⟩;have fS:Fr (fun k=>k=w2.heap.size) wR wS:=by rw[hwS];exact(Fr.refl (fun k=>k=w2.heap.size) wR).setCell (p:=⟨w2.heap.size,8,none⟩) (fun _=>rfl) _
   have hsS:wS.heap.size=wR.heap.size:=by rw[hwS];simp[World.setCell]
   have hgS:wS.heap[w2.heap.size]? =some (.cells #[.int .i64 A.kind,.int .i64 A.line,.string ⟨A.text.toArray⟩,(.iface i1 y1),(.int .i64 B.kind),(.int .i64 B.line),(.string ⟨B.text.toArray⟩),(.iface i2 y2),.bool true] 30 (0,0)):=by rw[hwS];simpa using Za hgR 8 (.bool true)
   obtain⟨mvR,hR5⟩:=HQ.out.on fR;have hS5:=hR5.keep fS (fun e=>HNG.out (e▸hR5.me)) (fun k hk e=>HNG.out (e▸(hR5.nm k hk).2));have rS:=Zd hS5.blk _ (Fr.refl _ _);have hT5:=hS5.turned 1 (.int .i64 ((pQ:Int)+1)) ⟨pQ+1,ms2,0⟩ (by simp) rfl;have stT:=hS5.stp 1 (.int .i64 ((pQ:Int)+1));obtain⟨wT,hwT⟩:∃wT,wT=wS.setCell ⟨b,1,none⟩ (.int .i64 ((pQ:Int)+1)):=⟨_,rfl⟩;rw[←hwT]at hT5 stT;have hgT:=stT.fr.heap hgS HNG.out;have sST:Stp (GS S2 w2.heap.size) wR (GS S2 w2.heap.size) wS:=⟨fS.mono (fun _ _ e=>.inr e),fun _ _ h=>h,fun hl k hk=>by have:=hl k hk;omega⟩;have st0:=(STQ.out.trans (Stp.of fR)).trans (sST.trans (stT.gs (by have:=HLG.out;have:=STQ.out.fr.size;have:=fR.size;omega)));have HWS:=hid hwS;have HWT:=hid hwT;have HGT:=hid hgT;have ST0:=hid st0;have HBT:=hid (Zi b l x ⟨pQ+1,ms2,0⟩ S2 wT hl (by show pQ+1≤_;omega) ⟨mvR,hT5⟩);have HLT2:=hid (lt_heap hgT);clear hR5 hS5 hT5 stT hwS hwT hgR hgS hgT fS hsS sST st0 fR
   go_wp2_with(first|rw[←HWS.out]|rw[←HWT.out])
   refine HBT.out.mono ?_;rintro e wU ⟨rfl,hU,stU⟩;rw[show bhd l [32,9] (AdS.mk (pQ+1) ms2 0).at_=pV from HPV.out]at hU;have hU:ARd b l x ⟨pV,ms2,0⟩ S2 wU:=hU;have HU:=hid hU;have STU:=hid (ST0.out.trans (stU.gs HLT2.out));have HNU:=hid (by have:=Zq b l x ⟨pV,ms2,0⟩ S2 wU (by omega) hU;simp only at this;rw[HC2.out]at this;exact this);have HGU:=hid (stU.fr.heap HGT.out HNG.out);clear hU stU rgR rS
   go_wp2_with fail
   refine HNU.out.mono ?_;rintro e wV ⟨rfl,fV⟩;have hX:=HU.out.on fV;have hgZ:=fV.heap HGU.out (fun x=>x);have stl:=STU.out.trans (Stp.of fV);clear fV;have rgZ:=Zj hgZ _ (Fr.refl _ _);have st:=HST.out.trans stl;have hzZ:=Za0 rfl HS.out HZ.out st;have rz:=Zj hzZ _ (Fr.refl _ _);have q1:=hid (ZP hX (fun h=>ZD HLT.out HS.out st h) (.int .i64 A.kind) (.int .i64 A.line) (.string ⟨A.text.toArray⟩) (.iface i1 y1) (.int .i64 B.kind) (.int .i64 B.line) (.string ⟨B.text.toArray⟩) (.iface i2 y2) (.bool true));have q2:=hid (ZQ F1.out rfl st (.int .i64 A.kind) (.int .i64 A.line) (.string ⟨A.text.toArray⟩) (.iface i1 y1) (.int .i64 B.kind) (.int .i64 B.line) (.string ⟨B.text.toArray⟩) (.iface i2 y2) (.bool true));have HZF:=hid (Zf hzZ (.int .i64 A.kind) (.int .i64 A.line) (.string ⟨A.text.toArray⟩) (.iface i1 y1) (.int .i64 B.kind) (.int .i64 B.line) (.string ⟨B.text.toArray⟩) (.iface i2 y2) (.bool true))
   have q3:=hid (ZA (stl.rn HR1.out) (.int .i64 A.kind) (.int .i64 A.line) (.string ⟨A.text.toArray⟩) (.iface i1 y1) (.int .i64 B.kind) (.int .i64 B.line) (.string ⟨B.text.toArray⟩) (.iface i2 y2) (.bool true));have q4:=hid (ZA (stl.rn HR2.out) (.int .i64 A.kind) (.int .i64 A.line) (.string ⟨A.text.toArray⟩) (.iface i1 y1) (.int .i64 B.kind) (.int .i64 B.line) (.string ⟨B.text.toArray⟩) (.iface i2 y2) (.bool true));clear hX st stl hzZ hgZ;go_wp2
   (try simp only[Exit.inBlock,Exit.then])
   exact bodyPost_ret (Zr rfl rfl HZF.out rfl rfl rfl rfl rfl rfl rfl rfl rfl) rfl ⟨_,_,rfl,⟨_,_,rfl,q3.out,q4.out⟩,q1.out,q2.out⟩
end Go.Proofs.YtkfddjopbocpkaaGreatDoor
