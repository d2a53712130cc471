/- Lemmas of this claim. -/
import Derived.Test.YtkfddjopbocpkaaGreatDoorM20
set_option linter.unusedVariables false
set_option linter.unusedSimpArgs false
set_option maxRecDepth 100000
set_option maxHeartbeats 4000000
namespace Go.Proofs.YtkfddjopbocpkaaGreatDoor
open Go.Lib (hid)
open Go.RowKit
theorem ZN(w:World)(g:Nat)(cs:Array Value):Fr (fun k=>k=g) w (w.setRow g cs):=⟨rfl,rfl,rfl,by simp,fun k _ hk=>setRow_other w g k cs hk⟩
theorem info_Gd:(Tryz.prog.info? 30).map (·.size)=some 9:=by kernel_rfl
abbrev gcel(A B:AV)(u1 u2:Value)(no:Bool):Array Value:= #[.int .i64 A.kind,.int .i64 A.line,.string ⟨A.text.toArray⟩,u1,.int .i64 B.kind,.int .i64 B.line,.string ⟨B.text.toArray⟩,u2,.bool no]
theorem gcel_one{A B:AV}{u1 u2:Value}{no:Bool}(h1:u1.oneCell'=true)(h2:u2.oneCell'=true):(gcel A B u1 u2 no).all (·.oneCell')=true:=by simp[gcel,Value.oneCell']at *;exact⟨h1,h2⟩
theorem info_G9(A B:AV)(u1 u2:Value)(no:Bool):(Tryz.prog.info? 30).map (·.size)=some (gcel A B u1 u2 no).size:=info_Gd
def ZsC(b:Nat)(l:List UInt8)(x:Bool)(S O:Nat→Prop)(g r:Nat)(A B:AV)(u1:Value)(p:Nat)(ms:List (Nat×List UInt8))(w1 w':World):Prop:=
 ∃S2 u2,ARd b l x ⟨p,ms,0⟩ S2 w'∧¬S2 g∧Stp S w1 (GS S2 g) w'∧w'.heap[g]? =some (.cells (gcel A B u1 u2 false) 30 (0,0))∧RN (SO (GS S2 g) (GS O r)) w' A.tree u1∧RN (SO (GS S2 g) (GS O r)) w' B.tree u2
theorem RN.one{S:Nat→Prop}{w:World}{t:Nd}{u:Value}(h:RN S w t u):u.oneCell'=true:=by rcases h.shape with rfl|⟨i,y,rfl⟩<;>rfl
theorem ZaM(w:World)(z cs:Array Value)(T:TypeId):((w.alloc (.cells z T)).setRow w.heap.size cs).heap[w.heap.size]? =some (.cells cs T (0,0))∧Fr nob w ((w.alloc (.cells z T)).setRow w.heap.size cs)∧((w.alloc (.cells z T)).setRow w.heap.size cs).heap.size=w.heap.size+1:=
 ⟨setRow_heap _ _ _ _ _ _ (newAt _ _),((Fr.refl nob w).alloc _).trans (ZN _ _ _) (fun i hi e=>by have e:i=w.heap.size:=e;omega),by simp[World.setRow,newAt]⟩
theorem Zst{b:Nat}{l:List UInt8}{x:Bool}{s:AdS}{S O S2:Nat→Prop}{w w1 wZ:World}{g:Nat}{tA tB:Nd}{u1 u2:Value}{a0 a1 a2 a3 a4 a5 a6 a7 a8:Value}{T:TypeId}(f1:Fr nob w w1)(hS:∀k,S k→k<w.heap.size)(hlt:w.heap.size<w1.heap.size)
 (hz:w1.heap[w.heap.size]? =some (.cells #[a0,a1,a2,a3,a4,a5,a6,a7,a8] T (0,0))) (hX:ARd b l x s S2 wZ) (st:Stp S w1 (GS S2 g) wZ) (hr1:RN (SO (GS S2 g) (GS O w.heap.size)) wZ tA u1) (hr2:RN (SO (GS S2 g) (GS O w.heap.size)) wZ tB u2) (cs:Array Value):
 (wZ.setRow w.heap.size cs).heap[w.heap.size]? =some (.cells cs T (0,0))∧ARd b l x s (GS S2 g) (wZ.setRow w.heap.size cs)∧Stp S w (GS S2 g) (wZ.setRow w.heap.size cs)∧RN (SO (GS S2 g) O) (wZ.setRow w.heap.size cs) tA u1∧RN (SO (GS S2 g) O) (wZ.setRow w.heap.size cs) tB u2:=by
 have f:=ZN wZ w.heap.size cs;have hn:=ZE hlt hS st;have s1:Stp S w (GS S2 g) wZ:=(Stp.of f1).trans st;obtain⟨mv,h⟩:=hX;have k:=h.keep f (fun e=>hn (.inl (e▸h.me))) (fun k hk e=>hn (.inl (e▸(h.nm k hk).2)));have rn:∀{t:Nd} {u:Value},RN (SO (GS S2 g) (GS O w.heap.size)) wZ t u→RN (SO (GS S2 g) O) (wZ.setRow w.heap.size cs) t u:=fun h=>RN.keep f (fun _ _ e=>.inr (.inr e)) (fun _ _ hx=>hx.elim .inl (fun y=>.inr (.inl y))) _ _ h;exact⟨setRow_heap _ _ _ _ _ _ (Zbl rfl hS hz st),⟨mv,k.blk,k.ma,fun j hj=>⟨(k.nm j hj).1,.inl (k.nm j hj).2⟩,.inl k.me⟩,
  ⟨s1.fr.trans f (fun i hi e=>by have e:i=w.heap.size:=e;omega),s1.old,fun hl k hk=>by have:=s1.lt hl k hk;have:=f.size;omega⟩,rn hr1,rn hr2⟩
attribute [-go_sem] storeVar
theorem Zsw{w:World}{b j:Nat}{p:Bool}(hc:(w.cell? ⟨b,j,none⟩).isSome=true)(hf:w.frozen? ⟨b,j,none⟩=false):
 Sem.run Tryz.prog (storeVar 4 ⟨b,j,none⟩ (.bool p)) w=.ok () (w.setCell ⟨b,j,none⟩ (.bool p)):=by
 obtain⟨old,ho⟩:=Option.isSome_iff_exists.1 hc;have hc1:(Value.bool p).cells= #[.bool p]:=rfl;have hi:(Tryz.prog.info? 4).map (·.size)=some 1:=by kernel_rfl
 cases hq:Tryz.prog.info? 4 with
 |none=>rw[hq]at hi;cases hi
 |some q=>
  have hs:q.size=1:=by simpa[hq]using hi
  simp[storeVar,sizeOf,typeInfo,hq,hc1,hs,go_sem,ho,hf]
theorem Zsx{w:World}{b j:Nat}{i:Int}(hc:(w.cell? ⟨b,j,none⟩).isSome=true)(hf:w.frozen? ⟨b,j,none⟩=false):
 Sem.run Tryz.prog (storeVar 3 ⟨b,j,none⟩ (.int .i64 i)) w=.ok () (w.setCell ⟨b,j,none⟩ (.int .i64 i)):=by
 obtain⟨old,ho⟩:=Option.isSome_iff_exists.1 hc;have hc1:(Value.int IntKind.i64 i).cells= #[.int .i64 i]:=rfl;have hi:(Tryz.prog.info? 3).map (·.size)=some 1:=by kernel_rfl
 cases hq:Tryz.prog.info? 3 with
 |none=>rw[hq]at hi;cases hi
 |some q=>
  have hs:q.size=1:=by simpa[hq]using hi
  simp[storeVar,sizeOf,typeInfo,hq,hc1,hs,go_sem,ho,hf]
attribute [local go_sem] Zsw Zsx
theorem Zsu(b:Nat)(l:List UInt8)(x:Bool)(at0:Nat)(ms0:List (Nat×List UInt8))(S O:Nat→Prop)(w:World)(hl:l.length≤99000)(ha:at0≤l.length)(hm:ms0.length=0)(hS:∀k,S k→k<w.heap.size)(hO:∀k,O k→k<w.heap.size)(W0:World)(hE:Env W0)(hW:Fr nob W0 w)(hSW:∀k,S k→W0.heap.size≤k)(h:ARd b l x ⟨at0,ms0,0⟩ S w)(A:AV)(at1:Nat)(ms1:List (Nat×List UInt8))(hR:addrD x l false ⟨at0,ms0,0⟩=.inr (A,⟨at1,ms1,0⟩))
 (B:AV) (at2:Nat) (ms2:List (Nat×List UInt8)) (hB:(A.kind=0∧B=AV.zero∧at2=at1∧ms2=ms1)∨(A.kind≠0∧Zbc x l ⟨at1,ms1,0⟩=.inr (B,⟨at2,ms2,0⟩))):
 Calls Tryz.prog 51 #[.pointer (some ⟨b,0,none⟩)] w (ZaV b l x S O w (ZgT l A B ⟨at2,ms2,0⟩)):=by
 have hl:l.length≤100000:=Nat.le_trans hl (by decide);obtain⟨w1,hw1⟩:∃w1,w1=w.alloc (.cells zG 30):=⟨_,rfl⟩;have f1:Fr nob w w1:=by rw[hw1];exact(Fr.refl _ _).alloc _
 have hz:w1.heap[w.heap.size]? =some (.cells zG 30 (0,0)):=by rw[hw1];exact newAt _ _
 have hsz:w1.heap.size=w.heap.size+1:=by rw[hw1];simp
 have h1:=h.on f1;have hSL:∀k,S k→k<w1.heap.size:=fun k hk=>by have:=hS k hk;omega
 have hOL:∀k,GS O w.heap.size k→k<w1.heap.size:=fun k hk=>by
  rcases hk with hk|hk
  ·have:=hO k hk;omega
  ·have hk:k=w.heap.size:=hk;omega
 have had:=Zal b l x false ⟨at0,ms0,0⟩ S (GS O w.heap.size) w1 (by omega) ha (by show ms0.length≤_;omega) rfl hSL hOL W0 hE (hW.trans' f1) hSW h1;rw[hR]at had;have hfw:=Zam (s:=⟨at0,ms0,0⟩) ha rfl hR;have h1l:at1≤l.length:=hfw.le;have h1m:ms1.length≤99001:=by have:=hfw.mks;simp only at this;omega
 have h2l:at2≤l.length:=by
  rcases hB with⟨_,_,rfl,_⟩|⟨_,e⟩
  ·exact h1l
  ·exact(pairD_in e).le
 have HAD:=hid had;have HW1:=hid hw1;have HS:=hid hS;have F1:=hid f1;have HZ:=hid hz;have HLT:=hid (lt_heap hz);have HSL:=hid hSL;have HE:=hid hE;have HWF:=hid (hW.trans' f1);have HSW:=hid hSW;have HOL:=hid hOL;have HB:=hid hB;clear h h1 hw1 hS f1 hz hO hE hW hSW hsz hSL hOL had hR hfw hB;go_enter Tryz.func51,Tryz.ntmps51;go_wp2_with(rw[←HW1.out]);refine HAD.out.mono ?_;intro e w2 he;obtain⟨v,S1,rfl,⟨u1,rfl,hrn⟩,h2,st2⟩:=he;have hlt1:=st2.lt HSL.out;have OU1:=hid hrn.one;obtain⟨hg3,f3,hs3⟩:=ZaM w2 zG (gcel A AV.zero u1 .nilIface false) 30;obtain⟨w3,hw3⟩:∃w3,w3=(w2.alloc (.cells zG 30)).setRow w2.heap.size (gcel A AV.zero u1 .nilIface false):=⟨_,rfl⟩;rw[←hw3]at hg3 f3 hs3;have ng3:¬S1 w2.heap.size:=fun h=>Nat.lt_irrefl _ (hlt1 _ h);have h3:=h2.on f3;have hge:w1.heap.size≤w2.heap.size:=st2.fr.size;have st3:Stp S w1 (GS S1 w2.heap.size) w3:=(st2.trans (Stp.of f3)).plus hge (lt_heap hg3)
 have hr1:RN (SO (GS S1 w2.heap.size) (GS O w.heap.size)) w3 A.tree u1:=RN.keep f3 (fun _ _ x=>x.elim) (fun k hk hx=>by
  rcases hx with(hx|hx)|hx
  ·exact .inl hx
  ·have hx:k=w2.heap.size:=hx;omega
  ·exact .inr hx) _ _ hrn
 have HW3:=hid hw3;obtain⟨mv3,h35⟩:=h3;have r3:=Zd h35.blk _ (Fr.refl _ _);have g30:=cell_at (v:=.int .i64 A.kind) (j:=0) hg3 rfl;have HPD:=hid (fun(hk:Zbc x l ⟨at1,ms1,0⟩=.inr (B,⟨at2,ms2,0⟩))=>by
  have:=Zfo b l x ⟨at1,ms1,0⟩ S1 (GS O w.heap.size) w2.heap.size A.kind A.line A.text u1 w3 hl h1l (by show ms1.length≤_;omega) rfl (fun k hk=>by have:=hlt1 k hk;have:=f3.size;omega) (fun k hk=>by have:=HOL.out k hk;have:=f3.size;omega) W0 HE.out ((st2.trans (Stp.of f3)).from HWF.out HSW.out) (fun k hk=>by by_cases h:k<w1.heap.size;exact HSW.out k (st2.old k h hk);have:=HWF.out.size;omega) ⟨mv3,h35⟩ ng3 hg3;rw[hk]at this;exact this)
 have HM0:=hid (show ARd b l x ⟨at1,ms1,0⟩ S1 w3 from⟨mv3,h35⟩);have NG3:=hid ng3;have ST3:=hid st3;have HG3:=hid hg3;have R1:=hid hr1;clear hrn h2 st2 hw3 f3 h35 hg3 ng3 st3 hge hlt1 hr1 hs3;go_upto_if 17 with(first|rw[←HW3.out]|refine wpList_store_row rfl 30 _ _ rfl w2.heap.size (gcel A AV.zero u1 .nilIface false) rfl rfl 30 zG (newAt _ _) (info_G9 _ _ _ _ _) rfl (gcel_one OU1.out rfl) ?_)
 go_cut [] (fun w'=>ZsC b l x S O w2.heap.size w.heap.size A B u1 at2 ms2 w1 w')
 case first=>
  rcases HB.out with⟨hk,rfl,rfl,rfl⟩|⟨hk,hp⟩
  ·have hk0:(A.kind==0)=true:=by simp[hk]
   clear hk;go_wp2;go_meet
   case rel=>exact⟨S1,.nilIface,HM0.out,NG3.out,ST3.out,HG3.out,R1.out,by show RN _ _ .nil _;rw[RN]⟩
  ·have hk0:(A.kind==0)=false:=by simpa using hk
   have HPR:=hid (HPD.out hp);clear hk hp;go_wp2_with fail;refine HPR.out.mono ?_;rintro e wP ⟨rfl,S2,u2,hP,hng,st4,hgb,hr2⟩;go_wp2;go_meet
   case rel=>exact⟨S2,u2,hP,hng,ST3.out.trans st4,hgb,st4.rn R1.out,RN.keep (Fr.refl nob wP) (fun _ _ x=>x.elim) (fun k _ hx=>by
    rcases hx with(hx|hx)|hx
    ·exact .inl hx
    ·exact .inr (.inr hx)
    ·exact .inr (.inl hx)) _ _ hr2⟩
 case rest=>
  clear HPD HM0 NG3 ST3 HG3 R1 HAD r3 g30 HE HWF HSW HOL HSL HW1 HW3;obtain⟨S2,u2,hP,hng,hst,hgb,hr1,hr2⟩:=hcut;have OU2:=hid hr2.one;obtain⟨pQ,hpQ⟩:∃pQ,bhd l [32,9] at2=pQ:=⟨_,rfl⟩;have hpQl:pQ≤l.length:=by rw[←hpQ];exact bhd_le _ _ _
  obtain⟨c1,hc1⟩:∃c1,byt l pQ=c1:=⟨_,rfl⟩;obtain⟨mv2,hP5⟩:=hP;have rP:=Zd hP5.blk _ (Fr.refl _ _);have hbl:=Zi b l x ⟨at2,ms2,0⟩ S2 wc hl h2l ⟨mv2,hP5⟩;simp only[hpQ]at hbl;have HBL:=hid hbl;have HGB:=hid hgb;have HNG:=hid hng;have HST:=hid hst;have HR1:=hid hr1;have HR2:=hid hr2;have HLG:=hid (lt_heap hgb);have HPQ:=hid hpQ;have HC1:=hid hc1;clear hP5 hgb hng hst hr1 hr2 hbl hpQ hc1;go_wp2_with fail;refine HBL.out.mono ?_;rintro e wQ ⟨rfl,hQ,stQ⟩;have hnx:=Zt b l x ⟨pQ,ms2,0⟩ S2 wQ (by omega) hQ;simp only[HC1.out]at hnx;have HQ:=hid hQ;have STQ:=hid (stQ.gs HLG.out);have HNX:=hid hnx;have HGQ:=hid (stQ.fr.heap HGB.out HNG.out);clear hQ stQ rP hnx;by_cases h33:c1=33
  ·have hat:pQ<l.length:=ZaO (by rw[HC1.out,h33];decide);subst h33;have hwr:IntKind.i64.wrap ((pQ:Int)+1)=pQ+1:=IntWalk.i64_in _ (by omega);obtain⟨pV,hpV⟩:∃pV,bhd l [32,9] (pQ+1)=pV:=⟨_,rfl⟩;have hpVl:pV≤l.length:=by rw[←hpV];exact bhd_le _ _ _
   obtain⟨c2,hc2⟩:∃c2,byt l pV=c2:=⟨_,rfl⟩;have HPV:=hid hpV;have HC2:=hid hc2;clear hpV hc2;go_wp2_with fail;refine HNX.out.mono ?_;rintro e wR ⟨rfl,fR⟩;have hgR:=fR.heap HGQ.out (fun x=>x);have g80:(wR.cell? ⟨w2.heap.size,8,none⟩).isSome=true:=by rw[cell_at (v:=.bool false) (j:=8) hgR rfl];rfl
   have g81:=unfrozen_at hgR 8;obtain⟨wS,hwS⟩:∃wS,wS=wR.setCell ⟨w2.heap.size,8,none⟩ (.bool true):=⟨_,rfl⟩;have fS:Fr (fun k=>k=w2.heap.size) wR wS:=by rw[hwS];exact(Fr.refl (fun k=>k=w2.heap.size) wR).setCell (p:=⟨w2.heap.size,8,none⟩) (fun _=>rfl) _
   have hsS:wS.heap.size=wR.heap.size:=by rw[hwS];simp[World.setCell]
   have hgS:wS.heap[w2.heap.size]? =some (.cells (gcel A B u1 u2 true) 30 (0,0)):=by rw[hwS];simpa using Za hgR 8 (.bool true)
   obtain⟨mvR,hR5⟩:=HQ.out.on fR;have hS5:=hR5.keep fS (fun e=>HNG.out (e▸hR5.me)) (fun k hk e=>HNG.out (e▸(hR5.nm k hk).2));have rS:=Zd hS5.blk _ (Fr.refl _ _);have hT5:=hS5.turned 1 (.int .i64 ((pQ:Int)+1)) ⟨pQ+1,ms2,0⟩ (by simp) rfl;have stT:=hS5.stp 1 (.int .i64 ((pQ:Int)+1));have p10:(wS.cell? ⟨b,1,none⟩).isSome=true:=by rw[rS.1.2.1];rfl
   obtain⟨wT,hwT⟩:∃wT,wT=wS.setCell ⟨b,1,none⟩ (.int .i64 ((pQ:Int)+1)):=⟨_,rfl⟩;rw[←hwT]at hT5 stT;have hgT:=stT.fr.heap hgS HNG.out;have sST:Stp (GS S2 w2.heap.size) wR (GS S2 w2.heap.size) wS:=⟨fS.mono (fun _ _ e=>.inr e),fun _ _ h=>h,fun hl k hk=>by have:=hl k hk;omega⟩;have st0:=(STQ.out.trans (Stp.of fR)).trans (sST.trans (stT.gs (by have:=HLG.out;have:=STQ.out.fr.size;have:=fR.size;omega)));have hbt:=Zi b l x ⟨pQ+1,ms2,0⟩ S2 wT hl (by show pQ+1≤_;omega) ⟨mvR,hT5⟩;simp only[HPV.out]at hbt;have HWS:=hid hwS;have HWT:=hid hwT;have HGT:=hid hgT;have ST0:=hid st0;have HBT:=hid hbt;have HLT2:=hid (lt_heap hgT);clear hR5 hS5 hT5 stT hwS hwT hgR hgS hgT fS hsS sST st0 fR hbt;go_wp2_with(first|rw[←HWS.out]|rw[←HWT.out]);refine HBT.out.mono ?_;rintro e wU ⟨rfl,hU,stU⟩;have hnu:=Zt b l x ⟨pV,ms2,0⟩ S2 wU (by omega) hU;simp only[HC2.out]at hnu;have HU:=hid hU;have STU:=hid (ST0.out.trans (stU.gs HLT2.out));have HNU:=hid hnu
   have HGU:=hid (stU.fr.heap HGT.out HNG.out);clear hU stU hnu rS g80 g81 p10;by_cases h33':c2=33
   ·subst h33';have HN:=hid (show ZgT l A B ⟨at2,ms2,0⟩=.inl (15,pV) by unfold ZgT;simp only;rw[HPQ.out,if_pos HC1.out,HPV.out,if_pos HC2.out]);go_wp2_with fail;refine HNU.out.mono ?_;rintro e wV ⟨rfl,fV⟩;obtain⟨mvV,hV5⟩:=HU.out.on fV;have rV:=Zd hV5.blk _ (Fr.refl _ _);have hgV:=fV.heap HGU.out (fun x=>x);have HFl:=hid (ZaB b l x ⟨pV,ms2,0⟩ S2 15 pV wV ⟨mvV,hV5⟩);have STV:=hid (STU.out.trans (Stp.of fV));have HGV:=hid hgV;clear hV5 hgV fV;go_wp2_with fail;refine HFl.out.mono ?_;rintro e wX ⟨rfl,hX,stX⟩;have hgZ:=stX.fr.heap HGV.out HNG.out;have stl:=STV.out.trans (stX.gs (lt_heap HGV.out));have st:=HST.out.trans stl;have hr1:=stl.rn HR1.out;have hr2:=stl.rn HR2.out;clear stX rV stl;obtain⟨q1,q2,q3,q4,q5⟩:=Zst F1.out HS.out HLT.out HZ.out hX st hr1 hr2 (gcel A B u1 u2 true);have HZX:=hid (Zbl rfl HS.out HZ.out st);have Q1:=hid q1;have Q2:=hid q2;have Q3:=hid q3;have Q4:=hid q4;have Q5:=hid q5;have HGZ:=hid hgZ
    clear hX st hgZ hr1 hr2 q1 q2 q3 q4 q5;go_wp2_with(first|refine wpList_load_row rfl 30 _ rfl w2.heap.size rfl 30 (gcel A B u1 u2 true) (0,0) _ HGZ.out Tryz.underlying30 rfl (info_G9 _ _ _ _ _) ?_|refine wpList_store_row rfl 30 _ _ rfl w.heap.size (gcel A B u1 u2 true) rfl rfl 30 zG HZX.out (info_G9 _ _ _ _ _) rfl (gcel_one OU1.out OU2.out) ?_);(try simp only[Exit.inBlock,Exit.then]);exact bodyPost_ret (results_cell_row rfl _ _ w.heap.size _ _ _ _ rfl Q1.out Tryz.underlying30 rfl (info_G9 _ _ _ _ _)) rfl (by rw[HN.out];exact⟨⟨A,B,true⟩,_,_,_,rfl,⟨_,_,rfl,Q4.out.weak,Q5.out.weak⟩,Q2.out,Q3.out⟩)
   ·have n33:((c2.toNat:Int)==33)=false:=Zn (b:=33) h33';have HN:=hid (show ZgT l A B ⟨at2,ms2,0⟩=.inr (⟨A,B,true⟩,⟨pV,ms2,0⟩) by unfold ZgT;simp only;rw[HPQ.out,if_pos HC1.out,HPV.out,if_neg (by rw[HC2.out];exact h33')]);go_wp2_with fail;refine HNU.out.mono ?_;rintro e wV ⟨rfl,fV⟩;have hX:=HU.out.on fV;have hgZ:=fV.heap HGU.out (fun x=>x);have stl:=STU.out.trans (Stp.of fV);have st:=HST.out.trans stl;have hr1:=stl.rn HR1.out;have hr2:=stl.rn HR2.out;clear fV stl;obtain⟨q1,q2,q3,q4,q5⟩:=Zst F1.out HS.out HLT.out HZ.out hX st hr1 hr2 (gcel A B u1 u2 true);have HZX:=hid (Zbl rfl HS.out HZ.out st);have Q1:=hid q1;have Q2:=hid q2;have Q3:=hid q3;have Q4:=hid q4;have Q5:=hid q5;have HGZ:=hid hgZ;clear hX st hgZ hr1 hr2 q1 q2 q3 q4 q5;go_wp2_with(first|refine wpList_load_row rfl 30 _ rfl w2.heap.size rfl 30 (gcel A B u1 u2 true) (0,0) _ HGZ.out Tryz.underlying30 rfl (info_G9 _ _ _ _ _) ?_|refine wpList_store_row rfl 30 _ _ rfl w.heap.size (gcel A B u1 u2 true) rfl rfl 30 zG HZX.out (info_G9 _ _ _ _ _) rfl (gcel_one OU1.out OU2.out) ?_)
    (try simp only[Exit.inBlock,Exit.then]);exact bodyPost_ret (results_cell_row rfl _ _ w.heap.size _ _ _ _ rfl Q1.out Tryz.underlying30 rfl (info_G9 _ _ _ _ _)) rfl (by rw[HN.out];exact⟨_,_,rfl,⟨_,_,rfl,Q4.out,Q5.out⟩,Q2.out,Q3.out⟩)
  ·have n33:((c1.toNat:Int)==33)=false:=Zn (b:=33) h33;have HN:=hid (show ZgT l A B ⟨at2,ms2,0⟩=.inr (⟨A,B,false⟩,⟨pQ,ms2,0⟩) by unfold ZgT;simp only;rw[HPQ.out,if_neg (by rw[HC1.out];exact h33)]);go_wp2_with fail;refine HNX.out.mono ?_;rintro e wR ⟨rfl,fR⟩;have hX:=HQ.out.on fR;have hgZ:=fR.heap HGQ.out (fun x=>x);have stl:=STQ.out.trans (Stp.of fR);have st:=HST.out.trans stl;have hr1:=stl.rn HR1.out;have hr2:=stl.rn HR2.out;clear fR stl;obtain⟨q1,q2,q3,q4,q5⟩:=Zst F1.out HS.out HLT.out HZ.out hX st hr1 hr2 (gcel A B u1 u2 false);have HZX:=hid (Zbl rfl HS.out HZ.out st);have Q1:=hid q1;have Q2:=hid q2;have Q3:=hid q3;have Q4:=hid q4;have Q5:=hid q5;have HGZ:=hid hgZ;clear hX st hgZ hr1 hr2 q1 q2 q3 q4 q5;go_wp2_with(first|refine wpList_load_row rfl 30 _ rfl w2.heap.size rfl 30 (gcel A B u1 u2 false) (0,0) _ HGZ.out Tryz.underlying30 rfl (info_G9 _ _ _ _ _) ?_|refine wpList_store_row rfl 30 _ _ rfl w.heap.size (gcel A B u1 u2 false) rfl rfl 30 zG HZX.out (info_G9 _ _ _ _ _) rfl (gcel_one OU1.out OU2.out) ?_)
   (try simp only[Exit.inBlock,Exit.then]);exact bodyPost_ret (results_cell_row rfl _ _ w.heap.size _ _ _ _ rfl Q1.out Tryz.underlying30 rfl (info_G9 _ _ _ _ _)) rfl (by rw[HN.out];exact⟨_,_,rfl,⟨_,_,rfl,Q4.out,Q5.out⟩,Q2.out,Q3.out⟩)
end Go.Proofs.YtkfddjopbocpkaaGreatDoor
namespace Go.Proofs.YtkfddjopbocpkaaGreatDoor
open Go.RowKit
theorem Ziv(b:Nat)(l:List UInt8)(x:Bool)(at0:Nat)(S O:Nat→Prop)(w:World)(hl:l.length≤99000)(ha:at0≤l.length)(hS:∀k,S k→k<w.heap.size)(hO:∀k,O k→k<w.heap.size)(W0:World)(hE:Env W0)(hW:Fr nob W0 w)(hSW:∀k,S k→W0.heap.size≤k)(h:ARd b l x ⟨at0,[],0⟩ S w):
 Calls Tryz.prog 51 #[.pointer (some ⟨b,0,none⟩)] w (ZaV b l x S O w (ZX x l ⟨at0,[],0⟩)):=by
 unfold ZX;cases hR:addrD x l false ⟨at0,[],0⟩with
 |inl q=>exact Zjo b l x at0 [] S O w hl ha rfl hS hO W0 hE hW hSW h q.1 q.2 hR
 |inr q=>
  obtain⟨A,at1,ms1,e1⟩:=q;obtain rfl:e1=0:=(Zam (s:=⟨at0,[],0⟩) ha rfl hR).ok;simp only;by_cases hk:A.kind=0
  ·rw[if_pos hk];exact Zsu b l x at0 [] S O w hl ha rfl hS hO W0 hE hW hSW h A at1 ms1 hR AV.zero at1 ms1 (.inl ⟨hk,rfl,rfl,rfl⟩)
  ·rw[if_neg hk];cases hR2:Zbc x l ⟨at1,ms1,0⟩with
   |inl q=>exact Zhx b l x at0 [] S O w hl ha rfl hS hO W0 hE hW hSW h A at1 ms1 hR hk q.1 q.2 hR2
   |inr q=>
    obtain⟨B,at2,ms2,e2⟩:=q;obtain rfl:e2=0:=(pairD_in hR2).ok;exact Zsu b l x at0 [] S O w hl ha rfl hS hO W0 hE hW hSW h A at1 ms1 hR B at2 ms2 (.inr ⟨hk,hR2⟩)
theorem notD_err{l:List UInt8}{a b:AV}{s:AdS}{z:Int×Nat}(h:ZgT l a b s=.inl z):z.1≠0:=by
 unfold ZgT at h;split at h
 ·split at h
  ·injection h with h;subst h;intro e;cases e
  ·cases h
 ·cases h
theorem notD_ok{l:List UInt8}{a b:AV}{s s':AdS}{g:GV}(h:ZgT l a b s=.inr (g,s')):s'.e=0:=by
 unfold ZgT at h;split at h
 ·split at h
  ·cases h
  ·injection h with h;injection h with h1 h2;subst h2;rfl
 ·injection h with h;injection h with h1 h2;subst h2;rfl
theorem guardD_err{x:Bool}{l:List UInt8}{s:AdS}{z:Int×Nat}(h:ZX x l s=.inl z):z.1≠0:=by
 unfold ZX at h;split at h
 ·next y hp=>injection h with h;subst h;exact addrD_err hp
 ·next a s1 hp=>
  split at h
  ·next y hq=>
   injection h with h;subst h;split at hq
   ·cases hq
   ·exact pairD_err hq
  ·exact notD_err h
theorem guardD_ok{x:Bool}{l:List UInt8}{s s':AdS}{g:GV}(h:ZX x l s=.inr (g,s')):s'.e=0:=by
 unfold ZX at h;split at h
 ·cases h
 ·split at h
  ·cases h
  ·exact notD_ok h
theorem ZbB{fn:Func}{p t u v:Tmp}(h:fn.results= #[.cell p 30,.tmp t,.tmp u,.tmp v]){tmps:Array Value}{r:Nat}(ht:tmps.getD p undef=.pointer (some ⟨r,0,none⟩)){W:World}{a0 a1 a2 a3 a4 a5 a6 a7 a8:Value}
 (hb:W.heap[r]? =some (.cells #[a0,a1,a2,a3,a4,a5,a6,a7,a8] 30 (0,0))):
 (results fn tmps).run Tryz.prog W=.ok (.tuple #[.agg #[a0,a1,a2,a3,a4,a5,a6,a7,a8],tmps.getD t undef,tmps.getD u undef,tmps.getD v undef]) W:=by
 have c0:=cell_at (j:=0) hb rfl;have c1:=cell_at (j:=1) hb rfl;have c2:=cell_at (j:=2) hb rfl;have c3:=cell_at (j:=3) hb rfl;have c4:=cell_at (j:=4) hb rfl;have c5:=cell_at (j:=5) hb rfl;have c6:=cell_at (j:=6) hb rfl;have c7:=cell_at (j:=7) hb rfl;have c8:=cell_at (j:=8) hb rfl;have ht':tmps[p]?.getD undef=.pointer (some ⟨r,0,none⟩):=by rw[←ht];simp
 simp only[results,h];simp[ht',go_sem,c0,c1,c2,c3,c4,c5,c6,c7,c8]
abbrev Prt:=Int×List UInt8
structure SV where
 text:List UInt8
 tree:Nd
 parts:List Prt
 nth:Int
 all:Bool
 print:Bool
 file:List UInt8
def SV.zero:SV:=⟨[],.nil,[],0,false,false,[]⟩
structure CV where
 at_:Nat
 guard:GV
 name:UInt8
 arg:List UInt8
 sub:SV
 table:List UInt8
def GV.zero:GV:=⟨AV.zero,AV.zero,false⟩
def CV.zero:CV:=⟨0,GV.zero,0,[],SV.zero,[]⟩
def failC(s:AdS)(e:Int)(p:Nat):AdS:=if s.e=0 then⟨p,s.marks,e⟩else s
def ZI(l:List UInt8)(s:AdS)(some:List UInt8):Bool:=match l[s.at_]? with
 |none=>false
 | .some b=>some.contains b
def Zan(s:AdS)(p:Nat)(t:List UInt8):AdS:=⟨s.at_,s.marks++[(p,t)],s.e⟩
def ZV(s:AdS)(p:Nat)(e:Int):AdS:=if s.e=0 then⟨p,s.marks,e⟩else s
def ZM(n:UInt8):Int:=
 if n=125∨n=58 then 0
 else if n=61∨n=113∨n=81∨n=97∨n=105∨n=114 then 1
 else if n=123∨n=100∨n=68∨n=103∨n=71∨n=104∨n=72∨n=108∨n=110∨n=78∨n=112∨n=80∨n=120∨n=122∨n=98∨n=116∨n=84∨n=99∨n=119∨n=115∨n=121 then 2
 else -1
def ZcD(g:GV):Int:=if g.b.kind≠0 then 2 else if g.a.kind≠0 then 1 else 0
def labelC(l:List UInt8)(must:Bool)(s:AdS):List UInt8×AdS:=
 if(ZcI l s.at_ true).2.2=14∧must=false then((ZcI l s.at_ true).1,ZV s (s.at_+(Zcv (l.drop s.at_) true).length) 0)
 else((ZcI l s.at_ true).1,ZV s (ZcI l s.at_ true).2.1 (ZcI l s.at_ true).2.2)
def ZaR(l:List UInt8)(s:AdS):List UInt8×AdS:=
 if ZI l s [32,9]=false then([],failC s 2 s.at_)
 else((ZcI l s.at_ false).1,ZV s (ZcI l s.at_ false).2.1 (ZcI l s.at_ false).2.2)
def AdS.to(s:AdS)(k:Nat):AdS:=⟨k,s.marks,s.e⟩
def Zah(l:List UInt8)(begin:Nat)(s:AdS):List UInt8×AdS:=
 let s1:=s.to (bhd l [32,9] s.at_)
 if l.length≤s1.at_ then([],failC s1 11 s1.at_)
 else if ZI l s1 [10]then([],failC s1 5 s1.at_)
 else
  let s2:=if[92,10].isPrefixOf (l.drop s1.at_)then s1.to (s1.at_+2)else Zan s1 begin [116,101,120,116]
  ((ln l (l.length+1) s2.at_ []).1,ZV s2 (ln l (l.length+1) s2.at_ []).2.1 (ln l (l.length+1) s2.at_ []).2.2)
def Zv(l:List UInt8)(s:AdS):UInt8×AdS:=
 if l.length≤s.at_ then(0,failC s 5 l.length)
 else if ZI l s [92,10]then(0,failC s 2 s.at_)
 else(byt l s.at_,s.to (s.at_+1))
def Zr(l:List UInt8)(d:UInt8)(rx:Bool)(s:AdS):List UInt8×AdS:=
 if s.e≠0 then([],s)
 else((bt l d rx (l.length+1) s.at_ []).1,ZV s (bt l d rx (l.length+1) s.at_ []).2.1 (bt l d rx (l.length+1) s.at_ []).2.2)
def Zav(x:Bool)(l:List UInt8)(d:UInt8)(s:AdS):(List UInt8×Nd)×AdS:=
 let t:=(Zr l d true s).1
 let s1:=(Zr l d true s).2
 let s2:=if s1.e=0∧t=[]then failC s1 2 s.at_ else s1
 if s2.e≠0 then(([],.nil),s2)
 else match Zac prg x t with
  | .inl z=>((t,.nil),failC s2 z.1 s.at_)
  | .inr (n,r)=>((t,n),⟨s2.at_,s2.marks++r.marks.map (shM s.at_),s2.e⟩)
def pushT(b:List Prt)(t:List UInt8):List Prt:=match b.getLast? with
 |none=>b++[(-1,t)]
 |some p=>if p.1= -1 then b.dropLast++[(-1,p.2++t)]else b++[(-1,t)]
def Zao(groups:Int):List UInt8→Bool→List Prt→List Prt×Int
 |[],escaped,b=>if escaped then([],11)else(b,0)
 |c::r,escaped,b=>
  if escaped=false∧c=92 then Zao groups r true b
  else if escaped=false∧c=38 then Zao groups r false (b++[(0,[])])
  else if escaped=true∧48≤c.toNat∧c.toNat≤57 then
   (if groups<(c.toNat:Int)-48 then([],9)else Zao groups r false (b++[((c.toNat:Int)-48,[])]))
  else if escaped=true∧c=110 then Zao groups r false (pushT b [10])
  else Zao groups r false (pushT b [c])
def Zap(l:List UInt8)(sub:SV)(s:AdS):Bool×SV×AdS:=
 if ZI l s [103]then
  let s1:=s.to (s.at_+1)
  let s2:=if sub.all then failC s1 15 s.at_ else s1
  (s2.e==0,{sub with all:=true},s2)
 else if ZI l s [112]then
  let s1:=s.to (s.at_+1)
  let s2:=if sub.print then failC s1 15 s.at_ else s1
  (s2.e==0,{sub with print:=true},s2)
 else if ZI l s [48,49,50,51,52,53,54,55,56,57]then
  let n:=nm s.at_ (l.drop s.at_) 0 0
  if 0<sub.nth then((failC s 15 s.at_).e==0,{sub with nth:=(n.1:Nat)},failC s 15 s.at_)
  else
   let s1:=ZV s n.2.1 n.2.2
   let s2:=if s.e=0∧s1.e=0∧n.1=0 then failC s1 1 s.at_ else s1
   (s2.e==0,{sub with nth:=(n.1:Nat)},s2)
 else if ZI l s [119]then
  (false,{sub with file:=(ZaR l (s.to (s.at_+1))).1},(ZaR l (s.to (s.at_+1))).2)
 else(false,sub,s)
def Zai(l:List UInt8):Nat→SV→AdS→SV×AdS
 |0,sub,s=>(sub,s)
 |n+1,sub,s=>
  match Zap l sub s with
  |(true,sub',s')=>Zai l n sub' s'
  |(false,sub',s')=>(sub',s')
def Zet(x:Bool)(l:List UInt8)(s:AdS):SV×AdS:=
 let d:=(Zv l s).1
 let s1:=(Zv l s).2
 if s1.e≠0 then(SV.zero,s1)
 else
  let rt:=(Zav x l d s1).1
  let s2:=(Zav x l d s1).2
  let sub:={SV.zero with text:=rt.1,tree:=rt.2}
  let t:=(Zr l d false s2).1
  let s3:=(Zr l d false s2).2
  if s3.e≠0 then(sub,s3)
  else
   let p:=Zao rt.2.groups t false []
   if p.2≠0 then(sub,failC s3 p.2 s2.at_)
   else Zai l (l.length+2) {sub with parts:=p.1} s3
def ZbC:List UInt8→Bool→List UInt8→List UInt8×Bool
 |[],escaped,out=>(out,!escaped)
 |c::r,escaped,out=>
  if escaped=false∧c=92 then ZbC r true out
  else if escaped=true∧c=110 then ZbC r false (out++[10])
  else if escaped=true∧c≠92 then([],false)
  else ZbC r false (out++[c])
def Zod:List (UInt8×UInt8)→List UInt8→List UInt8→List UInt8×Bool
 |[],_,out=>(out,true)
 |(a,b)::r,seen,out=>if seen.contains a then([],false)else Zod r (seen++[a]) (out.set a.toNat b)
def Zjp:List UInt8:=(List.range 256).map UInt8.ofNat
def ZaP(l:List UInt8)(s:AdS):List UInt8×AdS:=
 let d:=(Zv l s).1
 let s1:=(Zv l s).2
 let from_:=(Zr l d false s1).1
 let s2:=(Zr l d false s1).2
 let to_:=(Zr l d false s2).1
 let s3:=(Zr l d false s2).2
 if s3.e≠0 then([],s3)
 else
  let a:=ZbC from_ false []
  let b:=ZbC to_ false []
  if a.2=false∨b.2=false∨a.1.length≠b.1.length then([],failC s3 18 s2.at_)
  else
   let t:=Zod (a.1.zip b.1) [] Zjp
   if t.2 then(t.1,s3)else([],failC s3 15 s2.at_)
def argsC(x:Bool)(l:List UInt8)(c:CV)(s:AdS):Bool×CV×AdS:=
 if c.name=123∨c.name=125 then(false,c,s)
 else if c.name=58 then(false,{c with arg:=(labelC l true s).1},(labelC l true s).2)
 else if c.name=98∨c.name=116∨c.name=84 then(false,{c with arg:=(labelC l false s).1},(labelC l false s).2)
 else if c.name=97∨c.name=105∨c.name=99 then(false,{c with arg:=(Zah l c.at_ s).1},(Zah l c.at_ s).2)
 else if c.name=114∨c.name=119 then(false,{c with arg:=(ZaR l s).1},(ZaR l s).2)
 else if c.name=115 then((Zet x l s).1.file==[],{c with sub:=(Zet x l s).1},(Zet x l s).2)
 else if c.name=121 then(true,{c with table:=(ZaP l s).1},(ZaP l s).2)
 else(true,c,s)
def Zjq(l:List UInt8)(s:AdS):AdS:=
 let s1:=s.to (bhd l [32,9] s.at_)
 if l.length≤s1.at_∨ZI l s1 [59,10,35]=true then s1
 else if ZI l s1 [125]then Zan s1 s1.at_ [125]
 else failC s1 17 s1.at_
def ZbY(x:Bool)(l:List UInt8)(g:GV)(s:AdS):CV×AdS:=
 if l.length≤s.at_ then(CV.zero,failC s 5 l.length)
 else
  let n:=byt l s.at_
  let s1:=if ZM n<0 then failC s 13 s.at_
   else if ZM n<ZcD g then failC s 19 s.at_
   else if n=81∨n=84∨n=122 then Zan s s.at_ [n]
   else s
  if s1.e≠0 then(CV.zero,s1)
  else
   let r:=argsC x l {CV.zero with at_:=s.at_,guard:=g,name:=n} (s1.to (s1.at_+1))
   if r.1=true∧r.2.2.e=0 then(r.2.1,Zjq l r.2.2)else(r.2.1,r.2.2)
abbrev Zqc:=(Int×Nat)⊕(CV×AdS)
def Zeu(x:Bool)(l:List UInt8)(p:Nat):Zqc:=match ZX x l ⟨p,[],0⟩with
 | .inl z=>.inl z
 | .inr (g,s)=>
   let r:=ZbY x l g s
   if r.2.e≠0 then .inl (r.2.e,r.2.at_)else .inr r
section
variable {s t:List UInt8}
theorem byt_app{k:Nat}(h:k<s.length):byt (s++t) k=byt s k:=by unfold byt;rw[List.getElem?_append_left h]
theorem Zq5{k:Nat}(h:k≤s.length):(s++t).drop k=s.drop k++t:=List.drop_append_of_le_length h
theorem Zrw{c:UInt8}{k:Nat}(h:k<s.length):adv (s++t) c k=adv s c k:=by unfold adv;rw[List.getElem?_append_left h]
theorem Zrx{c:UInt8}:∀{a b:List UInt8},a.idxOf c<a.length→(a++b).idxOf c=a.idxOf c
 |[],_,h=>by simp at h
 |x::a,b,h=>by
  rw[List.cons_append,List.idxOf_cons,List.idxOf_cons];rw[List.idxOf_cons,List.length_cons]at h;cases hx:x==c with
  |true=>rfl
  |false=>
   rw[hx]at h;simp only[cond_false]at h⊢;rw[Zrx (b:=b) (by omega)]
theorem ZrX{k:Nat}(h:brE s k<s.length):brE (s++t) k=brE s k:=by
 have h1:=Znc (l:=s) (c:=94) (k:=k+1);have h2:=Znc (l:=s) (c:=93) (k:=adv s 94 (k+1));have h3:=Znb (l:=s) (c:=93) (k:=adv s 93 (adv s 94 (k+1)));unfold brE at h⊢;have h4:nxt s 93 (adv s 93 (adv s 94 (k+1)))+1<s.length:=by omega
 rw[Zrw (by omega:k+1<s.length),Zrw (by omega:adv s 94 (k+1)<s.length)];generalize adv s 93 (adv s 94 (k+1))=j at *;have h5:nxt (s++t) 93 j=nxt s 93 j:=by
  unfold nxt at h4⊢;rw[Zq5 (by omega),Zrx (by rw[List.length_drop];omega)]
 rw[h5,List.length_append];omega
theorem ZhE{d:UInt8}{rx:Bool}{k:Nat}{out:List UInt8}(h:(esc s d rx k out).1=0):esc (s++t) d rx k out=esc s d rx k out∧(esc s d rx k out).2.1=k+2∧k+2≤s.length:=by
 unfold esc at h⊢;cases hc:s[k+1]? with
 |none=>rw[hc]at h;simp at h
 |some y=>
  have hk:=(List.getElem?_eq_some_iff.1 hc).1;rw[hc]at h;rw[List.getElem?_append_left hk,hc];refine⟨rfl,?_,by omega⟩;simp only at h⊢;by_cases hd:y=d
  ·rw[if_pos hd]
  ·rw[if_neg hd]at h⊢;by_cases hn:y=10∧rx=true
   ·rw[if_pos hn]at h;exact absurd h (by intro e;cases e)
   ·rw[if_neg hn]
theorem bt_app{d:UInt8}{rx:Bool}:∀(n k:Nat) (out:List UInt8) (m:Nat),k≤s.length→s.length<n+k→n≤m→(bt s d rx n k out).2.2=0→bt (s++t) d rx m k out=bt s d rx n k out
 |0,k,out,m,h0,h,_,he=>by omega
 |n+1,k,out,0,_,_,hm,_=>by omega
 |n+1,k,out,m+1,h0,h,hm,he=>by
  rw[bt]at he⊢;rw[bt];cases hc:s[k]? with
  |none=>rw[hc]at he;exact absurd he (by intro e;cases e)
  |some c=>
   have hk:=(List.getElem?_eq_some_iff.1 hc).1;rw[hc]at he;rw[List.getElem?_append_left hk,hc];simp only at he⊢;by_cases hd:c=d
   ·rw[if_pos hd,if_pos hd]
   ·rw[if_neg hd]at he⊢;rw[if_neg hd];by_cases h92:c=92
    ·rw[if_pos h92]at he⊢;rw[if_pos h92];by_cases hz:(esc s d rx k out).1=0
     ·obtain⟨e1,e2,e3⟩:=ZhE (t:=t) hz;rw[if_pos hz]at he;rw[e1,if_pos hz,if_pos hz];exact bt_app n _ _ m (by omega) (by omega) (by omega) he
     ·rw[if_neg hz]at he;exact absurd he hz
    ·rw[if_neg h92]at he⊢;rw[if_neg h92];have key:∀q,1≤q→k+q≤s.length→(if Lib.indexByte ((s.drop k).take q) 10<0 then bt s d rx n (k+q) (out++(s.drop k).take q)else([],k+(Lib.indexByte ((s.drop k).take q) 10).toNat,2)).2.2=0→
      (if Lib.indexByte (((s++t).drop k).take q) 10<0 then bt (s++t) d rx m (k+q) (out++((s++t).drop k).take q)else([],k+(Lib.indexByte (((s++t).drop k).take q) 10).toNat,2))=(if Lib.indexByte ((s.drop k).take q) 10<0 then bt s d rx n (k+q) (out++(s.drop k).take q)else([],k+(Lib.indexByte ((s.drop k).take q) 10).toNat,2)):=by
      intro q hq1 hq he;have ht:((s++t).drop k).take q=(s.drop k).take q:=by
       rw[Zq5 (by omega),List.take_append_of_le_length (by rw[List.length_drop];omega)]
      rw[ht];by_cases hi:Lib.indexByte ((s.drop k).take q) 10<0
      ·rw[if_pos hi]at he;rw[if_pos hi,if_pos hi];exact bt_app n _ _ m hq (by omega) (by omega) he
      ·rw[if_neg hi,if_neg hi]
     by_cases hb:c=91∧rx=true
     ·rw[if_pos hb]at he⊢;have hbl:brE s k≤s.length:=by unfold brE;omega
      have hbg:k<brE s k:=by
       have h1:=Znc (l:=s) (c:=94) (k:=k+1);have h2:=Znc (l:=s) (c:=93) (k:=adv s 94 (k+1));have h3:=Znb (l:=s) (c:=93) (k:=adv s 93 (adv s 94 (k+1)));unfold brE;omega
      have hlt:brE s k<s.length:=by
       refine Nat.lt_of_not_le fun hle=> ?_;have e:k+(brE s k-k)=s.length:=by omega
       rw[e]at he;split at he
       ·cases n with
        |zero=>omega
        |succ n=>
         rw[bt,List.getElem?_eq_none (Nat.le_refl _)]at he;exact absurd he (by intro e;cases e)
       ·exact absurd he (by intro e;cases e)
      rw[if_pos hb,ZrX hlt];exact key _ (by omega) (by omega) he
     ·rw[if_neg hb]at he⊢;rw[if_neg hb];exact key 1 (by omega) (by omega) he
theorem Zrm{at_:Nat}{y:UInt8}{r:List UInt8}(hy:¬(48≤y.toNat∧y.toNat≤57)):∀(m:List UInt8) (n c:Nat),nm at_ (m++y::r) n c=nm at_ m n c
 |[],n,c=>by simp only[List.nil_append,nm,if_neg hy]
 |b::m,n,c=>by
  rw[List.cons_append,nm,nm,Zrm hy m]
theorem ZrU{y:UInt8}{r cs:List UInt8}(hy:cs.contains y=false):∀(m:List UInt8),tl (m++y::r) cs=tl m cs++y::r
 |[]=>by unfold tl;rw[List.nil_append,List.dropWhile_cons,if_neg (by rw[hy];simp),List.dropWhile_nil,List.nil_append]
 |b::m=>by
  have ih:=ZrU (r:=r) hy m;unfold tl at ih⊢;rw[List.cons_append,List.dropWhile_cons,List.dropWhile_cons];split
  ·exact ih
  ·rfl
theorem Zq8{y:UInt8}{r cs:List UInt8}{k:Nat}(hy:cs.contains y=false)(hk:k≤s.length):bhd (s++y::r) cs k=bhd s cs k:=by
 unfold bhd;rw[Zq5 hk,ZrU hy,List.length_append,List.length_append];omega
theorem regexD_app{x:Bool}{d:UInt8}{q q':AdS}{a:AV}(hk:q.at_≤s.length)(h:ZaE x s d q=.inr (a,q')):ZaE x (s++t) d q=.inr (a,q'):=by
 have h0:(bt s d true (s.length+1) q.at_ []).2.2=0:=by
  refine Classical.byContradiction fun hn=> ?_;unfold ZaE at h;rw[if_pos hn]at h;cases h
 have e:=bt_app (t:=t) (s.length+1) q.at_ [] ((s++t).length+1) hk (by omega) (by rw[List.length_append];omega) h0;unfold ZaE at h⊢;rw[e];exact h
end
section
variable {A l:List UInt8}
theorem ZeM(k:Nat):(A++l)[A.length+k]? =l[k]? :=by rw[List.getElem?_append_right (by omega)];congr 1;omega
theorem Zee(k:Nat):byt (A++l) (A.length+k)=byt l k:=by unfold byt;rw[ZeM]
theorem Zbm(k:Nat):(A++l).drop (A.length+k)=l.drop k:=by rw[←List.drop_drop,List.drop_left]
theorem Zdv(cs:List UInt8){k:Nat}(hk:k≤l.length):bhd (A++l) cs (A.length+k)=A.length+bhd l cs k:=by
 unfold bhd;rw[Zbm,List.length_append];have:=Zmv (l.drop k) cs;rw[List.length_drop]at this;omega
theorem bhd_in(cs:List UInt8){k:Nat}(hk:k≤l.length):k≤bhd l cs k∧bhd l cs k≤l.length:=by
 unfold bhd;have:=Zmv (l.drop k) cs;rw[List.length_drop]at this;omega
theorem ZmB(a at_:Nat):∀(r:List UInt8) (n c:Nat),nm (a+at_) r n c=((nm at_ r n c).1,a+(nm at_ r n c).2.1,(nm at_ r n c).2.2)
 |[],n,c=>by rw[nm,nm];split<;>simp[Nat.add_assoc]
 |x::r,n,c=>by
  rw[nm,nm];split
  ·split
   ·rfl
   ·exact ZmB a at_ r _ _
  ·split<;>simp[Nat.add_assoc]
theorem Znj(k:Nat)(label:Bool):ZcI (A++l) (A.length+k) label=((ZcI l k label).1,A.length+(ZcI l k label).2.1,(ZcI l k label).2.2):=by
 unfold ZcI;rw[Zbm];split
 ·rfl
 ·split
  ·rfl
  ·simp[Nat.add_assoc]
theorem ZpH{k:Nat}(hk:k≤l.length):brE (A++l) (A.length+k)=A.length+brE l k:=by
 rw[←ZdD (l:=A++l) (a:=A.length+k) (by rw[List.length_append];omega),Zbm,Nat.add_assoc,ZdD hk]
theorem ZpI(d:UInt8)(rx:Bool)(k:Nat)(out:List UInt8):esc (A++l) d rx (A.length+k) out=((esc l d rx k out).1,A.length+(esc l d rx k out).2.1,(esc l d rx k out).2.2):=by
 unfold esc;rw[Nat.add_assoc,ZeM];cases l[k+1]? with
 |none=>simp
 |some y=>
  simp only;split
  ·rfl
  ·split<;>rfl
theorem Znk{k:Nat}(hk:k<l.length):k<brE l k:=by
 have h1:=Znc (l:=l) (c:=94) (k:=k+1);have h2:=Znc (l:=l) (c:=93) (k:=adv l 94 (k+1));have h3:=Znb (l:=l) (c:=93) (k:=adv l 93 (adv l 94 (k+1)));unfold brE;omega
theorem Znl(k:Nat):brE l k≤l.length:=by unfold brE;omega
theorem Ziw{d:UInt8}{rx:Bool}{k:Nat}{out:List UInt8}(h:(esc l d rx k out).1=0):(esc l d rx k out).2.1=k+2:=(ZhE (t:=[]) h).2.1
theorem Zoe(d:UInt8)(rx:Bool):∀(n m k:Nat) (out:List UInt8),k≤l.length→l.length<n+k→l.length<m+k→
 bt (A++l) d rx m (A.length+k) out=((bt l d rx n k out).1,A.length+(bt l d rx n k out).2.1,(bt l d rx n k out).2.2)
 |0,m,k,out,hk,hn,_=>by omega
 |n+1,0,k,out,hk,_,hm=>by omega
 |n+1,m+1,k,out,hk,hn,hm=>by
  rw[bt,bt,ZeM];cases hc:l[k]? with
  |none=>simp
  |some c=>
   have hlt:=(List.getElem?_eq_some_iff.1 hc).1;simp only;by_cases h1:c=d
   ·simp only[if_pos h1,Nat.add_assoc]
   ·simp only[if_neg h1];by_cases h2:c=92
    ·simp only[if_pos h2];rw[ZpI];simp only;by_cases h3:(esc l d rx k out).1=0
     ·simp only[if_pos h3];have hs:=Ziw h3;have hb:=(ZhE (t:=[]) h3).2.2;rw[hs];exact Zoe d rx n m (k+2) _ (by omega) (by omega) (by omega)
     ·simp only[if_neg h3]
    ·simp only[if_neg h2];have hm':(if c=91∧rx=true then brE (A++l) (A.length+k)-(A.length+k)else 1)=(if c=91∧rx=true then brE l k-k else 1):=by
      rw[ZpH (by omega)];split
      ·omega
      ·rfl
     rw[hm',Zbm];have hm1:1≤(if c=91∧rx=true then brE l k-k else 1)∧k+(if c=91∧rx=true then brE l k-k else 1)≤l.length:=by
      have:=Znk hlt;have:=Znl (l:=l) k;split<;>omega
     generalize(if c=91∧rx=true then brE l k-k else 1)=M at *;by_cases h4:Lib.indexByte ((l.drop k).take M) 10<0
     ·simp only[if_pos h4,Nat.add_assoc];exact Zoe d rx n m (k+M) _ (by omega) (by omega) (by omega)
     ·simp only[if_neg h4,Nat.add_assoc]
theorem Znm(d:UInt8)(rx:Bool){k:Nat}(hk:k≤l.length)(out:List UInt8):bt (A++l) d rx ((A++l).length+1) (A.length+k) out=((bt l d rx (l.length+1) k out).1,A.length+(bt l d rx (l.length+1) k out).2.1,(bt l d rx (l.length+1) k out).2.2):=
 Zoe d rx _ _ k out hk (by omega) (by rw[List.length_append];omega)
theorem Zof:∀(n m k:Nat) (out:List UInt8),k≤l.length→l.length<n+k→l.length<m+k→
 ln (A++l) m (A.length+k) out=((ln l n k out).1,A.length+(ln l n k out).2.1,(ln l n k out).2.2)
 |0,m,k,out,hk,hn,_=>by omega
 |n+1,0,k,out,hk,_,hm=>by omega
 |n+1,m+1,k,out,hk,hn,hm=>by
  rw[ln,ln,ZeM];have hmin:min (A.length+k+1) (A++l).length=A.length+min (k+1) l.length:=by rw[List.length_append];omega
  cases hc:l[k]? with
  |none=>simp only[hmin]
  |some c=>
   have hlt:=(List.getElem?_eq_some_iff.1 hc).1;simp only[hmin];by_cases h1:c=10
   ·simp only[if_pos h1]
   ·simp only[if_neg h1];by_cases h2:c=92
    ·simp only[if_pos h2,Nat.add_assoc];rw[ZeM];cases hx:l[k+1]? with
     |none=>rfl
     |some y=>
      have:=(List.getElem?_eq_some_iff.1 hx).1;exact Zof n m (k+2) _ (by omega) (by omega) (by omega)
    ·simp only[if_neg h2,Nat.add_assoc];exact Zof n m (k+1) _ (by omega) (by omega) (by omega)
theorem ZpJ{k:Nat}(hk:k≤l.length)(out:List UInt8):ln (A++l) ((A++l).length+1) (A.length+k) out=((ln l (l.length+1) k out).1,A.length+(ln l (l.length+1) k out).2.1,(ln l (l.length+1) k out).2.2):=
 Zof _ _ k out hk (by omega) (by rw[List.length_append];omega)
def shS(a:Nat)(M:List (Nat×List UInt8))(s:AdS):AdS:=⟨a+s.at_,M++s.marks.map (shM a),s.e⟩
variable {M:List (Nat×List UInt8)} {s:AdS}
theorem Zgm(a k:Nat):(shS a M s).to (a+k)=shS a M (s.to k):=rfl
theorem ZaH(a:Nat)(e:Int)(p:Nat):failC (shS a M s) e (a+p)=shS a M (failC s e p):=by unfold failC shS;simp only;split<;>rfl
theorem Zci(a:Nat)(p:Nat)(e:Int):ZV (shS a M s) (a+p) e=shS a M (ZV s p e):=by unfold ZV shS;simp only;split<;>rfl
theorem ZhF(a:Nat)(p:Nat)(t:List UInt8):Zan (shS a M s) (a+p) t=shS a M (Zan s p t):=by
 unfold Zan shS;simp only[List.map_append,List.append_assoc];rfl
theorem Zef(some:List UInt8):ZI (A++l) (shS A.length M s) some=ZI l s some:=by unfold ZI shS;simp only;rw[ZeM]
theorem Zbh{l:List UInt8}{s:AdS}{some:List UInt8}(h:ZI l s some=true):s.at_<l.length:=by
 unfold ZI at h;cases hc:l[s.at_]? with
 |none=>rw[hc]at h;cases h
 |some b=>exact(List.getElem?_eq_some_iff.1 hc).1
theorem ZkX{k:Nat}(label:Bool)(hk:k≤l.length):(ZcI l k label).2.1≤l.length:=by
 unfold ZcI;split
 ·exact hk
 ·split
  ·exact hk
  ·have:=Zec (l.drop k) label;rw[List.length_drop]at this;simp only;omega
theorem ZpK(d:UInt8)(rx:Bool){k:Nat}(hk:k<l.length)(out:List UInt8):(esc l d rx k out).2.1≤l.length:=by
 unfold esc;cases hx:l[k+1]? with
 |none=>exact Nat.le_refl _
 |some y=>
  have:=(List.getElem?_eq_some_iff.1 hx).1;simp only;split
  ·show k+2≤_;omega
  ·split
   ·show k+1≤_;omega
   ·show k+2≤_;omega
theorem ZkY(d:UInt8)(rx:Bool):∀(n k:Nat) (out:List UInt8),k≤l.length→(bt l d rx n k out).2.1≤l.length
 |0,k,out,_=>by simp[bt]
 |n+1,k,out,hk=>by
  rw[bt];cases hc:l[k]? with
  |none=>simp
  |some c=>
   have hlt:=(List.getElem?_eq_some_iff.1 hc).1;simp only;split
   ·show k+1≤_;omega
   ·split
    ·by_cases h3:(esc l d rx k out).1=0
     ·rw[if_pos h3];have hb:=(ZhE (t:=[]) h3).2.2;have hs:=Ziw h3;exact ZkY d rx n _ _ (by omega)
     ·rw[if_neg h3];exact ZpK d rx hlt out
    ·have hm1:k+(if c=91∧rx=true then brE l k-k else 1)≤l.length:=by
      have:=Znk hlt;have:=Znl (l:=l) k;split<;>omega
     generalize(if c=91∧rx=true then brE l k-k else 1)=m at *;have hix:=Zb1 ((l.drop k).take m) 10;rw[List.length_take,List.length_drop]at hix;split
     ·exact ZkY d rx n _ _ hm1
     ·show k+(Lib.indexByte ((l.drop k).take m) 10).toNat≤_;omega
theorem ZmC:∀(n k:Nat) (out:List UInt8),k≤l.length→(ln l n k out).2.1≤l.length
 |0,k,out,_=>by simp[ln]
 |n+1,k,out,hk=>by
  rw[ln];cases hc:l[k]? with
  |none=>simp only;omega
  |some c=>
   have hlt:=(List.getElem?_eq_some_iff.1 hc).1;simp only;split
   ·simp only;omega
   ·split
    ·cases hx:l[k+1]? with
     |none=>simp only;omega
     |some y=>have:=(List.getElem?_eq_some_iff.1 hx).1;exact ZmC n _ _ (by omega)
    ·exact ZmC n _ _ (by omega)
theorem ZO{e:Int}{p:Nat}(h:s.at_≤l.length)(hp:p≤l.length):(failC s e p).at_≤l.length:=by unfold failC;split<;>assumption
theorem Za6{e:Int}{p:Nat}(h:s.at_≤l.length)(hp:p≤l.length):(ZV s p e).at_≤l.length:=by unfold ZV;split<;>assumption
theorem Zgn(must:Bool)(h:s.at_≤l.length):(labelC l must s).2.at_≤l.length:=by
 unfold labelC;split
 ·have:=Zec (l.drop s.at_) true;rw[List.length_drop]at this;exact Za6 h (by omega)
 ·exact Za6 h (ZkX _ h)
theorem Zix(h:s.at_≤l.length):(ZaR l s).2.at_≤l.length:=by
 unfold ZaR;split
 ·exact ZO h h
 ·exact Za6 h (ZkX _ h)
theorem ZkZ(b:Nat)(h:s.at_≤l.length):(Zah l b s).2.at_≤l.length:=by
 unfold Zah;simp only;have hb:=(bhd_in [32,9] h).2;have h1:(s.to (bhd l [32,9] s.at_)).at_≤l.length:=hb;split
 ·exact ZO h1 h1
 ·split
  ·exact ZO h1 h1
  ·split
   ·next hp=>
    have hp2:bhd l [32,9] s.at_+2≤l.length:=by
     have h2:=(List.isPrefixOf_iff_prefix.1 hp).length_le;simp only[List.length_drop,List.length_cons,List.length_nil]at h2;have h3:(s.to (bhd l [32,9] s.at_)).at_=bhd l [32,9] s.at_:=rfl;omega
    exact Za6 hp2 (ZmC _ _ _ hp2)
   ·exact Za6 h1 (ZmC _ _ _ h1)
theorem Za7(h:s.at_≤l.length):(Zv l s).2.at_≤l.length:=by
 unfold Zv;split
 ·exact ZO h (Nat.le_refl _)
 ·split
  ·exact ZO h h
  ·show s.at_+1≤_;omega
theorem ZaW(d:UInt8)(rx:Bool)(h:s.at_≤l.length):(Zr l d rx s).2.at_≤l.length:=by
 unfold Zr;split
 ·exact h
 ·exact Za6 h (ZkY _ _ _ _ _ h)
theorem Zeg(x:Bool)(d:UInt8)(h:s.at_≤l.length):(Zav x l d s).2.at_≤l.length:=by
 unfold Zav;simp only;have hb:=ZaW d true h;have h2:(if(Zr l d true s).2.e=0∧(Zr l d true s).1=[]then failC (Zr l d true s).2 2 s.at_ else(Zr l d true s).2).at_≤l.length:=by
  split
  ·exact ZO hb h
  ·exact hb
 generalize(if(Zr l d true s).2.e=0∧(Zr l d true s).1=[]then failC (Zr l d true s).2 2 s.at_ else(Zr l d true s).2)=s2 at h2⊢;split
 ·exact h2
 ·cases Zac prg x (Zr l d true s).1 with
  |inl z=>exact ZO h2 h
  |inr z=>exact h2
theorem Ziy(sub:SV)(h:s.at_≤l.length):(Zap l sub s).2.2.at_≤l.length:=by
 unfold Zap;split
 ·next hn=>have:=Zbh hn;simp only;split;exact ZO (show s.at_+1≤_ from this) h;exact this
 ·split
  ·next hn=>have:=Zbh hn;simp only;split;exact ZO (show s.at_+1≤_ from this) h;exact this
  ·split
   ·simp only;split
    ·exact ZO h h
    ·have hn:(nm s.at_ (l.drop s.at_) 0 0).2.1≤l.length:=by
      have:=ZkV s.at_ (l.drop s.at_) 0 0;rw[List.length_drop]at this;omega
     have hm:=Za6 (s:=s) (e:=(nm s.at_ (l.drop s.at_) 0 0).2.2) h hn;split
     ·exact ZO hm h
     ·exact hm
   ·split
    ·next hn=>have:=Zbh hn;exact Zix (show(s.to (s.at_+1)).at_≤_ from this)
    ·exact h
theorem Zgo:∀(n:Nat) (sub:SV) (s:AdS),s.at_≤l.length→(Zai l n sub s).2.at_≤l.length
 |0,_,_,h=>h
 |n+1,sub,s,h=>by
  rw[Zai];have hf:=Ziy sub h;cases hr:Zap l sub s with
  |mk a b=>
   rw[hr]at hf;obtain⟨b,c⟩:=b;cases a with
   |true=>exact Zgo n b c hf
   |false=>exact hf
theorem Zog(x:Bool)(h:s.at_≤l.length):(Zet x l s).2.at_≤l.length:=by
 unfold Zet;simp only;have h1:=Za7 h;split
 ·exact h1
 ·have h2:=Zeg x (Zv l s).1 h1;have h3:=ZaW (Zv l s).1 false h2;split
  ·exact h3
  ·split
   ·exact ZO h3 h2
   ·exact Zgo _ _ _ h3
theorem Zk0(h:s.at_≤l.length):(ZaP l s).2.at_≤l.length:=by
 unfold ZaP;simp only;have h1:=Za7 h;have h2:=ZaW (Zv l s).1 false h1;have h3:=ZaW (Zv l s).1 false h2;split
 ·exact h3
 ·split
  ·exact ZO h3 h2
  ·split
   ·exact h3
   ·exact ZO h3 h2
theorem ZdN(x:Bool)(c:CV)(h:s.at_≤l.length):(argsC x l c s).2.2.at_≤l.length:=by
 unfold argsC;split
 ·exact h
 split
 ·exact Zgn _ h
 split
 ·exact Zgn _ h
 split
 ·exact ZkZ _ h
 split
 ·exact Zix h
 split
 ·exact Zog x h
 split
 ·exact Zk0 h
 ·exact h
theorem Ziz(must:Bool)(h:s.at_≤l.length):labelC (A++l) must (shS A.length M s)=((labelC l must s).1,shS A.length M (labelC l must s).2):=by
 unfold labelC;have e:(shS A.length M s).at_=A.length+s.at_:=rfl;rw[e,Znj,Zbm,Nat.add_assoc,Zci,Zci];simp only;split<;>rfl
theorem Zk1(h:s.at_≤l.length):ZaR (A++l) (shS A.length M s)=((ZaR l s).1,shS A.length M (ZaR l s).2):=by
 unfold ZaR;have e:(shS A.length M s).at_=A.length+s.at_:=rfl;rw[e,Znj,Zef,ZaH,Zci];split<;>rfl
theorem ZmD(b:Nat)(h:s.at_≤l.length):Zah (A++l) (A.length+b) (shS A.length M s)=((Zah l b s).1,shS A.length M (Zah l b s).2):=by
 unfold Zah;have e:(shS A.length M s).at_=A.length+s.at_:=rfl;have hb:=(bhd_in [32,9] h).2;simp only[e];rw[Zdv _ h,Zgm];generalize hs1:s.to (bhd l [32,9] s.at_)=s1;have h1:s1.at_≤l.length:=by rw[←hs1];exact hb
 have e1:(shS A.length M s1).at_=A.length+s1.at_:=rfl;rw[e1,ZaH,ZaH,Zef,Zbm,show A.length+s1.at_+2=A.length+(s1.at_+2)from Nat.add_assoc _ _ _,Zgm,ZhF];by_cases c1:l.length≤s1.at_
 ·rw[if_pos c1,if_pos (by rw[List.length_append];omega)]
 ·rw[if_neg c1,if_neg (by rw[List.length_append];omega)];split
  ·rfl
  ·have hif:(if[92,10].isPrefixOf (l.drop s1.at_)=true then shS A.length M (s1.to (s1.at_+2))else shS A.length M (Zan s1 b [116,101,120,116]))=shS A.length M (if[92,10].isPrefixOf (l.drop s1.at_)=true then s1.to (s1.at_+2)else Zan s1 b [116,101,120,116]):=by split<;>rfl
   rw[hif];generalize hs2:(if[92,10].isPrefixOf (l.drop s1.at_)=true then s1.to (s1.at_+2)else Zan s1 b [116,101,120,116])=s2;have h2:s2.at_≤l.length:=by
    rw[←hs2];split
    ·next hp=>
     have h2:=(List.isPrefixOf_iff_prefix.1 hp).length_le;simp only[List.length_drop,List.length_cons,List.length_nil]at h2;show s1.at_+2≤_;omega
    ·exact h1
   have e2:(shS A.length M s2).at_=A.length+s2.at_:=rfl;rw[e2,ZpJ h2,Zci]
theorem ZiA(h:s.at_≤l.length):Zv (A++l) (shS A.length M s)=((Zv l s).1,shS A.length M (Zv l s).2):=by
 unfold Zv;have e:(shS A.length M s).at_=A.length+s.at_:=rfl;rw[e,Zef,Zee,List.length_append,ZaH,ZaH,Nat.add_assoc,Zgm];by_cases c1:l.length≤s.at_
 ·rw[if_pos c1,if_pos (by omega)]
 ·rw[if_neg c1,if_neg (by omega)];split<;>rfl
theorem Zfp(d:UInt8)(rx:Bool)(h:s.at_≤l.length):Zr (A++l) d rx (shS A.length M s)=((Zr l d rx s).1,shS A.length M (Zr l d rx s).2):=by
 unfold Zr;have e:(shS A.length M s).at_=A.length+s.at_:=rfl;have e2:(shS A.length M s).e=s.e:=rfl;rw[e,e2,Znm d rx h,Zci];split<;>rfl
theorem ZmE(x:Bool)(d:UInt8)(h:s.at_≤l.length):Zav x (A++l) d (shS A.length M s)=((Zav x l d s).1,shS A.length M (Zav x l d s).2):=by
 unfold Zav;have e:(shS A.length M s).at_=A.length+s.at_:=rfl;rw[Zfp d true h,e];simp only;generalize(Zr l d true s).2=s1;generalize(Zr l d true s).1=t;have e1:(shS A.length M s1).e=s1.e:=rfl;rw[ZaH,e1];have hif:(if s1.e=0∧t=[]then shS A.length M (failC s1 2 s.at_)else shS A.length M s1)=shS A.length M (if s1.e=0∧t=[]then failC s1 2 s.at_ else s1):=by split<;>rfl
 rw[hif];generalize(if s1.e=0∧t=[]then failC s1 2 s.at_ else s1)=s2;have e2:(shS A.length M s2).e=s2.e:=rfl;rw[e2];split
 ·rfl
 ·cases Zac prg x t with
  |inl z=>simp only;rw[ZaH]
  |inr z=>
   simp only[shS,List.map_append,List.map_map,List.append_assoc]
   congr 4
   apply List.map_congr_left;intro m _;simp[shM,Nat.add_assoc]
theorem Zoh(sub:SV)(h:s.at_≤l.length):Zap (A++l) sub (shS A.length M s)=((Zap l sub s).1,(Zap l sub s).2.1,shS A.length M (Zap l sub s).2.2):=by
 unfold Zap;have e:(shS A.length M s).at_=A.length+s.at_:=rfl;simp only[e,Zef,Nat.add_assoc,Zgm,ZaH,Zbm,ZmB,Zci];split
 ·split<;>rfl
 split
 ·split<;>rfl
 split
 ·split
  ·rfl
  ·have e1:∀q,(shS A.length M q).e=q.e:=fun _=>rfl;simp only[e1];split<;>rfl
 split
 ·next hn=>
  have:=Zbh hn;rw[Zk1 (show(s.to (s.at_+1)).at_≤_ from this)]
 ·rfl
theorem ZiB:∀(n:Nat) (sub:SV) (s:AdS),s.at_≤l.length→Zai (A++l) n sub (shS A.length M s)=((Zai l n sub s).1,shS A.length M (Zai l n sub s).2)
 |0,_,_,_=>rfl
 |n+1,sub,s,h=>by
  rw[Zai,Zai,Zoh sub h];have hf:=Ziy sub h;cases hr:Zap l sub s with
  |mk a b=>
   rw[hr]at hf;obtain⟨b,c⟩:=b;cases a with
   |true=>exact ZiB n b c hf
   |false=>rfl
theorem Zdl{sub sub':SV}{s s':AdS}(h:Zap l sub s=(true,sub',s')):s.at_<s'.at_∧s'.at_≤l.length:=by
 have hf:∀(q:AdS) (e:Int) (p:Nat),e≠0→((failC q e p).e==0)=true→False:=by
  intro q e p he hq;unfold failC at hq;split at hq
  ·exact he (by simpa using hq)
  ·next h0=>exact h0 (by simpa using hq)
 unfold Zap at h;split at h
 ·next hn=>
  have:=Zbh hn;simp only[Prod.mk.injEq]at h;obtain⟨h1,_,h3⟩:=h;split at h3
  ·next ha=>rw[if_pos ha]at h1;exact(hf _ _ _ (by decide) h1).elim
  ·rw[←h3];exact⟨Nat.lt_succ_self _,this⟩
 split at h
 ·next hn=>
  have:=Zbh hn;simp only[Prod.mk.injEq]at h;obtain⟨h1,_,h3⟩:=h;split at h3
  ·next ha=>rw[if_pos ha]at h1;exact(hf _ _ _ (by decide) h1).elim
  ·rw[←h3];exact⟨Nat.lt_succ_self _,this⟩
 split at h
 ·next hn=>
  have hlt:=Zbh hn;simp only at h;split at h
  ·simp only[Prod.mk.injEq]at h;exact(hf _ _ _ (by decide) h.1).elim
  ·simp only[Prod.mk.injEq]at h;obtain⟨h1,_,h3⟩:=h;split at h3
   ·next ha=>rw[if_pos ha]at h1;exact(hf _ _ _ (by decide) h1).elim
   ·next ha=>
    rw[if_neg ha]at h1;have hn0:=ZkV s.at_ (l.drop s.at_) 0 0;rw[List.length_drop]at hn0;unfold ZV at h1 h3;split at h3
    ·next h0=>
     rw[if_pos h0]at h1;rw[←h3];simp only at h1⊢;have hz:(nm s.at_ (l.drop s.at_) 0 0).2.2=0:=by simpa using h1
     refine⟨?_,by omega⟩;have hnm:∀(r:List UInt8) (n c:Nat),(nm s.at_ r n c).2.2=0→s.at_+c≤(nm s.at_ r n c).2.1∧0<(nm s.at_ r n c).2.1-s.at_:=by
      intro r;induction r with
      |nil=>intro n c h;rw[nm]at h⊢;split at h;cases h;next hc=>rw[if_neg hc];simp only;omega
      |cons y r ih=>
       intro n c h;rw[nm]at h⊢;split at h
       ·next hd=>
        rw[if_pos hd];split at h
        ·cases h
        ·next hc=>rw[if_neg hc];have:=ih _ _ h;omega
       ·next hd=>
        rw[if_neg hd];split at h
        ·cases h
        ·next hc=>rw[if_neg hc];simp only;omega
     have:=hnm _ _ _ hz;omega
    ·next h0=>
     rw[if_neg h0]at h1;exact(h0 (by simpa using h1)).elim
 split at h
 ·simp at h
 ·simp at h
theorem ZeN:∀(n m:Nat) (sub:SV) (s:AdS),s.at_≤l.length→l.length<n+s.at_→l.length<m+s.at_→Zai l n sub s=Zai l m sub s
 |0,m,sub,s,h,hn,_=>by omega
 |n+1,0,sub,s,h,_,hm=>by omega
 |n+1,m+1,sub,s,h,hn,hm=>by
  rw[Zai,Zai];cases hr:Zap l sub s with
  |mk a b=>
   obtain⟨b,c⟩:=b;cases a with
   |true=>
    obtain⟨h1,h2⟩:=Zdl hr;exact ZeN n m b c h2 (by omega) (by omega)
   |false=>rfl
theorem ZpL(x:Bool)(h:s.at_≤l.length):Zet x (A++l) (shS A.length M s)=((Zet x l s).1,shS A.length M (Zet x l s).2):=by
 unfold Zet;have h1:=Za7 h;have h2:=Zeg x (Zv l s).1 h1;have h3:=ZaW (Zv l s).1 false h2;rw[ZiA h];simp only;rw[ZmE x _ h1];simp only;rw[Zfp _ _ h2];have e1:∀q,(shS A.length M q).e=q.e:=fun _=>rfl;have e2:∀q,(shS A.length M q).at_=A.length+q.at_:=fun _=>rfl;simp only[e1,e2,ZaH];split
 ·rfl
 ·split
  ·rfl
  ·split
   ·rfl
   ·rw[ZiB _ _ _ h3];rw[ZeN ((A++l).length+2) (l.length+2) _ _ h3 (by rw[List.length_append];omega) (by omega)]
theorem ZmF(h:s.at_≤l.length):ZaP (A++l) (shS A.length M s)=((ZaP l s).1,shS A.length M (ZaP l s).2):=by
 unfold ZaP;have h1:=Za7 h;have h2:=ZaW (Zv l s).1 false h1;rw[ZiA h];simp only;rw[Zfp _ _ h1];simp only;rw[Zfp _ _ h2];have e1:∀q,(shS A.length M q).e=q.e:=fun _=>rfl;have e2:∀q,(shS A.length M q).at_=A.length+q.at_:=fun _=>rfl;simp only[e1,e2,ZaH];split
 ·rfl
 ·split
  ·rfl
  ·split<;>rfl
def shC(a:Nat)(c:CV):CV:={c with at_:=a+c.at_}
theorem Zoi(x:Bool)(c:CV)(h:s.at_≤l.length):argsC x (A++l) (shC A.length c) (shS A.length M s)=((argsC x l c s).1,shC A.length (argsC x l c s).2.1,shS A.length M (argsC x l c s).2.2):=by
 unfold argsC;have e1:(shC A.length c).name=c.name:=rfl;have e2:(shC A.length c).at_=A.length+c.at_:=rfl;rw[e1,e2,Ziz true h,Ziz false h,ZmD _ h,Zk1 h,ZpL x h,ZmF h];split
 ·rfl
 split
 ·rfl
 split
 ·rfl
 split
 ·rfl
 split
 ·rfl
 split
 ·rfl
 split<;>rfl
theorem ZpM(h:s.at_≤l.length):Zjq (A++l) (shS A.length M s)=shS A.length M (Zjq l s):=by
 unfold Zjq;have e2:∀q,(shS A.length M q).at_=A.length+q.at_:=fun _=>rfl;simp only[e2,Zdv _ h,Zgm,Zef,ZaH,ZhF,List.length_append];by_cases c1:l.length≤(s.to (bhd l [32,9] s.at_)).at_∨ZI l (s.to (bhd l [32,9] s.at_)) [59,10,35]=true
 ·rw[if_pos c1,if_pos (c1.imp (by omega) id)]
 ·rw[if_neg c1,if_neg (fun h=>c1 (h.imp (by omega) id))];split<;>rfl
end
section
variable {A l:List UInt8} {M:List (Nat×List UInt8)} {s:AdS}
def ZlL(a:Nat)(M:List (Nat×List UInt8)):ZlK→ZlK
 | .inl z=>.inl (z.1,a+z.2)
 | .inr r=>.inr (r.1,shS a M r.2)
def Zqz(a:Nat)(M:List (Nat×List UInt8)):ZpG→ZpG
 | .inl z=>.inl (z.1,a+z.2)
 | .inr r=>.inr (r.1,shS a M r.2)
theorem Zoj:Zdj (A++l) (shS A.length M s)=ZlL A.length M (Zdj l s):=by
 unfold Zdj;have e:(shS A.length M s).at_=A.length+s.at_:=rfl;rw[e,Zbm,ZmB];simp only;split
 ·rfl
 ·split<;>rfl
theorem Zok:moreD (A++l) (shS A.length M s)=ZlL A.length M (moreD l s):=by
 unfold moreD;have e:(shS A.length M s).at_=A.length+s.at_:=rfl;rw[e,Nat.add_assoc,Zbm,ZmB];simp only;split
 ·rfl
 ·simp[ZlL,shS,shM]
theorem Zgp(x:Bool)(d:UInt8)(h:s.at_≤l.length):ZaE x (A++l) d (shS A.length M s)=ZlL A.length M (ZaE x l d s):=by
 unfold ZaE;have e:(shS A.length M s).at_=A.length+s.at_:=rfl;rw[e,Znm d true h];simp only;split
 ·rfl
 ·split
  ·rfl
  ·cases Zac prg x (bt l d true (l.length+1) s.at_ []).1 with
   |inl z=>rfl
   |inr z=>
    simp only[ZlL,shS,List.map_append,List.map_map,List.append_assoc]
    congr 5
    apply List.map_congr_left;intro m _;simp[shM,Nat.add_assoc]
theorem Zk2(x sec:Bool)(h:s.at_≤l.length)(he:s.e=0):addrD x (A++l) sec (shS A.length M s)=ZlL A.length M (addrD x l sec s):=by
 unfold addrD;have e:(shS A.length M s).at_=A.length+s.at_:=rfl;have em:(shS A.length M s).marks=M++s.marks.map (shM A.length):=rfl;rw[e,em,Zee];split
 ·exact Zoj
 split
 ·rfl
 split
 ·next hb=>
  have hlt:s.at_<l.length:=ZaO (by rw[hb];decide);have:=Zgp (A:=A) (M:=M) (s:=⟨s.at_+1,s.marks,0⟩) x 47 (show s.at_+1≤l.length from hlt);rw[←this];rfl
 split
 ·next hb=>
  have hlt:s.at_<l.length:=ZaO (by rw[hb];decide);rw[Nat.add_assoc,Zee,List.length_append];by_cases hc:l.length≤s.at_+1∨byt l (s.at_+1)=92∨byt l (s.at_+1)=10
  ·rw[if_pos hc,if_pos (hc.imp (by omega) id)];rfl
  ·rw[if_neg hc,if_neg (fun h=>hc (h.imp (by omega) id))];have:=Zgp (A:=A) (M:=M) (s:=⟨s.at_+1+1,s.marks,0⟩) x (byt l (s.at_+1)) (show s.at_+1+1≤l.length by omega);rw[←this];rfl
 split
 ·exact Zok
 ·rfl
theorem addrD_le{x sec:Bool}{s':AdS}{a:AV}(h:s.at_≤l.length)(he:s.e=0)(hr:addrD x l sec s=.inr (a,s')):s'.at_≤l.length∧s'.e=0:=⟨(Zam h he hr).le,(Zam h he hr).ok⟩
theorem Zol(x:Bool)(h:s.at_≤l.length):Zbc x (A++l) (shS A.length M s)=ZlL A.length M (Zbc x l s):=by
 unfold Zbc;have e:(shS A.length M s).at_=A.length+s.at_:=rfl;have em:(shS A.length M s).marks=M++s.marks.map (shM A.length):=rfl;have hb:=(bhd_in [32,9] h).2;rw[e,em,Zdv _ h,Zee];split
 ·next h44=>
  have hlt:bhd l [32,9] s.at_<l.length:=ZaO (by rw[h44];decide);rw[Nat.add_assoc,Zdv _ (by omega)];have hb2:=(bhd_in [32,9] (show bhd l [32,9] s.at_+1≤l.length from hlt)).2;have:=Zk2 (A:=A) (M:=M) (s:=⟨bhd l [32,9] (bhd l [32,9] s.at_+1),s.marks,0⟩) x true hb2 rfl;rw[show(⟨A.length+bhd l [32,9] (bhd l [32,9] s.at_+1),M++s.marks.map (shM A.length),0⟩:AdS)=shS A.length M ⟨bhd l [32,9] (bhd l [32,9] s.at_+1),s.marks,0⟩from rfl,this];cases addrD x l true ⟨bhd l [32,9] (bhd l [32,9] s.at_+1),s.marks,0⟩with
  |inl z=>rfl
  |inr z=>
   simp only[ZlL];split
   ·rfl
   ·rfl
 ·rfl
theorem Znn(a b:AV)(h:s.at_≤l.length):ZgT (A++l) a b (shS A.length M s)=Zqz A.length M (ZgT l a b s):=by
 unfold ZgT;have e:(shS A.length M s).at_=A.length+s.at_:=rfl;have em:(shS A.length M s).marks=M++s.marks.map (shM A.length):=rfl;have hb:=(bhd_in [32,9] h).2;rw[e,em,Zdv _ h,Zee];split
 ·next h33=>
  have hlt:bhd l [32,9] s.at_<l.length:=ZaO (by rw[h33];decide);rw[Nat.add_assoc,Zdv _ (by omega),Zee];split<;>rfl
 ·rfl
theorem ZiC{x:Bool}{s':AdS}{a:AV}(h:s.at_≤l.length)(hr:Zbc x l s=.inr (a,s')):s'.at_≤l.length∧s'.e=0:=by
 unfold Zbc at hr;split at hr
 ·next h44=>
  have hlt:bhd l [32,9] s.at_<l.length:=ZaO (by rw[h44];decide);have hb2:=(bhd_in [32,9] (show bhd l [32,9] s.at_+1≤l.length from hlt)).2;split at hr
  ·cases hr
  ·next b s1 hp=>
   split at hr
   ·cases hr
   ·injection hr with hr;injection hr with h1 h2;subst h2;exact addrD_le (s:=⟨_,_,0⟩) hb2 rfl hp
 ·injection hr with hr;injection hr with h1 h2;subst h2;exact⟨(bhd_in [32,9] h).2,rfl⟩
theorem ZmG(x:Bool)(h:s.at_≤l.length)(he:s.e=0):ZX x (A++l) (shS A.length M s)=Zqz A.length M (ZX x l s):=by
 unfold ZX;rw[Zk2 x false h he];cases ha:addrD x l false s with
 |inl z=>rfl
 |inr z=>
  obtain⟨a,s1⟩:=z;obtain⟨h1,e1⟩:=addrD_le h he ha;simp only[ZlL];by_cases h0:a.kind=0
  ·simp only[if_pos h0];exact Znn a AV.zero h1
  ·simp only[if_neg h0];rw[Zol x h1];cases hp:Zbc x l s1 with
   |inl z=>rfl
   |inr z=>
    obtain⟨b,s2⟩:=z;simp only[ZlL];exact Znn a b (ZiC h1 hp).1
theorem Zcb{e:Int}{p:Nat}(he:e≠0):(failC s e p).e≠0:=by unfold failC;split<;>assumption
theorem ZpN(x:Bool)(g:GV)(h:s.at_≤l.length):(ZbY x (A++l) g (shS A.length M s)).2=shS A.length M (ZbY x l g s).2∧((ZbY x l g s).2.e=0→(ZbY x (A++l) g (shS A.length M s)).1=shC A.length (ZbY x l g s).1):=by
 unfold ZbY;have e2:(shS A.length M s).at_=A.length+s.at_:=rfl;rw[e2,List.length_append,Zee];by_cases c1:l.length≤s.at_
 ·rw[if_pos c1,if_pos (by omega)];exact⟨ZaH _ _ _,fun h=>(Zcb (by decide) h).elim⟩
 ·rw[if_neg c1,if_neg (by omega)];simp only[ZaH,ZhF];have hif:(if ZM (byt l s.at_)<0 then shS A.length M (failC s 13 s.at_)else if ZM (byt l s.at_)<ZcD g then shS A.length M (failC s 19 s.at_)else if byt l s.at_=81∨byt l s.at_=84∨byt l s.at_=122 then shS A.length M (Zan s s.at_ [byt l s.at_])else shS A.length M s)=
   shS A.length M (if ZM (byt l s.at_)<0 then failC s 13 s.at_ else if ZM (byt l s.at_)<ZcD g then failC s 19 s.at_ else if byt l s.at_=81∨byt l s.at_=84∨byt l s.at_=122 then Zan s s.at_ [byt l s.at_]else s):=by
   split
   ·rfl
   ·split
    ·rfl
    ·split<;>rfl
  rw[hif];generalize hs1:(if ZM (byt l s.at_)<0 then failC s 13 s.at_ else if ZM (byt l s.at_)<ZcD g then failC s 19 s.at_ else if byt l s.at_=81∨byt l s.at_=84∨byt l s.at_=122 then Zan s s.at_ [byt l s.at_]else s)=s1;have h1:s1.e=0→s1.at_+1≤l.length:=by
   intro h0;rw[←hs1]at h0⊢;split
   ·next hc=>rw[if_pos hc]at h0;exact(Zcb (by decide) h0).elim
   ·next hc=>
    rw[if_neg hc]at h0;split
    ·next hd=>rw[if_pos hd]at h0;exact(Zcb (by decide) h0).elim
    ·split
     ·show s.at_+1≤_;omega
     ·show s.at_+1≤_;omega
  have e1:(shS A.length M s1).e=s1.e:=rfl;rw[e1];by_cases h0:s1.e=0
  ·have h0':¬s1.e≠0:=fun h=>h h0;rw[if_neg h0',if_neg h0'];have e3:(shS A.length M s1).to ((shS A.length M s1).at_+1)=shS A.length M (s1.to (s1.at_+1)):=by simp[shS,AdS.to,Nat.add_assoc]
   have e4:({CV.zero with at_:=A.length+s.at_,guard:=g,name:=byt l s.at_}:CV)=shC A.length {CV.zero with at_:=s.at_,guard:=g,name:=byt l s.at_}:=rfl;rw[e3,e4,Zoi x _ (show(s1.to (s1.at_+1)).at_≤_ from h1 h0)];have hin:=ZdN (l:=l) (s:=s1.to (s1.at_+1)) x {CV.zero with at_:=s.at_,guard:=g,name:=byt l s.at_} (h1 h0);generalize argsC x l {CV.zero with at_:=s.at_,guard:=g,name:=byt l s.at_} (s1.to (s1.at_+1))=r at hin⊢;obtain⟨r1,r2,r3⟩:=r;simp only at hin⊢;have e5:(shS A.length M r3).e=r3.e:=rfl;rw[e5];split
   ·exact⟨ZpM hin,fun _=>rfl⟩
   ·exact⟨rfl,fun _=>rfl⟩
  ·rw[if_pos h0,if_pos h0];exact⟨rfl,fun h=>(h0 h).elim⟩
theorem Zom(x:Bool)(g:GV)(h:s.at_≤l.length):(ZbY x l g s).2.at_≤l.length:=by
 unfold ZbY;split
 ·exact ZO h (Nat.le_refl _)
 ·next c1=>
  simp only;generalize hs1:(if ZM (byt l s.at_)<0 then failC s 13 s.at_ else if ZM (byt l s.at_)<ZcD g then failC s 19 s.at_ else if byt l s.at_=81∨byt l s.at_=84∨byt l s.at_=122 then Zan s s.at_ [byt l s.at_]else s)=s1;have h1:s1.at_≤l.length:=by
   rw[←hs1];split
   ·exact ZO h h
   ·split
    ·exact ZO h h
    ·split<;>exact h
  have h2:s1.e=0→s1.at_+1≤l.length:=by
   intro h0;rw[←hs1]at h0⊢;split
   ·next hc=>rw[if_pos hc]at h0;exact(Zcb (by decide) h0).elim
   ·next hc=>
    rw[if_neg hc]at h0;split
    ·next hd=>rw[if_pos hd]at h0;exact(Zcb (by decide) h0).elim
    ·split
     ·show s.at_+1≤_;omega
     ·show s.at_+1≤_;omega
  split
  ·exact h1
  ·next h0=>
   have hin:=ZdN (l:=l) (s:=s1.to (s1.at_+1)) x {CV.zero with at_:=s.at_,guard:=g,name:=byt l s.at_} (h2 (Decidable.not_not.1 h0));split
   ·unfold Zjq;simp only;have hb:=(bhd_in [32,9] hin).2;split
    ·exact hb
    ·split
     ·exact hb
     ·exact ZO (show(AdS.to _ _).at_≤_ from hb) hb
   ·exact hin
theorem Zk3{a b:AV}{g:GV}{s':AdS}(h:s.at_≤l.length)(hr:ZgT l a b s=.inr (g,s')):s'.at_≤l.length:=by
 unfold ZgT at hr;have hb:=(bhd_in [32,9] h).2;split at hr
 ·next h33=>
  have hlt:bhd l [32,9] s.at_<l.length:=ZaO (by rw[h33];decide);have hb2:=(bhd_in [32,9] (show bhd l [32,9] s.at_+1≤l.length from hlt)).2;split at hr
  ·cases hr
  ·injection hr with hr;injection hr with h1 h2;subst h2;exact hb2
 ·injection hr with hr;injection hr with h1 h2;subst h2;exact hb
theorem guardD_le{x:Bool}{g:GV}{s':AdS}(h:s.at_≤l.length)(he:s.e=0)(hr:ZX x l s=.inr (g,s')):s'.at_≤l.length:=by
 unfold ZX at hr;cases ha:addrD x l false s with
 |inl z=>rw[ha]at hr;cases hr
 |inr z=>
  obtain⟨a,s1⟩:=z;obtain⟨h1,e1⟩:=addrD_le h he ha;rw[ha]at hr;simp only at hr;by_cases h0:a.kind=0
  ·simp only[if_pos h0]at hr;exact Zk3 h1 hr
  ·simp only[if_neg h0]at hr;cases hp:Zbc x l s1 with
   |inl z=>rw[hp]at hr;cases hr
   |inr z=>
    obtain⟨b,s2⟩:=z;rw[hp]at hr;exact Zk3 (ZiC h1 hp).1 hr
def ZqA(a:Nat):Zqc→Zqc
 | .inl z=>.inl (z.1,a+z.2)
 | .inr r=>.inr (shC a r.1,shS a [] r.2)
theorem Zon(x:Bool){p:Nat}(h:p≤l.length):Zeu x (A++l) (A.length+p)=ZqA A.length (Zeu x l p):=by
 unfold Zeu;have:=ZmG (A:=A) (l:=l) (M:=[]) (s:=⟨p,[],0⟩) x h rfl;rw[show(⟨A.length+p,[],0⟩:AdS)=shS A.length [] ⟨p,[],0⟩from rfl,this];cases hg:ZX x l ⟨p,[],0⟩with
 |inl z=>rfl
 |inr z=>
  obtain⟨g,s1⟩:=z;have h1:=guardD_le (s:=⟨p,[],0⟩) h rfl hg;simp only[Zqz];obtain⟨c1,c2⟩:=ZpN (A:=A) (M:=[]) x g h1;rw[c1];have e1:(shS A.length [] (ZbY x l g s1).2).e=(ZbY x l g s1).2.e:=rfl;rw[e1];by_cases h0:(ZbY x l g s1).2.e=0
  ·have h0':¬(ZbY x l g s1).2.e≠0:=fun h=>h h0;rw[if_neg h0',if_neg h0'];simp only[ZqA]
   congr 1
   exact Prod.ext (c2 h0) c1
  ·rw[if_pos h0,if_pos h0];rfl
end
theorem Zcj(x:Bool)(l:List UInt8)(c:CV)(s:AdS):(argsC x l c s).2.1.at_=c.at_∧(argsC x l c s).2.1.name=c.name∧(argsC x l c s).2.1.guard=c.guard:=by
 unfold argsC;split
 ·exact⟨rfl,rfl,rfl⟩
 split
 ·exact⟨rfl,rfl,rfl⟩
 split
 ·exact⟨rfl,rfl,rfl⟩
 split
 ·exact⟨rfl,rfl,rfl⟩
 split
 ·exact⟨rfl,rfl,rfl⟩
 split
 ·exact⟨rfl,rfl,rfl⟩
 split<;>exact⟨rfl,rfl,rfl⟩
theorem Zk4{x:Bool}{l:List UInt8}{g:GV}{s:AdS}(h:(ZbY x l g s).2.e=0):s.at_<l.length∧0≤ZM (byt l s.at_)∧¬ZM (byt l s.at_)<ZcD g∧(ZbY x l g s).1.at_=s.at_∧(ZbY x l g s).1.name=byt l s.at_∧(ZbY x l g s).1.guard=g:=by
 unfold ZbY at h⊢;split at h
 ·exact(Zcb (by decide) h).elim
 ·next c1=>
  rw[if_neg c1];simp only at h⊢;generalize hs1:(if ZM (byt l s.at_)<0 then failC s 13 s.at_ else if ZM (byt l s.at_)<ZcD g then failC s 19 s.at_ else if byt l s.at_=81∨byt l s.at_=84∨byt l s.at_=122 then Zan s s.at_ [byt l s.at_]else s)=s1 at h⊢;split at h
  ·next h0=>exact(h0 h).elim
  ·next h0=>
   rw[if_neg h0];have h0:s1.e=0:=Decidable.not_not.1 h0;have hc:¬ZM (byt l s.at_)<0:=fun hc=>by rw[←hs1,if_pos hc]at h0;exact Zcb (by decide) h0
   have hd:¬ZM (byt l s.at_)<ZcD g:=fun hd=>by rw[←hs1,if_neg hc,if_pos hd]at h0;exact Zcb (by decide) h0
   have hk:=Zcj x l {CV.zero with at_:=s.at_,guard:=g,name:=byt l s.at_} (s1.to (s1.at_+1));refine⟨by omega,by omega,hd,?_⟩;split<;>exact⟨hk.1,hk.2.1,hk.2.2⟩
end Go.Proofs.YtkfddjopbocpkaaGreatDoor
