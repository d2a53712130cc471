/- Lemmas of this claim. -/
import Derived.Test.YtkfddjopbocpkaaGreatDoorN22
set_option linter.unusedVariables false
set_option linter.unusedSimpArgs false
set_option maxRecDepth 100000
set_option maxHeartbeats 4000000
namespace Go.Proofs.YtkfddjopbocpkaaGreatDoor
open Go.Lib (hid)
open Go.RowKit
theorem ZN(w:World)(g:Nat)(cs:Array Value):Fr (fun k=>k=g) w (w.setRow g cs):=⟨rfl,rfl,rfl,by simp,fun k _ hk=>setRow_other w g k cs hk⟩
theorem info_Gd:(Tryz.prog.info? 30).map (·.size)=some 9:=by kernel_rfl
abbrev gcel(A B:AV)(u1 u2:Value)(no:Bool):Array Value:= #[.int .i64 A.kind,.int .i64 A.line,.string ⟨A.text.toArray⟩,u1,.int .i64 B.kind,.int .i64 B.line,.string ⟨B.text.toArray⟩,u2,.bool no]
theorem gcel_one{A B:AV}{u1 u2:Value}{no:Bool}(h1:u1.oneCell'=true)(h2:u2.oneCell'=true):(gcel A B u1 u2 no).all (·.oneCell')=true:=by simp[gcel,Value.oneCell']at *;exact⟨h1,h2⟩
theorem info_G9(A B:AV)(u1 u2:Value)(no:Bool):(Tryz.prog.info? 30).map (·.size)=some (gcel A B u1 u2 no).size:=info_Gd
def ZsC(b:Nat)(l:List UInt8)(x:Bool)(S O:Nat→Prop)(g r:Nat)(A B:AV)(u1:Value)(p:Nat)(ms:List (Nat×List UInt8))(w1 w':World):Prop:=
 ∃S2 u2,ARd b l x ⟨p,ms,0⟩ S2 w'∧¬S2 g∧Stp S w1 (GS S2 g) w'∧w'.heap[g]? =some (.cells (gcel A B u1 u2 false) 30 (0,0))∧RN (SO (GS S2 g) (GS O r)) w' A.tree u1∧RN (SO (GS S2 g) (GS O r)) w' B.tree u2
theorem RN.one{S:Nat→Prop}{w:World}{t:Nd}{u:Value}(h:RN S w t u):u.oneCell'=true:=by rcases h.shape with rfl|⟨i,y,rfl⟩<;>rfl
theorem ZaM(w:World)(z cs:Array Value)(T:TypeId):((w.alloc (.cells z T)).setRow w.heap.size cs).heap[w.heap.size]? =some (.cells cs T (0,0))∧Fr nob w ((w.alloc (.cells z T)).setRow w.heap.size cs)∧((w.alloc (.cells z T)).setRow w.heap.size cs).heap.size=w.heap.size+1:=
 ⟨setRow_heap _ _ _ _ _ _ (newAt _ _),((Fr.refl nob w).alloc _).trans (ZN _ _ _) (fun i hi e=>by have e:i=w.heap.size:=e;omega),by simp[World.setRow,newAt]⟩
theorem Zst{b:Nat}{l:List UInt8}{x:Bool}{s:AdS}{S O S2:Nat→Prop}{w w1 wZ:World}{g:Nat}{tA tB:Nd}{u1 u2:Value}{a0 a1 a2 a3 a4 a5 a6 a7 a8:Value}{T:TypeId}(f1:Fr nob w w1)(hS:∀k,S k→k<w.heap.size)(hlt:w.heap.size<w1.heap.size)
 (hz:w1.heap[w.heap.size]? =some (.cells #[a0,a1,a2,a3,a4,a5,a6,a7,a8] T (0,0))) (hX:ARd b l x s S2 wZ) (st:Stp S w1 (GS S2 g) wZ) (hr1:RN (SO (GS S2 g) (GS O w.heap.size)) wZ tA u1) (hr2:RN (SO (GS S2 g) (GS O w.heap.size)) wZ tB u2) (cs:Array Value):
 (wZ.setRow w.heap.size cs).heap[w.heap.size]? =some (.cells cs T (0,0))∧ARd b l x s (GS S2 g) (wZ.setRow w.heap.size cs)∧Stp S w (GS S2 g) (wZ.setRow w.heap.size cs)∧RN (SO (GS S2 g) O) (wZ.setRow w.heap.size cs) tA u1∧RN (SO (GS S2 g) O) (wZ.setRow w.heap.size cs) tB u2:=by
 have f:=ZN wZ w.heap.size cs;have hn:=ZE hlt hS st;have s1:Stp S w (GS S2 g) wZ:=(Stp.of f1).trans st;obtain⟨mv,h⟩:=hX;have k:=h.keep f (fun e=>hn (.inl (e▸h.me))) (fun k hk e=>hn (.inl (e▸(h.nm k hk).2)));have rn:∀{t:Nd} {u:Value},RN (SO (GS S2 g) (GS O w.heap.size)) wZ t u→RN (SO (GS S2 g) O) (wZ.setRow w.heap.size cs) t u:=fun h=>RN.keep f (fun _ _ e=>.inr (.inr e)) (fun _ _ hx=>hx.elim .inl (fun y=>.inr (.inl y))) _ _ h;exact⟨setRow_heap _ _ _ _ _ _ (Zbl rfl hS hz st),⟨mv,k.blk,k.ma,fun j hj=>⟨(k.nm j hj).1,.inl (k.nm j hj).2⟩,.inl k.me⟩,
  ⟨s1.fr.trans f (fun i hi e=>by have e:i=w.heap.size:=e;omega),s1.old,fun hl k hk=>by have:=s1.lt hl k hk;have:=f.size;omega⟩,rn hr1,rn hr2⟩
attribute [-go_sem] storeVar
theorem Zsw{w:World}{b j:Nat}{p:Bool}(hc:(w.cell? ⟨b,j,none⟩).isSome=true)(hf:w.frozen? ⟨b,j,none⟩=false):
 Sem.run Tryz.prog (storeVar 4 ⟨b,j,none⟩ (.bool p)) w=.ok () (w.setCell ⟨b,j,none⟩ (.bool p)):=by
 obtain⟨old,ho⟩:=Option.isSome_iff_exists.1 hc;have a:(Value.bool p).cells= #[.bool p]:=rfl;have hi:(Tryz.prog.info? 4).map (·.size)=some 1:=by kernel_rfl
 cases hq:Tryz.prog.info? 4 with
 |none=>rw[hq]at hi;cases hi
 |some q=>
  have hs:q.size=1:=by simpa[hq]using hi
  simp[storeVar,sizeOf,typeInfo,hq,a,hs,go_sem,ho,hf]
theorem Zsx{w:World}{b j:Nat}{i:Int}(hc:(w.cell? ⟨b,j,none⟩).isSome=true)(hf:w.frozen? ⟨b,j,none⟩=false):
 Sem.run Tryz.prog (storeVar 3 ⟨b,j,none⟩ (.int .i64 i)) w=.ok () (w.setCell ⟨b,j,none⟩ (.int .i64 i)):=by
 obtain⟨old,ho⟩:=Option.isSome_iff_exists.1 hc;have a:(Value.int IntKind.i64 i).cells= #[.int .i64 i]:=rfl;have hi:(Tryz.prog.info? 3).map (·.size)=some 1:=by kernel_rfl
 cases hq:Tryz.prog.info? 3 with
 |none=>rw[hq]at hi;cases hi
 |some q=>
  have hs:q.size=1:=by simpa[hq]using hi
  simp[storeVar,sizeOf,typeInfo,hq,a,hs,go_sem,ho,hf]
attribute [local go_sem] Zsw Zsx
theorem Zsu(b:Nat)(l:List UInt8)(x:BF)(at0:Nat)(ms0:List (Nat×List UInt8))(S O:Nat→Prop)(w:World)(hl:l.length≤99000)(ha:at0≤l.length)(hm:ms0.length=0)(hS:∀k,S k→k<w.heap.size)(hO:∀k,O k→k<w.heap.size)(W0:World)(hE:Env W0)(hW:Fr nob W0 w)(hSW:∀k,S k→W0.heap.size≤k)(h:ARd b l x ⟨at0,ms0,0⟩ S w)(A:AV)(at1:Nat)(ms1:List (Nat×List UInt8))(hR:ZaC x l false ⟨at0,ms0,0⟩=.inr (A,⟨at1,ms1,0⟩))
 (B:AV) (at2:Nat) (ms2:List (Nat×List UInt8)) (hB:(A.kind=0∧B=AV.zero∧at2=at1∧ms2=ms1)∨(A.kind≠0∧Zbc x l ⟨at1,ms1,0⟩=.inr (B,⟨at2,ms2,0⟩))):
 Calls Tryz.prog 51 #[.pointer (some ⟨b,0,none⟩)] w (ZaV b l x S O w (ZgT l A B ⟨at2,ms2,0⟩)):=by
 have hl:l.length≤100000:=Nat.le_trans hl (by decide);obtain⟨w1,y⟩:∃w1,w1=w.alloc (.cells zG 30):=⟨_,rfl⟩;have f1:Fr nob w w1:=by rw[y];exact(Fr.refl _ _).alloc _
 have hz:w1.heap[w.heap.size]? =some (.cells zG 30 (0,0)):=by rw[y];exact newAt _ _
 have h0:w1.heap.size=w.heap.size+1:=by rw[y];simp
 have h1:=h.on f1;have a2:∀k,S k→k<w1.heap.size:=fun k hk=>by have:=hS k hk;omega
 have a0:∀k,GS O w.heap.size k→k<w1.heap.size:=fun k hk=>by
  rcases hk with hk|hk
  ·have:=hO k hk;omega
  ·have hk:k=w.heap.size:=hk;omega
 have a5:=Zal b l x false ⟨at0,ms0,0⟩ S (GS O w.heap.size) w1 (by omega) ha (by show ms0.length≤_;omega) rfl a2 a0 W0 hE (hW.trans' f1) hSW h1;rw[hR]at a5;have a8:=Zam (s:=⟨at0,ms0,0⟩) ha rfl hR;have d9:at1≤l.length:=a8.le;have i0:ms1.length≤99001:=by have:=a8.mks;simp only at this;omega
 have g7:at2≤l.length:=by
  rcases hB with⟨_,_,rfl,_⟩|⟨_,e⟩
  ·exact d9
  ·exact(pairD_in e).le
 have c0:=hid a5;have d5:=hid y;have HS:=hid hS;have F1:=hid f1;have HZ:=hid hz;have M:=hid (lt_heap hz);have d4:=hid a2;have HE:=hid hE;have W:=hid (hW.trans' f1);have V:=hid hSW;have d2:=hid a0;have HB:=hid hB;clear h h1 y hS f1 hz hO hE hW hSW h0 a2 a0 a5 hR a8 hB;go_enter Tryz.func51,Tryz.ntmps51;go_wp2_with(rw[←d5.out]);refine c0.out.mono ?_;intro e w2 he;obtain⟨v,S1,rfl,⟨u1,rfl,b3⟩,h2,m⟩:=he;have u:=m.lt d4.out;have C:=hid b3.one;obtain⟨i,f3,e5⟩:=ZaM w2 zG (gcel A AV.zero u1 .nilIface false) 30;obtain⟨w3,b4⟩:∃w3,w3=(w2.alloc (.cells zG 30)).setRow w2.heap.size (gcel A AV.zero u1 .nilIface false):=⟨_,rfl⟩;rw[←b4]at i f3 e5;have b6:¬S1 w2.heap.size:=fun h=>Nat.lt_irrefl _ (u _ h);have h3:=h2.on f3;have e4:w1.heap.size≤w2.heap.size:=m.fr.size;have f0:Stp S w1 (GS S1 w2.heap.size) w3:=(m.trans (Stp.of f3)).plus e4 (lt_heap i)
 have a:RN (SO (GS S1 w2.heap.size) (GS O w.heap.size)) w3 A.tree u1:=RN.keep f3 (fun _ _ x=>x.elim) (fun k hk hx=>by
  rcases hx with(hx|hx)|hx
  ·exact .inl hx
  ·have hx:k=w2.heap.size:=hx;omega
  ·exact .inr hx) _ _ b3
 have d6:=hid b4;obtain⟨e7,E⟩:=h3;have r3:=Zd E.blk _ (Fr.refl _ _);have g4:=cell_at (v:=.int .i64 A.kind) (j:=0) i rfl;have d3:=hid (fun(hk:Zbc x l ⟨at1,ms1,0⟩=.inr (B,⟨at2,ms2,0⟩))=>by
  have:=Zfo b l x ⟨at1,ms1,0⟩ S1 (GS O w.heap.size) w2.heap.size A.kind A.line A.text u1 w3 hl d9 (by show ms1.length≤_;omega) rfl (fun k hk=>by have:=u k hk;have:=f3.size;omega) (fun k hk=>by have:=d2.out k hk;have:=f3.size;omega) W0 HE.out ((m.trans (Stp.of f3)).from W.out V.out) (fun k hk=>by by_cases h:k<w1.heap.size;exact V.out k (m.old k h hk);have:=W.out.size;omega) ⟨e7,E⟩ b6 i;rw[hk]at this;exact this)
 have c9:=hid (show ARd b l x ⟨at1,ms1,0⟩ S1 w3 from⟨e7,E⟩);have d7:=hid b6;have Y:=hid f0;have c3:=hid i;have R1:=hid a;clear b3 h2 m b4 f3 E i b6 f0 e4 u a e5;go_upto_if 17 with(first|rw[←d6.out]|refine wpList_store_row rfl 30 _ _ rfl w2.heap.size (gcel A AV.zero u1 .nilIface false) rfl rfl 30 zG (newAt _ _) (info_G9 _ _ _ _ _) rfl (gcel_one C.out rfl) ?_)
 go_cut [] (fun w'=>ZsC b l x S O w2.heap.size w.heap.size A B u1 at2 ms2 w1 w')
 case first=>
  rcases HB.out with⟨hk,rfl,rfl,rfl⟩|⟨hk,hp⟩
  ·have g8:(A.kind==0)=true:=by simp[hk]
   clear hk;go_wp2;go_meet
   case rel=>exact⟨S1,.nilIface,c9.out,d7.out,Y.out,c3.out,R1.out,by show RN _ _ .nil _;rw[RN]⟩
  ·have g8:(A.kind==0)=false:=by simpa using hk
   have f9:=hid (d3.out hp);clear hk hp;go_wp2_with fail;refine f9.out.mono ?_;rintro e wP ⟨rfl,S2,u2,hP,I,f2,t,c⟩;go_wp2;go_meet
   case rel=>exact⟨S2,u2,hP,I,Y.out.trans f2,t,f2.rn R1.out,RN.keep (Fr.refl nob wP) (fun _ _ x=>x.elim) (fun k _ hx=>by
    rcases hx with(hx|hx)|hx
    ·exact .inl hx
    ·exact .inr (.inr hx)
    ·exact .inr (.inl hx)) _ _ c⟩
 case rest=>
  clear d3 c9 d7 Y c3 R1 c0 r3 g4 HE W V d2 d4 d5 d6;obtain⟨S2,u2,hP,I,e6,t,a,c⟩:=hcut;have X:=hid c.one;obtain⟨pQ,J⟩:∃pQ,bhd l [32,9] at2=pQ:=⟨_,rfl⟩;have h8:pQ≤l.length:=by rw[←J];exact bhd_le _ _ _
  obtain⟨c1,e0⟩:∃c1,byt l pQ=c1:=⟨_,rfl⟩;obtain⟨h4,a1⟩:=hP;have rP:=Zd a1.blk _ (Fr.refl _ _);have a6:=Zi b l x ⟨at2,ms2,0⟩ S2 wc hl g7 ⟨h4,a1⟩;simp only[J]at a6;have f4:=hid a6;have f7:=hid t;have g:=hid I;have U:=hid e6;have Q:=hid a;have R:=hid c;have c7:=hid (lt_heap t);have N:=hid J;have n:=hid e0;clear a1 t I e6 a c a6 J e0;go_wp2_with fail;refine f4.out.mono ?_;rintro e wQ ⟨rfl,hQ,b7⟩;have b1:=Zt b l x ⟨pQ,ms2,0⟩ S2 wQ (by omega) hQ;simp only[n.out]at b1;have HQ:=hid hQ;have Z:=hid (b7.gs c7.out);have d1:=hid b1;have c4:=hid (b7.fr.heap f7.out g.out);clear hQ b7 rP b1;by_cases D:c1=33
  ·have i1:pQ<l.length:=ZaO (by rw[n.out,D];decide);subst D;have i2:IntKind.i64.wrap ((pQ:Int)+1)=pQ+1:=IntWalk.i64_in _ (by omega);obtain⟨pV,b2⟩:∃pV,bhd l [32,9] (pQ+1)=pV:=⟨_,rfl⟩;have h9:pV≤l.length:=by rw[←b2];exact bhd_le _ _ _
   obtain⟨c2,e1⟩:∃c2,byt l pV=c2:=⟨_,rfl⟩;have P:=hid b2;have L:=hid e1;clear b2 e1;go_wp2_with fail;refine d1.out.mono ?_;rintro e wR ⟨rfl,fR⟩;have H:=fR.heap c4.out (fun x=>x);have g5:(wR.cell? ⟨w2.heap.size,8,none⟩).isSome=true:=by rw[cell_at (v:=.bool false) (j:=8) H rfl];rfl
   have g6:=unfrozen_at H 8;obtain⟨wS,z⟩:∃wS,wS=wR.setCell ⟨w2.heap.size,8,none⟩ (.bool true):=⟨_,rfl⟩;have fS:Fr (fun k=>k=w2.heap.size) wR wS:=by rw[z];exact(Fr.refl (fun k=>k=w2.heap.size) wR).setCell (p:=⟨w2.heap.size,8,none⟩) (fun _=>rfl) _
   have g9:wS.heap.size=wR.heap.size:=by rw[z];simp[World.setCell]
   have e2:wS.heap[w2.heap.size]? =some (.cells (gcel A B u1 u2 true) 30 (0,0)):=by rw[z];simpa using Za H 8 (.bool true)
   obtain⟨h5,F⟩:=HQ.out.on fR;have G:=F.keep fS (fun e=>g.out (e▸F.me)) (fun k hk e=>g.out (e▸(F.nm k hk).2));have rS:=Zd G.blk _ (Fr.refl _ _);have a3:=G.turned 1 (.int .i64 ((pQ:Int)+1)) ⟨pQ+1,ms2,0⟩ (by simp) rfl;have K:=G.stp 1 (.int .i64 ((pQ:Int)+1));have p10:(wS.cell? ⟨b,1,none⟩).isSome=true:=by rw[rS.1.2.1];rfl
   obtain⟨wT,b5⟩:∃wT,wT=wS.setCell ⟨b,1,none⟩ (.int .i64 ((pQ:Int)+1)):=⟨_,rfl⟩;rw[←b5]at a3 K;have a9:=K.fr.heap e2 g.out;have e8:Stp (GS S2 w2.heap.size) wR (GS S2 w2.heap.size) wS:=⟨fS.mono (fun _ _ e=>.inr e),fun _ _ h=>h,fun hl k hk=>by have:=hl k hk;omega⟩;have e9:=(Z.out.trans (Stp.of fR)).trans (e8.trans (K.gs (by have:=c7.out;have:=Z.out.fr.size;have:=fR.size;omega)));have a7:=Zi b l x ⟨pQ+1,ms2,0⟩ S2 wT hl (by show pQ+1≤_;omega) ⟨h5,a3⟩;simp only[P.out]at a7;have g0:=hid z;have g1:=hid b5;have f8:=hid a9;have g2:=hid e9;have f5:=hid a7;have c8:=hid (lt_heap a9);clear F G a3 K z b5 H e2 a9 fS g9 e8 e9 fR a7;go_wp2_with(first|rw[←g0.out]|rw[←g1.out]);refine f5.out.mono ?_;rintro e wU ⟨rfl,hU,b8⟩;have b0:=Zt b l x ⟨pV,ms2,0⟩ S2 wU (by omega) hU;simp only[L.out]at b0;have HU:=hid hU;have d8:=hid (g2.out.trans (b8.gs c8.out));have d0:=hid b0
   have c5:=hid (b8.fr.heap f8.out g.out);clear hU b8 b0 rS g5 g6 p10;by_cases r:c2=33
   ·subst r;have HN:=hid (show ZgT l A B ⟨at2,ms2,0⟩=.inl (15,pV) by unfold ZgT;simp only;rw[N.out,if_pos n.out,P.out,if_pos L.out]);go_wp2_with fail;refine d0.out.mono ?_;rintro e wV ⟨rfl,fV⟩;obtain⟨h6,a4⟩:=HU.out.on fV;have rV:=Zd a4.blk _ (Fr.refl _ _);have e3:=fV.heap c5.out (fun x=>x);have f6:=hid (ZaB b l x ⟨pV,ms2,0⟩ S2 15 pV wV ⟨h6,a4⟩);have g3:=hid (d8.out.trans (Stp.of fV));have c6:=hid e3;clear a4 e3 fV;go_wp2_with fail;refine f6.out.mono ?_;rintro e wX ⟨rfl,hX,b9⟩;have f:=b9.fr.heap c6.out g.out;have d:=g3.out.trans (b9.gs (lt_heap c6.out));have st:=U.out.trans d;have a:=d.rn Q.out;have c:=d.rn R.out;clear b9 rV d;obtain⟨q1,q2,q3,q4,q5⟩:=Zst F1.out HS.out M.out HZ.out hX st a c (gcel A B u1 u2 true);have q:=hid (Zbl rfl HS.out HZ.out st);have Q1:=hid q1;have Q2:=hid q2;have Q3:=hid q3;have Q4:=hid q4;have Q5:=hid q5;have o:=hid f
    clear hX st f a c q1 q2 q3 q4 q5;go_wp2_with(first|refine wpList_load_row rfl 30 _ rfl w2.heap.size rfl 30 (gcel A B u1 u2 true) (0,0) _ o.out Tryz.underlying30 rfl (info_G9 _ _ _ _ _) ?_|refine wpList_store_row rfl 30 _ _ rfl w.heap.size (gcel A B u1 u2 true) rfl rfl 30 zG q.out (info_G9 _ _ _ _ _) rfl (gcel_one C.out X.out) ?_);(try simp only[Exit.inBlock,Exit.then]);exact bodyPost_ret (results_cell_row rfl _ _ w.heap.size _ _ _ _ rfl Q1.out Tryz.underlying30 rfl (info_G9 _ _ _ _ _)) rfl (by rw[HN.out];exact⟨⟨A,B,true⟩,_,_,_,rfl,⟨_,_,rfl,Q4.out.weak,Q5.out.weak⟩,Q2.out,Q3.out⟩)
   ·have h7:((c2.toNat:Int)==33)=false:=Zn (b:=33) r;have HN:=hid (show ZgT l A B ⟨at2,ms2,0⟩=.inr (⟨A,B,true⟩,⟨pV,ms2,0⟩) by unfold ZgT;simp only;rw[N.out,if_pos n.out,P.out,if_neg (by rw[L.out];exact r)]);go_wp2_with fail;refine d0.out.mono ?_;rintro e wV ⟨rfl,fV⟩;have hX:=HU.out.on fV;have f:=fV.heap c5.out (fun x=>x);have d:=d8.out.trans (Stp.of fV);have st:=U.out.trans d;have a:=d.rn Q.out;have c:=d.rn R.out;clear fV d;obtain⟨q1,q2,q3,q4,q5⟩:=Zst F1.out HS.out M.out HZ.out hX st a c (gcel A B u1 u2 true);have q:=hid (Zbl rfl HS.out HZ.out st);have Q1:=hid q1;have Q2:=hid q2;have Q3:=hid q3;have Q4:=hid q4;have Q5:=hid q5;have o:=hid f;clear hX st f a c q1 q2 q3 q4 q5;go_wp2_with(first|refine wpList_load_row rfl 30 _ rfl w2.heap.size rfl 30 (gcel A B u1 u2 true) (0,0) _ o.out Tryz.underlying30 rfl (info_G9 _ _ _ _ _) ?_|refine wpList_store_row rfl 30 _ _ rfl w.heap.size (gcel A B u1 u2 true) rfl rfl 30 zG q.out (info_G9 _ _ _ _ _) rfl (gcel_one C.out X.out) ?_)
    (try simp only[Exit.inBlock,Exit.then]);exact bodyPost_ret (results_cell_row rfl _ _ w.heap.size _ _ _ _ rfl Q1.out Tryz.underlying30 rfl (info_G9 _ _ _ _ _)) rfl (by rw[HN.out];exact⟨_,_,rfl,⟨_,_,rfl,Q4.out,Q5.out⟩,Q2.out,Q3.out⟩)
  ·have h7:((c1.toNat:Int)==33)=false:=Zn (b:=33) D;have HN:=hid (show ZgT l A B ⟨at2,ms2,0⟩=.inr (⟨A,B,false⟩,⟨pQ,ms2,0⟩) by unfold ZgT;simp only;rw[N.out,if_neg (by rw[n.out];exact D)]);go_wp2_with fail;refine d1.out.mono ?_;rintro e wR ⟨rfl,fR⟩;have hX:=HQ.out.on fR;have f:=fR.heap c4.out (fun x=>x);have d:=Z.out.trans (Stp.of fR);have st:=U.out.trans d;have a:=d.rn Q.out;have c:=d.rn R.out;clear fR d;obtain⟨q1,q2,q3,q4,q5⟩:=Zst F1.out HS.out M.out HZ.out hX st a c (gcel A B u1 u2 false);have q:=hid (Zbl rfl HS.out HZ.out st);have Q1:=hid q1;have Q2:=hid q2;have Q3:=hid q3;have Q4:=hid q4;have Q5:=hid q5;have o:=hid f;clear hX st f a c q1 q2 q3 q4 q5;go_wp2_with(first|refine wpList_load_row rfl 30 _ rfl w2.heap.size rfl 30 (gcel A B u1 u2 false) (0,0) _ o.out Tryz.underlying30 rfl (info_G9 _ _ _ _ _) ?_|refine wpList_store_row rfl 30 _ _ rfl w.heap.size (gcel A B u1 u2 false) rfl rfl 30 zG q.out (info_G9 _ _ _ _ _) rfl (gcel_one C.out X.out) ?_)
   (try simp only[Exit.inBlock,Exit.then]);exact bodyPost_ret (results_cell_row rfl _ _ w.heap.size _ _ _ _ rfl Q1.out Tryz.underlying30 rfl (info_G9 _ _ _ _ _)) rfl (by rw[HN.out];exact⟨_,_,rfl,⟨_,_,rfl,Q4.out,Q5.out⟩,Q2.out,Q3.out⟩)
end Go.Proofs.YtkfddjopbocpkaaGreatDoor
namespace Go.Proofs.YtkfddjopbocpkaaGreatDoor
open Go.RowKit
theorem Ziv(b:Nat)(l:List UInt8)(x:BF)(at0:Nat)(S O:Nat→Prop)(w:World)(hl:l.length≤99000)(ha:at0≤l.length)(hS:∀k,S k→k<w.heap.size)(hO:∀k,O k→k<w.heap.size)(W0:World)(hE:Env W0)(hW:Fr nob W0 w)(hSW:∀k,S k→W0.heap.size≤k)(h:ARd b l x ⟨at0,[],0⟩ S w):
 Calls Tryz.prog 51 #[.pointer (some ⟨b,0,none⟩)] w (ZaV b l x S O w (ZX x l ⟨at0,[],0⟩)):=by
 unfold ZX;cases hR:ZaC x l false ⟨at0,[],0⟩with
 |inl q=>exact Zjo b l x at0 [] S O w hl ha rfl hS hO W0 hE hW hSW h q.1 q.2 hR
 |inr q=>
  obtain⟨A,a,c,e1⟩:=q;obtain rfl:e1=0:=(Zam (s:=⟨at0,[],0⟩) ha rfl hR).ok;simp only;by_cases hk:A.kind=0
  ·rw[if_pos hk];exact Zsu b l x at0 [] S O w hl ha rfl hS hO W0 hE hW hSW h A a c hR AV.zero a c (.inl ⟨hk,rfl,rfl,rfl⟩)
  ·rw[if_neg hk];cases d:Zbc x l ⟨a,c,0⟩with
   |inl q=>exact Zhx b l x at0 [] S O w hl ha rfl hS hO W0 hE hW hSW h A a c hR hk q.1 q.2 d
   |inr q=>
    obtain⟨B,e,f,e2⟩:=q;obtain rfl:e2=0:=(pairD_in d).ok;exact Zsu b l x at0 [] S O w hl ha rfl hS hO W0 hE hW hSW h A a c hR B e f (.inr ⟨hk,d⟩)
theorem notD_err{l:List UInt8}{a b:AV}{s:AdS}{z:Int×Nat}(h:ZgT l a b s=.inl z):z.1≠0:=by
 unfold ZgT at h;split at h
 ·split at h
  ·injection h with h;subst h;intro e;cases e
  ·cases h
 ·cases h
theorem notD_ok{l:List UInt8}{a b:AV}{s s':AdS}{g:GV}(h:ZgT l a b s=.inr (g,s')):s'.e=0:=by
 unfold ZgT at h;split at h
 ·split at h
  ·cases h
  ·injection h with h;injection h with h1 h2;subst h2;rfl
 ·injection h with h;injection h with h1 h2;subst h2;rfl
theorem guardD_err{x:Bool}{l:List UInt8}{s:AdS}{z:Int×Nat}(h:ZX x l s=.inl z):z.1≠0:=by
 unfold ZX at h;split at h
 ·next y hp=>injection h with h;subst h;exact addrD_err hp
 ·next a s1 hp=>
  split at h
  ·next y hq=>
   injection h with h;subst h;split at hq
   ·cases hq
   ·exact pairD_err hq
  ·exact notD_err h
theorem guardD_ok{x:Bool}{l:List UInt8}{s s':AdS}{g:GV}(h:ZX x l s=.inr (g,s')):s'.e=0:=by
 unfold ZX at h;split at h
 ·cases h
 ·split at h
  ·cases h
  ·exact notD_ok h
theorem ZbB{fn:Func}{p t u v:Tmp}(h:fn.results= #[.cell p 30,.tmp t,.tmp u,.tmp v]){tmps:Array Value}{r:Nat}(ht:tmps.getD p undef=.pointer (some ⟨r,0,none⟩)){W:World}{a0 a1 a2 a3 a4 a5 a6 a7 a8:Value}
 (hb:W.heap[r]? =some (.cells #[a0,a1,a2,a3,a4,a5,a6,a7,a8] 30 (0,0))):
 (results fn tmps).run Tryz.prog W=.ok (.tuple #[.agg #[a0,a1,a2,a3,a4,a5,a6,a7,a8],tmps.getD t undef,tmps.getD u undef,tmps.getD v undef]) W:=by
 have c0:=cell_at (j:=0) hb rfl;have c1:=cell_at (j:=1) hb rfl;have c2:=cell_at (j:=2) hb rfl;have c3:=cell_at (j:=3) hb rfl;have c4:=cell_at (j:=4) hb rfl;have c5:=cell_at (j:=5) hb rfl;have c6:=cell_at (j:=6) hb rfl;have c7:=cell_at (j:=7) hb rfl;have c8:=cell_at (j:=8) hb rfl;have a:tmps[p]?.getD undef=.pointer (some ⟨r,0,none⟩):=by rw[←ht];simp
 simp only[results,h];simp[a,go_sem,c0,c1,c2,c3,c4,c5,c6,c7,c8]
abbrev Prt:=Int×List UInt8
structure SV where
 text:List UInt8
 tree:Nd
 parts:List Prt
 nth:Int
 all:Bool
 print:Bool
 file:List UInt8
def SV.zero:SV:=⟨[],.nil,[],0,false,false,[]⟩
structure CV where
 at_:Nat
 guard:GV
 name:UInt8
 arg:List UInt8
 sub:SV
 table:List UInt8
def GV.zero:GV:=⟨AV.zero,AV.zero,false⟩
def CV.zero:CV:=⟨0,GV.zero,0,[],SV.zero,[]⟩
def failC(s:AdS)(e:Int)(p:Nat):AdS:=if s.e=0 then⟨p,s.marks,e⟩else s
def ZI(l:List UInt8)(s:AdS)(some:List UInt8):Bool:=match l[s.at_]? with
 |none=>false
 | .some b=>some.contains b
def Zan(s:AdS)(p:Nat)(t:List UInt8):AdS:=⟨s.at_,s.marks++[(p,t)],s.e⟩
def ZV(s:AdS)(p:Nat)(e:Int):AdS:=if s.e=0 then⟨p,s.marks,e⟩else s
def ZM(n:UInt8):Int:=
 if n=125∨n=58 then 0
 else if n=61∨n=113∨n=81∨n=97∨n=105∨n=114 then 1
 else if n=123∨n=100∨n=68∨n=103∨n=71∨n=104∨n=72∨n=108∨n=110∨n=78∨n=112∨n=80∨n=120∨n=122∨n=98∨n=116∨n=84∨n=99∨n=119∨n=115∨n=121 then 2
 else -1
def ZcD(g:GV):Int:=if g.b.kind≠0 then 2 else if g.a.kind≠0 then 1 else 0
def labelC(l:List UInt8)(must:Bool)(s:AdS):List UInt8×AdS:=
 if(ZcI l s.at_ true).2.2=14∧must=false then((ZcI l s.at_ true).1,ZV s (s.at_+(Zcv (l.drop s.at_) true).length) 0)
 else((ZcI l s.at_ true).1,ZV s (ZcI l s.at_ true).2.1 (ZcI l s.at_ true).2.2)
def ZaR(l:List UInt8)(s:AdS):List UInt8×AdS:=
 if ZI l s [32,9]=false then([],failC s 2 s.at_)
 else((ZcI l s.at_ false).1,ZV s (ZcI l s.at_ false).2.1 (ZcI l s.at_ false).2.2)
def AdS.to(s:AdS)(k:Nat):AdS:=⟨k,s.marks,s.e⟩
def Zah(l:List UInt8)(begin:Nat)(s:AdS):List UInt8×AdS:=
 let s1:=s.to (bhd l [32,9] s.at_)
 if l.length≤s1.at_ then([],failC s1 11 s1.at_)
 else if ZI l s1 [10]then([],failC s1 5 s1.at_)
 else
  let s2:=if[92,10].isPrefixOf (l.drop s1.at_)then s1.to (s1.at_+2)else Zan s1 begin [116,101,120,116]
  ((ln l (l.length+1) s2.at_ []).1,ZV s2 (ln l (l.length+1) s2.at_ []).2.1 (ln l (l.length+1) s2.at_ []).2.2)
def Zv(l:List UInt8)(s:AdS):UInt8×AdS:=
 if l.length≤s.at_ then(0,failC s 5 l.length)
 else if ZI l s [92,10]then(0,failC s 2 s.at_)
 else(byt l s.at_,s.to (s.at_+1))
def Zr(l:List UInt8)(d:UInt8)(rx:Bool)(s:AdS):List UInt8×AdS:=
 if s.e≠0 then([],s)
 else((bt l d rx (l.length+1) s.at_ []).1,ZV s (bt l d rx (l.length+1) s.at_ []).2.1 (bt l d rx (l.length+1) s.at_ []).2.2)
def Zav(x:Bool)(l:List UInt8)(d:UInt8)(s:AdS):(List UInt8×Nd)×AdS:=
 let t:=(Zr l d true s).1
 let s1:=(Zr l d true s).2
 let s2:=if s1.e=0∧t=[]then failC s1 2 s.at_ else s1
 if s2.e≠0 then(([],.nil),s2)
 else match Zac prg x t with
  | .inl z=>((t,.nil),failC s2 z.1 s.at_)
  | .inr (n,r)=>((t,n),⟨s2.at_,s2.marks++r.marks.map (shM s.at_),s2.e⟩)
def pushT(b:List Prt)(t:List UInt8):List Prt:=match b.getLast? with
 |none=>b++[(-1,t)]
 |some p=>if p.1= -1 then b.dropLast++[(-1,p.2++t)]else b++[(-1,t)]
def Zao(groups:Int):List UInt8→Bool→List Prt→List Prt×Int
 |[],escaped,b=>if escaped then([],11)else(b,0)
 |c::r,escaped,b=>
  if escaped=false∧c=92 then Zao groups r true b
  else if escaped=false∧c=38 then Zao groups r false (b++[(0,[])])
  else if escaped=true∧48≤c.toNat∧c.toNat≤57 then
   (if groups<(c.toNat:Int)-48 then([],9)else Zao groups r false (b++[((c.toNat:Int)-48,[])]))
  else if escaped=true∧c=110 then Zao groups r false (pushT b [10])
  else Zao groups r false (pushT b [c])
def Zap(l:List UInt8)(sub:SV)(s:AdS):Bool×SV×AdS:=
 if ZI l s [103]then
  let s1:=s.to (s.at_+1)
  let s2:=if sub.all then failC s1 15 s.at_ else s1
  (s2.e==0,{sub with all:=true},s2)
 else if ZI l s [112]then
  let s1:=s.to (s.at_+1)
  let s2:=if sub.print then failC s1 15 s.at_ else s1
  (s2.e==0,{sub with print:=true},s2)
 else if ZI l s [48,49,50,51,52,53,54,55,56,57]then
  let n:=nm s.at_ (l.drop s.at_) 0 0
  if 0<sub.nth then((failC s 15 s.at_).e==0,{sub with nth:=(n.1:Nat)},failC s 15 s.at_)
  else
   let s1:=ZV s n.2.1 n.2.2
   let s2:=if s.e=0∧s1.e=0∧n.1=0 then failC s1 1 s.at_ else s1
   (s2.e==0,{sub with nth:=(n.1:Nat)},s2)
 else if ZI l s [119]then
  (false,{sub with file:=(ZaR l (s.to (s.at_+1))).1},(ZaR l (s.to (s.at_+1))).2)
 else(false,sub,s)
def Zai(l:List UInt8):Nat→SV→AdS→SV×AdS
 |0,sub,s=>(sub,s)
 |n+1,sub,s=>
  match Zap l sub s with
  |(true,sub',s')=>Zai l n sub' s'
  |(false,sub',s')=>(sub',s')
def Zet(x:Bool)(l:List UInt8)(s:AdS):SV×AdS:=
 let d:=(Zv l s).1
 let s1:=(Zv l s).2
 if s1.e≠0 then(SV.zero,s1)
 else
  let rt:=(Zav x l d s1).1
  let s2:=(Zav x l d s1).2
  let sub:={SV.zero with text:=rt.1,tree:=rt.2}
  let t:=(Zr l d false s2).1
  let s3:=(Zr l d false s2).2
  if s3.e≠0 then(sub,s3)
  else
   let p:=Zao rt.2.groups t false []
   if p.2≠0 then(sub,failC s3 p.2 s2.at_)
   else Zai l (l.length+2) {sub with parts:=p.1} s3
def ZbC:List UInt8→Bool→List UInt8→List UInt8×Bool
 |[],escaped,out=>(out,!escaped)
 |c::r,escaped,out=>
  if escaped=false∧c=92 then ZbC r true out
  else if escaped=true∧c=110 then ZbC r false (out++[10])
  else if escaped=true∧c≠92 then([],false)
  else ZbC r false (out++[c])
def Zod:List (UInt8×UInt8)→List UInt8→List UInt8→List UInt8×Bool
 |[],_,out=>(out,true)
 |(a,b)::r,seen,out=>if seen.contains a then([],false)else Zod r (seen++[a]) (out.set a.toNat b)
def Zjp:List UInt8:=(List.range 256).map UInt8.ofNat
def ZaP(l:List UInt8)(s:AdS):List UInt8×AdS:=
 let d:=(Zv l s).1
 let s1:=(Zv l s).2
 let from_:=(Zr l d false s1).1
 let s2:=(Zr l d false s1).2
 let to_:=(Zr l d false s2).1
 let s3:=(Zr l d false s2).2
 if s3.e≠0 then([],s3)
 else
  let a:=ZbC from_ false []
  let b:=ZbC to_ false []
  if a.2=false∨b.2=false∨a.1.length≠b.1.length then([],failC s3 18 s2.at_)
  else
   let t:=Zod (a.1.zip b.1) [] Zjp
   if t.2 then(t.1,s3)else([],failC s3 15 s2.at_)
def ZsD(x:Bool)(l:List UInt8)(c:CV)(s:AdS):Bool×CV×AdS:=
 if c.name=123∨c.name=125 then(false,c,s)
 else if c.name=58 then(false,{c with arg:=(labelC l true s).1},(labelC l true s).2)
 else if c.name=98∨c.name=116∨c.name=84 then(false,{c with arg:=(labelC l false s).1},(labelC l false s).2)
 else if c.name=97∨c.name=105∨c.name=99 then(false,{c with arg:=(Zah l c.at_ s).1},(Zah l c.at_ s).2)
 else if c.name=114∨c.name=119 then(false,{c with arg:=(ZaR l s).1},(ZaR l s).2)
 else if c.name=115 then((Zet x l s).1.file==[],{c with sub:=(Zet x l s).1},(Zet x l s).2)
 else if c.name=121 then(true,{c with table:=(ZaP l s).1},(ZaP l s).2)
 else(true,c,s)
def Zjq(l:List UInt8)(s:AdS):AdS:=
 let s1:=s.to (bhd l [32,9] s.at_)
 if l.length≤s1.at_∨ZI l s1 [59,10,35]=true then s1
 else if ZI l s1 [125]then Zan s1 s1.at_ [125]
 else failC s1 17 s1.at_
def ZbY(x:Bool)(l:List UInt8)(g:GV)(s:AdS):CV×AdS:=
 if l.length≤s.at_ then(CV.zero,failC s 5 l.length)
 else
  let n:=byt l s.at_
  let s1:=if ZM n<0 then failC s 13 s.at_
   else if ZM n<ZcD g then failC s 19 s.at_
   else if n=81∨n=84∨n=122 then Zan s s.at_ [n]
   else s
  if s1.e≠0 then(CV.zero,s1)
  else
   let r:=ZsD x l {CV.zero with at_:=s.at_,guard:=g,name:=n} (s1.to (s1.at_+1))
   if r.1=true∧r.2.2.e=0 then(r.2.1,Zjq l r.2.2)else(r.2.1,r.2.2)
abbrev Zqc:=(Int×Nat)⊕(CV×AdS)
def Zeu(x:Bool)(l:List UInt8)(p:Nat):Zqc:=match ZX x l ⟨p,[],0⟩with
 | .inl z=>.inl z
 | .inr (g,s)=>
   let r:=ZbY x l g s
   if r.2.e≠0 then .inl (r.2.e,r.2.at_)else .inr r
def PxB(b:Nat)(out:List UInt8)(g:Option Nat)(w:World):Prop:=∃cs,Zc3 5 107 b 0 cs out g w∧cs.size=2
theorem PxB.new(w:World):PxB w.heap.size [] none (w.alloc (.cells #[.pointer none,.slice none 0 0] 107)):=
 ⟨_,⟨heap_alloc_new w _,by simp,.inl rfl,.slice none 0 0,rfl,World.ownsRow_nil _ _ _ _,rfl,by simp,fun _=>rfl⟩,rfl⟩
theorem Ztk{n:Nat}(h:n=2):Zfx 107 n 0:=by subst h;unfold Zfx;kernel_rfl
structure PxW(W0:World)(K:Nat→Prop)(b:Nat)(out:List UInt8)(w:World):Prop where
 fr:Fr nob W0 w
 tx:∃g,PxB b out g w∧∀k,(k<W0.heap.size∨K k)→k≠b∧some k≠g∧k<w.heap.size
def Pxn(W0:World)(K:Nat→Prop)(k:Nat):Prop:=¬(k<W0.heap.size∨K k)
def PxA(W0:World)(K:Nat→Prop)(b:Nat)(out:List UInt8)(w:World)(v:Value)(e:Ending)(w':World):Prop:=e=.returned v∧PxW W0 K b out w'∧Fr (Pxn W0 K) w w'
section
variable {W0 w w':World} {K:Nat→Prop} {b:Nat} {out:List UInt8}
theorem PxB.on{g:Option Nat}{S:Nat→Prop}(h:PxB b out g w)(f:Fr S w w')(h1:¬S b)(h2:∀k,g=some k→¬S k):PxB b out g w':=by
 obtain⟨cs,⟨hb,ho,hp,v,hv,a,hg,c,d⟩,hs⟩:=h;exact⟨cs,⟨f.heap hb h1,ho,hp,v,hv,ownsRow_fr a f (fun k hk=>h2 k (hg▸hk)),hg,c,d⟩,hs⟩
theorem PxW.on{S:Nat→Prop}(h:PxW W0 K b out w)(f:Fr S w w')(hS:∀k,S k→K k∧W0.heap.size≤k):PxW W0 K b out w':=by
 obtain⟨fr,g,ht,hk⟩:=h;refine⟨fr.trans f (fun i hi x=>by have:=(hS i x).2;omega),g,ht.on f (fun x=>(hk b (.inr (hS b x).1)).1 rfl) (fun k e x=>(hk k (.inr (hS k x).1)).2.1 e.symm),fun k h=> ?_⟩;obtain⟨h1,h2,h3⟩:=hk k h;exact⟨h1,h2,Nat.lt_of_lt_of_le h3 f.size⟩
theorem PxW.quiet(h:PxW W0 K b out w)(f:Fr nob w w'):PxW W0 K b out w':=h.on f (fun _ x=>x.elim)
theorem PxW.alloc(h:PxW W0 K b out w)(o:Obj)(hb:b<w.heap.size):PxW W0 (fun k=>K k∨k=w.heap.size) b out (w.alloc o):=by
 obtain⟨fr,g,ht,hk⟩:=h;have hg:∀k,g=some k→k<w.heap.size:=by
  intro k e;obtain⟨cs,⟨_,_,_,v,_,c,a,_⟩,_⟩:=ht;subst e;rcases c.2 with⟨rfl,_⟩|⟨q,f,i,rfl,_,hh,_⟩
  ·cases a
  ·injection a with e;subst e;exact lt_heap hh
 refine⟨fr.alloc o,g,ht.on ((Fr.refl nob w).alloc o) (fun x=>x) (fun _ _ x=>x),fun k hk'=> ?_⟩;have d:(w.alloc o).heap.size=w.heap.size+1:=by simp
 rw[d];rcases hk' with h|h|rfl
 ·obtain⟨h1,h2,h3⟩:=hk k (.inl h);exact⟨h1,h2,by omega⟩
 ·obtain⟨h1,h2,h3⟩:=hk k (.inr h);exact⟨h1,h2,by omega⟩
 ·exact⟨by omega,fun e=>by have:=hg _ e.symm;omega,by omega⟩
theorem PxW.less{K':Nat→Prop}(h:PxW W0 K b out w)(hK:∀k,K' k→K k):PxW W0 K' b out w:=
 ⟨h.fr,let⟨g,ht,hk⟩:=h.tx;⟨g,ht,fun k x=>hk k (x.imp id (hK k))⟩⟩
theorem PxW.lt(h:PxW W0 K b out w):b<w.heap.size:=by
 obtain⟨_,_,⟨_,⟨hb,_⟩,_⟩,_⟩:=h;exact lt_heap hb
theorem px_byte(c:Int)(x:UInt8)(hc:0≤c∧c≤255)(hx:c.toNat.toUInt8=x)(h:PxW W0 K b out w)(hlen:out.length≤140737488355327):
 Calls Tryz.prog 77 #[.pointer (some ⟨b,0,none⟩),.int .u8 c] w (PxA W0 K b (out++[x]) w .nilIface):=by
 obtain⟨fr,g,⟨cs,hb,hs⟩,hk⟩:=h;refine(ZcK _ b 0 cs out g c w hc hb (Ztk hs) hlen).mono ?_;rintro e w' ⟨rfl,v',d,hf,hn⟩;subst hx;refine⟨rfl,⟨fr.trans hf (fun i hi x=> ?_),_,⟨_,d,by rw[ZY];exact hs⟩,fun k a=> ?_⟩,hf.mono (fun k _ x=> ?_)⟩
 ·rcases x with x|x
  ·exact(hk i (.inl hi)).1 x
  ·exact(hk i (.inl hi)).2.1 x
 ·obtain⟨h1,h2,h3⟩:=hk k a;refine⟨h1,fun e=> ?_,Nat.lt_of_lt_of_le h3 hf.size⟩;rcases hn k e.symm with x|x
  ·exact h2 x
  ·omega
 ·intro a;rcases x with x|x
  ·exact(hk k a).1 x
  ·exact(hk k a).2.1 x
theorem px_str(l:List UInt8)(h:PxW W0 K b out w)(hlen:out.length+l.length≤140737488355328):
 Calls Tryz.prog 50 #[.pointer (some ⟨b,0,none⟩),.string ⟨l.toArray⟩] w (PxA W0 K b (out++l) w (.tuple #[.int .i64 l.length,.nilIface])):=by
 obtain⟨fr,g,⟨cs,hb,hs⟩,hk⟩:=h;refine(writeString_any _ b 0 cs out g l w hb (Ztk hs) hlen).mono ?_;rintro e w' ⟨rfl,v',c,hf,hn⟩;refine⟨rfl,⟨fr.trans hf (fun i hi x=> ?_),_,⟨_,c,by rw[ZY];exact hs⟩,fun k a=> ?_⟩,hf.mono (fun k _ x=> ?_)⟩
 ·rcases x with x|x
  ·exact(hk i (.inl hi)).1 x
  ·exact(hk i (.inl hi)).2.1 x
 ·obtain⟨h1,h2,h3⟩:=hk k a;refine⟨h1,fun e=> ?_,Nat.lt_of_lt_of_le h3 hf.size⟩;rcases hn k e.symm with x|x
  ·exact h2 x
  ·omega
 ·intro a;rcases x with x|x
  ·exact(hk k a).1 x
  ·exact(hk k a).2.1 x
end
theorem Pxn.of{W0 w w':World}{K:Nat→Prop}(f:Fr nob w w'):Fr (Pxn W0 K) w w':=f.mono (fun _ _ x=>x.elim)
def ZvJ(some line:List UInt8)(c:UInt8):List UInt8:=if c=10 then line else if some.contains c then[92,c]else[c]
def Zs6(some line s:List UInt8):List UInt8:=s.flatMap (ZvJ some line)
theorem ZuA{a b l:List UInt8}{k:Nat}(h:k<l.length):Zs6 a b (l.take (k+1))=Zs6 a b (l.take k)++ZvJ a b l[k]:=by
 unfold Zs6;rw[List.take_succ_eq_append_getElem h,List.flatMap_append];simp
theorem Zvr(a b:List UInt8)(c:UInt8):(ZvJ a b c).length≤b.length+2:=by
 unfold ZvJ;split
 ·omega
 ·split<;>simp
theorem ZsK(a b:List UInt8):∀l:List UInt8,(Zs6 a b l).length≤(b.length+2)*l.length
 |[]=>by simp[Zs6]
 |c::l=>by
  have h1:=ZsK a b l;have h2:=Zvr a b c;unfold Zs6 at h1⊢;rw[List.flatMap_cons,List.length_append,List.length_cons,Nat.mul_succ];omega
open Go.Lib (hid)
structure Cmr(b:Nat)(l:List UInt8)(x:Bool)(s:AdS)(S:Nat→Prop)(mv:Value)(w:World):Prop where
 blk:w.heap[b]? =some (.cells #[.string ⟨l.toArray⟩,.int .i64 s.at_,.bool x,mv,.int .i64 s.e] 79 (0,0))
 ma:OwM w s.marks mv
 nm:∀k,mv.ownBlock=some k→k≠b∧S k
 me:S b
def CRd(b:Nat)(l:List UInt8)(x:Bool)(s:AdS)(S:Nat→Prop)(w:World):Prop:=∃mv,Cmr b l x s S mv w
section
variable {b:Nat} {l:List UInt8} {x:Bool} {s:AdS} {S:Nat→Prop} {mv v':Value} {w w' W0 w3:World}
theorem Cmr.keep{X:Nat→Prop}(h:Cmr b l x s S mv w)(f:Fr X w w')(hb:¬X b)(hm:∀k,mv.ownBlock=some k→¬X k):Cmr b l x s S mv w':=
 ⟨f.heap h.blk hb,ownsRow_fr h.ma f hm,h.nm,h.me⟩
theorem Cmr.on(h:Cmr b l x s S mv w)(f:Fr nob w w'):Cmr b l x s S mv w':=h.keep f (fun x=>x) (fun _ _ x=>x)
theorem CRd.on(h:CRd b l x s S w)(f:Fr nob w w'):CRd b l x s S w':=by obtain⟨mv,h⟩:=h;exact⟨mv,h.on f⟩
theorem CRd.keep{X:Nat→Prop}(h:CRd b l x s S w)(f:Fr X w w')(hX:∀k,X k→¬S k):CRd b l x s S w':=by
 obtain⟨mv,h⟩:=h;exact⟨mv,h.keep f (fun e=>hX _ e h.me) (fun k hk e=>hX _ e (h.nm k hk).2)⟩
theorem Cmr.turned(h:Cmr b l x s S mv w)(j:Nat)(u:Value)(s':AdS)
 (hj:(#[.string ⟨l.toArray⟩,.int .i64 s.at_,.bool x,mv,.int .i64 s.e]:Array Value).setIfInBounds j u= #[.string ⟨l.toArray⟩,.int .i64 s'.at_,.bool x,mv,.int .i64 s'.e]) (hm:s'.marks=s.marks):
 Cmr b l x s' S mv (w.setCell ⟨b,j,none⟩ u):=by
 have hf:=(Fr.refl (fun k=>k=b) w).setCell (p:=⟨b,j,none⟩) (fun _=>rfl) u;have hb:=Za h.blk j u;rw[hj]at hb;exact⟨hb,by rw[hm];exact ownsRow_fr h.ma hf (fun k hk e=>(h.nm k hk).1 e),h.nm,h.me⟩
theorem Cmr.stp(h:Cmr b l x s S mv w)(j:Nat)(u:Value):Stp S w S (w.setCell ⟨b,j,none⟩ u):=
 ⟨(Fr.refl S w).setCell (p:=⟨b,j,none⟩) (fun _=>h.me) u,fun _ _ x=>x,fun hl k hk=>by have:=hl k hk;simpa[World.setCell]using this⟩
theorem Cmr.push(h:Cmr b l x s S mv w)(f:Fr nob w W0)(hap:Appd 1 mv v' W0 w3){k:Nat}{t:List UInt8}
 (hown:w3.ownsRow 0 55 2 v' (s.marks.length+1) (mkC s.marks++[.int .i64 k,.string ⟨t.toArray⟩])):
 (w3.cell? ⟨b,3,none⟩=some mv∧w3.frozen? ⟨b,3,none⟩=false)∧Cmr b l x ⟨s.at_,s.marks++[(k,t)],s.e⟩ (Zf0 S v') v' (w3.setCell ⟨b,3,none⟩ v')∧Stp S w (Zf0 S v') (w3.setCell ⟨b,3,none⟩ v'):=by
 have h0:=h.on f;have a:=hap.fr.heap h0.blk (fun e=>(h.nm b e).1 rfl);have g:=f.size;have hb:=lt_heap h.blk;have d:=(Fr.refl (fun k=>k=b) w3).setCell (p:=⟨b,3,none⟩) (fun _=>rfl) v';have c:v'.ownBlock≠some b:=fun e=>by
  rcases hap.old b e with h1|h1
  ·exact(h.nm b h1).1 rfl
  ·omega
 refine⟨⟨cell_at a rfl,unfrozen_at a 3⟩,⟨by have:=Za a 3 v';simpa using this,?_,fun k hk=>⟨fun e=>c (by rw[←e];exact hk),.inr hk⟩,.inl h.me⟩,?_,?_,?_⟩
 ·have:=ownsRow_fr hown d (fun k hk e=>c (by rw[←e];exact hk));unfold OwM;simp only[List.length_append,List.length_singleton,Zch];exact this
 ·exact(f.any.trans (hap.fr.mono (T:=S) fun k _ hk=>(h.nm k hk).2) (fun _ _ x=>x)).setCell (p:=⟨b,3,none⟩) (fun _=>h.me) v'
 ·intro k hk hx;rcases hx with hx|hx
  ·exact hx
  ·rcases hap.old k hx with h1|h1
   ·exact(h.nm k h1).2
   ·omega
 ·intro hl k hk;have hz:(w3.setCell ⟨b,3,none⟩ v').heap.size=w3.heap.size:=by simp[World.setCell]
  rw[hz];rcases hk with hk|hk
  ·have:=hl k hk;have:=hap.fr.size;omega
  ·exact own_lt hown k hk
end
theorem cm_ok(b:Nat)(l:List UInt8)(x:Bool)(s:AdS)(S:Nat→Prop)(w:World)(h:CRd b l x s S w):
 Calls Tryz.prog 31 #[.pointer (some ⟨b,0,none⟩)] w fun r w'=>r=.returned (.bool (s.e==0))∧Fr nob w w':=by
 obtain⟨mv,h⟩:=h;have rr:=Zd h.blk;go_enter Tryz.func31,Tryz.ntmps31;go_wp2;go_ret;exact⟨rfl,Fr.refl _ _⟩
theorem Zbn(b:Nat)(l:List UInt8)(x:Bool)(s:AdS)(S:Nat→Prop)(w:World)(hl:l.length≤1000000)(h:CRd b l x s S w):
 Calls Tryz.prog 52 #[.pointer (some ⟨b,0,none⟩)] w fun r w'=>r=.returned (.bool (decide (l.length≤s.at_)))∧Fr nob w w':=by
 obtain⟨mv,h⟩:=h;have rr:=Zd h.blk;obtain⟨p,hp⟩:∃p,s.at_=p:=⟨_,rfl⟩;rw[hp]at rr⊢;clear h hp;have e:decide (l.length≤p)=decide ((l.length:Int)≤(p:Int)):=by simp
 rw[e];go_enter Tryz.func52,Tryz.ntmps52;go_wp2_with fail;refine region_fr 9 (by kernel_rfl) (by kernel_rfl) ?_;simp only[List.take_succ_cons,List.take_zero,List.drop_succ_cons,List.drop_zero]
 repeat(quiet_step (fail))
 refine wpQuiet_nil ?_;intro wC fC;go_wp2;go_ret;exact⟨rfl,fC⟩
theorem Za9{s:AdS}{e:Int}{p:Nat}(h:s.e=0):failC s e p=⟨p,s.marks,e⟩:=if_pos h
theorem ZmH{s:AdS}{e:Int}{p:Nat}(h:¬s.e=0):failC s e p=s:=if_neg h
theorem cm_fail(b:Nat)(l:List UInt8)(x:Bool)(s:AdS)(S:Nat→Prop)(e:Int)(p:Nat)(w:World)(h:CRd b l x s S w):
 Calls Tryz.prog 53 #[.pointer (some ⟨b,0,none⟩),.int .i64 e,.int .i64 (p:Nat)] w fun r w'=>r=.returned (.tuple #[])∧CRd b l x (failC s e p) S w'∧Stp S w S w':=by
 obtain⟨mv,h⟩:=h;have r1:=Zd h.blk _ (Fr.refl _ _);by_cases h0:s.e=0
 ·rw[Za9 h0];have h2:=h.turned 4 (.int .i64 e) ⟨s.at_,s.marks,e⟩ (by simp) rfl;have h3:=h2.turned 1 (.int .i64 (p:Nat)) ⟨p,s.marks,e⟩ (by simp) rfl;have st:=((h.stp 4 (.int .i64 e)).trans (h2.stp 1 (.int .i64 (p:Nat))));have r2:=Zd h2.blk _ (Fr.refl _ _);have H3:=hid h3;have ST:=hid st;clear h h2 h3 st;rw[h0]at r1;clear h0;go_enter Tryz.func53,Tryz.ntmps53;go_wp2
  go_end0
  exact⟨rfl,⟨mv,H3.out⟩,ST.out⟩
 ·rw[ZmH h0];have h1:(s.e==0)=false:=by simpa using h0
  have H:=hid h;clear h;go_enter Tryz.func53,Tryz.ntmps53;go_wp2
  go_end0
  exact⟨rfl,⟨mv,H.out⟩,Stp.refl _ _⟩
theorem Zk5{l some:List UInt8}{s:AdS}(h:l.length≤s.at_):ZI l s some=false:=by unfold ZI;rw[List.getElem?_eq_none h]
theorem ZmI{l some:List UInt8}{s:AdS}(h:s.at_<l.length):ZI l s some=some.contains l[s.at_]:=by unfold ZI;rw[List.getElem?_eq_getElem h]
theorem Zbo(l:List UInt8)(c:UInt8):decide (0≤Lib.indexByte l c)=l.contains c:=by
 rw[ZbI];cases h:l.contains c with
 |true=>
  have:l.idxOf c<l.length:=List.idxOf_lt_length_of_mem (by simpa using h);rw[if_pos this];simp
 |false=>
  have:¬l.idxOf c<l.length:=fun hh=>by
   have:=List.idxOf_lt_length_iff.1 hh;simp at h;exact h this
  rw[if_neg this];rfl
theorem ZaI(b:Nat)(l:List UInt8)(x:Bool)(s:AdS)(S:Nat→Prop)(t:List UInt8)(w:World)(hl:l.length≤1000000)(h:CRd b l x s S w):
 Calls Tryz.prog 95 #[.pointer (some ⟨b,0,none⟩),.string ⟨t.toArray⟩] w fun r w'=>r=.returned (.bool (ZI l s t))∧Fr nob w w':=by
 have HO:=hid (fun w' (f:Fr nob w w')=>Zbn b l x s S w' hl (h.on f));obtain⟨mv,h⟩:=h;have rr:=Zd h.blk;obtain⟨p,hp⟩:∃p,s.at_=p:=⟨_,rfl⟩;by_cases a:p<l.length
 ·rw[ZmI (by rw[hp];exact a),←Zbo];have hd:decide (l.length≤s.at_)=false:=by rw[hp];simp;exact a
  rw[hd]at HO;simp only[hp]at rr⊢;have HI:=hid (fun w'=>strings_IndexByte t (l[p].toNat:Int) w');have hb:((l[p].toNat:Int)).toNat.toUInt8=l[p]:=ZaY _;rw[hb]at HI;obtain⟨z,hz⟩:∃z,Lib.indexByte t l[p]=z:=⟨_,rfl⟩;rw[hz]at HI⊢;clear h hp hd hz hb;go_enter Tryz.func95,Tryz.ntmps95;go_wp2_with fail;refine region_fr 14 (by kernel_rfl) (by kernel_rfl) ?_;simp only[List.take_succ_cons,List.take_zero,List.drop_succ_cons,List.drop_zero]
  repeat(go_big_quiet_step ((with_reducible exact calls_fr (HO.out _ (grown_fr _ _ _)))))
  refine wpQuiet_nil ?_;intro wC fC;go_wp2_with(refine(HI.out _).mono ?_;rintro e w' ⟨rfl,rfl⟩);go_ret;exact⟨rfl,fC⟩
 ·rw[Zk5 (by rw[hp];omega)];have hd:decide (l.length≤s.at_)=true:=by rw[hp];simp;omega
  rw[hd]at HO;simp only[hp]at rr⊢;clear h hp hd;go_enter Tryz.func95,Tryz.ntmps95;go_wp2_with fail;refine region_fr 14 (by kernel_rfl) (by kernel_rfl) ?_;simp only[List.take_succ_cons,List.take_zero,List.drop_succ_cons,List.drop_zero]
  repeat(go_big_quiet_step ((with_reducible exact calls_fr (HO.out _ (grown_fr _ _ _)))))
  refine wpQuiet_nil ?_;intro wC fC;go_wp2;go_ret;exact⟨rfl,fC⟩
def ZqC(b:Nat)(l:List UInt8)(x:Bool)(S:Nat→Prop)(w:World)(s':AdS)(w':World):Prop:=∃S',CRd b l x s' S' w'∧Stp S w S' w'
theorem cm_mark(b:Nat)(l:List UInt8)(x:Bool)(s:AdS)(S:Nat→Prop)(p:Nat)(t:List UInt8)(w:World)(hm:s.marks.length≤1000000)(h:CRd b l x s S w):
 Calls Tryz.prog 57 #[.pointer (some ⟨b,0,none⟩),.int .i64 (p:Nat),.string ⟨t.toArray⟩] w fun r w'=>r=.returned (.tuple #[])∧ZqC b l x S w (Zan s p t) w':=by
 obtain⟨mv,h⟩:=h;obtain⟨a3,c3,rfl⟩:=Zb h.ma;obtain⟨i0,hi,f,g,i⟩:=info_parts Zbv;have r1:=Zd h.blk;have H:=hid h;clear h;go_enter Tryz.func57,Tryz.ntmps57;go_wp2_with(at_builtin;refine wpList_append_g rfl _ _ 36 rfl 55 i0 (.agg #[.int .i64 0,.string ByteArray.empty]) 2 24 Tryz.underlying36 hi f g i rfl (by decide) _ _ _ rfl (ownsRow_fr H.out.ma ((Fr.refl nob w).alloc _) (fun _ _ x=>x)) ⟨w.heap.size,0,none⟩ 1 1 [.int .i64 (p:Nat),.string ⟨t.toArray⟩] rfl rfl ?c1 ?c2 ?c3 ?c4 ?_)
 case c1=>exact Zdg (t:=t) (newAt0 w _)
 case c2=>exact Zf1 (t:=t)
 case c3=>unfold maxLen;show s.marks.length+1≤_;omega
 case c4=>show(s.marks.length+1)*24≤_;omega
 intro v' w4 a c;obtain⟨av,j,rfl⟩:=Zb a;obtain⟨⟨pc,pf⟩,h5,d⟩:=H.out.push ((Fr.refl nob w).alloc _) c (k:=p) (t:=t) a;have H5:=hid h5;have e:=hid d;clear a c h5 d r1;go_wp2
 go_end0
 exact⟨rfl,_,⟨_,H5.out⟩,e.out⟩
theorem Zjr{s:AdS}{e:Int}{p:Nat}(h:s.e=0):ZV s p e=⟨p,s.marks,e⟩:=if_pos h
theorem Zk6{s:AdS}{e:Int}{p:Nat}(h:¬s.e=0):ZV s p e=s:=if_neg h
theorem cm_moved(b:Nat)(l:List UInt8)(x:Bool)(s:AdS)(S:Nat→Prop)(e:Int)(p:Nat)(w:World)(h:CRd b l x s S w):
 Calls Tryz.prog 116 #[.pointer (some ⟨b,0,none⟩),.int .i64 (p:Nat),.int .i64 e] w fun r w'=>r=.returned (.bool (s.e==0&&(ZV s p e).e==0))∧CRd b l x (ZV s p e) S w'∧Stp S w S w':=by
 have HK:=hid (cm_ok b l x s S w h);obtain⟨mv,h⟩:=h;by_cases h0:s.e=0
 ·rw[Zjr h0];have e1:(s.e==0)=true:=by simpa using h0
  rw[e1]at HK⊢;have H:=hid h;clear h;go_enter Tryz.func116,Tryz.ntmps116;go_wp2_with fail;refine HK.out.mono ?_;rintro z w1 ⟨rfl,f1⟩;have h:=H.out.on f1;have r1:=Zd h.blk _ (Fr.refl _ _);have h2:=h.turned 1 (.int .i64 (p:Nat)) ⟨p,s.marks,s.e⟩ (by simp) rfl;have h3:=h2.turned 4 (.int .i64 e) ⟨p,s.marks,e⟩ (by simp) rfl;have st:=(Stp.of f1).trans ((h.stp 1 (.int .i64 (p:Nat))).trans (h2.stp 4 (.int .i64 e)));have r2:=Zd h2.blk _ (Fr.refl _ _);obtain⟨w2,a⟩:∃w2,w2=(w1.setCell ⟨b,1,none⟩ (.int .i64 (p:Nat))).setCell ⟨b,4,none⟩ (.int .i64 e):=⟨_,rfl⟩;rw[←a]at h3 st;have c:=hid (cm_ok b l x ⟨p,s.marks,e⟩ S w2 ⟨mv,h3⟩);have H3:=hid h3;have ST:=hid st;have d:=hid a;clear h h2 h3 st a f1;go_wp2_with(rw[←d.out]);refine c.out.mono ?_;rintro z w3 ⟨rfl,f3⟩;clear r1 r2;go_wp2;go_ret;exact⟨rfl,⟨mv,H3.out.on f3⟩,ST.out.trans (Stp.of f3)⟩
 ·rw[Zk6 h0];have e1:(s.e==0)=false:=by simpa using h0
  rw[e1]at HK⊢;have H:=hid h;clear h;go_enter Tryz.func116,Tryz.ntmps116;go_wp2_with fail;refine HK.out.mono ?_;rintro z w1 ⟨rfl,f1⟩;go_wp2;go_ret;exact⟨rfl,⟨mv,H.out.on f1⟩,Stp.of f1⟩
section
variable {W0 w w':World} {K:Nat→Prop} {b:Nat} {out:List UInt8}
theorem pr_quote(l sm ln:List UInt8)(h:PxW W0 K b out w)(hlen:out.length+4*l.length≤200000000000)(hln:ln.length≤2):
 Calls Tryz.prog 78 #[.pointer (some ⟨b,0,none⟩),.string ⟨l.toArray⟩,.string ⟨sm.toArray⟩,.string ⟨ln.toArray⟩] w (PxA W0 K b (out++Zs6 sm ln l) w (.tuple #[])):=by
 have HT:=hid h;have q:l.length≤10000000000000:=by omega
 clear h;go_enter Tryz.func78,Tryz.ntmps78;go_wp2_with fail
 go_loopw [12] (fun i wr=>∃k:Nat,i=.int .i64 k∧k≤l.length∧PxW W0 K b (out++Zs6 sm ln (l.take k)) wr∧Fr (Pxn W0 K) w wr) (fun i _=>l.length-(intOf i).toNat)
 case atStart=>exact⟨0,rfl,Nat.zero_le _,by simpa[Zs6]using HT.out,Fr.refl _ _⟩
 case round=>
  obtain⟨k,rfl,hk,tx,fr⟩:=hrel;have HR:=hid tx;have FR:=hid fr;clear tx fr HT;by_cases o:k<l.length
  ·have j:=hid (ZuA (a:=sm) (b:=ln) o);have n:(Zs6 sm ln (l.take k)).length≤4*l.length:=by
    have h1:=ZsK sm ln (l.take k);have h2:(l.take k).length≤l.length:=by rw[List.length_take];omega
    have h3:=Nat.mul_le_mul (show ln.length+2≤4 by omega) h2;omega
   have HI:=hid (fun w'=>strings_IndexByte sm (l[k].toNat:Int) w');rw[show((l[k].toNat:Int)).toNat.toUInt8=l[k]from ZaY _]at HI;have d:=Zbo sm l[k];obtain⟨zi,hz⟩:∃z,Lib.indexByte sm l[k]=z:=⟨_,rfl⟩;rw[hz]at HI d;obtain⟨D,hD⟩:∃D,out++Zs6 sm ln (l.take k)=D:=⟨_,rfl⟩;have r:D.length≤200000000000:=by rw[←hD,List.length_append];omega
   rw[hD]at HR;have m:out++Zs6 sm ln (l.take (k+1))=D++ZvJ sm ln l[k]:=by rw[j.out,←List.append_assoc,hD]
   have c:=hid m;clear hz hD m n j;unfold ZvJ at c;by_cases f:l[k]=10
   ·have t1:((l[k].toNat:Int)==10)=true:=Zcy (b:=10) f;rw[if_pos f]at c;clear f d;go_wp2_with fail;refine(px_str ln HR.out (by omega)).mono ?_;rintro e w4 ⟨rfl,h4,f4⟩;rw[←c.out]at h4;have H4:=hid h4;have F4:=hid (FR.out.trans f4 (fun _ _ x=>x));clear h4 f4;go_wp2;go_roundw
    case rel=>exact⟨k+1,by go_num,by omega,H4.out,F4.out⟩
    case measure=>simp[intOf];omega
   ·have t1:((l[k].toNat:Int)==10)=false:=Zn (b:=10) f;rw[if_neg f]at c;cases g:sm.contains l[k]with
    |true=>
     rw[g]at d c;rw[if_pos rfl]at c;have p:0≤zi:=by simpa using d
     clear f d g;go_wp2_with fail;refine(HI.out _).mono ?_;rintro e w4 ⟨rfl,rfl⟩;go_wp2_with fail;refine(px_byte 92 92 (by decide) rfl HR.out (by omega)).mono ?_;rintro e w5 ⟨rfl,h5,f5⟩;have H5:=hid h5;have F5:=hid (FR.out.trans f5 (fun _ _ x=>x));clear h5 f5;go_wp2_with fail;refine region_fr 6 (by kernel_rfl) (by kernel_rfl) ?_;simp only[List.take_succ_cons,List.take_zero,List.drop_succ_cons,List.drop_zero]
     repeat(go_big_quiet_step (fail))
     refine wpQuiet_nil ?_;intro wC fC;go_wp2_with fail;refine(px_byte (l[k].toNat:Int) l[k] ⟨by omega,by have:=l[k].toNat_lt;omega⟩ (ZaY _) (H5.out.quiet fC) (by rw[List.length_append];simp;omega)).mono ?_;rintro e w6 ⟨rfl,h6,f6⟩;rw[List.append_assoc,show[92]++[l[k]]=[92,l[k]]from rfl,←c.out]at h6;have H6:=hid h6;have F6:=hid ((F5.out.trans fC (fun _ _ x=>x.elim)).trans f6 (fun _ _ x=>x));clear h6 f6;go_wp2;go_roundw
     case rel=>exact⟨k+1,by go_num,by omega,H6.out,F6.out⟩
     case measure=>simp[intOf];omega
    |false=>
     rw[g]at d c;rw[if_neg (by decide)]at c;have p:¬0≤zi:=by simpa using d
     clear f d g;go_wp2_with fail;refine(HI.out _).mono ?_;rintro e w4 ⟨rfl,rfl⟩;go_wp2_with fail;refine region_fr 6 (by kernel_rfl) (by kernel_rfl) ?_;simp only[List.take_succ_cons,List.take_zero,List.drop_succ_cons,List.drop_zero]
     repeat(go_big_quiet_step (fail))
     refine wpQuiet_nil ?_;intro wC fC;go_wp2_with fail;refine(px_byte (l[k].toNat:Int) l[k] ⟨by omega,by have:=l[k].toNat_lt;omega⟩ (ZaY _) (HR.out.quiet fC) (by omega)).mono ?_;rintro e w6 ⟨rfl,h6,f6⟩;rw[←c.out]at h6;have H6:=hid h6;have F6:=hid ((FR.out.trans fC (fun _ _ x=>x.elim)).trans f6 (fun _ _ x=>x));clear h6 f6;go_wp2;go_roundw
     case rel=>exact⟨k+1,by go_num,by omega,H6.out,F6.out⟩
     case measure=>simp[intOf];omega
  ·obtain rfl:k=l.length:=by omega
   have hT:=List.take_of_length_le (l:=l) (Nat.le_refl _);rw[hT]at HR;go_wp2
   go_end0
   exact⟨rfl,HR.out,FR.out⟩
end
end Go.Proofs.YtkfddjopbocpkaaGreatDoor
