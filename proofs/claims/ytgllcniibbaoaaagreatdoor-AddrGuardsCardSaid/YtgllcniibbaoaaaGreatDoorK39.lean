/- Lemmas of this claim. -/
import Derived.Test.YtgllcniibbaoaaaGreatDoorK38
set_option linter.all false
set_option maxRecDepth 100000
set_option maxHeartbeats 24000000
namespace Go.Proofs.YtgllcniibbaoaaaGreatDoor
section
open Go.Lib (hid)
open Go.RowKit
theorem ZN(w:World)(g:Nat)(cs:Array Value):Fr (fun k=>k=g) w (w.setRow g cs):=⟨rfl,rfl,rfl,by simp,fun k _ hk=>setRow_other w g k cs hk⟩
theorem ZxV:(Tryz.prog.info? 47).map (·.size)=some 9:=by kernel_rfl
abbrev gcel(A B:AV)(u1 u2:Value)(no:Bool):Array Value:= #[.int .i64 A.kind,.int .i64 A.line,.string ⟨A.text.toArray⟩,u1,.int .i64 B.kind,.int .i64 B.line,.string ⟨B.text.toArray⟩,u2,.bool no]
theorem gcel_one{A B:AV}{u1 u2:Value}{no:Bool}(h1:u1.oneCell'=true)(h2:u2.oneCell'=true):(gcel A B u1 u2 no).all (·.oneCell')=true:=by simp[gcel,Value.oneCell']at *;exact⟨h1,h2⟩
theorem info_G9(A B:AV)(u1 u2:Value)(no:Bool):(Tryz.prog.info? 47).map (·.size)=some (gcel A B u1 u2 no).size:=ZxV
def ZsC(b:Nat)(l:List UInt8)(x:Bool)(S O:Nat→Prop)(g r:Nat)(A B:AV)(u1:Value)(p:Nat)(ms:List (Nat×List UInt8))(w1 w':World):Prop:=
 ∃S2 u2,ARd b l x ⟨p,ms,0⟩ S2 w'∧¬S2 g∧Stp S w1 (GS S2 g) w'∧w'.heap[g]? =some (.cells (gcel A B u1 u2 false) 47 (0,0))∧RN (SO (GS S2 g) (GS O r)) w' A.tree u1∧RN (SO (GS S2 g) (GS O r)) w' B.tree u2
theorem RN.one{S:Nat→Prop}{w:World}{t:Nd}{u:Value}(h:RN S w t u):u.oneCell'=true:=by rcases h.shape with rfl|⟨i,y,rfl⟩<;>rfl
theorem ZaM(w:World)(z cs:Array Value)(T:TypeId):((w.alloc (.cells z T)).setRow w.heap.size cs).heap[w.heap.size]? =some (.cells cs T (0,0))∧Fr nob w ((w.alloc (.cells z T)).setRow w.heap.size cs)∧((w.alloc (.cells z T)).setRow w.heap.size cs).heap.size=w.heap.size+1:=
 ⟨setRow_heap _ _ _ _ _ _ (newAt _ _),((Fr.refl nob w).alloc _).trans (ZN _ _ _) (fun i hi e=>by have e:i=w.heap.size:=e;omega),by simp[World.setRow,newAt]⟩
theorem Zst{b:Nat}{l:List UInt8}{x:Bool}{s:AdS}{S O S2:Nat→Prop}{w w1 wZ:World}{g:Nat}{tA tB:Nd}{u1 u2:Value}{a0 a1 a2 a3 a4 a5 a6 a7 a8:Value}{T:TypeId}(f1:Fr nob w w1)(hS:∀k,S k→k<w.heap.size)(hlt:w.heap.size<w1.heap.size)
 (hz:w1.heap[w.heap.size]? =some (.cells #[a0,a1,a2,a3,a4,a5,a6,a7,a8] T (0,0))) (hX:ARd b l x s S2 wZ) (st:Stp S w1 (GS S2 g) wZ) (hr1:RN (SO (GS S2 g) (GS O w.heap.size)) wZ tA u1) (hr2:RN (SO (GS S2 g) (GS O w.heap.size)) wZ tB u2) (cs:Array Value):
 (wZ.setRow w.heap.size cs).heap[w.heap.size]? =some (.cells cs T (0,0))∧ARd b l x s (GS S2 g) (wZ.setRow w.heap.size cs)∧Stp S w (GS S2 g) (wZ.setRow w.heap.size cs)∧RN (SO (GS S2 g) O) (wZ.setRow w.heap.size cs) tA u1∧RN (SO (GS S2 g) O) (wZ.setRow w.heap.size cs) tB u2:=by
 have f:=ZN wZ w.heap.size cs;have hn:=ZE hlt hS st;have s1:Stp S w (GS S2 g) wZ:=(Stp.of f1).trans st;obtain⟨mv,h⟩:=hX;have k:=h.keep f (fun e=>hn (.inl (e▸h.me))) (fun k hk e=>hn (.inl (e▸(h.nm k hk).2)));have rn:∀{t:Nd} {u:Value},RN (SO (GS S2 g) (GS O w.heap.size)) wZ t u→RN (SO (GS S2 g) O) (wZ.setRow w.heap.size cs) t u:=fun h=>RN.keep f (fun _ _ e=>.inr (.inr e)) (fun _ _ hx=>hx.elim .inl (fun y=>.inr (.inl y))) _ _ h;exact⟨setRow_heap _ _ _ _ _ _ (Zbl rfl hS hz st),⟨mv,k.blk,k.ma,fun j hj=>⟨(k.nm j hj).1,.inl (k.nm j hj).2⟩,.inl k.me⟩,
  ⟨s1.fr.trans f (fun i hi e=>by have e:i=w.heap.size:=e;omega),s1.old,fun hl k hk=>by have:=s1.lt hl k hk;have:=f.size;omega⟩,rn hr1,rn hr2⟩
attribute [-go_sem] storeVar
theorem Zsw{w:World}{b j:Nat}{p:Bool}(hc:(w.cell? ⟨b,j,none⟩).isSome=true)(hf:w.frozen? ⟨b,j,none⟩=false):
 Sem.run Tryz.prog (storeVar 4 ⟨b,j,none⟩ (.bool p)) w=.ok () (w.setCell ⟨b,j,none⟩ (.bool p)):=by
 obtain⟨old,ho⟩:=Option.isSome_iff_exists.1 hc;have a:(Value.bool p).cells= #[.bool p]:=rfl;have hi:(Tryz.prog.info? 4).map (·.size)=some 1:=by kernel_rfl
 cases hq:Tryz.prog.info? 4 with
 |none=>rw[hq]at hi;cases hi
 |some q=>
  have hs:q.size=1:=by simpa[hq]using hi
  simp[storeVar,sizeOf,typeInfo,hq,a,hs,go_sem,ho,hf]
theorem Zsx{w:World}{b j:Nat}{i:Int}(hc:(w.cell? ⟨b,j,none⟩).isSome=true)(hf:w.frozen? ⟨b,j,none⟩=false):
 Sem.run Tryz.prog (storeVar 3 ⟨b,j,none⟩ (.int .i64 i)) w=.ok () (w.setCell ⟨b,j,none⟩ (.int .i64 i)):=by
 obtain⟨old,ho⟩:=Option.isSome_iff_exists.1 hc;have a:(Value.int IntKind.i64 i).cells= #[.int .i64 i]:=rfl;have hi:(Tryz.prog.info? 3).map (·.size)=some 1:=by kernel_rfl
 cases hq:Tryz.prog.info? 3 with
 |none=>rw[hq]at hi;cases hi
 |some q=>
  have hs:q.size=1:=by simpa[hq]using hi
  simp[storeVar,sizeOf,typeInfo,hq,a,hs,go_sem,ho,hf]
attribute [local go_sem] Zsw Zsx
theorem Zsu(b:Nat)(l:List UInt8)(x:Bool)(at0:Nat)(ms0:List (Nat×List UInt8))(S O:Nat→Prop)(w:World)(hl:l.length≤99000)(ha:at0≤l.length)(hm:ms0.length=0)(hS:∀k,S k→k<w.heap.size)(hO:∀k,O k→k<w.heap.size)(W0:World)(hE:Env W0)(hW:Fr nob W0 w)(hSW:∀k,S k→W0.heap.size≤k)(h:ARd b l x ⟨at0,ms0,0⟩ S w)(A:AV)(at1:Nat)(ms1:List (Nat×List UInt8))(hR:addrD x l false ⟨at0,ms0,0⟩=.inr (A,⟨at1,ms1,0⟩))
 (B:AV) (at2:Nat) (ms2:List (Nat×List UInt8)) (hB:(A.kind=0∧B=AV.zero∧at2=at1∧ms2=ms1)∨(A.kind≠0∧Zbc x l ⟨at1,ms1,0⟩=.inr (B,⟨at2,ms2,0⟩))):
 Calls Tryz.prog 41 #[.pointer (some ⟨b,0,none⟩)] w (ZaV b l x S O w (ZgT l A B ⟨at2,ms2,0⟩)):=by
 have hl:l.length≤100000:=Nat.le_trans hl (by decide);obtain⟨w1,r⟩:∃w1,w1=w.alloc (.cells zG 47):=⟨_,rfl⟩;have f1:Fr nob w w1:=by rw[r];exact(Fr.refl _ _).alloc _
 have hz:w1.heap[w.heap.size]? =some (.cells zG 47 (0,0)):=by rw[r];exact newAt _ _
 have h7:w1.heap.size=w.heap.size+1:=by rw[r];simp
 have h1:=h.on f1;have U:∀k,S k→k<w1.heap.size:=fun k hk=>by have:=hS k hk;omega
 have Q:∀k,GS O w.heap.size k→k<w1.heap.size:=fun k hk=>by
  rcases hk with hk|hk
  ·have:=hO k hk;omega
  ·have hk:k=w.heap.size:=hk;omega
 have X:=Zal b l x false ⟨at0,ms0,0⟩ S (GS O w.heap.size) w1 (by omega) ha (by show ms0.length≤_;omega) rfl U Q W0 hE (hW.trans' f1) hSW h1;rw[hR]at X;have a0:=Zam (s:=⟨at0,ms0,0⟩) ha rfl hR;have d2:at1≤l.length:=a0.le;have i5:ms1.length≤99001:=by have:=a0.mks;simp only at this;omega
 have h4:at2≤l.length:=by
  rcases hB with⟨_,_,rfl,_⟩|⟨_,e⟩
  ·exact d2
  ·exact(pairD_in e).le
 have b2:=hid X;have c7:=hid r;have HS:=hid hS;have F1:=hid f1;have HZ:=hid hz;have f5:=hid (lt_heap hz);have c6:=hid U;have HE:=hid hE;have M:=hid (hW.trans' f1);have L:=hid hSW;have c3:=hid Q;have HB:=hid hB;clear h h1 r hS f1 hz hO hE hW hSW h7 U Q X hR a0 hB;go_enter Tryz.func41,Tryz.ntmps41;go_wp2_with(rw[←c7.out]);refine b2.out.mono ?_;intro e w2 he;obtain⟨v,S1,rfl,⟨u1,rfl,a5⟩,h2,m⟩:=he;have q:=m.lt c6.out;have d0:=hid a5.one;obtain⟨i,f3,d8⟩:=ZaM w2 zG (gcel A AV.zero u1 .nilIface false) 47;obtain⟨w3,a6⟩:∃w3,w3=(w2.alloc (.cells zG 47)).setRow w2.heap.size (gcel A AV.zero u1 .nilIface false):=⟨_,rfl⟩;rw[←a6]at i f3 d8;have a8:¬S1 w2.heap.size:=fun h=>Nat.lt_irrefl _ (q _ h);have h3:=h2.on f3;have d7:w1.heap.size≤w2.heap.size:=m.fr.size;have e3:Stp S w1 (GS S1 w2.heap.size) w3:=(m.trans (Stp.of f3)).plus d7 (lt_heap i)
 have c:RN (SO (GS S1 w2.heap.size) (GS O w.heap.size)) w3 A.tree u1:=RN.keep f3 (fun _ _ x=>x.elim) (fun k hk hx=>by
  rcases hx with(hx|hx)|hx
  ·exact .inl hx
  ·have hx:k=w2.heap.size:=hx;omega
  ·exact .inr hx) _ _ a5
 have c8:=hid a6;obtain⟨e0,u⟩:=h3;have r3:=Zd u.blk _ (Fr.refl _ _);have g8:=cell_at (v:=.int .i64 A.kind) (j:=0) i rfl;have c4:=hid (fun(hk:Zbc x l ⟨at1,ms1,0⟩=.inr (B,⟨at2,ms2,0⟩))=>by
  have:=Zfo b l x ⟨at1,ms1,0⟩ S1 (GS O w.heap.size) w2.heap.size A.kind A.line A.text u1 w3 hl d2 (by show ms1.length≤_;omega) rfl (fun k hk=>by have:=q k hk;have:=f3.size;omega) (fun k hk=>by have:=c3.out k hk;have:=f3.size;omega) W0 HE.out ((m.trans (Stp.of f3)).from M.out L.out) (fun k hk=>by by_cases h:k<w1.heap.size;exact L.out k (m.old k h hk);have:=M.out.size;omega) ⟨e0,u⟩ a8 i;rw[hk]at this;exact this)
 have b9:=hid (show ARd b l x ⟨at1,ms1,0⟩ S1 w3 from⟨e0,u⟩);have c9:=hid a8;have N:=hid e3;have b3:=hid i;have R1:=hid c;clear a5 h2 m a6 f3 u i a8 e3 d7 q c d8;go_upto_if 17 with(first|rw[←c8.out]|refine wpList_store_row rfl 47 _ _ rfl w2.heap.size (gcel A AV.zero u1 .nilIface false) rfl rfl 47 zG (newAt _ _) (info_G9 _ _ _ _ _) rfl (gcel_one d0.out rfl) ?_)
 go_cut [] (fun w'=>ZsC b l x S O w2.heap.size w.heap.size A B u1 at2 ms2 w1 w')
 case first=>
  rcases HB.out with⟨hk,rfl,rfl,rfl⟩|⟨hk,hp⟩
  ·have h5:(A.kind==0)=true:=by simp[hk]
   clear hk;go_wp2;go_meet
   case rel=>exact⟨S1,.nilIface,b9.out,c9.out,N.out,b3.out,R1.out,by show RN _ _ .nil _;rw[RN]⟩
  ·have h5:(A.kind==0)=false:=by simpa using hk
   have f7:=hid (c4.out hp);clear hk hp;go_wp2_with fail;refine f7.out.mono ?_;rintro e wP ⟨rfl,S2,u2,hP,E,e4,o,d⟩;go_wp2;go_meet
   case rel=>exact⟨S2,u2,hP,E,N.out.trans e4,o,e4.rn R1.out,RN.keep (Fr.refl nob wP) (fun _ _ x=>x.elim) (fun k _ hx=>by
    rcases hx with(hx|hx)|hx
    ·exact .inl hx
    ·exact .inr (.inr hx)
    ·exact .inr (.inl hx)) _ _ d⟩
 case rest=>
  clear c4 b9 c9 N b3 R1 b2 r3 g8 HE M L c3 c6 c7 c8;obtain⟨S2,u2,hP,E,d9,o,c,d⟩:=hcut;have g4:=hid d.one;obtain⟨pQ,F⟩:∃pQ,bhd l [32,9] at2=pQ:=⟨_,rfl⟩;have i3:pQ≤l.length:=by rw[←F];exact bhd_le _ _ _
  obtain⟨c1,d3⟩:∃c1,byt l pQ=c1:=⟨_,rfl⟩;obtain⟨h9,R⟩:=hP;have rP:=Zd R.blk _ (Fr.refl _ _);have Y:=Zi b l x ⟨at2,ms2,0⟩ S2 wc hl h4 ⟨h9,R⟩;simp only[F]at Y;have e6:=hid Y;have e9:=hid o;have g:=hid E;have g0:=hid d9;have f8:=hid c;have f9:=hid d;have b7:=hid (lt_heap o);have J:=hid F;have n:=hid d3;clear R o E d9 c d Y F d3;go_wp2_with fail;refine e6.out.mono ?_;rintro e wQ ⟨rfl,hQ,a9⟩;have a3:=Zt b l x ⟨pQ,ms2,0⟩ S2 wQ (by omega) hQ;simp only[n.out]at a3;have HQ:=hid hQ;have g6:=hid (a9.gs b7.out);have f6:=hid a3;have f0:=hid (a9.fr.heap e9.out g.out);clear hQ a9 rP a3;go_upto_if 30 with(go_at_call 65;refine f6.out.mono ?_;rintro e wR ⟨rfl,fR⟩);have b4:=hid (fR.heap f0.out (fun x=>x));have c5:=hid (HQ.out.on fR);have P:=hid (g6.out.trans (Stp.of fR));clear fR
  go_cut [] (fun w'=>∃no sF,ARd b l x sF S2 w'∧w'.heap[w2.heap.size]? =some (.cells (gcel A B u1 u2 no) 47 (0,0))∧Stp (GS S2 w2.heap.size) wc (GS S2 w2.heap.size) w'∧(ZgT l A B ⟨at2,ms2,0⟩=.inr (⟨A,B,no⟩,sF)∨∃ms p z,sF=⟨p,ms,z⟩∧no=true∧ZgT l A B ⟨at2,ms2,0⟩=.inl (z,p)))
  case first=>
   by_cases f:c1=33
   ·have i6:pQ<l.length:=ZaO (by rw[n.out,f];decide);have i2:((c1.toNat:Int)==33)=true:=by rw[f];rfl
    have b1:=hid f;have i7:IntKind.i64.wrap ((pQ:Int)+1)=pQ+1:=IntWalk.i64_in _ (by omega);obtain⟨pV,a4⟩:∃pV,bhd l [32,9] (pQ+1)=pV:=⟨_,rfl⟩;have i4:pV≤l.length:=by rw[←a4];exact bhd_le _ _ _
    obtain⟨c2,d4⟩:∃c2,byt l pV=c2:=⟨_,rfl⟩;have K:=hid a4;have I:=hid d4;clear a4 d4;clear f;have D:=b4.out;have g9:(wR.cell? ⟨w2.heap.size,8,none⟩).isSome=true:=by rw[cell_at (v:=.bool false) (j:=8) D rfl];rfl
    have h0:=ZF D 8;obtain⟨wS,t⟩:∃wS,wS=wR.setCell ⟨w2.heap.size,8,none⟩ (.bool true):=⟨_,rfl⟩;have fS:Fr (fun k=>k=w2.heap.size) wR wS:=by rw[t];exact(Fr.refl (fun k=>k=w2.heap.size) wR).setCell (p:=⟨w2.heap.size,8,none⟩) (fun _=>rfl) _
    have h6:wS.heap.size=wR.heap.size:=by rw[t];simp[World.setCell]
    have d5:wS.heap[w2.heap.size]? =some (.cells (gcel A B u1 u2 true) 47 (0,0)):=by rw[t];simpa using Za D 8 (.bool true)
    obtain⟨i0,y⟩:=c5.out;have C:=y.keep fS (fun e=>g.out (e▸y.me)) (fun k hk e=>g.out (e▸(y.nm k hk).2));have rS:=Zd C.blk _ (Fr.refl _ _);have V:=C.turned 1 (.int .i64 ((pQ:Int)+1)) ⟨pQ+1,ms2,0⟩ (by simp) rfl;have G:=C.stp 1 (.int .i64 ((pQ:Int)+1));have p10:(wS.cell? ⟨b,1,none⟩).isSome=true:=by rw[rS.1.2.1];rfl
    obtain⟨wT,a7⟩:∃wT,wT=wS.setCell ⟨b,1,none⟩ (.int .i64 ((pQ:Int)+1)):=⟨_,rfl⟩;rw[←a7]at V G;have a1:=G.fr.heap d5 g.out;have e1:Stp (GS S2 w2.heap.size) wR (GS S2 w2.heap.size) wS:=⟨fS.mono (fun _ _ e=>.inr e),fun _ _ h=>h,fun hl k hk=>by have:=hl k hk;omega⟩;have e2:=P.out.trans (e1.trans (G.gs (by have:=b7.out;have:=P.out.fr.size;omega)));have Z:=Zi b l x ⟨pQ+1,ms2,0⟩ S2 wT hl (by show pQ+1≤_;omega) ⟨i0,V⟩;simp only[K.out]at Z;have g1:=hid t;have g2:=hid a7;have f2:=hid a1;have g5:=hid e2;have e7:=hid Z;have b8:=hid (lt_heap a1);clear y C V G t a7 D d5 a1 fS h6 e1 e2 Z;go_wp2_with(first|rw[←g1.out]|rw[←g2.out]);refine e7.out.mono ?_;rintro e wU ⟨rfl,hU,b0⟩;have a2:=Zt b l x ⟨pV,ms2,0⟩ S2 wU (by omega) hU;simp only[I.out]at a2;have HU:=hid hU;have d1:=hid (g5.out.trans (b0.gs b8.out));have c0:=hid a2
    have b5:=hid (b0.fr.heap f2.out g.out);clear hU b0 a2 rS g9 h0 p10;by_cases a:c2=33
    ·have h8:((c2.toNat:Int)==33)=true:=by rw[a];rfl
     have HN:=hid (show ZgT l A B ⟨at2,ms2,0⟩=.inl (15,pV) by unfold ZgT;simp only;rw[J.out,if_pos (by rw[n.out];exact b1.out),K.out,if_pos (by rw[I.out];exact a)]);clear a;go_wp2_with fail;refine c0.out.mono ?_;rintro e wV ⟨rfl,fV⟩;obtain⟨i1,W⟩:=HU.out.on fV;have rV:=Zd W.blk _ (Fr.refl _ _);have e8:=hid (ZaB b l x ⟨pV,ms2,0⟩ S2 15 pV wV ⟨i1,W⟩);have g7:=hid (d1.out.trans (Stp.of fV));have b6:=hid (fV.heap b5.out (fun x=>x));clear W fV;go_wp2_with fail;refine e8.out.mono ?_;rintro e wX ⟨rfl,hX,e5⟩;go_wp2;go_meet
     case rel=>exact⟨true,_,hX,e5.fr.heap b6.out g.out,g7.out.trans (e5.gs (lt_heap b6.out)),.inr ⟨_,_,_,rfl,rfl,HN.out⟩⟩
    ·have h8:((c2.toNat:Int)==33)=false:=Zn (b:=33) a;have HN:=hid (show ZgT l A B ⟨at2,ms2,0⟩=.inr (⟨A,B,true⟩,⟨pV,ms2,0⟩) by unfold ZgT;simp only;rw[J.out,if_pos (by rw[n.out];exact b1.out),K.out,if_neg (by rw[I.out];exact a)]);clear a;go_wp2_with fail;refine c0.out.mono ?_;rintro e wV ⟨rfl,fV⟩;go_wp2;go_meet
     case rel=>exact⟨true,_,HU.out.on fV,fV.heap b5.out (fun x=>x),d1.out.trans (Stp.of fV),.inl HN.out⟩
   ·have i2:((c1.toNat:Int)==33)=false:=Zn (b:=33) f;have HN:=hid (show ZgT l A B ⟨at2,ms2,0⟩=.inr (⟨A,B,false⟩,⟨pQ,ms2,0⟩) by unfold ZgT;simp only;rw[J.out,if_neg (by rw[n.out];exact f)]);clear f;go_wp2;go_meet
    case rel=>exact⟨false,_,c5.out,b4.out,P.out,.inl HN.out⟩
  case rest=>
   obtain⟨no,sF,hX,d6,H,hN⟩:=hcut;have HN:=hid hN;have st:=g0.out.trans H;have c:=H.rn f8.out;have d:=H.rn f9.out;clear H hN;obtain⟨q1,q2,q3,q4,q5⟩:=Zst F1.out HS.out f5.out HZ.out hX st c d (gcel A B u1 u2 no);have g3:=hid (Zbl rfl HS.out HZ.out st);have Q1:=hid q1;have Q2:=hid q2;have Q3:=hid q3;have Q4:=hid q4;have Q5:=hid q5;have f4:=hid d6;clear hX st d6 c d q1 q2 q3 q4 q5;go_wp2_with(first|refine wpList_load_row rfl 47 _ rfl w2.heap.size rfl 47 (gcel A B u1 u2 no) (0,0) _ f4.out Tryz.underlying47 rfl (info_G9 _ _ _ _ _) ?_|refine wpList_store_row rfl 47 _ _ rfl w.heap.size (gcel A B u1 u2 no) rfl rfl 47 zG g3.out (info_G9 _ _ _ _ _) rfl (gcel_one d0.out g4.out) ?_);(try simp only[Exit.inBlock,Exit.then]);refine bodyPost_ret (results_cell_row rfl _ _ w.heap.size _ _ _ _ rfl Q1.out Tryz.underlying47 rfl (info_G9 _ _ _ _ _)) rfl ?_;rcases HN.out with hN|⟨ms,p,z,rfl,rfl,hN⟩
   ·rw[hN];exact⟨_,_,rfl,⟨_,_,rfl,Q4.out,Q5.out⟩,Q2.out,Q3.out⟩
   ·rw[hN];exact⟨⟨A,B,true⟩,_,_,_,rfl,⟨_,_,rfl,Q4.out.weak,Q5.out.weak⟩,Q2.out,Q3.out⟩
end
section
open Go.RowKit
theorem Ziv(b:Nat)(l:List UInt8)(x:Bool)(at0:Nat)(S O:Nat→Prop)(w:World)(hl:l.length≤99000)(ha:at0≤l.length)(hS:∀k,S k→k<w.heap.size)(hO:∀k,O k→k<w.heap.size)(W0:World)(hE:Env W0)(hW:Fr nob W0 w)(hSW:∀k,S k→W0.heap.size≤k)(h:ARd b l x ⟨at0,[],0⟩ S w):
 Calls Tryz.prog 41 #[.pointer (some ⟨b,0,none⟩)] w (ZaV b l x S O w (ZX x l ⟨at0,[],0⟩)):=by
 unfold ZX;cases hR:addrD x l false ⟨at0,[],0⟩with
 |inl q=>exact Zjo b l x at0 [] S O w hl ha rfl hS hO W0 hE hW hSW h q.1 q.2 hR
 |inr q=>
  obtain⟨A,a,c,e1⟩:=q;obtain rfl:e1=0:=(Zam (s:=⟨at0,[],0⟩) ha rfl hR).ok;simp only;by_cases hk:A.kind=0
  ·rw[if_pos hk];exact Zsu b l x at0 [] S O w hl ha rfl hS hO W0 hE hW hSW h A a c hR AV.zero a c (.inl ⟨hk,rfl,rfl,rfl⟩)
  ·rw[if_neg hk];cases d:Zbc x l ⟨a,c,0⟩with
   |inl q=>exact Zhx b l x at0 [] S O w hl ha rfl hS hO W0 hE hW hSW h A a c hR hk q.1 q.2 d
   |inr q=>
    obtain⟨B,e,f,e2⟩:=q;obtain rfl:e2=0:=(pairD_in d).ok;exact Zsu b l x at0 [] S O w hl ha rfl hS hO W0 hE hW hSW h A a c hR B e f (.inr ⟨hk,d⟩)
theorem notD_err{l:List UInt8}{a b:AV}{s:AdS}{z:Int×Nat}(h:ZgT l a b s=.inl z):z.1≠0:=by
 unfold ZgT at h;split at h
 ·split at h
  ·injection h with h;subst h;intro e;cases e
  ·cases h
 ·cases h
theorem notD_ok{l:List UInt8}{a b:AV}{s s':AdS}{g:GV}(h:ZgT l a b s=.inr (g,s')):s'.e=0:=by
 unfold ZgT at h;split at h
 ·split at h
  ·cases h
  ·injection h with h;injection h with h1 h2;subst h2;rfl
 ·injection h with h;injection h with h1 h2;subst h2;rfl
theorem guardD_err{x:Bool}{l:List UInt8}{s:AdS}{z:Int×Nat}(h:ZX x l s=.inl z):z.1≠0:=by
 unfold ZX at h;split at h
 ·next y hp=>injection h with h;subst h;exact addrD_err hp
 ·next a s1 hp=>
  split at h
  ·next y hq=>
   injection h with h;subst h;split at hq
   ·cases hq
   ·exact pairD_err hq
  ·exact notD_err h
theorem guardD_ok{x:Bool}{l:List UInt8}{s s':AdS}{g:GV}(h:ZX x l s=.inr (g,s')):s'.e=0:=by
 unfold ZX at h;split at h
 ·cases h
 ·split at h
  ·cases h
  ·exact notD_ok h
def ZB1(R:ZlK)(w:World)(e:Ending)(w':World):Prop:=Fr nob w w'∧match R with
 | .inl (z,p)=>e=.returned (.tuple #[.agg zA,.slice none 0 0,.int .i64 (p:Nat),.int .i64 z])
 | .inr (a,s)=>∃v mv,e=.returned (.tuple #[v,mv,.int .i64 (s.at_:Nat),.int .i64 0])∧ZkS nob w' a v∧OwM w' s.marks mv
def ZB2(R:ZpG)(w:World)(e:Ending)(w':World):Prop:=Fr nob w w'∧match R with
 | .inl (z,p)=>e=.returned (.tuple #[.agg zG,.slice none 0 0,.int .i64 (p:Nat),.int .i64 z])
 | .inr (g,s)=>∃v mv,e=.returned (.tuple #[v,mv,.int .i64 (s.at_:Nat),.int .i64 0])∧Zni nob w' g v∧OwM w' s.marks mv
theorem ZbB{fn:Func}{p t u v:Tmp}(h:fn.results= #[.cell p 47,.tmp t,.tmp u,.tmp v]){tmps:Array Value}{r:Nat}(ht:tmps.getD p undef=.pointer (some ⟨r,0,none⟩)){W:World}{a0 a1 a2 a3 a4 a5 a6 a7 a8:Value}
 (hb:W.heap[r]? =some (.cells #[a0,a1,a2,a3,a4,a5,a6,a7,a8] 47 (0,0))):
 (results fn tmps).run Tryz.prog W=.ok (.tuple #[.agg #[a0,a1,a2,a3,a4,a5,a6,a7,a8],tmps.getD t undef,tmps.getD u undef,tmps.getD v undef]) W:=by
 have c0:=cell_at (j:=0) hb rfl;have c1:=cell_at (j:=1) hb rfl;have c2:=cell_at (j:=2) hb rfl;have c3:=cell_at (j:=3) hb rfl;have c4:=cell_at (j:=4) hb rfl;have c5:=cell_at (j:=5) hb rfl;have c6:=cell_at (j:=6) hb rfl;have c7:=cell_at (j:=7) hb rfl;have c8:=cell_at (j:=8) hb rfl;have a:tmps[p]?.getD undef=.pointer (some ⟨r,0,none⟩):=by rw[←ht];simp
 simp only[results,h];simp[a,go_sem,c0,c1,c2,c3,c4,c5,c6,c7,c8]
theorem ZA2{fn:Func}{p t u v:Tmp}(h:fn.results= #[.cell p 45,.tmp t,.tmp u,.tmp v]){tmps:Array Value}{r:Nat}(ht:tmps.getD p undef=.pointer (some ⟨r,0,none⟩)){W:World}{a0 a1 a2 a3:Value}
 (hb:W.heap[r]? =some (.cells #[a0,a1,a2,a3] 45 (0,0))):
 (results fn tmps).run Tryz.prog W=.ok (.tuple #[.agg #[a0,a1,a2,a3],tmps.getD t undef,tmps.getD u undef,tmps.getD v undef]) W:=by
 have c0:=cell_at (j:=0) hb rfl;have c1:=cell_at (j:=1) hb rfl;have c2:=cell_at (j:=2) hb rfl;have c3:=cell_at (j:=3) hb rfl;have a:tmps[p]?.getD undef=.pointer (some ⟨r,0,none⟩):=by rw[←ht];simp
 simp only[results,h];simp[a,go_sem,c0,c1,c2,c3]
open Go.Lib (hid)
theorem Zq{w:World}{k:Nat}{o:Obj}(h:w.heap[k]? =some o):w.drew.heap[k]? =some o:=h
abbrev B5(w:World)(b:Nat)(v0 v1 v2 v3 v4:Value):Prop:=w.cell? ⟨b,0,none⟩=some v0∧w.cell? ⟨b,1,none⟩=some v1∧w.cell? ⟨b,2,none⟩=some v2∧w.cell? ⟨b,3,none⟩=some v3∧w.cell? ⟨b,4,none⟩=some v4
section
variable {w:World} {b k j:Nat} {v0 v1 v2 v3 v4:Value}
theorem B5.of{T:TypeId}{fr:Nat×Nat}(h:w.heap[b]? =some (.cells #[v0,v1,v2,v3,v4] T fr)):B5 w b v0 v1 v2 v3 v4:=⟨cell_at h rfl,cell_at h rfl,cell_at h rfl,cell_at h rfl,cell_at h rfl⟩
theorem B5.drew(h:B5 w b v0 v1 v2 v3 v4):B5 w.drew b v0 v1 v2 v3 v4:=h
theorem B5.set(h:B5 w b v0 v1 v2 v3 v4)(hb:k≠b)(u:Value):B5 (w.setCell ⟨k,j,none⟩ u) b v0 v1 v2 v3 v4:=⟨Zm h.1 hb,Zm h.2.1 hb,Zm h.2.2.1 hb,Zm h.2.2.2.1 hb,Zm h.2.2.2.2 hb⟩
end
theorem Zlk(l:List UInt8)(p:Nat)(x:Bool)(w:World)(hl:l.length≤99000)(hp:p≤l.length)(hE:Env w)(z:Int)(q:Nat)(hR:ZX x l ⟨p,[],0⟩=.inl (z,q)):
 Calls Tryz.prog 18 #[.string ⟨l.toArray⟩,.int .i64 (p:Nat),.bool x] w fun e w'=>e=.returned (.tuple #[.agg zG,.slice none 0 0,.int .i64 (q:Nat),.int .i64 z])∧Fr nob w w':=by
 have u:¬z=0:=guardD_err hR;have U:(z==0)=false:=by simpa using u
 have V:(z !=0)=true:=by simpa using u
 obtain⟨w1,c⟩:∃w1,w1=w.alloc (.cells zG 47):=⟨_,rfl⟩;have f1:Fr nob w w1:=by rw[c];exact(Fr.refl _ _).alloc _
 have hz:w1.heap[w.heap.size]? =some (.cells zG 47 (0,0)):=by rw[c];exact newAt _ _
 have g:w1.heap.size=w.heap.size+1:=by rw[c];simp
 obtain⟨w2,d⟩:∃w2,w2=w1.alloc (.cells #[.string ⟨l.toArray⟩,.int .i64 (p:Nat),.bool x,.slice none 0 0,.int .i64 0] 104):=⟨_,rfl⟩;have f2:Fr nob w1 w2:=by rw[d];exact(Fr.refl _ _).alloc _
 have hb:w2.heap[w.heap.size+1]? =some (.cells #[.string ⟨l.toArray⟩,.int .i64 (p:Nat),.bool x,.slice none 0 0,.int .i64 0] 104 (0,0)):=by
  rw[d,←g];exact newAt _ _
 have s:w2.heap.size=w.heap.size+2:=by rw[d];simp[g]
 have hA:ARd (w.heap.size+1) l x ⟨p,[],0⟩ (fun k=>k=w.heap.size+1) w2:=⟨.slice none 0 0,⟨hb,World.ownsRow_nil _ _ _ _,fun _ h=>(by cases h),rfl⟩⟩;have hG:=Ziv (w.heap.size+1) l x p (fun k=>k=w.heap.size+1) (fun k=>k=w.heap.size) w2 hl hp (fun k hk=>by omega) (fun k hk=>by omega) w hE (f1.trans' f2) (fun k hk=>by omega) hA;rw[hR]at hG;have t:=f2.heap hz (fun x=>x);have q1:¬(l.length:Int)<(p:Int):=by omega
 have HG:=hid hG;have I:=hid c;have J:=hid d;have D:=hid (f1.trans' f2);have HZ:=hid t;have R:=hid s;have H:=hid g;clear hG c d f1 f2 hz t hb hA g s hE hR;go_enter Tryz.func18,Tryz.ntmps18;go_wp2_with(first|rw[←I.out]|rw[H.out]|rw[←J.out]);refine HG.out.mono ?_;intro e w3 he;obtain⟨gv,v,S',ms,rfl,⟨u1,u2,rfl,B,C⟩,N,o⟩:=he;obtain⟨O,h3⟩:=N;have y:=o.fr.heap HZ.out (fun h=>by omega);have S:w.heap.size≠w.heap.size+1:=by omega
 have FF:=hid (D.out.trans o.fr (fun i hi h=>by omega));obtain⟨w4,m⟩:∃w4,w4=w3.alloc (.cells #[.int .i64 gv.a.kind,.int .i64 gv.a.line,.string ⟨gv.a.text.toArray⟩,u1,.int .i64 gv.b.kind,.int .i64 gv.b.line,.string ⟨gv.b.text.toArray⟩,u2,.bool gv.no] 47):=⟨_,rfl⟩;have f4:Fr nob w3 w4:=by rw[m];exact(Fr.refl _ _).alloc _
 have f:=f4.heap h3.blk (fun x=>x);have n:=f4.heap y (fun x=>x);have r4:=Zd f _ (Fr.refl _ _);have HQ:=hid (B5.of f);have G:=hid (B5.drew (B5.of f));have rz:=Zk n;have K:=hid m;have L:=hid n;have E:=hid (FF.out.trans' f4);have P:=B.shape;have Q:=C.shape;clear B C m f4 f n h3 y o;rcases P with rfl|⟨i1,y1,rfl⟩
 all_goals rcases Q with rfl|⟨i2,y2,rfl⟩
 all_goals
  go_wp2_with(rw[←K.out])
  go_region_held3 (fun w'=>B5 w' (w.heap.size+1) (.string ⟨l.toArray⟩) (.int .i64 (q:Nat)) (.bool x) O (.int .i64 z)) (repeat(first|(with_reducible exact HQ.out)|(with_reducible exact G.out)|(with_reducible refine B5.set ?_ (by omega) _)|(with_reducible refine B5.drew ?_))) (fail)
 all_goals
  obtain⟨w5,j⟩:∃w5,w5=(((((((((w4.setCell ⟨w.heap.size,0,none⟩ (.int .i64 0)).setCell ⟨w.heap.size,1,none⟩ (.int .i64 0)).setCell ⟨w.heap.size,2,none⟩ (.string ⟨#[]⟩)).setCell ⟨w.heap.size,3,none⟩ .nilIface).setCell ⟨w.heap.size,4,none⟩ (.int .i64 0)).setCell ⟨w.heap.size,5,none⟩ (.int .i64 0)).setCell ⟨w.heap.size,6,none⟩ (.string ⟨#[]⟩)).setCell ⟨w.heap.size,7,none⟩ .nilIface).setCell ⟨w.heap.size,8,none⟩ (.bool false)).drew:=⟨_,rfl⟩;rw[←j];have A:w5.heap[w.heap.size]? =some (.cells zG 47 (0,0)):=by rw[j];exact Zq (Zf L.out (.int .i64 0) (.int .i64 0) (.string ⟨#[]⟩) .nilIface (.int .i64 0) (.int .i64 0) (.string ⟨#[]⟩) .nilIface (.bool false))
  have r:Fr nob w w5:=by rw[j];exact(Zjh E.out (Nat.le_refl _) (.int .i64 0) (.int .i64 0) (.string ⟨#[]⟩) .nilIface (.int .i64 0) (.int .i64 0) (.string ⟨#[]⟩) .nilIface (.bool false)).drew
  have M:=hid A;have F:=hid r;clear j A r rz r4;go_wp2;(try simp only[Exit.inBlock,Exit.then]);exact bodyPost_ret (ZbB rfl rfl M.out) rfl ⟨rfl,F.out⟩
theorem BC.drew{w:World}{b c:Nat}{v0 v1 v2 v3 v4 u0 u1 u2 u3 u4 u5 u6 u7 u8:Value}(h:B5 w b v0 v1 v2 v3 v4∧C9 w c u0 u1 u2 u3 u4 u5 u6 u7 u8):B5 w.drew b v0 v1 v2 v3 v4∧C9 w.drew c u0 u1 u2 u3 u4 u5 u6 u7 u8:=h
theorem BC.set{w:World}{b c k j:Nat}{v0 v1 v2 v3 v4 u0 u1 u2 u3 u4 u5 u6 u7 u8:Value}(h:B5 w b v0 v1 v2 v3 v4∧C9 w c u0 u1 u2 u3 u4 u5 u6 u7 u8)(hb:k≠b)(hc:k≠c)(u:Value):B5 (w.setCell ⟨k,j,none⟩ u) b v0 v1 v2 v3 v4∧C9 (w.setCell ⟨k,j,none⟩ u) c u0 u1 u2 u3 u4 u5 u6 u7 u8:=by
 obtain⟨h1,c0,c1,c2,c3,c4,c5,c6,c7,c8⟩:=h;exact⟨h1.set hb u,Zm c0 hc,Zm c1 hc,Zm c2 hc,Zm c3 hc,Zm c4 hc,Zm c5 hc,Zm c6 hc,Zm c7 hc,Zm c8 hc⟩
abbrev PgK(w':World)(b c:Nat)(l:List UInt8)(q:Nat)(x:Bool)(am:Option Addr)(ms:List (Nat×List UInt8))(cm:Nat)(gv:GV)(U1 U2:Value):Prop:=
 B5 w' b (.string ⟨l.toArray⟩) (.int .i64 (q:Nat)) (.bool x) (.slice am ms.length cm) (.int .i64 0)∧C9 w' c (.int .i64 gv.a.kind) (.int .i64 gv.a.line) (.string ⟨gv.a.text.toArray⟩) U1 (.int .i64 gv.b.kind) (.int .i64 gv.b.line) (.string ⟨gv.b.text.toArray⟩) U2 (.bool gv.no)
abbrev PgW(w4:World)(b:Nat)(gv:GV)(U1 U2:Value):World:=(ZcB w4 b (.int .i64 gv.a.kind) (.int .i64 gv.a.line) (.string ⟨gv.a.text.toArray⟩) U1 (.int .i64 gv.b.kind) (.int .i64 gv.b.line) (.string ⟨gv.b.text.toArray⟩) U2 (.bool gv.no)).drew
abbrev PgC(gv:GV)(U1 U2:Value):Array Value:= #[.int .i64 gv.a.kind,.int .i64 gv.a.line,.string ⟨gv.a.text.toArray⟩,U1,.int .i64 gv.b.kind,.int .i64 gv.b.line,.string ⟨gv.b.text.toArray⟩,U2,.bool gv.no]
theorem ZxO{w w4:World}{gv:GV}{ms:List (Nat×List UInt8)}{am:Option Addr}{cm:Nat}{S' O0:Nat→Prop}{U1 U2:Value}(hz4:w4.heap[w.heap.size]? =some (.cells zG 47 (0,0)))(ff4:Fr nob w w4)
 (rn1:RN (SO S' fun k=>k=w.heap.size∨O0 k) w4 gv.a.tree U1) (rn2:RN (SO S' fun k=>k=w.heap.size∨O0 k) w4 gv.b.tree U2) (ma:OwM w4 ms (.slice am ms.length cm)) (nr:∀k,(Value.slice am ms.length cm).ownBlock=some k→¬k=w.heap.size)
 (ht1:∀k,(Value.slice am ms.length cm).ownBlock=some k→S' k) (ht4:∀k,S' k→w.heap.size≤k∧k<w4.heap.size):
 (PgW w4 w.heap.size gv U1 U2).heap[w.heap.size]? =some (.cells (PgC gv U1 U2) 47 (0,0))∧
 Zni nob (PgW w4 w.heap.size gv U1 U2) gv (.agg (PgC gv U1 U2))∧OwM (PgW w4 w.heap.size gv U1 U2) ms (.slice am ms.length cm)∧Fr nob w (PgW w4 w.heap.size gv U1 U2)∧
 ∃T:Nat→Prop,(∀k,(Value.slice am ms.length cm).ownBlock=some k→T k)∧(∀k,T k→w.heap.size≤k∧k<(PgW w4 w.heap.size gv U1 U2).heap.size)∧Zni (SO T O0) (PgW w4 w.heap.size gv U1 U2) gv (.agg (PgC gv U1 U2)):=by
 have c:Fr (fun k=>k=w.heap.size) w4 (PgW w4 w.heap.size gv U1 U2):=(Zas (.int .i64 gv.a.kind) (.int .i64 gv.a.line) (.string ⟨gv.a.text.toArray⟩) U1 (.int .i64 gv.b.kind) (.int .i64 gv.b.line) (.string ⟨gv.b.text.toArray⟩) U2 (.bool gv.no)).drew;refine⟨Zq (Zf hz4 (.int .i64 gv.a.kind) (.int .i64 gv.a.line) (.string ⟨gv.a.text.toArray⟩) U1 (.int .i64 gv.b.kind) (.int .i64 gv.b.line) (.string ⟨gv.b.text.toArray⟩) U2 (.bool gv.no)),⟨_,_,rfl,?_,?_⟩,ownsRow_fr ma c (fun k hk h=>nr k hk h),ff4.trans c (fun i hi h=>by have h:i=w.heap.size:=h;omega),S',ht1,fun k hk=>⟨(ht4 k hk).1,by have:=c.size;have:=(ht4 k hk).2;omega⟩,⟨_,_,rfl,?_,?_⟩⟩
 ·exact RN.keep c (fun k _ h=>.inr (.inl h)) (fun _ _ x=>x.elim) _ _ rn1
 ·exact RN.keep c (fun k _ h=>.inr (.inl h)) (fun _ _ x=>x.elim) _ _ rn2
 ·exact RN.keep c (fun k _ h=>.inr (.inl h)) (fun _ _ x=>x.elim .inl (fun e=>.inr (.inr e))) _ _ rn1
 ·exact RN.keep c (fun k _ h=>.inr (.inl h)) (fun _ _ x=>x.elim .inl (fun e=>.inr (.inr e))) _ _ rn2
theorem ZgQ(l:List UInt8)(p:Nat)(x:Bool)(w:World)(hl:l.length≤99000)(hp:p≤l.length)(hE:Env w)(gv:GV)(q:Nat)(ms:List (Nat×List UInt8))(hR:ZX x l ⟨p,[],0⟩=.inr (gv,⟨q,ms,0⟩))(O0:Nat→Prop)(hO0:∀k,O0 k→k<w.heap.size):
 Calls Tryz.prog 18 #[.string ⟨l.toArray⟩,.int .i64 (p:Nat),.bool x] w fun e w'=>∃v mv,e=.returned (.tuple #[v,mv,.int .i64 (q:Nat),.int .i64 0])∧Zni nob w' gv v∧OwM w' ms mv∧Fr nob w w'∧∃T:Nat→Prop,(∀k,mv.ownBlock=some k→T k)∧(∀k,T k→w.heap.size≤k∧k<w'.heap.size)∧Zni (SO T O0) w' gv v:=by
 obtain⟨w1,d⟩:∃w1,w1=w.alloc (.cells zG 47):=⟨_,rfl⟩;have f1:Fr nob w w1:=by rw[d];exact(Fr.refl _ _).alloc _
 have hz:w1.heap[w.heap.size]? =some (.cells zG 47 (0,0)):=by rw[d];exact newAt _ _
 have A:w1.heap.size=w.heap.size+1:=by rw[d];simp
 obtain⟨w2,f⟩:∃w2,w2=w1.alloc (.cells #[.string ⟨l.toArray⟩,.int .i64 (p:Nat),.bool x,.slice none 0 0,.int .i64 0] 104):=⟨_,rfl⟩;have f2:Fr nob w1 w2:=by rw[f];exact(Fr.refl _ _).alloc _
 have hb:w2.heap[w.heap.size+1]? =some (.cells #[.string ⟨l.toArray⟩,.int .i64 (p:Nat),.bool x,.slice none 0 0,.int .i64 0] 104 (0,0)):=by
  rw[f,←A];exact newAt _ _
 have L:w2.heap.size=w.heap.size+2:=by rw[f];simp[A]
 have hA:ARd (w.heap.size+1) l x ⟨p,[],0⟩ (fun k=>k=w.heap.size+1) w2:=⟨.slice none 0 0,⟨hb,World.ownsRow_nil _ _ _ _,fun _ h=>(by cases h),rfl⟩⟩;have hG:=Ziv (w.heap.size+1) l x p (fun k=>k=w.heap.size+1) (fun k=>k=w.heap.size∨O0 k) w2 hl hp (fun k hk=>by omega) (fun k hk=>by rcases hk with hk|hk;(·omega);(·have:=hO0 k hk;omega)) w hE (f1.trans' f2) (fun k hk=>by omega) hA;rw[hR]at hG;have M:=f2.heap hz (fun x=>x);have q1:¬(l.length:Int)<(p:Int):=by omega
 have HG:=hid hG;have R:=hid d;have S:=hid f;have P:=hid (f1.trans' f2);have HZ:=hid M;have m:=hid L;have Q:=hid A;clear hG d f f1 f2 hz M hb hA A L hE hR;go_enter Tryz.func18,Tryz.ntmps18;go_wp2_with(first|rw[←R.out]|rw[Q.out]|rw[←S.out]);refine HG.out.mono ?_;intro e w3 he;obtain⟨v,S',rfl,⟨u1,u2,rfl,F,G⟩,U,c⟩:=he;obtain⟨O,h3⟩:=U;have N:=c.fr.heap HZ.out (fun h=>by omega);have a0:w.heap.size≠w.heap.size+1:=by omega
 have Z:w.heap.size≠w3.heap.size:=by have:=c.fr.size;have:=m.out;omega
 have FF:=hid (P.out.trans c.fr (fun i hi h=>by omega));have K:∀k,O.ownBlock=some k→¬k=w.heap.size:=fun k hk e=>by
  have h1:=(h3.nm k hk).2;have h2:=c.old k (by have:=m.out;omega) h1;have h2:k=w.heap.size+1:=h2;omega
 have I:∀k,O.ownBlock=some k→S' k:=fun k hk=>(h3.nm k hk).2;have J:∀k,S' k→w.heap.size≤k∧k<w3.heap.size:=fun k hk=>⟨by
  by_cases ho:k<w2.heap.size
  ·have h2:k=w.heap.size+1:=c.old k ho hk;omega
  ·have:=m.out;omega,c.lt (fun i (hi:i=w.heap.size+1)=>by have:=m.out;omega) k hk⟩
 have n:=hid I;have H:=hid J;clear I J;obtain⟨w4,B⟩:∃w4,w4=w3.alloc (.cells #[.int .i64 gv.a.kind,.int .i64 gv.a.line,.string ⟨gv.a.text.toArray⟩,u1,.int .i64 gv.b.kind,.int .i64 gv.b.line,.string ⟨gv.b.text.toArray⟩,u2,.bool gv.no] 47):=⟨_,rfl⟩;have f4:Fr nob w3 w4:=by rw[B];exact(Fr.refl _ _).alloc _
 have C:w4.heap[w3.heap.size]? =some (.cells #[.int .i64 gv.a.kind,.int .i64 gv.a.line,.string ⟨gv.a.text.toArray⟩,u1,.int .i64 gv.b.kind,.int .i64 gv.b.line,.string ⟨gv.b.text.toArray⟩,u2,.bool gv.no] 47 (0,0)):=by rw[B];exact newAt _ _
 have y:=f4.heap h3.blk (fun x=>x);have D:=h3.ma;obtain⟨am,cm,V⟩:=Zb D;subst V;have E:=f4.heap N (fun x=>x);have r4:=Zd y _ (Fr.refl _ _);have HQ:=hid (And.intro (B5.of y) (C9.of C));have j:=hid (BC.drew (And.intro (B5.of y) (C9.of C)));have rz:=Zk E;have o:=hid (show∀k,S' k→w.heap.size≤k∧k<w4.heap.size from fun k hk=>⟨(H.out k hk).1,by have:=f4.size;have:=(H.out k hk).2;omega⟩);have r:=hid B;have s:=hid E;have g:=hid (FF.out.trans' f4);have t:=hid (F.on f4);have u:=hid (G.on f4);have MA:=hid (ownsRow_fr D f4 (fun _ _ x=>x));have NR:=hid K;have W:=F.shape;have Y:=G.shape;clear F G B f4 y E h3 N c C D K;rcases W with rfl|⟨i1,y1,rfl⟩
 all_goals rcases Y with rfl|⟨i2,y2,rfl⟩
 ·go_wp2_with(rw[←r.out])
  go_region_held3 (fun w'=>PgK w' (w.heap.size+1) w3.heap.size l q x am ms cm gv .nilIface .nilIface) (repeat(first|(with_reducible exact HQ.out)|(with_reducible exact j.out)|(with_reducible refine BC.set ?_ (by omega) (by omega) _)|(with_reducible refine BC.drew ?_))) (fail)
  all_goals
   go_wp2;(try simp only[Exit.inBlock,Exit.then]);have X:=ZxO s.out g.out t.out u.out MA.out NR.out n.out o.out;exact bodyPost_ret (ZbB rfl rfl X.1) rfl ⟨_,_,rfl,X.2⟩
 ·go_wp2_with(rw[←r.out])
  go_region_held3 (fun w'=>PgK w' (w.heap.size+1) w3.heap.size l q x am ms cm gv .nilIface (.iface i2 y2)) (repeat(first|(with_reducible exact HQ.out)|(with_reducible exact j.out)|(with_reducible refine BC.set ?_ (by omega) (by omega) _)|(with_reducible refine BC.drew ?_))) (fail)
  all_goals
   go_wp2;(try simp only[Exit.inBlock,Exit.then]);have X:=ZxO s.out g.out t.out u.out MA.out NR.out n.out o.out;exact bodyPost_ret (ZbB rfl rfl X.1) rfl ⟨_,_,rfl,X.2⟩
 ·go_wp2_with(rw[←r.out])
  go_region_held3 (fun w'=>PgK w' (w.heap.size+1) w3.heap.size l q x am ms cm gv (.iface i1 y1) .nilIface) (repeat(first|(with_reducible exact HQ.out)|(with_reducible exact j.out)|(with_reducible refine BC.set ?_ (by omega) (by omega) _)|(with_reducible refine BC.drew ?_))) (fail)
  all_goals
   go_wp2;(try simp only[Exit.inBlock,Exit.then]);have X:=ZxO s.out g.out t.out u.out MA.out NR.out n.out o.out;exact bodyPost_ret (ZbB rfl rfl X.1) rfl ⟨_,_,rfl,X.2⟩
 ·go_wp2_with(rw[←r.out])
  go_region_held3 (fun w'=>PgK w' (w.heap.size+1) w3.heap.size l q x am ms cm gv (.iface i1 y1) (.iface i2 y2)) (repeat(first|(with_reducible exact HQ.out)|(with_reducible exact j.out)|(with_reducible refine BC.set ?_ (by omega) (by omega) _)|(with_reducible refine BC.drew ?_))) (fail)
  all_goals
   go_wp2;(try simp only[Exit.inBlock,Exit.then]);have X:=ZxO s.out g.out t.out u.out MA.out NR.out n.out o.out;exact bodyPost_ret (ZbB rfl rfl X.1) rfl ⟨_,_,rfl,X.2⟩
theorem Z4(l:List UInt8)(p:Nat)(x:Bool)(w:World)(hl:l.length≤99000)(hp:p≤l.length)(hE:Env w):
 Calls Tryz.prog 18 #[.string ⟨l.toArray⟩,.int .i64 (p:Nat),.bool x] w (ZB2 (ZX x l ⟨p,[],0⟩) w):=by
 cases hR:ZX x l ⟨p,[],0⟩with
 |inl z=>
  obtain⟨z,q⟩:=z;exact(Zlk l p x w hl hp hE z q hR).mono fun e w' h=>⟨h.2,h.1⟩
 |inr z=>
  obtain⟨gv,q,ms,e⟩:=z;obtain rfl:e=0:=guardD_ok hR;exact(ZgQ l p x w hl hp hE gv q ms hR nob (fun _ h=>h.elim)).mono fun e w' ⟨v,mv,h1,h2,h3,h4,_⟩=>⟨h4,v,mv,h1,h2,h3⟩
abbrev B4(w:World)(b:Nat)(v0 v1 v2 v3:Value):Prop:=w.cell? ⟨b,0,none⟩=some v0∧w.cell? ⟨b,1,none⟩=some v1∧w.cell? ⟨b,2,none⟩=some v2∧w.cell? ⟨b,3,none⟩=some v3
section
variable {w:World} {b c k j:Nat} {v0 v1 v2 v3 v4 u0 u1 u2 u3:Value}
theorem B4.of{T:TypeId}{fr:Nat×Nat}(h:w.heap[b]? =some (.cells #[v0,v1,v2,v3] T fr)):B4 w b v0 v1 v2 v3:=⟨cell_at h rfl,cell_at h rfl,cell_at h rfl,cell_at h rfl⟩
theorem BA.drew(h:B5 w b v0 v1 v2 v3 v4∧B4 w c u0 u1 u2 u3):B5 w.drew b v0 v1 v2 v3 v4∧B4 w.drew c u0 u1 u2 u3:=h
theorem BA.set(h:B5 w b v0 v1 v2 v3 v4∧B4 w c u0 u1 u2 u3)(hb:k≠b)(hc:k≠c)(u:Value):B5 (w.setCell ⟨k,j,none⟩ u) b v0 v1 v2 v3 v4∧B4 (w.setCell ⟨k,j,none⟩ u) c u0 u1 u2 u3:=by
 obtain⟨h1,c0,c1,c2,c3⟩:=h;exact⟨h1.set hb u,Zm c0 hc,Zm c1 hc,Zm c2 hc,Zm c3 hc⟩
end
theorem ZBA(l:List UInt8)(p:Nat)(x sc:Bool)(w:World)(hl:l.length≤99000)(hp:p≤l.length)(hE:Env w)(z:Int)(q:Nat)(hR:addrD x l sc ⟨p,[],0⟩=.inl (z,q)):
 Calls Tryz.prog 21 #[.string ⟨l.toArray⟩,.int .i64 (p:Nat),.bool x,.bool sc] w fun e w'=>e=.returned (.tuple #[.agg zA,.slice none 0 0,.int .i64 (q:Nat),.int .i64 z])∧Fr nob w w':=by
 have t:¬z=0:=addrD_err hR;have M:(z==0)=false:=by simpa using t
 have N:(z !=0)=true:=by simpa using t
 obtain⟨w1,a⟩:∃w1,w1=w.alloc (.cells zA 45):=⟨_,rfl⟩;have f1:Fr nob w w1:=by rw[a];exact(Fr.refl _ _).alloc _
 have hz:w1.heap[w.heap.size]? =some (.cells zA 45 (0,0)):=by rw[a];exact newAt _ _
 have d:w1.heap.size=w.heap.size+1:=by rw[a];simp
 obtain⟨w2,b⟩:∃w2,w2=w1.alloc (.cells #[.string ⟨l.toArray⟩,.int .i64 (p:Nat),.bool x,.slice none 0 0,.int .i64 0] 104):=⟨_,rfl⟩;have f2:Fr nob w1 w2:=by rw[b];exact(Fr.refl _ _).alloc _
 have hb:w2.heap[w.heap.size+1]? =some (.cells #[.string ⟨l.toArray⟩,.int .i64 (p:Nat),.bool x,.slice none 0 0,.int .i64 0] 104 (0,0)):=by
  rw[b,←d];exact newAt _ _
 have r:w2.heap.size=w.heap.size+2:=by rw[b];simp[d]
 have hA:ARd (w.heap.size+1) l x ⟨p,[],0⟩ (fun k=>k=w.heap.size+1) w2:=⟨.slice none 0 0,⟨hb,World.ownsRow_nil _ _ _ _,fun _ h=>(by cases h),rfl⟩⟩;have hG:=Zal (w.heap.size+1) l x sc ⟨p,[],0⟩ (fun k=>k=w.heap.size+1) (fun k=>k=w.heap.size) w2 (by omega) hp (by simp) rfl (fun k hk=>by omega) (fun k hk=>by omega) w hE (f1.trans' f2) (fun k hk=>by omega) hA;rw[hR]at hG;have s:=f2.heap hz (fun x=>x);have q1:¬(l.length:Int)<(p:Int):=by omega
 have HG:=hid hG;have E:=hid a;have F:=hid b;have y:=hid (f1.trans' f2);have HZ:=hid s;have K:=hid r;have D:=hid d;clear hG a b f1 f2 hz s hb hA d r hE hR;go_enter Tryz.func21,Tryz.ntmps21;go_wp2_with(first|rw[←E.out]|rw[D.out]|rw[←F.out]);refine HG.out.mono ?_;intro e w3 he;obtain⟨rfl,S',ms,I,m⟩:=he;obtain⟨J,h3⟩:=I;have j:=m.fr.heap HZ.out (fun h=>by omega);have L:w.heap.size≠w.heap.size+1:=by omega
 have FF:=hid (y.out.trans m.fr (fun i hi h=>by omega));obtain⟨w4,g⟩:∃w4,w4=w3.alloc (.cells #[.int .i64 0,.int .i64 0,.string ⟨#[]⟩,.nilIface] 45):=⟨_,rfl⟩;have f4:Fr nob w3 w4:=by rw[g];exact(Fr.refl _ _).alloc _
 have c:=f4.heap h3.blk (fun x=>x);have u:=f4.heap j (fun x=>x);have r3:=Zd h3.blk;have r4:=Zd c _ (Fr.refl _ _);have HQ:=hid (B5.of c);have C:=hid (B5.drew (B5.of c));have rz:=Zl j;have G:=hid g;have n:=hid u;have A:=hid (FF.out.trans' f4);clear g f4 c u h3 j m;go_wp2_with fail;rw[←G.out];clear r3 rz;have rz:=Zl n.out
 go_region_held3 (fun w'=>B5 w' (w.heap.size+1) (.string ⟨l.toArray⟩) (.int .i64 (q:Nat)) (.bool x) J (.int .i64 z)) (repeat(first|(with_reducible exact HQ.out)|(with_reducible exact C.out)|(with_reducible refine B5.set ?_ (by omega) _)|(with_reducible refine B5.drew ?_))) (fail)
 obtain⟨w5,f⟩:∃w5,w5=((((w4.setCell ⟨w.heap.size,0,none⟩ (.int .i64 0)).setCell ⟨w.heap.size,1,none⟩ (.int .i64 0)).setCell ⟨w.heap.size,2,none⟩ (.string ⟨#[]⟩)).setCell ⟨w.heap.size,3,none⟩ .nilIface).drew:=⟨_,rfl⟩;rw[←f];have v:w5.heap[w.heap.size]? =some (.cells zA 45 (0,0)):=by rw[f];exact Zq (setFour_heap n.out (.int .i64 0) (.int .i64 0) (.string ⟨#[]⟩) .nilIface)
 have o:Fr nob w w5:=by rw[f];exact(Zp A.out (Nat.le_refl _) (.int .i64 0) (.int .i64 0) (.string ⟨#[]⟩) .nilIface).drew
 have H:=hid v;have B:=hid o;clear f v o rz r4;go_wp2;(try simp only[Exit.inBlock,Exit.then]);exact bodyPost_ret (ZA2 rfl rfl H.out) rfl ⟨rfl,B.out⟩
theorem ZBB(l:List UInt8)(p:Nat)(x sc:Bool)(w:World)(hl:l.length≤99000)(hp:p≤l.length)(hE:Env w)(gv:AV)(q:Nat)(ms:List (Nat×List UInt8))(hR:addrD x l sc ⟨p,[],0⟩=.inr (gv,⟨q,ms,0⟩)):
 Calls Tryz.prog 21 #[.string ⟨l.toArray⟩,.int .i64 (p:Nat),.bool x,.bool sc] w fun e w'=>∃v mv,e=.returned (.tuple #[v,mv,.int .i64 (q:Nat),.int .i64 0])∧ZkS nob w' gv v∧OwM w' ms mv∧Fr nob w w':=by
 obtain⟨w1,c⟩:∃w1,w1=w.alloc (.cells zA 45):=⟨_,rfl⟩;have f1:Fr nob w w1:=by rw[c];exact(Fr.refl _ _).alloc _
 have hz:w1.heap[w.heap.size]? =some (.cells zA 45 (0,0)):=by rw[c];exact newAt _ _
 have m:w1.heap.size=w.heap.size+1:=by rw[c];simp
 obtain⟨w2,d⟩:∃w2,w2=w1.alloc (.cells #[.string ⟨l.toArray⟩,.int .i64 (p:Nat),.bool x,.slice none 0 0,.int .i64 0] 104):=⟨_,rfl⟩;have f2:Fr nob w1 w2:=by rw[d];exact(Fr.refl _ _).alloc _
 have hb:w2.heap[w.heap.size+1]? =some (.cells #[.string ⟨l.toArray⟩,.int .i64 (p:Nat),.bool x,.slice none 0 0,.int .i64 0] 104 (0,0)):=by
  rw[d,←m];exact newAt _ _
 have J:w2.heap.size=w.heap.size+2:=by rw[d];simp[m]
 have hA:ARd (w.heap.size+1) l x ⟨p,[],0⟩ (fun k=>k=w.heap.size+1) w2:=⟨.slice none 0 0,⟨hb,World.ownsRow_nil _ _ _ _,fun _ h=>(by cases h),rfl⟩⟩;have hG:=Zal (w.heap.size+1) l x sc ⟨p,[],0⟩ (fun k=>k=w.heap.size+1) (fun k=>k=w.heap.size) w2 (by omega) hp (by simp) rfl (fun k hk=>by omega) (fun k hk=>by omega) w hE (f1.trans' f2) (fun k hk=>by omega) hA;rw[hR]at hG;have K:=f2.heap hz (fun x=>x);have q1:¬(l.length:Int)<(p:Int):=by omega
 have HG:=hid hG;have O:=hid c;have P:=hid d;have M:=hid (f1.trans' f2);have HZ:=hid K;have E:=hid J;have N:=hid m;clear hG c d f1 f2 hz K hb hA m J hE hR;go_enter Tryz.func21,Tryz.ntmps21;go_wp2_with(first|rw[←O.out]|rw[N.out]|rw[←P.out]);refine HG.out.mono ?_;intro e w3 he;obtain⟨v,S',rfl,⟨u1,rfl,B⟩,Q,g⟩:=he;obtain⟨S,h3⟩:=Q;have L:=g.fr.heap HZ.out (fun h=>by omega);have W:w.heap.size≠w.heap.size+1:=by omega
 have V:w.heap.size≠w3.heap.size:=by have:=g.fr.size;have:=E.out;omega
 have FF:=hid (M.out.trans g.fr (fun i hi h=>by omega));have I:∀k,S.ownBlock=some k→¬k=w.heap.size:=fun k hk e=>by
  have h1:=(h3.nm k hk).2;have h2:=g.old k (by have:=E.out;omega) h1;have h2:k=w.heap.size+1:=h2;omega
 obtain⟨w4,n⟩:∃w4,w4=w3.alloc (.cells #[.int .i64 gv.kind,.int .i64 gv.line,.string ⟨gv.text.toArray⟩,u1] 45):=⟨_,rfl⟩;have f4:Fr nob w3 w4:=by rw[n];exact(Fr.refl _ _).alloc _
 have u:w4.heap[w3.heap.size]? =some (.cells #[.int .i64 gv.kind,.int .i64 gv.line,.string ⟨gv.text.toArray⟩,u1] 45 (0,0)):=by rw[n];exact newAt _ _
 have j:=f4.heap h3.blk (fun x=>x);have y:=h3.ma;obtain⟨am,cm,R⟩:=Zb y;subst R;have A:=f4.heap L (fun x=>x);have r4:=Zd j _ (Fr.refl _ _);have HQ:=hid (And.intro (B5.of j) (B4.of u));have D:=hid (BA.drew (And.intro (B5.of j) (B4.of u)));have rz:=Zl A;have F:=hid n;have G:=hid A;have C:=hid (FF.out.trans' f4);have H:=hid (B.on f4);have MA:=hid (show OwM w4 ms (.slice am ms.length cm)from ownsRow_fr y f4 (fun _ _ h=>h));have NR:=hid I;have U:=B.shape;clear B n f4 u j A h3 L g y I;rcases U with rfl|⟨i1,y1,rfl⟩
 ·go_wp2_with(rw[←F.out])
  go_region_held3 (fun w'=>B5 w' (w.heap.size+1) (.string ⟨l.toArray⟩) (.int .i64 (q:Nat)) (.bool x) (.slice am ms.length cm) (.int .i64 0)∧B4 w' w3.heap.size (.int .i64 gv.kind) (.int .i64 gv.line) (.string ⟨gv.text.toArray⟩) .nilIface) (repeat(first|(with_reducible exact HQ.out)|(with_reducible exact D.out)|(with_reducible refine BA.set ?_ (by omega) (by omega) _)|(with_reducible refine BA.drew ?_))) (fail)
  all_goals
   obtain⟨w5,b⟩:∃w5,w5=((((w4.setCell ⟨w.heap.size,0,none⟩ (.int .i64 gv.kind)).setCell ⟨w.heap.size,1,none⟩ (.int .i64 gv.line)).setCell ⟨w.heap.size,2,none⟩ (.string ⟨gv.text.toArray⟩)).setCell ⟨w.heap.size,3,none⟩ .nilIface).drew:=⟨_,rfl⟩;rw[←b];have f:w5.heap[w.heap.size]? =some (.cells #[.int .i64 gv.kind,.int .i64 gv.line,.string ⟨gv.text.toArray⟩,.nilIface] 45 (0,0)):=by rw[b];exact Zq (setFour_heap G.out (.int .i64 gv.kind) (.int .i64 gv.line) (.string ⟨gv.text.toArray⟩) .nilIface)
   have a:Fr (fun k=>k=w.heap.size) w4 w5:=by rw[b];exact(ZS w4 w.heap.size (.int .i64 gv.kind) (.int .i64 gv.line) (.string ⟨gv.text.toArray⟩) .nilIface).drew
   have o:=hid (show Fr nob w w5 from C.out.trans a (fun i hi h=>by have h:i=w.heap.size:=h;omega));have s:=hid (RN.keep a (fun k _ h=>.inr h) (fun _ _ x=>x.elim) _ _ H.out:RN nob w5 gv.tree .nilIface);have r:=hid (show OwM w5 ms (.slice am ms.length cm)from ownsRow_fr MA.out a (fun k hk h=>NR.out k hk h));have t:=hid f;clear b f a rz r4;go_wp2;(try simp only[Exit.inBlock,Exit.then]);exact bodyPost_ret (ZA2 rfl rfl t.out) rfl ⟨_,_,rfl,⟨_,rfl,s.out⟩,r.out,o.out⟩
 ·go_wp2_with(rw[←F.out])
  go_region_held3 (fun w'=>B5 w' (w.heap.size+1) (.string ⟨l.toArray⟩) (.int .i64 (q:Nat)) (.bool x) (.slice am ms.length cm) (.int .i64 0)∧B4 w' w3.heap.size (.int .i64 gv.kind) (.int .i64 gv.line) (.string ⟨gv.text.toArray⟩) (.iface i1 y1)) (repeat(first|(with_reducible exact HQ.out)|(with_reducible exact D.out)|(with_reducible refine BA.set ?_ (by omega) (by omega) _)|(with_reducible refine BA.drew ?_))) (fail)
  all_goals
   obtain⟨w5,b⟩:∃w5,w5=((((w4.setCell ⟨w.heap.size,0,none⟩ (.int .i64 gv.kind)).setCell ⟨w.heap.size,1,none⟩ (.int .i64 gv.line)).setCell ⟨w.heap.size,2,none⟩ (.string ⟨gv.text.toArray⟩)).setCell ⟨w.heap.size,3,none⟩ (.iface i1 y1)).drew:=⟨_,rfl⟩;rw[←b];have f:w5.heap[w.heap.size]? =some (.cells #[.int .i64 gv.kind,.int .i64 gv.line,.string ⟨gv.text.toArray⟩,.iface i1 y1] 45 (0,0)):=by rw[b];exact Zq (setFour_heap G.out (.int .i64 gv.kind) (.int .i64 gv.line) (.string ⟨gv.text.toArray⟩) (.iface i1 y1))
   have a:Fr (fun k=>k=w.heap.size) w4 w5:=by rw[b];exact(ZS w4 w.heap.size (.int .i64 gv.kind) (.int .i64 gv.line) (.string ⟨gv.text.toArray⟩) (.iface i1 y1)).drew
   have o:=hid (show Fr nob w w5 from C.out.trans a (fun i hi h=>by have h:i=w.heap.size:=h;omega));have s:=hid (RN.keep a (fun k _ h=>.inr h) (fun _ _ x=>x.elim) _ _ H.out:RN nob w5 gv.tree (.iface i1 y1));have r:=hid (show OwM w5 ms (.slice am ms.length cm)from ownsRow_fr MA.out a (fun k hk h=>NR.out k hk h));have t:=hid f;clear b f a rz r4;go_wp2;(try simp only[Exit.inBlock,Exit.then]);exact bodyPost_ret (ZA2 rfl rfl t.out) rfl ⟨_,_,rfl,⟨_,rfl,s.out⟩,r.out,o.out⟩
theorem ZBt(l:List UInt8)(p:Nat)(x sc:Bool)(w:World)(hl:l.length≤99000)(hp:p≤l.length)(hE:Env w):
 Calls Tryz.prog 21 #[.string ⟨l.toArray⟩,.int .i64 (p:Nat),.bool x,.bool sc] w (ZB1 (addrD x l sc ⟨p,[],0⟩) w):=by
 cases hR:addrD x l sc ⟨p,[],0⟩with
 |inl z=>
  obtain⟨z,q⟩:=z;exact(ZBA l p x sc w hl hp hE z q hR).mono fun e w' h=>⟨h.2,h.1⟩
 |inr z=>
  obtain⟨gv,q,ms,e⟩:=z;obtain rfl:e=0:=(Zam hp rfl hR).ok;exact(ZBB l p x sc w hl hp hE gv q ms hR).mono fun e w' ⟨v,mv,h1,h2,h3,h4⟩=>⟨h4,v,mv,h1,h2,h3⟩
theorem ZBC:ZX false [50,44,47,120,47,33,112] ⟨0,[],0⟩=.inr (⟨⟨1,2,[],.nil⟩,⟨3,0,[120],.one (spn 120 120)⟩,true⟩,⟨6,[],0⟩):=by kernel_rfl
theorem awake12_any(w:World)(hE:Env w):Calls Tryz.prog 17 #[] w fun e w'=>e=.returned (.bool true)∧Fr nob w w':=by
 have P1:=Z4 [50,44,47,120,47,33,112] 0 false w (by decide) (by decide) hE;rw[ZBC]at P1;have HP:=hid P1;clear P1 hE;go_enter Tryz.func17,Tryz.ntmps17;go_wp2_with fail;refine HP.out.mono ?_;rintro e w1 ⟨f1,v,mv,rfl,⟨u1,u2,rfl,r1,r2⟩,ma⟩;obtain⟨am,cm,hm⟩:=Zb ma;subst hm;have o1:=r1.shape;have o2:=r2.shape;have F1:=hid f1;clear f1 r1 r2 ma;rcases o1 with rfl|⟨i1,y1,rfl⟩<;>rcases o2 with rfl|⟨i2,y2,rfl⟩
 all_goals
  go_wp2;go_ret;exact⟨rfl,F1.out.alloc _⟩
end
end Go.Proofs.YtgllcniibbaoaaaGreatDoor
