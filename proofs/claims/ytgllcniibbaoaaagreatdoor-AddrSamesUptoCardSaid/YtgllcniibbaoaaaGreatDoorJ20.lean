/- Lemmas of this claim. -/
import Derived.Test.YtgllcniibbaoaaaGreatDoorJ19
set_option linter.all false
set_option maxRecDepth 100000
set_option maxHeartbeats 24000000
namespace Go.Proofs.YtgllcniibbaoaaaGreatDoor
open Go.Proofs.Tryz
section
open Go.Lib (hid)
open Go.RowKit
theorem ZN(w:World)(g:Nat)(cs:Array Value):Fr (fun k=>k=g) w (w.setRow g cs):=⟨rfl,rfl,rfl,by simp,fun k _ hk=>setRow_other w g k cs hk⟩
theorem ZxV:(prog.info? 47).map (·.size)=some 9:=by kernel_rfl
abbrev gcel(A B:AV)(u1 u2:Value)(no:Bool):Array Value:= #[.int .i64 A.kind,.int .i64 A.line,.string ⟨A.text.toArray⟩,u1,.int .i64 B.kind,.int .i64 B.line,.string ⟨B.text.toArray⟩,u2,.bool no]
theorem gcel_one{A B:AV}{u1 u2:Value}{no:Bool}(h1:u1.oneCell'=true)(h2:u2.oneCell'=true):(gcel A B u1 u2 no).all (·.oneCell')=true:=by simp[gcel,Value.oneCell']at *;exact⟨h1,h2⟩
theorem info_G9(A B:AV)(u1 u2:Value)(no:Bool):(prog.info? 47).map (·.size)=some (gcel A B u1 u2 no).size:=ZxV
def ZsC(b:Nat)(l:List UInt8)(x:Bool)(S O:Nat→Prop)(g r:Nat)(A B:AV)(u1:Value)(p:Nat)(ms:List (Nat×List UInt8))(w1 w':World):Prop:=
 ∃S2 u2,ARd b l x ⟨p,ms,0⟩ S2 w'∧¬S2 g∧Stp S w1 (GS S2 g) w'∧w'.heap[g]? =some (.cells (gcel A B u1 u2 false) 47 (0,0))∧RN (SO (GS S2 g) (GS O r)) w' A.tree u1∧RN (SO (GS S2 g) (GS O r)) w' B.tree u2
theorem RN.one{S:Nat→Prop}{w:World}{t:Nd}{u:Value}(h:RN S w t u):u.oneCell'=true:=by rcases h.shape with rfl|⟨i,y,rfl⟩<;>rfl
theorem ZaM(w:World)(z cs:Array Value)(T:TypeId):((w.alloc (.cells z T)).setRow w.heap.size cs).heap[w.heap.size]? =some (.cells cs T (0,0))∧Fr nob w ((w.alloc (.cells z T)).setRow w.heap.size cs)∧((w.alloc (.cells z T)).setRow w.heap.size cs).heap.size=w.heap.size+1:=
 ⟨setRow_heap _ _ _ _ _ _ (newAt _ _),((Fr.refl nob w).alloc _).trans (ZN _ _ _) (fun i hi e=>by have e:i=w.heap.size:=e;omega),by simp[World.setRow,newAt]⟩
theorem Zst{b:Nat}{l:List UInt8}{x:Bool}{s:AdS}{S O S2:Nat→Prop}{w w1 wZ:World}{g:Nat}{tA tB:Nd}{u1 u2:Value}{a0 a1 a2 a3 a4 a5 a6 a7 a8:Value}{T:TypeId}(f1:Fr nob w w1)(hS:∀k,S k→k<w.heap.size)(hlt:w.heap.size<w1.heap.size)
 (hz:w1.heap[w.heap.size]? =some (.cells #[a0,a1,a2,a3,a4,a5,a6,a7,a8] T (0,0))) (hX:ARd b l x s S2 wZ) (st:Stp S w1 (GS S2 g) wZ) (hr1:RN (SO (GS S2 g) (GS O w.heap.size)) wZ tA u1) (hr2:RN (SO (GS S2 g) (GS O w.heap.size)) wZ tB u2) (cs:Array Value):
 (wZ.setRow w.heap.size cs).heap[w.heap.size]? =some (.cells cs T (0,0))∧ARd b l x s (GS S2 g) (wZ.setRow w.heap.size cs)∧Stp S w (GS S2 g) (wZ.setRow w.heap.size cs)∧RN (SO (GS S2 g) O) (wZ.setRow w.heap.size cs) tA u1∧RN (SO (GS S2 g) O) (wZ.setRow w.heap.size cs) tB u2:=by
 have f:=ZN wZ w.heap.size cs;have hn:=ZE hlt hS st;have s1:Stp S w (GS S2 g) wZ:=(Stp.of f1).trans st;obtain⟨mv,h⟩:=hX;have k:=h.keep f (fun e=>hn (.inl (e▸h.me))) (fun k hk e=>hn (.inl (e▸(h.nm k hk).2)));have rn:∀{t:Nd} {u:Value},RN (SO (GS S2 g) (GS O w.heap.size)) wZ t u→RN (SO (GS S2 g) O) (wZ.setRow w.heap.size cs) t u:=fun h=>RN.keep f (fun _ _ e=>.inr (.inr e)) (fun _ _ hx=>hx.elim .inl (fun y=>.inr (.inl y))) _ _ h;exact⟨setRow_heap _ _ _ _ _ _ (Zbl rfl hS hz st),⟨mv,k.blk,k.ma,fun j hj=>⟨(k.nm j hj).1,.inl (k.nm j hj).2⟩,.inl k.me⟩,
  ⟨s1.fr.trans f (fun i hi e=>by have e:i=w.heap.size:=e;omega),s1.old,fun hl k hk=>by have:=s1.lt hl k hk;have:=f.size;omega⟩,rn hr1,rn hr2⟩
attribute [-go_sem] storeVar
theorem Zsw{w:World}{b j:Nat}{p:Bool}(hc:(w.cell? ⟨b,j,none⟩).isSome=true)(hf:w.frozen? ⟨b,j,none⟩=false):
 Sem.run prog (storeVar 4 ⟨b,j,none⟩ (.bool p)) w=.ok () (w.setCell ⟨b,j,none⟩ (.bool p)):=by
 obtain⟨old,ho⟩:=Option.isSome_iff_exists.1 hc;have a:(Value.bool p).cells= #[.bool p]:=rfl;have hi:(prog.info? 4).map (·.size)=some 1:=by kernel_rfl
 cases hq:prog.info? 4 with
 |none=>rw[hq]at hi;cases hi
 |some q=>
  have hs:q.size=1:=by simpa[hq]using hi
  simp[storeVar,sizeOf,typeInfo,hq,a,hs,go_sem,ho,hf]
theorem Zsx{w:World}{b j:Nat}{i:Int}(hc:(w.cell? ⟨b,j,none⟩).isSome=true)(hf:w.frozen? ⟨b,j,none⟩=false):
 Sem.run prog (storeVar 3 ⟨b,j,none⟩ (.int .i64 i)) w=.ok () (w.setCell ⟨b,j,none⟩ (.int .i64 i)):=by
 obtain⟨old,ho⟩:=Option.isSome_iff_exists.1 hc;have a:(Value.int IntKind.i64 i).cells= #[.int .i64 i]:=rfl;have hi:(prog.info? 3).map (·.size)=some 1:=by kernel_rfl
 cases hq:prog.info? 3 with
 |none=>rw[hq]at hi;cases hi
 |some q=>
  have hs:q.size=1:=by simpa[hq]using hi
  simp[storeVar,sizeOf,typeInfo,hq,a,hs,go_sem,ho,hf]
attribute [local go_sem] Zsw Zsx
theorem Zsu(b:Nat)(l:List UInt8)(x:Bool)(at0:Nat)(ms0:List (Nat×List UInt8))(S O:Nat→Prop)(w:World)(hl:l.length≤99000)(ha:at0≤l.length)(hm:ms0.length=0)(hS:∀k,S k→k<w.heap.size)(hO:∀k,O k→k<w.heap.size)(W0:World)(hE:Env W0)(hW:Fr nob W0 w)(hSW:∀k,S k→W0.heap.size≤k)(h:ARd b l x ⟨at0,ms0,0⟩ S w)(A:AV)(at1:Nat)(ms1:List (Nat×List UInt8))(hR:ZaC x l false ⟨at0,ms0,0⟩=.inr (A,⟨at1,ms1,0⟩))
 (B:AV) (at2:Nat) (ms2:List (Nat×List UInt8)) (hB:(A.kind=0∧B=AV.zero∧at2=at1∧ms2=ms1)∨(A.kind≠0∧Zbc x l ⟨at1,ms1,0⟩=.inr (B,⟨at2,ms2,0⟩))):
 Calls prog 41 #[.pointer (some ⟨b,0,none⟩)] w (ZaV b l x S O w (ZgT l A B ⟨at2,ms2,0⟩)):=by
 have hl:l.length≤100000:=Nat.le_trans hl (by decide);obtain⟨w1,r⟩:∃w1,w1=w.alloc (.cells zG 47):=⟨_,rfl⟩;have f1:Fr nob w w1:=by rw[r];exact(Fr.refl _ _).alloc _
 have hz:w1.heap[w.heap.size]? =some (.cells zG 47 (0,0)):=by rw[r];exact newAt _ _
 have h7:w1.heap.size=w.heap.size+1:=by rw[r];simp
 have h1:=h.on f1;have U:∀k,S k→k<w1.heap.size:=fun k hk=>by have:=hS k hk;omega
 have Q:∀k,GS O w.heap.size k→k<w1.heap.size:=fun k hk=>by
  rcases hk with hk|hk
  ·have:=hO k hk;omega
  ·have hk:k=w.heap.size:=hk;omega
 have X:=Zal b l x false ⟨at0,ms0,0⟩ S (GS O w.heap.size) w1 (by omega) ha (by show ms0.length≤_;omega) rfl U Q W0 hE (hW.trans' f1) hSW h1;rw[hR]at X;have a0:=Zam (s:=⟨at0,ms0,0⟩) ha rfl hR;have d2:at1≤l.length:=a0.le;have i5:ms1.length≤99001:=by have:=a0.mks;simp only at this;omega
 have h4:at2≤l.length:=by
  rcases hB with⟨_,_,rfl,_⟩|⟨_,e⟩
  ·exact d2
  ·exact(pairD_in e).le
 have b2:=hid X;have c7:=hid r;have HS:=hid hS;have F1:=hid f1;have HZ:=hid hz;have f5:=hid (lt_heap hz);have c6:=hid U;have HE:=hid hE;have M:=hid (hW.trans' f1);have L:=hid hSW;have c3:=hid Q;have HB:=hid hB;clear h h1 r hS f1 hz hO hE hW hSW h7 U Q X hR a0 hB;go_enter func41,ntmps41;go_wp2_with(rw[←c7.out]);refine b2.out.mono ?_;intro e w2 he;obtain⟨v,S1,rfl,⟨u1,rfl,a5⟩,h2,m⟩:=he;have q:=m.lt c6.out;have d0:=hid a5.one;obtain⟨i,f3,d8⟩:=ZaM w2 zG (gcel A AV.zero u1 .nilIface false) 47;obtain⟨w3,a6⟩:∃w3,w3=(w2.alloc (.cells zG 47)).setRow w2.heap.size (gcel A AV.zero u1 .nilIface false):=⟨_,rfl⟩;rw[←a6]at i f3 d8;have a8:¬S1 w2.heap.size:=fun h=>Nat.lt_irrefl _ (q _ h);have h3:=h2.on f3;have d7:w1.heap.size≤w2.heap.size:=m.fr.size;have e3:Stp S w1 (GS S1 w2.heap.size) w3:=(m.trans (Stp.of f3)).plus d7 (lt_heap i)
 have c:RN (SO (GS S1 w2.heap.size) (GS O w.heap.size)) w3 A.tree u1:=RN.keep f3 (fun _ _ x=>x.elim) (fun k hk hx=>by
  rcases hx with(hx|hx)|hx
  ·exact .inl hx
  ·have hx:k=w2.heap.size:=hx;omega
  ·exact .inr hx) _ _ a5
 have c8:=hid a6;obtain⟨e0,u⟩:=h3;have r3:=Zd u.blk _ (Fr.refl _ _);have g8:=cell_at (v:=.int .i64 A.kind) (j:=0) i rfl;have c4:=hid (fun(hk:Zbc x l ⟨at1,ms1,0⟩=.inr (B,⟨at2,ms2,0⟩))=>by
  have:=Zfo b l x ⟨at1,ms1,0⟩ S1 (GS O w.heap.size) w2.heap.size A.kind A.line A.text u1 w3 hl d2 (by show ms1.length≤_;omega) rfl (fun k hk=>by have:=q k hk;have:=f3.size;omega) (fun k hk=>by have:=c3.out k hk;have:=f3.size;omega) W0 HE.out ((m.trans (Stp.of f3)).from M.out L.out) (fun k hk=>by by_cases h:k<w1.heap.size;exact L.out k (m.old k h hk);have:=M.out.size;omega) ⟨e0,u⟩ a8 i;rw[hk]at this;exact this)
 have b9:=hid (show ARd b l x ⟨at1,ms1,0⟩ S1 w3 from⟨e0,u⟩);have c9:=hid a8;have N:=hid e3;have b3:=hid i;have R1:=hid c;clear a5 h2 m a6 f3 u i a8 e3 d7 q c d8;go_upto_if 17 with(first|rw[←c8.out]|refine wpList_store_row rfl 47 _ _ rfl w2.heap.size (gcel A AV.zero u1 .nilIface false) rfl rfl 47 zG (newAt _ _) (info_G9 _ _ _ _ _) rfl (gcel_one d0.out rfl) ?_)
 go_cut [] (fun w'=>ZsC b l x S O w2.heap.size w.heap.size A B u1 at2 ms2 w1 w')
 case first=>
  rcases HB.out with⟨hk,rfl,rfl,rfl⟩|⟨hk,hp⟩
  ·have h5:(A.kind==0)=true:=by simp[hk]
   clear hk;go_wp2;go_meet
   case rel=>exact⟨S1,.nilIface,b9.out,c9.out,N.out,b3.out,R1.out,by show RN _ _ .nil _;rw[RN]⟩
  ·have h5:(A.kind==0)=false:=by simpa using hk
   have f7:=hid (c4.out hp);clear hk hp;go_wp2_with fail;refine f7.out.mono ?_;rintro e wP ⟨rfl,S2,u2,hP,E,e4,o,d⟩;go_wp2;go_meet
   case rel=>exact⟨S2,u2,hP,E,N.out.trans e4,o,e4.rn R1.out,RN.keep (Fr.refl nob wP) (fun _ _ x=>x.elim) (fun k _ hx=>by
    rcases hx with(hx|hx)|hx
    ·exact .inl hx
    ·exact .inr (.inr hx)
    ·exact .inr (.inl hx)) _ _ d⟩
 case rest=>
  clear c4 b9 c9 N b3 R1 b2 r3 g8 HE M L c3 c6 c7 c8;obtain⟨S2,u2,hP,E,d9,o,c,d⟩:=hcut;have g4:=hid d.one;obtain⟨pQ,F⟩:∃pQ,bhd l [32,9] at2=pQ:=⟨_,rfl⟩;have i3:pQ≤l.length:=by rw[←F];exact bhd_le _ _ _
  obtain⟨c1,d3⟩:∃c1,byt l pQ=c1:=⟨_,rfl⟩;obtain⟨h9,R⟩:=hP;have rP:=Zd R.blk _ (Fr.refl _ _);have Y:=Zi b l x ⟨at2,ms2,0⟩ S2 wc hl h4 ⟨h9,R⟩;simp only[F]at Y;have e6:=hid Y;have e9:=hid o;have g:=hid E;have g0:=hid d9;have f8:=hid c;have f9:=hid d;have b7:=hid (lt_heap o);have J:=hid F;have n:=hid d3;clear R o E d9 c d Y F d3;go_wp2_with fail;refine e6.out.mono ?_;rintro e wQ ⟨rfl,hQ,a9⟩;have a3:=Zt b l x ⟨pQ,ms2,0⟩ S2 wQ (by omega) hQ;simp only[n.out]at a3;have HQ:=hid hQ;have g6:=hid (a9.gs b7.out);have f6:=hid a3;have f0:=hid (a9.fr.heap e9.out g.out);clear hQ a9 rP a3;go_upto_if 30 with(go_at_call 65;refine f6.out.mono ?_;rintro e wR ⟨rfl,fR⟩);have b4:=hid (fR.heap f0.out (fun x=>x));have c5:=hid (HQ.out.on fR);have P:=hid (g6.out.trans (Stp.of fR));clear fR
  go_cut [] (fun w'=>∃no sF,ARd b l x sF S2 w'∧w'.heap[w2.heap.size]? =some (.cells (gcel A B u1 u2 no) 47 (0,0))∧Stp (GS S2 w2.heap.size) wc (GS S2 w2.heap.size) w'∧(ZgT l A B ⟨at2,ms2,0⟩=.inr (⟨A,B,no⟩,sF)∨∃ms p z,sF=⟨p,ms,z⟩∧no=true∧ZgT l A B ⟨at2,ms2,0⟩=.inl (z,p)))
  case first=>
   by_cases f:c1=33
   ·have i6:pQ<l.length:=ZaO (by rw[n.out,f];decide);have i2:((c1.toNat:Int)==33)=true:=by rw[f];rfl
    have b1:=hid f;have i7:IntKind.i64.wrap ((pQ:Int)+1)=pQ+1:=IntWalk.i64_in _ (by omega);obtain⟨pV,a4⟩:∃pV,bhd l [32,9] (pQ+1)=pV:=⟨_,rfl⟩;have i4:pV≤l.length:=by rw[←a4];exact bhd_le _ _ _
    obtain⟨c2,d4⟩:∃c2,byt l pV=c2:=⟨_,rfl⟩;have K:=hid a4;have I:=hid d4;clear a4 d4;clear f;have D:=b4.out;have g9:(wR.cell? ⟨w2.heap.size,8,none⟩).isSome=true:=by rw[cell_at (v:=.bool false) (j:=8) D rfl];rfl
    have h0:=ZF D 8;obtain⟨wS,t⟩:∃wS,wS=wR.setCell ⟨w2.heap.size,8,none⟩ (.bool true):=⟨_,rfl⟩;have fS:Fr (fun k=>k=w2.heap.size) wR wS:=by rw[t];exact(Fr.refl (fun k=>k=w2.heap.size) wR).setCell (p:=⟨w2.heap.size,8,none⟩) (fun _=>rfl) _
    have h6:wS.heap.size=wR.heap.size:=by rw[t];simp[World.setCell]
    have d5:wS.heap[w2.heap.size]? =some (.cells (gcel A B u1 u2 true) 47 (0,0)):=by rw[t];simpa using Za D 8 (.bool true)
    obtain⟨i0,y⟩:=c5.out;have C:=y.keep fS (fun e=>g.out (e▸y.me)) (fun k hk e=>g.out (e▸(y.nm k hk).2));have rS:=Zd C.blk _ (Fr.refl _ _);have V:=C.turned 1 (.int .i64 ((pQ:Int)+1)) ⟨pQ+1,ms2,0⟩ (by simp) rfl;have G:=C.stp 1 (.int .i64 ((pQ:Int)+1));have p10:(wS.cell? ⟨b,1,none⟩).isSome=true:=by rw[rS.1.2.1];rfl
    obtain⟨wT,a7⟩:∃wT,wT=wS.setCell ⟨b,1,none⟩ (.int .i64 ((pQ:Int)+1)):=⟨_,rfl⟩;rw[←a7]at V G;have a1:=G.fr.heap d5 g.out;have e1:Stp (GS S2 w2.heap.size) wR (GS S2 w2.heap.size) wS:=⟨fS.mono (fun _ _ e=>.inr e),fun _ _ h=>h,fun hl k hk=>by have:=hl k hk;omega⟩;have e2:=P.out.trans (e1.trans (G.gs (by have:=b7.out;have:=P.out.fr.size;omega)));have Z:=Zi b l x ⟨pQ+1,ms2,0⟩ S2 wT hl (by show pQ+1≤_;omega) ⟨i0,V⟩;simp only[K.out]at Z;have g1:=hid t;have g2:=hid a7;have f2:=hid a1;have g5:=hid e2;have e7:=hid Z;have b8:=hid (lt_heap a1);clear y C V G t a7 D d5 a1 fS h6 e1 e2 Z;go_wp2_with(first|rw[←g1.out]|rw[←g2.out]);refine e7.out.mono ?_;rintro e wU ⟨rfl,hU,b0⟩;have a2:=Zt b l x ⟨pV,ms2,0⟩ S2 wU (by omega) hU;simp only[I.out]at a2;have HU:=hid hU;have d1:=hid (g5.out.trans (b0.gs b8.out));have c0:=hid a2
    have b5:=hid (b0.fr.heap f2.out g.out);clear hU b0 a2 rS g9 h0 p10;by_cases a:c2=33
    ·have h8:((c2.toNat:Int)==33)=true:=by rw[a];rfl
     have HN:=hid (show ZgT l A B ⟨at2,ms2,0⟩=.inl (15,pV) by unfold ZgT;simp only;rw[J.out,if_pos (by rw[n.out];exact b1.out),K.out,if_pos (by rw[I.out];exact a)]);clear a;go_wp2_with fail;refine c0.out.mono ?_;rintro e wV ⟨rfl,fV⟩;obtain⟨i1,W⟩:=HU.out.on fV;have rV:=Zd W.blk _ (Fr.refl _ _);have e8:=hid (ZaB b l x ⟨pV,ms2,0⟩ S2 15 pV wV ⟨i1,W⟩);have g7:=hid (d1.out.trans (Stp.of fV));have b6:=hid (fV.heap b5.out (fun x=>x));clear W fV;go_wp2_with fail;refine e8.out.mono ?_;rintro e wX ⟨rfl,hX,e5⟩;go_wp2;go_meet
     case rel=>exact⟨true,_,hX,e5.fr.heap b6.out g.out,g7.out.trans (e5.gs (lt_heap b6.out)),.inr ⟨_,_,_,rfl,rfl,HN.out⟩⟩
    ·have h8:((c2.toNat:Int)==33)=false:=Zn (b:=33) a;have HN:=hid (show ZgT l A B ⟨at2,ms2,0⟩=.inr (⟨A,B,true⟩,⟨pV,ms2,0⟩) by unfold ZgT;simp only;rw[J.out,if_pos (by rw[n.out];exact b1.out),K.out,if_neg (by rw[I.out];exact a)]);clear a;go_wp2_with fail;refine c0.out.mono ?_;rintro e wV ⟨rfl,fV⟩;go_wp2;go_meet
     case rel=>exact⟨true,_,HU.out.on fV,fV.heap b5.out (fun x=>x),d1.out.trans (Stp.of fV),.inl HN.out⟩
   ·have i2:((c1.toNat:Int)==33)=false:=Zn (b:=33) f;have HN:=hid (show ZgT l A B ⟨at2,ms2,0⟩=.inr (⟨A,B,false⟩,⟨pQ,ms2,0⟩) by unfold ZgT;simp only;rw[J.out,if_neg (by rw[n.out];exact f)]);clear f;go_wp2;go_meet
    case rel=>exact⟨false,_,c5.out,b4.out,P.out,.inl HN.out⟩
  case rest=>
   obtain⟨no,sF,hX,d6,H,hN⟩:=hcut;have HN:=hid hN;have st:=g0.out.trans H;have c:=H.rn f8.out;have d:=H.rn f9.out;clear H hN;obtain⟨q1,q2,q3,q4,q5⟩:=Zst F1.out HS.out f5.out HZ.out hX st c d (gcel A B u1 u2 no);have g3:=hid (Zbl rfl HS.out HZ.out st);have Q1:=hid q1;have Q2:=hid q2;have Q3:=hid q3;have Q4:=hid q4;have Q5:=hid q5;have f4:=hid d6;clear hX st d6 c d q1 q2 q3 q4 q5;go_wp2_with(first|refine wpList_load_row rfl 47 _ rfl w2.heap.size rfl 47 (gcel A B u1 u2 no) (0,0) _ f4.out underlying47 rfl (info_G9 _ _ _ _ _) ?_|refine wpList_store_row rfl 47 _ _ rfl w.heap.size (gcel A B u1 u2 no) rfl rfl 47 zG g3.out (info_G9 _ _ _ _ _) rfl (gcel_one d0.out g4.out) ?_);(try simp only[Exit.inBlock,Exit.then]);refine bodyPost_ret (results_cell_row rfl _ _ w.heap.size _ _ _ _ rfl Q1.out underlying47 rfl (info_G9 _ _ _ _ _)) rfl ?_;rcases HN.out with hN|⟨ms,p,z,rfl,rfl,hN⟩
   ·rw[hN];exact⟨_,_,rfl,⟨_,_,rfl,Q4.out,Q5.out⟩,Q2.out,Q3.out⟩
   ·rw[hN];exact⟨⟨A,B,true⟩,_,_,_,rfl,⟨_,_,rfl,Q4.out.weak,Q5.out.weak⟩,Q2.out,Q3.out⟩
end
section
open Go.RowKit
theorem Ziv(b:Nat)(l:List UInt8)(x:Bool)(at0:Nat)(S O:Nat→Prop)(w:World)(hl:l.length≤99000)(ha:at0≤l.length)(hS:∀k,S k→k<w.heap.size)(hO:∀k,O k→k<w.heap.size)(W0:World)(hE:Env W0)(hW:Fr nob W0 w)(hSW:∀k,S k→W0.heap.size≤k)(h:ARd b l x ⟨at0,[],0⟩ S w):
 Calls prog 41 #[.pointer (some ⟨b,0,none⟩)] w (ZaV b l x S O w (ZX x l ⟨at0,[],0⟩)):=by
 unfold ZX;cases hR:ZaC x l false ⟨at0,[],0⟩with
 |inl q=>exact Zjo b l x at0 [] S O w hl ha rfl hS hO W0 hE hW hSW h q.1 q.2 hR
 |inr q=>
  obtain⟨A,a,c,e1⟩:=q;obtain rfl:e1=0:=(Zam (s:=⟨at0,[],0⟩) ha rfl hR).ok;simp only;by_cases hk:A.kind=0
  ·rw[if_pos hk];exact Zsu b l x at0 [] S O w hl ha rfl hS hO W0 hE hW hSW h A a c hR AV.zero a c (.inl ⟨hk,rfl,rfl,rfl⟩)
  ·rw[if_neg hk];cases d:Zbc x l ⟨a,c,0⟩with
   |inl q=>exact Zhx b l x at0 [] S O w hl ha rfl hS hO W0 hE hW hSW h A a c hR hk q.1 q.2 d
   |inr q=>
    obtain⟨B,e,f,e2⟩:=q;obtain rfl:e2=0:=(pairD_in d).ok;exact Zsu b l x at0 [] S O w hl ha rfl hS hO W0 hE hW hSW h A a c hR B e f (.inr ⟨hk,d⟩)
theorem notD_err{l:List UInt8}{a b:AV}{s:AdS}{z:Int×Nat}(h:ZgT l a b s=.inl z):z.1≠0:=by
 unfold ZgT at h;split at h
 ·split at h
  ·injection h with h;subst h;intro e;cases e
  ·cases h
 ·cases h
theorem notD_ok{l:List UInt8}{a b:AV}{s s':AdS}{g:GV}(h:ZgT l a b s=.inr (g,s')):s'.e=0:=by
 unfold ZgT at h;split at h
 ·split at h
  ·cases h
  ·injection h with h;injection h with h1 h2;subst h2;rfl
 ·injection h with h;injection h with h1 h2;subst h2;rfl
theorem guardD_err{x:Bool}{l:List UInt8}{s:AdS}{z:Int×Nat}(h:ZX x l s=.inl z):z.1≠0:=by
 unfold ZX at h;split at h
 ·next y hp=>injection h with h;subst h;exact addrD_err hp
 ·next a s1 hp=>
  split at h
  ·next y hq=>
   injection h with h;subst h;split at hq
   ·cases hq
   ·exact pairD_err hq
  ·exact notD_err h
theorem guardD_ok{x:Bool}{l:List UInt8}{s s':AdS}{g:GV}(h:ZX x l s=.inr (g,s')):s'.e=0:=by
 unfold ZX at h;split at h
 ·cases h
 ·split at h
  ·cases h
  ·exact notD_ok h
def ZB2(R:ZpG)(w:World)(e:Ending)(w':World):Prop:=Fr nob w w'∧match R with
 | .inl (z,p)=>e=.returned (.tuple #[.agg zG,.slice none 0 0,.int .i64 (p:Nat),.int .i64 z])
 | .inr (g,s)=>∃v mv,e=.returned (.tuple #[v,mv,.int .i64 (s.at_:Nat),.int .i64 0])∧Zni nob w' g v∧OwM w' s.marks mv
theorem ZbB{fn:Func}{p t u v:Tmp}(h:fn.results= #[.cell p 47,.tmp t,.tmp u,.tmp v]){tmps:Array Value}{r:Nat}(ht:tmps.getD p undef=.pointer (some ⟨r,0,none⟩)){W:World}{a0 a1 a2 a3 a4 a5 a6 a7 a8:Value}
 (hb:W.heap[r]? =some (.cells #[a0,a1,a2,a3,a4,a5,a6,a7,a8] 47 (0,0))):
 (results fn tmps).run prog W=.ok (.tuple #[.agg #[a0,a1,a2,a3,a4,a5,a6,a7,a8],tmps.getD t undef,tmps.getD u undef,tmps.getD v undef]) W:=by
 have c0:=cell_at (j:=0) hb rfl;have c1:=cell_at (j:=1) hb rfl;have c2:=cell_at (j:=2) hb rfl;have c3:=cell_at (j:=3) hb rfl;have c4:=cell_at (j:=4) hb rfl;have c5:=cell_at (j:=5) hb rfl;have c6:=cell_at (j:=6) hb rfl;have c7:=cell_at (j:=7) hb rfl;have c8:=cell_at (j:=8) hb rfl;have a:tmps[p]?.getD undef=.pointer (some ⟨r,0,none⟩):=by rw[←ht];simp
 simp only[results,h];simp[a,go_sem,c0,c1,c2,c3,c4,c5,c6,c7,c8]
open Go.Lib (hid)
theorem Zq{w:World}{k:Nat}{o:Obj}(h:w.heap[k]? =some o):w.drew.heap[k]? =some o:=h
abbrev B5(w:World)(b:Nat)(v0 v1 v2 v3 v4:Value):Prop:=w.cell? ⟨b,0,none⟩=some v0∧w.cell? ⟨b,1,none⟩=some v1∧w.cell? ⟨b,2,none⟩=some v2∧w.cell? ⟨b,3,none⟩=some v3∧w.cell? ⟨b,4,none⟩=some v4
section
variable {w:World} {b k j:Nat} {v0 v1 v2 v3 v4:Value}
theorem B5.of{T:TypeId}{fr:Nat×Nat}(h:w.heap[b]? =some (.cells #[v0,v1,v2,v3,v4] T fr)):B5 w b v0 v1 v2 v3 v4:=⟨cell_at h rfl,cell_at h rfl,cell_at h rfl,cell_at h rfl,cell_at h rfl⟩
theorem B5.drew(h:B5 w b v0 v1 v2 v3 v4):B5 w.drew b v0 v1 v2 v3 v4:=h
theorem B5.set(h:B5 w b v0 v1 v2 v3 v4)(hb:k≠b)(u:Value):B5 (w.setCell ⟨k,j,none⟩ u) b v0 v1 v2 v3 v4:=⟨Zm h.1 hb,Zm h.2.1 hb,Zm h.2.2.1 hb,Zm h.2.2.2.1 hb,Zm h.2.2.2.2 hb⟩
end
theorem Zlk(l:List UInt8)(p:Nat)(x:Bool)(w:World)(hl:l.length≤99000)(hp:p≤l.length)(hE:Env w)(z:Int)(q:Nat)(hR:ZX x l ⟨p,[],0⟩=.inl (z,q)):
 Calls prog 18 #[.string ⟨l.toArray⟩,.int .i64 (p:Nat),.bool x] w fun e w'=>e=.returned (.tuple #[.agg zG,.slice none 0 0,.int .i64 (q:Nat),.int .i64 z])∧Fr nob w w':=by
 have u:¬z=0:=guardD_err hR;have U:(z==0)=false:=by simpa using u
 have V:(z !=0)=true:=by simpa using u
 obtain⟨w1,c⟩:∃w1,w1=w.alloc (.cells zG 47):=⟨_,rfl⟩;have f1:Fr nob w w1:=by rw[c];exact(Fr.refl _ _).alloc _
 have hz:w1.heap[w.heap.size]? =some (.cells zG 47 (0,0)):=by rw[c];exact newAt _ _
 have g:w1.heap.size=w.heap.size+1:=by rw[c];simp
 obtain⟨w2,d⟩:∃w2,w2=w1.alloc (.cells #[.string ⟨l.toArray⟩,.int .i64 (p:Nat),.bool x,.slice none 0 0,.int .i64 0] 104):=⟨_,rfl⟩;have f2:Fr nob w1 w2:=by rw[d];exact(Fr.refl _ _).alloc _
 have hb:w2.heap[w.heap.size+1]? =some (.cells #[.string ⟨l.toArray⟩,.int .i64 (p:Nat),.bool x,.slice none 0 0,.int .i64 0] 104 (0,0)):=by
  rw[d,←g];exact newAt _ _
 have s:w2.heap.size=w.heap.size+2:=by rw[d];simp[g]
 have hA:ARd (w.heap.size+1) l x ⟨p,[],0⟩ (fun k=>k=w.heap.size+1) w2:=⟨.slice none 0 0,⟨hb,World.ownsRow_nil _ _ _ _,fun _ h=>(by cases h),rfl⟩⟩;have hG:=Ziv (w.heap.size+1) l x p (fun k=>k=w.heap.size+1) (fun k=>k=w.heap.size) w2 hl hp (fun k hk=>by omega) (fun k hk=>by omega) w hE (f1.trans' f2) (fun k hk=>by omega) hA;rw[hR]at hG;have t:=f2.heap hz (fun x=>x);have q1:¬(l.length:Int)<(p:Int):=by omega
 have HG:=hid hG;have I:=hid c;have J:=hid d;have D:=hid (f1.trans' f2);have HZ:=hid t;have R:=hid s;have H:=hid g;clear hG c d f1 f2 hz t hb hA g s hE hR;go_enter func18,ntmps18;go_wp2_with(first|rw[←I.out]|rw[H.out]|rw[←J.out]);refine HG.out.mono ?_;intro e w3 he;obtain⟨gv,v,S',ms,rfl,⟨u1,u2,rfl,B,C⟩,N,o⟩:=he;obtain⟨O,h3⟩:=N;have y:=o.fr.heap HZ.out (fun h=>by omega);have S:w.heap.size≠w.heap.size+1:=by omega
 have FF:=hid (D.out.trans o.fr (fun i hi h=>by omega));obtain⟨w4,m⟩:∃w4,w4=w3.alloc (.cells #[.int .i64 gv.a.kind,.int .i64 gv.a.line,.string ⟨gv.a.text.toArray⟩,u1,.int .i64 gv.b.kind,.int .i64 gv.b.line,.string ⟨gv.b.text.toArray⟩,u2,.bool gv.no] 47):=⟨_,rfl⟩;have f4:Fr nob w3 w4:=by rw[m];exact(Fr.refl _ _).alloc _
 have f:=f4.heap h3.blk (fun x=>x);have n:=f4.heap y (fun x=>x);have r4:=Zd f _ (Fr.refl _ _);have HQ:=hid (B5.of f);have G:=hid (B5.drew (B5.of f));have rz:=Zk n;have K:=hid m;have L:=hid n;have E:=hid (FF.out.trans' f4);have P:=B.shape;have Q:=C.shape;clear B C m f4 f n h3 y o;rcases P with rfl|⟨i1,y1,rfl⟩
 all_goals rcases Q with rfl|⟨i2,y2,rfl⟩
 all_goals
  go_wp2_with(rw[←K.out])
  go_region_held3 (fun w'=>B5 w' (w.heap.size+1) (.string ⟨l.toArray⟩) (.int .i64 (q:Nat)) (.bool x) O (.int .i64 z)) (repeat(first|(with_reducible exact HQ.out)|(with_reducible exact G.out)|(with_reducible refine B5.set ?_ (by omega) _)|(with_reducible refine B5.drew ?_))) (fail)
 all_goals
  obtain⟨w5,j⟩:∃w5,w5=(((((((((w4.setCell ⟨w.heap.size,0,none⟩ (.int .i64 0)).setCell ⟨w.heap.size,1,none⟩ (.int .i64 0)).setCell ⟨w.heap.size,2,none⟩ (.string ⟨#[]⟩)).setCell ⟨w.heap.size,3,none⟩ .nilIface).setCell ⟨w.heap.size,4,none⟩ (.int .i64 0)).setCell ⟨w.heap.size,5,none⟩ (.int .i64 0)).setCell ⟨w.heap.size,6,none⟩ (.string ⟨#[]⟩)).setCell ⟨w.heap.size,7,none⟩ .nilIface).setCell ⟨w.heap.size,8,none⟩ (.bool false)).drew:=⟨_,rfl⟩;rw[←j];have A:w5.heap[w.heap.size]? =some (.cells zG 47 (0,0)):=by rw[j];exact Zq (Zf L.out (.int .i64 0) (.int .i64 0) (.string ⟨#[]⟩) .nilIface (.int .i64 0) (.int .i64 0) (.string ⟨#[]⟩) .nilIface (.bool false))
  have r:Fr nob w w5:=by rw[j];exact(Zjh E.out (Nat.le_refl _) (.int .i64 0) (.int .i64 0) (.string ⟨#[]⟩) .nilIface (.int .i64 0) (.int .i64 0) (.string ⟨#[]⟩) .nilIface (.bool false)).drew
  have M:=hid A;have F:=hid r;clear j A r rz r4;go_wp2;(try simp only[Exit.inBlock,Exit.then]);exact bodyPost_ret (ZbB rfl rfl M.out) rfl ⟨rfl,F.out⟩
theorem BC.drew{w:World}{b c:Nat}{v0 v1 v2 v3 v4 u0 u1 u2 u3 u4 u5 u6 u7 u8:Value}(h:B5 w b v0 v1 v2 v3 v4∧C9 w c u0 u1 u2 u3 u4 u5 u6 u7 u8):B5 w.drew b v0 v1 v2 v3 v4∧C9 w.drew c u0 u1 u2 u3 u4 u5 u6 u7 u8:=h
theorem BC.set{w:World}{b c k j:Nat}{v0 v1 v2 v3 v4 u0 u1 u2 u3 u4 u5 u6 u7 u8:Value}(h:B5 w b v0 v1 v2 v3 v4∧C9 w c u0 u1 u2 u3 u4 u5 u6 u7 u8)(hb:k≠b)(hc:k≠c)(u:Value):B5 (w.setCell ⟨k,j,none⟩ u) b v0 v1 v2 v3 v4∧C9 (w.setCell ⟨k,j,none⟩ u) c u0 u1 u2 u3 u4 u5 u6 u7 u8:=by
 obtain⟨h1,c0,c1,c2,c3,c4,c5,c6,c7,c8⟩:=h;exact⟨h1.set hb u,Zm c0 hc,Zm c1 hc,Zm c2 hc,Zm c3 hc,Zm c4 hc,Zm c5 hc,Zm c6 hc,Zm c7 hc,Zm c8 hc⟩
abbrev PgK(w':World)(b c:Nat)(l:List UInt8)(q:Nat)(x:Bool)(am:Option Addr)(ms:List (Nat×List UInt8))(cm:Nat)(gv:GV)(U1 U2:Value):Prop:=
 B5 w' b (.string ⟨l.toArray⟩) (.int .i64 (q:Nat)) (.bool x) (.slice am ms.length cm) (.int .i64 0)∧C9 w' c (.int .i64 gv.a.kind) (.int .i64 gv.a.line) (.string ⟨gv.a.text.toArray⟩) U1 (.int .i64 gv.b.kind) (.int .i64 gv.b.line) (.string ⟨gv.b.text.toArray⟩) U2 (.bool gv.no)
abbrev PgW(w4:World)(b:Nat)(gv:GV)(U1 U2:Value):World:=(ZcB w4 b (.int .i64 gv.a.kind) (.int .i64 gv.a.line) (.string ⟨gv.a.text.toArray⟩) U1 (.int .i64 gv.b.kind) (.int .i64 gv.b.line) (.string ⟨gv.b.text.toArray⟩) U2 (.bool gv.no)).drew
abbrev PgC(gv:GV)(U1 U2:Value):Array Value:= #[.int .i64 gv.a.kind,.int .i64 gv.a.line,.string ⟨gv.a.text.toArray⟩,U1,.int .i64 gv.b.kind,.int .i64 gv.b.line,.string ⟨gv.b.text.toArray⟩,U2,.bool gv.no]
theorem ZxO{w w4:World}{gv:GV}{ms:List (Nat×List UInt8)}{am:Option Addr}{cm:Nat}{S' O0:Nat→Prop}{U1 U2:Value}(hz4:w4.heap[w.heap.size]? =some (.cells zG 47 (0,0)))(ff4:Fr nob w w4)
 (rn1:RN (SO S' fun k=>k=w.heap.size∨O0 k) w4 gv.a.tree U1) (rn2:RN (SO S' fun k=>k=w.heap.size∨O0 k) w4 gv.b.tree U2) (ma:OwM w4 ms (.slice am ms.length cm)) (nr:∀k,(Value.slice am ms.length cm).ownBlock=some k→¬k=w.heap.size)
 (ht1:∀k,(Value.slice am ms.length cm).ownBlock=some k→S' k) (ht4:∀k,S' k→w.heap.size≤k∧k<w4.heap.size):
 (PgW w4 w.heap.size gv U1 U2).heap[w.heap.size]? =some (.cells (PgC gv U1 U2) 47 (0,0))∧
 Zni nob (PgW w4 w.heap.size gv U1 U2) gv (.agg (PgC gv U1 U2))∧OwM (PgW w4 w.heap.size gv U1 U2) ms (.slice am ms.length cm)∧Fr nob w (PgW w4 w.heap.size gv U1 U2)∧
 ∃T:Nat→Prop,(∀k,(Value.slice am ms.length cm).ownBlock=some k→T k)∧(∀k,T k→w.heap.size≤k∧k<(PgW w4 w.heap.size gv U1 U2).heap.size)∧Zni (SO T O0) (PgW w4 w.heap.size gv U1 U2) gv (.agg (PgC gv U1 U2)):=by
 have c:Fr (fun k=>k=w.heap.size) w4 (PgW w4 w.heap.size gv U1 U2):=(Zas (.int .i64 gv.a.kind) (.int .i64 gv.a.line) (.string ⟨gv.a.text.toArray⟩) U1 (.int .i64 gv.b.kind) (.int .i64 gv.b.line) (.string ⟨gv.b.text.toArray⟩) U2 (.bool gv.no)).drew;refine⟨Zq (Zf hz4 (.int .i64 gv.a.kind) (.int .i64 gv.a.line) (.string ⟨gv.a.text.toArray⟩) U1 (.int .i64 gv.b.kind) (.int .i64 gv.b.line) (.string ⟨gv.b.text.toArray⟩) U2 (.bool gv.no)),⟨_,_,rfl,?_,?_⟩,ownsRow_fr ma c (fun k hk h=>nr k hk h),ff4.trans c (fun i hi h=>by have h:i=w.heap.size:=h;omega),S',ht1,fun k hk=>⟨(ht4 k hk).1,by have:=c.size;have:=(ht4 k hk).2;omega⟩,⟨_,_,rfl,?_,?_⟩⟩
 ·exact RN.keep c (fun k _ h=>.inr (.inl h)) (fun _ _ x=>x.elim) _ _ rn1
 ·exact RN.keep c (fun k _ h=>.inr (.inl h)) (fun _ _ x=>x.elim) _ _ rn2
 ·exact RN.keep c (fun k _ h=>.inr (.inl h)) (fun _ _ x=>x.elim .inl (fun e=>.inr (.inr e))) _ _ rn1
 ·exact RN.keep c (fun k _ h=>.inr (.inl h)) (fun _ _ x=>x.elim .inl (fun e=>.inr (.inr e))) _ _ rn2
theorem ZgQ(l:List UInt8)(p:Nat)(x:Bool)(w:World)(hl:l.length≤99000)(hp:p≤l.length)(hE:Env w)(gv:GV)(q:Nat)(ms:List (Nat×List UInt8))(hR:ZX x l ⟨p,[],0⟩=.inr (gv,⟨q,ms,0⟩))(O0:Nat→Prop)(hO0:∀k,O0 k→k<w.heap.size):
 Calls prog 18 #[.string ⟨l.toArray⟩,.int .i64 (p:Nat),.bool x] w fun e w'=>∃v mv,e=.returned (.tuple #[v,mv,.int .i64 (q:Nat),.int .i64 0])∧Zni nob w' gv v∧OwM w' ms mv∧Fr nob w w'∧∃T:Nat→Prop,(∀k,mv.ownBlock=some k→T k)∧(∀k,T k→w.heap.size≤k∧k<w'.heap.size)∧Zni (SO T O0) w' gv v:=by
 obtain⟨w1,d⟩:∃w1,w1=w.alloc (.cells zG 47):=⟨_,rfl⟩;have f1:Fr nob w w1:=by rw[d];exact(Fr.refl _ _).alloc _
 have hz:w1.heap[w.heap.size]? =some (.cells zG 47 (0,0)):=by rw[d];exact newAt _ _
 have z:w1.heap.size=w.heap.size+1:=by rw[d];simp
 obtain⟨w2,f⟩:∃w2,w2=w1.alloc (.cells #[.string ⟨l.toArray⟩,.int .i64 (p:Nat),.bool x,.slice none 0 0,.int .i64 0] 104):=⟨_,rfl⟩;have f2:Fr nob w1 w2:=by rw[f];exact(Fr.refl _ _).alloc _
 have hb:w2.heap[w.heap.size+1]? =some (.cells #[.string ⟨l.toArray⟩,.int .i64 (p:Nat),.bool x,.slice none 0 0,.int .i64 0] 104 (0,0)):=by
  rw[f,←z];exact newAt _ _
 have K:w2.heap.size=w.heap.size+2:=by rw[f];simp[z]
 have hA:ARd (w.heap.size+1) l x ⟨p,[],0⟩ (fun k=>k=w.heap.size+1) w2:=⟨.slice none 0 0,⟨hb,World.ownsRow_nil _ _ _ _,fun _ h=>(by cases h),rfl⟩⟩;have hG:=Ziv (w.heap.size+1) l x p (fun k=>k=w.heap.size+1) (fun k=>k=w.heap.size∨O0 k) w2 hl hp (fun k hk=>by omega) (fun k hk=>by rcases hk with hk|hk;(·omega);(·have:=hO0 k hk;omega)) w hE (f1.trans' f2) (fun k hk=>by omega) hA;rw[hR]at hG;have L:=f2.heap hz (fun x=>x);have q1:¬(l.length:Int)<(p:Int):=by omega
 have HG:=hid hG;have Q:=hid d;have R:=hid f;have O:=hid (f1.trans' f2);have HZ:=hid L;have m:=hid K;have P:=hid z;clear hG d f f1 f2 hz L hb hA z K hE hR;go_enter func18,ntmps18;go_wp2_with(first|rw[←Q.out]|rw[P.out]|rw[←R.out]);refine HG.out.mono ?_;intro e w3 he;obtain⟨v,S',rfl,⟨u1,u2,rfl,E,F⟩,S,c⟩:=he;obtain⟨N,h3⟩:=S;have M:=c.fr.heap HZ.out (fun h=>by omega);have Z:w.heap.size≠w.heap.size+1:=by omega
 have Y:w.heap.size≠w3.heap.size:=by have:=c.fr.size;have:=m.out;omega
 have FF:=hid (O.out.trans c.fr (fun i hi h=>by omega));have J:∀k,N.ownBlock=some k→¬k=w.heap.size:=fun k hk e=>by
  have h1:=(h3.nm k hk).2;have h2:=c.old k (by have:=m.out;omega) h1;have h2:k=w.heap.size+1:=h2;omega
 have H:∀k,N.ownBlock=some k→S' k:=fun k hk=>(h3.nm k hk).2;have I:∀k,S' k→w.heap.size≤k∧k<w3.heap.size:=fun k hk=>⟨by
  by_cases ho:k<w2.heap.size
  ·have h2:k=w.heap.size+1:=c.old k ho hk;omega
  ·have:=m.out;omega,c.lt (fun i (hi:i=w.heap.size+1)=>by have:=m.out;omega) k hk⟩
 have n:=hid H;have G:=hid I;clear H I;obtain⟨w4,A⟩:∃w4,w4=w3.alloc (.cells #[.int .i64 gv.a.kind,.int .i64 gv.a.line,.string ⟨gv.a.text.toArray⟩,u1,.int .i64 gv.b.kind,.int .i64 gv.b.line,.string ⟨gv.b.text.toArray⟩,u2,.bool gv.no] 47):=⟨_,rfl⟩;have f4:Fr nob w3 w4:=by rw[A];exact(Fr.refl _ _).alloc _
 have B:w4.heap[w3.heap.size]? =some (.cells #[.int .i64 gv.a.kind,.int .i64 gv.a.line,.string ⟨gv.a.text.toArray⟩,u1,.int .i64 gv.b.kind,.int .i64 gv.b.line,.string ⟨gv.b.text.toArray⟩,u2,.bool gv.no] 47 (0,0)):=by rw[A];exact newAt _ _
 have y:=f4.heap h3.blk (fun x=>x);have C:=h3.ma;obtain⟨am,cm,U⟩:=Zb C;subst U;have D:=f4.heap M (fun x=>x);have r4:=Zd y _ (Fr.refl _ _);have HQ:=hid (And.intro (B5.of y) (C9.of B));have j:=hid (BC.drew (And.intro (B5.of y) (C9.of B)));have rz:=Zk D;have o:=hid (show∀k,S' k→w.heap.size≤k∧k<w4.heap.size from fun k hk=>⟨(G.out k hk).1,by have:=f4.size;have:=(G.out k hk).2;omega⟩);have r:=hid A;have s:=hid D;have g:=hid (FF.out.trans' f4);have t:=hid (E.on f4);have u:=hid (F.on f4);have MA:=hid (ownsRow_fr C f4 (fun _ _ x=>x));have NR:=hid J;have V:=E.shape;have W:=F.shape;clear E F A f4 y D h3 M c B C J;rcases V with rfl|⟨i1,y1,rfl⟩
 all_goals rcases W with rfl|⟨i2,y2,rfl⟩
 ·go_wp2_with(rw[←r.out])
  go_region_held3 (fun w'=>PgK w' (w.heap.size+1) w3.heap.size l q x am ms cm gv .nilIface .nilIface) (repeat(first|(with_reducible exact HQ.out)|(with_reducible exact j.out)|(with_reducible refine BC.set ?_ (by omega) (by omega) _)|(with_reducible refine BC.drew ?_))) (fail)
  all_goals
   go_wp2;(try simp only[Exit.inBlock,Exit.then]);have X:=ZxO s.out g.out t.out u.out MA.out NR.out n.out o.out;exact bodyPost_ret (ZbB rfl rfl X.1) rfl ⟨_,_,rfl,X.2⟩
 ·go_wp2_with(rw[←r.out])
  go_region_held3 (fun w'=>PgK w' (w.heap.size+1) w3.heap.size l q x am ms cm gv .nilIface (.iface i2 y2)) (repeat(first|(with_reducible exact HQ.out)|(with_reducible exact j.out)|(with_reducible refine BC.set ?_ (by omega) (by omega) _)|(with_reducible refine BC.drew ?_))) (fail)
  all_goals
   go_wp2;(try simp only[Exit.inBlock,Exit.then]);have X:=ZxO s.out g.out t.out u.out MA.out NR.out n.out o.out;exact bodyPost_ret (ZbB rfl rfl X.1) rfl ⟨_,_,rfl,X.2⟩
 ·go_wp2_with(rw[←r.out])
  go_region_held3 (fun w'=>PgK w' (w.heap.size+1) w3.heap.size l q x am ms cm gv (.iface i1 y1) .nilIface) (repeat(first|(with_reducible exact HQ.out)|(with_reducible exact j.out)|(with_reducible refine BC.set ?_ (by omega) (by omega) _)|(with_reducible refine BC.drew ?_))) (fail)
  all_goals
   go_wp2;(try simp only[Exit.inBlock,Exit.then]);have X:=ZxO s.out g.out t.out u.out MA.out NR.out n.out o.out;exact bodyPost_ret (ZbB rfl rfl X.1) rfl ⟨_,_,rfl,X.2⟩
 ·go_wp2_with(rw[←r.out])
  go_region_held3 (fun w'=>PgK w' (w.heap.size+1) w3.heap.size l q x am ms cm gv (.iface i1 y1) (.iface i2 y2)) (repeat(first|(with_reducible exact HQ.out)|(with_reducible exact j.out)|(with_reducible refine BC.set ?_ (by omega) (by omega) _)|(with_reducible refine BC.drew ?_))) (fail)
  all_goals
   go_wp2;(try simp only[Exit.inBlock,Exit.then]);have X:=ZxO s.out g.out t.out u.out MA.out NR.out n.out o.out;exact bodyPost_ret (ZbB rfl rfl X.1) rfl ⟨_,_,rfl,X.2⟩
theorem Z4(l:List UInt8)(p:Nat)(x:Bool)(w:World)(hl:l.length≤99000)(hp:p≤l.length)(hE:Env w):
 Calls prog 18 #[.string ⟨l.toArray⟩,.int .i64 (p:Nat),.bool x] w (ZB2 (ZX x l ⟨p,[],0⟩) w):=by
 cases hR:ZX x l ⟨p,[],0⟩with
 |inl z=>
  obtain⟨z,q⟩:=z;exact(Zlk l p x w hl hp hE z q hR).mono fun e w' h=>⟨h.2,h.1⟩
 |inr z=>
  obtain⟨gv,q,ms,e⟩:=z;obtain rfl:e=0:=guardD_ok hR;exact(ZgQ l p x w hl hp hE gv q ms hR nob (fun _ h=>h.elim)).mono fun e w' ⟨v,mv,h1,h2,h3,h4,_⟩=>⟨h4,v,mv,h1,h2,h3⟩
def AV.same(a b:AV):Prop:=a.kind=b.kind∧((a.kind=1∨a.kind=4)→a.line=b.line)∧(a.kind=3→a.tree.norm=b.tree.norm)
theorem ZiJ(a b:AV)(va vb:Value)(w:World)(sa:a.tree.size≤3000000)(sb:b.tree.size≤3000000)(ha:ZkS nob w a va)(hb:ZkS nob w b vb):
 Calls prog 28 #[va,vb] w fun e w'=>∃r:Bool,e=.returned (.bool r)∧(r=true↔AV.same a b)∧Fr nob w w':=by
 obtain⟨k1,n1,t1,d1⟩:=a;obtain⟨k2,n2,t2,d2⟩:=b;obtain⟨u1,rfl,r1⟩:=ha;obtain⟨u2,rfl,r2⟩:=hb;simp only at sa sb r1 r2⊢;have o1:=r1.shape;have o2:=r2.shape;have HS:=hid (fun(w':World) (f:Fr nob w w')=>Zig 3000000 d1 d2 u1 u2 w' sa sa sb (r1.on f) (r2.on f));clear r1 r2;unfold AV.same;simp only;rcases o1 with rfl|⟨i1,y1,rfl⟩<;>rcases o2 with rfl|⟨i2,y2,rfl⟩
 all_goals
  by_cases hk:k1=k2
  ·subst hk;by_cases h1:k1=1
   ·subst h1;go_enter func28,ntmps28;go_wp2;go_ret;exact⟨_,rfl,by simp,((Fr.refl nob w).alloc _).alloc _⟩
   ·by_cases h4:k1=4
    ·subst h4;go_enter func28,ntmps28;go_wp2;go_ret;exact⟨_,rfl,by simp,((Fr.refl nob w).alloc _).alloc _⟩
    ·by_cases h3:k1=3
     ·subst h3;go_enter func28,ntmps28;go_wp2_with fail;refine(HS.out _ (((Fr.refl nob w).alloc _).alloc _)).mono ?_;rintro e w3 ⟨r,rfl,hr,f3⟩;have F3:=hid ((((Fr.refl nob w).alloc _).alloc _).trans' f3);clear f3;go_wp2;go_ret;exact⟨_,rfl,by rw[hr];simp,F3.out⟩
     ·have e1:(k1==1)=false:=by simpa using h1
      have e4:(k1==4)=false:=by simpa using h4
      have e3:(k1==3)=false:=by simpa using h3
      have H:=hid (And.intro h1 (And.intro h4 h3));clear h1 h4 h3;go_enter func28,ntmps28;go_wp2;go_ret;exact⟨_,rfl,by have:=H.out;simp[this.1,this.2.1,this.2.2],((Fr.refl nob w).alloc _).alloc _⟩
  ·have e1:(k1==k2)=false:=by simpa using hk
   have H:=hid hk;clear hk;go_enter func28,ntmps28;go_wp2;go_ret;exact⟨_,rfl,by simp[H.out],((Fr.refl nob w).alloc _).alloc _⟩
def GV.same(a b:GV):Prop:=AV.same a.a b.a∧AV.same a.b b.b∧a.no=b.no
theorem ZjC(g h:GV)(vg vh:Value)(w:World)(s1:g.a.tree.size≤3000000)(s2:g.b.tree.size≤3000000)(s3:h.a.tree.size≤3000000)(s4:h.b.tree.size≤3000000)(hg:Zni nob w g vg)(hh:Zni nob w h vh):
 Calls prog 26 #[vg,vh] w fun e w'=>∃r:Bool,e=.returned (.bool r)∧(r=true↔GV.same g h)∧Fr nob w w':=by
 obtain⟨A,B,n⟩:=g;obtain⟨C,D,m⟩:=h;obtain⟨u1,u2,rfl,r1,r2⟩:=hg;obtain⟨u3,u4,rfl,r3,r4⟩:=hh;simp only at s1 s2 s3 s4 r1 r2 r3 r4⊢;have o1:=r1.shape;have o2:=r2.shape;have o3:=r3.shape;have o4:=r4.shape;have HA:=hid (fun(w':World) (f:Fr nob w w')=>ZiJ A C _ _ w' s1 s3 ⟨u1,rfl,r1.on f⟩ ⟨u3,rfl,r3.on f⟩);have HB:=hid (fun(w':World) (f:Fr nob w w')=>ZiJ B D _ _ w' s2 s4 ⟨u2,rfl,r2.on f⟩ ⟨u4,rfl,r4.on f⟩);clear r1 r2 r3 r4 s1 s2 s3 s4;unfold GV.same;simp only;rcases o1 with rfl|⟨i1,y1,rfl⟩<;>rcases o2 with rfl|⟨i2,y2,rfl⟩<;>rcases o3 with rfl|⟨i3,y3,rfl⟩<;>rcases o4 with rfl|⟨i4,y4,rfl⟩
 all_goals
  go_enter func26,ntmps26;go_wp2_with fail;refine(HA.out _ (((Fr.refl nob w).alloc _).alloc _)).mono ?_;rintro e w3 ⟨r,rfl,hr,f3⟩;have g1:=f3.heap (((Fr.refl nob _).alloc _).heap (newAt0 w _) (fun x=>x)) (fun x=>x);have g2:=f3.heap (newAt0 (w.alloc _) _) (fun x=>x);rw[show∀B,(w.alloc B).heap.size=w.heap.size+1 from fun B=>by simp]at g2;have ra:=Zk g1;have rb:=Zk g2;have F3:=hid ((((Fr.refl nob w).alloc _).alloc _).trans' f3);have HR:=hid hr;have G1:=hid g1;have G2:=hid g2;clear hr g1 g2 f3;cases r with
  |false=>
   go_wp2;go_ret;exact⟨_,rfl,by simp only[←HR.out];simp,F3.out⟩
  |true=>
   go_wp2_with fail;refine(HB.out _ F3.out).mono ?_;rintro e w4 ⟨r,rfl,hr,f4⟩;have F4:=hid (F3.out.trans' f4);have c:=hid hr;have d:=Zk (f4.heap G1.out (fun x=>x));have i:=Zk (f4.heap G2.out (fun x=>x));clear hr f4 ra rb;cases r with
   |false=>
    go_wp2;go_ret;exact⟨_,rfl,by simp only[←c.out];simp,F4.out⟩
   |true=>
    rcases(by cases n<;>cases m<;>simp:(n=m∧(n==m)=true)∨(n≠m∧(n==m)=false))with⟨e,e2⟩|⟨e,e2⟩
    ·have E:=hid e;clear e;go_wp2;go_ret;exact⟨_,rfl,by simp only[←HR.out,←c.out,E.out];simp,F4.out⟩
    ·have E:=hid e;clear e;go_wp2;go_ret;exact⟨_,rfl,by simp only[←HR.out,←c.out];simp[E.out],F4.out⟩
structure DA where
 kind:Int
 line:Int
 text:List UInt8
 tree:T
structure DG where
 a:DA
 b:DA
 no:Bool
def DAr(S:Nat→Prop)(w:World)(a:DA)(cs:List Value):Prop:=∃ct,cs=.int .i64 a.kind:: .int .i64 a.line:: .string ⟨a.text.toArray⟩::ct∧RT S w a.tree ct
def DGr(S:Nat→Prop)(w:World)(g:DG)(cs:List Value):Prop:=∃ca cb,cs=ca++(cb++[.bool g.no])∧DAr S w g.a ca∧DAr S w g.b cb
def DA.av(a:DA):AV:=⟨a.kind,a.line,a.text,if a.kind=3 then a.tree.nd else .nil⟩
def DG.gv(g:DG):GV:=⟨g.a.av,g.b.av,g.no⟩
def DA.few(a:DA):Bool:=decide (0≤a.kind)&&(decide (a.kind≤4)&&(a.tree.few 60&&decide ((a.text.length:Int)≤300)))
theorem DAr.open'{S:Nat→Prop}{w:World}{a:DA}{cs:List Value}(h:DAr S w a cs):∃(kd:Int) (s:S4) (m:Nat) (mn mx nu:Int) (ua:Option Addr) (uc:Nat),
 cs=[.int .i64 a.kind,.int .i64 a.line,.string ⟨a.text.toArray⟩,.int .i64 kd,.int .u64 s.a,.int .u64 s.b,.int .u64 s.c,.int .u64 s.d,.slice ua m uc,.int .i64 mn,.int .i64 mx,.int .i64 nu]∧RT S w a.tree [.int .i64 kd,.int .u64 s.a,.int .u64 s.b,.int .u64 s.c,.int .u64 s.d,.slice ua m uc,.int .i64 mn,.int .i64 mx,.int .i64 nu]:=by
 obtain⟨ct,rfl,hr⟩:=h;obtain⟨kd,s,ps,mn,mx,nu,ua,uc,_,rfl,_⟩:=hr.open';exact⟨kd,s,ps.length,mn,mx,nu,ua,uc,rfl,hr⟩
theorem AV.av_same(a b:DA)(ha:a.tree.known=true):AV.same a.av b.av↔a.kind=b.kind∧((a.kind=1∨a.kind=4)→a.line=b.line)∧(a.kind=3→a.tree.nd=b.tree.nd):=by
 unfold AV.same DA.av;simp only;constructor
 ·rintro⟨h1,h2,h3⟩;refine⟨h1,h2,fun h=> ?_⟩;have:=h3 h;rw[if_pos h,if_pos (by rw[←h1];exact h),T.nd_norm,T.nd_norm]at this;exact this
 ·rintro⟨h1,h2,h3⟩;refine⟨h1,h2,fun h=> ?_⟩;rw[if_pos h,if_pos (by rw[←h1];exact h),h3 h]
theorem ZxH(k n:Int)(t:List UInt8)(tr:T)(kd:Int)(s:S4)(m:Nat)(mn mx nu:Int)(ua:Option Addr)(uc:Nat)(w:World)(hz:tr.nd.size≤3000000)(h:RT nob w tr [.int .i64 kd,.int .u64 s.a,.int .u64 s.b,.int .u64 s.c,.int .u64 s.d,.slice ua m uc,.int .i64 mn,.int .i64 mx,.int .i64 nu]):
 Calls prog 48 #[.agg #[.int .i64 k,.int .i64 n,.string ⟨t.toArray⟩,.int .i64 kd,.int .u64 s.a,.int .u64 s.b,.int .u64 s.c,.int .u64 s.d,.slice ua m uc,.int .i64 mn,.int .i64 mx,.int .i64 nu]] w fun e w'=>Fr nob w w'∧if k=3 then∃i y,e=.returned (.agg #[.int .i64 k,.int .i64 n,.string ⟨t.toArray⟩,.iface i y])∧RN (fun j=>j<w.heap.size) w' tr.nd (.iface i y)else e=.returned (.agg #[.int .i64 k,.int .i64 n,.string ⟨t.toArray⟩,.nilIface]):=by
 obtain⟨w1,o⟩:∃w1,w1=w.alloc (.cells #[.int .i64 k,.int .i64 n,.string ⟨t.toArray⟩,.int .i64 kd,.int .u64 s.a,.int .u64 s.b,.int .u64 s.c,.int .u64 s.d,.slice ua m uc,.int .i64 mn,.int .i64 mx,.int .i64 nu] 51):=⟨_,rfl⟩;obtain⟨w2,f⟩:∃w2,w2=w1.alloc (.cells zA 45):=⟨_,rfl⟩;obtain⟨w3,g⟩:∃w3,w3=w2.alloc (.cells #[.int .i64 k,.int .i64 n,.string ⟨t.toArray⟩,.nilIface] 45):=⟨_,rfl⟩;have A:w1.heap.size=w.heap.size+1:=by rw[o];simp
 have B:w2.heap.size=w.heap.size+2:=by rw[f];simp;omega
 have P:w3.heap.size=w.heap.size+3:=by rw[g];simp;omega
 have z:w1.heap[w.heap.size]? =some (.cells #[.int .i64 k,.int .i64 n,.string ⟨t.toArray⟩,.int .i64 kd,.int .u64 s.a,.int .u64 s.b,.int .u64 s.c,.int .u64 s.d,.slice ua m uc,.int .i64 mn,.int .i64 mx,.int .i64 nu] 51 (0,0)):=by rw[o];exact newAt _ _
 have M:w3.heap[w.heap.size]? =some (.cells #[.int .i64 k,.int .i64 n,.string ⟨t.toArray⟩,.int .i64 kd,.int .u64 s.a,.int .u64 s.b,.int .u64 s.c,.int .u64 s.d,.slice ua m uc,.int .i64 mn,.int .i64 mx,.int .i64 nu] 51 (0,0)):=by rw[g];exact heap_alloc_lt _ (by rw[f];exact heap_alloc_lt _ z)
 have N:w3.heap[w.heap.size+1]? =some (.cells zA 45 (0,0)):=by rw[g];exact heap_alloc_lt _ (by rw[f];exact Zg _ _ _ A.symm)
 have O:w3.heap[w.heap.size+2]? =some (.cells #[.int .i64 k,.int .i64 n,.string ⟨t.toArray⟩,.nilIface] 45 (0,0)):=by rw[g];exact Zg _ _ _ B.symm
 have u:Fr nob w w3:=by rw[g,f,o];exact(((Fr.refl nob w).alloc _).alloc _).alloc _
 have L:Fr nob w1 w2:=by rw[f];exact(Fr.refl nob w1).alloc _
 have r1:=K12.of z;have r2:=K12.on r1 L;have r3:=K12.of M;have I:=hid o;have J:=hid f;have K:=hid g;have D:=hid u;have E:=hid N;have F:=hid O;have r:=hid A;have G:=hid B;have H:=hid P;have HC:=hid (Zw5 _ tr _ w3 (Nat.le_refl _) hz (h.on u));clear h hz o f g u L z M N O A B P;by_cases hk:k=3
 ·subst hk;simp only[if_true];go_enter func48,ntmps48;go_wp2_with(first|rw[←I.out]|rw[←J.out]|rw[←K.out]);(try rw[r.out]);(try rw[G.out]);refine HC.out.mono ?_;rintro e w4 ⟨v,rfl,rn,f4⟩;obtain⟨i,y,rfl⟩:=T.nd_iface rn;have q3:=f4.heap F.out (fun x=>x);have q2:=f4.heap E.out (fun x=>x);have g3:(w4.setCell ⟨w.heap.size+2,3,none⟩ (.iface i y)).heap[w.heap.size+2]? =some (.cells #[.int .i64 3,.int .i64 n,.string ⟨t.toArray⟩,.iface i y] 45 (0,0)):=Za q3 3 _;have g2:(w4.setCell ⟨w.heap.size+2,3,none⟩ (.iface i y)).heap[w.heap.size+1]? =some (.cells zA 45 (0,0)):=Zc q2 (by simp) _;have fs:Fr (fun k=>k=w.heap.size+2) w4 (w4.setCell ⟨w.heap.size+2,3,none⟩ (.iface i y)):=(Fr.refl (fun k=>k=w.heap.size+2) w4).setCell (p:=⟨w.heap.size+2,3,none⟩) (fun _=>rfl) _;obtain⟨w5,C⟩:∃w5,w5=w4.setCell ⟨w.heap.size+2,3,none⟩ (.iface i y):=⟨_,rfl⟩;rw[←C]at g3 g2 fs
  have x3:=Zl q3 w4 (Fr.refl _ _);have y3:=Zl g3 w5 (Fr.refl _ _);have y2:=Zl g2 w5 (Fr.refl _ _);have R:=hid C;have HZ:=hid (setFour_heap g2 (.int .i64 3) (.int .i64 n) (.string ⟨t.toArray⟩) (.iface i y));have ff:Fr (fun k=>k=w.heap.size+1∨k=w.heap.size+2) w4 (ZaG w5 (w.heap.size+1) (.int .i64 3) (.int .i64 n) (.string ⟨t.toArray⟩) (.iface i y)):=(fs.mono (T:=fun k=>k=w.heap.size+1∨k=w.heap.size+2) (fun k _ e=>.inr e)).trans (ZS w5 (w.heap.size+1) (.int .i64 3) (.int .i64 n) (.string ⟨t.toArray⟩) (.iface i y)) (fun k _ e=>.inl e);have Q:=hid (RN.keep ff (fun k _ hk=>by have:=H.out;show k<_;rcases hk with hk|hk<;>omega) (fun j _ x=>by have:=H.out;show j<_;omega) _ _ rn:RN (fun j=>j<w.heap.size) _ tr.nd (.iface i y));have FF:=hid ((D.out.trans' f4).trans ff (fun i hi h=>by rcases h with h|h<;>omega));clear q3 q2 g3 g2 fs ff C f4 rn r1 r2 r3;go_wp2_with(rw[←R.out])
  (try simp only[Exit.inBlock,Exit.then]);exact bodyPost_ret (Zo rfl rfl HZ.out rfl rfl rfl rfl) rfl ⟨FF.out,i,y,rfl,Q.out⟩
 ·have e3:(k==3)=false:=by simpa using hk
  simp only[if_neg hk];have l:w3.heap[w1.heap.size]? =some (.cells zA 45 (0,0)):=by rw[r.out];exact E.out
  have q:w3.heap[w2.heap.size]? =some (.cells #[.int .i64 k,.int .i64 n,.string ⟨t.toArray⟩,.nilIface] 45 (0,0)):=by rw[G.out];exact F.out
  have x3:=Zl q w3 (Fr.refl _ _);have x2:=Zl l w3 (Fr.refl _ _);have HZ:=hid (setFour_heap l (.int .i64 k) (.int .i64 n) (.string ⟨t.toArray⟩) .nilIface);have FF:=hid (D.out.trans (ZS w3 w1.heap.size (.int .i64 k) (.int .i64 n) (.string ⟨t.toArray⟩) .nilIface) (fun i hi h=>by have h:i=_:=h;have:=r.out;omega));clear HC l q;go_enter func48,ntmps48;go_wp2_with(first|rw[←I.out]|rw[←J.out]|rw[←K.out]);(try simp only[Exit.inBlock,Exit.then]);exact bodyPost_ret (Zo rfl rfl HZ.out rfl rfl rfl rfl) rfl ⟨FF.out,rfl⟩
theorem ZFJ(k n:Int)(t:List UInt8)(tr:T)(kd:Int)(s:S4)(m:Nat)(mn mx nu:Int)(ua:Option Addr)(uc:Nat)(w:World)(hb:tr.bulk≤3000000)(hl:t.length≤9223372036854775807)(h:RT nob w tr [.int .i64 kd,.int .u64 s.a,.int .u64 s.b,.int .u64 s.c,.int .u64 s.d,.slice ua m uc,.int .i64 mn,.int .i64 mx,.int .i64 nu]):
 Calls prog 24 #[.agg #[.int .i64 k,.int .i64 n,.string ⟨t.toArray⟩,.int .i64 kd,.int .u64 s.a,.int .u64 s.b,.int .u64 s.c,.int .u64 s.d,.slice ua m uc,.int .i64 mn,.int .i64 mx,.int .i64 nu]] w fun e w'=>e=.returned (.bool (DA.few ⟨k,n,t,tr⟩))∧Fr nob w w':=by
 obtain⟨w1,f⟩:∃w1,w1=w.alloc (.cells #[.int .i64 k,.int .i64 n,.string ⟨t.toArray⟩,.int .i64 kd,.int .u64 s.a,.int .u64 s.b,.int .u64 s.c,.int .u64 s.d,.slice ua m uc,.int .i64 mn,.int .i64 mx,.int .i64 nu] 51):=⟨_,rfl⟩;have j:w1.heap[w.heap.size]? =some (.cells #[.int .i64 k,.int .i64 n,.string ⟨t.toArray⟩,.int .i64 kd,.int .u64 s.a,.int .u64 s.b,.int .u64 s.c,.int .u64 s.d,.slice ua m uc,.int .i64 mn,.int .i64 mx,.int .i64 nu] 51 (0,0)):=by rw[f];exact newAt _ _
 have f1:Fr nob w w1:=by rw[f];exact(Fr.refl nob w).alloc _
 have HC:=hid (Zxu tr 60 _ w1 hb (h.on f1));have r1:=K12.of j;have HQ:=hid j;have i:=hid f;have F1:=hid f1;clear h hb j f f1;unfold DA.few;simp only;by_cases h0:0≤k
 ·by_cases h4:k≤4
  ·obtain⟨q,hq⟩:∃q,tr.few 60=q:=⟨_,rfl⟩;rw[hq]at HC⊢;clear hq;simp only[h0,h4,decide_true,Bool.true_and];go_enter func24,ntmps24;go_wp2_with(rw[←i.out]);refine HC.out.mono ?_;rintro e w2 ⟨rfl,f2⟩;have r2:=K12.of (f2.heap HQ.out (fun x=>x));have F2:=hid (F1.out.trans' f2);clear f2 r1;cases q with
   |false=>
    go_wp2;go_ret;exact⟨rfl,F2.out⟩
   |true=>
    rcases(by by_cases h:t.length≤300;exact .inl ⟨h,by omega⟩;exact .inr ⟨h,by omega⟩:(t.length≤300∧(t.length:Int)≤300)∨(¬t.length≤300∧¬(t.length:Int)≤300))with⟨g,g'⟩|⟨g,g'⟩
    all_goals
     clear g;go_wp2;go_ret;exact⟨by simp[g'],F2.out⟩
  ·clear HC;go_enter func24,ntmps24;go_wp2_with(rw[←i.out]);go_wp2;go_ret;exact⟨by rw[show decide (k≤4)=false from decide_eq_false (by omega)];simp,F1.out⟩
 ·clear HC;go_enter func24,ntmps24;go_wp2_with(rw[←i.out]);go_wp2;go_ret;exact⟨by rw[show decide (0≤k)=false from decide_eq_false (by omega)];simp,F1.out⟩
def DA.same(a b:DA):Prop:=a.kind=b.kind∧((a.kind=1∨a.kind=4)→a.line=b.line)∧(a.kind=3→a.tree.nd=b.tree.nd)
theorem ZFF(k1 n1:Int)(t1:List UInt8)(tr1:T)(kd1:Int)(s1:S4)(m1:Nat)(mn1 mx1 nu1:Int)(ua1:Option Addr)(uc1:Nat)(k2 n2:Int)(t2:List UInt8)(tr2:T)(kd2:Int)(s2:S4)(m2:Nat)(mn2 mx2 nu2:Int)(ua2:Option Addr)(uc2:Nat)(w:World)(sa:tr1.nd.size≤3000000)(sb:tr2.nd.size≤3000000)(ka:tr1.known=true)(kb:tr2.known=true)(ha:RT nob w tr1 [.int .i64 kd1,.int .u64 s1.a,.int .u64 s1.b,.int .u64 s1.c,.int .u64 s1.d,.slice ua1 m1 uc1,.int .i64 mn1,.int .i64 mx1,.int .i64 nu1])(hb:RT nob w tr2 [.int .i64 kd2,.int .u64 s2.a,.int .u64 s2.b,.int .u64 s2.c,.int .u64 s2.d,.slice ua2 m2 uc2,.int .i64 mn2,.int .i64 mx2,.int .i64 nu2]):
 Calls prog 29 #[.agg #[.int .i64 k1,.int .i64 n1,.string ⟨t1.toArray⟩,.int .i64 kd1,.int .u64 s1.a,.int .u64 s1.b,.int .u64 s1.c,.int .u64 s1.d,.slice ua1 m1 uc1,.int .i64 mn1,.int .i64 mx1,.int .i64 nu1],.agg #[.int .i64 k2,.int .i64 n2,.string ⟨t2.toArray⟩,.int .i64 kd2,.int .u64 s2.a,.int .u64 s2.b,.int .u64 s2.c,.int .u64 s2.d,.slice ua2 m2 uc2,.int .i64 mn2,.int .i64 mx2,.int .i64 nu2]] w fun e w'=>∃r:Bool,e=.returned (.bool r)∧(r=true↔DA.same ⟨k1,n1,t1,tr1⟩ ⟨k2,n2,t2,tr2⟩)∧Fr nob w w':=by
 obtain⟨w1,i⟩:∃w1,w1=w.alloc (.cells #[.int .i64 k1,.int .i64 n1,.string ⟨t1.toArray⟩,.int .i64 kd1,.int .u64 s1.a,.int .u64 s1.b,.int .u64 s1.c,.int .u64 s1.d,.slice ua1 m1 uc1,.int .i64 mn1,.int .i64 mx1,.int .i64 nu1] 51):=⟨_,rfl⟩;obtain⟨w2,j⟩:∃w2,w2=w1.alloc (.cells #[.int .i64 k2,.int .i64 n2,.string ⟨t2.toArray⟩,.int .i64 kd2,.int .u64 s2.a,.int .u64 s2.b,.int .u64 s2.c,.int .u64 s2.d,.slice ua2 m2 uc2,.int .i64 mn2,.int .i64 mx2,.int .i64 nu2] 51):=⟨_,rfl⟩;have m:w1.heap.size=w.heap.size+1:=by rw[i];simp
 have k:w2.heap[w.heap.size]? =some (.cells #[.int .i64 k1,.int .i64 n1,.string ⟨t1.toArray⟩,.int .i64 kd1,.int .u64 s1.a,.int .u64 s1.b,.int .u64 s1.c,.int .u64 s1.d,.slice ua1 m1 uc1,.int .i64 mn1,.int .i64 mx1,.int .i64 nu1] 51 (0,0)):=by rw[j];exact heap_alloc_lt _ (by rw[i];exact newAt _ _)
 have l:w2.heap[w.heap.size+1]? =some (.cells #[.int .i64 k2,.int .i64 n2,.string ⟨t2.toArray⟩,.int .i64 kd2,.int .u64 s2.a,.int .u64 s2.b,.int .u64 s2.c,.int .u64 s2.d,.slice ua2 m2 uc2,.int .i64 mn2,.int .i64 mx2,.int .i64 nu2] 51 (0,0)):=by rw[j];exact Zg _ _ _ m.symm
 have f2:Fr nob w w2:=by rw[j,i];exact((Fr.refl nob w).alloc _).alloc _
 have n:=hid k;have o:=hid l;have g:=hid i;have h:=hid j;have F2:=hid f2;have f:=hid m;have r1:=K12.of k;have r2:=K12.of l;have HC:=hid (ZAD _ tr1 tr2 _ _ w2 (Nat.le_refl _) sa sb ka kb (ha.on f2) (hb.on f2));clear sa sb ka kb ha hb k l i j f2 m;unfold DA.same;simp only;by_cases hk:k1=k2
 ·subst hk;by_cases h1:k1=1
  ·subst h1;go_enter func29,ntmps29;go_wp2_with(first|rw[←g.out]|rw[f.out]|rw[←h.out]);go_ret;exact⟨_,rfl,by simp,F2.out⟩
  ·by_cases h4:k1=4
   ·subst h4;go_enter func29,ntmps29;go_wp2_with(first|rw[←g.out]|rw[f.out]|rw[←h.out]);go_ret;exact⟨_,rfl,by simp,F2.out⟩
   ·by_cases h3:k1=3
    ·subst h3;go_enter func29,ntmps29;go_wp2_with(first|rw[←g.out]|rw[f.out]|rw[←h.out]);refine HC.out.mono ?_;rintro e w3 ⟨r,rfl,hr,f3⟩;have F3:=hid (F2.out.trans' f3);clear f3;go_wp2;go_ret;exact⟨_,rfl,by rw[hr];simp,F3.out⟩
    ·have e1:(k1==1)=false:=by simpa using h1
     have e4:(k1==4)=false:=by simpa using h4
     have e3:(k1==3)=false:=by simpa using h3
     have H:=hid (And.intro h1 (And.intro h4 h3));clear h1 h4 h3 HC;go_enter func29,ntmps29;go_wp2_with(first|rw[←g.out]|rw[f.out]|rw[←h.out]);go_ret;exact⟨_,rfl,by have:=H.out;simp[this.1,this.2.1,this.2.2],F2.out⟩
 ·have e1:(k1==k2)=false:=by simpa using hk
  have H:=hid hk;clear hk HC;go_enter func29,ntmps29;go_wp2_with(first|rw[←g.out]|rw[f.out]|rw[←h.out]);go_ret;exact⟨_,rfl,by simp[H.out],F2.out⟩
def DG.same(g h:DG):Prop:=DA.same g.a h.a∧DA.same g.b h.b∧g.no=h.no
theorem ZFN(k1 n1:Int)(t1:List UInt8)(tr1:T)(kd1:Int)(s1:S4)(m1:Nat)(mn1 mx1 nu1:Int)(ua1:Option Addr)(uc1:Nat)(k2 n2:Int)(t2:List UInt8)(tr2:T)(kd2:Int)(s2:S4)(m2:Nat)(mn2 mx2 nu2:Int)(ua2:Option Addr)(uc2:Nat)(k3 n3:Int)(t3:List UInt8)(tr3:T)(kd3:Int)(s3:S4)(m3:Nat)(mn3 mx3 nu3:Int)(ua3:Option Addr)(uc3:Nat)(k4 n4:Int)(t4:List UInt8)(tr4:T)(kd4:Int)(s4:S4)(m4:Nat)(mn4 mx4 nu4:Int)(ua4:Option Addr)(uc4:Nat)(x y:Bool)(w:World)(s1':tr1.nd.size≤3000000)(s2':tr2.nd.size≤3000000)(s3':tr3.nd.size≤3000000)(s4':tr4.nd.size≤3000000)(kn1:tr1.known=true)(kn2:tr2.known=true)(kn3:tr3.known=true)(kn4:tr4.known=true)(h1:RT nob w tr1 [.int .i64 kd1,.int .u64 s1.a,.int .u64 s1.b,.int .u64 s1.c,.int .u64 s1.d,.slice ua1 m1 uc1,.int .i64 mn1,.int .i64 mx1,.int .i64 nu1])(h2:RT nob w tr2 [.int .i64 kd2,.int .u64 s2.a,.int .u64 s2.b,.int .u64 s2.c,.int .u64 s2.d,.slice ua2 m2 uc2,.int .i64 mn2,.int .i64 mx2,.int .i64 nu2])(h3:RT nob w tr3 [.int .i64 kd3,.int .u64 s3.a,.int .u64 s3.b,.int .u64 s3.c,.int .u64 s3.d,.slice ua3 m3 uc3,.int .i64 mn3,.int .i64 mx3,.int .i64 nu3])(h4:RT nob w tr4 [.int .i64 kd4,.int .u64 s4.a,.int .u64 s4.b,.int .u64 s4.c,.int .u64 s4.d,.slice ua4 m4 uc4,.int .i64 mn4,.int .i64 mx4,.int .i64 nu4]):
 Calls prog 27 #[.agg #[.int .i64 k1,.int .i64 n1,.string ⟨t1.toArray⟩,.int .i64 kd1,.int .u64 s1.a,.int .u64 s1.b,.int .u64 s1.c,.int .u64 s1.d,.slice ua1 m1 uc1,.int .i64 mn1,.int .i64 mx1,.int .i64 nu1,.int .i64 k2,.int .i64 n2,.string ⟨t2.toArray⟩,.int .i64 kd2,.int .u64 s2.a,.int .u64 s2.b,.int .u64 s2.c,.int .u64 s2.d,.slice ua2 m2 uc2,.int .i64 mn2,.int .i64 mx2,.int .i64 nu2,.bool x],.agg #[.int .i64 k3,.int .i64 n3,.string ⟨t3.toArray⟩,.int .i64 kd3,.int .u64 s3.a,.int .u64 s3.b,.int .u64 s3.c,.int .u64 s3.d,.slice ua3 m3 uc3,.int .i64 mn3,.int .i64 mx3,.int .i64 nu3,.int .i64 k4,.int .i64 n4,.string ⟨t4.toArray⟩,.int .i64 kd4,.int .u64 s4.a,.int .u64 s4.b,.int .u64 s4.c,.int .u64 s4.d,.slice ua4 m4 uc4,.int .i64 mn4,.int .i64 mx4,.int .i64 nu4,.bool y]] w fun e w'=>∃r:Bool,e=.returned (.bool r)∧(r=true↔DG.same ⟨⟨k1,n1,t1,tr1⟩,⟨k2,n2,t2,tr2⟩,x⟩ ⟨⟨k3,n3,t3,tr3⟩,⟨k4,n4,t4,tr4⟩,y⟩)∧Fr nob w w':=by
 obtain⟨w1,g⟩:∃w1,w1=w.alloc (.cells #[.int .i64 k1,.int .i64 n1,.string ⟨t1.toArray⟩,.int .i64 kd1,.int .u64 s1.a,.int .u64 s1.b,.int .u64 s1.c,.int .u64 s1.d,.slice ua1 m1 uc1,.int .i64 mn1,.int .i64 mx1,.int .i64 nu1,.int .i64 k2,.int .i64 n2,.string ⟨t2.toArray⟩,.int .i64 kd2,.int .u64 s2.a,.int .u64 s2.b,.int .u64 s2.c,.int .u64 s2.d,.slice ua2 m2 uc2,.int .i64 mn2,.int .i64 mx2,.int .i64 nu2,.bool x] 53):=⟨_,rfl⟩;obtain⟨w2,h⟩:∃w2,w2=w1.alloc (.cells #[.int .i64 k3,.int .i64 n3,.string ⟨t3.toArray⟩,.int .i64 kd3,.int .u64 s3.a,.int .u64 s3.b,.int .u64 s3.c,.int .u64 s3.d,.slice ua3 m3 uc3,.int .i64 mn3,.int .i64 mx3,.int .i64 nu3,.int .i64 k4,.int .i64 n4,.string ⟨t4.toArray⟩,.int .i64 kd4,.int .u64 s4.a,.int .u64 s4.b,.int .u64 s4.c,.int .u64 s4.d,.slice ua4 m4 uc4,.int .i64 mn4,.int .i64 mx4,.int .i64 nu4,.bool y] 53):=⟨_,rfl⟩;have l:w1.heap.size=w.heap.size+1:=by rw[g];simp
 have j:w2.heap[w.heap.size]? =some (.cells #[.int .i64 k1,.int .i64 n1,.string ⟨t1.toArray⟩,.int .i64 kd1,.int .u64 s1.a,.int .u64 s1.b,.int .u64 s1.c,.int .u64 s1.d,.slice ua1 m1 uc1,.int .i64 mn1,.int .i64 mx1,.int .i64 nu1,.int .i64 k2,.int .i64 n2,.string ⟨t2.toArray⟩,.int .i64 kd2,.int .u64 s2.a,.int .u64 s2.b,.int .u64 s2.c,.int .u64 s2.d,.slice ua2 m2 uc2,.int .i64 mn2,.int .i64 mx2,.int .i64 nu2,.bool x] 53 (0,0)):=by rw[h];exact heap_alloc_lt _ (by rw[g];exact newAt _ _)
 have k:w2.heap[w.heap.size+1]? =some (.cells #[.int .i64 k3,.int .i64 n3,.string ⟨t3.toArray⟩,.int .i64 kd3,.int .u64 s3.a,.int .u64 s3.b,.int .u64 s3.c,.int .u64 s3.d,.slice ua3 m3 uc3,.int .i64 mn3,.int .i64 mx3,.int .i64 nu3,.int .i64 k4,.int .i64 n4,.string ⟨t4.toArray⟩,.int .i64 kd4,.int .u64 s4.a,.int .u64 s4.b,.int .u64 s4.c,.int .u64 s4.d,.slice ua4 m4 uc4,.int .i64 mn4,.int .i64 mx4,.int .i64 nu4,.bool y] 53 (0,0)):=by rw[h];exact Zg _ _ _ l.symm
 have f2:Fr nob w w2:=by rw[h,g];exact((Fr.refl nob w).alloc _).alloc _
 have m:=hid j;have n:=hid k;have p:=hid g;have q:=hid h;have F2:=hid f2;have o:=hid l;have r1:=K25.of j;have r2:=K25.of k;have HA:=hid (ZFF k1 n1 t1 tr1 kd1 s1 m1 mn1 mx1 nu1 ua1 uc1 k3 n3 t3 tr3 kd3 s3 m3 mn3 mx3 nu3 ua3 uc3 w2 s1' s3' kn1 kn3 (h1.on f2) (h3.on f2));have HB:=hid (fun w' (f:Fr nob w2 w')=>ZFF k2 n2 t2 tr2 kd2 s2 m2 mn2 mx2 nu2 ua2 uc2 k4 n4 t4 tr4 kd4 s4 m4 mn4 mx4 nu4 ua4 uc4 w' s2' s4' kn2 kn4 (h2.on (f2.trans' f)) (h4.on (f2.trans' f)));clear s1' s2' s3' s4' kn1 kn2 kn3 kn4 h1 h2 h3 h4 j k g h f2 l;unfold DG.same;simp only;go_enter func27,ntmps27;go_wp2_with(first|rw[←p.out]|rw[o.out]|rw[←q.out]);refine HA.out.mono ?_;rintro e w3 ⟨r,rfl,hr,f3⟩;have p1:=K25.of (f3.heap m.out (fun x=>x));have p2:=K25.of (f3.heap n.out (fun x=>x));have F3:=hid f3;have HR:=hid hr;clear hr f3 r1 r2;cases r with
 |false=>
  go_wp2;go_ret;exact⟨_,rfl,by simp only[←HR.out];simp,F2.out.trans' F3.out⟩
 |true=>
  go_wp2_with fail;refine(HB.out _ F3.out).mono ?_;rintro e w4 ⟨r,rfl,hr,f4⟩;have F4:=hid (F3.out.trans' f4);have i:=hid hr;have q1:=K25.of (F4.out.heap m.out (fun x=>x));have q2:=K25.of (F4.out.heap n.out (fun x=>x));clear hr f4 p1 p2;cases r with
  |false=>
   go_wp2;go_ret;exact⟨_,rfl,by simp only[←i.out];simp,F2.out.trans' F4.out⟩
  |true=>
   rcases(by cases x<;>cases y<;>simp:(x=y∧(x==y)=true)∨(x≠y∧(x==y)=false))with⟨e,e2⟩|⟨e,e2⟩
   ·have E:=hid e;clear e;go_wp2;go_ret;exact⟨_,rfl,by simp only[←HR.out,←i.out,E.out];simp,F2.out.trans' F4.out⟩
   ·have E:=hid e;clear e;go_wp2;go_ret;exact⟨_,rfl,by simp only[←HR.out,←i.out];simp[E.out],F2.out.trans' F4.out⟩
abbrev gcs(k1 n1:Int)(t1:List UInt8)(u1:Value)(k2 n2:Int)(t2:List UInt8)(u2:Value)(x:Bool):Array Value:= #[.int .i64 k1,.int .i64 n1,.string ⟨t1.toArray⟩,u1,.int .i64 k2,.int .i64 n2,.string ⟨t2.toArray⟩,u2,.bool x]
def ZwB(B:Nat)(k:Int)(tr:T)(w:World)(u:Value):Prop:=if k=3 then∃i y,u=.iface i y∧RN (fun j=>j<B) w tr.nd (.iface i y)else u=.nilIface
theorem ZwB.keep{B B':Nat}{X:Nat→Prop}{k:Int}{tr:T}{w w':World}{u:Value}(h:ZwB B k tr w u)(f:Fr X w w')(hX:∀j,X j→j<B)(hb:B'≤B):ZwB B' k tr w' u:=by
 unfold ZwB at h⊢;split at h
 ·next hk=>obtain⟨i,y,rfl,hr⟩:=h;rw[if_pos hk];exact⟨i,y,rfl,RN.keep f (fun j _ hj=>hX j hj) (fun j _ hj=>Nat.lt_of_lt_of_le hj hb) _ _ hr⟩
 ·next hk=>rw[if_neg hk];exact h
theorem ZwB.on{B:Nat}{k:Int}{tr:T}{w w':World}{u:Value}(h:ZwB B k tr w u)(f:Fr nob w w'):ZwB B k tr w' u:=h.keep f (fun _ x=>x.elim) (Nat.le_refl _)
theorem ZwB.rn{B:Nat}{k:Int}{tr:T}{w:World}{u:Value}(h:ZwB B k tr w u):RN nob w (if k=3 then tr.nd else .nil) u:=by
 unfold ZwB at h;split at h
 ·next hk=>obtain⟨i,y,rfl,hr⟩:=h;rw[if_pos hk];exact hr.any
 ·next hk=>rw[h,if_neg hk,RN]
theorem ZFI(k n:Int)(t:List UInt8)(tr:T)(kd:Int)(s:S4)(m:Nat)(mn mx nu:Int)(ua:Option Addr)(uc:Nat)(w:World)(hz:tr.nd.size≤3000000)(h:RT nob w tr [.int .i64 kd,.int .u64 s.a,.int .u64 s.b,.int .u64 s.c,.int .u64 s.d,.slice ua m uc,.int .i64 mn,.int .i64 mx,.int .i64 nu]):(∀w',Fr nob w w'→
 Calls prog 48 #[.agg #[.int .i64 k,.int .i64 n,.string ⟨t.toArray⟩,.int .i64 kd,.int .u64 s.a,.int .u64 s.b,.int .u64 s.c,.int .u64 s.d,.slice ua m uc,.int .i64 mn,.int .i64 mx,.int .i64 nu]] w' fun e w''=>∃i y,e=.returned (.agg #[.int .i64 k,.int .i64 n,.string ⟨t.toArray⟩,.iface i y])∧ZwB w.heap.size k tr w'' (.iface i y)∧Fr nob w' w'')∨(∀w',Fr nob w w'→
 Calls prog 48 #[.agg #[.int .i64 k,.int .i64 n,.string ⟨t.toArray⟩,.int .i64 kd,.int .u64 s.a,.int .u64 s.b,.int .u64 s.c,.int .u64 s.d,.slice ua m uc,.int .i64 mn,.int .i64 mx,.int .i64 nu]] w' fun e w''=>e=.returned (.agg #[.int .i64 k,.int .i64 n,.string ⟨t.toArray⟩,.nilIface])∧ZwB w.heap.size k tr w'' .nilIface∧Fr nob w' w''):=by
 by_cases hk:k=3
 ·refine .inl fun w' f=>(ZxH k n t tr kd s m mn mx nu ua uc w' hz (h.on f)).mono ?_;rintro e w'' ⟨f',h⟩;rw[if_pos hk]at h;obtain⟨i,y,rfl,hr⟩:=h;exact⟨i,y,rfl,by unfold ZwB;rw[if_pos hk];exact⟨i,y,rfl,RN.keep (Fr.refl nob _) (fun _ _ x=>x.elim) (fun j _ hj=>Nat.lt_of_lt_of_le hj f.size) _ _ hr⟩,f'⟩
 ·refine .inr fun w' f=>(ZxH k n t tr kd s m mn mx nu ua uc w' hz (h.on f)).mono ?_;rintro e w'' ⟨f',h⟩;rw[if_neg hk]at h;subst h;exact⟨rfl,by unfold ZwB;rw[if_neg hk],f'⟩
theorem ZFL(k1 n1:Int)(t1:List UInt8)(tr1:T)(kd1:Int)(s1:S4)(m1:Nat)(mn1 mx1 nu1:Int)(ua1:Option Addr)(uc1:Nat)(k2 n2:Int)(t2:List UInt8)(tr2:T)(kd2:Int)(s2:S4)(m2:Nat)(mn2 mx2 nu2:Int)(ua2:Option Addr)(uc2:Nat)(x:Bool)(w:World)(s1':tr1.nd.size≤3000000)(s2':tr2.nd.size≤3000000)(h1:RT nob w tr1 [.int .i64 kd1,.int .u64 s1.a,.int .u64 s1.b,.int .u64 s1.c,.int .u64 s1.d,.slice ua1 m1 uc1,.int .i64 mn1,.int .i64 mx1,.int .i64 nu1])(h2:RT nob w tr2 [.int .i64 kd2,.int .u64 s2.a,.int .u64 s2.b,.int .u64 s2.c,.int .u64 s2.d,.slice ua2 m2 uc2,.int .i64 mn2,.int .i64 mx2,.int .i64 nu2]):
 Calls prog 25 #[.agg #[.int .i64 k1,.int .i64 n1,.string ⟨t1.toArray⟩,.int .i64 kd1,.int .u64 s1.a,.int .u64 s1.b,.int .u64 s1.c,.int .u64 s1.d,.slice ua1 m1 uc1,.int .i64 mn1,.int .i64 mx1,.int .i64 nu1,.int .i64 k2,.int .i64 n2,.string ⟨t2.toArray⟩,.int .i64 kd2,.int .u64 s2.a,.int .u64 s2.b,.int .u64 s2.c,.int .u64 s2.d,.slice ua2 m2 uc2,.int .i64 mn2,.int .i64 mx2,.int .i64 nu2,.bool x]] w fun e w'=>∃u1 u2,e=.returned (.agg (gcs k1 n1 t1 u1 k2 n2 t2 u2 x))∧ZwB w.heap.size k1 tr1 w' u1∧ZwB w.heap.size k2 tr2 w' u2∧Fr nob w w':=by
 obtain⟨w1,i⟩:∃w1,w1=w.alloc (.cells #[.int .i64 k1,.int .i64 n1,.string ⟨t1.toArray⟩,.int .i64 kd1,.int .u64 s1.a,.int .u64 s1.b,.int .u64 s1.c,.int .u64 s1.d,.slice ua1 m1 uc1,.int .i64 mn1,.int .i64 mx1,.int .i64 nu1,.int .i64 k2,.int .i64 n2,.string ⟨t2.toArray⟩,.int .i64 kd2,.int .u64 s2.a,.int .u64 s2.b,.int .u64 s2.c,.int .u64 s2.d,.slice ua2 m2 uc2,.int .i64 mn2,.int .i64 mx2,.int .i64 nu2,.bool x] 53):=⟨_,rfl⟩;obtain⟨w2,f⟩:∃w2,w2=w1.alloc (.cells zG 47):=⟨_,rfl⟩;have n:w1.heap.size=w.heap.size+1:=by rw[i];simp
 have s:w2.heap.size=w.heap.size+2:=by rw[f];simp;omega
 have l:=hid s;have q:w2.heap[w.heap.size]? =some (.cells #[.int .i64 k1,.int .i64 n1,.string ⟨t1.toArray⟩,.int .i64 kd1,.int .u64 s1.a,.int .u64 s1.b,.int .u64 s1.c,.int .u64 s1.d,.slice ua1 m1 uc1,.int .i64 mn1,.int .i64 mx1,.int .i64 nu1,.int .i64 k2,.int .i64 n2,.string ⟨t2.toArray⟩,.int .i64 kd2,.int .u64 s2.a,.int .u64 s2.b,.int .u64 s2.c,.int .u64 s2.d,.slice ua2 m2 uc2,.int .i64 mn2,.int .i64 mx2,.int .i64 nu2,.bool x] 53 (0,0)):=by rw[f];exact heap_alloc_lt _ (by rw[i];exact newAt _ _)
 have r:w2.heap[w.heap.size+1]? =some (.cells zG 47 (0,0)):=by rw[f];exact Zg _ _ _ n.symm
 have f2:Fr nob w w2:=by rw[f,i];exact((Fr.refl nob w).alloc _).alloc _
 have k:=hid (K25.of q);have m:=hid r;have v:=hid i;have y:=hid f;have F2:=hid f2;have u:=hid n;have hA:=ZFI k1 n1 t1 tr1 kd1 s1 m1 mn1 mx1 nu1 ua1 uc1 w2 s1' (h1.on f2);have hB:=ZFI k2 n2 t2 tr2 kd2 s2 m2 mn2 mx2 nu2 ua2 uc2 w2 s2' (h2.on f2);clear i f q r f2 n s s1' s2' h1 h2;have HD:=hid ((Fr.refl nob w2).drew);rcases hA with hA|hA<;>rcases hB with hB|hB
 all_goals
  have HA:=hid hA;have HB:=hid hB;clear hA hB;go_enter func25,ntmps25;go_wp2_with(first|rw[←v.out]|rw[u.out]|rw[←y.out])
  go_region_held3 (fun w'=>K25 w' w.heap.size (.int .i64 k1) (.int .i64 n1) (.string ⟨t1.toArray⟩) (.int .i64 kd1) (.int .u64 s1.a) (.int .u64 s1.b) (.int .u64 s1.c) (.int .u64 s1.d) (.slice ua1 m1 uc1) (.int .i64 mn1) (.int .i64 mx1) (.int .i64 nu1) (.int .i64 k2) (.int .i64 n2) (.string ⟨t2.toArray⟩) (.int .i64 kd2) (.int .u64 s2.a) (.int .u64 s2.b) (.int .u64 s2.c) (.int .u64 s2.d) (.slice ua2 m2 uc2) (.int .i64 mn2) (.int .i64 mx2) (.int .i64 nu2) (.bool x)) (repeat(first|(with_reducible exact k.out)|(with_reducible exact K25.on k.out HD.out)|(with_reducible exact K25.on k.out G1.out)|(with_reducible exact K25.on k.out G2.out)|(with_reducible refine K25.set ?_ (by omega) _))) (first|(go_at_call 48;(with_reducible refine(HA.out _ HD.out).mono ?_);rintro e g1 ⟨i1,y1,rfl,g,f1⟩;have U1:=hid g;have G1:=hid (HD.out.trans' f1);clear g f1)|(go_at_call 48;(with_reducible refine(HA.out _ HD.out).mono ?_);rintro e g1 ⟨rfl,g,f1⟩;have U1:=hid g;have G1:=hid (HD.out.trans' f1);clear g f1)|(go_at_call 48;(with_reducible refine(HB.out _ G1.out).mono ?_);rintro e g2 ⟨i2,y2,rfl,h,f2⟩;have o:=hid (U1.out.on f2);have U2:=hid h;have G2:=hid (G1.out.trans' f2);have rz:=Zk ((G1.out.trans' f2).heap m.out (fun x=>x)) _ (Fr.refl _ _);clear h f2)|(go_at_call 48;(with_reducible refine(HB.out _ G1.out).mono ?_);rintro e g2 ⟨rfl,h,f2⟩;have o:=hid (U1.out.on f2);have U2:=hid h;have G2:=hid (G1.out.trans' f2);have rz:=Zk ((G1.out.trans' f2).heap m.out (fun x=>x)) _ (Fr.refl _ _);clear h f2))
  all_goals
   have hz:=G2.out.heap m.out (fun x=>x);have HZ:=hid hz;clear hz;go_wp2;have z:=hid (fun v0 v1 v2 v3 v4 v5 v6 v7 v8=>Zf HZ.out v0 v1 v2 v3 v4 v5 v6 v7 v8);have p:=F2.out.trans' G2.out;have t:=hid p;clear p rz;(try simp only[Exit.inBlock,Exit.then]);refine bodyPost_ret (Zu rfl rfl (z.out _ _ _ _ _ _ _ _ _) rfl rfl rfl rfl rfl rfl rfl rfl rfl) rfl ⟨_,_,rfl,o.out.keep (Zas _ _ _ _ _ _ _ _ _) (fun j hj=>by have:=l.out;have hj:j=_:=hj;omega) (by have:=l.out;omega),U2.out.keep (Zas _ _ _ _ _ _ _ _ _) (fun j hj=>by have:=l.out;have hj:j=_:=hj;omega) (by have:=l.out;omega),Zjh t.out (by omega) _ _ _ _ _ _ _ _ _⟩
section
variable {H:Type} {enc:TypeId×Value→H} {W:World} {base:Nat} {spare:Nat→Bool} {held:Bool}
structure DA.wf(a:DA):Prop where
 kd:(Lit.int .i64 a.kind).wf=true
 ln:(Lit.int .i64 a.line).wf=true
 tx:a.text.length≤maxLen
 tr:a.tree.wf
theorem ZxI:prog.cellsOf 51=12:=by kernel_rfl
theorem ZxJ{fuel:Nat}{cs:List Value}{x:DataW H×List MemPlace}(h:DataW.trod enc prog W base spare held fuel 51 cs=some x):cs.length=12∧∃a:DA,DAr nob W a cs∧a.wf∧a.tree.bulk≤Rows.uptoBulk x.1:=by
 obtain⟨xs,n,rfl,rfl,hl,b,hf⟩:=DataW.trod_struct underlying51 h;rw[ZxI]at hl;refine⟨hl,?_⟩;have ci:prog.cellsOf 3=1:=by kernel_rfl
 have c:prog.cellsOf 9=1:=by kernel_rfl
 match cs,hl,xs,b with
 |[c0,c1,c2,c3,c4,c5,c6,c7,c8,c9,c10,c11],_,[y0,y1,y2,y3],_=>
  have f0:DataW.trod enc prog W base spare held n 3 (([c0,c1,c2,c3,c4,c5,c6,c7,c8,c9,c10,c11].drop 0).take (prog.cellsOf 3))=some y0:=hf 0 _ rfl;have f1:DataW.trod enc prog W base spare held n 3 (([c0,c1,c2,c3,c4,c5,c6,c7,c8,c9,c10,c11].drop 1).take (prog.cellsOf 3))=some y1:=hf 1 _ rfl;have f2:DataW.trod enc prog W base spare held n 9 (([c0,c1,c2,c3,c4,c5,c6,c7,c8,c9,c10,c11].drop 2).take (prog.cellsOf 9))=some y2:=hf 2 _ rfl;have f3:DataW.trod enc prog W base spare held n 36 (([c0,c1,c2,c3,c4,c5,c6,c7,c8,c9,c10,c11].drop 3).take (prog.cellsOf 36))=some y3:=hf 3 _ rfl;simp only[ci,c,ZwY,List.drop_zero,List.drop_succ_cons,List.take_succ_cons,List.take_zero]at f0 f1 f2 f3;obtain⟨k,e0,_,w0⟩:=DataW.trod_int underlying3 f0;obtain⟨m,e1,_,w1⟩:=DataW.trod_int underlying3 f1;obtain⟨s,e2,_,w2⟩:=DataW.trod_string underlying9 f2;obtain⟨_,t,h1,h2,h3⟩:=ZxG n _ _ f3
  simp only[List.cons.injEq,and_true]at e0 e1 e2;subst e0 e1 e2;refine⟨⟨k,m,s.data.toList,t⟩,⟨_,by simp,h1⟩,⟨w0,w1,by unfold maxLen at w2⊢;exact w2,h2⟩,?_⟩;simp only[List.map_cons,List.map_nil,Rows.uptoBulk,Rows.uptoBulkAll];omega
theorem ZFP:prog.cellsOf 53=25:=by kernel_rfl
theorem ZFQ{fuel:Nat}{cs:List Value}{x:DataW H×List MemPlace}(h:DataW.trod enc prog W base spare held fuel 53 cs=some x):cs.length=25∧∃g:DG,DGr nob W g cs∧g.a.wf∧g.b.wf∧g.a.tree.bulk+g.b.tree.bulk≤Rows.uptoBulk x.1:=by
 obtain⟨xs,n,rfl,rfl,hl,c,hf⟩:=DataW.trod_struct underlying53 h;rw[ZFP]at hl;refine⟨hl,?_⟩;have cb:prog.cellsOf 4=1:=by kernel_rfl
 match xs,c with
 |[y0,y1,y2],_=>
  have f0:DataW.trod enc prog W base spare held n 51 ((cs.drop 0).take (prog.cellsOf 51))=some y0:=hf 0 _ rfl;have f1:DataW.trod enc prog W base spare held n 51 ((cs.drop 12).take (prog.cellsOf 51))=some y1:=hf 1 _ rfl;have f2:DataW.trod enc prog W base spare held n 4 ((cs.drop 24).take (prog.cellsOf 4))=some y2:=hf 2 _ rfl;rw[ZxI]at f0 f1;rw[cb]at f2;obtain⟨_,a,ha,wa,ba⟩:=ZxJ f0;obtain⟨_,b,hb,wb,bb⟩:=ZxJ f1;obtain⟨z,e2,_⟩:=DataW.trod_bool underlying4 f2;refine⟨⟨a,b,z⟩,⟨_,_,?_,ha,hb⟩,wa,wb,?_⟩
  ·show cs=_;rw[←e2,List.drop_zero];have h1:(cs.drop 12).take 12++(cs.drop 24).take 1=cs.drop 12:=by
    have h3:(cs.drop 24).take 1=(cs.drop 12).drop 12:=by rw[List.drop_drop,List.take_of_length_le (by rw[List.length_drop];omega)]
    rw[h3,List.take_append_drop]
   rw[h1,List.take_append_drop]
  ·simp only[List.map_cons,List.map_nil,Rows.uptoBulk,Rows.uptoBulkAll];omega
theorem ZFM{w:World}{r:Reach}{b:Nat}{v:Value}{d:DataW H}{p:List MemPlace}(hv:Value.okWide prog w r b 53 v)(h:DataW.Trod enc prog W base spare held 53 v d p):
 ∃(g:DG) (cs:List Value),v=.agg cs.toArray∧DGr nob W g cs∧g.a.wf∧g.b.wf∧g.a.tree.bulk+g.b.tree.bulk≤Rows.uptoBulk d:=by
 simp only[Value.okWide,underlying53]at hv;obtain⟨cs,rfl,_,_⟩:=hv;obtain⟨c,hf⟩:=h;obtain⟨_,t,h1,h2,h3,h4⟩:=ZFQ hf;exact⟨t,cs.toList,by simp,h1,h2,h3,h4⟩
end
theorem ZBC:ZX false [50,44,47,120,47,33,112] ⟨0,[],0⟩=.inr (⟨⟨1,2,[],.nil⟩,⟨3,0,[120],.one (spn 120 120)⟩,true⟩,⟨6,[],0⟩):=by kernel_rfl
theorem awake12_any(w:World)(hE:Env w):Calls prog 17 #[] w fun e w'=>e=.returned (.bool true)∧Fr nob w w':=by
 have P1:=Z4 [50,44,47,120,47,33,112] 0 false w (by decide) (by decide) hE;rw[ZBC]at P1;have HP:=hid P1;clear P1 hE;go_enter func17,ntmps17;go_wp2_with fail;refine HP.out.mono ?_;rintro e w1 ⟨f1,v,mv,rfl,⟨u1,u2,rfl,r1,r2⟩,ma⟩;obtain⟨am,cm,hm⟩:=Zb ma;subst hm;have o1:=r1.shape;have o2:=r2.shape;have F1:=hid f1;clear f1 r1 r2 ma;rcases o1 with rfl|⟨i1,y1,rfl⟩<;>rcases o2 with rfl|⟨i2,y2,rfl⟩
 all_goals
  go_wp2;go_ret;exact⟨rfl,F1.out.alloc _⟩
end
end Go.Proofs.YtgllcniibbaoaaaGreatDoor
