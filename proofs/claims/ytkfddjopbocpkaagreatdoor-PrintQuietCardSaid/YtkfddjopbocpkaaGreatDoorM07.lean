/- Lemmas of this claim. -/
import Derived.WalkMore
import Derived.Test.YtkfddjopbocpkaaGreatDoorM06
set_option linter.unusedVariables false
set_option linter.unusedSimpArgs false
set_option maxRecDepth 100000
set_option maxHeartbeats 4000000
namespace Go.Proofs.YtkfddjopbocpkaaGreatDoor
open Go.Lib (hid)
open Go.RowKit
abbrev ZoS(l:List UInt8)(w0:World)(b r4 r9:Nat)(F:(Int×Nat)⊕(S4×Nat))(n:Nat)(wr:World):Prop:=
 ∃R s,Zdy b l 0 s R wr∧At4 wr r9 s∧At4 wr r4 S4.zero∧Fr nob w0 wr∧ZjH l n R=F∧ZoR l n R
theorem Zkc(l:List UInt8)(a:Nat)(w:World)(hl:l.length≤100000)(ha:a≤l.length)(hE:Env w):
 Calls Tryz.prog 254 #[.string ⟨l.toArray⟩,.int .i64 a] w fun e w'=>e=.returned (Zp8 (prs l a))∧Fr nob w w':=by
 obtain⟨w0,L⟩:∃w0,w0=(w.alloc (.cells #[.int .u64 0,.int .u64 0,.int .u64 0,.int .u64 0] 132)).alloc (.cells #[.string ⟨l.toArray⟩,.int .i64 a,.int .i64 0,.int .i64 0] 323):=⟨_,rfl⟩;have f0:Fr nob w w0:=by rw[L];exact((Fr.refl _ _).alloc _).alloc _
 have i3:=hE.1;have d9:w0.heap[w.heap.size]? =some (.cells #[.int .u64 0,.int .u64 0,.int .u64 0,.int .u64 0] 132 (0,0)):=by rw[L];exact Ze _ (newAt _ _)
 have M:Rd w0 (w.heap.size+1) l a 0 0:=by
  rw[L];unfold Rd;have:=newAt (w.alloc (.cells #[.int .u64 0,.int .u64 0,.int .u64 0,.int .u64 0] 132)) (.cells #[.string ⟨l.toArray⟩,.int .i64 a,.int .i64 0,.int .i64 0] 323);simpa using this
 have A:Zj3≤w.heap.size+1:=Env.big hE;have c9:=hE.on f0;obtain⟨b,hb⟩:∃b,w.heap.size+1=b:=⟨_,rfl⟩;rw[hb]at M A;have i9:=Zl M;have j8:(a:Int)≤l.length:=by omega
 have j6:(0:Int)≤a:=by omega
 obtain⟨d0,a8⟩:∃d,[94].isPrefixOf (l.drop a)=d:=⟨_,rfl⟩;have a3:∀w',Fr nob w0 w'→_:=fun w' f=>Zbr b l [94] a 0 0 w' (by omega) (by simp) ha (M.on f);rw[a8]at a3;have C0:=hid a3;have i1:=hid M;have e7:=hid d9;have g0:=hid f0;have e9:=hid c9;have g3:=hid L;have g2:=hid hb;have i8:w.heap.size<b:=by omega
 clear a3 M d9 f0 c9 L hE hb i3;have a5:=hid a8;clear a8;go_enter Tryz.func254,Tryz.ntmps254;go_wp2_with fail;rw[←g3.out];simp only[g2.out];refine(C0.out w0 (Fr.refl _ _)).mono ?_;rintro e w1 ⟨rfl,f1⟩;have b3:=hid (i1.out.on f1);have d6:=hid (f1.heap e7.out (fun x=>x));have c1:=hid (g0.out.trans' f1);have c8:=hid (e9.out.on f1);clear f1;obtain⟨a2,j⟩:∃x,(if d0 then a+1 else a)=x:=⟨_,rfl⟩;have h4:a2≤l.length:=by
  rw[←j];split
  ·next h=>subst h;have:=(List.getElem?_eq_some_iff.1 (ZlH.1 a5.out)).1;omega
  ·exact ha
 have d2:prs l a=Zex d0 (ZjH l (l.length+1) (prt l a2)):=by
  rw[←j];cases d0
  ·exact Zps a5.out
  ·exact ZnR a5.out
 have c3:=hid d2;have f8:=hid j;clear j d2;go_upto_if 25 with(fail)
 go_cut [] (fun w'=>Rd w' b l (a2:Nat) 0 0∧w'.heap[w.heap.size]? =some (.cells #[.int .u64 0,.int .u64 0,.int .u64 0,.int .u64 0] 132 (0,0))∧Fr nob w w'∧Env w')
 case first=>
  have j:=f8.out;cases d0
  ·rw[if_neg (by decide)]at j;subst j;go_wp2;go_meet
   case rel=>exact⟨b3.out,d6.out,c1.out,c8.out⟩
  ·rw[if_pos rfl]at j;subst j;have j0:=Zl b3.out;go_wp2;go_meet
   case rel=>exact⟨by rw[show((a+1:Nat):Int)=(a:Int)+1 by omega];exact Za b3.out 1 _,Zc d6.out (by simp only;omega) _,Fr.setCell (p:=⟨b,1,none⟩) c1.out (fun h=>absurd h (by simp only;omega)) _,c8.out.on2 (Fr.setCell (S:=fun k=>k=b) (p:=⟨b,1,none⟩) (Fr.refl _ _) (fun _=>rfl) _) A⟩
 case rest=>
 obtain⟨d4,b7,d3,c2⟩:=hcut;have d7:=hid d4;have e6:=hid b7;have f9:=hid d3;have d5:=hid c2;clear d4 b7 d3 c2;go_wp2_with fail;refine(part_any b l a2 0 wc hl h4 A d5.out d7.out).mono ?_;rintro e w3 ⟨s,rfl,hs,f3,u⟩;have b0:=f3.heap e6.out (fun e=>by omega);obtain⟨w4,Q⟩:∃w4,w4=w3.alloc (.cells #[.int .u64 s.a,.int .u64 s.b,.int .u64 s.c,.int .u64 s.d] 132):=⟨_,rfl⟩;have I:Fr nob w3 w4:=by rw[Q];exact(Fr.refl _ _).alloc _
 have c6:=lt_heap d7.out;have c5:=I.heap b0 (fun x=>x);have i6:=lt_heap b0;obtain⟨r9,U⟩:∃r,w3.heap.size=r:=⟨_,rfl⟩;have b9:At4 w4 r9 s:=by rw[Q,←U];exact newAt _ _
 have j1:b<r9:=by rw[←U];exact Nat.lt_of_lt_of_le c6 f3.size
 have F4:=hid ((f9.out.trans f3 (fun i hi e=>by omega)).trans' I);have g1:=hid ((d5.out.on2 f3 A).on I);have J:=u.to (w':=w4) (fun x r q h=>h.on I);have hF:=c3.out;have e2:ZoR l (l.length+1) (prt l a2):=fun x hx=>by
  have:=prt_next hx;exact⟨this.2.1,by omega⟩
 obtain⟨F,a6⟩:∃F,ZjH l (l.length+1) (prt l a2)=F:=⟨_,rfl⟩;rw[a6]at hF;have HF:=hid hF;have g5:=hid Q;have HI:=hid (show ZoS l w b w.heap.size r9 F (l.length+1) w4 from⟨_,s,J,b9,c5,F4.out,a6,e2⟩);have H9:=hid U;clear b0 Q I c5 b9 u J hF e2 a6 U hs f3;go_wp2_with fail;rw[←g5.out];simp only[H9.out]
 go_loopg [] (l.length+1) (fun n wr=>ZoS l w b w.heap.size r9 F n wr∧Env wr)
 case atStart=>exact⟨HI.out,g1.out⟩
 case round=>
  obtain⟨⟨R,o,u,h9,hz,b6,hF,hN⟩,e0⟩:=hrel;have rz:=Zl hz;have e5:=Zl h9;have H:=hid u;have HZ:=hid hz;have a9:=hid h9;have a7:=hid b6;have h7:=hid e0;clear u hz h9 b6 e0;have b4:=hid hF;clear hF;cases R with
  |inl z=>
   obtain⟨a',h1,h2,h3⟩:=H.out;have rr:=Zl h3;have t1:(z.1==0)=false:=by simpa using h2
   have t2:(z.1 !=0)=true:=by simpa using h2
   have g7:=hid (b4.out.symm:F=.inl z);have O:=hid h3;clear h1 h2 h3 hN;have y:w.heap.size≠b:=by omega
   have HQ:=hid (show RQ wr b (.int .i64 z.1) (.int .i64 z.2)from⟨cell_at O.out rfl,cell_at O.out rfl⟩);have f4:=hid (show RQ wr.drew b (.int .i64 z.1) (.int .i64 z.2)from⟨cell_at O.out rfl,cell_at O.out rfl⟩);have b5:=hid (show At4 wr.drew w.heap.size S4.zero from HZ.out);have a1:=hid a7.out.drew;go_wp2_with fail
   go_region_held3 (fun w'=>RQ w' b (.int .i64 z.1) (.int .i64 z.2)) (repeat(first|(with_reducible exact HQ.out)|(with_reducible exact f4.out)|(with_reducible refine RQ.set ?_ y _)|(with_reducible refine RQ.drew ?_))) (fail)
   all_goals
    go_wp2;(try simp only[Exit.inBlock,Exit.then]);refine bodyPost_ret (Zx (s:=S4.zero) rfl rfl rfl rfl (setFour_heap b5.out _ _ _ _)) rfl ⟨?_,setFour_frS a1.out (Nat.le_refl _) _ _ _ _⟩;rw[HF.out,g7.out];cases d0<;>rfl
  |inr x=>
   obtain⟨o1,n0⟩:=x;obtain⟨e1,h3⟩:=H.out;simp only at e1;subst e1;obtain⟨b2,f2⟩:=hN _ rfl;simp only at b2 f2 h3 e5;obtain⟨m,rfl⟩:∃m,gk=m+1:=⟨gk-1,by omega⟩;have rr:=Zl h3;have j4:(n0:Int)≤l.length:=by omega
   have i4:(0:Int)≤n0:=by omega
   have j7:IntKind.i64.wrap ((n0:Int)+1)=(n0:Int)+1:=IntWalk.i64_in _ (by omega);obtain⟨D,hD⟩:∃d,[93].isPrefixOf (l.drop n0)=d:=⟨_,rfl⟩;have X:=Zbr b l [93] n0 0 0 wr (by omega) (by simp) b2 h3;rw[hD]at X;have C1:=hid X;have HR:=hid h3;have HD:=hid hD;clear X h3 hD hN H;cases D with
   |true=>
    have g9:=hid (show F=.inr (o,n0) by rw[←b4.out];exact Zj9 (ZlH.1 HD.out));go_wp2_with fail;refine C1.out.mono ?_;rintro e w5 ⟨rfl,f5⟩;have G:=hid (HR.out.on f5);have P:=hid (f5.heap HZ.out (fun x=>x));have B:=hid (f5.heap a9.out (fun x=>x));have F5:=hid (a7.out.trans' f5);obtain⟨N,g⟩:∃N,(if d0 then o.not else o)=N:=⟨_,rfl⟩;have c0:=hid g;clear g;have e4:=Zl G.out;have h8:=Zl B.out;go_upto_block 2 with(fail)
    go_cut [] (fun w'=>Rd w' b l n0 0 0∧At4 w' r9 N∧At4 w' w.heap.size S4.zero∧Fr nob w w')
    case first=>
     have g:=c0.out;cases d0
     ·rw[if_neg (by decide)]at g;subst g;go_wp2;go_meet
      case rel=>exact⟨G.out,B.out,P.out,F5.out⟩
     ·rw[if_pos rfl]at g;go_wp2_with fail;refine(not_lit o w5).mono ?_;rw[g];rintro e w6 ⟨rfl,f6⟩;have v:=hid (f6.heap B.out (fun x=>x));have i2:=Zl v.out;go_wp2;go_meet
      case rel=>exact⟨Zy (G.out.on f6) (by omega) _ _ _ _,setFour_heap v.out _ _ _ _,Zy (f6.heap P.out (fun x=>x)) (by omega) _ _ _ _,setFour_frS (F5.out.trans' f6) (by omega) _ _ _ _⟩
    case rest=>
    obtain⟨a4,W,a0,f7⟩:=hcut;have F7:=hid f7;clear f7 e4 h8;have j2:=Zl a4;have h0:=Zl W;have i7:=Zl a0;have Z:=hid a0;have e3:=hid a4;have C:=hid W;clear a4 W a0;have y:w.heap.size≠b:=by omega
    have d1:w.heap.size≠r9:=by omega
    have c7:=hid (show RA wc b (.int .i64 n0) r9 N from⟨cell_at e3.out rfl,Q4.of C.out⟩);have c4:=hid (show RA (World.drew wc) b (.int .i64 n0) r9 N from⟨cell_at e3.out rfl,Q4.of C.out⟩);have b5:=hid (show At4 (World.drew wc) w.heap.size S4.zero from Z.out);have a1:=hid (Fr.drew F7.out);go_wp2_with fail
    go_region_held3 (fun w'=>RA w' b (.int .i64 n0) r9 N) (repeat(first|(with_reducible exact c7.out)|(with_reducible exact c4.out)|(with_reducible refine RA.set ?_ y d1 _)|(with_reducible refine RA.drew ?_))) (fail)
    all_goals
     go_wp2;(try simp only[Exit.inBlock,Exit.then]);refine bodyPost_ret (Zx (s:=N) rfl rfl rfl rfl (setFour_heap b5.out _ _ _ _)) rfl ⟨?_,setFour_frS a1.out (Nat.le_refl _) _ _ _ _⟩;rw[HF.out,g9.out,←c0.out];cases d0<;>rfl
   |false=>
    have y:l[n0]?≠some 93:=fun e=>by rw[ZlH.2 e]at HD;exact absurd HD.out (by simp)
    have h6:=hid (show ZjH l m (orF o (prt l n0))=F by rw[←b4.out];exact(Znf y).symm);have g8:=hid (show ZoR l m (orF o (prt l n0))from Zka (by omega));clear y;go_wp2_with fail;refine C1.out.mono ?_;rintro e w5 ⟨rfl,f5⟩;have G:=hid (HR.out.on f5.drew);have P:=hid (f5.drew.heap HZ.out (fun x=>x));have B:=hid (f5.drew.heap a9.out (fun x=>x));have F5:=hid (a7.out.trans' f5.drew);have d8:=hid (h7.out.on f5.drew);have j3:=hid (Q4.of (f5.heap a9.out (fun x=>x)));have i5:=hid (Q4.of B.out);go_wp2_with fail
    go_region_with (first|(go_at_call 263;(refine(part_any b l n0 0 w5.drew hl b2 A d8.out G.out).mono ?_);rintro e w6 ⟨s',rfl,j9,f6,K⟩;have v:=hid (f6.heap B.out (fun e=>by omega));have j5:=hid (Q4.of v.out);have h5:=hid (f6.heap P.out (fun e=>by omega));have g6:=hid (d8.out.on2 f6 A);have F6:=hid (F5.out.trans f6 (fun i hi e=>by omega));have E:=hid (K.or (t:=o));have i2:=Zl v.out;clear f6 K)|(go_at_call 264;(refine(ZfK o s' w6).mono ?_);obtain⟨N,g⟩:∃N,o.or s'=N:=⟨_,rfl⟩;rw[g]at E⊢;rintro e w7 ⟨rfl,f7⟩;have C:=hid (f7.heap v.out (fun x=>x));have c7:=hid (Q4.of C.out);have Z:=hid (f7.heap h5.out (fun x=>x));have g4:=hid (g6.out.on f7);have F7:=hid (F6.out.trans' f7);have Y:=hid (E.out.to (w':=w7) (fun x r q h=>h.on f7));have h0:=Zl C.out;clear f7))
    all_goals
     have V:=h6.out;have b8:=g8.out;obtain⟨w8,b1⟩:∃w8,w8=(((w7.setCell ⟨r9,0,none⟩ (.int .u64 N.a)).setCell ⟨r9,1,none⟩ (.int .u64 N.b)).setCell ⟨r9,2,none⟩ (.int .u64 N.c)).setCell ⟨r9,3,none⟩ (.int .u64 N.d):=⟨_,rfl⟩;have i0:=hid (show ZoS l w b w.heap.size r9 F m w8∧Env w8 by
      rw[b1];refine⟨⟨_,N,Y.out.to (fun x r q h=>Zy h (by omega) _ _ _ _),setFour_heap C.out _ _ _ _,Zy Z.out (by omega) _ _ _ _,setFour_frS F7.out (by omega) _ _ _ _,V,b8⟩,g4.out.on2 (ZS _ _ _ _ _ _) (by omega)⟩)
     have e8:=hid b1;clear b1 V b8;go_wp2_with fail;rw[←e8.out];go_roundg m
     case measure=>omega
     case rel=>exact i0.out
def prz(l:List UInt8)(a:Int):(Int×Nat)⊕(S4×Nat):=if a<0∨(l.length:Int)<a then .inl (1,0)else prs l a.toNat
theorem ZnS{l:List UInt8}{a:Int}(h:a<0∨(l.length:Int)<a):prz l a=.inl (1,0):=if_pos h
theorem Zkd{l:List UInt8}{a:Nat}(h:a≤l.length):prz l a=prs l a:=by unfold prz;rw[if_neg (by omega)];rfl
theorem ZfL(l:List UInt8)(a:Int)(w:World)(hl:l.length≤100000)(hE:Env w):
 Calls Tryz.prog 254 #[.string ⟨l.toArray⟩,.int .i64 a] w fun e w'=>e=.returned (Zp8 (prz l a))∧Fr nob w w':=by
 by_cases h:a<0∨(l.length:Int)<a
 ·rw[ZnS h];exact Zkb l a w h
 ·obtain⟨n,rfl⟩:∃n:Nat,a=n:=⟨a.toNat,by omega⟩;rw[Zkd (by omega)];exact Zkc l n w hl (by omega) hE
theorem prt_err{l:List UInt8}{a:Nat}{z:Int×Nat}(h:prt l a=.inl z):z.1≠0:=by
 unfold prt at h;split at h
 ·next e he=>injection h with h;subst h;exact itm_err he
 ·split at h
  ·split at h
   ·next e he=>injection h with h;subst h;exact itm_err he
   ·split at h
    ·split at h
     ·cases h
     ·injection h with h;subst h;simp
    ·injection h with h;subst h;simp
  ·cases h
theorem lop_err{l:List UInt8}:∀{n a:Nat} {o:S4} {z:Int×Nat},a≤l.length→l.length<n+a→lop l n a o=.inl z→z.1≠0
 |0,a,_,_,h,h',_=>by omega
 |n+1,a,o,z,h,h',hz=>by
  rw[lop]at hz;split at hz
  ·cases hz
  ·cases hp:prt l a with
   |inl y=>rw[hp]at hz;injection hz with hz;subst hz;exact prt_err hp
   |inr x=>rw[hp]at hz;have:=prt_next hp;exact lop_err this.2.1 (by omega) hz
theorem prs_err{l:List UInt8}{a:Nat}{z:Int×Nat}(h:prs l a=.inl z):z.1≠0:=by
 have c:∀b d,Zp7 d (bod l b)=.inl z→z.1≠0:=by
  intro b d hb;unfold bod at hb;cases hp:prt l b with
  |inl y=>rw[hp]at hb;injection hb with hb;subst hb;exact prt_err hp
  |inr x=>
   rw[hp]at hb;simp only at hb;cases hq:lop l (l.length+1) x.2 x.1 with
   |inl y=>rw[hq]at hb;injection hb with hb;subst hb;have:=prt_next hp;exact lop_err this.2.1 (by omega) hq
   |inr y=>rw[hq]at hb;cases hb
 by_cases hc:l[a]? =some 94
 ·rw[Zpn hc]at h;exact c _ _ h
 ·rw[Zpo hc]at h;exact c _ _ h
theorem prs_in{l:List UInt8}{a:Nat}{y:S4×Nat}(h:prs l a=.inr y):y.1.fit∧a<y.2∧y.2≤l.length:=by
 have c:∀b d,Zp7 d (bod l b)=.inr y→y.1.fit∧b<y.2∧y.2≤l.length:=by
  intro b d hb;unfold bod at hb;cases hp:prt l b with
  |inl z=>rw[hp]at hb;cases hb
  |inr x=>
   rw[hp]at hb;simp only at hb;cases hq:lop l (l.length+1) x.2 x.1 with
   |inl z=>rw[hq]at hb;cases hb
   |inr z=>
    rw[hq]at hb;injection hb with hb;subst hb;have h1:=prt_next hp;have h2:=lop_next h1.2.2 hq;refine⟨?_,by simp only;omega,by simp only;omega⟩;cases d
    ·exact h2.2.2
    ·exact ZnE _
 by_cases hc:l[a]? =some 94
 ·rw[Zpn hc]at h;have:=c _ _ h;exact⟨this.1,by omega,this.2.2⟩
 ·rw[Zpo hc]at h;exact c _ _ h
def sgn(l:List UInt8)(k:Nat):List UInt8:=match l[k]? with
 |none=>[]
 |some b=>if b=92 then(match l[k+1]? with|none=>[92]|some c=>[92,c])else[b]
def opB(ere:Bool)(b:UInt8):List UInt8:=if ere then[b]else[92,b]
def Zp9(l:List UInt8)(k:Nat):Nat×Nat:=if 255<(ZaQ (l.drop k) 0 0).1 then(0,0)else ZaQ (l.drop k) 0 0
def ZlJ(l:List UInt8)(ere:Bool)(k:Nat):Option (Int×Int×Nat):=
 let m:=Zp9 l k
 if m.2=0 then none
 else
  let k1:=k+m.2
  let x:=Zp9 l (k1+1)
  let n:Int:=if ahd l k1 [44]then(if 0<x.2 then(x.1:Int)else -1)else m.1
  let k2:=if ahd l k1 [44]then k1+1+(if 0<x.2 then x.2 else 0)else k1
  if ahd l k2 (opB ere 125)=false∨(0≤n∧n<m.1)then none else some ((m.1:Int),n,k2+(opB ere 125).length)
theorem Zkf{l:List UInt8}{k:Nat}(h:l.length≤k):sgn l k=[]:=by unfold sgn;rw[List.getElem?_eq_none h]
theorem Zkg(l:List UInt8)(k:Nat):(sgn l k).length≤2∧k+(sgn l k).length≤max k l.length:=by
 unfold sgn;cases hk:l[k]? with
 |none=>simp;omega
 |some b=>
  have:=(List.getElem?_eq_some_iff.1 hk).1;simp only;split
  ·cases a:l[k+1]? with
   |none=>simp;omega
   |some c=>have:=(List.getElem?_eq_some_iff.1 a).1;simp;omega
  ·simp;omega
section
variable {α:Type} (A:Alg α) (ere:Bool) (l:List UInt8)
def Ze8:Nat→RxS→α→Out α
 |0,s,t=>.inr (t,s)
 |n+1,s,t=>
  if sgn l s.at_==[42]then Ze8 n (s.go 1) (A.rep t 0 (-1))
  else if sgn l s.at_==opB ere 43 then Ze8 n ((if ere then s else s.mark [92,43]).go (opB ere 43).length) (A.rep t 1 (-1))
  else if sgn l s.at_==opB ere 63 then Ze8 n ((if ere then s else s.mark [92,63]).go (opB ere 63).length) (A.rep t 0 1)
  else if sgn l s.at_==opB ere 123 then
   match ZlJ l ere (s.at_+(opB ere 123).length)with
   |none=>.inl (7,s.at_)
   |some (m,x,k)=>Ze8 n (s.to k) (A.rep t m x)
  else .inr (t,s)
def escD(s:RxS)(b:UInt8):Out α:=
 if 49≤b.toNat∧b.toNat≤57 then
  (if s.closed.contains (b.toNat-48)then .inr (A.back ((b.toNat-48:Nat):Int),(if ere then s.mark [92,b]else s).go 2)else .inl (9,s.at_))
 else
  match ZjI b with
  |none=>.inl (2,s.at_)
  |some (c,m)=>.inr (A.one c,(if m then s.mark [92,b]else s).go 2)
def Zct(C:Option (RxS→Out α))(s:RxS):Out α:=
 match C with
 |none=>.inl (4,s.at_)
 |some f=>
  match f {s.go (opB ere 40).length with opened:=s.opened+1}with
  | .inl e=>.inl e
  | .inr (t,s')=>
    if sgn l s'.at_==opB ere 41 then .inr (A.group ((s.opened+1:Nat):Int) t,{s'.go (opB ere 40).length with closed:=s'.closed++[s.opened+1]})
    else .inl (8,s.at_)
def ZcS(C:Option (RxS→Out α))(s:RxS):Out α:=
 if sgn l s.at_==opB ere 40 then Zct A ere l C s
 else if sgn l s.at_==opB ere 41 then .inl (8,s.at_)
 else if sgn l s.at_==[91]then
  match prs l (s.at_+1)with
  | .inl (e,p)=>.inl (e,p)
  | .inr (c,k)=>.inr (A.one c,s.to k)
 else if sgn l s.at_==[46]then .inr (A.one (spn 0 255),s.go 1)
 else if sgn l s.at_==[92]then .inl (11,s.at_)
 else
  match sgn l s.at_ with
  |[]=>.inl (2,s.at_)
  |[b]=>.inr (A.one (spn b.toNat b.toNat),s.go 1)
  |_::b::_=>escD A ere s b
def ZnT(inner:Bool)(k:Nat):Bool:=sgn l k==[]||(sgn l k==opB ere 124||(sgn l k==opB ere 41&&(inner|| !ere)))
def brD(C:Option (RxS→Out α))(inner:Bool):Nat→Bool→Bool→RxS→List α→Out α
 |0,_,_,s,ps=>.inr (A.join ps,s)
 |n+1,first,front,s,ps=>
  if sgn l s.at_==[]||(sgn l s.at_==opB ere 124||(sgn l s.at_==opB ere 41&&inner))then .inr (A.join ps,s)
  else if sgn l s.at_==[94]&&(ere||first)then brD C inner n false true (s.go 1) (ps++[A.start])
  else if sgn l s.at_==[36]&&(ere||ZnT ere l inner (s.at_+1))then brD C inner n false true (s.go 1) (ps++[A.fin])
  else if front&&(sgn l s.at_==opB ere 123||(sgn l s.at_==opB ere 43||(sgn l s.at_==opB ere 63||(ere&&sgn l s.at_==[42]))))then .inl (10,s.at_)
  else
   match ZcS A ere l C s with
   | .inl e=>.inl e
   | .inr (t,s1)=>
     match Ze8 A ere l (l.length+1) s1 t with
     | .inl e=>.inl e
     | .inr (t,s2)=>brD C inner n false false s2 (ps++[t])
def Zb7(C:Option (RxS→Out α))(inner:Bool)(s:RxS):Out α:=brD A ere l C inner (if sgn l s.at_==[94]then l.length+2 else l.length+1) true true s []
def Zar(C:Option (RxS→Out α))(inner:Bool):Nat→RxS→List α→Out α
 |0,s,ts=>.inr (A.choose ts,s)
 |n+1,s,ts=>
  if sgn l s.at_==opB ere 124 then
   match Zb7 A ere l C inner ((if ere then s else s.mark [92,124]).go (opB ere 124).length)with
   | .inl e=>.inl e
   | .inr (t,s')=>Zar C inner n s' (ts++[t])
  else .inr (A.choose ts,s)
def choiceD(C:Option (RxS→Out α))(inner:Bool)(s:RxS):Out α:=
 match Zb7 A ere l C inner s with
 | .inl e=>.inl e
 | .inr (t,s')=>Zar A ere l C inner (l.length+1) s' [t]
def chD:Nat→RxS→Out α
 |0=>choiceD A ere l none true
 |n+1=>choiceD A ere l (some (chD n)) (decide (n+1<12))
def Zac:Out α:=if 250<l.length then .inl (3,250)else chD A ere l 12 ⟨0,0,[],[]⟩
end
theorem ZcT{l:List UInt8}{k:Nat}{c:UInt8}(hc:c≠92):(sgn l k==[c])=ahd l k [c]:=by
 unfold sgn ahd;cases h:l[k]? with
 |none=>rw[List.drop_eq_nil_of_le (by simpa using h)];rfl
 |some b=>
  obtain⟨hk,hb⟩:=List.getElem?_eq_some_iff.1 h;rw[List.drop_eq_getElem_cons hk,hb];by_cases f:b=92
  ·subst f;have e:([c].isPrefixOf (92::l.drop (k+1)))=false:=by simp[List.isPrefixOf,hc]
   rw[e];simp only[if_true];cases l[k+1]? with
   |none=>simp[Ne.symm hc]
   |some d=>simp
  ·simp only[if_neg f];simp[List.isPrefixOf,BEq.comm (a:=c)]
theorem Zbt{l:List UInt8}{k:Nat}{c:UInt8}:(sgn l k==[92,c])=ahd l k [92,c]:=by
 unfold sgn ahd;cases h:l[k]? with
 |none=>rw[List.drop_eq_nil_of_le (by simpa using h)];rfl
 |some b=>
  obtain⟨hk,hb⟩:=List.getElem?_eq_some_iff.1 h;rw[List.drop_eq_getElem_cons hk,hb];by_cases e:b=92
  ·subst e;simp only[if_true];cases h2:l[k+1]? with
   |none=>rw[List.drop_eq_nil_of_le (by simpa using h2)];simp[List.isPrefixOf]
   |some d=>
    obtain⟨f,hd⟩:=List.getElem?_eq_some_iff.1 h2;rw[List.drop_eq_getElem_cons f,hd];simp[List.isPrefixOf,BEq.comm (a:=c)]
  ·simp only[if_neg e];simp[List.isPrefixOf,Ne.symm e]
theorem Ze9{l:List UInt8}{k:Nat}:(sgn l k==[])=decide (l.length≤k):=by
 by_cases h:l.length≤k
 ·rw[Zkf h];simp[h]
 ·have hk:k<l.length:=by omega
  unfold sgn;rw[List.getElem?_eq_getElem hk];simp only[h,decide_false];split
  ·cases l[k+1]? <;>rfl
  ·rfl
section
variable {α:Type} {A:Alg α} {l:List UInt8}
theorem ZbM(b:UInt8):opB false b=[92,b]:=rfl
theorem Zcz(b:UInt8):opB true b=[b]:=rfl
theorem Zfa{r:List UInt8}{x d:Nat}(h:ZaQ r 0 0=(x,d))(hx:0<x):∃b t,r=b::t∧48≤b.toNat∧b.toNat≤57:=by
 cases r with
 |nil=>rw[ZaQ]at h;injection h with h1 h2;omega
 |cons b t=>
  rw[ZaQ]at h;split at h
  ·next hb=>exact⟨b,t,rfl,hb.1,hb.2.1⟩
  ·injection h with h1 h2;omega
theorem num3_ge:∀(r:List UInt8) (c n:Nat),c≤(ZaQ r c n).2
 |[],c,n=>Nat.le_refl _
 |b::r,c,n=>by
  rw[ZaQ];split
  ·exact Nat.le_trans (Nat.le_succ c) (num3_ge r (c+1) _)
  ·exact Nat.le_refl _
theorem ZnU(k:Nat):ZlJ l false k=Zfw l k:=by
 unfold ZlJ Zfw Zp9;simp only[ZbM];obtain⟨m,c,hm⟩:∃m c,ZaQ (l.drop k) 0 0=(m,c):=⟨_,_,rfl⟩;rw[hm];by_cases a:255<m
 ·simp only[if_pos a,if_true];by_cases hc:c=0
  ·simp[hc]
  ·simp[hc,a]
 ·simp only[if_neg a];by_cases hc:c=0
  ·simp[hc]
  ·simp only[hc,if_false];cases ha:ahd l (k+c) [44]with
   |false=>
    simp only[Bool.false_eq_true,if_false];have e1:¬((0:Int)≤(m:Int)∧(m:Int)<(m:Int)):=by omega
    have e2:¬(255:Int)<(m:Int):=by omega
    simp[e1,e2,a]
   |true=>
    simp only[if_true];obtain⟨x,d,hx⟩:∃x d,ZaQ (l.drop (k+c+1)) 0 0=(x,d):=⟨_,_,rfl⟩;rw[hx];have e0:¬(255:Int)<(m:Int):=by omega
    by_cases h2:255<x
    ·obtain⟨b,t,ht,g,e⟩:=Zfa hx (by omega);have hn:ahd l (k+c+1) [92,125]=false:=by
      unfold ahd;rw[ht];simp only[List.isPrefixOf,Bool.and_eq_false_iff];exact .inl (by simp only[beq_eq_false_iff_ne,ne_eq];rintro rfl;simp at e)
     have hd:d≠0:=by
      intro h0;subst h0;rw[ht,ZaQ,if_pos ⟨g,e,by decide⟩]at hx;have:=num3_ge t 1 (0*10+(b.toNat-48));rw[hx]at this;simp at this
     have e1:(255:Int)<(x:Int):=by omega
     simp[h2,hn,hd,e1]
    ·simp only[if_neg h2];by_cases hd:d=0
     ·subst hd;simp[a]
     ·have f:0<d:=by omega
      have e1:¬(255:Int)<(x:Int):=by omega
      simp[hd,f,a,h2,e0,e1]
theorem Zg8{k:Nat}{c d:UInt8}(h:ahd l k [92,c]=true)(hd:d≠92):ahd l k [d]=false:=by
 rw[←ZcT hd];rw[←Zbt]at h;rw[eq_of_beq h];simp
theorem ahd_not{k:Nat}{c d:UInt8}(h:ahd l k [92,c]=true)(hd:d≠c):ahd l k [92,d]=false:=by
 rw[←Zbt]at h⊢;rw[eq_of_beq h];simpa using fun e=>hd e.symm
theorem Zkh:∀(n:Nat) (s:RxS) (t:α),Ze8 A false l n s t=ZbW A l n s t
 |0,s,t=>rfl
 |n+1,s,t=>by
  rw[Ze8,ZbW];simp only[ZbM,Zbt,ZcT (show(42:UInt8)≠92 by decide),Bool.false_eq_true,if_false,ZnU,Zkh n,List.length_cons,List.length_nil];cases h1:ahd l s.at_ [92,43]with
  |true=>simp[Zg8 h1 (show(42:UInt8)≠92 by decide)]
  |false=>
   cases h2:ahd l s.at_ [92,63]with
   |true=>simp[Zg8 h2 (show(42:UInt8)≠92 by decide)]
   |false=>
    cases h3:ahd l s.at_ [92,123]with
    |true=>simp only[Zg8 h3 (show(42:UInt8)≠92 by decide),Bool.false_eq_true,if_false,if_true];rfl
    |false=>simp
variable {C:Option (RxS→Out α)}
theorem Zki(s:RxS):Zct A false l C s=Zbs A l C s.at_ (s.go 2):=by
 unfold Zct Zbs;cases C with
 |none=>rfl
 |some f=>
  simp only[ZbM,Zbt,List.length_cons,List.length_nil];rfl
theorem Zmb{s:RxS}{b:UInt8}(h:l[s.at_]? =some b):ZcS A false l C s=Zb0 A l C s b:=by
 obtain⟨hk,hb⟩:=List.getElem?_eq_some_iff.1 h;unfold ZcS Zb0;by_cases a:b=92
 ·subst a;simp only[if_true];unfold ZlI;cases h2:l[s.at_+1]? with
  |none=>
   have hs:sgn l s.at_=[92]:=by unfold sgn;rw[h];simp only[if_true,h2]
   simp[hs,opB]
  |some d=>
   have hs:sgn l s.at_=[92,d]:=by unfold sgn;rw[h];simp only[if_true,h2]
   rw[←Zbt,←Zbt,hs,Zki];simp only[ZbM];unfold escD;simp;rfl
 ·have hs:sgn l s.at_=[b]:=by unfold sgn;rw[h];simp only[if_neg a]
  rw[hs];simp[opB,a];rfl
theorem Zmc{inner:Bool}{k:Nat}:ZnT false l inner (k+1)=ZbL l k:=by
 unfold ZnT ZbL;rw[Ze9,ZbM,ZbM,Zbt,Zbt];simp only[Bool.not_false,Bool.or_true,Bool.and_true];have e:decide (l.length≤k+1)=(l.drop (k+1)).isEmpty:=by
  by_cases h:l.length≤k+1
  ·rw[List.drop_eq_nil_of_le h];simp[h]
  ·rw[List.drop_eq_getElem_cons (by omega)];simp[h]
 rw[e];cases(l.drop (k+1)).isEmpty<;>cases ahd l (k+1) [92,124]<;>cases ahd l (k+1) [92,41]<;>rfl
theorem Zkj{k:Nat}(h:ZbL l k=true):l.length≤k+1∨ahd l (k+1) [92,124]=true∨ahd l (k+1) [92,41]=true:=by
 unfold ZbL at h;cases h1:ahd l (k+1) [92,124]with
 |true=>exact .inr (.inl rfl)
 |false=>
  cases h2:ahd l (k+1) [92,41]with
  |true=>exact .inr (.inr rfl)
  |false=>
   rw[h1,h2]at h;simp only[Bool.or_false,List.isEmpty_iff,List.drop_eq_nil_iff]at h;exact .inl h
theorem Zid{inner:Bool}:∀(n:Nat) (fD fS:Bool) (s:RxS) (ps:List α),(fD=fS∨l.length≤s.at_∨ahd l s.at_ [92,124]=true∨ahd l s.at_ [92,41]=true)→
 brD A false l C inner n false fD s ps=brS A l C inner n fS s ps
 |0,fD,fS,s,ps,_=>rfl
 |n+1,fD,fS,s,ps,hf=>by
  rw[brD,brS];simp only[ZbM,Zbt,Ze9,ZcT (show(36:UInt8)≠92 by decide),Bool.false_or,Bool.and_false,Bool.false_and,Bool.or_false,Bool.false_eq_true,if_false];by_cases hk:l.length≤s.at_
  ·rw[List.getElem?_eq_none hk];simp[hk]
  ·have hlt:s.at_<l.length:=by omega
   rw[List.getElem?_eq_getElem hlt];simp only[hk,decide_false,Bool.false_or];rw[Bool.and_comm (ahd l s.at_ [92,41]) inner];cases h1:(ahd l s.at_ [92,124]||(inner&&ahd l s.at_ [92,41]))with
   |true=>simp
   |false=>
    simp only[Bool.false_eq_true,if_false];rw[Zmc,Zmb (b:=l[s.at_]) (by rw[List.getElem?_eq_getElem hlt])];have e1:(fD&&(ahd l s.at_ [92,123]||(ahd l s.at_ [92,43]||ahd l s.at_ [92,63])))=(fS&&(ahd l s.at_ [92,123]||(ahd l s.at_ [92,43]||ahd l s.at_ [92,63]))):=by
     rcases hf with rfl|h|h|h
     ·rfl
     ·exact absurd h hk
     ·rw[h]at h1;simp at h1
     ·rw[ahd_not h (show(123:UInt8)≠41 by decide),ahd_not h (show(43:UInt8)≠41 by decide),ahd_not h (show(63:UInt8)≠41 by decide)];simp
    cases h2:(ahd l s.at_ [36]&&ZbL l s.at_)with
    |true=>
     have h3:ahd l s.at_ [36]=true∧ZbL l s.at_=true:=by simpa using h2
     have h4:(fS&&(ahd l s.at_ [92,123]||(ahd l s.at_ [92,43]||ahd l s.at_ [92,63])))=false:=by
      have hx:=h3.1;have q:∀c:UInt8,ahd l s.at_ [92,c]=false:=fun c=>by
       rw[←ZcT (by decide)]at hx;rw[←Zbt,eq_of_beq hx];simp
      rw[q,q,q];simp
     rw[h4];simp only[if_true,Bool.false_eq_true,if_false];exact Zid n true false (s.go 1) _ (.inr (Zkj h3.2))
    |false=>
     rw[e1];simp only[Bool.false_eq_true,if_false];cases h5:(fS&&(ahd l s.at_ [92,123]||(ahd l s.at_ [92,43]||ahd l s.at_ [92,63])))with
     |true=>rfl
     |false=>
      simp only[Bool.false_eq_true,if_false];cases Zb0 A l C s l[s.at_]with
      |inl e=>rfl
      |inr y=>
       obtain⟨t,s1⟩:=y;simp only[Zkh];cases ZbW A l (l.length+1) s1 t with
       |inl e=>rfl
       |inr z=>exact Zid n false false _ _ (.inl rfl)
theorem Zez{inner:Bool}{s:RxS}:Zb7 A false l C inner s=branchS A l C inner s:=by
 unfold Zb7 branchS;rw[ZcT (by decide)];cases h:ahd l s.at_ [94]with
 |true=>
  simp only[if_true];have a:¬l.length≤s.at_:=fun e=>by
   unfold ahd at h;rw[List.drop_eq_nil_of_le e]at h;cases h
  have q:∀c:UInt8,ahd l s.at_ [92,c]=false:=fun c=>by
   rw[←ZcT (by decide)]at h;rw[←Zbt,eq_of_beq h];simp
  rw[brD];simp only[ZbM,Zbt,Ze9,ZcT (show(94:UInt8)≠92 by decide),q,h,a,decide_false,Bool.false_or,Bool.false_and,Bool.false_eq_true,if_false,Bool.true_and,if_true];exact Zid _ _ _ _ _ (.inl rfl)
 |false=>
  simp only[Bool.false_eq_true,if_false];rw[←Zid (l.length+1) true true s [] (.inl rfl),brD,brD];rw[ZcT (show(94:UInt8)≠92 by decide),h];simp
theorem Zie{inner:Bool}:∀(n:Nat) (s:RxS) (ts:List α),Zar A false l C inner n s ts=Za1 A l C inner n s ts
 |0,s,ts=>rfl
 |n+1,s,ts=>by
  rw[Zar,Za1,ZbM,Zbt];simp only[Bool.false_eq_true,if_false,List.length_cons,List.length_nil,Zez,Zie n];rfl
theorem ZeA{inner:Bool}{s:RxS}:choiceD A false l C inner s=choiceS A l C inner s:=by
 unfold choiceD choiceS;simp only[Zez,Zie];rfl
end
theorem Zng{α:Type}{A:Alg α}{l:List UInt8}:∀(n:Nat),chD A false l n=chS A l n
 |0=>by funext s;rw[chD,chS,ZeA]
 |n+1=>by funext s;rw[chD,chS,ZeA,Zng n]
theorem ZfM{α:Type}{A:Alg α}{l:List UInt8}:Zac A false l=Zey A l:=by
 unfold Zac Zey;rw[Zng]
section
variable {α:Type} {A:Alg α} {ere:Bool} {l:List UInt8}
theorem repD_err:∀(n:Nat) (s:RxS) (t:α) (z:Int×Nat),Ze8 A ere l n s t=.inl z→z.1≠0
 |0,s,t,z,h=>by rw[Ze8]at h;cases h
 |n+1,s,t,z,h=>by
  rw[Ze8]at h;split at h
  ·exact repD_err n _ _ z h
  ·split at h
   ·exact repD_err n _ _ z h
   ·split at h
    ·exact repD_err n _ _ z h
    ·split at h
     ·split at h
      ·injection h with h;subst h;simp
      ·exact repD_err n _ _ z h
     ·cases h
variable {C:Option (RxS→Out α)} (hC:∀f,C=some f→∀s z,f s=.inl z→z.1≠0)
include hC
theorem Zi5{s:RxS}{z:Int×Nat}(h:Zct A ere l C s=.inl z):z.1≠0:=by
 unfold Zct at h;cases C with
 |none=>injection h with h;subst h;simp
 |some f=>
  simp only at h;cases hf:f {s.go (opB ere 40).length with opened:=s.opened+1}with
  |inl e=>rw[hf]at h;injection h with h;subst h;exact hC f rfl _ _ hf
  |inr y=>
   rw[hf]at h;simp only at h;split at h
   ·cases h
   ·injection h with h;subst h;simp
theorem atomD_err{s:RxS}{z:Int×Nat}(h:ZcS A ere l C s=.inl z):z.1≠0:=by
 unfold ZcS at h;split at h
 ·exact Zi5 hC h
 ·split at h
  ·injection h with h;subst h;simp
  ·split at h
   ·split at h
    ·next e p hp=>injection h with h;subst h;exact prs_err hp
    ·cases h
   ·split at h
    ·cases h
    ·split at h
     ·injection h with h;subst h;simp
     ·split at h
      ·injection h with h;subst h;simp
      ·cases h
      ·unfold escD at h;split at h
       ·split at h
        ·cases h
        ·injection h with h;subst h;simp
       ·split at h
        ·injection h with h;subst h;simp
        ·cases h
theorem brD_err{inner:Bool}:∀(n:Nat) (first front:Bool) (s:RxS) (ps:List α) (z:Int×Nat),brD A ere l C inner n first front s ps=.inl z→z.1≠0
 |0,first,front,s,ps,z,h=>by rw[brD]at h;cases h
 |n+1,first,front,s,ps,z,h=>by
  rw[brD]at h;split at h
  ·cases h
  ·split at h
   ·exact brD_err n _ _ _ _ z h
   ·split at h
    ·exact brD_err n _ _ _ _ z h
    ·split at h
     ·injection h with h;subst h;simp
     ·split at h
      ·next e he=>injection h with h;subst h;exact atomD_err hC he
      ·split at h
       ·next e he=>injection h with h;subst h;exact repD_err _ _ _ _ he
       ·exact brD_err n _ _ _ _ z h
theorem loopD_err{inner:Bool}:∀(n:Nat) (s:RxS) (ts:List α) (z:Int×Nat),Zar A ere l C inner n s ts=.inl z→z.1≠0
 |0,s,ts,z,h=>by rw[Zar]at h;cases h
 |n+1,s,ts,z,h=>by
  rw[Zar]at h;split at h
  ·split at h
   ·next e he=>injection h with h;subst h;exact brD_err hC _ _ _ _ _ _ he
   ·exact loopD_err n _ _ z h
  ·cases h
theorem choiceD_err{inner:Bool}{s:RxS}{z:Int×Nat}(h:choiceD A ere l C inner s=.inl z):z.1≠0:=by
 unfold choiceD at h;split at h
 ·next e he=>injection h with h;subst h;exact brD_err hC _ _ _ _ _ _ he
 ·exact loopD_err hC _ _ _ _ h
end
theorem chD_err{α:Type}{A:Alg α}{ere:Bool}{l:List UInt8}:∀(n:Nat) (s:RxS) (z:Int×Nat),chD A ere l n s=.inl z→z.1≠0
 |0,s,z,h=>by rw[chD]at h;exact choiceD_err (fun f hf=>by cases hf) h
 |n+1,s,z,h=>by rw[chD]at h;exact choiceD_err (fun f hf s z hz=>by injection hf with hf;subst hf;exact chD_err n s z hz) h
theorem parseD_err{α:Type}{A:Alg α}{ere:Bool}{l:List UInt8}{z:Int×Nat}(h:Zac A ere l=.inl z):z.1≠0:=by
 unfold Zac at h;split at h
 ·injection h with h;subst h;simp
 ·exact chD_err _ _ _ h
theorem valid_of{r:Int}(h:Lib.validRune r=true):Utf8.valid r=true:=by
 simp only[Lib.validRune,decide_eq_true_eq]at h;simp only[Utf8.valid,Bool.or_eq_true,Bool.and_eq_true,decide_eq_true_eq];omega
theorem indexRune_high(r:Int)(w:World)(h:128≤r)(hm:r≤2147483647):
 Calls Tryz.prog 150 #[.string ⟨#[10,59]⟩,.int .i32 r] w fun e w'=>e=.returned (.int .i64 (-1))∧Fr nob w w':=by
 have h0:¬r<128:=by omega
 by_cases he:r=65533
 ·subst he;go_enter Tryz.func150,Tryz.ntmps150;go_wp2_with fail
  go_loopw [5] (fun _ wr=>∃k:Nat,k≤2∧wr=w.iter ⟨#[10,59]⟩ k) (fun _ wr=>2-wr.iterPos w.heap.size)
  case atStart=>exact⟨0,by omega,rfl⟩
  case round=>
   obtain⟨k,hk,rfl⟩:=hrel;by_cases d:k=2
   ·subst d;have c:∀ty,(Instr.next (.pointer (some ⟨w.heap.size,0,none⟩)) true ty).run Tryz.prog (w.iter ⟨#[10,59]⟩ 2)=.ok (.tuple #[.bool false]) (w.iter ⟨#[10,59]⟩ 2):=fun ty=>run_next_end w _ 2 ty (by decide);go_wp2;go_ret;exact⟨rfl,Zb2 (Fr.refl _ _) _ _⟩
   ·have b:k<(ByteArray.mk #[10,59]).size:=by show k<2;omega
    obtain⟨x,hx,g⟩:∃x:Nat,x=((ByteArray.mk #[10,59])[k]'b).toNat∧x<128:=⟨_,rfl,by
     match k,b with
     |0,_=>show(UInt8.toNat 10)<128;decide
     |1,_=>show(UInt8.toNat 59)<128;decide⟩
    have c:∀ty,(Instr.next (.pointer (some ⟨w.heap.size,0,none⟩)) true ty).run Tryz.prog (w.iter ⟨#[10,59]⟩ k)=.ok (.tuple #[.bool true,.int .i64 k,.int .i32 x]) (w.iter ⟨#[10,59]⟩ (k+1)):=fun ty=>by
     rw[run_next_ascii w _ k ty b (by omega),hx]
    have f:((x:Int)==65533)=false:=by simp;omega
    clear hx;go_wp2;go_roundw
    case rel=>exact⟨k+1,by omega,rfl⟩
    case measure=>simp;omega
 ·have l:(r==65533)=false:=by simpa using he
  cases hv:Lib.validRune r with
  |false=>
   go_enter Tryz.func150,Tryz.ntmps150;go_wp2_with(go_at_call 183;refine(Tryz.utf8_ValidRune _ _).mono ?_;rw[hv];rintro e w' ⟨rfl,rfl⟩);go_ret;exact⟨rfl,Fr.refl _ _⟩
  |true=>
   obtain⟨f1,f2,f3⟩:=encode_facts r (valid_of hv) h;obtain⟨E,hE⟩:∃E,Utf8.encode r=E:=⟨_,rfl⟩;rw[hE]at f1 f2 f3;have j:∀w,(convert 21 9 (.int .i32 r)).run Tryz.prog w=.ok (.string E) w:=fun w=>by rw[run_convert_int_string w _ _ _ _ (by kernel_rfl) (by kernel_rfl),hE]
   have m:∀w,(Instr.slice 9 (.string ⟨#[10,59]⟩) (some (.int .i64 2)) none none).run Tryz.prog w=.ok (.string ⟨#[]⟩) w:=fun w=>by rfl
   by_cases hz:E.size=2
   ·have hl:1<E.size:=by omega
    have f4:128≤(E[1]'hl).toNat:=by have:=f3 (by omega);simpa[hz]using this
    have f5:((59:Int) !=((E[1]'hl).toNat:Int))=true:=by simp;omega
    clear f3 he;go_enter Tryz.func150,Tryz.ntmps150;go_wp2_with(go_at_call 183;refine(Tryz.utf8_ValidRune _ _).mono ?_;rw[hv];rintro e w' ⟨rfl,rfl⟩)
    go_step3
    go_wp2_with fail
    go_loop [9] (fun i=>i=.int .i64 1) (fun _=>0)
    case atStart=>go_num
    case round=>
     subst hrel;go_wp2_with fail
     go_step3
     go_wp2_with fail
     go_quiet (fail)
     go_wp2_with fail;have n:IntKind.i64.wrap 2=2:=by decide
     refine region_fr 7 (by kernel_rfl) (by kernel_rfl) ?_;simp only[List.take_succ_cons,List.take_zero,List.drop_succ_cons,List.drop_zero]
     repeat(quiet_step (fail))
     refine wpQuiet_nil ?_;intro wC fC;go_wp2_with(go_at_call 56;refine(strings_IndexByte [] _ _).mono ?_;rintro e w' ⟨rfl,rfl⟩);rw[Exit.noGoto_ret]
     repeat(change Exit.noGoto _ Exit.ret _ _;rw[Exit.noGoto_ret])
     go_ret;exact⟨rfl,((Fr.refl _ _).drewN nq).trans' fC⟩
   ·have hl:¬(E.size:Int)-1<2:=by omega
    clear f3 he;go_enter Tryz.func150,Tryz.ntmps150;go_wp2_with(go_at_call 183;refine(Tryz.utf8_ValidRune _ _).mono ?_;rw[hv];rintro e w' ⟨rfl,rfl⟩);go_wp2_with fail
    go_step3
    go_wp2_with fail
    go_loop [9] (fun i=>i=.int .i64 ((E.size:Int)-1)) (fun _=>0)
    case atStart=>go_num
    case round=>
     subst hrel;go_wp2;go_ret;exact⟨rfl,Fr.refl _ _⟩
theorem Zhu(s:ByteArray)(p:Nat)(h:p<s.size)(ha:128≤(s[p]'h).toNat):∀j,j<(Utf8.decode s p).2→∃hj:p+j<s.size,128≤(s[p+j]'hj).toNat:=by
 have hn:¬(s[p]'h).toNat<128:=by omega
 have h0:∃hj:p+0<s.size,128≤(s[p+0]'hj).toNat:=⟨h,ha⟩;have hk:∀k,(decide (p+k<s.size)&&(s.get! (p+k)).toNat/64==2)=true→∃hj:p+k<s.size,128≤(s[p+k]'hj).toNat:=by
  intro k hk;rw[Bool.and_eq_true,decide_eq_true_eq,beq_iff_eq]at hk;refine⟨hk.1,?_⟩;have e:s.get! (p+k)=s[p+k]'hk.1:=get_at s (p+k) hk.1;rw[←e];omega
 simp only[Utf8.decode,get_at s p h,hn,if_false];intro j;split
 ·next c=>
  rw[Bool.and_eq_true]at c;split
  ·intro hj
   match j,hj with
   |0,_=>exact h0
   |1,_=>exact hk 1 c.2
  ·intro hj;obtain rfl:j=0:=by omega
   exact h0
 ·split
  ·next c=>
   rw[Bool.and_eq_true,Bool.and_eq_true]at c;split
   ·intro hj
    match j,hj with
    |0,_=>exact h0
    |1,_=>exact hk 1 c.1.2
    |2,_=>exact hk 2 c.2
   ·intro hj;obtain rfl:j=0:=by omega
    exact h0
  ·split
   ·next c=>
    rw[Bool.and_eq_true,Bool.and_eq_true,Bool.and_eq_true]at c;split
    ·intro hj
     match j,hj with
     |0,_=>exact h0
     |1,_=>exact hk 1 c.1.1.2
     |2,_=>exact hk 2 c.1.2
     |3,_=>exact hk 3 c.2
    ·intro hj;obtain rfl:j=0:=by omega
     exact h0
   ·intro hj;obtain rfl:j=0:=by omega
    exact h0
theorem Zdi{w:World}{k p:Nat}{s:ByteArray}(h:w.heap[k]? =some (.stringIter s p)):w.iterPos k=p:=by unfold World.iterPos;rw[h]
theorem ZeJ{S:Nat→Prop}{a w:World}(h:Fr S a w){k:Nat}(hk:a.heap.size≤k)(s:ByteArray)(p:Nat):Fr S a (w.iterAt k s p):=
 ⟨h.os,h.tape,h.output,by show a.heap.size≤(w.heap.setIfInBounds k _).size;rw[Array.size_setIfInBounds];exact h.size,fun i hi hs=>by
  show(w.heap.setIfInBounds k _)[i]? =_;rw[Array.getElem?_setIfInBounds_ne (by omega)];exact h.block i hi hs⟩
theorem Zjn{l cs:List UInt8}{p d:Nat}(hc:∀b,b∈cs→b.toNat<128)(h:Lib.NoAny l cs p)(hs:∀j,j<d→∃hj:p+j<l.length,128≤(l[p+j]'hj).toNat):Lib.NoAny l cs (p+d):=by
 intro j b hj hb;by_cases hp:j<p
 ·exact h j b hp hb
 ·obtain⟨hq,hx⟩:=hs (j-p) (by omega);have e:p+(j-p)=j:=by omega
  simp only[e]at hq hx;rw[List.getElem?_eq_getElem hq]at hb;injection hb with hb;rw[Bool.eq_false_iff];intro a;have:=hc b (List.contains_iff_mem.1 a);rw[←hb]at this;omega
theorem Zes(l:List UInt8)(w:World)(hl:l.length≤8):
 Calls Tryz.prog 115 #[.string ⟨l.toArray⟩,.string ⟨#[10,59]⟩] w fun e w'=>e=.returned (.int .i64 (Lib.indexAny l [10,59]))∧Fr nob w w':=by
 have h8:decide ((8:Int)<(l.length:Int))=false:=decide_eq_false (by omega);go_enter Tryz.func115,Tryz.ntmps115;go_wp2_with(go_at_call 151;refine(Tryz.strings_shouldUseASCIISet _ _).mono ?_;rintro e w' ⟨rfl,hw⟩;rw[hw,h8])
 go_loopw [9] (fun _ wr=>∃p:Nat,p≤l.length∧wr.heap[w.heap.size]? =some (.stringIter ⟨l.toArray⟩ p)∧Fr nob w wr∧Lib.NoAny l [10,59] p) (fun _ wr=>l.length-wr.iterPos w.heap.size)
 case atStart=>
  subst hw;exact⟨0,by omega,World.iter_heap _ _ _,(Fr.refl _ _).alloc _,Lib.NoAny.zero _ _⟩
 case round=>
  subst hw;obtain⟨p,hp,hi,hf,o⟩:=hrel;have HI:=hid hi;have HF:=hid hf;have HN:=hid o;clear hi hf o;by_cases n:p<l.length
  ·have c:p<(ByteArray.mk l.toArray).size:=by rw[Zbp];exact n
   have a:(ByteArray.mk l.toArray)[p]'c=l[p]:=Zp6 _ _ _;have hm:wr.iterPos w'.heap.size=p:=Zdi HI.out;by_cases ha:l[p].toNat<128
   ·have m:∀ty,(Instr.next (.pointer (some ⟨w'.heap.size,0,none⟩)) true ty).run Tryz.prog wr=.ok (.tuple #[.bool true,.int .i64 p,.int .i32 l[p].toNat]) (wr.iterAt w'.heap.size ⟨l.toArray⟩ (p+1)):=fun ty=>by
     rw[Lib.run_next_ascii_at wr _ _ p ty HI.out c (by rw[a];exact ha),a]
    have i:=Lib.iterAt_heap wr w'.heap.size ⟨l.toArray⟩ p (p+1) HI.out;have g:=ZeJ HF.out (Nat.le_refl _) ⟨l.toArray⟩ (p+1);obtain⟨x,hx⟩:∃x,l[p]=x:=⟨_,rfl⟩;have HX:=hid (show l[p]? =some x by rw[List.getElem?_eq_getElem n,hx]);rw[hx]at m ha;have h:=hid i;have k:=hid g;clear i g c a hx;have f:=Lib.contains_iff_indexByte [10,59] x;cases hc:([10,59]:List UInt8).contains x with
    |true=>
     rw[hc]at f;have u:¬Lib.indexByte [10,59] x<0:=by have:=of_decide_eq_true f.symm;omega
     have HC:=hid hc;clear hc f;go_wp2_with(go_at_call 150;refine(Tryz.strings_IndexRune_ascii ⟨#[10,59]⟩ _ _ (by omega) (by omega)).mono ?_;rintro e w2 ⟨rfl,rfl⟩;rw[show Lib.indexByte (ByteArray.mk #[10,59]).data.toList (((x.toNat:Int)).toNat.toUInt8)=Lib.indexByte [10,59] x by simp]);go_ret;exact⟨by rw[Lib.indexAny_hit HN.out HX.out HC.out];rfl,k.out⟩
    |false=>
     rw[hc]at f;have u:Lib.indexByte [10,59] x<0:=by have:=of_decide_eq_false f.symm;omega
     have HC:=hid hc;clear hc f;go_wp2_with(go_at_call 150;refine(Tryz.strings_IndexRune_ascii ⟨#[10,59]⟩ _ _ (by omega) (by omega)).mono ?_;rintro e w2 ⟨rfl,rfl⟩;rw[show Lib.indexByte (ByteArray.mk #[10,59]).data.toList (((x.toNat:Int)).toNat.toUInt8)=Lib.indexByte [10,59] x by simp]);go_roundw
     case rel=>exact⟨p+1,by omega,h.out,k.out,HN.out.succ HX.out HC.out⟩
     case measure=>rw[hm,Zdi h.out];omega
   ·have hh:=decode_high (ByteArray.mk l.toArray) p c (by rw[a];omega);have hs:=Zhu (ByteArray.mk l.toArray) p c (by rw[a];omega);have s:=decode_le (ByteArray.mk l.toArray) p;obtain⟨r,hr⟩:∃r,(Utf8.decode ⟨l.toArray⟩ p).1=r:=⟨_,rfl⟩;obtain⟨d,hd⟩:∃d,(Utf8.decode ⟨l.toArray⟩ p).2=d:=⟨_,rfl⟩;have m:∀ty,(Instr.next (.pointer (some ⟨w'.heap.size,0,none⟩)) true ty).run Tryz.prog wr=.ok (.tuple #[.bool true,.int .i64 p,.int .i32 r]) (wr.iterAt w'.heap.size ⟨l.toArray⟩ (p+d)):=fun ty=>by
     rw[Lib.run_next_any_at wr _ _ p ty HI.out c,hr,hd]
    rw[hr]at hh s;rw[hd]at hh hs;have q:p+d≤l.length:=by
     obtain⟨hj,_⟩:=hs (d-1) (by omega);rw[Zbp]at hj;omega
    have t:=hid (Zjn (cs:=[10,59]) (by decide) HN.out (fun j hj=>by obtain⟨h1,h2⟩:=hs j hj;exact⟨by rw[Zbp]at h1;exact h1,h2⟩));have i:=Lib.iterAt_heap wr w'.heap.size ⟨l.toArray⟩ p (p+d) HI.out;have g:=ZeJ HF.out (Nat.le_refl _) ⟨l.toArray⟩ (p+d);have h:=hid i;have k:=hid g;clear i g c a hr hd hs ha;go_wp2_with(go_at_call 150;refine(indexRune_high _ _ (by omega) (by omega)).mono ?_;rintro e w2 ⟨rfl,f2⟩);go_roundw
    case rel=>exact⟨p+d,q,f2.heap h.out (fun x=>x),k.out.trans' f2,t.out⟩
    case measure=>rw[hm,Zdi (f2.heap h.out (fun x=>x))];omega
  ·obtain rfl:p=l.length:=by omega
   have m:∀ty,(Instr.next (.pointer (some ⟨w'.heap.size,0,none⟩)) true ty).run Tryz.prog wr=.ok (.tuple #[.bool false]) wr:=fun ty=>Lib.run_next_end_at wr _ _ _ ty HI.out (by rw[Zbp];omega);go_wp2;go_ret;exact⟨by rw[Lib.indexAny_none HN.out];rfl,HF.out⟩
theorem ZcX(l:List UInt8)(label:Bool)(w:World)(hl:l.length≤1000000):
 Calls Tryz.prog 115 #[.string ⟨l.toArray⟩,.string (if label then⟨#[10,59]⟩else⟨#[10]⟩)] w fun e w'=>e=.returned (.int .i64 (Lib.indexAny l (if label then[10,59]else[10])))∧Fr nob w w':=by
 cases label with
 |false=>
  refine(Tryz.strings_IndexAny_one ⟨l.toArray⟩ ⟨#[10]⟩ w rfl (fun j b h=> ?_)).mono ?_
  ·match j,h with
   |0,h=>cases h;decide
  ·rintro e w' ⟨rfl,rfl⟩;exact⟨rfl,Fr.refl _ _⟩
 |true=>
  by_cases h8:l.length≤8
  ·exact Zes l w h8
  ·refine(Tryz.strings_IndexAny_long (fun w=>by rw[Zpa]) ⟨l.toArray⟩ ⟨#[10,59]⟩ w (by decide) (by rw[Zbp];omega) (by rw[Zbp];omega) (by decide) (fun j b h=> ?_)).mono ?_
   ·match j,h with
    |0,h=>cases h;decide
    |1,h=>cases h;decide
   ·rintro e w' ⟨rfl,rfl⟩;exact⟨rfl,Zc5 [10,59] w⟩
def bhd(l cs:List UInt8)(k:Nat):Nat:=l.length-(tl (l.drop k) cs).length
theorem Zmv(m cs:List UInt8):(tl m cs).length≤m.length:=(List.dropWhile_sublist _).length_le
theorem Zip(cs:List UInt8)(h:∀b∈cs,b.toNat<128):∀(j:Nat) b,cs[j]? =some b→b.toNat<128:=fun _ _ hj=>h _ (List.mem_of_getElem? hj)
theorem behind_any(l:List UInt8)(at_:Int)(c d:UInt8)(cs:List UInt8)(w:World)(hs:l.length≤1000000)(hcs:cs.length≤1000)(ha:∀b∈c::d::cs,b.toNat<128):
 Calls Tryz.prog 99 #[.string ⟨l.toArray⟩,.int .i64 at_,.string ⟨(c::d::cs).toArray⟩] w fun e w'=>
  e=.returned (.int .i64 (if at_<0∨(l.length:Int)<at_ then 0 else(bhd l (c::d::cs) at_.toNat:Nat)))∧Fr nob w w':=by
 have hT:=fun k w=>ZfG (l.drop k) c d cs w (by rw[List.length_drop];omega) hcs (Zip _ ha);obtain⟨CS,f⟩:∃CS,c::d::cs=CS:=⟨_,rfl⟩;rw[f]at hT⊢;clear f ha;by_cases ho:at_<0∨(l.length:Int)<at_
 ·have a:(decide (at_<0)||decide ((l.length:Int)<at_))=true:=by simpa using ho
  rw[if_pos ho];have HO:=hid a;clear a ho;go_enter Tryz.func99,Tryz.ntmps99;go_wp2_with(go_at_call 128;refine(over_any _ _ w (by omega)).mono ?_;rw[HO.out];rintro e w' ⟨rfl,rfl⟩);go_ret;exact⟨rfl,Fr.refl _ _⟩
 ·obtain⟨k,rfl⟩:∃k:Nat,at_=k:=⟨at_.toNat,by omega⟩;have hk:k≤l.length:=by omega
  have a:(decide ((k:Int)<0)||decide ((l.length:Int)<k))=false:=by simp;omega
  rw[if_neg ho];have HO:=hid a;clear a ho;have g:=Zmv (l.drop k) CS;rw[List.length_drop]at g;go_enter Tryz.func99,Tryz.ntmps99;go_wp2_with(first|(go_at_call 128;refine(over_any _ _ w (by omega)).mono ?_;rw[HO.out];rintro e w' ⟨rfl,rfl⟩)|(go_at_call 129;refine(hT k _).mono ?_;rintro e w' ⟨rfl,hf⟩));go_ret;exact⟨ZdT (by unfold bhd;simp;omega),hf⟩
theorem ZeK(l:List UInt8)(at_:Int)(w:World)(hs:l.length≤1000000):
 Calls Tryz.prog 94 #[.string ⟨l.toArray⟩,.int .i64 at_] w fun e w'=>
  e=.returned (.int .i64 (if at_<0∨(l.length:Int)<at_ then 0 else(bhd l [32,9] at_.toNat:Nat)))∧Fr nob w w':=by
 go_enter Tryz.func94,Tryz.ntmps94;go_wp2_with(go_at_call 99;refine(behind_any l at_ 32 9 [] w hs (by decide) (by decide)).mono ?_;rintro e w' ⟨rfl,hf⟩)
 all_goals
  go_ret;exact⟨rfl,hf⟩
theorem ZkP(l:List UInt8)(at_:Int)(w:World)(hs:l.length≤1000000):
 Calls Tryz.prog 65 #[.string ⟨l.toArray⟩,.int .i64 at_] w fun e w'=>
  e=.returned (.int .i64 (if at_<0∨(l.length:Int)<at_ then 0 else(bhd l [32,9,10,59] at_.toNat:Nat)))∧Fr nob w w':=by
 go_enter Tryz.func65,Tryz.ntmps65;go_wp2_with(go_at_call 99;refine(behind_any l at_ 32 9 [10,59] w hs (by decide) (by decide)).mono ?_;rintro e w' ⟨rfl,hf⟩)
 all_goals
  go_ret;exact⟨rfl,hf⟩
def Zqx(label:Bool):List UInt8:=if label then[10,59]else[10]
def Zcv(m:List UInt8)(label:Bool):List UInt8:=m.takeWhile (fun b=> !(Zqx label).contains b)
def Za5(m:List UInt8):List UInt8:=tl (tr m [32,9]) [32,9]
def ZcI(l:List UInt8)(k:Nat)(label:Bool):List UInt8×Nat×Int:=
 if Za5 (Zcv (l.drop k) label)=[]then([],k,14)
 else if 40<(Za5 (Zcv (l.drop k) label)).length then([],k,3)
 else(Za5 (Zcv (l.drop k) label),k+(Zcv (l.drop k) label).length,0)
theorem Zec(m:List UInt8)(label:Bool):(Zcv m label).length≤m.length:=(List.takeWhile_sublist _).length_le
theorem ZbT:∀(m cs:List UInt8),Lib.indexAny m cs=if(m.takeWhile (fun b=> !cs.contains b)).length<m.length then((m.takeWhile (fun b=> !cs.contains b)).length:Int)else -1
 |[],cs=>rfl
 |b::m,cs=>by
  have ih:=ZbT m cs;have hl:=(List.takeWhile_sublist (fun b=> !cs.contains b) (l:=m)).length_le;rw[Lib.indexAny,List.takeWhile_cons,ih];cases h:cs.contains b with
  |true=>simp
  |false=>
   simp only[Bool.false_eq_true,if_false,Bool.not_false,if_true,List.length_cons];by_cases h2:(m.takeWhile (fun b=> !cs.contains b)).length<m.length
   ·rw[if_pos h2,if_neg (by simp),if_pos (by omega)];omega
   ·rw[if_neg h2,if_pos (by rfl),if_neg (by omega)]
theorem Zgi(m:List UInt8)(label:Bool):m.take (Zcv m label).length=Zcv m label:=by
 unfold Zcv;exact(List.prefix_iff_eq_take.1 (List.takeWhile_prefix _)).symm
theorem Zmw{l:List UInt8}{k:Nat}{label:Bool}(h:Za5 (Zcv (l.drop k) label)=[]):ZcI l k label=([],k,14):=if_pos h
theorem Zmx{l:List UInt8}{k:Nat}{label:Bool}(h:40<(Za5 (Zcv (l.drop k) label)).length):ZcI l k label=([],k,3):=by
 unfold ZcI;rw[if_neg (fun e=>by rw[e]at h;simp at h),if_pos h]
theorem ZpF{l:List UInt8}{k:Nat}{label:Bool}(h:Za5 (Zcv (l.drop k) label)≠[])(h2:¬40<(Za5 (Zcv (l.drop k) label)).length):
 ZcI l k label=(Za5 (Zcv (l.drop k) label),k+(Zcv (l.drop k) label).length,0):=by
 unfold ZcI;rw[if_neg h,if_neg h2]
theorem Ziq(l:List UInt8)(k:Nat)(label:Bool)(w:World)(hs:l.length≤100000)(hk:k≤l.length):
 Calls Tryz.prog 114 #[.string ⟨l.toArray⟩,.int .i64 k,.bool label] w fun e w'=>
  e=.returned (.tuple #[.string ⟨(ZcI l k label).1.toArray⟩,.int .i64 (ZcI l k label).2.1,.int .i64 (ZcI l k label).2.2])∧Fr nob w w':=by
 have hI:∀w,Calls Tryz.prog 115 #[.string ⟨(l.drop k).toArray⟩,.string (if label then⟨#[10,59]⟩else⟨#[10]⟩)] w fun e w'=>e=.returned (.int .i64 (if(Zcv (l.drop k) label).length<(l.drop k).length then((Zcv (l.drop k) label).length:Int)else -1))∧Fr nob w w':=fun w=>by
  have:=ZcX (l.drop k) label w (by rw[List.length_drop];omega);rw[ZbT]at this;exact this
 have hB:=fun w=>ZlT (Zcv (l.drop k) label) 32 9 [] w (by have:=Zec (l.drop k) label;rw[List.length_drop]at this;omega) (by decide) (Zip _ (by decide));have n:(Za5 (Zcv (l.drop k) label)).length≤(Zcv (l.drop k) label).length:=Nat.le_trans (Zmv _ _) (Zo7 _ _);have f:= @Zmw l k label;have c:= @Zmx l k label;have d:= @ZpF l k label;have h:=Zgi (l.drop k) label;have o:=Zec (l.drop k) label;have ho:(decide ((k:Int)<0)||decide ((l.length:Int)<k))=false:=by simp;omega
 have HO:=hid ho;clear ho;have j:(l.drop k).length=l.length-k:=List.length_drop;change∀w,Calls Tryz.prog 149 _ w fun e w'=>e=.returned (.string ⟨(Za5 (Zcv (l.drop k) label)).toArray⟩)∧Fr nob w w' at hB;have hd:(ByteArray.mk l.toArray).extract k l.length=⟨(l.drop k).toArray⟩:=ZoV _ _
 revert hI hB n f c d h o j hd
 generalize l.drop k=M;generalize Zcv M label=U;generalize Za5 U=N;generalize ZcI l k label=F;intro hI n f c d h o j hB hd;have p:(ByteArray.mk M.toArray).extract 0 U.length=⟨U.toArray⟩:=by rw[Zm8];simp[h]
 have HB:=hid hB;clear hB;by_cases i:U.length<M.length
 ·rw[if_pos i]at hI;have HI:=hid hI;clear hI h;by_cases a:N=[]
  ·rw[f a];subst a;clear f c d;cases label
   all_goals
    go_enter Tryz.func114,Tryz.ntmps114;go_wp2_with(first|(go_at_call 128;refine(over_any _ _ w (by omega)).mono ?_;rw[HO.out];rintro e w' ⟨rfl,rfl⟩)|(go_at_call 115;refine(HI.out _).mono ?_;rintro e w1 ⟨rfl,hf⟩;have HF:=hid hf;clear hf)|(go_at_call 149;refine(HB.out _).mono ?_;rintro e w2 ⟨rfl,hf⟩;have b:=hid hf;clear hf));go_ret3;exact⟨rfl,HF.out.trans' b.out⟩
  ·by_cases g:40<N.length
   ·rw[c g];have m:N.isEmpty=false:=by cases N with|nil=>exact absurd rfl a|cons _ _=>rfl
    clear f c d a;cases label
    all_goals
     go_enter Tryz.func114,Tryz.ntmps114;go_wp2_with(first|(go_at_call 128;refine(over_any _ _ w (by omega)).mono ?_;rw[HO.out];rintro e w' ⟨rfl,rfl⟩)|(go_at_call 115;refine(HI.out _).mono ?_;rintro e w1 ⟨rfl,hf⟩;have HF:=hid hf;clear hf)|(go_at_call 149;refine(HB.out _).mono ?_;rintro e w2 ⟨rfl,hf⟩;have b:=hid hf;clear hf));go_ret3;exact⟨rfl,HF.out.trans' b.out⟩
   ·rw[d a g];have m:N.isEmpty=false:=by cases N with|nil=>exact absurd rfl a|cons _ _=>rfl
    clear f c d a;cases label
    all_goals
     go_enter Tryz.func114,Tryz.ntmps114;go_wp2_with(first|(go_at_call 128;refine(over_any _ _ w (by omega)).mono ?_;rw[HO.out];rintro e w' ⟨rfl,rfl⟩)|(go_at_call 115;refine(HI.out _).mono ?_;rintro e w1 ⟨rfl,hf⟩;have HF:=hid hf;clear hf)|(go_at_call 149;refine(HB.out _).mono ?_;rintro e w2 ⟨rfl,hf⟩;have b:=hid hf;clear hf));go_ret3;exact⟨rfl,HF.out.trans' b.out⟩
 ·rw[if_neg i]at hI;obtain rfl:U=M:=by rw[←h];exact List.take_of_length_le (by omega)
  have HI:=hid hI;clear hI h p i;by_cases a:N=[]
  ·rw[f a];subst a;clear f c d;cases label
   all_goals
    go_enter Tryz.func114,Tryz.ntmps114;go_wp2_with(first|(go_at_call 128;refine(over_any _ _ w (by omega)).mono ?_;rw[HO.out];rintro e w' ⟨rfl,rfl⟩)|(go_at_call 115;refine(HI.out _).mono ?_;rintro e w1 ⟨rfl,hf⟩;have HF:=hid hf;clear hf)|(go_at_call 149;refine(HB.out _).mono ?_;rintro e w2 ⟨rfl,hf⟩;have b:=hid hf;clear hf));go_ret3;exact⟨rfl,HF.out.trans' b.out⟩
  ·by_cases g:40<N.length
   ·rw[c g];have m:N.isEmpty=false:=by cases N with|nil=>exact absurd rfl a|cons _ _=>rfl
    clear f c d a;cases label
    all_goals
     go_enter Tryz.func114,Tryz.ntmps114;go_wp2_with(first|(go_at_call 128;refine(over_any _ _ w (by omega)).mono ?_;rw[HO.out];rintro e w' ⟨rfl,rfl⟩)|(go_at_call 115;refine(HI.out _).mono ?_;rintro e w1 ⟨rfl,hf⟩;have HF:=hid hf;clear hf)|(go_at_call 149;refine(HB.out _).mono ?_;rintro e w2 ⟨rfl,hf⟩;have b:=hid hf;clear hf));go_ret3;exact⟨rfl,HF.out.trans' b.out⟩
   ·rw[d a g];have m:N.isEmpty=false:=by cases N with|nil=>exact absurd rfl a|cons _ _=>rfl
    clear f c d a;cases label
    all_goals
     go_enter Tryz.func114,Tryz.ntmps114;go_wp2_with(first|(go_at_call 128;refine(over_any _ _ w (by omega)).mono ?_;rw[HO.out];rintro e w' ⟨rfl,rfl⟩)|(go_at_call 115;refine(HI.out _).mono ?_;rintro e w1 ⟨rfl,hf⟩;have HF:=hid hf;clear hf)|(go_at_call 149;refine(HB.out _).mono ?_;rintro e w2 ⟨rfl,hf⟩;have b:=hid hf;clear hf));go_ret3;exact⟨by simp[j],HF.out.trans' b.out⟩
def TxB(b:Nat)(out:List UInt8)(g:Option Nat)(w:World):Prop:=∃cs,Zc3 5 177 b 0 cs out g w∧cs.size=2
theorem TxB.new(w:World):TxB w.heap.size [] none (w.alloc (.cells #[.pointer none,.slice none 0 0] 177)):=
 ⟨_,⟨heap_alloc_new w _,by simp,.inl rfl,.slice none 0 0,rfl,World.ownsRow_nil _ _ _ _,rfl,by simp,fun _=>rfl⟩,rfl⟩
theorem Zs2{n:Nat}(h:n=2):Zfx 177 n 0:=by subst h;unfold Zfx;kernel_rfl
structure TxW(W0:World)(K:Nat→Prop)(b:Nat)(out:List UInt8)(w:World):Prop where
 fr:Fr nob W0 w
 tx:∃g,TxB b out g w∧∀k,(k<W0.heap.size∨K k)→k≠b∧some k≠g∧k<w.heap.size
def Txn(W0:World)(K:Nat→Prop)(k:Nat):Prop:=¬(k<W0.heap.size∨K k)
def TxA(W0:World)(K:Nat→Prop)(b:Nat)(out:List UInt8)(w:World)(v:Value)(e:Ending)(w':World):Prop:=e=.returned v∧TxW W0 K b out w'∧Fr (Txn W0 K) w w'
section
variable {W0 w w':World} {K:Nat→Prop} {b:Nat} {out:List UInt8}
theorem TxB.on{g:Option Nat}{S:Nat→Prop}(h:TxB b out g w)(f:Fr S w w')(h1:¬S b)(h2:∀k,g=some k→¬S k):TxB b out g w':=by
 obtain⟨cs,⟨hb,ho,hp,v,hv,a,hg,c,d⟩,hs⟩:=h;exact⟨cs,⟨f.heap hb h1,ho,hp,v,hv,ownsRow_fr a f (fun k hk=>h2 k (hg▸hk)),hg,c,d⟩,hs⟩
theorem TxW.on{S:Nat→Prop}(h:TxW W0 K b out w)(f:Fr S w w')(hS:∀k,S k→K k∧W0.heap.size≤k):TxW W0 K b out w':=by
 obtain⟨fr,g,ht,hk⟩:=h;refine⟨fr.trans f (fun i hi x=>by have:=(hS i x).2;omega),g,ht.on f (fun x=>(hk b (.inr (hS b x).1)).1 rfl) (fun k e x=>(hk k (.inr (hS k x).1)).2.1 e.symm),fun k h=> ?_⟩;obtain⟨h1,h2,h3⟩:=hk k h;exact⟨h1,h2,Nat.lt_of_lt_of_le h3 f.size⟩
theorem TxW.quiet(h:TxW W0 K b out w)(f:Fr nob w w'):TxW W0 K b out w':=h.on f (fun _ x=>x.elim)
theorem TxW.alloc(h:TxW W0 K b out w)(o:Obj)(hb:b<w.heap.size):TxW W0 (fun k=>K k∨k=w.heap.size) b out (w.alloc o):=by
 obtain⟨fr,g,ht,hk⟩:=h;have hg:∀k,g=some k→k<w.heap.size:=by
  intro k e;obtain⟨cs,⟨_,_,_,v,_,a,c,_⟩,_⟩:=ht;subst e;rcases a.2 with⟨rfl,_⟩|⟨q,i,f,rfl,_,hh,_⟩
  ·cases c
  ·injection c with e;subst e;exact lt_heap hh
 refine⟨fr.alloc o,g,ht.on ((Fr.refl nob w).alloc o) (fun x=>x) (fun _ _ x=>x),fun k hk'=> ?_⟩;have d:(w.alloc o).heap.size=w.heap.size+1:=by simp
 rw[d];rcases hk' with h|h|rfl
 ·obtain⟨h1,h2,h3⟩:=hk k (.inl h);exact⟨h1,h2,by omega⟩
 ·obtain⟨h1,h2,h3⟩:=hk k (.inr h);exact⟨h1,h2,by omega⟩
 ·exact⟨by omega,fun e=>by have:=hg _ e.symm;omega,by omega⟩
theorem TxW.less{K':Nat→Prop}(h:TxW W0 K b out w)(hK:∀k,K' k→K k):TxW W0 K' b out w:=
 ⟨h.fr,let⟨g,ht,hk⟩:=h.tx;⟨g,ht,fun k x=>hk k (x.imp id (hK k))⟩⟩
theorem TxW.lt(h:TxW W0 K b out w):b<w.heap.size:=by
 obtain⟨_,_,⟨_,⟨hb,_⟩,_⟩,_⟩:=h;exact lt_heap hb
theorem tx_byte(c:Int)(x:UInt8)(hc:0≤c∧c≤255)(hx:c.toNat.toUInt8=x)(h:TxW W0 K b out w)(hlen:out.length≤140737488355327):
 Calls Tryz.prog 77 #[.pointer (some ⟨b,0,none⟩),.int .u8 c] w (TxA W0 K b (out++[x]) w .nilIface):=by
 obtain⟨fr,g,⟨cs,hb,hs⟩,hk⟩:=h;refine(ZcK _ b 0 cs out g c w hc hb (Zs2 hs) hlen).mono ?_;rintro e w' ⟨rfl,v',d,hf,hn⟩;subst hx;refine⟨rfl,⟨fr.trans hf (fun i hi x=> ?_),_,⟨_,d,by rw[ZY];exact hs⟩,fun k a=> ?_⟩,hf.mono (fun k _ x=> ?_)⟩
 ·rcases x with x|x
  ·exact(hk i (.inl hi)).1 x
  ·exact(hk i (.inl hi)).2.1 x
 ·obtain⟨h1,h2,h3⟩:=hk k a;refine⟨h1,fun e=> ?_,Nat.lt_of_lt_of_le h3 hf.size⟩;rcases hn k e.symm with x|x
  ·exact h2 x
  ·omega
 ·intro a;rcases x with x|x
  ·exact(hk k a).1 x
  ·exact(hk k a).2.1 x
theorem tx_str(l:List UInt8)(h:TxW W0 K b out w)(hlen:out.length+l.length≤140737488355328):
 Calls Tryz.prog 50 #[.pointer (some ⟨b,0,none⟩),.string ⟨l.toArray⟩] w (TxA W0 K b (out++l) w (.tuple #[.int .i64 l.length,.nilIface])):=by
 obtain⟨fr,g,⟨cs,hb,hs⟩,hk⟩:=h;refine(writeString_any _ b 0 cs out g l w hb (Zs2 hs) hlen).mono ?_;rintro e w' ⟨rfl,v',c,hf,hn⟩;refine⟨rfl,⟨fr.trans hf (fun i hi x=> ?_),_,⟨_,c,by rw[ZY];exact hs⟩,fun k a=> ?_⟩,hf.mono (fun k _ x=> ?_)⟩
 ·rcases x with x|x
  ·exact(hk i (.inl hi)).1 x
  ·exact(hk i (.inl hi)).2.1 x
 ·obtain⟨h1,h2,h3⟩:=hk k a;refine⟨h1,fun e=> ?_,Nat.lt_of_lt_of_le h3 hf.size⟩;rcases hn k e.symm with x|x
  ·exact h2 x
  ·omega
 ·intro a;rcases x with x|x
  ·exact(hk k a).1 x
  ·exact(hk k a).2.1 x
end
def sngT(n:Nat):List UInt8:=if n=10 then[92,110]else if Za0.has n then[92,n.toUInt8]else[n.toUInt8]
def Ztd(n:Nat):List UInt8:=if Za0.has n then[91,46,n.toUInt8,46,93]else[n.toUInt8]
theorem Ztq(n:Nat)(w:World)(hn:n<256):
 Calls Tryz.prog 194 #[.int .u8 (n:Int)] w fun e w'=>e=.returned (.bool (Za0.has n))∧Fr nob w w':=by
 have hc:=Zb5 ⟨#[112,117,110,99,116]⟩ _ rfl w;rw[show ZaD (Zak ⟨#[112,117,110,99,116]⟩)=Za0 from rfl]at hc;have f:Za0.fit:=Zdd _;have hh:=fun w=>Zj2 Za0 n w f hn;obtain⟨S,hS⟩:∃S,Za0=S:=⟨_,rfl⟩;rw[hS]at hc;simp only[hS]at hh⊢;have HC:=hid hc;have HH:=hid hh;clear hc hh f hS;go_enter Tryz.func194,Tryz.ntmps194;go_wp2_with fail;refine HC.out.mono ?_;rintro e w2 ⟨rfl,f2⟩;have g:=Zl (heap_alloc_new w2 (.cells #[.int .u64 S.a,.int .u64 S.b,.int .u64 S.c,.int .u64 S.d] 132));have F2:=hid (f2.alloc (.cells #[.int .u64 S.a,.int .u64 S.b,.int .u64 S.c,.int .u64 S.d] 132));clear f2;go_wp2_with fail;refine(HH.out _).mono ?_;rintro e w3 ⟨rfl,f3⟩;have F3:=hid (F2.out.trans' f3);clear f3;go_wp2;go_ret;exact⟨rfl,F3.out⟩
theorem Fr.toTx{W0 w w':World}{K:Nat→Prop}(f:Fr nob w w'):Fr (Txn W0 K) w w':=f.mono (fun _ _ x=>x.elim)
theorem Zvp{W0:World}{K:Nat→Prop}{b:Nat}{out:List UInt8}(l:List UInt8)(u:FrameMode)(w:World)(h:TxW W0 K b out w)(hlen:out.length+l.length≤140737488355328):
 CallsD Tryz.prog 50 #[.pointer (some ⟨b,0,none⟩),.string ⟨l.toArray⟩] u w fun e u' w'=>u'=u∧TxA W0 K b (out++l) w (.tuple #[.int .i64 l.length,.nilIface]) e w':=by
 obtain⟨fr,g,⟨cs,hb,hs⟩,hk⟩:=h;refine(Ztx _ b 0 cs out g l u w hb (Zs2 hs) hlen).mono ?_;rintro e u' w' ⟨rfl,rfl,v',c,hf,hn⟩;refine⟨rfl,rfl,⟨fr.trans hf (fun i hi x=> ?_),_,⟨_,c,by rw[ZY];exact hs⟩,fun k a=> ?_⟩,hf.mono (fun k _ x=> ?_)⟩
 ·rcases x with x|x
  ·exact(hk i (.inl hi)).1 x
  ·exact(hk i (.inl hi)).2.1 x
 ·obtain⟨h1,h2,h3⟩:=hk k a;refine⟨h1,fun e=> ?_,Nat.lt_of_lt_of_le h3 hf.size⟩;rcases hn k e.symm with x|x
  ·exact h2 x
  ·omega
 ·intro a;rcases x with x|x
  ·exact(hk k a).1 x
  ·exact(hk k a).2.1 x
section
variable {W0 w:World} {K:Nat→Prop} {b:Nat} {out:List UInt8}
theorem show_single(n:Nat)(hn:n<256)(h:TxW W0 K b out w)(hlen:out.length≤100000000000000):
 Calls Tryz.prog 169 #[.pointer (some ⟨b,0,none⟩),.int .u8 (n:Int)] w (TxA W0 K b (out++sngT n) w (.tuple #[])):=by
 have hp:=Ztq n w hn;have HT:=hid h;have HP:=hid hp;clear h hp;unfold sngT;by_cases a:n=10
 ·have t1:((n:Int)==10)=true:=by subst a;rfl
  rw[if_pos a];clear a;go_enter Tryz.func169,Tryz.ntmps169;go_wp2_with fail;refine(tx_str [92,110] HT.out (by simp;omega)).mono ?_;rintro e w1 ⟨rfl,h1,f1⟩;have H1:=hid h1;have F1:=hid f1;clear h1 f1;go_wp2;exact bodyPost_ret (results_none rfl _ _ _) rfl ⟨rfl,H1.out,F1.out⟩
 ·have t1:((n:Int)==10)=false:=by simp;omega
  rw[if_neg a];cases hc:Za0.has n with
  |true=>
   rw[if_pos rfl];rw[hc]at HP;clear hc;go_enter Tryz.func169,Tryz.ntmps169;go_wp2_with fail;refine HP.out.mono ?_;rintro e w1 ⟨rfl,f1⟩;have H1:=hid (HT.out.quiet f1);have F1:=hid (Fr.toTx (W0:=W0) (K:=K) f1);clear f1;go_wp2_with fail;refine(tx_byte 92 92 (by decide) rfl H1.out (by omega)).mono ?_;rintro e w2 ⟨rfl,h2,f2⟩;have H2:=hid h2;have F2:=hid (F1.out.trans f2 (fun i _ x=>x));clear h2 f2;go_wp2_with fail;refine(tx_byte n n.toUInt8 (by omega) rfl H2.out (by simp;omega)).mono ?_;rintro e w3 ⟨rfl,h3,f3⟩;have H3:=hid h3;have F3:=hid (F2.out.trans f3 (fun i _ x=>x));clear h3 f3;go_wp2
   go_end0
   refine⟨rfl,?_,F3.out⟩;have:=H3.out;rw[List.append_assoc]at this;exact this
  |false=>
   rw[if_neg (by decide)];rw[hc]at HP;clear hc;go_enter Tryz.func169,Tryz.ntmps169;go_wp2_with fail;refine HP.out.mono ?_;rintro e w1 ⟨rfl,f1⟩;have H1:=hid (HT.out.quiet f1);have F1:=hid (Fr.toTx (W0:=W0) (K:=K) f1);clear f1;go_wp2_with fail;refine(tx_byte n n.toUInt8 (by omega) rfl H1.out (by omega)).mono ?_;rintro e w3 ⟨rfl,h3,f3⟩;have H3:=hid h3;have F3:=hid (F1.out.trans f3 (fun i _ x=>x));clear h3 f3;go_wp2
   go_end0
   exact⟨rfl,H3.out,F3.out⟩
theorem show_inside(n:Nat)(hn:n<256)(h:TxW W0 K b out w)(hlen:out.length≤100000000000000):
 Calls Tryz.prog 173 #[.pointer (some ⟨b,0,none⟩),.int .u8 (n:Int)] w (TxA W0 K b (out++Ztd n) w (.tuple #[])):=by
 have hp:=Ztq n w hn;have HT:=hid h;have HP:=hid hp;clear h hp;unfold Ztd;cases hc:Za0.has n with
 |true=>
  rw[if_pos rfl];rw[hc]at HP;clear hc
  go_enter_defers Tryz.func173,Tryz.ntmps173
  go_wp2_with fail;refine HP.out.mono ?_;rintro e w1 ⟨rfl,f1⟩;have H1:=hid (HT.out.quiet f1);have F1:=hid (Fr.toTx (W0:=W0) (K:=K) f1);clear f1;go_wp2_with fail;refine(tx_str [91,46] H1.out (by simp;omega)).mono ?_;rintro e w2 ⟨rfl,h2,f2⟩;have H2:=hid h2;have F2:=hid (F1.out.trans f2 (fun i _ x=>x));clear h2 f2;go_wp2_with fail;refine(tx_byte n n.toUInt8 (by omega) rfl H2.out (by simp;omega)).mono ?_;rintro e w3 ⟨rfl,h3,f3⟩;have H3:=hid h3;have F3:=hid (F2.out.trans f3 (fun i _ x=>x));clear h3 f3;go_wp2;refine leaves_cons (f:=50) (args:= #[.pointer (some ⟨b,0,none⟩),.string ⟨#[46,93]⟩]) (by simp) (by simp[go_sem]) ?_;refine(Zvp [46,93] _ _ H3.out (by simp;omega)).mono ?_;rintro e u' w4 ⟨rfl,rfl,h4,f4⟩;refine⟨_,results_none rfl _ _ _,rfl,?_,F3.out.trans f4 (fun i _ x=>x)⟩;rw[List.append_assoc,List.append_assoc]at h4;exact h4
 |false=>
  rw[if_neg (by decide)];rw[hc]at HP;clear hc
  go_enter_defers Tryz.func173,Tryz.ntmps173
  go_wp2_with fail;refine HP.out.mono ?_;rintro e w1 ⟨rfl,f1⟩;have H1:=hid (HT.out.quiet f1);have F1:=hid (Fr.toTx (W0:=W0) (K:=K) f1);clear f1;go_wp2_with fail;refine(tx_byte n n.toUInt8 (by omega) rfl H1.out (by omega)).mono ?_;rintro e w3 ⟨rfl,h3,f3⟩;have H3:=hid h3;have F3:=hid (F1.out.trans f3 (fun i _ x=>x));clear h3 f3;go_wp2;exact⟨_,results_none rfl _ _ _,rfl,H3.out,F3.out⟩
end
theorem Zuh{s:S4}(hs:s.fit)(h:spl s.has 256=[]):Zbi s 0 false:=by
 have g:=ZsE s.has 256;rw[h]at g;refine .inl ⟨rfl,rfl,S4.ext_has hs ZaU fun e he=> ?_⟩;rw[ZcO];have:=g.cov e he;cases hp:s.has e with
 |false=>rfl
 |true=>obtain⟨x,hx,_⟩:=this.1 hp;cases hx
theorem ZtG{s:S4}{x:Nat×Nat}{r:List (Nat×Nat)}(h:spl s.has 256=x::r):Zbi s x.1 true:=by
 have g:=ZsE s.has 256;rw[h]at g;have hx:=g.in_ x (by simp);refine .inr ⟨rfl,by omega,(g.cov x.1 (by omega)).2 ⟨x,by simp,Nat.le_refl _,hx.1⟩,fun e he=> ?_⟩;cases hp:s.has e with
 |false=>rfl
 |true=>
  obtain⟨y,hy,h1,h2⟩:=(g.cov e (by omega)).1 hp;rcases List.mem_cons.1 hy with rfl|hy
  ·omega
  ·have:=(List.pairwise_cons.1 g.gap).1 y hy;omega
def lowS(s:S4):Nat:=match spl s.has 256 with
 |[]=>0
 |x::_=>x.1
theorem Zbi.lowS{s:S4}{d:Nat}{b:Bool}(hs:s.fit)(h:Zbi s d b):d=lowS s:=by
 unfold Go.Proofs.YtkfddjopbocpkaaGreatDoor.lowS;cases hp:spl s.has 256 with
 |nil=>exact(h.uniq (Zuh hs hp)).1
 |cons x r=>exact(h.uniq (ZtG hp)).1
theorem Zvs(s:S4):lowS s<256:=by
 unfold lowS;have g:=ZsE s.has 256;cases hp:spl s.has 256 with
 |nil=>simp
 |cons x r=>rw[hp]at g;have:=g.in_ x (by simp);show x.1<256;omega
def Zus(L:List (Nat×Nat)):Bool:=L.any fun x=>x.1==10||x.2==10
def ZsV(x:Nat×Nat):List UInt8:=Ztd x.1++(if x.1=x.2 then[]else 45::Ztd x.2)
def ZsL:List (Nat×Nat)→List UInt8
 |[]=>[]
 |x::r=>ZsV x++ZsL r
def ZtK(o:Bool)(s:S4):List UInt8:=91::((if o then[94]else[])++(ZsL (spl s.has 256)++[93]))
def setT(s:S4):List UInt8:=
 if s.len=256 then[46]else if s.len=1 then sngT (lowS s)
 else
  let o:=decide (128<s.len∨s.len=0)
  let s1:=if o then s.not else s
  let e:=Zus (spl s1.has 256)
  ZtK (o !=e) (if e then s1.not else s1)
theorem ZsQ(n:Nat):(Ztd n).length≤5:=by unfold Ztd;split<;>simp
theorem Zvt(n:Nat):(sngT n).length≤2:=by unfold sngT;split;simp;split<;>simp
theorem Zvu(x:Nat×Nat):(ZsV x).length≤11:=by
 unfold ZsV;have:=ZsQ x.1;have:=ZsQ x.2;rw[List.length_append];split
 ·simp;omega
 ·simp;omega
theorem ZsG:∀L:List (Nat×Nat),(ZsL L).length≤11*L.length
 |[]=>Nat.le_refl _
 |x::r=>by have:=ZsG r;have:=Zvu x;simp only[ZsL,List.length_append,List.length_cons];omega
theorem Ztl:∀L M:List (Nat×Nat),ZsL (L++M)=ZsL L++ZsL M
 |[],_=>rfl
 |x::r,M=>by simp only[List.cons_append,ZsL,Ztl r M,List.append_assoc]
theorem ZsM{L:List (Nat×Nat)}{k:Nat}(h:k<L.length):ZsL (L.take (k+1))=ZsL (L.take k)++ZsV L[k]:=by
 rw[List.take_succ_eq_append_getElem h,Ztl];simp[ZsL]
theorem Zvv(o:Bool)(s:S4):(ZtK o s).length≤2819:=by
 have:=ZsG (spl s.has 256);have:=spl_len s.has 256;unfold ZtK;cases o<;>simp<;>omega
theorem Zvw(s:S4):(setT s).length≤2819:=by
 unfold setT;split
 ·simp
 ·split
  ·have:=Zvt (lowS s);omega
  ·exact Zvv _ _
theorem ZtD.get{w:World}{v:Value}{L:List (Nat×Nat)}(h:ZtD w v L){k:Nat}(hk:k<L.length):∃g cap,v=.slice (some ⟨g,0,none⟩) L.length cap∧
 w.cell? ⟨g,k*2,none⟩=some (.int .u8 (L[k].1:Int))∧w.cell? ⟨g,k*2+1,none⟩=some (.int .u8 (L[k].2:Int)):=by
 have a:L≠[]:=fun e=>by rw[e]at hk;simp at hk
 obtain⟨g,cap,rfl,hg⟩:=h.slc a;have hl:=Zs1 L;unfold ZtD at h;exact⟨g,cap,rfl,(h.cellAt (k*2) (by omega)).trans (Zux L k hk).1,(h.cellAt (k*2+1) (by omega)).trans (Zux L k hk).2⟩
theorem Zui(a b:Nat)(w:World)(ha:a<256)(hb:b<256):
 Calls Tryz.prog 196 #[.agg #[.int .u8 (a:Int),.int .u8 (b:Int)]] w fun e w'=>e=.returned (.bool (a==10||b==10))∧Fr nob w w':=by
 have hf:=(Fr.refl nob w).alloc (.cells #[.int .u8 (a:Int),.int .u8 (b:Int)] 221);have hz:=heap_alloc_new w (.cells #[.int .u8 (a:Int),.int .u8 (b:Int)] 221);have k0:=cell_at (j:=0) (v:=.int .u8 (a:Int)) hz rfl;have k1:=cell_at (j:=1) (v:=.int .u8 (b:Int)) hz rfl;have HF:=hid hf;clear hf hz;have ea:((a:Int)==10)=(a==10):=by rw[Bool.eq_iff_iff];simp;omega
 have eb:((b:Int)==10)=(b==10):=by rw[Bool.eq_iff_iff];simp;omega
 cases h1:(a==10)with
 |true=>
  rw[h1]at ea;go_enter Tryz.func196,Tryz.ntmps196;go_wp2;go_ret;exact⟨rfl,HF.out⟩
 |false=>
  rw[h1]at ea;cases h2:(b==10)with
  |true=>
   rw[h2]at eb;go_enter Tryz.func196,Tryz.ntmps196;go_wp2;go_ret;exact⟨rfl,HF.out⟩
  |false=>
   rw[h2]at eb;go_enter Tryz.func196,Tryz.ntmps196;go_wp2;go_ret;exact⟨rfl,HF.out⟩
theorem Zuj(L:List (Nat×Nat))(u:Value)(w:World)(hl:L.length≤256)(hL:∀x∈L,x.1<256∧x.2<256)(h:ZtD w u L):
 Calls Tryz.prog 210 #[u,.func (.func 196) #[] #[]] w fun e w'=>(∃i:Int,e=.returned (.int .i64 i)∧(decide (0≤i))=Zus L)∧Fr nob w w':=by
 obtain⟨a,c,rfl⟩:=Zb (show w.ownsRow 0 221 2 u L.length (spC L)from h);have H:=hid h;clear h;have HL:=hid hL;clear hL;go_enter Tryz.func210,Tryz.ntmps210;go_wp2_with fail
 go_loopw [8] (fun i wr=>∃k:Nat,i=.int .i64 k∧k≤L.length∧Zus (L.take k)=false∧Fr nob w wr) (fun i _=>L.length-(intOf i).toNat)
 case atStart=>exact⟨0,rfl,Nat.zero_le _,rfl,Fr.refl _ _⟩
 case round=>
  obtain⟨k,rfl,hk,hn,fr⟩:=hrel;have HR:=hid (H.out.on fr (fun _ _ x=>x));have FR:=hid fr;have HN:=hid hn;clear fr hn;by_cases b:k<L.length
  ·obtain⟨g,v,he,m,o⟩:=HR.out.get b;injection he with e1 e2 e3;subst e1;subst e3;clear e2;have s:=hid (List.take_succ_eq_append_getElem b);have j:Zus (L.take (k+1))=(L[k].1==10||L[k].2==10):=by unfold Zus;rw[s.out,List.any_append,show(L.take k).any _=false from HN.out];simp
   have f:((L[k].1==10||L[k].2==10)=true)→Zus L=true:=fun h=>List.any_eq_true.2 ⟨_,List.getElem_mem b,h⟩;have hb:=HL.out L[k] (List.getElem_mem b);have HA:=hid j;have HM:=hid f;clear j f;obtain⟨⟨p,q⟩,n⟩:∃x,L[k]=x:=⟨_,rfl⟩;rw[n]at m o HA HM hb;simp only at m o HA HM hb;have HE:=hid (fun w=>Zui p q w hb.1 hb.2);clear n;go_wp2_with fail;refine(HE.out _).mono ?_;rintro e w2 ⟨rfl,f2⟩;have F2:=hid f2;clear f2;cases d:(p==10||q==10)with
   |true=>
    have r:=hid (HM.out d);clear d;go_wp2;go_ret;exact⟨⟨k,rfl,by rw[r.out];simp⟩,FR.out.trans' F2.out⟩
   |false=>
    have t:=hid (HA.out.trans d);clear d;go_wp2;go_roundw
    case rel=>exact⟨k+1,by go_num,by omega,t.out,FR.out.trans' F2.out⟩
    case measure=>simp[intOf];omega
  ·obtain rfl:k=L.length:=by omega
   have hT:=hid (List.take_of_length_le (l:=L) (Nat.le_refl _));go_wp2;go_ret;exact⟨⟨-1,rfl,by have:=HN.out;rw[hT.out]at this;rw[this];decide⟩,FR.out⟩
theorem ended_any(L:List (Nat×Nat))(u:Value)(w:World)(hl:L.length≤256)(hL:∀x∈L,x.1<256∧x.2<256)(h:ZtD w u L):
 Calls Tryz.prog 171 #[u] w fun e w'=>e=.returned (.bool (Zus L))∧Fr nob w w':=by
 have HI:=hid (Zuj L u w hl hL h);clear h;go_enter Tryz.func171,Tryz.ntmps171;go_wp2_with fail;refine(show Calls Tryz.prog 195 #[u,.func (.func 196) #[] #[]] w fun e w'=>e=.returned (.bool (Zus L))∧Fr nob w w' from ?_).mono ?_
 ·go_enter Tryz.func195,Tryz.ntmps195;go_wp2_with fail;refine HI.out.mono ?_;rintro e w1 ⟨⟨i,rfl,hi⟩,f1⟩;have F1:=hid f1;have HI:=hid hi;clear f1 hi;go_wp2;go_ret;exact⟨by rw[←HI.out];rfl,F1.out⟩
 ·rintro e w1 ⟨rfl,f1⟩;have F1:=hid f1;clear f1;go_wp2;go_ret;exact⟨rfl,F1.out⟩
end Go.Proofs.YtkfddjopbocpkaaGreatDoor
