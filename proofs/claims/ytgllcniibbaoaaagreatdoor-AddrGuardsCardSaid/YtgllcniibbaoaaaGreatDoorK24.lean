/- Lemmas of this claim. -/
import Derived.Great.BuildSlice
import Derived.Test.YtgllcniibbaoaaaGreatDoorK23
set_option linter.all false
set_option maxRecDepth 100000
set_option maxHeartbeats 24000000
namespace Go.Proofs.YtgllcniibbaoaaaGreatDoor
section
open Go.Lib (hid)
open Go.RowKit
attribute [-go_sem] storeVar loadVar Instr.buildSlice
attribute [local go_sem] Zx3 Zx4 Zx1 Zx2 Zyb Zx9
def mkD(ere:Bool)(sg:List UInt8):Bool:= !ere&&(sg==[92,43]||sg==[92,63])
section
variable {ere:Bool} {l sg:List UInt8} {m:Nat} {s:RxS} {t:Nd} (hs:sgn l s.at_=sg)
include hs
theorem rep_star(h:(sg==[42])=true):Ze8 prg ere l (m+1) s t=Ze8 prg ere l m ((if mkD ere sg then s.mark sg else s).to (s.at_+sg.length)) (.rep t 0 (-1)):=by
 obtain rfl:=eq_of_beq h;rw[Ze8,hs,if_pos (by rfl)];cases ere<;>rfl
theorem Zz0(h0:(sg==[42])=false)(h:(sg==opB ere 43)=true):Ze8 prg ere l (m+1) s t=Ze8 prg ere l m ((if mkD ere sg then s.mark sg else s).to (s.at_+sg.length)) (.rep t 1 (-1)):=by
 rw[Ze8,hs,if_neg (by rw[h0];decide),if_pos h];obtain rfl:=eq_of_beq h;cases ere<;>rfl
theorem ZzK(h0:(sg==[42])=false)(h1:(sg==opB ere 43)=false)(h:(sg==opB ere 63)=true):Ze8 prg ere l (m+1) s t=Ze8 prg ere l m ((if mkD ere sg then s.mark sg else s).to (s.at_+sg.length)) (.rep t 0 1):=by
 rw[Ze8,hs,if_neg (by rw[h0];decide),if_neg (by rw[h1];decide),if_pos h];obtain rfl:=eq_of_beq h;cases ere<;>rfl
theorem ZAn(h0:(sg==[42])=false)(h1:(sg==opB ere 43)=false)(h2:(sg==opB ere 63)=false)(h:(sg==opB ere 123)=true):Ze8 prg ere l (m+1) s t=
 match ZlJ l ere (s.at_+sg.length)with
 |none=>.inl (7,s.at_)
 |some (a,b,k)=>Ze8 prg ere l m ((if mkD ere sg then s.mark sg else s).to k) (.rep t a b):=by
 rw[Ze8,hs,if_neg (by rw[h0];decide),if_neg (by rw[h1];decide),if_neg (by rw[h2];decide),if_pos h];obtain rfl:=eq_of_beq h;cases ere<;>rfl
theorem ZAo(h0:(sg==[42])=false)(h1:(sg==opB ere 43)=false)(h2:(sg==opB ere 63)=false)(h3:(sg==opB ere 123)=false):Ze8 prg ere l (m+1) s t=.inr (t,s):=by
 rw[Ze8,hs,if_neg (by rw[h0];decide),if_neg (by rw[h1];decide),if_neg (by rw[h2];decide),if_neg (by rw[h3];decide)]
end
theorem ZAp:(Tryz.prog.info? 36).map (fun i=>(i.zero,i.size,i.bytes))=some (some (.agg zT9),9,88):=by kernel_rfl
theorem Zx5(w:World){cs:Array Value}(h:cs.size=9):(Instr.buildSlice 34 1 #[(0,.agg cs)]).run Tryz.prog w=.ok (.slice (some ⟨w.heap.size,0,none⟩) 1 1) (w.alloc (.cells cs 36)):=by
 obtain⟨i,hi,hz,h1,_⟩:=info_parts ZAp;refine run_buildSlice w _ 36 1 _ cs i (.agg zT9) Tryz.underlying34 hi hz (by rw[h1];decide) (by rw[h1];decide) ?_;have:=Great.fill_whole (s:=9) (by decide) [.agg cs] ((Array.range (1*i.size)).map ((Value.agg zT9).cells[·%(Value.agg zT9).cells.size]!)) (by intro v hv;simp at hv;subst hv;exact h) (by rw[h1];simp);rw[h1]at this⊢;simpa[Value.cells]using this
abbrev RL(w:World)(r t:Array Value):List (Nat×Array Value×TypeId):=[(w.heap.size,r,123),(w.heap.size+1,t,36),(w.heap.size+2,zR,123),(w.heap.size+3,zT9,36)]
abbrev rB(w:World):List Nat:=[w.heap.size,w.heap.size+1,w.heap.size+2,w.heap.size+3]
def Zz7(l:List UInt8)(ere:Bool)(F:Out Nd)(K:Nat)(O:Nat→Prop)(w:World)(n:Nat)(wr:World):Prop:=
 ∃(s:RxS) (ca:Option Addr) (cc:Nat) (ma:Option Addr) (mc:Nat) (t:Nd) (cs:List Value),
 Ze8 prg ere l n s t=F∧l.length<n+s.at_∧Sane l s∧t.rf.bulk+l.length≤K+s.at_∧LB w (RL w (rC l ere s ca cc ma mc 0 0) cs.toArray) wr∧
 RT (lbB O (rB w)) wr t.rf cs∧CSO (lbB O (rB w)) wr s.closed ca cc∧MSO (lbB O (rB w)) wr s.marks (.slice ma s.marks.length mc)
theorem Zzn(l:List UInt8)(ere:Bool)(s:RxS)(ca:Option Addr)(cc:Nat)(ma:Option Addr)(mc:Nat)(K:Nat)(O:Nat→Prop)(t:Nd)(cs:List Value)(w:World)(hO:∀k,O k→k<w.heap.size)
 (hs:Sane l s) (hl:l.length≤400) (hb:t.rf.bulk+l.length≤K+s.at_) (HT:RT O w t.rf cs) (HC:CSO O w s.closed ca cc) (HM:MSO O w s.marks (.slice ma s.marks.length mc)):
 Calls Tryz.prog 121 #[rV l ere s ca cc ma mc 0 0,.agg cs.toArray] w (Zy4 K O l ere (Ze8 prg ere l (l.length+1) s t) w):=by
 obtain⟨F,hF⟩:∃F,Ze8 prg ere l (l.length+1) s t=F:=⟨_,rfl⟩;rw[hF];have G:∀w4,LB w (RL w (rC l ere s ca cc ma mc 0 0) cs.toArray) w4→Zz7 l ere F K O w (l.length+1) w4:=fun w4 f=>
  ⟨s,ca,cc,ma,mc,t,cs,hF,by omega,hs,hb,f,(HT.wide (f.old O)).on f.fr,f.cso HC,f.mso HM⟩
 have HI:=hid G;clear G HT HC HM hF hs hb;unfold rV;go_enter Tryz.func121,Tryz.ntmps121;go_wp2_with fail
 go_loopg [] (l.length+1) (fun n wr=>Zz7 l ere F K O w n wr)
 case atStart=>exact HI.out _ ((((LB.nil w).push _ _ _ rfl |>.push _ _ _ (by simp)).push zR _ _ (by simp)).push zT9 _ _ (by simp))
 case round=>
  clear HI;obtain⟨s,ca,cc,ma,mc,t,cs,hF,hn,hs,hb,hL,hT,hC,hM⟩:=hrel;obtain⟨m,rfl⟩:∃m,gk=m+1:=⟨gk-1,by have:=hs.le;omega⟩;have d9:=hs.le;have h9:=hT.length;have o:=hid (show(Tryz.prog.info? 36).map (·.size)=some cs.toArray.size by rw[info_dT];simp[h9]);have a5:=hid (Zx0 hT.cell1);have a2:=hid (show zT9.size=cs.toArray.size by simp[h9]);have HF:=hid hF;have HS:=hid hs;have L0:=hid hL;have HT:=hid hT;have HC:=hid hC;have HM:=hid hM;have r0:=rule8 (hL.get 0 rfl) wr (Fr.refl nob wr);clear hF hs hL hT hC hM;obtain⟨sg,U⟩:∃sg,sgn l s.at_=sg:=⟨_,rfl⟩;have M:=hid (fun w'=>Zyf l ere s ca cc ma mc 0 0 s.at_ w' (by omega) (by omega));have b4:=Zkg l s.at_;rw[U]at M b4;have c:=hid U;obtain⟨d6,d7⟩:=b4;have e6:IntKind.i64.wrap ((s.at_:Int)+sg.length)=((s.at_+sg.length:Nat):Int):=by rw[IntWalk.i64_in _ (by omega)];rfl
  clear U;go_wp2_with(refine L0.out.ld 0 rfl rfl _ rfl rfl Tryz.underlying123 rfl info_dR ?_);refine(M.out wr).mono ?_;rintro e w1 ⟨rfl,f1⟩;have L1:=hid (L0.out.on f1);have r1:=rule8 (L1.out.get 0 rfl);have a3:=hid (HT.out.on f1);have X:=hid (HC.out.on f1);have a0:=hid (HM.out.on f1);clear f1 r0 L0 HT HC HM;go_wp2_with fail;refine region_fr 7 (by kernel_rfl) (by kernel_rfl) ?_;simp only[List.take_succ_cons,List.take_zero,List.drop_succ_cons,List.drop_zero]
  repeat(quiet_step (fail))
  refine wpQuiet_nil ?_;intro w2 f2;have L2:=hid (L1.out.on f2);have C:=hid (a3.out.on f2);have q:=hid (X.out.on f2);have u:=hid (a0.out.on f2);clear f2 r1 L1 a3 X a0;have B:=hid (fun(b:UInt8) (w':World)=>Zzq l ere s ca cc ma mc 0 0 b w');go_upto_block 2 with(fail)
  go_cut [7,8,9] (fun v7 v8 v9 w'=>∃(mn mx:Int) (nx:Nat),v7=.int .i64 mn∧v8=.int .i64 mx∧v9=.int .i64 nx∧s.at_<nx∧nx≤l.length∧Ze8 prg ere l m ((if mkD ere sg then s.mark sg else s).to nx) (.rep t mn mx)=F∧Fr nob w2 w')
  case first=>
   have rel:∀(mn mx:Int) (nx:Nat),sg≠[]→nx=s.at_+sg.length→Ze8 prg ere l (m+1) s t=Ze8 prg ere l m ((if mkD ere sg then s.mark sg else s).to (s.at_+sg.length)) (.rep t mn mx)→s.at_<nx∧nx≤l.length∧Ze8 prg ere l m ((if mkD ere sg then s.mark sg else s).to nx) (.rep t mn mx)=F:=fun mn mx nx h0 hx e=>by
    have:=List.length_pos_iff.2 h0;subst hx;exact⟨by omega,by omega,by rw[←e];exact HF.out⟩
   have Q:=hid rel;clear rel;rcases Bool.eq_false_or_eq_true (sg==[42])with e0|e0
   ·have h1:=Q.out _ _ _ (by intro e;rw[e]at e0;cases e0) rfl (rep_star c.out e0);go_wp2;go_meet
    case rel=>exact⟨0, -1,_,rfl,rfl,by first|rfl|go_num,h1.1,h1.2.1,h1.2.2,Fr.refl _ _⟩
   go_wp2_with(refine L2.out.ld 0 rfl rfl _ rfl rfl Tryz.underlying123 rfl info_dR ?_);refine(B.out 43 _).mono ?_;rintro e w3 ⟨rfl,f3⟩;have L3:=hid (L2.out.on f3);have F3:=hid f3;clear f3;have b2:∀(b:UInt8),(sg==opB ere b)=true→sg≠[]:=fun b h e=>by rw[e]at h;cases ere<;>cases h
   rcases Bool.eq_false_or_eq_true (sg==opB ere 43)with e1|e1
   ·have h1:=Q.out _ _ _ (b2 _ e1) rfl (Zz0 c.out e0 e1);go_wp2;go_meet
    case rel=>exact⟨1, -1,_,rfl,rfl,by first|rfl|go_num,h1.1,h1.2.1,h1.2.2,F3.out⟩
   go_wp2_with(refine L3.out.ld 0 rfl rfl _ rfl rfl Tryz.underlying123 rfl info_dR ?_);refine(B.out 63 _).mono ?_;rintro e w4 ⟨rfl,f4⟩;have L4:=hid (L3.out.on f4);have F4:=hid (F3.out.trans' f4);clear f4;rcases Bool.eq_false_or_eq_true (sg==opB ere 63)with e2|e2
   ·have h1:=Q.out _ _ _ (b2 _ e2) rfl (ZzK c.out e0 e1 e2);go_wp2;go_meet
    case rel=>exact⟨0,1,_,rfl,rfl,by first|rfl|go_num,h1.1,h1.2.1,h1.2.2,F4.out⟩
   go_wp2_with(refine L4.out.ld 0 rfl rfl _ rfl rfl Tryz.underlying123 rfl info_dR ?_);refine(B.out 123 _).mono ?_;rintro e w5 ⟨rfl,f5⟩;have L5:=hid (L4.out.on f5);have F5:=hid (F4.out.trans' f5);clear f5;rcases Bool.eq_false_or_eq_true (sg==opB ere 123)with e3|e3
   ·have a:=(ZAn (t:=t) (m:=m) c.out e0 e1 e2 e3).symm.trans HF.out;have i:=Zzl l ere s ca cc ma mc 0 0 (s.at_+sg.length) w5 (by omega) (by omega);cases p:ZlJ l ere (s.at_+sg.length)with
    |none=>
     rw[p]at a i;simp only at a;have j:=hid a;have J:=hid i;clear a i p;go_wp2_with(refine L5.out.ld 0 rfl rfl _ rfl rfl Tryz.underlying123 rfl info_dR ?_);refine J.out.mono ?_;rintro e w6 ⟨rfl,f6⟩;have L6:=hid (L5.out.on f6);have F6:=hid (F5.out.trans' f6);clear f6;unfold ZAv;go_wp2_with fail;refine L6.out.ix 6 2 5 (rC l ere s ca cc ma mc 7 s.at_) rfl rfl (by kernel_rfl) (by kernel_rfl) ?_;simp only[List.take_succ_cons,List.take_zero,List.drop_succ_cons,List.drop_zero];refine ZzJ L6.out 0 rfl rfl rfl _ rfl rfl Tryz.underlying123 rfl info_dR (by simp) ?_;refine ix_val (.pointer (some ⟨w.heap.size,2,none⟩)) rfl rfl (fun W=>by go_simp) ?_;refine ZyF L6.out 0 rfl 2 rfl rfl rfl _ rfl rfl Zx3 (by simp) ?_;refine ZAk (fun W=>by go_simp) rfl rfl (fun W f=>d_fail_lit l ere s ca cc ma mc 7 s.at_ W) ?_;refine ZzJ L6.out 1 rfl rfl rfl _ rfl rfl Tryz.underlying36 rfl o.out (by simp) ?_
     refine Zy5 rfl rfl _ _ rfl rfl rfl info_dR (one_dR l ere s ca cc ma mc 7 s.at_) rfl ?_;refine Zy6 ?_;intro w7 h7;obtain⟨l7,o7,f7⟩:=L6.out.st1 O 2 rfl h7 rfl;have L7:=hid l7;have N:=hid ((C.out.on F6.out).step f7 (by simp));have H:=hid ((q.out.on F6.out).step o7);have L:=hid ((u.out.on F6.out).step o7);clear l7 o7 f7 h7;go_wp2_with(refine L7.out.sto O 3 rfl rfl _ _ rfl rfl rfl o.out a2.out a5.out ?_;intro w8 l8 o8 f8;have L8:=hid l8;have P:=hid (N.out.step f8 (by simp));have Y:=hid (H.out.step o8);have a1:=hid (L.out.step o8);clear l8 o8 f8);rw[←j.out];refine bodyPost_ret (ret_RT rfl rfl rfl (L8.out.get 2 rfl) (L8.out.get 3 rfl) rfl (by simp[h9])) rfl ?_;exact⟨L8.out.fr,s,ca,cc,ma,mc,_,cs,rfl,P.out.wide (fun k _ x=>.inl x),by omega,by decide⟩
    |some z=>
     obtain⟨x,y,k⟩:=z;rw[p]at a i;simp only at a;obtain⟨d8,c9⟩:=ZkE p;have j:=hid a;have J:=hid i;clear a i p;go_wp2_with(refine L5.out.ld 0 rfl rfl _ rfl rfl Tryz.underlying123 rfl info_dR ?_);refine J.out.mono ?_;rintro e w6 ⟨rfl,f6⟩;have F6:=hid (F5.out.trans' f6);clear f6;unfold ZAv;go_wp2;go_meet
     case rel=>exact⟨x,y,k,rfl,rfl,rfl,by omega,c9,j.out,F6.out⟩
   ·have a:=(ZAo (t:=t) (m:=m) c.out e0 e1 e2 e3).symm.trans HF.out;have j:=hid a;clear a;go_wp2_with fail;refine L5.out.ix 3 2 2 (rC l ere s ca cc ma mc 0 0) rfl rfl (by kernel_rfl) (by kernel_rfl) ?_;simp only[List.take_succ_cons,List.take_zero,List.drop_succ_cons,List.drop_zero];refine ZzJ L5.out 0 rfl rfl rfl _ rfl rfl Tryz.underlying123 rfl info_dR (by simp) ?_;refine ZzJ L5.out 1 rfl rfl rfl _ rfl rfl Tryz.underlying36 rfl o.out (by simp) ?_;refine Zy5 rfl rfl _ _ rfl rfl rfl info_dR (one_dR l ere s ca cc ma mc 0 0) rfl ?_;refine Zy6 ?_;intro w7 h7;obtain⟨l7,o7,f7⟩:=L5.out.st1 O 2 rfl h7 rfl;have L7:=hid l7;have N:=hid ((C.out.on F5.out).step f7 (by simp));have H:=hid ((q.out.on F5.out).step o7);have L:=hid ((u.out.on F5.out).step o7);clear l7 o7 f7 h7;go_wp2_with(refine L7.out.sto O 3 rfl rfl _ _ rfl rfl rfl o.out a2.out a5.out ?_;intro w8 l8 o8 f8;have L8:=hid l8;have P:=hid (N.out.step f8 (by simp));have Y:=hid (H.out.step o8);have a1:=hid (L.out.step o8);clear l8 o8 f8)
    rw[←j.out];refine bodyPost_ret (ret_RT rfl rfl rfl (L8.out.get 2 rfl) (L8.out.get 3 rfl) rfl (by simp[h9])) rfl ?_;exact⟨L8.out.fr,ca,cc,ma,mc,cs,rfl,P.out.wide (fun k _ x=>.inl x),Y.out.wide (fun k _ x=>.inl x),a1.out.wide (fun k _ x=>.inl x)⟩
  case rest=>
   obtain⟨mn,mx,nx,rfl,rfl,rfl,e4,d0,a8,f2⟩:=hcut;have L3:=hid (L2.out.on f2);have D:=hid (C.out.on f2);have r:=hid (q.out.on f2);have A:=hid (u.out.on f2);have I:=hid a8;have r3:=rule8 (L3.out.get 0 rfl) wc (Fr.refl nob wc);clear f2 a8 L2 C q u HF B M;obtain⟨mk,S⟩:∃mk,mkD ere sg=mk:=⟨_,rfl⟩;rw[S]at I;have c2:=hid S;clear S;obtain⟨w3,b5⟩:∃w3,wc=w3:=⟨_,rfl⟩;rw[b5]at L3 D r A r3⊢;clear b5 wc
   go_upto_region 16 with(fail)
   go_cut [71] (fun v w'=>v=.bool mk∧w'=w3)
   case first=>
    rcases Bool.eq_false_or_eq_true (sg==[92,43])with e1|e1
    all_goals
     rcases Bool.eq_false_or_eq_true (sg==[92,63])with e2|e2
     all_goals
      cases ere
      all_goals
       go_wp2;go_meet
       case rel=>exact⟨by rw[←c2.out];simp[mkD,e1,e2],rfl⟩
   case rest=>
    obtain⟨rfl,rfl⟩:=hcut;clear r3;have e5:=HS.out.mr;go_upto_if 71 with(fail)
    go_cut [] (fun w'=>∃d g,LB w (RL w (rC l ere (if mk then s.mark sg else s) ca cc d g 0 0) cs.toArray) w'∧RT (lbB O (rB w)) w' t.rf cs∧CSO (lbB O (rB w)) w' s.closed ca cc∧MSO (lbB O (rB w)) w' (if mk then s.mark sg else s).marks (.slice d (if mk then s.mark sg else s).marks.length g))
    case first=>
     cases mk with
     |false=>
      go_wp2;go_meet
      case rel=>exact⟨ma,mc,L3.out,D.out,r.out,A.out⟩
     |true=>
      go_wp2_with(refine L3.out.ld 0 rfl rfl _ rfl rfl Tryz.underlying123 rfl info_dR ?_);refine(d_mark_lit l ere s ca cc ma mc sg _ (by omega) A.out.at).mono ?_;rintro e wM ⟨d,g,rfl,b1,fM⟩;have LM:=hid (L3.out.on fM);have c3:=hid (MSO.of_lo b1 (L3.out.below hO));have c7:=hid (D.out.on fM);have b9:=hid (r.out.on fM);clear b1 fM;go_wp2_with(refine LM.out.sto O 0 rfl rfl _ _ rfl rfl rfl info_dR rfl (one_dR l ere (s.mark sg) ca cc d g 0 0) ?_;intro wN l9 z1 z2;have LN:=hid l9;have c4:=hid (c3.out.step z1);have c8:=hid (c7.out.step z2 (by simp));have c0:=hid (b9.out.step z1);clear l9 z1 z2);go_meet
      case rel=>exact⟨d,g,LN.out,c8.out,c0.out,c4.out⟩
    case rest=>
     obtain⟨d,g,l4,a9,a6,R⟩:=hcut;obtain⟨a4,E,V⟩:=RxS.mk_at (m:=mk) (s:=s) (t:=sg);have b6:(if mk then s.mark sg else s).marks.length≤s.at_+1:=by cases mk<;>simp[RxS.mark]<;>omega
     obtain⟨s1,b3⟩:∃s1,(if mk then s.mark sg else s)=s1:=⟨_,rfl⟩;rw[b3]at l4 R a4 E V b6 I;have b0:=l4.below hO;have L4:=hid l4;have c6:=hid a9;have b8:=hid a6;have c1:=hid R;have b7:=hid b0;have e1:=fun W=>Zx5 W (cs:=cs.toArray) (by simp[h9]);have c5:Hid (Sane l (s1.to nx)):=hid ⟨d0,by show s1.marks.length≤nx;omega,by show s1.closed.length≤nx;rw[E];have:=HS.out.cl;omega,by show s1.opened≤nx;rw[V];have:=HS.out.op;omega⟩;have Z:=hid E;clear b3 a4 E V b6 l4 a9 a6 R b0 L3 D r A;go_wp2_with(first|(refine L4.out.ld 1 rfl rfl _ rfl rfl Tryz.underlying36 rfl o.out ?_)|(refine(L4.out.on ((Fr.refl nob _).alloc (.cells cs.toArray 36))).sto O 1 rfl rfl _ _ rfl rfl rfl info_dT (by simp[h9]) (one_dT _ _ _ _ _ _ _ _ _ _ _) ?_;intro w5 l5 o5 f5;have L5:=hid l5;have r5:=rule8 (L5.out.get 0 rfl) w5 (Fr.refl nob w5);have O5:=hid o5;have F5:=hid f5;clear l5 o5 f5))
     go_roundg m
     case rel=>
      obtain⟨d1,d2,d3⟩:=L5.out.cell' O 0 rfl 2 (.int .i64 (nx:Nat));have d5:=ST.one c6.out b7.out 36 rfl;have d4:RT (lbB O (rB w)) (wc.alloc (.cells cs.toArray 36)) (Nd.rep t mn mx).rf (nine 4 S4.zero (.slice (some ⟨wc.heap.size,0,none⟩) 1 1) mn mx 0):=Zw0.2 ⟨_,rfl,d5⟩;have f4:=(Fr.refl nob wc).alloc (.cells cs.toArray 36);have a7:=((b8.out.on f4).step O5.out).step d2;rw[←Z.out]at a7;exact⟨s1.to nx,ca,cc,d,g,.rep t mn mx,_,I.out,by show l.length<m+nx;omega,c5.out,by show(1+(t.rf.bulk+0))+l.length≤K+nx;omega,d1,(d4.step F5.out (by simp)).step d3 (by simp),a7,((c1.out.on f4).step O5.out).step d2⟩
     case measure=>omega
end
section
open Go.RowKit
theorem ZyG(w:World):(Instr.buildSlice 81 0 #[]).run Tryz.prog w=.ok (.slice (some ⟨w.heap.size,0,none⟩) 0 0) (w.alloc (.cells #[] 3)):=by simp[go_sem]
theorem ZyH(k:Int)(w:World):(Instr.buildSlice 81 1 #[(0,.int .i64 k)]).run Tryz.prog w=.ok (.slice (some ⟨w.heap.size,0,none⟩) 1 1) (w.alloc (.cells #[.int .i64 k] 3)):=by simp[go_sem]
theorem ZyI{w:World}{b j n c:Nat}{a:Option Addr}(hc:(w.cell? ⟨b,j,none⟩).isSome=true)(hf:w.frozen? ⟨b,j,none⟩=false):
 Sem.run Tryz.prog (storeVar 81 ⟨b,j,none⟩ (.slice a n c)) w=.ok () (w.setCell ⟨b,j,none⟩ (.slice a n c)):=by
 obtain⟨old,ho⟩:=Option.isSome_iff_exists.1 hc;have d:(Value.slice a n c).cells= #[.slice a n c]:=rfl;have hi:(Tryz.prog.info? 81).map (·.size)=some 1:=by kernel_rfl
 cases hq:Tryz.prog.info? 81 with
 |none=>rw[hq]at hi;cases hi
 |some q=>
  have hs:q.size=1:=by simpa[hq]using hi
  simp[storeVar,sizeOf,typeInfo,hq,d,hs,go_sem,ho,hf]
theorem wpl_append_si{ops:Array Oper}{rest:List Oper}{o:Oper}{a:Act}{w:World}{Q:Exit→Act→World→Prop}(hg:o.guard=none)(s x:Operand)(hop:o.op=Op.call {callee:=Callee.builtin Builtin.append,args:= #[s,x],argTypes:= #[81,81]})
 (l m:List Int) (v ux:Value) (hs:a.eval s=v) (hown:w.ownsRow 0 3 1 v l.length (l.map (Value.int .i64))) (hx:a.eval x=ux) (hm:SI w m ux) (hb:l.length+m.length≤6000000)
 (hK:∀v' w',w'.ownsRow 0 3 1 v' (l++m).length ((l++m).map (Value.int .i64))→Fr (fun k=>v.ownBlock=some k) w w'→(∀k,v'.ownBlock=some k→v.ownBlock=some k∨w.heap.size≤k)→wpList Tryz.prog ops Q rest (a.put o.dst v') w'):wpList Tryz.prog ops Q (o::rest) a w:=
 wpList_plain hg fun K hk=>by
  have h:=ZwA (ops:=ops) (E:=True) hg s x hop l m v ux hs hown hx hm hb (K:=K) (Q:=Q) (fun v' w' h1 h2 h3=>hk _ _ (hK v' w' h1 h2 h3));rw[if_pos (by simp[Region.wanted,hg])]at h;exact h
theorem ZzL{l:List UInt8}{k:Nat}(h:k<l.length):(∃b,sgn l k=[b])∨∃c,sgn l k=[92,c]∧k+2≤l.length:=by
 by_cases a:l[k]=92
 ·by_cases h2:k+1<l.length
  ·exact .inr ⟨_,Zzy h2 a,h2⟩
  ·exact .inl ⟨_,Zy3 h (by omega)⟩
 ·exact .inl ⟨_,Zzz h a⟩
def ZyY(l:List UInt8)(ere:Bool)(K:Nat)(n:Int)(f:RxS→Out Nd):Prop:=∀(s:RxS) (ca:Option Addr) (cc:Nat) (ma:Option Addr) (mc:Nat) (O:Nat→Prop) (w:World),(∀k,O k→k<w.heap.size)→Sane l s→CSO O w s.closed ca cc→MSO O w s.marks (.slice ma s.marks.length mc)→
 Calls Tryz.prog 56 #[rV l ere s ca cc ma mc 0 0,.int .i64 n] w (Zy4 K O l ere (f s) w)
abbrev AL(w:World)(r:Array Value):List (Nat×Array Value×TypeId):=[(w.heap.size,r,123),(w.heap.size+1,zR,123),(w.heap.size+2,zT9,36)]
abbrev AS(w:World)(r:Array Value)(n:Nat)(c:S4):List (Nat×Array Value×TypeId):=AL w r++[(n,ZzM c,33)]
theorem SI.lo{w w':World}{l:List Int}{u:Value}{B:Nat}(h:w.ownsRow 0 3 1 u l.length (l.map (Value.int .i64)))(hb:∀k,u.ownBlock=some k→B≤k)(g:Lo B w w'):SI w' l u:=by
 obtain⟨_,h⟩:=h;rcases h with⟨rfl,h0⟩|⟨r,b,c,rfl,_,hr,hn,_,_,a⟩
 ·exact .inl ⟨rfl,List.length_eq_zero_iff.1 h0⟩
 ·refine .inr ⟨r,0,b,rfl,fun j x hj=> ?_⟩;have:(l.map (Value.int .i64))[j]? =some (.int .i64 x):=by simp[hj]
  rw[←a,List.getElem?_take]at this;split at this
  ·exact cell_at (g r _ (hb r (by simp[Value.ownBlock])) hr) (by simpa using this)
  ·cases this
theorem Zy4.open{K:Nat}{O:Nat→Prop}{bs:List Nat}{l:List UInt8}{ere:Bool}{F:Out Nd}{w3 w4:World}{x:Ending}(h:Zy4 K (lbB O bs) l ere F w3 x w4):
 ∃(r:Array Value) (cs:Array Value),x=.returned (.tuple #[.agg r,.agg cs])∧r.size=8∧r.all (·.oneCell')=true∧cs.size=9∧cs.all (·.oneCell')=true∧
  ∀w0 W,Fr nob w0 W→Fr (fun k=>k∈bs) w4 W→Zy4 K O l ere F w0 (.returned (.tuple #[.agg r,.agg cs])) W:=by
 obtain⟨f,h⟩:=h
 match F,h with
 | .inl (e,p),⟨s',ca,cc,ma,mc,t,cs,hx,h1,h2,h3⟩=>
   refine⟨_,_,hx,rfl,one_dR _ _ _ _ _ _ _ _ _,by simp[h1.length],Zx0 h1.cell1,fun w0 W f0 fW=>⟨f0,s',ca,cc,ma,mc,t,cs,rfl,?_,h2,h3⟩⟩;exact(RT.keep fW (fun k _ e=>.inr e) (fun _ _ h=>h) _ _ h1).wide (fun k _ x=>.inl x)
 | .inr (t,s'),⟨ca,cc,ma,mc,cs,hx,h1,h2,h3⟩=>
   refine⟨_,_,hx,rfl,one_dR _ _ _ _ _ _ _ _ _,by simp[h1.length],Zx0 h1.cell1,fun w0 W f0 fW=>⟨f0,ca,cc,ma,mc,cs,rfl,?_,?_,?_⟩⟩
   ·exact(RT.keep fW (fun k _ e=>.inr e) (fun _ _ h=>h) _ _ h1).wide (fun k _ x=>.inl x)
   ·exact(h2.step (.of_fr fW (fun k _ e=>.inr e))).wide (fun k _ x=>.inl x)
   ·exact(h3.step (.of_fr fW (fun k _ e=>.inr e))).wide (fun k _ x=>.inl x)
end
end Go.Proofs.YtgllcniibbaoaaaGreatDoor
