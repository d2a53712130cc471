/- Lemmas of this claim. -/
import Derived.Test.YtkfddjopbocpkaaGreatDoorM09
set_option linter.unusedVariables false
set_option linter.unusedSimpArgs false
set_option maxRecDepth 100000
set_option maxHeartbeats 4000000
namespace Go.Proofs.YtkfddjopbocpkaaGreatDoor
open Go.Lib (hid)
open Go.RowKit
def ZoT(l:List UInt8)(W0:World)(deep:Nat)(C:Option (RxS→Out Nd)):Prop:=
 ∀b s S (O:Nat→Prop) w (p:Nat),(∀k,O k→k<w.heap.size)→Sane l s→s.opened<s.at_→Wd W0 S w→Rdg b l s S w→Calls Tryz.prog 266 #[.pointer (some ⟨b,0,none⟩),.int .i64 p,.int .i64 deep] w fun x w'=>ZbO b l S O w (Zbs prg l C p s) x w'
theorem Zf4{l:List UInt8}{C:Option (RxS→Out Nd)}{s:RxS}(h:l.length≤s.at_+1):ZlI prg l C s=.inl (11,s.at_):=by
 unfold ZlI;rw[List.getElem?_eq_none h]
theorem Zkw{l:List UInt8}{C:Option (RxS→Out Nd)}{s:RxS}(h:s.at_+1<l.length):ZlI prg l C s=
 if ahd l s.at_ [92,40]then Zbs prg l C s.at_ (s.go 2)
 else if ahd l s.at_ [92,41]then .inl (8,s.at_)
 else if 49≤l[s.at_+1].toNat∧l[s.at_+1].toNat≤57 then
  (if s.closed.contains (l[s.at_+1].toNat-48)then .inr (.back ((l[s.at_+1].toNat-48:Nat):Int),s.go 2)else .inl (9,s.at_))
 else if(Zim l[s.at_+1]).2.2 then .inr (.one (Zim l[s.at_+1]).1,(if(Zim l[s.at_+1]).2.1 then s.mark [92,l[s.at_+1]]else s).go 2)else .inl (2,s.at_):=by
 unfold ZlI;rw[List.getElem?_eq_getElem h];simp only[prg];split
 ·rfl
 ·split
  ·rfl
  ·split
   ·rfl
   ·unfold Zim;cases ZjI l[s.at_+1]with
    |none=>rfl
    |some q=>obtain⟨c,m⟩:=q;rfl
theorem Zkx(b:Nat)(l:List UInt8)(W0:World)(deep:Nat)(C:Option (RxS→Out Nd))(s:RxS)(S O:Nat→Prop)(w:World)(hO:∀k,O k→k<w.heap.size)(hl:l.length≤100000)(hd:deep≤12)(hG:ZoT l W0 deep C)
 (hs:Sane l s) (ha:s.at_<l.length) (h92:l[s.at_]=92) (hW:Wd W0 S w) (h:Rdg b l s S w):
 Calls Tryz.prog 258 #[.pointer (some ⟨b,0,none⟩),.int .i64 deep] w fun x w'=>ZbO b l S O w (ZlI prg l C s) x w':=by
 obtain⟨R,hR⟩:∃R,ZlI prg l C s=R:=⟨_,rfl⟩;rw[hR];have hr:=h;obtain⟨cv,mv,hB⟩:=h;have rr:=Zd hB.blk;have HR:=hid hr;have HG:=hid hG;have HS:=hid hs;have HW:=hid hW;have HB:=hid hB;have b9:(deep:Int)≤12:=by omega
 have a9:=hs.op;have b1:=hs.mr;have a7:=hs.cl;clear hr hG hs hW hB hd;by_cases K:s.at_+1<l.length
 ·rw[Zkw K]at hR;obtain⟨x,hx⟩:∃x,l[s.at_+1]=x:=⟨_,rfl⟩;rw[hx]at hR;have a5:¬(l.length:Int)≤(s.at_:Int)+1:=by omega
  have HT:=hid (ZbN b l [92,40] s S w hl (by decide) (by omega) HR.out);cases e1:ahd l s.at_ [92,40]with
  |true=>
   rw[if_pos e1]at hR;rw[e1]at HT;simp only[if_true]at HT;go_enter Tryz.func258,Tryz.ntmps258;go_wp2_with fail;with_reducible refine(HT.out).mono ?_
   rintro e w1 ⟨rfl,r1,t1⟩;have hg:=HG.out b (s.go 2) S O w1 s.at_ (fun k hk=>Nat.lt_of_lt_of_le (hO k hk) t1.fr.size) ⟨by show s.at_+2≤_;omega,by show s.marks.length≤s.at_+2;omega,by show s.closed.length≤s.at_+2;omega,by show s.opened≤s.at_+2;omega⟩ (by show s.opened<s.at_+2;omega) (HW.out.stp t1) r1;rw[hR]at hg;have a3:=hid hg;have T1:=hid t1;clear hg r1 t1 rr e1 hR;go_wp2_with fail;with_reducible refine(a3.out).mono ?_
   cases R with
   |inl z=>
    obtain⟨z1,z2⟩:=z;rintro e w2 ⟨rfl,S2,G⟩;exact⟨rfl,rfl,S2,T1.out.trans G⟩
   |inr z=>
    obtain⟨t,s2⟩:=z;rintro e w2 ⟨i,y,S2,rfl,W,r2,G⟩;have a4:=hid W;have R2:=hid r2;have Z:=hid (T1.out.trans G);clear W r2 G;go_wp2;go_ret;exact⟨_,_,S2,rfl,a4.out,R2.out,Z.out⟩
  |false=>
   rw[if_neg (by rw[e1];decide)]at hR;rw[e1]at HT;simp only[Bool.false_eq_true,if_false]at HT;go_enter Tryz.func258,Tryz.ntmps258;go_wp2_with fail;with_reducible refine(HT.out).mono ?_
   rintro e w1 ⟨rfl,r1,t1⟩;have hA:=Zcg b l [92,41] s S w1 (by omega) (by decide) (by omega) r1;obtain⟨b6,b4,N⟩:=r1;have Y:=hid N;have T1:=hid t1;clear t1 rr e1 N;cases e2:ahd l s.at_ [92,41]with
   |true=>
    rw[if_pos e2]at hR;subst hR;rw[e2]at hA;have HA:=hid hA;clear hA e2;go_wp2_with(first|((with_reducible refine(HA.out).mono ?_);rintro e w2 ⟨rfl,f2⟩;have F2:=hid f2;clear f2)|(go_at_call 231;(with_reducible refine(br_fail 8 _ _).mono ?_);rintro e w' ⟨rfl,rfl⟩));exact⟨rfl,rfl,S,T1.out.trans (Stp.of F2.out)⟩
   |false=>
    rw[if_neg (by rw[e2];decide)]at hR;rw[e2]at hA;have HA:=hid hA;clear hA e2;go_wp2_with fail;with_reducible refine(HA.out).mono ?_
    rintro e w2 ⟨rfl,f2⟩;have F:=Y.out.on f2;have U:=Zd F.blk;obtain⟨a2,a8,a0⟩:=Zb F.cl;subst a0;have r:=hid F;have T2:=hid (T1.out.trans (Stp.of f2));clear F f2;have b8:(s.at_:Int)+1<l.length:=by omega
    by_cases hd:49≤x.toNat∧x.toNat≤57
    ·rw[if_pos hd]at hR;obtain⟨I,J⟩:=hd;obtain⟨n,hn⟩:∃n,x.toNat=n+48:=⟨x.toNat-48,by omega⟩;rw[hn]at hR I J;rw[show n+48-48=n from by omega]at hR;have b7:IntKind.u8.wrap (n:Int)=n:=IntWalk.u8_in _ (by omega);have hN:=Zhi s.closed n _ w2 (by omega) r.out.cl;cases hq:s.closed.contains n with
     |true=>
      rw[if_pos hq]at hR;subst hR;rw[hq]at hN;have HN:=hid hN;clear hN hq;go_wp2_with((with_reducible refine(HN.out).mono ?_);rintro e w3 ⟨rfl,rfl⟩);go_ret;exact⟨_,_,S,rfl,by rw[RN],⟨_,_,r.out.turned 1 _ (s.go 2) (by simp[RxS.go]) rfl rfl⟩,T2.out.trans (r.out.stp 1 _)⟩
     |false=>
      rw[if_neg (by rw[hq];decide)]at hR;subst hR;rw[hq]at hN;have HN:=hid hN;clear hN hq;go_wp2_with(first|((with_reducible refine(HN.out).mono ?_);rintro e w3 ⟨rfl,rfl⟩)|(go_at_call 231;(with_reducible refine(br_fail 9 _ _).mono ?_);rintro e w' ⟨rfl,rfl⟩));exact⟨rfl,rfl,S,T2.out⟩
    ·rw[if_neg hd]at hR;have B:x.toNat<49∨(49≤x.toNat∧57<x.toNat):=by omega
     have hE:=Zji x w2;have b2:=x.toNat_lt;have a1:=Zaf (P:=Tryz.prog) l (lo:=(s.at_:Int)) (hi:=(s.at_:Int)+2) Tryz.underlying9 (by omega) (by omega) (by omega);have V:List.take (((s.at_:Int)+2).toNat-((s.at_:Int)).toNat) (List.drop ((s.at_:Int)).toNat l)=[92,x]:=by
      rw[show((s.at_:Int)).toNat=s.at_ from by omega,show((s.at_:Int)+2).toNat-s.at_=2 from by omega,List.drop_eq_getElem_cons ha,List.drop_eq_getElem_cons K,h92,hx];rfl
     rw[V]at a1;obtain⟨⟨c,m,k⟩,hq⟩:∃q,Zim x=q:=⟨_,rfl⟩;rw[hq]at hE hR;simp only at hR;have HE:=hid hE;have HX:=hid hq;clear hd hE V hq;cases k with
     |false=>
      rw[if_neg (by decide)]at hR;subst hR;rcases B with B|⟨I,J⟩
      all_goals
       go_wp2_with(first|((with_reducible refine(HE.out).mono ?_);rintro e w3 ⟨rfl,f3⟩;have F3:=hid f3;clear f3)|(go_at_call 231;(with_reducible refine(br_fail 2 _ _).mono ?_);rintro e w' ⟨rfl,rfl⟩));exact⟨rfl,rfl,S,T2.out.trans (Stp.of ((F3.out).alloc _))⟩
     |true=>
      rw[if_pos rfl]at hR;subst hR;cases m with
      |false=>
       rcases B with B|⟨I,J⟩
       all_goals
        go_wp2_with fail;with_reducible refine(HE.out).mono ?_
        rintro e w3 ⟨rfl,f3⟩;obtain⟨w4,o⟩:∃w4,w4=w3.alloc (.cells #[.int .u64 c.a,.int .u64 c.b,.int .u64 c.c,.int .u64 c.d] 132):=⟨_,rfl⟩;have f4:Fr nob w2 w4:=by rw[o];exact f3.alloc _
        have u:=r.out.on f4;have E:Q4 w4 w3.heap.size c:=by rw[o];exact Q4.of (newAt0 w3 _)
        have X:b<w3.heap.size:=Nat.lt_of_lt_of_le (lt_heap r.out.blk) f3.size;have D:¬S w3.heap.size:=fun hk=>by have:=(HW.out.stp T2.out).lt _ hk;have:=f3.size;omega
        obtain⟨⟨k0,k1,_⟩,_,j1,_⟩:=Zd u.blk _ (Fr.refl _ _);have M:=hid o;have H:=hid u;have f:=hid E;have T4:=hid (T2.out.trans (Stp.of f4));clear o f4 f3 u E U;simp only;have v:Q4 (w4.setCell ⟨b,1,none⟩ (.int .i64 ((s.at_:Int)+2))) w3.heap.size c:=by
         have g:=(Fr.refl (fun k=>k=b) w4).setCell (p:=⟨b,1,none⟩) (fun _=>rfl) (.int .i64 ((s.at_:Int)+2));have j:w3.heap.size≠b:=by omega
         exact⟨g.cell f.out.1 j,g.cell f.out.2.1 j,g.cell f.out.2.2.1 j,g.cell f.out.2.2.2 j⟩
        go_wp2_with(rw[←M.out]);go_ret;exact⟨_,_,S,rfl,by rw[RN];rfl,⟨_,_,H.out.turned 1 _ (s.go 2) (by simp[RxS.go]) rfl rfl⟩,T4.out.trans (H.out.stp 1 _)⟩
      |true=>
       rcases B with B|⟨I,J⟩
       all_goals
        go_wp2_with fail;with_reducible refine(HE.out).mono ?_
        rintro e w3 ⟨rfl,f3⟩;obtain⟨w4,o⟩:∃w4,w4=w3.alloc (.cells #[.int .u64 c.a,.int .u64 c.b,.int .u64 c.c,.int .u64 c.d] 132):=⟨_,rfl⟩;have f4:Fr nob w2 w4:=by rw[o];exact f3.alloc _
        have u:=r.out.on f4;have E:Q4 w4 w3.heap.size c:=by rw[o];exact Q4.of (newAt0 w3 _)
        have X:b<w3.heap.size:=Nat.lt_of_lt_of_le (lt_heap r.out.blk) f3.size;have D:¬S w3.heap.size:=fun hk=>by have:=(HW.out.stp T2.out).lt _ hk;have:=f3.size;omega
        obtain⟨⟨k0,k1,_⟩,_,j1,_⟩:=Zd u.blk _ (Fr.refl _ _);have M:=hid o;have H:=hid u;have f:=hid E;have T4:=hid (T2.out.trans (Stp.of f4));clear o f4 f3 u E U;simp only;go_wp2_with(rw[←M.out]);refine(br_mark b l [92,x] s S w4 (by omega) ⟨_,_,H.out⟩).mono ?_;rintro e w5 ⟨rfl,S5,⟨b5,b0,L⟩,A⟩;have j:w3.heap.size≠b:=by omega
        have v:Q4 w5 w3.heap.size c:=⟨A.fr.cell f.out.1 D,A.fr.cell f.out.2.1 D,A.fr.cell f.out.2.2.1 D,A.fr.cell f.out.2.2.2 D⟩;have b3:Q4 (w5.setCell ⟨b,1,none⟩ (.int .i64 ((s.at_:Int)+2))) w3.heap.size c:=by
         have g:=(Fr.refl (fun k=>k=b) w5).setCell (p:=⟨b,1,none⟩) (fun _=>rfl) (.int .i64 ((s.at_:Int)+2));exact⟨g.cell v.1 j,g.cell v.2.1 j,g.cell v.2.2.1 j,g.cell v.2.2.2 j⟩
        obtain⟨⟨_,n1,_⟩,_,n2,_⟩:=Zd L.blk _ (Fr.refl _ _);rw[show(s.mark [92,x]).at_=s.at_ from rfl]at n1;have Q:=hid L;have a6:=hid (T4.out.trans A);clear L A v k0 k1 j1;go_wp2;go_ret;exact⟨_,_,S5,rfl,by rw[RN];rfl,⟨_,_,Q.out.turned 1 _ ((s.mark [92,x]).go 2) (by simp[RxS.go,RxS.mark]) rfl rfl⟩,a6.out.trans (Q.out.stp 1 _)⟩
 ·rw[Zf4 (by omega)]at hR;subst hR;have a5:(l.length:Int)≤(s.at_:Int)+1:=by omega
  go_enter Tryz.func258,Tryz.ntmps258;go_wp2_with(go_at_call 231;(with_reducible refine(br_fail 11 _ _).mono ?_);rintro e w' ⟨rfl,rfl⟩);exact⟨rfl,rfl,S,Stp.refl _ _⟩
def ZcC(l:List UInt8)(c:Nat)(f:RxS→Out Nd):Prop:=∀s,Sane l s→∀t s',f s=.inr (t,s')→Sane l s'∧s.at_≤s'.at_∧t.size+s.at_≤s'.at_+c
theorem ZcC.kept{l:List UInt8}{c:Nat}{f:RxS→Out Nd}(h:ZcC l c f):Zpx l f:=fun s hs t s' e=>⟨(h s hs t s' e).1,(h s hs t s' e).2.1⟩
section
variable {l:List UInt8} {s:RxS} (hs:Sane l s)
include hs
theorem Sane.go{n:Nat}(h:s.at_+n≤l.length):Sane l (s.go n):=
 ⟨h,Nat.le_trans hs.mr (Nat.le_add_right _ _),Nat.le_trans hs.cl (Nat.le_add_right _ _),Nat.le_trans hs.op (Nat.le_add_right _ _)⟩
theorem Sane.to{n:Nat}(h:s.at_≤n)(h':n≤l.length):Sane l (s.to n):=
 ⟨h',Nat.le_trans hs.mr h,Nat.le_trans hs.cl h,Nat.le_trans hs.op h⟩
theorem Sane.markgo{n:Nat}(t:List UInt8)(hn:1≤n)(h:s.at_+n≤l.length):Sane l ((s.mark t).go n):=
 ⟨h,by have:=hs.mr;show(s.marks++[_]).length≤s.at_+n;simp;omega,Nat.le_trans hs.cl (Nat.le_add_right _ _),Nat.le_trans hs.op (Nat.le_add_right _ _)⟩
end
theorem ZaA{l:List UInt8}:∀(n:Nat) (s:RxS) (t:Nd) (t':Nd) (s':RxS),Sane l s→ZbW prg l n s t=.inr (t',s')→Sane l s'∧s.at_≤s'.at_∧t'.size+s.at_≤s'.at_+t.size
 |0,s,t,t',s',hs,h=>by
  rw[ZbW]at h;injection h with h;injection h with h1 h2;subst h1;subst h2;exact⟨hs,Nat.le_refl _,by omega⟩
 |n+1,s,t,t',s',hs,h=>by
  have hz:∀a b,(prg.rep t a b).size=1+t.size:=fun _ _=>rfl;cases e1:ahd l s.at_ [92,43]with
  |true=>
   rw[Zf3 e1]at h;have hle:=ahd_le e1 (by decide);simp only[List.length_cons,List.length_nil]at hle;obtain⟨k1,k2,k3⟩:=ZaA n _ _ _ _ (hs.markgo _ (by omega) hle) h;rw[hz]at k3;refine⟨k1,?_,?_⟩
   ·have:s.at_+2≤s'.at_:=k2;omega
   ·have:1+0+t'.size+(s.at_+2)≤1+0+s'.at_+(1+t.size):=by have:t'.size+(s.at_+2)≤s'.at_+(1+t.size):=k3;omega
    omega
  |false=>
   cases e2:ahd l s.at_ [92,63]with
   |true=>
    rw[ZeB e1 e2]at h;have hle:=ahd_le e2 (by decide);simp only[List.length_cons,List.length_nil]at hle;obtain⟨k1,k2,k3⟩:=ZaA n _ _ _ _ (hs.markgo _ (by omega) hle) h;rw[hz]at k3;refine⟨k1,?_,?_⟩
    ·have:s.at_+2≤s'.at_:=k2;omega
    ·have:t'.size+(s.at_+2)≤s'.at_+(1+t.size):=k3;omega
   |false=>
    cases e3:ahd l s.at_ [92,123]with
    |true=>
     have hle:=ahd_le e3 (by decide);simp only[List.length_cons,List.length_nil]at hle;cases e4:Zfw l (s.at_+2)with
     |none=>rw[Zij e1 e2 e3 e4]at h;cases h
     |some q=>
      obtain⟨m,x,k⟩:=q;rw[ZeC e1 e2 e3 e4]at h;obtain⟨g1,g2,_⟩:=Zks (by omega) e4;obtain⟨k1,k2,k3⟩:=ZaA n _ _ _ _ (hs.to (by omega) g2) h;rw[hz]at k3;refine⟨k1,?_,?_⟩
      ·have:k≤s'.at_:=k2;omega
      ·have:t'.size+k≤s'.at_+(1+t.size):=k3;omega
    |false=>
     cases e4:ahd l s.at_ [42]with
     |true=>
      have hle:=ahd_le e4 (by decide);simp only[List.length_singleton]at hle;rw[repS_star e1 e2 e3 e4]at h;obtain⟨k1,k2,k3⟩:=ZaA n _ _ _ _ (hs.go hle) h;rw[hz]at k3;refine⟨k1,?_,?_⟩
      ·have:s.at_+1≤s'.at_:=k2;omega
      ·have:t'.size+(s.at_+1)≤s'.at_+(1+t.size):=k3;omega
     |false=>
      rw[Zik e1 e2 e3 e4]at h;injection h with h;injection h with h1 h2;subst h1;subst h2;exact⟨hs,Nat.le_refl _,by omega⟩
theorem Zhj{l:List UInt8}{C:Option (RxS→Out Nd)}(hC:∀f,C=some f→ZcC l 2 f){p:Nat}{s s':RxS}{t:Nd}(hs:Sane l s)(h1:s.opened<s.at_)(h:Zbs prg l C p s=.inr (t,s')):
 Sane l s'∧s.at_+2≤s'.at_∧t.size+s.at_≤s'.at_+1:=by
 cases C with
 |none=>cases h
 |some f=>
  unfold Zbs at h;simp only at h;cases hf:f {s with opened:=s.opened+1}with
  |inl e=>rw[hf]at h;cases h
  |inr z=>
   obtain⟨t1,s1⟩:=z;rw[hf]at h;simp only at h;obtain⟨k1,k2,k3⟩:=hC f rfl {s with opened:=s.opened+1} ⟨hs.le,hs.mr,hs.cl,h1⟩ t1 s1 hf;have k2:s.at_≤s1.at_:=k2;have k3:t1.size+s.at_≤s1.at_+2:=k3;split at h
   ·next ha=>
    have a:=ahd_le ha (by decide);simp only[List.length_cons,List.length_nil]at a;injection h with h;injection h with h2 h3;subst h2;subst h3;refine⟨⟨a,Nat.le_trans k1.mr (Nat.le_add_right _ _),?_,?_⟩,?_,?_⟩
    ·show(s1.closed++[_]).length≤s1.at_+2;have:=k1.cl;simp;omega
    ·exact Nat.le_trans k1.op (Nat.le_add_right _ _)
    ·show s.at_+2≤s1.at_+2;omega
    ·show(1+t1.size)+s.at_≤s1.at_+2+1;omega
   ·cases h
theorem Zky{l:List UInt8}{C:Option (RxS→Out Nd)}(hC:∀f,C=some f→ZcC l 2 f){s s':RxS}{t:Nd}(hs:Sane l s)(h:ZlI prg l C s=.inr (t,s')):
 Sane l s'∧s.at_<s'.at_∧t.size+s.at_≤s'.at_:=by
 by_cases hl:s.at_+1<l.length
 ·rw[Zkw hl]at h;split at h
  ·next ha=>
   have:=hs.op;obtain⟨k1,k2,k3⟩:=Zhj hC (hs.go (n:=2) (by omega)) (by show s.opened<s.at_+2;omega) h;have k2:s.at_+2+2≤s'.at_:=k2;have k3:t.size+(s.at_+2)≤s'.at_+1:=k3;exact⟨k1,by omega,by omega⟩
  ·split at h
   ·cases h
   ·split at h
    ·split at h
     ·injection h with h;injection h with h2 h3;subst h2;subst h3;exact⟨hs.go (by omega),by show s.at_<s.at_+2;omega,by show 1+s.at_≤s.at_+2;omega⟩
     ·cases h
    ·split at h
     ·injection h with h;injection h with h2 h3;subst h2;subst h3;split
      ·exact⟨hs.markgo _ (by omega) (by omega),by show s.at_<s.at_+2;omega,by show 1+s.at_≤s.at_+2;omega⟩
      ·exact⟨hs.go (by omega),by show s.at_<s.at_+2;omega,by show 1+s.at_≤s.at_+2;omega⟩
     ·cases h
 ·rw[Zf4 (by omega)]at h;cases h
theorem Zbw{l:List UInt8}{C:Option (RxS→Out Nd)}(hC:∀f,C=some f→ZcC l 2 f){s s':RxS}{t:Nd}{b:UInt8}(hs:Sane l s)(ha:s.at_<l.length)(h:Zb0 prg l C s b=.inr (t,s')):
 Sane l s'∧s.at_<s'.at_∧t.size+s.at_≤s'.at_:=by
 unfold Zb0 at h;split at h
 ·exact Zky hC hs h
 ·split at h
  ·cases hp:prs l (s.at_+1)with
   |inl z=>rw[hp]at h;cases h
   |inr y=>
    obtain⟨c,k⟩:=y;rw[hp]at h;injection h with h;injection h with h2 h3;subst h2;subst h3;obtain⟨p1,p2,p3⟩:=prs_in hp;have p2:s.at_+1<k:=p2;have p3:k≤l.length:=p3;exact⟨hs.to (by omega) p3,by show s.at_<k;omega,by show 1+s.at_≤k;omega⟩
  ·split at h
   ·injection h with h;injection h with h2 h3;subst h2;subst h3;exact⟨hs.go (by omega),by show s.at_<s.at_+1;omega,by show 1+s.at_≤s.at_+1;omega⟩
   ·injection h with h;injection h with h2 h3;subst h2;subst h3;exact⟨hs.go (by omega),by show s.at_<s.at_+1;omega,by show 1+s.at_≤s.at_+1;omega⟩
theorem Zf5{l:List Nd}{n:Nd}{k:Nat}(h1:1≤k)(h2:Nd.sizes l≤k)(h3:n.size≤k):(Zd3 l n).size≤k:=by
 match l,h2 with
 |[],_=>exact h1
 |[x],h2=>simpa[Zd3,Nd.sizes]using h2
 |_::_::_,_=>exact h3
theorem Zbx(l:List Nd):(Za2 l).size≤Nd.sizes l+1:=
 have h:=ZcA l
 Zf5 (by omega) (by omega) (by show 1+Nd.sizes (parts l)≤_;omega)
theorem Zby(l:List Nd):(Za3 l).size≤Nd.sizes l+1:=
 have h:=Zdf l
 Zf5 (by omega) (by omega) (by show 1+Nd.sizes (arms l)≤_;omega)
def ZjJ(l:List UInt8)(C:Option (RxS→Out Nd))(s:RxS)(b:UInt8):Out Nd:=
 match Zb0 prg l C s b with
 | .inl e=>.inl e
 | .inr (t,s1)=>ZbW prg l (l.length+1) s1 t
theorem Zkz{l:List UInt8}{C:Option (RxS→Out Nd)}(hC:∀f,C=some f→ZcC l 2 f){s s':RxS}{t:Nd}{b:UInt8}(hs:Sane l s)(ha:s.at_<l.length)(h:ZjJ l C s b=.inr (t,s')):
 Sane l s'∧s.at_<s'.at_∧t.size+s.at_≤s'.at_:=by
 unfold ZjJ at h;cases hp:Zb0 prg l C s b with
 |inl z=>rw[hp]at h;cases h
 |inr y=>
  obtain⟨t1,s1⟩:=y;rw[hp]at h;simp only at h;obtain⟨k1,k2,k3⟩:=Zbw hC hs ha hp;obtain⟨j1,j2,j3⟩:=ZaA _ _ _ _ _ k1 h;exact⟨j1,by omega,by omega⟩
section
variable {l:List UInt8} {C:Option (RxS→Out Nd)} {inner front:Bool} {n:Nat} {s:RxS} {ps:List Nd}
theorem Zfi(h:l.length≤s.at_):brS prg l C inner (n+1) front s ps=.inr (Za2 ps,s):=by
 rw[brS,List.getElem?_eq_none h];rfl
theorem ZdH(h:s.at_<l.length)(h1:(ahd l s.at_ [92,124]||(inner&&ahd l s.at_ [92,41]))=true):brS prg l C inner (n+1) front s ps=.inr (Za2 ps,s):=by
 rw[brS,List.getElem?_eq_getElem h];simp only;rw[if_pos h1];rfl
theorem Zd6(h:s.at_<l.length)(h1:(ahd l s.at_ [92,124]||(inner&&ahd l s.at_ [92,41]))=false)(h2:(front&&(ahd l s.at_ [92,123]||(ahd l s.at_ [92,43]||ahd l s.at_ [92,63])))=true):
 brS prg l C inner (n+1) front s ps=.inl (10,s.at_):=by
 rw[brS,List.getElem?_eq_getElem h];simp only;rw[if_neg (by rw[h1];decide),if_pos h2]
theorem Zfj(h:s.at_<l.length)(h1:(ahd l s.at_ [92,124]||(inner&&ahd l s.at_ [92,41]))=false)(h2:(front&&(ahd l s.at_ [92,123]||(ahd l s.at_ [92,43]||ahd l s.at_ [92,63])))=false)(h3:(ahd l s.at_ [36]&&ZbL l s.at_)=true):
 brS prg l C inner (n+1) front s ps=brS prg l C inner n false (s.go 1) (ps++[.fin]):=by
 rw[brS,List.getElem?_eq_getElem h];simp only;rw[if_neg (by rw[h1];decide),if_neg (by rw[h2];decide),if_pos h3];rfl
theorem ZeD(h:s.at_<l.length)(h1:(ahd l s.at_ [92,124]||(inner&&ahd l s.at_ [92,41]))=false)(h2:(front&&(ahd l s.at_ [92,123]||(ahd l s.at_ [92,43]||ahd l s.at_ [92,63])))=false)(h3:(ahd l s.at_ [36]&&ZbL l s.at_)=false):
 brS prg l C inner (n+1) front s ps=match ZjJ l C s l[s.at_]with| .inl e=>.inl e| .inr (t,s2)=>brS prg l C inner n false s2 (ps++[t]):=by
 rw[brS,List.getElem?_eq_getElem h];simp only;rw[if_neg (by rw[h1];decide),if_neg (by rw[h2];decide),if_neg (by rw[h3];decide)];unfold ZjJ;cases Zb0 prg l C s l[s.at_]with
 |inl e=>rfl
 |inr z=>obtain⟨t,s1⟩:=z;simp only;cases ZbW prg l (l.length+1) s1 t<;>rfl
end
theorem ZdI{l:List UInt8}{C:Option (RxS→Out Nd)}(hC:∀f,C=some f→ZcC l 2 f){inner:Bool}:∀(n:Nat) (front:Bool) (s:RxS) (ps:List Nd) (t:Nd) (s':RxS),Sane l s→brS prg l C inner n front s ps=.inr (t,s')→
 Sane l s'∧s.at_≤s'.at_∧t.size+s.at_≤s'.at_+Nd.sizes ps+1
 |0,front,s,ps,t,s',hs,h=>by
  rw[brS]at h;injection h with h;injection h with h1 h2;subst h1;subst h2;have:=Zbx ps;exact⟨hs,Nat.le_refl _,by show(Za2 ps).size+s.at_≤_;omega⟩
 |n+1,front,s,ps,t,s',hs,h=>by
  have hj:=Zbx ps;by_cases hl:s.at_<l.length
  ·cases h1:(ahd l s.at_ [92,124]||(inner&&ahd l s.at_ [92,41]))with
   |true=>
    rw[ZdH hl h1]at h;injection h with h;injection h with h1 h2;subst h1;subst h2;exact⟨hs,Nat.le_refl _,by omega⟩
   |false=>
    cases h2:(front&&(ahd l s.at_ [92,123]||(ahd l s.at_ [92,43]||ahd l s.at_ [92,63])))with
    |true=>rw[Zd6 hl h1 h2]at h;cases h
    |false=>
     cases h3:(ahd l s.at_ [36]&&ZbL l s.at_)with
     |true=>
      rw[Zfj hl h1 h2 h3]at h;obtain⟨k1,k2,k3⟩:=ZdI hC n _ _ _ _ _ (hs.go (n:=1) (by omega)) h;rw[Nd.sizes_append]at k3;have k2:s.at_+1≤s'.at_:=k2;have k3:t.size+(s.at_+1)≤s'.at_+(Nd.sizes ps+(1+0))+1:=k3;exact⟨k1,by omega,by omega⟩
     |false=>
      rw[ZeD hl h1 h2 h3]at h;cases hr:ZjJ l C s l[s.at_]with
      |inl e=>rw[hr]at h;cases h
      |inr z=>
       obtain⟨t1,s1⟩:=z;rw[hr]at h;simp only at h;obtain⟨r1,r2,r3⟩:=Zkz hC hs hl hr;obtain⟨k1,k2,k3⟩:=ZdI hC n _ _ _ _ _ r1 h;rw[Nd.sizes_append]at k3;have k3:t.size+s1.at_≤s'.at_+(Nd.sizes ps+(t1.size+0))+1:=k3;exact⟨k1,by omega,by omega⟩
  ·rw[Zfi (by omega)]at h;injection h with h;injection h with h1 h2;subst h1;subst h2;exact⟨hs,Nat.le_refl _,by omega⟩
theorem Zbe{l:List UInt8}{C:Option (RxS→Out Nd)}(hC:∀f,C=some f→ZcC l 2 f){inner:Bool}:ZcC l 1 (branchS prg l C inner):=by
 intro s hs t s' h;unfold branchS at h;split at h
 ·next ha=>
  have a:=ahd_le ha (by decide);simp only[List.length_singleton]at a;obtain⟨k1,k2,k3⟩:=ZdI hC _ _ _ _ _ _ (hs.go a) h;have k2:s.at_+1≤s'.at_:=k2;have k3:t.size+(s.at_+1)≤s'.at_+(1+0)+1:=k3;exact⟨k1,by omega,by omega⟩
 ·obtain⟨k1,k2,k3⟩:=ZdI hC _ _ _ _ _ _ hs h;have k3:t.size+s.at_≤s'.at_+0+1:=k3;exact⟨k1,by omega,by omega⟩
theorem Zd7{l:List UInt8}{C:Option (RxS→Out Nd)}(hC:∀f,C=some f→ZcC l 2 f){inner:Bool}:∀(n:Nat) (s:RxS) (ts:List Nd) (t:Nd) (s':RxS),Sane l s→Za1 prg l C inner n s ts=.inr (t,s')→
 Sane l s'∧s.at_≤s'.at_∧t.size+s.at_≤s'.at_+Nd.sizes ts+1
 |0,s,ts,t,s',hs,h=>by
  rw[Za1]at h;injection h with h;injection h with h1 h2;subst h1;subst h2;have:=Zby ts;exact⟨hs,Nat.le_refl _,by show(Za3 ts).size+s.at_≤_;omega⟩
 |n+1,s,ts,t,s',hs,h=>by
  rw[Za1]at h;split at h
  ·next ha=>
   have hle:=ahd_le ha (by decide);simp only[List.length_cons,List.length_nil]at hle;cases hb:branchS prg l C inner ((s.mark [92,124]).go 2)with
   |inl e=>rw[hb]at h;cases h
   |inr z=>
    obtain⟨t1,s1⟩:=z;rw[hb]at h;simp only at h;obtain⟨r1,r2,r3⟩:=Zbe hC _ (hs.markgo [92,124] (n:=2) (by omega) hle) _ _ hb;obtain⟨k1,k2,k3⟩:=Zd7 hC n _ _ _ _ r1 h;rw[Nd.sizes_append]at k3;have r2:s.at_+2≤s1.at_:=r2;have r3:t1.size+(s.at_+2)≤s1.at_+1:=r3;have k3:t.size+s1.at_≤s'.at_+(Nd.sizes ts+(t1.size+0))+1:=k3;exact⟨k1,by omega,by omega⟩
  ·injection h with h;injection h with h1 h2;subst h1;subst h2;have:=Zby ts;exact⟨hs,Nat.le_refl _,by show(Za3 ts).size+s.at_≤_;omega⟩
theorem choiceS_kept{l:List UInt8}{C:Option (RxS→Out Nd)}(hC:∀f,C=some f→ZcC l 2 f){inner:Bool}:ZcC l 2 (choiceS prg l C inner):=by
 intro s hs t s' h;unfold choiceS at h;cases hb:branchS prg l C inner s with
 |inl e=>rw[hb]at h;cases h
 |inr z=>
  obtain⟨t1,s1⟩:=z;rw[hb]at h;simp only at h;obtain⟨r1,r2,r3⟩:=Zbe hC _ hs _ _ hb;obtain⟨k1,k2,k3⟩:=Zd7 hC _ _ _ _ _ r1 h;have k3:t.size+s1.at_≤s'.at_+(t1.size+0)+1:=k3;exact⟨k1,by omega,by omega⟩
theorem chS_kept{l:List UInt8}:∀n,ZcC l 2 (chS prg l n)
 |0=>by
  have:chS prg l 0=choiceS prg l none true:=by funext s;rw[chS]
  rw[this];exact choiceS_kept (fun f hf=>by cases hf)
 |n+1=>by
  have:chS prg l (n+1)=choiceS prg l (some (chS prg l n)) (decide (n+1<12)):=by funext s;rw[chS]
  rw[this];exact choiceS_kept (fun f hf=>by injection hf with hf;subst hf;exact chS_kept n)
abbrev CC2(w:World)(b:Nat)(v0 v1:Value):Prop:=w.cell? ⟨b,0,none⟩=some v0∧w.cell? ⟨b,1,none⟩=some v1
theorem cc2_on{w w':World}{b:Nat}{v0 v1:Value}(h:CC2 w b v0 v1)(f:Fr nob w w'):CC2 w' b v0 v1:=⟨f.cell h.1 (fun x=>x),f.cell h.2 (fun x=>x)⟩
theorem ZkA(b:Nat)(l:List UInt8)(W0:World)(deep:Nat)(C:Option (RxS→Out Nd))(s:RxS)(S O:Nat→Prop)(w:World)(x:UInt8)(hO:∀k,O k→k<w.heap.size)(hl:l.length≤100000)(hd:deep≤12)(hE0:Env W0)(hG:ZoT l W0 deep C)
 (hs:Sane l s) (ha:s.at_<l.length) (hx:l[s.at_]=x) (hW:Wd W0 S w) (h:Rdg b l s S w):
 Calls Tryz.prog 234 #[.pointer (some ⟨b,0,none⟩),.int .i64 deep] w fun y w'=>ZbO b l S O w (Zb0 prg l C s x) y w':=by
 obtain⟨R,hR⟩:∃R,Zb0 prg l C s x=R:=⟨_,rfl⟩;rw[hR];have N:=fun w' (f:Fr nob w w') (j:x=92)=>Zkx b l W0 deep C s S O w' (fun k hk=>Nat.lt_of_lt_of_le (hO k hk) f.size) hl hd hG hs ha (by rw[hx,j]) (hW.stp (Stp.of f)) (h.on f);obtain⟨cv,mv,hB⟩:=h;have rr:=Zd hB.blk;have G:=hid N;have HB:=hid hB;have HW:=hid hW;have b5:(s.at_:Int)<l.length:=by omega
 have b4:=x.toNat_lt;clear N hG hs hW hB hd hO;go_enter Tryz.func234,Tryz.ntmps234;go_wp2_with fail;refine region_fr 8 (by kernel_rfl) (by kernel_rfl) ?_;simp only[List.take_succ_cons,List.take_zero,List.drop_succ_cons,List.drop_zero]
 repeat(quiet_step (fail))
 refine wpQuiet_nil ?_;intro wC fC;have Q:=HB.out.on fC;obtain⟨⟨k0,k1,_⟩,_,j1,_⟩:=Zd Q.blk _ (Fr.refl _ _);have E:=hid Q;have FC:=hid fC;clear rr Q fC;unfold Zb0 at hR;by_cases j:x=92
 ·rw[if_pos j]at hR;have HE:=hid (G.out wC FC.out j);have t1:((x.toNat:Int)==92)=true:=Zcy (b:=92) j;rw[hR]at HE;clear j hR;go_wp2_with fail;with_reducible refine(HE.out).mono ?_
  cases R with
  |inl z=>
   obtain⟨z1,z2⟩:=z;rintro e w2 ⟨rfl,S2,K⟩;exact⟨rfl,rfl,S2,(Stp.of FC.out).trans K⟩
  |inr z=>
   obtain⟨t,s2⟩:=z;rintro e w2 ⟨i,y,S2,rfl,a3,r2,K⟩;have b0:=hid a3;have R2:=hid r2;have a8:=hid ((Stp.of FC.out).trans K);clear a3 r2 K;go_wp2;go_ret;exact⟨_,_,S2,rfl,b0.out,R2.out,a8.out⟩
 ·rw[if_neg j]at hR;have t1:((x.toNat:Int)==92)=false:=Zn (b:=92) j;by_cases D:x=91
  ·rw[if_pos D]at hR;have t2:((x.toNat:Int)==91)=true:=Zcy (b:=91) D;have M:∀w',Fr nob wC w'→Env w':=fun w' f=>hE0.on ((HW.out.fr.trans' FC.out).trans' f);have hP:=fun w' (f:Fr nob wC w')=>ZfL l ((s.at_:Int)+1) w' hl (M w' f);rw[show((s.at_:Int)+1)=((s.at_+1:Nat):Int)from by simp,Zkd (by omega)]at hP;rw[show((s.at_+1:Nat):Int)=(s.at_:Int)+1 from by simp]at hP;have hw:IntKind.i64.wrap ((s.at_:Int)+1)=s.at_+1:=IntWalk.i64_in _ (by omega);have Y:CC2 wC b (.string ⟨l.toArray⟩) (.int .i64 s.at_):=⟨k0,k1⟩;have HC:=hid Y;obtain⟨P,U⟩:∃P,prs l (s.at_+1)=P:=⟨_,rfl⟩;rw[U]at hP hR;obtain⟨c,k,e0,hv,I⟩:∃(c:S4) (k:Nat) (e0:Int),Zp8 P=.tuple #[ZcR c,.int .i64 k,.int .i64 e0]∧((e0≠0∧R=.inl (e0,k))∨(e0=0∧R=.inr (.one c,s.to k))):=by
    cases P with
    |inl z=>obtain⟨z1,z2⟩:=z;exact⟨S4.zero,z2,z1,rfl,.inl ⟨prs_err U,hR.symm⟩⟩
    |inr q=>obtain⟨c,k⟩:=q;exact⟨c,k,0,rfl,.inr ⟨rfl,hR.symm⟩⟩
   rw[hv]at hP;have HP:=hid hP;have a2:=hid I;have a1:=Zl (show(wC.alloc (.cells #[.int .u64 0,.int .u64 0,.int .u64 0,.int .u64 0] 132)).heap[wC.heap.size]? =some (.cells #[.int .u64 0,.int .u64 0,.int .u64 0,.int .u64 0] 132)from newAt0 wC _);have a4:=hid a1;clear hP M k0 k1 j1 D j G Y U a1 hv I hR;go_wp2_with fail
   go_region_held3 (fun w'=>CC2 w' b (.string ⟨l.toArray⟩) (.int .i64 s.at_)) (first|(with_reducible exact HC.out)|(with_reducible exact cc2_on HC.out ((Fr.refl nob wC).drew))|(with_reducible exact cc2_on HC.out (((Fr.refl nob wC).alloc _).drew))|(with_reducible exact cc2_on HC.out (((Fr.refl nob wC).drew).alloc _))|(with_reducible exact cc2_on HC.out G1)|(with_reducible exact cc2_on HC.out (G1.drew))|(with_reducible exact cc2_on HC.out (G1.alloc _))|(with_reducible exact cc2_on HC.out (setFour_frS G1 (Nat.le_refl _) _ _ _ _))|(with_reducible exact cc2_on HC.out (setFour_frS (G1.alloc _) G1.size _ _ _ _))|(trace_state;fail)) (first|(go_at_call 254;(first|((with_reducible refine(HP.out _ ((Fr.refl nob wC).drew)).mono ?_);rintro e g1 ⟨rfl,f1⟩;have G1:Fr nob wC g1:=((Fr.refl nob wC).drew).trans' f1;have hz:=newAt0 g1 (.cells #[.int .u64 0,.int .u64 0,.int .u64 0,.int .u64 0] 132);have HZ:=hid hz;have rz:=Zl hz _ (Fr.refl nob _))|((with_reducible refine(HP.out _ (((Fr.refl nob wC).alloc _).drew)).mono ?_);rintro e g1 ⟨rfl,f1⟩;have G1:Fr nob wC g1:=(((Fr.refl nob wC).alloc _).drew).trans' f1;have hz:=(((Fr.refl nob _).drew).trans' f1).heap (newAt0 wC (.cells #[.int .u64 0,.int .u64 0,.int .u64 0,.int .u64 0] 132)) (fun x=>x);have HZ:=hid hz;have rz:=a4.out g1 (((Fr.refl nob _).drew).trans' f1)));clear f1 hz))
   ·obtain⟨wf,n⟩:∃wf,wf=g1.alloc (.cells #[.int .u64 c.a,.int .u64 c.b,.int .u64 c.c,.int .u64 c.d] 132):=⟨_,rfl⟩;have r:At4 wf g1.heap.size c:=by rw[n];exact newAt0 g1 _
    have F:Fr nob wC wf:=by rw[n];exact G1.alloc _
    rw[←n];have HF:=hid F;have o:=hid r;have b1:wC.heap.size≤g1.heap.size:=(G1.size);clear n F r rz;rcases a2.out with⟨v,hR⟩|⟨v,hR⟩
    ·subst hR;have a7:((e0:Int) !=0)=true:=by simpa using v
     go_wp2_with(go_at_call 231;(with_reducible refine(br_fail e0 k _).mono ?_);rintro e w' ⟨rfl,rfl⟩);exact⟨rfl,rfl,S,(Stp.of FC.out).trans (Stp.of HF.out)⟩
    ·subst hR;subst v;have A:=E.out.on HF.out;have b3:=lt_heap E.out.blk;have a5:=lt_heap o.out;have m:g1.heap.size≠b:=by omega
     obtain⟨⟨_,n1,_⟩,_,n2,_⟩:=Zd A.blk _ (Fr.refl _ _);have H:=hid A;clear A;have a9:Q4 (wf.setCell ⟨b,1,none⟩ (.int .i64 (k:Nat))) g1.heap.size c:=by
      have g:=(Fr.refl (fun i=>i=b) wf).setCell (p:=⟨b,1,none⟩) (fun _=>rfl) (.int .i64 (k:Nat));have q:=Q4.of o.out;exact⟨g.cell q.1 m,g.cell q.2.1 m,g.cell q.2.2.1 m,g.cell q.2.2.2 m⟩
     go_wp2;go_ret;exact⟨_,_,S,rfl,by rw[RN];rfl,⟨_,_,H.out.turned 1 _ (s.to k) (by simp[RxS.to]) rfl rfl⟩,((Stp.of FC.out).trans (Stp.of HF.out)).trans (H.out.stp 1 _)⟩
   ·obtain⟨wf,n⟩:∃wf,wf=((((g1.setCell ⟨wC.heap.size,0,none⟩ (.int .u64 c.a)).setCell ⟨wC.heap.size,1,none⟩ (.int .u64 c.b)).setCell ⟨wC.heap.size,2,none⟩ (.int .u64 c.c)).setCell ⟨wC.heap.size,3,none⟩ (.int .u64 c.d)):=⟨_,rfl⟩;have r:At4 wf wC.heap.size c:=by rw[n];with_reducible exact setFour_heap HZ.out _ _ _ _
    have F:Fr nob wC wf:=by rw[n];exact setFour_frS (G1) (Nat.le_refl _) _ _ _ _
    rw[←n];have HF:=hid F;have o:=hid r;have b1:wC.heap.size≤wC.heap.size:=(Nat.le_refl _);clear n F r rz;rcases a2.out with⟨v,hR⟩|⟨v,hR⟩
    ·subst hR;have a7:((e0:Int) !=0)=true:=by simpa using v
     go_wp2_with(go_at_call 231;(with_reducible refine(br_fail e0 k _).mono ?_);rintro e w' ⟨rfl,rfl⟩);exact⟨rfl,rfl,S,(Stp.of FC.out).trans (Stp.of HF.out)⟩
    ·subst hR;subst v;have A:=E.out.on HF.out;have b3:=lt_heap E.out.blk;have a5:=lt_heap o.out;have m:wC.heap.size≠b:=by omega
     obtain⟨⟨_,n1,_⟩,_,n2,_⟩:=Zd A.blk _ (Fr.refl _ _);have H:=hid A;clear A;have a9:Q4 (wf.setCell ⟨b,1,none⟩ (.int .i64 (k:Nat))) wC.heap.size c:=by
      have g:=(Fr.refl (fun i=>i=b) wf).setCell (p:=⟨b,1,none⟩) (fun _=>rfl) (.int .i64 (k:Nat));have q:=Q4.of o.out;exact⟨g.cell q.1 m,g.cell q.2.1 m,g.cell q.2.2.1 m,g.cell q.2.2.2 m⟩
     go_wp2;go_ret;exact⟨_,_,S,rfl,by rw[RN];rfl,⟨_,_,H.out.turned 1 _ (s.to k) (by simp[RxS.to]) rfl rfl⟩,((Stp.of FC.out).trans (Stp.of HF.out)).trans (H.out.stp 1 _)⟩
  ·rw[if_neg D]at hR;have t2:((x.toNat:Int)==91)=false:=Zn (b:=91) D;obtain⟨w1,J⟩:∃w1,w1=wC.setCell ⟨b,1,none⟩ (.int .i64 ((s.at_:Int)+1)):=⟨_,rfl⟩;have W:Br b l (s.go 1) S cv mv w1:=by rw[J];exact E.out.turned 1 _ (s.go 1) (by simp[RxS.go]) rfl rfl
   have X:Stp S w S w1:=by rw[J];exact(Stp.of FC.out).trans (E.out.stp 1 _)
   have a6:w1.heap.size=wC.heap.size:=by rw[J];simp[World.setCell]
   have Z:=hid J;have V:=hid W;have a0:=hid X;clear J W X j D G;by_cases B:x=46
   ·rw[if_pos B]at hR;have t3:((x.toNat:Int)==46)=true:=Zcy (b:=46) B;have L:=Ze7 0 255 w1 (by decide) (by decide);rw[show((0:Nat):Int)=0 from rfl,show((255:Nat):Int)=255 from rfl]at L;obtain⟨u,hu⟩:∃u,spn 0 255=u:=⟨_,rfl⟩;rw[hu]at L hR;subst hR;have b2:=hid L;clear B L hu;go_wp2_with(rw[←Z.out]);with_reducible refine(b2.out).mono ?_
    rintro e w2 ⟨rfl,f2⟩;have F2:=hid f2;clear f2;go_wp2;go_ret;exact⟨_,_,S,rfl,by unfold prg;rw[RN];rfl,⟨_,_,V.out.on F2.out⟩,a0.out.trans (Stp.of F2.out)⟩
   ·rw[if_neg B]at hR;have t3:((x.toNat:Int)==46)=false:=Zn (b:=46) B;have ho:=Zb6 x w1 5;obtain⟨u,hu⟩:∃u,spn x.toNat x.toNat=u:=⟨_,rfl⟩;rw[hu,a6]at ho;rw[hu]at hR;subst hR;have HO:=hid ho;clear B ho hu;go_wp2_with(rw[←Z.out]);with_reducible refine(HO.out).mono ?_
    rintro e w2 ⟨rfl,f2⟩;have F2:=hid (((Fr.refl nob w1).alloc _).trans' f2);clear f2;go_wp2;go_ret;exact⟨_,_,S,rfl,by unfold prg;rw[RN];rfl,⟨_,_,V.out.on F2.out⟩,a0.out.trans (Stp.of F2.out)⟩
end Go.Proofs.YtkfddjopbocpkaaGreatDoor
