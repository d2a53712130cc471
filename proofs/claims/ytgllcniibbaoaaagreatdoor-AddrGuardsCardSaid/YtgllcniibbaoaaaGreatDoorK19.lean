/- Lemmas of this claim. -/
import Derived.Test.YtgllcniibbaoaaaGreatDoorK18
set_option linter.all false
set_option maxRecDepth 100000
set_option maxHeartbeats 24000000
namespace Go.Proofs.YtgllcniibbaoaaaGreatDoor
open Go.Lib (hid)
open Go.RowKit
section
variable {b:Nat} {l:List UInt8} {s:ES} {S:Nat→Prop} {W w w':World}
theorem Erd.off(h:Erd b l s S w)(f:Off S W w w')(hW:b<W.heap.size):Erd b l s S w':=by
 obtain⟨sv,m,mv,h⟩:=h;obtain⟨X,f,hX⟩:=f;exact⟨sv,m,mv,f.heap h.blk (fun x=>(hX _ x).1 h.me),ownsRow_fr h.sg f (fun k hk x=>by have:=(hX _ x).2;have:=(h.ns k hk).1;omega),h.mp.fr f (fun x=>(hX _ x).1 h.mm),ownsRow_fr h.ma f (fun k hk x=>(hX _ x).1 (h.nm k hk).2.2),h.nm,h.bm,h.ns,h.me,h.mm,h.ok⟩
theorem Erd.lt(h:Erd b l s S w):b<w.heap.size:=by obtain⟨_,_,_,h⟩:=h;exact lt_heap h.blk
end
theorem ZcW{l:List UInt8}{s:ES}{e:Int}{p:Nat}:l[(s.fail l e p).r.at_]? =none:=by show l[l.length]? =none;simp
theorem Zgf{l:List UInt8}{C:Option (ES→Nd×ES)}{s:ES}{c:UInt8}(h:(Zax l C s c).1=.nil):l[(Zax l C s c).2.r.at_]? =none:=by
 obtain⟨q,hq⟩:∃q,Zax l C s c=q:=⟨_,rfl⟩;rw[hq]at h⊢;unfold Zax at hq;split at hq
 ·unfold ZbA at hq;cases C with
  |none=>subst hq;exact ZcW
  |some f=>subst hq;cases h
 ·split at hq
  ·subst hq;exact ZcW
  ·split at hq
   ·unfold ZkG at hq;cases hc:l[s.r.at_+1]? with
    |none=>rw[hc]at hq;subst hq;exact ZcW
    |some d=>
     rw[hc]at hq;simp only at hq;split at hq
     ·subst hq;cases h
     ·split at hq<;>(subst hq;cases h)
   ·split at hq
    ·split at hq
     ·subst hq;exact ZcW
     ·subst hq;cases h
    ·split at hq<;>(subst hq;cases h)
def BrX(b:Nat)(l:List UInt8)(C:Option (ES→Nd×ES))(inner:Bool)(S O:Nat→Prop)(w:World)(F:Nd×ES)(n:Nat)(v5 v6:Value)(wr:World):Prop:=
 ∃front s ps S',v6=.bool front∧Pts S' O w wr ps v5∧Erd b l s S' wr∧Stp S w S' wr∧Sane l s.r∧l.length<n+s.r.at_∧Nd.sizes ps≤3*s.r.at_∧brX l C inner n front s ps=F
def spc(c:UInt8):Bool:=c==42||(c==43||(c==63||c==123))
theorem spc_iff{c:UInt8}:spc c=true↔(c=42∨c=43∨c=63∨c=123):=by simp[spc]
theorem ZdL{S:Nat→Prop}{w:World}{t:Nd}{v:Value}(h:RN S w t v):v=.nilIface∨∃i y,v=.iface i y:=by
 rcases h.kind' with rfl|h'
 ·rw[RN]at h;exact .inl h
 ·exact .inr h'
theorem er_branch(b:Nat)(l:List UInt8)(W0:World)(deep:Nat)(C:Option (ES→Nd×ES))(s:ES)(S O:Nat→Prop)(w:World)(hO:∀k,O k→k<w.heap.size)(hl:l.length≤100000)(hd:deep≤12)(hE0:Env W0)
 (hG:GrX l W0 deep C) (hC:∀f,C=some f→∀s,Sane l s.r→Kp l s (f s) 2) (hs:Sane l s.r) (hW:Wd W0 S w) (h:Erd b l s S w):
 Calls Tryz.prog 58 #[.pointer (some ⟨b,0,none⟩),.int .i64 deep] w (Zmo b l S O w (Zab l C (decide (0<deep)) s)):=by
 obtain⟨g,N⟩:∃g,decide (0<deep)=g:=⟨_,rfl⟩;obtain⟨F,hF⟩:∃F,Zab l C g s=F:=⟨_,rfl⟩;rw[N,hF];obtain⟨fu,d2,f9⟩:∃fu,(if sgn l s.r.at_==[94]then l.length+2 else l.length+1)=fu∧l.length<fu:=⟨_,rfl,by split<;>omega⟩;unfold Zab at hF;rw[d2]at hF;have I:=hid hs;have HW:=hid hW;have HG:=hid hG;have HC:=hid hC;have f0:=hid hE0;have M:=hid hO;have HH:=hid h;have HF:=hid hF;have c0:=h.lt;have c9:g=true→(0:Int)<deep:=fun e=>by rw[e]at N;have:=of_decide_eq_true N;omega
 have d0:g=false→¬(0:Int)<deep:=fun e=>by rw[e]at N;have:=of_decide_eq_false N;omega
 have e8:=hid c9;have e9:=hid d0;clear hs hW hG hC hE0 hO h N d2 hF c9 d0;go_enter Tryz.func58,Tryz.ntmps58;go_wp2_with fail
 go_loopg [5,6] fu (fun n u v wr=>BrX b l C g S O w F n u v wr)
 case atStart=>exact⟨true,s,[],S,rfl,Pts.nil _ _ _ _,HH.out,Stp.refl _ _,I.out,by omega,Nat.zero_le _,HF.out⟩
 case round=>
  clear HH I HF f9;obtain⟨J,s,ps,S1,rfl,hp,hr,Z,c4,hn,hz,hF⟩:=hrel;have d8:=c4.le;obtain⟨m,rfl⟩:∃m,gk=m+1:=⟨gk-1,by omega⟩;obtain⟨av,b7,hv⟩:=hp.shape;subst hv;obtain⟨v5,c5⟩:∃v5,v5=Value.slice av ps.length b7:=⟨_,rfl⟩;have hN:=Zea b l s S1 wr hl d8 hr;have HP:=hid (show Pts S1 O w wr ps v5 from c5▸hp);have HR:=hid hr;have p:=hid Z;have I:=hid c4;have HF:=hid hF;have b6:=hid c5;have a6:=hid (HW.out.stp Z);have HJ:=hid (fun(w':World) (f:Fr nob wr w')=>joinS_any (SO S1 O) ps (.slice av ps.length b7) w' (fun k hk=>Nat.lt_of_lt_of_le (hk.elim ((HW.out.stp Z).lt k) (fun x=>Nat.lt_of_lt_of_le (M.out k x) Z.fr.size)) f.size) (by omega) ((hp.on f).sn M.out));have g6:=Nd.length_le ps;clear hp hr Z c4 hF c5;cases hc:l[s.r.at_]? with
  |none=>
   rw[hc]at hN;have hN:Calls Tryz.prog 97 #[.pointer (some ⟨b,0,none⟩)] wr fun x w'=>x=.returned (.int .i32 (-1))∧Fr nob wr w':=hN;have HN:=hid hN;have hF:=HF.out;rw[brX,hc]at hF;simp only at hF;subst hF;clear HF hN hc;go_wp2_with fail;with_reducible refine HN.out.mono ?_
   rintro e w1 ⟨rfl,f1⟩;have F1:=hid f1;clear f1;go_wp2_with fail;refine(HJ.out _ F1.out).mono ?_;rintro e wj ⟨r,rfl,H,fj⟩;have U:=hid H;have FJ:=hid (F1.out.trans' fj);clear H fj;go_wp2;go_ret;exact⟨r,S1,rfl,U.out,HR.out.on FJ.out,p.out.trans (Stp.of FJ.out)⟩
  |some c=>
   have d5:=ZK hc;rw[hc]at hN;have hN:Calls Tryz.prog 97 #[.pointer (some ⟨b,0,none⟩)] wr fun x w'=>x=.returned (.int .i32 (c.toNat:Int))∧Fr nob wr w':=hN;have HN:=hid hN;have g5:=c.toNat_lt;have tm:((c.toNat:Int)== -1)=false:=by first|(simp;done)|(simp;omega)
   have hF:=HF.out;rw[brX,hc]at hF;simp only at hF;obtain⟨sv,mm,mv,hE⟩:=HR.out;have HE:=hid hE;clear HF hN hE;go_wp2_with fail;with_reducible refine HN.out.mono ?_
   rintro e w1 ⟨rfl,f1⟩;have F1:=hid f1;clear f1;obtain⟨fs,i⟩:∃fs,Zd9 l J s c=fs:=⟨_,rfl⟩;rw[i]at hF;have b0:=hid i;clear i;go_upto_block 2 with(fail)
   go_cut [5,7,10] (fun v _ _ w'=>v=Value.slice av ps.length b7∧¬((c=41∧g=true)∨c=124)∧¬c=94∧¬c=36∧Erd b l fs S1 w'∧Stp S1 wr S1 w')
   case first=>
    by_cases o:c=41
    ·have g2:((c.toNat:Int)==41)=true:=Zcy (b:=41) o;cases hi:g with
     |true=>
      have c1:=e8.out hi;rw[if_pos (.inl ⟨o,hi⟩)]at hF;subst hF;clear hc;go_wp2_with fail;refine(HJ.out _ F1.out).mono ?_;rintro e wj ⟨r,rfl,H,fj⟩;have U:=hid H;have FJ:=hid (F1.out.trans' fj);clear H fj;go_wp2;go_ret;exact⟨r,S1,rfl,U.out,HR.out.on FJ.out,p.out.trans (Stp.of FJ.out)⟩
     |false=>
      have c1:=e9.out hi;have j:¬c=124:=by rw[o];decide
      have A:¬c=94:=by rw[o];decide
      have y:¬c=36:=by rw[o];decide
      rw[if_neg (fun h=>h.elim (fun h=>by rw[hi]at h;cases h.2) j),if_neg A,if_neg y]at hF;have i:=b0.out;unfold Zd9 at i;rw[if_pos o]at i;subst i;have q:=HE.out.on F1.out;have rr:=rule8 q.blk _ (Fr.refl _ _);have a9:=hid (Za4 b l s S1 8 s.r.at_ w1 hl (by decide) (HR.out.on F1.out));clear q hc;go_wp2_with fail;with_reducible refine a9.out.mono ?_
      rintro e w2 ⟨rfl,e2,t2⟩;go_wp2;go_meet
      case rel=>exact⟨rfl,fun h=>by rcases h with⟨_,h⟩|h;(first|(cases h;done)|(rw[hi]at h;cases h));exact j h,A,y,e2,(Stp.of F1.out).trans t2⟩
    ·have g2:((c.toNat:Int)==41)=false:=Zn (b:=41) o;by_cases j:c=124
     ·have e6:((c.toNat:Int)==124)=true:=Zcy (b:=124) j;rw[if_pos (.inr j)]at hF;subst hF;clear hc;go_wp2_with fail;refine(HJ.out _ F1.out).mono ?_;rintro e wj ⟨r,rfl,H,fj⟩;have U:=hid H;have FJ:=hid (F1.out.trans' fj);clear H fj;go_wp2;go_ret;exact⟨r,S1,rfl,U.out,HR.out.on FJ.out,p.out.trans (Stp.of FJ.out)⟩
     ·have e6:((c.toNat:Int)==124)=false:=Zn (b:=124) j;rw[if_neg (fun h=>h.elim (fun h=>o h.1) j)]at hF;by_cases A:c=94
      ·have g3:((c.toNat:Int)==94)=true:=Zcy (b:=94) A;rw[if_pos A]at hF;have b8:=hid hF;clear hF hc;have q:=HE.out.on F1.out;have rr:=rule8 q.blk _ (Fr.refl _ _);have K:=q.turned 2 (.int .i64 ((s.r.at_:Int)+1)) (s.go 1) (by simp[RxS.go,ES.go]) rfl rfl q.ok;have t2:=(Stp.of F1.out).trans (q.stp 2 (.int .i64 ((s.r.at_:Int)+1)));obtain⟨w2,D⟩:∃w2,w2=w1.setCell ⟨b,2,none⟩ (.int .i64 ((s.r.at_:Int)+1)):=⟨_,rfl⟩;rw[←D]at K t2;have b5:=hid (HP.out.stp t2);have P:=hid (a6.out.stp t2).lt;have Q:=hid (show∀k,O k→k<w2.heap.size from fun k hk=>Nat.lt_of_lt_of_le (M.out k hk) (Nat.le_trans p.out.fr.size t2.fr.size));have V:=hid (Nat.le_trans p.out.fr.size t2.fr.size);have a0:w2.heap.size=w1.heap.size:=by rw[D];simp[World.setCell]
       have H2:=hid D;have E2:=hid (show Erd b l (s.go 1) S1 w2 from⟨_,_,_,K⟩);have T2:=hid t2;clear q K t2 D;go_wp2_with(first|(with_reducible rw[←H2.out])|(at_builtin;refine wpList_append_pts (W:=w) (S:=S1) (O:=O) rfl (.tmp 37) (.tmp 40) rfl ps .start v5 (.iface 139 (.agg #[])) _ w1.heap.size (by rw[b6.out];rfl) b5.out P.out Q.out V.out a0.symm (by rfl) (by rw[RN]) (by omega) ?_;intro va wa B t;obtain⟨aa,ca,G⟩:=B.shape;simp only[List.length_append,List.length_singleton]at G;subst G;have R:=hid B;have E:=hid t;clear B t));go_roundg m
       case measure=>omega
       case rel=>
        refine⟨true,s.go 1,ps++[.start],S1,rfl,R.out,E2.out.off E.out c0,(p.out.trans T2.out).off E.out,I.out.goE d5,?_,?_,b8.out⟩
        ·show l.length<m+(s.r.at_+1);omega
        ·rw[Nd.sizes_append];show Nd.sizes ps+(1+0)≤3*(s.r.at_+1);omega
      ·have g3:((c.toNat:Int)==94)=false:=Zn (b:=94) A;rw[if_neg A]at hF;by_cases y:c=36
       ·have g1:((c.toNat:Int)==36)=true:=Zcy (b:=36) y;rw[if_pos y]at hF;have b8:=hid hF;clear hF hc;have q:=HE.out.on F1.out;have rr:=rule8 q.blk _ (Fr.refl _ _);have K:=q.turned 2 (.int .i64 ((s.r.at_:Int)+1)) (s.go 1) (by simp[RxS.go,ES.go]) rfl rfl q.ok;have t2:=(Stp.of F1.out).trans (q.stp 2 (.int .i64 ((s.r.at_:Int)+1)));obtain⟨w2,D⟩:∃w2,w2=w1.setCell ⟨b,2,none⟩ (.int .i64 ((s.r.at_:Int)+1)):=⟨_,rfl⟩;rw[←D]at K t2;have b5:=hid (HP.out.stp t2);have P:=hid (a6.out.stp t2).lt;have Q:=hid (show∀k,O k→k<w2.heap.size from fun k hk=>Nat.lt_of_lt_of_le (M.out k hk) (Nat.le_trans p.out.fr.size t2.fr.size));have V:=hid (Nat.le_trans p.out.fr.size t2.fr.size);have a0:w2.heap.size=w1.heap.size:=by rw[D];simp[World.setCell]
        have H2:=hid D;have E2:=hid (show Erd b l (s.go 1) S1 w2 from⟨_,_,_,K⟩);have T2:=hid t2;clear q K t2 D;go_wp2_with(first|(with_reducible rw[←H2.out])|(at_builtin;refine wpList_append_pts (W:=w) (S:=S1) (O:=O) rfl (.tmp 51) (.tmp 54) rfl ps .fin v5 (.iface 140 (.agg #[])) _ w1.heap.size (by rw[b6.out];rfl) b5.out P.out Q.out V.out a0.symm (by rfl) (by rw[RN]) (by omega) ?_;intro va wa B t;obtain⟨aa,ca,G⟩:=B.shape;simp only[List.length_append,List.length_singleton]at G;subst G;have R:=hid B;have E:=hid t;clear B t));go_roundg m
        case measure=>omega
        case rel=>
         refine⟨true,s.go 1,ps++[.fin],S1,rfl,R.out,E2.out.off E.out c0,(p.out.trans T2.out).off E.out,I.out.goE d5,?_,?_,b8.out⟩
         ·show l.length<m+(s.r.at_+1);omega
         ·rw[Nd.sizes_append];show Nd.sizes ps+(1+0)≤3*(s.r.at_+1);omega
       ·have g1:((c.toNat:Int)==36)=false:=Zn (b:=36) y;rw[if_neg y]at hF;obtain⟨sp,a⟩:∃x,spc c=x:=⟨_,rfl⟩;have c8:=hid a;clear a;go_upto_if 56 with(fail)
        go_cut [56] (fun v w'=>v=.bool sp∧w1=w')
        case first=>
         have a:=c8.out;cases sp with
         |true=>
          rcases spc_iff.1 a with h|h|h|h
          ·have n0:((c.toNat:Int)==42)=true:=by rw[h];rfl
           clear a h;go_wp2;go_meet
           case rel=>exact⟨by rw[n0],rfl⟩
          ·have n0:((c.toNat:Int)==42)=false:=by rw[h];rfl
           have n1:((c.toNat:Int)==43)=true:=by rw[h];rfl
           clear a h;go_wp2;go_meet
           case rel=>exact⟨rfl,rfl⟩
          ·have n0:((c.toNat:Int)==42)=false:=by rw[h];rfl
           have n1:((c.toNat:Int)==43)=false:=by rw[h];rfl
           have n2:((c.toNat:Int)==63)=true:=by rw[h];rfl
           clear a h;go_wp2;go_meet
           case rel=>exact⟨rfl,rfl⟩
          ·have n0:((c.toNat:Int)==42)=false:=by rw[h];rfl
           have n1:((c.toNat:Int)==43)=false:=by rw[h];rfl
           have n2:((c.toNat:Int)==63)=false:=by rw[h];rfl
           have n3:((c.toNat:Int)==123)=true:=by rw[h];rfl
           clear a h;go_wp2;go_meet
           case rel=>exact⟨rfl,rfl⟩
         |false=>
          have Y:∀d:UInt8,spc d=true→c≠d:=fun d hd e=>by rw[e,hd]at a;cases a
          have n0:((c.toNat:Int)==42)=false:=Zn (b:=42) (Y 42 rfl);have n1:((c.toNat:Int)==43)=false:=Zn (b:=43) (Y 43 rfl);have n2:((c.toNat:Int)==63)=false:=Zn (b:=63) (Y 63 rfl);have n3:((c.toNat:Int)==123)=false:=Zn (b:=123) (Y 123 rfl);clear a Y;go_wp2;go_meet
          case rel=>exact⟨rfl,rfl⟩
        case rest=>
         obtain⟨rfl,rfl⟩:=hcut;have a8:=hid (HE.out.on F1.out);have rr:=rule8 a8.out.blk _ (Fr.refl _ _);have i:=b0.out;have a:=c8.out;unfold Zd9 at i;rw[if_neg o]at i;cases sp with
         |true=>
          cases J with
          |true=>
           rw[if_pos ⟨spc_iff.1 a,rfl⟩]at i;subst i;have a9:=hid (Za4 b l s S1 10 s.r.at_ w1 hl (by decide) (HR.out.on F1.out));clear a hF hc;go_wp2_with fail;with_reducible refine a9.out.mono ?_
           rintro e w2 ⟨rfl,e2,t2⟩;go_wp2;go_meet
           case rel=>exact⟨rfl,fun h=>h.elim (fun h=>o h.1) j,A,y,e2,(Stp.of F1.out).trans t2⟩
          |false=>
           rw[if_neg (fun h=>by cases h.2)]at i;subst i;clear a hF hc;go_wp2;go_meet
           case rel=>exact⟨rfl,fun h=>h.elim (fun h=>o h.1) j,A,y,⟨_,_,_,a8.out⟩,Stp.of F1.out⟩
         |false=>
          rw[if_neg (fun h=>by rw[spc_iff.2 h.1]at a;cases a)]at i;subst i;clear a hF hc;go_wp2;go_meet
          case rel=>exact⟨rfl,fun h=>h.elim (fun h=>o h.1) j,A,y,⟨_,_,_,a8.out⟩,Stp.of F1.out⟩
   case rest=>
    obtain⟨rfl,d9,A,y,⟨g8,m2,g7,e2⟩,t2⟩:=hcut;rw[if_neg d9,if_neg A,if_neg y]at hF;have e1:=rule8 e2.blk _ (Fr.refl _ _);have T1:=hid t2;clear t2;cases hx:fs.x with
    |some z=>
     rw[hx]at hF;simp only[Option.isSome_some,if_true]at hF;subst hF;have X:eX fs.x≠0:=by rw[hx];exact e2.ok z hx
     obtain⟨ev,d1⟩:∃ev,eX fs.x=ev:=⟨_,rfl⟩;rw[d1]at e1 X;have g4:((ev:Int) !=0)=true:=by simpa using X
     have E2:=hid e2;clear e2 hx d1;go_wp2;go_ret;exact⟨.nilIface,S1,rfl,by rw[RN],⟨_,_,_,E2.out⟩,p.out.trans T1.out⟩
    |none=>
     have X:eX fs.x=0:=by rw[hx];rfl
     obtain rfl:s=fs:=by
      have h:=b0.out;unfold Zd9 at h;by_cases o:c=41
      ·rw[if_pos o]at h;rw[←h]at hx;exact absurd hx (by intro hh;cases hh)
      rw[if_neg o]at h;by_cases hq:(c=42∨c=43∨c=63∨c=123)∧J=true
      ·rw[if_pos hq]at h;rw[←h]at hx;exact absurd hx (by intro hh;cases hh)
      ·rw[if_neg hq]at h;exact h
     rw[hx]at hF;simp only[Option.isSome_none,Bool.false_eq_true,if_false]at hF;rw[X]at e1;have E1:=hid (show Erd b l s S1 wc from⟨_,_,_,e2⟩);clear e2 X;have d7:=HP.out.stp T1.out;have a7:=a6.out.stp T1.out;have b9:=ZkN b l W0 deep C s S1 (PO O v5) wc c (d7.lt (fun k hk=>Nat.lt_of_lt_of_le (M.out k hk) (Nat.le_trans p.out.fr.size T1.out.fr.size))) hl f0.out HG.out I.out hc a7 E1.out;have d3:=(atomX_kept HC.out (c:=c) I.out hc);have L:=Zgf (l:=l) (C:=C) (s:=s) (c:=c);obtain⟨ta,s2,hq⟩:∃ta s2,Zax l C s c=(ta,s2):=⟨_,_,rfl⟩;rw[hq]at b9 d3 L hF;simp only at hF L;obtain⟨⟨a1,a2,a3,a4⟩,a5⟩:=d3;have a1:Sane l s2.r:=a1;have a3:ta.size+3*s.r.at_≤3*s2.r.at_+0:=a3;have a5:s.r.at_<s2.r.at_:=a5;have d4:=Zb9 (l.length+1) s2 ta a1;obtain⟨tr,s3,c2⟩:∃tr s3,ZbR l (l.length+1) s2 ta=(tr,s3):=⟨_,_,rfl⟩;rw[c2]at d4 hF;simp only at hF;obtain⟨b1,b2,b3,b4⟩:=d4
     have b1:Sane l s3.r:=b1;have b2:s2.r.at_≤s3.r.at_:=b2;have b3:tr.size+3*s2.r.at_≤3*s3.r.at_+ta.size:=b3;have d6:ta≠.nil∨l[s2.r.at_]? =none:=by
      by_cases h:ta=.nil
      ·exact .inr (L h)
      ·exact .inl h
     have e7:=hid b9;have f2:=hid hF;have B1:=hid b1;have A1:=hid a1;have f3:=hid d6;have f5:=hid c2;clear hx d7 a7 b9 L hq hF a1 a2 a4 b1 b4 d6 c2 hc;go_wp2_with fail;with_reducible refine e7.out.mono ?_
     rintro e w2 ⟨v2,S2,rfl,e0,e2,e4⟩;have c3:=Zeb b l s2 ta v2 S2 (PO O v5) w2 hl A1.out f3.out e0 e2;rw[f5.out]at c3;have f6:=hid c3;have f8:=hid (T1.out.trans e4);clear e0 e2 e4 c3;go_wp2_with fail;with_reducible refine f6.out.mono ?_
     rintro e w3 ⟨v3,S3,rfl,c6,e3,e5⟩;have T3:=hid (f8.out.trans e5);have E3:=hid e3;have f7:=hid c6;have g0:=ZdL c6;clear c6 e3 e5;have f4:=hid (HP.out.stp T3.out);have c7:=hid (a6.out.stp T3.out).lt;have Q:=hid (show∀k,O k→k<w3.heap.size from fun k hk=>Nat.lt_of_lt_of_le (M.out k hk) (Nat.le_trans p.out.fr.size T3.out.fr.size));have V:=hid (Nat.le_trans p.out.fr.size T3.out.fr.size);rcases g0 with rfl|⟨vi,vy,rfl⟩
     all_goals
      go_wp2_with(at_builtin;refine wpList_append_pts (W:=w) (S:=S3) (O:=O) rfl (.tmp 73) (.tmp 79) rfl ps tr v5 _ _ _ (by rw[b6.out];rfl) f4.out c7.out Q.out V.out rfl (by rfl) f7.out (by omega) ?_;intro va wa B t;obtain⟨aa,ca,G⟩:=B.shape;simp only[List.length_append,List.length_singleton]at G;subst G;have R:=hid B;have E:=hid t;clear B t);go_roundg m
      case measure=>omega
      case rel=>
       refine⟨false,s3,ps++[tr],S3,rfl,R.out,E3.out.off E.out c0,(p.out.trans T3.out).off E.out,B1.out,?_,?_,f2.out⟩
       ·omega
       ·rw[Nd.sizes_append];show Nd.sizes ps+(tr.size+0)≤3*s3.r.at_;omega
section
variable {l:List UInt8} {C:Option (ES→Nd×ES)} {inner:Bool} {n:Nat} {s:ES} {ts:List Nd}
theorem Zht(h:¬l[s.r.at_]? =some 124):Zat l C inner (n+1) s ts=(Za3 ts,s):=by rw[Zat,if_neg h]
theorem Zjm(h:l[s.r.at_]? =some 124){t:Nd}{s':ES}(hb:Zab l C inner (s.go 1)=(t,s')):Zat l C inner (n+1) s ts=Zat l C inner n s' (ts++[t]):=by rw[Zat,if_pos h,hb]
end
def ChR(b:Nat)(l:List UInt8)(C:Option (ES→Nd×ES))(inner:Bool)(S O:Nat→Prop)(w:World)(F:Nd×ES)(n:Nat)(v5:Value)(wr:World):Prop:=
 ∃s ts S',Pts S' O w wr ts v5∧Erd b l s S' wr∧Stp S w S' wr∧Sane l s.r∧l.length<n+s.r.at_∧Nd.sizes ts≤3*s.r.at_+1∧Zat l C inner n s ts=F
theorem Zgg(b:Nat)(l:List UInt8)(W0:World)(deep:Nat)(C:Option (ES→Nd×ES))(s:ES)(S O:Nat→Prop)(w:World)(hO:∀k,O k→k<w.heap.size)(hl:l.length≤100000)(hd:deep≤12)(hE0:Env W0)
 (hG:GrX l W0 deep C) (hC:∀f,C=some f→∀s,Sane l s.r→Kp l s (f s) 2) (hs:Sane l s.r) (hW:Wd W0 S w) (h:Erd b l s S w):
 Calls Tryz.prog 37 #[.pointer (some ⟨b,0,none⟩),.int .i64 deep] w (Zmo b l S O w (Zb8 l C (decide (0<deep)) s)):=by
 obtain⟨F,hF⟩:∃F,Zb8 l C (decide (0<deep)) s=F:=⟨_,rfl⟩;rw[hF];have g:=hid (fun(s:ES) (S O:Nat→Prop) (w:World) (hO:∀k,O k→k<w.heap.size) (hs:Sane l s.r) (hW:Wd W0 S w) (h:Erd b l s S w)=>er_branch b l W0 deep C s S O w hO hl hd hE0 hG hC hs hW h);obtain⟨inner,K⟩:∃inner,decide (0<deep)=inner:=⟨_,rfl⟩;rw[K]at g hF;have HW:=hid hW;have HC:=hid hC;have c:=hid hO;unfold Zb8 at hF;have h0:=g.out s S O w hO hs hW h;have hk:=Zbg hC (inner:=inner) hs;have a4:=h.lt;obtain⟨t,s1,I⟩:∃t s1,Zab l C inner s=(t,s1):=⟨_,_,rfl⟩;rw[I]at h0 hk hF;simp only at hF;obtain⟨k1,k2,k3,_⟩:=hk;have k1:Sane l s1.r:=k1;have k3:t.size+3*s.r.at_≤3*s1.r.at_+1:=k3;have H0:=hid h0;have HF:=hid hF;have K1:=hid k1;clear hW hC hE0 hO h hG K h0 I hF k1 hs;go_enter Tryz.func37,Tryz.ntmps37;go_wp2_with fail;with_reducible refine(H0.out).mono ?_
 rintro e w1 ⟨v1,S1,rfl,y,r1,t1⟩;have M:=Pts.one (W:=w) y ((HW.out.stp t1).lt) (fun k hk=>Nat.lt_of_lt_of_le (c.out k hk) t1.fr.size) t1.fr.size rfl;have o:=ZdL y;have E:=hid M;have R1:=hid r1;have T1:=hid t1;clear H0 M y r1 t1;rcases o with rfl|⟨vi,vy,rfl⟩
 all_goals
  go_wp2_with fail
  go_loopg [5] (l.length+1) (fun n v wr=>ChR b l C inner S O w F n v wr)
  case atStart=>exact⟨s1,[t],S1,E.out,R1.out.on ((Fr.refl _ _).alloc _),T1.out.trans (Stp.of ((Fr.refl _ _).alloc _)),K1.out,by omega,by show t.size+0≤_;omega,HF.out⟩
  case round=>
   clear E R1 T1 K1 HF k2 k3;obtain⟨s,ts,S1,hp,hr,q,p,hn,hz,hF⟩:=hrel;have Q:=p.le;obtain⟨m,rfl⟩:∃m,gk=m+1:=⟨gk-1,by omega⟩;obtain⟨av,H,hv⟩:=hp.shape;subst hv;obtain⟨v5,u⟩:∃v5,v5=Value.slice av ts.length H:=⟨_,rfl⟩;have hT:Calls Tryz.prog 59 #[.pointer (some ⟨b,0,none⟩),.int .i32 124] wr fun x w'=>x=.returned (.bool (decide (l[s.r.at_]? =some 124)))∧Erd b l (if l[s.r.at_]? =some 124 then s.go 1 else s) S1 w'∧Stp S1 wr S1 w':=Zfm b l 124 s S1 wr hl Q hr;have HP:=hid (show Pts S1 O w wr ts v5 from u▸hp);have a:=hid q;have G:=hid p;have HF:=hid hF;have a1:=hid u;have i:=hid (HW.out.stp q);have a5:=Nd.length_le ts;clear hr q p hF u;by_cases e1:l[s.r.at_]? =some 124
   ·rw[decide_eq_true e1,if_pos e1]at hT;have L:=ZK e1;have HT:=hid hT;clear hT hp;go_wp2_with fail;with_reducible refine HT.out.mono ?_
    rintro e w2 ⟨rfl,r2,t2⟩;have N:=HP.out.stp t2;have h5:=g.out (s.go 1) S1 (PO O v5) w2 (N.lt (fun k hk=>Nat.lt_of_lt_of_le (c.out k hk) (Nat.le_trans a.out.fr.size t2.fr.size))) (G.out.goE L) (i.out.stp t2) r2;have hk:=Zbg HC.out (inner:=inner) (G.out.goE (n:=1) L);obtain⟨t5,s5,hb⟩:∃t5 s5,Zab l C inner (s.go 1)=(t5,s5):=⟨_,_,rfl⟩;rw[hb]at h5 hk;obtain⟨j1,j2,j3,_⟩:=hk;have j1:Sane l s5.r:=j1;have j2:s.r.at_+1≤s5.r.at_:=j2;have j3:t5.size+3*(s.r.at_+1)≤3*s5.r.at_+1:=j3;have hF:=HF.out;rw[Zjm e1 hb]at hF;have H5:=hid h5;have T2:=hid t2;have J1:=hid j1;have U:=hid hF;clear h5 t2 j1 hF N r2 hb e1;go_wp2_with fail;with_reducible refine H5.out.mono ?_
    rintro e w5 ⟨v6,S5,rfl,A,r5,R⟩;have T5:=hid (T2.out.trans R);have a3:=hid A;have R5:=hid r5;have o:=ZdL A;clear A r5 R;have X:=hid (HP.out.stp T5.out);have B:=hid (i.out.stp T5.out).lt;have V:=hid (show∀k,O k→k<w5.heap.size from fun k hk=>Nat.lt_of_lt_of_le (c.out k hk) (Nat.le_trans a.out.fr.size T5.out.fr.size));have a2:=hid (Nat.le_trans a.out.fr.size T5.out.fr.size);rcases o with rfl|⟨vi,vy,rfl⟩
    all_goals
     go_wp2_with(at_builtin;refine wpList_append_pts (W:=w) (S:=S5) (O:=O) rfl (.tmp 12) (.tmp 16) rfl ts t5 v5 _ _ _ (by rw[a1.out];rfl) X.out B.out V.out a2.out rfl (by rfl) a3.out (by omega) ?_;intro va wa j d;obtain⟨aa,ca,J⟩:=j.shape;simp only[List.length_append,List.length_singleton]at J;subst J;have Y:=hid j;have D:=hid d;clear j d);go_roundg m
     case measure=>omega
     case rel=>
      refine⟨s5,ts++[t5],S5,Y.out,R5.out.off D.out a4,(a.out.trans T5.out).off D.out,J1.out,by omega,?_,U.out⟩;rw[Nd.sizes_append];show Nd.sizes ts+(t5.size+0)≤3*s5.r.at_+1;omega
   ·rw[decide_eq_false e1,if_neg e1]at hT;have hF:=HF.out;rw[Zht e1]at hF;subst hF;have HT:=hid hT;have Z:=hid hp;clear hT HF hp;go_wp2_with fail;with_reducible refine HT.out.mono ?_
    rintro e w2 ⟨rfl,r2,t2⟩;have hJ:=Zd4 (SO S1 O) ts (.slice av ts.length H) w2 (fun k hk=>hk.elim ((i.out.stp t2).lt k) (fun x=>Nat.lt_of_lt_of_le (c.out k x) (Nat.le_trans a.out.fr.size t2.fr.size))) (by omega) ((Z.out.stp t2).sn c.out);have HJ:=hid hJ;have R2:=hid r2;have T2:=hid t2;clear hJ r2 t2;go_wp2_with fail;refine(HJ.out).mono ?_;rintro e wj ⟨r,rfl,P,fj⟩;have a0:=hid P;have FJ:=hid fj;clear P fj;go_wp2;go_ret;exact⟨r,S1,rfl,a0.out,R2.out.on FJ.out,(a.out.trans T2.out).trans (Stp.of FJ.out)⟩
theorem ZkO(l:List UInt8)(W0:World)(hl:l.length≤100000)(hE0:Env W0):∀n deep,n+deep=12→ChX l W0 deep (chX l n)
 |0,deep,hd=>by
  obtain rfl:deep=12:=by omega
  intro b s S O w hO hs hW h;have hG:GrX l W0 12 none:=fun b s S O w _ _ _ _ h=>Zfn b l s S O w hl h;have:=Zgg b l W0 12 none s S O w hO hl (Nat.le_refl _) hE0 hG (fun f hf=>by cases hf) hs hW h;rw[chX];exact this
 |n+1,deep,hd=>by
  intro b s S O w hO hs hW h;have ih:=ZkO l W0 hl hE0 n (deep+1) (by omega);have hG:GrX l W0 deep (some (chX l n)):=fun b s S O w hO hs h1 hW h=>Zmr b l W0 deep (chX l n) s S O w hO hl (by omega) ih (chX_kept n) hs h1 hW h;have:=Zgg b l W0 deep (some (chX l n)) s S O w hO hl (by omega) hE0 hG (fun f hf=>by injection hf with hf;subst hf;exact chX_kept n) hs hW h;rw[chX,show decide (n+1<12)=decide (0<deep)from by congr 1;exact propext ⟨fun _=>by omega,fun _=>by omega⟩];exact this
theorem Zms:(Tryz.prog.info? 21).map (fun i=>(i.zero,i.size,i.bytes))=some (some (.int .i32 0),1,4):=by kernel_rfl
theorem Zgh(a b:List UInt8):Zbk (a++b)=Zbk a++Zbk b:=by simp[Zbk]
def Zqw(l x:List UInt8)(w:World)(it n:Nat)(v:Value)(wr:World):Prop:=
 ∃k:Nat,k≤l.length∧l.length<n+k∧wr.heap[it]? =some (.stringIter ⟨x.toArray⟩ (wide (l.take k)).length)∧wr.ownsRow 0 21 1 v k (Zbk (l.take k))∧(∀j,v.ownBlock=some j→it<j)∧Fr nob w wr
theorem Zmt(l:List UInt8)(w:World)(hl:l.length≤100000):
 Calls Tryz.prog 36 #[.string ⟨l.toArray⟩] w fun e w'=>∃v,e=.returned v∧w'.ownsRow 0 21 1 v l.length (Zbk l)∧(∀j,v.ownBlock=some j→w.heap.size≤j)∧Fr nob w w':=by
 obtain⟨i0,hi,S,U,V⟩:=info_parts Zms;have hW:=ZlR l w (by omega);obtain⟨x,hx⟩:∃x,wide l=x:=⟨_,rfl⟩;rw[hx]at hW;have HX:=hid hx;have O:=hid hW;clear hx hW;go_enter Tryz.func36,Tryz.ntmps36;go_wp2_with fail;with_reducible refine O.out.mono ?_
 rintro e w3 ⟨rfl,f3⟩;have F:=hid f3;clear f3;go_wp2_with fail
 go_loopg [3] (l.length+1) (fun n v wr=>Zqw l x w w3.heap.size n v wr)
 case atStart=>exact⟨0,Nat.zero_le _,by omega,heap_alloc_new _ _,World.ownsRow_nil _ _ _ _,fun j h=>(by cases h),F.out.alloc _⟩
 case round=>
  obtain⟨k,hk,hn,H,f,q,E⟩:=hrel;obtain⟨m,rfl⟩:∃m,gk=m+1:=⟨gk-1,by omega⟩;obtain⟨av,cv,rfl⟩:=Zb f;have HI:=hid H;have HO:=hid f;have d:=hid q;have A:=hid E;clear H f q E;by_cases o:k<l.length
  ·have r:(wide (l.take k)).length<x.length:=by rw[←HX.out];exact Zns o
   have p:∀ty,(Instr.next (.pointer (some ⟨w3.heap.size,0,none⟩)) true ty).run Tryz.prog wr=.ok (.tuple #[.bool true,.int .i64 ((wide (l.take k)).length:Nat),.int .i32 (l[k].toNat:Nat)]) (wr.iterAt w3.heap.size ⟨x.toArray⟩ (wide (l.take (k+1))).length):=by
    intro ty;have:=Lib.run_next_any_at (P:=Tryz.prog) wr w3.heap.size ⟨x.toArray⟩ (wide (l.take k)).length ty HI.out (by rw[Zbp];exact r);rw[ZiT r (by rw[←HX.out];exact Znr o)]at this;rw[ZfD o,List.length_append];exact this
   have y:=Lib.iterAt_heap wr w3.heap.size ⟨x.toArray⟩ _ (wide (l.take (k+1))).length HI.out;have X:w.heap.size≤w3.heap.size:=F.out.size;have t:=ZjS wr w3.heap.size ⟨x.toArray⟩ (wide (l.take (k+1))).length;have s:Fr nob w (wr.iterAt w3.heap.size ⟨x.toArray⟩ (wide (l.take (k+1))).length):=A.out.trans t (fun i hi e=>by omega);have b:=ownsRow_fr HO.out t (fun j hj e=>by have:=d.out j hj;omega);obtain⟨w4,hw⟩:∃w4,wr.iterAt w3.heap.size ⟨x.toArray⟩ (wide (l.take (k+1))).length=w4:=⟨_,rfl⟩;rw[hw]at p y s b;obtain⟨c,hc⟩:∃c,l[k]=c:=⟨_,rfl⟩;rw[hc]at p;have hT:Zbk (l.take (k+1))=Zbk (l.take k)++[.int .i32 (c.toNat:Int)]:=by rw[List.take_succ_eq_append_getElem o,Zgh,hc];rfl
   have B:=hid y;have J:=hid s;have M:=hid b;have HT:=hid hT;clear hw y s r t b hT hc;go_wp2_with(at_builtin;refine wpList_append_g rfl _ _ 89 rfl 21 i0 (.int .i32 0) 1 4 Tryz.underlying89 hi S U V rfl (by decide) _ _ _ rfl (ownsRow_fr M.out ((Fr.refl nob w4).alloc _) (fun _ _ x=>x)) ⟨w4.heap.size,0,none⟩ 1 1 [.int .i32 (c.toNat:Int)] rfl rfl ?c1 ?c2 ?c3 ?c4 ?_)
   case c1=>intro j u hj;match j,hj with|0,hj=>simp at hj;subst hj;simp[Addr.add]
   case c2=>intro u hu;simp at hu;subst hu;rfl
   case c3=>unfold maxLen;omega
   case c4=>omega
   intro v' w5 a g;obtain⟨Q,R,rfl⟩:=Zb a;have W:w3.heap.size<w4.heap.size:=lt_heap B.out;have G:=g.fr.heap (heap_alloc_lt (.cells #[.int .i32 (c.toNat:Int)] 21) B.out) (fun e=>by have:=d.out _ e;omega);have D:Fr nob w w5:=(J.out.alloc _).trans g.fr (fun i hi e=>by have:=d.out _ e;omega);have C:∀j,(Value.slice Q (k+1) R).ownBlock=some j→w3.heap.size<j:=fun j hj=>by
    rcases g.old j hj with h1|h1
    ·exact d.out j h1
    ·simp at h1;omega
   have L:=hid G;have K:=hid D;have I:=hid C;have N:=hid a;clear G D C a g p;go_wp2;go_roundg m
   case measure=>omega
   case rel=>exact⟨k+1,by omega,by omega,L.out,by rw[HT.out];exact N.out,I.out,K.out⟩
  ·obtain rfl:k=l.length:=by omega
   have hT:(wide (l.take l.length)).length=x.length:=by rw[List.take_of_length_le (Nat.le_refl _),HX.out]
   have p:∀ty,(Instr.next (.pointer (some ⟨w3.heap.size,0,none⟩)) true ty).run Tryz.prog wr=.ok (.tuple #[.bool false]) wr:=by
    intro ty;exact Lib.run_next_end_at (P:=Tryz.prog) wr w3.heap.size ⟨x.toArray⟩ _ ty HI.out (by rw[Zbp,hT];omega)
   clear hT;go_wp2;go_ret;refine⟨_,rfl,?_,?_,A.out⟩
   ·have:=HO.out;rwa[List.take_of_length_le (Nat.le_refl _)]at this
   ·intro j hj;have:=d.out j hj;have:=F.out.size;omega
def Z2(R:Out Nd)(w:World)(e:Ending)(w':World):Prop:=Fr nob w w'∧match R with
 | .inl (z,p)=>e=.returned (.tuple #[.nilIface,.slice none 0 0,.int .i64 (p:Nat),.int .i64 z])
 | .inr (t,s)=>∃r mv,e=.returned (.tuple #[r,mv,.int .i64 0,.int .i64 0])∧RN (fun k=>k<w.heap.size) w' t r∧OwM w' s.marks mv∧∀k,mv.ownBlock=some k→w.heap.size≤k
theorem ZeI(l:List UInt8)(w:World)(hl:l.length≤100000)(hE:Env w):
 Calls Tryz.prog 12 #[.string ⟨l.toArray⟩] w (Z2 (Zac prg true l) w):=by
 unfold Zac;by_cases d:250<l.length
 ·have I:(250:Int)<(l.length:Int):=by omega
  rw[if_pos d];go_enter Tryz.func12,Tryz.ntmps12;go_wp2;exact bodyPost_ret (results_tmp4 rfl _ _ _) rfl ⟨Fr.refl _ _,rfl⟩
 ·have I:¬(250:Int)<(l.length:Int):=by omega
  rw[if_neg d];obtain⟨D,hD⟩:∃D,chD prg true l 12 ⟨0,0,[],[]⟩=D:=⟨_,rfl⟩;rw[hD];have n:=ZpB (l:=l) 12 ⟨0,0,[],[]⟩;rw[hD]at n;have hS:=Zmt l w hl;have HS:=hid hS;have v:=hid n;clear hS n hD d;go_enter Tryz.func12,Tryz.ntmps12;go_wp2_with fail;with_reducible refine HS.out.mono ?_
  rintro e w1 ⟨sv,rfl,b,C,f1⟩;obtain⟨av,cv,rfl⟩:=Zb b;have N:∀W,(Instr.makeMap 91 none).run Tryz.prog W=.ok (.map (some W.heap.size)) (W.alloc (.map #[] 0)):=fun W=>by simp[Instr.makeMap,Result.andThen]
  obtain⟨m,hm⟩:∃m,w1.heap.size=m:=⟨_,rfl⟩;obtain⟨w3,c⟩:∃w3,w3=(w1.alloc (.map #[] 0)).alloc (.cells #[.string ⟨l.toArray⟩,.slice av l.length cv,.int .i64 0,.int .i64 0,.map (some w1.heap.size),.slice none 0 0,.int .i64 0,.int .i64 0] 93):=⟨_,rfl⟩;have L:w3.heap.size=w1.heap.size+2:=by rw[c];simp
  have a:Fr nob w1 w3:=by rw[c];exact((Fr.refl nob w1).alloc _).alloc _
  have A:Er (w1.heap.size+1) l ⟨⟨0,0,[],[]⟩,none⟩ (fun k=>k=w1.heap.size+1∨k=w1.heap.size) (.slice av l.length cv) w1.heap.size (.slice none 0 0) w3:=by
   refine⟨by rw[c];exact heap_alloc_new' _ _ _ (by simp),ownsRow_fr b a (fun _ _ x=>x),Zuc.new (by rw[c];exact heap_alloc_lt _ (newAt0 w1 _)),World.ownsRow_nil _ _ _ _,fun _ h=>(by cases h),by omega,fun k hk=> ?_,.inl rfl,.inr rfl,fun z h=>(by cases h)⟩;have:=Z3 b k hk;exact⟨by omega,by omega⟩
  have B:Wd w (fun k=>k=w1.heap.size+1∨k=w1.heap.size) w3:=⟨f1.trans' a,fun k hk=>by have:=f1.size;omega,fun k hk=>by omega⟩;have o:=ZkO l w hl hE 12 0 rfl (w1.heap.size+1) ⟨⟨0,0,[],[]⟩,none⟩ (fun k=>k=w1.heap.size+1∨k=w1.heap.size) (fun k=>k<w.heap.size) w3 (fun k (hk:k<w.heap.size)=>by have:=f1.size;omega) ⟨Nat.zero_le _,Nat.le_refl _,Nat.le_refl _,Nat.le_refl _⟩ B ⟨_,_,_,A⟩;rw[show((0:Nat):Int)=0 from rfl]at o;have E:=hid o;have H3:=hid c;have F3:=hid (f1.trans' a);have y:=hid f1.size;clear o c A B a b C f1 hm L;go_wp2_with(rw[←H3.out]);with_reducible refine E.out.mono ?_
  rintro e w4 ⟨v4,M,rfl,g,⟨Q,m4,P,e4⟩,t4⟩;have rr:=rule8 e4.blk;have f:Fr nob w w4:=F3.out.trans t4.fr (fun i hi x=>by have:=y.out;rcases x with x|x<;>omega);cases D with
  |inl z=>
   obtain⟨z,p⟩:=z;obtain⟨hx,_⟩:(chX l 12 ⟨⟨0,0,[],[]⟩,none⟩).2.x=some (z,p)∧_:=v.out;have hz:=e4.ok _ hx;have hz:z≠0:=hz;rw[hx]at rr;have O:((z:Int) !=0)=true:=by simpa using hz
   have j:=hid f;clear hx e4 t4 g f;have u:=rr w4 (Fr.refl nob w4);unfold eX pX at rr u;go_wp2_with fail;refine region_fr 11 (by kernel_rfl) (by kernel_rfl) ?_;simp only[List.take_succ_cons,List.take_zero,List.drop_succ_cons,List.drop_zero]
   repeat(quiet_step (fail))
   refine wpQuiet_nil ?_;intro w5 f5;go_wp2;exact bodyPost_ret (results_tmp4 rfl _ _ _) rfl ⟨j.out.trans' f5,rfl⟩
  |inr q=>
   obtain⟨t,s⟩:=q;have hx:chX l 12 ⟨⟨0,0,[],[]⟩,none⟩=(t,⟨s,none⟩):=v.out;rw[hx]at rr g e4;have r:=e4.ma;obtain⟨am,cm,K⟩:=Zb r;subst K;have j:=hid f;have F:=hid r;have H:=hid (RN.keep (Fr.refl nob w4) (fun _ _ x=>x.elim) (fun _ _ x=>.inr x) _ _ g:RN (fun k=>k<w.heap.size) w4 t v4);have G:=hid (show∀k,(Value.slice am s.marks.length cm).ownBlock=some k→w.heap.size≤k from fun k hk=>by
    have h1:=e4.nm k hk;have h2:=y.out;by_cases J:k<w3.heap.size
    ·rcases t4.old k J h1.2.2 with x|x<;>omega
    ·have:=F3.out.size;omega)
   clear hx e4 t4 g f r;have u:=rr w4 (Fr.refl nob w4);unfold eX pX at rr u;go_wp2_with fail;refine region_fr 6 (by kernel_rfl) (by kernel_rfl) ?_;simp only[List.take_succ_cons,List.take_zero,List.drop_succ_cons,List.drop_zero]
   repeat(quiet_step (fail))
   refine wpQuiet_nil ?_;intro w5 f5;go_wp2;exact bodyPost_ret (results_tmp4 rfl _ _ _) rfl ⟨j.out.trans' f5,v4,_,rfl,H.out.on f5,ownsRow_fr F.out f5 (fun _ _ x=>x),G.out⟩
end Go.Proofs.YtgllcniibbaoaaaGreatDoor
