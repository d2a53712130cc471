/- Lemmas of this claim. -/
import Derived.Test.YtkfddjopbocpkaaGreatDoorM16
set_option linter.unusedVariables false
set_option linter.unusedSimpArgs false
set_option maxRecDepth 100000
set_option maxHeartbeats 4000000
namespace Go.Proofs.YtkfddjopbocpkaaGreatDoor
open Go.Lib (hid)
open Go.RowKit
section
variable {b:Nat} {l:List UInt8} {s:ES} {S:Nat→Prop} {W w w':World}
theorem Erd.off(h:Erd b l s S w)(f:Off S W w w')(hW:b<W.heap.size):Erd b l s S w':=by
 obtain⟨sv,m,mv,h⟩:=h;obtain⟨X,f,hX⟩:=f;exact⟨sv,m,mv,f.heap h.blk (fun x=>(hX _ x).1 h.me),ownsRow_fr h.sg f (fun k hk x=>by have:=(hX _ x).2;have:=(h.ns k hk).1;omega),h.mp.fr f (fun x=>(hX _ x).1 h.mm),ownsRow_fr h.ma f (fun k hk x=>(hX _ x).1 (h.nm k hk).2.2),h.nm,h.bm,h.ns,h.me,h.mm,h.ok⟩
theorem Erd.lt(h:Erd b l s S w):b<w.heap.size:=by obtain⟨_,_,_,h⟩:=h;exact lt_heap h.blk
end
theorem ZcW{l:List UInt8}{s:ES}{e:Int}{p:Nat}:l[(s.fail l e p).r.at_]? =none:=by show l[l.length]? =none;simp
theorem Zgf{l:List UInt8}{C:Option (ES→Nd×ES)}{s:ES}{c:UInt8}(h:(Zax l C s c).1=.nil):l[(Zax l C s c).2.r.at_]? =none:=by
 obtain⟨q,hq⟩:∃q,Zax l C s c=q:=⟨_,rfl⟩;rw[hq]at h⊢;unfold Zax at hq;split at hq
 ·unfold ZbA at hq;cases C with
  |none=>subst hq;exact ZcW
  |some f=>subst hq;cases h
 ·split at hq
  ·subst hq;exact ZcW
  ·split at hq
   ·unfold ZkG at hq;cases hc:l[s.r.at_+1]? with
    |none=>rw[hc]at hq;subst hq;exact ZcW
    |some d=>
     rw[hc]at hq;simp only at hq;split at hq
     ·subst hq;cases h
     ·split at hq<;>(subst hq;cases h)
   ·split at hq
    ·split at hq
     ·subst hq;exact ZcW
     ·subst hq;cases h
    ·split at hq<;>(subst hq;cases h)
def BrX(b:Nat)(l:List UInt8)(C:Option (ES→Nd×ES))(inner:Bool)(S O:Nat→Prop)(w:World)(F:Nd×ES)(n:Nat)(v5 v6:Value)(wr:World):Prop:=
 ∃front s ps S',v6=.bool front∧Pts S' O w wr ps v5∧Erd b l s S' wr∧Stp S w S' wr∧Sane l s.r∧l.length<n+s.r.at_∧Nd.sizes ps≤3*s.r.at_∧brX l C inner n front s ps=F
def spc(c:UInt8):Bool:=c==42||(c==43||(c==63||c==123))
theorem spc_iff{c:UInt8}:spc c=true↔(c=42∨c=43∨c=63∨c=123):=by simp[spc]
theorem ZdL{S:Nat→Prop}{w:World}{t:Nd}{v:Value}(h:RN S w t v):v=.nilIface∨∃i y,v=.iface i y:=by
 rcases h.kind' with rfl|h'
 ·rw[RN]at h;exact .inl h
 ·exact .inr h'
theorem er_branch(b:Nat)(l:List UInt8)(W0:World)(deep:Nat)(C:Option (ES→Nd×ES))(s:ES)(S O:Nat→Prop)(w:World)(hO:∀k,O k→k<w.heap.size)(hl:l.length≤100000)(hd:deep≤12)(hE0:Env W0)
 (hG:GrX l W0 deep C) (hC:∀f,C=some f→∀s,Sane l s.r→Kp l s (f s) 2) (hs:Sane l s.r) (hW:Wd W0 S w) (h:Erd b l s S w):
 Calls Tryz.prog 213 #[.pointer (some ⟨b,0,none⟩),.int .i64 deep] w (Zmo b l S O w (Zab l C (decide (0<deep)) s)):=by
 obtain⟨inner,hin⟩:∃inner,decide (0<deep)=inner:=⟨_,rfl⟩;obtain⟨F,hF⟩:∃F,Zab l C inner s=F:=⟨_,rfl⟩;rw[hin,hF];obtain⟨fu,hfu,hfl⟩:∃fu,(if sgn l s.r.at_==[94]then l.length+2 else l.length+1)=fu∧l.length<fu:=⟨_,rfl,by split<;>omega⟩;unfold Zab at hF;rw[hfu]at hF;have HSN:=hid hs;have HW:=hid hW;have HG:=hid hG;have HC:=hid hC;have HE0:=hid hE0;have HOO:=hid hO;have HH:=hid h;have HF:=hid hF;have hbw:=h.lt;have hdI:inner=true→(0:Int)<deep:=fun e=>by rw[e]at hin;have:=of_decide_eq_true hin;omega
 have hdN:inner=false→¬(0:Int)<deep:=fun e=>by rw[e]at hin;have:=of_decide_eq_false hin;omega
 have HDI:=hid hdI;have HDN:=hid hdN;clear hs hW hG hC hE0 hO h hin hfu hF hdI hdN;go_enter Tryz.func213,Tryz.ntmps213;go_wp2_with fail
 go_loopg [5,6] fu (fun n u v wr=>BrX b l C inner S O w F n u v wr)
 case atStart=>exact⟨true,s,[],S,rfl,Pts.nil _ _ _ _,HH.out,Stp.refl _ _,HSN.out,by omega,Nat.zero_le _,HF.out⟩
 case round=>
  clear HH HSN HF hfl;obtain⟨front,s,ps,S1,rfl,hp,hr,hst,hsn,hn,hz,hF⟩:=hrel;have hsle:=hsn.le;obtain⟨m,rfl⟩:∃m,gk=m+1:=⟨gk-1,by omega⟩;obtain⟨av,cv0,hv⟩:=hp.shape;subst hv;obtain⟨v5,hv5⟩:∃v5,v5=Value.slice av ps.length cv0:=⟨_,rfl⟩;have hN:=Zea b l s S1 wr hl hsle hr;have HP:=hid (show Pts S1 O w wr ps v5 from hv5▸hp);have HR:=hid hr;have HST:=hid hst;have HSN:=hid hsn;have HF:=hid hF;have HV5:=hid hv5;have HW1:=hid (HW.out.stp hst);have HJ:=hid (fun(w':World) (f:Fr nob wr w')=>joinS_any (SO S1 O) ps (.slice av ps.length cv0) w' (fun k hk=>Nat.lt_of_lt_of_le (hk.elim ((HW.out.stp hst).lt k) (fun x=>Nat.lt_of_lt_of_le (HOO.out k x) hst.fr.size)) f.size) (by omega) ((hp.on f).sn HOO.out));have hpl:=Nd.length_le ps;clear hp hr hst hsn hF hv5;cases hc:l[s.r.at_]? with
  |none=>
   rw[hc]at hN;have hN:Calls Tryz.prog 223 #[.pointer (some ⟨b,0,none⟩)] wr fun x w'=>x=.returned (.int .i32 (-1))∧Fr nob wr w':=hN;have HN:=hid hN;have hF:=HF.out;rw[brX,hc]at hF;simp only at hF;subst hF;clear HF hN hc;go_wp2_with fail;with_reducible refine HN.out.mono ?_
   rintro e w1 ⟨rfl,f1⟩;have F1:=hid f1;clear f1;go_wp2_with fail;refine(HJ.out _ F1.out).mono ?_;rintro e wj ⟨r,rfl,hrj,fj⟩;have HRJ:=hid hrj;have FJ:=hid (F1.out.trans' fj);clear hrj fj;go_wp2;go_ret;exact⟨r,S1,rfl,HRJ.out,HR.out.on FJ.out,HST.out.trans (Stp.of FJ.out)⟩
  |some c=>
   have hlt:=ZK hc;rw[hc]at hN;have hN:Calls Tryz.prog 223 #[.pointer (some ⟨b,0,none⟩)] wr fun x w'=>x=.returned (.int .i32 (c.toNat:Int))∧Fr nob wr w':=hN;have HN:=hid hN;have hcb:=c.toNat_lt;have tm:((c.toNat:Int)== -1)=false:=by first|(simp;done)|(simp;omega)
   have hF:=HF.out;rw[brX,hc]at hF;simp only at hF;obtain⟨sv,mm,mv,hE⟩:=HR.out;have HE:=hid hE;clear HF hN hE;by_cases h41:c=41
   ·have t41:((c.toNat:Int)==41)=true:=Zcy (b:=41) h41;cases hi:inner with
    |true=>
     have hdeep:=HDI.out hi;rw[if_pos (.inl ⟨h41,hi⟩)]at hF;subst hF;clear hc;go_wp2_with fail;with_reducible refine HN.out.mono ?_
     rintro e w1 ⟨rfl,f1⟩;have F1:=hid f1;clear f1;go_wp2_with fail;refine(HJ.out _ F1.out).mono ?_;rintro e wj ⟨r,rfl,hrj,fj⟩;have HRJ:=hid hrj;have FJ:=hid (F1.out.trans' fj);clear hrj fj;go_wp2;go_ret;exact⟨r,S1,rfl,HRJ.out,HR.out.on FJ.out,HST.out.trans (Stp.of FJ.out)⟩
    |false=>
     have hdeep:=HDN.out hi;have h124:¬c=124:=by rw[h41];decide
     have h94:¬c=94:=by rw[h41];decide
     have h36:¬c=36:=by rw[h41];decide
     rw[if_neg (fun h=>h.elim (fun h=>by rw[hi]at h;cases h.2) h124),if_neg h94,if_neg h36]at hF;have hfr:Zd9 l front s c=s.fail l 8 s.r.at_:=by unfold Zd9;rw[if_pos h41]
     have hfr2:(if(Zd9 l front s c).x.isSome then(Nd.nil,Zd9 l front s c)else brX l C inner m false (ZbR l (l.length+1) (Zax l C s c).2 (Zax l C s c).1).2 (ps++[(ZbR l (l.length+1) (Zax l C s c).2 (Zax l C s c).1).1]))=(Nd.nil,s.fail l 8 s.r.at_):=by rw[hfr];rfl
     clear hfr hc;go_wp2_with fail;with_reducible refine HN.out.mono ?_
     rintro e w1 ⟨rfl,f1⟩;have F1:=hid f1;clear f1;have hf:=Za4 b l s S1 8 s.r.at_ w1 hl (by decide) (HR.out.on F1.out);have hE1:=HE.out.on F1.out;have rr:=Zae hE1.blk _ (Fr.refl _ _);rw[hfr2]at hF;have hF:(Nd.nil,s.fail l 8 s.r.at_)=F:=hF;subst hF;have HFL:=hid hf;clear hf hE1;go_wp2_with fail;with_reducible refine HFL.out.mono ?_
     rintro e w2 ⟨rfl,⟨sv2,m2,mv2,e2⟩,t2'⟩;have rr2:=Zae e2.blk _ (Fr.refl _ _);have hex:eX (s.fail l 8 s.r.at_).x≠0:=e2.ok _ rfl;obtain⟨ev,hev⟩:∃ev,eX (s.fail l 8 s.r.at_).x=ev:=⟨_,rfl⟩;rw[hev]at rr2 hex;have hex':((ev:Int) !=0)=true:=by simpa using hex
     have E2:=hid e2;have T2:=hid ((Stp.of F1.out).trans t2');clear e2 t2' hev rr;go_wp2;go_ret;exact⟨.nilIface,S1,rfl,by rw[RN],⟨_,_,_,E2.out⟩,HST.out.trans T2.out⟩
   ·have t41:((c.toNat:Int)==41)=false:=Zn (b:=41) h41;by_cases h124:c=124
    ·have t124:((c.toNat:Int)==124)=true:=Zcy (b:=124) h124;rw[if_pos (.inr h124)]at hF;subst hF;clear hc;go_wp2_with fail;with_reducible refine HN.out.mono ?_
     rintro e w1 ⟨rfl,f1⟩;have F1:=hid f1;clear f1;go_wp2_with fail;refine(HJ.out _ F1.out).mono ?_;rintro e wj ⟨r,rfl,hrj,fj⟩;have HRJ:=hid hrj;have FJ:=hid (F1.out.trans' fj);clear hrj fj;go_wp2;go_ret;exact⟨r,S1,rfl,HRJ.out,HR.out.on FJ.out,HST.out.trans (Stp.of FJ.out)⟩
    ·have t124:((c.toNat:Int)==124)=false:=Zn (b:=124) h124;rw[if_neg (fun h=>h.elim (fun h=>h41 h.1) h124)]at hF;by_cases h94:c=94
     ·have t94:((c.toNat:Int)==94)=true:=Zcy (b:=94) h94;rw[if_pos h94]at hF;have hF2:=hid hF;clear hF hc;go_wp2_with fail;with_reducible refine HN.out.mono ?_
      rintro e w1 ⟨rfl,f1⟩;have F1:=hid f1;clear f1;have hE1:=HE.out.on F1.out;have rr:=Zae hE1.blk _ (Fr.refl _ _);have hE2:=hE1.turned 2 (.int .i64 ((s.r.at_:Int)+1)) (s.go 1) (by simp[RxS.go,ES.go]) rfl rfl hE1.ok;have t2:=(Stp.of F1.out).trans (hE1.stp 2 (.int .i64 ((s.r.at_:Int)+1)));obtain⟨w2,hw2⟩:∃w2,w2=w1.setCell ⟨b,2,none⟩ (.int .i64 ((s.r.at_:Int)+1)):=⟨_,rfl⟩;rw[←hw2]at hE2 t2;have HP2:=hid (HP.out.stp t2);have HLT2:=hid (HW1.out.stp t2).lt;have HOT:=hid (show∀k,O k→k<w2.heap.size from fun k hk=>Nat.lt_of_lt_of_le (HOO.out k hk) (Nat.le_trans HST.out.fr.size t2.fr.size));have HWS:=hid (Nat.le_trans HST.out.fr.size t2.fr.size);have hsz2:w2.heap.size=w1.heap.size:=by rw[hw2];simp[World.setCell]
      have H2:=hid hw2;have E2:=hid (show Erd b l (s.go 1) S1 w2 from⟨_,_,_,hE2⟩);have T2:=hid t2;clear hE1 hE2 t2 hw2;go_wp2_with(first|(with_reducible rw[←H2.out])|(at_builtin;refine wpList_append_pts (W:=w) (S:=S1) (O:=O) rfl (.tmp 37) (.tmp 40) rfl ps .start v5 (.iface 145 (.agg #[])) _ w1.heap.size (by rw[HV5.out];rfl) HP2.out HLT2.out HOT.out HWS.out hsz2.symm (by rfl) (by rw[RN]) (by omega) ?_;intro va wa hpa offa;obtain⟨aa,ca,hea⟩:=hpa.shape;simp only[List.length_append,List.length_singleton]at hea;subst hea;have HPA:=hid hpa;have HOA:=hid offa;clear hpa offa));go_roundg m
      case measure=>omega
      case rel=>
       refine⟨true,s.go 1,ps++[.start],S1,rfl,HPA.out,E2.out.off HOA.out hbw,(HST.out.trans T2.out).off HOA.out,HSN.out.goE hlt,?_,?_,hF2.out⟩
       ·show l.length<m+(s.r.at_+1);omega
       ·rw[Nd.sizes_append];show Nd.sizes ps+(1+0)≤3*(s.r.at_+1);omega
     ·have t94:((c.toNat:Int)==94)=false:=Zn (b:=94) h94;rw[if_neg h94]at hF;by_cases h36:c=36
      ·have t36:((c.toNat:Int)==36)=true:=Zcy (b:=36) h36;rw[if_pos h36]at hF;have hF2:=hid hF;clear hF hc;go_wp2_with fail;with_reducible refine HN.out.mono ?_
       rintro e w1 ⟨rfl,f1⟩;have F1:=hid f1;clear f1;have hE1:=HE.out.on F1.out;have rr:=Zae hE1.blk _ (Fr.refl _ _);have hE2:=hE1.turned 2 (.int .i64 ((s.r.at_:Int)+1)) (s.go 1) (by simp[RxS.go,ES.go]) rfl rfl hE1.ok;have t2:=(Stp.of F1.out).trans (hE1.stp 2 (.int .i64 ((s.r.at_:Int)+1)));obtain⟨w2,hw2⟩:∃w2,w2=w1.setCell ⟨b,2,none⟩ (.int .i64 ((s.r.at_:Int)+1)):=⟨_,rfl⟩;rw[←hw2]at hE2 t2;have HP2:=hid (HP.out.stp t2);have HLT2:=hid (HW1.out.stp t2).lt;have HOT:=hid (show∀k,O k→k<w2.heap.size from fun k hk=>Nat.lt_of_lt_of_le (HOO.out k hk) (Nat.le_trans HST.out.fr.size t2.fr.size));have HWS:=hid (Nat.le_trans HST.out.fr.size t2.fr.size);have hsz2:w2.heap.size=w1.heap.size:=by rw[hw2];simp[World.setCell]
       have H2:=hid hw2;have E2:=hid (show Erd b l (s.go 1) S1 w2 from⟨_,_,_,hE2⟩);have T2:=hid t2;clear hE1 hE2 t2 hw2;go_wp2_with(first|(with_reducible rw[←H2.out])|(at_builtin;refine wpList_append_pts (W:=w) (S:=S1) (O:=O) rfl (.tmp 51) (.tmp 54) rfl ps .fin v5 (.iface 146 (.agg #[])) _ w1.heap.size (by rw[HV5.out];rfl) HP2.out HLT2.out HOT.out HWS.out hsz2.symm (by rfl) (by rw[RN]) (by omega) ?_;intro va wa hpa offa;obtain⟨aa,ca,hea⟩:=hpa.shape;simp only[List.length_append,List.length_singleton]at hea;subst hea;have HPA:=hid hpa;have HOA:=hid offa;clear hpa offa));go_roundg m
       case measure=>omega
       case rel=>
        refine⟨true,s.go 1,ps++[.fin],S1,rfl,HPA.out,E2.out.off HOA.out hbw,(HST.out.trans T2.out).off HOA.out,HSN.out.goE hlt,?_,?_,hF2.out⟩
        ·show l.length<m+(s.r.at_+1);omega
        ·rw[Nd.sizes_append];show Nd.sizes ps+(1+0)≤3*(s.r.at_+1);omega
      ·have t36:((c.toNat:Int)==36)=false:=Zn (b:=36) h36;rw[if_neg h36]at hF;go_wp2_with fail;with_reducible refine HN.out.mono ?_
       rintro e w1 ⟨rfl,f1⟩;have F1:=hid f1;clear f1;go_upto_if 56 with(fail)
       go_cut [56] (fun v w'=>v=.bool (spc c)∧w1=w')
       case first=>
        cases hsp:spc c with
        |true=>
         rcases spc_iff.1 hsp with h|h|h|h
         ·have n0:((c.toNat:Int)==42)=true:=by rw[h];rfl
          have HM:=hid hsp;clear hsp h;go_wp2;go_meet
          case rel=>exact⟨by rw[HM.out,n0],rfl⟩
         ·have n0:((c.toNat:Int)==42)=false:=by rw[h];rfl
          have n1:((c.toNat:Int)==43)=true:=by rw[h];rfl
          have HM:=hid hsp;clear hsp h;go_wp2;go_meet
          case rel=>exact⟨by rw[HM.out],rfl⟩
         ·have n0:((c.toNat:Int)==42)=false:=by rw[h];rfl
          have n1:((c.toNat:Int)==43)=false:=by rw[h];rfl
          have n2:((c.toNat:Int)==63)=true:=by rw[h];rfl
          have HM:=hid hsp;clear hsp h;go_wp2;go_meet
          case rel=>exact⟨by rw[HM.out],rfl⟩
         ·have n0:((c.toNat:Int)==42)=false:=by rw[h];rfl
          have n1:((c.toNat:Int)==43)=false:=by rw[h];rfl
          have n2:((c.toNat:Int)==63)=false:=by rw[h];rfl
          have n3:((c.toNat:Int)==123)=true:=by rw[h];rfl
          have HM:=hid hsp;clear hsp h;go_wp2;go_meet
          case rel=>exact⟨by rw[HM.out],rfl⟩
        |false=>
         have hno:∀d:UInt8,spc d=true→c≠d:=fun d hd e=>by rw[e,hd]at hsp;cases hsp
         have n0:((c.toNat:Int)==42)=false:=Zn (b:=42) (hno 42 rfl);have n1:((c.toNat:Int)==43)=false:=Zn (b:=43) (hno 43 rfl);have n2:((c.toNat:Int)==63)=false:=Zn (b:=63) (hno 63 rfl);have n3:((c.toNat:Int)==123)=false:=Zn (b:=123) (hno 123 rfl);have HM:=hid hsp;clear hsp hno;go_wp2;go_meet
         case rel=>exact⟨by rw[HM.out],rfl⟩
       case rest=>
        obtain⟨rfl,rfl⟩:=hcut;cases hsp:spc c with
        |true=>
         have hsp':=spc_iff.1 hsp;cases front with
         |true=>
          have hfr:Zd9 l true s c=s.fail l 10 s.r.at_:=by unfold Zd9;rw[if_neg h41,if_pos ⟨hsp',rfl⟩]
          have hfr2:(if(Zd9 l true s c).x.isSome then(Nd.nil,Zd9 l true s c)else brX l C inner m false (ZbR l (l.length+1) (Zax l C s c).2 (Zax l C s c).1).2 (ps++[(ZbR l (l.length+1) (Zax l C s c).2 (Zax l C s c).1).1]))=(Nd.nil,s.fail l 10 s.r.at_):=by rw[hfr];rfl
          clear hsp hsp' hfr;have hf:=Za4 b l s S1 10 s.r.at_ w1 hl (by decide) (HR.out.on F1.out);have hE1:=HE.out.on F1.out;have rr:=Zae hE1.blk _ (Fr.refl _ _);rw[hfr2]at hF;have hF:(Nd.nil,s.fail l 10 s.r.at_)=F:=hF;subst hF;have HFL:=hid hf;clear hf hE1;go_wp2_with fail;with_reducible refine HFL.out.mono ?_
          rintro e w2 ⟨rfl,⟨sv2,m2,mv2,e2⟩,t2'⟩;have rr2:=Zae e2.blk _ (Fr.refl _ _);have hex:eX (s.fail l 10 s.r.at_).x≠0:=e2.ok _ rfl;obtain⟨ev,hev⟩:∃ev,eX (s.fail l 10 s.r.at_).x=ev:=⟨_,rfl⟩;rw[hev]at rr2 hex;have hex':((ev:Int) !=0)=true:=by simpa using hex
          have E2:=hid e2;have T2:=hid ((Stp.of F1.out).trans t2');clear e2 t2' hev rr;go_wp2;go_ret;exact⟨.nilIface,S1,rfl,by rw[RN],⟨_,_,_,E2.out⟩,HST.out.trans T2.out⟩
         |false=>
          have hfr:Zd9 l false s c=s:=by unfold Zd9;rw[if_neg h41,if_neg (fun h=>by cases h.2)]
          clear hsp hsp';have hE1:=HE.out.on F1.out;have rr:=Zae hE1.blk _ (Fr.refl _ _);cases hx:s.x with
          |some z=>
           rw[hfr,hx]at hF;simp only[Option.isSome_some,if_true]at hF;subst hF;have hex:eX s.x≠0:=by rw[hx];exact hE1.ok z hx
           obtain⟨ev,hev⟩:∃ev,eX s.x=ev:=⟨_,rfl⟩;rw[hev]at rr hex;have hex':((ev:Int) !=0)=true:=by simpa using hex
           have E1:=hid hE1;clear hE1 hx hev;go_wp2;go_ret;exact⟨.nilIface,S1,rfl,by rw[RN],⟨_,_,_,E1.out⟩,HST.out.trans (Stp.of F1.out)⟩
          |none=>
           rw[hfr,hx]at hF;simp only[Option.isSome_none,Bool.false_eq_true,if_false]at hF;have hex:eX s.x=0:=by rw[hx];rfl
           rw[hex]at rr;have E1:=hid (show Erd b l s S1 w1 from⟨_,_,_,hE1⟩);have hp1:=HP.out.on F1.out;have hWd1:=HW1.out.stp (Stp.of F1.out);have hat:=ZkN b l W0 deep C s S1 (PO O v5) w1 c (hp1.lt (fun k hk=>Nat.lt_of_lt_of_le (HOO.out k hk) (Nat.le_trans HST.out.fr.size F1.out.size))) hl HE0.out HG.out HSN.out hc hWd1 E1.out;have hka:=(atomX_kept HC.out (c:=c) HSN.out hc);have hnil:=Zgf (l:=l) (C:=C) (s:=s) (c:=c);obtain⟨ta,s2,hq⟩:∃ta s2,Zax l C s c=(ta,s2):=⟨_,_,rfl⟩;rw[hq]at hat hka hnil hF;simp only at hF hnil;obtain⟨⟨a1,a2,a3,a4⟩,a5⟩:=hka;have a1:Sane l s2.r:=a1;have a3:ta.size+3*s.r.at_≤3*s2.r.at_+0:=a3;have a5:s.r.at_<s2.r.at_:=a5;have hkr:=Zb9 (l.length+1) s2 ta a1;obtain⟨tr,s3,hq3⟩:∃tr s3,ZbR l (l.length+1) s2 ta=(tr,s3):=⟨_,_,rfl⟩;rw[hq3]at hkr hF;simp only at hF;obtain⟨b1,b2,b3,b4⟩:=hkr;have b1:Sane l s3.r:=b1;have b2:s2.r.at_≤s3.r.at_:=b2;have b3:tr.size+3*s2.r.at_≤3*s3.r.at_+ta.size:=b3
           have hnl:ta≠.nil∨l[s2.r.at_]? =none:=by
            by_cases h:ta=.nil
            ·exact .inr (hnil h)
            ·exact .inl h
           have HAT:=hid hat;have HF2:=hid hF;have B1:=hid b1;have A1:=hid a1;have HNL:=hid hnl;have HQ3:=hid hq3;clear hE1 hx hex hp1 hWd1 hat hnil hq hF a1 a2 a4 b1 b4 hnl hq3 hc hfr;go_wp2_with fail;with_reducible refine HAT.out.mono ?_
           rintro e w2 ⟨v2,S2,rfl,rn2,e2,st2⟩;have hrp:=Zeb b l s2 ta v2 S2 (PO O v5) w2 hl A1.out HNL.out rn2 e2;rw[HQ3.out]at hrp;have HRP:=hid hrp;have ST2:=hid ((Stp.of F1.out).trans st2);clear rn2 e2 st2 hrp;go_wp2_with fail;with_reducible refine HRP.out.mono ?_
           rintro e w3 ⟨v3,S3,rfl,rn3,e3,st3⟩;have T3:=hid (ST2.out.trans st3);have E3:=hid e3;have RN3:=hid rn3;have hsh:=ZdL rn3;clear rn3 e3 st3;have HP3:=hid (HP.out.stp T3.out);have HLT3:=hid (HW1.out.stp T3.out).lt;have HOT:=hid (show∀k,O k→k<w3.heap.size from fun k hk=>Nat.lt_of_lt_of_le (HOO.out k hk) (Nat.le_trans HST.out.fr.size T3.out.fr.size));have HWS:=hid (Nat.le_trans HST.out.fr.size T3.out.fr.size);rcases hsh with rfl|⟨vi,vy,rfl⟩
           all_goals
            go_wp2_with(at_builtin;refine wpList_append_pts (W:=w) (S:=S3) (O:=O) rfl (.tmp 73) (.tmp 79) rfl ps tr v5 _ _ _ (by rw[HV5.out];rfl) HP3.out HLT3.out HOT.out HWS.out rfl (by rfl) RN3.out (by omega) ?_;intro va wa hpa offa;obtain⟨aa,ca,hea⟩:=hpa.shape;simp only[List.length_append,List.length_singleton]at hea;subst hea;have HPA:=hid hpa;have HOA:=hid offa;clear hpa offa);go_roundg m
            case measure=>omega
            case rel=>
             refine⟨false,s3,ps++[tr],S3,rfl,HPA.out,E3.out.off HOA.out hbw,(HST.out.trans T3.out).off HOA.out,B1.out,?_,?_,HF2.out⟩
             ·omega
             ·rw[Nd.sizes_append];show Nd.sizes ps+(tr.size+0)≤3*s3.r.at_;omega
        |false=>
         have hfr:Zd9 l front s c=s:=by
          unfold Zd9;rw[if_neg h41,if_neg (fun h=>by rw[spc_iff.2 h.1]at hsp;cases hsp)]
         clear hsp;have hE1:=HE.out.on F1.out;have rr:=Zae hE1.blk _ (Fr.refl _ _);cases hx:s.x with
         |some z=>
          rw[hfr,hx]at hF;simp only[Option.isSome_some,if_true]at hF;subst hF;have hex:eX s.x≠0:=by rw[hx];exact hE1.ok z hx
          obtain⟨ev,hev⟩:∃ev,eX s.x=ev:=⟨_,rfl⟩;rw[hev]at rr hex;have hex':((ev:Int) !=0)=true:=by simpa using hex
          have E1:=hid hE1;clear hE1 hx hev;go_wp2;go_ret;exact⟨.nilIface,S1,rfl,by rw[RN],⟨_,_,_,E1.out⟩,HST.out.trans (Stp.of F1.out)⟩
         |none=>
          rw[hfr,hx]at hF;simp only[Option.isSome_none,Bool.false_eq_true,if_false]at hF;have hex:eX s.x=0:=by rw[hx];rfl
          rw[hex]at rr;have E1:=hid (show Erd b l s S1 w1 from⟨_,_,_,hE1⟩);have hp1:=HP.out.on F1.out;have hWd1:=HW1.out.stp (Stp.of F1.out);have hat:=ZkN b l W0 deep C s S1 (PO O v5) w1 c (hp1.lt (fun k hk=>Nat.lt_of_lt_of_le (HOO.out k hk) (Nat.le_trans HST.out.fr.size F1.out.size))) hl HE0.out HG.out HSN.out hc hWd1 E1.out;have hka:=(atomX_kept HC.out (c:=c) HSN.out hc);have hnil:=Zgf (l:=l) (C:=C) (s:=s) (c:=c);obtain⟨ta,s2,hq⟩:∃ta s2,Zax l C s c=(ta,s2):=⟨_,_,rfl⟩;rw[hq]at hat hka hnil hF;simp only at hF hnil;obtain⟨⟨a1,a2,a3,a4⟩,a5⟩:=hka;have a1:Sane l s2.r:=a1;have a3:ta.size+3*s.r.at_≤3*s2.r.at_+0:=a3;have a5:s.r.at_<s2.r.at_:=a5;have hkr:=Zb9 (l.length+1) s2 ta a1;obtain⟨tr,s3,hq3⟩:∃tr s3,ZbR l (l.length+1) s2 ta=(tr,s3):=⟨_,_,rfl⟩;rw[hq3]at hkr hF;simp only at hF;obtain⟨b1,b2,b3,b4⟩:=hkr;have b1:Sane l s3.r:=b1;have b2:s2.r.at_≤s3.r.at_:=b2;have b3:tr.size+3*s2.r.at_≤3*s3.r.at_+ta.size:=b3
          have hnl:ta≠.nil∨l[s2.r.at_]? =none:=by
           by_cases h:ta=.nil
           ·exact .inr (hnil h)
           ·exact .inl h
          have HAT:=hid hat;have HF2:=hid hF;have B1:=hid b1;have A1:=hid a1;have HNL:=hid hnl;have HQ3:=hid hq3;clear hE1 hx hex hp1 hWd1 hat hnil hq hF a1 a2 a4 b1 b4 hnl hq3 hc hfr;go_wp2_with fail;with_reducible refine HAT.out.mono ?_
          rintro e w2 ⟨v2,S2,rfl,rn2,e2,st2⟩;have hrp:=Zeb b l s2 ta v2 S2 (PO O v5) w2 hl A1.out HNL.out rn2 e2;rw[HQ3.out]at hrp;have HRP:=hid hrp;have ST2:=hid ((Stp.of F1.out).trans st2);clear rn2 e2 st2 hrp;go_wp2_with fail;with_reducible refine HRP.out.mono ?_
          rintro e w3 ⟨v3,S3,rfl,rn3,e3,st3⟩;have T3:=hid (ST2.out.trans st3);have E3:=hid e3;have RN3:=hid rn3;have hsh:=ZdL rn3;clear rn3 e3 st3;have HP3:=hid (HP.out.stp T3.out);have HLT3:=hid (HW1.out.stp T3.out).lt;have HOT:=hid (show∀k,O k→k<w3.heap.size from fun k hk=>Nat.lt_of_lt_of_le (HOO.out k hk) (Nat.le_trans HST.out.fr.size T3.out.fr.size));have HWS:=hid (Nat.le_trans HST.out.fr.size T3.out.fr.size);rcases hsh with rfl|⟨vi,vy,rfl⟩
          all_goals
           go_wp2_with(at_builtin;refine wpList_append_pts (W:=w) (S:=S3) (O:=O) rfl (.tmp 73) (.tmp 79) rfl ps tr v5 _ _ _ (by rw[HV5.out];rfl) HP3.out HLT3.out HOT.out HWS.out rfl (by rfl) RN3.out (by omega) ?_;intro va wa hpa offa;obtain⟨aa,ca,hea⟩:=hpa.shape;simp only[List.length_append,List.length_singleton]at hea;subst hea;have HPA:=hid hpa;have HOA:=hid offa;clear hpa offa);go_roundg m
           case measure=>omega
           case rel=>
            refine⟨false,s3,ps++[tr],S3,rfl,HPA.out,E3.out.off HOA.out hbw,(HST.out.trans T3.out).off HOA.out,B1.out,?_,?_,HF2.out⟩
            ·omega
            ·rw[Nd.sizes_append];show Nd.sizes ps+(tr.size+0)≤3*s3.r.at_;omega
section
variable {l:List UInt8} {C:Option (ES→Nd×ES)} {inner:Bool} {n:Nat} {s:ES} {ts:List Nd}
theorem Zht(h:¬l[s.r.at_]? =some 124):Zat l C inner (n+1) s ts=(Za3 ts,s):=by rw[Zat,if_neg h]
theorem Zjm(h:l[s.r.at_]? =some 124){t:Nd}{s':ES}(hb:Zab l C inner (s.go 1)=(t,s')):Zat l C inner (n+1) s ts=Zat l C inner n s' (ts++[t]):=by rw[Zat,if_pos h,hb]
end
def ChR(b:Nat)(l:List UInt8)(C:Option (ES→Nd×ES))(inner:Bool)(S O:Nat→Prop)(w:World)(F:Nd×ES)(n:Nat)(v5:Value)(wr:World):Prop:=
 ∃s ts S',Pts S' O w wr ts v5∧Erd b l s S' wr∧Stp S w S' wr∧Sane l s.r∧l.length<n+s.r.at_∧Nd.sizes ts≤3*s.r.at_+1∧Zat l C inner n s ts=F
theorem Zgg(b:Nat)(l:List UInt8)(W0:World)(deep:Nat)(C:Option (ES→Nd×ES))(s:ES)(S O:Nat→Prop)(w:World)(hO:∀k,O k→k<w.heap.size)(hl:l.length≤100000)(hd:deep≤12)(hE0:Env W0)
 (hG:GrX l W0 deep C) (hC:∀f,C=some f→∀s,Sane l s.r→Kp l s (f s) 2) (hs:Sane l s.r) (hW:Wd W0 S w) (h:Erd b l s S w):
 Calls Tryz.prog 202 #[.pointer (some ⟨b,0,none⟩),.int .i64 deep] w (Zmo b l S O w (Zb8 l C (decide (0<deep)) s)):=by
 obtain⟨F,hF⟩:∃F,Zb8 l C (decide (0<deep)) s=F:=⟨_,rfl⟩;rw[hF];have HBR:=hid (fun(s:ES) (S O:Nat→Prop) (w:World) (hO:∀k,O k→k<w.heap.size) (hs:Sane l s.r) (hW:Wd W0 S w) (h:Erd b l s S w)=>er_branch b l W0 deep C s S O w hO hl hd hE0 hG hC hs hW h);obtain⟨inner,hin⟩:∃inner,decide (0<deep)=inner:=⟨_,rfl⟩;rw[hin]at HBR hF;have HW:=hid hW;have HC:=hid hC;have HOO:=hid hO;unfold Zb8 at hF;have h0:=HBR.out s S O w hO hs hW h;have hk:=Zbg hC (inner:=inner) hs;have hbw:=h.lt;obtain⟨t,s1,hb0⟩:∃t s1,Zab l C inner s=(t,s1):=⟨_,_,rfl⟩;rw[hb0]at h0 hk hF;simp only at hF;obtain⟨k1,k2,k3,_⟩:=hk;have k1:Sane l s1.r:=k1;have k3:t.size+3*s.r.at_≤3*s1.r.at_+1:=k3;have H0:=hid h0;have HF:=hid hF;have K1:=hid k1;clear hW hC hE0 hO h hG hin h0 hb0 hF k1 hs;go_enter Tryz.func202,Tryz.ntmps202;go_wp2_with fail;with_reducible refine(H0.out).mono ?_
 rintro e w1 ⟨v1,S1,rfl,rn1,r1,t1⟩;have hp1:=Pts.one (W:=w) rn1 ((HW.out.stp t1).lt) (fun k hk=>Nat.lt_of_lt_of_le (HOO.out k hk) t1.fr.size) t1.fr.size rfl;have hsh:=ZdL rn1;have HP1:=hid hp1;have R1:=hid r1;have T1:=hid t1;clear H0 hp1 rn1 r1 t1;rcases hsh with rfl|⟨vi,vy,rfl⟩
 all_goals
  go_wp2_with fail
  go_loopg [5] (l.length+1) (fun n v wr=>ChR b l C inner S O w F n v wr)
  case atStart=>exact⟨s1,[t],S1,HP1.out,R1.out.on ((Fr.refl _ _).alloc _),T1.out.trans (Stp.of ((Fr.refl _ _).alloc _)),K1.out,by omega,by show t.size+0≤_;omega,HF.out⟩
  case round=>
   clear HP1 R1 T1 K1 HF k2 k3;obtain⟨s,ts,S1,hp,hr,hst,hsn,hn,hz,hF⟩:=hrel;have hsle:=hsn.le;obtain⟨m,rfl⟩:∃m,gk=m+1:=⟨gk-1,by omega⟩;obtain⟨av,cv0,hv⟩:=hp.shape;subst hv;obtain⟨v5,hv5⟩:∃v5,v5=Value.slice av ts.length cv0:=⟨_,rfl⟩;have hT:Calls Tryz.prog 214 #[.pointer (some ⟨b,0,none⟩),.int .i32 124] wr fun x w'=>x=.returned (.bool (decide (l[s.r.at_]? =some 124)))∧Erd b l (if l[s.r.at_]? =some 124 then s.go 1 else s) S1 w'∧Stp S1 wr S1 w':=Zfm b l 124 s S1 wr hl hsle hr;have HP:=hid (show Pts S1 O w wr ts v5 from hv5▸hp);have HST:=hid hst;have HSN:=hid hsn;have HF:=hid hF;have HV5:=hid hv5;have HW1:=hid (HW.out.stp hst);have hpl:=Nd.length_le ts;clear hr hst hsn hF hv5;by_cases e1:l[s.r.at_]? =some 124
   ·rw[decide_eq_true e1,if_pos e1]at hT;have hlt:=ZK e1;have HT:=hid hT;clear hT hp;go_wp2_with fail;with_reducible refine HT.out.mono ?_
    rintro e w2 ⟨rfl,r2,t2⟩;have hp2:=HP.out.stp t2;have h5:=HBR.out (s.go 1) S1 (PO O v5) w2 (hp2.lt (fun k hk=>Nat.lt_of_lt_of_le (HOO.out k hk) (Nat.le_trans HST.out.fr.size t2.fr.size))) (HSN.out.goE hlt) (HW1.out.stp t2) r2;have hk:=Zbg HC.out (inner:=inner) (HSN.out.goE (n:=1) hlt);obtain⟨t5,s5,hb⟩:∃t5 s5,Zab l C inner (s.go 1)=(t5,s5):=⟨_,_,rfl⟩;rw[hb]at h5 hk;obtain⟨j1,j2,j3,_⟩:=hk;have j1:Sane l s5.r:=j1;have j2:s.r.at_+1≤s5.r.at_:=j2;have j3:t5.size+3*(s.r.at_+1)≤3*s5.r.at_+1:=j3;have hF:=HF.out;rw[Zjm e1 hb]at hF;have H5:=hid h5;have T2:=hid t2;have J1:=hid j1;have HF2:=hid hF;clear h5 t2 j1 hF hp2 r2 hb e1;go_wp2_with fail;with_reducible refine H5.out.mono ?_
    rintro e w5 ⟨v6,S5,rfl,rn5,r5,st5⟩;have T5:=hid (T2.out.trans st5);have RN5:=hid rn5;have R5:=hid r5;have hsh:=ZdL rn5;clear rn5 r5 st5;have HP5:=hid (HP.out.stp T5.out);have HLT5:=hid (HW1.out.stp T5.out).lt;have HOT:=hid (show∀k,O k→k<w5.heap.size from fun k hk=>Nat.lt_of_lt_of_le (HOO.out k hk) (Nat.le_trans HST.out.fr.size T5.out.fr.size));have HWS:=hid (Nat.le_trans HST.out.fr.size T5.out.fr.size);rcases hsh with rfl|⟨vi,vy,rfl⟩
    all_goals
     go_wp2_with(at_builtin;refine wpList_append_pts (W:=w) (S:=S5) (O:=O) rfl (.tmp 12) (.tmp 16) rfl ts t5 v5 _ _ _ (by rw[HV5.out];rfl) HP5.out HLT5.out HOT.out HWS.out rfl (by rfl) RN5.out (by omega) ?_;intro va wa hpa offa;obtain⟨aa,ca,hea⟩:=hpa.shape;simp only[List.length_append,List.length_singleton]at hea;subst hea;have HPA:=hid hpa;have HOA:=hid offa;clear hpa offa);go_roundg m
     case measure=>omega
     case rel=>
      refine⟨s5,ts++[t5],S5,HPA.out,R5.out.off HOA.out hbw,(HST.out.trans T5.out).off HOA.out,J1.out,by omega,?_,HF2.out⟩;rw[Nd.sizes_append];show Nd.sizes ts+(t5.size+0)≤3*s5.r.at_+1;omega
   ·rw[decide_eq_false e1,if_neg e1]at hT;have hF:=HF.out;rw[Zht e1]at hF;subst hF;have HT:=hid hT;have HPW:=hid hp;clear hT HF hp;go_wp2_with fail;with_reducible refine HT.out.mono ?_
    rintro e w2 ⟨rfl,r2,t2⟩;have hJ:=Zd4 (SO S1 O) ts (.slice av ts.length cv0) w2 (fun k hk=>hk.elim ((HW1.out.stp t2).lt k) (fun x=>Nat.lt_of_lt_of_le (HOO.out k x) (Nat.le_trans HST.out.fr.size t2.fr.size))) (by omega) ((HPW.out.stp t2).sn HOO.out);have HJ:=hid hJ;have R2:=hid r2;have T2:=hid t2;clear hJ r2 t2;go_wp2_with fail;refine(HJ.out).mono ?_;rintro e wj ⟨r,rfl,hrj,fj⟩;have HRJ:=hid hrj;have FJ:=hid fj;clear hrj fj;go_wp2;go_ret;exact⟨r,S1,rfl,HRJ.out,R2.out.on FJ.out,(HST.out.trans T2.out).trans (Stp.of FJ.out)⟩
theorem ZkO(l:List UInt8)(W0:World)(hl:l.length≤100000)(hE0:Env W0):∀n deep,n+deep=12→ChX l W0 deep (chX l n)
 |0,deep,hd=>by
  obtain rfl:deep=12:=by omega
  intro b s S O w hO hs hW h;have hG:GrX l W0 12 none:=fun b s S O w _ _ _ _ h=>Zfn b l s S O w hl h;have:=Zgg b l W0 12 none s S O w hO hl (Nat.le_refl _) hE0 hG (fun f hf=>by cases hf) hs hW h;rw[chX];exact this
 |n+1,deep,hd=>by
  intro b s S O w hO hs hW h;have ih:=ZkO l W0 hl hE0 n (deep+1) (by omega);have hG:GrX l W0 deep (some (chX l n)):=fun b s S O w hO hs h1 hW h=>Zmr b l W0 deep (chX l n) s S O w hO hl (by omega) ih (chX_kept n) hs h1 hW h;have:=Zgg b l W0 deep (some (chX l n)) s S O w hO hl (by omega) hE0 hG (fun f hf=>by injection hf with hf;subst hf;exact chX_kept n) hs hW h;rw[chX,show decide (n+1<12)=decide (0<deep)from by congr 1;exact propext ⟨fun _=>by omega,fun _=>by omega⟩];exact this
theorem Zms:(Tryz.prog.info? 21).map (fun i=>(i.zero,i.size,i.bytes))=some (some (.int .i32 0),1,4):=by kernel_rfl
theorem Zgh(a b:List UInt8):Zbk (a++b)=Zbk a++Zbk b:=by simp[Zbk]
def Zqw(l x:List UInt8)(w:World)(it n:Nat)(v:Value)(wr:World):Prop:=
 ∃k:Nat,k≤l.length∧l.length<n+k∧wr.heap[it]? =some (.stringIter ⟨x.toArray⟩ (Zco (l.take k)).length)∧wr.ownsRow 0 21 1 v k (Zbk (l.take k))∧(∀j,v.ownBlock=some j→it<j)∧Fr nob w wr
theorem Zmt(l:List UInt8)(w:World)(hl:l.length≤100000):
 Calls Tryz.prog 201 #[.string ⟨l.toArray⟩] w fun e w'=>∃v,e=.returned v∧w'.ownsRow 0 21 1 v l.length (Zbk l)∧(∀j,v.ownBlock=some j→w.heap.size≤j)∧Fr nob w w':=by
 obtain⟨i0,hi,hz0,hz1,hz2⟩:=info_parts Zms;have hW:=ZlR l w (by omega);obtain⟨x,hx⟩:∃x,Zco l=x:=⟨_,rfl⟩;rw[hx]at hW;have HX:=hid hx;have HWI:=hid hW;clear hx hW;go_enter Tryz.func201,Tryz.ntmps201;go_wp2_with fail;with_reducible refine HWI.out.mono ?_
 rintro e w3 ⟨rfl,f3⟩;have F:=hid f3;clear f3;go_wp2_with fail
 go_loopg [3] (l.length+1) (fun n v wr=>Zqw l x w w3.heap.size n v wr)
 case atStart=>exact⟨0,Nat.zero_le _,by omega,Zj _ _,World.ownsRow_nil _ _ _ _,fun j h=>(by cases h),F.out.alloc _⟩
 case round=>
  obtain⟨k,hk,hn,hit,hown,hblk,hfr⟩:=hrel;obtain⟨m,rfl⟩:∃m,gk=m+1:=⟨gk-1,by omega⟩;obtain⟨av,cv,rfl⟩:=Zb hown;have HI:=hid hit;have HO:=hid hown;have HBK:=hid hblk;have HFR:=hid hfr;clear hit hown hblk hfr;by_cases hlt:k<l.length
  ·have hat:(Zco (l.take k)).length<x.length:=by rw[←HX.out];exact Zns hlt
   have hnx:∀ty,(Instr.next (.pointer (some ⟨w3.heap.size,0,none⟩)) true ty).run Tryz.prog wr=.ok (.tuple #[.bool true,.int .i64 ((Zco (l.take k)).length:Nat),.int .i32 (l[k].toNat:Nat)]) (wr.iterAt w3.heap.size ⟨x.toArray⟩ (Zco (l.take (k+1))).length):=by
    intro ty;have:=Lib.run_next_any_at (P:=Tryz.prog) wr w3.heap.size ⟨x.toArray⟩ (Zco (l.take k)).length ty HI.out (by rw[Zbp];exact hat);rw[ZiT hat (by rw[←HX.out];exact Znr hlt)]at this;rw[ZfD hlt,List.length_append];exact this
   have hi1:=Lib.iterAt_heap wr w3.heap.size ⟨x.toArray⟩ _ (Zco (l.take (k+1))).length HI.out;have hlw:w.heap.size≤w3.heap.size:=F.out.size;have hfi:=ZjS wr w3.heap.size ⟨x.toArray⟩ (Zco (l.take (k+1))).length;have hf1:Fr nob w (wr.iterAt w3.heap.size ⟨x.toArray⟩ (Zco (l.take (k+1))).length):=HFR.out.trans hfi (fun i hi e=>by omega);have hown1:=ownsRow_fr HO.out hfi (fun j hj e=>by have:=HBK.out j hj;omega);obtain⟨w4,hw⟩:∃w4,wr.iterAt w3.heap.size ⟨x.toArray⟩ (Zco (l.take (k+1))).length=w4:=⟨_,rfl⟩;rw[hw]at hnx hi1 hf1 hown1;obtain⟨c,hc⟩:∃c,l[k]=c:=⟨_,rfl⟩;rw[hc]at hnx;have hT:Zbk (l.take (k+1))=Zbk (l.take k)++[.int .i32 (c.toNat:Int)]:=by rw[List.take_succ_eq_append_getElem hlt,Zgh,hc];rfl
   have HI1:=hid hi1;have HF1:=hid hf1;have HO1:=hid hown1;have HT:=hid hT;clear hw hi1 hf1 hat hfi hown1 hT hc;go_wp2_with(at_builtin;refine wpList_append_g rfl _ _ 278 rfl 21 i0 (.int .i32 0) 1 4 Tryz.underlying278 hi hz0 hz1 hz2 rfl (by decide) _ _ _ rfl (ownsRow_fr HO1.out ((Fr.refl nob w4).alloc _) (fun _ _ x=>x)) ⟨w4.heap.size,0,none⟩ 1 1 [.int .i32 (c.toNat:Int)] rfl rfl ?c1 ?c2 ?c3 ?c4 ?_)
   case c1=>intro j u hj;match j,hj with|0,hj=>simp at hj;subst hj;simp[Addr.add]
   case c2=>intro u hu;simp at hu;subst hu;rfl
   case c3=>unfold maxLen;omega
   case c4=>omega
   intro v' w5 hown' hap;obtain⟨av',cv',rfl⟩:=Zb hown';have hlw5:w3.heap.size<w4.heap.size:=lt_heap HI1.out;have hi5:=hap.fr.heap (Ze (.cells #[.int .i32 (c.toNat:Int)] 21) HI1.out) (fun e=>by have:=HBK.out _ e;omega);have hf5:Fr nob w w5:=(HF1.out.alloc _).trans hap.fr (fun i hi e=>by have:=HBK.out _ e;omega);have hb5:∀j,(Value.slice av' (k+1) cv').ownBlock=some j→w3.heap.size<j:=fun j hj=>by
    rcases hap.old j hj with h1|h1
    ·exact HBK.out j h1
    ·simp at h1;omega
   have HI5:=hid hi5;have HF5:=hid hf5;have HB5:=hid hb5;have HO5:=hid hown';clear hi5 hf5 hb5 hown' hap hnx;go_wp2;go_roundg m
   case measure=>omega
   case rel=>exact⟨k+1,by omega,by omega,HI5.out,by rw[HT.out];exact HO5.out,HB5.out,HF5.out⟩
  ·obtain rfl:k=l.length:=by omega
   have hT:(Zco (l.take l.length)).length=x.length:=by rw[List.take_of_length_le (Nat.le_refl _),HX.out]
   have hnx:∀ty,(Instr.next (.pointer (some ⟨w3.heap.size,0,none⟩)) true ty).run Tryz.prog wr=.ok (.tuple #[.bool false]) wr:=by
    intro ty;exact Lib.run_next_end_at (P:=Tryz.prog) wr w3.heap.size ⟨x.toArray⟩ _ ty HI.out (by rw[Zbp,hT];omega)
   clear hT;go_wp2;go_ret;refine⟨_,rfl,?_,?_,HFR.out⟩
   ·have:=HO.out;rwa[List.take_of_length_le (Nat.le_refl _)]at this
   ·intro j hj;have:=HBK.out j hj;have:=F.out.size;omega
def EreAnsO(R:Out Nd)(w:World)(e:Ending)(w':World):Prop:=Fr nob w w'∧match R with
 | .inl (z,p)=>e=.returned (.tuple #[.nilIface,.slice none 0 0,.int .i64 (p:Nat),.int .i64 z])
 | .inr (t,s)=>∃r mv,e=.returned (.tuple #[r,mv,.int .i64 0,.int .i64 0])∧RN (fun k=>k<w.heap.size) w' t r∧OwM w' s.marks mv∧∀k,mv.ownBlock=some k→w.heap.size≤k
theorem ZeI(l:List UInt8)(w:World)(hl:l.length≤100000)(hE:Env w):
 Calls Tryz.prog 178 #[.string ⟨l.toArray⟩] w (EreAnsO (Zac prg true l) w):=by
 unfold Zac;by_cases h250:250<l.length
 ·have hlI:(250:Int)<(l.length:Int):=by omega
  rw[if_pos h250];go_enter Tryz.func178,Tryz.ntmps178;go_wp2;exact bodyPost_ret (results_tmp4 rfl _ _ _) rfl ⟨Fr.refl _ _,rfl⟩
 ·have hlI:¬(250:Int)<(l.length:Int):=by omega
  rw[if_neg h250];obtain⟨D,hD⟩:∃D,chD prg true l 12 ⟨0,0,[],[]⟩=D:=⟨_,rfl⟩;rw[hD];have hRl:=ZpB (l:=l) 12 ⟨0,0,[],[]⟩;rw[hD]at hRl;have hS:=Zmt l w hl;have HS:=hid hS;have HRL:=hid hRl;clear hS hRl hD h250;go_enter Tryz.func178,Tryz.ntmps178;go_wp2_with fail;with_reducible refine HS.out.mono ?_
  rintro e w1 ⟨sv,rfl,hown,hblk,f1⟩;obtain⟨av,cv,rfl⟩:=Zb hown;have hmk:∀W,(Instr.makeMap 280 none).run Tryz.prog W=.ok (.map (some W.heap.size)) (W.alloc (.map #[] 0)):=fun W=>by simp[Instr.makeMap,Result.andThen]
  obtain⟨m,hm⟩:∃m,w1.heap.size=m:=⟨_,rfl⟩;obtain⟨w3,hw3⟩:∃w3,w3=(w1.alloc (.map #[] 0)).alloc (.cells #[.string ⟨l.toArray⟩,.slice av l.length cv,.int .i64 0,.int .i64 0,.map (some w1.heap.size),.slice none 0 0,.int .i64 0,.int .i64 0] 282):=⟨_,rfl⟩;have hs3:w3.heap.size=w1.heap.size+2:=by rw[hw3];simp
  have hf13:Fr nob w1 w3:=by rw[hw3];exact((Fr.refl nob w1).alloc _).alloc _
  have hE3:Er (w1.heap.size+1) l ⟨⟨0,0,[],[]⟩,none⟩ (fun k=>k=w1.heap.size+1∨k=w1.heap.size) (.slice av l.length cv) w1.heap.size (.slice none 0 0) w3:=by
   refine⟨by rw[hw3];exact Zg _ _ _ (by simp),ownsRow_fr hown hf13 (fun _ _ x=>x),IMap.new (by rw[hw3];exact Ze _ (newAt0 w1 _)),World.ownsRow_nil _ _ _ _,fun _ h=>(by cases h),by omega,fun k hk=> ?_,.inl rfl,.inr rfl,fun z h=>(by cases h)⟩;have:=own_lt hown k hk;exact⟨by omega,by omega⟩
  have hWd:Wd w (fun k=>k=w1.heap.size+1∨k=w1.heap.size) w3:=⟨f1.trans' hf13,fun k hk=>by have:=f1.size;omega,fun k hk=>by omega⟩;have hch:=ZkO l w hl hE 12 0 rfl (w1.heap.size+1) ⟨⟨0,0,[],[]⟩,none⟩ (fun k=>k=w1.heap.size+1∨k=w1.heap.size) (fun k=>k<w.heap.size) w3 (fun k (hk:k<w.heap.size)=>by have:=f1.size;omega) ⟨Nat.zero_le _,Nat.le_refl _,Nat.le_refl _,Nat.le_refl _⟩ hWd ⟨_,_,_,hE3⟩;rw[show((0:Nat):Int)=0 from rfl]at hch;have HCH:=hid hch;have H3:=hid hw3;have F3:=hid (f1.trans' hf13);have HSZ:=hid f1.size;clear hch hw3 hE3 hWd hf13 hown hblk f1 hm hs3;go_wp2_with(rw[←H3.out]);with_reducible refine HCH.out.mono ?_
  rintro e w4 ⟨v4,S4',rfl,rn4,⟨sv4,m4,mv4,e4⟩,t4⟩;have rr:=Zae e4.blk;have hfr:Fr nob w w4:=F3.out.trans t4.fr (fun i hi x=>by have:=HSZ.out;rcases x with x|x<;>omega);cases D with
  |inl z=>
   obtain⟨z,p⟩:=z;obtain⟨hx,_⟩:(chX l 12 ⟨⟨0,0,[],[]⟩,none⟩).2.x=some (z,p)∧_:=HRL.out;have hz:=e4.ok _ hx;have hz:z≠0:=hz;rw[hx]at rr;have hz':((z:Int) !=0)=true:=by simpa using hz
   have HFR:=hid hfr;clear hx e4 t4 rn4 hfr;have rr0:=rr w4 (Fr.refl nob w4);unfold eX pX at rr rr0;go_wp2_with fail;refine region_fr 11 (by kernel_rfl) (by kernel_rfl) ?_;simp only[List.take_succ_cons,List.take_zero,List.drop_succ_cons,List.drop_zero]
   repeat(quiet_step (fail))
   refine wpQuiet_nil ?_;intro w5 f5;go_wp2;exact bodyPost_ret (results_tmp4 rfl _ _ _) rfl ⟨HFR.out.trans' f5,rfl⟩
  |inr q=>
   obtain⟨t,s⟩:=q;have hx:chX l 12 ⟨⟨0,0,[],[]⟩,none⟩=(t,⟨s,none⟩):=HRL.out;rw[hx]at rr rn4 e4;have hma:=e4.ma;obtain⟨am,cm,hmv⟩:=Zb hma;subst hmv;have HFR:=hid hfr;have HMA:=hid hma;have RN4:=hid (RN.keep (Fr.refl nob w4) (fun _ _ x=>x.elim) (fun _ _ x=>.inr x) _ _ rn4:RN (fun k=>k<w.heap.size) w4 t v4);have HNW:=hid (show∀k,(Value.slice am s.marks.length cm).ownBlock=some k→w.heap.size≤k from fun k hk=>by
    have h1:=e4.nm k hk;have h2:=HSZ.out;by_cases hlt:k<w3.heap.size
    ·rcases t4.old k hlt h1.2.2 with x|x<;>omega
    ·have:=F3.out.size;omega)
   clear hx e4 t4 rn4 hfr hma;have rr0:=rr w4 (Fr.refl nob w4);unfold eX pX at rr rr0;go_wp2_with fail;refine region_fr 6 (by kernel_rfl) (by kernel_rfl) ?_;simp only[List.take_succ_cons,List.take_zero,List.drop_succ_cons,List.drop_zero]
   repeat(quiet_step (fail))
   refine wpQuiet_nil ?_;intro w5 f5;go_wp2;exact bodyPost_ret (results_tmp4 rfl _ _ _) rfl ⟨HFR.out.trans' f5,v4,_,rfl,RN4.out.on f5,ownsRow_fr HMA.out f5 (fun _ _ x=>x),HNW.out⟩
end Go.Proofs.YtkfddjopbocpkaaGreatDoor
