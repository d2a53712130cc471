/- Lemmas of this claim. -/
import Derived.Test.YtgllcniibbaoaaaGreatDoorK29
set_option linter.all false
set_option maxRecDepth 100000
set_option maxHeartbeats 24000000
namespace Go.Proofs.YtgllcniibbaoaaaGreatDoor
open Go.Lib (hid)
open Go.RowKit
attribute [-go_sem] storeVar loadVar Instr.buildSlice
attribute [local go_sem] Zx3 Zx4 Zx1 Zx2 Zyb Zx9
def ZAY(l:List UInt8)(ere:Bool)(F:Out Nd)(O:Nat→Prop)(w:World)(v6:Value)(w':World):Prop:=
 ∃(r:Array Value) (L:List T) (g:Option Nat),LB w (AL w r) w'∧r.size=8∧r.all (·.oneCell')=true∧OwnT (lbB O (aB w)) w' L v6 g∧T.bulks L≤5000∧
  match F with
  | .inl (e,p)=>∃(s':RxS) (ca:Option Addr) (cc:Nat) (ma:Option Addr) (mc:Nat),r=rC l ere s' ca cc ma mc e (p:Nat)∧e≠0
  | .inr (t,s')=>∃(ca:Option Addr) (cc:Nat) (ma:Option Addr) (mc:Nat),r=rC l ere s' ca cc ma mc 0 0∧ZyA L=t.rf∧CSO (lbB O (aB w)) w' s'.closed ca cc∧MSO (lbB O (aB w)) w' s'.marks (.slice ma s'.marks.length mc)
def ZAO(l:List UInt8)(ere:Bool)(C:Option (RxS→Out Nd))(inner:Bool)(F:Out Nd)(O:Nat→Prop)(w:World)(beg:Nat)(n:Nat)(v6:Value)(front:Bool)(wr:World):Prop:=
 ∃(s:RxS) (ca:Option Addr) (cc:Nat) (ma:Option Addr) (mc:Nat) (ps:List Nd) (g:Option Nat),brD prg ere l C inner n (decide (s.at_=beg)) front s ps=F∧l.length<n+s.at_∧Sane l s∧Nd.sizes ps≤2*s.at_∧beg≤s.at_∧
  LB w (AL w (rC l ere s ca cc ma mc 0 0)) wr∧OwnT (lbB O (aB w)) wr (Nd.rfs ps) v6 g∧(∀k,g=some k→w.heap.size≤k)∧CSO (LS2 (lbB O (aB w)) g) wr s.closed ca cc∧MSO (LS2 (lbB O (aB w)) g) wr s.marks (.slice ma s.marks.length mc)
def ZAP(l:List UInt8)(ere:Bool)(C:Option (RxS→Out Nd))(inner:Bool)(F:Out Nd)(O:Nat→Prop)(w:World)(beg:Nat)(n:Nat)(v6 v8:Value)(wr:World):Prop:=
 ∃front:Bool,v8=.bool front∧(ZAO l ere C inner F O w beg n v6 front wr∨
 (∃(s:RxS) (ca:Option Addr) (cc:Nat) (ma:Option Addr) (mc:Nat) (e:Int) (p:Nat) (L:List T) (g:Option Nat),F=.inl (e,p)∧e≠0∧LB w (AL w (rC l ere s ca cc ma mc e p)) wr∧OwnT (lbB O (aB w)) wr L v6 g∧T.bulks L≤5000))
theorem Zz1(l:List UInt8)(ere:Bool)(s:RxS)(ca:Option Addr)(cc:Nat)(ma:Option Addr)(mc:Nat)(K:Nat)(O:Nat→Prop)(deep:Nat)(C:Option (RxS→Out Nd))(w:World)(hO:∀k,O k→k<w.heap.size)(hs:Sane l s)(hl:l.length≤400)(hd:deep≤12)
 (HA:ZAX l ere K deep C) (hkC:∀f,C=some f→Zn4 l f) (HC:CSO O w s.closed ca cc) (HM:MSO O w s.marks (.slice ma s.marks.length mc)):
 Calls Tryz.prog 90 #[rV l ere s ca cc ma mc 0 0,.int .i64 deep] w (Zy4 10000 O l ere (Zb7 prg ere l C (decide (0<deep)) s) w):=by
 obtain⟨F,hF⟩:∃F,Zb7 prg ere l C (decide (0<deep)) s=F:=⟨_,rfl⟩;rw[hF];unfold Zb7 at hF;obtain⟨N,hN⟩:∃N,(if sgn l s.at_==[94]then l.length+2 else l.length+1)=N:=⟨_,rfl⟩;rw[hN]at hF;have o6:l.length+1≤N:=by rw[←hN];split<;>omega
 obtain⟨d,i7⟩:∃d,decide (0<deep)=d:=⟨_,rfl⟩;rw[i7]at hF;have g4:=hid i7;obtain⟨a,c6⟩:∃a,s.at_=a:=⟨_,rfl⟩;have c7:∀k,(none:Option Nat)=some k→w.heap.size≤k:=fun k h=>by cases h
 have f0:∀w4,LB w (AL w (rC l ere s ca cc ma mc 0 0)) w4→ZAP l ere C d F O w a N (.slice none 0 0) (.bool true) w4:=fun w4 f=>
  ⟨true,rfl,.inl ⟨s,ca,cc,ma,mc,[],none,by rw[decide_eq_true c6];exact hF,by omega,hs,by simp[Nd.sizes],by omega,f,OwnT.nil _ _,c7,
   (f.cso HC).none,(f.mso HM).none⟩⟩
 have HI:=hid f0;have j1:=hid HA;have j8:=hid hkC;have L0:=hid (LB.three w (rC l ere s ca cc ma mc 0 0));have r0:=rule8 (L0.out.get 0 rfl) _ (Fr.refl nob _);have o8:a≤400:=by have:=hs.le;omega
 have HB:=hid c6;clear c6 f0 HC HM hF hs i7 hN HA hkC c7;unfold rV;go_enter Tryz.func90,Tryz.ntmps90;go_upto_block 0 with(fail);clear r0;obtain⟨wS,m0⟩:∃wS,((w.alloc (.cells (rC l ere s ca cc ma mc 0 0) 123)).alloc (.cells zR 123)).alloc (.cells zT9 36)=wS:=⟨_,rfl⟩;rw[m0]at L0⊢;clear m0;rw[HB.out]
 go_cut [6] (fun v6 w'=>ZAY l ere F O w v6 w')
 case first=>
  have j6:=hid (HI.out _ L0.out);clear HI;go_wp2_with fail
  go_loopg [6,8] N (fun n v6 v8 wr=>ZAP l ere C d F O w a n v6 v8 wr)
  case atStart=>exact j6.out
  case round=>
   clear j6 L0;obtain⟨b9,rfl,h⟩:=hrel;rcases h with⟨s,ca,cc,ma,mc,ps,g,hF,hn,hs,p1,o7,hL,hP,l3,hC,hM⟩|⟨s,ca,cc,ma,mc,z,p,L,g,hF,hz,hL,hP,hb⟩
   ·obtain⟨m,rfl⟩:∃m,gk=m+1:=⟨gk-1,by have:=hs.le;omega⟩;have o9:=hs.le;obtain⟨av,cv,rfl⟩:=hP.shape;obtain⟨sg,u⟩:∃sg,sgn l s.at_=sg:=⟨_,rfl⟩;have g6:=hid (fun w'=>Zyf l ere s ca cc ma mc 0 0 s.at_ w' (by omega) (by omega));have a5:=hid (fun(b:UInt8) (w':World)=>Zzq l ere s ca cc ma mc 0 0 b w');rw[brD,u]at hF;rw[u]at g6;obtain⟨E,hE⟩:∃E,(sg==[]||(sg==opB ere 124||(sg==opB ere 41&&d)))=E:=⟨_,rfl⟩;obtain⟨c1,i4⟩:∃c1,(sg==[94]&&(ere||decide (s.at_=a)))=c1:=⟨_,rfl⟩;obtain⟨c2,i5⟩:∃c2,(sg==[36]&&(ere||ZnT ere l d (s.at_+1)))=c2:=⟨_,rfl⟩;obtain⟨c3,i6⟩:∃c3,(b9&&(sg==opB ere 123||(sg==opB ere 43||(sg==opB ere 63||(ere&&sg==[42])))))=c3:=⟨_,rfl⟩;rw[hE,i4,i5,i6]at hF;have r1:=rule8 (hL.get 0 rfl) wr (Fr.refl nob wr);have HF:=hid hF;have b4:=hid u;have HE:=hid hE;have d0:=hid i4;have d1:=hid i5;have a7:=hid i6;have HS:=hid hs;have L1:=hid hL;have HP:=hid hP;have d3:=hid l3;have HC:=hid hC;have HM:=hid hM
    clear hF u hE i4 i5 i6 hs hL hP l3 hC hM;go_wp2_with(refine L1.out.ld 0 rfl rfl _ rfl rfl Tryz.underlying123 rfl info_dR ?_);refine(g6.out wr).mono ?_;rintro e w1 ⟨rfl,f1⟩;have L2:=hid (L1.out.on f1);have F1:=hid f1;clear f1 r1
    go_upto_region 6 with(fail)
    go_cut [38] (fun v w'=>v=.bool E∧Fr nob w1 w')
    case first=>
     rcases Bool.eq_false_or_eq_true (sg==[])with e0|e0
     ·go_wp2;go_meet
      case rel=>exact⟨by rw[←HE.out,e0];rfl,Fr.refl _ _⟩
     ·go_wp2_with(refine L2.out.ldg 0 rfl rfl _ rfl rfl Tryz.underlying123 rfl info_dR ?_);refine(a5.out 124 _).mono ?_;rintro e w2 ⟨rfl,f2⟩;have L3:=hid (L2.out.on f2);have F2:=hid f2;clear f2;rcases Bool.eq_false_or_eq_true (sg==opB ere 124)with e1|e1
      ·go_wp2;go_meet
       case rel=>exact⟨by rw[←HE.out,e0,e1];rfl,F2.out⟩
      ·go_wp2_with(refine L3.out.ldg 0 rfl rfl _ rfl rfl Tryz.underlying123 rfl info_dR ?_);refine(a5.out 41 _).mono ?_;rintro e w3 ⟨rfl,f3⟩;have F3:=hid (F2.out.trans' f3);clear f3;rcases Bool.eq_false_or_eq_true (sg==opB ere 41)with e2|e2
       ·by_cases l2:0<deep
        ·have n7:(0:Int)<deep:=by omega
         go_wp2;go_meet
         case rel=>exact⟨by rw[←HE.out,e0,e1,e2,←g4.out];simp[l2],F3.out⟩
        ·have n7:¬(0:Int)<deep:=by omega
         go_wp2;go_meet
         case rel=>exact⟨by rw[←HE.out,e0,e1,e2,←g4.out];simp[l2],F3.out⟩
       ·go_wp2;go_meet
        case rel=>exact⟨by rw[←HE.out,e0,e1,e2];rfl,F3.out⟩
    case rest=>
     obtain⟨rfl,f2⟩:=hcut;obtain⟨wA,l6⟩:∃wA,wc=wA:=⟨_,rfl⟩;rw[l6]at f2⊢;have LA:=hid (L2.out.on f2);have FA:=hid (F1.out.trans' f2);have a6:=hid (HP.out.on FA.out);have d2:=hid (HC.out.on FA.out);have d4:=hid (HM.out.on FA.out);clear f2 l6 wc L1 L2 F1 HP HC HM g6;have rA:=rule8 (LA.out.get 0 rfl) wA (Fr.refl nob wA);cases E with
     |true=>
      have m7:=hid (show(.inr (Za2 ps,s):Out Nd)=F from HF.out);go_wp2;go_meet
      case rel=>
       refine⟨_,Nd.rfs ps,g,LA.out,rfl,one_dR _ _ _ _ _ _ _ _ _,a6.out,by have:=Nd.rfs_le ps;omega,?_⟩;rw[←m7.out];exact⟨ca,cc,ma,mc,rfl,ZzR ps,d2.out.wide (fun k _ x=>.inl x),d4.out.wide (fun k _ x=>.inl x)⟩
     |false=>
      have hF:=HF.out;simp only[Bool.false_eq_true,if_false]at hF;have g2:=hid hF;have n8:s.at_<l.length:=by
       refine Nat.lt_of_not_le fun h=> ?_;have h1:=HE.out;rw[b4.out.symm.trans (Zkf h)]at h1;cases h1
      clear hF HF HE
      go_upto_region 7 with(fail)
      go_cut [50] (fun v w'=>v=.bool c1∧w'=wA)
      case first=>
       rcases Bool.eq_false_or_eq_true (sg==[94])with e3|e3
       ·by_cases hb:s.at_=a
        ·have n6:((s.at_:Int)==(a:Int))=true:=by simp[hb]
         cases ere
         all_goals
          go_wp2;go_meet
          case rel=>exact⟨by rw[←d0.out,e3];simp[hb],rfl⟩
        ·have n6:((s.at_:Int)==(a:Int))=false:=by simp;omega
         cases ere
         all_goals
          go_wp2;go_meet
          case rel=>exact⟨by rw[←d0.out,e3];simp[hb],rfl⟩
       ·go_wp2;go_meet
        case rel=>exact⟨by rw[←d0.out,e3];rfl,rfl⟩
      case rest=>
       obtain⟨rfl,hw⟩:=hcut;rw[hw];clear hw wc;have i:=LA.out.below hO;have J:=hid i;have b0:=hid (show∀k,LS2 (lbB O (aB w)) g k→k<wA.heap.size from fun k hk=>hk.elim (i k) (a6.out.lt k));have a2:=hid (show(Nd.rfs ps).length+1≤3000000 by have:=T.length_le (Nd.rfs ps);have:=Nd.rfs_le ps;omega);clear i;cases c1 with
       |true=>
        have u:sg=[94]:=by have h:=d0.out;rw[Bool.and_eq_true]at h;exact eq_of_beq h.1
        have c5:=sgn_fit (b4.out.trans u) (by simp);simp only[List.length_singleton]at c5;have hF:=g2.out;simp only[if_true]at hF;have a8:=hid hF;have e1:=fun W=>Zx5 W (cs:=ZAq 7) rfl;clear hF u;go_wp2_with(first|(with_reducible rw[h3.out])|(at_builtin;refine wpList_append_t (S:=lbB O (aB w)) rfl (.tmp 51) (.tmp 53) rfl (Nd.rfs ps) [Nd.start.rf] _ _ g rfl (a6.out.on ((Fr.refl nob _).alloc _)) rfl (ST.one (Zy8 _ _ 7) b0.out _ rfl) (fun k hk=>by have:=J.out k hk;simp;omega) a2.out ?_;intro v' w3 g' c o q;obtain⟨la,lg,lc,lm⟩:=Zy7 (O:=O) (g':=g') LA.out a6.out d3.out d2.out d4.out o q;obtain⟨i0,i2,j⟩:=c.shape;simp only[List.length_append,List.length_singleton]at j;subst j;have U:=hid c;have L3:=hid la;have a9:=hid lg;have M:=hid lc;have R:=hid lm;have r3:=rule8 (L3.out.get 0 rfl) w3 (Fr.refl nob w3);have hD:=L3.out.cell' O 0 rfl 2 (.int .i64 ((s.at_:Int)+1));obtain⟨wD,Z⟩:∃wD,w3.setCell ⟨w.heap.size,2,none⟩ (.int .i64 ((s.at_:Int)+1))=wD:=⟨_,rfl⟩;rw[Z]at hD;have h3:=hid Z;have HD:=hid hD;clear Z hD;clear c o q la lg lc lm))
        go_roundg m
        case rel=>
         refine⟨true,rfl,.inl ⟨s.go 1,ca,cc,ma,mc,ps++[.start],g',?_,by show l.length<m+(s.at_+1);omega,HS.out.go c5,?_,by show a≤s.at_+1;omega,HD.out.1,?_,a9.out,M.out.step HD.out.2.1.ls,R.out.step HD.out.2.1.ls⟩⟩
         ·rw[←a8.out,decide_eq_false (show¬(s.go 1).at_=a by show¬s.at_+1=a;omega)];rfl
         ·rw[Nd.sizes_append];show Nd.sizes ps+(1+0)≤2*(s.at_+1);omega
         ·rw[Zx7];exact U.out.step HD.out.2.2 (by simp)
        case measure=>omega
       |false=>
        have hF:=g2.out;simp only[Bool.false_eq_true,if_false]at hF;have a8:=hid hF;have g1:=hid (ZAN l ere s ca cc ma mc (s.at_+1) deep wA hl (by omega));rw[show((s.at_+1:Nat):Int)=(s.at_:Int)+1 from rfl,g4.out]at g1;clear hF g2 b0 J
        go_upto_region 11 with(fail)
        go_cut [72] (fun v w'=>v=.bool c2∧Fr nob wA w')
        case first=>
         rcases Bool.eq_false_or_eq_true (sg==[36])with e4|e4
         ·cases ere with
          |true=>
           go_wp2;go_meet
           case rel=>exact⟨by rw[←d1.out,e4];rfl,Fr.refl _ _⟩
          |false=>
           go_wp2_with(refine LA.out.ldg 0 rfl rfl _ rfl rfl Tryz.underlying123 rfl info_dR ?_);refine g1.out.mono ?_;rintro e wB ⟨rfl,fB⟩;go_wp2;go_meet
           case rel=>exact⟨by rw[←d1.out,e4];rfl,fB⟩
         ·go_wp2;go_meet
          case rel=>exact⟨by rw[←d1.out,e4];rfl,Fr.refl _ _⟩
        case rest=>
         obtain⟨rfl,f3⟩:=hcut;obtain⟨wB,l7⟩:∃wB,wc=wB:=⟨_,rfl⟩;rw[l7]at f3⊢;have V:=hid (LA.out.on f3);have b1:=hid (a6.out.on f3);have g0:=hid (d2.out.on f3);have g5:=hid (d4.out.on f3);have rB:=rule8 (V.out.get 0 rfl) wB (Fr.refl nob wB);clear f3 l7 wc LA a6 d2 d4 g1 rA;have i:=V.out.below hO;have J:=hid i;have b0:=hid (show∀k,LS2 (lbB O (aB w)) g k→k<wB.heap.size from fun k hk=>hk.elim (i k) (b1.out.lt k));clear i;cases c2 with
         |true=>
          have u:sg=[36]:=by have h:=d1.out;rw[Bool.and_eq_true]at h;exact eq_of_beq h.1
          have c5:=sgn_fit (b4.out.trans u) (by simp);simp only[List.length_singleton]at c5;have hF:=a8.out;simp only[if_true]at hF;have a4:=hid hF;have e1:=fun W=>Zx5 W (cs:=ZAq 8) rfl;clear hF u;go_wp2_with(first|(with_reducible rw[h3.out])|(at_builtin;refine wpList_append_t (S:=lbB O (aB w)) rfl (.tmp 73) (.tmp 75) rfl (Nd.rfs ps) [Nd.fin.rf] _ _ g rfl (b1.out.on ((Fr.refl nob _).alloc _)) rfl (ST.one (Zy8 _ _ 8) b0.out _ rfl) (fun k hk=>by have:=J.out k hk;simp;omega) a2.out ?_;intro v' w3 g' c o q;obtain⟨la,lg,lc,lm⟩:=Zy7 (O:=O) (g':=g') V.out b1.out d3.out g0.out g5.out o q;obtain⟨i0,i2,j⟩:=c.shape;simp only[List.length_append,List.length_singleton]at j;subst j;have U:=hid c;have L3:=hid la;have a9:=hid lg;have M:=hid lc;have R:=hid lm;have r3:=rule8 (L3.out.get 0 rfl) w3 (Fr.refl nob w3);have hD:=L3.out.cell' O 0 rfl 2 (.int .i64 ((s.at_:Int)+1));obtain⟨wD,Z⟩:∃wD,w3.setCell ⟨w.heap.size,2,none⟩ (.int .i64 ((s.at_:Int)+1))=wD:=⟨_,rfl⟩;rw[Z]at hD;have h3:=hid Z;have HD:=hid hD;clear Z hD;clear c o q la lg lc lm))
          go_roundg m
          case rel=>
           refine⟨true,rfl,.inl ⟨s.go 1,ca,cc,ma,mc,ps++[.fin],g',?_,by show l.length<m+(s.at_+1);omega,HS.out.go c5,?_,by show a≤s.at_+1;omega,HD.out.1,?_,a9.out,M.out.step HD.out.2.1.ls,R.out.step HD.out.2.1.ls⟩⟩
           ·rw[←a4.out,decide_eq_false (show¬(s.go 1).at_=a by show¬s.at_+1=a;omega)];rfl
           ·rw[Nd.sizes_append];show Nd.sizes ps+(1+0)≤2*(s.at_+1);omega
           ·rw[Zx7];exact U.out.step HD.out.2.2 (by simp)
          case measure=>omega
         |false=>
          have hF:=a8.out;simp only[Bool.false_eq_true,if_false]at hF;have a4:=hid hF;clear hF a8 b0 J
          go_upto_region 15 with(fail)
          go_cut [107] (fun v w'=>v=.bool c3∧Fr nob wB w')
          case first=>
           cases b9 with
           |false=>
            go_wp2;go_meet
            case rel=>exact⟨by rw[←a7.out];rfl,Fr.refl _ _⟩
           |true=>
            go_wp2_with(refine V.out.ldg 0 rfl rfl _ rfl rfl Tryz.underlying123 rfl info_dR ?_);refine(a5.out 123 _).mono ?_;rintro e w4 ⟨rfl,f4⟩;have L4:=hid (V.out.on f4);have F4:=hid f4;clear f4;rcases Bool.eq_false_or_eq_true (sg==opB ere 123)with e5|e5
            ·go_wp2;go_meet
             case rel=>exact⟨by rw[←a7.out,e5];rfl,F4.out⟩
            go_wp2_with(refine L4.out.ldg 0 rfl rfl _ rfl rfl Tryz.underlying123 rfl info_dR ?_);refine(a5.out 43 _).mono ?_;rintro e w5 ⟨rfl,f5⟩;have L5:=hid (L4.out.on f5);have F5:=hid (F4.out.trans' f5);clear f5;rcases Bool.eq_false_or_eq_true (sg==opB ere 43)with e6|e6
            ·go_wp2;go_meet
             case rel=>exact⟨by rw[←a7.out,e5,e6];rfl,F5.out⟩
            go_wp2_with(refine L5.out.ldg 0 rfl rfl _ rfl rfl Tryz.underlying123 rfl info_dR ?_);refine(a5.out 63 _).mono ?_;rintro e w6 ⟨rfl,f6⟩;have L6:=hid (L5.out.on f6);have F6:=hid (F5.out.trans' f6);have r6:=rule8 (L6.out.get 0 rfl) w6 (Fr.refl nob w6);clear f6 rB;rcases Bool.eq_false_or_eq_true (sg==opB ere 63)with e7|e7
            ·go_wp2;go_meet
             case rel=>exact⟨by rw[←a7.out,e5,e6,e7];rfl,F6.out⟩
            rcases Bool.eq_false_or_eq_true (sg==[42])with e8|e8
            all_goals
             cases ere
             all_goals
              go_wp2;go_meet
              case rel=>exact⟨by rw[←a7.out,e5,e6,e7,e8];rfl,F6.out⟩
          case rest=>
           obtain⟨rfl,f4⟩:=hcut;obtain⟨wC,l8⟩:∃wC,wc=wC:=⟨_,rfl⟩;rw[l8]at f4⊢;have LC:=hid (V.out.on f4);have b2:=hid (b1.out.on f4);have j5:=hid (g0.out.on f4);have k2:=hid (g5.out.on f4);have j0:=rule8 (LC.out.get 0 rfl) wC (Fr.refl nob wC);clear f4 l8 wc V b1 g0 g5 rB a5;cases c3 with
           |true=>
            have Q:=hid (show(.inl (10,s.at_):Out Nd)=F from a4.out);go_wp2_with(refine LC.out.ld 0 rfl rfl _ rfl rfl Tryz.underlying123 rfl info_dR ?_);refine(d_fail_lit l ere s ca cc ma mc 10 s.at_ _).mono ?_;rintro e wF ⟨rfl,fF⟩;have LF:=hid (LC.out.on fF);have b3:=hid (b2.out.on fF);clear fF j0;go_wp2_with(refine LF.out.sto O 0 rfl rfl _ _ rfl rfl rfl info_dR rfl (one_dR l ere s ca cc ma mc 10 s.at_) ?_;intro wG l9 z1 z2;have LG:=hid l9;have A:=hid (b3.out.step z2 (by simp));clear l9 z1 z2);go_meet
            case rel=>
             refine⟨_,Nd.rfs ps,g,LG.out,rfl,one_dR _ _ _ _ _ _ _ _ _,A.out,by have:=Nd.rfs_le ps;omega,?_⟩;rw[←Q.out];exact⟨s,ca,cc,ma,mc,rfl,by decide⟩
           |false=>
            have hF:=a4.out;simp only[Bool.false_eq_true,if_false]at hF;have i8:∀k,LS2 (lbB O (aB w)) g k→k<wC.heap.size:=fun k hk=>hk.elim (LC.out.below hO k) (b2.out.lt k);have a3:=hid (j1.out s ca cc ma mc (LS2 (lbB O (aB w)) g) wC i8 HS.out n8 j5.out k2.out);cases hR:ZcS prg ere l C s with
            |inl z=>
             obtain⟨z,p⟩:=z;rw[hR]at hF a3;have Q:=hid (show(.inl (z,p):Out Nd)=F from hF);clear hF hR i8 a4;go_wp2_with(refine LC.out.ld 0 rfl rfl _ rfl rfl Tryz.underlying123 rfl info_dR ?_);refine a3.out.mono ?_;rintro e wD ⟨fD,s',B,D,H,I,t',i1,rfl,h5,h6,h7⟩;have h9:=h5.length;have m1:¬z=0:=h7;have n9:(z==0)=false:=by simpa using h7
             have p2:(z !=0)=true:=by simpa using h7
             have d9:=hid (show(Tryz.prog.info? 36).map (·.size)=some i1.toArray.size by rw[info_dT];simp[h9]);have f7:=hid (Zx0 h5.cell1);have g8:=hid (show zT9.size=i1.toArray.size by simp[h9]);have L5:Hid (LB w (NL w (rC l ere s ca cc ma mc 0 0) wD.heap.size zR zT9) _):=hid (((LC.out.on fD).push zR 123 wD.heap.size rfl).push zT9 36 (wD.heap.size+1) (by simp));have d5:=hid (((b2.out.on fD).wide (Zyj (Nat.le_refl wD.heap.size))).on (((Fr.refl nob wD).alloc (.cells zR 123)).alloc (.cells zT9 36)));clear h5 h6 h7 fD j0 a3 LC;unfold rV;go_wp2_with(first|(refine L5.out.sto O 3 rfl rfl _ _ rfl rfl rfl info_dR rfl (one_dR l ere s' B D H I z p) ?_;intro w6 l9 z1 z2;have L6:=hid l9;have d6:=hid (d5.out.step z2 (by simp));clear l9 z1 z2)|(refine L6.out.sto O 4 rfl rfl _ _ rfl rfl rfl d9.out g8.out f7.out ?_;intro w7 l9 z1 z2;have L7:=hid l9;have d7:=hid (d6.out.step z2 (by simp));clear l9 z1 z2)|(refine L7.out.ld 3 rfl rfl _ rfl rfl Tryz.underlying123 rfl info_dR ?_)|(refine L7.out.sto O 0 rfl rfl _ _ rfl rfl rfl info_dR rfl (one_dR l ere s' B D H I z p) ?_;intro w8 l9 z1 z2;have L8:=hid l9;have r8:=rule8 (L8.out.get 0 rfl) w8 (Fr.refl nob w8);have d8:=hid (d7.out.step z2 (by simp));clear l9 z1 z2))
             go_meet
             case rel=>
              refine⟨_,Nd.rfs ps,g,(show LB w (NL w (rC l ere s' B D H I z p) wD.heap.size (rC l ere s' B D H I z p) i1.toArray) _ from L8.out).left,rfl,one_dR _ _ _ _ _ _ _ _ _,d8.out.wide (fun k _ x=>ZyJ x),by have:=Nd.rfs_le ps;omega,?_⟩;rw[←Q.out];exact⟨s',B,D,H,I,rfl,m1⟩
            |inr y=>
             obtain⟨t,s1⟩:=y;rw[hR]at hF a3;simp only at hF;obtain⟨i9,o1,o4⟩:=atomD_kept j8.out HS.out hR;have o3:=i9.le;have Q:=hid hF;have k4:=hid i9;clear hF hR i8 a4 i9;go_wp2_with(refine LC.out.ld 0 rfl rfl _ rfl rfl Tryz.underlying123 rfl info_dR ?_);refine a3.out.mono ?_;rintro e wD ⟨fD,b6,b7,c8,c9,b8,rfl,h5,h6,h7⟩;have h9:=h5.length;have d9:=hid (show(Tryz.prog.info? 36).map (·.size)=some b8.toArray.size by rw[info_dT];simp[h9]);have f7:=hid (Zx0 h5.cell1);have g8:=hid (show zT9.size=b8.toArray.size by simp[h9]);have L5:Hid (LB w (NL w (rC l ere s ca cc ma mc 0 0) wD.heap.size zR zT9) _):=hid (((LC.out.on fD).push zR 123 wD.heap.size rfl).push zT9 36 (wD.heap.size+1) (by simp));have fA:Fr nob wD ((wD.alloc (.cells zR 123)).alloc (.cells zT9 36)):=((Fr.refl nob wD).alloc _).alloc _;have e9:∀k,k<wD.heap.size→LS2 (lbB O (nB w wD.heap.size)) g k→LS2 (lbB O (aB w)) g k:=fun k hk x=>x.elim (fun x=>.inl (Zyj (Nat.le_refl _) k hk x)) .inr
             have d5:=hid (((b2.out.on fD).wide (Zyj (Nat.le_refl wD.heap.size))).on fA);have k8:=hid ((h5.wide e9).on fA);have j2:=hid ((h6.wide e9).on fA);have j9:=hid ((h7.wide e9).on fA);clear h5 h6 h7 fD j0 a3 LC fA e9 b2 j5 k2;unfold rV;go_wp2_with(first|(refine L5.out.sto O 3 rfl rfl _ _ rfl rfl rfl info_dR rfl (one_dR l ere s1 b6 b7 c8 c9 0 0) ?_;intro w6 l9 z1 z2;have L6:=hid l9;have d6:=hid (d5.out.step z2 (by simp));have l0:=hid (k8.out.stepS z2 (.inl (.inr (by simp))));have j3:=hid (j2.out.step z1.ls);have k0:=hid (j9.out.step z1.ls);clear l9 z1 z2)|(refine L6.out.sto O 4 rfl rfl _ _ rfl rfl rfl d9.out g8.out f7.out ?_;intro w7 l9 z1 z2;have L7:=hid l9;have d7:=hid (d6.out.step z2 (by simp));have l1:=hid (l0.out.stepS z2 (.inl (.inr (by simp))));have j4:=hid (j3.out.step z1.ls);have k1:=hid (k0.out.step z1.ls);clear l9 z1 z2)|(refine L7.out.ld 3 rfl rfl _ rfl rfl Tryz.underlying123 rfl info_dR ?_)|(refine L7.out.sto O 0 rfl rfl _ _ rfl rfl rfl info_dR rfl (one_dR l ere s1 b6 b7 c8 c9 0 0) ?_;intro w8 l9 z1 z2;have L8:=hid l9;have r8:=rule8 (L8.out.get 0 rfl) w8 (Fr.refl nob w8);have d8:=hid (d7.out.step z2 (by simp));have n4:=hid (l1.out.stepS z2 (.inl (.inr (by simp))));have m3:=hid (j4.out.step z1.ls);have m9:=hid (k1.out.step z1.ls);clear l9 z1 z2)|(refine L8.out.ld 0 rfl rfl _ rfl rfl Tryz.underlying123 rfl info_dR ?_)|(refine L8.out.ld 4 rfl rfl _ rfl rfl Tryz.underlying36 rfl d9.out ?_))
             refine(Zzn l ere s1 b6 b7 c8 c9 1300 (LS2 (lbB O (nB w wD.heap.size)) g) t b8 w8 (fun k hk=>hk.elim (L8.out.below hO k) (d8.out.lt k)) k4.out hl (by have:=Nd.rf_le t;omega) n4.out m3.out m9.out).mono ?_;rintro e wE c0;have f9:=c0.1;have LE:=hid (L8.out.on f9);have k3:=hid (d8.out.on f9);clear f9 r8 L5 L6 L7 d5 d6 d7 k8 l0 l1 j2 j3 j4 j9 k0 k1;cases c4:Ze8 prg ere l (l.length+1) s1 t with
             |inl z=>
              obtain⟨z,p⟩:=z;have hF:=Q.out;rw[c4]at hF c0;obtain⟨_,s2,X,Y,a0,a1,t2,G,rfl,k5,k6,k7⟩:=c0;have g3:=hid (show F=.inl (z,p)from hF.symm);have k9:=k5.length;have g9:=hid k5;have b5:=hid (show(Tryz.prog.info? 36).map (·.size)=some G.toArray.size by rw[info_dT];simp[k9]);have f8:=hid (Zx0 k5.cell1);have g7:=hid (show b8.toArray.size=G.toArray.size by simp[h9,k9]);have e1:=fun W=>Zx5 W (cs:=G.toArray) (by simp[k9]);clear hF c4 k5 Q;unfold rV;go_wp2_with(first|(refine LE.out.sto O 0 rfl rfl _ _ rfl rfl rfl info_dR rfl (one_dR l ere s2 X Y a0 a1 z p) ?_;intro wF l9 z1 z2;have LF:=hid l9;have b3:=hid (k3.out.step z2 (by simp));have h0:=hid (g9.out.stepS z2 (.inl (.inr (by simp))));clear l9 z1 z2)|(refine LF.out.sto O 4 rfl rfl _ _ rfl rfl rfl b5.out g7.out f8.out ?_;intro wG l9 z1 z2;have LG:=hid l9;have A:=hid (b3.out.step z2 (by simp));have h2:=hid (h0.out.stepS z2 (.inl (.inr (by simp))));clear l9 z1 z2)|(refine LG.out.ld 4 rfl rfl _ rfl rfl Tryz.underlying36 rfl b5.out ?_)|(at_builtin;refine wpList_append_t (S:=lbB O (nB w wD.heap.size)) rfl (.tmp 128) (.tmp 130) rfl (Nd.rfs ps) [t2] _ _ g rfl (A.out.on ((Fr.refl nob _).alloc _)) rfl (ST.one h2.out (fun k hk=>hk.elim (LG.out.below hO k) (A.out.lt k)) _ rfl) (fun k hk=>by have:=LG.out.below hO k hk;simp;omega) a2.out ?_;intro v' w3 g' c o q;obtain⟨i0,i2,j⟩:=c.shape;simp only[List.length_append,List.length_singleton]at j;subst j;have U:=hid c;have LH:=hid ((LG.out.on ((Fr.refl nob _).alloc _)).own o (fun k hk=>⟨d3.out k hk,by obtain⟨_,_,_,_,h4⟩:=A.out;exact h4 k hk⟩));clear c o q))
              go_roundg m
              case rel=>exact⟨false,rfl,.inr ⟨s2,X,Y,a0,a1,z,p,Nd.rfs ps++[t2],g',g3.out,k7,(show LB w (NL w (rC l ere s2 X Y a0 a1 z p) wD.heap.size (rC l ere s1 b6 b7 c8 c9 0 0) G.toArray) _ from LH.out).left,U.out.wide (fun k _ x=>ZyJ x),by rw[T.bulks_append];have:=Nd.rfs_le ps;simp only[T.bulks];omega⟩⟩
              case measure=>omega
             |inr y2=>
              obtain⟨t2,s2⟩:=y2;have hF:=Q.out;rw[c4]at hF c0;simp only at hF;obtain⟨l5,o2,o5⟩:=Zbz _ _ _ _ _ k4.out c4;obtain⟨_,X,Y,a0,a1,G,rfl,k5,k6,k7⟩:=c0;have g3:=hid hF;have n3:=hid l5;have k9:=k5.length;have g9:=hid k5;have m4:=hid k6;have n0:=hid k7;have b5:=hid (show(Tryz.prog.info? 36).map (·.size)=some G.toArray.size by rw[info_dT];simp[k9]);have f8:=hid (Zx0 k5.cell1);have g7:=hid (show b8.toArray.size=G.toArray.size by simp[h9,k9]);have e1:=fun W=>Zx5 W (cs:=G.toArray) (by simp[k9]);clear hF c4 k5 k6 k7 Q l5;unfold rV;go_wp2_with(first|(refine LE.out.sto O 0 rfl rfl _ _ rfl rfl rfl info_dR rfl (one_dR l ere s2 X Y a0 a1 0 0) ?_;intro wF l9 z1 z2;have LF:=hid l9;have b3:=hid (k3.out.step z2 (by simp));have h0:=hid (g9.out.stepS z2 (.inl (.inr (by simp))));have m5:=hid (m4.out.step z1.ls);have n1:=hid (n0.out.step z1.ls);clear l9 z1 z2)|(refine LF.out.sto O 4 rfl rfl _ _ rfl rfl rfl b5.out g7.out f8.out ?_;intro wG l9 z1 z2;have LG:=hid l9;have A:=hid (b3.out.step z2 (by simp));have h2:=hid (h0.out.stepS z2 (.inl (.inr (by simp))));have m6:=hid (m5.out.step z1.ls);have n2:=hid (n1.out.step z1.ls);clear l9 z1 z2)|(refine LG.out.ld 4 rfl rfl _ rfl rfl Tryz.underlying36 rfl b5.out ?_)|(at_builtin;refine wpList_append_t (S:=lbB O (nB w wD.heap.size)) rfl (.tmp 128) (.tmp 130) rfl (Nd.rfs ps) [t2.rf] _ _ g rfl (A.out.on ((Fr.refl nob _).alloc _)) rfl (ST.one h2.out (fun k hk=>hk.elim (LG.out.below hO k) (A.out.lt k)) _ rfl) (fun k hk=>by have:=LG.out.below hO k hk;simp;omega) a2.out ?_;intro v' w3 g' c o q;obtain⟨la,lg,lc,lm⟩:=Zy7 (O:=O) (g':=g') LG.out A.out d3.out m6.out n2.out o q;obtain⟨i0,i2,j⟩:=c.shape;simp only[List.length_append,List.length_singleton]at j;subst j;have U:=hid c;have LH:=hid la;have a9:=hid lg;have M:=hid lc;have R:=hid lm;clear c o q la lg lc lm))
              go_roundg m
              case rel=>
               refine⟨false,rfl,.inl ⟨s2,X,Y,a0,a1,ps++[t2],g',?_,by omega,n3.out,?_,by omega,(show LB w (NL w (rC l ere s2 X Y a0 a1 0 0) wD.heap.size (rC l ere s1 b6 b7 c8 c9 0 0) G.toArray) _ from LH.out).left,?_,a9.out,M.out.wide (fun k _ x=>x.elim (fun x=>.inl (ZyJ x)) .inr),R.out.wide (fun k _ x=>x.elim (fun x=>.inl (ZyJ x)) .inr)⟩⟩
               ·rw[←g3.out,decide_eq_false (show¬s2.at_=a by omega)]
               ·rw[Nd.sizes_append];show Nd.sizes ps+(t2.size+0)≤2*s2.at_;omega
               ·rw[Zx7];exact U.out.wide (fun k _ x=>ZyJ x)
              case measure=>omega
   ·have m1:¬z=0:=hz;have n9:(z==0)=false:=by simpa using hz
    have r1:=rule8 (hL.get 0 rfl) wr (Fr.refl nob wr);have HL:=hid hL;have HP:=hid hP;clear hL hP;go_wp2;go_meet
    case rel=>exact⟨_,L,g,HL.out,rfl,one_dR _ _ _ _ _ _ _ _ _,HP.out,hb,by rw[hF];exact⟨s,ca,cc,ma,mc,rfl,hz⟩⟩
 case rest=>
  obtain⟨r,L,g,lE,h8,h1,oE,bE,i3⟩:=hcut;obtain⟨av,cv,rfl⟩:=oE.shape;have p0:=T.length_le L;have n5:T.bulks L≤3000000:=by omega
  have o0:∀W:World,W.heap[w.heap.size]? =some (.cells r 123 (0,0))→Sem.run Tryz.prog (loadVar 123 ⟨w.heap.size,0,none⟩) W=.ok (.agg r) W:=fun W h=>run_loadVar_row W _ _ _ r (0,0) _ h Tryz.underlying123 rfl (by rw[h8];exact info_dR);have IR:=hid (show(Tryz.prog.info? 123).map (·.size)=some r.size by rw[h8];exact info_dR);have SR:=hid (show zR.size=r.size by rw[h8];rfl);have LE:=hid lE;have OE:=hid oE;have m2:=hid i3;have H1:=hid h1;have H8:=hid h8;have HG:=hid (lE.get 0 rfl);clear HI L0 lE oE i3 h1 j1 j8 h8;go_wp2_with fail
  go_region_held3 (fun W=>W.heap[w.heap.size]? =some (.cells r 123 (0,0))) (((repeat(rw[setRow_other _ _ _ _ (by omega)]));(first|(with_reducible exact HG.out)|(with_reducible exact FJ.out.heap HG.out (fun x=>x))|(with_reducible exact(Fr.refl nob wc).drew.heap HG.out (fun x=>x))))) ((go_at_call 122;(refine(ZzC (lbB O (aB w)) L _ (World.drew wc) (LE.out.below hO) n5 (OE.out.st.keep ((Fr.refl nob wc).drew) (fun _ _ x=>x.elim) (fun _ _ x=>x))).mono ?_);rintro e wJ ⟨cs,rfl,hJ,fJ⟩;have HJ:=hid hJ;have FJ:=hid ((Fr.refl nob wc).drew.trans' fJ);have LJ:=hid (LE.out.on FJ.out);have H9:=hid hJ.length;have IC:=hid (show(Tryz.prog.info? 36).map (·.size)=some cs.toArray.size by(rw[info_dT];simp[hJ.length]));have SC:=hid (show zT9.size=cs.toArray.size by(simp[hJ.length]));have OC:=hid (Zx0 hJ.cell1);have e4:=run_storeVar_row (P:=Tryz.prog) wJ (w.heap.size+1) 123 123 zR r (LJ.out.get 1 rfl) IR.out SR.out H1.out;have L4:=hid (LJ.out.row 1 rfl (setRow_heap wJ (w.heap.size+1) zR r _ _ (LJ.out.get 1 rfl)) (Zya wJ (w.heap.size+1) r));have e5:Sem.run Tryz.prog (storeVar 36 ⟨w.heap.size+1+1,0,none⟩ (.agg cs.toArray)) (wJ.setRow (w.heap.size+1) r)=.ok () ((wJ.setRow (w.heap.size+1) r).setRow (w.heap.size+2) cs.toArray):=run_storeVar_row (P:=Tryz.prog) _ (w.heap.size+2) 36 36 zT9 cs.toArray (L4.out.get 2 rfl) IC.out SC.out OC.out;clear hJ fJ))
  all_goals
   have l4:=L4.out.get 2 rfl;have LL:=hid (L4.out.row 2 rfl (setRow_heap _ (w.heap.size+2) zT9 cs.toArray _ _ l4) (Zya (wJ.setRow (w.heap.size+1) r) (w.heap.size+2) cs.toArray));have m8:=hid (HJ.out.step (Zya wJ (w.heap.size+1) r) (by simp));have j7:=hid (m8.out.step (Zya (wJ.setRow (w.heap.size+1) r) (w.heap.size+2) cs.toArray) (by simp));have FK:=hid (LB.out (L:=AL w r) 1 rfl (Zya wJ (w.heap.size+1) r) O);have FL:=hid (LB.out (L:=AL w r) 2 rfl (Zya (wJ.setRow (w.heap.size+1) r) (w.heap.size+2) cs.toArray) O);clear l4 e4 e5;go_wp2;refine bodyPost_ret (ret_RT rfl rfl rfl (LL.out.get 1 rfl) (LL.out.get 2 rfl) H8.out (by simp[H9.out])) rfl ?_;refine⟨LL.out.fr,?_⟩;have hf:=m2.out
   match F,hf with
   | .inl (e,p),hf=>
     obtain⟨s',B,D,H,I,rfl,he⟩:=hf;exact⟨s',B,D,H,I,ZyA L,cs,rfl,j7.out.wide (fun k _ x=>.inl x),by have:=Zzp L;omega,he⟩
   | .inr (t,s'),hf=>
     obtain⟨B,D,H,I,rfl,hj,hc,hm⟩:=hf;exact⟨B,D,H,I,cs,rfl,by rw[←hj];exact j7.out.wide (fun k _ x=>.inl x),(((hc.on FJ.out).step FK.out).step FL.out).wide (fun k _ x=>.inl x),(((hm.on FJ.out).step FK.out).step FL.out).wide (fun k _ x=>.inl x)⟩
end Go.Proofs.YtgllcniibbaoaaaGreatDoor
