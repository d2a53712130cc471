/-
  Merged texts of this claim: BreN, BreO.
-/
import Derived.Test.YtkfddjopbocpkaaGreatDoorM15
set_option linter.unusedVariables false
set_option linter.unusedSimpArgs false
set_option maxRecDepth 100000
set_option maxHeartbeats 4000000
namespace Go.Proofs.YtkfddjopbocpkaaGreatDoor
open Go.Lib (hid)
open Go.RowKit
def Zni(b:Nat)(l:List UInt8)(C:Option (RxS→Out Nd))(inner:Bool)(S O:Nat→Prop)(w:World)(F:Out Nd)(n:Nat)(v5 v6:Value)(wr:World):Prop:=
 ∃front s ps S',v6=.bool front∧Pts S' O w wr ps v5∧Rdg b l s S' wr∧Stp S w S' wr∧Sane l s∧l.length<n+s.at_∧Nd.sizes ps≤s.at_∧Zdl ps∧brS prg l C inner n front s ps=F
theorem ZiL(b:Nat)(l:List UInt8)(W0:World)(deep:Nat)(C:Option (RxS→Out Nd))(s:RxS)(S O:Nat→Prop)(w:World)(hO:∀k,O k→k<w.heap.size)(hl:l.length≤100000)(hd:deep≤12)(hE0:Env W0)
 (hG:ZlV l W0 deep C) (hC:∀f,C=some f→ZbS l 2 f) (hs:Sane l s) (hW:Wd W0 S w) (h:Rdg b l s S w):
 Calls Tryz.prog 216 #[.pointer (some ⟨b,0,none⟩),.int .i64 deep] w fun x w'=>Zbm b l S O w (branchS prg l C (decide (0<deep)) s) x w':=by
 obtain⟨inner,hin⟩:∃inner,decide (0<deep)=inner:=⟨_,rfl⟩;obtain⟨F,hF⟩:∃F,branchS prg l C inner s=F:=⟨_,rfl⟩;rw[hin,hF];have HT0:=hid (Zbl b l [94] s S w hl (by decide) hs.le h);have HSN:=hid hs;have HW:=hid hW;have HG:=hid hG;have HC:=hid hC;have HE0:=hid hE0;have HOO:=hid hO;unfold branchS at hF;have HIN:=hid hin;clear hs hW hG hC hE0 hO h hin;go_enter Tryz.func216,Tryz.ntmps216
 go_wp2_with fail
 refine(HT0.out).mono ?_;rintro e w1 ⟨rfl,r1,t1⟩;have R1:=hid r1;have T1:=hid t1;clear HT0 r1 t1;cases e0:ahd l s.at_ [94]
 case' true=>
  rw[if_pos e0]at hF;have r1:=R1.out;rw[e0]at r1;simp only[if_true]at r1;have hle:=ahd_le e0 (by decide);simp only[List.length_singleton]at hle;have HLT:=hid (HW.out.stp T1.out).lt
  go_wp2_with(at_builtin;refine wpList_append_pts (W:=w) (S:=S) (O:=O) rfl (.tmp 9) (.tmp 12) rfl [] .start (.slice none 0 0) _ _ _ (by rfl) (Pts.nil _ _ _ _) HLT.out (fun k hk=>Nat.lt_of_lt_of_le (HOO.out k hk) T1.out.fr.size) T1.out.fr.size rfl (by rfl) (by rw[RN]) (by simp) ?_;intro v2 w2 hp2 off2;obtain⟨s1,hs1⟩:∃s1,s1=s.go 1:=⟨_,rfl⟩;obtain⟨ps1,hps1⟩:∃ps1:List Nd,ps1=[.start]:=⟨_,rfl⟩;have HP1:=hid (show Pts S O w w2 ps1 v2 from hps1▸hp2);have HR1:=hid (show Rdg b l s1 S w2 from hs1▸r1.off off2);have HT1:=hid (T1.out.off off2);have HS1:=hid (show Sane l s1 from hs1▸HSN.out.go hle);have HZ1:=hid (show Nd.sizes ps1≤s1.at_ from by rw[hs1,hps1];show 1+0≤s.at_+1;omega);have HU1:=hid (show Zdl ps1 from hps1▸fun x hx=>by rw[List.mem_singleton.1 hx];rfl);have HF1:=hid (show brS prg l C inner (l.length+1) true s1 ps1=F from by rw[hs1,hps1];exact hF);obtain⟨a2,c2,rfl⟩:=hp2.shape;clear hp2 off2 hs1 hps1 r1 hF e0 R1 HLT)
 case' false=>
  rw[if_neg (by rw[e0];decide)]at hF;have r1:=R1.out;rw[e0]at r1;simp only[Bool.false_eq_true,if_false]at r1;obtain⟨w2,hw2⟩:∃w2,w2=w1:=⟨_,rfl⟩;subst hw2;obtain⟨s1,hs1⟩:∃s1,s1=s:=⟨_,rfl⟩;obtain⟨ps1,hps1⟩:∃ps1:List Nd,ps1=[]:=⟨_,rfl⟩;have HP1:=hid (show Pts S O w w2 ps1 (.slice none 0 0)from hps1▸Pts.nil _ _ _ _);have HR1:=hid (show Rdg b l s1 S w2 from hs1▸r1);have HT1:=hid (T1.out);have HS1:=hid (show Sane l s1 from hs1▸HSN.out);have HZ1:=hid (show Nd.sizes ps1≤s1.at_ from by rw[hps1];exact Nat.zero_le _);have HU1:=hid (show Zdl ps1 from hps1▸fun x hx=>by cases hx);have HF1:=hid (show brS prg l C inner (l.length+1) true s1 ps1=F from by rw[hs1,hps1];exact hF);clear hs1 hps1 r1 hF e0 R1
  go_wp2_with fail
 all_goals
  clear T1
  go_loopg [5,6] (l.length+1) (fun n u v wr=>Zni b l C inner S O w F n u v wr)
  case atStart=>exact⟨true,s1,ps1,S,rfl,HP1.out,HR1.out,HT1.out,HS1.out,by omega,HZ1.out,HU1.out,HF1.out⟩
  case round=>
   clear HP1 HR1 HT1 HS1 HZ1 HU1 HF1 HSN;obtain⟨front,s,ps,S1,rfl,hp,hr,hst,hsn,hn,hz,hu,hF⟩:=hrel;have hsle:=hsn.le;obtain⟨m,rfl⟩:∃m,gk=m+1:=⟨gk-1,by omega⟩;obtain⟨av,cv0,hv⟩:=hp.shape;subst hv;obtain⟨v5,hv5⟩:∃v5,v5=Value.slice av ps.length cv0:=⟨_,rfl⟩;have HOV:=hid (Zlo b l s S1 wr (by omega) hr);have HA:=hid (fun(tt:List UInt8) (w':World) (f:Fr nob wr w') (ht:tt.length≤1000)=>ZbF b l tt s S1 w' (by omega) (by omega) hsle (hr.on f));have HP:=hid (show Pts S1 O w wr ps v5 from hv5▸hp);have HR:=hid hr;have HST:=hid hst;have HSN:=hid hsn;have HU:=hid hu;have HF:=hid hF;have HV5:=hid hv5;have HW1:=hid (HW.out.stp hst);have HJ:=hid (fun(w':World) (f:Fr nob wr w')=>joinS_any (SO S1 O) ps (.slice av ps.length cv0) w' (fun k hk=>Nat.lt_of_lt_of_le (hk.elim ((HW.out.stp hst).lt k) (fun x=>Nat.lt_of_lt_of_le (HOO.out k x) hst.fr.size)) f.size) (by omega) ((hp.on f).sn HOO.out));clear hp hr hst hsn hF hv5 hu
   by_cases hov:l.length≤s.at_
   ·have hov':decide (l.length≤s.at_)=true:=decide_eq_true hov;rw[hov']at HOV;have hF:=HF.out;rw[Zd3 hov]at hF;subst hF;clear HA HF
    go_wp2_with fail
    refine(HOV.out).mono ?_;rintro e w1 ⟨rfl,f1⟩;have F1:=hid f1;clear f1
    go_wp2_with fail
    refine(HJ.out _ F1.out).mono ?_;rintro e wj ⟨r,rfl,hrj,fj⟩;obtain⟨ij,yj,rfl⟩:=hrj.some (ZfM (joined_brn HU.out));have HRJ:=hid hrj;have FJ:=hid (F1.out.trans' fj);clear hrj fj;go_wp2;go_ret;exact⟨ij,yj,S1,rfl,HRJ.out,HR.out.on FJ.out,HST.out.trans (Stp.of FJ.out)⟩
   ·have hov':decide (l.length≤s.at_)=false:=decide_eq_false hov;rw[hov']at HOV;have ha:s.at_<l.length:=by omega
    go_wp2_with fail
    refine(HOV.out).mono ?_;rintro e w1 ⟨rfl,f1⟩;have F1:=hid f1;clear f1 HOV hov hov';have H1:=hid (HA.out [92,124] w1 F1.out (by decide));cases e1:ahd l s.at_ [92,124]with
    |true=>
     rw[e1]at H1;have hF:=HF.out;rw[ZcR ha (by rw[e1];rfl)]at hF;subst hF;clear HA HF e1
     go_wp2_with fail
     refine(H1.out).mono ?_;rintro e w2 ⟨rfl,f2⟩;have F2:=hid (F1.out.trans' f2);clear f2
     go_wp2_with fail
     refine(HJ.out _ F2.out).mono ?_;rintro e wj ⟨r,rfl,hrj,fj⟩;obtain⟨ij,yj,rfl⟩:=hrj.some (ZfM (joined_brn HU.out));have HRJ:=hid hrj;have FJ:=hid (F2.out.trans' fj);clear hrj fj;go_wp2;go_ret;exact⟨ij,yj,S1,rfl,HRJ.out,HR.out.on FJ.out,HST.out.trans (Stp.of FJ.out)⟩
    |false=>
     rw[e1]at H1
     go_wp2_with fail
     refine(H1.out).mono ?_;rintro e w2 ⟨rfl,f2⟩;have F2:=hid (F1.out.trans' f2);clear f2 H1;obtain⟨e2,he2⟩:∃e2,ahd l s.at_ [92,41]=e2:=⟨_,rfl⟩;obtain⟨st,hst⟩:∃st,(inner&&e2)=st:=⟨_,rfl⟩;have hstop:(ahd l s.at_ [92,124]||(inner&&ahd l s.at_ [92,41]))=st:=by rw[e1,he2,hst];rfl
     cases inner
     case' true=>
      have h0:(0:Int)<(deep:Int):=by have:=of_decide_eq_true HIN.out;omega
      have H2:=hid (HA.out [92,41] w2 F2.out (by decide));rw[he2]at H2;simp only[Bool.true_and]at hst;subst hst
      go_wp2_with fail
      refine(H2.out).mono ?_;rintro e wy ⟨rfl,fy⟩;have FY:=hid (F2.out.trans' fy);clear fy H2;cases e2
      case' true=>
       have hF:=HF.out;rw[ZcR ha hstop]at hF;subst hF;clear HA HF e1 he2 hstop
       go_wp2_with fail
       refine(HJ.out _ FY.out).mono ?_;rintro e wj ⟨r,rfl,hrj,fj⟩;obtain⟨ij,yj,rfl⟩:=hrj.some (ZfM (joined_brn HU.out));have HRJ:=hid hrj;have FJ:=hid (FY.out.trans' fj);clear hrj fj;go_wp2;go_ret;exact⟨ij,yj,S1,rfl,HRJ.out,HR.out.on FJ.out,HST.out.trans (Stp.of FJ.out)⟩
     case' false=>
      have h0:¬(0:Int)<(deep:Int):=by have:=of_decide_eq_false HIN.out;omega
      simp only[Bool.false_and]at hst;obtain⟨wy,hwy⟩:∃wy,wy=w2:=⟨_,rfl⟩;subst hwy;have FY:=F2
     all_goals
      (first|subst hst|skip)
      clear he2;cases front
      case' true=>
       have H3:=hid (HA.out [92,123] wy FY.out (by decide));cases e3:ahd l s.at_ [92,123]with
       |true=>
        rw[e3]at H3;have hF:=HF.out;rw[Zdb ha hstop (by rw[e3];rfl)]at hF;subst hF;clear HA HF e1 e3 hstop
        go_wp2_with fail
        refine(H3.out).mono ?_;rintro e w4 ⟨rfl,f4⟩;have F4:=hid (FY.out.trans' f4);clear f4;obtain⟨cvq,mvq,hBq⟩:=HR.out.on F4.out;obtain⟨⟨_,q1,_⟩,_,q2,_⟩:=Zd hBq.blk _ (Fr.refl _ _);clear hBq
        go_wp2_with(go_at_call 231;(with_reducible refine(br_fail 10 s.at_ _).mono ?_);rintro e w' ⟨rfl,rfl⟩)
        exact⟨rfl,rfl,S1,HST.out.trans (Stp.of F4.out)⟩
       |false=>
        rw[e3]at H3
        go_wp2_with fail
        refine(H3.out).mono ?_;rintro e w4 ⟨rfl,f4⟩;have F4:=hid (FY.out.trans' f4);clear f4 H3;have H4:=hid (HA.out [92,43] w4 F4.out (by decide));cases e4:ahd l s.at_ [92,43]with
        |true=>
         rw[e4]at H4;have hF:=HF.out;rw[Zdb ha hstop (by rw[e3,e4];rfl)]at hF;subst hF;clear HA HF e1 e3 e4 hstop
         go_wp2_with fail
         refine(H4.out).mono ?_;rintro e w5 ⟨rfl,f5⟩;have F5:=hid (F4.out.trans' f5);clear f5;obtain⟨cvq,mvq,hBq⟩:=HR.out.on F5.out;obtain⟨⟨_,q1,_⟩,_,q2,_⟩:=Zd hBq.blk _ (Fr.refl _ _);clear hBq
         go_wp2_with(go_at_call 231;(with_reducible refine(br_fail 10 s.at_ _).mono ?_);rintro e w' ⟨rfl,rfl⟩)
         exact⟨rfl,rfl,S1,HST.out.trans (Stp.of F5.out)⟩
        |false=>
         rw[e4]at H4
         go_wp2_with fail
         refine(H4.out).mono ?_;rintro e w5 ⟨rfl,f5⟩;have F5:=hid (F4.out.trans' f5);clear f5 H4;have H5:=hid (HA.out [92,63] w5 F5.out (by decide));cases e5:ahd l s.at_ [92,63]with
         |true=>
          rw[e5]at H5;have hF:=HF.out;rw[Zdb ha hstop (by rw[e3,e4,e5];rfl)]at hF;subst hF;clear HA HF e1 e3 e4 e5 hstop
          go_wp2_with fail
          refine(H5.out).mono ?_;rintro e w6 ⟨rfl,f6⟩;have F6:=hid (F5.out.trans' f6);clear f6;obtain⟨cvq,mvq,hBq⟩:=HR.out.on F6.out;obtain⟨⟨_,q1,_⟩,_,q2,_⟩:=Zd hBq.blk _ (Fr.refl _ _);clear hBq
          go_wp2_with(go_at_call 231;(with_reducible refine(br_fail 10 s.at_ _).mono ?_);rintro e w' ⟨rfl,rfl⟩)
          exact⟨rfl,rfl,S1,HST.out.trans (Stp.of F6.out)⟩
         |false=>
          rw[e5]at H5
          go_wp2_with fail
          refine(H5.out).mono ?_;rintro e wz ⟨rfl,fz⟩;have FZ:=hid (F5.out.trans' fz);clear fz H5;have hbad:(true&&(ahd l s.at_ [92,123]||(ahd l s.at_ [92,43]||ahd l s.at_ [92,63])))=false:=by rw[e3,e4,e5];rfl
          have HBAD:=hid hbad;clear hbad e3 e4 e5 F4 F5;have H6:=hid (HA.out [36] wz FZ.out (by decide));obtain⟨x,hx⟩:∃x,l[s.at_]=x:=⟨_,rfl⟩;have HLA:=hid (fun(w':World) (f:Fr nob wr w')=>Zis b l s S1 w' (by omega) ha (HR.out.on f));have HAT:=hid (fun(w':World) (f:Fr nob wr w')=>ZiK b l W0 deep C s S1 (PO O v5) w' x ((HP.out.on f).lt (fun k hk=>Nat.lt_of_lt_of_le (HOO.out k hk) (Nat.le_trans HST.out.fr.size f.size))) hl hd HE0.out HG.out HSN.out ha hx (HW1.out.stp (Stp.of f)) (HR.out.on f));clear HA HJ;cases e6:ahd l s.at_ [36]
          case' true=>
           rw[e6]at H6
           go_wp2_with fail
           refine(H6.out).mono ?_;rintro e w6 ⟨rfl,f6⟩;have F6:=hid (FZ.out.trans' f6);clear f6 H6;have H7:=hid (HLA.out w6 F6.out);cases e7:Zbk l s.at_ with
           |true=>
            rw[e7]at H7;have hF:=HF.out;rw[Zd4 ha hstop HBAD.out (by rw[e6,e7];rfl)]at hF;have HF2:=hid hF;clear HF hF e6 e7 hstop e1 HAT HBAD HLA hx
            go_wp2_with fail
            refine(H7.out).mono ?_;rintro e w7 ⟨rfl,f7⟩;have F7:=hid (F6.out.trans' f7);clear f7 H7;obtain⟨cv7,mv7,hB7⟩:=HR.out.on F7.out;obtain⟨⟨_,q1,_⟩,_,q2,_⟩:=Zd hB7.blk _ (Fr.refl _ _);obtain⟨w8,hw8⟩:∃w8,w8=w7.setCell ⟨b,1,none⟩ (.int .i64 ((s.at_:Int)+1)):=⟨_,rfl⟩;have hB8:Rdg b l (s.go 1) S1 w8:=⟨cv7,mv7,by rw[hw8];exact hB7.turned 1 _ (s.go 1) (by simp[RxS.go]) rfl rfl⟩;have hT8:Stp S1 wr S1 w8:=by rw[hw8];exact(Stp.of F7.out).trans (hB7.stp 1 _)
            have hsz8:w8.heap.size=w7.heap.size:=by rw[hw8];simp[World.setCell]
            have HB8:=hid hB8;have HT8:=hid hT8;have HW8:=hid hw8;have HP8:=hid (HP.out.stp hT8);have HLT8:=hid (HW1.out.stp hT8).lt;have HOT:=hid (show∀k,O k→k<w8.heap.size from fun k hk=>Nat.lt_of_lt_of_le (HOO.out k hk) (Nat.le_trans HST.out.fr.size hT8.fr.size));have HWS:=hid (Nat.le_trans HST.out.fr.size hT8.fr.size);have hpl:=Nd.length_le ps;clear hB7 hB8 hT8 hw8
            go_wp2_with(first|(rw[←HW8.out])|(at_builtin;refine wpList_append_pts (W:=w) (S:=S1) (O:=O) rfl (.tmp 62) (.tmp 65) rfl ps .fin v5 _ _ _ (by rw[HV5.out];rfl) HP8.out HLT8.out HOT.out HWS.out hsz8.symm (by rfl) (by rw[RN]) (by omega) ?_;intro v9 w9 hp9 off9;obtain⟨a9,c9,he9⟩:=hp9.shape;simp only[List.length_append,List.length_singleton]at he9;subst he9;have HP9:=hid hp9;have HO9:=hid off9;clear hp9 off9))
            go_roundg m
            case measure=>omega
            case rel=>
             refine⟨false,s.go 1,ps++[.fin],S1,rfl,HP9.out,HB8.out.off HO9.out,(HST.out.trans HT8.out).off HO9.out,HSN.out.go (by omega),?_,?_,HU.out.snoc rfl,HF2.out⟩
             ·show l.length<m+(s.at_+1);omega
             ·rw[Nd.sizes_append];show Nd.sizes ps+(1+0)≤s.at_+1;omega
           |false=>
            rw[e7]at H7
            go_wp2_with fail
            refine(H7.out).mono ?_;rintro e w7 ⟨rfl,f7⟩;have F7:=hid (F6.out.trans' f7);clear f7 H7;have hfin:(ahd l s.at_ [36]&&Zbk l s.at_)=false:=by rw[e6,e7];rfl
            have HFI:=hid hfin;clear hfin e6 e7;have hF:=HF.out;rw[Zdx ha hstop HBAD.out HFI.out]at hF;unfold ZhU at hF;rw[hx]at hF;have H8:=hid (HAT.out w7 F7.out);cases hat:Zbv prg l C s x with
            |inl z=>
             obtain⟨z1,z2⟩:=z;rw[hat]at hF H8;subst hF;clear HF HAT HBAD HFI HLA hstop e1
             go_wp2_with fail
             refine(H8.out).mono ?_;rintro e w8 ⟨rfl,S2,t8⟩;exact⟨rfl,rfl,S2,(HST.out.trans (Stp.of F7.out)).trans t8⟩
            |inr z=>
             obtain⟨n1,s1⟩:=z;rw[hat]at hF H8;simp only at hF;obtain⟨k1,k2,k3⟩:=Za7 HC.out HSN.out ha hat;have hun:=atomS_unit hat;clear HF HAT HBAD HFI HLA hstop e1 hat
             go_wp2_with fail
             refine(H8.out).mono ?_;rintro e w8 ⟨i8,y8,S2,rfl,rn8,r8,t8⟩;have T8:=hid ((Stp.of F7.out).trans t8);have H9:=hid (Zbn b l s1 n1 i8 y8 S2 (PO O v5) w8 hl k1.le k1.mr rn8 r8);clear rn8 r8 t8 H8;cases hrp:Zbu prg l (l.length+1) s1 n1 with
             |inl z=>
              obtain⟨z1,z2⟩:=z;rw[hrp]at hF H9;subst hF
              go_wp2_with fail
              refine(H9.out).mono ?_;rintro e w9 ⟨rfl,S3,t9⟩;exact⟨rfl,rfl,S3,(HST.out.trans T8.out).trans t9⟩
             |inr z=>
              obtain⟨n2,s2⟩:=z;rw[hrp]at hF H9;simp only at hF;obtain⟨j1,j2,j3⟩:=Zap _ _ _ _ _ k1 hrp;have hun2:=repS_unit _ _ _ _ _ hun hrp;have HF2:=hid hF;clear hrp hF
              go_wp2_with fail
              refine(H9.out).mono ?_;rintro e w9 ⟨i9,y9,S3,rfl,rn9,r9,t9⟩;have T9:=hid (T8.out.trans t9);have RN9:=hid rn9;have R9:=hid r9;clear rn9 r9 t9 H9;have HP9:=hid (HP.out.stp T9.out);have HLT9:=hid (HW1.out.stp T9.out).lt;have HOT:=hid (show∀k,O k→k<w9.heap.size from fun k hk=>Nat.lt_of_lt_of_le (HOO.out k hk) (Nat.le_trans HST.out.fr.size T9.out.fr.size));have HWS:=hid (Nat.le_trans HST.out.fr.size T9.out.fr.size);have hpl:=Nd.length_le ps
              go_wp2_with(at_builtin;refine wpList_append_pts (W:=w) (S:=S3) (O:=O) rfl (.tmp 67) (.tmp 73) rfl ps n2 v5 _ _ _ (by rw[HV5.out];rfl) HP9.out HLT9.out HOT.out HWS.out rfl (by rfl) RN9.out (by omega) ?_;intro va wa hpa offa;obtain⟨aa,ca,hea⟩:=hpa.shape;simp only[List.length_append,List.length_singleton]at hea;subst hea;have HPA:=hid hpa;have HOA:=hid offa;clear hpa offa)
              go_roundg m
              case measure=>omega
              case rel=>
               refine⟨false,s2,ps++[n2],S3,rfl,HPA.out,R9.out.off HOA.out,(HST.out.trans T9.out).off HOA.out,j1,by omega,?_,HU.out.snoc hun2,HF2.out⟩;rw[Nd.sizes_append];show Nd.sizes ps+(n2.size+0)≤s2.at_;omega
          case' false=>
           rw[e6]at H6
           go_wp2_with fail
           refine(H6.out).mono ?_;rintro e w7 ⟨rfl,f7⟩;have F7:=hid (FZ.out.trans' f7);clear f7 H6;have hfin:(ahd l s.at_ [36]&&Zbk l s.at_)=false:=by rw[e6];rfl
           have HFI:=hid hfin;clear hfin e6;have hF:=HF.out;rw[Zdx ha hstop HBAD.out HFI.out]at hF;unfold ZhU at hF;rw[hx]at hF;have H8:=hid (HAT.out w7 F7.out);cases hat:Zbv prg l C s x with
           |inl z=>
            obtain⟨z1,z2⟩:=z;rw[hat]at hF H8;subst hF;clear HF HAT HBAD HFI HLA hstop e1
            go_wp2_with fail
            refine(H8.out).mono ?_;rintro e w8 ⟨rfl,S2,t8⟩;exact⟨rfl,rfl,S2,(HST.out.trans (Stp.of F7.out)).trans t8⟩
           |inr z=>
            obtain⟨n1,s1⟩:=z;rw[hat]at hF H8;simp only at hF;obtain⟨k1,k2,k3⟩:=Za7 HC.out HSN.out ha hat;have hun:=atomS_unit hat;clear HF HAT HBAD HFI HLA hstop e1 hat
            go_wp2_with fail
            refine(H8.out).mono ?_;rintro e w8 ⟨i8,y8,S2,rfl,rn8,r8,t8⟩;have T8:=hid ((Stp.of F7.out).trans t8);have H9:=hid (Zbn b l s1 n1 i8 y8 S2 (PO O v5) w8 hl k1.le k1.mr rn8 r8);clear rn8 r8 t8 H8;cases hrp:Zbu prg l (l.length+1) s1 n1 with
            |inl z=>
             obtain⟨z1,z2⟩:=z;rw[hrp]at hF H9;subst hF
             go_wp2_with fail
             refine(H9.out).mono ?_;rintro e w9 ⟨rfl,S3,t9⟩;exact⟨rfl,rfl,S3,(HST.out.trans T8.out).trans t9⟩
            |inr z=>
             obtain⟨n2,s2⟩:=z;rw[hrp]at hF H9;simp only at hF;obtain⟨j1,j2,j3⟩:=Zap _ _ _ _ _ k1 hrp;have hun2:=repS_unit _ _ _ _ _ hun hrp;have HF2:=hid hF;clear hrp hF
             go_wp2_with fail
             refine(H9.out).mono ?_;rintro e w9 ⟨i9,y9,S3,rfl,rn9,r9,t9⟩;have T9:=hid (T8.out.trans t9);have RN9:=hid rn9;have R9:=hid r9;clear rn9 r9 t9 H9;have HP9:=hid (HP.out.stp T9.out);have HLT9:=hid (HW1.out.stp T9.out).lt;have HOT:=hid (show∀k,O k→k<w9.heap.size from fun k hk=>Nat.lt_of_lt_of_le (HOO.out k hk) (Nat.le_trans HST.out.fr.size T9.out.fr.size));have HWS:=hid (Nat.le_trans HST.out.fr.size T9.out.fr.size);have hpl:=Nd.length_le ps
             go_wp2_with(at_builtin;refine wpList_append_pts (W:=w) (S:=S3) (O:=O) rfl (.tmp 67) (.tmp 73) rfl ps n2 v5 _ _ _ (by rw[HV5.out];rfl) HP9.out HLT9.out HOT.out HWS.out rfl (by rfl) RN9.out (by omega) ?_;intro va wa hpa offa;obtain⟨aa,ca,hea⟩:=hpa.shape;simp only[List.length_append,List.length_singleton]at hea;subst hea;have HPA:=hid hpa;have HOA:=hid offa;clear hpa offa)
             go_roundg m
             case measure=>omega
             case rel=>
              refine⟨false,s2,ps++[n2],S3,rfl,HPA.out,R9.out.off HOA.out,(HST.out.trans T9.out).off HOA.out,j1,by omega,?_,HU.out.snoc hun2,HF2.out⟩;rw[Nd.sizes_append];show Nd.sizes ps+(n2.size+0)≤s2.at_;omega
      case' false=>
       obtain⟨wz,hwz⟩:∃wz,wz=wy:=⟨_,rfl⟩;subst hwz;have FZ:=FY;have hbad:(false&&(ahd l s.at_ [92,123]||(ahd l s.at_ [92,43]||ahd l s.at_ [92,63])))=false:=rfl;have HBAD:=hid hbad;clear hbad;have H6:=hid (HA.out [36] wz FZ.out (by decide));obtain⟨x,hx⟩:∃x,l[s.at_]=x:=⟨_,rfl⟩;have HLA:=hid (fun(w':World) (f:Fr nob wr w')=>Zis b l s S1 w' (by omega) ha (HR.out.on f));have HAT:=hid (fun(w':World) (f:Fr nob wr w')=>ZiK b l W0 deep C s S1 (PO O v5) w' x ((HP.out.on f).lt (fun k hk=>Nat.lt_of_lt_of_le (HOO.out k hk) (Nat.le_trans HST.out.fr.size f.size))) hl hd HE0.out HG.out HSN.out ha hx (HW1.out.stp (Stp.of f)) (HR.out.on f));clear HA HJ;cases e6:ahd l s.at_ [36]
       case' true=>
        rw[e6]at H6
        go_wp2_with fail
        refine(H6.out).mono ?_;rintro e w6 ⟨rfl,f6⟩;have F6:=hid (FZ.out.trans' f6);clear f6 H6;have H7:=hid (HLA.out w6 F6.out);cases e7:Zbk l s.at_ with
        |true=>
         rw[e7]at H7;have hF:=HF.out;rw[Zd4 ha hstop HBAD.out (by rw[e6,e7];rfl)]at hF;have HF2:=hid hF;clear HF hF e6 e7 hstop e1 HAT HBAD HLA hx
         go_wp2_with fail
         refine(H7.out).mono ?_;rintro e w7 ⟨rfl,f7⟩;have F7:=hid (F6.out.trans' f7);clear f7 H7;obtain⟨cv7,mv7,hB7⟩:=HR.out.on F7.out;obtain⟨⟨_,q1,_⟩,_,q2,_⟩:=Zd hB7.blk _ (Fr.refl _ _);obtain⟨w8,hw8⟩:∃w8,w8=w7.setCell ⟨b,1,none⟩ (.int .i64 ((s.at_:Int)+1)):=⟨_,rfl⟩;have hB8:Rdg b l (s.go 1) S1 w8:=⟨cv7,mv7,by rw[hw8];exact hB7.turned 1 _ (s.go 1) (by simp[RxS.go]) rfl rfl⟩;have hT8:Stp S1 wr S1 w8:=by rw[hw8];exact(Stp.of F7.out).trans (hB7.stp 1 _)
         have hsz8:w8.heap.size=w7.heap.size:=by rw[hw8];simp[World.setCell]
         have HB8:=hid hB8;have HT8:=hid hT8;have HW8:=hid hw8;have HP8:=hid (HP.out.stp hT8);have HLT8:=hid (HW1.out.stp hT8).lt;have HOT:=hid (show∀k,O k→k<w8.heap.size from fun k hk=>Nat.lt_of_lt_of_le (HOO.out k hk) (Nat.le_trans HST.out.fr.size hT8.fr.size));have HWS:=hid (Nat.le_trans HST.out.fr.size hT8.fr.size);have hpl:=Nd.length_le ps;clear hB7 hB8 hT8 hw8
         go_wp2_with(first|(rw[←HW8.out])|(at_builtin;refine wpList_append_pts (W:=w) (S:=S1) (O:=O) rfl (.tmp 62) (.tmp 65) rfl ps .fin v5 _ _ _ (by rw[HV5.out];rfl) HP8.out HLT8.out HOT.out HWS.out hsz8.symm (by rfl) (by rw[RN]) (by omega) ?_;intro v9 w9 hp9 off9;obtain⟨a9,c9,he9⟩:=hp9.shape;simp only[List.length_append,List.length_singleton]at he9;subst he9;have HP9:=hid hp9;have HO9:=hid off9;clear hp9 off9))
         go_roundg m
         case measure=>omega
         case rel=>
          refine⟨false,s.go 1,ps++[.fin],S1,rfl,HP9.out,HB8.out.off HO9.out,(HST.out.trans HT8.out).off HO9.out,HSN.out.go (by omega),?_,?_,HU.out.snoc rfl,HF2.out⟩
          ·show l.length<m+(s.at_+1);omega
          ·rw[Nd.sizes_append];show Nd.sizes ps+(1+0)≤s.at_+1;omega
        |false=>
         rw[e7]at H7
         go_wp2_with fail
         refine(H7.out).mono ?_;rintro e w7 ⟨rfl,f7⟩;have F7:=hid (F6.out.trans' f7);clear f7 H7;have hfin:(ahd l s.at_ [36]&&Zbk l s.at_)=false:=by rw[e6,e7];rfl
         have HFI:=hid hfin;clear hfin e6 e7;have hF:=HF.out;rw[Zdx ha hstop HBAD.out HFI.out]at hF;unfold ZhU at hF;rw[hx]at hF;have H8:=hid (HAT.out w7 F7.out);cases hat:Zbv prg l C s x with
         |inl z=>
          obtain⟨z1,z2⟩:=z;rw[hat]at hF H8;subst hF;clear HF HAT HBAD HFI HLA hstop e1
          go_wp2_with fail
          refine(H8.out).mono ?_;rintro e w8 ⟨rfl,S2,t8⟩;exact⟨rfl,rfl,S2,(HST.out.trans (Stp.of F7.out)).trans t8⟩
         |inr z=>
          obtain⟨n1,s1⟩:=z;rw[hat]at hF H8;simp only at hF;obtain⟨k1,k2,k3⟩:=Za7 HC.out HSN.out ha hat;have hun:=atomS_unit hat;clear HF HAT HBAD HFI HLA hstop e1 hat
          go_wp2_with fail
          refine(H8.out).mono ?_;rintro e w8 ⟨i8,y8,S2,rfl,rn8,r8,t8⟩;have T8:=hid ((Stp.of F7.out).trans t8);have H9:=hid (Zbn b l s1 n1 i8 y8 S2 (PO O v5) w8 hl k1.le k1.mr rn8 r8);clear rn8 r8 t8 H8;cases hrp:Zbu prg l (l.length+1) s1 n1 with
          |inl z=>
           obtain⟨z1,z2⟩:=z;rw[hrp]at hF H9;subst hF
           go_wp2_with fail
           refine(H9.out).mono ?_;rintro e w9 ⟨rfl,S3,t9⟩;exact⟨rfl,rfl,S3,(HST.out.trans T8.out).trans t9⟩
          |inr z=>
           obtain⟨n2,s2⟩:=z;rw[hrp]at hF H9;simp only at hF;obtain⟨j1,j2,j3⟩:=Zap _ _ _ _ _ k1 hrp;have hun2:=repS_unit _ _ _ _ _ hun hrp;have HF2:=hid hF;clear hrp hF
           go_wp2_with fail
           refine(H9.out).mono ?_;rintro e w9 ⟨i9,y9,S3,rfl,rn9,r9,t9⟩;have T9:=hid (T8.out.trans t9);have RN9:=hid rn9;have R9:=hid r9;clear rn9 r9 t9 H9;have HP9:=hid (HP.out.stp T9.out);have HLT9:=hid (HW1.out.stp T9.out).lt;have HOT:=hid (show∀k,O k→k<w9.heap.size from fun k hk=>Nat.lt_of_lt_of_le (HOO.out k hk) (Nat.le_trans HST.out.fr.size T9.out.fr.size));have HWS:=hid (Nat.le_trans HST.out.fr.size T9.out.fr.size);have hpl:=Nd.length_le ps
           go_wp2_with(at_builtin;refine wpList_append_pts (W:=w) (S:=S3) (O:=O) rfl (.tmp 67) (.tmp 73) rfl ps n2 v5 _ _ _ (by rw[HV5.out];rfl) HP9.out HLT9.out HOT.out HWS.out rfl (by rfl) RN9.out (by omega) ?_;intro va wa hpa offa;obtain⟨aa,ca,hea⟩:=hpa.shape;simp only[List.length_append,List.length_singleton]at hea;subst hea;have HPA:=hid hpa;have HOA:=hid offa;clear hpa offa)
           go_roundg m
           case measure=>omega
           case rel=>
            refine⟨false,s2,ps++[n2],S3,rfl,HPA.out,R9.out.off HOA.out,(HST.out.trans T9.out).off HOA.out,j1,by omega,?_,HU.out.snoc hun2,HF2.out⟩;rw[Nd.sizes_append];show Nd.sizes ps+(n2.size+0)≤s2.at_;omega
       case' false=>
        rw[e6]at H6
        go_wp2_with fail
        refine(H6.out).mono ?_;rintro e w7 ⟨rfl,f7⟩;have F7:=hid (FZ.out.trans' f7);clear f7 H6;have hfin:(ahd l s.at_ [36]&&Zbk l s.at_)=false:=by rw[e6];rfl
        have HFI:=hid hfin;clear hfin e6;have hF:=HF.out;rw[Zdx ha hstop HBAD.out HFI.out]at hF;unfold ZhU at hF;rw[hx]at hF;have H8:=hid (HAT.out w7 F7.out);cases hat:Zbv prg l C s x with
        |inl z=>
         obtain⟨z1,z2⟩:=z;rw[hat]at hF H8;subst hF;clear HF HAT HBAD HFI HLA hstop e1
         go_wp2_with fail
         refine(H8.out).mono ?_;rintro e w8 ⟨rfl,S2,t8⟩;exact⟨rfl,rfl,S2,(HST.out.trans (Stp.of F7.out)).trans t8⟩
        |inr z=>
         obtain⟨n1,s1⟩:=z;rw[hat]at hF H8;simp only at hF;obtain⟨k1,k2,k3⟩:=Za7 HC.out HSN.out ha hat;have hun:=atomS_unit hat;clear HF HAT HBAD HFI HLA hstop e1 hat
         go_wp2_with fail
         refine(H8.out).mono ?_;rintro e w8 ⟨i8,y8,S2,rfl,rn8,r8,t8⟩;have T8:=hid ((Stp.of F7.out).trans t8);have H9:=hid (Zbn b l s1 n1 i8 y8 S2 (PO O v5) w8 hl k1.le k1.mr rn8 r8);clear rn8 r8 t8 H8;cases hrp:Zbu prg l (l.length+1) s1 n1 with
         |inl z=>
          obtain⟨z1,z2⟩:=z;rw[hrp]at hF H9;subst hF
          go_wp2_with fail
          refine(H9.out).mono ?_;rintro e w9 ⟨rfl,S3,t9⟩;exact⟨rfl,rfl,S3,(HST.out.trans T8.out).trans t9⟩
         |inr z=>
          obtain⟨n2,s2⟩:=z;rw[hrp]at hF H9;simp only at hF;obtain⟨j1,j2,j3⟩:=Zap _ _ _ _ _ k1 hrp;have hun2:=repS_unit _ _ _ _ _ hun hrp;have HF2:=hid hF;clear hrp hF
          go_wp2_with fail
          refine(H9.out).mono ?_;rintro e w9 ⟨i9,y9,S3,rfl,rn9,r9,t9⟩;have T9:=hid (T8.out.trans t9);have RN9:=hid rn9;have R9:=hid r9;clear rn9 r9 t9 H9;have HP9:=hid (HP.out.stp T9.out);have HLT9:=hid (HW1.out.stp T9.out).lt;have HOT:=hid (show∀k,O k→k<w9.heap.size from fun k hk=>Nat.lt_of_lt_of_le (HOO.out k hk) (Nat.le_trans HST.out.fr.size T9.out.fr.size));have HWS:=hid (Nat.le_trans HST.out.fr.size T9.out.fr.size);have hpl:=Nd.length_le ps
          go_wp2_with(at_builtin;refine wpList_append_pts (W:=w) (S:=S3) (O:=O) rfl (.tmp 67) (.tmp 73) rfl ps n2 v5 _ _ _ (by rw[HV5.out];rfl) HP9.out HLT9.out HOT.out HWS.out rfl (by rfl) RN9.out (by omega) ?_;intro va wa hpa offa;obtain⟨aa,ca,hea⟩:=hpa.shape;simp only[List.length_append,List.length_singleton]at hea;subst hea;have HPA:=hid hpa;have HOA:=hid offa;clear hpa offa)
          go_roundg m
          case measure=>omega
          case rel=>
           refine⟨false,s2,ps++[n2],S3,rfl,HPA.out,R9.out.off HOA.out,(HST.out.trans T9.out).off HOA.out,j1,by omega,?_,HU.out.snoc hun2,HF2.out⟩;rw[Nd.sizes_append];show Nd.sizes ps+(n2.size+0)≤s2.at_;omega
theorem ZfN{w:World}{b:Nat}{v:Value}{e:TypeId}(h:w.heap[b]? =some (.cells #[v] e (0,0))):w.ownsRow 0 e 1 (.slice (some ⟨b,0,none⟩) 1 1) 1 [v]:=by
 refine⟨by simp,.inr ⟨b,1,#[v],rfl,Nat.zero_le _,h,by simp,by simp[maxLen],by simp,by simp⟩⟩
theorem Pts.one{S O:Nat→Prop}{W w0:World}{t:Nd}{val:Value}{b:Nat}(hv:RN (SO S O) w0 t val)(hlt:∀k,S k→k<w0.heap.size)(hO:∀k,O k→k<w0.heap.size)(hW:W.heap.size≤w0.heap.size)(hb:b=w0.heap.size):
 Pts S O W (w0.alloc (.cells #[val] 26)) [t] (.slice (some ⟨b,0,none⟩) 1 1):=by
 subst hb;refine⟨⟨[val],ZfN (newAt0 w0 _),⟨val,[],rfl,?_,rfl⟩,rfl⟩,fun k hk=> ?_⟩
 ·refine RN.keep ((Fr.refl nob w0).alloc _) (fun _ _ x=>x.elim) (fun k hk x=> ?_) _ _ hv;rcases x with x|x
  ·exact x
  ·have x:some w0.heap.size=some k:=x;injection x with x;omega
 ·have hk:some w0.heap.size=some k:=hk;injection hk with hk;exact⟨fun x=>by have:=hlt k x;omega,by omega⟩
section
variable {l:List UInt8} {C:Option (RxS→Out Nd)} {inner:Bool} {n:Nat} {s:RxS} {ts:List Nd}
theorem Zhy(h:ahd l s.at_ [92,124]=false):ZaJ prg l C inner (n+1) s ts=.inr (ZbD ts,s):=by
 rw[ZaJ,if_neg (by rw[h];decide)];rfl
theorem Zhz(h:ahd l s.at_ [92,124]=true){e:Int×Nat}(hb:branchS prg l C inner ((s.mark [92,124]).go 2)=.inl e):ZaJ prg l C inner (n+1) s ts=.inl e:=by
 rw[ZaJ,if_pos h,hb]
theorem ZiM(h:ahd l s.at_ [92,124]=true){t:Nd}{s':RxS}(hb:branchS prg l C inner ((s.mark [92,124]).go 2)=.inr (t,s')):ZaJ prg l C inner (n+1) s ts=ZaJ prg l C inner n s' (ts++[t]):=by
 rw[ZaJ,if_pos h,hb]
end
def Znj(b:Nat)(l:List UInt8)(C:Option (RxS→Out Nd))(inner:Bool)(S O:Nat→Prop)(w:World)(F:Out Nd)(n:Nat)(v5:Value)(wr:World):Prop:=
 ∃s ts S',Pts S' O w wr ts v5∧Rdg b l s S' wr∧Stp S w S' wr∧Sane l s∧l.length<n+s.at_∧Nd.sizes ts≤s.at_+1∧Zly ts∧ZaJ prg l C inner n s ts=F
theorem ZeD(b:Nat)(l:List UInt8)(W0:World)(deep:Nat)(C:Option (RxS→Out Nd))(s:RxS)(S O:Nat→Prop)(w:World)(hO:∀k,O k→k<w.heap.size)(hl:l.length≤100000)(hd:deep≤12)(hE0:Env W0)
 (hG:ZlV l W0 deep C) (hC:∀f,C=some f→ZbS l 2 f) (hs:Sane l s) (hW:Wd W0 S w) (h:Rdg b l s S w):
 Calls Tryz.prog 204 #[.pointer (some ⟨b,0,none⟩),.int .i64 deep] w fun x w'=>Zbm b l S O w (choiceS prg l C (decide (0<deep)) s) x w':=by
 obtain⟨F,hF⟩:∃F,choiceS prg l C (decide (0<deep)) s=F:=⟨_,rfl⟩;rw[hF];have HBR:=hid (fun(s:RxS) (S O:Nat→Prop) (w:World) (hO:∀k,O k→k<w.heap.size) (hs:Sane l s) (hW:Wd W0 S w) (h:Rdg b l s S w)=>ZiL b l W0 deep C s S O w hO hl hd hE0 hG hC hs hW h);obtain⟨inner,hin⟩:∃inner,decide (0<deep)=inner:=⟨_,rfl⟩;rw[hin]at HBR hF;have HW:=hid hW;have HC:=hid hC;have HOO:=hid hO;unfold choiceS at hF;have H0:=hid (HBR.out s S O w hO hs hW h);clear hW hC hE0 hO h hG hin;go_enter Tryz.func204,Tryz.ntmps204
 go_wp2_with fail
 refine(H0.out).mono ?_;cases hb0:branchS prg l C inner s with
 |inl z=>
  obtain⟨z1,z2⟩:=z;rw[hb0]at hF;subst hF;rintro e w1 ⟨rfl,S1,t1⟩;exact⟨rfl,rfl,S1,t1⟩
 |inr z=>
  obtain⟨t,s1⟩:=z;rw[hb0]at hF;simp only at hF;obtain⟨k1,k2,k3⟩:=ZaV HC.out _ hs _ _ hb0;have hbr:=branchS_brn hb0;rintro e w1 ⟨i,y,S1,rfl,rn1,r1,t1⟩;have HP1:=hid (Pts.one (W:=w) rn1 ((HW.out.stp t1).lt) (fun k hk=>Nat.lt_of_lt_of_le (HOO.out k hk) t1.fr.size) t1.fr.size rfl);have R1:=hid r1;have T1:=hid t1;have HF:=hid hF;have K1:=hid k1;clear H0 hb0 hF rn1 r1 t1 k1 hs
  go_wp2_with fail
  go_loopg [5] (l.length+1) (fun n v wr=>Znj b l C inner S O w F n v wr)
  case atStart=>exact⟨s1,[t],S1,HP1.out,R1.out.on ((Fr.refl _ _).alloc _),T1.out.trans (Stp.of ((Fr.refl _ _).alloc _)),K1.out,by omega,by show t.size+0≤_;omega,fun x hx=>by rw[List.mem_singleton.1 hx];exact hbr,HF.out⟩
  case round=>
   clear HP1 R1 T1 K1 HF k2 k3 hbr;obtain⟨s,ts,S1,hp,hr,hst,hsn,hn,hz,hu,hF⟩:=hrel;have hsle:=hsn.le;obtain⟨m,rfl⟩:∃m,gk=m+1:=⟨gk-1,by omega⟩;obtain⟨av,cv0,hv⟩:=hp.shape;subst hv;obtain⟨v5,hv5⟩:∃v5,v5=Value.slice av ts.length cv0:=⟨_,rfl⟩;have HA:=hid (ZbF b l [92,124] s S1 wr (by omega) (by decide) hsle hr);have HP:=hid (show Pts S1 O w wr ts v5 from hv5▸hp);have HR:=hid hr;have HST:=hid hst;have HSN:=hid hsn;have HU:=hid hu;have HF:=hid hF;have HV5:=hid hv5;have HW1:=hid (HW.out.stp hst);have HJ:=hid (fun(w':World) (f:Fr nob wr w')=>ZfE (SO S1 O) ts (.slice av ts.length cv0) w' (fun k hk=>Nat.lt_of_lt_of_le (hk.elim ((HW.out.stp hst).lt k) (fun x=>Nat.lt_of_lt_of_le (HOO.out k x) hst.fr.size)) f.size) (by omega) ((hp.on f).sn HOO.out));clear hp hr hst hsn hF hv5 hu;cases e1:ahd l s.at_ [92,124]with
   |false=>
    rw[e1]at HA;have hF:=HF.out;rw[Zhy e1]at hF;subst hF;clear HF
    go_wp2_with fail
    refine(HA.out).mono ?_;rintro e w2 ⟨rfl,f2⟩;have F2:=hid f2;clear f2
    go_wp2_with fail
    refine(HJ.out _ F2.out).mono ?_;rintro e wj ⟨r,rfl,hrj,fj⟩;obtain⟨ij,yj,rfl⟩:=hrj.some (Zhx HU.out);have HRJ:=hid hrj;have FJ:=hid (F2.out.trans' fj);clear hrj fj;go_wp2;go_ret;exact⟨ij,yj,S1,rfl,HRJ.out,HR.out.on FJ.out,HST.out.trans (Stp.of FJ.out)⟩
   |true=>
    have hle:=ahd_le e1 (by decide);simp only[List.length_cons,List.length_nil]at hle;rw[e1]at HA;clear HJ
    go_wp2_with fail
    refine(HA.out).mono ?_;rintro e w2 ⟨rfl,f2⟩;have F2:=hid f2;clear f2
    go_wp2_with fail
    refine(br_mark b l [92,124] s S1 w2 (by have:=HSN.out.mr;omega) (HR.out.on F2.out)).mono ?_;rintro e w3 ⟨rfl,S3,⟨cv3,mv3,hB3⟩,st3⟩;obtain⟨⟨_,q1,_⟩,_,q2,_⟩:=Zd hB3.blk _ (Fr.refl _ _);rw[show(s.mark [92,124]).at_=s.at_ from rfl]at q1;obtain⟨w4,hw4⟩:∃w4,w4=w3.setCell ⟨b,1,none⟩ (.int .i64 ((s.at_:Int)+2)):=⟨_,rfl⟩;have hr4:Rdg b l ((s.mark [92,124]).go 2) S3 w4:=⟨cv3,mv3,by rw[hw4];exact hB3.turned 1 _ _ (by simp[RxS.go,RxS.mark]) rfl rfl⟩;have ht4:Stp S1 wr S3 w4:=by rw[hw4];exact((Stp.of F2.out).trans st3).trans (hB3.stp 1 _)
    have hsn4:=HSN.out.markgo [92,124] (n:=2) (by omega) hle;have hp4:=HP.out.stp ht4;have H5:=hid (HBR.out ((s.mark [92,124]).go 2) S3 (PO O v5) w4 (hp4.lt (fun k hk=>Nat.lt_of_lt_of_le (HOO.out k hk) (Nat.le_trans HST.out.fr.size ht4.fr.size))) hsn4 (HW1.out.stp ht4) hr4);have HP4:=hid hp4;have HT4:=hid ht4;have HW4:=hid hw4;have HS4:=hid hsn4;clear hB3 st3 hr4 ht4 hsn4 hp4 hw4 HA
    go_wp2_with(rw[←HW4.out])
    with_reducible refine(H5.out).mono ?_
    cases hb:branchS prg l C inner ((s.mark [92,124]).go 2)with
    |inl z=>
     obtain⟨z1,z2⟩:=z;have hF:=HF.out;rw[Zhz e1 hb]at hF;subst hF;rintro e w5 ⟨rfl,S5,t5⟩;exact⟨rfl,rfl,S5,(HST.out.trans HT4.out).trans t5⟩
    |inr z=>
     obtain⟨t5,s5⟩:=z;have hF:=HF.out;rw[ZiM e1 hb]at hF;obtain⟨j1,j2,j3⟩:=ZaV HC.out _ HS4.out _ _ hb;have hbr:=branchS_brn hb;have j2:s.at_+2≤s5.at_:=j2;have j3:t5.size+(s.at_+2)≤s5.at_+1:=j3;rintro e w5 ⟨i5,y5,S5,rfl,rn5,r5,st5⟩;have T5:=hid (HT4.out.trans st5);have RN5:=hid rn5;have R5:=hid r5;have HF2:=hid hF;clear hF rn5 r5 st5 H5 HF e1 hb;have HP5:=hid (HP.out.stp T5.out);have HLT5:=hid (HW1.out.stp T5.out).lt;have HOT:=hid (show∀k,O k→k<w5.heap.size from fun k hk=>Nat.lt_of_lt_of_le (HOO.out k hk) (Nat.le_trans HST.out.fr.size T5.out.fr.size));have HWS:=hid (Nat.le_trans HST.out.fr.size T5.out.fr.size);have hpl:=Nd.length_le ts
     go_wp2_with(at_builtin;refine wpList_append_pts (W:=w) (S:=S5) (O:=O) rfl (.tmp 21) (.tmp 25) rfl ts t5 v5 _ _ _ (by rw[HV5.out];rfl) HP5.out HLT5.out HOT.out HWS.out rfl (by rfl) RN5.out (by omega) ?_;intro va wa hpa offa;obtain⟨aa,ca,hea⟩:=hpa.shape;simp only[List.length_append,List.length_singleton]at hea;subst hea;have HPA:=hid hpa;have HOA:=hid offa;clear hpa offa)
     go_roundg m
     case measure=>omega
     case rel=>
      refine⟨s5,ts++[t5],S5,HPA.out,R5.out.off HOA.out,(HST.out.trans T5.out).off HOA.out,j1,by omega,?_,HU.out.snoc hbr,HF2.out⟩;rw[Nd.sizes_append];show Nd.sizes ts+(t5.size+0)≤s5.at_+1;omega
theorem ZiN(l:List UInt8)(W0:World)(hl:l.length≤100000)(hE0:Env W0):∀n deep,n+deep=12→ZnA l W0 deep (chS prg l n)
 |0,deep,hd=>by
  obtain rfl:deep=12:=by omega
  intro b s S O w hO hs hW h;have hG:ZlV l W0 12 none:=fun b s S O w p _ _ _ _ _=>Zd1 b l s S O w p;have:=ZeD b l W0 12 none s S O w hO hl (Nat.le_refl _) hE0 hG (fun f hf=>by cases hf) hs hW h;rw[chS];exact this
 |n+1,deep,hd=>by
  intro b s S O w hO hs hW h;have ih:=ZiN l W0 hl hE0 n (deep+1) (by omega);have hG:ZlV l W0 deep (some (chS prg l n)):=fun b s S O w p hO hs h1 hW h=>Zj4 b l W0 deep (chS prg l n) s S O w p hO hl (by omega) ih (chS_kept n).kept hs h1 hW h;have:=ZeD b l W0 deep (some (chS prg l n)) s S O w hO hl (by omega) hE0 hG (fun f hf=>by injection hf with hf;subst hf;exact chS_kept n) hs hW h;rw[chS,show decide (n+1<12)=decide (0<deep)from by congr 1;exact propext ⟨fun _=>by omega,fun _=>by omega⟩];exact this
end Go.Proofs.YtkfddjopbocpkaaGreatDoor
