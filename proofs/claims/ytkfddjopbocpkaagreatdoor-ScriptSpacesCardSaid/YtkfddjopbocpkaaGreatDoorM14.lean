/- Lemmas of this claim. -/
import Derived.Test.YtkfddjopbocpkaaGreatDoorM13
set_option linter.unusedVariables false
set_option linter.unusedSimpArgs false
set_option maxRecDepth 100000
set_option maxHeartbeats 4000000
namespace Go.Proofs.YtkfddjopbocpkaaGreatDoor
open Go.Lib (hid)
open Go.RowKit
def Zqt(b:Nat)(l:List UInt8)(C:Option (RxS→Out Nd))(inner:Bool)(S O:Nat→Prop)(w:World)(F:Out Nd)(n:Nat)(v5 v6:Value)(wr:World):Prop:=
 ∃front s ps S',v6=.bool front∧Pts S' O w wr ps v5∧Rdg b l s S' wr∧Stp S w S' wr∧Sane l s∧l.length<n+s.at_∧Nd.sizes ps≤s.at_∧Zeq ps∧brS prg l C inner n front s ps=F
theorem ZkB(b:Nat)(l:List UInt8)(W0:World)(deep:Nat)(C:Option (RxS→Out Nd))(s:RxS)(S O:Nat→Prop)(w:World)(hO:∀k,O k→k<w.heap.size)(hl:l.length≤100000)(hd:deep≤12)(hE0:Env W0)
 (hG:ZoT l W0 deep C) (hC:∀f,C=some f→ZcC l 2 f) (hs:Sane l s) (hW:Wd W0 S w) (h:Rdg b l s S w):
 Calls Tryz.prog 216 #[.pointer (some ⟨b,0,none⟩),.int .i64 deep] w fun x w'=>ZbO b l S O w (branchS prg l C (decide (0<deep)) s) x w':=by
 obtain⟨inner,hin⟩:∃inner,decide (0<deep)=inner:=⟨_,rfl⟩;obtain⟨F,hF⟩:∃F,branchS prg l C inner s=F:=⟨_,rfl⟩;rw[hin,hF];have HT0:=hid (ZbN b l [94] s S w hl (by decide) hs.le h);have HSN:=hid hs;have HW:=hid hW;have HG:=hid hG;have HC:=hid hC;have HE0:=hid hE0;have HOO:=hid hO;unfold branchS at hF;have HIN:=hid hin;clear hs hW hG hC hE0 hO h hin;go_enter Tryz.func216,Tryz.ntmps216;go_wp2_with fail;refine(HT0.out).mono ?_;rintro e w1 ⟨rfl,r1,t1⟩;have R1:=hid r1;have T1:=hid t1;clear HT0 r1 t1;cases e0:ahd l s.at_ [94]
 case' true=>
  rw[if_pos e0]at hF;have r1:=R1.out;rw[e0]at r1;simp only[if_true]at r1;have hle:=ahd_le e0 (by decide);simp only[List.length_singleton]at hle;have HLT:=hid (HW.out.stp T1.out).lt;go_wp2_with(at_builtin;refine wpList_append_pts (W:=w) (S:=S) (O:=O) rfl (.tmp 9) (.tmp 12) rfl [] .start (.slice none 0 0) _ _ _ (by rfl) (Pts.nil _ _ _ _) HLT.out (fun k hk=>Nat.lt_of_lt_of_le (HOO.out k hk) T1.out.fr.size) T1.out.fr.size rfl (by rfl) (by rw[RN]) (by simp) ?_;intro v2 w2 hp2 off2;obtain⟨s1,hs1⟩:∃s1,s1=s.go 1:=⟨_,rfl⟩;obtain⟨ps1,hps1⟩:∃ps1:List Nd,ps1=[.start]:=⟨_,rfl⟩;have HP1:=hid (show Pts S O w w2 ps1 v2 from hps1▸hp2);have HR1:=hid (show Rdg b l s1 S w2 from hs1▸r1.off off2);have HT1:=hid (T1.out.off off2);have HS1:=hid (show Sane l s1 from hs1▸HSN.out.go hle);have HZ1:=hid (show Nd.sizes ps1≤s1.at_ from by rw[hs1,hps1];show 1+0≤s.at_+1;omega);have HU1:=hid (show Zeq ps1 from hps1▸fun x hx=>by rw[List.mem_singleton.1 hx];rfl);have HF1:=hid (show brS prg l C inner (l.length+1) true s1 ps1=F from by rw[hs1,hps1];exact hF);obtain⟨a2,c2,rfl⟩:=hp2.shape;clear hp2 off2 hs1 hps1 r1 hF e0 R1 HLT)
 case' false=>
  rw[if_neg (by rw[e0];decide)]at hF;have r1:=R1.out;rw[e0]at r1;simp only[Bool.false_eq_true,if_false]at r1;obtain⟨w2,hw2⟩:∃w2,w2=w1:=⟨_,rfl⟩;subst hw2;obtain⟨s1,hs1⟩:∃s1,s1=s:=⟨_,rfl⟩;obtain⟨ps1,hps1⟩:∃ps1:List Nd,ps1=[]:=⟨_,rfl⟩;have HP1:=hid (show Pts S O w w2 ps1 (.slice none 0 0)from hps1▸Pts.nil _ _ _ _);have HR1:=hid (show Rdg b l s1 S w2 from hs1▸r1);have HT1:=hid (T1.out);have HS1:=hid (show Sane l s1 from hs1▸HSN.out);have HZ1:=hid (show Nd.sizes ps1≤s1.at_ from by rw[hps1];exact Nat.zero_le _);have HU1:=hid (show Zeq ps1 from hps1▸fun x hx=>by cases hx);have HF1:=hid (show brS prg l C inner (l.length+1) true s1 ps1=F from by rw[hs1,hps1];exact hF);clear hs1 hps1 r1 hF e0 R1;go_wp2_with fail
 all_goals
  clear T1
  go_loopg [5,6] (l.length+1) (fun n u v wr=>Zqt b l C inner S O w F n u v wr)
  case atStart=>exact⟨true,s1,ps1,S,rfl,HP1.out,HR1.out,HT1.out,HS1.out,by omega,HZ1.out,HU1.out,HF1.out⟩
  case round=>
   clear HP1 HR1 HT1 HS1 HZ1 HU1 HF1 HSN;obtain⟨front,s,ps,S1,rfl,hp,hr,hst,hsn,hn,hz,hu,hF⟩:=hrel;have hsle:=hsn.le;obtain⟨m,rfl⟩:∃m,gk=m+1:=⟨gk-1,by omega⟩;obtain⟨av,cv0,hv⟩:=hp.shape;subst hv;obtain⟨v5,hv5⟩:∃v5,v5=Value.slice av ps.length cv0:=⟨_,rfl⟩;have HOV:=hid (ZnV b l s S1 wr (by omega) hr);have HA:=hid (fun(tt:List UInt8) (w':World) (f:Fr nob wr w') (ht:tt.length≤1000)=>Zcg b l tt s S1 w' (by omega) (by omega) hsle (hr.on f));have HP:=hid (show Pts S1 O w wr ps v5 from hv5▸hp);have HR:=hid hr;have HST:=hid hst;have HSN:=hid hsn;have HU:=hid hu;have HF:=hid hF;have HV5:=hid hv5;have HW1:=hid (HW.out.stp hst);have HJ:=hid (fun(w':World) (f:Fr nob wr w')=>joinS_any (SO S1 O) ps (.slice av ps.length cv0) w' (fun k hk=>Nat.lt_of_lt_of_le (hk.elim ((HW.out.stp hst).lt k) (fun x=>Nat.lt_of_lt_of_le (HOO.out k x) hst.fr.size)) f.size) (by omega) ((hp.on f).sn HOO.out));clear hp hr hst hsn hF hv5 hu
   by_cases hov:l.length≤s.at_
   ·have hov':decide (l.length≤s.at_)=true:=decide_eq_true hov;rw[hov']at HOV;have hF:=HF.out;rw[Zfi hov]at hF;subst hF;clear HA HF;go_wp2_with fail;refine(HOV.out).mono ?_;rintro e w1 ⟨rfl,f1⟩;have F1:=hid f1;clear f1;go_wp2_with fail;refine(HJ.out _ F1.out).mono ?_;rintro e wj ⟨r,rfl,hrj,fj⟩;obtain⟨ij,yj,rfl⟩:=hrj.some (Zhm (joined_brn HU.out));have HRJ:=hid hrj;have FJ:=hid (F1.out.trans' fj);clear hrj fj;go_wp2;go_ret;exact⟨ij,yj,S1,rfl,HRJ.out,HR.out.on FJ.out,HST.out.trans (Stp.of FJ.out)⟩
   ·have hov':decide (l.length≤s.at_)=false:=decide_eq_false hov;rw[hov']at HOV;have ha:s.at_<l.length:=by omega
    go_wp2_with fail;refine(HOV.out).mono ?_;rintro e w1 ⟨rfl,f1⟩;have F1:=hid f1;clear f1 HOV hov hov';have H1:=hid (HA.out [92,124] w1 F1.out (by decide));cases e1:ahd l s.at_ [92,124]with
    |true=>
     rw[e1]at H1;have hF:=HF.out;rw[ZdH ha (by rw[e1];rfl)]at hF;subst hF;clear HA HF e1;go_wp2_with fail;refine(H1.out).mono ?_;rintro e w2 ⟨rfl,f2⟩;have F2:=hid (F1.out.trans' f2);clear f2;go_wp2_with fail;refine(HJ.out _ F2.out).mono ?_;rintro e wj ⟨r,rfl,hrj,fj⟩;obtain⟨ij,yj,rfl⟩:=hrj.some (Zhm (joined_brn HU.out));have HRJ:=hid hrj;have FJ:=hid (F2.out.trans' fj);clear hrj fj;go_wp2;go_ret;exact⟨ij,yj,S1,rfl,HRJ.out,HR.out.on FJ.out,HST.out.trans (Stp.of FJ.out)⟩
    |false=>
     rw[e1]at H1;go_wp2_with fail;refine(H1.out).mono ?_;rintro e w2 ⟨rfl,f2⟩;have F2:=hid (F1.out.trans' f2);clear f2 H1;obtain⟨e2,he2⟩:∃e2,ahd l s.at_ [92,41]=e2:=⟨_,rfl⟩;obtain⟨st,hst⟩:∃st,(inner&&e2)=st:=⟨_,rfl⟩;have hstop:(ahd l s.at_ [92,124]||(inner&&ahd l s.at_ [92,41]))=st:=by rw[e1,he2,hst];rfl
     cases inner
     case' true=>
      have h0:(0:Int)<(deep:Int):=by have:=of_decide_eq_true HIN.out;omega
      have H2:=hid (HA.out [92,41] w2 F2.out (by decide));rw[he2]at H2;simp only[Bool.true_and]at hst;subst hst;go_wp2_with fail;refine(H2.out).mono ?_;rintro e wy ⟨rfl,fy⟩;have FY:=hid (F2.out.trans' fy);clear fy H2;cases e2
      case' true=>
       have hF:=HF.out;rw[ZdH ha hstop]at hF;subst hF;clear HA HF e1 he2 hstop;go_wp2_with fail;refine(HJ.out _ FY.out).mono ?_;rintro e wj ⟨r,rfl,hrj,fj⟩;obtain⟨ij,yj,rfl⟩:=hrj.some (Zhm (joined_brn HU.out));have HRJ:=hid hrj;have FJ:=hid (FY.out.trans' fj);clear hrj fj;go_wp2;go_ret;exact⟨ij,yj,S1,rfl,HRJ.out,HR.out.on FJ.out,HST.out.trans (Stp.of FJ.out)⟩
     case' false=>
      have h0:¬(0:Int)<(deep:Int):=by have:=of_decide_eq_false HIN.out;omega
      simp only[Bool.false_and]at hst;obtain⟨wy,hwy⟩:∃wy,wy=w2:=⟨_,rfl⟩;subst hwy;have FY:=F2
     all_goals
      (first|subst hst|skip)
      clear he2;cases front
      case' true=>
       have H3:=hid (HA.out [92,123] wy FY.out (by decide));cases e3:ahd l s.at_ [92,123]with
       |true=>
        rw[e3]at H3;have hF:=HF.out;rw[Zd6 ha hstop (by rw[e3];rfl)]at hF;subst hF;clear HA HF e1 e3 hstop;go_wp2_with fail;refine(H3.out).mono ?_;rintro e w4 ⟨rfl,f4⟩;have F4:=hid (FY.out.trans' f4);clear f4;obtain⟨cvq,mvq,hBq⟩:=HR.out.on F4.out;obtain⟨⟨_,q1,_⟩,_,q2,_⟩:=Zd hBq.blk _ (Fr.refl _ _);clear hBq;go_wp2_with(go_at_call 231;(with_reducible refine(br_fail 10 s.at_ _).mono ?_);rintro e w' ⟨rfl,rfl⟩);exact⟨rfl,rfl,S1,HST.out.trans (Stp.of F4.out)⟩
       |false=>
        rw[e3]at H3;go_wp2_with fail;refine(H3.out).mono ?_;rintro e w4 ⟨rfl,f4⟩;have F4:=hid (FY.out.trans' f4);clear f4 H3;have H4:=hid (HA.out [92,43] w4 F4.out (by decide));cases e4:ahd l s.at_ [92,43]with
        |true=>
         rw[e4]at H4;have hF:=HF.out;rw[Zd6 ha hstop (by rw[e3,e4];rfl)]at hF;subst hF;clear HA HF e1 e3 e4 hstop;go_wp2_with fail;refine(H4.out).mono ?_;rintro e w5 ⟨rfl,f5⟩;have F5:=hid (F4.out.trans' f5);clear f5;obtain⟨cvq,mvq,hBq⟩:=HR.out.on F5.out;obtain⟨⟨_,q1,_⟩,_,q2,_⟩:=Zd hBq.blk _ (Fr.refl _ _);clear hBq;go_wp2_with(go_at_call 231;(with_reducible refine(br_fail 10 s.at_ _).mono ?_);rintro e w' ⟨rfl,rfl⟩);exact⟨rfl,rfl,S1,HST.out.trans (Stp.of F5.out)⟩
        |false=>
         rw[e4]at H4;go_wp2_with fail;refine(H4.out).mono ?_;rintro e w5 ⟨rfl,f5⟩;have F5:=hid (F4.out.trans' f5);clear f5 H4;have H5:=hid (HA.out [92,63] w5 F5.out (by decide));cases e5:ahd l s.at_ [92,63]with
         |true=>
          rw[e5]at H5;have hF:=HF.out;rw[Zd6 ha hstop (by rw[e3,e4,e5];rfl)]at hF;subst hF;clear HA HF e1 e3 e4 e5 hstop;go_wp2_with fail;refine(H5.out).mono ?_;rintro e w6 ⟨rfl,f6⟩;have F6:=hid (F5.out.trans' f6);clear f6;obtain⟨cvq,mvq,hBq⟩:=HR.out.on F6.out;obtain⟨⟨_,q1,_⟩,_,q2,_⟩:=Zd hBq.blk _ (Fr.refl _ _);clear hBq;go_wp2_with(go_at_call 231;(with_reducible refine(br_fail 10 s.at_ _).mono ?_);rintro e w' ⟨rfl,rfl⟩);exact⟨rfl,rfl,S1,HST.out.trans (Stp.of F6.out)⟩
         |false=>
          rw[e5]at H5;go_wp2_with fail;refine(H5.out).mono ?_;rintro e wz ⟨rfl,fz⟩;have FZ:=hid (F5.out.trans' fz);clear fz H5;have hbad:(true&&(ahd l s.at_ [92,123]||(ahd l s.at_ [92,43]||ahd l s.at_ [92,63])))=false:=by rw[e3,e4,e5];rfl
          have HBAD:=hid hbad;clear hbad e3 e4 e5 F4 F5;have H6:=hid (HA.out [36] wz FZ.out (by decide));obtain⟨x,hx⟩:∃x,l[s.at_]=x:=⟨_,rfl⟩;have HLA:=hid (fun(w':World) (f:Fr nob wr w')=>Zko b l s S1 w' (by omega) ha (HR.out.on f));have HAT:=hid (fun(w':World) (f:Fr nob wr w')=>ZkA b l W0 deep C s S1 (PO O v5) w' x ((HP.out.on f).lt (fun k hk=>Nat.lt_of_lt_of_le (HOO.out k hk) (Nat.le_trans HST.out.fr.size f.size))) hl hd HE0.out HG.out HSN.out ha hx (HW1.out.stp (Stp.of f)) (HR.out.on f));clear HA HJ;cases e6:ahd l s.at_ [36]
          case' true=>
           rw[e6]at H6;go_wp2_with fail;refine(H6.out).mono ?_;rintro e w6 ⟨rfl,f6⟩;have F6:=hid (FZ.out.trans' f6);clear f6 H6;have H7:=hid (HLA.out w6 F6.out);cases e7:ZbL l s.at_ with
           |true=>
            rw[e7]at H7;have hF:=HF.out;rw[Zfj ha hstop HBAD.out (by rw[e6,e7];rfl)]at hF;have HF2:=hid hF;clear HF hF e6 e7 hstop e1 HAT HBAD HLA hx;go_wp2_with fail;refine(H7.out).mono ?_;rintro e w7 ⟨rfl,f7⟩;have F7:=hid (F6.out.trans' f7);clear f7 H7;obtain⟨cv7,mv7,hB7⟩:=HR.out.on F7.out;obtain⟨⟨_,q1,_⟩,_,q2,_⟩:=Zd hB7.blk _ (Fr.refl _ _);obtain⟨w8,hw8⟩:∃w8,w8=w7.setCell ⟨b,1,none⟩ (.int .i64 ((s.at_:Int)+1)):=⟨_,rfl⟩;have hB8:Rdg b l (s.go 1) S1 w8:=⟨cv7,mv7,by rw[hw8];exact hB7.turned 1 _ (s.go 1) (by simp[RxS.go]) rfl rfl⟩;have hT8:Stp S1 wr S1 w8:=by rw[hw8];exact(Stp.of F7.out).trans (hB7.stp 1 _)
            have hsz8:w8.heap.size=w7.heap.size:=by rw[hw8];simp[World.setCell]
            have HB8:=hid hB8;have HT8:=hid hT8;have HW8:=hid hw8;have HP8:=hid (HP.out.stp hT8);have HLT8:=hid (HW1.out.stp hT8).lt;have HOT:=hid (show∀k,O k→k<w8.heap.size from fun k hk=>Nat.lt_of_lt_of_le (HOO.out k hk) (Nat.le_trans HST.out.fr.size hT8.fr.size));have HWS:=hid (Nat.le_trans HST.out.fr.size hT8.fr.size);have hpl:=Nd.length_le ps;clear hB7 hB8 hT8 hw8;go_wp2_with(first|(rw[←HW8.out])|(at_builtin;refine wpList_append_pts (W:=w) (S:=S1) (O:=O) rfl (.tmp 62) (.tmp 65) rfl ps .fin v5 _ _ _ (by rw[HV5.out];rfl) HP8.out HLT8.out HOT.out HWS.out hsz8.symm (by rfl) (by rw[RN]) (by omega) ?_;intro v9 w9 hp9 off9;obtain⟨a9,c9,he9⟩:=hp9.shape;simp only[List.length_append,List.length_singleton]at he9;subst he9;have HP9:=hid hp9;have HO9:=hid off9;clear hp9 off9));go_roundg m
            case measure=>omega
            case rel=>
             refine⟨false,s.go 1,ps++[.fin],S1,rfl,HP9.out,HB8.out.off HO9.out,(HST.out.trans HT8.out).off HO9.out,HSN.out.go (by omega),?_,?_,HU.out.snoc rfl,HF2.out⟩
             ·show l.length<m+(s.at_+1);omega
             ·rw[Nd.sizes_append];show Nd.sizes ps+(1+0)≤s.at_+1;omega
           |false=>
            rw[e7]at H7;go_wp2_with fail;refine(H7.out).mono ?_;rintro e w7 ⟨rfl,f7⟩;have F7:=hid (F6.out.trans' f7);clear f7 H7;have hfin:(ahd l s.at_ [36]&&ZbL l s.at_)=false:=by rw[e6,e7];rfl
            have HFI:=hid hfin;clear hfin e6 e7;have hF:=HF.out;rw[ZeD ha hstop HBAD.out HFI.out]at hF;unfold ZjJ at hF;rw[hx]at hF;have H8:=hid (HAT.out w7 F7.out);cases hat:Zb0 prg l C s x with
            |inl z=>
             obtain⟨z1,z2⟩:=z;rw[hat]at hF H8;subst hF;clear HF HAT HBAD HFI HLA hstop e1;go_wp2_with fail;refine(H8.out).mono ?_;rintro e w8 ⟨rfl,S2,t8⟩;exact⟨rfl,rfl,S2,(HST.out.trans (Stp.of F7.out)).trans t8⟩
            |inr z=>
             obtain⟨n1,s1⟩:=z;rw[hat]at hF H8;simp only at hF;obtain⟨k1,k2,k3⟩:=Zbw HC.out HSN.out ha hat;have hun:=atomS_unit hat;clear HF HAT HBAD HFI HLA hstop e1 hat;go_wp2_with fail;refine(H8.out).mono ?_;rintro e w8 ⟨i8,y8,S2,rfl,rn8,r8,t8⟩;have T8:=hid ((Stp.of F7.out).trans t8);have H9:=hid (ZbP b l s1 n1 i8 y8 S2 (PO O v5) w8 hl k1.le k1.mr rn8 r8);clear rn8 r8 t8 H8;cases hrp:ZbW prg l (l.length+1) s1 n1 with
             |inl z=>
              obtain⟨z1,z2⟩:=z;rw[hrp]at hF H9;subst hF;go_wp2_with fail;refine(H9.out).mono ?_;rintro e w9 ⟨rfl,S3,t9⟩;exact⟨rfl,rfl,S3,(HST.out.trans T8.out).trans t9⟩
             |inr z=>
              obtain⟨n2,s2⟩:=z;rw[hrp]at hF H9;simp only at hF;obtain⟨j1,j2,j3⟩:=ZaA _ _ _ _ _ k1 hrp;have hun2:=repS_unit _ _ _ _ _ hun hrp;have HF2:=hid hF;clear hrp hF;go_wp2_with fail;refine(H9.out).mono ?_;rintro e w9 ⟨i9,y9,S3,rfl,rn9,r9,t9⟩;have T9:=hid (T8.out.trans t9);have RN9:=hid rn9;have R9:=hid r9;clear rn9 r9 t9 H9;have HP9:=hid (HP.out.stp T9.out);have HLT9:=hid (HW1.out.stp T9.out).lt;have HOT:=hid (show∀k,O k→k<w9.heap.size from fun k hk=>Nat.lt_of_lt_of_le (HOO.out k hk) (Nat.le_trans HST.out.fr.size T9.out.fr.size));have HWS:=hid (Nat.le_trans HST.out.fr.size T9.out.fr.size);have hpl:=Nd.length_le ps;go_wp2_with(at_builtin;refine wpList_append_pts (W:=w) (S:=S3) (O:=O) rfl (.tmp 67) (.tmp 73) rfl ps n2 v5 _ _ _ (by rw[HV5.out];rfl) HP9.out HLT9.out HOT.out HWS.out rfl (by rfl) RN9.out (by omega) ?_;intro va wa hpa offa;obtain⟨aa,ca,hea⟩:=hpa.shape;simp only[List.length_append,List.length_singleton]at hea;subst hea;have HPA:=hid hpa;have HOA:=hid offa;clear hpa offa)
              go_roundg m
              case measure=>omega
              case rel=>
               refine⟨false,s2,ps++[n2],S3,rfl,HPA.out,R9.out.off HOA.out,(HST.out.trans T9.out).off HOA.out,j1,by omega,?_,HU.out.snoc hun2,HF2.out⟩;rw[Nd.sizes_append];show Nd.sizes ps+(n2.size+0)≤s2.at_;omega
          case' false=>
           rw[e6]at H6;go_wp2_with fail;refine(H6.out).mono ?_;rintro e w7 ⟨rfl,f7⟩;have F7:=hid (FZ.out.trans' f7);clear f7 H6;have hfin:(ahd l s.at_ [36]&&ZbL l s.at_)=false:=by rw[e6];rfl
           have HFI:=hid hfin;clear hfin e6;have hF:=HF.out;rw[ZeD ha hstop HBAD.out HFI.out]at hF;unfold ZjJ at hF;rw[hx]at hF;have H8:=hid (HAT.out w7 F7.out);cases hat:Zb0 prg l C s x with
           |inl z=>
            obtain⟨z1,z2⟩:=z;rw[hat]at hF H8;subst hF;clear HF HAT HBAD HFI HLA hstop e1;go_wp2_with fail;refine(H8.out).mono ?_;rintro e w8 ⟨rfl,S2,t8⟩;exact⟨rfl,rfl,S2,(HST.out.trans (Stp.of F7.out)).trans t8⟩
           |inr z=>
            obtain⟨n1,s1⟩:=z;rw[hat]at hF H8;simp only at hF;obtain⟨k1,k2,k3⟩:=Zbw HC.out HSN.out ha hat;have hun:=atomS_unit hat;clear HF HAT HBAD HFI HLA hstop e1 hat;go_wp2_with fail;refine(H8.out).mono ?_;rintro e w8 ⟨i8,y8,S2,rfl,rn8,r8,t8⟩;have T8:=hid ((Stp.of F7.out).trans t8);have H9:=hid (ZbP b l s1 n1 i8 y8 S2 (PO O v5) w8 hl k1.le k1.mr rn8 r8);clear rn8 r8 t8 H8;cases hrp:ZbW prg l (l.length+1) s1 n1 with
            |inl z=>
             obtain⟨z1,z2⟩:=z;rw[hrp]at hF H9;subst hF;go_wp2_with fail;refine(H9.out).mono ?_;rintro e w9 ⟨rfl,S3,t9⟩;exact⟨rfl,rfl,S3,(HST.out.trans T8.out).trans t9⟩
            |inr z=>
             obtain⟨n2,s2⟩:=z;rw[hrp]at hF H9;simp only at hF;obtain⟨j1,j2,j3⟩:=ZaA _ _ _ _ _ k1 hrp;have hun2:=repS_unit _ _ _ _ _ hun hrp;have HF2:=hid hF;clear hrp hF;go_wp2_with fail;refine(H9.out).mono ?_;rintro e w9 ⟨i9,y9,S3,rfl,rn9,r9,t9⟩;have T9:=hid (T8.out.trans t9);have RN9:=hid rn9;have R9:=hid r9;clear rn9 r9 t9 H9;have HP9:=hid (HP.out.stp T9.out);have HLT9:=hid (HW1.out.stp T9.out).lt;have HOT:=hid (show∀k,O k→k<w9.heap.size from fun k hk=>Nat.lt_of_lt_of_le (HOO.out k hk) (Nat.le_trans HST.out.fr.size T9.out.fr.size));have HWS:=hid (Nat.le_trans HST.out.fr.size T9.out.fr.size);have hpl:=Nd.length_le ps;go_wp2_with(at_builtin;refine wpList_append_pts (W:=w) (S:=S3) (O:=O) rfl (.tmp 67) (.tmp 73) rfl ps n2 v5 _ _ _ (by rw[HV5.out];rfl) HP9.out HLT9.out HOT.out HWS.out rfl (by rfl) RN9.out (by omega) ?_;intro va wa hpa offa;obtain⟨aa,ca,hea⟩:=hpa.shape;simp only[List.length_append,List.length_singleton]at hea;subst hea;have HPA:=hid hpa;have HOA:=hid offa;clear hpa offa)
             go_roundg m
             case measure=>omega
             case rel=>
              refine⟨false,s2,ps++[n2],S3,rfl,HPA.out,R9.out.off HOA.out,(HST.out.trans T9.out).off HOA.out,j1,by omega,?_,HU.out.snoc hun2,HF2.out⟩;rw[Nd.sizes_append];show Nd.sizes ps+(n2.size+0)≤s2.at_;omega
      case' false=>
       obtain⟨wz,hwz⟩:∃wz,wz=wy:=⟨_,rfl⟩;subst hwz;have FZ:=FY;have hbad:(false&&(ahd l s.at_ [92,123]||(ahd l s.at_ [92,43]||ahd l s.at_ [92,63])))=false:=rfl;have HBAD:=hid hbad;clear hbad;have H6:=hid (HA.out [36] wz FZ.out (by decide));obtain⟨x,hx⟩:∃x,l[s.at_]=x:=⟨_,rfl⟩;have HLA:=hid (fun(w':World) (f:Fr nob wr w')=>Zko b l s S1 w' (by omega) ha (HR.out.on f));have HAT:=hid (fun(w':World) (f:Fr nob wr w')=>ZkA b l W0 deep C s S1 (PO O v5) w' x ((HP.out.on f).lt (fun k hk=>Nat.lt_of_lt_of_le (HOO.out k hk) (Nat.le_trans HST.out.fr.size f.size))) hl hd HE0.out HG.out HSN.out ha hx (HW1.out.stp (Stp.of f)) (HR.out.on f));clear HA HJ;cases e6:ahd l s.at_ [36]
       case' true=>
        rw[e6]at H6;go_wp2_with fail;refine(H6.out).mono ?_;rintro e w6 ⟨rfl,f6⟩;have F6:=hid (FZ.out.trans' f6);clear f6 H6;have H7:=hid (HLA.out w6 F6.out);cases e7:ZbL l s.at_ with
        |true=>
         rw[e7]at H7;have hF:=HF.out;rw[Zfj ha hstop HBAD.out (by rw[e6,e7];rfl)]at hF;have HF2:=hid hF;clear HF hF e6 e7 hstop e1 HAT HBAD HLA hx;go_wp2_with fail;refine(H7.out).mono ?_;rintro e w7 ⟨rfl,f7⟩;have F7:=hid (F6.out.trans' f7);clear f7 H7;obtain⟨cv7,mv7,hB7⟩:=HR.out.on F7.out;obtain⟨⟨_,q1,_⟩,_,q2,_⟩:=Zd hB7.blk _ (Fr.refl _ _);obtain⟨w8,hw8⟩:∃w8,w8=w7.setCell ⟨b,1,none⟩ (.int .i64 ((s.at_:Int)+1)):=⟨_,rfl⟩;have hB8:Rdg b l (s.go 1) S1 w8:=⟨cv7,mv7,by rw[hw8];exact hB7.turned 1 _ (s.go 1) (by simp[RxS.go]) rfl rfl⟩;have hT8:Stp S1 wr S1 w8:=by rw[hw8];exact(Stp.of F7.out).trans (hB7.stp 1 _)
         have hsz8:w8.heap.size=w7.heap.size:=by rw[hw8];simp[World.setCell]
         have HB8:=hid hB8;have HT8:=hid hT8;have HW8:=hid hw8;have HP8:=hid (HP.out.stp hT8);have HLT8:=hid (HW1.out.stp hT8).lt;have HOT:=hid (show∀k,O k→k<w8.heap.size from fun k hk=>Nat.lt_of_lt_of_le (HOO.out k hk) (Nat.le_trans HST.out.fr.size hT8.fr.size));have HWS:=hid (Nat.le_trans HST.out.fr.size hT8.fr.size);have hpl:=Nd.length_le ps;clear hB7 hB8 hT8 hw8;go_wp2_with(first|(rw[←HW8.out])|(at_builtin;refine wpList_append_pts (W:=w) (S:=S1) (O:=O) rfl (.tmp 62) (.tmp 65) rfl ps .fin v5 _ _ _ (by rw[HV5.out];rfl) HP8.out HLT8.out HOT.out HWS.out hsz8.symm (by rfl) (by rw[RN]) (by omega) ?_;intro v9 w9 hp9 off9;obtain⟨a9,c9,he9⟩:=hp9.shape;simp only[List.length_append,List.length_singleton]at he9;subst he9;have HP9:=hid hp9;have HO9:=hid off9;clear hp9 off9));go_roundg m
         case measure=>omega
         case rel=>
          refine⟨false,s.go 1,ps++[.fin],S1,rfl,HP9.out,HB8.out.off HO9.out,(HST.out.trans HT8.out).off HO9.out,HSN.out.go (by omega),?_,?_,HU.out.snoc rfl,HF2.out⟩
          ·show l.length<m+(s.at_+1);omega
          ·rw[Nd.sizes_append];show Nd.sizes ps+(1+0)≤s.at_+1;omega
        |false=>
         rw[e7]at H7;go_wp2_with fail;refine(H7.out).mono ?_;rintro e w7 ⟨rfl,f7⟩;have F7:=hid (F6.out.trans' f7);clear f7 H7;have hfin:(ahd l s.at_ [36]&&ZbL l s.at_)=false:=by rw[e6,e7];rfl
         have HFI:=hid hfin;clear hfin e6 e7;have hF:=HF.out;rw[ZeD ha hstop HBAD.out HFI.out]at hF;unfold ZjJ at hF;rw[hx]at hF;have H8:=hid (HAT.out w7 F7.out);cases hat:Zb0 prg l C s x with
         |inl z=>
          obtain⟨z1,z2⟩:=z;rw[hat]at hF H8;subst hF;clear HF HAT HBAD HFI HLA hstop e1;go_wp2_with fail;refine(H8.out).mono ?_;rintro e w8 ⟨rfl,S2,t8⟩;exact⟨rfl,rfl,S2,(HST.out.trans (Stp.of F7.out)).trans t8⟩
         |inr z=>
          obtain⟨n1,s1⟩:=z;rw[hat]at hF H8;simp only at hF;obtain⟨k1,k2,k3⟩:=Zbw HC.out HSN.out ha hat;have hun:=atomS_unit hat;clear HF HAT HBAD HFI HLA hstop e1 hat;go_wp2_with fail;refine(H8.out).mono ?_;rintro e w8 ⟨i8,y8,S2,rfl,rn8,r8,t8⟩;have T8:=hid ((Stp.of F7.out).trans t8);have H9:=hid (ZbP b l s1 n1 i8 y8 S2 (PO O v5) w8 hl k1.le k1.mr rn8 r8);clear rn8 r8 t8 H8;cases hrp:ZbW prg l (l.length+1) s1 n1 with
          |inl z=>
           obtain⟨z1,z2⟩:=z;rw[hrp]at hF H9;subst hF;go_wp2_with fail;refine(H9.out).mono ?_;rintro e w9 ⟨rfl,S3,t9⟩;exact⟨rfl,rfl,S3,(HST.out.trans T8.out).trans t9⟩
          |inr z=>
           obtain⟨n2,s2⟩:=z;rw[hrp]at hF H9;simp only at hF;obtain⟨j1,j2,j3⟩:=ZaA _ _ _ _ _ k1 hrp;have hun2:=repS_unit _ _ _ _ _ hun hrp;have HF2:=hid hF;clear hrp hF;go_wp2_with fail;refine(H9.out).mono ?_;rintro e w9 ⟨i9,y9,S3,rfl,rn9,r9,t9⟩;have T9:=hid (T8.out.trans t9);have RN9:=hid rn9;have R9:=hid r9;clear rn9 r9 t9 H9;have HP9:=hid (HP.out.stp T9.out);have HLT9:=hid (HW1.out.stp T9.out).lt;have HOT:=hid (show∀k,O k→k<w9.heap.size from fun k hk=>Nat.lt_of_lt_of_le (HOO.out k hk) (Nat.le_trans HST.out.fr.size T9.out.fr.size));have HWS:=hid (Nat.le_trans HST.out.fr.size T9.out.fr.size);have hpl:=Nd.length_le ps;go_wp2_with(at_builtin;refine wpList_append_pts (W:=w) (S:=S3) (O:=O) rfl (.tmp 67) (.tmp 73) rfl ps n2 v5 _ _ _ (by rw[HV5.out];rfl) HP9.out HLT9.out HOT.out HWS.out rfl (by rfl) RN9.out (by omega) ?_;intro va wa hpa offa;obtain⟨aa,ca,hea⟩:=hpa.shape;simp only[List.length_append,List.length_singleton]at hea;subst hea;have HPA:=hid hpa;have HOA:=hid offa;clear hpa offa)
           go_roundg m
           case measure=>omega
           case rel=>
            refine⟨false,s2,ps++[n2],S3,rfl,HPA.out,R9.out.off HOA.out,(HST.out.trans T9.out).off HOA.out,j1,by omega,?_,HU.out.snoc hun2,HF2.out⟩;rw[Nd.sizes_append];show Nd.sizes ps+(n2.size+0)≤s2.at_;omega
       case' false=>
        rw[e6]at H6;go_wp2_with fail;refine(H6.out).mono ?_;rintro e w7 ⟨rfl,f7⟩;have F7:=hid (FZ.out.trans' f7);clear f7 H6;have hfin:(ahd l s.at_ [36]&&ZbL l s.at_)=false:=by rw[e6];rfl
        have HFI:=hid hfin;clear hfin e6;have hF:=HF.out;rw[ZeD ha hstop HBAD.out HFI.out]at hF;unfold ZjJ at hF;rw[hx]at hF;have H8:=hid (HAT.out w7 F7.out);cases hat:Zb0 prg l C s x with
        |inl z=>
         obtain⟨z1,z2⟩:=z;rw[hat]at hF H8;subst hF;clear HF HAT HBAD HFI HLA hstop e1;go_wp2_with fail;refine(H8.out).mono ?_;rintro e w8 ⟨rfl,S2,t8⟩;exact⟨rfl,rfl,S2,(HST.out.trans (Stp.of F7.out)).trans t8⟩
        |inr z=>
         obtain⟨n1,s1⟩:=z;rw[hat]at hF H8;simp only at hF;obtain⟨k1,k2,k3⟩:=Zbw HC.out HSN.out ha hat;have hun:=atomS_unit hat;clear HF HAT HBAD HFI HLA hstop e1 hat;go_wp2_with fail;refine(H8.out).mono ?_;rintro e w8 ⟨i8,y8,S2,rfl,rn8,r8,t8⟩;have T8:=hid ((Stp.of F7.out).trans t8);have H9:=hid (ZbP b l s1 n1 i8 y8 S2 (PO O v5) w8 hl k1.le k1.mr rn8 r8);clear rn8 r8 t8 H8;cases hrp:ZbW prg l (l.length+1) s1 n1 with
         |inl z=>
          obtain⟨z1,z2⟩:=z;rw[hrp]at hF H9;subst hF;go_wp2_with fail;refine(H9.out).mono ?_;rintro e w9 ⟨rfl,S3,t9⟩;exact⟨rfl,rfl,S3,(HST.out.trans T8.out).trans t9⟩
         |inr z=>
          obtain⟨n2,s2⟩:=z;rw[hrp]at hF H9;simp only at hF;obtain⟨j1,j2,j3⟩:=ZaA _ _ _ _ _ k1 hrp;have hun2:=repS_unit _ _ _ _ _ hun hrp;have HF2:=hid hF;clear hrp hF;go_wp2_with fail;refine(H9.out).mono ?_;rintro e w9 ⟨i9,y9,S3,rfl,rn9,r9,t9⟩;have T9:=hid (T8.out.trans t9);have RN9:=hid rn9;have R9:=hid r9;clear rn9 r9 t9 H9;have HP9:=hid (HP.out.stp T9.out);have HLT9:=hid (HW1.out.stp T9.out).lt;have HOT:=hid (show∀k,O k→k<w9.heap.size from fun k hk=>Nat.lt_of_lt_of_le (HOO.out k hk) (Nat.le_trans HST.out.fr.size T9.out.fr.size));have HWS:=hid (Nat.le_trans HST.out.fr.size T9.out.fr.size);have hpl:=Nd.length_le ps;go_wp2_with(at_builtin;refine wpList_append_pts (W:=w) (S:=S3) (O:=O) rfl (.tmp 67) (.tmp 73) rfl ps n2 v5 _ _ _ (by rw[HV5.out];rfl) HP9.out HLT9.out HOT.out HWS.out rfl (by rfl) RN9.out (by omega) ?_;intro va wa hpa offa;obtain⟨aa,ca,hea⟩:=hpa.shape;simp only[List.length_append,List.length_singleton]at hea;subst hea;have HPA:=hid hpa;have HOA:=hid offa;clear hpa offa)
          go_roundg m
          case measure=>omega
          case rel=>
           refine⟨false,s2,ps++[n2],S3,rfl,HPA.out,R9.out.off HOA.out,(HST.out.trans T9.out).off HOA.out,j1,by omega,?_,HU.out.snoc hun2,HF2.out⟩;rw[Nd.sizes_append];show Nd.sizes ps+(n2.size+0)≤s2.at_;omega
theorem Zhn{w:World}{b:Nat}{v:Value}{e:TypeId}(h:w.heap[b]? =some (.cells #[v] e (0,0))):w.ownsRow 0 e 1 (.slice (some ⟨b,0,none⟩) 1 1) 1 [v]:=by
 refine⟨by simp,.inr ⟨b,1,#[v],rfl,Nat.zero_le _,h,by simp,by simp[maxLen],by simp,by simp⟩⟩
theorem Pts.one{S O:Nat→Prop}{W w0:World}{t:Nd}{val:Value}{b:Nat}(hv:RN (SO S O) w0 t val)(hlt:∀k,S k→k<w0.heap.size)(hO:∀k,O k→k<w0.heap.size)(hW:W.heap.size≤w0.heap.size)(hb:b=w0.heap.size):
 Pts S O W (w0.alloc (.cells #[val] 26)) [t] (.slice (some ⟨b,0,none⟩) 1 1):=by
 subst hb;refine⟨⟨[val],Zhn (newAt0 w0 _),⟨val,[],rfl,?_,rfl⟩,rfl⟩,fun k hk=> ?_⟩
 ·refine RN.keep ((Fr.refl nob w0).alloc _) (fun _ _ x=>x.elim) (fun k hk x=> ?_) _ _ hv;rcases x with x|x
  ·exact x
  ·have x:some w0.heap.size=some k:=x;injection x with x;omega
 ·have hk:some w0.heap.size=some k:=hk;injection hk with hk;exact⟨fun x=>by have:=hlt k x;omega,by omega⟩
section
variable {l:List UInt8} {C:Option (RxS→Out Nd)} {inner:Bool} {n:Nat} {s:RxS} {ts:List Nd}
theorem Zjk(h:ahd l s.at_ [92,124]=false):Za1 prg l C inner (n+1) s ts=.inr (Za3 ts,s):=by
 rw[Za1,if_neg (by rw[h];decide)];rfl
theorem Zjl(h:ahd l s.at_ [92,124]=true){e:Int×Nat}(hb:branchS prg l C inner ((s.mark [92,124]).go 2)=.inl e):Za1 prg l C inner (n+1) s ts=.inl e:=by
 rw[Za1,if_pos h,hb]
theorem ZkC(h:ahd l s.at_ [92,124]=true){t:Nd}{s':RxS}(hb:branchS prg l C inner ((s.mark [92,124]).go 2)=.inr (t,s')):Za1 prg l C inner (n+1) s ts=Za1 prg l C inner n s' (ts++[t]):=by
 rw[Za1,if_pos h,hb]
end
def Zqu(b:Nat)(l:List UInt8)(C:Option (RxS→Out Nd))(inner:Bool)(S O:Nat→Prop)(w:World)(F:Out Nd)(n:Nat)(v5:Value)(wr:World):Prop:=
 ∃s ts S',Pts S' O w wr ts v5∧Rdg b l s S' wr∧Stp S w S' wr∧Sane l s∧l.length<n+s.at_∧Nd.sizes ts≤s.at_+1∧Zn3 ts∧Za1 prg l C inner n s ts=F
theorem Zf6(b:Nat)(l:List UInt8)(W0:World)(deep:Nat)(C:Option (RxS→Out Nd))(s:RxS)(S O:Nat→Prop)(w:World)(hO:∀k,O k→k<w.heap.size)(hl:l.length≤100000)(hd:deep≤12)(hE0:Env W0)
 (hG:ZoT l W0 deep C) (hC:∀f,C=some f→ZcC l 2 f) (hs:Sane l s) (hW:Wd W0 S w) (h:Rdg b l s S w):
 Calls Tryz.prog 204 #[.pointer (some ⟨b,0,none⟩),.int .i64 deep] w fun x w'=>ZbO b l S O w (choiceS prg l C (decide (0<deep)) s) x w':=by
 obtain⟨F,hF⟩:∃F,choiceS prg l C (decide (0<deep)) s=F:=⟨_,rfl⟩;rw[hF];have HBR:=hid (fun(s:RxS) (S O:Nat→Prop) (w:World) (hO:∀k,O k→k<w.heap.size) (hs:Sane l s) (hW:Wd W0 S w) (h:Rdg b l s S w)=>ZkB b l W0 deep C s S O w hO hl hd hE0 hG hC hs hW h);obtain⟨inner,hin⟩:∃inner,decide (0<deep)=inner:=⟨_,rfl⟩;rw[hin]at HBR hF;have HW:=hid hW;have HC:=hid hC;have HOO:=hid hO;unfold choiceS at hF;have H0:=hid (HBR.out s S O w hO hs hW h);clear hW hC hE0 hO h hG hin;go_enter Tryz.func204,Tryz.ntmps204;go_wp2_with fail;refine(H0.out).mono ?_;cases hb0:branchS prg l C inner s with
 |inl z=>
  obtain⟨z1,z2⟩:=z;rw[hb0]at hF;subst hF;rintro e w1 ⟨rfl,S1,t1⟩;exact⟨rfl,rfl,S1,t1⟩
 |inr z=>
  obtain⟨t,s1⟩:=z;rw[hb0]at hF;simp only at hF;obtain⟨k1,k2,k3⟩:=Zbe HC.out _ hs _ _ hb0;have hbr:=branchS_brn hb0;rintro e w1 ⟨i,y,S1,rfl,rn1,r1,t1⟩;have HP1:=hid (Pts.one (W:=w) rn1 ((HW.out.stp t1).lt) (fun k hk=>Nat.lt_of_lt_of_le (HOO.out k hk) t1.fr.size) t1.fr.size rfl);have R1:=hid r1;have T1:=hid t1;have HF:=hid hF;have K1:=hid k1;clear H0 hb0 hF rn1 r1 t1 k1 hs;go_wp2_with fail
  go_loopg [5] (l.length+1) (fun n v wr=>Zqu b l C inner S O w F n v wr)
  case atStart=>exact⟨s1,[t],S1,HP1.out,R1.out.on ((Fr.refl _ _).alloc _),T1.out.trans (Stp.of ((Fr.refl _ _).alloc _)),K1.out,by omega,by show t.size+0≤_;omega,fun x hx=>by rw[List.mem_singleton.1 hx];exact hbr,HF.out⟩
  case round=>
   clear HP1 R1 T1 K1 HF k2 k3 hbr;obtain⟨s,ts,S1,hp,hr,hst,hsn,hn,hz,hu,hF⟩:=hrel;have hsle:=hsn.le;obtain⟨m,rfl⟩:∃m,gk=m+1:=⟨gk-1,by omega⟩;obtain⟨av,cv0,hv⟩:=hp.shape;subst hv;obtain⟨v5,hv5⟩:∃v5,v5=Value.slice av ts.length cv0:=⟨_,rfl⟩;have HA:=hid (Zcg b l [92,124] s S1 wr (by omega) (by decide) hsle hr);have HP:=hid (show Pts S1 O w wr ts v5 from hv5▸hp);have HR:=hid hr;have HST:=hid hst;have HSN:=hid hsn;have HU:=hid hu;have HF:=hid hF;have HV5:=hid hv5;have HW1:=hid (HW.out.stp hst);have HJ:=hid (fun(w':World) (f:Fr nob wr w')=>Zd4 (SO S1 O) ts (.slice av ts.length cv0) w' (fun k hk=>Nat.lt_of_lt_of_le (hk.elim ((HW.out.stp hst).lt k) (fun x=>Nat.lt_of_lt_of_le (HOO.out k x) hst.fr.size)) f.size) (by omega) ((hp.on f).sn HOO.out));clear hp hr hst hsn hF hv5 hu;cases e1:ahd l s.at_ [92,124]with
   |false=>
    rw[e1]at HA;have hF:=HF.out;rw[Zjk e1]at hF;subst hF;clear HF;go_wp2_with fail;refine(HA.out).mono ?_;rintro e w2 ⟨rfl,f2⟩;have F2:=hid f2;clear f2;go_wp2_with fail;refine(HJ.out _ F2.out).mono ?_;rintro e wj ⟨r,rfl,hrj,fj⟩;obtain⟨ij,yj,rfl⟩:=hrj.some (Zjj HU.out);have HRJ:=hid hrj;have FJ:=hid (F2.out.trans' fj);clear hrj fj;go_wp2;go_ret;exact⟨ij,yj,S1,rfl,HRJ.out,HR.out.on FJ.out,HST.out.trans (Stp.of FJ.out)⟩
   |true=>
    have hle:=ahd_le e1 (by decide);simp only[List.length_cons,List.length_nil]at hle;rw[e1]at HA;clear HJ;go_wp2_with fail;refine(HA.out).mono ?_;rintro e w2 ⟨rfl,f2⟩;have F2:=hid f2;clear f2;go_wp2_with fail;refine(br_mark b l [92,124] s S1 w2 (by have:=HSN.out.mr;omega) (HR.out.on F2.out)).mono ?_;rintro e w3 ⟨rfl,S3,⟨cv3,mv3,hB3⟩,st3⟩;obtain⟨⟨_,q1,_⟩,_,q2,_⟩:=Zd hB3.blk _ (Fr.refl _ _);rw[show(s.mark [92,124]).at_=s.at_ from rfl]at q1;obtain⟨w4,hw4⟩:∃w4,w4=w3.setCell ⟨b,1,none⟩ (.int .i64 ((s.at_:Int)+2)):=⟨_,rfl⟩;have hr4:Rdg b l ((s.mark [92,124]).go 2) S3 w4:=⟨cv3,mv3,by rw[hw4];exact hB3.turned 1 _ _ (by simp[RxS.go,RxS.mark]) rfl rfl⟩;have ht4:Stp S1 wr S3 w4:=by rw[hw4];exact((Stp.of F2.out).trans st3).trans (hB3.stp 1 _)
    have hsn4:=HSN.out.markgo [92,124] (n:=2) (by omega) hle;have hp4:=HP.out.stp ht4;have H5:=hid (HBR.out ((s.mark [92,124]).go 2) S3 (PO O v5) w4 (hp4.lt (fun k hk=>Nat.lt_of_lt_of_le (HOO.out k hk) (Nat.le_trans HST.out.fr.size ht4.fr.size))) hsn4 (HW1.out.stp ht4) hr4);have HP4:=hid hp4;have HT4:=hid ht4;have HW4:=hid hw4;have HS4:=hid hsn4;clear hB3 st3 hr4 ht4 hsn4 hp4 hw4 HA;go_wp2_with(rw[←HW4.out]);with_reducible refine(H5.out).mono ?_
    cases hb:branchS prg l C inner ((s.mark [92,124]).go 2)with
    |inl z=>
     obtain⟨z1,z2⟩:=z;have hF:=HF.out;rw[Zjl e1 hb]at hF;subst hF;rintro e w5 ⟨rfl,S5,t5⟩;exact⟨rfl,rfl,S5,(HST.out.trans HT4.out).trans t5⟩
    |inr z=>
     obtain⟨t5,s5⟩:=z;have hF:=HF.out;rw[ZkC e1 hb]at hF;obtain⟨j1,j2,j3⟩:=Zbe HC.out _ HS4.out _ _ hb;have hbr:=branchS_brn hb;have j2:s.at_+2≤s5.at_:=j2;have j3:t5.size+(s.at_+2)≤s5.at_+1:=j3;rintro e w5 ⟨i5,y5,S5,rfl,rn5,r5,st5⟩;have T5:=hid (HT4.out.trans st5);have RN5:=hid rn5;have R5:=hid r5;have HF2:=hid hF;clear hF rn5 r5 st5 H5 HF e1 hb;have HP5:=hid (HP.out.stp T5.out);have HLT5:=hid (HW1.out.stp T5.out).lt;have HOT:=hid (show∀k,O k→k<w5.heap.size from fun k hk=>Nat.lt_of_lt_of_le (HOO.out k hk) (Nat.le_trans HST.out.fr.size T5.out.fr.size));have HWS:=hid (Nat.le_trans HST.out.fr.size T5.out.fr.size);have hpl:=Nd.length_le ts;go_wp2_with(at_builtin;refine wpList_append_pts (W:=w) (S:=S5) (O:=O) rfl (.tmp 21) (.tmp 25) rfl ts t5 v5 _ _ _ (by rw[HV5.out];rfl) HP5.out HLT5.out HOT.out HWS.out rfl (by rfl) RN5.out (by omega) ?_;intro va wa hpa offa;obtain⟨aa,ca,hea⟩:=hpa.shape;simp only[List.length_append,List.length_singleton]at hea;subst hea;have HPA:=hid hpa;have HOA:=hid offa;clear hpa offa)
     go_roundg m
     case measure=>omega
     case rel=>
      refine⟨s5,ts++[t5],S5,HPA.out,R5.out.off HOA.out,(HST.out.trans T5.out).off HOA.out,j1,by omega,?_,HU.out.snoc hbr,HF2.out⟩;rw[Nd.sizes_append];show Nd.sizes ts+(t5.size+0)≤s5.at_+1;omega
theorem ZkD(l:List UInt8)(W0:World)(hl:l.length≤100000)(hE0:Env W0):∀n deep,n+deep=12→ZqO l W0 deep (chS prg l n)
 |0,deep,hd=>by
  obtain rfl:deep=12:=by omega
  intro b s S O w hO hs hW h;have hG:ZoT l W0 12 none:=fun b s S O w p _ _ _ _ _=>Zfh b l s S O w p;have:=Zf6 b l W0 12 none s S O w hO hl (Nat.le_refl _) hE0 hG (fun f hf=>by cases hf) hs hW h;rw[chS];exact this
 |n+1,deep,hd=>by
  intro b s S O w hO hs hW h;have ih:=ZkD l W0 hl hE0 n (deep+1) (by omega);have hG:ZoT l W0 deep (some (chS prg l n)):=fun b s S O w p hO hs h1 hW h=>Zmk b l W0 deep (chS prg l n) s S O w p hO hl (by omega) ih (chS_kept n).kept hs h1 hW h;have:=Zf6 b l W0 deep (some (chS prg l n)) s S O w hO hl (by omega) hE0 hG (fun f hf=>by injection hf with hf;subst hf;exact chS_kept n) hs hW h;rw[chS,show decide (n+1<12)=decide (0<deep)from by congr 1;exact propext ⟨fun _=>by omega,fun _=>by omega⟩];exact this
structure Four(w:World)(b0 b1 b2 b3:Nat)(v0 v1 v2 v3:Value):Prop where
 h0:w.heap[b0]? =some (.cells #[v0] 26 (0,0))
 h1:w.heap[b1]? =some (.cells #[v1] 36 (0,0))
 h2:w.heap[b2]? =some (.cells #[v2] 3 (0,0))
 h3:w.heap[b3]? =some (.cells #[v3] 37 (0,0))
 n01:b0≠b1
 n02:b0≠b2
 n03:b0≠b3
 n12:b1≠b2
 n13:b1≠b3
 n23:b2≠b3
theorem Four.drew{w:World}{b0 b1 b2 b3:Nat}{v0 v1 v2 v3:Value}(h:Four w b0 b1 b2 b3 v0 v1 v2 v3):Four w.drew b0 b1 b2 b3 v0 v1 v2 v3:=
 ⟨h.h0,h.h1,h.h2,h.h3,h.n01,h.n02,h.n03,h.n12,h.n13,h.n23⟩
theorem Zin{w:World}{b0 b1 b2 b3:Nat}{v0 v1 v2 v3:Value}(h:Four w b0 b1 b2 b3 v0 v1 v2 v3)(u0 u1 u2 u3:Value):
 Four ((((w.setCell ⟨b0,0,none⟩ u0).setCell ⟨b1,0,none⟩ u1).setCell ⟨b2,0,none⟩ u2).setCell ⟨b3,0,none⟩ u3) b0 b1 b2 b3 u0 u1 u2 u3∧
  Fr (fun k=>k=b0∨k=b1∨k=b2∨k=b3) w ((((w.setCell ⟨b0,0,none⟩ u0).setCell ⟨b1,0,none⟩ u1).setCell ⟨b2,0,none⟩ u2).setCell ⟨b3,0,none⟩ u3):=by
 obtain⟨h0,h1,h2,h3,n01,n02,n03,n12,n13,n23⟩:=h;have k0:=Zc (p:=⟨b3,0,none⟩) (Zc (p:=⟨b2,0,none⟩) (Zc (p:=⟨b1,0,none⟩) (Za h0 0 u0) n01 u1) n02 u2) n03 u3;have k1:=Zc (p:=⟨b3,0,none⟩) (Zc (p:=⟨b2,0,none⟩) (Za (Zc (p:=⟨b0,0,none⟩) h1 (Ne.symm n01) u0) 0 u1) n12 u2) n13 u3;have k2:=Zc (p:=⟨b3,0,none⟩) (Za (Zc (p:=⟨b1,0,none⟩) (Zc (p:=⟨b0,0,none⟩) h2 (Ne.symm n02) u0) (Ne.symm n12) u1) 0 u2) n23 u3;have k3:=Za (Zc (p:=⟨b2,0,none⟩) (Zc (p:=⟨b1,0,none⟩) (Zc (p:=⟨b0,0,none⟩) h3 (Ne.symm n03) u0) (Ne.symm n13) u1) (Ne.symm n23) u2) 0 u3;refine⟨⟨k0,k1,k2,k3,n01,n02,n03,n12,n13,n23⟩,?_⟩;exact((((Fr.refl (fun k=>k=b0∨k=b1∨k=b2∨k=b3) w).setCell (p:=⟨b0,0,none⟩) (fun _=>.inl rfl) u0).setCell (p:=⟨b1,0,none⟩) (fun _=>.inr (.inl rfl)) u1).setCell (p:=⟨b2,0,none⟩) (fun _=>.inr (.inr (.inl rfl))) u2).setCell (p:=⟨b3,0,none⟩) (fun _=>.inr (.inr (.inr rfl))) u3
abbrev CQ(w:World)(b:Nat)(v0 v1:Value):Prop:=w.cell? ⟨b,0,none⟩=some v0∧w.cell? ⟨b,1,none⟩=some v1
theorem CQ.drew{w:World}{b:Nat}{v0 v1:Value}(h:CQ w b v0 v1):CQ w.drew b v0 v1:=h
theorem CQ.set{w:World}{b c j:Nat}{v0 v1:Value}(h:CQ w b v0 v1)(hn:c≠b)(u:Value):CQ (w.setCell ⟨c,j,none⟩ u) b v0 v1:=⟨Zm h.1 hn,Zm h.2 hn⟩
theorem Zho(p0 p1 p2 p3:Value)(w:World):
 CallsD Tryz.prog 203 #[p0,p1,p2,p3] .returning w fun e u' w'=>e=.returned (.tuple #[])∧u'=.returning∧w'=w:=by
 refine callsD_of_wpS Tryz.func203 rfl fun c₀ cs hu=> ?_;apply wpS_seq;apply wpS_region;simp[wpOpsS,go_sem,recoverD,hu,Tryz.ntmps203,Exit.thenS];refine wpS_of_wp ?_;go_wp2;cases c₀
 simp_all [bodyPostS,results,Tryz.results203]
theorem ZdA(b0 b1 b2 b3:Nat)(v0 v1 v2 v3:Value)(z:Int)(p:Nat)(older:List PanicEntry)(w:World)(h:Four w b0 b1 b2 b3 v0 v1 v2 v3):
 CallsD Tryz.prog 203 #[.pointer (some ⟨b0,0,none⟩),.pointer (some ⟨b1,0,none⟩),.pointer (some ⟨b2,0,none⟩),.pointer (some ⟨b3,0,none⟩)] (.panicking ({v:=.iface 285 (.agg #[.int .i64 z,.int .i64 (p:Nat)]),recovered:=false}::older)) w fun e u' w'=>
  e=.returned (.tuple #[])∧u'=.panicking ({v:=.iface 285 (.agg #[.int .i64 z,.int .i64 (p:Nat)]),recovered:=true}::older)∧Four w' b0 b1 b2 b3 .nilIface (.slice none 0 0) (.int .i64 (p:Nat)) (.int .i64 z)∧Fr (fun k=>k=b0∨k=b1∨k=b2∨k=b3) w w':=by
 refine callsD_of_wpS Tryz.func203 rfl fun c₀ cs hu=> ?_;apply wpS_seq;apply wpS_region;simp[wpOpsS,go_sem,recoverD,hu,Tryz.ntmps203,Exit.thenS];obtain⟨h0,h1,h2,h3,n01,n02,n03,n12,n13,n23⟩:=h;have c0:=cell_at (j:=0) (v:=v0) h0 rfl;have c1:=cell_at (j:=0) (v:=v1) h1 rfl;have c2:=cell_at (j:=0) (v:=v2) h2 rfl;have c3:=cell_at (j:=0) (v:=v3) h3 rfl;have d0:=unfrozen_at h0 0;have d1:=unfrozen_at h1 0;have d2:=unfrozen_at h2 0;have d3:=unfrozen_at h3 0;have l0:=lt_heap h0;have l1:=lt_heap h1;have l2:=lt_heap h2;have l3:=lt_heap h3;have has:=fun(x:TypeId) (v:Value) (w:World)=>Zfe (P:=Tryz.prog) (x:=x) Tryz.underlying285 v w;have hz:=newAt0 w (.cells #[.int .i64 z,.int .i64 (p:Nat)] 285);obtain⟨wA,hwA⟩:∃wA,wA=w.alloc (.cells #[.int .i64 z,.int .i64 (p:Nat)] 285):=⟨_,rfl⟩;have hfA:Fr nob w wA:=by rw[hwA];exact(Fr.refl nob w).alloc _
 rw[←hwA]at hz;obtain⟨c,hc⟩:∃c,c=w.heap.size:=⟨_,rfl⟩;rw[←hc]at hz;have hcq:CQ wA c (.int .i64 z) (.int .i64 (p:Nat)):=⟨cell_at hz rfl,cell_at hz rfl⟩;have e0:=hcq.1;have e1:=hcq.2;have HQ:=hid hcq;have HQd:=hid (CQ.drew hcq);have m0:b0≠c:=by omega
 have m1:b1≠c:=by omega
 have m2:b2≠c:=by omega
 have m3:b3≠c:=by omega
 have H0:=hid (hfA.heap h0 (fun x=>x));have H1:=hid (hfA.heap h1 (fun x=>x));have H2:=hid (hfA.heap h2 (fun x=>x));have H3:=hid (hfA.heap h3 (fun x=>x));have HA:=hid hfA;have HWA:=hid hwA;have HCC:=hid hc;clear h0 h1 h2 h3 hz hcq hfA c0 c1 c2 c3 d0 d1 d2 d3;have c0:=cell_at (j:=0) (v:=v0) H0.out rfl;have c1:=cell_at (j:=0) (v:=v1) H1.out rfl;have c2:=cell_at (j:=0) (v:=v2) H2.out rfl;have c3:=cell_at (j:=0) (v:=v3) H3.out rfl;have d0:=unfrozen_at H0.out 0;have d1:=unfrozen_at H1.out 0;have d2:=unfrozen_at H2.out 0;have d3:=unfrozen_at H3.out 0;clear hwA hc;refine wpS_of_wp ?_;go_wp2_with(rw[←HWA.out,←HCC.out])
 go_region_held3 (fun w'=>CQ w' c (.int .i64 z) (.int .i64 (p:Nat))) (repeat(first|(with_reducible exact HQ.out)|(with_reducible exact HQd.out)|(with_reducible refine CQ.set ?_ (by assumption) _)|(with_reducible refine CQ.drew ?_))) (fail)
 all_goals
  go_wp2;have hR:=Zin (w:=wA) ⟨H0.out,H1.out,H2.out,H3.out,n01,n02,n03,n12,n13,n23⟩ .nilIface (.slice none 0 0) (.int .i64 (p:Nat)) (.int .i64 z);have HR:=hid hR;clear hR;simp[bodyPostS,results,Tryz.results203];exact⟨HR.out.1.drew,(HA.out.any.trans HR.out.2 (fun _ _ x=>x)).drew⟩
theorem Zio(w:World)(v0 v1 v2 v3:Value):Four ((((w.alloc (.cells #[v0] 26)).alloc (.cells #[v1] 36)).alloc (.cells #[v2] 3)).alloc (.cells #[v3] 37)) w.heap.size (w.heap.size+1) (w.heap.size+1+1) (w.heap.size+1+1+1) v0 v1 v2 v3:=
 ⟨Ze _ (Ze _ (Ze _ (newAt0 w _))),Ze _ (Ze _ (Zg _ _ _ (by simp))),Ze _ (Zg _ _ _ (by simp)),Zg _ _ _ (by simp),by omega,by omega,by omega,by omega,by omega,by omega⟩
theorem Zhp{X:Nat→Prop}{w w':World}{b0 b1 b2 b3:Nat}{v0 v1 v2 v3:Value}(h:Four w b0 b1 b2 b3 v0 v1 v2 v3)(f:Fr X w w')(hX:∀k,(k=b0∨k=b1∨k=b2∨k=b3)→¬X k):Four w' b0 b1 b2 b3 v0 v1 v2 v3:=
 ⟨f.heap h.h0 (hX _ (.inl rfl)),f.heap h.h1 (hX _ (.inr (.inl rfl))),f.heap h.h2 (hX _ (.inr (.inr (.inl rfl)))),f.heap h.h3 (hX _ (.inr (.inr (.inr rfl)))),h.n01,h.n02,h.n03,h.n12,h.n13,h.n23⟩
abbrev PQ(w:World)(b c:Nat)(v0 v4:Value):Prop:=w.cell? ⟨b,0,none⟩=some v0∧w.cell? ⟨c,4,none⟩=some v4
theorem PQ.drew{w:World}{b c:Nat}{v0 v4:Value}(h:PQ w b c v0 v4):PQ w.drew b c v0 v4:=h
theorem PQ.set{w:World}{b c k j:Nat}{v0 v4:Value}(h:PQ w b c v0 v4)(hb:k≠b)(hc:k≠c)(u:Value):PQ (w.setCell ⟨k,j,none⟩ u) b c v0 v4:=⟨Zm h.1 hb,Zm h.2 hc⟩
theorem PQ.same{w:World}{b c:Nat}{v0 v4:Value}(h:PQ w b c v0 v4)(hc:b≠c):PQ (w.setCell ⟨b,0,none⟩ v0) b c v0 v4:=⟨World.cell?_setCell_same' _ _ _ (by rw[h.1];rfl),Zm h.2 hc⟩
def BreAnsO(R:Out Nd)(w:World)(e:Ending)(w':World):Prop:=Fr nob w w'∧match R with
 | .inl (z,p)=>e=.returned (.tuple #[.nilIface,.slice none 0 0,.int .i64 (p:Nat),.int .i64 z])
 | .inr (t,s)=>∃i y mv,e=.returned (.tuple #[.iface i y,mv,.int .i64 0,.int .i64 0])∧RN (fun k=>k<w.heap.size) w' t (.iface i y)∧OwM w' s.marks mv∧∀k,mv.ownBlock=some k→w.heap.size≤k
theorem ZeE(l:List UInt8)(w:World)(hl:l.length≤100000)(hE:Env w):
 Calls Tryz.prog 179 #[.string ⟨l.toArray⟩] w (BreAnsO (Zey prg l) w):=by
 have hmf:=ZfW;by_cases h250:250<l.length
 ·have hlI:(250:Int)<(l.length:Int):=by omega
  unfold Zey;rw[if_pos h250]
  go_enter_defers Tryz.func179,Tryz.ntmps179
  go_wp2;have hF:=Zio w .nilIface (.slice none 0 0) (.int .i64 250) (.int .i64 3);have k0:=cell_at (j:=0) (v:=.nilIface) hF.h0 rfl;have k1:=cell_at (j:=0) (v:=.slice none 0 0) hF.h1 rfl;have k2:=cell_at (j:=0) (v:=.int .i64 250) hF.h2 rfl;have k3:=cell_at (j:=0) (v:=.int .i64 3) hF.h3 rfl;have FW:=hid (((((Fr.refl nob w).alloc (.cells #[.nilIface] 26)).alloc (.cells #[.slice none 0 0] 36)).alloc (.cells #[.int .i64 250] 3)).alloc (.cells #[.int .i64 3] 37));simp[bodyPostD,Leaves,settle,results,Tryz.results179,go_sem,BreAnsO];exact FW.out
 ·have hlI:¬(250:Int)<(l.length:Int):=by omega
  unfold Zey;rw[if_neg h250];obtain⟨F,hF⟩:∃F,chS prg l 12 ⟨0,0,[],[]⟩=F:=⟨_,rfl⟩;rw[hF];obtain⟨w4,hw4⟩:∃w4,w4=(((w.alloc (.cells #[.nilIface] 26)).alloc (.cells #[.slice none 0 0] 36)).alloc (.cells #[.int .i64 0] 3)).alloc (.cells #[.int .i64 0] 37):=⟨_,rfl⟩;have hs4:w4.heap.size=w.heap.size+1+1+1+1:=by rw[hw4];simp
  have hf4:Fr nob w w4:=by rw[hw4];exact(((((Fr.refl nob w).alloc _).alloc _).alloc _).alloc _)
  have h4:Four w4 w.heap.size (w.heap.size+1) (w.heap.size+1+1) (w.heap.size+1+1+1) .nilIface (.slice none 0 0) (.int .i64 0) (.int .i64 0):=by rw[hw4];exact Zio w _ _ _ _
  obtain⟨w5,hw5⟩:∃w5,w5=w4.alloc (.cells #[.string ⟨l.toArray⟩,.int .i64 0,.int .i64 0,.slice none 0 0,.slice none 0 0] 288):=⟨_,rfl⟩;have hf45:Fr nob w4 w5:=by rw[hw5];exact(Fr.refl nob w4).alloc _
  have hs5:w5.heap.size=w4.heap.size+1:=by rw[hw5];simp
  obtain⟨b,hb⟩:∃b,b=w4.heap.size:=⟨_,rfl⟩;have hB:Br b l ⟨0,0,[],[]⟩ (fun k=>k=b) (.slice none 0 0) (.slice none 0 0) w5:=
   ⟨by rw[hw5,hb];exact newAt0 w4 _,World.ownsRow_nil _ _ _ _,World.ownsRow_nil _ _ _ _,fun _ h=>(by cases h),fun _ h=>(by cases h),fun _ h=>(by cases h),rfl⟩
  have hO:∀k,k<b→k<w5.heap.size:=fun k hk=>by omega
  have hch:=ZkD l w hl hE 12 0 rfl b ⟨0,0,[],[]⟩ (fun k=>k=b) (fun k=>k<b) w5 hO ⟨Nat.zero_le _,Nat.le_refl _,Nat.le_refl _,Nat.le_refl _⟩ ⟨hf4.trans' hf45,fun k hk=>by subst hk;omega,fun k hk=>by subst hk;omega⟩ ⟨_,_,hB⟩;rw[hF]at hch;have h5:=Zhp (X:=nob) h4 hf45 (fun _ _ x=>x);have hHS:b=w.heap.size+1+1+1+1:=by omega
  rw[show((0:Nat):Int)=0 from rfl]at hch;subst hHS;have HCH:=hid hch;have H5:=hid h5;have HW4:=hid hw4;have HW5:=hid hw5;have HF5:=hid (hf4.trans' hf45);have HS5:=hid (show w5.heap.size=w.heap.size+5 by omega);have hmk:∀s6 S6 w6,Rdg (w.heap.size+1+1+1+1) l s6 S6 w6→Rdg (w.heap.size+1+1+1+1) l s6 S6 w6:=fun _ _ _ h=>h;clear hch h5 h4 hw4 hw5 hB hO hF hb hs4 hf4 hf45 hE hs5 hmk
  go_enter_defers Tryz.func179,Tryz.ntmps179
  go_wp2_with(rw[←HW4.out,←HW5.out]);refine(HCH.out).mono ?_;cases F with
  |inl q=>
   obtain⟨z,p⟩:=q;rintro e w6 ⟨rfl,S6,t6⟩;have h6:=Zhp H5.out t6.fr (fun k hk x=>by have x:k=w.heap.size+1+1+1+1:=x;omega);have F6:Fr nob w w6:=HF5.out.trans t6.fr (fun i hi x=>by have x:i=w.heap.size+1+1+1+1:=x;omega);refine leaves_cons (f:=203) (args:= #[.pointer (some ⟨w.heap.size,0,none⟩),.pointer (some ⟨w.heap.size+1,0,none⟩),.pointer (some ⟨w.heap.size+1+1,0,none⟩),.pointer (some ⟨w.heap.size+1+1+1,0,none⟩)]) (by simp) (by simp[go_sem]) ?_;refine(ZdA _ _ _ _ _ _ _ _ z p [] _ h6).mono ?_;rintro e u' w7 ⟨rfl,rfl,h7,f7⟩;have k0:=cell_at (j:=0) (v:=.nilIface) h7.h0 rfl;have k1:=cell_at (j:=0) (v:=.slice none 0 0) h7.h1 rfl;have k2:=cell_at (j:=0) (v:=.int .i64 (p:Nat)) h7.h2 rfl;have k3:=cell_at (j:=0) (v:=.int .i64 z) h7.h3 rfl;have FW:=hid (show Fr nob w w7 from F6.trans f7 (fun i hi x=>by omega));clear h7 f7 F6 h6 t6;simp[Leaves,settle,results,Tryz.results179,go_sem,BreAnsO,k0,k1,k2,k3]
   exact FW.out
  |inr q=>
   obtain⟨t,s⟩:=q;rintro e w6 ⟨i,y,S6,rfl,rn6,⟨cv,mv,hB6⟩,t6⟩;have h6:=Zhp H5.out t6.fr (fun k hk x=>by have x:k=w.heap.size+1+1+1+1:=x;omega);have F6:Fr nob w w6:=HF5.out.trans t6.fr (fun i hi x=>by have x:i=w.heap.size+1+1+1+1:=x;omega);obtain⟨w7,hw7⟩:∃w7,w7=w6.setCell ⟨w.heap.size,0,none⟩ (.iface i y):=⟨_,rfl⟩;have c0:=cell_at (j:=0) (v:=.nilIface) h6.h0 rfl;have d0:=unfrozen_at h6.h0 0;have h7:Four w7 w.heap.size (w.heap.size+1) (w.heap.size+1+1) (w.heap.size+1+1+1) (.iface i y) (.slice none 0 0) (.int .i64 0) (.int .i64 0):=by
    rw[hw7];exact⟨Za h6.h0 0 _,Zc h6.h1 (Ne.symm h6.n01) _,Zc h6.h2 (Ne.symm h6.n02) _,Zc h6.h3 (Ne.symm h6.n03) _,h6.n01,h6.n02,h6.n03,h6.n12,h6.n13,h6.n23⟩
   have f67:Fr (fun k=>k=w.heap.size) w6 w7:=by rw[hw7];exact(Fr.refl (fun k=>k=w.heap.size) w6).setCell (p:=⟨w.heap.size,0,none⟩) (fun _=>rfl) _
   have e4:w7.cell? ⟨w.heap.size+1+1+1+1,4,none⟩=some mv:=f67.cell (cell_at hB6.blk rfl) (fun x=>by simp only at x;omega);have c7:=cell_at (j:=0) (v:=.iface i y) h7.h0 rfl;have c71:=cell_at (j:=0) (v:=.slice none 0 0) h7.h1 rfl;have c72:=cell_at (j:=0) (v:=.int .i64 0) h7.h2 rfl;have c73:=cell_at (j:=0) (v:=.int .i64 0) h7.h3 rfl;have d7:=unfrozen_at h7.h0 0;have d71:=unfrozen_at h7.h1 0;have d72:=unfrozen_at h7.h2 0;have d73:=unfrozen_at h7.h3 0;obtain⟨am,cm,hmv⟩:=Zb hB6.ma;subst hmv;have hpq:PQ w7 w.heap.size (w.heap.size+1+1+1+1) (.iface i y) (.slice am s.marks.length cm):=⟨c7,e4⟩;have HQ:=hid hpq;have HQd:=hid (PQ.drew hpq);have HW7:=hid hw7;have H7:=hid h7;have RN6:=hid rn6;have T6:=hid t6;have F6:=hid F6;have F67:=hid f67;have HB6:=hid hB6;clear hw7 h7 h6 rn6 t6 f67 hB6 hpq;go_wp2_with(rw[←HW7.out])
   go_region_held3 (fun w'=>PQ w' w.heap.size (w.heap.size+1+1+1+1) (.iface i y) (.slice am s.marks.length cm)) (repeat(first|(with_reducible exact HQ.out)|(with_reducible exact HQd.out)|(with_reducible refine PQ.same ?_ (by omega))|(with_reducible refine PQ.set ?_ (by omega) (by omega) _)|(with_reducible refine PQ.drew ?_))) (fail)
   all_goals
    obtain⟨w8,hw8⟩:∃w8,w8=((((w7.setCell ⟨w.heap.size,0,none⟩ (.iface i y)).setCell ⟨w.heap.size+1,0,none⟩ (.slice am s.marks.length cm)).setCell ⟨w.heap.size+1+1,0,none⟩ (.int .i64 0)).setCell ⟨w.heap.size+1+1+1,0,none⟩ (.int .i64 0)).drew:=⟨_,rfl⟩;rw[←hw8];have hR:=Zin H7.out (.iface i y) (.slice am s.marks.length cm) (.int .i64 0) (.int .i64 0);have h8:Four w8 w.heap.size (w.heap.size+1) (w.heap.size+1+1) (w.heap.size+1+1+1) (.iface i y) (.slice am s.marks.length cm) (.int .i64 0) (.int .i64 0):=by rw[hw8];exact hR.1.drew
    have f8:Fr (fun k=>k=w.heap.size∨k=w.heap.size+1∨k=w.heap.size+1+1∨k=w.heap.size+1+1+1) w6 w8:=by rw[hw8];exact((F67.out.mono (fun _ _ x=>.inl x)).trans hR.2 (fun _ _ x=>x)).drew
    have hrn:RN (fun k=>k<w.heap.size) w8 t (.iface i y):=RN.keep f8 (fun k _ x=>.inr (by show k<_;omega)) (fun k _ x=>.inr (by show k<_;have x:k<w.heap.size:=x;omega)) _ _ RN6.out;have hma:OwM w8 s.marks (.slice am s.marks.length cm):=ownsRow_fr HB6.out.ma f8 (fun k hk x=>by
     have h1:=HB6.out.nm k hk;have h2:=HS5.out;have h3:k=w.heap.size+1+1+1+1:=T6.out.old k (by omega) h1.2;omega)
    have hfr:Fr nob w w8:=F6.out.trans f8 (fun i hi x=>by omega);have k0:=cell_at (j:=0) (v:=.iface i y) h8.h0 rfl;have k1:=cell_at (j:=0) (v:=.slice am s.marks.length cm) h8.h1 rfl;have k2:=cell_at (j:=0) (v:=.int .i64 0) h8.h2 rfl;have k3:=cell_at (j:=0) (v:=.int .i64 0) h8.h3 rfl;have hnw:∀k,(Value.slice am s.marks.length cm).ownBlock=some k→w.heap.size≤k:=fun k hk=>by
     have h1:=HB6.out.nm k hk;have h2:=HS5.out;by_cases hlt:k<w5.heap.size
     ·have h3:k=w.heap.size+1+1+1+1:=T6.out.old k hlt h1.2;omega
     ·omega
    have HA:=hid (show BreAnsO (.inr (t,s)) w (.returned (.tuple #[.iface i y,.slice am s.marks.length cm,.int .i64 0,.int .i64 0])) w8 from⟨hfr,_,_,_,rfl,hrn,hma,hnw⟩);clear hR h8 f8 hrn hma hnw hfr hw8 c0 d0 c7 c71 c72 c73 d7 d71 d72 d73;go_wp2;refine leaves_cons (f:=203) (args:= #[.pointer (some ⟨w.heap.size,0,none⟩),.pointer (some ⟨w.heap.size+1,0,none⟩),.pointer (some ⟨w.heap.size+1+1,0,none⟩),.pointer (some ⟨w.heap.size+1+1+1,0,none⟩)]) (by simp) (by simp[go_sem]) ?_;refine(Zho _ _ _ _ _).mono ?_;rintro e u' w9 ⟨rfl,rfl,rfl⟩;simp[Leaves,settle,results,Tryz.results179,go_sem,k0,k1,k2,k3];exact HA.out
theorem Zbj{l X:List UInt8}{k:Nat}(h:sgn l k=X)(hX:X≠[]):k+X.length≤l.length:=by
 have hk:k<l.length:=by
  by_cases hk:k<l.length
  ·exact hk
  ·exact absurd (h.symm.trans (Zkf (by omega))) hX
 have:=(Zkg l k).2;rw[h]at this;omega
theorem ZbQ(ere:Bool)(b:UInt8):1≤(opB ere b).length∧(opB ere b).length≤2∧opB ere b≠[]∧(ere=false→(opB ere b).length=2):=by cases ere<;>simp[opB]
theorem ZcU{l:List UInt8}{k:Nat}{ere:Bool}{b:UInt8}(h:(sgn l k==opB ere b)=true):k+(opB ere b).length≤l.length:=Zbj (eq_of_beq h) (ZbQ ere b).2.2.1
theorem ZkE{l:List UInt8}{ere:Bool}{k:Nat}{m x:Int}{j:Nat}(h:ZlJ l ere k=some (m,x,j)):k<j∧j≤l.length:=by
 unfold ZlJ at h;simp only at h;split at h
 ·cases h
 ·next hc=>
  have h4:=(ZbQ ere 125).1;have key:∀(q:Nat),ahd l q (opB ere 125)≠false→q+(opB ere 125).length≤l.length:=fun q hq=>ahd_le (by simpa using hq) h4;split at h
  ·split at h
   all_goals
    split at h
    ·cases h
    ·next ha=>
     injection h with h;injection h with h1 h;injection h with h2 h3;have:=key _ (fun e=>ha (.inl e));omega
  ·split at h
   ·cases h
   ·next ha=>
    injection h with h;injection h with h1 h;injection h with h2 h3;have:=key _ (fun e=>ha (.inl e));omega
def Zn4(l:List UInt8)(f:RxS→Out Nd):Prop:=∀s,Sane l s→∀t s',f s=.inr (t,s')→Sane l s'∧s.at_≤s'.at_∧t.size+2*s.at_≤2*s'.at_+2
theorem Sane.mk2{l:List UInt8}{s:RxS}{ere:Bool}{b:UInt8}(t:List UInt8)(hs:Sane l s)(h:s.at_+(opB ere b).length≤l.length):Sane l ((if ere then s else s.mark t).go (opB ere b).length):=by
 cases ere
 ·exact hs.markgo t (ZbQ false b).1 h
 ·exact hs.go h
theorem Zbz{ere:Bool}{l:List UInt8}:∀(n:Nat) (s:RxS) (t:Nd) (t':Nd) (s':RxS),Sane l s→Ze8 prg ere l n s t=.inr (t',s')→Sane l s'∧s.at_≤s'.at_∧t'.size+2*s.at_≤2*s'.at_+t.size
 |0,s,t,t',s',hs,h=>by
  rw[Ze8]at h;injection h with h;injection h with h1 h2;subst h1;subst h2;exact⟨hs,Nat.le_refl _,by omega⟩
 |n+1,s,t,t',s',hs,h=>by
  have hz:∀a b,(prg.rep t a b).size=1+t.size:=fun _ _=>rfl;have hat:∀u b,((if ere then s else s.mark u).go (opB ere b).length).at_=s.at_+(opB ere b).length:=fun u b=>by cases ere<;>rfl
  have ho:=ZbQ ere;rw[Ze8]at h;split at h
  ·next e=>
   have hle:s.at_+1≤l.length:=Zbj (eq_of_beq e) (by decide);obtain⟨k1,k2,k3⟩:=Zbz n _ _ _ _ (hs.go (n:=1) hle) h;have k2:s.at_+1≤s'.at_:=k2;have k3:t'.size+2*(s.at_+1)≤2*s'.at_+(1+t.size):=k3;exact⟨k1,by omega,by omega⟩
  ·split at h
   ·next e=>
    obtain⟨k1,k2,k3⟩:=Zbz n _ _ _ _ (hs.mk2 _ (ZcU e)) h;rw[hat]at k2 k3;rw[hz]at k3;have:=(ho 43).1;exact⟨k1,by omega,by omega⟩
   ·split at h
    ·next e=>
     obtain⟨k1,k2,k3⟩:=Zbz n _ _ _ _ (hs.mk2 _ (ZcU e)) h;rw[hat]at k2 k3;rw[hz]at k3;have:=(ho 63).1;exact⟨k1,by omega,by omega⟩
    ·split at h
     ·cases hi:ZlJ l ere (s.at_+(opB ere 123).length)with
      |none=>rw[hi]at h;cases h
      |some y=>
       obtain⟨m,x,j⟩:=y;rw[hi]at h;obtain⟨j1,j2⟩:=ZkE hi;obtain⟨k1,k2,k3⟩:=Zbz n _ _ _ _ (hs.to (n:=j) (by omega) j2) h;have k2:j≤s'.at_:=k2;have k3:t'.size+2*j≤2*s'.at_+(1+t.size):=k3;exact⟨k1,by omega,by omega⟩
     ·injection h with h;injection h with h1 h2;subst h1;subst h2;exact⟨hs,Nat.le_refl _,by omega⟩
section
variable {ere:Bool} {l:List UInt8} {C:Option (RxS→Out Nd)} (hC:∀f,C=some f→Zn4 l f)
theorem ZkF{s s':RxS}{t:Nd}{b:UInt8}(hs:Sane l s)(hl:s.at_+2≤l.length)(h:escD prg ere s b=.inr (t,s')):Sane l s'∧s.at_<s'.at_∧t.size+2*s.at_≤2*s'.at_:=by
 unfold escD at h;split at h
 ·split at h
  ·injection h with h;injection h with h1 h2;subst h1;subst h2;cases ere
   ·exact⟨hs.go hl,by show s.at_<s.at_+2;omega,by show 1+2*s.at_≤2*(s.at_+2);omega⟩
   ·exact⟨hs.markgo _ (by omega) hl,by show s.at_<s.at_+2;omega,by show 1+2*s.at_≤2*(s.at_+2);omega⟩
  ·cases h
 ·split at h
  ·cases h
  ·next c m _=>
   injection h with h;injection h with h1 h2;subst h1;subst h2;cases m
   ·exact⟨hs.go hl,by show s.at_<s.at_+2;omega,by show 1+2*s.at_≤2*(s.at_+2);omega⟩
   ·exact⟨hs.markgo _ (by omega) hl,by show s.at_<s.at_+2;omega,by show 1+2*s.at_≤2*(s.at_+2);omega⟩
include hC
theorem Zhq{s s':RxS}{t:Nd}(hs:Sane l s)(hl:s.at_+(opB ere 40).length≤l.length)(h:Zct prg ere l C s=.inr (t,s')):Sane l s'∧s.at_<s'.at_∧t.size+2*s.at_≤2*s'.at_:=by
 have ho:=ZbQ ere 40;unfold Zct at h;cases C with
 |none=>cases h
 |some f=>
  simp only at h;cases hf:f {s.go (opB ere 40).length with opened:=s.opened+1}with
  |inl e=>rw[hf]at h;cases h
  |inr z=>
   obtain⟨t1,s1⟩:=z;rw[hf]at h;simp only at h;have:=hs.op;have hg:=hs.go hl;obtain⟨k1,k2,k3⟩:=hC f rfl {s.go (opB ere 40).length with opened:=s.opened+1} ⟨hg.le,hg.mr,hg.cl,by show s.opened+1≤s.at_+_;omega⟩ t1 s1 hf;have k2:s.at_+(opB ere 40).length≤s1.at_:=k2;have k3:t1.size+2*(s.at_+(opB ere 40).length)≤2*s1.at_+2:=k3;split at h
   ·next e=>
    have e1:=ZcU e;have e2:(opB ere 40).length=(opB ere 41).length:=by cases ere<;>rfl
    injection h with h;injection h with h1 h2;subst h1;subst h2;refine⟨⟨by show s1.at_+_≤_;omega,Nat.le_trans k1.mr (Nat.le_add_right _ _),?_,Nat.le_trans k1.op (Nat.le_add_right _ _)⟩,by show s.at_<s1.at_+_;omega,?_⟩
    ·show(s1.closed++[_]).length≤s1.at_+_;have:=k1.cl;rw[List.length_append];simp only[List.length_singleton];omega
    ·show 1+t1.size+2*s.at_≤2*(s1.at_+_);omega
   ·cases h
theorem atomD_kept{s s':RxS}{t:Nd}(hs:Sane l s)(h:ZcS prg ere l C s=.inr (t,s')):Sane l s'∧s.at_<s'.at_∧t.size+2*s.at_≤2*s'.at_:=by
 unfold ZcS at h;split at h
 ·next e=>exact Zhq hC hs (ZcU e) h
 ·split at h
  ·cases h
  ·split at h
   ·cases hp:prs l (s.at_+1)with
    |inl z=>rw[hp]at h;cases h
    |inr y=>
     obtain⟨c,k⟩:=y;rw[hp]at h;injection h with h;injection h with h2 h3;subst h2;subst h3;obtain⟨_,p2,p3⟩:=Zke hp;have p2:s.at_+1<k:=p2;have p3:k≤l.length:=p3;exact⟨hs.to (by omega) p3,by show s.at_<k;omega,by show 1+2*s.at_≤2*k;omega⟩
   ·split at h
    ·next e=>
     have hle:s.at_+1≤l.length:=Zbj (eq_of_beq e) (by decide);injection h with h;injection h with h2 h3;subst h2;subst h3;exact⟨hs.go hle,by show s.at_<s.at_+1;omega,by show 1+2*s.at_≤2*(s.at_+1);omega⟩
    ·split at h
     ·cases h
     ·split at h
      ·cases h
      ·next b e=>
       have hle:s.at_+1≤l.length:=Zbj e (by simp);injection h with h;injection h with h2 h3;subst h2;subst h3;exact⟨hs.go hle,by show s.at_<s.at_+1;omega,by show 1+2*s.at_≤2*(s.at_+1);omega⟩
      ·next b r e=>
       have h2:=(Zkg l s.at_).1;have hle:=Zbj e (by simp);simp only[List.length_cons]at hle;obtain⟨k1,k2,k3⟩:=ZkF hs (by omega) h;exact⟨k1,k2,k3⟩
theorem ZdJ{inner:Bool}:∀(n:Nat) (first front:Bool) (s:RxS) (ps:List Nd) (t:Nd) (s':RxS),Sane l s→brD prg ere l C inner n first front s ps=.inr (t,s')→
 Sane l s'∧s.at_≤s'.at_∧t.size+2*s.at_≤2*s'.at_+Nd.sizes ps+1
 |0,first,front,s,ps,t,s',hs,h=>by
  rw[brD]at h;injection h with h;injection h with h1 h2;subst h1;subst h2;have:=Zbx ps;exact⟨hs,Nat.le_refl _,by show(Za2 ps).size+_≤_;omega⟩
 |n+1,first,front,s,ps,t,s',hs,h=>by
  have hj:=Zbx ps;rw[brD]at h;split at h
  ·injection h with h;injection h with h1 h2;subst h1;subst h2;exact⟨hs,Nat.le_refl _,by show(Za2 ps).size+_≤_;omega⟩
  ·split at h
   ·next e=>
    have e1:(sgn l s.at_==[94])=true:=by simp only[Bool.and_eq_true]at e;exact e.1
    have hle:s.at_+1≤l.length:=Zbj (eq_of_beq e1) (by decide);obtain⟨k1,k2,k3⟩:=ZdJ n _ _ _ _ _ _ (hs.go (n:=1) hle) h;have k2:s.at_+1≤s'.at_:=k2;have k3:t.size+2*(s.at_+1)≤2*s'.at_+Nd.sizes (ps++[.start])+1:=k3;rw[Nd.sizes_append]at k3;have:Nd.sizes [Nd.start]=1:=rfl;exact⟨k1,by omega,by omega⟩
   ·split at h
    ·next e=>
     have e1:(sgn l s.at_==[36])=true:=by simp only[Bool.and_eq_true]at e;exact e.1
     have hle:s.at_+1≤l.length:=Zbj (eq_of_beq e1) (by decide);obtain⟨k1,k2,k3⟩:=ZdJ n _ _ _ _ _ _ (hs.go (n:=1) hle) h;have k2:s.at_+1≤s'.at_:=k2;have k3:t.size+2*(s.at_+1)≤2*s'.at_+Nd.sizes (ps++[.fin])+1:=k3;rw[Nd.sizes_append]at k3;have:Nd.sizes [Nd.fin]=1:=rfl;exact⟨k1,by omega,by omega⟩
    ·split at h
     ·cases h
     ·split at h
      ·cases h
      ·next t1 s1 e1=>
       split at h
       ·cases h
       ·next t2 s2 e2=>
        obtain⟨a1,a2,a3⟩:=atomD_kept hC hs e1;obtain⟨b1,b2,b3⟩:=Zbz _ _ _ _ _ a1 e2;obtain⟨k1,k2,k3⟩:=ZdJ n _ _ _ _ _ _ b1 h;rw[Nd.sizes_append]at k3;have:Nd.sizes [t2]=t2.size:=by simp[Nd.sizes]
        exact⟨k1,by omega,by omega⟩
theorem Zbf{inner:Bool}{s s':RxS}{t:Nd}(hs:Sane l s)(h:Zb7 prg ere l C inner s=.inr (t,s')):Sane l s'∧s.at_≤s'.at_∧t.size+2*s.at_≤2*s'.at_+1:=by
 have:=ZdJ hC _ _ _ _ _ _ _ hs h;simpa[Nd.sizes]using this
theorem ZeF{inner:Bool}:∀(n:Nat) (s:RxS) (ts:List Nd) (t:Nd) (s':RxS),Sane l s→Zar prg ere l C inner n s ts=.inr (t,s')→
 Sane l s'∧s.at_≤s'.at_∧t.size+2*s.at_≤2*s'.at_+Nd.sizes ts+1
 |0,s,ts,t,s',hs,h=>by
  rw[Zar]at h;injection h with h;injection h with h1 h2;subst h1;subst h2;have:=Zby ts;exact⟨hs,Nat.le_refl _,by show(Za3 ts).size+_≤_;omega⟩
 |n+1,s,ts,t,s',hs,h=>by
  have hj:=Zby ts;have hat:∀u b,((if ere then s else s.mark u).go (opB ere b).length).at_=s.at_+(opB ere b).length:=fun u b=>by cases ere<;>rfl
  have ho:=ZbQ ere 124;rw[Zar]at h;split at h
  ·next e=>
   split at h
   ·cases h
   ·next t1 s1 e1=>
    obtain⟨a1,a2,a3⟩:=Zbf hC (hs.mk2 _ (ZcU e)) e1;rw[hat]at a2 a3;obtain⟨k1,k2,k3⟩:=ZeF n _ _ _ _ a1 h;rw[Nd.sizes_append]at k3;have:Nd.sizes [t1]=t1.size:=by simp[Nd.sizes]
    exact⟨k1,by omega,by omega⟩
  ·injection h with h;injection h with h1 h2;subst h1;subst h2;exact⟨hs,Nat.le_refl _,by show(Za3 ts).size+_≤_;omega⟩
theorem Zdr{inner:Bool}{s s':RxS}{t:Nd}(hs:Sane l s)(h:choiceD prg ere l C inner s=.inr (t,s')):Sane l s'∧s.at_≤s'.at_∧t.size+2*s.at_≤2*s'.at_+2:=by
 unfold choiceD at h;split at h
 ·cases h
 ·next t1 s1 e1=>
  obtain⟨a1,a2,a3⟩:=Zbf hC hs e1;obtain⟨k1,k2,k3⟩:=ZeF hC _ _ _ _ _ a1 h;have:Nd.sizes [t1]=t1.size:=by simp[Nd.sizes]
  exact⟨k1,by omega,by omega⟩
end
theorem chD_kept{ere:Bool}{l:List UInt8}:∀n,Zn4 l (chD prg ere l n)
 |0=>fun s hs t s' h=>by rw[chD]at h;exact Zdr (fun f hf=>by cases hf) hs h
 |n+1=>fun s hs t s' h=>by rw[chD]at h;exact Zdr (fun f hf=>by injection hf with hf;subst hf;exact chD_kept n) hs h
end Go.Proofs.YtkfddjopbocpkaaGreatDoor
