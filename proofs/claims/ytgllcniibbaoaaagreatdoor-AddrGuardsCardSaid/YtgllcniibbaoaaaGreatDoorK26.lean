/- Lemmas of this claim. -/
import Derived.Test.YtgllcniibbaoaaaGreatDoorK25
set_option linter.all false
set_option maxRecDepth 100000
set_option maxHeartbeats 24000000
namespace Go.Proofs.YtgllcniibbaoaaaGreatDoor
open Go.Lib (hid)
open Go.RowKit
attribute [-go_sem] storeVar loadVar Instr.buildSlice
attribute [local go_sem] Zx3 Zx4 Zx1 Zx2 Zyb Zx9 ZyI ZyG ZyH
theorem Zy0(l:List UInt8)(ere:Bool)(s:RxS)(ca:Option Addr)(cc:Nat)(ma:Option Addr)(mc:Nat)(K:Nat)(hK:1≤K)(O:Nat→Prop)(deep:Nat)(C:Option (RxS→Out Nd))(w:World)(hO:∀k,O k→k<w.heap.size)(hs:Sane l s)(hl:l.length≤400)(hg:(sgn l s.at_==opB ere 40)=true)
 (hN:C≠none) (hX:∀f,C=some f→∃t s',f {s.go (opB ere 40).length with opened:=s.opened+1}=.inr (t,s')∧(sgn l s'.at_==opB ere 41)=false)
 (hC:(C=none∧deep=12)∨∃f,C=some f∧deep<12∧ZyY l ere K ((deep:Int)+1) f∧Zn4 l f) (HC:CSO O w s.closed ca cc) (HM:MSO O w s.marks (.slice ma s.marks.length mc)):
 Calls Tryz.prog 120 #[rV l ere s ca cc ma mc 0 0,.int .i64 deep] w (Zy4 K O l ere (Zct prg ere l C s) w):=by
 obtain⟨F,hF⟩:∃F,Zct prg ere l C s=F:=⟨_,rfl⟩;rw[hF];have a8:=ZcU hg;have D:=eq_of_beq hg;obtain⟨sg,p⟩:∃sg,opB ere 40=sg:=⟨_,rfl⟩;have i:sg.length=(opB ere 41).length∧1≤sg.length∧sg.length≤2:=by rw[←p];cases ere<;>simp[opB]
 obtain⟨i,c5,c6⟩:=i;have b6:=hid i;clear i;unfold Zct at hF;rw[p]at D a8 hF hX;have m:=hid (fun w'=>Zyf l ere s ca cc ma mc 0 0 s.at_ w' (by omega) (by omega));rw[D]at m;have n:=hid (fun(w':World)=>Zzq l ere s ca cc ma mc 0 0 40 w');rw[p]at n;have L0:=hid (LB.three w (rC l ere s ca cc ma mc 0 0));have HS:=hid hs;have I:=hid HC;have S:=hid HM;have HF:=hid hF;clear hg D hs HC HM hF;unfold rV;go_enter Tryz.func120,Tryz.ntmps120;go_wp2_with(refine L0.out.ld 0 rfl rfl _ rfl rfl Tryz.underlying123 rfl info_dR ?_);refine(m.out _).mono ?_;rintro e w1 ⟨rfl,f1⟩;have L1:=hid (L0.out.on f1);have r1:=rule8 (L1.out.get 0 rfl) w1 (Fr.refl nob w1);clear f1 L0;go_wp2_with(refine L1.out.ld 0 rfl rfl _ rfl rfl Tryz.underlying123 rfl info_dR ?_);refine(n.out _).mono ?_;rintro e w2 ⟨rfl,f2⟩;have L2:=hid (L1.out.on f2);have r2:=rule8 (L2.out.get 0 rfl) w2 (Fr.refl nob w2)
 clear f2 r1 L1;rcases hC with⟨rfl,rfl⟩|⟨f,rfl,hd,a6,a7⟩
 ·exact(hN rfl).elim
 ·have hF:=HF.out;simp only at hF;have c3:((deep:Int)==12)=false:=by simp only[beq_eq_false_iff_ne,ne_eq];omega
  have c4:¬(deep:Int)=12:=by omega
  have c8:IntKind.i64.wrap ((s.at_:Int)+sg.length)=(s.at_:Int)+sg.length:=IntWalk.i64_in _ (by omega);have c7:=HS.out.op;obtain⟨s2,a⟩:∃s2,({s.go sg.length with opened:=s.opened+1}:RxS)=s2:=⟨_,rfl⟩;have hA:Sane l s2:=by rw[←a];have h:=HS.out.go a8;exact⟨h.le,h.mr,h.cl,by show s.opened+1≤s.at_+sg.length;omega⟩
  have c2:s2.at_=s.at_+sg.length:=by rw[←a];rfl
  have o:s2.closed=s.closed:=by rw[←a];rfl
  have r:s2.marks=s.marks:=by rw[←a];rfl
  rw[a]at hF;obtain⟨tx,sx,G,a9⟩:=hX f rfl;rw[a]at G;have a3:=hid G;have b3:=hid a9;clear G a9 hX;have a5:=L2.out.cell' O 0 rfl 3 (.int .i64 ((s.opened:Int)+1));have A:=a5.1.cell' O 0 rfl 2 (.int .i64 ((s.at_:Int)+sg.length));obtain⟨wD,E⟩:∃wD,(w2.setCell ⟨w.heap.size,3,none⟩ (.int .i64 ((s.opened:Int)+1))).setCell ⟨w.heap.size,2,none⟩ (.int .i64 ((s.at_:Int)+sg.length))=wD:=⟨_,rfl⟩;rw[E]at A;have u:rC l ere {s.go sg.length with opened:=s.opened+1} ca cc ma mc 0 0=rC l ere s2 ca cc ma mc 0 0:=by rw[a]
  have lD:LB w (AL w (rC l ere {s.go sg.length with opened:=s.opened+1} ca cc ma mc 0 0)) wD:=A.1;rw[u]at lD;have b2:=hid E;have LD:=hid lD;have P:=hid (a6 s2 ca cc ma mc (lbB O (gB w)) wD (lD.below hO) hA (by rw[o];exact lD.cso I.out) (by rw[r];exact lD.mso S.out));have Y:=hid hA;have Q:=hid a7;have b5:=hid o;clear a5 A E u lD a6 hA a7 a o r L2 n m S I;go_wp2_with(first|(with_reducible rw[b2.out])|(refine LD.out.ld 0 rfl rfl _ rfl rfl Tryz.underlying123 rfl info_dR ?_));refine P.out.mono ?_;rintro e w4 ⟨f4,h4⟩;obtain⟨R,hR⟩:∃R,f s2=R:=⟨_,rfl⟩;rw[hR]at h4 hF;have HR:=hid hR;have L4:=hid (LD.out.on f4);clear hR f4 r2 P;cases R with
  |inl z=>
   cases(HR.out.symm.trans a3.out)
  |inr y=>
   obtain⟨t',s'⟩:=y;obtain⟨b,c,d,g,a4,rfl,h5,h6,h7⟩:=h4;have H:=HR.out.symm.trans a3.out;injection H with H;injection H with hx4 hx5;subst hx4;subst hx5;obtain⟨B,b7,_⟩:=Q.out s2 Y.out t' s' HR.out;simp only at hF;have h9:=h5.length;have j:∀k,k<w4.heap.size→lbB O [w.heap.size,w.heap.size+1,w.heap.size+2,w4.heap.size,w4.heap.size+1] k→lbB O (gB w) k:=by
    rintro k hk (x|x)
    ·exact .inl x
    ·simp only[List.mem_cons,List.not_mem_nil,or_false]at x;refine .inr ?_;simp only[gB,List.mem_cons,List.not_mem_nil,or_false];omega
   have fA:Fr nob w4 ((w4.alloc (.cells zR 123)).alloc (.cells zT9 36)):=((Fr.refl nob w4).alloc _).alloc _;have b4:=hid (show(Tryz.prog.info? 36).map (·.size)=some a4.toArray.size by rw[info_dT];simp[h9]);have b0:=hid (Zx0 h5.cell1);have b1:=hid (show zT9.size=a4.toArray.size by simp[h9]);have L5:Hid (LB w (GL w (rC l ere s2 ca cc ma mc 0 0) w4.heap.size zR zT9) _):=hid ((L4.out.push zR 123 w4.heap.size rfl).push zT9 36 (w4.heap.size+1) (by simp));have Z:=hid ((h5.wide j).on fA);have J:=hid ((h6.wide j).on fA);have U:=hid ((h7.wide j).on fA);have m:=hid (fun w'=>Zyf l ere s' b c d g 0 0 s'.at_ w' (by omega) (by have:=B.le;omega));have n:=hid (fun(w':World)=>Zzq l ere s' b c d g 0 0 41 w');have c0:=hid B;have v:=hid hF;clear h5 h6 h7 HF hF B fA j LD L4 Q Y HR;obtain⟨q,hq⟩:∃q,sgn l s'.at_=q:=⟨_,rfl⟩;rw[hq]at m v;have HQ:=hid hq
   clear hq;unfold rV at *;go_wp2_with(first|(refine L5.out.sto O 3 rfl rfl _ _ rfl rfl rfl info_dR rfl (one_dR l ere s' b c d g 0 0) ?_;intro w9 l9 z1 z2;have L6:=hid l9;have a0:=hid (Z.out.step z2 (by simp));have L:=hid (J.out.step z1);have V:=hid (U.out.step z1);clear l9 z1 z2)|(refine L6.out.sto O 4 rfl rfl _ _ rfl rfl rfl b4.out b1.out b0.out ?_;intro w7 l9 z1 z2;have L7:=hid l9;have r7:=rule8 (L7.out.get 3 rfl);have a1:=hid (a0.out.step z2 (by simp));have M:=hid (L.out.step z1);have W:=hid (V.out.step z1);clear l9 z1 z2));refine region_fr 9 (by kernel_rfl) (by kernel_rfl) ?_;simp only[List.take_succ_cons,List.take_zero,List.drop_succ_cons,List.drop_zero]
   repeat(first|(refine L7.out.qld 3 rfl rfl _ rfl rfl Tryz.underlying123 rfl info_dR ?_)|(quiet_step (with_reducible exact calls_fr (m.out _))))
   refine wpQuiet_nil ?_;intro w8 f8;have L8:=hid (L7.out.on f8);have a2:=hid (a1.out.on f8);have N:=hid (M.out.on f8);have X:=hid (W.out.on f8);clear f8 r7 L5 L6 L7 Z J U a0 L V a1 M W;go_wp2_with fail;refine(n.out _).mono ?_;rintro e w9 ⟨rfl,f9⟩;have L9:=hid (L8.out.on f9);have c1:=hid (a2.out.on f9);have b8:=hid (N.out.on f9);have b9:=hid (X.out.on f9);have r9:=rule8 (L9.out.get 3 rfl) w9 (Fr.refl nob w9);clear f9 L8 a2 N X;rcases Bool.eq_false_or_eq_true (q==opB ere 41)with e5|e5
   ·exfalso
    have h:=b3.out;rw[HQ.out]at h;rw[h]at e5;cases e5
   ·have HF:=hid (show(.inl (8,s.at_):Out Nd)=F by rw[←v.out,if_neg (by rw[e5];decide)]);clear v;go_wp2_with(refine L9.out.ld 3 rfl rfl _ rfl rfl Tryz.underlying123 rfl info_dR ?_);refine(d_fail_lit l ere s' b c d g 8 s.at_ _).mono ?_;rintro e wF ⟨rfl,fF⟩;have LF:=hid (L9.out.on fF);clear fF r9;go_wp2_with(first|(refine LF.out.sto O 3 rfl rfl _ _ rfl rfl rfl info_dR rfl (one_dR l ere s' b c d g 8 s.at_) ?_;intro wG l9 z1 z2;have LG:=hid l9;have rG:=rule8 (LG.out.get 3 rfl) wG (Fr.refl nob wG);clear l9 z1 z2)|(refine LG.out.ld 3 rfl rfl _ rfl rfl Tryz.underlying123 rfl info_dR ?_)|(refine LG.out.sto O 1 rfl rfl _ _ rfl rfl rfl info_dR rfl (one_dR l ere s' b c d g 8 s.at_) ?_;intro w9 l9 z1 z2;have LH:=hid l9;clear l9 z1 z2)|(refine LH.out.sto O 2 rfl rfl _ _ rfl rfl rfl info_dT rfl (one_dT _ _ _ _ _ _ _ _ _ _ _) ?_;intro w9 l9 z1 z2;have LI:=hid l9;clear l9 z1 z2))
    rw[←HF.out];refine bodyPost_ret (ret_RT rfl rfl rfl (LI.out.get 1 rfl) (LI.out.get 2 rfl) rfl rfl) rfl ?_;exact⟨LI.out.fr,s',b,c,d,g,_,_,rfl,ZyP O _,by show 1≤K;exact hK,by decide⟩
end Go.Proofs.YtgllcniibbaoaaaGreatDoor
