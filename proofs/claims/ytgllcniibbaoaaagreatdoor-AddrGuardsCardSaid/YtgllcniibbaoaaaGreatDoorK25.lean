/- Lemmas of this claim. -/
import Derived.Test.YtgllcniibbaoaaaGreatDoorK24
set_option linter.all false
set_option maxRecDepth 100000
set_option maxHeartbeats 24000000
namespace Go.Proofs.YtgllcniibbaoaaaGreatDoor
open Go.Lib (hid)
open Go.RowKit
attribute [-go_sem] storeVar loadVar Instr.buildSlice
attribute [local go_sem] Zx3 Zx4 Zx1 Zx2 Zyb Zx9 ZyI ZyG ZyH
theorem ZyZ{o:Oper}{a:Act}{x:Operand}{cs:Array Value}{w W:World}(ho:o.op=.buildSlice 34 1 #[(0,x)])(hx:a.eval x=.agg cs)(h9:cs.size=9)(hW:W.heap.size=w.heap.size):(execOp a.eval o).run Tryz.prog W=.ok (.value (.slice (some ⟨w.heap.size,0,none⟩) 1 1)) (W.alloc (.cells cs 36)):=by
 unfold execOp;simp only[ho,hx,List.map_toArray,List.map_cons,List.map_nil,Sem.run_bind,Zx5 W h9,Result.andThen_ok,Sem.run_pure,hW]
theorem ST.row1{S:Nat→Prop}{w:World}{g:Nat}{t:T}{cs:List Value}{e:TypeId}(h:RT S w t cs)(hg:w.heap[g]? =some (.cells cs.toArray e (0,0)))(hS:¬S g):ST S w [t] (.slice (some ⟨g,0,none⟩) 1 1):=by
 refine .inr ⟨_,_,_,rfl,by simp,?_⟩;rw[RTs];exact⟨hS,lt_heap hg,⟨cs,h,fun j v hj=>by rw[Nat.zero_add];exact cell_at hg (by simpa using hj)⟩,by rw[RTs];trivial⟩
abbrev GL(w:World)(r:Array Value)(n:Nat)(r3 t3:Array Value):List (Nat×Array Value×TypeId):=AL w r++[(n,r3,123),(n+1,t3,36)]
abbrev gB(w:World):List Nat:=[w.heap.size,w.heap.size+1,w.heap.size+2]
theorem Zys(l:List UInt8)(ere:Bool)(s:RxS)(ca:Option Addr)(cc:Nat)(ma:Option Addr)(mc:Nat)(K:Nat)(hK:1≤K)(O:Nat→Prop)(deep:Nat)(C:Option (RxS→Out Nd))(w:World)(hO:∀k,O k→k<w.heap.size)(hs:Sane l s)(hl:l.length≤400)(hg:(sgn l s.at_==opB ere 40)=true)
 (hX:∀f,C=some f→∃z,f {s.go (opB ere 40).length with opened:=s.opened+1}=.inl z)
 (hC:(C=none∧deep=12)∨∃f,C=some f∧deep<12∧ZyY l ere K ((deep:Int)+1) f∧Zn4 l f) (HC:CSO O w s.closed ca cc) (HM:MSO O w s.marks (.slice ma s.marks.length mc)):
 Calls Tryz.prog 120 #[rV l ere s ca cc ma mc 0 0,.int .i64 deep] w (Zy4 K O l ere (Zct prg ere l C s) w):=by
 obtain⟨F,hF⟩:∃F,Zct prg ere l C s=F:=⟨_,rfl⟩;rw[hF];have J:=ZcU hg;have r:=eq_of_beq hg;obtain⟨sg,d⟩:∃sg,opB ere 40=sg:=⟨_,rfl⟩;have b:sg.length=(opB ere 41).length∧1≤sg.length∧sg.length≤2:=by rw[←d];cases ere<;>simp[opB]
 obtain⟨b,a2,a3⟩:=b;have W:=hid b;clear b;unfold Zct at hF;rw[d]at r J hF hX;have m:=hid (fun w'=>Zyf l ere s ca cc ma mc 0 0 s.at_ w' (by omega) (by omega));rw[r]at m;have j:=hid (fun(w':World)=>Zzq l ere s ca cc ma mc 0 0 40 w');rw[d]at j;have L0:=hid (LB.three w (rC l ere s ca cc ma mc 0 0));have HS:=hid hs;have A:=hid HC;have D:=hid HM;have HF:=hid hF;clear hg r hs HC HM hF;unfold rV;go_enter Tryz.func120,Tryz.ntmps120;go_wp2_with(refine L0.out.ld 0 rfl rfl _ rfl rfl Tryz.underlying123 rfl info_dR ?_);refine(m.out _).mono ?_;rintro e w1 ⟨rfl,f1⟩;have L1:=hid (L0.out.on f1);have r1:=rule8 (L1.out.get 0 rfl) w1 (Fr.refl nob w1);clear f1 L0;go_wp2_with(refine L1.out.ld 0 rfl rfl _ rfl rfl Tryz.underlying123 rfl info_dR ?_);refine(j.out _).mono ?_;rintro e w2 ⟨rfl,f2⟩;have L2:=hid (L1.out.on f2);have r2:=rule8 (L2.out.get 0 rfl) w2 (Fr.refl nob w2)
 clear f2 r1 L1;rcases hC with⟨rfl,rfl⟩|⟨f,rfl,hd,H,I⟩
 ·have HF:=hid (show(.inl (4,s.at_):Out Nd)=F from HF.out);go_wp2_with(refine L2.out.ld 0 rfl rfl _ rfl rfl Tryz.underlying123 rfl info_dR ?_);refine(d_fail_lit l ere s ca cc ma mc 4 s.at_ _).mono ?_;rintro e wF ⟨rfl,fF⟩;have LF:=hid (L2.out.on fF);clear fF;go_wp2_with(first|(refine LF.out.sto O 1 rfl rfl _ _ rfl rfl rfl info_dR rfl (one_dR l ere s ca cc ma mc 4 s.at_) ?_;intro w9 l9 z1 z2;have LG:=hid l9;clear l9 z1 z2)|(refine LG.out.sto O 2 rfl rfl _ _ rfl rfl rfl info_dT rfl (one_dT _ _ _ _ _ _ _ _ _ _ _) ?_;intro w9 l9 z1 z2;have LH:=hid l9;clear l9 z1 z2));rw[←HF.out];refine bodyPost_ret (ret_RT rfl rfl rfl (LH.out.get 1 rfl) (LH.out.get 2 rfl) rfl rfl) rfl ?_;exact⟨LH.out.fr,s,ca,cc,ma,mc,_,_,rfl,ZyP O _,by show 1≤K;exact hK,by decide⟩
 ·have hF:=HF.out;simp only at hF;have a0:((deep:Int)==12)=false:=by simp only[beq_eq_false_iff_ne,ne_eq];omega
  have a1:¬(deep:Int)=12:=by omega
  have a5:IntKind.i64.wrap ((s.at_:Int)+sg.length)=(s.at_:Int)+sg.length:=IntWalk.i64_in _ (by omega);have a4:=HS.out.op;obtain⟨s2,a⟩:∃s2,({s.go sg.length with opened:=s.opened+1}:RxS)=s2:=⟨_,rfl⟩;have hA:Sane l s2:=by rw[←a];have h:=HS.out.go J;exact⟨h.le,h.mr,h.cl,by show s.opened+1≤s.at_+sg.length;omega⟩
  have Z:s2.at_=s.at_+sg.length:=by rw[←a];rfl
  have c:s2.closed=s.closed:=by rw[←a];rfl
  have g:s2.marks=s.marks:=by rw[←a];rfl
  rw[a]at hF;obtain⟨zx,u⟩:=hX f rfl;rw[a]at u;have Q:=hid u;clear u hX;have G:=L2.out.cell' O 0 rfl 3 (.int .i64 ((s.opened:Int)+1));have q:=G.1.cell' O 0 rfl 2 (.int .i64 ((s.at_:Int)+sg.length));obtain⟨wD,t⟩:∃wD,(w2.setCell ⟨w.heap.size,3,none⟩ (.int .i64 ((s.opened:Int)+1))).setCell ⟨w.heap.size,2,none⟩ (.int .i64 ((s.at_:Int)+sg.length))=wD:=⟨_,rfl⟩;rw[t]at q;have i:rC l ere {s.go sg.length with opened:=s.opened+1} ca cc ma mc 0 0=rC l ere s2 ca cc ma mc 0 0:=by rw[a]
  have lD:LB w (AL w (rC l ere {s.go sg.length with opened:=s.opened+1} ca cc ma mc 0 0)) wD:=q.1;rw[i]at lD;have P:=hid t;have LD:=hid lD;have B:=hid (H s2 ca cc ma mc (lbB O (gB w)) wD (lD.below hO) hA (by rw[c];exact lD.cso A.out) (by rw[g];exact lD.mso D.out));have Y:=hid hA;have X:=hid I;have V:=hid c;clear G q t i lD H hA I a c g L2 j m D A;go_wp2_with(first|(with_reducible rw[P.out])|(refine LD.out.ld 0 rfl rfl _ rfl rfl Tryz.underlying123 rfl info_dR ?_));refine B.out.mono ?_;rintro e w4 ⟨f4,h4⟩;obtain⟨R,hR⟩:∃R,f s2=R:=⟨_,rfl⟩;rw[hR]at h4 hF;have HR:=hid hR;have L4:=hid (LD.out.on f4);clear hR f4 r2 B;cases R with
  |inl z=>
   obtain⟨z,p⟩:=z;obtain⟨s',n,o,v,x,t',E,rfl,h5,h6,h7⟩:=h4;have M:=hid (show(.inl (z,p):Out Nd)=F from hF);have h9:=h5.length;have U:¬z=0:=h7;have a6:(z==0)=false:=by simpa using h7
   have a7:(z !=0)=true:=by simpa using h7
   have S:=hid (show(Tryz.prog.info? 36).map (·.size)=some E.toArray.size by rw[info_dT];simp[h9]);have L:=hid (Zx0 h5.cell1);have N:=hid (show zT9.size=E.toArray.size by simp[h9]);have L5:Hid (LB w (GL w (rC l ere s2 ca cc ma mc 0 0) w4.heap.size zR zT9) _):=hid ((L4.out.push zR 123 w4.heap.size rfl).push zT9 36 (w4.heap.size+1) (by simp));clear hF h5 h6 h7 LD L4;unfold rV;go_wp2_with(first|(refine L5.out.sto O 3 rfl rfl _ _ rfl rfl rfl info_dR rfl (one_dR l ere s' n o v x z p) ?_;intro w9 l9 z1 z2;have L6:=hid l9;clear l9 z1 z2)|(refine L6.out.sto O 4 rfl rfl _ _ rfl rfl rfl S.out N.out L.out ?_;intro w7 l9 z1 z2;have L7:=hid l9;have r7:=rule8 (L7.out.get 3 rfl);clear l9 z1 z2));refine region_fr 9 (by kernel_rfl) (by kernel_rfl) ?_;simp only[List.take_succ_cons,List.take_zero,List.drop_succ_cons,List.drop_zero]
   repeat(quiet_step (fail))
   refine wpQuiet_nil ?_;intro w8 f8;have L8:=hid (L7.out.on f8);have r8:=rule8 (L8.out.get 3 rfl) w8 (Fr.refl nob w8);clear f8 r7;go_wp2_with(first|(refine L8.out.ld 3 rfl rfl _ rfl rfl Tryz.underlying123 rfl info_dR ?_)|(refine L8.out.sto O 1 rfl rfl _ _ rfl rfl rfl info_dR rfl (one_dR l ere s' n o v x z p) ?_;intro w9 l9 z1 z2;have L9:=hid l9;clear l9 z1 z2)|(refine L9.out.sto O 2 rfl rfl _ _ rfl rfl rfl info_dT rfl (one_dT _ _ _ _ _ _ _ _ _ _ _) ?_;intro w9 l9 z1 z2;have LA:=hid l9;clear l9 z1 z2));rw[←M.out];refine bodyPost_ret (ret_RT rfl rfl rfl (LA.out.get 1 rfl) (LA.out.get 2 rfl) rfl rfl) rfl ?_;exact⟨LA.out.fr,s',n,o,v,x,_,_,rfl,ZyP O _,by show 1≤K;exact hK,U⟩
  |inr y=>
   cases(HR.out.symm.trans Q.out)
end Go.Proofs.YtgllcniibbaoaaaGreatDoor
