/- Lemmas of this claim. -/
import Derived.Test.YtkfddjopbocpkaaGreatDoorM29
set_option linter.unusedVariables false
set_option linter.unusedSimpArgs false
set_option maxRecDepth 100000
set_option maxHeartbeats 4000000
namespace Go.Proofs.YtkfddjopbocpkaaGreatDoor
open Go.Lib (hid)
open Go.RowKit
def Zqe(l:List UInt8):ZpO→ZqB
 | .inl z=>.inl z
 | .inr (s,ms)=>match Za8 s with
   |some z=>.inl z
   |none=>.inr (⟨lineL l==[35,110],s.cmds⟩,ms)
theorem Zm3{x:Bool}{l:List UInt8}(h:l.length≤4000):ZdO x l=Zqe l (Zdm x l 101 (Zaq l (l.length+1) 0) RdS.zero []):=by
 unfold ZdO Zqe;rw[if_neg (by omega)];cases Zdm x l 101 (Zaq l (l.length+1) 0) RdS.zero []<;>rfl
structure LpS(l:List UInt8)(x:Bool)(F:ZpO)(z b:Nat)(q:Bool)(W1:World)(n k:Nat)(s:RdS)(ms:List (Nat×List UInt8))(S:Nat→Prop)(mv:Value)(wr:World):Prop where
 le:k≤l.length
 fu:n+s.cmds.length=101
 rd:RdW l s
 eq:Zdm x l n k s ms=F
 sc:Scd b q s S (fun j=>j=z∨mv.ownBlock=some j) wr
 ma:OwM wr ms mv
 mo:∀j,mv.ownBlock=some j→¬S j∧W1.heap.size≤j
 so:∀j,S j→W1.heap.size≤j∧j<wr.heap.size
 ml:ms.length≤s.cmds.length*20000
 fr:Fr nob W1 wr
theorem Sc.loud{b m:Nat}{q:Bool}{s:RdS}{S O:Nat→Prop}{cv ov:Value}{w:World}(h:Sc b m q s S O cv ov w)(p:Bool):Sc b m p s S O cv ov (w.setCell ⟨b,0,none⟩ (.bool p)):=by
 have hst:=(Fr.refl (fun k=>k=b) w).setCell (p:=⟨b,0,none⟩) (fun _=>rfl) (.bool p);exact⟨by have:=Za h.blk 0 (.bool p);simpa using this,h.cm.keep hst (fun k hk=>.inl (hk▸h.me)) (fun k hk e=>(h.nc k hk).1 e) (fun _ _ x=>x),h.mp.fr hst (fun e=>h.bm e.symm),ownsRow_fr h.op hst (fun k hk e=>(h.no k hk).1 e),h.nc,h.no,h.ne,h.bm,h.me,h.mm⟩
theorem Sc.marks{b m:Nat}{q:Bool}{s:RdS}{S O O' X:Nat→Prop}{cv ov:Value}{w w':World}(h:Sc b m q s S O cv ov w)(f:Fr X w w')(hX:∀k,X k→O k∧¬S k)(hO:∀k,k<w.heap.size→O' k→O k):Sc b m q s S O' cv ov w':=
 ⟨f.heap h.blk (fun e=>(hX _ e).2 h.me),h.cm.keep f (fun k hk=>.inr (hX k hk).1) (fun k hk e=>(hX k e).2 (h.nc k hk).2.2) (fun k hk e=>e.elim .inl (fun e=>.inr (hO k hk e))),h.mp.fr f (fun e=>(hX _ e).2 h.mm),ownsRow_fr h.op f (fun k hk e=>(hX k e).2 (h.no k hk).2.2),h.nc,h.no,h.ne,h.bm,h.me,h.mm⟩
theorem ZeS{w:World}{b j:Nat}{p:Bool}(hc:(w.cell? ⟨b,j,none⟩).isSome=true)(hf:w.frozen? ⟨b,j,none⟩=false):
 Sem.run Tryz.prog (storeVar 4 ⟨b,j,none⟩ (.bool p)) w=.ok () (w.setCell ⟨b,j,none⟩ (.bool p)):=by
 obtain⟨old,ho⟩:=Option.isSome_iff_exists.1 hc;have hc1:(Value.bool p).cells= #[.bool p]:=rfl;have hi:(Tryz.prog.info? 4).map (·.size)=some 1:=by kernel_rfl
 cases hq:Tryz.prog.info? 4 with
 |none=>rw[hq]at hi;cases hi
 |some q=>
  have hs:q.size=1:=by simpa[hq]using hi
  simp[storeVar,sizeOf,typeInfo,hq,hc1,hs,go_sem,ho,hf]
theorem Zp2:(Tryz.prog.info? 50).map (·.size)=some 2:=by kernel_rfl
theorem info_S2(a b:Value):(Tryz.prog.info? 50).map (·.size)=some (#[a,b]:Array Value).size:=Zp2
theorem ZiR(q:Bool)(a:Option Addr)(n c:Nat):(#[.bool q,.slice a n c]:Array Value).all (·.oneCell')=true:=by simp[Value.oneCell']
theorem ZoK{w:World}{b:Nat}{a0 a1:Value}{T:TypeId}(h:w.heap[b]? =some (.cells #[a0,a1] T (0,0)))(v0 v1:Value):(w.setRow b #[v0,v1]).heap[b]? =some (.cells #[v0,v1] T (0,0))∧True∧True:=
 ⟨setRow_heap _ _ _ _ _ _ h,trivial,trivial⟩
attribute [-go_sem] storeVar
attribute [local go_sem] ZeS
theorem ZlC(l:List UInt8)(x:Bool)(w:World)(hl:l.length≤4000)(hE:Env w):
 Calls Tryz.prog 18 #[.string ⟨l.toArray⟩,.bool x] w (ZlB (ZdO x l) w):=by
 obtain⟨R,hR⟩:∃R,ZdO x l=R:=⟨_,rfl⟩;rw[hR];rw[Zm3 hl]at hR;obtain⟨F,hF⟩:∃F,Zdm x l 101 (Zaq l (l.length+1) 0) RdS.zero []=F:=⟨_,rfl⟩;rw[hF]at hR;obtain⟨w1,hw1⟩:∃w1,w1=w.alloc (.cells #[.bool false,.slice none 0 0] 50):=⟨_,rfl⟩;have hz1:w1.heap[w.heap.size]? =some (.cells #[.bool false,.slice none 0 0] 50 (0,0)):=by rw[hw1];exact newAt _ _
 have f1:Fr nob w w1:=by rw[hw1];exact(Fr.refl _ _).alloc _
 have hs1:w1.heap.size=w.heap.size+1:=by rw[hw1];simp
 obtain⟨w2,hw2⟩:∃w2,w2=w1.alloc (.map #[] 0):=⟨_,rfl⟩;have hm2:w2.heap[w1.heap.size]? =some (.map #[] 0):=by rw[hw2];exact newAt _ _
 have f2:Fr nob w1 w2:=by rw[hw2];exact(Fr.refl _ _).alloc _
 have hs2:w2.heap.size=w1.heap.size+1:=by rw[hw2];simp
 obtain⟨w3,hw3⟩:∃w3,w3=w2.alloc (.cells #[.bool false,.slice none 0 0,.map (some w1.heap.size),.slice none 0 0] 88):=⟨_,rfl⟩;have hb3:w3.heap[w2.heap.size]? =some (.cells #[.bool false,.slice none 0 0,.map (some w1.heap.size),.slice none 0 0] 88 (0,0)):=by rw[hw3];exact newAt _ _
 have f3:Fr nob w2 w3:=by rw[hw3];exact(Fr.refl _ _).alloc _
 have hs3:w3.heap.size=w2.heap.size+1:=by rw[hw3];simp
 have hsc:Sc w2.heap.size w1.heap.size false RdS.zero (fun k=>k=w1.heap.size∨k=w2.heap.size) (fun k=>k=w.heap.size∨(Value.slice none 0 0).ownBlock=some k) (.slice none 0 0) (.slice none 0 0) w3:=
  ⟨hb3,Zdw.nil _ _,ZiS.new (f3.heap hm2 (fun x=>x)),World.ownsRow_nil _ _ _ _,fun _ h=>(by cases h),fun _ h=>(by cases h),fun _ h=>(by cases h),(by omega),Or.inr rfl,Or.inl rfl⟩
 have HC:=hid (fun(w':World) (f:Fr nob w w')=>Zlx l w' (by omega) (hE.on f));have HSK:=hid (fun(k:Nat) (hk:k≤l.length) (w':World) (f:Fr nob w w')=>Zm0 l k w' (by omega) hk (hE.on f));have HCM:=hid (fun(O0:Nat→Prop) (p:Nat) (hp:p≤l.length) (w':World) (f:Fr nob w w') (h0:∀k,O0 k→k<w'.heap.size)=>Zlr O0 l p x w' (by omega) hp (hE.on f) h0);have HW1:=hid hw1;have HW2:=hid hw2;have HW3:=hid hw3;have HZ1:=hid hz1;have F1:=hid f1;have F3:=hid (f1.trans' (f2.trans' f3));have F13:=hid (f2.trans' f3);have HSC:=hid hsc;have HS1:=hid hs1;have HS2:=hid hs2;have HS3:=hid hs3;have HR:=hid hR;have HF:=hid hF;have hlI:(l.length:Int)≤4000:=by omega
 obtain⟨ll,hll⟩:∃ll,lineL l=ll:=⟨_,rfl⟩;have HLL:=hid hll;have HL0:=hid hll;clear hw1 hw2 hw3 hz1 f1 f2 f3 hm2 hb3 hsc hs1 hs2 hs3 hR hF hE;have HC3:=HC.out w3 F3.out;rw[hll]at HC3;have HC4:=hid HC3;clear HC3 hll;have hmk:=fun W=> @run_makeMap Tryz.prog 85 W;go_enter Tryz.func18,Tryz.ntmps18;go_wp2_with(first|rw[←HW1.out]|rw[←HW2.out]|rw[←HW3.out]);with_reducible refine HC4.out.mono ?_
 rintro e w4 ⟨ca,cb,rfl,f4⟩;have hsc4:=HSC.out.on f4;have r4:=Zl hsc4.blk;have F4:=hid f4;have HSC4:=hid hsc4;clear f4 hsc4;obtain⟨qt,hqt⟩:∃qt,(ll==[35,110])=qt:=⟨_,rfl⟩;obtain⟨w5,hw5⟩:∃w5,w5=w4.setCell ⟨w2.heap.size,0,none⟩ (.bool qt):=⟨_,rfl⟩;have hsc5:=HSC4.out.loud qt;have f45:Fr (fun k=>k=w2.heap.size) w4 w5:=by rw[hw5];exact(Fr.refl (fun k=>k=w2.heap.size) w4).setCell (p:=⟨w2.heap.size,0,none⟩) (fun _=>rfl) _
 rw[←hw5]at hsc5;have f15:Fr nob w1 w5:=(F13.out.trans' F4.out).trans f45 (fun i hi e=>by have e:i=w2.heap.size:=e;have:=HS2.out;omega);have HF5:=hid f15;have HSC5:=hid hsc5;have HW5:=hid hw5;have HQT:=hid hqt;have HS5:=hid (HSK.out 0 (Nat.zero_le _) w5 (F1.out.trans' f15));clear f45 f15 hsc5 hw5;go_wp2_with(first|rw[hqt]|rw[←HW5.out]);refine HS5.out.mono ?_;rintro e w6 ⟨rfl,f6⟩;have HF6:=hid f6;clear f6 r4;go_wp2_with fail
 go_loopg [12,13] 101 (fun n v12 v13 wr=>∃(k:Nat) (s:RdS) (ms:List (Nat×List UInt8)) (S:Nat→Prop),v13=.int .i64 (k:Nat)∧LpS l x F w.heap.size w2.heap.size qt w1 n k s ms S v12 wr)
 case atStart=>
  refine⟨_,RdS.zero,[],_,rfl,(Zeh (l:=l) _ _ (Nat.zero_le _)).2,rfl,RdW.zero l,HF.out,⟨_,_,_,HSC5.out.on HF6.out⟩,World.ownsRow_nil _ _ _ _,fun _ h=>(by cases h),?_,Nat.zero_le _,HF5.out.trans' HF6.out⟩;have a1:=HS2.out;have a2:=HS3.out;have a3:=(HSC4.out.blk);have a4:=lt_heap a3;have a5:=HF6.out.size;have a6:=lt_heap HSC5.out.blk;rintro j (rfl|rfl)
  ·exact⟨Nat.le_refl _,by omega⟩
  ·exact⟨by omega,by omega⟩
 case round=>
  clear HC4 HSC HSC4 HSC5 HS5 HF6 HW1 HW2 HW3 HW5 HC F3 F13 HLL F4 HF5 HF;obtain⟨k,s,ms,S,rfl,h⟩:=hrel;have hle:=h.le;have hfu:=h.fu;have hrd:=h.rd;have hcm:=hrd.cm;have hop:=hrd.op;have hla:=hrd.la;have hz:=h.fr.heap HZ1.out (fun e=>e);have fw:=F1.out.trans' h.fr;obtain⟨m,cv,ov,hsc⟩:=h.sc;have rr:=Zl hsc.blk;obtain⟨va,vc,rfl⟩:=hsc.cm.shape;have H:=hid h;have HSC:=hid hsc;have HZ:=hid hz;have HW:=hid fw;have HRD:=hid hrd;clear hsc hz fw hrd;by_cases hk:l.length≤k
  ·have hke:k=l.length:=by omega
   have HFE:=hid (show F=.inr (s,ms) by rw[←h.eq,scrL_end hk]);have HWH:=hid (ZlA w2.heap.size qt s S _ wr (by omega) hop h.sc);have hnI:¬(k:Int)<l.length:=by omega
   have HRR:=HR.out;rw[HFE.out]at HRR;clear h hk;cases hwr:Za8 s with
   |some zp=>
    obtain⟨z,p⟩:=zp;have hz0:¬z=0:=whole_err hwr;have hz1:(z==0)=false:=by simpa using hz0
    have hz2:(z !=0)=true:=by simpa using hz0
    have HE:=hid (show R=.inl (z,p) by rw[←HRR];unfold Zqe;simp only[hwr]);have HWR:=hid hwr;clear HRR hwr;go_wp2_with fail;refine HWH.out.mono ?_;rintro e w7 ⟨he,f7⟩;unfold ZaX at he;rw[HWR.out]at he;subst he;have HZ7:=hid (f7.heap HZ.out (fun x=>x));have F7:=hid (HW.out.trans' f7);clear f7 rr;go_wp2_with(refine wpList_store_row rfl 50 _ _ rfl w.heap.size #[.bool false,.slice none 0 0] rfl rfl 50 _ HZ7.out (by kernel_rfl) rfl (by kernel_rfl) ?_);rw[setRow_self _ _ _ _ _ HZ7.out];(try simp only[Exit.inBlock,Exit.then]);exact bodyPost_ret (ZaZ rfl rfl HZ7.out) rfl ⟨F7.out,by rw[HE.out];rfl⟩
   |none=>
    have HE:=hid (show R=.inr (⟨qt,s.cmds⟩,ms) by rw[←HRR];unfold Zqe;simp only[hwr];rw[←HQT.out,HL0.out]);have HWR:=hid hwr;clear HRR hwr;go_wp2_with fail;refine HWH.out.mono ?_;rintro e w7 ⟨he,f7⟩;unfold ZaX at he;rw[HWR.out]at he;subst he;have r7:=Zl (f7.heap HSC.out.blk (fun x=>x));have hz7:=f7.heap HZ.out (fun x=>x);obtain⟨k8,_,_⟩:=ZoK hz7 (.bool qt) (.slice va s.cmds.length vc);obtain⟨w8,hw8⟩:∃w8,w8=w7.setRow w.heap.size #[.bool qt,.slice va s.cmds.length vc]:=⟨_,rfl⟩;have f8:Fr (fun k=>k=w.heap.size) w7 w8:=by rw[hw8];exact ZN _ _ _
    rw[←hw8]at k8;have HW8:=hid hw8;have HZ7:=hid hz7;have K8:=hid k8;have F78:=hid f8;have F7:=hid f7;clear f7 rr hw8 hz7 k8 f8;go_wp2_with(first|rw[←HW8.out]|refine wpList_store_row rfl 50 _ _ rfl w.heap.size #[.bool qt,.slice va s.cmds.length vc] rfl rfl 50 _ HZ7.out (info_S2 _ _) rfl (ZiR _ _ _ _) ?_);(try simp only[Exit.inBlock,Exit.then]);refine bodyPost_ret (ZaZ rfl rfl K8.out) rfl ⟨(HW.out.trans' F7.out).trans F78.out (fun i hi e=>by have e:i=w.heap.size:=e;omega),?_⟩;rw[HE.out];have a1:=HS1.out;refine⟨_,_,rfl,?_,?_⟩
    ·exact(HSC.out.cm.on F7.out).keep F78.out (fun k hk=>.inr (.inl hk)) (fun k hk e=>by have e:k=w.heap.size:=e;have:=(H.out.so k (HSC.out.nc k hk).2.2).1;omega) (fun _ _ e=>e.elim)
    ·exact ownsRow_fr (ownsRow_fr H.out.ma F7.out (fun _ _ x=>x)) F78.out (fun k hk e=>by have e:k=w.heap.size:=e;have:=(H.out.mo k hk).2;omega)
  ·have hnI:(k:Int)<l.length:=by omega
   have hbd:∀j,SO S (fun j=>j=w.heap.size∨u12.ownBlock=some j) j→j<wr.heap.size:=fun j hj=>by
    rcases hj with hj|rfl|hj
    ·exact(h.so j hj).2
    ·exact lt_heap HZ.out
    ·exact own_lt h.ma j hj
   obtain⟨gm,rfl⟩:∃gm,gk=gm+1:=⟨gk-1,by omega⟩;have hEQ:=h.eq;by_cases h100:s.cmds.length=100
   ·have HE:=hid (show R=.inl (3,k) by rw[←HR.out,←hEQ,Zel hk h100];rfl);have t1:((s.cmds.length:Int)==100)=true:=by simp;omega
    clear h hk h100 hEQ;go_wp2_with(refine wpList_store_row rfl 50 _ _ rfl w.heap.size #[.bool false,.slice none 0 0] rfl rfl 50 _ HZ.out (by kernel_rfl) rfl (by kernel_rfl) ?_);rw[setRow_self _ _ _ _ _ HZ.out];(try simp only[Exit.inBlock,Exit.then]);exact bodyPost_ret (ZaZ rfl rfl HZ.out) rfl ⟨HW.out,by rw[HE.out];rfl⟩
   ·have t1:((s.cmds.length:Int)==100)=false:=by simp;omega
    have hc:=HCM.out _ k hle wr HW.out hbd;have HBD:=hid hbd;cases hcd:Zeu x l k with
    |inl zp=>
     obtain⟨z,p⟩:=zp;have hz0:¬z=0:=cmdD_bad hcd;have hz1:(z==0)=false:=by simpa using hz0
     have hz2:(z !=0)=true:=by simpa using hz0
     have HE:=hid (show R=.inl (z,p) by rw[←HR.out,←hEQ,Zfv hk h100 hcd];rfl);rw[hcd]at hc;have HC:=hid hc;clear h hk h100 hEQ hc hcd hbd;go_wp2_with fail;refine HC.out.mono ?_;rintro e w6 ⟨f6,rfl⟩;obtain⟨_,fX⟩:=Zen w6 zC;obtain⟨w7,hwX⟩:∃w7,w7=(w6.alloc (.cells zC 35)).setRow w6.heap.size zC:=⟨_,rfl⟩;rw[←hwX]at fX;have HZ7:=hid ((f6.trans' fX).heap HZ.out (fun x=>x));have F7:=hid (HW.out.trans' (f6.trans' fX));have HWX:=hid hwX;clear hwX fX f6 rr;go_wp2_with(first|rw[←HWX.out]|refine wpList_store_row rfl 35 _ _ rfl w6.heap.size zC rfl rfl 35 _ (newAt _ _) info_C rfl (by kernel_rfl) ?_|refine wpList_store_row rfl 50 _ _ rfl w.heap.size #[.bool false,.slice none 0 0] rfl rfl 50 _ HZ7.out (by kernel_rfl) rfl (by kernel_rfl) ?_);rw[setRow_self _ _ _ _ _ HZ7.out];(try simp only[Exit.inBlock,Exit.then]);exact bodyPost_ret (ZaZ rfl rfl HZ7.out) rfl ⟨F7.out,by rw[HE.out];rfl⟩
    |inr cq=>
     obtain⟨c,q⟩:=cq;obtain⟨hmq,hcat⟩:=Zoy hle hcd;have hgr:=Zgq hle hcd;rw[hcd]at hc;have HC:=hid hc;have HCD:=hid hcd;have HK:=hid hk;have H100:=hid h100;have HEQ:=hid hEQ;clear hc hcd hk h100 hEQ h hbd;have he0:=hgr.2;have hqa:=hgr.1;clear hgr;go_wp2_with fail;refine HC.out.mono ?_;rintro e w6 ⟨f6,v,mv2,rfl,hv,hm2,hfr2⟩;obtain⟨cs,pa,pc,rfl,hsz,hone,_,_,hrow⟩:=hv.opened;obtain⟨ma2,mc2,rfl⟩:=Zb hm2;obtain⟨hbX,fX⟩:=Zen w6 cs;have hs7:=(ZaM w6 zC cs 35).2.2;obtain⟨w7,hwX⟩:∃w7,w7=(w6.alloc (.cells zC 35)).setRow w6.heap.size cs:=⟨_,rfl⟩;rw[←hwX]at hbX fX hs7;have f7:=f6.trans' fX;have hsz6:=f6.size;have HW6:=hid hsz6;have HP:=hid (ZoG w2.heap.size qt s S (fun j=>j=w.heap.size∨u12.ownBlock=some j) c (.agg cs) w7 (by omega) hop (by omega) (by omega) (fun j hj=>Nat.lt_of_lt_of_le (H.out.so j hj).2 f7.size) (H.out.sc.on f7) (hv.on fX));have HWX:=hid hwX;have HBX:=hid hbX;have F7:=hid f7;have HM2:=hid (show OwM w7 q.marks _ from ownsRow_fr hm2 fX (fun _ _ x=>x));have HFR2:=hid hfr2;have HS7:=hid hs7
     have HI:=hid (show(Tryz.prog.info? 35).map (·.size)=some cs.size by rw[hsz];exact info_C);have HZC:=hid (show zC.size=cs.size by rw[hsz];rfl);have HO:=hid hone;have HROW:=hid hrow;clear hv hm2 hfr2 hsz hone hrow hwX hbX fX f6 f7 rr hs7 hsz6;go_wp2_with(first|rw[←HWX.out]|refine wpList_store_row rfl 35 _ _ rfl w6.heap.size cs rfl rfl 35 _ (newAt _ _) HI.out HZC.out HO.out ?_|refine wpList_load_row rfl 35 _ rfl w6.heap.size rfl 35 cs (0,0) _ HBX.out Tryz.underlying35 rfl HI.out ?_);refine HP.out.mono ?_;rintro e w8 ⟨S',st,hq⟩;cases hp:ZbZ c s with
     |inl z=>
      rw[hp]at hq;simp only at hq;subst hq;have hz0:¬z=0:=put_err hp;have hz1:(z==0)=false:=by simpa using hz0
      have hz2:(z !=0)=true:=by simpa using hz0
      have HE:=hid (show R=.inl (z,c.at_) by rw[←HR.out,←HEQ.out,ZhW HK.out H100.out HCD.out hp];rfl);have hnb:¬S w6.heap.size:=fun e=>by have:=(H.out.so _ e).2;have:=HW6.out;omega
      have hnz:¬S w.heap.size:=fun e=>by have:=(H.out.so _ e).1;have:=HS1.out;omega
      have rc:=HROW.out w8 _ (st.fr.heap HBX.out hnb);have hz8:=st.fr.heap (F7.out.heap HZ.out (fun x=>x)) hnz;have hst:∀W,Fr nob w8 W→(storeVar 50 ⟨w.heap.size,0,none⟩ zS).run Tryz.prog W=.ok () W:=fun W f=>by
       have h:=f.heap hz8 (fun x=>x);have e:=run_storeVar_row (P:=Tryz.prog) W w.heap.size 50 50 _ #[.bool false,.slice none 0 0] h (by kernel_rfl) rfl (by kernel_rfl);rwa[setRow_self _ _ _ _ _ h]at e
      have hf8:Fr nob w w8:=st.from (HW.out.trans' F7.out) (fun j hj=>by have:=(H.out.so j hj).1;have:=HS1.out;omega);have HZ8:=hid hz8;have HF8:=hid hf8;clear hz8 hnb hnz st hf8;go_wp2_with fail
      go_region
      all_goals
       go_wp2;(try simp only[Exit.inBlock,Exit.then]);exact bodyPost_ret (ZaZ rfl rfl HZ8.out) rfl ⟨HF8.out.drew,by rw[HE.out];rfl⟩
     |inr s'=>
      rw[hp]at hq;obtain⟨rfl,hs'⟩:=hq;have hs8:=st.fr.size;have hnS:∀j,u12.ownBlock=some j→¬S' j:=fun j hj e=>(H.out.mo j hj).1 (st.old j (by have:=own_lt H.out.ma j hj;have:=F7.out.size;omega) e);have hS8:∀j,S' j→w1.heap.size≤j∧j<w8.heap.size:=fun j hj=>by
       refine⟨?_,st.lt (fun i hi=>Nat.lt_of_lt_of_le (H.out.so i hi).2 F7.out.size) j hj⟩;by_cases hj7:j<w7.heap.size
       ·exact(H.out.so j (st.old j hj7 hj)).1
       ·have:=F7.out.size;have:=H.out.fr.size;omega
      have hma8:OwM w8 ms u12:=ownsRow_fr (ownsRow_fr H.out.ma F7.out (fun _ _ x=>x)) st.fr (fun j hj=>(H.out.mo j hj).1);have hmb8:OwM w8 q.marks (.slice ma2 q.marks.length mc2):=ownsRow_fr HM2.out st.fr (fun j hj e=>by have:=HFR2.out j hj;have:=(H.out.so j e).2;omega);have hf8:Fr nob w1 w8:=st.from (H.out.fr.trans' F7.out) (fun j hj=>(H.out.so j hj).1);have hrd':=HRD.out.put H100.out hcat hp;have hpc:=ZiK hp;have hml:=H.out.ml;have hml2:ms.length+q.marks.length≤(s.cmds.length+1)*20000:=by omega
      have HMA:=hid hma8;have HMB:=hid hmb8;have HF8:=hid hf8;have HNS:=hid hnS;have HS8:=hid hS8;have HSC8:=hid hs';have HRD':=hid hrd';have HPC:=hid hpc;have HP2:=hid hp;have HSQ:=hid (fun(w':World) (f:Fr nob w w')=>HSK.out q.at_ hqa w' f);clear hma8 hmb8 hf8 hnS hS8 hs' hrd' hpc hp st hs8;go_wp2_with(at_builtin;refine wpList_append_ms rfl (.tmp 78) (.tmp 79) rfl ms q.marks u12 (.slice ma2 q.marks.length mc2) rfl rfl HMA.out HMB.out (by omega) ?_);intro v9 w9 hown9 f89 hold9;obtain⟨a9,c9,rfl⟩:=Zb hown9;have hf9:Fr nob w1 w9:=HF8.out.trans f89 (fun j hj e=>by have:=(H.out.mo j e).2;omega);have hsc9:Scd w2.heap.size qt s' S' (fun j=>j=w.heap.size∨(Value.slice a9 (ms++q.marks).length c9).ownBlock=some j) w9:=by
       obtain⟨m1,cv1,ov1,h1⟩:=HSC8.out;refine⟨m1,cv1,ov1,h1.marks f89 (fun j hj=>⟨.inr hj,HNS.out j hj⟩) (fun j hj e=> ?_)⟩;rcases e with e|e
       ·exact .inl e
       ·rcases hold9 j e with e|e
        ·exact .inr e
        ·omega
      have hmo9:∀j,(Value.slice a9 (ms++q.marks).length c9).ownBlock=some j→¬S' j∧w1.heap.size≤j:=fun j hj=>by
       rcases hold9 j hj with e|e
       ·exact⟨HNS.out j e,(H.out.mo j e).2⟩
       ·have:=HF8.out.size;exact⟨fun e'=>by have:=(HS8.out j e').2;omega,by omega⟩
      have H9:=hid hown9;have F9:=hid hf9;have SC9:=hid hsc9;have MO9:=hid hmo9;have SZ9:=hid f89.size;clear hown9 hf9 hsc9 hmo9 f89 hold9;go_wp2_with fail;refine(HSQ.out _ (F1.out.trans' F9.out)).mono ?_;rintro e w10 ⟨rfl,f10⟩;have F10:=hid f10;clear f10;go_wp2;go_roundg gm
      case rel=>
       have hpc:=HPC.out;have hcl:s'.cmds.length=s.cmds.length+1:=by rw[hpc];simp
       refine⟨_,s',ms++q.marks,S',rfl,(Zeh (l:=l) _ _ hqa).2,by omega,HRD'.out,?_,by rw[←List.length_append];exact SC9.out.on F10.out,by rw[←List.length_append];exact ownsRow_fr H9.out F10.out (fun _ _ x=>x),by rw[←List.length_append];exact MO9.out,fun j hj=>⟨(HS8.out j hj).1,?_⟩,?_,F9.out.trans' F10.out⟩
       ·rw[←ZhX HK.out H100.out HCD.out HP2.out];exact HEQ.out
       ·have:=(HS8.out j hj).2;have:=SZ9.out;have:=F10.out.size;omega
       ·rw[List.length_append,hcl];exact hml2
      all_goals omega
theorem ZbE(l:List UInt8)(x:Bool)(w:World)(hl:l.length≤1000000)(hE:Env w):
 Calls Tryz.prog 18 #[.string ⟨l.toArray⟩,.bool x] w (ZlB (ZdO x l) w):=by
 by_cases h:4000<l.length
 ·exact Zm2 l x w hl h
 ·exact ZlC l x w (by omega) hE
end Go.Proofs.YtkfddjopbocpkaaGreatDoor
namespace Go.Proofs.YtkfddjopbocpkaaGreatDoor
open Go.Lib (hid)
open Go.RowKit
def isL(t:List UInt8)(c:CV):Bool:=c.name==58&&c.arg==t
def ZoL(cs:List CV)(t:List UInt8):Int:=match cs.findIdx? (isL t)with
 |some k=>k
 |none=> -1
theorem ZoM{cs:List CV}{t:List UInt8}{k:Nat}(hk:k<cs.length)(h0:∀j (hj:j<cs.length),j<k→isL t cs[j]=false)(h1:isL t cs[k]=true):ZoL cs t=k:=by
 unfold ZoL;have:cs.findIdx? (isL t)=some k:=by
  rw[List.findIdx?_eq_some_iff_getElem];exact⟨hk,h1,fun j hj=>by rw[h0 j (by omega) hj];decide⟩
 rw[this]
theorem ZoN{cs:List CV}{t:List UInt8}(h0:∀j (hj:j<cs.length),isL t cs[j]=false):ZoL cs t= -1:=by
 unfold ZoL;have:cs.findIdx? (isL t)=none:=by
  rw[List.findIdx?_eq_none_iff];intro c hc;obtain⟨j,hj,rfl⟩:=List.getElem_of_mem hc;exact h0 j hj
 rw[this]
theorem ZlD(c:CV)(v:Value)(w:World)(g:Nat)(t:List UInt8)(hc:Zc2 nob w c v)(hg:w.cell? ⟨g,0,none⟩=some (.string ⟨t.toArray⟩)):
 Calls Tryz.prog 41 #[v,.pointer (some ⟨g,0,none⟩)] w fun e w'=>e=.returned (.bool (isL t c))∧Fr nob w w':=by
 obtain⟨cs,pa,pc,rfl,hsz,hone,_,_,hrow⟩:=hc.opened;obtain⟨w1,hw1⟩:∃w1,w1=w.alloc (.cells cs 35):=⟨_,rfl⟩;have hb:w1.heap[w.heap.size]? =some (.cells cs 35 (0,0)):=by rw[hw1];exact newAt _ _
 have f1:Fr nob w w1:=by rw[hw1];exact(Fr.refl _ _).alloc _
 have rc:=hrow w1 _ hb;have rg:=Zay (f1.cell hg (fun x=>x));have HW1:=hid hw1;have F1:=hid f1;obtain⟨n,hn⟩:∃n,c.name=n:=⟨_,rfl⟩;obtain⟨ar,har⟩:∃ar,c.arg=ar:=⟨_,rfl⟩;have hj:isL t c=(n==58&&ar==t):=by unfold isL;rw[hn,har]
 rw[hn,har]at rc;rw[hj];clear hc hsz hone hrow hw1 hb f1 hj hn har hg;by_cases h1:n=58
 ·subst h1;go_enter Tryz.func41,Tryz.ntmps41;go_wp2_with(rw[←HW1.out]);go_ret;exact⟨rfl,F1.out⟩
 ·have t1:((n.toNat:Int)==58)=false:=Zn (b:=58) h1;have HE:=hid (show(n==58&&ar==t)=false by simp[h1]);rw[HE.out];clear h1;go_enter Tryz.func41,Tryz.ntmps41;go_wp2_with(rw[←HW1.out]);go_ret;exact⟨rfl,F1.out⟩
theorem Zh6(l:List CV)(u:Value)(w:World)(g:Nat)(t:List UInt8)(hl:l.length≤1000000)(hu:Zdw nob w l u)(hg:w.cell? ⟨g,0,none⟩=some (.string ⟨t.toArray⟩)):
 Calls Tryz.prog 40 #[u,.func (.func 41) #[] #[.pointer (some ⟨g,0,none⟩)]] w fun e w'=>e=.returned (.int .i64 (ZoL l t))∧Fr nob w w':=by
 obtain⟨va,vc,rfl⟩:=hu.shape;have HU:=hid hu;have HG:=hid hg;clear hu hg;go_enter Tryz.func40,Tryz.ntmps40;go_wp2_with fail
 go_loopw [8] (fun i wr=>∃k:Nat,i=.int .i64 k∧k≤l.length∧(∀j (hj:j<l.length),j<k→isL t l[j]=false)∧Fr nob w wr) (fun i _=>l.length-(intOf i).toNat)
 case atStart=>exact⟨0,rfl,Nat.zero_le _,fun _ _ h=>absurd h (Nat.not_lt_zero _),Fr.refl _ _⟩
 case round=>
  obtain⟨k,rfl,hk,hno,fr⟩:=hrel;have FR:=hid fr;have HNO:=hid hno;by_cases hlt:k<l.length
  ·obtain⟨q,cap,r,e,_,hr,hv,hra⟩:=HU.out.get hlt;injection e with e1 _ e2;subst e1;subst e2;obtain⟨c,hc⟩:∃c,l[k]=c:=⟨_,rfl⟩;rw[hc]at hv;have HRA:=hid (show wr.rangeAt q (k*20) r.toList from fun j v hj=>fr.cell (hra j v hj) (fun x=>x));have HI2:=hid (show(Tryz.prog.info? 35).map (·.size)=some r.toList.length by rw[Array.length_toList,hr];exact info_C);have HL1:=hid (ZlD c (.agg r) wr g t (hv.on fr) (fr.cell HG.out (fun x=>x)));have HC:=hid hc;have hltI:(k:Int)<l.length:=by omega
   clear hra hv fr hc hr hno;obtain⟨p,hp⟩:∃p,isL t c=p:=⟨_,rfl⟩;rw[hp]at HL1;have HP:=hid hp;clear hp;go_wp2_with(refine wpList_load_mid rfl 35 _ rfl q (k*20) ?_ r.toList _ HRA.out Tryz.underlying35 rfl HI2.out ?_);refine HL1.out.mono ?_;rintro e w2 ⟨rfl,f2⟩;have F2:=hid (FR.out.trans' f2);clear f2;cases p with
   |true=>
    go_wp2;go_ret;exact⟨by rw[ZoM hlt HNO.out (by rw[HC.out];exact HP.out)];rfl,F2.out⟩
   |false=>
    go_wp2;go_roundw
    case rel=>exact⟨k+1,by go_num,by omega,fun j hj hjk=>(by rcases Nat.lt_succ_iff_lt_or_eq.1 hjk with h|rfl;(·exact HNO.out j hj h);(·rw[HC.out];exact HP.out)),F2.out⟩
    case measure=>simp[intOf];omega
  ·have hke:k=l.length:=by omega
   subst hke;clear fr hno;go_wp2;go_ret;exact⟨by rw[ZoN (fun j hj=>HNO.out j hj hj)];rfl,FR.out⟩
theorem ZlE(q:Bool)(l:List CV)(u:Value)(w:World)(t:List UInt8)(hl:l.length≤1000000)(hu:Zdw nob w l u):
 Calls Tryz.prog 20 #[.agg #[.bool q,u],.string ⟨t.toArray⟩] w fun e w'=>e=.returned (.int .i64 (ZoL l t))∧Fr nob w w':=by
 obtain⟨va,vc,rfl⟩:=hu.shape;obtain⟨w1,hw1⟩:∃w1,w1=w.alloc (.cells #[.bool q,.slice va l.length vc] 50):=⟨_,rfl⟩;have hb1:w1.heap[w.heap.size]? =some (.cells #[.bool q,.slice va l.length vc] 50 (0,0)):=by rw[hw1];exact newAt _ _
 have f1:Fr nob w w1:=by rw[hw1];exact(Fr.refl _ _).alloc _
 have hs1:w1.heap.size=w.heap.size+1:=by rw[hw1];simp
 obtain⟨w2,hw2⟩:∃w2,w2=w1.alloc (.cells #[.string ⟨t.toArray⟩] 9):=⟨_,rfl⟩;have hb2:w2.heap[w1.heap.size]? =some (.cells #[.string ⟨t.toArray⟩] 9 (0,0)):=by rw[hw2];exact newAt _ _
 have f2:Fr nob w1 w2:=by rw[hw2];exact(Fr.refl _ _).alloc _
 have hc1:=cell_at (j:=1) (f2.heap hb1 (fun x=>x)) rfl;have HI:=hid (Zh6 l _ w2 w1.heap.size t hl (hu.on (f1.trans' f2)) (cell_at (j:=0) hb2 rfl));have HW1:=hid hw1;have HW2:=hid hw2;have F2:=hid (f1.trans' f2);clear hw1 hw2 f1 f2 hb1 hb2 hs1 hu;go_enter Tryz.func20,Tryz.ntmps20;go_wp2_with(first|rw[←HW1.out]|rw[←HW2.out]);refine HI.out.mono ?_;rintro e w3 ⟨rfl,f3⟩;go_wp2;go_ret;exact⟨rfl,F2.out.trans' f3⟩
end Go.Proofs.YtkfddjopbocpkaaGreatDoor
