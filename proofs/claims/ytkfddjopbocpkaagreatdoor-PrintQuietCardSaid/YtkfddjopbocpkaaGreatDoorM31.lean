/- Lemmas of this claim. -/
import Derived.Test.YtkfddjopbocpkaaGreatDoorM28
set_option linter.unusedVariables false
set_option linter.unusedSimpArgs false
set_option maxRecDepth 100000
set_option maxHeartbeats 4000000
namespace Go.Proofs.YtkfddjopbocpkaaGreatDoor
open Go.Lib (hid)
open Go.RowKit
def Zqe(l:List UInt8):ZpO→ZqB
 | .inl z=>.inl z
 | .inr (s,ms)=>match Za8 s with
   |some z=>.inl z
   |none=>.inr (⟨lineL l==[35,110],s.cmds⟩,ms)
theorem Zm3{x:Bool}{l:List UInt8}(h:l.length≤4000):ZdO x l=Zqe l (Zdm x l 101 (Zaq l (l.length+1) 0) RdS.zero []):=by
 unfold ZdO Zqe;rw[if_neg (by omega)];cases Zdm x l 101 (Zaq l (l.length+1) 0) RdS.zero []<;>rfl
structure LpS(l:List UInt8)(x:Bool)(F:ZpO)(z b:Nat)(q:Bool)(W1:World)(n k:Nat)(s:RdS)(ms:List (Nat×List UInt8))(S:Nat→Prop)(mv:Value)(wr:World):Prop where
 le:k≤l.length
 fu:n+s.cmds.length=101
 rd:RdW l s
 eq:Zdm x l n k s ms=F
 sc:Scd b q s S (fun j=>j=z∨mv.ownBlock=some j) wr
 ma:OwM wr ms mv
 mo:∀j,mv.ownBlock=some j→¬S j∧W1.heap.size≤j
 so:∀j,S j→W1.heap.size≤j∧j<wr.heap.size
 ml:ms.length≤s.cmds.length*20000
 fr:Fr nob W1 wr
theorem Sc.loud{b m:Nat}{q:Bool}{s:RdS}{S O:Nat→Prop}{cv ov:Value}{w:World}(h:Sc b m q s S O cv ov w)(p:Bool):Sc b m p s S O cv ov (w.setCell ⟨b,0,none⟩ (.bool p)):=by
 have a:=(Fr.refl (fun k=>k=b) w).setCell (p:=⟨b,0,none⟩) (fun _=>rfl) (.bool p);exact⟨by have:=Za h.blk 0 (.bool p);simpa using this,h.cm.keep a (fun k hk=>.inl (hk▸h.me)) (fun k hk e=>(h.nc k hk).1 e) (fun _ _ x=>x),h.mp.fr a (fun e=>h.bm e.symm),ownsRow_fr h.op a (fun k hk e=>(h.no k hk).1 e),h.nc,h.no,h.ne,h.bm,h.me,h.mm⟩
theorem Sc.marks{b m:Nat}{q:Bool}{s:RdS}{S O O' X:Nat→Prop}{cv ov:Value}{w w':World}(h:Sc b m q s S O cv ov w)(f:Fr X w w')(hX:∀k,X k→O k∧¬S k)(hO:∀k,k<w.heap.size→O' k→O k):Sc b m q s S O' cv ov w':=
 ⟨f.heap h.blk (fun e=>(hX _ e).2 h.me),h.cm.keep f (fun k hk=>.inr (hX k hk).1) (fun k hk e=>(hX k e).2 (h.nc k hk).2.2) (fun k hk e=>e.elim .inl (fun e=>.inr (hO k hk e))),h.mp.fr f (fun e=>(hX _ e).2 h.mm),ownsRow_fr h.op f (fun k hk e=>(hX k e).2 (h.no k hk).2.2),h.nc,h.no,h.ne,h.bm,h.me,h.mm⟩
theorem ZeS{w:World}{b j:Nat}{p:Bool}(hc:(w.cell? ⟨b,j,none⟩).isSome=true)(hf:w.frozen? ⟨b,j,none⟩=false):
 Sem.run Tryz.prog (storeVar 4 ⟨b,j,none⟩ (.bool p)) w=.ok () (w.setCell ⟨b,j,none⟩ (.bool p)):=by
 obtain⟨old,ho⟩:=Option.isSome_iff_exists.1 hc;have a:(Value.bool p).cells= #[.bool p]:=rfl;have hi:(Tryz.prog.info? 4).map (·.size)=some 1:=by kernel_rfl
 cases hq:Tryz.prog.info? 4 with
 |none=>rw[hq]at hi;cases hi
 |some q=>
  have hs:q.size=1:=by simpa[hq]using hi
  simp[storeVar,sizeOf,typeInfo,hq,a,hs,go_sem,ho,hf]
theorem Zp2:(Tryz.prog.info? 50).map (·.size)=some 2:=by kernel_rfl
theorem info_S2(a b:Value):(Tryz.prog.info? 50).map (·.size)=some (#[a,b]:Array Value).size:=Zp2
theorem ZiR(q:Bool)(a:Option Addr)(n c:Nat):(#[.bool q,.slice a n c]:Array Value).all (·.oneCell')=true:=by simp[Value.oneCell']
theorem ZoK{w:World}{b:Nat}{a0 a1:Value}{T:TypeId}(h:w.heap[b]? =some (.cells #[a0,a1] T (0,0)))(v0 v1:Value):(w.setRow b #[v0,v1]).heap[b]? =some (.cells #[v0,v1] T (0,0))∧True∧True:=
 ⟨setRow_heap _ _ _ _ _ _ h,trivial,trivial⟩
attribute [-go_sem] storeVar
attribute [local go_sem] ZeS
theorem ZlC(l:List UInt8)(x:Bool)(w:World)(hl:l.length≤4000)(hE:Env w):
 Calls Tryz.prog 18 #[.string ⟨l.toArray⟩,.bool x] w (ZlB (ZdO x l) w):=by
 obtain⟨R,hR⟩:∃R,ZdO x l=R:=⟨_,rfl⟩;rw[hR];rw[Zm3 hl]at hR;obtain⟨F,hF⟩:∃F,Zdm x l 101 (Zaq l (l.length+1) 0) RdS.zero []=F:=⟨_,rfl⟩;rw[hF]at hR;obtain⟨w1,N⟩:∃w1,w1=w.alloc (.cells #[.bool false,.slice none 0 0] 50):=⟨_,rfl⟩;have M:w1.heap[w.heap.size]? =some (.cells #[.bool false,.slice none 0 0] 50 (0,0)):=by rw[N];exact newAt _ _
 have f1:Fr nob w w1:=by rw[N];exact(Fr.refl _ _).alloc _
 have h2:w1.heap.size=w.heap.size+1:=by rw[N];simp
 obtain⟨w2,U⟩:∃w2,w2=w1.alloc (.map #[] 0):=⟨_,rfl⟩;have B:w2.heap[w1.heap.size]? =some (.map #[] 0):=by rw[U];exact newAt _ _
 have f2:Fr nob w1 w2:=by rw[U];exact(Fr.refl _ _).alloc _
 have e7:w2.heap.size=w1.heap.size+1:=by rw[U];simp
 obtain⟨w3,K⟩:∃w3,w3=w2.alloc (.cells #[.bool false,.slice none 0 0,.map (some w1.heap.size),.slice none 0 0] 88):=⟨_,rfl⟩;have e1:w3.heap[w2.heap.size]? =some (.cells #[.bool false,.slice none 0 0,.map (some w1.heap.size),.slice none 0 0] 88 (0,0)):=by rw[K];exact newAt _ _
 have f3:Fr nob w2 w3:=by rw[K];exact(Fr.refl _ _).alloc _
 have h5:w3.heap.size=w2.heap.size+1:=by rw[K];simp
 have t:Sc w2.heap.size w1.heap.size false RdS.zero (fun k=>k=w1.heap.size∨k=w2.heap.size) (fun k=>k=w.heap.size∨(Value.slice none 0 0).ownBlock=some k) (.slice none 0 0) (.slice none 0 0) w3:=
  ⟨e1,Zdw.nil _ _,ZiS.new (f3.heap B (fun x=>x)),World.ownsRow_nil _ _ _ _,fun _ h=>(by cases h),fun _ h=>(by cases h),fun _ h=>(by cases h),(by omega),Or.inr rfl,Or.inl rfl⟩
 have HC:=hid (fun(w':World) (f:Fr nob w w')=>Zlx l w' (by omega) (hE.on f));have e3:=hid (fun(k:Nat) (hk:k≤l.length) (w':World) (f:Fr nob w w')=>Zm0 l k w' (by omega) hk (hE.on f));have j5:=hid (fun(O0:Nat→Prop) (p:Nat) (hp:p≤l.length) (w':World) (f:Fr nob w w') (h0:∀k,O0 k→k<w'.heap.size)=>Zlr O0 l p x w' (by omega) hp (hE.on f) h0);have g9:=hid N;have h8:=hid U;have e4:=hid K;have k6:=hid M;have F1:=hid f1;have F3:=hid (f1.trans' (f2.trans' f3));have d9:=hid (f2.trans' f3);have C:=hid t;have c8:=hid h2;have h9:=hid e7;have j8:=hid h5;have HR:=hid hR;have HF:=hid hF;have m3:(l.length:Int)≤4000:=by omega
 obtain⟨ll,a7⟩:∃ll,lineL l=ll:=⟨_,rfl⟩;have l1:=hid a7;have j6:=hid a7;clear N U K M f1 f2 f3 B e1 t h2 e7 h5 hR hF hE;have d4:=HC.out w3 F3.out;rw[a7]at d4;have f0:=hid d4;clear d4 a7;have m4:=fun W=> @run_makeMap Tryz.prog 85 W;go_enter Tryz.func18,Tryz.ntmps18;go_wp2_with(first|rw[←g9.out]|rw[←h8.out]|rw[←e4.out]);with_reducible refine f0.out.mono ?_
 rintro e w4 ⟨ca,cb,rfl,f4⟩;have Q:=C.out.on f4;have r4:=Zl Q.blk;have F4:=hid f4;have D:=hid Q;clear f4 Q;obtain⟨qt,g5⟩:∃qt,(ll==[35,110])=qt:=⟨_,rfl⟩;obtain⟨w5,b0⟩:∃w5,w5=w4.setCell ⟨w2.heap.size,0,none⟩ (.bool qt):=⟨_,rfl⟩;have G:=D.out.loud qt;have e0:Fr (fun k=>k=w2.heap.size) w4 w5:=by rw[b0];exact(Fr.refl (fun k=>k=w2.heap.size) w4).setCell (p:=⟨w2.heap.size,0,none⟩) (fun _=>rfl) _
 rw[←b0]at G;have c7:Fr nob w1 w5:=(d9.out.trans' F4.out).trans e0 (fun i hi e=>by have e:i=w2.heap.size:=e;have:=h9.out;omega);have d7:=hid c7;have I:=hid G;have i0:=hid b0;have j7:=hid g5;have i2:=hid (e3.out 0 (Nat.zero_le _) w5 (F1.out.trans' c7));clear e0 c7 G b0;go_wp2_with(first|rw[g5]|rw[←i0.out]);refine i2.out.mono ?_;rintro e w6 ⟨rfl,f6⟩;have a0:=hid f6;clear f6 r4;go_wp2_with fail
 go_loopg [12,13] 101 (fun n v12 v13 wr=>∃(k:Nat) (s:RdS) (ms:List (Nat×List UInt8)) (S:Nat→Prop),v13=.int .i64 (k:Nat)∧LpS l x F w.heap.size w2.heap.size qt w1 n k s ms S v12 wr)
 case atStart=>
  refine⟨_,RdS.zero,[],_,rfl,(Zeh (l:=l) _ _ (Nat.zero_le _)).2,rfl,RdW.zero l,HF.out,⟨_,_,_,I.out.on a0.out⟩,World.ownsRow_nil _ _ _ _,fun _ h=>(by cases h),?_,Nat.zero_le _,d7.out.trans' a0.out⟩;have a1:=h9.out;have a2:=j8.out;have a3:=(D.out.blk);have a4:=lt_heap a3;have a5:=a0.out.size;have a6:=lt_heap I.out.blk;rintro j (rfl|rfl)
  ·exact⟨Nat.le_refl _,by omega⟩
  ·exact⟨by omega,by omega⟩
 case round=>
  clear f0 C D I i2 a0 g9 h8 e4 i0 HC F3 d9 l1 F4 d7 HF;obtain⟨k,s,ms,S,rfl,h⟩:=hrel;have d3:=h.le;have l2:=h.fu;have O:=h.rd;have m0:=O.cm;have e8:=O.op;have l7:=O.la;have hz:=h.fr.heap k6.out (fun e=>e);have fw:=F1.out.trans' h.fr;obtain⟨m,cv,ov,t⟩:=h.sc;have rr:=Zl t.blk;obtain⟨va,vc,rfl⟩:=t.cm.shape;have H:=hid h;have C:=hid t;have HZ:=hid hz;have HW:=hid fw;have i7:=hid O;clear t hz fw O;by_cases hk:l.length≤k
  ·have l6:k=l.length:=by omega
   have k5:=hid (show F=.inr (s,ms) by rw[←h.eq,scrL_end hk]);have g6:=hid (ZlA w2.heap.size qt s S _ wr (by omega) e8 h.sc);have k2:¬(k:Int)<l.length:=by omega
   have L:=HR.out;rw[k5.out]at L;clear h hk;cases y:Za8 s with
   |some zp=>
    obtain⟨z,p⟩:=zp;have g:¬z=0:=whole_err y;have M:(z==0)=false:=by simpa using g
    have d8:(z !=0)=true:=by simpa using g
    have HE:=hid (show R=.inl (z,p) by rw[←L];unfold Zqe;simp only[y]);have c3:=hid y;clear L y;go_wp2_with fail;refine g6.out.mono ?_;rintro e w7 ⟨he,f7⟩;unfold ZaX at he;rw[c3.out]at he;subst he;have d:=hid (f7.heap HZ.out (fun x=>x));have F7:=hid (HW.out.trans' f7);clear f7 rr;go_wp2_with(refine wpList_store_row rfl 50 _ _ rfl w.heap.size #[.bool false,.slice none 0 0] rfl rfl 50 _ d.out (by kernel_rfl) rfl (by kernel_rfl) ?_);rw[setRow_self _ _ _ _ _ d.out];(try simp only[Exit.inBlock,Exit.then]);exact bodyPost_ret (ZaZ rfl rfl d.out) rfl ⟨F7.out,by rw[HE.out];rfl⟩
   |none=>
    have HE:=hid (show R=.inr (⟨qt,s.cmds⟩,ms) by rw[←L];unfold Zqe;simp only[y];rw[←j7.out,j6.out]);have c3:=hid y;clear L y;go_wp2_with fail;refine g6.out.mono ?_;rintro e w7 ⟨he,f7⟩;unfold ZaX at he;rw[c3.out]at he;subst he;have r7:=Zl (f7.heap C.out.blk (fun x=>x));have c2:=f7.heap HZ.out (fun x=>x);obtain⟨k8,_,_⟩:=ZoK c2 (.bool qt) (.slice va s.cmds.length vc);obtain⟨w8,Z⟩:∃w8,w8=w7.setRow w.heap.size #[.bool qt,.slice va s.cmds.length vc]:=⟨_,rfl⟩;have f8:Fr (fun k=>k=w.heap.size) w7 w8:=by rw[Z];exact ZN _ _ _
    rw[←Z]at k8;have i8:=hid Z;have d:=hid c2;have K8:=hid k8;have c6:=hid f8;have F7:=hid f7;clear f7 rr Z c2 k8 f8;go_wp2_with(first|rw[←i8.out]|refine wpList_store_row rfl 50 _ _ rfl w.heap.size #[.bool qt,.slice va s.cmds.length vc] rfl rfl 50 _ d.out (info_S2 _ _) rfl (ZiR _ _ _ _) ?_);(try simp only[Exit.inBlock,Exit.then]);refine bodyPost_ret (ZaZ rfl rfl K8.out) rfl ⟨(HW.out.trans' F7.out).trans c6.out (fun i hi e=>by have e:i=w.heap.size:=e;omega),?_⟩;rw[HE.out];have a1:=c8.out;refine⟨_,_,rfl,?_,?_⟩
    ·exact(C.out.cm.on F7.out).keep c6.out (fun k hk=>.inr (.inl hk)) (fun k hk e=>by have e:k=w.heap.size:=e;have:=(H.out.so k (C.out.nc k hk).2.2).1;omega) (fun _ _ e=>e.elim)
    ·exact ownsRow_fr (ownsRow_fr H.out.ma F7.out (fun _ _ x=>x)) c6.out (fun k hk e=>by have e:k=w.heap.size:=e;have:=(H.out.mo k hk).2;omega)
  ·have k2:(k:Int)<l.length:=by omega
   have a8:∀j,SO S (fun j=>j=w.heap.size∨u12.ownBlock=some j) j→j<wr.heap.size:=fun j hj=>by
    rcases hj with hj|rfl|hj
    ·exact(h.so j hj).2
    ·exact lt_heap HZ.out
    ·exact own_lt h.ma j hj
   obtain⟨gm,rfl⟩:∃gm,gk=gm+1:=⟨gk-1,by omega⟩;have A:=h.eq;by_cases a:s.cmds.length=100
   ·have HE:=hid (show R=.inl (3,k) by rw[←HR.out,←A,Zel hk a];rfl);have t1:((s.cmds.length:Int)==100)=true:=by simp;omega
    clear h hk a A;go_wp2_with(refine wpList_store_row rfl 50 _ _ rfl w.heap.size #[.bool false,.slice none 0 0] rfl rfl 50 _ HZ.out (by kernel_rfl) rfl (by kernel_rfl) ?_);rw[setRow_self _ _ _ _ _ HZ.out];(try simp only[Exit.inBlock,Exit.then]);exact bodyPost_ret (ZaZ rfl rfl HZ.out) rfl ⟨HW.out,by rw[HE.out];rfl⟩
   ·have t1:((s.cmds.length:Int)==100)=false:=by simp;omega
    have hc:=j5.out _ k d3 wr HW.out a8;have m6:=hid a8;cases b:Zeu x l k with
    |inl zp=>
     obtain⟨z,p⟩:=zp;have g:¬z=0:=cmdD_bad b;have M:(z==0)=false:=by simpa using g
     have d8:(z !=0)=true:=by simpa using g
     have HE:=hid (show R=.inl (z,p) by rw[←HR.out,←A,Zfv hk a b];rfl);rw[b]at hc;have HC:=hid hc;clear h hk a A hc b a8;go_wp2_with fail;refine HC.out.mono ?_;rintro e w6 ⟨f6,rfl⟩;obtain⟨_,fX⟩:=Zen w6 zC;obtain⟨w7,u⟩:∃w7,w7=(w6.alloc (.cells zC 35)).setRow w6.heap.size zC:=⟨_,rfl⟩;rw[←u]at fX;have d:=hid ((f6.trans' fX).heap HZ.out (fun x=>x));have F7:=hid (HW.out.trans' (f6.trans' fX));have d2:=hid u;clear u fX f6 rr;go_wp2_with(first|rw[←d2.out]|refine wpList_store_row rfl 35 _ _ rfl w6.heap.size zC rfl rfl 35 _ (newAt _ _) info_C rfl (by kernel_rfl) ?_|refine wpList_store_row rfl 50 _ _ rfl w.heap.size #[.bool false,.slice none 0 0] rfl rfl 50 _ d.out (by kernel_rfl) rfl (by kernel_rfl) ?_);rw[setRow_self _ _ _ _ _ d.out];(try simp only[Exit.inBlock,Exit.then]);exact bodyPost_ret (ZaZ rfl rfl d.out) rfl ⟨F7.out,by rw[HE.out];rfl⟩
    |inr cq=>
     obtain⟨c,q⟩:=cq;obtain⟨m2,f5⟩:=Zoy d3 b;have c1:=Zgq d3 b;rw[b]at hc;have HC:=hid hc;have i1:=hid b;have HK:=hid hk;have E:=hid a;have e9:=hid A;clear hc b hk a A h a8;have l9:=c1.2;have g7:=c1.1;clear c1;go_wp2_with fail;refine HC.out.mono ?_;rintro e w6 ⟨f6,v,l3,rfl,hv,B,b8⟩;obtain⟨cs,pa,pc,rfl,c4,b4,_,_,b7⟩:=hv.opened;obtain⟨e2,h4,rfl⟩:=Zb B;obtain⟨c5,fX⟩:=Zen w6 cs;have d5:=(ZaM w6 zC cs 35).2.2;obtain⟨w7,u⟩:∃w7,w7=(w6.alloc (.cells zC 35)).setRow w6.heap.size cs:=⟨_,rfl⟩;rw[←u]at c5 fX d5;have f7:=f6.trans' fX;have b2:=f6.size;have k9:=hid b2;have HP:=hid (ZoG w2.heap.size qt s S (fun j=>j=w.heap.size∨u12.ownBlock=some j) c (.agg cs) w7 (by omega) e8 (by omega) (by omega) (fun j hj=>Nat.lt_of_lt_of_le (H.out.so j hj).2 f7.size) (H.out.sc.on f7) (hv.on fX));have d2:=hid u;have g2:=hid c5;have F7:=hid f7;have j3:=hid (show OwM w7 q.marks _ from ownsRow_fr B fX (fun _ _ x=>x));have g4:=hid b8;have l5:=hid d5
     have HI:=hid (show(Tryz.prog.info? 35).map (·.size)=some cs.size by rw[c4];exact info_C);have k0:=hid (show zC.size=cs.size by rw[c4];rfl);have HO:=hid b4;have e6:=hid b7;clear hv B b8 c4 b4 b7 u c5 fX f6 f7 rr d5 b2;go_wp2_with(first|rw[←d2.out]|refine wpList_store_row rfl 35 _ _ rfl w6.heap.size cs rfl rfl 35 _ (newAt _ _) HI.out k0.out HO.out ?_|refine wpList_load_row rfl 35 _ rfl w6.heap.size rfl 35 cs (0,0) _ g2.out Tryz.underlying35 rfl HI.out ?_);refine HP.out.mono ?_;rintro e w8 ⟨S',st,hq⟩;cases hp:ZbZ c s with
     |inl z=>
      rw[hp]at hq;simp only at hq;subst hq;have g:¬z=0:=put_err hp;have M:(z==0)=false:=by simpa using g
      have d8:(z !=0)=true:=by simpa using g
      have HE:=hid (show R=.inl (z,c.at_) by rw[←HR.out,←e9.out,ZhW HK.out E.out i1.out hp];rfl);have h3:¬S w6.heap.size:=fun e=>by have:=(H.out.so _ e).2;have:=k9.out;omega
      have h7:¬S w.heap.size:=fun e=>by have:=(H.out.so _ e).1;have:=c8.out;omega
      have rc:=e6.out w8 _ (st.fr.heap g2.out h3);have d1:=st.fr.heap (F7.out.heap HZ.out (fun x=>x)) h7;have m5:∀W,Fr nob w8 W→(storeVar 50 ⟨w.heap.size,0,none⟩ zS).run Tryz.prog W=.ok () W:=fun W f=>by
       have h:=f.heap d1 (fun x=>x);have e:=run_storeVar_row (P:=Tryz.prog) W w.heap.size 50 50 _ #[.bool false,.slice none 0 0] h (by kernel_rfl) rfl (by kernel_rfl);rwa[setRow_self _ _ _ _ _ h]at e
      have J:Fr nob w w8:=st.from (HW.out.trans' F7.out) (fun j hj=>by have:=(H.out.so j hj).1;have:=c8.out;omega);have j0:=hid d1;have X:=hid J;clear d1 h3 h7 st J;go_wp2_with fail
      go_region
      all_goals
       go_wp2;(try simp only[Exit.inBlock,Exit.then]);exact bodyPost_ret (ZaZ rfl rfl j0.out) rfl ⟨X.out.drew,by rw[HE.out];rfl⟩
     |inr s'=>
      rw[hp]at hq;obtain⟨rfl,i3⟩:=hq;have i9:=st.fr.size;have g8:∀j,u12.ownBlock=some j→¬S' j:=fun j hj e=>(H.out.mo j hj).1 (st.old j (by have:=own_lt H.out.ma j hj;have:=F7.out.size;omega) e);have e5:∀j,S' j→w1.heap.size≤j∧j<w8.heap.size:=fun j hj=>by
       refine⟨?_,st.lt (fun i hi=>Nat.lt_of_lt_of_le (H.out.so i hi).2 F7.out.size) j hj⟩;by_cases j2:j<w7.heap.size
       ·exact(H.out.so j (st.old j j2 hj)).1
       ·have:=F7.out.size;have:=H.out.fr.size;omega
      have c0:OwM w8 ms u12:=ownsRow_fr (ownsRow_fr H.out.ma F7.out (fun _ _ x=>x)) st.fr (fun j hj=>(H.out.mo j hj).1);have b5:OwM w8 q.marks (.slice e2 q.marks.length h4):=ownsRow_fr j3.out st.fr (fun j hj e=>by have:=g4.out j hj;have:=(H.out.so j e).2;omega);have J:Fr nob w1 w8:=st.from (H.out.fr.trans' F7.out) (fun j hj=>(H.out.so j hj).1);have b9:=i7.out.put E.out f5 hp;have Y:=ZiK hp;have l4:=H.out.ml;have f9:ms.length+q.marks.length≤(s.cmds.length+1)*20000:=by omega
      have j1:=hid c0;have k1:=hid b5;have X:=hid J;have d6:=hid g8;have d0:=hid e5;have h6:=hid i3;have g0:=hid b9;have k7:=hid Y;have i4:=hid hp;have k3:=hid (fun(w':World) (f:Fr nob w w')=>e3.out q.at_ g7 w' f);clear c0 b5 J g8 e5 i3 b9 Y hp st i9;go_wp2_with(at_builtin;refine wpList_append_ms rfl (.tmp 78) (.tmp 79) rfl ms q.marks u12 (.slice e2 q.marks.length h4) rfl rfl j1.out k1.out (by omega) ?_);intro v9 w9 r b1 o;obtain⟨a9,c9,rfl⟩:=Zb r;have g1:Fr nob w1 w9:=X.out.trans b1 (fun j hj e=>by have:=(H.out.mo j e).2;omega);have b3:Scd w2.heap.size qt s' S' (fun j=>j=w.heap.size∨(Value.slice a9 (ms++q.marks).length c9).ownBlock=some j) w9:=by
       obtain⟨m1,j9,l0,h1⟩:=h6.out;refine⟨m1,j9,l0,h1.marks b1 (fun j hj=>⟨.inr hj,d6.out j hj⟩) (fun j hj e=> ?_)⟩;rcases e with e|e
       ·exact .inl e
       ·rcases o j e with e|e
        ·exact .inr e
        ·omega
      have b6:∀j,(Value.slice a9 (ms++q.marks).length c9).ownBlock=some j→¬S' j∧w1.heap.size≤j:=fun j hj=>by
       rcases o j hj with e|e
       ·exact⟨d6.out j e,(H.out.mo j e).2⟩
       ·have:=X.out.size;exact⟨fun e'=>by have:=(d0.out j e').2;omega,by omega⟩
      have H9:=hid r;have F9:=hid g1;have k4:=hid b3;have j4:=hid b6;have i6:=hid b1.size;clear r g1 b3 b6 b1 o;go_wp2_with fail;refine(k3.out _ (F1.out.trans' F9.out)).mono ?_;rintro e l8 ⟨rfl,g3⟩;have V:=hid g3;clear g3;go_wp2;go_roundg gm
      case rel=>
       have Y:=k7.out;have i5:s'.cmds.length=s.cmds.length+1:=by rw[Y];simp
       refine⟨_,s',ms++q.marks,S',rfl,(Zeh (l:=l) _ _ g7).2,by omega,g0.out,?_,by rw[←List.length_append];exact k4.out.on V.out,by rw[←List.length_append];exact ownsRow_fr H9.out V.out (fun _ _ x=>x),by rw[←List.length_append];exact j4.out,fun j hj=>⟨(d0.out j hj).1,?_⟩,?_,F9.out.trans' V.out⟩
       ·rw[←ZhX HK.out E.out i1.out i4.out];exact e9.out
       ·have:=(d0.out j hj).2;have:=i6.out;have:=V.out.size;omega
       ·rw[List.length_append,i5];exact f9
      all_goals omega
theorem ZbE(l:List UInt8)(x:Bool)(w:World)(hl:l.length≤1000000)(hE:Env w):
 Calls Tryz.prog 18 #[.string ⟨l.toArray⟩,.bool x] w (ZlB (ZdO x l) w):=by
 by_cases h:4000<l.length
 ·exact Zm2 l x w hl h
 ·exact ZlC l x w (by omega) hE
end Go.Proofs.YtkfddjopbocpkaaGreatDoor
namespace Go.Proofs.YtkfddjopbocpkaaGreatDoor
open Go.RowKit
end Go.Proofs.YtkfddjopbocpkaaGreatDoor
