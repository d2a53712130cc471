/- Lemmas of this claim. -/
import Derived.Test.YtkfddjopbocpkaaGreatDoorN39
set_option linter.unusedVariables false
set_option linter.unusedSimpArgs false
set_option maxRecDepth 100000
set_option maxHeartbeats 4000000
namespace Go.Proofs.YtkfddjopbocpkaaGreatDoor
open Go.Lib (hid)
open Go.RowKit
def Zqe(l:List UInt8):ZpO→ZqB
 | .inl z=>.inl z
 | .inr (s,ms)=>match Za8 s with
   |some z=>.inl z
   |none=>.inr (⟨lineL l==[35,110],s.cmds⟩,ms)
theorem Zm3{x:Bool}{l:List UInt8}(h:l.length≤4000):ZdO x l=Zqe l (Zdm x l 101 (Zaq l (l.length+1) 0) RdS.zero []):=by
 unfold ZdO Zqe;rw[if_neg (by omega)];cases Zdm x l 101 (Zaq l (l.length+1) 0) RdS.zero []<;>rfl
structure LpS(l:List UInt8)(x:Bool)(F:ZpO)(z b:Nat)(q:Bool)(W1:World)(n k:Nat)(s:RdS)(ms:List (Nat×List UInt8))(S:Nat→Prop)(mv:Value)(wr:World):Prop where
 le:k≤l.length
 fu:n+s.cmds.length=101
 rd:RdW l s
 eq:Zdm x l n k s ms=F
 sc:Scd b q s S (fun j=>j=z∨mv.ownBlock=some j) wr
 ma:OwM wr ms mv
 mo:∀j,mv.ownBlock=some j→¬S j∧W1.heap.size≤j
 so:∀j,S j→W1.heap.size≤j∧j<wr.heap.size
 ml:ms.length≤s.cmds.length*20000
 fr:Fr nob W1 wr
theorem Sc.loud{b m:Nat}{q:Bool}{s:RdS}{S O:Nat→Prop}{cv ov:Value}{w:World}(h:Sc b m q s S O cv ov w)(p:Bool):Sc b m p s S O cv ov (w.setCell ⟨b,0,none⟩ (.bool p)):=by
 have a:=(Fr.refl (fun k=>k=b) w).setCell (p:=⟨b,0,none⟩) (fun _=>rfl) (.bool p);exact⟨by have:=Za h.blk 0 (.bool p);simpa using this,h.cm.keep a (fun k hk=>.inl (hk▸h.me)) (fun k hk e=>(h.nc k hk).1 e) (fun _ _ x=>x),h.mp.fr a (fun e=>h.bm e.symm),ownsRow_fr h.op a (fun k hk e=>(h.no k hk).1 e),h.nc,h.no,h.ne,h.bm,h.me,h.mm⟩
theorem Sc.marks{b m:Nat}{q:Bool}{s:RdS}{S O O' X:Nat→Prop}{cv ov:Value}{w w':World}(h:Sc b m q s S O cv ov w)(f:Fr X w w')(hX:∀k,X k→O k∧¬S k)(hO:∀k,k<w.heap.size→O' k→O k):Sc b m q s S O' cv ov w':=
 ⟨f.heap h.blk (fun e=>(hX _ e).2 h.me),h.cm.keep f (fun k hk=>.inr (hX k hk).1) (fun k hk e=>(hX k e).2 (h.nc k hk).2.2) (fun k hk e=>e.elim .inl (fun e=>.inr (hO k hk e))),h.mp.fr f (fun e=>(hX _ e).2 h.mm),ownsRow_fr h.op f (fun k hk e=>(hX k e).2 (h.no k hk).2.2),h.nc,h.no,h.ne,h.bm,h.me,h.mm⟩
theorem ZeS{w:World}{b j:Nat}{p:Bool}(hc:(w.cell? ⟨b,j,none⟩).isSome=true)(hf:w.frozen? ⟨b,j,none⟩=false):
 Sem.run Tryz.prog (storeVar 4 ⟨b,j,none⟩ (.bool p)) w=.ok () (w.setCell ⟨b,j,none⟩ (.bool p)):=by
 obtain⟨old,ho⟩:=Option.isSome_iff_exists.1 hc;have a:(Value.bool p).cells= #[.bool p]:=rfl;have hi:(Tryz.prog.info? 4).map (·.size)=some 1:=by kernel_rfl
 cases hq:Tryz.prog.info? 4 with
 |none=>rw[hq]at hi;cases hi
 |some q=>
  have hs:q.size=1:=by simpa[hq]using hi
  simp[storeVar,sizeOf,typeInfo,hq,a,hs,go_sem,ho,hf]
theorem Zp2:(Tryz.prog.info? 50).map (·.size)=some 2:=by kernel_rfl
theorem ZwW(a b:Value):(Tryz.prog.info? 50).map (·.size)=some (#[a,b]:Array Value).size:=Zp2
theorem ZiR(q:Bool)(a:Option Addr)(n c:Nat):(#[.bool q,.slice a n c]:Array Value).all (·.oneCell')=true:=by simp[Value.oneCell']
theorem ZoK{w:World}{b:Nat}{a0 a1:Value}{T:TypeId}(h:w.heap[b]? =some (.cells #[a0,a1] T (0,0)))(v0 v1:Value):(w.setRow b #[v0,v1]).heap[b]? =some (.cells #[v0,v1] T (0,0))∧True∧True:=
 ⟨setRow_heap _ _ _ _ _ _ h,trivial,trivial⟩
attribute [-go_sem] storeVar
attribute [local go_sem] ZeS
theorem ZlC(l:List UInt8)(x:BF)(w:World)(hl:l.length≤4000)(hE:Env w):
 Calls Tryz.prog 18 #[.string ⟨l.toArray⟩,.bool x] w (ZlB (ZdO x l) w):=by
 obtain⟨R,hR⟩:∃R,ZdO x l=R:=⟨_,rfl⟩;rw[hR];rw[Zm3 hl]at hR;obtain⟨F,hF⟩:∃F,Zdm x l 101 (Zaq l (l.length+1) 0) RdS.zero []=F:=⟨_,rfl⟩;rw[hF]at hR;obtain⟨w1,N⟩:∃w1,w1=w.alloc (.cells #[.bool false,.slice none 0 0] 50):=⟨_,rfl⟩;have U:w1.heap[w.heap.size]? =some (.cells #[.bool false,.slice none 0 0] 50 (0,0)):=by rw[N];exact newAt _ _
 have f1:Fr nob w w1:=by rw[N];exact(Fr.refl _ _).alloc _
 have h8:w1.heap.size=w.heap.size+1:=by rw[N];simp
 obtain⟨w2,O⟩:∃w2,w2=w1.alloc (.map #[] 0):=⟨_,rfl⟩;have C:w2.heap[w1.heap.size]? =some (.map #[] 0):=by rw[O];exact newAt _ _
 have f2:Fr nob w1 w2:=by rw[O];exact(Fr.refl _ _).alloc _
 have h9:w2.heap.size=w1.heap.size+1:=by rw[O];simp
 obtain⟨w3,Q⟩:∃w3,w3=w2.alloc (.cells #[.bool false,.slice none 0 0,.map (some w1.heap.size),.slice none 0 0] 88):=⟨_,rfl⟩;have g5:w3.heap[w2.heap.size]? =some (.cells #[.bool false,.slice none 0 0,.map (some w1.heap.size),.slice none 0 0] 88 (0,0)):=by rw[Q];exact newAt _ _
 have f3:Fr nob w2 w3:=by rw[Q];exact(Fr.refl _ _).alloc _
 have i0:w3.heap.size=w2.heap.size+1:=by rw[Q];simp
 have t:Sc w2.heap.size w1.heap.size false RdS.zero (fun k=>k=w1.heap.size∨k=w2.heap.size) (fun k=>k=w.heap.size∨(Value.slice none 0 0).ownBlock=some k) (.slice none 0 0) (.slice none 0 0) w3:=
  ⟨g5,Zdw.nil _ _,ZiS.new (f3.heap C (fun x=>x)),World.ownsRow_nil _ _ _ _,fun _ h=>(by cases h),fun _ h=>(by cases h),fun _ h=>(by cases h),(by omega),Or.inr rfl,Or.inl rfl⟩
 have HC:=hid (fun(w':World) (f:Fr nob w w')=>Zlx l w' (by omega) (hE.on f));have e9:=hid (fun(k:Nat) (hk:k≤l.length) (w':World) (f:Fr nob w w')=>Zm0 l k w' (by omega) hk (hE.on f));have i4:=hid (fun(O0:Nat→Prop) (p:Nat) (hp:p≤l.length) (w':World) (f:Fr nob w w') (h0:∀k,O0 k→k<w'.heap.size)=>Zlr O0 l p x w' (by omega) hp (hE.on f) h0);have f0:=hid N;have f5:=hid O;have f9:=hid Q;have j9:=hid U;have F1:=hid f1;have F3:=hid (f1.trans' (f2.trans' f3));have d6:=hid (f2.trans' f3);have A:=hid t;have c3:=hid h8;have e6:=hid h9;have j5:=hid i0;have HR:=hid hR;have HF:=hid hF;have l8:(l.length:Int)≤4000:=by omega
 obtain⟨ll,a7⟩:∃ll,lineL l=ll:=⟨_,rfl⟩;have i7:=hid a7;have i6:=hid a7;clear N O Q U f1 f2 f3 C g5 t h8 h9 i0 hR hF hE;have c2:=HC.out w3 F3.out;rw[a7]at c2;have d8:=hid c2;clear c2 a7;have m0:=fun W=> @run_makeMap Tryz.prog 85 W;go_enter Tryz.func18,Tryz.ntmps18;go_wp2_with(first|rw[←f0.out]|rw[←f5.out]|rw[←f9.out]);with_reducible refine d8.out.mono ?_
 rintro e w4 ⟨ca,cb,rfl,f4⟩;have L:=A.out.on f4;have r4:=Zl L.blk;have F4:=hid f4;have G:=hid L;clear f4 L;obtain⟨qt,h6⟩:∃qt,(ll==[35,110])=qt:=⟨_,rfl⟩;obtain⟨w5,b0⟩:∃w5,w5=w4.setCell ⟨w2.heap.size,0,none⟩ (.bool qt):=⟨_,rfl⟩;have M:=G.out.loud qt;have g3:Fr (fun k=>k=w2.heap.size) w4 w5:=by rw[b0];exact(Fr.refl (fun k=>k=w2.heap.size) w4).setCell (p:=⟨w2.heap.size,0,none⟩) (fun _=>rfl) _
 rw[←b0]at M;have c7:Fr nob w1 w5:=(d6.out.trans' F4.out).trans g3 (fun i hi e=>by have e:i=w2.heap.size:=e;have:=e6.out;omega);have e1:=hid c7;have I:=hid M;have g0:=hid b0;have j3:=hid h6;have e7:=hid (e9.out 0 (Nat.zero_le _) w5 (F1.out.trans' c7));clear g3 c7 M b0;go_wp2_with(first|rw[h6]|rw[←g0.out]);refine e7.out.mono ?_;rintro e w6 ⟨rfl,f6⟩;have X:=hid f6;clear f6 r4;go_wp2_with fail
 go_loopg [12,13] 101 (fun n v12 v13 wr=>∃(k:Nat) (s:RdS) (ms:List (Nat×List UInt8)) (S:Nat→Prop),v13=.int .i64 (k:Nat)∧LpS l x F w.heap.size w2.heap.size qt w1 n k s ms S v12 wr)
 case atStart=>
  refine⟨_,RdS.zero,[],_,rfl,(Zeh (l:=l) _ _ (Nat.zero_le _)).2,rfl,RdW.zero l,HF.out,⟨_,_,_,I.out.on X.out⟩,World.ownsRow_nil _ _ _ _,fun _ h=>(by cases h),?_,Nat.zero_le _,e1.out.trans' X.out⟩;have a1:=e6.out;have a2:=j5.out;have a3:=(G.out.blk);have a4:=lt_heap a3;have a5:=X.out.size;have a6:=lt_heap I.out.blk;rintro j (rfl|rfl)
  ·exact⟨Nat.le_refl _,by omega⟩
  ·exact⟨by omega,by omega⟩
 case round=>
  clear d8 A G I e7 X f0 f5 f9 g0 HC F3 d6 i7 F4 e1 HF;obtain⟨k,s,ms,S,rfl,h⟩:=hrel;have d1:=h.le;have l6:=h.fu;have K:=h.rd;have l4:=K.cm;have h4:=K.op;have l9:=K.la;have hz:=h.fr.heap j9.out (fun e=>e);have fw:=F1.out.trans' h.fr;obtain⟨m,cv,ov,t⟩:=h.sc;have rr:=Zl t.blk;obtain⟨va,vc,rfl⟩:=t.cm.shape;have H:=hid h;have A:=hid t;have HZ:=hid hz;have HW:=hid fw;have j4:=hid K;clear t hz fw K;by_cases hk:l.length≤k
  ·have l7:k=l.length:=by omega
   have i5:=hid (show F=.inr (s,ms) by rw[←h.eq,scrL_end hk]);have g1:=hid (ZlA w2.heap.size qt s S _ wr (by omega) h4 h.sc);have k9:¬(k:Int)<l.length:=by omega
   have E:=HR.out;rw[i5.out]at E;clear h hk;cases y:Za8 s with
   |some zp=>
    obtain⟨z,p⟩:=zp;have g:¬z=0:=whole_err y;have U:(z==0)=false:=by simpa using g
    have i1:(z !=0)=true:=by simpa using g
    have HE:=hid (show R=.inl (z,p) by rw[←E];unfold Zqe;simp only[y]);have c5:=hid y;clear E y;go_wp2_with fail;refine g1.out.mono ?_;rintro e w7 ⟨he,f7⟩;unfold ZaX at he;rw[c5.out]at he;subst he;have b:=hid (f7.heap HZ.out (fun x=>x));have F7:=hid (HW.out.trans' f7);clear f7 rr;go_wp2_with(refine wpList_store_row rfl 50 _ _ rfl w.heap.size #[.bool false,.slice none 0 0] rfl rfl 50 _ b.out (by kernel_rfl) rfl (by kernel_rfl) ?_);rw[setRow_self _ _ _ _ _ b.out];(try simp only[Exit.inBlock,Exit.then]);exact bodyPost_ret (ZaZ rfl rfl b.out) rfl ⟨F7.out,by rw[HE.out];rfl⟩
   |none=>
    have HE:=hid (show R=.inr (⟨qt,s.cmds⟩,ms) by rw[←E];unfold Zqe;simp only[y];rw[←j3.out,i6.out]);have c5:=hid y;clear E y;go_wp2_with fail;refine g1.out.mono ?_;rintro e w7 ⟨he,f7⟩;unfold ZaX at he;rw[c5.out]at he;subst he;have r7:=Zl (f7.heap A.out.blk (fun x=>x));have d4:=f7.heap HZ.out (fun x=>x);obtain⟨k8,_,_⟩:=ZoK d4 (.bool qt) (.slice va s.cmds.length vc);obtain⟨w8,b1⟩:∃w8,w8=w7.setRow w.heap.size #[.bool qt,.slice va s.cmds.length vc]:=⟨_,rfl⟩;have f8:Fr (fun k=>k=w.heap.size) w7 w8:=by rw[b1];exact ZN _ _ _
    rw[←b1]at k8;have j8:=hid b1;have b:=hid d4;have K8:=hid k8;have c1:=hid f8;have F7:=hid f7;clear f7 rr b1 d4 k8 f8;go_wp2_with(first|rw[←j8.out]|refine wpList_store_row rfl 50 _ _ rfl w.heap.size #[.bool qt,.slice va s.cmds.length vc] rfl rfl 50 _ b.out (ZwW _ _) rfl (ZiR _ _ _ _) ?_);(try simp only[Exit.inBlock,Exit.then]);refine bodyPost_ret (ZaZ rfl rfl K8.out) rfl ⟨(HW.out.trans' F7.out).trans c1.out (fun i hi e=>by have e:i=w.heap.size:=e;omega),?_⟩;rw[HE.out];have a1:=c3.out;refine⟨_,_,rfl,?_,?_⟩
    ·exact(A.out.cm.on F7.out).keep c1.out (fun k hk=>.inr (.inl hk)) (fun k hk e=>by have e:k=w.heap.size:=e;have:=(H.out.so k (A.out.nc k hk).2.2).1;omega) (fun _ _ e=>e.elim)
    ·exact ownsRow_fr (ownsRow_fr H.out.ma F7.out (fun _ _ x=>x)) c1.out (fun k hk e=>by have e:k=w.heap.size:=e;have:=(H.out.mo k hk).2;omega)
  ·have k9:(k:Int)<l.length:=by omega
   have a0:∀j,SO S (fun j=>j=w.heap.size∨u12.ownBlock=some j) j→j<wr.heap.size:=fun j hj=>by
    rcases hj with hj|rfl|hj
    ·exact(h.so j hj).2
    ·exact lt_heap HZ.out
    ·exact own_lt h.ma j hj
   obtain⟨gm,rfl⟩:∃gm,gk=gm+1:=⟨gk-1,by omega⟩;have B:=h.eq;by_cases a:s.cmds.length=100
   ·have HE:=hid (show R=.inl (3,k) by rw[←HR.out,←B,Zel hk a];rfl);have t1:((s.cmds.length:Int)==100)=true:=by simp;omega
    clear h hk a B;go_wp2_with(refine wpList_store_row rfl 50 _ _ rfl w.heap.size #[.bool false,.slice none 0 0] rfl rfl 50 _ HZ.out (by kernel_rfl) rfl (by kernel_rfl) ?_);rw[setRow_self _ _ _ _ _ HZ.out];(try simp only[Exit.inBlock,Exit.then]);exact bodyPost_ret (ZaZ rfl rfl HZ.out) rfl ⟨HW.out,by rw[HE.out];rfl⟩
   ·have t1:((s.cmds.length:Int)==100)=false:=by simp;omega
    have hc:=i4.out _ k d1 wr HW.out a0;have l2:=hid a0;cases d:Zeu x l k with
    |inl zp=>
     obtain⟨z,p⟩:=zp;have g:¬z=0:=Zw9 d;have U:(z==0)=false:=by simpa using g
     have i1:(z !=0)=true:=by simpa using g
     have HE:=hid (show R=.inl (z,p) by rw[←HR.out,←B,Zfv hk a d];rfl);rw[d]at hc;have HC:=hid hc;clear h hk a B hc d a0;go_wp2_with fail;refine HC.out.mono ?_;rintro e w6 ⟨f6,rfl⟩;obtain⟨_,fX⟩:=Zen w6 zC;obtain⟨w7,u⟩:∃w7,w7=(w6.alloc (.cells zC 35)).setRow w6.heap.size zC:=⟨_,rfl⟩;rw[←u]at fX;have b:=hid ((f6.trans' fX).heap HZ.out (fun x=>x));have F7:=hid (HW.out.trans' (f6.trans' fX));have c6:=hid u;clear u fX f6 rr;go_wp2_with(first|rw[←c6.out]|refine wpList_store_row rfl 35 _ _ rfl w6.heap.size zC rfl rfl 35 _ (newAt _ _) info_C rfl (by kernel_rfl) ?_|refine wpList_store_row rfl 50 _ _ rfl w.heap.size #[.bool false,.slice none 0 0] rfl rfl 50 _ b.out (by kernel_rfl) rfl (by kernel_rfl) ?_);rw[setRow_self _ _ _ _ _ b.out];(try simp only[Exit.inBlock,Exit.then]);exact bodyPost_ret (ZaZ rfl rfl b.out) rfl ⟨F7.out,by rw[HE.out];rfl⟩
    |inr cq=>
     obtain⟨c,q⟩:=cq;obtain⟨m3,g6⟩:=Zoy d1 d;have d0:=Zgq d1 d;rw[d]at hc;have HC:=hid hc;have d9:=hid d;have HK:=hid hk;have D:=hid a;have e0:=hid B;clear hc d hk a B h a0;have l5:=d0.2;have h5:=d0.1;clear d0;go_wp2_with fail;refine HC.out.mono ?_;rintro e w6 ⟨f6,v,m5,rfl,hv,C,b2⟩;obtain⟨cs,pa,pc,rfl,d3,b6,_,_,b8⟩:=hv.opened;obtain⟨i2,i3,rfl⟩:=Zb C;obtain⟨c8,fX⟩:=Zen w6 cs;have d2:=(ZaM w6 zC cs 35).2.2;obtain⟨w7,u⟩:∃w7,w7=(w6.alloc (.cells zC 35)).setRow w6.heap.size cs:=⟨_,rfl⟩;rw[←u]at c8 fX d2;have f7:=f6.trans' fX;have c0:=f6.size;have j7:=hid c0;have HP:=hid (ZoG w2.heap.size qt s S (fun j=>j=w.heap.size∨u12.ownBlock=some j) c (.agg cs) w7 (by omega) h4 (by omega) (by omega) (fun j hj=>Nat.lt_of_lt_of_le (H.out.so j hj).2 f7.size) (H.out.sc.on f7) (hv.on fX));have c6:=hid u;have d7:=hid c8;have F7:=hid f7;have i8:=hid (show OwM w7 q.marks _ from ownsRow_fr C fX (fun _ _ x=>x));have e2:=hid b2;have l3:=hid d2
     have HI:=hid (show(Tryz.prog.info? 35).map (·.size)=some cs.size by rw[d3];exact info_C);have k1:=hid (show zC.size=cs.size by rw[d3];rfl);have HO:=hid b6;have e5:=hid b8;clear hv C b2 d3 b6 b8 u c8 fX f6 f7 rr d2 c0;go_wp2_with(first|rw[←c6.out]|refine wpList_store_row rfl 35 _ _ rfl w6.heap.size cs rfl rfl 35 _ (newAt _ _) HI.out k1.out HO.out ?_|refine wpList_load_row rfl 35 _ rfl w6.heap.size rfl 35 cs (0,0) _ d7.out Tryz.underlying35 rfl HI.out ?_);refine HP.out.mono ?_;rintro e w8 ⟨S',st,hq⟩;cases hp:ZbZ c s with
     |inl z=>
      rw[hp]at hq;simp only at hq;subst hq;have g:¬z=0:=put_err hp;have U:(z==0)=false:=by simpa using g
      have i1:(z !=0)=true:=by simpa using g
      have HE:=hid (show R=.inl (z,c.at_) by rw[←HR.out,←e0.out,ZhW HK.out D.out d9.out hp];rfl);have h2:¬S w6.heap.size:=fun e=>by have:=(H.out.so _ e).2;have:=j7.out;omega
      have h3:¬S w.heap.size:=fun e=>by have:=(H.out.so _ e).1;have:=c3.out;omega
      have rc:=e5.out w8 _ (st.fr.heap d7.out h2);have d5:=st.fr.heap (F7.out.heap HZ.out (fun x=>x)) h3;have m4:∀W,Fr nob w8 W→(storeVar 50 ⟨w.heap.size,0,none⟩ zS).run Tryz.prog W=.ok () W:=fun W f=>by
       have h:=f.heap d5 (fun x=>x);have e:=run_storeVar_row (P:=Tryz.prog) W w.heap.size 50 50 _ #[.bool false,.slice none 0 0] h (by kernel_rfl) rfl (by kernel_rfl);rwa[setRow_self _ _ _ _ _ h]at e
      have J:Fr nob w w8:=st.from (HW.out.trans' F7.out) (fun j hj=>by have:=(H.out.so j hj).1;have:=c3.out;omega);have k0:=hid d5;have Y:=hid J;clear d5 h2 h3 st J;go_wp2_with fail
      go_region
      all_goals
       go_wp2;(try simp only[Exit.inBlock,Exit.then]);exact bodyPost_ret (ZaZ rfl rfl k0.out) rfl ⟨Y.out.drew,by rw[HE.out];rfl⟩
     |inr s'=>
      rw[hp]at hq;obtain⟨rfl,h7⟩:=hq;have l0:=st.fr.size;have g9:∀j,u12.ownBlock=some j→¬S' j:=fun j hj e=>(H.out.mo j hj).1 (st.old j (by have:=own_lt H.out.ma j hj;have:=F7.out.size;omega) e);have g4:∀j,S' j→w1.heap.size≤j∧j<w8.heap.size:=fun j hj=>by
       refine⟨?_,st.lt (fun i hi=>Nat.lt_of_lt_of_le (H.out.so i hi).2 F7.out.size) j hj⟩;by_cases k7:j<w7.heap.size
       ·exact(H.out.so j (st.old j k7 hj)).1
       ·have:=F7.out.size;have:=H.out.fr.size;omega
      have b3:OwM w8 ms u12:=ownsRow_fr (ownsRow_fr H.out.ma F7.out (fun _ _ x=>x)) st.fr (fun j hj=>(H.out.mo j hj).1);have b4:OwM w8 q.marks (.slice i2 q.marks.length i3):=ownsRow_fr i8.out st.fr (fun j hj e=>by have:=e2.out j hj;have:=(H.out.so j e).2;omega);have J:Fr nob w1 w8:=st.from (H.out.fr.trans' F7.out) (fun j hj=>(H.out.so j hj).1);have b7:=j4.out.put D.out g6 hp;have a8:=ZiK hp;have m2:=H.out.ml;have g8:ms.length+q.marks.length≤(s.cmds.length+1)*20000:=by omega
      have i9:=hid b3;have j0:=hid b4;have Y:=hid J;have e3:=hid g9;have c4:=hid g4;have e8:=hid h7;have e4:=hid b7;have j2:=hid a8;have j1:=hid hp;have j6:=hid (fun(w':World) (f:Fr nob w w')=>e9.out q.at_ h5 w' f);clear b3 b4 J g9 g4 h7 b7 a8 hp st l0;go_wp2_with(at_builtin;refine wpList_append_ms rfl (.tmp 78) (.tmp 79) rfl ms q.marks u12 (.slice i2 q.marks.length i3) rfl rfl i9.out j0.out (by omega) ?_);intro v9 w9 r Z o;obtain⟨a9,c9,rfl⟩:=Zb r;have g7:Fr nob w1 w9:=Y.out.trans Z (fun j hj e=>by have:=(H.out.mo j e).2;omega);have b9:Scd w2.heap.size qt s' S' (fun j=>j=w.heap.size∨(Value.slice a9 (ms++q.marks).length c9).ownBlock=some j) w9:=by
       obtain⟨m1,k5,l1,h1⟩:=e8.out;refine⟨m1,k5,l1,h1.marks Z (fun j hj=>⟨.inr hj,e3.out j hj⟩) (fun j hj e=> ?_)⟩;rcases e with e|e
       ·exact .inl e
       ·rcases o j e with e|e
        ·exact .inr e
        ·omega
      have b5:∀j,(Value.slice a9 (ms++q.marks).length c9).ownBlock=some j→¬S' j∧w1.heap.size≤j:=fun j hj=>by
       rcases o j hj with e|e
       ·exact⟨e3.out j e,(H.out.mo j e).2⟩
       ·have:=Y.out.size;exact⟨fun e'=>by have:=(c4.out j e').2;omega,by omega⟩
      have H9:=hid r;have F9:=hid g7;have k3:=hid b9;have k2:=hid b5;have k4:=hid Z.size;clear r g7 b9 b5 Z o;go_wp2_with fail;refine(j6.out _ (F1.out.trans' F9.out)).mono ?_;rintro e m6 ⟨rfl,g2⟩;have V:=hid g2;clear g2;go_wp2;go_roundg gm
      case rel=>
       have a8:=j2.out;have k6:s'.cmds.length=s.cmds.length+1:=by rw[a8];simp
       refine⟨_,s',ms++q.marks,S',rfl,(Zeh (l:=l) _ _ h5).2,by omega,e4.out,?_,by rw[←List.length_append];exact k3.out.on V.out,by rw[←List.length_append];exact ownsRow_fr H9.out V.out (fun _ _ x=>x),by rw[←List.length_append];exact k2.out,fun j hj=>⟨(c4.out j hj).1,?_⟩,?_,F9.out.trans' V.out⟩
       ·rw[←ZhX HK.out D.out d9.out j1.out];exact e0.out
       ·have:=(c4.out j hj).2;have:=k4.out;have:=V.out.size;omega
       ·rw[List.length_append,k6];exact g8
      all_goals omega
theorem ZbE(l:List UInt8)(x:BF)(w:World)(hl:l.length≤1000000)(hE:Env w):
 Calls Tryz.prog 18 #[.string ⟨l.toArray⟩,.bool x] w (ZlB (ZdO x l) w):=by
 by_cases h:4000<l.length
 ·exact Zm2 l x w hl h
 ·exact ZlC l x w (by omega) hE
end Go.Proofs.YtkfddjopbocpkaaGreatDoor
namespace Go.Proofs.YtkfddjopbocpkaaGreatDoor
open Go.RowKit
end Go.Proofs.YtkfddjopbocpkaaGreatDoor
