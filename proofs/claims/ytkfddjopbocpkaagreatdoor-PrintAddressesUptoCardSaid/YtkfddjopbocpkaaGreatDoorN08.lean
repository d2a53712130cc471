/- Lemmas of this claim. -/
import Derived.Test.YtkfddjopbocpkaaGreatDoorN07
set_option linter.unusedVariables false
set_option linter.unusedSimpArgs false
set_option maxRecDepth 100000
set_option maxHeartbeats 4000000
namespace Go.Proofs.YtkfddjopbocpkaaGreatDoor
open Go.Lib (hid)
open Go.RowKit
theorem Zy{w:World}{b k:Nat}{o:Obj}(hk:w.heap[k]? =some o)(hne:k≠b)(v0 v1 v2 v3:Value):(ZaG w b v0 v1 v2 v3).heap[k]? =some o:=
 Zc (Zc (Zc (Zc hk hne _) hne _) hne _) hne _
theorem setFour_frS{S:Nat→Prop}{w a:World}{b:Nat}(f:Fr S a w)(hb:a.heap.size≤b)(v0 v1 v2 v3:Value):Fr S a (ZaG w b v0 v1 v2 v3):=by
 have h:∀(x:World) (j:Nat) (v:Value),Fr S a x→Fr S a (x.setCell ⟨b,j,none⟩ v):=fun x j v hx=>hx.setCell (p:=⟨b,j,none⟩) (fun h=>absurd h (Nat.not_lt.2 hb)) v;exact h _ _ _ (h _ _ _ (h _ _ _ (h _ _ _ f)))
theorem Zdy.to{b:Nat}{l:List UInt8}{p:Int}{s:S4}{R:(Int×Nat)⊕(S4×Nat)}{w w':World}(h:Zdy b l p s R w)(f:∀x r q,Rd w b l x r q→Rd w' b l x r q):Zdy b l p s R w':=by
 cases R with
 |inr x=>exact⟨h.1,f _ _ _ h.2⟩
 |inl z=>obtain⟨a',h1,h2,h3⟩:=h;exact⟨a',h1,h2,f _ _ _ h3⟩
theorem part_any(b:Nat)(l:List UInt8)(a:Nat)(p:Int)(w:World)(hl:l.length≤100000)(ha:a≤l.length)(hb:Zj3≤b)(hE:Env w)(h:Rd w b l a 0 p):
 Calls Tryz.prog 263 #[.pointer (some ⟨b,0,none⟩)] w (Zqr b l p (prt l a) w):=by
 obtain⟨R,hR⟩:∃R,prt l a=R:=⟨_,rfl⟩;rw[hR];have HR:=hid hR;clear hR;have rr:=Zl h;have h5:=lt_heap h;obtain⟨w0,a3⟩:∃w0,w0=w.alloc (.cells #[.int .u64 0,.int .u64 0,.int .u64 0,.int .u64 0] 132):=⟨_,rfl⟩;have f0:Fr nob w w0:=by rw[a3];exact(Fr.refl _ _).alloc _
 have g0:=hid (show w0.heap[w.heap.size]? =some (.cells #[.int .u64 0,.int .u64 0,.int .u64 0,.int .u64 0] 132 (0,0)) by rw[a3];exact newAt _ _);have e9:=hid f0;have H0:=hid (h.on f0);have d6:=hid (hE.on f0);have f5:=hid a3;have h4:(a:Int)≤l.length:=by omega
 clear a3 h hE f0;go_enter Tryz.func263,Tryz.ntmps263;go_wp2_with fail;rw[←f5.out];refine(item_any b l a p w0 hl ha hb d6.out H0.out).mono ?_;rintro e w1 ⟨s,o,rfl,hs,f1,a8⟩;have e0:=lt_heap H0.out;have c7:=f1.heap g0.out (fun e=>by omega);have g7:=lt_heap c7;have g4:b<w1.heap.size:=Nat.lt_of_lt_of_le e0 f1.size;obtain⟨w2,a4⟩:∃w2,w2=w1.alloc (.cells #[.int .u64 s.a,.int .u64 s.b,.int .u64 s.c,.int .u64 s.d,.bool o] 332):=⟨_,rfl⟩;have O:Fr nob w1 w2:=by rw[a4];exact(Fr.refl _ _).alloc _
 have c8:=O.heap c7 (fun x=>x);have c3:w2.heap[w1.heap.size]? =some (.cells #[.int .u64 s.a,.int .u64 s.b,.int .u64 s.c,.int .u64 s.d,.bool o] 332 (0,0)):=by rw[a4];exact newAt _ _
 have g2:=Zd c3;have g3:=Zl c8;have F2:=hid ((e9.out.any.trans f1 (fun i hi e=>e)).trans O (fun i hi e=>e.elim));have f2:=hid ((d6.out.on2 f1 hb).on O);have N:=hid c8;have f8:=hid c3;have M:=hid a4;have E:=a8.to (w':=w2) (fun x r q h=>h.on O);have HS:=hid hs;clear a4 c7 c8 c3 f1 O a8 hs rr;cases hi:itm l a with
 |inl z=>
  rw[hi]at E;obtain⟨a',h1,h2,h3⟩:=E;have L:=hid (ZnN hi);have r4:=Zl h3;have g9:(z.1 !=0)=true:=by simpa using h2
  have F:=hid (show Zdy b l p s (.inl z) w2 from⟨a',h1,h2,h3⟩);have C1:=hid trivial;have C2:=hid trivial;clear h3 hi h1;go_wp2_with fail;rw[←M.out];refine region_fr_all (by kernel_rfl) (by kernel_rfl) ?_
  repeat(go_big_quiet_step (fail))
  refine wpQuiet_nil ?_;intro wC fC;go_wp2;(try simp only[Exit.inBlock,Exit.then]);have j:=fC.heap N.out (fun x=>x);refine bodyPost_ret (Zs (s:=s) rfl rfl (setFour_heap j _ _ _ _)) rfl ⟨s,rfl,HS.out,setFour_frS (F2.out.trans fC (fun i hi e=>e.elim)) (Nat.le_refl _) _ _ _ _,?_⟩;rw[←HR.out,L.out];exact F.out.to fun x r q h=>Zy (h.on fC) (by omega) _ _ _ _
 |inr x=>
  rw[hi]at E;obtain⟨h1,h2,h3⟩:=E;have hn:=ZdF hi;have h7:(x.next:Int)≤l.length:=by omega
  have h6:(0:Int)≤x.next:=by omega
  have r4:=Zl h3;have H3:=hid h3;obtain⟨d1,b7⟩:∃d,[45].isPrefixOf (l.drop x.next)=d:=⟨_,rfl⟩;obtain⟨d2,b8⟩:∃d,[45,93].isPrefixOf (l.drop x.next)=d:=⟨_,rfl⟩;have b3:∀w',Fr nob w2 w'→_:=fun w' f=>Zbr b l [45] x.next 0 p w' (by omega) (by simp) (by omega) (h3.on f);have b4:∀w',Fr nob w2 w'→_:=fun w' f=>Zbr b l [45,93] x.next 0 p w' (by omega) (by simp) (by omega) (h3.on f);rw[b7]at b3;rw[b8]at b4;have C1:=hid b3;have C2:=hid b4;have J:=ZnM l x.next;rw[b7,b8]at J;have HI:=hid hi;have H1:=hid h1;have H2:=hid h2;clear b3 b4 b7 b8 h3 hi h1 h2;by_cases n:rng l x.next=false
  ·have L:=hid (ZnO HI.out n);have F:=hid (show Zdy b l p s (.inr (x.set,x.next)) w2 from⟨H1.out,H3.out⟩);rw[n]at J;have HG:=hid J;clear J n;cases d1 with
   |false=>
    go_wp2_with fail;rw[←M.out];refine region_fr_all (by kernel_rfl) (by kernel_rfl) ?_
    repeat(go_big_quiet_step ((first|(with_reducible exact calls_fr (C1.out _ (grown_fr _ _ _)))|(with_reducible exact calls_fr (C2.out _ (grown_fr _ _ _))))))
    refine wpQuiet_nil ?_;intro wC fC;go_wp2;(try simp only[Exit.inBlock,Exit.then]);have j:=fC.heap N.out (fun x=>x);refine bodyPost_ret (Zs (s:=s) rfl rfl (setFour_heap j _ _ _ _)) rfl ⟨s,rfl,HS.out,setFour_frS (F2.out.trans fC (fun i hi e=>e.elim)) (Nat.le_refl _) _ _ _ _,?_⟩;rw[←HR.out,L.out];exact F.out.to fun x r q h=>Zy (h.on fC) (by omega) _ _ _ _
   |true=>
    cases d2 with
    |true=>
     go_wp2_with fail;rw[←M.out];refine region_fr_all (by kernel_rfl) (by kernel_rfl) ?_
     repeat(go_big_quiet_step ((first|(with_reducible exact calls_fr (C1.out _ (grown_fr _ _ _)))|(with_reducible exact calls_fr (C2.out _ (grown_fr _ _ _))))))
     refine wpQuiet_nil ?_;intro wC fC;go_wp2;(try simp only[Exit.inBlock,Exit.then]);have j:=fC.heap N.out (fun x=>x);refine bodyPost_ret (Zs (s:=s) rfl rfl (setFour_heap j _ _ _ _)) rfl ⟨s,rfl,HS.out,setFour_frS (F2.out.trans fC (fun i hi e=>e.elim)) (Nat.le_refl _) _ _ _ _,?_⟩;rw[←HR.out,L.out];exact F.out.to fun x r q h=>Zy (h.on fC) (by omega) _ _ _ _
    |false=>
     have tn:(l.length:Int)≤(x.next:Int)+1:=by
      have:=HG.out;simp at this;omega
     go_wp2_with fail;rw[←M.out];refine region_fr_all (by kernel_rfl) (by kernel_rfl) ?_
     repeat(go_big_quiet_step ((first|(with_reducible exact calls_fr (C1.out _ (grown_fr _ _ _)))|(with_reducible exact calls_fr (C2.out _ (grown_fr _ _ _))))))
     refine wpQuiet_nil ?_;intro wC fC;go_wp2;(try simp only[Exit.inBlock,Exit.then]);have j:=fC.heap N.out (fun x=>x);refine bodyPost_ret (Zs (s:=s) rfl rfl (setFour_heap j _ _ _ _)) rfl ⟨s,rfl,HS.out,setFour_frS (F2.out.trans fC (fun i hi e=>e.elim)) (Nat.le_refl _) _ _ _ _,?_⟩;rw[←HR.out,L.out];exact F.out.to fun x r q h=>Zy (h.on fC) (by omega) _ _ _ _
  ·have n:rng l x.next=true:=by simpa using n
   rw[n]at J;simp only[Bool.and_eq_true,decide_eq_true_eq,Bool.not_eq_true',eq_comm (a:=true)]at J;obtain⟨⟨h8,rfl⟩,rfl⟩:=J;have tn:¬((l.length:Int)≤(x.next:Int)+1):=by omega
   have a9:=hid n;clear n;go_wp2_with fail;rw[←M.out];refine region_fr_all (by kernel_rfl) (by kernel_rfl) ?_
   repeat(go_big_quiet_step ((first|(with_reducible exact calls_fr (C1.out _ (grown_fr _ _ _)))|(with_reducible exact calls_fr (C2.out _ (grown_fr _ _ _))))))
   refine wpQuiet_nil ?_;intro wC fC;obtain⟨w3,a5⟩:∃w3,w3=wC.setCell ⟨b,1,none⟩ (.int .i64 ((x.next:Int)+1)):=⟨_,rfl⟩;have d8:Rd w3 b l ((x.next+1:Nat):Int) 0 p:=by
    rw[a5,show((x.next+1:Nat):Int)=(x.next:Int)+1 by omega];exact Za (fC.heap H3.out (fun x=>x)) 1 _
   have P:Fr (fun k=>k=b) w2 w3:=by rw[a5];exact Fr.setCell (S:=fun k=>k=b) (p:=⟨b,1,none⟩) fC.any (fun _=>rfl) _
   have e8:=P.heap N.out (fun e=>by omega);have e7:=P.heap f8.out (fun e=>by omega);have F3:=hid (F2.out.trans P (fun i hi e=>e));have d7:=hid (f2.out.on2 P hb);have f7:=hid a5;have f3:=hid d8;have g1:=hid e8;have f9:=hid e7;clear a5 d8 P e8 e7;go_wp2_with fail;rw[←f7.out];refine(item_any b l (x.next+1) p w3 hl (by omega) hb d7.out f3.out).mono ?_;rintro e w4 ⟨s',o',rfl,c1,f4,U⟩;have c9:=f4.heap g1.out (fun e=>by omega);have c4:=f4.heap f9.out (fun e=>by omega);have g8:=lt_heap c9;have g6:=lt_heap c4;obtain⟨a',r,q,h0,b2,v,t⟩:=Zma HI.out a9.out U;have g5:=lt_heap b2;obtain⟨w5,a6⟩:∃w5,w5=w4.alloc (.cells #[.int .u64 s'.a,.int .u64 s'.b,.int .u64 s'.c,.int .u64 s'.d,.bool o'] 332):=⟨_,rfl⟩;have K:Fr nob w4 w5:=by rw[a6];exact(Fr.refl _ _).alloc _
   have d0:=K.heap c9 (fun x=>x);have c5:=K.heap c4 (fun x=>x);have c6:w5.heap[w4.heap.size]? =some (.cells #[.int .u64 s'.a,.int .u64 s'.b,.int .u64 s'.c,.int .u64 s'.d,.bool o'] 332 (0,0)):=by rw[a6];exact newAt _ _
   have d9:=b2.on K;have e6:s=x.set:=H1.out;have e5:o=x.one.isSome:=H2.out;rw[HR.out,←e6]at v t;rw[←e5]at v t;have e1:=Zne s;have e2:=Zne s';obtain⟨m1,b9⟩:∃m,lst s=m:=⟨_,rfl⟩;obtain⟨m2,c0⟩:∃m,lst s'=m:=⟨_,rfl⟩;have a2:Env w5:=((d7.out.on2 f4 hb).on K);have b5:∀w',Fr nob w5 w'→_:=fun w' f=>ZbK s o w' HS.out (a2.on f).1;have b6:∀w',Fr nob w5 w'→_:=fun w' f=>ZbK s' o' w' c1 (a2.on f).1;have b0:=fun w' (h:Env w')=>ZbK s o w' HS.out h.1;have b1:=fun w' (h:Env w')=>ZbK s' o' w' c1 h.1;rw[b9]at b0;rw[c0]at b1;have LX:=hid b0;have LY:=hid b1;clear b0 b1;rw[b9]at e1 b5 v t;rw[c0]at e2 b6 v t;have V:=fit_spn m1 m2;have c2:=fun w=>Ze7 m1 m2 w e1 e2;obtain⟨S,hS⟩:∃S,spn m1 m2=S:=⟨_,rfl⟩;rw[hS]at v t V c2;have i0:=Zd c6;have h9:=Zd c5;have i1:=Zl d0;have F5:=hid ((F3.out.trans f4 (fun i hi e=>e)).trans K (fun i hi e=>e.elim))
   have a1:=hid d0;have Z:=hid c5;have a0:=hid c6;have X:=hid d9;have Y:=hid a6;have C3:=hid b5;have C4:=hid b6;have CS:=hid c2;have HB:=hid v;have HG:=hid t;have HF:=hid V;have G:=hid a2;clear c9 c4 b2 v t a6 K d0 c5 c6 d9 b5 b6 c2 hS V f4 U c1 a2 g2 g3 r4 fC e6 e5 b9 c0;cases o with
   |false=>
    go_wp2_with fail;rw[←Y.out];refine region_fr_all (by kernel_rfl) (by kernel_rfl) ?_
    repeat(go_big_quiet_step ((first|(with_reducible exact calls_fr (C3.out _ (grown_fr _ _ _)))|(with_reducible exact calls_fr (C4.out _ (grown_fr _ _ _))))))
    refine wpQuiet_nil ?_;intro wE fE;go_wp2_with fail;refine(fail_any b l a' r q 1 a wE (X.out.on fE)).mono ?_;rintro e w6 ⟨rfl,Q,f6⟩;have B:=HB.out w6 (by simp) Q;have g:Fr (fun k=>k=b) w5 w6:=fE.any.trans f6 (fun i hi e=>e);have u:=g.heap a1.out (fun e=>by omega);have C:=g.heap Z.out (fun e=>by omega);have D:=g.heap a0.out (fun e=>by omega);have d5:=Zl u;have d3:=Zd C;have d4:=Zd D;have y:∀w',Fr nob w6 w'→_:=fun w' f=>LX.out w' ((G.out.on2 g hb).on f);have A:∀w',Fr nob w6 w'→_:=fun w' f=>LY.out w' ((G.out.on2 g hb).on f);have C5:=hid y;have C6:=hid A;have F6:=hid (F5.out.trans g (fun i hi e=>e));have H:=hid B;have I:=hid u;clear y A u C D g B;go_wp2_with fail;refine region_fr 5 (by kernel_rfl) (by kernel_rfl) ?_;simp only[List.take_succ_cons,List.take_zero,List.drop_succ_cons,List.drop_zero]
    repeat(go_big_quiet_step ((first|(with_reducible exact calls_fr (C5.out _ (grown_fr _ _ _)))|(with_reducible exact calls_fr (C6.out _ (grown_fr _ _ _)))|(with_reducible exact calls_fr (CS.out _)))))
    refine wpQuiet_nil ?_;intro wC fC;go_wp2;(try simp only[Exit.inBlock,Exit.then]);have j:=fC.heap I.out (fun x=>x);have W:=lt_heap j;refine bodyPost_ret (Zs (s:=S) rfl rfl (setFour_heap j _ _ _ _)) rfl ⟨S,rfl,HF.out,setFour_frS (F6.out.trans fC (fun i hi e=>e.elim)) (Nat.le_refl _) _ _ _ _,?_⟩;exact H.out.to fun x r q h=>Zy (h.on fC) (by omega) _ _ _ _
   |true=>
    cases o' with
    |false=>
     go_wp2_with fail;rw[←Y.out];refine region_fr_all (by kernel_rfl) (by kernel_rfl) ?_
     repeat(go_big_quiet_step ((first|(with_reducible exact calls_fr (C3.out _ (grown_fr _ _ _)))|(with_reducible exact calls_fr (C4.out _ (grown_fr _ _ _))))))
     refine wpQuiet_nil ?_;intro wE fE;go_wp2_with fail;refine(fail_any b l a' r q 1 a wE (X.out.on fE)).mono ?_;rintro e w6 ⟨rfl,Q,f6⟩;have B:=HB.out w6 (by simp) Q;have g:Fr (fun k=>k=b) w5 w6:=fE.any.trans f6 (fun i hi e=>e);have u:=g.heap a1.out (fun e=>by omega);have C:=g.heap Z.out (fun e=>by omega);have D:=g.heap a0.out (fun e=>by omega);have d5:=Zl u;have d3:=Zd C;have d4:=Zd D;have y:∀w',Fr nob w6 w'→_:=fun w' f=>LX.out w' ((G.out.on2 g hb).on f);have A:∀w',Fr nob w6 w'→_:=fun w' f=>LY.out w' ((G.out.on2 g hb).on f);have C5:=hid y;have C6:=hid A;have F6:=hid (F5.out.trans g (fun i hi e=>e));have H:=hid B;have I:=hid u;clear y A u C D g B;go_wp2_with fail;refine region_fr 5 (by kernel_rfl) (by kernel_rfl) ?_;simp only[List.take_succ_cons,List.take_zero,List.drop_succ_cons,List.drop_zero]
     repeat(go_big_quiet_step ((first|(with_reducible exact calls_fr (C5.out _ (grown_fr _ _ _)))|(with_reducible exact calls_fr (C6.out _ (grown_fr _ _ _)))|(with_reducible exact calls_fr (CS.out _)))))
     refine wpQuiet_nil ?_;intro wC fC;go_wp2;(try simp only[Exit.inBlock,Exit.then]);have j:=fC.heap I.out (fun x=>x);have W:=lt_heap j;refine bodyPost_ret (Zs (s:=S) rfl rfl (setFour_heap j _ _ _ _)) rfl ⟨S,rfl,HF.out,setFour_frS (F6.out.trans fC (fun i hi e=>e.elim)) (Nat.le_refl _) _ _ _ _,?_⟩;exact H.out.to fun x r q h=>Zy (h.on fC) (by omega) _ _ _ _
    |true=>
     by_cases e3:(m2:Int)<m1
     ·have e4:=e3;go_wp2_with fail;rw[←Y.out];refine region_fr_all (by kernel_rfl) (by kernel_rfl) ?_
      repeat(go_big_quiet_step ((first|(with_reducible exact calls_fr (C3.out _ (grown_fr _ _ _)))|(with_reducible exact calls_fr (C4.out _ (grown_fr _ _ _))))))
      refine wpQuiet_nil ?_;intro wE fE;go_wp2_with fail;refine(fail_any b l a' r q 1 a wE (X.out.on fE)).mono ?_;rintro e w6 ⟨rfl,Q,f6⟩;have B:=HB.out w6 (.inr (.inr (by omega))) Q;have g:Fr (fun k=>k=b) w5 w6:=fE.any.trans f6 (fun i hi e=>e);have u:=g.heap a1.out (fun e=>by omega);have C:=g.heap Z.out (fun e=>by omega);have D:=g.heap a0.out (fun e=>by omega);have d5:=Zl u;have d3:=Zd C;have d4:=Zd D;have y:∀w',Fr nob w6 w'→_:=fun w' f=>LX.out w' ((G.out.on2 g hb).on f);have A:∀w',Fr nob w6 w'→_:=fun w' f=>LY.out w' ((G.out.on2 g hb).on f);have C5:=hid y;have C6:=hid A;have F6:=hid (F5.out.trans g (fun i hi e=>e));have H:=hid B;have I:=hid u;clear y A u C D g B;go_wp2_with fail;refine region_fr 5 (by kernel_rfl) (by kernel_rfl) ?_;simp only[List.take_succ_cons,List.take_zero,List.drop_succ_cons,List.drop_zero]
      repeat(go_big_quiet_step ((first|(with_reducible exact calls_fr (C5.out _ (grown_fr _ _ _)))|(with_reducible exact calls_fr (C6.out _ (grown_fr _ _ _)))|(with_reducible exact calls_fr (CS.out _)))))
      refine wpQuiet_nil ?_;intro wC fC;go_wp2;(try simp only[Exit.inBlock,Exit.then]);have j:=fC.heap I.out (fun x=>x);have W:=lt_heap j;refine bodyPost_ret (Zs (s:=S) rfl rfl (setFour_heap j _ _ _ _)) rfl ⟨S,rfl,HF.out,setFour_frS (F6.out.trans fC (fun i hi e=>e.elim)) (Nat.le_refl _) _ _ _ _,?_⟩;exact H.out.to fun x r q h=>Zy (h.on fC) (by omega) _ _ _ _
     ·have e4:=e3;go_wp2_with fail;rw[←Y.out];refine region_fr_all (by kernel_rfl) (by kernel_rfl) ?_
      repeat(go_big_quiet_step ((first|(with_reducible exact calls_fr (C3.out _ (grown_fr _ _ _)))|(with_reducible exact calls_fr (C4.out _ (grown_fr _ _ _))))))
      refine wpQuiet_nil ?_;intro wE fE;obtain⟨w6,a7⟩:∃w6,w6=wE:=⟨_,rfl⟩;have B:=HG.out w6 (by simp) (by simp) (by omega) (by rw[a7];exact X.out.on fE);have g:Fr (fun k=>k=b) w5 w6:=by rw[a7];exact fE.any
      rw[←a7];clear a7;have u:=g.heap a1.out (fun e=>by omega);have C:=g.heap Z.out (fun e=>by omega);have D:=g.heap a0.out (fun e=>by omega);have d5:=Zl u;have d3:=Zd C;have d4:=Zd D;have y:∀w',Fr nob w6 w'→_:=fun w' f=>LX.out w' ((G.out.on2 g hb).on f);have A:∀w',Fr nob w6 w'→_:=fun w' f=>LY.out w' ((G.out.on2 g hb).on f);have C5:=hid y;have C6:=hid A;have F6:=hid (F5.out.trans g (fun i hi e=>e));have H:=hid B;have I:=hid u;clear y A u C D g B;go_wp2_with fail;refine region_fr 5 (by kernel_rfl) (by kernel_rfl) ?_;simp only[List.take_succ_cons,List.take_zero,List.drop_succ_cons,List.drop_zero]
      repeat(go_big_quiet_step ((first|(with_reducible exact calls_fr (C5.out _ (grown_fr _ _ _)))|(with_reducible exact calls_fr (C6.out _ (grown_fr _ _ _)))|(with_reducible exact calls_fr (CS.out _)))))
      refine wpQuiet_nil ?_;intro wC fC;go_wp2;(try simp only[Exit.inBlock,Exit.then]);have j:=fC.heap I.out (fun x=>x);have W:=lt_heap j;refine bodyPost_ret (Zs (s:=S) rfl rfl (setFour_heap j _ _ _ _)) rfl ⟨S,rfl,HF.out,setFour_frS (F6.out.trans fC (fun i hi e=>e.elim)) (Nat.le_refl _) _ _ _ _,?_⟩;exact H.out.to fun x r q h=>Zy (h.on fC) (by omega) _ _ _ _
theorem Env.big{w:World}(h:Env w):Zj3≤w.heap.size+1:=by
 obtain⟨m,hm⟩:=h.2;have h1:=World.block_lt_of_cell? w _ hm;have h2:=h.1.lt;simp only at h1;unfold Zj3;omega
def Zp8:(Int×Nat)⊕(S4×Nat)→Value
 | .inl z=>.tuple #[ZcR S4.zero,.int .i64 z.2,.int .i64 z.1]
 | .inr x=>.tuple #[ZcR x.1,.int .i64 x.2,.int .i64 0]
theorem Zx{fn:Func}{p q r:Tmp}(h:fn.results= #[.cell p 132,.tmp q,.tmp r]){tmps:Array Value}{b:Nat}(ht:tmps.getD p undef=.pointer (some ⟨b,0,none⟩)){u v:Value}(hq:tmps.getD q undef=u)(hr:tmps.getD r undef=v){W:World}{s:S4}
 (hb:W.heap[b]? =some (.cells #[.int .u64 s.a,.int .u64 s.b,.int .u64 s.c,.int .u64 s.d] 132 (0,0))):(results fn tmps).run Tryz.prog W=.ok (.tuple #[ZcR s,u,v]) W:=by
 have c0:=cell_at (j:=0) (v:=.int .u64 s.a) hb rfl;have c1:=cell_at (j:=1) (v:=.int .u64 s.b) hb rfl;have c2:=cell_at (j:=2) (v:=.int .u64 s.c) hb rfl;have c3:=cell_at (j:=3) (v:=.int .u64 s.d) hb rfl;have g:tmps[p]?.getD undef=.pointer (some ⟨b,0,none⟩):=by rw[←ht];simp
 have e:tmps[q]?.getD undef=u:=by rw[←hq];simp
 have f:tmps[r]?.getD undef=v:=by rw[←hr];simp
 simp only[results,h];simp[g,e,f,go_sem,c0,c1,c2,c3]
abbrev Q4(w:World)(b:Nat)(s:S4):Prop:=w.cell? ⟨b,0,none⟩=some (.int .u64 s.a)∧w.cell? ⟨b,1,none⟩=some (.int .u64 s.b)∧w.cell? ⟨b,2,none⟩=some (.int .u64 s.c)∧w.cell? ⟨b,3,none⟩=some (.int .u64 s.d)
abbrev At4(w:World)(b:Nat)(s:S4):Prop:=w.heap[b]? =some (.cells #[.int .u64 s.a,.int .u64 s.b,.int .u64 s.c,.int .u64 s.d] 132 (0,0))
theorem Q4.of{w:World}{b:Nat}{s:S4}(h:At4 w b s):Q4 w b s:=⟨cell_at h rfl,cell_at h rfl,cell_at h rfl,cell_at h rfl⟩
theorem ZfK(s t:S4)(w:World):Calls Tryz.prog 264 #[ZcR s,ZcR t] w fun e w'=>e=.returned (ZcR (s.or t))∧Fr nob w w':=Zpf s t w
theorem not_lit(s:S4)(w:World):Calls Tryz.prog 170 #[ZcR s] w fun e w'=>e=.returned (ZcR s.not)∧Fr nob w w':=ZnD s w
def ZjH(l:List UInt8)(n:Nat):(Int×Nat)⊕(S4×Nat)→(Int×Nat)⊕(S4×Nat)
 | .inl z=>.inl z
 | .inr x=>lop l n x.2 x.1
def ZoR(l:List UInt8)(n:Nat)(R:(Int×Nat)⊕(S4×Nat)):Prop:=∀x,R=.inr x→x.2≤l.length∧l.length<n+x.2
def orF(s:S4):(Int×Nat)⊕(S4×Nat)→(Int×Nat)⊕(S4×Nat)
 | .inl z=>.inl z
 | .inr x=>.inr (s.or x.1,x.2)
theorem Znf{l:List UInt8}{n a:Nat}{s:S4}(h:l[a]?≠some 93):lop l (n+1) a s=ZjH l n (orF s (prt l a)):=by
 rw[lop,if_neg h];cases prt l a<;>rfl
theorem Zj9{l:List UInt8}{n a:Nat}{s:S4}(h:l[a]? =some 93):lop l (n+1) a s=.inr (s,a):=by rw[lop,if_pos h]
theorem Zka{l:List UInt8}{n a:Nat}{s:S4}(hn:l.length<n+1+a):ZoR l n (orF s (prt l a)):=by
 intro x hx;cases hp:prt l a with
 |inl z=>rw[hp]at hx;cases hx
 |inr y=>
  rw[hp]at hx;injection hx with hx;subst hx;have:=prt_next hp;exact⟨this.2.1,by simp only;omega⟩
theorem Zdy.or{b:Nat}{l:List UInt8}{p:Int}{s t:S4}{R:(Int×Nat)⊕(S4×Nat)}{w:World}(h:Zdy b l p s R w):Zdy b l p (t.or s) (orF t R) w:=by
 cases R with
 |inr x=>exact⟨by rw[h.1],h.2⟩
 |inl z=>exact h
def Zex(d:Bool):(Int×Nat)⊕(S4×Nat)→(Int×Nat)⊕(S4×Nat)
 | .inl z=>.inl z
 | .inr y=>.inr (if d then y.1.not else y.1,y.2+1)
theorem ZnR{l:List UInt8}{a:Nat}(h:[94].isPrefixOf (l.drop a)=true):prs l a=Zex true (ZjH l (l.length+1) (prt l (a+1))):=by
 have h:=ZlH.1 h;unfold prs Zex ZjH;simp only[h,if_true];cases prt l (a+1)with
 |inl z=>rfl
 |inr x=>simp only;cases lop l (l.length+1) x.2 x.1<;>rfl
theorem Zps{l:List UInt8}{a:Nat}(h:[94].isPrefixOf (l.drop a)=false):prs l a=Zex false (ZjH l (l.length+1) (prt l a)):=by
 have h:¬l[a]? =some 94:=fun e=>by rw[ZlH.2 e]at h;cases h
 unfold prs Zex ZjH;simp only[if_neg h];cases prt l a with
 |inl z=>rfl
 |inr x=>simp only;cases lop l (l.length+1) x.2 x.1<;>rfl
theorem ZS(w:World)(b:Nat)(v0 v1 v2 v3:Value):Fr (fun k=>k=b) w (ZaG w b v0 v1 v2 v3):=
 have h:∀(x:World) (j:Nat) (v:Value),Fr (fun k=>k=b) w x→Fr (fun k=>k=b) w (x.setCell ⟨b,j,none⟩ v):=fun x j v hx=>hx.setCell (p:=⟨b,j,none⟩) (fun _=>rfl) v
 h _ _ _ (h _ _ _ (h _ _ _ (h _ _ _ (Fr.refl _ _))))
abbrev RQ(w:World)(b:Nat)(v2 v3:Value):Prop:=w.cell? ⟨b,2,none⟩=some v2∧w.cell? ⟨b,3,none⟩=some v3
theorem Zm{w:World}{b c i j:Nat}{v u:Value}(h:w.cell? ⟨b,i,none⟩=some v)(hn:c≠b):(w.setCell ⟨c,j,none⟩ u).cell? ⟨b,i,none⟩=some v:=by
 have hb:(w.setCell ⟨c,j,none⟩ u).heap[b]? =w.heap[b]? :=by
  cases hx:w.heap[b]? with
  |none=>
   have:w.heap.size≤b:=Array.getElem?_eq_none_iff.1 hx;exact Array.getElem?_eq_none_iff.2 (by simpa using this)
  |some x=>exact Zc hx (Ne.symm hn) _
 unfold World.cell? at h⊢;simp only[hb];exact h
theorem RQ.drew{w:World}{b:Nat}{v2 v3:Value}(h:RQ w b v2 v3):RQ w.drew b v2 v3:=h
theorem RQ.set{w:World}{b c j:Nat}{v2 v3:Value}(h:RQ w b v2 v3)(hn:c≠b)(u:Value):RQ (w.setCell ⟨c,j,none⟩ u) b v2 v3:=⟨Zm h.1 hn,Zm h.2 hn⟩
abbrev RA(w:World)(b:Nat)(v1:Value)(r9:Nat)(s:S4):Prop:=w.cell? ⟨b,1,none⟩=some v1∧Q4 w r9 s
theorem RA.drew{w:World}{b r9:Nat}{v1:Value}{s:S4}(h:RA w b v1 r9 s):RA w.drew b v1 r9 s:=h
theorem RA.set{w:World}{b c j r9:Nat}{v1:Value}{s:S4}(h:RA w b v1 r9 s)(hn:c≠b)(hn9:c≠r9)(u:Value):RA (w.setCell ⟨c,j,none⟩ u) b v1 r9 s:=
 ⟨Zm h.1 hn,Zm h.2.1 hn9,Zm h.2.2.1 hn9,Zm h.2.2.2.1 hn9,Zm h.2.2.2.2 hn9⟩
structure Alg(α:Type) where
 one:S4→α
 rep:α→Int→Int→α
 group:Int→α→α
 back:Int→α
 start:α
 fin:α
 join:List α→α
 choose:List α→α
structure RxS where
 at_:Nat
 opened:Nat
 closed:List Nat
 marks:List (Nat×List UInt8)
abbrev Out(α:Type):=(Int×Nat)⊕(α×RxS)
def ahd(l:List UInt8)(k:Nat)(t:List UInt8):Bool:=t.isPrefixOf (l.drop k)
def RxS.go(s:RxS)(n:Nat):RxS:={s with at_:=s.at_+n}
def RxS.to(s:RxS)(n:Nat):RxS:={s with at_:=n}
def RxS.mark(s:RxS)(t:List UInt8):RxS:={s with marks:=s.marks++[(s.at_,t)]}
def ZaQ:List UInt8→Nat→Nat→Nat×Nat
 |[],c,n=>(n,c)
 |x::r,c,n=>if 48≤x.toNat∧x.toNat≤57∧c≠3 then ZaQ r (c+1) (n*10+(x.toNat-48))else(n,c)
def Zfw(l:List UInt8)(k:Nat):Option (Int×Int×Nat):=
 let m:=ZaQ (l.drop k) 0 0
 if m.2=0 then none
 else
  let k1:=k+m.2
  let x:=ZaQ (l.drop (k1+1)) 0 0
  let mx:Int:=if ahd l k1 [44]then(if x.2=0 then -1 else x.1)else m.1
  let k2:=if ahd l k1 [44]then k1+1+x.2 else k1
  if ahd l k2 [92,125]=false∨255<m.1∨255<mx∨(0≤mx∧mx<m.1)then none else some (m.1,mx,k2+2)
section
variable {α:Type} (A:Alg α) (l:List UInt8)
def ZbW:Nat→RxS→α→Out α
 |0,s,t=>.inr (t,s)
 |n+1,s,t=>
  if ahd l s.at_ [92,43]then ZbW n ((s.mark [92,43]).go 2) (A.rep t 1 (-1))
  else if ahd l s.at_ [92,63]then ZbW n ((s.mark [92,63]).go 2) (A.rep t 0 1)
  else if ahd l s.at_ [92,123]then
   match Zfw l (s.at_+2)with
   |none=>.inl (7,s.at_)
   |some (m,x,k)=>ZbW n (s.to k) (A.rep t m x)
  else if ahd l s.at_ [42]then ZbW n (s.go 1) (A.rep t 0 (-1))
  else .inr (t,s)
def Zdz:S4:=(ZaD (Zak ⟨#[97,108,110,117,109]⟩)).or (spn 95 95)
def ZbX:S4:=ZaD (Zak ⟨#[115,112,97,99,101]⟩)
def Za0:S4:=ZaD (Zak ⟨#[112,117,110,99,116]⟩)
def ZjI(b:UInt8):Option (S4×Bool):=
 if b=110 then some (spn 10 10,false)
 else if b=116 then some (spn 9 9,true)
 else if b=119 then some (Zdz,true)
 else if b=87 then some (Zdz.not,true)
 else if b=115 then some (ZbX,true)
 else if b=83 then some (ZbX.not,true)
 else if Za0.has b.toNat then some (spn b.toNat b.toNat,false)
 else none
def Zbs(C:Option (RxS→Out α))(begin:Nat)(s:RxS):Out α:=
 match C with
 |none=>.inl (4,begin)
 |some f=>
  match f {s with opened:=s.opened+1}with
  | .inl e=>.inl e
  | .inr (t,s')=>
    if ahd l s'.at_ [92,41]then .inr (A.group ((s.opened+1:Nat):Int) t,{s'.go 2 with closed:=s'.closed++[s.opened+1]})
    else .inl (8,begin)
def ZlI(C:Option (RxS→Out α))(s:RxS):Out α:=
 match l[s.at_+1]? with
 |none=>.inl (11,s.at_)
 |some b=>
  if ahd l s.at_ [92,40]then Zbs A l C s.at_ (s.go 2)
  else if ahd l s.at_ [92,41]then .inl (8,s.at_)
  else if 49≤b.toNat∧b.toNat≤57 then
   (if s.closed.contains (b.toNat-48)then .inr (A.back ((b.toNat-48:Nat):Int),s.go 2)else .inl (9,s.at_))
  else
   match ZjI b with
   |none=>.inl (2,s.at_)
   |some (c,m)=>.inr (A.one c,(if m then s.mark [92,b]else s).go 2)
def Zb0(C:Option (RxS→Out α))(s:RxS)(b:UInt8):Out α:=
 if b=92 then ZlI A l C s
 else if b=91 then
  match prs l (s.at_+1)with
  | .inl (e,p)=>.inl (e,p)
  | .inr (c,k)=>.inr (A.one c,s.to k)
 else if b=46 then .inr (A.one (spn 0 255),s.go 1)
 else .inr (A.one (spn b.toNat b.toNat),s.go 1)
def ZbL(k:Nat):Bool:=(l.drop (k+1)).isEmpty||ahd l (k+1) [92,41]||ahd l (k+1) [92,124]
def brS(C:Option (RxS→Out α))(inner:Bool):Nat→Bool→RxS→List α→Out α
 |0,_,s,ps=>.inr (A.join ps,s)
 |n+1,front,s,ps=>
  match l[s.at_]? with
  |none=>.inr (A.join ps,s)
  |some b=>
   if ahd l s.at_ [92,124]||(inner&&ahd l s.at_ [92,41])then .inr (A.join ps,s)
   else if front&&(ahd l s.at_ [92,123]||(ahd l s.at_ [92,43]||ahd l s.at_ [92,63]))then .inl (10,s.at_)
   else if ahd l s.at_ [36]&&ZbL l s.at_ then brS C inner n false (s.go 1) (ps++[A.fin])
   else
    match Zb0 A l C s b with
    | .inl e=>.inl e
    | .inr (t,s1)=>
      match ZbW A l (l.length+1) s1 t with
      | .inl e=>.inl e
      | .inr (t,s2)=>brS C inner n false s2 (ps++[t])
def branchS(C:Option (RxS→Out α))(inner:Bool)(s:RxS):Out α:=
 if ahd l s.at_ [94]then brS A l C inner (l.length+1) true (s.go 1) [A.start]else brS A l C inner (l.length+1) true s []
def Za1(C:Option (RxS→Out α))(inner:Bool):Nat→RxS→List α→Out α
 |0,s,ts=>.inr (A.choose ts,s)
 |n+1,s,ts=>
  if ahd l s.at_ [92,124]then
   match branchS A l C inner ((s.mark [92,124]).go 2)with
   | .inl e=>.inl e
   | .inr (t,s')=>Za1 C inner n s' (ts++[t])
  else .inr (A.choose ts,s)
def choiceS(C:Option (RxS→Out α))(inner:Bool)(s:RxS):Out α:=
 match branchS A l C inner s with
 | .inl e=>.inl e
 | .inr (t,s')=>Za1 A l C inner (l.length+1) s' [t]
def chS:Nat→RxS→Out α
 |0=>choiceS A l none true
 |n+1=>choiceS A l (some (chS n)) (decide (n+1<12))
def Zey:Out α:=if 250<l.length then .inl (3,250)else chS A l 12 ⟨0,0,[],[]⟩
end
theorem ZwS(s:ByteArray)(o:Option (Int→Bool))(ho:Zak s=o)(w:World):Calls Tryz.prog 174 #[.string s] w fun e w'=>e=.returned (.tuple #[ZcR (ZaD o),.bool o.isSome])∧Fr nob w w':=by
 subst ho;exact ZwL s w
def Zpt(w:World)(e:Ending)(w':World):Prop:=e=.returned (.tuple #[ZcR S4.zero,.int .i64 0,.int .i64 1])∧Fr nob w w'
theorem Zkb(l:List UInt8)(a:Int)(w:World)(h:a<0∨(l.length:Int)<a):
 Calls Tryz.prog 254 #[.string ⟨l.toArray⟩,.int .i64 a] w (Zpt w):=by
 obtain⟨w0,b⟩:∃w0,w0=w.alloc (.cells #[.int .u64 0,.int .u64 0,.int .u64 0,.int .u64 0] 132):=⟨_,rfl⟩;have hz:w0.heap[w.heap.size]? =some (.cells #[.int .u64 0,.int .u64 0,.int .u64 0,.int .u64 0] 132 (0,0)):=by rw[b];exact newAt _ _
 have F:=hid (show Fr nob w w0 by rw[b];exact(Fr.refl _ _).alloc _);have rz:=Zl hz;have HZ:=hid hz;have HW:=hid b;clear hz b;by_cases h0:a<0
 ·clear h;go_enter Tryz.func254,Tryz.ntmps254
  iterate 14 go_step
  rw[←HW.out];go_wp2;(try simp only[Exit.inBlock,Exit.then]);refine bodyPost_ret (Zx (s:=S4.zero) (by rfl) (by rfl) (by rfl) (by rfl) (setFour_heap HZ.out _ _ _ _)) rfl ⟨?_,setFour_frS F.out (Nat.le_refl _) _ _ _ _⟩;rfl
 ·have h1:(l.length:Int)<a:=h.resolve_left h0;clear h;go_enter Tryz.func254,Tryz.ntmps254
  iterate 14 go_step
  rw[←HW.out];go_wp2;(try simp only[Exit.inBlock,Exit.then]);refine bodyPost_ret (Zx (s:=S4.zero) (by rfl) (by rfl) (by rfl) (by rfl) (setFour_heap HZ.out _ _ _ _)) rfl ⟨?_,setFour_frS F.out (Nat.le_refl _) _ _ _ _⟩;rfl
theorem itmN_err{l:List UInt8}{a:Nat}{k:UInt8}{z:Int×Nat}(h:itmN l a k=.inl z):z.1≠0:=by
 unfold itmN at h;split at h
 ·injection h with h;subst h;simp
 ·split at h
  ·split at h
   ·injection h with h;subst h;simp
   ·cases h
  ·split at h
   ·cases h
   ·injection h with h;subst h;simp
theorem itm_err{l:List UInt8}{a:Nat}{z:Int×Nat}(h:itm l a=.inl z):z.1≠0:=by
 unfold itm at h;split at h
 ·injection h with h;subst h;simp
 ·split at h
  ·cases h
  ·split at h
   ·exact itmN_err h
   ·cases h
abbrev PInv(l:List UInt8)(w0:World)(b r4 r9:Nat)(F:(Int×Nat)⊕(S4×Nat))(n:Nat)(wr:World):Prop:=
 ∃R s,Zdy b l 0 s R wr∧At4 wr r9 s∧At4 wr r4 S4.zero∧Fr nob w0 wr∧ZjH l n R=F∧ZoR l n R
theorem Zkc(l:List UInt8)(a:Nat)(w:World)(hl:l.length≤100000)(ha:a≤l.length)(hE:Env w):
 Calls Tryz.prog 254 #[.string ⟨l.toArray⟩,.int .i64 a] w fun e w'=>e=.returned (Zp8 (prs l a))∧Fr nob w w':=by
 obtain⟨w0,M⟩:∃w0,w0=(w.alloc (.cells #[.int .u64 0,.int .u64 0,.int .u64 0,.int .u64 0] 132)).alloc (.cells #[.string ⟨l.toArray⟩,.int .i64 a,.int .i64 0,.int .i64 0] 323):=⟨_,rfl⟩;have f0:Fr nob w w0:=by rw[M];exact((Fr.refl _ _).alloc _).alloc _
 have h7:=hE.1;have e1:w0.heap[w.heap.size]? =some (.cells #[.int .u64 0,.int .u64 0,.int .u64 0,.int .u64 0] 132 (0,0)):=by rw[M];exact Ze _ (newAt _ _)
 have L:Rd w0 (w.heap.size+1) l a 0 0:=by
  rw[M];unfold Rd;have:=newAt (w.alloc (.cells #[.int .u64 0,.int .u64 0,.int .u64 0,.int .u64 0] 132)) (.cells #[.string ⟨l.toArray⟩,.int .i64 a,.int .i64 0,.int .i64 0] 323);simpa using this
 have B:Zj3≤w.heap.size+1:=Env.big hE;have c9:=hE.on f0;obtain⟨b,hb⟩:∃b,w.heap.size+1=b:=⟨_,rfl⟩;rw[hb]at L B;have j6:=Zl L;have j0:(a:Int)≤l.length:=by omega
 have i9:(0:Int)≤a:=by omega
 obtain⟨d0,b0⟩:∃d,[94].isPrefixOf (l.drop a)=d:=⟨_,rfl⟩;have a8:∀w',Fr nob w0 w'→_:=fun w' f=>Zbr b l [94] a 0 0 w' (by omega) (by simp) ha (L.on f);rw[b0]at a8;have C0:=hid a8;have g5:=hid L;have g9:=hid e1;have e4:=hid f0;have e8:=hid c9;have g6:=hid M;have e7:=hid hb;have j2:w.heap.size<b:=by omega
 clear a8 L e1 f0 c9 M hE hb h7;have X:=hid b0;clear b0;go_enter Tryz.func254,Tryz.ntmps254;go_wp2_with fail;rw[←g6.out];simp only[e7.out];refine(C0.out w0 (Fr.refl _ _)).mono ?_;rintro e w1 ⟨rfl,f1⟩;have a3:=hid (g5.out.on f1);have c6:=hid (f1.heap g9.out (fun x=>x));have b6:=hid (e4.out.trans' f1);have b7:=hid (e8.out.on f1);clear f1;obtain⟨a2,j⟩:∃x,(if d0 then a+1 else a)=x:=⟨_,rfl⟩;have h5:a2≤l.length:=by
  rw[←j];split
  ·next h=>subst h;have:=(List.getElem?_eq_some_iff.1 (ZlH.1 X.out)).1;omega
  ·exact ha
 have d2:prs l a=Zex d0 (ZjH l (l.length+1) (prt l a2)):=by
  rw[←j];cases d0
  ·exact Zps X.out
  ·exact ZnR X.out
 have c0:=hid d2;have e6:=hid j;clear j d2;go_upto_if 25 with(fail)
 go_cut [] (fun w'=>Rd w' b l (a2:Nat) 0 0∧w'.heap[w.heap.size]? =some (.cells #[.int .u64 0,.int .u64 0,.int .u64 0,.int .u64 0] 132 (0,0))∧Fr nob w w'∧Env w')
 case first=>
  have j:=e6.out;cases d0
  ·rw[if_neg (by decide)]at j;subst j;go_wp2;go_meet
   case rel=>exact⟨a3.out,c6.out,b6.out,b7.out⟩
  ·rw[if_pos rfl]at j;subst j;have j7:=Zl a3.out;go_wp2;go_meet
   case rel=>exact⟨by rw[show((a+1:Nat):Int)=(a:Int)+1 by omega];exact Za a3.out 1 _,Zc c6.out (by simp only;omega) _,Fr.setCell (p:=⟨b,1,none⟩) b6.out (fun h=>absurd h (by simp only;omega)) _,b7.out.on2 (Fr.setCell (S:=fun k=>k=b) (p:=⟨b,1,none⟩) (Fr.refl _ _) (fun _=>rfl) _) B⟩
 case rest=>
 obtain⟨d9,e2,c7,d5⟩:=hcut;have c4:=hid d9;have h0:=hid e2;have e5:=hid c7;have b8:=hid d5;clear d9 e2 c7 d5;go_wp2_with fail;refine(part_any b l a2 0 wc hl h5 B b8.out c4.out).mono ?_;rintro e w3 ⟨s,rfl,hs,f3,u⟩;have b4:=f3.heap h0.out (fun e=>by omega);obtain⟨w4,U⟩:∃w4,w4=w3.alloc (.cells #[.int .u64 s.a,.int .u64 s.b,.int .u64 s.c,.int .u64 s.d] 132):=⟨_,rfl⟩;have I:Fr nob w3 w4:=by rw[U];exact(Fr.refl _ _).alloc _
 have d4:=lt_heap c4.out;have e3:=I.heap b4 (fun x=>x);have i5:=lt_heap b4;obtain⟨r9,Q⟩:∃r,w3.heap.size=r:=⟨_,rfl⟩;have c8:At4 w4 r9 s:=by rw[U,←Q];exact newAt _ _
 have j1:b<r9:=by rw[←Q];exact Nat.lt_of_lt_of_le d4 f3.size
 have F4:=hid ((e5.out.trans f3 (fun i hi e=>by omega)).trans' I);have e9:=hid ((b8.out.on2 f3 B).on I);have J:=u.to (w':=w4) (fun x r q h=>h.on I);have hF:=c0.out;have d3:ZoR l (l.length+1) (prt l a2):=fun x hx=>by
  have:=prt_next hx;exact⟨this.2.1,by omega⟩
 obtain⟨F,a7⟩:∃F,ZjH l (l.length+1) (prt l a2)=F:=⟨_,rfl⟩;rw[a7]at hF;have HF:=hid hF;have g7:=hid U;have HI:=hid (show PInv l w b w.heap.size r9 F (l.length+1) w4 from⟨_,s,J,c8,e3,F4.out,a7,d3⟩);have H9:=hid Q;clear b4 U I e3 c8 u J hF d3 a7 Q hs f3;go_wp2_with fail;rw[←g7.out];simp only[H9.out]
 go_loopg [] (l.length+1) (fun n wr=>PInv l w b w.heap.size r9 F n wr∧Env wr)
 case atStart=>exact⟨HI.out,e9.out⟩
 case round=>
  obtain⟨⟨R,o,u,h9,hz,d7,hF,hN⟩,d1⟩:=hrel;have rz:=Zl hz;have i2:=Zl h9;have E:=hid u;have HZ:=hid hz;have a1:=hid h9;have a0:=hid d7;have f8:=hid d1;clear u hz h9 d7 d1;have Z:=hid hF;clear hF;cases R with
  |inl z=>
   obtain⟨a',h1,h2,h3⟩:=E.out;have rr:=Zl h3;have t1:(z.1==0)=false:=by simpa using h2
   have t2:(z.1 !=0)=true:=by simpa using h2
   have g1:=hid (Z.out.symm:F=.inl z);have O:=hid h3;clear h1 h2 h3 hN;have C:w.heap.size≠b:=by omega
   have HQ:=hid (show RQ wr b (.int .i64 z.1) (.int .i64 z.2)from⟨cell_at O.out rfl,cell_at O.out rfl⟩);have g4:=hid (show RQ wr.drew b (.int .i64 z.1) (.int .i64 z.2)from⟨cell_at O.out rfl,cell_at O.out rfl⟩);have a5:=hid (show At4 wr.drew w.heap.size S4.zero from HZ.out);have W:=hid a0.out.drew;go_wp2_with fail
   go_region_held3 (fun w'=>RQ w' b (.int .i64 z.1) (.int .i64 z.2)) (repeat(first|(with_reducible exact HQ.out)|(with_reducible exact g4.out)|(with_reducible refine RQ.set ?_ C _)|(with_reducible refine RQ.drew ?_))) (fail)
   all_goals
    go_wp2;(try simp only[Exit.inBlock,Exit.then]);refine bodyPost_ret (Zx (s:=S4.zero) rfl rfl rfl rfl (setFour_heap a5.out _ _ _ _)) rfl ⟨?_,setFour_frS W.out (Nat.le_refl _) _ _ _ _⟩;rw[HF.out,g1.out];cases d0<;>rfl
  |inr x=>
   obtain⟨o1,n0⟩:=x;obtain⟨e0,h3⟩:=E.out;simp only at e0;subst e0;obtain⟨b1,h6⟩:=hN _ rfl;simp only at b1 h6 h3 i2;obtain⟨m,rfl⟩:∃m,gk=m+1:=⟨gk-1,by omega⟩;have rr:=Zl h3;have j3:(n0:Int)≤l.length:=by omega
   have i6:(0:Int)≤n0:=by omega
   have j5:IntKind.i64.wrap ((n0:Int)+1)=(n0:Int)+1:=IntWalk.i64_in _ (by omega);obtain⟨D,hD⟩:∃d,[93].isPrefixOf (l.drop n0)=d:=⟨_,rfl⟩;have a9:=Zbr b l [93] n0 0 0 wr (by omega) (by simp) b1 h3;rw[hD]at a9;have C1:=hid a9;have HR:=hid h3;have HD:=hid hD;clear a9 h3 hD hN E;cases D with
   |true=>
    have g0:=hid (show F=.inr (o,n0) by rw[←Z.out];exact Zj9 (ZlH.1 HD.out));go_wp2_with fail;refine C1.out.mono ?_;rintro e w5 ⟨rfl,f5⟩;have H:=hid (HR.out.on f5);have P:=hid (f5.heap HZ.out (fun x=>x));have v:=hid (f5.heap a1.out (fun x=>x));have F5:=hid (a0.out.trans' f5);obtain⟨N,g⟩:∃N,(if d0 then o.not else o)=N:=⟨_,rfl⟩;have c1:=hid g;clear g;have i3:=Zl H.out;have h8:=Zl v.out;go_upto_block 2 with(fail)
    go_cut [] (fun w'=>Rd w' b l n0 0 0∧At4 w' r9 N∧At4 w' w.heap.size S4.zero∧Fr nob w w')
    case first=>
     have g:=c1.out;cases d0
     ·rw[if_neg (by decide)]at g;subst g;go_wp2;go_meet
      case rel=>exact⟨H.out,v.out,P.out,F5.out⟩
     ·rw[if_pos rfl]at g;go_wp2_with fail;refine(not_lit o w5).mono ?_;rw[g];rintro e w6 ⟨rfl,f6⟩;have y:=hid (f6.heap v.out (fun x=>x));have i0:=Zl y.out;go_wp2;go_meet
      case rel=>exact⟨Zy (H.out.on f6) (by omega) _ _ _ _,setFour_heap y.out _ _ _ _,Zy (f6.heap P.out (fun x=>x)) (by omega) _ _ _ _,setFour_frS (F5.out.trans' f6) (by omega) _ _ _ _⟩
    case rest=>
    obtain⟨b2,a6,b5,f7⟩:=hcut;have F7:=hid f7;clear f7 i3 h8;have j8:=Zl b2;have i1:=Zl a6;have j9:=Zl b5;have a4:=hid b5;have c5:=hid b2;have A:=hid a6;clear b2 a6 b5;have C:w.heap.size≠b:=by omega
    have d8:w.heap.size≠r9:=by omega
    have c2:=hid (show RA wc b (.int .i64 n0) r9 N from⟨cell_at c5.out rfl,Q4.of A.out⟩);have c3:=hid (show RA (World.drew wc) b (.int .i64 n0) r9 N from⟨cell_at c5.out rfl,Q4.of A.out⟩);have a5:=hid (show At4 (World.drew wc) w.heap.size S4.zero from a4.out);have W:=hid (Fr.drew F7.out);go_wp2_with fail
    go_region_held3 (fun w'=>RA w' b (.int .i64 n0) r9 N) (repeat(first|(with_reducible exact c2.out)|(with_reducible exact c3.out)|(with_reducible refine RA.set ?_ C d8 _)|(with_reducible refine RA.drew ?_))) (fail)
    all_goals
     go_wp2;(try simp only[Exit.inBlock,Exit.then]);refine bodyPost_ret (Zx (s:=N) rfl rfl rfl rfl (setFour_heap a5.out _ _ _ _)) rfl ⟨?_,setFour_frS W.out (Nat.le_refl _) _ _ _ _⟩;rw[HF.out,g0.out,←c1.out];cases d0<;>rfl
   |false=>
    have C:l[n0]?≠some 93:=fun e=>by rw[ZlH.2 e]at HD;exact absurd HD.out (by simp)
    have f9:=hid (show ZjH l m (orF o (prt l n0))=F by rw[←Z.out];exact(Znf C).symm);have g3:=hid (show ZoR l m (orF o (prt l n0))from Zka (by omega));clear C;go_wp2_with fail;refine C1.out.mono ?_;rintro e w5 ⟨rfl,f5⟩;have H:=hid (HR.out.on f5.drew);have P:=hid (f5.drew.heap HZ.out (fun x=>x));have v:=hid (f5.drew.heap a1.out (fun x=>x));have F5:=hid (a0.out.trans' f5.drew);have b9:=hid (f8.out.on f5.drew);have i7:=hid (Q4.of (f5.heap a1.out (fun x=>x)));have i4:=hid (Q4.of v.out);go_wp2_with fail
    go_region_with (first|(go_at_call 263;(refine(part_any b l n0 0 w5.drew hl b1 B b9.out H.out).mono ?_);rintro e w6 ⟨s',rfl,j4,f6,K⟩;have y:=hid (f6.heap v.out (fun e=>by omega));have i8:=hid (Q4.of y.out);have h4:=hid (f6.heap P.out (fun e=>by omega));have f2:=hid (b9.out.on2 f6 B);have F6:=hid (F5.out.trans f6 (fun i hi e=>by omega));have G:=hid (K.or (t:=o));have i0:=Zl y.out;clear f6 K)|(go_at_call 264;(refine(ZfK o s' w6).mono ?_);obtain⟨N,g⟩:∃N,o.or s'=N:=⟨_,rfl⟩;rw[g]at G⊢;rintro e w7 ⟨rfl,f7⟩;have A:=hid (f7.heap y.out (fun x=>x));have c2:=hid (Q4.of A.out);have a4:=hid (f7.heap h4.out (fun x=>x));have f4:=hid (f2.out.on f7);have F7:=hid (F6.out.trans' f7);have Y:=hid (G.out.to (w':=w7) (fun x r q h=>h.on f7));have i1:=Zl A.out;clear f7))
    all_goals
     have V:=f9.out;have d6:=g3.out;obtain⟨w8,b3⟩:∃w8,w8=(((w7.setCell ⟨r9,0,none⟩ (.int .u64 N.a)).setCell ⟨r9,1,none⟩ (.int .u64 N.b)).setCell ⟨r9,2,none⟩ (.int .u64 N.c)).setCell ⟨r9,3,none⟩ (.int .u64 N.d):=⟨_,rfl⟩;have g2:=hid (show PInv l w b w.heap.size r9 F m w8∧Env w8 by
      rw[b3];refine⟨⟨_,N,Y.out.to (fun x r q h=>Zy h (by omega) _ _ _ _),setFour_heap A.out _ _ _ _,Zy a4.out (by omega) _ _ _ _,setFour_frS F7.out (by omega) _ _ _ _,V,d6⟩,f4.out.on2 (ZS _ _ _ _ _ _) (by omega)⟩)
     have g8:=hid b3;clear b3 V d6;go_wp2_with fail;rw[←g8.out];go_roundg m
     case measure=>omega
     case rel=>exact g2.out
def prz(l:List UInt8)(a:Int):(Int×Nat)⊕(S4×Nat):=if a<0∨(l.length:Int)<a then .inl (1,0)else prs l a.toNat
theorem ZnS{l:List UInt8}{a:Int}(h:a<0∨(l.length:Int)<a):prz l a=.inl (1,0):=if_pos h
theorem Zkd{l:List UInt8}{a:Nat}(h:a≤l.length):prz l a=prs l a:=by unfold prz;rw[if_neg (by omega)];rfl
theorem ZfL(l:List UInt8)(a:Int)(w:World)(hl:l.length≤100000)(hE:Env w):
 Calls Tryz.prog 254 #[.string ⟨l.toArray⟩,.int .i64 a] w fun e w'=>e=.returned (Zp8 (prz l a))∧Fr nob w w':=by
 by_cases h:a<0∨(l.length:Int)<a
 ·rw[ZnS h];exact Zkb l a w h
 ·obtain⟨n,rfl⟩:∃n:Nat,a=n:=⟨a.toNat,by omega⟩;rw[Zkd (by omega)];exact Zkc l n w hl (by omega) hE
theorem prt_err{l:List UInt8}{a:Nat}{z:Int×Nat}(h:prt l a=.inl z):z.1≠0:=by
 unfold prt at h;split at h
 ·next e he=>injection h with h;subst h;exact itm_err he
 ·split at h
  ·split at h
   ·next e he=>injection h with h;subst h;exact itm_err he
   ·split at h
    ·split at h
     ·cases h
     ·injection h with h;subst h;simp
    ·injection h with h;subst h;simp
  ·cases h
theorem lop_err{l:List UInt8}:∀{n a:Nat} {o:S4} {z:Int×Nat},a≤l.length→l.length<n+a→lop l n a o=.inl z→z.1≠0
 |0,a,_,_,h,h',_=>by omega
 |n+1,a,o,z,h,h',hz=>by
  rw[lop]at hz;split at hz
  ·cases hz
  ·cases hp:prt l a with
   |inl y=>rw[hp]at hz;injection hz with hz;subst hz;exact prt_err hp
   |inr x=>rw[hp]at hz;have:=prt_next hp;exact lop_err this.2.1 (by omega) hz
theorem prs_err{l:List UInt8}{a:Nat}{z:Int×Nat}(h:prs l a=.inl z):z.1≠0:=by
 have c:∀b d,Zp7 d (bod l b)=.inl z→z.1≠0:=by
  intro b d hb;unfold bod at hb;cases hp:prt l b with
  |inl y=>rw[hp]at hb;injection hb with hb;subst hb;exact prt_err hp
  |inr x=>
   rw[hp]at hb;simp only at hb;cases hq:lop l (l.length+1) x.2 x.1 with
   |inl y=>rw[hq]at hb;injection hb with hb;subst hb;have:=prt_next hp;exact lop_err this.2.1 (by omega) hq
   |inr y=>rw[hq]at hb;cases hb
 by_cases hc:l[a]? =some 94
 ·rw[Zpn hc]at h;exact c _ _ h
 ·rw[Zpo hc]at h;exact c _ _ h
theorem prs_in{l:List UInt8}{a:Nat}{y:S4×Nat}(h:prs l a=.inr y):y.1.fit∧a<y.2∧y.2≤l.length:=by
 have c:∀b d,Zp7 d (bod l b)=.inr y→y.1.fit∧b<y.2∧y.2≤l.length:=by
  intro b d hb;unfold bod at hb;cases hp:prt l b with
  |inl z=>rw[hp]at hb;cases hb
  |inr x=>
   rw[hp]at hb;simp only at hb;cases hq:lop l (l.length+1) x.2 x.1 with
   |inl z=>rw[hq]at hb;cases hb
   |inr z=>
    rw[hq]at hb;injection hb with hb;subst hb;have h1:=prt_next hp;have h2:=lop_next h1.2.2 hq;refine⟨?_,by simp only;omega,by simp only;omega⟩;cases d
    ·exact h2.2.2
    ·exact ZnE _
 by_cases hc:l[a]? =some 94
 ·rw[Zpn hc]at h;have:=c _ _ h;exact⟨this.1,by omega,this.2.2⟩
 ·rw[Zpo hc]at h;exact c _ _ h
end Go.Proofs.YtkfddjopbocpkaaGreatDoor
