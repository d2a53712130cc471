/-
  Merged texts of this claim: BrkG, BrkH, BreP, BrkJ, BrkK, BrkL, BrkO, BrkM, BrkN, BrkI, BrkQ.
-/
import Derived.Deep.DeepCutAuto
import Derived.Deep.RegionWith
import Derived.Test.YtkfddjopbocpkaaGreatDoorM01
import Derived.Test.YtkfddjopbocpkaaGreatDoorM07
import Derived.Test.YtkfddjopbocpkaaGreatDoorM08
set_option linter.unusedVariables false
set_option linter.unusedSimpArgs false
set_option maxRecDepth 100000
set_option maxHeartbeats 4000000
namespace Go.Proofs.YtkfddjopbocpkaaGreatDoor
open Go.Lib (hid)
open Go.RowKit
theorem Zx{w:World}{b k:Nat}{o:Obj}(hk:w.heap[k]? =some o)(hne:k≠b)(v0 v1 v2 v3:Value):(Zau w b v0 v1 v2 v3).heap[k]? =some o:=
 Zc (Zc (Zc (Zc hk hne _) hne _) hne _) hne _
theorem setFour_frS{S:Nat→Prop}{w a:World}{b:Nat}(f:Fr S a w)(hb:a.heap.size≤b)(v0 v1 v2 v3:Value):Fr S a (Zau w b v0 v1 v2 v3):=by
 have h:∀(x:World) (j:Nat) (v:Value),Fr S a x→Fr S a (x.setCell ⟨b,j,none⟩ v):=fun x j v hx=>hx.setCell (p:=⟨b,j,none⟩) (fun h=>absurd h (Nat.not_lt.2 hb)) v;exact h _ _ _ (h _ _ _ (h _ _ _ (h _ _ _ f)))
theorem ZcI.to{b:Nat}{l:List UInt8}{p:Int}{s:S4}{R:(Int×Nat)⊕(S4×Nat)}{w w':World}(h:ZcI b l p s R w)(f:∀x r q,Rd w b l x r q→Rd w' b l x r q):ZcI b l p s R w':=by
 cases R with
 |inr x=>exact⟨h.1,f _ _ _ h.2⟩
 |inl z=>obtain⟨a',h1,h2,h3⟩:=h;exact⟨a',h1,h2,f _ _ _ h3⟩
theorem part_any(b:Nat)(l:List UInt8)(a:Nat)(p:Int)(w:World)(hl:l.length≤100000)(ha:a≤l.length)(hb:Zid≤b)(hE:Env w)(h:Rd w b l a 0 p):
 Calls Tryz.prog 263 #[.pointer (some ⟨b,0,none⟩)] w (Znd b l p (prt l a) w):=by
 obtain⟨R,hR⟩:∃R,prt l a=R:=⟨_,rfl⟩;rw[hR];have HR:=hid hR;clear hR;have rr:=Zn h;have hbw:=lt_heap h;obtain⟨w0,hw0⟩:∃w0,w0=w.alloc (.cells #[.int .u64 0,.int .u64 0,.int .u64 0,.int .u64 0] 132):=⟨_,rfl⟩;have f0:Fr nob w w0:=by rw[hw0];exact(Fr.refl _ _).alloc _
 have HZ0:=hid (show w0.heap[w.heap.size]? =some (.cells #[.int .u64 0,.int .u64 0,.int .u64 0,.int .u64 0] 132 (0,0)) by rw[hw0];exact newAt _ _);have FW0:=hid f0;have H0:=hid (h.on f0);have HE0:=hid (hE.on f0);have HW0:=hid hw0;have hal:(a:Int)≤l.length:=by omega
 clear hw0 h hE f0;go_enter Tryz.func263,Tryz.ntmps263
 go_wp2_with fail
 rw[←HW0.out];refine(item_any b l a p w0 hl ha hb HE0.out H0.out).mono ?_;rintro e w1 ⟨s,o,rfl,hs,f1,hend⟩;have hbw0:=lt_heap H0.out;have hz1:=f1.heap HZ0.out (fun e=>by omega);have hlz1:=lt_heap hz1;have hbw1:b<w1.heap.size:=Nat.lt_of_lt_of_le hbw0 f1.size;obtain⟨w2,hw2⟩:∃w2,w2=w1.alloc (.cells #[.int .u64 s.a,.int .u64 s.b,.int .u64 s.c,.int .u64 s.d,.bool o] 332):=⟨_,rfl⟩;have f12:Fr nob w1 w2:=by rw[hw2];exact(Fr.refl _ _).alloc _
 have hz2:=f12.heap hz1 (fun x=>x);have hx2:w2.heap[w1.heap.size]? =some (.cells #[.int .u64 s.a,.int .u64 s.b,.int .u64 s.c,.int .u64 s.d,.bool o] 332 (0,0)):=by rw[hw2];exact newAt _ _
 have rx2:=Zd hx2;have rz2:=Zn hz2;have F2:=hid ((FW0.out.any.trans f1 (fun i hi e=>e)).trans f12 (fun i hi e=>e.elim));have HE2:=hid ((HE0.out.on2 f1 hb).on f12);have HZ2:=hid hz2;have HX2:=hid hx2;have HW2:=hid hw2;have hend2:=hend.to (w':=w2) (fun x r q h=>h.on f12);have HS:=hid hs;clear hw2 hz1 hz2 hx2 f1 f12 hend hs rr;cases hi:itm l a with
 |inl z=>
  rw[hi]at hend2;obtain⟨a',h1,h2,h3⟩:=hend2;have HRV:=hid (Zli hi);have r4:=Zn h3;have hz10:(z.1 !=0)=true:=by simpa using h2
  have HEND:=hid (show ZcI b l p s (.inl z) w2 from⟨a',h1,h2,h3⟩);have C1:=hid trivial;have C2:=hid trivial;clear h3 hi h1
  go_wp2_with fail
  rw[←HW2.out];refine region_fr_all (by kernel_rfl) (by kernel_rfl) ?_
  repeat(go_big_quiet_step (fail))
  refine wpQuiet_nil ?_;intro wC fC;go_wp2
  (try simp only[Exit.inBlock,Exit.then])
  have hzc:=fC.heap HZ2.out (fun x=>x);refine bodyPost_ret (Zu (s:=s) rfl rfl (setFour_heap hzc _ _ _ _)) rfl ⟨s,rfl,HS.out,setFour_frS (F2.out.trans fC (fun i hi e=>e.elim)) (Nat.le_refl _) _ _ _ _,?_⟩;rw[←HR.out,HRV.out];exact HEND.out.to fun x r q h=>Zx (h.on fC) (by omega) _ _ _ _
 |inr x=>
  rw[hi]at hend2;obtain⟨h1,h2,h3⟩:=hend2;have hn:=ZcO hi;have hnl:(x.next:Int)≤l.length:=by omega
  have hn0:(0:Int)≤x.next:=by omega
  have r4:=Zn h3;have H3:=hid h3;obtain⟨d1,hd1⟩:∃d,[45].isPrefixOf (l.drop x.next)=d:=⟨_,rfl⟩;obtain⟨d2,hd2⟩:∃d,[45,93].isPrefixOf (l.drop x.next)=d:=⟨_,rfl⟩;have hc1:∀w',Fr nob w2 w'→_:=fun w' f=>Za3 b l [45] x.next 0 p w' (by omega) (by simp) (by omega) (h3.on f);have hc2:∀w',Fr nob w2 w'→_:=fun w' f=>Za3 b l [45,93] x.next 0 p w' (by omega) (by simp) (by omega) (h3.on f);rw[hd1]at hc1;rw[hd2]at hc2;have C1:=hid hc1;have C2:=hid hc2;have hrg:=Zlh l x.next;rw[hd1,hd2]at hrg;have HI:=hid hi;have H1:=hid h1;have H2:=hid h2;clear hc1 hc2 hd1 hd2 h3 hi h1 h2;by_cases hcase:rng l x.next=false
  ·have HRV:=hid (Zlj HI.out hcase);have HEND:=hid (show ZcI b l p s (.inr (x.set,x.next)) w2 from⟨H1.out,H3.out⟩);rw[hcase]at hrg;have HG:=hid hrg;clear hrg hcase;cases d1 with
   |false=>
    go_wp2_with fail
    rw[←HW2.out];refine region_fr_all (by kernel_rfl) (by kernel_rfl) ?_
    repeat(go_big_quiet_step ((first|(with_reducible exact calls_fr (C1.out _ (grown_fr _ _ _)))|(with_reducible exact calls_fr (C2.out _ (grown_fr _ _ _))))))
    refine wpQuiet_nil ?_;intro wC fC;go_wp2
    (try simp only[Exit.inBlock,Exit.then])
    have hzc:=fC.heap HZ2.out (fun x=>x);refine bodyPost_ret (Zu (s:=s) rfl rfl (setFour_heap hzc _ _ _ _)) rfl ⟨s,rfl,HS.out,setFour_frS (F2.out.trans fC (fun i hi e=>e.elim)) (Nat.le_refl _) _ _ _ _,?_⟩;rw[←HR.out,HRV.out];exact HEND.out.to fun x r q h=>Zx (h.on fC) (by omega) _ _ _ _
   |true=>
    cases d2 with
    |true=>
     go_wp2_with fail
     rw[←HW2.out];refine region_fr_all (by kernel_rfl) (by kernel_rfl) ?_
     repeat(go_big_quiet_step ((first|(with_reducible exact calls_fr (C1.out _ (grown_fr _ _ _)))|(with_reducible exact calls_fr (C2.out _ (grown_fr _ _ _))))))
     refine wpQuiet_nil ?_;intro wC fC;go_wp2
     (try simp only[Exit.inBlock,Exit.then])
     have hzc:=fC.heap HZ2.out (fun x=>x);refine bodyPost_ret (Zu (s:=s) rfl rfl (setFour_heap hzc _ _ _ _)) rfl ⟨s,rfl,HS.out,setFour_frS (F2.out.trans fC (fun i hi e=>e.elim)) (Nat.le_refl _) _ _ _ _,?_⟩;rw[←HR.out,HRV.out];exact HEND.out.to fun x r q h=>Zx (h.on fC) (by omega) _ _ _ _
    |false=>
     have tn:(l.length:Int)≤(x.next:Int)+1:=by
      have:=HG.out;simp at this;omega
     go_wp2_with fail
     rw[←HW2.out];refine region_fr_all (by kernel_rfl) (by kernel_rfl) ?_
     repeat(go_big_quiet_step ((first|(with_reducible exact calls_fr (C1.out _ (grown_fr _ _ _)))|(with_reducible exact calls_fr (C2.out _ (grown_fr _ _ _))))))
     refine wpQuiet_nil ?_;intro wC fC;go_wp2
     (try simp only[Exit.inBlock,Exit.then])
     have hzc:=fC.heap HZ2.out (fun x=>x);refine bodyPost_ret (Zu (s:=s) rfl rfl (setFour_heap hzc _ _ _ _)) rfl ⟨s,rfl,HS.out,setFour_frS (F2.out.trans fC (fun i hi e=>e.elim)) (Nat.le_refl _) _ _ _ _,?_⟩;rw[←HR.out,HRV.out];exact HEND.out.to fun x r q h=>Zx (h.on fC) (by omega) _ _ _ _
  ·have hcase:rng l x.next=true:=by simpa using hcase
   rw[hcase]at hrg;simp only[Bool.and_eq_true,decide_eq_true_eq,Bool.not_eq_true',eq_comm (a:=true)]at hrg;obtain⟨⟨htn,rfl⟩,rfl⟩:=hrg;have tn:¬((l.length:Int)≤(x.next:Int)+1):=by omega
   have HCASE:=hid hcase;clear hcase
   go_wp2_with fail
   rw[←HW2.out];refine region_fr_all (by kernel_rfl) (by kernel_rfl) ?_
   repeat(go_big_quiet_step ((first|(with_reducible exact calls_fr (C1.out _ (grown_fr _ _ _)))|(with_reducible exact calls_fr (C2.out _ (grown_fr _ _ _))))))
   refine wpQuiet_nil ?_;intro wC fC;obtain⟨w3,hw3⟩:∃w3,w3=wC.setCell ⟨b,1,none⟩ (.int .i64 ((x.next:Int)+1)):=⟨_,rfl⟩;have hR3:Rd w3 b l ((x.next+1:Nat):Int) 0 p:=by
    rw[hw3,show((x.next+1:Nat):Int)=(x.next:Int)+1 by omega];exact Za (fC.heap H3.out (fun x=>x)) 1 _
   have f23:Fr (fun k=>k=b) w2 w3:=by rw[hw3];exact Fr.setCell (S:=fun k=>k=b) (p:=⟨b,1,none⟩) fC.any (fun _=>rfl) _
   have hz3:=f23.heap HZ2.out (fun e=>by omega);have hx3:=f23.heap HX2.out (fun e=>by omega);have F3:=hid (F2.out.trans f23 (fun i hi e=>e));have HE3:=hid (HE2.out.on2 f23 hb);have HW3:=hid hw3;have HR3:=hid hR3;have HZ3:=hid hz3;have HX3:=hid hx3;clear hw3 hR3 f23 hz3 hx3
   go_wp2_with fail
   rw[←HW3.out];refine(item_any b l (x.next+1) p w3 hl (by omega) hb HE3.out HR3.out).mono ?_;rintro e w4 ⟨s',o',rfl,hs',f4,hend4⟩;have hz4:=f4.heap HZ3.out (fun e=>by omega);have hx4:=f4.heap HX3.out (fun e=>by omega);have hlz4:=lt_heap hz4;have hlx4:=lt_heap hx4;obtain⟨a',r,q,ha',hR4,hbad,hgood⟩:=ZjU HI.out HCASE.out hend4;have hbw4:=lt_heap hR4;obtain⟨w5,hw5⟩:∃w5,w5=w4.alloc (.cells #[.int .u64 s'.a,.int .u64 s'.b,.int .u64 s'.c,.int .u64 s'.d,.bool o'] 332):=⟨_,rfl⟩;have f45:Fr nob w4 w5:=by rw[hw5];exact(Fr.refl _ _).alloc _
   have hz5:=f45.heap hz4 (fun x=>x);have hx5:=f45.heap hx4 (fun x=>x);have hy5:w5.heap[w4.heap.size]? =some (.cells #[.int .u64 s'.a,.int .u64 s'.b,.int .u64 s'.c,.int .u64 s'.d,.bool o'] 332 (0,0)):=by rw[hw5];exact newAt _ _
   have hR5:=hR4.on f45;have hss:s=x.set:=H1.out;have hoo:o=x.one.isSome:=H2.out;rw[HR.out,←hss]at hbad hgood;rw[←hoo]at hbad hgood;have hl1:=ZkI s;have hl2:=ZkI s';obtain⟨m1,hm1⟩:∃m,lst s=m:=⟨_,rfl⟩;obtain⟨m2,hm2⟩:∃m,lst s'=m:=⟨_,rfl⟩;have hT5:Env w5:=((HE3.out.on2 f4 hb).on f45);have hc3:∀w',Fr nob w5 w'→_:=fun w' f=>Zbj s o w' HS.out (hT5.on f).1;have hc4:∀w',Fr nob w5 w'→_:=fun w' f=>Zbj s' o' w' hs' (hT5.on f).1;have LX0:=fun w' (h:Env w')=>Zbj s o w' HS.out h.1;have LY0:=fun w' (h:Env w')=>Zbj s' o' w' hs' h.1;rw[hm1]at LX0;rw[hm2]at LY0;have LX:=hid LX0;have LY:=hid LY0;clear LX0 LY0;rw[hm1]at hl1 hc3 hbad hgood;rw[hm2]at hl2 hc4 hbad hgood;have hfit:=ZbC m1 m2;have hsp:=fun w=>Zgz m1 m2 w hl1 hl2;obtain⟨S,hS⟩:∃S,spn m1 m2=S:=⟨_,rfl⟩;rw[hS]at hbad hgood hfit hsp;have ry5:=Zd hy5;have rx5:=Zd hx5;have rz5:=Zn hz5;have F5:=hid ((F3.out.trans f4 (fun i hi e=>e)).trans f45 (fun i hi e=>e.elim))
   have HZ5:=hid hz5;have HX5:=hid hx5;have HY5:=hid hy5;have HR5:=hid hR5;have HW5:=hid hw5;have C3:=hid hc3;have C4:=hid hc4;have CS:=hid hsp;have HB:=hid hbad;have HG:=hid hgood;have HF:=hid hfit;have HT5:=hid hT5;clear hz4 hx4 hR4 hbad hgood hw5 f45 hz5 hx5 hy5 hR5 hc3 hc4 hsp hS hfit f4 hend4 hs' hT5 rx2 rz2 r4 fC hss hoo hm1 hm2;cases o with
   |false=>
    go_wp2_with fail
    rw[←HW5.out];refine region_fr_all (by kernel_rfl) (by kernel_rfl) ?_
    repeat(go_big_quiet_step ((first|(with_reducible exact calls_fr (C3.out _ (grown_fr _ _ _)))|(with_reducible exact calls_fr (C4.out _ (grown_fr _ _ _))))))
    refine wpQuiet_nil ?_;intro wE fE
    go_wp2_with fail
    refine(fail_any b l a' r q 1 a wE (HR5.out.on fE)).mono ?_;rintro e w6 ⟨rfl,hR6,f6⟩;have hpe:=HB.out w6 (by simp) hR6;have f56:Fr (fun k=>k=b) w5 w6:=fE.any.trans f6 (fun i hi e=>e);have hz6:=f56.heap HZ5.out (fun e=>by omega);have hx6:=f56.heap HX5.out (fun e=>by omega);have hy6:=f56.heap HY5.out (fun e=>by omega);have rz6:=Zn hz6;have rx6:=Zd hx6;have ry6:=Zd hy6;have hc5:∀w',Fr nob w6 w'→_:=fun w' f=>LX.out w' ((HT5.out.on2 f56 hb).on f);have hc6:∀w',Fr nob w6 w'→_:=fun w' f=>LY.out w' ((HT5.out.on2 f56 hb).on f);have C5:=hid hc5;have C6:=hid hc6;have F6:=hid (F5.out.trans f56 (fun i hi e=>e));have HPE:=hid hpe;have HZ6:=hid hz6;clear hc5 hc6 hz6 hx6 hy6 f56 hpe
    go_wp2_with fail
    refine region_fr 5 (by kernel_rfl) (by kernel_rfl) ?_;simp only[List.take_succ_cons,List.take_zero,List.drop_succ_cons,List.drop_zero]
    repeat(go_big_quiet_step ((first|(with_reducible exact calls_fr (C5.out _ (grown_fr _ _ _)))|(with_reducible exact calls_fr (C6.out _ (grown_fr _ _ _)))|(with_reducible exact calls_fr (CS.out _)))))
    refine wpQuiet_nil ?_;intro wC fC;go_wp2
    (try simp only[Exit.inBlock,Exit.then])
    have hzc:=fC.heap HZ6.out (fun x=>x);have hlzc:=lt_heap hzc;refine bodyPost_ret (Zu (s:=S) rfl rfl (setFour_heap hzc _ _ _ _)) rfl ⟨S,rfl,HF.out,setFour_frS (F6.out.trans fC (fun i hi e=>e.elim)) (Nat.le_refl _) _ _ _ _,?_⟩;exact HPE.out.to fun x r q h=>Zx (h.on fC) (by omega) _ _ _ _
   |true=>
    cases o' with
    |false=>
     go_wp2_with fail
     rw[←HW5.out];refine region_fr_all (by kernel_rfl) (by kernel_rfl) ?_
     repeat(go_big_quiet_step ((first|(with_reducible exact calls_fr (C3.out _ (grown_fr _ _ _)))|(with_reducible exact calls_fr (C4.out _ (grown_fr _ _ _))))))
     refine wpQuiet_nil ?_;intro wE fE
     go_wp2_with fail
     refine(fail_any b l a' r q 1 a wE (HR5.out.on fE)).mono ?_;rintro e w6 ⟨rfl,hR6,f6⟩;have hpe:=HB.out w6 (by simp) hR6;have f56:Fr (fun k=>k=b) w5 w6:=fE.any.trans f6 (fun i hi e=>e);have hz6:=f56.heap HZ5.out (fun e=>by omega);have hx6:=f56.heap HX5.out (fun e=>by omega);have hy6:=f56.heap HY5.out (fun e=>by omega);have rz6:=Zn hz6;have rx6:=Zd hx6;have ry6:=Zd hy6;have hc5:∀w',Fr nob w6 w'→_:=fun w' f=>LX.out w' ((HT5.out.on2 f56 hb).on f);have hc6:∀w',Fr nob w6 w'→_:=fun w' f=>LY.out w' ((HT5.out.on2 f56 hb).on f);have C5:=hid hc5;have C6:=hid hc6;have F6:=hid (F5.out.trans f56 (fun i hi e=>e));have HPE:=hid hpe;have HZ6:=hid hz6;clear hc5 hc6 hz6 hx6 hy6 f56 hpe
     go_wp2_with fail
     refine region_fr 5 (by kernel_rfl) (by kernel_rfl) ?_;simp only[List.take_succ_cons,List.take_zero,List.drop_succ_cons,List.drop_zero]
     repeat(go_big_quiet_step ((first|(with_reducible exact calls_fr (C5.out _ (grown_fr _ _ _)))|(with_reducible exact calls_fr (C6.out _ (grown_fr _ _ _)))|(with_reducible exact calls_fr (CS.out _)))))
     refine wpQuiet_nil ?_;intro wC fC;go_wp2
     (try simp only[Exit.inBlock,Exit.then])
     have hzc:=fC.heap HZ6.out (fun x=>x);have hlzc:=lt_heap hzc;refine bodyPost_ret (Zu (s:=S) rfl rfl (setFour_heap hzc _ _ _ _)) rfl ⟨S,rfl,HF.out,setFour_frS (F6.out.trans fC (fun i hi e=>e.elim)) (Nat.le_refl _) _ _ _ _,?_⟩;exact HPE.out.to fun x r q h=>Zx (h.on fC) (by omega) _ _ _ _
    |true=>
     by_cases hlt:(m2:Int)<m1
     ·have hlt':=hlt
      go_wp2_with fail
      rw[←HW5.out];refine region_fr_all (by kernel_rfl) (by kernel_rfl) ?_
      repeat(go_big_quiet_step ((first|(with_reducible exact calls_fr (C3.out _ (grown_fr _ _ _)))|(with_reducible exact calls_fr (C4.out _ (grown_fr _ _ _))))))
      refine wpQuiet_nil ?_;intro wE fE
      go_wp2_with fail
      refine(fail_any b l a' r q 1 a wE (HR5.out.on fE)).mono ?_;rintro e w6 ⟨rfl,hR6,f6⟩;have hpe:=HB.out w6 (.inr (.inr (by omega))) hR6;have f56:Fr (fun k=>k=b) w5 w6:=fE.any.trans f6 (fun i hi e=>e);have hz6:=f56.heap HZ5.out (fun e=>by omega);have hx6:=f56.heap HX5.out (fun e=>by omega);have hy6:=f56.heap HY5.out (fun e=>by omega);have rz6:=Zn hz6;have rx6:=Zd hx6;have ry6:=Zd hy6;have hc5:∀w',Fr nob w6 w'→_:=fun w' f=>LX.out w' ((HT5.out.on2 f56 hb).on f);have hc6:∀w',Fr nob w6 w'→_:=fun w' f=>LY.out w' ((HT5.out.on2 f56 hb).on f);have C5:=hid hc5;have C6:=hid hc6;have F6:=hid (F5.out.trans f56 (fun i hi e=>e));have HPE:=hid hpe;have HZ6:=hid hz6;clear hc5 hc6 hz6 hx6 hy6 f56 hpe
      go_wp2_with fail
      refine region_fr 5 (by kernel_rfl) (by kernel_rfl) ?_;simp only[List.take_succ_cons,List.take_zero,List.drop_succ_cons,List.drop_zero]
      repeat(go_big_quiet_step ((first|(with_reducible exact calls_fr (C5.out _ (grown_fr _ _ _)))|(with_reducible exact calls_fr (C6.out _ (grown_fr _ _ _)))|(with_reducible exact calls_fr (CS.out _)))))
      refine wpQuiet_nil ?_;intro wC fC;go_wp2
      (try simp only[Exit.inBlock,Exit.then])
      have hzc:=fC.heap HZ6.out (fun x=>x);have hlzc:=lt_heap hzc;refine bodyPost_ret (Zu (s:=S) rfl rfl (setFour_heap hzc _ _ _ _)) rfl ⟨S,rfl,HF.out,setFour_frS (F6.out.trans fC (fun i hi e=>e.elim)) (Nat.le_refl _) _ _ _ _,?_⟩;exact HPE.out.to fun x r q h=>Zx (h.on fC) (by omega) _ _ _ _
     ·have hlt':=hlt
      go_wp2_with fail
      rw[←HW5.out];refine region_fr_all (by kernel_rfl) (by kernel_rfl) ?_
      repeat(go_big_quiet_step ((first|(with_reducible exact calls_fr (C3.out _ (grown_fr _ _ _)))|(with_reducible exact calls_fr (C4.out _ (grown_fr _ _ _))))))
      refine wpQuiet_nil ?_;intro wE fE;obtain⟨w6,hw6⟩:∃w6,w6=wE:=⟨_,rfl⟩;have hpe:=HG.out w6 (by simp) (by simp) (by omega) (by rw[hw6];exact HR5.out.on fE);have f56:Fr (fun k=>k=b) w5 w6:=by rw[hw6];exact fE.any
      rw[←hw6];clear hw6;have hz6:=f56.heap HZ5.out (fun e=>by omega);have hx6:=f56.heap HX5.out (fun e=>by omega);have hy6:=f56.heap HY5.out (fun e=>by omega);have rz6:=Zn hz6;have rx6:=Zd hx6;have ry6:=Zd hy6;have hc5:∀w',Fr nob w6 w'→_:=fun w' f=>LX.out w' ((HT5.out.on2 f56 hb).on f);have hc6:∀w',Fr nob w6 w'→_:=fun w' f=>LY.out w' ((HT5.out.on2 f56 hb).on f);have C5:=hid hc5;have C6:=hid hc6;have F6:=hid (F5.out.trans f56 (fun i hi e=>e));have HPE:=hid hpe;have HZ6:=hid hz6;clear hc5 hc6 hz6 hx6 hy6 f56 hpe
      go_wp2_with fail
      refine region_fr 5 (by kernel_rfl) (by kernel_rfl) ?_;simp only[List.take_succ_cons,List.take_zero,List.drop_succ_cons,List.drop_zero]
      repeat(go_big_quiet_step ((first|(with_reducible exact calls_fr (C5.out _ (grown_fr _ _ _)))|(with_reducible exact calls_fr (C6.out _ (grown_fr _ _ _)))|(with_reducible exact calls_fr (CS.out _)))))
      refine wpQuiet_nil ?_;intro wC fC;go_wp2
      (try simp only[Exit.inBlock,Exit.then])
      have hzc:=fC.heap HZ6.out (fun x=>x);have hlzc:=lt_heap hzc;refine bodyPost_ret (Zu (s:=S) rfl rfl (setFour_heap hzc _ _ _ _)) rfl ⟨S,rfl,HF.out,setFour_frS (F6.out.trans fC (fun i hi e=>e.elim)) (Nat.le_refl _) _ _ _ _,?_⟩;exact HPE.out.to fun x r q h=>Zx (h.on fC) (by omega) _ _ _ _
theorem Env.big{w:World}(h:Env w):Zid≤w.heap.size+1:=by
 obtain⟨m,hm⟩:=h.2;have h1:=World.block_lt_of_cell? w _ hm;have h2:=h.1.lt;simp only at h1;unfold Zid;omega
def Zne:(Int×Nat)⊕(S4×Nat)→Value
 | .inl z=>.tuple #[Zc5 S4.zero,.int .i64 z.2,.int .i64 z.1]
 | .inr x=>.tuple #[Zc5 x.1,.int .i64 x.2,.int .i64 0]
theorem Zv{fn:Func}{p q r:Tmp}(h:fn.results= #[.cell p 132,.tmp q,.tmp r]){tmps:Array Value}{b:Nat}(ht:tmps.getD p undef=.pointer (some ⟨b,0,none⟩)){u v:Value}(hq:tmps.getD q undef=u)(hr:tmps.getD r undef=v){W:World}{s:S4}
 (hb:W.heap[b]? =some (.cells #[.int .u64 s.a,.int .u64 s.b,.int .u64 s.c,.int .u64 s.d] 132 (0,0))):(results fn tmps).run Tryz.prog W=.ok (.tuple #[Zc5 s,u,v]) W:=by
 have c0:=cell_at (j:=0) (v:=.int .u64 s.a) hb rfl;have c1:=cell_at (j:=1) (v:=.int .u64 s.b) hb rfl;have c2:=cell_at (j:=2) (v:=.int .u64 s.c) hb rfl;have c3:=cell_at (j:=3) (v:=.int .u64 s.d) hb rfl;have ht':tmps[p]?.getD undef=.pointer (some ⟨b,0,none⟩):=by rw[←ht];simp
 have hq':tmps[q]?.getD undef=u:=by rw[←hq];simp
 have hr':tmps[r]?.getD undef=v:=by rw[←hr];simp
 simp only[results,h];simp[ht',hq',hr',go_sem,c0,c1,c2,c3]
abbrev Q4(w:World)(b:Nat)(s:S4):Prop:=w.cell? ⟨b,0,none⟩=some (.int .u64 s.a)∧w.cell? ⟨b,1,none⟩=some (.int .u64 s.b)∧w.cell? ⟨b,2,none⟩=some (.int .u64 s.c)∧w.cell? ⟨b,3,none⟩=some (.int .u64 s.d)
abbrev At4(w:World)(b:Nat)(s:S4):Prop:=w.heap[b]? =some (.cells #[.int .u64 s.a,.int .u64 s.b,.int .u64 s.c,.int .u64 s.d] 132 (0,0))
theorem Q4.of{w:World}{b:Nat}{s:S4}(h:At4 w b s):Q4 w b s:=⟨cell_at h rfl,cell_at h rfl,cell_at h rfl,cell_at h rfl⟩
theorem Zij(s t:S4)(w:World):Calls Tryz.prog 264 #[Zc5 s,Zc5 t] w fun e w'=>e=.returned (Zc5 (s.or t))∧Fr nob w w':=Zmb s t w
theorem not_lit(s:S4)(w:World):Calls Tryz.prog 170 #[Zc5 s] w fun e w'=>e=.returned (Zc5 s.not)∧Fr nob w w':=Zk7 s w
def ZhT(l:List UInt8)(n:Nat):(Int×Nat)⊕(S4×Nat)→(Int×Nat)⊕(S4×Nat)
 | .inl z=>.inl z
 | .inr x=>lop l n x.2 x.1
def ZlU(l:List UInt8)(n:Nat)(R:(Int×Nat)⊕(S4×Nat)):Prop:=∀x,R=.inr x→x.2≤l.length∧l.length<n+x.2
def orF(s:S4):(Int×Nat)⊕(S4×Nat)→(Int×Nat)⊕(S4×Nat)
 | .inl z=>.inl z
 | .inr x=>.inr (s.or x.1,x.2)
theorem ZkJ{l:List UInt8}{n a:Nat}{s:S4}(h:l[a]?≠some 93):lop l (n+1) a s=ZhT l n (orF s (prt l a)):=by
 rw[lop,if_neg h];cases prt l a<;>rfl
theorem Zik{l:List UInt8}{n a:Nat}{s:S4}(h:l[a]? =some 93):lop l (n+1) a s=.inr (s,a):=by rw[lop,if_pos h]
theorem Zil{l:List UInt8}{n a:Nat}{s:S4}(hn:l.length<n+1+a):ZlU l n (orF s (prt l a)):=by
 intro x hx;cases hp:prt l a with
 |inl z=>rw[hp]at hx;cases hx
 |inr y=>
  rw[hp]at hx;injection hx with hx;subst hx;have:=prt_next hp;exact⟨this.2.1,by simp only;omega⟩
theorem ZcI.or{b:Nat}{l:List UInt8}{p:Int}{s t:S4}{R:(Int×Nat)⊕(S4×Nat)}{w:World}(h:ZcI b l p s R w):ZcI b l p (t.or s) (orF t R) w:=by
 cases R with
 |inr x=>exact⟨by rw[h.1],h.2⟩
 |inl z=>exact h
def Zdr(d:Bool):(Int×Nat)⊕(S4×Nat)→(Int×Nat)⊕(S4×Nat)
 | .inl z=>.inl z
 | .inr y=>.inr (if d then y.1.not else y.1,y.2+1)
theorem Zlm{l:List UInt8}{a:Nat}(h:[94].isPrefixOf (l.drop a)=true):prs l a=Zdr true (ZhT l (l.length+1) (prt l (a+1))):=by
 have h:=Zjw.1 h;unfold prs Zdr ZhT;simp only[h,if_true];cases prt l (a+1)with
 |inl z=>rfl
 |inr x=>simp only;cases lop l (l.length+1) x.2 x.1<;>rfl
theorem Zmo{l:List UInt8}{a:Nat}(h:[94].isPrefixOf (l.drop a)=false):prs l a=Zdr false (ZhT l (l.length+1) (prt l a)):=by
 have h:¬l[a]? =some 94:=fun e=>by rw[Zjw.2 e]at h;cases h
 unfold prs Zdr ZhT;simp only[if_neg h];cases prt l a with
 |inl z=>rfl
 |inr x=>simp only;cases lop l (l.length+1) x.2 x.1<;>rfl
theorem ZO(w:World)(b:Nat)(v0 v1 v2 v3:Value):Fr (fun k=>k=b) w (Zau w b v0 v1 v2 v3):=
 have h:∀(x:World) (j:Nat) (v:Value),Fr (fun k=>k=b) w x→Fr (fun k=>k=b) w (x.setCell ⟨b,j,none⟩ v):=fun x j v hx=>hx.setCell (p:=⟨b,j,none⟩) (fun _=>rfl) v
 h _ _ _ (h _ _ _ (h _ _ _ (h _ _ _ (Fr.refl _ _))))
abbrev RQ(w:World)(b:Nat)(v2 v3:Value):Prop:=w.cell? ⟨b,2,none⟩=some v2∧w.cell? ⟨b,3,none⟩=some v3
theorem Zl{w:World}{b c i j:Nat}{v u:Value}(h:w.cell? ⟨b,i,none⟩=some v)(hn:c≠b):(w.setCell ⟨c,j,none⟩ u).cell? ⟨b,i,none⟩=some v:=by
 have hb:(w.setCell ⟨c,j,none⟩ u).heap[b]? =w.heap[b]? :=by
  cases hx:w.heap[b]? with
  |none=>
   have:w.heap.size≤b:=Array.getElem?_eq_none_iff.1 hx;exact Array.getElem?_eq_none_iff.2 (by simpa using this)
  |some x=>exact Zc hx (Ne.symm hn) _
 unfold World.cell? at h⊢;simp only[hb];exact h
theorem RQ.drew{w:World}{b:Nat}{v2 v3:Value}(h:RQ w b v2 v3):RQ w.drew b v2 v3:=h
theorem RQ.set{w:World}{b c j:Nat}{v2 v3:Value}(h:RQ w b v2 v3)(hn:c≠b)(u:Value):RQ (w.setCell ⟨c,j,none⟩ u) b v2 v3:=⟨Zl h.1 hn,Zl h.2 hn⟩
abbrev RA(w:World)(b:Nat)(v1:Value)(r9:Nat)(s:S4):Prop:=w.cell? ⟨b,1,none⟩=some v1∧Q4 w r9 s
theorem RA.drew{w:World}{b r9:Nat}{v1:Value}{s:S4}(h:RA w b v1 r9 s):RA w.drew b v1 r9 s:=h
theorem RA.set{w:World}{b c j r9:Nat}{v1:Value}{s:S4}(h:RA w b v1 r9 s)(hn:c≠b)(hn9:c≠r9)(u:Value):RA (w.setCell ⟨c,j,none⟩ u) b v1 r9 s:=
 ⟨Zl h.1 hn,Zl h.2.1 hn9,Zl h.2.2.1 hn9,Zl h.2.2.2.1 hn9,Zl h.2.2.2.2 hn9⟩
structure Alg(α:Type) where
 one:S4→α
 rep:α→Int→Int→α
 group:Int→α→α
 back:Int→α
 start:α
 fin:α
 join:List α→α
 choose:List α→α
structure RxS where
 at_:Nat
 opened:Nat
 closed:List Nat
 marks:List (Nat×List UInt8)
abbrev Out(α:Type):=(Int×Nat)⊕(α×RxS)
def ahd(l:List UInt8)(k:Nat)(t:List UInt8):Bool:=t.isPrefixOf (l.drop k)
def RxS.go(s:RxS)(n:Nat):RxS:={s with at_:=s.at_+n}
def RxS.to(s:RxS)(n:Nat):RxS:={s with at_:=n}
def RxS.mark(s:RxS)(t:List UInt8):RxS:={s with marks:=s.marks++[(s.at_,t)]}
def ZaU:List UInt8→Nat→Nat→Nat×Nat
 |[],c,n=>(n,c)
 |x::r,c,n=>if 48≤x.toNat∧x.toNat≤57∧c≠3 then ZaU r (c+1) (n*10+(x.toNat-48))else(n,c)
def Zef(l:List UInt8)(k:Nat):Option (Int×Int×Nat):=
 let m:=ZaU (l.drop k) 0 0
 if m.2=0 then none
 else
  let k1:=k+m.2
  let x:=ZaU (l.drop (k1+1)) 0 0
  let mx:Int:=if ahd l k1 [44]then(if x.2=0 then -1 else x.1)else m.1
  let k2:=if ahd l k1 [44]then k1+1+x.2 else k1
  if ahd l k2 [92,125]=false∨255<m.1∨255<mx∨(0≤mx∧mx<m.1)then none else some (m.1,mx,k2+2)
section
variable {α:Type} (A:Alg α) (l:List UInt8)
def Zbu:Nat→RxS→α→Out α
 |0,s,t=>.inr (t,s)
 |n+1,s,t=>
  if ahd l s.at_ [92,43]then Zbu n ((s.mark [92,43]).go 2) (A.rep t 1 (-1))
  else if ahd l s.at_ [92,63]then Zbu n ((s.mark [92,63]).go 2) (A.rep t 0 1)
  else if ahd l s.at_ [92,123]then
   match Zef l (s.at_+2)with
   |none=>.inl (7,s.at_)
   |some (m,x,k)=>Zbu n (s.to k) (A.rep t m x)
  else if ahd l s.at_ [42]then Zbu n (s.go 1) (A.rep t 0 (-1))
  else .inr (t,s)
def Zem:S4:=(ZbB (Zas ⟨#[97,108,110,117,109]⟩)).or (spn 95 95)
def ZcC:S4:=ZbB (Zas ⟨#[115,112,97,99,101]⟩)
def ZcD:S4:=ZbB (Zas ⟨#[112,117,110,99,116]⟩)
def Zmp(b:UInt8):Option (S4×Bool):=
 if b=110 then some (spn 10 10,false)
 else if b=116 then some (spn 9 9,true)
 else if b=119 then some (Zem,true)
 else if b=87 then some (Zem.not,true)
 else if b=115 then some (ZcC,true)
 else if b=83 then some (ZcC.not,true)
 else if ZcD.has b.toNat then some (spn b.toNat b.toNat,false)
 else none
def Za4(C:Option (RxS→Out α))(begin:Nat)(s:RxS):Out α:=
 match C with
 |none=>.inl (4,begin)
 |some f=>
  match f {s with opened:=s.opened+1}with
  | .inl e=>.inl e
  | .inr (t,s')=>
    if ahd l s'.at_ [92,41]then .inr (A.group ((s.opened+1:Nat):Int) t,{s'.go 2 with closed:=s'.closed++[s.opened+1]})
    else .inl (8,begin)
def Zjx(C:Option (RxS→Out α))(s:RxS):Out α:=
 match l[s.at_+1]? with
 |none=>.inl (11,s.at_)
 |some b=>
  if ahd l s.at_ [92,40]then Za4 A l C s.at_ (s.go 2)
  else if ahd l s.at_ [92,41]then .inl (8,s.at_)
  else if 49≤b.toNat∧b.toNat≤57 then
   (if s.closed.contains (b.toNat-48)then .inr (A.back ((b.toNat-48:Nat):Int),s.go 2)else .inl (9,s.at_))
  else
   match Zmp b with
   |none=>.inl (2,s.at_)
   |some (c,m)=>.inr (A.one c,(if m then s.mark [92,b]else s).go 2)
def Zbv(C:Option (RxS→Out α))(s:RxS)(b:UInt8):Out α:=
 if b=92 then Zjx A l C s
 else if b=91 then
  match prs l (s.at_+1)with
  | .inl (e,p)=>.inl (e,p)
  | .inr (c,k)=>.inr (A.one c,s.to k)
 else if b=46 then .inr (A.one (spn 0 255),s.go 1)
 else .inr (A.one (spn b.toNat b.toNat),s.go 1)
def Zbk(k:Nat):Bool:=(l.drop (k+1)).isEmpty||ahd l (k+1) [92,41]||ahd l (k+1) [92,124]
def brS(C:Option (RxS→Out α))(inner:Bool):Nat→Bool→RxS→List α→Out α
 |0,_,s,ps=>.inr (A.join ps,s)
 |n+1,front,s,ps=>
  match l[s.at_]? with
  |none=>.inr (A.join ps,s)
  |some b=>
   if ahd l s.at_ [92,124]||(inner&&ahd l s.at_ [92,41])then .inr (A.join ps,s)
   else if front&&(ahd l s.at_ [92,123]||(ahd l s.at_ [92,43]||ahd l s.at_ [92,63]))then .inl (10,s.at_)
   else if ahd l s.at_ [36]&&Zbk l s.at_ then brS C inner n false (s.go 1) (ps++[A.fin])
   else
    match Zbv A l C s b with
    | .inl e=>.inl e
    | .inr (t,s1)=>
      match Zbu A l (l.length+1) s1 t with
      | .inl e=>.inl e
      | .inr (t,s2)=>brS C inner n false s2 (ps++[t])
def branchS(C:Option (RxS→Out α))(inner:Bool)(s:RxS):Out α:=
 if ahd l s.at_ [94]then brS A l C inner (l.length+1) true (s.go 1) [A.start]else brS A l C inner (l.length+1) true s []
def ZaJ(C:Option (RxS→Out α))(inner:Bool):Nat→RxS→List α→Out α
 |0,s,ts=>.inr (A.choose ts,s)
 |n+1,s,ts=>
  if ahd l s.at_ [92,124]then
   match branchS A l C inner ((s.mark [92,124]).go 2)with
   | .inl e=>.inl e
   | .inr (t,s')=>ZaJ C inner n s' (ts++[t])
  else .inr (A.choose ts,s)
def choiceS(C:Option (RxS→Out α))(inner:Bool)(s:RxS):Out α:=
 match branchS A l C inner s with
 | .inl e=>.inl e
 | .inr (t,s')=>ZaJ A l C inner (l.length+1) s' [t]
def chS:Nat→RxS→Out α
 |0=>choiceS A l none true
 |n+1=>choiceS A l (some (chS n)) (decide (n+1<12))
def Zds:Out α:=if 250<l.length then .inl (3,250)else chS A l 12 ⟨0,0,[],[]⟩
end
def Zmq(w:World)(e:Ending)(w':World):Prop:=e=.returned (.tuple #[Zc5 S4.zero,.int .i64 0,.int .i64 1])∧Fr nob w w'
theorem Zim(l:List UInt8)(a:Int)(w:World)(h:a<0∨(l.length:Int)<a):
 Calls Tryz.prog 254 #[.string ⟨l.toArray⟩,.int .i64 a] w (Zmq w):=by
 obtain⟨w0,hw0⟩:∃w0,w0=w.alloc (.cells #[.int .u64 0,.int .u64 0,.int .u64 0,.int .u64 0] 132):=⟨_,rfl⟩;have hz:w0.heap[w.heap.size]? =some (.cells #[.int .u64 0,.int .u64 0,.int .u64 0,.int .u64 0] 132 (0,0)):=by rw[hw0];exact newAt _ _
 have F:=hid (show Fr nob w w0 by rw[hw0];exact(Fr.refl _ _).alloc _);have rz:=Zn hz;have HZ:=hid hz;have HW:=hid hw0;clear hz hw0;by_cases h0:a<0
 ·clear h;go_enter Tryz.func254,Tryz.ntmps254
  iterate 14 go_step
  rw[←HW.out];go_wp2
  (try simp only[Exit.inBlock,Exit.then])
  refine bodyPost_ret (Zv (s:=S4.zero) (by rfl) (by rfl) (by rfl) (by rfl) (setFour_heap HZ.out _ _ _ _)) rfl ⟨?_,setFour_frS F.out (Nat.le_refl _) _ _ _ _⟩;rfl
 ·have h1:(l.length:Int)<a:=h.resolve_left h0;clear h;go_enter Tryz.func254,Tryz.ntmps254
  iterate 14 go_step
  rw[←HW.out];go_wp2
  (try simp only[Exit.inBlock,Exit.then])
  refine bodyPost_ret (Zv (s:=S4.zero) (by rfl) (by rfl) (by rfl) (by rfl) (setFour_heap HZ.out _ _ _ _)) rfl ⟨?_,setFour_frS F.out (Nat.le_refl _) _ _ _ _⟩;rfl
theorem itmN_err{l:List UInt8}{a:Nat}{k:UInt8}{z:Int×Nat}(h:itmN l a k=.inl z):z.1≠0:=by
 unfold itmN at h;split at h
 ·injection h with h;subst h;simp
 ·split at h
  ·split at h
   ·injection h with h;subst h;simp
   ·cases h
  ·split at h
   ·cases h
   ·injection h with h;subst h;simp
theorem itm_err{l:List UInt8}{a:Nat}{z:Int×Nat}(h:itm l a=.inl z):z.1≠0:=by
 unfold itm at h;split at h
 ·injection h with h;subst h;simp
 ·split at h
  ·cases h
  ·split at h
   ·exact itmN_err h
   ·cases h
abbrev PInv(l:List UInt8)(w0:World)(b r4 r9:Nat)(F:(Int×Nat)⊕(S4×Nat))(n:Nat)(wr:World):Prop:=
 ∃R s,ZcI b l 0 s R wr∧At4 wr r9 s∧At4 wr r4 S4.zero∧Fr nob w0 wr∧ZhT l n R=F∧ZlU l n R
theorem Zin(l:List UInt8)(a:Nat)(w:World)(hl:l.length≤100000)(ha:a≤l.length)(hE:Env w):
 Calls Tryz.prog 254 #[.string ⟨l.toArray⟩,.int .i64 a] w fun e w'=>e=.returned (Zne (prs l a))∧Fr nob w w':=by
 obtain⟨w0,hw0⟩:∃w0,w0=(w.alloc (.cells #[.int .u64 0,.int .u64 0,.int .u64 0,.int .u64 0] 132)).alloc (.cells #[.string ⟨l.toArray⟩,.int .i64 a,.int .i64 0,.int .i64 0] 323):=⟨_,rfl⟩;have f0:Fr nob w w0:=by rw[hw0];exact((Fr.refl _ _).alloc _).alloc _
 have hw2:=hE.1;have hz0:w0.heap[w.heap.size]? =some (.cells #[.int .u64 0,.int .u64 0,.int .u64 0,.int .u64 0] 132 (0,0)):=by rw[hw0];exact Ze _ (newAt _ _)
 have hr0:Rd w0 (w.heap.size+1) l a 0 0:=by
  rw[hw0];unfold Rd;have:=newAt (w.alloc (.cells #[.int .u64 0,.int .u64 0,.int .u64 0,.int .u64 0] 132)) (.cells #[.string ⟨l.toArray⟩,.int .i64 a,.int .i64 0,.int .i64 0] 323);simpa using this
 have hb2:Zid≤w.heap.size+1:=Env.big hE;have hE0:=hE.on f0;obtain⟨b,hb⟩:∃b,w.heap.size+1=b:=⟨_,rfl⟩;rw[hb]at hr0 hb2;have rr0:=Zn hr0;have hal:(a:Int)≤l.length:=by omega
 have ha0:(0:Int)≤a:=by omega
 obtain⟨d0,hd0⟩:∃d,[94].isPrefixOf (l.drop a)=d:=⟨_,rfl⟩;have hc0:∀w',Fr nob w0 w'→_:=fun w' f=>Za3 b l [94] a 0 0 w' (by omega) (by simp) ha (hr0.on f);rw[hd0]at hc0;have C0:=hid hc0;have HR0:=hid hr0;have HZ0:=hid hz0;have FW0:=hid f0;have HE0:=hid hE0;have HW0:=hid hw0;have HBB:=hid hb;have hbs:w.heap.size<b:=by omega
 clear hc0 hr0 hz0 f0 hE0 hw0 hE hb hw2;cases d0 with
 |true=>
  have HD0:=hid hd0;clear hd0;go_enter Tryz.func254,Tryz.ntmps254
  go_wp2_with fail
  rw[←HW0.out];simp only[HBB.out];refine(C0.out w0 (Fr.refl _ _)).mono ?_;rintro e w1 ⟨rfl,f1⟩;have HR1:=hid (HR0.out.on f1);have HZ1:=hid (f1.heap HZ0.out (fun x=>x));have FW1:=hid (FW0.out.trans' f1);have HE1:=hid (HE0.out.on f1);clear f1;have hlt:a+1≤l.length:=by
   have:=(List.getElem?_eq_some_iff.1 (Zjw.1 HD0.out)).1;omega
  have rr1:=Zn HR1.out;obtain⟨w2,hw2⟩:∃w2,w2=w1.setCell ⟨b,1,none⟩ (.int .i64 ((a:Int)+1)):=⟨_,rfl⟩;have HR2:=hid (show Rd w2 b l ((a+1:Nat):Int) 0 0 by
   rw[hw2,show((a+1:Nat):Int)=(a:Int)+1 by omega];exact Za HR1.out 1 _)
  have HZ2:=hid (show w2.heap[w.heap.size]? =some (.cells #[.int .u64 0,.int .u64 0,.int .u64 0,.int .u64 0] 132 (0,0)) by rw[hw2];exact Zc HZ1.out (by simp only;omega) _);have FW2:=hid (show Fr nob w w2 by rw[hw2];exact Fr.setCell (p:=⟨b,1,none⟩) FW1.out (fun h=>absurd h (by simp only;omega)) _);have HE2:=hid (show Env w2 by rw[hw2];exact HE1.out.on2 (Fr.setCell (S:=fun k=>k=b) (p:=⟨b,1,none⟩) (Fr.refl _ _) (fun _=>rfl) _) hb2);have HW2:=hid hw2;clear hw2
  go_wp2_with fail
  rw[←HW2.out];refine(part_any b l (a+1) 0 w2 hl hlt hb2 HE2.out HR2.out).mono ?_;rintro e w3 ⟨s,rfl,hs,f3,hend⟩;have hz3:=f3.heap HZ2.out (fun e=>by omega);obtain⟨w4,hw4⟩:∃w4,w4=w3.alloc (.cells #[.int .u64 s.a,.int .u64 s.b,.int .u64 s.c,.int .u64 s.d] 132):=⟨_,rfl⟩;have f34:Fr nob w3 w4:=by rw[hw4];exact(Fr.refl _ _).alloc _
  have hbw2:=lt_heap HR2.out;have hz4:=f34.heap hz3 (fun x=>x);have hlz4:=lt_heap hz3;obtain⟨r9,hr9⟩:∃r,w3.heap.size=r:=⟨_,rfl⟩;have h94:At4 w4 r9 s:=by rw[hw4,←hr9];exact newAt _ _
  have hb9:b<r9:=by rw[←hr9];exact Nat.lt_of_lt_of_le hbw2 f3.size
  have F4:=hid ((FW2.out.trans f3 (fun i hi e=>by omega)).trans' f34);have HE4:=hid ((HE2.out.on2 f3 hb2).on f34);have hend4:=hend.to (w':=w4) (fun x r q h=>h.on f34);have hF:prs l a=Zdr _ (ZhT l (l.length+1) (prt l (a+1))):=Zlm HD0.out;have hN0:ZlU l (l.length+1) (prt l (a+1)):=fun x hx=>by
   have:=prt_next hx;exact⟨this.2.1,by omega⟩
  obtain⟨F,hFF⟩:∃F,ZhT l (l.length+1) (prt l (a+1))=F:=⟨_,rfl⟩;rw[hFF]at hF;have HF:=hid hF;have HW4:=hid hw4;have HI:=hid (show PInv l w b w.heap.size r9 F (l.length+1) w4 from⟨_,s,hend4,h94,hz4,F4.out,hFF,hN0⟩);have H9:=hid hr9;clear hz3 hw4 f34 hz4 h94 hend hend4 hF hN0 hFF hr9 hs f3
  go_wp2_with fail
  rw[←HW4.out];simp only[H9.out]
  go_loopg [] (l.length+1) (fun n wr=>PInv l w b w.heap.size r9 F n wr∧Env wr)
  case atStart=>exact⟨HI.out,HE4.out⟩
  case round=>
   obtain⟨⟨R,o,hend,h9,hz,hfr,hF,hN⟩,hEr⟩:=hrel;have rz:=Zn hz;have rq9:=Zn h9;have HEND:=hid hend;have HZ:=hid hz;have HH9:=hid h9;have HFR:=hid hfr;have HER:=hid hEr;clear hend hz h9 hfr hEr;have HF0:=hid hF;clear hF;cases R with
   |inl z=>
    obtain⟨a',h1,h2,h3⟩:=HEND.out;have rr:=Zn h3;have t1:(z.1==0)=false:=by simpa using h2
    have t2:(z.1 !=0)=true:=by simpa using h2
    have HFz:=hid (HF0.out.symm:F=.inl z);have HRz:=hid h3;clear h1 h2 h3 hN;have hne:w.heap.size≠b:=by omega
    have HQ:=hid (show RQ wr b (.int .i64 z.1) (.int .i64 z.2)from⟨cell_at HRz.out rfl,cell_at HRz.out rfl⟩);have HQd:=hid (show RQ wr.drew b (.int .i64 z.1) (.int .i64 z.2)from⟨cell_at HRz.out rfl,cell_at HRz.out rfl⟩);have HZd:=hid (show At4 wr.drew w.heap.size S4.zero from HZ.out);have FRd:=hid HFR.out.drew
    go_wp2_with fail
    go_region_held3 (fun w'=>RQ w' b (.int .i64 z.1) (.int .i64 z.2)) (repeat(first|(with_reducible exact HQ.out)|(with_reducible exact HQd.out)|(with_reducible refine RQ.set ?_ hne _)|(with_reducible refine RQ.drew ?_))) (fail)
    all_goals
     go_wp2
     (try simp only[Exit.inBlock,Exit.then])
     refine bodyPost_ret (Zv (s:=S4.zero) rfl rfl rfl rfl (setFour_heap HZd.out _ _ _ _)) rfl ⟨?_,setFour_frS FRd.out (Nat.le_refl _) _ _ _ _⟩;rw[HF.out,HFz.out];rfl
   |inr x=>
    obtain⟨o1,n0⟩:=x;obtain⟨hso,h3⟩:=HEND.out;simp only at hso;subst hso;obtain⟨hn0,hng⟩:=hN _ rfl;simp only at hn0 hng h3 rq9;obtain⟨m,rfl⟩:∃m,gk=m+1:=⟨gk-1,by omega⟩;have rr:=Zn h3;have hnl:(n0:Int)≤l.length:=by omega
    have hn00:(0:Int)≤n0:=by omega
    have hwr:IntKind.i64.wrap ((n0:Int)+1)=(n0:Int)+1:=IntWalk.i64_in _ (by omega);obtain⟨D,hD⟩:∃d,[93].isPrefixOf (l.drop n0)=d:=⟨_,rfl⟩;have hc1:=Za3 b l [93] n0 0 0 wr (by omega) (by simp) hn0 h3;rw[hD]at hc1;have C1:=hid hc1;have HR:=hid h3;have HD:=hid hD;clear hc1 h3 hD hN HEND;cases D with
    |true=>
     have HFy:=hid (show F=.inr (o,n0) by rw[←HF0.out];exact Zik (Zjw.1 HD.out))
     go_wp2_with fail
     refine C1.out.mono ?_;rintro e w5 ⟨rfl,f5⟩;have HR5:=hid (HR.out.on f5);have HZ5:=hid (f5.heap HZ.out (fun x=>x));have H95:=hid (f5.heap HH9.out (fun x=>x));have F5:=hid (HFR.out.trans' f5)
     go_wp2_with fail
     refine(not_lit o w5).mono ?_;obtain⟨N,hNo⟩:∃N,o.not=N:=⟨_,rfl⟩;rw[hNo];rintro e w6 ⟨rfl,f6⟩;obtain⟨w7,hw7⟩:∃w7,w7=(((w6.setCell ⟨r9,0,none⟩ (.int .u64 N.a)).setCell ⟨r9,1,none⟩ (.int .u64 N.b)).setCell ⟨r9,2,none⟩ (.int .u64 N.c)).setCell ⟨r9,3,none⟩ (.int .u64 N.d):=⟨_,rfl⟩;have h97:At4 w7 r9 N:=by rw[hw7];exact setFour_heap (f6.heap H95.out (fun x=>x)) _ _ _ _
     have hr7:Rd w7 b l n0 0 0:=by rw[hw7];exact Zx (HR5.out.on f6) (by omega) _ _ _ _
     have hz7:At4 w7 w.heap.size S4.zero:=by rw[hw7];exact Zx (f6.heap HZ5.out (fun x=>x)) (by omega) _ _ _ _
     have F7:=hid (show Fr nob w w7 by rw[hw7];exact setFour_frS (F5.out.trans' f6) (by omega) _ _ _ _);have HNo:=hid hNo;have HW7:=hid hw7;have rn6:=Zn (f6.heap H95.out (fun x=>x));clear hNo hw7
     go_wp2_with fail
     rw[←HW7.out];have rr7:=Zn hr7;have rn7:=Zn h97;have rz7:=Zn hz7;have HZ7:=hid hz7;have HR7:=hid hr7;have H97:=hid h97;clear hr7 h97 hz7;have hne:w.heap.size≠b:=by omega
     have hne9:w.heap.size≠r9:=by omega
     have HQ7:=hid (show RA w7 b (.int .i64 n0) r9 N from⟨cell_at HR7.out rfl,Q4.of H97.out⟩);have HQ7d:=hid (show RA (World.drew w7) b (.int .i64 n0) r9 N from⟨cell_at HR7.out rfl,Q4.of H97.out⟩);have HZd:=hid (show At4 (World.drew w7) w.heap.size S4.zero from HZ7.out);have FRd:=hid (Fr.drew F7.out)
     go_region_held3 (fun w'=>RA w' b (.int .i64 n0) r9 N) (repeat(first|(with_reducible exact HQ7.out)|(with_reducible exact HQ7d.out)|(with_reducible refine RA.set ?_ hne hne9 _)|(with_reducible refine RA.drew ?_))) (fail)
     all_goals
      go_wp2
      (try simp only[Exit.inBlock,Exit.then])
      refine bodyPost_ret (Zv (s:=N) rfl rfl rfl rfl (setFour_heap HZd.out _ _ _ _)) rfl ⟨?_,setFour_frS FRd.out (Nat.le_refl _) _ _ _ _⟩;rw[HF.out,HFy.out];rw[←HNo.out];rfl
    |false=>
     have hne:l[n0]?≠some 93:=fun e=>by rw[Zjw.2 e]at HD;exact absurd HD.out (by simp)
     have HFn:=hid (show ZhT l m (orF o (prt l n0))=F by rw[←HF0.out];exact(ZkJ hne).symm);have HNn:=hid (show ZlU l m (orF o (prt l n0))from Zil (by omega));clear hne
     go_wp2_with fail
     refine C1.out.mono ?_;rintro e w5 ⟨rfl,f5⟩;have HR5:=hid (HR.out.on f5.drew);have HZ5:=hid (f5.drew.heap HZ.out (fun x=>x));have H95:=hid (f5.drew.heap HH9.out (fun x=>x));have F5:=hid (HFR.out.trans' f5.drew);have HE5:=hid (HER.out.on f5.drew);have HQ5:=hid (Q4.of (f5.heap HH9.out (fun x=>x)));have HQ5d:=hid (Q4.of H95.out)
     go_wp2_with fail
     go_region_with (first|(go_at_call 263;(refine(part_any b l n0 0 w5.drew hl hn0 hb2 HE5.out HR5.out).mono ?_);rintro e w6 ⟨s',rfl,hs',f6,hend6⟩;have H96:=hid (f6.heap H95.out (fun e=>by omega));have HQ6:=hid (Q4.of H96.out);have HZ6:=hid (f6.heap HZ5.out (fun e=>by omega));have HE6:=hid (HE5.out.on2 f6 hb2);have F6:=hid (F5.out.trans f6 (fun i hi e=>by omega));have HEND6:=hid (hend6.or (t:=o));have rn6:=Zn H96.out;clear f6 hend6)|(go_at_call 264;(refine(Zij o s' w6).mono ?_);obtain⟨N,hNo⟩:∃N,o.or s'=N:=⟨_,rfl⟩;rw[hNo]at HEND6⊢;rintro e w7 ⟨rfl,f7⟩;have H97:=hid (f7.heap H96.out (fun x=>x));have HQ7:=hid (Q4.of H97.out);have HZ7:=hid (f7.heap HZ6.out (fun x=>x));have HE7:=hid (HE6.out.on f7);have F7:=hid (F6.out.trans' f7);have HEND7:=hid (HEND6.out.to (w':=w7) (fun x r q h=>h.on f7));have rn7:=Zn H97.out;clear f7))
     all_goals
      have hfin:=HFn.out;have hfn:=HNn.out;obtain⟨w8,hw8⟩:∃w8,w8=(((w7.setCell ⟨r9,0,none⟩ (.int .u64 N.a)).setCell ⟨r9,1,none⟩ (.int .u64 N.b)).setCell ⟨r9,2,none⟩ (.int .u64 N.c)).setCell ⟨r9,3,none⟩ (.int .u64 N.d):=⟨_,rfl⟩;have HI8:=hid (show PInv l w b w.heap.size r9 F m w8∧Env w8 by
       rw[hw8];refine⟨⟨_,N,HEND7.out.to (fun x r q h=>Zx h (by omega) _ _ _ _),setFour_heap H97.out _ _ _ _,Zx HZ7.out (by omega) _ _ _ _,setFour_frS F7.out (by omega) _ _ _ _,hfin,hfn⟩,HE7.out.on2 (ZO _ _ _ _ _ _) (by omega)⟩)
      have HW8:=hid hw8;clear hw8 hfin hfn
      go_wp2_with fail
      rw[←HW8.out]
      go_roundg m
      case measure=>omega
      case rel=>exact HI8.out
 |false=>
  have HD0:=hid hd0;clear hd0;go_enter Tryz.func254,Tryz.ntmps254
  go_wp2_with fail
  rw[←HW0.out];simp only[HBB.out];refine(C0.out w0 (Fr.refl _ _)).mono ?_;rintro e w1 ⟨rfl,f1⟩;have HR1:=hid (HR0.out.on f1);have HZ1:=hid (f1.heap HZ0.out (fun x=>x));have FW1:=hid (FW0.out.trans' f1);have HE1:=hid (HE0.out.on f1);clear f1;obtain⟨w2,hw2⟩:∃w2,w2=w1:=⟨_,rfl⟩;rw[←hw2]at HR1 HZ1 FW1 HE1;have HR2:=HR1;have HZ2:=HZ1;have FW2:=FW1;have HE2:=HE1
  go_wp2_with fail
  rw[←hw2];clear hw2;refine(part_any b l (a) 0 w2 hl ha hb2 HE2.out HR2.out).mono ?_;rintro e w3 ⟨s,rfl,hs,f3,hend⟩;have hz3:=f3.heap HZ2.out (fun e=>by omega);obtain⟨w4,hw4⟩:∃w4,w4=w3.alloc (.cells #[.int .u64 s.a,.int .u64 s.b,.int .u64 s.c,.int .u64 s.d] 132):=⟨_,rfl⟩;have f34:Fr nob w3 w4:=by rw[hw4];exact(Fr.refl _ _).alloc _
  have hbw2:=lt_heap HR2.out;have hz4:=f34.heap hz3 (fun x=>x);have hlz4:=lt_heap hz3;obtain⟨r9,hr9⟩:∃r,w3.heap.size=r:=⟨_,rfl⟩;have h94:At4 w4 r9 s:=by rw[hw4,←hr9];exact newAt _ _
  have hb9:b<r9:=by rw[←hr9];exact Nat.lt_of_lt_of_le hbw2 f3.size
  have F4:=hid ((FW2.out.trans f3 (fun i hi e=>by omega)).trans' f34);have HE4:=hid ((HE2.out.on2 f3 hb2).on f34);have hend4:=hend.to (w':=w4) (fun x r q h=>h.on f34);have hF:prs l a=Zdr _ (ZhT l (l.length+1) (prt l (a))):=Zmo HD0.out;have hN0:ZlU l (l.length+1) (prt l (a)):=fun x hx=>by
   have:=prt_next hx;exact⟨this.2.1,by omega⟩
  obtain⟨F,hFF⟩:∃F,ZhT l (l.length+1) (prt l (a))=F:=⟨_,rfl⟩;rw[hFF]at hF;have HF:=hid hF;have HW4:=hid hw4;have HI:=hid (show PInv l w b w.heap.size r9 F (l.length+1) w4 from⟨_,s,hend4,h94,hz4,F4.out,hFF,hN0⟩);have H9:=hid hr9;clear hz3 hw4 f34 hz4 h94 hend hend4 hF hN0 hFF hr9 hs f3
  go_wp2_with fail
  rw[←HW4.out];simp only[H9.out]
  go_loopg [] (l.length+1) (fun n wr=>PInv l w b w.heap.size r9 F n wr∧Env wr)
  case atStart=>exact⟨HI.out,HE4.out⟩
  case round=>
   obtain⟨⟨R,o,hend,h9,hz,hfr,hF,hN⟩,hEr⟩:=hrel;have rz:=Zn hz;have rq9:=Zn h9;have HEND:=hid hend;have HZ:=hid hz;have HH9:=hid h9;have HFR:=hid hfr;have HER:=hid hEr;clear hend hz h9 hfr hEr;have HF0:=hid hF;clear hF;cases R with
   |inl z=>
    obtain⟨a',h1,h2,h3⟩:=HEND.out;have rr:=Zn h3;have t1:(z.1==0)=false:=by simpa using h2
    have t2:(z.1 !=0)=true:=by simpa using h2
    have HFz:=hid (HF0.out.symm:F=.inl z);have HRz:=hid h3;clear h1 h2 h3 hN;have hne:w.heap.size≠b:=by omega
    have HQ:=hid (show RQ wr b (.int .i64 z.1) (.int .i64 z.2)from⟨cell_at HRz.out rfl,cell_at HRz.out rfl⟩);have HQd:=hid (show RQ wr.drew b (.int .i64 z.1) (.int .i64 z.2)from⟨cell_at HRz.out rfl,cell_at HRz.out rfl⟩);have HZd:=hid (show At4 wr.drew w.heap.size S4.zero from HZ.out);have FRd:=hid HFR.out.drew
    go_wp2_with fail
    go_region_held3 (fun w'=>RQ w' b (.int .i64 z.1) (.int .i64 z.2)) (repeat(first|(with_reducible exact HQ.out)|(with_reducible exact HQd.out)|(with_reducible refine RQ.set ?_ hne _)|(with_reducible refine RQ.drew ?_))) (fail)
    all_goals
     go_wp2
     (try simp only[Exit.inBlock,Exit.then])
     refine bodyPost_ret (Zv (s:=S4.zero) rfl rfl rfl rfl (setFour_heap HZd.out _ _ _ _)) rfl ⟨?_,setFour_frS FRd.out (Nat.le_refl _) _ _ _ _⟩;rw[HF.out,HFz.out];rfl
   |inr x=>
    obtain⟨o1,n0⟩:=x;obtain⟨hso,h3⟩:=HEND.out;simp only at hso;subst hso;obtain⟨hn0,hng⟩:=hN _ rfl;simp only at hn0 hng h3 rq9;obtain⟨m,rfl⟩:∃m,gk=m+1:=⟨gk-1,by omega⟩;have rr:=Zn h3;have hnl:(n0:Int)≤l.length:=by omega
    have hn00:(0:Int)≤n0:=by omega
    have hwr:IntKind.i64.wrap ((n0:Int)+1)=(n0:Int)+1:=IntWalk.i64_in _ (by omega);obtain⟨D,hD⟩:∃d,[93].isPrefixOf (l.drop n0)=d:=⟨_,rfl⟩;have hc1:=Za3 b l [93] n0 0 0 wr (by omega) (by simp) hn0 h3;rw[hD]at hc1;have C1:=hid hc1;have HR:=hid h3;have HD:=hid hD;clear hc1 h3 hD hN HEND;cases D with
    |true=>
     have HFy:=hid (show F=.inr (o,n0) by rw[←HF0.out];exact Zik (Zjw.1 HD.out))
     go_wp2_with fail
     refine C1.out.mono ?_;rintro e w5 ⟨rfl,f5⟩;have HR5:=hid (HR.out.on f5);have HZ5:=hid (f5.heap HZ.out (fun x=>x));have H95:=hid (f5.heap HH9.out (fun x=>x));have F5:=hid (HFR.out.trans' f5)
     go_wp2_with fail
     have rr7:=Zn HR5.out;have rn7:=Zn H95.out;have rz7:=Zn HZ5.out;have HZ7:=HZ5;have F7:=F5;have HR7:=HR5;have H97:=H95;have hne:w.heap.size≠b:=by omega
     have hne9:w.heap.size≠r9:=by omega
     have HQ7:=hid (show RA w5 b (.int .i64 n0) r9 o from⟨cell_at HR7.out rfl,Q4.of H97.out⟩);have HQ7d:=hid (show RA (World.drew w5) b (.int .i64 n0) r9 o from⟨cell_at HR7.out rfl,Q4.of H97.out⟩);have HZd:=hid (show At4 (World.drew w5) w.heap.size S4.zero from HZ7.out);have FRd:=hid (Fr.drew F7.out)
     go_region_held3 (fun w'=>RA w' b (.int .i64 n0) r9 o) (repeat(first|(with_reducible exact HQ7.out)|(with_reducible exact HQ7d.out)|(with_reducible refine RA.set ?_ hne hne9 _)|(with_reducible refine RA.drew ?_))) (fail)
     all_goals
      go_wp2
      (try simp only[Exit.inBlock,Exit.then])
      refine bodyPost_ret (Zv (s:=o) rfl rfl rfl rfl (setFour_heap HZd.out _ _ _ _)) rfl ⟨?_,setFour_frS FRd.out (Nat.le_refl _) _ _ _ _⟩;rw[HF.out,HFy.out];rfl
    |false=>
     have hne:l[n0]?≠some 93:=fun e=>by rw[Zjw.2 e]at HD;exact absurd HD.out (by simp)
     have HFn:=hid (show ZhT l m (orF o (prt l n0))=F by rw[←HF0.out];exact(ZkJ hne).symm);have HNn:=hid (show ZlU l m (orF o (prt l n0))from Zil (by omega));clear hne
     go_wp2_with fail
     refine C1.out.mono ?_;rintro e w5 ⟨rfl,f5⟩;have HR5:=hid (HR.out.on f5.drew);have HZ5:=hid (f5.drew.heap HZ.out (fun x=>x));have H95:=hid (f5.drew.heap HH9.out (fun x=>x));have F5:=hid (HFR.out.trans' f5.drew);have HE5:=hid (HER.out.on f5.drew);have HQ5:=hid (Q4.of (f5.heap HH9.out (fun x=>x)));have HQ5d:=hid (Q4.of H95.out)
     go_wp2_with fail
     go_region_with (first|(go_at_call 263;(refine(part_any b l n0 0 w5.drew hl hn0 hb2 HE5.out HR5.out).mono ?_);rintro e w6 ⟨s',rfl,hs',f6,hend6⟩;have H96:=hid (f6.heap H95.out (fun e=>by omega));have HQ6:=hid (Q4.of H96.out);have HZ6:=hid (f6.heap HZ5.out (fun e=>by omega));have HE6:=hid (HE5.out.on2 f6 hb2);have F6:=hid (F5.out.trans f6 (fun i hi e=>by omega));have HEND6:=hid (hend6.or (t:=o));have rn6:=Zn H96.out;clear f6 hend6)|(go_at_call 264;(refine(Zij o s' w6).mono ?_);obtain⟨N,hNo⟩:∃N,o.or s'=N:=⟨_,rfl⟩;rw[hNo]at HEND6⊢;rintro e w7 ⟨rfl,f7⟩;have H97:=hid (f7.heap H96.out (fun x=>x));have HQ7:=hid (Q4.of H97.out);have HZ7:=hid (f7.heap HZ6.out (fun x=>x));have HE7:=hid (HE6.out.on f7);have F7:=hid (F6.out.trans' f7);have HEND7:=hid (HEND6.out.to (w':=w7) (fun x r q h=>h.on f7));have rn7:=Zn H97.out;clear f7))
     all_goals
      have hfin:=HFn.out;have hfn:=HNn.out;obtain⟨w8,hw8⟩:∃w8,w8=(((w7.setCell ⟨r9,0,none⟩ (.int .u64 N.a)).setCell ⟨r9,1,none⟩ (.int .u64 N.b)).setCell ⟨r9,2,none⟩ (.int .u64 N.c)).setCell ⟨r9,3,none⟩ (.int .u64 N.d):=⟨_,rfl⟩;have HI8:=hid (show PInv l w b w.heap.size r9 F m w8∧Env w8 by
       rw[hw8];refine⟨⟨_,N,HEND7.out.to (fun x r q h=>Zx h (by omega) _ _ _ _),setFour_heap H97.out _ _ _ _,Zx HZ7.out (by omega) _ _ _ _,setFour_frS F7.out (by omega) _ _ _ _,hfin,hfn⟩,HE7.out.on2 (ZO _ _ _ _ _ _) (by omega)⟩)
      have HW8:=hid hw8;clear hw8 hfin hfn
      go_wp2_with fail
      rw[←HW8.out]
      go_roundg m
      case measure=>omega
      case rel=>exact HI8.out
def prz(l:List UInt8)(a:Int):(Int×Nat)⊕(S4×Nat):=if a<0∨(l.length:Int)<a then .inl (1,0)else prs l a.toNat
theorem Zln{l:List UInt8}{a:Int}(h:a<0∨(l.length:Int)<a):prz l a=.inl (1,0):=if_pos h
theorem ZkK{l:List UInt8}{a:Nat}(h:a≤l.length):prz l a=prs l a:=by unfold prz;rw[if_neg (by omega)];rfl
theorem Zio(l:List UInt8)(a:Int)(w:World)(hl:l.length≤100000)(hE:Env w):
 Calls Tryz.prog 254 #[.string ⟨l.toArray⟩,.int .i64 a] w fun e w'=>e=.returned (Zne (prz l a))∧Fr nob w w':=by
 by_cases h:a<0∨(l.length:Int)<a
 ·rw[Zln h];exact Zim l a w h
 ·obtain⟨n,rfl⟩:∃n:Nat,a=n:=⟨a.toNat,by omega⟩;rw[ZkK (by omega)];exact Zin l n w hl (by omega) hE
end Go.Proofs.YtkfddjopbocpkaaGreatDoor
