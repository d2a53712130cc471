/-
  Merged texts of this claim: BreR, RdQ, EreP, EreR, EreA, EreB, EreC, EreD, EreE, EreF, EreG, EreH, EreI, EreJ.
-/
import Derived.Defers
import Derived.Recover
import Derived.Test.YtkfddjopbocpkaaGreatDoorM01
import Derived.Test.YtkfddjopbocpkaaGreatDoorM02
import Derived.Test.YtkfddjopbocpkaaGreatDoorM11
import Derived.Test.YtkfddjopbocpkaaGreatDoorM12
import Derived.Test.YtkfddjopbocpkaaGreatDoorM13
import Derived.Test.YtkfddjopbocpkaaGreatDoorM14
import Derived.Test.YtkfddjopbocpkaaGreatDoorM15
import Derived.Test.YtkfddjopbocpkaaGreatDoorM16
set_option linter.unusedVariables false
set_option linter.unusedSimpArgs false
set_option maxRecDepth 100000
set_option maxHeartbeats 4000000
namespace Go.Proofs.YtkfddjopbocpkaaGreatDoor
open Go.Lib (hid)
open Go.RowKit
structure Four(w:World)(b0 b1 b2 b3:Nat)(v0 v1 v2 v3:Value):Prop where
 h0:w.heap[b0]? =some (.cells #[v0] 26 (0,0))
 h1:w.heap[b1]? =some (.cells #[v1] 36 (0,0))
 h2:w.heap[b2]? =some (.cells #[v2] 3 (0,0))
 h3:w.heap[b3]? =some (.cells #[v3] 37 (0,0))
 n01:b0≠b1
 n02:b0≠b2
 n03:b0≠b3
 n12:b1≠b2
 n13:b1≠b3
 n23:b2≠b3
theorem Four.drew{w:World}{b0 b1 b2 b3:Nat}{v0 v1 v2 v3:Value}(h:Four w b0 b1 b2 b3 v0 v1 v2 v3):Four w.drew b0 b1 b2 b3 v0 v1 v2 v3:=
 ⟨h.h0,h.h1,h.h2,h.h3,h.n01,h.n02,h.n03,h.n12,h.n13,h.n23⟩
theorem ZgK{w:World}{b0 b1 b2 b3:Nat}{v0 v1 v2 v3:Value}(h:Four w b0 b1 b2 b3 v0 v1 v2 v3)(u0 u1 u2 u3:Value):
 Four ((((w.setCell ⟨b0,0,none⟩ u0).setCell ⟨b1,0,none⟩ u1).setCell ⟨b2,0,none⟩ u2).setCell ⟨b3,0,none⟩ u3) b0 b1 b2 b3 u0 u1 u2 u3∧
  Fr (fun k=>k=b0∨k=b1∨k=b2∨k=b3) w ((((w.setCell ⟨b0,0,none⟩ u0).setCell ⟨b1,0,none⟩ u1).setCell ⟨b2,0,none⟩ u2).setCell ⟨b3,0,none⟩ u3):=by
 obtain⟨h0,h1,h2,h3,n01,n02,n03,n12,n13,n23⟩:=h;have k0:=Zc (p:=⟨b3,0,none⟩) (Zc (p:=⟨b2,0,none⟩) (Zc (p:=⟨b1,0,none⟩) (Za h0 0 u0) n01 u1) n02 u2) n03 u3;have k1:=Zc (p:=⟨b3,0,none⟩) (Zc (p:=⟨b2,0,none⟩) (Za (Zc (p:=⟨b0,0,none⟩) h1 (Ne.symm n01) u0) 0 u1) n12 u2) n13 u3;have k2:=Zc (p:=⟨b3,0,none⟩) (Za (Zc (p:=⟨b1,0,none⟩) (Zc (p:=⟨b0,0,none⟩) h2 (Ne.symm n02) u0) (Ne.symm n12) u1) 0 u2) n23 u3;have k3:=Za (Zc (p:=⟨b2,0,none⟩) (Zc (p:=⟨b1,0,none⟩) (Zc (p:=⟨b0,0,none⟩) h3 (Ne.symm n03) u0) (Ne.symm n13) u1) (Ne.symm n23) u2) 0 u3;refine⟨⟨k0,k1,k2,k3,n01,n02,n03,n12,n13,n23⟩,?_⟩;exact((((Fr.refl (fun k=>k=b0∨k=b1∨k=b2∨k=b3) w).setCell (p:=⟨b0,0,none⟩) (fun _=>.inl rfl) u0).setCell (p:=⟨b1,0,none⟩) (fun _=>.inr (.inl rfl)) u1).setCell (p:=⟨b2,0,none⟩) (fun _=>.inr (.inr (.inl rfl))) u2).setCell (p:=⟨b3,0,none⟩) (fun _=>.inr (.inr (.inr rfl))) u3
abbrev CQ(w:World)(b:Nat)(v0 v1:Value):Prop:=w.cell? ⟨b,0,none⟩=some v0∧w.cell? ⟨b,1,none⟩=some v1
theorem CQ.drew{w:World}{b:Nat}{v0 v1:Value}(h:CQ w b v0 v1):CQ w.drew b v0 v1:=h
theorem CQ.set{w:World}{b c j:Nat}{v0 v1:Value}(h:CQ w b v0 v1)(hn:c≠b)(u:Value):CQ (w.setCell ⟨c,j,none⟩ u) b v0 v1:=⟨Zl h.1 hn,Zl h.2 hn⟩
theorem ZfO(p0 p1 p2 p3:Value)(w:World):
 CallsD Tryz.prog 203 #[p0,p1,p2,p3] .returning w fun e u' w'=>e=.returned (.tuple #[])∧u'=.returning∧w'=w:=by
 refine callsD_of_wpS Tryz.func203 rfl fun c₀ cs hu=> ?_;apply wpS_seq;apply wpS_region;simp[wpOpsS,go_sem,recoverD,hu,Tryz.ntmps203,Exit.thenS];refine wpS_of_wp ?_;go_wp2;cases c₀
 simp_all [bodyPostS,results,Tryz.results203]
theorem ZcJ(b0 b1 b2 b3:Nat)(v0 v1 v2 v3:Value)(z:Int)(p:Nat)(older:List PanicEntry)(w:World)(h:Four w b0 b1 b2 b3 v0 v1 v2 v3):
 CallsD Tryz.prog 203 #[.pointer (some ⟨b0,0,none⟩),.pointer (some ⟨b1,0,none⟩),.pointer (some ⟨b2,0,none⟩),.pointer (some ⟨b3,0,none⟩)] (.panicking ({v:=.iface 285 (.agg #[.int .i64 z,.int .i64 (p:Nat)]),recovered:=false}::older)) w fun e u' w'=>
  e=.returned (.tuple #[])∧u'=.panicking ({v:=.iface 285 (.agg #[.int .i64 z,.int .i64 (p:Nat)]),recovered:=true}::older)∧Four w' b0 b1 b2 b3 .nilIface (.slice none 0 0) (.int .i64 (p:Nat)) (.int .i64 z)∧Fr (fun k=>k=b0∨k=b1∨k=b2∨k=b3) w w':=by
 refine callsD_of_wpS Tryz.func203 rfl fun c₀ cs hu=> ?_;apply wpS_seq;apply wpS_region;simp[wpOpsS,go_sem,recoverD,hu,Tryz.ntmps203,Exit.thenS];obtain⟨h0,h1,h2,h3,n01,n02,n03,n12,n13,n23⟩:=h;have c0:=cell_at (j:=0) (v:=v0) h0 rfl;have c1:=cell_at (j:=0) (v:=v1) h1 rfl;have c2:=cell_at (j:=0) (v:=v2) h2 rfl;have c3:=cell_at (j:=0) (v:=v3) h3 rfl;have d0:=unfrozen_at h0 0;have d1:=unfrozen_at h1 0;have d2:=unfrozen_at h2 0;have d3:=unfrozen_at h3 0;have l0:=lt_heap h0;have l1:=lt_heap h1;have l2:=lt_heap h2;have l3:=lt_heap h3;have has:=fun(x:TypeId) (v:Value) (w:World)=>ZdY (P:=Tryz.prog) (x:=x) Tryz.underlying285 v w;have hz:=newAt0 w (.cells #[.int .i64 z,.int .i64 (p:Nat)] 285);obtain⟨wA,hwA⟩:∃wA,wA=w.alloc (.cells #[.int .i64 z,.int .i64 (p:Nat)] 285):=⟨_,rfl⟩;have hfA:Fr nob w wA:=by rw[hwA];exact(Fr.refl nob w).alloc _
 rw[←hwA]at hz;obtain⟨c,hc⟩:∃c,c=w.heap.size:=⟨_,rfl⟩;rw[←hc]at hz;have hcq:CQ wA c (.int .i64 z) (.int .i64 (p:Nat)):=⟨cell_at hz rfl,cell_at hz rfl⟩;have e0:=hcq.1;have e1:=hcq.2;have HQ:=hid hcq;have HQd:=hid (CQ.drew hcq);have m0:b0≠c:=by omega
 have m1:b1≠c:=by omega
 have m2:b2≠c:=by omega
 have m3:b3≠c:=by omega
 have H0:=hid (hfA.heap h0 (fun x=>x));have H1:=hid (hfA.heap h1 (fun x=>x));have H2:=hid (hfA.heap h2 (fun x=>x));have H3:=hid (hfA.heap h3 (fun x=>x));have HA:=hid hfA;have HWA:=hid hwA;have HCC:=hid hc;clear h0 h1 h2 h3 hz hcq hfA c0 c1 c2 c3 d0 d1 d2 d3;have c0:=cell_at (j:=0) (v:=v0) H0.out rfl;have c1:=cell_at (j:=0) (v:=v1) H1.out rfl;have c2:=cell_at (j:=0) (v:=v2) H2.out rfl;have c3:=cell_at (j:=0) (v:=v3) H3.out rfl;have d0:=unfrozen_at H0.out 0;have d1:=unfrozen_at H1.out 0;have d2:=unfrozen_at H2.out 0;have d3:=unfrozen_at H3.out 0;clear hwA hc;refine wpS_of_wp ?_
 go_wp2_with(rw[←HWA.out,←HCC.out])
 go_region_held3 (fun w'=>CQ w' c (.int .i64 z) (.int .i64 (p:Nat))) (repeat(first|(with_reducible exact HQ.out)|(with_reducible exact HQd.out)|(with_reducible refine CQ.set ?_ (by assumption) _)|(with_reducible refine CQ.drew ?_))) (fail)
 all_goals
  go_wp2;have hR:=ZgK (w:=wA) ⟨H0.out,H1.out,H2.out,H3.out,n01,n02,n03,n12,n13,n23⟩ .nilIface (.slice none 0 0) (.int .i64 (p:Nat)) (.int .i64 z);have HR:=hid hR;clear hR;simp[bodyPostS,results,Tryz.results203];exact⟨HR.out.1.drew,(HA.out.any.trans HR.out.2 (fun _ _ x=>x)).drew⟩
theorem ZgL(w:World)(v0 v1 v2 v3:Value):Four ((((w.alloc (.cells #[v0] 26)).alloc (.cells #[v1] 36)).alloc (.cells #[v2] 3)).alloc (.cells #[v3] 37)) w.heap.size (w.heap.size+1) (w.heap.size+1+1) (w.heap.size+1+1+1) v0 v1 v2 v3:=
 ⟨Ze _ (Ze _ (Ze _ (newAt0 w _))),Ze _ (Ze _ (Zh _ _ _ (by simp))),Ze _ (Zh _ _ _ (by simp)),Zh _ _ _ (by simp),by omega,by omega,by omega,by omega,by omega,by omega⟩
theorem ZfP{X:Nat→Prop}{w w':World}{b0 b1 b2 b3:Nat}{v0 v1 v2 v3:Value}(h:Four w b0 b1 b2 b3 v0 v1 v2 v3)(f:Fr X w w')(hX:∀k,(k=b0∨k=b1∨k=b2∨k=b3)→¬X k):Four w' b0 b1 b2 b3 v0 v1 v2 v3:=
 ⟨f.heap h.h0 (hX _ (.inl rfl)),f.heap h.h1 (hX _ (.inr (.inl rfl))),f.heap h.h2 (hX _ (.inr (.inr (.inl rfl)))),f.heap h.h3 (hX _ (.inr (.inr (.inr rfl)))),h.n01,h.n02,h.n03,h.n12,h.n13,h.n23⟩
abbrev PQ(w:World)(b c:Nat)(v0 v4:Value):Prop:=w.cell? ⟨b,0,none⟩=some v0∧w.cell? ⟨c,4,none⟩=some v4
theorem PQ.drew{w:World}{b c:Nat}{v0 v4:Value}(h:PQ w b c v0 v4):PQ w.drew b c v0 v4:=h
theorem PQ.set{w:World}{b c k j:Nat}{v0 v4:Value}(h:PQ w b c v0 v4)(hb:k≠b)(hc:k≠c)(u:Value):PQ (w.setCell ⟨k,j,none⟩ u) b c v0 v4:=⟨Zl h.1 hb,Zl h.2 hc⟩
theorem PQ.same{w:World}{b c:Nat}{v0 v4:Value}(h:PQ w b c v0 v4)(hc:b≠c):PQ (w.setCell ⟨b,0,none⟩ v0) b c v0 v4:=⟨World.cell?_setCell_same' _ _ _ (by rw[h.1];rfl),Zl h.2 hc⟩
def BreAnsO(R:Out Nd)(w:World)(e:Ending)(w':World):Prop:=Fr nob w w'∧match R with
 | .inl (z,p)=>e=.returned (.tuple #[.nilIface,.slice none 0 0,.int .i64 (p:Nat),.int .i64 z])
 | .inr (t,s)=>∃i y mv,e=.returned (.tuple #[.iface i y,mv,.int .i64 0,.int .i64 0])∧RN (fun k=>k<w.heap.size) w' t (.iface i y)∧OwM w' s.marks mv∧∀k,mv.ownBlock=some k→w.heap.size≤k
theorem Zdy(l:List UInt8)(w:World)(hl:l.length≤100000)(hE:Env w):
 Calls Tryz.prog 179 #[.string ⟨l.toArray⟩] w (BreAnsO (Zds prg l) w):=by
 have hmf:=Zev;by_cases h250:250<l.length
 ·have hlI:(250:Int)<(l.length:Int):=by omega
  unfold Zds;rw[if_pos h250]
  go_enter_defers Tryz.func179,Tryz.ntmps179
  go_wp2;have hF:=ZgL w .nilIface (.slice none 0 0) (.int .i64 250) (.int .i64 3);have k0:=cell_at (j:=0) (v:=.nilIface) hF.h0 rfl;have k1:=cell_at (j:=0) (v:=.slice none 0 0) hF.h1 rfl;have k2:=cell_at (j:=0) (v:=.int .i64 250) hF.h2 rfl;have k3:=cell_at (j:=0) (v:=.int .i64 3) hF.h3 rfl;have FW:=hid (((((Fr.refl nob w).alloc (.cells #[.nilIface] 26)).alloc (.cells #[.slice none 0 0] 36)).alloc (.cells #[.int .i64 250] 3)).alloc (.cells #[.int .i64 3] 37));simp[bodyPostD,Leaves,settle,results,Tryz.results179,go_sem,BreAnsO];exact FW.out
 ·have hlI:¬(250:Int)<(l.length:Int):=by omega
  unfold Zds;rw[if_neg h250];obtain⟨F,hF⟩:∃F,chS prg l 12 ⟨0,0,[],[]⟩=F:=⟨_,rfl⟩;rw[hF];obtain⟨w4,hw4⟩:∃w4,w4=(((w.alloc (.cells #[.nilIface] 26)).alloc (.cells #[.slice none 0 0] 36)).alloc (.cells #[.int .i64 0] 3)).alloc (.cells #[.int .i64 0] 37):=⟨_,rfl⟩;have hs4:w4.heap.size=w.heap.size+1+1+1+1:=by rw[hw4];simp
  have hf4:Fr nob w w4:=by rw[hw4];exact(((((Fr.refl nob w).alloc _).alloc _).alloc _).alloc _)
  have h4:Four w4 w.heap.size (w.heap.size+1) (w.heap.size+1+1) (w.heap.size+1+1+1) .nilIface (.slice none 0 0) (.int .i64 0) (.int .i64 0):=by rw[hw4];exact ZgL w _ _ _ _
  obtain⟨w5,hw5⟩:∃w5,w5=w4.alloc (.cells #[.string ⟨l.toArray⟩,.int .i64 0,.int .i64 0,.slice none 0 0,.slice none 0 0] 288):=⟨_,rfl⟩;have hf45:Fr nob w4 w5:=by rw[hw5];exact(Fr.refl nob w4).alloc _
  have hs5:w5.heap.size=w4.heap.size+1:=by rw[hw5];simp
  obtain⟨b,hb⟩:∃b,b=w4.heap.size:=⟨_,rfl⟩;have hB:Br b l ⟨0,0,[],[]⟩ (fun k=>k=b) (.slice none 0 0) (.slice none 0 0) w5:=
   ⟨by rw[hw5,hb];exact newAt0 w4 _,World.ownsRow_nil _ _ _ _,World.ownsRow_nil _ _ _ _,fun _ h=>(by cases h),fun _ h=>(by cases h),fun _ h=>(by cases h),rfl⟩
  have hO:∀k,k<b→k<w5.heap.size:=fun k hk=>by omega
  have hch:=ZiN l w hl hE 12 0 rfl b ⟨0,0,[],[]⟩ (fun k=>k=b) (fun k=>k<b) w5 hO ⟨Nat.zero_le _,Nat.le_refl _,Nat.le_refl _,Nat.le_refl _⟩ ⟨hf4.trans' hf45,fun k hk=>by subst hk;omega,fun k hk=>by subst hk;omega⟩ ⟨_,_,hB⟩;rw[hF]at hch;have h5:=ZfP (X:=nob) h4 hf45 (fun _ _ x=>x);have hHS:b=w.heap.size+1+1+1+1:=by omega
  rw[show((0:Nat):Int)=0 from rfl]at hch;subst hHS;have HCH:=hid hch;have H5:=hid h5;have HW4:=hid hw4;have HW5:=hid hw5;have HF5:=hid (hf4.trans' hf45);have HS5:=hid (show w5.heap.size=w.heap.size+5 by omega);have hmk:∀s6 S6 w6,Rdg (w.heap.size+1+1+1+1) l s6 S6 w6→Rdg (w.heap.size+1+1+1+1) l s6 S6 w6:=fun _ _ _ h=>h;clear hch h5 h4 hw4 hw5 hB hO hF hb hs4 hf4 hf45 hE hs5 hmk
  go_enter_defers Tryz.func179,Tryz.ntmps179
  go_wp2_with(rw[←HW4.out,←HW5.out])
  refine(HCH.out).mono ?_;cases F with
  |inl q=>
   obtain⟨z,p⟩:=q;rintro e w6 ⟨rfl,S6,t6⟩;have h6:=ZfP H5.out t6.fr (fun k hk x=>by have x:k=w.heap.size+1+1+1+1:=x;omega);have F6:Fr nob w w6:=HF5.out.trans t6.fr (fun i hi x=>by have x:i=w.heap.size+1+1+1+1:=x;omega);refine leaves_cons (f:=203) (args:= #[.pointer (some ⟨w.heap.size,0,none⟩),.pointer (some ⟨w.heap.size+1,0,none⟩),.pointer (some ⟨w.heap.size+1+1,0,none⟩),.pointer (some ⟨w.heap.size+1+1+1,0,none⟩)]) (by simp) (by simp[go_sem]) ?_;refine(ZcJ _ _ _ _ _ _ _ _ z p [] _ h6).mono ?_;rintro e u' w7 ⟨rfl,rfl,h7,f7⟩;have k0:=cell_at (j:=0) (v:=.nilIface) h7.h0 rfl;have k1:=cell_at (j:=0) (v:=.slice none 0 0) h7.h1 rfl;have k2:=cell_at (j:=0) (v:=.int .i64 (p:Nat)) h7.h2 rfl;have k3:=cell_at (j:=0) (v:=.int .i64 z) h7.h3 rfl;have FW:=hid (show Fr nob w w7 from F6.trans f7 (fun i hi x=>by omega));clear h7 f7 F6 h6 t6;simp[Leaves,settle,results,Tryz.results179,go_sem,BreAnsO,k0,k1,k2,k3]
   exact FW.out
  |inr q=>
   obtain⟨t,s⟩:=q;rintro e w6 ⟨i,y,S6,rfl,rn6,⟨cv,mv,hB6⟩,t6⟩;have h6:=ZfP H5.out t6.fr (fun k hk x=>by have x:k=w.heap.size+1+1+1+1:=x;omega);have F6:Fr nob w w6:=HF5.out.trans t6.fr (fun i hi x=>by have x:i=w.heap.size+1+1+1+1:=x;omega);obtain⟨w7,hw7⟩:∃w7,w7=w6.setCell ⟨w.heap.size,0,none⟩ (.iface i y):=⟨_,rfl⟩;have c0:=cell_at (j:=0) (v:=.nilIface) h6.h0 rfl;have d0:=unfrozen_at h6.h0 0;have h7:Four w7 w.heap.size (w.heap.size+1) (w.heap.size+1+1) (w.heap.size+1+1+1) (.iface i y) (.slice none 0 0) (.int .i64 0) (.int .i64 0):=by
    rw[hw7];exact⟨Za h6.h0 0 _,Zc h6.h1 (Ne.symm h6.n01) _,Zc h6.h2 (Ne.symm h6.n02) _,Zc h6.h3 (Ne.symm h6.n03) _,h6.n01,h6.n02,h6.n03,h6.n12,h6.n13,h6.n23⟩
   have f67:Fr (fun k=>k=w.heap.size) w6 w7:=by rw[hw7];exact(Fr.refl (fun k=>k=w.heap.size) w6).setCell (p:=⟨w.heap.size,0,none⟩) (fun _=>rfl) _
   have e4:w7.cell? ⟨w.heap.size+1+1+1+1,4,none⟩=some mv:=f67.cell (cell_at hB6.blk rfl) (fun x=>by simp only at x;omega);have c7:=cell_at (j:=0) (v:=.iface i y) h7.h0 rfl;have c71:=cell_at (j:=0) (v:=.slice none 0 0) h7.h1 rfl;have c72:=cell_at (j:=0) (v:=.int .i64 0) h7.h2 rfl;have c73:=cell_at (j:=0) (v:=.int .i64 0) h7.h3 rfl;have d7:=unfrozen_at h7.h0 0;have d71:=unfrozen_at h7.h1 0;have d72:=unfrozen_at h7.h2 0;have d73:=unfrozen_at h7.h3 0;obtain⟨am,cm,hmv⟩:=Zb hB6.ma;subst hmv;have hpq:PQ w7 w.heap.size (w.heap.size+1+1+1+1) (.iface i y) (.slice am s.marks.length cm):=⟨c7,e4⟩;have HQ:=hid hpq;have HQd:=hid (PQ.drew hpq);have HW7:=hid hw7;have H7:=hid h7;have RN6:=hid rn6;have T6:=hid t6;have F6:=hid F6;have F67:=hid f67;have HB6:=hid hB6;clear hw7 h7 h6 rn6 t6 f67 hB6 hpq
   go_wp2_with(rw[←HW7.out])
   go_region_held3 (fun w'=>PQ w' w.heap.size (w.heap.size+1+1+1+1) (.iface i y) (.slice am s.marks.length cm)) (repeat(first|(with_reducible exact HQ.out)|(with_reducible exact HQd.out)|(with_reducible refine PQ.same ?_ (by omega))|(with_reducible refine PQ.set ?_ (by omega) (by omega) _)|(with_reducible refine PQ.drew ?_))) (fail)
   all_goals
    obtain⟨w8,hw8⟩:∃w8,w8=((((w7.setCell ⟨w.heap.size,0,none⟩ (.iface i y)).setCell ⟨w.heap.size+1,0,none⟩ (.slice am s.marks.length cm)).setCell ⟨w.heap.size+1+1,0,none⟩ (.int .i64 0)).setCell ⟨w.heap.size+1+1+1,0,none⟩ (.int .i64 0)).drew:=⟨_,rfl⟩;rw[←hw8];have hR:=ZgK H7.out (.iface i y) (.slice am s.marks.length cm) (.int .i64 0) (.int .i64 0);have h8:Four w8 w.heap.size (w.heap.size+1) (w.heap.size+1+1) (w.heap.size+1+1+1) (.iface i y) (.slice am s.marks.length cm) (.int .i64 0) (.int .i64 0):=by rw[hw8];exact hR.1.drew
    have f8:Fr (fun k=>k=w.heap.size∨k=w.heap.size+1∨k=w.heap.size+1+1∨k=w.heap.size+1+1+1) w6 w8:=by rw[hw8];exact((F67.out.mono (fun _ _ x=>.inl x)).trans hR.2 (fun _ _ x=>x)).drew
    have hrn:RN (fun k=>k<w.heap.size) w8 t (.iface i y):=RN.keep f8 (fun k _ x=>.inr (by show k<_;omega)) (fun k _ x=>.inr (by show k<_;have x:k<w.heap.size:=x;omega)) _ _ RN6.out;have hma:OwM w8 s.marks (.slice am s.marks.length cm):=ownsRow_fr HB6.out.ma f8 (fun k hk x=>by
     have h1:=HB6.out.nm k hk;have h2:=HS5.out;have h3:k=w.heap.size+1+1+1+1:=T6.out.old k (by omega) h1.2;omega)
    have hfr:Fr nob w w8:=F6.out.trans f8 (fun i hi x=>by omega);have k0:=cell_at (j:=0) (v:=.iface i y) h8.h0 rfl;have k1:=cell_at (j:=0) (v:=.slice am s.marks.length cm) h8.h1 rfl;have k2:=cell_at (j:=0) (v:=.int .i64 0) h8.h2 rfl;have k3:=cell_at (j:=0) (v:=.int .i64 0) h8.h3 rfl;have hnw:∀k,(Value.slice am s.marks.length cm).ownBlock=some k→w.heap.size≤k:=fun k hk=>by
     have h1:=HB6.out.nm k hk;have h2:=HS5.out;by_cases hlt:k<w5.heap.size
     ·have h3:k=w.heap.size+1+1+1+1:=T6.out.old k hlt h1.2;omega
     ·omega
    have HA:=hid (show BreAnsO (.inr (t,s)) w (.returned (.tuple #[.iface i y,.slice am s.marks.length cm,.int .i64 0,.int .i64 0])) w8 from⟨hfr,_,_,_,rfl,hrn,hma,hnw⟩);clear hR h8 f8 hrn hma hnw hfr hw8 c0 d0 c7 c71 c72 c73 d7 d71 d72 d73;go_wp2;refine leaves_cons (f:=203) (args:= #[.pointer (some ⟨w.heap.size,0,none⟩),.pointer (some ⟨w.heap.size+1,0,none⟩),.pointer (some ⟨w.heap.size+1+1,0,none⟩),.pointer (some ⟨w.heap.size+1+1+1,0,none⟩)]) (by simp) (by simp[go_sem]) ?_;refine(ZfO _ _ _ _ _).mono ?_;rintro e u' w9 ⟨rfl,rfl,rfl⟩;simp[Leaves,settle,results,Tryz.results179,go_sem,k0,k1,k2,k3];exact HA.out
theorem ZaZ{l X:List UInt8}{k:Nat}(h:sgn l k=X)(hX:X≠[]):k+X.length≤l.length:=by
 have hk:k<l.length:=by
  by_cases hk:k<l.length
  ·exact hk
  ·exact absurd (h.symm.trans (ZiD (by omega))) hX
 have:=(ZiE l k).2;rw[h]at this;omega
theorem Zbp(ere:Bool)(b:UInt8):1≤(opB ere b).length∧(opB ere b).length≤2∧opB ere b≠[]∧(ere=false→(opB ere b).length=2):=by cases ere<;>simp[opB]
theorem Zcb{l:List UInt8}{k:Nat}{ere:Bool}{b:UInt8}(h:(sgn l k==opB ere b)=true):k+(opB ere b).length≤l.length:=ZaZ (eq_of_beq h) (Zbp ere b).2.2.1
theorem ZiO{l:List UInt8}{ere:Bool}{k:Nat}{m x:Int}{j:Nat}(h:Zlu l ere k=some (m,x,j)):k<j∧j≤l.length:=by
 unfold Zlu at h;simp only at h;split at h
 ·cases h
 ·next hc=>
  have h4:=(Zbp ere 125).1;have key:∀(q:Nat),ahd l q (opB ere 125)≠false→q+(opB ere 125).length≤l.length:=fun q hq=>ahd_le (by simpa using hq) h4;split at h
  ·split at h
   all_goals
    split at h
    ·cases h
    ·next ha=>
     injection h with h;injection h with h1 h;injection h with h2 h3;have:=key _ (fun e=>ha (.inl e));omega
  ·split at h
   ·cases h
   ·next ha=>
    injection h with h;injection h with h1 h;injection h with h2 h3;have:=key _ (fun e=>ha (.inl e));omega
def Zlz(l:List UInt8)(f:RxS→Out Nd):Prop:=∀s,Sane l s→∀t s',f s=.inr (t,s')→Sane l s'∧s.at_≤s'.at_∧t.size+2*s.at_≤2*s'.at_+2
theorem Sane.mk2{l:List UInt8}{s:RxS}{ere:Bool}{b:UInt8}(t:List UInt8)(hs:Sane l s)(h:s.at_+(opB ere b).length≤l.length):Sane l ((if ere then s else s.mark t).go (opB ere b).length):=by
 cases ere
 ·exact hs.markgo t (Zbp false b).1 h
 ·exact hs.go h
theorem Za8{ere:Bool}{l:List UInt8}:∀(n:Nat) (s:RxS) (t:Nd) (t':Nd) (s':RxS),Sane l s→Zfg prg ere l n s t=.inr (t',s')→Sane l s'∧s.at_≤s'.at_∧t'.size+2*s.at_≤2*s'.at_+t.size
 |0,s,t,t',s',hs,h=>by
  rw[Zfg]at h;injection h with h;injection h with h1 h2;subst h1;subst h2;exact⟨hs,Nat.le_refl _,by omega⟩
 |n+1,s,t,t',s',hs,h=>by
  have hz:∀a b,(prg.rep t a b).size=1+t.size:=fun _ _=>rfl;have hat:∀u b,((if ere then s else s.mark u).go (opB ere b).length).at_=s.at_+(opB ere b).length:=fun u b=>by cases ere<;>rfl
  have ho:=Zbp ere;rw[Zfg]at h;split at h
  ·next e=>
   have hle:s.at_+1≤l.length:=ZaZ (eq_of_beq e) (by decide);obtain⟨k1,k2,k3⟩:=Za8 n _ _ _ _ (hs.go (n:=1) hle) h;have k2:s.at_+1≤s'.at_:=k2;have k3:t'.size+2*(s.at_+1)≤2*s'.at_+(1+t.size):=k3;exact⟨k1,by omega,by omega⟩
  ·split at h
   ·next e=>
    obtain⟨k1,k2,k3⟩:=Za8 n _ _ _ _ (hs.mk2 _ (Zcb e)) h;rw[hat]at k2 k3;rw[hz]at k3;have:=(ho 43).1;exact⟨k1,by omega,by omega⟩
   ·split at h
    ·next e=>
     obtain⟨k1,k2,k3⟩:=Za8 n _ _ _ _ (hs.mk2 _ (Zcb e)) h;rw[hat]at k2 k3;rw[hz]at k3;have:=(ho 63).1;exact⟨k1,by omega,by omega⟩
    ·split at h
     ·cases hi:Zlu l ere (s.at_+(opB ere 123).length)with
      |none=>rw[hi]at h;cases h
      |some y=>
       obtain⟨m,x,j⟩:=y;rw[hi]at h;obtain⟨j1,j2⟩:=ZiO hi;obtain⟨k1,k2,k3⟩:=Za8 n _ _ _ _ (hs.to (n:=j) (by omega) j2) h;have k2:j≤s'.at_:=k2;have k3:t'.size+2*j≤2*s'.at_+(1+t.size):=k3;exact⟨k1,by omega,by omega⟩
     ·injection h with h;injection h with h1 h2;subst h1;subst h2;exact⟨hs,Nat.le_refl _,by omega⟩
section
variable {ere:Bool} {l:List UInt8} {C:Option (RxS→Out Nd)} (hC:∀f,C=some f→Zlz l f)
theorem ZiP{s s':RxS}{t:Nd}{b:UInt8}(hs:Sane l s)(hl:s.at_+2≤l.length)(h:escD prg ere s b=.inr (t,s')):Sane l s'∧s.at_<s'.at_∧t.size+2*s.at_≤2*s'.at_:=by
 unfold escD at h;split at h
 ·split at h
  ·injection h with h;injection h with h1 h2;subst h1;subst h2;cases ere
   ·exact⟨hs.go hl,by show s.at_<s.at_+2;omega,by show 1+2*s.at_≤2*(s.at_+2);omega⟩
   ·exact⟨hs.markgo _ (by omega) hl,by show s.at_<s.at_+2;omega,by show 1+2*s.at_≤2*(s.at_+2);omega⟩
  ·cases h
 ·split at h
  ·cases h
  ·next c m _=>
   injection h with h;injection h with h1 h2;subst h1;subst h2;cases m
   ·exact⟨hs.go hl,by show s.at_<s.at_+2;omega,by show 1+2*s.at_≤2*(s.at_+2);omega⟩
   ·exact⟨hs.markgo _ (by omega) hl,by show s.at_<s.at_+2;omega,by show 1+2*s.at_≤2*(s.at_+2);omega⟩
include hC
theorem ZfQ{s s':RxS}{t:Nd}(hs:Sane l s)(hl:s.at_+(opB ere 40).length≤l.length)(h:ZcE prg ere l C s=.inr (t,s')):Sane l s'∧s.at_<s'.at_∧t.size+2*s.at_≤2*s'.at_:=by
 have ho:=Zbp ere 40;unfold ZcE at h;cases C with
 |none=>cases h
 |some f=>
  simp only at h;cases hf:f {s.go (opB ere 40).length with opened:=s.opened+1}with
  |inl e=>rw[hf]at h;cases h
  |inr z=>
   obtain⟨t1,s1⟩:=z;rw[hf]at h;simp only at h;have:=hs.op;have hg:=hs.go hl;obtain⟨k1,k2,k3⟩:=hC f rfl {s.go (opB ere 40).length with opened:=s.opened+1} ⟨hg.le,hg.mr,hg.cl,by show s.opened+1≤s.at_+_;omega⟩ t1 s1 hf;have k2:s.at_+(opB ere 40).length≤s1.at_:=k2;have k3:t1.size+2*(s.at_+(opB ere 40).length)≤2*s1.at_+2:=k3;split at h
   ·next e=>
    have e1:=Zcb e;have e2:(opB ere 40).length=(opB ere 41).length:=by cases ere<;>rfl
    injection h with h;injection h with h1 h2;subst h1;subst h2;refine⟨⟨by show s1.at_+_≤_;omega,Nat.le_trans k1.mr (Nat.le_add_right _ _),?_,Nat.le_trans k1.op (Nat.le_add_right _ _)⟩,by show s.at_<s1.at_+_;omega,?_⟩
    ·show(s1.closed++[_]).length≤s1.at_+_;have:=k1.cl;rw[List.length_append];simp only[List.length_singleton];omega
    ·show 1+t1.size+2*s.at_≤2*(s1.at_+_);omega
   ·cases h
theorem atomD_kept{s s':RxS}{t:Nd}(hs:Sane l s)(h:Zd2 prg ere l C s=.inr (t,s')):Sane l s'∧s.at_<s'.at_∧t.size+2*s.at_≤2*s'.at_:=by
 unfold Zd2 at h;split at h
 ·next e=>exact ZfQ hC hs (Zcb e) h
 ·split at h
  ·cases h
  ·split at h
   ·cases hp:prs l (s.at_+1)with
    |inl z=>rw[hp]at h;cases h
    |inr y=>
     obtain⟨c,k⟩:=y;rw[hp]at h;injection h with h;injection h with h2 h3;subst h2;subst h3;obtain⟨_,p2,p3⟩:=ZkO hp;have p2:s.at_+1<k:=p2;have p3:k≤l.length:=p3;exact⟨hs.to (by omega) p3,by show s.at_<k;omega,by show 1+2*s.at_≤2*k;omega⟩
   ·split at h
    ·next e=>
     have hle:s.at_+1≤l.length:=ZaZ (eq_of_beq e) (by decide);injection h with h;injection h with h2 h3;subst h2;subst h3;exact⟨hs.go hle,by show s.at_<s.at_+1;omega,by show 1+2*s.at_≤2*(s.at_+1);omega⟩
    ·split at h
     ·cases h
     ·split at h
      ·cases h
      ·next b e=>
       have hle:s.at_+1≤l.length:=ZaZ e (by simp);injection h with h;injection h with h2 h3;subst h2;subst h3;exact⟨hs.go hle,by show s.at_<s.at_+1;omega,by show 1+2*s.at_≤2*(s.at_+1);omega⟩
      ·next b r e=>
       have h2:=(ZiE l s.at_).1;have hle:=ZaZ e (by simp);simp only[List.length_cons]at hle;obtain⟨k1,k2,k3⟩:=ZiP hs (by omega) h;exact⟨k1,k2,k3⟩
theorem ZcT{inner:Bool}:∀(n:Nat) (first front:Bool) (s:RxS) (ps:List Nd) (t:Nd) (s':RxS),Sane l s→brD prg ere l C inner n first front s ps=.inr (t,s')→
 Sane l s'∧s.at_≤s'.at_∧t.size+2*s.at_≤2*s'.at_+Nd.sizes ps+1
 |0,first,front,s,ps,t,s',hs,h=>by
  rw[brD]at h;injection h with h;injection h with h1 h2;subst h1;subst h2;have:=Zb9 ps;exact⟨hs,Nat.le_refl _,by show(ZbN ps).size+_≤_;omega⟩
 |n+1,first,front,s,ps,t,s',hs,h=>by
  have hj:=Zb9 ps;rw[brD]at h;split at h
  ·injection h with h;injection h with h1 h2;subst h1;subst h2;exact⟨hs,Nat.le_refl _,by show(ZbN ps).size+_≤_;omega⟩
  ·split at h
   ·next e=>
    have e1:(sgn l s.at_==[94])=true:=by simp only[Bool.and_eq_true]at e;exact e.1
    have hle:s.at_+1≤l.length:=ZaZ (eq_of_beq e1) (by decide);obtain⟨k1,k2,k3⟩:=ZcT n _ _ _ _ _ _ (hs.go (n:=1) hle) h;have k2:s.at_+1≤s'.at_:=k2;have k3:t.size+2*(s.at_+1)≤2*s'.at_+Nd.sizes (ps++[.start])+1:=k3;rw[Nd.sizes_append]at k3;have:Nd.sizes [Nd.start]=1:=rfl;exact⟨k1,by omega,by omega⟩
   ·split at h
    ·next e=>
     have e1:(sgn l s.at_==[36])=true:=by simp only[Bool.and_eq_true]at e;exact e.1
     have hle:s.at_+1≤l.length:=ZaZ (eq_of_beq e1) (by decide);obtain⟨k1,k2,k3⟩:=ZcT n _ _ _ _ _ _ (hs.go (n:=1) hle) h;have k2:s.at_+1≤s'.at_:=k2;have k3:t.size+2*(s.at_+1)≤2*s'.at_+Nd.sizes (ps++[.fin])+1:=k3;rw[Nd.sizes_append]at k3;have:Nd.sizes [Nd.fin]=1:=rfl;exact⟨k1,by omega,by omega⟩
    ·split at h
     ·cases h
     ·split at h
      ·cases h
      ·next t1 s1 e1=>
       split at h
       ·cases h
       ·next t2 s2 e2=>
        obtain⟨a1,a2,a3⟩:=atomD_kept hC hs e1;obtain⟨b1,b2,b3⟩:=Za8 _ _ _ _ _ a1 e2;obtain⟨k1,k2,k3⟩:=ZcT n _ _ _ _ _ _ b1 h;rw[Nd.sizes_append]at k3;have:Nd.sizes [t2]=t2.size:=by simp[Nd.sizes]
        exact⟨k1,by omega,by omega⟩
theorem ZaW{inner:Bool}{s s':RxS}{t:Nd}(hs:Sane l s)(h:Zda prg ere l C inner s=.inr (t,s')):Sane l s'∧s.at_≤s'.at_∧t.size+2*s.at_≤2*s'.at_+1:=by
 have:=ZcT hC _ _ _ _ _ _ _ hs h;simpa[Nd.sizes]using this
theorem Zdz{inner:Bool}:∀(n:Nat) (s:RxS) (ts:List Nd) (t:Nd) (s':RxS),Sane l s→Zav prg ere l C inner n s ts=.inr (t,s')→
 Sane l s'∧s.at_≤s'.at_∧t.size+2*s.at_≤2*s'.at_+Nd.sizes ts+1
 |0,s,ts,t,s',hs,h=>by
  rw[Zav]at h;injection h with h;injection h with h1 h2;subst h1;subst h2;have:=Zca ts;exact⟨hs,Nat.le_refl _,by show(ZbD ts).size+_≤_;omega⟩
 |n+1,s,ts,t,s',hs,h=>by
  have hj:=Zca ts;have hat:∀u b,((if ere then s else s.mark u).go (opB ere b).length).at_=s.at_+(opB ere b).length:=fun u b=>by cases ere<;>rfl
  have ho:=Zbp ere 124;rw[Zav]at h;split at h
  ·next e=>
   split at h
   ·cases h
   ·next t1 s1 e1=>
    obtain⟨a1,a2,a3⟩:=ZaW hC (hs.mk2 _ (Zcb e)) e1;rw[hat]at a2 a3;obtain⟨k1,k2,k3⟩:=Zdz n _ _ _ _ a1 h;rw[Nd.sizes_append]at k3;have:Nd.sizes [t1]=t1.size:=by simp[Nd.sizes]
    exact⟨k1,by omega,by omega⟩
  ·injection h with h;injection h with h1 h2;subst h1;subst h2;exact⟨hs,Nat.le_refl _,by show(ZbD ts).size+_≤_;omega⟩
theorem ZcG{inner:Bool}{s s':RxS}{t:Nd}(hs:Sane l s)(h:choiceD prg ere l C inner s=.inr (t,s')):Sane l s'∧s.at_≤s'.at_∧t.size+2*s.at_≤2*s'.at_+2:=by
 unfold choiceD at h;split at h
 ·cases h
 ·next t1 s1 e1=>
  obtain⟨a1,a2,a3⟩:=ZaW hC hs e1;obtain⟨k1,k2,k3⟩:=Zdz hC _ _ _ _ _ a1 h;have:Nd.sizes [t1]=t1.size:=by simp[Nd.sizes]
  exact⟨k1,by omega,by omega⟩
end
theorem chD_kept{ere:Bool}{l:List UInt8}:∀n,Zlz l (chD prg ere l n)
 |0=>fun s hs t s' h=>by rw[chD]at h;exact ZcG (fun f hf=>by cases hf) hs h
 |n+1=>fun s hs t s' h=>by rw[chD]at h;exact ZcG (fun f hf=>by injection hf with hf;subst hf;exact chD_kept n) hs h
def EreAnsO(R:Out Nd)(w:World)(e:Ending)(w':World):Prop:=Fr nob w w'∧match R with
 | .inl (z,p)=>e=.returned (.tuple #[.nilIface,.slice none 0 0,.int .i64 (p:Nat),.int .i64 z])
 | .inr (t,s)=>∃r mv,e=.returned (.tuple #[r,mv,.int .i64 0,.int .i64 0])∧RN (fun k=>k<w.heap.size) w' t r∧OwM w' s.marks mv∧∀k,mv.ownBlock=some k→w.heap.size≤k
end Go.Proofs.YtkfddjopbocpkaaGreatDoor
