/- Lemmas of this claim. -/
import Derived.Test.YtgllcniibbaoaaaGreatDoorM15
import Derived.Test.YtgllcniibbaoaaaGreatDoorM17
set_option linter.all false
set_option maxRecDepth 100000
set_option maxHeartbeats 4000000
namespace Go.Proofs.YtgllcniibbaoaaaGreatDoor
open Go.Lib (hid)
open Go.RowKit
structure Four(w:World)(b0 b1 b2 b3:Nat)(v0 v1 v2 v3:Value):Prop where
 h0:w.heap[b0]? =some (.cells #[v0] 24 (0,0))
 h1:w.heap[b1]? =some (.cells #[v1] 25 (0,0))
 h2:w.heap[b2]? =some (.cells #[v2] 3 (0,0))
 h3:w.heap[b3]? =some (.cells #[v3] 26 (0,0))
 n01:b0≠b1
 n02:b0≠b2
 n03:b0≠b3
 n12:b1≠b2
 n13:b1≠b3
 n23:b2≠b3
theorem Four.drew{w:World}{b0 b1 b2 b3:Nat}{v0 v1 v2 v3:Value}(h:Four w b0 b1 b2 b3 v0 v1 v2 v3):Four w.drew b0 b1 b2 b3 v0 v1 v2 v3:=
 ⟨h.h0,h.h1,h.h2,h.h3,h.n01,h.n02,h.n03,h.n12,h.n13,h.n23⟩
theorem Zin{w:World}{b0 b1 b2 b3:Nat}{v0 v1 v2 v3:Value}(h:Four w b0 b1 b2 b3 v0 v1 v2 v3)(u0 u1 u2 u3:Value):
 Four ((((w.setCell ⟨b0,0,none⟩ u0).setCell ⟨b1,0,none⟩ u1).setCell ⟨b2,0,none⟩ u2).setCell ⟨b3,0,none⟩ u3) b0 b1 b2 b3 u0 u1 u2 u3∧
  Fr (fun k=>k=b0∨k=b1∨k=b2∨k=b3) w ((((w.setCell ⟨b0,0,none⟩ u0).setCell ⟨b1,0,none⟩ u1).setCell ⟨b2,0,none⟩ u2).setCell ⟨b3,0,none⟩ u3):=by
 obtain⟨h0,h1,h2,h3,a,b,c,d,e,f⟩:=h;have k0:=Zc (p:=⟨b3,0,none⟩) (Zc (p:=⟨b2,0,none⟩) (Zc (p:=⟨b1,0,none⟩) (Za h0 0 u0) a u1) b u2) c u3;have k1:=Zc (p:=⟨b3,0,none⟩) (Zc (p:=⟨b2,0,none⟩) (Za (Zc (p:=⟨b0,0,none⟩) h1 (Ne.symm a) u0) 0 u1) d u2) e u3;have k2:=Zc (p:=⟨b3,0,none⟩) (Za (Zc (p:=⟨b1,0,none⟩) (Zc (p:=⟨b0,0,none⟩) h2 (Ne.symm b) u0) (Ne.symm d) u1) 0 u2) f u3;have k3:=Za (Zc (p:=⟨b2,0,none⟩) (Zc (p:=⟨b1,0,none⟩) (Zc (p:=⟨b0,0,none⟩) h3 (Ne.symm c) u0) (Ne.symm e) u1) (Ne.symm f) u2) 0 u3;refine⟨⟨k0,k1,k2,k3,a,b,c,d,e,f⟩,?_⟩;exact((((Fr.refl (fun k=>k=b0∨k=b1∨k=b2∨k=b3) w).setCell (p:=⟨b0,0,none⟩) (fun _=>.inl rfl) u0).setCell (p:=⟨b1,0,none⟩) (fun _=>.inr (.inl rfl)) u1).setCell (p:=⟨b2,0,none⟩) (fun _=>.inr (.inr (.inl rfl))) u2).setCell (p:=⟨b3,0,none⟩) (fun _=>.inr (.inr (.inr rfl))) u3
abbrev CQ(w:World)(b:Nat)(v0 v1:Value):Prop:=w.cell? ⟨b,0,none⟩=some v0∧w.cell? ⟨b,1,none⟩=some v1
theorem CQ.drew{w:World}{b:Nat}{v0 v1:Value}(h:CQ w b v0 v1):CQ w.drew b v0 v1:=h
theorem CQ.set{w:World}{b c j:Nat}{v0 v1:Value}(h:CQ w b v0 v1)(hn:c≠b)(u:Value):CQ (w.setCell ⟨c,j,none⟩ u) b v0 v1:=⟨Zm h.1 hn,Zm h.2 hn⟩
theorem Zho(p0 p1 p2 p3:Value)(w:World):
 CallsD Tryz.prog 32 #[p0,p1,p2,p3] .returning w fun e u' w'=>e=.returned (.tuple #[])∧u'=.returning∧w'=w:=by
 refine callsD_of_wpS Tryz.func32 rfl fun c₀ cs hu=> ?_;apply wpS_seq;apply wpS_region;simp[wpOpsS,go_sem,recoverD,hu,Tryz.ntmps32,Exit.thenS];refine wpS_of_wp ?_;go_wp2;cases c₀
 simp_all [bodyPostS,results,Tryz.results32]
theorem ZdA(b0 b1 b2 b3:Nat)(v0 v1 v2 v3:Value)(z:Int)(p:Nat)(older:List PanicEntry)(w:World)(h:Four w b0 b1 b2 b3 v0 v1 v2 v3):
 CallsD Tryz.prog 32 #[.pointer (some ⟨b0,0,none⟩),.pointer (some ⟨b1,0,none⟩),.pointer (some ⟨b2,0,none⟩),.pointer (some ⟨b3,0,none⟩)] (.panicking ({v:=.iface 79 (.agg #[.int .i64 z,.int .i64 (p:Nat)]),recovered:=false}::older)) w fun e u' w'=>
  e=.returned (.tuple #[])∧u'=.panicking ({v:=.iface 79 (.agg #[.int .i64 z,.int .i64 (p:Nat)]),recovered:=true}::older)∧Four w' b0 b1 b2 b3 .nilIface (.slice none 0 0) (.int .i64 (p:Nat)) (.int .i64 z)∧Fr (fun k=>k=b0∨k=b1∨k=b2∨k=b3) w w':=by
 refine callsD_of_wpS Tryz.func32 rfl fun c₀ cs hu=> ?_;apply wpS_seq;apply wpS_region;simp[wpOpsS,go_sem,recoverD,hu,Tryz.ntmps32,Exit.thenS];obtain⟨h0,h1,h2,h3,l,m,n,o,q,r⟩:=h;have c0:=cell_at (j:=0) (v:=v0) h0 rfl;have c1:=cell_at (j:=0) (v:=v1) h1 rfl;have c2:=cell_at (j:=0) (v:=v2) h2 rfl;have c3:=cell_at (j:=0) (v:=v3) h3 rfl;have d0:=ZF h0 0;have d1:=ZF h1 0;have d2:=ZF h2 0;have d3:=ZF h3 0;have l0:=lt_heap h0;have l1:=lt_heap h1;have l2:=lt_heap h2;have l3:=lt_heap h3;have has:=fun(x:TypeId) (v:Value) (w:World)=>Zfe (P:=Tryz.prog) (x:=x) Tryz.underlying79 v w;have hz:=newAt0 w (.cells #[.int .i64 z,.int .i64 (p:Nat)] 79);obtain⟨wA,d⟩:∃wA,wA=w.alloc (.cells #[.int .i64 z,.int .i64 (p:Nat)] 79):=⟨_,rfl⟩;have a:Fr nob w wA:=by rw[d];exact(Fr.refl nob w).alloc _
 rw[←d]at hz;obtain⟨c,hc⟩:∃c,c=w.heap.size:=⟨_,rfl⟩;rw[←hc]at hz;have b:CQ wA c (.int .i64 z) (.int .i64 (p:Nat)):=⟨cell_at hz rfl,cell_at hz rfl⟩;have e0:=b.1;have e1:=b.2;have HQ:=hid b;have g:=hid (CQ.drew b);have m0:b0≠c:=by omega
 have m1:b1≠c:=by omega
 have m2:b2≠c:=by omega
 have m3:b3≠c:=by omega
 have H0:=hid (a.heap h0 (fun x=>x));have H1:=hid (a.heap h1 (fun x=>x));have H2:=hid (a.heap h2 (fun x=>x));have H3:=hid (a.heap h3 (fun x=>x));have HA:=hid a;have i:=hid d;have f:=hid hc;clear h0 h1 h2 h3 hz b a c0 c1 c2 c3 d0 d1 d2 d3;have c0:=cell_at (j:=0) (v:=v0) H0.out rfl;have c1:=cell_at (j:=0) (v:=v1) H1.out rfl;have c2:=cell_at (j:=0) (v:=v2) H2.out rfl;have c3:=cell_at (j:=0) (v:=v3) H3.out rfl;have d0:=ZF H0.out 0;have d1:=ZF H1.out 0;have d2:=ZF H2.out 0;have d3:=ZF H3.out 0;clear d hc;refine wpS_of_wp ?_;go_wp2_with(rw[←i.out,←f.out])
 go_region_held3 (fun w'=>CQ w' c (.int .i64 z) (.int .i64 (p:Nat))) (repeat(first|(with_reducible exact HQ.out)|(with_reducible exact g.out)|(with_reducible refine CQ.set ?_ (by assumption) _)|(with_reducible refine CQ.drew ?_))) (fail)
 all_goals
  go_wp2;have hR:=Zin (w:=wA) ⟨H0.out,H1.out,H2.out,H3.out,l,m,n,o,q,r⟩ .nilIface (.slice none 0 0) (.int .i64 (p:Nat)) (.int .i64 z);have HR:=hid hR;clear hR;simp[bodyPostS,results,Tryz.results32];exact⟨HR.out.1.drew,(HA.out.any.trans HR.out.2 (fun _ _ x=>x)).drew⟩
theorem Zio(w:World)(v0 v1 v2 v3:Value):Four ((((w.alloc (.cells #[v0] 24)).alloc (.cells #[v1] 25)).alloc (.cells #[v2] 3)).alloc (.cells #[v3] 26)) w.heap.size (w.heap.size+1) (w.heap.size+1+1) (w.heap.size+1+1+1) v0 v1 v2 v3:=
 ⟨heap_alloc_lt _ (heap_alloc_lt _ (heap_alloc_lt _ (newAt0 w _))),heap_alloc_lt _ (heap_alloc_lt _ (heap_alloc_new' _ _ _ (by simp))),heap_alloc_lt _ (heap_alloc_new' _ _ _ (by simp)),heap_alloc_new' _ _ _ (by simp),by omega,by omega,by omega,by omega,by omega,by omega⟩
theorem Zhp{X:Nat→Prop}{w w':World}{b0 b1 b2 b3:Nat}{v0 v1 v2 v3:Value}(h:Four w b0 b1 b2 b3 v0 v1 v2 v3)(f:Fr X w w')(hX:∀k,(k=b0∨k=b1∨k=b2∨k=b3)→¬X k):Four w' b0 b1 b2 b3 v0 v1 v2 v3:=
 ⟨f.heap h.h0 (hX _ (.inl rfl)),f.heap h.h1 (hX _ (.inr (.inl rfl))),f.heap h.h2 (hX _ (.inr (.inr (.inl rfl)))),f.heap h.h3 (hX _ (.inr (.inr (.inr rfl)))),h.n01,h.n02,h.n03,h.n12,h.n13,h.n23⟩
abbrev PQ(w:World)(b c:Nat)(v0 v4:Value):Prop:=w.cell? ⟨b,0,none⟩=some v0∧w.cell? ⟨c,4,none⟩=some v4
theorem PQ.drew{w:World}{b c:Nat}{v0 v4:Value}(h:PQ w b c v0 v4):PQ w.drew b c v0 v4:=h
theorem PQ.set{w:World}{b c k j:Nat}{v0 v4:Value}(h:PQ w b c v0 v4)(hb:k≠b)(hc:k≠c)(u:Value):PQ (w.setCell ⟨k,j,none⟩ u) b c v0 v4:=⟨Zm h.1 hb,Zm h.2 hc⟩
theorem PQ.same{w:World}{b c:Nat}{v0 v4:Value}(h:PQ w b c v0 v4)(hc:b≠c):PQ (w.setCell ⟨b,0,none⟩ v0) b c v0 v4:=⟨World.cell?_setCell_same' _ _ _ (by rw[h.1];rfl),Zm h.2 hc⟩
def Z8(R:Out Nd)(w:World)(e:Ending)(w':World):Prop:=Fr nob w w'∧match R with
 | .inl (z,p)=>e=.returned (.tuple #[.nilIface,.slice none 0 0,.int .i64 (p:Nat),.int .i64 z])
 | .inr (t,s)=>∃i y mv,e=.returned (.tuple #[.iface i y,mv,.int .i64 0,.int .i64 0])∧RN nob w' t (.iface i y)∧OwM w' s.marks mv
def ZW(R:Out Nd)(w:World)(e:Ending)(w':World):Prop:=Fr nob w w'∧match R with
 | .inl (z,p)=>e=.returned (.tuple #[.nilIface,.slice none 0 0,.int .i64 (p:Nat),.int .i64 z])
 | .inr (t,s)=>∃i y mv,e=.returned (.tuple #[.iface i y,mv,.int .i64 0,.int .i64 0])∧RN (fun k=>k<w.heap.size) w' t (.iface i y)∧OwM w' s.marks mv∧∀k,mv.ownBlock=some k→w.heap.size≤k
theorem ZeE(l:List UInt8)(w:World)(hl:l.length≤100000)(hE:Env w):
 Calls Tryz.prog 9 #[.string ⟨l.toArray⟩] w (ZW (Zey prg l) w):=by
 have a7:=ZfW;by_cases r:250<l.length
 ·have a1:(250:Int)<(l.length:Int):=by omega
  unfold Zey;rw[if_pos r]
  go_enter_defers Tryz.func9,Tryz.ntmps9
  go_wp2;have hF:=Zio w .nilIface (.slice none 0 0) (.int .i64 250) (.int .i64 3);have k0:=cell_at (j:=0) (v:=.nilIface) hF.h0 rfl;have k1:=cell_at (j:=0) (v:=.slice none 0 0) hF.h1 rfl;have k2:=cell_at (j:=0) (v:=.int .i64 250) hF.h2 rfl;have k3:=cell_at (j:=0) (v:=.int .i64 3) hF.h3 rfl;have FW:=hid (((((Fr.refl nob w).alloc (.cells #[.nilIface] 24)).alloc (.cells #[.slice none 0 0] 25)).alloc (.cells #[.int .i64 250] 3)).alloc (.cells #[.int .i64 3] 26));simp[bodyPostD,Leaves,settle,results,Tryz.results9,go_sem,ZW];exact FW.out
 ·have a1:¬(250:Int)<(l.length:Int):=by omega
  unfold Zey;rw[if_neg r];obtain⟨F,hF⟩:∃F,chS prg l 12 ⟨0,0,[],[]⟩=F:=⟨_,rfl⟩;rw[hF];obtain⟨w4,c⟩:∃w4,w4=(((w.alloc (.cells #[.nilIface] 24)).alloc (.cells #[.slice none 0 0] 25)).alloc (.cells #[.int .i64 0] 3)).alloc (.cells #[.int .i64 0] 26):=⟨_,rfl⟩;have a5:w4.heap.size=w.heap.size+1+1+1+1:=by rw[c];simp
  have B:Fr nob w w4:=by rw[c];exact(((((Fr.refl nob w).alloc _).alloc _).alloc _).alloc _)
  have h4:Four w4 w.heap.size (w.heap.size+1) (w.heap.size+1+1) (w.heap.size+1+1+1) .nilIface (.slice none 0 0) (.int .i64 0) (.int .i64 0):=by rw[c];exact Zio w _ _ _ _
  obtain⟨w5,d⟩:∃w5,w5=w4.alloc (.cells #[.string ⟨l.toArray⟩,.int .i64 0,.int .i64 0,.slice none 0 0,.slice none 0 0] 83):=⟨_,rfl⟩;have a:Fr nob w4 w5:=by rw[d];exact(Fr.refl nob w4).alloc _
  have a6:w5.heap.size=w4.heap.size+1:=by rw[d];simp
  obtain⟨b,hb⟩:∃b,b=w4.heap.size:=⟨_,rfl⟩;have hB:Br b l ⟨0,0,[],[]⟩ (fun k=>k=b) (.slice none 0 0) (.slice none 0 0) w5:=
   ⟨by rw[d,hb];exact newAt0 w4 _,World.ownsRow_nil _ _ _ _,World.ownsRow_nil _ _ _ _,fun _ h=>(by cases h),fun _ h=>(by cases h),fun _ h=>(by cases h),rfl⟩
  have hO:∀k,k<b→k<w5.heap.size:=fun k hk=>by omega
  have m:=ZkD l w hl hE 12 0 rfl b ⟨0,0,[],[]⟩ (fun k=>k=b) (fun k=>k<b) w5 hO ⟨Nat.zero_le _,Nat.le_refl _,Nat.le_refl _,Nat.le_refl _⟩ ⟨B.trans' a,fun k hk=>by subst hk;omega,fun k hk=>by subst hk;omega⟩ ⟨_,_,hB⟩;rw[hF]at m;have h5:=Zhp (X:=nob) h4 a (fun _ _ x=>x);have a0:b=w.heap.size+1+1+1+1:=by omega
  rw[show((0:Nat):Int)=0 from rfl]at m;subst a0;have M:=hid m;have H5:=hid h5;have O:=hid c;have P:=hid d;have D:=hid (B.trans' a);have E:=hid (show w5.heap.size=w.heap.size+5 by omega);have a3:∀s6 S6 w6,Rdg (w.heap.size+1+1+1+1) l s6 S6 w6→Rdg (w.heap.size+1+1+1+1) l s6 S6 w6:=fun _ _ _ h=>h;clear m h5 h4 c d hB hO hF hb a5 B a hE a6 a3
  go_enter_defers Tryz.func9,Tryz.ntmps9
  go_wp2_with(rw[←O.out,←P.out]);refine(M.out).mono ?_;cases F with
  |inl q=>
   obtain⟨z,p⟩:=q;rintro e w6 ⟨rfl,S6,t6⟩;have h6:=Zhp H5.out t6.fr (fun k hk x=>by have x:k=w.heap.size+1+1+1+1:=x;omega);have F6:Fr nob w w6:=D.out.trans t6.fr (fun i hi x=>by have x:i=w.heap.size+1+1+1+1:=x;omega);refine leaves_cons (f:=32) (args:= #[.pointer (some ⟨w.heap.size,0,none⟩),.pointer (some ⟨w.heap.size+1,0,none⟩),.pointer (some ⟨w.heap.size+1+1,0,none⟩),.pointer (some ⟨w.heap.size+1+1+1,0,none⟩)]) (by simp) (by simp[go_sem]) ?_;refine(ZdA _ _ _ _ _ _ _ _ z p [] _ h6).mono ?_;rintro e u' w7 ⟨rfl,rfl,h7,f7⟩;have k0:=cell_at (j:=0) (v:=.nilIface) h7.h0 rfl;have k1:=cell_at (j:=0) (v:=.slice none 0 0) h7.h1 rfl;have k2:=cell_at (j:=0) (v:=.int .i64 (p:Nat)) h7.h2 rfl;have k3:=cell_at (j:=0) (v:=.int .i64 z) h7.h3 rfl;have FW:=hid (show Fr nob w w7 from F6.trans f7 (fun i hi x=>by omega));clear h7 f7 F6 h6 t6;simp[Leaves,settle,results,Tryz.results9,go_sem,ZW,k0,k1,k2,k3]
   exact FW.out
  |inr q=>
   obtain⟨t,s⟩:=q;rintro e w6 ⟨i,y,S6,rfl,K,⟨cv,mv,g⟩,t6⟩;have h6:=Zhp H5.out t6.fr (fun k hk x=>by have x:k=w.heap.size+1+1+1+1:=x;omega);have F6:Fr nob w w6:=D.out.trans t6.fr (fun i hi x=>by have x:i=w.heap.size+1+1+1+1:=x;omega);obtain⟨w7,n⟩:∃w7,w7=w6.setCell ⟨w.heap.size,0,none⟩ (.iface i y):=⟨_,rfl⟩;have c0:=cell_at (j:=0) (v:=.nilIface) h6.h0 rfl;have d0:=ZF h6.h0 0;have h7:Four w7 w.heap.size (w.heap.size+1) (w.heap.size+1+1) (w.heap.size+1+1+1) (.iface i y) (.slice none 0 0) (.int .i64 0) (.int .i64 0):=by
    rw[n];exact⟨Za h6.h0 0 _,Zc h6.h1 (Ne.symm h6.n01) _,Zc h6.h2 (Ne.symm h6.n02) _,Zc h6.h3 (Ne.symm h6.n03) _,h6.n01,h6.n02,h6.n03,h6.n12,h6.n13,h6.n23⟩
   have A:Fr (fun k=>k=w.heap.size) w6 w7:=by rw[n];exact(Fr.refl (fun k=>k=w.heap.size) w6).setCell (p:=⟨w.heap.size,0,none⟩) (fun _=>rfl) _
   have e4:w7.cell? ⟨w.heap.size+1+1+1+1,4,none⟩=some mv:=A.cell (cell_at g.blk rfl) (fun x=>by simp only at x;omega);have c7:=cell_at (j:=0) (v:=.iface i y) h7.h0 rfl;have S:=cell_at (j:=0) (v:=.slice none 0 0) h7.h1 rfl;have U:=cell_at (j:=0) (v:=.int .i64 0) h7.h2 rfl;have V:=cell_at (j:=0) (v:=.int .i64 0) h7.h3 rfl;have d7:=ZF h7.h0 0;have W:=ZF h7.h1 0;have Y:=ZF h7.h2 0;have Z:=ZF h7.h3 0;obtain⟨am,cm,a4⟩:=Zb g.ma;subst a4;have C:PQ w7 w.heap.size (w.heap.size+1+1+1+1) (.iface i y) (.slice am s.marks.length cm):=⟨c7,e4⟩;have HQ:=hid C;have N:=hid (PQ.drew C);have Q:=hid n;have H7:=hid h7;have R:=hid K;have T6:=hid t6;have F6:=hid F6;have L:=hid A;have u:=hid g;clear n h7 h6 K t6 A g C;go_wp2_with(rw[←Q.out])
   go_region_held3 (fun w'=>PQ w' w.heap.size (w.heap.size+1+1+1+1) (.iface i y) (.slice am s.marks.length cm)) (repeat(first|(with_reducible exact HQ.out)|(with_reducible exact N.out)|(with_reducible refine PQ.same ?_ (by omega))|(with_reducible refine PQ.set ?_ (by omega) (by omega) _)|(with_reducible refine PQ.drew ?_))) (fail)
   all_goals
    obtain⟨w8,o⟩:∃w8,w8=((((w7.setCell ⟨w.heap.size,0,none⟩ (.iface i y)).setCell ⟨w.heap.size+1,0,none⟩ (.slice am s.marks.length cm)).setCell ⟨w.heap.size+1+1,0,none⟩ (.int .i64 0)).setCell ⟨w.heap.size+1+1+1,0,none⟩ (.int .i64 0)).drew:=⟨_,rfl⟩;rw[←o];have hR:=Zin H7.out (.iface i y) (.slice am s.marks.length cm) (.int .i64 0) (.int .i64 0);have h8:Four w8 w.heap.size (w.heap.size+1) (w.heap.size+1+1) (w.heap.size+1+1+1) (.iface i y) (.slice am s.marks.length cm) (.int .i64 0) (.int .i64 0):=by rw[o];exact hR.1.drew
    have f8:Fr (fun k=>k=w.heap.size∨k=w.heap.size+1∨k=w.heap.size+1+1∨k=w.heap.size+1+1+1) w6 w8:=by rw[o];exact((L.out.mono (fun _ _ x=>.inl x)).trans hR.2 (fun _ _ x=>x)).drew
    have J:RN (fun k=>k<w.heap.size) w8 t (.iface i y):=RN.keep f8 (fun k _ x=>.inr (by show k<_;omega)) (fun k _ x=>.inr (by show k<_;have x:k<w.heap.size:=x;omega)) _ _ R.out;have H:OwM w8 s.marks (.slice am s.marks.length cm):=ownsRow_fr u.out.ma f8 (fun k hk x=>by
     have h1:=u.out.nm k hk;have h2:=E.out;have h3:k=w.heap.size+1+1+1+1:=T6.out.old k (by omega) h1.2;omega)
    have G:Fr nob w w8:=F6.out.trans f8 (fun i hi x=>by omega);have k0:=cell_at (j:=0) (v:=.iface i y) h8.h0 rfl;have k1:=cell_at (j:=0) (v:=.slice am s.marks.length cm) h8.h1 rfl;have k2:=cell_at (j:=0) (v:=.int .i64 0) h8.h2 rfl;have k3:=cell_at (j:=0) (v:=.int .i64 0) h8.h3 rfl;have I:∀k,(Value.slice am s.marks.length cm).ownBlock=some k→w.heap.size≤k:=fun k hk=>by
     have h1:=u.out.nm k hk;have h2:=E.out;by_cases a2:k<w5.heap.size
     ·have h3:k=w.heap.size+1+1+1+1:=T6.out.old k a2 h1.2;omega
     ·omega
    have HA:=hid (show ZW (.inr (t,s)) w (.returned (.tuple #[.iface i y,.slice am s.marks.length cm,.int .i64 0,.int .i64 0])) w8 from⟨G,_,_,_,rfl,J,H,I⟩);clear hR h8 f8 J H I G o c0 d0 c7 S U V d7 W Y Z;go_wp2;refine leaves_cons (f:=32) (args:= #[.pointer (some ⟨w.heap.size,0,none⟩),.pointer (some ⟨w.heap.size+1,0,none⟩),.pointer (some ⟨w.heap.size+1+1,0,none⟩),.pointer (some ⟨w.heap.size+1+1+1,0,none⟩)]) (by simp) (by simp[go_sem]) ?_;refine(Zho _ _ _ _ _).mono ?_;rintro e u' w9 ⟨rfl,rfl,rfl⟩;simp[Leaves,settle,results,Tryz.results9,go_sem,k0,k1,k2,k3];exact HA.out
theorem Zyq(l:List UInt8)(w:World)(hl:l.length≤100000)(hE:Env w):
 Calls Tryz.prog 9 #[.string ⟨l.toArray⟩] w (Z8 (Zey prg l) w):=by
 refine(ZeE l w hl hE).mono fun e w' h=> ?_;unfold ZW at h;unfold Z8;cases hp:Zey prg l with
 |inl z=>rw[hp]at h;exact h
 |inr z=>
  rw[hp]at h;obtain⟨f,i,y,mv,he,hr,hm,_⟩:=h;exact⟨f,i,y,mv,he,hr.weak,hm⟩
theorem ZzS:∃s,Zey prg [97,42,92,40,98,92,41,92,49]=.inr (.cat [.rep (.one (spn 97 97)) 0 (-1),.group 1 (.one (spn 98 98)),.back 1],s)∧s.marks=[]:=⟨⟨9,1,[1],[]⟩,by kernel_rfl,rfl⟩
theorem ZzT:∃s,Zey prg [42,97]=.inr (.cat [.one (spn 42 42),.one (spn 97 97)],s)∧s.marks=[]:=⟨⟨2,0,[],[]⟩,by kernel_rfl,rfl⟩
theorem awake4_any(w:World)(hE:Env w):Calls Tryz.prog 8 #[] w fun e w'=>e=.returned (.bool true)∧Fr nob w w':=by
 obtain⟨s1,p1,m1⟩:=ZzS;obtain⟨s2,p2,m2⟩:=ZzT;have P1:=hid (Zyq [97,42,92,40,98,92,41,92,49] w (by decide) hE);rw[p1]at P1;have HE:=hid hE;have M1:=hid m1;have M2:=hid m2;have m:=hid p2;clear p1 p2 m1 m2 hE;go_enter Tryz.func8,Tryz.ntmps8;go_wp2_with fail;refine P1.out.mono ?_;rintro e w1 ⟨f1,i,y,mv,rfl,rn,ma⟩;obtain⟨u,hu,sn⟩:=ZjK.1 rn;obtain⟨a,c,hs⟩:=sn.shape;subst hs;injection hu with hi hy;subst hi;subst hy;rw[M1.out]at ma;obtain⟨am,cm,hm⟩:=Zb ma;subst hm;have n:=hid rn;have F1:=hid f1;clear rn f1 ma sn;have P2:=hid (fun(w':World) (f:Fr nob w1 w')=>Zyq [42,97] w' (by decide) ((HE.out.on F1.out).on f));rw[m.out]at P2;have g:=newAt0 w1 (.cells #[.slice a 3 c] 75);have l:=hid g;clear g;go_wp2_with fail;refine(P2.out _ ((Fr.refl nob w1).alloc _)).mono ?_;rintro e w2 ⟨f2,i2,y2,s,rfl,k,b⟩;rw[M2.out]at b;obtain⟨q,r,p⟩:=Zb b
 subst p;have d:=f2.heap l.out (fun x=>x);have k0:=cell_at (j:=0) (v:=.slice a 3 c) d rfl;have o:=hid k;have F2:=hid (((Fr.refl nob w1).alloc (.cells #[.slice a 3 c] 75)).trans' f2);have HB:=hid (fun(w':World) (h:RN nob w' (.cat [.rep (.one (spn 97 97)) 0 (-1),.group 1 (.one (spn 98 98)),.back 1]) (.iface 75 (.agg #[.slice a 3 c])))=>backs_any 3000000 _ _ w' (by simp[Nd.size,Nd.sizes]) (by simp[Nd.size,Nd.sizes]) h);rw[show Nd.backs (.cat [.rep (.one (spn 97 97)) 0 (-1),.group 1 (.one (spn 98 98)),.back 1])=true from rfl]at HB;have HZ:=hid (fun(w':World) (h:RN nob w' (.cat [.one (spn 42 42),.one (spn 97 97)]) (.iface i2 y2))=>ZzP 3000000 _ _ w' (by simp[Nd.size,Nd.sizes]) (by simp[Nd.size,Nd.sizes]) h);rw[show Nd.size (.cat [.one (spn 42 42),.one (spn 97 97)])=3 from rfl]at HZ;clear d k f2 b;go_wp2_with fail;refine(HB.out _ (n.out.on F2.out)).mono ?_;rintro e w3 ⟨rfl,f3⟩
 have F3:=hid f3;clear f3;go_wp2_with fail;refine(HZ.out _ (o.out.on F3.out)).mono ?_;rintro e w4 ⟨rfl,f4⟩;have F4:=hid f4;clear f4;go_wp2;go_ret;exact⟨rfl,((F1.out.trans' F2.out).trans' F3.out).trans' F4.out⟩
def ZA0(l:List UInt8):List Nd:=l.map fun b=>.one (spn b.toNat b.toNat)
def rV(l:List UInt8)(ere:Bool)(s:RxS)(ca:Option Addr)(cc:Nat)(ma:Option Addr)(mc:Nat)(e p:Int):Value:=
 .agg #[.string ⟨l.toArray⟩,.bool ere,.int .i64 s.at_,.int .i64 s.opened,.slice ca s.closed.length cc,.slice ma s.marks.length mc,.int .i64 e,.int .i64 p]
abbrev rC(l:List UInt8)(ere:Bool)(s:RxS)(ca:Option Addr)(cc:Nat)(ma:Option Addr)(mc:Nat)(e p:Int):Array Value:=
 #[.string ⟨l.toArray⟩,.bool ere,.int .i64 s.at_,.int .i64 s.opened,.slice ca s.closed.length cc,.slice ma s.marks.length mc,.int .i64 e,.int .i64 p]
section
variable (l:List UInt8) (ere:Bool) (s:RxS) (ca:Option Addr) (cc:Nat) (ma:Option Addr) (mc:Nat) (e p:Int)
theorem Zyf(k:Nat)(w:World)(hl:l.length≤100000)(hk:k≤200000):
 Calls Tryz.prog 91 #[rV l ere s ca cc ma mc e p,.int .i64 k] w fun x w'=>x=.returned (.string ⟨(sgn l k).toArray⟩)∧Fr nob w w':=by
 unfold rV;by_cases h:k<l.length
 ·have h1:¬(l.length:Int)≤k:=by omega
  have f:(k:Int)<l.length:=by omega
  obtain⟨x,hx⟩:∃x,l[k]=x:=⟨_,rfl⟩;by_cases a:x=92
  ·have t1:((x.toNat:Int)==92)=true:=Zcy (b:=92) a;by_cases h2:k+1<l.length
   ·have d:(k:Int)+1<l.length:=by omega
    have c:=Zaf (P:=Tryz.prog) l (lo:=(k:Int)) (hi:=(k:Int)+2) Tryz.underlying9 (by omega) (by omega) (by omega);have he:List.take (((k:Int)+2).toNat-(k:Int).toNat) (List.drop (k:Int).toNat l)=sgn l k:=by
     rw[Zzy h2 (by rw[hx,a]),show(k:Int).toNat=k from by omega,show((k:Int)+2).toNat-k=2 from by omega,List.drop_eq_getElem_cons h,List.drop_eq_getElem_cons h2,hx,a];rfl
    rw[he]at c;clear he a;go_enter Tryz.func91,Tryz.ntmps91;go_wp2;go_ret;exact⟨rfl,(Fr.refl _ _).alloc _⟩
   ·have d:¬(k:Int)+1<l.length:=by omega
    have c:=ZbH (P:=Tryz.prog) l (lo:=(k:Int)) (hi:=(k:Int)+1) Tryz.underlying9 h rfl rfl;have he:=Zy3 h (by omega);rw[←he]at c;clear he a;go_enter Tryz.func91,Tryz.ntmps91;go_wp2;go_ret;exact⟨rfl,(Fr.refl _ _).alloc _⟩
  ·have t1:((x.toNat:Int)==92)=false:=Zn (b:=92) a;have c:=ZbH (P:=Tryz.prog) l (lo:=(k:Int)) (hi:=(k:Int)+1) Tryz.underlying9 h rfl rfl;have he:=Zzz h (by rw[hx];exact a);rw[←he]at c;clear he a;go_enter Tryz.func91,Tryz.ntmps91;go_wp2;go_ret;exact⟨rfl,(Fr.refl _ _).alloc _⟩
 ·have h1:(l.length:Int)≤k:=by omega
  rw[Zkf (by omega)];go_enter Tryz.func91,Tryz.ntmps91;go_wp2;go_ret;exact⟨rfl,(Fr.refl _ _).alloc _⟩
theorem Zzq(b:UInt8)(w:World):
 Calls Tryz.prog 92 #[rV l ere s ca cc ma mc e p,.string ⟨[b].toArray⟩] w fun x w'=>x=.returned (.string ⟨(opB ere b).toArray⟩)∧Fr nob w w':=by
 unfold rV;cases ere
 all_goals
  go_enter Tryz.func92,Tryz.ntmps92;go_wp2;go_ret;exact⟨rfl,(Fr.refl _ _).alloc _⟩
theorem ZyN{fn:Func}{t:Tmp}(h:fn.results= #[.cell t 123]){tmps:Array Value}{r:Nat}(ht:tmps.getD t undef=.pointer (some ⟨r,0,none⟩)){W:World}
 (hb:W.heap[r]? =some (.cells (rC l ere s ca cc ma mc e p) 123 (0,0))):(results fn tmps).run Tryz.prog W=.ok (rV l ere s ca cc ma mc e p) W:=by
 have c0:=cell_at (j:=0) (v:=.string ⟨l.toArray⟩) hb rfl;have c1:=cell_at (j:=1) (v:=.bool ere) hb rfl;have c2:=cell_at (j:=2) (v:=.int .i64 s.at_) hb rfl;have c3:=cell_at (j:=3) (v:=.int .i64 s.opened) hb rfl;have c4:=cell_at (j:=4) (v:=.slice ca s.closed.length cc) hb rfl;have c5:=cell_at (j:=5) (v:=.slice ma s.marks.length mc) hb rfl;have c6:=cell_at (j:=6) (v:=.int .i64 e) hb rfl;have c7:=cell_at (j:=7) (v:=.int .i64 p) hb rfl;have a:tmps[t]?.getD undef=.pointer (some ⟨r,0,none⟩):=by rw[←ht];simp
 simp only[results,h];simp[a,go_sem,c0,c1,c2,c3,c4,c5,c6,c7,rV]
theorem ZAG(z q:Int)(w:World):
 Calls Tryz.prog 119 #[rV l ere s ca cc ma mc 0 0,.int .i64 z,.int .i64 q] w fun x w'=>x=.returned (rV l ere s ca cc ma mc z q)∧Fr nob w w':=by
 unfold rV;go_enter Tryz.func119,Tryz.ntmps119;go_wp2;exact bodyPost_ret (ZyN l ere s ca cc ma mc z q rfl rfl (heap_alloc_new' _ _ _ (by simp))) rfl ⟨rfl,((Fr.refl _ _).alloc _).alloc _⟩
theorem ZzU(k:Nat)(w:World)(hl:l.length≤100000)(hk:k≤200000):
 Calls Tryz.prog 171 #[.string ⟨l.toArray⟩,.int .i64 k] w fun x w'=>x=.returned (.tuple #[.int .i64 (Zp9 l k).1,.int .i64 (Zp9 l k).2])∧w=w':=by
 unfold Zp9;obtain⟨F,hF⟩:∃F,ZaQ (l.drop k) 0 0=F:=⟨_,rfl⟩;rw[hF];obtain⟨D,hD⟩:∃D,(if 255<F.1 then((0,0):Nat×Nat)else F)=D:=⟨_,rfl⟩;rw[hD];have HF:=hid hF;have HD:=hid hD;clear hF hD;go_enter Tryz.func171,Tryz.ntmps171;go_wp2_with fail
 go_loopw [6,7] (fun v6 v7 wr=>∃n c:Nat,v6=.int .i64 n∧v7=.int .i64 c∧c≤3∧n<p10 c∧ZaQ (l.drop (k+c)) c n=F∧w=wr) (fun _ c _=>4-(intOf c).toNat)
 case atStart=>exact⟨0,0,rfl,rfl,by omega,by decide,HF.out,rfl⟩
 case round=>
  obtain⟨n,c,rfl,rfl,hc,hn,hb,rfl⟩:=hrel;have hp:=Zkr hc;have i:F=(n,c)→∀(b:Bool),decide ((255:Int)<(n:Int))=b→(if 255<F.1 then((0,0):Nat×Nat)else F)=(if b then(0,0)else(n,c)):=fun e b hb=>by
   subst e;cases b with
   |true=>rw[if_pos (by have:=of_decide_eq_true hb;omega)];rfl
   |false=>rw[if_neg (by have:=of_decide_eq_false hb;omega)];rfl
  have a:=hid i;have d:=hid HF;clear i HF;obtain⟨bb,f⟩:∃bb,decide ((255:Int)<(n:Int))=bb:=⟨_,rfl⟩;by_cases g:k+c<l.length
  ·have q:(k:Int)+c<l.length:=by omega
   obtain⟨x,hx⟩:∃x,l[k+c]=x:=⟨_,rfl⟩;by_cases h3:c<3
   ·have s:(c:Int)<3:=by omega
    by_cases j:48≤x.toNat
    ·have m:(48:Int)≤x.toNat:=by omega
     by_cases o:x.toNat≤57
     ·have p:(x.toNat:Int)≤57:=by omega
      rw[ZfY g (by rw[hx];exact⟨j,o,by omega⟩),hx]at hb;have r:=Zih c;have u:IntKind.u8.wrap ((x.toNat:Int)-48)=x.toNat-48:=IntWalk.u8_in _ (by omega);have HX:=hid hb;have HP:=hid r;have t:(n:Int)<1000:=by omega
      clear hb r a d;go_wp2;go_roundw
      case rel=>exact⟨n*10+(x.toNat-48),c+1,by go_num,by go_num,by omega,by rw[HP.out];omega,by have:=HX.out;rwa[show k+(c+1)=k+c+1 from by omega],by first|rfl|trivial⟩
      case measure=>simp[intOf];omega
     ·have p:¬(x.toNat:Int)≤57:=by omega
      rw[Zd5 g (by rw[hx];exact fun h=>o h.2.1)]at hb;obtain rfl:D=_:=HD.out.symm.trans (a.out hb.symm bb f);cases bb
      all_goals
       clear a d hb HD;go_wp2;go_ret2;exact⟨rfl,rfl⟩
    ·have m:¬(48:Int)≤x.toNat:=by omega
     rw[Zd5 g (by rw[hx];exact fun h=>j h.1)]at hb;obtain rfl:D=_:=HD.out.symm.trans (a.out hb.symm bb f);cases bb
     all_goals
      clear a d hb HD;go_wp2;go_ret2;exact⟨rfl,rfl⟩
   ·have s:¬(c:Int)<3:=by omega
    rw[Zd5 g (fun h=>h.2.2 (by omega))]at hb;obtain rfl:D=_:=HD.out.symm.trans (a.out hb.symm bb f);cases bb
    all_goals
     clear a d hb HD;go_wp2;go_ret2;exact⟨rfl,rfl⟩
  ·have q:¬(k:Int)+c<l.length:=by omega
   rw[Zff (by omega)]at hb;obtain rfl:D=_:=HD.out.symm.trans (a.out hb.symm bb f);cases bb
   all_goals
    clear a d hb HD;go_wp2;go_ret2;exact⟨rfl,rfl⟩
end
def ZAv:Option (Int×Int×Nat)→Value
 |none=>.tuple #[.int .i64 0,.int .i64 0,.int .i64 0,.bool false]
 |some (m,n,j)=>.tuple #[.int .i64 m,.int .i64 n,.int .i64 (j:Nat),.bool true]
theorem ZzF(ere:Bool)(b:UInt8):1≤(opB ere b).length∧(opB ere b).length≤2:=by cases ere<;>simp[opB]
theorem ZyC{l t:List UInt8}{k:Nat}(h:k+t.length≤l.length):ahd l k t=decide ((l.drop k).take t.length=t):=by
 unfold ahd;rw[←ZdX (by rw[List.length_drop];omega)];by_cases e:(l.drop k).take t.length=t
 ·rw[e];simp
 ·rw[decide_eq_false e];simpa using e
theorem ZyD{l t:List UInt8}{k:Nat}(h:l.length<k+t.length)(ht:1≤t.length):ahd l k t=false:=by
 cases ha:ahd l k t with
 |false=>rfl
 |true=>have:=ahd_le ha ht;omega
theorem ZzG{l:List UInt8}{ere:Bool}{k m:Nat}(h:Zp9 l k=(m,0)):ZlJ l ere k=none:=by unfold ZlJ;rw[h];rfl
theorem ZzV{l:List UInt8}{ere:Bool}{k m c:Nat}(h:Zp9 l k=(m,c))(hc:c≠0)(ha:ahd l (k+c) [44]=false):
 ZlJ l ere k=if ahd l (k+c) (opB ere 125)=false∨(0≤(m:Int)∧(m:Int)<m)then none else some ((m:Int),(m:Int),k+c+(opB ere 125).length):=by
 unfold ZlJ;rw[h];simp only[hc,if_false,ha,Bool.false_eq_true]
theorem ZzH{l:List UInt8}{ere:Bool}{k m c x:Nat}(h:Zp9 l k=(m,c))(hc:c≠0)(ha:ahd l (k+c) [44]=true)(h2:Zp9 l (k+c+1)=(x,0)):
 ZlJ l ere k=if ahd l (k+c+1) (opB ere 125)=false∨(0≤(-1:Int)∧(-1:Int)<m)then none else some ((m:Int), -1,k+c+1+(opB ere 125).length):=by
 unfold ZlJ;rw[h];simp only[hc,if_false,ha,if_true,h2,Nat.lt_irrefl,Nat.add_zero]
theorem ZzW{l:List UInt8}{ere:Bool}{k m c x d:Nat}(h:Zp9 l k=(m,c))(hc:c≠0)(ha:ahd l (k+c) [44]=true)(h2:Zp9 l (k+c+1)=(x,d))(hd:0<d):
 ZlJ l ere k=if ahd l (k+c+1+d) (opB ere 125)=false∨(0≤(x:Int)∧(x:Int)<m)then none else some ((m:Int),(x:Int),k+c+1+d+(opB ere 125).length):=by
 unfold ZlJ;rw[h];simp only[hc,if_false,ha,if_true,h2,hd]
theorem ZzI(l:List UInt8)(k:Nat)(h:k≤l.length):(Zp9 l k).1≤255∧(Zp9 l k).2≤3∧k+(Zp9 l k).2≤l.length:=by
 have hb:=Zdh l k h;unfold Zp9;split
 ·exact⟨by omega,by omega,h⟩
 ·exact⟨by omega,hb.1,hb.2.2⟩
theorem Zzl(l:List UInt8)(ere:Bool)(s:RxS)(ca:Option Addr)(cc:Nat)(ma:Option Addr)(mc:Nat)(e p:Int)(k:Nat)(w:World)(hl:l.length≤100000)(hk:k≤l.length):
 Calls Tryz.prog 148 #[rV l ere s ca cc ma mc e p,.int .i64 k] w fun x w'=>x=.returned (ZAv (ZlJ l ere k))∧Fr nob w w':=by
 obtain⟨D,hD⟩:∃D,ZlJ l ere k=D:=⟨_,rfl⟩;rw[hD];have HN:=hid (fun(j:Nat) (w':World) (hj:j≤200000)=>ZzU l j w' hl hj);have a:=hid (fun(w':World)=>Zzq l ere s ca cc ma mc e p 125 w');obtain⟨u,B⟩:=ZzF ere 125;have G:∀(j:Nat),ZlJ l ere k=D→D=D:=fun _ _=>rfl;clear G;obtain⟨C,hC⟩:∃C,opB ere 125=C:=⟨_,rfl⟩;obtain⟨m,c,hM⟩:∃m c,Zp9 l k=(m,c):=⟨_,_,rfl⟩;obtain⟨b1,b2,b3⟩:=ZzI l k hk;rw[hM]at b1 b2 b3;simp only at b1 b2 b3;have hN:=HN.out k (w.alloc (.cells (rC l ere s ca cc ma mc e p) 123)) (by omega);rw[hM]at hN;simp only at hN;have g:=hid hN;clear hN;rw[hC]at a u B;unfold rV at a⊢;by_cases h0:c=0
 ·subst h0;rw[ZzG hM]at hD;subst hD;clear hM hC HN a;go_enter Tryz.func148,Tryz.ntmps148;go_wp2_with fail;refine g.out.mono ?_;rintro e w1 ⟨rfl,rfl⟩;go_wp2;(try simp only[Exit.inBlock,Exit.then]);exact bodyPost_ret (results_tmp4 rfl _ _ _) rfl ⟨rfl,(Fr.refl _ _).alloc _⟩
 ·have I:((c:Int)==0)=false:=by simp only[beq_eq_false_iff_ne,ne_eq];omega
  have J:¬(c:Int)=0:=by omega
  cases ha:ahd l (k+c) [44]with
  |false=>
   rw[ZzV hM h0 ha,hC]at hD;have v:l.length≤k+c∨∃h:k+c<l.length,l[k+c]≠44:=by
    by_cases h:k+c<l.length
    ·refine .inr ⟨h,fun e=> ?_⟩;unfold ahd at ha;rw[List.drop_eq_getElem_cons h,e]at ha;simp[List.isPrefixOf]at ha
    ·exact .inl (by omega)
   clear ha hM;rcases v with v|⟨v,y⟩
   ·have q1:¬(k:Int)+c<l.length:=by omega
    have i:l.length<k+c+C.length:=by omega
    have he:ahd l (k+c) C=false:=ZyD i u;rw[if_pos (.inl he)]at hD;subst hD;have q2:(l.length:Int)<(k:Int)+c+C.length:=by omega
    clear HN he;have RR:=hid (rule8 (newAt0 w (.cells (rC l ere s ca cc ma mc e p) 123)));go_enter Tryz.func148,Tryz.ntmps148;go_wp2_with fail;refine g.out.mono ?_;rintro e w1 ⟨rfl,rfl⟩;go_wp2_with fail;refine(a.out _).mono ?_;rintro e w2 ⟨rfl,f2⟩;have rr:=RR.out w2 f2;have F2:=hid (((Fr.refl nob w).alloc _).trans' f2);clear f2;go_wp2;(try simp only[Exit.inBlock,Exit.then]);exact bodyPost_ret (results_tmp4 rfl _ _ _) rfl ⟨rfl,F2.out⟩
   ·have q1:(k:Int)+c<l.length:=by omega
    obtain⟨x0,H⟩:∃x0,l[k+c]=x0:=⟨_,rfl⟩;rw[H]at y;have t1:((x0.toNat:Int)==44)=false:=Zn (b:=44) y;clear y;by_cases i:l.length<k+c+C.length
    ·have he:ahd l (k+c) C=false:=ZyD i u;rw[if_pos (.inl he)]at hD;subst hD;have q2:(l.length:Int)<(k:Int)+c+C.length:=by omega
     clear HN he;have RR:=hid (rule8 (newAt0 w (.cells (rC l ere s ca cc ma mc e p) 123)));go_enter Tryz.func148,Tryz.ntmps148;go_wp2_with fail;refine g.out.mono ?_;rintro e w1 ⟨rfl,rfl⟩;go_wp2_with fail;refine(a.out _).mono ?_;rintro e w2 ⟨rfl,f2⟩;have rr:=RR.out w2 f2;have F2:=hid (((Fr.refl nob w).alloc _).trans' f2);clear f2;go_wp2;(try simp only[Exit.inBlock,Exit.then]);exact bodyPost_ret (results_tmp4 rfl _ _ _) rfl ⟨rfl,F2.out⟩
    ·have q2:¬(l.length:Int)<(k:Int)+c+C.length:=by omega
     have q:=Zaf (P:=Tryz.prog) l (lo:=(k:Int)+c) (hi:=(k:Int)+c+C.length) Tryz.underlying9 (by omega) (by omega) (by omega);have n:((k:Int)+c+C.length).toNat-((k:Int)+c).toNat=C.length:=by omega
     have o:((k:Int)+c).toNat=k+c:=by omega
     rw[n,o]at q;rw[ZyC (by omega)]at hD;obtain⟨X,hX⟩:∃X,(l.drop (k+c)).take C.length=X:=⟨_,rfl⟩;rw[hX]at q hD;by_cases f:X=C
     ·subst f;simp only[decide_true,Bool.true_eq_false,false_or]at hD;clear hX n o HN;rw[if_neg (by omega)]at hD;subst hD;have RR:=hid (rule8 (newAt0 w (.cells (rC l ere s ca cc ma mc e p) 123)));go_enter Tryz.func148,Tryz.ntmps148;go_wp2_with fail;refine g.out.mono ?_;rintro e w1 ⟨rfl,rfl⟩;go_wp2_with fail;refine(a.out _).mono ?_;rintro e w2 ⟨rfl,f2⟩;have rr:=RR.out w2 f2;have F2:=hid (((Fr.refl nob w).alloc _).trans' f2);clear f2;go_wp2;(try simp only[Exit.inBlock,Exit.then]);exact bodyPost_ret (results_tmp4 rfl _ _ _) rfl ⟨by unfold ZAv;simp only[Int.natCast_add];rfl,F2.out⟩
     ·rw[decide_eq_false f,if_pos (.inl rfl)]at hD;subst hD;have z:(X==C)=false:=beq_eq_false_iff_ne.2 f;clear hX n o HN f;have RR:=hid (rule8 (newAt0 w (.cells (rC l ere s ca cc ma mc e p) 123)));go_enter Tryz.func148,Tryz.ntmps148;go_wp2_with fail;refine g.out.mono ?_;rintro e w1 ⟨rfl,rfl⟩;go_wp2_with fail;refine(a.out _).mono ?_;rintro e w2 ⟨rfl,f2⟩;have rr:=RR.out w2 f2;have F2:=hid (((Fr.refl nob w).alloc _).trans' f2);clear f2;go_wp2;(try simp only[Exit.inBlock,Exit.then]);exact bodyPost_ret (results_tmp4 rfl _ _ _) rfl ⟨rfl,F2.out⟩
  |true=>
   have A:=ahd_le ha (by decide);simp only[List.length_singleton]at A;have v:k+c<l.length:=by omega
   have q1:(k:Int)+c<l.length:=by omega
   have K:l[k+c]=44:=by
    unfold ahd at ha;rw[List.drop_eq_getElem_cons v]at ha;simp[List.isPrefixOf]at ha;exact ha.symm
   obtain⟨x,d,t⟩:∃x d,Zp9 l (k+c+1)=(x,d):=⟨_,_,rfl⟩;obtain⟨g1,g2,g3⟩:=ZzI l (k+c+1) A;rw[t]at g1 g2 g3;simp only at g1 g2 g3;have hN:=HN.out (k+c+1) (w.alloc (.cells (rC l ere s ca cc ma mc e p) 123)) (by omega);rw[t,show((k+c+1:Nat):Int)=(k:Int)+c+1 from by omega]at hN;simp only at hN;have r:=hid hN;clear hN;by_cases E:d=0
   ·subst E;rw[ZzH hM h0 ha t,hC]at hD;clear ha hM t hC;by_cases i:l.length<k+c+1+C.length
    ·have he:ahd l (k+c+1) C=false:=ZyD i u;rw[if_pos (.inl he)]at hD;subst hD;have q2:(l.length:Int)<(k:Int)+c+1+C.length:=by omega
     clear HN he;have RR:=hid (rule8 (newAt0 w (.cells (rC l ere s ca cc ma mc e p) 123)));go_enter Tryz.func148,Tryz.ntmps148;go_wp2_with fail;refine g.out.mono ?_;rintro e w1 ⟨rfl,rfl⟩;go_wp2_with fail;refine r.out.mono ?_;rintro e w1 ⟨rfl,rfl⟩;go_wp2_with fail;refine(a.out _).mono ?_;rintro e w2 ⟨rfl,f2⟩;have rr:=RR.out w2 f2;have F2:=hid (((Fr.refl nob w).alloc _).trans' f2);clear f2;go_wp2;(try simp only[Exit.inBlock,Exit.then]);exact bodyPost_ret (results_tmp4 rfl _ _ _) rfl ⟨rfl,F2.out⟩
    ·have q2:¬(l.length:Int)<(k:Int)+c+1+C.length:=by omega
     have q:=Zaf (P:=Tryz.prog) l (lo:=(k:Int)+c+1) (hi:=(k:Int)+c+1+C.length) Tryz.underlying9 (by omega) (by omega) (by omega);have n:((k:Int)+c+1+C.length).toNat-((k:Int)+c+1).toNat=C.length:=by omega
     have o:((k:Int)+c+1).toNat=k+c+1:=by omega
     rw[n,o]at q;rw[ZyC (by omega)]at hD;obtain⟨X,hX⟩:∃X,(l.drop (k+c+1)).take C.length=X:=⟨_,rfl⟩;rw[hX]at q hD;by_cases f:X=C
     ·subst f;simp only[decide_true,Bool.true_eq_false,false_or]at hD;clear hX n o HN;rw[if_neg (by omega)]at hD;subst hD;have RR:=hid (rule8 (newAt0 w (.cells (rC l ere s ca cc ma mc e p) 123)));go_enter Tryz.func148,Tryz.ntmps148;go_wp2_with fail;refine g.out.mono ?_;rintro e w1 ⟨rfl,rfl⟩;go_wp2_with fail;refine r.out.mono ?_;rintro e w1 ⟨rfl,rfl⟩;go_wp2_with fail;refine(a.out _).mono ?_;rintro e w2 ⟨rfl,f2⟩;have rr:=RR.out w2 f2;have F2:=hid (((Fr.refl nob w).alloc _).trans' f2);clear f2;go_wp2;(try simp only[Exit.inBlock,Exit.then]);exact bodyPost_ret (results_tmp4 rfl _ _ _) rfl ⟨by unfold ZAv;simp only[Int.natCast_add];rfl,F2.out⟩
     ·rw[decide_eq_false f,if_pos (.inl rfl)]at hD;subst hD;have z:(X==C)=false:=beq_eq_false_iff_ne.2 f;clear hX n o HN f;have RR:=hid (rule8 (newAt0 w (.cells (rC l ere s ca cc ma mc e p) 123)));go_enter Tryz.func148,Tryz.ntmps148;go_wp2_with fail;refine g.out.mono ?_;rintro e w1 ⟨rfl,rfl⟩;go_wp2_with fail;refine r.out.mono ?_;rintro e w1 ⟨rfl,rfl⟩;go_wp2_with fail;refine(a.out _).mono ?_;rintro e w2 ⟨rfl,f2⟩;have rr:=RR.out w2 f2;have F2:=hid (((Fr.refl nob w).alloc _).trans' f2);clear f2;go_wp2;(try simp only[Exit.inBlock,Exit.then]);exact bodyPost_ret (results_tmp4 rfl _ _ _) rfl ⟨rfl,F2.out⟩
   ·have F:0<d:=by omega
    have L:(0:Int)<d:=by omega
    rw[ZzW hM h0 ha t F,hC]at hD;clear ha hM t hC;by_cases i:l.length<k+c+1+d+C.length
    ·have he:ahd l (k+c+1+d) C=false:=ZyD i u;rw[if_pos (.inl he)]at hD;subst hD;have q2:(l.length:Int)<(k:Int)+c+1+d+C.length:=by omega
     clear HN he;have RR:=hid (rule8 (newAt0 w (.cells (rC l ere s ca cc ma mc e p) 123)));go_enter Tryz.func148,Tryz.ntmps148;go_wp2_with fail;refine g.out.mono ?_;rintro e w1 ⟨rfl,rfl⟩;go_wp2_with fail;refine r.out.mono ?_;rintro e w1 ⟨rfl,rfl⟩;go_wp2_with fail;refine(a.out _).mono ?_;rintro e w2 ⟨rfl,f2⟩;have rr:=RR.out w2 f2;have F2:=hid (((Fr.refl nob w).alloc _).trans' f2);clear f2;go_wp2;(try simp only[Exit.inBlock,Exit.then]);exact bodyPost_ret (results_tmp4 rfl _ _ _) rfl ⟨rfl,F2.out⟩
    ·have q2:¬(l.length:Int)<(k:Int)+c+1+d+C.length:=by omega
     have q:=Zaf (P:=Tryz.prog) l (lo:=(k:Int)+c+1+d) (hi:=(k:Int)+c+1+d+C.length) Tryz.underlying9 (by omega) (by omega) (by omega);have n:((k:Int)+c+1+d+C.length).toNat-((k:Int)+c+1+d).toNat=C.length:=by omega
     have o:((k:Int)+c+1+d).toNat=k+c+1+d:=by omega
     rw[n,o]at q;rw[ZyC (by omega)]at hD;obtain⟨X,hX⟩:∃X,(l.drop (k+c+1+d)).take C.length=X:=⟨_,rfl⟩;rw[hX]at q hD;by_cases f:X=C
     ·subst f;simp only[decide_true,Bool.true_eq_false,false_or]at hD;clear hX n o HN;by_cases M:x<m
      ·rw[if_pos (by omega)]at hD;subst hD;have q3:(x:Int)<m:=by omega
       have RR:=hid (rule8 (newAt0 w (.cells (rC l ere s ca cc ma mc e p) 123)));go_enter Tryz.func148,Tryz.ntmps148;go_wp2_with fail;refine g.out.mono ?_;rintro e w1 ⟨rfl,rfl⟩;go_wp2_with fail;refine r.out.mono ?_;rintro e w1 ⟨rfl,rfl⟩;go_wp2_with fail;refine(a.out _).mono ?_;rintro e w2 ⟨rfl,f2⟩;have rr:=RR.out w2 f2;have F2:=hid (((Fr.refl nob w).alloc _).trans' f2);clear f2;go_wp2;(try simp only[Exit.inBlock,Exit.then]);exact bodyPost_ret (results_tmp4 rfl _ _ _) rfl ⟨rfl,F2.out⟩
      ·rw[if_neg (by omega)]at hD;subst hD;have q3:¬(x:Int)<m:=by omega
       have RR:=hid (rule8 (newAt0 w (.cells (rC l ere s ca cc ma mc e p) 123)));go_enter Tryz.func148,Tryz.ntmps148;go_wp2_with fail;refine g.out.mono ?_;rintro e w1 ⟨rfl,rfl⟩;go_wp2_with fail;refine r.out.mono ?_;rintro e w1 ⟨rfl,rfl⟩;go_wp2_with fail;refine(a.out _).mono ?_;rintro e w2 ⟨rfl,f2⟩;have rr:=RR.out w2 f2;have F2:=hid (((Fr.refl nob w).alloc _).trans' f2);clear f2;go_wp2;(try simp only[Exit.inBlock,Exit.then]);exact bodyPost_ret (results_tmp4 rfl _ _ _) rfl ⟨by unfold ZAv;simp only[Int.natCast_add];rfl,F2.out⟩
     ·rw[decide_eq_false f,if_pos (.inl rfl)]at hD;subst hD;have z:(X==C)=false:=beq_eq_false_iff_ne.2 f;clear hX n o HN f;have RR:=hid (rule8 (newAt0 w (.cells (rC l ere s ca cc ma mc e p) 123)));go_enter Tryz.func148,Tryz.ntmps148;go_wp2_with fail;refine g.out.mono ?_;rintro e w1 ⟨rfl,rfl⟩;go_wp2_with fail;refine r.out.mono ?_;rintro e w1 ⟨rfl,rfl⟩;go_wp2_with fail;refine(a.out _).mono ?_;rintro e w2 ⟨rfl,f2⟩;have rr:=RR.out w2 f2;have F2:=hid (((Fr.refl nob w).alloc _).trans' f2);clear f2;go_wp2;(try simp only[Exit.inBlock,Exit.then]);exact bodyPost_ret (results_tmp4 rfl _ _ _) rfl ⟨rfl,F2.out⟩
def MS(w:World)(l:List (Nat×List UInt8))(u:Value):Prop:=(u=.slice none 0 0∧l=[])∨∃g off cap,u=.slice (some ⟨g,off,none⟩) l.length cap∧∀j v,(mkC l)[j]? =some v→w.cell? ⟨g,off+j,none⟩=some v
theorem MS.on{w w':World}{l:List (Nat×List UInt8)}{u:Value}(h:MS w l u)(f:Fr nob w w'):MS w' l u:=by
 rcases h with h|⟨g,off,a,rfl,h⟩
 ·exact .inl h
 ·exact .inr ⟨g,off,a,rfl,fun j v hj=>f.cell (h j v hj) (fun x=>x)⟩
theorem MS.nil(w:World):MS w [] (.slice none 0 0):=.inl ⟨rfl,rfl⟩
theorem MS.shape{w:World}{l:List (Nat×List UInt8)}{u:Value}(h:MS w l u):∃a c,u=.slice a l.length c:=by
 rcases h with⟨rfl,rfl⟩|⟨g,off,b,rfl,_⟩
 ·exact⟨_,_,rfl⟩
 ·exact⟨_,_,rfl⟩
theorem ZyW(l:List (Nat×List UInt8)):(mkC l).length=l.length*2:=by
 induction l with
 |nil=>rfl
 |cons m r ih=>rw[show mkC (m::r)=[.int .i64 (m.1:Nat),.string ⟨m.2.toArray⟩]++mkC r from by simp[mkC],List.length_append,ih];simp;omega
theorem mkC_add(l m:List (Nat×List UInt8)):mkC (l++m)=mkC l++mkC m:=by simp[mkC]
theorem ZzX(l:List (Nat×List UInt8)):∀u∈mkC l,u.oneCell'=true:=by
 intro u hu;unfold mkC at hu;obtain⟨m,_,hu⟩:=List.mem_flatMap.1 hu;simp only[List.mem_cons,List.not_mem_nil,or_false]at hu;rcases hu with rfl|rfl<;>rfl
theorem info_Md:(Tryz.prog.info? 96).map (fun i=>(i.zero,i.size,i.bytes))=some (some (.agg #[.int .i64 0,.string ByteArray.empty]),2,24):=by kernel_rfl
theorem Zyg{ops:Array Oper}{o:Oper}{a:Act}{w:World}{K:Act→World→Prop}{Q:Exit→Act→World→Prop}{E:Prop}
 (hg:o.guard=none) (s x:Operand) (hop:o.op=Op.call {callee:=Callee.builtin Builtin.append,args:= #[s,x],argTypes:= #[37,37]})
 (l m:List (Nat×List UInt8)) (v ux:Value) (hs:a.eval s=v) (hown:w.ownsRow 0 96 2 v l.length (mkC l)) (hx:a.eval x=ux) (hm:MS w m ux) (hb:l.length+m.length≤3000000)
 (hK:∀v' w',w'.ownsRow 0 96 2 v' (l++m).length (mkC (l++m))→Fr (fun k=>v.ownBlock=some k) w w'→(∀k,v'.ownBlock=some k→v.ownBlock=some k∨w.heap.size≤k)→K (a.put o.dst v') w'):
 if Region.wanted o (yielded ops a.tmps)=true then Oper.wp Tryz.prog o a w K Q else E:=by
 obtain⟨i0,hi,e,f,g⟩:=info_parts info_Md;rcases hm with⟨rfl,rfl⟩|⟨q,off,d,rfl,hc⟩
 ·have hw:Region.wanted o (yielded ops a.tmps)=true:=by simp[Region.wanted,hg]
  rw[if_pos hw];have hr:=run_append_owned_none (P:=Tryz.prog) (w:=w) 0 37 o.type 96 i0 2 Tryz.underlying37 hi v l.length _ hown;unfold Oper.wp execOp;simp only[hop,resolve,invoke,builtin,Sem.run_bind,Sem.run_pure,Result.andThen_ok,List.map_toArray,List.map_cons,List.map_nil,hs,hx,hr];exact hK _ _ (by simpa using hown) (Fr.refl _ _) (fun k hk=>.inl hk)
 ·refine step_append_g hg s x _ hop 96 i0 (.agg #[.int .i64 0,.string ByteArray.empty]) 2 24 Tryz.underlying37 hi e f g rfl (by decide) v l.length _ hs hown ⟨q,off,none⟩ m.length d (mkC m) hx (ZyW m) ?_ (ZzX m) (by unfold maxLen;omega) (by omega) ?_
  ·intro j u hj;have:=hc j u hj;by_cases h0:j=0<;>simpa[Addr.add,h0]using this
  ·intro v' w' b c;exact hK v' w' (by rw[mkC_add,List.length_append];exact b) c.fr c.old
theorem Zyw{w:World}{b:Nat}{e:TypeId}(h:w.heap[b]? =some (.cells #[] e (0,0))):w.ownsRow 0 e 2 (.slice (some ⟨b,0,none⟩) 0 0) ([]:List (Nat×List UInt8)).length (mkC []):=by
 refine⟨by simp[mkC],.inr ⟨b,0,#[],rfl,Nat.zero_le _,h,by simp,by simp[maxLen],by simp,by simp[mkC]⟩⟩
theorem MS.of_own{w:World}{l:List (Nat×List UInt8)}{u:Value}(h:w.ownsRow 0 96 2 u l.length (mkC l)):MS w l u:=by
 obtain⟨_,h⟩:=h;rcases h with⟨rfl,h0⟩|⟨r,b,c,rfl,_,hr,hn,_,_,a⟩
 ·exact .inl ⟨rfl,List.length_eq_zero_iff.1 h0⟩
 ·refine .inr ⟨r,0,b,rfl,fun j x hj=> ?_⟩;rw[←a,List.getElem?_take]at hj;split at hj
  ·exact cell_at hr (by simpa using hj)
  ·cases hj
theorem MS.one{w:World}{b:Nat}{k:Nat}{t:List UInt8}{e:TypeId}(h:w.heap[b]? =some (.cells #[.int .i64 k,.string ⟨t.toArray⟩] e (0,0))):MS w [(k,t)] (.slice (some ⟨b,0,none⟩) 1 1):=by
 refine .inr ⟨b,0,1,rfl,fun j y hj=> ?_⟩
 match j,hj with
 |0,hj=>simp[mkC]at hj;subst hj;exact cell_at h rfl
 |1,hj=>simp[mkC]at hj;subst hj;exact cell_at h rfl
abbrev C25(w:World)(b:Nat)(v2 v5:Value):Prop:=w.cell? ⟨b,2,none⟩=some v2∧w.cell? ⟨b,5,none⟩=some v5
theorem C25.on{w w':World}{b:Nat}{v2 v5:Value}(h:C25 w b v2 v5)(f:Fr nob w w'):C25 w' b v2 v5:=⟨f.cell h.1 (fun x=>x),f.cell h.2 (fun x=>x)⟩
abbrev zR:Array Value:= #[.string ⟨#[]⟩,.bool false,.int .i64 0,.int .i64 0,.slice none 0 0,.slice none 0 0,.int .i64 0,.int .i64 0]
abbrev setEight(w:World)(b:Nat)(v0 v1 v2 v3 v4 v5 v6 v7:Value):World:=((((((((w.setCell ⟨b,0,none⟩ v0).setCell ⟨b,1,none⟩ v1).setCell ⟨b,2,none⟩ v2).setCell ⟨b,3,none⟩ v3).setCell ⟨b,4,none⟩ v4).setCell ⟨b,5,none⟩ v5).setCell ⟨b,6,none⟩ v6).setCell ⟨b,7,none⟩ v7)
theorem ZyE{w:World}{b:Nat}{a0 a1 a2 a3 a4 a5 a6 a7:Value}{T:TypeId}{fr:Nat×Nat}(h:w.heap[b]? =some (.cells #[a0,a1,a2,a3,a4,a5,a6,a7] T fr))(v0 v1 v2 v3 v4 v5 v6 v7:Value):
 (setEight w b v0 v1 v2 v3 v4 v5 v6 v7).heap[b]? =some (.cells #[v0,v1,v2,v3,v4,v5,v6,v7] T fr):=by
 have h0:(w.setCell ⟨b,0,none⟩ v0).heap[b]? =some (.cells #[v0,a1,a2,a3,a4,a5,a6,a7] T fr):=Za h 0 v0;have h1:((w.setCell ⟨b,0,none⟩ v0).setCell ⟨b,1,none⟩ v1).heap[b]? =some (.cells #[v0,v1,a2,a3,a4,a5,a6,a7] T fr):=Za h0 1 v1;have h2:(((w.setCell ⟨b,0,none⟩ v0).setCell ⟨b,1,none⟩ v1).setCell ⟨b,2,none⟩ v2).heap[b]? =some (.cells #[v0,v1,v2,a3,a4,a5,a6,a7] T fr):=Za h1 2 v2;have h3:((((w.setCell ⟨b,0,none⟩ v0).setCell ⟨b,1,none⟩ v1).setCell ⟨b,2,none⟩ v2).setCell ⟨b,3,none⟩ v3).heap[b]? =some (.cells #[v0,v1,v2,v3,a4,a5,a6,a7] T fr):=Za h2 3 v3;have h4:(((((w.setCell ⟨b,0,none⟩ v0).setCell ⟨b,1,none⟩ v1).setCell ⟨b,2,none⟩ v2).setCell ⟨b,3,none⟩ v3).setCell ⟨b,4,none⟩ v4).heap[b]? =some (.cells #[v0,v1,v2,v3,v4,a5,a6,a7] T fr):=Za h3 4 v4;have h5:((((((w.setCell ⟨b,0,none⟩ v0).setCell ⟨b,1,none⟩ v1).setCell ⟨b,2,none⟩ v2).setCell ⟨b,3,none⟩ v3).setCell ⟨b,4,none⟩ v4).setCell ⟨b,5,none⟩ v5).heap[b]? =some (.cells #[v0,v1,v2,v3,v4,v5,a6,a7] T fr):=Za h4 5 v5
 have h6:(((((((w.setCell ⟨b,0,none⟩ v0).setCell ⟨b,1,none⟩ v1).setCell ⟨b,2,none⟩ v2).setCell ⟨b,3,none⟩ v3).setCell ⟨b,4,none⟩ v4).setCell ⟨b,5,none⟩ v5).setCell ⟨b,6,none⟩ v6).heap[b]? =some (.cells #[v0,v1,v2,v3,v4,v5,v6,a7] T fr):=Za h5 6 v6;have h7:((((((((w.setCell ⟨b,0,none⟩ v0).setCell ⟨b,1,none⟩ v1).setCell ⟨b,2,none⟩ v2).setCell ⟨b,3,none⟩ v3).setCell ⟨b,4,none⟩ v4).setCell ⟨b,5,none⟩ v5).setCell ⟨b,6,none⟩ v6).setCell ⟨b,7,none⟩ v7).heap[b]? =some (.cells #[v0,v1,v2,v3,v4,v5,v6,v7] T fr):=Za h6 7 v7;exact h7
theorem ZyX{w a:World}{b:Nat}(f:Fr nob a w)(hb:a.heap.size≤b)(v0 v1 v2 v3 v4 v5 v6 v7:Value):Fr nob a (setEight w b v0 v1 v2 v3 v4 v5 v6 v7):=by
 have h:∀(x:World) (j:Nat) (v:Value),Fr nob a x→Fr nob a (x.setCell ⟨b,j,none⟩ v):=fun x j v hx=>hx.setCell (p:=⟨b,j,none⟩) (fun h=>absurd h (Nat.not_lt.2 hb)) v;exact h _ _ _ (h _ _ _ (h _ _ _ (h _ _ _ (h _ _ _ (h _ _ _ (h _ _ _ (h _ _ _ f)))))))
def Lo(B:Nat)(w w':World):Prop:=∀k o,B≤k→w.heap[k]? =some o→w'.heap[k]? =some o
theorem Lo.refl(B:Nat)(w:World):Lo B w w:=fun _ _ _ h=>h
theorem Lo.set{B:Nat}{a w:World}(h:Lo B a w){p:Addr}(hp:p.block<B)(v:Value):Lo B a (w.setCell p v):=fun k o hk ho=>Zc (h k o hk ho) (by omega) v
theorem Lo.setEight{B:Nat}{a w:World}(h:Lo B a w){b:Nat}(hb:b<B)(v0 v1 v2 v3 v4 v5 v6 v7:Value):Lo B a (setEight w b v0 v1 v2 v3 v4 v5 v6 v7):=by
 have g:∀(x:World) (j:Nat) (v:Value),Lo B a x→Lo B a (x.setCell ⟨b,j,none⟩ v):=fun x j v hx=>hx.set (p:=⟨b,j,none⟩) hb v;exact g _ _ _ (g _ _ _ (g _ _ _ (g _ _ _ (g _ _ _ (g _ _ _ (g _ _ _ (g _ _ _ h)))))))
theorem Lo.trans{B:Nat}{a b c:World}(h:Lo B a b)(g:Lo B b c):Lo B a c:=fun k o hk ho=>g k o hk (h k o hk ho)
theorem Lo.weak{B B':Nat}{a b:World}(h:Lo B a b)(hb:B≤B'):Lo B' a b:=fun k o hk ho=>h k o (Nat.le_trans hb hk) ho
theorem MS.lo{w w':World}{l:List (Nat×List UInt8)}{u:Value}{B:Nat}(h:w.ownsRow 0 96 2 u l.length (mkC l))(hb:∀k,u.ownBlock=some k→B≤k)(g:Lo B w w'):MS w' l u:=by
 obtain⟨_,h⟩:=h;rcases h with⟨rfl,h0⟩|⟨r,b,c,rfl,_,hr,hn,_,_,a⟩
 ·exact .inl ⟨rfl,List.length_eq_zero_iff.1 h0⟩
 ·refine .inr ⟨r,0,b,rfl,fun j x hj=> ?_⟩;rw[←a,List.getElem?_take]at hj;split at hj
  ·exact cell_at (g r _ (hb r (by simp[Value.ownBlock])) hr) (by simpa using hj)
  ·cases hj
theorem ZAH(l:List UInt8)(ere:Bool)(s:RxS)(ca:Option Addr)(cc:Nat)(ma:Option Addr)(mc:Nat)(t:List UInt8)(w:World)(hl:s.marks.length≤100000)(hm:MS w s.marks (.slice ma s.marks.length mc)):
 Calls Tryz.prog 93 #[rV l ere s ca cc ma mc 0 0,.string ⟨t.toArray⟩] w fun x w'=>∃ma' mc',x=.returned (rV l ere (s.mark t) ca cc ma' mc' 0 0)∧(∀W,Lo w.heap.size w' W→MS W (s.mark t).marks (.slice ma' (s.mark t).marks.length mc'))∧Fr nob w w':=by
 obtain⟨w1,n⟩:∃w1,w1=w.alloc (.cells (rC l ere s ca cc ma mc 0 0) 123):=⟨_,rfl⟩;obtain⟨w2,d⟩:∃w2,w2=w1.alloc (.cells zR 123):=⟨_,rfl⟩;have L:w1.heap.size=w.heap.size+1:=by rw[n];simp
 have M:w2.heap.size=w.heap.size+2:=by rw[d];simp;omega
 have f:w2.heap[w.heap.size]? =some (.cells (rC l ere s ca cc ma mc 0 0) 123 (0,0)):=by rw[d];exact heap_alloc_lt _ (by rw[n];exact heap_alloc_new _ _)
 have D:w2.heap[w.heap.size+1]? =some (.cells zR 123 (0,0)):=by rw[d];exact heap_alloc_new' _ _ _ L.symm
 have v:Fr nob w w2:=by rw[d,n];exact((Fr.refl nob w).alloc _).alloc _
 have E:C25 w2 w.heap.size (.int .i64 s.at_) (.slice ma s.marks.length mc):=⟨cell_at f rfl,cell_at f rfl⟩;have HM:=hid (hm.on v);have HC:=hid E;have G:=hid v;have J:=hid n;have K:=hid d;have N:=hid f;have H:=hid D;have RR:=hid (rule8 f);clear n d f D v E hm;unfold rV;go_enter Tryz.func93,Tryz.ntmps93;go_wp2_with(first|rw[←J.out]|rw[←K.out]);have q1:=RR.out (World.drew w2) ((Fr.refl nob w2).drew);have r0:∀Z,C25 (World.alloc w2 Z) w.heap.size (.int .i64 s.at_) (.slice ma s.marks.length mc):=fun Z=>C25.on HC.out ((Fr.refl nob w2).alloc Z);have r1:∀Z,C25 (World.drew (World.alloc w2 Z)) w.heap.size (.int .i64 s.at_) (.slice ma s.marks.length mc):=fun Z=>C25.on HC.out (((Fr.refl nob w2).alloc Z).drew);have r2:∀Z Y,C25 (World.alloc (World.alloc w2 Z) Y) w.heap.size (.int .i64 s.at_) (.slice ma s.marks.length mc):=fun Z Y=>C25.on HC.out (((Fr.refl nob w2).alloc Z).alloc Y)
 have r3:∀Z Y,C25 (World.alloc (World.drew (World.alloc w2 Z)) Y) w.heap.size (.int .i64 s.at_) (.slice ma s.marks.length mc):=fun Z Y=>C25.on HC.out (((Fr.refl nob w2).alloc Z).drew.alloc Y);have r4:∀Z,C25 (World.alloc (World.drew w2) Z) w.heap.size (.int .i64 s.at_) (.slice ma s.marks.length mc):=fun Z=>C25.on HC.out (((Fr.refl nob w2).drew).alloc Z);have r5:∀Z,C25 (World.drew (World.alloc (World.drew w2) Z)) w.heap.size (.int .i64 s.at_) (.slice ma s.marks.length mc):=fun Z=>C25.on HC.out ((((Fr.refl nob w2).drew).alloc Z).drew);have r6:∀Z Y,C25 (World.alloc (World.alloc (World.drew w2) Z) Y) w.heap.size (.int .i64 s.at_) (.slice ma s.marks.length mc):=fun Z Y=>C25.on HC.out ((((Fr.refl nob w2).drew).alloc Z).alloc Y);have r7:∀Z Y,C25 (World.alloc (World.drew (World.alloc (World.drew w2) Z)) Y) w.heap.size (.int .i64 s.at_) (.slice ma s.marks.length mc):=fun Z Y=>C25.on HC.out ((((Fr.refl nob w2).drew).alloc Z).drew.alloc Y)
 have O:(World.drew w2).heap.size=w.heap.size+2:=by simpa using M
 go_region_law
  (first
   |(refine Zyg rfl (.tmp 5) (.tmp 7) rfl [] s.marks _ _ (by rfl) (Zyw (by first|exact heap_alloc_new' _ _ _ (by(first|rfl|omega|(simp;done)|(simp;omega)|(simp[Value.ownBlock];done)|(simp[Value.ownBlock];omega)|(intros;simp[Value.ownBlock]at *;omega)))|exact heap_alloc_lt _ (heap_alloc_new' _ _ _ (by(first|rfl|omega|(simp;done)|(simp;omega)|(simp[Value.ownBlock];done)|(simp[Value.ownBlock];omega)|(intros;simp[Value.ownBlock]at *;omega)))))) (by rfl) (HM.out.on (by repeat(first|exact Fr.refl _ _|apply Fr.alloc|apply Fr.drew))) (by(first|rfl|omega|(simp;done)|(simp;omega)|(simp[Value.ownBlock];done)|(simp[Value.ownBlock];omega)|(intros;simp[Value.ownBlock]at *;omega))) ?_;intro v3 w3 m z g;have A:=hid z;have FA:=hid (fr_new (wr:=w2) (by repeat(first|exact Fr.refl _ _|apply Fr.alloc|apply Fr.drew)) z (by(first|rfl|omega|(simp;done)|(simp;omega)|(simp[Value.ownBlock];done)|(simp[Value.ownBlock];omega)|(intros;simp[Value.ownBlock]at *;omega))));have q:=hid m;have o:=hid (Zxw (B:=w2.heap.size) g (by(first|rfl|omega|(simp;done)|(simp;omega)|(simp[Value.ownBlock];done)|(simp[Value.ownBlock];omega)|(intros;simp[Value.ownBlock]at *;omega))) (by(first|rfl|omega|(simp;done)|(simp;omega)|(simp[Value.ownBlock];done)|(simp[Value.ownBlock];omega)|(intros;simp[Value.ownBlock]at *;omega))));have k3:=C25.on HC.out FA.out;have k4:∀Z,C25 (World.alloc w3 Z) w.heap.size (.int .i64 s.at_) (.slice ma s.marks.length mc):=fun Z=>C25.on HC.out (FA.out.alloc Z);clear m z g)
   |(refine Zyg rfl (.tmp 8) (.tmp 13) rfl s.marks [(s.at_,t)] _ _ (by rfl) (by first|exact q.out|exact q.out.alloc _) (by rfl) (MS.one (by first|exact heap_alloc_new' _ _ _ (by(first|rfl|omega|(simp;done)|(simp;omega)|(simp[Value.ownBlock];done)|(simp[Value.ownBlock];omega)|(intros;simp[Value.ownBlock]at *;omega)))|exact A.out.heap (heap_alloc_new' _ _ _ (by(first|rfl|omega|(simp;done)|(simp;omega)|(simp[Value.ownBlock];done)|(simp[Value.ownBlock];omega)|(intros;simp[Value.ownBlock]at *;omega)))) (by(first|rfl|omega|(simp;done)|(simp;omega)|(simp[Value.ownBlock];done)|(simp[Value.ownBlock];omega)|(intros;simp[Value.ownBlock]at *;omega)))|exact A.out.heap (heap_alloc_lt _ (heap_alloc_new' _ _ _ (by(first|rfl|omega|(simp;done)|(simp;omega)|(simp[Value.ownBlock];done)|(simp[Value.ownBlock];omega)|(intros;simp[Value.ownBlock]at *;omega))))) (by(first|rfl|omega|(simp;done)|(simp;omega)|(simp[Value.ownBlock];done)|(simp[Value.ownBlock];omega)|(intros;simp[Value.ownBlock]at *;omega))))) (by(first|rfl|omega|(simp;done)|(simp;omega)|(simp[Value.ownBlock];done)|(simp[Value.ownBlock];omega)|(intros;simp[Value.ownBlock]at *;omega))) ?_;intro v4 w4 b F j;obtain⟨a4,c4,rfl⟩:=(MS.of_own b).shape;have FB:=hid (Fr.trans (S:=nob) (a:=w2) (by repeat(first|exact FA.out|apply Fr.alloc|apply Fr.drew)) F (fun i hi e=>by have:=o.out i e;omega));have u:=hid b;have r:Hid (∀k,(Value.slice a4 (s.marks++[(s.at_,t)]).length c4).ownBlock=some k→w.heap.size+2≤k):=hid (by intro k hk;rcases j k hk with e|e;(have:=o.out k e;omega);(have:=FA.out.size;first|omega|(simp at e;omega)));obtain⟨⟨y0,y1,y2,y3,y4,y5,y6,y7⟩,z0,z1,z2,z3,z4,z5,z6,z7⟩:=RR.out w4 FB.out;clear b F j))
 all_goals
  have y:=Zc (p:=⟨w.heap.size,5,none⟩) (FB.out.heap H.out (fun x=>x)) (by simp) (.slice a4 (s.marks.length+1) c4);have I:=hid ((G.out.trans' FB.out).setCell (p:=⟨w.heap.size,5,none⟩) (fun h=>absurd h (Nat.lt_irrefl _)) (.slice a4 (s.marks.length+1) c4));have HX:=hid y;have xx:=rule8 y _ (Fr.refl nob _);clear y;have c:(s.mark t).marks.length=s.marks.length+1:=by simp[RxS.mark]
  have C:=hid c;clear c;go_wp2;have c:=C.out;refine bodyPost_ret (ZyN l ere (s.mark t) ca cc a4 c4 0 0 rfl rfl (by unfold rC;rw[c];exact ZyE HX.out _ _ _ _ _ _ _ _)) rfl ⟨_,_,rfl,?_,ZyX I.out (by omega) _ _ _ _ _ _ _ _⟩;exact fun W hW=>MS.lo u.out r.out ((((Lo.refl _ _).set (by show w.heap.size<_;omega) _).setEight (by omega) _ _ _ _ _ _ _ _).trans (hW.weak (by omega)))
theorem d_class(nm:ByteArray)(S:S4)(hS:ZaD (Zak nm)=S)(w:World):Calls Tryz.prog 169 #[.string nm] w fun e w'=>e=.returned (ZcR S)∧Fr nob w w':=by
 have hc:=fun w=>ZwS nm _ rfl w;rw[hS]at hc;obtain⟨q,hq⟩:∃q,(Zak nm).isSome=q:=⟨_,rfl⟩;rw[hq]at hc;have HC:=hid hc;clear hc hS hq;go_enter Tryz.func169,Tryz.ntmps169;go_wp2_with fail;refine(HC.out _).mono ?_;rintro e w1 ⟨rfl,f1⟩;have f:=f1.heap (newAt0 w _) (fun x=>x);have rr:=Zl f;have HB:=hid f;have F1:=hid f1;clear f1 f;go_wp2;have g:=heap_alloc_lt (w:=w1) (.cells #[.int .u64 S.a,.int .u64 S.b,.int .u64 S.c,.int .u64 S.d] 33) HB.out;exact bodyPost_ret (Zww (s:=S) rfl rfl (setFour_heap g _ _ _ _)) rfl ⟨rfl,Zp ((((Fr.refl nob w).alloc _).trans' F1.out).alloc _) (Nat.le_refl _) _ _ _ _⟩
theorem ZAW(s:S4)(w:World):Calls Tryz.prog 145 #[ZcR s] w fun e w'=>e=.returned (.agg (nine 1 s (.slice none 0 0) 0 0 0).toArray)∧Fr nob w w':=by
 go_enter Tryz.func145,Tryz.ntmps145;go_wp2;(try simp only[Exit.inBlock,Exit.then]);refine bodyPost_ret (results_T (k:=1) (s:=s) (v:=.slice none 0 0) (mn:=0) (mx:=0) (nu:=0) rfl rfl (heap_alloc_new' _ _ _ (by simp))) rfl ⟨rfl,((Fr.refl _ _).alloc _).alloc _⟩
theorem Zbj{l X:List UInt8}{k:Nat}(h:sgn l k=X)(hX:X≠[]):k+X.length≤l.length:=by
 have hk:k<l.length:=by
  by_cases hk:k<l.length
  ·exact hk
  ·exact absurd (h.symm.trans (Zkf (by omega))) hX
 have:=(Zkg l k).2;rw[h]at this;omega
theorem ZbQ(ere:Bool)(b:UInt8):1≤(opB ere b).length∧(opB ere b).length≤2∧opB ere b≠[]∧(ere=false→(opB ere b).length=2):=by cases ere<;>simp[opB]
theorem ZcU{l:List UInt8}{k:Nat}{ere:Bool}{b:UInt8}(h:(sgn l k==opB ere b)=true):k+(opB ere b).length≤l.length:=Zbj (eq_of_beq h) (ZbQ ere b).2.2.1
theorem ZkE{l:List UInt8}{ere:Bool}{k:Nat}{m x:Int}{j:Nat}(h:ZlJ l ere k=some (m,x,j)):k<j∧j≤l.length:=by
 unfold ZlJ at h;simp only at h;split at h
 ·cases h
 ·next hc=>
  have h4:=(ZbQ ere 125).1;have a:∀(q:Nat),ahd l q (opB ere 125)≠false→q+(opB ere 125).length≤l.length:=fun q hq=>ahd_le (by simpa using hq) h4;split at h
  ·split at h
   all_goals
    split at h
    ·cases h
    ·next ha=>
     injection h with h;injection h with h1 h;injection h with h2 h3;have:=a _ (fun e=>ha (.inl e));omega
  ·split at h
   ·cases h
   ·next ha=>
    injection h with h;injection h with h1 h;injection h with h2 h3;have:=a _ (fun e=>ha (.inl e));omega
def Zn4(l:List UInt8)(f:RxS→Out Nd):Prop:=∀s,Sane l s→∀t s',f s=.inr (t,s')→Sane l s'∧s.at_≤s'.at_∧t.size+2*s.at_≤2*s'.at_+2
theorem Sane.mk2{l:List UInt8}{s:RxS}{ere:Bool}{b:UInt8}(t:List UInt8)(hs:Sane l s)(h:s.at_+(opB ere b).length≤l.length):Sane l ((if ere then s else s.mark t).go (opB ere b).length):=by
 cases ere
 ·exact hs.markgo t (ZbQ false b).1 h
 ·exact hs.go h
theorem Zbz{ere:Bool}{l:List UInt8}:∀(n:Nat) (s:RxS) (t:Nd) (t':Nd) (s':RxS),Sane l s→Ze8 prg ere l n s t=.inr (t',s')→Sane l s'∧s.at_≤s'.at_∧t'.size+2*s.at_≤2*s'.at_+t.size
 |0,s,t,t',s',hs,h=>by
  rw[Ze8]at h;injection h with h;injection h with h1 h2;subst h1;subst h2;exact⟨hs,Nat.le_refl _,by omega⟩
 |n+1,s,t,t',s',hs,h=>by
  have hz:∀a b,(prg.rep t a b).size=1+t.size:=fun _ _=>rfl;have hat:∀u b,((if ere then s else s.mark u).go (opB ere b).length).at_=s.at_+(opB ere b).length:=fun u b=>by cases ere<;>rfl
  have ho:=ZbQ ere;rw[Ze8]at h;split at h
  ·next e=>
   have hle:s.at_+1≤l.length:=Zbj (eq_of_beq e) (by decide);obtain⟨k1,k2,k3⟩:=Zbz n _ _ _ _ (hs.go (n:=1) hle) h;have k2:s.at_+1≤s'.at_:=k2;have k3:t'.size+2*(s.at_+1)≤2*s'.at_+(1+t.size):=k3;exact⟨k1,by omega,by omega⟩
  ·split at h
   ·next e=>
    obtain⟨k1,k2,k3⟩:=Zbz n _ _ _ _ (hs.mk2 _ (ZcU e)) h;rw[hat]at k2 k3;rw[hz]at k3;have:=(ho 43).1;exact⟨k1,by omega,by omega⟩
   ·split at h
    ·next e=>
     obtain⟨k1,k2,k3⟩:=Zbz n _ _ _ _ (hs.mk2 _ (ZcU e)) h;rw[hat]at k2 k3;rw[hz]at k3;have:=(ho 63).1;exact⟨k1,by omega,by omega⟩
    ·split at h
     ·cases hi:ZlJ l ere (s.at_+(opB ere 123).length)with
      |none=>rw[hi]at h;cases h
      |some y=>
       obtain⟨m,x,j⟩:=y;rw[hi]at h;obtain⟨j1,j2⟩:=ZkE hi;obtain⟨k1,k2,k3⟩:=Zbz n _ _ _ _ (hs.to (n:=j) (by omega) j2) h;have k2:j≤s'.at_:=k2;have k3:t'.size+2*j≤2*s'.at_+(1+t.size):=k3;exact⟨k1,by omega,by omega⟩
     ·injection h with h;injection h with h1 h2;subst h1;subst h2;exact⟨hs,Nat.le_refl _,by omega⟩
section
variable {ere:Bool} {l:List UInt8} {C:Option (RxS→Out Nd)} (hC:∀f,C=some f→Zn4 l f)
theorem ZkF{s s':RxS}{t:Nd}{b:UInt8}(hs:Sane l s)(hl:s.at_+2≤l.length)(h:escD prg ere s b=.inr (t,s')):Sane l s'∧s.at_<s'.at_∧t.size+2*s.at_≤2*s'.at_:=by
 unfold escD at h;split at h
 ·split at h
  ·injection h with h;injection h with h1 h2;subst h1;subst h2;cases ere
   ·exact⟨hs.go hl,by show s.at_<s.at_+2;omega,by show 1+2*s.at_≤2*(s.at_+2);omega⟩
   ·exact⟨hs.markgo _ (by omega) hl,by show s.at_<s.at_+2;omega,by show 1+2*s.at_≤2*(s.at_+2);omega⟩
  ·cases h
 ·split at h
  ·cases h
  ·next c m _=>
   injection h with h;injection h with h1 h2;subst h1;subst h2;cases m
   ·exact⟨hs.go hl,by show s.at_<s.at_+2;omega,by show 1+2*s.at_≤2*(s.at_+2);omega⟩
   ·exact⟨hs.markgo _ (by omega) hl,by show s.at_<s.at_+2;omega,by show 1+2*s.at_≤2*(s.at_+2);omega⟩
include hC
theorem Zhq{s s':RxS}{t:Nd}(hs:Sane l s)(hl:s.at_+(opB ere 40).length≤l.length)(h:Zct prg ere l C s=.inr (t,s')):Sane l s'∧s.at_<s'.at_∧t.size+2*s.at_≤2*s'.at_:=by
 have ho:=ZbQ ere 40;unfold Zct at h;cases C with
 |none=>cases h
 |some f=>
  simp only at h;cases hf:f {s.go (opB ere 40).length with opened:=s.opened+1}with
  |inl e=>rw[hf]at h;cases h
  |inr z=>
   obtain⟨t1,s1⟩:=z;rw[hf]at h;simp only at h;have:=hs.op;have hg:=hs.go hl;obtain⟨k1,k2,k3⟩:=hC f rfl {s.go (opB ere 40).length with opened:=s.opened+1} ⟨hg.le,hg.mr,hg.cl,by show s.opened+1≤s.at_+_;omega⟩ t1 s1 hf;have k2:s.at_+(opB ere 40).length≤s1.at_:=k2;have k3:t1.size+2*(s.at_+(opB ere 40).length)≤2*s1.at_+2:=k3;split at h
   ·next e=>
    have e1:=ZcU e;have e2:(opB ere 40).length=(opB ere 41).length:=by cases ere<;>rfl
    injection h with h;injection h with h1 h2;subst h1;subst h2;refine⟨⟨by show s1.at_+_≤_;omega,Nat.le_trans k1.mr (Nat.le_add_right _ _),?_,Nat.le_trans k1.op (Nat.le_add_right _ _)⟩,by show s.at_<s1.at_+_;omega,?_⟩
    ·show(s1.closed++[_]).length≤s1.at_+_;have:=k1.cl;rw[List.length_append];simp only[List.length_singleton];omega
    ·show 1+t1.size+2*s.at_≤2*(s1.at_+_);omega
   ·cases h
theorem atomD_kept{s s':RxS}{t:Nd}(hs:Sane l s)(h:ZcS prg ere l C s=.inr (t,s')):Sane l s'∧s.at_<s'.at_∧t.size+2*s.at_≤2*s'.at_:=by
 unfold ZcS at h;split at h
 ·next e=>exact Zhq hC hs (ZcU e) h
 ·split at h
  ·cases h
  ·split at h
   ·cases hp:prs l (s.at_+1)with
    |inl z=>rw[hp]at h;cases h
    |inr y=>
     obtain⟨c,k⟩:=y;rw[hp]at h;injection h with h;injection h with h2 h3;subst h2;subst h3;obtain⟨_,p2,p3⟩:=Zke hp;have p2:s.at_+1<k:=p2;have p3:k≤l.length:=p3;exact⟨hs.to (by omega) p3,by show s.at_<k;omega,by show 1+2*s.at_≤2*k;omega⟩
   ·split at h
    ·next e=>
     have a:s.at_+1≤l.length:=Zbj (eq_of_beq e) (by decide);injection h with h;injection h with h2 h3;subst h2;subst h3;exact⟨hs.go a,by show s.at_<s.at_+1;omega,by show 1+2*s.at_≤2*(s.at_+1);omega⟩
    ·split at h
     ·cases h
     ·split at h
      ·cases h
      ·next b e=>
       have a:s.at_+1≤l.length:=Zbj e (by simp);injection h with h;injection h with h2 h3;subst h2;subst h3;exact⟨hs.go a,by show s.at_<s.at_+1;omega,by show 1+2*s.at_≤2*(s.at_+1);omega⟩
      ·next b r e=>
       have h2:=(Zkg l s.at_).1;have a:=Zbj e (by simp);simp only[List.length_cons]at a;obtain⟨k1,k2,k3⟩:=ZkF hs (by omega) h;exact⟨k1,k2,k3⟩
theorem ZdJ{inner:Bool}:∀(n:Nat) (first front:Bool) (s:RxS) (ps:List Nd) (t:Nd) (s':RxS),Sane l s→brD prg ere l C inner n first front s ps=.inr (t,s')→
 Sane l s'∧s.at_≤s'.at_∧t.size+2*s.at_≤2*s'.at_+Nd.sizes ps+1
 |0,first,front,s,ps,t,s',hs,h=>by
  rw[brD]at h;injection h with h;injection h with h1 h2;subst h1;subst h2;have:=Zbx ps;exact⟨hs,Nat.le_refl _,by show(Za2 ps).size+_≤_;omega⟩
 |n+1,first,front,s,ps,t,s',hs,h=>by
  have hj:=Zbx ps;rw[brD]at h;split at h
  ·injection h with h;injection h with h1 h2;subst h1;subst h2;exact⟨hs,Nat.le_refl _,by show(Za2 ps).size+_≤_;omega⟩
  ·split at h
   ·next e=>
    have e1:(sgn l s.at_==[94])=true:=by simp only[Bool.and_eq_true]at e;exact e.1
    have a:s.at_+1≤l.length:=Zbj (eq_of_beq e1) (by decide);obtain⟨k1,k2,k3⟩:=ZdJ n _ _ _ _ _ _ (hs.go (n:=1) a) h;have k2:s.at_+1≤s'.at_:=k2;have k3:t.size+2*(s.at_+1)≤2*s'.at_+Nd.sizes (ps++[.start])+1:=k3;rw[Nd.sizes_append]at k3;have:Nd.sizes [Nd.start]=1:=rfl;exact⟨k1,by omega,by omega⟩
   ·split at h
    ·next e=>
     have e1:(sgn l s.at_==[36])=true:=by simp only[Bool.and_eq_true]at e;exact e.1
     have a:s.at_+1≤l.length:=Zbj (eq_of_beq e1) (by decide);obtain⟨k1,k2,k3⟩:=ZdJ n _ _ _ _ _ _ (hs.go (n:=1) a) h;have k2:s.at_+1≤s'.at_:=k2;have k3:t.size+2*(s.at_+1)≤2*s'.at_+Nd.sizes (ps++[.fin])+1:=k3;rw[Nd.sizes_append]at k3;have:Nd.sizes [Nd.fin]=1:=rfl;exact⟨k1,by omega,by omega⟩
    ·split at h
     ·cases h
     ·split at h
      ·cases h
      ·next t1 s1 e1=>
       split at h
       ·cases h
       ·next t2 s2 e2=>
        obtain⟨a1,a2,a3⟩:=atomD_kept hC hs e1;obtain⟨b1,b2,b3⟩:=Zbz _ _ _ _ _ a1 e2;obtain⟨k1,k2,k3⟩:=ZdJ n _ _ _ _ _ _ b1 h;rw[Nd.sizes_append]at k3;have:Nd.sizes [t2]=t2.size:=by simp[Nd.sizes]
        exact⟨k1,by omega,by omega⟩
theorem Zbf{inner:Bool}{s s':RxS}{t:Nd}(hs:Sane l s)(h:Zb7 prg ere l C inner s=.inr (t,s')):Sane l s'∧s.at_≤s'.at_∧t.size+2*s.at_≤2*s'.at_+1:=by
 have:=ZdJ hC _ _ _ _ _ _ _ hs h;simpa[Nd.sizes]using this
theorem ZeF{inner:Bool}:∀(n:Nat) (s:RxS) (ts:List Nd) (t:Nd) (s':RxS),Sane l s→Zar prg ere l C inner n s ts=.inr (t,s')→
 Sane l s'∧s.at_≤s'.at_∧t.size+2*s.at_≤2*s'.at_+Nd.sizes ts+1
 |0,s,ts,t,s',hs,h=>by
  rw[Zar]at h;injection h with h;injection h with h1 h2;subst h1;subst h2;have:=Zby ts;exact⟨hs,Nat.le_refl _,by show(Za3 ts).size+_≤_;omega⟩
 |n+1,s,ts,t,s',hs,h=>by
  have hj:=Zby ts;have hat:∀u b,((if ere then s else s.mark u).go (opB ere b).length).at_=s.at_+(opB ere b).length:=fun u b=>by cases ere<;>rfl
  have ho:=ZbQ ere 124;rw[Zar]at h;split at h
  ·next e=>
   split at h
   ·cases h
   ·next t1 s1 e1=>
    obtain⟨a1,a2,a3⟩:=Zbf hC (hs.mk2 _ (ZcU e)) e1;rw[hat]at a2 a3;obtain⟨k1,k2,k3⟩:=ZeF n _ _ _ _ a1 h;rw[Nd.sizes_append]at k3;have:Nd.sizes [t1]=t1.size:=by simp[Nd.sizes]
    exact⟨k1,by omega,by omega⟩
  ·injection h with h;injection h with h1 h2;subst h1;subst h2;exact⟨hs,Nat.le_refl _,by show(Za3 ts).size+_≤_;omega⟩
theorem Zdr{inner:Bool}{s s':RxS}{t:Nd}(hs:Sane l s)(h:choiceD prg ere l C inner s=.inr (t,s')):Sane l s'∧s.at_≤s'.at_∧t.size+2*s.at_≤2*s'.at_+2:=by
 unfold choiceD at h;split at h
 ·cases h
 ·next t1 s1 e1=>
  obtain⟨a1,a2,a3⟩:=Zbf hC hs e1;obtain⟨k1,k2,k3⟩:=ZeF hC _ _ _ _ _ a1 h;have:Nd.sizes [t1]=t1.size:=by simp[Nd.sizes]
  exact⟨k1,by omega,by omega⟩
end
theorem chD_kept{ere:Bool}{l:List UInt8}:∀n,Zn4 l (chD prg ere l n)
 |0=>fun s hs t s' h=>by rw[chD]at h;exact Zdr (fun f hf=>by cases hf) hs h
 |n+1=>fun s hs t s' h=>by rw[chD]at h;exact Zdr (fun f hf=>by injection hf with hf;subst hf;exact chD_kept n) hs h
end Go.Proofs.YtgllcniibbaoaaaGreatDoor
