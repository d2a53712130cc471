/- Lemmas of this claim. -/
import Derived.Test.YtkfddjopbocpkaaGreatDoorN13
set_option linter.unusedVariables false
set_option linter.unusedSimpArgs false
set_option maxRecDepth 100000
set_option maxHeartbeats 4000000
namespace Go.Proofs.YtkfddjopbocpkaaGreatDoor
open Go.Lib (hid)
open Go.RowKit
structure Four(w:World)(b0 b1 b2 b3:Nat)(v0 v1 v2 v3:Value):Prop where
 h0:w.heap[b0]? =some (.cells #[v0] 26 (0,0))
 h1:w.heap[b1]? =some (.cells #[v1] 36 (0,0))
 h2:w.heap[b2]? =some (.cells #[v2] 3 (0,0))
 h3:w.heap[b3]? =some (.cells #[v3] 37 (0,0))
 n01:b0≠b1
 n02:b0≠b2
 n03:b0≠b3
 n12:b1≠b2
 n13:b1≠b3
 n23:b2≠b3
theorem Four.drew{w:World}{b0 b1 b2 b3:Nat}{v0 v1 v2 v3:Value}(h:Four w b0 b1 b2 b3 v0 v1 v2 v3):Four w.drew b0 b1 b2 b3 v0 v1 v2 v3:=
 ⟨h.h0,h.h1,h.h2,h.h3,h.n01,h.n02,h.n03,h.n12,h.n13,h.n23⟩
theorem Zin{w:World}{b0 b1 b2 b3:Nat}{v0 v1 v2 v3:Value}(h:Four w b0 b1 b2 b3 v0 v1 v2 v3)(u0 u1 u2 u3:Value):
 Four ((((w.setCell ⟨b0,0,none⟩ u0).setCell ⟨b1,0,none⟩ u1).setCell ⟨b2,0,none⟩ u2).setCell ⟨b3,0,none⟩ u3) b0 b1 b2 b3 u0 u1 u2 u3∧
  Fr (fun k=>k=b0∨k=b1∨k=b2∨k=b3) w ((((w.setCell ⟨b0,0,none⟩ u0).setCell ⟨b1,0,none⟩ u1).setCell ⟨b2,0,none⟩ u2).setCell ⟨b3,0,none⟩ u3):=by
 obtain⟨h0,h1,h2,h3,a,b,c,d,e,f⟩:=h;have k0:=Zc (p:=⟨b3,0,none⟩) (Zc (p:=⟨b2,0,none⟩) (Zc (p:=⟨b1,0,none⟩) (Za h0 0 u0) a u1) b u2) c u3;have k1:=Zc (p:=⟨b3,0,none⟩) (Zc (p:=⟨b2,0,none⟩) (Za (Zc (p:=⟨b0,0,none⟩) h1 (Ne.symm a) u0) 0 u1) d u2) e u3;have k2:=Zc (p:=⟨b3,0,none⟩) (Za (Zc (p:=⟨b1,0,none⟩) (Zc (p:=⟨b0,0,none⟩) h2 (Ne.symm b) u0) (Ne.symm d) u1) 0 u2) f u3;have k3:=Za (Zc (p:=⟨b2,0,none⟩) (Zc (p:=⟨b1,0,none⟩) (Zc (p:=⟨b0,0,none⟩) h3 (Ne.symm c) u0) (Ne.symm e) u1) (Ne.symm f) u2) 0 u3;refine⟨⟨k0,k1,k2,k3,a,b,c,d,e,f⟩,?_⟩;exact((((Fr.refl (fun k=>k=b0∨k=b1∨k=b2∨k=b3) w).setCell (p:=⟨b0,0,none⟩) (fun _=>.inl rfl) u0).setCell (p:=⟨b1,0,none⟩) (fun _=>.inr (.inl rfl)) u1).setCell (p:=⟨b2,0,none⟩) (fun _=>.inr (.inr (.inl rfl))) u2).setCell (p:=⟨b3,0,none⟩) (fun _=>.inr (.inr (.inr rfl))) u3
abbrev CQ(w:World)(b:Nat)(v0 v1:Value):Prop:=w.cell? ⟨b,0,none⟩=some v0∧w.cell? ⟨b,1,none⟩=some v1
theorem CQ.drew{w:World}{b:Nat}{v0 v1:Value}(h:CQ w b v0 v1):CQ w.drew b v0 v1:=h
theorem CQ.set{w:World}{b c j:Nat}{v0 v1:Value}(h:CQ w b v0 v1)(hn:c≠b)(u:Value):CQ (w.setCell ⟨c,j,none⟩ u) b v0 v1:=⟨Zm h.1 hn,Zm h.2 hn⟩
theorem Zho(p0 p1 p2 p3:Value)(w:World):
 CallsD Tryz.prog 203 #[p0,p1,p2,p3] .returning w fun e u' w'=>e=.returned (.tuple #[])∧u'=.returning∧w'=w:=by
 refine callsD_of_wpS Tryz.func203 rfl fun c₀ cs hu=> ?_;apply wpS_seq;apply wpS_region;simp[wpOpsS,go_sem,recoverD,hu,Tryz.ntmps203,Exit.thenS];refine wpS_of_wp ?_;go_wp2;cases c₀
 simp_all [bodyPostS,results,Tryz.results203]
theorem ZdA(b0 b1 b2 b3:Nat)(v0 v1 v2 v3:Value)(z:Int)(p:Nat)(older:List PanicEntry)(w:World)(h:Four w b0 b1 b2 b3 v0 v1 v2 v3):
 CallsD Tryz.prog 203 #[.pointer (some ⟨b0,0,none⟩),.pointer (some ⟨b1,0,none⟩),.pointer (some ⟨b2,0,none⟩),.pointer (some ⟨b3,0,none⟩)] (.panicking ({v:=.iface 285 (.agg #[.int .i64 z,.int .i64 (p:Nat)]),recovered:=false}::older)) w fun e u' w'=>
  e=.returned (.tuple #[])∧u'=.panicking ({v:=.iface 285 (.agg #[.int .i64 z,.int .i64 (p:Nat)]),recovered:=true}::older)∧Four w' b0 b1 b2 b3 .nilIface (.slice none 0 0) (.int .i64 (p:Nat)) (.int .i64 z)∧Fr (fun k=>k=b0∨k=b1∨k=b2∨k=b3) w w':=by
 refine callsD_of_wpS Tryz.func203 rfl fun c₀ cs hu=> ?_;apply wpS_seq;apply wpS_region;simp[wpOpsS,go_sem,recoverD,hu,Tryz.ntmps203,Exit.thenS];obtain⟨h0,h1,h2,h3,l,m,n,o,q,r⟩:=h;have c0:=cell_at (j:=0) (v:=v0) h0 rfl;have c1:=cell_at (j:=0) (v:=v1) h1 rfl;have c2:=cell_at (j:=0) (v:=v2) h2 rfl;have c3:=cell_at (j:=0) (v:=v3) h3 rfl;have d0:=unfrozen_at h0 0;have d1:=unfrozen_at h1 0;have d2:=unfrozen_at h2 0;have d3:=unfrozen_at h3 0;have l0:=lt_heap h0;have l1:=lt_heap h1;have l2:=lt_heap h2;have l3:=lt_heap h3;have has:=fun(x:TypeId) (v:Value) (w:World)=>Zfe (P:=Tryz.prog) (x:=x) Tryz.underlying285 v w;have hz:=newAt0 w (.cells #[.int .i64 z,.int .i64 (p:Nat)] 285);obtain⟨wA,d⟩:∃wA,wA=w.alloc (.cells #[.int .i64 z,.int .i64 (p:Nat)] 285):=⟨_,rfl⟩;have a:Fr nob w wA:=by rw[d];exact(Fr.refl nob w).alloc _
 rw[←d]at hz;obtain⟨c,hc⟩:∃c,c=w.heap.size:=⟨_,rfl⟩;rw[←hc]at hz;have b:CQ wA c (.int .i64 z) (.int .i64 (p:Nat)):=⟨cell_at hz rfl,cell_at hz rfl⟩;have e0:=b.1;have e1:=b.2;have HQ:=hid b;have g:=hid (CQ.drew b);have m0:b0≠c:=by omega
 have m1:b1≠c:=by omega
 have m2:b2≠c:=by omega
 have m3:b3≠c:=by omega
 have H0:=hid (a.heap h0 (fun x=>x));have H1:=hid (a.heap h1 (fun x=>x));have H2:=hid (a.heap h2 (fun x=>x));have H3:=hid (a.heap h3 (fun x=>x));have HA:=hid a;have i:=hid d;have f:=hid hc;clear h0 h1 h2 h3 hz b a c0 c1 c2 c3 d0 d1 d2 d3;have c0:=cell_at (j:=0) (v:=v0) H0.out rfl;have c1:=cell_at (j:=0) (v:=v1) H1.out rfl;have c2:=cell_at (j:=0) (v:=v2) H2.out rfl;have c3:=cell_at (j:=0) (v:=v3) H3.out rfl;have d0:=unfrozen_at H0.out 0;have d1:=unfrozen_at H1.out 0;have d2:=unfrozen_at H2.out 0;have d3:=unfrozen_at H3.out 0;clear d hc;refine wpS_of_wp ?_;go_wp2_with(rw[←i.out,←f.out])
 go_region_held3 (fun w'=>CQ w' c (.int .i64 z) (.int .i64 (p:Nat))) (repeat(first|(with_reducible exact HQ.out)|(with_reducible exact g.out)|(with_reducible refine CQ.set ?_ (by assumption) _)|(with_reducible refine CQ.drew ?_))) (fail)
 all_goals
  go_wp2;have hR:=Zin (w:=wA) ⟨H0.out,H1.out,H2.out,H3.out,l,m,n,o,q,r⟩ .nilIface (.slice none 0 0) (.int .i64 (p:Nat)) (.int .i64 z);have HR:=hid hR;clear hR;simp[bodyPostS,results,Tryz.results203];exact⟨HR.out.1.drew,(HA.out.any.trans HR.out.2 (fun _ _ x=>x)).drew⟩
theorem Zio(w:World)(v0 v1 v2 v3:Value):Four ((((w.alloc (.cells #[v0] 26)).alloc (.cells #[v1] 36)).alloc (.cells #[v2] 3)).alloc (.cells #[v3] 37)) w.heap.size (w.heap.size+1) (w.heap.size+1+1) (w.heap.size+1+1+1) v0 v1 v2 v3:=
 ⟨Ze _ (Ze _ (Ze _ (newAt0 w _))),Ze _ (Ze _ (Zg _ _ _ (by simp))),Ze _ (Zg _ _ _ (by simp)),Zg _ _ _ (by simp),by omega,by omega,by omega,by omega,by omega,by omega⟩
theorem Zhp{X:Nat→Prop}{w w':World}{b0 b1 b2 b3:Nat}{v0 v1 v2 v3:Value}(h:Four w b0 b1 b2 b3 v0 v1 v2 v3)(f:Fr X w w')(hX:∀k,(k=b0∨k=b1∨k=b2∨k=b3)→¬X k):Four w' b0 b1 b2 b3 v0 v1 v2 v3:=
 ⟨f.heap h.h0 (hX _ (.inl rfl)),f.heap h.h1 (hX _ (.inr (.inl rfl))),f.heap h.h2 (hX _ (.inr (.inr (.inl rfl)))),f.heap h.h3 (hX _ (.inr (.inr (.inr rfl)))),h.n01,h.n02,h.n03,h.n12,h.n13,h.n23⟩
abbrev PQ(w:World)(b c:Nat)(v0 v4:Value):Prop:=w.cell? ⟨b,0,none⟩=some v0∧w.cell? ⟨c,4,none⟩=some v4
theorem PQ.drew{w:World}{b c:Nat}{v0 v4:Value}(h:PQ w b c v0 v4):PQ w.drew b c v0 v4:=h
theorem PQ.set{w:World}{b c k j:Nat}{v0 v4:Value}(h:PQ w b c v0 v4)(hb:k≠b)(hc:k≠c)(u:Value):PQ (w.setCell ⟨k,j,none⟩ u) b c v0 v4:=⟨Zm h.1 hb,Zm h.2 hc⟩
theorem PQ.same{w:World}{b c:Nat}{v0 v4:Value}(h:PQ w b c v0 v4)(hc:b≠c):PQ (w.setCell ⟨b,0,none⟩ v0) b c v0 v4:=⟨World.cell?_setCell_same' _ _ _ (by rw[h.1];rfl),Zm h.2 hc⟩
def BreAnsO(R:Out Nd)(w:World)(e:Ending)(w':World):Prop:=Fr nob w w'∧match R with
 | .inl (z,p)=>e=.returned (.tuple #[.nilIface,.slice none 0 0,.int .i64 (p:Nat),.int .i64 z])
 | .inr (t,s)=>∃i y mv,e=.returned (.tuple #[.iface i y,mv,.int .i64 0,.int .i64 0])∧RN (fun k=>k<w.heap.size) w' t (.iface i y)∧OwM w' s.marks mv∧∀k,mv.ownBlock=some k→w.heap.size≤k
theorem ZeE(l:List UInt8)(w:World)(hl:l.length≤100000)(hE:Env w):
 Calls Tryz.prog 179 #[.string ⟨l.toArray⟩] w (BreAnsO (Zey prg l) w):=by
 have a7:=ZfW;by_cases r:250<l.length
 ·have a1:(250:Int)<(l.length:Int):=by omega
  unfold Zey;rw[if_pos r]
  go_enter_defers Tryz.func179,Tryz.ntmps179
  go_wp2;have hF:=Zio w .nilIface (.slice none 0 0) (.int .i64 250) (.int .i64 3);have k0:=cell_at (j:=0) (v:=.nilIface) hF.h0 rfl;have k1:=cell_at (j:=0) (v:=.slice none 0 0) hF.h1 rfl;have k2:=cell_at (j:=0) (v:=.int .i64 250) hF.h2 rfl;have k3:=cell_at (j:=0) (v:=.int .i64 3) hF.h3 rfl;have FW:=hid (((((Fr.refl nob w).alloc (.cells #[.nilIface] 26)).alloc (.cells #[.slice none 0 0] 36)).alloc (.cells #[.int .i64 250] 3)).alloc (.cells #[.int .i64 3] 37));simp[bodyPostD,Leaves,settle,results,Tryz.results179,go_sem,BreAnsO];exact FW.out
 ·have a1:¬(250:Int)<(l.length:Int):=by omega
  unfold Zey;rw[if_neg r];obtain⟨F,hF⟩:∃F,chS prg l 12 ⟨0,0,[],[]⟩=F:=⟨_,rfl⟩;rw[hF];obtain⟨w4,c⟩:∃w4,w4=(((w.alloc (.cells #[.nilIface] 26)).alloc (.cells #[.slice none 0 0] 36)).alloc (.cells #[.int .i64 0] 3)).alloc (.cells #[.int .i64 0] 37):=⟨_,rfl⟩;have a5:w4.heap.size=w.heap.size+1+1+1+1:=by rw[c];simp
  have B:Fr nob w w4:=by rw[c];exact(((((Fr.refl nob w).alloc _).alloc _).alloc _).alloc _)
  have h4:Four w4 w.heap.size (w.heap.size+1) (w.heap.size+1+1) (w.heap.size+1+1+1) .nilIface (.slice none 0 0) (.int .i64 0) (.int .i64 0):=by rw[c];exact Zio w _ _ _ _
  obtain⟨w5,d⟩:∃w5,w5=w4.alloc (.cells #[.string ⟨l.toArray⟩,.int .i64 0,.int .i64 0,.slice none 0 0,.slice none 0 0] 288):=⟨_,rfl⟩;have a:Fr nob w4 w5:=by rw[d];exact(Fr.refl nob w4).alloc _
  have a6:w5.heap.size=w4.heap.size+1:=by rw[d];simp
  obtain⟨b,hb⟩:∃b,b=w4.heap.size:=⟨_,rfl⟩;have hB:Br b l ⟨0,0,[],[]⟩ (fun k=>k=b) (.slice none 0 0) (.slice none 0 0) w5:=
   ⟨by rw[d,hb];exact newAt0 w4 _,World.ownsRow_nil _ _ _ _,World.ownsRow_nil _ _ _ _,fun _ h=>(by cases h),fun _ h=>(by cases h),fun _ h=>(by cases h),rfl⟩
  have hO:∀k,k<b→k<w5.heap.size:=fun k hk=>by omega
  have m:=ZkD l w hl hE 12 0 rfl b ⟨0,0,[],[]⟩ (fun k=>k=b) (fun k=>k<b) w5 hO ⟨Nat.zero_le _,Nat.le_refl _,Nat.le_refl _,Nat.le_refl _⟩ ⟨B.trans' a,fun k hk=>by subst hk;omega,fun k hk=>by subst hk;omega⟩ ⟨_,_,hB⟩;rw[hF]at m;have h5:=Zhp (X:=nob) h4 a (fun _ _ x=>x);have a0:b=w.heap.size+1+1+1+1:=by omega
  rw[show((0:Nat):Int)=0 from rfl]at m;subst a0;have M:=hid m;have H5:=hid h5;have O:=hid c;have P:=hid d;have D:=hid (B.trans' a);have E:=hid (show w5.heap.size=w.heap.size+5 by omega);have a3:∀s6 S6 w6,Rdg (w.heap.size+1+1+1+1) l s6 S6 w6→Rdg (w.heap.size+1+1+1+1) l s6 S6 w6:=fun _ _ _ h=>h;clear m h5 h4 c d hB hO hF hb a5 B a hE a6 a3
  go_enter_defers Tryz.func179,Tryz.ntmps179
  go_wp2_with(rw[←O.out,←P.out]);refine(M.out).mono ?_;cases F with
  |inl q=>
   obtain⟨z,p⟩:=q;rintro e w6 ⟨rfl,S6,t6⟩;have h6:=Zhp H5.out t6.fr (fun k hk x=>by have x:k=w.heap.size+1+1+1+1:=x;omega);have F6:Fr nob w w6:=D.out.trans t6.fr (fun i hi x=>by have x:i=w.heap.size+1+1+1+1:=x;omega);refine leaves_cons (f:=203) (args:= #[.pointer (some ⟨w.heap.size,0,none⟩),.pointer (some ⟨w.heap.size+1,0,none⟩),.pointer (some ⟨w.heap.size+1+1,0,none⟩),.pointer (some ⟨w.heap.size+1+1+1,0,none⟩)]) (by simp) (by simp[go_sem]) ?_;refine(ZdA _ _ _ _ _ _ _ _ z p [] _ h6).mono ?_;rintro e u' w7 ⟨rfl,rfl,h7,f7⟩;have k0:=cell_at (j:=0) (v:=.nilIface) h7.h0 rfl;have k1:=cell_at (j:=0) (v:=.slice none 0 0) h7.h1 rfl;have k2:=cell_at (j:=0) (v:=.int .i64 (p:Nat)) h7.h2 rfl;have k3:=cell_at (j:=0) (v:=.int .i64 z) h7.h3 rfl;have FW:=hid (show Fr nob w w7 from F6.trans f7 (fun i hi x=>by omega));clear h7 f7 F6 h6 t6;simp[Leaves,settle,results,Tryz.results179,go_sem,BreAnsO,k0,k1,k2,k3]
   exact FW.out
  |inr q=>
   obtain⟨t,s⟩:=q;rintro e w6 ⟨i,y,S6,rfl,K,⟨cv,mv,g⟩,t6⟩;have h6:=Zhp H5.out t6.fr (fun k hk x=>by have x:k=w.heap.size+1+1+1+1:=x;omega);have F6:Fr nob w w6:=D.out.trans t6.fr (fun i hi x=>by have x:i=w.heap.size+1+1+1+1:=x;omega);obtain⟨w7,n⟩:∃w7,w7=w6.setCell ⟨w.heap.size,0,none⟩ (.iface i y):=⟨_,rfl⟩;have c0:=cell_at (j:=0) (v:=.nilIface) h6.h0 rfl;have d0:=unfrozen_at h6.h0 0;have h7:Four w7 w.heap.size (w.heap.size+1) (w.heap.size+1+1) (w.heap.size+1+1+1) (.iface i y) (.slice none 0 0) (.int .i64 0) (.int .i64 0):=by
    rw[n];exact⟨Za h6.h0 0 _,Zc h6.h1 (Ne.symm h6.n01) _,Zc h6.h2 (Ne.symm h6.n02) _,Zc h6.h3 (Ne.symm h6.n03) _,h6.n01,h6.n02,h6.n03,h6.n12,h6.n13,h6.n23⟩
   have A:Fr (fun k=>k=w.heap.size) w6 w7:=by rw[n];exact(Fr.refl (fun k=>k=w.heap.size) w6).setCell (p:=⟨w.heap.size,0,none⟩) (fun _=>rfl) _
   have e4:w7.cell? ⟨w.heap.size+1+1+1+1,4,none⟩=some mv:=A.cell (cell_at g.blk rfl) (fun x=>by simp only at x;omega);have c7:=cell_at (j:=0) (v:=.iface i y) h7.h0 rfl;have S:=cell_at (j:=0) (v:=.slice none 0 0) h7.h1 rfl;have U:=cell_at (j:=0) (v:=.int .i64 0) h7.h2 rfl;have V:=cell_at (j:=0) (v:=.int .i64 0) h7.h3 rfl;have d7:=unfrozen_at h7.h0 0;have W:=unfrozen_at h7.h1 0;have Y:=unfrozen_at h7.h2 0;have Z:=unfrozen_at h7.h3 0;obtain⟨am,cm,a4⟩:=Zb g.ma;subst a4;have C:PQ w7 w.heap.size (w.heap.size+1+1+1+1) (.iface i y) (.slice am s.marks.length cm):=⟨c7,e4⟩;have HQ:=hid C;have N:=hid (PQ.drew C);have Q:=hid n;have H7:=hid h7;have R:=hid K;have T6:=hid t6;have F6:=hid F6;have L:=hid A;have u:=hid g;clear n h7 h6 K t6 A g C;go_wp2_with(rw[←Q.out])
   go_region_held3 (fun w'=>PQ w' w.heap.size (w.heap.size+1+1+1+1) (.iface i y) (.slice am s.marks.length cm)) (repeat(first|(with_reducible exact HQ.out)|(with_reducible exact N.out)|(with_reducible refine PQ.same ?_ (by omega))|(with_reducible refine PQ.set ?_ (by omega) (by omega) _)|(with_reducible refine PQ.drew ?_))) (fail)
   all_goals
    obtain⟨w8,o⟩:∃w8,w8=((((w7.setCell ⟨w.heap.size,0,none⟩ (.iface i y)).setCell ⟨w.heap.size+1,0,none⟩ (.slice am s.marks.length cm)).setCell ⟨w.heap.size+1+1,0,none⟩ (.int .i64 0)).setCell ⟨w.heap.size+1+1+1,0,none⟩ (.int .i64 0)).drew:=⟨_,rfl⟩;rw[←o];have hR:=Zin H7.out (.iface i y) (.slice am s.marks.length cm) (.int .i64 0) (.int .i64 0);have h8:Four w8 w.heap.size (w.heap.size+1) (w.heap.size+1+1) (w.heap.size+1+1+1) (.iface i y) (.slice am s.marks.length cm) (.int .i64 0) (.int .i64 0):=by rw[o];exact hR.1.drew
    have f8:Fr (fun k=>k=w.heap.size∨k=w.heap.size+1∨k=w.heap.size+1+1∨k=w.heap.size+1+1+1) w6 w8:=by rw[o];exact((L.out.mono (fun _ _ x=>.inl x)).trans hR.2 (fun _ _ x=>x)).drew
    have J:RN (fun k=>k<w.heap.size) w8 t (.iface i y):=RN.keep f8 (fun k _ x=>.inr (by show k<_;omega)) (fun k _ x=>.inr (by show k<_;have x:k<w.heap.size:=x;omega)) _ _ R.out;have H:OwM w8 s.marks (.slice am s.marks.length cm):=ownsRow_fr u.out.ma f8 (fun k hk x=>by
     have h1:=u.out.nm k hk;have h2:=E.out;have h3:k=w.heap.size+1+1+1+1:=T6.out.old k (by omega) h1.2;omega)
    have G:Fr nob w w8:=F6.out.trans f8 (fun i hi x=>by omega);have k0:=cell_at (j:=0) (v:=.iface i y) h8.h0 rfl;have k1:=cell_at (j:=0) (v:=.slice am s.marks.length cm) h8.h1 rfl;have k2:=cell_at (j:=0) (v:=.int .i64 0) h8.h2 rfl;have k3:=cell_at (j:=0) (v:=.int .i64 0) h8.h3 rfl;have I:∀k,(Value.slice am s.marks.length cm).ownBlock=some k→w.heap.size≤k:=fun k hk=>by
     have h1:=u.out.nm k hk;have h2:=E.out;by_cases a2:k<w5.heap.size
     ·have h3:k=w.heap.size+1+1+1+1:=T6.out.old k a2 h1.2;omega
     ·omega
    have HA:=hid (show BreAnsO (.inr (t,s)) w (.returned (.tuple #[.iface i y,.slice am s.marks.length cm,.int .i64 0,.int .i64 0])) w8 from⟨G,_,_,_,rfl,J,H,I⟩);clear hR h8 f8 J H I G o c0 d0 c7 S U V d7 W Y Z;go_wp2;refine leaves_cons (f:=203) (args:= #[.pointer (some ⟨w.heap.size,0,none⟩),.pointer (some ⟨w.heap.size+1,0,none⟩),.pointer (some ⟨w.heap.size+1+1,0,none⟩),.pointer (some ⟨w.heap.size+1+1+1,0,none⟩)]) (by simp) (by simp[go_sem]) ?_;refine(Zho _ _ _ _ _).mono ?_;rintro e u' w9 ⟨rfl,rfl,rfl⟩;simp[Leaves,settle,results,Tryz.results179,go_sem,k0,k1,k2,k3];exact HA.out
end Go.Proofs.YtkfddjopbocpkaaGreatDoor
