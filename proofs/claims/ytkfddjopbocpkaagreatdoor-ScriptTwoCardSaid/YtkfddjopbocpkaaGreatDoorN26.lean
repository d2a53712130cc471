/- Lemmas of this claim. -/
import Derived.Test.YtkfddjopbocpkaaGreatDoorN23
import Derived.Test.YtkfddjopbocpkaaGreatDoorN25
set_option linter.unusedVariables false
set_option linter.unusedSimpArgs false
set_option maxRecDepth 100000
set_option maxHeartbeats 4000000
namespace Go.Proofs.YtkfddjopbocpkaaGreatDoor
open Go.Lib (hid)
open Go.RowKit
theorem ZaS{w:World}{b:Nat}{v0 v1 v2 v3 v4 v5 v6 v7 v8 v9 v10 v11 v12 v13 v14 v15 v16 v17 v18 v19:Value}{T:TypeId}(h:w.heap[b]? =some (.cells #[v0,v1,v2,v3,v4,v5,v6,v7,v8,v9,v10,v11,v12,v13,v14,v15,v16,v17,v18,v19] T (0,0))):∀w',Fr nob w w'→
 w'.cell? ⟨b,0,none⟩=some v0∧w'.cell? ⟨b,1,none⟩=some v1∧w'.cell? ⟨b,2,none⟩=some v2∧w'.cell? ⟨b,3,none⟩=some v3∧w'.cell? ⟨b,4,none⟩=some v4∧w'.cell? ⟨b,5,none⟩=some v5∧w'.cell? ⟨b,6,none⟩=some v6∧w'.cell? ⟨b,7,none⟩=some v7∧w'.cell? ⟨b,8,none⟩=some v8∧w'.cell? ⟨b,9,none⟩=some v9∧w'.cell? ⟨b,10,none⟩=some v10∧w'.cell? ⟨b,11,none⟩=some v11∧w'.cell? ⟨b,12,none⟩=some v12∧w'.cell? ⟨b,13,none⟩=some v13∧w'.cell? ⟨b,14,none⟩=some v14∧w'.cell? ⟨b,15,none⟩=some v15∧w'.cell? ⟨b,16,none⟩=some v16∧w'.cell? ⟨b,17,none⟩=some v17∧w'.cell? ⟨b,18,none⟩=some v18∧w'.cell? ⟨b,19,none⟩=some v19:=fun _ f=>by
 have h':=f.heap h (fun x=>x);exact⟨cell_at h' rfl,cell_at h' rfl,cell_at h' rfl,cell_at h' rfl,cell_at h' rfl,cell_at h' rfl,cell_at h' rfl,cell_at h' rfl,cell_at h' rfl,cell_at h' rfl,cell_at h' rfl,cell_at h' rfl,cell_at h' rfl,cell_at h' rfl,cell_at h' rfl,cell_at h' rfl,cell_at h' rfl,cell_at h' rfl,cell_at h' rfl,cell_at h' rfl⟩
theorem Zp1(ms:List Prt)(k:Nat)(hk:k<ms.length):(pC ms)[k*2]? =some (.int .i64 ms[k].1)∧(pC ms)[k*2+1]? =some (.string ⟨ms[k].2.toArray⟩):=by
 induction ms generalizing k with
 |nil=>simp at hk
 |cons m r ih=>
  have e:pC (m::r)=.int .i64 m.1:: .string ⟨m.2.toArray⟩::pC r:=rfl;cases k with
  |zero=>rw[e];exact⟨rfl,rfl⟩
  |succ k=>
   rw[e,show(k+1)*2=k*2+2 by omega];simp only[List.length_cons]at hk;exact ih k (by omega)
theorem OwP.get{w:World}{ms:List Prt}{v:Value}(h:OwP w ms v){k:Nat}(hk:k<ms.length):
 ∃g cap,v=.slice (some ⟨g,0,none⟩) ms.length cap∧g<w.heap.size∧w.cell? ⟨g,k*2,none⟩=some (.int .i64 ms[k].1)∧w.cell? ⟨g,k*2+1,none⟩=some (.string ⟨ms[k].2.toArray⟩):=by
 have hl:=Zcd ms;unfold OwP at h;obtain⟨a,c,rfl⟩:=Zb h;rcases h.2 with⟨e,hn⟩|⟨r,cap,cur,e,_,hr,_⟩
 ·omega
 ·injection e with e1 e2 e3;subst e1;exact⟨r,c,rfl,lt_heap hr,(h.cellAt (k*2) (by omega)).trans (Zp1 ms k hk).1,(h.cellAt (k*2+1) (by omega)).trans (Zp1 ms k hk).2⟩
theorem Zh0(l:List Prt)(u v:Value)(w:World)(hl:l.length≤1000000)(hu:OwP w l u)(hv:OwP w l v):
 Calls Tryz.prog 34 #[u,v] w fun e w'=>e=.returned (.bool true)∧Fr nob w w':=by
 have HU:=hid hu;have HV:=hid hv;obtain⟨a1,c1,rfl⟩:=Zb hu;obtain⟨a2,c2,rfl⟩:=Zb hv;clear hu hv;go_enter Tryz.func34,Tryz.ntmps34;go_wp2_with fail
 go_loopw [13] (fun j wr=>∃k:Nat,j=.int .i64 k∧k≤l.length∧Fr nob w wr) (fun j _=>l.length-(intOf j).toNat)
 case atStart=>exact⟨0,rfl,Nat.zero_le _,Fr.refl _ _⟩
 case round=>
  obtain⟨k,rfl,hk,fr⟩:=hrel;have FR:=hid fr;by_cases hlt:k<l.length
  ·obtain⟨g1,cp1,e1,_,q1,q2⟩:=HU.out.get hlt;obtain⟨g2,cp2,e2,_,q3,q4⟩:=HV.out.get hlt;injection e1 with e1 _ e1';injection e2 with e2 _ e2';subst e1;subst e2;subst e1';subst e2';have p1:=fr.cell q1 (fun x=>x);have p2:=fr.cell q2 (fun x=>x);have p3:=fr.cell q3 (fun x=>x);have p4:=fr.cell q4 (fun x=>x);obtain⟨⟨m1,m2⟩,hm⟩:∃m,l[k]=m:=⟨_,rfl⟩;rw[hm]at p1 p2 p3 p4;have rq:∀w',Fr nob wr w'→w'.cell? ⟨g1,k*2,none⟩=some (.int .i64 m1)∧w'.cell? ⟨g1,k*2+1,none⟩=some (.string ⟨m2.toArray⟩)∧w'.cell? ⟨g2,k*2,none⟩=some (.int .i64 m1)∧w'.cell? ⟨g2,k*2+1,none⟩=some (.string ⟨m2.toArray⟩):=
    fun _ f=>⟨f.cell p1 (fun x=>x),f.cell p2 (fun x=>x),f.cell p3 (fun x=>x),f.cell p4 (fun x=>x)⟩
   clear q1 q2 q3 q4 fr hm p1 p2 p3 p4;go_wp2_with fail;refine region_fr 8 (by kernel_rfl) (by kernel_rfl) ?_;simp only[List.take_succ_cons,List.take_zero,List.drop_succ_cons,List.drop_zero]
   repeat(go_big_quiet_step (fail))
   refine wpQuiet_nil ?_;intro wC fC;have FC:=hid (FR.out.trans' fC);clear fC;go_wp2;go_roundw
   case rel=>exact⟨k+1,by go_num,by omega,FC.out⟩
   case measure=>simp[intOf];omega
  ·obtain rfl:k=l.length:=by omega
   clear fr;go_wp2;go_ret;exact⟨rfl,FR.out⟩
def CV.same(a b:CV):Prop:=GV.same a.guard b.guard∧a.name=b.name∧a.arg=b.arg∧a.table=b.table∧a.sub.tree.norm=b.sub.tree.norm∧a.sub.nth=b.sub.nth∧a.sub.all=b.sub.all∧a.sub.print=b.sub.print∧a.sub.file=b.sub.file∧a.sub.parts=b.sub.parts
def CV.few(a:CV):Prop:=a.guard.a.tree.size≤3000000∧a.guard.b.tree.size≤3000000∧a.sub.tree.size≤3000000∧a.sub.parts.length≤1000000
theorem C14.of{w:World}{g h:Nat}{a0 a1 a2 a3 a4 a5 a6 b0 b1 b2 b3 b4 b5 b6 c0 c1 c2 c3 c4 c5 c6 c7 c8 c9 c10 c11 d0 d1 d2 d3 d4 d5 d6 d7 d8 d9 d10 d11 e f:Value}{T:TypeId}(hg:w.heap[g]? =some (.cells #[c0,c1,c2,c3,c4,c5,c6,c7,c8,c9,c10,c11,a0,a1,a2,a3,a4,a5,a6,e] T (0,0)))(hh:w.heap[h]? =some (.cells #[d0,d1,d2,d3,d4,d5,d6,d7,d8,d9,d10,d11,b0,b1,b2,b3,b4,b5,b6,f] T (0,0))):
 w.cell? ⟨g,12,none⟩=some a0∧w.cell? ⟨g,13,none⟩=some a1∧w.cell? ⟨g,14,none⟩=some a2∧w.cell? ⟨g,15,none⟩=some a3∧w.cell? ⟨g,16,none⟩=some a4∧w.cell? ⟨g,17,none⟩=some a5∧w.cell? ⟨g,18,none⟩=some a6∧w.cell? ⟨h,12,none⟩=some b0∧w.cell? ⟨h,13,none⟩=some b1∧w.cell? ⟨h,14,none⟩=some b2∧w.cell? ⟨h,15,none⟩=some b3∧w.cell? ⟨h,16,none⟩=some b4∧w.cell? ⟨h,17,none⟩=some b5∧w.cell? ⟨h,18,none⟩=some b6:=⟨cell_at hg rfl,cell_at hg rfl,cell_at hg rfl,cell_at hg rfl,cell_at hg rfl,cell_at hg rfl,cell_at hg rfl,cell_at hh rfl,cell_at hh rfl,cell_at hh rfl,cell_at hh rfl,cell_at hh rfl,cell_at hh rfl,cell_at hh rfl⟩
theorem C14.drew{w:World}{g h:Nat}{a0 a1 a2 a3 a4 a5 a6 b0 b1 b2 b3 b4 b5 b6:Value}(q:w.cell? ⟨g,12,none⟩=some a0∧w.cell? ⟨g,13,none⟩=some a1∧w.cell? ⟨g,14,none⟩=some a2∧w.cell? ⟨g,15,none⟩=some a3∧w.cell? ⟨g,16,none⟩=some a4∧w.cell? ⟨g,17,none⟩=some a5∧w.cell? ⟨g,18,none⟩=some a6∧w.cell? ⟨h,12,none⟩=some b0∧w.cell? ⟨h,13,none⟩=some b1∧w.cell? ⟨h,14,none⟩=some b2∧w.cell? ⟨h,15,none⟩=some b3∧w.cell? ⟨h,16,none⟩=some b4∧w.cell? ⟨h,17,none⟩=some b5∧w.cell? ⟨h,18,none⟩=some b6):
 w.drew.cell? ⟨g,12,none⟩=some a0∧w.drew.cell? ⟨g,13,none⟩=some a1∧w.drew.cell? ⟨g,14,none⟩=some a2∧w.drew.cell? ⟨g,15,none⟩=some a3∧w.drew.cell? ⟨g,16,none⟩=some a4∧w.drew.cell? ⟨g,17,none⟩=some a5∧w.drew.cell? ⟨g,18,none⟩=some a6∧w.drew.cell? ⟨h,12,none⟩=some b0∧w.drew.cell? ⟨h,13,none⟩=some b1∧w.drew.cell? ⟨h,14,none⟩=some b2∧w.drew.cell? ⟨h,15,none⟩=some b3∧w.drew.cell? ⟨h,16,none⟩=some b4∧w.drew.cell? ⟨h,17,none⟩=some b5∧w.drew.cell? ⟨h,18,none⟩=some b6:=by
 obtain⟨q0,q1,q2,q3,q4,q5,q6,q7,q8,q9,q10,q11,q12,q13⟩:=q;exact⟨q0,q1,q2,q3,q4,q5,q6,q7,q8,q9,q10,q11,q12,q13⟩
theorem C14.alloc{w:World}{g h:Nat}{a0 a1 a2 a3 a4 a5 a6 b0 b1 b2 b3 b4 b5 b6:Value}(q:w.cell? ⟨g,12,none⟩=some a0∧w.cell? ⟨g,13,none⟩=some a1∧w.cell? ⟨g,14,none⟩=some a2∧w.cell? ⟨g,15,none⟩=some a3∧w.cell? ⟨g,16,none⟩=some a4∧w.cell? ⟨g,17,none⟩=some a5∧w.cell? ⟨g,18,none⟩=some a6∧w.cell? ⟨h,12,none⟩=some b0∧w.cell? ⟨h,13,none⟩=some b1∧w.cell? ⟨h,14,none⟩=some b2∧w.cell? ⟨h,15,none⟩=some b3∧w.cell? ⟨h,16,none⟩=some b4∧w.cell? ⟨h,17,none⟩=some b5∧w.cell? ⟨h,18,none⟩=some b6)(o:Obj):
 (w.alloc o).cell? ⟨g,12,none⟩=some a0∧(w.alloc o).cell? ⟨g,13,none⟩=some a1∧(w.alloc o).cell? ⟨g,14,none⟩=some a2∧(w.alloc o).cell? ⟨g,15,none⟩=some a3∧(w.alloc o).cell? ⟨g,16,none⟩=some a4∧(w.alloc o).cell? ⟨g,17,none⟩=some a5∧(w.alloc o).cell? ⟨g,18,none⟩=some a6∧(w.alloc o).cell? ⟨h,12,none⟩=some b0∧(w.alloc o).cell? ⟨h,13,none⟩=some b1∧(w.alloc o).cell? ⟨h,14,none⟩=some b2∧(w.alloc o).cell? ⟨h,15,none⟩=some b3∧(w.alloc o).cell? ⟨h,16,none⟩=some b4∧(w.alloc o).cell? ⟨h,17,none⟩=some b5∧(w.alloc o).cell? ⟨h,18,none⟩=some b6:=by
 obtain⟨q0,q1,q2,q3,q4,q5,q6,q7,q8,q9,q10,q11,q12,q13⟩:=q;exact⟨cell_alloc q0 o,cell_alloc q1 o,cell_alloc q2 o,cell_alloc q3 o,cell_alloc q4 o,cell_alloc q5 o,cell_alloc q6 o,cell_alloc q7 o,cell_alloc q8 o,cell_alloc q9 o,cell_alloc q10 o,cell_alloc q11 o,cell_alloc q12 o,cell_alloc q13 o⟩
theorem C14.set{w:World}{g h:Nat}{a0 a1 a2 a3 a4 a5 a6 b0 b1 b2 b3 b4 b5 b6:Value}(q:w.cell? ⟨g,12,none⟩=some a0∧w.cell? ⟨g,13,none⟩=some a1∧w.cell? ⟨g,14,none⟩=some a2∧w.cell? ⟨g,15,none⟩=some a3∧w.cell? ⟨g,16,none⟩=some a4∧w.cell? ⟨g,17,none⟩=some a5∧w.cell? ⟨g,18,none⟩=some a6∧w.cell? ⟨h,12,none⟩=some b0∧w.cell? ⟨h,13,none⟩=some b1∧w.cell? ⟨h,14,none⟩=some b2∧w.cell? ⟨h,15,none⟩=some b3∧w.cell? ⟨h,16,none⟩=some b4∧w.cell? ⟨h,17,none⟩=some b5∧w.cell? ⟨h,18,none⟩=some b6){k j:Nat}(hg:k≠g)(hh:k≠h)(u:Value):
 (w.setCell ⟨k,j,none⟩ u).cell? ⟨g,12,none⟩=some a0∧(w.setCell ⟨k,j,none⟩ u).cell? ⟨g,13,none⟩=some a1∧(w.setCell ⟨k,j,none⟩ u).cell? ⟨g,14,none⟩=some a2∧(w.setCell ⟨k,j,none⟩ u).cell? ⟨g,15,none⟩=some a3∧(w.setCell ⟨k,j,none⟩ u).cell? ⟨g,16,none⟩=some a4∧(w.setCell ⟨k,j,none⟩ u).cell? ⟨g,17,none⟩=some a5∧(w.setCell ⟨k,j,none⟩ u).cell? ⟨g,18,none⟩=some a6∧(w.setCell ⟨k,j,none⟩ u).cell? ⟨h,12,none⟩=some b0∧(w.setCell ⟨k,j,none⟩ u).cell? ⟨h,13,none⟩=some b1∧(w.setCell ⟨k,j,none⟩ u).cell? ⟨h,14,none⟩=some b2∧(w.setCell ⟨k,j,none⟩ u).cell? ⟨h,15,none⟩=some b3∧(w.setCell ⟨k,j,none⟩ u).cell? ⟨h,16,none⟩=some b4∧(w.setCell ⟨k,j,none⟩ u).cell? ⟨h,17,none⟩=some b5∧(w.setCell ⟨k,j,none⟩ u).cell? ⟨h,18,none⟩=some b6:=by
 obtain⟨q0,q1,q2,q3,q4,q5,q6,q7,q8,q9,q10,q11,q12,q13⟩:=q;exact⟨Zm q0 hg,Zm q1 hg,Zm q2 hg,Zm q3 hg,Zm q4 hg,Zm q5 hg,Zm q6 hg,Zm q7 hh,Zm q8 hh,Zm q9 hh,Zm q10 hh,Zm q11 hh,Zm q12 hh,Zm q13 hh⟩
theorem Zh1{q1 q2:Nat}{ga gb:GV}{n1:UInt8}{r1 x1 x2 f1 b1:List UInt8}{t1 t2:Nd}{p1:List Prt}{m1:Int}{l1 i1:Bool}{u1 u2 u4 u5:Value}{pa1 pa2:Option Addr}{pc1 pc2:Nat}(w:World)(o1:u1.oneCell'=true)(o2:u2.oneCell'=true)(o4:u4.oneCell'=true)(o5:u5.oneCell'=true)
 (HG:Hid (∀w':World,Fr nob w w'→Calls Tryz.prog 32 #[.agg (gcell ga u1 u2),.agg (gcell gb u4 u5)] w' fun e w''=>∃r:Bool,e=.returned (.bool r)∧(r=true↔GV.same ga gb)∧Fr nob w' w''))
 (HT:Hid (∀w':World,Fr nob w w'→Calls Tryz.prog 33 #[.nilIface,.nilIface] w' (Zif t1 t2 w')))
 (HP:Hid (∀w':World,Fr nob w w'→Calls Tryz.prog 34 #[.slice pa1 p1.length pc1,.slice pa2 p1.length pc2] w' fun e w''=>e=.returned (.bool true)∧Fr nob w' w''))
 (H1:Hid (GV.same ga gb)) (H5:Hid (t1.norm=t2.norm)):
 Calls Tryz.prog 16 #[.agg #[.int .i64 (q1:Nat),.int .i64 ga.a.kind,.int .i64 ga.a.line,.string ⟨ga.a.text.toArray⟩,u1,.int .i64 ga.b.kind,.int .i64 ga.b.line,.string ⟨ga.b.text.toArray⟩,u2,.bool ga.no,.int .u8 (n1.toNat:Int),.string ⟨r1.toArray⟩,.string ⟨x1.toArray⟩,.nilIface,.slice pa1 p1.length pc1,.int .i64 m1,.bool l1,.bool i1,.string ⟨f1.toArray⟩,.string ⟨b1.toArray⟩],.agg #[.int .i64 (q2:Nat),.int .i64 gb.a.kind,.int .i64 gb.a.line,.string ⟨gb.a.text.toArray⟩,u4,.int .i64 gb.b.kind,.int .i64 gb.b.line,.string ⟨gb.b.text.toArray⟩,u5,.bool gb.no,.int .u8 (n1.toNat:Int),.string ⟨r1.toArray⟩,.string ⟨x2.toArray⟩,.nilIface,.slice pa2 p1.length pc2,.int .i64 m1,.bool l1,.bool i1,.string ⟨f1.toArray⟩,.string ⟨b1.toArray⟩]] w fun e w'=>e=.returned (.bool true)∧Fr nob w w':=by
 obtain⟨w1,hw1⟩:∃w1,w1=w.alloc (.cells #[.int .i64 (q1:Nat),.int .i64 ga.a.kind,.int .i64 ga.a.line,.string ⟨ga.a.text.toArray⟩,u1,.int .i64 ga.b.kind,.int .i64 ga.b.line,.string ⟨ga.b.text.toArray⟩,u2,.bool ga.no,.int .u8 (n1.toNat:Int),.string ⟨r1.toArray⟩,.string ⟨x1.toArray⟩,.nilIface,.slice pa1 p1.length pc1,.int .i64 m1,.bool l1,.bool i1,.string ⟨f1.toArray⟩,.string ⟨b1.toArray⟩] 35):=⟨_,rfl⟩;have hs1:w1.heap.size=w.heap.size+1:=by rw[hw1];simp
 obtain⟨w2,hw2⟩:∃w2,w2=w1.alloc (.cells #[.int .i64 (q2:Nat),.int .i64 gb.a.kind,.int .i64 gb.a.line,.string ⟨gb.a.text.toArray⟩,u4,.int .i64 gb.b.kind,.int .i64 gb.b.line,.string ⟨gb.b.text.toArray⟩,u5,.bool gb.no,.int .u8 (n1.toNat:Int),.string ⟨r1.toArray⟩,.string ⟨x2.toArray⟩,.nilIface,.slice pa2 p1.length pc2,.int .i64 m1,.bool l1,.bool i1,.string ⟨f1.toArray⟩,.string ⟨b1.toArray⟩] 35):=⟨_,rfl⟩;have hs2:w2.heap.size=w.heap.size+2:=by rw[hw2];simp;omega
 have f1':Fr nob w w1:=by rw[hw1];exact(Fr.refl _ _).alloc _
 have f2':Fr nob w1 w2:=by rw[hw2];exact(Fr.refl _ _).alloc _
 have hz1:=f2'.heap (show w1.heap[w.heap.size]? =some (.cells #[.int .i64 (q1:Nat),.int .i64 ga.a.kind,.int .i64 ga.a.line,.string ⟨ga.a.text.toArray⟩,u1,.int .i64 ga.b.kind,.int .i64 ga.b.line,.string ⟨ga.b.text.toArray⟩,u2,.bool ga.no,.int .u8 (n1.toNat:Int),.string ⟨r1.toArray⟩,.string ⟨x1.toArray⟩,.nilIface,.slice pa1 p1.length pc1,.int .i64 m1,.bool l1,.bool i1,.string ⟨f1.toArray⟩,.string ⟨b1.toArray⟩] 35 (0,0)) by rw[hw1];exact newAt _ _) (fun x=>x);have hz2:w2.heap[w.heap.size+1]? =some (.cells #[.int .i64 (q2:Nat),.int .i64 gb.a.kind,.int .i64 gb.a.line,.string ⟨gb.a.text.toArray⟩,u4,.int .i64 gb.b.kind,.int .i64 gb.b.line,.string ⟨gb.b.text.toArray⟩,u5,.bool gb.no,.int .u8 (n1.toNat:Int),.string ⟨r1.toArray⟩,.string ⟨x2.toArray⟩,.nilIface,.slice pa2 p1.length pc2,.int .i64 m1,.bool l1,.bool i1,.string ⟨f1.toArray⟩,.string ⟨b1.toArray⟩] 35 (0,0)):=by rw[hw2,←hs1];exact newAt _ _
 have HW1:=hid hw1;have HW2:=hid hw2;have HS1:=hid hs1;have HS2:=hid hs2;have F2:=hid (f1'.trans' f2');have Z1:=hid hz1;have Z2:=hid hz2;have ra:=ZaS hz1;have rb:=ZaS hz2;clear hw1 hw2 hs1 hs2 f1' f2' hz1 hz2;go_enter Tryz.func16,Tryz.ntmps16;go_wp2_with(first|rw[←HW1.out]|rw[HS1.out]|rw[←HW2.out]);have HQ:=hid (show w2.cell? ⟨w.heap.size,12,none⟩=some (.string ⟨x1.toArray⟩)∧w2.cell? ⟨w.heap.size,13,none⟩=some (.nilIface)∧w2.cell? ⟨w.heap.size,14,none⟩=some (.slice pa1 p1.length pc1)∧w2.cell? ⟨w.heap.size,15,none⟩=some (.int .i64 m1)∧w2.cell? ⟨w.heap.size,16,none⟩=some (.bool l1)∧w2.cell? ⟨w.heap.size,17,none⟩=some (.bool i1)∧w2.cell? ⟨w.heap.size,18,none⟩=some (.string ⟨f1.toArray⟩)∧w2.cell? ⟨w.heap.size+1,12,none⟩=some (.string ⟨x2.toArray⟩)∧w2.cell? ⟨w.heap.size+1,13,none⟩=some (.nilIface)∧w2.cell? ⟨w.heap.size+1,14,none⟩=some (.slice pa2 p1.length pc2)∧w2.cell? ⟨w.heap.size+1,15,none⟩=some (.int .i64 m1)∧w2.cell? ⟨w.heap.size+1,16,none⟩=some (.bool l1)∧w2.cell? ⟨w.heap.size+1,17,none⟩=some (.bool i1)∧w2.cell? ⟨w.heap.size+1,18,none⟩=some (.string ⟨f1.toArray⟩)from C14.of Z1.out Z2.out)
 go_region_held3 (fun w'=>w'.cell? ⟨w.heap.size,12,none⟩=some (.string ⟨x1.toArray⟩)∧w'.cell? ⟨w.heap.size,13,none⟩=some (.nilIface)∧w'.cell? ⟨w.heap.size,14,none⟩=some (.slice pa1 p1.length pc1)∧w'.cell? ⟨w.heap.size,15,none⟩=some (.int .i64 m1)∧w'.cell? ⟨w.heap.size,16,none⟩=some (.bool l1)∧w'.cell? ⟨w.heap.size,17,none⟩=some (.bool i1)∧w'.cell? ⟨w.heap.size,18,none⟩=some (.string ⟨f1.toArray⟩)∧w'.cell? ⟨w.heap.size+1,12,none⟩=some (.string ⟨x2.toArray⟩)∧w'.cell? ⟨w.heap.size+1,13,none⟩=some (.nilIface)∧w'.cell? ⟨w.heap.size+1,14,none⟩=some (.slice pa2 p1.length pc2)∧w'.cell? ⟨w.heap.size+1,15,none⟩=some (.int .i64 m1)∧w'.cell? ⟨w.heap.size+1,16,none⟩=some (.bool l1)∧w'.cell? ⟨w.heap.size+1,17,none⟩=some (.bool i1)∧w'.cell? ⟨w.heap.size+1,18,none⟩=some (.string ⟨f1.toArray⟩)) (repeat(first|(with_reducible exact HQ.out)|(with_reducible refine C14.drew ?_)|(with_reducible refine C14.alloc ?_ _)|(with_reducible refine C14.set ?_ (by rw[HS2.out];omega) (by rw[HS2.out];omega) _))) (fail)
 ·obtain⟨w3,hw3⟩:∃w3,w3=((w2.alloc (.cells #[.string ⟨x1.toArray⟩,.nilIface,.slice pa1 p1.length pc1,.int .i64 m1,.bool l1,.bool i1,.string ⟨f1.toArray⟩] 33)).alloc (.cells #[.string ⟨x2.toArray⟩,.nilIface,.slice pa2 p1.length pc2,.int .i64 m1,.bool l1,.bool i1,.string ⟨f1.toArray⟩] 33)).drew:=⟨_,rfl⟩;rw[←hw3];have f3:Fr nob w2 w3:=by rw[hw3];exact(((Fr.refl nob w2).alloc _).alloc _).drew
  have hx:w3.heap[w2.heap.size]? =some (.cells #[.string ⟨x1.toArray⟩,.nilIface,.slice pa1 p1.length pc1,.int .i64 m1,.bool l1,.bool i1,.string ⟨f1.toArray⟩] 33 (0,0)):=by rw[hw3];exact Zq (Ze _ (newAt _ _))
  have hy:w3.heap[w2.heap.size+1]? =some (.cells #[.string ⟨x2.toArray⟩,.nilIface,.slice pa2 p1.length pc2,.int .i64 m1,.bool l1,.bool i1,.string ⟨f1.toArray⟩] 33 (0,0)):=by rw[hw3];exact Zq (Zg _ _ _ (by simp))
  have rx:=ZG hx;have ry:=ZG hy;have rA:=ZaS (f3.heap Z1.out (fun x=>x));have rB:=ZaS (f3.heap Z2.out (fun x=>x));have F3:=hid (F2.out.trans' f3);clear hw3 f3 hx hy ra rb;go_wp2_with fail;refine(HG.out _ F3.out).mono ?_;rintro e w4 ⟨r,rfl,hr,f4⟩;obtain rfl:r=true:=hr.2 H1.out;have F4:=hid (F3.out.trans' f4);clear hr;go_wp2_with fail;refine(HT.out _ F4.out).mono ?_;rintro e w5 ⟨r,rfl,hr,f5⟩;obtain rfl:r=true:=hr.2 H5.out;have F5:=hid (F4.out.trans' f5);have g5:=f4.trans' f5;clear hr f4 f5;go_wp2_with fail;refine(HP.out _ F5.out).mono ?_;rintro e w6 ⟨rfl,f6⟩;have F6:=hid (F5.out.trans' f6);go_wp2;go_ret;exact⟨rfl,F6.out⟩
 ·obtain⟨w3,hw3⟩:∃w3,w3=((w2.alloc (.cells #[.string ⟨x2.toArray⟩,.nilIface,.slice pa2 p1.length pc2,.int .i64 m1,.bool l1,.bool i1,.string ⟨f1.toArray⟩] 33)).alloc (.cells #[.string ⟨x1.toArray⟩,.nilIface,.slice pa1 p1.length pc1,.int .i64 m1,.bool l1,.bool i1,.string ⟨f1.toArray⟩] 33)).drew:=⟨_,rfl⟩;rw[←hw3];have f3:Fr nob w2 w3:=by rw[hw3];exact(((Fr.refl nob w2).alloc _).alloc _).drew
  have hx:w3.heap[w2.heap.size]? =some (.cells #[.string ⟨x2.toArray⟩,.nilIface,.slice pa2 p1.length pc2,.int .i64 m1,.bool l1,.bool i1,.string ⟨f1.toArray⟩] 33 (0,0)):=by rw[hw3];exact Zq (Ze _ (newAt _ _))
  have hy:w3.heap[w2.heap.size+1]? =some (.cells #[.string ⟨x1.toArray⟩,.nilIface,.slice pa1 p1.length pc1,.int .i64 m1,.bool l1,.bool i1,.string ⟨f1.toArray⟩] 33 (0,0)):=by rw[hw3];exact Zq (Zg _ _ _ (by simp))
  have rx:=ZG hx;have ry:=ZG hy;have rA:=ZaS (f3.heap Z1.out (fun x=>x));have rB:=ZaS (f3.heap Z2.out (fun x=>x));have F3:=hid (F2.out.trans' f3);clear hw3 f3 hx hy ra rb;go_wp2_with fail;refine(HG.out _ F3.out).mono ?_;rintro e w4 ⟨r,rfl,hr,f4⟩;obtain rfl:r=true:=hr.2 H1.out;have F4:=hid (F3.out.trans' f4);clear hr;go_wp2_with fail;refine(HT.out _ F4.out).mono ?_;rintro e w5 ⟨r,rfl,hr,f5⟩;obtain rfl:r=true:=hr.2 H5.out;have F5:=hid (F4.out.trans' f5);have g5:=f4.trans' f5;clear hr f4 f5;go_wp2_with fail;refine(HP.out _ F5.out).mono ?_;rintro e w6 ⟨rfl,f6⟩;have F6:=hid (F5.out.trans' f6);go_wp2;go_ret;exact⟨rfl,F6.out⟩
theorem Zh2{i3:TypeId}{y3:Value}{i6:TypeId}{y6:Value}{q1 q2:Nat}{ga gb:GV}{n1:UInt8}{r1 x1 x2 f1 b1:List UInt8}{t1 t2:Nd}{p1:List Prt}{m1:Int}{l1 i1:Bool}{u1 u2 u4 u5:Value}{pa1 pa2:Option Addr}{pc1 pc2:Nat}(w:World)(o1:u1.oneCell'=true)(o2:u2.oneCell'=true)(o4:u4.oneCell'=true)(o5:u5.oneCell'=true)
 (HG:Hid (∀w':World,Fr nob w w'→Calls Tryz.prog 32 #[.agg (gcell ga u1 u2),.agg (gcell gb u4 u5)] w' fun e w''=>∃r:Bool,e=.returned (.bool r)∧(r=true↔GV.same ga gb)∧Fr nob w' w''))
 (HT:Hid (∀w':World,Fr nob w w'→Calls Tryz.prog 33 #[(.iface i3 y3),(.iface i6 y6)] w' (Zif t1 t2 w')))
 (HP:Hid (∀w':World,Fr nob w w'→Calls Tryz.prog 34 #[.slice pa1 p1.length pc1,.slice pa2 p1.length pc2] w' fun e w''=>e=.returned (.bool true)∧Fr nob w' w''))
 (H1:Hid (GV.same ga gb)) (H5:Hid (t1.norm=t2.norm)):
 Calls Tryz.prog 16 #[.agg #[.int .i64 (q1:Nat),.int .i64 ga.a.kind,.int .i64 ga.a.line,.string ⟨ga.a.text.toArray⟩,u1,.int .i64 ga.b.kind,.int .i64 ga.b.line,.string ⟨ga.b.text.toArray⟩,u2,.bool ga.no,.int .u8 (n1.toNat:Int),.string ⟨r1.toArray⟩,.string ⟨x1.toArray⟩,(.iface i3 y3),.slice pa1 p1.length pc1,.int .i64 m1,.bool l1,.bool i1,.string ⟨f1.toArray⟩,.string ⟨b1.toArray⟩],.agg #[.int .i64 (q2:Nat),.int .i64 gb.a.kind,.int .i64 gb.a.line,.string ⟨gb.a.text.toArray⟩,u4,.int .i64 gb.b.kind,.int .i64 gb.b.line,.string ⟨gb.b.text.toArray⟩,u5,.bool gb.no,.int .u8 (n1.toNat:Int),.string ⟨r1.toArray⟩,.string ⟨x2.toArray⟩,(.iface i6 y6),.slice pa2 p1.length pc2,.int .i64 m1,.bool l1,.bool i1,.string ⟨f1.toArray⟩,.string ⟨b1.toArray⟩]] w fun e w'=>e=.returned (.bool true)∧Fr nob w w':=by
 obtain⟨w1,hw1⟩:∃w1,w1=w.alloc (.cells #[.int .i64 (q1:Nat),.int .i64 ga.a.kind,.int .i64 ga.a.line,.string ⟨ga.a.text.toArray⟩,u1,.int .i64 ga.b.kind,.int .i64 ga.b.line,.string ⟨ga.b.text.toArray⟩,u2,.bool ga.no,.int .u8 (n1.toNat:Int),.string ⟨r1.toArray⟩,.string ⟨x1.toArray⟩,(.iface i3 y3),.slice pa1 p1.length pc1,.int .i64 m1,.bool l1,.bool i1,.string ⟨f1.toArray⟩,.string ⟨b1.toArray⟩] 35):=⟨_,rfl⟩;have hs1:w1.heap.size=w.heap.size+1:=by rw[hw1];simp
 obtain⟨w2,hw2⟩:∃w2,w2=w1.alloc (.cells #[.int .i64 (q2:Nat),.int .i64 gb.a.kind,.int .i64 gb.a.line,.string ⟨gb.a.text.toArray⟩,u4,.int .i64 gb.b.kind,.int .i64 gb.b.line,.string ⟨gb.b.text.toArray⟩,u5,.bool gb.no,.int .u8 (n1.toNat:Int),.string ⟨r1.toArray⟩,.string ⟨x2.toArray⟩,(.iface i6 y6),.slice pa2 p1.length pc2,.int .i64 m1,.bool l1,.bool i1,.string ⟨f1.toArray⟩,.string ⟨b1.toArray⟩] 35):=⟨_,rfl⟩;have hs2:w2.heap.size=w.heap.size+2:=by rw[hw2];simp;omega
 have f1':Fr nob w w1:=by rw[hw1];exact(Fr.refl _ _).alloc _
 have f2':Fr nob w1 w2:=by rw[hw2];exact(Fr.refl _ _).alloc _
 have hz1:=f2'.heap (show w1.heap[w.heap.size]? =some (.cells #[.int .i64 (q1:Nat),.int .i64 ga.a.kind,.int .i64 ga.a.line,.string ⟨ga.a.text.toArray⟩,u1,.int .i64 ga.b.kind,.int .i64 ga.b.line,.string ⟨ga.b.text.toArray⟩,u2,.bool ga.no,.int .u8 (n1.toNat:Int),.string ⟨r1.toArray⟩,.string ⟨x1.toArray⟩,(.iface i3 y3),.slice pa1 p1.length pc1,.int .i64 m1,.bool l1,.bool i1,.string ⟨f1.toArray⟩,.string ⟨b1.toArray⟩] 35 (0,0)) by rw[hw1];exact newAt _ _) (fun x=>x);have hz2:w2.heap[w.heap.size+1]? =some (.cells #[.int .i64 (q2:Nat),.int .i64 gb.a.kind,.int .i64 gb.a.line,.string ⟨gb.a.text.toArray⟩,u4,.int .i64 gb.b.kind,.int .i64 gb.b.line,.string ⟨gb.b.text.toArray⟩,u5,.bool gb.no,.int .u8 (n1.toNat:Int),.string ⟨r1.toArray⟩,.string ⟨x2.toArray⟩,(.iface i6 y6),.slice pa2 p1.length pc2,.int .i64 m1,.bool l1,.bool i1,.string ⟨f1.toArray⟩,.string ⟨b1.toArray⟩] 35 (0,0)):=by rw[hw2,←hs1];exact newAt _ _
 have HW1:=hid hw1;have HW2:=hid hw2;have HS1:=hid hs1;have HS2:=hid hs2;have F2:=hid (f1'.trans' f2');have Z1:=hid hz1;have Z2:=hid hz2;have ra:=ZaS hz1;have rb:=ZaS hz2;clear hw1 hw2 hs1 hs2 f1' f2' hz1 hz2;go_enter Tryz.func16,Tryz.ntmps16;go_wp2_with(first|rw[←HW1.out]|rw[HS1.out]|rw[←HW2.out]);have HQ:=hid (show w2.cell? ⟨w.heap.size,12,none⟩=some (.string ⟨x1.toArray⟩)∧w2.cell? ⟨w.heap.size,13,none⟩=some ((.iface i3 y3))∧w2.cell? ⟨w.heap.size,14,none⟩=some (.slice pa1 p1.length pc1)∧w2.cell? ⟨w.heap.size,15,none⟩=some (.int .i64 m1)∧w2.cell? ⟨w.heap.size,16,none⟩=some (.bool l1)∧w2.cell? ⟨w.heap.size,17,none⟩=some (.bool i1)∧w2.cell? ⟨w.heap.size,18,none⟩=some (.string ⟨f1.toArray⟩)∧w2.cell? ⟨w.heap.size+1,12,none⟩=some (.string ⟨x2.toArray⟩)∧w2.cell? ⟨w.heap.size+1,13,none⟩=some ((.iface i6 y6))∧w2.cell? ⟨w.heap.size+1,14,none⟩=some (.slice pa2 p1.length pc2)∧w2.cell? ⟨w.heap.size+1,15,none⟩=some (.int .i64 m1)∧w2.cell? ⟨w.heap.size+1,16,none⟩=some (.bool l1)∧w2.cell? ⟨w.heap.size+1,17,none⟩=some (.bool i1)∧w2.cell? ⟨w.heap.size+1,18,none⟩=some (.string ⟨f1.toArray⟩)from C14.of Z1.out Z2.out)
 go_region_held3 (fun w'=>w'.cell? ⟨w.heap.size,12,none⟩=some (.string ⟨x1.toArray⟩)∧w'.cell? ⟨w.heap.size,13,none⟩=some ((.iface i3 y3))∧w'.cell? ⟨w.heap.size,14,none⟩=some (.slice pa1 p1.length pc1)∧w'.cell? ⟨w.heap.size,15,none⟩=some (.int .i64 m1)∧w'.cell? ⟨w.heap.size,16,none⟩=some (.bool l1)∧w'.cell? ⟨w.heap.size,17,none⟩=some (.bool i1)∧w'.cell? ⟨w.heap.size,18,none⟩=some (.string ⟨f1.toArray⟩)∧w'.cell? ⟨w.heap.size+1,12,none⟩=some (.string ⟨x2.toArray⟩)∧w'.cell? ⟨w.heap.size+1,13,none⟩=some ((.iface i6 y6))∧w'.cell? ⟨w.heap.size+1,14,none⟩=some (.slice pa2 p1.length pc2)∧w'.cell? ⟨w.heap.size+1,15,none⟩=some (.int .i64 m1)∧w'.cell? ⟨w.heap.size+1,16,none⟩=some (.bool l1)∧w'.cell? ⟨w.heap.size+1,17,none⟩=some (.bool i1)∧w'.cell? ⟨w.heap.size+1,18,none⟩=some (.string ⟨f1.toArray⟩)) (repeat(first|(with_reducible exact HQ.out)|(with_reducible refine C14.drew ?_)|(with_reducible refine C14.alloc ?_ _)|(with_reducible refine C14.set ?_ (by rw[HS2.out];omega) (by rw[HS2.out];omega) _))) (fail)
 ·obtain⟨w3,hw3⟩:∃w3,w3=((w2.alloc (.cells #[.string ⟨x1.toArray⟩,(.iface i3 y3),.slice pa1 p1.length pc1,.int .i64 m1,.bool l1,.bool i1,.string ⟨f1.toArray⟩] 33)).alloc (.cells #[.string ⟨x2.toArray⟩,(.iface i6 y6),.slice pa2 p1.length pc2,.int .i64 m1,.bool l1,.bool i1,.string ⟨f1.toArray⟩] 33)).drew:=⟨_,rfl⟩;rw[←hw3];have f3:Fr nob w2 w3:=by rw[hw3];exact(((Fr.refl nob w2).alloc _).alloc _).drew
  have hx:w3.heap[w2.heap.size]? =some (.cells #[.string ⟨x1.toArray⟩,(.iface i3 y3),.slice pa1 p1.length pc1,.int .i64 m1,.bool l1,.bool i1,.string ⟨f1.toArray⟩] 33 (0,0)):=by rw[hw3];exact Zq (Ze _ (newAt _ _))
  have hy:w3.heap[w2.heap.size+1]? =some (.cells #[.string ⟨x2.toArray⟩,(.iface i6 y6),.slice pa2 p1.length pc2,.int .i64 m1,.bool l1,.bool i1,.string ⟨f1.toArray⟩] 33 (0,0)):=by rw[hw3];exact Zq (Zg _ _ _ (by simp))
  have rx:=ZG hx;have ry:=ZG hy;have rA:=ZaS (f3.heap Z1.out (fun x=>x));have rB:=ZaS (f3.heap Z2.out (fun x=>x));have F3:=hid (F2.out.trans' f3);clear hw3 f3 hx hy ra rb;go_wp2_with fail;refine(HG.out _ F3.out).mono ?_;rintro e w4 ⟨r,rfl,hr,f4⟩;obtain rfl:r=true:=hr.2 H1.out;have F4:=hid (F3.out.trans' f4);clear hr;go_wp2_with fail;refine(HT.out _ F4.out).mono ?_;rintro e w5 ⟨r,rfl,hr,f5⟩;obtain rfl:r=true:=hr.2 H5.out;have F5:=hid (F4.out.trans' f5);have g5:=f4.trans' f5;clear hr f4 f5;go_wp2_with fail;refine(HP.out _ F5.out).mono ?_;rintro e w6 ⟨rfl,f6⟩;have F6:=hid (F5.out.trans' f6);go_wp2;go_ret;exact⟨rfl,F6.out⟩
 ·obtain⟨w3,hw3⟩:∃w3,w3=((w2.alloc (.cells #[.string ⟨x2.toArray⟩,(.iface i6 y6),.slice pa2 p1.length pc2,.int .i64 m1,.bool l1,.bool i1,.string ⟨f1.toArray⟩] 33)).alloc (.cells #[.string ⟨x1.toArray⟩,(.iface i3 y3),.slice pa1 p1.length pc1,.int .i64 m1,.bool l1,.bool i1,.string ⟨f1.toArray⟩] 33)).drew:=⟨_,rfl⟩;rw[←hw3];have f3:Fr nob w2 w3:=by rw[hw3];exact(((Fr.refl nob w2).alloc _).alloc _).drew
  have hx:w3.heap[w2.heap.size]? =some (.cells #[.string ⟨x2.toArray⟩,(.iface i6 y6),.slice pa2 p1.length pc2,.int .i64 m1,.bool l1,.bool i1,.string ⟨f1.toArray⟩] 33 (0,0)):=by rw[hw3];exact Zq (Ze _ (newAt _ _))
  have hy:w3.heap[w2.heap.size+1]? =some (.cells #[.string ⟨x1.toArray⟩,(.iface i3 y3),.slice pa1 p1.length pc1,.int .i64 m1,.bool l1,.bool i1,.string ⟨f1.toArray⟩] 33 (0,0)):=by rw[hw3];exact Zq (Zg _ _ _ (by simp))
  have rx:=ZG hx;have ry:=ZG hy;have rA:=ZaS (f3.heap Z1.out (fun x=>x));have rB:=ZaS (f3.heap Z2.out (fun x=>x));have F3:=hid (F2.out.trans' f3);clear hw3 f3 hx hy ra rb;go_wp2_with fail;refine(HG.out _ F3.out).mono ?_;rintro e w4 ⟨r,rfl,hr,f4⟩;obtain rfl:r=true:=hr.2 H1.out;have F4:=hid (F3.out.trans' f4);clear hr;go_wp2_with fail;refine(HT.out _ F4.out).mono ?_;rintro e w5 ⟨r,rfl,hr,f5⟩;obtain rfl:r=true:=hr.2 H5.out;have F5:=hid (F4.out.trans' f5);have g5:=f4.trans' f5;clear hr f4 f5;go_wp2_with fail;refine(HP.out _ F5.out).mono ?_;rintro e w6 ⟨rfl,f6⟩;have F6:=hid (F5.out.trans' f6);go_wp2;go_ret;exact⟨rfl,F6.out⟩
theorem Zh3(a b:CV)(va vb:Value)(w:World)(sa:a.few)(sb:b.few)(ha:Zc2 nob w a va)(hb:Zc2 nob w b vb)(h:CV.same a b)(ht:a.sub.tree=b.sub.tree):
 Calls Tryz.prog 16 #[va,vb] w fun e w'=>e=.returned (.bool true)∧Fr nob w w':=by
 obtain⟨q1,ga,n1,r1,⟨x1,t1,p1,m1,l1,i1,f1⟩,b1⟩:=a;obtain⟨q2,gb,n2,r2,⟨x2,t2,p2,m2,l2,i2,f2⟩,b2⟩:=b;obtain⟨h1,h2,h3,h4,h5,h6,h7,h8,h9,h10⟩:=h;simp only at h1 h2 h3 h4 h5 h6 h7 h8 h9 h10 ht;subst h2;subst h3;subst h4;subst h6;subst h7;subst h8;subst h9;subst h10;subst ht;obtain⟨u1,u2,u3,pu,rfl,s1,s2,s3,po1⟩:=ha;obtain⟨u4,u5,u6,pv,rfl,s4,s5,s6,po2⟩:=hb;obtain⟨z1,z2,z3,z4⟩:=sa;obtain⟨z5,z6,z7,_⟩:=sb;simp only at s1 s2 s3 s4 s5 s6 po1 po2 z1 z2 z3 z4 z5 z6 z7;obtain⟨pa1,pc1,rfl⟩:=Zb po1.1;obtain⟨pa2,pc2,rfl⟩:=Zb po2.1;have HG:=hid (fun(w':World) (f:Fr nob w w')=>ZjC ga gb _ _ w' z1 z2 z5 z6 ⟨u1,u2,rfl,s1.on f,s2.on f⟩ ⟨u4,u5,rfl,s4.on f,s5.on f⟩);have HT:=hid (fun(w':World) (f:Fr nob w w')=>Zig 3000000 t1 t1 u3 u6 w' z3 z3 z7 (s3.on f) (s6.on f));have HP:=hid (fun(w':World) (f:Fr nob w w')=>Zh0 p1 _ _ w' z4 (ownsRow_fr po1.1 f (fun _ _ x=>x)) (ownsRow_fr po2.1 f (fun _ _ x=>x)))
 have o1:u1.oneCell'=true:=by rcases s1.shape with rfl|⟨i,y,rfl⟩<;>rfl
 have o2:u2.oneCell'=true:=by rcases s2.shape with rfl|⟨i,y,rfl⟩<;>rfl
 have o4:u4.oneCell'=true:=by rcases s4.shape with rfl|⟨i,y,rfl⟩<;>rfl
 have o5:u5.oneCell'=true:=by rcases s5.shape with rfl|⟨i,y,rfl⟩<;>rfl
 by_cases hn:t1=.nil
 ·subst hn;have e3:u3=.nilIface:=by have:=s3;rw[RN]at this;exact this
  have e6:u6=.nilIface:=by have:=s6;rw[RN]at this;exact this
  subst e3;subst e6;exact Zh1 w o1 o2 o4 o5 HG HT HP (hid h1) (hid h5)
 ·obtain⟨i3,y3,rfl⟩:=s3.some hn;obtain⟨i6,y6,rfl⟩:=s6.some hn;exact Zh2 w o1 o2 o4 o5 HG HT HP (hid h1) (hid h5)
theorem ZjD{l:List UInt8}{s s':AdS}{a:AV}(h:Zdj l s=.inr (a,s')):a.tree=.nil:=by
 unfold Zdj at h;split at h
 ·cases h
 ·split at h
  ·cases h
  ·injection h with h;injection h with h1 h2;subst h1;rfl
theorem moreD_tree{l:List UInt8}{s s':AdS}{a:AV}(h:Zdk l s=.inr (a,s')):a.tree=.nil:=by
 unfold Zdk at h;split at h
 ·cases h
 ·injection h with h;injection h with h1 h2;subst h1;rfl
theorem regexD_tree{x:Bool}{l:List UInt8}{d:UInt8}{s s':AdS}{a:AV}(h:ZaE x l d s=.inr (a,s')):a.tree.size≤2*l.length+2:=by
 unfold ZaE at h;split at h
 ·cases h
 ·split at h
  ·cases h
  ·split at h
   ·cases h
   ·next t r hp=>
    injection h with h;injection h with h1 h2;subst h1;have h2:=ZdC l d true (l.length+1) s.at_ [];have h3:=(parseD_marks hp).2.2;simp only[List.length_nil,Nat.zero_add]at h2;show t.size≤_;omega
theorem Nd.size_nil:Nd.nil.size≤2:=by decide
theorem addrD_tree{x:Bool}{l:List UInt8}{sec:Bool}{s s':AdS}{a:AV}(h:addrD x l sec s=.inr (a,s')):a.tree.size≤2*l.length+2:=by
 have hn:∀a:AV,a.tree=.nil→a.tree.size≤2*l.length+2:=fun a e=>by rw[e];have:=Nd.size_nil;omega
 unfold addrD at h;split at h
 ·exact hn _ (ZjD h)
 ·split at h
  ·injection h with h;injection h with h1 h2;exact hn _ (by rw[←h1])
  ·split at h
   ·exact regexD_tree h
   ·split at h
    ·split at h
     ·cases h
     ·exact regexD_tree h
    ·split at h
     ·exact hn _ (moreD_tree h)
     ·injection h with h;injection h with h1 h2;exact hn _ (by rw[←h1];rfl)
theorem pairD_tree{x:Bool}{l:List UInt8}{s s':AdS}{a:AV}(h:Zbc x l s=.inr (a,s')):a.tree.size≤2*l.length+2:=by
 unfold Zbc at h;split at h
 ·split at h
  ·cases h
  ·next b s1 hp=>
   split at h
   ·cases h
   ·injection h with h;injection h with h1 h2;subst h1;exact addrD_tree hp
 ·injection h with h;injection h with h1 h2;rw[←h1];have:=Nd.size_nil;show Nd.nil.size≤_;omega
theorem Zlt{l:List UInt8}{a b:AV}{s s':AdS}{g:GV}(h:ZgT l a b s=.inr (g,s')):g.a=a∧g.b=b:=by
 unfold ZgT at h;split at h
 ·split at h
  ·cases h
  ·injection h with h;injection h with h1 h2;subst h1;exact⟨rfl,rfl⟩
 ·injection h with h;injection h with h1 h2;subst h1;exact⟨rfl,rfl⟩
theorem Zh4{x:Bool}{l:List UInt8}{s s':AdS}{g:GV}(h:ZX x l s=.inr (g,s')):g.a.tree.size≤2*l.length+2∧g.b.tree.size≤2*l.length+2:=by
 unfold ZX at h;split at h
 ·cases h
 ·next a s1 ha=>
  split at h
  ·cases h
  ·next b s2 hb=>
   obtain⟨e1,e2⟩:=Zlt h;rw[e1,e2];refine⟨addrD_tree ha,?_⟩;split at hb
   ·injection hb with hb;injection hb with h1 h2;rw[←h1];have:=Nd.size_nil;show Nd.nil.size≤_;omega
   ·exact pairD_tree hb
theorem Zh5(x:Bool)(l:List UInt8)(d:UInt8)(s:AdS):(Zav x l d s).1.2.size≤2*l.length+2:=by
 have hz:=Nd.size_nil;unfold Zav;simp only;generalize(if(Zr l d true s).2.e=0∧(Zr l d true s).1=[]then failC (Zr l d true s).2 2 s.at_ else(Zr l d true s).2)=s2;split
 ·show Nd.nil.size≤_;omega
 ·cases hp:Zac prg x (Zr l d true s).1 with
  |inl z=>show Nd.nil.size≤_;omega
  |inr z=>
   obtain⟨n,r⟩:=z;have h3:=(parseD_marks hp).2.2;have h4:(Zr l d true s).1.length≤l.length:=by
    unfold Zr;split
    ·exact Nat.zero_le _
    ·have:=ZdC l d true (l.length+1) s.at_ [];simp only[List.length_nil]at this;show(bt l d true (l.length+1) s.at_ []).1.length≤_;omega
   show n.size≤_;omega
theorem Zlu(b:List Prt)(t:List UInt8):(pushT b t).length≤b.length+1:=by
 unfold pushT;cases h:b.getLast? with
 |none=>simp
 |some p=>
  simp only;split
  ·rw[List.length_append,List.length_dropLast];simp only[List.length_singleton];omega
  ·simp
theorem partsL_len(g:Int):∀(t:List UInt8) (esc:Bool) (b:List Prt),(Zao g t esc b).1.length≤b.length+t.length
 |[],esc,b=>by rw[Zao];split<;>simp
 |c::r,esc,b=>by
  have h1:=partsL_len g r;have h2:=Zlu b;rw[Zao,List.length_cons];split
  ·have:=h1 true b;omega
  ·split
   ·have:=h1 false (b++[(0,[])]);rw[List.length_append]at this;simp at this;omega
   ·split
    ·split
     ·exact Nat.zero_le _
     ·have:=h1 false (b++[((c.toNat:Int)-48,[])]);rw[List.length_append]at this;simp at this;omega
    ·split
     ·have:=h1 false (pushT b [10]);have:=h2 [10];omega
     ·have:=h1 false (pushT b [c]);have:=h2 [c];omega
theorem ZjE(l:List UInt8)(sub:SV)(s:AdS):(Zap l sub s).2.1.tree=sub.tree∧(Zap l sub s).2.1.parts=sub.parts:=by
 unfold Zap;split
 ·exact⟨rfl,rfl⟩
 ·split
  ·exact⟨rfl,rfl⟩
  ·split
   ·simp only;split<;>exact⟨rfl,rfl⟩
   ·split<;>exact⟨rfl,rfl⟩
theorem Zem(l:List UInt8):∀(n:Nat) (sub:SV) (s:AdS),(Zai l n sub s).1.tree=sub.tree∧(Zai l n sub s).1.parts=sub.parts
 |0,_,_=>⟨rfl,rfl⟩
 |n+1,sub,s=>by
  rw[Zai];have hf:=ZjE l sub s;cases hr:Zap l sub s with
  |mk a b=>
   rw[hr]at hf;obtain⟨b,c⟩:=b;cases a with
   |true=>have:=Zem l n b c;exact⟨this.1.trans hf.1,this.2.trans hf.2⟩
   |false=>exact hf
theorem ZmX(x:Bool)(l:List UInt8)(s:AdS):(Zet x l s).1.tree.size≤2*l.length+2∧(Zet x l s).1.parts.length≤l.length:=by
 unfold Zet;simp only;split
 ·exact⟨by show Nd.nil.size≤_;have:=Nd.size_nil;omega,Nat.zero_le _⟩
 ·have h1:=Zh5 x l (Zv l s).1 (Zv l s).2;split
  ·exact⟨h1,Nat.zero_le _⟩
  ·split
   ·exact⟨h1,Nat.zero_le _⟩
   ·have hk:=Zem l (l.length+2);rw[(hk _ _).1,(hk _ _).2];refine⟨h1,?_⟩;have h4:∀q:AdS,(Zr l (Zv l s).1 false q).1.length≤l.length:=fun q=>by
     unfold Zr;split
     ·exact Nat.zero_le _
     ·have:=ZdC l (Zv l s).1 false (l.length+1) q.at_ [];simp only[List.length_nil]at this;show(bt l _ false (l.length+1) q.at_ []).1.length≤_;omega
    have h5:=partsL_len (Zav x l (Zv l s).1 (Zv l s).2).1.2.groups (Zr l (Zv l s).1 false (Zav x l (Zv l s).1 (Zv l s).2).2).1 false [];have h6:=h4 (Zav x l (Zv l s).1 (Zv l s).2).2;simp only[List.length_nil]at h5;show(Zao _ _ false []).1.length≤_;omega
theorem Zlv(x:Bool)(l:List UInt8)(c:CV)(s:AdS)(h:c.sub=SV.zero):(argsC x l c s).2.1.sub.tree.size≤2*l.length+2∧(argsC x l c s).2.1.sub.parts.length≤l.length:=by
 have h0:c.sub.tree.size≤2*l.length+2∧c.sub.parts.length≤l.length:=by
  rw[h];exact⟨by show Nd.nil.size≤_;have:=Nd.size_nil;omega,Nat.zero_le _⟩
 unfold argsC;split
 ·exact h0
 split
 ·exact h0
 split
 ·exact h0
 split
 ·exact h0
 split
 ·exact h0
 split
 ·exact ZmX x l s
 split
 ·exact h0
 ·exact h0
theorem cmdD_few{x:Bool}{l:List UInt8}{p:Nat}{c:CV}{q:AdS}(hl:l.length≤100000)(h:Zeu x l p=.inr (c,q)):c.few:=by
 unfold Zeu at h;cases hg:ZX x l ⟨p,[],0⟩with
 |inl z=>rw[hg]at h;cases h
 |inr z=>
  obtain⟨g,s⟩:=z;rw[hg]at h;simp only at h;split at h
  ·cases h
  ·injection h with h;obtain⟨g1,g2⟩:=Zh4 hg;have hz:CV.zero.few:=by
    refine⟨?_,?_,?_,?_⟩
    ·show Nd.nil.size≤_;have:=Nd.size_nil;omega
    ·show Nd.nil.size≤_;have:=Nd.size_nil;omega
    ·show Nd.nil.size≤_;have:=Nd.size_nil;omega
    ·exact Nat.zero_le _
   have hall:(ZbY x l g s).1.few:=by
    unfold ZbY;split
    ·exact hz
    ·simp only;generalize(if ZM (byt l s.at_)<0 then failC s 13 s.at_ else if ZM (byt l s.at_)<ZcD g then failC s 19 s.at_ else if byt l s.at_=81∨byt l s.at_=84∨byt l s.at_=122 then Zan s s.at_ [byt l s.at_]else s)=s1;split
     ·exact hz
     ·have hk:=fun(cv:CV) (q:AdS)=>Zcj x l cv q;have hf:=fun(cv:CV) (q:AdS) (hc:cv.sub=SV.zero)=>Zlv x l cv q hc;split
      ·refine⟨?_,?_,?_,?_⟩
       ·rw[(hk _ _).2.2];show g.a.tree.size≤_;omega
       ·rw[(hk _ _).2.2];show g.b.tree.size≤_;omega
       ·have:=(hf {CV.zero with at_:=s.at_,guard:=g,name:=byt l s.at_} (s1.to (s1.at_+1)) rfl).1;exact Nat.le_trans this (by omega)
       ·have:=(hf {CV.zero with at_:=s.at_,guard:=g,name:=byt l s.at_} (s1.to (s1.at_+1)) rfl).2;exact Nat.le_trans this (by omega)
      ·refine⟨?_,?_,?_,?_⟩
       ·rw[(hk _ _).2.2];show g.a.tree.size≤_;omega
       ·rw[(hk _ _).2.2];show g.b.tree.size≤_;omega
       ·have:=(hf {CV.zero with at_:=s.at_,guard:=g,name:=byt l s.at_} (s1.to (s1.at_+1)) rfl).1;exact Nat.le_trans this (by omega)
       ·have:=(hf {CV.zero with at_:=s.at_,guard:=g,name:=byt l s.at_} (s1.to (s1.at_+1)) rfl).2;exact Nat.le_trans this (by omega)
   rw[h]at hall;exact hall
end Go.Proofs.YtkfddjopbocpkaaGreatDoor
