/- Lemmas of this claim. -/
import Derived.Test.YtgllcniibbaoaaaGreatDoorK37
import Derived.Test.YtgllcniibbaoaaaGreatDoorK39
set_option linter.all false
set_option maxRecDepth 100000
set_option maxHeartbeats 24000000
namespace Go.Proofs.YtgllcniibbaoaaaGreatDoor
open Go.Lib (hid)
open Go.RowKit
theorem RN.nil_iface{S:Nat→Prop}{w:World}{u:Value}(h:RN S w .nil u):u=.nilIface:=by rw[RN]at h;exact h
theorem AV.fit{a:AV}(hz:a.tree.size≤3000000):a.tree.rf.nd.size≤3000000:=by rw[Nd.rf_nd,Nd.norm_size];exact hz
theorem is_addr(k n:Int)(t:List UInt8)(tr:Nd)(u:Value)(c:TC)(w:World)(hz:tr.size≤3000000)(hu:RN nob w tr u)(hc:RT nob w tr.rf c.cs)(hk:k≠3→tr=.nil):
 Calls Tryz.prog 23 #[.agg #[.int .i64 k,.int .i64 n,.string ⟨t.toArray⟩,u],.agg #[.int .i64 k,.int .i64 n,.string ⟨t.toArray⟩,.int .i64 c.kd,.int .u64 c.s.a,.int .u64 c.s.b,.int .u64 c.s.c,.int .u64 c.s.d,.slice c.ua c.m c.uc,.int .i64 c.mn,.int .i64 c.mx,.int .i64 c.nu]] w fun e w'=>e=.returned (.bool true)∧Fr nob w w':=by
 have o1:=hu.shape;by_cases h3:k=3
 ·subst h3;have HS:=hid (fun(w':World) (f:Fr nob w w')=>Zz5 tr tr.rf u c.cs w' hz (AV.fit (a:=⟨0,0,[],tr⟩) hz) (Nd.rf_known tr) (hu.on f) (hc.on f));clear hu hc hk;rcases o1 with rfl|⟨i1,y1,rfl⟩
  all_goals
   go_enter Tryz.func23,Tryz.ntmps23;go_wp2_with fail;refine(HS.out _ (((Fr.refl nob w).alloc _).alloc _)).mono ?_;rintro e w3 ⟨r,rfl,hr,f3⟩;obtain rfl:r=true:=hr.2 (Nd.rf_nd tr).symm;have F3:=hid ((((Fr.refl nob w).alloc _).alloc _).trans' f3);clear f3 hr;go_wp2;go_ret;exact⟨rfl,F3.out⟩
 ·obtain rfl:=hk h3;obtain rfl:=hu.nil_iface;have e3:(k !=3)=true:=by simpa using h3
  clear h3 hk hu hc;go_enter Tryz.func23,Tryz.ntmps23;go_wp2;go_ret;exact⟨rfl,((Fr.refl nob w).alloc _).alloc _⟩
theorem is_guard(g:GV)(v x:Value)(w:World)(s1:g.a.tree.size≤3000000)(s2:g.b.tree.size≤3000000)(hv:Zni nob w g v)(hx:ZB3 nob w g x):
 Calls Tryz.prog 20 #[v,x] w fun e w'=>e=.returned (.bool true)∧Fr nob w w':=by
 obtain⟨A,B,n⟩:=g;obtain⟨u1,u2,rfl,r1,r2⟩:=hv;obtain⟨c,d,rfl,t1,t2,k1,k2⟩:=hx;simp only at s1 s2 r1 r2 t1 t2 k1 k2⊢;have o1:=r1.shape;have o2:=r2.shape;have HA:=hid (fun(w':World) (f:Fr nob w w')=>is_addr A.kind A.line A.text A.tree u1 c w' s1 (r1.on f) (t1.on f) k1);have HB:=hid (fun(w':World) (f:Fr nob w w')=>is_addr B.kind B.line B.text B.tree u2 d w' s2 (r2.on f) (t2.on f) k2);clear r1 r2 t1 t2 s1 s2 k1 k2;rcases o1 with rfl|⟨i1,y1,rfl⟩<;>rcases o2 with rfl|⟨i2,y2,rfl⟩
 all_goals
  go_enter Tryz.func20,Tryz.ntmps20;go_wp2_with fail;refine(HA.out _ (((Fr.refl nob w).alloc _).alloc _)).mono ?_;rintro e w3 ⟨rfl,f3⟩;have g1:=f3.heap (((Fr.refl nob _).alloc _).heap (newAt0 w _) (fun x=>x)) (fun x=>x);have g2:=f3.heap (newAt0 (w.alloc _) _) (fun x=>x);rw[show∀B,(w.alloc B).heap.size=w.heap.size+1 from fun B=>by simp]at g2;have ra:=Zk g1;have rb:=ZBG g2;have F3:=hid ((((Fr.refl nob w).alloc _).alloc _).trans' f3);have G1:=hid g1;have G2:=hid g2;clear g1 g2 f3;go_wp2_with fail;refine(HB.out _ F3.out).mono ?_;rintro e w4 ⟨rfl,f4⟩;have F4:=hid (F3.out.trans' f4);have h:=Zk (f4.heap G1.out (fun x=>x));have i:=ZBG (f4.heap G2.out (fun x=>x));clear f4 ra rb;go_wp2;go_ret;exact⟨rfl,F4.out⟩
end Go.Proofs.YtgllcniibbaoaaaGreatDoor
