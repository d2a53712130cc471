/- Lemmas of this claim. -/
import Derived.Deep.MidRow
import Derived.Test.YtgllcniibbaoaaaGreatDoorK36
set_option linter.all false
set_option maxRecDepth 100000
set_option maxHeartbeats 24000000
namespace Go.Proofs.YtgllcniibbaoaaaGreatDoor
open Go.RowKit
def ZBd(cs:Array Value):Nat→List Value→Array Value
 |_,[]=>cs
 |o,v::r=>ZBd (cs.setIfInBounds o v) (o+1) r
section
variable {w0 w:World} {L:List (Nat×Array Value×TypeId)} {b:Nat} {cs:Array Value} {T:TypeId}
theorem LB.cells(O:Nat→Prop)(j:Nat):∀(vs:List Value) (o:Nat) (w:World) (L:List (Nat×Array Value×TypeId)) (cs:Array Value),LB w0 L w→L[j]? =some (b,cs,T)→LB w0 (L.set j (b,ZBd cs o vs,T)) (w.setCells b o vs)∧Fr (fun k=>k=b) w (w.setCells b o vs)
 |[],o,w,L,cs,h,hj=>by
  obtain⟨hj1,hj2⟩:=List.getElem?_eq_some_iff.1 hj;refine⟨?_,Fr.refl _ _⟩;rw[ZBd,World.setCells,←hj2,List.set_getElem_self];exact h
 |v::r,o,w,L,cs,h,hj=>by
  have h1:=h.cell' nob j hj o v;obtain⟨hj1,hj2⟩:=List.getElem?_eq_some_iff.1 hj;have h2:=LB.cells O j r (o+1) (w.setCell ⟨b,o,none⟩ v) (L.set j (b,cs.setIfInBounds o v,T)) (cs.setIfInBounds o v) h1.1 (by rw[List.getElem?_set_self hj1]);rw[List.set_set]at h2;exact⟨h2.1,h1.2.2.trans h2.2 (fun _ _ e=>e)⟩
variable {P:Program} {ops:Array Oper} {rest:List Oper} {op:Oper} {a:Act} {Q:Exit→Act→World→Prop} {ty:TypeId}
theorem LB.stom(h:LB w0 L w)(O:Nat→Prop)(j:Nat)(hj:L[j]? =some (b,cs,T))(o:Nat)(c:Array Value)(hgd:op.guard=none)(x y:Operand)(ho:op.op=.store ty x y)(hx:a.eval x=.pointer (some ⟨b,o,none⟩))(hy:a.eval y=.agg c)
 (hi:(P.info? ty).map (·.size)=some c.size) (hs:o+c.size≤cs.size) (h1:c.all (·.oneCell')=true)
 (hk:∀W,LB w0 (L.set j (b,ZBd cs o c.toList,T)) W→Zyn (lbB O (L.map (·.1))) w W→Fr (fun k=>k=b) w W→wpList P ops Q rest (a.put op.dst undef) W):wpList P ops Q (op::rest) a w:=by
 have hr:=h.get j hj;have hc:=LB.cells O j c.toList o w L cs h hj;refine wpList_store_mid hgd ty x y ho b o c hx hy (fun i hi=>⟨?_,ZF hr _⟩) hi h1 (hk _ hc.1 (LB.out j hj hc.2 O) hc.2);have d:o+i<cs.size:=by omega
 rw[cell_at (v:=cs[o+i]) hr (by simp[d])];rfl
end
theorem ZB8(v0 v1 v2 v3 v4 v5 v6 v7 v8 v9 v10 v11 v12 v13 v14 v15 v16 v17 v18 v19 v20 v21 v22 v23 v24 u0 u1 u2 u3 u4 u5 u6 u7 u8 u9 u10 u11:Value):ZBd #[v0,v1,v2,v3,v4,v5,v6,v7,v8,v9,v10,v11,v12,v13,v14,v15,v16,v17,v18,v19,v20,v21,v22,v23,v24] 12 (#[u0,u1,u2,u3,u4,u5,u6,u7,u8,u9,u10,u11]:Array Value).toList= #[v0,v1,v2,v3,v4,v5,v6,v7,v8,v9,v10,v11,u0,u1,u2,u3,u4,u5,u6,u7,u8,u9,u10,u11,v24]:=by simp only[ZBd,List.setIfInBounds_toArray,List.set_cons_succ,List.set_cons_zero]
def Dn(bs:List Nat)(B:Nat)(w:World)(l:List (Nat×List UInt8))(v:Value):Prop:=DOw B w l v∧∀k,v.ownBlock=some k→k∉bs
section
variable {bs cs:List Nat} {B:Nat} {w w':World} {l m:List (Nat×List UInt8)} {v:Value}
theorem Dn.on(h:Dn bs B w l v)(f:Fr nob w w'):Dn bs B w' l v:=⟨h.1.on f,h.2⟩
theorem Dn.step{b:Nat}(h:Dn bs B w l v)(f:Fr (fun k=>k=b) w w')(hb:b∈bs):Dn bs B w' l v:=⟨⟨ownsRow_fr h.1.1 f (fun k hk e=>h.2 k hk (e▸hb)),h.1.2⟩,h.2⟩
theorem Dn.more(h:Dn bs B w l v)(hc:∀c∈cs,c∈bs∨w.heap.size≤c):Dn cs B w l v:=⟨h.1,fun k hk hm=>by
 rcases hc k hm with e|e
 ·exact h.2 k hk e
 ·have:=Z3 h.1.1 k hk;omega⟩
theorem Dn.of(h:DOw B w l v)(hc:∀c∈cs,c<B∨w.heap.size≤c):Dn cs B w l v:=⟨h,fun k hk hm=>by
 rcases hc k hm with e|e
 ·have:=h.2 k hk;omega
 ·have:=Z3 h.1 k hk;omega⟩
theorem Dn.app{v':Value}(h:Dn bs B w l v)(hB:B≤w.heap.size)(hbs:∀b∈bs,b<w.heap.size)(hown:w'.ownsRow 0 96 2 v' (l++m).length (mkC (l++m)))(hold:∀k,v'.ownBlock=some k→v.ownBlock=some k∨w.heap.size≤k):Dn bs B w' (l++m) v':=
 ⟨⟨hown,fun k hk=>(hold k hk).elim (h.1.2 k) (fun e=>by omega)⟩,fun k hk hm=>(hold k hk).elim (fun e=>h.2 k e hm) (fun e=>by have:=hbs k hm;omega)⟩
end
structure TC where
 kd:Int
 s:S4
 ua:Option Addr
 m:Nat
 uc:Nat
 mn:Int
 mx:Int
 nu:Int
abbrev TC.cs(c:TC):List Value:=[.int .i64 c.kd,.int .u64 c.s.a,.int .u64 c.s.b,.int .u64 c.s.c,.int .u64 c.s.d,.slice c.ua c.m c.uc,.int .i64 c.mn,.int .i64 c.mx,.int .i64 c.nu]
abbrev TC.z:TC:=⟨0,S4.zero,none,0,0,0,0,0⟩
theorem ZBF.tc{O:Nat→Prop}{w:World}{a:AV}{v:Value}(h:ZBF O w a v):∃c:TC,v=.agg #[.int .i64 a.kind,.int .i64 a.line,.string ⟨a.text.toArray⟩,.int .i64 c.kd,.int .u64 c.s.a,.int .u64 c.s.b,.int .u64 c.s.c,.int .u64 c.s.d,.slice c.ua c.m c.uc,.int .i64 c.mn,.int .i64 c.mx,.int .i64 c.nu]∧RT O w a.tree.rf c.cs∧(a.kind≠3→a.tree=.nil):=by
 obtain⟨kd,s,ua,m,uc,mn,mx,nu,e,h1,h2⟩:=h;exact⟨⟨kd,s,ua,m,uc,mn,mx,nu⟩,e,h1,h2⟩
def ZB3(O:Nat→Prop)(w:World)(g:GV)(v:Value):Prop:=∃c d:TC,v=.agg #[.int .i64 g.a.kind,.int .i64 g.a.line,.string ⟨g.a.text.toArray⟩,.int .i64 c.kd,.int .u64 c.s.a,.int .u64 c.s.b,.int .u64 c.s.c,.int .u64 c.s.d,.slice c.ua c.m c.uc,.int .i64 c.mn,.int .i64 c.mx,.int .i64 c.nu,.int .i64 g.b.kind,.int .i64 g.b.line,.string ⟨g.b.text.toArray⟩,.int .i64 d.kd,.int .u64 d.s.a,.int .u64 d.s.b,.int .u64 d.s.c,.int .u64 d.s.d,.slice d.ua d.m d.uc,.int .i64 d.mn,.int .i64 d.mx,.int .i64 d.nu,.bool g.no]∧
 RT O w g.a.tree.rf c.cs∧RT O w g.b.tree.rf d.cs∧(g.a.kind≠3→g.a.tree=.nil)∧(g.b.kind≠3→g.b.tree=.nil)
abbrev ZA4:Array Value:= #[.int .i64 0,.int .i64 0,.string ⟨#[]⟩,.int .i64 0,.int .u64 0,.int .u64 0,.int .u64 0,.int .u64 0,.slice none 0 0,.int .i64 0,.int .i64 0,.int .i64 0,.int .i64 0,.int .i64 0,.string ⟨#[]⟩,.int .i64 0,.int .u64 0,.int .u64 0,.int .u64 0,.int .u64 0,.slice none 0 0,.int .i64 0,.int .i64 0,.int .i64 0,.bool false]
def ZB9(O:Nat→Prop)(R:ZpG)(w:World)(x:Ending)(w':World):Prop:=Fr nob w w'∧match R with
 | .inl (z,p)=>x=.returned (.tuple #[.agg ZA4,.agg (xC (.slice none 0 0) (p:Nat) z)])∧z≠0
 | .inr (g,s)=>∃v mv,x=.returned (.tuple #[v,.agg (xC mv (s.at_:Nat) 0)])∧ZB3 O w' g v∧DOw w.heap.size w' s.marks mv
theorem info_dG:(Tryz.prog.info? 53).map (·.size)=some 25:=by kernel_rfl
theorem one_dG(k1 n1:Int)(t1:List UInt8)(c:TC)(k2 n2:Int)(t2:List UInt8)(d:TC)(x:Bool):(#[.int .i64 k1,.int .i64 n1,.string ⟨t1.toArray⟩,.int .i64 c.kd,.int .u64 c.s.a,.int .u64 c.s.b,.int .u64 c.s.c,.int .u64 c.s.d,.slice c.ua c.m c.uc,.int .i64 c.mn,.int .i64 c.mx,.int .i64 c.nu,.int .i64 k2,.int .i64 n2,.string ⟨t2.toArray⟩,.int .i64 d.kd,.int .u64 d.s.a,.int .u64 d.s.b,.int .u64 d.s.c,.int .u64 d.s.d,.slice d.ua d.m d.uc,.int .i64 d.mn,.int .i64 d.mx,.int .i64 d.nu,.bool x]:Array Value).all (·.oneCell')=true:=by simp[Value.oneCell']
theorem ZBe{fn:Func}(h:fn.results= #[.cell 6 53,.cell 7 55]){tmps:Array Value}{r r2:Nat}(ht:tmps.getD 6 undef=.pointer (some ⟨r,0,none⟩))(ht2:tmps.getD 7 undef=.pointer (some ⟨r2,0,none⟩)){W:World}{cs cs2:Array Value}{X X2:TypeId}
 (hb:W.heap[r]? =some (.cells cs X (0,0))) (hb2:W.heap[r2]? =some (.cells cs2 X2 (0,0))) (h8:cs.size=25) (h9:cs2.size=3):(results fn tmps).run Tryz.prog W=.ok (.tuple #[.agg cs,.agg cs2]) W:=
 ZyO h ht ht2 hb hb2 Tryz.underlying53 rfl (by rw[h8];exact info_dG) Tryz.underlying55 rfl (by rw[h9];exact info_dX)
theorem ZBq{w:World}{b j:Nat}{i:Bool}(hc:(w.cell? ⟨b,j,none⟩).isSome=true)(hf:w.frozen? ⟨b,j,none⟩=false):
 Sem.run Tryz.prog (storeVar 4 ⟨b,j,none⟩ (.bool i)) w=.ok () (w.setCell ⟨b,j,none⟩ (.bool i)):=by
 obtain⟨old,ho⟩:=Option.isSome_iff_exists.1 hc;have a:(Value.bool i).cells= #[.bool i]:=rfl;have hi:(Tryz.prog.info? 4).map (·.size)=some 1:=by kernel_rfl
 cases hq:Tryz.prog.info? 4 with
 |none=>rw[hq]at hi;cases hi
 |some q=>
  have hs:q.size=1:=by simpa[hq]using hi
  simp[storeVar,sizeOf,typeInfo,hq,a,hs,go_sem,ho,hf]
attribute [-go_sem] storeVar loadVar
attribute [local go_sem] Zx3 Zx4 Zx1 Zx2 Zyb Zx9 ZBq
theorem LB.gx(w:World):LB w [(w.heap.size,ZA4,53),(w.heap.size+1,zX3,55)] ((w.alloc (.cells ZA4 53)).alloc (.cells zX3 55)):=((LB.nil w).push ZA4 _ _ rfl).push zX3 _ _ (by simp)
end Go.Proofs.YtgllcniibbaoaaaGreatDoor
