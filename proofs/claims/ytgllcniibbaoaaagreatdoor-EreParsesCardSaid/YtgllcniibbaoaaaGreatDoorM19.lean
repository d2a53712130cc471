/- Lemmas of this claim. -/
import Derived.Test.YtgllcniibbaoaaaGreatDoorM18
set_option linter.all false
set_option maxRecDepth 100000
set_option maxHeartbeats 4000000
namespace Go.Proofs.YtgllcniibbaoaaaGreatDoor
open Go.RowKit Go.Sort
theorem ZAj{P:Program}{c:Code}{Q:Exit→Act→World→Prop}{a:Act}{w:World}(A:Nat→Act)(F:Nat→World→Prop)(h1:c.wp P (fun e a' w'=>e=.normal∧∃q,a'=A q∧F q w') a w)(h2:∀q w',F q w'→Q .normal (A q) w'):c.wp P Q a w:=
 Code.wp_mono (by rintro e a' w' ⟨rfl,q,rfl,h⟩;exact h2 q w' h) h1
theorem d_one_lit(x:S4)(w:World):Calls Tryz.prog 145 #[ZcR x] w fun e w'=>e=.returned (.agg #[.int .i64 1,.int .u64 x.a,.int .u64 x.b,.int .u64 x.c,.int .u64 x.d,.slice none 0 0,.int .i64 0,.int .i64 0,.int .i64 0])∧Fr nob w w':=ZAW x w
theorem d_mark_lit(l:List UInt8)(ere:Bool)(s:RxS)(ca:Option Addr)(cc:Nat)(ma:Option Addr)(mc:Nat)(t:List UInt8)(w:World)(hl:s.marks.length≤100000)(hm:MS w s.marks (.slice ma s.marks.length mc)):
 Calls Tryz.prog 93 #[.agg #[.string ⟨l.toArray⟩,.bool ere,.int .i64 s.at_,.int .i64 s.opened,.slice ca s.closed.length cc,.slice ma s.marks.length mc,.int .i64 0,.int .i64 0],.string ⟨t.toArray⟩] w fun x w'=>∃ma' mc',x=.returned (.agg #[.string ⟨l.toArray⟩,.bool ere,.int .i64 s.at_,.int .i64 s.opened,.slice ca s.closed.length cc,.slice ma' (s.mark t).marks.length mc',.int .i64 0,.int .i64 0])∧(∀W,Lo w.heap.size w' W→MS W (s.mark t).marks (.slice ma' (s.mark t).marks.length mc'))∧Fr nob w w':=ZAH l ere s ca cc ma mc t w hl hm
theorem d_fail_lit(l:List UInt8)(ere:Bool)(s:RxS)(ca:Option Addr)(cc:Nat)(ma:Option Addr)(mc:Nat)(z q:Int)(w:World):
 Calls Tryz.prog 119 #[.agg #[.string ⟨l.toArray⟩,.bool ere,.int .i64 s.at_,.int .i64 s.opened,.slice ca s.closed.length cc,.slice ma s.marks.length mc,.int .i64 0,.int .i64 0],.int .i64 z,.int .i64 q] w fun x w'=>x=.returned (.agg #[.string ⟨l.toArray⟩,.bool ere,.int .i64 s.at_,.int .i64 s.opened,.slice ca s.closed.length cc,.slice ma s.marks.length mc,.int .i64 z,.int .i64 q])∧Fr nob w w':=ZAG l ere s ca cc ma mc z q w
theorem ZzY(s:S4)(d:Nat)(w:World)(hs:s.fit)(hd:d<256):Calls Tryz.prog 170 #[ZcR s,.int .u8 d] w fun e w'=>e=.returned (.bool (s.has d))∧Fr nob w w':=hasR_any s d w hs hd
def CS(w:World)(l:List Nat)(ca:Option Addr)(cc:Nat):Prop:=SI w (l.map Int.ofNat) (.slice ca l.length cc)
def Zyn(O:Nat→Prop)(w W:World):Prop:=∀k o,¬O k→w.heap[k]? =some o→W.heap[k]? =some o
theorem Zyn.refl(O:Nat→Prop)(w:World):Zyn O w w:=fun _ _ _ h=>h
theorem Zyn.trans{O:Nat→Prop}{a b c:World}(h:Zyn O a b)(g:Zyn O b c):Zyn O a c:=fun k o hk ho=>g k o hk (h k o hk ho)
theorem Zyn.of_fr{O X:Nat→Prop}{w w':World}(f:Fr X w w')(h:∀k,k<w.heap.size→X k→O k):Zyn O w w':=fun k _ hk ho=>f.heap ho (fun x=>hk (h k (lt_heap ho) x))
theorem Zyn.of{O:Nat→Prop}{w w':World}(f:Fr nob w w'):Zyn O w w':=.of_fr f (fun _ _ x=>x.elim)
theorem Zyn.lo{O:Nat→Prop}{w W:World}{B:Nat}(h:Zyn O w W)(hO:∀k,O k→k<B):Lo B w W:=fun k o hk ho=>h k o (fun x=>by have:=hO k x;omega) ho
theorem Zyn.wide{O S:Nat→Prop}{w W:World}(h:Zyn S w W)(hs:∀k,k<w.heap.size→S k→O k):Zyn O w W:=fun k o hk ho=>h k o (fun x=>hk (hs k (lt_heap ho) x)) ho
def CSO(O:Nat→Prop)(w:World)(l:List Nat)(ca:Option Addr)(cc:Nat):Prop:=∀W,Zyn O w W→CS W l ca cc
def MSO(O:Nat→Prop)(w:World)(l:List (Nat×List UInt8))(v:Value):Prop:=∀W,Zyn O w W→MS W l v
section
variable {O S:Nat→Prop} {w w':World} {l:List Nat} {ca:Option Addr} {cc:Nat} {m:List (Nat×List UInt8)} {v:Value}
theorem CSO.at(h:CSO O w l ca cc):CS w l ca cc:=h w (.refl O w)
theorem MSO.at(h:MSO O w m v):MS w m v:=h w (.refl O w)
theorem CSO.step(h:CSO O w l ca cc)(f:Zyn O w w'):CSO O w' l ca cc:=fun W g=>h W (f.trans g)
theorem MSO.step(h:MSO O w m v)(f:Zyn O w w'):MSO O w' m v:=fun W g=>h W (f.trans g)
theorem CSO.on(h:CSO O w l ca cc)(f:Fr nob w w'):CSO O w' l ca cc:=h.step (.of f)
theorem MSO.on(h:MSO O w m v)(f:Fr nob w w'):MSO O w' m v:=h.step (.of f)
theorem CSO.wide(h:CSO O w l ca cc)(hs:∀k,k<w.heap.size→S k→O k):CSO S w l ca cc:=fun W g=>h W (g.wide hs)
theorem MSO.wide(h:MSO O w m v)(hs:∀k,k<w.heap.size→S k→O k):MSO S w m v:=fun W g=>h W (g.wide hs)
end
def Zy4(K:Nat)(O:Nat→Prop)(l:List UInt8)(ere:Bool)(R:Out Nd)(w:World)(x:Ending)(w':World):Prop:=Fr nob w w'∧match R with
 | .inl (e,p)=>∃(s':RxS) (ca:Option Addr) (cc:Nat) (ma:Option Addr) (mc:Nat) (t:T) (cs:List Value),x=.returned (.tuple #[rV l ere s' ca cc ma mc e (p:Nat),.agg cs.toArray])∧RT O w' t cs∧t.bulk≤K∧e≠0
 | .inr (t,s')=>∃(ca:Option Addr) (cc:Nat) (ma:Option Addr) (mc:Nat) (cs:List Value),x=.returned (.tuple #[rV l ere s' ca cc ma mc 0 0,.agg cs.toArray])∧RT O w' t.rf cs∧CSO O w' s'.closed ca cc∧MSO O w' s'.marks (.slice ma s'.marks.length mc)
theorem ZzZ{l:List Nat}{k n:Nat}(h:k<l.length):(l.take (k+1)).contains n=((l.take k).contains n||l[k]==n):=by
 rw[List.take_succ_eq_append_getElem h,List.contains_append,List.contains_cons,List.contains_nil,Bool.or_false,BEq.comm]
theorem MSO.of_lo{O:Nat→Prop}{w':World}{l:List (Nat×List UInt8)}{v:Value}{B:Nat}(h:∀W,Lo B w' W→MS W l v)(hO:∀k,O k→k<B):MSO O w' l v:=fun W g=>h W (g.lo hO)
structure LB(w0:World)(L:List (Nat×Array Value×TypeId))(w:World):Prop where
 fr:Fr nob w0 w
 lo:∀x∈L,w0.heap.size≤x.1
 ne:L.Pairwise (fun x y=>x.1≠y.1)
 at_:∀x∈L,w.heap[x.1]? =some (.cells x.2.1 x.2.2 (0,0))
abbrev lbB(O:Nat→Prop)(bs:List Nat)(k:Nat):Prop:=O k∨k∈bs
section
variable {w0 w w':World} {L:List (Nat×Array Value×TypeId)} {b:Nat} {cs cs':Array Value} {T:TypeId}
theorem LB.get(h:LB w0 L w)(j:Nat)(hj:L[j]? =some (b,cs,T)):w.heap[b]? =some (.cells cs T (0,0)):=h.at_ _ (List.mem_of_getElem? hj)
theorem LB.low(h:LB w0 L w)(j:Nat)(hj:L[j]? =some (b,cs,T)):w0.heap.size≤b:=h.lo _ (List.mem_of_getElem? hj)
theorem LB.on(h:LB w0 L w)(f:Fr nob w w'):LB w0 L w':=⟨h.fr.trans' f,h.lo,h.ne,fun x hx=>f.heap (h.at_ x hx) (fun x=>x)⟩
theorem LB.nil(w:World):LB w [] w:=⟨Fr.refl _ _,by simp,List.Pairwise.nil,by simp⟩
theorem LB.lt(h:LB w0 L w):∀x∈L,x.1<w.heap.size:=fun x hx=>lt_heap (h.at_ x hx)
theorem LB.push(h:LB w0 L w)(cs:Array Value)(T:TypeId)(n:Nat)(hn:n=w.heap.size):LB w0 (L++[(n,cs,T)]) (w.alloc (.cells cs T)):=by
 subst hn;refine⟨h.fr.alloc _,fun x hx=> ?_,?_,fun x hx=> ?_⟩
 ·rcases List.mem_append.1 hx with hx|hx
  ·exact h.lo x hx
  ·rw[List.mem_singleton]at hx;subst hx;exact h.fr.size
 ·rw[List.pairwise_append];refine⟨h.ne,List.pairwise_singleton _ _,fun x hx y hy=> ?_⟩;rw[List.mem_singleton]at hy;subst hy;have:=h.lt x hx;simp only;omega
 ·rcases List.mem_append.1 hx with hx|hx
  ·exact heap_alloc_lt _ (h.at_ x hx)
  ·rw[List.mem_singleton]at hx;subst hx;exact heap_alloc_new _ _
theorem LB.old(h:LB w0 L w)(O:Nat→Prop):∀k,k<w0.heap.size→lbB O (L.map (·.1)) k→O k:=fun k hk x=>by
 rcases x with x|x
 ·exact x
 ·obtain⟨y,hy,rfl⟩:=List.mem_map.1 x;have:=h.lo y hy;omega
theorem LB.cso{O:Nat→Prop}{l:List Nat}{ca:Option Addr}{cc:Nat}(h:LB w0 L w)(hc:CSO O w0 l ca cc):CSO (lbB O (L.map (·.1))) w l ca cc:=(hc.wide (h.old O)).on h.fr
theorem LB.mso{O:Nat→Prop}{l:List (Nat×List UInt8)}{v:Value}(h:LB w0 L w)(hm:MSO O w0 l v):MSO (lbB O (L.map (·.1))) w l v:=(hm.wide (h.old O)).on h.fr
theorem LB.below(h:LB w0 L w){O:Nat→Prop}(hO:∀k,O k→k<w0.heap.size):∀k,lbB O (L.map (·.1)) k→k<w.heap.size:=fun k x=>by
 rcases x with x|x
 ·have:=hO k x;have:=h.fr.size;omega
 ·obtain⟨y,hy,rfl⟩:=List.mem_map.1 x;exact h.lt y hy
theorem LB.ne_at{x:Nat×Array Value×TypeId}(h:LB w0 L w)(j i:Nat)(hj:L[j]? =some (b,cs,T))(hi:L[i]? =some x)(hn:i≠j):x.1≠b:=by
 obtain⟨d,f⟩:=List.getElem?_eq_some_iff.1 hj;obtain⟨a,c⟩:=List.getElem?_eq_some_iff.1 hi;rcases Nat.lt_or_gt_of_ne hn with hl|hl
 ·have:=List.pairwise_iff_getElem.1 h.ne i j a d hl;rw[c,f]at this;exact this
 ·have:=List.pairwise_iff_getElem.1 h.ne j i d a hl;rw[c,f]at this;exact fun e=>this e.symm
theorem LB.row(h:LB w0 L w)(j:Nat)(hj:L[j]? =some (b,cs,T))(hw:w'.heap[b]? =some (.cells cs' T (0,0)))(f:Fr (fun k=>k=b) w w'):LB w0 (L.set j (b,cs',T)) w':=by
 have c:=(List.getElem?_eq_some_iff.1 hj).1;have a:∀(i:Nat) (x:Nat×Array Value×TypeId),(L.set j (b,cs',T))[i]? =some x→(i=j∧x=(b,cs',T))∨(i≠j∧L[i]? =some x):=fun i x hx=>by
  by_cases e:i=j
  ·subst e;rw[List.getElem?_set_self c]at hx;injection hx with hx;exact .inl ⟨rfl,hx.symm⟩
  ·rw[List.getElem?_set_ne (Ne.symm e)]at hx;exact .inr ⟨e,hx⟩
 refine⟨h.fr.trans f (fun i hi e=>by subst e;have:=h.low j hj;omega),fun x hx=> ?_,?_,fun x hx=> ?_⟩
 ·obtain⟨i,hi⟩:=List.getElem?_of_mem hx;rcases a i x hi with⟨_,rfl⟩|⟨_,e⟩
  ·exact h.low j hj
  ·exact h.lo x (List.mem_of_getElem? e)
 ·rw[List.pairwise_iff_getElem];intro p q hp hq d;have e1:(L.set j (b,cs',T))[p].1=(L[p]'(by simpa using hp)).1:=by
   rw[List.getElem_set];split
   ·next e=>subst e;have:=(List.getElem?_eq_some_iff.1 hj).2;rw[this]
   ·rfl
  have e2:(L.set j (b,cs',T))[q].1=(L[q]'(by simpa using hq)).1:=by
   rw[List.getElem_set];split
   ·next e=>subst e;have:=(List.getElem?_eq_some_iff.1 hj).2;rw[this]
   ·rfl
  rw[e1,e2];exact List.pairwise_iff_getElem.1 h.ne p q (by simpa using hp) (by simpa using hq) d
 ·obtain⟨i,hi⟩:=List.getElem?_of_mem hx;rcases a i x hi with⟨_,rfl⟩|⟨e,e'⟩
  ·exact hw
  ·exact f.heap (h.at_ x (List.mem_of_getElem? e')) (h.ne_at j i hj e' e)
theorem LB.out(j:Nat)(hj:L[j]? =some (b,cs,T))(f:Fr (fun k=>k=b) w w')(O:Nat→Prop):Zyn (lbB O (L.map (·.1))) w w':=.of_fr f (fun k _ e=>.inr (List.mem_map.2 ⟨_,List.mem_of_getElem? hj,e.symm⟩))
variable {P:Program} {ops:Array Oper} {rest:List Oper} {o:Oper} {a:Act} {Q:Exit→Act→World→Prop} {ty:TypeId} {d:TypeDesc}
theorem LB.ld(h:LB w0 L w)(j:Nat)(hj:L[j]? =some (b,cs,T))(hgd:o.guard=none)(x:Operand)(ho:o.op=.load ty x)(hx:a.eval x=.pointer (some ⟨b,0,none⟩))
 (hu:P.underlying ty=some d) (hd:(match d with| .struct _| .array _ _=>true|_=>false)=true) (hi:(P.info? ty).map (·.size)=some cs.size)
 (hk:wpList P ops Q rest (a.put o.dst (.agg cs)) w):wpList P ops Q (o::rest) a w:=wpList_load_row hgd ty x ho b hx T cs (0,0) d (h.get j hj) hu hd hi hk
theorem LB.qld(h:LB w0 L w)(j:Nat)(hj:L[j]? =some (b,cs,T)){K:Act→Prop}(hw:Region.wanted o (yielded ops a.tmps)=true)(x:Operand)(ho:o.op=.load ty x)(hx:a.eval x=.pointer (some ⟨b,0,none⟩))
 (hu:P.underlying ty=some d) (hd:(match d with| .struct _| .array _ _=>true|_=>false)=true) (hi:(P.info? ty).map (·.size)=some cs.size)
 (hk:wpQuiet P ops (fun w'=>∃p:Regrown,w'=grow (redrawn w p.d) p.os) K rest (a.put o.dst (.agg cs))):wpQuiet P ops (fun w'=>∃p:Regrown,w'=grow (redrawn w p.d) p.os) K (o::rest) a:=by
 unfold wpQuiet;rw[if_pos hw];refine⟨.agg cs,fun W hc=> ?_,hk⟩;unfold Oper.quietAt execOp;simp only[ho,hx,Instr.loadAt,Instr.sureAddr,Sem.run_bind,Sem.run_pure,Result.andThen_ok,run_loadVar_row W b T ty cs (0,0) d ((Zde hc).heap (h.get j hj) (fun x=>x)) hu hd hi];exact⟨rfl,rfl⟩
theorem LB.sto(h:LB w0 L w)(O:Nat→Prop)(j:Nat)(hj:L[j]? =some (b,cs,T))(hgd:o.guard=none)(x y:Operand)(ho:o.op=.store ty x y)(hx:a.eval x=.pointer (some ⟨b,0,none⟩))(hy:a.eval y=.agg cs')
 (hi:(P.info? ty).map (·.size)=some cs'.size) (hs:cs.size=cs'.size) (h1:cs'.all (·.oneCell')=true)
 (hk:∀W,LB w0 (L.set j (b,cs',T)) W→Zyn (lbB O (L.map (·.1))) w W→Fr (fun k=>k=b) w W→wpList P ops Q rest (a.put o.dst undef) W):wpList P ops Q (o::rest) a w:=
 wpList_store_row hgd ty x y ho b cs' hx hy T cs (h.get j hj) hi hs h1
  (hk _ (h.row j hj (setRow_heap w b cs cs' T (0,0) (h.get j hj)) (Zya w b cs')) (LB.out j hj (Zya w b cs') O) (Zya w b cs'))
theorem LB.cell'(h:LB w0 L w)(O:Nat→Prop)(j:Nat)(hj:L[j]? =some (b,cs,T))(i:Nat)(v:Value):LB w0 (L.set j (b,cs.setIfInBounds i v,T)) (w.setCell ⟨b,i,none⟩ v)∧Zyn (lbB O (L.map (·.1))) w (w.setCell ⟨b,i,none⟩ v)∧Fr (fun k=>k=b) w (w.setCell ⟨b,i,none⟩ v):=by
 have e:=setCell_eq_setRow w b i cs T (0,0) v (h.get j hj);rw[e];exact⟨h.row j hj (setRow_heap w b cs _ T (0,0) (h.get j hj)) (Zya w b _),LB.out j hj (Zya w b _) O,Zya w b _⟩
theorem LB.st1(h:LB w0 L w)(O:Nat→Prop)(j:Nat)(hj:L[j]? =some (b,cs,T)){i:Nat}{B:Array Bool}(hw:StC w [⟨i,b,cs',T⟩] B w')(hB:B.getD i false=true):LB w0 (L.set j (b,cs',T)) w'∧Zyn (lbB O (L.map (·.1))) w w'∧Fr (fun k=>k=b) w w':=by
 have f:Fr (fun k=>k=b) w w':=hw.1.mono (fun k _ hk=>by obtain⟨s,hs,rfl⟩:=hk;rw[List.mem_singleton]at hs;subst hs;rfl);exact⟨h.row j hj ((hw.2 _ (List.mem_singleton.2 rfl)).2 hB) f,LB.out j hj f O,f⟩
end
theorem RT.wide{S O:Nat→Prop}{w:World}{t:T}{cs:List Value}(h:RT O w t cs)(hs:∀k,k<w.heap.size→S k→O k):RT S w t cs:=RT.keep (Fr.refl nob w) (fun _ _ x=>x.elim) hs _ _ h
theorem RT.step{O:Nat→Prop}{bs:List Nat}{b:Nat}{w W:World}{t:T}{cs:List Value}(h:RT (lbB O bs) w t cs)(f:Fr (fun k=>k=b) w W)(hb:b∈bs):RT (lbB O bs) W t cs:=RT.keep f (fun k _ e=>.inr (e▸hb)) (fun _ _ h=>h) _ _ h
section
variable {P:Program} {ops:Array Oper} {K:Array Bool→Act→Prop} {k:Nat} {rest:List Oper} {o:Oper} {a:Act} {L:Array Bool} {w w0:World} {s0:Sto} {v:Value} {LL:List (Nat×Array Value×TypeId)} {b:Nat} {cs:Array Value} {T ty:TypeId} {d:TypeDesc}
theorem Zzm(hn:(s0.i==k)=false):∀s∈[s0],s.i≠k:=fun s hs=>by rw[List.mem_singleton]at hs;subst hs;exact ne_of_beq_false hn
theorem ix_fr{W:World}(f:Fr (stB [s0]) w W):Fr (fun k=>k=s0.b) w W:=f.mono (fun k _ hk=>by obtain⟨s,hs,rfl⟩:=hk;rw[List.mem_singleton]at hs;subst hs;rfl)
theorem ix_val(v:Value)(hw:Region.wanted o (yielded ops a.tmps)=true)(hn:(s0.i==k)=false)(hr:∀W,(execOp a.eval o).run P W=.ok (.value v) W)(h:wpI P ops (StC w [s0]) K (k+1) rest (L.setIfInBounds k true) (a.put o.dst v)):wpI P ops (StC w [s0]) K k (o::rest) L a:=
 ⟨v,.val hw (Zzm hn) (fun W _=>hr W),h⟩
theorem ZzJ(hl:LB w0 LL w)(j:Nat)(hj:LL[j]? =some (b,cs,T))(hw:Region.wanted o (yielded ops a.tmps)=true)(hn:(s0.i==k)=false)(x:Operand)(ho:o.op=.load ty x)(hx:a.eval x=.pointer (some ⟨b,0,none⟩))
 (hu:P.underlying ty=some d) (hd:(match d with| .struct _| .array _ _=>true|_=>false)=true) (hi:(P.info? ty).map (·.size)=some cs.size) (hb:b≠s0.b)
 (h:wpI P ops (StC w [s0]) K (k+1) rest (L.setIfInBounds k true) (a.put o.dst (.agg cs))):wpI P ops (StC w [s0]) K k (o::rest) L a:=
 ⟨_,.val hw (Zzm hn) (fun W f=>by
   unfold execOp;simp only[ho,hx,Instr.loadAt,Instr.sureAddr,Sem.run_bind,Sem.run_pure,Result.andThen_ok,run_loadVar_row W b T ty cs (0,0) d ((ix_fr f).heap (hl.get j hj) hb) hu hd hi]),h⟩
theorem ZyF(hl:LB w0 LL w)(j:Nat)(hj:LL[j]? =some (b,cs,T))(i:Nat)(hc:cs[i]? =some v)(hw:Region.wanted o (yielded ops a.tmps)=true)(hn:(s0.i==k)=false)(x:Operand)(ho:o.op=.load ty x)(hx:a.eval x=.pointer (some ⟨b,i,none⟩))
 (hr:∀(p:Addr) W,Sem.run P (loadVar ty p) W=Sem.run P (load p) W) (hb:b≠s0.b)
 (h:wpI P ops (StC w [s0]) K (k+1) rest (L.setIfInBounds k true) (a.put o.dst v)):wpI P ops (StC w [s0]) K k (o::rest) L a:=
 ⟨v,.val hw (Zzm hn) (fun W f=>by
   have hcell:W.cell? ⟨b,i,none⟩=some v:=cell_at ((ix_fr f).heap (hl.get j hj) hb) hc;unfold execOp;simp only[ho,hx,Instr.loadAt,Instr.sureAddr,Sem.run_bind,Sem.run_pure,Result.andThen_ok,hr];simp[go_sem,hcell]),h⟩
theorem ZAk{f:FuncId}{args:Array Value}(hr:∀W,(execOp a.eval o).run P W=.ok (.enter f args) W)(hw:Region.wanted o (yielded ops a.tmps)=true)(hn:(s0.i==k)=false)
 (hc:∀W,Fr (fun k=>k=s0.b) w W→Calls P f args W fun e W'=>e=.returned v∧Fr nob W W')
 (h:wpI P ops (StC w [s0]) K (k+1) rest (L.setIfInBounds k true) (a.put o.dst v)):wpI P ops (StC w [s0]) K k (o::rest) L a:=⟨v,.calls hw (Zzm hn) hr (fun W f=>hc W (ix_fr f)),h⟩
theorem Zy5(hk:k=s0.i)(hw:Region.wanted o (yielded ops a.tmps)=true)(x y:Operand)(ho:o.op=.store ty x y)(hx:a.eval x=.pointer (some ⟨s0.b,0,none⟩))(hy:a.eval y=.agg s0.v)
 (hz:(P.info? ty).map (·.size)=some s0.v.size) (h1:s0.v.all (·.oneCell')=true) (hin:decide (s0.i<ops.size)=true)
 (h:wpI P ops (StC w [s0]) K (k+1) rest (L.setIfInBounds k true) (a.put o.dst undef)):wpI P ops (StC w [s0]) K k (o::rest) L a:=
 ⟨_,.sto hw (List.mem_singleton.2 rfl) hk.symm (fun s' hs'=>.inl (List.mem_singleton.1 hs')) ty x y ho hx hy hz h1 (by rw[hk];exact of_decide_eq_true hin),h⟩
theorem Zy6(h:K L a):wpI P ops (StC w [s0]) K k [] L a:=h
theorem LB.ix{id:Nat}{Q:Exit→Act→World→Prop}{l:List Oper}(hl:LB w0 LL w)(n j:Nat)(i:Nat)(cs':Array Value)(hj:LL[j]? =some (b,cs,T))(hs:cs.size=cs'.size)(hm:P.follows .mixedOrders=true)(hB:Region.lexTailB .any l.toArray n=true)
 (h:wpI P l.toArray (StC w [⟨i,b,cs',T⟩]) (fun L a'=>∀w',StC w [⟨i,b,cs',T⟩] L w'→wpList P l.toArray Q (l.drop n) a' w') 0 (l.take n) (Array.replicate l.length false) a):(Code.region id l.toArray true).wp P Q a w:=
 ZyK n hm hB (StC.init (fun s hx=>by rw[List.mem_singleton]at hx;subst hx;exact⟨cs,hl.get j hj,hs⟩)) h
end
def StN(w:World)(s0:Sto)(ia:Nat)(na:Array Value)(ta:TypeId)(L:Array Bool)(W:World):Prop:=
 StC w [s0] L W∧s0.b<w.heap.size∧w.heap.size≤W.heap.size∧(L.getD ia false=false→W.heap.size=w.heap.size)∧(L.getD ia false=true→W.heap[w.heap.size]? =some (.cells na ta (0,0)))
section
variable {P:Program} {ops:Array Oper} {K:Array Bool→Act→Prop} {k:Nat} {rest:List Oper} {o:Oper} {a:Act} {L:Array Bool} {w w0:World} {s0:Sto} {v:Value} {LL:List (Nat×Array Value×TypeId)} {b:Nat} {cs:Array Value} {T ty:TypeId} {d:TypeDesc} {ia:Nat} {na:Array Value} {ta:TypeId}
theorem StN.next{W:World}{i:Nat}(h1:(s0.i==i)=false)(h2:(ia==i)=false)(h:StN w s0 ia na ta L W):StN w s0 ia na ta (L.setIfInBounds i true) W:=by
 obtain⟨a1,a2,a3,a4,a5⟩:=h;refine⟨a1.next (Zzm h1),a2,a3,fun e=>a4 ?_,fun e=>a5 ?_⟩
 ·rwa[getD_set_ne false (Ne.symm (ne_of_beq_false h2))]at e
 ·rwa[getD_set_ne false (Ne.symm (ne_of_beq_false h2))]at e
theorem Zz6(v:Value)(hw:Region.wanted o (yielded ops a.tmps)=true)(hn:(s0.i==k)=false)(hn2:(ia==k)=false)(hr:∀W,(execOp a.eval o).run P W=.ok (.value v) W)(h:wpI P ops (StN w s0 ia na ta) K (k+1) rest (L.setIfInBounds k true) (a.put o.dst v)):wpI P ops (StN w s0 ia na ta) K k (o::rest) L a:=
 ⟨v,.inl ⟨hw,fun L W _ _ hC=>by rw[hr W];exact⟨hC.next hn hn2,rfl⟩⟩,h⟩
theorem ZAI(hl:LB w0 LL w)(j:Nat)(hj:LL[j]? =some (b,cs,T))(hw:Region.wanted o (yielded ops a.tmps)=true)(hn:(s0.i==k)=false)(hn2:(ia==k)=false)(x:Operand)(ho:o.op=.load ty x)(hx:a.eval x=.pointer (some ⟨b,0,none⟩))
 (hu:P.underlying ty=some d) (hd:(match d with| .struct _| .array _ _=>true|_=>false)=true) (hi:(P.info? ty).map (·.size)=some cs.size) (hb:b≠s0.b)
 (h:wpI P ops (StN w s0 ia na ta) K (k+1) rest (L.setIfInBounds k true) (a.put o.dst (.agg cs))):wpI P ops (StN w s0 ia na ta) K k (o::rest) L a:=
 ⟨_,.inl ⟨hw,fun L W _ _ hC=>by
   have e:(execOp a.eval o).run P W=.ok (.value (.agg cs)) W:=by
    unfold execOp;simp only[ho,hx,Instr.loadAt,Instr.sureAddr,Sem.run_bind,Sem.run_pure,Result.andThen_ok,run_loadVar_row W b T ty cs (0,0) d ((ix_fr hC.1.1).heap (hl.get j hj) hb) hu hd hi]
   rw[e];exact⟨hC.next hn hn2,rfl⟩⟩,h⟩
theorem ZAJ(hk:k=ia)(hw:Region.wanted o (yielded ops a.tmps)=true)(hn:(s0.i==k)=false)(v:Value)(hr:∀W,W.heap.size=w.heap.size→(execOp a.eval o).run P W=.ok (.value v) (W.alloc (.cells na ta)))
 (h:wpI P ops (StN w s0 ia na ta) K (k+1) rest (L.setIfInBounds k true) (a.put o.dst v)):wpI P ops (StN w s0 ia na ta) K k (o::rest) L a:=
 ⟨v,.inl ⟨hw,fun L W hL hu hC=>by
   obtain⟨a1,a2,a3,a4,a5⟩:=hC;subst hk;have hsz:=a4 (getD_both hu);rw[hr W hsz];refine⟨⟨(a1.next (Zzm hn)).on ((Fr.refl nob W).alloc _),a2,by simp;omega,fun e=> ?_,fun _=>by rw[←hsz];exact heap_alloc_new W _⟩,rfl⟩;have hlt:k<L.size:=by
    refine Nat.lt_of_not_le fun hle=> ?_;simp[Array.getElem?_eq_none hle]at hu
   simp[hlt]at e⟩,h⟩
theorem ZAK(hk:k=s0.i)(hn2:(ia==k)=false)(hw:Region.wanted o (yielded ops a.tmps)=true)(x y:Operand)(ho:o.op=.store ty x y)(hx:a.eval x=.pointer (some ⟨s0.b,0,none⟩))(hy:a.eval y=.agg s0.v)
 (hz:(P.info? ty).map (·.size)=some s0.v.size) (h1:s0.v.all (·.oneCell')=true) (hin:decide (s0.i<ops.size)=true)
 (h:wpI P ops (StN w s0 ia na ta) K (k+1) rest (L.setIfInBounds k true) (a.put o.dst undef)):wpI P ops (StN w s0 ia na ta) K k (o::rest) L a:=
 ⟨_,.inl ⟨hw,fun L W hL _ hC=>by
   obtain⟨a1,a2,a3,a4,a5⟩:=hC;obtain⟨old,hg,hn⟩:=(a1.2 s0 (List.mem_singleton.2 rfl)).1;have e:(execOp a.eval o).run P W=.ok .skip (W.setRow s0.b s0.v):=by
    unfold execOp;simp only[ho,hx,hy,Instr.storeAt,Instr.sureAddr,Sem.run_bind,Sem.run_pure,Result.andThen_ok,run_storeVar_row W s0.b s0.t ty old s0.v hg hz hn h1]
   rw[e];have c:=setRow_heap W s0.b old s0.v s0.t (0,0) hg;refine⟨⟨⟨a1.1.trans (Zya W s0.b s0.v) (fun k _ e=>by subst e;exact⟨s0,List.mem_singleton.2 rfl,rfl⟩),fun s' hs'=> ?_⟩,a2,by simpa using a3,fun e=> ?_,fun e=> ?_⟩,rfl⟩
   ·rw[List.mem_singleton]at hs';subst hs';exact⟨⟨_,c,rfl⟩,fun _=>c⟩
   ·rw[getD_set_ne false (Ne.symm (ne_of_beq_false hn2))]at e;simpa using a4 e
   ·rw[getD_set_ne false (Ne.symm (ne_of_beq_false hn2))]at e;rw[setRow_other W s0.b w.heap.size s0.v (by omega)];exact a5 e⟩,h⟩
theorem ZAL(h:K L a):wpI P ops (StN w s0 ia na ta) K k [] L a:=h
theorem LB.nx{id:Nat}{Q:Exit→Act→World→Prop}{l:List Oper}(hl:LB w0 LL w)(n j:Nat)(i:Nat)(cs':Array Value)(ia:Nat)(na:Array Value)(ta:TypeId)(hj:LL[j]? =some (b,cs,T))(hs:cs.size=cs'.size)(hm:P.follows .mixedOrders=true)(hB:Region.lexTailB .any l.toArray n=true)
 (h:wpI P l.toArray (StN w ⟨i,b,cs',T⟩ ia na ta) (fun L a'=>∀w',StN w ⟨i,b,cs',T⟩ ia na ta L w'→wpList P l.toArray Q (l.drop n) a' w') 0 (l.take n) (Array.replicate l.length false) a):(Code.region id l.toArray true).wp P Q a w:=
 ZyK n hm hB ⟨StC.init (fun s hx=>by rw[List.mem_singleton]at hx;subst hx;exact⟨cs,hl.get j hj,hs⟩),lt_heap (hl.get j hj),Nat.le_refl _,fun _=>rfl,fun e=>by rw[getD_replicate_false]at e;exact Bool.noConfusion e⟩ h
end
theorem ZyO{P:Program}{fn:Func}{t t2:Tmp}{T1 T2:TypeId}(h:fn.results= #[.cell t T1,.cell t2 T2]){tmps:Array Value}{r r2:Nat}(ht:tmps.getD t undef=.pointer (some ⟨r,0,none⟩))(ht2:tmps.getD t2 undef=.pointer (some ⟨r2,0,none⟩)){W:World}{cs cs2:Array Value}{X X2:TypeId}{d d2:TypeDesc}
 (hb:W.heap[r]? =some (.cells cs X (0,0))) (hb2:W.heap[r2]? =some (.cells cs2 X2 (0,0))) (hu:P.underlying T1=some d) (hd:(match d with| .struct _| .array _ _=>true|_=>false)=true) (hi:(P.info? T1).map (·.size)=some cs.size)
 (hu2:P.underlying T2=some d2) (hd2:(match d2 with| .struct _| .array _ _=>true|_=>false)=true) (hi2:(P.info? T2).map (·.size)=some cs2.size):
 (results fn tmps).run P W=.ok (.tuple #[.agg cs,.agg cs2]) W:=by
 have b:tmps[t]?.getD undef=.pointer (some ⟨r,0,none⟩):=by simpa using ht
 have a:tmps[t2]?.getD undef=.pointer (some ⟨r2,0,none⟩):=by simpa using ht2
 simp[results,h,b,a,asAddr,run_loadVar_row W r X T1 cs (0,0) d hb hu hd hi,run_loadVar_row W r2 X2 T2 cs2 (0,0) d2 hb2 hu2 hd2 hi2]
theorem Zyr{T:TypeId}{d:TypeDesc}(hu:Tryz.prog.underlying T=some d)(hd:(match d with| .struct _| .array _ _=>true|_=>false)=false)(a:Addr)(w:World):
 Sem.run Tryz.prog (loadVar T a) w=Sem.run Tryz.prog (load a) w:=by
 have b:(isAgg T).run Tryz.prog w=.ok false w:=by
  unfold isAgg;rw[Sem.run_bind,run_underlying hu w];cases d<;>simp_all
 simp[loadVar,Sem.run_bind,b]
theorem Zx3(a:Addr)(w:World):Sem.run Tryz.prog (loadVar 3 a) w=Sem.run Tryz.prog (load a) w:=Zyr Tryz.underlying3 rfl a w
theorem Zx4(a:Addr)(w:World):Sem.run Tryz.prog (loadVar 9 a) w=Sem.run Tryz.prog (load a) w:=Zyr Tryz.underlying9 rfl a w
theorem Zx1(a:Addr)(w:World):Sem.run Tryz.prog (loadVar 4 a) w=Sem.run Tryz.prog (load a) w:=Zyr Tryz.underlying4 rfl a w
theorem Zx2(a:Addr)(w:World):Sem.run Tryz.prog (loadVar 81 a) w=Sem.run Tryz.prog (load a) w:=Zyr Tryz.underlying81 rfl a w
theorem Zyb(a:Addr)(w:World):Sem.run Tryz.prog (loadVar 37 a) w=Sem.run Tryz.prog (load a) w:=Zyr Tryz.underlying37 rfl a w
theorem Zx9{w:World}{b j:Nat}{i:Int}(hc:(w.cell? ⟨b,j,none⟩).isSome=true)(hf:w.frozen? ⟨b,j,none⟩=false):
 Sem.run Tryz.prog (storeVar 3 ⟨b,j,none⟩ (.int .i64 i)) w=.ok () (w.setCell ⟨b,j,none⟩ (.int .i64 i)):=by
 obtain⟨old,ho⟩:=Option.isSome_iff_exists.1 hc;have a:(Value.int IntKind.i64 i).cells= #[.int .i64 i]:=rfl;have hi:(Tryz.prog.info? 3).map (·.size)=some 1:=by kernel_rfl
 cases hq:Tryz.prog.info? 3 with
 |none=>rw[hq]at hi;cases hi
 |some q=>
  have hs:q.size=1:=by simpa[hq]using hi
  simp[storeVar,sizeOf,typeInfo,hq,a,hs,go_sem,ho,hf]
theorem info_dR:(Tryz.prog.info? 123).map (·.size)=some 8:=by kernel_rfl
theorem info_dT:(Tryz.prog.info? 36).map (·.size)=some 9:=by kernel_rfl
theorem info_dS:(Tryz.prog.info? 33).map (·.size)=some 4:=by kernel_rfl
theorem one_dS(a b c d:Int):(#[.int .u64 a,.int .u64 b,.int .u64 c,.int .u64 d]:Array Value).all (·.oneCell')=true:=by simp[Value.oneCell']
theorem one_dR(l:List UInt8)(ere:Bool)(s:RxS)(ca:Option Addr)(cc:Nat)(ma:Option Addr)(mc:Nat)(e p:Int):(rC l ere s ca cc ma mc e p).all (·.oneCell')=true:=by simp[Value.oneCell']
theorem one_dT(k a b c d:Int)(x:Option Addr)(n m:Nat)(mn mx nu:Int):(#[.int .i64 k,.int .u64 a,.int .u64 b,.int .u64 c,.int .u64 d,.slice x n m,.int .i64 mn,.int .i64 mx,.int .i64 nu]:Array Value).all (·.oneCell')=true:=by simp[Value.oneCell']
theorem Zx0{cs:List Value}(h:∀v∈cs,v.oneCell'=true):cs.toArray.all (·.oneCell')=true:=Array.all_eq_true_iff_forall_mem.2 (fun v hv=>h v (by simpa using hv))
abbrev zT9:Array Value:= #[.int .i64 0,.int .u64 0,.int .u64 0,.int .u64 0,.int .u64 0,.slice none 0 0,.int .i64 0,.int .i64 0,.int .i64 0]
theorem LB.three(w:World)(r:Array Value):LB w [(w.heap.size,r,123),(w.heap.size+1,zR,123),(w.heap.size+2,zT9,36)] (((w.alloc (.cells r 123)).alloc (.cells zR 123)).alloc (.cells zT9 36)):=
 ((LB.nil w).push r _ _ rfl |>.push zR _ _ (by simp)).push zT9 _ _ (by simp)
open Go.RowKit
structure ES where
 r:RxS
 x:Option (Int×Nat)
def ES.go(s:ES)(n:Nat):ES:=⟨s.r.go n,s.x⟩
def ES.to(s:ES)(n:Nat):ES:=⟨s.r.to n,s.x⟩
def ES.mark(s:ES)(t:List UInt8):ES:=⟨s.r.mark t,s.x⟩
def ES.fail(l:List UInt8)(s:ES)(e:Int)(p:Nat):ES:=⟨s.r.to l.length,some (s.x.getD (e,p))⟩
section
variable (l:List UInt8)
def Zds(s:ES):Int×ES:=(if(ZaQ (l.drop s.r.at_) 0 0).2=0 then -1 else((ZaQ (l.drop s.r.at_) 0 0).1:Int),s.go (ZaQ (l.drop s.r.at_) 0 0).2)
def Zcp(s1:ES)(mn:Int):Int×ES:=if 0≤mn∧l[s1.r.at_]? =some 44 then Zds l (s1.go 1)else(mn,s1)
def Zcq(mn mx:Int)(s2:ES):Bool×ES:=
 if 0≤mn∧l[s2.r.at_]? =some 125 then(decide (mn≤255)&&(decide (mx≤255)&&(decide (mx<0)||decide (mn≤mx))),s2.go 1)else(false,s2)
def Zd8(s:ES):Int×Int×Bool×ES:=
 let a:=Zds l s
 let b:=Zcp l a.2 a.1
 let c:=Zcq l a.1 b.1 b.2
 (a.1,b.1,c.1,c.2)
def ZbR:Nat→ES→Nd→Nd×ES
 |0,s,t=>(t,s)
 |n+1,s,t=>
  if l[s.r.at_]? =some 42 then ZbR n (s.go 1) (.rep t 0 (-1))
  else if l[s.r.at_]? =some 43 then ZbR n (s.go 1) (.rep t 1 (-1))
  else if l[s.r.at_]? =some 63 then ZbR n (s.go 1) (.rep t 0 1)
  else if l[s.r.at_]? =some 123 then
   (if(Zd8 l (s.go 1)).2.2.1 then ZbR n (Zd8 l (s.go 1)).2.2.2 (.rep t (Zd8 l (s.go 1)).1 (Zd8 l (s.go 1)).2.1)else(t,(Zd8 l (s.go 1)).2.2.2.fail l 7 s.r.at_))
  else(t,s)
def ZdK(c:UInt8):Bool:=c==116||(c==119||(c==87||(c==115||(c==83||(decide (49≤c.toNat)&&decide (c.toNat≤57))))))
def ZkG(s:ES):Nd×ES:=
 match l[s.r.at_+1]? with
 |none=>(.nil,s.fail l 11 s.r.at_)
 |some c=>
  let s2:=(if ZdK c then s.mark [92,c]else s).go 2
  if 49≤c.toNat∧c.toNat≤57 then(.back ((c.toNat-48:Nat):Int),if s.r.closed.contains (c.toNat-48)then s2 else s2.fail l 9 s.r.at_)
  else match ZjI c with
   |none=>(.one (spn c.toNat c.toNat),s2.fail l 2 s.r.at_)
   |some (S,_)=>(.one S,s2)
def ZdB(s:ES):ES:=⟨{s.r.go 1 with opened:=s.r.opened+1},s.x⟩
def Zcu(n p:Nat)(s:ES):ES:=
 let s3:=if l[s.r.at_]? =some 41 then s.go 1 else s.fail l 8 p
 ⟨{s3.r with closed:=s3.r.closed++[n]},s3.x⟩
def ZbA(C:Option (ES→Nd×ES))(s:ES):Nd×ES:=
 match C with
 |none=>(.nil,s.fail l 4 s.r.at_)
 |some f=>(.group ((s.r.opened+1:Nat):Int) (f (ZdB s)).1,Zcu l (s.r.opened+1) s.r.at_ (f (ZdB s)).2)
def Zax(C:Option (ES→Nd×ES))(s:ES)(c:UInt8):Nd×ES:=
 if c=40 then ZbA l C s
 else if c=41 then(.nil,s.fail l 8 s.r.at_)
 else if c=92 then ZkG l s
 else if c=91 then
  match prs l (s.r.at_+1)with
  | .inl (e,p)=>(.nil,s.fail l e p)
  | .inr (S,k)=>(.one S,s.to k)
 else if c=46 then(.one (spn 0 255),s.go 1)
 else(.one (spn c.toNat c.toNat),s.go 1)
def Zd9(front:Bool)(s:ES)(c:UInt8):ES:=
 if c=41 then s.fail l 8 s.r.at_
 else if(c=42∨c=43∨c=63∨c=123)∧front=true then s.fail l 10 s.r.at_
 else s
def brX(C:Option (ES→Nd×ES))(inner:Bool):Nat→Bool→ES→List Nd→Nd×ES
 |0,_,s,ps=>(Za2 ps,s)
 |n+1,front,s,ps=>
  match l[s.r.at_]? with
  |none=>(Za2 ps,s)
  |some c=>
   if(c=41∧inner=true)∨c=124 then(Za2 ps,s)
   else if c=94 then brX C inner n true (s.go 1) (ps++[.start])
   else if c=36 then brX C inner n true (s.go 1) (ps++[.fin])
   else if(Zd9 l front s c).x.isSome then(.nil,Zd9 l front s c)
   else
    let a:=Zax l C s c
    let b:=ZbR l (l.length+1) a.2 a.1
    brX C inner n false b.2 (ps++[b.1])
def Zab(C:Option (ES→Nd×ES))(inner:Bool)(s:ES):Nd×ES:=brX l C inner (if sgn l s.r.at_==[94]then l.length+2 else l.length+1) true s []
def Zat(C:Option (ES→Nd×ES))(inner:Bool):Nat→ES→List Nd→Nd×ES
 |0,s,ts=>(Za3 ts,s)
 |n+1,s,ts=>
  if l[s.r.at_]? =some 124 then Zat C inner n (Zab l C inner (s.go 1)).2 (ts++[(Zab l C inner (s.go 1)).1])
  else(Za3 ts,s)
def Zb8(C:Option (ES→Nd×ES))(inner:Bool)(s:ES):Nd×ES:=Zat l C inner (l.length+1) (Zab l C inner s).2 [(Zab l C inner s).1]
def chX:Nat→ES→Nd×ES
 |0=>Zb8 l none true
 |n+1=>Zb8 l (some (chX n)) (decide (n+1<12))
end
theorem ZK{l:List UInt8}{k:Nat}{c:UInt8}(h:l[k]? =some c):k<l.length:=(List.getElem?_eq_some_iff.1 h).1
theorem Sane.goE{l:List UInt8}{s:ES}{n:Nat}(hs:Sane l s.r)(h:s.r.at_+n≤l.length):Sane l (s.go n).r:=Sane.go hs h
theorem Sane.failE{l:List UInt8}{s:ES}(e:Int)(p:Nat)(hs:Sane l s.r):Sane l (s.fail l e p).r:=Sane.to hs hs.le (Nat.le_refl _)
theorem Zf7{l:List UInt8}{s:ES}(hs:Sane l s.r):Sane l (Zds l s).2.r∧s.r.at_≤(Zds l s).2.r.at_∧(Zds l s).2.r.closed=s.r.closed:=by
 obtain⟨b1,b2,b3⟩:=Zdh l s.r.at_ hs.le;exact⟨hs.goE b3,Nat.le_add_right _ _,rfl⟩
theorem Zf8{l:List UInt8}{s:ES}(hs:Sane l s.r):Sane l (Zd8 l s).2.2.2.r∧s.r.at_≤(Zd8 l s).2.2.2.r.at_∧(Zd8 l s).2.2.2.r.closed=s.r.closed:=by
 have h1:=Zf7 hs;have h2:∀s1 mn,Sane l s1.r→Sane l (Zcp l s1 mn).2.r∧s1.r.at_≤(Zcp l s1 mn).2.r.at_∧(Zcp l s1 mn).2.r.closed=s1.r.closed:=fun s1 mn h=>by
  unfold Zcp;split
  ·next e=>
   have:=Zf7 (s:=s1.go 1) (h.goE (ZK e.2));exact⟨this.1,Nat.le_trans (Nat.le_add_right _ _) this.2.1,this.2.2⟩
  ·exact⟨h,Nat.le_refl _,rfl⟩
 have h3:∀mn mx s2,Sane l s2.r→Sane l (Zcq l mn mx s2).2.r∧s2.r.at_≤(Zcq l mn mx s2).2.r.at_∧(Zcq l mn mx s2).2.r.closed=s2.r.closed:=fun mn mx s2 h=>by
  unfold Zcq;split
  ·next e=>exact⟨h.goE (ZK e.2),Nat.le_add_right _ _,rfl⟩
  ·exact⟨h,Nat.le_refl _,rfl⟩
 have h4:=h2 (Zds l s).2 (Zds l s).1 h1.1;have h5:=h3 (Zds l s).1 (Zcp l (Zds l s).2 (Zds l s).1).1 _ h4.1;exact⟨h5.1,Nat.le_trans h1.2.1 (Nat.le_trans h4.2.1 h5.2.1),h5.2.2.trans (h4.2.2.trans h1.2.2)⟩
structure Kp(l:List UInt8)(s:ES)(q:Nd×ES)(d:Nat):Prop where
 sn:Sane l q.2.r
 at_:s.r.at_≤q.2.r.at_
 sz:q.1.size+3*s.r.at_≤3*q.2.r.at_+d
 cl:q.2.r.closed.length+s.r.at_≤s.r.closed.length+q.2.r.at_
theorem Kp.fail{l:List UInt8}{s s2:ES}{t:Nd}{d:Nat}(e:Int)(p:Nat)(hs:Sane l s2.r)(h1:s.r.at_≤l.length)(h2:t.size+3*s.r.at_≤3*l.length+d)(h3:s2.r.closed=s.r.closed):Kp l s (t,s2.fail l e p) d:=
 ⟨hs.failE _ _,h1,h2,by show s2.r.closed.length+_≤_+l.length;rw[h3];omega⟩
theorem Kp.of{l:List UInt8}{s s2:ES}{t:Nd}{d:Nat}(hs:Sane l s2.r)(h1:s.r.at_≤s2.r.at_)(h2:t.size+3*s.r.at_≤3*s2.r.at_+d)(h3:s2.r.closed=s.r.closed):Kp l s (t,s2) d:=
 ⟨hs,h1,h2,by show s2.r.closed.length+_≤_+s2.r.at_;rw[h3];omega⟩
theorem Kp.trans{l:List UInt8}{s s2:ES}{q:Nd×ES}{d d':Nat}(h:Kp l s2 q d)(h1:s.r.at_≤s2.r.at_)(h2:d+3*s.r.at_≤3*s2.r.at_+d')(h3:s2.r.closed.length+s.r.at_≤s.r.closed.length+s2.r.at_):Kp l s q d':=
 ⟨h.sn,Nat.le_trans h1 h.at_,by have:=h.sz;omega,by have:=h.cl;omega⟩
theorem Zb9{l:List UInt8}:∀(n:Nat) (s:ES) (t:Nd),Sane l s.r→Kp l s (ZbR l n s t) t.size
 |0,s,t,hs=>by rw[ZbR];exact Kp.of hs (Nat.le_refl _) (by omega) rfl
 |n+1,s,t,hs=>by
  have one:∀a b,s.r.at_<l.length→Kp l s (ZbR l n (s.go 1) (.rep t a b)) t.size:=fun a b hlt=>
   (Zb9 n (s.go 1) (.rep t a b) (hs.goE hlt)).trans (Nat.le_add_right _ _) (by show 1+t.size+3*s.r.at_≤3*(s.r.at_+1)+t.size;omega) (by show s.r.closed.length+_≤_+(s.r.at_+1);omega)
  rw[ZbR];split
  ·next e=>exact one _ _ (ZK e)
  ·split
   ·next e=>exact one _ _ (ZK e)
   ·split
    ·next e=>exact one _ _ (ZK e)
    ·split
     ·next e=>
      have hlt:=ZK e;obtain⟨i1,i2,i3⟩:=Zf8 (s:=s.go 1) (hs.goE hlt);have i2:s.r.at_+1≤_:=i2;split
      ·exact(Zb9 n _ (.rep t _ _) i1).trans (by omega) (by show 1+t.size+_≤_;omega) (by rw[i3];show s.r.closed.length+_≤_;omega)
      ·exact Kp.fail _ _ i1 hs.le (by have:=hs.le;omega) i3
     ·exact Kp.of hs (Nat.le_refl _) (by omega) rfl
theorem ZkH{l:List UInt8}{s:ES}(hs:Sane l s.r)(hl:s.r.at_<l.length):Kp l s (ZkG l s) 0∧s.r.at_<(ZkG l s).2.r.at_:=by
 unfold ZkG;cases h:l[s.r.at_+1]? with
 |none=>exact⟨Kp.fail _ _ hs hs.le (by show 1+3*s.r.at_≤_;omega) rfl,hl⟩
 |some c=>
  have a:=ZK h;simp only;have h2:Sane l ((if ZdK c then s.mark [92,c]else s).go 2).r:=by
   cases ZdK c
   ·exact hs.goE (by omega)
   ·exact hs.markgo _ (by omega) (by omega)
  have h3:((if ZdK c then s.mark [92,c]else s).go 2).r.at_=s.r.at_+2:=by cases ZdK c<;>rfl
  have h4:((if ZdK c then s.mark [92,c]else s).go 2).r.closed=s.r.closed:=by cases ZdK c<;>rfl
  split
  ·split
   ·exact⟨Kp.of h2 (by omega) (by rw[h3];show 1+3*s.r.at_≤_;omega) h4,by rw[h3];omega⟩
   ·exact⟨Kp.fail _ _ h2 hs.le (by show 1+3*s.r.at_≤_;omega) h4,hl⟩
  ·split
   ·exact⟨Kp.fail _ _ h2 hs.le (by show 1+3*s.r.at_≤_;omega) h4,hl⟩
   ·exact⟨Kp.of h2 (by omega) (by rw[h3];show 1+3*s.r.at_≤_;omega) h4,by rw[h3];omega⟩
section
variable {l:List UInt8} {C:Option (ES→Nd×ES)} (hC:∀f,C=some f→∀s,Sane l s.r→Kp l s (f s) 2)
theorem ZeG{s:ES}(hs:Sane l s.r)(hl:s.r.at_<l.length):Sane l (ZdB s).r:=by
 have hg:=hs.goE (n:=1) hl;have a:=hs.op;exact⟨hg.le,hg.mr,hg.cl,by show s.r.opened+1≤s.r.at_+1;omega⟩
include hC
theorem Zhr{s:ES}(hs:Sane l s.r)(hl:s.r.at_<l.length):Kp l s (ZbA l C s) 0∧s.r.at_<(ZbA l C s).2.r.at_:=by
 unfold ZbA;cases C with
 |none=>exact⟨Kp.fail _ _ hs hs.le (by show 1+3*s.r.at_≤_;omega) rfl,hl⟩
 |some f=>
  simp only;have hk:=hC f rfl (ZdB s) (ZeG hs hl);obtain⟨q,hq⟩:∃q,f (ZdB s)=q:=⟨_,rfl⟩;rw[hq]at hk⊢;obtain⟨k1,k2,k3,k4⟩:=hk;have k2:s.r.at_+1≤_:=k2;have k3:_+3*(s.r.at_+1)≤_:=k3;have k4:_+(s.r.at_+1)≤s.r.closed.length+_:=k4;have b:=hs.cl;unfold Zcu;split
  ·next e=>
   have he:=ZK e;refine⟨⟨⟨he,Nat.le_trans k1.mr (Nat.le_add_right _ _),?_,Nat.le_trans k1.op (Nat.le_add_right _ _)⟩,?_,?_,?_⟩,?_⟩
   ·show(q.2.r.closed++[_]).length≤q.2.r.at_+1;rw[List.length_append];simp only[List.length_singleton];omega
   ·show s.r.at_≤q.2.r.at_+1;omega
   ·show 1+q.1.size+3*s.r.at_≤3*(q.2.r.at_+1)+0;omega
   ·show(q.2.r.closed++[_]).length+_≤_+(q.2.r.at_+1);rw[List.length_append];simp only[List.length_singleton];omega
   ·show s.r.at_<q.2.r.at_+1;omega
  ·have a:=k1.le;refine⟨⟨⟨Nat.le_refl _,Nat.le_trans k1.mr a,?_,Nat.le_trans k1.op a⟩,hs.le,?_,?_⟩,hl⟩
   ·show(q.2.r.closed++[_]).length≤l.length;rw[List.length_append];simp only[List.length_singleton];omega
   ·show 1+q.1.size+3*s.r.at_≤3*l.length+0;omega
   ·show(q.2.r.closed++[_]).length+_≤_+l.length;rw[List.length_append];simp only[List.length_singleton];omega
theorem atomX_kept{s:ES}{c:UInt8}(hs:Sane l s.r)(h:l[s.r.at_]? =some c):Kp l s (Zax l C s c) 0∧s.r.at_<(Zax l C s c).2.r.at_:=by
 have hl:=ZK h;have a:∀e p,Kp l s (.nil,s.fail l e p) 0∧s.r.at_<(s.fail l e p).r.at_:=fun e p=>⟨Kp.fail _ _ hs hs.le (by show 1+3*s.r.at_≤_;omega) rfl,hl⟩;have b:∀S,Kp l s (.one S,s.go 1) 0∧s.r.at_<(s.go 1).r.at_:=fun S=>⟨Kp.of (hs.goE hl) (Nat.le_add_right _ _) (by show 1+3*s.r.at_≤3*(s.r.at_+1)+0;omega) rfl,Nat.lt_succ_self _⟩;unfold Zax;split
 ·exact Zhr hC hs hl
 ·split
  ·exact a _ _
  ·split
   ·exact ZkH hs hl
   ·split
    ·cases hp:prs l (s.r.at_+1)with
     |inl z=>exact a _ _
     |inr y=>
      obtain⟨_,p2,p3⟩:=Zke hp;have p2:s.r.at_+1<y.2:=p2;have p3:y.2≤l.length:=p3;refine⟨Kp.of (Sane.to hs (by omega) p3) (by show s.r.at_≤y.2;omega) (by show 1+3*s.r.at_≤3*y.2+0;omega) rfl,by show s.r.at_<y.2;omega⟩
    ·split
     ·exact b _
     ·exact b _
theorem Zfk{inner:Bool}:∀(n:Nat) (front:Bool) (s:ES) (ps:List Nd),Sane l s.r→Kp l s (brX l C inner n front s ps) (Nd.sizes ps+1)
 |0,front,s,ps,hs=>by rw[brX];exact Kp.of hs (Nat.le_refl _) (by have:=Zbx ps;omega) rfl
 |n+1,front,s,ps,hs=>by
  have hj:Kp l s (Za2 ps,s) (Nd.sizes ps+1):=Kp.of hs (Nat.le_refl _) (by have:=Zbx ps;omega) rfl;rw[brX];cases h:l[s.r.at_]? with
  |none=>exact hj
  |some c=>
   have hl:=ZK h;simp only;have hone:∀t:Nd,t.size=1→Kp l s (brX l C inner n true (s.go 1) (ps++[t])) (Nd.sizes ps+1):=fun t ht=>by
    refine(Zfk n true (s.go 1) _ (hs.goE hl)).trans (Nat.le_add_right _ _) ?_ (by show s.r.closed.length+_≤_+(s.r.at_+1);omega);rw[Nd.sizes_append];have:Nd.sizes [t]=t.size:=by simp[Nd.sizes]
    show _+3*s.r.at_≤3*(s.r.at_+1)+_;omega
   split
   ·exact hj
   ·split
    ·exact hone _ rfl
    ·split
     ·exact hone _ rfl
     ·split
      ·next hx=>
       have hf:(∃e p,Zd9 l front s c=s.fail l e p)∨Zd9 l front s c=s:=by
        unfold Zd9;split
        ·exact .inl ⟨_,_,rfl⟩
        ·split
         ·exact .inl ⟨_,_,rfl⟩
         ·exact .inr rfl
       rcases hf with⟨e,p,hf⟩|hf
       ·rw[hf];exact Kp.fail _ _ hs hs.le (by show 1+3*s.r.at_≤_;omega) rfl
       ·rw[hf];exact Kp.of hs (Nat.le_refl _) (by show 1+3*s.r.at_≤_;omega) rfl
      ·obtain⟨a1,a2⟩:=atomX_kept hC (c:=c) hs h;have b1:=Zb9 (l.length+1) (Zax l C s c).2 (Zax l C s c).1 a1.sn;have k1:=Zfk (inner:=inner) n false (ZbR l (l.length+1) (Zax l C s c).2 (Zax l C s c).1).2 (ps++[(ZbR l (l.length+1) (Zax l C s c).2 (Zax l C s c).1).1]) b1.sn;have c1:=a1.at_;have c2:=b1.at_;have c3:=a1.sz;have c4:=b1.sz;have c5:=a1.cl;have c6:=b1.cl;refine k1.trans (by omega) ?_ (by omega);rw[Nd.sizes_append];have:∀t:Nd,Nd.sizes [t]=t.size:=fun t=>by simp[Nd.sizes]
       rw[this];omega
theorem Zbg{inner:Bool}{s:ES}(hs:Sane l s.r):Kp l s (Zab l C inner s) 1:=Zfk hC _ _ _ _ hs
theorem Zdt{inner:Bool}:∀(n:Nat) (s:ES) (ts:List Nd),Sane l s.r→Kp l s (Zat l C inner n s ts) (Nd.sizes ts+1)
 |0,s,ts,hs=>by rw[Zat];exact Kp.of hs (Nat.le_refl _) (by have:=Zby ts;omega) rfl
 |n+1,s,ts,hs=>by
  rw[Zat];split
  ·next e=>
   have hg:=hs.goE (n:=1) (ZK e);have b1:=Zbg hC (inner:=inner) hg;have k1:=Zdt (inner:=inner) n (Zab l C inner (s.go 1)).2 (ts++[(Zab l C inner (s.go 1)).1]) b1.sn;have c2:=b1.at_;have c4:=b1.sz;have c6:=b1.cl;have c2:s.r.at_+1≤_:=c2;have c4:_+3*(s.r.at_+1)≤_:=c4;have c6:_+(s.r.at_+1)≤s.r.closed.length+_:=c6;refine k1.trans (by omega) ?_ (by omega);rw[Nd.sizes_append];have:∀t:Nd,Nd.sizes [t]=t.size:=fun t=>by simp[Nd.sizes]
   rw[this];omega
  ·exact Kp.of hs (Nat.le_refl _) (by have:=Zby ts;omega) rfl
theorem Zdu{inner:Bool}{s:ES}(hs:Sane l s.r):Kp l s (Zb8 l C inner s) 2:=by
 have b1:=Zbg hC (inner:=inner) hs;have k1:=Zdt hC (inner:=inner) (l.length+1) _ [(Zab l C inner s).1] b1.sn;have c2:=b1.at_;have c4:=b1.sz;have c6:=b1.cl;have:∀t:Nd,Nd.sizes [t]=t.size:=fun t=>by simp[Nd.sizes]
 exact k1.trans c2 (by rw[this];omega) c6
end
theorem chX_kept{l:List UInt8}:∀n s,Sane l s.r→Kp l s (chX l n s) 2
 |0,s,hs=>by rw[chX];exact Zdu (fun f hf=>by cases hf) hs
 |n+1,s,hs=>by rw[chX];exact Zdu (fun f hf=>by injection hf with hf;subst hf;exact chX_kept n) hs
def Rl(l:List UInt8):Out Nd→Nd×ES→Prop
 | .inr (t,r),q=>q=(t,⟨r,none⟩)
 | .inl e,q=>q.2.x=some e∧q.2.r.at_=l.length
def Zcr(l:List UInt8)(e:Int×Nat)(s:ES):Prop:=s.x=some e∧s.r.at_=l.length
section
variable {l:List UInt8} {e:Int×Nat} {s:ES}
theorem Zcr.no(h:Zcr l e s):l[s.r.at_]? =none:=by rw[h.2];simp
theorem Zcr.rep(h:Zcr l e s)(n:Nat)(t:Nd):ZbR l n s t=(t,s):=by
 cases n with
 |zero=>rfl
 |succ n=>rw[ZbR,h.no];simp
theorem Zcr.br(h:Zcr l e s)(C:Option (ES→Nd×ES))(inner:Bool)(n:Nat)(front:Bool)(ps:List Nd):brX l C inner n front s ps=(Za2 ps,s):=by
 cases n with
 |zero=>rfl
 |succ n=>rw[brX,h.no]
theorem Zcr.loop(h:Zcr l e s)(C:Option (ES→Nd×ES))(inner:Bool)(n:Nat)(ts:List Nd):Zat l C inner n s ts=(Za3 ts,s):=by
 cases n with
 |zero=>rfl
 |succ n=>rw[Zat,h.no];simp
theorem Zcr.out(h:Zcr l e s)(n p:Nat):Zcr l e (Zcu l n p s):=by
 unfold Zcu;rw[h.no];simp only[reduceCtorEq,if_false];exact⟨by show some (s.x.getD _)=_;rw[h.1];rfl,rfl⟩
end
theorem ZbS{l:List UInt8}{k:Nat}{c:UInt8}(hc:c≠92):(sgn l k==[c])=decide (l[k]? =some c):=by
 unfold sgn;cases h:l[k]? with
 |none=>simp
 |some b=>
  by_cases a:b=92
  ·subst a;have:¬(92:UInt8)=c:=fun h=>hc h.symm;simp only[if_true];cases l[k+1]? <;>simp[this]
  ·simp only[if_neg a];by_cases d:b=c<;>simp[d]
theorem ZkI{l:List UInt8}{k:Nat}{c:UInt8}(hc:c≠92):ahd l k [c]=decide (l[k]? =some c):=by rw[←ZcT hc,ZbS hc]
theorem Zpy(l:List UInt8)(s:ES):(Zd8 l s).2.2.2.x=s.x:=by
 have h2:∀s1 mn,(Zcp l s1 mn).2.x=s1.x:=fun s1 mn=>by unfold Zcp;split<;>rfl
 have h3:∀mn mx s2,(Zcq l mn mx s2).2.x=s2.x:=fun mn mx s2=>by unfold Zcq;split<;>rfl
 exact(h3 _ _ _).trans (h2 _ _)
theorem Zfl{l:List UInt8}{mn mx:Int}{s:ES}(h:255<mn∨255<mx∨mn<0∨¬l[s.r.at_]? =some 125):(Zcq l mn mx s).1=false:=by
 unfold Zcq;split
 ·next e=>
  rcases h with h|h|h|h
  ·have:¬mn≤255:=by omega
   simp[this]
  ·have:¬mx≤255:=by omega
   simp[this]
  ·omega
  ·exact absurd e.2 h
 ·rfl
theorem Zpz{l:List UInt8}{s:ES}:match ZlJ l true s.r.at_ with
 |none=>(Zd8 l s).2.2.1=false
 |some (m,x,j)=>Zd8 l s=(m,x,true,s.to j):=by
 obtain⟨m,c,hm⟩:∃m c,ZaQ (l.drop s.r.at_) 0 0=(m,c):=⟨_,_,rfl⟩;have hn:Zds l s=(if c=0 then -1 else(m:Int),s.go c):=by unfold Zds;rw[hm]
 have q:(125:UInt8)≠92:=by decide
 have y:(44:UInt8)≠92:=by decide
 unfold ZlJ Zd8 Zp9;rw[hn,hm];simp only[Zcz,ZkI q,ZkI y,List.length_singleton];by_cases hc:c=0
 ·subst hc;have e1:(if 255<m then((0,0):Nat×Nat)else(m,0)).2=0:=by split<;>rfl
  rw[if_pos e1];exact Zfl (.inr (.inr (.inl (by simp))))
 ·simp only[hc,if_false];by_cases i:255<m
  ·rw[if_pos i];simp only[if_true];exact Zfl (.inl (by omega))
  ·simp only[if_neg i,hc,if_false];have a:(m:Int)≤255:=by omega
   have g:(0:Int)≤m:=by omega
   by_cases hk:l[s.r.at_+c]? =some 44
   ·have o:l[(s.go c).r.at_]? =some 44:=hk;have n:Zcp l (s.go c) (m:Int)=Zds l ((s.go c).go 1):=by unfold Zcp;rw[if_pos ⟨g,o⟩]
    rw[n];obtain⟨x,d,hx⟩:∃x d,ZaQ (l.drop (s.r.at_+c+1)) 0 0=(x,d):=⟨_,_,rfl⟩;have B:Zds l ((s.go c).go 1)=(if d=0 then -1 else(x:Int),((s.go c).go 1).go d):=by
     unfold Zds;rw[show((s.go c).go 1).r.at_=s.r.at_+c+1 from rfl,hx]
    rw[B,hx];simp only[hk,decide_true,if_true];have v:∀j,j=s.r.at_+c+1+d+1→(((s.go c).go 1).go d).go 1=s.to j:=fun j h=>by subst h;rfl
    have f:(((s.go c).go 1).go d).r.at_=s.r.at_+c+1+d:=rfl;by_cases e:255<x
    ·have hd:d≠0:=by
      intro h0;subst h0;obtain⟨b,t,ht,u,k⟩:=Zfa hx (by omega);rw[ht,ZaQ,if_pos ⟨u,k,by decide⟩]at hx;have:=num3_ge t 1 (0*10+(b.toNat-48));rw[hx]at this;simp at this
     obtain⟨b,t,ht,u,k⟩:=Zfa hx (by omega);have C:¬l[s.r.at_+c+1]? =some 125:=by
      have:l[s.r.at_+c+1]? =(l.drop (s.r.at_+c+1))[0]? :=by simp
      rw[this,ht];simp only[List.getElem?_cons_zero,Option.some.injEq];rintro rfl;simp at k
     simp only[if_pos e,Nat.lt_irrefl,if_false,hd,Nat.add_zero];rw[if_pos (.inl (by simp[C]))];exact Zfl (.inr (.inl (by omega)))
    ·simp only[if_neg e];by_cases hd:d=0
     ·subst hd;simp only[Nat.lt_irrefl,if_false,Nat.add_zero,if_true];unfold Zcq;rw[f,Nat.add_zero];by_cases hb:l[s.r.at_+c+1]? =some 125
      ·have e1:¬((0:Int)≤ -1∧(-1:Int)<m):=by omega
       rw[if_neg (by simp[hb]),if_pos ⟨g,hb⟩];simp[a,v]
      ·rw[if_pos (by simp[hb]),if_neg (fun h=>hb h.2)]
     ·have z:0<d:=by omega
      simp only[z,if_true,hd,if_false];unfold Zcq;rw[f];have D:(x:Int)≤255:=by omega
      by_cases hb:l[s.r.at_+c+1+d]? =some 125
      ·rw[if_pos (⟨g,hb⟩:(0:Int)≤m∧_)];by_cases A:(x:Int)<m
       ·have w:(0:Int)≤x:=by omega
        have p:¬(m:Int)≤x:=by omega
        have E:¬(x:Int)<0:=by omega
        rw[if_pos (.inr ⟨w,A⟩)];simp[p,E]
       ·have p:(m:Int)≤x:=by omega
        rw[if_neg (by simp[hb];omega)];simp only[v _ rfl];simp[a,D,p]
      ·rw[if_pos (by simp[hb]),if_neg (fun h=>hb h.2)]
   ·have o:¬l[(s.go c).r.at_]? =some 44:=hk;have n:Zcp l (s.go c) (m:Int)=((m:Int),s.go c):=by unfold Zcp;rw[if_neg (fun h=>o h.2)]
    rw[n];simp only[hk,decide_false,Bool.false_eq_true,if_false];have f:(s.go c).r.at_=s.r.at_+c:=rfl;unfold Zcq;rw[f];by_cases hb:l[s.r.at_+c]? =some 125
    ·rw[if_neg (by simp[hb]),if_pos ⟨g,hb⟩];simp[a,ES.go,ES.to,RxS.go,RxS.to]
    ·rw[if_pos (by simp[hb]),if_neg (fun h=>hb h.2)]
section
variable {l:List UInt8}
theorem repX_D:∀(n:Nat) (r:RxS) (t:Nd),Rl l (Ze8 prg true l n r t) (ZbR l n ⟨r,none⟩ t)
 |0,r,t=>rfl
 |n+1,r,t=>by
  rw[Ze8,ZbR];simp only[Zcz,ZbS (show(42:UInt8)≠92 by decide),ZbS (show(43:UInt8)≠92 by decide),ZbS (show(63:UInt8)≠92 by decide),ZbS (show(123:UInt8)≠92 by decide),decide_eq_true_eq,if_true,List.length_singleton];split
  ·exact repX_D n _ _
  ·split
   ·exact repX_D n _ _
   ·split
    ·exact repX_D n _ _
    ·split
     ·have hi:=Zpz (l:=l) (s:=(⟨r,none⟩:ES).go 1);rw[show((⟨r,none⟩:ES).go 1).r.at_=r.at_+1 from rfl]at hi;cases hd:ZlJ l true (r.at_+1)with
      |none=>
       rw[hd]at hi;simp only at hi;simp only[hi,Bool.false_eq_true,if_false];refine⟨?_,rfl⟩;show some (Option.getD _ _)=_;rw[Zpy];rfl
      |some q=>
       obtain⟨m,x,j⟩:=q;rw[hd]at hi;simp only at hi;simp only[hi,if_true];exact repX_D n _ _
     ·rfl
theorem Zml{b:UInt8}{c:S4}{m:Bool}(hb:¬(49≤b.toNat∧b.toNat≤57))(h:ZjI b=some (c,m)):ZdK b=m:=by
 have hd:(decide (49≤b.toNat)&&decide (b.toNat≤57))=false:=by
  cases hq:(decide (49≤b.toNat)&&decide (b.toNat≤57))with
  |false=>rfl
  |true=>simp at hq;exact absurd hq hb
 unfold ZjI at h;unfold ZdK;rw[hd];split at h
 ·next e=>subst e;simp only[Option.some.injEq,Prod.mk.injEq]at h;obtain⟨_,rfl⟩:=h;decide
 ·split at h
  ·next e=>subst e;simp only[Option.some.injEq,Prod.mk.injEq]at h;obtain⟨_,rfl⟩:=h;decide
  ·split at h
   ·next e=>subst e;simp only[Option.some.injEq,Prod.mk.injEq]at h;obtain⟨_,rfl⟩:=h;decide
   ·split at h
    ·next e=>subst e;simp only[Option.some.injEq,Prod.mk.injEq]at h;obtain⟨_,rfl⟩:=h;decide
    ·split at h
     ·next e=>subst e;simp only[Option.some.injEq,Prod.mk.injEq]at h;obtain⟨_,rfl⟩:=h;decide
     ·split at h
      ·next e=>subst e;simp only[Option.some.injEq,Prod.mk.injEq]at h;obtain⟨_,rfl⟩:=h;decide
      ·split at h
       ·simp only[Option.some.injEq,Prod.mk.injEq]at h;obtain⟨_,rfl⟩:=h;simp[*]
       ·cases h
theorem ZpA{r:RxS}{b:UInt8}(h:l[r.at_+1]? =some b):Rl l (escD prg true r b) (ZkG l ⟨r,none⟩):=by
 unfold escD ZkG;simp only[h];split
 ·next hd=>
  have hm:ZdK b=true:=by unfold ZdK;simp[hd.1,hd.2]
  simp only[hm,if_true];split
  ·rfl
  ·exact⟨rfl,rfl⟩
 ·next hd=>
  cases he:ZjI b with
  |none=>cases ZdK b<;>exact⟨rfl,rfl⟩
  |some q=>
   obtain⟨c,m⟩:=q;simp only[Zml hd he];cases m<;>rfl
variable {C:Option (RxS→Out Nd)} {D:Option (ES→Nd×ES)} (hC:match C,D with|none,none=>True|some f,some g=>∀r,Rl l (f r) (g ⟨r,none⟩)|_,_=>False)
include hC
theorem Zmm(r:RxS):Rl l (Zct prg true l C r) (ZbA l D ⟨r,none⟩):=by
 unfold Zct ZbA
 match C,D,hC with
 |none,none,_=>exact⟨rfl,rfl⟩
 |some f,some g,hC=>
  simp only[Zcz,List.length_singleton,ZbS (show(41:UInt8)≠92 by decide),decide_eq_true_eq];have h:=hC {r.go 1 with opened:=r.opened+1};have hg:ZdB ⟨r,none⟩=⟨{r.go 1 with opened:=r.opened+1},none⟩:=rfl;rw[hg];cases hf:f {r.go 1 with opened:=r.opened+1}with
  |inl e=>rw[hf]at h;exact Zcr.out h _ _
  |inr q=>
   obtain⟨t,r1⟩:=q;rw[hf]at h;have h:g _=_:=h;rw[h];simp only;unfold Zcu;split
   ·rfl
   ·exact⟨rfl,rfl⟩
theorem Zn5(r:RxS){c:UInt8}(h:l[r.at_]? =some c):Rl l (ZcS prg true l C r) (Zax l D ⟨r,none⟩ c):=by
 have hs:∀b:UInt8,b≠92→(sgn l r.at_==[b])=decide (c=b):=fun b hb=>by rw[ZbS hb,h];simp
 unfold ZcS Zax;simp only[Zcz,hs 40 (by decide),hs 41 (by decide),hs 91 (by decide),hs 46 (by decide),decide_eq_true_eq];by_cases e:c=40
 ·simp only[e,if_true];exact Zmm hC r
 ·simp only[if_neg e];by_cases f:c=41
  ·simp only[f,if_true];exact⟨rfl,rfl⟩
  ·simp only[if_neg f];by_cases d:c=92
   ·subst d;simp only[show¬(92:UInt8)=91 by decide,show¬(92:UInt8)=46 by decide,if_false,if_true];cases h2:l[r.at_+1]? with
    |none=>
     have a:sgn l r.at_=[92]:=by unfold sgn;rw[h];simp only[if_true,h2]
     rw[a];unfold ZkG;simp only[h2];exact⟨rfl,rfl⟩
    |some b=>
     have a:sgn l r.at_=[92,b]:=by unfold sgn;rw[h];simp only[if_true,h2]
     rw[a];have:([92,b]==[(92:UInt8)])=false:=by simp
     simp only[this,Bool.false_eq_true,if_false];exact ZpA h2
   ·simp only[if_neg d];have a:sgn l r.at_=[c]:=by unfold sgn;rw[h];simp only[if_neg d]
    rw[a];by_cases i:c=91
    ·simp only[i,if_true];cases prs l (r.at_+1)with
     |inl z=>exact⟨rfl,rfl⟩
     |inr y=>rfl
    ·simp only[if_neg i];by_cases g:c=46
     ·simp only[g,if_true];rfl
     ·have:([c]==[(92:UInt8)])=false:=by simp[d]
      simp only[if_neg g,this,Bool.false_eq_true,if_false];rfl
theorem Zmn{inner:Bool}:∀(n:Nat) (first front:Bool) (r:RxS) (ps:List Nd),Rl l (brD prg true l C inner n first front r ps) (brX l D inner n front ⟨r,none⟩ ps)
 |0,first,front,r,ps=>rfl
 |n+1,first,front,r,ps=>by
  rw[brD,brX];simp only[Zcz,Bool.true_or,Bool.and_true,Bool.true_and];cases h:l[r.at_]? with
  |none=>
   have hsg:sgn l r.at_=[]:=by unfold sgn;rw[h]
   simp only[hsg,beq_self_eq_true,Bool.true_or,if_true];rfl
  |some c=>
   have hs:∀b:UInt8,b≠92→(sgn l r.at_==[b])=decide (c=b):=fun b hb=>by rw[ZbS hb,h];simp
   have d:(sgn l r.at_==[])=false:=by rw[Ze9];have:=ZK h;simp;omega
   simp only[hs 124 (by decide),hs 41 (by decide),hs 94 (by decide),hs 36 (by decide),hs 123 (by decide),hs 43 (by decide),hs 63 (by decide),hs 42 (by decide),d,Bool.false_or,Bool.or_eq_true,Bool.and_eq_true,decide_eq_true_eq];by_cases h1:(c=41∧inner=true)∨c=124
   ·rw[if_pos h1,if_pos (h1.symm)];rfl
   ·rw[if_neg h1,if_neg (fun h=>h1 h.symm)];by_cases h2:c=94
    ·rw[if_pos h2,if_pos h2];exact Zmn n _ _ _ _
    ·rw[if_neg h2,if_neg h2];by_cases h3:c=36
     ·rw[if_pos h3,if_pos h3];exact Zmn n _ _ _ _
     ·rw[if_neg h3,if_neg h3];by_cases h4:c=41
      ·have hf:Zd9 l front ⟨r,none⟩ c=ES.fail l ⟨r,none⟩ 8 r.at_:=by unfold Zd9;rw[if_pos h4]
       rw[hf];have ha:ZcS prg true l C r=.inl (8,r.at_):=by
        unfold ZcS;simp only[Zcz,hs 40 (by decide),hs 41 (by decide),h4];rfl
       rw[ha];have:¬(front=true∧(c=123∨c=43∨c=63∨c=42)):=by subst h4;simp
       rw[if_neg this];exact⟨rfl,rfl⟩
      ·by_cases h5:front=true∧(c=123∨c=43∨c=63∨c=42)
       ·have hf:Zd9 l front ⟨r,none⟩ c=ES.fail l ⟨r,none⟩ 10 r.at_:=by
         unfold Zd9;rw[if_neg h4,if_pos ⟨by rcases h5.2 with h|h|h|h<;>simp[h],h5.1⟩]
        rw[hf,if_pos h5];exact⟨rfl,rfl⟩
       ·have hf:Zd9 l front ⟨r,none⟩ c=⟨r,none⟩:=by
         unfold Zd9;rw[if_neg h4,if_neg (fun h=>h5 ⟨h.2,by rcases h.1 with h|h|h|h<;>simp[h]⟩)]
        rw[hf,if_neg h5];simp only[Option.isSome_none,Bool.false_eq_true,if_false];have ha:=Zn5 hC r h;cases hd:ZcS prg true l C r with
        |inl e=>
         rw[hd]at ha;have ha:Zcr l e _:=ha;simp only;rw[ha.rep];rw[ha.br];exact ha
        |inr q=>
         obtain⟨t,r1⟩:=q;rw[hd]at ha;have ha:Zax l D ⟨r,none⟩ c=_:=ha;rw[ha];simp only;have hr:=repX_D (l:=l) (l.length+1) r1 t;cases a:Ze8 prg true l (l.length+1) r1 t with
         |inl e=>
          rw[a]at hr;have hr:Zcr l e _:=hr;simp only;rw[hr.br];exact hr
         |inr q=>
          obtain⟨t2,r2⟩:=q;rw[a]at hr;have hr:ZbR l _ ⟨r1,none⟩ t=_:=hr;rw[hr];exact Zmn n _ _ _ _
theorem Zf9{inner:Bool}(r:RxS):Rl l (Zb7 prg true l C inner r) (Zab l D inner ⟨r,none⟩):=Zmn hC _ _ _ _ _
theorem Zga{inner:Bool}:∀(n:Nat) (r:RxS) (ts:List Nd),Rl l (Zar prg true l C inner n r ts) (Zat l D inner n ⟨r,none⟩ ts)
 |0,r,ts=>rfl
 |n+1,r,ts=>by
  rw[Zar,Zat];simp only[Zcz,ZbS (show(124:UInt8)≠92 by decide),decide_eq_true_eq,if_true,List.length_singleton];split
  ·have hb:=Zf9 hC (inner:=inner) (r.go 1);cases hd:Zb7 prg true l C inner (r.go 1)with
   |inl e=>
    rw[hd]at hb;have hb:Zcr l e (Zab l D inner ((⟨r,none⟩:ES).go 1)).2:=hb;simp only;rw[hb.loop];exact hb
   |inr q=>
    obtain⟨t,r1⟩:=q;rw[hd]at hb;have hb:Zab l D inner ((⟨r,none⟩:ES).go 1)=_:=hb;rw[hb];exact Zga n _ _
  ·rfl
theorem Zgb{inner:Bool}(r:RxS):Rl l (choiceD prg true l C inner r) (Zb8 l D inner ⟨r,none⟩):=by
 unfold choiceD Zb8;have hb:=Zf9 hC (inner:=inner) r;cases hd:Zb7 prg true l C inner r with
 |inl e=>
  rw[hd]at hb;have hb:Zcr l e _:=hb;simp only;rw[hb.loop];exact hb
 |inr q=>
  obtain⟨t,r1⟩:=q;rw[hd]at hb;have hb:Zab l D inner ⟨r,none⟩=_:=hb;rw[hb];exact Zga hC _ _ _
end
theorem ZpB{l:List UInt8}:∀(n:Nat) (r:RxS),Rl l (chD prg true l n r) (chX l n ⟨r,none⟩)
 |0,r=>by rw[chD,chX];exact Zgb (C:=none) (D:=none) trivial r
 |n+1,r=>by rw[chD,chX];exact Zgb (C:=some (chD prg true l n)) (D:=some (chX l n)) (ZpB n) r
open Go.Lib (hid)
def Zbk(l:List UInt8):List Value:=l.map fun c=>.int .i32 (c.toNat:Int)
def eX(x:Option (Int×Nat)):Int:=match x with|none=>0|some z=>z.1
def pX(x:Option (Int×Nat)):Int:=match x with|none=>0|some z=>(z.2:Int)
abbrev erC(l:List UInt8)(s:ES)(sv:Value)(m:Nat)(mv:Value):Array Value:=
 #[.string ⟨l.toArray⟩,sv,.int .i64 s.r.at_,.int .i64 s.r.opened,.map (some m),mv,.int .i64 (eX s.x),.int .i64 (pX s.x)]
structure Er(b:Nat)(l:List UInt8)(s:ES)(S:Nat→Prop)(sv:Value)(m:Nat)(mv:Value)(w:World):Prop where
 blk:w.heap[b]? =some (.cells (erC l s sv m mv) 93 (0,0))
 sg:w.ownsRow 0 21 1 sv l.length (Zbk l)
 mp:Zuc w m s.r.closed
 ma:OwM w s.r.marks mv
 nm:∀k,mv.ownBlock=some k→k≠b∧k≠m∧S k
 bm:b≠m
 ns:∀k,sv.ownBlock=some k→k<b∧¬S k
 me:S b
 mm:S m
 ok:∀z,s.x=some z→z.1≠0
def Erd(b:Nat)(l:List UInt8)(s:ES)(S:Nat→Prop)(w:World):Prop:=∃sv m mv,Er b l s S sv m mv w
section
variable {b:Nat} {l:List UInt8} {s:ES} {S:Nat→Prop} {sv:Value} {m:Nat} {mv:Value} {w w':World}
theorem Er.on(h:Er b l s S sv m mv w)(f:Fr nob w w'):Er b l s S sv m mv w':=
 ⟨f.heap h.blk (fun x=>x),ownsRow_fr h.sg f (fun _ _ x=>x),h.mp.fr f (fun x=>x),ownsRow_fr h.ma f (fun _ _ x=>x),h.nm,h.bm,h.ns,h.me,h.mm,h.ok⟩
theorem Erd.on(h:Erd b l s S w)(f:Fr nob w w'):Erd b l s S w':=by obtain⟨sv,m,mv,h⟩:=h;exact⟨sv,m,mv,h.on f⟩
theorem Er.turned(h:Er b l s S sv m mv w)(j:Nat)(u:Value)(s':ES)(hj:(erC l s sv m mv).setIfInBounds j u=erC l s' sv m mv)(hc:s'.r.closed=s.r.closed)(hm:s'.r.marks=s.r.marks)(hx:∀z,s'.x=some z→z.1≠0):
 Er b l s' S sv m mv (w.setCell ⟨b,j,none⟩ u):=by
 have hf:=(Fr.refl (fun k=>k=b) w).setCell (p:=⟨b,j,none⟩) (fun _=>rfl) u;have hb:=Za h.blk j u;rw[hj]at hb;exact⟨hb,ownsRow_fr h.sg hf (fun k hk e=>(h.ns k hk).2 (by rw[e];exact h.me)),by rw[hc];exact h.mp.fr hf (fun e=>h.bm e.symm),by rw[hm];exact ownsRow_fr h.ma hf (fun k hk e=>(h.nm k hk).1 e),h.nm,h.bm,
  h.ns,h.me,h.mm,hx⟩
theorem Er.stp(h:Er b l s S sv m mv w)(j:Nat)(u:Value):Stp S w S (w.setCell ⟨b,j,none⟩ u):=
 ⟨(Fr.refl S w).setCell (p:=⟨b,j,none⟩) (fun _=>h.me) u,fun _ _ x=>x,fun hl k hk=>by have:=hl k hk;simpa[World.setCell]using this⟩
theorem Er.sign(h:Er b l s S sv m mv w){k:Nat}{c:UInt8}(hk:l[k]? =some c):∃g cap,sv=.slice (some ⟨g,0,none⟩) l.length cap∧∀w',Fr nob w w'→w'.cell? ⟨g,k,none⟩=some (.int .i32 (c.toNat:Int)):=by
 obtain⟨hl,hs⟩:=h.sg;rcases hs with⟨rfl,h0⟩|⟨g,cap,d,rfl,_,hr,hn,_,_,a⟩
 ·rw[List.length_eq_zero_iff.1 h0]at hk;cases hk
 ·refine⟨g,cap,rfl,fun w' f=>f.cell (cell_at hr ?_) (fun x=>x)⟩;have:(d.toList.take (l.length*1))[k]? =(Zbk l)[k]? :=by rw[a]
  rw[List.getElem?_take,if_pos (by have:=ZK hk;omega)]at this;rw[←Array.getElem?_toList,this];simp[Zbk,hk]
end
def rnX(o:Option UInt8):Int:=match o with|none=> -1|some c=>(c.toNat:Int)
theorem Zgc(b:Nat)(l:List UInt8)(s:ES)(S:Nat→Prop)(n:Nat)(w:World)(hl:l.length≤100000)(ha:s.r.at_≤l.length)(hn:n≤10)(h:Erd b l s S w):
 Calls Tryz.prog 125 #[.pointer (some ⟨b,0,none⟩),.int .i64 n] w fun x w'=>x=.returned (.int .i32 (rnX l[s.r.at_+n]?))∧Fr nob w w':=by
 obtain⟨sv,m,mv,h⟩:=h;have rr:=rule8 h.blk;cases hk:l[s.r.at_+n]? with
 |none=>
  have e:(l.length:Int)≤(s.r.at_:Int)+n:=by have:=List.getElem?_eq_none_iff.1 hk;omega
  obtain⟨a,c,rfl⟩:=Zb h.sg;clear h hk;go_enter Tryz.func125,Tryz.ntmps125;go_wp2_with fail;refine region_fr 11 (by kernel_rfl) (by kernel_rfl) ?_;simp only[List.take_succ_cons,List.take_zero,List.drop_succ_cons,List.drop_zero]
  repeat(quiet_step (fail))
  refine wpQuiet_nil ?_;intro wC fC;go_wp2;go_ret;exact⟨rfl,fC⟩
 |some c=>
  have k:=ZK hk;have e:¬(l.length:Int)≤(s.r.at_:Int)+n:=by omega
  have h1:(0:Int)≤(s.r.at_:Int)+n:=by omega
  have h2:(s.r.at_:Int)+n<l.length:=by omega
  have h3:((s.r.at_:Int)+n).toNat=s.r.at_+n:=by omega
  obtain⟨g,i,rfl,hc⟩:=h.sign hk;clear h hk;go_enter Tryz.func125,Tryz.ntmps125;go_wp2_with fail;refine region_fr 11 (by kernel_rfl) (by kernel_rfl) ?_;simp only[List.take_succ_cons,List.take_zero,List.drop_succ_cons,List.drop_zero]
  repeat(quiet_step (fail))
  refine wpQuiet_nil ?_;intro wC fC;have o:=rr wC fC;have p:=fun W (f:Fr nob wC W)=>rr W (fC.trans' f);have d:=fun W (f:Fr nob wC W)=>hc W (fC.trans' f);clear rr hc;go_wp2_with fail;refine region_fr 10 (by kernel_rfl) (by kernel_rfl) ?_;simp only[List.take_succ_cons,List.take_zero,List.drop_succ_cons,List.drop_zero]
  repeat(quiet_step (fail))
  refine wpQuiet_nil ?_;intro wD fD;have j:=d wD fD;go_wp2;go_ret;exact⟨rfl,fC.trans' fD⟩
theorem Zea(b:Nat)(l:List UInt8)(s:ES)(S:Nat→Prop)(w:World)(hl:l.length≤100000)(ha:s.r.at_≤l.length)(h:Erd b l s S w):
 Calls Tryz.prog 97 #[.pointer (some ⟨b,0,none⟩)] w fun x w'=>x=.returned (.int .i32 (rnX l[s.r.at_]?))∧Fr nob w w':=by
 have hB:=Zgc b l s S 0 w hl ha (by omega) h;rw[Nat.add_zero]at hB;have HB:=hid hB;clear hB;go_enter Tryz.func97,Tryz.ntmps97;go_wp2_with fail;refine HB.out.mono ?_;rintro e w1 ⟨rfl,f1⟩;go_wp2;go_ret;exact⟨rfl,f1⟩
theorem ZpC{o:Option UInt8}{c:UInt8}:(rnX o=(c.toNat:Int))↔o=some c:=by
 cases o with
 |none=>exact⟨fun h=>by simp only[rnX]at h;omega,fun h=>by cases h⟩
 |some d=>
  simp only[rnX,Option.some.injEq];constructor
  ·intro h;exact UInt8.toNat_inj.1 (by omega)
  ·rintro rfl;rfl
theorem rnX_test(o:Option UInt8)(c:UInt8)(k:Int)(hk:k=(c.toNat:Int)):(rnX o==k)=decide (o=some c):=by
 subst hk;by_cases h:o=some c
 ·simp[h,rnX]
 ·have:¬rnX o=(c.toNat:Int):=fun e=>h (ZpC.1 e);simp[h,this]
theorem Zfm(b:Nat)(l:List UInt8)(c:UInt8)(s:ES)(S:Nat→Prop)(w:World)(hl:l.length≤100000)(ha:s.r.at_≤l.length)(h:Erd b l s S w):
 Calls Tryz.prog 59 #[.pointer (some ⟨b,0,none⟩),.int .i32 (c.toNat:Int)] w fun x w'=>
  x=.returned (.bool (decide (l[s.r.at_]? =some c)))∧Erd b l (if l[s.r.at_]? =some c then s.go 1 else s) S w'∧Stp S w S w':=by
 have HN:=hid (Zea b l s S w hl ha h);obtain⟨sv,m,mv,h⟩:=h;have HE:=hid h;clear h;have ht:=rnX_test l[s.r.at_]? c _ rfl;by_cases hc:l[s.r.at_]? =some c
 ·have a:=ZK hc;rw[decide_eq_true hc]at ht⊢;rw[if_pos hc];obtain⟨R,hR⟩:∃R,rnX l[s.r.at_]? =R:=⟨_,rfl⟩;rw[hR]at ht HN;clear hc hR;go_enter Tryz.func59,Tryz.ntmps59;go_wp2_with fail;refine HN.out.mono ?_;rintro e w1 ⟨rfl,f1⟩;have h1:=HE.out.on f1;have r1:=rule8 h1.blk _ (Fr.refl _ _);have H1:=hid h1;have F1:=hid f1;clear h1 f1;go_wp2;go_ret;exact⟨rfl,⟨sv,m,mv,H1.out.turned 2 _ (s.go 1) (by simp[ES.go,RxS.go]) rfl rfl H1.out.ok⟩,(Stp.of F1.out).trans (H1.out.stp 2 _)⟩
 ·rw[decide_eq_false hc]at ht⊢;rw[if_neg hc];obtain⟨R,hR⟩:∃R,rnX l[s.r.at_]? =R:=⟨_,rfl⟩;rw[hR]at ht HN;clear hc hR;go_enter Tryz.func59,Tryz.ntmps59;go_wp2_with fail;refine HN.out.mono ?_;rintro e w1 ⟨rfl,f1⟩;go_wp2;go_ret;exact⟨rfl,⟨sv,m,mv,HE.out.on f1⟩,Stp.of f1⟩
theorem Za4(b:Nat)(l:List UInt8)(s:ES)(S:Nat→Prop)(z:Int)(p:Nat)(w:World)(hl:l.length≤100000)(hz:z≠0)(h:Erd b l s S w):
 Calls Tryz.prog 98 #[.pointer (some ⟨b,0,none⟩),.int .i64 z,.int .i64 (p:Nat)] w fun x w'=>
  x=.returned (.tuple #[])∧Erd b l (s.fail l z p) S w'∧Stp S w S w':=by
 obtain⟨sv,m,mv,h⟩:=h;obtain⟨a,cp,rfl⟩:=Zb h.sg;cases hx:s.x with
 |none=>
  have c:eX s.x=0:=by rw[hx];rfl
  have h1:=h.turned 6 (.int .i64 z) ⟨s.r,some (z,0)⟩ (by simp[eX,pX,hx]) rfl rfl (fun q hq=>by injection hq with hq;subst hq;exact hz);have h2:=h1.turned 7 (.int .i64 (p:Nat)) ⟨s.r,some (z,p)⟩ (by simp[eX,pX]) rfl rfl (fun q hq=>by injection hq with hq;subst hq;exact hz);have h3:=h2.turned 2 (.int .i64 (l.length:Nat)) (s.fail l z p) (by simp[ES.fail,RxS.to,hx,eX,pX]) rfl rfl (fun q hq=>by simp[ES.fail,hx]at hq;subst hq;exact hz);have st:=((h.stp 6 (.int .i64 z)).trans (h1.stp 7 (.int .i64 (p:Nat)))).trans (h2.stp 2 (.int .i64 (l.length:Nat)));have r0:=rule8 h.blk _ (Fr.refl _ _);have r1:=rule8 h1.blk _ (Fr.refl _ _);have r2:=rule8 h2.blk _ (Fr.refl _ _);rw[c]at r0;have H3:=hid h3;have ST:=hid st;clear h h1 h2 h3 st c hx;go_enter Tryz.func98,Tryz.ntmps98;go_wp2
  go_end0
  exact⟨rfl,⟨_,m,mv,H3.out⟩,ST.out⟩
 |some q=>
  have c:¬eX s.x=0:=by rw[hx];exact h.ok q hx
  have h3:=h.turned 2 (.int .i64 (l.length:Nat)) (s.fail l z p) (by simp[ES.fail,RxS.to,hx]) rfl rfl (fun q' hq=>by simp[ES.fail,hx]at hq;subst hq;exact h.ok q hx);have st:=h.stp 2 (.int .i64 (l.length:Nat));have r0:=rule8 h.blk _ (Fr.refl _ _);have H3:=hid h3;have ST:=hid st;clear h h3 st hx;obtain⟨E,hE⟩:∃E,eX s.x=E:=⟨_,rfl⟩;rw[hE]at c r0;clear hE;go_enter Tryz.func98,Tryz.ntmps98;go_wp2
  go_end0
  exact⟨rfl,⟨_,m,mv,H3.out⟩,ST.out⟩
end Go.Proofs.YtgllcniibbaoaaaGreatDoor
