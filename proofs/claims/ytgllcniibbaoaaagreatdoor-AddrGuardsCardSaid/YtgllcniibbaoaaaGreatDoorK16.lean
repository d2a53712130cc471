/- Lemmas of this claim. -/
import Derived.Test.YtgllcniibbaoaaaGreatDoorK15
set_option linter.all false
set_option maxRecDepth 100000
set_option maxHeartbeats 24000000
namespace Go.Proofs.YtgllcniibbaoaaaGreatDoor
open Go.RowKit Go.Sort
theorem ZAj{P:Program}{c:Code}{Q:Exit→Act→World→Prop}{a:Act}{w:World}(A:Nat→Act)(F:Nat→World→Prop)(h1:c.wp P (fun e a' w'=>e=.normal∧∃q,a'=A q∧F q w') a w)(h2:∀q w',F q w'→Q .normal (A q) w'):c.wp P Q a w:=
 Code.wp_mono (by rintro e a' w' ⟨rfl,q,rfl,h⟩;exact h2 q w' h) h1
theorem d_one_lit(x:S4)(w:World):Calls Tryz.prog 145 #[ZcR x] w fun e w'=>e=.returned (.agg #[.int .i64 1,.int .u64 x.a,.int .u64 x.b,.int .u64 x.c,.int .u64 x.d,.slice none 0 0,.int .i64 0,.int .i64 0,.int .i64 0])∧Fr nob w w':=ZAW x w
theorem d_mark_lit(l:List UInt8)(ere:Bool)(s:RxS)(ca:Option Addr)(cc:Nat)(ma:Option Addr)(mc:Nat)(t:List UInt8)(w:World)(hl:s.marks.length≤100000)(hm:MS w s.marks (.slice ma s.marks.length mc)):
 Calls Tryz.prog 93 #[.agg #[.string ⟨l.toArray⟩,.bool ere,.int .i64 s.at_,.int .i64 s.opened,.slice ca s.closed.length cc,.slice ma s.marks.length mc,.int .i64 0,.int .i64 0],.string ⟨t.toArray⟩] w fun x w'=>∃ma' mc',x=.returned (.agg #[.string ⟨l.toArray⟩,.bool ere,.int .i64 s.at_,.int .i64 s.opened,.slice ca s.closed.length cc,.slice ma' (s.mark t).marks.length mc',.int .i64 0,.int .i64 0])∧(∀W,Lo w.heap.size w' W→MS W (s.mark t).marks (.slice ma' (s.mark t).marks.length mc'))∧Fr nob w w':=ZAH l ere s ca cc ma mc t w hl hm
theorem d_fail_lit(l:List UInt8)(ere:Bool)(s:RxS)(ca:Option Addr)(cc:Nat)(ma:Option Addr)(mc:Nat)(z q:Int)(w:World):
 Calls Tryz.prog 119 #[.agg #[.string ⟨l.toArray⟩,.bool ere,.int .i64 s.at_,.int .i64 s.opened,.slice ca s.closed.length cc,.slice ma s.marks.length mc,.int .i64 0,.int .i64 0],.int .i64 z,.int .i64 q] w fun x w'=>x=.returned (.agg #[.string ⟨l.toArray⟩,.bool ere,.int .i64 s.at_,.int .i64 s.opened,.slice ca s.closed.length cc,.slice ma s.marks.length mc,.int .i64 z,.int .i64 q])∧Fr nob w w':=ZAG l ere s ca cc ma mc z q w
theorem ZzY(s:S4)(d:Nat)(w:World)(hs:s.fit)(hd:d<256):Calls Tryz.prog 170 #[ZcR s,.int .u8 d] w fun e w'=>e=.returned (.bool (s.has d))∧Fr nob w w':=hasR_any s d w hs hd
def CS(w:World)(l:List Nat)(ca:Option Addr)(cc:Nat):Prop:=SI w (l.map Int.ofNat) (.slice ca l.length cc)
def Zyn(O:Nat→Prop)(w W:World):Prop:=∀k o,¬O k→w.heap[k]? =some o→W.heap[k]? =some o
theorem Zyn.refl(O:Nat→Prop)(w:World):Zyn O w w:=fun _ _ _ h=>h
theorem Zyn.trans{O:Nat→Prop}{a b c:World}(h:Zyn O a b)(g:Zyn O b c):Zyn O a c:=fun k o hk ho=>g k o hk (h k o hk ho)
theorem Zyn.of_fr{O X:Nat→Prop}{w w':World}(f:Fr X w w')(h:∀k,k<w.heap.size→X k→O k):Zyn O w w':=fun k _ hk ho=>f.heap ho (fun x=>hk (h k (lt_heap ho) x))
theorem Zyn.of{O:Nat→Prop}{w w':World}(f:Fr nob w w'):Zyn O w w':=.of_fr f (fun _ _ x=>x.elim)
theorem Zyn.lo{O:Nat→Prop}{w W:World}{B:Nat}(h:Zyn O w W)(hO:∀k,O k→k<B):Lo B w W:=fun k o hk ho=>h k o (fun x=>by have:=hO k x;omega) ho
theorem Zyn.wide{O S:Nat→Prop}{w W:World}(h:Zyn S w W)(hs:∀k,k<w.heap.size→S k→O k):Zyn O w W:=fun k o hk ho=>h k o (fun x=>hk (hs k (lt_heap ho) x)) ho
def CSO(O:Nat→Prop)(w:World)(l:List Nat)(ca:Option Addr)(cc:Nat):Prop:=∀W,Zyn O w W→CS W l ca cc
def MSO(O:Nat→Prop)(w:World)(l:List (Nat×List UInt8))(v:Value):Prop:=∀W,Zyn O w W→MS W l v
section
variable {O S:Nat→Prop} {w w':World} {l:List Nat} {ca:Option Addr} {cc:Nat} {m:List (Nat×List UInt8)} {v:Value}
theorem CSO.at(h:CSO O w l ca cc):CS w l ca cc:=h w (.refl O w)
theorem MSO.at(h:MSO O w m v):MS w m v:=h w (.refl O w)
theorem CSO.step(h:CSO O w l ca cc)(f:Zyn O w w'):CSO O w' l ca cc:=fun W g=>h W (f.trans g)
theorem MSO.step(h:MSO O w m v)(f:Zyn O w w'):MSO O w' m v:=fun W g=>h W (f.trans g)
theorem CSO.on(h:CSO O w l ca cc)(f:Fr nob w w'):CSO O w' l ca cc:=h.step (.of f)
theorem MSO.on(h:MSO O w m v)(f:Fr nob w w'):MSO O w' m v:=h.step (.of f)
theorem CSO.wide(h:CSO O w l ca cc)(hs:∀k,k<w.heap.size→S k→O k):CSO S w l ca cc:=fun W g=>h W (g.wide hs)
theorem MSO.wide(h:MSO O w m v)(hs:∀k,k<w.heap.size→S k→O k):MSO S w m v:=fun W g=>h W (g.wide hs)
end
def Zy4(K:Nat)(O:Nat→Prop)(l:List UInt8)(ere:Bool)(R:Out Nd)(w:World)(x:Ending)(w':World):Prop:=Fr nob w w'∧match R with
 | .inl (e,p)=>∃(s':RxS) (ca:Option Addr) (cc:Nat) (ma:Option Addr) (mc:Nat) (t:T) (cs:List Value),x=.returned (.tuple #[rV l ere s' ca cc ma mc e (p:Nat),.agg cs.toArray])∧RT O w' t cs∧t.bulk≤K∧e≠0
 | .inr (t,s')=>∃(ca:Option Addr) (cc:Nat) (ma:Option Addr) (mc:Nat) (cs:List Value),x=.returned (.tuple #[rV l ere s' ca cc ma mc 0 0,.agg cs.toArray])∧RT O w' t.rf cs∧CSO O w' s'.closed ca cc∧MSO O w' s'.marks (.slice ma s'.marks.length mc)
theorem ZzZ{l:List Nat}{k n:Nat}(h:k<l.length):(l.take (k+1)).contains n=((l.take k).contains n||l[k]==n):=by
 rw[List.take_succ_eq_append_getElem h,List.contains_append,List.contains_cons,List.contains_nil,Bool.or_false,BEq.comm]
theorem MSO.of_lo{O:Nat→Prop}{w':World}{l:List (Nat×List UInt8)}{v:Value}{B:Nat}(h:∀W,Lo B w' W→MS W l v)(hO:∀k,O k→k<B):MSO O w' l v:=fun W g=>h W (g.lo hO)
structure LB(w0:World)(L:List (Nat×Array Value×TypeId))(w:World):Prop where
 fr:Fr nob w0 w
 lo:∀x∈L,w0.heap.size≤x.1
 ne:L.Pairwise (fun x y=>x.1≠y.1)
 at_:∀x∈L,w.heap[x.1]? =some (.cells x.2.1 x.2.2 (0,0))
abbrev lbB(O:Nat→Prop)(bs:List Nat)(k:Nat):Prop:=O k∨k∈bs
section
variable {w0 w w':World} {L:List (Nat×Array Value×TypeId)} {b:Nat} {cs cs':Array Value} {T:TypeId}
theorem LB.get(h:LB w0 L w)(j:Nat)(hj:L[j]? =some (b,cs,T)):w.heap[b]? =some (.cells cs T (0,0)):=h.at_ _ (List.mem_of_getElem? hj)
theorem LB.low(h:LB w0 L w)(j:Nat)(hj:L[j]? =some (b,cs,T)):w0.heap.size≤b:=h.lo _ (List.mem_of_getElem? hj)
theorem LB.on(h:LB w0 L w)(f:Fr nob w w'):LB w0 L w':=⟨h.fr.trans' f,h.lo,h.ne,fun x hx=>f.heap (h.at_ x hx) (fun x=>x)⟩
theorem LB.nil(w:World):LB w [] w:=⟨Fr.refl _ _,by simp,List.Pairwise.nil,by simp⟩
theorem LB.lt(h:LB w0 L w):∀x∈L,x.1<w.heap.size:=fun x hx=>lt_heap (h.at_ x hx)
theorem LB.push(h:LB w0 L w)(cs:Array Value)(T:TypeId)(n:Nat)(hn:n=w.heap.size):LB w0 (L++[(n,cs,T)]) (w.alloc (.cells cs T)):=by
 subst hn;refine⟨h.fr.alloc _,fun x hx=> ?_,?_,fun x hx=> ?_⟩
 ·rcases List.mem_append.1 hx with hx|hx
  ·exact h.lo x hx
  ·rw[List.mem_singleton]at hx;subst hx;exact h.fr.size
 ·rw[List.pairwise_append];refine⟨h.ne,List.pairwise_singleton _ _,fun x hx y hy=> ?_⟩;rw[List.mem_singleton]at hy;subst hy;have:=h.lt x hx;simp only;omega
 ·rcases List.mem_append.1 hx with hx|hx
  ·exact heap_alloc_lt _ (h.at_ x hx)
  ·rw[List.mem_singleton]at hx;subst hx;exact heap_alloc_new _ _
theorem LB.old(h:LB w0 L w)(O:Nat→Prop):∀k,k<w0.heap.size→lbB O (L.map (·.1)) k→O k:=fun k hk x=>by
 rcases x with x|x
 ·exact x
 ·obtain⟨y,hy,rfl⟩:=List.mem_map.1 x;have:=h.lo y hy;omega
theorem LB.cso{O:Nat→Prop}{l:List Nat}{ca:Option Addr}{cc:Nat}(h:LB w0 L w)(hc:CSO O w0 l ca cc):CSO (lbB O (L.map (·.1))) w l ca cc:=(hc.wide (h.old O)).on h.fr
theorem LB.mso{O:Nat→Prop}{l:List (Nat×List UInt8)}{v:Value}(h:LB w0 L w)(hm:MSO O w0 l v):MSO (lbB O (L.map (·.1))) w l v:=(hm.wide (h.old O)).on h.fr
theorem LB.below(h:LB w0 L w){O:Nat→Prop}(hO:∀k,O k→k<w0.heap.size):∀k,lbB O (L.map (·.1)) k→k<w.heap.size:=fun k x=>by
 rcases x with x|x
 ·have:=hO k x;have:=h.fr.size;omega
 ·obtain⟨y,hy,rfl⟩:=List.mem_map.1 x;exact h.lt y hy
theorem LB.ne_at{x:Nat×Array Value×TypeId}(h:LB w0 L w)(j i:Nat)(hj:L[j]? =some (b,cs,T))(hi:L[i]? =some x)(hn:i≠j):x.1≠b:=by
 obtain⟨d,f⟩:=List.getElem?_eq_some_iff.1 hj;obtain⟨a,c⟩:=List.getElem?_eq_some_iff.1 hi;rcases Nat.lt_or_gt_of_ne hn with hl|hl
 ·have:=List.pairwise_iff_getElem.1 h.ne i j a d hl;rw[c,f]at this;exact this
 ·have:=List.pairwise_iff_getElem.1 h.ne j i d a hl;rw[c,f]at this;exact fun e=>this e.symm
theorem LB.row(h:LB w0 L w)(j:Nat)(hj:L[j]? =some (b,cs,T))(hw:w'.heap[b]? =some (.cells cs' T (0,0)))(f:Fr (fun k=>k=b) w w'):LB w0 (L.set j (b,cs',T)) w':=by
 have c:=(List.getElem?_eq_some_iff.1 hj).1;have a:∀(i:Nat) (x:Nat×Array Value×TypeId),(L.set j (b,cs',T))[i]? =some x→(i=j∧x=(b,cs',T))∨(i≠j∧L[i]? =some x):=fun i x hx=>by
  by_cases e:i=j
  ·subst e;rw[List.getElem?_set_self c]at hx;injection hx with hx;exact .inl ⟨rfl,hx.symm⟩
  ·rw[List.getElem?_set_ne (Ne.symm e)]at hx;exact .inr ⟨e,hx⟩
 refine⟨h.fr.trans f (fun i hi e=>by subst e;have:=h.low j hj;omega),fun x hx=> ?_,?_,fun x hx=> ?_⟩
 ·obtain⟨i,hi⟩:=List.getElem?_of_mem hx;rcases a i x hi with⟨_,rfl⟩|⟨_,e⟩
  ·exact h.low j hj
  ·exact h.lo x (List.mem_of_getElem? e)
 ·rw[List.pairwise_iff_getElem];intro p q hp hq d;have e1:(L.set j (b,cs',T))[p].1=(L[p]'(by simpa using hp)).1:=by
   rw[List.getElem_set];split
   ·next e=>subst e;have:=(List.getElem?_eq_some_iff.1 hj).2;rw[this]
   ·rfl
  have e2:(L.set j (b,cs',T))[q].1=(L[q]'(by simpa using hq)).1:=by
   rw[List.getElem_set];split
   ·next e=>subst e;have:=(List.getElem?_eq_some_iff.1 hj).2;rw[this]
   ·rfl
  rw[e1,e2];exact List.pairwise_iff_getElem.1 h.ne p q (by simpa using hp) (by simpa using hq) d
 ·obtain⟨i,hi⟩:=List.getElem?_of_mem hx;rcases a i x hi with⟨_,rfl⟩|⟨e,e'⟩
  ·exact hw
  ·exact f.heap (h.at_ x (List.mem_of_getElem? e')) (h.ne_at j i hj e' e)
theorem LB.out(j:Nat)(hj:L[j]? =some (b,cs,T))(f:Fr (fun k=>k=b) w w')(O:Nat→Prop):Zyn (lbB O (L.map (·.1))) w w':=.of_fr f (fun k _ e=>.inr (List.mem_map.2 ⟨_,List.mem_of_getElem? hj,e.symm⟩))
variable {P:Program} {ops:Array Oper} {rest:List Oper} {o:Oper} {a:Act} {Q:Exit→Act→World→Prop} {ty:TypeId} {d:TypeDesc}
theorem LB.ld(h:LB w0 L w)(j:Nat)(hj:L[j]? =some (b,cs,T))(hgd:o.guard=none)(x:Operand)(ho:o.op=.load ty x)(hx:a.eval x=.pointer (some ⟨b,0,none⟩))
 (hu:P.underlying ty=some d) (hd:(match d with| .struct _| .array _ _=>true|_=>false)=true) (hi:(P.info? ty).map (·.size)=some cs.size)
 (hk:wpList P ops Q rest (a.put o.dst (.agg cs)) w):wpList P ops Q (o::rest) a w:=wpList_load_row hgd ty x ho b hx T cs (0,0) d (h.get j hj) hu hd hi hk
theorem LB.qld(h:LB w0 L w)(j:Nat)(hj:L[j]? =some (b,cs,T)){K:Act→Prop}(hw:Region.wanted o (yielded ops a.tmps)=true)(x:Operand)(ho:o.op=.load ty x)(hx:a.eval x=.pointer (some ⟨b,0,none⟩))
 (hu:P.underlying ty=some d) (hd:(match d with| .struct _| .array _ _=>true|_=>false)=true) (hi:(P.info? ty).map (·.size)=some cs.size)
 (hk:wpQuiet P ops (fun w'=>∃p:Regrown,w'=grow (redrawn w p.d) p.os) K rest (a.put o.dst (.agg cs))):wpQuiet P ops (fun w'=>∃p:Regrown,w'=grow (redrawn w p.d) p.os) K (o::rest) a:=by
 unfold wpQuiet;rw[if_pos hw];refine⟨.agg cs,fun W hc=> ?_,hk⟩;unfold Oper.quietAt execOp;simp only[ho,hx,Instr.loadAt,Instr.sureAddr,Sem.run_bind,Sem.run_pure,Result.andThen_ok,run_loadVar_row W b T ty cs (0,0) d ((Zde hc).heap (h.get j hj) (fun x=>x)) hu hd hi];exact⟨rfl,rfl⟩
theorem LB.sto(h:LB w0 L w)(O:Nat→Prop)(j:Nat)(hj:L[j]? =some (b,cs,T))(hgd:o.guard=none)(x y:Operand)(ho:o.op=.store ty x y)(hx:a.eval x=.pointer (some ⟨b,0,none⟩))(hy:a.eval y=.agg cs')
 (hi:(P.info? ty).map (·.size)=some cs'.size) (hs:cs.size=cs'.size) (h1:cs'.all (·.oneCell')=true)
 (hk:∀W,LB w0 (L.set j (b,cs',T)) W→Zyn (lbB O (L.map (·.1))) w W→Fr (fun k=>k=b) w W→wpList P ops Q rest (a.put o.dst undef) W):wpList P ops Q (o::rest) a w:=
 wpList_store_row hgd ty x y ho b cs' hx hy T cs (h.get j hj) hi hs h1
  (hk _ (h.row j hj (setRow_heap w b cs cs' T (0,0) (h.get j hj)) (Zya w b cs')) (LB.out j hj (Zya w b cs') O) (Zya w b cs'))
theorem LB.cell'(h:LB w0 L w)(O:Nat→Prop)(j:Nat)(hj:L[j]? =some (b,cs,T))(i:Nat)(v:Value):LB w0 (L.set j (b,cs.setIfInBounds i v,T)) (w.setCell ⟨b,i,none⟩ v)∧Zyn (lbB O (L.map (·.1))) w (w.setCell ⟨b,i,none⟩ v)∧Fr (fun k=>k=b) w (w.setCell ⟨b,i,none⟩ v):=by
 have e:=setCell_eq_setRow w b i cs T (0,0) v (h.get j hj);rw[e];exact⟨h.row j hj (setRow_heap w b cs _ T (0,0) (h.get j hj)) (Zya w b _),LB.out j hj (Zya w b _) O,Zya w b _⟩
theorem LB.st1(h:LB w0 L w)(O:Nat→Prop)(j:Nat)(hj:L[j]? =some (b,cs,T)){i:Nat}{B:Array Bool}(hw:StC w [⟨i,b,cs',T⟩] B w')(hB:B.getD i false=true):LB w0 (L.set j (b,cs',T)) w'∧Zyn (lbB O (L.map (·.1))) w w'∧Fr (fun k=>k=b) w w':=by
 have f:Fr (fun k=>k=b) w w':=hw.1.mono (fun k _ hk=>by obtain⟨s,hs,rfl⟩:=hk;rw[List.mem_singleton]at hs;subst hs;rfl);exact⟨h.row j hj ((hw.2 _ (List.mem_singleton.2 rfl)).2 hB) f,LB.out j hj f O,f⟩
end
theorem RT.wide{S O:Nat→Prop}{w:World}{t:T}{cs:List Value}(h:RT O w t cs)(hs:∀k,k<w.heap.size→S k→O k):RT S w t cs:=RT.keep (Fr.refl nob w) (fun _ _ x=>x.elim) hs _ _ h
theorem RT.step{O:Nat→Prop}{bs:List Nat}{b:Nat}{w W:World}{t:T}{cs:List Value}(h:RT (lbB O bs) w t cs)(f:Fr (fun k=>k=b) w W)(hb:b∈bs):RT (lbB O bs) W t cs:=RT.keep f (fun k _ e=>.inr (e▸hb)) (fun _ _ h=>h) _ _ h
section
variable {P:Program} {ops:Array Oper} {K:Array Bool→Act→Prop} {k:Nat} {rest:List Oper} {o:Oper} {a:Act} {L:Array Bool} {w w0:World} {s0:Sto} {v:Value} {LL:List (Nat×Array Value×TypeId)} {b:Nat} {cs:Array Value} {T ty:TypeId} {d:TypeDesc}
theorem Zzm(hn:(s0.i==k)=false):∀s∈[s0],s.i≠k:=fun s hs=>by rw[List.mem_singleton]at hs;subst hs;exact ne_of_beq_false hn
theorem ix_fr{W:World}(f:Fr (stB [s0]) w W):Fr (fun k=>k=s0.b) w W:=f.mono (fun k _ hk=>by obtain⟨s,hs,rfl⟩:=hk;rw[List.mem_singleton]at hs;subst hs;rfl)
theorem ix_val(v:Value)(hw:Region.wanted o (yielded ops a.tmps)=true)(hn:(s0.i==k)=false)(hr:∀W,(execOp a.eval o).run P W=.ok (.value v) W)(h:wpI P ops (StC w [s0]) K (k+1) rest (L.setIfInBounds k true) (a.put o.dst v)):wpI P ops (StC w [s0]) K k (o::rest) L a:=
 ⟨v,.val hw (Zzm hn) (fun W _=>hr W),h⟩
theorem ZzJ(hl:LB w0 LL w)(j:Nat)(hj:LL[j]? =some (b,cs,T))(hw:Region.wanted o (yielded ops a.tmps)=true)(hn:(s0.i==k)=false)(x:Operand)(ho:o.op=.load ty x)(hx:a.eval x=.pointer (some ⟨b,0,none⟩))
 (hu:P.underlying ty=some d) (hd:(match d with| .struct _| .array _ _=>true|_=>false)=true) (hi:(P.info? ty).map (·.size)=some cs.size) (hb:b≠s0.b)
 (h:wpI P ops (StC w [s0]) K (k+1) rest (L.setIfInBounds k true) (a.put o.dst (.agg cs))):wpI P ops (StC w [s0]) K k (o::rest) L a:=
 ⟨_,.val hw (Zzm hn) (fun W f=>by
   unfold execOp;simp only[ho,hx,Instr.loadAt,Instr.sureAddr,Sem.run_bind,Sem.run_pure,Result.andThen_ok,run_loadVar_row W b T ty cs (0,0) d ((ix_fr f).heap (hl.get j hj) hb) hu hd hi]),h⟩
theorem ZyF(hl:LB w0 LL w)(j:Nat)(hj:LL[j]? =some (b,cs,T))(i:Nat)(hc:cs[i]? =some v)(hw:Region.wanted o (yielded ops a.tmps)=true)(hn:(s0.i==k)=false)(x:Operand)(ho:o.op=.load ty x)(hx:a.eval x=.pointer (some ⟨b,i,none⟩))
 (hr:∀(p:Addr) W,Sem.run P (loadVar ty p) W=Sem.run P (load p) W) (hb:b≠s0.b)
 (h:wpI P ops (StC w [s0]) K (k+1) rest (L.setIfInBounds k true) (a.put o.dst v)):wpI P ops (StC w [s0]) K k (o::rest) L a:=
 ⟨v,.val hw (Zzm hn) (fun W f=>by
   have hcell:W.cell? ⟨b,i,none⟩=some v:=cell_at ((ix_fr f).heap (hl.get j hj) hb) hc;unfold execOp;simp only[ho,hx,Instr.loadAt,Instr.sureAddr,Sem.run_bind,Sem.run_pure,Result.andThen_ok,hr];simp[go_sem,hcell]),h⟩
theorem ZAk{f:FuncId}{args:Array Value}(hr:∀W,(execOp a.eval o).run P W=.ok (.enter f args) W)(hw:Region.wanted o (yielded ops a.tmps)=true)(hn:(s0.i==k)=false)
 (hc:∀W,Fr (fun k=>k=s0.b) w W→Calls P f args W fun e W'=>e=.returned v∧Fr nob W W')
 (h:wpI P ops (StC w [s0]) K (k+1) rest (L.setIfInBounds k true) (a.put o.dst v)):wpI P ops (StC w [s0]) K k (o::rest) L a:=⟨v,.calls hw (Zzm hn) hr (fun W f=>hc W (ix_fr f)),h⟩
theorem Zy5(hk:k=s0.i)(hw:Region.wanted o (yielded ops a.tmps)=true)(x y:Operand)(ho:o.op=.store ty x y)(hx:a.eval x=.pointer (some ⟨s0.b,0,none⟩))(hy:a.eval y=.agg s0.v)
 (hz:(P.info? ty).map (·.size)=some s0.v.size) (h1:s0.v.all (·.oneCell')=true) (hin:decide (s0.i<ops.size)=true)
 (h:wpI P ops (StC w [s0]) K (k+1) rest (L.setIfInBounds k true) (a.put o.dst undef)):wpI P ops (StC w [s0]) K k (o::rest) L a:=
 ⟨_,.sto hw (List.mem_singleton.2 rfl) hk.symm (fun s' hs'=>.inl (List.mem_singleton.1 hs')) ty x y ho hx hy hz h1 (by rw[hk];exact of_decide_eq_true hin),h⟩
theorem Zy6(h:K L a):wpI P ops (StC w [s0]) K k [] L a:=h
theorem LB.ix{id:Nat}{Q:Exit→Act→World→Prop}{l:List Oper}(hl:LB w0 LL w)(n j:Nat)(i:Nat)(cs':Array Value)(hj:LL[j]? =some (b,cs,T))(hs:cs.size=cs'.size)(hm:P.follows .mixedOrders=true)(hB:Region.lexTailB .any l.toArray n=true)
 (h:wpI P l.toArray (StC w [⟨i,b,cs',T⟩]) (fun L a'=>∀w',StC w [⟨i,b,cs',T⟩] L w'→wpList P l.toArray Q (l.drop n) a' w') 0 (l.take n) (Array.replicate l.length false) a):(Code.region id l.toArray true).wp P Q a w:=
 ZyK n hm hB (StC.init (fun s hx=>by rw[List.mem_singleton]at hx;subst hx;exact⟨cs,hl.get j hj,hs⟩)) h
end
def StN(w:World)(s0:Sto)(ia:Nat)(na:Array Value)(ta:TypeId)(L:Array Bool)(W:World):Prop:=
 StC w [s0] L W∧s0.b<w.heap.size∧w.heap.size≤W.heap.size∧(L.getD ia false=false→W.heap.size=w.heap.size)∧(L.getD ia false=true→W.heap[w.heap.size]? =some (.cells na ta (0,0)))
section
variable {P:Program} {ops:Array Oper} {K:Array Bool→Act→Prop} {k:Nat} {rest:List Oper} {o:Oper} {a:Act} {L:Array Bool} {w w0:World} {s0:Sto} {v:Value} {LL:List (Nat×Array Value×TypeId)} {b:Nat} {cs:Array Value} {T ty:TypeId} {d:TypeDesc} {ia:Nat} {na:Array Value} {ta:TypeId}
theorem StN.next{W:World}{i:Nat}(h1:(s0.i==i)=false)(h2:(ia==i)=false)(h:StN w s0 ia na ta L W):StN w s0 ia na ta (L.setIfInBounds i true) W:=by
 obtain⟨a1,a2,a3,a4,a5⟩:=h;refine⟨a1.next (Zzm h1),a2,a3,fun e=>a4 ?_,fun e=>a5 ?_⟩
 ·rwa[getD_set_ne false (Ne.symm (ne_of_beq_false h2))]at e
 ·rwa[getD_set_ne false (Ne.symm (ne_of_beq_false h2))]at e
theorem Zz6(v:Value)(hw:Region.wanted o (yielded ops a.tmps)=true)(hn:(s0.i==k)=false)(hn2:(ia==k)=false)(hr:∀W,(execOp a.eval o).run P W=.ok (.value v) W)(h:wpI P ops (StN w s0 ia na ta) K (k+1) rest (L.setIfInBounds k true) (a.put o.dst v)):wpI P ops (StN w s0 ia na ta) K k (o::rest) L a:=
 ⟨v,.inl ⟨hw,fun L W _ _ hC=>by rw[hr W];exact⟨hC.next hn hn2,rfl⟩⟩,h⟩
theorem ZAI(hl:LB w0 LL w)(j:Nat)(hj:LL[j]? =some (b,cs,T))(hw:Region.wanted o (yielded ops a.tmps)=true)(hn:(s0.i==k)=false)(hn2:(ia==k)=false)(x:Operand)(ho:o.op=.load ty x)(hx:a.eval x=.pointer (some ⟨b,0,none⟩))
 (hu:P.underlying ty=some d) (hd:(match d with| .struct _| .array _ _=>true|_=>false)=true) (hi:(P.info? ty).map (·.size)=some cs.size) (hb:b≠s0.b)
 (h:wpI P ops (StN w s0 ia na ta) K (k+1) rest (L.setIfInBounds k true) (a.put o.dst (.agg cs))):wpI P ops (StN w s0 ia na ta) K k (o::rest) L a:=
 ⟨_,.inl ⟨hw,fun L W _ _ hC=>by
   have e:(execOp a.eval o).run P W=.ok (.value (.agg cs)) W:=by
    unfold execOp;simp only[ho,hx,Instr.loadAt,Instr.sureAddr,Sem.run_bind,Sem.run_pure,Result.andThen_ok,run_loadVar_row W b T ty cs (0,0) d ((ix_fr hC.1.1).heap (hl.get j hj) hb) hu hd hi]
   rw[e];exact⟨hC.next hn hn2,rfl⟩⟩,h⟩
theorem ZAJ(hk:k=ia)(hw:Region.wanted o (yielded ops a.tmps)=true)(hn:(s0.i==k)=false)(v:Value)(hr:∀W,W.heap.size=w.heap.size→(execOp a.eval o).run P W=.ok (.value v) (W.alloc (.cells na ta)))
 (h:wpI P ops (StN w s0 ia na ta) K (k+1) rest (L.setIfInBounds k true) (a.put o.dst v)):wpI P ops (StN w s0 ia na ta) K k (o::rest) L a:=
 ⟨v,.inl ⟨hw,fun L W hL hu hC=>by
   obtain⟨a1,a2,a3,a4,a5⟩:=hC;subst hk;have hsz:=a4 (getD_both hu);rw[hr W hsz];refine⟨⟨(a1.next (Zzm hn)).on ((Fr.refl nob W).alloc _),a2,by simp;omega,fun e=> ?_,fun _=>by rw[←hsz];exact heap_alloc_new W _⟩,rfl⟩;have hlt:k<L.size:=by
    refine Nat.lt_of_not_le fun hle=> ?_;simp[Array.getElem?_eq_none hle]at hu
   simp[hlt]at e⟩,h⟩
theorem ZAK(hk:k=s0.i)(hn2:(ia==k)=false)(hw:Region.wanted o (yielded ops a.tmps)=true)(x y:Operand)(ho:o.op=.store ty x y)(hx:a.eval x=.pointer (some ⟨s0.b,0,none⟩))(hy:a.eval y=.agg s0.v)
 (hz:(P.info? ty).map (·.size)=some s0.v.size) (h1:s0.v.all (·.oneCell')=true) (hin:decide (s0.i<ops.size)=true)
 (h:wpI P ops (StN w s0 ia na ta) K (k+1) rest (L.setIfInBounds k true) (a.put o.dst undef)):wpI P ops (StN w s0 ia na ta) K k (o::rest) L a:=
 ⟨_,.inl ⟨hw,fun L W hL _ hC=>by
   obtain⟨a1,a2,a3,a4,a5⟩:=hC;obtain⟨old,hg,hn⟩:=(a1.2 s0 (List.mem_singleton.2 rfl)).1;have e:(execOp a.eval o).run P W=.ok .skip (W.setRow s0.b s0.v):=by
    unfold execOp;simp only[ho,hx,hy,Instr.storeAt,Instr.sureAddr,Sem.run_bind,Sem.run_pure,Result.andThen_ok,run_storeVar_row W s0.b s0.t ty old s0.v hg hz hn h1]
   rw[e];have c:=setRow_heap W s0.b old s0.v s0.t (0,0) hg;refine⟨⟨⟨a1.1.trans (Zya W s0.b s0.v) (fun k _ e=>by subst e;exact⟨s0,List.mem_singleton.2 rfl,rfl⟩),fun s' hs'=> ?_⟩,a2,by simpa using a3,fun e=> ?_,fun e=> ?_⟩,rfl⟩
   ·rw[List.mem_singleton]at hs';subst hs';exact⟨⟨_,c,rfl⟩,fun _=>c⟩
   ·rw[getD_set_ne false (Ne.symm (ne_of_beq_false hn2))]at e;simpa using a4 e
   ·rw[getD_set_ne false (Ne.symm (ne_of_beq_false hn2))]at e;rw[setRow_other W s0.b w.heap.size s0.v (by omega)];exact a5 e⟩,h⟩
theorem ZAL(h:K L a):wpI P ops (StN w s0 ia na ta) K k [] L a:=h
theorem LB.nx{id:Nat}{Q:Exit→Act→World→Prop}{l:List Oper}(hl:LB w0 LL w)(n j:Nat)(i:Nat)(cs':Array Value)(ia:Nat)(na:Array Value)(ta:TypeId)(hj:LL[j]? =some (b,cs,T))(hs:cs.size=cs'.size)(hm:P.follows .mixedOrders=true)(hB:Region.lexTailB .any l.toArray n=true)
 (h:wpI P l.toArray (StN w ⟨i,b,cs',T⟩ ia na ta) (fun L a'=>∀w',StN w ⟨i,b,cs',T⟩ ia na ta L w'→wpList P l.toArray Q (l.drop n) a' w') 0 (l.take n) (Array.replicate l.length false) a):(Code.region id l.toArray true).wp P Q a w:=
 ZyK n hm hB ⟨StC.init (fun s hx=>by rw[List.mem_singleton]at hx;subst hx;exact⟨cs,hl.get j hj,hs⟩),lt_heap (hl.get j hj),Nat.le_refl _,fun _=>rfl,fun e=>by rw[getD_replicate_false]at e;exact Bool.noConfusion e⟩ h
end
theorem ZyO{P:Program}{fn:Func}{t t2:Tmp}{T1 T2:TypeId}(h:fn.results= #[.cell t T1,.cell t2 T2]){tmps:Array Value}{r r2:Nat}(ht:tmps.getD t undef=.pointer (some ⟨r,0,none⟩))(ht2:tmps.getD t2 undef=.pointer (some ⟨r2,0,none⟩)){W:World}{cs cs2:Array Value}{X X2:TypeId}{d d2:TypeDesc}
 (hb:W.heap[r]? =some (.cells cs X (0,0))) (hb2:W.heap[r2]? =some (.cells cs2 X2 (0,0))) (hu:P.underlying T1=some d) (hd:(match d with| .struct _| .array _ _=>true|_=>false)=true) (hi:(P.info? T1).map (·.size)=some cs.size)
 (hu2:P.underlying T2=some d2) (hd2:(match d2 with| .struct _| .array _ _=>true|_=>false)=true) (hi2:(P.info? T2).map (·.size)=some cs2.size):
 (results fn tmps).run P W=.ok (.tuple #[.agg cs,.agg cs2]) W:=by
 have b:tmps[t]?.getD undef=.pointer (some ⟨r,0,none⟩):=by simpa using ht
 have a:tmps[t2]?.getD undef=.pointer (some ⟨r2,0,none⟩):=by simpa using ht2
 simp[results,h,b,a,asAddr,run_loadVar_row W r X T1 cs (0,0) d hb hu hd hi,run_loadVar_row W r2 X2 T2 cs2 (0,0) d2 hb2 hu2 hd2 hi2]
theorem Zyr{T:TypeId}{d:TypeDesc}(hu:Tryz.prog.underlying T=some d)(hd:(match d with| .struct _| .array _ _=>true|_=>false)=false)(a:Addr)(w:World):
 Sem.run Tryz.prog (loadVar T a) w=Sem.run Tryz.prog (load a) w:=by
 have b:(isAgg T).run Tryz.prog w=.ok false w:=by
  unfold isAgg;rw[Sem.run_bind,run_underlying hu w];cases d<;>simp_all
 simp[loadVar,Sem.run_bind,b]
theorem Zx3(a:Addr)(w:World):Sem.run Tryz.prog (loadVar 3 a) w=Sem.run Tryz.prog (load a) w:=Zyr Tryz.underlying3 rfl a w
theorem Zx4(a:Addr)(w:World):Sem.run Tryz.prog (loadVar 9 a) w=Sem.run Tryz.prog (load a) w:=Zyr Tryz.underlying9 rfl a w
theorem Zx1(a:Addr)(w:World):Sem.run Tryz.prog (loadVar 4 a) w=Sem.run Tryz.prog (load a) w:=Zyr Tryz.underlying4 rfl a w
theorem Zx2(a:Addr)(w:World):Sem.run Tryz.prog (loadVar 81 a) w=Sem.run Tryz.prog (load a) w:=Zyr Tryz.underlying81 rfl a w
theorem Zyb(a:Addr)(w:World):Sem.run Tryz.prog (loadVar 37 a) w=Sem.run Tryz.prog (load a) w:=Zyr Tryz.underlying37 rfl a w
theorem Zx9{w:World}{b j:Nat}{i:Int}(hc:(w.cell? ⟨b,j,none⟩).isSome=true)(hf:w.frozen? ⟨b,j,none⟩=false):
 Sem.run Tryz.prog (storeVar 3 ⟨b,j,none⟩ (.int .i64 i)) w=.ok () (w.setCell ⟨b,j,none⟩ (.int .i64 i)):=by
 obtain⟨old,ho⟩:=Option.isSome_iff_exists.1 hc;have a:(Value.int IntKind.i64 i).cells= #[.int .i64 i]:=rfl;have hi:(Tryz.prog.info? 3).map (·.size)=some 1:=by kernel_rfl
 cases hq:Tryz.prog.info? 3 with
 |none=>rw[hq]at hi;cases hi
 |some q=>
  have hs:q.size=1:=by simpa[hq]using hi
  simp[storeVar,sizeOf,typeInfo,hq,a,hs,go_sem,ho,hf]
theorem info_dR:(Tryz.prog.info? 123).map (·.size)=some 8:=by kernel_rfl
theorem info_dT:(Tryz.prog.info? 36).map (·.size)=some 9:=by kernel_rfl
theorem info_dS:(Tryz.prog.info? 33).map (·.size)=some 4:=by kernel_rfl
theorem one_dS(a b c d:Int):(#[.int .u64 a,.int .u64 b,.int .u64 c,.int .u64 d]:Array Value).all (·.oneCell')=true:=by simp[Value.oneCell']
theorem one_dR(l:List UInt8)(ere:Bool)(s:RxS)(ca:Option Addr)(cc:Nat)(ma:Option Addr)(mc:Nat)(e p:Int):(rC l ere s ca cc ma mc e p).all (·.oneCell')=true:=by simp[Value.oneCell']
theorem one_dT(k a b c d:Int)(x:Option Addr)(n m:Nat)(mn mx nu:Int):(#[.int .i64 k,.int .u64 a,.int .u64 b,.int .u64 c,.int .u64 d,.slice x n m,.int .i64 mn,.int .i64 mx,.int .i64 nu]:Array Value).all (·.oneCell')=true:=by simp[Value.oneCell']
theorem Zx0{cs:List Value}(h:∀v∈cs,v.oneCell'=true):cs.toArray.all (·.oneCell')=true:=Array.all_eq_true_iff_forall_mem.2 (fun v hv=>h v (by simpa using hv))
abbrev zT9:Array Value:= #[.int .i64 0,.int .u64 0,.int .u64 0,.int .u64 0,.int .u64 0,.slice none 0 0,.int .i64 0,.int .i64 0,.int .i64 0]
theorem LB.three(w:World)(r:Array Value):LB w [(w.heap.size,r,123),(w.heap.size+1,zR,123),(w.heap.size+2,zT9,36)] (((w.alloc (.cells r 123)).alloc (.cells zR 123)).alloc (.cells zT9 36)):=
 ((LB.nil w).push r _ _ rfl |>.push zR _ _ (by simp)).push zT9 _ _ (by simp)
open Go.Lib (hid)
open Go.RowKit
abbrev CC2(w:World)(b:Nat)(v0 v1:Value):Prop:=w.cell? ⟨b,0,none⟩=some v0∧w.cell? ⟨b,1,none⟩=some v1
theorem cc2_on{w w':World}{b:Nat}{v0 v1:Value}(h:CC2 w b v0 v1)(f:Fr nob w w'):CC2 w' b v0 v1:=⟨f.cell h.1 (fun x=>x),f.cell h.2 (fun x=>x)⟩
theorem ZkA(b:Nat)(l:List UInt8)(W0:World)(deep:Nat)(C:Option (RxS→Out Nd))(s:RxS)(S O:Nat→Prop)(w:World)(x:UInt8)(hO:∀k,O k→k<w.heap.size)(hl:l.length≤100000)(hd:deep≤12)(hE0:Env W0)(hG:ZoT l W0 deep C)
 (hs:Sane l s) (ha:s.at_<l.length) (hx:l[s.at_]=x) (hW:Wd W0 S w) (h:Rdg b l s S w):
 Calls Tryz.prog 85 #[.pointer (some ⟨b,0,none⟩),.int .i64 deep] w fun y w'=>ZbO b l S O w (Zb0 prg l C s x) y w':=by
 obtain⟨R,hR⟩:∃R,Zb0 prg l C s x=R:=⟨_,rfl⟩;rw[hR];have N:=fun w' (f:Fr nob w w') (j:x=92)=>Zkx b l W0 deep C s S O w' (fun k hk=>Nat.lt_of_lt_of_le (hO k hk) f.size) hl hd hG hs ha (by rw[hx,j]) (hW.stp (Stp.of f)) (h.on f);obtain⟨cv,mv,hB⟩:=h;have rr:=Zd hB.blk;have G:=hid N;have HB:=hid hB;have HW:=hid hW;have b4:(s.at_:Int)<l.length:=by omega
 have b5:=x.toNat_lt;clear N hG hs hW hB hd hO;go_enter Tryz.func85,Tryz.ntmps85;go_wp2_with fail;refine region_fr 8 (by kernel_rfl) (by kernel_rfl) ?_;simp only[List.take_succ_cons,List.take_zero,List.drop_succ_cons,List.drop_zero]
 repeat(quiet_step (fail))
 refine wpQuiet_nil ?_;intro wC fC;have Q:=HB.out.on fC;obtain⟨⟨k0,k1,_⟩,_,j1,_⟩:=Zd Q.blk _ (Fr.refl _ _);have B:=hid Q;have FC:=hid fC;clear rr Q fC;unfold Zb0 at hR;by_cases j:x=92
 ·rw[if_pos j]at hR;have HE:=hid (G.out wC FC.out j);have t1:((x.toNat:Int)==92)=true:=Zcy (b:=92) j;rw[hR]at HE;clear j hR;go_wp2_with fail;with_reducible refine(HE.out).mono ?_
  cases R with
  |inl z=>
   obtain⟨z1,z2⟩:=z;rintro e w2 ⟨rfl,S2,L⟩;exact⟨rfl,rfl,S2,(Stp.of FC.out).trans L⟩
  |inr z=>
   obtain⟨t,s2⟩:=z;rintro e w2 ⟨i,y,S2,rfl,a2,r2,L⟩;have a5:=hid a2;have R2:=hid r2;have a7:=hid ((Stp.of FC.out).trans L);clear a2 r2 L;go_wp2;go_ret;exact⟨_,_,S2,rfl,a5.out,R2.out,a7.out⟩
 ·rw[if_neg j]at hR;have t1:((x.toNat:Int)==92)=false:=Zn (b:=92) j;by_cases E:x=91
  ·rw[if_pos E]at hR;have t2:((x.toNat:Int)==91)=true:=Zcy (b:=91) E;have M:∀w',Fr nob wC w'→Env w':=fun w' f=>hE0.on ((HW.out.fr.trans' FC.out).trans' f);have hP:=fun w' (f:Fr nob wC w')=>ZfL l ((s.at_:Int)+1) w' hl (M w' f);rw[show((s.at_:Int)+1)=((s.at_+1:Nat):Int)from by simp,Zkd (by omega)]at hP;rw[show((s.at_+1:Nat):Int)=(s.at_:Int)+1 from by simp]at hP;have hw:IntKind.i64.wrap ((s.at_:Int)+1)=s.at_+1:=IntWalk.i64_in _ (by omega);have a1:CC2 wC b (.string ⟨l.toArray⟩) (.int .i64 s.at_):=⟨k0,k1⟩;have HC:=hid a1;obtain⟨P,U⟩:∃P,prs l (s.at_+1)=P:=⟨_,rfl⟩;rw[U]at hP hR;obtain⟨c,k,e0,hv,H⟩:∃(c:S4) (k:Nat) (e0:Int),Zp8 P=.tuple #[ZcR c,.int .i64 k,.int .i64 e0]∧((e0≠0∧R=.inl (e0,k))∨(e0=0∧R=.inr (.one c,s.to k))):=by
    cases P with
    |inl z=>obtain⟨z1,z2⟩:=z;exact⟨S4.zero,z2,z1,rfl,.inl ⟨prs_err U,hR.symm⟩⟩
    |inr q=>obtain⟨c,k⟩:=q;exact⟨c,k,0,rfl,.inr ⟨rfl,hR.symm⟩⟩
   rw[hv]at hP;have HP:=hid hP;have W:=hid H;have a3:=Zl (show(wC.alloc (.cells #[.int .u64 0,.int .u64 0,.int .u64 0,.int .u64 0] 132)).heap[wC.heap.size]? =some (.cells #[.int .u64 0,.int .u64 0,.int .u64 0,.int .u64 0] 132)from newAt0 wC _);have a6:=hid a3;clear hP M k0 k1 j1 E j G a1 U a3 hv H hR;go_wp2_with fail
   go_region_held3 (fun w'=>CC2 w' b (.string ⟨l.toArray⟩) (.int .i64 s.at_)) (first|(with_reducible exact HC.out)|(with_reducible exact cc2_on HC.out ((Fr.refl nob wC).drew))|(with_reducible exact cc2_on HC.out (((Fr.refl nob wC).alloc _).drew))|(with_reducible exact cc2_on HC.out (((Fr.refl nob wC).drew).alloc _))|(with_reducible exact cc2_on HC.out G1)|(with_reducible exact cc2_on HC.out (G1.drew))|(with_reducible exact cc2_on HC.out (G1.alloc _))|(with_reducible exact cc2_on HC.out (setFour_frS G1 (Nat.le_refl _) _ _ _ _))|(with_reducible exact cc2_on HC.out (setFour_frS (G1.alloc _) G1.size _ _ _ _))|(trace_state;fail)) (first|(go_at_call 114;(first|((with_reducible refine(HP.out _ ((Fr.refl nob wC).drew)).mono ?_);rintro e g1 ⟨rfl,f1⟩;have G1:Fr nob wC g1:=((Fr.refl nob wC).drew).trans' f1;have hz:=newAt0 g1 (.cells #[.int .u64 0,.int .u64 0,.int .u64 0,.int .u64 0] 132);have HZ:=hid hz;have rz:=Zl hz _ (Fr.refl nob _))|((with_reducible refine(HP.out _ (((Fr.refl nob wC).alloc _).drew)).mono ?_);rintro e g1 ⟨rfl,f1⟩;have G1:Fr nob wC g1:=(((Fr.refl nob wC).alloc _).drew).trans' f1;have hz:=(((Fr.refl nob _).drew).trans' f1).heap (newAt0 wC (.cells #[.int .u64 0,.int .u64 0,.int .u64 0,.int .u64 0] 132)) (fun x=>x);have HZ:=hid hz;have rz:=a6.out g1 (((Fr.refl nob _).drew).trans' f1)));clear f1 hz))
   ·obtain⟨wf,n⟩:∃wf,wf=g1.alloc (.cells #[.int .u64 c.a,.int .u64 c.b,.int .u64 c.c,.int .u64 c.d] 132):=⟨_,rfl⟩;have r:At4 wf g1.heap.size c:=by rw[n];exact newAt0 g1 _
    have I:Fr nob wC wf:=by rw[n];exact G1.alloc _
    rw[←n];have HF:=hid I;have o:=hid r;have b0:wC.heap.size≤g1.heap.size:=(G1.size);clear n I r rz;rcases W.out with⟨A,hR⟩|⟨A,hR⟩
    ·subst hR;have b3:((e0:Int) !=0)=true:=by simpa using A
     go_wp2_with(go_at_call 82;(with_reducible refine(br_fail e0 k _).mono ?_);rintro e w' ⟨rfl,rfl⟩);exact⟨rfl,rfl,S,(Stp.of FC.out).trans (Stp.of HF.out)⟩
    ·subst hR;subst A;have v:=B.out.on HF.out;have a8:=lt_heap B.out.blk;have a9:=lt_heap o.out;have m:g1.heap.size≠b:=by omega
     obtain⟨⟨_,n1,_⟩,_,n2,_⟩:=Zd v.blk _ (Fr.refl _ _);have F:=hid v;clear v;have b1:Q4 (wf.setCell ⟨b,1,none⟩ (.int .i64 (k:Nat))) g1.heap.size c:=by
      have g:=(Fr.refl (fun i=>i=b) wf).setCell (p:=⟨b,1,none⟩) (fun _=>rfl) (.int .i64 (k:Nat));have q:=Q4.of o.out;exact⟨g.cell q.1 m,g.cell q.2.1 m,g.cell q.2.2.1 m,g.cell q.2.2.2 m⟩
     go_wp2;go_ret;exact⟨_,_,S,rfl,by rw[RN];rfl,⟨_,_,F.out.turned 1 _ (s.to k) (by simp[RxS.to]) rfl rfl⟩,((Stp.of FC.out).trans (Stp.of HF.out)).trans (F.out.stp 1 _)⟩
   ·obtain⟨wf,n⟩:∃wf,wf=((((g1.setCell ⟨wC.heap.size,0,none⟩ (.int .u64 c.a)).setCell ⟨wC.heap.size,1,none⟩ (.int .u64 c.b)).setCell ⟨wC.heap.size,2,none⟩ (.int .u64 c.c)).setCell ⟨wC.heap.size,3,none⟩ (.int .u64 c.d)):=⟨_,rfl⟩;have r:At4 wf wC.heap.size c:=by rw[n];with_reducible exact setFour_heap HZ.out _ _ _ _
    have I:Fr nob wC wf:=by rw[n];exact setFour_frS (G1) (Nat.le_refl _) _ _ _ _
    rw[←n];have HF:=hid I;have o:=hid r;have b0:wC.heap.size≤wC.heap.size:=(Nat.le_refl _);clear n I r rz;rcases W.out with⟨A,hR⟩|⟨A,hR⟩
    ·subst hR;have b3:((e0:Int) !=0)=true:=by simpa using A
     go_wp2_with(go_at_call 82;(with_reducible refine(br_fail e0 k _).mono ?_);rintro e w' ⟨rfl,rfl⟩);exact⟨rfl,rfl,S,(Stp.of FC.out).trans (Stp.of HF.out)⟩
    ·subst hR;subst A;have v:=B.out.on HF.out;have a8:=lt_heap B.out.blk;have a9:=lt_heap o.out;have m:wC.heap.size≠b:=by omega
     obtain⟨⟨_,n1,_⟩,_,n2,_⟩:=Zd v.blk _ (Fr.refl _ _);have F:=hid v;clear v;have b1:Q4 (wf.setCell ⟨b,1,none⟩ (.int .i64 (k:Nat))) wC.heap.size c:=by
      have g:=(Fr.refl (fun i=>i=b) wf).setCell (p:=⟨b,1,none⟩) (fun _=>rfl) (.int .i64 (k:Nat));have q:=Q4.of o.out;exact⟨g.cell q.1 m,g.cell q.2.1 m,g.cell q.2.2.1 m,g.cell q.2.2.2 m⟩
     go_wp2;go_ret;exact⟨_,_,S,rfl,by rw[RN];rfl,⟨_,_,F.out.turned 1 _ (s.to k) (by simp[RxS.to]) rfl rfl⟩,((Stp.of FC.out).trans (Stp.of HF.out)).trans (F.out.stp 1 _)⟩
  ·rw[if_neg E]at hR;have t2:((x.toNat:Int)==91)=false:=Zn (b:=91) E;obtain⟨w1,J⟩:∃w1,w1=wC.setCell ⟨b,1,none⟩ (.int .i64 ((s.at_:Int)+1)):=⟨_,rfl⟩;have Z:Br b l (s.go 1) S cv mv w1:=by rw[J];exact B.out.turned 1 _ (s.go 1) (by simp[RxS.go]) rfl rfl
   have a0:Stp S w S w1:=by rw[J];exact(Stp.of FC.out).trans (B.out.stp 1 _)
   have b2:w1.heap.size=wC.heap.size:=by rw[J];simp[World.setCell]
   have Y:=hid J;have V:=hid Z;have X:=hid a0;clear J Z a0 j E G;by_cases D:x=46
   ·rw[if_pos D]at hR;have t3:((x.toNat:Int)==46)=true:=Zcy (b:=46) D;have K:=Ze7 0 255 w1 (by decide) (by decide);rw[show((0:Nat):Int)=0 from rfl,show((255:Nat):Int)=255 from rfl]at K;obtain⟨u,hu⟩:∃u,spn 0 255=u:=⟨_,rfl⟩;rw[hu]at K hR;subst hR;have a4:=hid K;clear D K hu;go_wp2_with(rw[←Y.out]);with_reducible refine(a4.out).mono ?_
    rintro e w2 ⟨rfl,f2⟩;have F2:=hid f2;clear f2;go_wp2;go_ret;exact⟨_,_,S,rfl,by unfold prg;rw[RN];rfl,⟨_,_,V.out.on F2.out⟩,X.out.trans (Stp.of F2.out)⟩
   ·rw[if_neg D]at hR;have t3:((x.toNat:Int)==46)=false:=Zn (b:=46) D;have ho:=Zb6 x w1 5;obtain⟨u,hu⟩:∃u,spn x.toNat x.toNat=u:=⟨_,rfl⟩;rw[hu,b2]at ho;rw[hu]at hR;subst hR;have HO:=hid ho;clear D ho hu;go_wp2_with(rw[←Y.out]);with_reducible refine(HO.out).mono ?_
    rintro e w2 ⟨rfl,f2⟩;have F2:=hid (((Fr.refl nob w1).alloc _).trans' f2);clear f2;go_wp2;go_ret;exact⟨_,_,S,rfl,by unfold prg;rw[RN];rfl,⟨_,_,V.out.on F2.out⟩,X.out.trans (Stp.of F2.out)⟩
def PO(O:Nat→Prop)(v:Value):Nat→Prop:=fun k=>O k∨v.ownBlock=some k
def Pts(S O:Nat→Prop)(W w:World)(ps:List Nd)(v:Value):Prop:=OwnNS (SO S O) w ps v v.ownBlock∧∀k,v.ownBlock=some k→¬S k∧W.heap.size≤k
def Off(S:Nat→Prop)(W w w':World):Prop:=∃X,Fr X w w'∧∀k,X k→¬S k∧W.heap.size≤k
theorem Pts.nil(S O:Nat→Prop)(W w:World):Pts S O W w [] (.slice none 0 0):=⟨OwnNS.nil _ _,fun _ h=>by cases h⟩
theorem Pts.shape{S O:Nat→Prop}{W w:World}{ps:List Nd}{v:Value}(h:Pts S O W w ps v):∃a c,v=.slice a ps.length c:=h.1.shape
theorem Pts.stp{S O S':Nat→Prop}{W w w':World}{ps:List Nd}{v:Value}(h:Pts S O W w ps v)(hs:Stp S w S' w'):Pts S' O W w' ps v:=by
 obtain⟨h,hb⟩:=h;have a:=h.lt;obtain⟨vs,h1,h2,h3⟩:=h;refine⟨⟨vs,ownsRow_fr h1 hs.fr (fun k hk=>(hb k hk).1),h2.keep hs.fr (fun k _ x=>.inl (.inl x)) (fun k hk x=> ?_),h3⟩,fun k hk=>⟨fun x=>(hb k hk).1 (hs.old k (a k hk) x),(hb k hk).2⟩⟩;rcases x with(x|x)|x
 ·exact .inl (.inl (hs.old k hk x))
 ·exact .inl (.inr x)
 ·exact .inr x
theorem Pts.on{S O:Nat→Prop}{W w w':World}{ps:List Nd}{v:Value}(h:Pts S O W w ps v)(f:Fr nob w w'):Pts S O W w' ps v:=h.stp (Stp.of f)
theorem Pts.lt{S O:Nat→Prop}{W w:World}{ps:List Nd}{v:Value}(h:Pts S O W w ps v)(hO:∀k,O k→k<w.heap.size):∀k,PO O v k→k<w.heap.size:=fun k hk=>hk.elim (hO k) (h.1.lt k)
theorem Pts.sn{S O:Nat→Prop}{W w:World}{ps:List Nd}{v:Value}(h:Pts S O W w ps v)(hO:∀k,O k→k<W.heap.size):SN (SO S O) w ps v:=
 h.1.sn fun k hk x=>x.elim (h.2 k hk).1 (fun y=>by have:=hO k y;have:=(h.2 k hk).2;omega)
theorem Br.off{b:Nat}{l:List UInt8}{s:RxS}{S:Nat→Prop}{cv mv:Value}{W w w':World}(h:Br b l s S cv mv w)(f:Off S W w w'):Br b l s S cv mv w':=by
 obtain⟨X,f,hX⟩:=f;exact⟨f.heap h.blk (fun x=>(hX _ x).1 h.me),ownsRow_fr h.cl f (fun k hk x=>(hX _ x).1 (h.nc k hk).2),ownsRow_fr h.ma f (fun k hk x=>(hX _ x).1 (h.nm k hk).2),h.nc,h.nm,h.ne,h.me⟩
theorem Rdg.off{b:Nat}{l:List UInt8}{s:RxS}{S:Nat→Prop}{W w w':World}(h:Rdg b l s S w)(f:Off S W w w'):Rdg b l s S w':=by
 obtain⟨cv,mv,h⟩:=h;exact⟨cv,mv,h.off f⟩
theorem Stp.off{S0 S:Nat→Prop}{W w w':World}(h:Stp S0 W S w)(f:Off S W w w'):Stp S0 W S w':=by
 obtain⟨X,f,hX⟩:=f;exact⟨h.fr.trans f (fun i hi x=>by have:=(hX i x).2;omega),h.old,fun hl k hk=>Nat.lt_of_lt_of_le (h.lt hl k hk) f.size⟩
theorem wpList_append_pts{W w0:World}{S O:Nat→Prop}{ops:Array Oper}{rest:List Oper}{o:Oper}{a:Act}{Q:Exit→Act→World→Prop}(hgd:o.guard=none)(s x:Operand)
 (ho:o.op=.call {callee:=.builtin .append,args:= #[s,x],argTypes:= #[73,73]})
 (ps:List Nd) (t:Nd) (v val:Value) (e:TypeId) (b:Nat) (hs:a.eval s=v) (hp:Pts S O W w0 ps v) (hlt:∀k,S k→k<w0.heap.size) (hO:∀k,O k→k<w0.heap.size) (hW:W.heap.size≤w0.heap.size) (hb:b=w0.heap.size)
 (hx:a.eval x=.slice (some ⟨b,0,none⟩) 1 1) (hv:RN (SO S (PO O v)) w0 t val) (hl:ps.length≤2000000)
 (h:∀v' w',Pts S O W w' (ps++[t]) v'→Off S W w0 w'→wpList Tryz.prog ops Q rest (a.put o.dst v') w'):wpList Tryz.prog ops Q (o::rest) a (w0.alloc (.cells #[val] e)):=by
 have i:RN (LGS (SO S O) v.ownBlock) w0 t val:=RN.keep (Fr.refl nob w0) (fun _ _ x=>x.elim) (fun k _ x=>by
  rcases x with(x|x)|x
  ·exact .inl x
  ·exact .inr (.inl x)
  ·exact .inr (.inr x)) _ _ hv
 have g:SN (LGS (SO S O) v.ownBlock) (w0.alloc (.cells #[val] e)) [t] (.slice (some ⟨b,0,none⟩) 1 1):=SN.one' i (fun k x=>by
  rcases x with(x|x)|x
  ·exact hlt k x
  ·exact hO k x
  ·exact hp.1.lt k x) e hb
 have c:=hp.1.on ((Fr.refl nob w0).alloc (.cells #[val] e));refine Zbu hgd s x ho ps [t] v _ v.ownBlock hs c hx g (by simp;omega) fun v' w' g' q1 q2 q3=> ?_;have f:v'.ownBlock=g':=q1.blk;subst f;have d:w0.heap.size≤(w0.alloc (.cells #[val] e)).heap.size:=((Fr.refl nob w0).alloc _).size;refine h v' w' ⟨q1,fun k hk=> ?_⟩ ⟨LG v.ownBlock,((Fr.refl (LG v.ownBlock) w0).alloc _).trans' q2,fun k hk=>hp.2 k hk⟩;rcases q3 k hk with hk|hk
 ·exact hp.2 k hk
 ·refine⟨fun x=>by have:=hlt k x;omega,?_⟩;exact Nat.le_trans (Nat.le_trans hW d) hk
def Nd.unit:Nd→Bool
 | .one _| .rep .. | .group .. | .back _| .start| .fin=>true
 |_=>false
def Zeq(ps:List Nd):Prop:=∀t∈ps,t.unit=true
theorem Zeq.snoc{ps:List Nd}{t:Nd}(h:Zeq ps)(ht:t.unit=true):Zeq (ps++[t]):=fun x hx=>by
 rcases List.mem_append.1 hx with hx|hx
 ·exact h x hx
 ·rw[List.mem_singleton.1 hx];exact ht
theorem unit_part{t:Nd}(h:t.unit=true):t.part=[t]:=by cases t<;>first|rfl|cases h
theorem Zhk{ps:List Nd}(h:Zeq ps):parts ps=ps:=by
 induction ps with
 |nil=>rfl
 |cons t ts ih=>
  show t.part++parts ts=_;rw[unit_part (h t (by simp)),ih (fun x hx=>h x (by simp[hx]))];rfl
def Nd.brn:Nd→Prop
 | .empty=>True
 | .cat l=>1<l.length∧Zeq l
 |t=>t.unit=true
theorem joined_brn{ps:List Nd}(h:Zeq ps):(Za2 ps).brn:=by
 unfold Za2;rw[Zhk h]
 match ps,h with
 |[],_=>trivial
 |[x],h=>
  have:=h x (by simp);show x.brn;cases x<;>first|exact this|cases this
 |x::y::r,h=>exact⟨by simp,h⟩
theorem Zn2{t:Nd}(h:t.brn):t.arm=[t]:=by cases t<;>first|rfl|cases h
def Zn3(ts:List Nd):Prop:=∀t∈ts,t.brn
theorem Zn3.snoc{ts:List Nd}{t:Nd}(h:Zn3 ts)(ht:t.brn):Zn3 (ts++[t]):=fun x hx=>by
 rcases List.mem_append.1 hx with hx|hx
 ·exact h x hx
 ·rw[List.mem_singleton.1 hx];exact ht
theorem brns_arms{ts:List Nd}(h:Zn3 ts):arms ts=ts:=by
 induction ts with
 |nil=>rfl
 |cons t r ih=>
  show t.arm++arms r=_;rw[Zn2 (h t (by simp)),ih (fun x hx=>h x (by simp[hx]))];rfl
theorem Zhl{ts:List Nd}(h:Zn3 ts):Za3 ts=Zd3 ts (.alt ts):=by unfold Za3;rw[brns_arms h]
theorem Zjj{ts:List Nd}(h:Zn3 ts):Za3 ts≠.nil:=by
 rw[Zhl h]
 match ts,h with
 |[],_=>intro e;cases e
 |[x],h=>intro e;have:=h x (by simp);rw[show x=Nd.nil from e]at this;cases this
 |x::y::r,_=>intro e;cases e
theorem repS_unit{l:List UInt8}:∀(n:Nat) (s:RxS) (t t':Nd) (s':RxS),t.unit=true→ZbW prg l n s t=.inr (t',s')→t'.unit=true
 |0,s,t,t',s',ht,h=>by rw[ZbW]at h;injection h with h;injection h with h1 h2;subst h1;exact ht
 |n+1,s,t,t',s',ht,h=>by
  rw[ZbW]at h;split at h
  ·exact repS_unit n _ _ _ _ (by rfl) h
  ·split at h
   ·exact repS_unit n _ _ _ _ (by rfl) h
   ·split at h
    ·split at h
     ·cases h
     ·exact repS_unit n _ _ _ _ (by rfl) h
    ·split at h
     ·exact repS_unit n _ _ _ _ (by rfl) h
     ·injection h with h;injection h with h1 h2;subst h1;exact ht
theorem groupS_unit{l:List UInt8}{C:Option (RxS→Out Nd)}{p:Nat}{s s':RxS}{t:Nd}(h:Zbs prg l C p s=.inr (t,s')):t.unit=true:=by
 unfold Zbs at h;split at h
 ·cases h
 ·split at h
  ·cases h
  ·split at h
   ·injection h with h;injection h with h1 h2;subst h1;rfl
   ·cases h
theorem atomS_unit{l:List UInt8}{C:Option (RxS→Out Nd)}{s s':RxS}{t:Nd}{b:UInt8}(h:Zb0 prg l C s b=.inr (t,s')):t.unit=true:=by
 unfold Zb0 at h;split at h
 ·unfold ZlI at h;split at h
  ·cases h
  ·split at h
   ·exact groupS_unit h
   ·split at h
    ·cases h
    ·split at h
     ·split at h
      ·injection h with h;injection h with h1 h2;subst h1;rfl
      ·cases h
     ·split at h
      ·cases h
      ·injection h with h;injection h with h1 h2;subst h1;rfl
 ·split at h
  ·split at h
   ·cases h
   ·injection h with h;injection h with h1 h2;subst h1;rfl
  ·split at h
   ·injection h with h;injection h with h1 h2;subst h1;rfl
   ·injection h with h;injection h with h1 h2;subst h1;rfl
theorem rndS_unit{l:List UInt8}{C:Option (RxS→Out Nd)}{s s':RxS}{t:Nd}{b:UInt8}(h:ZjJ l C s b=.inr (t,s')):t.unit=true:=by
 unfold ZjJ at h;split at h
 ·cases h
 ·next hp=>exact repS_unit _ _ _ _ _ (atomS_unit hp) h
theorem brS_brn{l:List UInt8}{C:Option (RxS→Out Nd)}{inner:Bool}:∀(n:Nat) (front:Bool) (s:RxS) (ps:List Nd) (t:Nd) (s':RxS),Zeq ps→brS prg l C inner n front s ps=.inr (t,s')→t.brn
 |0,front,s,ps,t,s',hu,h=>by rw[brS]at h;injection h with h;injection h with h1 h2;subst h1;exact joined_brn hu
 |n+1,front,s,ps,t,s',hu,h=>by
  by_cases hl:s.at_<l.length
  ·cases h1:(ahd l s.at_ [92,124]||(inner&&ahd l s.at_ [92,41]))with
   |true=>rw[ZdH hl h1]at h;injection h with h;injection h with h1 h2;subst h1;exact joined_brn hu
   |false=>
    cases h2:(front&&(ahd l s.at_ [92,123]||(ahd l s.at_ [92,43]||ahd l s.at_ [92,63])))with
    |true=>rw[Zd6 hl h1 h2]at h;cases h
    |false=>
     cases h3:(ahd l s.at_ [36]&&ZbL l s.at_)with
     |true=>rw[Zfj hl h1 h2 h3]at h;exact brS_brn n _ _ _ _ _ (hu.snoc (by rfl)) h
     |false=>
      rw[ZeD hl h1 h2 h3]at h;cases hr:ZjJ l C s l[s.at_]with
      |inl e=>rw[hr]at h;cases h
      |inr z=>
       obtain⟨t1,s1⟩:=z;rw[hr]at h;exact brS_brn n _ _ _ _ _ (hu.snoc (rndS_unit hr)) h
  ·rw[Zfi (by omega)]at h;injection h with h;injection h with h1 h2;subst h1;exact joined_brn hu
theorem branchS_brn{l:List UInt8}{C:Option (RxS→Out Nd)}{inner:Bool}{s s':RxS}{t:Nd}(h:branchS prg l C inner s=.inr (t,s')):t.brn:=by
 unfold branchS at h;split at h
 ·exact brS_brn _ _ _ _ _ _ (fun x hx=>by rw[List.mem_singleton.1 hx];rfl) h
 ·exact brS_brn _ _ _ _ _ _ (fun x hx=>by cases hx) h
theorem Zhm{t:Nd}(h:t.brn):t≠.nil:=by rintro rfl;cases h
theorem RN.kind'{S:Nat→Prop}{w:World}{t:Nd}{v:Value}(h:RN S w t v):t=.nil∨∃i x,v=.iface i x:=by
 cases t with
 |nil=>exact .inl rfl
 |_=>exact .inr (by rcases h.shape with e|e<;>first|exact e|(subst e;rw[RN]at h;first|(obtain⟨_,h,_⟩:=h;cases h;done)|(cases h;done)))
theorem RN.some{S:Nat→Prop}{w:World}{t:Nd}{v:Value}(h:RN S w t v)(ht:t≠.nil):∃i x,v=.iface i x:=by
 rcases h.kind' with h|h
 ·exact absurd h ht
 ·exact h
def BrRel(b:Nat)(l:List UInt8)(C:Option (RxS→Out Nd))(inner:Bool)(S O:Nat→Prop)(w:World)(F:Out Nd)(n:Nat)(v5 v6:Value)(wr:World):Prop:=
 ∃front s ps S',v6=.bool front∧Pts S' O w wr ps v5∧Rdg b l s S' wr∧Stp S w S' wr∧Sane l s∧l.length<n+s.at_∧Nd.sizes ps≤s.at_∧Zeq ps∧brS prg l C inner n front s ps=F
theorem ZkB(b:Nat)(l:List UInt8)(W0:World)(deep:Nat)(C:Option (RxS→Out Nd))(s:RxS)(S O:Nat→Prop)(w:World)(hO:∀k,O k→k<w.heap.size)(hl:l.length≤100000)(hd:deep≤12)(hE0:Env W0)
 (hG:ZoT l W0 deep C) (hC:∀f,C=some f→ZcC l 2 f) (hs:Sane l s) (hW:Wd W0 S w) (h:Rdg b l s S w):
 Calls Tryz.prog 52 #[.pointer (some ⟨b,0,none⟩),.int .i64 deep] w fun x w'=>ZbO b l S O w (branchS prg l C (decide (0<deep)) s) x w':=by
 obtain⟨a,b7⟩:∃a,decide (0<deep)=a:=⟨_,rfl⟩;obtain⟨F,hF⟩:∃F,branchS prg l C a s=F:=⟨_,rfl⟩;rw[b7,hF];have d6:=hid (ZbN b l [94] s S w hl (by decide) hs.le h);have q:=hid hs;have HW:=hid hW;have HG:=hid hG;have HC:=hid hC;have h1:=hid hE0;have B:=hid hO;unfold branchS at hF;have c8:=hid b7;clear hs hW hG hC hE0 hO h b7;go_enter Tryz.func52,Tryz.ntmps52;go_wp2_with fail;refine(d6.out).mono ?_;rintro e w1 ⟨rfl,r1,t1⟩;have R1:=hid r1;have T1:=hid t1;clear d6 r1 t1;go_upto_if 8 with(fail)
 go_cut [5] (fun v w'=>∃s1 c,Pts S O w w' c v∧Rdg b l s1 S w'∧Stp S w S w'∧Sane l s1∧Nd.sizes c≤s1.at_∧Zeq c∧brS prg l C a (l.length+1) true s1 c=F)
 case first=>
  cases e0:ahd l s.at_ [94]
  case' true=>
   rw[if_pos e0]at hF;have r1:=R1.out;rw[e0]at r1;simp only[if_true]at r1;have f9:=ahd_le e0 (by decide);simp only[List.length_singleton]at f9;have d1:=hid (HW.out.stp T1.out).lt;go_wp2_with(at_builtin;refine wpList_append_pts (W:=w) (S:=S) (O:=O) rfl (.tmp 9) (.tmp 12) rfl [] .start (.slice none 0 0) _ _ _ (by rfl) (Pts.nil _ _ _ _) d1.out (fun k hk=>Nat.lt_of_lt_of_le (B.out k hk) T1.out.fr.size) T1.out.fr.size rfl (by rfl) (by rw[RN]) (by simp) ?_;intro v2 w2 c0 R;obtain⟨s1,g⟩:∃s1,s1=s.go 1:=⟨_,rfl⟩;obtain⟨c,d⟩:∃c:List Nd,c=[.start]:=⟨_,rfl⟩;have D:=hid (show Pts S O w w2 c v2 from d▸c0);have E:=hid (show Rdg b l s1 S w2 from g▸r1.off R);have H:=hid (T1.out.off R);have G:=hid (show Sane l s1 from g▸q.out.go f9);have J:=hid (show Nd.sizes c≤s1.at_ from by rw[g,d];show 1+0≤s.at_+1;omega);have I:=hid (show Zeq c from d▸fun x hx=>by rw[List.mem_singleton.1 hx];rfl);have A:=hid (show brS prg l C a (l.length+1) true s1 c=F from by rw[g,d];exact hF);obtain⟨a2,c2,rfl⟩:=c0.shape;clear c0 R g d r1 hF e0 R1 d1)
   go_meet
   case rel=>exact⟨s1,c,D.out,E.out,H.out,G.out,J.out,I.out,A.out⟩
  case' false=>
   rw[if_neg (by rw[e0];decide)]at hF;have r1:=R1.out;rw[e0]at r1;simp only[Bool.false_eq_true,if_false]at r1;obtain⟨w2,i2⟩:∃w2,w2=w1:=⟨_,rfl⟩;subst i2;obtain⟨s1,g⟩:∃s1,s1=s:=⟨_,rfl⟩;obtain⟨c,d⟩:∃c:List Nd,c=[]:=⟨_,rfl⟩;have D:=hid (show Pts S O w w2 c (.slice none 0 0)from d▸Pts.nil _ _ _ _);have E:=hid (show Rdg b l s1 S w2 from g▸r1);have H:=hid (T1.out);have G:=hid (show Sane l s1 from g▸q.out);have J:=hid (show Nd.sizes c≤s1.at_ from by rw[d];exact Nat.zero_le _);have I:=hid (show Zeq c from d▸fun x hx=>by cases hx);have A:=hid (show brS prg l C a (l.length+1) true s1 c=F from by rw[g,d];exact hF);clear g d r1 hF e0 R1;go_wp2;go_meet
   case rel=>exact⟨s1,c,D.out,E.out,H.out,G.out,J.out,I.out,A.out⟩
 case rest=>
  obtain⟨s1,c,b9,g0,g3,g,g6,g4,f8⟩:=hcut;have D:=hid b9;have E:=hid g0;have H:=hid g3;have G:=hid g;have J:=hid g6;have I:=hid g4;have A:=hid f8;obtain⟨a2,c2,rfl⟩:=b9.shape;clear b9 g0 g3 g g6 g4 f8;go_wp2_with fail;clear T1 R1 q
  go_loopg [5,6] (l.length+1) (fun n u v wr=>BrRel b l C a S O w F n u v wr)
  case atStart=>exact⟨true,s1,c,S,rfl,D.out,E.out,H.out,G.out,by omega,J.out,I.out,A.out⟩
  case round=>
   clear D E H G J I A;obtain⟨t,s,ps,S1,rfl,hp,hr,p,c5,hn,hz,hu,hF⟩:=hrel;have g1:=c5.le;obtain⟨m,rfl⟩:∃m,gk=m+1:=⟨gk-1,by omega⟩;obtain⟨av,d8,hv⟩:=hp.shape;subst hv;obtain⟨v5,c6⟩:∃v5,v5=Value.slice av ps.length d8:=⟨_,rfl⟩;have a3:=hid (ZnV b l s S1 wr (by omega) hr);have HA:=hid (fun(tt:List UInt8) (w':World) (f:Fr nob wr w') (ht:tt.length≤1000)=>Zcg b l tt s S1 w' (by omega) (by omega) g1 (hr.on f));have HP:=hid (show Pts S1 O w wr ps v5 from c6▸hp);have HR:=hid hr;have i:=hid p;have q:=hid c5;have HU:=hid hu;have HF:=hid hF;have d7:=hid c6;have a5:=hid (HW.out.stp p);have HJ:=hid (fun(w':World) (f:Fr nob wr w')=>joinS_any (SO S1 O) ps (.slice av ps.length d8) w' (fun k hk=>Nat.lt_of_lt_of_le (hk.elim ((HW.out.stp p).lt k) (fun x=>Nat.lt_of_lt_of_le (B.out k x) p.fr.size)) f.size) (by omega) ((hp.on f).sn B.out));clear hp hr p c5 hF c6 hu
   obtain⟨ov,b8⟩:∃x,decide (l.length≤s.at_)=x:=⟨_,rfl⟩;obtain⟨e1,a8⟩:∃x,ahd l s.at_ [92,124]=x:=⟨_,rfl⟩;obtain⟨e2,b0⟩:∃x,ahd l s.at_ [92,41]=x:=⟨_,rfl⟩;obtain⟨e3,b1⟩:∃x,ahd l s.at_ [92,123]=x:=⟨_,rfl⟩;obtain⟨e4,b2⟩:∃x,ahd l s.at_ [92,43]=x:=⟨_,rfl⟩;obtain⟨e5,b3⟩:∃x,ahd l s.at_ [92,63]=x:=⟨_,rfl⟩;obtain⟨e6,b4⟩:∃x,ahd l s.at_ [36]=x:=⟨_,rfl⟩;obtain⟨e7,b5⟩:∃x,ZbL l s.at_=x:=⟨_,rfl⟩;obtain⟨st,p⟩:∃x,(ov||(e1||(a&&e2)))=x:=⟨_,rfl⟩;obtain⟨bad,a7⟩:∃x,(t&&(e3||(e4||e5)))=x:=⟨_,rfl⟩;obtain⟨M,b6⟩:∃x,(e6&&e7)=x:=⟨_,rfl⟩;rw[b8]at a3;have H1:=hid (fun w' f=>by have:=HA.out [92,124] w' f (by decide);rwa[a8]at this);have H2:=hid (fun w' f=>by have:=HA.out [92,41] w' f (by decide);rwa[b0]at this);have H3:=hid (fun w' f=>by have:=HA.out [92,123] w' f (by decide);rwa[b1]at this);have H4:=hid (fun w' f=>by have:=HA.out [92,43] w' f (by decide);rwa[b2]at this);have H5:=hid (fun w' f=>by have:=HA.out [92,63] w' f (by decide);rwa[b3]at this)
   have H6:=hid (fun w' f=>by have:=HA.out [36] w' f (by decide);rwa[b4]at this);have HE:=hid (show decide (l.length≤s.at_)=ov∧(ahd l s.at_ [92,124]||(a&&ahd l s.at_ [92,41]))=(e1||(a&&e2))∧(t&&(ahd l s.at_ [92,123]||(ahd l s.at_ [92,43]||ahd l s.at_ [92,63])))=bad∧(ahd l s.at_ [36]&&ZbL l s.at_)=M by rw[a8,b0,b1,b2,b3,b4,b5];exact⟨b8,rfl,a7,b6⟩);have j:=hid p;have L:=hid a7;have a0:=hid b6;have c7:=hid b5;clear b8 a8 b0 b1 b2 b3 b4 b5 p a7 b6 HA
   go_upto_region 5 with(fail)
   go_cut [30] (fun v w'=>v=.bool (!st)∧Fr nob wr w')
   case first=>
    go_wp2_with fail;refine(a3.out).mono ?_;rintro e w1 ⟨rfl,f1⟩;have F1:=hid f1;clear f1;cases ov
    ·go_wp2_with fail;refine(H1.out w1 F1.out).mono ?_;rintro e w2 ⟨rfl,f2⟩;have F2:=hid (F1.out.trans' f2);clear f2;cases e1
     ·cases a
      ·have h0:¬(0:Int)<(deep:Int):=by have:=of_decide_eq_false c8.out;omega
       go_wp2;go_meet
       case rel=>exact⟨by rw[←j.out];rfl,F2.out⟩
      ·have h0:(0:Int)<(deep:Int):=by have:=of_decide_eq_true c8.out;omega
       go_wp2_with fail;refine(H2.out w2 F2.out).mono ?_;rintro e w3 ⟨rfl,f3⟩;go_wp2;go_meet
       case rel=>exact⟨by rw[←j.out];rfl,F2.out.trans' f3⟩
     ·go_wp2;go_meet
      case rel=>exact⟨by rw[←j.out];rfl,F2.out⟩
    ·go_wp2;go_meet
     case rel=>exact⟨by rw[←j.out];rfl,F1.out⟩
   case rest=>
   obtain⟨rfl,f1⟩:=hcut;have F1:=hid f1;clear f1 a3 H1 H2;cases st with
   |true=>
    have hF:=HF.out;have h9:F=.inr (Za2 ps,s):=by
     by_cases ho:l.length≤s.at_
     ·rw[Zfi ho]at hF;exact hF.symm
     ·rw[ZdH (by omega) (by have h:=j.out;rw[←HE.out.1,decide_eq_false ho]at h;rw[HE.out.2.1];exact h)]at hF;exact hF.symm
    subst h9;clear hF HF;go_wp2_with fail;refine(HJ.out _ F1.out).mono ?_;rintro e wj ⟨r,rfl,c4,fj⟩;obtain⟨ij,yj,rfl⟩:=c4.some (Zhm (joined_brn HU.out));have h4:=hid c4;have FJ:=hid (F1.out.trans' fj);clear c4 fj;go_wp2;go_ret;exact⟨ij,yj,S1,rfl,h4.out,HR.out.on FJ.out,i.out.trans (Stp.of FJ.out)⟩
   |false=>
   have y:=j.out;rw[Bool.or_eq_false_iff]at y;have ha:s.at_<l.length:=by have:=of_decide_eq_false (HE.out.1.trans y.1);omega
   have o:=hid (HE.out.2.1.trans y.2);clear y j
   go_upto_region 7 with(fail)
   go_cut [43] (fun v w'=>v=.bool bad∧Fr nob wr w')
   case first=>
    cases t
    ·go_wp2;go_meet
     case rel=>exact⟨by rw[←L.out];rfl,F1.out⟩
    ·go_wp2_with fail;refine(H3.out _ F1.out).mono ?_;rintro e w4 ⟨rfl,f4⟩;have F4:=hid (F1.out.trans' f4);clear f4;cases e3
     ·go_wp2_with fail;refine(H4.out _ F4.out).mono ?_;rintro e w5 ⟨rfl,f5⟩;have F5:=hid (F4.out.trans' f5);clear f5;cases e4
      ·go_wp2_with fail;refine(H5.out _ F5.out).mono ?_;rintro e w6 ⟨rfl,f6⟩;go_wp2;go_meet
       case rel=>exact⟨by rw[←L.out];rfl,F5.out.trans' f6⟩
      ·go_wp2;go_meet
       case rel=>exact⟨by rw[←L.out];rfl,F5.out⟩
     ·go_wp2;go_meet
      case rel=>exact⟨by rw[←L.out];rfl,F4.out⟩
   case rest=>
   obtain⟨rfl,fz⟩:=hcut;have FZ:=hid fz;clear fz H3 H4 H5 F1;cases bad with
   |true=>
    have hF:=HF.out;rw[Zd6 ha o.out HE.out.2.2.1]at hF;subst hF;clear HF;obtain⟨i4,i5,e8⟩:=HR.out.on FZ.out;obtain⟨⟨_,q1,_⟩,_,q2,_⟩:=Zd e8.blk _ (Fr.refl _ _);clear e8;go_wp2_with(go_at_call 82;(with_reducible refine(br_fail 10 s.at_ _).mono ?_);rintro e w' ⟨rfl,rfl⟩);exact⟨rfl,rfl,S1,i.out.trans (Stp.of FZ.out)⟩
   |false=>
   obtain⟨x,hx⟩:∃x,l[s.at_]=x:=⟨_,rfl⟩;have d0:=hid (fun(w':World) (f:Fr nob wr w')=>by have:=Zko b l s S1 w' (by omega) ha (HR.out.on f);rwa[c7.out]at this);have U:=hid (fun(w':World) (f:Fr nob wr w')=>ZkA b l W0 deep C s S1 (PO O v5) w' x ((HP.out.on f).lt (fun k hk=>Nat.lt_of_lt_of_le (B.out k hk) (Nat.le_trans i.out.fr.size f.size))) hl hd h1.out HG.out q.out ha hx (a5.out.stp (Stp.of f)) (HR.out.on f));clear HJ
   go_upto_region 9 with(fail)
   go_cut [54] (fun v w'=>v=.bool M∧Fr nob wr w')
   case first=>
    go_wp2_with fail;refine(H6.out _ FZ.out).mono ?_;rintro e w6 ⟨rfl,f6⟩;have F6:=hid (FZ.out.trans' f6);clear f6;cases e6
    ·go_wp2;go_meet
     case rel=>exact⟨by rw[←a0.out];rfl,F6.out⟩
    ·go_wp2_with fail;refine(d0.out w6 F6.out).mono ?_;rintro e w7 ⟨rfl,f7⟩;go_wp2;go_meet
     case rel=>exact⟨by rw[←a0.out];rfl,F6.out.trans' f7⟩
   case rest=>
   obtain⟨rfl,f7⟩:=hcut;have F7:=hid f7;clear f7 H6 d0 FZ;cases M with
   |true=>
    have hF:=HF.out;rw[Zfj ha o.out HE.out.2.2.1 HE.out.2.2.2]at hF;have Z:=hid hF;clear HF hF U hx;obtain⟨h8,i3,V⟩:=HR.out.on F7.out;obtain⟨⟨_,q1,_⟩,_,q2,_⟩:=Zd V.blk _ (Fr.refl _ _);obtain⟨w8,Q⟩:∃w8,w8=wc.setCell ⟨b,1,none⟩ (.int .i64 ((s.at_:Int)+1)):=⟨_,rfl⟩;have d9:Rdg b l (s.go 1) S1 w8:=⟨h8,i3,by rw[Q];exact V.turned 1 _ (s.go 1) (by simp[RxS.go]) rfl rfl⟩;have K:Stp S1 wr S1 w8:=by rw[Q];exact(Stp.of F7.out).trans (V.stp 1 _)
    have g2:w8.heap.size=wc.heap.size:=by rw[Q];simp[World.setCell]
    have g9:=hid d9;have h5:=hid K;have h6:=hid Q;have h2:=hid (HP.out.stp K);have d2:=hid (a5.out.stp K).lt;have a1:=hid (show∀k,O k→k<w8.heap.size from fun k hk=>Nat.lt_of_lt_of_le (B.out k hk) (Nat.le_trans i.out.fr.size K.fr.size));have a6:=hid (Nat.le_trans i.out.fr.size K.fr.size);have i0:=Nd.length_le ps;clear V d9 K Q;go_wp2_with(first|(rw[←h6.out])|(at_builtin;refine wpList_append_pts (W:=w) (S:=S1) (O:=O) rfl (.tmp 62) (.tmp 65) rfl ps .fin v5 _ _ _ (by rw[d7.out];rfl) h2.out d2.out a1.out a6.out g2.symm (by rfl) (by rw[RN]) (by omega) ?_;intro v9 w9 c1 X;obtain⟨a9,c9,e9⟩:=c1.shape;simp only[List.length_append,List.length_singleton]at e9;subst e9;have a4:=hid c1;have d4:=hid X;clear c1 X));go_roundg m
    case measure=>omega
    case rel=>
     refine⟨false,s.go 1,ps++[.fin],S1,rfl,a4.out,g9.out.off d4.out,(i.out.trans h5.out).off d4.out,q.out.go (by omega),?_,?_,HU.out.snoc rfl,Z.out⟩
     ·show l.length<m+(s.at_+1);omega
     ·rw[Nd.sizes_append];show Nd.sizes ps+(1+0)≤s.at_+1;omega
   |false=>
    have hF:=HF.out;rw[ZeD ha o.out HE.out.2.2.1 HE.out.2.2.2]at hF;unfold ZjJ at hF;rw[hx]at hF;have H8:=hid (U.out wc F7.out);clear HE L a0 c7 o;cases N:Zb0 prg l C s x with
    |inl z=>
     obtain⟨z1,z2⟩:=z;rw[N]at hF H8;subst hF;clear HF U;go_wp2_with fail;refine(H8.out).mono ?_;rintro e w8 ⟨rfl,S2,t8⟩;exact⟨rfl,rfl,S2,(i.out.trans (Stp.of F7.out)).trans t8⟩
    |inr z=>
     obtain⟨n1,s1⟩:=z;rw[N]at hF H8;simp only at hF;obtain⟨k1,k2,k3⟩:=Zbw HC.out q.out ha N;have i1:=atomS_unit N;clear HF U N;go_wp2_with fail;refine(H8.out).mono ?_;rintro e w8 ⟨i8,y8,S2,rfl,g7,r8,t8⟩;have T8:=hid ((Stp.of F7.out).trans t8);have H9:=hid (ZbP b l s1 n1 i8 y8 S2 (PO O v5) w8 hl k1.le k1.mr g7 r8);clear g7 r8 t8 H8;cases P:ZbW prg l (l.length+1) s1 n1 with
     |inl z=>
      obtain⟨z1,z2⟩:=z;rw[P]at hF H9;subst hF;go_wp2_with fail;refine(H9.out).mono ?_;rintro e w9 ⟨rfl,S3,t9⟩;exact⟨rfl,rfl,S3,(i.out.trans T8.out).trans t9⟩
     |inr z=>
      obtain⟨n2,s2⟩:=z;rw[P]at hF H9;simp only at hF;obtain⟨j1,j2,j3⟩:=ZaA _ _ _ _ _ k1 P;have g5:=repS_unit _ _ _ _ _ i1 P;have Z:=hid hF;clear P hF;go_wp2_with fail;refine(H9.out).mono ?_;rintro e w9 ⟨i9,y9,S3,rfl,g8,r9,t9⟩;have T9:=hid (T8.out.trans t9);have h7:=hid g8;have R9:=hid r9;clear g8 r9 t9 H9;have a4:=hid (HP.out.stp T9.out);have d3:=hid (a5.out.stp T9.out).lt;have a1:=hid (show∀k,O k→k<w9.heap.size from fun k hk=>Nat.lt_of_lt_of_le (B.out k hk) (Nat.le_trans i.out.fr.size T9.out.fr.size));have a6:=hid (Nat.le_trans i.out.fr.size T9.out.fr.size);have i0:=Nd.length_le ps;go_wp2_with(at_builtin;refine wpList_append_pts (W:=w) (S:=S3) (O:=O) rfl (.tmp 67) (.tmp 73) rfl ps n2 v5 _ _ _ (by rw[d7.out];rfl) a4.out d3.out a1.out a6.out rfl (by rfl) h7.out (by omega) ?_;intro va wa c3 Y;obtain⟨aa,ca,f0⟩:=c3.shape;simp only[List.length_append,List.length_singleton]at f0;subst f0;have h3:=hid c3;have d5:=hid Y;clear c3 Y)
      go_roundg m
      case measure=>omega
      case rel=>
       refine⟨false,s2,ps++[n2],S3,rfl,h3.out,R9.out.off d5.out,(i.out.trans T9.out).off d5.out,j1,by omega,?_,HU.out.snoc g5,Z.out⟩;rw[Nd.sizes_append];show Nd.sizes ps+(n2.size+0)≤s2.at_;omega
theorem Zhn{w:World}{b:Nat}{v:Value}{e:TypeId}(h:w.heap[b]? =some (.cells #[v] e (0,0))):w.ownsRow 0 e 1 (.slice (some ⟨b,0,none⟩) 1 1) 1 [v]:=by
 refine⟨by simp,.inr ⟨b,1,#[v],rfl,Nat.zero_le _,h,by simp,by simp[maxLen],by simp,by simp⟩⟩
theorem Pts.one{S O:Nat→Prop}{W w0:World}{t:Nd}{val:Value}{b:Nat}(hv:RN (SO S O) w0 t val)(hlt:∀k,S k→k<w0.heap.size)(hO:∀k,O k→k<w0.heap.size)(hW:W.heap.size≤w0.heap.size)(hb:b=w0.heap.size):
 Pts S O W (w0.alloc (.cells #[val] 24)) [t] (.slice (some ⟨b,0,none⟩) 1 1):=by
 subst hb;refine⟨⟨[val],Zhn (newAt0 w0 _),⟨val,[],rfl,?_,rfl⟩,rfl⟩,fun k hk=> ?_⟩
 ·refine RN.keep ((Fr.refl nob w0).alloc _) (fun _ _ x=>x.elim) (fun k hk x=> ?_) _ _ hv;rcases x with x|x
  ·exact x
  ·have x:some w0.heap.size=some k:=x;injection x with x;omega
 ·have hk:some w0.heap.size=some k:=hk;injection hk with hk;exact⟨fun x=>by have:=hlt k x;omega,by omega⟩
section
variable {l:List UInt8} {C:Option (RxS→Out Nd)} {inner:Bool} {n:Nat} {s:RxS} {ts:List Nd}
theorem Zjk(h:ahd l s.at_ [92,124]=false):Za1 prg l C inner (n+1) s ts=.inr (Za3 ts,s):=by
 rw[Za1,if_neg (by rw[h];decide)];rfl
theorem Zjl(h:ahd l s.at_ [92,124]=true){e:Int×Nat}(hb:branchS prg l C inner ((s.mark [92,124]).go 2)=.inl e):Za1 prg l C inner (n+1) s ts=.inl e:=by
 rw[Za1,if_pos h,hb]
theorem ZkC(h:ahd l s.at_ [92,124]=true){t:Nd}{s':RxS}(hb:branchS prg l C inner ((s.mark [92,124]).go 2)=.inr (t,s')):Za1 prg l C inner (n+1) s ts=Za1 prg l C inner n s' (ts++[t]):=by
 rw[Za1,if_pos h,hb]
end
def Zqu(b:Nat)(l:List UInt8)(C:Option (RxS→Out Nd))(inner:Bool)(S O:Nat→Prop)(w:World)(F:Out Nd)(n:Nat)(v5:Value)(wr:World):Prop:=
 ∃s ts S',Pts S' O w wr ts v5∧Rdg b l s S' wr∧Stp S w S' wr∧Sane l s∧l.length<n+s.at_∧Nd.sizes ts≤s.at_+1∧Zn3 ts∧Za1 prg l C inner n s ts=F
theorem Zf6(b:Nat)(l:List UInt8)(W0:World)(deep:Nat)(C:Option (RxS→Out Nd))(s:RxS)(S O:Nat→Prop)(w:World)(hO:∀k,O k→k<w.heap.size)(hl:l.length≤100000)(hd:deep≤12)(hE0:Env W0)
 (hG:ZoT l W0 deep C) (hC:∀f,C=some f→ZcC l 2 f) (hs:Sane l s) (hW:Wd W0 S w) (h:Rdg b l s S w):
 Calls Tryz.prog 33 #[.pointer (some ⟨b,0,none⟩),.int .i64 deep] w fun x w'=>ZbO b l S O w (choiceS prg l C (decide (0<deep)) s) x w':=by
 obtain⟨F,hF⟩:∃F,choiceS prg l C (decide (0<deep)) s=F:=⟨_,rfl⟩;rw[hF];have D:=hid (fun(s:RxS) (S O:Nat→Prop) (w:World) (hO:∀k,O k→k<w.heap.size) (hs:Sane l s) (hW:Wd W0 S w) (h:Rdg b l s S w)=>ZkB b l W0 deep C s S O w hO hl hd hE0 hG hC hs hW h);obtain⟨a,V⟩:∃a,decide (0<deep)=a:=⟨_,rfl⟩;rw[V]at D hF;have HW:=hid hW;have HC:=hid hC;have d:=hid hO;unfold choiceS at hF;have H0:=hid (D.out s S O w hO hs hW h);clear hW hC hE0 hO h hG V;go_enter Tryz.func33,Tryz.ntmps33;go_wp2_with fail;refine(H0.out).mono ?_;cases g:branchS prg l C a s with
 |inl z=>
  obtain⟨z1,z2⟩:=z;rw[g]at hF;subst hF;rintro e w1 ⟨rfl,S1,t1⟩;exact⟨rfl,rfl,S1,t1⟩
 |inr z=>
  obtain⟨t,s1⟩:=z;rw[g]at hF;simp only at hF;obtain⟨k1,k2,k3⟩:=Zbe HC.out _ hs _ _ g;have u:=branchS_brn g;rintro e w1 ⟨i,y,S1,rfl,a0,r1,t1⟩;have M:=hid (Pts.one (W:=w) a0 ((HW.out.stp t1).lt) (fun k hk=>Nat.lt_of_lt_of_le (d.out k hk) t1.fr.size) t1.fr.size rfl);have R1:=hid r1;have T1:=hid t1;have HF:=hid hF;have K1:=hid k1;clear H0 g hF a0 r1 t1 k1 hs;go_wp2_with fail
  go_loopg [5] (l.length+1) (fun n v wr=>Zqu b l C a S O w F n v wr)
  case atStart=>exact⟨s1,[t],S1,M.out,R1.out.on ((Fr.refl _ _).alloc _),T1.out.trans (Stp.of ((Fr.refl _ _).alloc _)),K1.out,by omega,by show t.size+0≤_;omega,fun x hx=>by rw[List.mem_singleton.1 hx];exact u,HF.out⟩
  case round=>
   clear M R1 T1 K1 HF k2 k3 u;obtain⟨s,ts,S1,hp,hr,o,I,hn,hz,hu,hF⟩:=hrel;have Z:=I.le;obtain⟨m,rfl⟩:∃m,gk=m+1:=⟨gk-1,by omega⟩;obtain⟨av,R,hv⟩:=hp.shape;subst hv;obtain⟨v5,J⟩:∃v5,v5=Value.slice av ts.length R:=⟨_,rfl⟩;have HA:=hid (Zcg b l [92,124] s S1 wr (by omega) (by decide) Z hr);have HP:=hid (show Pts S1 O w wr ts v5 from J▸hp);have HR:=hid hr;have c:=hid o;have N:=hid I;have HU:=hid hu;have HF:=hid hF;have b0:=hid J;have Q:=hid (HW.out.stp o);have HJ:=hid (fun(w':World) (f:Fr nob wr w')=>Zd4 (SO S1 O) ts (.slice av ts.length R) w' (fun k hk=>Nat.lt_of_lt_of_le (hk.elim ((HW.out.stp o).lt k) (fun x=>Nat.lt_of_lt_of_le (d.out k x) o.fr.size)) f.size) (by omega) ((hp.on f).sn d.out));clear hp hr o I hF J hu;cases e1:ahd l s.at_ [92,124]with
   |false=>
    rw[e1]at HA;have hF:=HF.out;rw[Zjk e1]at hF;subst hF;clear HF;go_wp2_with fail;refine(HA.out).mono ?_;rintro e w2 ⟨rfl,f2⟩;have F2:=hid f2;clear f2;go_wp2_with fail;refine(HJ.out _ F2.out).mono ?_;rintro e wj ⟨r,rfl,H,fj⟩;obtain⟨ij,yj,rfl⟩:=H.some (Zjj HU.out);have a8:=hid H;have FJ:=hid (F2.out.trans' fj);clear H fj;go_wp2;go_ret;exact⟨ij,yj,S1,rfl,a8.out,HR.out.on FJ.out,c.out.trans (Stp.of FJ.out)⟩
   |true=>
    have X:=ahd_le e1 (by decide);simp only[List.length_cons,List.length_nil]at X;rw[e1]at HA;clear HJ;go_wp2_with fail;refine(HA.out).mono ?_;rintro e w2 ⟨rfl,f2⟩;have F2:=hid f2;clear f2;go_wp2_with fail;refine(br_mark b l [92,124] s S1 w2 (by have:=N.out.mr;omega) (HR.out.on F2.out)).mono ?_;rintro e w3 ⟨rfl,S3,⟨b4,b5,q⟩,a2⟩;obtain⟨⟨_,q1,_⟩,_,q2,_⟩:=Zd q.blk _ (Fr.refl _ _);rw[show(s.mark [92,124]).at_=s.at_ from rfl]at q1;obtain⟨w4,A⟩:∃w4,w4=w3.setCell ⟨b,1,none⟩ (.int .i64 ((s.at_:Int)+2)):=⟨_,rfl⟩;have Y:Rdg b l ((s.mark [92,124]).go 2) S3 w4:=⟨b4,b5,by rw[A];exact q.turned 1 _ _ (by simp[RxS.go,RxS.mark]) rfl rfl⟩;have p:Stp S1 wr S3 w4:=by rw[A];exact((Stp.of F2.out).trans a2).trans (q.stp 1 _)
    have j:=N.out.markgo [92,124] (n:=2) (by omega) X;have E:=HP.out.stp p;have H5:=hid (D.out ((s.mark [92,124]).go 2) S3 (PO O v5) w4 (E.lt (fun k hk=>Nat.lt_of_lt_of_le (d.out k hk) (Nat.le_trans c.out.fr.size p.fr.size))) j (Q.out.stp p) Y);have b6:=hid E;have P:=hid p;have b1:=hid A;have a9:=hid j;clear q a2 Y p j E A HA;go_wp2_with(rw[←b1.out]);with_reducible refine(H5.out).mono ?_
    cases hb:branchS prg l C a ((s.mark [92,124]).go 2)with
    |inl z=>
     obtain⟨z1,z2⟩:=z;have hF:=HF.out;rw[Zjl e1 hb]at hF;subst hF;rintro e w5 ⟨rfl,S5,t5⟩;exact⟨rfl,rfl,S5,(c.out.trans P.out).trans t5⟩
    |inr z=>
     obtain⟨t5,s5⟩:=z;have hF:=HF.out;rw[ZkC e1 hb]at hF;obtain⟨j1,j2,j3⟩:=Zbe HC.out _ a9.out _ _ hb;have u:=branchS_brn hb;have j2:s.at_+2≤s5.at_:=j2;have j3:t5.size+(s.at_+2)≤s5.at_+1:=j3;rintro e w5 ⟨i5,y5,S5,rfl,a1,r5,a3⟩;have T5:=hid (P.out.trans a3);have b3:=hid a1;have R5:=hid r5;have a4:=hid hF;clear hF a1 r5 a3 H5 HF e1 hb;have a6:=hid (HP.out.stp T5.out);have K:=hid (Q.out.stp T5.out).lt;have a5:=hid (show∀k,O k→k<w5.heap.size from fun k hk=>Nat.lt_of_lt_of_le (d.out k hk) (Nat.le_trans c.out.fr.size T5.out.fr.size));have b2:=hid (Nat.le_trans c.out.fr.size T5.out.fr.size);have b7:=Nd.length_le ts;go_wp2_with(at_builtin;refine wpList_append_pts (W:=w) (S:=S5) (O:=O) rfl (.tmp 21) (.tmp 25) rfl ts t5 v5 _ _ _ (by rw[b0.out];rfl) a6.out K.out a5.out b2.out rfl (by rfl) b3.out (by omega) ?_;intro va wa G B;obtain⟨aa,ca,U⟩:=G.shape;simp only[List.length_append,List.length_singleton]at U;subst U;have a7:=hid G;have L:=hid B;clear G B)
     go_roundg m
     case measure=>omega
     case rel=>
      refine⟨s5,ts++[t5],S5,a7.out,R5.out.off L.out,(c.out.trans T5.out).off L.out,j1,by omega,?_,HU.out.snoc u,a4.out⟩;rw[Nd.sizes_append];show Nd.sizes ts+(t5.size+0)≤s5.at_+1;omega
theorem ZkD(l:List UInt8)(W0:World)(hl:l.length≤100000)(hE0:Env W0):∀n deep,n+deep=12→ZqO l W0 deep (chS prg l n)
 |0,deep,hd=>by
  obtain rfl:deep=12:=by omega
  intro b s S O w hO hs hW h;have hG:ZoT l W0 12 none:=fun b s S O w p _ _ _ _ _=>Zfh b l s S O w p;have:=Zf6 b l W0 12 none s S O w hO hl (Nat.le_refl _) hE0 hG (fun f hf=>by cases hf) hs hW h;rw[chS];exact this
 |n+1,deep,hd=>by
  intro b s S O w hO hs hW h;have ih:=ZkD l W0 hl hE0 n (deep+1) (by omega);have hG:ZoT l W0 deep (some (chS prg l n)):=fun b s S O w p hO hs h1 hW h=>Zmk b l W0 deep (chS prg l n) s S O w p hO hl (by omega) ih (chS_kept n).kept hs h1 hW h;have:=Zf6 b l W0 deep (some (chS prg l n)) s S O w hO hl (by omega) hE0 hG (fun f hf=>by injection hf with hf;subst hf;exact chS_kept n) hs hW h;rw[chS,show decide (n+1<12)=decide (0<deep)from by congr 1;exact propext ⟨fun _=>by omega,fun _=>by omega⟩];exact this
end Go.Proofs.YtgllcniibbaoaaaGreatDoor
