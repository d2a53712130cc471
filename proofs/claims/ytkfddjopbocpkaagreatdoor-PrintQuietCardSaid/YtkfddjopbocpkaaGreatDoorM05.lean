/- Lemmas of this claim. -/
import Derived.Lib.QuietBelow
import Derived.Laws.OwnMore
import Derived.Test.YtkfddjopbocpkaaGreatDoorM03
set_option linter.unusedVariables false
set_option linter.unusedSimpArgs false
set_option maxRecDepth 100000
set_option maxHeartbeats 4000000
namespace Go.Proofs.YtkfddjopbocpkaaGreatDoor
open Go.RowKit Go.Sort
section
variable {P:Program} {ops:Array Oper} {md:Region.Mode} {C:World→Prop}
def Zj0(P:Program)(md:Region.Mode)(ops:Array Oper)(C:World→Prop)(n:Nat)(L:Array Bool→Act→Prop):Nat→Array Bool→Act→Prop
 |0,listed,a=>L listed a
 |f+1,listed,a=>Region.ready md ops listed≠[]∧∀i,i∈Region.ready md ops listed→i<n∧qOp P ops C i (Zj0 P md ops C n L f (listed.setIfInBounds i true)) a
theorem Zj1{n g:Nat}{L:Array Bool→Act→Prop}{R:Exit→Act→World→Prop}(hL:∀listed a w,C w→L listed a→wpAny P md ops R g listed a w)(f:Nat):
 ∀(listed:Array Bool) (a:Act) (w:World),C w→Zj0 P md ops C n L f listed a→wpAny P md ops R (f+g) listed a w:=by
 induction f with
 |zero=>intro listed a w hw h;rw[Nat.zero_add];exact hL _ _ _ hw h
 |succ f ih=>
  intro listed a w hw h;rw[Nat.succ_add];exact⟨fun e=>(h.1 e).elim,fun i hi=>wpOp_of_qOp hw (fun a' w' hw'=>ih _ a' w' hw') (h.2 i hi).2⟩
theorem Zi3{n i:Nat}{oi:Oper}{v:Value}{L:Array Bool→Act→Prop}(hi:ops[i]? =some oi)(hsel:∀(j:Nat) (o:Oper) cs b,ops[j]? =some o→o.op≠.select cs b)
 (hs:Region.sinkB md ops n=true) (hc:Region.chainB md ops n=true) (hn:n<ops.size) (hin:i<n)
 (hdone:∀listed a,L listed a→∀j∈Region.ready md ops listed,n≤j) (f:Nat):
 ∀(listed:Array Bool) (a:Act),HeadInv md ops n listed→
  (∀j oj,ops[j]? =some oj→j≠i→listed.getD j true=false→(∀e∈oj.after,Region.binds md e=true→e.on≠i)→oi.apart ops oj=true)→
  i∈Region.ready md ops listed→YieldsIn P ops C oi v a→
  Zj0 P md ops C n L f (listed.setIfInBounds i true) (a.put oi.dst v)→Zj0 P md ops C n L (f+1) listed a:=by
 have c:∀(listed:Array Bool),HeadInv md ops n listed→i∈Region.ready md ops listed→∀j∈Region.ready md ops listed,j<n:=fun listed d hr j hj=>
  Nat.lt_of_not_le fun h=>tail_waits hs hc hn d _ i rfl hin (mem_ready.1 hr).1 j h hj
 induction f with
 |zero=>
  intro listed a d _ hr hy H;refine⟨List.ne_nil_of_mem hr,fun j hj=>⟨c _ d hr j hj,?_⟩⟩;rcases Decidable.em (j=i)with rfl|g
  ·exact hy.qOp hi H
  ·exact absurd (hdone _ _ H j (ready_mono hj g)) (Nat.not_le.2 (c _ d hr j hj))
 |succ f ih=>
  intro listed a d l hr hy H;refine⟨List.ne_nil_of_mem hr,fun j hj=>⟨c _ d hr j hj,?_⟩⟩;rcases Decidable.em (j=i)with rfl|g
  ·exact hy.qOp hi H
  ·obtain⟨q,oj,m,p⟩:=mem_ready.1 hj;have u:∀e∈oj.after,Region.binds md e=true→e.on≠i:=by
    intro e he hb h;have:=p e he hb;rw[h,getD_both (mem_ready.1 hr).1]at this;exact Bool.noConfusion this
   refine qOp_mono (fun a' h=>ih _ a' (d.set hj (c _ d hr j hj)) ?_ (ready_mono hr (Ne.symm g)) h.1 ?_) (qOp_put m (l j oj m g q u) (fun cs b=>hsel i oi cs b hi) (fun cs b=>hsel j oj cs b m) hy (H.2 j (ready_mono hj g)).2)
   ·intro k ok hk w s r;refine l k ok hk w ?_ r;rcases Decidable.em (j=k)with rfl|t
    ·exact q
    ·rwa[getD_set_ne true t]at s
   ·rw[Array.setIfInBounds_comm _ _ g];exact h.2
theorem headQ_lex{n g:Nat}{K:Act→Prop}(hsel:Region.noSelect ops=true)(hs:Region.sinkB md ops n=true)(hc:Region.chainB md ops n=true)(hn:n<ops.size)(l:List Oper):
 ∀(k:Nat) (listed:Array Bool) (a:Act),(∀j,j<l.length→l[j]? =ops[k+j]?)→k+l.length=n→HeadInv md ops n listed→
 Region.lexHead md ops g l.length k listed=true→wpQuiet P ops C K l a→
 Zj0 P md ops C n (fun listed' a'=>Region.seqB md ops g n listed'=true∧K a') l.length listed a:=by
 induction l with
 |nil=>
  intro k listed a _ hk _ hB h;obtain rfl:k=n:=hk;exact⟨hB,h⟩
 |cons o l ih=>
  intro k listed a hl hk c hB h;have d:k+(l.length+1)=n:=hk;have h0:ops[k]? =some o:=(hl 0 (Nat.succ_pos _)).symm;have b:((Region.ready md ops listed).contains k&&Region.free md ops listed k&&Region.lexHead md ops g l.length (k+1) (listed.setIfInBounds k true))=true:=hB;rw[Bool.and_eq_true,Bool.and_eq_true]at b;have hr:k∈Region.ready md ops listed:=by simpa using b.1.1
  have hq:qOp P ops C k (wpQuiet P ops C K l) a:=by unfold qOp;rw[h0];exact h
  obtain⟨v,hy,hK⟩:=yieldsIn_of_qOp h0 hq;refine Zi3 h0 (Region.noSelect_spec hsel) hs hc hn (by omega) (fun _ _ hL=>seqB_ready hL.1) _ _ _ c (Region.free_spec h0 b.1.2) hr hy ?_;refine ih (k+1) _ _ (fun j hj=> ?_) (by omega) (c.set hr (by omega)) b.2 hK;have:=hl (j+1) (Nat.succ_lt_succ hj);rwa[List.getElem?_cons_succ,show k+(j+1)=k+1+j by omega]at this
theorem Zg4{id:Nat}{Q:Exit→Act→World→Prop}{a:Act}{w:World}{l:List Oper}(n:Nat)(hm:P.follows .mixedOrders=true)(hB:Region.lexTailB .any l.toArray n=true)(hC:C {w with drawn:=w.drawn+1})
 (h:wpQuiet P l.toArray C (fun a'=>∀w',C w'→wpList P l.toArray Q (l.drop n) a' w') (l.take n) a):(Code.region id l.toArray true).wp P Q a w:=by
 unfold Region.lexTailB at hB;simp only[Bool.and_eq_true,decide_eq_true_eq]at hB;obtain⟨⟨⟨⟨b,hn⟩,hs⟩,hc⟩,c⟩:=hB;have f:n<l.length:=by simpa using hn
 have e1:(l.take n).length=n:=by rw[List.length_take];omega
 have e2:(l.drop n).length=l.toArray.size-n:=by simp
 have d:HeadInv .any l.toArray n (Array.replicate l.toArray.size false):=
  {size:=by simp,closed:=fun j oj _ e=>(by rw[getD_replicate_false]at e;exact Bool.noConfusion e),tail:=fun t _ ht=>getD_in (by simpa using ht) (getD_replicate_false _ _)}
 have H:=headQ_lex (md:=.any) (g:=l.toArray.size-n) b hs hc hn (l.take n) 0 _ a (fun j hj=>by rw[e1]at hj;simp[hj]) (by rw[e1,Nat.zero_add]) d (by rw[e1];exact c) h;refine wp_region_any hm ?_;have H2:=Zj1 (R:=Q) (g:=l.toArray.size-n) (fun listed a' w' hw' hL=>by
  have:=wpAny_of_seq (md:=.any) (Q':=Q) (l.drop n) n listed a' w' (fun j=>by simp[List.getElem?_drop]) (by rw[e2];exact hL.1) (hL.2 w' hw');rwa[e2]at this) _ _ _ {w with drawn:=w.drawn+1} hC H
 rwa[e1,Nat.add_sub_cancel' (Nat.le_of_lt hn)]at H2
def ZqM(w:World):World→Prop:=fun w'=>∃p:Regrown,w'=grow (redrawn w p.d) p.os
theorem Zde{w w':World}(h:ZqM w w'):Fr nob w w':=by
 obtain⟨p,rfl⟩:=h;exact Fr.ofBelow (below_regrown _ _ _)
theorem Zd1{w w':World}(h:Fr nob w w'):ZqM w w':=regrown_of_below h.below
theorem region_fr{id:Nat}{Q:Exit→Act→World→Prop}{a:Act}{w:World}{l:List Oper}(n:Nat)(hm:P.follows .mixedOrders=true)(hB:Region.lexTailB .any l.toArray n=true)
 (h:wpQuiet P l.toArray (fun w'=>∃p:Regrown,w'=grow (redrawn w p.d) p.os) (fun a'=>∀w',Fr nob w w'→wpList P l.toArray Q (l.drop n) a' w') (l.take n) a):(Code.region id l.toArray true).wp P Q a w:=
 Zg4 (C:=fun w'=>∃p:Regrown,w'=grow (redrawn w p.d) p.os) n hm hB (Zd1 (Fr.drew (Fr.refl _ w))) (by
  have:(fun a'=>∀w',(∃p:Regrown,w'=grow (redrawn w p.d) p.os)→wpList P l.toArray Q (l.drop n) a' w')=(fun a'=>∀w',Fr nob w w'→wpList P l.toArray Q (l.drop n) a' w'):=by
   funext a';exact propext ⟨fun h w' f=>h w' (Zd1 f),fun h w' f=>h w' (Zde f)⟩
  rw[this];exact h)
theorem region_fr_all{id:Nat}{Q:Exit→Act→World→Prop}{a:Act}{w:World}{l:List Oper}(hm:P.follows .mixedOrders=true)(hB:Region.lexB .any l.toArray=true)
 (h:wpQuiet P l.toArray (fun w'=>∃p:Regrown,w'=grow (redrawn w p.d) p.os) (fun a'=>∀w',Fr nob w w'→Q .normal a' w') l a):(Code.region id l.toArray true).wp P Q a w:=
 wp_region_quiet (C:=fun w'=>∃p:Regrown,w'=grow (redrawn w p.d) p.os) hm hB (Zd1 (Fr.drew (Fr.refl _ w))) (by
  have:(fun a'=>∀w',(∃p:Regrown,w'=grow (redrawn w p.d) p.os)→Q .normal a' w')=(fun a'=>∀w',Fr nob w w'→Q .normal a' w'):=by
   funext a';exact propext ⟨fun h w' f=>h w' (Zd1 f),fun h w' f=>h w' (Zde f)⟩
  rw[this];simpa using h)
theorem Zud{w:World}{p:Addr}{v:Value}(h:w.cell? p=some v):∀d os,(grow (redrawn w d) os).cell? p=some v:=fun d os=>cell_regrown h d os
theorem calls_fr{f:FuncId}{args:Array Value}{w:World}{d:Nat}{os:Array Obj}{v:Value}
 (h:Calls P f args (grow (redrawn w d) os) fun e w'=>e=.returned v∧Fr nob (grow (redrawn w d) os) w'):Calls P f args (grow (redrawn w d) os) fun e w''=>e=.returned v∧∃p:Regrown,w''=grow (redrawn w p.d) p.os:=
 h.mono fun _ _ ⟨he,hb⟩=>⟨he,Zd1 ((Fr.ofBelow (below_regrown w d os)).trans' hb)⟩
theorem newAt(w:World)(A:Obj):(w.alloc A).heap[w.heap.size]? =some A:=by unfold World.alloc;exact Array.getElem?_push_size
theorem Zg5(a w:World):Fr nob a w.drew=Fr nob a w:=propext ⟨Fr.undrew,Fr.drew⟩
theorem Zi4{a w:World}(h:Fr nob a w)(d:Nat)(os:Array Obj):Fr nob a (grow (redrawn w d) os):=h.trans' (Fr.ofBelow (below_regrown w d os))
theorem Zay{w:World}{p:Addr}{v:Value}(h:w.cell? p=some v):∀w',Fr nob w w'→w'.cell? p=some v:=fun _ f=>f.cell h (fun x=>x)
theorem Zl{w:World}{b:Nat}{v0 v1 v2 v3:Value}{T:TypeId}(h:w.heap[b]? =some (.cells #[v0,v1,v2,v3] T (0,0))):∀w',Fr nob w w'→
 (w'.cell? ⟨b,0,none⟩=some v0∧w'.cell? ⟨b,1,none⟩=some v1∧w'.cell? ⟨b,2,none⟩=some v2∧w'.cell? ⟨b,3,none⟩=some v3)∧
 (w'.frozen? ⟨b,0,none⟩=false∧w'.frozen? ⟨b,1,none⟩=false∧w'.frozen? ⟨b,2,none⟩=false∧w'.frozen? ⟨b,3,none⟩=false):=fun _ f=>by
 have h':=f.heap h (fun x=>x);exact⟨⟨cell_at h' rfl,cell_at h' rfl,cell_at h' rfl,cell_at h' rfl⟩,unfrozen_at h' _,unfrozen_at h' _,unfrozen_at h' _,unfrozen_at h' _⟩
attribute [go_sem] Fr.refl Zg5 Zi4 Fr.alloc
theorem grown_fr(w:World)(d:Nat)(os:Array Obj):Fr nob w (grow (redrawn w d) os):=Fr.ofBelow (below_regrown w d os)
end
open Go.RowKit
abbrev ZcR(s:S4):Value:=.agg #[.int .u64 s.a,.int .u64 s.b,.int .u64 s.c,.int .u64 s.d]
open Go.Lib (hid)
def opn(p:Nat→Bool):Nat→Bool
 |0=>false
 |j+1=>p j
def ext(l:List (Nat×Nat))(k:Nat):List (Nat×Nat):=match l.getLast? with
 |some x=>l.dropLast++[(x.1,k)]
 |none=>l
def spl(p:Nat→Bool):Nat→List (Nat×Nat)
 |0=>[]
 |k+1=>if p k then(if opn p k then ext (spl p k) k else spl p k++[(k,k)])else spl p k
theorem ZtX(l:List (Nat×Nat))(a b k:Nat):ext (l++[(a,b)]) k=l++[(a,k)]:=by simp[ext]
theorem Zty{p:Nat→Bool}{k:Nat}(h:opn p k=true):∃l0 a,spl p k=l0++[(a,k-1)]:=by
 induction k with
 |zero=>cases h
 |succ j ih=>
  have hp:p j=true:=h;rw[spl,if_pos hp];split
  ·next ho=>
   obtain⟨l0,a,e⟩:=ih ho;exact⟨l0,a,by rw[e,ZtX];rfl⟩
  ·exact⟨_,j,rfl⟩
theorem Zuw{p:Nat→Bool}{k:Nat}(h:p k=false):spl p (k+1)=spl p k:=by rw[spl,h];rfl
theorem ZtO{p:Nat→Bool}{k:Nat}(h:p k=true)(ho:opn p k=false):spl p (k+1)=spl p k++[(k,k)]:=by rw[spl,h,ho];rfl
theorem ZtP{p:Nat→Bool}{k:Nat}(h:p k=true)(ho:opn p k=true){l0:List (Nat×Nat)}{a:Nat}(e:spl p k=l0++[(a,k-1)]):spl p (k+1)=l0++[(a,k)]:=by
 rw[spl,h,ho,e];exact ZtX _ _ _ _
theorem spl_len(p:Nat→Bool):∀k,(spl p k).length≤k
 |0=>Nat.le_refl _
 |k+1=>by
  have ih:=spl_len p k;cases hp:p k with
  |false=>rw[Zuw hp];omega
  |true=>
   cases ho:opn p k with
   |false=>rw[ZtO hp ho,List.length_append];simp;omega
   |true=>
    obtain⟨l0,a,e0⟩:=Zty ho;rw[ZtP hp ho e0];rw[e0]at ih;simp at ih⊢;omega
structure SpGood(p:Nat→Bool)(k:Nat)(l:List (Nat×Nat)):Prop where
 in_:∀x∈l,x.1≤x.2∧x.2<k
 gap:l.Pairwise fun x y=>x.2+1<y.1
 cov:∀e,e<k→(p e=true↔∃x∈l,x.1≤e∧e≤x.2)
 far:opn p k=false→∀x∈l,x.2+1<k
theorem ZsE(p:Nat→Bool):∀k,SpGood p k (spl p k)
 |0=>⟨fun x h=>by simp[spl]at h,by simp[spl],fun e h=>by omega,fun _ x h=>by simp[spl]at h⟩
 |k+1=>by
  have ih:=ZsE p k;cases hp:p k with
  |false=>
   rw[Zuw hp];refine⟨fun x hx=>⟨(ih.in_ x hx).1,by have:=(ih.in_ x hx).2;omega⟩,ih.gap,fun e he=> ?_,fun _ x hx=>by have:=(ih.in_ x hx).2;omega⟩;by_cases h:e<k
   ·exact ih.cov e h
   ·obtain rfl:e=k:=by omega
    rw[hp];refine⟨fun h=>(by cases h),fun⟨x,hx,h1,h2⟩=> ?_⟩;have:=(ih.in_ x hx).2;omega
  |true=>
   cases ho:opn p k with
   |false=>
    rw[ZtO hp ho];refine⟨fun x hx=> ?_,?_,fun e he=> ?_,fun h=> ?_⟩
    ·rcases List.mem_append.1 hx with hx|hx
     ·exact⟨(ih.in_ x hx).1,by have:=(ih.in_ x hx).2;omega⟩
     ·simp at hx;subst hx;exact⟨Nat.le_refl _,Nat.lt_succ_self _⟩
    ·rw[List.pairwise_append];refine⟨ih.gap,by simp,fun x hx y hy=> ?_⟩;simp at hy;subst hy;exact ih.far ho x hx
    ·by_cases h:e<k
     ·rw[ih.cov e h];refine⟨fun⟨x,hx,h1⟩=>⟨x,List.mem_append.2 (.inl hx),h1⟩,fun⟨x,hx,h1,h2⟩=> ?_⟩;rcases List.mem_append.1 hx with hx|hx
      ·exact⟨x,hx,h1,h2⟩
      ·simp at hx;subst hx;simp at h1;omega
     ·obtain rfl:e=k:=by omega
      exact⟨fun _=>⟨(e,e),by simp,Nat.le_refl _,Nat.le_refl _⟩,fun _=>hp⟩
    ·have h':p k=false:=h;rw[hp]at h';cases h'
   |true=>
    obtain⟨l0,a,e0⟩:=Zty ho;rw[ZtP hp ho e0];rw[e0]at ih;have hk:0<k:=by cases k with|zero=>cases ho|succ j=>omega
    have ha:=ih.in_ (a,k-1) (by simp);simp only at ha;refine⟨fun x hx=> ?_,?_,fun e he=> ?_,fun h=> ?_⟩
    ·rcases List.mem_append.1 hx with hx|hx
     ·have:=ih.in_ x (List.mem_append.2 (.inl hx));omega
     ·simp at hx;subst hx;simp only;omega
    ·have hg:=ih.gap;rw[List.pairwise_append]at hg⊢;refine⟨hg.1,by simp,fun x hx y hy=> ?_⟩;simp at hy;subst hy;exact hg.2.2 x hx (a,k-1) (by simp)
    ·by_cases h:e<k
     ·rw[ih.cov e h];constructor
      ·rintro⟨x,hx,h1,h2⟩;rcases List.mem_append.1 hx with hx|hx
       ·exact⟨x,List.mem_append.2 (.inl hx),h1,h2⟩
       ·simp at hx;subst hx;exact⟨(a,k),by simp,h1,by simp only;omega⟩
      ·rintro⟨x,hx,h1,h2⟩;rcases List.mem_append.1 hx with hx|hx
       ·exact⟨x,List.mem_append.2 (.inl hx),h1,h2⟩
       ·simp at hx;subst hx;exact⟨(a,k-1),by simp,h1,by simp only;omega⟩
     ·obtain rfl:e=k:=by omega
      exact⟨fun _=>⟨(a,e),by simp,by simp only;omega,Nat.le_refl _⟩,fun _=>hp⟩
    ·have h':p k=false:=h;rw[hp]at h';cases h'
def spC(l:List (Nat×Nat)):List Value:=l.flatMap fun x=>[.int .u8 (x.1:Int),.int .u8 (x.2:Int)]
theorem Zs0(a b:List (Nat×Nat)):spC (a++b)=spC a++spC b:=by simp[spC]
theorem Zs1(l:List (Nat×Nat)):(spC l).length=2*l.length:=by
 induction l with
 |nil=>rfl
 |cons x l ih=>have:spC (x::l)=[.int .u8 (x.1:Int),.int .u8 (x.2:Int)]++spC l:=rfl
               rw[this,List.length_append,ih,List.length_cons];simp;omega
theorem Zvo(l:List (Nat×Nat))(a b c:Nat):(spC (l++[(a,b)])).set (l.length*2+1) (.int .u8 (c:Int))=spC (l++[(a,c)]):=by
 rw[Zs0,Zs0,List.set_append];rw[if_neg (by rw[Zs1];omega),Zs1,show l.length*2+1-2*l.length=1 by omega];rfl
theorem Zux(l:List (Nat×Nat)):∀(i:Nat) (h:i<l.length),(spC l)[i*2]? =some (.int .u8 (l[i].1:Int))∧(spC l)[i*2+1]? =some (.int .u8 (l[i].2:Int)):=by
 induction l with
 |nil=>intro i h;simp at h
 |cons x l ih=>
  intro i h;have e:spC (x::l)=.int .u8 (x.1:Int):: .int .u8 (x.2:Int)::spC l:=rfl;rw[e];cases i with
  |zero=>exact⟨rfl,rfl⟩
  |succ j=>
   have:=ih j (by simpa using h);rw[show(j+1)*2=j*2+1+1 by omega];simpa using this
theorem Zuy:(Tryz.prog.info? 221).map (fun i=>(i.zero,i.size,i.bytes))=some (some (.agg #[.int .u8 0,.int .u8 0]),2,2):=by kernel_rfl
def ZtD(w:World)(v:Value)(l:List (Nat×Nat)):Prop:=w.ownsRow 0 221 2 v l.length (spC l)
theorem ZtD.slc{w:World}{v:Value}{l:List (Nat×Nat)}(h:ZtD w v l)(h0:l≠[]):∃g cap,v=.slice (some ⟨g,0,none⟩) l.length cap∧g<w.heap.size:=by
 rcases h.2 with⟨_,hz⟩|⟨g,cap,a,hv,_,hh,_⟩
 ·exact absurd (List.length_eq_zero_iff.1 hz) h0
 ·exact⟨g,cap,hv,lt_heap hh⟩
theorem ZtD.on{w w':World}{v:Value}{l:List (Nat×Nat)}(h:ZtD w v l){S:Nat→Prop}(f:Fr S w w')(hn:∀k,v.ownBlock=some k→¬S k):ZtD w' v l:=ownsRow_fr h f hn
def SpV(s:S4)(w:World)(e:Ending)(w':World):Prop:=∃v,e=.returned v∧ZtD w' v (spl s.has 256)∧Fr nob w w'∧∀j,v.ownBlock=some j→w.heap.size≤j
theorem spans_any(s:S4)(w:World)(hs:s.fit):
 Calls Tryz.prog 172 #[.agg #[.int .u64 s.a,.int .u64 s.b,.int .u64 s.c,.int .u64 s.d]] w (SpV s w):=by
 obtain⟨i0,hi,L,P,J⟩:=info_parts Zuy;obtain⟨w0,r⟩:∃w0,w0=w.alloc (.cells #[.int .u64 s.a,.int .u64 s.b,.int .u64 s.c,.int .u64 s.d] 132):=⟨_,rfl⟩;have B:w0.heap[w.heap.size]? =some (.cells #[.int .u64 s.a,.int .u64 s.b,.int .u64 s.c,.int .u64 s.d] 132 (0,0)):=by rw[r];exact newAt _ _
 have f0:Fr nob w w0:=by rw[r];exact(Fr.refl _ _).alloc _
 have HS:=hid hs;have HW:=hid r;have E:=hid (show w0.heap.size=w.heap.size+1 by rw[r];simp);clear hs r;go_enter Tryz.func172,Tryz.ntmps172;go_wp2_with fail;rw[←HW.out];have r0:=Zl B;have Q:=hid B;have F0:=hid f0;clear B f0
 go_loopw [3,4,7] (fun v o i wr=>∃k:Nat,i=.int .i64 k∧k≤256∧o=.bool (opn s.has k)∧ZtD wr v (spl s.has k)∧(∀j,v.ownBlock=some j→w.heap.size<j)∧Fr nob w0 wr) (fun _ _ i _=>256-(intOf i).toNat)
 case atStart=>exact⟨0,rfl,by omega,rfl,World.ownsRow_nil _ _ _ _,fun j h=>(by cases h),Fr.refl _ _⟩
 case round=>
  obtain⟨k,rfl,hk,rfl,f,t,fr⟩:=hrel;have HO:=hid f;have n:=hid t;clear f t;by_cases y:k<256
  ·have wk:IntKind.u8.wrap (k:Int)=(k:Int):=IntWalk.u8_in _ (by omega);cases hp:s.has k with
   |false=>
    have HP:=hid hp;have HN:=hid (Zuw hp);have q:=hid (show opn s.has (k+1)=false from hp);clear hp;go_wp2_with fail;refine(has_any s k _ HS.out y).mono ?_;rw[HP.out];rintro e w2 ⟨rfl,f2⟩;have O:=hid (HO.out.on f2 (fun _ _ x=>x));have F2:=hid (fr.trans' f2);clear fr f2;go_wp2;go_roundw
    case rel=>exact⟨k+1,by go_num,by omega,by rw[q.out],by rw[HN.out];exact O.out,n.out,F2.out⟩
    case measure=>simp[intOf];omega
   |true=>
    have HP:=hid hp;cases ho:opn s.has k with
    |false=>
     have HN:=hid (ZtO hp ho);have q:=hid (show opn s.has (k+1)=true from hp);have hl:(spl s.has k).length≤256:=by have:=spl_len s.has k;omega
     clear hp ho;go_wp2_with fail;refine(has_any s k _ HS.out y).mono ?_;rw[HP.out];rintro e w2 ⟨rfl,f2⟩;have f:w2.ownsRow 0 221 2 u3 (spl s.has k).length (spC (spl s.has k)):=HO.out.on f2 (fun _ _ x=>x);have F2:=hid (fr.trans' f2);clear fr f2;go_wp2_with(at_builtin;refine wpList_append_g rfl _ _ 219 rfl 221 i0 (.agg #[.int .u8 0,.int .u8 0]) 2 2 Tryz.underlying219 hi L P J rfl (by decide) _ _ _ rfl (f.alloc _) ⟨w2.heap.size,0,none⟩ 1 1 [.int .u8 (k:Int),.int .u8 (k:Int)] rfl rfl ?c1 ?c2 ?c3 ?c4 ?_)
     case c1=>
      intro j u hj
      match j,hj with
      |0,hj=>simp at hj;subst hj;simp[Addr.add]
      |1,hj=>simp at hj;subst hj;simp[Addr.add]
     case c2=>intro u hu;simp at hu;subst hu;rfl
     case c3=>unfold maxLen;omega
     case c4=>omega
     intro v' w3 m C;have D:Fr nob w0 w3:=(F2.out.alloc _).trans C.fr (fun i hi e=>by have:=n.out _ e;have:=E.out;omega);have F:∀j,v'.ownBlock=some j→w.heap.size<j:=fun j hj=>by
      rcases C.old j hj with h1|h1
      ·exact n.out j h1
      ·simp at h1;have:=F2.out.size;have:=lt_heap Q.out;omega
     have K:=hid D;have M:=hid F;have H:=hid m;clear D F m f C;go_wp2;go_roundw
     case rel=>
      refine⟨k+1,by go_num,by omega,by rw[q.out],?_,M.out,K.out⟩;rw[HN.out];unfold ZtD;rw[List.length_append,Zs0];exact H.out
     case measure=>simp[intOf];omega
    |true=>
     obtain⟨l0,a,e0⟩:=Zty ho;have HN:=hid (ZtP hp ho e0);have q:=hid (show opn s.has (k+1)=true from hp);have hl:(spl s.has k).length≤256:=by have:=spl_len s.has k;omega
     have l:=HO.out;rw[e0]at l hl;obtain⟨g,N,hv,hg⟩:=l.slc (by simp);have R:=n.out g (by rw[hv];rfl);subst hv;have z:(l0++[(a,k-1)]).length=l0.length+1:=by simp
     rw[z]at hl l⊢;clear hp ho;go_wp2_with fail;refine(has_any s k _ HS.out y).mono ?_;rw[HP.out];rintro e w2 ⟨rfl,f2⟩;have f:w2.ownsRow 0 221 2 (.slice (some ⟨g,0,none⟩) (l0.length+1) N) (l0.length+1) (spC (l0++[(a,k-1)])):=by have:=l.on f2 (fun _ _ x=>x);unfold ZtD at this;rwa[z]at this
     have c1:=f.cellAt (l0.length*2+1) (by omega);have c2:=f.frozenAt (l0.length*2+1);have c3:=(Zux (l0++[(a,k-1)]) l0.length (by simp)).2;rw[c3]at c1;have F2:=hid (fr.trans' f2);have G:=hid f;clear fr f2 f l c3 z;go_wp2_with fail;have A:=G.out.stored (l0.length*2+1) (.int .u8 (k:Int));rw[Zvo]at A;have I:=hid A.1;clear A c1 c2;go_roundw
     case rel=>
      refine⟨k+1,by go_num,by omega,by rw[q.out],?_,fun j hj=> ?_,F2.out.setCell (p:=⟨g,l0.length*2+1,none⟩) (fun h=>by have:=E.out;simp only at h;omega) _⟩
      ·rw[HN.out];unfold ZtD;rw[List.length_append];exact I.out
      ·obtain rfl:g=j:=by injection hj
       exact R
     case measure=>simp[intOf];omega
  ·obtain rfl:k=256:=by omega
   go_wp2;go_ret;exact⟨_,rfl,HO.out,F0.out.trans' fr,fun j hj=>by have:=n.out j hj;omega⟩
end Go.Proofs.YtkfddjopbocpkaaGreatDoor
