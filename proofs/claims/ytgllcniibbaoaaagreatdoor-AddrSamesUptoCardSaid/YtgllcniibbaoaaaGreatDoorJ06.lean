/- Lemmas of this claim. -/
import Derived.Lib.QuietBelow
import Derived.Laws.Tables
import Derived.Laws.Rows
import Derived.Test.YtgllcniibbaoaaaGreatDoorJ01
set_option linter.all false
set_option maxRecDepth 100000
set_option maxHeartbeats 24000000
namespace Go.Proofs.YtgllcniibbaoaaaGreatDoor
open Go.RowKit Go.Sort
section
variable {P:Program} {ops:Array Oper} {md:Region.Mode} {C:World→Prop}
def Zj0(P:Program)(md:Region.Mode)(ops:Array Oper)(C:World→Prop)(n:Nat)(L:Array Bool→Act→Prop):Nat→Array Bool→Act→Prop
 |0,listed,a=>L listed a
 |f+1,listed,a=>Region.ready md ops listed≠[]∧∀i,i∈Region.ready md ops listed→i<n∧qOp P ops C i (Zj0 P md ops C n L f (listed.setIfInBounds i true)) a
theorem Zj1{n g:Nat}{L:Array Bool→Act→Prop}{R:Exit→Act→World→Prop}(hL:∀listed a w,C w→L listed a→wpAny P md ops R g listed a w)(f:Nat):
 ∀(listed:Array Bool) (a:Act) (w:World),C w→Zj0 P md ops C n L f listed a→wpAny P md ops R (f+g) listed a w:=by
 induction f with
 |zero=>intro listed a w hw h;rw[Nat.zero_add];exact hL _ _ _ hw h
 |succ f ih=>
  intro listed a w hw h;rw[Nat.succ_add];exact⟨fun e=>(h.1 e).elim,fun i hi=>wpOp_of_qOp hw (fun a' w' hw'=>ih _ a' w' hw') (h.2 i hi).2⟩
theorem Zi3{n i:Nat}{oi:Oper}{v:Value}{L:Array Bool→Act→Prop}(hi:ops[i]? =some oi)(hsel:∀(j:Nat) (o:Oper) cs b,ops[j]? =some o→o.op≠.select cs b)
 (hs:Region.sinkB md ops n=true) (hc:Region.chainB md ops n=true) (hn:n<ops.size) (hin:i<n)
 (hdone:∀listed a,L listed a→∀j∈Region.ready md ops listed,n≤j) (f:Nat):
 ∀(listed:Array Bool) (a:Act),HeadInv md ops n listed→
  (∀j oj,ops[j]? =some oj→j≠i→listed.getD j true=false→(∀e∈oj.after,Region.binds md e=true→e.on≠i)→oi.apart ops oj=true)→
  i∈Region.ready md ops listed→YieldsIn P ops C oi v a→
  Zj0 P md ops C n L f (listed.setIfInBounds i true) (a.put oi.dst v)→Zj0 P md ops C n L (f+1) listed a:=by
 have c:∀(listed:Array Bool),HeadInv md ops n listed→i∈Region.ready md ops listed→∀j∈Region.ready md ops listed,j<n:=fun listed d hr j hj=>
  Nat.lt_of_not_le fun h=>tail_waits hs hc hn d _ i rfl hin (mem_ready.1 hr).1 j h hj
 induction f with
 |zero=>
  intro listed a d _ hr hy H;refine⟨List.ne_nil_of_mem hr,fun j hj=>⟨c _ d hr j hj,?_⟩⟩;rcases Decidable.em (j=i)with rfl|g
  ·exact hy.qOp hi H
  ·exact absurd (hdone _ _ H j (ready_mono hj g)) (Nat.not_le.2 (c _ d hr j hj))
 |succ f ih=>
  intro listed a d l hr hy H;refine⟨List.ne_nil_of_mem hr,fun j hj=>⟨c _ d hr j hj,?_⟩⟩;rcases Decidable.em (j=i)with rfl|g
  ·exact hy.qOp hi H
  ·obtain⟨q,oj,m,p⟩:=mem_ready.1 hj;have w:∀e∈oj.after,Region.binds md e=true→e.on≠i:=by
    intro e he hb h;have:=p e he hb;rw[h,getD_both (mem_ready.1 hr).1]at this;exact Bool.noConfusion this
   refine qOp_mono (fun a' h=>ih _ a' (d.set hj (c _ d hr j hj)) ?_ (ready_mono hr (Ne.symm g)) h.1 ?_) (qOp_put m (l j oj m g q w) (fun cs b=>hsel i oi cs b hi) (fun cs b=>hsel j oj cs b m) hy (H.2 j (ready_mono hj g)).2)
   ·intro k ok hk s u t;refine l k ok hk s ?_ t;rcases Decidable.em (j=k)with rfl|r
    ·exact q
    ·rwa[getD_set_ne true r]at u
   ·rw[Array.setIfInBounds_comm _ _ g];exact h.2
theorem headQ_lex{n g:Nat}{K:Act→Prop}(hsel:Region.noSelect ops=true)(hs:Region.sinkB md ops n=true)(hc:Region.chainB md ops n=true)(hn:n<ops.size)(l:List Oper):
 ∀(k:Nat) (listed:Array Bool) (a:Act),(∀j,j<l.length→l[j]? =ops[k+j]?)→k+l.length=n→HeadInv md ops n listed→
 Region.lexHead md ops g l.length k listed=true→wpQuiet P ops C K l a→
 Zj0 P md ops C n (fun listed' a'=>Region.seqB md ops g n listed'=true∧K a') l.length listed a:=by
 induction l with
 |nil=>
  intro k listed a _ hk _ hB h;obtain rfl:k=n:=hk;exact⟨hB,h⟩
 |cons o l ih=>
  intro k listed a hl hk c hB h;have d:k+(l.length+1)=n:=hk;have h0:ops[k]? =some o:=(hl 0 (Nat.succ_pos _)).symm;have b:((Region.ready md ops listed).contains k&&Region.free md ops listed k&&Region.lexHead md ops g l.length (k+1) (listed.setIfInBounds k true))=true:=hB;rw[Bool.and_eq_true,Bool.and_eq_true]at b;have hr:k∈Region.ready md ops listed:=by simpa using b.1.1
  have hq:qOp P ops C k (wpQuiet P ops C K l) a:=by unfold qOp;rw[h0];exact h
  obtain⟨v,hy,hK⟩:=yieldsIn_of_qOp h0 hq;refine Zi3 h0 (Region.noSelect_spec hsel) hs hc hn (by omega) (fun _ _ hL=>seqB_ready hL.1) _ _ _ c (Region.free_spec h0 b.1.2) hr hy ?_;refine ih (k+1) _ _ (fun j hj=> ?_) (by omega) (c.set hr (by omega)) b.2 hK;have:=hl (j+1) (Nat.succ_lt_succ hj);rwa[List.getElem?_cons_succ,show k+(j+1)=k+1+j by omega]at this
theorem Zg4{id:Nat}{Q:Exit→Act→World→Prop}{a:Act}{w:World}{l:List Oper}(n:Nat)(hm:P.follows .mixedOrders=true)(hB:Region.lexTailB .any l.toArray n=true)(hC:C {w with drawn:=w.drawn+1})
 (h:wpQuiet P l.toArray C (fun a'=>∀w',C w'→wpList P l.toArray Q (l.drop n) a' w') (l.take n) a):(Code.region id l.toArray true).wp P Q a w:=by
 unfold Region.lexTailB at hB;simp only[Bool.and_eq_true,decide_eq_true_eq]at hB;obtain⟨⟨⟨⟨c,hn⟩,hs⟩,hc⟩,b⟩:=hB;have f:n<l.length:=by simpa using hn
 have e1:(l.take n).length=n:=by rw[List.length_take];omega
 have e2:(l.drop n).length=l.toArray.size-n:=by simp
 have d:HeadInv .any l.toArray n (Array.replicate l.toArray.size false):=
  {size:=by simp,closed:=fun j oj _ e=>(by rw[getD_replicate_false]at e;exact Bool.noConfusion e),tail:=fun t _ ht=>getD_in (by simpa using ht) (getD_replicate_false _ _)}
 have H:=headQ_lex (md:=.any) (g:=l.toArray.size-n) c hs hc hn (l.take n) 0 _ a (fun j hj=>by rw[e1]at hj;simp[hj]) (by rw[e1,Nat.zero_add]) d (by rw[e1];exact b) h;refine wp_region_any hm ?_;have H2:=Zj1 (R:=Q) (g:=l.toArray.size-n) (fun listed a' w' hw' hL=>by
  have:=wpAny_of_seq (md:=.any) (Q':=Q) (l.drop n) n listed a' w' (fun j=>by simp[List.getElem?_drop]) (by rw[e2];exact hL.1) (hL.2 w' hw');rwa[e2]at this) _ _ _ {w with drawn:=w.drawn+1} hC H
 rwa[e1,Nat.add_sub_cancel' (Nat.le_of_lt hn)]at H2
def ZqM(w:World):World→Prop:=fun w'=>∃p:Regrown,w'=grow (redrawn w p.d) p.os
theorem Zde{w w':World}(h:ZqM w w'):Fr nob w w':=by
 obtain⟨p,rfl⟩:=h;exact Fr.ofBelow (below_regrown _ _ _)
theorem Zd1{w w':World}(h:Fr nob w w'):ZqM w w':=regrown_of_below h.below
theorem region_fr{id:Nat}{Q:Exit→Act→World→Prop}{a:Act}{w:World}{l:List Oper}(n:Nat)(hm:P.follows .mixedOrders=true)(hB:Region.lexTailB .any l.toArray n=true)
 (h:wpQuiet P l.toArray (fun w'=>∃p:Regrown,w'=grow (redrawn w p.d) p.os) (fun a'=>∀w',Fr nob w w'→wpList P l.toArray Q (l.drop n) a' w') (l.take n) a):(Code.region id l.toArray true).wp P Q a w:=
 Zg4 (C:=fun w'=>∃p:Regrown,w'=grow (redrawn w p.d) p.os) n hm hB (Zd1 (Fr.drew (Fr.refl _ w))) (by
  have:(fun a'=>∀w',(∃p:Regrown,w'=grow (redrawn w p.d) p.os)→wpList P l.toArray Q (l.drop n) a' w')=(fun a'=>∀w',Fr nob w w'→wpList P l.toArray Q (l.drop n) a' w'):=by
   funext a';exact propext ⟨fun h w' f=>h w' (Zd1 f),fun h w' f=>h w' (Zde f)⟩
  rw[this];exact h)
theorem region_fr_all{id:Nat}{Q:Exit→Act→World→Prop}{a:Act}{w:World}{l:List Oper}(hm:P.follows .mixedOrders=true)(hB:Region.lexB .any l.toArray=true)
 (h:wpQuiet P l.toArray (fun w'=>∃p:Regrown,w'=grow (redrawn w p.d) p.os) (fun a'=>∀w',Fr nob w w'→Q .normal a' w') l a):(Code.region id l.toArray true).wp P Q a w:=
 wp_region_quiet (C:=fun w'=>∃p:Regrown,w'=grow (redrawn w p.d) p.os) hm hB (Zd1 (Fr.drew (Fr.refl _ w))) (by
  have:(fun a'=>∀w',(∃p:Regrown,w'=grow (redrawn w p.d) p.os)→Q .normal a' w')=(fun a'=>∀w',Fr nob w w'→Q .normal a' w'):=by
   funext a';exact propext ⟨fun h w' f=>h w' (Zd1 f),fun h w' f=>h w' (Zde f)⟩
  rw[this];simpa using h)
theorem calls_fr{f:FuncId}{args:Array Value}{w:World}{d:Nat}{os:Array Obj}{v:Value}
 (h:Calls P f args (grow (redrawn w d) os) fun e w'=>e=.returned v∧Fr nob (grow (redrawn w d) os) w'):Calls P f args (grow (redrawn w d) os) fun e w''=>e=.returned v∧∃p:Regrown,w''=grow (redrawn w p.d) p.os:=
 h.mono fun _ _ ⟨he,hb⟩=>⟨he,Zd1 ((Fr.ofBelow (below_regrown w d os)).trans' hb)⟩
theorem newAt(w:World)(A:Obj):(w.alloc A).heap[w.heap.size]? =some A:=by unfold World.alloc;exact Array.getElem?_push_size
theorem Zg5(a w:World):Fr nob a w.drew=Fr nob a w:=propext ⟨Fr.undrew,Fr.drew⟩
theorem Zi4{a w:World}(h:Fr nob a w)(d:Nat)(os:Array Obj):Fr nob a (grow (redrawn w d) os):=h.trans' (Fr.ofBelow (below_regrown w d os))
theorem Zl{w:World}{b:Nat}{v0 v1 v2 v3:Value}{T:TypeId}(h:w.heap[b]? =some (.cells #[v0,v1,v2,v3] T (0,0))):∀w',Fr nob w w'→
 (w'.cell? ⟨b,0,none⟩=some v0∧w'.cell? ⟨b,1,none⟩=some v1∧w'.cell? ⟨b,2,none⟩=some v2∧w'.cell? ⟨b,3,none⟩=some v3)∧
 (w'.frozen? ⟨b,0,none⟩=false∧w'.frozen? ⟨b,1,none⟩=false∧w'.frozen? ⟨b,2,none⟩=false∧w'.frozen? ⟨b,3,none⟩=false):=fun _ f=>by
 have h':=f.heap h (fun x=>x);exact⟨⟨cell_at h' rfl,cell_at h' rfl,cell_at h' rfl,cell_at h' rfl⟩,ZF h' _,ZF h' _,ZF h' _,ZF h' _⟩
attribute [go_sem] Fr.refl Zg5 Zi4 Fr.alloc
theorem grown_fr(w:World)(d:Nat)(os:Array Obj):Fr nob w (grow (redrawn w d) os):=Fr.ofBelow (below_regrown w d os)
end
section
variable {P:Program} {ops:Array Oper} {md:Region.Mode} {C:Array Bool→World→Prop}
theorem Zya(w:World)(g:Nat)(cs:Array Value):Fr (fun k=>k=g) w (w.setRow g cs):=⟨rfl,rfl,rfl,by simp,fun k _ hk=>setRow_other w g k cs hk⟩
end
end Go.Proofs.YtgllcniibbaoaaaGreatDoor
