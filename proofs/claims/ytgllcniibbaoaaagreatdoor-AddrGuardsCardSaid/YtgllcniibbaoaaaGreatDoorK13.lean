/- Lemmas of this claim. -/
import Derived.Deep.DrawnRows
import Derived.Outline
import Derived.Defers
import Derived.Recover
import Derived.Laws.Pointers
import Derived.Test.YtgllcniibbaoaaaGreatDoorK03
import Derived.Test.YtgllcniibbaoaaaGreatDoorK12
set_option linter.all false
set_option maxRecDepth 100000
set_option maxHeartbeats 24000000
namespace Go.Proofs.YtgllcniibbaoaaaGreatDoor
section
open Go.RowKit
def VT(S:Nat→Prop)(w:World):List T→List Value→Prop
 |[],vs=>vs=[]
 |t::ts,vs=>∃cs r,vs=cs++r∧cs.length=9∧RT S w t cs∧VT S w ts r
theorem RT.length{S:Nat→Prop}{w:World}{t:T}{cs:List Value}(h:RT S w t cs):cs.length=9:=by
 obtain⟨k,s,ps,mn,mx,nu,a,c,_,rfl,_⟩:=h.open';rfl
theorem VT.length{S:Nat→Prop}{w:World}:∀{l:List T} {vs:List Value},VT S w l vs→vs.length=l.length*9
 |[],_,h=>by rw[VT]at h;subst h;rfl
 |t::ts,_,h=>by rw[VT]at h;obtain⟨cs,r,rfl,hl,_,h⟩:=h;rw[List.length_append,hl,VT.length h,List.length_cons];omega
theorem VT.append{S:Nat→Prop}{w:World}:∀{l m:List T} {vs us:List Value},VT S w l vs→VT S w m us→VT S w (l++m) (vs++us)
 |[],_,_,_,h,k=>by rw[VT]at h;subst h;exact k
 |t::ts,_,_,_,h,k=>by rw[VT]at h;obtain⟨cs,r,rfl,hl,h1,h⟩:=h;exact⟨cs,_,by rw[List.append_assoc],hl,h1,VT.append h k⟩
theorem VT.keep{S X S':Nat→Prop}{w w':World}(hf:Fr X w w')(hX:∀k,k<w.heap.size→X k→S k)(hS:∀k,k<w.heap.size→S' k→S k):∀{l:List T} {vs:List Value},VT S w l vs→VT S' w' l vs
 |[],_,h=>by rw[VT]at h⊢;exact h
 |t::ts,_,h=>by rw[VT]at h⊢;obtain⟨cs,r,rfl,hl,h1,h⟩:=h;exact⟨cs,r,rfl,hl,RT.keep hf hX hS _ _ h1,VT.keep hf hX hS h⟩
theorem RT.cell1{S:Nat→Prop}{w:World}{t:T}{cs:List Value}(h:RT S w t cs):∀u∈cs,u.oneCell'=true:=by
 obtain⟨k,s,ps,mn,mx,nu,a,c,_,rfl,_⟩:=h.open';intro u hu;simp only[List.mem_cons,List.not_mem_nil,or_false]at hu;rcases hu with rfl|rfl|rfl|rfl|rfl|rfl|rfl|rfl|rfl<;>rfl
theorem VT.cell1{S:Nat→Prop}{w:World}:∀{l:List T} {vs:List Value},VT S w l vs→∀u∈vs,u.oneCell'=true
 |[],_,h,u,hu=>by rw[VT]at h;subst h;cases hu
 |t::ts,_,h,u,hu=>by
  rw[VT]at h;obtain⟨cs,r,rfl,hl,h1,h⟩:=h;rcases List.mem_append.1 hu with hu|hu
  ·exact h1.cell1 u hu
  ·exact VT.cell1 h u hu
theorem At.left{w:World}{g off:Nat}{a b:List Value}(h:At w g off (a++b)):At w g off a:=fun j v hj=>h j v (by
 rw[List.getElem?_append_left (List.getElem?_eq_some_iff.1 hj).1];exact hj)
theorem At.right{w:World}{g off:Nat}{a b:List Value}(h:At w g off (a++b)):At w g (off+a.length) b:=fun j v hj=>by
 have:=h (a.length+j) v (by rw[List.getElem?_append_right (by omega)];simpa using hj);rwa[show off+(a.length+j)=off+a.length+j by omega]at this
theorem At.join{w:World}{g off:Nat}{a b:List Value}(h:At w g off a)(k:At w g (off+a.length) b):At w g off (a++b):=fun j v hj=>by
 by_cases hl:j<a.length
 ·rw[List.getElem?_append_left hl]at hj;exact h j v hj
 ·rw[List.getElem?_append_right (by omega)]at hj;have:=k (j-a.length) v hj;rwa[show off+a.length+(j-a.length)=off+j by omega]at this
theorem RTs.of{S:Nat→Prop}{w:World}{g:Nat}(hg:¬S g)(hs:g<w.heap.size):∀{l:List T} {vs:List Value} {off:Nat},VT S w l vs→At w g off vs→RTs S w l g off
 |[],_,_,_,_=>by rw[RTs];trivial
 |t::ts,_,off,h,ha=>by
  rw[VT]at h;obtain⟨cs,r,rfl,hl,h1,h⟩:=h;have hr:=ha.right;rw[hl]at hr;rw[RTs];exact⟨hg,hs,⟨cs,h1,ha.left⟩,RTs.of hg hs h hr⟩
theorem RTs.vals{S:Nat→Prop}{w:World}{g:Nat}:∀{l:List T} {off:Nat},RTs S w l g off→∃vs,VT S w l vs∧At w g off vs
 |[],_,_=>⟨[],rfl,fun j v hj=>by simp at hj⟩
 |t::ts,off,h=>by
  rw[RTs]at h;obtain⟨_,_,⟨cs,h1,h2⟩,h⟩:=h;obtain⟨vs,hv,ha⟩:=RTs.vals h;have hl:=h1.length;exact⟨cs++vs,⟨cs,vs,rfl,hl,h1,hv⟩,At.join h2 (by rw[hl];exact ha)⟩
theorem ST.of_own{S:Nat→Prop}{w:World}{l:List T}{u:Value}{vs:List Value}{e:TypeId}(h:w.ownsRow 0 e 9 u l.length vs)(hv:VT S w l vs)(hS:∀k,u.ownBlock=some k→¬S k):ST S w l u:=by
 obtain⟨_,h⟩:=h;rcases h with⟨rfl,h0⟩|⟨g,b,c,rfl,_,hg,hn,_,_,a⟩
 ·exact .inl ⟨⟨none,0,rfl⟩,List.length_eq_zero_iff.1 h0⟩
 ·refine .inr ⟨g,0,b,rfl,hn,RTs.of (hS g rfl) (lt_heap hg) hv ?_⟩;intro j v hj;rw[←a,List.getElem?_take]at hj;split at hj
  ·exact cell_at hg (by simpa using hj)
  ·cases hj
def OwnT(S:Nat→Prop)(w:World)(l:List T)(v:Value)(g:Option Nat):Prop:=∃vs,w.ownsRow 0 36 9 v l.length vs∧VT (LS2 S g) w l vs∧v.ownBlock=g∧∀k,g=some k→¬S k
theorem OwnT.nil(S:Nat→Prop)(w:World):OwnT S w [] (.slice none 0 0) none:=⟨[],World.ownsRow_nil _ _ _ _,rfl,rfl,fun _ h=>by cases h⟩
theorem OwnT.shape{S:Nat→Prop}{w:World}{l:List T}{v:Value}{g:Option Nat}(h:OwnT S w l v g):∃a c,v=.slice a l.length c:=by
 obtain⟨vs,h1,_⟩:=h;exact Zb h1
theorem OwnT.on{S:Nat→Prop}{w w':World}{l:List T}{v:Value}{g:Option Nat}(h:OwnT S w l v g)(f:Fr nob w w'):OwnT S w' l v g:=by
 obtain⟨vs,h1,h2,h3,h4⟩:=h;exact⟨vs,ownsRow_fr h1 f (fun _ _ x=>x),h2.keep f (fun _ _ x=>x.elim) (fun _ _ x=>x),h3,h4⟩
theorem OwnT.lt{S:Nat→Prop}{w:World}{l:List T}{v:Value}{g:Option Nat}(h:OwnT S w l v g):∀k,g=some k→k<w.heap.size:=by
 intro k hk;obtain⟨vs,a,_,hg,_⟩:=h;rcases a.2 with⟨rfl,_⟩|⟨r,b,c,rfl,_,hr,_⟩
 ·rw[←hg]at hk;cases hk
 ·rw[←hg]at hk;injection hk with hk;subst hk;exact lt_heap hr
theorem OwnT.st{S:Nat→Prop}{w:World}{l:List T}{v:Value}{g:Option Nat}(h:OwnT S w l v g):ST S w l v:=by
 obtain⟨vs,h1,h2,h3,h4⟩:=h;exact ST.of_own h1 (h2.keep (S':=S) (Fr.refl nob w) (fun _ _ x=>x.elim) (fun _ _ x=>.inl x)) (fun k hk=>h4 k (by rw[←h3,hk]))
theorem ZAA:(Tryz.prog.info? 36).map (fun i=>(i.zero,i.size,i.bytes))=some (some (.agg #[.int .i64 0,.int .u64 0,.int .u64 0,.int .u64 0,.int .u64 0,.slice none 0 0,.int .i64 0,.int .i64 0,.int .i64 0]),9,88):=by kernel_rfl
theorem Zyp{P:Program}{w:World}(base:Nat)(t ty e:TypeId)(i:TypeInfo)(size:Nat)(ht:P.underlying t=some (.slice e))(hi:P.info? e=some i)
 (v:Value) (n:Nat) (xs:List Value) (hown:w.ownsRow base e size v n xs) (a:Option Addr) (c:Nat):
 (Builtin.append_ #[t,t] ty #[v,.slice a 0 c]).run P w=.ok v w:=by
 rcases hown.2 with⟨rfl,rfl⟩|⟨g,d,f,rfl,_,_,b,_⟩
 ·cases a<;>simp[Builtin.append_,run_underlying ht,sizeOf,typeInfo,hi,Builtin.lenOf,Builtin.firstCells,loadCells,loadCellsFrom]
 ·cases a<;>simp[Builtin.append_,run_underlying ht,sizeOf,typeInfo,hi,Builtin.lenOf,Builtin.firstCells,b,storeCells,loadCells,loadCellsFrom]
theorem wpList_append_t{S:Nat→Prop}{w:World}{ops:Array Oper}{rest:List Oper}{o:Oper}{a:Act}{Q:Exit→Act→World→Prop}(hgd:o.guard=none)(s x:Operand)
 (ho:o.op=.call {callee:=.builtin .append,args:= #[s,x],argTypes:= #[34,34]})
 (l m:List T) (v ux:Value) (g:Option Nat) (hs:a.eval s=v) (hown:OwnT S w l v g) (hx:a.eval x=ux) (hm:ST (LS2 S g) w m ux) (hS:∀k,S k→k<w.heap.size) (hb:l.length+m.length≤3000000)
 (h:∀v' w' g',OwnT S w' (l++m) v' g'→Fr (fun k=>g=some k) w w'→(∀k,g'=some k→g=some k∨w.heap.size≤k)→wpList Tryz.prog ops Q rest (a.put o.dst v') w'):wpList Tryz.prog ops Q (o::rest) a w:=by
 obtain⟨i0,hi,r,t,y⟩:=info_parts ZAA;obtain⟨vs,h1,h2,h3,h4⟩:=hown;rcases hm with⟨⟨ax,cx,rfl⟩,rfl⟩|⟨q,off,n,rfl,_,hm⟩
 ·refine wpList_plain hgd fun K hK=> ?_;have hr:=Zyp (P:=Tryz.prog) (w:=w) 0 34 o.type 36 i0 9 Tryz.underlying34 hi v l.length vs h1 ax cx;unfold Oper.wp execOp;simp only[ho,resolve,invoke,builtin,Sem.run_bind,Sem.run_pure,Result.andThen_ok,List.map_toArray,List.map_cons,List.map_nil,hs,hx,hr];exact hK _ _ (h v w g (by rw[List.append_nil];exact⟨vs,h1,h2,h3,h4⟩) (Fr.refl _ _) (fun k hk=>.inl hk))
 ·obtain⟨us,hu,ha⟩:=RTs.vals hm;have A:=hu.length;refine wpList_append_g hgd s x _ ho 36 i0 _ 9 88 Tryz.underlying34 hi r t y rfl (by decide) v l.length vs hs h1 ⟨q,off,none⟩ m.length n us hx (by omega) (fun j u hj=>by have:=ha j u hj;by_cases p:j=0<;>simpa[Addr.add,p]using this) hu.cell1 (by unfold maxLen;omega) (by omega) ?_;intro v' w' c d;have b:∀k,v'.ownBlock=some k→g=some k∨w.heap.size≤k:=fun k hk=>by
   rcases d.old k hk with h|h
   ·exact .inl (by rw[←h3,h])
   ·exact .inr h
  have f:Fr (fun k=>g=some k) w w':=d.fr.mono fun k _ hk=>by rw[←h3,hk]
  refine h v' w' v'.ownBlock ⟨vs++us,by simpa using c,(VT.append h2 hu).keep f (fun _ _ x=>.inr x) ?_,rfl,?_⟩ f b
  ·intro k hk x;rcases x with x|x
   ·exact .inl x
   ·rcases b k x with e|e
    ·exact .inr e
    ·omega
  ·intro k hk i;rcases b k hk with e|e
   ·exact h4 k e i
   ·have:=hS k i;omega
mutual
def Nd.rf:Nd→T
 | .nil=>T.zero
 | .empty=>T.zero
 | .one s=>.mk 1 s [] 0 0 0
 | .cat l=>.mk 2 S4.zero (Nd.rfs l) 0 0 0
 | .alt l=>.mk 3 S4.zero (Nd.rfs l) 0 0 0
 | .rep x mn mx=>.mk 4 S4.zero [x.rf] mn mx 0
 | .group n x=>.mk 5 S4.zero [x.rf] 0 0 n
 | .back n=>.mk 6 S4.zero [] 0 0 n
 | .start=>.mk 7 S4.zero [] 0 0 0
 | .fin=>.mk 8 S4.zero [] 0 0 0
def Nd.rfs:List Nd→List T
 |[]=>[]
 |t::ts=>t.rf::Nd.rfs ts
end
theorem Nd.rfs_eq(l:List Nd):Nd.rfs l=l.map Nd.rf:=by
 induction l with
 |nil=>rfl
 |cons t ts ih=>simp only[Nd.rfs,List.map_cons,ih]
mutual
theorem Nd.rf_nd:∀n:Nd,n.rf.nd=n.norm
 | .nil| .empty| .one _| .back _| .start| .fin=>by simp[Nd.rf,T.zero,T.nd,Nd.norm]
 | .cat l=>by simp[Nd.rf,T.nd,Nd.norm,Nd.rfs_nd l]
 | .alt l=>by simp[Nd.rf,T.nd,Nd.norm,Nd.rfs_nd l]
 | .rep x _ _=>by simp[Nd.rf,T.nd,Nd.norm,T.nd1,Nd.rf_nd x]
 | .group _ x=>by simp[Nd.rf,T.nd,Nd.norm,T.nd1,Nd.rf_nd x]
theorem Nd.rfs_nd:∀l:List Nd,T.nds (Nd.rfs l)=Nd.norms l
 |[]=>rfl
 |t::ts=>by simp only[Nd.rfs,T.nds,Nd.norms,Nd.rf_nd t,Nd.rfs_nd ts]
end
mutual
theorem Nd.rf_known:∀n:Nd,n.rf.known=true
 | .nil| .empty| .one _| .back _| .start| .fin=>by simp[Nd.rf,T.zero,T.known,T.knowns]
 | .cat l=>by simp[Nd.rf,T.known,Nd.rfs_known l]
 | .alt l=>by simp[Nd.rf,T.known,Nd.rfs_known l]
 | .rep x _ _=>by simp[Nd.rf,T.known,T.knowns,Nd.rf_known x]
 | .group _ x=>by simp[Nd.rf,T.known,T.knowns,Nd.rf_known x]
theorem Nd.rfs_known:∀l:List Nd,T.knowns (Nd.rfs l)=true
 |[]=>rfl
 |t::ts=>by simp only[Nd.rfs,T.knowns,Nd.rf_known t,Nd.rfs_known ts,Bool.and_self]
end
mutual
theorem Nd.norm_size:∀n:Nd,n.norm.size=n.size
 | .nil| .empty| .one _| .back _| .start| .fin=>by simp[Nd.norm,Nd.size]
 | .cat l=>by simp[Nd.norm,Nd.size,Nd.norms_size l]
 | .alt l=>by simp[Nd.norm,Nd.size,Nd.norms_size l]
 | .rep x _ _=>by simp[Nd.norm,Nd.size,Nd.norm_size x]
 | .group _ x=>by simp[Nd.norm,Nd.size,Nd.norm_size x]
theorem Nd.norms_size:∀l:List Nd,Nd.sizes (Nd.norms l)=Nd.sizes l
 |[]=>rfl
 |t::ts=>by simp only[Nd.norms,Nd.sizes,Nd.norm_size t,Nd.norms_size ts]
end
theorem Nd.rfs_take{l:List Nd}{k:Nat}(h:k<l.length):Nd.rfs (l.take (k+1))=Nd.rfs (l.take k)++[l[k].rf]:=by
 simp only[Nd.rfs_eq];rw[List.take_succ_eq_append_getElem h,List.map_append];rfl
theorem Nd.rfs_length(l:List Nd):(Nd.rfs l).length=l.length:=by rw[Nd.rfs_eq,List.length_map]
open Go.Lib (hid)
def Nd.kd:Nd→Int
 | .nil=>0
 | .empty=>0
 | .one _=>1
 | .cat _=>2
 | .alt _=>3
 | .rep _ _ _=>4
 | .group _ _=>5
 | .back _=>6
 | .start=>7
 | .fin=>8
theorem T.known_kd{k:Int}{s:S4}{ps:List T}{mn mx nu:Int}(h:(T.mk k s ps mn mx nu).known=true):(k=0∨k=1∨k=2∨k=3∨k=4∨k=5∨k=6∨k=7∨k=8)∧T.knowns ps=true:=by
 simp only[T.known,Bool.and_eq_true,Bool.not_eq_true',Bool.or_eq_false_iff,decide_eq_false_iff_not]at h;exact⟨by omega,h.2⟩
theorem T.kd_nd{k:Int}{s:S4}{ps:List T}{mn mx nu:Int}(h:(T.mk k s ps mn mx nu).known=true):(T.mk k s ps mn mx nu).nd.kd=k:=by
 rcases(T.known_kd h).1 with rfl|rfl|rfl|rfl|rfl|rfl|rfl|rfl|rfl<;>simp[T.nd,Nd.kd]
theorem T.known_kids{t:T}(h:t.known=true):∀x∈t.kids,x.known=true:=by
 obtain⟨k,s,ps,mn,mx,nu⟩:=t;have hp:=(T.known_kd h).2;intro x hx;unfold T.kids at hx;split at hx
 ·exact T.knowns_mem hp hx
 ·split at hx
  ·simp only[List.mem_singleton]at hx;subst hx;cases ps with
   |nil=>rfl
   |cons y r=>exact T.knowns_mem hp (by simp[T.of,T.parts])
  ·cases hx
def Zyo(k:Int)(s:S4)(mn mx nu:Int)(s':S4)(mn' mx' nu':Int):Prop:=
 (k=1→s=s')∧(k=4→mn=mn'∧mx=mx')∧(k=5∨k=6→nu=nu')
theorem T.same_iff{k:Int}{s:S4}{ps:List T}{mn mx nu:Int}{s':S4}{ps':List T}{mn' mx' nu':Int}(h:(T.mk k s ps mn mx nu).known=true):
 (T.mk k s ps mn mx nu).nd=(T.mk k s' ps' mn' mx' nu').nd↔Zyo k s mn mx nu s' mn' mx' nu'∧(T.mk k s ps mn mx nu).nd.kids=(T.mk k s' ps' mn' mx' nu').nd.kids:=by
 rcases(T.known_kd h).1 with rfl|rfl|rfl|rfl|rfl|rfl|rfl|rfl|rfl<;>simp[T.nd,Zyo,Nd.kids]
 ·constructor
  ·rintro⟨a,b,c⟩;exact⟨⟨b,c⟩,a⟩
  ·rintro⟨⟨b,c⟩,a⟩;exact⟨a,b,c⟩
theorem T.same_kd{t t':T}(h:t.known=true)(h':t'.known=true)(e:t.nd=t'.nd):t.kind=t'.kind:=by
 obtain⟨k,s,ps,mn,mx,nu⟩:=t;obtain⟨k',s',d,a,b,c⟩:=t';have:=congrArg Nd.kd e;rwa[T.kd_nd h,T.kd_nd h']at this
abbrev C9(w:World)(b:Nat)(v0 v1 v2 v3 v4 v5 v6 v7 v8:Value):Prop:=
 w.cell? ⟨b,0,none⟩=some v0∧w.cell? ⟨b,1,none⟩=some v1∧w.cell? ⟨b,2,none⟩=some v2∧w.cell? ⟨b,3,none⟩=some v3∧w.cell? ⟨b,4,none⟩=some v4∧w.cell? ⟨b,5,none⟩=some v5∧w.cell? ⟨b,6,none⟩=some v6∧w.cell? ⟨b,7,none⟩=some v7∧w.cell? ⟨b,8,none⟩=some v8
theorem C9.on{w w':World}{b:Nat}{v0 v1 v2 v3 v4 v5 v6 v7 v8:Value}(h:C9 w b v0 v1 v2 v3 v4 v5 v6 v7 v8)(f:Fr nob w w'):C9 w' b v0 v1 v2 v3 v4 v5 v6 v7 v8:=by
 obtain⟨h0,h1,h2,h3,h4,h5,h6,h7,h8⟩:=h;exact⟨f.cell h0 (fun x=>x),f.cell h1 (fun x=>x),f.cell h2 (fun x=>x),f.cell h3 (fun x=>x),f.cell h4 (fun x=>x),f.cell h5 (fun x=>x),f.cell h6 (fun x=>x),f.cell h7 (fun x=>x),f.cell h8 (fun x=>x)⟩
theorem C9.of{w:World}{b:Nat}{v0 v1 v2 v3 v4 v5 v6 v7 v8:Value}{T:TypeId}{fr:Nat×Nat}(h:w.heap[b]? =some (.cells #[v0,v1,v2,v3,v4,v5,v6,v7,v8] T fr)):C9 w b v0 v1 v2 v3 v4 v5 v6 v7 v8:=
 ⟨cell_at h rfl,cell_at h rfl,cell_at h rfl,cell_at h rfl,cell_at h rfl,cell_at h rfl,cell_at h rfl,cell_at h rfl,cell_at h rfl⟩
theorem C9.two{w w':World}{b:Nat}{v0 v1 v2 v3 v4 v5 v6 v7 v8:Value}{c:Nat}{u0 u1 u2 u3 u4 u5 u6 u7 u8:Value}(h:C9 w b v0 v1 v2 v3 v4 v5 v6 v7 v8∧C9 w c u0 u1 u2 u3 u4 u5 u6 u7 u8)(f:Fr nob w w'):
 C9 w' b v0 v1 v2 v3 v4 v5 v6 v7 v8∧C9 w' c u0 u1 u2 u3 u4 u5 u6 u7 u8:=⟨C9.on h.1 f,C9.on h.2 f⟩
def ZAU(a b:T)(w:World)(e:Ending)(w':World):Prop:=∃r:Bool,e=.returned (.bool r)∧(r=true↔a.nd=b.nd)∧Fr nob w w'
abbrev ZAV(w:World)(X Y:List Value):World:=(w.alloc (.cells X.toArray 36)).alloc (.cells Y.toArray 36)
theorem Zyk(w:World)(X Y:List Value):Fr nob w (ZAV w X Y):=((Fr.refl _ _).alloc _).alloc _
theorem ZAB(w:World)(X Y:List Value):(ZAV w X Y).heap[w.heap.size]? =some (.cells X.toArray 36 (0,0)):=heap_alloc_lt _ (heap_alloc_new _ _)
theorem ZAC(w:World)(X Y:List Value):(ZAV w X Y).heap[w.heap.size+1]? =some (.cells Y.toArray 36 (0,0)):=by
 have:=heap_alloc_new (w.alloc (.cells X.toArray 36)) (.cells Y.toArray 36);simpa using this
theorem ZAD(m:Nat):∀(a b:T) (ca cb:List Value) (w:World),a.nd.size≤m→a.nd.size≤3000000→b.nd.size≤3000000→a.known=true→b.known=true→RT nob w a ca→RT nob w b cb→
 Calls Tryz.prog 38 #[.agg ca.toArray,.agg cb.toArray] w (ZAU a b w):=by
 induction m with
 |zero=>intro a b ca cb w h;have:=a.nd.size_pos;omega
 |succ m ih=>
  intro a b ca cb w hm e4 e5 U V ha hb;obtain⟨kd,s,ps,mn,mx,nu,ua,uc,Q,rfl,b3⟩:=ha.open';obtain⟨a3,s',ps',mn',mx',nu',A,B,R,rfl,Y⟩:=hb.open';have IH:=hid ih;have HA:=hid ha;have HB:=hid hb;have u:=hid Q;have C:=hid R;have D:=hid U;have M:=hid V;clear ih ha hb b3 Y Q R U V;have c9:a.kids.length≤3000000:=by have h1:=Nd.length_le a.nd.kids;have h2:=a.nd.size_kids;have h3:=a.kids_len;omega
  have d9:b.kids.length≤3000000:=by have h1:=Nd.length_le b.nd.kids;have h2:=b.nd.size_kids;have h3:=b.kids_len;omega
  by_cases F:kd=a3
  ·subst F;have t:a.nd=b.nd↔Zyo kd s mn mx nu s' mn' mx' nu'∧a.nd.kids=b.nd.kids:=by
    have h1:=D.out;rw[u.out]at h1;have:=T.same_iff (s':=s') (ps':=ps') (mn':=mn') (mx':=mx') (nu':=nu') h1;rw[u.out,C.out];exact this
   by_cases h1:kd=1
   ·have S:a.nd=b.nd↔s=s':=by
     rw[u.out,C.out,h1];simp[T.nd]
    have L:=hid S;subst h1;clear t S;obtain⟨a1,b1,c1,d1⟩:=s;obtain⟨a2,b2,c2,d2⟩:=s';cases hp:S4.same ⟨a1,b1,c1,d1⟩ ⟨a2,b2,c2,d2⟩
    all_goals
     have N:=hid hp;go_enter Tryz.func38,Tryz.ntmps38;go_wp2;go_ret;exact⟨_,rfl,⟨fun h=>by first|(cases h;done)|exact L.out.2 (S4.same_iff.1 N.out),fun h=>N.out.symm.trans (S4.same_iff.2 (L.out.1 h))⟩,Zyk _ _ _⟩
   by_cases hh:Zyo kd s mn mx nu s' mn' mx' nu'
   ·have E:=hid (show a.nd=b.nd↔a.nd.kids=b.nd.kids by rw[t];exact⟨fun h=>h.2,fun h=>⟨hh,h⟩⟩);have j:((kd==4)=true∧(mn !=mn')=false∧(mx !=mx')=false)∨((kd==4)=false∧(kd==5)=true∧(nu !=nu')=false)∨((kd==4)=false∧(kd==5)=false∧(kd==6)=true∧(nu !=nu')=false)∨((kd==4)=false∧(kd==5)=false∧(kd==6)=false):=by
     obtain⟨_,q4,a4⟩:=hh;by_cases h4:kd=4
     ·obtain⟨e1,e2⟩:=q4 h4;exact .inl (by simp[h4,e1,e2])
     by_cases h5:kd=5
     ·exact .inr (.inl (by simp[h5,a4 (.inl h5)]))
     by_cases h6:kd=6
     ·exact .inr (.inr (.inl (by simp[h6,a4 (.inr h6)])))
     exact .inr (.inr (.inr (by simp[h4,h5,h6])))
    have c7:(kd==1)=false:=by simpa using h1
    have CA:=C9.of (ZAB w [.int .i64 kd,.int .u64 s.a,.int .u64 s.b,.int .u64 s.c,.int .u64 s.d,.slice ua ps.length uc,.int .i64 mn,.int .i64 mx,.int .i64 nu] [.int .i64 kd,.int .u64 s'.a,.int .u64 s'.b,.int .u64 s'.c,.int .u64 s'.d,.slice A ps'.length B,.int .i64 mn',.int .i64 mx',.int .i64 nu']);have CB:=C9.of (ZAC w [.int .i64 kd,.int .u64 s.a,.int .u64 s.b,.int .u64 s.c,.int .u64 s.d,.slice ua ps.length uc,.int .i64 mn,.int .i64 mx,.int .i64 nu] [.int .i64 kd,.int .u64 s'.a,.int .u64 s'.b,.int .u64 s'.c,.int .u64 s'.d,.slice A ps'.length B,.int .i64 mn',.int .i64 mx',.int .i64 nu']);have HC:=hid (And.intro CA CB);have F0:=hid (Zyk w [.int .i64 kd,.int .u64 s.a,.int .u64 s.b,.int .u64 s.c,.int .u64 s.d,.slice ua ps.length uc,.int .i64 mn,.int .i64 mx,.int .i64 nu] [.int .i64 kd,.int .u64 s'.a,.int .u64 s'.b,.int .u64 s'.c,.int .u64 s'.d,.slice A ps'.length B,.int .i64 mn',.int .i64 mx',.int .i64 nu'])
    clear hh t CA CB h1;rcases j with⟨h4,h5,h6⟩|⟨h4,h5,h6⟩|⟨h4,h5,h6,h7⟩|⟨h4,h5,h6⟩
    all_goals
     go_enter Tryz.func38,Tryz.ntmps38;go_wp2_with fail
     go_region_held3 (fun w'=>C9 w' w.heap.size (.int .i64 kd) (.int .u64 s.a) (.int .u64 s.b) (.int .u64 s.c) (.int .u64 s.d) (.slice ua ps.length uc) (.int .i64 mn) (.int .i64 mx) (.int .i64 nu)∧C9 w' (w.heap.size+1) (.int .i64 kd) (.int .u64 s'.a) (.int .u64 s'.b) (.int .u64 s'.c) (.int .u64 s'.d) (.slice A ps'.length B) (.int .i64 mn') (.int .i64 mx') (.int .i64 nu'))
      (first|exact C9.two ‹_› F2.out|exact C9.two ‹_› F1.out|exact C9.two HC.out ((Fr.refl nob _).drew))
      (first|(go_at_call 60;with_reducible refine(kids_T a _ _ (HA.out.on (F0.out.drew))).mono ?_;rintro e w1 ⟨u1,rfl,s1,f1⟩;obtain⟨a1,c1,rfl⟩:=s1.shape;have S1:=hid s1;have F1:=hid f1;clear s1 f1)|(go_at_call 60;with_reducible refine(kids_T b _ _ (HB.out.on (F0.out.drew.trans' F1.out))).mono ?_;rintro e w2 ⟨u2,rfl,s2,f2⟩;obtain⟨a2,c2,rfl⟩:=s2.shape;have S2:=hid s2;have F2:=hid f2;clear s2 f2))
     by_cases f:a.kids.length=b.kids.length
     ·have e1:(((a.kids.length:Nat):Int) !=((b.kids.length:Nat):Int))=false:=by rw[f];simp
      have n:=hid f;clear f;have FK:=hid ((F0.out.drew.trans' F1.out).trans' F2.out);go_wp2_with fail
      go_loopw [55] (fun i wr=>∃k:Nat,i=.int .i64 k∧k≤a.kids.length∧(a.kids.take k).map T.nd=(b.kids.take k).map T.nd∧Fr nob w2 wr) (fun i _=>a.kids.length-(intOf i).toNat)
      case atStart=>exact⟨0,rfl,Nat.zero_le _,rfl,Fr.refl _ _⟩
      case round=>
       obtain⟨k,rfl,hk,hq,fr⟩:=hrel;have HQ:=hid hq;have FR:=hid fr;clear hq fr;by_cases p:k<a.kids.length
       ·have g:k<b.kids.length:=by have:=n.out;omega
        obtain⟨q,off,c5,cx,he,hx,hc,c8⟩:=(S1.out.on (F2.out.trans' FR.out)).get p;obtain⟨q',c4,c0,c6,b0,v,P,c3⟩:=(S2.out.on FR.out).get g;injection he with e1 e2 e3;injection b0 with e1' e2' e3';subst e1 e3 e1' e3';have W:=a.kid_at p (by have:=a.kids_len;omega);have X:=b.kid_at g (by have:=b.kids_len;omega);have b8:a.kids[k].nd.size<a.nd.size:=Nd.kid_lt (by rw[←W];exact List.getElem_mem _);have b9:b.kids[k].nd.size<b.nd.size:=Nd.kid_lt (by rw[←X];exact List.getElem_mem _);have G:=T.known_kids D.out _ (List.getElem_mem p);have H:=T.known_kids M.out _ (List.getElem_mem g);have I:(a.kids.take (k+1)).map T.nd=(a.kids.take k).map T.nd++[a.kids[k].nd]:=by rw[List.take_succ_eq_append_getElem p,List.map_append];rfl
        have J:(b.kids.take (k+1)).map T.nd=(b.kids.take k).map T.nd++[b.kids[k].nd]:=by rw[List.take_succ_eq_append_getElem g,List.map_append];rfl
        have o:a.nd.kids=b.nd.kids→a.kids[k].nd=b.kids[k].nd:=fun h=>by
         rw[a.kids_nd,b.kids_nd]at h;have:=congrArg (fun l=>l[k]?) h;simpa[List.getElem?_map,List.getElem?_eq_getElem p,List.getElem?_eq_getElem g]using this
        obtain⟨x,Z⟩:∃x,a.kids[k]=x:=⟨_,rfl⟩;obtain⟨y,a0⟩:∃y,b.kids[k]=y:=⟨_,rfl⟩;rw[Z]at hx b8 G I o;rw[a0]at v b9 H J o;obtain⟨k1,s1,p1,e6,e8,f0,a1,c1,b4,rfl,b5⟩:=hx.open';obtain⟨k2,s2,p2,e7,e9,f4,a2,c2,b6,rfl,b7⟩:=v.open';obtain⟨d0,d1,d2,d3,d4,d5,d6,d7,d8⟩:=hc.nine;obtain⟨g0,g1,g2,g3,g4,g5,g6,g7,g8⟩:=P.nine;have HX:=hid hx;have HY:=hid v;have a7:=hid I;have a8:=hid J;have K:=hid o;have a5:=hid G;have a6:=hid H;clear hx v I J o G H b5 b7 b4 b6 e2 e2' hc P Z a0 W X;have q1:(0:Int)≤k:=by omega
        have q2:(k:Int)<a.kids.length:=by omega
        have q3:(k:Int)<b.kids.length:=by omega
        go_wp2_with fail
        go_still_tail 8,(by kernel_rfl)
        change wpList _ _ _ _ _ wr.drew;go_wp2_with fail;refine(IH.out x y _ _ _ (by omega) (by omega) (by omega) a5.out a6.out (HX.out.on ((Fr.refl _ _).drew)) (HY.out.on ((Fr.refl _ _).drew))).mono ?_;rintro e w3 ⟨r,rfl,hr,f3⟩;have F3:=hid f3;have HR:=hid hr;clear f3 hr;cases r with
        |true=>
         have a9:=hid (HR.out.1 (by trivial));go_wp2;go_roundw
         case rel=>exact⟨k+1,by go_num,by omega,by rw[a7.out,a8.out,HQ.out,a9.out],FR.out.drew.trans' F3.out⟩
         case measure=>simp[intOf];omega
        |false=>
         go_wp2;go_ret;exact⟨false,rfl,⟨fun h=>(nomatch h),fun h=>HR.out.2 (K.out (E.out.1 h))⟩,FK.out.trans' (FR.out.drew.trans' F3.out)⟩
       ·obtain rfl:k=a.kids.length:=by omega
        go_wp2;go_ret;refine⟨true,rfl,⟨fun _=>E.out.2 ?_,fun _=>rfl⟩,FK.out.trans' FR.out⟩;have:=HQ.out;rw[List.take_of_length_le (Nat.le_refl _),n.out,List.take_of_length_le (Nat.le_refl _)]at this;rw[a.kids_nd,b.kids_nd,this]
     ·have e1:(((a.kids.length:Nat):Int) !=((b.kids.length:Nat):Int))=true:=by simp;omega
      have n:=hid f;have e0:¬((a.kids.length:Nat):Int)=((b.kids.length:Nat):Int):=by omega
      clear f;go_wp2;go_ret;refine⟨false,rfl,⟨fun h=>(nomatch h),fun h=> ?_⟩,(F0.out.drew.trans' F1.out).trans' F2.out⟩;have:=congrArg List.length (E.out.1 h);rw[a.kids_len,b.kids_len]at this;exact(n.out this).elim
   ·have hf:¬a.nd=b.nd:=fun h=>hh (t.1 h).1;have HF:=hid hf;have j:(kd=4∧mn≠mn')∨(kd=4∧mn=mn'∧mx≠mx')∨(kd=5∧nu≠nu')∨(kd=6∧nu≠nu'):=by
     by_cases h4:kd=4
     ·by_cases e1:mn=mn'
      ·by_cases e2:mx=mx'
       ·exact(hh ⟨fun h=>(h1 h).elim,fun _=>⟨e1,e2⟩,fun h=>by omega⟩).elim
       ·exact .inr (.inl ⟨h4,e1,e2⟩)
      ·exact .inl ⟨h4,e1⟩
     by_cases O:kd=5∨kd=6
     ·have e3:nu≠nu':=fun e=>hh ⟨fun h=>(h1 h).elim,fun h=>(h4 h).elim,fun _=>e⟩;rcases O with h|h
      ·exact .inr (.inr (.inl ⟨h,e3⟩))
      ·exact .inr (.inr (.inr ⟨h,e3⟩))
     ·exact(hh ⟨fun h=>(h1 h).elim,fun h=>(h4 h).elim,fun h=>(O h).elim⟩).elim
    clear hh t hf;rcases j with⟨rfl,e1⟩|⟨rfl,rfl,e1⟩|⟨rfl,e1⟩|⟨rfl,e1⟩
    ·have e2:(mn !=mn')=true:=by simpa using e1
     go_enter Tryz.func38,Tryz.ntmps38;go_wp2;go_ret;exact⟨_,rfl,⟨fun h=>(nomatch h),fun h=>(HF.out h).elim⟩,Zyk _ _ _⟩
    ·have e2:(mx !=mx')=true:=by simpa using e1
     go_enter Tryz.func38,Tryz.ntmps38;go_wp2;go_ret;exact⟨_,rfl,⟨fun h=>(nomatch h),fun h=>(HF.out h).elim⟩,Zyk _ _ _⟩
    all_goals
     have e2:(nu !=nu')=true:=by simpa using e1
     go_enter Tryz.func38,Tryz.ntmps38;go_wp2;go_ret;exact⟨_,rfl,⟨fun h=>(nomatch h),fun h=>(HF.out h).elim⟩,Zyk _ _ _⟩
  ·have h1:(kd !=a3)=true:=by simpa using F
   go_enter Tryz.func38,Tryz.ntmps38;go_wp2;go_ret;refine⟨false,rfl,⟨fun h=>(nomatch h),fun h=> ?_⟩,Zyk _ _ _⟩;have:=T.same_kd D.out M.out h;rw[u.out,C.out]at this;exact(F this).elim
attribute [local go_sem ↓] Go.wp_at_zero Go.wp_at_succ
def ZAE(n:Nd)(w:World)(e:Ending)(w':World):Prop:=∃cs,e=.returned (.agg cs.toArray)∧RT (Old w) w' n.rf cs∧Fr nob w w'
theorem ZAh{w wr w2:World}{g:Option Nat}(h2:w.heap.size≤wr.heap.size)(hg:∀k,g=some k→k<wr.heap.size):
 ∀k,k<w2.heap.size→LS2 (Old w) g k→Old wr k:=by
 intro k _ hk;unfold Old;rcases hk with hk|hk
 ·unfold Old at hk;omega
 ·exact hg k hk
theorem list_any(l:List Nd)(u:Value)(w:World)(hl:Nd.sizes l≤3000000)(hc:∀n∈l,∀(v:Value) (w:World),RN nob w n v→Calls Tryz.prog 39 #[v] w (ZAE n w))(h:SN nob w l u):
 Calls Tryz.prog 61 #[u] w fun e w'=>∃v,e=.returned v∧ST (Old w) w' (Nd.rfs l) v∧Fr nob w w':=by
 obtain⟨a,c,rfl⟩:=h.shape;have H:=hid h;have HC:=hid hc;clear h hc;have M:=Nd.length_le l;go_enter Tryz.func61,Tryz.ntmps61;go_wp2_with fail
 go_loopw [3,8] (fun s i wr=>∃(k:Nat) (g:Option Nat),i=.int .i64 k∧k≤l.length∧OwnT (Old w) wr (Nd.rfs (l.take k)) s g∧Fr nob w wr∧∀j,g=some j→w.heap.size≤j) (fun _ i _=>l.length-(intOf i).toNat)
 case atStart=>exact⟨0,none,rfl,Nat.zero_le _,OwnT.nil _ _,Fr.refl _ _,fun _ h=>by cases h⟩
 case round=>
  obtain⟨k,g,rfl,hk,ho,fr,hg⟩:=hrel;obtain⟨av,cv,rfl⟩:=ho.shape;have HO:=hid ho;have FR:=hid fr;have HG:=hid hg;have D:=fr.size;clear ho fr hg;by_cases d:k<l.length
  ·obtain⟨q,off,I,x,he,hx,K⟩:=(H.out.on FR.out).get d;injection he with e1 e2 e3;subst e1;subst e3;have y:=hid (Nd.rfs_take d);have t:(Nd.rfs (l.take k)).length+[l[k].rf].length≤3000000:=by rw[Nd.rfs_length,List.length_take];simp;omega
   have m:=hid (HC.out l[k] (List.getElem_mem d));have HX:=hid hx;obtain⟨n,hn⟩:∃n,l[k]=n:=⟨_,rfl⟩;rw[hn]at y m HX t;clear hx e2 hn;go_wp2_with fail;refine(m.out x _ HX.out).mono ?_;rintro e w2 ⟨cs,rfl,hr,f2⟩;obtain⟨k',s',Q,N,O,P,a',c',E,rfl,F⟩:=hr.open';have L:=f2.size;have HR:=hid hr;have F2:=hid f2;clear hr f2 E F;have hS:=hid (fun X=>fun k (hk:Old w k)=>(by unfold Old at hk;simp only[World.size_alloc];omega:k<(w2.alloc X).heap.size));have b:=hid (ST.one (S:=LS2 (Old w) g) (RT.keep (Fr.refl nob w2) (fun _ _ x=>x.elim) (ZAh D HO.out.lt) _ _ HR.out) (fun k hk=>by
    rcases hk with hk|hk
    ·unfold Old at hk;omega
    ·have:=HO.out.lt k hk;omega) 36 rfl)
   go_wp2_with(at_builtin;refine wpList_append_t (S:=Old w) rfl (.tmp 12) (.tmp 15) rfl (Nd.rfs (l.take k)) [n.rf] _ _ g (by rfl) (HO.out.on (F2.out.alloc _)) (by rfl) b.out (hS.out _) t ?_;intro v' w3 g' f p r;obtain⟨G,J,o⟩:=f.shape;simp only[List.length_append,List.length_singleton]at o;subst o;have C:=hid f;have A:=hid p;have B:=hid r;clear f p r);go_roundw
   case rel=>exact⟨k+1,g',by go_num,by omega,by rw[y.out];exact C.out,((FR.out.trans' F2.out).alloc _).trans A.out (fun i hi x=>by have:=HG.out i x;omega),fun j hj=>by
    rcases B.out j hj with h|h
    ·exact HG.out j h
    ·simp only[World.size_alloc]at h;omega⟩
   case measure=>simp[intOf];omega
  ·obtain rfl:k=l.length:=by omega
   have hT:=hid (List.take_of_length_le (l:=l) (Nat.le_refl _));have hO:=HO.out;rw[hT.out]at hO;have b:=hid hO.st;clear hO;go_wp2;go_ret;exact⟨_,rfl,by have:=b.out;rw[hT.out];exact this,FR.out⟩
abbrev ZcB(w:World)(b:Nat)(v0 v1 v2 v3 v4 v5 v6 v7 v8:Value):World:=
 ((((((((w.setCell ⟨b,0,none⟩ v0).setCell ⟨b,1,none⟩ v1).setCell ⟨b,2,none⟩ v2).setCell ⟨b,3,none⟩ v3).setCell ⟨b,4,none⟩ v4).setCell ⟨b,5,none⟩ v5).setCell ⟨b,6,none⟩ v6).setCell ⟨b,7,none⟩ v7).setCell ⟨b,8,none⟩ v8
theorem Zf{w:World}{b:Nat}{a0 a1 a2 a3 a4 a5 a6 a7 a8:Value}{T:TypeId}{fr:Nat×Nat}(h:w.heap[b]? =some (.cells #[a0,a1,a2,a3,a4,a5,a6,a7,a8] T fr))(v0 v1 v2 v3 v4 v5 v6 v7 v8:Value):
 (ZcB w b v0 v1 v2 v3 v4 v5 v6 v7 v8).heap[b]? =some (.cells #[v0,v1,v2,v3,v4,v5,v6,v7,v8] T fr):=by
 have h0:(w.setCell ⟨b,0,none⟩ v0).heap[b]? =some (.cells #[v0,a1,a2,a3,a4,a5,a6,a7,a8] T fr):=Za h 0 v0;have h1:((w.setCell ⟨b,0,none⟩ v0).setCell ⟨b,1,none⟩ v1).heap[b]? =some (.cells #[v0,v1,a2,a3,a4,a5,a6,a7,a8] T fr):=Za h0 1 v1;have h2:(((w.setCell ⟨b,0,none⟩ v0).setCell ⟨b,1,none⟩ v1).setCell ⟨b,2,none⟩ v2).heap[b]? =some (.cells #[v0,v1,v2,a3,a4,a5,a6,a7,a8] T fr):=Za h1 2 v2;have h3:((((w.setCell ⟨b,0,none⟩ v0).setCell ⟨b,1,none⟩ v1).setCell ⟨b,2,none⟩ v2).setCell ⟨b,3,none⟩ v3).heap[b]? =some (.cells #[v0,v1,v2,v3,a4,a5,a6,a7,a8] T fr):=Za h2 3 v3;have h4:(((((w.setCell ⟨b,0,none⟩ v0).setCell ⟨b,1,none⟩ v1).setCell ⟨b,2,none⟩ v2).setCell ⟨b,3,none⟩ v3).setCell ⟨b,4,none⟩ v4).heap[b]? =some (.cells #[v0,v1,v2,v3,v4,a5,a6,a7,a8] T fr):=Za h3 4 v4;have h5:((((((w.setCell ⟨b,0,none⟩ v0).setCell ⟨b,1,none⟩ v1).setCell ⟨b,2,none⟩ v2).setCell ⟨b,3,none⟩ v3).setCell ⟨b,4,none⟩ v4).setCell ⟨b,5,none⟩ v5).heap[b]? =some (.cells #[v0,v1,v2,v3,v4,v5,a6,a7,a8] T fr):=Za h4 5 v5
 have h6:(((((((w.setCell ⟨b,0,none⟩ v0).setCell ⟨b,1,none⟩ v1).setCell ⟨b,2,none⟩ v2).setCell ⟨b,3,none⟩ v3).setCell ⟨b,4,none⟩ v4).setCell ⟨b,5,none⟩ v5).setCell ⟨b,6,none⟩ v6).heap[b]? =some (.cells #[v0,v1,v2,v3,v4,v5,v6,a7,a8] T fr):=Za h5 6 v6;have h7:((((((((w.setCell ⟨b,0,none⟩ v0).setCell ⟨b,1,none⟩ v1).setCell ⟨b,2,none⟩ v2).setCell ⟨b,3,none⟩ v3).setCell ⟨b,4,none⟩ v4).setCell ⟨b,5,none⟩ v5).setCell ⟨b,6,none⟩ v6).setCell ⟨b,7,none⟩ v7).heap[b]? =some (.cells #[v0,v1,v2,v3,v4,v5,v6,v7,a8] T fr):=Za h6 7 v7;have h8:(((((((((w.setCell ⟨b,0,none⟩ v0).setCell ⟨b,1,none⟩ v1).setCell ⟨b,2,none⟩ v2).setCell ⟨b,3,none⟩ v3).setCell ⟨b,4,none⟩ v4).setCell ⟨b,5,none⟩ v5).setCell ⟨b,6,none⟩ v6).setCell ⟨b,7,none⟩ v7).setCell ⟨b,8,none⟩ v8).heap[b]? =some (.cells #[v0,v1,v2,v3,v4,v5,v6,v7,v8] T fr):=Za h7 8 v8;exact h8
theorem Zjh{w a:World}{b:Nat}(f:Fr nob a w)(hb:a.heap.size≤b)(v0 v1 v2 v3 v4 v5 v6 v7 v8:Value):Fr nob a (ZcB w b v0 v1 v2 v3 v4 v5 v6 v7 v8):=by
 have h:∀(x:World) (j:Nat) (v:Value),Fr nob a x→Fr nob a (x.setCell ⟨b,j,none⟩ v):=fun x j v hx=>hx.setCell (p:=⟨b,j,none⟩) (fun h=>absurd h (Nat.not_lt.2 hb)) v;exact h _ _ _ (h _ _ _ (h _ _ _ (h _ _ _ (h _ _ _ (h _ _ _ (h _ _ _ (h _ _ _ (h _ _ _ f))))))))
theorem Zas{w:World}{b:Nat}(v0 v1 v2 v3 v4 v5 v6 v7 v8:Value):Fr (fun k=>k=b) w (ZcB w b v0 v1 v2 v3 v4 v5 v6 v7 v8):=by
 have h:∀(x:World) (j:Nat) (v:Value),Fr (fun k=>k=b) w x→Fr (fun k=>k=b) w (x.setCell ⟨b,j,none⟩ v):=fun x j v hx=>hx.setCell (p:=⟨b,j,none⟩) (fun _=>rfl) v;exact h _ _ _ (h _ _ _ (h _ _ _ (h _ _ _ (h _ _ _ (h _ _ _ (h _ _ _ (h _ _ _ (h _ _ _ (Fr.refl _ w)))))))))
theorem ZfX{w:World}{b:Nat}(v0 v1 v2 v3 v4 v5 v6 v7 v8:Value):(ZcB w b v0 v1 v2 v3 v4 v5 v6 v7 v8).heap.size=w.heap.size:=by
 simp[World.setCell]
theorem Zym{w:World}{b:Nat}{a0 a1 a2 a3 a4 a5 a6 a7 a8:Value}{T:TypeId}(h:w.heap[b]? =some (.cells #[a0,a1,a2,a3,a4,a5,a6,a7,a8] T (0,0))):
 (w.frozen? ⟨b,0,none⟩=false∧w.frozen? ⟨b,1,none⟩=false∧w.frozen? ⟨b,2,none⟩=false∧w.frozen? ⟨b,3,none⟩=false∧w.frozen? ⟨b,4,none⟩=false∧w.frozen? ⟨b,5,none⟩=false∧w.frozen? ⟨b,6,none⟩=false∧w.frozen? ⟨b,7,none⟩=false∧w.frozen? ⟨b,8,none⟩=false):=
 ⟨ZF h _,ZF h _,ZF h _,ZF h _,ZF h _,ZF h _,ZF h _,ZF h _,ZF h _⟩
abbrev C3(w:World)(b:Nat)(v0 v1 v2:Value):Prop:=w.cell? ⟨b,0,none⟩=some v0∧w.cell? ⟨b,1,none⟩=some v1∧w.cell? ⟨b,2,none⟩=some v2
abbrev C2(w:World)(b:Nat)(v0 v1:Value):Prop:=w.cell? ⟨b,0,none⟩=some v0∧w.cell? ⟨b,1,none⟩=some v1
theorem C3.on{w w':World}{b:Nat}{v0 v1 v2:Value}(h:C3 w b v0 v1 v2)(f:Fr nob w w'):C3 w' b v0 v1 v2:=⟨f.cell h.1 (fun x=>x),f.cell h.2.1 (fun x=>x),f.cell h.2.2 (fun x=>x)⟩
theorem C2.on{w w':World}{b:Nat}{v0 v1:Value}(h:C2 w b v0 v1)(f:Fr nob w w'):C2 w' b v0 v1:=⟨f.cell h.1 (fun x=>x),f.cell h.2 (fun x=>x)⟩
theorem C3.set{w:World}{b c:Nat}{v0 v1 v2:Value}(h:C3 w b v0 v1 v2)(hn:¬b=c)(u0 u1 u2 u3 u4 u5 u6 u7 u8:Value):C3 (ZcB w c u0 u1 u2 u3 u4 u5 u6 u7 u8) b v0 v1 v2:=
 ⟨Fr.cell (Zas u0 u1 u2 u3 u4 u5 u6 u7 u8) h.1 hn,Fr.cell (Zas u0 u1 u2 u3 u4 u5 u6 u7 u8) h.2.1 hn,Fr.cell (Zas u0 u1 u2 u3 u4 u5 u6 u7 u8) h.2.2 hn⟩
theorem C2.set{w:World}{b c:Nat}{v0 v1:Value}(h:C2 w b v0 v1)(hn:¬b=c)(u0 u1 u2 u3 u4 u5 u6 u7 u8:Value):C2 (ZcB w c u0 u1 u2 u3 u4 u5 u6 u7 u8) b v0 v1:=
 ⟨Fr.cell (Zas u0 u1 u2 u3 u4 u5 u6 u7 u8) h.1 hn,Fr.cell (Zas u0 u1 u2 u3 u4 u5 u6 u7 u8) h.2 hn⟩
theorem C3.of{w:World}{b:Nat}{v0 v1 v2:Value}{T:TypeId}{fr:Nat×Nat}(h:w.heap[b]? =some (.cells #[v0,v1,v2] T fr)):C3 w b v0 v1 v2:=⟨cell_at h rfl,cell_at h rfl,cell_at h rfl⟩
theorem C2.of{w:World}{b:Nat}{v0 v1:Value}{T:TypeId}{fr:Nat×Nat}(h:w.heap[b]? =some (.cells #[v0,v1] T fr)):C2 w b v0 v1:=⟨cell_at h rfl,cell_at h rfl⟩
theorem ref_any(m:Nat):∀(n:Nd) (v:Value) (w:World),n.size≤m→n.size≤3000000→RN nob w n v→
 Calls Tryz.prog 39 #[v] w (ZAE n w):=by
 induction m with
 |zero=>intro n v w h;have:=n.size_pos;omega
 |succ m ih=>
  intro n v w hm hn h;have IH:=hid ih;clear ih;have hk:=h.kind;have H:=hid h;clear h;cases n with
  |nil=>
   obtain rfl:=hk;go_enter Tryz.func39,Tryz.ntmps39;go_wp2;(try simp only[Exit.inBlock,Exit.then]);refine bodyPost_ret (results_T (k:=0) (s:=S4.zero) (v:=.slice none 0 0) (mn:=0) (mx:=0) (nu:=0) rfl rfl (heap_alloc_new' _ _ _ (by simp))) rfl ⟨_,rfl,?_,(Fr.refl _ _).alloc _⟩;rw[Nd.rf];unfold T.zero;exact Zw0.2 ⟨_,rfl,.inl ⟨⟨none,0,rfl⟩,rfl⟩⟩
  |empty=>
   obtain rfl:=hk;go_enter Tryz.func39,Tryz.ntmps39;go_wp2;(try simp only[Exit.inBlock,Exit.then]);refine bodyPost_ret (results_T (k:=0) (s:=S4.zero) (v:=.slice none 0 0) (mn:=0) (mx:=0) (nu:=0) rfl rfl (heap_alloc_new' _ _ _ (by simp))) rfl ⟨_,rfl,?_,(Fr.refl _ _).alloc _⟩;rw[Nd.rf];unfold T.zero;exact Zw0.2 ⟨_,rfl,.inl ⟨⟨none,0,rfl⟩,rfl⟩⟩
  |one s=>
   obtain rfl:=hk;rw[S4.cells_eq];go_enter Tryz.func39,Tryz.ntmps39;go_wp2;(try simp only[Exit.inBlock,Exit.then]);refine bodyPost_ret (results_T (k:=1) (s:=s) (v:=.slice none 0 0) (mn:=0) (mx:=0) (nu:=0) rfl rfl (heap_alloc_lt _ (heap_alloc_new' _ _ _ (by simp)))) rfl ⟨_,rfl,?_,((Fr.refl _ _).alloc _).alloc _⟩;rw[Nd.rf];exact Zw0.2 ⟨_,rfl,.inl ⟨⟨none,0,rfl⟩,rfl⟩⟩
  |back n=>
   obtain rfl:=hk;go_enter Tryz.func39,Tryz.ntmps39;go_wp2;(try simp only[Exit.inBlock,Exit.then]);refine bodyPost_ret (results_T (k:=6) (s:=S4.zero) (v:=.slice none 0 0) (mn:=0) (mx:=0) (nu:=n) rfl rfl (heap_alloc_lt _ (heap_alloc_new' _ _ _ (by simp)))) rfl ⟨_,rfl,?_,((Fr.refl _ _).alloc _).alloc _⟩;rw[Nd.rf];exact Zw0.2 ⟨_,rfl,.inl ⟨⟨none,0,rfl⟩,rfl⟩⟩
  |start=>
   obtain rfl:=hk;go_enter Tryz.func39,Tryz.ntmps39;go_wp2;(try simp only[Exit.inBlock,Exit.then]);refine bodyPost_ret (results_T (k:=7) (s:=S4.zero) (v:=.slice none 0 0) (mn:=0) (mx:=0) (nu:=0) rfl rfl (heap_alloc_lt _ (heap_alloc_new' _ _ _ (by simp)))) rfl ⟨_,rfl,?_,((Fr.refl _ _).alloc _).alloc _⟩;rw[Nd.rf];exact Zw0.2 ⟨_,rfl,.inl ⟨⟨none,0,rfl⟩,rfl⟩⟩
  |fin=>
   obtain rfl:=hk;go_enter Tryz.func39,Tryz.ntmps39;go_wp2;(try simp only[Exit.inBlock,Exit.then]);refine bodyPost_ret (results_T (k:=8) (s:=S4.zero) (v:=.slice none 0 0) (mn:=0) (mx:=0) (nu:=0) rfl rfl (heap_alloc_lt _ (heap_alloc_new' _ _ _ (by simp)))) rfl ⟨_,rfl,?_,((Fr.refl _ _).alloc _).alloc _⟩;rw[Nd.rf];exact Zw0.2 ⟨_,rfl,.inl ⟨⟨none,0,rfl⟩,rfl⟩⟩
  |cat l=>
   obtain⟨a,c,rfl,hs⟩:=hk;have HS:=hid hs;clear hs;have hz:Nd.sizes l≤m:=by simp only[Nd.size]at hm;omega
   have g:Nd.sizes l≤3000000:=by simp only[Nd.size]at hn;omega
   go_enter Tryz.func39,Tryz.ntmps39;go_wp2_with fail;refine(list_any l _ _ g (fun x hx v w hv=>IH.out x v w (Nat.le_trans (Nd.sizes_mem hx) hz) (Nat.le_trans (Nd.sizes_mem hx) g) hv) (HS.out.on (((Fr.refl _ _).alloc _).alloc _))).mono ?_;rintro e w2 ⟨u,rfl,hu,f2⟩;obtain⟨au,cu,rfl⟩:=hu.shape;have hr:=f2.heap (heap_alloc_lt _ (heap_alloc_new _ _)) (fun x=>x);obtain⟨z0,z1,z2,z3,z4,z5,z6,z7,z8⟩:=C9.of hr;obtain⟨q0,q1,q2,q3,q4,q5,q6,q7,q8⟩:=Zym hr;have HR:=hid hr;have HU:=hid hu;have F2:=hid f2;clear hr hu f2;go_wp2;(try simp only[Exit.inBlock,Exit.then]);refine bodyPost_ret (results_T (k:=2) (s:=S4.zero) (v:=.slice au (Nd.rfs l).length cu) (mn:=0) (mx:=0) (nu:=0) rfl rfl (Zf HR.out _ _ _ _ _ _ _ _ _)) rfl ⟨_,rfl,?_,Zjh ((((Fr.refl _ _).alloc _).alloc _).trans' F2.out) (Nat.le_refl _) _ _ _ _ _ _ _ _ _⟩;rw[Nd.rf];exact Zw0.2 ⟨_,rfl,HU.out.keep (Zas _ _ _ _ _ _ _ _ _) (fun k hk x=>by unfold Old;subst x;simp;omega) (fun k hk x=>by unfold Old at x⊢;simp;omega)⟩
  |alt l=>
   obtain⟨a,c,rfl,hs⟩:=hk;have HS:=hid hs;clear hs;have hz:Nd.sizes l≤m:=by simp only[Nd.size]at hm;omega
   have g:Nd.sizes l≤3000000:=by simp only[Nd.size]at hn;omega
   go_enter Tryz.func39,Tryz.ntmps39;go_wp2_with fail;refine(list_any l _ _ g (fun x hx v w hv=>IH.out x v w (Nat.le_trans (Nd.sizes_mem hx) hz) (Nat.le_trans (Nd.sizes_mem hx) g) hv) (HS.out.on (((Fr.refl _ _).alloc _).alloc _))).mono ?_;rintro e w2 ⟨u,rfl,hu,f2⟩;obtain⟨au,cu,rfl⟩:=hu.shape;have hr:=f2.heap (heap_alloc_lt _ (heap_alloc_new _ _)) (fun x=>x);obtain⟨z0,z1,z2,z3,z4,z5,z6,z7,z8⟩:=C9.of hr;obtain⟨q0,q1,q2,q3,q4,q5,q6,q7,q8⟩:=Zym hr;have HR:=hid hr;have HU:=hid hu;have F2:=hid f2;clear hr hu f2;go_wp2;(try simp only[Exit.inBlock,Exit.then]);refine bodyPost_ret (results_T (k:=3) (s:=S4.zero) (v:=.slice au (Nd.rfs l).length cu) (mn:=0) (mx:=0) (nu:=0) rfl rfl (Zf HR.out _ _ _ _ _ _ _ _ _)) rfl ⟨_,rfl,?_,Zjh ((((Fr.refl _ _).alloc _).alloc _).trans' F2.out) (Nat.le_refl _) _ _ _ _ _ _ _ _ _⟩;rw[Nd.rf];exact Zw0.2 ⟨_,rfl,HU.out.keep (Zas _ _ _ _ _ _ _ _ _) (fun k hk x=>by unfold Old;subst x;simp;omega) (fun k hk x=>by unfold Old at x⊢;simp;omega)⟩
  |rep x mn mx=>
   obtain⟨u,rfl,hx⟩:=hk;have t:=hx.shape;have HX:=hid hx;clear hx;have hz:x.size≤m:=by simp only[Nd.size]at hm;omega
   have g:x.size≤3000000:=by simp only[Nd.size]at hn;omega
   rcases t with rfl|⟨ix,zx,rfl⟩
   ·have F0:=hid (((Fr.refl nob w).alloc (.cells #[.int .i64 0,.int .u64 0,.int .u64 0,.int .u64 0,.int .u64 0,.slice none 0 0,.int .i64 0,.int .i64 0,.int .i64 0] 36)).alloc (.cells #[.nilIface,.int .i64 mn,.int .i64 mx] 137));have HC:=hid (C3.on (C3.of (heap_alloc_new' (w.alloc (.cells #[.int .i64 0,.int .u64 0,.int .u64 0,.int .u64 0,.int .u64 0,.slice none 0 0,.int .i64 0,.int .i64 0,.int .i64 0] 36)) (.cells #[.nilIface,.int .i64 mn,.int .i64 mx] 137) (w.heap.size+1) (by simp))) ((Fr.refl nob _).drew));go_enter Tryz.func39,Tryz.ntmps39;go_wp2_with fail
    go_region_held3 (fun w'=>C3 w' (w.heap.size+1) .nilIface (.int .i64 mn) (.int .i64 mx))
     (first|(with_reducible exact HC.out)|(with_reducible exact C3.on HC.out F2.out)|(with_reducible exact C3.on HC.out (F2.out.alloc _))|(with_reducible exact C3.on (C3.set (C3.on HC.out F2.out) f _ _ _ _ _ _ _ _ _) ((Fr.refl nob _).alloc _)))
     ((go_at_call 39;refine(IH.out x _ _ hz g (HX.out.on F0.out.drew)).mono ?_;rintro e w2 ⟨cs,rfl,d,f2⟩;obtain⟨k',s',C,y,A,B,a',c',o,rfl,p⟩:=d.open';have b:=f2.heap (heap_alloc_lt _ (heap_alloc_new _ _)) (fun x=>x);have i:=hid b;obtain⟨z0,z1,z2,z3,z4,z5,z6,z7,z8⟩:=C9.of b;obtain⟨q0,q1,q2,q3,q4,q5,q6,q7,q8⟩:=Zym b;have q:=lt_heap b;have r:¬w.heap.size=w2.heap.size:=(by omega);have f:¬w.heap.size+1=w.heap.size:=(by omega);have j:=hid d;have F2:=hid f2;clear b d f2 p o))
    all_goals
     go_wp2;(try simp only[Exit.inBlock,Exit.then]);refine bodyPost_ret (results_T (k:=4) (s:=S4.zero) (v:=.slice (some ⟨w2.heap.size,0,none⟩) 1 1) (mn:=mn) (mx:=mx) (nu:=0) rfl rfl (heap_alloc_lt _ (Zf i.out _ _ _ _ _ _ _ _ _))) rfl ⟨_,rfl,?_,(Zjh (F0.out.drew.trans' F2.out) (Nat.le_refl _) _ _ _ _ _ _ _ _ _).alloc _⟩;rw[Nd.rf];exact Zw0.2 ⟨_,rfl,ST.one (RT.keep (Zas _ _ _ _ _ _ _ _ _) (fun k hk x=>by unfold Old;subst x;simp;omega) (fun k hk x=>by unfold Old at x⊢;simp;omega) _ _ j.out) (fun k x=>by unfold Old at x;rw[ZfX];omega) _ (by rw[ZfX])⟩
   ·have F0:=hid (((Fr.refl nob w).alloc (.cells #[.int .i64 0,.int .u64 0,.int .u64 0,.int .u64 0,.int .u64 0,.slice none 0 0,.int .i64 0,.int .i64 0,.int .i64 0] 36)).alloc (.cells #[(.iface ix zx),.int .i64 mn,.int .i64 mx] 137));have HC:=hid (C3.on (C3.of (heap_alloc_new' (w.alloc (.cells #[.int .i64 0,.int .u64 0,.int .u64 0,.int .u64 0,.int .u64 0,.slice none 0 0,.int .i64 0,.int .i64 0,.int .i64 0] 36)) (.cells #[(.iface ix zx),.int .i64 mn,.int .i64 mx] 137) (w.heap.size+1) (by simp))) ((Fr.refl nob _).drew));go_enter Tryz.func39,Tryz.ntmps39;go_wp2_with fail
    go_region_held3 (fun w'=>C3 w' (w.heap.size+1) (.iface ix zx) (.int .i64 mn) (.int .i64 mx))
     (first|(with_reducible exact HC.out)|(with_reducible exact C3.on HC.out F2.out)|(with_reducible exact C3.on HC.out (F2.out.alloc _))|(with_reducible exact C3.on (C3.set (C3.on HC.out F2.out) f _ _ _ _ _ _ _ _ _) ((Fr.refl nob _).alloc _)))
     ((go_at_call 39;refine(IH.out x _ _ hz g (HX.out.on F0.out.drew)).mono ?_;rintro e w2 ⟨cs,rfl,d,f2⟩;obtain⟨k',s',C,y,A,B,a',c',o,rfl,p⟩:=d.open';have b:=f2.heap (heap_alloc_lt _ (heap_alloc_new _ _)) (fun x=>x);have i:=hid b;obtain⟨z0,z1,z2,z3,z4,z5,z6,z7,z8⟩:=C9.of b;obtain⟨q0,q1,q2,q3,q4,q5,q6,q7,q8⟩:=Zym b;have q:=lt_heap b;have r:¬w.heap.size=w2.heap.size:=(by omega);have f:¬w.heap.size+1=w.heap.size:=(by omega);have j:=hid d;have F2:=hid f2;clear b d f2 p o))
    all_goals
     go_wp2;(try simp only[Exit.inBlock,Exit.then]);refine bodyPost_ret (results_T (k:=4) (s:=S4.zero) (v:=.slice (some ⟨w2.heap.size,0,none⟩) 1 1) (mn:=mn) (mx:=mx) (nu:=0) rfl rfl (heap_alloc_lt _ (Zf i.out _ _ _ _ _ _ _ _ _))) rfl ⟨_,rfl,?_,(Zjh (F0.out.drew.trans' F2.out) (Nat.le_refl _) _ _ _ _ _ _ _ _ _).alloc _⟩;rw[Nd.rf];exact Zw0.2 ⟨_,rfl,ST.one (RT.keep (Zas _ _ _ _ _ _ _ _ _) (fun k hk x=>by unfold Old;subst x;simp;omega) (fun k hk x=>by unfold Old at x⊢;simp;omega) _ _ j.out) (fun k x=>by unfold Old at x;rw[ZfX];omega) _ (by rw[ZfX])⟩
  |group gn x=>
   obtain⟨u,rfl,hx⟩:=hk;have t:=hx.shape;have HX:=hid hx;clear hx;have hz:x.size≤m:=by simp only[Nd.size]at hm;omega
   have g:x.size≤3000000:=by simp only[Nd.size]at hn;omega
   rcases t with rfl|⟨ix,zx,rfl⟩
   ·have F0:=hid (((Fr.refl nob w).alloc (.cells #[.int .i64 0,.int .u64 0,.int .u64 0,.int .u64 0,.int .u64 0,.slice none 0 0,.int .i64 0,.int .i64 0,.int .i64 0] 36)).alloc (.cells #[.int .i64 gn,.nilIface] 127));have HC:=hid (C2.on (C2.of (heap_alloc_new' (w.alloc (.cells #[.int .i64 0,.int .u64 0,.int .u64 0,.int .u64 0,.int .u64 0,.slice none 0 0,.int .i64 0,.int .i64 0,.int .i64 0] 36)) (.cells #[.int .i64 gn,.nilIface] 127) (w.heap.size+1) (by simp))) ((Fr.refl nob _).drew));go_enter Tryz.func39,Tryz.ntmps39;go_wp2_with fail
    go_region_held3 (fun w'=>C2 w' (w.heap.size+1) (.int .i64 gn) .nilIface)
     (first|(with_reducible exact HC.out)|(with_reducible exact C2.on HC.out F2.out)|(with_reducible exact C2.on HC.out (F2.out.alloc _))|(with_reducible exact C2.on (C2.set (C2.on HC.out F2.out) f _ _ _ _ _ _ _ _ _) ((Fr.refl nob _).alloc _)))
     ((go_at_call 39;refine(IH.out x _ _ hz g (HX.out.on F0.out.drew)).mono ?_;rintro e w2 ⟨cs,rfl,d,f2⟩;obtain⟨k',s',C,y,A,B,a',c',o,rfl,p⟩:=d.open';have b:=f2.heap (heap_alloc_lt _ (heap_alloc_new _ _)) (fun x=>x);have i:=hid b;obtain⟨z0,z1,z2,z3,z4,z5,z6,z7,z8⟩:=C9.of b;obtain⟨q0,q1,q2,q3,q4,q5,q6,q7,q8⟩:=Zym b;have q:=lt_heap b;have r:¬w.heap.size=w2.heap.size:=(by omega);have f:¬w.heap.size+1=w.heap.size:=(by omega);have j:=hid d;have F2:=hid f2;clear b d f2 p o))
    all_goals
     go_wp2;(try simp only[Exit.inBlock,Exit.then]);refine bodyPost_ret (results_T (k:=5) (s:=S4.zero) (v:=.slice (some ⟨w2.heap.size,0,none⟩) 1 1) (mn:=0) (mx:=0) (nu:=gn) rfl rfl (heap_alloc_lt _ (Zf i.out _ _ _ _ _ _ _ _ _))) rfl ⟨_,rfl,?_,(Zjh (F0.out.drew.trans' F2.out) (Nat.le_refl _) _ _ _ _ _ _ _ _ _).alloc _⟩;rw[Nd.rf];exact Zw0.2 ⟨_,rfl,ST.one (RT.keep (Zas _ _ _ _ _ _ _ _ _) (fun k hk x=>by unfold Old;subst x;simp;omega) (fun k hk x=>by unfold Old at x⊢;simp;omega) _ _ j.out) (fun k x=>by unfold Old at x;rw[ZfX];omega) _ (by rw[ZfX])⟩
   ·have F0:=hid (((Fr.refl nob w).alloc (.cells #[.int .i64 0,.int .u64 0,.int .u64 0,.int .u64 0,.int .u64 0,.slice none 0 0,.int .i64 0,.int .i64 0,.int .i64 0] 36)).alloc (.cells #[.int .i64 gn,(.iface ix zx)] 127));have HC:=hid (C2.on (C2.of (heap_alloc_new' (w.alloc (.cells #[.int .i64 0,.int .u64 0,.int .u64 0,.int .u64 0,.int .u64 0,.slice none 0 0,.int .i64 0,.int .i64 0,.int .i64 0] 36)) (.cells #[.int .i64 gn,(.iface ix zx)] 127) (w.heap.size+1) (by simp))) ((Fr.refl nob _).drew));go_enter Tryz.func39,Tryz.ntmps39;go_wp2_with fail
    go_region_held3 (fun w'=>C2 w' (w.heap.size+1) (.int .i64 gn) (.iface ix zx))
     (first|(with_reducible exact HC.out)|(with_reducible exact C2.on HC.out F2.out)|(with_reducible exact C2.on HC.out (F2.out.alloc _))|(with_reducible exact C2.on (C2.set (C2.on HC.out F2.out) f _ _ _ _ _ _ _ _ _) ((Fr.refl nob _).alloc _)))
     ((go_at_call 39;refine(IH.out x _ _ hz g (HX.out.on F0.out.drew)).mono ?_;rintro e w2 ⟨cs,rfl,d,f2⟩;obtain⟨k',s',C,y,A,B,a',c',o,rfl,p⟩:=d.open';have b:=f2.heap (heap_alloc_lt _ (heap_alloc_new _ _)) (fun x=>x);have i:=hid b;obtain⟨z0,z1,z2,z3,z4,z5,z6,z7,z8⟩:=C9.of b;obtain⟨q0,q1,q2,q3,q4,q5,q6,q7,q8⟩:=Zym b;have q:=lt_heap b;have r:¬w.heap.size=w2.heap.size:=(by omega);have f:¬w.heap.size+1=w.heap.size:=(by omega);have j:=hid d;have F2:=hid f2;clear b d f2 p o))
    all_goals
     go_wp2;(try simp only[Exit.inBlock,Exit.then]);refine bodyPost_ret (results_T (k:=5) (s:=S4.zero) (v:=.slice (some ⟨w2.heap.size,0,none⟩) 1 1) (mn:=0) (mx:=0) (nu:=gn) rfl rfl (heap_alloc_lt _ (Zf i.out _ _ _ _ _ _ _ _ _))) rfl ⟨_,rfl,?_,(Zjh (F0.out.drew.trans' F2.out) (Nat.le_refl _) _ _ _ _ _ _ _ _ _).alloc _⟩;rw[Nd.rf];exact Zw0.2 ⟨_,rfl,ST.one (RT.keep (Zas _ _ _ _ _ _ _ _ _) (fun k hk x=>by unfold Old;subst x;simp;omega) (fun k hk x=>by unfold Old at x⊢;simp;omega) _ _ j.out) (fun k x=>by unfold Old at x;rw[ZfX];omega) _ (by rw[ZfX])⟩
def IsT(n:Nd)(t:T)(w:World)(e:Ending)(w':World):Prop:=∃r:Bool,e=.returned (.bool r)∧(r=true↔n.norm=t.nd)∧Fr nob w w'
theorem Zz5(n:Nd)(t:T)(v:Value)(cs:List Value)(w:World)(hn:n.size≤3000000)(ht:t.nd.size≤3000000)(hk:t.known=true)(h:RN nob w n v)(h':RT nob w t cs):
 Calls Tryz.prog 15 #[v,.agg cs.toArray] w (IsT n t w):=by
 obtain⟨kd,s,ps,mn,mx,nu,a,c,_,rfl,hs⟩:=h'.open';have HN:=hid h;have HT:=hid h';have HK:=hid hk;clear h h' hs hk;have HC:=hid (C9.on (C9.of (heap_alloc_new w (.cells #[.int .i64 kd,.int .u64 s.a,.int .u64 s.b,.int .u64 s.c,.int .u64 s.d,.slice a ps.length c,.int .i64 mn,.int .i64 mx,.int .i64 nu] 36))) ((Fr.refl nob _).drew));go_enter Tryz.func15,Tryz.ntmps15;go_wp2_with fail
 go_region_held3 (fun w'=>C9 w' w.heap.size (.int .i64 kd) (.int .u64 s.a) (.int .u64 s.b) (.int .u64 s.c) (.int .u64 s.d) (.slice a ps.length c) (.int .i64 mn) (.int .i64 mx) (.int .i64 nu))
  (first|(with_reducible exact HC.out)|(with_reducible exact C9.on HC.out F2.out)|(with_reducible exact C9.on HC.out (F2.out.trans' F3.out)))
  (first|(go_at_call 39;refine(ref_any n.size n _ _ (Nat.le_refl _) hn (HN.out.on ((Fr.refl _ _).alloc _).drew)).mono ?_;rintro e w2 ⟨cr,rfl,hr,f2⟩;obtain⟨k',s',o,k,l,m,a',c',i,rfl,j⟩:=hr.open';have HR:=hid hr;have F2:=hid f2;clear hr f2 j i)|(go_at_call 38;refine(ZAD n.rf.nd.size n.rf t _ _ _ (Nat.le_refl _) (by rw[Nd.rf_nd,Nd.norm_size];exact hn) ht (Nd.rf_known n) HK.out (RT.keep (Fr.refl nob _) (fun _ _ x=>x.elim) (fun _ _ x=>x.elim) _ _ HR.out) (HT.out.on (((Fr.refl nob w).alloc _).drew.trans' F2.out))).mono ?_;rintro e w3 ⟨r,rfl,f,f3⟩;have g:=hid f;have F3:=hid f3;clear f f3))
 all_goals
  go_wp2;go_ret;exact⟨r,rfl,by rw[←Nd.rf_nd];exact g.out,(((Fr.refl nob w).alloc _).drew.trans' F2.out).trans' F3.out⟩
end
section
open Go.RowKit
theorem SI.on{w w':World}{l:List Int}{u:Value}(h:SI w l u)(f:Fr nob w w'):SI w' l u:=by
 rcases h with h|⟨g,off,a,rfl,h⟩
 ·exact .inl h
 ·exact .inr ⟨g,off,a,rfl,fun j x hj=>f.cell (h j x hj) (fun x=>x)⟩
theorem ZwA{ops:Array Oper}{o:Oper}{a:Act}{w:World}{K:Act→World→Prop}{Q:Exit→Act→World→Prop}{E:Prop}
 (hg:o.guard=none) (s x:Operand) (hop:o.op=Op.call {callee:=Callee.builtin Builtin.append,args:= #[s,x],argTypes:= #[81,81]})
 (l m:List Int) (v ux:Value) (hs:a.eval s=v) (hown:w.ownsRow 0 3 1 v l.length (l.map (Value.int .i64))) (hx:a.eval x=ux) (hm:SI w m ux) (hb:l.length+m.length≤6000000)
 (hK:∀v' w',w'.ownsRow 0 3 1 v' (l++m).length ((l++m).map (Value.int .i64))→Fr (fun k=>v.ownBlock=some k) w w'→(∀k,v'.ownBlock=some k→v.ownBlock=some k∨w.heap.size≤k)→K (a.put o.dst v') w'):
 if Region.wanted o (yielded ops a.tmps)=true then Oper.wp Tryz.prog o a w K Q else E:=by
 obtain⟨i0,hi,f,g,h⟩:=info_parts ZuY;rcases hm with⟨rfl,rfl⟩|⟨q,off,e,rfl,hc⟩
 ·have hw:Region.wanted o (yielded ops a.tmps)=true:=by simp[Region.wanted,hg]
  rw[if_pos hw];have hr:=run_append_owned_none (P:=Tryz.prog) (w:=w) 0 81 o.type 3 i0 1 Tryz.underlying81 hi v l.length _ hown;unfold Oper.wp execOp;simp only[hop,resolve,invoke,builtin,Sem.run_bind,Sem.run_pure,Result.andThen_ok,List.map_toArray,List.map_cons,List.map_nil,hs,hx,hr];exact hK _ _ (by simpa using hown) (Fr.refl _ _) (fun k hk=>.inl hk)
 ·refine step_append_g hg s x _ hop 3 i0 (.int .i64 0) 1 8 Tryz.underlying81 hi f g h rfl (by decide) v l.length _ hs hown ⟨q,off,none⟩ m.length e (m.map (Value.int .i64)) hx (by simp) ?_ ?_ (by unfold maxLen;omega) (by omega) ?_
  ·intro j u hj;rw[List.getElem?_map]at hj;cases b:m[j]? with
   |none=>rw[b]at hj;cases hj
   |some y=>
    rw[b]at hj;injection hj with hj;subst hj;have:=hc j y b;by_cases h0:j=0<;>simpa[Addr.add,h0]using this
  ·intro u hu;obtain⟨y,_,rfl⟩:=List.mem_map.1 hu;rfl
  ·intro v' w' c d;exact hK v' w' (by simpa using c) d.fr d.old
theorem ownsRow_empty{w:World}{b:Nat}{e:TypeId}(h:w.heap[b]? =some (.cells #[] e (0,0))):w.ownsRow 0 e 1 (.slice (some ⟨b,0,none⟩) 0 0) ([]:List Int).length (([]:List Int).map (Value.int .i64)):=by
 refine⟨by simp,.inr ⟨b,0,#[],rfl,Nat.zero_le _,h,by simp,by simp[maxLen],by simp,by simp⟩⟩
theorem SI.one{w:World}{b:Nat}{x:Int}{e:TypeId}(h:w.heap[b]? =some (.cells #[.int .i64 x] e (0,0))):SI w [x] (.slice (some ⟨b,0,none⟩) 1 1):=by
 refine .inr ⟨b,0,1,rfl,fun j y hj=> ?_⟩
 match j,hj with
 |0,hj=>simp at hj;subst hj;exact cell_at h rfl
theorem Zxw{v:Value}{b H B n c:Nat}(h:∀k,v.ownBlock=some k→(Value.slice (some ⟨b,0,none⟩) n c).ownBlock=some k∨H≤k)(h1:B≤b)(h2:B≤H):∀k,v.ownBlock=some k→B≤k:=by
 intro k hk;rcases h k hk with e|e
 ·simp[Value.ownBlock]at e;omega
 ·omega
theorem fr_new{wr W w3:World}{b n c:Nat}(f:Fr nob wr W)(h:Fr (fun k=>(Value.slice (some ⟨b,0,none⟩) n c).ownBlock=some k) W w3)(hb:wr.heap.size≤b):Fr nob wr w3:=
 f.trans h (fun i hi e=>by simp[Value.ownBlock]at e;omega)
theorem Zfe{P:Program}{x a:TypeId}{fs:Array Field}(h:P.underlying a=some (.struct fs))(v:Value)(w:World):
 (Instr.typeAssert (.iface a v) x a false).run P w=.ok v w:=by
 simp[Instr.typeAssert,run_underlying h]
theorem ZfW(fn:Fn)(first cap:Array Value)(w:World):(Instr.makeFunc fn first cap).run Tryz.prog w=.ok (.func fn first cap) w:=rfl
open Go.Lib (hid)
def T.partT(t:T):List T:=if t.kind=0 then[]else if t.kind=2 then t.parts else[t]
def T.armT(t:T):List T:=if t.kind=3 then t.parts else[t]
def ZxZ:List T→List T
 |[]=>[]
 |t::ts=>t.partT++ZxZ ts
def Zx8:List T→List T
 |[]=>[]
 |t::ts=>t.armT++Zx8 ts
def Zyv(k:Int):List T→T
 |[]=>T.zero
 |[x]=>x
 |x::y::l=>.mk k S4.zero (x::y::l) 0 0 0
def ZyA(l:List T):T:=Zyv 2 (ZxZ l)
def Zyd(l:List T):T:=Zyv 3 (Zx8 l)
theorem ZyB(l m:List T):ZxZ (l++m)=ZxZ l++ZxZ m:=by
 induction l with
 |nil=>rfl
 |cons t ts ih=>simp only[List.cons_append,ZxZ,ih,List.append_assoc]
theorem ZyM(l m:List T):Zx8 (l++m)=Zx8 l++Zx8 m:=by
 induction l with
 |nil=>rfl
 |cons t ts ih=>simp only[List.cons_append,Zx8,ih,List.append_assoc]
theorem ZyT{l:List T}{k:Nat}(h:k<l.length):ZxZ (l.take (k+1))=ZxZ (l.take k)++l[k].partT:=by
 rw[List.take_succ_eq_append_getElem h,ZyB];simp[ZxZ]
theorem Zzj{l:List T}{k:Nat}(h:k<l.length):Zx8 (l.take (k+1))=Zx8 (l.take k)++l[k].armT:=by
 rw[List.take_succ_eq_append_getElem h,ZyM];simp[Zx8]
theorem T.partT_bulk(t:T):T.bulks t.partT≤t.bulk:=by
 have:=t.bulk_parts;unfold T.partT;split
 ·simp[T.bulks]
 split
 ·omega
 ·simp[T.bulks]
theorem T.armT_bulk(t:T):T.bulks t.armT≤t.bulk:=by
 have:=t.bulk_parts;unfold T.armT;split
 ·omega
 ·simp[T.bulks]
theorem Zyi(l:List T):T.bulks (ZxZ l)≤T.bulks l:=by
 induction l with
 |nil=>simp[ZxZ]
 |cons t ts ih=>have:=t.partT_bulk;simp only[ZxZ,T.bulks,T.bulks_append];omega
theorem Zyl(l:List T):T.bulks (Zx8 l)≤T.bulks l:=by
 induction l with
 |nil=>simp[Zx8]
 |cons t ts ih=>have:=t.armT_bulk;simp only[Zx8,T.bulks,T.bulks_append];omega
abbrev SRo(O:Nat→Prop)(w:World):Nat→Prop:=fun k=>O k∨k=w.heap.size
theorem ZzA{O:Nat→Prop}{w wr:World}{g:Option Nat}{l:List T}{u:Value}(h:ST O w l u)(f:Fr nob w wr)(hg:∀j,g=some j→w.heap.size<j):ST (LS2 (SRo O w) g) wr l u:=
 h.keep f (fun _ _ x=>x.elim) (fun k hk x=>by
  rcases x with(x|x)|x
  ·exact x
  ·omega
  ·have:=hg k x;omega)
theorem ZzB{O:Nat→Prop}{w wr:World}{g:Option Nat}{t:T}{cs:List Value}(h:RT O w t cs)(f:Fr nob w wr)(hg:∀j,g=some j→w.heap.size<j):RT (LS2 (SRo O w) g) wr t cs:=
 RT.keep f (fun _ _ x=>x.elim) (fun k hk x=>by
  rcases x with(x|x)|x
  ·exact x
  ·omega
  ·have:=hg k x;omega) _ _ h
theorem ZzC(O:Nat→Prop)(l:List T)(u:Value)(w:World)(hO:∀k,O k→k<w.heap.size)(hl:T.bulks l≤3000000)(h:ST O w l u):
 Calls Tryz.prog 122 #[u] w fun e w'=>∃cs,e=.returned (.agg cs.toArray)∧RT O w' (ZyA l) cs∧Fr nob w w':=by
 obtain⟨a,c,rfl⟩:=h.shape;have H:=hid h;clear h;have a4:=T.length_le l;have M:=hid (Nat.le_trans (T.length_le (ZxZ l)) (Zyi l));go_enter Tryz.func122,Tryz.ntmps122;go_wp2_with fail
 go_loopw [3,7] (fun s i wr=>∃(k:Nat) (g:Option Nat),i=.int .i64 k∧k≤l.length∧OwnT (SRo O w) wr (ZxZ (l.take k)) s g∧Fr nob (w.alloc (.cells #[.int .i64 0,.int .u64 0,.int .u64 0,.int .u64 0,.int .u64 0,.slice none 0 0,.int .i64 0,.int .i64 0,.int .i64 0] 36)) wr∧∀j,g=some j→w.heap.size<j) (fun _ i _=>l.length-(intOf i).toNat)
 case atStart=>exact⟨0,none,rfl,Nat.zero_le _,OwnT.nil _ _,Fr.refl _ _,fun _ h=>by cases h⟩
 case round=>
  obtain⟨k,g,rfl,hk,ho,fr,hg⟩:=hrel;obtain⟨av,cv,rfl⟩:=ho.shape;have HO:=hid ho;have FR:=hid fr;have HG:=hid hg;have a2:=fr.size;simp only[World.size_alloc]at a2;clear ho fr hg;by_cases L:k<l.length
  ·obtain⟨q,off,Z,cx,he,hx,hc,a1⟩:=H.out.get L;injection he with e1 e2 e3;subst e1;subst e3;have m:=hid (ZyT L);have b:=Nat.le_trans (T.length_le (ZxZ (l.take (k+1)))) (Nat.le_trans (Zyi _) (T.bulks_take_le l (k+1)));obtain⟨x,P⟩:∃x,l[k]=x:=⟨_,rfl⟩;rw[P]at hx m;obtain⟨k',s',C,Q,R,U,a',c',o,rfl,D⟩:=hx.open';obtain⟨d0,d1,d2,d3,d4,d5,d6,d7,d8⟩:=(hc.fr (((Fr.refl nob w).alloc _).trans' FR.out) (fun x=>x)).nine;rw[m.out,List.length_append]at b;have W:=hid hx;have X:=hid D;clear hx D e2 hc P;by_cases k0:k'=0
   ·have d:x.partT=[]:=by rw[o];simp[T.partT,T.kind,k0]
    have V:=hid (show ZxZ (l.take (k+1))=ZxZ (l.take k) by rw[m.out,d,List.append_nil]);subst k0;clear d b;go_wp2;go_roundw
    case rel=>exact⟨k+1,g,by go_num,by omega,by rw[V.out];exact HO.out,FR.out,HG.out⟩
    case measure=>simp[intOf];omega
   have a3:(k'==0)=false:=by simpa using k0
   by_cases k2:k'=2
   ·have d:x.partT=C:=by rw[o];simp[T.partT,T.kind,T.parts,k2]
    rw[d]at m b;have B:(ZxZ (l.take k)).length+C.length≤3000000:=by omega
    subst k2;clear d b k0 a3;go_wp2_with(at_builtin;refine wpList_append_t (S:=SRo O w) rfl (.tmp 26) (.tmp 31) rfl (ZxZ (l.take k)) C _ _ g (by rfl) (HO.out.on (Fr.refl _ _)) (by rfl) (ZzA X.out (((Fr.refl nob w).alloc _).trans' FR.out) HG.out) (fun k hk=>by rcases hk with hk|hk;(have:=hO k hk;omega);omega) B ?_;intro v' w3 g' f t A;obtain⟨Y,a0,p⟩:=f.shape;simp only[List.length_append,List.length_singleton]at p;subst p;have G:=hid f;have E:=hid t;have F:=hid A;clear f t A);go_roundw
    case rel=>exact⟨k+1,g',by go_num,by omega,by rw[m.out];exact G.out,FR.out.trans E.out (fun i hi x=>by have:=HG.out i x;simp at hi;omega),fun j hj=>by
     rcases F.out j hj with h|h
     ·exact HG.out j h
     ·first|omega|(simp only[World.size_alloc]at h;omega)⟩
    case measure=>simp[intOf];omega
   have a7:(k'==2)=false:=by simpa using k2
   have d:x.partT=[x]:=by rw[o];simp[T.partT,T.kind,k0,k2]
   rw[d]at m b;have B:(ZxZ (l.take k)).length+[x].length≤3000000:=by omega
   clear d b o k0 k2;go_wp2_with(at_builtin;refine wpList_append_t (S:=SRo O w) rfl (.tmp 15) (.tmp 20) rfl (ZxZ (l.take k)) [x] _ _ g (by rfl) (HO.out.on ((Fr.refl _ _).alloc _)) (by rfl) (ST.one (ZzB W.out (((Fr.refl nob w).alloc _).trans' FR.out) HG.out) (fun k hk=>by rcases hk with(hk|hk)|hk;(have:=hO k hk;omega);omega;exact HO.out.lt k hk) _ rfl) (fun k hk=>by rcases hk with hk|hk;(have:=hO k hk;simp;omega);simp;omega) B ?_;intro v' w3 g' f t A;obtain⟨Y,a0,p⟩:=f.shape;simp only[List.length_append,List.length_singleton]at p;subst p;have G:=hid f;have E:=hid t;have F:=hid A;clear f t A);go_roundw
   case rel=>exact⟨k+1,g',by go_num,by omega,by rw[m.out];exact G.out,(FR.out.alloc _).trans E.out (fun i hi x=>by have:=HG.out i x;simp at hi;omega),fun j hj=>by
    rcases F.out j hj with h|h
    ·exact HG.out j h
    ·first|omega|(simp only[World.size_alloc]at h;omega)⟩
   case measure=>simp[intOf];omega
  ·obtain rfl:k=l.length:=by omega
   have hT:=List.take_of_length_le (l:=l) (Nat.le_refl _);have hO:=HO.out;rw[hT]at hO⊢;have I:=hid hO.st;have hr:=FR.out.heap (heap_alloc_new _ _) (fun x=>x);obtain⟨z0,z1,z2,z3,z4,z5,z6,z7,z8⟩:=C9.of hr;obtain⟨q0,q1,q2,q3,q4,q5,q6,q7,q8⟩:=Zym hr;have HR:=hid hr;have FW:=hid (((Fr.refl nob w).alloc _).trans' FR.out);obtain⟨ps,J⟩:∃ps,ZxZ l=ps:=⟨_,rfl⟩;rw[J]at I M⊢;have HJ:=hid (show ZyA l=Zyv 2 ps by unfold ZyA;rw[J]);clear hT hO hr HO J
   match ps with
   |[]=>
    go_wp2;(try simp only[Exit.inBlock,Exit.then]);refine bodyPost_ret (results_T (k:=0) (s:=S4.zero) (v:=.slice none 0 0) (mn:=0) (mx:=0) (nu:=0) rfl rfl (Zf HR.out _ _ _ _ _ _ _ _ _)) rfl ⟨_,rfl,?_,Zjh FW.out (Nat.le_refl _) _ _ _ _ _ _ _ _ _⟩;rw[HJ.out];exact Zw0.2 ⟨_,rfl,.inl ⟨⟨none,0,rfl⟩,rfl⟩⟩
   |[x]=>
    obtain⟨q,off,Z,cx,he,hx,hc,a1⟩:=I.out.get (k:=0) (by simp);injection he with e1 e2 e3;subst e1;subst e3;have K:RT (SRo O w) wr x cx:=hx;obtain⟨k',s',C,Q,R,U,a',c',o,rfl,D⟩:=K.open';simp only[Nat.zero_mul,Nat.add_zero]at hc;obtain⟨d0,d1,d2,d3,d4,d5,d6,d7,d8⟩:=hc.nine;have HX:=hid K;clear hx K D hc e2 o;simp only[List.length_cons,List.length_nil,Nat.zero_add];go_wp2;(try simp only[Exit.inBlock,Exit.then]);refine bodyPost_ret (results_T (k:=k') (s:=s') (v:=.slice a' C.length c') (mn:=Q) (mx:=R) (nu:=U) rfl rfl (Zf HR.out _ _ _ _ _ _ _ _ _)) rfl ⟨_,rfl,?_,Zjh FW.out (Nat.le_refl _) _ _ _ _ _ _ _ _ _⟩;rw[HJ.out];exact RT.keep (Zas _ _ _ _ _ _ _ _ _) (fun k _ e=>.inr e) (fun _ _ x=>.inl x) _ _ HX.out
   |x::y::r=>
    have N:=M.out;obtain⟨n,hn⟩:∃n,(x::y::r).length=n:=⟨_,rfl⟩;have a5:¬(n:Int)=0:=by rw[←hn];simp;omega
    have a6:¬(n:Int)=1:=by rw[←hn];simp;omega
    have HN:=hid hn;rw[hn]at N⊢;clear hn;go_wp2;(try simp only[Exit.inBlock,Exit.then]);refine bodyPost_ret (results_T (k:=2) (s:=S4.zero) (v:=.slice av n cv) (mn:=0) (mx:=0) (nu:=0) rfl rfl (Zf HR.out _ _ _ _ _ _ _ _ _)) rfl ⟨_,rfl,?_,Zjh FW.out (Nat.le_refl _) _ _ _ _ _ _ _ _ _⟩;rw[HJ.out];refine Zw0.2 ⟨_,rfl,?_⟩;have hs:=I.out;rw[HN.out]at hs;exact hs.keep (Zas _ _ _ _ _ _ _ _ _) (fun k _ e=>.inr e) (fun _ _ x=>.inl x)
theorem ZyU(O:Nat→Prop)(l:List T)(u:Value)(w:World)(hO:∀k,O k→k<w.heap.size)(hl:T.bulks l≤3000000)(h:ST O w l u):
 Calls Tryz.prog 94 #[u] w fun e w'=>∃cs,e=.returned (.agg cs.toArray)∧RT O w' (Zyd l) cs∧Fr nob w w':=by
 obtain⟨a,c,rfl⟩:=h.shape;have H:=hid h;clear h;have a2:=T.length_le l;have M:=hid (Nat.le_trans (T.length_le (Zx8 l)) (Zyl l));go_enter Tryz.func94,Tryz.ntmps94;go_wp2_with fail
 go_loopw [3,7] (fun s i wr=>∃(k:Nat) (g:Option Nat),i=.int .i64 k∧k≤l.length∧OwnT (SRo O w) wr (Zx8 (l.take k)) s g∧Fr nob (w.alloc (.cells #[.int .i64 0,.int .u64 0,.int .u64 0,.int .u64 0,.int .u64 0,.slice none 0 0,.int .i64 0,.int .i64 0,.int .i64 0] 36)) wr∧∀j,g=some j→w.heap.size<j) (fun _ i _=>l.length-(intOf i).toNat)
 case atStart=>exact⟨0,none,rfl,Nat.zero_le _,OwnT.nil _ _,Fr.refl _ _,fun _ h=>by cases h⟩
 case round=>
  obtain⟨k,g,rfl,hk,ho,fr,hg⟩:=hrel;obtain⟨av,cv,rfl⟩:=ho.shape;have HO:=hid ho;have FR:=hid fr;have HG:=hid hg;have a1:=fr.size;simp only[World.size_alloc]at a1;clear ho fr hg;by_cases L:k<l.length
  ·obtain⟨q,off,Y,cx,he,hx,hc,a0⟩:=H.out.get L;injection he with e1 e2 e3;subst e1;subst e3;have f:=hid (Zzj L);have b:=Nat.le_trans (T.length_le (Zx8 (l.take (k+1)))) (Nat.le_trans (Zyl _) (T.bulks_take_le l (k+1)));obtain⟨x,P⟩:∃x,l[k]=x:=⟨_,rfl⟩;rw[P]at hx f;obtain⟨k',s',C,Q,R,U,a',c',B,rfl,D⟩:=hx.open';obtain⟨d0,d1,d2,d3,d4,d5,d6,d7,d8⟩:=(hc.fr (((Fr.refl nob w).alloc _).trans' FR.out) (fun x=>x)).nine;rw[f.out,List.length_append]at b;have V:=hid hx;have W:=hid D;clear hx D e2 hc P;by_cases k3:k'=3
   ·have A:x.armT=C:=by rw[B];simp[T.armT,T.kind,T.parts,k3]
    rw[A]at f b;have t:(Zx8 (l.take k)).length+C.length≤3000000:=by omega
    subst k3;clear A b;go_wp2_with(at_builtin;refine wpList_append_t (S:=SRo O w) rfl (.tmp 16) (.tmp 21) rfl (Zx8 (l.take k)) C _ _ g (by rfl) (HO.out.on (Fr.refl _ _)) (by rfl) (ZzA W.out (((Fr.refl nob w).alloc _).trans' FR.out) HG.out) (fun k hk=>by rcases hk with hk|hk;(have:=hO k hk;omega);omega) t ?_;intro v' w3 g' d o p;obtain⟨X,Z,m⟩:=d.shape;simp only[List.length_append,List.length_singleton]at m;subst m;have G:=hid d;have E:=hid o;have F:=hid p;clear d o p);go_roundw
    case rel=>exact⟨k+1,g',by go_num,by omega,by rw[f.out];exact G.out,FR.out.trans E.out (fun i hi x=>by have:=HG.out i x;simp at hi;omega),fun j hj=>by
     rcases F.out j hj with h|h
     ·exact HG.out j h
     ·first|omega|(simp only[World.size_alloc]at h;omega)⟩
    case measure=>simp[intOf];omega
   have a5:(k'==3)=false:=by simpa using k3
   have A:x.armT=[x]:=by rw[B];simp[T.armT,T.kind,k3]
   rw[A]at f b;have t:(Zx8 (l.take k)).length+[x].length≤3000000:=by omega
   clear A b B k3;go_wp2_with(at_builtin;refine wpList_append_t (S:=SRo O w) rfl (.tmp 23) (.tmp 28) rfl (Zx8 (l.take k)) [x] _ _ g (by rfl) (HO.out.on ((Fr.refl _ _).alloc _)) (by rfl) (ST.one (ZzB V.out (((Fr.refl nob w).alloc _).trans' FR.out) HG.out) (fun k hk=>by rcases hk with(hk|hk)|hk;(have:=hO k hk;omega);omega;exact HO.out.lt k hk) _ rfl) (fun k hk=>by rcases hk with hk|hk;(have:=hO k hk;simp;omega);simp;omega) t ?_;intro v' w3 g' d o p;obtain⟨X,Z,m⟩:=d.shape;simp only[List.length_append,List.length_singleton]at m;subst m;have G:=hid d;have E:=hid o;have F:=hid p;clear d o p);go_roundw
   case rel=>exact⟨k+1,g',by go_num,by omega,by rw[f.out];exact G.out,(FR.out.alloc _).trans E.out (fun i hi x=>by have:=HG.out i x;simp at hi;omega),fun j hj=>by
    rcases F.out j hj with h|h
    ·exact HG.out j h
    ·first|omega|(simp only[World.size_alloc]at h;omega)⟩
   case measure=>simp[intOf];omega
  ·obtain rfl:k=l.length:=by omega
   have hT:=List.take_of_length_le (l:=l) (Nat.le_refl _);have hO:=HO.out;rw[hT]at hO⊢;have I:=hid hO.st;have hr:=FR.out.heap (heap_alloc_new _ _) (fun x=>x);obtain⟨z0,z1,z2,z3,z4,z5,z6,z7,z8⟩:=C9.of hr;obtain⟨q0,q1,q2,q3,q4,q5,q6,q7,q8⟩:=Zym hr;have HR:=hid hr;have FW:=hid (((Fr.refl nob w).alloc _).trans' FR.out);obtain⟨ps,J⟩:∃ps,Zx8 l=ps:=⟨_,rfl⟩;rw[J]at I M⊢;have HJ:=hid (show Zyd l=Zyv 3 ps by unfold Zyd;rw[J]);clear hT hO hr HO J
   match ps with
   |[]=>
    go_wp2;(try simp only[Exit.inBlock,Exit.then]);refine bodyPost_ret (results_T (k:=0) (s:=S4.zero) (v:=.slice none 0 0) (mn:=0) (mx:=0) (nu:=0) rfl rfl (Zf HR.out _ _ _ _ _ _ _ _ _)) rfl ⟨_,rfl,?_,Zjh FW.out (Nat.le_refl _) _ _ _ _ _ _ _ _ _⟩;rw[HJ.out];exact Zw0.2 ⟨_,rfl,.inl ⟨⟨none,0,rfl⟩,rfl⟩⟩
   |[x]=>
    obtain⟨q,off,Y,cx,he,hx,hc,a0⟩:=I.out.get (k:=0) (by simp);injection he with e1 e2 e3;subst e1;subst e3;have K:RT (SRo O w) wr x cx:=hx;obtain⟨k',s',C,Q,R,U,a',c',B,rfl,D⟩:=K.open';simp only[Nat.zero_mul,Nat.add_zero]at hc;obtain⟨d0,d1,d2,d3,d4,d5,d6,d7,d8⟩:=hc.nine;have HX:=hid K;clear hx K D hc e2 B;simp only[List.length_cons,List.length_nil,Nat.zero_add];go_wp2;(try simp only[Exit.inBlock,Exit.then]);refine bodyPost_ret (results_T (k:=k') (s:=s') (v:=.slice a' C.length c') (mn:=Q) (mx:=R) (nu:=U) rfl rfl (Zf HR.out _ _ _ _ _ _ _ _ _)) rfl ⟨_,rfl,?_,Zjh FW.out (Nat.le_refl _) _ _ _ _ _ _ _ _ _⟩;rw[HJ.out];exact RT.keep (Zas _ _ _ _ _ _ _ _ _) (fun k _ e=>.inr e) (fun _ _ x=>.inl x) _ _ HX.out
   |x::y::r=>
    have N:=M.out;obtain⟨n,hn⟩:∃n,(x::y::r).length=n:=⟨_,rfl⟩;have a3:¬(n:Int)=0:=by rw[←hn];simp;omega
    have a4:¬(n:Int)=1:=by rw[←hn];simp;omega
    have HN:=hid hn;rw[hn]at N⊢;clear hn;go_wp2;(try simp only[Exit.inBlock,Exit.then]);refine bodyPost_ret (results_T (k:=3) (s:=S4.zero) (v:=.slice av n cv) (mn:=0) (mx:=0) (nu:=0) rfl rfl (Zf HR.out _ _ _ _ _ _ _ _ _)) rfl ⟨_,rfl,?_,Zjh FW.out (Nat.le_refl _) _ _ _ _ _ _ _ _ _⟩;rw[HJ.out];refine Zw0.2 ⟨_,rfl,?_⟩;have hs:=I.out;rw[HN.out]at hs;exact hs.keep (Zas _ _ _ _ _ _ _ _ _) (fun k _ e=>.inr e) (fun _ _ x=>.inl x)
theorem ZzD(l:List Nd):Zyv 2 (Nd.rfs l)=(Zd3 l (.cat l)).rf:=by
 match l with
 |[]=>rfl
 |[x]=>rfl
 |x::y::r=>rfl
theorem ZyV(l:List Nd):Zyv 3 (Nd.rfs l)=(Zd3 l (.alt l)).rf:=by
 match l with
 |[]=>rfl
 |[x]=>rfl
 |x::y::r=>rfl
theorem Zx7(l m:List Nd):Nd.rfs (l++m)=Nd.rfs l++Nd.rfs m:=by simp only[Nd.rfs_eq,List.map_append]
theorem ZAi(n:Nd):n.rf.partT=Nd.rfs n.part:=by cases n<;>rfl
theorem ZAF(n:Nd):n.rf.armT=Nd.rfs n.arm:=by cases n<;>rfl
theorem ZzE(l:List Nd):ZxZ (Nd.rfs l)=Nd.rfs (parts l):=by
 induction l with
 |nil=>rfl
 |cons t ts ih=>rw[Nd.rfs,ZxZ,parts,ZAi,ih,Zx7]
theorem ZzQ(l:List Nd):Zx8 (Nd.rfs l)=Nd.rfs (arms l):=by
 induction l with
 |nil=>rfl
 |cons t ts ih=>rw[Nd.rfs,Zx8,arms,ZAF,ih,Zx7]
theorem ZzR(l:List Nd):ZyA (Nd.rfs l)=(Za2 l).rf:=by unfold ZyA Za2;rw[ZzE,ZzD]
theorem Zzk(l:List Nd):Zyd (Nd.rfs l)=(Za3 l).rf:=by unfold Zyd Za3;rw[ZzQ,ZyV]
end
end Go.Proofs.YtgllcniibbaoaaaGreatDoor
