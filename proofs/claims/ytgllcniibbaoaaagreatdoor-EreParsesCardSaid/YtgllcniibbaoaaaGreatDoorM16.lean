/- Lemmas of this claim. -/
import Derived.Test.YtgllcniibbaoaaaGreatDoorM12
set_option linter.all false
set_option maxRecDepth 100000
set_option maxHeartbeats 4000000
namespace Go.Proofs.YtgllcniibbaoaaaGreatDoor
open Go.RowKit
def T.kind:T→Int| .mk k _ _ _ _ _=>k
def T.parts:T→List T| .mk _ _ ps _ _ _=>ps
def T.zero:T:=.mk 0 S4.zero [] 0 0 0
def T.of(t:T):T:=match t.parts with
 |[]=>T.zero
 |x::_=>x
def T.kids(t:T):List T:=if t.kind=2∨t.kind=3 then t.parts else if t.kind=4∨t.kind=5 then[t.of]else[]
mutual
def T.bulk:T→Nat
 | .mk _ _ ps _ _ _=>1+T.bulks ps
def T.bulks:List T→Nat
 |[]=>0
 |t::ts=>t.bulk+T.bulks ts
end
mutual
def T.known:T→Bool
 | .mk k _ ps _ _ _=>(!(decide (k<0)||decide (8<k)))&&T.knowns ps
def T.knowns:List T→Bool
 |[]=>true
 |t::ts=>t.known&&T.knowns ts
end
mutual
def T.nd:T→Nd
 | .mk k s ps mn mx nu=>if k=1 then .one s else if k=2 then .cat (T.nds ps)else if k=3 then .alt (T.nds ps)else if k=4 then .rep (T.nd1 ps) mn mx
   else if k=5 then .group nu (T.nd1 ps)else if k=6 then .back nu else if k=7 then .start else if k=8 then .fin else .empty
def T.nds:List T→List Nd
 |[]=>[]
 |t::ts=>t.nd::T.nds ts
def T.nd1:List T→Nd
 |[]=>.empty
 |t::_=>t.nd
end
theorem T.bulk_pos(t:T):1≤t.bulk:=by cases t;simp only[T.bulk];omega
theorem T.bulk_parts(t:T):t.bulk=1+T.bulks t.parts:=by cases t;rfl
theorem T.bulks_append(l m:List T):T.bulks (l++m)=T.bulks l+T.bulks m:=by
 induction l with
 |nil=>simp[T.bulks]
 |cons t ts ih=>simp only[List.cons_append,T.bulks,ih];omega
theorem T.length_le(l:List T):l.length≤T.bulks l:=by
 induction l with
 |nil=>simp
 |cons t ts ih=>have:=t.bulk_pos;simp only[List.length_cons,T.bulks];omega
theorem T.bulks_take_le(l:List T)(k:Nat):T.bulks (l.take k)≤T.bulks l:=by
 have:=T.bulks_append (l.take k) (l.drop k);rw[List.take_append_drop]at this;omega
theorem T.nds_eq(l:List T):T.nds l=l.map T.nd:=by
 induction l with
 |nil=>rfl
 |cons t ts ih=>simp only[T.nds,List.map_cons,ih]
theorem T.kids_nd(t:T):t.nd.kids=t.kids.map T.nd:=by
 cases t with
 |mk k s ps mn mx nu=>
  have h1:T.nd1 ps=(T.of (.mk k s ps mn mx nu)).nd:=by cases ps<;>rfl
  simp only[T.nd,T.kids,T.kind,T.parts,h1,T.nds_eq];by_cases a1:k=1
  ·simp[a1,Nd.kids]
  by_cases a2:k=2
  ·simp[a2,Nd.kids]
  by_cases a3:k=3
  ·simp[a3,Nd.kids]
  by_cases a4:k=4
  ·simp[a4,Nd.kids]
  by_cases a5:k=5
  ·simp[a5,Nd.kids]
  by_cases a6:k=6
  ·simp[a6,Nd.kids]
  by_cases a7:k=7
  ·simp[a7,Nd.kids]
  by_cases a8:k=8
  ·simp[a8,Nd.kids]
  simp[a1,a2,a3,a4,a5,a6,a7,a8,Nd.kids]
theorem RT.open'{S:Nat→Prop}{w:World}{t:T}{cs:List Value}(h:RT S w t cs):∃k s ps mn mx nu a c,t=.mk k s ps mn mx nu∧
 cs=[.int .i64 k,.int .u64 s.a,.int .u64 s.b,.int .u64 s.c,.int .u64 s.d,.slice a ps.length c,.int .i64 mn,.int .i64 mx,.int .i64 nu]∧ST S w ps (.slice a ps.length c):=by
 cases t with
 |mk k s ps mn mx nu=>
  rw[Zw0]at h;obtain⟨v,rfl,h⟩:=h;rcases h with⟨⟨a,c,rfl⟩,rfl⟩|⟨g,off,e,rfl,hc,h⟩
  ·exact⟨k,s,[],mn,mx,nu,a,c,rfl,rfl,.inl ⟨⟨a,c,rfl⟩,rfl⟩⟩
  ·exact⟨k,s,ps,mn,mx,nu,_,e,rfl,rfl,.inr ⟨g,off,e,rfl,hc,h⟩⟩
theorem RTs.get{S:Nat→Prop}{w:World}{g:Nat}:∀{l:List T} {off:Nat},RTs S w l g off→∀{k:Nat} (hk:k<l.length),∃cs,RT S w l[k] cs∧At w g (off+k*9) cs∧g<w.heap.size
 |[],_,_,k,hk=>by simp at hk
 |t::ts,off,h,k,hk=>by
  rw[RTs]at h;obtain⟨_,hg,⟨cs,h1,h2⟩,h⟩:=h;cases k with
  |zero=>exact⟨cs,h1,by simpa using h2,hg⟩
  |succ k=>
   obtain⟨cs',h3,h4,h5⟩:=RTs.get h (k:=k) (by simpa using hk);exact⟨cs',by simpa using h3,by rwa[show off+(k+1)*9=off+9+k*9 by omega],h5⟩
theorem ST.get{S:Nat→Prop}{w:World}{l:List T}{u:Value}(h:ST S w l u){k:Nat}(hk:k<l.length):∃g off cap cs,u=.slice (some ⟨g,off,none⟩) l.length cap∧RT S w l[k] cs∧At w g (off+k*9) cs∧g<w.heap.size:=by
 rcases h with⟨_,rfl⟩|⟨g,off,cap,rfl,_,h⟩
 ·simp at hk
 ·obtain⟨cs,h1,h2,h3⟩:=h.get hk;exact⟨g,off,cap,cs,rfl,h1,h2,h3⟩
theorem ST.shape{S:Nat→Prop}{w:World}{l:List T}{u:Value}(h:ST S w l u):∃a c,u=.slice a l.length c:=by
 rcases h with⟨⟨a,c,rfl⟩,rfl⟩|⟨g,off,b,rfl,_⟩
 ·exact⟨_,_,rfl⟩
 ·exact⟨_,_,rfl⟩
theorem At.nine{w:World}{g off:Nat}{a b c d e f h i j:Value}(H:At w g off [a,b,c,d,e,f,h,i,j]):
 w.cell? ⟨g,off,none⟩=some a∧w.cell? ⟨g,off+1,none⟩=some b∧w.cell? ⟨g,off+2,none⟩=some c∧w.cell? ⟨g,off+3,none⟩=some d∧w.cell? ⟨g,off+4,none⟩=some e∧
 w.cell? ⟨g,off+5,none⟩=some f∧w.cell? ⟨g,off+6,none⟩=some h∧w.cell? ⟨g,off+7,none⟩=some i∧w.cell? ⟨g,off+8,none⟩=some j:=
 ⟨H 0 _ rfl,H 1 _ rfl,H 2 _ rfl,H 3 _ rfl,H 4 _ rfl,H 5 _ rfl,H 6 _ rfl,H 7 _ rfl,H 8 _ rfl⟩
theorem T.knowns_mem{l:List T}(h:T.knowns l=true){t:T}(ht:t∈l):t.known=true:=by
 induction l with
 |nil=>simp at ht
 |cons a r ih=>
  simp only[T.knowns,Bool.and_eq_true]at h;rcases List.mem_cons.1 ht with rfl|ht
  ·exact h.1
  ·exact ih h.2 ht
open Go.Lib (hid)
def nine(k:Int)(s:S4)(v:Value)(mn mx nu:Int):List Value:=[.int .i64 k,.int .u64 s.a,.int .u64 s.b,.int .u64 s.c,.int .u64 s.d,v,.int .i64 mn,.int .i64 mx,.int .i64 nu]
theorem ZxL{w:World}{b:Nat}{k:Int}{s:S4}{v:Value}{mn mx nu:Int}{T:TypeId}(h:w.heap[b]? =some (.cells (nine k s v mn mx nu).toArray T (0,0))):At w b 0 (nine k s v mn mx nu):=by
 intro j u hj;exact cell_at h (by simpa using hj)
theorem results_T{fn:Func}{p:Tmp}(h:fn.results= #[.cell p 36]){tmps:Array Value}{r:Nat}(ht:tmps.getD p undef=.pointer (some ⟨r,0,none⟩)){W:World}{k:Int}{s:S4}{v:Value}{mn mx nu:Int}
 (hb:W.heap[r]? =some (.cells (nine k s v mn mx nu).toArray 36 (0,0))):(results fn tmps).run Tryz.prog W=.ok (.agg (nine k s v mn mx nu).toArray) W:=by
 obtain⟨c0,c1,c2,c3,c4,c5,c6,c7,c8⟩:=(ZxL hb).nine;simp only[Nat.zero_add]at c1 c2 c3 c4 c5 c6 c7 c8;have a:tmps[p]?.getD undef=.pointer (some ⟨r,0,none⟩):=by rw[←ht];simp
 simp only[results,h];simp[a,go_sem,c0,c1,c2,c3,c4,c5,c6,c7,c8,nine]
theorem of_T(t:T)(cs:List Value)(w:World)(h:RT nob w t cs):
 Calls Tryz.prog 101 #[.agg cs.toArray] w fun e w'=>∃cs',e=.returned (.agg cs'.toArray)∧RT nob w' t.of cs'∧Fr nob w w':=by
 obtain⟨kd,s,ps,mn,mx,nu,a,c,rfl,rfl,hs⟩:=h.open';have H:=hid hs;clear h hs;cases ps with
 |nil=>
  have H0:=H.out;go_enter Tryz.func101,Tryz.ntmps101;go_wp2;(try simp only[Exit.inBlock,Exit.then]);refine bodyPost_ret (results_T (k:=0) (s:=S4.zero) (v:=.slice none 0 0) (mn:=0) (mx:=0) (nu:=0) rfl rfl (heap_alloc_new' _ _ _ (by simp))) rfl ⟨_,rfl,?_,((Fr.refl _ _).alloc _).alloc _⟩;show RT nob _ T.zero _;unfold T.zero;rw[Zw0];exact⟨_,rfl,.inl ⟨⟨none,0,rfl⟩,rfl⟩⟩
 |cons x r=>
  obtain⟨g,off,o,cx,he,hx,hc,p⟩:=H.out.get (k:=0) (by simp);injection he with e1 e2 e3;subst e1;subst e3;have d:RT nob w x cx:=hx;obtain⟨k',s',n,j,l,m,a',c',u,rfl,i⟩:=d.open';simp only[Nat.zero_mul,Nat.add_zero]at hc;obtain⟨d0,d1,d2,d3,d4,d5,d6,d7,d8⟩:=hc.nine;have HX:=hid d;clear hx d i hc e2;obtain⟨f,b⟩:∃f,(x::r).length=f:=⟨_,rfl⟩;have q:0<f:=by rw[←b];simp
  rw[b];clear b;go_enter Tryz.func101,Tryz.ntmps101;go_wp2;(try simp only[Exit.inBlock,Exit.then]);refine bodyPost_ret (results_T (k:=k') (s:=s') (v:=.slice a' n.length c') (mn:=j) (mx:=l) (nu:=m) rfl rfl (heap_alloc_new' _ _ _ (by simp))) rfl ⟨_,rfl,?_,((Fr.refl _ _).alloc _).alloc _⟩;exact HX.out.on (((Fr.refl _ _).alloc _).alloc _)
theorem ST.one{S:Nat→Prop}{w:World}{t:T}{cs:List Value}{b:Nat}(h:RT S w t cs)(hS:∀k,S k→k<w.heap.size)(e:TypeId)(hb:b=w.heap.size):ST S (w.alloc (.cells cs.toArray e)) [t] (.slice (some ⟨b,0,none⟩) 1 1):=by
 subst hb;refine .inr ⟨_,_,_,rfl,by simp,?_⟩;rw[RTs];exact⟨fun x=>by have:=hS _ x;omega,by simp,⟨cs,h.on ((Fr.refl _ _).alloc _),by have:=At.new w cs.toArray e rfl;simpa using this⟩,by rw[RTs];trivial⟩
theorem kids_T(t:T)(cs:List Value)(w:World)(h:RT nob w t cs):
 Calls Tryz.prog 60 #[.agg cs.toArray] w fun e w'=>∃u,e=.returned u∧ST nob w' t.kids u∧Fr nob w w':=by
 obtain⟨kd,s,ps,mn,mx,nu,a,c,ht,rfl,hs⟩:=h.open';have H:=hid hs;have HT:=hid h;clear h hs;by_cases h2:kd=2
 ·have hk:t.kids=ps:=by rw[ht];simp[T.kids,T.kind,T.parts,h2]
  rw[hk];subst h2;clear ht hk;go_enter Tryz.func60,Tryz.ntmps60;go_wp2;go_ret;exact⟨_,rfl,H.out.on ((Fr.refl _ _).alloc _),(Fr.refl _ _).alloc _⟩
 by_cases h3:kd=3
 ·have hk:t.kids=ps:=by rw[ht];simp[T.kids,T.kind,T.parts,h3]
  rw[hk];subst h3;clear ht hk;go_enter Tryz.func60,Tryz.ntmps60;go_wp2;go_ret;exact⟨_,rfl,H.out.on ((Fr.refl _ _).alloc _),(Fr.refl _ _).alloc _⟩
 by_cases b:kd=4∨kd=5
 ·have hk:t.kids=[t.of]:=by rw[ht];simp[T.kids,T.kind,h2,h3,b]
  rw[hk];clear ht hk;rcases b with rfl|rfl
  all_goals
   go_enter Tryz.func60,Tryz.ntmps60;go_wp2_with fail;refine(of_T t _ _ (HT.out.on ((Fr.refl _ _).alloc _))).mono ?_;rintro e w1 ⟨g,rfl,hr,f1⟩;obtain⟨k',s',l,i,j,k,a',c',d,rfl,f⟩:=hr.open';have HR:=hid hr;have F1:=hid f1;clear hr f1 f d;go_wp2;go_ret;exact⟨_,rfl,ST.one HR.out (fun _ x=>x.elim) _ rfl,(((Fr.refl _ _).alloc _).trans' F1.out).alloc _⟩
 ·have hk:t.kids=[]:=by rw[ht];simp[T.kids,T.kind,h2,h3,b]
  rw[hk];have h4:kd≠4:=fun e=>b (.inl e);have h5:kd≠5:=fun e=>b (.inr e);clear ht hk b;go_enter Tryz.func60,Tryz.ntmps60;go_wp2;go_ret;exact⟨_,rfl,.inl ⟨⟨none,0,rfl⟩,rfl⟩,(Fr.refl _ _).alloc _⟩
def Old(w:World):Nat→Prop:=fun k=>k<w.heap.size
def LS2(S:Nat→Prop)(g:Option Nat):Nat→Prop:=fun k=>S k∨g=some k
theorem T.kid_at(t:T){k:Nat}(h:k<t.kids.length)(h':k<t.nd.kids.length):t.nd.kids[k]=t.kids[k].nd:=by
 have:t.nd.kids[k]? =(t.kids[k]?).map T.nd:=by rw[t.kids_nd,List.getElem?_map]
 rw[List.getElem?_eq_getElem h',List.getElem?_eq_getElem h]at this;simpa using this
theorem T.kids_len(t:T):t.nd.kids.length=t.kids.length:=by rw[t.kids_nd,List.length_map]
end Go.Proofs.YtgllcniibbaoaaaGreatDoor
