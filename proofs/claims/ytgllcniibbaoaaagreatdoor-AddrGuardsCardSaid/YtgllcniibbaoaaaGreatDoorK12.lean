/- Lemmas of this claim. -/
import Derived.Deep.RegionLaw
import Derived.Laws.OwnMore
import Derived.Test.YtgllcniibbaoaaaGreatDoorK01
set_option linter.all false
set_option maxRecDepth 100000
set_option maxHeartbeats 24000000
namespace Go.Proofs.YtgllcniibbaoaaaGreatDoor
open Go.RowKit
section
variable {P:Program}
theorem ZC{x a:TypeId}{fs:Array Field}(h:P.underlying a=some (.struct fs))(v:Value)(w:World):
 (Instr.typeAssert (.iface a v) x a true).run P w=.ok (.tuple #[v,.bool true]) w:=by
 simp[Instr.typeAssert,run_underlying h]
theorem Zz{x a t:TypeId}{fs:Array Field}(h:P.underlying a=some (.struct fs)){z:Value}(hz:∀w,(zeroValue a).run P w=.ok z w)(ht:t≠a)(v:Value)(w:World):
 (Instr.typeAssert (.iface t v) x a true).run P w=.ok (.tuple #[z,.bool false]) w:=by
 simp[Instr.typeAssert,run_underlying h,ht,hz]
theorem ZD{x a:TypeId}{fs:Array Field}(h:P.underlying a=some (.struct fs)){z:Value}(hz:∀w,(zeroValue a).run P w=.ok z w)(w:World):
 (Instr.typeAssert .nilIface x a true).run P w=.ok (.tuple #[z,.bool false]) w:=by
 simp[Instr.typeAssert,run_underlying h,hz]
end
theorem ZfO(v:Value)(w:World):(Instr.typeAssert (.iface 180 v) 24 180 true).run Tryz.prog w=.ok (.tuple #[v,.bool true]) w:=ZC Tryz.underlying180 v w
theorem Zfb(t:TypeId)(v:Value)(w:World)(h:t≠180):(Instr.typeAssert (.iface t v) 24 180 true).run Tryz.prog w=.ok (.tuple #[.agg #[],.bool false]) w:=Zz Tryz.underlying180 (fun _=>by kernel_rfl) h v w
attribute [go_sem] ZfO Zfb
theorem Zi6(v:Value)(w:World):(Instr.typeAssert (.iface 134 v) 24 134 true).run Tryz.prog w=.ok (.tuple #[v,.bool true]) w:=ZC Tryz.underlying134 v w
theorem Zg9(t:TypeId)(v:Value)(w:World)(h:t≠134):(Instr.typeAssert (.iface t v) 24 134 true).run Tryz.prog w=.ok (.tuple #[.agg #[.int .u64 0,.int .u64 0,.int .u64 0,.int .u64 0],.bool false]) w:=Zz Tryz.underlying134 (fun _=>by kernel_rfl) h v w
theorem Zi7(w:World):(Instr.typeAssert .nilIface 24 134 true).run Tryz.prog w=.ok (.tuple #[.agg #[.int .u64 0,.int .u64 0,.int .u64 0,.int .u64 0],.bool false]) w:=ZD Tryz.underlying134 (fun _=>by kernel_rfl) w
attribute [go_sem] Zi6 Zg9 Zi7
theorem Zi8(v:Value)(w:World):(Instr.typeAssert (.iface 75 v) 24 75 true).run Tryz.prog w=.ok (.tuple #[v,.bool true]) w:=ZC Tryz.underlying75 v w
theorem Zha(t:TypeId)(v:Value)(w:World)(h:t≠75):(Instr.typeAssert (.iface t v) 24 75 true).run Tryz.prog w=.ok (.tuple #[.agg #[.slice none 0 0],.bool false]) w:=Zz Tryz.underlying75 (fun _=>by kernel_rfl) h v w
theorem Zi9(w:World):(Instr.typeAssert .nilIface 24 75 true).run Tryz.prog w=.ok (.tuple #[.agg #[.slice none 0 0],.bool false]) w:=ZD Tryz.underlying75 (fun _=>by kernel_rfl) w
attribute [go_sem] Zi8 Zha Zi9
theorem Zja(v:Value)(w:World):(Instr.typeAssert (.iface 86 v) 24 86 true).run Tryz.prog w=.ok (.tuple #[v,.bool true]) w:=ZC Tryz.underlying86 v w
theorem Zhb(t:TypeId)(v:Value)(w:World)(h:t≠86):(Instr.typeAssert (.iface t v) 24 86 true).run Tryz.prog w=.ok (.tuple #[.agg #[.slice none 0 0],.bool false]) w:=Zz Tryz.underlying86 (fun _=>by kernel_rfl) h v w
theorem Zjb(w:World):(Instr.typeAssert .nilIface 24 86 true).run Tryz.prog w=.ok (.tuple #[.agg #[.slice none 0 0],.bool false]) w:=ZD Tryz.underlying86 (fun _=>by kernel_rfl) w
attribute [go_sem] Zja Zhb Zjb
theorem Zjc(v:Value)(w:World):(Instr.typeAssert (.iface 137 v) 24 137 true).run Tryz.prog w=.ok (.tuple #[v,.bool true]) w:=ZC Tryz.underlying137 v w
theorem Zhc(t:TypeId)(v:Value)(w:World)(h:t≠137):(Instr.typeAssert (.iface t v) 24 137 true).run Tryz.prog w=.ok (.tuple #[.agg #[.nilIface,.int .i64 0,.int .i64 0],.bool false]) w:=Zz Tryz.underlying137 (fun _=>by kernel_rfl) h v w
theorem Zjd(w:World):(Instr.typeAssert .nilIface 24 137 true).run Tryz.prog w=.ok (.tuple #[.agg #[.nilIface,.int .i64 0,.int .i64 0],.bool false]) w:=ZD Tryz.underlying137 (fun _=>by kernel_rfl) w
attribute [go_sem] Zjc Zhc Zjd
theorem ZfQ(v:Value)(w:World):(Instr.typeAssert (.iface 127 v) 24 127 true).run Tryz.prog w=.ok (.tuple #[v,.bool true]) w:=ZC Tryz.underlying127 v w
theorem Zfc(t:TypeId)(v:Value)(w:World)(h:t≠127):(Instr.typeAssert (.iface t v) 24 127 true).run Tryz.prog w=.ok (.tuple #[.agg #[.int .i64 0,.nilIface],.bool false]) w:=Zz Tryz.underlying127 (fun _=>by kernel_rfl) h v w
theorem ZfR(w:World):(Instr.typeAssert .nilIface 24 127 true).run Tryz.prog w=.ok (.tuple #[.agg #[.int .i64 0,.nilIface],.bool false]) w:=ZD Tryz.underlying127 (fun _=>by kernel_rfl) w
attribute [go_sem] ZfQ Zfc ZfR
theorem Zhd(v:Value)(w:World):(Instr.typeAssert (.iface 116 v) 24 116 true).run Tryz.prog w=.ok (.tuple #[v,.bool true]) w:=ZC Tryz.underlying116 v w
theorem ZfS(t:TypeId)(v:Value)(w:World)(h:t≠116):(Instr.typeAssert (.iface t v) 24 116 true).run Tryz.prog w=.ok (.tuple #[.agg #[.int .i64 0],.bool false]) w:=Zz Tryz.underlying116 (fun _=>by kernel_rfl) h v w
theorem Zhe(w:World):(Instr.typeAssert .nilIface 24 116 true).run Tryz.prog w=.ok (.tuple #[.agg #[.int .i64 0],.bool false]) w:=ZD Tryz.underlying116 (fun _=>by kernel_rfl) w
attribute [go_sem] Zhd ZfS Zhe
theorem ZfT(v:Value)(w:World):(Instr.typeAssert (.iface 139 v) 24 139 true).run Tryz.prog w=.ok (.tuple #[v,.bool true]) w:=ZC Tryz.underlying139 v w
theorem Zfd(t:TypeId)(v:Value)(w:World)(h:t≠139):(Instr.typeAssert (.iface t v) 24 139 true).run Tryz.prog w=.ok (.tuple #[.agg #[],.bool false]) w:=Zz Tryz.underlying139 (fun _=>by kernel_rfl) h v w
theorem ZfU(w:World):(Instr.typeAssert .nilIface 24 139 true).run Tryz.prog w=.ok (.tuple #[.agg #[],.bool false]) w:=ZD Tryz.underlying139 (fun _=>by kernel_rfl) w
attribute [go_sem] ZfT Zfd ZfU
theorem Zje(v:Value)(w:World):(Instr.typeAssert (.iface 140 v) 24 140 true).run Tryz.prog w=.ok (.tuple #[v,.bool true]) w:=ZC Tryz.underlying140 v w
theorem Zhf(t:TypeId)(v:Value)(w:World)(h:t≠140):(Instr.typeAssert (.iface t v) 24 140 true).run Tryz.prog w=.ok (.tuple #[.agg #[],.bool false]) w:=Zz Tryz.underlying140 (fun _=>by kernel_rfl) h v w
theorem Zjf(w:World):(Instr.typeAssert .nilIface 24 140 true).run Tryz.prog w=.ok (.tuple #[.agg #[],.bool false]) w:=ZD Tryz.underlying140 (fun _=>by kernel_rfl) w
attribute [go_sem] Zje Zhf Zjf
open Go.Lib (hid)
def Nd.told:Nd→Nd
 | .nil=>.empty
 |n=>n
theorem told_any2(S:Nat→Prop)(n:Nd)(v:Value)(w:World)(h:RN S w n v):Calls Tryz.prog 88 #[v] w fun e w'=>∃u,e=.returned u∧RN S w n.told u∧(v=.nilIface∨u=v)∧w=w':=by
 rcases h.shape with rfl|⟨i,x,rfl⟩
 ·have hn:n=.nil:=by cases n<;>rw[RN]at h<;>first|rfl|(cases h;done)|(obtain⟨_,h,_⟩:=h;cases h)
  subst hn;have H:=hid h;clear h;go_enter Tryz.func88,Tryz.ntmps88;go_wp2;go_ret;exact⟨_,rfl,by rw[Nd.told,RN];rfl,by simp,rfl⟩
 ·have hn:n.told=n:=by cases n<;>first|rfl|(rw[RN]at h;cases h)
  have H:=hid h;clear h;have HN:=hid hn;clear hn;go_enter Tryz.func88,Tryz.ntmps88;go_wp2;go_ret;exact⟨_,rfl,by rw[HN.out];exact H.out,by simp,rfl⟩
theorem told_any(S:Nat→Prop)(n:Nd)(v:Value)(w:World)(h:RN S w n v):Calls Tryz.prog 88 #[v] w fun e w'=>∃u,e=.returned u∧RN S w n.told u∧w=w':=by
 refine(told_any2 S n v w h).mono ?_;rintro e w1 ⟨u,h1,h2,_,h3⟩;exact⟨u,h1,h2,h3⟩
def Znh(S:Nat→Prop)(w:World)(v:Value):Nd→Prop
    | .nil=>v=.nilIface
    | .empty=>v=.iface 180 (.agg #[])
    | .one s=>v=.iface 134 (.agg s.cells.toArray)
    | .cat l=>∃(a:Option Addr) (c:Nat),v=.iface 75 (.agg #[.slice a l.length c])∧SN S w l (.slice a l.length c)
    | .alt l=>∃(a:Option Addr) (c:Nat),v=.iface 86 (.agg #[.slice a l.length c])∧SN S w l (.slice a l.length c)
    | .rep x mn mx=>∃u,v=.iface 137 (.agg #[u,.int .i64 mn,.int .i64 mx])∧RN S w x u
    | .group n x=>∃u,v=.iface 127 (.agg #[.int .i64 n,u])∧RN S w x u
    | .back n=>v=.iface 116 (.agg #[.int .i64 n])
    | .start=>v=.iface 139 (.agg #[])
    | .fin=>v=.iface 140 (.agg #[])
theorem RN.kind{S:Nat→Prop}{w:World}{n:Nd}{v:Value}(h:RN S w n v):Znh S w v n:=by
 cases n with
 |cat l=>rw[ZjK]at h;obtain⟨u,rfl,h⟩:=h;obtain⟨a,c,rfl⟩:=h.shape;exact⟨a,c,rfl,h⟩
 |alt l=>rw[ZjL]at h;obtain⟨u,rfl,h⟩:=h;obtain⟨a,c,rfl⟩:=h.shape;exact⟨a,c,rfl,h⟩
 |_=>rw[RN]at h;exact h
def SI(w:World)(l:List Int)(u:Value):Prop:=(u=.slice none 0 0∧l=[])∨∃g off cap,u=.slice (some ⟨g,off,none⟩) l.length cap∧∀j x,l[j]? =some x→w.cell? ⟨g,off+j,none⟩=some (.int .i64 x)
theorem SI.get{w:World}{l:List Int}{u:Value}(h:SI w l u){k:Nat}(hk:k<l.length):∃g off cap,u=.slice (some ⟨g,off,none⟩) l.length cap∧w.cell? ⟨g,off+k,none⟩=some (.int .i64 l[k]):=by
 rcases h with⟨_,rfl⟩|⟨g,off,cap,rfl,h⟩
 ·simp at hk
 ·exact⟨g,off,cap,rfl,h k _ (List.getElem?_eq_getElem hk)⟩
theorem RN.weak{S:Nat→Prop}{w:World}{n:Nd}{u:Value}(h:RN S w n u):RN nob w n u:=RN.keep (Fr.refl nob w) (fun _ _ x=>x.elim) (fun _ _ x=>x.elim) _ _ h
theorem step_append_g{P:Program}{ops:Array Oper}{o:Oper}{a:Act}{w:World}{K:Act→World→Prop}{Q:Exit→Act→World→Prop}{E:Prop}
 (hg:o.guard=none) (s x:Operand) (t:TypeId) (hop:o.op=Op.call {callee:=Callee.builtin Builtin.append,args:= #[s,x],argTypes:= #[t,t]})
 (e:TypeId) (i:TypeInfo) (z:Value) (size bytes:Nat) (ht:P.underlying t=some (.slice e)) (hi:P.info? e=some i) (hz:i.zero=some z)
 (hsize:i.size=size) (hby:i.bytes=bytes) (hzs:z.cells.size=size) (hsz:0<size)
 (v:Value) (n:Nat) (xs:List Value) (hs:a.eval s=v) (hown:w.ownsRow 0 e size v n xs)
 (ad:Addr) (m c:Nat) (news:List Value) (hx:a.eval x=.slice (some ad) m c) (hl:news.length=m*size) (hnews:∀j u,news[j]? =some u→w.cell? (ad.add j)=some u) (h1:∀u∈news,u.oneCell'=true)
 (h63:n+m≤maxLen) (hbytes:(n+m)*bytes≤140737488355328)
 (hK:∀v' w',w'.ownsRow 0 e size v' (n+m) (xs++news)→Appd m v v' w w'→K (a.put o.dst v') w'):
 if Region.wanted o (yielded ops a.tmps)=true then Oper.wp P o a w K Q else E:=by
 have hw:Region.wanted o (yielded ops a.tmps)=true:=by simp[Region.wanted,hg]
 rw[if_pos hw];obtain⟨v',w',hr,h2,h3⟩:=Zdo (P:=P) w t o.type e i z size bytes ht hi hz hsize hby hzs hsz v n xs hown ad m c news hl hnews h1 h63 hbytes;unfold Oper.wp execOp;simp only[hop,resolve,invoke,builtin,Sem.run_bind,Sem.run_pure,Result.andThen_ok,List.map_toArray,List.map_cons,List.map_nil,hs,hx,hr];exact hK _ _ h2 h3
theorem ZuY:(Tryz.prog.info? 3).map (fun i=>(i.zero,i.size,i.bytes))=some (some (.int .i64 0),1,8):=by kernel_rfl
section
variable {b:Nat} {o:Int} {c:List Int} {g:Option Nat} {w W0 w3:World} {v v':Value} {gn:Int}
end
def LG(g:Option Nat):Nat→Prop:=fun k=>g=some k
theorem Zkl:(Tryz.prog.info? 24).map (fun i=>(i.zero,i.size,i.bytes))=some (some .nilIface,1,16):=by kernel_rfl
theorem VN.cell1{S:Nat→Prop}{w:World}:∀{l:List Nd} {vs:List Value},VN S w l vs→∀u∈vs,u.oneCell'=true
 |[],_,h,u,hu=>by rw[VN]at h;subst h;cases hu
 |t::ts,_,h,u,hu=>by
  rw[VN]at h;obtain⟨v,r,rfl,h1,h⟩:=h;rcases List.mem_cons.1 hu with rfl|hu
  ·rcases h1.shape with rfl|⟨i,x,rfl⟩<;>rfl
  ·exact VN.cell1 h u hu
def Zd3(l:List Nd)(n:Nd):Nd:=match l with
 |[]=>.empty
 |[x]=>x
 |_=>n
def Nd.part:Nd→List Nd
 | .nil| .empty=>[]
 | .cat l=>l
 |n=>[n]
def Nd.arm:Nd→List Nd
 | .alt l=>l
 |n=>[n.told]
def parts:List Nd→List Nd
 |[]=>[]
 |t::ts=>t.part++parts ts
def arms:List Nd→List Nd
 |[]=>[]
 |t::ts=>t.arm++arms ts
def Za2(l:List Nd):Nd:=Zd3 (parts l) (.cat (parts l))
def Za3(l:List Nd):Nd:=Zd3 (arms l) (.alt (arms l))
theorem Nd.part_sizes(n:Nd):Nd.sizes n.part≤n.size:=by
 cases n<;>simp only[Nd.part,Nd.sizes,Nd.size]<;>omega
theorem Nd.arm_sizes(n:Nd):Nd.sizes n.arm≤n.size:=by
 cases n<;>simp only[Nd.arm,Nd.told,Nd.sizes,Nd.size]<;>omega
theorem ZcA(l:List Nd):Nd.sizes (parts l)≤Nd.sizes l:=by
 induction l with
 |nil=>simp[parts]
 |cons t ts ih=>have:=t.part_sizes;simp only[parts,Nd.sizes,Nd.sizes_append];omega
theorem Zdf(l:List Nd):Nd.sizes (arms l)≤Nd.sizes l:=by
 induction l with
 |nil=>simp[arms]
 |cons t ts ih=>have:=t.arm_sizes;simp only[arms,Nd.sizes,Nd.sizes_append];omega
theorem ZfV(l m:List Nd):parts (l++m)=parts l++parts m:=by
 induction l with
 |nil=>rfl
 |cons t ts ih=>simp only[List.cons_append,parts,ih,List.append_assoc]
theorem Zhg(l m:List Nd):arms (l++m)=arms l++arms m:=by
 induction l with
 |nil=>rfl
 |cons t ts ih=>simp only[List.cons_append,arms,ih,List.append_assoc]
theorem Zjg{l:List Nd}{k:Nat}(h:k<l.length):parts (l.take (k+1))=parts (l.take k)++l[k].part:=by
 rw[List.take_succ_eq_append_getElem h,ZfV];simp[parts]
theorem Zkm{l:List Nd}{k:Nat}(h:k<l.length):arms (l.take (k+1))=arms (l.take k)++l[k].arm:=by
 rw[List.take_succ_eq_append_getElem h,Zhg];simp[arms]
theorem At.new{b:Nat}(w:World)(cs:Array Value)(T:TypeId)(hb:b=w.heap.size):At (w.alloc (.cells cs T)) b 0 cs.toList:=by
 subst hb;intro j v hj;exact cell_at (heap_alloc_new w _) (by simpa using hj)
mutual
def Nd.norm:Nd→Nd
 | .nil=>.empty
 | .empty=>.empty
 | .one s=>.one s
 | .cat l=>.cat (Nd.norms l)
 | .alt l=>.alt (Nd.norms l)
 | .rep x a b=>.rep x.norm a b
 | .group n x=>.group n x.norm
 | .back n=>.back n
 | .start=>.start
 | .fin=>.fin
def Nd.norms:List Nd→List Nd
 |[]=>[]
 |t::ts=>t.norm::Nd.norms ts
end
def T.kind:T→Int| .mk k _ _ _ _ _=>k
def T.parts:T→List T| .mk _ _ ps _ _ _=>ps
def T.zero:T:=.mk 0 S4.zero [] 0 0 0
def T.of(t:T):T:=match t.parts with
 |[]=>T.zero
 |x::_=>x
def T.kids(t:T):List T:=if t.kind=2∨t.kind=3 then t.parts else if t.kind=4∨t.kind=5 then[t.of]else[]
mutual
def T.bulk:T→Nat
 | .mk _ _ ps _ _ _=>1+T.bulks ps
def T.bulks:List T→Nat
 |[]=>0
 |t::ts=>t.bulk+T.bulks ts
end
mutual
def T.known:T→Bool
 | .mk k _ ps _ _ _=>(!(decide (k<0)||decide (8<k)))&&T.knowns ps
def T.knowns:List T→Bool
 |[]=>true
 |t::ts=>t.known&&T.knowns ts
end
mutual
def T.nd:T→Nd
 | .mk k s ps mn mx nu=>if k=1 then .one s else if k=2 then .cat (T.nds ps)else if k=3 then .alt (T.nds ps)else if k=4 then .rep (T.nd1 ps) mn mx
   else if k=5 then .group nu (T.nd1 ps)else if k=6 then .back nu else if k=7 then .start else if k=8 then .fin else .empty
def T.nds:List T→List Nd
 |[]=>[]
 |t::ts=>t.nd::T.nds ts
def T.nd1:List T→Nd
 |[]=>.empty
 |t::_=>t.nd
end
theorem T.bulk_pos(t:T):1≤t.bulk:=by cases t;simp only[T.bulk];omega
theorem T.bulk_parts(t:T):t.bulk=1+T.bulks t.parts:=by cases t;rfl
theorem T.bulks_append(l m:List T):T.bulks (l++m)=T.bulks l+T.bulks m:=by
 induction l with
 |nil=>simp[T.bulks]
 |cons t ts ih=>simp only[List.cons_append,T.bulks,ih];omega
theorem T.length_le(l:List T):l.length≤T.bulks l:=by
 induction l with
 |nil=>simp
 |cons t ts ih=>have:=t.bulk_pos;simp only[List.length_cons,T.bulks];omega
theorem T.bulks_take_le(l:List T)(k:Nat):T.bulks (l.take k)≤T.bulks l:=by
 have:=T.bulks_append (l.take k) (l.drop k);rw[List.take_append_drop]at this;omega
theorem T.nds_eq(l:List T):T.nds l=l.map T.nd:=by
 induction l with
 |nil=>rfl
 |cons t ts ih=>simp only[T.nds,List.map_cons,ih]
theorem T.kids_nd(t:T):t.nd.kids=t.kids.map T.nd:=by
 cases t with
 |mk k s ps mn mx nu=>
  have h1:T.nd1 ps=(T.of (.mk k s ps mn mx nu)).nd:=by cases ps<;>rfl
  simp only[T.nd,T.kids,T.kind,T.parts,h1,T.nds_eq];by_cases a1:k=1
  ·simp[a1,Nd.kids]
  by_cases a2:k=2
  ·simp[a2,Nd.kids]
  by_cases a3:k=3
  ·simp[a3,Nd.kids]
  by_cases a4:k=4
  ·simp[a4,Nd.kids]
  by_cases a5:k=5
  ·simp[a5,Nd.kids]
  by_cases a6:k=6
  ·simp[a6,Nd.kids]
  by_cases a7:k=7
  ·simp[a7,Nd.kids]
  by_cases a8:k=8
  ·simp[a8,Nd.kids]
  simp[a1,a2,a3,a4,a5,a6,a7,a8,Nd.kids]
theorem RT.open'{S:Nat→Prop}{w:World}{t:T}{cs:List Value}(h:RT S w t cs):∃k s ps mn mx nu a c,t=.mk k s ps mn mx nu∧
 cs=[.int .i64 k,.int .u64 s.a,.int .u64 s.b,.int .u64 s.c,.int .u64 s.d,.slice a ps.length c,.int .i64 mn,.int .i64 mx,.int .i64 nu]∧ST S w ps (.slice a ps.length c):=by
 cases t with
 |mk k s ps mn mx nu=>
  rw[Zw0]at h;obtain⟨v,rfl,h⟩:=h;rcases h with⟨⟨a,c,rfl⟩,rfl⟩|⟨g,off,e,rfl,hc,h⟩
  ·exact⟨k,s,[],mn,mx,nu,a,c,rfl,rfl,.inl ⟨⟨a,c,rfl⟩,rfl⟩⟩
  ·exact⟨k,s,ps,mn,mx,nu,_,e,rfl,rfl,.inr ⟨g,off,e,rfl,hc,h⟩⟩
theorem RTs.get{S:Nat→Prop}{w:World}{g:Nat}:∀{l:List T} {off:Nat},RTs S w l g off→∀{k:Nat} (hk:k<l.length),∃cs,RT S w l[k] cs∧At w g (off+k*9) cs∧g<w.heap.size
 |[],_,_,k,hk=>by simp at hk
 |t::ts,off,h,k,hk=>by
  rw[RTs]at h;obtain⟨_,hg,⟨cs,h1,h2⟩,h⟩:=h;cases k with
  |zero=>exact⟨cs,h1,by simpa using h2,hg⟩
  |succ k=>
   obtain⟨cs',h3,h4,h5⟩:=RTs.get h (k:=k) (by simpa using hk);exact⟨cs',by simpa using h3,by rwa[show off+(k+1)*9=off+9+k*9 by omega],h5⟩
theorem ST.get{S:Nat→Prop}{w:World}{l:List T}{u:Value}(h:ST S w l u){k:Nat}(hk:k<l.length):∃g off cap cs,u=.slice (some ⟨g,off,none⟩) l.length cap∧RT S w l[k] cs∧At w g (off+k*9) cs∧g<w.heap.size:=by
 rcases h with⟨_,rfl⟩|⟨g,off,cap,rfl,_,h⟩
 ·simp at hk
 ·obtain⟨cs,h1,h2,h3⟩:=h.get hk;exact⟨g,off,cap,cs,rfl,h1,h2,h3⟩
theorem ST.shape{S:Nat→Prop}{w:World}{l:List T}{u:Value}(h:ST S w l u):∃a c,u=.slice a l.length c:=by
 rcases h with⟨⟨a,c,rfl⟩,rfl⟩|⟨g,off,b,rfl,_⟩
 ·exact⟨_,_,rfl⟩
 ·exact⟨_,_,rfl⟩
theorem At.nine{w:World}{g off:Nat}{a b c d e f h i j:Value}(H:At w g off [a,b,c,d,e,f,h,i,j]):
 w.cell? ⟨g,off,none⟩=some a∧w.cell? ⟨g,off+1,none⟩=some b∧w.cell? ⟨g,off+2,none⟩=some c∧w.cell? ⟨g,off+3,none⟩=some d∧w.cell? ⟨g,off+4,none⟩=some e∧
 w.cell? ⟨g,off+5,none⟩=some f∧w.cell? ⟨g,off+6,none⟩=some h∧w.cell? ⟨g,off+7,none⟩=some i∧w.cell? ⟨g,off+8,none⟩=some j:=
 ⟨H 0 _ rfl,H 1 _ rfl,H 2 _ rfl,H 3 _ rfl,H 4 _ rfl,H 5 _ rfl,H 6 _ rfl,H 7 _ rfl,H 8 _ rfl⟩
theorem T.knowns_mem{l:List T}(h:T.knowns l=true){t:T}(ht:t∈l):t.known=true:=by
 induction l with
 |nil=>simp at ht
 |cons a r ih=>
  simp only[T.knowns,Bool.and_eq_true]at h;rcases List.mem_cons.1 ht with rfl|ht
  ·exact h.1
  ·exact ih h.2 ht
def nine(k:Int)(s:S4)(v:Value)(mn mx nu:Int):List Value:=[.int .i64 k,.int .u64 s.a,.int .u64 s.b,.int .u64 s.c,.int .u64 s.d,v,.int .i64 mn,.int .i64 mx,.int .i64 nu]
theorem ZxL{w:World}{b:Nat}{k:Int}{s:S4}{v:Value}{mn mx nu:Int}{T:TypeId}(h:w.heap[b]? =some (.cells (nine k s v mn mx nu).toArray T (0,0))):At w b 0 (nine k s v mn mx nu):=by
 intro j u hj;exact cell_at h (by simpa using hj)
theorem results_T{fn:Func}{p:Tmp}(h:fn.results= #[.cell p 36]){tmps:Array Value}{r:Nat}(ht:tmps.getD p undef=.pointer (some ⟨r,0,none⟩)){W:World}{k:Int}{s:S4}{v:Value}{mn mx nu:Int}
 (hb:W.heap[r]? =some (.cells (nine k s v mn mx nu).toArray 36 (0,0))):(results fn tmps).run Tryz.prog W=.ok (.agg (nine k s v mn mx nu).toArray) W:=by
 obtain⟨c0,c1,c2,c3,c4,c5,c6,c7,c8⟩:=(ZxL hb).nine;simp only[Nat.zero_add]at c1 c2 c3 c4 c5 c6 c7 c8;have a:tmps[p]?.getD undef=.pointer (some ⟨r,0,none⟩):=by rw[←ht];simp
 simp only[results,h];simp[a,go_sem,c0,c1,c2,c3,c4,c5,c6,c7,c8,nine]
theorem of_T(t:T)(cs:List Value)(w:World)(h:RT nob w t cs):
 Calls Tryz.prog 101 #[.agg cs.toArray] w fun e w'=>∃cs',e=.returned (.agg cs'.toArray)∧RT nob w' t.of cs'∧Fr nob w w':=by
 obtain⟨kd,s,ps,mn,mx,nu,a,c,rfl,rfl,hs⟩:=h.open';have H:=hid hs;clear h hs;cases ps with
 |nil=>
  have H0:=H.out;go_enter Tryz.func101,Tryz.ntmps101;go_wp2;(try simp only[Exit.inBlock,Exit.then]);refine bodyPost_ret (results_T (k:=0) (s:=S4.zero) (v:=.slice none 0 0) (mn:=0) (mx:=0) (nu:=0) rfl rfl (heap_alloc_new' _ _ _ (by simp))) rfl ⟨_,rfl,?_,((Fr.refl _ _).alloc _).alloc _⟩;show RT nob _ T.zero _;unfold T.zero;rw[Zw0];exact⟨_,rfl,.inl ⟨⟨none,0,rfl⟩,rfl⟩⟩
 |cons x r=>
  obtain⟨g,off,o,cx,he,hx,hc,p⟩:=H.out.get (k:=0) (by simp);injection he with e1 e2 e3;subst e1;subst e3;have d:RT nob w x cx:=hx;obtain⟨k',s',n,j,l,m,a',c',u,rfl,i⟩:=d.open';simp only[Nat.zero_mul,Nat.add_zero]at hc;obtain⟨d0,d1,d2,d3,d4,d5,d6,d7,d8⟩:=hc.nine;have HX:=hid d;clear hx d i hc e2;obtain⟨f,b⟩:∃f,(x::r).length=f:=⟨_,rfl⟩;have q:0<f:=by rw[←b];simp
  rw[b];clear b;go_enter Tryz.func101,Tryz.ntmps101;go_wp2;(try simp only[Exit.inBlock,Exit.then]);refine bodyPost_ret (results_T (k:=k') (s:=s') (v:=.slice a' n.length c') (mn:=j) (mx:=l) (nu:=m) rfl rfl (heap_alloc_new' _ _ _ (by simp))) rfl ⟨_,rfl,?_,((Fr.refl _ _).alloc _).alloc _⟩;exact HX.out.on (((Fr.refl _ _).alloc _).alloc _)
theorem ST.one{S:Nat→Prop}{w:World}{t:T}{cs:List Value}{b:Nat}(h:RT S w t cs)(hS:∀k,S k→k<w.heap.size)(e:TypeId)(hb:b=w.heap.size):ST S (w.alloc (.cells cs.toArray e)) [t] (.slice (some ⟨b,0,none⟩) 1 1):=by
 subst hb;refine .inr ⟨_,_,_,rfl,by simp,?_⟩;rw[RTs];exact⟨fun x=>by have:=hS _ x;omega,by simp,⟨cs,h.on ((Fr.refl _ _).alloc _),by have:=At.new w cs.toArray e rfl;simpa using this⟩,by rw[RTs];trivial⟩
theorem kids_T(t:T)(cs:List Value)(w:World)(h:RT nob w t cs):
 Calls Tryz.prog 60 #[.agg cs.toArray] w fun e w'=>∃u,e=.returned u∧ST nob w' t.kids u∧Fr nob w w':=by
 obtain⟨kd,s,ps,mn,mx,nu,a,c,ht,rfl,hs⟩:=h.open';have H:=hid hs;have HT:=hid h;clear h hs;by_cases h2:kd=2
 ·have hk:t.kids=ps:=by rw[ht];simp[T.kids,T.kind,T.parts,h2]
  rw[hk];subst h2;clear ht hk;go_enter Tryz.func60,Tryz.ntmps60;go_wp2;go_ret;exact⟨_,rfl,H.out.on ((Fr.refl _ _).alloc _),(Fr.refl _ _).alloc _⟩
 by_cases h3:kd=3
 ·have hk:t.kids=ps:=by rw[ht];simp[T.kids,T.kind,T.parts,h3]
  rw[hk];subst h3;clear ht hk;go_enter Tryz.func60,Tryz.ntmps60;go_wp2;go_ret;exact⟨_,rfl,H.out.on ((Fr.refl _ _).alloc _),(Fr.refl _ _).alloc _⟩
 by_cases b:kd=4∨kd=5
 ·have hk:t.kids=[t.of]:=by rw[ht];simp[T.kids,T.kind,h2,h3,b]
  rw[hk];clear ht hk;rcases b with rfl|rfl
  all_goals
   go_enter Tryz.func60,Tryz.ntmps60;go_wp2_with fail;refine(of_T t _ _ (HT.out.on ((Fr.refl _ _).alloc _))).mono ?_;rintro e w1 ⟨g,rfl,hr,f1⟩;obtain⟨k',s',l,i,j,k,a',c',d,rfl,f⟩:=hr.open';have HR:=hid hr;have F1:=hid f1;clear hr f1 f d;go_wp2;go_ret;exact⟨_,rfl,ST.one HR.out (fun _ x=>x.elim) _ rfl,(((Fr.refl _ _).alloc _).trans' F1.out).alloc _⟩
 ·have hk:t.kids=[]:=by rw[ht];simp[T.kids,T.kind,h2,h3,b]
  rw[hk];have h4:kd≠4:=fun e=>b (.inl e);have h5:kd≠5:=fun e=>b (.inr e);clear ht hk b;go_enter Tryz.func60,Tryz.ntmps60;go_wp2;go_ret;exact⟨_,rfl,.inl ⟨⟨none,0,rfl⟩,rfl⟩,(Fr.refl _ _).alloc _⟩
def Old(w:World):Nat→Prop:=fun k=>k<w.heap.size
def LS2(S:Nat→Prop)(g:Option Nat):Nat→Prop:=fun k=>S k∨g=some k
theorem T.kid_at(t:T){k:Nat}(h:k<t.kids.length)(h':k<t.nd.kids.length):t.nd.kids[k]=t.kids[k].nd:=by
 have:t.nd.kids[k]? =(t.kids[k]?).map T.nd:=by rw[t.kids_nd,List.getElem?_map]
 rw[List.getElem?_eq_getElem h',List.getElem?_eq_getElem h]at this;simpa using this
theorem T.kids_len(t:T):t.nd.kids.length=t.kids.length:=by rw[t.kids_nd,List.length_map]
def LGS(S:Nat→Prop)(g:Option Nat):Nat→Prop:=fun k=>S k∨g=some k
def OwnNS(S:Nat→Prop)(w:World)(l:List Nd)(v:Value)(g:Option Nat):Prop:=∃vs,w.ownsRow 0 24 1 v l.length vs∧VN (LGS S g) w l vs∧v.ownBlock=g
theorem OwnNS.nil(S:Nat→Prop)(w:World):OwnNS S w [] (.slice none 0 0) none:=⟨[],World.ownsRow_nil _ _ _ _,rfl,rfl⟩
theorem OwnNS.on{S:Nat→Prop}{w w':World}{l:List Nd}{v:Value}{g:Option Nat}(h:OwnNS S w l v g)(f:Fr nob w w'):OwnNS S w' l v g:=by
 obtain⟨vs,h1,h2,h3⟩:=h;exact⟨vs,ownsRow_fr h1 f (fun _ _ x=>x),h2.keep f (fun _ _ x=>x.elim) (fun _ _ x=>x),h3⟩
theorem OwnNS.shape{S:Nat→Prop}{w:World}{l:List Nd}{v:Value}{g:Option Nat}(h:OwnNS S w l v g):∃a c,v=.slice a l.length c:=by
 obtain⟨vs,h1,h2,h3⟩:=h;exact Zb h1
theorem OwnNS.sn{S:Nat→Prop}{w:World}{l:List Nd}{v:Value}{g:Option Nat}(h:OwnNS S w l v g)(hg:∀k,g=some k→¬S k):SN S w l v:=by
 obtain⟨vs,h1,h2,h3⟩:=h;exact SN.of_own h1 (h2.keep (S':=S) (Fr.refl nob w) (fun _ _ x=>x.elim) (fun _ _ x=>.inl x)) (fun k hk=>hg k (by rw[←h3];exact hk))
theorem OwnNS.lt{S:Nat→Prop}{w:World}{l:List Nd}{v:Value}{g:Option Nat}(h:OwnNS S w l v g):∀k,g=some k→k<w.heap.size:=by
 intro k hk;obtain⟨vs,a,_,hg⟩:=h;rcases a.2 with⟨rfl,_⟩|⟨r,b,c,rfl,_,hr,_⟩
 ·rw[←hg]at hk;cases hk
 ·rw[←hg]at hk;injection hk with hk;subst hk;exact lt_heap hr
theorem OwnNS.blk{S:Nat→Prop}{w:World}{l:List Nd}{v:Value}{g:Option Nat}(h:OwnNS S w l v g):v.ownBlock=g:=by
 obtain⟨_,_,_,h⟩:=h;exact h
theorem Zbu{w:World}{ops:Array Oper}{rest:List Oper}{o:Oper}{a:Act}{Q:Exit→Act→World→Prop}{S:Nat→Prop}(hgd:o.guard=none)(s x:Operand)
 (ho:o.op=.call {callee:=.builtin .append,args:= #[s,x],argTypes:= #[73,73]})
 (l m:List Nd) (v ux:Value) (g:Option Nat) (hs:a.eval s=v) (hown:OwnNS S w l v g) (hx:a.eval x=ux) (hm:SN (LGS S g) w m ux) (hb:l.length+m.length≤3000000)
 (h:∀v' w' g',OwnNS S w' (l++m) v' g'→Fr (LG g) w w'→(∀k,g'=some k→g=some k∨w.heap.size≤k)→wpList Tryz.prog ops Q rest (a.put o.dst v') w'):wpList Tryz.prog ops Q (o::rest) a w:=by
 obtain⟨i0,hi,n,p,r⟩:=info_parts Zkl;obtain⟨vs,h1,h2,h3⟩:=hown;rcases hm with⟨rfl,rfl⟩|⟨q,off,f,rfl,_,hm⟩
 ·refine wpList_plain hgd fun K hK=> ?_;have hr:=run_append_owned_none (P:=Tryz.prog) (w:=w) 0 73 o.type 24 i0 1 Tryz.underlying73 hi v l.length vs h1;unfold Oper.wp execOp;simp only[ho,resolve,invoke,builtin,Sem.run_bind,Sem.run_pure,Result.andThen_ok,List.map_toArray,List.map_cons,List.map_nil,hs,hx,hr];exact hK _ _ (h v w g (by rw[List.append_nil];exact⟨vs,h1,h2,h3⟩) (Fr.refl _ _) (fun k hk=>.inl hk))
 ·obtain⟨us,hu,ha⟩:=RNs.vals hm;have t:=hu.length;refine wpList_append_g hgd s x _ ho 24 i0 .nilIface 1 16 Tryz.underlying73 hi n p r rfl (by decide) v l.length vs hs h1 ⟨q,off,none⟩ m.length f us hx (by omega) (fun j u hj=>by have:=ha j u hj;by_cases i:j=0<;>simpa[Addr.add,i]using this) hu.cell1 (by unfold maxLen;omega) (by omega) ?_;intro v' w' c d;have b:∀k,v'.ownBlock=some k→g=some k∨w.heap.size≤k:=fun k hk=>by
   rcases d.old k hk with h|h
   ·exact .inl (by rw[←h3,h])
   ·exact .inr h
  have e:Fr (LG g) w w':=d.fr.mono fun k _ hk=>by unfold LG;rw[←h3,hk]
  refine h v' w' v'.ownBlock ⟨vs++us,by simpa using c,(VN.append h2 hu).keep e (fun _ _ x=>.inr x) (fun k hk x=>x.elim .inl (fun y=>(b k y).elim .inr (fun z=>by omega))),rfl⟩ e b
theorem onlyS_any(S:Nat→Prop)(l:List Nd)(n:Nd)(u v:Value)(w:World)(hl:l.length≤3000000)(hu:SN S w l u)(hn:RN S w n v):
 Calls Tryz.prog 89 #[u,v] w fun e w'=>∃r,e=.returned r∧RN S w' (Zd3 l n) r∧w=w':=by
 have HN:=hid hn;clear hn
 match l,hu with
 |[],hu=>
  obtain⟨a,c,rfl⟩:=hu.shape;clear hu;go_enter Tryz.func89,Tryz.ntmps89;go_wp2;go_ret;exact⟨_,rfl,by unfold Zd3;rw[RN];rfl,rfl⟩
 |[x],hu=>
  obtain⟨q,off,b,y,he,hy,hc⟩:=hu.get (k:=0) (by simp);have d:u=.slice (some ⟨q,off,none⟩) 1 b:=he;have f:w.cell? ⟨q,off,none⟩=some y:=by simpa using hc
  have HY:=hid hy;clear hu hy he hc;subst d;go_enter Tryz.func89,Tryz.ntmps89;go_wp2;go_ret;exact⟨_,rfl,HY.out,rfl⟩
 |x::y::l,hu=>
  obtain⟨a,c,rfl⟩:=hu.shape;clear hu;have h2:¬(((x::y::l).length:Nat):Int)=0:=by simp;omega
  have h3:¬(((x::y::l).length:Nat):Int)=1:=by simp;omega
  obtain⟨k,hk⟩:∃k,(x::y::l).length=k:=⟨_,rfl⟩;rw[hk]at h2 h3 hl⊢;clear hk;go_enter Tryz.func89,Tryz.ntmps89;go_wp2;go_ret;exact⟨_,rfl,HN.out,rfl⟩
def Zaz(S:Nat→Prop)(w:World)(l:List Nd)(v:Value)(wr:World):Prop:=∃g,OwnNS S wr l v g∧Fr nob w wr∧∀k,g=some k→w.heap.size≤k
theorem Zaz.nil(S:Nat→Prop)(w:World):Zaz S w [] (.slice none 0 0) w:=⟨none,OwnNS.nil S w,Fr.refl _ _,fun _ h=>by cases h⟩
theorem Zaz.on{S:Nat→Prop}{w wr w':World}{l:List Nd}{v:Value}(h:Zaz S w l v wr)(f:Fr nob wr w'):Zaz S w l v w':=by
 obtain⟨g,h1,h2,h3⟩:=h;exact⟨g,h1.on f,h2.trans' f,h3⟩
theorem Zaz.shape{S:Nat→Prop}{w wr:World}{l:List Nd}{v:Value}(h:Zaz S w l v wr):∃a c,v=.slice a l.length c:=by
 obtain⟨g,h1,h2,h3⟩:=h;exact h1.shape
theorem Zaz.fr{S:Nat→Prop}{w wr:World}{l:List Nd}{v:Value}(h:Zaz S w l v wr):Fr nob w wr:=by
 obtain⟨g,h1,h2,h3⟩:=h;exact h2
theorem Zaz.sn{S:Nat→Prop}{w wr:World}{l:List Nd}{v:Value}(h:Zaz S w l v wr)(hS:∀k,S k→k<w.heap.size):SN S wr l v:=by
 obtain⟨g,h1,h2,h3⟩:=h;exact h1.sn (fun k hk x=>by have:=h3 k hk;have:=hS k x;omega)
theorem wpList_append_btS{S:Nat→Prop}{W w:World}{ops:Array Oper}{rest:List Oper}{o:Oper}{a:Act}{Q:Exit→Act→World→Prop}(hgd:o.guard=none)(s x:Operand)
 (ho:o.op=.call {callee:=.builtin .append,args:= #[s,x],argTypes:= #[73,73]})
 (l m:List Nd) (v ux:Value) (hs:a.eval s=v) (hown:Zaz S W l v w) (hx:a.eval x=ux)
 (hm:∀g,(∀k,g=some k→W.heap.size≤k)→OwnNS S w l v g→SN (LGS S g) w m ux) (hb:l.length+m.length≤3000000)
 (h:∀v' w',Zaz S W (l++m) v' w'→wpList Tryz.prog ops Q rest (a.put o.dst v') w'):wpList Tryz.prog ops Q (o::rest) a w:=by
 obtain⟨g,h1,h2,h3⟩:=hown;refine Zbu hgd s x ho l m v ux g hs h1 hx (hm g h3 h1) hb fun v' w' g' q1 q2 q3=>h v' w' ⟨g',q1,?_,?_⟩
 ·exact h2.trans q2 (fun i hi hg=>by have:=h3 i hg;omega)
 ·intro k hk;have:=h2.size;rcases q3 k hk with h|h
  ·exact h3 k h
  ·omega
theorem SN.behindS{S:Nat→Prop}{W w:World}{m:List Nd}{u:Value}{g:Option Nat}(h:SN S W m u)(f:Fr nob W w)(hg:∀k,g=some k→W.heap.size≤k):SN (LGS S g) w m u:=
 h.keep f (fun _ _ x=>x.elim) (fun k hk x=>x.elim id (fun x=>by have:=hg k x;omega))
theorem RN.behindS{S:Nat→Prop}{W w:World}{m:Nd}{u:Value}{g:Option Nat}(h:RN S W m u)(f:Fr nob W w)(hg:∀k,g=some k→W.heap.size≤k):RN (LGS S g) w m u:=
 RN.keep f (fun _ _ x=>x.elim) (fun k hk x=>x.elim id (fun x=>by have:=hg k x;omega)) _ _ h
theorem Zaz.lt{S:Nat→Prop}{w wr:World}{l:List Nd}{v:Value}(h:Zaz S w l v wr):∀k,v.ownBlock=some k→k<wr.heap.size:=by
 obtain⟨g,h1,h2,h3⟩:=h;intro k hk;rw[h1.blk]at hk;exact h1.lt k hk
theorem joinS_any(S:Nat→Prop)(l:List Nd)(u:Value)(w:World)(hS:∀k,S k→k<w.heap.size)(hl:Nd.sizes l≤3000000)(h:SN S w l u):
 Calls Tryz.prog 86 #[u] w fun e w'=>∃r,e=.returned r∧RN S w' (Za2 l) r∧Fr nob w w':=by
 obtain⟨a,c,rfl⟩:=h.shape;have H:=hid h;clear h;have M:=Nd.length_le l;have K:=hid (Nat.le_trans (Nd.length_le (parts l)) (ZcA l));go_enter Tryz.func86,Tryz.ntmps86;go_wp2_with fail
 go_loopw [3,11] (fun s i wr=>∃k:Nat,i=.int .i64 k∧k≤l.length∧Zaz S w (parts (l.take k)) s wr) (fun _ i _=>l.length-(intOf i).toNat)
 case atStart=>exact⟨0,rfl,Nat.zero_le _,Zaz.nil S w⟩
 case round=>
  obtain⟨k,rfl,hk,hB⟩:=hrel;obtain⟨av,cv,rfl⟩:=hB.shape;have HB:=hid hB;clear hB;by_cases C:k<l.length
  ·obtain⟨q,off,L,x,he,hx,hc⟩:=(H.out.on HB.out.fr).get C;obtain⟨_,_,_,x',B,F,D⟩:=H.out.get C;obtain rfl:x=x':=by
    rw[he]at B;injection B with e1 _ _;injection e1 with e1;injection e1 with e1 e2;subst e1;subst e2;have:=HB.out.fr.cell D (fun x=>x);rw[hc]at this;injection this
   clear B D;injection he with e1 e2 e3;subst e1;subst e3;have HX:=hid hx;have v:=hid F;clear hx F e2;have b:=hid (Zjg C);have E:=hid (Nat.le_trans (Nd.length_le (parts (l.take (k+1)))) (Nat.le_trans (ZcA _) (Nd.sizes_take_le l (k+1))));go_wp2_with fail;refine(told_any2 S l[k] x _ HX.out).mono ?_;rintro e w2 ⟨y,rfl,hy,d,rfl⟩;obtain⟨n,hn⟩:∃n,l[k]=n:=⟨_,rfl⟩;rw[hn]at hy HX v b;clear hn;have A:(n.part=[]∧y=.iface 180 (.agg #[]))∨(∃m a c,n.part=m∧y=.iface 75 (.agg #[.slice a m.length c])∧SN S w m (.slice a m.length c))∨(n.part=[n]∧∃i z,y=.iface i z∧i≠180∧i≠75∧x=y):=by
    have G:=hy.kind;have f:=v.out.kind;cases n with
    |nil=>exact .inl ⟨rfl,G⟩
    |empty=>exact .inl ⟨rfl,G⟩
    |cat m=>
     obtain⟨a',c',h2,h3⟩:=f;subst h2;rcases d with h|rfl
     ·cases h
     ·exact .inr (.inl ⟨m,a',c',rfl,rfl,h3⟩)
    |one s=>subst f;rcases d with h|rfl;cases h;exact .inr (.inr ⟨rfl,_,_,rfl,by decide,by decide,rfl⟩)
    |alt m=>obtain⟨a,c,h1,_⟩:=f;subst h1;rcases d with h|rfl;cases h;exact .inr (.inr ⟨rfl,_,_,rfl,by decide,by decide,rfl⟩)
    |rep z mn mx=>obtain⟨a,h1,_⟩:=f;subst h1;rcases d with h|rfl;cases h;exact .inr (.inr ⟨rfl,_,_,rfl,by decide,by decide,rfl⟩)
    |group q z=>obtain⟨a,h1,_⟩:=f;subst h1;rcases d with h|rfl;cases h;exact .inr (.inr ⟨rfl,_,_,rfl,by decide,by decide,rfl⟩)
    |back q=>subst f;rcases d with h|rfl;cases h;exact .inr (.inr ⟨rfl,_,_,rfl,by decide,by decide,rfl⟩)
    |start=>subst f;rcases d with h|rfl;cases h;exact .inr (.inr ⟨rfl,_,_,rfl,by decide,by decide,rfl⟩)
    |fin=>subst f;rcases d with h|rfl;cases h;exact .inr (.inr ⟨rfl,_,_,rfl,by decide,by decide,rfl⟩)
   clear hy d;rcases A with⟨hp,rfl⟩|⟨m,am,cm,hp,rfl,hm⟩|⟨hp,iy,z,rfl,n1,n2,rfl⟩
   ·rw[hp,List.append_nil]at b;clear hp;go_wp2;go_roundw
    case rel=>exact⟨k+1,by go_num,by omega,by rw[b.out];exact HB.out.on ((Fr.refl _ _).alloc _)⟩
    case measure=>simp[intOf];omega
   ·rw[hp]at b;have HM:=hid hm;clear hm hp;have p:(parts (l.take k)).length+m.length≤3000000:=by have h:=E.out;rw[b.out,List.length_append]at h;omega
    go_wp2_with(at_builtin;refine wpList_append_btS rfl (.tmp 27) (.tmp 29) rfl (parts (l.take k)) m _ _ (by rfl) (HB.out.on ((Fr.refl _ _).alloc _)) (by rfl) (fun g hg ho=>HM.out.behindS (HB.out.fr.trans' ((Fr.refl _ _).alloc _)) hg) p ?_;intro v' w3 j;obtain⟨I,J,o⟩:=j.shape;simp only[List.length_append]at o;subst o;have t:=hid j;clear j);go_roundw
    case rel=>exact⟨k+1,by go_num,by omega,by rw[b.out];exact t.out⟩
    case measure=>simp[intOf];omega
   ·rw[hp]at b;clear hp;have p:(parts (l.take k)).length+[n].length≤3000000:=by have h:=E.out;rw[b.out,List.length_append]at h;omega
    go_wp2_with(at_builtin;refine wpList_append_btS rfl (.tmp 17) (.tmp 19) rfl (parts (l.take k)) [n] _ _ (by rfl) (HB.out.on ((Fr.refl _ _).alloc _)) (by rfl) (fun g hg ho=>SN.one' (v.out.behindS (HB.out.fr) hg) (fun k hk=>hk.elim (fun x=>Nat.lt_of_lt_of_le (hS k x) HB.out.fr.size) (fun x=>HB.out.lt k (by rw[ho.blk];exact x))) _ rfl) p ?_;intro v' w3 j;obtain⟨I,J,o⟩:=j.shape;simp only[List.length_append,List.length_singleton]at o;subst o;have t:=hid j;clear j);go_roundw
    case rel=>exact⟨k+1,by go_num,by omega,by rw[b.out];exact t.out⟩
    case measure=>simp[intOf];omega
  ·obtain rfl:k=l.length:=by omega
   have hT:=hid (List.take_of_length_le (l:=l) (Nat.le_refl _));have hB:=HB.out;rw[hT.out]at hB;go_wp2_with fail;refine(onlyS_any S (parts l) (.cat (parts l)) _ _ _ (by have:=K.out;omega) (hB.sn hS) (ZjK.2 ⟨_,rfl,(hB.sn hS)⟩)).mono ?_;rintro e w2 ⟨r,rfl,hr,rfl⟩;have HR:=hid hr;clear hr;go_wp2;go_ret;exact⟨_,rfl,HR.out,HB.out.fr⟩
theorem Zd4(S:Nat→Prop)(l:List Nd)(u:Value)(w:World)(hS:∀k,S k→k<w.heap.size)(hl:Nd.sizes l≤3000000)(h:SN S w l u):
 Calls Tryz.prog 55 #[u] w fun e w'=>∃r,e=.returned r∧RN S w' (Za3 l) r∧Fr nob w w':=by
 obtain⟨a,c,rfl⟩:=h.shape;have H:=hid h;clear h;have O:=Nd.length_le l;have L:=hid (Nat.le_trans (Nd.length_le (arms l)) (Zdf l));go_enter Tryz.func55,Tryz.ntmps55;go_wp2_with fail
 go_loopw [3,10] (fun s i wr=>∃k:Nat,i=.int .i64 k∧k≤l.length∧Zaz S w (arms (l.take k)) s wr) (fun _ i _=>l.length-(intOf i).toNat)
 case atStart=>exact⟨0,rfl,Nat.zero_le _,Zaz.nil S w⟩
 case round=>
  obtain⟨k,rfl,hk,hB⟩:=hrel;obtain⟨av,cv,rfl⟩:=hB.shape;have HB:=hid hB;clear hB;by_cases B:k<l.length
  ·obtain⟨q,off,N,x,he,hx,hc⟩:=(H.out.on HB.out.fr).get B;obtain⟨_,_,_,x',A,E,C⟩:=H.out.get B;obtain rfl:x=x':=by
    rw[he]at A;injection A with e1 _ _;injection e1 with e1;injection e1 with e1 e2;subst e1;subst e2;have:=HB.out.fr.cell C (fun x=>x);rw[hc]at this;injection this
   clear A C;injection he with e1 e2 e3;subst e1;subst e3;have HX:=hid hx;have t:=hid E;clear hx E e2;have d:=hid (Zkm B);have D:=hid (Nat.le_trans (Nd.length_le (arms (l.take (k+1)))) (Nat.le_trans (Zdf _) (Nd.sizes_take_le l (k+1))));obtain⟨n,hn⟩:∃n,l[k]=n:=⟨_,rfl⟩;rw[hn]at HX t d;clear hn;have v:(∃m a c,n.arm=m∧x=.iface 86 (.agg #[.slice a m.length c])∧SN S w m (.slice a m.length c))∨(n.arm=[n.told]∧(x=.nilIface∨∃i z,x=.iface i z∧i≠86)):=by
    have f:=t.out.kind;cases n with
    |alt m=>
     obtain⟨a',c',h2,h3⟩:=f;exact .inl ⟨m,a',c',rfl,h2,h3⟩
    |nil=>exact .inr ⟨rfl,.inl f⟩
    |cat m=>obtain⟨a,c,h1,_⟩:=f;exact .inr ⟨rfl,.inr ⟨_,_,h1,by decide⟩⟩
    |rep z mn mx=>obtain⟨a,h1,_⟩:=f;exact .inr ⟨rfl,.inr ⟨_,_,h1,by decide⟩⟩
    |group q z=>obtain⟨a,h1,_⟩:=f;exact .inr ⟨rfl,.inr ⟨_,_,h1,by decide⟩⟩
    |_=>exact .inr ⟨rfl,.inr ⟨_,_,f,by decide⟩⟩
   rcases v with⟨m,am,cm,hp,rfl,hm⟩|⟨hp,hx⟩
   ·rw[hp]at d;have HM:=hid hm;clear hm hp;have o:(arms (l.take k)).length+m.length≤3000000:=by have h:=D.out;rw[d.out,List.length_append]at h;omega
    go_wp2_with(at_builtin;refine wpList_append_btS rfl (.tmp 20) (.tmp 22) rfl (arms (l.take k)) m _ _ (by rfl) (HB.out.on ((Fr.refl _ _).alloc _)) (by rfl) (fun g hg ho=>HM.out.behindS (HB.out.fr.trans' ((Fr.refl _ _).alloc _)) hg) o ?_;intro v' w3 b;obtain⟨I,J,j⟩:=b.shape;simp only[List.length_append]at j;subst j;have p:=hid b;clear b);go_roundw
    case rel=>exact⟨k+1,by go_num,by omega,by rw[d.out];exact p.out⟩
    case measure=>simp[intOf];omega
   ·rw[hp]at d;clear hp;have o:(arms (l.take k)).length+[n.told].length≤3000000:=by have h:=D.out;rw[d.out,List.length_append]at h;omega
    obtain⟨g0,o0,f0,l0⟩:=HB.out;have G:=hid (t.out.behindS f0 l0);have K:=o0.blk;have M:=hid l0;have F0:=hid f0;have O0:=hid o0;clear l0 f0 o0;rcases hx with rfl|⟨ix,zx,rfl,P⟩
    all_goals
     go_wp2_with fail;refine(told_any (LGS S g0) n _ _ (G.out.on ((Fr.refl _ _).alloc _))).mono ?_;rintro e w2 ⟨y,rfl,hy,rfl⟩;have HY:=hid hy;have F:=hy.shape;clear hy;rcases F with rfl|⟨iy,zy,rfl⟩
     all_goals
      go_wp2_with(at_builtin;refine wpList_append_btS rfl (.tmp 24) (.tmp 27) rfl (arms (l.take k)) [n.told] _ _ (by rfl) (HB.out.on (((Fr.refl _ _).alloc _).alloc _)) (by rfl) (fun g hg ho=>by have e:=K.symm.trans ho.blk;subst e;exact SN.one' HY.out (fun k hk=>hk.elim (fun x=>by have:=hS k x;have:=F0.out.size;simp;omega) (fun x=>by have:=O0.out.lt k x;simp;omega)) _ (by simp)) o ?_;intro v' w3 b;obtain⟨I,J,j⟩:=b.shape;simp only[List.length_append,List.length_singleton]at j;subst j;have p:=hid b;clear b);go_roundw
      case rel=>exact⟨k+1,by go_num,by omega,by rw[d.out];exact p.out⟩
      case measure=>simp[intOf];omega
  ·obtain rfl:k=l.length:=by omega
   have hT:=hid (List.take_of_length_le (l:=l) (Nat.le_refl _));have hB:=HB.out;rw[hT.out]at hB;go_wp2_with fail;refine(onlyS_any S (arms l) (.alt (arms l)) _ _ _ (by have:=L.out;omega) (hB.sn hS) (ZjL.2 ⟨_,rfl,(hB.sn hS)⟩)).mono ?_;rintro e w2 ⟨r,rfl,hr,rfl⟩;have HR:=hid hr;clear hr;go_wp2;go_ret;exact⟨_,rfl,HR.out,HB.out.fr⟩
end Go.Proofs.YtgllcniibbaoaaaGreatDoor
