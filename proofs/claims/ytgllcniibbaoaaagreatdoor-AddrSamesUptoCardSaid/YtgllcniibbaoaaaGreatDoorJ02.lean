/- Lemmas of this claim. -/
import Derived.Deep.RegionLaw
import Derived.Laws.OwnMore
import Derived.Test.YtgllcniibbaoaaaGreatDoorJ01
set_option linter.all false
set_option maxRecDepth 100000
set_option maxHeartbeats 24000000
namespace Go.Proofs.YtgllcniibbaoaaaGreatDoor
open Go.Proofs.Tryz
open Go.RowKit
section
variable {P:Program}
theorem ZC{x a:TypeId}{fs:Array Field}(h:P.underlying a=some (.struct fs))(v:Value)(w:World):
 (Instr.typeAssert (.iface a v) x a true).run P w=.ok (.tuple #[v,.bool true]) w:=by
 simp[Instr.typeAssert,run_underlying h]
theorem Zz{x a t:TypeId}{fs:Array Field}(h:P.underlying a=some (.struct fs)){z:Value}(hz:∀w,(zeroValue a).run P w=.ok z w)(ht:t≠a)(v:Value)(w:World):
 (Instr.typeAssert (.iface t v) x a true).run P w=.ok (.tuple #[z,.bool false]) w:=by
 simp[Instr.typeAssert,run_underlying h,ht,hz]
theorem ZD{x a:TypeId}{fs:Array Field}(h:P.underlying a=some (.struct fs)){z:Value}(hz:∀w,(zeroValue a).run P w=.ok z w)(w:World):
 (Instr.typeAssert .nilIface x a true).run P w=.ok (.tuple #[z,.bool false]) w:=by
 simp[Instr.typeAssert,run_underlying h,hz]
end
theorem ZfO(v:Value)(w:World):(Instr.typeAssert (.iface 180 v) 24 180 true).run prog w=.ok (.tuple #[v,.bool true]) w:=ZC underlying180 v w
theorem Zfb(t:TypeId)(v:Value)(w:World)(h:t≠180):(Instr.typeAssert (.iface t v) 24 180 true).run prog w=.ok (.tuple #[.agg #[],.bool false]) w:=Zz underlying180 (fun _=>by kernel_rfl) h v w
theorem ZfP(w:World):(Instr.typeAssert .nilIface 24 180 true).run prog w=.ok (.tuple #[.agg #[],.bool false]) w:=ZD underlying180 (fun _=>by kernel_rfl) w
attribute [go_sem] ZfO Zfb ZfP
theorem Zi6(v:Value)(w:World):(Instr.typeAssert (.iface 134 v) 24 134 true).run prog w=.ok (.tuple #[v,.bool true]) w:=ZC underlying134 v w
theorem Zg9(t:TypeId)(v:Value)(w:World)(h:t≠134):(Instr.typeAssert (.iface t v) 24 134 true).run prog w=.ok (.tuple #[.agg #[.int .u64 0,.int .u64 0,.int .u64 0,.int .u64 0],.bool false]) w:=Zz underlying134 (fun _=>by kernel_rfl) h v w
theorem Zi7(w:World):(Instr.typeAssert .nilIface 24 134 true).run prog w=.ok (.tuple #[.agg #[.int .u64 0,.int .u64 0,.int .u64 0,.int .u64 0],.bool false]) w:=ZD underlying134 (fun _=>by kernel_rfl) w
attribute [go_sem] Zi6 Zg9 Zi7
theorem Zi8(v:Value)(w:World):(Instr.typeAssert (.iface 75 v) 24 75 true).run prog w=.ok (.tuple #[v,.bool true]) w:=ZC underlying75 v w
theorem Zha(t:TypeId)(v:Value)(w:World)(h:t≠75):(Instr.typeAssert (.iface t v) 24 75 true).run prog w=.ok (.tuple #[.agg #[.slice none 0 0],.bool false]) w:=Zz underlying75 (fun _=>by kernel_rfl) h v w
theorem Zi9(w:World):(Instr.typeAssert .nilIface 24 75 true).run prog w=.ok (.tuple #[.agg #[.slice none 0 0],.bool false]) w:=ZD underlying75 (fun _=>by kernel_rfl) w
attribute [go_sem] Zi8 Zha Zi9
theorem Zja(v:Value)(w:World):(Instr.typeAssert (.iface 86 v) 24 86 true).run prog w=.ok (.tuple #[v,.bool true]) w:=ZC underlying86 v w
theorem Zhb(t:TypeId)(v:Value)(w:World)(h:t≠86):(Instr.typeAssert (.iface t v) 24 86 true).run prog w=.ok (.tuple #[.agg #[.slice none 0 0],.bool false]) w:=Zz underlying86 (fun _=>by kernel_rfl) h v w
theorem Zjb(w:World):(Instr.typeAssert .nilIface 24 86 true).run prog w=.ok (.tuple #[.agg #[.slice none 0 0],.bool false]) w:=ZD underlying86 (fun _=>by kernel_rfl) w
attribute [go_sem] Zja Zhb Zjb
theorem Zjc(v:Value)(w:World):(Instr.typeAssert (.iface 137 v) 24 137 true).run prog w=.ok (.tuple #[v,.bool true]) w:=ZC underlying137 v w
theorem Zhc(t:TypeId)(v:Value)(w:World)(h:t≠137):(Instr.typeAssert (.iface t v) 24 137 true).run prog w=.ok (.tuple #[.agg #[.nilIface,.int .i64 0,.int .i64 0],.bool false]) w:=Zz underlying137 (fun _=>by kernel_rfl) h v w
theorem Zjd(w:World):(Instr.typeAssert .nilIface 24 137 true).run prog w=.ok (.tuple #[.agg #[.nilIface,.int .i64 0,.int .i64 0],.bool false]) w:=ZD underlying137 (fun _=>by kernel_rfl) w
attribute [go_sem] Zjc Zhc Zjd
theorem ZfQ(v:Value)(w:World):(Instr.typeAssert (.iface 127 v) 24 127 true).run prog w=.ok (.tuple #[v,.bool true]) w:=ZC underlying127 v w
theorem Zfc(t:TypeId)(v:Value)(w:World)(h:t≠127):(Instr.typeAssert (.iface t v) 24 127 true).run prog w=.ok (.tuple #[.agg #[.int .i64 0,.nilIface],.bool false]) w:=Zz underlying127 (fun _=>by kernel_rfl) h v w
theorem ZfR(w:World):(Instr.typeAssert .nilIface 24 127 true).run prog w=.ok (.tuple #[.agg #[.int .i64 0,.nilIface],.bool false]) w:=ZD underlying127 (fun _=>by kernel_rfl) w
attribute [go_sem] ZfQ Zfc ZfR
theorem Zhd(v:Value)(w:World):(Instr.typeAssert (.iface 116 v) 24 116 true).run prog w=.ok (.tuple #[v,.bool true]) w:=ZC underlying116 v w
theorem ZfS(t:TypeId)(v:Value)(w:World)(h:t≠116):(Instr.typeAssert (.iface t v) 24 116 true).run prog w=.ok (.tuple #[.agg #[.int .i64 0],.bool false]) w:=Zz underlying116 (fun _=>by kernel_rfl) h v w
theorem Zhe(w:World):(Instr.typeAssert .nilIface 24 116 true).run prog w=.ok (.tuple #[.agg #[.int .i64 0],.bool false]) w:=ZD underlying116 (fun _=>by kernel_rfl) w
attribute [go_sem] Zhd ZfS Zhe
theorem ZfT(v:Value)(w:World):(Instr.typeAssert (.iface 139 v) 24 139 true).run prog w=.ok (.tuple #[v,.bool true]) w:=ZC underlying139 v w
theorem Zfd(t:TypeId)(v:Value)(w:World)(h:t≠139):(Instr.typeAssert (.iface t v) 24 139 true).run prog w=.ok (.tuple #[.agg #[],.bool false]) w:=Zz underlying139 (fun _=>by kernel_rfl) h v w
theorem ZfU(w:World):(Instr.typeAssert .nilIface 24 139 true).run prog w=.ok (.tuple #[.agg #[],.bool false]) w:=ZD underlying139 (fun _=>by kernel_rfl) w
attribute [go_sem] ZfT Zfd ZfU
theorem Zje(v:Value)(w:World):(Instr.typeAssert (.iface 140 v) 24 140 true).run prog w=.ok (.tuple #[v,.bool true]) w:=ZC underlying140 v w
theorem Zhf(t:TypeId)(v:Value)(w:World)(h:t≠140):(Instr.typeAssert (.iface t v) 24 140 true).run prog w=.ok (.tuple #[.agg #[],.bool false]) w:=Zz underlying140 (fun _=>by kernel_rfl) h v w
theorem Zjf(w:World):(Instr.typeAssert .nilIface 24 140 true).run prog w=.ok (.tuple #[.agg #[],.bool false]) w:=ZD underlying140 (fun _=>by kernel_rfl) w
attribute [go_sem] Zje Zhf Zjf
open Go.Lib (hid)
theorem kids_any(S:Nat→Prop)(n:Nd)(v:Value)(w:World)(h:RN S w n v)(hS:∀k,S k→k<w.heap.size):
 Calls prog 51 #[v] w fun e w'=>∃u,e=.returned u∧SN S w' n.kids u∧Fr nob w w':=by
 cases n with
 |nil=>
  rw[RN]at h;subst h;go_enter func51,ntmps51;go_wp2;go_ret;exact⟨_,rfl,SN.nil,Fr.refl _ _⟩
 |empty=>
  rw[RN]at h;subst h;go_enter func51,ntmps51;go_wp2;go_ret;exact⟨_,rfl,SN.nil,Fr.refl _ _⟩
 |one s=>
  rw[RN]at h;subst h;go_enter func51,ntmps51;go_wp2;go_ret;exact⟨_,rfl,SN.nil,Fr.refl _ _⟩
 |back n=>
  rw[RN]at h;subst h;go_enter func51,ntmps51;go_wp2;go_ret;exact⟨_,rfl,SN.nil,Fr.refl _ _⟩
 |start=>
  rw[RN]at h;subst h;go_enter func51,ntmps51;go_wp2;go_ret;exact⟨_,rfl,SN.nil,Fr.refl _ _⟩
 |fin=>
  rw[RN]at h;subst h;go_enter func51,ntmps51;go_wp2;go_ret;exact⟨_,rfl,SN.nil,Fr.refl _ _⟩
 |cat l=>
  rw[ZjK]at h;obtain⟨u,rfl,h⟩:=h;obtain⟨a,c,rfl⟩:=h.shape;have HH:=hid h;clear h;go_enter func51,ntmps51;go_wp2;go_ret;exact⟨_,rfl,HH.out.on ((Fr.refl _ _).alloc _),(Fr.refl _ _).alloc _⟩
 |alt l=>
  rw[ZjL]at h;obtain⟨u,rfl,h⟩:=h;obtain⟨a,c,rfl⟩:=h.shape;have HH:=hid h;clear h;go_enter func51,ntmps51;go_wp2;go_ret;exact⟨_,rfl,HH.out.on ((Fr.refl _ _).alloc _),(Fr.refl _ _).alloc _⟩
 |rep x mn mx=>
  rw[RN]at h;obtain⟨u,rfl,h⟩:=h;have b:=h.shape;have HH:=hid h;clear h;rcases b with rfl|⟨i,x,rfl⟩
  all_goals
   go_enter func51,ntmps51;go_wp2;go_ret;exact⟨_,rfl,SN.one' (HH.out.on ((Fr.refl _ _).alloc _)) (fun k hk=>by have:=hS k hk;simp;omega) _ (by simp),((Fr.refl _ _).alloc _).alloc _⟩
 |group n x=>
  rw[RN]at h;obtain⟨u,rfl,h⟩:=h;have b:=h.shape;have HH:=hid h;clear h;rcases b with rfl|⟨i,x,rfl⟩
  all_goals
   go_enter func51,ntmps51;go_wp2;go_ret;exact⟨_,rfl,SN.one' (HH.out.on ((Fr.refl _ _).alloc _)) (fun k hk=>by have:=hS k hk;simp;omega) _ (by simp),((Fr.refl _ _).alloc _).alloc _⟩
def Nd.told:Nd→Nd
 | .nil=>.empty
 |n=>n
def Nd.isAlt:Nd→Bool
 | .alt _=>true
 |_=>false
theorem told_any2(S:Nat→Prop)(n:Nd)(v:Value)(w:World)(h:RN S w n v):Calls prog 88 #[v] w fun e w'=>∃u,e=.returned u∧RN S w n.told u∧(v=.nilIface∨u=v)∧w=w':=by
 rcases h.shape with rfl|⟨i,x,rfl⟩
 ·have hn:n=.nil:=by cases n<;>rw[RN]at h<;>first|rfl|(cases h;done)|(obtain⟨_,h,_⟩:=h;cases h)
  subst hn;have H:=hid h;clear h;go_enter func88,ntmps88;go_wp2;go_ret;exact⟨_,rfl,by rw[Nd.told,RN];rfl,by simp,rfl⟩
 ·have hn:n.told=n:=by cases n<;>first|rfl|(rw[RN]at h;cases h)
  have H:=hid h;clear h;have HN:=hid hn;clear hn;go_enter func88,ntmps88;go_wp2;go_ret;exact⟨_,rfl,by rw[HN.out];exact H.out,by simp,rfl⟩
theorem told_any(S:Nat→Prop)(n:Nd)(v:Value)(w:World)(h:RN S w n v):Calls prog 88 #[v] w fun e w'=>∃u,e=.returned u∧RN S w n.told u∧w=w':=by
 refine(told_any2 S n v w h).mono ?_;rintro e w1 ⟨u,h1,h2,_,h3⟩;exact⟨u,h1,h2,h3⟩
def Znh(S:Nat→Prop)(w:World)(v:Value):Nd→Prop
    | .nil=>v=.nilIface
    | .empty=>v=.iface 180 (.agg #[])
    | .one s=>v=.iface 134 (.agg s.cells.toArray)
    | .cat l=>∃(a:Option Addr) (c:Nat),v=.iface 75 (.agg #[.slice a l.length c])∧SN S w l (.slice a l.length c)
    | .alt l=>∃(a:Option Addr) (c:Nat),v=.iface 86 (.agg #[.slice a l.length c])∧SN S w l (.slice a l.length c)
    | .rep x mn mx=>∃u,v=.iface 137 (.agg #[u,.int .i64 mn,.int .i64 mx])∧RN S w x u
    | .group n x=>∃u,v=.iface 127 (.agg #[.int .i64 n,u])∧RN S w x u
    | .back n=>v=.iface 116 (.agg #[.int .i64 n])
    | .start=>v=.iface 139 (.agg #[])
    | .fin=>v=.iface 140 (.agg #[])
theorem RN.kind{S:Nat→Prop}{w:World}{n:Nd}{v:Value}(h:RN S w n v):Znh S w v n:=by
 cases n with
 |cat l=>rw[ZjK]at h;obtain⟨u,rfl,h⟩:=h;obtain⟨a,c,rfl⟩:=h.shape;exact⟨a,c,rfl,h⟩
 |alt l=>rw[ZjL]at h;obtain⟨u,rfl,h⟩:=h;obtain⟨a,c,rfl⟩:=h.shape;exact⟨a,c,rfl,h⟩
 |_=>rw[RN]at h;exact h
def Nd.ty:Nd→Option TypeId
 | .nil=>none
 | .empty=>some 180
 | .one _=>some 134
 | .cat _=>some 75
 | .alt _=>some 86
 | .rep _ _ _=>some 137
 | .group _ _=>some 127
 | .back _=>some 116
 | .start=>some 139
 | .fin=>some 140
theorem RN.tyv{S:Nat→Prop}{w:World}{n:Nd}{v:Value}(h:RN S w n v):(n.ty=none∧v=.nilIface)∨∃i x,n.ty=some i∧v=.iface i x:=by
 have:=h.kind;cases n with
 |nil=>exact .inl ⟨rfl,this⟩
 |cat l=>obtain⟨a,c,h,_⟩:=this;exact .inr ⟨_,_,rfl,h⟩
 |alt l=>obtain⟨a,c,h,_⟩:=this;exact .inr ⟨_,_,rfl,h⟩
 |rep x mn mx=>obtain⟨a,h,_⟩:=this;exact .inr ⟨_,_,rfl,h⟩
 |group n x=>obtain⟨a,h,_⟩:=this;exact .inr ⟨_,_,rfl,h⟩
 |_=>exact .inr ⟨_,_,rfl,this⟩
theorem alt_any(S:Nat→Prop)(n:Nd)(v:Value)(w:World)(h:RN S w n v):Calls prog 104 #[v] w fun e w'=>e=.returned (.bool n.isAlt)∧Fr nob w w':=by
 have hk:=h.kind;have H:=hid h;clear h;by_cases ha:∃l,n=.alt l
 ·obtain⟨l,rfl⟩:=ha;obtain⟨a,c,rfl,_⟩:=hk;go_enter func104,ntmps104;go_wp2;go_ret;exact⟨rfl,(Fr.refl _ _).alloc _⟩
 ·have hn:n.isAlt=false:=by cases n<;>first|rfl|exact(ha ⟨_,rfl⟩).elim
  rw[hn];clear hk;rcases H.out.tyv with⟨_,rfl⟩|⟨i,x,ht,rfl⟩
  ·go_enter func104,ntmps104;go_wp2;go_ret;exact⟨rfl,(Fr.refl _ _).alloc _⟩
  ·have hi:i≠86:=by
    cases n<;>simp only[Nd.ty,Option.some.injEq]at ht<;>first|(subst ht;decide)|(exact(ha ⟨_,rfl⟩).elim)|cases ht
   clear ha ht hn;go_enter func104,ntmps104;go_wp2;go_ret;exact⟨rfl,(Fr.refl _ _).alloc _⟩
def SI(w:World)(l:List Int)(u:Value):Prop:=(u=.slice none 0 0∧l=[])∨∃g off cap,u=.slice (some ⟨g,off,none⟩) l.length cap∧∀j x,l[j]? =some x→w.cell? ⟨g,off+j,none⟩=some (.int .i64 x)
theorem RN.weak{S:Nat→Prop}{w:World}{n:Nd}{u:Value}(h:RN S w n u):RN nob w n u:=RN.keep (Fr.refl nob w) (fun _ _ x=>x.elim) (fun _ _ x=>x.elim) _ _ h
theorem step_append_g{P:Program}{ops:Array Oper}{o:Oper}{a:Act}{w:World}{K:Act→World→Prop}{Q:Exit→Act→World→Prop}{E:Prop}
 (hg:o.guard=none) (s x:Operand) (t:TypeId) (hop:o.op=Op.call {callee:=Callee.builtin Builtin.append,args:= #[s,x],argTypes:= #[t,t]})
 (e:TypeId) (i:TypeInfo) (z:Value) (size bytes:Nat) (ht:P.underlying t=some (.slice e)) (hi:P.info? e=some i) (hz:i.zero=some z)
 (hsize:i.size=size) (hby:i.bytes=bytes) (hzs:z.cells.size=size) (hsz:0<size)
 (v:Value) (n:Nat) (xs:List Value) (hs:a.eval s=v) (hown:w.ownsRow 0 e size v n xs)
 (ad:Addr) (m c:Nat) (news:List Value) (hx:a.eval x=.slice (some ad) m c) (hl:news.length=m*size) (hnews:∀j u,news[j]? =some u→w.cell? (ad.add j)=some u) (h1:∀u∈news,u.oneCell'=true)
 (h63:n+m≤maxLen) (hbytes:(n+m)*bytes≤140737488355328)
 (hK:∀v' w',w'.ownsRow 0 e size v' (n+m) (xs++news)→Appd m v v' w w'→K (a.put o.dst v') w'):
 if Region.wanted o (yielded ops a.tmps)=true then Oper.wp P o a w K Q else E:=by
 have hw:Region.wanted o (yielded ops a.tmps)=true:=by simp[Region.wanted,hg]
 rw[if_pos hw];obtain⟨v',w',hr,h2,h3⟩:=Zdo (P:=P) w t o.type e i z size bytes ht hi hz hsize hby hzs hsz v n xs hown ad m c news hl hnews h1 h63 hbytes;unfold Oper.wp execOp;simp only[hop,resolve,invoke,builtin,Sem.run_bind,Sem.run_pure,Result.andThen_ok,List.map_toArray,List.map_cons,List.map_nil,hs,hx,hr];exact hK _ _ h2 h3
def LG(g:Option Nat):Nat→Prop:=fun k=>g=some k
theorem Zkl:(prog.info? 24).map (fun i=>(i.zero,i.size,i.bytes))=some (some .nilIface,1,16):=by kernel_rfl
theorem VN.cell1{S:Nat→Prop}{w:World}:∀{l:List Nd} {vs:List Value},VN S w l vs→∀u∈vs,u.oneCell'=true
 |[],_,h,u,hu=>by rw[VN]at h;subst h;cases hu
 |t::ts,_,h,u,hu=>by
  rw[VN]at h;obtain⟨v,r,rfl,h1,h⟩:=h;rcases List.mem_cons.1 hu with rfl|hu
  ·rcases h1.shape with rfl|⟨i,x,rfl⟩<;>rfl
  ·exact VN.cell1 h u hu
def Zd3(l:List Nd)(n:Nd):Nd:=match l with
 |[]=>.empty
 |[x]=>x
 |_=>n
def Nd.part:Nd→List Nd
 | .nil| .empty=>[]
 | .cat l=>l
 |n=>[n]
def Nd.arm:Nd→List Nd
 | .alt l=>l
 |n=>[n.told]
def parts:List Nd→List Nd
 |[]=>[]
 |t::ts=>t.part++parts ts
def arms:List Nd→List Nd
 |[]=>[]
 |t::ts=>t.arm++arms ts
def Za2(l:List Nd):Nd:=Zd3 (parts l) (.cat (parts l))
def Za3(l:List Nd):Nd:=Zd3 (arms l) (.alt (arms l))
theorem Nd.part_sizes(n:Nd):Nd.sizes n.part≤n.size:=by
 cases n<;>simp only[Nd.part,Nd.sizes,Nd.size]<;>omega
theorem Nd.arm_sizes(n:Nd):Nd.sizes n.arm≤n.size:=by
 cases n<;>simp only[Nd.arm,Nd.told,Nd.sizes,Nd.size]<;>omega
theorem ZcA(l:List Nd):Nd.sizes (parts l)≤Nd.sizes l:=by
 induction l with
 |nil=>simp[parts]
 |cons t ts ih=>have:=t.part_sizes;simp only[parts,Nd.sizes,Nd.sizes_append];omega
theorem Zdf(l:List Nd):Nd.sizes (arms l)≤Nd.sizes l:=by
 induction l with
 |nil=>simp[arms]
 |cons t ts ih=>have:=t.arm_sizes;simp only[arms,Nd.sizes,Nd.sizes_append];omega
theorem ZfV(l m:List Nd):parts (l++m)=parts l++parts m:=by
 induction l with
 |nil=>rfl
 |cons t ts ih=>simp only[List.cons_append,parts,ih,List.append_assoc]
theorem Zhg(l m:List Nd):arms (l++m)=arms l++arms m:=by
 induction l with
 |nil=>rfl
 |cons t ts ih=>simp only[List.cons_append,arms,ih,List.append_assoc]
theorem Zjg{l:List Nd}{k:Nat}(h:k<l.length):parts (l.take (k+1))=parts (l.take k)++l[k].part:=by
 rw[List.take_succ_eq_append_getElem h,ZfV];simp[parts]
theorem Zkm{l:List Nd}{k:Nat}(h:k<l.length):arms (l.take (k+1))=arms (l.take k)++l[k].arm:=by
 rw[List.take_succ_eq_append_getElem h,Zhg];simp[arms]
theorem At.new{b:Nat}(w:World)(cs:Array Value)(T:TypeId)(hb:b=w.heap.size):At (w.alloc (.cells cs T)) b 0 cs.toList:=by
 subst hb;intro j v hj;exact cell_at (heap_alloc_new w _) (by simpa using hj)
def T.kind:T→Int| .mk k _ _ _ _ _=>k
def T.parts:T→List T| .mk _ _ ps _ _ _=>ps
def T.zero:T:=.mk 0 S4.zero [] 0 0 0
def T.of(t:T):T:=match t.parts with
 |[]=>T.zero
 |x::_=>x
def T.kids(t:T):List T:=if t.kind=2∨t.kind=3 then t.parts else if t.kind=4∨t.kind=5 then[t.of]else[]
mutual
def T.bulk:T→Nat
 | .mk _ _ ps _ _ _=>1+T.bulks ps
def T.bulks:List T→Nat
 |[]=>0
 |t::ts=>t.bulk+T.bulks ts
end
mutual
def T.known:T→Bool
 | .mk k _ ps _ _ _=>(!(decide (k<0)||decide (8<k)))&&T.knowns ps
def T.knowns:List T→Bool
 |[]=>true
 |t::ts=>t.known&&T.knowns ts
end
mutual
def T.nd:T→Nd
 | .mk k s ps mn mx nu=>if k=1 then .one s else if k=2 then .cat (T.nds ps)else if k=3 then .alt (T.nds ps)else if k=4 then .rep (T.nd1 ps) mn mx
   else if k=5 then .group nu (T.nd1 ps)else if k=6 then .back nu else if k=7 then .start else if k=8 then .fin else .empty
def T.nds:List T→List Nd
 |[]=>[]
 |t::ts=>t.nd::T.nds ts
def T.nd1:List T→Nd
 |[]=>.empty
 |t::_=>t.nd
end
theorem T.bulk_pos(t:T):1≤t.bulk:=by cases t;simp only[T.bulk];omega
theorem T.bulks_append(l m:List T):T.bulks (l++m)=T.bulks l+T.bulks m:=by
 induction l with
 |nil=>simp[T.bulks]
 |cons t ts ih=>simp only[List.cons_append,T.bulks,ih];omega
theorem T.length_le(l:List T):l.length≤T.bulks l:=by
 induction l with
 |nil=>simp
 |cons t ts ih=>have:=t.bulk_pos;simp only[List.length_cons,T.bulks];omega
theorem T.bulks_mem{l:List T}{t:T}(h:t∈l):t.bulk≤T.bulks l:=by
 induction l with
 |nil=>simp at h
 |cons a l ih=>
  simp only[T.bulks];rcases List.mem_cons.1 h with rfl|h
  ·omega
  ·have:=ih h;omega
theorem T.bulks_take{l:List T}{k:Nat}(h:k<l.length):T.bulks (l.take (k+1))=T.bulks (l.take k)+l[k].bulk:=by
 rw[List.take_succ_eq_append_getElem h,T.bulks_append];simp[T.bulks]
theorem T.bulks_take_le(l:List T)(k:Nat):T.bulks (l.take k)≤T.bulks l:=by
 have:=T.bulks_append (l.take k) (l.drop k);rw[List.take_append_drop]at this;omega
theorem T.nds_eq(l:List T):T.nds l=l.map T.nd:=by
 induction l with
 |nil=>rfl
 |cons t ts ih=>simp only[T.nds,List.map_cons,ih]
theorem T.kids_nd(t:T):t.nd.kids=t.kids.map T.nd:=by
 cases t with
 |mk k s ps mn mx nu=>
  have h1:T.nd1 ps=(T.of (.mk k s ps mn mx nu)).nd:=by cases ps<;>rfl
  simp only[T.nd,T.kids,T.kind,T.parts,h1,T.nds_eq];by_cases a1:k=1
  ·simp[a1,Nd.kids]
  by_cases a2:k=2
  ·simp[a2,Nd.kids]
  by_cases a3:k=3
  ·simp[a3,Nd.kids]
  by_cases a4:k=4
  ·simp[a4,Nd.kids]
  by_cases a5:k=5
  ·simp[a5,Nd.kids]
  by_cases a6:k=6
  ·simp[a6,Nd.kids]
  by_cases a7:k=7
  ·simp[a7,Nd.kids]
  by_cases a8:k=8
  ·simp[a8,Nd.kids]
  simp[a1,a2,a3,a4,a5,a6,a7,a8,Nd.kids]
theorem RT.open'{S:Nat→Prop}{w:World}{t:T}{cs:List Value}(h:RT S w t cs):∃k s ps mn mx nu a c,t=.mk k s ps mn mx nu∧
 cs=[.int .i64 k,.int .u64 s.a,.int .u64 s.b,.int .u64 s.c,.int .u64 s.d,.slice a ps.length c,.int .i64 mn,.int .i64 mx,.int .i64 nu]∧ST S w ps (.slice a ps.length c):=by
 cases t with
 |mk k s ps mn mx nu=>
  rw[Zw0]at h;obtain⟨v,rfl,h⟩:=h;rcases h with⟨⟨a,c,rfl⟩,rfl⟩|⟨g,off,e,rfl,hc,h⟩
  ·exact⟨k,s,[],mn,mx,nu,a,c,rfl,rfl,.inl ⟨⟨a,c,rfl⟩,rfl⟩⟩
  ·exact⟨k,s,ps,mn,mx,nu,_,e,rfl,rfl,.inr ⟨g,off,e,rfl,hc,h⟩⟩
theorem RTs.get{S:Nat→Prop}{w:World}{g:Nat}:∀{l:List T} {off:Nat},RTs S w l g off→∀{k:Nat} (hk:k<l.length),∃cs,RT S w l[k] cs∧At w g (off+k*9) cs∧g<w.heap.size
 |[],_,_,k,hk=>by simp at hk
 |t::ts,off,h,k,hk=>by
  rw[RTs]at h;obtain⟨_,hg,⟨cs,h1,h2⟩,h⟩:=h;cases k with
  |zero=>exact⟨cs,h1,by simpa using h2,hg⟩
  |succ k=>
   obtain⟨cs',h3,h4,h5⟩:=RTs.get h (k:=k) (by simpa using hk);exact⟨cs',by simpa using h3,by rwa[show off+(k+1)*9=off+9+k*9 by omega],h5⟩
theorem ST.get{S:Nat→Prop}{w:World}{l:List T}{u:Value}(h:ST S w l u){k:Nat}(hk:k<l.length):∃g off cap cs,u=.slice (some ⟨g,off,none⟩) l.length cap∧RT S w l[k] cs∧At w g (off+k*9) cs∧g<w.heap.size:=by
 rcases h with⟨_,rfl⟩|⟨g,off,cap,rfl,_,h⟩
 ·simp at hk
 ·obtain⟨cs,h1,h2,h3⟩:=h.get hk;exact⟨g,off,cap,cs,rfl,h1,h2,h3⟩
theorem ST.shape{S:Nat→Prop}{w:World}{l:List T}{u:Value}(h:ST S w l u):∃a c,u=.slice a l.length c:=by
 rcases h with⟨⟨a,c,rfl⟩,rfl⟩|⟨g,off,b,rfl,_⟩
 ·exact⟨_,_,rfl⟩
 ·exact⟨_,_,rfl⟩
def S4.wf(s:S4):Prop:=(Lit.int .u64 s.a).wf=true∧(Lit.int .u64 s.b).wf=true∧(Lit.int .u64 s.c).wf=true∧(Lit.int .u64 s.d).wf=true
mutual
def T.wf:T→Prop
 | .mk k s ps mn mx nu=>s.wf∧(Lit.int .i64 k).wf=true∧(Lit.int .i64 mn).wf=true∧(Lit.int .i64 mx).wf=true∧(Lit.int .i64 nu).wf=true∧T.wfs ps
def T.wfs:List T→Prop
 |[]=>True
 |t::ts=>t.wf∧T.wfs ts
end
section
variable {H:Type} {enc:TypeId×Value→H} {W:World} {base:Nat} {spare:Nat→Bool} {held:Bool}
theorem Zxd(d:DataW H):1≤Rows.uptoBulk d:=by
 cases d with
 |lit l=>cases l<;>simp[Rows.uptoBulk]
 |nil=>simp[Rows.uptoBulk]
 |ptr d=>simp[Rows.uptoBulk]
 |slice elems spare=>simp[Rows.uptoBulk]
 |agg parts=>simp[Rows.uptoBulk]
 |iface t d=>simp[Rows.uptoBulk]
 |map entries=>simp[Rows.uptoBulk]
 |held h=>simp[Rows.uptoBulk]
def Zxx(enc:TypeId×Value→H)(W:World)(base:Nat)(spare:Nat→Bool)(held:Bool)(fuel:Nat):Prop:=∀(cs:List Value) (x:DataW H×List MemPlace),
 DataW.trod enc prog W base spare held fuel 36 cs=some x→cs.length=9∧∃t,RT nob W t cs∧t.wf∧t.bulk≤Rows.uptoBulk x.1
theorem Zxe{w:World}{g off n:Nat}{cs:List Value}(h:w.cells? base ⟨g,off,none⟩ n=some cs):At w g off cs:=by
 obtain⟨_,hl,hi⟩:=World.cells?_some h;intro j v hj;have a:j<n:=by rw[←hl];exact(List.getElem?_eq_some_iff.1 hj).1
 have:=hi j a;rw[hj]at this;by_cases h0:j=0
 ·subst h0;simpa[Addr.add]using this
 ·simpa[Addr.add,h0]using this
theorem Zxg{m:Nat}(hT:Zxx enc W base spare held m)(g:Nat):∀(elems:List (DataW H×List MemPlace)) (off:Nat),
 (∀i,i<elems.length→(W.cells? base ⟨g,off+i*9,none⟩ 9).bind (DataW.trod enc prog W base spare held m 36)=elems[i]?)→
 ∃ts,ts.length=elems.length∧RTs nob W ts g off∧T.wfs ts∧T.bulks ts≤Rows.uptoBulkAll (elems.map (·.1))
 |[],_,_=>⟨[],rfl,by rw[RTs];trivial,by rw[T.wfs];trivial,by simp[T.bulks]⟩
 |x::xs,off,h=>by
  have h0:=h 0 (by simp);simp only[Nat.zero_mul,Nat.add_zero,List.getElem?_cons_zero,Option.bind_eq_some_iff]at h0;obtain⟨cs,hc,hx⟩:=h0;obtain⟨hl,t,ht,hw,hb⟩:=hT cs x hx;obtain⟨ts,h1,h2,h3,h4⟩:=Zxg hT g xs (off+9) (fun i hi=>by
   have:=h (i+1) (by simpa using hi);rwa[show off+(i+1)*9=off+9+i*9 by omega]at this)
  have hlt:=World.cells?_block hc (by decide);refine⟨t::ts,by simp[h1],?_,?_,?_⟩
  ·rw[RTs];exact⟨fun x=>x,hlt,⟨cs,ht,Zxe hc⟩,h2⟩
  ·rw[T.wfs];exact⟨hw,h3⟩
  ·simp only[T.bulks,List.map_cons,Rows.uptoBulkAll];omega
theorem ZwY:prog.cellsOf 36=9:=by kernel_rfl
theorem Zxy{fuel:Nat}{cs:List Value}{x:DataW H×List MemPlace}{ty:TypeId}(hty:prog.underlying ty=some (.slice 36))(hT:∀m,m<fuel→Zxx enc W base spare held m)
 (h:DataW.trod enc prog W base spare held fuel ty cs=some x):∃u l,cs=[u]∧ST nob W l u∧T.wfs l∧T.bulks l≤Rows.uptoBulk x.1:=by
 rcases DataW.trod_slice hty h with⟨rfl,rfl⟩|⟨a,j,c,b,rest,n,rfl,rfl,rfl,hb,f,e,d,he,_⟩
 ·exact⟨_,[],rfl,.inl ⟨⟨none,0,rfl⟩,rfl⟩,by rw[T.wfs];trivial,by simp[T.bulks]⟩
 ·rw[ZwY]at he;subst d;by_cases hz:b.length=0
  ·exact⟨_,[],rfl,.inl ⟨⟨some a,c,by rw[hz]⟩,rfl⟩,by rw[T.wfs];trivial,by simp[T.bulks]⟩
  ·have h0:=he 0 (by omega);have hs:a.spot=none:=by
    simp only[Nat.zero_mul]at h0;rw[List.getElem?_eq_getElem (by omega)]at h0;simp only[Option.bind_eq_some_iff]at h0;obtain⟨cs,hc,_⟩:=h0;obtain⟨_,hl,hi⟩:=World.cells?_some hc;have h1:=hi 0 (by decide);rw[List.getElem?_eq_getElem (by omega)]at h1;have h2:((a.add 0).add 0).spot=a.spot:=by simp[Addr.add]
    rw[←h2];unfold World.cell? at h1;split at h1
    ·split at h1
     ·cases h1
     ·rename_i hn;simpa using hn
    ·cases h1
   obtain⟨g,off,sp⟩:=a;have hs:sp=none:=hs;subst hs;obtain⟨ts,h1,h2,h3,h4⟩:=Zxg (hT n (by omega)) g b off (fun i hi=>by
    have:=he i hi;by_cases h0:i*9=0
    ·simpa[Addr.add,h0]using this
    ·simpa[Addr.add,h0]using this)
   exact⟨_,ts,rfl,.inr ⟨g,off,c,by rw[h1],by omega,h2⟩,h3,by simp only[Rows.uptoBulk];omega⟩
theorem ZxG:∀(fuel:Nat),Zxx enc W base spare held fuel:=by
 intro fuel;induction fuel using Nat.strongRecOn with
 |_ fuel ih=>
  intro cs x h;obtain⟨xs,n,rfl,rfl,hl,f,hf⟩:=DataW.trod_struct underlying36 h;rw[ZwY]at hl;refine⟨hl,?_⟩;have ci:prog.cellsOf 3=1:=by kernel_rfl
  have g:prog.cellsOf 33=4:=by kernel_rfl
  have j:prog.cellsOf 34=1:=by kernel_rfl
  have cu:prog.cellsOf 31=1:=by kernel_rfl
  match cs,hl,xs,f with
  |[c0,c1,c2,c3,c4,c5,c6,c7,c8],_,[y0,y1,y2,y3,y4,y5],_=>
   have f0:DataW.trod enc prog W base spare held n 3 (([c0,c1,c2,c3,c4,c5,c6,c7,c8].drop 0).take (prog.cellsOf 3))=some y0:=hf 0 _ rfl;have f1:DataW.trod enc prog W base spare held n 33 (([c0,c1,c2,c3,c4,c5,c6,c7,c8].drop 1).take (prog.cellsOf 33))=some y1:=hf 1 _ rfl;have f2:DataW.trod enc prog W base spare held n 34 (([c0,c1,c2,c3,c4,c5,c6,c7,c8].drop 5).take (prog.cellsOf 34))=some y2:=hf 2 _ rfl;have f3:DataW.trod enc prog W base spare held n 3 (([c0,c1,c2,c3,c4,c5,c6,c7,c8].drop 6).take (prog.cellsOf 3))=some y3:=hf 3 _ rfl;have f4:DataW.trod enc prog W base spare held n 3 (([c0,c1,c2,c3,c4,c5,c6,c7,c8].drop 7).take (prog.cellsOf 3))=some y4:=hf 4 _ rfl;have f5:DataW.trod enc prog W base spare held n 3 (([c0,c1,c2,c3,c4,c5,c6,c7,c8].drop 8).take (prog.cellsOf 3))=some y5:=hf 5 _ rfl;simp only[ci,g,j,List.drop_zero,List.drop_succ_cons,List.take_succ_cons,List.take_zero]at f0 f1 f2 f3 f4 f5
   obtain⟨k,e0,_,w0⟩:=DataW.trod_int underlying3 f0;obtain⟨mn,e3,_,w3⟩:=DataW.trod_int underlying3 f3;obtain⟨mx,e4,_,w4⟩:=DataW.trod_int underlying3 f4;obtain⟨nu,e5,_,w5⟩:=DataW.trod_int underlying3 f5;obtain⟨zs,m,_,_,_,q,hz⟩:=DataW.trod_array underlying33 f1;rw[cu]at hz;obtain⟨is,e,hw⟩:=ZwE underlying31 [c1,c2,c3,c4] zs (by rw[q];rfl) (fun i hi=>by simpa using hz i (by omega));obtain⟨a,b,c,d,rfl⟩:=list4_of (zs:=is) (by have:=congrArg List.length e;simpa using this.symm);obtain⟨u,l,e2,o,p,r⟩:=Zxy underlying34 (fun m hm=>ih m (by omega)) f2;simp only[List.cons.injEq,and_true,List.map_cons,List.map_nil]at e0 e2 e3 e4 e5 e;obtain⟨i1,i2,i3,i4⟩:=e;subst e0 e2 e3 e4 e5 i1 i2 i3 i4;refine⟨.mk k ⟨a,b,c,d⟩ l mn mx nu,Zw0.2 ⟨_,rfl,o⟩,?_,?_⟩
   ·rw[T.wf];exact⟨⟨hw _ (by simp),hw _ (by simp),hw _ (by simp),hw _ (by simp)⟩,w0,w3,w4,w5,p⟩
   ·have:=Zxd y0.1;simp only[T.bulk,List.map_cons,List.map_nil,Rows.uptoBulk,Rows.uptoBulkAll];omega
end
mutual
def Nd.norm:Nd→Nd
 | .nil=>.empty
 | .empty=>.empty
 | .one s=>.one s
 | .cat l=>.cat (Nd.norms l)
 | .alt l=>.alt (Nd.norms l)
 | .rep x a b=>.rep x.norm a b
 | .group n x=>.group n x.norm
 | .back n=>.back n
 | .start=>.start
 | .fin=>.fin
def Nd.norms:List Nd→List Nd
 |[]=>[]
 |t::ts=>t.norm::Nd.norms ts
end
theorem Nd.norms_eq(l:List Nd):Nd.norms l=l.map Nd.norm:=by
 induction l with
 |nil=>rfl
 |cons t ts ih=>simp only[Nd.norms,List.map_cons,ih]
def Nd.head:Nd→Nd→Bool
 | .one s,.one t=>decide (s=t)
 | .cat _,.cat _=>true
 | .alt _,.alt _=>true
 | .rep _ a b,.rep _ c d=>decide (a=c)&&decide (b=d)
 | .group n _,.group m _=>decide (n=m)
 | .back n,.back m=>decide (n=m)
 | .start,.start=>true
 | .fin,.fin=>true
 | .nil,.nil=>true
 | .nil,.empty=>true
 | .empty,.nil=>true
 | .empty,.empty=>true
 |_,_=>false
theorem Nd.same_iff(a b:Nd):a.norm=b.norm↔a.head b=true∧Nd.norms a.kids=Nd.norms b.kids:=by
 cases a<;>cases b<;>simp[Nd.norm,Nd.head,Nd.kids,Nd.norms]
 ·constructor
  ·rintro⟨a,b,c⟩;exact⟨⟨b,c⟩,a⟩
  ·rintro⟨⟨b,c⟩,a⟩;exact⟨a,b,c⟩
def LGS(S:Nat→Prop)(g:Option Nat):Nat→Prop:=fun k=>S k∨g=some k
def OwnNS(S:Nat→Prop)(w:World)(l:List Nd)(v:Value)(g:Option Nat):Prop:=∃vs,w.ownsRow 0 24 1 v l.length vs∧VN (LGS S g) w l vs∧v.ownBlock=g
theorem OwnNS.nil(S:Nat→Prop)(w:World):OwnNS S w [] (.slice none 0 0) none:=⟨[],World.ownsRow_nil _ _ _ _,rfl,rfl⟩
theorem OwnNS.on{S:Nat→Prop}{w w':World}{l:List Nd}{v:Value}{g:Option Nat}(h:OwnNS S w l v g)(f:Fr nob w w'):OwnNS S w' l v g:=by
 obtain⟨vs,h1,h2,h3⟩:=h;exact⟨vs,ownsRow_fr h1 f (fun _ _ x=>x),h2.keep f (fun _ _ x=>x.elim) (fun _ _ x=>x),h3⟩
theorem OwnNS.shape{S:Nat→Prop}{w:World}{l:List Nd}{v:Value}{g:Option Nat}(h:OwnNS S w l v g):∃a c,v=.slice a l.length c:=by
 obtain⟨vs,h1,h2,h3⟩:=h;exact Zb h1
theorem OwnNS.sn{S:Nat→Prop}{w:World}{l:List Nd}{v:Value}{g:Option Nat}(h:OwnNS S w l v g)(hg:∀k,g=some k→¬S k):SN S w l v:=by
 obtain⟨vs,h1,h2,h3⟩:=h;exact SN.of_own h1 (h2.keep (S':=S) (Fr.refl nob w) (fun _ _ x=>x.elim) (fun _ _ x=>.inl x)) (fun k hk=>hg k (by rw[←h3];exact hk))
theorem OwnNS.lt{S:Nat→Prop}{w:World}{l:List Nd}{v:Value}{g:Option Nat}(h:OwnNS S w l v g):∀k,g=some k→k<w.heap.size:=by
 intro k hk;obtain⟨vs,a,_,hg⟩:=h;rcases a.2 with⟨rfl,_⟩|⟨r,b,c,rfl,_,hr,_⟩
 ·rw[←hg]at hk;cases hk
 ·rw[←hg]at hk;injection hk with hk;subst hk;exact lt_heap hr
theorem OwnNS.blk{S:Nat→Prop}{w:World}{l:List Nd}{v:Value}{g:Option Nat}(h:OwnNS S w l v g):v.ownBlock=g:=by
 obtain⟨_,_,_,h⟩:=h;exact h
theorem Zbu{w:World}{ops:Array Oper}{rest:List Oper}{o:Oper}{a:Act}{Q:Exit→Act→World→Prop}{S:Nat→Prop}(hgd:o.guard=none)(s x:Operand)
 (ho:o.op=.call {callee:=.builtin .append,args:= #[s,x],argTypes:= #[73,73]})
 (l m:List Nd) (v ux:Value) (g:Option Nat) (hs:a.eval s=v) (hown:OwnNS S w l v g) (hx:a.eval x=ux) (hm:SN (LGS S g) w m ux) (hb:l.length+m.length≤3000000)
 (h:∀v' w' g',OwnNS S w' (l++m) v' g'→Fr (LG g) w w'→(∀k,g'=some k→g=some k∨w.heap.size≤k)→wpList prog ops Q rest (a.put o.dst v') w'):wpList prog ops Q (o::rest) a w:=by
 obtain⟨i0,hi,n,p,r⟩:=info_parts Zkl;obtain⟨vs,h1,h2,h3⟩:=hown;rcases hm with⟨rfl,rfl⟩|⟨q,off,f,rfl,_,hm⟩
 ·refine wpList_plain hgd fun K hK=> ?_;have hr:=run_append_owned_none (P:=prog) (w:=w) 0 73 o.type 24 i0 1 underlying73 hi v l.length vs h1;unfold Oper.wp execOp;simp only[ho,resolve,invoke,builtin,Sem.run_bind,Sem.run_pure,Result.andThen_ok,List.map_toArray,List.map_cons,List.map_nil,hs,hx,hr];exact hK _ _ (h v w g (by rw[List.append_nil];exact⟨vs,h1,h2,h3⟩) (Fr.refl _ _) (fun k hk=>.inl hk))
 ·obtain⟨us,hu,ha⟩:=RNs.vals hm;have t:=hu.length;refine wpList_append_g hgd s x _ ho 24 i0 .nilIface 1 16 underlying73 hi n p r rfl (by decide) v l.length vs hs h1 ⟨q,off,none⟩ m.length f us hx (by omega) (fun j u hj=>by have:=ha j u hj;by_cases i:j=0<;>simpa[Addr.add,i]using this) hu.cell1 (by unfold maxLen;omega) (by omega) ?_;intro v' w' c d;have b:∀k,v'.ownBlock=some k→g=some k∨w.heap.size≤k:=fun k hk=>by
   rcases d.old k hk with h|h
   ·exact .inl (by rw[←h3,h])
   ·exact .inr h
  have e:Fr (LG g) w w':=d.fr.mono fun k _ hk=>by unfold LG;rw[←h3,hk]
  refine h v' w' v'.ownBlock ⟨vs++us,by simpa using c,(VN.append h2 hu).keep e (fun _ _ x=>.inr x) (fun k hk x=>x.elim .inl (fun y=>(b k y).elim .inr (fun z=>by omega))),rfl⟩ e b
theorem onlyS_any(S:Nat→Prop)(l:List Nd)(n:Nd)(u v:Value)(w:World)(hl:l.length≤3000000)(hu:SN S w l u)(hn:RN S w n v):
 Calls prog 89 #[u,v] w fun e w'=>∃r,e=.returned r∧RN S w' (Zd3 l n) r∧w=w':=by
 have HN:=hid hn;clear hn
 match l,hu with
 |[],hu=>
  obtain⟨a,c,rfl⟩:=hu.shape;clear hu;go_enter func89,ntmps89;go_wp2;go_ret;exact⟨_,rfl,by unfold Zd3;rw[RN];rfl,rfl⟩
 |[x],hu=>
  obtain⟨q,off,b,y,he,hy,hc⟩:=hu.get (k:=0) (by simp);have d:u=.slice (some ⟨q,off,none⟩) 1 b:=he;have f:w.cell? ⟨q,off,none⟩=some y:=by simpa using hc
  have HY:=hid hy;clear hu hy he hc;subst d;go_enter func89,ntmps89;go_wp2;go_ret;exact⟨_,rfl,HY.out,rfl⟩
 |x::y::l,hu=>
  obtain⟨a,c,rfl⟩:=hu.shape;clear hu;have h2:¬(((x::y::l).length:Nat):Int)=0:=by simp;omega
  have h3:¬(((x::y::l).length:Nat):Int)=1:=by simp;omega
  obtain⟨k,hk⟩:∃k,(x::y::l).length=k:=⟨_,rfl⟩;rw[hk]at h2 h3 hl⊢;clear hk;go_enter func89,ntmps89;go_wp2;go_ret;exact⟨_,rfl,HN.out,rfl⟩
def Zaz(S:Nat→Prop)(w:World)(l:List Nd)(v:Value)(wr:World):Prop:=∃g,OwnNS S wr l v g∧Fr nob w wr∧∀k,g=some k→w.heap.size≤k
theorem Zaz.nil(S:Nat→Prop)(w:World):Zaz S w [] (.slice none 0 0) w:=⟨none,OwnNS.nil S w,Fr.refl _ _,fun _ h=>by cases h⟩
theorem Zaz.on{S:Nat→Prop}{w wr w':World}{l:List Nd}{v:Value}(h:Zaz S w l v wr)(f:Fr nob wr w'):Zaz S w l v w':=by
 obtain⟨g,h1,h2,h3⟩:=h;exact⟨g,h1.on f,h2.trans' f,h3⟩
theorem Zaz.shape{S:Nat→Prop}{w wr:World}{l:List Nd}{v:Value}(h:Zaz S w l v wr):∃a c,v=.slice a l.length c:=by
 obtain⟨g,h1,h2,h3⟩:=h;exact h1.shape
theorem Zaz.fr{S:Nat→Prop}{w wr:World}{l:List Nd}{v:Value}(h:Zaz S w l v wr):Fr nob w wr:=by
 obtain⟨g,h1,h2,h3⟩:=h;exact h2
theorem Zaz.sn{S:Nat→Prop}{w wr:World}{l:List Nd}{v:Value}(h:Zaz S w l v wr)(hS:∀k,S k→k<w.heap.size):SN S wr l v:=by
 obtain⟨g,h1,h2,h3⟩:=h;exact h1.sn (fun k hk x=>by have:=h3 k hk;have:=hS k x;omega)
theorem wpList_append_btS{S:Nat→Prop}{W w:World}{ops:Array Oper}{rest:List Oper}{o:Oper}{a:Act}{Q:Exit→Act→World→Prop}(hgd:o.guard=none)(s x:Operand)
 (ho:o.op=.call {callee:=.builtin .append,args:= #[s,x],argTypes:= #[73,73]})
 (l m:List Nd) (v ux:Value) (hs:a.eval s=v) (hown:Zaz S W l v w) (hx:a.eval x=ux)
 (hm:∀g,(∀k,g=some k→W.heap.size≤k)→OwnNS S w l v g→SN (LGS S g) w m ux) (hb:l.length+m.length≤3000000)
 (h:∀v' w',Zaz S W (l++m) v' w'→wpList prog ops Q rest (a.put o.dst v') w'):wpList prog ops Q (o::rest) a w:=by
 obtain⟨g,h1,h2,h3⟩:=hown;refine Zbu hgd s x ho l m v ux g hs h1 hx (hm g h3 h1) hb fun v' w' g' q1 q2 q3=>h v' w' ⟨g',q1,?_,?_⟩
 ·exact h2.trans q2 (fun i hi hg=>by have:=h3 i hg;omega)
 ·intro k hk;have:=h2.size;rcases q3 k hk with h|h
  ·exact h3 k h
  ·omega
theorem SN.behindS{S:Nat→Prop}{W w:World}{m:List Nd}{u:Value}{g:Option Nat}(h:SN S W m u)(f:Fr nob W w)(hg:∀k,g=some k→W.heap.size≤k):SN (LGS S g) w m u:=
 h.keep f (fun _ _ x=>x.elim) (fun k hk x=>x.elim id (fun x=>by have:=hg k x;omega))
theorem RN.behindS{S:Nat→Prop}{W w:World}{m:Nd}{u:Value}{g:Option Nat}(h:RN S W m u)(f:Fr nob W w)(hg:∀k,g=some k→W.heap.size≤k):RN (LGS S g) w m u:=
 RN.keep f (fun _ _ x=>x.elim) (fun k hk x=>x.elim id (fun x=>by have:=hg k x;omega)) _ _ h
theorem Zaz.lt{S:Nat→Prop}{w wr:World}{l:List Nd}{v:Value}(h:Zaz S w l v wr):∀k,v.ownBlock=some k→k<wr.heap.size:=by
 obtain⟨g,h1,h2,h3⟩:=h;intro k hk;rw[h1.blk]at hk;exact h1.lt k hk
theorem joinS_any(S:Nat→Prop)(l:List Nd)(u:Value)(w:World)(hS:∀k,S k→k<w.heap.size)(hl:Nd.sizes l≤3000000)(h:SN S w l u):
 Calls prog 86 #[u] w fun e w'=>∃r,e=.returned r∧RN S w' (Za2 l) r∧Fr nob w w':=by
 obtain⟨a,c,rfl⟩:=h.shape;have H:=hid h;clear h;have M:=Nd.length_le l;have K:=hid (Nat.le_trans (Nd.length_le (parts l)) (ZcA l));go_enter func86,ntmps86;go_wp2_with fail
 go_loopw [3,11] (fun s i wr=>∃k:Nat,i=.int .i64 k∧k≤l.length∧Zaz S w (parts (l.take k)) s wr) (fun _ i _=>l.length-(intOf i).toNat)
 case atStart=>exact⟨0,rfl,Nat.zero_le _,Zaz.nil S w⟩
 case round=>
  obtain⟨k,rfl,hk,hB⟩:=hrel;obtain⟨av,cv,rfl⟩:=hB.shape;have HB:=hid hB;clear hB;by_cases C:k<l.length
  ·obtain⟨q,off,L,x,he,hx,hc⟩:=(H.out.on HB.out.fr).get C;obtain⟨_,_,_,x',B,F,D⟩:=H.out.get C;obtain rfl:x=x':=by
    rw[he]at B;injection B with e1 _ _;injection e1 with e1;injection e1 with e1 e2;subst e1;subst e2;have:=HB.out.fr.cell D (fun x=>x);rw[hc]at this;injection this
   clear B D;injection he with e1 e2 e3;subst e1;subst e3;have HX:=hid hx;have v:=hid F;clear hx F e2;have b:=hid (Zjg C);have E:=hid (Nat.le_trans (Nd.length_le (parts (l.take (k+1)))) (Nat.le_trans (ZcA _) (Nd.sizes_take_le l (k+1))));go_wp2_with fail;refine(told_any2 S l[k] x _ HX.out).mono ?_;rintro e w2 ⟨y,rfl,hy,d,rfl⟩;obtain⟨n,hn⟩:∃n,l[k]=n:=⟨_,rfl⟩;rw[hn]at hy HX v b;clear hn;have A:(n.part=[]∧y=.iface 180 (.agg #[]))∨(∃m a c,n.part=m∧y=.iface 75 (.agg #[.slice a m.length c])∧SN S w m (.slice a m.length c))∨(n.part=[n]∧∃i z,y=.iface i z∧i≠180∧i≠75∧x=y):=by
    have G:=hy.kind;have f:=v.out.kind;cases n with
    |nil=>exact .inl ⟨rfl,G⟩
    |empty=>exact .inl ⟨rfl,G⟩
    |cat m=>
     obtain⟨a',c',h2,h3⟩:=f;subst h2;rcases d with h|rfl
     ·cases h
     ·exact .inr (.inl ⟨m,a',c',rfl,rfl,h3⟩)
    |one s=>subst f;rcases d with h|rfl;cases h;exact .inr (.inr ⟨rfl,_,_,rfl,by decide,by decide,rfl⟩)
    |alt m=>obtain⟨a,c,h1,_⟩:=f;subst h1;rcases d with h|rfl;cases h;exact .inr (.inr ⟨rfl,_,_,rfl,by decide,by decide,rfl⟩)
    |rep z mn mx=>obtain⟨a,h1,_⟩:=f;subst h1;rcases d with h|rfl;cases h;exact .inr (.inr ⟨rfl,_,_,rfl,by decide,by decide,rfl⟩)
    |group q z=>obtain⟨a,h1,_⟩:=f;subst h1;rcases d with h|rfl;cases h;exact .inr (.inr ⟨rfl,_,_,rfl,by decide,by decide,rfl⟩)
    |back q=>subst f;rcases d with h|rfl;cases h;exact .inr (.inr ⟨rfl,_,_,rfl,by decide,by decide,rfl⟩)
    |start=>subst f;rcases d with h|rfl;cases h;exact .inr (.inr ⟨rfl,_,_,rfl,by decide,by decide,rfl⟩)
    |fin=>subst f;rcases d with h|rfl;cases h;exact .inr (.inr ⟨rfl,_,_,rfl,by decide,by decide,rfl⟩)
   clear hy d;rcases A with⟨hp,rfl⟩|⟨m,am,cm,hp,rfl,hm⟩|⟨hp,iy,z,rfl,n1,n2,rfl⟩
   ·rw[hp,List.append_nil]at b;clear hp;go_wp2;go_roundw
    case rel=>exact⟨k+1,by go_num,by omega,by rw[b.out];exact HB.out.on ((Fr.refl _ _).alloc _)⟩
    case measure=>simp[intOf];omega
   ·rw[hp]at b;have HM:=hid hm;clear hm hp;have p:(parts (l.take k)).length+m.length≤3000000:=by have h:=E.out;rw[b.out,List.length_append]at h;omega
    go_wp2_with(at_builtin;refine wpList_append_btS rfl (.tmp 27) (.tmp 29) rfl (parts (l.take k)) m _ _ (by rfl) (HB.out.on ((Fr.refl _ _).alloc _)) (by rfl) (fun g hg ho=>HM.out.behindS (HB.out.fr.trans' ((Fr.refl _ _).alloc _)) hg) p ?_;intro v' w3 j;obtain⟨I,J,o⟩:=j.shape;simp only[List.length_append]at o;subst o;have t:=hid j;clear j);go_roundw
    case rel=>exact⟨k+1,by go_num,by omega,by rw[b.out];exact t.out⟩
    case measure=>simp[intOf];omega
   ·rw[hp]at b;clear hp;have p:(parts (l.take k)).length+[n].length≤3000000:=by have h:=E.out;rw[b.out,List.length_append]at h;omega
    go_wp2_with(at_builtin;refine wpList_append_btS rfl (.tmp 17) (.tmp 19) rfl (parts (l.take k)) [n] _ _ (by rfl) (HB.out.on ((Fr.refl _ _).alloc _)) (by rfl) (fun g hg ho=>SN.one' (v.out.behindS (HB.out.fr) hg) (fun k hk=>hk.elim (fun x=>Nat.lt_of_lt_of_le (hS k x) HB.out.fr.size) (fun x=>HB.out.lt k (by rw[ho.blk];exact x))) _ rfl) p ?_;intro v' w3 j;obtain⟨I,J,o⟩:=j.shape;simp only[List.length_append,List.length_singleton]at o;subst o;have t:=hid j;clear j);go_roundw
    case rel=>exact⟨k+1,by go_num,by omega,by rw[b.out];exact t.out⟩
    case measure=>simp[intOf];omega
  ·obtain rfl:k=l.length:=by omega
   have hT:=hid (List.take_of_length_le (l:=l) (Nat.le_refl _));have hB:=HB.out;rw[hT.out]at hB;go_wp2_with fail;refine(onlyS_any S (parts l) (.cat (parts l)) _ _ _ (by have:=K.out;omega) (hB.sn hS) (ZjK.2 ⟨_,rfl,(hB.sn hS)⟩)).mono ?_;rintro e w2 ⟨r,rfl,hr,rfl⟩;have HR:=hid hr;clear hr;go_wp2;go_ret;exact⟨_,rfl,HR.out,HB.out.fr⟩
theorem Zd4(S:Nat→Prop)(l:List Nd)(u:Value)(w:World)(hS:∀k,S k→k<w.heap.size)(hl:Nd.sizes l≤3000000)(h:SN S w l u):
 Calls prog 55 #[u] w fun e w'=>∃r,e=.returned r∧RN S w' (Za3 l) r∧Fr nob w w':=by
 obtain⟨a,c,rfl⟩:=h.shape;have H:=hid h;clear h;have O:=Nd.length_le l;have L:=hid (Nat.le_trans (Nd.length_le (arms l)) (Zdf l));go_enter func55,ntmps55;go_wp2_with fail
 go_loopw [3,10] (fun s i wr=>∃k:Nat,i=.int .i64 k∧k≤l.length∧Zaz S w (arms (l.take k)) s wr) (fun _ i _=>l.length-(intOf i).toNat)
 case atStart=>exact⟨0,rfl,Nat.zero_le _,Zaz.nil S w⟩
 case round=>
  obtain⟨k,rfl,hk,hB⟩:=hrel;obtain⟨av,cv,rfl⟩:=hB.shape;have HB:=hid hB;clear hB;by_cases B:k<l.length
  ·obtain⟨q,off,N,x,he,hx,hc⟩:=(H.out.on HB.out.fr).get B;obtain⟨_,_,_,x',A,E,C⟩:=H.out.get B;obtain rfl:x=x':=by
    rw[he]at A;injection A with e1 _ _;injection e1 with e1;injection e1 with e1 e2;subst e1;subst e2;have:=HB.out.fr.cell C (fun x=>x);rw[hc]at this;injection this
   clear A C;injection he with e1 e2 e3;subst e1;subst e3;have HX:=hid hx;have t:=hid E;clear hx E e2;have d:=hid (Zkm B);have D:=hid (Nat.le_trans (Nd.length_le (arms (l.take (k+1)))) (Nat.le_trans (Zdf _) (Nd.sizes_take_le l (k+1))));obtain⟨n,hn⟩:∃n,l[k]=n:=⟨_,rfl⟩;rw[hn]at HX t d;clear hn;have v:(∃m a c,n.arm=m∧x=.iface 86 (.agg #[.slice a m.length c])∧SN S w m (.slice a m.length c))∨(n.arm=[n.told]∧(x=.nilIface∨∃i z,x=.iface i z∧i≠86)):=by
    have f:=t.out.kind;cases n with
    |alt m=>
     obtain⟨a',c',h2,h3⟩:=f;exact .inl ⟨m,a',c',rfl,h2,h3⟩
    |nil=>exact .inr ⟨rfl,.inl f⟩
    |cat m=>obtain⟨a,c,h1,_⟩:=f;exact .inr ⟨rfl,.inr ⟨_,_,h1,by decide⟩⟩
    |rep z mn mx=>obtain⟨a,h1,_⟩:=f;exact .inr ⟨rfl,.inr ⟨_,_,h1,by decide⟩⟩
    |group q z=>obtain⟨a,h1,_⟩:=f;exact .inr ⟨rfl,.inr ⟨_,_,h1,by decide⟩⟩
    |_=>exact .inr ⟨rfl,.inr ⟨_,_,f,by decide⟩⟩
   rcases v with⟨m,am,cm,hp,rfl,hm⟩|⟨hp,hx⟩
   ·rw[hp]at d;have HM:=hid hm;clear hm hp;have o:(arms (l.take k)).length+m.length≤3000000:=by have h:=D.out;rw[d.out,List.length_append]at h;omega
    go_wp2_with(at_builtin;refine wpList_append_btS rfl (.tmp 20) (.tmp 22) rfl (arms (l.take k)) m _ _ (by rfl) (HB.out.on ((Fr.refl _ _).alloc _)) (by rfl) (fun g hg ho=>HM.out.behindS (HB.out.fr.trans' ((Fr.refl _ _).alloc _)) hg) o ?_;intro v' w3 b;obtain⟨I,J,j⟩:=b.shape;simp only[List.length_append]at j;subst j;have p:=hid b;clear b);go_roundw
    case rel=>exact⟨k+1,by go_num,by omega,by rw[d.out];exact p.out⟩
    case measure=>simp[intOf];omega
   ·rw[hp]at d;clear hp;have o:(arms (l.take k)).length+[n.told].length≤3000000:=by have h:=D.out;rw[d.out,List.length_append]at h;omega
    obtain⟨g0,o0,f0,l0⟩:=HB.out;have G:=hid (t.out.behindS f0 l0);have K:=o0.blk;have M:=hid l0;have F0:=hid f0;have O0:=hid o0;clear l0 f0 o0;rcases hx with rfl|⟨ix,zx,rfl,P⟩
    all_goals
     go_wp2_with fail;refine(told_any (LGS S g0) n _ _ (G.out.on ((Fr.refl _ _).alloc _))).mono ?_;rintro e w2 ⟨y,rfl,hy,rfl⟩;have HY:=hid hy;have F:=hy.shape;clear hy;rcases F with rfl|⟨iy,zy,rfl⟩
     all_goals
      go_wp2_with(at_builtin;refine wpList_append_btS rfl (.tmp 24) (.tmp 27) rfl (arms (l.take k)) [n.told] _ _ (by rfl) (HB.out.on (((Fr.refl _ _).alloc _).alloc _)) (by rfl) (fun g hg ho=>by have e:=K.symm.trans ho.blk;subst e;exact SN.one' HY.out (fun k hk=>hk.elim (fun x=>by have:=hS k x;have:=F0.out.size;simp;omega) (fun x=>by have:=O0.out.lt k x;simp;omega)) _ (by simp)) o ?_;intro v' w3 b;obtain⟨I,J,j⟩:=b.shape;simp only[List.length_append,List.length_singleton]at j;subst j;have p:=hid b;clear b);go_roundw
      case rel=>exact⟨k+1,by go_num,by omega,by rw[d.out];exact p.out⟩
      case measure=>simp[intOf];omega
  ·obtain rfl:k=l.length:=by omega
   have hT:=hid (List.take_of_length_le (l:=l) (Nat.le_refl _));have hB:=HB.out;rw[hT.out]at hB;go_wp2_with fail;refine(onlyS_any S (arms l) (.alt (arms l)) _ _ _ (by have:=L.out;omega) (hB.sn hS) (ZjL.2 ⟨_,rfl,(hB.sn hS)⟩)).mono ?_;rintro e w2 ⟨r,rfl,hr,rfl⟩;have HR:=hid hr;clear hr;go_wp2;go_ret;exact⟨_,rfl,HR.out,HB.out.fr⟩
theorem At.nine{w:World}{g off:Nat}{a b c d e f h i j:Value}(H:At w g off [a,b,c,d,e,f,h,i,j]):
 w.cell? ⟨g,off,none⟩=some a∧w.cell? ⟨g,off+1,none⟩=some b∧w.cell? ⟨g,off+2,none⟩=some c∧w.cell? ⟨g,off+3,none⟩=some d∧w.cell? ⟨g,off+4,none⟩=some e∧
 w.cell? ⟨g,off+5,none⟩=some f∧w.cell? ⟨g,off+6,none⟩=some h∧w.cell? ⟨g,off+7,none⟩=some i∧w.cell? ⟨g,off+8,none⟩=some j:=
 ⟨H 0 _ rfl,H 1 _ rfl,H 2 _ rfl,H 3 _ rfl,H 4 _ rfl,H 5 _ rfl,H 6 _ rfl,H 7 _ rfl,H 8 _ rfl⟩
theorem tsize_any(m:Nat):∀(t:T) (cs:List Value) (w:World),t.bulk≤m→t.bulk≤3000000→RT nob w t cs→
 Calls prog 74 #[.agg cs.toArray] w fun e w'=>e=.returned (.int .i64 t.bulk)∧Fr nob w w':=by
 induction m with
 |zero=>intro t cs w h;have:=t.bulk_pos;omega
 |succ m ih=>
  intro t cs w hm hb h;obtain⟨k,s,ps,mn,mx,nu,a,c,rfl,rfl,hs⟩:=h.open';have IH:=hid ih;clear ih;have f:(T.mk k s ps mn mx nu).bulk=1+T.bulks ps:=rfl;rw[f]at hm hb⊢;have u:=T.length_le ps;have H:=hid hs;clear h hs f;go_enter func74,ntmps74;go_wp2_with fail
  go_loopw [3,9] (fun s i wr=>∃k:Nat,i=.int .i64 k∧k≤ps.length∧s=.int .i64 ((1+T.bulks (ps.take k):Nat):Int)∧Fr nob w wr) (fun _ i _=>ps.length-(intOf i).toNat)
  case atStart=>exact⟨0,rfl,Nat.zero_le _,rfl,(Fr.refl _ _).alloc _⟩
  case round=>
   obtain⟨k,rfl,hk,rfl,fr⟩:=hrel;have v:=T.bulks_take_le ps k;have HR:=hid (H.out.on fr);have FR:=hid fr;clear fr;by_cases d:k<ps.length
   ·obtain⟨g,off,q,cs,he,hx,hc,r⟩:=HR.out.get d;injection he with e1 e2 e3;subst e1;subst e3;have b:=hid (T.bulks_take d);have p:=T.bulks_take_le ps (k+1);have j:ps[k].bulk≤m:=by have:=T.bulks_mem (List.getElem_mem d);omega
    have n:T.bulks (ps.take k)+ps[k].bulk≤T.bulks ps:=by have:=b.out;omega
    obtain⟨t,ht⟩:∃t,ps[k]=t:=⟨_,rfl⟩;rw[ht]at hx j b n;obtain⟨k',s',A,x,y,z,a',c',rfl,rfl,o⟩:=hx.open';obtain⟨d0,d1,d2,d3,d4,d5,d6,d7,d8⟩:=hc.nine;have HX:=hid hx;clear hx o e2 hc;go_wp2_with fail;refine(IH.out _ _ _ j (by omega) (HX.out.on ((Fr.refl _ _).alloc _))).mono ?_;rintro e w2 ⟨rfl,f2⟩;have F2:=hid f2;clear f2;go_wp2;go_roundw
    case rel=>exact⟨k+1,by go_num,by omega,by rw[b.out];go_num,(FR.out.alloc _).trans' F2.out⟩
    case measure=>simp[intOf];omega
   ·obtain rfl:k=ps.length:=by omega
    have hT:=hid (List.take_of_length_le (l:=ps) (Nat.le_refl _));go_wp2;go_ret;exact⟨ZdT (by rw[hT.out]),FR.out⟩
theorem T.knowns_take{l:List T}{k:Nat}(h:k<l.length):T.knowns (l.take (k+1))=(T.knowns (l.take k)&&l[k].known):=by
 have ha:∀a b:List T,T.knowns (a++b)=(T.knowns a&&T.knowns b):=by
  intro a b;induction a with
  |nil=>simp[T.knowns]
  |cons t ts ih=>simp only[List.cons_append,T.knowns,ih,Bool.and_assoc]
 rw[List.take_succ_eq_append_getElem h,ha];simp[T.knowns]
theorem T.knowns_mem{l:List T}(h:T.knowns l=true){t:T}(ht:t∈l):t.known=true:=by
 induction l with
 |nil=>simp at ht
 |cons a r ih=>
  simp only[T.knowns,Bool.and_eq_true]at h;rcases List.mem_cons.1 ht with rfl|ht
  ·exact h.1
  ·exact ih h.2 ht
theorem T.knowns_no{l:List T}{t:T}(ht:t∈l)(h:t.known=false):T.knowns l=false:=by
 cases hk:T.knowns l with
 |false=>rfl
 |true=>rw[T.knowns_mem hk ht]at h;cases h
theorem known_any(m:Nat):∀(t:T) (cs:List Value) (w:World),t.bulk≤m→t.bulk≤3000000→RT nob w t cs→
 Calls prog 75 #[.agg cs.toArray] w fun e w'=>e=.returned (.bool t.known)∧Fr nob w w':=by
 induction m with
 |zero=>intro t cs w h;have:=t.bulk_pos;omega
 |succ m ih=>
  intro t cs w hm hb h;obtain⟨kd,s,ps,mn,mx,nu,a,c,rfl,rfl,hs⟩:=h.open';have IH:=hid ih;clear ih;have o:(T.mk kd s ps mn mx nu).bulk=1+T.bulks ps:=rfl;rw[o]at hm hb;have E:=T.length_le ps;obtain⟨r,hr⟩:∃r,(T.mk kd s ps mn mx nu).known=r:=⟨_,rfl⟩;rw[hr];have n:((!(decide (kd<0)||decide (8<kd)))&&T.knowns ps)=r:=hr;have H:=hid hs;have HK:=hid n;clear h hs o hr n;by_cases h0:kd<0
  ·obtain rfl:r=false:=by rw[←HK.out];simp[h0]
   go_enter func75,ntmps75;go_wp2_with fail;go_ret;exact⟨rfl,(Fr.refl _ _).alloc _⟩
  by_cases h8:8<kd
  ·obtain rfl:r=false:=by rw[←HK.out];simp[h8]
   go_enter func75,ntmps75;go_wp2_with fail;go_ret;exact⟨rfl,(Fr.refl _ _).alloc _⟩
  have f:=hid (show T.knowns ps=r by rw[←HK.out];simp[h0,h8]);go_enter func75,ntmps75;go_wp2_with fail
  go_loopw [16] (fun i wr=>∃k:Nat,i=.int .i64 k∧k≤ps.length∧T.knowns (ps.take k)=true∧Fr nob w wr) (fun i _=>ps.length-(intOf i).toNat)
  case atStart=>exact⟨0,rfl,Nat.zero_le _,rfl,(Fr.refl _ _).alloc _⟩
  case round=>
   obtain⟨k,rfl,hk,j,fr⟩:=hrel;have HR:=hid (H.out.on fr);have FR:=hid fr;have HN:=hid j;clear fr j;by_cases b:k<ps.length
   ·obtain⟨g,off,C,cs,he,hx,hc,D⟩:=HR.out.get b;injection he with e1 e2 e3;subst e1;subst e3;have d:=hid (List.getElem_mem b);have v:ps[k].bulk≤m:=by have:=T.bulks_mem (List.getElem_mem b);omega
    have u:ps[k].bulk≤3000000:=by have:=T.bulks_mem (List.getElem_mem b);omega
    have p:=hid (T.knowns_take b);obtain⟨t,ht⟩:∃t,ps[k]=t:=⟨_,rfl⟩;rw[ht]at hx v u d p;obtain⟨k',s',B,y,z,A,a',c',rfl,rfl,x⟩:=hx.open';obtain⟨d0,d1,d2,d3,d4,d5,d6,d7,d8⟩:=hc.nine;have HX:=hid hx;clear hx x e2 hc;go_wp2_with fail;refine(IH.out _ _ _ v u (HX.out.on ((Fr.refl _ _).alloc _))).mono ?_;obtain⟨q,hq⟩:∃q,(T.mk k' s' B y z A).known=q:=⟨_,rfl⟩;rw[hq];rintro e w2 ⟨rfl,f2⟩;have F2:=hid f2;have HQ:=hid hq;clear f2 hq;cases q with
    |false=>
     obtain rfl:r=false:=by rw[←f.out];exact T.knowns_no d.out HQ.out
     go_wp2;go_ret;exact⟨rfl,(FR.out.alloc _).trans' F2.out⟩
    |true=>
     go_wp2;go_roundw
     case rel=>exact⟨k+1,by go_num,by omega,by rw[p.out,HN.out,HQ.out];rfl,(FR.out.alloc _).trans' F2.out⟩
     case measure=>simp[intOf];omega
   ·obtain rfl:k=ps.length:=by omega
    have hT:=List.take_of_length_le (l:=ps) (Nat.le_refl _);obtain rfl:r=true:=by have:=HN.out;rw[hT]at this;rw[←f.out];exact this
    clear hT;go_wp2;go_ret;exact⟨rfl,FR.out⟩
def T.few(t:T)(most:Int):Bool:=decide ((t.bulk:Int)≤most)&&t.known
theorem Zxu(t:T)(most:Int)(cs:List Value)(w:World)(hb:t.bulk≤3000000)(h:RT nob w t cs):
 Calls prog 47 #[.agg cs.toArray,.int .i64 most] w fun e w'=>e=.returned (.bool (t.few most))∧Fr nob w w':=by
 obtain⟨kd,s,ps,mn,mx,nu,a,c,ht,rfl,hs⟩:=h.open';obtain⟨r,hr⟩:∃r,t.few most=r:=⟨_,rfl⟩;rw[hr];have g:(decide ((t.bulk:Int)≤most)&&t.known)=r:=hr;have H:=hid h;have HR:=hid g;clear h hs ht hr g;go_enter func47,ntmps47;go_wp2_with fail;refine(tsize_any t.bulk t _ _ (Nat.le_refl _) hb (H.out.on ((Fr.refl _ _).alloc _))).mono ?_;rintro e w1 ⟨rfl,f1⟩;have hf:=((Fr.refl nob w).alloc (.cells #[.int .i64 kd,.int .u64 s.a,.int .u64 s.b,.int .u64 s.c,.int .u64 s.d,.slice a ps.length c,.int .i64 mn,.int .i64 mx,.int .i64 nu] 36)).trans' f1;have f:=f1.heap (heap_alloc_new _ _) (fun x=>x);have HF:=hid hf;clear hf f1;by_cases hm:(t.bulk:Int)≤most
 ·have d0:=cell_at (j:=0) f rfl;have d1:=cell_at (j:=1) f rfl;have d2:=cell_at (j:=2) f rfl;have d3:=cell_at (j:=3) f rfl;have d4:=cell_at (j:=4) f rfl;have d5:=cell_at (j:=5) f rfl;have d6:=cell_at (j:=6) f rfl;have d7:=cell_at (j:=7) f rfl;have d8:=cell_at (j:=8) f rfl;have i:=hid (show t.known=r by rw[←HR.out];simp[hm]);go_wp2_with fail;refine(known_any t.bulk t _ _ (Nat.le_refl _) hb (H.out.on HF.out)).mono ?_;rw[i.out];rintro e w2 ⟨rfl,f2⟩;have F2:=hid f2;clear f2;go_wp2;go_ret;exact⟨rfl,HF.out.trans' F2.out⟩
 ·obtain rfl:r=false:=by rw[←HR.out];simp[hm]
  go_wp2_with fail;go_ret;exact⟨rfl,HF.out⟩
def nine(k:Int)(s:S4)(v:Value)(mn mx nu:Int):List Value:=[.int .i64 k,.int .u64 s.a,.int .u64 s.b,.int .u64 s.c,.int .u64 s.d,v,.int .i64 mn,.int .i64 mx,.int .i64 nu]
theorem ZxL{w:World}{b:Nat}{k:Int}{s:S4}{v:Value}{mn mx nu:Int}{T:TypeId}(h:w.heap[b]? =some (.cells (nine k s v mn mx nu).toArray T (0,0))):At w b 0 (nine k s v mn mx nu):=by
 intro j u hj;exact cell_at h (by simpa using hj)
theorem results_T{fn:Func}{p:Tmp}(h:fn.results= #[.cell p 36]){tmps:Array Value}{r:Nat}(ht:tmps.getD p undef=.pointer (some ⟨r,0,none⟩)){W:World}{k:Int}{s:S4}{v:Value}{mn mx nu:Int}
 (hb:W.heap[r]? =some (.cells (nine k s v mn mx nu).toArray 36 (0,0))):(results fn tmps).run prog W=.ok (.agg (nine k s v mn mx nu).toArray) W:=by
 obtain⟨c0,c1,c2,c3,c4,c5,c6,c7,c8⟩:=(ZxL hb).nine;simp only[Nat.zero_add]at c1 c2 c3 c4 c5 c6 c7 c8;have a:tmps[p]?.getD undef=.pointer (some ⟨r,0,none⟩):=by rw[←ht];simp
 simp only[results,h];simp[a,go_sem,c0,c1,c2,c3,c4,c5,c6,c7,c8,nine]
theorem of_T(t:T)(cs:List Value)(w:World)(h:RT nob w t cs):
 Calls prog 101 #[.agg cs.toArray] w fun e w'=>∃cs',e=.returned (.agg cs'.toArray)∧RT nob w' t.of cs'∧Fr nob w w':=by
 obtain⟨kd,s,ps,mn,mx,nu,a,c,rfl,rfl,hs⟩:=h.open';have H:=hid hs;clear h hs;cases ps with
 |nil=>
  have H0:=H.out;go_enter func101,ntmps101;go_wp2;(try simp only[Exit.inBlock,Exit.then]);refine bodyPost_ret (results_T (k:=0) (s:=S4.zero) (v:=.slice none 0 0) (mn:=0) (mx:=0) (nu:=0) rfl rfl (Zg _ _ _ (by simp))) rfl ⟨_,rfl,?_,((Fr.refl _ _).alloc _).alloc _⟩;show RT nob _ T.zero _;unfold T.zero;rw[Zw0];exact⟨_,rfl,.inl ⟨⟨none,0,rfl⟩,rfl⟩⟩
 |cons x r=>
  obtain⟨g,off,o,cx,he,hx,hc,p⟩:=H.out.get (k:=0) (by simp);injection he with e1 e2 e3;subst e1;subst e3;have d:RT nob w x cx:=hx;obtain⟨k',s',n,j,l,m,a',c',u,rfl,i⟩:=d.open';simp only[Nat.zero_mul,Nat.add_zero]at hc;obtain⟨d0,d1,d2,d3,d4,d5,d6,d7,d8⟩:=hc.nine;have HX:=hid d;clear hx d i hc e2;obtain⟨f,b⟩:∃f,(x::r).length=f:=⟨_,rfl⟩;have q:0<f:=by rw[←b];simp
  rw[b];clear b;go_enter func101,ntmps101;go_wp2;(try simp only[Exit.inBlock,Exit.then]);refine bodyPost_ret (results_T (k:=k') (s:=s') (v:=.slice a' n.length c') (mn:=j) (mx:=l) (nu:=m) rfl rfl (Zg _ _ _ (by simp))) rfl ⟨_,rfl,?_,((Fr.refl _ _).alloc _).alloc _⟩;exact HX.out.on (((Fr.refl _ _).alloc _).alloc _)
theorem ST.one{S:Nat→Prop}{w:World}{t:T}{cs:List Value}{b:Nat}(h:RT S w t cs)(hS:∀k,S k→k<w.heap.size)(e:TypeId)(hb:b=w.heap.size):ST S (w.alloc (.cells cs.toArray e)) [t] (.slice (some ⟨b,0,none⟩) 1 1):=by
 subst hb;refine .inr ⟨_,_,_,rfl,by simp,?_⟩;rw[RTs];exact⟨fun x=>by have:=hS _ x;omega,by simp,⟨cs,h.on ((Fr.refl _ _).alloc _),by have:=At.new w cs.toArray e rfl;simpa using this⟩,by rw[RTs];trivial⟩
theorem kids_T(t:T)(cs:List Value)(w:World)(h:RT nob w t cs):
 Calls prog 60 #[.agg cs.toArray] w fun e w'=>∃u,e=.returned u∧ST nob w' t.kids u∧Fr nob w w':=by
 obtain⟨kd,s,ps,mn,mx,nu,a,c,ht,rfl,hs⟩:=h.open';have H:=hid hs;have HT:=hid h;clear h hs;by_cases h2:kd=2
 ·have hk:t.kids=ps:=by rw[ht];simp[T.kids,T.kind,T.parts,h2]
  rw[hk];subst h2;clear ht hk;go_enter func60,ntmps60;go_wp2;go_ret;exact⟨_,rfl,H.out.on ((Fr.refl _ _).alloc _),(Fr.refl _ _).alloc _⟩
 by_cases h3:kd=3
 ·have hk:t.kids=ps:=by rw[ht];simp[T.kids,T.kind,T.parts,h3]
  rw[hk];subst h3;clear ht hk;go_enter func60,ntmps60;go_wp2;go_ret;exact⟨_,rfl,H.out.on ((Fr.refl _ _).alloc _),(Fr.refl _ _).alloc _⟩
 by_cases b:kd=4∨kd=5
 ·have hk:t.kids=[t.of]:=by rw[ht];simp[T.kids,T.kind,h2,h3,b]
  rw[hk];clear ht hk;rcases b with rfl|rfl
  all_goals
   go_enter func60,ntmps60;go_wp2_with fail;refine(of_T t _ _ (HT.out.on ((Fr.refl _ _).alloc _))).mono ?_;rintro e w1 ⟨g,rfl,hr,f1⟩;obtain⟨k',s',l,i,j,k,a',c',d,rfl,f⟩:=hr.open';have HR:=hid hr;have F1:=hid f1;clear hr f1 f d;go_wp2;go_ret;exact⟨_,rfl,ST.one HR.out (fun _ x=>x.elim) _ rfl,(((Fr.refl _ _).alloc _).trans' F1.out).alloc _⟩
 ·have hk:t.kids=[]:=by rw[ht];simp[T.kids,T.kind,h2,h3,b]
  rw[hk];have h4:kd≠4:=fun e=>b (.inl e);have h5:kd≠5:=fun e=>b (.inr e);clear ht hk b;go_enter func60,ntmps60;go_wp2;go_ret;exact⟨_,rfl,.inl ⟨⟨none,0,rfl⟩,rfl⟩,(Fr.refl _ _).alloc _⟩
def Old(w:World):Nat→Prop:=fun k=>k<w.heap.size
def LS2(S:Nat→Prop)(g:Option Nat):Nat→Prop:=fun k=>S k∨g=some k
def OwnS(S:Nat→Prop)(w:World)(l:List Nd)(v:Value)(g:Option Nat):Prop:=∃vs,w.ownsRow 0 24 1 v l.length vs∧VN (LS2 S g) w l vs∧v.ownBlock=g∧∀k,g=some k→¬S k
theorem OwnS.nil(S:Nat→Prop)(w:World):OwnS S w [] (.slice none 0 0) none:=⟨[],World.ownsRow_nil _ _ _ _,rfl,rfl,fun _ h=>by cases h⟩
theorem OwnS.shape{S:Nat→Prop}{w:World}{l:List Nd}{v:Value}{g:Option Nat}(h:OwnS S w l v g):∃a c,v=.slice a l.length c:=by
 obtain⟨vs,h1,_⟩:=h;exact Zb h1
theorem OwnS.on{S:Nat→Prop}{w w':World}{l:List Nd}{v:Value}{g:Option Nat}(h:OwnS S w l v g)(f:Fr nob w w'):OwnS S w' l v g:=by
 obtain⟨vs,h1,h2,h3,h4⟩:=h;exact⟨vs,ownsRow_fr h1 f (fun _ _ x=>x),h2.keep f (fun _ _ x=>x.elim) (fun _ _ x=>x),h3,h4⟩
theorem OwnS.lt{S:Nat→Prop}{w:World}{l:List Nd}{v:Value}{g:Option Nat}(h:OwnS S w l v g):∀k,g=some k→k<w.heap.size:=by
 intro k hk;obtain⟨vs,a,_,hg,_⟩:=h;rcases a.2 with⟨rfl,_⟩|⟨r,b,c,rfl,_,hr,_⟩
 ·rw[←hg]at hk;cases hk
 ·rw[←hg]at hk;injection hk with hk;subst hk;exact lt_heap hr
theorem OwnS.sn{S:Nat→Prop}{w:World}{l:List Nd}{v:Value}{g:Option Nat}(h:OwnS S w l v g):SN S w l v:=by
 obtain⟨vs,h1,h2,h3,h4⟩:=h;exact SN.of_own h1 (h2.keep (S':=S) (Fr.refl nob w) (fun _ _ x=>x.elim) (fun _ _ x=>.inl x)) (fun k hk=>h4 k (by rw[←h3,hk]))
theorem wpList_append_own1{S:Nat→Prop}{w:World}{ops:Array Oper}{rest:List Oper}{o:Oper}{a:Act}{Q:Exit→Act→World→Prop}(hgd:o.guard=none)(s x:Operand)
 (ho:o.op=.call {callee:=.builtin .append,args:= #[s,x],argTypes:= #[73,73]})
 (l:List Nd) (n:Nd) (v y:Value) (q:Nat) (g:Option Nat) (hs:a.eval s=v) (hown:OwnS S w l v g) (hx:a.eval x=.slice (some ⟨q,0,none⟩) 1 1) (hy:RN (LS2 S g) w n y)
 (hc:w.cell? ⟨q,0,none⟩=some y) (hS:∀k,S k→k<w.heap.size) (hb:l.length≤3000000)
 (h:∀v' w' g',OwnS S w' (l++[n]) v' g'→Fr (fun k=>g=some k) w w'→(∀k,g'=some k→g=some k∨w.heap.size≤k)→wpList prog ops Q rest (a.put o.dst v') w'):wpList prog ops Q (o::rest) a w:=by
 obtain⟨i0,hi,p,r,t⟩:=info_parts Zkl;obtain⟨vs,h1,h2,h3,h4⟩:=hown;have m:VN (LS2 S g) w [n] [y]:=⟨y,[],rfl,hy,rfl⟩;refine wpList_append_g hgd s x _ ho 24 i0 .nilIface 1 16 underlying73 hi p r t rfl (by decide) v l.length vs hs h1 ⟨q,0,none⟩ 1 1 [y] hx rfl ?_ m.cell1 (by unfold maxLen;omega) (by omega) ?_
 ·intro j u hj
  match j,hj with
  |0,hj=>simp at hj;subst hj;simpa[Addr.add]using hc
 intro v' w' c d;have b:∀k,v'.ownBlock=some k→g=some k∨w.heap.size≤k:=fun k hk=>by
  rcases d.old k hk with h|h
  ·exact .inl (by rw[←h3,h])
  ·exact .inr h
 have f:Fr (fun k=>g=some k) w w':=d.fr.mono fun k _ hk=>by rw[←h3,hk]
 refine h v' w' v'.ownBlock ⟨vs++[y],by simpa using c,(VN.append h2 m).keep f (fun _ _ x=>.inr x) ?_,rfl,?_⟩ f b
 ·intro k hk x;rcases x with x|x
  ·exact .inl x
  ·rcases b k x with e|e
   ·exact .inr e
   ·omega
 ·intro k hk i;rcases b k hk with e|e
  ·exact h4 k e i
  ·have:=hS k i;omega
theorem T.nds_take{l:List T}{k:Nat}(h:k<l.length):T.nds (l.take (k+1))=T.nds (l.take k)++[l[k].nd]:=by
 simp only[T.nds_eq];rw[List.take_succ_eq_append_getElem h,List.map_append];rfl
theorem T.nds_length(l:List T):(T.nds l).length=l.length:=by rw[T.nds_eq,List.length_map]
theorem ZxF{w wr w1 w2:World}{o:Obj}{g:Option Nat}(h2:w1.heap.size≤wr.heap.size)(h3:w.heap.size<w1.heap.size)(hg:∀k,g=some k→k<wr.heap.size):
 ∀k,k<w2.heap.size→LS2 (Old w) g k→Old (wr.alloc o) k:=by
 intro k _ hk;unfold Old;rcases hk with hk|hk
 ·unfold Old at hk;simp;omega
 ·have:=hg k hk;simp;omega
theorem Zw5(m:Nat):∀(t:T) (cs:List Value) (w:World),t.nd.size≤m→t.nd.size≤3000000→RT nob w t cs→
 Calls prog 76 #[.agg cs.toArray] w fun e w'=>∃v,e=.returned v∧RN (Old w) w' t.nd v∧Fr nob w w':=by
 induction m with
 |zero=>intro t cs w h;have:=t.nd.size_pos;omega
 |succ m ih=>
  intro t cs w hm hb h;obtain⟨kd,s,ps,mn,mx,nu,a,c,ht,rfl,hs⟩:=h.open';have IH:=hid ih;have HT:=hid h;have HE:=hid ht;clear ih h hs ht;have G:=hid t.kids_nd;have z:=Nd.length_le t.nd.kids;have R:=hid t.nd.size_kids;have a9:t.kids.length≤3000000:=by have h1:=G.out;have h2:=R.out;rw[h1,List.length_map]at z;rw[←h1]at z;omega
  go_enter func76,ntmps76;go_wp2_with fail;refine(kids_T t _ _ (HT.out.on ((Fr.refl _ _).alloc _))).mono ?_;rintro e w1 ⟨u,rfl,s1,f1⟩;obtain⟨a1,c1,rfl⟩:=s1.shape;have r:=f1.heap (heap_alloc_new _ _) (fun x=>x);have H:=lt_heap r;have S1:=hid s1;have F1:=hid f1;have K:=hid r;clear s1 f1 r z;go_wp2_with fail
  go_loopw [3,9] (fun s i wr=>∃(k:Nat) (g:Option Nat),i=.int .i64 k∧k≤t.kids.length∧OwnS (Old w) wr (T.nds (t.kids.take k)) s g∧Fr nob w1 wr∧∀j,g=some j→w1.heap.size≤j) (fun _ i _=>t.kids.length-(intOf i).toNat)
  case atStart=>exact⟨0,none,rfl,Nat.zero_le _,OwnS.nil _ _,Fr.refl _ _,fun _ h=>by cases h⟩
  case round=>
   obtain⟨k,g,rfl,hk,ho,fr,hg⟩:=hrel;obtain⟨av,cv,rfl⟩:=ho.shape;have HO:=hid ho;have FR:=hid fr;have HG:=hid hg;have P:=fr.size;clear ho fr hg;by_cases A:k<t.kids.length
   ·obtain⟨q,off,C,cx,he,hx,hc,a0⟩:=(S1.out.on FR.out).get A;injection he with e1 e2 e3;subst e1;subst e3;have o:=List.getElem_mem A;have V:t.kids[k].nd.size<t.nd.size:=Nd.kid_lt (by rw[G.out];exact List.mem_map_of_mem o);have I:=hid (T.nds_take A);have Q:(T.nds (t.kids.take k)).length≤3000000:=by rw[T.nds_length,List.length_take];omega
    obtain⟨x,J⟩:∃x,t.kids[k]=x:=⟨_,rfl⟩;rw[J]at hx V I;obtain⟨k',s',b3,b0,b1,b2,a',c',U,rfl,W⟩:=hx.open';obtain⟨d0,d1,d2,d3,d4,d5,d6,d7,d8⟩:=hc.nine;have HX:=hid hx;clear hx W U e2 hc J o;go_wp2_with fail;refine(IH.out x _ _ (by omega) (by omega) (HX.out.on ((Fr.refl _ _).alloc _))).mono ?_;rintro e w2 ⟨y,rfl,hy,f2⟩;have d:=hy.shape;have HY:=hid hy;have O:=f2.size;have F2:=hid f2;clear hy f2;simp only[World.size_alloc]at O;have hS:=hid (fun X=>fun k (hk:Old w k)=>(by unfold Old at hk;simp only[World.size_alloc];omega:k<(w2.alloc X).heap.size));rcases d with rfl|⟨iy,zy,rfl⟩
    all_goals
     go_wp2_with(at_builtin;refine wpList_append_own1 (S:=Old w) rfl (.tmp 13) (.tmp 16) rfl (T.nds (t.kids.take k)) x.nd _ _ w2.heap.size g (by rfl) (HO.out.on (((Fr.refl _ _).alloc _).trans' (F2.out.alloc _))) (by rfl) (RN.keep ((Fr.refl nob w2).alloc _) (fun _ _ x=>x.elim) (ZxF P H HO.out.lt) _ _ HY.out) (by simp) (hS.out _) Q ?_;intro v' w3 g' B E F;obtain⟨Y,Z,D⟩:=B.shape;simp only[List.length_append,List.length_singleton]at D;subst D;have N:=hid B;have L:=hid E;have M:=hid F;clear B E F);go_roundw
     case rel=>exact⟨k+1,g',by go_num,by omega,by rw[I.out];exact N.out,(((FR.out.alloc _).trans' F2.out).alloc _).trans L.out (fun i hi x=>by have:=HG.out i x;omega),fun j hj=>by
      rcases M.out j hj with h|h
      ·exact HG.out j h
      ·simp only[World.size_alloc]at h;omega⟩
     case measure=>simp[intOf];omega
   ·obtain rfl:k=t.kids.length:=by omega
    have hT:=List.take_of_length_le (l:=t.kids) (Nat.le_refl _);have hO:=HO.out;rw[hT]at hO⊢;have n:=hid hO.sn;clear hT hO;have b:=FR.out.heap K.out (fun x=>x);have d0:=cell_at (j:=0) b rfl;have d1:=cell_at (j:=1) b rfl;have d2:=cell_at (j:=2) b rfl;have d3:=cell_at (j:=3) b rfl;have d4:=cell_at (j:=4) b rfl;have d6:=cell_at (j:=6) b rfl;have d7:=cell_at (j:=7) b rfl;have d8:=cell_at (j:=8) b rfl;have FW:=hid ((((Fr.refl nob w).alloc _).trans' F1.out).trans' FR.out);clear b;have p:=hid (show T.nd1 ps=t.of.nd by rw[HE.out];cases ps<;>rfl);by_cases a1:kd=1
    ·subst a1;have hn:=hid (show t.nd=.one s by rw[HE.out];simp[T.nd]);go_wp2;go_ret;exact⟨_,rfl,by rw[hn.out,RN];rfl,FW.out⟩
    by_cases a2:kd=2
    ·subst a2;have hn:=hid (show t.nd=.cat (T.nds t.kids) by rw[HE.out];simp[T.nd,T.kids,T.kind,T.parts]);go_wp2;go_ret;exact⟨_,rfl,by rw[hn.out];exact ZjK.2 ⟨_,rfl,n.out⟩,FW.out⟩
    by_cases a3:kd=3
    ·subst a3;have hn:=hid (show t.nd=.alt (T.nds t.kids) by rw[HE.out];simp[T.nd,T.kids,T.kind,T.parts]);go_wp2;go_ret;exact⟨_,rfl,by rw[hn.out];exact ZjL.2 ⟨_,rfl,n.out⟩,FW.out⟩
    by_cases a4:kd=4
    ·subst a4;have hn:=hid (show t.nd=.rep t.of.nd mn mx by rw[←p.out,HE.out];simp[T.nd]);have f:T.nds t.kids=[t.of.nd]:=by rw[HE.out];simp[T.kids,T.kind,T.nds]
     have hS:=n.out;rw[f]at hS⊢;clear f;obtain⟨q,off,C,y,he,hy,hc⟩:=hS.get (k:=0) (by simp);injection he with e1 e2 e3;subst e1;subst e3;simp only[Nat.add_zero]at hc;have d:=hy.shape;have HY:=hid hy;clear hy e2 hS;simp only[List.length_cons,List.length_nil,Nat.zero_add];rcases d with rfl|⟨iy,zy,rfl⟩
     all_goals
      go_wp2
      go_quiet (fail)
      go_wp2;go_ret;exact⟨_,rfl,by rw[hn.out,RN];exact⟨_,rfl,RN.keep ((Fr.refl nob wr).drewN _) (fun _ _ x=>x.elim) (fun _ _ x=>x) _ _ HY.out⟩,FW.out.drewN _⟩
    by_cases a5:kd=5
    ·subst a5;have hn:=hid (show t.nd=.group nu t.of.nd by rw[←p.out,HE.out];simp[T.nd]);have f:T.nds t.kids=[t.of.nd]:=by rw[HE.out];simp[T.kids,T.kind,T.nds]
     have hS:=n.out;rw[f]at hS⊢;clear f;obtain⟨q,off,C,y,he,hy,hc⟩:=hS.get (k:=0) (by simp);injection he with e1 e2 e3;subst e1;subst e3;simp only[Nat.add_zero]at hc;have d:=hy.shape;have HY:=hid hy;clear hy e2 hS;simp only[List.length_cons,List.length_nil,Nat.zero_add];rcases d with rfl|⟨iy,zy,rfl⟩
     all_goals
      go_wp2
      go_quiet (fail)
      go_wp2;go_ret;exact⟨_,rfl,by rw[hn.out,RN];exact⟨_,rfl,RN.keep ((Fr.refl nob wr).drewN _) (fun _ _ x=>x.elim) (fun _ _ x=>x) _ _ HY.out⟩,FW.out.drewN _⟩
    by_cases a6:kd=6
    ·subst a6;have hn:=hid (show t.nd=.back nu by rw[HE.out];simp[T.nd]);go_wp2;go_ret;exact⟨_,rfl,by rw[hn.out,RN];rfl,FW.out⟩
    by_cases a7:kd=7
    ·subst a7;have hn:=hid (show t.nd=.start by rw[HE.out];simp[T.nd]);go_wp2;go_ret;exact⟨_,rfl,by rw[hn.out,RN];rfl,FW.out⟩
    by_cases a8:kd=8
    ·subst a8;have hn:=hid (show t.nd=.fin by rw[HE.out];simp[T.nd]);go_wp2;go_ret;exact⟨_,rfl,by rw[hn.out,RN];rfl,FW.out⟩
    ·have hn:=hid (show t.nd=.empty by rw[HE.out];simp[T.nd,a1,a2,a3,a4,a5,a6,a7,a8]);go_wp2;go_ret;exact⟨_,rfl,by rw[hn.out,RN];rfl,FW.out⟩
theorem T.kid_at(t:T){k:Nat}(h:k<t.kids.length)(h':k<t.nd.kids.length):t.nd.kids[k]=t.kids[k].nd:=by
 have:t.nd.kids[k]? =(t.kids[k]?).map T.nd:=by rw[t.kids_nd,List.getElem?_map]
 rw[List.getElem?_eq_getElem h',List.getElem?_eq_getElem h]at this;simpa using this
theorem T.kids_len(t:T):t.nd.kids.length=t.kids.length:=by rw[t.kids_nd,List.length_map]
end Go.Proofs.YtgllcniibbaoaaaGreatDoor
