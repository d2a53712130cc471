/- Lemmas of this claim. -/
import Derived.Deep.RegionLaw
import Derived.Laws.OwnMore
import Derived.Test.YtkfddjopbocpkaaGreatDoorM01
set_option linter.unusedVariables false
set_option linter.unusedSimpArgs false
set_option maxRecDepth 100000
set_option maxHeartbeats 4000000
namespace Go.Proofs.YtkfddjopbocpkaaGreatDoor
open Go.RowKit
section
variable {P:Program}
theorem ZC{x a:TypeId}{fs:Array Field}(h:P.underlying a=some (.struct fs))(v:Value)(w:World):
 (Instr.typeAssert (.iface a v) x a true).run P w=.ok (.tuple #[v,.bool true]) w:=by
 simp[Instr.typeAssert,run_underlying h]
theorem Zz{x a t:TypeId}{fs:Array Field}(h:P.underlying a=some (.struct fs)){z:Value}(hz:∀w,(zeroValue a).run P w=.ok z w)(ht:t≠a)(v:Value)(w:World):
 (Instr.typeAssert (.iface t v) x a true).run P w=.ok (.tuple #[z,.bool false]) w:=by
 simp[Instr.typeAssert,run_underlying h,ht,hz]
theorem ZD{x a:TypeId}{fs:Array Field}(h:P.underlying a=some (.struct fs)){z:Value}(hz:∀w,(zeroValue a).run P w=.ok z w)(w:World):
 (Instr.typeAssert .nilIface x a true).run P w=.ok (.tuple #[z,.bool false]) w:=by
 simp[Instr.typeAssert,run_underlying h,hz]
end
theorem ZfO(v:Value)(w:World):(Instr.typeAssert (.iface 147 v) 26 147 true).run Tryz.prog w=.ok (.tuple #[v,.bool true]) w:=ZC Tryz.underlying147 v w
theorem Zfb(t:TypeId)(v:Value)(w:World)(h:t≠147):(Instr.typeAssert (.iface t v) 26 147 true).run Tryz.prog w=.ok (.tuple #[.agg #[],.bool false]) w:=Zz Tryz.underlying147 (fun _=>by kernel_rfl) h v w
theorem ZfP(w:World):(Instr.typeAssert .nilIface 26 147 true).run Tryz.prog w=.ok (.tuple #[.agg #[],.bool false]) w:=ZD Tryz.underlying147 (fun _=>by kernel_rfl) w
attribute [go_sem] ZfO Zfb ZfP
theorem Zi6(v:Value)(w:World):(Instr.typeAssert (.iface 134 v) 26 134 true).run Tryz.prog w=.ok (.tuple #[v,.bool true]) w:=ZC Tryz.underlying134 v w
theorem Zg9(t:TypeId)(v:Value)(w:World)(h:t≠134):(Instr.typeAssert (.iface t v) 26 134 true).run Tryz.prog w=.ok (.tuple #[.agg #[.int .u64 0,.int .u64 0,.int .u64 0,.int .u64 0],.bool false]) w:=Zz Tryz.underlying134 (fun _=>by kernel_rfl) h v w
theorem Zi7(w:World):(Instr.typeAssert .nilIface 26 134 true).run Tryz.prog w=.ok (.tuple #[.agg #[.int .u64 0,.int .u64 0,.int .u64 0,.int .u64 0],.bool false]) w:=ZD Tryz.underlying134 (fun _=>by kernel_rfl) w
attribute [go_sem] Zi6 Zg9 Zi7
theorem Zi8(v:Value)(w:World):(Instr.typeAssert (.iface 136 v) 26 136 true).run Tryz.prog w=.ok (.tuple #[v,.bool true]) w:=ZC Tryz.underlying136 v w
theorem Zha(t:TypeId)(v:Value)(w:World)(h:t≠136):(Instr.typeAssert (.iface t v) 26 136 true).run Tryz.prog w=.ok (.tuple #[.agg #[.slice none 0 0],.bool false]) w:=Zz Tryz.underlying136 (fun _=>by kernel_rfl) h v w
theorem Zi9(w:World):(Instr.typeAssert .nilIface 26 136 true).run Tryz.prog w=.ok (.tuple #[.agg #[.slice none 0 0],.bool false]) w:=ZD Tryz.underlying136 (fun _=>by kernel_rfl) w
attribute [go_sem] Zi8 Zha Zi9
theorem Zja(v:Value)(w:World):(Instr.typeAssert (.iface 137 v) 26 137 true).run Tryz.prog w=.ok (.tuple #[v,.bool true]) w:=ZC Tryz.underlying137 v w
theorem Zhb(t:TypeId)(v:Value)(w:World)(h:t≠137):(Instr.typeAssert (.iface t v) 26 137 true).run Tryz.prog w=.ok (.tuple #[.agg #[.slice none 0 0],.bool false]) w:=Zz Tryz.underlying137 (fun _=>by kernel_rfl) h v w
theorem Zjb(w:World):(Instr.typeAssert .nilIface 26 137 true).run Tryz.prog w=.ok (.tuple #[.agg #[.slice none 0 0],.bool false]) w:=ZD Tryz.underlying137 (fun _=>by kernel_rfl) w
attribute [go_sem] Zja Zhb Zjb
theorem Zjc(v:Value)(w:World):(Instr.typeAssert (.iface 139 v) 26 139 true).run Tryz.prog w=.ok (.tuple #[v,.bool true]) w:=ZC Tryz.underlying139 v w
theorem Zhc(t:TypeId)(v:Value)(w:World)(h:t≠139):(Instr.typeAssert (.iface t v) 26 139 true).run Tryz.prog w=.ok (.tuple #[.agg #[.nilIface,.int .i64 0,.int .i64 0],.bool false]) w:=Zz Tryz.underlying139 (fun _=>by kernel_rfl) h v w
theorem Zjd(w:World):(Instr.typeAssert .nilIface 26 139 true).run Tryz.prog w=.ok (.tuple #[.agg #[.nilIface,.int .i64 0,.int .i64 0],.bool false]) w:=ZD Tryz.underlying139 (fun _=>by kernel_rfl) w
attribute [go_sem] Zjc Zhc Zjd
theorem ZfQ(v:Value)(w:World):(Instr.typeAssert (.iface 141 v) 26 141 true).run Tryz.prog w=.ok (.tuple #[v,.bool true]) w:=ZC Tryz.underlying141 v w
theorem Zfc(t:TypeId)(v:Value)(w:World)(h:t≠141):(Instr.typeAssert (.iface t v) 26 141 true).run Tryz.prog w=.ok (.tuple #[.agg #[.int .i64 0,.nilIface],.bool false]) w:=Zz Tryz.underlying141 (fun _=>by kernel_rfl) h v w
theorem ZfR(w:World):(Instr.typeAssert .nilIface 26 141 true).run Tryz.prog w=.ok (.tuple #[.agg #[.int .i64 0,.nilIface],.bool false]) w:=ZD Tryz.underlying141 (fun _=>by kernel_rfl) w
attribute [go_sem] ZfQ Zfc ZfR
theorem Zhd(v:Value)(w:World):(Instr.typeAssert (.iface 143 v) 26 143 true).run Tryz.prog w=.ok (.tuple #[v,.bool true]) w:=ZC Tryz.underlying143 v w
theorem ZfS(t:TypeId)(v:Value)(w:World)(h:t≠143):(Instr.typeAssert (.iface t v) 26 143 true).run Tryz.prog w=.ok (.tuple #[.agg #[.int .i64 0],.bool false]) w:=Zz Tryz.underlying143 (fun _=>by kernel_rfl) h v w
theorem Zhe(w:World):(Instr.typeAssert .nilIface 26 143 true).run Tryz.prog w=.ok (.tuple #[.agg #[.int .i64 0],.bool false]) w:=ZD Tryz.underlying143 (fun _=>by kernel_rfl) w
attribute [go_sem] Zhd ZfS Zhe
theorem ZfT(v:Value)(w:World):(Instr.typeAssert (.iface 145 v) 26 145 true).run Tryz.prog w=.ok (.tuple #[v,.bool true]) w:=ZC Tryz.underlying145 v w
theorem Zfd(t:TypeId)(v:Value)(w:World)(h:t≠145):(Instr.typeAssert (.iface t v) 26 145 true).run Tryz.prog w=.ok (.tuple #[.agg #[],.bool false]) w:=Zz Tryz.underlying145 (fun _=>by kernel_rfl) h v w
theorem ZfU(w:World):(Instr.typeAssert .nilIface 26 145 true).run Tryz.prog w=.ok (.tuple #[.agg #[],.bool false]) w:=ZD Tryz.underlying145 (fun _=>by kernel_rfl) w
attribute [go_sem] ZfT Zfd ZfU
theorem Zje(v:Value)(w:World):(Instr.typeAssert (.iface 146 v) 26 146 true).run Tryz.prog w=.ok (.tuple #[v,.bool true]) w:=ZC Tryz.underlying146 v w
theorem Zhf(t:TypeId)(v:Value)(w:World)(h:t≠146):(Instr.typeAssert (.iface t v) 26 146 true).run Tryz.prog w=.ok (.tuple #[.agg #[],.bool false]) w:=Zz Tryz.underlying146 (fun _=>by kernel_rfl) h v w
theorem Zjf(w:World):(Instr.typeAssert .nilIface 26 146 true).run Tryz.prog w=.ok (.tuple #[.agg #[],.bool false]) w:=ZD Tryz.underlying146 (fun _=>by kernel_rfl) w
attribute [go_sem] Zje Zhf Zjf
open Go.Lib (hid)
theorem kids_any(S:Nat→Prop)(n:Nd)(v:Value)(w:World)(h:RN S w n v)(hS:∀k,S k→k<w.heap.size):
 Calls Tryz.prog 63 #[v] w fun e w'=>∃u,e=.returned u∧SN S w' n.kids u∧Fr nob w w':=by
 cases n with
 |nil=>
  rw[RN]at h;subst h;go_enter Tryz.func63,Tryz.ntmps63;go_wp2;go_ret;exact⟨_,rfl,SN.nil,Fr.refl _ _⟩
 |empty=>
  rw[RN]at h;subst h;go_enter Tryz.func63,Tryz.ntmps63;go_wp2;go_ret;exact⟨_,rfl,SN.nil,Fr.refl _ _⟩
 |one s=>
  rw[RN]at h;subst h;go_enter Tryz.func63,Tryz.ntmps63;go_wp2;go_ret;exact⟨_,rfl,SN.nil,Fr.refl _ _⟩
 |back n=>
  rw[RN]at h;subst h;go_enter Tryz.func63,Tryz.ntmps63;go_wp2;go_ret;exact⟨_,rfl,SN.nil,Fr.refl _ _⟩
 |start=>
  rw[RN]at h;subst h;go_enter Tryz.func63,Tryz.ntmps63;go_wp2;go_ret;exact⟨_,rfl,SN.nil,Fr.refl _ _⟩
 |fin=>
  rw[RN]at h;subst h;go_enter Tryz.func63,Tryz.ntmps63;go_wp2;go_ret;exact⟨_,rfl,SN.nil,Fr.refl _ _⟩
 |cat l=>
  rw[ZjK]at h;obtain⟨u,rfl,h⟩:=h;obtain⟨a,c,rfl⟩:=h.shape;have HH:=hid h;clear h;go_enter Tryz.func63,Tryz.ntmps63;go_wp2;go_ret;exact⟨_,rfl,HH.out.on ((Fr.refl _ _).alloc _),(Fr.refl _ _).alloc _⟩
 |alt l=>
  rw[ZjL]at h;obtain⟨u,rfl,h⟩:=h;obtain⟨a,c,rfl⟩:=h.shape;have HH:=hid h;clear h;go_enter Tryz.func63,Tryz.ntmps63;go_wp2;go_ret;exact⟨_,rfl,HH.out.on ((Fr.refl _ _).alloc _),(Fr.refl _ _).alloc _⟩
 |rep x mn mx=>
  rw[RN]at h;obtain⟨u,rfl,h⟩:=h;have hsh:=h.shape;have HH:=hid h;clear h;rcases hsh with rfl|⟨i,x,rfl⟩
  all_goals
   go_enter Tryz.func63,Tryz.ntmps63;go_wp2;go_ret;exact⟨_,rfl,SN.one' (HH.out.on ((Fr.refl _ _).alloc _)) (fun k hk=>by have:=hS k hk;simp;omega) _ (by simp),((Fr.refl _ _).alloc _).alloc _⟩
 |group n x=>
  rw[RN]at h;obtain⟨u,rfl,h⟩:=h;have hsh:=h.shape;have HH:=hid h;clear h;rcases hsh with rfl|⟨i,x,rfl⟩
  all_goals
   go_enter Tryz.func63,Tryz.ntmps63;go_wp2;go_ret;exact⟨_,rfl,SN.one' (HH.out.on ((Fr.refl _ _).alloc _)) (fun k hk=>by have:=hS k hk;simp;omega) _ (by simp),((Fr.refl _ _).alloc _).alloc _⟩
def Nd.told:Nd→Nd
 | .nil=>.empty
 |n=>n
def Nd.isAlt:Nd→Bool
 | .alt _=>true
 |_=>false
theorem told_any2(S:Nat→Prop)(n:Nd)(v:Value)(w:World)(h:RN S w n v):Calls Tryz.prog 96 #[v] w fun e w'=>∃u,e=.returned u∧RN S w n.told u∧(v=.nilIface∨u=v)∧w=w':=by
 rcases h.shape with rfl|⟨i,x,rfl⟩
 ·have hn:n=.nil:=by cases n<;>rw[RN]at h<;>first|rfl|(cases h;done)|(obtain⟨_,h,_⟩:=h;cases h)
  subst hn;have H:=hid h;clear h;go_enter Tryz.func96,Tryz.ntmps96;go_wp2;go_ret;exact⟨_,rfl,by rw[Nd.told,RN];rfl,by simp,rfl⟩
 ·have hn:n.told=n:=by cases n<;>first|rfl|(rw[RN]at h;cases h)
  have H:=hid h;clear h;have HN:=hid hn;clear hn;go_enter Tryz.func96,Tryz.ntmps96;go_wp2;go_ret;exact⟨_,rfl,by rw[HN.out];exact H.out,by simp,rfl⟩
theorem told_any(S:Nat→Prop)(n:Nd)(v:Value)(w:World)(h:RN S w n v):Calls Tryz.prog 96 #[v] w fun e w'=>∃u,e=.returned u∧RN S w n.told u∧w=w':=by
 refine(told_any2 S n v w h).mono ?_;rintro e w1 ⟨u,h1,h2,_,h3⟩;exact⟨u,h1,h2,h3⟩
def Znh(S:Nat→Prop)(w:World)(v:Value):Nd→Prop
    | .nil=>v=.nilIface
    | .empty=>v=.iface 147 (.agg #[])
    | .one s=>v=.iface 134 (.agg s.cells.toArray)
    | .cat l=>∃(a:Option Addr) (c:Nat),v=.iface 136 (.agg #[.slice a l.length c])∧SN S w l (.slice a l.length c)
    | .alt l=>∃(a:Option Addr) (c:Nat),v=.iface 137 (.agg #[.slice a l.length c])∧SN S w l (.slice a l.length c)
    | .rep x mn mx=>∃u,v=.iface 139 (.agg #[u,.int .i64 mn,.int .i64 mx])∧RN S w x u
    | .group n x=>∃u,v=.iface 141 (.agg #[.int .i64 n,u])∧RN S w x u
    | .back n=>v=.iface 143 (.agg #[.int .i64 n])
    | .start=>v=.iface 145 (.agg #[])
    | .fin=>v=.iface 146 (.agg #[])
theorem RN.kind{S:Nat→Prop}{w:World}{n:Nd}{v:Value}(h:RN S w n v):Znh S w v n:=by
 cases n with
 |cat l=>rw[ZjK]at h;obtain⟨u,rfl,h⟩:=h;obtain⟨a,c,rfl⟩:=h.shape;exact⟨a,c,rfl,h⟩
 |alt l=>rw[ZjL]at h;obtain⟨u,rfl,h⟩:=h;obtain⟨a,c,rfl⟩:=h.shape;exact⟨a,c,rfl,h⟩
 |_=>rw[RN]at h;exact h
def Nd.ty:Nd→Option TypeId
 | .nil=>none
 | .empty=>some 147
 | .one _=>some 134
 | .cat _=>some 136
 | .alt _=>some 137
 | .rep _ _ _=>some 139
 | .group _ _=>some 141
 | .back _=>some 143
 | .start=>some 145
 | .fin=>some 146
theorem RN.tyv{S:Nat→Prop}{w:World}{n:Nd}{v:Value}(h:RN S w n v):(n.ty=none∧v=.nilIface)∨∃i x,n.ty=some i∧v=.iface i x:=by
 have:=h.kind;cases n with
 |nil=>exact .inl ⟨rfl,this⟩
 |cat l=>obtain⟨a,c,h,_⟩:=this;exact .inr ⟨_,_,rfl,h⟩
 |alt l=>obtain⟨a,c,h,_⟩:=this;exact .inr ⟨_,_,rfl,h⟩
 |rep x mn mx=>obtain⟨a,h,_⟩:=this;exact .inr ⟨_,_,rfl,h⟩
 |group n x=>obtain⟨a,h,_⟩:=this;exact .inr ⟨_,_,rfl,h⟩
 |_=>exact .inr ⟨_,_,rfl,this⟩
theorem alt_any(S:Nat→Prop)(n:Nd)(v:Value)(w:World)(h:RN S w n v):Calls Tryz.prog 97 #[v] w fun e w'=>e=.returned (.bool n.isAlt)∧Fr nob w w':=by
 have hk:=h.kind;have H:=hid h;clear h;by_cases ha:∃l,n=.alt l
 ·obtain⟨l,rfl⟩:=ha;obtain⟨a,c,rfl,_⟩:=hk;go_enter Tryz.func97,Tryz.ntmps97;go_wp2;go_ret;exact⟨rfl,(Fr.refl _ _).alloc _⟩
 ·have hn:n.isAlt=false:=by cases n<;>first|rfl|exact(ha ⟨_,rfl⟩).elim
  rw[hn];clear hk;rcases H.out.tyv with⟨_,rfl⟩|⟨i,x,ht,rfl⟩
  ·go_enter Tryz.func97,Tryz.ntmps97;go_wp2;go_ret;exact⟨rfl,(Fr.refl _ _).alloc _⟩
  ·have hi:i≠137:=by
    cases n<;>simp only[Nd.ty,Option.some.injEq]at ht<;>first|(subst ht;decide)|(exact(ha ⟨_,rfl⟩).elim)|cases ht
   clear ha ht hn;go_enter Tryz.func97,Tryz.ntmps97;go_wp2;go_ret;exact⟨rfl,(Fr.refl _ _).alloc _⟩
theorem RN.weak{S:Nat→Prop}{w:World}{n:Nd}{u:Value}(h:RN S w n u):RN nob w n u:=RN.keep (Fr.refl nob w) (fun _ _ x=>x.elim) (fun _ _ x=>x.elim) _ _ h
theorem step_append_g{P:Program}{ops:Array Oper}{o:Oper}{a:Act}{w:World}{K:Act→World→Prop}{Q:Exit→Act→World→Prop}{E:Prop}
 (hg:o.guard=none) (s x:Operand) (t:TypeId) (hop:o.op=Op.call {callee:=Callee.builtin Builtin.append,args:= #[s,x],argTypes:= #[t,t]})
 (e:TypeId) (i:TypeInfo) (z:Value) (size bytes:Nat) (ht:P.underlying t=some (.slice e)) (hi:P.info? e=some i) (hz:i.zero=some z)
 (hsize:i.size=size) (hby:i.bytes=bytes) (hzs:z.cells.size=size) (hsz:0<size)
 (v:Value) (n:Nat) (xs:List Value) (hs:a.eval s=v) (hown:w.ownsRow 0 e size v n xs)
 (ad:Addr) (m c:Nat) (news:List Value) (hx:a.eval x=.slice (some ad) m c) (hl:news.length=m*size) (hnews:∀j u,news[j]? =some u→w.cell? (ad.add j)=some u) (h1:∀u∈news,u.oneCell'=true)
 (h63:n+m≤maxLen) (hbytes:(n+m)*bytes≤140737488355328)
 (hK:∀v' w',w'.ownsRow 0 e size v' (n+m) (xs++news)→Appd m v v' w w'→K (a.put o.dst v') w'):
 if Region.wanted o (yielded ops a.tmps)=true then Oper.wp P o a w K Q else E:=by
 have hw:Region.wanted o (yielded ops a.tmps)=true:=by simp[Region.wanted,hg]
 rw[if_pos hw];obtain⟨v',w',hr,h2,h3⟩:=Zdo (P:=P) w t o.type e i z size bytes ht hi hz hsize hby hzs hsz v n xs hown ad m c news hl hnews h1 h63 hbytes;unfold Oper.wp execOp;simp only[hop,resolve,invoke,builtin,Sem.run_bind,Sem.run_pure,Result.andThen_ok,List.map_toArray,List.map_cons,List.map_nil,hs,hx,hr];exact hK _ _ h2 h3
section
variable {b:Nat} {o:Int} {c:List Int} {g:Option Nat} {w W0 w3:World} {v v':Value} {gn:Int}
end
def LG(g:Option Nat):Nat→Prop:=fun k=>g=some k
theorem Zkl:(Tryz.prog.info? 26).map (fun i=>(i.zero,i.size,i.bytes))=some (some .nilIface,1,16):=by kernel_rfl
theorem VN.cell1{S:Nat→Prop}{w:World}:∀{l:List Nd} {vs:List Value},VN S w l vs→∀u∈vs,u.oneCell'=true
 |[],_,h,u,hu=>by rw[VN]at h;subst h;cases hu
 |t::ts,_,h,u,hu=>by
  rw[VN]at h;obtain⟨v,r,rfl,h1,h⟩:=h;rcases List.mem_cons.1 hu with rfl|hu
  ·rcases h1.shape with rfl|⟨i,x,rfl⟩<;>rfl
  ·exact VN.cell1 h u hu
def Zd3(l:List Nd)(n:Nd):Nd:=match l with
 |[]=>.empty
 |[x]=>x
 |_=>n
def Nd.part:Nd→List Nd
 | .nil| .empty=>[]
 | .cat l=>l
 |n=>[n]
def Nd.arm:Nd→List Nd
 | .alt l=>l
 |n=>[n.told]
def parts:List Nd→List Nd
 |[]=>[]
 |t::ts=>t.part++parts ts
def arms:List Nd→List Nd
 |[]=>[]
 |t::ts=>t.arm++arms ts
def Za2(l:List Nd):Nd:=Zd3 (parts l) (.cat (parts l))
def Za3(l:List Nd):Nd:=Zd3 (arms l) (.alt (arms l))
theorem Nd.part_sizes(n:Nd):Nd.sizes n.part≤n.size:=by
 cases n<;>simp only[Nd.part,Nd.sizes,Nd.size]<;>omega
theorem Nd.arm_sizes(n:Nd):Nd.sizes n.arm≤n.size:=by
 cases n<;>simp only[Nd.arm,Nd.told,Nd.sizes,Nd.size]<;>omega
theorem ZcA(l:List Nd):Nd.sizes (parts l)≤Nd.sizes l:=by
 induction l with
 |nil=>simp[parts]
 |cons t ts ih=>have:=t.part_sizes;simp only[parts,Nd.sizes,Nd.sizes_append];omega
theorem Zdf(l:List Nd):Nd.sizes (arms l)≤Nd.sizes l:=by
 induction l with
 |nil=>simp[arms]
 |cons t ts ih=>have:=t.arm_sizes;simp only[arms,Nd.sizes,Nd.sizes_append];omega
theorem ZfV(l m:List Nd):parts (l++m)=parts l++parts m:=by
 induction l with
 |nil=>rfl
 |cons t ts ih=>simp only[List.cons_append,parts,ih,List.append_assoc]
theorem Zhg(l m:List Nd):arms (l++m)=arms l++arms m:=by
 induction l with
 |nil=>rfl
 |cons t ts ih=>simp only[List.cons_append,arms,ih,List.append_assoc]
theorem Zjg{l:List Nd}{k:Nat}(h:k<l.length):parts (l.take (k+1))=parts (l.take k)++l[k].part:=by
 rw[List.take_succ_eq_append_getElem h,ZfV];simp[parts]
theorem Zkm{l:List Nd}{k:Nat}(h:k<l.length):arms (l.take (k+1))=arms (l.take k)++l[k].arm:=by
 rw[List.take_succ_eq_append_getElem h,Zhg];simp[arms]
mutual
def Nd.norm:Nd→Nd
 | .nil=>.empty
 | .empty=>.empty
 | .one s=>.one s
 | .cat l=>.cat (Nd.norms l)
 | .alt l=>.alt (Nd.norms l)
 | .rep x a b=>.rep x.norm a b
 | .group n x=>.group n x.norm
 | .back n=>.back n
 | .start=>.start
 | .fin=>.fin
def Nd.norms:List Nd→List Nd
 |[]=>[]
 |t::ts=>t.norm::Nd.norms ts
end
theorem Nd.norms_eq(l:List Nd):Nd.norms l=l.map Nd.norm:=by
 induction l with
 |nil=>rfl
 |cons t ts ih=>simp only[Nd.norms,List.map_cons,ih]
def Nd.head:Nd→Nd→Bool
 | .one s,.one t=>decide (s=t)
 | .cat _,.cat _=>true
 | .alt _,.alt _=>true
 | .rep _ a b,.rep _ c d=>decide (a=c)&&decide (b=d)
 | .group n _,.group m _=>decide (n=m)
 | .back n,.back m=>decide (n=m)
 | .start,.start=>true
 | .fin,.fin=>true
 | .nil,.nil=>true
 | .nil,.empty=>true
 | .empty,.nil=>true
 | .empty,.empty=>true
 |_,_=>false
theorem Nd.same_iff(a b:Nd):a.norm=b.norm↔a.head b=true∧Nd.norms a.kids=Nd.norms b.kids:=by
 cases a<;>cases b<;>simp[Nd.norm,Nd.head,Nd.kids,Nd.norms]
 ·constructor
  ·rintro⟨a,b,c⟩;exact⟨⟨b,c⟩,a⟩
  ·rintro⟨⟨b,c⟩,a⟩;exact⟨a,b,c⟩
def Nd.isGroup:Nd→Bool
 | .group _ _=>true
 |_=>false
mutual
def Nd.deep:Nd→Nat
 | .cat l=>Nd.deeps l
 | .alt l=>Nd.deeps l
 | .rep x _ _=>x.deep
 | .group _ x=>x.deep+1
 | .nil| .empty| .one _| .back _| .start| .fin=>0
def Nd.deeps:List Nd→Nat
 |[]=>0
 |t::ts=>max t.deep (Nd.deeps ts)
end
mutual
def Nd.groups:Nd→Nat
 | .cat l=>Nd.groupss l
 | .alt l=>Nd.groupss l
 | .rep x _ _=>x.groups
 | .group _ x=>x.groups+1
 | .nil| .empty| .one _| .back _| .start| .fin=>0
def Nd.groupss:List Nd→Nat
 |[]=>0
 |t::ts=>t.groups+Nd.groupss ts
end
theorem Nd.groups_kids(n:Nd):n.groups=Nd.groupss n.kids+(if n.isGroup=true then 1 else 0):=by
 cases n<;>simp[Nd.groups,Nd.kids,Nd.groupss,Nd.isGroup]
theorem Nd.groupss_append(l m:List Nd):Nd.groupss (l++m)=Nd.groupss l+Nd.groupss m:=by
 induction l with
 |nil=>simp[Nd.groupss]
 |cons t ts ih=>simp only[List.cons_append,Nd.groupss,ih];omega
theorem Nd.groupss_take{l:List Nd}{k:Nat}(h:k<l.length):Nd.groupss (l.take (k+1))=Nd.groupss (l.take k)+l[k].groups:=by
 rw[List.take_succ_eq_append_getElem h,Nd.groupss_append];simp[Nd.groupss]
mutual
theorem Nd.groups_le:∀n:Nd,n.groups≤n.size
 | .cat l=>by have:=Nd.groupss_le l;simp only[Nd.groups,Nd.size];omega
 | .alt l=>by have:=Nd.groupss_le l;simp only[Nd.groups,Nd.size];omega
 | .rep x _ _=>by have:=Nd.groups_le x;simp only[Nd.groups,Nd.size];omega
 | .group _ x=>by have:=Nd.groups_le x;simp only[Nd.groups,Nd.size];omega
 | .nil| .empty| .one _| .back _| .start| .fin=>by simp[Nd.groups]
theorem Nd.groupss_le:∀l:List Nd,Nd.groupss l≤Nd.sizes l
 |[]=>by simp[Nd.groupss]
 |t::ts=>by have:=Nd.groups_le t;have:=Nd.groupss_le ts;simp only[Nd.groupss,Nd.sizes];omega
end
def LGS(S:Nat→Prop)(g:Option Nat):Nat→Prop:=fun k=>S k∨g=some k
def OwnNS(S:Nat→Prop)(w:World)(l:List Nd)(v:Value)(g:Option Nat):Prop:=∃vs,w.ownsRow 0 26 1 v l.length vs∧VN (LGS S g) w l vs∧v.ownBlock=g
theorem OwnNS.nil(S:Nat→Prop)(w:World):OwnNS S w [] (.slice none 0 0) none:=⟨[],World.ownsRow_nil _ _ _ _,rfl,rfl⟩
theorem OwnNS.on{S:Nat→Prop}{w w':World}{l:List Nd}{v:Value}{g:Option Nat}(h:OwnNS S w l v g)(f:Fr nob w w'):OwnNS S w' l v g:=by
 obtain⟨vs,h1,h2,h3⟩:=h;exact⟨vs,ownsRow_fr h1 f (fun _ _ x=>x),h2.keep f (fun _ _ x=>x.elim) (fun _ _ x=>x),h3⟩
theorem OwnNS.shape{S:Nat→Prop}{w:World}{l:List Nd}{v:Value}{g:Option Nat}(h:OwnNS S w l v g):∃a c,v=.slice a l.length c:=by
 obtain⟨vs,h1,h2,h3⟩:=h;exact Zb h1
theorem OwnNS.sn{S:Nat→Prop}{w:World}{l:List Nd}{v:Value}{g:Option Nat}(h:OwnNS S w l v g)(hg:∀k,g=some k→¬S k):SN S w l v:=by
 obtain⟨vs,h1,h2,h3⟩:=h;exact SN.of_own h1 (h2.keep (S':=S) (Fr.refl nob w) (fun _ _ x=>x.elim) (fun _ _ x=>.inl x)) (fun k hk=>hg k (by rw[←h3];exact hk))
theorem OwnNS.lt{S:Nat→Prop}{w:World}{l:List Nd}{v:Value}{g:Option Nat}(h:OwnNS S w l v g):∀k,g=some k→k<w.heap.size:=by
 intro k hk;obtain⟨vs,hown,_,hg⟩:=h;rcases hown.2 with⟨rfl,_⟩|⟨r,cap,cur,rfl,_,hr,_⟩
 ·rw[←hg]at hk;cases hk
 ·rw[←hg]at hk;injection hk with hk;subst hk;exact lt_heap hr
theorem OwnNS.blk{S:Nat→Prop}{w:World}{l:List Nd}{v:Value}{g:Option Nat}(h:OwnNS S w l v g):v.ownBlock=g:=by
 obtain⟨_,_,_,h⟩:=h;exact h
theorem Zbu{w:World}{ops:Array Oper}{rest:List Oper}{o:Oper}{a:Act}{Q:Exit→Act→World→Prop}{S:Nat→Prop}(hgd:o.guard=none)(s x:Operand)
 (ho:o.op=.call {callee:=.builtin .append,args:= #[s,x],argTypes:= #[127,127]})
 (l m:List Nd) (v ux:Value) (g:Option Nat) (hs:a.eval s=v) (hown:OwnNS S w l v g) (hx:a.eval x=ux) (hm:SN (LGS S g) w m ux) (hb:l.length+m.length≤3000000)
 (h:∀v' w' g',OwnNS S w' (l++m) v' g'→Fr (LG g) w w'→(∀k,g'=some k→g=some k∨w.heap.size≤k)→wpList Tryz.prog ops Q rest (a.put o.dst v') w'):wpList Tryz.prog ops Q (o::rest) a w:=by
 obtain⟨i0,hi,hz0,hz1,hz2⟩:=info_parts Zkl;obtain⟨vs,h1,h2,h3⟩:=hown;rcases hm with⟨rfl,rfl⟩|⟨q,off,cap,rfl,_,hm⟩
 ·refine wpList_plain hgd fun K hK=> ?_;have hr:=run_append_owned_none (P:=Tryz.prog) (w:=w) 0 127 o.type 26 i0 1 Tryz.underlying127 hi v l.length vs h1;unfold Oper.wp execOp;simp only[ho,resolve,invoke,builtin,Sem.run_bind,Sem.run_pure,Result.andThen_ok,List.map_toArray,List.map_cons,List.map_nil,hs,hx,hr];exact hK _ _ (h v w g (by rw[List.append_nil];exact⟨vs,h1,h2,h3⟩) (Fr.refl _ _) (fun k hk=>.inl hk))
 ·obtain⟨us,hu,ha⟩:=RNs.vals hm;have hul:=hu.length;refine wpList_append_g hgd s x _ ho 26 i0 .nilIface 1 16 Tryz.underlying127 hi hz0 hz1 hz2 rfl (by decide) v l.length vs hs h1 ⟨q,off,none⟩ m.length cap us hx (by omega) (fun j u hj=>by have:=ha j u hj;by_cases hj0:j=0<;>simpa[Addr.add,hj0]using this) hu.cell1 (by unfold maxLen;omega) (by omega) ?_;intro v' w' hown' hap;have hold:∀k,v'.ownBlock=some k→g=some k∨w.heap.size≤k:=fun k hk=>by
   rcases hap.old k hk with h|h
   ·exact .inl (by rw[←h3,h])
   ·exact .inr h
  have hfr:Fr (LG g) w w':=hap.fr.mono fun k _ hk=>by unfold LG;rw[←h3,hk]
  refine h v' w' v'.ownBlock ⟨vs++us,by simpa using hown',(VN.append h2 hu).keep hfr (fun _ _ x=>.inr x) (fun k hk x=>x.elim .inl (fun y=>(hold k y).elim .inr (fun z=>by omega))),rfl⟩ hfr hold
theorem onlyS_any(S:Nat→Prop)(l:List Nd)(n:Nd)(u v:Value)(w:World)(hl:l.length≤3000000)(hu:SN S w l u)(hn:RN S w n v):
 Calls Tryz.prog 228 #[u,v] w fun e w'=>∃r,e=.returned r∧RN S w' (Zd3 l n) r∧w=w':=by
 have HN:=hid hn;clear hn
 match l,hu with
 |[],hu=>
  obtain⟨a,c,rfl⟩:=hu.shape;clear hu;go_enter Tryz.func228,Tryz.ntmps228;go_wp2;go_ret;exact⟨_,rfl,by unfold Zd3;rw[RN];rfl,rfl⟩
 |[x],hu=>
  obtain⟨q,off,cap,y,he,hy,hc⟩:=hu.get (k:=0) (by simp);have he':u=.slice (some ⟨q,off,none⟩) 1 cap:=he;have hc':w.cell? ⟨q,off,none⟩=some y:=by simpa using hc
  have HY:=hid hy;clear hu hy he hc;subst he';go_enter Tryz.func228,Tryz.ntmps228;go_wp2;go_ret;exact⟨_,rfl,HY.out,rfl⟩
 |x::y::l,hu=>
  obtain⟨a,c,rfl⟩:=hu.shape;clear hu;have h2:¬(((x::y::l).length:Nat):Int)=0:=by simp;omega
  have h3:¬(((x::y::l).length:Nat):Int)=1:=by simp;omega
  obtain⟨k,hk⟩:∃k,(x::y::l).length=k:=⟨_,rfl⟩;rw[hk]at h2 h3 hl⊢;clear hk;go_enter Tryz.func228,Tryz.ntmps228;go_wp2;go_ret;exact⟨_,rfl,HN.out,rfl⟩
def Zaz(S:Nat→Prop)(w:World)(l:List Nd)(v:Value)(wr:World):Prop:=∃g,OwnNS S wr l v g∧Fr nob w wr∧∀k,g=some k→w.heap.size≤k
theorem Zaz.nil(S:Nat→Prop)(w:World):Zaz S w [] (.slice none 0 0) w:=⟨none,OwnNS.nil S w,Fr.refl _ _,fun _ h=>by cases h⟩
theorem Zaz.on{S:Nat→Prop}{w wr w':World}{l:List Nd}{v:Value}(h:Zaz S w l v wr)(f:Fr nob wr w'):Zaz S w l v w':=by
 obtain⟨g,h1,h2,h3⟩:=h;exact⟨g,h1.on f,h2.trans' f,h3⟩
theorem Zaz.shape{S:Nat→Prop}{w wr:World}{l:List Nd}{v:Value}(h:Zaz S w l v wr):∃a c,v=.slice a l.length c:=by
 obtain⟨g,h1,h2,h3⟩:=h;exact h1.shape
theorem Zaz.fr{S:Nat→Prop}{w wr:World}{l:List Nd}{v:Value}(h:Zaz S w l v wr):Fr nob w wr:=by
 obtain⟨g,h1,h2,h3⟩:=h;exact h2
theorem Zaz.sn{S:Nat→Prop}{w wr:World}{l:List Nd}{v:Value}(h:Zaz S w l v wr)(hS:∀k,S k→k<w.heap.size):SN S wr l v:=by
 obtain⟨g,h1,h2,h3⟩:=h;exact h1.sn (fun k hk x=>by have:=h3 k hk;have:=hS k x;omega)
theorem wpList_append_btS{S:Nat→Prop}{W w:World}{ops:Array Oper}{rest:List Oper}{o:Oper}{a:Act}{Q:Exit→Act→World→Prop}(hgd:o.guard=none)(s x:Operand)
 (ho:o.op=.call {callee:=.builtin .append,args:= #[s,x],argTypes:= #[127,127]})
 (l m:List Nd) (v ux:Value) (hs:a.eval s=v) (hown:Zaz S W l v w) (hx:a.eval x=ux)
 (hm:∀g,(∀k,g=some k→W.heap.size≤k)→OwnNS S w l v g→SN (LGS S g) w m ux) (hb:l.length+m.length≤3000000)
 (h:∀v' w',Zaz S W (l++m) v' w'→wpList Tryz.prog ops Q rest (a.put o.dst v') w'):wpList Tryz.prog ops Q (o::rest) a w:=by
 obtain⟨g,h1,h2,h3⟩:=hown;refine Zbu hgd s x ho l m v ux g hs h1 hx (hm g h3 h1) hb fun v' w' g' q1 q2 q3=>h v' w' ⟨g',q1,?_,?_⟩
 ·exact h2.trans q2 (fun i hi hg=>by have:=h3 i hg;omega)
 ·intro k hk;have:=h2.size;rcases q3 k hk with h|h
  ·exact h3 k h
  ·omega
theorem SN.behindS{S:Nat→Prop}{W w:World}{m:List Nd}{u:Value}{g:Option Nat}(h:SN S W m u)(f:Fr nob W w)(hg:∀k,g=some k→W.heap.size≤k):SN (LGS S g) w m u:=
 h.keep f (fun _ _ x=>x.elim) (fun k hk x=>x.elim id (fun x=>by have:=hg k x;omega))
theorem RN.behindS{S:Nat→Prop}{W w:World}{m:Nd}{u:Value}{g:Option Nat}(h:RN S W m u)(f:Fr nob W w)(hg:∀k,g=some k→W.heap.size≤k):RN (LGS S g) w m u:=
 RN.keep f (fun _ _ x=>x.elim) (fun k hk x=>x.elim id (fun x=>by have:=hg k x;omega)) _ _ h
theorem Zaz.lt{S:Nat→Prop}{w wr:World}{l:List Nd}{v:Value}(h:Zaz S w l v wr):∀k,v.ownBlock=some k→k<wr.heap.size:=by
 obtain⟨g,h1,h2,h3⟩:=h;intro k hk;rw[h1.blk]at hk;exact h1.lt k hk
theorem joinS_any(S:Nat→Prop)(l:List Nd)(u:Value)(w:World)(hS:∀k,S k→k<w.heap.size)(hl:Nd.sizes l≤3000000)(h:SN S w l u):
 Calls Tryz.prog 224 #[u] w fun e w'=>∃r,e=.returned r∧RN S w' (Za2 l) r∧Fr nob w w':=by
 obtain⟨a,c,rfl⟩:=h.shape;have H:=hid h;clear h;have hll:=Nd.length_le l;have hpl:=hid (Nat.le_trans (Nd.length_le (parts l)) (ZcA l));go_enter Tryz.func224,Tryz.ntmps224;go_wp2_with fail
 go_loopw [3,11] (fun s i wr=>∃k:Nat,i=.int .i64 k∧k≤l.length∧Zaz S w (parts (l.take k)) s wr) (fun _ i _=>l.length-(intOf i).toNat)
 case atStart=>exact⟨0,rfl,Nat.zero_le _,Zaz.nil S w⟩
 case round=>
  obtain⟨k,rfl,hk,hB⟩:=hrel;obtain⟨av,cv,rfl⟩:=hB.shape;have HB:=hid hB;clear hB;by_cases hlt:k<l.length
  ·obtain⟨q,off,cap,x,he,hx,hc⟩:=(H.out.on HB.out.fr).get hlt;obtain⟨_,_,_,x',he',hx',hc'⟩:=H.out.get hlt;obtain rfl:x=x':=by
    rw[he]at he';injection he' with e1 _ _;injection e1 with e1;injection e1 with e1 e2;subst e1;subst e2;have:=HB.out.fr.cell hc' (fun x=>x);rw[hc]at this;injection this
   clear he' hc';injection he with e1 e2 e3;subst e1;subst e3;have HX:=hid hx;have HX0:=hid hx';clear hx hx' e2;have hpt:=hid (Zjg hlt);have hsz:=hid (Nat.le_trans (Nd.length_le (parts (l.take (k+1)))) (Nat.le_trans (ZcA _) (Nd.sizes_take_le l (k+1))));go_wp2_with fail;refine(told_any2 S l[k] x _ HX.out).mono ?_;rintro e w2 ⟨y,rfl,hy,hxy,rfl⟩;obtain⟨n,hn⟩:∃n,l[k]=n:=⟨_,rfl⟩;rw[hn]at hy HX HX0 hpt;clear hn;have hcase:(n.part=[]∧y=.iface 147 (.agg #[]))∨(∃m a c,n.part=m∧y=.iface 136 (.agg #[.slice a m.length c])∧SN S w m (.slice a m.length c))∨(n.part=[n]∧∃i z,y=.iface i z∧i≠147∧i≠136∧x=y):=by
    have hyk:=hy.kind;have hxk:=HX0.out.kind;cases n with
    |nil=>exact .inl ⟨rfl,hyk⟩
    |empty=>exact .inl ⟨rfl,hyk⟩
    |cat m=>
     obtain⟨a',c',h2,h3⟩:=hxk;subst h2;rcases hxy with h|rfl
     ·cases h
     ·exact .inr (.inl ⟨m,a',c',rfl,rfl,h3⟩)
    |one s=>subst hxk;rcases hxy with h|rfl;cases h;exact .inr (.inr ⟨rfl,_,_,rfl,by decide,by decide,rfl⟩)
    |alt m=>obtain⟨a,c,h1,_⟩:=hxk;subst h1;rcases hxy with h|rfl;cases h;exact .inr (.inr ⟨rfl,_,_,rfl,by decide,by decide,rfl⟩)
    |rep z mn mx=>obtain⟨a,h1,_⟩:=hxk;subst h1;rcases hxy with h|rfl;cases h;exact .inr (.inr ⟨rfl,_,_,rfl,by decide,by decide,rfl⟩)
    |group q z=>obtain⟨a,h1,_⟩:=hxk;subst h1;rcases hxy with h|rfl;cases h;exact .inr (.inr ⟨rfl,_,_,rfl,by decide,by decide,rfl⟩)
    |back q=>subst hxk;rcases hxy with h|rfl;cases h;exact .inr (.inr ⟨rfl,_,_,rfl,by decide,by decide,rfl⟩)
    |start=>subst hxk;rcases hxy with h|rfl;cases h;exact .inr (.inr ⟨rfl,_,_,rfl,by decide,by decide,rfl⟩)
    |fin=>subst hxk;rcases hxy with h|rfl;cases h;exact .inr (.inr ⟨rfl,_,_,rfl,by decide,by decide,rfl⟩)
   clear hy hxy;rcases hcase with⟨hp,rfl⟩|⟨m,am,cm,hp,rfl,hm⟩|⟨hp,iy,z,rfl,n1,n2,rfl⟩
   ·rw[hp,List.append_nil]at hpt;clear hp;go_wp2;go_roundw
    case rel=>exact⟨k+1,by go_num,by omega,by rw[hpt.out];exact HB.out.on ((Fr.refl _ _).alloc _)⟩
    case measure=>simp[intOf];omega
   ·rw[hp]at hpt;have HM:=hid hm;clear hm hp;have hlen:(parts (l.take k)).length+m.length≤3000000:=by have h:=hsz.out;rw[hpt.out,List.length_append]at h;omega
    go_wp2_with(at_builtin;refine wpList_append_btS rfl (.tmp 27) (.tmp 29) rfl (parts (l.take k)) m _ _ (by rfl) (HB.out.on ((Fr.refl _ _).alloc _)) (by rfl) (fun g hg ho=>HM.out.behindS (HB.out.fr.trans' ((Fr.refl _ _).alloc _)) hg) hlen ?_;intro v' w3 hb3;obtain⟨av',cv',he3⟩:=hb3.shape;simp only[List.length_append]at he3;subst he3;have HB3:=hid hb3;clear hb3);go_roundw
    case rel=>exact⟨k+1,by go_num,by omega,by rw[hpt.out];exact HB3.out⟩
    case measure=>simp[intOf];omega
   ·rw[hp]at hpt;clear hp;have hlen:(parts (l.take k)).length+[n].length≤3000000:=by have h:=hsz.out;rw[hpt.out,List.length_append]at h;omega
    go_wp2_with(at_builtin;refine wpList_append_btS rfl (.tmp 17) (.tmp 19) rfl (parts (l.take k)) [n] _ _ (by rfl) (HB.out.on ((Fr.refl _ _).alloc _)) (by rfl) (fun g hg ho=>SN.one' (HX0.out.behindS (HB.out.fr) hg) (fun k hk=>hk.elim (fun x=>Nat.lt_of_lt_of_le (hS k x) HB.out.fr.size) (fun x=>HB.out.lt k (by rw[ho.blk];exact x))) _ rfl) hlen ?_;intro v' w3 hb3;obtain⟨av',cv',he3⟩:=hb3.shape;simp only[List.length_append,List.length_singleton]at he3;subst he3;have HB3:=hid hb3;clear hb3);go_roundw
    case rel=>exact⟨k+1,by go_num,by omega,by rw[hpt.out];exact HB3.out⟩
    case measure=>simp[intOf];omega
  ·obtain rfl:k=l.length:=by omega
   have hT:=hid (List.take_of_length_le (l:=l) (Nat.le_refl _));have hB:=HB.out;rw[hT.out]at hB;go_wp2_with fail;refine(onlyS_any S (parts l) (.cat (parts l)) _ _ _ (by have:=hpl.out;omega) (hB.sn hS) (ZjK.2 ⟨_,rfl,(hB.sn hS)⟩)).mono ?_;rintro e w2 ⟨r,rfl,hr,rfl⟩;have HR:=hid hr;clear hr;go_wp2;go_ret;exact⟨_,rfl,HR.out,HB.out.fr⟩
theorem Zd4(S:Nat→Prop)(l:List Nd)(u:Value)(w:World)(hS:∀k,S k→k<w.heap.size)(hl:Nd.sizes l≤3000000)(h:SN S w l u):
 Calls Tryz.prog 215 #[u] w fun e w'=>∃r,e=.returned r∧RN S w' (Za3 l) r∧Fr nob w w':=by
 obtain⟨a,c,rfl⟩:=h.shape;have H:=hid h;clear h;have hll:=Nd.length_le l;have hpl:=hid (Nat.le_trans (Nd.length_le (arms l)) (Zdf l));go_enter Tryz.func215,Tryz.ntmps215;go_wp2_with fail
 go_loopw [3,10] (fun s i wr=>∃k:Nat,i=.int .i64 k∧k≤l.length∧Zaz S w (arms (l.take k)) s wr) (fun _ i _=>l.length-(intOf i).toNat)
 case atStart=>exact⟨0,rfl,Nat.zero_le _,Zaz.nil S w⟩
 case round=>
  obtain⟨k,rfl,hk,hB⟩:=hrel;obtain⟨av,cv,rfl⟩:=hB.shape;have HB:=hid hB;clear hB;by_cases hlt:k<l.length
  ·obtain⟨q,off,cap,x,he,hx,hc⟩:=(H.out.on HB.out.fr).get hlt;obtain⟨_,_,_,x',he',hx',hc'⟩:=H.out.get hlt;obtain rfl:x=x':=by
    rw[he]at he';injection he' with e1 _ _;injection e1 with e1;injection e1 with e1 e2;subst e1;subst e2;have:=HB.out.fr.cell hc' (fun x=>x);rw[hc]at this;injection this
   clear he' hc';injection he with e1 e2 e3;subst e1;subst e3;have HX:=hid hx;have HX0:=hid hx';clear hx hx' e2;have hpt:=hid (Zkm hlt);have hsz:=hid (Nat.le_trans (Nd.length_le (arms (l.take (k+1)))) (Nat.le_trans (Zdf _) (Nd.sizes_take_le l (k+1))));obtain⟨n,hn⟩:∃n,l[k]=n:=⟨_,rfl⟩;rw[hn]at HX HX0 hpt;clear hn;have hcase:(∃m a c,n.arm=m∧x=.iface 137 (.agg #[.slice a m.length c])∧SN S w m (.slice a m.length c))∨(n.arm=[n.told]∧(x=.nilIface∨∃i z,x=.iface i z∧i≠137)):=by
    have hxk:=HX0.out.kind;cases n with
    |alt m=>
     obtain⟨a',c',h2,h3⟩:=hxk;exact .inl ⟨m,a',c',rfl,h2,h3⟩
    |nil=>exact .inr ⟨rfl,.inl hxk⟩
    |cat m=>obtain⟨a,c,h1,_⟩:=hxk;exact .inr ⟨rfl,.inr ⟨_,_,h1,by decide⟩⟩
    |rep z mn mx=>obtain⟨a,h1,_⟩:=hxk;exact .inr ⟨rfl,.inr ⟨_,_,h1,by decide⟩⟩
    |group q z=>obtain⟨a,h1,_⟩:=hxk;exact .inr ⟨rfl,.inr ⟨_,_,h1,by decide⟩⟩
    |_=>exact .inr ⟨rfl,.inr ⟨_,_,hxk,by decide⟩⟩
   rcases hcase with⟨m,am,cm,hp,rfl,hm⟩|⟨hp,hx⟩
   ·rw[hp]at hpt;have HM:=hid hm;clear hm hp;have hlen:(arms (l.take k)).length+m.length≤3000000:=by have h:=hsz.out;rw[hpt.out,List.length_append]at h;omega
    go_wp2_with(at_builtin;refine wpList_append_btS rfl (.tmp 20) (.tmp 22) rfl (arms (l.take k)) m _ _ (by rfl) (HB.out.on ((Fr.refl _ _).alloc _)) (by rfl) (fun g hg ho=>HM.out.behindS (HB.out.fr.trans' ((Fr.refl _ _).alloc _)) hg) hlen ?_;intro v' w3 hb3;obtain⟨av',cv',he3⟩:=hb3.shape;simp only[List.length_append]at he3;subst he3;have HB3:=hid hb3;clear hb3);go_roundw
    case rel=>exact⟨k+1,by go_num,by omega,by rw[hpt.out];exact HB3.out⟩
    case measure=>simp[intOf];omega
   ·rw[hp]at hpt;clear hp;have hlen:(arms (l.take k)).length+[n.told].length≤3000000:=by have h:=hsz.out;rw[hpt.out,List.length_append]at h;omega
    obtain⟨g0,o0,f0,l0⟩:=HB.out;have HXG:=hid (HX0.out.behindS f0 l0);have hb0:=o0.blk;have HL0:=hid l0;have F0:=hid f0;have O0:=hid o0;clear l0 f0 o0;rcases hx with rfl|⟨ix,zx,rfl,hne⟩
    all_goals
     go_wp2_with fail;refine(told_any (LGS S g0) n _ _ (HXG.out.on ((Fr.refl _ _).alloc _))).mono ?_;rintro e w2 ⟨y,rfl,hy,rfl⟩;have HY:=hid hy;have hysh:=hy.shape;clear hy;rcases hysh with rfl|⟨iy,zy,rfl⟩
     all_goals
      go_wp2_with(at_builtin;refine wpList_append_btS rfl (.tmp 24) (.tmp 27) rfl (arms (l.take k)) [n.told] _ _ (by rfl) (HB.out.on (((Fr.refl _ _).alloc _).alloc _)) (by rfl) (fun g hg ho=>by have e:=hb0.symm.trans ho.blk;subst e;exact SN.one' HY.out (fun k hk=>hk.elim (fun x=>by have:=hS k x;have:=F0.out.size;simp;omega) (fun x=>by have:=O0.out.lt k x;simp;omega)) _ (by simp)) hlen ?_;intro v' w3 hb3;obtain⟨av',cv',he3⟩:=hb3.shape;simp only[List.length_append,List.length_singleton]at he3;subst he3;have HB3:=hid hb3;clear hb3);go_roundw
      case rel=>exact⟨k+1,by go_num,by omega,by rw[hpt.out];exact HB3.out⟩
      case measure=>simp[intOf];omega
  ·obtain rfl:k=l.length:=by omega
   have hT:=hid (List.take_of_length_le (l:=l) (Nat.le_refl _));have hB:=HB.out;rw[hT.out]at hB;go_wp2_with fail;refine(onlyS_any S (arms l) (.alt (arms l)) _ _ _ (by have:=hpl.out;omega) (hB.sn hS) (ZjL.2 ⟨_,rfl,(hB.sn hS)⟩)).mono ?_;rintro e w2 ⟨r,rfl,hr,rfl⟩;have HR:=hid hr;clear hr;go_wp2;go_ret;exact⟨_,rfl,HR.out,HB.out.fr⟩
def Zq2(k:Int)(s:S4)(v:Value)(mn mx nu:Int):List Value:=[.int .i64 k,.int .u64 s.a,.int .u64 s.b,.int .u64 s.c,.int .u64 s.d,v,.int .i64 mn,.int .i64 mx,.int .i64 nu]
end Go.Proofs.YtkfddjopbocpkaaGreatDoor
