/- Lemmas of this claim. -/
import Derived.Test.YtgllcniibbaoaaaGreatDoorRows
import Derived.ProofKit
import Derived.SevenTiedAt
import Derived.JoinedCond
import Derived.WalkKit
import Derived.Lib.AppendStr
import Derived.Lib.Builder
import Derived.Lib.Hide
import Derived.Deep.QuietTactic
import Derived.BigQuiet
import Derived.Deep.LoopGhost
import Derived.Deep.DeepCutAuto
import Derived.Deep.CutBlock
import Derived.Deep.RegionHeld3
import Derived.Lib.OthersKept
import Derived.RegionTactic
import Derived.ChangeAlike
import Derived.Test.YtgllcniibbaoaaaGreatDoorChecked
import Derived.StillTailTactics
import Derived.ChangeSame
import Derived.ChangeOld
import Derived.Below
import Derived.Carry
import Derived.OpenShut
import Derived.ShutString
import Derived.Laws.Externs
import Derived.Laws.IdiomCopy
import Derived.Shelf.Lays
import Derived.Shelf.RegionOpenPlain
import Derived.Lib.UnsafeStr
import Derived.MapKept
set_option linter.all false
set_option maxRecDepth 100000
set_option maxHeartbeats 24000000
namespace Go.Proofs.YtgllcniibbaoaaaGreatDoor
open Go.Proofs.Tryz
section
set_option maxRecDepth 100000
theorem addrSames_joined:joinedFacts Tryz.pinned.checked.prog 7 Tryz.f7 (Rows.OpenSpec.upto Rows.addrSamesSpec).bare Rows.addrSamesUptoRow=true:=by kernel_rfl
end
section
open Go.RowKit
structure Fr(S:Nat→Prop)(w w':World):Prop where
 os:w'.os=w.os
 tape:w'.tape=w.tape
 output:w'.output=w.output
 size:w.heap.size≤w'.heap.size
 block:∀k,k<w.heap.size→¬S k→w'.heap[k]? =w.heap[k]?
def nob:Nat→Prop:=fun _=>False
theorem Fr.refl(S:Nat→Prop)(w:World):Fr S w w:=⟨rfl,rfl,rfl,Nat.le_refl _,fun _ _ _=>rfl⟩
theorem Fr.mono{S T:Nat→Prop}{w w':World}(h:Fr S w w')(hs:∀k,k<w.heap.size→S k→T k):Fr T w w':=
 ⟨h.os,h.tape,h.output,h.size,fun k hk hn=>h.block k hk (fun hS=>hn (hs k hk hS))⟩
theorem Fr.trans{S T:Nat→Prop}{a b c:World}(h:Fr S a b)(k:Fr T b c)(hs:∀i,i<a.heap.size→T i→S i):Fr S a c:=
 ⟨k.os.trans h.os,k.tape.trans h.tape,k.output.trans h.output,Nat.le_trans h.size k.size,fun i hi hn=>
  (k.block i (Nat.lt_of_lt_of_le hi h.size) (fun hT=>hn (hs i hi hT))).trans (h.block i hi hn)⟩
theorem Fr.trans'{S:Nat→Prop}{a b c:World}(h:Fr S a b)(k:Fr S b c):Fr S a c:=h.trans k fun _ _ h=>h
theorem Fr.drew{S:Nat→Prop}{a w:World}(h:Fr S a w):Fr S a w.drew:=⟨h.os,h.tape,h.output,h.size,h.block⟩
theorem Fr.drewN{S:Nat→Prop}{a w:World}(h:Fr S a w)(n:Nat):Fr S a (w.drewN n):=⟨h.os,h.tape,h.output,h.size,h.block⟩
theorem Fr.undrew{S:Nat→Prop}{a w:World}(h:Fr S a w.drew):Fr S a w:=⟨h.os,h.tape,h.output,h.size,h.block⟩
theorem Fr.alloc{S:Nat→Prop}{a w:World}(h:Fr S a w)(o:Obj):Fr S a (w.alloc o):=
 h.trans (T:=nob) ⟨rfl,rfl,rfl,by simp,fun k hk _=>Below.heap_alloc _ _ _ hk⟩ (fun _ _ h=>h.elim)
theorem Fr.setCell{S:Nat→Prop}{a w:World}(h:Fr S a w){p:Addr}(hp:p.block<a.heap.size→S p.block)(u:Value):Fr S a (w.setCell p u):=
 h.trans (T:=fun k=>k=p.block) ⟨rfl,rfl,rfl,by simp[World.setCell],fun k _ hk=>Below.heap_setCell _ _ _ _ hk⟩ (fun i hi e=>by subst e;exact hp hi)
theorem Fr.grown{S:Nat→Prop}{a w w':World}{row:Option Nat}(h:Fr S a w)(hg:w.grownBy w' row)(hr:∀k,row=some k→k<a.heap.size→S k):Fr S a w':=
 h.trans (T:=fun k=>row=some k) ⟨hg.os,hg.tape,hg.output,hg.size,fun k hk hn=>hg.block k hk (fun e=>hn e.symm)⟩ (fun i hi e=>hr i e hi)
theorem Fr.below{w w':World}(h:Fr nob w w'):Below w.heap.size w w':=⟨h.os,h.tape,h.output,h.size,fun k hk=>h.block k hk (fun x=>x)⟩
theorem Fr.ofBelow{w w':World}(h:Below w.heap.size w w'):Fr nob w w':=⟨h.os,h.tape,h.output,h.size,fun k hk _=>h.block k hk⟩
theorem Fr.any{S:Nat→Prop}{w w':World}(h:Fr nob w w'):Fr S w w':=h.mono (fun _ _ x=>x.elim)
theorem Fr.heap{S:Nat→Prop}{w w':World}(h:Fr S w w'){k:Nat}{o:Obj}(hk:w.heap[k]? =some o)(hn:¬S k):w'.heap[k]? =some o:=by
 rw[h.block k (Array.getElem?_eq_some_iff.1 hk).1 hn];exact hk
theorem lt_heap{w:World}{k:Nat}{o:Obj}(hk:w.heap[k]? =some o):k<w.heap.size:=(Array.getElem?_eq_some_iff.1 hk).1
theorem Fr.cell{S:Nat→Prop}{w w':World}(h:Fr S w w'){p:Addr}{v:Value}(hc:w.cell? p=some v)(hn:¬S p.block):w'.cell? p=some v:=
 (World.cell?_of_block (h.block p.block (World.block_lt_of_cell? w p hc) hn)).trans hc
theorem ownsRow_fr{S:Nat→Prop}{w w':World}{base:Nat}{e:TypeId}{size:Nat}{v:Value}{n:Nat}{xs:List Value}(h:w.ownsRow base e size v n xs)(hf:Fr S w w')(hn:∀k,v.ownBlock=some k→¬S k):w'.ownsRow base e size v n xs:=by
 refine⟨h.1,?_⟩;rcases h.2 with c|⟨g,a,b,rfl,hb,hg,rest⟩
 ·exact .inl c
 ·exact .inr ⟨g,a,b,rfl,hb,hf.heap hg (hn g rfl),rest⟩
theorem cell_at{w:World}{b:Nat}{cs:Array Value}{T:TypeId}{fr:Nat×Nat}{v:Value}{j:Nat}(hb:w.heap[b]? =some (.cells cs T fr))(hj:cs[j]? =some v):w.cell? ⟨b,j,none⟩=some v:=by
 simp[World.cell?,hb,hj]
theorem ZF{w:World}{b:Nat}{cs:Array Value}{T:TypeId}(hb:w.heap[b]? =some (.cells cs T (0,0)))(j:Nat):w.frozen? ⟨b,j,none⟩=false:=by
 simp[World.frozen?,hb]
theorem Za{w:World}{b:Nat}{cs:Array Value}{T:TypeId}{fr:Nat×Nat}(hb:w.heap[b]? =some (.cells cs T fr))(j:Nat)(v:Value):
 (w.setCell ⟨b,j,none⟩ v).heap[b]? =some (.cells (cs.setIfInBounds j v) T fr):=by
 simp[World.setCell,Array.getElem?_modify,hb]
theorem Zc{w:World}{k:Nat}{p:Addr}{o:Obj}(hk:w.heap[k]? =some o)(hne:k≠p.block)(v:Value):(w.setCell p v).heap[k]? =some o:=by
 rw[Below.heap_setCell _ _ _ _ hne];exact hk
theorem ZdT{k:IntKind}{a b:Int}(h:a=b):Ending.returned (.int k a)=.returned (.int k b):=by rw[h]
theorem ret_bool{a b:Bool}(h:a=b):Ending.returned (.bool a)=.returned (.bool b):=by rw[h]
def ZeT(c:UInt8):Value:=.int .u8 (c.toNat:Int)
def ZP(l:List UInt8):List Value:=l.map ZeT
theorem Zaj(a b:List UInt8):ZP (a++b)=ZP a++ZP b:=List.map_append
theorem ZbF(a:List UInt8):(ZP a).length=a.length:=List.length_map _
def Zc3(e T:TypeId)(b o:Nat)(cs:Array Value)(bs:List UInt8)(g:Option Nat)(w:World):Prop:=
 w.heap[b]? =some (.cells cs T (0,0))∧o+1<cs.size∧(cs[o]? =some (.pointer none)∨cs[o]? =some (.pointer (some ⟨b,o,none⟩)))∧
  ∃v,cs[o+1]? =some v∧w.ownsRow 0 e 1 v bs.length (ZP bs)∧v.ownBlock=g∧g≠some b∧(bs=[]→v=.slice none 0 0)
structure Appd(m:Nat)(v v':Value)(w w':World):Prop where
 fr:Fr (fun k=>v.ownBlock=some k) w w'
 blk:v'.ownBlock=v.ownBlock∨v'.ownBlock=some w.heap.size
 nil:v'=.slice none 0 0↔v=.slice none 0 0∧m=0
theorem Appd.old{m:Nat}{v v':Value}{w w':World}(h:Appd m v v' w w'):∀k,v'.ownBlock=some k→v.ownBlock=some k∨w.heap.size≤k:=by
 intro k hk;rcases h.blk with e|e
 ·exact .inl (by rw[←e];exact hk)
 ·rw[e]at hk;injection hk with hk;exact .inr (by omega)
section
variable {P:Program} (w:World)
theorem Zdo(t ty e:TypeId)(i:TypeInfo)(z:Value)(size bytes:Nat)(ht:P.underlying t=some (.slice e))(hi:P.info? e=some i)(hz:i.zero=some z)
 (hsize:i.size=size) (hby:i.bytes=bytes) (hzs:z.cells.size=size) (hsz:0<size)
 (v:Value) (n:Nat) (xs:List Value) (hown:w.ownsRow 0 e size v n xs)
 (a:Addr) (m c:Nat) (news:List Value) (hl:news.length=m*size) (hnews:∀j u,news[j]? =some u→w.cell? (a.add j)=some u) (h1:∀u∈news,u.oneCell'=true)
 (h63:n+m≤maxLen) (hbytes:(n+m)*bytes≤140737488355328):
 ∃v' w',(Builtin.append_ #[t,t] ty #[v,.slice (some a) m c]).run P w=.ok v' w'∧w'.ownsRow 0 e size v' (n+m) (xs++news)∧Appd m v v' w w':=by
 obtain⟨v',w',hr,o,hg,f⟩:=run_append_own (P:=P) w 0 t ty e i z size bytes ht hi hz hsize hby hzs hsz v n xs hown a m c news hl hnews h1 h63 hbytes (Nat.zero_le _);refine⟨v',w',hr,o,(Fr.refl _ w).grown hg (fun k hk _=>hk),?_,f⟩;have p:n+m≤9223372036854775807:=by simp only[maxLen]at h63;omega
 rcases hown.2 with⟨rfl,rfl⟩|⟨g,h,q,rfl,y,s,B,A,r,x⟩
 ·by_cases hm:m=0
  ·have:=f.2 ⟨rfl,hm⟩;subst this;exact .inl rfl
  ·have b:=run_append_nil (P:=P) w t ty e i z ht hi hz a m c news (by rw[hl,hsize]) hnews (by omega) (by omega) (by rw[hby];simp only[Nat.zero_add]at hbytes;omega);rw[b]at hr;injection hr with h1 h2;subst h1;exact .inr rfl
 ·by_cases d:n+m≤h
  ·have b:=run_append_room (P:=P) w t ty e i ht hi g n h q s a m c news (by rw[hl,hsize]) hnews h1 d (by rw[hl,r,hsize,←Nat.add_mul];exact Nat.mul_le_mul_right _ d);rw[b]at hr;injection hr with h1 h2;subst h1;exact .inl rfl
  ·have l:∀j u,xs[j]? =some u→w.cell? ((⟨g,0,none⟩:Addr).add j)=some u:=hown.cells (g:=g) rfl;have b:=run_append_grow (P:=P) w t ty e i z ht hi hz ⟨g,0,none⟩ n h xs (by rw[hsize];exact hown.1) l a m c news (by rw[hl,hsize]) hnews (by omega) (by omega) (by rw[hby];exact growslice_fits (by omega) hbytes);rw[b]at hr;injection hr with h1 h2;subst h1;exact .inr rfl
theorem wpList_append_g{w:World}{ops:Array Oper}{rest:List Oper}{o:Oper}{a:Act}{Q:Exit→Act→World→Prop}(hgd:o.guard=none)(s x:Operand)(t:TypeId)
 (ho:o.op=.call {callee:=.builtin .append,args:= #[s,x],argTypes:= #[t,t]})
 (e:TypeId) (i:TypeInfo) (z:Value) (size bytes:Nat) (ht:P.underlying t=some (.slice e)) (hi:P.info? e=some i) (hz:i.zero=some z)
 (hsize:i.size=size) (hby:i.bytes=bytes) (hzs:z.cells.size=size) (hsz:0<size)
 (v:Value) (n:Nat) (xs:List Value) (hs:a.eval s=v) (hown:w.ownsRow 0 e size v n xs)
 (ad:Addr) (m c:Nat) (news:List Value) (hx:a.eval x=.slice (some ad) m c) (hl:news.length=m*size) (hnews:∀j u,news[j]? =some u→w.cell? (ad.add j)=some u) (h1:∀u∈news,u.oneCell'=true)
 (h63:n+m≤maxLen) (hbytes:(n+m)*bytes≤140737488355328)
 (h:∀v' w',w'.ownsRow 0 e size v' (n+m) (xs++news)→Appd m v v' w w'→wpList P ops Q rest (a.put o.dst v') w'):wpList P ops Q (o::rest) a w:=by
 refine wpList_plain hgd fun K hK=> ?_;obtain⟨v',w',hr,h2,h3⟩:=Zdo (P:=P) w t o.type e i z size bytes ht hi hz hsize hby hzs hsz v n xs hown ad m c news hl hnews h1 h63 hbytes;unfold Oper.wp execOp;simp only[ho,resolve,invoke,builtin,Sem.run_bind,Sem.run_pure,Result.andThen_ok,List.map_toArray,List.map_cons,List.map_nil,hs,hx,hr];exact hK _ _ (h v' w' h2 h3)
theorem ZeU(t u ty e:TypeId)(i:TypeInfo)(ht:P.underlying t=some (.slice e))(hu:P.underlying u=some .string)(hi:P.info? e=some i)(hz:i.zero=some (.int .u8 0))
 (hsize:i.size=1) (hby:i.bytes=1)
 (v:Value) (n:Nat) (xs:List Value) (hown:w.ownsRow 0 e 1 v n xs) (s:ByteArray)
 (h63:n+s.size≤maxLen) (hbytes:n+s.size≤140737488355328):
 ∃v' w',(Builtin.append_ #[t,u] ty #[v,.string s]).run P w=.ok v' w'∧w'.ownsRow 0 e 1 v' (n+s.size) (xs++Lib.strCells s)∧Appd s.size v v' w w':=by
 obtain⟨v',w',hr,f,hg,c⟩:=Lib.run_append_own_string (P:=P) w 0 t u ty e i ht hu hi hz hsize hby v n xs hown s h63 hbytes (Nat.zero_le _);refine⟨v',w',hr,f,(Fr.refl _ w).grown hg (fun k hk _=>hk),?_,c⟩;have m:n+s.size≤9223372036854775807:=by simp only[maxLen]at h63;omega
 have r:xs.length=n:=by simpa using hown.1
 rcases hown.2 with⟨rfl,rfl⟩|⟨g,b,l,rfl,y,p,A,z,o,q⟩
 ·by_cases hm:s.size=0
  ·have:=c.2 ⟨rfl,hm⟩;subst this;exact .inl rfl
  ·have a:=run_append_nil_string (P:=P) w t u ty e i (.int .u8 0) ht hu hi hz s (by omega) (by omega) (by rw[hby];omega);rw[a]at hr;injection hr with h1 h2;subst h1;exact .inr rfl
 ·by_cases h:n+s.size≤b
  ·have x:l.size=b:=by simpa using o
   have a:=Lib.run_append_room_string (P:=P) w t u ty e i ht hu hi hsize g n b l p s h (by omega);rw[a]at hr;injection hr with h1 h2;subst h1;exact .inl rfl
  ·have d:∀j u,xs[j]? =some u→w.cell? ((⟨g,0,none⟩:Addr).add j)=some u:=hown.cells (g:=g) rfl;have a:=Lib.run_append_grow_string (P:=P) w t u ty e i (.int .u8 0) ht hu hi hz ⟨g,0,none⟩ n b xs (by rw[hsize];simpa using r) d s (by omega) (by omega) (by rw[hby];exact growslice_fits (by omega) (by omega));rw[a]at hr;injection hr with h1 h2;subst h1;exact .inr rfl
theorem wpList_append_gs{w:World}{ops:Array Oper}{rest:List Oper}{o:Oper}{a:Act}{Q:Exit→Act→World→Prop}(hgd:o.guard=none)(sl x:Operand)(t u:TypeId)
 (ho:o.op=.call {callee:=.builtin .append,args:= #[sl,x],argTypes:= #[t,u]})
 (e:TypeId) (i:TypeInfo) (ht:P.underlying t=some (.slice e)) (hu:P.underlying u=some .string) (hi:P.info? e=some i) (hz:i.zero=some (.int .u8 0))
 (hsize:i.size=1) (hby:i.bytes=1)
 (v:Value) (n:Nat) (xs:List Value) (hs:a.eval sl=v) (hown:w.ownsRow 0 e 1 v n xs) (s:ByteArray) (hx:a.eval x=.string s)
 (h63:n+s.size≤maxLen) (hbytes:n+s.size≤140737488355328)
 (h:∀v' w',w'.ownsRow 0 e 1 v' (n+s.size) (xs++Lib.strCells s)→Appd s.size v v' w w'→wpList P ops Q rest (a.put o.dst v') w'):wpList P ops Q (o::rest) a w:=by
 refine wpList_plain hgd fun K hK=> ?_;obtain⟨v',w',hr,h2,h3⟩:=ZeU (P:=P) w t u o.type e i ht hu hi hz hsize hby v n xs hown s h63 hbytes;unfold Oper.wp execOp;simp only[ho,resolve,invoke,builtin,Sem.run_bind,Sem.run_pure,Result.andThen_ok,List.map_toArray,List.map_cons,List.map_nil,hs,hx,hr];exact hK _ _ (h v' w' h2 h3)
end
theorem Zcs{w:World}{base:Nat}{e:TypeId}{size:Nat}{v:Value}{n:Nat}{xs:List Value}(h:w.ownsRow base e size v n xs):∃a n' cap,v=.slice a n' cap:=by
 rcases h.2 with⟨rfl,rfl⟩|⟨g,cap,b,rfl,_⟩
 ·exact⟨_,_,_,rfl⟩
 ·exact⟨_,_,_,rfl⟩
theorem heap_alloc_lt{w:World}{k:Nat}{o:Obj}(o':Obj)(hk:w.heap[k]? =some o):(w.alloc o').heap[k]? =some o:=by
 rw[Below.heap_alloc w o' k (lt_heap hk)];exact hk
theorem Zb{w:World}{base:Nat}{e:TypeId}{size:Nat}{v:Value}{n:Nat}{xs:List Value}(h:w.ownsRow base e size v n xs):∃a cap,v=.slice a n cap:=by
 rcases h.2 with⟨rfl,rfl⟩|⟨g,cap,b,rfl,_⟩
 ·exact⟨_,_,rfl⟩
 ·exact⟨_,_,rfl⟩
structure S4 where
 a:Int
 b:Int
 c:Int
 d:Int
 deriving DecidableEq
def S4.cells(s:S4):List Value:=[.int .u64 s.a,.int .u64 s.b,.int .u64 s.c,.int .u64 s.d]
inductive T where
 |mk (kind:Int) (set:S4) (parts:List T) (min max number:Int)
inductive Nd where
 |nil
 |empty
 |one (s:S4)
 |cat (l:List Nd)
 |alt (l:List Nd)
 |rep (x:Nd) (min max:Int)
 |group (n:Int) (x:Nd)
 |back (n:Int)
 |start
 |fin
def At(w:World)(g off:Nat)(cs:List Value):Prop:=∀j v,cs[j]? =some v→w.cell? ⟨g,off+j,none⟩=some v
theorem At.fr{X:Nat→Prop}{w w':World}{g off:Nat}{cs:List Value}(h:At w g off cs)(hf:Fr X w w')(hg:¬X g):At w' g off cs:=
 fun j v hj=>hf.cell (h j v hj) hg
mutual
def RT(S:Nat→Prop)(w:World):T→List Value→Prop
 | .mk k s ps mn mx nu,cs=>∃v,cs=.int .i64 k::(s.cells++[v,.int .i64 mn,.int .i64 mx,.int .i64 nu])∧
  (((∃a c,v=.slice a 0 c)∧ps=[])∨∃g off cap,v=.slice (some ⟨g,off,none⟩) ps.length cap∧ps.length≤cap∧RTs S w ps g off)
def RTs(S:Nat→Prop)(w:World):List T→Nat→Nat→Prop
 |[],_,_=>True
 |t::ts,g,off=>¬S g∧g<w.heap.size∧(∃cs,RT S w t cs∧At w g off cs)∧RTs S w ts g (off+9)
end
mutual
def RN(S:Nat→Prop)(w:World):Nd→Value→Prop
 | .nil,v=>v=.nilIface
 | .empty,v=>v=.iface 180 (.agg #[])
 | .one s,v=>v=.iface 134 (.agg s.cells.toArray)
 | .cat l,v=>∃u,v=.iface 75 (.agg #[u])∧((u=.slice none 0 0∧l=[])∨∃g off cap,u=.slice (some ⟨g,off,none⟩) l.length cap∧l.length≤cap∧RNs S w l g off)
 | .alt l,v=>∃u,v=.iface 86 (.agg #[u])∧((u=.slice none 0 0∧l=[])∨∃g off cap,u=.slice (some ⟨g,off,none⟩) l.length cap∧l.length≤cap∧RNs S w l g off)
 | .rep x mn mx,v=>∃u,v=.iface 137 (.agg #[u,.int .i64 mn,.int .i64 mx])∧RN S w x u
 | .group n x,v=>∃u,v=.iface 127 (.agg #[.int .i64 n,u])∧RN S w x u
 | .back n,v=>v=.iface 116 (.agg #[.int .i64 n])
 | .start,v=>v=.iface 139 (.agg #[])
 | .fin,v=>v=.iface 140 (.agg #[])
def RNs(S:Nat→Prop)(w:World):List Nd→Nat→Nat→Prop
 |[],_,_=>True
 |t::ts,g,off=>¬S g∧g<w.heap.size∧(∃v,RN S w t v∧w.cell? ⟨g,off,none⟩=some v)∧RNs S w ts g (off+1)
end
def SN(S:Nat→Prop)(w:World)(l:List Nd)(u:Value):Prop:=(u=.slice none 0 0∧l=[])∨∃g off cap,u=.slice (some ⟨g,off,none⟩) l.length cap∧l.length≤cap∧RNs S w l g off
def ST(S:Nat→Prop)(w:World)(l:List T)(u:Value):Prop:=((∃a c,u=.slice a 0 c)∧l=[])∨∃g off cap,u=.slice (some ⟨g,off,none⟩) l.length cap∧l.length≤cap∧RTs S w l g off
theorem Zw0{S:Nat→Prop}{w:World}{k:Int}{s:S4}{ps:List T}{mn mx nu:Int}{cs:List Value}:
 RT S w (.mk k s ps mn mx nu) cs↔∃v,cs=.int .i64 k::(s.cells++[v,.int .i64 mn,.int .i64 mx,.int .i64 nu])∧ST S w ps v:=by rw[RT];rfl
theorem ZjK{S:Nat→Prop}{w:World}{l:List Nd}{v:Value}:RN S w (.cat l) v↔∃u,v=.iface 75 (.agg #[u])∧SN S w l u:=by rw[RN];rfl
theorem ZjL{S:Nat→Prop}{w:World}{l:List Nd}{v:Value}:RN S w (.alt l) v↔∃u,v=.iface 86 (.agg #[u])∧SN S w l u:=by rw[RN];rfl
section
variable {S X S':Nat→Prop} {w w':World}
mutual
theorem RT.keep(hf:Fr X w w')(hX:∀k,k<w.heap.size→X k→S k)(hS:∀k,k<w.heap.size→S' k→S k):∀(t:T) (cs:List Value),RT S w t cs→RT S' w' t cs
 | .mk k s ps mn mx nu,cs,h=>by
   rw[RT]at h⊢;obtain⟨v,rfl,h⟩:=h;refine⟨v,rfl,?_⟩;rcases h with h|⟨g,off,cap,rfl,hc,h⟩
   ·exact .inl h
   ·exact .inr ⟨g,off,cap,rfl,hc,RTs.keep hf hX hS ps g off h⟩
theorem RTs.keep(hf:Fr X w w')(hX:∀k,k<w.heap.size→X k→S k)(hS:∀k,k<w.heap.size→S' k→S k):∀(ts:List T) (g off:Nat),RTs S w ts g off→RTs S' w' ts g off
 |[],_,_,_=>by rw[RTs];trivial
 |t::ts,g,off,h=>by
  rw[RTs]at h⊢;obtain⟨h1,h2,⟨cs,h3,h4⟩,h5⟩:=h;exact⟨fun x=>h1 (hS g h2 x),Nat.lt_of_lt_of_le h2 hf.size,⟨cs,RT.keep hf hX hS t cs h3,h4.fr hf (fun x=>h1 (hX g h2 x))⟩,RTs.keep hf hX hS ts g (off+9) h5⟩
end
mutual
theorem RN.keep(hf:Fr X w w')(hX:∀k,k<w.heap.size→X k→S k)(hS:∀k,k<w.heap.size→S' k→S k):∀(t:Nd) (v:Value),RN S w t v→RN S' w' t v
 | .nil,_,h=>by rw[RN]at h⊢;exact h
 | .empty,_,h=>by rw[RN]at h⊢;exact h
 | .one _,_,h=>by rw[RN]at h⊢;exact h
 | .cat l,_,h=>by
   rw[RN]at h⊢;obtain⟨u,rfl,h⟩:=h;refine⟨u,rfl,?_⟩;rcases h with h|⟨g,off,cap,rfl,hc,h⟩
   ·exact .inl h
   ·exact .inr ⟨g,off,cap,rfl,hc,RNs.keep hf hX hS l g off h⟩
 | .alt l,_,h=>by
   rw[RN]at h⊢;obtain⟨u,rfl,h⟩:=h;refine⟨u,rfl,?_⟩;rcases h with h|⟨g,off,cap,rfl,hc,h⟩
   ·exact .inl h
   ·exact .inr ⟨g,off,cap,rfl,hc,RNs.keep hf hX hS l g off h⟩
 | .rep x _ _,_,h=>by
   rw[RN]at h⊢;obtain⟨u,rfl,h⟩:=h;exact⟨u,rfl,RN.keep hf hX hS x u h⟩
 | .group _ x,_,h=>by
   rw[RN]at h⊢;obtain⟨u,rfl,h⟩:=h;exact⟨u,rfl,RN.keep hf hX hS x u h⟩
 | .back _,_,h=>by rw[RN]at h⊢;exact h
 | .start,_,h=>by rw[RN]at h⊢;exact h
 | .fin,_,h=>by rw[RN]at h⊢;exact h
theorem RNs.keep(hf:Fr X w w')(hX:∀k,k<w.heap.size→X k→S k)(hS:∀k,k<w.heap.size→S' k→S k):∀(ts:List Nd) (g off:Nat),RNs S w ts g off→RNs S' w' ts g off
 |[],_,_,_=>by rw[RNs];trivial
 |t::ts,g,off,h=>by
  rw[RNs]at h⊢;obtain⟨h1,h2,⟨v,h3,h4⟩,h5⟩:=h;exact⟨fun x=>h1 (hS g h2 x),Nat.lt_of_lt_of_le h2 hf.size,⟨v,RN.keep hf hX hS t v h3,hf.cell h4 (fun x=>h1 (hX g h2 x))⟩,RNs.keep hf hX hS ts g (off+1) h5⟩
end
end
theorem SN.keep{S X S':Nat→Prop}{w w':World}{l:List Nd}{u:Value}(h:SN S w l u)(hf:Fr X w w')(hX:∀k,k<w.heap.size→X k→S k)(hS:∀k,k<w.heap.size→S' k→S k):SN S' w' l u:=by
 rcases h with h|⟨g,off,a,rfl,hc,h⟩
 ·exact .inl h
 ·exact .inr ⟨g,off,a,rfl,hc,RNs.keep hf hX hS l g off h⟩
theorem ST.keep{S X S':Nat→Prop}{w w':World}{l:List T}{u:Value}(h:ST S w l u)(hf:Fr X w w')(hX:∀k,k<w.heap.size→X k→S k)(hS:∀k,k<w.heap.size→S' k→S k):ST S' w' l u:=by
 rcases h with h|⟨g,off,a,rfl,hc,h⟩
 ·exact .inl h
 ·exact .inr ⟨g,off,a,rfl,hc,RTs.keep hf hX hS l g off h⟩
theorem RN.on{S:Nat→Prop}{w w':World}{t:Nd}{v:Value}(h:RN S w t v)(hf:Fr nob w w'):RN S w' t v:=RN.keep hf (fun _ _ x=>x.elim) (fun _ _ x=>x) t v h
theorem RT.on{S:Nat→Prop}{w w':World}{t:T}{cs:List Value}(h:RT S w t cs)(hf:Fr nob w w'):RT S w' t cs:=RT.keep hf (fun _ _ x=>x.elim) (fun _ _ x=>x) t cs h
theorem SN.on{S:Nat→Prop}{w w':World}{l:List Nd}{u:Value}(h:SN S w l u)(hf:Fr nob w w'):SN S w' l u:=h.keep hf (fun _ _ x=>x.elim) (fun _ _ x=>x)
theorem ST.on{S:Nat→Prop}{w w':World}{l:List T}{u:Value}(h:ST S w l u)(hf:Fr nob w w'):ST S w' l u:=h.keep hf (fun _ _ x=>x.elim) (fun _ _ x=>x)
def VN(S:Nat→Prop)(w:World):List Nd→List Value→Prop
 |[],vs=>vs=[]
 |t::ts,vs=>∃v r,vs=v::r∧RN S w t v∧VN S w ts r
theorem VN.length{S:Nat→Prop}{w:World}:∀{l:List Nd} {vs:List Value},VN S w l vs→vs.length=l.length
 |[],_,h=>by rw[VN]at h;subst h;rfl
 |t::ts,_,h=>by rw[VN]at h;obtain⟨v,r,rfl,_,h⟩:=h;simp[VN.length h]
theorem VN.append{S:Nat→Prop}{w:World}:∀{l m:List Nd} {vs us:List Value},VN S w l vs→VN S w m us→VN S w (l++m) (vs++us)
 |[],_,_,_,h,k=>by rw[VN]at h;subst h;exact k
 |t::ts,_,_,_,h,k=>by rw[VN]at h;obtain⟨v,r,rfl,h1,h⟩:=h;exact⟨v,_,rfl,h1,VN.append h k⟩
theorem VN.keep{S X S':Nat→Prop}{w w':World}(hf:Fr X w w')(hX:∀k,k<w.heap.size→X k→S k)(hS:∀k,k<w.heap.size→S' k→S k):∀{l:List Nd} {vs:List Value},VN S w l vs→VN S' w' l vs
 |[],_,h=>by rw[VN]at h⊢;exact h
 |t::ts,_,h=>by rw[VN]at h⊢;obtain⟨v,r,rfl,h1,h⟩:=h;exact⟨v,r,rfl,RN.keep hf hX hS _ _ h1,VN.keep hf hX hS h⟩
theorem At.tail{w:World}{g off:Nat}{v:Value}{r:List Value}(h:At w g off (v::r)):At w g (off+1) r:=fun j u hj=>by
 have:=h (j+1) u (by simpa using hj);rwa[show off+(j+1)=off+1+j by omega]at this
theorem At.head{w:World}{g off:Nat}{v:Value}{r:List Value}(h:At w g off (v::r)):w.cell? ⟨g,off,none⟩=some v:=h 0 v rfl
theorem At.cons{w:World}{g off:Nat}{v:Value}{r:List Value}(h0:w.cell? ⟨g,off,none⟩=some v)(h:At w g (off+1) r):At w g off (v::r):=fun j u hj=>by
 cases j with
 |zero=>simp at hj;subst hj;exact h0
 |succ j=>have:=h j u (by simpa using hj);rwa[show off+1+j=off+(j+1) by omega]at this
theorem RNs.of{S:Nat→Prop}{w:World}{g:Nat}(hg:¬S g)(hs:g<w.heap.size):∀{l:List Nd} {vs:List Value} {off:Nat},VN S w l vs→At w g off vs→RNs S w l g off
 |[],_,_,_,_=>by rw[RNs];trivial
 |t::ts,_,off,h,ha=>by
  rw[VN]at h;obtain⟨v,r,rfl,h1,h⟩:=h;rw[RNs];exact⟨hg,hs,⟨v,h1,ha.head⟩,RNs.of hg hs h ha.tail⟩
theorem RNs.vals{S:Nat→Prop}{w:World}{g:Nat}:∀{l:List Nd} {off:Nat},RNs S w l g off→∃vs,VN S w l vs∧At w g off vs
 |[],_,_=>⟨[],rfl,fun j v hj=>by simp at hj⟩
 |t::ts,off,h=>by
  rw[RNs]at h;obtain⟨_,_,⟨v,h1,h2⟩,h⟩:=h;obtain⟨vs,hv,ha⟩:=RNs.vals h;exact⟨v::vs,⟨v,vs,rfl,h1,hv⟩,At.cons h2 ha⟩
theorem SN.of_own{S:Nat→Prop}{w:World}{l:List Nd}{u:Value}{vs:List Value}{e:TypeId}(h:w.ownsRow 0 e 1 u l.length vs)(hv:VN S w l vs)(hS:∀k,u.ownBlock=some k→¬S k):SN S w l u:=by
 obtain⟨_,h⟩:=h;rcases h with⟨rfl,h0⟩|⟨g,b,c,rfl,_,hg,hn,_,_,a⟩
 ·exact .inl ⟨rfl,List.length_eq_zero_iff.1 h0⟩
 ·refine .inr ⟨g,0,b,rfl,hn,RNs.of (hS g rfl) (lt_heap hg) hv ?_⟩;intro j v hj;rw[←a,List.getElem?_take]at hj;split at hj
  ·exact cell_at hg (by simpa using hj)
  ·cases hj
theorem RN.shape{S:Nat→Prop}{w:World}{t:Nd}{v:Value}(h:RN S w t v):v=.nilIface∨∃i x,v=.iface i x:=by
 cases t<;>rw[RN]at h
 ·exact .inl h
 ·exact .inr ⟨_,_,h⟩
 ·exact .inr ⟨_,_,h⟩
 ·obtain⟨u,h,_⟩:=h;exact .inr ⟨_,_,h⟩
 ·obtain⟨u,h,_⟩:=h;exact .inr ⟨_,_,h⟩
 ·obtain⟨u,h,_⟩:=h;exact .inr ⟨_,_,h⟩
 ·obtain⟨u,h,_⟩:=h;exact .inr ⟨_,_,h⟩
 ·exact .inr ⟨_,_,h⟩
 ·exact .inr ⟨_,_,h⟩
 ·exact .inr ⟨_,_,h⟩
theorem SN.shape{S:Nat→Prop}{w:World}{l:List Nd}{u:Value}(h:SN S w l u):∃a c,u=.slice a l.length c:=by
 rcases h with⟨rfl,rfl⟩|⟨g,off,b,rfl,_⟩
 ·exact⟨_,_,rfl⟩
 ·exact⟨_,_,rfl⟩
theorem SN.one{S:Nat→Prop}{w:World}{t:Nd}{v:Value}(h:RN S w t v)(hS:∀k,S k→k<w.heap.size)(e:TypeId):SN S (w.alloc (.cells #[v] e)) [t] (.slice (some ⟨w.heap.size,0,none⟩) 1 1):=by
 refine .inr ⟨_,_,_,rfl,by simp,RNs.of (vs:=[v]) (fun x=>by have:=hS _ x;omega) (by simp) ⟨v,[],rfl,h.on ((Fr.refl _ _).alloc _),rfl⟩ ?_⟩;intro j u hj;cases j with
 |zero=>simp at hj;subst hj;simp[World.cell?_alloc_new]
 |succ j=>simp at hj
theorem SN.one'{S:Nat→Prop}{w:World}{t:Nd}{v:Value}{b:Nat}(h:RN S w t v)(hS:∀k,S k→k<w.heap.size)(e:TypeId)(hb:b=w.heap.size):SN S (w.alloc (.cells #[v] e)) [t] (.slice (some ⟨b,0,none⟩) 1 1):=by
 subst hb;exact SN.one h hS e
theorem SN.nil{S:Nat→Prop}{w:World}:SN S w [] (.slice none 0 0):=.inl ⟨rfl,rfl⟩
def Nd.kids:Nd→List Nd
 | .cat l=>l
 | .alt l=>l
 | .rep x _ _=>[x]
 | .group _ x=>[x]
 |_=>[]
mutual
def Nd.size:Nd→Nat
 | .cat l=>1+Nd.sizes l
 | .alt l=>1+Nd.sizes l
 | .rep x _ _=>1+x.size
 | .group _ x=>1+x.size
 | .nil| .empty| .one _| .back _| .start| .fin=>1
def Nd.sizes:List Nd→Nat
 |[]=>0
 |t::ts=>t.size+Nd.sizes ts
end
theorem Nd.size_pos(n:Nd):1≤n.size:=by cases n<;>simp[Nd.size]<;>omega
theorem Nd.size_kids(n:Nd):n.size=1+Nd.sizes n.kids:=by cases n<;>simp[Nd.size,Nd.kids,Nd.sizes]
theorem Nd.sizes_append(l m:List Nd):Nd.sizes (l++m)=Nd.sizes l+Nd.sizes m:=by
 induction l with
 |nil=>simp[Nd.sizes]
 |cons t ts ih=>simp only[List.cons_append,Nd.sizes,ih];omega
theorem Nd.length_le(l:List Nd):l.length≤Nd.sizes l:=by
 induction l with
 |nil=>simp
 |cons t ts ih=>have:=t.size_pos;simp only[List.length_cons,Nd.sizes];omega
theorem Nd.sizes_mem{l:List Nd}{t:Nd}(h:t∈l):t.size≤Nd.sizes l:=by
 induction l with
 |nil=>simp at h
 |cons a l ih=>
  simp only[Nd.sizes];rcases List.mem_cons.1 h with rfl|h
  ·omega
  ·have:=ih h;omega
theorem Nd.sizes_take_le(l:List Nd)(k:Nat):Nd.sizes (l.take k)≤Nd.sizes l:=by
 have:=Nd.sizes_append (l.take k) (l.drop k);rw[List.take_append_drop]at this;omega
theorem Nd.kid_lt{n t:Nd}(h:t∈n.kids):t.size<n.size:=by
 have:=Nd.sizes_mem h;rw[Nd.size_kids n];omega
theorem RNs.get{S:Nat→Prop}{w:World}{g:Nat}:∀{l:List Nd} {off:Nat},RNs S w l g off→∀{k:Nat} (hk:k<l.length),∃v,RN S w l[k] v∧w.cell? ⟨g,off+k,none⟩=some v
 |[],_,_,k,hk=>by simp at hk
 |t::ts,off,h,k,hk=>by
  rw[RNs]at h;obtain⟨_,_,⟨v,h1,h2⟩,h⟩:=h;cases k with
  |zero=>exact⟨v,h1,h2⟩
  |succ k=>
   obtain⟨u,h3,h4⟩:=RNs.get h (k:=k) (by simpa using hk);exact⟨u,by simpa using h3,by rwa[show off+(k+1)=off+1+k by omega]⟩
theorem SN.get{S:Nat→Prop}{w:World}{l:List Nd}{u:Value}(h:SN S w l u){k:Nat}(hk:k<l.length):∃g off cap v,u=.slice (some ⟨g,off,none⟩) l.length cap∧RN S w l[k] v∧w.cell? ⟨g,off+k,none⟩=some v:=by
 rcases h with⟨_,rfl⟩|⟨g,off,cap,rfl,_,h⟩
 ·simp at hk
 ·obtain⟨v,h1,h2⟩:=h.get hk;exact⟨g,off,cap,v,rfl,h1,h2⟩
open Go.Lib (hid)
def orw(x:Int)(n:Nat):Int:=bits BinOp.or IntKind.u64 x (IntKind.u64.wrap (2^n))
def S4.put(s:S4)(d:Nat):S4:=match d/64 with
 |0=>{s with a:=orw s.a (d%64)}
 |1=>{s with b:=orw s.b (d%64)}
 |2=>{s with c:=orw s.c (d%64)}
 |_=>{s with d:=orw s.d (d%64)}
def S4.puts(s:S4):List UInt8→S4
 |[]=>s
 |c::r=>S4.puts (s.put c.toNat) r
def S4.zero:S4:=⟨0,0,0,0⟩
theorem Zcn{w:World}{b:Nat}{s:S4}{T:TypeId}(h:w.heap[b]? =some (.cells s.cells.toArray T (0,0))):
 w.cell? ⟨b,0,none⟩=some (.int .u64 s.a)∧w.cell? ⟨b,1,none⟩=some (.int .u64 s.b)∧w.cell? ⟨b,2,none⟩=some (.int .u64 s.c)∧w.cell? ⟨b,3,none⟩=some (.int .u64 s.d)∧
 w.frozen? ⟨b,0,none⟩=false∧w.frozen? ⟨b,1,none⟩=false∧w.frozen? ⟨b,2,none⟩=false∧w.frozen? ⟨b,3,none⟩=false:=
 ⟨cell_at h rfl,cell_at h rfl,cell_at h rfl,cell_at h rfl,ZF h _,ZF h _,ZF h _,ZF h _⟩
theorem add_any(b:Nat)(s:S4)(d:Nat)(w:World)(hd:d<256)(h:w.heap[b]? =some (.cells s.cells.toArray 132 (0,0))):
 Calls prog 143 #[.pointer (some ⟨b,0,none⟩),.int .u8 d] w fun e w'=>e=.returned (.tuple #[])∧w'.heap[b]? =some (.cells (s.put d).cells.toArray 132 (0,0))∧Fr (fun k=>k=b) w w':=by
 obtain⟨c0,c1,c2,c3,f0,f1,f2,f3⟩:=Zcn h;have hb:=lt_heap h;have H:=hid h;clear h;have a:Int.tdiv (d:Int) 64=((d/64:Nat):Int):=(Int.ofNat_tdiv d 64).symm;have c:Int.tmod (d:Int) 64=((d%64:Nat):Int):=(Int.ofNat_tmod d 64).symm;have hq:d/64=0∨d/64=1∨d/64=2∨d/64=3:=by omega
 have hr:d%64<64:=by omega
 have w0:IntKind.u8.wrap 0=0:=by decide
 have w1:IntKind.u8.wrap 1=1:=by decide
 have w2:IntKind.u8.wrap 2=2:=by decide
 have w3:IntKind.u8.wrap 3=3:=by decide
 have wm:IntKind.u8.wrap ((d%64:Nat):Int)=((d%64:Nat):Int):=IntWalk.u8_in _ (by omega);have f:IntKind.u8.wrap ((d:Int)%64)=((d%64:Nat):Int):=by rw[show(d:Int)%64=((d%64:Nat):Int) by omega];exact wm
 go_enter func143,ntmps143;go_wp2;rcases hq with hq|hq|hq|hq
 all_goals
  rw[hq]at a
  go_still_tail 11,(by kernel_rfl)
  change wpList _ _ _ _ _ w.drew;go_wp2
  go_end0
  refine⟨rfl,?_,((Fr.refl (fun k=>k=b) w).setCell (p:=⟨b,_,none⟩) (fun _=>rfl) _).drew⟩;unfold S4.put;rw[hq];exact Za H.out _ _
theorem S4.cells_eq(s:S4):s.cells.toArray= #[.int .u64 s.a,.int .u64 s.b,.int .u64 s.c,.int .u64 s.d]:=rfl
def SB(w:World)(l:List UInt8)(u:Value):Prop:=(l=[]∧∃a c,u=.slice a 0 c)∨∃g off cap,u=.slice (some ⟨g,off,none⟩) l.length cap∧g<w.heap.size∧∀j x,l[j]? =some x→w.cell? ⟨g,off+j,none⟩=some (.int .u8 (x.toNat:Int))
theorem SB.shape{w:World}{l:List UInt8}{u:Value}(h:SB w l u):∃a c,u=.slice a l.length c:=by
 rcases h with⟨rfl,a,c,rfl⟩|⟨g,off,b,rfl,_⟩
 ·exact⟨_,_,rfl⟩
 ·exact⟨_,_,rfl⟩
theorem SB.get{w w':World}{l:List UInt8}{u:Value}(h:SB w l u)(hf:Fr nob w w'){k:Nat}(hk:k<l.length):∃g off cap,u=.slice (some ⟨g,off,none⟩) l.length cap∧w'.cell? ⟨g,off+k,none⟩=some (.int .u8 (l[k].toNat:Int)):=by
 rcases h with⟨rfl,_⟩|⟨g,off,cap,rfl,_,h⟩
 ·simp at hk
 ·exact⟨g,off,cap,rfl,hf.cell (h k _ (List.getElem?_eq_getElem hk)) (fun x=>x)⟩
theorem ZgU(s:S4)(l m:List UInt8):s.puts (l++m)=(s.puts l).puts m:=by
 induction l generalizing s with
 |nil=>rfl
 |cons c r ih=>exact ih _
theorem ZjM(s:S4){l:List UInt8}{k:Nat}(h:k<l.length):s.puts (l.take (k+1))=(s.puts (l.take k)).put l[k].toNat:=by
 rw[List.take_succ_eq_append_getElem h,ZgU];rfl
theorem heap_alloc_new(w:World)(o:Obj):(w.alloc o).heap[w.heap.size]? =some o:=by
 unfold World.alloc;exact Array.getElem?_push_size
theorem Zg(w:World)(o:Obj)(b:Nat)(hb:b=w.heap.size):(w.alloc o).heap[b]? =some o:=by subst hb;exact heap_alloc_new w o
theorem Zs{fn:Func}{p:Tmp}(h:fn.results= #[.cell p 132]){tmps:Array Value}{r:Nat}(ht:tmps.getD p undef=.pointer (some ⟨r,0,none⟩)){W:World}{s:S4}
 (hb:W.heap[r]? =some (.cells s.cells.toArray 132 (0,0))):(results fn tmps).run prog W=.ok (.agg s.cells.toArray) W:=by
 obtain⟨c0,c1,c2,c3,_⟩:=Zcn hb;have a:tmps[p]?.getD undef=.pointer (some ⟨r,0,none⟩):=by rw[←ht];simp
 simp only[results,h];simp[a,go_sem,c0,c1,c2,c3,S4.cells]
theorem ZoU(l:List UInt8)(u:Value)(w:World)(hl:l.length≤9000000000000000000)(h:SB w l u):
 Calls prog 116 #[u] w fun e w'=>e=.returned (.agg (S4.zero.puts l).cells.toArray)∧Fr nob w w':=by
 obtain⟨a,c,rfl⟩:=h.shape;have H:=hid h;clear h;go_enter func116,ntmps116;go_wp2_with fail;obtain⟨w0,f⟩:∃w0,w0=((w.alloc (.cells S4.zero.cells.toArray 132)).alloc (.cells S4.zero.cells.toArray 132)):=⟨_,rfl⟩;have f0:Fr nob w w0:=by rw[f];exact((Fr.refl _ _).alloc _).alloc _
 have m:w0.heap[w.heap.size]? =some (.cells S4.zero.cells.toArray 132 (0,0)):=by rw[f];exact heap_alloc_lt _ (heap_alloc_new _ _)
 have g:w0.heap[w.heap.size+1]? =some (.cells S4.zero.cells.toArray 132 (0,0)):=by
  rw[f];have:=heap_alloc_new (w.alloc (.cells S4.zero.cells.toArray 132)) (.cells S4.zero.cells.toArray 132);simpa using this
 change Code.wp _ _ _ _ ((w.alloc (.cells S4.zero.cells.toArray 132)).alloc (.cells S4.zero.cells.toArray 132));rw[←f];have F0:=hid f0;have o:=hid m;have n:=hid g;clear f0 m g f
 go_loopw [8] (fun i wr=>∃k:Nat,i=.int .i64 k∧k≤l.length∧wr.heap[w.heap.size+1]? =some (.cells (S4.zero.puts (l.take k)).cells.toArray 132 (0,0))∧Fr (fun k=>k=w.heap.size+1) w0 wr) (fun i _=>l.length-(intOf i).toNat)
 case atStart=>exact⟨0,rfl,Nat.zero_le _,n.out,Fr.refl _ _⟩
 case round=>
  obtain⟨k,rfl,hk,hb,fr⟩:=hrel;have HB:=hid hb;have FR:=hid fr;clear hb fr;have FW:=hid (F0.out.trans FR.out (fun i hi x=>by omega));by_cases j:k<l.length
  ·obtain⟨q,off,y,he,hc⟩:=H.out.get FW.out j;injection he with e1 e2 e3;subst e1;subst e3;clear e2;have t:=hid (ZjM S4.zero j);have hd:l[k].toNat<256:=l[k].toNat_lt;go_wp2_with fail;refine(add_any (w.heap.size+1) _ l[k].toNat _ hd HB.out).mono ?_;rintro e w3 ⟨rfl,h3,f3⟩;have H3:=hid h3;have F3:=hid f3;clear h3 f3;go_wp2;go_roundw
   case rel=>exact⟨k+1,by go_num,by omega,by rw[t.out];exact H3.out,FR.out.trans' F3.out⟩
   case measure=>simp[intOf];omega
  ·obtain rfl:k=l.length:=by omega
   have hT:=List.take_of_length_le (l:=l) (Nat.le_refl _);have hb:=HB.out;rw[hT]at hb;obtain⟨c0,c1,c2,c3,_⟩:=Zcn hb;have hr:=FR.out.heap o.out (fun e=>by omega);obtain⟨_,_,_,_,f0,f1,f2,f3⟩:=Zcn hr;have A:=lt_heap hr;have z:=lt_heap hb;have v:=hid hb;have r:=hid hr;clear hb hr hT;go_wp2;(try simp only[Exit.inBlock,Exit.then]);have hW:=Za (Za (Za (Za r.out 0 (.int .u64 (S4.zero.puts l).a)) 1 (.int .u64 (S4.zero.puts l).b)) 2 (.int .u64 (S4.zero.puts l).c)) 3 (.int .u64 (S4.zero.puts l).d);refine bodyPost_ret (Zs (s:=S4.zero.puts l) rfl rfl hW) rfl ⟨rfl,?_⟩;exact(((FW.out.setCell (p:=⟨w.heap.size,0,none⟩) (fun h=>absurd h (Nat.lt_irrefl _)) _).setCell (p:=⟨w.heap.size,1,none⟩) (fun h=>absurd h (Nat.lt_irrefl _)) _).setCell (p:=⟨w.heap.size,2,none⟩) (fun h=>absurd h (Nat.lt_irrefl _)) _).setCell (p:=⟨w.heap.size,3,none⟩) (fun h=>absurd h (Nat.lt_irrefl _)) _
open Go.ChangeShapes Go.WideShapes Go.ChangeAt Go.RowKit
section
variable {H:Type} {enc:TypeId×Value→H} {P:Program}
theorem trodAll_stays(hl:laidOutB P=true){W W':World}{sp:Nat→Bool}(hb:Below W.heap.size W W'):∀(ts:List TypeId) (vs:List Value) (ds:List (DataW H)) (ps:List MemPlace),
 (∀t∈ts,P.readableRec t=true∧t<P.types.size)→DataW.TrodAll enc P W 0 (fun _=>true) true ts vs ds ps→(∀x∈ps,x.block<W.heap.size)→(∀x∈ps,sp x.block=true)→
 DataW.TrodAll enc P W' 0 sp true ts vs ds ps
 |[],[],[],ps,_,h,_,_=>h
 |t::ts,v::vs,d::ds,ps,hr,⟨p,q,h1,h2,e⟩,hlt,hsp=>by
  subst e;refine⟨p,q,?_,?_,rfl⟩
  ·exact WideElems.Trod_stays hl (hr t (by simp)).1 (hr t (by simp)).2 h1 (fun x hx=>hb.same (hlt x (by simp[hx]))) (fun x hx=>hsp x (by simp[hx]))
  ·exact trodAll_stays hl hb ts vs ds q (fun t ht=>hr t (by simp[ht])) h2 (fun x hx=>hlt x (by simp[hx])) (fun x hx=>hsp x (by simp[hx]))
 |[],[],_::_,_,_,h,_,_=>h.elim
 |[],_::_,_,_,_,h,_,_=>h.elim
 |_::_,[],_,_,_,h,_,_=>h.elim
 |_::_,_::_,[],_,_,h,_,_=>h.elim
theorem ZwE{w:World}{base:Nat}{spare:Nat→Bool}{held:Bool}{m:Nat}{k:IntKind}{e:TypeId}(he:P.underlying e=some (.int k)):∀(cs:List Value) (xs:List (DataW H×List MemPlace)),
 cs.length=xs.length→(∀i,i<xs.length→DataW.trod enc P w base spare held m e ((cs.drop i).take 1)=xs[i]?)→∃zs:List Int,cs=zs.map (Value.int k)∧∀z∈zs,(Lit.int k z).wf=true
 |[],_,_,_=>⟨[],rfl,by simp⟩
 |c::cs,[],h,_=>by simp at h
 |c::cs,x::xs,hl,h=>by
  obtain⟨zs,hz,hw⟩:=ZwE he cs xs (by simpa using hl) (fun i hi=>by simpa using h (i+1) (by simp;omega));have h0:=h 0 (by simp);simp only[List.drop_zero,List.take_succ_cons,List.take_zero,List.getElem?_cons_zero]at h0;obtain⟨z,hc,_,wz⟩:=DataW.trod_int he h0;simp only[List.cons.injEq,and_true]at hc;refine⟨z::zs,by simp[hc,hz],?_⟩;intro y hy;rcases List.mem_cons.1 hy with rfl|hy
  ·exact wz
  ·exact hw y hy
theorem list4_of{α:Type}{zs:List α}(h:zs.length=4):∃a b c d,zs=[a,b,c,d]:=by
 match zs,h with
 |[a,b,c,d],_=>exact⟨a,b,c,d,rfl⟩
theorem ZlP{f:Func}{s:ChangeSpec}{apart fresh handsOn again:Bool}{W W':World}{args:Array Value}{ds gs:List (DataW H)}{before:List MemPlace}{tb:TypeId}
 (hvars:s.vars=[]) (hres:f.resultTypes= #[tb]) (htb:P.underlying tb=some .bool) (hl:laidOutB P=true) (hrd:∀t∈f.params.toList,P.readableRec t=true∧t<P.types.size)
 (hsp:s.fn H (ds++gs)={results:=[.lit (.bool true)],args:=ds})
 (hW:DataW.Whole enc P f.params.toList s.vars apart W args.toList ds gs before) (hb:Below W.heap.size W W'):
 s.post enc P f apart fresh handsOn again W args (.bool true) W':=by
 have d:∀p∈before,p.block<W.heap.size:=fun p hp=>hW.lt p hp;have i:∀p∈before,(fun b=>decide (b<W.heap.size)) p.block=true:=fun p hp=>by simpa using d p hp
 have a:∀(b:Nat) (sp:Nat→Bool) (hd:Bool),DataW.TrodAll enc P W' b sp hd f.resultTypes.toList ((Value.bool true).resultList f.resultTypes.size) (s.fn H (ds++gs)).results []:=by
  intro b sp hd;rw[hsp,hres];exact trodAll_cons_mk (shut_bool htb _) trodAll_mk0
 obtain⟨p,q,hA,hV,e,hz,hn⟩:=hW;have hW:DataW.Whole enc P f.params.toList s.vars apart W args.toList ds gs before:=⟨p,q,hA,hV,e,hz,hn⟩;have g:=hV;rw[hvars]at g;obtain⟨rfl,rfl⟩:=trodVars_none g;simp only[List.append_nil]at e hsp a;subst e;have c:∀sp:Nat→Bool,(∀x∈before,sp x.block=true)→DataW.TrodAll enc P W' 0 sp true f.params.toList args.toList (s.fn H (ds++[])).args before:=by
  intro sp h;simp only[List.append_nil];rw[hsp];exact trodAll_stays hl hb _ _ _ _ hrd hA d h
 have j:∀sp:Nat→Bool,DataW.TrodVars enc P W' sp s.vars (s.fn H (ds++[])).vars []:=by
  intro sp;simp only[List.append_nil];rw[hvars,hsp];rfl
 refine⟨ds,[],before,[],before,[],hW,by simpa using a _ _ _,c _ i,j _,World.keptBut_mono (fun x hx=>⟨hx,.inr (.inl hx)⟩) (hb.frame (·∈before)),fun _=> ?_⟩;refine⟨ok_one hres rfl (okWide_bool_mk htb _),(s.fn H (ds++[])).results++(s.fn H (ds++[])).args,[],before,⟨[]++before,[],?_,?_,by simp,?_,?_⟩,?_⟩
 ·exact trodAll_append (c _ (fun _ _=>rfl)) (by simpa using a _ _ _)
 ·rw[hvars];rfl
 ·intro b off hp;rw[hb.frozen (d _ hp)];exact hz b off hp
 ·intro ha;exact hn ha
 ·intro x hx _;exact hx
end
def wd(x:Int):BitVec 64:=BitVec.ofInt 64 x
def Fit(x:Int):Prop:=0≤x∧x<18446744073709551616
theorem ZjN{x:Int}(h:(Lit.int .u64 x).wf=true):Fit x:=by
 simp[Lit.wf,IntKind.min,IntKind.max,IntKind.signed,IntKind.bits]at h;exact⟨h.1,by omega⟩
theorem Zm7(b:BitVec 64):wd (b.toNat:Int)=b:=by unfold wd;simp
theorem Zh7{x:Int}(h:Fit x):((wd x).toNat:Int)=x:=by
 unfold wd;rw[BitVec.toNat_ofInt];have:=h.1;have:=h.2;simp only[Nat.reducePow];omega
theorem Zh8{x y:Int}(hx:Fit x)(hy:Fit y)(h:wd x=wd y):x=y:=by rw[←Zh7 hx,←Zh7 hy,h]
theorem Zh9(b:BitVec 64):IntKind.u64.wrap (b.toNat:Int)=(b.toNat:Int):=by
 have:=b.isLt;simp only[IntKind.wrap,IntKind.bits,IntKind.signed];simp;omega
theorem ZlN(x y:Int):bits .and .u64 x y=((wd x&&& wd y).toNat:Int):=Zh9 _
theorem Znp(x y:Int):bits .or .u64 x y=((wd x|||wd y).toNat:Int):=Zh9 _
theorem Zqf(x y:Int):wd (bits .or .u64 x y)=wd x|||wd y:=by rw[Znp,Zm7]
theorem ZaT(op:BinOp)(x y:Int):Fit (bits op .u64 x y):=ZjN (wf_bits op .u64 x y)
theorem ZeV{x:Int}(h:Fit x){n:Nat}(hn:n<64):(bits .and .u64 (x/2^n) 1==1)=(wd x).getLsbD n:=by
 have hx:=Zh7 h;obtain⟨b,hb⟩:∃b,wd x=b:=⟨_,rfl⟩;rw[hb]at hx⊢;subst hx;rw[ZlN];have hd:((b.toNat:Int)/2^n)=(((b >>>n).toNat:Nat):Int):=by
  rw[BitVec.toNat_ushiftRight,Nat.shiftRight_eq_div_pow];push_cast;rfl
 rw[hd,Zm7];have h1:wd 1=1#64:=by decide
 rw[h1];have h2:(b >>>n&&& 1#64).toNat=if b.getLsbD n then 1 else 0:=by
  rw[BitVec.toNat_and,BitVec.toNat_ushiftRight];simp only[BitVec.toNat_ofNat,Nat.reducePow,Nat.reduceMod];rw[Nat.and_one_is_mod,Nat.shiftRight_eq_div_pow,BitVec.getLsbD,Nat.testBit_eq_decide_div_mod_eq];split<;>simp_all<;>omega
 rw[h2];cases b.getLsbD n<;>simp
theorem ZlO:(prog.info? 168).map (·.size)=some 2:=by kernel_rfl
theorem ZeW:(prog.info? 5).map (fun i=>(i.zero,i.size,i.bytes))=some (some (.int .u8 0),1,1):=by kernel_rfl
def Zfx(T:TypeId)(n o:Nat):Prop:=liesAt prog prog.depth T (n/prog.cellsOf T) o 168 1=true
theorem copyCheck_any(T:TypeId)(b o:Nat)(cs:Array Value)(bs:List UInt8)(g:Option Nat)(w:World)(h:Zc3 5 T b o cs bs g w)(hl:Zfx T cs.size o):
 Calls prog 123 #[.pointer (some ⟨b,o,none⟩)] w fun e w'=>e=.returned (.tuple #[])∧
  Zc3 5 T b o (cs.setIfInBounds o (.pointer (some ⟨b,o,none⟩))) bs g w'∧Fr (fun k=>k=b) w w':=by
 obtain⟨hb,ho,hp,v,hv,a,hg,d,f⟩:=h;obtain⟨j,hj,c⟩:=Option.map_eq_some_iff.1 ZlO;have l:w.shape? b=some (T,cs.size):=by simp[World.shape?,hb]
 have n:w.frozen? ⟨b,o,none⟩=false:=ZF hb o;rcases hp with hp|hp
 ·have h0:=cell_at hb hp;have HB:=hid hb;have HO:=hid ho;have HV:=hid hv;have HW:=hid a;have HG:=hid hg;have HN:=hid d;have HP:=hid hp;have HL:=hid hl;have HJ:=hid c;have HS:=hid l;have HI:=hid f;clear hb ho hv a hg d hp hl c l f;go_enter func123,ntmps123;go_wp2;rw[Lib.run_to_unsafe w ⟨b,o,none⟩ underlying165 underlying228 hj (by rw[HJ.out];decide) HS.out (Nat.lt_of_succ_lt HO.out)];simp only[Result.andThen];rw[Oper.upon_value];go_wp2;rw[run_callFunc_extern func149 (by kernel_rfl) (by kernel_rfl) (by kernel_rfl) (e:=Extern.AbiNoEscape.same) (by kernel_rfl)];rw[Lib.run_noEscape];simp only[Result.andThen];rw[Oper.upon_value];go_wp2;rw[Lib.run_from_unsafe w ⟨b,o,none⟩ underlying228 underlying165 hj HS.out HL.out];simp only[Result.andThen];rw[Oper.upon_value];go_wp2
  go_end0
  have ho:=HO.out;refine⟨rfl,⟨Za HB.out o _,by simpa using ho,.inr (by rw[Array.getElem?_setIfInBounds,if_pos rfl,if_pos (by omega)]),v,?_,?_,HG.out,HN.out,HI.out⟩,(Fr.refl (fun k=>k=b) w).setCell (p:=⟨b,o,none⟩) (fun _=>rfl) _⟩
  ·rw[Array.getElem?_setIfInBounds,if_neg (by omega)];exact HV.out
  ·have hn:=HN.out;exact ownsRow_fr HW.out ((Fr.refl (fun k=>k=b) w).setCell (p:=⟨b,o,none⟩) (fun _=>rfl) _) (fun k hk e=>hn (by rw[←HG.out,hk,e]))
 ·have h0:=cell_at hb hp;have HB:=hid hb;have HO:=hid ho;have HV:=hid hv;have HW:=hid a;have HG:=hid hg;have HN:=hid d;have HP:=hid hp;have HL:=hid hl;have HJ:=hid c;have HS:=hid l;have HI:=hid f;clear hb ho hv a hg d hp hl c l f;go_enter func123,ntmps123;go_wp2;rw[Lib.run_neq_ptr_same w _ underlying165 hj];go_wp2
  go_end0
  have m:cs.setIfInBounds o (.pointer (some ⟨b,o,none⟩))=cs:=by
   apply Array.ext_getElem?;intro i;rw[Array.getElem?_setIfInBounds];have ho:=HO.out;split
   ·subst_vars;rw[if_pos (by omega)];exact HP.out.symm
   ·rfl
  rw[m];exact⟨rfl,⟨HB.out,HO.out,.inr HP.out,v,HV.out,HW.out,HG.out,HN.out,HI.out⟩,Fr.refl _ _⟩
theorem Zau{cs:Array Value}{o i:Nat}{p:Value}(h:i≠o):(cs.setIfInBounds o p)[i]? =cs[i]? :=by
 rw[Array.getElem?_setIfInBounds,if_neg (fun e=>h e.symm)]
theorem ZdU{cs:Array Value}{o:Nat}{p:Value}(h:o<cs.size):(cs.setIfInBounds o p)[o]? =some p:=by
 rw[Array.getElem?_setIfInBounds,if_pos rfl,if_pos h]
def ZaK(cs:Array Value)(b o:Nat)(v:Value):Array Value:=(cs.setIfInBounds o (.pointer (some ⟨b,o,none⟩))).setIfInBounds (o+1) v
theorem ZY(cs:Array Value)(b o:Nat)(v:Value):(ZaK cs b o v).size=cs.size:=by simp[ZaK]
theorem ZbG(cs:Array Value)(b o:Nat)(v:Value){i:Nat}(h:i≠o)(h':i≠o+1):(ZaK cs b o v)[i]? =cs[i]? :=by
 unfold ZaK;rw[Zau h',Zau h]
theorem ZjO{S:Nat→Prop}{a w:World}(h:Fr S a w){p:Addr}(hp:p.block<a.heap.size→S p.block)(n:Nat):Fr S a (w.freeze p n):=by
 refine h.trans (T:=fun k=>k=p.block) ?_ (fun i hi e=>by subst e;exact hp hi);unfold World.freeze;split
 ·exact Fr.refl _ _
 ·refine⟨rfl,rfl,rfl,by simp,fun k _ hk=> ?_⟩;simp only[Array.getElem?_modify];rw[if_neg (fun e=>hk e.symm)]
theorem ZgV(T:TypeId)(b o:Nat)(cs:Array Value)(bs:List UInt8)(g:Option Nat)(w:World)(h:Zc3 5 T b o cs bs g w)(h0:bs≠[]):
 Calls prog 96 #[.pointer (some ⟨b,o,none⟩)] w fun e w'=>e=.returned (.string ⟨bs.toArray⟩)∧Fr (fun k=>some k=g) w w':=by
 obtain⟨hb,ho,hp,v,hv,d,hg,t,_⟩:=h;have m:bs.length≠0:=by simpa using h0
 obtain⟨gb,a,c,rfl,_,l,s,i,n,f⟩:∃g a c,v=.slice (some ⟨g,0,none⟩) bs.length a∧0≤g∧w.heap[g]? =some (.cells c 5 (0,0))∧bs.length≤a∧a≤maxLen∧c.size=a*1∧c.toList.take (bs.length*1)=ZP bs:=by
  rcases d.2 with⟨_,hz⟩|⟨g,a,c,hv,r⟩
  ·exact absurd hz m
  ·exact⟨g,a,c,hv,r⟩
 have c1:w.drew.cell? ⟨b,o+1,none⟩=some (.slice (some ⟨gb,0,none⟩) bs.length a):=cell_at (w:=w.drew) hb hv;have u:(Builtin.unsafeSliceData_ #[166] 196 #[.slice (some ⟨gb,0,none⟩) bs.length a]).run prog w.drew=.ok (.pointer (some ⟨gb,0,none⟩)) w.drew:=
  Lib.run_unsafeSliceData_row _ _ _ _ _ _ (by omega)
 have y:(Builtin.unsafeString_ #[196,3] 9 #[.pointer (some ⟨gb,0,none⟩),.int .i64 bs.length]).run prog w.drew=.ok (.string ⟨bs.toArray⟩) (w.drew.freeze ⟨gb,0,none⟩ bs.length):=by
  refine Lib.run_unsafeString_row w.drew 196 3 9 5 underlying196 (by kernel_rfl) gb c.size (by have q:w.drew.heap[gb]? =some (.cells c 5 (0,0)):=l;simp[World.shape?,q]) bs h0 (by omega) (by unfold maxLen at i;omega) ?_;intro j x hx;have:=d.cells (g:=gb) rfl j (.int .u8 x.toNat) (by simp[ZP,ZeT,hx]);exact this
 have HG:=hid hg;have HB:=hid hb;clear hb ho hp hv d hg t l s i n f m h0;go_enter func96,ntmps96;go_wp2
 go_still_tail 10,(by kernel_rfl)
 change wpList _ _ _ _ _ w.drew
 all_goals(go_wp2;go_ret;exact⟨rfl,ZjO (Fr.refl _ w).drew (p:=⟨gb,0,none⟩) (fun _=>HG.out) _⟩)
theorem ZgW(T:TypeId)(b o:Nat)(cs:Array Value)(g:Option Nat)(w:World)(h:Zc3 5 T b o cs [] g w):
 Calls prog 96 #[.pointer (some ⟨b,o,none⟩)] w fun e w'=>e=.returned (.string ⟨#[]⟩)∧Fr (fun k=>some k=g) w w':=by
 obtain⟨hb,ho,hp,v,hv,c,hg,d,hn⟩:=h;have a:=hn rfl;subst a;have c1:w.drew.cell? ⟨b,o+1,none⟩=some (.slice none 0 0):=cell_at (w:=w.drew) hb hv;have f:(Builtin.unsafeSliceData_ #[166] 196 #[.slice none 0 0]).run prog w.drew=.ok (.pointer none) w.drew:=rfl;have i:(Builtin.unsafeString_ #[196,3] 9 #[.pointer none,.int .i64 0]).run prog w.drew=.ok (.string .empty) w.drew:=Lib.run_unsafeString_none w.drew _ _ _ none;clear hb ho hp hv c hg d hn;go_enter func96,ntmps96;go_wp2
 go_still_tail 10,(by kernel_rfl)
 change wpList _ _ _ _ _ w.drew
 all_goals(go_wp2;go_ret;exact⟨rfl,(Fr.refl _ w).drew⟩)
theorem Zev(T:TypeId)(b o:Nat)(cs:Array Value)(bs:List UInt8)(g:Option Nat)(w:World)(h:Zc3 5 T b o cs bs g w):
 Calls prog 96 #[.pointer (some ⟨b,o,none⟩)] w fun e w'=>e=.returned (.string ⟨bs.toArray⟩)∧Fr (fun k=>some k=g) w w':=by
 by_cases h0:bs=[]
 ·subst h0;exact ZgW T b o cs g w h
 ·exact ZgV T b o cs bs g w h h0
def Bb(b:Nat)(out:List UInt8)(g:Option Nat)(w:World):Prop:=∃cs,Zc3 5 168 b 0 cs out g w∧cs.size=2
theorem Bb.new(w:World):Bb w.heap.size [] none (w.alloc (.cells #[.pointer none,.slice none 0 0] 168)):=
 ⟨_,⟨heap_alloc_new w _,by simp,.inl rfl,.slice none 0 0,rfl,World.ownsRow_nil _ _ _ _,rfl,by simp,fun _=>rfl⟩,rfl⟩
theorem Zfy{n:Nat}(h:n=2):Zfx 168 n 0:=by subst h;unfold Zfx;kernel_rfl
theorem bb_string(b:Nat)(out:List UInt8)(g:Option Nat)(w:World)(h:Bb b out g w):
 Calls prog 96 #[.pointer (some ⟨b,0,none⟩)] w fun e w'=>e=.returned (.string ⟨out.toArray⟩)∧Fr (fun k=>some k=g) w w':=by
 obtain⟨cs,hb,hs⟩:=h;exact Zev _ b 0 cs out g w hb
theorem ZcJ{b:Nat}{g g':Option Nat}{w wr w1:World}(hb:w.heap.size≤b)(hf:Fr nob w wr)(hg:∀j,g=some j→w.heap.size≤j)(hf1:Fr (fun k=>k=b∨some k=g) wr w1):Fr nob w w1:=
 hf.trans hf1 (fun i hi h=>by rcases h with h|h;omega;have:=hg i h.symm;omega)
theorem ZdV{g g':Option Nat}{w wr:World}(hf:Fr nob w wr)(hg:∀j,g=some j→w.heap.size≤j)(hg1:∀k,g'=some k→some k=g∨wr.heap.size≤k):∀j,g'=some j→w.heap.size≤j:=fun j hj=>by
 have:=hf.size;rcases hg1 j hj with h|h
 ·exact hg j h.symm
 ·omega
open Go.RowKit Go.MapKept
def IMap(w:World)(m:Nat)(cl:List Nat):Prop:=∃es clock,w.heap[m]? =some (.map es clock)∧Stamped es clock∧
 (∀x∈es.toList,∃k:Nat,x.key=.int .i64 k∧x.val=.int .i64 (cl.count k:Nat))∧(∀k∈cl,∃x∈es.toList,x.key=.int .i64 (k:Nat))
theorem IMap.fr{X:Nat→Prop}{w w':World}{m:Nat}{cl:List Nat}(h:IMap w m cl)(f:Fr X w w')(hm:¬X m):IMap w' m cl:=by
 obtain⟨es,a,hb,h⟩:=h;exact⟨es,a,f.heap hb hm,h⟩
theorem IMap.lt{w:World}{m:Nat}{cl:List Nat}(h:IMap w m cl):m<w.heap.size:=by obtain⟨es,a,hb,_⟩:=h;exact lt_heap hb
theorem IMap.new{w:World}{m:Nat}(h:w.heap[m]? =some (.map #[] 0)):IMap w m []:=⟨#[],0,h,stamped_empty 0,by simp,by simp⟩
theorem Zce{w:World}{m:Nat}(o:Obj):Fr (fun k=>k=m) w {w with heap:=w.heap.setIfInBounds m o}:=
 ⟨rfl,rfl,rfl,by simp,fun k hk hn=>by simp[Array.getElem?_setIfInBounds_ne (Ne.symm hn)]⟩
theorem Zfz{α:Type}{l:List α}(h:l.Nodup){i j:Nat}(hi:i<l.length)(e:l[i]? =l[j]?):i=j:=by
 have hj:j<l.length:=by
  rw[List.getElem?_eq_getElem hi]at e;exact(List.getElem?_eq_some_iff.1 e.symm).1
 rw[List.getElem?_eq_getElem hi,List.getElem?_eq_getElem hj]at e;injection e with e;have hp:=List.pairwise_iff_getElem.1 h;rcases Nat.lt_trichotomy i j with a|rfl|a
 ·exact absurd e (hp i j hi hj a)
 ·rfl
 ·exact absurd e.symm (hp j i hj hi a)
section
variable {P:Program} {mty kt et:TypeId}
theorem ZfA(hm:P.underlying mty=some (.map kt et))(hd:P.underlying kt=some (.int .i64))(hz:∀w,(zeroValue et).run P w=.ok (.int .i64 0) w){w:World}{m:Nat}{cl:List Nat}(h:IMap w m cl)(n:Nat):
 (Instr.lookup mty (.map (some m)) (.int .i64 n) false).run P w=.ok (.int .i64 (cl.count n:Nat)) w:=by
 obtain⟨es,b,hb,hs,hv,hk⟩:=h;have c:∀x∈es.toList,IsKey (.int .i64) x.key:=fun x hx=>by obtain⟨k,e,_⟩:=hv x hx;rw[e];rfl
 have a:IsKey (.int .i64) (.int .i64 (n:Int)):=rfl;rcases findNow_spec a es.toList 0 c with⟨h1,h2⟩|⟨j,e,h1,h2,h3⟩
 ·have hc:cl.count n=0:=List.count_eq_zero.2 fun hn=>by obtain⟨x,hx,e⟩:=hk n hn;exact h2 x hx e
  simp[Instr.lookup,run_underlying hm,MapKept.run_getObj_map hb,run_checkKey hd a,run_findKey hd h1,Result.andThen,hz,hc]
 ·have he:e∈es.toList:=List.mem_of_getElem? h2;obtain⟨k,e1,e2⟩:=hv e he;rw[e1]at h3;have:k=n:=by injection h3 with _ h;omega
  subst this;simp[Instr.lookup,run_underlying hm,MapKept.run_getObj_map hb,run_checkKey hd a,run_findKey hd h1,Result.andThen,e2]
theorem ZgX(hm:P.underlying mty=some (.map kt et))(hd:P.underlying kt=some (.int .i64)){w:World}{m:Nat}{cl:List Nat}(h:IMap w m cl)(n:Nat):
 ∃w',(Instr.mapUpdate mty (.map (some m)) (.int .i64 n) (.int .i64 ((cl.count n:Nat)+1))).run P w=.ok () w'∧IMap w' m (cl++[n])∧Fr (fun k=>k=m) w w':=by
 obtain⟨es,a,hb,hs,hv,hk⟩:=h;have p:∀x∈es.toList,IsKey (.int .i64) x.key:=fun x hx=>by obtain⟨k,e,_⟩:=hv x hx;rw[e];rfl
 have d:IsKey (.int .i64) (.int .i64 (n:Int)):=rfl;have c:∀x∈es.toList,x.key≠.int .i64 (n:Nat)→∃k:Nat,x.key=.int .i64 k∧x.val=.int .i64 ((cl++[n]).count k:Nat):=fun x hx hne=>by
  obtain⟨k,k1,k2⟩:=hv x hx;refine⟨k,k1,?_⟩;have d:k≠n:=by rintro rfl;exact hne k1
  rw[k2,List.count_append];simp[List.count_singleton,Ne.symm d]
 rcases findNow_spec d es.toList 0 p with⟨h1,h2⟩|⟨j,e,h1,h2,h3⟩
 ·have hc:cl.count n=0:=List.count_eq_zero.2 fun hn=>by obtain⟨x,hx,e⟩:=hk n hn;exact h2 x hx e
  refine⟨{w with heap:=w.heap.setIfInBounds m (.map (es.push {key:=.int .i64 n,val:=.int .i64 ((cl.count n:Nat)+1),born:=a}) (a+1))},?_,?_,Zce _⟩
  ·simp[Instr.mapUpdate,run_underlying hm,MapKept.run_getObj_map hb,run_checkKey hd d,run_findKey hd h1,Result.andThen,MapKept.run_setObj_map _ hb]
  ·refine⟨_,_,(heap_set hb).1,stamped_push hs h2,?_,?_⟩
   ·intro x hx;simp only[Array.toList_push,List.mem_append,List.mem_singleton]at hx;rcases hx with hx|rfl
    ·exact c x hx (h2 x hx)
    ·exact⟨n,rfl,by simp⟩
   ·intro k b;rcases List.mem_append.1 b with b|b
    ·obtain⟨x,hx,e⟩:=hk k b;exact⟨x,by simp[hx],e⟩
    ·rw[List.mem_singleton]at b;subst b;exact⟨{key:=.int .i64 k,val:=.int .i64 ((cl.count k:Nat)+1),born:=a},by simp,rfl⟩
 ·have he:e∈es.toList:=List.mem_of_getElem? h2;have hj:es[j]? =some e:=by simpa using h2
  have o:j<es.size:=(Array.getElem?_eq_some_iff.1 hj).1;have f:∀e',es[j]? =some e'→({e' with key:=.int .i64 (n:Nat),val:=.int .i64 ((cl.count n:Nat)+1)}:MapEntry).key=e'.key:=fun e' he'=>by rw[hj]at he';cases he';exact h3.symm
  refine⟨{w with heap:=w.heap.setIfInBounds m (.map (es.modify j fun x=>{x with key:=.int .i64 (n:Nat),val:=.int .i64 ((cl.count n:Nat)+1)}) a)},?_,?_,Zce _⟩
  ·simp[Instr.mapUpdate,run_underlying hm,MapKept.run_getObj_map hb,run_checkKey hd d,run_findKey hd h1,Result.andThen,hj,h3,run_keyThatStays d,MapKept.run_setObj_map _ hb]
  ·refine⟨_,_,(heap_set hb).1,stamped_modify hs _ _ (fun _ _=>rfl) (fun e' _ he'=>f e' he'),?_,?_⟩
   ·intro y hy;rw[Array.mem_toList_iff,Array.mem_iff_getElem?]at hy;obtain⟨i,hi⟩:=hy;rw[Array.getElem?_modify]at hi;split at hi
    ·rw[show es[i]? =some e from by rw[←hj];congr 1;omega]at hi;simp only[Option.map_some,Option.some.injEq]at hi;subst hi;exact⟨n,rfl,by simp⟩
    ·next l=>
     refine c y (Array.mem_toList_iff.2 (Array.mem_of_getElem? hi)) fun hy=> ?_;have s:i<es.size:=(Array.getElem?_eq_some_iff.1 hi).1;have e1:(es.toList.map (·.key))[j]? =(es.toList.map (·.key))[i]? :=by
      rw[List.getElem?_map,List.getElem?_map,Array.getElem?_toList,Array.getElem?_toList,hj,hi];simp only[Option.map_some,Option.some.injEq];rw[h3,hy]
     exact l (Zfz hs.2.2 (by simpa using o) e1)
   ·intro k b;have g:=MapKept.modify_keys (es:=es) j (fun x=>{x with key:=.int .i64 (n:Nat),val:=.int .i64 ((cl.count n:Nat)+1)}) f;have:∃x∈es.toList,x.key=.int .i64 (k:Nat):=by
     rcases List.mem_append.1 b with h|h
     ·exact hk k h
     ·rw[List.mem_singleton]at h;subst h;exact⟨e,he,h3⟩
    obtain⟨y,hy,q⟩:=this;have hm:(.int .i64 (k:Nat):Value)∈(es.modify j (fun x=>{x with key:=.int .i64 (n:Nat),val:=.int .i64 ((cl.count n:Nat)+1)})).toList.map (·.key):=by
     rw[g];exact List.mem_map.2 ⟨y,hy,q⟩
    obtain⟨z,hz,r⟩:=List.mem_map.1 hm;exact⟨z,hz,r⟩
end
theorem Zae{w:World}{b:Nat}{v0 v1 v2 v3 v4 v5 v6 v7:Value}{T:TypeId}(h:w.heap[b]? =some (.cells #[v0,v1,v2,v3,v4,v5,v6,v7] T (0,0))):∀w',Fr nob w w'→
 (w'.cell? ⟨b,0,none⟩=some v0∧w'.cell? ⟨b,1,none⟩=some v1∧w'.cell? ⟨b,2,none⟩=some v2∧w'.cell? ⟨b,3,none⟩=some v3∧w'.cell? ⟨b,4,none⟩=some v4∧w'.cell? ⟨b,5,none⟩=some v5∧w'.cell? ⟨b,6,none⟩=some v6∧w'.cell? ⟨b,7,none⟩=some v7)∧
 (w'.frozen? ⟨b,0,none⟩=false∧w'.frozen? ⟨b,1,none⟩=false∧w'.frozen? ⟨b,2,none⟩=false∧w'.frozen? ⟨b,3,none⟩=false∧w'.frozen? ⟨b,4,none⟩=false∧w'.frozen? ⟨b,5,none⟩=false∧w'.frozen? ⟨b,6,none⟩=false∧w'.frozen? ⟨b,7,none⟩=false):=fun _ f=>by
 have h':=f.heap h (fun x=>x);exact⟨⟨cell_at h' rfl,cell_at h' rfl,cell_at h' rfl,cell_at h' rfl,cell_at h' rfl,cell_at h' rfl,cell_at h' rfl,cell_at h' rfl⟩,ZF h' _,ZF h' _,ZF h' _,ZF h' _,ZF h' _,ZF h' _,ZF h' _,ZF h' _⟩
theorem results_tmp4{fn:Func}{t u v x:Tmp}(h:fn.results= #[.tmp t,.tmp u,.tmp v,.tmp x])(tmps:Array Value)(P:Program)(w:World):
 (results fn tmps).run P w=.ok (.tuple #[tmps.getD t undef,tmps.getD u undef,tmps.getD v undef,tmps.getD x undef]) w:=by
 simp[results,h]
theorem ZcK(T:TypeId)(b o:Nat)(cs:Array Value)(bs:List UInt8)(g:Option Nat)(c:Int)(w:World)(hc:0≤c∧c≤255)(h:Zc3 5 T b o cs bs g w)(hl:Zfx T cs.size o)(hlen:bs.length≤140737488355327):
 Calls prog 154 #[.pointer (some ⟨b,o,none⟩),.int .u8 c] w fun e w'=>e=.returned .nilIface∧
  ∃v',Zc3 5 T b o (ZaK cs b o v') (bs++[c.toNat.toUInt8]) v'.ownBlock w'∧Fr (fun k=>k=b∨some k=g) w w'∧(∀k,v'.ownBlock=some k→some k=g∨w.heap.size≤k):=by
 obtain⟨i0,hi,K,L,M⟩:=info_parts ZeW;have y:ZeT c.toNat.toUInt8=.int .u8 c:=by
  unfold ZeT;congr 1;simp;omega
 have HC:=hid y;clear y;have HL:=hid hl;clear hl;go_enter func154,ntmps154;go_wp2_with(go_at_call 123;refine(copyCheck_any T b o cs bs g _ h HL.out).mono ?_);rintro e w1 ⟨rfl,h1,z⟩;obtain⟨hb,ho,hp,v,hv,D,hg,B,C⟩:=h1;have c1:w1.cell? ⟨b,o+1,none⟩=some v:=cell_at hb hv;have HB:=hid hb;have HO:=hid ho;have HV:=hid hv;have HG:=hid hg;have HN:=hid B;have HP:=hid hp;have HI:=hid C;clear hb ho hv hg B hp C;go_wp2_with(at_builtin;refine wpList_append_g rfl _ _ 166 rfl 5 i0 (.int .u8 0) 1 1 underlying166 hi K L M rfl (by decide) _ _ _ rfl (D.alloc _) ⟨w1.heap.size,0,none⟩ 1 1 [.int .u8 c] rfl rfl ?c1 ?c2 ?c3 ?c4 ?_)
 case c1=>
  intro j u hj
  match j,hj with
  |0,hj=>simp at hj;subst hj;simp[Addr.add]
 case c2=>intro u hu;simp at hu;subst hu;rfl
 case c3=>unfold maxLen;omega
 case c4=>omega
 intro v' w2 f a;have hb:=HB.out;have N:b<w1.heap.size:=lt_heap hb;have d:=HG.out;have r:=HN.out;have l:w2.heap[b]? =some (.cells (cs.setIfInBounds o (.pointer (some ⟨b,o,none⟩))) T (0,0)):=
  a.fr.heap (heap_alloc_lt _ hb) (fun e=>r (by rw[←d,e]))
 have d1:w2.cell? ⟨b,o+1,none⟩=some v:=cell_at l HV.out;have f1:w2.frozen? ⟨b,o+1,none⟩=false:=ZF l _;have I:w1.heap.size+1≤w2.heap.size:=by simpa using a.fr.size
 have m:v'.ownBlock≠some b:=by
  intro e;rcases a.old b e with h|h
  ·exact r (by rw[←d,h])
  ·simp at h;omega
 have n:∀k,v'.ownBlock=some k→some k=g∨w.heap.size≤k:=by
  intro k hk;have:=z.size;rcases a.old k hk with h|h
  ·exact .inl (by rw[←d,h])
  ·simp at h;exact .inr (by omega)
 have i:w2.ownsRow 0 5 1 v' (bs++[c.toNat.toUInt8]).length (ZP (bs++[c.toNat.toUInt8])):=by
  rw[Zaj,List.length_append];have H:ZP [c.toNat.toUInt8]=[.int .u8 c]:=by rw[←HC.out];rfl
  rw[H];exact f
 have q:bs++[c.toNat.toUInt8]=[]→v'=.slice none 0 0:=fun h=>by simp at h
 have A:Fr (fun k=>k=b∨some k=g) w w2:=by
  refine(z.mono (fun _ _ h=>Or.inl h)).trans (((Fr.refl (fun k=>v.ownBlock=some k) w1).alloc _).trans' a.fr) (fun k _ h=>Or.inr ?_);rw[←d,h]
 obtain⟨ga,gn,gc,J⟩:=Zcs i;have G:=hid q;clear q;have E:=hid l;have s:=hid m;have t:=hid n;have x:=hid i;have F:=hid A;clear hb l d r m n i f A;subst J;go_wp2;go_ret;have ho:=HO.out;refine⟨rfl,_,⟨Za E.out _ _,?_,.inr ?_,_,ZdU ho,?_,rfl,s.out,G.out⟩,?_,t.out⟩
 ·rw[ZY];simpa using ho
 ·unfold ZaK;rw[Zau (by omega)];exact ZdU (by simp at ho;omega)
 ·exact ownsRow_fr x.out ((Fr.refl (fun k=>k=b) w2).setCell (p:=⟨b,o+1,none⟩) (fun _=>rfl) _) (fun k hk e=>s.out (by rw[hk,e]))
 ·exact F.out.setCell (p:=⟨b,o+1,none⟩) (fun _=>Or.inl rfl) _
theorem ZdW(T:TypeId)(b o:Nat)(cs:Array Value)(bs:List UInt8)(g:Option Nat)(l:List UInt8)(w:World)(h:Zc3 5 T b o cs bs g w)(hl:Zfx T cs.size o)(hlen:bs.length+l.length≤140737488355328):
 Calls prog 156 #[.pointer (some ⟨b,o,none⟩),.string ⟨l.toArray⟩] w fun e w'=>e=.returned (.tuple #[.int .i64 l.length,.nilIface])∧
  ∃v',Zc3 5 T b o (ZaK cs b o v') (bs++l) v'.ownBlock w'∧Fr (fun k=>k=b∨some k=g) w w'∧(∀k,v'.ownBlock=some k→some k=g∨w.heap.size≤k):=by
 obtain⟨i0,hi,F,G,H⟩:=info_parts ZeW;have HL:=hid hl;clear hl;go_enter func156,ntmps156;go_wp2_with(go_at_call 123;refine(copyCheck_any T b o cs bs g _ h HL.out).mono ?_);rintro e w1 ⟨rfl,h1,u⟩;obtain⟨hb,ho,hp,v,hv,A,hg,y,z⟩:=h1;have c1:w1.cell? ⟨b,o+1,none⟩=some v:=cell_at hb hv;have HB:=hid hb;have HO:=hid ho;have HV:=hid hv;have HG:=hid hg;have HN:=hid y;have HP:=hid hp;have HI:=hid z;clear hb ho hv hg y hp z;go_wp2_with(at_builtin;refine wpList_append_gs rfl _ _ 166 9 rfl 5 i0 underlying166 underlying9 hi F G H _ _ _ rfl A ⟨l.toArray⟩ rfl ?c3 ?c4 ?_)
 case c3=>unfold maxLen;show bs.length+l.toArray.size≤_;simp;omega
 case c4=>show bs.length+l.toArray.size≤_;simp;omega
 intro v' w2 d a;have hb:=HB.out;have c:=HG.out;have q:=HN.out;have i:w2.heap[b]? =some (.cells (cs.setIfInBounds o (.pointer (some ⟨b,o,none⟩))) T (0,0)):=
  a.fr.heap hb (fun e=>q (by rw[←c,e]))
 have d1:w2.cell? ⟨b,o+1,none⟩=some v:=cell_at i HV.out;have f1:w2.frozen? ⟨b,o+1,none⟩=false:=ZF i _;have I:=lt_heap hb;have j:v'.ownBlock≠some b:=by
  intro e;rcases a.old b e with h|h
  ·exact q (by rw[←c,h])
  ·omega
 have m:∀k,v'.ownBlock=some k→some k=g∨w.heap.size≤k:=by
  intro k hk;have:=u.size;rcases a.old k hk with h|h
  ·exact .inl (by rw[←c,h])
  ·exact .inr (by omega)
 have f:w2.ownsRow 0 5 1 v' (bs++l).length (ZP (bs++l)):=by
  rw[Zaj,List.length_append];exact d
 have n:bs++l=[]→v'=.slice none 0 0:=fun h=>by
  rw[List.append_eq_nil_iff]at h;exact a.nil.2 ⟨HI.out h.1,by show l.toArray.size=0;simp[h.2]⟩
 have x:Fr (fun k=>k=b∨some k=g) w w2:=by
  refine(u.mono (fun _ _ h=>Or.inl h)).trans a.fr (fun k _ h=>Or.inr ?_);rw[←c,h]
 obtain⟨ga,gn,gc,E⟩:=Zcs f;have D:=hid n;clear n;have B:=hid i;have r:=hid j;have s:=hid m;have t:=hid f;have C:=hid x;clear hb i c q j m f d x;subst E;go_wp2;go_ret2;have ho:=HO.out;refine⟨by simp,_,⟨Za B.out _ _,?_,.inr ?_,_,ZdU ho,?_,rfl,r.out,D.out⟩,?_,s.out⟩
 ·rw[ZY];simpa using ho
 ·unfold ZaK;rw[Zau (by omega)];exact ZdU (by simp at ho;omega)
 ·exact ownsRow_fr t.out ((Fr.refl (fun k=>k=b) w2).setCell (p:=⟨b,o+1,none⟩) (fun _=>rfl) _) (fun k hk e=>r.out (by rw[hk,e]))
 ·exact C.out.setCell (p:=⟨b,o+1,none⟩) (fun _=>Or.inl rfl) _
abbrev K12(w:World)(b:Nat)(v0 v1 v2 v3 v4 v5 v6 v7 v8 v9 v10 v11:Value):Prop:=w.cell? ⟨b,0,none⟩=some v0∧w.cell? ⟨b,1,none⟩=some v1∧w.cell? ⟨b,2,none⟩=some v2∧w.cell? ⟨b,3,none⟩=some v3∧w.cell? ⟨b,4,none⟩=some v4∧w.cell? ⟨b,5,none⟩=some v5∧w.cell? ⟨b,6,none⟩=some v6∧w.cell? ⟨b,7,none⟩=some v7∧w.cell? ⟨b,8,none⟩=some v8∧w.cell? ⟨b,9,none⟩=some v9∧w.cell? ⟨b,10,none⟩=some v10∧w.cell? ⟨b,11,none⟩=some v11
theorem K12.of{w:World}{b:Nat}{v0 v1 v2 v3 v4 v5 v6 v7 v8 v9 v10 v11:Value}{T:TypeId}{fr:Nat×Nat}(h:w.heap[b]? =some (.cells #[v0,v1,v2,v3,v4,v5,v6,v7,v8,v9,v10,v11] T fr)):K12 w b v0 v1 v2 v3 v4 v5 v6 v7 v8 v9 v10 v11:=⟨cell_at h rfl,cell_at h rfl,cell_at h rfl,cell_at h rfl,cell_at h rfl,cell_at h rfl,cell_at h rfl,cell_at h rfl,cell_at h rfl,cell_at h rfl,cell_at h rfl,cell_at h rfl⟩
theorem K12.on{w w':World}{b:Nat}{v0 v1 v2 v3 v4 v5 v6 v7 v8 v9 v10 v11:Value}(h:K12 w b v0 v1 v2 v3 v4 v5 v6 v7 v8 v9 v10 v11)(f:Fr nob w w'):K12 w' b v0 v1 v2 v3 v4 v5 v6 v7 v8 v9 v10 v11:=by
 obtain⟨h0,h1,h2,h3,h4,h5,h6,h7,h8,h9,a,c⟩:=h;exact⟨f.cell h0 (fun x=>x),f.cell h1 (fun x=>x),f.cell h2 (fun x=>x),f.cell h3 (fun x=>x),f.cell h4 (fun x=>x),f.cell h5 (fun x=>x),f.cell h6 (fun x=>x),f.cell h7 (fun x=>x),f.cell h8 (fun x=>x),f.cell h9 (fun x=>x),f.cell a (fun x=>x),f.cell c (fun x=>x)⟩
abbrev K25(w:World)(b:Nat)(v0 v1 v2 v3 v4 v5 v6 v7 v8 v9 v10 v11 v12 v13 v14 v15 v16 v17 v18 v19 v20 v21 v22 v23 v24:Value):Prop:=w.cell? ⟨b,0,none⟩=some v0∧w.cell? ⟨b,1,none⟩=some v1∧w.cell? ⟨b,2,none⟩=some v2∧w.cell? ⟨b,3,none⟩=some v3∧w.cell? ⟨b,4,none⟩=some v4∧w.cell? ⟨b,5,none⟩=some v5∧w.cell? ⟨b,6,none⟩=some v6∧w.cell? ⟨b,7,none⟩=some v7∧w.cell? ⟨b,8,none⟩=some v8∧w.cell? ⟨b,9,none⟩=some v9∧w.cell? ⟨b,10,none⟩=some v10∧w.cell? ⟨b,11,none⟩=some v11∧w.cell? ⟨b,12,none⟩=some v12∧w.cell? ⟨b,13,none⟩=some v13∧w.cell? ⟨b,14,none⟩=some v14∧w.cell? ⟨b,15,none⟩=some v15∧w.cell? ⟨b,16,none⟩=some v16∧w.cell? ⟨b,17,none⟩=some v17∧w.cell? ⟨b,18,none⟩=some v18∧w.cell? ⟨b,19,none⟩=some v19∧w.cell? ⟨b,20,none⟩=some v20∧w.cell? ⟨b,21,none⟩=some v21∧w.cell? ⟨b,22,none⟩=some v22∧w.cell? ⟨b,23,none⟩=some v23∧w.cell? ⟨b,24,none⟩=some v24
theorem K25.of{w:World}{b:Nat}{v0 v1 v2 v3 v4 v5 v6 v7 v8 v9 v10 v11 v12 v13 v14 v15 v16 v17 v18 v19 v20 v21 v22 v23 v24:Value}{T:TypeId}{fr:Nat×Nat}(h:w.heap[b]? =some (.cells #[v0,v1,v2,v3,v4,v5,v6,v7,v8,v9,v10,v11,v12,v13,v14,v15,v16,v17,v18,v19,v20,v21,v22,v23,v24] T fr)):K25 w b v0 v1 v2 v3 v4 v5 v6 v7 v8 v9 v10 v11 v12 v13 v14 v15 v16 v17 v18 v19 v20 v21 v22 v23 v24:=⟨cell_at h rfl,cell_at h rfl,cell_at h rfl,cell_at h rfl,cell_at h rfl,cell_at h rfl,cell_at h rfl,cell_at h rfl,cell_at h rfl,cell_at h rfl,cell_at h rfl,cell_at h rfl,cell_at h rfl,cell_at h rfl,cell_at h rfl,cell_at h rfl,cell_at h rfl,cell_at h rfl,cell_at h rfl,cell_at h rfl,cell_at h rfl,cell_at h rfl,cell_at h rfl,cell_at h rfl,cell_at h rfl⟩
theorem K25.on{w w':World}{b:Nat}{v0 v1 v2 v3 v4 v5 v6 v7 v8 v9 v10 v11 v12 v13 v14 v15 v16 v17 v18 v19 v20 v21 v22 v23 v24:Value}(h:K25 w b v0 v1 v2 v3 v4 v5 v6 v7 v8 v9 v10 v11 v12 v13 v14 v15 v16 v17 v18 v19 v20 v21 v22 v23 v24)(f:Fr nob w w'):K25 w' b v0 v1 v2 v3 v4 v5 v6 v7 v8 v9 v10 v11 v12 v13 v14 v15 v16 v17 v18 v19 v20 v21 v22 v23 v24:=by
 obtain⟨h0,h1,h2,h3,h4,h5,h6,h7,h8,h9,a,c,d,e,g,i,j,k,l,m,n,o,p,q,r⟩:=h;exact⟨f.cell h0 (fun x=>x),f.cell h1 (fun x=>x),f.cell h2 (fun x=>x),f.cell h3 (fun x=>x),f.cell h4 (fun x=>x),f.cell h5 (fun x=>x),f.cell h6 (fun x=>x),f.cell h7 (fun x=>x),f.cell h8 (fun x=>x),f.cell h9 (fun x=>x),f.cell a (fun x=>x),f.cell c (fun x=>x),f.cell d (fun x=>x),f.cell e (fun x=>x),f.cell g (fun x=>x),f.cell i (fun x=>x),f.cell j (fun x=>x),f.cell k (fun x=>x),f.cell l (fun x=>x),f.cell m (fun x=>x),f.cell n (fun x=>x),f.cell o (fun x=>x),f.cell p (fun x=>x),f.cell q (fun x=>x),f.cell r (fun x=>x)⟩
theorem K25.set{w:World}{b c j:Nat}{v0 v1 v2 v3 v4 v5 v6 v7 v8 v9 v10 v11 v12 v13 v14 v15 v16 v17 v18 v19 v20 v21 v22 v23 v24:Value}(h:K25 w b v0 v1 v2 v3 v4 v5 v6 v7 v8 v9 v10 v11 v12 v13 v14 v15 v16 v17 v18 v19 v20 v21 v22 v23 v24)(hn:c≠b)(u:Value):K25 (w.setCell ⟨c,j,none⟩ u) b v0 v1 v2 v3 v4 v5 v6 v7 v8 v9 v10 v11 v12 v13 v14 v15 v16 v17 v18 v19 v20 v21 v22 v23 v24:=by
 obtain⟨h0,h1,h2,h3,h4,h5,h6,h7,h8,h9,a,d,f,k,l,m,n,o,p,q,r,s,t,x,y⟩:=h;have g:∀{i:Nat} {v:Value},w.cell? ⟨b,i,none⟩=some v→(w.setCell ⟨c,j,none⟩ u).cell? ⟨b,i,none⟩=some v:=fun{i v} h=>(World.cell?_of_block (Below.heap_setCell _ _ _ _ (fun e=>hn e.symm))).trans h;exact⟨g h0,g h1,g h2,g h3,g h4,g h5,g h6,g h7,g h8,g h9,g a,g d,g f,g k,g l,g m,g n,g o,g p,g q,g r,g s,g t,g x,g y⟩
end
end Go.Proofs.YtgllcniibbaoaaaGreatDoor
