/- Lemmas of this claim. -/
import Derived.Deep.RegionLaw
import Derived.Laws.OwnMore
import Derived.Test.YtgllcniibbaoaaaGreatDoorM01
set_option linter.all false
set_option maxRecDepth 100000
set_option maxHeartbeats 4000000
namespace Go.Proofs.YtgllcniibbaoaaaGreatDoor
open Go.RowKit
section
variable {P:Program}
theorem ZC{x a:TypeId}{fs:Array Field}(h:P.underlying a=some (.struct fs))(v:Value)(w:World):
 (Instr.typeAssert (.iface a v) x a true).run P w=.ok (.tuple #[v,.bool true]) w:=by
 simp[Instr.typeAssert,run_underlying h]
theorem Zz{x a t:TypeId}{fs:Array Field}(h:P.underlying a=some (.struct fs)){z:Value}(hz:∀w,(zeroValue a).run P w=.ok z w)(ht:t≠a)(v:Value)(w:World):
 (Instr.typeAssert (.iface t v) x a true).run P w=.ok (.tuple #[z,.bool false]) w:=by
 simp[Instr.typeAssert,run_underlying h,ht,hz]
theorem ZD{x a:TypeId}{fs:Array Field}(h:P.underlying a=some (.struct fs)){z:Value}(hz:∀w,(zeroValue a).run P w=.ok z w)(w:World):
 (Instr.typeAssert .nilIface x a true).run P w=.ok (.tuple #[z,.bool false]) w:=by
 simp[Instr.typeAssert,run_underlying h,hz]
end
theorem ZfO(v:Value)(w:World):(Instr.typeAssert (.iface 180 v) 24 180 true).run Tryz.prog w=.ok (.tuple #[v,.bool true]) w:=ZC Tryz.underlying180 v w
theorem Zfb(t:TypeId)(v:Value)(w:World)(h:t≠180):(Instr.typeAssert (.iface t v) 24 180 true).run Tryz.prog w=.ok (.tuple #[.agg #[],.bool false]) w:=Zz Tryz.underlying180 (fun _=>by kernel_rfl) h v w
attribute [go_sem] ZfO Zfb
theorem Zi6(v:Value)(w:World):(Instr.typeAssert (.iface 134 v) 24 134 true).run Tryz.prog w=.ok (.tuple #[v,.bool true]) w:=ZC Tryz.underlying134 v w
theorem Zg9(t:TypeId)(v:Value)(w:World)(h:t≠134):(Instr.typeAssert (.iface t v) 24 134 true).run Tryz.prog w=.ok (.tuple #[.agg #[.int .u64 0,.int .u64 0,.int .u64 0,.int .u64 0],.bool false]) w:=Zz Tryz.underlying134 (fun _=>by kernel_rfl) h v w
theorem Zi7(w:World):(Instr.typeAssert .nilIface 24 134 true).run Tryz.prog w=.ok (.tuple #[.agg #[.int .u64 0,.int .u64 0,.int .u64 0,.int .u64 0],.bool false]) w:=ZD Tryz.underlying134 (fun _=>by kernel_rfl) w
attribute [go_sem] Zi6 Zg9 Zi7
theorem Zi8(v:Value)(w:World):(Instr.typeAssert (.iface 75 v) 24 75 true).run Tryz.prog w=.ok (.tuple #[v,.bool true]) w:=ZC Tryz.underlying75 v w
theorem Zha(t:TypeId)(v:Value)(w:World)(h:t≠75):(Instr.typeAssert (.iface t v) 24 75 true).run Tryz.prog w=.ok (.tuple #[.agg #[.slice none 0 0],.bool false]) w:=Zz Tryz.underlying75 (fun _=>by kernel_rfl) h v w
theorem Zi9(w:World):(Instr.typeAssert .nilIface 24 75 true).run Tryz.prog w=.ok (.tuple #[.agg #[.slice none 0 0],.bool false]) w:=ZD Tryz.underlying75 (fun _=>by kernel_rfl) w
attribute [go_sem] Zi8 Zha Zi9
theorem Zja(v:Value)(w:World):(Instr.typeAssert (.iface 86 v) 24 86 true).run Tryz.prog w=.ok (.tuple #[v,.bool true]) w:=ZC Tryz.underlying86 v w
theorem Zhb(t:TypeId)(v:Value)(w:World)(h:t≠86):(Instr.typeAssert (.iface t v) 24 86 true).run Tryz.prog w=.ok (.tuple #[.agg #[.slice none 0 0],.bool false]) w:=Zz Tryz.underlying86 (fun _=>by kernel_rfl) h v w
theorem Zjb(w:World):(Instr.typeAssert .nilIface 24 86 true).run Tryz.prog w=.ok (.tuple #[.agg #[.slice none 0 0],.bool false]) w:=ZD Tryz.underlying86 (fun _=>by kernel_rfl) w
attribute [go_sem] Zja Zhb Zjb
theorem Zjc(v:Value)(w:World):(Instr.typeAssert (.iface 137 v) 24 137 true).run Tryz.prog w=.ok (.tuple #[v,.bool true]) w:=ZC Tryz.underlying137 v w
theorem Zhc(t:TypeId)(v:Value)(w:World)(h:t≠137):(Instr.typeAssert (.iface t v) 24 137 true).run Tryz.prog w=.ok (.tuple #[.agg #[.nilIface,.int .i64 0,.int .i64 0],.bool false]) w:=Zz Tryz.underlying137 (fun _=>by kernel_rfl) h v w
theorem Zjd(w:World):(Instr.typeAssert .nilIface 24 137 true).run Tryz.prog w=.ok (.tuple #[.agg #[.nilIface,.int .i64 0,.int .i64 0],.bool false]) w:=ZD Tryz.underlying137 (fun _=>by kernel_rfl) w
attribute [go_sem] Zjc Zhc Zjd
theorem ZfQ(v:Value)(w:World):(Instr.typeAssert (.iface 127 v) 24 127 true).run Tryz.prog w=.ok (.tuple #[v,.bool true]) w:=ZC Tryz.underlying127 v w
theorem Zfc(t:TypeId)(v:Value)(w:World)(h:t≠127):(Instr.typeAssert (.iface t v) 24 127 true).run Tryz.prog w=.ok (.tuple #[.agg #[.int .i64 0,.nilIface],.bool false]) w:=Zz Tryz.underlying127 (fun _=>by kernel_rfl) h v w
theorem ZfR(w:World):(Instr.typeAssert .nilIface 24 127 true).run Tryz.prog w=.ok (.tuple #[.agg #[.int .i64 0,.nilIface],.bool false]) w:=ZD Tryz.underlying127 (fun _=>by kernel_rfl) w
attribute [go_sem] ZfQ Zfc ZfR
theorem Zhd(v:Value)(w:World):(Instr.typeAssert (.iface 116 v) 24 116 true).run Tryz.prog w=.ok (.tuple #[v,.bool true]) w:=ZC Tryz.underlying116 v w
theorem ZfS(t:TypeId)(v:Value)(w:World)(h:t≠116):(Instr.typeAssert (.iface t v) 24 116 true).run Tryz.prog w=.ok (.tuple #[.agg #[.int .i64 0],.bool false]) w:=Zz Tryz.underlying116 (fun _=>by kernel_rfl) h v w
theorem Zhe(w:World):(Instr.typeAssert .nilIface 24 116 true).run Tryz.prog w=.ok (.tuple #[.agg #[.int .i64 0],.bool false]) w:=ZD Tryz.underlying116 (fun _=>by kernel_rfl) w
attribute [go_sem] Zhd ZfS Zhe
theorem ZfT(v:Value)(w:World):(Instr.typeAssert (.iface 139 v) 24 139 true).run Tryz.prog w=.ok (.tuple #[v,.bool true]) w:=ZC Tryz.underlying139 v w
theorem Zfd(t:TypeId)(v:Value)(w:World)(h:t≠139):(Instr.typeAssert (.iface t v) 24 139 true).run Tryz.prog w=.ok (.tuple #[.agg #[],.bool false]) w:=Zz Tryz.underlying139 (fun _=>by kernel_rfl) h v w
theorem ZfU(w:World):(Instr.typeAssert .nilIface 24 139 true).run Tryz.prog w=.ok (.tuple #[.agg #[],.bool false]) w:=ZD Tryz.underlying139 (fun _=>by kernel_rfl) w
attribute [go_sem] ZfT Zfd ZfU
theorem Zje(v:Value)(w:World):(Instr.typeAssert (.iface 140 v) 24 140 true).run Tryz.prog w=.ok (.tuple #[v,.bool true]) w:=ZC Tryz.underlying140 v w
theorem Zhf(t:TypeId)(v:Value)(w:World)(h:t≠140):(Instr.typeAssert (.iface t v) 24 140 true).run Tryz.prog w=.ok (.tuple #[.agg #[],.bool false]) w:=Zz Tryz.underlying140 (fun _=>by kernel_rfl) h v w
theorem Zjf(w:World):(Instr.typeAssert .nilIface 24 140 true).run Tryz.prog w=.ok (.tuple #[.agg #[],.bool false]) w:=ZD Tryz.underlying140 (fun _=>by kernel_rfl) w
attribute [go_sem] Zje Zhf Zjf
open Go.Lib (hid)
theorem kids_any(S:Nat→Prop)(n:Nd)(v:Value)(w:World)(h:RN S w n v)(hS:∀k,S k→k<w.heap.size):
 Calls Tryz.prog 51 #[v] w fun e w'=>∃u,e=.returned u∧SN S w' n.kids u∧Fr nob w w':=by
 cases n with
 |nil=>
  rw[RN]at h;subst h;go_enter Tryz.func51,Tryz.ntmps51;go_wp2;go_ret;exact⟨_,rfl,SN.nil,Fr.refl _ _⟩
 |empty=>
  rw[RN]at h;subst h;go_enter Tryz.func51,Tryz.ntmps51;go_wp2;go_ret;exact⟨_,rfl,SN.nil,Fr.refl _ _⟩
 |one s=>
  rw[RN]at h;subst h;go_enter Tryz.func51,Tryz.ntmps51;go_wp2;go_ret;exact⟨_,rfl,SN.nil,Fr.refl _ _⟩
 |back n=>
  rw[RN]at h;subst h;go_enter Tryz.func51,Tryz.ntmps51;go_wp2;go_ret;exact⟨_,rfl,SN.nil,Fr.refl _ _⟩
 |start=>
  rw[RN]at h;subst h;go_enter Tryz.func51,Tryz.ntmps51;go_wp2;go_ret;exact⟨_,rfl,SN.nil,Fr.refl _ _⟩
 |fin=>
  rw[RN]at h;subst h;go_enter Tryz.func51,Tryz.ntmps51;go_wp2;go_ret;exact⟨_,rfl,SN.nil,Fr.refl _ _⟩
 |cat l=>
  rw[ZjK]at h;obtain⟨u,rfl,h⟩:=h;obtain⟨a,c,rfl⟩:=h.shape;have HH:=hid h;clear h;go_enter Tryz.func51,Tryz.ntmps51;go_wp2;go_ret;exact⟨_,rfl,HH.out.on ((Fr.refl _ _).alloc _),(Fr.refl _ _).alloc _⟩
 |alt l=>
  rw[ZjL]at h;obtain⟨u,rfl,h⟩:=h;obtain⟨a,c,rfl⟩:=h.shape;have HH:=hid h;clear h;go_enter Tryz.func51,Tryz.ntmps51;go_wp2;go_ret;exact⟨_,rfl,HH.out.on ((Fr.refl _ _).alloc _),(Fr.refl _ _).alloc _⟩
 |rep x mn mx=>
  rw[RN]at h;obtain⟨u,rfl,h⟩:=h;have b:=h.shape;have HH:=hid h;clear h;rcases b with rfl|⟨i,x,rfl⟩
  all_goals
   go_enter Tryz.func51,Tryz.ntmps51;go_wp2;go_ret;exact⟨_,rfl,SN.one' (HH.out.on ((Fr.refl _ _).alloc _)) (fun k hk=>by have:=hS k hk;simp;omega) _ (by simp),((Fr.refl _ _).alloc _).alloc _⟩
 |group n x=>
  rw[RN]at h;obtain⟨u,rfl,h⟩:=h;have b:=h.shape;have HH:=hid h;clear h;rcases b with rfl|⟨i,x,rfl⟩
  all_goals
   go_enter Tryz.func51,Tryz.ntmps51;go_wp2;go_ret;exact⟨_,rfl,SN.one' (HH.out.on ((Fr.refl _ _).alloc _)) (fun k hk=>by have:=hS k hk;simp;omega) _ (by simp),((Fr.refl _ _).alloc _).alloc _⟩
theorem ZzP(m:Nat):∀(n:Nd) (v:Value) (w:World),n.size≤m→n.size≤3000000→RN nob w n v→
 Calls Tryz.prog 31 #[v] w fun e w'=>e=.returned (.int .i64 n.size)∧Fr nob w w':=by
 induction m with
 |zero=>intro n v w h;have:=n.size_pos;omega
 |succ m ih=>
  intro n v w hm hn h;have IH:=hid ih;clear ih;have d:=hid n.size_kids;have j:=Nd.length_le n.kids;have q:n.kids.length≤3000000:=by have:=d.out;omega
  go_enter Tryz.func31,Tryz.ntmps31;go_wp2_with fail;refine(kids_any nob n v w h (fun _ x=>x.elim)).mono ?_;rintro e w1 ⟨u,rfl,h1,f1⟩;obtain⟨a,c,rfl⟩:=h1.shape;have H1:=hid h1;have F1:=hid f1;clear h1 f1 j h;go_wp2_with fail
  go_loopw [3,9] (fun s i wr=>∃k:Nat,i=.int .i64 k∧k≤n.kids.length∧s=.int .i64 ((1+Nd.sizes (n.kids.take k):Nat):Int)∧Fr nob w1 wr) (fun _ i _=>n.kids.length-(intOf i).toNat)
  case atStart=>exact⟨0,rfl,Nat.zero_le _,rfl,Fr.refl _ _⟩
  case round=>
   obtain⟨k,rfl,hk,rfl,fr⟩:=hrel;have o:=Nd.sizes_take_le n.kids k;have r:Nd.sizes (n.kids.take k)≤3000000:=by have:=d.out;omega
   have HR:=hid (H1.out.on fr);have FR:=hid fr;clear fr o;by_cases b:k<n.kids.length
   ·obtain⟨g,off,p,x,he,hx,hc⟩:=HR.out.get b;injection he with e1 e2 e3;subst e1;subst e3;have f:=hid (Nd.sizes_take b);have t:n.kids[k].size<n.size:=Nd.kid_lt (List.getElem_mem b);have HX:=hid hx;clear hx e2;go_wp2_with fail;refine(IH.out n.kids[k] x _ (by omega) (by omega) HX.out).mono ?_;rintro e w2 ⟨rfl,f2⟩;have F2:=hid f2;clear f2;go_wp2;go_roundw
    case rel=>exact⟨k+1,by go_num,by omega,by rw[f.out];go_num,FR.out.trans' F2.out⟩
    case measure=>simp[intOf];omega
   ·obtain rfl:k=n.kids.length:=by omega
    have hT:=hid (List.take_of_length_le (l:=n.kids) (Nat.le_refl _));go_wp2;go_ret;exact⟨ZdT (by have:=d.out;rw[hT.out];omega),F1.out.trans' FR.out⟩
def Nd.told:Nd→Nd
 | .nil=>.empty
 |n=>n
def Nd.plain:Nd→Bool
 | .nil| .empty| .cat _| .alt _=>false
 |_=>true
def Nd.isAlt:Nd→Bool
 | .alt _=>true
 |_=>false
def Nd.atom:Nd→Bool
 | .nil| .empty| .cat _| .alt _| .start| .fin=>false
 |_=>true
theorem told_any2(S:Nat→Prop)(n:Nd)(v:Value)(w:World)(h:RN S w n v):Calls Tryz.prog 88 #[v] w fun e w'=>∃u,e=.returned u∧RN S w n.told u∧(v=.nilIface∨u=v)∧w=w':=by
 rcases h.shape with rfl|⟨i,x,rfl⟩
 ·have hn:n=.nil:=by cases n<;>rw[RN]at h<;>first|rfl|(cases h;done)|(obtain⟨_,h,_⟩:=h;cases h)
  subst hn;have H:=hid h;clear h;go_enter Tryz.func88,Tryz.ntmps88;go_wp2;go_ret;exact⟨_,rfl,by rw[Nd.told,RN];rfl,by simp,rfl⟩
 ·have hn:n.told=n:=by cases n<;>first|rfl|(rw[RN]at h;cases h)
  have H:=hid h;clear h;have HN:=hid hn;clear hn;go_enter Tryz.func88,Tryz.ntmps88;go_wp2;go_ret;exact⟨_,rfl,by rw[HN.out];exact H.out,by simp,rfl⟩
theorem told_any(S:Nat→Prop)(n:Nd)(v:Value)(w:World)(h:RN S w n v):Calls Tryz.prog 88 #[v] w fun e w'=>∃u,e=.returned u∧RN S w n.told u∧w=w':=by
 refine(told_any2 S n v w h).mono ?_;rintro e w1 ⟨u,h1,h2,_,h3⟩;exact⟨u,h1,h2,h3⟩
def Znh(S:Nat→Prop)(w:World)(v:Value):Nd→Prop
    | .nil=>v=.nilIface
    | .empty=>v=.iface 180 (.agg #[])
    | .one s=>v=.iface 134 (.agg s.cells.toArray)
    | .cat l=>∃(a:Option Addr) (c:Nat),v=.iface 75 (.agg #[.slice a l.length c])∧SN S w l (.slice a l.length c)
    | .alt l=>∃(a:Option Addr) (c:Nat),v=.iface 86 (.agg #[.slice a l.length c])∧SN S w l (.slice a l.length c)
    | .rep x mn mx=>∃u,v=.iface 137 (.agg #[u,.int .i64 mn,.int .i64 mx])∧RN S w x u
    | .group n x=>∃u,v=.iface 127 (.agg #[.int .i64 n,u])∧RN S w x u
    | .back n=>v=.iface 116 (.agg #[.int .i64 n])
    | .start=>v=.iface 139 (.agg #[])
    | .fin=>v=.iface 140 (.agg #[])
theorem RN.kind{S:Nat→Prop}{w:World}{n:Nd}{v:Value}(h:RN S w n v):Znh S w v n:=by
 cases n with
 |cat l=>rw[ZjK]at h;obtain⟨u,rfl,h⟩:=h;obtain⟨a,c,rfl⟩:=h.shape;exact⟨a,c,rfl,h⟩
 |alt l=>rw[ZjL]at h;obtain⟨u,rfl,h⟩:=h;obtain⟨a,c,rfl⟩:=h.shape;exact⟨a,c,rfl,h⟩
 |_=>rw[RN]at h;exact h
def Nd.ty:Nd→Option TypeId
 | .nil=>none
 | .empty=>some 180
 | .one _=>some 134
 | .cat _=>some 75
 | .alt _=>some 86
 | .rep _ _ _=>some 137
 | .group _ _=>some 127
 | .back _=>some 116
 | .start=>some 139
 | .fin=>some 140
theorem RN.tyv{S:Nat→Prop}{w:World}{n:Nd}{v:Value}(h:RN S w n v):(n.ty=none∧v=.nilIface)∨∃i x,n.ty=some i∧v=.iface i x:=by
 have:=h.kind;cases n with
 |nil=>exact .inl ⟨rfl,this⟩
 |cat l=>obtain⟨a,c,h,_⟩:=this;exact .inr ⟨_,_,rfl,h⟩
 |alt l=>obtain⟨a,c,h,_⟩:=this;exact .inr ⟨_,_,rfl,h⟩
 |rep x mn mx=>obtain⟨a,h,_⟩:=this;exact .inr ⟨_,_,rfl,h⟩
 |group n x=>obtain⟨a,h,_⟩:=this;exact .inr ⟨_,_,rfl,h⟩
 |_=>exact .inr ⟨_,_,rfl,this⟩
theorem plain_any(S:Nat→Prop)(n:Nd)(v:Value)(w:World)(h:RN S w n v):Calls Tryz.prog 103 #[v] w fun e w'=>e=.returned (.bool n.plain)∧w=w':=by
 have H:=hid h;clear h;obtain⟨p,hp⟩:∃p,n.plain=p:=⟨_,rfl⟩;rw[hp];have HP:=hid hp;clear hp;go_enter Tryz.func103,Tryz.ntmps103;go_wp2_with fail;refine(told_any S n v w H.out).mono ?_;rintro e w1 ⟨u,rfl,hu,rfl⟩;rcases hu.tyv with⟨ht,rfl⟩|⟨i,x,ht,rfl⟩
 ·cases n<;>cases ht
 ·have hi:(i=180∧p=false)∨(i=75∧p=false)∨(i=86∧p=false)∨(i≠180∧i≠75∧i≠86∧p=true):=by
   have hp:=HP.out;cases n<;>simp only[Nd.told,Nd.ty,Option.some.injEq]at ht<;>subst ht<;>subst hp<;>simp[Nd.plain]
  clear hu ht;rcases hi with⟨rfl,rfl⟩|⟨rfl,rfl⟩|⟨rfl,rfl⟩|⟨h1,h2,h3,rfl⟩
  all_goals
   go_wp2;go_ret;exact⟨rfl,rfl⟩
theorem Zvq(S:Nat→Prop)(n:Nd)(v:Value)(w:World)(h:RN S w n v):Calls Tryz.prog 104 #[v] w fun e w'=>e=.returned (.bool n.isAlt)∧Fr nob w w':=by
 have hk:=h.kind;have H:=hid h;clear h;by_cases ha:∃l,n=.alt l
 ·obtain⟨l,rfl⟩:=ha;obtain⟨a,c,rfl,_⟩:=hk;go_enter Tryz.func104,Tryz.ntmps104;go_wp2;go_ret;exact⟨rfl,(Fr.refl _ _).alloc _⟩
 ·have hn:n.isAlt=false:=by cases n<;>first|rfl|exact(ha ⟨_,rfl⟩).elim
  rw[hn];clear hk;rcases H.out.tyv with⟨_,rfl⟩|⟨i,x,ht,rfl⟩
  ·go_enter Tryz.func104,Tryz.ntmps104;go_wp2;go_ret;exact⟨rfl,(Fr.refl _ _).alloc _⟩
  ·have hi:i≠86:=by
    cases n<;>simp only[Nd.ty,Option.some.injEq]at ht<;>first|(subst ht;decide)|(exact(ha ⟨_,rfl⟩).elim)|cases ht
   clear ha ht hn;go_enter Tryz.func104,Tryz.ntmps104;go_wp2;go_ret;exact⟨rfl,(Fr.refl _ _).alloc _⟩
theorem atom_any(S:Nat→Prop)(n:Nd)(v:Value)(w:World)(h:RN S w n v):Calls Tryz.prog 105 #[v] w fun e w'=>e=.returned (.bool n.atom)∧w=w':=by
 rcases h.tyv with⟨ht,rfl⟩|⟨i,x,ht,rfl⟩
 ·have hn:n=.nil:=by cases n<;>first|rfl|cases ht
  subst hn;have H:=hid h;clear h ht;go_enter Tryz.func105,Tryz.ntmps105;go_wp2_with fail;refine(plain_any S _ _ w H.out).mono ?_;rintro e w1 ⟨rfl,rfl⟩;go_wp2;go_ret;exact⟨rfl,rfl⟩
 ·have hi:(i=139∧n.atom=false)∨(i=140∧n.atom=false)∨(i≠139∧i≠140∧n.atom=n.plain):=by
   cases n<;>simp only[Nd.ty,Option.some.injEq]at ht<;>first|(subst ht;simp[Nd.atom,Nd.plain];done)|cases ht
  have H:=hid h;clear h ht;rcases hi with⟨rfl,hn⟩|⟨rfl,hn⟩|⟨h1,h2,hn⟩
  ·rw[hn];clear hn;go_enter Tryz.func105,Tryz.ntmps105;go_wp2_with fail;go_ret;exact⟨rfl,rfl⟩
  ·rw[hn];clear hn;go_enter Tryz.func105,Tryz.ntmps105;go_wp2_with fail;go_ret;exact⟨rfl,rfl⟩
  ·rw[hn];clear hn;go_enter Tryz.func105,Tryz.ntmps105;go_wp2_with fail;refine(plain_any S _ _ w H.out).mono ?_;rintro e w1 ⟨rfl,rfl⟩;go_wp2;go_ret;exact⟨rfl,rfl⟩
def ZtY(f:FuncId)(p:Nd→Bool)(B:Nat):Prop:=∀(n:Nd) (v:Value) (w:World),n.size≤B→RN nob w n v→Calls Tryz.prog f #[v] w fun e w'=>e=.returned (.bool (p n))∧Fr nob w w'
theorem pred_alt(B:Nat):ZtY 104 Nd.isAlt B:=fun n v w _ h=>Zvq nob n v w h
theorem ZtE(n:Nd)(v:Value)(w:World)(h:RN nob w n v):Calls Tryz.prog 102 #[v] w fun e w'=>e=.returned (.bool (!n.plain))∧Fr nob w w':=by
 have H:=hid h;clear h;go_enter Tryz.func102,Tryz.ntmps102;go_wp2_with fail;refine(plain_any nob n v w H.out).mono ?_;rintro e w1 ⟨rfl,rfl⟩;go_wp2;go_ret;exact⟨rfl,Fr.refl _ _⟩
theorem pred_notPlain(B:Nat):ZtY 102 (fun n=> !n.plain) B:=fun n v w _ h=>ZtE n v w h
theorem indexFunc_any(f:FuncId)(p:Nd→Bool)(B:Nat)(hp:ZtY f p B)(hdef:∀args w,(callFunc f args).run Tryz.prog w=.ok (.enter f args) w)(l:List Nd)(u:Value)(w:World)(hl:l.length≤3000000)(hB:∀n∈l,n.size≤B)(h:SN nob w l u):
 Calls Tryz.prog 79 #[u,.func (.func f) #[] #[]] w fun e w'=>(∃i:Int,e=.returned (.int .i64 i)∧(decide (0≤i))=l.any p)∧Fr nob w w':=by
 obtain⟨a,c,rfl⟩:=h.shape;have H:=hid h;clear h;have HP:=hid hp;clear hp;have HB:=hid hB;clear hB;go_enter Tryz.func79,Tryz.ntmps79;go_wp2_with fail
 go_loopw [8] (fun i wr=>∃k:Nat,i=.int .i64 k∧k≤l.length∧(l.take k).any p=false∧Fr nob w wr) (fun i _=>l.length-(intOf i).toNat)
 case atStart=>exact⟨0,rfl,Nat.zero_le _,rfl,Fr.refl _ _⟩
 case round=>
  obtain⟨k,rfl,hk,hn,fr⟩:=hrel;have HR:=hid (H.out.on fr);have FR:=hid fr;have HN:=hid hn;clear fr hn;by_cases d:k<l.length
  ·obtain⟨g,off,t,x,he,hx,hc⟩:=HR.out.get d;injection he with e1 e2 e3;subst e1;subst e3;have HX:=hid hx;clear hx e2;have s:=hid (List.take_succ_eq_append_getElem d);have m:(l.take (k+1)).any p=p l[k]:=by rw[s.out,List.any_append,HN.out];simp
   have HA:=hid m;clear m;go_wp2_with fail;refine(HP.out l[k] x _ (HB.out _ (List.getElem_mem d)) HX.out).mono ?_;rintro e w2 ⟨rfl,f2⟩;have F2:=hid f2;clear f2;by_cases b:p l[k]=true
   ·have j:l.any p=true:=List.any_eq_true.2 ⟨_,List.getElem_mem d,b⟩;have q:=hid j;clear j;rw[b];clear b;go_wp2;go_ret;exact⟨⟨k,rfl,by rw[q.out];simp⟩,FR.out.trans' F2.out⟩
   ·have o:p l[k]=false:=by simpa using b
    have r:=hid (HA.out.trans o);clear b;rw[o];clear o;go_wp2;go_roundw
    case rel=>exact⟨k+1,by go_num,by omega,r.out,FR.out.trans' F2.out⟩
    case measure=>simp[intOf];omega
  ·obtain rfl:k=l.length:=by omega
   have hT:=hid (List.take_of_length_le (l:=l) (Nat.le_refl _));go_wp2;go_ret;exact⟨⟨-1,rfl,by have:=HN.out;rw[hT.out]at this;rw[this];decide⟩,FR.out⟩
theorem containsFunc_any(f:FuncId)(p:Nd→Bool)(B:Nat)(hp:ZtY f p B)(hdef:∀args w,(callFunc f args).run Tryz.prog w=.ok (.enter f args) w)(l:List Nd)(u:Value)(w:World)(hl:l.length≤3000000)(hB:∀n∈l,n.size≤B)(h:SN nob w l u):
 Calls Tryz.prog 50 #[u,.func (.func f) #[] #[]] w fun e w'=>e=.returned (.bool (l.any p))∧Fr nob w w':=by
 have H:=hid h;clear h;have HP:=hid hp;clear hp;have HB:=hid hB;clear hB;have HD:=hid hdef;clear hdef;go_enter Tryz.func50,Tryz.ntmps50;go_wp2_with fail;refine(indexFunc_any f p B HP.out HD.out l u w hl HB.out H.out).mono ?_;rintro e w1 ⟨⟨i,rfl,hi⟩,f1⟩;have F1:=hid f1;have HI:=hid hi;clear f1 hi;go_wp2;go_ret;exact⟨by rw[←HI.out];rfl,F1.out⟩
def SI(w:World)(l:List Int)(u:Value):Prop:=(u=.slice none 0 0∧l=[])∨∃g off cap,u=.slice (some ⟨g,off,none⟩) l.length cap∧∀j x,l[j]? =some x→w.cell? ⟨g,off+j,none⟩=some (.int .i64 x)
theorem SI.shape{w:World}{l:List Int}{u:Value}(h:SI w l u):∃a c,u=.slice a l.length c:=by
 rcases h with⟨rfl,rfl⟩|⟨g,off,b,rfl,_⟩
 ·exact⟨_,_,rfl⟩
 ·exact⟨_,_,rfl⟩
theorem SI.get{w:World}{l:List Int}{u:Value}(h:SI w l u){k:Nat}(hk:k<l.length):∃g off cap,u=.slice (some ⟨g,off,none⟩) l.length cap∧w.cell? ⟨g,off+k,none⟩=some (.int .i64 l[k]):=by
 rcases h with⟨_,rfl⟩|⟨g,off,cap,rfl,h⟩
 ·simp at hk
 ·exact⟨g,off,cap,rfl,h k _ (List.getElem?_eq_getElem hk)⟩
theorem contains_any(l:List Int)(x:Int)(u:Value)(w:World)(hl:l.length≤3000000)(h:SI w l u):
 Calls Tryz.prog 106 #[u,.int .i64 x] w fun e w'=>e=.returned (.bool (l.contains x))∧w=w':=by
 obtain⟨a,c,rfl⟩:=h.shape;have H:=hid h;clear h;obtain⟨r,hr⟩:∃r,l.contains x=r:=⟨_,rfl⟩;rw[hr];have HR:=hid hr;clear hr;go_enter Tryz.func106,Tryz.ntmps106;go_wp2
 go_loop [8] (fun i=>∃k:Nat,i=.int .i64 k∧k≤l.length∧(l.take k).contains x=false) (fun i=>l.length-(intOf i).toNat)
 case atStart=>exact⟨0,rfl,Nat.zero_le _,rfl⟩
 case round=>
  obtain⟨k,rfl,hk,hn⟩:=hrel;have HN:=hid hn;clear hn;by_cases b:k<l.length
  ·obtain⟨g,off,m,he,hc⟩:=H.out.get b;injection he with e1 e2 e3;subst e1;subst e3;have j:=hid (List.take_succ_eq_append_getElem b);by_cases hx:x=l[k]
   ·have t1:(x==l[k])=true:=by rw[←hx];simp
    obtain rfl:r=true:=by rw[←HR.out,hx];simp
    clear hx e2;go_wp2;go_ret;exact⟨by simp,rfl⟩
   ·have t1:(x==l[k])=false:=by simpa using hx
    have d:(l.take (k+1)).contains x=false:=by
     have:=HN.out;rw[j.out];simp only[List.contains_eq_mem,decide_eq_false_iff_not,List.mem_append,List.mem_singleton]at *;intro h;rcases h with h|h;exact this h;exact hx h
    have f:=hid d;clear d hx e2;go_wp2
    go_round
    case rel=>exact⟨k+1,by go_num,by omega,f.out⟩
    case measure=>simp[intOf];omega
  ·obtain rfl:k=l.length:=by omega
   have hT:=List.take_of_length_le (l:=l) (Nat.le_refl _);obtain rfl:r=false:=by have:=HN.out;rw[hT]at this;rw[←HR.out];exact this
   clear hT;go_wp2;go_ret;exact⟨by simp,rfl⟩
def Lk(b:Nat)(o:Int)(c:List Int)(g:Option Nat)(w:World):Prop:=
 ∃u,w.heap[b]? =some (.cells #[.int .i64 o,u] 101 (0,0))∧w.ownsRow 0 3 1 u c.length (c.map (Value.int .i64))∧u.ownBlock=g∧g≠some b
def repOk(a:Bool)(mn mx:Int):Bool:=a&&(decide (0≤mn)&&(decide (mn≤255)&&(mx== -1||(decide (mn≤mx)&&decide (mx≤255)))))
def Nd.shaped(o:Int)(c:List Int):Nd→Bool×Int
 | .cat l=>(decide (1<l.length)&& !l.any (fun n=> !n.plain),o)
 | .alt l=>(decide (1<l.length)&& !l.any Nd.isAlt,o)
 | .rep x mn mx=>(repOk x.atom mn mx,o)
 | .group n _=>(n==o+1,o+1)
 | .back n=>(c.contains n,o)
 |_=>(true,o)
theorem Lk.si{b:Nat}{o:Int}{c:List Int}{g:Option Nat}{w:World}(h:Lk b o c g w):∃u,w.cell? ⟨b,1,none⟩=some u∧SI w c u∧u.ownBlock=g:=by
 obtain⟨u,hb,d,hg,_⟩:=h;refine⟨u,cell_at hb rfl,?_,hg⟩;obtain⟨_,h⟩:=d;rcases h with⟨rfl,h0⟩|⟨r,e,f,rfl,_,hr,hn,_,_,a⟩
 ·exact .inl ⟨rfl,List.length_eq_zero_iff.1 h0⟩
 ·refine .inr ⟨r,0,e,rfl,fun j x hj=> ?_⟩;have:(c.map (Value.int .i64))[j]? =some (.int .i64 x):=by simp[hj]
  rw[←a,List.getElem?_take]at this;split at this
  ·exact cell_at hr (by simpa using this)
  ·cases this
theorem Lk.sis{b:Nat}{o:Int}{c:List Int}{g:Option Nat}{w:World}(h:Lk b o c g w):∃u,u.ownBlock=g∧∀w',Fr nob w w'→w'.cell? ⟨b,1,none⟩=some u∧SI w' c u:=by
 obtain⟨u,hb,d,hg,e⟩:=h;refine⟨u,hg,fun w' f=> ?_⟩;have h':Lk b o c g w':=⟨u,f.heap hb (fun x=>x),ownsRow_fr d f (fun _ _ x=>x),hg,e⟩;obtain⟨u',hc,hs,_⟩:=h'.si;have a:w'.cell? ⟨b,1,none⟩=some u:=cell_at (f.heap hb (fun x=>x)) rfl;obtain rfl:u=u':=by rw[a]at hc;injection hc
 exact⟨a,hs⟩
theorem Lk.cell0{b:Nat}{o:Int}{c:List Int}{g:Option Nat}{w:World}(h:Lk b o c g w):w.cell? ⟨b,0,none⟩=some (.int .i64 o):=by
 obtain⟨u,hb,_⟩:=h;exact cell_at hb rfl
theorem Lk.thawed{b:Nat}{o:Int}{c:List Int}{g:Option Nat}{w:World}(h:Lk b o c g w)(j:Nat):w.frozen? ⟨b,j,none⟩=false:=by
 obtain⟨u,hb,_⟩:=h;exact ZF hb j
theorem Lk.lt{b:Nat}{o:Int}{c:List Int}{g:Option Nat}{w:World}(h:Lk b o c g w):b<w.heap.size:=by
 obtain⟨u,hb,_⟩:=h;exact lt_heap hb
theorem Lk.on{b:Nat}{o:Int}{c:List Int}{g:Option Nat}{w w':World}(h:Lk b o c g w)(hf:Fr nob w w'):Lk b o c g w':=by
 obtain⟨u,hb,a,hg,d⟩:=h;exact⟨u,hf.heap hb (fun x=>x),ownsRow_fr a hf (fun _ _ x=>x),hg,d⟩
theorem Lk.open{b:Nat}{o:Int}{c:List Int}{g:Option Nat}{w:World}(h:Lk b o c g w)(k:Int):Lk b k c g (w.setCell ⟨b,0,none⟩ (.int .i64 k)):=by
 obtain⟨u,hb,d,hg,a⟩:=h;refine⟨u,by have:=Za hb 0 (.int .i64 k);simpa using this,?_,hg,a⟩;exact ownsRow_fr d ((Fr.refl (fun k=>k=b) w).setCell (p:=⟨b,0,none⟩) (fun _=>rfl) _) (fun k hk e=>a (by rw[←hg,hk,e]))
theorem RN.weak{S:Nat→Prop}{w:World}{n:Nd}{u:Value}(h:RN S w n u):RN nob w n u:=RN.keep (Fr.refl nob w) (fun _ _ x=>x.elim) (fun _ _ x=>x.elim) _ _ h
theorem ZtZ{P:Program}{f:FuncId}{fn:Func}{c:Code}(hf:P.funcs[f]? =some fn)(hname:(fn.name== "runtime.NumGoroutine")=false)(hb:fn.body=some c):∀args w,(callFunc f args).run P w=.ok (.enter f args) w:=by
 intro args w;have h1:fn.name≠ "runtime.NumGoroutine" :=by simpa using hname
 simp[callFunc,hf,h1,hb,mark]
theorem enters_alt:∀args w,(callFunc 104 args).run Tryz.prog w=.ok (.enter 104 args) w:=ZtZ Tryz.func104 (by kernel_rfl) rfl
theorem enters_notPlain:∀args w,(callFunc 102 args).run Tryz.prog w=.ok (.enter 102 args) w:=ZtZ Tryz.func102 (by kernel_rfl) rfl
def Shp(b:Nat)(o:Int)(c:List Int)(g:Option Nat)(n:Nd)(w:World)(e:Ending)(w':World):Prop:=
 e=.returned (.bool (n.shaped o c).1)∧Lk b (n.shaped o c).2 c g w'∧Fr (fun k=>k=b) w w'
theorem Zue(b:Nat)(o:Int)(c:List Int)(g:Option Nat)(l:List Nd)(v:Value)(w:World)(hL:Lk b o c g w)(hz:Nd.sizes l≤3000000)(h:RN nob w (.cat l) v):
 Calls Tryz.prog 62 #[.pointer (some ⟨b,0,none⟩),v] w (Shp b o c g (.cat l) w):=by
 obtain⟨a,cp,rfl,hs⟩:=h.kind;have f:=Nd.length_le l;have HM:=hid (fun n (hn:n∈l)=>Nd.sizes_mem hn);have H:=hid hs;have HL:=hid hL;clear h hs hL;by_cases h1:1<l.length
 ·obtain⟨r,hr⟩:∃r,l.any (fun n=> !n.plain)=r:=⟨_,rfl⟩;have hE:Nd.shaped o c (.cat l)=(!r,o):=by simp[Nd.shaped,h1,hr]
  have HR:=hid hr;have HE:=hid hE;clear hr hE;have d:(1:Int)<l.length:=by omega
  go_enter Tryz.func62,Tryz.ntmps62;go_wp2_with fail;refine(containsFunc_any 102 _ 3000000 (pred_notPlain _) enters_notPlain l _ _ (by omega) (fun n hn=>by have:=HM.out n hn;omega) (H.out.on ((Fr.refl _ _).alloc _))).mono ?_;rw[HR.out];rintro e w1 ⟨rfl,f1⟩;have F1:=hid f1;clear f1;go_wp2;go_ret;unfold Shp;rw[HE.out];exact⟨rfl,HL.out.on (((Fr.refl _ _).alloc _).trans' F1.out),(((Fr.refl _ _).alloc _).trans' F1.out).any⟩
 ·have hE:Nd.shaped o c (.cat l)=(false,o):=by simp[Nd.shaped,h1]
  have HE:=hid hE;clear hE;have d:¬(1:Int)<l.length:=by omega
  go_enter Tryz.func62,Tryz.ntmps62;go_wp2_with fail;go_ret;unfold Shp;rw[HE.out];exact⟨rfl,HL.out.on ((Fr.refl _ _).alloc _),(Fr.refl _ _).alloc _⟩
theorem Zuf(b:Nat)(o:Int)(c:List Int)(g:Option Nat)(l:List Nd)(v:Value)(w:World)(hL:Lk b o c g w)(hz:Nd.sizes l≤3000000)(h:RN nob w (.alt l) v):
 Calls Tryz.prog 62 #[.pointer (some ⟨b,0,none⟩),v] w (Shp b o c g (.alt l) w):=by
 obtain⟨a,cp,rfl,hs⟩:=h.kind;have f:=Nd.length_le l;have HM:=hid (fun n (hn:n∈l)=>Nd.sizes_mem hn);have H:=hid hs;have HL:=hid hL;clear h hs hL;by_cases h1:1<l.length
 ·obtain⟨r,hr⟩:∃r,l.any Nd.isAlt=r:=⟨_,rfl⟩;have hE:Nd.shaped o c (.alt l)=(!r,o):=by simp[Nd.shaped,h1,hr]
  have HR:=hid hr;have HE:=hid hE;clear hr hE;have d:(1:Int)<l.length:=by omega
  go_enter Tryz.func62,Tryz.ntmps62;go_wp2_with fail;refine(containsFunc_any 104 _ 3000000 (pred_alt _) enters_alt l _ _ (by omega) (fun n hn=>by have:=HM.out n hn;omega) (H.out.on ((Fr.refl _ _).alloc _))).mono ?_;rw[HR.out];rintro e w1 ⟨rfl,f1⟩;have F1:=hid f1;clear f1;go_wp2;go_ret;unfold Shp;rw[HE.out];exact⟨rfl,HL.out.on (((Fr.refl _ _).alloc _).trans' F1.out),(((Fr.refl _ _).alloc _).trans' F1.out).any⟩
 ·have hE:Nd.shaped o c (.alt l)=(false,o):=by simp[Nd.shaped,h1]
  have HE:=hid hE;clear hE;have d:¬(1:Int)<l.length:=by omega
  go_enter Tryz.func62,Tryz.ntmps62;go_wp2_with fail;go_ret;unfold Shp;rw[HE.out];exact⟨rfl,HL.out.on ((Fr.refl _ _).alloc _),(Fr.refl _ _).alloc _⟩
theorem Zug(b:Nat)(o:Int)(c:List Int)(g:Option Nat)(x:Nd)(mn mx:Int)(v:Value)(w:World)(hL:Lk b o c g w)(h:RN nob w (.rep x mn mx) v):
 Calls Tryz.prog 62 #[.pointer (some ⟨b,0,none⟩),v] w (Shp b o c g (.rep x mn mx) w):=by
 obtain⟨u,rfl,hs⟩:=h.kind;have d:=hs.shape;have H:=hid hs;have HL:=hid hL;clear h hs hL;have hE:Nd.shaped o c (.rep x mn mx)=(repOk x.atom mn mx,o):=rfl;obtain⟨r,hr⟩:∃r,repOk x.atom mn mx=r:=⟨_,rfl⟩;rw[hr]at hE;have HE:=hid hE;have HR:=hid hr;clear hE hr;rcases d with rfl|⟨iu,xu,rfl⟩
 all_goals
  go_enter Tryz.func62,Tryz.ntmps62;go_wp2_with fail;refine(atom_any nob x _ _ (H.out.on ((Fr.refl _ _).alloc _))).mono ?_;rintro e w1 ⟨rfl,rfl⟩;obtain⟨q,hq⟩:∃q,x.atom=q:=⟨_,rfl⟩;rw[hq];have HQ:=hid hq;clear hq;have hr:=HR.out;rw[HQ.out]at hr;unfold repOk at hr;cases q
  ·obtain rfl:r=false:=by rw[←hr];rfl
   clear hr;go_wp2;go_ret;unfold Shp;rw[HE.out];exact⟨rfl,HL.out.on ((Fr.refl _ _).alloc _),(Fr.refl _ _).alloc _⟩
  ·simp only[Bool.true_and]at hr;have a:=hid hr;clear hr;by_cases h0:0≤mn
   ·by_cases h1:mn≤255
    ·by_cases h2:mx= -1
     ·obtain rfl:r=true:=by rw[←a.out];simp[h0,h1,h2]
      subst h2;go_wp2;go_ret;unfold Shp;rw[HE.out];exact⟨rfl,HL.out.on ((Fr.refl _ _).alloc _),(Fr.refl _ _).alloc _⟩
     ·have f:(mx== -1)=false:=by simpa using h2
      by_cases h3:mn≤mx
      ·by_cases h4:mx≤255
       ·obtain rfl:r=true:=by rw[←a.out];simp[h0,h1,h3,h4]
        go_wp2;go_ret;unfold Shp;rw[HE.out];exact⟨rfl,HL.out.on ((Fr.refl _ _).alloc _),(Fr.refl _ _).alloc _⟩
       ·obtain rfl:r=false:=by rw[←a.out];simp[h0,h1,h2,h3,h4]
        go_wp2;go_ret;unfold Shp;rw[HE.out];exact⟨ret_bool (decide_eq_false (by omega)),HL.out.on ((Fr.refl _ _).alloc _),(Fr.refl _ _).alloc _⟩
      ·obtain rfl:r=false:=by rw[←a.out];simp[h0,h1,h2,h3]
       go_wp2;go_ret;unfold Shp;rw[HE.out];exact⟨rfl,HL.out.on ((Fr.refl _ _).alloc _),(Fr.refl _ _).alloc _⟩
    ·obtain rfl:r=false:=by rw[←a.out];simp[h0,h1]
     go_wp2;go_ret;unfold Shp;rw[HE.out];exact⟨rfl,HL.out.on ((Fr.refl _ _).alloc _),(Fr.refl _ _).alloc _⟩
   ·obtain rfl:r=false:=by rw[←a.out];simp[h0]
    go_wp2;go_ret;unfold Shp;rw[HE.out];exact⟨rfl,HL.out.on ((Fr.refl _ _).alloc _),(Fr.refl _ _).alloc _⟩
theorem ZtF(b:Nat)(o:Int)(c:List Int)(g:Option Nat)(n:Int)(x:Nd)(v:Value)(w:World)(hL:Lk b o c g w)(h0:0≤o)(h1:o≤3000000)(h:RN nob w (.group n x) v):
 Calls Tryz.prog 62 #[.pointer (some ⟨b,0,none⟩),v] w (Shp b o c g (.group n x) w):=by
 obtain⟨u,rfl,hs⟩:=h.kind;have a:=hs.shape;have H:=hid hs;have HL:=hid hL;clear h hs hL;have hE:Nd.shaped o c (.group n x)=(n==o+1,o+1):=rfl;have HE:=hid hE;clear hE;have hb:=hid HL.out.lt;have c0:=hid fun X=>(HL.out.on ((Fr.refl nob w).alloc X)).cell0;have th:=hid fun X=>(HL.out.on ((Fr.refl nob w).alloc X)).thawed 0;rcases a with rfl|⟨iu,xu,rfl⟩
 all_goals
  have d:=c0.out;have f:=th.out;have e:=hb.out;go_enter Tryz.func62,Tryz.ntmps62;go_wp2_with fail;have L1:=hid fun X=>(HL.out.open (o+1)).on ((Fr.refl nob _).alloc X);have c1:=fun X=>(L1.out X).cell0;have i:=fun X=>(L1.out X).thawed 0
  go_quiet (fail)
  go_wp2;go_ret;unfold Shp;rw[HE.out];exact⟨rfl,L1.out _,(((Fr.refl (fun k=>k=b) w).setCell (p:=⟨b,0,none⟩) (fun _=>rfl) _).alloc _).drewN _⟩
theorem ZtQ(b:Nat)(o:Int)(c:List Int)(g:Option Nat)(n:Int)(v:Value)(w:World)(hL:Lk b o c g w)(hc:c.length≤3000000)(h:RN nob w (.back n) v):
 Calls Tryz.prog 62 #[.pointer (some ⟨b,0,none⟩),v] w (Shp b o c g (.back n) w):=by
 obtain rfl:=h.kind;have HL:=hid hL;clear h hL;have hE:Nd.shaped o c (.back n)=(c.contains n,o):=rfl;obtain⟨r,hr⟩:∃r,c.contains n=r:=⟨_,rfl⟩;rw[hr]at hE;have HE:=hid hE;have HR:=hid hr;clear hE hr;obtain⟨u,_,hu⟩:=HL.out.sis;have c1:=fun X=>(hu _ ((Fr.refl nob w).alloc X)).1;have s1:=hid fun X k=>(hu _ (((Fr.refl nob w).alloc X).drewN k)).2;have a:=HL.out.lt;clear hu;go_enter Tryz.func62,Tryz.ntmps62;go_wp2_with fail
 go_quiet ((go_at_call 106;exact Calls.quiet_of_same ((contains_any c n u _ hc (s1.out _ _)).mono fun _ _ h=>⟨h.1,h.2.symm⟩)))
 go_wp2;go_ret;unfold Shp;rw[HE.out];exact⟨ret_bool HR.out,HL.out.on (((Fr.refl _ _).alloc _).drewN _),((Fr.refl _ _).alloc _).drewN _⟩
mutual
def Nd.look:Nd→Int→List Int→Option (Int×List Int)
 | .cat l,o,c=>if(decide (1<l.length)&& !l.any (fun n=> !n.plain))=true then Nd.looks l o c else none
 | .alt l,o,c=>if(decide (1<l.length)&& !l.any Nd.isAlt)=true then Nd.looks l o c else none
 | .rep x mn mx,o,c=>if repOk x.atom mn mx=true then x.look o c else none
 | .group n x,o,c=>if(n==o+1)=true then(match x.look (o+1) c with
  |none=>none
  |some (o',c')=>some (o',c'++[n]))else none
 | .back n,o,c=>if c.contains n=true then some (o,c)else none
 | .nil,o,c| .empty,o,c| .one _,o,c| .start,o,c| .fin,o,c=>some (o,c)
def Nd.looks:List Nd→Int→List Int→Option (Int×List Int)
 |[],o,c=>some (o,c)
 |t::ts,o,c=>match t.look o c with
  |none=>none
  |some (o',c')=>Nd.looks ts o' c'
end
def Nd.shut(c:List Int):Nd→List Int
 | .group n _=>c++[n]
 |_=>c
theorem looks_one(x:Nd)(o:Int)(c:List Int):Nd.looks [x] o c=x.look o c:=by
 rw[Nd.looks];cases x.look o c with
 |none=>rfl
 |some p=>simp[Nd.looks]
theorem Nd.look_no{n:Nd}{o:Int}{c:List Int}(h:(n.shaped o c).1=false):n.look o c=none:=by
 cases n<;>simp only[Nd.shaped]at h<;>first|(simp only[Nd.look];rw[h];rfl)|cases h
theorem Nd.look_yes{n:Nd}{o:Int}{c:List Int}(h:(n.shaped o c).1=true):n.look o c=(match Nd.looks n.kids (n.shaped o c).2 c with
 |none=>none
 |some (o',c')=>some (o',n.shut c')):=by
 cases n with
 |cat l=>simp only[Nd.shaped]at h;simp only[Nd.look,Nd.kids,Nd.shaped,Nd.shut,h];cases Nd.looks l o c<;>rfl
 |alt l=>simp only[Nd.shaped]at h;simp only[Nd.look,Nd.kids,Nd.shaped,Nd.shut,h];cases Nd.looks l o c<;>rfl
 |rep x mn mx=>simp only[Nd.shaped]at h;simp only[Nd.look,Nd.kids,Nd.shaped,Nd.shut,h,looks_one];cases x.look o c<;>rfl
 |group k x=>simp only[Nd.shaped]at h;simp only[Nd.look,Nd.kids,Nd.shaped,Nd.shut,h,looks_one];cases x.look (o+1) c<;>rfl
 |back k=>simp only[Nd.shaped]at h;simp only[Nd.look,Nd.kids,Nd.shaped,Nd.shut,h,Nd.looks];rfl
 |_=>rfl
mutual
theorem Nd.look_le:∀(n:Nd) (o:Int) (c:List Int) (o':Int) (c':List Int),n.look o c=some (o',c')→o≤o'∧o'≤o+n.size∧c'.length≤c.length+n.size
 | .cat l,o,c,o',c',h=>by
   simp only[Nd.look]at h;split at h
   ·have:=Nd.looks_le l o c o' c' h;simp only[Nd.size];omega
   ·cases h
 | .alt l,o,c,o',c',h=>by
   simp only[Nd.look]at h;split at h
   ·have:=Nd.looks_le l o c o' c' h;simp only[Nd.size];omega
   ·cases h
 | .rep x _ _,o,c,o',c',h=>by
   simp only[Nd.look]at h;split at h
   ·have:=Nd.look_le x o c o' c' h;simp only[Nd.size];omega
   ·cases h
 | .group n x,o,c,o',c',h=>by
   simp only[Nd.look]at h;split at h
   ·split at h
    ·cases h
    ·rename_i a b e;have:=Nd.look_le x (o+1) c a b e;injection h with h;injection h with h1 h2;subst h1;subst h2;simp only[Nd.size,List.length_append,List.length_cons,List.length_nil];omega
   ·cases h
 | .back n,o,c,o',c',h=>by
   simp only[Nd.look]at h;split at h
   ·injection h with h;injection h with h1 h2;subst h1;subst h2;omega
   ·cases h
 | .nil,o,c,o',c',h=>by simp only[Nd.look]at h;injection h with h;injection h with h1 h2;subst h1;subst h2;omega
 | .empty,o,c,o',c',h=>by simp only[Nd.look]at h;injection h with h;injection h with h1 h2;subst h1;subst h2;omega
 | .one _,o,c,o',c',h=>by simp only[Nd.look]at h;injection h with h;injection h with h1 h2;subst h1;subst h2;omega
 | .start,o,c,o',c',h=>by simp only[Nd.look]at h;injection h with h;injection h with h1 h2;subst h1;subst h2;omega
 | .fin,o,c,o',c',h=>by simp only[Nd.look]at h;injection h with h;injection h with h1 h2;subst h1;subst h2;omega
theorem Nd.looks_le:∀(l:List Nd) (o:Int) (c:List Int) (o':Int) (c':List Int),Nd.looks l o c=some (o',c')→o≤o'∧o'≤o+Nd.sizes l∧c'.length≤c.length+Nd.sizes l
 |[],o,c,o',c',h=>by simp only[Nd.looks]at h;injection h with h;injection h with h1 h2;subst h1;subst h2;omega
 |t::ts,o,c,o',c',h=>by
  simp only[Nd.looks]at h;split at h
  ·cases h
  ·rename_i a b e;have h1:=Nd.look_le t o c a b e;have h2:=Nd.looks_le ts a b o' c' h;simp only[Nd.sizes];omega
end
theorem Nd.shaped_le(n:Nd)(o:Int)(c:List Int):o≤(n.shaped o c).2∧(n.shaped o c).2≤o+1:=by
 cases n<;>simp only[Nd.shaped]<;>omega
theorem shaped_any(b:Nat)(o:Int)(c:List Int)(g:Option Nat)(n:Nd)(v:Value)(w:World)(hL:Lk b o c g w)(hz:n.size≤3000000)(h0:0≤o)(h1:o≤3000000)(hc:c.length≤3000000)(h:RN nob w n v):
 Calls Tryz.prog 62 #[.pointer (some ⟨b,0,none⟩),v] w (Shp b o c g n w):=by
 have a:∀i x,v=.iface i x→i≠75→i≠86→i≠137→i≠127→i≠116→n.shaped o c=(true,o)→
  Calls Tryz.prog 62 #[.pointer (some ⟨b,0,none⟩),v] w (Shp b o c g n w):=by
  intro i x hv n1 n2 n3 n4 n5 hE;have HL:=hid hL;have HE:=hid hE;clear hL hE h hz h0 h1 hc;subst hv;go_enter Tryz.func62,Tryz.ntmps62;go_wp2_with fail;go_ret;unfold Shp;rw[HE.out];exact⟨rfl,HL.out,Fr.refl _ _⟩
 cases n with
 |cat l=>exact Zue b o c g l v w hL (by simp only[Nd.size]at hz;omega) h
 |alt l=>exact Zuf b o c g l v w hL (by simp only[Nd.size]at hz;omega) h
 |rep x mn mx=>exact Zug b o c g x mn mx v w hL h
 |group k x=>exact ZtF b o c g k x v w hL h0 h1 h
 |back k=>exact ZtQ b o c g k v w hL hc h
 |nil=>
  obtain rfl:=h.kind;have HL:=hid hL;clear hL h hz h0 h1 hc a;go_enter Tryz.func62,Tryz.ntmps62;go_wp2_with fail;go_ret;exact⟨rfl,HL.out,Fr.refl _ _⟩
 |empty=>exact a _ _ h.kind (by decide) (by decide) (by decide) (by decide) (by decide) rfl
 |one s=>exact a _ _ h.kind (by decide) (by decide) (by decide) (by decide) (by decide) rfl
 |start=>exact a _ _ h.kind (by decide) (by decide) (by decide) (by decide) (by decide) rfl
 |fin=>exact a _ _ h.kind (by decide) (by decide) (by decide) (by decide) (by decide) rfl
theorem step_append_g{P:Program}{ops:Array Oper}{o:Oper}{a:Act}{w:World}{K:Act→World→Prop}{Q:Exit→Act→World→Prop}{E:Prop}
 (hg:o.guard=none) (s x:Operand) (t:TypeId) (hop:o.op=Op.call {callee:=Callee.builtin Builtin.append,args:= #[s,x],argTypes:= #[t,t]})
 (e:TypeId) (i:TypeInfo) (z:Value) (size bytes:Nat) (ht:P.underlying t=some (.slice e)) (hi:P.info? e=some i) (hz:i.zero=some z)
 (hsize:i.size=size) (hby:i.bytes=bytes) (hzs:z.cells.size=size) (hsz:0<size)
 (v:Value) (n:Nat) (xs:List Value) (hs:a.eval s=v) (hown:w.ownsRow 0 e size v n xs)
 (ad:Addr) (m c:Nat) (news:List Value) (hx:a.eval x=.slice (some ad) m c) (hl:news.length=m*size) (hnews:∀j u,news[j]? =some u→w.cell? (ad.add j)=some u) (h1:∀u∈news,u.oneCell'=true)
 (h63:n+m≤maxLen) (hbytes:(n+m)*bytes≤140737488355328)
 (hK:∀v' w',w'.ownsRow 0 e size v' (n+m) (xs++news)→Appd m v v' w w'→K (a.put o.dst v') w'):
 if Region.wanted o (yielded ops a.tmps)=true then Oper.wp P o a w K Q else E:=by
 have hw:Region.wanted o (yielded ops a.tmps)=true:=by simp[Region.wanted,hg]
 rw[if_pos hw];obtain⟨v',w',hr,h2,h3⟩:=Zdo (P:=P) w t o.type e i z size bytes ht hi hz hsize hby hzs hsz v n xs hown ad m c news hl hnews h1 h63 hbytes;unfold Oper.wp execOp;simp only[hop,resolve,invoke,builtin,Sem.run_bind,Sem.run_pure,Result.andThen_ok,List.map_toArray,List.map_cons,List.map_nil,hs,hx,hr];exact hK _ _ h2 h3
theorem ZuY:(Tryz.prog.info? 3).map (fun i=>(i.zero,i.size,i.bytes))=some (some (.int .i64 0),1,8):=by kernel_rfl
def LS(b:Nat)(g:Option Nat):Nat→Prop:=fun k=>k=b∨g=some k
theorem Lk.ls{b:Nat}{o:Int}{c:List Int}{g:Option Nat}{w:World}(h:Lk b o c g w):∀k,LS b g k→k<w.heap.size:=by
 intro k hk;rcases hk with rfl|hk
 ·exact h.lt
 ·obtain⟨u,_,a,hg,_⟩:=h;rcases a.2 with⟨rfl,_⟩|⟨r,d,e,rfl,_,hr,_⟩
  ·rw[hk]at hg;cases hg
  ·rw[hk]at hg;injection hg with hg;subst hg;exact lt_heap hr
section
variable {b:Nat} {o:Int} {c:List Int} {g:Option Nat} {w W0 w3:World} {v v':Value} {gn:Int}
theorem Zs3(hbk:w.heap[b]? =some (.cells #[.int .i64 o,v] 101 (0,0)))(hg:v.ownBlock=g)(hne:g≠some b)(f:Fr nob w W0)(hap:Appd 1 v v' W0 w3):
 w3.heap[b]? =some (.cells #[.int .i64 o,v] 101 (0,0))∧w3.cell? ⟨b,1,none⟩=some v∧w3.frozen? ⟨b,1,none⟩=false:=by
 have h:=hap.fr.heap (f.heap hbk (fun x=>x)) (fun e=>hne (by rw[←hg,e]));exact⟨h,cell_at h rfl,ZF h 1⟩
theorem Lk.push(hbk:w.heap[b]? =some (.cells #[.int .i64 o,v] 101 (0,0)))(hg:v.ownBlock=g)(hne:g≠some b)(f:Fr nob w W0)(hap:Appd 1 v v' W0 w3)
 (hown:w3.ownsRow 0 3 1 v' (c.length+1) (c.map (Value.int .i64)++[.int .i64 gn])):
 Lk b o (c++[gn]) v'.ownBlock (w3.setCell ⟨b,1,none⟩ v')∧(∀j,v'.ownBlock=some j→g=some j∨w.heap.size≤j)∧Fr (LS b g) w (w3.setCell ⟨b,1,none⟩ v'):=by
 obtain⟨h3,_⟩:=Zs3 hbk hg hne f hap;have i:=lt_heap hbk;have l:=f.size;have d:∀j,v'.ownBlock=some j→g=some j∨w.heap.size≤j:=by
  intro j hj;rcases hap.old j hj with h|h
  ·exact .inl (by rw[←hg,h])
  ·exact .inr (by omega)
 have a:v'.ownBlock≠some b:=by
  intro e;rcases d b e with h|h
  ·exact hne h
  ·omega
 refine⟨⟨v',by have:=Za h3 1 v';simpa using this,?_,rfl,a⟩,d,?_⟩
 ·have:=ownsRow_fr hown ((Fr.refl (fun k=>k=b) w3).setCell (p:=⟨b,1,none⟩) (fun _=>rfl) v') (fun k hk e=>a (by rw[hk,e]));simpa using this
 ·exact(f.any.trans (hap.fr.mono (T:=LS b g) fun k _ hk=>.inr (by rw[←hg,hk])) (fun _ _ x=>x)).setCell (p:=⟨b,1,none⟩) (fun _=>.inl rfl) v'
end
def Rgt(b:Nat)(o:Int)(c:List Int)(g:Option Nat)(n:Nd)(w:World)(e:Ending)(w':World):Prop:=
 e=.returned (.bool (n.look o c).isSome)∧Fr (LS b g) w w'∧∀o' c',n.look o c=some (o',c')→∃g',Lk b o' c' g' w'∧∀k,g'=some k→g=some k∨w.heap.size≤k
theorem LS.late{b:Nat}{g g':Option Nat}{w:World}(h:∀k,g'=some k→g=some k∨w.heap.size≤k):∀k,k<w.heap.size→LS b g' k→LS b g k:=by
 intro k hk hl;rcases hl with rfl|hl
 ·exact .inl rfl
 ·rcases h k hl with h|h
  ·exact .inr h
  ·omega
theorem right_any(m:Nat):∀(n:Nd) (v:Value) (w:World) (b:Nat) (o:Int) (c:List Int) (g:Option Nat),n.size≤m→0≤o→o+n.size≤3000000→c.length+n.size≤3000000→Lk b o c g w→RN (LS b g) w n v→
 Calls Tryz.prog 40 #[.pointer (some ⟨b,0,none⟩),v] w (Rgt b o c g n w):=by
 induction m with
 |zero=>intro n v w b o c g h;have:=n.size_pos;omega
 |succ m ih=>
  intro n v w b o c g hm h0 ho hc hL h;have IH:=hid ih;clear ih;have E:=hid n.size_kids;have a1:=Nd.length_le n.kids;have b1:n.kids.length≤3000000:=by have:=E.out;omega
  have a7:=n.size_pos;go_enter Tryz.func40,Tryz.ntmps40;go_wp2_with fail;refine(shaped_any b o c g n v w hL (by omega) h0 (by omega) (by omega) h.weak).mono ?_;rintro e w1 ⟨rfl,L1,f1⟩;cases hq:(n.shaped o c).1 with
  |false=>
   have hE:=Nd.look_no hq;go_wp2;go_ret;unfold Rgt;rw[hE];exact⟨rfl,f1.mono (fun k _ hk=>.inl hk),fun _ _ h=>by cases h⟩
  |true=>
   have hE:=Nd.look_yes hq;have a3:=Nd.shaped_le n o c;obtain⟨o1,J⟩:∃o1,(n.shaped o c).2=o1:=⟨_,rfl⟩;rw[J]at hE a3 L1;have a2:(n.shaped o c).2=o1:=J;have M:=RN.keep f1 (S:=LS b g) (S':=LS b g) (fun k _ hk=>.inl hk) (fun _ _ x=>x) n v h;have U:=L1.ls;have HV:=hid h.tyv;have HK:=hid h.kind;clear h hL J a2;go_wp2_with fail;refine(kids_any (LS b g) n v w1 M U).mono ?_;rintro e w2 ⟨u,rfl,s2,f2⟩;obtain⟨a,cp,rfl⟩:=s2.shape;obtain⟨F,hF⟩:∃F,Nd.looks n.kids o1 c=F:=⟨_,rfl⟩;rw[hF]at hE;have L2:=hid (L1.on f2);have S2:=hid s2;have F2:=hid f2;have F1:=hid f1;have HE:=hid hE;have HF:=hid hF;clear L1 s2 f2 f1 hE hF M U a1 hq;go_wp2_with fail
   go_loopw [16] (fun i wr=>∃(k:Nat) (ok:Int) (ck:List Int) (gk:Option Nat),i=.int .i64 k∧k≤n.kids.length∧Nd.looks (n.kids.drop k) ok ck=F∧(o1≤ok∧ok≤o1+Nd.sizes (n.kids.take k)∧ck.length≤c.length+Nd.sizes (n.kids.take k))∧
    Lk b ok ck gk wr∧SN (LS b gk) wr n.kids (.slice a n.kids.length cp)∧Fr (LS b g) w2 wr∧(∀j,gk=some j→g=some j∨w2.heap.size≤j)) (fun i _=>n.kids.length-(intOf i).toNat)
   case atStart=>exact⟨0,o1,c,g,rfl,Nat.zero_le _,HF.out,⟨Int.le_refl _,by simp[Nd.sizes],by simp[Nd.sizes]⟩,L2.out,S2.out,Fr.refl _ _,fun j hj=>.inl hj⟩
   case round=>
    obtain⟨k,ok,ck,gk,rfl,hk,hF,hb,lk,sn,fr,hg⟩:=hrel;have b2:=Nd.sizes_take_le n.kids k;have I:=hid hF;have A:=hid lk;have O:=hid sn;have f:=hid fr;have HG:=hid hg;have HB:=hid hb;clear hF lk sn fr hg hb;by_cases C:k<n.kids.length
    ·obtain⟨q,off,a8,x,he,hx,hc⟩:=O.out.get C;injection he with e1 e2 e3;subst e1;subst e3;have z:=hid (Nd.sizes_take C);have H:=hid (Nd.sizes_take_le n.kids (k+1));have b3:n.kids[k].size<n.size:=Nd.kid_lt (List.getElem_mem C);have HX:=hid hx;clear hx e2;have P:=hid (List.drop_eq_getElem_cons C);go_wp2_with fail;refine(IH.out n.kids[k] x _ b ok ck gk (by omega) (by have:=HB.out;omega) (by have:=HB.out;have:=z.out;have:=H.out;have:=E.out;omega) (by have:=HB.out;have:=z.out;have:=H.out;have:=E.out;omega) A.out HX.out).mono ?_;rintro e w3 ⟨rfl,f3,r⟩;have F3:=hid f3;clear f3;cases hq:n.kids[k].look ok ck with
     |none=>
      obtain rfl:F=none:=by rw[←I.out,P.out,Nd.looks,hq]
      clear hq r;go_wp2;go_ret;unfold Rgt;rw[HE.out];exact⟨rfl,((F1.out.mono (T:=LS b g) (fun k _ hk=>.inl hk)).trans' F2.out.any).trans' (f.out.trans F3.out (LS.late HG.out)),fun _ _ h=>by cases h⟩
     |some p=>
      obtain⟨o',c'⟩:=p;obtain⟨g',l',Q⟩:=r o' c' hq;have R:=Nd.look_le _ _ _ _ _ hq;have a0:=hid (show Nd.looks (n.kids.drop (k+1)) o' c'=F by rw[←I.out,P.out,Nd.looks,hq]);have Y:=hid l';have L:=hid Q;have Z:=hid R;clear r l' Q R hq;go_wp2;go_roundw
      case rel=>exact⟨k+1,o',c',g',by go_num,by omega,a0.out,by have:=HB.out;have:=z.out;have:=Z.out;omega,Y.out,O.out.keep F3.out (fun _ _ x=>x) (LS.late L.out),f.out.trans F3.out (LS.late HG.out),fun j hj=>by
       rcases L.out j hj with h|h
       ·exact HG.out j h
       ·have:=f.out.size;exact .inr (by omega)⟩
      case measure=>simp[intOf];omega
    ·obtain rfl:k=n.kids.length:=by omega
     obtain rfl:F=some (ok,ck):=by rw[←I.out,List.drop_length,Nd.looks]
     by_cases B:∃gn x,n=.group gn x
     ·obtain⟨gn,y,rfl⟩:=B;obtain⟨uy,rfl,hy⟩:=HK.out;have W:=hy.shape;obtain⟨i0,hi,a4,a5,a6⟩:=info_parts ZuY;obtain⟨uc,l,t,G,D⟩:=A.out;obtain⟨ac,cc,rfl⟩:=Zb t;have b0:ck.length≤3000000:=by have:=HB.out;have:=E.out;omega
      have a9:=lt_heap l;have c1:=fun X=>cell_at (j:=1) ((((Fr.refl nob wr).alloc X).drew).heap l (fun x=>x)) rfl;clear hy;rcases W with rfl|⟨iu,xu,rfl⟩
      all_goals
       go_wp2_with fail;have c0:wr.cell? ⟨b,1,none⟩=some (.slice ac ck.length cc):=cell_at l rfl
       go_region_law (refine step_append_g rfl (.tmp 35) (.tmp 38) 81 rfl 3 i0 (.int .i64 0) 1 8 Tryz.underlying81 hi a4 a5 a6 rfl (by decide) (.slice ac ck.length cc) ck.length (ck.map (Value.int .i64)) (by rfl) (by first|exact ownsRow_fr t ((((Fr.refl nob wr).alloc _).alloc _).drew) (fun _ _ x=>x)|exact ownsRow_fr t ((((Fr.refl nob wr).alloc _).drew).alloc _) (fun _ _ x=>x)) ⟨wr.heap.size+1,0,none⟩ 1 1 [.int .i64 gn] (by rfl) rfl (by intro j u hj;match j,hj with|0,hj=>simp at hj;subst hj;simp[Addr.add]) (by intro u hu;simp at hu;subst hu;rfl) (by unfold maxLen;omega) (by omega) ?_;intro v' w3 d s;obtain⟨av,cv,rfl⟩:=Zb d;have K:=(by first|exact hid (Lk.push l G D ((((Fr.refl nob wr).alloc _).alloc _).drew) s d)|exact hid (Lk.push l G D ((((Fr.refl nob wr).alloc _).drew).alloc _) s d));obtain⟨_,pc,pf⟩:=(by first|exact Zs3 l G D ((((Fr.refl nob wr).alloc _).alloc _).drew) s|exact Zs3 l G D ((((Fr.refl nob wr).alloc _).drew).alloc _) s);clear d s)
       all_goals
        go_wp2;go_ret;unfold Rgt;rw[HE.out];obtain⟨p1,p2,p3⟩:=K.out;refine⟨rfl,((F1.out.mono (T:=LS b g) (fun k _ hk=>.inl hk)).trans' F2.out.any).trans' (f.out.trans p3 (LS.late HG.out)),fun o' c' h=> ?_⟩;injection h with h;injection h with h1 h2;subst h1;subst h2;refine⟨_,p1,fun j hj=> ?_⟩;rcases p2 j hj with h|h
        ·rcases HG.out j h with h|h
         ·exact .inl h
         ·have:=F1.out.size;have:=F2.out.size;exact .inr (by omega)
        ·have:=F1.out.size;have:=F2.out.size;have:=f.out.size;exact .inr (by omega)
     ·have V:n.shut ck=ck:=by cases n<;>first|rfl|exact(B ⟨_,_,rfl⟩).elim
      have N:=hid V;clear V;rcases HV.out with⟨_,rfl⟩|⟨i,x,ht,rfl⟩
      ·go_wp2;go_ret;unfold Rgt;rw[HE.out];exact⟨rfl,((F1.out.mono (T:=LS b g) (fun k _ hk=>.inl hk)).trans' F2.out.any).trans' (f.out.trans' (((Fr.refl nob _).alloc _).any)),fun o' c' h=>by
        injection h with h;injection h with h1 h2;subst h1;subst h2;rw[N.out];exact⟨gk,A.out.on ((Fr.refl _ _).alloc _),fun j hj=>by
         rcases HG.out j hj with h|h
         ·exact .inl h
         ·have:=F1.out.size;have:=F2.out.size;exact .inr (by omega)⟩⟩
      ·have hi:i≠127:=by
        cases n<;>simp only[Nd.ty,Option.some.injEq]at ht<;>first|(subst ht;decide)|(exact(B ⟨_,_,rfl⟩).elim)|cases ht
       clear ht B;go_wp2;go_ret;unfold Rgt;rw[HE.out];exact⟨rfl,((F1.out.mono (T:=LS b g) (fun k _ hk=>.inl hk)).trans' F2.out.any).trans' (f.out.trans' (((Fr.refl nob _).alloc _).any)),fun o' c' h=>by
        injection h with h;injection h with h1 h2;subst h1;subst h2;rw[N.out];exact⟨gk,A.out.on ((Fr.refl _ _).alloc _),fun j hj=>by
         rcases HG.out j hj with h|h
         ·exact .inl h
         ·have:=F1.out.size;have:=F2.out.size;exact .inr (by omega)⟩⟩
def Nd.right(n:Nd):Bool:=(n.look 0 []).isSome
theorem ZuZ(n:Nd)(v:Value)(w:World)(hn:n.size≤3000000)(h:RN nob w n v):
 Calls Tryz.prog 16 #[v] w fun e w'=>e=.returned (.bool n.right)∧Fr nob w w':=by
 have H:=hid h;clear h;go_enter Tryz.func16,Tryz.ntmps16;go_wp2_with fail;have f1:Fr nob w (w.alloc (.cells #[.int .i64 0,.slice none 0 0] 101)):=(Fr.refl _ _).alloc _;have L:Lk w.heap.size 0 [] none (w.alloc (.cells #[.int .i64 0,.slice none 0 0] 101)):=
  ⟨.slice none 0 0,heap_alloc_new _ _,World.ownsRow_nil _ _ _ _,rfl,by simp⟩
 refine(right_any n.size n v _ w.heap.size 0 [] none (Nat.le_refl _) (by omega) (by omega) (by simpa using hn) L (RN.keep (S':=LS w.heap.size none) f1 (fun _ _ x=>x) (fun k hk x=>by
  rcases x with rfl|x
  ·omega
  ·cases x) _ _ H.out)).mono ?_
 rintro e w1 ⟨rfl,f2,_⟩;have F1:=hid f1;have F2:=hid f2;clear f1 f2 L;go_wp2;go_ret;refine⟨rfl,F1.out.trans F2.out (fun i hi x=> ?_)⟩;rcases x with rfl|x
 ·omega
 ·cases x
def LG(g:Option Nat):Nat→Prop:=fun k=>g=some k
theorem Zkl:(Tryz.prog.info? 24).map (fun i=>(i.zero,i.size,i.bytes))=some (some .nilIface,1,16):=by kernel_rfl
theorem VN.cell1{S:Nat→Prop}{w:World}:∀{l:List Nd} {vs:List Value},VN S w l vs→∀u∈vs,u.oneCell'=true
 |[],_,h,u,hu=>by rw[VN]at h;subst h;cases hu
 |t::ts,_,h,u,hu=>by
  rw[VN]at h;obtain⟨v,r,rfl,h1,h⟩:=h;rcases List.mem_cons.1 hu with rfl|hu
  ·rcases h1.shape with rfl|⟨i,x,rfl⟩<;>rfl
  ·exact VN.cell1 h u hu
def Zd3(l:List Nd)(n:Nd):Nd:=match l with
 |[]=>.empty
 |[x]=>x
 |_=>n
def Nd.part:Nd→List Nd
 | .nil| .empty=>[]
 | .cat l=>l
 |n=>[n]
def Nd.arm:Nd→List Nd
 | .alt l=>l
 |n=>[n.told]
def parts:List Nd→List Nd
 |[]=>[]
 |t::ts=>t.part++parts ts
def arms:List Nd→List Nd
 |[]=>[]
 |t::ts=>t.arm++arms ts
def Za2(l:List Nd):Nd:=Zd3 (parts l) (.cat (parts l))
def Za3(l:List Nd):Nd:=Zd3 (arms l) (.alt (arms l))
theorem Nd.part_sizes(n:Nd):Nd.sizes n.part≤n.size:=by
 cases n<;>simp only[Nd.part,Nd.sizes,Nd.size]<;>omega
theorem Nd.arm_sizes(n:Nd):Nd.sizes n.arm≤n.size:=by
 cases n<;>simp only[Nd.arm,Nd.told,Nd.sizes,Nd.size]<;>omega
theorem ZcA(l:List Nd):Nd.sizes (parts l)≤Nd.sizes l:=by
 induction l with
 |nil=>simp[parts]
 |cons t ts ih=>have:=t.part_sizes;simp only[parts,Nd.sizes,Nd.sizes_append];omega
theorem Zdf(l:List Nd):Nd.sizes (arms l)≤Nd.sizes l:=by
 induction l with
 |nil=>simp[arms]
 |cons t ts ih=>have:=t.arm_sizes;simp only[arms,Nd.sizes,Nd.sizes_append];omega
theorem ZfV(l m:List Nd):parts (l++m)=parts l++parts m:=by
 induction l with
 |nil=>rfl
 |cons t ts ih=>simp only[List.cons_append,parts,ih,List.append_assoc]
theorem Zhg(l m:List Nd):arms (l++m)=arms l++arms m:=by
 induction l with
 |nil=>rfl
 |cons t ts ih=>simp only[List.cons_append,arms,ih,List.append_assoc]
theorem Zjg{l:List Nd}{k:Nat}(h:k<l.length):parts (l.take (k+1))=parts (l.take k)++l[k].part:=by
 rw[List.take_succ_eq_append_getElem h,ZfV];simp[parts]
theorem Zkm{l:List Nd}{k:Nat}(h:k<l.length):arms (l.take (k+1))=arms (l.take k)++l[k].arm:=by
 rw[List.take_succ_eq_append_getElem h,Zhg];simp[arms]
theorem At.new{b:Nat}(w:World)(cs:Array Value)(T:TypeId)(hb:b=w.heap.size):At (w.alloc (.cells cs T)) b 0 cs.toList:=by
 subst hb;intro j v hj;exact cell_at (heap_alloc_new w _) (by simpa using hj)
mutual
def Nd.norm:Nd→Nd
 | .nil=>.empty
 | .empty=>.empty
 | .one s=>.one s
 | .cat l=>.cat (Nd.norms l)
 | .alt l=>.alt (Nd.norms l)
 | .rep x a b=>.rep x.norm a b
 | .group n x=>.group n x.norm
 | .back n=>.back n
 | .start=>.start
 | .fin=>.fin
def Nd.norms:List Nd→List Nd
 |[]=>[]
 |t::ts=>t.norm::Nd.norms ts
end
def Nd.head:Nd→Nd→Bool
 | .one s,.one t=>decide (s=t)
 | .cat _,.cat _=>true
 | .alt _,.alt _=>true
 | .rep _ a b,.rep _ c d=>decide (a=c)&&decide (b=d)
 | .group n _,.group m _=>decide (n=m)
 | .back n,.back m=>decide (n=m)
 | .start,.start=>true
 | .fin,.fin=>true
 | .nil,.nil=>true
 | .nil,.empty=>true
 | .empty,.nil=>true
 | .empty,.empty=>true
 |_,_=>false
def Nd.isGroup:Nd→Bool
 | .group _ _=>true
 |_=>false
def Nd.isBack:Nd→Bool
 | .back _=>true
 |_=>false
mutual
def Nd.deep:Nd→Nat
 | .cat l=>Nd.deeps l
 | .alt l=>Nd.deeps l
 | .rep x _ _=>x.deep
 | .group _ x=>x.deep+1
 | .nil| .empty| .one _| .back _| .start| .fin=>0
def Nd.deeps:List Nd→Nat
 |[]=>0
 |t::ts=>max t.deep (Nd.deeps ts)
end
mutual
def Nd.groups:Nd→Nat
 | .cat l=>Nd.groupss l
 | .alt l=>Nd.groupss l
 | .rep x _ _=>x.groups
 | .group _ x=>x.groups+1
 | .nil| .empty| .one _| .back _| .start| .fin=>0
def Nd.groupss:List Nd→Nat
 |[]=>0
 |t::ts=>t.groups+Nd.groupss ts
end
mutual
def Nd.backs:Nd→Bool
 | .cat l=>Nd.backss l
 | .alt l=>Nd.backss l
 | .rep x _ _=>x.backs
 | .group _ x=>x.backs
 | .back _=>true
 | .nil| .empty| .one _| .start| .fin=>false
def Nd.backss:List Nd→Bool
 |[]=>false
 |t::ts=>t.backs||Nd.backss ts
end
theorem Nd.backss_eq(l:List Nd):Nd.backss l=l.any Nd.backs:=by
 induction l with
 |nil=>rfl
 |cons t ts ih=>simp only[Nd.backss,List.any_cons,ih]
theorem Nd.groups_kids(n:Nd):n.groups=Nd.groupss n.kids+(if n.isGroup=true then 1 else 0):=by
 cases n<;>simp[Nd.groups,Nd.kids,Nd.groupss,Nd.isGroup]
theorem Nd.backs_kids(n:Nd):n.backs=(n.isBack||Nd.backss n.kids):=by
 cases n<;>simp[Nd.backs,Nd.kids,Nd.backss,Nd.isBack]
theorem Nd.groupss_append(l m:List Nd):Nd.groupss (l++m)=Nd.groupss l+Nd.groupss m:=by
 induction l with
 |nil=>simp[Nd.groupss]
 |cons t ts ih=>simp only[List.cons_append,Nd.groupss,ih];omega
theorem Nd.groupss_take{l:List Nd}{k:Nat}(h:k<l.length):Nd.groupss (l.take (k+1))=Nd.groupss (l.take k)+l[k].groups:=by
 rw[List.take_succ_eq_append_getElem h,Nd.groupss_append];simp[Nd.groupss]
mutual
theorem Nd.groups_le:∀n:Nd,n.groups≤n.size
 | .cat l=>by have:=Nd.groupss_le l;simp only[Nd.groups,Nd.size];omega
 | .alt l=>by have:=Nd.groupss_le l;simp only[Nd.groups,Nd.size];omega
 | .rep x _ _=>by have:=Nd.groups_le x;simp only[Nd.groups,Nd.size];omega
 | .group _ x=>by have:=Nd.groups_le x;simp only[Nd.groups,Nd.size];omega
 | .nil| .empty| .one _| .back _| .start| .fin=>by simp[Nd.groups]
theorem Nd.groupss_le:∀l:List Nd,Nd.groupss l≤Nd.sizes l
 |[]=>by simp[Nd.groupss]
 |t::ts=>by have:=Nd.groups_le t;have:=Nd.groupss_le ts;simp only[Nd.groupss,Nd.sizes];omega
end
def LGS(S:Nat→Prop)(g:Option Nat):Nat→Prop:=fun k=>S k∨g=some k
def OwnNS(S:Nat→Prop)(w:World)(l:List Nd)(v:Value)(g:Option Nat):Prop:=∃vs,w.ownsRow 0 24 1 v l.length vs∧VN (LGS S g) w l vs∧v.ownBlock=g
theorem OwnNS.nil(S:Nat→Prop)(w:World):OwnNS S w [] (.slice none 0 0) none:=⟨[],World.ownsRow_nil _ _ _ _,rfl,rfl⟩
theorem OwnNS.on{S:Nat→Prop}{w w':World}{l:List Nd}{v:Value}{g:Option Nat}(h:OwnNS S w l v g)(f:Fr nob w w'):OwnNS S w' l v g:=by
 obtain⟨vs,h1,h2,h3⟩:=h;exact⟨vs,ownsRow_fr h1 f (fun _ _ x=>x),h2.keep f (fun _ _ x=>x.elim) (fun _ _ x=>x),h3⟩
theorem OwnNS.shape{S:Nat→Prop}{w:World}{l:List Nd}{v:Value}{g:Option Nat}(h:OwnNS S w l v g):∃a c,v=.slice a l.length c:=by
 obtain⟨vs,h1,h2,h3⟩:=h;exact Zb h1
theorem OwnNS.sn{S:Nat→Prop}{w:World}{l:List Nd}{v:Value}{g:Option Nat}(h:OwnNS S w l v g)(hg:∀k,g=some k→¬S k):SN S w l v:=by
 obtain⟨vs,h1,h2,h3⟩:=h;exact SN.of_own h1 (h2.keep (S':=S) (Fr.refl nob w) (fun _ _ x=>x.elim) (fun _ _ x=>.inl x)) (fun k hk=>hg k (by rw[←h3];exact hk))
theorem OwnNS.lt{S:Nat→Prop}{w:World}{l:List Nd}{v:Value}{g:Option Nat}(h:OwnNS S w l v g):∀k,g=some k→k<w.heap.size:=by
 intro k hk;obtain⟨vs,a,_,hg⟩:=h;rcases a.2 with⟨rfl,_⟩|⟨r,b,c,rfl,_,hr,_⟩
 ·rw[←hg]at hk;cases hk
 ·rw[←hg]at hk;injection hk with hk;subst hk;exact lt_heap hr
theorem OwnNS.blk{S:Nat→Prop}{w:World}{l:List Nd}{v:Value}{g:Option Nat}(h:OwnNS S w l v g):v.ownBlock=g:=by
 obtain⟨_,_,_,h⟩:=h;exact h
theorem Zbu{w:World}{ops:Array Oper}{rest:List Oper}{o:Oper}{a:Act}{Q:Exit→Act→World→Prop}{S:Nat→Prop}(hgd:o.guard=none)(s x:Operand)
 (ho:o.op=.call {callee:=.builtin .append,args:= #[s,x],argTypes:= #[73,73]})
 (l m:List Nd) (v ux:Value) (g:Option Nat) (hs:a.eval s=v) (hown:OwnNS S w l v g) (hx:a.eval x=ux) (hm:SN (LGS S g) w m ux) (hb:l.length+m.length≤3000000)
 (h:∀v' w' g',OwnNS S w' (l++m) v' g'→Fr (LG g) w w'→(∀k,g'=some k→g=some k∨w.heap.size≤k)→wpList Tryz.prog ops Q rest (a.put o.dst v') w'):wpList Tryz.prog ops Q (o::rest) a w:=by
 obtain⟨i0,hi,n,p,r⟩:=info_parts Zkl;obtain⟨vs,h1,h2,h3⟩:=hown;rcases hm with⟨rfl,rfl⟩|⟨q,off,f,rfl,_,hm⟩
 ·refine wpList_plain hgd fun K hK=> ?_;have hr:=run_append_owned_none (P:=Tryz.prog) (w:=w) 0 73 o.type 24 i0 1 Tryz.underlying73 hi v l.length vs h1;unfold Oper.wp execOp;simp only[ho,resolve,invoke,builtin,Sem.run_bind,Sem.run_pure,Result.andThen_ok,List.map_toArray,List.map_cons,List.map_nil,hs,hx,hr];exact hK _ _ (h v w g (by rw[List.append_nil];exact⟨vs,h1,h2,h3⟩) (Fr.refl _ _) (fun k hk=>.inl hk))
 ·obtain⟨us,hu,ha⟩:=RNs.vals hm;have t:=hu.length;refine wpList_append_g hgd s x _ ho 24 i0 .nilIface 1 16 Tryz.underlying73 hi n p r rfl (by decide) v l.length vs hs h1 ⟨q,off,none⟩ m.length f us hx (by omega) (fun j u hj=>by have:=ha j u hj;by_cases i:j=0<;>simpa[Addr.add,i]using this) hu.cell1 (by unfold maxLen;omega) (by omega) ?_;intro v' w' c d;have b:∀k,v'.ownBlock=some k→g=some k∨w.heap.size≤k:=fun k hk=>by
   rcases d.old k hk with h|h
   ·exact .inl (by rw[←h3,h])
   ·exact .inr h
  have e:Fr (LG g) w w':=d.fr.mono fun k _ hk=>by unfold LG;rw[←h3,hk]
  refine h v' w' v'.ownBlock ⟨vs++us,by simpa using c,(VN.append h2 hu).keep e (fun _ _ x=>.inr x) (fun k hk x=>x.elim .inl (fun y=>(b k y).elim .inr (fun z=>by omega))),rfl⟩ e b
theorem onlyS_any(S:Nat→Prop)(l:List Nd)(n:Nd)(u v:Value)(w:World)(hl:l.length≤3000000)(hu:SN S w l u)(hn:RN S w n v):
 Calls Tryz.prog 89 #[u,v] w fun e w'=>∃r,e=.returned r∧RN S w' (Zd3 l n) r∧w=w':=by
 have HN:=hid hn;clear hn
 match l,hu with
 |[],hu=>
  obtain⟨a,c,rfl⟩:=hu.shape;clear hu;go_enter Tryz.func89,Tryz.ntmps89;go_wp2;go_ret;exact⟨_,rfl,by unfold Zd3;rw[RN];rfl,rfl⟩
 |[x],hu=>
  obtain⟨q,off,b,y,he,hy,hc⟩:=hu.get (k:=0) (by simp);have d:u=.slice (some ⟨q,off,none⟩) 1 b:=he;have f:w.cell? ⟨q,off,none⟩=some y:=by simpa using hc
  have HY:=hid hy;clear hu hy he hc;subst d;go_enter Tryz.func89,Tryz.ntmps89;go_wp2;go_ret;exact⟨_,rfl,HY.out,rfl⟩
 |x::y::l,hu=>
  obtain⟨a,c,rfl⟩:=hu.shape;clear hu;have h2:¬(((x::y::l).length:Nat):Int)=0:=by simp;omega
  have h3:¬(((x::y::l).length:Nat):Int)=1:=by simp;omega
  obtain⟨k,hk⟩:∃k,(x::y::l).length=k:=⟨_,rfl⟩;rw[hk]at h2 h3 hl⊢;clear hk;go_enter Tryz.func89,Tryz.ntmps89;go_wp2;go_ret;exact⟨_,rfl,HN.out,rfl⟩
def Zaz(S:Nat→Prop)(w:World)(l:List Nd)(v:Value)(wr:World):Prop:=∃g,OwnNS S wr l v g∧Fr nob w wr∧∀k,g=some k→w.heap.size≤k
theorem Zaz.nil(S:Nat→Prop)(w:World):Zaz S w [] (.slice none 0 0) w:=⟨none,OwnNS.nil S w,Fr.refl _ _,fun _ h=>by cases h⟩
theorem Zaz.on{S:Nat→Prop}{w wr w':World}{l:List Nd}{v:Value}(h:Zaz S w l v wr)(f:Fr nob wr w'):Zaz S w l v w':=by
 obtain⟨g,h1,h2,h3⟩:=h;exact⟨g,h1.on f,h2.trans' f,h3⟩
theorem Zaz.shape{S:Nat→Prop}{w wr:World}{l:List Nd}{v:Value}(h:Zaz S w l v wr):∃a c,v=.slice a l.length c:=by
 obtain⟨g,h1,h2,h3⟩:=h;exact h1.shape
theorem Zaz.fr{S:Nat→Prop}{w wr:World}{l:List Nd}{v:Value}(h:Zaz S w l v wr):Fr nob w wr:=by
 obtain⟨g,h1,h2,h3⟩:=h;exact h2
theorem Zaz.sn{S:Nat→Prop}{w wr:World}{l:List Nd}{v:Value}(h:Zaz S w l v wr)(hS:∀k,S k→k<w.heap.size):SN S wr l v:=by
 obtain⟨g,h1,h2,h3⟩:=h;exact h1.sn (fun k hk x=>by have:=h3 k hk;have:=hS k x;omega)
theorem wpList_append_btS{S:Nat→Prop}{W w:World}{ops:Array Oper}{rest:List Oper}{o:Oper}{a:Act}{Q:Exit→Act→World→Prop}(hgd:o.guard=none)(s x:Operand)
 (ho:o.op=.call {callee:=.builtin .append,args:= #[s,x],argTypes:= #[73,73]})
 (l m:List Nd) (v ux:Value) (hs:a.eval s=v) (hown:Zaz S W l v w) (hx:a.eval x=ux)
 (hm:∀g,(∀k,g=some k→W.heap.size≤k)→OwnNS S w l v g→SN (LGS S g) w m ux) (hb:l.length+m.length≤3000000)
 (h:∀v' w',Zaz S W (l++m) v' w'→wpList Tryz.prog ops Q rest (a.put o.dst v') w'):wpList Tryz.prog ops Q (o::rest) a w:=by
 obtain⟨g,h1,h2,h3⟩:=hown;refine Zbu hgd s x ho l m v ux g hs h1 hx (hm g h3 h1) hb fun v' w' g' q1 q2 q3=>h v' w' ⟨g',q1,?_,?_⟩
 ·exact h2.trans q2 (fun i hi hg=>by have:=h3 i hg;omega)
 ·intro k hk;have:=h2.size;rcases q3 k hk with h|h
  ·exact h3 k h
  ·omega
theorem SN.behindS{S:Nat→Prop}{W w:World}{m:List Nd}{u:Value}{g:Option Nat}(h:SN S W m u)(f:Fr nob W w)(hg:∀k,g=some k→W.heap.size≤k):SN (LGS S g) w m u:=
 h.keep f (fun _ _ x=>x.elim) (fun k hk x=>x.elim id (fun x=>by have:=hg k x;omega))
theorem RN.behindS{S:Nat→Prop}{W w:World}{m:Nd}{u:Value}{g:Option Nat}(h:RN S W m u)(f:Fr nob W w)(hg:∀k,g=some k→W.heap.size≤k):RN (LGS S g) w m u:=
 RN.keep f (fun _ _ x=>x.elim) (fun k hk x=>x.elim id (fun x=>by have:=hg k x;omega)) _ _ h
theorem Zaz.lt{S:Nat→Prop}{w wr:World}{l:List Nd}{v:Value}(h:Zaz S w l v wr):∀k,v.ownBlock=some k→k<wr.heap.size:=by
 obtain⟨g,h1,h2,h3⟩:=h;intro k hk;rw[h1.blk]at hk;exact h1.lt k hk
theorem joinS_any(S:Nat→Prop)(l:List Nd)(u:Value)(w:World)(hS:∀k,S k→k<w.heap.size)(hl:Nd.sizes l≤3000000)(h:SN S w l u):
 Calls Tryz.prog 86 #[u] w fun e w'=>∃r,e=.returned r∧RN S w' (Za2 l) r∧Fr nob w w':=by
 obtain⟨a,c,rfl⟩:=h.shape;have H:=hid h;clear h;have M:=Nd.length_le l;have K:=hid (Nat.le_trans (Nd.length_le (parts l)) (ZcA l));go_enter Tryz.func86,Tryz.ntmps86;go_wp2_with fail
 go_loopw [3,11] (fun s i wr=>∃k:Nat,i=.int .i64 k∧k≤l.length∧Zaz S w (parts (l.take k)) s wr) (fun _ i _=>l.length-(intOf i).toNat)
 case atStart=>exact⟨0,rfl,Nat.zero_le _,Zaz.nil S w⟩
 case round=>
  obtain⟨k,rfl,hk,hB⟩:=hrel;obtain⟨av,cv,rfl⟩:=hB.shape;have HB:=hid hB;clear hB;by_cases C:k<l.length
  ·obtain⟨q,off,L,x,he,hx,hc⟩:=(H.out.on HB.out.fr).get C;obtain⟨_,_,_,x',B,F,D⟩:=H.out.get C;obtain rfl:x=x':=by
    rw[he]at B;injection B with e1 _ _;injection e1 with e1;injection e1 with e1 e2;subst e1;subst e2;have:=HB.out.fr.cell D (fun x=>x);rw[hc]at this;injection this
   clear B D;injection he with e1 e2 e3;subst e1;subst e3;have HX:=hid hx;have v:=hid F;clear hx F e2;have b:=hid (Zjg C);have E:=hid (Nat.le_trans (Nd.length_le (parts (l.take (k+1)))) (Nat.le_trans (ZcA _) (Nd.sizes_take_le l (k+1))));go_wp2_with fail;refine(told_any2 S l[k] x _ HX.out).mono ?_;rintro e w2 ⟨y,rfl,hy,d,rfl⟩;obtain⟨n,hn⟩:∃n,l[k]=n:=⟨_,rfl⟩;rw[hn]at hy HX v b;clear hn;have A:(n.part=[]∧y=.iface 180 (.agg #[]))∨(∃m a c,n.part=m∧y=.iface 75 (.agg #[.slice a m.length c])∧SN S w m (.slice a m.length c))∨(n.part=[n]∧∃i z,y=.iface i z∧i≠180∧i≠75∧x=y):=by
    have G:=hy.kind;have f:=v.out.kind;cases n with
    |nil=>exact .inl ⟨rfl,G⟩
    |empty=>exact .inl ⟨rfl,G⟩
    |cat m=>
     obtain⟨a',c',h2,h3⟩:=f;subst h2;rcases d with h|rfl
     ·cases h
     ·exact .inr (.inl ⟨m,a',c',rfl,rfl,h3⟩)
    |one s=>subst f;rcases d with h|rfl;cases h;exact .inr (.inr ⟨rfl,_,_,rfl,by decide,by decide,rfl⟩)
    |alt m=>obtain⟨a,c,h1,_⟩:=f;subst h1;rcases d with h|rfl;cases h;exact .inr (.inr ⟨rfl,_,_,rfl,by decide,by decide,rfl⟩)
    |rep z mn mx=>obtain⟨a,h1,_⟩:=f;subst h1;rcases d with h|rfl;cases h;exact .inr (.inr ⟨rfl,_,_,rfl,by decide,by decide,rfl⟩)
    |group q z=>obtain⟨a,h1,_⟩:=f;subst h1;rcases d with h|rfl;cases h;exact .inr (.inr ⟨rfl,_,_,rfl,by decide,by decide,rfl⟩)
    |back q=>subst f;rcases d with h|rfl;cases h;exact .inr (.inr ⟨rfl,_,_,rfl,by decide,by decide,rfl⟩)
    |start=>subst f;rcases d with h|rfl;cases h;exact .inr (.inr ⟨rfl,_,_,rfl,by decide,by decide,rfl⟩)
    |fin=>subst f;rcases d with h|rfl;cases h;exact .inr (.inr ⟨rfl,_,_,rfl,by decide,by decide,rfl⟩)
   clear hy d;rcases A with⟨hp,rfl⟩|⟨m,am,cm,hp,rfl,hm⟩|⟨hp,iy,z,rfl,n1,n2,rfl⟩
   ·rw[hp,List.append_nil]at b;clear hp;go_wp2;go_roundw
    case rel=>exact⟨k+1,by go_num,by omega,by rw[b.out];exact HB.out.on ((Fr.refl _ _).alloc _)⟩
    case measure=>simp[intOf];omega
   ·rw[hp]at b;have HM:=hid hm;clear hm hp;have p:(parts (l.take k)).length+m.length≤3000000:=by have h:=E.out;rw[b.out,List.length_append]at h;omega
    go_wp2_with(at_builtin;refine wpList_append_btS rfl (.tmp 27) (.tmp 29) rfl (parts (l.take k)) m _ _ (by rfl) (HB.out.on ((Fr.refl _ _).alloc _)) (by rfl) (fun g hg ho=>HM.out.behindS (HB.out.fr.trans' ((Fr.refl _ _).alloc _)) hg) p ?_;intro v' w3 j;obtain⟨I,J,o⟩:=j.shape;simp only[List.length_append]at o;subst o;have t:=hid j;clear j);go_roundw
    case rel=>exact⟨k+1,by go_num,by omega,by rw[b.out];exact t.out⟩
    case measure=>simp[intOf];omega
   ·rw[hp]at b;clear hp;have p:(parts (l.take k)).length+[n].length≤3000000:=by have h:=E.out;rw[b.out,List.length_append]at h;omega
    go_wp2_with(at_builtin;refine wpList_append_btS rfl (.tmp 17) (.tmp 19) rfl (parts (l.take k)) [n] _ _ (by rfl) (HB.out.on ((Fr.refl _ _).alloc _)) (by rfl) (fun g hg ho=>SN.one' (v.out.behindS (HB.out.fr) hg) (fun k hk=>hk.elim (fun x=>Nat.lt_of_lt_of_le (hS k x) HB.out.fr.size) (fun x=>HB.out.lt k (by rw[ho.blk];exact x))) _ rfl) p ?_;intro v' w3 j;obtain⟨I,J,o⟩:=j.shape;simp only[List.length_append,List.length_singleton]at o;subst o;have t:=hid j;clear j);go_roundw
    case rel=>exact⟨k+1,by go_num,by omega,by rw[b.out];exact t.out⟩
    case measure=>simp[intOf];omega
  ·obtain rfl:k=l.length:=by omega
   have hT:=hid (List.take_of_length_le (l:=l) (Nat.le_refl _));have hB:=HB.out;rw[hT.out]at hB;go_wp2_with fail;refine(onlyS_any S (parts l) (.cat (parts l)) _ _ _ (by have:=K.out;omega) (hB.sn hS) (ZjK.2 ⟨_,rfl,(hB.sn hS)⟩)).mono ?_;rintro e w2 ⟨r,rfl,hr,rfl⟩;have HR:=hid hr;clear hr;go_wp2;go_ret;exact⟨_,rfl,HR.out,HB.out.fr⟩
theorem Zd4(S:Nat→Prop)(l:List Nd)(u:Value)(w:World)(hS:∀k,S k→k<w.heap.size)(hl:Nd.sizes l≤3000000)(h:SN S w l u):
 Calls Tryz.prog 55 #[u] w fun e w'=>∃r,e=.returned r∧RN S w' (Za3 l) r∧Fr nob w w':=by
 obtain⟨a,c,rfl⟩:=h.shape;have H:=hid h;clear h;have O:=Nd.length_le l;have L:=hid (Nat.le_trans (Nd.length_le (arms l)) (Zdf l));go_enter Tryz.func55,Tryz.ntmps55;go_wp2_with fail
 go_loopw [3,10] (fun s i wr=>∃k:Nat,i=.int .i64 k∧k≤l.length∧Zaz S w (arms (l.take k)) s wr) (fun _ i _=>l.length-(intOf i).toNat)
 case atStart=>exact⟨0,rfl,Nat.zero_le _,Zaz.nil S w⟩
 case round=>
  obtain⟨k,rfl,hk,hB⟩:=hrel;obtain⟨av,cv,rfl⟩:=hB.shape;have HB:=hid hB;clear hB;by_cases B:k<l.length
  ·obtain⟨q,off,N,x,he,hx,hc⟩:=(H.out.on HB.out.fr).get B;obtain⟨_,_,_,x',A,E,C⟩:=H.out.get B;obtain rfl:x=x':=by
    rw[he]at A;injection A with e1 _ _;injection e1 with e1;injection e1 with e1 e2;subst e1;subst e2;have:=HB.out.fr.cell C (fun x=>x);rw[hc]at this;injection this
   clear A C;injection he with e1 e2 e3;subst e1;subst e3;have HX:=hid hx;have t:=hid E;clear hx E e2;have d:=hid (Zkm B);have D:=hid (Nat.le_trans (Nd.length_le (arms (l.take (k+1)))) (Nat.le_trans (Zdf _) (Nd.sizes_take_le l (k+1))));obtain⟨n,hn⟩:∃n,l[k]=n:=⟨_,rfl⟩;rw[hn]at HX t d;clear hn;have v:(∃m a c,n.arm=m∧x=.iface 86 (.agg #[.slice a m.length c])∧SN S w m (.slice a m.length c))∨(n.arm=[n.told]∧(x=.nilIface∨∃i z,x=.iface i z∧i≠86)):=by
    have f:=t.out.kind;cases n with
    |alt m=>
     obtain⟨a',c',h2,h3⟩:=f;exact .inl ⟨m,a',c',rfl,h2,h3⟩
    |nil=>exact .inr ⟨rfl,.inl f⟩
    |cat m=>obtain⟨a,c,h1,_⟩:=f;exact .inr ⟨rfl,.inr ⟨_,_,h1,by decide⟩⟩
    |rep z mn mx=>obtain⟨a,h1,_⟩:=f;exact .inr ⟨rfl,.inr ⟨_,_,h1,by decide⟩⟩
    |group q z=>obtain⟨a,h1,_⟩:=f;exact .inr ⟨rfl,.inr ⟨_,_,h1,by decide⟩⟩
    |_=>exact .inr ⟨rfl,.inr ⟨_,_,f,by decide⟩⟩
   rcases v with⟨m,am,cm,hp,rfl,hm⟩|⟨hp,hx⟩
   ·rw[hp]at d;have HM:=hid hm;clear hm hp;have o:(arms (l.take k)).length+m.length≤3000000:=by have h:=D.out;rw[d.out,List.length_append]at h;omega
    go_wp2_with(at_builtin;refine wpList_append_btS rfl (.tmp 20) (.tmp 22) rfl (arms (l.take k)) m _ _ (by rfl) (HB.out.on ((Fr.refl _ _).alloc _)) (by rfl) (fun g hg ho=>HM.out.behindS (HB.out.fr.trans' ((Fr.refl _ _).alloc _)) hg) o ?_;intro v' w3 b;obtain⟨I,J,j⟩:=b.shape;simp only[List.length_append]at j;subst j;have p:=hid b;clear b);go_roundw
    case rel=>exact⟨k+1,by go_num,by omega,by rw[d.out];exact p.out⟩
    case measure=>simp[intOf];omega
   ·rw[hp]at d;clear hp;have o:(arms (l.take k)).length+[n.told].length≤3000000:=by have h:=D.out;rw[d.out,List.length_append]at h;omega
    obtain⟨g0,o0,f0,l0⟩:=HB.out;have G:=hid (t.out.behindS f0 l0);have K:=o0.blk;have M:=hid l0;have F0:=hid f0;have O0:=hid o0;clear l0 f0 o0;rcases hx with rfl|⟨ix,zx,rfl,P⟩
    all_goals
     go_wp2_with fail;refine(told_any (LGS S g0) n _ _ (G.out.on ((Fr.refl _ _).alloc _))).mono ?_;rintro e w2 ⟨y,rfl,hy,rfl⟩;have HY:=hid hy;have F:=hy.shape;clear hy;rcases F with rfl|⟨iy,zy,rfl⟩
     all_goals
      go_wp2_with(at_builtin;refine wpList_append_btS rfl (.tmp 24) (.tmp 27) rfl (arms (l.take k)) [n.told] _ _ (by rfl) (HB.out.on (((Fr.refl _ _).alloc _).alloc _)) (by rfl) (fun g hg ho=>by have e:=K.symm.trans ho.blk;subst e;exact SN.one' HY.out (fun k hk=>hk.elim (fun x=>by have:=hS k x;have:=F0.out.size;simp;omega) (fun x=>by have:=O0.out.lt k x;simp;omega)) _ (by simp)) o ?_;intro v' w3 b;obtain⟨I,J,j⟩:=b.shape;simp only[List.length_append,List.length_singleton]at j;subst j;have p:=hid b;clear b);go_roundw
      case rel=>exact⟨k+1,by go_num,by omega,by rw[d.out];exact p.out⟩
      case measure=>simp[intOf];omega
  ·obtain rfl:k=l.length:=by omega
   have hT:=hid (List.take_of_length_le (l:=l) (Nat.le_refl _));have hB:=HB.out;rw[hT.out]at hB;go_wp2_with fail;refine(onlyS_any S (arms l) (.alt (arms l)) _ _ _ (by have:=L.out;omega) (hB.sn hS) (ZjL.2 ⟨_,rfl,(hB.sn hS)⟩)).mono ?_;rintro e w2 ⟨r,rfl,hr,rfl⟩;have HR:=hid hr;clear hr;go_wp2;go_ret;exact⟨_,rfl,HR.out,HB.out.fr⟩
end Go.Proofs.YtgllcniibbaoaaaGreatDoor
