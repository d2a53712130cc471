/- Lemmas of this claim. -/
import Derived.Outline
import Derived.Defers
import Derived.Recover
import Derived.Laws.Pointers
import Derived.Deep.DrawnRows
import Derived.Test.YtgllcniibbaoaaaGreatDoorJ02
import Derived.Test.YtgllcniibbaoaaaGreatDoorJ04
set_option linter.all false
set_option maxRecDepth 100000
set_option maxHeartbeats 24000000
namespace Go.Proofs.YtgllcniibbaoaaaGreatDoor
open Go.Proofs.Tryz
section
open Go.Lib (hid)
open Go.RowKit
theorem RN.miss{S:Nat→Prop}{w:World}{n:Nd}{v:Value}{i0:TypeId}(h:RN S w n v)(hn:n.ty≠some i0):v=.nilIface∨∃i x,v=.iface i x∧i≠i0:=by
 rcases h.tyv with⟨_,rfl⟩|⟨i,x,ht,rfl⟩
 ·exact .inl rfl
 ·exact .inr ⟨i,x,rfl,fun e=>hn (by rw[ht,e])⟩
theorem Zkn(a b:Nd):a.told.head b=a.head b:=by cases a<;>cases b<;>rfl
theorem head_any(a b:Nd)(va vb:Value)(w:World)(ha:RN nob w a va)(hb:RN nob w b vb):
 Calls prog 77 #[va,vb] w fun e w'=>e=.returned (.bool (a.head b))∧Fr nob w w':=by
 rw[←Zkn];have HB:=hid hb;clear hb;have HA:=hid ha;clear ha;obtain⟨c,hc⟩:∃c,a.told=c:=⟨_,rfl⟩;have g:c≠.nil:=by rw[←hc];cases a<;>simp[Nd.told]
 rw[hc];have HC:=hid hc;clear hc;go_enter func77,ntmps77;go_wp2_with fail;refine(told_any nob a va w HA.out).mono ?_;rintro e w1 ⟨u,rfl,hu,rfl⟩;rw[HC.out]at hu;clear HA HC;have hk:=hu.kind;clear hu;cases c with
 |nil=>exact(g rfl).elim
 |cat l=>
  clear g;obtain⟨q,cp,rfl,_⟩:=hk;by_cases hh:b.ty=some 75
  ·cases b<;>simp[Nd.ty]at hh
   obtain⟨qb,cb,rfl,_⟩:=HB.out.kind;go_wp2;go_ret;exact⟨rfl,((Fr.refl _ _).alloc _).alloc _⟩
  ·have hr:Nd.head (.cat l) b=false:=by cases b<;>first|rfl|(simp[Nd.ty]at hh)
   have d:=hid hr;rcases HB.out.miss hh with rfl|⟨i,x,rfl,hi⟩
   all_goals
    clear hr hh;go_wp2;go_ret;exact⟨ret_bool d.out.symm,((Fr.refl _ _).alloc _).alloc _⟩
 |one s=>
  clear g;obtain rfl:=hk;rw[S4.cells_eq];by_cases hh:b.ty=some 134
  ·obtain⟨t,rfl⟩:∃t,b=.one t:=by cases b<;>simp[Nd.ty]at hh⊢
   obtain rfl:=HB.out.kind;rw[S4.cells_eq];clear hh;obtain⟨a1,b1,c1,d1⟩:=s;obtain⟨a2,b2,c2,d2⟩:=t;have hr:Nd.head (.one ⟨a1,b1,c1,d1⟩) (.one ⟨a2,b2,c2,d2⟩)=S4.same ⟨a1,b1,c1,d1⟩ ⟨a2,b2,c2,d2⟩:=rfl;have d:=hid hr;clear hr;cases hp:S4.same ⟨a1,b1,c1,d1⟩ ⟨a2,b2,c2,d2⟩
   all_goals
    have p:=hid hp;go_wp2;go_ret;exact⟨ret_bool (d.out.trans p.out).symm,((Fr.refl _ _).alloc _).alloc _⟩
  ·have hr:Nd.head (.one s) b=false:=by cases b<;>first|rfl|(simp[Nd.ty]at hh)
   have d:=hid hr;rcases HB.out.miss hh with rfl|⟨i,x,rfl,hi⟩
   all_goals
    clear hr hh;go_wp2;go_ret;exact⟨ret_bool d.out.symm,((Fr.refl _ _).alloc _).alloc _⟩
 |alt l=>
  clear g;obtain⟨q,cp,rfl,_⟩:=hk;have hr:Nd.head (.alt l) b=b.isAlt:=by cases b<;>rfl
  have d:=hid hr;clear hr;go_wp2_with fail;refine(alt_any nob b vb _ (HB.out.on ((Fr.refl _ _).alloc _))).mono ?_;rintro e w2 ⟨rfl,f2⟩;go_wp2;go_ret;exact⟨ret_bool d.out.symm,((Fr.refl _ _).alloc _).trans' f2⟩
 |rep y mn mx=>
  clear g;obtain⟨uy,rfl,hy⟩:=hk;have f:=hy.shape;clear hy;by_cases hh:b.ty=some 137
  ·obtain⟨z,j,k,rfl⟩:∃z j k,b=.rep z j k:=by cases b<;>simp[Nd.ty]at hh⊢
   obtain⟨uz,rfl,hz⟩:=HB.out.kind;have h:=hz.shape;clear hz hh HB;have hr:Nd.head (.rep y mn mx) (.rep z j k)=(decide (mn=j)&&decide (mx=k)):=rfl;have d:=hid hr;clear hr;by_cases h1:mn=j
   ·subst h1;by_cases h2:mx=k
    ·subst h2;rcases f with rfl|⟨iy,xy,rfl⟩<;>rcases h with rfl|⟨iz,xz,rfl⟩
     all_goals
      go_wp2;go_ret;exact⟨ret_bool (by first|(rw[d.out];done)|(rw[d.out];simp;done)|(rw[d.out];simp[*];done)),((Fr.refl _ _).alloc _).alloc _⟩
    ·have h3:(mx==k)=false:=by simpa using h2
     rcases f with rfl|⟨iy,xy,rfl⟩<;>rcases h with rfl|⟨iz,xz,rfl⟩
     all_goals
      go_wp2;go_ret;exact⟨ret_bool (by first|(rw[d.out];done)|(rw[d.out];simp;done)|(rw[d.out];simp[*];done)),((Fr.refl _ _).alloc _).alloc _⟩
   ·have h3:(mn==j)=false:=by simpa using h1
    rcases f with rfl|⟨iy,xy,rfl⟩<;>rcases h with rfl|⟨iz,xz,rfl⟩
    all_goals
     go_wp2;go_ret;exact⟨ret_bool (by first|(rw[d.out];done)|(rw[d.out];simp;done)|(rw[d.out];simp[*];done)),((Fr.refl _ _).alloc _).alloc _⟩
  ·have hr:Nd.head (.rep y mn mx) b=false:=by cases b<;>first|rfl|(simp[Nd.ty]at hh)
   have d:=hid hr;rcases HB.out.miss hh with rfl|⟨i,x,rfl,hi⟩<;>rcases f with rfl|⟨iy,xy,rfl⟩
   all_goals
    clear hr hh;go_wp2;go_ret;exact⟨ret_bool d.out.symm,((Fr.refl _ _).alloc _).alloc _⟩
 |group n y=>
  clear g;obtain⟨uy,rfl,hy⟩:=hk;have f:=hy.shape;clear hy;by_cases hh:b.ty=some 127
  ·obtain⟨m,z,rfl⟩:∃m z,b=.group m z:=by cases b<;>simp[Nd.ty]at hh⊢
   obtain⟨uz,rfl,hz⟩:=HB.out.kind;have h:=hz.shape;clear hz hh HB;have hr:Nd.head (.group n y) (.group m z)=decide (n=m):=rfl;by_cases h1:n=m
   ·subst h1;have d:=hid (show Nd.head (.group n y) (.group n z)=true by rw[hr];simp);clear hr;rcases f with rfl|⟨iy,xy,rfl⟩<;>rcases h with rfl|⟨iz,xz,rfl⟩
    all_goals
     go_wp2;go_ret;exact⟨ret_bool (by rw[d.out]),((Fr.refl _ _).alloc _).alloc _⟩
   ·have d:=hid (show Nd.head (.group n y) (.group m z)=false by rw[hr];simp[h1]);clear hr;have h2:(n==m)=false:=by simpa using h1
    rcases f with rfl|⟨iy,xy,rfl⟩<;>rcases h with rfl|⟨iz,xz,rfl⟩
    all_goals
     go_wp2;go_ret;exact⟨ret_bool (by rw[d.out]),((Fr.refl _ _).alloc _).alloc _⟩
  ·have hr:Nd.head (.group n y) b=false:=by cases b<;>first|rfl|(simp[Nd.ty]at hh)
   have d:=hid hr;rcases HB.out.miss hh with rfl|⟨i,x,rfl,hi⟩<;>rcases f with rfl|⟨iy,xy,rfl⟩
   all_goals
    clear hr hh;go_wp2;go_ret;exact⟨ret_bool d.out.symm,((Fr.refl _ _).alloc _).alloc _⟩
 |back n=>
  clear g;obtain rfl:=hk;by_cases hh:b.ty=some 116
  ·obtain⟨m,rfl⟩:∃m,b=.back m:=by cases b<;>simp[Nd.ty]at hh⊢
   obtain rfl:=HB.out.kind;clear hh HB;have hr:Nd.head (.back n) (.back m)=decide (n=m):=rfl;have d:=hid hr;clear hr;by_cases h1:n=m
   ·subst h1;go_wp2;go_ret;exact⟨ret_bool (by rw[d.out];simp),((Fr.refl _ _).alloc _).alloc _⟩
   ·have h2:(n==m)=false:=by simpa using h1
    go_wp2;go_ret;exact⟨ret_bool (by rw[d.out];simp[h1]),((Fr.refl _ _).alloc _).alloc _⟩
  ·have hr:Nd.head (.back n) b=false:=by cases b<;>first|rfl|(simp[Nd.ty]at hh)
   have d:=hid hr;rcases HB.out.miss hh with rfl|⟨i,x,rfl,hi⟩
   all_goals
    clear hr hh;go_wp2;go_ret;exact⟨ret_bool d.out.symm,((Fr.refl _ _).alloc _).alloc _⟩
 |start=>
  clear g;obtain rfl:=hk;by_cases hh:b.ty=some 139
  ·cases b<;>simp[Nd.ty]at hh
   obtain rfl:=HB.out.kind;go_wp2;go_ret;exact⟨rfl,((Fr.refl _ _).alloc _).alloc _⟩
  ·have hr:Nd.head .start b=false:=by cases b<;>first|rfl|(simp[Nd.ty]at hh)
   have d:=hid hr;rcases HB.out.miss hh with rfl|⟨i,x,rfl,hi⟩
   all_goals
    clear hr hh;go_wp2;go_ret;exact⟨ret_bool d.out.symm,((Fr.refl _ _).alloc _).alloc _⟩
 |fin=>
  clear g;obtain rfl:=hk;by_cases hh:b.ty=some 140
  ·cases b<;>simp[Nd.ty]at hh
   obtain rfl:=HB.out.kind;go_wp2;go_ret;exact⟨rfl,((Fr.refl _ _).alloc _).alloc _⟩
  ·have hr:Nd.head .fin b=false:=by cases b<;>first|rfl|(simp[Nd.ty]at hh)
   have d:=hid hr;rcases HB.out.miss hh with rfl|⟨i,x,rfl,hi⟩
   all_goals
    clear hr hh;go_wp2;go_ret;exact⟨ret_bool d.out.symm,((Fr.refl _ _).alloc _).alloc _⟩
 |empty=>
  clear g;obtain rfl:=hk;go_wp2_with fail;refine(told_any nob b vb _ HB.out).mono ?_;rintro e w2 ⟨ub,rfl,o,rfl⟩;by_cases hh:b.told.ty=some 180
  ·have hr:Nd.head .empty b=true:=by cases b<;>simp[Nd.ty,Nd.told]at hh<;>rfl
   have d:=hid hr;rcases o.tyv with⟨ht,rfl⟩|⟨i,x,ht,rfl⟩
   ·rw[ht]at hh;cases hh
   ·rw[ht]at hh;injection hh with hh;subst hh;have hx:x=.agg #[]:=by
     have:=o.kind;cases b<;>simp[Nd.ty,Nd.told]at ht<;>(simp[Nd.told,Znh]at this;exact this)
    subst hx;clear hr ht o;go_wp2;go_ret;exact⟨ret_bool d.out.symm,(Fr.refl _ _).alloc _⟩
  ·have hr:Nd.head .empty b=false:=by cases b<;>first|rfl|(simp[Nd.ty,Nd.told]at hh)
   have d:=hid hr;rcases o.miss hh with rfl|⟨i,x,rfl,hi⟩
   all_goals
    clear hr hh o;go_wp2;go_ret;exact⟨ret_bool d.out.symm,(Fr.refl _ _).alloc _⟩
def Zif(a b:Nd)(w:World)(e:Ending)(w':World):Prop:=∃r:Bool,e=.returned (.bool r)∧(r=true↔a.norm=b.norm)∧Fr nob w w'
theorem Nd.norms_take{l:List Nd}{k:Nat}(h:k<l.length):Nd.norms (l.take (k+1))=Nd.norms (l.take k)++[l[k].norm]:=by
 simp only[Nd.norms_eq];rw[List.take_succ_eq_append_getElem h,List.map_append];rfl
theorem Nd.norms_at{l m:List Nd}(h:Nd.norms l=Nd.norms m){k:Nat}(h1:k<l.length)(h2:k<m.length):l[k].norm=m[k].norm:=by
 have e:=congrArg (fun x=>x[k]?) h;simp only[Nd.norms_eq,List.getElem?_map,List.getElem?_eq_getElem h1,List.getElem?_eq_getElem h2,Option.map_some,Option.some.injEq]at e;exact e
theorem Nd.norms_len{l m:List Nd}(h:Nd.norms l=Nd.norms m):l.length=m.length:=by
 have e:=congrArg List.length h;simpa only[Nd.norms_eq,List.length_map]using e
theorem equalFunc_any(l m:List Nd)(u v:Value)(w:World)(hl:l.length≤3000000)(hm:m.length≤3000000)
 (hc:∀x∈l,∀(y:Nd) (vx vy:Value) (w:World),y∈m→RN nob w x vx→RN nob w y vy→Calls prog 49 #[vx,vy] w (Zif x y w)) (hu:SN nob w l u) (hv:SN nob w m v):
 Calls prog 78 #[u,v,.func (.func 49) #[] #[]] w fun e w'=>∃r:Bool,e=.returned (.bool r)∧(r=true↔Nd.norms l=Nd.norms m)∧Fr nob w w':=by
 obtain⟨a,c,rfl⟩:=hu.shape;obtain⟨a',c',rfl⟩:=hv.shape;have HU:=hid hu;have HV:=hid hv;have HC:=hid hc;clear hu hv hc;by_cases b:l.length=m.length
 ·have h1:((l.length:Int) !=(m.length:Int))=false:=by rw[b];simp
  have d:=hid b;obtain⟨n,hn⟩:∃n,m.length=n:=⟨_,rfl⟩;rw[b,hn]at hl⊢;rw[hn]at hm;have HN:=hid hn;clear b hn h1;go_enter func78,ntmps78;go_wp2_with fail
  go_loopw [17] (fun i wr=>∃k:Nat,i=.int .i64 k∧k≤n∧Nd.norms (l.take k)=Nd.norms (m.take k)∧Fr nob w wr) (fun i _=>n-(intOf i).toNat)
  case atStart=>exact⟨0,rfl,Nat.zero_le _,rfl,Fr.refl _ _⟩
  case round=>
   obtain⟨k,rfl,hk,hq,fr⟩:=hrel;have HQ:=hid hq;have FR:=hid fr;clear hq fr;by_cases B:k<n
   ·have k1:k<l.length:=by have:=HN.out;have:=d.out;omega
    have k2:k<m.length:=by have:=HN.out;omega
    obtain⟨g,off,t,x,he,hx,z⟩:=(HU.out.on FR.out).get k1;obtain⟨g',s,q,y,j,hy,A⟩:=(HV.out.on FR.out).get k2;rw[d.out,HN.out]at he;rw[HN.out]at j;injection he with e1 e2 e3;injection j with e1' e2' e3';subst e1 e3 e1' e3';have K1:=hid k1;have K2:=hid k2;have HX:=hid hx;have HY:=hid hy;clear hx hy e2 e2';go_wp2_with fail;refine(HC.out _ (List.getElem_mem K1.out) _ _ _ _ (List.getElem_mem K2.out) HX.out HY.out).mono ?_;rintro e w2 ⟨r,rfl,hr,f2⟩;have F2:=hid f2;have HR:=hid hr;clear f2 hr;cases r with
    |true=>
     have o:Nd.norms (l.take (k+1))=Nd.norms (m.take (k+1)):=by
      rw[Nd.norms_take K1.out,Nd.norms_take K2.out,HQ.out,HR.out.1 rfl]
     have p:=hid o;clear o;go_wp2;go_roundw
     case rel=>exact⟨k+1,by go_num,by omega,p.out,FR.out.trans' F2.out⟩
     case measure=>simp[intOf];omega
    |false=>
     go_wp2;go_ret;exact⟨false,rfl,⟨fun h=>(nomatch h),fun h=>HR.out.2 (Nd.norms_at h K1.out K2.out)⟩,FR.out.trans' F2.out⟩
   ·obtain rfl:k=n:=by omega
    go_wp2;go_ret;refine⟨true,rfl,⟨fun _=> ?_,fun _=>rfl⟩,FR.out⟩;have:=HQ.out;rwa[List.take_of_length_le (by have:=HN.out;have:=d.out;omega),List.take_of_length_le (by have:=HN.out;omega)]at this
 ·have h1:(((l.length:Nat):Int) !=((m.length:Nat):Int))=true:=by simp;omega
  have d:=hid b;obtain⟨n,hn⟩:∃n,m.length=n:=⟨_,rfl⟩;obtain⟨n',f⟩:∃n,l.length=n:=⟨_,rfl⟩;rw[hn,f]at h1;rw[hn]at hm⊢;rw[f]at hl⊢;have h2:¬(n':Int)=n:=by simpa using h1
  clear b hn f;go_enter func78,ntmps78;go_wp2_with fail;go_ret;exact⟨false,rfl,⟨fun h=>(nomatch h),fun h=>(d.out (Nd.norms_len h)).elim⟩,Fr.refl _ _⟩
theorem Zig(m:Nat):∀(a b:Nd) (va vb:Value) (w:World),a.size≤m→a.size≤3000000→b.size≤3000000→RN nob w a va→RN nob w b vb→
 Calls prog 49 #[va,vb] w (Zif a b w):=by
 induction m with
 |zero=>intro a b va vb w h;have:=a.size_pos;omega
 |succ m ih=>
  intro a b va vb w hm ha hb k l;have IH:=hid ih;clear ih;have HA:=hid k;have HB:=hid l;clear k l;have n:=hid a.size_kids;have o:=hid b.size_kids;have i:=Nd.length_le a.kids;have j:=Nd.length_le b.kids;have f:a.kids.length≤3000000:=by have:=n.out;omega
  have g:b.kids.length≤3000000:=by have:=o.out;omega
  have t:=hid (fun y (hy:y∈b.kids)=>(Nat.le_trans (Nat.le_of_lt (Nd.kid_lt hy)) hb:y.size≤3000000));have s:=hid (fun y (hy:y∈a.kids)=>(Nat.le_of_lt_succ (Nat.lt_of_lt_of_le (Nd.kid_lt hy) hm):y.size≤m));have d:=hid (fun y (hy:y∈a.kids)=>(Nat.le_trans (Nat.le_of_lt (Nd.kid_lt hy)) ha:y.size≤3000000));clear i j;have c:=hid (Nd.same_iff a b);obtain⟨p,hp⟩:∃p,a.head b=p:=⟨_,rfl⟩;have HP:=hid hp;clear hp;go_enter func49,ntmps49;go_wp2_with fail;refine(head_any a b va vb w HA.out HB.out).mono ?_;rw[HP.out];rintro e w1 ⟨rfl,f1⟩;have F1:=hid f1;clear f1;cases p with
  |false=>
   go_wp2;go_ret;exact⟨false,rfl,⟨fun h=>(nomatch h),fun h=>by have h1:=(c.out.1 h).1;rw[HP.out]at h1;exact h1⟩,F1.out⟩
  |true=>
   go_wp2_with fail;refine(kids_any nob a va w1 (HA.out.on F1.out) (fun _ x=>x.elim)).mono ?_;rintro e w2 ⟨u,rfl,s2,f2⟩;obtain⟨q,cq,rfl⟩:=s2.shape;have F2:=hid f2;have S2:=hid s2;clear f2 s2;go_wp2_with fail;refine(kids_any nob b vb w2 (HB.out.on (F1.out.trans' F2.out)) (fun _ x=>x.elim)).mono ?_;rintro e w3 ⟨u',rfl,s3,f3⟩;obtain⟨q',v,rfl⟩:=s3.shape;have F3:=hid f3;have S3:=hid s3;clear f3 s3;go_wp2_with fail;refine(equalFunc_any a.kids b.kids _ _ w3 f g (fun x hx y vx vy wq hy hvx hvy=>IH.out x y vx vy wq (s.out x hx) (d.out x hx) (t.out y hy) hvx hvy) (S2.out.on F3.out) S3.out).mono ?_;rintro e w4 ⟨r,rfl,hr,f4⟩;have F4:=hid f4;have HR:=hid hr;clear f4 hr;go_wp2;go_ret;exact⟨r,rfl,⟨fun h=>c.out.2 ⟨HP.out,HR.out.1 h⟩,fun h=>HR.out.2 (c.out.1 h).2⟩,F1.out.trans' (F2.out.trans' (F3.out.trans' F4.out))⟩
theorem Zfe{P:Program}{x a:TypeId}{fs:Array Field}(h:P.underlying a=some (.struct fs))(v:Value)(w:World):
 (Instr.typeAssert (.iface a v) x a false).run P w=.ok v w:=by
 simp[Instr.typeAssert,run_underlying h]
theorem ZfW(fn:Fn)(first cap:Array Value)(w:World):(Instr.makeFunc fn first cap).run prog w=.ok (.func fn first cap) w:=rfl
def Nd.kd:Nd→Int
 | .nil=>0
 | .empty=>0
 | .one _=>1
 | .cat _=>2
 | .alt _=>3
 | .rep _ _ _=>4
 | .group _ _=>5
 | .back _=>6
 | .start=>7
 | .fin=>8
theorem T.known_kd{k:Int}{s:S4}{ps:List T}{mn mx nu:Int}(h:(T.mk k s ps mn mx nu).known=true):(k=0∨k=1∨k=2∨k=3∨k=4∨k=5∨k=6∨k=7∨k=8)∧T.knowns ps=true:=by
 simp only[T.known,Bool.and_eq_true,Bool.not_eq_true',Bool.or_eq_false_iff,decide_eq_false_iff_not]at h;exact⟨by omega,h.2⟩
theorem T.kd_nd{k:Int}{s:S4}{ps:List T}{mn mx nu:Int}(h:(T.mk k s ps mn mx nu).known=true):(T.mk k s ps mn mx nu).nd.kd=k:=by
 rcases(T.known_kd h).1 with rfl|rfl|rfl|rfl|rfl|rfl|rfl|rfl|rfl<;>simp[T.nd,Nd.kd]
theorem T.known_kids{t:T}(h:t.known=true):∀x∈t.kids,x.known=true:=by
 obtain⟨k,s,ps,mn,mx,nu⟩:=t;have hp:=(T.known_kd h).2;intro x hx;unfold T.kids at hx;split at hx
 ·exact T.knowns_mem hp hx
 ·split at hx
  ·simp only[List.mem_singleton]at hx;subst hx;cases ps with
   |nil=>rfl
   |cons y r=>exact T.knowns_mem hp (by simp[T.of,T.parts])
  ·cases hx
def Zyo(k:Int)(s:S4)(mn mx nu:Int)(s':S4)(mn' mx' nu':Int):Prop:=
 (k=1→s=s')∧(k=4→mn=mn'∧mx=mx')∧(k=5∨k=6→nu=nu')
theorem T.same_iff{k:Int}{s:S4}{ps:List T}{mn mx nu:Int}{s':S4}{ps':List T}{mn' mx' nu':Int}(h:(T.mk k s ps mn mx nu).known=true):
 (T.mk k s ps mn mx nu).nd=(T.mk k s' ps' mn' mx' nu').nd↔Zyo k s mn mx nu s' mn' mx' nu'∧(T.mk k s ps mn mx nu).nd.kids=(T.mk k s' ps' mn' mx' nu').nd.kids:=by
 rcases(T.known_kd h).1 with rfl|rfl|rfl|rfl|rfl|rfl|rfl|rfl|rfl<;>simp[T.nd,Zyo,Nd.kids]
 ·constructor
  ·rintro⟨a,b,c⟩;exact⟨⟨b,c⟩,a⟩
  ·rintro⟨⟨b,c⟩,a⟩;exact⟨a,b,c⟩
theorem T.same_kd{t t':T}(h:t.known=true)(h':t'.known=true)(e:t.nd=t'.nd):t.kind=t'.kind:=by
 obtain⟨k,s,ps,mn,mx,nu⟩:=t;obtain⟨k',s',d,a,b,c⟩:=t';have:=congrArg Nd.kd e;rwa[T.kd_nd h,T.kd_nd h']at this
abbrev C9(w:World)(b:Nat)(v0 v1 v2 v3 v4 v5 v6 v7 v8:Value):Prop:=
 w.cell? ⟨b,0,none⟩=some v0∧w.cell? ⟨b,1,none⟩=some v1∧w.cell? ⟨b,2,none⟩=some v2∧w.cell? ⟨b,3,none⟩=some v3∧w.cell? ⟨b,4,none⟩=some v4∧w.cell? ⟨b,5,none⟩=some v5∧w.cell? ⟨b,6,none⟩=some v6∧w.cell? ⟨b,7,none⟩=some v7∧w.cell? ⟨b,8,none⟩=some v8
theorem C9.on{w w':World}{b:Nat}{v0 v1 v2 v3 v4 v5 v6 v7 v8:Value}(h:C9 w b v0 v1 v2 v3 v4 v5 v6 v7 v8)(f:Fr nob w w'):C9 w' b v0 v1 v2 v3 v4 v5 v6 v7 v8:=by
 obtain⟨h0,h1,h2,h3,h4,h5,h6,h7,h8⟩:=h;exact⟨f.cell h0 (fun x=>x),f.cell h1 (fun x=>x),f.cell h2 (fun x=>x),f.cell h3 (fun x=>x),f.cell h4 (fun x=>x),f.cell h5 (fun x=>x),f.cell h6 (fun x=>x),f.cell h7 (fun x=>x),f.cell h8 (fun x=>x)⟩
theorem C9.of{w:World}{b:Nat}{v0 v1 v2 v3 v4 v5 v6 v7 v8:Value}{T:TypeId}{fr:Nat×Nat}(h:w.heap[b]? =some (.cells #[v0,v1,v2,v3,v4,v5,v6,v7,v8] T fr)):C9 w b v0 v1 v2 v3 v4 v5 v6 v7 v8:=
 ⟨cell_at h rfl,cell_at h rfl,cell_at h rfl,cell_at h rfl,cell_at h rfl,cell_at h rfl,cell_at h rfl,cell_at h rfl,cell_at h rfl⟩
theorem C9.two{w w':World}{b:Nat}{v0 v1 v2 v3 v4 v5 v6 v7 v8:Value}{c:Nat}{u0 u1 u2 u3 u4 u5 u6 u7 u8:Value}(h:C9 w b v0 v1 v2 v3 v4 v5 v6 v7 v8∧C9 w c u0 u1 u2 u3 u4 u5 u6 u7 u8)(f:Fr nob w w'):
 C9 w' b v0 v1 v2 v3 v4 v5 v6 v7 v8∧C9 w' c u0 u1 u2 u3 u4 u5 u6 u7 u8:=⟨C9.on h.1 f,C9.on h.2 f⟩
def ZAU(a b:T)(w:World)(e:Ending)(w':World):Prop:=∃r:Bool,e=.returned (.bool r)∧(r=true↔a.nd=b.nd)∧Fr nob w w'
abbrev ZAV(w:World)(X Y:List Value):World:=(w.alloc (.cells X.toArray 36)).alloc (.cells Y.toArray 36)
theorem Zyk(w:World)(X Y:List Value):Fr nob w (ZAV w X Y):=((Fr.refl _ _).alloc _).alloc _
theorem ZAB(w:World)(X Y:List Value):(ZAV w X Y).heap[w.heap.size]? =some (.cells X.toArray 36 (0,0)):=heap_alloc_lt _ (heap_alloc_new _ _)
theorem ZAC(w:World)(X Y:List Value):(ZAV w X Y).heap[w.heap.size+1]? =some (.cells Y.toArray 36 (0,0)):=by
 have:=heap_alloc_new (w.alloc (.cells X.toArray 36)) (.cells Y.toArray 36);simpa using this
theorem ZAD(m:Nat):∀(a b:T) (ca cb:List Value) (w:World),a.nd.size≤m→a.nd.size≤3000000→b.nd.size≤3000000→a.known=true→b.known=true→RT nob w a ca→RT nob w b cb→
 Calls prog 38 #[.agg ca.toArray,.agg cb.toArray] w (ZAU a b w):=by
 induction m with
 |zero=>intro a b ca cb w h;have:=a.nd.size_pos;omega
 |succ m ih=>
  intro a b ca cb w hm e0 e4 S U ha hb;obtain⟨kd,s,ps,mn,mx,nu,ua,uc,P,rfl,b0⟩:=ha.open';obtain⟨a0,s',ps',mn',mx',nu',z,A,Q,rfl,X⟩:=hb.open';have IH:=hid ih;have HA:=hid ha;have HB:=hid hb;have u:=hid P;have B:=hid Q;have C:=hid S;have L:=hid U;clear ih ha hb b0 X P Q S U;have c8:a.kids.length≤3000000:=by have h1:=Nd.length_le a.nd.kids;have h2:=a.nd.size_kids;have h3:=a.kids_len;omega
  have c9:b.kids.length≤3000000:=by have h1:=Nd.length_le b.nd.kids;have h2:=b.nd.size_kids;have h3:=b.kids_len;omega
  by_cases E:kd=a0
  ·subst E;have t:a.nd=b.nd↔Zyo kd s mn mx nu s' mn' mx' nu'∧a.nd.kids=b.nd.kids:=by
    have h1:=C.out;rw[u.out]at h1;have:=T.same_iff (s':=s') (ps':=ps') (mn':=mn') (mx':=mx') (nu':=nu') h1;rw[u.out,B.out];exact this
   by_cases h1:kd=1
   ·have R:a.nd=b.nd↔s=s':=by
     rw[u.out,B.out,h1];simp[T.nd]
    have K:=hid R;subst h1;clear t R;obtain⟨a1,b1,c1,d1⟩:=s;obtain⟨a2,b2,c2,d2⟩:=s';cases hp:S4.same ⟨a1,b1,c1,d1⟩ ⟨a2,b2,c2,d2⟩
    all_goals
     have M:=hid hp;go_enter func38,ntmps38;go_wp2;go_ret;exact⟨_,rfl,⟨fun h=>by first|(cases h;done)|exact K.out.2 (S4.same_iff.1 M.out),fun h=>M.out.symm.trans (S4.same_iff.2 (K.out.1 h))⟩,Zyk _ _ _⟩
   by_cases hh:Zyo kd s mn mx nu s' mn' mx' nu'
   ·have D:=hid (show a.nd=b.nd↔a.nd.kids=b.nd.kids by rw[t];exact⟨fun h=>h.2,fun h=>⟨hh,h⟩⟩);have j:((kd==4)=true∧(mn !=mn')=false∧(mx !=mx')=false)∨((kd==4)=false∧(kd==5)=true∧(nu !=nu')=false)∨((kd==4)=false∧(kd==5)=false∧(kd==6)=true∧(nu !=nu')=false)∨((kd==4)=false∧(kd==5)=false∧(kd==6)=false):=by
     obtain⟨_,q4,a3⟩:=hh;by_cases h4:kd=4
     ·obtain⟨e1,e2⟩:=q4 h4;exact .inl (by simp[h4,e1,e2])
     by_cases h5:kd=5
     ·exact .inr (.inl (by simp[h5,a3 (.inl h5)]))
     by_cases h6:kd=6
     ·exact .inr (.inr (.inl (by simp[h6,a3 (.inr h6)])))
     exact .inr (.inr (.inr (by simp[h4,h5,h6])))
    have c6:(kd==1)=false:=by simpa using h1
    have CA:=C9.of (ZAB w [.int .i64 kd,.int .u64 s.a,.int .u64 s.b,.int .u64 s.c,.int .u64 s.d,.slice ua ps.length uc,.int .i64 mn,.int .i64 mx,.int .i64 nu] [.int .i64 kd,.int .u64 s'.a,.int .u64 s'.b,.int .u64 s'.c,.int .u64 s'.d,.slice z ps'.length A,.int .i64 mn',.int .i64 mx',.int .i64 nu']);have CB:=C9.of (ZAC w [.int .i64 kd,.int .u64 s.a,.int .u64 s.b,.int .u64 s.c,.int .u64 s.d,.slice ua ps.length uc,.int .i64 mn,.int .i64 mx,.int .i64 nu] [.int .i64 kd,.int .u64 s'.a,.int .u64 s'.b,.int .u64 s'.c,.int .u64 s'.d,.slice z ps'.length A,.int .i64 mn',.int .i64 mx',.int .i64 nu']);have HC:=hid (And.intro CA CB);have F0:=hid (Zyk w [.int .i64 kd,.int .u64 s.a,.int .u64 s.b,.int .u64 s.c,.int .u64 s.d,.slice ua ps.length uc,.int .i64 mn,.int .i64 mx,.int .i64 nu] [.int .i64 kd,.int .u64 s'.a,.int .u64 s'.b,.int .u64 s'.c,.int .u64 s'.d,.slice z ps'.length A,.int .i64 mn',.int .i64 mx',.int .i64 nu'])
    clear hh t CA CB h1;rcases j with⟨h4,h5,h6⟩|⟨h4,h5,h6⟩|⟨h4,h5,h6,h7⟩|⟨h4,h5,h6⟩
    all_goals
     go_enter func38,ntmps38;go_wp2_with fail
     go_region_held3 (fun w'=>C9 w' w.heap.size (.int .i64 kd) (.int .u64 s.a) (.int .u64 s.b) (.int .u64 s.c) (.int .u64 s.d) (.slice ua ps.length uc) (.int .i64 mn) (.int .i64 mx) (.int .i64 nu)∧C9 w' (w.heap.size+1) (.int .i64 kd) (.int .u64 s'.a) (.int .u64 s'.b) (.int .u64 s'.c) (.int .u64 s'.d) (.slice z ps'.length A) (.int .i64 mn') (.int .i64 mx') (.int .i64 nu'))
      (first|exact C9.two ‹_› F2.out|exact C9.two ‹_› F1.out|exact C9.two HC.out ((Fr.refl nob _).drew))
      (first|(go_at_call 60;with_reducible refine(kids_T a _ _ (HA.out.on (F0.out.drew))).mono ?_;rintro e w1 ⟨u1,rfl,s1,f1⟩;obtain⟨a1,c1,rfl⟩:=s1.shape;have S1:=hid s1;have F1:=hid f1;clear s1 f1)|(go_at_call 60;with_reducible refine(kids_T b _ _ (HB.out.on (F0.out.drew.trans' F1.out))).mono ?_;rintro e w2 ⟨u2,rfl,s2,f2⟩;obtain⟨a2,c2,rfl⟩:=s2.shape;have S2:=hid s2;have F2:=hid f2;clear s2 f2))
     by_cases f:a.kids.length=b.kids.length
     ·have e1:(((a.kids.length:Nat):Int) !=((b.kids.length:Nat):Int))=false:=by rw[f];simp
      have n:=hid f;clear f;have FK:=hid ((F0.out.drew.trans' F1.out).trans' F2.out);go_wp2_with fail
      go_loopw [55] (fun i wr=>∃k:Nat,i=.int .i64 k∧k≤a.kids.length∧(a.kids.take k).map T.nd=(b.kids.take k).map T.nd∧Fr nob w2 wr) (fun i _=>a.kids.length-(intOf i).toNat)
      case atStart=>exact⟨0,rfl,Nat.zero_le _,rfl,Fr.refl _ _⟩
      case round=>
       obtain⟨k,rfl,hk,hq,fr⟩:=hrel;have HQ:=hid hq;have FR:=hid fr;clear hq fr;by_cases p:k<a.kids.length
       ·have g:k<b.kids.length:=by have:=n.out;omega
        obtain⟨q,off,c4,cx,he,hx,hc,c7⟩:=(S1.out.on (F2.out.trans' FR.out)).get p;obtain⟨q',c3,b9,c5,a9,v,O,c0⟩:=(S2.out.on FR.out).get g;injection he with e1 e2 e3;injection a9 with e1' e2' e3';subst e1 e3 e1' e3';have V:=a.kid_at p (by have:=a.kids_len;omega);have W:=b.kid_at g (by have:=b.kids_len;omega);have b7:a.kids[k].nd.size<a.nd.size:=Nd.kid_lt (by rw[←V];exact List.getElem_mem _);have b8:b.kids[k].nd.size<b.nd.size:=Nd.kid_lt (by rw[←W];exact List.getElem_mem _);have F:=T.known_kids C.out _ (List.getElem_mem p);have G:=T.known_kids L.out _ (List.getElem_mem g);have H:(a.kids.take (k+1)).map T.nd=(a.kids.take k).map T.nd++[a.kids[k].nd]:=by rw[List.take_succ_eq_append_getElem p,List.map_append];rfl
        have I:(b.kids.take (k+1)).map T.nd=(b.kids.take k).map T.nd++[b.kids[k].nd]:=by rw[List.take_succ_eq_append_getElem g,List.map_append];rfl
        have o:a.nd.kids=b.nd.kids→a.kids[k].nd=b.kids[k].nd:=fun h=>by
         rw[a.kids_nd,b.kids_nd]at h;have:=congrArg (fun l=>l[k]?) h;simpa[List.getElem?_map,List.getElem?_eq_getElem p,List.getElem?_eq_getElem g]using this
        obtain⟨x,Y⟩:∃x,a.kids[k]=x:=⟨_,rfl⟩;obtain⟨y,Z⟩:∃y,b.kids[k]=y:=⟨_,rfl⟩;rw[Y]at hx b7 F H o;rw[Z]at v b8 G I o;obtain⟨k1,s1,p1,e5,e7,e9,a1,c1,b3,rfl,b4⟩:=hx.open';obtain⟨k2,s2,p2,e6,e8,f0,a2,c2,b5,rfl,b6⟩:=v.open';obtain⟨d0,d1,d2,d3,d4,d5,d6,d7,d8⟩:=hc.nine;obtain⟨g0,g1,g2,g3,g4,g5,g6,g7,g8⟩:=O.nine;have HX:=hid hx;have HY:=hid v;have a6:=hid H;have a7:=hid I;have J:=hid o;have a4:=hid F;have a5:=hid G;clear hx v H I o F G b4 b6 b3 b5 e2 e2' hc O Y Z V W;have q1:(0:Int)≤k:=by omega
        have q2:(k:Int)<a.kids.length:=by omega
        have q3:(k:Int)<b.kids.length:=by omega
        go_wp2_with fail
        go_still_tail 8,(by kernel_rfl)
        change wpList _ _ _ _ _ wr.drew;go_wp2_with fail;refine(IH.out x y _ _ _ (by omega) (by omega) (by omega) a4.out a5.out (HX.out.on ((Fr.refl _ _).drew)) (HY.out.on ((Fr.refl _ _).drew))).mono ?_;rintro e w3 ⟨r,rfl,hr,f3⟩;have F3:=hid f3;have HR:=hid hr;clear f3 hr;cases r with
        |true=>
         have a8:=hid (HR.out.1 (by trivial));go_wp2;go_roundw
         case rel=>exact⟨k+1,by go_num,by omega,by rw[a6.out,a7.out,HQ.out,a8.out],FR.out.drew.trans' F3.out⟩
         case measure=>simp[intOf];omega
        |false=>
         go_wp2;go_ret;exact⟨false,rfl,⟨fun h=>(nomatch h),fun h=>HR.out.2 (J.out (D.out.1 h))⟩,FK.out.trans' (FR.out.drew.trans' F3.out)⟩
       ·obtain rfl:k=a.kids.length:=by omega
        go_wp2;go_ret;refine⟨true,rfl,⟨fun _=>D.out.2 ?_,fun _=>rfl⟩,FK.out.trans' FR.out⟩;have:=HQ.out;rw[List.take_of_length_le (Nat.le_refl _),n.out,List.take_of_length_le (Nat.le_refl _)]at this;rw[a.kids_nd,b.kids_nd,this]
     ·have e1:(((a.kids.length:Nat):Int) !=((b.kids.length:Nat):Int))=true:=by simp;omega
      have n:=hid f;have d9:¬((a.kids.length:Nat):Int)=((b.kids.length:Nat):Int):=by omega
      clear f;go_wp2;go_ret;refine⟨false,rfl,⟨fun h=>(nomatch h),fun h=> ?_⟩,(F0.out.drew.trans' F1.out).trans' F2.out⟩;have:=congrArg List.length (D.out.1 h);rw[a.kids_len,b.kids_len]at this;exact(n.out this).elim
   ·have hf:¬a.nd=b.nd:=fun h=>hh (t.1 h).1;have HF:=hid hf;have j:(kd=4∧mn≠mn')∨(kd=4∧mn=mn'∧mx≠mx')∨(kd=5∧nu≠nu')∨(kd=6∧nu≠nu'):=by
     by_cases h4:kd=4
     ·by_cases e1:mn=mn'
      ·by_cases e2:mx=mx'
       ·exact(hh ⟨fun h=>(h1 h).elim,fun _=>⟨e1,e2⟩,fun h=>by omega⟩).elim
       ·exact .inr (.inl ⟨h4,e1,e2⟩)
      ·exact .inl ⟨h4,e1⟩
     by_cases N:kd=5∨kd=6
     ·have e3:nu≠nu':=fun e=>hh ⟨fun h=>(h1 h).elim,fun h=>(h4 h).elim,fun _=>e⟩;rcases N with h|h
      ·exact .inr (.inr (.inl ⟨h,e3⟩))
      ·exact .inr (.inr (.inr ⟨h,e3⟩))
     ·exact(hh ⟨fun h=>(h1 h).elim,fun h=>(h4 h).elim,fun h=>(N h).elim⟩).elim
    clear hh t hf;rcases j with⟨rfl,e1⟩|⟨rfl,rfl,e1⟩|⟨rfl,e1⟩|⟨rfl,e1⟩
    ·have e2:(mn !=mn')=true:=by simpa using e1
     go_enter func38,ntmps38;go_wp2;go_ret;exact⟨_,rfl,⟨fun h=>(nomatch h),fun h=>(HF.out h).elim⟩,Zyk _ _ _⟩
    ·have e2:(mx !=mx')=true:=by simpa using e1
     go_enter func38,ntmps38;go_wp2;go_ret;exact⟨_,rfl,⟨fun h=>(nomatch h),fun h=>(HF.out h).elim⟩,Zyk _ _ _⟩
    all_goals
     have e2:(nu !=nu')=true:=by simpa using e1
     go_enter func38,ntmps38;go_wp2;go_ret;exact⟨_,rfl,⟨fun h=>(nomatch h),fun h=>(HF.out h).elim⟩,Zyk _ _ _⟩
  ·have h1:(kd !=a0)=true:=by simpa using E
   go_enter func38,ntmps38;go_wp2;go_ret;refine⟨false,rfl,⟨fun h=>(nomatch h),fun h=> ?_⟩,Zyk _ _ _⟩;have:=T.same_kd C.out L.out h;rw[u.out,B.out]at this;exact(E this).elim
attribute [local go_sem ↓] Go.wp_at_zero Go.wp_at_succ
abbrev ZcB(w:World)(b:Nat)(v0 v1 v2 v3 v4 v5 v6 v7 v8:Value):World:=
 ((((((((w.setCell ⟨b,0,none⟩ v0).setCell ⟨b,1,none⟩ v1).setCell ⟨b,2,none⟩ v2).setCell ⟨b,3,none⟩ v3).setCell ⟨b,4,none⟩ v4).setCell ⟨b,5,none⟩ v5).setCell ⟨b,6,none⟩ v6).setCell ⟨b,7,none⟩ v7).setCell ⟨b,8,none⟩ v8
theorem Zf{w:World}{b:Nat}{a0 a1 a2 a3 a4 a5 a6 a7 a8:Value}{T:TypeId}{fr:Nat×Nat}(h:w.heap[b]? =some (.cells #[a0,a1,a2,a3,a4,a5,a6,a7,a8] T fr))(v0 v1 v2 v3 v4 v5 v6 v7 v8:Value):
 (ZcB w b v0 v1 v2 v3 v4 v5 v6 v7 v8).heap[b]? =some (.cells #[v0,v1,v2,v3,v4,v5,v6,v7,v8] T fr):=by
 have h0:(w.setCell ⟨b,0,none⟩ v0).heap[b]? =some (.cells #[v0,a1,a2,a3,a4,a5,a6,a7,a8] T fr):=Za h 0 v0;have h1:((w.setCell ⟨b,0,none⟩ v0).setCell ⟨b,1,none⟩ v1).heap[b]? =some (.cells #[v0,v1,a2,a3,a4,a5,a6,a7,a8] T fr):=Za h0 1 v1;have h2:(((w.setCell ⟨b,0,none⟩ v0).setCell ⟨b,1,none⟩ v1).setCell ⟨b,2,none⟩ v2).heap[b]? =some (.cells #[v0,v1,v2,a3,a4,a5,a6,a7,a8] T fr):=Za h1 2 v2;have h3:((((w.setCell ⟨b,0,none⟩ v0).setCell ⟨b,1,none⟩ v1).setCell ⟨b,2,none⟩ v2).setCell ⟨b,3,none⟩ v3).heap[b]? =some (.cells #[v0,v1,v2,v3,a4,a5,a6,a7,a8] T fr):=Za h2 3 v3;have h4:(((((w.setCell ⟨b,0,none⟩ v0).setCell ⟨b,1,none⟩ v1).setCell ⟨b,2,none⟩ v2).setCell ⟨b,3,none⟩ v3).setCell ⟨b,4,none⟩ v4).heap[b]? =some (.cells #[v0,v1,v2,v3,v4,a5,a6,a7,a8] T fr):=Za h3 4 v4;have h5:((((((w.setCell ⟨b,0,none⟩ v0).setCell ⟨b,1,none⟩ v1).setCell ⟨b,2,none⟩ v2).setCell ⟨b,3,none⟩ v3).setCell ⟨b,4,none⟩ v4).setCell ⟨b,5,none⟩ v5).heap[b]? =some (.cells #[v0,v1,v2,v3,v4,v5,a6,a7,a8] T fr):=Za h4 5 v5
 have h6:(((((((w.setCell ⟨b,0,none⟩ v0).setCell ⟨b,1,none⟩ v1).setCell ⟨b,2,none⟩ v2).setCell ⟨b,3,none⟩ v3).setCell ⟨b,4,none⟩ v4).setCell ⟨b,5,none⟩ v5).setCell ⟨b,6,none⟩ v6).heap[b]? =some (.cells #[v0,v1,v2,v3,v4,v5,v6,a7,a8] T fr):=Za h5 6 v6;have h7:((((((((w.setCell ⟨b,0,none⟩ v0).setCell ⟨b,1,none⟩ v1).setCell ⟨b,2,none⟩ v2).setCell ⟨b,3,none⟩ v3).setCell ⟨b,4,none⟩ v4).setCell ⟨b,5,none⟩ v5).setCell ⟨b,6,none⟩ v6).setCell ⟨b,7,none⟩ v7).heap[b]? =some (.cells #[v0,v1,v2,v3,v4,v5,v6,v7,a8] T fr):=Za h6 7 v7;have h8:(((((((((w.setCell ⟨b,0,none⟩ v0).setCell ⟨b,1,none⟩ v1).setCell ⟨b,2,none⟩ v2).setCell ⟨b,3,none⟩ v3).setCell ⟨b,4,none⟩ v4).setCell ⟨b,5,none⟩ v5).setCell ⟨b,6,none⟩ v6).setCell ⟨b,7,none⟩ v7).setCell ⟨b,8,none⟩ v8).heap[b]? =some (.cells #[v0,v1,v2,v3,v4,v5,v6,v7,v8] T fr):=Za h7 8 v8;exact h8
theorem Zjh{w a:World}{b:Nat}(f:Fr nob a w)(hb:a.heap.size≤b)(v0 v1 v2 v3 v4 v5 v6 v7 v8:Value):Fr nob a (ZcB w b v0 v1 v2 v3 v4 v5 v6 v7 v8):=by
 have h:∀(x:World) (j:Nat) (v:Value),Fr nob a x→Fr nob a (x.setCell ⟨b,j,none⟩ v):=fun x j v hx=>hx.setCell (p:=⟨b,j,none⟩) (fun h=>absurd h (Nat.not_lt.2 hb)) v;exact h _ _ _ (h _ _ _ (h _ _ _ (h _ _ _ (h _ _ _ (h _ _ _ (h _ _ _ (h _ _ _ (h _ _ _ f))))))))
theorem Zas{w:World}{b:Nat}(v0 v1 v2 v3 v4 v5 v6 v7 v8:Value):Fr (fun k=>k=b) w (ZcB w b v0 v1 v2 v3 v4 v5 v6 v7 v8):=by
 have h:∀(x:World) (j:Nat) (v:Value),Fr (fun k=>k=b) w x→Fr (fun k=>k=b) w (x.setCell ⟨b,j,none⟩ v):=fun x j v hx=>hx.setCell (p:=⟨b,j,none⟩) (fun _=>rfl) v;exact h _ _ _ (h _ _ _ (h _ _ _ (h _ _ _ (h _ _ _ (h _ _ _ (h _ _ _ (h _ _ _ (h _ _ _ (Fr.refl _ w)))))))))
theorem ZfX{w:World}{b:Nat}(v0 v1 v2 v3 v4 v5 v6 v7 v8:Value):(ZcB w b v0 v1 v2 v3 v4 v5 v6 v7 v8).heap.size=w.heap.size:=by
 simp[World.setCell]
abbrev C3(w:World)(b:Nat)(v0 v1 v2:Value):Prop:=w.cell? ⟨b,0,none⟩=some v0∧w.cell? ⟨b,1,none⟩=some v1∧w.cell? ⟨b,2,none⟩=some v2
abbrev C2(w:World)(b:Nat)(v0 v1:Value):Prop:=w.cell? ⟨b,0,none⟩=some v0∧w.cell? ⟨b,1,none⟩=some v1
end
section
open Go.RowKit
attribute [local go_sem ↓] Go.wp_at_zero Go.wp_at_succ
mutual
theorem T.nd_norm:∀t:T,t.nd.norm=t.nd
 | .mk k s ps mn mx nu=>by
   have h1:=T.nds_norm ps;have h2:=T.nd1_norm ps;simp only[T.nd];split
   ·simp[Nd.norm]
   split
   ·simp[Nd.norm,h1]
   split
   ·simp[Nd.norm,h1]
   split
   ·simp[Nd.norm,h2]
   split
   ·simp[Nd.norm,h2]
   split
   ·simp[Nd.norm]
   split
   ·simp[Nd.norm]
   split
   ·simp[Nd.norm]
   ·simp[Nd.norm]
theorem T.nds_norm:∀l:List T,Nd.norms (T.nds l)=T.nds l
 |[]=>rfl
 |t::ts=>by simp only[T.nds,Nd.norms,T.nd_norm t,T.nds_norm ts]
theorem T.nd1_norm:∀l:List T,(T.nd1 l).norm=T.nd1 l
 |[]=>rfl
 |t::_=>by simp only[T.nd1,T.nd_norm t]
end
theorem T.nd_iface{S:Nat→Prop}{w:World}{t:T}{v:Value}(h:RN S w t.nd v):∃i x,v=.iface i x:=by
 rcases h.shape with rfl|h
 ·have:=T.nd_norm t;have hn:t.nd=.nil:=by
   rcases h.tyv with⟨e,_⟩|⟨i,x,_,e⟩
   ·generalize t.nd=n at *;cases n<;>first|rfl|cases e
   ·cases e
  rw[hn]at this;cases this
 ·exact h
theorem T.few_known{t:T}{m:Int}(h:t.few m=true):t.known=true:=by
 unfold T.few at h;simp only[Bool.and_eq_true]at h;exact h.2
theorem RN.any{S:Nat→Prop}{w:World}{n:Nd}{v:Value}(h:RN S w n v):RN nob w n v:=RN.keep (Fr.refl nob _) (fun _ _ x=>x.elim) (fun _ _ x=>x.elim) _ _ h
namespace treeSames
open Go.ChangeShapes Go.WideShapes Go.ChangeAt Go.RowKit
theorem own:ownKnob prog.godebug=none:=by kernel_rfl
theorem laidOut:laidOutB prog=true:=by kernel_rfl
end treeSames
end
end Go.Proofs.YtgllcniibbaoaaaGreatDoor
