/- Lemmas of this claim. -/
import Derived.Outline
import Derived.Defers
import Derived.Recover
import Derived.Laws.Pointers
import Derived.Deep.DrawnRows
import Derived.Test.YtkfddjopbocpkaaGreatDoorM03
import Derived.Test.YtkfddjopbocpkaaGreatDoorM10
set_option linter.unusedVariables false
set_option linter.unusedSimpArgs false
set_option maxRecDepth 100000
set_option maxHeartbeats 4000000
namespace Go.Proofs.YtkfddjopbocpkaaGreatDoor
open Go.Lib (hid)
open Go.RowKit
theorem RN.miss{S:Nat→Prop}{w:World}{n:Nd}{v:Value}{i0:TypeId}(h:RN S w n v)(hn:n.ty≠some i0):v=.nilIface∨∃i x,v=.iface i x∧i≠i0:=by
 rcases h.tyv with⟨_,rfl⟩|⟨i,x,ht,rfl⟩
 ·exact .inl rfl
 ·exact .inr ⟨i,x,rfl,fun e=>hn (by rw[ht,e])⟩
theorem Zkn(a b:Nd):a.told.head b=a.head b:=by cases a<;>cases b<;>rfl
theorem head_any(a b:Nd)(va vb:Value)(w:World)(ha:RN nob w a va)(hb:RN nob w b vb):
 Calls Tryz.prog 61 #[va,vb] w fun e w'=>e=.returned (.bool (a.head b))∧Fr nob w w':=by
 rw[←Zkn];have HB:=hid hb;clear hb;have HA:=hid ha;clear ha;obtain⟨c,hc⟩:∃c,a.told=c:=⟨_,rfl⟩;have hnn:c≠.nil:=by rw[←hc];cases a<;>simp[Nd.told]
 rw[hc];have HC:=hid hc;clear hc;go_enter Tryz.func61,Tryz.ntmps61;go_wp2_with fail;refine(told_any nob a va w HA.out).mono ?_;rintro e w1 ⟨u,rfl,hu,rfl⟩;rw[HC.out]at hu;clear HA HC;have hk:=hu.kind;clear hu;cases c with
 |nil=>exact(hnn rfl).elim
 |cat l=>
  clear hnn;obtain⟨q,cp,rfl,_⟩:=hk;by_cases hh:b.ty=some 136
  ·cases b<;>simp[Nd.ty]at hh
   obtain⟨qb,cb,rfl,_⟩:=HB.out.kind;go_wp2;go_ret;exact⟨rfl,((Fr.refl _ _).alloc _).alloc _⟩
  ·have hr:Nd.head (.cat l) b=false:=by cases b<;>first|rfl|(simp[Nd.ty]at hh)
   have HRR:=hid hr;rcases HB.out.miss hh with rfl|⟨i,x,rfl,hi⟩
   all_goals
    clear hr hh;go_wp2;go_ret;exact⟨ret_bool HRR.out.symm,((Fr.refl _ _).alloc _).alloc _⟩
 |one s=>
  clear hnn;obtain rfl:=hk;rw[S4.cells_eq];by_cases hh:b.ty=some 134
  ·obtain⟨t,rfl⟩:∃t,b=.one t:=by cases b<;>simp[Nd.ty]at hh⊢
   obtain rfl:=HB.out.kind;rw[S4.cells_eq];clear hh;obtain⟨a1,b1,c1,d1⟩:=s;obtain⟨a2,b2,c2,d2⟩:=t;have hr:Nd.head (.one ⟨a1,b1,c1,d1⟩) (.one ⟨a2,b2,c2,d2⟩)=S4.same ⟨a1,b1,c1,d1⟩ ⟨a2,b2,c2,d2⟩:=rfl;have HRR:=hid hr;clear hr;cases hp:S4.same ⟨a1,b1,c1,d1⟩ ⟨a2,b2,c2,d2⟩
   all_goals
    have HPP:=hid hp;go_wp2;go_ret;exact⟨ret_bool (HRR.out.trans HPP.out).symm,((Fr.refl _ _).alloc _).alloc _⟩
  ·have hr:Nd.head (.one s) b=false:=by cases b<;>first|rfl|(simp[Nd.ty]at hh)
   have HRR:=hid hr;rcases HB.out.miss hh with rfl|⟨i,x,rfl,hi⟩
   all_goals
    clear hr hh;go_wp2;go_ret;exact⟨ret_bool HRR.out.symm,((Fr.refl _ _).alloc _).alloc _⟩
 |alt l=>
  clear hnn;obtain⟨q,cp,rfl,_⟩:=hk;have hr:Nd.head (.alt l) b=b.isAlt:=by cases b<;>rfl
  have HRR:=hid hr;clear hr;go_wp2_with fail;refine(alt_any nob b vb _ (HB.out.on ((Fr.refl _ _).alloc _))).mono ?_;rintro e w2 ⟨rfl,f2⟩;go_wp2;go_ret;exact⟨ret_bool HRR.out.symm,((Fr.refl _ _).alloc _).trans' f2⟩
 |rep y mn mx=>
  clear hnn;obtain⟨uy,rfl,hy⟩:=hk;have hysh:=hy.shape;clear hy;by_cases hh:b.ty=some 139
  ·obtain⟨z,mn',mx',rfl⟩:∃z mn' mx',b=.rep z mn' mx':=by cases b<;>simp[Nd.ty]at hh⊢
   obtain⟨uz,rfl,hz⟩:=HB.out.kind;have hzsh:=hz.shape;clear hz hh HB;have hr:Nd.head (.rep y mn mx) (.rep z mn' mx')=(decide (mn=mn')&&decide (mx=mx')):=rfl;have HRR:=hid hr;clear hr;by_cases h1:mn=mn'
   ·subst h1;by_cases h2:mx=mx'
    ·subst h2;rcases hysh with rfl|⟨iy,xy,rfl⟩<;>rcases hzsh with rfl|⟨iz,xz,rfl⟩
     all_goals
      go_wp2;go_ret;exact⟨ret_bool (by first|(rw[HRR.out];done)|(rw[HRR.out];simp;done)|(rw[HRR.out];simp[*];done)),((Fr.refl _ _).alloc _).alloc _⟩
    ·have h3:(mx==mx')=false:=by simpa using h2
     rcases hysh with rfl|⟨iy,xy,rfl⟩<;>rcases hzsh with rfl|⟨iz,xz,rfl⟩
     all_goals
      go_wp2;go_ret;exact⟨ret_bool (by first|(rw[HRR.out];done)|(rw[HRR.out];simp;done)|(rw[HRR.out];simp[*];done)),((Fr.refl _ _).alloc _).alloc _⟩
   ·have h3:(mn==mn')=false:=by simpa using h1
    rcases hysh with rfl|⟨iy,xy,rfl⟩<;>rcases hzsh with rfl|⟨iz,xz,rfl⟩
    all_goals
     go_wp2;go_ret;exact⟨ret_bool (by first|(rw[HRR.out];done)|(rw[HRR.out];simp;done)|(rw[HRR.out];simp[*];done)),((Fr.refl _ _).alloc _).alloc _⟩
  ·have hr:Nd.head (.rep y mn mx) b=false:=by cases b<;>first|rfl|(simp[Nd.ty]at hh)
   have HRR:=hid hr;rcases HB.out.miss hh with rfl|⟨i,x,rfl,hi⟩<;>rcases hysh with rfl|⟨iy,xy,rfl⟩
   all_goals
    clear hr hh;go_wp2;go_ret;exact⟨ret_bool HRR.out.symm,((Fr.refl _ _).alloc _).alloc _⟩
 |group n y=>
  clear hnn;obtain⟨uy,rfl,hy⟩:=hk;have hysh:=hy.shape;clear hy;by_cases hh:b.ty=some 141
  ·obtain⟨m,z,rfl⟩:∃m z,b=.group m z:=by cases b<;>simp[Nd.ty]at hh⊢
   obtain⟨uz,rfl,hz⟩:=HB.out.kind;have hzsh:=hz.shape;clear hz hh HB;have hr:Nd.head (.group n y) (.group m z)=decide (n=m):=rfl;by_cases h1:n=m
   ·subst h1;have HRR:=hid (show Nd.head (.group n y) (.group n z)=true by rw[hr];simp);clear hr;rcases hysh with rfl|⟨iy,xy,rfl⟩<;>rcases hzsh with rfl|⟨iz,xz,rfl⟩
    all_goals
     go_wp2;go_ret;exact⟨ret_bool (by rw[HRR.out]),((Fr.refl _ _).alloc _).alloc _⟩
   ·have HRR:=hid (show Nd.head (.group n y) (.group m z)=false by rw[hr];simp[h1]);clear hr;have h2:(n==m)=false:=by simpa using h1
    rcases hysh with rfl|⟨iy,xy,rfl⟩<;>rcases hzsh with rfl|⟨iz,xz,rfl⟩
    all_goals
     go_wp2;go_ret;exact⟨ret_bool (by rw[HRR.out]),((Fr.refl _ _).alloc _).alloc _⟩
  ·have hr:Nd.head (.group n y) b=false:=by cases b<;>first|rfl|(simp[Nd.ty]at hh)
   have HRR:=hid hr;rcases HB.out.miss hh with rfl|⟨i,x,rfl,hi⟩<;>rcases hysh with rfl|⟨iy,xy,rfl⟩
   all_goals
    clear hr hh;go_wp2;go_ret;exact⟨ret_bool HRR.out.symm,((Fr.refl _ _).alloc _).alloc _⟩
 |back n=>
  clear hnn;obtain rfl:=hk;by_cases hh:b.ty=some 143
  ·obtain⟨m,rfl⟩:∃m,b=.back m:=by cases b<;>simp[Nd.ty]at hh⊢
   obtain rfl:=HB.out.kind;clear hh HB;have hr:Nd.head (.back n) (.back m)=decide (n=m):=rfl;have HRR:=hid hr;clear hr;by_cases h1:n=m
   ·subst h1;go_wp2;go_ret;exact⟨ret_bool (by rw[HRR.out];simp),((Fr.refl _ _).alloc _).alloc _⟩
   ·have h2:(n==m)=false:=by simpa using h1
    go_wp2;go_ret;exact⟨ret_bool (by rw[HRR.out];simp[h1]),((Fr.refl _ _).alloc _).alloc _⟩
  ·have hr:Nd.head (.back n) b=false:=by cases b<;>first|rfl|(simp[Nd.ty]at hh)
   have HRR:=hid hr;rcases HB.out.miss hh with rfl|⟨i,x,rfl,hi⟩
   all_goals
    clear hr hh;go_wp2;go_ret;exact⟨ret_bool HRR.out.symm,((Fr.refl _ _).alloc _).alloc _⟩
 |start=>
  clear hnn;obtain rfl:=hk;by_cases hh:b.ty=some 145
  ·cases b<;>simp[Nd.ty]at hh
   obtain rfl:=HB.out.kind;go_wp2;go_ret;exact⟨rfl,((Fr.refl _ _).alloc _).alloc _⟩
  ·have hr:Nd.head .start b=false:=by cases b<;>first|rfl|(simp[Nd.ty]at hh)
   have HRR:=hid hr;rcases HB.out.miss hh with rfl|⟨i,x,rfl,hi⟩
   all_goals
    clear hr hh;go_wp2;go_ret;exact⟨ret_bool HRR.out.symm,((Fr.refl _ _).alloc _).alloc _⟩
 |fin=>
  clear hnn;obtain rfl:=hk;by_cases hh:b.ty=some 146
  ·cases b<;>simp[Nd.ty]at hh
   obtain rfl:=HB.out.kind;go_wp2;go_ret;exact⟨rfl,((Fr.refl _ _).alloc _).alloc _⟩
  ·have hr:Nd.head .fin b=false:=by cases b<;>first|rfl|(simp[Nd.ty]at hh)
   have HRR:=hid hr;rcases HB.out.miss hh with rfl|⟨i,x,rfl,hi⟩
   all_goals
    clear hr hh;go_wp2;go_ret;exact⟨ret_bool HRR.out.symm,((Fr.refl _ _).alloc _).alloc _⟩
 |empty=>
  clear hnn;obtain rfl:=hk;go_wp2_with fail;refine(told_any nob b vb _ HB.out).mono ?_;rintro e w2 ⟨ub,rfl,hub,rfl⟩;by_cases hh:b.told.ty=some 147
  ·have hr:Nd.head .empty b=true:=by cases b<;>simp[Nd.ty,Nd.told]at hh<;>rfl
   have HRR:=hid hr;rcases hub.tyv with⟨ht,rfl⟩|⟨i,x,ht,rfl⟩
   ·rw[ht]at hh;cases hh
   ·rw[ht]at hh;injection hh with hh;subst hh;have hx:x=.agg #[]:=by
     have:=hub.kind;cases b<;>simp[Nd.ty,Nd.told]at ht<;>(simp[Nd.told,Znh]at this;exact this)
    subst hx;clear hr ht hub;go_wp2;go_ret;exact⟨ret_bool HRR.out.symm,(Fr.refl _ _).alloc _⟩
  ·have hr:Nd.head .empty b=false:=by cases b<;>first|rfl|(simp[Nd.ty,Nd.told]at hh)
   have HRR:=hid hr;rcases hub.miss hh with rfl|⟨i,x,rfl,hi⟩
   all_goals
    clear hr hh hub;go_wp2;go_ret;exact⟨ret_bool HRR.out.symm,(Fr.refl _ _).alloc _⟩
def Zif(a b:Nd)(w:World)(e:Ending)(w':World):Prop:=∃r:Bool,e=.returned (.bool r)∧(r=true↔a.norm=b.norm)∧Fr nob w w'
theorem Nd.norms_take{l:List Nd}{k:Nat}(h:k<l.length):Nd.norms (l.take (k+1))=Nd.norms (l.take k)++[l[k].norm]:=by
 simp only[Nd.norms_eq];rw[List.take_succ_eq_append_getElem h,List.map_append];rfl
theorem Nd.norms_at{l m:List Nd}(h:Nd.norms l=Nd.norms m){k:Nat}(h1:k<l.length)(h2:k<m.length):l[k].norm=m[k].norm:=by
 have e:=congrArg (fun x=>x[k]?) h;simp only[Nd.norms_eq,List.getElem?_map,List.getElem?_eq_getElem h1,List.getElem?_eq_getElem h2,Option.map_some,Option.some.injEq]at e;exact e
theorem Nd.norms_len{l m:List Nd}(h:Nd.norms l=Nd.norms m):l.length=m.length:=by
 have e:=congrArg List.length h;simpa only[Nd.norms_eq,List.length_map]using e
theorem equalFunc_any(l m:List Nd)(u v:Value)(w:World)(hl:l.length≤3000000)(hm:m.length≤3000000)
 (hc:∀x∈l,∀(y:Nd) (vx vy:Value) (w:World),y∈m→RN nob w x vx→RN nob w y vy→Calls Tryz.prog 33 #[vx,vy] w (Zif x y w)) (hu:SN nob w l u) (hv:SN nob w m v):
 Calls Tryz.prog 62 #[u,v,.func (.func 33) #[] #[]] w fun e w'=>∃r:Bool,e=.returned (.bool r)∧(r=true↔Nd.norms l=Nd.norms m)∧Fr nob w w':=by
 obtain⟨a,c,rfl⟩:=hu.shape;obtain⟨a',c',rfl⟩:=hv.shape;have HU:=hid hu;have HV:=hid hv;have HC:=hid hc;clear hu hv hc;by_cases hlm:l.length=m.length
 ·have h1:((l.length:Int) !=(m.length:Int))=false:=by rw[hlm];simp
  have HLM:=hid hlm;obtain⟨n,hn⟩:∃n,m.length=n:=⟨_,rfl⟩;rw[hlm,hn]at hl⊢;rw[hn]at hm;have HN:=hid hn;clear hlm hn h1;go_enter Tryz.func62,Tryz.ntmps62;go_wp2_with fail
  go_loopw [17] (fun i wr=>∃k:Nat,i=.int .i64 k∧k≤n∧Nd.norms (l.take k)=Nd.norms (m.take k)∧Fr nob w wr) (fun i _=>n-(intOf i).toNat)
  case atStart=>exact⟨0,rfl,Nat.zero_le _,rfl,Fr.refl _ _⟩
  case round=>
   obtain⟨k,rfl,hk,hq,fr⟩:=hrel;have HQ:=hid hq;have FR:=hid fr;clear hq fr;by_cases hlt:k<n
   ·have k1:k<l.length:=by have:=HN.out;have:=HLM.out;omega
    have k2:k<m.length:=by have:=HN.out;omega
    obtain⟨g,off,cap,x,he,hx,hcx⟩:=(HU.out.on FR.out).get k1;obtain⟨g',off',cap',y,he',hy,hcy⟩:=(HV.out.on FR.out).get k2;rw[HLM.out,HN.out]at he;rw[HN.out]at he';injection he with e1 e2 e3;injection he' with e1' e2' e3';subst e1 e3 e1' e3';have K1:=hid k1;have K2:=hid k2;have HX:=hid hx;have HY:=hid hy;clear hx hy e2 e2';go_wp2_with fail;refine(HC.out _ (List.getElem_mem K1.out) _ _ _ _ (List.getElem_mem K2.out) HX.out HY.out).mono ?_;rintro e w2 ⟨r,rfl,hr,f2⟩;have F2:=hid f2;have HR:=hid hr;clear f2 hr;cases r with
    |true=>
     have hne:Nd.norms (l.take (k+1))=Nd.norms (m.take (k+1)):=by
      rw[Nd.norms_take K1.out,Nd.norms_take K2.out,HQ.out,HR.out.1 rfl]
     have HNE:=hid hne;clear hne;go_wp2;go_roundw
     case rel=>exact⟨k+1,by go_num,by omega,HNE.out,FR.out.trans' F2.out⟩
     case measure=>simp[intOf];omega
    |false=>
     go_wp2;go_ret;exact⟨false,rfl,⟨fun h=>(nomatch h),fun h=>HR.out.2 (Nd.norms_at h K1.out K2.out)⟩,FR.out.trans' F2.out⟩
   ·obtain rfl:k=n:=by omega
    go_wp2;go_ret;refine⟨true,rfl,⟨fun _=> ?_,fun _=>rfl⟩,FR.out⟩;have:=HQ.out;rwa[List.take_of_length_le (by have:=HN.out;have:=HLM.out;omega),List.take_of_length_le (by have:=HN.out;omega)]at this
 ·have h1:(((l.length:Nat):Int) !=((m.length:Nat):Int))=true:=by simp;omega
  have HLM:=hid hlm;obtain⟨n,hn⟩:∃n,m.length=n:=⟨_,rfl⟩;obtain⟨n',hn'⟩:∃n,l.length=n:=⟨_,rfl⟩;rw[hn,hn']at h1;rw[hn]at hm⊢;rw[hn']at hl⊢;have h2:¬(n':Int)=n:=by simpa using h1
  clear hlm hn hn';go_enter Tryz.func62,Tryz.ntmps62;go_wp2_with fail;go_ret;exact⟨false,rfl,⟨fun h=>(nomatch h),fun h=>(HLM.out (Nd.norms_len h)).elim⟩,Fr.refl _ _⟩
theorem Zig(m:Nat):∀(a b:Nd) (va vb:Value) (w:World),a.size≤m→a.size≤3000000→b.size≤3000000→RN nob w a va→RN nob w b vb→
 Calls Tryz.prog 33 #[va,vb] w (Zif a b w):=by
 induction m with
 |zero=>intro a b va vb w h;have:=a.size_pos;omega
 |succ m ih=>
  intro a b va vb w hm ha hb hra hrb;have IH:=hid ih;clear ih;have HA:=hid hra;have HB:=hid hrb;clear hra hrb;have hska:=hid a.size_kids;have hskb:=hid b.size_kids;have hlka:=Nd.length_le a.kids;have hlkb:=Nd.length_le b.kids;have hkla:a.kids.length≤3000000:=by have:=hska.out;omega
  have hklb:b.kids.length≤3000000:=by have:=hskb.out;omega
  have HKB:=hid (fun y (hy:y∈b.kids)=>(Nat.le_trans (Nat.le_of_lt (Nd.kid_lt hy)) hb:y.size≤3000000));have HKA:=hid (fun y (hy:y∈a.kids)=>(Nat.le_of_lt_succ (Nat.lt_of_lt_of_le (Nd.kid_lt hy) hm):y.size≤m));have HKA2:=hid (fun y (hy:y∈a.kids)=>(Nat.le_trans (Nat.le_of_lt (Nd.kid_lt hy)) ha:y.size≤3000000));clear hlka hlkb;have hsame:=hid (Nd.same_iff a b);obtain⟨p,hp⟩:∃p,a.head b=p:=⟨_,rfl⟩;have HP:=hid hp;clear hp;go_enter Tryz.func33,Tryz.ntmps33;go_wp2_with fail;refine(head_any a b va vb w HA.out HB.out).mono ?_;rw[HP.out];rintro e w1 ⟨rfl,f1⟩;have F1:=hid f1;clear f1;cases p with
  |false=>
   go_wp2;go_ret;exact⟨false,rfl,⟨fun h=>(nomatch h),fun h=>by have h1:=(hsame.out.1 h).1;rw[HP.out]at h1;exact h1⟩,F1.out⟩
  |true=>
   go_wp2_with fail;refine(kids_any nob a va w1 (HA.out.on F1.out) (fun _ x=>x.elim)).mono ?_;rintro e w2 ⟨u,rfl,s2,f2⟩;obtain⟨q,cq,rfl⟩:=s2.shape;have F2:=hid f2;have S2:=hid s2;clear f2 s2;go_wp2_with fail;refine(kids_any nob b vb w2 (HB.out.on (F1.out.trans' F2.out)) (fun _ x=>x.elim)).mono ?_;rintro e w3 ⟨u',rfl,s3,f3⟩;obtain⟨q',cq',rfl⟩:=s3.shape;have F3:=hid f3;have S3:=hid s3;clear f3 s3;go_wp2_with fail;refine(equalFunc_any a.kids b.kids _ _ w3 hkla hklb (fun x hx y vx vy wq hy hvx hvy=>IH.out x y vx vy wq (HKA.out x hx) (HKA2.out x hx) (HKB.out y hy) hvx hvy) (S2.out.on F3.out) S3.out).mono ?_;rintro e w4 ⟨r,rfl,hr,f4⟩;have F4:=hid f4;have HR:=hid hr;clear f4 hr;go_wp2;go_ret;exact⟨r,rfl,⟨fun h=>hsame.out.2 ⟨HP.out,HR.out.1 h⟩,fun h=>HR.out.2 (hsame.out.1 h).2⟩,F1.out.trans' (F2.out.trans' (F3.out.trans' F4.out))⟩
theorem isGroup_ty(n:Nd):(n.ty=some 141∧n.isGroup=true)∨(n.ty≠some 141∧n.isGroup=false):=by
 cases n<;>simp[Nd.ty,Nd.isGroup]
theorem RN.group_or{S:Nat→Prop}{w:World}{n:Nd}{v:Value}(h:RN S w n v):(n.isGroup=true∧∃k u,v=.iface 141 (.agg #[.int .i64 k,u])∧(u=.nilIface∨∃i x,u=.iface i x))∨(n.isGroup=false∧(v=.nilIface∨∃i x,v=.iface i x∧i≠141)):=by
 rcases isGroup_ty n with⟨h1,h2⟩|⟨h1,h2⟩
 ·refine .inl ⟨h2,?_⟩;cases n<;>simp[Nd.isGroup]at h2
  obtain⟨u,hv,hu⟩:=h.kind;exact⟨_,u,hv,hu.shape⟩
 ·exact .inr ⟨h2,h.miss h1⟩
theorem groups_any(m:Nat):∀(n:Nd) (v:Value) (w:World),n.size≤m→n.size≤3000000→RN nob w n v→
 Calls Tryz.prog 122 #[v] w fun e w'=>e=.returned (.int .i64 n.groups)∧Fr nob w w':=by
 induction m with
 |zero=>intro n v w h;have:=n.size_pos;omega
 |succ m ih=>
  intro n v w hm hn h;have IH:=hid ih;clear ih;have hsk:=hid n.size_kids;have hlk:=Nd.length_le n.kids;have hkl:n.kids.length≤3000000:=by have:=hsk.out;omega
  have hgl:=Nd.groupss_le n.kids;have hgk:=hid n.groups_kids;obtain⟨d,hd⟩:∃d,n.groups=d:=⟨_,rfl⟩;rw[hd]at hgk⊢;clear hd hlk;have hgb:Nd.groupss n.kids≤3000000:=by have:=hsk.out;omega
  have hor:=h.group_or;have HV:=hid h;clear h hgl;obtain⟨b,hb1,hb2,hb3⟩:∃b:Nat,b≤1∧d=b+Nd.groupss n.kids∧((b=1∧∃k u,v=.iface 141 (.agg #[.int .i64 k,u])∧(u=.nilIface∨∃i x,u=.iface i x))∨(b=0∧(v=.nilIface∨∃i x,v=.iface i x∧i≠141))):=by
   rcases hor with⟨h1,h2⟩|⟨h1,h2⟩
   ·exact⟨1,by omega,by have:=hgk.out;rw[h1]at this;simp at this;omega,.inl ⟨rfl,h2⟩⟩
   ·exact⟨0,by omega,by have:=hgk.out;rw[h1]at this;simp at this;omega,.inr ⟨rfl,h2⟩⟩
  have HB2:=hid hb2;clear hb2 hor;rcases hb3 with⟨rfl,gk,uu,rfl,hsh⟩|⟨rfl,hsh⟩
  ·rcases hsh with rfl|⟨iu,xu,rfl⟩
   all_goals
    go_enter Tryz.func122,Tryz.ntmps122;go_wp2_with fail;refine(kids_any nob n _ _ (HV.out.on ((Fr.refl _ _).alloc _)) (fun _ x=>x.elim)).mono ?_;rintro e w1 ⟨u,rfl,h1,f1⟩;obtain⟨a,c,rfl⟩:=h1.shape;have H1:=hid h1;have F1:=hid f1;clear h1 f1;go_wp2_with fail
    go_loopw [3,19] (fun s i wr=>∃k:Nat,i=.int .i64 k∧k≤n.kids.length∧s=.int .i64 ((1+Nd.groupss (n.kids.take k):Nat):Int)∧Fr nob w1 wr) (fun _ i _=>n.kids.length-(intOf i).toNat)
    case atStart=>exact⟨0,rfl,Nat.zero_le _,rfl,Fr.refl _ _⟩
    case round=>
     obtain⟨k,rfl,hk,rfl,fr⟩:=hrel;have HR:=hid (H1.out.on fr);have FR:=hid fr;clear fr;by_cases hlt:k<n.kids.length
     ·obtain⟨g,off,cap,x,he,hx,hc⟩:=HR.out.get hlt;injection he with e1 e2 e3;subst e1;subst e3;have hst2:=hid (Nd.groupss_take hlt);have hst3:Nd.groupss (n.kids.take k)+n.kids[k].groups≤3000000:=by
       have:=Nd.groupss_append (n.kids.take (k+1)) (n.kids.drop (k+1));rw[List.take_append_drop]at this;have:=hst2.out;omega
      have hxs:n.kids[k].size<n.size:=Nd.kid_lt (List.getElem_mem hlt);have HX:=hid hx;clear hx e2;go_wp2_with fail;refine(IH.out n.kids[k] x _ (by omega) (by omega) HX.out).mono ?_;rintro e w2 ⟨rfl,f2⟩;have F2:=hid f2;clear f2;go_wp2;go_roundw
      case rel=>exact⟨k+1,by go_num,by omega,by rw[hst2.out];go_num,FR.out.trans' F2.out⟩
      case measure=>simp[intOf];omega
     ·obtain rfl:k=n.kids.length:=by omega
      have hT:=hid (List.take_of_length_le (l:=n.kids) (Nat.le_refl _));rw[hT.out];go_wp2;go_ret;exact⟨ZdT (by rw[HB2.out]),(((Fr.refl _ _).alloc _).trans' F1.out).trans' FR.out⟩
  ·rcases hsh with rfl|⟨iu,xu,rfl,hi⟩
   all_goals
    go_enter Tryz.func122,Tryz.ntmps122;go_wp2_with fail;refine(kids_any nob n _ _ (HV.out.on ((Fr.refl _ _).alloc _)) (fun _ x=>x.elim)).mono ?_;rintro e w1 ⟨u,rfl,h1,f1⟩;obtain⟨a,c,rfl⟩:=h1.shape;have H1:=hid h1;have F1:=hid f1;clear h1 f1;go_wp2_with fail
    go_loopw [3,19] (fun s i wr=>∃k:Nat,i=.int .i64 k∧k≤n.kids.length∧s=.int .i64 ((Nd.groupss (n.kids.take k):Nat):Int)∧Fr nob w1 wr) (fun _ i _=>n.kids.length-(intOf i).toNat)
    case atStart=>exact⟨0,rfl,Nat.zero_le _,rfl,Fr.refl _ _⟩
    case round=>
     obtain⟨k,rfl,hk,rfl,fr⟩:=hrel;have HR:=hid (H1.out.on fr);have FR:=hid fr;clear fr;by_cases hlt:k<n.kids.length
     ·obtain⟨g,off,cap,x,he,hx,hc⟩:=HR.out.get hlt;injection he with e1 e2 e3;subst e1;subst e3;have hst2:=hid (Nd.groupss_take hlt);have hst3:Nd.groupss (n.kids.take k)+n.kids[k].groups≤3000000:=by
       have:=Nd.groupss_append (n.kids.take (k+1)) (n.kids.drop (k+1));rw[List.take_append_drop]at this;have:=hst2.out;omega
      have hxs:n.kids[k].size<n.size:=Nd.kid_lt (List.getElem_mem hlt);have HX:=hid hx;clear hx e2;go_wp2_with fail;refine(IH.out n.kids[k] x _ (by omega) (by omega) HX.out).mono ?_;rintro e w2 ⟨rfl,f2⟩;have F2:=hid f2;clear f2;go_wp2;go_roundw
      case rel=>exact⟨k+1,by go_num,by omega,by rw[hst2.out];go_num,FR.out.trans' F2.out⟩
      case measure=>simp[intOf];omega
     ·obtain rfl:k=n.kids.length:=by omega
      have hT:=hid (List.take_of_length_le (l:=n.kids) (Nat.le_refl _));rw[hT.out];go_wp2;go_ret;exact⟨ZdT (by rw[HB2.out];simp),(((Fr.refl _ _).alloc _).trans' F1.out).trans' FR.out⟩
theorem Zfe{P:Program}{x a:TypeId}{fs:Array Field}(h:P.underlying a=some (.struct fs))(v:Value)(w:World):
 (Instr.typeAssert (.iface a v) x a false).run P w=.ok v w:=by
 simp[Instr.typeAssert,run_underlying h]
theorem ZfW(fn:Fn)(first cap:Array Value)(w:World):(Instr.makeFunc fn first cap).run Tryz.prog w=.ok (.func fn first cap) w:=rfl
abbrev C9(w:World)(b:Nat)(v0 v1 v2 v3 v4 v5 v6 v7 v8:Value):Prop:=
 w.cell? ⟨b,0,none⟩=some v0∧w.cell? ⟨b,1,none⟩=some v1∧w.cell? ⟨b,2,none⟩=some v2∧w.cell? ⟨b,3,none⟩=some v3∧w.cell? ⟨b,4,none⟩=some v4∧w.cell? ⟨b,5,none⟩=some v5∧w.cell? ⟨b,6,none⟩=some v6∧w.cell? ⟨b,7,none⟩=some v7∧w.cell? ⟨b,8,none⟩=some v8
theorem C9.of{w:World}{b:Nat}{v0 v1 v2 v3 v4 v5 v6 v7 v8:Value}{T:TypeId}{fr:Nat×Nat}(h:w.heap[b]? =some (.cells #[v0,v1,v2,v3,v4,v5,v6,v7,v8] T fr)):C9 w b v0 v1 v2 v3 v4 v5 v6 v7 v8:=
 ⟨cell_at h rfl,cell_at h rfl,cell_at h rfl,cell_at h rfl,cell_at h rfl,cell_at h rfl,cell_at h rfl,cell_at h rfl,cell_at h rfl⟩
attribute [local go_sem ↓] Go.wp_at_zero Go.wp_at_succ
abbrev ZcB(w:World)(b:Nat)(v0 v1 v2 v3 v4 v5 v6 v7 v8:Value):World:=
 ((((((((w.setCell ⟨b,0,none⟩ v0).setCell ⟨b,1,none⟩ v1).setCell ⟨b,2,none⟩ v2).setCell ⟨b,3,none⟩ v3).setCell ⟨b,4,none⟩ v4).setCell ⟨b,5,none⟩ v5).setCell ⟨b,6,none⟩ v6).setCell ⟨b,7,none⟩ v7).setCell ⟨b,8,none⟩ v8
theorem Zf{w:World}{b:Nat}{a0 a1 a2 a3 a4 a5 a6 a7 a8:Value}{T:TypeId}{fr:Nat×Nat}(h:w.heap[b]? =some (.cells #[a0,a1,a2,a3,a4,a5,a6,a7,a8] T fr))(v0 v1 v2 v3 v4 v5 v6 v7 v8:Value):
 (ZcB w b v0 v1 v2 v3 v4 v5 v6 v7 v8).heap[b]? =some (.cells #[v0,v1,v2,v3,v4,v5,v6,v7,v8] T fr):=by
 have h0:(w.setCell ⟨b,0,none⟩ v0).heap[b]? =some (.cells #[v0,a1,a2,a3,a4,a5,a6,a7,a8] T fr):=Za h 0 v0;have h1:((w.setCell ⟨b,0,none⟩ v0).setCell ⟨b,1,none⟩ v1).heap[b]? =some (.cells #[v0,v1,a2,a3,a4,a5,a6,a7,a8] T fr):=Za h0 1 v1;have h2:(((w.setCell ⟨b,0,none⟩ v0).setCell ⟨b,1,none⟩ v1).setCell ⟨b,2,none⟩ v2).heap[b]? =some (.cells #[v0,v1,v2,a3,a4,a5,a6,a7,a8] T fr):=Za h1 2 v2;have h3:((((w.setCell ⟨b,0,none⟩ v0).setCell ⟨b,1,none⟩ v1).setCell ⟨b,2,none⟩ v2).setCell ⟨b,3,none⟩ v3).heap[b]? =some (.cells #[v0,v1,v2,v3,a4,a5,a6,a7,a8] T fr):=Za h2 3 v3;have h4:(((((w.setCell ⟨b,0,none⟩ v0).setCell ⟨b,1,none⟩ v1).setCell ⟨b,2,none⟩ v2).setCell ⟨b,3,none⟩ v3).setCell ⟨b,4,none⟩ v4).heap[b]? =some (.cells #[v0,v1,v2,v3,v4,a5,a6,a7,a8] T fr):=Za h3 4 v4;have h5:((((((w.setCell ⟨b,0,none⟩ v0).setCell ⟨b,1,none⟩ v1).setCell ⟨b,2,none⟩ v2).setCell ⟨b,3,none⟩ v3).setCell ⟨b,4,none⟩ v4).setCell ⟨b,5,none⟩ v5).heap[b]? =some (.cells #[v0,v1,v2,v3,v4,v5,a6,a7,a8] T fr):=Za h4 5 v5
 have h6:(((((((w.setCell ⟨b,0,none⟩ v0).setCell ⟨b,1,none⟩ v1).setCell ⟨b,2,none⟩ v2).setCell ⟨b,3,none⟩ v3).setCell ⟨b,4,none⟩ v4).setCell ⟨b,5,none⟩ v5).setCell ⟨b,6,none⟩ v6).heap[b]? =some (.cells #[v0,v1,v2,v3,v4,v5,v6,a7,a8] T fr):=Za h5 6 v6;have h7:((((((((w.setCell ⟨b,0,none⟩ v0).setCell ⟨b,1,none⟩ v1).setCell ⟨b,2,none⟩ v2).setCell ⟨b,3,none⟩ v3).setCell ⟨b,4,none⟩ v4).setCell ⟨b,5,none⟩ v5).setCell ⟨b,6,none⟩ v6).setCell ⟨b,7,none⟩ v7).heap[b]? =some (.cells #[v0,v1,v2,v3,v4,v5,v6,v7,a8] T fr):=Za h6 7 v7;have h8:(((((((((w.setCell ⟨b,0,none⟩ v0).setCell ⟨b,1,none⟩ v1).setCell ⟨b,2,none⟩ v2).setCell ⟨b,3,none⟩ v3).setCell ⟨b,4,none⟩ v4).setCell ⟨b,5,none⟩ v5).setCell ⟨b,6,none⟩ v6).setCell ⟨b,7,none⟩ v7).setCell ⟨b,8,none⟩ v8).heap[b]? =some (.cells #[v0,v1,v2,v3,v4,v5,v6,v7,v8] T fr):=Za h7 8 v8;exact h8
theorem Zjh{w a:World}{b:Nat}(f:Fr nob a w)(hb:a.heap.size≤b)(v0 v1 v2 v3 v4 v5 v6 v7 v8:Value):Fr nob a (ZcB w b v0 v1 v2 v3 v4 v5 v6 v7 v8):=by
 have h:∀(x:World) (j:Nat) (v:Value),Fr nob a x→Fr nob a (x.setCell ⟨b,j,none⟩ v):=fun x j v hx=>hx.setCell (p:=⟨b,j,none⟩) (fun h=>absurd h (Nat.not_lt.2 hb)) v;exact h _ _ _ (h _ _ _ (h _ _ _ (h _ _ _ (h _ _ _ (h _ _ _ (h _ _ _ (h _ _ _ (h _ _ _ f))))))))
theorem Zas{w:World}{b:Nat}(v0 v1 v2 v3 v4 v5 v6 v7 v8:Value):Fr (fun k=>k=b) w (ZcB w b v0 v1 v2 v3 v4 v5 v6 v7 v8):=by
 have h:∀(x:World) (j:Nat) (v:Value),Fr (fun k=>k=b) w x→Fr (fun k=>k=b) w (x.setCell ⟨b,j,none⟩ v):=fun x j v hx=>hx.setCell (p:=⟨b,j,none⟩) (fun _=>rfl) v;exact h _ _ _ (h _ _ _ (h _ _ _ (h _ _ _ (h _ _ _ (h _ _ _ (h _ _ _ (h _ _ _ (h _ _ _ (Fr.refl _ w)))))))))
theorem ZfX{w:World}{b:Nat}(v0 v1 v2 v3 v4 v5 v6 v7 v8:Value):(ZcB w b v0 v1 v2 v3 v4 v5 v6 v7 v8).heap.size=w.heap.size:=by
 simp[World.setCell]
abbrev C3(w:World)(b:Nat)(v0 v1 v2:Value):Prop:=w.cell? ⟨b,0,none⟩=some v0∧w.cell? ⟨b,1,none⟩=some v1∧w.cell? ⟨b,2,none⟩=some v2
abbrev C2(w:World)(b:Nat)(v0 v1:Value):Prop:=w.cell? ⟨b,0,none⟩=some v0∧w.cell? ⟨b,1,none⟩=some v1
end Go.Proofs.YtkfddjopbocpkaaGreatDoor
