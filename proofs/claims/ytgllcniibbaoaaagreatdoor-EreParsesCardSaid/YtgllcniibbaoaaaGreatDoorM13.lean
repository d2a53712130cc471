/- Lemmas of this claim. -/
import Derived.Test.YtgllcniibbaoaaaGreatDoorM03
import Derived.Test.YtgllcniibbaoaaaGreatDoorM12
set_option linter.all false
set_option maxRecDepth 100000
set_option maxHeartbeats 4000000
namespace Go.Proofs.YtgllcniibbaoaaaGreatDoor
open Go.RowKit
theorem RN.miss{S:Nat→Prop}{w:World}{n:Nd}{v:Value}{i0:TypeId}(h:RN S w n v)(hn:n.ty≠some i0):v=.nilIface∨∃i x,v=.iface i x∧i≠i0:=by
 rcases h.tyv with⟨_,rfl⟩|⟨i,x,ht,rfl⟩
 ·exact .inl rfl
 ·exact .inr ⟨i,x,rfl,fun e=>hn (by rw[ht,e])⟩
open Go.Lib (hid)
theorem isGroup_ty(n:Nd):(n.ty=some 127∧n.isGroup=true)∨(n.ty≠some 127∧n.isGroup=false):=by
 cases n<;>simp[Nd.ty,Nd.isGroup]
theorem isBack_ty(n:Nd):(n.ty=some 116∧n.isBack=true)∨(n.ty≠some 116∧n.isBack=false):=by
 cases n<;>simp[Nd.ty,Nd.isBack]
theorem RN.group_or{S:Nat→Prop}{w:World}{n:Nd}{v:Value}(h:RN S w n v):(n.isGroup=true∧∃k u,v=.iface 127 (.agg #[.int .i64 k,u])∧(u=.nilIface∨∃i x,u=.iface i x))∨(n.isGroup=false∧(v=.nilIface∨∃i x,v=.iface i x∧i≠127)):=by
 rcases isGroup_ty n with⟨h1,h2⟩|⟨h1,h2⟩
 ·refine .inl ⟨h2,?_⟩;cases n<;>simp[Nd.isGroup]at h2
  obtain⟨u,hv,hu⟩:=h.kind;exact⟨_,u,hv,hu.shape⟩
 ·exact .inr ⟨h2,h.miss h1⟩
theorem RN.back_or{S:Nat→Prop}{w:World}{n:Nd}{v:Value}(h:RN S w n v):(n.isBack=true∧∃k,v=.iface 116 (.agg #[.int .i64 k]))∨(n.isBack=false∧(v=.nilIface∨∃i x,v=.iface i x∧i≠116)):=by
 rcases isBack_ty n with⟨h1,h2⟩|⟨h1,h2⟩
 ·refine .inl ⟨h2,?_⟩;cases n<;>simp[Nd.isBack]at h2
  exact⟨_,h.kind⟩
 ·exact .inr ⟨h2,h.miss h1⟩
theorem Zzi(m:Nat):∀(n:Nd) (v:Value) (w:World),n.size≤m→n.size≤3000000→RN nob w n v→
 Calls Tryz.prog 35 #[v] w fun e w'=>e=.returned (.int .i64 n.groups)∧Fr nob w w':=by
 induction m with
 |zero=>intro n v w h;have:=n.size_pos;omega
 |succ m ih=>
  intro n v w hm hn h;have IH:=hid ih;clear ih;have y:=hid n.size_kids;have D:=Nd.length_le n.kids;have H:n.kids.length≤3000000:=by have:=y.out;omega
  have C:=Nd.groupss_le n.kids;have o:=hid n.groups_kids;obtain⟨d,hd⟩:∃d,n.groups=d:=⟨_,rfl⟩;rw[hd]at o⊢;clear hd D;have G:Nd.groupss n.kids≤3000000:=by have:=y.out;omega
  have t:=h.group_or;have HV:=hid h;clear h C;obtain⟨b,F,r,B⟩:∃b:Nat,b≤1∧d=b+Nd.groupss n.kids∧((b=1∧∃k u,v=.iface 127 (.agg #[.int .i64 k,u])∧(u=.nilIface∨∃i x,u=.iface i x))∨(b=0∧(v=.nilIface∨∃i x,v=.iface i x∧i≠127))):=by
   rcases t with⟨h1,h2⟩|⟨h1,h2⟩
   ·exact⟨1,by omega,by have:=o.out;rw[h1]at this;simp at this;omega,.inl ⟨rfl,h2⟩⟩
   ·exact⟨0,by omega,by have:=o.out;rw[h1]at this;simp at this;omega,.inr ⟨rfl,h2⟩⟩
  have q:=hid r;clear r t;rcases B with⟨rfl,gk,uu,rfl,p⟩|⟨rfl,p⟩
  ·rcases p with rfl|⟨iu,xu,rfl⟩
   all_goals
    go_enter Tryz.func35,Tryz.ntmps35;go_wp2_with fail;refine(kids_any nob n _ _ (HV.out.on ((Fr.refl _ _).alloc _)) (fun _ x=>x.elim)).mono ?_;rintro e w1 ⟨u,rfl,h1,f1⟩;obtain⟨a,c,rfl⟩:=h1.shape;have H1:=hid h1;have F1:=hid f1;clear h1 f1;go_wp2_with fail
    go_loopw [3,19] (fun s i wr=>∃k:Nat,i=.int .i64 k∧k≤n.kids.length∧s=.int .i64 ((1+Nd.groupss (n.kids.take k):Nat):Int)∧Fr nob w1 wr) (fun _ i _=>n.kids.length-(intOf i).toNat)
    case atStart=>exact⟨0,rfl,Nat.zero_le _,rfl,Fr.refl _ _⟩
    case round=>
     obtain⟨k,rfl,hk,rfl,fr⟩:=hrel;have HR:=hid (H1.out.on fr);have FR:=hid fr;clear fr;by_cases j:k<n.kids.length
     ·obtain⟨g,off,A,x,he,hx,hc⟩:=HR.out.get j;injection he with e1 e2 e3;subst e1;subst e3;have f:=hid (Nd.groupss_take j);have z:Nd.groupss (n.kids.take k)+n.kids[k].groups≤3000000:=by
       have:=Nd.groupss_append (n.kids.take (k+1)) (n.kids.drop (k+1));rw[List.take_append_drop]at this;have:=f.out;omega
      have E:n.kids[k].size<n.size:=Nd.kid_lt (List.getElem_mem j);have HX:=hid hx;clear hx e2;go_wp2_with fail;refine(IH.out n.kids[k] x _ (by omega) (by omega) HX.out).mono ?_;rintro e w2 ⟨rfl,f2⟩;have F2:=hid f2;clear f2;go_wp2;go_roundw
      case rel=>exact⟨k+1,by go_num,by omega,by rw[f.out];go_num,FR.out.trans' F2.out⟩
      case measure=>simp[intOf];omega
     ·obtain rfl:k=n.kids.length:=by omega
      have hT:=hid (List.take_of_length_le (l:=n.kids) (Nat.le_refl _));rw[hT.out];go_wp2;go_ret;exact⟨ZdT (by rw[q.out]),(((Fr.refl _ _).alloc _).trans' F1.out).trans' FR.out⟩
  ·rcases p with rfl|⟨iu,xu,rfl,hi⟩
   all_goals
    go_enter Tryz.func35,Tryz.ntmps35;go_wp2_with fail;refine(kids_any nob n _ _ (HV.out.on ((Fr.refl _ _).alloc _)) (fun _ x=>x.elim)).mono ?_;rintro e w1 ⟨u,rfl,h1,f1⟩;obtain⟨a,c,rfl⟩:=h1.shape;have H1:=hid h1;have F1:=hid f1;clear h1 f1;go_wp2_with fail
    go_loopw [3,19] (fun s i wr=>∃k:Nat,i=.int .i64 k∧k≤n.kids.length∧s=.int .i64 ((Nd.groupss (n.kids.take k):Nat):Int)∧Fr nob w1 wr) (fun _ i _=>n.kids.length-(intOf i).toNat)
    case atStart=>exact⟨0,rfl,Nat.zero_le _,rfl,Fr.refl _ _⟩
    case round=>
     obtain⟨k,rfl,hk,rfl,fr⟩:=hrel;have HR:=hid (H1.out.on fr);have FR:=hid fr;clear fr;by_cases j:k<n.kids.length
     ·obtain⟨g,off,A,x,he,hx,hc⟩:=HR.out.get j;injection he with e1 e2 e3;subst e1;subst e3;have f:=hid (Nd.groupss_take j);have z:Nd.groupss (n.kids.take k)+n.kids[k].groups≤3000000:=by
       have:=Nd.groupss_append (n.kids.take (k+1)) (n.kids.drop (k+1));rw[List.take_append_drop]at this;have:=f.out;omega
      have E:n.kids[k].size<n.size:=Nd.kid_lt (List.getElem_mem j);have HX:=hid hx;clear hx e2;go_wp2_with fail;refine(IH.out n.kids[k] x _ (by omega) (by omega) HX.out).mono ?_;rintro e w2 ⟨rfl,f2⟩;have F2:=hid f2;clear f2;go_wp2;go_roundw
      case rel=>exact⟨k+1,by go_num,by omega,by rw[f.out];go_num,FR.out.trans' F2.out⟩
      case measure=>simp[intOf];omega
     ·obtain rfl:k=n.kids.length:=by omega
      have hT:=hid (List.take_of_length_le (l:=n.kids) (Nat.le_refl _));rw[hT.out];go_wp2;go_ret;exact⟨ZdT (by rw[q.out];simp),(((Fr.refl _ _).alloc _).trans' F1.out).trans' FR.out⟩
theorem ZyL:∀args w,(callFunc 30 args).run Tryz.prog w=.ok (.enter 30 args) w:=ZtZ Tryz.func30 (by kernel_rfl) rfl
theorem backs_any(m:Nat):∀(n:Nd) (v:Value) (w:World),n.size≤m→n.size≤3000000→RN nob w n v→
 Calls Tryz.prog 30 #[v] w fun e w'=>e=.returned (.bool n.backs)∧Fr nob w w':=by
 induction m with
 |zero=>intro n v w h;have:=n.size_pos;omega
 |succ m ih=>
  intro n v w hm hn h;have IH:=hid ih;clear ih;have l:=hid n.size_kids;have i:=Nd.length_le n.kids;have g:n.kids.length≤3000000:=by have:=l.out;omega
  have b:=n.backs_kids;obtain⟨d,hd⟩:∃d,n.backs=d:=⟨_,rfl⟩;rw[hd]at b⊢;clear hd i;have f:=hid (fun y (hy:y∈n.kids)=>(by have:=Nd.kid_lt hy;omega:y.size≤min m 3000000));have j:=h.back_or;have HV:=hid h;clear h;rcases j with⟨h1,k,rfl⟩|⟨h1,h2⟩
  ·obtain rfl:d=true:=by rw[b,h1];rfl
   clear b h1;go_enter Tryz.func30,Tryz.ntmps30;go_wp2;go_ret;exact⟨rfl,(Fr.refl _ _).alloc _⟩
  ·have HB:=hid (show d=n.kids.any Nd.backs by rw[b,h1,Nd.backss_eq];rfl);clear b h1;rcases h2 with rfl|⟨iu,xu,rfl,hi⟩
   all_goals
    go_enter Tryz.func30,Tryz.ntmps30;go_wp2_with fail;refine(kids_any nob n _ _ (HV.out.on ((Fr.refl _ _).alloc _)) (fun _ x=>x.elim)).mono ?_;rintro e w1 ⟨u,rfl,h1,f1⟩;obtain⟨a,c,rfl⟩:=h1.shape;have H1:=hid h1;have F1:=hid f1;clear h1 f1;go_wp2_with fail;refine(containsFunc_any 30 Nd.backs (min m 3000000) (fun y vy wy hy hry=>IH.out y vy wy (by omega) (by omega) hry) ZyL n.kids _ _ g f.out H1.out).mono ?_;rintro e w2 ⟨rfl,f2⟩;have F2:=hid f2;clear f2;go_wp2;go_ret;exact⟨ret_bool HB.out.symm,(((Fr.refl _ _).alloc _).trans' F1.out).trans' F2.out⟩
end Go.Proofs.YtgllcniibbaoaaaGreatDoor
