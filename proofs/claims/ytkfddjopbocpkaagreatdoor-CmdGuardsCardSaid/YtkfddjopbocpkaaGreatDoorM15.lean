/-
  Merged texts of this claim: BreL, BreK, BreM.
-/
import Derived.Test.YtkfddjopbocpkaaGreatDoorM10
import Derived.Test.YtkfddjopbocpkaaGreatDoorM13
import Derived.Test.YtkfddjopbocpkaaGreatDoorM14
set_option linter.unusedVariables false
set_option linter.unusedSimpArgs false
set_option maxRecDepth 100000
set_option maxHeartbeats 4000000
namespace Go.Proofs.YtkfddjopbocpkaaGreatDoor
open Go.RowKit
def ZbS(l:List UInt8)(c:Nat)(f:RxS→Out Nd):Prop:=∀s,Sane l s→∀t s',f s=.inr (t,s')→Sane l s'∧s.at_≤s'.at_∧t.size+s.at_≤s'.at_+c
theorem ZbS.kept{l:List UInt8}{c:Nat}{f:RxS→Out Nd}(h:ZbS l c f):Zmt l f:=fun s hs t s' e=>⟨(h s hs t s' e).1,(h s hs t s' e).2.1⟩
section
variable {l:List UInt8} {s:RxS} (hs:Sane l s)
include hs
theorem Sane.go{n:Nat}(h:s.at_+n≤l.length):Sane l (s.go n):=
 ⟨h,Nat.le_trans hs.mr (Nat.le_add_right _ _),Nat.le_trans hs.cl (Nat.le_add_right _ _),Nat.le_trans hs.op (Nat.le_add_right _ _)⟩
theorem Sane.to{n:Nat}(h:s.at_≤n)(h':n≤l.length):Sane l (s.to n):=
 ⟨h',Nat.le_trans hs.mr h,Nat.le_trans hs.cl h,Nat.le_trans hs.op h⟩
theorem Sane.markgo{n:Nat}(t:List UInt8)(hn:1≤n)(h:s.at_+n≤l.length):Sane l ((s.mark t).go n):=
 ⟨h,by have:=hs.mr;show(s.marks++[_]).length≤s.at_+n;simp;omega,Nat.le_trans hs.cl (Nat.le_add_right _ _),Nat.le_trans hs.op (Nat.le_add_right _ _)⟩
end
theorem Zap{l:List UInt8}:∀(n:Nat) (s:RxS) (t:Nd) (t':Nd) (s':RxS),Sane l s→Zbu prg l n s t=.inr (t',s')→Sane l s'∧s.at_≤s'.at_∧t'.size+s.at_≤s'.at_+t.size
 |0,s,t,t',s',hs,h=>by
  rw[Zbu]at h;injection h with h;injection h with h1 h2;subst h1;subst h2;exact⟨hs,Nat.le_refl _,by omega⟩
 |n+1,s,t,t',s',hs,h=>by
  have hz:∀a b,(prg.rep t a b).size=1+t.size:=fun _ _=>rfl;cases e1:ahd l s.at_ [92,43]with
  |true=>
   rw[Zez e1]at h;have hle:=ahd_le e1 (by decide);simp only[List.length_cons,List.length_nil]at hle;obtain⟨k1,k2,k3⟩:=Zap n _ _ _ _ (hs.markgo _ (by omega) hle) h;rw[hz]at k3;refine⟨k1,?_,?_⟩
   ·have:s.at_+2≤s'.at_:=k2;omega
   ·have:1+0+t'.size+(s.at_+2)≤1+0+s'.at_+(1+t.size):=by have:t'.size+(s.at_+2)≤s'.at_+(1+t.size):=k3;omega
    omega
  |false=>
   cases e2:ahd l s.at_ [92,63]with
   |true=>
    rw[Zdt e1 e2]at h;have hle:=ahd_le e2 (by decide);simp only[List.length_cons,List.length_nil]at hle;obtain⟨k1,k2,k3⟩:=Zap n _ _ _ _ (hs.markgo _ (by omega) hle) h;rw[hz]at k3;refine⟨k1,?_,?_⟩
    ·have:s.at_+2≤s'.at_:=k2;omega
    ·have:t'.size+(s.at_+2)≤s'.at_+(1+t.size):=k3;omega
   |false=>
    cases e3:ahd l s.at_ [92,123]with
    |true=>
     have hle:=ahd_le e3 (by decide);simp only[List.length_cons,List.length_nil]at hle;cases e4:Zef l (s.at_+2)with
     |none=>rw[ZgE e1 e2 e3 e4]at h;cases h
     |some q=>
      obtain⟨m,x,k⟩:=q;rw[Zdu e1 e2 e3 e4]at h;obtain⟨g1,g2,_⟩:=Zix (by omega) e4;obtain⟨k1,k2,k3⟩:=Zap n _ _ _ _ (hs.to (by omega) g2) h;rw[hz]at k3;refine⟨k1,?_,?_⟩
      ·have:k≤s'.at_:=k2;omega
      ·have:t'.size+k≤s'.at_+(1+t.size):=k3;omega
    |false=>
     cases e4:ahd l s.at_ [42]with
     |true=>
      have hle:=ahd_le e4 (by decide);simp only[List.length_singleton]at hle;rw[repS_star e1 e2 e3 e4]at h;obtain⟨k1,k2,k3⟩:=Zap n _ _ _ _ (hs.go hle) h;rw[hz]at k3;refine⟨k1,?_,?_⟩
      ·have:s.at_+1≤s'.at_:=k2;omega
      ·have:t'.size+(s.at_+1)≤s'.at_+(1+t.size):=k3;omega
     |false=>
      rw[ZgF e1 e2 e3 e4]at h;injection h with h;injection h with h1 h2;subst h1;subst h2;exact⟨hs,Nat.le_refl _,by omega⟩
theorem ZfJ{l:List UInt8}{C:Option (RxS→Out Nd)}(hC:∀f,C=some f→ZbS l 2 f){p:Nat}{s s':RxS}{t:Nd}(hs:Sane l s)(h1:s.opened<s.at_)(h:Za4 prg l C p s=.inr (t,s')):
 Sane l s'∧s.at_+2≤s'.at_∧t.size+s.at_≤s'.at_+1:=by
 cases C with
 |none=>cases h
 |some f=>
  unfold Za4 at h;simp only at h;cases hf:f {s with opened:=s.opened+1}with
  |inl e=>rw[hf]at h;cases h
  |inr z=>
   obtain⟨t1,s1⟩:=z;rw[hf]at h;simp only at h;obtain⟨k1,k2,k3⟩:=hC f rfl {s with opened:=s.opened+1} ⟨hs.le,hs.mr,hs.cl,h1⟩ t1 s1 hf;have k2:s.at_≤s1.at_:=k2;have k3:t1.size+s.at_≤s1.at_+2:=k3;split at h
   ·next ha=>
    have hle:=ahd_le ha (by decide);simp only[List.length_cons,List.length_nil]at hle;injection h with h;injection h with h2 h3;subst h2;subst h3;refine⟨⟨hle,Nat.le_trans k1.mr (Nat.le_add_right _ _),?_,?_⟩,?_,?_⟩
    ·show(s1.closed++[_]).length≤s1.at_+2;have:=k1.cl;simp;omega
    ·exact Nat.le_trans k1.op (Nat.le_add_right _ _)
    ·show s.at_+2≤s1.at_+2;omega
    ·show(1+t1.size)+s.at_≤s1.at_+2+1;omega
   ·cases h
theorem ZiI{l:List UInt8}{C:Option (RxS→Out Nd)}(hC:∀f,C=some f→ZbS l 2 f){s s':RxS}{t:Nd}(hs:Sane l s)(h:Zjx prg l C s=.inr (t,s')):
 Sane l s'∧s.at_<s'.at_∧t.size+s.at_≤s'.at_:=by
 by_cases hl:s.at_+1<l.length
 ·rw[ZiB hl]at h;split at h
  ·next ha=>
   have:=hs.op;obtain⟨k1,k2,k3⟩:=ZfJ hC (hs.go (n:=2) (by omega)) (by show s.opened<s.at_+2;omega) h;have k2:s.at_+2+2≤s'.at_:=k2;have k3:t.size+(s.at_+2)≤s'.at_+1:=k3;exact⟨k1,by omega,by omega⟩
  ·split at h
   ·cases h
   ·split at h
    ·split at h
     ·injection h with h;injection h with h2 h3;subst h2;subst h3;exact⟨hs.go (by omega),by show s.at_<s.at_+2;omega,by show 1+s.at_≤s.at_+2;omega⟩
     ·cases h
    ·split at h
     ·injection h with h;injection h with h2 h3;subst h2;subst h3;split
      ·exact⟨hs.markgo _ (by omega) (by omega),by show s.at_<s.at_+2;omega,by show 1+s.at_≤s.at_+2;omega⟩
      ·exact⟨hs.go (by omega),by show s.at_<s.at_+2;omega,by show 1+s.at_≤s.at_+2;omega⟩
     ·cases h
 ·rw[ZeA (by omega)]at h;cases h
theorem Za7{l:List UInt8}{C:Option (RxS→Out Nd)}(hC:∀f,C=some f→ZbS l 2 f){s s':RxS}{t:Nd}{b:UInt8}(hs:Sane l s)(ha:s.at_<l.length)(h:Zbv prg l C s b=.inr (t,s')):
 Sane l s'∧s.at_<s'.at_∧t.size+s.at_≤s'.at_:=by
 unfold Zbv at h;split at h
 ·exact ZiI hC hs h
 ·split at h
  ·cases hp:prs l (s.at_+1)with
   |inl z=>rw[hp]at h;cases h
   |inr y=>
    obtain⟨c,k⟩:=y;rw[hp]at h;injection h with h;injection h with h2 h3;subst h2;subst h3;obtain⟨p1,p2,p3⟩:=ZkO hp;have p2:s.at_+1<k:=p2;have p3:k≤l.length:=p3;exact⟨hs.to (by omega) p3,by show s.at_<k;omega,by show 1+s.at_≤k;omega⟩
  ·split at h
   ·injection h with h;injection h with h2 h3;subst h2;subst h3;exact⟨hs.go (by omega),by show s.at_<s.at_+1;omega,by show 1+s.at_≤s.at_+1;omega⟩
   ·injection h with h;injection h with h2 h3;subst h2;subst h3;exact⟨hs.go (by omega),by show s.at_<s.at_+1;omega,by show 1+s.at_≤s.at_+1;omega⟩
theorem ZeC{l:List Nd}{n:Nd}{k:Nat}(h1:1≤k)(h2:Nd.sizes l≤k)(h3:n.size≤k):(Zc8 l n).size≤k:=by
 match l,h2 with
 |[],_=>exact h1
 |[x],h2=>simpa[Zc8,Nd.sizes]using h2
 |_::_::_,_=>exact h3
theorem Zb9(l:List Nd):(ZbN l).size≤Nd.sizes l+1:=
 have h:=ZbQ l
 ZeC (by omega) (by omega) (by show 1+Nd.sizes (parts l)≤_;omega)
theorem Zca(l:List Nd):(ZbD l).size≤Nd.sizes l+1:=
 have h:=Zcp l
 ZeC (by omega) (by omega) (by show 1+Nd.sizes (arms l)≤_;omega)
def ZhU(l:List UInt8)(C:Option (RxS→Out Nd))(s:RxS)(b:UInt8):Out Nd:=
 match Zbv prg l C s b with
 | .inl e=>.inl e
 | .inr (t,s1)=>Zbu prg l (l.length+1) s1 t
theorem ZiJ{l:List UInt8}{C:Option (RxS→Out Nd)}(hC:∀f,C=some f→ZbS l 2 f){s s':RxS}{t:Nd}{b:UInt8}(hs:Sane l s)(ha:s.at_<l.length)(h:ZhU l C s b=.inr (t,s')):
 Sane l s'∧s.at_<s'.at_∧t.size+s.at_≤s'.at_:=by
 unfold ZhU at h;cases hp:Zbv prg l C s b with
 |inl z=>rw[hp]at h;cases h
 |inr y=>
  obtain⟨t1,s1⟩:=y;rw[hp]at h;simp only at h;obtain⟨k1,k2,k3⟩:=Za7 hC hs ha hp;obtain⟨j1,j2,j3⟩:=Zap _ _ _ _ _ k1 h;exact⟨j1,by omega,by omega⟩
section
variable {l:List UInt8} {C:Option (RxS→Out Nd)} {inner front:Bool} {n:Nat} {s:RxS} {ps:List Nd}
theorem Zd3(h:l.length≤s.at_):brS prg l C inner (n+1) front s ps=.inr (ZbN ps,s):=by
 rw[brS,List.getElem?_eq_none h];rfl
theorem ZcR(h:s.at_<l.length)(h1:(ahd l s.at_ [92,124]||(inner&&ahd l s.at_ [92,41]))=true):brS prg l C inner (n+1) front s ps=.inr (ZbN ps,s):=by
 rw[brS,List.getElem?_eq_getElem h];simp only;rw[if_pos h1];rfl
theorem Zdb(h:s.at_<l.length)(h1:(ahd l s.at_ [92,124]||(inner&&ahd l s.at_ [92,41]))=false)(h2:(front&&(ahd l s.at_ [92,123]||(ahd l s.at_ [92,43]||ahd l s.at_ [92,63])))=true):
 brS prg l C inner (n+1) front s ps=.inl (10,s.at_):=by
 rw[brS,List.getElem?_eq_getElem h];simp only;rw[if_neg (by rw[h1];decide),if_pos h2]
theorem Zd4(h:s.at_<l.length)(h1:(ahd l s.at_ [92,124]||(inner&&ahd l s.at_ [92,41]))=false)(h2:(front&&(ahd l s.at_ [92,123]||(ahd l s.at_ [92,43]||ahd l s.at_ [92,63])))=false)(h3:(ahd l s.at_ [36]&&Zbk l s.at_)=true):
 brS prg l C inner (n+1) front s ps=brS prg l C inner n false (s.go 1) (ps++[.fin]):=by
 rw[brS,List.getElem?_eq_getElem h];simp only;rw[if_neg (by rw[h1];decide),if_neg (by rw[h2];decide),if_pos h3];rfl
theorem Zdx(h:s.at_<l.length)(h1:(ahd l s.at_ [92,124]||(inner&&ahd l s.at_ [92,41]))=false)(h2:(front&&(ahd l s.at_ [92,123]||(ahd l s.at_ [92,43]||ahd l s.at_ [92,63])))=false)(h3:(ahd l s.at_ [36]&&Zbk l s.at_)=false):
 brS prg l C inner (n+1) front s ps=match ZhU l C s l[s.at_]with| .inl e=>.inl e| .inr (t,s2)=>brS prg l C inner n false s2 (ps++[t]):=by
 rw[brS,List.getElem?_eq_getElem h];simp only;rw[if_neg (by rw[h1];decide),if_neg (by rw[h2];decide),if_neg (by rw[h3];decide)];unfold ZhU;cases Zbv prg l C s l[s.at_]with
 |inl e=>rfl
 |inr z=>obtain⟨t,s1⟩:=z;simp only;cases Zbu prg l (l.length+1) s1 t<;>rfl
end
theorem ZcS{l:List UInt8}{C:Option (RxS→Out Nd)}(hC:∀f,C=some f→ZbS l 2 f){inner:Bool}:∀(n:Nat) (front:Bool) (s:RxS) (ps:List Nd) (t:Nd) (s':RxS),Sane l s→brS prg l C inner n front s ps=.inr (t,s')→
 Sane l s'∧s.at_≤s'.at_∧t.size+s.at_≤s'.at_+Nd.sizes ps+1
 |0,front,s,ps,t,s',hs,h=>by
  rw[brS]at h;injection h with h;injection h with h1 h2;subst h1;subst h2;have:=Zb9 ps;exact⟨hs,Nat.le_refl _,by show(ZbN ps).size+s.at_≤_;omega⟩
 |n+1,front,s,ps,t,s',hs,h=>by
  have hj:=Zb9 ps;by_cases hl:s.at_<l.length
  ·cases h1:(ahd l s.at_ [92,124]||(inner&&ahd l s.at_ [92,41]))with
   |true=>
    rw[ZcR hl h1]at h;injection h with h;injection h with h1 h2;subst h1;subst h2;exact⟨hs,Nat.le_refl _,by omega⟩
   |false=>
    cases h2:(front&&(ahd l s.at_ [92,123]||(ahd l s.at_ [92,43]||ahd l s.at_ [92,63])))with
    |true=>rw[Zdb hl h1 h2]at h;cases h
    |false=>
     cases h3:(ahd l s.at_ [36]&&Zbk l s.at_)with
     |true=>
      rw[Zd4 hl h1 h2 h3]at h;obtain⟨k1,k2,k3⟩:=ZcS hC n _ _ _ _ _ (hs.go (n:=1) (by omega)) h;rw[Nd.sizes_append]at k3;have k2:s.at_+1≤s'.at_:=k2;have k3:t.size+(s.at_+1)≤s'.at_+(Nd.sizes ps+(1+0))+1:=k3;exact⟨k1,by omega,by omega⟩
     |false=>
      rw[Zdx hl h1 h2 h3]at h;cases hr:ZhU l C s l[s.at_]with
      |inl e=>rw[hr]at h;cases h
      |inr z=>
       obtain⟨t1,s1⟩:=z;rw[hr]at h;simp only at h;obtain⟨r1,r2,r3⟩:=ZiJ hC hs hl hr;obtain⟨k1,k2,k3⟩:=ZcS hC n _ _ _ _ _ r1 h;rw[Nd.sizes_append]at k3;have k3:t.size+s1.at_≤s'.at_+(Nd.sizes ps+(t1.size+0))+1:=k3;exact⟨k1,by omega,by omega⟩
  ·rw[Zd3 (by omega)]at h;injection h with h;injection h with h1 h2;subst h1;subst h2;exact⟨hs,Nat.le_refl _,by omega⟩
theorem ZaV{l:List UInt8}{C:Option (RxS→Out Nd)}(hC:∀f,C=some f→ZbS l 2 f){inner:Bool}:ZbS l 1 (branchS prg l C inner):=by
 intro s hs t s' h;unfold branchS at h;split at h
 ·next ha=>
  have hle:=ahd_le ha (by decide);simp only[List.length_singleton]at hle;obtain⟨k1,k2,k3⟩:=ZcS hC _ _ _ _ _ _ (hs.go hle) h;have k2:s.at_+1≤s'.at_:=k2;have k3:t.size+(s.at_+1)≤s'.at_+(1+0)+1:=k3;exact⟨k1,by omega,by omega⟩
 ·obtain⟨k1,k2,k3⟩:=ZcS hC _ _ _ _ _ _ hs h;have k3:t.size+s.at_≤s'.at_+0+1:=k3;exact⟨k1,by omega,by omega⟩
theorem Zdc{l:List UInt8}{C:Option (RxS→Out Nd)}(hC:∀f,C=some f→ZbS l 2 f){inner:Bool}:∀(n:Nat) (s:RxS) (ts:List Nd) (t:Nd) (s':RxS),Sane l s→ZaJ prg l C inner n s ts=.inr (t,s')→
 Sane l s'∧s.at_≤s'.at_∧t.size+s.at_≤s'.at_+Nd.sizes ts+1
 |0,s,ts,t,s',hs,h=>by
  rw[ZaJ]at h;injection h with h;injection h with h1 h2;subst h1;subst h2;have:=Zca ts;exact⟨hs,Nat.le_refl _,by show(ZbD ts).size+s.at_≤_;omega⟩
 |n+1,s,ts,t,s',hs,h=>by
  rw[ZaJ]at h;split at h
  ·next ha=>
   have hle:=ahd_le ha (by decide);simp only[List.length_cons,List.length_nil]at hle;cases hb:branchS prg l C inner ((s.mark [92,124]).go 2)with
   |inl e=>rw[hb]at h;cases h
   |inr z=>
    obtain⟨t1,s1⟩:=z;rw[hb]at h;simp only at h;obtain⟨r1,r2,r3⟩:=ZaV hC _ (hs.markgo [92,124] (n:=2) (by omega) hle) _ _ hb;obtain⟨k1,k2,k3⟩:=Zdc hC n _ _ _ _ r1 h;rw[Nd.sizes_append]at k3;have r2:s.at_+2≤s1.at_:=r2;have r3:t1.size+(s.at_+2)≤s1.at_+1:=r3;have k3:t.size+s1.at_≤s'.at_+(Nd.sizes ts+(t1.size+0))+1:=k3;exact⟨k1,by omega,by omega⟩
  ·injection h with h;injection h with h1 h2;subst h1;subst h2;have:=Zca ts;exact⟨hs,Nat.le_refl _,by show(ZbD ts).size+s.at_≤_;omega⟩
theorem choiceS_kept{l:List UInt8}{C:Option (RxS→Out Nd)}(hC:∀f,C=some f→ZbS l 2 f){inner:Bool}:ZbS l 2 (choiceS prg l C inner):=by
 intro s hs t s' h;unfold choiceS at h;cases hb:branchS prg l C inner s with
 |inl e=>rw[hb]at h;cases h
 |inr z=>
  obtain⟨t1,s1⟩:=z;rw[hb]at h;simp only at h;obtain⟨r1,r2,r3⟩:=ZaV hC _ hs _ _ hb;obtain⟨k1,k2,k3⟩:=Zdc hC _ _ _ _ _ r1 h;have k3:t.size+s1.at_≤s'.at_+(t1.size+0)+1:=k3;exact⟨k1,by omega,by omega⟩
theorem chS_kept{l:List UInt8}:∀n,ZbS l 2 (chS prg l n)
 |0=>by
  have:chS prg l 0=choiceS prg l none true:=by funext s;rw[chS]
  rw[this];exact choiceS_kept (fun f hf=>by cases hf)
 |n+1=>by
  have:chS prg l (n+1)=choiceS prg l (some (chS prg l n)) (decide (n+1<12)):=by funext s;rw[chS]
  rw[this];exact choiceS_kept (fun f hf=>by injection hf with hf;subst hf;exact chS_kept n)
open Go.Lib (hid)
abbrev CC2(w:World)(b:Nat)(v0 v1:Value):Prop:=w.cell? ⟨b,0,none⟩=some v0∧w.cell? ⟨b,1,none⟩=some v1
theorem cc2_on{w w':World}{b:Nat}{v0 v1:Value}(h:CC2 w b v0 v1)(f:Fr nob w w'):CC2 w' b v0 v1:=⟨f.cell h.1 (fun x=>x),f.cell h.2 (fun x=>x)⟩
theorem ZiK(b:Nat)(l:List UInt8)(W0:World)(deep:Nat)(C:Option (RxS→Out Nd))(s:RxS)(S O:Nat→Prop)(w:World)(x:UInt8)(hO:∀k,O k→k<w.heap.size)(hl:l.length≤100000)(hd:deep≤12)(hE0:Env W0)(hG:ZlV l W0 deep C)
 (hs:Sane l s) (ha:s.at_<l.length) (hx:l[s.at_]=x) (hW:Wd W0 S w) (h:Rdg b l s S w):
 Calls Tryz.prog 234 #[.pointer (some ⟨b,0,none⟩),.int .i64 deep] w fun y w'=>Zbm b l S O w (Zbv prg l C s x) y w':=by
 obtain⟨R,hR⟩:∃R,Zbv prg l C s x=R:=⟨_,rfl⟩;rw[hR];have hEsc:=fun w' (f:Fr nob w w') (h92:x=92)=>ZiC b l W0 deep C s S O w' (fun k hk=>Nat.lt_of_lt_of_le (hO k hk) f.size) hl hd hG hs ha (by rw[hx,h92]) (hW.stp (Stp.of f)) (h.on f);obtain⟨cv,mv,hB⟩:=h;have rr:=Zd hB.blk;have HEsc:=hid hEsc;have HB:=hid hB;have HW:=hid hW;have hal:(s.at_:Int)<l.length:=by omega
 have hxb:=x.toNat_lt;clear hEsc hG hs hW hB hd hO;go_enter Tryz.func234,Tryz.ntmps234
 go_wp2_with fail
 refine region_fr 8 (by kernel_rfl) (by kernel_rfl) ?_;simp only[List.take_succ_cons,List.take_zero,List.drop_succ_cons,List.drop_zero]
 repeat(quiet_step (fail))
 refine wpQuiet_nil ?_;intro wC fC;have hBC:=HB.out.on fC;obtain⟨⟨k0,k1,_⟩,_,j1,_⟩:=Zd hBC.blk _ (Fr.refl _ _);have HBC:=hid hBC;have FC:=hid fC;clear rr hBC fC;unfold Zbv at hR;by_cases h92:x=92
 ·rw[if_pos h92]at hR;have HE:=hid (HEsc.out wC FC.out h92);have t1:((x.toNat:Int)==92)=true:=Zfm (b:=92) h92;rw[hR]at HE;clear h92 hR
  go_wp2_with fail
  with_reducible refine(HE.out).mono ?_
  cases R with
  |inl z=>
   obtain⟨z1,z2⟩:=z;rintro e w2 ⟨rfl,S2,st2⟩;exact⟨rfl,rfl,S2,(Stp.of FC.out).trans st2⟩
  |inr z=>
   obtain⟨t,s2⟩:=z;rintro e w2 ⟨i,y,S2,rfl,rn2,r2,st2⟩;have RN2:=hid rn2;have R2:=hid r2;have ST2:=hid ((Stp.of FC.out).trans st2);clear rn2 r2 st2;go_wp2;go_ret;exact⟨_,_,S2,rfl,RN2.out,R2.out,ST2.out⟩
 ·rw[if_neg h92]at hR;have t1:((x.toNat:Int)==92)=false:=ZG (b:=92) h92;by_cases h91:x=91
  ·rw[if_pos h91]at hR;have t2:((x.toNat:Int)==91)=true:=Zfm (b:=91) h91;have hEnv:∀w',Fr nob wC w'→Env w':=fun w' f=>hE0.on ((HW.out.fr.trans' FC.out).trans' f);have hP:=fun w' (f:Fr nob wC w')=>Zio l ((s.at_:Int)+1) w' hl (hEnv w' f);rw[show((s.at_:Int)+1)=((s.at_+1:Nat):Int)from by simp,ZkK (by omega)]at hP;rw[show((s.at_+1:Nat):Int)=(s.at_:Int)+1 from by simp]at hP;have hw:IntKind.i64.wrap ((s.at_:Int)+1)=s.at_+1:=IntWalk.i64_in _ (by omega);have hcc:CC2 wC b (.string ⟨l.toArray⟩) (.int .i64 s.at_):=⟨k0,k1⟩;have HC:=hid hcc;obtain⟨P,hPP⟩:∃P,prs l (s.at_+1)=P:=⟨_,rfl⟩;rw[hPP]at hP hR;obtain⟨c,k,e0,hv,hcase⟩:∃(c:S4) (k:Nat) (e0:Int),Zne P=.tuple #[Zc5 c,.int .i64 k,.int .i64 e0]∧((e0≠0∧R=.inl (e0,k))∨(e0=0∧R=.inr (.one c,s.to k))):=by
    cases P with
    |inl z=>obtain⟨z1,z2⟩:=z;exact⟨S4.zero,z2,z1,rfl,.inl ⟨prs_err hPP,hR.symm⟩⟩
    |inr q=>obtain⟨c,k⟩:=q;exact⟨c,k,0,rfl,.inr ⟨rfl,hR.symm⟩⟩
   rw[hv]at hP;have HP:=hid hP;have HCS:=hid hcase;have rzA:=Zn (show(wC.alloc (.cells #[.int .u64 0,.int .u64 0,.int .u64 0,.int .u64 0] 132)).heap[wC.heap.size]? =some (.cells #[.int .u64 0,.int .u64 0,.int .u64 0,.int .u64 0] 132)from newAt0 wC _);have RZA:=hid rzA;clear hP hEnv k0 k1 j1 h91 h92 HEsc hcc hPP rzA hv hcase hR
   go_wp2_with fail
   go_region_held3 (fun w'=>CC2 w' b (.string ⟨l.toArray⟩) (.int .i64 s.at_)) (first|(with_reducible exact HC.out)|(with_reducible exact cc2_on HC.out ((Fr.refl nob wC).drew))|(with_reducible exact cc2_on HC.out (((Fr.refl nob wC).alloc _).drew))|(with_reducible exact cc2_on HC.out (((Fr.refl nob wC).drew).alloc _))|(with_reducible exact cc2_on HC.out G1)|(with_reducible exact cc2_on HC.out (G1.drew))|(with_reducible exact cc2_on HC.out (G1.alloc _))|(with_reducible exact cc2_on HC.out (setFour_frS G1 (Nat.le_refl _) _ _ _ _))|(with_reducible exact cc2_on HC.out (setFour_frS (G1.alloc _) G1.size _ _ _ _))|(trace_state;fail)) (first|(go_at_call 254;(first|((with_reducible refine(HP.out _ ((Fr.refl nob wC).drew)).mono ?_);rintro e g1 ⟨rfl,f1⟩;have G1:Fr nob wC g1:=((Fr.refl nob wC).drew).trans' f1;have hz:=newAt0 g1 (.cells #[.int .u64 0,.int .u64 0,.int .u64 0,.int .u64 0] 132);have HZ:=hid hz;have rz:=Zn hz _ (Fr.refl nob _))|((with_reducible refine(HP.out _ (((Fr.refl nob wC).alloc _).drew)).mono ?_);rintro e g1 ⟨rfl,f1⟩;have G1:Fr nob wC g1:=(((Fr.refl nob wC).alloc _).drew).trans' f1;have hz:=(((Fr.refl nob _).drew).trans' f1).heap (newAt0 wC (.cells #[.int .u64 0,.int .u64 0,.int .u64 0,.int .u64 0] 132)) (fun x=>x);have HZ:=hid hz;have rz:=RZA.out g1 (((Fr.refl nob _).drew).trans' f1)));clear f1 hz))
   ·obtain⟨wf,hwf⟩:∃wf,wf=g1.alloc (.cells #[.int .u64 c.a,.int .u64 c.b,.int .u64 c.c,.int .u64 c.d] 132):=⟨_,rfl⟩;have hset:At4 wf g1.heap.size c:=by rw[hwf];exact newAt0 g1 _
    have hfr:Fr nob wC wf:=by rw[hwf];exact G1.alloc _
    rw[←hwf];have HF:=hid hfr;have HSET:=hid hset;have hge:wC.heap.size≤g1.heap.size:=(G1.size);clear hwf hfr hset rz;rcases HCS.out with⟨hne,hR⟩|⟨hne,hR⟩
    ·subst hR;have hz':((e0:Int) !=0)=true:=by simpa using hne
     go_wp2_with(go_at_call 231;(with_reducible refine(br_fail e0 k _).mono ?_);rintro e w' ⟨rfl,rfl⟩)
     exact⟨rfl,rfl,S,(Stp.of FC.out).trans (Stp.of HF.out)⟩
    ·subst hR;subst hne;have hBf:=HBC.out.on HF.out;have hbl:=lt_heap HBC.out.blk;have hcl:=lt_heap HSET.out;have hnb:g1.heap.size≠b:=by omega
     obtain⟨⟨_,n1,_⟩,_,n2,_⟩:=Zd hBf.blk _ (Fr.refl _ _);have HBf:=hid hBf;clear hBf;have hq6:Q4 (wf.setCell ⟨b,1,none⟩ (.int .i64 (k:Nat))) g1.heap.size c:=by
      have g:=(Fr.refl (fun i=>i=b) wf).setCell (p:=⟨b,1,none⟩) (fun _=>rfl) (.int .i64 (k:Nat));have q:=Q4.of HSET.out;exact⟨g.cell q.1 hnb,g.cell q.2.1 hnb,g.cell q.2.2.1 hnb,g.cell q.2.2.2 hnb⟩
     go_wp2;go_ret;exact⟨_,_,S,rfl,by rw[RN];rfl,⟨_,_,HBf.out.turned 1 _ (s.to k) (by simp[RxS.to]) rfl rfl⟩,((Stp.of FC.out).trans (Stp.of HF.out)).trans (HBf.out.stp 1 _)⟩
   ·obtain⟨wf,hwf⟩:∃wf,wf=((((g1.setCell ⟨wC.heap.size,0,none⟩ (.int .u64 c.a)).setCell ⟨wC.heap.size,1,none⟩ (.int .u64 c.b)).setCell ⟨wC.heap.size,2,none⟩ (.int .u64 c.c)).setCell ⟨wC.heap.size,3,none⟩ (.int .u64 c.d)):=⟨_,rfl⟩;have hset:At4 wf wC.heap.size c:=by rw[hwf];with_reducible exact setFour_heap HZ.out _ _ _ _
    have hfr:Fr nob wC wf:=by rw[hwf];exact setFour_frS (G1) (Nat.le_refl _) _ _ _ _
    rw[←hwf];have HF:=hid hfr;have HSET:=hid hset;have hge:wC.heap.size≤wC.heap.size:=(Nat.le_refl _);clear hwf hfr hset rz;rcases HCS.out with⟨hne,hR⟩|⟨hne,hR⟩
    ·subst hR;have hz':((e0:Int) !=0)=true:=by simpa using hne
     go_wp2_with(go_at_call 231;(with_reducible refine(br_fail e0 k _).mono ?_);rintro e w' ⟨rfl,rfl⟩)
     exact⟨rfl,rfl,S,(Stp.of FC.out).trans (Stp.of HF.out)⟩
    ·subst hR;subst hne;have hBf:=HBC.out.on HF.out;have hbl:=lt_heap HBC.out.blk;have hcl:=lt_heap HSET.out;have hnb:wC.heap.size≠b:=by omega
     obtain⟨⟨_,n1,_⟩,_,n2,_⟩:=Zd hBf.blk _ (Fr.refl _ _);have HBf:=hid hBf;clear hBf;have hq6:Q4 (wf.setCell ⟨b,1,none⟩ (.int .i64 (k:Nat))) wC.heap.size c:=by
      have g:=(Fr.refl (fun i=>i=b) wf).setCell (p:=⟨b,1,none⟩) (fun _=>rfl) (.int .i64 (k:Nat));have q:=Q4.of HSET.out;exact⟨g.cell q.1 hnb,g.cell q.2.1 hnb,g.cell q.2.2.1 hnb,g.cell q.2.2.2 hnb⟩
     go_wp2;go_ret;exact⟨_,_,S,rfl,by rw[RN];rfl,⟨_,_,HBf.out.turned 1 _ (s.to k) (by simp[RxS.to]) rfl rfl⟩,((Stp.of FC.out).trans (Stp.of HF.out)).trans (HBf.out.stp 1 _)⟩
  ·rw[if_neg h91]at hR;have t2:((x.toNat:Int)==91)=false:=ZG (b:=91) h91;obtain⟨w1,hw1⟩:∃w1,w1=wC.setCell ⟨b,1,none⟩ (.int .i64 ((s.at_:Int)+1)):=⟨_,rfl⟩;have hB1:Br b l (s.go 1) S cv mv w1:=by rw[hw1];exact HBC.out.turned 1 _ (s.go 1) (by simp[RxS.go]) rfl rfl
   have hS1:Stp S w S w1:=by rw[hw1];exact(Stp.of FC.out).trans (HBC.out.stp 1 _)
   have hsz:w1.heap.size=wC.heap.size:=by rw[hw1];simp[World.setCell]
   have HW1:=hid hw1;have HB1:=hid hB1;have HS1:=hid hS1;clear hw1 hB1 hS1 h92 h91 HEsc;by_cases h46:x=46
   ·rw[if_pos h46]at hR;have t3:((x.toNat:Int)==46)=true:=Zfm (b:=46) h46;have hsp:=Zgz 0 255 w1 (by decide) (by decide);rw[show((0:Nat):Int)=0 from rfl,show((255:Nat):Int)=255 from rfl]at hsp;obtain⟨u,hu⟩:∃u,spn 0 255=u:=⟨_,rfl⟩;rw[hu]at hsp hR;subst hR;have HSP:=hid hsp;clear h46 hsp hu
    go_wp2_with(rw[←HW1.out])
    with_reducible refine(HSP.out).mono ?_
    rintro e w2 ⟨rfl,f2⟩;have F2:=hid f2;clear f2;go_wp2;go_ret;exact⟨_,_,S,rfl,by unfold prg;rw[RN];rfl,⟨_,_,HB1.out.on F2.out⟩,HS1.out.trans (Stp.of F2.out)⟩
   ·rw[if_neg h46]at hR;have t3:((x.toNat:Int)==46)=false:=ZG (b:=46) h46;have ho:=Zc6 x w1 5;obtain⟨u,hu⟩:∃u,spn x.toNat x.toNat=u:=⟨_,rfl⟩;rw[hu,hsz]at ho;rw[hu]at hR;subst hR;have HO:=hid ho;clear h46 ho hu
    go_wp2_with(rw[←HW1.out])
    with_reducible refine(HO.out).mono ?_
    rintro e w2 ⟨rfl,f2⟩;have F2:=hid (((Fr.refl nob w1).alloc _).trans' f2);clear f2;go_wp2;go_ret;exact⟨_,_,S,rfl,by unfold prg;rw[RN];rfl,⟨_,_,HB1.out.on F2.out⟩,HS1.out.trans (Stp.of F2.out)⟩
def PO(O:Nat→Prop)(v:Value):Nat→Prop:=fun k=>O k∨v.ownBlock=some k
def Pts(S O:Nat→Prop)(W w:World)(ps:List Nd)(v:Value):Prop:=OwnNS (SO S O) w ps v v.ownBlock∧∀k,v.ownBlock=some k→¬S k∧W.heap.size≤k
def Off(S:Nat→Prop)(W w w':World):Prop:=∃X,Fr X w w'∧∀k,X k→¬S k∧W.heap.size≤k
theorem Pts.nil(S O:Nat→Prop)(W w:World):Pts S O W w [] (.slice none 0 0):=⟨OwnNS.nil _ _,fun _ h=>by cases h⟩
theorem Pts.shape{S O:Nat→Prop}{W w:World}{ps:List Nd}{v:Value}(h:Pts S O W w ps v):∃a c,v=.slice a ps.length c:=h.1.shape
theorem Pts.stp{S O S':Nat→Prop}{W w w':World}{ps:List Nd}{v:Value}(h:Pts S O W w ps v)(hs:Stp S w S' w'):Pts S' O W w' ps v:=by
 obtain⟨h,hb⟩:=h;have hlt:=h.lt;obtain⟨vs,h1,h2,h3⟩:=h;refine⟨⟨vs,ownsRow_fr h1 hs.fr (fun k hk=>(hb k hk).1),h2.keep hs.fr (fun k _ x=>.inl (.inl x)) (fun k hk x=> ?_),h3⟩,fun k hk=>⟨fun x=>(hb k hk).1 (hs.old k (hlt k hk) x),(hb k hk).2⟩⟩;rcases x with(x|x)|x
 ·exact .inl (.inl (hs.old k hk x))
 ·exact .inl (.inr x)
 ·exact .inr x
theorem Pts.on{S O:Nat→Prop}{W w w':World}{ps:List Nd}{v:Value}(h:Pts S O W w ps v)(f:Fr nob w w'):Pts S O W w' ps v:=h.stp (Stp.of f)
theorem Pts.lt{S O:Nat→Prop}{W w:World}{ps:List Nd}{v:Value}(h:Pts S O W w ps v)(hO:∀k,O k→k<w.heap.size):∀k,PO O v k→k<w.heap.size:=fun k hk=>hk.elim (hO k) (h.1.lt k)
theorem Pts.sn{S O:Nat→Prop}{W w:World}{ps:List Nd}{v:Value}(h:Pts S O W w ps v)(hO:∀k,O k→k<W.heap.size):SN (SO S O) w ps v:=
 h.1.sn fun k hk x=>x.elim (h.2 k hk).1 (fun y=>by have:=hO k y;have:=(h.2 k hk).2;omega)
theorem Br.off{b:Nat}{l:List UInt8}{s:RxS}{S:Nat→Prop}{cv mv:Value}{W w w':World}(h:Br b l s S cv mv w)(f:Off S W w w'):Br b l s S cv mv w':=by
 obtain⟨X,f,hX⟩:=f;exact⟨f.heap h.blk (fun x=>(hX _ x).1 h.me),ownsRow_fr h.cl f (fun k hk x=>(hX _ x).1 (h.nc k hk).2),ownsRow_fr h.ma f (fun k hk x=>(hX _ x).1 (h.nm k hk).2),h.nc,h.nm,h.ne,h.me⟩
theorem Rdg.off{b:Nat}{l:List UInt8}{s:RxS}{S:Nat→Prop}{W w w':World}(h:Rdg b l s S w)(f:Off S W w w'):Rdg b l s S w':=by
 obtain⟨cv,mv,h⟩:=h;exact⟨cv,mv,h.off f⟩
theorem Stp.off{S0 S:Nat→Prop}{W w w':World}(h:Stp S0 W S w)(f:Off S W w w'):Stp S0 W S w':=by
 obtain⟨X,f,hX⟩:=f;exact⟨h.fr.trans f (fun i hi x=>by have:=(hX i x).2;omega),h.old,fun hl k hk=>Nat.lt_of_lt_of_le (h.lt hl k hk) f.size⟩
theorem wpList_append_pts{W w0:World}{S O:Nat→Prop}{ops:Array Oper}{rest:List Oper}{o:Oper}{a:Act}{Q:Exit→Act→World→Prop}(hgd:o.guard=none)(s x:Operand)
 (ho:o.op=.call {callee:=.builtin .append,args:= #[s,x],argTypes:= #[127,127]})
 (ps:List Nd) (t:Nd) (v val:Value) (e:TypeId) (b:Nat) (hs:a.eval s=v) (hp:Pts S O W w0 ps v) (hlt:∀k,S k→k<w0.heap.size) (hO:∀k,O k→k<w0.heap.size) (hW:W.heap.size≤w0.heap.size) (hb:b=w0.heap.size)
 (hx:a.eval x=.slice (some ⟨b,0,none⟩) 1 1) (hv:RN (SO S (PO O v)) w0 t val) (hl:ps.length≤2000000)
 (h:∀v' w',Pts S O W w' (ps++[t]) v'→Off S W w0 w'→wpList Tryz.prog ops Q rest (a.put o.dst v') w'):wpList Tryz.prog ops Q (o::rest) a (w0.alloc (.cells #[val] e)):=by
 have hv':RN (LGS (SO S O) v.ownBlock) w0 t val:=RN.keep (Fr.refl nob w0) (fun _ _ x=>x.elim) (fun k _ x=>by
  rcases x with(x|x)|x
  ·exact .inl x
  ·exact .inr (.inl x)
  ·exact .inr (.inr x)) _ _ hv
 have hsn:SN (LGS (SO S O) v.ownBlock) (w0.alloc (.cells #[val] e)) [t] (.slice (some ⟨b,0,none⟩) 1 1):=SN.one' hv' (fun k x=>by
  rcases x with(x|x)|x
  ·exact hlt k x
  ·exact hO k x
  ·exact hp.1.lt k x) e hb
 have hown:=hp.1.on ((Fr.refl nob w0).alloc (.cells #[val] e));refine Za5 hgd s x ho ps [t] v _ v.ownBlock hs hown hx hsn (by simp;omega) fun v' w' g' q1 q2 q3=> ?_;have hg':v'.ownBlock=g':=q1.blk;subst hg';have hal:w0.heap.size≤(w0.alloc (.cells #[val] e)).heap.size:=((Fr.refl nob w0).alloc _).size;refine h v' w' ⟨q1,fun k hk=> ?_⟩ ⟨LG v.ownBlock,((Fr.refl (LG v.ownBlock) w0).alloc _).trans' q2,fun k hk=>hp.2 k hk⟩;rcases q3 k hk with hk|hk
 ·exact hp.2 k hk
 ·refine⟨fun x=>by have:=hlt k x;omega,?_⟩;exact Nat.le_trans (Nat.le_trans hW hal) hk
def Nd.unit:Nd→Bool
 | .one _| .rep .. | .group .. | .back _| .start| .fin=>true
 |_=>false
def Zdl(ps:List Nd):Prop:=∀t∈ps,t.unit=true
theorem Zdl.snoc{ps:List Nd}{t:Nd}(h:Zdl ps)(ht:t.unit=true):Zdl (ps++[t]):=fun x hx=>by
 rcases List.mem_append.1 hx with hx|hx
 ·exact h x hx
 ·rw[List.mem_singleton.1 hx];exact ht
theorem unit_part{t:Nd}(h:t.unit=true):t.part=[t]:=by cases t<;>first|rfl|cases h
theorem ZfK{ps:List Nd}(h:Zdl ps):parts ps=ps:=by
 induction ps with
 |nil=>rfl
 |cons t ts ih=>
  show t.part++parts ts=_;rw[unit_part (h t (by simp)),ih (fun x hx=>h x (by simp[hx]))];rfl
def Nd.brn:Nd→Prop
 | .empty=>True
 | .cat l=>1<l.length∧Zdl l
 |t=>t.unit=true
theorem joined_brn{ps:List Nd}(h:Zdl ps):(ZbN ps).brn:=by
 unfold ZbN;rw[ZfK h]
 match ps,h with
 |[],_=>trivial
 |[x],h=>
  have:=h x (by simp);show x.brn;cases x<;>first|exact this|cases this
 |x::y::r,h=>exact⟨by simp,h⟩
theorem Zlx{t:Nd}(h:t.brn):t.arm=[t]:=by cases t<;>first|rfl|cases h
def Zly(ts:List Nd):Prop:=∀t∈ts,t.brn
theorem Zly.snoc{ts:List Nd}{t:Nd}(h:Zly ts)(ht:t.brn):Zly (ts++[t]):=fun x hx=>by
 rcases List.mem_append.1 hx with hx|hx
 ·exact h x hx
 ·rw[List.mem_singleton.1 hx];exact ht
theorem brns_arms{ts:List Nd}(h:Zly ts):arms ts=ts:=by
 induction ts with
 |nil=>rfl
 |cons t r ih=>
  show t.arm++arms r=_;rw[Zlx (h t (by simp)),ih (fun x hx=>h x (by simp[hx]))];rfl
theorem ZfL{ts:List Nd}(h:Zly ts):ZbD ts=Zc8 ts (.alt ts):=by unfold ZbD;rw[brns_arms h]
theorem Zhx{ts:List Nd}(h:Zly ts):ZbD ts≠.nil:=by
 rw[ZfL h]
 match ts,h with
 |[],_=>intro e;cases e
 |[x],h=>intro e;have:=h x (by simp);rw[show x=Nd.nil from e]at this;cases this
 |x::y::r,_=>intro e;cases e
theorem repS_unit{l:List UInt8}:∀(n:Nat) (s:RxS) (t t':Nd) (s':RxS),t.unit=true→Zbu prg l n s t=.inr (t',s')→t'.unit=true
 |0,s,t,t',s',ht,h=>by rw[Zbu]at h;injection h with h;injection h with h1 h2;subst h1;exact ht
 |n+1,s,t,t',s',ht,h=>by
  rw[Zbu]at h;split at h
  ·exact repS_unit n _ _ _ _ (by rfl) h
  ·split at h
   ·exact repS_unit n _ _ _ _ (by rfl) h
   ·split at h
    ·split at h
     ·cases h
     ·exact repS_unit n _ _ _ _ (by rfl) h
    ·split at h
     ·exact repS_unit n _ _ _ _ (by rfl) h
     ·injection h with h;injection h with h1 h2;subst h1;exact ht
theorem groupS_unit{l:List UInt8}{C:Option (RxS→Out Nd)}{p:Nat}{s s':RxS}{t:Nd}(h:Za4 prg l C p s=.inr (t,s')):t.unit=true:=by
 unfold Za4 at h;split at h
 ·cases h
 ·split at h
  ·cases h
  ·split at h
   ·injection h with h;injection h with h1 h2;subst h1;rfl
   ·cases h
theorem atomS_unit{l:List UInt8}{C:Option (RxS→Out Nd)}{s s':RxS}{t:Nd}{b:UInt8}(h:Zbv prg l C s b=.inr (t,s')):t.unit=true:=by
 unfold Zbv at h;split at h
 ·unfold Zjx at h;split at h
  ·cases h
  ·split at h
   ·exact groupS_unit h
   ·split at h
    ·cases h
    ·split at h
     ·split at h
      ·injection h with h;injection h with h1 h2;subst h1;rfl
      ·cases h
     ·split at h
      ·cases h
      ·injection h with h;injection h with h1 h2;subst h1;rfl
 ·split at h
  ·split at h
   ·cases h
   ·injection h with h;injection h with h1 h2;subst h1;rfl
  ·split at h
   ·injection h with h;injection h with h1 h2;subst h1;rfl
   ·injection h with h;injection h with h1 h2;subst h1;rfl
theorem rndS_unit{l:List UInt8}{C:Option (RxS→Out Nd)}{s s':RxS}{t:Nd}{b:UInt8}(h:ZhU l C s b=.inr (t,s')):t.unit=true:=by
 unfold ZhU at h;split at h
 ·cases h
 ·next hp=>exact repS_unit _ _ _ _ _ (atomS_unit hp) h
theorem brS_brn{l:List UInt8}{C:Option (RxS→Out Nd)}{inner:Bool}:∀(n:Nat) (front:Bool) (s:RxS) (ps:List Nd) (t:Nd) (s':RxS),Zdl ps→brS prg l C inner n front s ps=.inr (t,s')→t.brn
 |0,front,s,ps,t,s',hu,h=>by rw[brS]at h;injection h with h;injection h with h1 h2;subst h1;exact joined_brn hu
 |n+1,front,s,ps,t,s',hu,h=>by
  by_cases hl:s.at_<l.length
  ·cases h1:(ahd l s.at_ [92,124]||(inner&&ahd l s.at_ [92,41]))with
   |true=>rw[ZcR hl h1]at h;injection h with h;injection h with h1 h2;subst h1;exact joined_brn hu
   |false=>
    cases h2:(front&&(ahd l s.at_ [92,123]||(ahd l s.at_ [92,43]||ahd l s.at_ [92,63])))with
    |true=>rw[Zdb hl h1 h2]at h;cases h
    |false=>
     cases h3:(ahd l s.at_ [36]&&Zbk l s.at_)with
     |true=>rw[Zd4 hl h1 h2 h3]at h;exact brS_brn n _ _ _ _ _ (hu.snoc (by rfl)) h
     |false=>
      rw[Zdx hl h1 h2 h3]at h;cases hr:ZhU l C s l[s.at_]with
      |inl e=>rw[hr]at h;cases h
      |inr z=>
       obtain⟨t1,s1⟩:=z;rw[hr]at h;exact brS_brn n _ _ _ _ _ (hu.snoc (rndS_unit hr)) h
  ·rw[Zd3 (by omega)]at h;injection h with h;injection h with h1 h2;subst h1;exact joined_brn hu
theorem branchS_brn{l:List UInt8}{C:Option (RxS→Out Nd)}{inner:Bool}{s s':RxS}{t:Nd}(h:branchS prg l C inner s=.inr (t,s')):t.brn:=by
 unfold branchS at h;split at h
 ·exact brS_brn _ _ _ _ _ _ (fun x hx=>by rw[List.mem_singleton.1 hx];rfl) h
 ·exact brS_brn _ _ _ _ _ _ (fun x hx=>by cases hx) h
theorem ZfM{t:Nd}(h:t.brn):t≠.nil:=by rintro rfl;cases h
theorem RN.kind'{S:Nat→Prop}{w:World}{t:Nd}{v:Value}(h:RN S w t v):t=.nil∨∃i x,v=.iface i x:=by
 cases t with
 |nil=>exact .inl rfl
 |_=>exact .inr (by rcases h.shape with e|e<;>first|exact e|(subst e;rw[RN]at h;first|(obtain⟨_,h,_⟩:=h;cases h;done)|(cases h;done)))
theorem RN.some{S:Nat→Prop}{w:World}{t:Nd}{v:Value}(h:RN S w t v)(ht:t≠.nil):∃i x,v=.iface i x:=by
 rcases h.kind' with h|h
 ·exact absurd h ht
 ·exact h
end Go.Proofs.YtkfddjopbocpkaaGreatDoor
