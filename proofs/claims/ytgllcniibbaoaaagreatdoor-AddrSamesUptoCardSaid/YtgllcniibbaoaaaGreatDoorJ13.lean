/- Lemmas of this claim. -/
import Derived.Test.YtgllcniibbaoaaaGreatDoorJ11
import Derived.Test.YtgllcniibbaoaaaGreatDoorJ12
set_option linter.all false
set_option maxRecDepth 100000
set_option maxHeartbeats 24000000
namespace Go.Proofs.YtgllcniibbaoaaaGreatDoor
open Go.Proofs.Tryz
open Go.RowKit
def ZcC(l:List UInt8)(c:Nat)(f:RxS→Out Nd):Prop:=∀s,Sane l s→∀t s',f s=.inr (t,s')→Sane l s'∧s.at_≤s'.at_∧t.size+s.at_≤s'.at_+c
theorem ZcC.kept{l:List UInt8}{c:Nat}{f:RxS→Out Nd}(h:ZcC l c f):Zpx l f:=fun s hs t s' e=>⟨(h s hs t s' e).1,(h s hs t s' e).2.1⟩
section
variable {l:List UInt8} {s:RxS} (hs:Sane l s)
include hs
theorem Sane.go{n:Nat}(h:s.at_+n≤l.length):Sane l (s.go n):=
 ⟨h,Nat.le_trans hs.mr (Nat.le_add_right _ _),Nat.le_trans hs.cl (Nat.le_add_right _ _),Nat.le_trans hs.op (Nat.le_add_right _ _)⟩
theorem Sane.to{n:Nat}(h:s.at_≤n)(h':n≤l.length):Sane l (s.to n):=
 ⟨h',Nat.le_trans hs.mr h,Nat.le_trans hs.cl h,Nat.le_trans hs.op h⟩
theorem Sane.markgo{n:Nat}(t:List UInt8)(hn:1≤n)(h:s.at_+n≤l.length):Sane l ((s.mark t).go n):=
 ⟨h,by have:=hs.mr;show(s.marks++[_]).length≤s.at_+n;simp;omega,Nat.le_trans hs.cl (Nat.le_add_right _ _),Nat.le_trans hs.op (Nat.le_add_right _ _)⟩
end
theorem ZaA{l:List UInt8}:∀(n:Nat) (s:RxS) (t:Nd) (t':Nd) (s':RxS),Sane l s→ZbW prg l n s t=.inr (t',s')→Sane l s'∧s.at_≤s'.at_∧t'.size+s.at_≤s'.at_+t.size
 |0,s,t,t',s',hs,h=>by
  rw[ZbW]at h;injection h with h;injection h with h1 h2;subst h1;subst h2;exact⟨hs,Nat.le_refl _,by omega⟩
 |n+1,s,t,t',s',hs,h=>by
  have hz:∀a b,(prg.rep t a b).size=1+t.size:=fun _ _=>rfl;cases e1:ahd l s.at_ [92,43]with
  |true=>
   rw[Zf3 e1]at h;have hle:=ahd_le e1 (by decide);simp only[List.length_cons,List.length_nil]at hle;obtain⟨k1,k2,k3⟩:=ZaA n _ _ _ _ (hs.markgo _ (by omega) hle) h;rw[hz]at k3;refine⟨k1,?_,?_⟩
   ·have:s.at_+2≤s'.at_:=k2;omega
   ·have:1+0+t'.size+(s.at_+2)≤1+0+s'.at_+(1+t.size):=by have:t'.size+(s.at_+2)≤s'.at_+(1+t.size):=k3;omega
    omega
  |false=>
   cases e2:ahd l s.at_ [92,63]with
   |true=>
    rw[ZeB e1 e2]at h;have hle:=ahd_le e2 (by decide);simp only[List.length_cons,List.length_nil]at hle;obtain⟨k1,k2,k3⟩:=ZaA n _ _ _ _ (hs.markgo _ (by omega) hle) h;rw[hz]at k3;refine⟨k1,?_,?_⟩
    ·have:s.at_+2≤s'.at_:=k2;omega
    ·have:t'.size+(s.at_+2)≤s'.at_+(1+t.size):=k3;omega
   |false=>
    cases e3:ahd l s.at_ [92,123]with
    |true=>
     have hle:=ahd_le e3 (by decide);simp only[List.length_cons,List.length_nil]at hle;cases e4:Zfw l (s.at_+2)with
     |none=>rw[Zij e1 e2 e3 e4]at h;cases h
     |some q=>
      obtain⟨m,x,k⟩:=q;rw[ZeC e1 e2 e3 e4]at h;obtain⟨g1,g2,_⟩:=Zks (by omega) e4;obtain⟨k1,k2,k3⟩:=ZaA n _ _ _ _ (hs.to (by omega) g2) h;rw[hz]at k3;refine⟨k1,?_,?_⟩
      ·have:k≤s'.at_:=k2;omega
      ·have:t'.size+k≤s'.at_+(1+t.size):=k3;omega
    |false=>
     cases e4:ahd l s.at_ [42]with
     |true=>
      have hle:=ahd_le e4 (by decide);simp only[List.length_singleton]at hle;rw[repS_star e1 e2 e3 e4]at h;obtain⟨k1,k2,k3⟩:=ZaA n _ _ _ _ (hs.go hle) h;rw[hz]at k3;refine⟨k1,?_,?_⟩
      ·have:s.at_+1≤s'.at_:=k2;omega
      ·have:t'.size+(s.at_+1)≤s'.at_+(1+t.size):=k3;omega
     |false=>
      rw[Zik e1 e2 e3 e4]at h;injection h with h;injection h with h1 h2;subst h1;subst h2;exact⟨hs,Nat.le_refl _,by omega⟩
theorem Zhj{l:List UInt8}{C:Option (RxS→Out Nd)}(hC:∀f,C=some f→ZcC l 2 f){p:Nat}{s s':RxS}{t:Nd}(hs:Sane l s)(h1:s.opened<s.at_)(h:Zbs prg l C p s=.inr (t,s')):
 Sane l s'∧s.at_+2≤s'.at_∧t.size+s.at_≤s'.at_+1:=by
 cases C with
 |none=>cases h
 |some f=>
  unfold Zbs at h;simp only at h;cases hf:f {s with opened:=s.opened+1}with
  |inl e=>rw[hf]at h;cases h
  |inr z=>
   obtain⟨t1,s1⟩:=z;rw[hf]at h;simp only at h;obtain⟨k1,k2,k3⟩:=hC f rfl {s with opened:=s.opened+1} ⟨hs.le,hs.mr,hs.cl,h1⟩ t1 s1 hf;have k2:s.at_≤s1.at_:=k2;have k3:t1.size+s.at_≤s1.at_+2:=k3;split at h
   ·next ha=>
    have a:=ahd_le ha (by decide);simp only[List.length_cons,List.length_nil]at a;injection h with h;injection h with h2 h3;subst h2;subst h3;refine⟨⟨a,Nat.le_trans k1.mr (Nat.le_add_right _ _),?_,?_⟩,?_,?_⟩
    ·show(s1.closed++[_]).length≤s1.at_+2;have:=k1.cl;simp;omega
    ·exact Nat.le_trans k1.op (Nat.le_add_right _ _)
    ·show s.at_+2≤s1.at_+2;omega
    ·show(1+t1.size)+s.at_≤s1.at_+2+1;omega
   ·cases h
theorem Zky{l:List UInt8}{C:Option (RxS→Out Nd)}(hC:∀f,C=some f→ZcC l 2 f){s s':RxS}{t:Nd}(hs:Sane l s)(h:ZlI prg l C s=.inr (t,s')):
 Sane l s'∧s.at_<s'.at_∧t.size+s.at_≤s'.at_:=by
 by_cases hl:s.at_+1<l.length
 ·rw[Zkw hl]at h;split at h
  ·next ha=>
   have:=hs.op;obtain⟨k1,k2,k3⟩:=Zhj hC (hs.go (n:=2) (by omega)) (by show s.opened<s.at_+2;omega) h;have k2:s.at_+2+2≤s'.at_:=k2;have k3:t.size+(s.at_+2)≤s'.at_+1:=k3;exact⟨k1,by omega,by omega⟩
  ·split at h
   ·cases h
   ·split at h
    ·split at h
     ·injection h with h;injection h with h2 h3;subst h2;subst h3;exact⟨hs.go (by omega),by show s.at_<s.at_+2;omega,by show 1+s.at_≤s.at_+2;omega⟩
     ·cases h
    ·split at h
     ·injection h with h;injection h with h2 h3;subst h2;subst h3;split
      ·exact⟨hs.markgo _ (by omega) (by omega),by show s.at_<s.at_+2;omega,by show 1+s.at_≤s.at_+2;omega⟩
      ·exact⟨hs.go (by omega),by show s.at_<s.at_+2;omega,by show 1+s.at_≤s.at_+2;omega⟩
     ·cases h
 ·rw[Zf4 (by omega)]at h;cases h
theorem Zbw{l:List UInt8}{C:Option (RxS→Out Nd)}(hC:∀f,C=some f→ZcC l 2 f){s s':RxS}{t:Nd}{b:UInt8}(hs:Sane l s)(ha:s.at_<l.length)(h:Zb0 prg l C s b=.inr (t,s')):
 Sane l s'∧s.at_<s'.at_∧t.size+s.at_≤s'.at_:=by
 unfold Zb0 at h;split at h
 ·exact Zky hC hs h
 ·split at h
  ·cases hp:prs l (s.at_+1)with
   |inl z=>rw[hp]at h;cases h
   |inr y=>
    obtain⟨c,k⟩:=y;rw[hp]at h;injection h with h;injection h with h2 h3;subst h2;subst h3;obtain⟨p1,p2,p3⟩:=Zke hp;have p2:s.at_+1<k:=p2;have p3:k≤l.length:=p3;exact⟨hs.to (by omega) p3,by show s.at_<k;omega,by show 1+s.at_≤k;omega⟩
  ·split at h
   ·injection h with h;injection h with h2 h3;subst h2;subst h3;exact⟨hs.go (by omega),by show s.at_<s.at_+1;omega,by show 1+s.at_≤s.at_+1;omega⟩
   ·injection h with h;injection h with h2 h3;subst h2;subst h3;exact⟨hs.go (by omega),by show s.at_<s.at_+1;omega,by show 1+s.at_≤s.at_+1;omega⟩
theorem Zf5{l:List Nd}{n:Nd}{k:Nat}(h1:1≤k)(h2:Nd.sizes l≤k)(h3:n.size≤k):(Zd3 l n).size≤k:=by
 match l,h2 with
 |[],_=>exact h1
 |[x],h2=>simpa[Zd3,Nd.sizes]using h2
 |_::_::_,_=>exact h3
theorem Zbx(l:List Nd):(Za2 l).size≤Nd.sizes l+1:=
 have h:=ZcA l
 Zf5 (by omega) (by omega) (by show 1+Nd.sizes (parts l)≤_;omega)
theorem Zby(l:List Nd):(Za3 l).size≤Nd.sizes l+1:=
 have h:=Zdf l
 Zf5 (by omega) (by omega) (by show 1+Nd.sizes (arms l)≤_;omega)
def ZjJ(l:List UInt8)(C:Option (RxS→Out Nd))(s:RxS)(b:UInt8):Out Nd:=
 match Zb0 prg l C s b with
 | .inl e=>.inl e
 | .inr (t,s1)=>ZbW prg l (l.length+1) s1 t
theorem Zkz{l:List UInt8}{C:Option (RxS→Out Nd)}(hC:∀f,C=some f→ZcC l 2 f){s s':RxS}{t:Nd}{b:UInt8}(hs:Sane l s)(ha:s.at_<l.length)(h:ZjJ l C s b=.inr (t,s')):
 Sane l s'∧s.at_<s'.at_∧t.size+s.at_≤s'.at_:=by
 unfold ZjJ at h;cases hp:Zb0 prg l C s b with
 |inl z=>rw[hp]at h;cases h
 |inr y=>
  obtain⟨t1,s1⟩:=y;rw[hp]at h;simp only at h;obtain⟨k1,k2,k3⟩:=Zbw hC hs ha hp;obtain⟨j1,j2,j3⟩:=ZaA _ _ _ _ _ k1 h;exact⟨j1,by omega,by omega⟩
section
variable {l:List UInt8} {C:Option (RxS→Out Nd)} {inner front:Bool} {n:Nat} {s:RxS} {ps:List Nd}
theorem Zfi(h:l.length≤s.at_):brS prg l C inner (n+1) front s ps=.inr (Za2 ps,s):=by
 rw[brS,List.getElem?_eq_none h];rfl
theorem ZdH(h:s.at_<l.length)(h1:(ahd l s.at_ [92,124]||(inner&&ahd l s.at_ [92,41]))=true):brS prg l C inner (n+1) front s ps=.inr (Za2 ps,s):=by
 rw[brS,List.getElem?_eq_getElem h];simp only;rw[if_pos h1];rfl
theorem Zd6(h:s.at_<l.length)(h1:(ahd l s.at_ [92,124]||(inner&&ahd l s.at_ [92,41]))=false)(h2:(front&&(ahd l s.at_ [92,123]||(ahd l s.at_ [92,43]||ahd l s.at_ [92,63])))=true):
 brS prg l C inner (n+1) front s ps=.inl (10,s.at_):=by
 rw[brS,List.getElem?_eq_getElem h];simp only;rw[if_neg (by rw[h1];decide),if_pos h2]
theorem Zfj(h:s.at_<l.length)(h1:(ahd l s.at_ [92,124]||(inner&&ahd l s.at_ [92,41]))=false)(h2:(front&&(ahd l s.at_ [92,123]||(ahd l s.at_ [92,43]||ahd l s.at_ [92,63])))=false)(h3:(ahd l s.at_ [36]&&ZbL l s.at_)=true):
 brS prg l C inner (n+1) front s ps=brS prg l C inner n false (s.go 1) (ps++[.fin]):=by
 rw[brS,List.getElem?_eq_getElem h];simp only;rw[if_neg (by rw[h1];decide),if_neg (by rw[h2];decide),if_pos h3];rfl
theorem ZeD(h:s.at_<l.length)(h1:(ahd l s.at_ [92,124]||(inner&&ahd l s.at_ [92,41]))=false)(h2:(front&&(ahd l s.at_ [92,123]||(ahd l s.at_ [92,43]||ahd l s.at_ [92,63])))=false)(h3:(ahd l s.at_ [36]&&ZbL l s.at_)=false):
 brS prg l C inner (n+1) front s ps=match ZjJ l C s l[s.at_]with| .inl e=>.inl e| .inr (t,s2)=>brS prg l C inner n false s2 (ps++[t]):=by
 rw[brS,List.getElem?_eq_getElem h];simp only;rw[if_neg (by rw[h1];decide),if_neg (by rw[h2];decide),if_neg (by rw[h3];decide)];unfold ZjJ;cases Zb0 prg l C s l[s.at_]with
 |inl e=>rfl
 |inr z=>obtain⟨t,s1⟩:=z;simp only;cases ZbW prg l (l.length+1) s1 t<;>rfl
end
theorem ZdI{l:List UInt8}{C:Option (RxS→Out Nd)}(hC:∀f,C=some f→ZcC l 2 f){inner:Bool}:∀(n:Nat) (front:Bool) (s:RxS) (ps:List Nd) (t:Nd) (s':RxS),Sane l s→brS prg l C inner n front s ps=.inr (t,s')→
 Sane l s'∧s.at_≤s'.at_∧t.size+s.at_≤s'.at_+Nd.sizes ps+1
 |0,front,s,ps,t,s',hs,h=>by
  rw[brS]at h;injection h with h;injection h with h1 h2;subst h1;subst h2;have:=Zbx ps;exact⟨hs,Nat.le_refl _,by show(Za2 ps).size+s.at_≤_;omega⟩
 |n+1,front,s,ps,t,s',hs,h=>by
  have hj:=Zbx ps;by_cases hl:s.at_<l.length
  ·cases h1:(ahd l s.at_ [92,124]||(inner&&ahd l s.at_ [92,41]))with
   |true=>
    rw[ZdH hl h1]at h;injection h with h;injection h with h1 h2;subst h1;subst h2;exact⟨hs,Nat.le_refl _,by omega⟩
   |false=>
    cases h2:(front&&(ahd l s.at_ [92,123]||(ahd l s.at_ [92,43]||ahd l s.at_ [92,63])))with
    |true=>rw[Zd6 hl h1 h2]at h;cases h
    |false=>
     cases h3:(ahd l s.at_ [36]&&ZbL l s.at_)with
     |true=>
      rw[Zfj hl h1 h2 h3]at h;obtain⟨k1,k2,k3⟩:=ZdI hC n _ _ _ _ _ (hs.go (n:=1) (by omega)) h;rw[Nd.sizes_append]at k3;have k2:s.at_+1≤s'.at_:=k2;have k3:t.size+(s.at_+1)≤s'.at_+(Nd.sizes ps+(1+0))+1:=k3;exact⟨k1,by omega,by omega⟩
     |false=>
      rw[ZeD hl h1 h2 h3]at h;cases hr:ZjJ l C s l[s.at_]with
      |inl e=>rw[hr]at h;cases h
      |inr z=>
       obtain⟨t1,s1⟩:=z;rw[hr]at h;simp only at h;obtain⟨r1,r2,r3⟩:=Zkz hC hs hl hr;obtain⟨k1,k2,k3⟩:=ZdI hC n _ _ _ _ _ r1 h;rw[Nd.sizes_append]at k3;have k3:t.size+s1.at_≤s'.at_+(Nd.sizes ps+(t1.size+0))+1:=k3;exact⟨k1,by omega,by omega⟩
  ·rw[Zfi (by omega)]at h;injection h with h;injection h with h1 h2;subst h1;subst h2;exact⟨hs,Nat.le_refl _,by omega⟩
theorem Zbe{l:List UInt8}{C:Option (RxS→Out Nd)}(hC:∀f,C=some f→ZcC l 2 f){inner:Bool}:ZcC l 1 (branchS prg l C inner):=by
 intro s hs t s' h;unfold branchS at h;split at h
 ·next ha=>
  have a:=ahd_le ha (by decide);simp only[List.length_singleton]at a;obtain⟨k1,k2,k3⟩:=ZdI hC _ _ _ _ _ _ (hs.go a) h;have k2:s.at_+1≤s'.at_:=k2;have k3:t.size+(s.at_+1)≤s'.at_+(1+0)+1:=k3;exact⟨k1,by omega,by omega⟩
 ·obtain⟨k1,k2,k3⟩:=ZdI hC _ _ _ _ _ _ hs h;have k3:t.size+s.at_≤s'.at_+0+1:=k3;exact⟨k1,by omega,by omega⟩
theorem Zd7{l:List UInt8}{C:Option (RxS→Out Nd)}(hC:∀f,C=some f→ZcC l 2 f){inner:Bool}:∀(n:Nat) (s:RxS) (ts:List Nd) (t:Nd) (s':RxS),Sane l s→Za1 prg l C inner n s ts=.inr (t,s')→
 Sane l s'∧s.at_≤s'.at_∧t.size+s.at_≤s'.at_+Nd.sizes ts+1
 |0,s,ts,t,s',hs,h=>by
  rw[Za1]at h;injection h with h;injection h with h1 h2;subst h1;subst h2;have:=Zby ts;exact⟨hs,Nat.le_refl _,by show(Za3 ts).size+s.at_≤_;omega⟩
 |n+1,s,ts,t,s',hs,h=>by
  rw[Za1]at h;split at h
  ·next ha=>
   have hle:=ahd_le ha (by decide);simp only[List.length_cons,List.length_nil]at hle;cases hb:branchS prg l C inner ((s.mark [92,124]).go 2)with
   |inl e=>rw[hb]at h;cases h
   |inr z=>
    obtain⟨t1,s1⟩:=z;rw[hb]at h;simp only at h;obtain⟨r1,r2,r3⟩:=Zbe hC _ (hs.markgo [92,124] (n:=2) (by omega) hle) _ _ hb;obtain⟨k1,k2,k3⟩:=Zd7 hC n _ _ _ _ r1 h;rw[Nd.sizes_append]at k3;have r2:s.at_+2≤s1.at_:=r2;have r3:t1.size+(s.at_+2)≤s1.at_+1:=r3;have k3:t.size+s1.at_≤s'.at_+(Nd.sizes ts+(t1.size+0))+1:=k3;exact⟨k1,by omega,by omega⟩
  ·injection h with h;injection h with h1 h2;subst h1;subst h2;have:=Zby ts;exact⟨hs,Nat.le_refl _,by show(Za3 ts).size+s.at_≤_;omega⟩
theorem choiceS_kept{l:List UInt8}{C:Option (RxS→Out Nd)}(hC:∀f,C=some f→ZcC l 2 f){inner:Bool}:ZcC l 2 (choiceS prg l C inner):=by
 intro s hs t s' h;unfold choiceS at h;cases hb:branchS prg l C inner s with
 |inl e=>rw[hb]at h;cases h
 |inr z=>
  obtain⟨t1,s1⟩:=z;rw[hb]at h;simp only at h;obtain⟨r1,r2,r3⟩:=Zbe hC _ hs _ _ hb;obtain⟨k1,k2,k3⟩:=Zd7 hC _ _ _ _ _ r1 h;have k3:t.size+s1.at_≤s'.at_+(t1.size+0)+1:=k3;exact⟨k1,by omega,by omega⟩
theorem chS_kept{l:List UInt8}:∀n,ZcC l 2 (chS prg l n)
 |0=>by
  have:chS prg l 0=choiceS prg l none true:=by funext s;rw[chS]
  rw[this];exact choiceS_kept (fun f hf=>by cases hf)
 |n+1=>by
  have:chS prg l (n+1)=choiceS prg l (some (chS prg l n)) (decide (n+1<12)):=by funext s;rw[chS]
  rw[this];exact choiceS_kept (fun f hf=>by injection hf with hf;subst hf;exact chS_kept n)
open Go.Lib (hid)
abbrev CC2(w:World)(b:Nat)(v0 v1:Value):Prop:=w.cell? ⟨b,0,none⟩=some v0∧w.cell? ⟨b,1,none⟩=some v1
theorem cc2_on{w w':World}{b:Nat}{v0 v1:Value}(h:CC2 w b v0 v1)(f:Fr nob w w'):CC2 w' b v0 v1:=⟨f.cell h.1 (fun x=>x),f.cell h.2 (fun x=>x)⟩
theorem ZkA(b:Nat)(l:List UInt8)(W0:World)(deep:Nat)(C:Option (RxS→Out Nd))(s:RxS)(S O:Nat→Prop)(w:World)(x:UInt8)(hO:∀k,O k→k<w.heap.size)(hl:l.length≤100000)(hd:deep≤12)(hE0:Env W0)(hG:ZoT l W0 deep C)
 (hs:Sane l s) (ha:s.at_<l.length) (hx:l[s.at_]=x) (hW:Wd W0 S w) (h:Rdg b l s S w):
 Calls prog 85 #[.pointer (some ⟨b,0,none⟩),.int .i64 deep] w fun y w'=>ZbO b l S O w (Zb0 prg l C s x) y w':=by
 obtain⟨R,hR⟩:∃R,Zb0 prg l C s x=R:=⟨_,rfl⟩;rw[hR];have N:=fun w' (f:Fr nob w w') (j:x=92)=>Zkx b l W0 deep C s S O w' (fun k hk=>Nat.lt_of_lt_of_le (hO k hk) f.size) hl hd hG hs ha (by rw[hx,j]) (hW.stp (Stp.of f)) (h.on f);obtain⟨cv,mv,hB⟩:=h;have rr:=Zd hB.blk;have G:=hid N;have HB:=hid hB;have HW:=hid hW;have b4:(s.at_:Int)<l.length:=by omega
 have b5:=x.toNat_lt;clear N hG hs hW hB hd hO;go_enter func85,ntmps85;go_wp2_with fail;refine region_fr 8 (by kernel_rfl) (by kernel_rfl) ?_;simp only[List.take_succ_cons,List.take_zero,List.drop_succ_cons,List.drop_zero]
 repeat(quiet_step (fail))
 refine wpQuiet_nil ?_;intro wC fC;have Q:=HB.out.on fC;obtain⟨⟨k0,k1,_⟩,_,j1,_⟩:=Zd Q.blk _ (Fr.refl _ _);have B:=hid Q;have FC:=hid fC;clear rr Q fC;unfold Zb0 at hR;by_cases j:x=92
 ·rw[if_pos j]at hR;have HE:=hid (G.out wC FC.out j);have t1:((x.toNat:Int)==92)=true:=Zcy (b:=92) j;rw[hR]at HE;clear j hR;go_wp2_with fail;with_reducible refine(HE.out).mono ?_
  cases R with
  |inl z=>
   obtain⟨z1,z2⟩:=z;rintro e w2 ⟨rfl,S2,L⟩;exact⟨rfl,rfl,S2,(Stp.of FC.out).trans L⟩
  |inr z=>
   obtain⟨t,s2⟩:=z;rintro e w2 ⟨i,y,S2,rfl,a2,r2,L⟩;have a5:=hid a2;have R2:=hid r2;have a7:=hid ((Stp.of FC.out).trans L);clear a2 r2 L;go_wp2;go_ret;exact⟨_,_,S2,rfl,a5.out,R2.out,a7.out⟩
 ·rw[if_neg j]at hR;have t1:((x.toNat:Int)==92)=false:=Zn (b:=92) j;by_cases E:x=91
  ·rw[if_pos E]at hR;have t2:((x.toNat:Int)==91)=true:=Zcy (b:=91) E;have M:∀w',Fr nob wC w'→Env w':=fun w' f=>hE0.on ((HW.out.fr.trans' FC.out).trans' f);have hP:=fun w' (f:Fr nob wC w')=>ZfL l ((s.at_:Int)+1) w' hl (M w' f);rw[show((s.at_:Int)+1)=((s.at_+1:Nat):Int)from by simp,Zkd (by omega)]at hP;rw[show((s.at_+1:Nat):Int)=(s.at_:Int)+1 from by simp]at hP;have hw:IntKind.i64.wrap ((s.at_:Int)+1)=s.at_+1:=IntWalk.i64_in _ (by omega);have a1:CC2 wC b (.string ⟨l.toArray⟩) (.int .i64 s.at_):=⟨k0,k1⟩;have HC:=hid a1;obtain⟨P,U⟩:∃P,prs l (s.at_+1)=P:=⟨_,rfl⟩;rw[U]at hP hR;obtain⟨c,k,e0,hv,H⟩:∃(c:S4) (k:Nat) (e0:Int),Zp8 P=.tuple #[ZcR c,.int .i64 k,.int .i64 e0]∧((e0≠0∧R=.inl (e0,k))∨(e0=0∧R=.inr (.one c,s.to k))):=by
    cases P with
    |inl z=>obtain⟨z1,z2⟩:=z;exact⟨S4.zero,z2,z1,rfl,.inl ⟨prs_err U,hR.symm⟩⟩
    |inr q=>obtain⟨c,k⟩:=q;exact⟨c,k,0,rfl,.inr ⟨rfl,hR.symm⟩⟩
   rw[hv]at hP;have HP:=hid hP;have W:=hid H;have a3:=Zl (show(wC.alloc (.cells #[.int .u64 0,.int .u64 0,.int .u64 0,.int .u64 0] 132)).heap[wC.heap.size]? =some (.cells #[.int .u64 0,.int .u64 0,.int .u64 0,.int .u64 0] 132)from newAt0 wC _);have a6:=hid a3;clear hP M k0 k1 j1 E j G a1 U a3 hv H hR;go_wp2_with fail
   go_region_held3 (fun w'=>CC2 w' b (.string ⟨l.toArray⟩) (.int .i64 s.at_)) (first|(with_reducible exact HC.out)|(with_reducible exact cc2_on HC.out ((Fr.refl nob wC).drew))|(with_reducible exact cc2_on HC.out (((Fr.refl nob wC).alloc _).drew))|(with_reducible exact cc2_on HC.out (((Fr.refl nob wC).drew).alloc _))|(with_reducible exact cc2_on HC.out G1)|(with_reducible exact cc2_on HC.out (G1.drew))|(with_reducible exact cc2_on HC.out (G1.alloc _))|(with_reducible exact cc2_on HC.out (setFour_frS G1 (Nat.le_refl _) _ _ _ _))|(with_reducible exact cc2_on HC.out (setFour_frS (G1.alloc _) G1.size _ _ _ _))|(trace_state;fail)) (first|(go_at_call 114;(first|((with_reducible refine(HP.out _ ((Fr.refl nob wC).drew)).mono ?_);rintro e g1 ⟨rfl,f1⟩;have G1:Fr nob wC g1:=((Fr.refl nob wC).drew).trans' f1;have hz:=newAt0 g1 (.cells #[.int .u64 0,.int .u64 0,.int .u64 0,.int .u64 0] 132);have HZ:=hid hz;have rz:=Zl hz _ (Fr.refl nob _))|((with_reducible refine(HP.out _ (((Fr.refl nob wC).alloc _).drew)).mono ?_);rintro e g1 ⟨rfl,f1⟩;have G1:Fr nob wC g1:=(((Fr.refl nob wC).alloc _).drew).trans' f1;have hz:=(((Fr.refl nob _).drew).trans' f1).heap (newAt0 wC (.cells #[.int .u64 0,.int .u64 0,.int .u64 0,.int .u64 0] 132)) (fun x=>x);have HZ:=hid hz;have rz:=a6.out g1 (((Fr.refl nob _).drew).trans' f1)));clear f1 hz))
   ·obtain⟨wf,n⟩:∃wf,wf=g1.alloc (.cells #[.int .u64 c.a,.int .u64 c.b,.int .u64 c.c,.int .u64 c.d] 132):=⟨_,rfl⟩;have r:At4 wf g1.heap.size c:=by rw[n];exact newAt0 g1 _
    have I:Fr nob wC wf:=by rw[n];exact G1.alloc _
    rw[←n];have HF:=hid I;have o:=hid r;have b0:wC.heap.size≤g1.heap.size:=(G1.size);clear n I r rz;rcases W.out with⟨A,hR⟩|⟨A,hR⟩
    ·subst hR;have b3:((e0:Int) !=0)=true:=by simpa using A
     go_wp2_with(go_at_call 82;(with_reducible refine(br_fail e0 k _).mono ?_);rintro e w' ⟨rfl,rfl⟩);exact⟨rfl,rfl,S,(Stp.of FC.out).trans (Stp.of HF.out)⟩
    ·subst hR;subst A;have v:=B.out.on HF.out;have a8:=lt_heap B.out.blk;have a9:=lt_heap o.out;have m:g1.heap.size≠b:=by omega
     obtain⟨⟨_,n1,_⟩,_,n2,_⟩:=Zd v.blk _ (Fr.refl _ _);have F:=hid v;clear v;have b1:Q4 (wf.setCell ⟨b,1,none⟩ (.int .i64 (k:Nat))) g1.heap.size c:=by
      have g:=(Fr.refl (fun i=>i=b) wf).setCell (p:=⟨b,1,none⟩) (fun _=>rfl) (.int .i64 (k:Nat));have q:=Q4.of o.out;exact⟨g.cell q.1 m,g.cell q.2.1 m,g.cell q.2.2.1 m,g.cell q.2.2.2 m⟩
     go_wp2;go_ret;exact⟨_,_,S,rfl,by rw[RN];rfl,⟨_,_,F.out.turned 1 _ (s.to k) (by simp[RxS.to]) rfl rfl⟩,((Stp.of FC.out).trans (Stp.of HF.out)).trans (F.out.stp 1 _)⟩
   ·obtain⟨wf,n⟩:∃wf,wf=((((g1.setCell ⟨wC.heap.size,0,none⟩ (.int .u64 c.a)).setCell ⟨wC.heap.size,1,none⟩ (.int .u64 c.b)).setCell ⟨wC.heap.size,2,none⟩ (.int .u64 c.c)).setCell ⟨wC.heap.size,3,none⟩ (.int .u64 c.d)):=⟨_,rfl⟩;have r:At4 wf wC.heap.size c:=by rw[n];with_reducible exact setFour_heap HZ.out _ _ _ _
    have I:Fr nob wC wf:=by rw[n];exact setFour_frS (G1) (Nat.le_refl _) _ _ _ _
    rw[←n];have HF:=hid I;have o:=hid r;have b0:wC.heap.size≤wC.heap.size:=(Nat.le_refl _);clear n I r rz;rcases W.out with⟨A,hR⟩|⟨A,hR⟩
    ·subst hR;have b3:((e0:Int) !=0)=true:=by simpa using A
     go_wp2_with(go_at_call 82;(with_reducible refine(br_fail e0 k _).mono ?_);rintro e w' ⟨rfl,rfl⟩);exact⟨rfl,rfl,S,(Stp.of FC.out).trans (Stp.of HF.out)⟩
    ·subst hR;subst A;have v:=B.out.on HF.out;have a8:=lt_heap B.out.blk;have a9:=lt_heap o.out;have m:wC.heap.size≠b:=by omega
     obtain⟨⟨_,n1,_⟩,_,n2,_⟩:=Zd v.blk _ (Fr.refl _ _);have F:=hid v;clear v;have b1:Q4 (wf.setCell ⟨b,1,none⟩ (.int .i64 (k:Nat))) wC.heap.size c:=by
      have g:=(Fr.refl (fun i=>i=b) wf).setCell (p:=⟨b,1,none⟩) (fun _=>rfl) (.int .i64 (k:Nat));have q:=Q4.of o.out;exact⟨g.cell q.1 m,g.cell q.2.1 m,g.cell q.2.2.1 m,g.cell q.2.2.2 m⟩
     go_wp2;go_ret;exact⟨_,_,S,rfl,by rw[RN];rfl,⟨_,_,F.out.turned 1 _ (s.to k) (by simp[RxS.to]) rfl rfl⟩,((Stp.of FC.out).trans (Stp.of HF.out)).trans (F.out.stp 1 _)⟩
  ·rw[if_neg E]at hR;have t2:((x.toNat:Int)==91)=false:=Zn (b:=91) E;obtain⟨w1,J⟩:∃w1,w1=wC.setCell ⟨b,1,none⟩ (.int .i64 ((s.at_:Int)+1)):=⟨_,rfl⟩;have Z:Br b l (s.go 1) S cv mv w1:=by rw[J];exact B.out.turned 1 _ (s.go 1) (by simp[RxS.go]) rfl rfl
   have a0:Stp S w S w1:=by rw[J];exact(Stp.of FC.out).trans (B.out.stp 1 _)
   have b2:w1.heap.size=wC.heap.size:=by rw[J];simp[World.setCell]
   have Y:=hid J;have V:=hid Z;have X:=hid a0;clear J Z a0 j E G;by_cases D:x=46
   ·rw[if_pos D]at hR;have t3:((x.toNat:Int)==46)=true:=Zcy (b:=46) D;have K:=Ze7 0 255 w1 (by decide) (by decide);rw[show((0:Nat):Int)=0 from rfl,show((255:Nat):Int)=255 from rfl]at K;obtain⟨u,hu⟩:∃u,spn 0 255=u:=⟨_,rfl⟩;rw[hu]at K hR;subst hR;have a4:=hid K;clear D K hu;go_wp2_with(rw[←Y.out]);with_reducible refine(a4.out).mono ?_
    rintro e w2 ⟨rfl,f2⟩;have F2:=hid f2;clear f2;go_wp2;go_ret;exact⟨_,_,S,rfl,by unfold prg;rw[RN];rfl,⟨_,_,V.out.on F2.out⟩,X.out.trans (Stp.of F2.out)⟩
   ·rw[if_neg D]at hR;have t3:((x.toNat:Int)==46)=false:=Zn (b:=46) D;have ho:=Zb6 x w1 5;obtain⟨u,hu⟩:∃u,spn x.toNat x.toNat=u:=⟨_,rfl⟩;rw[hu,b2]at ho;rw[hu]at hR;subst hR;have HO:=hid ho;clear D ho hu;go_wp2_with(rw[←Y.out]);with_reducible refine(HO.out).mono ?_
    rintro e w2 ⟨rfl,f2⟩;have F2:=hid (((Fr.refl nob w1).alloc _).trans' f2);clear f2;go_wp2;go_ret;exact⟨_,_,S,rfl,by unfold prg;rw[RN];rfl,⟨_,_,V.out.on F2.out⟩,X.out.trans (Stp.of F2.out)⟩
def PO(O:Nat→Prop)(v:Value):Nat→Prop:=fun k=>O k∨v.ownBlock=some k
def Pts(S O:Nat→Prop)(W w:World)(ps:List Nd)(v:Value):Prop:=OwnNS (SO S O) w ps v v.ownBlock∧∀k,v.ownBlock=some k→¬S k∧W.heap.size≤k
def Off(S:Nat→Prop)(W w w':World):Prop:=∃X,Fr X w w'∧∀k,X k→¬S k∧W.heap.size≤k
theorem Pts.nil(S O:Nat→Prop)(W w:World):Pts S O W w [] (.slice none 0 0):=⟨OwnNS.nil _ _,fun _ h=>by cases h⟩
theorem Pts.shape{S O:Nat→Prop}{W w:World}{ps:List Nd}{v:Value}(h:Pts S O W w ps v):∃a c,v=.slice a ps.length c:=h.1.shape
theorem Pts.stp{S O S':Nat→Prop}{W w w':World}{ps:List Nd}{v:Value}(h:Pts S O W w ps v)(hs:Stp S w S' w'):Pts S' O W w' ps v:=by
 obtain⟨h,hb⟩:=h;have a:=h.lt;obtain⟨vs,h1,h2,h3⟩:=h;refine⟨⟨vs,ownsRow_fr h1 hs.fr (fun k hk=>(hb k hk).1),h2.keep hs.fr (fun k _ x=>.inl (.inl x)) (fun k hk x=> ?_),h3⟩,fun k hk=>⟨fun x=>(hb k hk).1 (hs.old k (a k hk) x),(hb k hk).2⟩⟩;rcases x with(x|x)|x
 ·exact .inl (.inl (hs.old k hk x))
 ·exact .inl (.inr x)
 ·exact .inr x
theorem Pts.on{S O:Nat→Prop}{W w w':World}{ps:List Nd}{v:Value}(h:Pts S O W w ps v)(f:Fr nob w w'):Pts S O W w' ps v:=h.stp (Stp.of f)
theorem Pts.lt{S O:Nat→Prop}{W w:World}{ps:List Nd}{v:Value}(h:Pts S O W w ps v)(hO:∀k,O k→k<w.heap.size):∀k,PO O v k→k<w.heap.size:=fun k hk=>hk.elim (hO k) (h.1.lt k)
theorem Pts.sn{S O:Nat→Prop}{W w:World}{ps:List Nd}{v:Value}(h:Pts S O W w ps v)(hO:∀k,O k→k<W.heap.size):SN (SO S O) w ps v:=
 h.1.sn fun k hk x=>x.elim (h.2 k hk).1 (fun y=>by have:=hO k y;have:=(h.2 k hk).2;omega)
theorem Br.off{b:Nat}{l:List UInt8}{s:RxS}{S:Nat→Prop}{cv mv:Value}{W w w':World}(h:Br b l s S cv mv w)(f:Off S W w w'):Br b l s S cv mv w':=by
 obtain⟨X,f,hX⟩:=f;exact⟨f.heap h.blk (fun x=>(hX _ x).1 h.me),ownsRow_fr h.cl f (fun k hk x=>(hX _ x).1 (h.nc k hk).2),ownsRow_fr h.ma f (fun k hk x=>(hX _ x).1 (h.nm k hk).2),h.nc,h.nm,h.ne,h.me⟩
theorem Rdg.off{b:Nat}{l:List UInt8}{s:RxS}{S:Nat→Prop}{W w w':World}(h:Rdg b l s S w)(f:Off S W w w'):Rdg b l s S w':=by
 obtain⟨cv,mv,h⟩:=h;exact⟨cv,mv,h.off f⟩
theorem Stp.off{S0 S:Nat→Prop}{W w w':World}(h:Stp S0 W S w)(f:Off S W w w'):Stp S0 W S w':=by
 obtain⟨X,f,hX⟩:=f;exact⟨h.fr.trans f (fun i hi x=>by have:=(hX i x).2;omega),h.old,fun hl k hk=>Nat.lt_of_lt_of_le (h.lt hl k hk) f.size⟩
theorem wpList_append_pts{W w0:World}{S O:Nat→Prop}{ops:Array Oper}{rest:List Oper}{o:Oper}{a:Act}{Q:Exit→Act→World→Prop}(hgd:o.guard=none)(s x:Operand)
 (ho:o.op=.call {callee:=.builtin .append,args:= #[s,x],argTypes:= #[73,73]})
 (ps:List Nd) (t:Nd) (v val:Value) (e:TypeId) (b:Nat) (hs:a.eval s=v) (hp:Pts S O W w0 ps v) (hlt:∀k,S k→k<w0.heap.size) (hO:∀k,O k→k<w0.heap.size) (hW:W.heap.size≤w0.heap.size) (hb:b=w0.heap.size)
 (hx:a.eval x=.slice (some ⟨b,0,none⟩) 1 1) (hv:RN (SO S (PO O v)) w0 t val) (hl:ps.length≤2000000)
 (h:∀v' w',Pts S O W w' (ps++[t]) v'→Off S W w0 w'→wpList prog ops Q rest (a.put o.dst v') w'):wpList prog ops Q (o::rest) a (w0.alloc (.cells #[val] e)):=by
 have i:RN (LGS (SO S O) v.ownBlock) w0 t val:=RN.keep (Fr.refl nob w0) (fun _ _ x=>x.elim) (fun k _ x=>by
  rcases x with(x|x)|x
  ·exact .inl x
  ·exact .inr (.inl x)
  ·exact .inr (.inr x)) _ _ hv
 have g:SN (LGS (SO S O) v.ownBlock) (w0.alloc (.cells #[val] e)) [t] (.slice (some ⟨b,0,none⟩) 1 1):=SN.one' i (fun k x=>by
  rcases x with(x|x)|x
  ·exact hlt k x
  ·exact hO k x
  ·exact hp.1.lt k x) e hb
 have c:=hp.1.on ((Fr.refl nob w0).alloc (.cells #[val] e));refine Zbu hgd s x ho ps [t] v _ v.ownBlock hs c hx g (by simp;omega) fun v' w' g' q1 q2 q3=> ?_;have f:v'.ownBlock=g':=q1.blk;subst f;have d:w0.heap.size≤(w0.alloc (.cells #[val] e)).heap.size:=((Fr.refl nob w0).alloc _).size;refine h v' w' ⟨q1,fun k hk=> ?_⟩ ⟨LG v.ownBlock,((Fr.refl (LG v.ownBlock) w0).alloc _).trans' q2,fun k hk=>hp.2 k hk⟩;rcases q3 k hk with hk|hk
 ·exact hp.2 k hk
 ·refine⟨fun x=>by have:=hlt k x;omega,?_⟩;exact Nat.le_trans (Nat.le_trans hW d) hk
def Nd.unit:Nd→Bool
 | .one _| .rep .. | .group .. | .back _| .start| .fin=>true
 |_=>false
def Zeq(ps:List Nd):Prop:=∀t∈ps,t.unit=true
theorem Zeq.snoc{ps:List Nd}{t:Nd}(h:Zeq ps)(ht:t.unit=true):Zeq (ps++[t]):=fun x hx=>by
 rcases List.mem_append.1 hx with hx|hx
 ·exact h x hx
 ·rw[List.mem_singleton.1 hx];exact ht
theorem unit_part{t:Nd}(h:t.unit=true):t.part=[t]:=by cases t<;>first|rfl|cases h
theorem Zhk{ps:List Nd}(h:Zeq ps):parts ps=ps:=by
 induction ps with
 |nil=>rfl
 |cons t ts ih=>
  show t.part++parts ts=_;rw[unit_part (h t (by simp)),ih (fun x hx=>h x (by simp[hx]))];rfl
def Nd.brn:Nd→Prop
 | .empty=>True
 | .cat l=>1<l.length∧Zeq l
 |t=>t.unit=true
theorem joined_brn{ps:List Nd}(h:Zeq ps):(Za2 ps).brn:=by
 unfold Za2;rw[Zhk h]
 match ps,h with
 |[],_=>trivial
 |[x],h=>
  have:=h x (by simp);show x.brn;cases x<;>first|exact this|cases this
 |x::y::r,h=>exact⟨by simp,h⟩
theorem Zn2{t:Nd}(h:t.brn):t.arm=[t]:=by cases t<;>first|rfl|cases h
def Zn3(ts:List Nd):Prop:=∀t∈ts,t.brn
theorem Zn3.snoc{ts:List Nd}{t:Nd}(h:Zn3 ts)(ht:t.brn):Zn3 (ts++[t]):=fun x hx=>by
 rcases List.mem_append.1 hx with hx|hx
 ·exact h x hx
 ·rw[List.mem_singleton.1 hx];exact ht
theorem brns_arms{ts:List Nd}(h:Zn3 ts):arms ts=ts:=by
 induction ts with
 |nil=>rfl
 |cons t r ih=>
  show t.arm++arms r=_;rw[Zn2 (h t (by simp)),ih (fun x hx=>h x (by simp[hx]))];rfl
theorem Zhl{ts:List Nd}(h:Zn3 ts):Za3 ts=Zd3 ts (.alt ts):=by unfold Za3;rw[brns_arms h]
theorem Zjj{ts:List Nd}(h:Zn3 ts):Za3 ts≠.nil:=by
 rw[Zhl h]
 match ts,h with
 |[],_=>intro e;cases e
 |[x],h=>intro e;have:=h x (by simp);rw[show x=Nd.nil from e]at this;cases this
 |x::y::r,_=>intro e;cases e
theorem repS_unit{l:List UInt8}:∀(n:Nat) (s:RxS) (t t':Nd) (s':RxS),t.unit=true→ZbW prg l n s t=.inr (t',s')→t'.unit=true
 |0,s,t,t',s',ht,h=>by rw[ZbW]at h;injection h with h;injection h with h1 h2;subst h1;exact ht
 |n+1,s,t,t',s',ht,h=>by
  rw[ZbW]at h;split at h
  ·exact repS_unit n _ _ _ _ (by rfl) h
  ·split at h
   ·exact repS_unit n _ _ _ _ (by rfl) h
   ·split at h
    ·split at h
     ·cases h
     ·exact repS_unit n _ _ _ _ (by rfl) h
    ·split at h
     ·exact repS_unit n _ _ _ _ (by rfl) h
     ·injection h with h;injection h with h1 h2;subst h1;exact ht
theorem groupS_unit{l:List UInt8}{C:Option (RxS→Out Nd)}{p:Nat}{s s':RxS}{t:Nd}(h:Zbs prg l C p s=.inr (t,s')):t.unit=true:=by
 unfold Zbs at h;split at h
 ·cases h
 ·split at h
  ·cases h
  ·split at h
   ·injection h with h;injection h with h1 h2;subst h1;rfl
   ·cases h
theorem atomS_unit{l:List UInt8}{C:Option (RxS→Out Nd)}{s s':RxS}{t:Nd}{b:UInt8}(h:Zb0 prg l C s b=.inr (t,s')):t.unit=true:=by
 unfold Zb0 at h;split at h
 ·unfold ZlI at h;split at h
  ·cases h
  ·split at h
   ·exact groupS_unit h
   ·split at h
    ·cases h
    ·split at h
     ·split at h
      ·injection h with h;injection h with h1 h2;subst h1;rfl
      ·cases h
     ·split at h
      ·cases h
      ·injection h with h;injection h with h1 h2;subst h1;rfl
 ·split at h
  ·split at h
   ·cases h
   ·injection h with h;injection h with h1 h2;subst h1;rfl
  ·split at h
   ·injection h with h;injection h with h1 h2;subst h1;rfl
   ·injection h with h;injection h with h1 h2;subst h1;rfl
theorem rndS_unit{l:List UInt8}{C:Option (RxS→Out Nd)}{s s':RxS}{t:Nd}{b:UInt8}(h:ZjJ l C s b=.inr (t,s')):t.unit=true:=by
 unfold ZjJ at h;split at h
 ·cases h
 ·next hp=>exact repS_unit _ _ _ _ _ (atomS_unit hp) h
theorem brS_brn{l:List UInt8}{C:Option (RxS→Out Nd)}{inner:Bool}:∀(n:Nat) (front:Bool) (s:RxS) (ps:List Nd) (t:Nd) (s':RxS),Zeq ps→brS prg l C inner n front s ps=.inr (t,s')→t.brn
 |0,front,s,ps,t,s',hu,h=>by rw[brS]at h;injection h with h;injection h with h1 h2;subst h1;exact joined_brn hu
 |n+1,front,s,ps,t,s',hu,h=>by
  by_cases hl:s.at_<l.length
  ·cases h1:(ahd l s.at_ [92,124]||(inner&&ahd l s.at_ [92,41]))with
   |true=>rw[ZdH hl h1]at h;injection h with h;injection h with h1 h2;subst h1;exact joined_brn hu
   |false=>
    cases h2:(front&&(ahd l s.at_ [92,123]||(ahd l s.at_ [92,43]||ahd l s.at_ [92,63])))with
    |true=>rw[Zd6 hl h1 h2]at h;cases h
    |false=>
     cases h3:(ahd l s.at_ [36]&&ZbL l s.at_)with
     |true=>rw[Zfj hl h1 h2 h3]at h;exact brS_brn n _ _ _ _ _ (hu.snoc (by rfl)) h
     |false=>
      rw[ZeD hl h1 h2 h3]at h;cases hr:ZjJ l C s l[s.at_]with
      |inl e=>rw[hr]at h;cases h
      |inr z=>
       obtain⟨t1,s1⟩:=z;rw[hr]at h;exact brS_brn n _ _ _ _ _ (hu.snoc (rndS_unit hr)) h
  ·rw[Zfi (by omega)]at h;injection h with h;injection h with h1 h2;subst h1;exact joined_brn hu
theorem branchS_brn{l:List UInt8}{C:Option (RxS→Out Nd)}{inner:Bool}{s s':RxS}{t:Nd}(h:branchS prg l C inner s=.inr (t,s')):t.brn:=by
 unfold branchS at h;split at h
 ·exact brS_brn _ _ _ _ _ _ (fun x hx=>by rw[List.mem_singleton.1 hx];rfl) h
 ·exact brS_brn _ _ _ _ _ _ (fun x hx=>by cases hx) h
theorem Zhm{t:Nd}(h:t.brn):t≠.nil:=by rintro rfl;cases h
theorem RN.kind'{S:Nat→Prop}{w:World}{t:Nd}{v:Value}(h:RN S w t v):t=.nil∨∃i x,v=.iface i x:=by
 cases t with
 |nil=>exact .inl rfl
 |_=>exact .inr (by rcases h.shape with e|e<;>first|exact e|(subst e;rw[RN]at h;first|(obtain⟨_,h,_⟩:=h;cases h;done)|(cases h;done)))
theorem RN.some{S:Nat→Prop}{w:World}{t:Nd}{v:Value}(h:RN S w t v)(ht:t≠.nil):∃i x,v=.iface i x:=by
 rcases h.kind' with h|h
 ·exact absurd h ht
 ·exact h
def BrRel(b:Nat)(l:List UInt8)(C:Option (RxS→Out Nd))(inner:Bool)(S O:Nat→Prop)(w:World)(F:Out Nd)(n:Nat)(v5 v6:Value)(wr:World):Prop:=
 ∃front s ps S',v6=.bool front∧Pts S' O w wr ps v5∧Rdg b l s S' wr∧Stp S w S' wr∧Sane l s∧l.length<n+s.at_∧Nd.sizes ps≤s.at_∧Zeq ps∧brS prg l C inner n front s ps=F
theorem ZkB(b:Nat)(l:List UInt8)(W0:World)(deep:Nat)(C:Option (RxS→Out Nd))(s:RxS)(S O:Nat→Prop)(w:World)(hO:∀k,O k→k<w.heap.size)(hl:l.length≤100000)(hd:deep≤12)(hE0:Env W0)
 (hG:ZoT l W0 deep C) (hC:∀f,C=some f→ZcC l 2 f) (hs:Sane l s) (hW:Wd W0 S w) (h:Rdg b l s S w):
 Calls prog 52 #[.pointer (some ⟨b,0,none⟩),.int .i64 deep] w fun x w'=>ZbO b l S O w (branchS prg l C (decide (0<deep)) s) x w':=by
 obtain⟨a,b7⟩:∃a,decide (0<deep)=a:=⟨_,rfl⟩;obtain⟨F,hF⟩:∃F,branchS prg l C a s=F:=⟨_,rfl⟩;rw[b7,hF];have d6:=hid (ZbN b l [94] s S w hl (by decide) hs.le h);have q:=hid hs;have HW:=hid hW;have HG:=hid hG;have HC:=hid hC;have h1:=hid hE0;have B:=hid hO;unfold branchS at hF;have c8:=hid b7;clear hs hW hG hC hE0 hO h b7;go_enter func52,ntmps52;go_wp2_with fail;refine(d6.out).mono ?_;rintro e w1 ⟨rfl,r1,t1⟩;have R1:=hid r1;have T1:=hid t1;clear d6 r1 t1;go_upto_if 8 with(fail)
 go_cut [5] (fun v w'=>∃s1 c,Pts S O w w' c v∧Rdg b l s1 S w'∧Stp S w S w'∧Sane l s1∧Nd.sizes c≤s1.at_∧Zeq c∧brS prg l C a (l.length+1) true s1 c=F)
 case first=>
  cases e0:ahd l s.at_ [94]
  case' true=>
   rw[if_pos e0]at hF;have r1:=R1.out;rw[e0]at r1;simp only[if_true]at r1;have f9:=ahd_le e0 (by decide);simp only[List.length_singleton]at f9;have d1:=hid (HW.out.stp T1.out).lt;go_wp2_with(at_builtin;refine wpList_append_pts (W:=w) (S:=S) (O:=O) rfl (.tmp 9) (.tmp 12) rfl [] .start (.slice none 0 0) _ _ _ (by rfl) (Pts.nil _ _ _ _) d1.out (fun k hk=>Nat.lt_of_lt_of_le (B.out k hk) T1.out.fr.size) T1.out.fr.size rfl (by rfl) (by rw[RN]) (by simp) ?_;intro v2 w2 c0 Q;obtain⟨s1,g⟩:∃s1,s1=s.go 1:=⟨_,rfl⟩;obtain⟨c,d⟩:∃c:List Nd,c=[.start]:=⟨_,rfl⟩;have D:=hid (show Pts S O w w2 c v2 from d▸c0);have E:=hid (show Rdg b l s1 S w2 from g▸r1.off Q);have H:=hid (T1.out.off Q);have G:=hid (show Sane l s1 from g▸q.out.go f9);have J:=hid (show Nd.sizes c≤s1.at_ from by rw[g,d];show 1+0≤s.at_+1;omega);have I:=hid (show Zeq c from d▸fun x hx=>by rw[List.mem_singleton.1 hx];rfl);have A:=hid (show brS prg l C a (l.length+1) true s1 c=F from by rw[g,d];exact hF);obtain⟨a2,c2,rfl⟩:=c0.shape;clear c0 Q g d r1 hF e0 R1 d1)
   go_meet
   case rel=>exact⟨s1,c,D.out,E.out,H.out,G.out,J.out,I.out,A.out⟩
  case' false=>
   rw[if_neg (by rw[e0];decide)]at hF;have r1:=R1.out;rw[e0]at r1;simp only[Bool.false_eq_true,if_false]at r1;obtain⟨w2,i2⟩:∃w2,w2=w1:=⟨_,rfl⟩;subst i2;obtain⟨s1,g⟩:∃s1,s1=s:=⟨_,rfl⟩;obtain⟨c,d⟩:∃c:List Nd,c=[]:=⟨_,rfl⟩;have D:=hid (show Pts S O w w2 c (.slice none 0 0)from d▸Pts.nil _ _ _ _);have E:=hid (show Rdg b l s1 S w2 from g▸r1);have H:=hid (T1.out);have G:=hid (show Sane l s1 from g▸q.out);have J:=hid (show Nd.sizes c≤s1.at_ from by rw[d];exact Nat.zero_le _);have I:=hid (show Zeq c from d▸fun x hx=>by cases hx);have A:=hid (show brS prg l C a (l.length+1) true s1 c=F from by rw[g,d];exact hF);clear g d r1 hF e0 R1;go_wp2;go_meet
   case rel=>exact⟨s1,c,D.out,E.out,H.out,G.out,J.out,I.out,A.out⟩
 case rest=>
  obtain⟨s1,c,b9,g0,g3,g,g6,g4,f8⟩:=hcut;have D:=hid b9;have E:=hid g0;have H:=hid g3;have G:=hid g;have J:=hid g6;have I:=hid g4;have A:=hid f8;obtain⟨a2,c2,rfl⟩:=b9.shape;clear b9 g0 g3 g g6 g4 f8;go_wp2_with fail;clear T1 R1 q
  go_loopg [5,6] (l.length+1) (fun n u v wr=>BrRel b l C a S O w F n u v wr)
  case atStart=>exact⟨true,s1,c,S,rfl,D.out,E.out,H.out,G.out,by omega,J.out,I.out,A.out⟩
  case round=>
   clear D E H G J I A;obtain⟨t,s,ps,S1,rfl,hp,hr,p,c5,hn,hz,hu,hF⟩:=hrel;have g1:=c5.le;obtain⟨m,rfl⟩:∃m,gk=m+1:=⟨gk-1,by omega⟩;obtain⟨av,d8,hv⟩:=hp.shape;subst hv;obtain⟨v5,c6⟩:∃v5,v5=Value.slice av ps.length d8:=⟨_,rfl⟩;have a1:=hid (ZnV b l s S1 wr (by omega) hr);have HA:=hid (fun(tt:List UInt8) (w':World) (f:Fr nob wr w') (ht:tt.length≤1000)=>Zcg b l tt s S1 w' (by omega) (by omega) g1 (hr.on f));have HP:=hid (show Pts S1 O w wr ps v5 from c6▸hp);have HR:=hid hr;have i:=hid p;have q:=hid c5;have HU:=hid hu;have HF:=hid hF;have d7:=hid c6;have a4:=hid (HW.out.stp p);have HJ:=hid (fun(w':World) (f:Fr nob wr w')=>joinS_any (SO S1 O) ps (.slice av ps.length d8) w' (fun k hk=>Nat.lt_of_lt_of_le (hk.elim ((HW.out.stp p).lt k) (fun x=>Nat.lt_of_lt_of_le (B.out k x) p.fr.size)) f.size) (by omega) ((hp.on f).sn B.out));clear hp hr p c5 hF c6 hu
   obtain⟨ov,b8⟩:∃x,decide (l.length≤s.at_)=x:=⟨_,rfl⟩;obtain⟨e1,a8⟩:∃x,ahd l s.at_ [92,124]=x:=⟨_,rfl⟩;obtain⟨e2,b0⟩:∃x,ahd l s.at_ [92,41]=x:=⟨_,rfl⟩;obtain⟨e3,b1⟩:∃x,ahd l s.at_ [92,123]=x:=⟨_,rfl⟩;obtain⟨e4,b2⟩:∃x,ahd l s.at_ [92,43]=x:=⟨_,rfl⟩;obtain⟨e5,b3⟩:∃x,ahd l s.at_ [92,63]=x:=⟨_,rfl⟩;obtain⟨e6,b4⟩:∃x,ahd l s.at_ [36]=x:=⟨_,rfl⟩;obtain⟨e7,b5⟩:∃x,ZbL l s.at_=x:=⟨_,rfl⟩;obtain⟨st,p⟩:∃x,(ov||(e1||(a&&e2)))=x:=⟨_,rfl⟩;obtain⟨a6,a7⟩:∃x,(t&&(e3||(e4||e5)))=x:=⟨_,rfl⟩;obtain⟨fin,b6⟩:∃x,(e6&&e7)=x:=⟨_,rfl⟩;rw[b8]at a1;have H1:=hid (fun w' f=>by have:=HA.out [92,124] w' f (by decide);rwa[a8]at this);have H2:=hid (fun w' f=>by have:=HA.out [92,41] w' f (by decide);rwa[b0]at this);have H3:=hid (fun w' f=>by have:=HA.out [92,123] w' f (by decide);rwa[b1]at this);have H4:=hid (fun w' f=>by have:=HA.out [92,43] w' f (by decide);rwa[b2]at this);have H5:=hid (fun w' f=>by have:=HA.out [92,63] w' f (by decide);rwa[b3]at this)
   have H6:=hid (fun w' f=>by have:=HA.out [36] w' f (by decide);rwa[b4]at this);have HE:=hid (show decide (l.length≤s.at_)=ov∧(ahd l s.at_ [92,124]||(a&&ahd l s.at_ [92,41]))=(e1||(a&&e2))∧(t&&(ahd l s.at_ [92,123]||(ahd l s.at_ [92,43]||ahd l s.at_ [92,63])))=a6∧(ahd l s.at_ [36]&&ZbL l s.at_)=fin by rw[a8,b0,b1,b2,b3,b4,b5];exact⟨b8,rfl,a7,b6⟩);have j:=hid p;have L:=hid a7;have Z:=hid b6;have c7:=hid b5;clear b8 a8 b0 b1 b2 b3 b4 b5 p a7 b6 HA
   go_upto_region 5 with(fail)
   go_cut [30] (fun v w'=>v=.bool (!st)∧Fr nob wr w')
   case first=>
    go_wp2_with fail;refine(a1.out).mono ?_;rintro e w1 ⟨rfl,f1⟩;have F1:=hid f1;clear f1;cases ov
    ·go_wp2_with fail;refine(H1.out w1 F1.out).mono ?_;rintro e w2 ⟨rfl,f2⟩;have F2:=hid (F1.out.trans' f2);clear f2;cases e1
     ·cases a
      ·have h0:¬(0:Int)<(deep:Int):=by have:=of_decide_eq_false c8.out;omega
       go_wp2;go_meet
       case rel=>exact⟨by rw[←j.out];rfl,F2.out⟩
      ·have h0:(0:Int)<(deep:Int):=by have:=of_decide_eq_true c8.out;omega
       go_wp2_with fail;refine(H2.out w2 F2.out).mono ?_;rintro e w3 ⟨rfl,f3⟩;go_wp2;go_meet
       case rel=>exact⟨by rw[←j.out];rfl,F2.out.trans' f3⟩
     ·go_wp2;go_meet
      case rel=>exact⟨by rw[←j.out];rfl,F2.out⟩
    ·go_wp2;go_meet
     case rel=>exact⟨by rw[←j.out];rfl,F1.out⟩
   case rest=>
   obtain⟨rfl,f1⟩:=hcut;have F1:=hid f1;clear f1 a1 H1 H2;cases st with
   |true=>
    have hF:=HF.out;have h9:F=.inr (Za2 ps,s):=by
     by_cases ho:l.length≤s.at_
     ·rw[Zfi ho]at hF;exact hF.symm
     ·rw[ZdH (by omega) (by have h:=j.out;rw[←HE.out.1,decide_eq_false ho]at h;rw[HE.out.2.1];exact h)]at hF;exact hF.symm
    subst h9;clear hF HF;go_wp2_with fail;refine(HJ.out _ F1.out).mono ?_;rintro e wj ⟨r,rfl,c4,fj⟩;obtain⟨ij,yj,rfl⟩:=c4.some (Zhm (joined_brn HU.out));have h4:=hid c4;have FJ:=hid (F1.out.trans' fj);clear c4 fj;go_wp2;go_ret;exact⟨ij,yj,S1,rfl,h4.out,HR.out.on FJ.out,i.out.trans (Stp.of FJ.out)⟩
   |false=>
   have y:=j.out;rw[Bool.or_eq_false_iff]at y;have ha:s.at_<l.length:=by have:=of_decide_eq_false (HE.out.1.trans y.1);omega
   have o:=hid (HE.out.2.1.trans y.2);clear y j
   go_upto_region 7 with(fail)
   go_cut [43] (fun v w'=>v=.bool a6∧Fr nob wr w')
   case first=>
    cases t
    ·go_wp2;go_meet
     case rel=>exact⟨by rw[←L.out];rfl,F1.out⟩
    ·go_wp2_with fail;refine(H3.out _ F1.out).mono ?_;rintro e w4 ⟨rfl,f4⟩;have F4:=hid (F1.out.trans' f4);clear f4;cases e3
     ·go_wp2_with fail;refine(H4.out _ F4.out).mono ?_;rintro e w5 ⟨rfl,f5⟩;have F5:=hid (F4.out.trans' f5);clear f5;cases e4
      ·go_wp2_with fail;refine(H5.out _ F5.out).mono ?_;rintro e w6 ⟨rfl,f6⟩;go_wp2;go_meet
       case rel=>exact⟨by rw[←L.out];rfl,F5.out.trans' f6⟩
      ·go_wp2;go_meet
       case rel=>exact⟨by rw[←L.out];rfl,F5.out⟩
     ·go_wp2;go_meet
      case rel=>exact⟨by rw[←L.out];rfl,F4.out⟩
   case rest=>
   obtain⟨rfl,fz⟩:=hcut;have FZ:=hid fz;clear fz H3 H4 H5 F1;cases a6 with
   |true=>
    have hF:=HF.out;rw[Zd6 ha o.out HE.out.2.2.1]at hF;subst hF;clear HF;obtain⟨i4,i5,e8⟩:=HR.out.on FZ.out;obtain⟨⟨_,q1,_⟩,_,q2,_⟩:=Zd e8.blk _ (Fr.refl _ _);clear e8;go_wp2_with(go_at_call 82;(with_reducible refine(br_fail 10 s.at_ _).mono ?_);rintro e w' ⟨rfl,rfl⟩);exact⟨rfl,rfl,S1,i.out.trans (Stp.of FZ.out)⟩
   |false=>
   obtain⟨x,hx⟩:∃x,l[s.at_]=x:=⟨_,rfl⟩;have d0:=hid (fun(w':World) (f:Fr nob wr w')=>by have:=Zko b l s S1 w' (by omega) ha (HR.out.on f);rwa[c7.out]at this);have R:=hid (fun(w':World) (f:Fr nob wr w')=>ZkA b l W0 deep C s S1 (PO O v5) w' x ((HP.out.on f).lt (fun k hk=>Nat.lt_of_lt_of_le (B.out k hk) (Nat.le_trans i.out.fr.size f.size))) hl hd h1.out HG.out q.out ha hx (a4.out.stp (Stp.of f)) (HR.out.on f));clear HJ
   go_upto_region 9 with(fail)
   go_cut [54] (fun v w'=>v=.bool fin∧Fr nob wr w')
   case first=>
    go_wp2_with fail;refine(H6.out _ FZ.out).mono ?_;rintro e w6 ⟨rfl,f6⟩;have F6:=hid (FZ.out.trans' f6);clear f6;cases e6
    ·go_wp2;go_meet
     case rel=>exact⟨by rw[←Z.out];rfl,F6.out⟩
    ·go_wp2_with fail;refine(d0.out w6 F6.out).mono ?_;rintro e w7 ⟨rfl,f7⟩;go_wp2;go_meet
     case rel=>exact⟨by rw[←Z.out];rfl,F6.out.trans' f7⟩
   case rest=>
   obtain⟨rfl,f7⟩:=hcut;have F7:=hid f7;clear f7 H6 d0 FZ;cases fin with
   |true=>
    have hF:=HF.out;rw[Zfj ha o.out HE.out.2.2.1 HE.out.2.2.2]at hF;have Y:=hid hF;clear HF hF R hx;obtain⟨h8,i3,U⟩:=HR.out.on F7.out;obtain⟨⟨_,q1,_⟩,_,q2,_⟩:=Zd U.blk _ (Fr.refl _ _);obtain⟨w8,P⟩:∃w8,w8=wc.setCell ⟨b,1,none⟩ (.int .i64 ((s.at_:Int)+1)):=⟨_,rfl⟩;have d9:Rdg b l (s.go 1) S1 w8:=⟨h8,i3,by rw[P];exact U.turned 1 _ (s.go 1) (by simp[RxS.go]) rfl rfl⟩;have K:Stp S1 wr S1 w8:=by rw[P];exact(Stp.of F7.out).trans (U.stp 1 _)
    have g2:w8.heap.size=wc.heap.size:=by rw[P];simp[World.setCell]
    have g9:=hid d9;have h5:=hid K;have h6:=hid P;have h2:=hid (HP.out.stp K);have d2:=hid (a4.out.stp K).lt;have a0:=hid (show∀k,O k→k<w8.heap.size from fun k hk=>Nat.lt_of_lt_of_le (B.out k hk) (Nat.le_trans i.out.fr.size K.fr.size));have a5:=hid (Nat.le_trans i.out.fr.size K.fr.size);have i0:=Nd.length_le ps;clear U d9 K P;go_wp2_with(first|(rw[←h6.out])|(at_builtin;refine wpList_append_pts (W:=w) (S:=S1) (O:=O) rfl (.tmp 62) (.tmp 65) rfl ps .fin v5 _ _ _ (by rw[d7.out];rfl) h2.out d2.out a0.out a5.out g2.symm (by rfl) (by rw[RN]) (by omega) ?_;intro v9 w9 c1 V;obtain⟨a9,c9,e9⟩:=c1.shape;simp only[List.length_append,List.length_singleton]at e9;subst e9;have a3:=hid c1;have d4:=hid V;clear c1 V));go_roundg m
    case measure=>omega
    case rel=>
     refine⟨false,s.go 1,ps++[.fin],S1,rfl,a3.out,g9.out.off d4.out,(i.out.trans h5.out).off d4.out,q.out.go (by omega),?_,?_,HU.out.snoc rfl,Y.out⟩
     ·show l.length<m+(s.at_+1);omega
     ·rw[Nd.sizes_append];show Nd.sizes ps+(1+0)≤s.at_+1;omega
   |false=>
    have hF:=HF.out;rw[ZeD ha o.out HE.out.2.2.1 HE.out.2.2.2]at hF;unfold ZjJ at hF;rw[hx]at hF;have H8:=hid (R.out wc F7.out);clear HE L Z c7 o;cases M:Zb0 prg l C s x with
    |inl z=>
     obtain⟨z1,z2⟩:=z;rw[M]at hF H8;subst hF;clear HF R;go_wp2_with fail;refine(H8.out).mono ?_;rintro e w8 ⟨rfl,S2,t8⟩;exact⟨rfl,rfl,S2,(i.out.trans (Stp.of F7.out)).trans t8⟩
    |inr z=>
     obtain⟨n1,s1⟩:=z;rw[M]at hF H8;simp only at hF;obtain⟨k1,k2,k3⟩:=Zbw HC.out q.out ha M;have i1:=atomS_unit M;clear HF R M;go_wp2_with fail;refine(H8.out).mono ?_;rintro e w8 ⟨i8,y8,S2,rfl,g7,r8,t8⟩;have T8:=hid ((Stp.of F7.out).trans t8);have H9:=hid (ZbP b l s1 n1 i8 y8 S2 (PO O v5) w8 hl k1.le k1.mr g7 r8);clear g7 r8 t8 H8;cases N:ZbW prg l (l.length+1) s1 n1 with
     |inl z=>
      obtain⟨z1,z2⟩:=z;rw[N]at hF H9;subst hF;go_wp2_with fail;refine(H9.out).mono ?_;rintro e w9 ⟨rfl,S3,t9⟩;exact⟨rfl,rfl,S3,(i.out.trans T8.out).trans t9⟩
     |inr z=>
      obtain⟨n2,s2⟩:=z;rw[N]at hF H9;simp only at hF;obtain⟨j1,j2,j3⟩:=ZaA _ _ _ _ _ k1 N;have g5:=repS_unit _ _ _ _ _ i1 N;have Y:=hid hF;clear N hF;go_wp2_with fail;refine(H9.out).mono ?_;rintro e w9 ⟨i9,y9,S3,rfl,g8,r9,t9⟩;have T9:=hid (T8.out.trans t9);have h7:=hid g8;have R9:=hid r9;clear g8 r9 t9 H9;have a3:=hid (HP.out.stp T9.out);have d3:=hid (a4.out.stp T9.out).lt;have a0:=hid (show∀k,O k→k<w9.heap.size from fun k hk=>Nat.lt_of_lt_of_le (B.out k hk) (Nat.le_trans i.out.fr.size T9.out.fr.size));have a5:=hid (Nat.le_trans i.out.fr.size T9.out.fr.size);have i0:=Nd.length_le ps;go_wp2_with(at_builtin;refine wpList_append_pts (W:=w) (S:=S3) (O:=O) rfl (.tmp 67) (.tmp 73) rfl ps n2 v5 _ _ _ (by rw[d7.out];rfl) a3.out d3.out a0.out a5.out rfl (by rfl) h7.out (by omega) ?_;intro va wa c3 X;obtain⟨aa,ca,f0⟩:=c3.shape;simp only[List.length_append,List.length_singleton]at f0;subst f0;have h3:=hid c3;have d5:=hid X;clear c3 X)
      go_roundg m
      case measure=>omega
      case rel=>
       refine⟨false,s2,ps++[n2],S3,rfl,h3.out,R9.out.off d5.out,(i.out.trans T9.out).off d5.out,j1,by omega,?_,HU.out.snoc g5,Y.out⟩;rw[Nd.sizes_append];show Nd.sizes ps+(n2.size+0)≤s2.at_;omega
theorem Zhn{w:World}{b:Nat}{v:Value}{e:TypeId}(h:w.heap[b]? =some (.cells #[v] e (0,0))):w.ownsRow 0 e 1 (.slice (some ⟨b,0,none⟩) 1 1) 1 [v]:=by
 refine⟨by simp,.inr ⟨b,1,#[v],rfl,Nat.zero_le _,h,by simp,by simp[maxLen],by simp,by simp⟩⟩
theorem Pts.one{S O:Nat→Prop}{W w0:World}{t:Nd}{val:Value}{b:Nat}(hv:RN (SO S O) w0 t val)(hlt:∀k,S k→k<w0.heap.size)(hO:∀k,O k→k<w0.heap.size)(hW:W.heap.size≤w0.heap.size)(hb:b=w0.heap.size):
 Pts S O W (w0.alloc (.cells #[val] 24)) [t] (.slice (some ⟨b,0,none⟩) 1 1):=by
 subst hb;refine⟨⟨[val],Zhn (newAt0 w0 _),⟨val,[],rfl,?_,rfl⟩,rfl⟩,fun k hk=> ?_⟩
 ·refine RN.keep ((Fr.refl nob w0).alloc _) (fun _ _ x=>x.elim) (fun k hk x=> ?_) _ _ hv;rcases x with x|x
  ·exact x
  ·have x:some w0.heap.size=some k:=x;injection x with x;omega
 ·have hk:some w0.heap.size=some k:=hk;injection hk with hk;exact⟨fun x=>by have:=hlt k x;omega,by omega⟩
section
variable {l:List UInt8} {C:Option (RxS→Out Nd)} {inner:Bool} {n:Nat} {s:RxS} {ts:List Nd}
theorem Zjk(h:ahd l s.at_ [92,124]=false):Za1 prg l C inner (n+1) s ts=.inr (Za3 ts,s):=by
 rw[Za1,if_neg (by rw[h];decide)];rfl
theorem Zjl(h:ahd l s.at_ [92,124]=true){e:Int×Nat}(hb:branchS prg l C inner ((s.mark [92,124]).go 2)=.inl e):Za1 prg l C inner (n+1) s ts=.inl e:=by
 rw[Za1,if_pos h,hb]
theorem ZkC(h:ahd l s.at_ [92,124]=true){t:Nd}{s':RxS}(hb:branchS prg l C inner ((s.mark [92,124]).go 2)=.inr (t,s')):Za1 prg l C inner (n+1) s ts=Za1 prg l C inner n s' (ts++[t]):=by
 rw[Za1,if_pos h,hb]
end
def Zqu(b:Nat)(l:List UInt8)(C:Option (RxS→Out Nd))(inner:Bool)(S O:Nat→Prop)(w:World)(F:Out Nd)(n:Nat)(v5:Value)(wr:World):Prop:=
 ∃s ts S',Pts S' O w wr ts v5∧Rdg b l s S' wr∧Stp S w S' wr∧Sane l s∧l.length<n+s.at_∧Nd.sizes ts≤s.at_+1∧Zn3 ts∧Za1 prg l C inner n s ts=F
theorem Zf6(b:Nat)(l:List UInt8)(W0:World)(deep:Nat)(C:Option (RxS→Out Nd))(s:RxS)(S O:Nat→Prop)(w:World)(hO:∀k,O k→k<w.heap.size)(hl:l.length≤100000)(hd:deep≤12)(hE0:Env W0)
 (hG:ZoT l W0 deep C) (hC:∀f,C=some f→ZcC l 2 f) (hs:Sane l s) (hW:Wd W0 S w) (h:Rdg b l s S w):
 Calls prog 33 #[.pointer (some ⟨b,0,none⟩),.int .i64 deep] w fun x w'=>ZbO b l S O w (choiceS prg l C (decide (0<deep)) s) x w':=by
 obtain⟨F,hF⟩:∃F,choiceS prg l C (decide (0<deep)) s=F:=⟨_,rfl⟩;rw[hF];have D:=hid (fun(s:RxS) (S O:Nat→Prop) (w:World) (hO:∀k,O k→k<w.heap.size) (hs:Sane l s) (hW:Wd W0 S w) (h:Rdg b l s S w)=>ZkB b l W0 deep C s S O w hO hl hd hE0 hG hC hs hW h);obtain⟨a,V⟩:∃a,decide (0<deep)=a:=⟨_,rfl⟩;rw[V]at D hF;have HW:=hid hW;have HC:=hid hC;have d:=hid hO;unfold choiceS at hF;have H0:=hid (D.out s S O w hO hs hW h);clear hW hC hE0 hO h hG V;go_enter func33,ntmps33;go_wp2_with fail;refine(H0.out).mono ?_;cases g:branchS prg l C a s with
 |inl z=>
  obtain⟨z1,z2⟩:=z;rw[g]at hF;subst hF;rintro e w1 ⟨rfl,S1,t1⟩;exact⟨rfl,rfl,S1,t1⟩
 |inr z=>
  obtain⟨t,s1⟩:=z;rw[g]at hF;simp only at hF;obtain⟨k1,k2,k3⟩:=Zbe HC.out _ hs _ _ g;have u:=branchS_brn g;rintro e w1 ⟨i,y,S1,rfl,a0,r1,t1⟩;have M:=hid (Pts.one (W:=w) a0 ((HW.out.stp t1).lt) (fun k hk=>Nat.lt_of_lt_of_le (d.out k hk) t1.fr.size) t1.fr.size rfl);have R1:=hid r1;have T1:=hid t1;have HF:=hid hF;have K1:=hid k1;clear H0 g hF a0 r1 t1 k1 hs;go_wp2_with fail
  go_loopg [5] (l.length+1) (fun n v wr=>Zqu b l C a S O w F n v wr)
  case atStart=>exact⟨s1,[t],S1,M.out,R1.out.on ((Fr.refl _ _).alloc _),T1.out.trans (Stp.of ((Fr.refl _ _).alloc _)),K1.out,by omega,by show t.size+0≤_;omega,fun x hx=>by rw[List.mem_singleton.1 hx];exact u,HF.out⟩
  case round=>
   clear M R1 T1 K1 HF k2 k3 u;obtain⟨s,ts,S1,hp,hr,o,I,hn,hz,hu,hF⟩:=hrel;have Z:=I.le;obtain⟨m,rfl⟩:∃m,gk=m+1:=⟨gk-1,by omega⟩;obtain⟨av,R,hv⟩:=hp.shape;subst hv;obtain⟨v5,J⟩:∃v5,v5=Value.slice av ts.length R:=⟨_,rfl⟩;have HA:=hid (Zcg b l [92,124] s S1 wr (by omega) (by decide) Z hr);have HP:=hid (show Pts S1 O w wr ts v5 from J▸hp);have HR:=hid hr;have c:=hid o;have N:=hid I;have HU:=hid hu;have HF:=hid hF;have b0:=hid J;have Q:=hid (HW.out.stp o);have HJ:=hid (fun(w':World) (f:Fr nob wr w')=>Zd4 (SO S1 O) ts (.slice av ts.length R) w' (fun k hk=>Nat.lt_of_lt_of_le (hk.elim ((HW.out.stp o).lt k) (fun x=>Nat.lt_of_lt_of_le (d.out k x) o.fr.size)) f.size) (by omega) ((hp.on f).sn d.out));clear hp hr o I hF J hu;cases e1:ahd l s.at_ [92,124]with
   |false=>
    rw[e1]at HA;have hF:=HF.out;rw[Zjk e1]at hF;subst hF;clear HF;go_wp2_with fail;refine(HA.out).mono ?_;rintro e w2 ⟨rfl,f2⟩;have F2:=hid f2;clear f2;go_wp2_with fail;refine(HJ.out _ F2.out).mono ?_;rintro e wj ⟨r,rfl,H,fj⟩;obtain⟨ij,yj,rfl⟩:=H.some (Zjj HU.out);have a8:=hid H;have FJ:=hid (F2.out.trans' fj);clear H fj;go_wp2;go_ret;exact⟨ij,yj,S1,rfl,a8.out,HR.out.on FJ.out,c.out.trans (Stp.of FJ.out)⟩
   |true=>
    have X:=ahd_le e1 (by decide);simp only[List.length_cons,List.length_nil]at X;rw[e1]at HA;clear HJ;go_wp2_with fail;refine(HA.out).mono ?_;rintro e w2 ⟨rfl,f2⟩;have F2:=hid f2;clear f2;go_wp2_with fail;refine(br_mark b l [92,124] s S1 w2 (by have:=N.out.mr;omega) (HR.out.on F2.out)).mono ?_;rintro e w3 ⟨rfl,S3,⟨b4,b5,q⟩,a2⟩;obtain⟨⟨_,q1,_⟩,_,q2,_⟩:=Zd q.blk _ (Fr.refl _ _);rw[show(s.mark [92,124]).at_=s.at_ from rfl]at q1;obtain⟨w4,A⟩:∃w4,w4=w3.setCell ⟨b,1,none⟩ (.int .i64 ((s.at_:Int)+2)):=⟨_,rfl⟩;have Y:Rdg b l ((s.mark [92,124]).go 2) S3 w4:=⟨b4,b5,by rw[A];exact q.turned 1 _ _ (by simp[RxS.go,RxS.mark]) rfl rfl⟩;have p:Stp S1 wr S3 w4:=by rw[A];exact((Stp.of F2.out).trans a2).trans (q.stp 1 _)
    have j:=N.out.markgo [92,124] (n:=2) (by omega) X;have E:=HP.out.stp p;have H5:=hid (D.out ((s.mark [92,124]).go 2) S3 (PO O v5) w4 (E.lt (fun k hk=>Nat.lt_of_lt_of_le (d.out k hk) (Nat.le_trans c.out.fr.size p.fr.size))) j (Q.out.stp p) Y);have b6:=hid E;have P:=hid p;have b1:=hid A;have a9:=hid j;clear q a2 Y p j E A HA;go_wp2_with(rw[←b1.out]);with_reducible refine(H5.out).mono ?_
    cases hb:branchS prg l C a ((s.mark [92,124]).go 2)with
    |inl z=>
     obtain⟨z1,z2⟩:=z;have hF:=HF.out;rw[Zjl e1 hb]at hF;subst hF;rintro e w5 ⟨rfl,S5,t5⟩;exact⟨rfl,rfl,S5,(c.out.trans P.out).trans t5⟩
    |inr z=>
     obtain⟨t5,s5⟩:=z;have hF:=HF.out;rw[ZkC e1 hb]at hF;obtain⟨j1,j2,j3⟩:=Zbe HC.out _ a9.out _ _ hb;have u:=branchS_brn hb;have j2:s.at_+2≤s5.at_:=j2;have j3:t5.size+(s.at_+2)≤s5.at_+1:=j3;rintro e w5 ⟨i5,y5,S5,rfl,a1,r5,a3⟩;have T5:=hid (P.out.trans a3);have b3:=hid a1;have R5:=hid r5;have a4:=hid hF;clear hF a1 r5 a3 H5 HF e1 hb;have a6:=hid (HP.out.stp T5.out);have K:=hid (Q.out.stp T5.out).lt;have a5:=hid (show∀k,O k→k<w5.heap.size from fun k hk=>Nat.lt_of_lt_of_le (d.out k hk) (Nat.le_trans c.out.fr.size T5.out.fr.size));have b2:=hid (Nat.le_trans c.out.fr.size T5.out.fr.size);have b7:=Nd.length_le ts;go_wp2_with(at_builtin;refine wpList_append_pts (W:=w) (S:=S5) (O:=O) rfl (.tmp 21) (.tmp 25) rfl ts t5 v5 _ _ _ (by rw[b0.out];rfl) a6.out K.out a5.out b2.out rfl (by rfl) b3.out (by omega) ?_;intro va wa G B;obtain⟨aa,ca,U⟩:=G.shape;simp only[List.length_append,List.length_singleton]at U;subst U;have a7:=hid G;have L:=hid B;clear G B)
     go_roundg m
     case measure=>omega
     case rel=>
      refine⟨s5,ts++[t5],S5,a7.out,R5.out.off L.out,(c.out.trans T5.out).off L.out,j1,by omega,?_,HU.out.snoc u,a4.out⟩;rw[Nd.sizes_append];show Nd.sizes ts+(t5.size+0)≤s5.at_+1;omega
theorem ZkD(l:List UInt8)(W0:World)(hl:l.length≤100000)(hE0:Env W0):∀n deep,n+deep=12→ZqO l W0 deep (chS prg l n)
 |0,deep,hd=>by
  obtain rfl:deep=12:=by omega
  intro b s S O w hO hs hW h;have hG:ZoT l W0 12 none:=fun b s S O w p _ _ _ _ _=>Zfh b l s S O w p;have:=Zf6 b l W0 12 none s S O w hO hl (Nat.le_refl _) hE0 hG (fun f hf=>by cases hf) hs hW h;rw[chS];exact this
 |n+1,deep,hd=>by
  intro b s S O w hO hs hW h;have ih:=ZkD l W0 hl hE0 n (deep+1) (by omega);have hG:ZoT l W0 deep (some (chS prg l n)):=fun b s S O w p hO hs h1 hW h=>Zmk b l W0 deep (chS prg l n) s S O w p hO hl (by omega) ih (chS_kept n).kept hs h1 hW h;have:=Zf6 b l W0 deep (some (chS prg l n)) s S O w hO hl (by omega) hE0 hG (fun f hf=>by injection hf with hf;subst hf;exact chS_kept n) hs hW h;rw[chS,show decide (n+1<12)=decide (0<deep)from by congr 1;exact propext ⟨fun _=>by omega,fun _=>by omega⟩];exact this
structure Four(w:World)(b0 b1 b2 b3:Nat)(v0 v1 v2 v3:Value):Prop where
 h0:w.heap[b0]? =some (.cells #[v0] 24 (0,0))
 h1:w.heap[b1]? =some (.cells #[v1] 25 (0,0))
 h2:w.heap[b2]? =some (.cells #[v2] 3 (0,0))
 h3:w.heap[b3]? =some (.cells #[v3] 26 (0,0))
 n01:b0≠b1
 n02:b0≠b2
 n03:b0≠b3
 n12:b1≠b2
 n13:b1≠b3
 n23:b2≠b3
theorem Four.drew{w:World}{b0 b1 b2 b3:Nat}{v0 v1 v2 v3:Value}(h:Four w b0 b1 b2 b3 v0 v1 v2 v3):Four w.drew b0 b1 b2 b3 v0 v1 v2 v3:=
 ⟨h.h0,h.h1,h.h2,h.h3,h.n01,h.n02,h.n03,h.n12,h.n13,h.n23⟩
theorem Zin{w:World}{b0 b1 b2 b3:Nat}{v0 v1 v2 v3:Value}(h:Four w b0 b1 b2 b3 v0 v1 v2 v3)(u0 u1 u2 u3:Value):
 Four ((((w.setCell ⟨b0,0,none⟩ u0).setCell ⟨b1,0,none⟩ u1).setCell ⟨b2,0,none⟩ u2).setCell ⟨b3,0,none⟩ u3) b0 b1 b2 b3 u0 u1 u2 u3∧
  Fr (fun k=>k=b0∨k=b1∨k=b2∨k=b3) w ((((w.setCell ⟨b0,0,none⟩ u0).setCell ⟨b1,0,none⟩ u1).setCell ⟨b2,0,none⟩ u2).setCell ⟨b3,0,none⟩ u3):=by
 obtain⟨h0,h1,h2,h3,a,b,c,d,e,f⟩:=h;have k0:=Zc (p:=⟨b3,0,none⟩) (Zc (p:=⟨b2,0,none⟩) (Zc (p:=⟨b1,0,none⟩) (Za h0 0 u0) a u1) b u2) c u3;have k1:=Zc (p:=⟨b3,0,none⟩) (Zc (p:=⟨b2,0,none⟩) (Za (Zc (p:=⟨b0,0,none⟩) h1 (Ne.symm a) u0) 0 u1) d u2) e u3;have k2:=Zc (p:=⟨b3,0,none⟩) (Za (Zc (p:=⟨b1,0,none⟩) (Zc (p:=⟨b0,0,none⟩) h2 (Ne.symm b) u0) (Ne.symm d) u1) 0 u2) f u3;have k3:=Za (Zc (p:=⟨b2,0,none⟩) (Zc (p:=⟨b1,0,none⟩) (Zc (p:=⟨b0,0,none⟩) h3 (Ne.symm c) u0) (Ne.symm e) u1) (Ne.symm f) u2) 0 u3;refine⟨⟨k0,k1,k2,k3,a,b,c,d,e,f⟩,?_⟩;exact((((Fr.refl (fun k=>k=b0∨k=b1∨k=b2∨k=b3) w).setCell (p:=⟨b0,0,none⟩) (fun _=>.inl rfl) u0).setCell (p:=⟨b1,0,none⟩) (fun _=>.inr (.inl rfl)) u1).setCell (p:=⟨b2,0,none⟩) (fun _=>.inr (.inr (.inl rfl))) u2).setCell (p:=⟨b3,0,none⟩) (fun _=>.inr (.inr (.inr rfl))) u3
abbrev CQ(w:World)(b:Nat)(v0 v1:Value):Prop:=w.cell? ⟨b,0,none⟩=some v0∧w.cell? ⟨b,1,none⟩=some v1
theorem CQ.drew{w:World}{b:Nat}{v0 v1:Value}(h:CQ w b v0 v1):CQ w.drew b v0 v1:=h
theorem CQ.set{w:World}{b c j:Nat}{v0 v1:Value}(h:CQ w b v0 v1)(hn:c≠b)(u:Value):CQ (w.setCell ⟨c,j,none⟩ u) b v0 v1:=⟨Zm h.1 hn,Zm h.2 hn⟩
theorem Zho(p0 p1 p2 p3:Value)(w:World):
 CallsD prog 32 #[p0,p1,p2,p3] .returning w fun e u' w'=>e=.returned (.tuple #[])∧u'=.returning∧w'=w:=by
 refine callsD_of_wpS func32 rfl fun c₀ cs hu=> ?_;apply wpS_seq;apply wpS_region;simp[wpOpsS,go_sem,recoverD,hu,ntmps32,Exit.thenS];refine wpS_of_wp ?_;go_wp2;cases c₀
 simp_all [bodyPostS,results,Tryz.results32]
theorem ZdA(b0 b1 b2 b3:Nat)(v0 v1 v2 v3:Value)(z:Int)(p:Nat)(older:List PanicEntry)(w:World)(h:Four w b0 b1 b2 b3 v0 v1 v2 v3):
 CallsD prog 32 #[.pointer (some ⟨b0,0,none⟩),.pointer (some ⟨b1,0,none⟩),.pointer (some ⟨b2,0,none⟩),.pointer (some ⟨b3,0,none⟩)] (.panicking ({v:=.iface 79 (.agg #[.int .i64 z,.int .i64 (p:Nat)]),recovered:=false}::older)) w fun e u' w'=>
  e=.returned (.tuple #[])∧u'=.panicking ({v:=.iface 79 (.agg #[.int .i64 z,.int .i64 (p:Nat)]),recovered:=true}::older)∧Four w' b0 b1 b2 b3 .nilIface (.slice none 0 0) (.int .i64 (p:Nat)) (.int .i64 z)∧Fr (fun k=>k=b0∨k=b1∨k=b2∨k=b3) w w':=by
 refine callsD_of_wpS func32 rfl fun c₀ cs hu=> ?_;apply wpS_seq;apply wpS_region;simp[wpOpsS,go_sem,recoverD,hu,ntmps32,Exit.thenS];obtain⟨h0,h1,h2,h3,l,m,n,o,q,r⟩:=h;have c0:=cell_at (j:=0) (v:=v0) h0 rfl;have c1:=cell_at (j:=0) (v:=v1) h1 rfl;have c2:=cell_at (j:=0) (v:=v2) h2 rfl;have c3:=cell_at (j:=0) (v:=v3) h3 rfl;have d0:=ZF h0 0;have d1:=ZF h1 0;have d2:=ZF h2 0;have d3:=ZF h3 0;have l0:=lt_heap h0;have l1:=lt_heap h1;have l2:=lt_heap h2;have l3:=lt_heap h3;have has:=fun(x:TypeId) (v:Value) (w:World)=>Zfe (P:=prog) (x:=x) underlying79 v w;have hz:=newAt0 w (.cells #[.int .i64 z,.int .i64 (p:Nat)] 79);obtain⟨wA,d⟩:∃wA,wA=w.alloc (.cells #[.int .i64 z,.int .i64 (p:Nat)] 79):=⟨_,rfl⟩;have a:Fr nob w wA:=by rw[d];exact(Fr.refl nob w).alloc _
 rw[←d]at hz;obtain⟨c,hc⟩:∃c,c=w.heap.size:=⟨_,rfl⟩;rw[←hc]at hz;have b:CQ wA c (.int .i64 z) (.int .i64 (p:Nat)):=⟨cell_at hz rfl,cell_at hz rfl⟩;have e0:=b.1;have e1:=b.2;have HQ:=hid b;have g:=hid (CQ.drew b);have m0:b0≠c:=by omega
 have m1:b1≠c:=by omega
 have m2:b2≠c:=by omega
 have m3:b3≠c:=by omega
 have H0:=hid (a.heap h0 (fun x=>x));have H1:=hid (a.heap h1 (fun x=>x));have H2:=hid (a.heap h2 (fun x=>x));have H3:=hid (a.heap h3 (fun x=>x));have HA:=hid a;have i:=hid d;have f:=hid hc;clear h0 h1 h2 h3 hz b a c0 c1 c2 c3 d0 d1 d2 d3;have c0:=cell_at (j:=0) (v:=v0) H0.out rfl;have c1:=cell_at (j:=0) (v:=v1) H1.out rfl;have c2:=cell_at (j:=0) (v:=v2) H2.out rfl;have c3:=cell_at (j:=0) (v:=v3) H3.out rfl;have d0:=ZF H0.out 0;have d1:=ZF H1.out 0;have d2:=ZF H2.out 0;have d3:=ZF H3.out 0;clear d hc;refine wpS_of_wp ?_;go_wp2_with(rw[←i.out,←f.out])
 go_region_held3 (fun w'=>CQ w' c (.int .i64 z) (.int .i64 (p:Nat))) (repeat(first|(with_reducible exact HQ.out)|(with_reducible exact g.out)|(with_reducible refine CQ.set ?_ (by assumption) _)|(with_reducible refine CQ.drew ?_))) (fail)
 all_goals
  go_wp2;have hR:=Zin (w:=wA) ⟨H0.out,H1.out,H2.out,H3.out,l,m,n,o,q,r⟩ .nilIface (.slice none 0 0) (.int .i64 (p:Nat)) (.int .i64 z);have HR:=hid hR;clear hR;simp[bodyPostS,results,Tryz.results32];exact⟨HR.out.1.drew,(HA.out.any.trans HR.out.2 (fun _ _ x=>x)).drew⟩
theorem Zio(w:World)(v0 v1 v2 v3:Value):Four ((((w.alloc (.cells #[v0] 24)).alloc (.cells #[v1] 25)).alloc (.cells #[v2] 3)).alloc (.cells #[v3] 26)) w.heap.size (w.heap.size+1) (w.heap.size+1+1) (w.heap.size+1+1+1) v0 v1 v2 v3:=
 ⟨heap_alloc_lt _ (heap_alloc_lt _ (heap_alloc_lt _ (newAt0 w _))),heap_alloc_lt _ (heap_alloc_lt _ (Zg _ _ _ (by simp))),heap_alloc_lt _ (Zg _ _ _ (by simp)),Zg _ _ _ (by simp),by omega,by omega,by omega,by omega,by omega,by omega⟩
theorem Zhp{X:Nat→Prop}{w w':World}{b0 b1 b2 b3:Nat}{v0 v1 v2 v3:Value}(h:Four w b0 b1 b2 b3 v0 v1 v2 v3)(f:Fr X w w')(hX:∀k,(k=b0∨k=b1∨k=b2∨k=b3)→¬X k):Four w' b0 b1 b2 b3 v0 v1 v2 v3:=
 ⟨f.heap h.h0 (hX _ (.inl rfl)),f.heap h.h1 (hX _ (.inr (.inl rfl))),f.heap h.h2 (hX _ (.inr (.inr (.inl rfl)))),f.heap h.h3 (hX _ (.inr (.inr (.inr rfl)))),h.n01,h.n02,h.n03,h.n12,h.n13,h.n23⟩
abbrev PQ(w:World)(b c:Nat)(v0 v4:Value):Prop:=w.cell? ⟨b,0,none⟩=some v0∧w.cell? ⟨c,4,none⟩=some v4
theorem PQ.drew{w:World}{b c:Nat}{v0 v4:Value}(h:PQ w b c v0 v4):PQ w.drew b c v0 v4:=h
theorem PQ.set{w:World}{b c k j:Nat}{v0 v4:Value}(h:PQ w b c v0 v4)(hb:k≠b)(hc:k≠c)(u:Value):PQ (w.setCell ⟨k,j,none⟩ u) b c v0 v4:=⟨Zm h.1 hb,Zm h.2 hc⟩
theorem PQ.same{w:World}{b c:Nat}{v0 v4:Value}(h:PQ w b c v0 v4)(hc:b≠c):PQ (w.setCell ⟨b,0,none⟩ v0) b c v0 v4:=⟨World.cell?_setCell_same' _ _ _ (by rw[h.1];rfl),Zm h.2 hc⟩
def ZW(R:Out Nd)(w:World)(e:Ending)(w':World):Prop:=Fr nob w w'∧match R with
 | .inl (z,p)=>e=.returned (.tuple #[.nilIface,.slice none 0 0,.int .i64 (p:Nat),.int .i64 z])
 | .inr (t,s)=>∃i y mv,e=.returned (.tuple #[.iface i y,mv,.int .i64 0,.int .i64 0])∧RN (fun k=>k<w.heap.size) w' t (.iface i y)∧OwM w' s.marks mv∧∀k,mv.ownBlock=some k→w.heap.size≤k
theorem ZeE(l:List UInt8)(w:World)(hl:l.length≤100000)(hE:Env w):
 Calls prog 9 #[.string ⟨l.toArray⟩] w (ZW (Zey prg l) w):=by
 have a7:=ZfW;by_cases r:250<l.length
 ·have a1:(250:Int)<(l.length:Int):=by omega
  unfold Zey;rw[if_pos r]
  go_enter_defers func9,ntmps9
  go_wp2;have hF:=Zio w .nilIface (.slice none 0 0) (.int .i64 250) (.int .i64 3);have k0:=cell_at (j:=0) (v:=.nilIface) hF.h0 rfl;have k1:=cell_at (j:=0) (v:=.slice none 0 0) hF.h1 rfl;have k2:=cell_at (j:=0) (v:=.int .i64 250) hF.h2 rfl;have k3:=cell_at (j:=0) (v:=.int .i64 3) hF.h3 rfl;have FW:=hid (((((Fr.refl nob w).alloc (.cells #[.nilIface] 24)).alloc (.cells #[.slice none 0 0] 25)).alloc (.cells #[.int .i64 250] 3)).alloc (.cells #[.int .i64 3] 26));simp[bodyPostD,Leaves,settle,results,Tryz.results9,go_sem,ZW];exact FW.out
 ·have a1:¬(250:Int)<(l.length:Int):=by omega
  unfold Zey;rw[if_neg r];obtain⟨F,hF⟩:∃F,chS prg l 12 ⟨0,0,[],[]⟩=F:=⟨_,rfl⟩;rw[hF];obtain⟨w4,c⟩:∃w4,w4=(((w.alloc (.cells #[.nilIface] 24)).alloc (.cells #[.slice none 0 0] 25)).alloc (.cells #[.int .i64 0] 3)).alloc (.cells #[.int .i64 0] 26):=⟨_,rfl⟩;have a5:w4.heap.size=w.heap.size+1+1+1+1:=by rw[c];simp
  have B:Fr nob w w4:=by rw[c];exact(((((Fr.refl nob w).alloc _).alloc _).alloc _).alloc _)
  have h4:Four w4 w.heap.size (w.heap.size+1) (w.heap.size+1+1) (w.heap.size+1+1+1) .nilIface (.slice none 0 0) (.int .i64 0) (.int .i64 0):=by rw[c];exact Zio w _ _ _ _
  obtain⟨w5,d⟩:∃w5,w5=w4.alloc (.cells #[.string ⟨l.toArray⟩,.int .i64 0,.int .i64 0,.slice none 0 0,.slice none 0 0] 83):=⟨_,rfl⟩;have a:Fr nob w4 w5:=by rw[d];exact(Fr.refl nob w4).alloc _
  have a6:w5.heap.size=w4.heap.size+1:=by rw[d];simp
  obtain⟨b,hb⟩:∃b,b=w4.heap.size:=⟨_,rfl⟩;have hB:Br b l ⟨0,0,[],[]⟩ (fun k=>k=b) (.slice none 0 0) (.slice none 0 0) w5:=
   ⟨by rw[d,hb];exact newAt0 w4 _,World.ownsRow_nil _ _ _ _,World.ownsRow_nil _ _ _ _,fun _ h=>(by cases h),fun _ h=>(by cases h),fun _ h=>(by cases h),rfl⟩
  have hO:∀k,k<b→k<w5.heap.size:=fun k hk=>by omega
  have m:=ZkD l w hl hE 12 0 rfl b ⟨0,0,[],[]⟩ (fun k=>k=b) (fun k=>k<b) w5 hO ⟨Nat.zero_le _,Nat.le_refl _,Nat.le_refl _,Nat.le_refl _⟩ ⟨B.trans' a,fun k hk=>by subst hk;omega,fun k hk=>by subst hk;omega⟩ ⟨_,_,hB⟩;rw[hF]at m;have h5:=Zhp (X:=nob) h4 a (fun _ _ x=>x);have a0:b=w.heap.size+1+1+1+1:=by omega
  rw[show((0:Nat):Int)=0 from rfl]at m;subst a0;have M:=hid m;have H5:=hid h5;have O:=hid c;have P:=hid d;have D:=hid (B.trans' a);have E:=hid (show w5.heap.size=w.heap.size+5 by omega);have a3:∀s6 S6 w6,Rdg (w.heap.size+1+1+1+1) l s6 S6 w6→Rdg (w.heap.size+1+1+1+1) l s6 S6 w6:=fun _ _ _ h=>h;clear m h5 h4 c d hB hO hF hb a5 B a hE a6 a3
  go_enter_defers func9,ntmps9
  go_wp2_with(rw[←O.out,←P.out]);refine(M.out).mono ?_;cases F with
  |inl q=>
   obtain⟨z,p⟩:=q;rintro e w6 ⟨rfl,S6,t6⟩;have h6:=Zhp H5.out t6.fr (fun k hk x=>by have x:k=w.heap.size+1+1+1+1:=x;omega);have F6:Fr nob w w6:=D.out.trans t6.fr (fun i hi x=>by have x:i=w.heap.size+1+1+1+1:=x;omega);refine leaves_cons (f:=32) (args:= #[.pointer (some ⟨w.heap.size,0,none⟩),.pointer (some ⟨w.heap.size+1,0,none⟩),.pointer (some ⟨w.heap.size+1+1,0,none⟩),.pointer (some ⟨w.heap.size+1+1+1,0,none⟩)]) (by simp) (by simp[go_sem]) ?_;refine(ZdA _ _ _ _ _ _ _ _ z p [] _ h6).mono ?_;rintro e u' w7 ⟨rfl,rfl,h7,f7⟩;have k0:=cell_at (j:=0) (v:=.nilIface) h7.h0 rfl;have k1:=cell_at (j:=0) (v:=.slice none 0 0) h7.h1 rfl;have k2:=cell_at (j:=0) (v:=.int .i64 (p:Nat)) h7.h2 rfl;have k3:=cell_at (j:=0) (v:=.int .i64 z) h7.h3 rfl;have FW:=hid (show Fr nob w w7 from F6.trans f7 (fun i hi x=>by omega));clear h7 f7 F6 h6 t6;simp[Leaves,settle,results,Tryz.results9,go_sem,ZW,k0,k1,k2,k3]
   exact FW.out
  |inr q=>
   obtain⟨t,s⟩:=q;rintro e w6 ⟨i,y,S6,rfl,K,⟨cv,mv,g⟩,t6⟩;have h6:=Zhp H5.out t6.fr (fun k hk x=>by have x:k=w.heap.size+1+1+1+1:=x;omega);have F6:Fr nob w w6:=D.out.trans t6.fr (fun i hi x=>by have x:i=w.heap.size+1+1+1+1:=x;omega);obtain⟨w7,n⟩:∃w7,w7=w6.setCell ⟨w.heap.size,0,none⟩ (.iface i y):=⟨_,rfl⟩;have c0:=cell_at (j:=0) (v:=.nilIface) h6.h0 rfl;have d0:=ZF h6.h0 0;have h7:Four w7 w.heap.size (w.heap.size+1) (w.heap.size+1+1) (w.heap.size+1+1+1) (.iface i y) (.slice none 0 0) (.int .i64 0) (.int .i64 0):=by
    rw[n];exact⟨Za h6.h0 0 _,Zc h6.h1 (Ne.symm h6.n01) _,Zc h6.h2 (Ne.symm h6.n02) _,Zc h6.h3 (Ne.symm h6.n03) _,h6.n01,h6.n02,h6.n03,h6.n12,h6.n13,h6.n23⟩
   have A:Fr (fun k=>k=w.heap.size) w6 w7:=by rw[n];exact(Fr.refl (fun k=>k=w.heap.size) w6).setCell (p:=⟨w.heap.size,0,none⟩) (fun _=>rfl) _
   have e4:w7.cell? ⟨w.heap.size+1+1+1+1,4,none⟩=some mv:=A.cell (cell_at g.blk rfl) (fun x=>by simp only at x;omega);have c7:=cell_at (j:=0) (v:=.iface i y) h7.h0 rfl;have S:=cell_at (j:=0) (v:=.slice none 0 0) h7.h1 rfl;have U:=cell_at (j:=0) (v:=.int .i64 0) h7.h2 rfl;have V:=cell_at (j:=0) (v:=.int .i64 0) h7.h3 rfl;have d7:=ZF h7.h0 0;have W:=ZF h7.h1 0;have Y:=ZF h7.h2 0;have Z:=ZF h7.h3 0;obtain⟨am,cm,a4⟩:=Zb g.ma;subst a4;have C:PQ w7 w.heap.size (w.heap.size+1+1+1+1) (.iface i y) (.slice am s.marks.length cm):=⟨c7,e4⟩;have HQ:=hid C;have N:=hid (PQ.drew C);have Q:=hid n;have H7:=hid h7;have R:=hid K;have T6:=hid t6;have F6:=hid F6;have L:=hid A;have u:=hid g;clear n h7 h6 K t6 A g C;go_wp2_with(rw[←Q.out])
   go_region_held3 (fun w'=>PQ w' w.heap.size (w.heap.size+1+1+1+1) (.iface i y) (.slice am s.marks.length cm)) (repeat(first|(with_reducible exact HQ.out)|(with_reducible exact N.out)|(with_reducible refine PQ.same ?_ (by omega))|(with_reducible refine PQ.set ?_ (by omega) (by omega) _)|(with_reducible refine PQ.drew ?_))) (fail)
   all_goals
    obtain⟨w8,o⟩:∃w8,w8=((((w7.setCell ⟨w.heap.size,0,none⟩ (.iface i y)).setCell ⟨w.heap.size+1,0,none⟩ (.slice am s.marks.length cm)).setCell ⟨w.heap.size+1+1,0,none⟩ (.int .i64 0)).setCell ⟨w.heap.size+1+1+1,0,none⟩ (.int .i64 0)).drew:=⟨_,rfl⟩;rw[←o];have hR:=Zin H7.out (.iface i y) (.slice am s.marks.length cm) (.int .i64 0) (.int .i64 0);have h8:Four w8 w.heap.size (w.heap.size+1) (w.heap.size+1+1) (w.heap.size+1+1+1) (.iface i y) (.slice am s.marks.length cm) (.int .i64 0) (.int .i64 0):=by rw[o];exact hR.1.drew
    have f8:Fr (fun k=>k=w.heap.size∨k=w.heap.size+1∨k=w.heap.size+1+1∨k=w.heap.size+1+1+1) w6 w8:=by rw[o];exact((L.out.mono (fun _ _ x=>.inl x)).trans hR.2 (fun _ _ x=>x)).drew
    have J:RN (fun k=>k<w.heap.size) w8 t (.iface i y):=RN.keep f8 (fun k _ x=>.inr (by show k<_;omega)) (fun k _ x=>.inr (by show k<_;have x:k<w.heap.size:=x;omega)) _ _ R.out;have H:OwM w8 s.marks (.slice am s.marks.length cm):=ownsRow_fr u.out.ma f8 (fun k hk x=>by
     have h1:=u.out.nm k hk;have h2:=E.out;have h3:k=w.heap.size+1+1+1+1:=T6.out.old k (by omega) h1.2;omega)
    have G:Fr nob w w8:=F6.out.trans f8 (fun i hi x=>by omega);have k0:=cell_at (j:=0) (v:=.iface i y) h8.h0 rfl;have k1:=cell_at (j:=0) (v:=.slice am s.marks.length cm) h8.h1 rfl;have k2:=cell_at (j:=0) (v:=.int .i64 0) h8.h2 rfl;have k3:=cell_at (j:=0) (v:=.int .i64 0) h8.h3 rfl;have I:∀k,(Value.slice am s.marks.length cm).ownBlock=some k→w.heap.size≤k:=fun k hk=>by
     have h1:=u.out.nm k hk;have h2:=E.out;by_cases a2:k<w5.heap.size
     ·have h3:k=w.heap.size+1+1+1+1:=T6.out.old k a2 h1.2;omega
     ·omega
    have HA:=hid (show ZW (.inr (t,s)) w (.returned (.tuple #[.iface i y,.slice am s.marks.length cm,.int .i64 0,.int .i64 0])) w8 from⟨G,_,_,_,rfl,J,H,I⟩);clear hR h8 f8 J H I G o c0 d0 c7 S U V d7 W Y Z;go_wp2;refine leaves_cons (f:=32) (args:= #[.pointer (some ⟨w.heap.size,0,none⟩),.pointer (some ⟨w.heap.size+1,0,none⟩),.pointer (some ⟨w.heap.size+1+1,0,none⟩),.pointer (some ⟨w.heap.size+1+1+1,0,none⟩)]) (by simp) (by simp[go_sem]) ?_;refine(Zho _ _ _ _ _).mono ?_;rintro e u' w9 ⟨rfl,rfl,rfl⟩;simp[Leaves,settle,results,Tryz.results9,go_sem,k0,k1,k2,k3];exact HA.out
end Go.Proofs.YtgllcniibbaoaaaGreatDoor
