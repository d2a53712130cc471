/- Lemmas of this claim. -/
import Derived.Lib.IndexMore
import Derived.Test.YtgllcniibbaoaaaGreatDoorJ03
import Derived.Test.YtgllcniibbaoaaaGreatDoorJ04
set_option linter.all false
set_option maxRecDepth 100000
set_option maxHeartbeats 24000000
namespace Go.Proofs.YtgllcniibbaoaaaGreatDoor
open Go.RowKit
def fnd(l:List UInt8)(k:UInt8):Nat→Nat→Option Nat
 |0,_=>none
 |n+1,p=>if p+1<l.length then(if l[p]? =some k∧l[p+1]? =some 93 then some p else fnd l k n (p+1))else none
structure It where
 set:S4
 one:Option UInt8
 next:Nat
def ZjX(c:UInt8):Bool:=c==58||c==61||c==46
def skp(k:UInt8):Nat:=if k=58 then 0 else 1
def nam(l:List UInt8)(at_ e:Nat):List UInt8:=(l.drop (at_+2)).take (e-(at_+2))
def itmN(l:List UInt8)(at_:Nat)(k:UInt8):(Int×Nat)⊕It:=
 match fnd l k (l.length+1) (at_+2+skp k)with
 |none=>.inl (5,l.length)
 |some e=>
  if k=58 then(match Zak ⟨(nam l at_ e).toArray⟩with|none=>.inl (6,at_)|some p=>.inr ⟨pk p 256,none,e+2⟩)
  else(match nam l at_ e with|[b]=>.inr ⟨spn b.toNat b.toNat,if k=46 then some b else none,e+2⟩|_=>.inl (6,at_))
def itm(l:List UInt8)(at_:Nat):(Int×Nat)⊕It:=
 match l[at_]? with
 |none=>.inl (5,l.length)
 |some c=>match l[at_+1]? with
  |none=>.inr ⟨spn c.toNat c.toNat,some c,at_+1⟩
  |some k=>if c=91∧ZjX k=true then itmN l at_ k else .inr ⟨spn c.toNat c.toNat,some c,at_+1⟩
def rng(l:List UInt8)(k:Nat):Bool:=decide (k+1<l.length)&&(l[k]? ==some 45)&& !(l[k+1]? ==some 93)
def prt(l:List UInt8)(at_:Nat):(Int×Nat)⊕(S4×Nat):=
 match itm l at_ with
 | .inl e=>.inl e
 | .inr x=>if rng l x.next then
  (match itm l (x.next+1)with
  | .inl e=>.inl e
  | .inr y=>match x.one,y.one with
    |some a,some b=>if a.toNat≤b.toNat then .inr (spn a.toNat b.toNat,y.next)else .inl (1,at_)
    |_,_=>.inl (1,at_))
   else .inr (x.set,x.next)
def lop(l:List UInt8):Nat→Nat→S4→(Int×Nat)⊕(S4×Nat)
 |0,_,_=>.inl (0,0)
 |n+1,at_,out=>if l[at_]? =some 93 then .inr (out,at_)else
  match prt l at_ with| .inl e=>.inl e| .inr x=>lop l n x.2 (out.or x.1)
def prs(l:List UInt8)(at_:Nat):(Int×Nat)⊕(S4×Nat):=
 let at':=if l[at_]? =some 94 then at_+1 else at_
 match prt l at' with
 | .inl e=>.inl e
 | .inr x=>match lop l (l.length+1) x.2 x.1 with
   | .inl e=>.inl e
   | .inr y=>.inr (if l[at_]? =some 94 then y.1.not else y.1,y.2+1)
theorem ZcQ{l:List UInt8}{k:UInt8}:∀{n p e:Nat},fnd l k n p=some e→p≤e∧e+1<l.length∧l[e]? =some k∧l[e+1]? =some 93∧∀j,p≤j→j<e→¬(l[j]? =some k∧l[j+1]? =some 93)
 |0,p,e,h=>by simp[fnd]at h
 |n+1,p,e,h=>by
  rw[fnd]at h;split at h
  ·next hl=>
   split at h
   ·next hk=>injection h with h;subst h;exact⟨Nat.le_refl _,hl,hk.1,hk.2,fun j h1 h2=>by omega⟩
   ·next hk=>
    obtain⟨h1,h2,h3,h4,h5⟩:=ZcQ h;refine⟨by omega,h2,h3,h4,fun j hj hje=> ?_⟩;rcases Nat.eq_or_lt_of_le hj with rfl|hj
    ·exact hk
    ·exact h5 j hj hje
  ·cases h
theorem fnd_none{l:List UInt8}{k:UInt8}:∀{n p:Nat},l.length<n+p→fnd l k n p=none→∀j,p≤j→¬(l[j]? =some k∧l[j+1]? =some 93)
 |0,p,hn,_,j,hj=>fun h=>by
  have:=(List.getElem?_eq_some_iff.1 h.1).1;omega
 |n+1,p,hn,h,j,hj=>by
  rw[fnd]at h;split at h
  ·split at h
   ·cases h
   ·next hk=>
    rcases Nat.eq_or_lt_of_le hj with rfl|hj
    ·exact hk
    ·exact fnd_none (by omega) h j hj
  ·next hl=>exact fun hc=>by have:=(List.getElem?_eq_some_iff.1 hc.2).1;omega
theorem Zpm(l:List UInt8)(p i:Nat)(k:UInt8):Lib.occAt (l.drop p) [k,93] i=true↔l[p+i]? =some k∧l[p+i+1]? =some 93:=by
 unfold Lib.occAt;rw[List.drop_drop];have e1:l[p+i]? =(l.drop (p+i))[0]? :=by simp
 have e2:l[p+i+1]? =(l.drop (p+i))[1]? :=by simp
 rw[e1,e2];cases h:l.drop (p+i)with
 |nil=>simp
 |cons a r=>
  cases r with
  |nil=>simp
  |cons b r=>
   simp[List.isPrefixOf];constructor<;>(rintro⟨h1,h2⟩;exact⟨h1.symm,h2.symm⟩)
theorem Ze4(l:List UInt8)(k:UInt8)(p:Nat)(hp:p≤l.length):Lib.index (l.drop p) [k,93]=match fnd l k (l.length+1) p with|some e=>(e:Int)-p|none=> -1:=by
 cases h:fnd l k (l.length+1) p with
 |none=>
  have hn:=fnd_none (by omega) h;refine Lib.index_none fun j hj=> ?_;cases ho:Lib.occAt (l.drop p) [k,93] j with
  |false=>rfl
  |true=>exact absurd ((Zpm l p j k).1 ho) (hn (p+j) (by omega))
 |some e=>
  obtain⟨h1,h2,h3,h4,h5⟩:=ZcQ h;have:=Lib.index_first (s:=l.drop p) (sub:=[k,93]) (i:=e-p) (by simp;omega) ((Zpm l p (e-p) k).2 ⟨by rw[show p+(e-p)=e by omega];exact h3,by rw[show p+(e-p)=e by omega];exact h4⟩) (fun j hj=>by
   cases ho:Lib.occAt (l.drop p) [k,93] j with
   |false=>rfl
   |true=>exact absurd ((Zpm l p j k).1 ho) (h5 (p+j) (by omega) (by omega)))
  rw[this];simp only;omega
theorem Zl2{l:List UInt8}{a e:Nat}{k c:UInt8}(hk:k≠58)(hf:fnd l k (l.length+1) (a+2+1)=some e)(hn:nam l a e=[c]):itmN l a k=.inr ⟨spn c.toNat c.toNat,if k=46 then some c else none,e+2⟩:=by
 unfold itmN skp;rw[if_neg hk,hf];simp only;rw[if_neg hk,hn]
theorem Zl3{l:List UInt8}{a e:Nat}{k:UInt8}(hk:k≠58)(hf:fnd l k (l.length+1) (a+2+1)=some e)(hn:(nam l a e).length≠1):itmN l a k=.inl (6,a):=by
 unfold itmN skp;rw[if_neg hk,hf];simp only;rw[if_neg hk];split
 ·next h=>rw[h]at hn;simp at hn
 ·rfl
theorem Zl4{l:List UInt8}{a e:Nat}{p:Int→Bool}(hf:fnd l 58 (l.length+1) (a+2)=some e)(hn:Zak ⟨(nam l a e).toArray⟩=some p):itmN l a 58=.inr ⟨pk p 256,none,e+2⟩:=by
 unfold itmN skp;rw[if_pos rfl,Nat.add_zero,hf];simp only;rw[if_pos trivial,hn]
theorem Zi2{l:List UInt8}{a e:Nat}(hf:fnd l 58 (l.length+1) (a+2)=some e)(hn:Zak ⟨(nam l a e).toArray⟩=none):itmN l a 58=.inl (6,a):=by
 unfold itmN skp;rw[if_pos rfl,Nat.add_zero,hf];simp only;rw[if_pos trivial,hn]
theorem ZjY{l:List UInt8}{a:Nat}{k:UInt8}(hf:fnd l k (l.length+1) (a+2+skp k)=none):itmN l a k=.inl (5,l.length):=by
 unfold itmN;rw[hf]
theorem ZjZ{l:List UInt8}{a:Nat}{k:UInt8}{x:It}(h:itmN l a k=.inr x):a<x.next∧x.next≤l.length∧x.set.fit:=by
 unfold itmN at h;cases hf:fnd l k (l.length+1) (a+2+skp k)with
 |none=>rw[hf]at h;cases h
 |some e=>
  obtain⟨h1,h2,_⟩:=ZcQ hf;rw[hf]at h;simp only at h;split at h
  ·split at h
   ·cases h
   ·injection h with h;subst h;exact⟨by simp only;omega,by simp only;omega,Zic _ _⟩
  ·split at h
   ·injection h with h;subst h;exact⟨by simp only;omega,by simp only;omega,Zb4 _ _⟩
   ·cases h
theorem ZdF{l:List UInt8}{a:Nat}{x:It}(h:itm l a=.inr x):a<x.next∧x.next≤l.length∧x.set.fit:=by
 unfold itm at h;split at h
 ·cases h
 ·next c hc=>
  have hl:=(List.getElem?_eq_some_iff.1 hc).1;split at h
  ·injection h with h;subst h;exact⟨Nat.lt_succ_self _,hl,Zb4 _ _⟩
  ·split at h
   ·exact ZjZ h
   ·injection h with h;subst h;exact⟨Nat.lt_succ_self _,hl,Zb4 _ _⟩
theorem Ze5{l:List UInt8}{a:Nat}{x:It}{c:UInt8}(h:itm l a=.inr x)(ho:x.one=some c):x.set=spn c.toNat c.toNat:=by
 unfold itm at h;split at h
 ·cases h
 ·split at h
  ·injection h with h;subst h;injection ho with ho;subst ho;rfl
  ·split at h
   ·unfold itmN at h;split at h
    ·cases h
    ·split at h
     ·split at h
      ·cases h
      ·injection h with h;subst h;cases ho
     ·split at h
      ·injection h with h;subst h;simp only at ho;split at ho
       ·injection ho with ho;subst ho;rfl
       ·cases ho
      ·cases h
   ·injection h with h;subst h;injection ho with ho;subst ho;rfl
theorem prt_next{l:List UInt8}{a:Nat}{x:S4×Nat}(h:prt l a=.inr x):a<x.2∧x.2≤l.length∧x.1.fit:=by
 unfold prt at h;split at h
 ·cases h
 ·next y hy=>
  have h1:=ZdF hy;split at h
  ·split at h
   ·cases h
   ·next z hz=>
    have h2:=ZdF hz;split at h
    ·split at h
     ·injection h with h;subst h;exact⟨by simp only;omega,h2.2.1,Zb4 _ _⟩
     ·cases h
    ·cases h
  ·injection h with h;subst h;exact h1
theorem lop_next{l:List UInt8}:∀{n a:Nat} {o:S4} {x:S4×Nat},o.fit→lop l n a o=.inr x→a≤x.2∧x.2<l.length∧x.1.fit
 |0,a,o,x,ho,h=>by simp[lop]at h
 |n+1,a,o,x,ho,h=>by
  rw[lop]at h;split at h
  ·next hc=>injection h with h;subst h;exact⟨Nat.le_refl _,(List.getElem?_eq_some_iff.1 hc).1,ho⟩
  ·split at h
   ·cases h
   ·next y hy=>
    have h1:=prt_next hy;have h2:=lop_next (Zph _ _) h;exact⟨by omega,h2.2⟩
def bod(l:List UInt8)(a:Nat):(Int×Nat)⊕(S4×Nat):=match prt l a with
 | .inl z=>.inl z
 | .inr x=>lop l (l.length+1) x.2 x.1
def Zp7(d:Bool):(Int×Nat)⊕(S4×Nat)→(Int×Nat)⊕(S4×Nat)
 | .inl z=>.inl z
 | .inr y=>.inr (if d then y.1.not else y.1,y.2+1)
theorem Zpn{l:List UInt8}{a:Nat}(h:l[a]? =some 94):prs l a=Zp7 true (bod l (a+1)):=by
 unfold prs bod;simp only[h,if_true];cases prt l (a+1)with
 |inl z=>rfl
 |inr x=>simp only;cases lop l (l.length+1) x.2 x.1<;>rfl
theorem Zpo{l:List UInt8}{a:Nat}(h:l[a]?≠some 94):prs l a=Zp7 false (bod l a):=by
 unfold prs bod;simp only[if_neg h];cases prt l a with
 |inl z=>rfl
 |inr x=>simp only;cases lop l (l.length+1) x.2 x.1<;>rfl
end Go.Proofs.YtgllcniibbaoaaaGreatDoor
