/-
  Merged texts of this claim: BrkS, RdP, RdE.
-/
import Derived.Test.YtkfddjopbocpkaaGreatDoorM04
import Derived.Test.YtkfddjopbocpkaaGreatDoorM09
set_option linter.unusedVariables false
set_option linter.unusedSimpArgs false
set_option maxRecDepth 100000
set_option maxHeartbeats 4000000
namespace Go.Proofs.YtkfddjopbocpkaaGreatDoor
open Go.RowKit
theorem prt_err{l:List UInt8}{a:Nat}{z:Int×Nat}(h:prt l a=.inl z):z.1≠0:=by
 unfold prt at h;split at h
 ·next e he=>injection h with h;subst h;exact itm_err he
 ·split at h
  ·split at h
   ·next e he=>injection h with h;subst h;exact itm_err he
   ·split at h
    ·split at h
     ·cases h
     ·injection h with h;subst h;simp
    ·injection h with h;subst h;simp
  ·cases h
theorem lop_err{l:List UInt8}:∀{n a:Nat} {o:S4} {z:Int×Nat},a≤l.length→l.length<n+a→lop l n a o=.inl z→z.1≠0
 |0,a,_,_,h,h',_=>by omega
 |n+1,a,o,z,h,h',hz=>by
  rw[lop]at hz;split at hz
  ·cases hz
  ·cases hp:prt l a with
   |inl y=>rw[hp]at hz;injection hz with hz;subst hz;exact prt_err hp
   |inr x=>rw[hp]at hz;have:=prt_next hp;exact lop_err this.2.1 (by omega) hz
theorem prs_err{l:List UInt8}{a:Nat}{z:Int×Nat}(h:prs l a=.inl z):z.1≠0:=by
 have key:∀b d,ZmZ d (bod l b)=.inl z→z.1≠0:=by
  intro b d hb;unfold bod at hb;cases hp:prt l b with
  |inl y=>rw[hp]at hb;injection hb with hb;subst hb;exact prt_err hp
  |inr x=>
   rw[hp]at hb;simp only at hb;cases hq:lop l (l.length+1) x.2 x.1 with
   |inl y=>rw[hq]at hb;injection hb with hb;subst hb;have:=prt_next hp;exact lop_err this.2.1 (by omega) hq
   |inr y=>rw[hq]at hb;cases hb
 by_cases hc:l[a]? =some 94
 ·rw[Zmj hc]at h;exact key _ _ h
 ·rw[Zmk hc]at h;exact key _ _ h
theorem ZkO{l:List UInt8}{a:Nat}{y:S4×Nat}(h:prs l a=.inr y):y.1.fit∧a<y.2∧y.2≤l.length:=by
 have key:∀b d,ZmZ d (bod l b)=.inr y→y.1.fit∧b<y.2∧y.2≤l.length:=by
  intro b d hb;unfold bod at hb;cases hp:prt l b with
  |inl z=>rw[hp]at hb;cases hb
  |inr x=>
   rw[hp]at hb;simp only at hb;cases hq:lop l (l.length+1) x.2 x.1 with
   |inl z=>rw[hq]at hb;cases hb
   |inr z=>
    rw[hq]at hb;injection hb with hb;subst hb;have h1:=prt_next hp;have h2:=lop_next h1.2.2 hq;refine⟨?_,by simp only;omega,by simp only;omega⟩;cases d
    ·exact h2.2.2
    ·exact Zk8 _
 by_cases hc:l[a]? =some 94
 ·rw[Zmj hc]at h;have:=key _ _ h;exact⟨this.1,by omega,this.2.2⟩
 ·rw[Zmk hc]at h;exact key _ _ h
def sgn(l:List UInt8)(k:Nat):List UInt8:=match l[k]? with
 |none=>[]
 |some b=>if b=92 then(match l[k+1]? with|none=>[92]|some c=>[92,c])else[b]
def opB(ere:Bool)(b:UInt8):List UInt8:=if ere then[b]else[92,b]
def Znh(l:List UInt8)(k:Nat):Nat×Nat:=if 255<(ZaU (l.drop k) 0 0).1 then(0,0)else ZaU (l.drop k) 0 0
def Zlu(l:List UInt8)(ere:Bool)(k:Nat):Option (Int×Int×Nat):=
 let m:=Znh l k
 if m.2=0 then none
 else
  let k1:=k+m.2
  let x:=Znh l (k1+1)
  let n:Int:=if ahd l k1 [44]then(if 0<x.2 then(x.1:Int)else -1)else m.1
  let k2:=if ahd l k1 [44]then k1+1+(if 0<x.2 then x.2 else 0)else k1
  if ahd l k2 (opB ere 125)=false∨(0≤n∧n<m.1)then none else some ((m.1:Int),n,k2+(opB ere 125).length)
theorem ZiD{l:List UInt8}{k:Nat}(h:l.length≤k):sgn l k=[]:=by unfold sgn;rw[List.getElem?_eq_none h]
theorem ZiE(l:List UInt8)(k:Nat):(sgn l k).length≤2∧k+(sgn l k).length≤max k l.length:=by
 unfold sgn;cases hk:l[k]? with
 |none=>simp;omega
 |some b=>
  have:=(List.getElem?_eq_some_iff.1 hk).1;simp only;split
  ·cases hk2:l[k+1]? with
   |none=>simp;omega
   |some c=>have:=(List.getElem?_eq_some_iff.1 hk2).1;simp;omega
  ·simp;omega
section
variable {α:Type} (A:Alg α) (ere:Bool) (l:List UInt8)
def Zfg:Nat→RxS→α→Out α
 |0,s,t=>.inr (t,s)
 |n+1,s,t=>
  if sgn l s.at_==[42]then Zfg n (s.go 1) (A.rep t 0 (-1))
  else if sgn l s.at_==opB ere 43 then Zfg n ((if ere then s else s.mark [92,43]).go (opB ere 43).length) (A.rep t 1 (-1))
  else if sgn l s.at_==opB ere 63 then Zfg n ((if ere then s else s.mark [92,63]).go (opB ere 63).length) (A.rep t 0 1)
  else if sgn l s.at_==opB ere 123 then
   match Zlu l ere (s.at_+(opB ere 123).length)with
   |none=>.inl (7,s.at_)
   |some (m,x,k)=>Zfg n (s.to k) (A.rep t m x)
  else .inr (t,s)
def escD(s:RxS)(b:UInt8):Out α:=
 if 49≤b.toNat∧b.toNat≤57 then
  (if s.closed.contains (b.toNat-48)then .inr (A.back ((b.toNat-48:Nat):Int),(if ere then s.mark [92,b]else s).go 2)else .inl (9,s.at_))
 else
  match Zmp b with
  |none=>.inl (2,s.at_)
  |some (c,m)=>.inr (A.one c,(if m then s.mark [92,b]else s).go 2)
def ZcE(C:Option (RxS→Out α))(s:RxS):Out α:=
 match C with
 |none=>.inl (4,s.at_)
 |some f=>
  match f {s.go (opB ere 40).length with opened:=s.opened+1}with
  | .inl e=>.inl e
  | .inr (t,s')=>
    if sgn l s'.at_==opB ere 41 then .inr (A.group ((s.opened+1:Nat):Int) t,{s'.go (opB ere 40).length with closed:=s'.closed++[s.opened+1]})
    else .inl (8,s.at_)
def Zd2(C:Option (RxS→Out α))(s:RxS):Out α:=
 if sgn l s.at_==opB ere 40 then ZcE A ere l C s
 else if sgn l s.at_==opB ere 41 then .inl (8,s.at_)
 else if sgn l s.at_==[91]then
  match prs l (s.at_+1)with
  | .inl (e,p)=>.inl (e,p)
  | .inr (c,k)=>.inr (A.one c,s.to k)
 else if sgn l s.at_==[46]then .inr (A.one (spn 0 255),s.go 1)
 else if sgn l s.at_==[92]then .inl (11,s.at_)
 else
  match sgn l s.at_ with
  |[]=>.inl (2,s.at_)
  |[b]=>.inr (A.one (spn b.toNat b.toNat),s.go 1)
  |_::b::_=>escD A ere s b
def Zlv(inner:Bool)(k:Nat):Bool:=sgn l k==[]||(sgn l k==opB ere 124||(sgn l k==opB ere 41&&(inner|| !ere)))
def brD(C:Option (RxS→Out α))(inner:Bool):Nat→Bool→Bool→RxS→List α→Out α
 |0,_,_,s,ps=>.inr (A.join ps,s)
 |n+1,first,front,s,ps=>
  if sgn l s.at_==[]||(sgn l s.at_==opB ere 124||(sgn l s.at_==opB ere 41&&inner))then .inr (A.join ps,s)
  else if sgn l s.at_==[94]&&(ere||first)then brD C inner n false true (s.go 1) (ps++[A.start])
  else if sgn l s.at_==[36]&&(ere||Zlv ere l inner (s.at_+1))then brD C inner n false true (s.go 1) (ps++[A.fin])
  else if front&&(sgn l s.at_==opB ere 123||(sgn l s.at_==opB ere 43||(sgn l s.at_==opB ere 63||(ere&&sgn l s.at_==[42]))))then .inl (10,s.at_)
  else
   match Zd2 A ere l C s with
   | .inl e=>.inl e
   | .inr (t,s1)=>
     match Zfg A ere l (l.length+1) s1 t with
     | .inl e=>.inl e
     | .inr (t,s2)=>brD C inner n false false s2 (ps++[t])
def Zda(C:Option (RxS→Out α))(inner:Bool)(s:RxS):Out α:=brD A ere l C inner (if sgn l s.at_==[94]then l.length+2 else l.length+1) true true s []
def Zav(C:Option (RxS→Out α))(inner:Bool):Nat→RxS→List α→Out α
 |0,s,ts=>.inr (A.choose ts,s)
 |n+1,s,ts=>
  if sgn l s.at_==opB ere 124 then
   match Zda A ere l C inner ((if ere then s else s.mark [92,124]).go (opB ere 124).length)with
   | .inl e=>.inl e
   | .inr (t,s')=>Zav C inner n s' (ts++[t])
  else .inr (A.choose ts,s)
def choiceD(C:Option (RxS→Out α))(inner:Bool)(s:RxS):Out α:=
 match Zda A ere l C inner s with
 | .inl e=>.inl e
 | .inr (t,s')=>Zav A ere l C inner (l.length+1) s' [t]
def chD:Nat→RxS→Out α
 |0=>choiceD A ere l none true
 |n+1=>choiceD A ere l (some (chD n)) (decide (n+1<12))
def Zah:Out α:=if 250<l.length then .inl (3,250)else chD A ere l 12 ⟨0,0,[],[]⟩
end
theorem ZcF{l:List UInt8}{k:Nat}{c:UInt8}(hc:c≠92):(sgn l k==[c])=ahd l k [c]:=by
 unfold sgn ahd;cases h:l[k]? with
 |none=>rw[List.drop_eq_nil_of_le (by simpa using h)];rfl
 |some b=>
  obtain⟨hk,hb⟩:=List.getElem?_eq_some_iff.1 h;rw[List.drop_eq_getElem_cons hk,hb];by_cases h92:b=92
  ·subst h92;have e:([c].isPrefixOf (92::l.drop (k+1)))=false:=by simp[List.isPrefixOf,hc]
   rw[e];simp only[if_true];cases l[k+1]? with
   |none=>simp[Ne.symm hc]
   |some d=>simp
  ·simp only[if_neg h92];simp[List.isPrefixOf,BEq.comm (a:=c)]
theorem Za6{l:List UInt8}{k:Nat}{c:UInt8}:(sgn l k==[92,c])=ahd l k [92,c]:=by
 unfold sgn ahd;cases h:l[k]? with
 |none=>rw[List.drop_eq_nil_of_le (by simpa using h)];rfl
 |some b=>
  obtain⟨hk,hb⟩:=List.getElem?_eq_some_iff.1 h;rw[List.drop_eq_getElem_cons hk,hb];by_cases h92:b=92
  ·subst h92;simp only[if_true];cases h2:l[k+1]? with
   |none=>rw[List.drop_eq_nil_of_le (by simpa using h2)];simp[List.isPrefixOf]
   |some d=>
    obtain⟨hk2,hd⟩:=List.getElem?_eq_some_iff.1 h2;rw[List.drop_eq_getElem_cons hk2,hd];simp[List.isPrefixOf,BEq.comm (a:=c)]
  ·simp only[if_neg h92];simp[List.isPrefixOf,Ne.symm h92]
theorem ZfH{l:List UInt8}{k:Nat}:(sgn l k==[])=decide (l.length≤k):=by
 by_cases h:l.length≤k
 ·rw[ZiD h];simp[h]
 ·have hk:k<l.length:=by omega
  unfold sgn;rw[List.getElem?_eq_getElem hk];simp only[h,decide_false];split
  ·cases l[k+1]? <;>rfl
  ·rfl
section
variable {α:Type} {A:Alg α} {l:List UInt8}
theorem Zbo(b:UInt8):opB false b=[92,b]:=rfl
theorem Zj5{r:List UInt8}{x d:Nat}(h:ZaU r 0 0=(x,d))(hx:0<x):∃b t,r=b::t∧48≤b.toNat∧b.toNat≤57:=by
 cases r with
 |nil=>rw[ZaU]at h;injection h with h1 h2;omega
 |cons b t=>
  rw[ZaU]at h;split at h
  ·next hb=>exact⟨b,t,rfl,hb.1,hb.2.1⟩
  ·injection h with h1 h2;omega
theorem num3_ge:∀(r:List UInt8) (c n:Nat),c≤(ZaU r c n).2
 |[],c,n=>Nat.le_refl _
 |b::r,c,n=>by
  rw[ZaU];split
  ·exact Nat.le_trans (Nat.le_succ c) (num3_ge r (c+1) _)
  ·exact Nat.le_refl _
theorem Zlw(k:Nat):Zlu l false k=Zef l k:=by
 unfold Zlu Zef Znh;simp only[Zbo];obtain⟨m,c,hm⟩:∃m c,ZaU (l.drop k) 0 0=(m,c):=⟨_,_,rfl⟩;rw[hm];by_cases h255:255<m
 ·simp only[if_pos h255,if_true];by_cases hc:c=0
  ·simp[hc]
  ·simp[hc,h255]
 ·simp only[if_neg h255];by_cases hc:c=0
  ·simp[hc]
  ·simp only[hc,if_false];cases ha:ahd l (k+c) [44]with
   |false=>
    simp only[Bool.false_eq_true,if_false];have e1:¬((0:Int)≤(m:Int)∧(m:Int)<(m:Int)):=by omega
    have e2:¬(255:Int)<(m:Int):=by omega
    simp[e1,e2,h255]
   |true=>
    simp only[if_true];obtain⟨x,d,hx⟩:∃x d,ZaU (l.drop (k+c+1)) 0 0=(x,d):=⟨_,_,rfl⟩;rw[hx];have e0:¬(255:Int)<(m:Int):=by omega
    by_cases h2:255<x
    ·obtain⟨b,t,ht,hb1,hb2⟩:=Zj5 hx (by omega);have hn:ahd l (k+c+1) [92,125]=false:=by
      unfold ahd;rw[ht];simp only[List.isPrefixOf,Bool.and_eq_false_iff];exact .inl (by simp only[beq_eq_false_iff_ne,ne_eq];rintro rfl;simp at hb2)
     have hd:d≠0:=by
      intro h0;subst h0;rw[ht,ZaU,if_pos ⟨hb1,hb2,by decide⟩]at hx;have:=num3_ge t 1 (0*10+(b.toNat-48));rw[hx]at this;simp at this
     have e1:(255:Int)<(x:Int):=by omega
     simp[h2,hn,hd,e1]
    ·simp only[if_neg h2];by_cases hd:d=0
     ·subst hd;simp[h255]
     ·have hd':0<d:=by omega
      have e1:¬(255:Int)<(x:Int):=by omega
      simp[hd,hd',h255,h2,e0,e1]
theorem ZfI{k:Nat}{c d:UInt8}(h:ahd l k [92,c]=true)(hd:d≠92):ahd l k [d]=false:=by
 rw[←ZcF hd];rw[←Za6]at h;rw[eq_of_beq h];simp
theorem ahd_not{k:Nat}{c d:UInt8}(h:ahd l k [92,c]=true)(hd:d≠c):ahd l k [92,d]=false:=by
 rw[←Za6]at h⊢;rw[eq_of_beq h];simpa using fun e=>hd e.symm
theorem ZiF:∀(n:Nat) (s:RxS) (t:α),Zfg A false l n s t=Zbu A l n s t
 |0,s,t=>rfl
 |n+1,s,t=>by
  rw[Zfg,Zbu];simp only[Zbo,Za6,ZcF (show(42:UInt8)≠92 by decide),Bool.false_eq_true,if_false,Zlw,ZiF n,List.length_cons,List.length_nil];cases h1:ahd l s.at_ [92,43]with
  |true=>simp[ZfI h1 (show(42:UInt8)≠92 by decide)]
  |false=>
   cases h2:ahd l s.at_ [92,63]with
   |true=>simp[ZfI h2 (show(42:UInt8)≠92 by decide)]
   |false=>
    cases h3:ahd l s.at_ [92,123]with
    |true=>simp only[ZfI h3 (show(42:UInt8)≠92 by decide),Bool.false_eq_true,if_false,if_true];rfl
    |false=>simp
variable {C:Option (RxS→Out α)}
theorem ZiG(s:RxS):ZcE A false l C s=Za4 A l C s.at_ (s.go 2):=by
 unfold ZcE Za4;cases C with
 |none=>rfl
 |some f=>
  simp only[Zbo,Za6,List.length_cons,List.length_nil];rfl
theorem Zj6{s:RxS}{b:UInt8}(h:l[s.at_]? =some b):Zd2 A false l C s=Zbv A l C s b:=by
 obtain⟨hk,hb⟩:=List.getElem?_eq_some_iff.1 h;unfold Zd2 Zbv;by_cases h92:b=92
 ·subst h92;simp only[if_true];unfold Zjx;cases h2:l[s.at_+1]? with
  |none=>
   have hs:sgn l s.at_=[92]:=by unfold sgn;rw[h];simp only[if_true,h2]
   simp[hs,opB]
  |some d=>
   have hs:sgn l s.at_=[92,d]:=by unfold sgn;rw[h];simp only[if_true,h2]
   rw[←Za6,←Za6,hs,ZiG];simp only[Zbo];unfold escD;simp;rfl
 ·have hs:sgn l s.at_=[b]:=by unfold sgn;rw[h];simp only[if_neg h92]
  rw[hs];simp[opB,h92];rfl
theorem Zj7{inner:Bool}{k:Nat}:Zlv false l inner (k+1)=Zbk l k:=by
 unfold Zlv Zbk;rw[ZfH,Zbo,Zbo,Za6,Za6];simp only[Bool.not_false,Bool.or_true,Bool.and_true];have e:decide (l.length≤k+1)=(l.drop (k+1)).isEmpty:=by
  by_cases h:l.length≤k+1
  ·rw[List.drop_eq_nil_of_le h];simp[h]
  ·rw[List.drop_eq_getElem_cons (by omega)];simp[h]
 rw[e];cases(l.drop (k+1)).isEmpty<;>cases ahd l (k+1) [92,124]<;>cases ahd l (k+1) [92,41]<;>rfl
theorem ZiH{k:Nat}(h:Zbk l k=true):l.length≤k+1∨ahd l (k+1) [92,124]=true∨ahd l (k+1) [92,41]=true:=by
 unfold Zbk at h;cases h1:ahd l (k+1) [92,124]with
 |true=>exact .inr (.inl rfl)
 |false=>
  cases h2:ahd l (k+1) [92,41]with
  |true=>exact .inr (.inr rfl)
  |false=>
   rw[h1,h2]at h;simp only[Bool.or_false,List.isEmpty_iff,List.drop_eq_nil_iff]at h;exact .inl h
theorem ZgI{inner:Bool}:∀(n:Nat) (fD fS:Bool) (s:RxS) (ps:List α),(fD=fS∨l.length≤s.at_∨ahd l s.at_ [92,124]=true∨ahd l s.at_ [92,41]=true)→
 brD A false l C inner n false fD s ps=brS A l C inner n fS s ps
 |0,fD,fS,s,ps,_=>rfl
 |n+1,fD,fS,s,ps,hf=>by
  rw[brD,brS];simp only[Zbo,Za6,ZfH,ZcF (show(36:UInt8)≠92 by decide),Bool.false_or,Bool.and_false,Bool.false_and,Bool.or_false,Bool.false_eq_true,if_false];by_cases hk:l.length≤s.at_
  ·rw[List.getElem?_eq_none hk];simp[hk]
  ·have hlt:s.at_<l.length:=by omega
   rw[List.getElem?_eq_getElem hlt];simp only[hk,decide_false,Bool.false_or];rw[Bool.and_comm (ahd l s.at_ [92,41]) inner];cases h1:(ahd l s.at_ [92,124]||(inner&&ahd l s.at_ [92,41]))with
   |true=>simp
   |false=>
    simp only[Bool.false_eq_true,if_false];rw[Zj7,Zj6 (b:=l[s.at_]) (by rw[List.getElem?_eq_getElem hlt])];have e1:(fD&&(ahd l s.at_ [92,123]||(ahd l s.at_ [92,43]||ahd l s.at_ [92,63])))=(fS&&(ahd l s.at_ [92,123]||(ahd l s.at_ [92,43]||ahd l s.at_ [92,63]))):=by
     rcases hf with rfl|h|h|h
     ·rfl
     ·exact absurd h hk
     ·rw[h]at h1;simp at h1
     ·rw[ahd_not h (show(123:UInt8)≠41 by decide),ahd_not h (show(43:UInt8)≠41 by decide),ahd_not h (show(63:UInt8)≠41 by decide)];simp
    cases h2:(ahd l s.at_ [36]&&Zbk l s.at_)with
    |true=>
     have h3:ahd l s.at_ [36]=true∧Zbk l s.at_=true:=by simpa using h2
     have h4:(fS&&(ahd l s.at_ [92,123]||(ahd l s.at_ [92,43]||ahd l s.at_ [92,63])))=false:=by
      have hx:=h3.1;have q:∀c:UInt8,ahd l s.at_ [92,c]=false:=fun c=>by
       rw[←ZcF (by decide)]at hx;rw[←Za6,eq_of_beq hx];simp
      rw[q,q,q];simp
     rw[h4];simp only[if_true,Bool.false_eq_true,if_false];exact ZgI n true false (s.go 1) _ (.inr (ZiH h3.2))
    |false=>
     rw[e1];simp only[Bool.false_eq_true,if_false];cases h5:(fS&&(ahd l s.at_ [92,123]||(ahd l s.at_ [92,43]||ahd l s.at_ [92,63])))with
     |true=>rfl
     |false=>
      simp only[Bool.false_eq_true,if_false];cases Zbv A l C s l[s.at_]with
      |inl e=>rfl
      |inr y=>
       obtain⟨t,s1⟩:=y;simp only[ZiF];cases Zbu A l (l.length+1) s1 t with
       |inl e=>rfl
       |inr z=>exact ZgI n false false _ _ (.inl rfl)
theorem Zdv{inner:Bool}{s:RxS}:Zda A false l C inner s=branchS A l C inner s:=by
 unfold Zda branchS;rw[ZcF (by decide)];cases h:ahd l s.at_ [94]with
 |true=>
  simp only[if_true];have hlt:¬l.length≤s.at_:=fun e=>by
   unfold ahd at h;rw[List.drop_eq_nil_of_le e]at h;cases h
  have q:∀c:UInt8,ahd l s.at_ [92,c]=false:=fun c=>by
   rw[←ZcF (by decide)]at h;rw[←Za6,eq_of_beq h];simp
  rw[brD];simp only[Zbo,Za6,ZfH,ZcF (show(94:UInt8)≠92 by decide),q,h,hlt,decide_false,Bool.false_or,Bool.false_and,Bool.false_eq_true,if_false,Bool.true_and,if_true];exact ZgI _ _ _ _ _ (.inl rfl)
 |false=>
  simp only[Bool.false_eq_true,if_false];rw[←ZgI (l.length+1) true true s [] (.inl rfl),brD,brD];rw[ZcF (show(94:UInt8)≠92 by decide),h];simp
theorem ZgJ{inner:Bool}:∀(n:Nat) (s:RxS) (ts:List α),Zav A false l C inner n s ts=ZaJ A l C inner n s ts
 |0,s,ts=>rfl
 |n+1,s,ts=>by
  rw[Zav,ZaJ,Zbo,Za6];simp only[Bool.false_eq_true,if_false,List.length_cons,List.length_nil,Zdv,ZgJ n];rfl
theorem Zdw{inner:Bool}{s:RxS}:choiceD A false l C inner s=choiceS A l C inner s:=by
 unfold choiceD choiceS;simp only[Zdv,ZgJ];rfl
end
theorem ZkP{α:Type}{A:Alg α}{l:List UInt8}:∀(n:Nat),chD A false l n=chS A l n
 |0=>by funext s;rw[chD,chS,Zdw]
 |n+1=>by funext s;rw[chD,chS,Zdw,ZkP n]
theorem ZeB{α:Type}{A:Alg α}{l:List UInt8}:Zah A false l=Zds A l:=by
 unfold Zah Zds;rw[ZkP]
section
variable {α:Type} {A:Alg α} {ere:Bool} {l:List UInt8}
theorem repD_err:∀(n:Nat) (s:RxS) (t:α) (z:Int×Nat),Zfg A ere l n s t=.inl z→z.1≠0
 |0,s,t,z,h=>by rw[Zfg]at h;cases h
 |n+1,s,t,z,h=>by
  rw[Zfg]at h;split at h
  ·exact repD_err n _ _ z h
  ·split at h
   ·exact repD_err n _ _ z h
   ·split at h
    ·exact repD_err n _ _ z h
    ·split at h
     ·split at h
      ·injection h with h;subst h;simp
      ·exact repD_err n _ _ z h
     ·cases h
variable {C:Option (RxS→Out α)} (hC:∀f,C=some f→∀s z,f s=.inl z→z.1≠0)
include hC
theorem Zhw{s:RxS}{z:Int×Nat}(h:ZcE A ere l C s=.inl z):z.1≠0:=by
 unfold ZcE at h;cases C with
 |none=>injection h with h;subst h;simp
 |some f=>
  simp only at h;cases hf:f {s.go (opB ere 40).length with opened:=s.opened+1}with
  |inl e=>rw[hf]at h;injection h with h;subst h;exact hC f rfl _ _ hf
  |inr y=>
   rw[hf]at h;simp only at h;split at h
   ·cases h
   ·injection h with h;subst h;simp
theorem atomD_err{s:RxS}{z:Int×Nat}(h:Zd2 A ere l C s=.inl z):z.1≠0:=by
 unfold Zd2 at h;split at h
 ·exact Zhw hC h
 ·split at h
  ·injection h with h;subst h;simp
  ·split at h
   ·split at h
    ·next e p hp=>injection h with h;subst h;exact prs_err hp
    ·cases h
   ·split at h
    ·cases h
    ·split at h
     ·injection h with h;subst h;simp
     ·split at h
      ·injection h with h;subst h;simp
      ·cases h
      ·unfold escD at h;split at h
       ·split at h
        ·cases h
        ·injection h with h;subst h;simp
       ·split at h
        ·injection h with h;subst h;simp
        ·cases h
theorem brD_err{inner:Bool}:∀(n:Nat) (first front:Bool) (s:RxS) (ps:List α) (z:Int×Nat),brD A ere l C inner n first front s ps=.inl z→z.1≠0
 |0,first,front,s,ps,z,h=>by rw[brD]at h;cases h
 |n+1,first,front,s,ps,z,h=>by
  rw[brD]at h;split at h
  ·cases h
  ·split at h
   ·exact brD_err n _ _ _ _ z h
   ·split at h
    ·exact brD_err n _ _ _ _ z h
    ·split at h
     ·injection h with h;subst h;simp
     ·split at h
      ·next e he=>injection h with h;subst h;exact atomD_err hC he
      ·split at h
       ·next e he=>injection h with h;subst h;exact repD_err _ _ _ _ he
       ·exact brD_err n _ _ _ _ z h
theorem loopD_err{inner:Bool}:∀(n:Nat) (s:RxS) (ts:List α) (z:Int×Nat),Zav A ere l C inner n s ts=.inl z→z.1≠0
 |0,s,ts,z,h=>by rw[Zav]at h;cases h
 |n+1,s,ts,z,h=>by
  rw[Zav]at h;split at h
  ·split at h
   ·next e he=>injection h with h;subst h;exact brD_err hC _ _ _ _ _ _ he
   ·exact loopD_err n _ _ z h
  ·cases h
theorem choiceD_err{inner:Bool}{s:RxS}{z:Int×Nat}(h:choiceD A ere l C inner s=.inl z):z.1≠0:=by
 unfold choiceD at h;split at h
 ·next e he=>injection h with h;subst h;exact brD_err hC _ _ _ _ _ _ he
 ·exact loopD_err hC _ _ _ _ h
end
theorem chD_err{α:Type}{A:Alg α}{ere:Bool}{l:List UInt8}:∀(n:Nat) (s:RxS) (z:Int×Nat),chD A ere l n s=.inl z→z.1≠0
 |0,s,z,h=>by rw[chD]at h;exact choiceD_err (fun f hf=>by cases hf) h
 |n+1,s,z,h=>by rw[chD]at h;exact choiceD_err (fun f hf s z hz=>by injection hf with hf;subst hf;exact chD_err n s z hz) h
theorem parseD_err{α:Type}{A:Alg α}{ere:Bool}{l:List UInt8}{z:Int×Nat}(h:Zah A ere l=.inl z):z.1≠0:=by
 unfold Zah at h;split at h
 ·injection h with h;subst h;simp
 ·exact chD_err _ _ _ h
end Go.Proofs.YtkfddjopbocpkaaGreatDoor
