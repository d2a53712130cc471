/- Lemmas of this claim. -/
import Derived.LaidMore
import Derived.Lay
import Derived.Stop.Joined
import Derived.Lib.LaidTab
import Derived.Shelf.Vars
import Derived.Test.YtgllcniibbaoaaaGreatDoorJ09
set_option linter.all false
set_option maxRecDepth 100000
set_option maxHeartbeats 24000000
namespace Go.Proofs.YtgllcniibbaoaaaGreatDoor
open Go.Proofs.Tryz
section
open Go.RowKit
theorem prt_err{l:List UInt8}{a:Nat}{z:Int×Nat}(h:prt l a=.inl z):z.1≠0:=by
 unfold prt at h;split at h
 ·next e he=>injection h with h;subst h;exact itm_err he
 ·split at h
  ·split at h
   ·next e he=>injection h with h;subst h;exact itm_err he
   ·split at h
    ·split at h
     ·cases h
     ·injection h with h;subst h;simp
    ·injection h with h;subst h;simp
  ·cases h
theorem lop_err{l:List UInt8}:∀{n a:Nat} {o:S4} {z:Int×Nat},a≤l.length→l.length<n+a→lop l n a o=.inl z→z.1≠0
 |0,a,_,_,h,h',_=>by omega
 |n+1,a,o,z,h,h',hz=>by
  rw[lop]at hz;split at hz
  ·cases hz
  ·cases hp:prt l a with
   |inl y=>rw[hp]at hz;injection hz with hz;subst hz;exact prt_err hp
   |inr x=>rw[hp]at hz;have:=prt_next hp;exact lop_err this.2.1 (by omega) hz
theorem prs_err{l:List UInt8}{a:Nat}{z:Int×Nat}(h:prs l a=.inl z):z.1≠0:=by
 have c:∀b d,Zp7 d (bod l b)=.inl z→z.1≠0:=by
  intro b d hb;unfold bod at hb;cases hp:prt l b with
  |inl y=>rw[hp]at hb;injection hb with hb;subst hb;exact prt_err hp
  |inr x=>
   rw[hp]at hb;simp only at hb;cases hq:lop l (l.length+1) x.2 x.1 with
   |inl y=>rw[hq]at hb;injection hb with hb;subst hb;have:=prt_next hp;exact lop_err this.2.1 (by omega) hq
   |inr y=>rw[hq]at hb;cases hb
 by_cases hc:l[a]? =some 94
 ·rw[Zpn hc]at h;exact c _ _ h
 ·rw[Zpo hc]at h;exact c _ _ h
theorem Zke{l:List UInt8}{a:Nat}{y:S4×Nat}(h:prs l a=.inr y):y.1.fit∧a<y.2∧y.2≤l.length:=by
 have c:∀b d,Zp7 d (bod l b)=.inr y→y.1.fit∧b<y.2∧y.2≤l.length:=by
  intro b d hb;unfold bod at hb;cases hp:prt l b with
  |inl z=>rw[hp]at hb;cases hb
  |inr x=>
   rw[hp]at hb;simp only at hb;cases hq:lop l (l.length+1) x.2 x.1 with
   |inl z=>rw[hq]at hb;cases hb
   |inr z=>
    rw[hq]at hb;injection hb with hb;subst hb;have h1:=prt_next hp;have h2:=lop_next h1.2.2 hq;refine⟨?_,by simp only;omega,by simp only;omega⟩;cases d
    ·exact h2.2.2
    ·exact ZnE _
 by_cases hc:l[a]? =some 94
 ·rw[Zpn hc]at h;have:=c _ _ h;exact⟨this.1,by omega,this.2.2⟩
 ·rw[Zpo hc]at h;exact c _ _ h
def sgn(l:List UInt8)(k:Nat):List UInt8:=match l[k]? with
 |none=>[]
 |some b=>if b=92 then(match l[k+1]? with|none=>[92]|some c=>[92,c])else[b]
def opB(ere:Bool)(b:UInt8):List UInt8:=if ere then[b]else[92,b]
def Zp9(l:List UInt8)(k:Nat):Nat×Nat:=if 255<(ZaQ (l.drop k) 0 0).1 then(0,0)else ZaQ (l.drop k) 0 0
def ZlJ(l:List UInt8)(ere:Bool)(k:Nat):Option (Int×Int×Nat):=
 let m:=Zp9 l k
 if m.2=0 then none
 else
  let k1:=k+m.2
  let x:=Zp9 l (k1+1)
  let n:Int:=if ahd l k1 [44]then(if 0<x.2 then(x.1:Int)else -1)else m.1
  let k2:=if ahd l k1 [44]then k1+1+(if 0<x.2 then x.2 else 0)else k1
  if ahd l k2 (opB ere 125)=false∨(0≤n∧n<m.1)then none else some ((m.1:Int),n,k2+(opB ere 125).length)
theorem Zkf{l:List UInt8}{k:Nat}(h:l.length≤k):sgn l k=[]:=by unfold sgn;rw[List.getElem?_eq_none h]
theorem Zkg(l:List UInt8)(k:Nat):(sgn l k).length≤2∧k+(sgn l k).length≤max k l.length:=by
 unfold sgn;cases hk:l[k]? with
 |none=>simp;omega
 |some b=>
  have:=(List.getElem?_eq_some_iff.1 hk).1;simp only;split
  ·cases a:l[k+1]? with
   |none=>simp;omega
   |some c=>have:=(List.getElem?_eq_some_iff.1 a).1;simp;omega
  ·simp;omega
section
variable {α:Type} (A:Alg α) (ere:Bool) (l:List UInt8)
def Ze8:Nat→RxS→α→Out α
 |0,s,t=>.inr (t,s)
 |n+1,s,t=>
  if sgn l s.at_==[42]then Ze8 n (s.go 1) (A.rep t 0 (-1))
  else if sgn l s.at_==opB ere 43 then Ze8 n ((if ere then s else s.mark [92,43]).go (opB ere 43).length) (A.rep t 1 (-1))
  else if sgn l s.at_==opB ere 63 then Ze8 n ((if ere then s else s.mark [92,63]).go (opB ere 63).length) (A.rep t 0 1)
  else if sgn l s.at_==opB ere 123 then
   match ZlJ l ere (s.at_+(opB ere 123).length)with
   |none=>.inl (7,s.at_)
   |some (m,x,k)=>Ze8 n (s.to k) (A.rep t m x)
  else .inr (t,s)
def escD(s:RxS)(b:UInt8):Out α:=
 if 49≤b.toNat∧b.toNat≤57 then
  (if s.closed.contains (b.toNat-48)then .inr (A.back ((b.toNat-48:Nat):Int),(if ere then s.mark [92,b]else s).go 2)else .inl (9,s.at_))
 else
  match ZjI b with
  |none=>.inl (2,s.at_)
  |some (c,m)=>.inr (A.one c,(if m then s.mark [92,b]else s).go 2)
def Zct(C:Option (RxS→Out α))(s:RxS):Out α:=
 match C with
 |none=>.inl (4,s.at_)
 |some f=>
  match f {s.go (opB ere 40).length with opened:=s.opened+1}with
  | .inl e=>.inl e
  | .inr (t,s')=>
    if sgn l s'.at_==opB ere 41 then .inr (A.group ((s.opened+1:Nat):Int) t,{s'.go (opB ere 40).length with closed:=s'.closed++[s.opened+1]})
    else .inl (8,s.at_)
def ZcS(C:Option (RxS→Out α))(s:RxS):Out α:=
 if sgn l s.at_==opB ere 40 then Zct A ere l C s
 else if sgn l s.at_==opB ere 41 then .inl (8,s.at_)
 else if sgn l s.at_==[91]then
  match prs l (s.at_+1)with
  | .inl (e,p)=>.inl (e,p)
  | .inr (c,k)=>.inr (A.one c,s.to k)
 else if sgn l s.at_==[46]then .inr (A.one (spn 0 255),s.go 1)
 else if sgn l s.at_==[92]then .inl (11,s.at_)
 else
  match sgn l s.at_ with
  |[]=>.inl (2,s.at_)
  |[b]=>.inr (A.one (spn b.toNat b.toNat),s.go 1)
  |_::b::_=>escD A ere s b
def ZnT(inner:Bool)(k:Nat):Bool:=sgn l k==[]||(sgn l k==opB ere 124||(sgn l k==opB ere 41&&(inner|| !ere)))
def brD(C:Option (RxS→Out α))(inner:Bool):Nat→Bool→Bool→RxS→List α→Out α
 |0,_,_,s,ps=>.inr (A.join ps,s)
 |n+1,first,front,s,ps=>
  if sgn l s.at_==[]||(sgn l s.at_==opB ere 124||(sgn l s.at_==opB ere 41&&inner))then .inr (A.join ps,s)
  else if sgn l s.at_==[94]&&(ere||first)then brD C inner n false true (s.go 1) (ps++[A.start])
  else if sgn l s.at_==[36]&&(ere||ZnT ere l inner (s.at_+1))then brD C inner n false true (s.go 1) (ps++[A.fin])
  else if front&&(sgn l s.at_==opB ere 123||(sgn l s.at_==opB ere 43||(sgn l s.at_==opB ere 63||(ere&&sgn l s.at_==[42]))))then .inl (10,s.at_)
  else
   match ZcS A ere l C s with
   | .inl e=>.inl e
   | .inr (t,s1)=>
     match Ze8 A ere l (l.length+1) s1 t with
     | .inl e=>.inl e
     | .inr (t,s2)=>brD C inner n false false s2 (ps++[t])
def Zb7(C:Option (RxS→Out α))(inner:Bool)(s:RxS):Out α:=brD A ere l C inner (if sgn l s.at_==[94]then l.length+2 else l.length+1) true true s []
def Zar(C:Option (RxS→Out α))(inner:Bool):Nat→RxS→List α→Out α
 |0,s,ts=>.inr (A.choose ts,s)
 |n+1,s,ts=>
  if sgn l s.at_==opB ere 124 then
   match Zb7 A ere l C inner ((if ere then s else s.mark [92,124]).go (opB ere 124).length)with
   | .inl e=>.inl e
   | .inr (t,s')=>Zar C inner n s' (ts++[t])
  else .inr (A.choose ts,s)
def choiceD(C:Option (RxS→Out α))(inner:Bool)(s:RxS):Out α:=
 match Zb7 A ere l C inner s with
 | .inl e=>.inl e
 | .inr (t,s')=>Zar A ere l C inner (l.length+1) s' [t]
def chD:Nat→RxS→Out α
 |0=>choiceD A ere l none true
 |n+1=>choiceD A ere l (some (chD n)) (decide (n+1<12))
def Zac:Out α:=if 250<l.length then .inl (3,250)else chD A ere l 12 ⟨0,0,[],[]⟩
end
theorem ZcT{l:List UInt8}{k:Nat}{c:UInt8}(hc:c≠92):(sgn l k==[c])=ahd l k [c]:=by
 unfold sgn ahd;cases h:l[k]? with
 |none=>rw[List.drop_eq_nil_of_le (by simpa using h)];rfl
 |some b=>
  obtain⟨hk,hb⟩:=List.getElem?_eq_some_iff.1 h;rw[List.drop_eq_getElem_cons hk,hb];by_cases f:b=92
  ·subst f;have e:([c].isPrefixOf (92::l.drop (k+1)))=false:=by simp[List.isPrefixOf,hc]
   rw[e];simp only[if_true];cases l[k+1]? with
   |none=>simp[Ne.symm hc]
   |some d=>simp
  ·simp only[if_neg f];simp[List.isPrefixOf,BEq.comm (a:=c)]
theorem Zbt{l:List UInt8}{k:Nat}{c:UInt8}:(sgn l k==[92,c])=ahd l k [92,c]:=by
 unfold sgn ahd;cases h:l[k]? with
 |none=>rw[List.drop_eq_nil_of_le (by simpa using h)];rfl
 |some b=>
  obtain⟨hk,hb⟩:=List.getElem?_eq_some_iff.1 h;rw[List.drop_eq_getElem_cons hk,hb];by_cases e:b=92
  ·subst e;simp only[if_true];cases h2:l[k+1]? with
   |none=>rw[List.drop_eq_nil_of_le (by simpa using h2)];simp[List.isPrefixOf]
   |some d=>
    obtain⟨f,hd⟩:=List.getElem?_eq_some_iff.1 h2;rw[List.drop_eq_getElem_cons f,hd];simp[List.isPrefixOf,BEq.comm (a:=c)]
  ·simp only[if_neg e];simp[List.isPrefixOf,Ne.symm e]
theorem Ze9{l:List UInt8}{k:Nat}:(sgn l k==[])=decide (l.length≤k):=by
 by_cases h:l.length≤k
 ·rw[Zkf h];simp[h]
 ·have hk:k<l.length:=by omega
  unfold sgn;rw[List.getElem?_eq_getElem hk];simp only[h,decide_false];split
  ·cases l[k+1]? <;>rfl
  ·rfl
section
variable {α:Type} {A:Alg α} {l:List UInt8}
theorem ZbM(b:UInt8):opB false b=[92,b]:=rfl
theorem Zcz(b:UInt8):opB true b=[b]:=rfl
theorem Zfa{r:List UInt8}{x d:Nat}(h:ZaQ r 0 0=(x,d))(hx:0<x):∃b t,r=b::t∧48≤b.toNat∧b.toNat≤57:=by
 cases r with
 |nil=>rw[ZaQ]at h;injection h with h1 h2;omega
 |cons b t=>
  rw[ZaQ]at h;split at h
  ·next hb=>exact⟨b,t,rfl,hb.1,hb.2.1⟩
  ·injection h with h1 h2;omega
theorem num3_ge:∀(r:List UInt8) (c n:Nat),c≤(ZaQ r c n).2
 |[],c,n=>Nat.le_refl _
 |b::r,c,n=>by
  rw[ZaQ];split
  ·exact Nat.le_trans (Nat.le_succ c) (num3_ge r (c+1) _)
  ·exact Nat.le_refl _
theorem ZnU(k:Nat):ZlJ l false k=Zfw l k:=by
 unfold ZlJ Zfw Zp9;simp only[ZbM];obtain⟨m,c,hm⟩:∃m c,ZaQ (l.drop k) 0 0=(m,c):=⟨_,_,rfl⟩;rw[hm];by_cases a:255<m
 ·simp only[if_pos a,if_true];by_cases hc:c=0
  ·simp[hc]
  ·simp[hc,a]
 ·simp only[if_neg a];by_cases hc:c=0
  ·simp[hc]
  ·simp only[hc,if_false];cases ha:ahd l (k+c) [44]with
   |false=>
    simp only[Bool.false_eq_true,if_false];have e1:¬((0:Int)≤(m:Int)∧(m:Int)<(m:Int)):=by omega
    have e2:¬(255:Int)<(m:Int):=by omega
    simp[e1,e2,a]
   |true=>
    simp only[if_true];obtain⟨x,d,hx⟩:∃x d,ZaQ (l.drop (k+c+1)) 0 0=(x,d):=⟨_,_,rfl⟩;rw[hx];have e0:¬(255:Int)<(m:Int):=by omega
    by_cases h2:255<x
    ·obtain⟨b,t,ht,f,e⟩:=Zfa hx (by omega);have hn:ahd l (k+c+1) [92,125]=false:=by
      unfold ahd;rw[ht];simp only[List.isPrefixOf,Bool.and_eq_false_iff];exact .inl (by simp only[beq_eq_false_iff_ne,ne_eq];rintro rfl;simp at e)
     have hd:d≠0:=by
      intro h0;subst h0;rw[ht,ZaQ,if_pos ⟨f,e,by decide⟩]at hx;have:=num3_ge t 1 (0*10+(b.toNat-48));rw[hx]at this;simp at this
     have e1:(255:Int)<(x:Int):=by omega
     simp[h2,hn,hd,e1]
    ·simp only[if_neg h2];by_cases hd:d=0
     ·subst hd;simp[a]
     ·have g:0<d:=by omega
      have e1:¬(255:Int)<(x:Int):=by omega
      simp[hd,g,a,h2,e0,e1]
theorem Zg8{k:Nat}{c d:UInt8}(h:ahd l k [92,c]=true)(hd:d≠92):ahd l k [d]=false:=by
 rw[←ZcT hd];rw[←Zbt]at h;rw[eq_of_beq h];simp
theorem ahd_not{k:Nat}{c d:UInt8}(h:ahd l k [92,c]=true)(hd:d≠c):ahd l k [92,d]=false:=by
 rw[←Zbt]at h⊢;rw[eq_of_beq h];simpa using fun e=>hd e.symm
theorem Zkh:∀(n:Nat) (s:RxS) (t:α),Ze8 A false l n s t=ZbW A l n s t
 |0,s,t=>rfl
 |n+1,s,t=>by
  rw[Ze8,ZbW];simp only[ZbM,Zbt,ZcT (show(42:UInt8)≠92 by decide),Bool.false_eq_true,if_false,ZnU,Zkh n,List.length_cons,List.length_nil];cases h1:ahd l s.at_ [92,43]with
  |true=>simp[Zg8 h1 (show(42:UInt8)≠92 by decide)]
  |false=>
   cases h2:ahd l s.at_ [92,63]with
   |true=>simp[Zg8 h2 (show(42:UInt8)≠92 by decide)]
   |false=>
    cases h3:ahd l s.at_ [92,123]with
    |true=>simp only[Zg8 h3 (show(42:UInt8)≠92 by decide),Bool.false_eq_true,if_false,if_true]<;>rfl
    |false=>simp
variable {C:Option (RxS→Out α)}
theorem Zki(s:RxS):Zct A false l C s=Zbs A l C s.at_ (s.go 2):=by
 unfold Zct Zbs;cases C with
 |none=>rfl
 |some f=>
  simp only[ZbM,Zbt,List.length_cons,List.length_nil];rfl
theorem Zmb{s:RxS}{b:UInt8}(h:l[s.at_]? =some b):ZcS A false l C s=Zb0 A l C s b:=by
 obtain⟨hk,hb⟩:=List.getElem?_eq_some_iff.1 h;unfold ZcS Zb0;by_cases a:b=92
 ·subst a;simp only[if_true];unfold ZlI;cases h2:l[s.at_+1]? with
  |none=>
   have hs:sgn l s.at_=[92]:=by unfold sgn;rw[h];simp only[if_true,h2]
   simp[hs,opB]
  |some d=>
   have hs:sgn l s.at_=[92,d]:=by unfold sgn;rw[h];simp only[if_true,h2]
   rw[←Zbt,←Zbt,hs,Zki];simp only[ZbM];unfold escD;simp;(try rfl)
 ·have hs:sgn l s.at_=[b]:=by unfold sgn;rw[h];simp only[if_neg a]
  rw[hs];simp[opB,a];(try rfl)
theorem Zmc{inner:Bool}{k:Nat}:ZnT false l inner (k+1)=ZbL l k:=by
 unfold ZnT ZbL;rw[Ze9,ZbM,ZbM,Zbt,Zbt];simp only[Bool.not_false,Bool.or_true,Bool.and_true];have e:decide (l.length≤k+1)=(l.drop (k+1)).isEmpty:=by
  by_cases h:l.length≤k+1
  ·rw[List.drop_eq_nil_of_le h];simp[h]
  ·rw[List.drop_eq_getElem_cons (by omega)];simp[h]
 rw[e];cases(l.drop (k+1)).isEmpty<;>cases ahd l (k+1) [92,124]<;>cases ahd l (k+1) [92,41]<;>rfl
theorem Zkj{k:Nat}(h:ZbL l k=true):l.length≤k+1∨ahd l (k+1) [92,124]=true∨ahd l (k+1) [92,41]=true:=by
 unfold ZbL at h;cases h1:ahd l (k+1) [92,124]with
 |true=>exact .inr (.inl rfl)
 |false=>
  cases h2:ahd l (k+1) [92,41]with
  |true=>exact .inr (.inr rfl)
  |false=>
   rw[h1,h2]at h;simp only[Bool.or_false,List.isEmpty_iff,List.drop_eq_nil_iff]at h;exact .inl h
theorem Zid{inner:Bool}:∀(n:Nat) (fD fS:Bool) (s:RxS) (ps:List α),(fD=fS∨l.length≤s.at_∨ahd l s.at_ [92,124]=true∨ahd l s.at_ [92,41]=true)→
 brD A false l C inner n false fD s ps=brS A l C inner n fS s ps
 |0,fD,fS,s,ps,_=>rfl
 |n+1,fD,fS,s,ps,hf=>by
  rw[brD,brS];simp only[ZbM,Zbt,Ze9,ZcT (show(36:UInt8)≠92 by decide),Bool.false_or,Bool.and_false,Bool.false_and,Bool.or_false,Bool.false_eq_true,if_false];by_cases hk:l.length≤s.at_
  ·rw[List.getElem?_eq_none hk];simp[hk]
  ·have hlt:s.at_<l.length:=by omega
   rw[List.getElem?_eq_getElem hlt];simp only[hk,decide_false,Bool.false_or];rw[Bool.and_comm (ahd l s.at_ [92,41]) inner];cases h1:(ahd l s.at_ [92,124]||(inner&&ahd l s.at_ [92,41]))with
   |true=>simp
   |false=>
    simp only[Bool.false_eq_true,if_false];rw[Zmc,Zmb (b:=l[s.at_]) (by rw[List.getElem?_eq_getElem hlt])];have e1:(fD&&(ahd l s.at_ [92,123]||(ahd l s.at_ [92,43]||ahd l s.at_ [92,63])))=(fS&&(ahd l s.at_ [92,123]||(ahd l s.at_ [92,43]||ahd l s.at_ [92,63]))):=by
     rcases hf with rfl|h|h|h
     ·rfl
     ·exact absurd h hk
     ·rw[h]at h1;simp at h1
     ·rw[ahd_not h (show(123:UInt8)≠41 by decide),ahd_not h (show(43:UInt8)≠41 by decide),ahd_not h (show(63:UInt8)≠41 by decide)];simp
    cases h2:(ahd l s.at_ [36]&&ZbL l s.at_)with
    |true=>
     have h3:ahd l s.at_ [36]=true∧ZbL l s.at_=true:=by simpa using h2
     have h4:(fS&&(ahd l s.at_ [92,123]||(ahd l s.at_ [92,43]||ahd l s.at_ [92,63])))=false:=by
      have hx:=h3.1;have q:∀c:UInt8,ahd l s.at_ [92,c]=false:=fun c=>by
       rw[←ZcT (by decide)]at hx;rw[←Zbt,eq_of_beq hx];simp
      rw[q,q,q];simp
     rw[h4];simp only[if_true,Bool.false_eq_true,if_false];exact Zid n true false (s.go 1) _ (.inr (Zkj h3.2))
    |false=>
     rw[e1];simp only[Bool.false_eq_true,if_false];cases h5:(fS&&(ahd l s.at_ [92,123]||(ahd l s.at_ [92,43]||ahd l s.at_ [92,63])))with
     |true=>rfl
     |false=>
      simp only[Bool.false_eq_true,if_false];cases Zb0 A l C s l[s.at_]with
      |inl e=>rfl
      |inr y=>
       obtain⟨t,s1⟩:=y;simp only[Zkh];cases ZbW A l (l.length+1) s1 t with
       |inl e=>rfl
       |inr z=>exact Zid n false false _ _ (.inl rfl)
theorem Zez{inner:Bool}{s:RxS}:Zb7 A false l C inner s=branchS A l C inner s:=by
 unfold Zb7 branchS;rw[ZcT (by decide)];cases h:ahd l s.at_ [94]with
 |true=>
  simp only[if_true];have a:¬l.length≤s.at_:=fun e=>by
   unfold ahd at h;rw[List.drop_eq_nil_of_le e]at h;cases h
  have q:∀c:UInt8,ahd l s.at_ [92,c]=false:=fun c=>by
   rw[←ZcT (by decide)]at h;rw[←Zbt,eq_of_beq h];simp
  rw[brD];simp only[ZbM,Zbt,Ze9,ZcT (show(94:UInt8)≠92 by decide),q,h,a,decide_false,Bool.false_or,Bool.false_and,Bool.false_eq_true,if_false,Bool.true_and,if_true];exact Zid _ _ _ _ _ (.inl rfl)
 |false=>
  simp only[Bool.false_eq_true,if_false];rw[←Zid (l.length+1) true true s [] (.inl rfl),brD,brD];rw[ZcT (show(94:UInt8)≠92 by decide),h];simp
theorem Zie{inner:Bool}:∀(n:Nat) (s:RxS) (ts:List α),Zar A false l C inner n s ts=Za1 A l C inner n s ts
 |0,s,ts=>rfl
 |n+1,s,ts=>by
  rw[Zar,Za1,ZbM,Zbt];simp only[Bool.false_eq_true,if_false,List.length_cons,List.length_nil,Zez,Zie n];(try rfl)
theorem ZeA{inner:Bool}{s:RxS}:choiceD A false l C inner s=choiceS A l C inner s:=by
 unfold choiceD choiceS;simp only[Zez,Zie];(try rfl)
end
theorem Zng{α:Type}{A:Alg α}{l:List UInt8}:∀(n:Nat),chD A false l n=chS A l n
 |0=>by funext s;rw[chD,chS,ZeA]
 |n+1=>by funext s;rw[chD,chS,ZeA,Zng n]
theorem ZfM{α:Type}{A:Alg α}{l:List UInt8}:Zac A false l=Zey A l:=by
 unfold Zac Zey;rw[Zng]
section
variable {α:Type} {A:Alg α} {ere:Bool} {l:List UInt8}
theorem repD_err:∀(n:Nat) (s:RxS) (t:α) (z:Int×Nat),Ze8 A ere l n s t=.inl z→z.1≠0
 |0,s,t,z,h=>by rw[Ze8]at h;cases h
 |n+1,s,t,z,h=>by
  rw[Ze8]at h;split at h
  ·exact repD_err n _ _ z h
  ·split at h
   ·exact repD_err n _ _ z h
   ·split at h
    ·exact repD_err n _ _ z h
    ·split at h
     ·split at h
      ·injection h with h;subst h;simp
      ·exact repD_err n _ _ z h
     ·cases h
variable {C:Option (RxS→Out α)} (hC:∀f,C=some f→∀s z,f s=.inl z→z.1≠0)
include hC
theorem Zi5{s:RxS}{z:Int×Nat}(h:Zct A ere l C s=.inl z):z.1≠0:=by
 unfold Zct at h;cases C with
 |none=>injection h with h;subst h;simp
 |some f=>
  simp only at h;cases hf:f {s.go (opB ere 40).length with opened:=s.opened+1}with
  |inl e=>rw[hf]at h;injection h with h;subst h;exact hC f rfl _ _ hf
  |inr y=>
   rw[hf]at h;simp only at h;split at h
   ·cases h
   ·injection h with h;subst h;simp
theorem atomD_err{s:RxS}{z:Int×Nat}(h:ZcS A ere l C s=.inl z):z.1≠0:=by
 unfold ZcS at h;split at h
 ·exact Zi5 hC h
 ·split at h
  ·injection h with h;subst h;simp
  ·split at h
   ·split at h
    ·next e p hp=>injection h with h;subst h;exact prs_err hp
    ·cases h
   ·split at h
    ·cases h
    ·split at h
     ·injection h with h;subst h;simp
     ·split at h
      ·injection h with h;subst h;simp
      ·cases h
      ·unfold escD at h;split at h
       ·split at h
        ·cases h
        ·injection h with h;subst h;simp
       ·split at h
        ·injection h with h;subst h;simp
        ·cases h
theorem brD_err{inner:Bool}:∀(n:Nat) (first front:Bool) (s:RxS) (ps:List α) (z:Int×Nat),brD A ere l C inner n first front s ps=.inl z→z.1≠0
 |0,first,front,s,ps,z,h=>by rw[brD]at h;cases h
 |n+1,first,front,s,ps,z,h=>by
  rw[brD]at h;split at h
  ·cases h
  ·split at h
   ·exact brD_err n _ _ _ _ z h
   ·split at h
    ·exact brD_err n _ _ _ _ z h
    ·split at h
     ·injection h with h;subst h;simp
     ·split at h
      ·next e he=>injection h with h;subst h;exact atomD_err hC he
      ·split at h
       ·next e he=>injection h with h;subst h;exact repD_err _ _ _ _ he
       ·exact brD_err n _ _ _ _ z h
theorem loopD_err{inner:Bool}:∀(n:Nat) (s:RxS) (ts:List α) (z:Int×Nat),Zar A ere l C inner n s ts=.inl z→z.1≠0
 |0,s,ts,z,h=>by rw[Zar]at h;cases h
 |n+1,s,ts,z,h=>by
  rw[Zar]at h;split at h
  ·split at h
   ·next e he=>injection h with h;subst h;exact brD_err hC _ _ _ _ _ _ he
   ·exact loopD_err n _ _ z h
  ·cases h
theorem choiceD_err{inner:Bool}{s:RxS}{z:Int×Nat}(h:choiceD A ere l C inner s=.inl z):z.1≠0:=by
 unfold choiceD at h;split at h
 ·next e he=>injection h with h;subst h;exact brD_err hC _ _ _ _ _ _ he
 ·exact loopD_err hC _ _ _ _ h
end
theorem chD_err{α:Type}{A:Alg α}{ere:Bool}{l:List UInt8}:∀(n:Nat) (s:RxS) (z:Int×Nat),chD A ere l n s=.inl z→z.1≠0
 |0,s,z,h=>by rw[chD]at h;exact choiceD_err (fun f hf=>by cases hf) h
 |n+1,s,z,h=>by rw[chD]at h;exact choiceD_err (fun f hf s z hz=>by injection hf with hf;subst hf;exact chD_err n s z hz) h
theorem parseD_err{α:Type}{A:Alg α}{ere:Bool}{l:List UInt8}{z:Int×Nat}(h:Zac A ere l=.inl z):z.1≠0:=by
 unfold Zac at h;split at h
 ·injection h with h;subst h;simp
 ·exact chD_err _ _ _ h
open Go.ChangeShapes Go.WideShapes Go.ChangeAt Go.RowKit
namespace door
theorem own:ownKnob prog.godebug=none:=by kernel_rfl
theorem laidOut:laidOutB prog=true:=by kernel_rfl
theorem ZqN:prog.globalNamed "math/bits.deBruijn64tab" =some 1:=by kernel_rfl
theorem ZqV:(prog.globals[1]?).map (·.type)=some 280:=by kernel_rfl
abbrev list1:List (String×DataW Unit):=[("math/bits.deBruijn64tab",Rows.laid_math_bits_deBruijn64tab),("unicode/utf8.acceptRanges",Rows.laid_unicode_utf8_acceptRanges),("unicode/utf8.first",Rows.laid_unicode_utf8_first)]
theorem Zpu:(Rows.laid_math_bits_deBruijn64tab:DataW Unit)=Lib.tabData .u8 (Lib.deBruijn64tab.map Int.ofNat):=by kernel_rfl
theorem Zkk:(Lib.deBruijn64tab.map Int.ofNat).length=64:=by decide
theorem tab{W:World}(h:laidMetH prog list1 W):Tab W:=by
 rw[MakeChecks.laidMetH_plain _ _ _ (by kernel_rfl)]at h;unfold list1 at h;rw[Zpu]at h;have ht:=Lib.tabIs_of_head (P:=prog) (W:=W) (t:=280) (e:=5) (n:=64) ZqN ZqV underlying280 underlying5 (by kernel_rfl) (by kernel_rfl) h;intro j hj;have hc:=ht.cell ZqN j (by rw[Zkk];exact hj);rw[hc]
 congr 2
 have hl:j<Lib.deBruijn64tab.length:=by have:=Zkk;simp at this;omega
 simp[hl]
end door
variable {H:Type} {enc:TypeId×Value→H}
theorem door.env{W:World}(h:laidMetH prog door.list1 W)(hs:W.ShapedOpen prog):Env W:=
 ⟨door.tab h,cell_of_shapedOpen_int (zero:= #[.int .i64 0]) (t:=3) (k:=.i64) hs (of_decide_eq_true (by kernel_rfl)) (by kernel_rfl) rfl (by kernel_rfl) (by kernel_rfl) underlying3⟩
end
section
open Go.ChangeShapes Go.WideShapes Go.ChangeAt Go.RowKit
variable {H:Type} {enc:TypeId×Value→H}
theorem ZwJ{a:Assume}{C:Checked}{os:Os}{f:FuncId}{fn:Func}{s:OpenSpec}{k:(H:Type)→List (DataW H)→Bool}(hk:s.cond=some k){F:Stop.Interp}{conds:List PathCond}{apart fresh handsOn again:Bool}{X:World→Array Value→Prop}
 (hX:∀(w w':World) (args:Array Value),w.heap=w'.heap→X w args→X w' args)
 (own:ownKnob C.prog.godebug=none) (started:os.Started) (noInit:C.prog.inits.idxOf? f=none) (hfn:C.prog.funcs[f]? =some fn)
 (witness:∃(w:World) (tape:Tape) (i:Input),w.os=os∧(w.forCall tape i).Shaped C.prog∧i.vars=[]∧Input.okWide C.prog (w.forCall tape i) .any w.heap.size f i∧
  ((s.pre enc C.prog fn conds apart (w.forCall tape i).memory i.args∧X (w.forCall tape i).memory i.args)∧sizedMet enc C.prog fn s apart (w.forCall tape i).memory i.args)∧a.holds C.prog (lone (Frame.enter C.prog f i.args .normal) [] (w.forCall tape i)))
 (contract:∀(W:World) (base:Nat) (args:Array Value) (ds gs:List (DataW H)) (before:List MemPlace),
  (∀(j:Nat) t v,fn.params[j]? =some t→args[j]? =some v→Value.okWide C.prog W .any base t v)→
  DataW.Whole enc C.prog fn.params.toList s.vars apart W args.toList ds gs before→
  k H (ds++gs)=true→X W args→W.ShapedOpen C.prog→
  Calls C.prog f args W fun e W'=>∃v,e=.returned v∧(s.at F).post enc C.prog fn apart fresh handsOn again W args v W'):
 ReturnsInHanded a C os f .any (fun w args=>(s.pre enc C.prog fn conds apart w args∧X w args)∧sizedMet enc C.prog fn s apart w args) ((s.at F).post enc C.prog fn apart fresh handsOn again):=by
 refine returnsInHanded_of_calls own started noInit witness ?_;intro w tape i _ n _ l c _;obtain⟨_,_,_,g,b,_,_,_,_,d⟩:=l;obtain rfl:g=fn:=Option.some.inj (b.symm.trans hfn);obtain⟨⟨m,hx⟩,_⟩:=c;obtain⟨ds,gs,before,hw,_,h⟩:=(OpenSpec.pre_some hk conds apart _ _).1 m;refine(contract (w.forCall tape i) w.heap.size i.args ds gs before d (DataW.Whole.of_heap (w':=w.forCall tape i) (by rfl) hw) h (hX _ _ _ (by rfl) hx) n).mono fun e W' ⟨v,he,hp⟩=> ?_;subst he;exact ChangeSpec.post_blind hp
theorem witnessU{C:Checked}{os:Os}{f:FuncId}{fn:Func}{s:OpenSpec}{k:(H:Type)→List (DataW H)→Bool}(hk:s.cond=some k){conds:List PathCond}{apart:Bool}{X:World→Array Value→Prop}(modest:Bool)(w0:World)(args:Array Value)(fuel:Nat)(hos:w0.os=os)
 (hsh:(w0.forCall (fun _ _=>0) ⟨#[],args,[]⟩).Shaped C.prog)
 (hok:Input.okWideB C.prog (w0.forCall (fun _ _=>0) ⟨#[],args,[]⟩) f ⟨#[],args,[]⟩=true)
 {x:List (DataW H)×List (DataW H)×List MemPlace} (hx:DataW.whole enc C.prog (w0.forCall (fun _ _=>0) ⟨#[],args,[]⟩).memory fn.params.toList s.vars apart args.toList fuel=some x)
 (hconds:conds.all (PathCond.test C.prog ⟨fn.params.toList,x.1,s.bare.plain.varTypes C.prog,x.2.1⟩)=true) (hkk:k H (x.1++x.2.1)=true)
 (hsz:s.bare.sizedB enc C.prog fn apart (w0.forCall (fun _ _=>0) ⟨#[],args,[]⟩).memory args fuel=true)
 (hX:X (w0.forCall (fun _ _=>0) ⟨#[],args,[]⟩).memory args):
 ∃(w:World) (tape:Tape) (i:Input),w.os=os∧(w.forCall tape i).Shaped C.prog∧i.vars=[]∧Input.okWide C.prog (w.forCall tape i) .any w.heap.size f i∧
  ((s.pre enc C.prog fn conds apart (w.forCall tape i).memory i.args∧X (w.forCall tape i).memory i.args)∧sizedMet enc C.prog fn s apart (w.forCall tape i).memory i.args)∧({modest:=modest}:Assume).holds C.prog (lone (Frame.enter C.prog f i.args .normal) [] (w.forCall tape i)):=
 ⟨w0,fun _ _=>0,⟨#[],args,[]⟩,hos,hsh,(Input.okWide_of_okWideB (base:=0) hok).1,(Input.okWide_of_okWideB hok).2,
  ⟨⟨(OpenSpec.pre_some hk conds apart _ _).2 ⟨x.1,x.2.1,x.2.2,DataW.Whole_of_whole hx,hconds,hkk⟩,hX⟩,sizedMet_of_sizedB hsz⟩,by
  simp only[Assume.holds];exact⟨by simp,by simp,fun _=>Modest.zero,by simp,by simp⟩⟩
end
end Go.Proofs.YtgllcniibbaoaaaGreatDoor
