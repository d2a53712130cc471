/- Lemmas of this claim. -/
import Derived.Test.YtkfddjopbocpkaaGreatDoorM22
set_option linter.unusedVariables false
set_option linter.unusedSimpArgs false
set_option maxRecDepth 100000
set_option maxHeartbeats 4000000
namespace Go.Proofs.YtkfddjopbocpkaaGreatDoor
open Go.RowKit
abbrev Zc1:List UInt8:=[32,9,10,59]
def lineL(l:List UInt8):List UInt8:=l.takeWhile (·!=10)
def Zaq(l:List UInt8):Nat→Nat→Nat
 |0,k=>bhd l Zc1 k
 |n+1,k=>if(l.drop (bhd l Zc1 k)).head? =some 35 then Zaq l n (bhd l Zc1 k+(lineL (l.drop (bhd l Zc1 k))).length)else bhd l Zc1 k
structure RdS where
 cmds:List CV
 labels:List (List UInt8)
 opens:List Nat
def RdS.zero:RdS:=⟨[],[],[]⟩
def ZbZ(c:CV)(s:RdS):Int⊕RdS:=
 if c.name=123 then(if s.opens.length=12 then .inl 4 else .inr ⟨s.cmds++[c],s.labels,s.opens++[c.at_]⟩)
 else if c.name=125 then(if s.opens=[]then .inl 16 else .inr ⟨s.cmds++[c],s.labels,s.opens.dropLast⟩)
 else if c.name=58 then(if s.labels.contains c.arg then .inl 15 else .inr ⟨s.cmds++[c],s.labels++[c.arg],s.opens⟩)
 else .inr ⟨s.cmds++[c],s.labels,s.opens⟩
abbrev ZpO:=(Int×Nat)⊕(RdS×List (Nat×List UInt8))
def Zdm(x:Bool)(l:List UInt8):Nat→Nat→RdS→List (Nat×List UInt8)→ZpO
 |0,_,s,ms=>.inr (s,ms)
 |n+1,k,s,ms=>
  if l.length≤k then .inr (s,ms)
  else if s.cmds.length=100 then .inl (3,k)
  else match Zeu x l k with
   | .inl z=>.inl z
   | .inr (c,q)=>match ZbZ c s with
     | .inl e=>.inl (e,c.at_)
     | .inr s'=>Zdm x l n (Zaq l (l.length+1) q.at_) s' (ms++q.marks)
def ZiD(c:CV):Bool:=c.name==98||c.name==116||c.name==84
def Zcc(labels:List (List UInt8))(c:CV):Bool:=ZiD c&&(c.arg !=[])&& !(labels.contains c.arg)
def Za8(s:RdS):Option (Int×Nat):=
 match s.opens.getLast? with
 |some p=>some (16,p)
 |none=>match s.cmds.find? (Zcc s.labels)with
  |some c=>some (14,c.at_)
  |none=>none
structure ScV where
 quiet:Bool
 cmds:List CV
abbrev ZqB:=(Int×Nat)⊕(ScV×List (Nat×List UInt8))
def ZdO(x:Bool)(l:List UInt8):ZqB:=
 if 4000<l.length then .inl (3,4000)
 else match Zdm x l 101 (Zaq l (l.length+1) 0) RdS.zero []with
  | .inl z=>.inl z
  | .inr (s,ms)=>match Za8 s with
    |some z=>.inl z
    |none=>.inr (⟨lineL l==[35,110],s.cmds⟩,ms)
section
variable {l A:List UInt8}
theorem ZdP(l:List UInt8):(lineL l).length≤l.length:=(List.takeWhile_sublist _).length_le
theorem ZiE{m:List UInt8}(h:m.head? =some 35):0<(lineL m).length:=by
 cases m with
 |nil=>cases h
 |cons a r=>
  injection h with h;subst h;unfold lineL;rw[List.takeWhile_cons,if_pos (by decide)];simp
theorem Zoo{k:Nat}{b:UInt8}(h:(l.drop k).head? =some b):k<l.length:=by
 refine Nat.lt_of_not_le fun hk=> ?_;rw[List.drop_eq_nil_of_le hk]at h;cases h
theorem Zeh:∀(n k:Nat),k≤l.length→k≤Zaq l n k∧Zaq l n k≤l.length
 |0,k,hk=>bhd_in Zc1 hk
 |n+1,k,hk=>by
  have hb:=bhd_in (l:=l) Zc1 hk;rw[Zaq];split
  ·next h=>
   have h1:=ZdP (l.drop (bhd l Zc1 k));rw[List.length_drop]at h1;have:=Zeh n (bhd l Zc1 k+(lineL (l.drop (bhd l Zc1 k))).length) (by omega);omega
  ·exact hb
theorem Zgq{x:Bool}{k:Nat}{c:CV}{q:AdS}(hk:k≤l.length)(h:Zeu x l k=.inr (c,q)):q.at_≤l.length∧q.e=0:=by
 unfold Zeu at h;cases hg:ZX x l ⟨k,[],0⟩with
 |inl z=>rw[hg]at h;cases h
 |inr z=>
  obtain⟨g,s⟩:=z;rw[hg]at h;simp only at h;split at h
  ·cases h
  ·next h0=>
   injection h with h;have hs:=guardD_le (s:=⟨k,[],0⟩) hk rfl hg;have h1:=Zom x g hs;rw[h]at h1;refine⟨h1,?_⟩;have:(ZbY x l g s).2.e=0:=by simpa using h0
   rw[h]at this;exact this
end
section
variable {l A:List UInt8}
theorem ZoA{c:CV}{s s':RdS}(h:ZbZ c s=.inr s'):s'.cmds.length=s.cmds.length+1:=by
 unfold ZbZ at h
 (repeat' split at h)<;>first|(cases h;done)|(injection h with h;subst h;simp)
theorem put_labels{c:CV}{s s':RdS}(h:ZbZ c s=.inr s'):(∀b∈s.labels,b∈s'.labels)∧(c.name=58→c.arg∈s'.labels)∧s'.cmds=s.cmds++[c]:=by
 unfold ZbZ at h;split at h
 ·next hn=>split at h;(·cases h);(injection h with h;subst h;exact⟨fun _ e=>e,fun e=>(by rw[hn]at e;cases e),rfl⟩)
 ·split at h
  ·next hn=>split at h;(·cases h);(injection h with h;subst h;exact⟨fun _ e=>e,fun e=>(by rw[hn]at e;cases e),rfl⟩)
  ·split at h
   ·split at h;(·cases h);(injection h with h;subst h;exact⟨fun _ e=>List.mem_append_left _ e,fun _=>by simp,rfl⟩)
   ·next hn=>injection h with h;subst h;exact⟨fun _ e=>e,fun e=>(hn e).elim,rfl⟩
end
section
variable {s r:List UInt8}
end
def Zp0(s:RdS):Prop:=∀b,b∈s.labels↔∃c∈s.cmds,c.name=58∧c.arg=b
theorem ZoC{c:CV}{s s':RdS}(hs:Zp0 s)(h:ZbZ c s=.inr s'):Zp0 s':=by
 unfold Zp0 at hs⊢;intro b;have a:∀(L:List (List UInt8)),(c.name≠58→L=s.labels)→(c.name=58→L=s.labels++[c.arg])→(b∈L↔∃d∈s.cmds++[c],d.name=58∧d.arg=b):=fun L h1 h2=>by
  by_cases hn:c.name=58
  ·rw[h2 hn];simp[hs b,hn,or_and_right,exists_or,eq_comm]
  ·rw[h1 hn];simp[hs b,hn,or_and_right,exists_or]
 unfold ZbZ at h;split at h
 ·next hn=>split at h;(·cases h);(injection h with h;subst h;exact a _ (fun _=>rfl) (fun e=>by rw[hn]at e;cases e))
 ·split at h
  ·next hn=>split at h;(·cases h);(injection h with h;subst h;exact a _ (fun _=>rfl) (fun e=>by rw[hn]at e;cases e))
  ·split at h
   ·next hn=>split at h;(·cases h);(injection h with h;subst h;exact a _ (fun e=>(e hn).elim) (fun _=>rfl))
   ·next hn=>injection h with h;subst h;exact a _ (fun _=>rfl) (fun e=>(hn e).elim)
theorem ZiM(x:Bool)(l:List UInt8):∀(n k:Nat) (s s':RdS) (ms ms':List (Nat×List UInt8)),Zdm x l n k s ms=.inr (s',ms')→(∀b∈s.labels,b∈s'.labels)∧s.cmds.length≤s'.cmds.length∧(Zp0 s→Zp0 s')∧(s.cmds.length≤100→s'.cmds.length≤100)
 |0,k,s,s',ms,ms',h=>by
  injection h with h;injection h with h _;subst h;exact⟨fun _ e=>e,Nat.le_refl _,fun e=>e,fun e=>e⟩
 |n+1,k,s,s',ms,ms',h=>by
  rw[Zdm]at h;split at h
  ·injection h with h;injection h with h _;subst h;exact⟨fun _ e=>e,Nat.le_refl _,fun e=>e,fun e=>e⟩
  ·split at h
   ·cases h
   ·next hne=>
    split at h
    ·cases h
    ·split at h
     ·cases h
     ·next hp=>
      have h1:=put_labels hp;have h2:=ZoA hp;obtain⟨i1,i2,i3,i4⟩:=ZiM x l n _ _ _ _ _ h;exact⟨fun b e=>i1 b (h1.1 b e),by omega,fun e=>i3 (ZoC e hp),fun e=>i4 (by omega)⟩
section
variable {A l:List UInt8}
end
theorem ZiN{x:Bool}{l:List UInt8}{a:ScV}{ms:List (Nat×List UInt8)}(h:ZdO x l=.inr (a,ms)):
 l.length≤4000∧∃st,Zdm x l 101 (Zaq l (l.length+1) 0) RdS.zero []=.inr (st,ms)∧Za8 st=none∧a=⟨lineL l==[35,110],st.cmds⟩:=by
 unfold ZdO at h;split at h
 ·cases h
 ·next h0=>
  split at h
  ·cases h
  ·next st m1 hs=>
   split at h
   ·cases h
   ·next hw=>
    injection h with h;injection h with h1 h2;subst h1;subst h2;exact⟨by omega,st,hs,hw,rfl⟩
theorem Zow{l:List UInt8}{s:AdS}:(Zjq l s).marks.length≤s.marks.length+1:=by
 unfold Zjq;simp only;split
 ·show s.marks.length≤_;omega
 ·split
  ·show(s.marks++[_]).length≤_;simp
  ·exact Z0 (s:=s.to (bhd l [32,9] s.at_)) 17 _ (by show s.marks.length≤_;omega)
theorem Zox{l:List UInt8}{x:Bool}{g:GV}{s:AdS}{N:Nat}(hs:s.at_≤l.length)(h:s.marks.length≤N)(h0:(ZbY x l g s).2.e=0):(ZbY x l g s).2.marks.length≤N+l.length+3:=by
 have a:=Zk4 h0;unfold ZbY at h0⊢;rw[if_neg (by omega)]at h0⊢;simp only at h0⊢;rw[if_neg (show¬ZM (byt l s.at_)<0 by omega),if_neg a.2.2.1]at h0⊢;obtain⟨s1,b⟩:∃s1,(if byt l s.at_=81∨byt l s.at_=84∨byt l s.at_=122 then Zan s s.at_ [byt l s.at_]else s)=s1:=⟨_,rfl⟩;rw[b]at h0⊢;have d:s1.marks.length≤N+1∧s1.at_=s.at_:=by
  rw[←b];split
  ·exact⟨by show(s.marks++[_]).length≤_;simp;omega,rfl⟩
  ·exact⟨by omega,rfl⟩
 split
 ·show s1.marks.length≤_;omega
 ·have c:∀C,(ZsD x l C (s1.to (s1.at_+1))).2.2.marks.length≤N+1+l.length+1:=fun C=>Zfu (l:=l) (s:=s1.to (s1.at_+1)) (N:=N+1) x C (by show s1.at_+1≤_;rw[d.2];exact a.1) (by show s1.marks.length≤_;omega);split
  ·exact Nat.le_trans Zow (Nat.le_trans (Nat.succ_le_succ (c _)) (by omega))
  ·exact Nat.le_trans (c _) (by omega)
theorem Zoy{x:Bool}{l:List UInt8}{p:Nat}{c:CV}{q:AdS}(hp:p≤l.length)(h:Zeu x l p=.inr (c,q)):q.marks.length≤3*l.length+5∧c.at_≤l.length:=by
 unfold Zeu at h;cases hg:ZX x l ⟨p,[],0⟩with
 |inl z=>rw[hg]at h;cases h
 |inr z=>
  obtain⟨g,s⟩:=z;rw[hg]at h;simp only at h;split at h
  ·cases h
  ·next h0=>
   injection h with h;have hs:=guardD_le (s:=⟨p,[],0⟩) hp rfl hg;have he:(ZbY x l g s).2.e=0:=by simpa using h0
   have h1:=Zox (x:=x) (g:=g) hs (guardD_mk hp hg) he;have h2:=Zk4 he;rw[h]at h1 h2;simp only at h1;exact⟨by omega,by have:=h2.2.2.2.1;simp only at this;omega⟩
theorem cmdD_bad{x:Bool}{l:List UInt8}{p:Nat}{z:Int×Nat}(h:Zeu x l p=.inl z):z.1≠0:=by
 unfold Zeu at h;cases hg:ZX x l ⟨p,[],0⟩with
 |inl y=>rw[hg]at h;injection h with h;subst h;exact guardD_err hg
 |inr y=>
  obtain⟨g,s⟩:=y;rw[hg]at h;simp only at h;split at h
  ·next h0=>injection h with h;subst h;exact h0
  ·cases h
structure RdW(l:List UInt8)(s:RdS):Prop where
 cm:s.cmds.length≤100
 op:s.opens.length≤12
 la:s.labels.length≤s.cmds.length
 at_:∀c∈s.cmds,c.at_≤l.length
theorem RdW.zero(l:List UInt8):RdW l RdS.zero:=⟨Nat.zero_le _,Nat.zero_le _,Nat.zero_le _,fun _ h=>by cases h⟩
theorem RdW.put{l:List UInt8}{s s':RdS}{c:CV}(h:RdW l s)(hn:s.cmds.length≠100)(hc:c.at_≤l.length)(hp:ZbZ c s=.inr s'):RdW l s':=by
 have a:∀d∈s.cmds++[c],d.at_≤l.length:=fun d hd=>by
  rcases List.mem_append.1 hd with hd|hd
  ·exact h.at_ d hd
  ·rw[List.mem_singleton.1 hd];exact hc
 have h1:=h.cm;have h2:=h.op;have h3:=h.la;unfold ZbZ at hp;split at hp
 ·split at hp
  ·cases hp
  ·next hb=>injection hp with hp;subst hp;exact⟨by simp;omega,by simp;omega,by simp;omega,a⟩
 ·split at hp
  ·split at hp
   ·cases hp
   ·injection hp with hp;subst hp;exact⟨by simp;omega,by simp;omega,by simp;omega,a⟩
  ·split at hp
   ·split at hp
    ·cases hp
    ·injection hp with hp;subst hp;exact⟨by simp;omega,by simp;omega,by simp;omega,a⟩
   ·injection hp with hp;subst hp;exact⟨by simp;omega,by simp;omega,by simp;omega,a⟩
theorem ZiK{s s':RdS}{c:CV}(hp:ZbZ c s=.inr s'):s'.cmds=s.cmds++[c]:=by
 unfold ZbZ at hp
 repeat' split at hp
 all_goals first|(cases hp;done)|(injection hp with hp;subst hp;rfl)
theorem put_err{s:RdS}{c:CV}{z:Int}(hp:ZbZ c s=.inl z):z≠0:=by
 unfold ZbZ at hp
 repeat' split at hp
 all_goals first|(injection hp with hp;subst hp;decide)|(cases hp;done)
theorem whole_err{s:RdS}{z:Int}{p:Nat}(h:Za8 s=some (z,p)):z≠0:=by
 unfold Za8 at h;split at h
 ·injection h with h;injection h with h _;subst h;decide
 ·split at h
  ·injection h with h;injection h with h _;subst h;decide
  ·cases h
theorem scrL_end{x:Bool}{l:List UInt8}{n k:Nat}{s:RdS}{ms:List (Nat×List UInt8)}(h:l.length≤k):Zdm x l n k s ms=.inr (s,ms):=by
 cases n with
 |zero=>rfl
 |succ n=>rw[Zdm,if_pos h]
theorem Zel{x:Bool}{l:List UInt8}{n k:Nat}{s:RdS}{ms:List (Nat×List UInt8)}(h:¬l.length≤k)(hc:s.cmds.length=100):Zdm x l (n+1) k s ms=.inl (3,k):=by
 rw[Zdm,if_neg h,if_pos hc]
theorem Zfv{x:Bool}{l:List UInt8}{n k:Nat}{s:RdS}{ms:List (Nat×List UInt8)}{z:Int×Nat}(h:¬l.length≤k)(hc:¬s.cmds.length=100)(h1:Zeu x l k=.inl z):Zdm x l (n+1) k s ms=.inl z:=by
 rw[Zdm,if_neg h,if_neg hc,h1]
theorem ZhW{x:Bool}{l:List UInt8}{n k:Nat}{s:RdS}{ms:List (Nat×List UInt8)}{c:CV}{q:AdS}{z:Int}(h:¬l.length≤k)(hc:¬s.cmds.length=100)(h1:Zeu x l k=.inr (c,q))(h2:ZbZ c s=.inl z):Zdm x l (n+1) k s ms=.inl (z,c.at_):=by
 rw[Zdm,if_neg h,if_neg hc,h1];simp only[h2]
theorem ZhX{x:Bool}{l:List UInt8}{n k:Nat}{s s':RdS}{ms:List (Nat×List UInt8)}{c:CV}{q:AdS}(h:¬l.length≤k)(hc:¬s.cmds.length=100)(h1:Zeu x l k=.inr (c,q))(h2:ZbZ c s=.inr s'):Zdm x l (n+1) k s ms=Zdm x l n (Zaq l (l.length+1) q.at_) s' (ms++q.marks):=by
 rw[Zdm,if_neg h,if_neg hc,h1];simp only[h2]
end Go.Proofs.YtkfddjopbocpkaaGreatDoor
