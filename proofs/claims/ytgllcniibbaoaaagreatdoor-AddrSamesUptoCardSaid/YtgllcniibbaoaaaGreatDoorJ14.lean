/- Lemmas of this claim. -/
import Derived.Test.YtgllcniibbaoaaaGreatDoorJ13
set_option linter.all false
set_option maxRecDepth 100000
set_option maxHeartbeats 24000000
namespace Go.Proofs.YtgllcniibbaoaaaGreatDoor
open Go.Proofs.Tryz
open Go.RowKit
theorem Zbj{l X:List UInt8}{k:Nat}(h:sgn l k=X)(hX:X≠[]):k+X.length≤l.length:=by
 have hk:k<l.length:=by
  by_cases hk:k<l.length
  ·exact hk
  ·exact absurd (h.symm.trans (Zkf (by omega))) hX
 have:=(Zkg l k).2;rw[h]at this;omega
theorem ZbQ(ere:Bool)(b:UInt8):1≤(opB ere b).length∧(opB ere b).length≤2∧opB ere b≠[]∧(ere=false→(opB ere b).length=2):=by cases ere<;>simp[opB]
theorem ZcU{l:List UInt8}{k:Nat}{ere:Bool}{b:UInt8}(h:(sgn l k==opB ere b)=true):k+(opB ere b).length≤l.length:=Zbj (eq_of_beq h) (ZbQ ere b).2.2.1
theorem ZkE{l:List UInt8}{ere:Bool}{k:Nat}{m x:Int}{j:Nat}(h:ZlJ l ere k=some (m,x,j)):k<j∧j≤l.length:=by
 unfold ZlJ at h;simp only at h;split at h
 ·cases h
 ·next hc=>
  have h4:=(ZbQ ere 125).1;have a:∀(q:Nat),ahd l q (opB ere 125)≠false→q+(opB ere 125).length≤l.length:=fun q hq=>ahd_le (by simpa using hq) h4;split at h
  ·split at h
   all_goals
    split at h
    ·cases h
    ·next ha=>
     injection h with h;injection h with h1 h;injection h with h2 h3;have:=a _ (fun e=>ha (.inl e));omega
  ·split at h
   ·cases h
   ·next ha=>
    injection h with h;injection h with h1 h;injection h with h2 h3;have:=a _ (fun e=>ha (.inl e));omega
def Zn4(l:List UInt8)(f:RxS→Out Nd):Prop:=∀s,Sane l s→∀t s',f s=.inr (t,s')→Sane l s'∧s.at_≤s'.at_∧t.size+2*s.at_≤2*s'.at_+2
theorem Sane.mk2{l:List UInt8}{s:RxS}{ere:Bool}{b:UInt8}(t:List UInt8)(hs:Sane l s)(h:s.at_+(opB ere b).length≤l.length):Sane l ((if ere then s else s.mark t).go (opB ere b).length):=by
 cases ere
 ·exact hs.markgo t (ZbQ false b).1 h
 ·exact hs.go h
theorem Zbz{ere:Bool}{l:List UInt8}:∀(n:Nat) (s:RxS) (t:Nd) (t':Nd) (s':RxS),Sane l s→Ze8 prg ere l n s t=.inr (t',s')→Sane l s'∧s.at_≤s'.at_∧t'.size+2*s.at_≤2*s'.at_+t.size
 |0,s,t,t',s',hs,h=>by
  rw[Ze8]at h;injection h with h;injection h with h1 h2;subst h1;subst h2;exact⟨hs,Nat.le_refl _,by omega⟩
 |n+1,s,t,t',s',hs,h=>by
  have hz:∀a b,(prg.rep t a b).size=1+t.size:=fun _ _=>rfl;have hat:∀u b,((if ere then s else s.mark u).go (opB ere b).length).at_=s.at_+(opB ere b).length:=fun u b=>by cases ere<;>rfl
  have ho:=ZbQ ere;rw[Ze8]at h;split at h
  ·next e=>
   have hle:s.at_+1≤l.length:=Zbj (eq_of_beq e) (by decide);obtain⟨k1,k2,k3⟩:=Zbz n _ _ _ _ (hs.go (n:=1) hle) h;have k2:s.at_+1≤s'.at_:=k2;have k3:t'.size+2*(s.at_+1)≤2*s'.at_+(1+t.size):=k3;exact⟨k1,by omega,by omega⟩
  ·split at h
   ·next e=>
    obtain⟨k1,k2,k3⟩:=Zbz n _ _ _ _ (hs.mk2 _ (ZcU e)) h;rw[hat]at k2 k3;rw[hz]at k3;have:=(ho 43).1;exact⟨k1,by omega,by omega⟩
   ·split at h
    ·next e=>
     obtain⟨k1,k2,k3⟩:=Zbz n _ _ _ _ (hs.mk2 _ (ZcU e)) h;rw[hat]at k2 k3;rw[hz]at k3;have:=(ho 63).1;exact⟨k1,by omega,by omega⟩
    ·split at h
     ·cases hi:ZlJ l ere (s.at_+(opB ere 123).length)with
      |none=>rw[hi]at h;cases h
      |some y=>
       obtain⟨m,x,j⟩:=y;rw[hi]at h;obtain⟨j1,j2⟩:=ZkE hi;obtain⟨k1,k2,k3⟩:=Zbz n _ _ _ _ (hs.to (n:=j) (by omega) j2) h;have k2:j≤s'.at_:=k2;have k3:t'.size+2*j≤2*s'.at_+(1+t.size):=k3;exact⟨k1,by omega,by omega⟩
     ·injection h with h;injection h with h1 h2;subst h1;subst h2;exact⟨hs,Nat.le_refl _,by omega⟩
section
variable {ere:Bool} {l:List UInt8} {C:Option (RxS→Out Nd)} (hC:∀f,C=some f→Zn4 l f)
theorem ZkF{s s':RxS}{t:Nd}{b:UInt8}(hs:Sane l s)(hl:s.at_+2≤l.length)(h:escD prg ere s b=.inr (t,s')):Sane l s'∧s.at_<s'.at_∧t.size+2*s.at_≤2*s'.at_:=by
 unfold escD at h;split at h
 ·split at h
  ·injection h with h;injection h with h1 h2;subst h1;subst h2;cases ere
   ·exact⟨hs.go hl,by show s.at_<s.at_+2;omega,by show 1+2*s.at_≤2*(s.at_+2);omega⟩
   ·exact⟨hs.markgo _ (by omega) hl,by show s.at_<s.at_+2;omega,by show 1+2*s.at_≤2*(s.at_+2);omega⟩
  ·cases h
 ·split at h
  ·cases h
  ·next c m _=>
   injection h with h;injection h with h1 h2;subst h1;subst h2;cases m
   ·exact⟨hs.go hl,by show s.at_<s.at_+2;omega,by show 1+2*s.at_≤2*(s.at_+2);omega⟩
   ·exact⟨hs.markgo _ (by omega) hl,by show s.at_<s.at_+2;omega,by show 1+2*s.at_≤2*(s.at_+2);omega⟩
include hC
theorem Zhq{s s':RxS}{t:Nd}(hs:Sane l s)(hl:s.at_+(opB ere 40).length≤l.length)(h:Zct prg ere l C s=.inr (t,s')):Sane l s'∧s.at_<s'.at_∧t.size+2*s.at_≤2*s'.at_:=by
 have ho:=ZbQ ere 40;unfold Zct at h;cases C with
 |none=>cases h
 |some f=>
  simp only at h;cases hf:f {s.go (opB ere 40).length with opened:=s.opened+1}with
  |inl e=>rw[hf]at h;cases h
  |inr z=>
   obtain⟨t1,s1⟩:=z;rw[hf]at h;simp only at h;have:=hs.op;have hg:=hs.go hl;obtain⟨k1,k2,k3⟩:=hC f rfl {s.go (opB ere 40).length with opened:=s.opened+1} ⟨hg.le,hg.mr,hg.cl,by show s.opened+1≤s.at_+_;omega⟩ t1 s1 hf;have k2:s.at_+(opB ere 40).length≤s1.at_:=k2;have k3:t1.size+2*(s.at_+(opB ere 40).length)≤2*s1.at_+2:=k3;split at h
   ·next e=>
    have e1:=ZcU e;have e2:(opB ere 40).length=(opB ere 41).length:=by cases ere<;>rfl
    injection h with h;injection h with h1 h2;subst h1;subst h2;refine⟨⟨by show s1.at_+_≤_;omega,Nat.le_trans k1.mr (Nat.le_add_right _ _),?_,Nat.le_trans k1.op (Nat.le_add_right _ _)⟩,by show s.at_<s1.at_+_;omega,?_⟩
    ·show(s1.closed++[_]).length≤s1.at_+_;have:=k1.cl;rw[List.length_append];simp only[List.length_singleton];omega
    ·show 1+t1.size+2*s.at_≤2*(s1.at_+_);omega
   ·cases h
theorem atomD_kept{s s':RxS}{t:Nd}(hs:Sane l s)(h:ZcS prg ere l C s=.inr (t,s')):Sane l s'∧s.at_<s'.at_∧t.size+2*s.at_≤2*s'.at_:=by
 unfold ZcS at h;split at h
 ·next e=>exact Zhq hC hs (ZcU e) h
 ·split at h
  ·cases h
  ·split at h
   ·cases hp:prs l (s.at_+1)with
    |inl z=>rw[hp]at h;cases h
    |inr y=>
     obtain⟨c,k⟩:=y;rw[hp]at h;injection h with h;injection h with h2 h3;subst h2;subst h3;obtain⟨_,p2,p3⟩:=Zke hp;have p2:s.at_+1<k:=p2;have p3:k≤l.length:=p3;exact⟨hs.to (by omega) p3,by show s.at_<k;omega,by show 1+2*s.at_≤2*k;omega⟩
   ·split at h
    ·next e=>
     have a:s.at_+1≤l.length:=Zbj (eq_of_beq e) (by decide);injection h with h;injection h with h2 h3;subst h2;subst h3;exact⟨hs.go a,by show s.at_<s.at_+1;omega,by show 1+2*s.at_≤2*(s.at_+1);omega⟩
    ·split at h
     ·cases h
     ·split at h
      ·cases h
      ·next b e=>
       have a:s.at_+1≤l.length:=Zbj e (by simp);injection h with h;injection h with h2 h3;subst h2;subst h3;exact⟨hs.go a,by show s.at_<s.at_+1;omega,by show 1+2*s.at_≤2*(s.at_+1);omega⟩
      ·next b r e=>
       have h2:=(Zkg l s.at_).1;have a:=Zbj e (by simp);simp only[List.length_cons]at a;obtain⟨k1,k2,k3⟩:=ZkF hs (by omega) h;exact⟨k1,k2,k3⟩
theorem ZdJ{inner:Bool}:∀(n:Nat) (first front:Bool) (s:RxS) (ps:List Nd) (t:Nd) (s':RxS),Sane l s→brD prg ere l C inner n first front s ps=.inr (t,s')→
 Sane l s'∧s.at_≤s'.at_∧t.size+2*s.at_≤2*s'.at_+Nd.sizes ps+1
 |0,first,front,s,ps,t,s',hs,h=>by
  rw[brD]at h;injection h with h;injection h with h1 h2;subst h1;subst h2;have:=Zbx ps;exact⟨hs,Nat.le_refl _,by show(Za2 ps).size+_≤_;omega⟩
 |n+1,first,front,s,ps,t,s',hs,h=>by
  have hj:=Zbx ps;rw[brD]at h;split at h
  ·injection h with h;injection h with h1 h2;subst h1;subst h2;exact⟨hs,Nat.le_refl _,by show(Za2 ps).size+_≤_;omega⟩
  ·split at h
   ·next e=>
    have e1:(sgn l s.at_==[94])=true:=by simp only[Bool.and_eq_true]at e;exact e.1
    have a:s.at_+1≤l.length:=Zbj (eq_of_beq e1) (by decide);obtain⟨k1,k2,k3⟩:=ZdJ n _ _ _ _ _ _ (hs.go (n:=1) a) h;have k2:s.at_+1≤s'.at_:=k2;have k3:t.size+2*(s.at_+1)≤2*s'.at_+Nd.sizes (ps++[.start])+1:=k3;rw[Nd.sizes_append]at k3;have:Nd.sizes [Nd.start]=1:=rfl;exact⟨k1,by omega,by omega⟩
   ·split at h
    ·next e=>
     have e1:(sgn l s.at_==[36])=true:=by simp only[Bool.and_eq_true]at e;exact e.1
     have a:s.at_+1≤l.length:=Zbj (eq_of_beq e1) (by decide);obtain⟨k1,k2,k3⟩:=ZdJ n _ _ _ _ _ _ (hs.go (n:=1) a) h;have k2:s.at_+1≤s'.at_:=k2;have k3:t.size+2*(s.at_+1)≤2*s'.at_+Nd.sizes (ps++[.fin])+1:=k3;rw[Nd.sizes_append]at k3;have:Nd.sizes [Nd.fin]=1:=rfl;exact⟨k1,by omega,by omega⟩
    ·split at h
     ·cases h
     ·split at h
      ·cases h
      ·next t1 s1 e1=>
       split at h
       ·cases h
       ·next t2 s2 e2=>
        obtain⟨a1,a2,a3⟩:=atomD_kept hC hs e1;obtain⟨b1,b2,b3⟩:=Zbz _ _ _ _ _ a1 e2;obtain⟨k1,k2,k3⟩:=ZdJ n _ _ _ _ _ _ b1 h;rw[Nd.sizes_append]at k3;have:Nd.sizes [t2]=t2.size:=by simp[Nd.sizes]
        exact⟨k1,by omega,by omega⟩
theorem Zbf{inner:Bool}{s s':RxS}{t:Nd}(hs:Sane l s)(h:Zb7 prg ere l C inner s=.inr (t,s')):Sane l s'∧s.at_≤s'.at_∧t.size+2*s.at_≤2*s'.at_+1:=by
 have:=ZdJ hC _ _ _ _ _ _ _ hs h;simpa[Nd.sizes]using this
theorem ZeF{inner:Bool}:∀(n:Nat) (s:RxS) (ts:List Nd) (t:Nd) (s':RxS),Sane l s→Zar prg ere l C inner n s ts=.inr (t,s')→
 Sane l s'∧s.at_≤s'.at_∧t.size+2*s.at_≤2*s'.at_+Nd.sizes ts+1
 |0,s,ts,t,s',hs,h=>by
  rw[Zar]at h;injection h with h;injection h with h1 h2;subst h1;subst h2;have:=Zby ts;exact⟨hs,Nat.le_refl _,by show(Za3 ts).size+_≤_;omega⟩
 |n+1,s,ts,t,s',hs,h=>by
  have hj:=Zby ts;have hat:∀u b,((if ere then s else s.mark u).go (opB ere b).length).at_=s.at_+(opB ere b).length:=fun u b=>by cases ere<;>rfl
  have ho:=ZbQ ere 124;rw[Zar]at h;split at h
  ·next e=>
   split at h
   ·cases h
   ·next t1 s1 e1=>
    obtain⟨a1,a2,a3⟩:=Zbf hC (hs.mk2 _ (ZcU e)) e1;rw[hat]at a2 a3;obtain⟨k1,k2,k3⟩:=ZeF n _ _ _ _ a1 h;rw[Nd.sizes_append]at k3;have:Nd.sizes [t1]=t1.size:=by simp[Nd.sizes]
    exact⟨k1,by omega,by omega⟩
  ·injection h with h;injection h with h1 h2;subst h1;subst h2;exact⟨hs,Nat.le_refl _,by show(Za3 ts).size+_≤_;omega⟩
theorem Zdr{inner:Bool}{s s':RxS}{t:Nd}(hs:Sane l s)(h:choiceD prg ere l C inner s=.inr (t,s')):Sane l s'∧s.at_≤s'.at_∧t.size+2*s.at_≤2*s'.at_+2:=by
 unfold choiceD at h;split at h
 ·cases h
 ·next t1 s1 e1=>
  obtain⟨a1,a2,a3⟩:=Zbf hC hs e1;obtain⟨k1,k2,k3⟩:=ZeF hC _ _ _ _ _ a1 h;have:Nd.sizes [t1]=t1.size:=by simp[Nd.sizes]
  exact⟨k1,by omega,by omega⟩
end
theorem chD_kept{ere:Bool}{l:List UInt8}:∀n,Zn4 l (chD prg ere l n)
 |0=>fun s hs t s' h=>by rw[chD]at h;exact Zdr (fun f hf=>by cases hf) hs h
 |n+1=>fun s hs t s' h=>by rw[chD]at h;exact Zdr (fun f hf=>by injection hf with hf;subst hf;exact chD_kept n) hs h
structure ES where
 r:RxS
 x:Option (Int×Nat)
def ES.go(s:ES)(n:Nat):ES:=⟨s.r.go n,s.x⟩
def ES.to(s:ES)(n:Nat):ES:=⟨s.r.to n,s.x⟩
def ES.mark(s:ES)(t:List UInt8):ES:=⟨s.r.mark t,s.x⟩
def ES.fail(l:List UInt8)(s:ES)(e:Int)(p:Nat):ES:=⟨s.r.to l.length,some (s.x.getD (e,p))⟩
section
variable (l:List UInt8)
def Zds(s:ES):Int×ES:=(if(ZaQ (l.drop s.r.at_) 0 0).2=0 then -1 else((ZaQ (l.drop s.r.at_) 0 0).1:Int),s.go (ZaQ (l.drop s.r.at_) 0 0).2)
def Zcp(s1:ES)(mn:Int):Int×ES:=if 0≤mn∧l[s1.r.at_]? =some 44 then Zds l (s1.go 1)else(mn,s1)
def Zcq(mn mx:Int)(s2:ES):Bool×ES:=
 if 0≤mn∧l[s2.r.at_]? =some 125 then(decide (mn≤255)&&(decide (mx≤255)&&(decide (mx<0)||decide (mn≤mx))),s2.go 1)else(false,s2)
def Zd8(s:ES):Int×Int×Bool×ES:=
 let a:=Zds l s
 let b:=Zcp l a.2 a.1
 let c:=Zcq l a.1 b.1 b.2
 (a.1,b.1,c.1,c.2)
def ZbR:Nat→ES→Nd→Nd×ES
 |0,s,t=>(t,s)
 |n+1,s,t=>
  if l[s.r.at_]? =some 42 then ZbR n (s.go 1) (.rep t 0 (-1))
  else if l[s.r.at_]? =some 43 then ZbR n (s.go 1) (.rep t 1 (-1))
  else if l[s.r.at_]? =some 63 then ZbR n (s.go 1) (.rep t 0 1)
  else if l[s.r.at_]? =some 123 then
   (if(Zd8 l (s.go 1)).2.2.1 then ZbR n (Zd8 l (s.go 1)).2.2.2 (.rep t (Zd8 l (s.go 1)).1 (Zd8 l (s.go 1)).2.1)else(t,(Zd8 l (s.go 1)).2.2.2.fail l 7 s.r.at_))
  else(t,s)
def ZdK(c:UInt8):Bool:=c==116||(c==119||(c==87||(c==115||(c==83||(decide (49≤c.toNat)&&decide (c.toNat≤57))))))
def ZkG(s:ES):Nd×ES:=
 match l[s.r.at_+1]? with
 |none=>(.nil,s.fail l 11 s.r.at_)
 |some c=>
  let s2:=(if ZdK c then s.mark [92,c]else s).go 2
  if 49≤c.toNat∧c.toNat≤57 then(.back ((c.toNat-48:Nat):Int),if s.r.closed.contains (c.toNat-48)then s2 else s2.fail l 9 s.r.at_)
  else match ZjI c with
   |none=>(.one (spn c.toNat c.toNat),s2.fail l 2 s.r.at_)
   |some (S,_)=>(.one S,s2)
def ZdB(s:ES):ES:=⟨{s.r.go 1 with opened:=s.r.opened+1},s.x⟩
def Zcu(n p:Nat)(s:ES):ES:=
 let s3:=if l[s.r.at_]? =some 41 then s.go 1 else s.fail l 8 p
 ⟨{s3.r with closed:=s3.r.closed++[n]},s3.x⟩
def ZbA(C:Option (ES→Nd×ES))(s:ES):Nd×ES:=
 match C with
 |none=>(.nil,s.fail l 4 s.r.at_)
 |some f=>(.group ((s.r.opened+1:Nat):Int) (f (ZdB s)).1,Zcu l (s.r.opened+1) s.r.at_ (f (ZdB s)).2)
def Zax(C:Option (ES→Nd×ES))(s:ES)(c:UInt8):Nd×ES:=
 if c=40 then ZbA l C s
 else if c=41 then(.nil,s.fail l 8 s.r.at_)
 else if c=92 then ZkG l s
 else if c=91 then
  match prs l (s.r.at_+1)with
  | .inl (e,p)=>(.nil,s.fail l e p)
  | .inr (S,k)=>(.one S,s.to k)
 else if c=46 then(.one (spn 0 255),s.go 1)
 else(.one (spn c.toNat c.toNat),s.go 1)
def Zd9(front:Bool)(s:ES)(c:UInt8):ES:=
 if c=41 then s.fail l 8 s.r.at_
 else if(c=42∨c=43∨c=63∨c=123)∧front=true then s.fail l 10 s.r.at_
 else s
def brX(C:Option (ES→Nd×ES))(inner:Bool):Nat→Bool→ES→List Nd→Nd×ES
 |0,_,s,ps=>(Za2 ps,s)
 |n+1,front,s,ps=>
  match l[s.r.at_]? with
  |none=>(Za2 ps,s)
  |some c=>
   if(c=41∧inner=true)∨c=124 then(Za2 ps,s)
   else if c=94 then brX C inner n true (s.go 1) (ps++[.start])
   else if c=36 then brX C inner n true (s.go 1) (ps++[.fin])
   else if(Zd9 l front s c).x.isSome then(.nil,Zd9 l front s c)
   else
    let a:=Zax l C s c
    let b:=ZbR l (l.length+1) a.2 a.1
    brX C inner n false b.2 (ps++[b.1])
def Zab(C:Option (ES→Nd×ES))(inner:Bool)(s:ES):Nd×ES:=brX l C inner (if sgn l s.r.at_==[94]then l.length+2 else l.length+1) true s []
def Zat(C:Option (ES→Nd×ES))(inner:Bool):Nat→ES→List Nd→Nd×ES
 |0,s,ts=>(Za3 ts,s)
 |n+1,s,ts=>
  if l[s.r.at_]? =some 124 then Zat C inner n (Zab l C inner (s.go 1)).2 (ts++[(Zab l C inner (s.go 1)).1])
  else(Za3 ts,s)
def Zb8(C:Option (ES→Nd×ES))(inner:Bool)(s:ES):Nd×ES:=Zat l C inner (l.length+1) (Zab l C inner s).2 [(Zab l C inner s).1]
def chX:Nat→ES→Nd×ES
 |0=>Zb8 l none true
 |n+1=>Zb8 l (some (chX n)) (decide (n+1<12))
end
theorem ZK{l:List UInt8}{k:Nat}{c:UInt8}(h:l[k]? =some c):k<l.length:=(List.getElem?_eq_some_iff.1 h).1
theorem Sane.goE{l:List UInt8}{s:ES}{n:Nat}(hs:Sane l s.r)(h:s.r.at_+n≤l.length):Sane l (s.go n).r:=Sane.go hs h
theorem Sane.failE{l:List UInt8}{s:ES}(e:Int)(p:Nat)(hs:Sane l s.r):Sane l (s.fail l e p).r:=Sane.to hs hs.le (Nat.le_refl _)
theorem Zf7{l:List UInt8}{s:ES}(hs:Sane l s.r):Sane l (Zds l s).2.r∧s.r.at_≤(Zds l s).2.r.at_∧(Zds l s).2.r.closed=s.r.closed:=by
 obtain⟨b1,b2,b3⟩:=Zdh l s.r.at_ hs.le;exact⟨hs.goE b3,Nat.le_add_right _ _,rfl⟩
theorem Zf8{l:List UInt8}{s:ES}(hs:Sane l s.r):Sane l (Zd8 l s).2.2.2.r∧s.r.at_≤(Zd8 l s).2.2.2.r.at_∧(Zd8 l s).2.2.2.r.closed=s.r.closed:=by
 have h1:=Zf7 hs;have h2:∀s1 mn,Sane l s1.r→Sane l (Zcp l s1 mn).2.r∧s1.r.at_≤(Zcp l s1 mn).2.r.at_∧(Zcp l s1 mn).2.r.closed=s1.r.closed:=fun s1 mn h=>by
  unfold Zcp;split
  ·next e=>
   have:=Zf7 (s:=s1.go 1) (h.goE (ZK e.2));exact⟨this.1,Nat.le_trans (Nat.le_add_right _ _) this.2.1,this.2.2⟩
  ·exact⟨h,Nat.le_refl _,rfl⟩
 have h3:∀mn mx s2,Sane l s2.r→Sane l (Zcq l mn mx s2).2.r∧s2.r.at_≤(Zcq l mn mx s2).2.r.at_∧(Zcq l mn mx s2).2.r.closed=s2.r.closed:=fun mn mx s2 h=>by
  unfold Zcq;split
  ·next e=>exact⟨h.goE (ZK e.2),Nat.le_add_right _ _,rfl⟩
  ·exact⟨h,Nat.le_refl _,rfl⟩
 have h4:=h2 (Zds l s).2 (Zds l s).1 h1.1;have h5:=h3 (Zds l s).1 (Zcp l (Zds l s).2 (Zds l s).1).1 _ h4.1;exact⟨h5.1,Nat.le_trans h1.2.1 (Nat.le_trans h4.2.1 h5.2.1),h5.2.2.trans (h4.2.2.trans h1.2.2)⟩
structure Kp(l:List UInt8)(s:ES)(q:Nd×ES)(d:Nat):Prop where
 sn:Sane l q.2.r
 at_:s.r.at_≤q.2.r.at_
 sz:q.1.size+3*s.r.at_≤3*q.2.r.at_+d
 cl:q.2.r.closed.length+s.r.at_≤s.r.closed.length+q.2.r.at_
theorem Kp.fail{l:List UInt8}{s s2:ES}{t:Nd}{d:Nat}(e:Int)(p:Nat)(hs:Sane l s2.r)(h1:s.r.at_≤l.length)(h2:t.size+3*s.r.at_≤3*l.length+d)(h3:s2.r.closed=s.r.closed):Kp l s (t,s2.fail l e p) d:=
 ⟨hs.failE _ _,h1,h2,by show s2.r.closed.length+_≤_+l.length;rw[h3];omega⟩
theorem Kp.of{l:List UInt8}{s s2:ES}{t:Nd}{d:Nat}(hs:Sane l s2.r)(h1:s.r.at_≤s2.r.at_)(h2:t.size+3*s.r.at_≤3*s2.r.at_+d)(h3:s2.r.closed=s.r.closed):Kp l s (t,s2) d:=
 ⟨hs,h1,h2,by show s2.r.closed.length+_≤_+s2.r.at_;rw[h3];omega⟩
theorem Kp.trans{l:List UInt8}{s s2:ES}{q:Nd×ES}{d d':Nat}(h:Kp l s2 q d)(h1:s.r.at_≤s2.r.at_)(h2:d+3*s.r.at_≤3*s2.r.at_+d')(h3:s2.r.closed.length+s.r.at_≤s.r.closed.length+s2.r.at_):Kp l s q d':=
 ⟨h.sn,Nat.le_trans h1 h.at_,by have:=h.sz;omega,by have:=h.cl;omega⟩
theorem Zb9{l:List UInt8}:∀(n:Nat) (s:ES) (t:Nd),Sane l s.r→Kp l s (ZbR l n s t) t.size
 |0,s,t,hs=>by rw[ZbR];exact Kp.of hs (Nat.le_refl _) (by omega) rfl
 |n+1,s,t,hs=>by
  have one:∀a b,s.r.at_<l.length→Kp l s (ZbR l n (s.go 1) (.rep t a b)) t.size:=fun a b hlt=>
   (Zb9 n (s.go 1) (.rep t a b) (hs.goE hlt)).trans (Nat.le_add_right _ _) (by show 1+t.size+3*s.r.at_≤3*(s.r.at_+1)+t.size;omega) (by show s.r.closed.length+_≤_+(s.r.at_+1);omega)
  rw[ZbR];split
  ·next e=>exact one _ _ (ZK e)
  ·split
   ·next e=>exact one _ _ (ZK e)
   ·split
    ·next e=>exact one _ _ (ZK e)
    ·split
     ·next e=>
      have hlt:=ZK e;obtain⟨i1,i2,i3⟩:=Zf8 (s:=s.go 1) (hs.goE hlt);have i2:s.r.at_+1≤_:=i2;split
      ·exact(Zb9 n _ (.rep t _ _) i1).trans (by omega) (by show 1+t.size+_≤_;omega) (by rw[i3];show s.r.closed.length+_≤_;omega)
      ·exact Kp.fail _ _ i1 hs.le (by have:=hs.le;omega) i3
     ·exact Kp.of hs (Nat.le_refl _) (by omega) rfl
theorem ZkH{l:List UInt8}{s:ES}(hs:Sane l s.r)(hl:s.r.at_<l.length):Kp l s (ZkG l s) 0∧s.r.at_<(ZkG l s).2.r.at_:=by
 unfold ZkG;cases h:l[s.r.at_+1]? with
 |none=>exact⟨Kp.fail _ _ hs hs.le (by show 1+3*s.r.at_≤_;omega) rfl,hl⟩
 |some c=>
  have a:=ZK h;simp only;have h2:Sane l ((if ZdK c then s.mark [92,c]else s).go 2).r:=by
   cases ZdK c
   ·exact hs.goE (by omega)
   ·exact hs.markgo _ (by omega) (by omega)
  have h3:((if ZdK c then s.mark [92,c]else s).go 2).r.at_=s.r.at_+2:=by cases ZdK c<;>rfl
  have h4:((if ZdK c then s.mark [92,c]else s).go 2).r.closed=s.r.closed:=by cases ZdK c<;>rfl
  split
  ·split
   ·exact⟨Kp.of h2 (by omega) (by rw[h3];show 1+3*s.r.at_≤_;omega) h4,by rw[h3];omega⟩
   ·exact⟨Kp.fail _ _ h2 hs.le (by show 1+3*s.r.at_≤_;omega) h4,hl⟩
  ·split
   ·exact⟨Kp.fail _ _ h2 hs.le (by show 1+3*s.r.at_≤_;omega) h4,hl⟩
   ·exact⟨Kp.of h2 (by omega) (by rw[h3];show 1+3*s.r.at_≤_;omega) h4,by rw[h3];omega⟩
section
variable {l:List UInt8} {C:Option (ES→Nd×ES)} (hC:∀f,C=some f→∀s,Sane l s.r→Kp l s (f s) 2)
theorem ZeG{s:ES}(hs:Sane l s.r)(hl:s.r.at_<l.length):Sane l (ZdB s).r:=by
 have hg:=hs.goE (n:=1) hl;have a:=hs.op;exact⟨hg.le,hg.mr,hg.cl,by show s.r.opened+1≤s.r.at_+1;omega⟩
include hC
theorem Zhr{s:ES}(hs:Sane l s.r)(hl:s.r.at_<l.length):Kp l s (ZbA l C s) 0∧s.r.at_<(ZbA l C s).2.r.at_:=by
 unfold ZbA;cases C with
 |none=>exact⟨Kp.fail _ _ hs hs.le (by show 1+3*s.r.at_≤_;omega) rfl,hl⟩
 |some f=>
  simp only;have hk:=hC f rfl (ZdB s) (ZeG hs hl);obtain⟨q,hq⟩:∃q,f (ZdB s)=q:=⟨_,rfl⟩;rw[hq]at hk⊢;obtain⟨k1,k2,k3,k4⟩:=hk;have k2:s.r.at_+1≤_:=k2;have k3:_+3*(s.r.at_+1)≤_:=k3;have k4:_+(s.r.at_+1)≤s.r.closed.length+_:=k4;have b:=hs.cl;unfold Zcu;split
  ·next e=>
   have he:=ZK e;refine⟨⟨⟨he,Nat.le_trans k1.mr (Nat.le_add_right _ _),?_,Nat.le_trans k1.op (Nat.le_add_right _ _)⟩,?_,?_,?_⟩,?_⟩
   ·show(q.2.r.closed++[_]).length≤q.2.r.at_+1;rw[List.length_append];simp only[List.length_singleton];omega
   ·show s.r.at_≤q.2.r.at_+1;omega
   ·show 1+q.1.size+3*s.r.at_≤3*(q.2.r.at_+1)+0;omega
   ·show(q.2.r.closed++[_]).length+_≤_+(q.2.r.at_+1);rw[List.length_append];simp only[List.length_singleton];omega
   ·show s.r.at_<q.2.r.at_+1;omega
  ·have a:=k1.le;refine⟨⟨⟨Nat.le_refl _,Nat.le_trans k1.mr a,?_,Nat.le_trans k1.op a⟩,hs.le,?_,?_⟩,hl⟩
   ·show(q.2.r.closed++[_]).length≤l.length;rw[List.length_append];simp only[List.length_singleton];omega
   ·show 1+q.1.size+3*s.r.at_≤3*l.length+0;omega
   ·show(q.2.r.closed++[_]).length+_≤_+l.length;rw[List.length_append];simp only[List.length_singleton];omega
theorem atomX_kept{s:ES}{c:UInt8}(hs:Sane l s.r)(h:l[s.r.at_]? =some c):Kp l s (Zax l C s c) 0∧s.r.at_<(Zax l C s c).2.r.at_:=by
 have hl:=ZK h;have a:∀e p,Kp l s (.nil,s.fail l e p) 0∧s.r.at_<(s.fail l e p).r.at_:=fun e p=>⟨Kp.fail _ _ hs hs.le (by show 1+3*s.r.at_≤_;omega) rfl,hl⟩;have b:∀S,Kp l s (.one S,s.go 1) 0∧s.r.at_<(s.go 1).r.at_:=fun S=>⟨Kp.of (hs.goE hl) (Nat.le_add_right _ _) (by show 1+3*s.r.at_≤3*(s.r.at_+1)+0;omega) rfl,Nat.lt_succ_self _⟩;unfold Zax;split
 ·exact Zhr hC hs hl
 ·split
  ·exact a _ _
  ·split
   ·exact ZkH hs hl
   ·split
    ·cases hp:prs l (s.r.at_+1)with
     |inl z=>exact a _ _
     |inr y=>
      obtain⟨_,p2,p3⟩:=Zke hp;have p2:s.r.at_+1<y.2:=p2;have p3:y.2≤l.length:=p3;refine⟨Kp.of (Sane.to hs (by omega) p3) (by show s.r.at_≤y.2;omega) (by show 1+3*s.r.at_≤3*y.2+0;omega) rfl,by show s.r.at_<y.2;omega⟩
    ·split
     ·exact b _
     ·exact b _
theorem Zfk{inner:Bool}:∀(n:Nat) (front:Bool) (s:ES) (ps:List Nd),Sane l s.r→Kp l s (brX l C inner n front s ps) (Nd.sizes ps+1)
 |0,front,s,ps,hs=>by rw[brX];exact Kp.of hs (Nat.le_refl _) (by have:=Zbx ps;omega) rfl
 |n+1,front,s,ps,hs=>by
  have hj:Kp l s (Za2 ps,s) (Nd.sizes ps+1):=Kp.of hs (Nat.le_refl _) (by have:=Zbx ps;omega) rfl;rw[brX];cases h:l[s.r.at_]? with
  |none=>exact hj
  |some c=>
   have hl:=ZK h;simp only;have hone:∀t:Nd,t.size=1→Kp l s (brX l C inner n true (s.go 1) (ps++[t])) (Nd.sizes ps+1):=fun t ht=>by
    refine(Zfk n true (s.go 1) _ (hs.goE hl)).trans (Nat.le_add_right _ _) ?_ (by show s.r.closed.length+_≤_+(s.r.at_+1);omega);rw[Nd.sizes_append];have:Nd.sizes [t]=t.size:=by simp[Nd.sizes]
    show _+3*s.r.at_≤3*(s.r.at_+1)+_;omega
   split
   ·exact hj
   ·split
    ·exact hone _ rfl
    ·split
     ·exact hone _ rfl
     ·split
      ·next hx=>
       have hf:(∃e p,Zd9 l front s c=s.fail l e p)∨Zd9 l front s c=s:=by
        unfold Zd9;split
        ·exact .inl ⟨_,_,rfl⟩
        ·split
         ·exact .inl ⟨_,_,rfl⟩
         ·exact .inr rfl
       rcases hf with⟨e,p,hf⟩|hf
       ·rw[hf];exact Kp.fail _ _ hs hs.le (by show 1+3*s.r.at_≤_;omega) rfl
       ·rw[hf];exact Kp.of hs (Nat.le_refl _) (by show 1+3*s.r.at_≤_;omega) rfl
      ·obtain⟨a1,a2⟩:=atomX_kept hC (c:=c) hs h;have b1:=Zb9 (l.length+1) (Zax l C s c).2 (Zax l C s c).1 a1.sn;have k1:=Zfk (inner:=inner) n false (ZbR l (l.length+1) (Zax l C s c).2 (Zax l C s c).1).2 (ps++[(ZbR l (l.length+1) (Zax l C s c).2 (Zax l C s c).1).1]) b1.sn;have c1:=a1.at_;have c2:=b1.at_;have c3:=a1.sz;have c4:=b1.sz;have c5:=a1.cl;have c6:=b1.cl;refine k1.trans (by omega) ?_ (by omega);rw[Nd.sizes_append];have:∀t:Nd,Nd.sizes [t]=t.size:=fun t=>by simp[Nd.sizes]
       rw[this];omega
theorem Zbg{inner:Bool}{s:ES}(hs:Sane l s.r):Kp l s (Zab l C inner s) 1:=Zfk hC _ _ _ _ hs
theorem Zdt{inner:Bool}:∀(n:Nat) (s:ES) (ts:List Nd),Sane l s.r→Kp l s (Zat l C inner n s ts) (Nd.sizes ts+1)
 |0,s,ts,hs=>by rw[Zat];exact Kp.of hs (Nat.le_refl _) (by have:=Zby ts;omega) rfl
 |n+1,s,ts,hs=>by
  rw[Zat];split
  ·next e=>
   have hg:=hs.goE (n:=1) (ZK e);have b1:=Zbg hC (inner:=inner) hg;have k1:=Zdt (inner:=inner) n (Zab l C inner (s.go 1)).2 (ts++[(Zab l C inner (s.go 1)).1]) b1.sn;have c2:=b1.at_;have c4:=b1.sz;have c6:=b1.cl;have c2:s.r.at_+1≤_:=c2;have c4:_+3*(s.r.at_+1)≤_:=c4;have c6:_+(s.r.at_+1)≤s.r.closed.length+_:=c6;refine k1.trans (by omega) ?_ (by omega);rw[Nd.sizes_append];have:∀t:Nd,Nd.sizes [t]=t.size:=fun t=>by simp[Nd.sizes]
   rw[this];omega
  ·exact Kp.of hs (Nat.le_refl _) (by have:=Zby ts;omega) rfl
theorem Zdu{inner:Bool}{s:ES}(hs:Sane l s.r):Kp l s (Zb8 l C inner s) 2:=by
 have b1:=Zbg hC (inner:=inner) hs;have k1:=Zdt hC (inner:=inner) (l.length+1) _ [(Zab l C inner s).1] b1.sn;have c2:=b1.at_;have c4:=b1.sz;have c6:=b1.cl;have:∀t:Nd,Nd.sizes [t]=t.size:=fun t=>by simp[Nd.sizes]
 exact k1.trans c2 (by rw[this];omega) c6
end
theorem chX_kept{l:List UInt8}:∀n s,Sane l s.r→Kp l s (chX l n s) 2
 |0,s,hs=>by rw[chX];exact Zdu (fun f hf=>by cases hf) hs
 |n+1,s,hs=>by rw[chX];exact Zdu (fun f hf=>by injection hf with hf;subst hf;exact chX_kept n) hs
def Rl(l:List UInt8):Out Nd→Nd×ES→Prop
 | .inr (t,r),q=>q=(t,⟨r,none⟩)
 | .inl e,q=>q.2.x=some e∧q.2.r.at_=l.length
def Zcr(l:List UInt8)(e:Int×Nat)(s:ES):Prop:=s.x=some e∧s.r.at_=l.length
section
variable {l:List UInt8} {e:Int×Nat} {s:ES}
theorem Zcr.no(h:Zcr l e s):l[s.r.at_]? =none:=by rw[h.2];simp
theorem Zcr.rep(h:Zcr l e s)(n:Nat)(t:Nd):ZbR l n s t=(t,s):=by
 cases n with
 |zero=>rfl
 |succ n=>rw[ZbR,h.no];simp
theorem Zcr.br(h:Zcr l e s)(C:Option (ES→Nd×ES))(inner:Bool)(n:Nat)(front:Bool)(ps:List Nd):brX l C inner n front s ps=(Za2 ps,s):=by
 cases n with
 |zero=>rfl
 |succ n=>rw[brX,h.no]
theorem Zcr.loop(h:Zcr l e s)(C:Option (ES→Nd×ES))(inner:Bool)(n:Nat)(ts:List Nd):Zat l C inner n s ts=(Za3 ts,s):=by
 cases n with
 |zero=>rfl
 |succ n=>rw[Zat,h.no];simp
theorem Zcr.out(h:Zcr l e s)(n p:Nat):Zcr l e (Zcu l n p s):=by
 unfold Zcu;rw[h.no];simp only[reduceCtorEq,if_false];exact⟨by show some (s.x.getD _)=_;rw[h.1];rfl,rfl⟩
end
theorem ZbS{l:List UInt8}{k:Nat}{c:UInt8}(hc:c≠92):(sgn l k==[c])=decide (l[k]? =some c):=by
 unfold sgn;cases h:l[k]? with
 |none=>simp
 |some b=>
  by_cases a:b=92
  ·subst a;have:¬(92:UInt8)=c:=fun h=>hc h.symm;simp only[if_true];cases l[k+1]? <;>simp[this]
  ·simp only[if_neg a];by_cases d:b=c<;>simp[d]
theorem ZkI{l:List UInt8}{k:Nat}{c:UInt8}(hc:c≠92):ahd l k [c]=decide (l[k]? =some c):=by rw[←ZcT hc,ZbS hc]
theorem Zpy(l:List UInt8)(s:ES):(Zd8 l s).2.2.2.x=s.x:=by
 have h2:∀s1 mn,(Zcp l s1 mn).2.x=s1.x:=fun s1 mn=>by unfold Zcp;split<;>rfl
 have h3:∀mn mx s2,(Zcq l mn mx s2).2.x=s2.x:=fun mn mx s2=>by unfold Zcq;split<;>rfl
 exact(h3 _ _ _).trans (h2 _ _)
theorem Zfl{l:List UInt8}{mn mx:Int}{s:ES}(h:255<mn∨255<mx∨mn<0∨¬l[s.r.at_]? =some 125):(Zcq l mn mx s).1=false:=by
 unfold Zcq;split
 ·next e=>
  rcases h with h|h|h|h
  ·have:¬mn≤255:=by omega
   simp[this]
  ·have:¬mx≤255:=by omega
   simp[this]
  ·omega
  ·exact absurd e.2 h
 ·rfl
theorem Zpz{l:List UInt8}{s:ES}:match ZlJ l true s.r.at_ with
 |none=>(Zd8 l s).2.2.1=false
 |some (m,x,j)=>Zd8 l s=(m,x,true,s.to j):=by
 obtain⟨m,c,hm⟩:∃m c,ZaQ (l.drop s.r.at_) 0 0=(m,c):=⟨_,_,rfl⟩;have hn:Zds l s=(if c=0 then -1 else(m:Int),s.go c):=by unfold Zds;rw[hm]
 have q:(125:UInt8)≠92:=by decide
 have y:(44:UInt8)≠92:=by decide
 unfold ZlJ Zd8 Zp9;rw[hn,hm];simp only[Zcz,ZkI q,ZkI y,List.length_singleton];by_cases hc:c=0
 ·subst hc;have e1:(if 255<m then((0,0):Nat×Nat)else(m,0)).2=0:=by split<;>rfl
  rw[if_pos e1];exact Zfl (.inr (.inr (.inl (by simp))))
 ·simp only[hc,if_false];by_cases i:255<m
  ·rw[if_pos i];simp only[if_true];exact Zfl (.inl (by omega))
  ·simp only[if_neg i,hc,if_false];have a:(m:Int)≤255:=by omega
   have g:(0:Int)≤m:=by omega
   by_cases hk:l[s.r.at_+c]? =some 44
   ·have o:l[(s.go c).r.at_]? =some 44:=hk;have n:Zcp l (s.go c) (m:Int)=Zds l ((s.go c).go 1):=by unfold Zcp;rw[if_pos ⟨g,o⟩]
    rw[n];obtain⟨x,d,hx⟩:∃x d,ZaQ (l.drop (s.r.at_+c+1)) 0 0=(x,d):=⟨_,_,rfl⟩;have B:Zds l ((s.go c).go 1)=(if d=0 then -1 else(x:Int),((s.go c).go 1).go d):=by
     unfold Zds;rw[show((s.go c).go 1).r.at_=s.r.at_+c+1 from rfl,hx]
    rw[B,hx];simp only[hk,decide_true,if_true];have v:∀j,j=s.r.at_+c+1+d+1→(((s.go c).go 1).go d).go 1=s.to j:=fun j h=>by subst h;rfl
    have f:(((s.go c).go 1).go d).r.at_=s.r.at_+c+1+d:=rfl;by_cases e:255<x
    ·have hd:d≠0:=by
      intro h0;subst h0;obtain⟨b,t,ht,u,k⟩:=Zfa hx (by omega);rw[ht,ZaQ,if_pos ⟨u,k,by decide⟩]at hx;have:=num3_ge t 1 (0*10+(b.toNat-48));rw[hx]at this;simp at this
     obtain⟨b,t,ht,u,k⟩:=Zfa hx (by omega);have C:¬l[s.r.at_+c+1]? =some 125:=by
      have:l[s.r.at_+c+1]? =(l.drop (s.r.at_+c+1))[0]? :=by simp
      rw[this,ht];simp only[List.getElem?_cons_zero,Option.some.injEq];rintro rfl;simp at k
     simp only[if_pos e,Nat.lt_irrefl,if_false,hd,Nat.add_zero];rw[if_pos (.inl (by simp[C]))];exact Zfl (.inr (.inl (by omega)))
    ·simp only[if_neg e];by_cases hd:d=0
     ·subst hd;simp only[Nat.lt_irrefl,if_false,Nat.add_zero,if_true];unfold Zcq;rw[f,Nat.add_zero];by_cases hb:l[s.r.at_+c+1]? =some 125
      ·have e1:¬((0:Int)≤ -1∧(-1:Int)<m):=by omega
       rw[if_neg (by simp[hb]),if_pos ⟨g,hb⟩];simp[a,v]
      ·rw[if_pos (by simp[hb]),if_neg (fun h=>hb h.2)]
     ·have z:0<d:=by omega
      simp only[z,if_true,hd,if_false];unfold Zcq;rw[f];have D:(x:Int)≤255:=by omega
      by_cases hb:l[s.r.at_+c+1+d]? =some 125
      ·rw[if_pos (⟨g,hb⟩:(0:Int)≤m∧_)];by_cases A:(x:Int)<m
       ·have w:(0:Int)≤x:=by omega
        have p:¬(m:Int)≤x:=by omega
        have E:¬(x:Int)<0:=by omega
        rw[if_pos (.inr ⟨w,A⟩)];simp[p,E]
       ·have p:(m:Int)≤x:=by omega
        rw[if_neg (by simp[hb];omega)];simp only[v _ rfl];simp[a,D,p]
      ·rw[if_pos (by simp[hb]),if_neg (fun h=>hb h.2)]
   ·have o:¬l[(s.go c).r.at_]? =some 44:=hk;have n:Zcp l (s.go c) (m:Int)=((m:Int),s.go c):=by unfold Zcp;rw[if_neg (fun h=>o h.2)]
    rw[n];simp only[hk,decide_false,Bool.false_eq_true,if_false];have f:(s.go c).r.at_=s.r.at_+c:=rfl;unfold Zcq;rw[f];by_cases hb:l[s.r.at_+c]? =some 125
    ·rw[if_neg (by simp[hb]),if_pos ⟨g,hb⟩];simp[a,ES.go,ES.to,RxS.go,RxS.to]
    ·rw[if_pos (by simp[hb]),if_neg (fun h=>hb h.2)]
section
variable {l:List UInt8}
theorem repX_D:∀(n:Nat) (r:RxS) (t:Nd),Rl l (Ze8 prg true l n r t) (ZbR l n ⟨r,none⟩ t)
 |0,r,t=>rfl
 |n+1,r,t=>by
  rw[Ze8,ZbR];simp only[Zcz,ZbS (show(42:UInt8)≠92 by decide),ZbS (show(43:UInt8)≠92 by decide),ZbS (show(63:UInt8)≠92 by decide),ZbS (show(123:UInt8)≠92 by decide),decide_eq_true_eq,if_true,List.length_singleton];split
  ·exact repX_D n _ _
  ·split
   ·exact repX_D n _ _
   ·split
    ·exact repX_D n _ _
    ·split
     ·have hi:=Zpz (l:=l) (s:=(⟨r,none⟩:ES).go 1);rw[show((⟨r,none⟩:ES).go 1).r.at_=r.at_+1 from rfl]at hi;cases hd:ZlJ l true (r.at_+1)with
      |none=>
       rw[hd]at hi;simp only at hi;simp only[hi,Bool.false_eq_true,if_false];refine⟨?_,rfl⟩;show some (Option.getD _ _)=_;rw[Zpy];rfl
      |some q=>
       obtain⟨m,x,j⟩:=q;rw[hd]at hi;simp only at hi;simp only[hi,if_true];exact repX_D n _ _
     ·rfl
theorem Zml{b:UInt8}{c:S4}{m:Bool}(hb:¬(49≤b.toNat∧b.toNat≤57))(h:ZjI b=some (c,m)):ZdK b=m:=by
 have hd:(decide (49≤b.toNat)&&decide (b.toNat≤57))=false:=by
  cases hq:(decide (49≤b.toNat)&&decide (b.toNat≤57))with
  |false=>rfl
  |true=>simp at hq;exact absurd hq hb
 unfold ZjI at h;unfold ZdK;rw[hd];split at h
 ·next e=>subst e;simp only[Option.some.injEq,Prod.mk.injEq]at h;obtain⟨_,rfl⟩:=h;decide
 ·split at h
  ·next e=>subst e;simp only[Option.some.injEq,Prod.mk.injEq]at h;obtain⟨_,rfl⟩:=h;decide
  ·split at h
   ·next e=>subst e;simp only[Option.some.injEq,Prod.mk.injEq]at h;obtain⟨_,rfl⟩:=h;decide
   ·split at h
    ·next e=>subst e;simp only[Option.some.injEq,Prod.mk.injEq]at h;obtain⟨_,rfl⟩:=h;decide
    ·split at h
     ·next e=>subst e;simp only[Option.some.injEq,Prod.mk.injEq]at h;obtain⟨_,rfl⟩:=h;decide
     ·split at h
      ·next e=>subst e;simp only[Option.some.injEq,Prod.mk.injEq]at h;obtain⟨_,rfl⟩:=h;decide
      ·split at h
       ·simp only[Option.some.injEq,Prod.mk.injEq]at h;obtain⟨_,rfl⟩:=h;simp[*]
       ·cases h
theorem ZpA{r:RxS}{b:UInt8}(h:l[r.at_+1]? =some b):Rl l (escD prg true r b) (ZkG l ⟨r,none⟩):=by
 unfold escD ZkG;simp only[h];split
 ·next hd=>
  have hm:ZdK b=true:=by unfold ZdK;simp[hd.1,hd.2]
  simp only[hm,if_true];split
  ·rfl
  ·exact⟨rfl,rfl⟩
 ·next hd=>
  cases he:ZjI b with
  |none=>cases ZdK b<;>exact⟨rfl,rfl⟩
  |some q=>
   obtain⟨c,m⟩:=q;simp only[Zml hd he];cases m<;>rfl
variable {C:Option (RxS→Out Nd)} {D:Option (ES→Nd×ES)} (hC:match C,D with|none,none=>True|some f,some g=>∀r,Rl l (f r) (g ⟨r,none⟩)|_,_=>False)
include hC
theorem Zmm(r:RxS):Rl l (Zct prg true l C r) (ZbA l D ⟨r,none⟩):=by
 unfold Zct ZbA
 match C,D,hC with
 |none,none,_=>exact⟨rfl,rfl⟩
 |some f,some g,hC=>
  simp only[Zcz,List.length_singleton,ZbS (show(41:UInt8)≠92 by decide),decide_eq_true_eq];have h:=hC {r.go 1 with opened:=r.opened+1};have hg:ZdB ⟨r,none⟩=⟨{r.go 1 with opened:=r.opened+1},none⟩:=rfl;rw[hg];cases hf:f {r.go 1 with opened:=r.opened+1}with
  |inl e=>rw[hf]at h;exact Zcr.out h _ _
  |inr q=>
   obtain⟨t,r1⟩:=q;rw[hf]at h;have h:g _=_:=h;rw[h];simp only;unfold Zcu;split
   ·rfl
   ·exact⟨rfl,rfl⟩
theorem Zn5(r:RxS){c:UInt8}(h:l[r.at_]? =some c):Rl l (ZcS prg true l C r) (Zax l D ⟨r,none⟩ c):=by
 have hs:∀b:UInt8,b≠92→(sgn l r.at_==[b])=decide (c=b):=fun b hb=>by rw[ZbS hb,h];simp
 unfold ZcS Zax;simp only[Zcz,hs 40 (by decide),hs 41 (by decide),hs 91 (by decide),hs 46 (by decide),decide_eq_true_eq];by_cases e:c=40
 ·simp only[e,if_true];exact Zmm hC r
 ·simp only[if_neg e];by_cases f:c=41
  ·simp only[f,if_true];exact⟨rfl,rfl⟩
  ·simp only[if_neg f];by_cases d:c=92
   ·subst d;simp only[show¬(92:UInt8)=91 by decide,show¬(92:UInt8)=46 by decide,if_false,if_true];cases h2:l[r.at_+1]? with
    |none=>
     have a:sgn l r.at_=[92]:=by unfold sgn;rw[h];simp only[if_true,h2]
     rw[a];unfold ZkG;simp only[h2];exact⟨rfl,rfl⟩
    |some b=>
     have a:sgn l r.at_=[92,b]:=by unfold sgn;rw[h];simp only[if_true,h2]
     rw[a];have:([92,b]==[(92:UInt8)])=false:=by simp
     simp only[this,Bool.false_eq_true,if_false];exact ZpA h2
   ·simp only[if_neg d];have a:sgn l r.at_=[c]:=by unfold sgn;rw[h];simp only[if_neg d]
    rw[a];by_cases i:c=91
    ·simp only[i,if_true];cases prs l (r.at_+1)with
     |inl z=>exact⟨rfl,rfl⟩
     |inr y=>rfl
    ·simp only[if_neg i];by_cases g:c=46
     ·simp only[g,if_true];rfl
     ·have:([c]==[(92:UInt8)])=false:=by simp[d]
      simp only[if_neg g,this,Bool.false_eq_true,if_false];rfl
theorem Zmn{inner:Bool}:∀(n:Nat) (first front:Bool) (r:RxS) (ps:List Nd),Rl l (brD prg true l C inner n first front r ps) (brX l D inner n front ⟨r,none⟩ ps)
 |0,first,front,r,ps=>rfl
 |n+1,first,front,r,ps=>by
  rw[brD,brX];simp only[Zcz,Bool.true_or,Bool.and_true,Bool.true_and];cases h:l[r.at_]? with
  |none=>
   have hsg:sgn l r.at_=[]:=by unfold sgn;rw[h]
   simp only[hsg,beq_self_eq_true,Bool.true_or,if_true];rfl
  |some c=>
   have hs:∀b:UInt8,b≠92→(sgn l r.at_==[b])=decide (c=b):=fun b hb=>by rw[ZbS hb,h];simp
   have d:(sgn l r.at_==[])=false:=by rw[Ze9];have:=ZK h;simp;omega
   simp only[hs 124 (by decide),hs 41 (by decide),hs 94 (by decide),hs 36 (by decide),hs 123 (by decide),hs 43 (by decide),hs 63 (by decide),hs 42 (by decide),d,Bool.false_or,Bool.or_eq_true,Bool.and_eq_true,decide_eq_true_eq];by_cases h1:(c=41∧inner=true)∨c=124
   ·rw[if_pos h1,if_pos (h1.symm)];rfl
   ·rw[if_neg h1,if_neg (fun h=>h1 h.symm)];by_cases h2:c=94
    ·rw[if_pos h2,if_pos h2];exact Zmn n _ _ _ _
    ·rw[if_neg h2,if_neg h2];by_cases h3:c=36
     ·rw[if_pos h3,if_pos h3];exact Zmn n _ _ _ _
     ·rw[if_neg h3,if_neg h3];by_cases h4:c=41
      ·have hf:Zd9 l front ⟨r,none⟩ c=ES.fail l ⟨r,none⟩ 8 r.at_:=by unfold Zd9;rw[if_pos h4]
       rw[hf];have ha:ZcS prg true l C r=.inl (8,r.at_):=by
        unfold ZcS;simp only[Zcz,hs 40 (by decide),hs 41 (by decide),h4];rfl
       rw[ha];have:¬(front=true∧(c=123∨c=43∨c=63∨c=42)):=by subst h4;simp
       rw[if_neg this];exact⟨rfl,rfl⟩
      ·by_cases h5:front=true∧(c=123∨c=43∨c=63∨c=42)
       ·have hf:Zd9 l front ⟨r,none⟩ c=ES.fail l ⟨r,none⟩ 10 r.at_:=by
         unfold Zd9;rw[if_neg h4,if_pos ⟨by rcases h5.2 with h|h|h|h<;>simp[h],h5.1⟩]
        rw[hf,if_pos h5];exact⟨rfl,rfl⟩
       ·have hf:Zd9 l front ⟨r,none⟩ c=⟨r,none⟩:=by
         unfold Zd9;rw[if_neg h4,if_neg (fun h=>h5 ⟨h.2,by rcases h.1 with h|h|h|h<;>simp[h]⟩)]
        rw[hf,if_neg h5];simp only[Option.isSome_none,Bool.false_eq_true,if_false];have ha:=Zn5 hC r h;cases hd:ZcS prg true l C r with
        |inl e=>
         rw[hd]at ha;have ha:Zcr l e _:=ha;simp only;rw[ha.rep];rw[ha.br];exact ha
        |inr q=>
         obtain⟨t,r1⟩:=q;rw[hd]at ha;have ha:Zax l D ⟨r,none⟩ c=_:=ha;rw[ha];simp only;have hr:=repX_D (l:=l) (l.length+1) r1 t;cases a:Ze8 prg true l (l.length+1) r1 t with
         |inl e=>
          rw[a]at hr;have hr:Zcr l e _:=hr;simp only;rw[hr.br];exact hr
         |inr q=>
          obtain⟨t2,r2⟩:=q;rw[a]at hr;have hr:ZbR l _ ⟨r1,none⟩ t=_:=hr;rw[hr];exact Zmn n _ _ _ _
theorem Zf9{inner:Bool}(r:RxS):Rl l (Zb7 prg true l C inner r) (Zab l D inner ⟨r,none⟩):=Zmn hC _ _ _ _ _
theorem Zga{inner:Bool}:∀(n:Nat) (r:RxS) (ts:List Nd),Rl l (Zar prg true l C inner n r ts) (Zat l D inner n ⟨r,none⟩ ts)
 |0,r,ts=>rfl
 |n+1,r,ts=>by
  rw[Zar,Zat];simp only[Zcz,ZbS (show(124:UInt8)≠92 by decide),decide_eq_true_eq,if_true,List.length_singleton];split
  ·have hb:=Zf9 hC (inner:=inner) (r.go 1);cases hd:Zb7 prg true l C inner (r.go 1)with
   |inl e=>
    rw[hd]at hb;have hb:Zcr l e (Zab l D inner ((⟨r,none⟩:ES).go 1)).2:=hb;simp only;rw[hb.loop];exact hb
   |inr q=>
    obtain⟨t,r1⟩:=q;rw[hd]at hb;have hb:Zab l D inner ((⟨r,none⟩:ES).go 1)=_:=hb;rw[hb];exact Zga n _ _
  ·rfl
theorem Zgb{inner:Bool}(r:RxS):Rl l (choiceD prg true l C inner r) (Zb8 l D inner ⟨r,none⟩):=by
 unfold choiceD Zb8;have hb:=Zf9 hC (inner:=inner) r;cases hd:Zb7 prg true l C inner r with
 |inl e=>
  rw[hd]at hb;have hb:Zcr l e _:=hb;simp only;rw[hb.loop];exact hb
 |inr q=>
  obtain⟨t,r1⟩:=q;rw[hd]at hb;have hb:Zab l D inner ⟨r,none⟩=_:=hb;rw[hb];exact Zga hC _ _ _
end
theorem ZpB{l:List UInt8}:∀(n:Nat) (r:RxS),Rl l (chD prg true l n r) (chX l n ⟨r,none⟩)
 |0,r=>by rw[chD,chX];exact Zgb (C:=none) (D:=none) trivial r
 |n+1,r=>by rw[chD,chX];exact Zgb (C:=some (chD prg true l n)) (D:=some (chX l n)) (ZpB n) r
open Go.Lib (hid)
def Zbk(l:List UInt8):List Value:=l.map fun c=>.int .i32 (c.toNat:Int)
def eX(x:Option (Int×Nat)):Int:=match x with|none=>0|some z=>z.1
def pX(x:Option (Int×Nat)):Int:=match x with|none=>0|some z=>(z.2:Int)
abbrev erC(l:List UInt8)(s:ES)(sv:Value)(m:Nat)(mv:Value):Array Value:=
 #[.string ⟨l.toArray⟩,sv,.int .i64 s.r.at_,.int .i64 s.r.opened,.map (some m),mv,.int .i64 (eX s.x),.int .i64 (pX s.x)]
structure Er(b:Nat)(l:List UInt8)(s:ES)(S:Nat→Prop)(sv:Value)(m:Nat)(mv:Value)(w:World):Prop where
 blk:w.heap[b]? =some (.cells (erC l s sv m mv) 93 (0,0))
 sg:w.ownsRow 0 21 1 sv l.length (Zbk l)
 mp:IMap w m s.r.closed
 ma:OwM w s.r.marks mv
 nm:∀k,mv.ownBlock=some k→k≠b∧k≠m∧S k
 bm:b≠m
 ns:∀k,sv.ownBlock=some k→k<b∧¬S k
 me:S b
 mm:S m
 ok:∀z,s.x=some z→z.1≠0
def Erd(b:Nat)(l:List UInt8)(s:ES)(S:Nat→Prop)(w:World):Prop:=∃sv m mv,Er b l s S sv m mv w
section
variable {b:Nat} {l:List UInt8} {s:ES} {S:Nat→Prop} {sv:Value} {m:Nat} {mv:Value} {w w':World}
theorem Er.on(h:Er b l s S sv m mv w)(f:Fr nob w w'):Er b l s S sv m mv w':=
 ⟨f.heap h.blk (fun x=>x),ownsRow_fr h.sg f (fun _ _ x=>x),h.mp.fr f (fun x=>x),ownsRow_fr h.ma f (fun _ _ x=>x),h.nm,h.bm,h.ns,h.me,h.mm,h.ok⟩
theorem Erd.on(h:Erd b l s S w)(f:Fr nob w w'):Erd b l s S w':=by obtain⟨sv,m,mv,h⟩:=h;exact⟨sv,m,mv,h.on f⟩
theorem Er.turned(h:Er b l s S sv m mv w)(j:Nat)(u:Value)(s':ES)(hj:(erC l s sv m mv).setIfInBounds j u=erC l s' sv m mv)(hc:s'.r.closed=s.r.closed)(hm:s'.r.marks=s.r.marks)(hx:∀z,s'.x=some z→z.1≠0):
 Er b l s' S sv m mv (w.setCell ⟨b,j,none⟩ u):=by
 have hf:=(Fr.refl (fun k=>k=b) w).setCell (p:=⟨b,j,none⟩) (fun _=>rfl) u;have hb:=Za h.blk j u;rw[hj]at hb;exact⟨hb,ownsRow_fr h.sg hf (fun k hk e=>(h.ns k hk).2 (by rw[e];exact h.me)),by rw[hc];exact h.mp.fr hf (fun e=>h.bm e.symm),by rw[hm];exact ownsRow_fr h.ma hf (fun k hk e=>(h.nm k hk).1 e),h.nm,h.bm,
  h.ns,h.me,h.mm,hx⟩
theorem Er.stp(h:Er b l s S sv m mv w)(j:Nat)(u:Value):Stp S w S (w.setCell ⟨b,j,none⟩ u):=
 ⟨(Fr.refl S w).setCell (p:=⟨b,j,none⟩) (fun _=>h.me) u,fun _ _ x=>x,fun hl k hk=>by have:=hl k hk;simpa[World.setCell]using this⟩
theorem Er.sign(h:Er b l s S sv m mv w){k:Nat}{c:UInt8}(hk:l[k]? =some c):∃g cap,sv=.slice (some ⟨g,0,none⟩) l.length cap∧∀w',Fr nob w w'→w'.cell? ⟨g,k,none⟩=some (.int .i32 (c.toNat:Int)):=by
 obtain⟨hl,hs⟩:=h.sg;rcases hs with⟨rfl,h0⟩|⟨g,cap,d,rfl,_,hr,hn,_,_,a⟩
 ·rw[List.length_eq_zero_iff.1 h0]at hk;cases hk
 ·refine⟨g,cap,rfl,fun w' f=>f.cell (cell_at hr ?_) (fun x=>x)⟩;have:(d.toList.take (l.length*1))[k]? =(Zbk l)[k]? :=by rw[a]
  rw[List.getElem?_take,if_pos (by have:=ZK hk;omega)]at this;rw[←Array.getElem?_toList,this];simp[Zbk,hk]
end
def rnX(o:Option UInt8):Int:=match o with|none=> -1|some c=>(c.toNat:Int)
theorem Zgc(b:Nat)(l:List UInt8)(s:ES)(S:Nat→Prop)(n:Nat)(w:World)(hl:l.length≤100000)(ha:s.r.at_≤l.length)(hn:n≤10)(h:Erd b l s S w):
 Calls prog 125 #[.pointer (some ⟨b,0,none⟩),.int .i64 n] w fun x w'=>x=.returned (.int .i32 (rnX l[s.r.at_+n]?))∧Fr nob w w':=by
 obtain⟨sv,m,mv,h⟩:=h;have rr:=Zae h.blk;cases hk:l[s.r.at_+n]? with
 |none=>
  have e:(l.length:Int)≤(s.r.at_:Int)+n:=by have:=List.getElem?_eq_none_iff.1 hk;omega
  obtain⟨a,c,rfl⟩:=Zb h.sg;clear h hk;go_enter func125,ntmps125;go_wp2_with fail;refine region_fr 11 (by kernel_rfl) (by kernel_rfl) ?_;simp only[List.take_succ_cons,List.take_zero,List.drop_succ_cons,List.drop_zero]
  repeat(quiet_step (fail))
  refine wpQuiet_nil ?_;intro wC fC;go_wp2;go_ret;exact⟨rfl,fC⟩
 |some c=>
  have k:=ZK hk;have e:¬(l.length:Int)≤(s.r.at_:Int)+n:=by omega
  have h1:(0:Int)≤(s.r.at_:Int)+n:=by omega
  have h2:(s.r.at_:Int)+n<l.length:=by omega
  have h3:((s.r.at_:Int)+n).toNat=s.r.at_+n:=by omega
  obtain⟨g,i,rfl,hc⟩:=h.sign hk;clear h hk;go_enter func125,ntmps125;go_wp2_with fail;refine region_fr 11 (by kernel_rfl) (by kernel_rfl) ?_;simp only[List.take_succ_cons,List.take_zero,List.drop_succ_cons,List.drop_zero]
  repeat(quiet_step (fail))
  refine wpQuiet_nil ?_;intro wC fC;have o:=rr wC fC;have p:=fun W (f:Fr nob wC W)=>rr W (fC.trans' f);have d:=fun W (f:Fr nob wC W)=>hc W (fC.trans' f);clear rr hc;go_wp2_with fail;refine region_fr 10 (by kernel_rfl) (by kernel_rfl) ?_;simp only[List.take_succ_cons,List.take_zero,List.drop_succ_cons,List.drop_zero]
  repeat(quiet_step (fail))
  refine wpQuiet_nil ?_;intro wD fD;have j:=d wD fD;go_wp2;go_ret;exact⟨rfl,fC.trans' fD⟩
theorem Zea(b:Nat)(l:List UInt8)(s:ES)(S:Nat→Prop)(w:World)(hl:l.length≤100000)(ha:s.r.at_≤l.length)(h:Erd b l s S w):
 Calls prog 97 #[.pointer (some ⟨b,0,none⟩)] w fun x w'=>x=.returned (.int .i32 (rnX l[s.r.at_]?))∧Fr nob w w':=by
 have hB:=Zgc b l s S 0 w hl ha (by omega) h;rw[Nat.add_zero]at hB;have HB:=hid hB;clear hB;go_enter func97,ntmps97;go_wp2_with fail;refine HB.out.mono ?_;rintro e w1 ⟨rfl,f1⟩;go_wp2;go_ret;exact⟨rfl,f1⟩
theorem ZpC{o:Option UInt8}{c:UInt8}:(rnX o=(c.toNat:Int))↔o=some c:=by
 cases o with
 |none=>exact⟨fun h=>by simp only[rnX]at h;omega,fun h=>by cases h⟩
 |some d=>
  simp only[rnX,Option.some.injEq];constructor
  ·intro h;exact UInt8.toNat_inj.1 (by omega)
  ·rintro rfl;rfl
theorem rnX_test(o:Option UInt8)(c:UInt8)(k:Int)(hk:k=(c.toNat:Int)):(rnX o==k)=decide (o=some c):=by
 subst hk;by_cases h:o=some c
 ·simp[h,rnX]
 ·have:¬rnX o=(c.toNat:Int):=fun e=>h (ZpC.1 e);simp[h,this]
theorem Zfm(b:Nat)(l:List UInt8)(c:UInt8)(s:ES)(S:Nat→Prop)(w:World)(hl:l.length≤100000)(ha:s.r.at_≤l.length)(h:Erd b l s S w):
 Calls prog 59 #[.pointer (some ⟨b,0,none⟩),.int .i32 (c.toNat:Int)] w fun x w'=>
  x=.returned (.bool (decide (l[s.r.at_]? =some c)))∧Erd b l (if l[s.r.at_]? =some c then s.go 1 else s) S w'∧Stp S w S w':=by
 have HN:=hid (Zea b l s S w hl ha h);obtain⟨sv,m,mv,h⟩:=h;have HE:=hid h;clear h;have ht:=rnX_test l[s.r.at_]? c _ rfl;by_cases hc:l[s.r.at_]? =some c
 ·have a:=ZK hc;rw[decide_eq_true hc]at ht⊢;rw[if_pos hc];obtain⟨R,hR⟩:∃R,rnX l[s.r.at_]? =R:=⟨_,rfl⟩;rw[hR]at ht HN;clear hc hR;go_enter func59,ntmps59;go_wp2_with fail;refine HN.out.mono ?_;rintro e w1 ⟨rfl,f1⟩;have h1:=HE.out.on f1;have r1:=Zae h1.blk _ (Fr.refl _ _);have H1:=hid h1;have F1:=hid f1;clear h1 f1;go_wp2;go_ret;exact⟨rfl,⟨sv,m,mv,H1.out.turned 2 _ (s.go 1) (by simp[ES.go,RxS.go]) rfl rfl H1.out.ok⟩,(Stp.of F1.out).trans (H1.out.stp 2 _)⟩
 ·rw[decide_eq_false hc]at ht⊢;rw[if_neg hc];obtain⟨R,hR⟩:∃R,rnX l[s.r.at_]? =R:=⟨_,rfl⟩;rw[hR]at ht HN;clear hc hR;go_enter func59,ntmps59;go_wp2_with fail;refine HN.out.mono ?_;rintro e w1 ⟨rfl,f1⟩;go_wp2;go_ret;exact⟨rfl,⟨sv,m,mv,HE.out.on f1⟩,Stp.of f1⟩
theorem Za4(b:Nat)(l:List UInt8)(s:ES)(S:Nat→Prop)(z:Int)(p:Nat)(w:World)(hl:l.length≤100000)(hz:z≠0)(h:Erd b l s S w):
 Calls prog 98 #[.pointer (some ⟨b,0,none⟩),.int .i64 z,.int .i64 (p:Nat)] w fun x w'=>
  x=.returned (.tuple #[])∧Erd b l (s.fail l z p) S w'∧Stp S w S w':=by
 obtain⟨sv,m,mv,h⟩:=h;obtain⟨a,cp,rfl⟩:=Zb h.sg;cases hx:s.x with
 |none=>
  have c:eX s.x=0:=by rw[hx];rfl
  have h1:=h.turned 6 (.int .i64 z) ⟨s.r,some (z,0)⟩ (by simp[eX,pX,hx]) rfl rfl (fun q hq=>by injection hq with hq;subst hq;exact hz);have h2:=h1.turned 7 (.int .i64 (p:Nat)) ⟨s.r,some (z,p)⟩ (by simp[eX,pX]) rfl rfl (fun q hq=>by injection hq with hq;subst hq;exact hz);have h3:=h2.turned 2 (.int .i64 (l.length:Nat)) (s.fail l z p) (by simp[ES.fail,RxS.to,hx,eX,pX]) rfl rfl (fun q hq=>by simp[ES.fail,hx]at hq;subst hq;exact hz);have st:=((h.stp 6 (.int .i64 z)).trans (h1.stp 7 (.int .i64 (p:Nat)))).trans (h2.stp 2 (.int .i64 (l.length:Nat)));have r0:=Zae h.blk _ (Fr.refl _ _);have r1:=Zae h1.blk _ (Fr.refl _ _);have r2:=Zae h2.blk _ (Fr.refl _ _);rw[c]at r0;have H3:=hid h3;have ST:=hid st;clear h h1 h2 h3 st c hx;go_enter func98,ntmps98;go_wp2
  go_end0
  exact⟨rfl,⟨_,m,mv,H3.out⟩,ST.out⟩
 |some q=>
  have c:¬eX s.x=0:=by rw[hx];exact h.ok q hx
  have h3:=h.turned 2 (.int .i64 (l.length:Nat)) (s.fail l z p) (by simp[ES.fail,RxS.to,hx]) rfl rfl (fun q' hq=>by simp[ES.fail,hx]at hq;subst hq;exact h.ok q hx);have st:=h.stp 2 (.int .i64 (l.length:Nat));have r0:=Zae h.blk _ (Fr.refl _ _);have H3:=hid h3;have ST:=hid st;clear h h3 st hx;obtain⟨E,hE⟩:∃E,eX s.x=E:=⟨_,rfl⟩;rw[hE]at c r0;clear hE;go_enter func98,ntmps98;go_wp2
  go_end0
  exact⟨rfl,⟨_,m,mv,H3.out⟩,ST.out⟩
def nE(n c:Nat):Int:=if c=0 then -1 else(n:Int)
theorem ZpD(n c:Nat)(h:c=0→n=0):max (nE n c) 0=(n:Int):=by
 unfold nE;split
 ·next e=>rw[h e];rfl
 ·omega
theorem Zqv{n c:Nat}(h:n<1000): -1≤nE n c∧nE n c<1000:=by unfold nE;split<;>omega
theorem Zgd(b:Nat)(l:List UInt8)(s:ES)(S:Nat→Prop)(w:World)(hl:l.length≤100000)(ha:s.r.at_≤l.length)(h:Erd b l s S w):
 Calls prog 151 #[.pointer (some ⟨b,0,none⟩)] w fun x w'=>x=.returned (.int .i64 (Zds l s).1)∧Erd b l (Zds l s).2 S w'∧Stp S w S w':=by
 obtain⟨F,hF⟩:∃F,ZaQ (l.drop s.r.at_) 0 0=F:=⟨_,rfl⟩;have hN:Zds l s=(nE F.1 F.2,s.go F.2):=by unfold Zds nE;rw[hF]
 rw[hN];have HF:=hid hF;have HH:=hid h;clear hF hN h;go_enter func151,ntmps151;go_wp2_with fail
 go_loopw [3,4] (fun v3 v4 wr=>∃n c:Nat,v3=.int .i64 (nE n c)∧v4=.int .i64 c∧c≤3∧n<p10 c∧(c=0→n=0)∧s.r.at_+c≤l.length∧ZaQ (l.drop (s.r.at_+c)) c n=F∧Erd b l (s.go c) S wr∧Stp S w S wr) (fun _ c _=>4-(intOf c).toNat)
 case atStart=>exact⟨0,0,rfl,rfl,by omega,by decide,fun _=>rfl,by omega,HF.out,HH.out,Stp.refl _ _⟩
 case round=>
  clear HF HH;obtain⟨n,c,rfl,rfl,hc,hn,B,A,hb,hr,q⟩:=hrel;have hp:=Zkr hc;have i:n<1000:=by omega
  obtain⟨G,H⟩:=Zqv (c:=c) i;have HR:=hid hr;have g:=hid q;have HB:=hid hb;clear hr q hb;have HN:=hid (fun(w':World) (f:Fr nob wr w')=>Zea b l (s.go c) S w' hl A (HR.out.on f));by_cases h3:c<3
  ·have v:(c:Int)<3:=by omega
   by_cases hd:∃x:UInt8,l[s.r.at_+c]? =some x∧48≤x.toNat
   ·obtain⟨x,hx,z⟩:=hd;have a:=ZK hx;have d:l[s.r.at_+c]=x:=by rw[List.getElem?_eq_getElem a]at hx;injection hx
    have hR:∀w',Fr nob wr w'→Calls prog 97 #[.pointer (some ⟨b,0,none⟩)] w' fun y w2=>y=.returned (.int .i32 (x.toNat:Int))∧Fr nob w' w2:=fun w' f=>by
     have:=HN.out w' f;rw[show(s.go c).r.at_=s.r.at_+c from rfl,hx]at this;exact this
    have HX:=hid hR;clear hR HN;have D:(48:Int)≤x.toNat:=by omega
    have C:=x.toNat_lt;by_cases j:x.toNat≤57
    ·have k:(x.toNat:Int)≤57:=by omega
     have hb:=HB.out;rw[ZfY a (by rw[d];exact⟨z,j,by omega⟩),d]at hb;have p:=Zih c;have o:=ZpD n c B;have t:=hid hb;have HP:=hid p;have u:=hid o;clear hb p HB o d hx;go_wp2_with fail;refine(HX.out wr (Fr.refl _ _)).mono ?_;rintro e w1 ⟨rfl,f1⟩;have F1:=hid f1;clear f1;go_wp2_with fail;refine(HX.out w1 F1.out).mono ?_;rintro e w2 ⟨rfl,f2⟩;have F2:=hid (F1.out.trans' f2);clear f2;go_wp2_with fail;refine(HX.out w2 F2.out).mono ?_;rintro e w3 ⟨rfl,f3⟩;have F3:=hid (F2.out.trans' f3);clear f3;have h3:=HR.out.on F3.out;obtain⟨sv,m,mv,h3⟩:=h3;have r3:=Zae h3.blk _ (Fr.refl _ _);rw[show(s.go c).r.at_=s.r.at_+c from rfl]at r3;have H3:=hid h3;clear h3;have I:IntKind.i32.wrap ((x.toNat:Int)-48)=(x.toNat:Int)-48:=IntWalk.i32_in _ (by omega);have J:IntKind.i64.wrap ((x.toNat:Int)-48)=(x.toNat:Int)-48:=IntWalk.i64_in _ (by omega);go_wp2;go_roundw
     case rel=>
      refine⟨n*10+(x.toNat-48),c+1,?_,by go_num,by omega,by rw[HP.out];omega,by omega,by omega,by have:=t.out;rwa[show s.r.at_+(c+1)=s.r.at_+c+1 from by omega],⟨sv,m,mv,H3.out.turned 2 _ (s.go (c+1)) (by simp[ES.go,RxS.go];omega) rfl rfl H3.out.ok⟩,(g.out.trans (Stp.of F3.out)).trans (H3.out.stp 2 _)⟩;rw[u.out,show nE (n*10+(x.toNat-48)) (c+1)=((n*10+(x.toNat-48):Nat):Int)from if_neg (Nat.succ_ne_zero c)]
      congr 1;omega
     case measure=>simp[intOf];omega
    ·have k:¬(x.toNat:Int)≤57:=by omega
     have hb:=HB.out;rw[Zd5 a (by rw[d];exact fun h=>j h.2.1)]at hb;subst hb;clear HB d hx;go_wp2_with fail;refine(HX.out wr (Fr.refl _ _)).mono ?_;rintro e w1 ⟨rfl,f1⟩;have F1:=hid f1;clear f1;go_wp2_with fail;refine(HX.out w1 F1.out).mono ?_;rintro e w2 ⟨rfl,f2⟩;have F2:=hid (F1.out.trans' f2);clear f2;go_wp2;go_ret;exact⟨rfl,HR.out.on F2.out,g.out.trans (Stp.of F2.out)⟩
   ·have hn:=HN.out wr (Fr.refl _ _);rw[show(s.go c).r.at_=s.r.at_+c from rfl]at hn;have hb:=HB.out;obtain⟨R,hR,E⟩:∃R,rnX l[s.r.at_+c]? =R∧¬48≤R:=by
     cases hx:l[s.r.at_+c]? with
     |none=>exact⟨-1,rfl,by decide⟩
     |some x=>exact⟨x.toNat,rfl,fun h=>hd ⟨x,hx,by omega⟩⟩
    have hb:(n,c)=F:=by
     by_cases a:s.r.at_+c<l.length
     ·rw[Zd5 a (fun h=>hd ⟨_,List.getElem?_eq_getElem a,h.1⟩)]at hb;exact hb
     ·rw[Zff (by omega)]at hb;exact hb
    subst hb;rw[hR]at hn;have HX:=hid hn;clear HB HN hn hR;go_wp2_with fail;refine HX.out.mono ?_;rintro e w1 ⟨rfl,f1⟩;have F1:=hid f1;clear f1;go_wp2;go_ret;exact⟨rfl,HR.out.on F1.out,g.out.trans (Stp.of F1.out)⟩
  ·have v:¬(c:Int)<3:=by omega
   have hb:=HB.out;have hb:(n,c)=F:=by
    by_cases a:s.r.at_+c<l.length
    ·rw[Zd5 a (fun h=>by omega)]at hb;exact hb
    ·rw[Zff (by omega)]at hb;exact hb
   subst hb;clear HB HN;go_wp2;go_ret;exact⟨rfl,HR.out,g.out⟩
theorem ZkJ{l:List UInt8}{s:ES}(h:s.r.at_≤l.length): -1≤(Zds l s).1∧(Zds l s).1<1000∧(Zds l s).2.r.at_≤l.length:=by
 obtain⟨b1,b2,b3⟩:=Zdh l s.r.at_ h;refine⟨?_,?_,b3⟩
 ·unfold Zds;simp only;split<;>omega
 ·unfold Zds;simp only;split<;>omega
theorem Zhs(b:Nat)(l:List UInt8)(s:ES)(S:Nat→Prop)(w:World)(hl:l.length≤100000)(ha:s.r.at_≤l.length)(h:Erd b l s S w):
 Calls prog 126 #[.pointer (some ⟨b,0,none⟩)] w fun x w'=>
  x=.returned (.tuple #[.int .i64 (Zd8 l s).1,.int .i64 (Zd8 l s).2.1,.bool (Zd8 l s).2.2.1])∧Erd b l (Zd8 l s).2.2.2 S w'∧Stp S w S w':=by
 have h1:=Zgd b l s S w hl ha h;obtain⟨n1,n2,n3⟩:=ZkJ ha;unfold Zd8;obtain⟨mn,s1,hN⟩:∃mn s1,Zds l s=(mn,s1):=⟨_,_,rfl⟩;rw[hN]at h1 n1 n2 n3⊢;simp only at h1 n1 n2 n3⊢;obtain⟨mx,s2,hM⟩:∃mx s2,Zcp l s1 mn=(mx,s2):=⟨_,_,rfl⟩;rw[hM];simp only;obtain⟨ok,s3,hK⟩:∃ok s3,Zcq l mn mx s2=(ok,s3):=⟨_,_,rfl⟩;rw[hK];simp only;have H1:=hid h1;clear h1 hN h;by_cases h0:0≤mn
 ·have j:=hid (fun w' (f:Erd b l s1 S w')=>Zfm b l 44 s1 S w' hl n3 f);have p:∀(W:World),Erd b l s2 S W→Stp S w S W→s2.r.at_≤l.length→ -1≤mx→mx<1000→∃(y:Bool),Calls prog 59 #[.pointer (some ⟨b,0,none⟩),.int .i32 125] W (fun x w'=>x=.returned (.bool y)∧Erd b l s3 S w'∧Stp S w S w')∧(if y then decide (mn≤255)&&(decide (mx≤255)&&(decide (mx<0)||decide (mn≤mx)))else false)=ok:=by
   intro W hE hS t _ _;have hT:=Zfm b l 125 s2 S W hl t hE;by_cases hd:l[s2.r.at_]? =some 125
   ·rw[decide_eq_true hd,if_pos hd]at hT;unfold Zcq at hK;rw[if_pos ⟨h0,hd⟩]at hK;injection hK with q1 q2;exact⟨true,hT.mono fun x w' ⟨a,b,c⟩=>⟨a,by rw[←q2];exact b,hS.trans c⟩,q1⟩
   ·rw[decide_eq_false hd,if_neg hd]at hT;unfold Zcq at hK;rw[if_neg (fun h=>hd h.2)]at hK;injection hK with q1 q2;exact⟨false,hT.mono fun x w' ⟨a,b,c⟩=>⟨a,by rw[←q2];exact b,hS.trans c⟩,q1⟩
  have o:=hid p;clear p hK;by_cases hc:l[s1.r.at_]? =some 44
  ·have n:=ZK hc;have m:=hid (fun w' f=>(by have:=j.out w' f;rw[decide_eq_true hc]at this;simp only[if_pos hc]at this;exact this:Calls prog 59 #[.pointer (some ⟨b,0,none⟩),.int .i32 44] w' fun x w2=>x=.returned (.bool true)∧Erd b l (s1.go 1) S w2∧Stp S w' S w2));have i:Zds l (s1.go 1)=(mx,s2):=by rw[←hM];unfold Zcp;rw[if_pos ⟨h0,hc⟩]
   obtain⟨m1,m2,m3⟩:=ZkJ (l:=l) (s:=s1.go 1) n;have k:=hid (fun w' (f:Erd b l (s1.go 1) S w')=>Zgd b l (s1.go 1) S w' hl n f);rw[i]at k m1 m2 m3;simp only at k m1 m2 m3;clear hM i hc j n;go_enter func126,ntmps126;go_wp2_with fail;refine H1.out.mono ?_;rintro e w1 ⟨rfl,e1,t1⟩;have E1:=hid e1;have T1:=hid t1;clear e1 t1;go_wp2_with fail;refine(m.out w1 E1.out).mono ?_;rintro e w2 ⟨rfl,e2,t2⟩;have E2:=hid e2;have T2:=hid (T1.out.trans t2);clear e2 t2;go_wp2_with fail;refine(k.out w2 E2.out).mono ?_;rintro e w3 ⟨rfl,e3,t3⟩;have E3:=hid e3;have T3:=hid (T2.out.trans t3);clear e3 t3;obtain⟨y,hy,d⟩:=o.out w3 E3.out T3.out m3 m1 m2;have HY:=hid hy;have g:=hid d;clear hy d;go_wp2_with fail;refine HY.out.mono ?_;rintro e w4 ⟨rfl,e4,t4⟩;have E4:=hid e4;have T4:=hid t4;clear e4 t4;cases y with
   |false=>
    obtain rfl:false=ok:=g.out;go_wp2;go_ret3;exact⟨rfl,E4.out,T4.out⟩
   |true=>
    have d:(decide (mn≤255)&&(decide (mx≤255)&&(decide (mx<0)||decide (mn≤mx))))=ok:=g.out;subst d;clear g;by_cases c1:mn≤255
    ·by_cases c2:mx≤255
     ·by_cases c3:mx<0
      ·go_wp2;go_ret3;exact⟨by simp[c1,c2,c3],E4.out,T4.out⟩
      ·by_cases c4:mn≤mx
       ·go_wp2;go_ret3;exact⟨by simp[c1,c2,c3,c4],E4.out,T4.out⟩
       ·go_wp2;go_ret3;exact⟨by simp[c1,c2,c3,c4],E4.out,T4.out⟩
     ·go_wp2;go_ret3;exact⟨by first|(simp;done)|(simp;omega),E4.out,T4.out⟩
    ·go_wp2;go_ret3;exact⟨by first|(simp;done)|(simp;omega),E4.out,T4.out⟩
  ·have m:=hid (fun w' f=>(by have:=j.out w' f;rw[decide_eq_false hc]at this;simp only[if_neg hc]at this;exact this:Calls prog 59 #[.pointer (some ⟨b,0,none⟩),.int .i32 44] w' fun x w2=>x=.returned (.bool false)∧Erd b l s1 S w2∧Stp S w' S w2));have i:mn=mx∧s1=s2:=by
    unfold Zcp at hM;rw[if_neg (fun h=>hc h.2)]at hM;injection hM with q1 q2;exact⟨q1,q2⟩
   obtain⟨rfl,rfl⟩:=i;clear hM hc j;go_enter func126,ntmps126;go_wp2_with fail;refine H1.out.mono ?_;rintro e w1 ⟨rfl,e1,t1⟩;have E1:=hid e1;have T1:=hid t1;clear e1 t1;go_wp2_with fail;refine(m.out w1 E1.out).mono ?_;rintro e w2 ⟨rfl,e2,t2⟩;have E2:=hid e2;have T2:=hid (T1.out.trans t2);clear e2 t2;obtain⟨y,hy,d⟩:=o.out w2 E2.out T2.out n3 n1 n2;have HY:=hid hy;have g:=hid d;clear hy d;go_wp2_with fail;refine HY.out.mono ?_;rintro e w4 ⟨rfl,e4,t4⟩;have E4:=hid e4;have T4:=hid t4;clear e4 t4;cases y with
   |false=>
    obtain rfl:false=ok:=g.out;go_wp2;go_ret3;exact⟨rfl,E4.out,T4.out⟩
   |true=>
    have d:(decide (mn≤255)&&(decide (mn≤255)&&(decide (mn<0)||decide (mn≤mn))))=ok:=g.out;subst d;clear g;by_cases c1:mn≤255
    ·by_cases c2:mn≤255
     ·by_cases c3:mn<0
      ·go_wp2;go_ret3;exact⟨by simp[c1,c2,c3],E4.out,T4.out⟩
      ·by_cases c4:mn≤mn
       ·go_wp2;go_ret3;exact⟨by simp[c1,c2,c3,c4],E4.out,T4.out⟩
       ·go_wp2;go_ret3;exact⟨by simp[c1,c2,c3,c4],E4.out,T4.out⟩
     ·go_wp2;go_ret3;exact⟨by first|(simp;done)|(simp;omega),E4.out,T4.out⟩
    ·go_wp2;go_ret3;exact⟨by first|(simp;done)|(simp;omega),E4.out,T4.out⟩
 ·have i:mn=mx∧s1=s2:=by
   unfold Zcp at hM;rw[if_neg (fun h=>h0 h.1)]at hM;injection hM with q1 q2;exact⟨q1,q2⟩
  obtain⟨rfl,rfl⟩:=i;have q:false=ok∧s1=s3:=by
   unfold Zcq at hK;rw[if_neg (fun h=>h0 h.1)]at hK;injection hK with q1 q2;exact⟨q1,q2⟩
  obtain⟨rfl,rfl⟩:=q;clear hM hK;go_enter func126,ntmps126;go_wp2_with fail;refine H1.out.mono ?_;rintro e w1 ⟨rfl,e1,t1⟩;have E1:=hid e1;have T1:=hid t1;clear e1 t1;go_wp2;go_ret3;exact⟨rfl,E1.out,T1.out⟩
theorem Zag{fn:Func}{p q:Tmp}(h:fn.results= #[.cell p 132,.tmp q]){tmps:Array Value}{b:Nat}(ht:tmps.getD p undef=.pointer (some ⟨b,0,none⟩)){u:Value}(hq:tmps.getD q undef=u){W:World}{s:S4}
 (hb:W.heap[b]? =some (.cells #[.int .u64 s.a,.int .u64 s.b,.int .u64 s.c,.int .u64 s.d] 132 (0,0))):(results fn tmps).run prog W=.ok (.tuple #[ZcR s,u]) W:=by
 have c0:=cell_at (j:=0) (v:=.int .u64 s.a) hb rfl;have c1:=cell_at (j:=1) (v:=.int .u64 s.b) hb rfl;have c2:=cell_at (j:=2) (v:=.int .u64 s.c) hb rfl;have c3:=cell_at (j:=3) (v:=.int .u64 s.d) hb rfl;have f:tmps[p]?.getD undef=.pointer (some ⟨b,0,none⟩):=by rw[←ht];simp
 have e:tmps[q]?.getD undef=u:=by rw[←hq];simp
 simp only[results,h];simp[f,e,go_sem,c0,c1,c2,c3]
theorem ZcV(x:ByteArray)(o:Option (Int→Bool))(ho:Zak x=o)(w:World):Calls prog 172 #[.string x] w fun e w'=>e=.returned (ZcR (ZaD o))∧Fr nob w w':=by
 have hc:=fun w=>Zb5 x _ ho w;obtain⟨s,hs⟩:∃s,ZaD o=s:=⟨_,rfl⟩;rw[hs]at hc⊢;have HC:=hid hc;clear hc hs;go_enter func172,ntmps172;go_wp2_with fail;refine(HC.out _).mono ?_;rintro e w1 ⟨rfl,f1⟩;have f:=f1.heap (newAt0 w _) (fun x=>x);have rr:=Zl f;have HB:=hid f;have F1:=hid f1;clear f1 f;go_wp2;have g:=heap_alloc_lt (w:=w1) (.cells #[.int .u64 s.a,.int .u64 s.b,.int .u64 s.c,.int .u64 s.d] 132) HB.out;exact bodyPost_ret (Zs (s:=s) rfl rfl (setFour_heap g _ _ _ _)) rfl ⟨rfl,Zp ((((Fr.refl nob w).alloc _).trans' F1.out).alloc _) (Nat.le_refl _) _ _ _ _⟩
def ZkK(b:UInt8):S4×Bool:=
 match ZjI b with
 |some (c,_)=>(c,true)
 |none=>(spn b.toNat b.toNat,false)
theorem ZkL{b:UInt8}(h1:b≠110)(h2:b≠116)(h3:b≠119)(h4:b≠87)(h5:b≠115)(h6:b≠83):ZkK b=(spn b.toNat b.toNat,Za0.has b.toNat):=by
 unfold ZkK ZjI;rw[if_neg h1,if_neg h2,if_neg h3,if_neg h4,if_neg h5,if_neg h6];cases Za0.has b.toNat<;>rfl
abbrev Zn6(R:S4×Bool)(w:World)(e:Ending)(w':World):Prop:=e=.returned (.tuple #[ZcR R.1,.bool R.2])∧Fr nob w w'
theorem ZpE(b:UInt8)(w:World):Calls prog 152 #[.int .i32 (b.toNat:Int)] w fun e w'=>Zn6 (ZkK b) w e w':=by
 obtain⟨w0,j⟩:∃w0,w0=w.alloc (.cells #[.int .u64 0,.int .u64 0,.int .u64 0,.int .u64 0] 132):=⟨_,rfl⟩;have hz:w0.heap[w.heap.size]? =some (.cells #[.int .u64 0,.int .u64 0,.int .u64 0,.int .u64 0] 132 (0,0)):=by rw[j];exact newAt0 w _
 have F0:=hid (show Fr nob w w0 by rw[j];exact(Fr.refl _ _).alloc _);have c:w0.heap.size=w.heap.size+1:=by rw[j];simp
 have rr:=Zl hz;have HZ:=hid hz;have HW:=hid j;clear hz j;by_cases d:b=110
 case' pos=>
  subst d;rw[show ZkK 110=(spn 10 10,true)from rfl];obtain⟨s,hs⟩:∃s,spn 10 10=s:=⟨_,rfl⟩;have ho:∀(W:World) (T:TypeId),Calls prog 116 #[.slice (some ⟨W.heap.size,0,none⟩) 1 1] (W.alloc (.cells #[.int .u8 10] T)) fun e w'=>e=.returned (ZcR (spn 10 10))∧Fr nob (W.alloc (.cells #[.int .u8 10] T)) w':=fun W T=>Zb6 10 W T;rw[hs]at ho⊢;have a:=ho w0 5;rw[c]at a;have HA:=hid a;clear ho a hs c
 rotate_left
 have o:((b.toNat:Int)==110)=false:=Zn (b:=110) d;by_cases g:b=116
 case' pos=>
  subst g;rw[show ZkK 116=(spn 9 9,true)from rfl];obtain⟨s,hs⟩:∃s,spn 9 9=s:=⟨_,rfl⟩;have ho:∀(W:World) (T:TypeId),Calls prog 116 #[.slice (some ⟨W.heap.size,0,none⟩) 1 1] (W.alloc (.cells #[.int .u8 9] T)) fun e w'=>e=.returned (ZcR (spn 9 9))∧Fr nob (W.alloc (.cells #[.int .u8 9] T)) w':=fun W T=>Zb6 9 W T;rw[hs]at ho⊢;have a:=ho w0 5;rw[c]at a;have HA:=hid a;clear ho a hs c
 rotate_left
 have r:((b.toNat:Int)==116)=false:=Zn (b:=116) g;by_cases h:b=119
 case' pos=>
  subst h;rw[show ZkK 119=(Zdz,true)from rfl];unfold Zdz;have hc:=ZcV ⟨#[97,108,110,117,109]⟩ _ rfl w0;obtain⟨s0,hs⟩:∃s,ZaD (Zak ⟨#[97,108,110,117,109]⟩)=s:=⟨_,rfl⟩;rw[hs]at hc⊢;have ho:=ZnW;obtain⟨u,hu⟩:∃u,spn 95 95=u:=⟨_,rfl⟩;rw[hu]at ho⊢;have hr:=fun w=>ZfK s0 u w;obtain⟨s,hq⟩:∃q,s0.or u=q:=⟨_,rfl⟩;rw[hq]at hr⊢;have HO:=hid ho;have HA:=hid hc;have HR:=hid hr;clear ho hc hr hs hu hq c
 rotate_left
 have t:((b.toNat:Int)==119)=false:=Zn (b:=119) h;by_cases l:b=87
 case' pos=>
  subst l;rw[show ZkK 87=(Zdz.not,true)from rfl];unfold Zdz;have hc:=ZcV ⟨#[97,108,110,117,109]⟩ _ rfl w0;obtain⟨s0,hs⟩:∃s,ZaD (Zak ⟨#[97,108,110,117,109]⟩)=s:=⟨_,rfl⟩;rw[hs]at hc⊢;have ho:=ZnW;obtain⟨u,hu⟩:∃u,spn 95 95=u:=⟨_,rfl⟩;rw[hu]at ho⊢;have hr:=fun w=>ZfK s0 u w;obtain⟨q,hq⟩:∃q,s0.or u=q:=⟨_,rfl⟩;rw[hq]at hr⊢;have hn:=fun w=>not_lit q w;obtain⟨s,i⟩:∃n,q.not=n:=⟨_,rfl⟩;rw[i]at hn⊢;have HN:=hid hn;have HO:=hid ho;have HA:=hid hc;have HR:=hid hr;clear hn i ho hc hr hs hu hq c
 rotate_left
 have z:((b.toNat:Int)==87)=false:=Zn (b:=87) l;by_cases f:b=115
 case' pos=>
  subst f;rw[show ZkK 115=(ZbX,true)from rfl];unfold ZbX;have hc:=ZcV ⟨#[115,112,97,99,101]⟩ _ rfl w0;obtain⟨s,hs⟩:∃s,ZaD (Zak ⟨#[115,112,97,99,101]⟩)=s:=⟨_,rfl⟩;rw[hs]at hc⊢;have HA:=hid hc;clear hc hs c
 rotate_left
 have p:((b.toNat:Int)==115)=false:=Zn (b:=115) f;by_cases k:b=83
 case' pos=>
  subst k;rw[show ZkK 83=(ZbX.not,true)from rfl];unfold ZbX;have hc:=ZcV ⟨#[115,112,97,99,101]⟩ _ rfl w0;obtain⟨s0,hs⟩:∃s,ZaD (Zak ⟨#[115,112,97,99,101]⟩)=s:=⟨_,rfl⟩;rw[hs]at hc⊢;have hn:=fun w=>not_lit s0 w;obtain⟨s,i⟩:∃n,s0.not=n:=⟨_,rfl⟩;rw[i]at hn⊢;have HN:=hid hn;have HA:=hid hc;clear hn i hc hs c
 rotate_left
 ·have y:((b.toNat:Int)==83)=false:=Zn (b:=83) k;rw[ZkL d g h l f k];clear d g h l f k;have hb:=b.toNat_lt;have m:Za0.fit:=Zdd _;have hc:=fun w=>ZcV ⟨#[112,117,110,99,116]⟩ _ rfl w;rw[show ZaD (Zak ⟨#[112,117,110,99,116]⟩)=Za0 from rfl]at hc;have hh:=fun w=>Zj2 Za0 b.toNat w m (by omega);obtain⟨u,hu⟩:∃u,spn b.toNat b.toNat=u:=⟨_,rfl⟩;have ho:=Zb6 b;rw[hu]at ho⊢;obtain⟨q,hq⟩:∃q,Za0.has b.toNat=q:=⟨_,rfl⟩;rw[hq]at hh⊢;obtain⟨s,hs⟩:∃s,Za0=s:=⟨_,rfl⟩;rw[hs]at hc hh;have v:IntKind.u8.wrap (b.toNat:Int)=b.toNat:=IntWalk.u8_in _ (by omega);have HO:=hid ho;have HC:=hid hc;have HH:=hid hh;have a:=ho w0 5;rw[c]at a;have HO:=hid a;clear ho a hc hh hu hq hs m c;go_enter func152,ntmps152;go_wp2_with fail;rw[←HW.out];with_reducible refine(HO.out).mono ?_
  rintro e w1 ⟨rfl,f1⟩;go_wp2_with fail;with_reducible refine(HC.out _).mono ?_
  rintro e w2 ⟨rfl,f2⟩;go_wp2_with fail;with_reducible refine(HH.out _).mono ?_
  rintro e w3 ⟨rfl,f3⟩;have f9:Fr nob w0 w3:=((((Fr.refl _ _).alloc _).trans' f1).trans' f2).trans' f3;clear f1 f2 f3;go_wp2;exact bodyPost_ret (Zag (s:=u) rfl rfl rfl (setFour_heap (f9.heap HZ.out (fun x=>x)) _ _ _ _)) rfl ⟨rfl,Zp (F0.out.trans' f9) (Nat.le_refl _) _ _ _ _⟩
 all_goals
  go_enter func152,ntmps152;go_wp2_with fail;rw[←HW.out];with_reducible refine HA.out.mono ?_
  rintro e w1 ⟨rfl,f1⟩;have f9:Fr nob w0 w1:=by first|exact f1|exact((Fr.refl _ _).alloc _).trans' f1
  clear f1
  (try(go_wp2_with fail;with_reducible refine(HO.out w1 _).mono ?_;rintro e w2 ⟨rfl,f2⟩;replace f9:=(f9.alloc _).trans' f2;clear f2;go_wp2_with fail;with_reducible refine(HR.out _).mono ?_;rintro e w3 ⟨rfl,f3⟩;replace f9:=f9.trans' f3;clear f3))
  (try(go_wp2_with fail;with_reducible refine(HN.out _).mono ?_;rintro e w4 ⟨rfl,f4⟩;replace f9:=f9.trans' f4;clear f4))
  go_wp2;exact bodyPost_ret (Zag (s:=s) rfl rfl rfl (setFour_heap (f9.heap HZ.out (fun x=>x)) _ _ _ _)) rfl ⟨rfl,Zp (F0.out.trans' f9) (Nat.le_refl _) _ _ _ _⟩
end Go.Proofs.YtgllcniibbaoaaaGreatDoor
