/- Lemmas of this claim. -/
import Derived.Test.YtkfddjopbocpkaaGreatDoorM21
set_option linter.unusedVariables false
set_option linter.unusedSimpArgs false
set_option maxRecDepth 100000
set_option maxHeartbeats 4000000
namespace Go.Proofs.YtkfddjopbocpkaaGreatDoor
open Go.RowKit
section
variable {s t:List UInt8}
theorem Zrn{x:Bool}{sec:Bool}{r:List UInt8}{q q':AdS}{a:AV}(hk:q.at_≤s.length)(h:addrD x s sec q=.inr (a,q')):addrD x (s++10::r) sec q=.inr (a,q'):=by
 rcases Nat.lt_or_ge q.at_ s.length with hlt|hge
 ·unfold addrD at h⊢;rw[byt_app hlt];split
  ·next hc=>
   rw[if_pos hc]at h;unfold Zdj at h⊢;rw[Zq5 hk,Zrm (by decide)];exact h
  ·next hc=>
   rw[if_neg hc]at h;split
   ·next hc=>rw[if_pos hc]at h;exact h
   ·next hc=>
    rw[if_neg hc]at h;split
    ·next hc=>
     rw[if_pos hc]at h;exact regexD_app (by show q.at_+1≤_;omega) h
    ·next hc=>
     rw[if_neg hc]at h;split
     ·next hc=>
      rw[if_pos hc]at h;split at h
      ·cases h
      ·next hn=>
       have hl:q.at_+1<s.length:=Nat.lt_of_not_le fun e=>hn (Or.inl e);rw[byt_app hl,if_neg (by rw[List.length_append];intro e;exact hn (e.imp (by omega) id))];exact regexD_app (by show q.at_+1+1≤_;omega) h
     ·next hc=>
      rw[if_neg hc]at h;split
      ·next hc=>
       rw[if_pos hc]at h;unfold moreD at h⊢;rw[Zq5 (by omega),Zrm (by decide)];exact h
      ·next hc=>rw[if_neg hc]at h;exact h
 ·have hb:byt s q.at_=0:=ZkR hge;have hb2:byt (s++10::r) q.at_=10:=by
   obtain e:q.at_=s.length:=by omega
   unfold byt;rw[e,List.getElem?_append_right (Nat.le_refl _)];simp
  unfold addrD at h⊢;rw[hb]at h;rw[hb2];rw[if_neg (by decide),if_neg (by decide),if_neg (by decide),if_neg (by decide),if_neg (by simp)]at h⊢;exact h
theorem Zr8{r:List UInt8}:byt (s++10::r) s.length=10:=by
 unfold byt;rw[List.getElem?_append_right (Nat.le_refl _)];simp
theorem Zq7{r:List UInt8}{k:Nat}(hk:k≤s.length){c:UInt8}(hc:c≠0)(hc2:c≠10):byt (s++10::r) k=c↔byt s k=c:=by
 rcases Nat.lt_or_ge k s.length with hlt|hge
 ·rw[byt_app hlt]
 ·obtain rfl:k=s.length:=by omega
  rw[Zr8,ZkR (Nat.le_refl _)];exact⟨fun e=>absurd e.symm hc2,fun e=>absurd e.symm hc⟩
theorem ZrL{x:Bool}{r:List UInt8}{q q':AdS}{a:AV}(hk:q.at_≤s.length)(h:Zbc x s q=.inr (a,q')):Zbc x (s++10::r) q=.inr (a,q'):=by
 have h1:=bhd_le s [32,9] q.at_;unfold Zbc at h⊢;rw[Zq8 (by decide) hk];by_cases hc:byt s (bhd s [32,9] q.at_)=44
 ·have hlt:=ZaO (by rw[hc];decide:byt s (bhd s [32,9] q.at_)≠0);rw[if_pos hc]at h;rw[if_pos ((Zq7 h1 (by decide) (by decide)).2 hc),Zq8 (by decide) (by omega)];cases hA:addrD x s true ⟨bhd s [32,9] (bhd s [32,9] q.at_+1),q.marks,0⟩with
  |inl z=>rw[hA]at h;cases h
  |inr y=>
   obtain⟨y,s1⟩:=y;rw[hA]at h;rw[Zrn (bhd_le _ _ _) hA];exact h
 ·rw[if_neg hc]at h;rw[if_neg (fun e=>hc ((Zq7 h1 (by decide) (by decide)).1 e))];exact h
theorem Zry{r:List UInt8}{a b:AV}{g:GV}{q q':AdS}(hk:q.at_≤s.length)(h:ZgT s a b q=.inr (g,q')):ZgT (s++10::r) a b q=.inr (g,q'):=by
 have h1:=bhd_le s [32,9] q.at_;unfold ZgT at h⊢;rw[Zq8 (by decide) hk];by_cases hc:byt s (bhd s [32,9] q.at_)=33
 ·have hlt:=ZaO (by rw[hc];decide:byt s (bhd s [32,9] q.at_)≠0);rw[if_pos hc]at h;rw[if_pos ((Zq7 h1 (by decide) (by decide)).2 hc),Zq8 (by decide) (by omega)];split at h
  ·cases h
  ·next hn=>
   rw[if_neg (fun e=>hn ((Zq7 (bhd_le _ _ _) (by decide) (by decide)).1 e))];exact h
 ·rw[if_neg hc]at h;rw[if_neg (fun e=>hc ((Zq7 h1 (by decide) (by decide)).1 e))];exact h
theorem Zrz{r:List UInt8}{x:Bool}{g:GV}{q q':AdS}(hk:q.at_≤s.length)(he:q.e=0)(h:ZX x s q=.inr (g,q')):ZX x (s++10::r) q=.inr (g,q'):=by
 unfold ZX at h⊢;cases hA:addrD x s false q with
 |inl z=>rw[hA]at h;cases h
 |inr y=>
  obtain⟨a,s1⟩:=y;rw[hA]at h;rw[Zrn hk hA];obtain⟨f1,e1⟩:=addrD_le hk he hA;simp only at h⊢;by_cases h0:a.kind=0
  ·rw[if_pos h0]at h⊢;exact Zry f1 h
  ·rw[if_neg h0]at h⊢;cases hB:Zbc x s s1 with
   |inl z=>rw[hB]at h;cases h
   |inr y=>
    obtain⟨b,s2⟩:=y;rw[hB]at h;rw[ZrL f1 hB];exact Zry (ZiC f1 hB).1 h
variable {r:List UInt8} {q:AdS}
theorem ZrA:(s++10::r)[s.length]? =some 10:=by rw[List.getElem?_append_right (Nat.le_refl _)];simp
theorem next_in(some:List UInt8)(h:q.at_<s.length):ZI (s++10::r) q some=ZI s q some:=by unfold ZI;rw[List.getElem?_append_left h]
theorem Zrb(some:List UInt8)(hs:some.contains 10=false)(h:q.at_≤s.length):ZI (s++10::r) q some=ZI s q some:=by
 rcases Nat.lt_or_ge q.at_ s.length with hlt|hge
 ·exact next_in some hlt
 ·have e:q.at_=s.length:=by omega
  unfold ZI;rw[e,ZrA,List.getElem?_eq_none (Nat.le_refl _)];exact hs
theorem Zrj(label:Bool):∀m:List UInt8,Zcv (m++10::r) label=Zcv m label
 |[]=>by unfold Zcv Zqx;cases label<;>rfl
 |b::m=>by
  have ih:=Zrj label m;unfold Zcv at ih⊢;rw[List.cons_append,List.takeWhile_cons,List.takeWhile_cons,ih]
theorem ZrV{k:Nat}(label:Bool)(hk:k≤s.length):ZcI (s++10::r) k label=ZcI s k label:=by
 unfold ZcI;rw[Zq5 hk,Zrj]
theorem Zro(must:Bool)(h:q.at_≤s.length):labelC (s++10::r) must q=labelC s must q:=by
 unfold labelC;rw[ZrV true h,Zq5 h,Zrj]
theorem ZrB(h:q.at_≤s.length):ZaR (s++10::r) q=ZaR s q:=by
 unfold ZaR;rw[ZrV false h,Zrb [32,9] (by decide) h]
theorem ZrY(sub:SV)(h:q.at_≤s.length):Zap (s++10::r) sub q=Zap s sub q:=by
 unfold Zap;rw[Zrb [103] (by decide) h,Zrb [112] (by decide) h,Zrb [48,49,50,51,52,53,54,55,56,57] (by decide) h,Zrb [119] (by decide) h,Zq5 h];simp only[Zrm (y:=10) (r:=r) (by decide)];by_cases hw:ZI s q [119]=true
 ·rw[ZrB (show(q.to (q.at_+1)).at_≤_ from Zbh hw)]
 ·simp only[if_neg hw]
theorem Zrp:∀(n:Nat) (sub:SV) (q:AdS),q.at_≤s.length→Zai (s++10::r) n sub q=Zai s n sub q
 |0,_,_,_=>rfl
 |n+1,sub,q,h=>by
  rw[Zai,Zai,ZrY sub h];have hf:=Ziy sub h;cases hr:Zap s sub q with
  |mk a b=>
   rw[hr]at hf;obtain⟨b,c⟩:=b;cases a with
   |true=>exact Zrp n b c hf
   |false=>rfl
theorem Zrq(h:q.at_≤s.length)(he:(Zv s q).2.e=0):Zv (s++10::r) q=Zv s q:=by
 unfold Zv at he⊢;split at he
 ·exact(Zcb (by decide) he).elim
 ·next hlt=>
  have hl2:¬(s++10::r).length≤q.at_:=by rw[List.length_append];omega
  rw[if_neg hl2,if_neg hlt,next_in _ (by omega),byt_app (by omega)]
theorem Zrk{p:Nat}{e:Int}(h:q.e=0)(he:(ZV q p e).e=0):e=0:=by unfold ZV at he;rw[if_pos h]at he;exact he
theorem ZrM{p:Nat}{e:Int}(he:(failC q e p).e=0):q.e=0:=by
 unfold failC at he;split at he
 ·assumption
 ·exact he
theorem Zrd{d:UInt8}{rx:Bool}(he:(Zr s d rx q).2.e=0):q.e=0:=by
 unfold Zr at he;split at he
 ·next h=>exact(h he).elim
 ·next h=>exact Decidable.not_not.1 h
theorem Zre(d:UInt8)(rx:Bool)(h:q.at_≤s.length)(he:(Zr s d rx q).2.e=0):Zr (s++10::r) d rx q=Zr s d rx q:=by
 have h0:=Zrd he;unfold Zr at he⊢;rw[if_neg (fun h=>h h0)]at he⊢;rw[if_neg (fun h=>h h0)];have hz:=Zrk h0 he;rw[bt_app (s.length+1) q.at_ [] ((s++10::r).length+1) h (by omega) (by rw[List.length_append];omega) hz]
theorem ZrN{x:Bool}{d:UInt8}(he:(Zav x s d q).2.e=0):(Zr s d true q).2.e=0:=by
 unfold Zav at he;simp only at he;have hs:∀s2:AdS,(if s2.e≠0 then((([]:List UInt8),Nd.nil),s2)else match Zac prg x (Zr s d true q).1 with
  | .inl z=>(((Zr s d true q).1,.nil),failC s2 z.1 q.at_)
  | .inr (n,r)=>(((Zr s d true q).1,n),⟨s2.at_,s2.marks++r.marks.map (shM q.at_),s2.e⟩)).2.e=0→s2.e=0:=by
  intro s2 h;split at h
  ·exact h
  ·next h0=>exact Decidable.not_not.1 h0
 have h2:=hs _ he;split at h2
 ·exact ZrM h2
 ·exact h2
theorem ZrO(x:Bool)(d:UInt8)(h:q.at_≤s.length)(he:(Zav x s d q).2.e=0):Zav x (s++10::r) d q=Zav x s d q:=by
 have hb:=Zre (r:=r) d true h (ZrN he);unfold Zav;rw[hb]
theorem Zr9(x:Bool)(h:q.at_≤s.length)(he:(Zet x s q).2.e=0):Zet x (s++10::r) q=Zet x s q:=by
 have hd:(Zv s q).2.e=0:=by
  refine Classical.byContradiction fun hn=> ?_;unfold Zet at he;simp only[if_pos hn]at he;exact hn he
 have h1:=Za7 h;have h2:=Zeg x (Zv s q).1 h1;have hb:(Zr s (Zv s q).1 false (Zav x s (Zv s q).1 (Zv s q).2).2).2.e=0:=by
  refine Classical.byContradiction fun hn=> ?_;unfold Zet at he;simp only[if_neg (show¬(Zv s q).2.e≠0 from fun h=>h hd),if_pos hn]at he;exact hn he
 have hr:=Zrd hb;have h3:=ZaW (Zv s q).1 false h2;unfold Zet;rw[Zrq h hd];simp only;rw[ZrO x _ h1 hr];(try simp only);rw[Zre _ _ h2 hb];simp only[Zrp _ _ _ h3];have hf:=fun sub=>ZeN (l:=s) ((s++10::r).length+2) (s.length+2) sub (Zr s (Zv s q).1 false (Zav x s (Zv s q).1 (Zv s q).2).2).2 h3 (by rw[List.length_append];omega) (by omega);simp only[hf]
theorem ZrP(h:q.at_≤s.length)(he:(ZaP s q).2.e=0):ZaP (s++10::r) q=ZaP s q:=by
 have hb:(Zr s (Zv s q).1 false (Zr s (Zv s q).1 false (Zv s q).2).2).2.e=0:=by
  refine Classical.byContradiction fun hn=> ?_;unfold ZaP at he;simp only[if_pos hn]at he;exact hn he
 have hb1:=Zrd hb;have hd:=Zrd hb1;have h1:=Za7 h;have h2:=ZaW (Zv s q).1 false h1;unfold ZaP;rw[Zrq h hd];simp only;rw[Zre _ _ h1 hb1];(try simp only);rw[Zre _ _ h2 hb]
theorem ZrC:∀(n m k:Nat) (out:List UInt8),k≤s.length→s.length<n+k→s.length<m+k→(ln s n k out).2.2=0→
 (ln (s++10::r) m k out).1=(ln s n k out).1∧(ln (s++10::r) m k out).2.2=0∧((ln (s++10::r) m k out).2.1=(ln s n k out).2.1∨((ln s n k out).2.1=s.length∧(ln (s++10::r) m k out).2.1=s.length+1))
 |0,m,k,out,hk,hn,_,_=>by omega
 |n+1,0,k,out,hk,_,hm,_=>by omega
 |n+1,m+1,k,out,hk,hn,hm,he=>by
  rw[ln]at he⊢;rw[ln];rcases Nat.lt_or_ge k s.length with hlt|hge
  ·rw[List.getElem?_append_left hlt];rw[List.getElem?_eq_getElem hlt]at he⊢;simp only at he⊢;by_cases h1:s[k]=10
   ·simp only[if_pos h1];refine⟨trivial,trivial,.inl ?_⟩;rw[List.length_append];omega
   ·simp only[if_neg h1]at he⊢;by_cases h2:s[k]=92
    ·simp only[if_pos h2]at he⊢;cases hx:s[k+1]? with
     |none=>rw[hx]at he;exact absurd he (by intro e;cases e)
     |some y=>
      have hk1:=(List.getElem?_eq_some_iff.1 hx).1;rw[List.getElem?_append_left hk1,hx];rw[hx]at he;exact ZrC n m (k+2) _ (by omega) (by omega) (by omega) he
    ·simp only[if_neg h2]at he⊢;exact ZrC n m (k+1) _ (by omega) (by omega) (by omega) he
  ·obtain rfl:k=s.length:=by omega
   rw[ZrA,List.getElem?_eq_none (Nat.le_refl _)];simp only[if_true];refine⟨trivial,trivial,.inr ⟨by omega,?_⟩⟩;rw[List.length_append,List.length_cons];omega
def Nl(s:List UInt8)(q q':AdS):Prop:=q'.marks=q.marks∧q'.e=q.e∧(q'.at_=q.at_∨(q.at_=s.length∧q'.at_=s.length+1))
theorem Nl.refl(s:List UInt8)(q:AdS):Nl s q q:=⟨rfl,rfl,.inl rfl⟩
theorem ZrQ(b:Nat)(h:q.at_≤s.length)(h0:q.e=0)(he:(Zah s b q).2.e=0):(Zah (s++10::r) b q).1=(Zah s b q).1∧Nl s (Zah s b q).2 (Zah (s++10::r) b q).2:=by
 unfold Zah at he⊢;simp only at he⊢;rw[Zq8 (by decide) h];have hb:=(bhd_in (l:=s) [32,9] h).2;generalize hs1:q.to (bhd s [32,9] q.at_)=s1 at he⊢;have h1:s1.at_≤s.length:=by rw[←hs1];exact hb
 have e1:s1.e=0:=by rw[←hs1];exact h0
 split at he
 ·exact(Zcb (by decide) he).elim
 ·next hlt=>
  rw[if_neg (by rw[List.length_append];omega),if_neg hlt,next_in _ (by omega)];split at he
  ·exact(Zcb (by decide) he).elim
  ·next hn=>
   rw[if_neg hn,if_neg hn];have hpre:[92,10].isPrefixOf ((s++10::r).drop s1.at_)=[92,10].isPrefixOf (s.drop s1.at_)∨s.drop s1.at_=[92]:=by
    rw[Zq5 h1]
    match hd:s.drop s1.at_ with
    |[]=>have:=congrArg List.length hd;simp at this;omega
    |[y]=>by_cases hy:y=92;exact .inr (by rw[hy]);exact .inl (by simp[List.isPrefixOf,Ne.symm hy])
    |y::z::t=>exact .inl rfl
   rcases hpre with hpre|hpre
   ·rw[hpre];generalize hs2:(if[92,10].isPrefixOf (s.drop s1.at_)=true then s1.to (s1.at_+2)else Zan s1 b [116,101,120,116])=s2 at he⊢;have h2:s2.at_≤s.length:=by
     rw[←hs2];split
     ·next hp=>
      have h2:=(List.isPrefixOf_iff_prefix.1 hp).length_le;simp only[List.length_drop,List.length_cons,List.length_nil]at h2;show s1.at_+2≤_;omega
     ·exact h1
    have e2:s2.e=0:=by rw[←hs2];split<;>exact e1
    have hz:=Zrk e2 he;obtain⟨k1,k2,k3⟩:=ZrC (r:=r) (s.length+1) ((s++10::r).length+1) s2.at_ [] h2 (by omega) (by rw[List.length_append];omega) hz;refine⟨k1,?_⟩;unfold ZV;rw[if_pos e2,if_pos e2];exact⟨rfl,by rw[k2,hz],k3⟩
   ·exfalso
    have hnp:[92,10].isPrefixOf (s.drop s1.at_)=false:=by rw[hpre];rfl
    rw[hnp]at he;simp only[Bool.false_eq_true,if_false]at he;have e2:(Zan s1 b [116,101,120,116]).e=0:=e1;have hz:=Zrk e2 he;have hat:(Zan s1 b [116,101,120,116]).at_=s1.at_:=rfl;rw[hat,ln]at hz;have hg:s[s1.at_]? =some 92:=by rw[←List.head?_drop,hpre];rfl
    have hg2:s[s1.at_+1]? =none:=by
     have:=congrArg (fun t=>t[1]?) hpre;simpa[List.getElem?_drop]using this
    rw[hg]at hz;simp only[(by decide:¬(92:UInt8)=10),if_false,if_true,hg2]at hz;cases hz
theorem ZrZ(x:Bool)(c:CV)(h:q.at_≤s.length)(h0:q.e=0)(he:(argsC x s c q).2.2.e=0):(argsC x (s++10::r) c q).1=(argsC x s c q).1∧(argsC x (s++10::r) c q).2.1=(argsC x s c q).2.1∧
 (((argsC x s c q).1=true→(argsC x (s++10::r) c q).2.2=(argsC x s c q).2.2)∧Nl s (argsC x s c q).2.2 (argsC x (s++10::r) c q).2.2):=by
 unfold argsC at he⊢;split
 ·exact⟨rfl,rfl,fun _=>rfl,Nl.refl _ _⟩
 next n1=>
 rw[if_neg n1]at he;split
 ·rw[Zro true h];exact⟨rfl,rfl,fun _=>rfl,Nl.refl _ _⟩
 next n2=>
 rw[if_neg n2]at he;split
 ·rw[Zro false h];exact⟨rfl,rfl,fun _=>rfl,Nl.refl _ _⟩
 next n3=>
 rw[if_neg n3]at he;split
 ·next n4=>
  rw[if_pos n4]at he;obtain⟨k1,k2⟩:=ZrQ (r:=r) c.at_ h h0 he;exact⟨rfl,by simp only[k1],fun e=>(nomatch e),k2⟩
 next n4=>
 rw[if_neg n4]at he;split
 ·rw[ZrB h];exact⟨rfl,rfl,fun _=>rfl,Nl.refl _ _⟩
 next n5=>
 rw[if_neg n5]at he;split
 ·next n6=>
  rw[if_pos n6]at he;rw[Zr9 x h he];exact⟨rfl,rfl,fun _=>rfl,Nl.refl _ _⟩
 next n6=>
 rw[if_neg n6]at he;split
 ·next n7=>
  rw[if_pos n7]at he;rw[ZrP h he];exact⟨rfl,rfl,fun _=>rfl,Nl.refl _ _⟩
 ·exact⟨rfl,rfl,fun _=>rfl,Nl.refl _ _⟩
theorem Zsa(h:q.at_≤s.length):Zjq (s++10::r) q=Zjq s q:=by
 unfold Zjq;simp only;rw[Zq8 (by decide) h];have hb:=(bhd_in (l:=s) [32,9] h).2;generalize hs1:q.to (bhd s [32,9] q.at_)=s1;have h1:s1.at_≤s.length:=by rw[←hs1];exact hb
 rcases Nat.lt_or_ge s1.at_ s.length with hlt|hge
 ·rw[next_in _ hlt,next_in _ hlt,List.length_append];have e:(s.length+(10::r).length≤s1.at_∨ZI s s1 [59,10,35]=true)↔(s.length≤s1.at_∨ZI s s1 [59,10,35]=true):=⟨fun h=>h.imp (by omega) id,fun h=>h.imp (by omega) id⟩;simp only[e]
 ·have e:s1.at_=s.length:=by omega
  rw[if_pos (.inr (by unfold ZI;rw[e,ZrA];rfl)),if_pos (.inl (by omega))]
theorem Zr0(x:Bool)(g:GV)(h:q.at_≤s.length)(h0:q.e=0)(he:(ZbY x s g q).2.e=0):(ZbY x (s++10::r) g q).1=(ZbY x s g q).1∧Nl s (ZbY x s g q).2 (ZbY x (s++10::r) g q).2:=by
 obtain⟨hlt,hn0,hn1,_⟩:=Zk4 he;unfold ZbY at he⊢;have hc:¬s.length≤q.at_:=Nat.not_le.2 hlt;have hc2:¬(s++10::r).length≤q.at_:=by rw[List.length_append];omega
 have ha:¬ZM (byt s q.at_)<0:=Int.not_lt.2 hn0;rw[byt_app hlt];simp only[if_neg hc,if_neg hc2,if_neg hn1,if_neg ha]at he⊢;generalize hs1:(if byt s q.at_=81∨byt s q.at_=84∨byt s q.at_=122 then Zan q q.at_ [byt s q.at_]else q)=s1 at he⊢;have e1:s1.e=0:=by rw[←hs1];split<;>exact h0
 have a1:s1.at_=q.at_:=by rw[←hs1];split<;>rfl
 have hne:¬s1.e≠0:=fun h=>h e1;simp only[if_neg hne]at he⊢;have hA:(argsC x s {CV.zero with at_:=q.at_,guard:=g,name:=byt s q.at_} (s1.to (s1.at_+1))).2.2.e=0:=by
  split at he
  ·next hc=>exact hc.2
  ·exact he
 have hin:=ZdN (l:=s) (s:=s1.to (s1.at_+1)) x {CV.zero with at_:=q.at_,guard:=g,name:=byt s q.at_} (by show s1.at_+1≤_;omega);obtain⟨k1,k2,k3,k4⟩:=ZrZ (r:=r) (q:=s1.to (s1.at_+1)) x {CV.zero with at_:=q.at_,guard:=g,name:=byt s q.at_} (by show s1.at_+1≤_;omega) e1 hA;simp only at k1 k2 k3 k4;simp only[k1,k2];by_cases hp:(argsC x s {CV.zero with at_:=q.at_,guard:=g,name:=byt s q.at_} (s1.to (s1.at_+1))).1=true
 ·have hp2:=And.intro hp hA;simp only at hp2 hin;simp only[k3 hp,if_pos hp2];refine⟨trivial,?_⟩;rw[Zsa hin];exact Nl.refl _ _
 ·have hp2:∀P:Prop,¬((argsC x s {CV.zero with at_:=q.at_,guard:=g,name:=byt s q.at_} (s1.to (s1.at_+1))).1=true∧P):=fun P h=>hp h.1;simp only at hp2;simp only[if_neg (hp2 _)];exact⟨trivial,k4⟩
theorem Zr1{x:Bool}{p:Nat}{c:CV}{q:AdS}(hp:p≤s.length)(h:Zeu x s p=.inr (c,q)):∃q',Zeu x (s++10::r) p=.inr (c,q')∧Nl s q q':=by
 unfold Zeu at h;cases hg:ZX x s ⟨p,[],0⟩with
 |inl z=>rw[hg]at h;cases h
 |inr z=>
  obtain⟨g,s1⟩:=z;rw[hg]at h;simp only at h;have h1:=guardD_le (s:=⟨p,[],0⟩) hp rfl hg;have h2:s1.e=0:=guardD_ok hg;by_cases h0:(ZbY x s g s1).2.e=0
  ·rw[if_neg (fun h=>h h0)]at h;injection h with h;obtain⟨k1,k2⟩:=Zr0 (r:=r) x g h1 h2 h0;unfold Zeu;rw[Zrz (q:=⟨p,[],0⟩) hp rfl hg];simp only;have e1:(ZbY x (s++10::r) g s1).2.e=0:=by rw[k2.2.1];exact h0
   rw[if_neg (fun h=>h e1)];rw[h]at k1 k2;exact⟨(ZbY x (s++10::r) g s1).2,congrArg Sum.inr (Prod.ext k1 rfl),k2⟩
  ·rw[if_pos h0]at h;cases h
end
abbrev Zc1:List UInt8:=[32,9,10,59]
def lineL(l:List UInt8):List UInt8:=l.takeWhile (·!=10)
def Zaq(l:List UInt8):Nat→Nat→Nat
 |0,k=>bhd l Zc1 k
 |n+1,k=>if(l.drop (bhd l Zc1 k)).head? =some 35 then Zaq l n (bhd l Zc1 k+(lineL (l.drop (bhd l Zc1 k))).length)else bhd l Zc1 k
structure RdS where
 cmds:List CV
 labels:List (List UInt8)
 opens:List Nat
def RdS.zero:RdS:=⟨[],[],[]⟩
def ZbZ(c:CV)(s:RdS):Int⊕RdS:=
 if c.name=123 then(if s.opens.length=12 then .inl 4 else .inr ⟨s.cmds++[c],s.labels,s.opens++[c.at_]⟩)
 else if c.name=125 then(if s.opens=[]then .inl 16 else .inr ⟨s.cmds++[c],s.labels,s.opens.dropLast⟩)
 else if c.name=58 then(if s.labels.contains c.arg then .inl 15 else .inr ⟨s.cmds++[c],s.labels++[c.arg],s.opens⟩)
 else .inr ⟨s.cmds++[c],s.labels,s.opens⟩
abbrev ZpO:=(Int×Nat)⊕(RdS×List (Nat×List UInt8))
def Zdm(x:Bool)(l:List UInt8):Nat→Nat→RdS→List (Nat×List UInt8)→ZpO
 |0,_,s,ms=>.inr (s,ms)
 |n+1,k,s,ms=>
  if l.length≤k then .inr (s,ms)
  else if s.cmds.length=100 then .inl (3,k)
  else match Zeu x l k with
   | .inl z=>.inl z
   | .inr (c,q)=>match ZbZ c s with
     | .inl e=>.inl (e,c.at_)
     | .inr s'=>Zdm x l n (Zaq l (l.length+1) q.at_) s' (ms++q.marks)
def ZiD(c:CV):Bool:=c.name==98||c.name==116||c.name==84
def Zcc(labels:List (List UInt8))(c:CV):Bool:=ZiD c&&(c.arg !=[])&& !(labels.contains c.arg)
def Za8(s:RdS):Option (Int×Nat):=
 match s.opens.getLast? with
 |some p=>some (16,p)
 |none=>match s.cmds.find? (Zcc s.labels)with
  |some c=>some (14,c.at_)
  |none=>none
structure ScV where
 quiet:Bool
 cmds:List CV
abbrev ZqB:=(Int×Nat)⊕(ScV×List (Nat×List UInt8))
def ZdO(x:Bool)(l:List UInt8):ZqB:=
 if 4000<l.length then .inl (3,4000)
 else match Zdm x l 101 (Zaq l (l.length+1) 0) RdS.zero []with
  | .inl z=>.inl z
  | .inr (s,ms)=>match Za8 s with
    |some z=>.inl z
    |none=>.inr (⟨lineL l==[35,110],s.cmds⟩,ms)
section
variable {l A:List UInt8}
theorem ZdP(l:List UInt8):(lineL l).length≤l.length:=(List.takeWhile_sublist _).length_le
theorem ZiE{m:List UInt8}(h:m.head? =some 35):0<(lineL m).length:=by
 cases m with
 |nil=>cases h
 |cons a r=>
  injection h with h;subst h;unfold lineL;rw[List.takeWhile_cons,if_pos (by decide)];simp
theorem Zoo{k:Nat}{b:UInt8}(h:(l.drop k).head? =some b):k<l.length:=by
 refine Nat.lt_of_not_le fun hk=> ?_;rw[List.drop_eq_nil_of_le hk]at h;cases h
theorem Zeh:∀(n k:Nat),k≤l.length→k≤Zaq l n k∧Zaq l n k≤l.length
 |0,k,hk=>bhd_in Zc1 hk
 |n+1,k,hk=>by
  have hb:=bhd_in (l:=l) Zc1 hk;rw[Zaq];split
  ·next h=>
   have h1:=ZdP (l.drop (bhd l Zc1 k));rw[List.length_drop]at h1;have:=Zeh n (bhd l Zc1 k+(lineL (l.drop (bhd l Zc1 k))).length) (by omega);omega
  ·exact hb
theorem Zei:∀(n m k:Nat),k≤l.length→l.length<n+k→l.length<m+k→Zaq l n k=Zaq l m k
 |0,_,k,hk,hn,_=>by omega
 |n+1,0,k,hk,_,hm=>by omega
 |n+1,m+1,k,hk,hn,hm=>by
  have hb:=bhd_in (l:=l) Zc1 hk;rw[Zaq,Zaq];split
  ·next h=>
   have h1:=ZdP (l.drop (bhd l Zc1 k));have h2:=ZiE h;rw[List.length_drop]at h1;exact Zei n m _ (by omega) (by omega) (by omega)
  ·rfl
theorem Zgq{x:Bool}{k:Nat}{c:CV}{q:AdS}(hk:k≤l.length)(h:Zeu x l k=.inr (c,q)):q.at_≤l.length∧q.e=0:=by
 unfold Zeu at h;cases hg:ZX x l ⟨k,[],0⟩with
 |inl z=>rw[hg]at h;cases h
 |inr z=>
  obtain⟨g,s⟩:=z;rw[hg]at h;simp only at h;split at h
  ·cases h
  ·next h0=>
   injection h with h;have hs:=guardD_le (s:=⟨k,[],0⟩) hk rfl hg;have h1:=Zom x g hs;rw[h]at h1;refine⟨h1,?_⟩;have:(ZbY x l g s).2.e=0:=by simpa using h0
   rw[h]at this;exact this
end
open Go.Lib (hid)
structure Cmr(b:Nat)(l:List UInt8)(x:Bool)(s:AdS)(S:Nat→Prop)(mv:Value)(w:World):Prop where
 blk:w.heap[b]? =some (.cells #[.string ⟨l.toArray⟩,.int .i64 s.at_,.bool x,mv,.int .i64 s.e] 79 (0,0))
 ma:OwM w s.marks mv
 nm:∀k,mv.ownBlock=some k→k≠b∧S k
 me:S b
def CRd(b:Nat)(l:List UInt8)(x:Bool)(s:AdS)(S:Nat→Prop)(w:World):Prop:=∃mv,Cmr b l x s S mv w
section
variable {b:Nat} {l:List UInt8} {x:Bool} {s:AdS} {S:Nat→Prop} {mv v':Value} {w w' W0 w3:World}
theorem Cmr.keep{X:Nat→Prop}(h:Cmr b l x s S mv w)(f:Fr X w w')(hb:¬X b)(hm:∀k,mv.ownBlock=some k→¬X k):Cmr b l x s S mv w':=
 ⟨f.heap h.blk hb,ownsRow_fr h.ma f hm,h.nm,h.me⟩
theorem Cmr.on(h:Cmr b l x s S mv w)(f:Fr nob w w'):Cmr b l x s S mv w':=h.keep f (fun x=>x) (fun _ _ x=>x)
theorem CRd.on(h:CRd b l x s S w)(f:Fr nob w w'):CRd b l x s S w':=by obtain⟨mv,h⟩:=h;exact⟨mv,h.on f⟩
theorem CRd.keep{X:Nat→Prop}(h:CRd b l x s S w)(f:Fr X w w')(hX:∀k,X k→¬S k):CRd b l x s S w':=by
 obtain⟨mv,h⟩:=h;exact⟨mv,h.keep f (fun e=>hX _ e h.me) (fun k hk e=>hX _ e (h.nm k hk).2)⟩
theorem Cmr.turned(h:Cmr b l x s S mv w)(j:Nat)(u:Value)(s':AdS)
 (hj:(#[.string ⟨l.toArray⟩,.int .i64 s.at_,.bool x,mv,.int .i64 s.e]:Array Value).setIfInBounds j u= #[.string ⟨l.toArray⟩,.int .i64 s'.at_,.bool x,mv,.int .i64 s'.e]) (hm:s'.marks=s.marks):
 Cmr b l x s' S mv (w.setCell ⟨b,j,none⟩ u):=by
 have hf:=(Fr.refl (fun k=>k=b) w).setCell (p:=⟨b,j,none⟩) (fun _=>rfl) u;have hb:=Za h.blk j u;rw[hj]at hb;exact⟨hb,by rw[hm];exact ownsRow_fr h.ma hf (fun k hk e=>(h.nm k hk).1 e),h.nm,h.me⟩
theorem Cmr.stp(h:Cmr b l x s S mv w)(j:Nat)(u:Value):Stp S w S (w.setCell ⟨b,j,none⟩ u):=
 ⟨(Fr.refl S w).setCell (p:=⟨b,j,none⟩) (fun _=>h.me) u,fun _ _ x=>x,fun hl k hk=>by have:=hl k hk;simpa[World.setCell]using this⟩
theorem Cmr.push(h:Cmr b l x s S mv w)(f:Fr nob w W0)(hap:Appd 1 mv v' W0 w3){k:Nat}{t:List UInt8}
 (hown:w3.ownsRow 0 55 2 v' (s.marks.length+1) (mkC s.marks++[.int .i64 k,.string ⟨t.toArray⟩])):
 (w3.cell? ⟨b,3,none⟩=some mv∧w3.frozen? ⟨b,3,none⟩=false)∧Cmr b l x ⟨s.at_,s.marks++[(k,t)],s.e⟩ (Zf0 S v') v' (w3.setCell ⟨b,3,none⟩ v')∧Stp S w (Zf0 S v') (w3.setCell ⟨b,3,none⟩ v'):=by
 have h0:=h.on f;have hblk:=hap.fr.heap h0.blk (fun e=>(h.nm b e).1 rfl);have hsz:=f.size;have hb:=lt_heap h.blk;have hst:=(Fr.refl (fun k=>k=b) w3).setCell (p:=⟨b,3,none⟩) (fun _=>rfl) v';have hnb:v'.ownBlock≠some b:=fun e=>by
  rcases hap.old b e with h1|h1
  ·exact(h.nm b h1).1 rfl
  ·omega
 refine⟨⟨cell_at hblk rfl,unfrozen_at hblk 3⟩,⟨by have:=Za hblk 3 v';simpa using this,?_,fun k hk=>⟨fun e=>hnb (by rw[←e];exact hk),.inr hk⟩,.inl h.me⟩,?_,?_,?_⟩
 ·have:=ownsRow_fr hown hst (fun k hk e=>hnb (by rw[←e];exact hk));unfold OwM;simp only[List.length_append,List.length_singleton,Zch];exact this
 ·exact(f.any.trans (hap.fr.mono (T:=S) fun k _ hk=>(h.nm k hk).2) (fun _ _ x=>x)).setCell (p:=⟨b,3,none⟩) (fun _=>h.me) v'
 ·intro k hk hx;rcases hx with hx|hx
  ·exact hx
  ·rcases hap.old k hx with h1|h1
   ·exact(h.nm k h1).2
   ·omega
 ·intro hl k hk;have hz:(w3.setCell ⟨b,3,none⟩ v').heap.size=w3.heap.size:=by simp[World.setCell]
  rw[hz];rcases hk with hk|hk
  ·have:=hl k hk;have:=hap.fr.size;omega
  ·exact own_lt hown k hk
end
theorem cm_ok(b:Nat)(l:List UInt8)(x:Bool)(s:AdS)(S:Nat→Prop)(w:World)(h:CRd b l x s S w):
 Calls Tryz.prog 31 #[.pointer (some ⟨b,0,none⟩)] w fun r w'=>r=.returned (.bool (s.e==0))∧Fr nob w w':=by
 obtain⟨mv,h⟩:=h;have rr:=Zd h.blk;go_enter Tryz.func31,Tryz.ntmps31;go_wp2;go_ret;exact⟨rfl,Fr.refl _ _⟩
theorem Zbn(b:Nat)(l:List UInt8)(x:Bool)(s:AdS)(S:Nat→Prop)(w:World)(hl:l.length≤1000000)(h:CRd b l x s S w):
 Calls Tryz.prog 52 #[.pointer (some ⟨b,0,none⟩)] w fun r w'=>r=.returned (.bool (decide (l.length≤s.at_)))∧Fr nob w w':=by
 obtain⟨mv,h⟩:=h;have rr:=Zd h.blk;obtain⟨p,hp⟩:∃p,s.at_=p:=⟨_,rfl⟩;rw[hp]at rr⊢;clear h hp;have e:decide (l.length≤p)=decide ((l.length:Int)≤(p:Int)):=by simp
 rw[e];go_enter Tryz.func52,Tryz.ntmps52;go_wp2_with fail;refine region_fr 9 (by kernel_rfl) (by kernel_rfl) ?_;simp only[List.take_succ_cons,List.take_zero,List.drop_succ_cons,List.drop_zero]
 repeat(quiet_step (fail))
 refine wpQuiet_nil ?_;intro wC fC;go_wp2;go_ret;exact⟨rfl,fC⟩
theorem Za9{s:AdS}{e:Int}{p:Nat}(h:s.e=0):failC s e p=⟨p,s.marks,e⟩:=if_pos h
theorem ZmH{s:AdS}{e:Int}{p:Nat}(h:¬s.e=0):failC s e p=s:=if_neg h
theorem cm_fail(b:Nat)(l:List UInt8)(x:Bool)(s:AdS)(S:Nat→Prop)(e:Int)(p:Nat)(w:World)(h:CRd b l x s S w):
 Calls Tryz.prog 53 #[.pointer (some ⟨b,0,none⟩),.int .i64 e,.int .i64 (p:Nat)] w fun r w'=>r=.returned (.tuple #[])∧CRd b l x (failC s e p) S w'∧Stp S w S w':=by
 obtain⟨mv,h⟩:=h;have r1:=Zd h.blk _ (Fr.refl _ _);by_cases h0:s.e=0
 ·rw[Za9 h0];have h2:=h.turned 4 (.int .i64 e) ⟨s.at_,s.marks,e⟩ (by simp) rfl;have h3:=h2.turned 1 (.int .i64 (p:Nat)) ⟨p,s.marks,e⟩ (by simp) rfl;have st:=((h.stp 4 (.int .i64 e)).trans (h2.stp 1 (.int .i64 (p:Nat))));have r2:=Zd h2.blk _ (Fr.refl _ _);have H3:=hid h3;have ST:=hid st;clear h h2 h3 st;rw[h0]at r1;clear h0;go_enter Tryz.func53,Tryz.ntmps53;go_wp2
  go_end0
  exact⟨rfl,⟨mv,H3.out⟩,ST.out⟩
 ·rw[ZmH h0];have h1:(s.e==0)=false:=by simpa using h0
  have H:=hid h;clear h;go_enter Tryz.func53,Tryz.ntmps53;go_wp2
  go_end0
  exact⟨rfl,⟨mv,H.out⟩,Stp.refl _ _⟩
theorem Zk5{l some:List UInt8}{s:AdS}(h:l.length≤s.at_):ZI l s some=false:=by unfold ZI;rw[List.getElem?_eq_none h]
theorem ZmI{l some:List UInt8}{s:AdS}(h:s.at_<l.length):ZI l s some=some.contains l[s.at_]:=by unfold ZI;rw[List.getElem?_eq_getElem h]
theorem Zbo(l:List UInt8)(c:UInt8):decide (0≤Lib.indexByte l c)=l.contains c:=by
 rw[ZbI];cases h:l.contains c with
 |true=>
  have:l.idxOf c<l.length:=List.idxOf_lt_length_of_mem (by simpa using h);rw[if_pos this];simp
 |false=>
  have:¬l.idxOf c<l.length:=fun hh=>by
   have:=List.idxOf_lt_length_iff.1 hh;simp at h;exact h this
  rw[if_neg this];rfl
theorem ZaI(b:Nat)(l:List UInt8)(x:Bool)(s:AdS)(S:Nat→Prop)(t:List UInt8)(w:World)(hl:l.length≤1000000)(h:CRd b l x s S w):
 Calls Tryz.prog 95 #[.pointer (some ⟨b,0,none⟩),.string ⟨t.toArray⟩] w fun r w'=>r=.returned (.bool (ZI l s t))∧Fr nob w w':=by
 have HO:=hid (fun w' (f:Fr nob w w')=>Zbn b l x s S w' hl (h.on f));obtain⟨mv,h⟩:=h;have rr:=Zd h.blk;obtain⟨p,hp⟩:∃p,s.at_=p:=⟨_,rfl⟩;by_cases hin:p<l.length
 ·rw[ZmI (by rw[hp];exact hin),←Zbo];have hd:decide (l.length≤s.at_)=false:=by rw[hp];simp;exact hin
  rw[hd]at HO;simp only[hp]at rr⊢;have HI:=hid (fun w'=>strings_IndexByte t (l[p].toNat:Int) w');have hb:((l[p].toNat:Int)).toNat.toUInt8=l[p]:=ZaY _;rw[hb]at HI;obtain⟨z,hz⟩:∃z,Lib.indexByte t l[p]=z:=⟨_,rfl⟩;rw[hz]at HI⊢;clear h hp hd hz hb;go_enter Tryz.func95,Tryz.ntmps95;go_wp2_with fail;refine region_fr 14 (by kernel_rfl) (by kernel_rfl) ?_;simp only[List.take_succ_cons,List.take_zero,List.drop_succ_cons,List.drop_zero]
  repeat(go_big_quiet_step ((with_reducible exact calls_fr (HO.out _ (grown_fr _ _ _)))))
  refine wpQuiet_nil ?_;intro wC fC;go_wp2_with(refine(HI.out _).mono ?_;rintro e w' ⟨rfl,rfl⟩);go_ret;exact⟨rfl,fC⟩
 ·rw[Zk5 (by rw[hp];omega)];have hd:decide (l.length≤s.at_)=true:=by rw[hp];simp;omega
  rw[hd]at HO;simp only[hp]at rr⊢;clear h hp hd;go_enter Tryz.func95,Tryz.ntmps95;go_wp2_with fail;refine region_fr 14 (by kernel_rfl) (by kernel_rfl) ?_;simp only[List.take_succ_cons,List.take_zero,List.drop_succ_cons,List.drop_zero]
  repeat(go_big_quiet_step ((with_reducible exact calls_fr (HO.out _ (grown_fr _ _ _)))))
  refine wpQuiet_nil ?_;intro wC fC;go_wp2;go_ret;exact⟨rfl,fC⟩
def ZqC(b:Nat)(l:List UInt8)(x:Bool)(S:Nat→Prop)(w:World)(s':AdS)(w':World):Prop:=∃S',CRd b l x s' S' w'∧Stp S w S' w'
theorem cm_mark(b:Nat)(l:List UInt8)(x:Bool)(s:AdS)(S:Nat→Prop)(p:Nat)(t:List UInt8)(w:World)(hm:s.marks.length≤1000000)(h:CRd b l x s S w):
 Calls Tryz.prog 57 #[.pointer (some ⟨b,0,none⟩),.int .i64 (p:Nat),.string ⟨t.toArray⟩] w fun r w'=>r=.returned (.tuple #[])∧ZqC b l x S w (Zan s p t) w':=by
 obtain⟨mv,h⟩:=h;obtain⟨a3,c3,rfl⟩:=Zb h.ma;obtain⟨i0,hi,hz0,hz1,hz2⟩:=info_parts Zbv;have r1:=Zd h.blk;have H:=hid h;clear h;go_enter Tryz.func57,Tryz.ntmps57;go_wp2_with(at_builtin;refine wpList_append_g rfl _ _ 36 rfl 55 i0 (.agg #[.int .i64 0,.string ByteArray.empty]) 2 24 Tryz.underlying36 hi hz0 hz1 hz2 rfl (by decide) _ _ _ rfl (ownsRow_fr H.out.ma ((Fr.refl nob w).alloc _) (fun _ _ x=>x)) ⟨w.heap.size,0,none⟩ 1 1 [.int .i64 (p:Nat),.string ⟨t.toArray⟩] rfl rfl ?c1 ?c2 ?c3 ?c4 ?_)
 case c1=>exact Zdg (t:=t) (newAt0 w _)
 case c2=>exact Zf1 (t:=t)
 case c3=>unfold maxLen;show s.marks.length+1≤_;omega
 case c4=>show(s.marks.length+1)*24≤_;omega
 intro v' w4 hown' hap;obtain⟨av,cv4,rfl⟩:=Zb hown';obtain⟨⟨pc,pf⟩,h5,st5⟩:=H.out.push ((Fr.refl nob w).alloc _) hap (k:=p) (t:=t) hown';have H5:=hid h5;have ST5:=hid st5;clear hown' hap h5 st5 r1;go_wp2
 go_end0
 exact⟨rfl,_,⟨_,H5.out⟩,ST5.out⟩
theorem Zjr{s:AdS}{e:Int}{p:Nat}(h:s.e=0):ZV s p e=⟨p,s.marks,e⟩:=if_pos h
theorem Zk6{s:AdS}{e:Int}{p:Nat}(h:¬s.e=0):ZV s p e=s:=if_neg h
theorem cm_moved(b:Nat)(l:List UInt8)(x:Bool)(s:AdS)(S:Nat→Prop)(e:Int)(p:Nat)(w:World)(h:CRd b l x s S w):
 Calls Tryz.prog 116 #[.pointer (some ⟨b,0,none⟩),.int .i64 (p:Nat),.int .i64 e] w fun r w'=>r=.returned (.bool (s.e==0&&(ZV s p e).e==0))∧CRd b l x (ZV s p e) S w'∧Stp S w S w':=by
 have HK:=hid (cm_ok b l x s S w h);obtain⟨mv,h⟩:=h;by_cases h0:s.e=0
 ·rw[Zjr h0];have e1:(s.e==0)=true:=by simpa using h0
  rw[e1]at HK⊢;have H:=hid h;clear h;go_enter Tryz.func116,Tryz.ntmps116;go_wp2_with fail;refine HK.out.mono ?_;rintro z w1 ⟨rfl,f1⟩;have h:=H.out.on f1;have r1:=Zd h.blk _ (Fr.refl _ _);have h2:=h.turned 1 (.int .i64 (p:Nat)) ⟨p,s.marks,s.e⟩ (by simp) rfl;have h3:=h2.turned 4 (.int .i64 e) ⟨p,s.marks,e⟩ (by simp) rfl;have st:=(Stp.of f1).trans ((h.stp 1 (.int .i64 (p:Nat))).trans (h2.stp 4 (.int .i64 e)));have r2:=Zd h2.blk _ (Fr.refl _ _);obtain⟨w2,hw2⟩:∃w2,w2=(w1.setCell ⟨b,1,none⟩ (.int .i64 (p:Nat))).setCell ⟨b,4,none⟩ (.int .i64 e):=⟨_,rfl⟩;rw[←hw2]at h3 st;have HK2:=hid (cm_ok b l x ⟨p,s.marks,e⟩ S w2 ⟨mv,h3⟩);have H3:=hid h3;have ST:=hid st;have HW2:=hid hw2;clear h h2 h3 st hw2 f1;go_wp2_with(rw[←HW2.out]);refine HK2.out.mono ?_;rintro z w3 ⟨rfl,f3⟩;clear r1 r2;go_wp2;go_ret;exact⟨rfl,⟨mv,H3.out.on f3⟩,ST.out.trans (Stp.of f3)⟩
 ·rw[Zk6 h0];have e1:(s.e==0)=false:=by simpa using h0
  rw[e1]at HK⊢;have H:=hid h;clear h;go_enter Tryz.func116,Tryz.ntmps116;go_wp2_with fail;refine HK.out.mono ?_;rintro z w1 ⟨rfl,f1⟩;go_wp2;go_ret;exact⟨rfl,⟨mv,H.out.on f1⟩,Stp.of f1⟩
theorem Zgr(w:World):Calls Tryz.prog 54 #[.int .u8 125] w fun r w'=>r=.returned (.int .i64 0)∧Fr nob w w':=by
 go_enter Tryz.func54,Tryz.ntmps54;go_wp2;go_ret;exact⟨rfl,Fr.refl _ _⟩
theorem ZhG(w:World):Calls Tryz.prog 54 #[.int .u8 58] w fun r w'=>r=.returned (.int .i64 0)∧Fr nob w w':=by
 go_enter Tryz.func54,Tryz.ntmps54;go_wp2;go_ret;exact⟨rfl,Fr.refl _ _⟩
theorem ZhH(w:World):Calls Tryz.prog 54 #[.int .u8 61] w fun r w'=>r=.returned (.int .i64 1)∧Fr nob w w':=by
 go_enter Tryz.func54,Tryz.ntmps54;go_wp2;go_ret;exact⟨rfl,Fr.refl _ _⟩
theorem Zgs(w:World):Calls Tryz.prog 54 #[.int .u8 113] w fun r w'=>r=.returned (.int .i64 1)∧Fr nob w w':=by
 go_enter Tryz.func54,Tryz.ntmps54;go_wp2;go_ret;exact⟨rfl,Fr.refl _ _⟩
theorem ZhI(w:World):Calls Tryz.prog 54 #[.int .u8 81] w fun r w'=>r=.returned (.int .i64 1)∧Fr nob w w':=by
 go_enter Tryz.func54,Tryz.ntmps54;go_wp2;go_ret;exact⟨rfl,Fr.refl _ _⟩
theorem ZhJ(w:World):Calls Tryz.prog 54 #[.int .u8 97] w fun r w'=>r=.returned (.int .i64 1)∧Fr nob w w':=by
 go_enter Tryz.func54,Tryz.ntmps54;go_wp2;go_ret;exact⟨rfl,Fr.refl _ _⟩
theorem Zgt(w:World):Calls Tryz.prog 54 #[.int .u8 105] w fun r w'=>r=.returned (.int .i64 1)∧Fr nob w w':=by
 go_enter Tryz.func54,Tryz.ntmps54;go_wp2;go_ret;exact⟨rfl,Fr.refl _ _⟩
theorem Zgu(w:World):Calls Tryz.prog 54 #[.int .u8 114] w fun r w'=>r=.returned (.int .i64 1)∧Fr nob w w':=by
 go_enter Tryz.func54,Tryz.ntmps54;go_wp2;go_ret;exact⟨rfl,Fr.refl _ _⟩
theorem Zgv(w:World):Calls Tryz.prog 54 #[.int .u8 123] w fun r w'=>r=.returned (.int .i64 2)∧Fr nob w w':=by
 go_enter Tryz.func54,Tryz.ntmps54;go_wp2;go_ret;exact⟨rfl,Fr.refl _ _⟩
theorem Zgw(w:World):Calls Tryz.prog 54 #[.int .u8 100] w fun r w'=>r=.returned (.int .i64 2)∧Fr nob w w':=by
 go_enter Tryz.func54,Tryz.ntmps54;go_wp2;go_ret;exact⟨rfl,Fr.refl _ _⟩
theorem ZhK(w:World):Calls Tryz.prog 54 #[.int .u8 68] w fun r w'=>r=.returned (.int .i64 2)∧Fr nob w w':=by
 go_enter Tryz.func54,Tryz.ntmps54;go_wp2;go_ret;exact⟨rfl,Fr.refl _ _⟩
theorem Zgx(w:World):Calls Tryz.prog 54 #[.int .u8 103] w fun r w'=>r=.returned (.int .i64 2)∧Fr nob w w':=by
 go_enter Tryz.func54,Tryz.ntmps54;go_wp2;go_ret;exact⟨rfl,Fr.refl _ _⟩
theorem ZhL(w:World):Calls Tryz.prog 54 #[.int .u8 71] w fun r w'=>r=.returned (.int .i64 2)∧Fr nob w w':=by
 go_enter Tryz.func54,Tryz.ntmps54;go_wp2;go_ret;exact⟨rfl,Fr.refl _ _⟩
theorem Zgy(w:World):Calls Tryz.prog 54 #[.int .u8 104] w fun r w'=>r=.returned (.int .i64 2)∧Fr nob w w':=by
 go_enter Tryz.func54,Tryz.ntmps54;go_wp2;go_ret;exact⟨rfl,Fr.refl _ _⟩
theorem ZhM(w:World):Calls Tryz.prog 54 #[.int .u8 72] w fun r w'=>r=.returned (.int .i64 2)∧Fr nob w w':=by
 go_enter Tryz.func54,Tryz.ntmps54;go_wp2;go_ret;exact⟨rfl,Fr.refl _ _⟩
theorem Zgz(w:World):Calls Tryz.prog 54 #[.int .u8 108] w fun r w'=>r=.returned (.int .i64 2)∧Fr nob w w':=by
 go_enter Tryz.func54,Tryz.ntmps54;go_wp2;go_ret;exact⟨rfl,Fr.refl _ _⟩
theorem ZgA(w:World):Calls Tryz.prog 54 #[.int .u8 110] w fun r w'=>r=.returned (.int .i64 2)∧Fr nob w w':=by
 go_enter Tryz.func54,Tryz.ntmps54;go_wp2;go_ret;exact⟨rfl,Fr.refl _ _⟩
theorem ZhN(w:World):Calls Tryz.prog 54 #[.int .u8 78] w fun r w'=>r=.returned (.int .i64 2)∧Fr nob w w':=by
 go_enter Tryz.func54,Tryz.ntmps54;go_wp2;go_ret;exact⟨rfl,Fr.refl _ _⟩
theorem ZgB(w:World):Calls Tryz.prog 54 #[.int .u8 112] w fun r w'=>r=.returned (.int .i64 2)∧Fr nob w w':=by
 go_enter Tryz.func54,Tryz.ntmps54;go_wp2;go_ret;exact⟨rfl,Fr.refl _ _⟩
theorem ZhO(w:World):Calls Tryz.prog 54 #[.int .u8 80] w fun r w'=>r=.returned (.int .i64 2)∧Fr nob w w':=by
 go_enter Tryz.func54,Tryz.ntmps54;go_wp2;go_ret;exact⟨rfl,Fr.refl _ _⟩
theorem ZgC(w:World):Calls Tryz.prog 54 #[.int .u8 120] w fun r w'=>r=.returned (.int .i64 2)∧Fr nob w w':=by
 go_enter Tryz.func54,Tryz.ntmps54;go_wp2;go_ret;exact⟨rfl,Fr.refl _ _⟩
theorem ZgD(w:World):Calls Tryz.prog 54 #[.int .u8 122] w fun r w'=>r=.returned (.int .i64 2)∧Fr nob w w':=by
 go_enter Tryz.func54,Tryz.ntmps54;go_wp2;go_ret;exact⟨rfl,Fr.refl _ _⟩
theorem ZhP(w:World):Calls Tryz.prog 54 #[.int .u8 98] w fun r w'=>r=.returned (.int .i64 2)∧Fr nob w w':=by
 go_enter Tryz.func54,Tryz.ntmps54;go_wp2;go_ret;exact⟨rfl,Fr.refl _ _⟩
theorem ZgE(w:World):Calls Tryz.prog 54 #[.int .u8 116] w fun r w'=>r=.returned (.int .i64 2)∧Fr nob w w':=by
 go_enter Tryz.func54,Tryz.ntmps54;go_wp2;go_ret;exact⟨rfl,Fr.refl _ _⟩
theorem ZhQ(w:World):Calls Tryz.prog 54 #[.int .u8 84] w fun r w'=>r=.returned (.int .i64 2)∧Fr nob w w':=by
 go_enter Tryz.func54,Tryz.ntmps54;go_wp2;go_ret;exact⟨rfl,Fr.refl _ _⟩
theorem ZhR(w:World):Calls Tryz.prog 54 #[.int .u8 99] w fun r w'=>r=.returned (.int .i64 2)∧Fr nob w w':=by
 go_enter Tryz.func54,Tryz.ntmps54;go_wp2;go_ret;exact⟨rfl,Fr.refl _ _⟩
theorem ZgF(w:World):Calls Tryz.prog 54 #[.int .u8 119] w fun r w'=>r=.returned (.int .i64 2)∧Fr nob w w':=by
 go_enter Tryz.func54,Tryz.ntmps54;go_wp2;go_ret;exact⟨rfl,Fr.refl _ _⟩
theorem ZgG(w:World):Calls Tryz.prog 54 #[.int .u8 115] w fun r w'=>r=.returned (.int .i64 2)∧Fr nob w w':=by
 go_enter Tryz.func54,Tryz.ntmps54;go_wp2;go_ret;exact⟨rfl,Fr.refl _ _⟩
theorem ZgH(w:World):Calls Tryz.prog 54 #[.int .u8 121] w fun r w'=>r=.returned (.int .i64 2)∧Fr nob w w':=by
 go_enter Tryz.func54,Tryz.ntmps54;go_wp2;go_ret;exact⟨rfl,Fr.refl _ _⟩
theorem ZdQ(n:UInt8)(w:World):Calls Tryz.prog 54 #[.int .u8 (n.toNat:Int)] w fun r w'=>r=.returned (.int .i64 (ZM n))∧Fr nob w w':=by
 by_cases h125:n=125
 ·subst h125;exact Zgr w
 by_cases h58:n=58
 ·subst h58;exact ZhG w
 by_cases h61:n=61
 ·subst h61;exact ZhH w
 by_cases h113:n=113
 ·subst h113;exact Zgs w
 by_cases h81:n=81
 ·subst h81;exact ZhI w
 by_cases h97:n=97
 ·subst h97;exact ZhJ w
 by_cases h105:n=105
 ·subst h105;exact Zgt w
 by_cases h114:n=114
 ·subst h114;exact Zgu w
 by_cases h123:n=123
 ·subst h123;exact Zgv w
 by_cases h100:n=100
 ·subst h100;exact Zgw w
 by_cases h68:n=68
 ·subst h68;exact ZhK w
 by_cases h103:n=103
 ·subst h103;exact Zgx w
 by_cases h71:n=71
 ·subst h71;exact ZhL w
 by_cases h104:n=104
 ·subst h104;exact Zgy w
 by_cases h72:n=72
 ·subst h72;exact ZhM w
 by_cases h108:n=108
 ·subst h108;exact Zgz w
 by_cases h110:n=110
 ·subst h110;exact ZgA w
 by_cases h78:n=78
 ·subst h78;exact ZhN w
 by_cases h112:n=112
 ·subst h112;exact ZgB w
 by_cases h80:n=80
 ·subst h80;exact ZhO w
 by_cases h120:n=120
 ·subst h120;exact ZgC w
 by_cases h122:n=122
 ·subst h122;exact ZgD w
 by_cases h98:n=98
 ·subst h98;exact ZhP w
 by_cases h116:n=116
 ·subst h116;exact ZgE w
 by_cases h84:n=84
 ·subst h84;exact ZhQ w
 by_cases h99:n=99
 ·subst h99;exact ZhR w
 by_cases h119:n=119
 ·subst h119;exact ZgF w
 by_cases h115:n=115
 ·subst h115;exact ZgG w
 by_cases h121:n=121
 ·subst h121;exact ZgH w
 have t125:((n.toNat:Int)==125)=false:=Zn (b:=125) h125;have t58:((n.toNat:Int)==58)=false:=Zn (b:=58) h58;have t61:((n.toNat:Int)==61)=false:=Zn (b:=61) h61;have t113:((n.toNat:Int)==113)=false:=Zn (b:=113) h113;have t81:((n.toNat:Int)==81)=false:=Zn (b:=81) h81;have t97:((n.toNat:Int)==97)=false:=Zn (b:=97) h97;have t105:((n.toNat:Int)==105)=false:=Zn (b:=105) h105;have t114:((n.toNat:Int)==114)=false:=Zn (b:=114) h114;have t123:((n.toNat:Int)==123)=false:=Zn (b:=123) h123;have t100:((n.toNat:Int)==100)=false:=Zn (b:=100) h100;have t68:((n.toNat:Int)==68)=false:=Zn (b:=68) h68;have t103:((n.toNat:Int)==103)=false:=Zn (b:=103) h103;have t71:((n.toNat:Int)==71)=false:=Zn (b:=71) h71;have t104:((n.toNat:Int)==104)=false:=Zn (b:=104) h104;have t72:((n.toNat:Int)==72)=false:=Zn (b:=72) h72;have t108:((n.toNat:Int)==108)=false:=Zn (b:=108) h108
 have t110:((n.toNat:Int)==110)=false:=Zn (b:=110) h110;have t78:((n.toNat:Int)==78)=false:=Zn (b:=78) h78;have t112:((n.toNat:Int)==112)=false:=Zn (b:=112) h112;have t80:((n.toNat:Int)==80)=false:=Zn (b:=80) h80;have t120:((n.toNat:Int)==120)=false:=Zn (b:=120) h120;have t122:((n.toNat:Int)==122)=false:=Zn (b:=122) h122;have t98:((n.toNat:Int)==98)=false:=Zn (b:=98) h98;have t116:((n.toNat:Int)==116)=false:=Zn (b:=116) h116;have t84:((n.toNat:Int)==84)=false:=Zn (b:=84) h84;have t99:((n.toNat:Int)==99)=false:=Zn (b:=99) h99;have t119:((n.toNat:Int)==119)=false:=Zn (b:=119) h119;have t115:((n.toNat:Int)==115)=false:=Zn (b:=115) h115;have t121:((n.toNat:Int)==121)=false:=Zn (b:=121) h121;have e:ZM n= -1:=by unfold ZM;rw[if_neg (by rintro(h|h);exact h125 h;exact h58 h),if_neg (by rintro(h|h|h|h|h|h);exact h61 h;exact h113 h;exact h81 h;exact h97 h;exact h105 h;exact h114 h),if_neg (by rintro(h|h|h|h|h|h|h|h|h|h|h|h|h|h|h|h|h|h|h|h|h);exact h123 h;exact h100 h;exact h68 h;exact h103 h;exact h71 h;exact h104 h;exact h72 h;exact h108 h;exact h110 h;exact h78 h;exact h112 h;exact h80 h;exact h120 h;exact h122 h;exact h98 h;exact h116 h;exact h84 h;exact h99 h;exact h119 h;exact h115 h;exact h121 h)]
 rw[e];clear e h125 h58 h61 h113 h81 h97 h105 h114 h123 h100 h68 h103 h71 h104 h72 h108 h110 h78 h112 h80 h120 h122 h98 h116 h84 h99 h119 h115 h121;go_enter Tryz.func54,Tryz.ntmps54;go_wp2;go_ret;exact⟨rfl,Fr.refl _ _⟩
theorem ZhS(g:GV)(v:Value)(w:World)(h:Zni nob w g v):Calls Tryz.prog 55 #[v] w fun r w'=>r=.returned (.int .i64 (ZcD g))∧Fr nob w w':=by
 obtain⟨⟨k1,n1,t1,d1⟩,⟨k2,n2,t2,d2⟩,no⟩:=g;obtain⟨u1,u2,rfl,r1,r2⟩:=h;have o1:=r1.shape;have o2:=r2.shape;clear r1 r2;unfold ZcD;simp only;rcases o1 with rfl|⟨i1,y1,rfl⟩<;>rcases o2 with rfl|⟨i2,y2,rfl⟩
 all_goals
  by_cases h2:k2=0
  ·subst h2;rw[if_neg (by simp)];by_cases h1:k1=0
   ·subst h1;rw[if_neg (by simp)];go_enter Tryz.func55,Tryz.ntmps55;go_wp2;go_ret;exact⟨rfl,(Fr.refl _ _).alloc _⟩
   ·have e1:(k1 !=0)=true:=by simpa using h1
    rw[if_pos h1];go_enter Tryz.func55,Tryz.ntmps55;go_wp2;go_ret;exact⟨rfl,(Fr.refl _ _).alloc _⟩
  ·have e2:(k2 !=0)=true:=by simpa using h2
   rw[if_pos h2];go_enter Tryz.func55,Tryz.ntmps55;go_wp2;go_ret;exact⟨rfl,(Fr.refl _ _).alloc _⟩
theorem Zjs(D:List UInt8)(w:World)(h:D.length≤1000000):Calls Tryz.prog 115 #[.string ⟨D.toArray⟩,.string ⟨#[10,59]⟩] w fun e w'=>e=.returned (.int .i64 (if(Zcv D true).length<D.length then((Zcv D true).length:Int)else -1))∧Fr nob w w':=by
 have:=ZcX D true w h;rw[ZbT]at this;exact this
theorem ZdR(b:Nat)(l:List UInt8)(x must:Bool)(s:AdS)(S:Nat→Prop)(w:World)(hl:l.length≤99000)(ha:s.at_≤l.length)(h:CRd b l x s S w):
 Calls Tryz.prog 89 #[.pointer (some ⟨b,0,none⟩),.bool must] w fun r w'=>r=.returned (.string ⟨(labelC l must s).1.toArray⟩)∧CRd b l x (labelC l must s).2 S w'∧Stp S w S w':=by
 have HN:=hid (fun w'=>Ziq l s.at_ true w' (by omega) ha);have HI:=hid (fun w'=>Zjs (l.drop s.at_) w' (by rw[List.length_drop];omega));have hul:=Zec (l.drop s.at_) true;have hut:=Zgi (l.drop s.at_) true;have HM:=hid (fun(p:Nat) (e:Int) w' (f:Fr nob w w')=>cm_moved b l x s S e p w' (h.on f));have HF:=hid (fun(p:Nat) (e:Int)=>show(if(ZcI l s.at_ true).2.2=14∧must=false then p=s.at_+(Zcv (l.drop s.at_) true).length∧e=0 else p=(ZcI l s.at_ true).2.1∧e=(ZcI l s.at_ true).2.2)→labelC l must s=((ZcI l s.at_ true).1,ZV s p e)from by
  intro h;unfold labelC;split at h
  ·next hc=>rw[if_pos hc,h.1,h.2]
  ·next hc=>rw[if_neg hc,h.1,h.2])
 obtain⟨mv,h⟩:=h;have rr:=Zd h.blk;obtain⟨p0,ms,e0⟩:=s;simp only at HN HI HF hul hut ha rr;have hul2:(Zcv (l.drop p0) true).length≤l.length-p0:=by rw[List.length_drop]at hul;exact hul
 have hwin:(Zcv (l.drop p0) true).length<(l.drop p0).length→(l.drop p0).take (Zcv (l.drop p0) true).length=Zcv (l.drop p0) true:=fun _=>hut;have hwhole:¬(Zcv (l.drop p0) true).length<(l.drop p0).length→Zcv (l.drop p0) true=l.drop p0:=fun hn=>by rw[←hut];exact List.take_of_length_le (by omega)
 obtain⟨U,hU⟩:∃U,Zcv (l.drop p0) true=U:=⟨_,rfl⟩;rw[hU]at HI HF hul hul2 hwin hwhole;obtain⟨D,hD⟩:∃D,l.drop p0=D:=⟨_,rfl⟩;have HD:=hid hD;rw[hD]at HI hul hwin hwhole;obtain⟨NL,hNL⟩:∃NL,ZcI l p0 true=NL:=⟨_,rfl⟩;obtain⟨nt,nq,nz⟩:=NL;rw[hNL]at HN HF;simp only at HN HF;have HUL:=hid hul;have HWN:=hid hwin;have HWH:=hid hwhole;have HUL2:=hid hul2;clear h hut hU hNL hul hwin hwhole hul2 hD;by_cases hc:nz=14∧must=false
 ·obtain⟨rfl,rfl⟩:=hc;have hE:=HF.out (p0+U.length) 0 (by simp);rw[hE];clear hE HF;have hl2:(p0:Int)≤l.length:=by omega
  go_enter Tryz.func89,Tryz.ntmps89;go_wp2_with fail;refine region_fr 15 (by kernel_rfl) (by kernel_rfl) ?_;simp only[List.take_succ_cons,List.take_zero,List.drop_succ_cons,List.drop_zero]
  repeat(quiet_step (with_reducible exact calls_fr (HN.out _)))
  refine wpQuiet_nil ?_;intro wC fC;go_wp2_with fail;refine region_fr 8 (by kernel_rfl) (by kernel_rfl) ?_;simp only[List.take_succ_cons,List.take_zero,List.drop_succ_cons,List.drop_zero]
  repeat(quiet_step (fail))
  refine wpQuiet_nil ?_;intro wD fD';have fD:=fC.trans' fD';clear fC fD';by_cases hlt:U.length<D.length
  ·have hI:=HI.out;simp only[if_pos hlt]at hI;have HI2:=hid hI;have hq:=HWN.out hlt;have h0:(0:Int)≤U.length:=by omega
   have h1:(U.length:Int)≤D.length:=by omega
   clear hI HI hlt;go_wp2_with fail;rw[HD.out];refine(HI2.out _).mono ?_;rintro z w1 ⟨rfl,f1⟩;have f2:=fD.trans' f1;clear fD f1;have hsl:(ByteArray.mk D.toArray).extract 0 U.length=⟨U.toArray⟩:=by rw[Zm8];simp[hq]
   have hb:(U.length:Int)≤100000:=by have:=HUL2.out;omega
   have hM:=HM.out (p0+U.length) 0 w1 f2;rw[show((p0+U.length:Nat):Int)=(p0:Int)+(U.length:Int) by omega]at hM;have HM2:=hid hM;clear hM hq;go_wp2_with fail;refine HM2.out.mono ?_;rintro z w2 ⟨rfl,h2,st2⟩;clear rr hsl;go_wp2;go_ret;exact⟨rfl,h2,(Stp.of f2).trans st2⟩
  ·have hI:=HI.out;simp only[if_neg hlt]at hI;have HI2:=hid hI;have hUD:=HWH.out hlt;have hb:(D.length:Int)≤100000:=by rw[←hUD];have:=HUL2.out;omega
   clear hI HI hlt;go_wp2_with fail;rw[HD.out];refine(HI2.out _).mono ?_;rintro z w1 ⟨rfl,f1⟩;have f2:=fD.trans' f1;clear fD f1;have hM:=HM.out (p0+U.length) 0 w1 f2;rw[show((p0+U.length:Nat):Int)=(p0:Int)+(D.length:Int) by rw[hUD];omega]at hM;have HM2:=hid hM;clear hM hUD;go_wp2_with fail;refine HM2.out.mono ?_;rintro z w2 ⟨rfl,h2,st2⟩;clear rr;go_wp2;go_ret;exact⟨rfl,h2,(Stp.of f2).trans st2⟩
 ·have hE:=HF.out nq nz (by rw[if_neg hc];exact⟨rfl,rfl⟩);rw[hE];clear hE HF;have hc':(nz==14)=false∨((nz==14)=true∧must=true):=by
   by_cases h14:nz=14
   ·exact .inr ⟨by simpa using h14,by cases must with|true=>rfl|false=>exact absurd ⟨h14,rfl⟩ hc⟩
   ·exact .inl (by simpa using h14)
  clear hc;rcases hc' with h1|⟨h1,rfl⟩
  all_goals
   go_enter Tryz.func89,Tryz.ntmps89;go_wp2_with fail;refine region_fr 15 (by kernel_rfl) (by kernel_rfl) ?_;simp only[List.take_succ_cons,List.take_zero,List.drop_succ_cons,List.drop_zero]
   repeat(quiet_step (with_reducible exact calls_fr (HN.out _)))
   refine wpQuiet_nil ?_;intro wC fC;go_wp2_with fail;refine(HM.out _ _ _ fC).mono ?_;rintro z w2 ⟨rfl,h2,st2⟩;clear rr;go_wp2;go_ret;exact⟨rfl,h2,(Stp.of fC).trans st2⟩
theorem ZhT(b:Nat)(l:List UInt8)(x:Bool)(s:AdS)(S:Nat→Prop)(w:World)(hl:l.length≤99000)(ha:s.at_≤l.length)(h:CRd b l x s S w):
 Calls Tryz.prog 91 #[.pointer (some ⟨b,0,none⟩)] w fun r w'=>r=.returned (.string ⟨(ZaR l s).1.toArray⟩)∧CRd b l x (ZaR l s).2 S w'∧Stp S w S w':=by
 have HN:=hid (fun w'=>Ziq l s.at_ false w' (by omega) ha);have HX:=hid (ZaI b l x s S [32,9] w (by omega) h);have HM:=hid (fun(p:Nat) (e:Int) w' (f:Fr nob w w')=>cm_moved b l x s S e p w' (h.on f));have HFA:=hid (fun w' (f:Fr nob w w')=>cm_fail b l x s S 2 s.at_ w' (h.on f));unfold ZaR;obtain⟨q,hq⟩:∃q,ZI l s [32,9]=q:=⟨_,rfl⟩;rw[hq]at HX⊢;obtain⟨mv,h⟩:=h;have rr:=Zd h.blk;obtain⟨p0,ms,e0⟩:=s;simp only at HN HFA rr⊢;obtain⟨NL,hNL⟩:∃NL,ZcI l p0 false=NL:=⟨_,rfl⟩;obtain⟨nt,nq,nz⟩:=NL;rw[hNL]at HN⊢;simp only at HN⊢;clear h hNL hq;cases q with
 |false=>
  rw[if_pos rfl];go_enter Tryz.func91,Tryz.ntmps91;go_wp2_with fail;refine HX.out.mono ?_;rintro z w1 ⟨rfl,f1⟩;go_wp2_with fail;refine(HFA.out _ f1).mono ?_;rintro z w2 ⟨rfl,h2,st2⟩;clear rr;go_wp2;go_ret;exact⟨rfl,h2,(Stp.of f1).trans st2⟩
 |true=>
  rw[if_neg (by simp)];go_enter Tryz.func91,Tryz.ntmps91;go_wp2_with fail;refine HX.out.mono ?_;rintro z w1 ⟨rfl,f1⟩;go_wp2_with fail;refine region_fr 15 (by kernel_rfl) (by kernel_rfl) ?_;simp only[List.take_succ_cons,List.take_zero,List.drop_succ_cons,List.drop_zero]
  repeat(quiet_step (with_reducible exact calls_fr (HN.out _)))
  refine wpQuiet_nil ?_;intro wC fC';have fC:=f1.trans' fC';clear f1 fC';go_wp2_with fail;refine(HM.out _ _ _ fC).mono ?_;rintro z w2 ⟨rfl,h2,st2⟩;clear rr;go_wp2;go_ret;exact⟨rfl,h2,(Stp.of fC).trans st2⟩
theorem Zck(b:Nat)(l:List UInt8)(d:UInt8)(x rx:Bool)(s:AdS)(S:Nat→Prop)(w:World)(hl:l.length≤99000)(ha:s.at_≤l.length)(h:CRd b l x s S w):
 Calls Tryz.prog 120 #[.pointer (some ⟨b,0,none⟩),.int .u8 (d.toNat:Int),.bool rx] w fun r w'=>r=.returned (.string ⟨(Zr l d rx s).1.toArray⟩)∧CRd b l x (Zr l d rx s).2 S w'∧Stp S w S w':=by
 have HN:=hid (fun w'=>Zg0 l s.at_ d rx w' (by omega) ha);have HX:=hid (cm_ok b l x s S w h);have HM:=hid (fun(p:Nat) (e:Int) w' (f:Fr nob w w')=>cm_moved b l x s S e p w' (h.on f));unfold Zr;have H:=hid h;obtain⟨mv,h⟩:=h;have rr:=Zd h.blk;obtain⟨p0,ms,e0⟩:=s;simp only at HN HX rr⊢;obtain⟨NL,hNL⟩:∃NL,bt l d rx (l.length+1) p0 []=NL:=⟨_,rfl⟩;obtain⟨nt,nq,nz⟩:=NL;rw[hNL]at HN⊢;simp only at HN⊢;clear h hNL;by_cases h0:e0=0
 ·subst h0;rw[if_neg (by simp)];go_enter Tryz.func120,Tryz.ntmps120;go_wp2_with fail;refine HX.out.mono ?_;rintro z w1 ⟨rfl,f1⟩;go_wp2_with fail;refine region_fr 17 (by kernel_rfl) (by kernel_rfl) ?_;simp only[List.take_succ_cons,List.take_zero,List.drop_succ_cons,List.drop_zero]
  repeat(quiet_step (with_reducible exact calls_fr (HN.out _)))
  refine wpQuiet_nil ?_;intro wC fC';have fC:=f1.trans' fC';clear f1 fC';go_wp2_with fail;refine(HM.out _ _ _ fC).mono ?_;rintro z w2 ⟨rfl,h2,st2⟩;clear rr;go_wp2;go_ret;exact⟨rfl,h2,(Stp.of fC).trans st2⟩
 ·rw[if_pos h0];have e1:(e0==0)=false:=by simpa using h0
  rw[e1]at HX;go_enter Tryz.func120,Tryz.ntmps120;go_wp2_with fail;refine HX.out.mono ?_;rintro z w1 ⟨rfl,f1⟩;clear rr;go_wp2;go_ret;exact⟨rfl,H.out.on f1,Stp.of f1⟩
theorem ZiF(b:Nat)(l:List UInt8)(x:Bool)(s:AdS)(S:Nat→Prop)(w:World)(hl:l.length≤99000)(ha:s.at_≤l.length)(h:CRd b l x s S w):
 Calls Tryz.prog 118 #[.pointer (some ⟨b,0,none⟩)] w fun r w'=>r=.returned (.int .u8 ((Zv l s).1.toNat:Int))∧CRd b l x (Zv l s).2 S w'∧Stp S w S w':=by
 have HO:=hid (Zbn b l x s S w (by omega) h);have HX:=hid (fun w' (f:Fr nob w w')=>ZaI b l x s S [92,10] w' (by omega) (h.on f));have HFA:=hid (fun(e:Int) (p:Nat) w' (f:Fr nob w w')=>cm_fail b l x s S e p w' (h.on f));unfold Zv;obtain⟨q,hq⟩:∃q,ZI l s [92,10]=q:=⟨_,rfl⟩;rw[hq]at HX⊢;obtain⟨mv,h⟩:=h;have rr:=Zd h.blk;obtain⟨p0,ms,e0⟩:=s;have H:=hid h;simp only at HO HX HFA ha rr⊢;clear h hq;by_cases hin:l.length≤p0
 ·rw[if_pos hin];have hd:decide (l.length≤p0)=true:=by simpa using hin
  rw[hd]at HO;go_enter Tryz.func118,Tryz.ntmps118;go_wp2_with fail;refine HO.out.mono ?_;rintro z w1 ⟨rfl,f1⟩;go_wp2_with fail;refine(HFA.out 5 l.length _ f1).mono ?_;rintro z w2 ⟨rfl,h2,st2⟩;clear rr;go_wp2;go_ret;exact⟨rfl,h2,(Stp.of f1).trans st2⟩
 ·rw[if_neg hin];have hd:decide (l.length≤p0)=false:=by simpa using hin
  rw[hd]at HO;have hlt:p0<l.length:=by omega
  clear hin hd;cases q with
  |true=>
   rw[if_pos rfl];go_enter Tryz.func118,Tryz.ntmps118;go_wp2_with fail;refine HO.out.mono ?_;rintro z w1 ⟨rfl,f1⟩;go_wp2_with fail;refine(HX.out _ f1).mono ?_;rintro z w2 ⟨rfl,f2'⟩;have f2:=f1.trans' f2';clear f1 f2';go_wp2_with fail;refine(HFA.out 2 p0 _ f2).mono ?_;rintro z w3 ⟨rfl,h2,st2⟩;clear rr;go_wp2;go_ret;exact⟨rfl,h2,(Stp.of f2).trans st2⟩
  |false=>
   rw[if_neg (by simp),ZkQ hlt];go_enter Tryz.func118,Tryz.ntmps118;go_wp2_with fail;refine HO.out.mono ?_;rintro z w1 ⟨rfl,f1⟩;go_wp2_with fail;refine(HX.out _ f1).mono ?_;rintro z w2 ⟨rfl,f2'⟩;have f2:=f1.trans' f2';clear f1 f2' rr;have h2:=H.out.on f2;have r2:=Zd h2.blk _ (Fr.refl _ _);have h3:=h2.turned 1 (.int .i64 ((p0:Int)+1)) ⟨p0+1,ms,e0⟩ (by simp) rfl;have st3:=(Stp.of f2).trans (h2.stp 1 (.int .i64 ((p0:Int)+1)));obtain⟨w3,hw3⟩:∃w3,w3=w2.setCell ⟨b,1,none⟩ (.int .i64 ((p0:Int)+1)):=⟨_,rfl⟩;rw[←hw3]at h3 st3;have rr:=Zd h3.blk;simp only at rr;rw[show((p0+1:Nat):Int)=(p0:Int)+1 by omega]at rr;have H3:=hid h3;have ST3:=hid st3;have HW3:=hid hw3;clear h2 h3 st3 hw3 f2;go_wp2_with(rw[←HW3.out]);clear r2;refine region_fr 9 (by kernel_rfl) (by kernel_rfl) ?_;simp only[List.take_succ_cons,List.take_zero,List.drop_succ_cons,List.drop_zero]
   repeat(quiet_step (fail))
   refine wpQuiet_nil ?_;intro wC fC;go_wp2;go_ret;exact⟨rfl,⟨mv,H3.out.on fC⟩,ST3.out.trans (Stp.of fC)⟩
theorem ZgI{l:List UInt8}{p:Nat}(hl:l.length≤99000)(ha:p≤l.length)(w:World):Calls Tryz.prog 94 #[.string ⟨l.toArray⟩,.int .i64 (p:Nat)] w fun e w'=>e=.returned (.int .i64 (bhd l [32,9] p:Nat))∧Fr nob w w':=by
 have:=ZeK l (p:Int) w (by omega);rw[if_neg (by omega),Int.toNat_natCast]at this;exact this
theorem Zop{l:List UInt8}{s:AdS}{q:Nat}(hq:bhd l [32,9] s.at_=q):Zjq l s=if decide (l.length≤q)=true then s.to q else if ZI l (s.to q) [59,10,35]=true then s.to q else if ZI l (s.to q) [125]=true then Zan (s.to q) q [125]else failC (s.to q) 17 q:=by
 subst hq;unfold Zjq;simp only;generalize hq:bhd l [32,9] s.at_=q;have e:(s.to q).at_=q:=rfl;rw[e];by_cases h1:l.length≤q
 ·rw[if_pos (.inl h1),if_pos (by simpa using h1)]
 ·rw[if_neg (c:=decide (l.length≤q)=true) (by simpa using h1)];by_cases h2:ZI l (s.to q) [59,10,35]=true
  ·rw[if_pos (.inr h2),if_pos h2]
  ·rw[if_neg (by rintro(h|h);exact h1 h;exact h2 h),if_neg h2]
theorem cm_end(b:Nat)(l:List UInt8)(x:Bool)(s:AdS)(S:Nat→Prop)(w:World)(hl:l.length≤99000)(ha:s.at_≤l.length)(hm:s.marks.length≤1000000)(h:CRd b l x s S w):
 Calls Tryz.prog 59 #[.pointer (some ⟨b,0,none⟩)] w fun r w'=>r=.returned (.tuple #[])∧ZqC b l x S w (Zjq l s) w':=by
 have HB:=hid (fun w'=>ZgI (l:=l) (p:=s.at_) hl ha w');obtain⟨q,hq⟩:∃q,bhd l [32,9] s.at_=q:=⟨_,rfl⟩;rw[Zop hq];rw[hq]at HB;obtain⟨p0,ms,e0⟩:=s;obtain⟨mv,h⟩:=h;have rr:=Zd h.blk;simp only[AdS.to]at HB ha rr hm⊢;have H:=hid h;clear h hq;obtain⟨c1,hc1⟩:∃c1,decide (l.length≤q)=c1:=⟨_,rfl⟩;obtain⟨c2,hc2⟩:∃c2,ZI l ⟨q,ms,e0⟩ [59,10,35]=c2:=⟨_,rfl⟩;obtain⟨c3,hc3⟩:∃c3,ZI l ⟨q,ms,e0⟩ [125]=c3:=⟨_,rfl⟩;have HO:=hid (fun w' h=>by have:=Zbn b l x ⟨q,ms,e0⟩ S w' (by omega) h;simp only at this;rw[hc1]at this;exact this);have HX:=hid (fun w' h=>by have:=ZaI b l x ⟨q,ms,e0⟩ S [59,10,35] w' (by omega) h;rw[hc2]at this;exact this);have HY:=hid (fun w' h=>by have:=ZaI b l x ⟨q,ms,e0⟩ S [125] w' (by omega) h;rw[hc3]at this;exact this);simp only[hc1,hc2,hc3];clear hc1 hc2 hc3;go_enter Tryz.func59,Tryz.ntmps59;go_wp2_with fail;refine region_fr 10 (by kernel_rfl) (by kernel_rfl) ?_
 simp only[List.take_succ_cons,List.take_zero,List.drop_succ_cons,List.drop_zero]
 repeat(quiet_step (with_reducible exact calls_fr (HB.out _)))
 refine wpQuiet_nil ?_;intro wC fC;clear rr;have h2:=H.out.on fC;have r2:=Zd h2.blk _ (Fr.refl _ _);have h3:=h2.turned 1 (.int .i64 (q:Nat)) ⟨q,ms,e0⟩ (by simp) rfl;have st3:=(Stp.of fC).trans (h2.stp 1 (.int .i64 (q:Nat)));obtain⟨w3,hw3⟩:∃w3,w3=wC.setCell ⟨b,1,none⟩ (.int .i64 (q:Nat)):=⟨_,rfl⟩;rw[←hw3]at h3 st3;have rr:=Zd h3.blk;have H3:=hid (show CRd b l x ⟨q,ms,e0⟩ S w3 from⟨mv,h3⟩);have ST3:=hid st3;have HW3:=hid hw3;clear h2 h3 st3 hw3 fC;go_wp2_with(rw[←HW3.out]);clear r2;refine(HO.out _ H3.out).mono ?_;rintro z w4 ⟨rfl,f4⟩;cases c1 with
 |true=>
  clear rr;go_wp2
  go_end0
  exact⟨rfl,S,H3.out.on f4,ST3.out.trans (Stp.of f4)⟩
 |false=>
  go_wp2_with fail;refine(HX.out _ (H3.out.on f4)).mono ?_;rintro z w5 ⟨rfl,f5'⟩;have f5:=f4.trans' f5';clear f4 f5';cases c2 with
  |true=>
   clear rr;go_wp2
   go_end0
   exact⟨rfl,S,H3.out.on f5,ST3.out.trans (Stp.of f5)⟩
  |false=>
   go_wp2_with fail;refine(HY.out _ (H3.out.on f5)).mono ?_;rintro z w6 ⟨rfl,f6'⟩;have f6:=f5.trans' f6';clear f5 f6';cases c3 with
   |true=>
    go_wp2_with fail;refine(cm_mark b l x ⟨q,ms,e0⟩ S q [125] w6 hm (H3.out.on f6)).mono ?_;rintro z w7 ⟨rfl,S',h7,st7⟩;clear rr;go_wp2
    go_end0
    exact⟨rfl,S',h7,ST3.out.trans ((Stp.of f6).trans st7)⟩
   |false=>
    go_wp2_with fail;refine(cm_fail b l x ⟨q,ms,e0⟩ S 17 q w6 (H3.out.on f6)).mono ?_;rintro z w7 ⟨rfl,h7,st7⟩;clear rr;go_wp2
    go_end0
    exact⟨rfl,S,h7,ST3.out.trans ((Stp.of f6).trans st7)⟩
theorem Zfq(b:Nat)(l:List UInt8)(x:Bool)(g:Nat)(s:AdS)(S:Nat→Prop)(w:World)(hl:l.length≤99000)(ha:s.at_≤l.length)(hm:s.marks.length≤1000000)(h:CRd b l x s S w):
 Calls Tryz.prog 90 #[.pointer (some ⟨b,0,none⟩),.int .i64 (g:Nat)] w fun r w'=>r=.returned (.string ⟨(Zah l g s).1.toArray⟩)∧ZqC b l x S w (Zah l g s).2 w':=by
 have HB:=hid (fun w'=>ZgI (l:=l) (p:=s.at_) hl ha w');have hbl:=(bhd_in (l:=l) [32,9] ha).2;unfold Zah;simp only;obtain⟨p0,ms,e0⟩:=s;obtain⟨mv,h⟩:=h;have rr:=Zd h.blk;simp only[AdS.to]at HB ha rr hm hbl⊢;obtain⟨q,hq⟩:∃q,bhd l [32,9] p0=q:=⟨_,rfl⟩;rw[hq]at HB hbl⊢;have H:=hid h;clear h hq;have HFA:=hid (fun(e:Int) w' h=>cm_fail b l x ⟨q,ms,e0⟩ S e q w' h);have HLN:=hid (fun(k:Nat) w' hk=>ZjU l k w' (by omega) hk);obtain⟨c2,hc2⟩:∃c2,ZI l ⟨q,ms,e0⟩ [10]=c2:=⟨_,rfl⟩;obtain⟨c3,hc3⟩:∃c3,[92,10].isPrefixOf (l.drop q)=c3:=⟨_,rfl⟩;have HX:=hid (fun w' h=>by have:=ZaI b l x ⟨q,ms,e0⟩ S [10] w' (by omega) h;rw[hc2]at this;exact this);have HP:=hid (fun w'=>by have:=ZL (l.drop q) [92,10] w' (by rw[List.length_drop];omega) (by decide);rw[hc3]at this;exact this);have HC3:=hid (fun(e:c3=true)=>show q+2≤l.length from by
  rw[e]at hc3;have h2:=(List.isPrefixOf_iff_prefix.1 hc3).length_le;simp only[List.length_drop,List.length_cons,List.length_nil]at h2;omega)
 simp only[hc2,hc3];clear hc2 hc3;by_cases hin:l.length≤q
 ·rw[if_pos hin];have HO:=hid (fun w' h=>by have:=Zbn b l x ⟨q,ms,e0⟩ S w' (by omega) h;simp only[show decide (l.length≤q)=true by simpa using hin]at this;exact this);go_enter Tryz.func90,Tryz.ntmps90;go_wp2_with fail;refine region_fr 10 (by kernel_rfl) (by kernel_rfl) ?_;simp only[List.take_succ_cons,List.take_zero,List.drop_succ_cons,List.drop_zero]
  repeat(quiet_step (with_reducible exact calls_fr (HB.out _)))
  refine wpQuiet_nil ?_;intro wC fC;clear rr;have h2:=H.out.on fC;have r2:=Zd h2.blk _ (Fr.refl _ _);have h3:=h2.turned 1 (.int .i64 (q:Nat)) ⟨q,ms,e0⟩ (by simp) rfl;have st3:=(Stp.of fC).trans (h2.stp 1 (.int .i64 (q:Nat)));obtain⟨w3,hw3⟩:∃w3,w3=wC.setCell ⟨b,1,none⟩ (.int .i64 (q:Nat)):=⟨_,rfl⟩;rw[←hw3]at h3 st3;have rr:=Zd h3.blk;have H3:=hid (show CRd b l x ⟨q,ms,e0⟩ S w3 from⟨mv,h3⟩);have H3':=hid h3;have ST3:=hid st3;have HW3:=hid hw3;clear h2 h3 st3 hw3 fC;go_wp2_with(rw[←HW3.out]);clear r2;refine(HO.out _ H3.out).mono ?_;rintro z w4 ⟨rfl,f4⟩;go_wp2_with fail;refine(HFA.out 11 _ (H3.out.on f4)).mono ?_;rintro z w5 ⟨rfl,h5,st5⟩;clear rr;go_wp2;go_ret;exact⟨rfl,S,h5,ST3.out.trans ((Stp.of f4).trans st5)⟩
 ·rw[if_neg hin];have HO:=hid (fun w' h=>by have:=Zbn b l x ⟨q,ms,e0⟩ S w' (by omega) h;simp only[show decide (l.length≤q)=false by simpa using hin]at this;exact this);cases c2 with
  |true=>
   rw[if_pos rfl];go_enter Tryz.func90,Tryz.ntmps90;go_wp2_with fail;refine region_fr 10 (by kernel_rfl) (by kernel_rfl) ?_;simp only[List.take_succ_cons,List.take_zero,List.drop_succ_cons,List.drop_zero]
   repeat(quiet_step (with_reducible exact calls_fr (HB.out _)))
   refine wpQuiet_nil ?_;intro wC fC;clear rr;have h2:=H.out.on fC;have r2:=Zd h2.blk _ (Fr.refl _ _);have h3:=h2.turned 1 (.int .i64 (q:Nat)) ⟨q,ms,e0⟩ (by simp) rfl;have st3:=(Stp.of fC).trans (h2.stp 1 (.int .i64 (q:Nat)));obtain⟨w3,hw3⟩:∃w3,w3=wC.setCell ⟨b,1,none⟩ (.int .i64 (q:Nat)):=⟨_,rfl⟩;rw[←hw3]at h3 st3;have rr:=Zd h3.blk;have H3:=hid (show CRd b l x ⟨q,ms,e0⟩ S w3 from⟨mv,h3⟩);have H3':=hid h3;have ST3:=hid st3;have HW3:=hid hw3;clear h2 h3 st3 hw3 fC;go_wp2_with(rw[←HW3.out]);clear r2;refine(HO.out _ H3.out).mono ?_;rintro z w4 ⟨rfl,f4⟩;go_wp2_with fail;refine(HX.out _ (H3.out.on f4)).mono ?_;rintro z w5 ⟨rfl,f5'⟩;have f5:=f4.trans' f5';clear f4 f5';go_wp2_with fail;refine(HFA.out 5 _ (H3.out.on f5)).mono ?_;rintro z w6 ⟨rfl,h6,st6⟩;clear rr;go_wp2;go_ret;exact⟨rfl,S,h6,ST3.out.trans ((Stp.of f5).trans st6)⟩
  |false=>
   rw[if_neg (by simp)];have hlt:q<l.length:=by omega
   have hle:(q:Int)≤l.length:=by omega
   cases c3 with
   |true=>
    have hq2:=HC3.out rfl;simp only[if_true];have HLN2:=fun w'=>HLN.out (q+2) w' hq2;rw[show((q+2:Nat):Int)=(q:Int)+2 by omega]at HLN2;have HL2:=hid HLN2;obtain⟨NL,hNL⟩:∃NL,ln l (l.length+1) (q+2) []=NL:=⟨_,rfl⟩;obtain⟨nt,nq,nz⟩:=NL;rw[hNL]at HL2⊢;simp only at HL2⊢;clear HLN2 hNL;go_enter Tryz.func90,Tryz.ntmps90;go_wp2_with fail;refine region_fr 10 (by kernel_rfl) (by kernel_rfl) ?_;simp only[List.take_succ_cons,List.take_zero,List.drop_succ_cons,List.drop_zero]
    repeat(quiet_step (with_reducible exact calls_fr (HB.out _)))
    refine wpQuiet_nil ?_;intro wC fC;clear rr;have h2:=H.out.on fC;have r2:=Zd h2.blk _ (Fr.refl _ _);have h3:=h2.turned 1 (.int .i64 (q:Nat)) ⟨q,ms,e0⟩ (by simp) rfl;have st3:=(Stp.of fC).trans (h2.stp 1 (.int .i64 (q:Nat)));obtain⟨w3,hw3⟩:∃w3,w3=wC.setCell ⟨b,1,none⟩ (.int .i64 (q:Nat)):=⟨_,rfl⟩;rw[←hw3]at h3 st3;have rr:=Zd h3.blk;have H3:=hid (show CRd b l x ⟨q,ms,e0⟩ S w3 from⟨mv,h3⟩);have H3':=hid h3;have ST3:=hid st3;have HW3:=hid hw3;clear h2 h3 st3 hw3 fC;go_wp2_with(rw[←HW3.out]);clear r2;refine(HO.out _ H3.out).mono ?_;rintro z w4 ⟨rfl,f4⟩;go_wp2_with fail;refine(HX.out _ (H3.out.on f4)).mono ?_;rintro z w5 ⟨rfl,f5'⟩;have f5:=f4.trans' f5';clear f4 f5';go_wp2_with fail;refine region_fr 8 (by kernel_rfl) (by kernel_rfl) ?_;simp only[List.take_succ_cons,List.take_zero,List.drop_succ_cons,List.drop_zero]
    repeat(quiet_step (fail))
    refine wpQuiet_nil ?_;intro wD fD';have fD:=f5.trans' fD';clear f5 fD';go_wp2_with(refine(HP.out _).mono ?_;rintro z wE ⟨rfl,rfl⟩);have h6:=H3'.out.on fD;have r6:=Zd h6.blk _ (Fr.refl _ _);have h7:=h6.turned 1 (.int .i64 ((q:Int)+2)) ⟨q+2,ms,e0⟩ (by simp) rfl;have st7:=ST3.out.trans ((Stp.of fD).trans (h6.stp 1 (.int .i64 ((q:Int)+2))));obtain⟨w7,hw7⟩:∃w7,w7=wD.setCell ⟨b,1,none⟩ (.int .i64 ((q:Int)+2)):=⟨_,rfl⟩;rw[←hw7]at h7 st7;have r7:=Zd h7.blk;simp only at r7;rw[show((q+2:Nat):Int)=(q:Int)+2 by omega]at r7;have H7:=hid (show CRd b l x ⟨q+2,ms,e0⟩ S w7 from⟨mv,h7⟩);have ST7:=hid st7;have HW7:=hid hw7;clear h6 h7 st7 hw7 fD rr;go_wp2_with(rw[←HW7.out]);clear r6;refine region_fr 15 (by kernel_rfl) (by kernel_rfl) ?_;simp only[List.take_succ_cons,List.take_zero,List.drop_succ_cons,List.drop_zero]
    repeat(quiet_step (with_reducible exact calls_fr (HL2.out _)))
    refine wpQuiet_nil ?_;intro wC fC;go_wp2_with fail;refine(cm_moved b l x ⟨q+2,ms,e0⟩ S nz nq wC (H7.out.on fC)).mono ?_;rintro z w8 ⟨rfl,h8,st8⟩;clear r7;go_wp2;go_ret;exact⟨rfl,S,h8,ST7.out.trans ((Stp.of fC).trans st8)⟩
   |false=>
    simp only[Bool.false_eq_true,if_false,Zan];have HL2:=hid (fun w'=>HLN.out q w' (by omega));obtain⟨NL,hNL⟩:∃NL,ln l (l.length+1) q []=NL:=⟨_,rfl⟩;obtain⟨nt,nq,nz⟩:=NL;rw[hNL]at HL2⊢;simp only at HL2⊢;clear hNL;go_enter Tryz.func90,Tryz.ntmps90;go_wp2_with fail;refine region_fr 10 (by kernel_rfl) (by kernel_rfl) ?_;simp only[List.take_succ_cons,List.take_zero,List.drop_succ_cons,List.drop_zero]
    repeat(quiet_step (with_reducible exact calls_fr (HB.out _)))
    refine wpQuiet_nil ?_;intro wC fC;clear rr;have h2:=H.out.on fC;have r2:=Zd h2.blk _ (Fr.refl _ _);have h3:=h2.turned 1 (.int .i64 (q:Nat)) ⟨q,ms,e0⟩ (by simp) rfl;have st3:=(Stp.of fC).trans (h2.stp 1 (.int .i64 (q:Nat)));obtain⟨w3,hw3⟩:∃w3,w3=wC.setCell ⟨b,1,none⟩ (.int .i64 (q:Nat)):=⟨_,rfl⟩;rw[←hw3]at h3 st3;have rr:=Zd h3.blk;have H3:=hid (show CRd b l x ⟨q,ms,e0⟩ S w3 from⟨mv,h3⟩);have H3':=hid h3;have ST3:=hid st3;have HW3:=hid hw3;clear h2 h3 st3 hw3 fC;go_wp2_with(rw[←HW3.out]);clear r2;refine(HO.out _ H3.out).mono ?_;rintro z w4 ⟨rfl,f4⟩;go_wp2_with fail;refine(HX.out _ (H3.out.on f4)).mono ?_;rintro z w5 ⟨rfl,f5'⟩;have f5:=f4.trans' f5';clear f4 f5';go_wp2_with fail;refine region_fr 8 (by kernel_rfl) (by kernel_rfl) ?_;simp only[List.take_succ_cons,List.take_zero,List.drop_succ_cons,List.drop_zero]
    repeat(quiet_step (fail))
    refine wpQuiet_nil ?_;intro wD fD';have fD:=f5.trans' fD';clear f5 fD';go_wp2_with(refine(HP.out _).mono ?_;rintro z wE ⟨rfl,rfl⟩);go_wp2_with fail;refine(cm_mark b l x ⟨q,ms,e0⟩ S g [116,101,120,116] wD hm (H3.out.on fD)).mono ?_;rintro z w7 ⟨rfl,S',⟨mv7,h7⟩,st7⟩;have r7:=Zd h7.blk;simp only[Zan]at r7;have H7:=hid (show CRd b l x ⟨q,ms++[(g,[116,101,120,116])],e0⟩ S' w7 from⟨mv7,h7⟩);have ST7:=hid (ST3.out.trans ((Stp.of fD).trans st7));clear h7 st7 fD rr;go_wp2_with fail;refine region_fr 15 (by kernel_rfl) (by kernel_rfl) ?_;simp only[List.take_succ_cons,List.take_zero,List.drop_succ_cons,List.drop_zero]
    repeat(quiet_step (with_reducible exact calls_fr (HL2.out _)))
    refine wpQuiet_nil ?_;intro wC fC;go_wp2_with fail;refine(cm_moved b l x ⟨q,ms++[(g,[116,101,120,116])],e0⟩ S' nz nq wC (H7.out.on fC)).mono ?_;rintro z w8 ⟨rfl,h8,st8⟩;clear r7;go_wp2;go_ret;exact⟨rfl,S',h8,ST7.out.trans ((Stp.of fC).trans st8)⟩
end Go.Proofs.YtkfddjopbocpkaaGreatDoor
