/- Lemmas of this claim. -/
import Derived.Test.YtkfddjopbocpkaaGreatDoorN18
set_option linter.unusedVariables false
set_option linter.unusedSimpArgs false
set_option maxRecDepth 100000
set_option maxHeartbeats 4000000
namespace Go.Proofs.YtkfddjopbocpkaaGreatDoor
open Go.RowKit
section
variable {A l:List UInt8}
theorem ZeM(k:Nat):(A++l)[A.length+k]? =l[k]? :=by rw[List.getElem?_append_right (by omega)];congr 1;omega
theorem Zee(k:Nat):byt (A++l) (A.length+k)=byt l k:=by unfold byt;rw[ZeM]
theorem Zbm(k:Nat):(A++l).drop (A.length+k)=l.drop k:=by rw[←List.drop_drop,List.drop_left]
theorem Zdv(cs:List UInt8){k:Nat}(hk:k≤l.length):bhd (A++l) cs (A.length+k)=A.length+bhd l cs k:=by
 unfold bhd;rw[Zbm,List.length_append];have:=Zmv (l.drop k) cs;rw[List.length_drop]at this;omega
theorem bhd_in(cs:List UInt8){k:Nat}(hk:k≤l.length):k≤bhd l cs k∧bhd l cs k≤l.length:=by
 unfold bhd;have:=Zmv (l.drop k) cs;rw[List.length_drop]at this;omega
theorem ZmB(a at_:Nat):∀(r:List UInt8) (n c:Nat),nm (a+at_) r n c=((nm at_ r n c).1,a+(nm at_ r n c).2.1,(nm at_ r n c).2.2)
 |[],n,c=>by rw[nm,nm];split<;>simp[Nat.add_assoc]
 |x::r,n,c=>by
  rw[nm,nm];split
  ·split
   ·rfl
   ·exact ZmB a at_ r _ _
  ·split<;>simp[Nat.add_assoc]
theorem Znj(k:Nat)(label:Bool):ZcI (A++l) (A.length+k) label=((ZcI l k label).1,A.length+(ZcI l k label).2.1,(ZcI l k label).2.2):=by
 unfold ZcI;rw[Zbm];split
 ·rfl
 ·split
  ·rfl
  ·simp[Nat.add_assoc]
theorem ZpH{k:Nat}(hk:k≤l.length):brE (A++l) (A.length+k)=A.length+brE l k:=by
 rw[←ZdD (l:=A++l) (a:=A.length+k) (by rw[List.length_append];omega),Zbm,Nat.add_assoc,ZdD hk]
theorem ZpI(d:UInt8)(rx:Bool)(k:Nat)(out:List UInt8):esc (A++l) d rx (A.length+k) out=((esc l d rx k out).1,A.length+(esc l d rx k out).2.1,(esc l d rx k out).2.2):=by
 unfold esc;rw[Nat.add_assoc,ZeM];cases l[k+1]? with
 |none=>simp
 |some y=>
  simp only;split
  ·rfl
  ·split<;>rfl
theorem Znk{k:Nat}(hk:k<l.length):k<brE l k:=by
 have h1:=Znc (l:=l) (c:=94) (k:=k+1);have h2:=Znc (l:=l) (c:=93) (k:=adv l 94 (k+1));have h3:=Znb (l:=l) (c:=93) (k:=adv l 93 (adv l 94 (k+1)));unfold brE;omega
theorem Znl(k:Nat):brE l k≤l.length:=by unfold brE;omega
theorem Ziw{d:UInt8}{rx:Bool}{k:Nat}{out:List UInt8}(h:(esc l d rx k out).1=0):(esc l d rx k out).2.1=k+2:=(ZhE (t:=[]) h).2.1
theorem Zoe(d:UInt8)(rx:Bool):∀(n m k:Nat) (out:List UInt8),k≤l.length→l.length<n+k→l.length<m+k→
 bt (A++l) d rx m (A.length+k) out=((bt l d rx n k out).1,A.length+(bt l d rx n k out).2.1,(bt l d rx n k out).2.2)
 |0,m,k,out,hk,hn,_=>by omega
 |n+1,0,k,out,hk,_,hm=>by omega
 |n+1,m+1,k,out,hk,hn,hm=>by
  rw[bt,bt,ZeM];cases hc:l[k]? with
  |none=>simp
  |some c=>
   have hlt:=(List.getElem?_eq_some_iff.1 hc).1;simp only;by_cases h1:c=d
   ·simp only[if_pos h1,Nat.add_assoc]
   ·simp only[if_neg h1];by_cases h2:c=92
    ·simp only[if_pos h2];rw[ZpI];simp only;by_cases h3:(esc l d rx k out).1=0
     ·simp only[if_pos h3];have hs:=Ziw h3;have hb:=(ZhE (t:=[]) h3).2.2;rw[hs];exact Zoe d rx n m (k+2) _ (by omega) (by omega) (by omega)
     ·simp only[if_neg h3]
    ·simp only[if_neg h2];have hm':(if c=91∧rx=true then brE (A++l) (A.length+k)-(A.length+k)else 1)=(if c=91∧rx=true then brE l k-k else 1):=by
      rw[ZpH (by omega)];split
      ·omega
      ·rfl
     rw[hm',Zbm];have hm1:1≤(if c=91∧rx=true then brE l k-k else 1)∧k+(if c=91∧rx=true then brE l k-k else 1)≤l.length:=by
      have:=Znk hlt;have:=Znl (l:=l) k;split<;>omega
     generalize(if c=91∧rx=true then brE l k-k else 1)=M at *;by_cases h4:Lib.indexByte ((l.drop k).take M) 10<0
     ·simp only[if_pos h4,Nat.add_assoc];exact Zoe d rx n m (k+M) _ (by omega) (by omega) (by omega)
     ·simp only[if_neg h4,Nat.add_assoc]
theorem Znm(d:UInt8)(rx:Bool){k:Nat}(hk:k≤l.length)(out:List UInt8):bt (A++l) d rx ((A++l).length+1) (A.length+k) out=((bt l d rx (l.length+1) k out).1,A.length+(bt l d rx (l.length+1) k out).2.1,(bt l d rx (l.length+1) k out).2.2):=
 Zoe d rx _ _ k out hk (by omega) (by rw[List.length_append];omega)
theorem Zof:∀(n m k:Nat) (out:List UInt8),k≤l.length→l.length<n+k→l.length<m+k→
 ln (A++l) m (A.length+k) out=((ln l n k out).1,A.length+(ln l n k out).2.1,(ln l n k out).2.2)
 |0,m,k,out,hk,hn,_=>by omega
 |n+1,0,k,out,hk,_,hm=>by omega
 |n+1,m+1,k,out,hk,hn,hm=>by
  rw[ln,ln,ZeM];have hmin:min (A.length+k+1) (A++l).length=A.length+min (k+1) l.length:=by rw[List.length_append];omega
  cases hc:l[k]? with
  |none=>simp only[hmin]
  |some c=>
   have hlt:=(List.getElem?_eq_some_iff.1 hc).1;simp only[hmin];by_cases h1:c=10
   ·simp only[if_pos h1]
   ·simp only[if_neg h1];by_cases h2:c=92
    ·simp only[if_pos h2,Nat.add_assoc];rw[ZeM];cases hx:l[k+1]? with
     |none=>rfl
     |some y=>
      have:=(List.getElem?_eq_some_iff.1 hx).1;exact Zof n m (k+2) _ (by omega) (by omega) (by omega)
    ·simp only[if_neg h2,Nat.add_assoc];exact Zof n m (k+1) _ (by omega) (by omega) (by omega)
theorem ZpJ{k:Nat}(hk:k≤l.length)(out:List UInt8):ln (A++l) ((A++l).length+1) (A.length+k) out=((ln l (l.length+1) k out).1,A.length+(ln l (l.length+1) k out).2.1,(ln l (l.length+1) k out).2.2):=
 Zof _ _ k out hk (by omega) (by rw[List.length_append];omega)
def shS(a:Nat)(M:List (Nat×List UInt8))(s:AdS):AdS:=⟨a+s.at_,M++s.marks.map (shM a),s.e⟩
variable {M:List (Nat×List UInt8)} {s:AdS}
theorem Zgm(a k:Nat):(shS a M s).to (a+k)=shS a M (s.to k):=rfl
theorem ZaH(a:Nat)(e:Int)(p:Nat):failC (shS a M s) e (a+p)=shS a M (failC s e p):=by unfold failC shS;simp only;split<;>rfl
theorem Zci(a:Nat)(p:Nat)(e:Int):ZV (shS a M s) (a+p) e=shS a M (ZV s p e):=by unfold ZV shS;simp only;split<;>rfl
theorem ZhF(a:Nat)(p:Nat)(t:List UInt8):Zan (shS a M s) (a+p) t=shS a M (Zan s p t):=by
 unfold Zan shS;simp only[List.map_append,List.append_assoc];rfl
theorem Zef(some:List UInt8):ZI (A++l) (shS A.length M s) some=ZI l s some:=by unfold ZI shS;simp only;rw[ZeM]
theorem Zbh{l:List UInt8}{s:AdS}{some:List UInt8}(h:ZI l s some=true):s.at_<l.length:=by
 unfold ZI at h;cases hc:l[s.at_]? with
 |none=>rw[hc]at h;cases h
 |some b=>exact(List.getElem?_eq_some_iff.1 hc).1
theorem ZkX{k:Nat}(label:Bool)(hk:k≤l.length):(ZcI l k label).2.1≤l.length:=by
 unfold ZcI;split
 ·exact hk
 ·split
  ·exact hk
  ·have:=Zec (l.drop k) label;rw[List.length_drop]at this;simp only;omega
theorem ZpK(d:UInt8)(rx:Bool){k:Nat}(hk:k<l.length)(out:List UInt8):(esc l d rx k out).2.1≤l.length:=by
 unfold esc;cases hx:l[k+1]? with
 |none=>exact Nat.le_refl _
 |some y=>
  have:=(List.getElem?_eq_some_iff.1 hx).1;simp only;split
  ·show k+2≤_;omega
  ·split
   ·show k+1≤_;omega
   ·show k+2≤_;omega
theorem ZkY(d:UInt8)(rx:Bool):∀(n k:Nat) (out:List UInt8),k≤l.length→(bt l d rx n k out).2.1≤l.length
 |0,k,out,_=>by simp[bt]
 |n+1,k,out,hk=>by
  rw[bt];cases hc:l[k]? with
  |none=>simp
  |some c=>
   have hlt:=(List.getElem?_eq_some_iff.1 hc).1;simp only;split
   ·show k+1≤_;omega
   ·split
    ·by_cases h3:(esc l d rx k out).1=0
     ·rw[if_pos h3];have hb:=(ZhE (t:=[]) h3).2.2;have hs:=Ziw h3;exact ZkY d rx n _ _ (by omega)
     ·rw[if_neg h3];exact ZpK d rx hlt out
    ·have hm1:k+(if c=91∧rx=true then brE l k-k else 1)≤l.length:=by
      have:=Znk hlt;have:=Znl (l:=l) k;split<;>omega
     generalize(if c=91∧rx=true then brE l k-k else 1)=m at *;have hix:=Zb1 ((l.drop k).take m) 10;rw[List.length_take,List.length_drop]at hix;split
     ·exact ZkY d rx n _ _ hm1
     ·show k+(Lib.indexByte ((l.drop k).take m) 10).toNat≤_;omega
theorem ZmC:∀(n k:Nat) (out:List UInt8),k≤l.length→(ln l n k out).2.1≤l.length
 |0,k,out,_=>by simp[ln]
 |n+1,k,out,hk=>by
  rw[ln];cases hc:l[k]? with
  |none=>simp only;omega
  |some c=>
   have hlt:=(List.getElem?_eq_some_iff.1 hc).1;simp only;split
   ·simp only;omega
   ·split
    ·cases hx:l[k+1]? with
     |none=>simp only;omega
     |some y=>have:=(List.getElem?_eq_some_iff.1 hx).1;exact ZmC n _ _ (by omega)
    ·exact ZmC n _ _ (by omega)
theorem ZO{e:Int}{p:Nat}(h:s.at_≤l.length)(hp:p≤l.length):(failC s e p).at_≤l.length:=by unfold failC;split<;>assumption
theorem Za6{e:Int}{p:Nat}(h:s.at_≤l.length)(hp:p≤l.length):(ZV s p e).at_≤l.length:=by unfold ZV;split<;>assumption
theorem Zgn(must:Bool)(h:s.at_≤l.length):(labelC l must s).2.at_≤l.length:=by
 unfold labelC;split
 ·have:=Zec (l.drop s.at_) true;rw[List.length_drop]at this;exact Za6 h (by omega)
 ·exact Za6 h (ZkX _ h)
theorem Zix(h:s.at_≤l.length):(ZaR l s).2.at_≤l.length:=by
 unfold ZaR;split
 ·exact ZO h h
 ·exact Za6 h (ZkX _ h)
theorem ZkZ(b:Nat)(h:s.at_≤l.length):(Zah l b s).2.at_≤l.length:=by
 unfold Zah;simp only;have hb:=(bhd_in [32,9] h).2;have h1:(s.to (bhd l [32,9] s.at_)).at_≤l.length:=hb;split
 ·exact ZO h1 h1
 ·split
  ·exact ZO h1 h1
  ·split
   ·next hp=>
    have hp2:bhd l [32,9] s.at_+2≤l.length:=by
     have h2:=(List.isPrefixOf_iff_prefix.1 hp).length_le;simp only[List.length_drop,List.length_cons,List.length_nil]at h2;have h3:(s.to (bhd l [32,9] s.at_)).at_=bhd l [32,9] s.at_:=rfl;omega
    exact Za6 hp2 (ZmC _ _ _ hp2)
   ·exact Za6 h1 (ZmC _ _ _ h1)
theorem Za7(h:s.at_≤l.length):(Zv l s).2.at_≤l.length:=by
 unfold Zv;split
 ·exact ZO h (Nat.le_refl _)
 ·split
  ·exact ZO h h
  ·show s.at_+1≤_;omega
theorem ZaW(d:UInt8)(rx:Bool)(h:s.at_≤l.length):(Zr l d rx s).2.at_≤l.length:=by
 unfold Zr;split
 ·exact h
 ·exact Za6 h (ZkY _ _ _ _ _ h)
theorem Zeg(x:Bool)(d:UInt8)(h:s.at_≤l.length):(Zav x l d s).2.at_≤l.length:=by
 unfold Zav;simp only;have hb:=ZaW d true h;have h2:(if(Zr l d true s).2.e=0∧(Zr l d true s).1=[]then failC (Zr l d true s).2 2 s.at_ else(Zr l d true s).2).at_≤l.length:=by
  split
  ·exact ZO hb h
  ·exact hb
 generalize(if(Zr l d true s).2.e=0∧(Zr l d true s).1=[]then failC (Zr l d true s).2 2 s.at_ else(Zr l d true s).2)=s2 at h2⊢;split
 ·exact h2
 ·cases Zac prg x (Zr l d true s).1 with
  |inl z=>exact ZO h2 h
  |inr z=>exact h2
theorem Ziy(sub:SV)(h:s.at_≤l.length):(Zap l sub s).2.2.at_≤l.length:=by
 unfold Zap;split
 ·next hn=>have:=Zbh hn;simp only;split;exact ZO (show s.at_+1≤_ from this) h;exact this
 ·split
  ·next hn=>have:=Zbh hn;simp only;split;exact ZO (show s.at_+1≤_ from this) h;exact this
  ·split
   ·simp only;split
    ·exact ZO h h
    ·have hn:(nm s.at_ (l.drop s.at_) 0 0).2.1≤l.length:=by
      have:=ZkV s.at_ (l.drop s.at_) 0 0;rw[List.length_drop]at this;omega
     have hm:=Za6 (s:=s) (e:=(nm s.at_ (l.drop s.at_) 0 0).2.2) h hn;split
     ·exact ZO hm h
     ·exact hm
   ·split
    ·next hn=>have:=Zbh hn;exact Zix (show(s.to (s.at_+1)).at_≤_ from this)
    ·exact h
theorem Zgo:∀(n:Nat) (sub:SV) (s:AdS),s.at_≤l.length→(Zai l n sub s).2.at_≤l.length
 |0,_,_,h=>h
 |n+1,sub,s,h=>by
  rw[Zai];have hf:=Ziy sub h;cases hr:Zap l sub s with
  |mk a b=>
   rw[hr]at hf;obtain⟨b,c⟩:=b;cases a with
   |true=>exact Zgo n b c hf
   |false=>exact hf
theorem Zog(x:Bool)(h:s.at_≤l.length):(Zet x l s).2.at_≤l.length:=by
 unfold Zet;simp only;have h1:=Za7 h;split
 ·exact h1
 ·have h2:=Zeg x (Zv l s).1 h1;have h3:=ZaW (Zv l s).1 false h2;split
  ·exact h3
  ·split
   ·exact ZO h3 h2
   ·exact Zgo _ _ _ h3
theorem Zk0(h:s.at_≤l.length):(ZaP l s).2.at_≤l.length:=by
 unfold ZaP;simp only;have h1:=Za7 h;have h2:=ZaW (Zv l s).1 false h1;have h3:=ZaW (Zv l s).1 false h2;split
 ·exact h3
 ·split
  ·exact ZO h3 h2
  ·split
   ·exact h3
   ·exact ZO h3 h2
theorem ZdN(x:Bool)(c:CV)(h:s.at_≤l.length):(argsC x l c s).2.2.at_≤l.length:=by
 unfold argsC;split
 ·exact h
 split
 ·exact Zgn _ h
 split
 ·exact Zgn _ h
 split
 ·exact ZkZ _ h
 split
 ·exact Zix h
 split
 ·exact Zog x h
 split
 ·exact Zk0 h
 ·exact h
theorem Ziz(must:Bool)(h:s.at_≤l.length):labelC (A++l) must (shS A.length M s)=((labelC l must s).1,shS A.length M (labelC l must s).2):=by
 unfold labelC;have e:(shS A.length M s).at_=A.length+s.at_:=rfl;rw[e,Znj,Zbm,Nat.add_assoc,Zci,Zci];simp only;split<;>rfl
theorem Zk1(h:s.at_≤l.length):ZaR (A++l) (shS A.length M s)=((ZaR l s).1,shS A.length M (ZaR l s).2):=by
 unfold ZaR;have e:(shS A.length M s).at_=A.length+s.at_:=rfl;rw[e,Znj,Zef,ZaH,Zci];split<;>rfl
theorem ZmD(b:Nat)(h:s.at_≤l.length):Zah (A++l) (A.length+b) (shS A.length M s)=((Zah l b s).1,shS A.length M (Zah l b s).2):=by
 unfold Zah;have e:(shS A.length M s).at_=A.length+s.at_:=rfl;have hb:=(bhd_in [32,9] h).2;simp only[e];rw[Zdv _ h,Zgm];generalize hs1:s.to (bhd l [32,9] s.at_)=s1;have h1:s1.at_≤l.length:=by rw[←hs1];exact hb
 have e1:(shS A.length M s1).at_=A.length+s1.at_:=rfl;rw[e1,ZaH,ZaH,Zef,Zbm,show A.length+s1.at_+2=A.length+(s1.at_+2)from Nat.add_assoc _ _ _,Zgm,ZhF];by_cases c1:l.length≤s1.at_
 ·rw[if_pos c1,if_pos (by rw[List.length_append];omega)]
 ·rw[if_neg c1,if_neg (by rw[List.length_append];omega)];split
  ·rfl
  ·have hif:(if[92,10].isPrefixOf (l.drop s1.at_)=true then shS A.length M (s1.to (s1.at_+2))else shS A.length M (Zan s1 b [116,101,120,116]))=shS A.length M (if[92,10].isPrefixOf (l.drop s1.at_)=true then s1.to (s1.at_+2)else Zan s1 b [116,101,120,116]):=by split<;>rfl
   rw[hif];generalize hs2:(if[92,10].isPrefixOf (l.drop s1.at_)=true then s1.to (s1.at_+2)else Zan s1 b [116,101,120,116])=s2;have h2:s2.at_≤l.length:=by
    rw[←hs2];split
    ·next hp=>
     have h2:=(List.isPrefixOf_iff_prefix.1 hp).length_le;simp only[List.length_drop,List.length_cons,List.length_nil]at h2;show s1.at_+2≤_;omega
    ·exact h1
   have e2:(shS A.length M s2).at_=A.length+s2.at_:=rfl;rw[e2,ZpJ h2,Zci]
theorem ZiA(h:s.at_≤l.length):Zv (A++l) (shS A.length M s)=((Zv l s).1,shS A.length M (Zv l s).2):=by
 unfold Zv;have e:(shS A.length M s).at_=A.length+s.at_:=rfl;rw[e,Zef,Zee,List.length_append,ZaH,ZaH,Nat.add_assoc,Zgm];by_cases c1:l.length≤s.at_
 ·rw[if_pos c1,if_pos (by omega)]
 ·rw[if_neg c1,if_neg (by omega)];split<;>rfl
theorem Zfp(d:UInt8)(rx:Bool)(h:s.at_≤l.length):Zr (A++l) d rx (shS A.length M s)=((Zr l d rx s).1,shS A.length M (Zr l d rx s).2):=by
 unfold Zr;have e:(shS A.length M s).at_=A.length+s.at_:=rfl;have e2:(shS A.length M s).e=s.e:=rfl;rw[e,e2,Znm d rx h,Zci];split<;>rfl
theorem ZmE(x:Bool)(d:UInt8)(h:s.at_≤l.length):Zav x (A++l) d (shS A.length M s)=((Zav x l d s).1,shS A.length M (Zav x l d s).2):=by
 unfold Zav;have e:(shS A.length M s).at_=A.length+s.at_:=rfl;rw[Zfp d true h,e];simp only;generalize(Zr l d true s).2=s1;generalize(Zr l d true s).1=t;have e1:(shS A.length M s1).e=s1.e:=rfl;rw[ZaH,e1];have hif:(if s1.e=0∧t=[]then shS A.length M (failC s1 2 s.at_)else shS A.length M s1)=shS A.length M (if s1.e=0∧t=[]then failC s1 2 s.at_ else s1):=by split<;>rfl
 rw[hif];generalize(if s1.e=0∧t=[]then failC s1 2 s.at_ else s1)=s2;have e2:(shS A.length M s2).e=s2.e:=rfl;rw[e2];split
 ·rfl
 ·cases Zac prg x t with
  |inl z=>simp only;rw[ZaH]
  |inr z=>
   simp only[shS,List.map_append,List.map_map,List.append_assoc]
   congr 4
   apply List.map_congr_left;intro m _;simp[shM,Nat.add_assoc]
theorem Zoh(sub:SV)(h:s.at_≤l.length):Zap (A++l) sub (shS A.length M s)=((Zap l sub s).1,(Zap l sub s).2.1,shS A.length M (Zap l sub s).2.2):=by
 unfold Zap;have e:(shS A.length M s).at_=A.length+s.at_:=rfl;simp only[e,Zef,Nat.add_assoc,Zgm,ZaH,Zbm,ZmB,Zci];split
 ·split<;>rfl
 split
 ·split<;>rfl
 split
 ·split
  ·rfl
  ·have e1:∀q,(shS A.length M q).e=q.e:=fun _=>rfl;simp only[e1];split<;>rfl
 split
 ·next hn=>
  have:=Zbh hn;rw[Zk1 (show(s.to (s.at_+1)).at_≤_ from this)]
 ·rfl
theorem ZiB:∀(n:Nat) (sub:SV) (s:AdS),s.at_≤l.length→Zai (A++l) n sub (shS A.length M s)=((Zai l n sub s).1,shS A.length M (Zai l n sub s).2)
 |0,_,_,_=>rfl
 |n+1,sub,s,h=>by
  rw[Zai,Zai,Zoh sub h];have hf:=Ziy sub h;cases hr:Zap l sub s with
  |mk a b=>
   rw[hr]at hf;obtain⟨b,c⟩:=b;cases a with
   |true=>exact ZiB n b c hf
   |false=>rfl
theorem Zdl{sub sub':SV}{s s':AdS}(h:Zap l sub s=(true,sub',s')):s.at_<s'.at_∧s'.at_≤l.length:=by
 have hf:∀(q:AdS) (e:Int) (p:Nat),e≠0→((failC q e p).e==0)=true→False:=by
  intro q e p he hq;unfold failC at hq;split at hq
  ·exact he (by simpa using hq)
  ·next h0=>exact h0 (by simpa using hq)
 unfold Zap at h;split at h
 ·next hn=>
  have:=Zbh hn;simp only[Prod.mk.injEq]at h;obtain⟨h1,_,h3⟩:=h;split at h3
  ·next ha=>rw[if_pos ha]at h1;exact(hf _ _ _ (by decide) h1).elim
  ·rw[←h3];exact⟨Nat.lt_succ_self _,this⟩
 split at h
 ·next hn=>
  have:=Zbh hn;simp only[Prod.mk.injEq]at h;obtain⟨h1,_,h3⟩:=h;split at h3
  ·next ha=>rw[if_pos ha]at h1;exact(hf _ _ _ (by decide) h1).elim
  ·rw[←h3];exact⟨Nat.lt_succ_self _,this⟩
 split at h
 ·next hn=>
  have hlt:=Zbh hn;simp only at h;split at h
  ·simp only[Prod.mk.injEq]at h;exact(hf _ _ _ (by decide) h.1).elim
  ·simp only[Prod.mk.injEq]at h;obtain⟨h1,_,h3⟩:=h;split at h3
   ·next ha=>rw[if_pos ha]at h1;exact(hf _ _ _ (by decide) h1).elim
   ·next ha=>
    rw[if_neg ha]at h1;have hn0:=ZkV s.at_ (l.drop s.at_) 0 0;rw[List.length_drop]at hn0;unfold ZV at h1 h3;split at h3
    ·next h0=>
     rw[if_pos h0]at h1;rw[←h3];simp only at h1⊢;have hz:(nm s.at_ (l.drop s.at_) 0 0).2.2=0:=by simpa using h1
     refine⟨?_,by omega⟩;have hnm:∀(r:List UInt8) (n c:Nat),(nm s.at_ r n c).2.2=0→s.at_+c≤(nm s.at_ r n c).2.1∧0<(nm s.at_ r n c).2.1-s.at_:=by
      intro r;induction r with
      |nil=>intro n c h;rw[nm]at h⊢;split at h;cases h;next hc=>rw[if_neg hc];simp only;omega
      |cons y r ih=>
       intro n c h;rw[nm]at h⊢;split at h
       ·next hd=>
        rw[if_pos hd];split at h
        ·cases h
        ·next hc=>rw[if_neg hc];have:=ih _ _ h;omega
       ·next hd=>
        rw[if_neg hd];split at h
        ·cases h
        ·next hc=>rw[if_neg hc];simp only;omega
     have:=hnm _ _ _ hz;omega
    ·next h0=>
     rw[if_neg h0]at h1;exact(h0 (by simpa using h1)).elim
 split at h
 ·simp at h
 ·simp at h
theorem ZeN:∀(n m:Nat) (sub:SV) (s:AdS),s.at_≤l.length→l.length<n+s.at_→l.length<m+s.at_→Zai l n sub s=Zai l m sub s
 |0,m,sub,s,h,hn,_=>by omega
 |n+1,0,sub,s,h,_,hm=>by omega
 |n+1,m+1,sub,s,h,hn,hm=>by
  rw[Zai,Zai];cases hr:Zap l sub s with
  |mk a b=>
   obtain⟨b,c⟩:=b;cases a with
   |true=>
    obtain⟨h1,h2⟩:=Zdl hr;exact ZeN n m b c h2 (by omega) (by omega)
   |false=>rfl
theorem ZpL(x:Bool)(h:s.at_≤l.length):Zet x (A++l) (shS A.length M s)=((Zet x l s).1,shS A.length M (Zet x l s).2):=by
 unfold Zet;have h1:=Za7 h;have h2:=Zeg x (Zv l s).1 h1;have h3:=ZaW (Zv l s).1 false h2;rw[ZiA h];simp only;rw[ZmE x _ h1];simp only;rw[Zfp _ _ h2];have e1:∀q,(shS A.length M q).e=q.e:=fun _=>rfl;have e2:∀q,(shS A.length M q).at_=A.length+q.at_:=fun _=>rfl;simp only[e1,e2,ZaH];split
 ·rfl
 ·split
  ·rfl
  ·split
   ·rfl
   ·rw[ZiB _ _ _ h3];rw[ZeN ((A++l).length+2) (l.length+2) _ _ h3 (by rw[List.length_append];omega) (by omega)]
theorem ZmF(h:s.at_≤l.length):ZaP (A++l) (shS A.length M s)=((ZaP l s).1,shS A.length M (ZaP l s).2):=by
 unfold ZaP;have h1:=Za7 h;have h2:=ZaW (Zv l s).1 false h1;rw[ZiA h];simp only;rw[Zfp _ _ h1];simp only;rw[Zfp _ _ h2];have e1:∀q,(shS A.length M q).e=q.e:=fun _=>rfl;have e2:∀q,(shS A.length M q).at_=A.length+q.at_:=fun _=>rfl;simp only[e1,e2,ZaH];split
 ·rfl
 ·split
  ·rfl
  ·split<;>rfl
def shC(a:Nat)(c:CV):CV:={c with at_:=a+c.at_}
theorem Zoi(x:Bool)(c:CV)(h:s.at_≤l.length):argsC x (A++l) (shC A.length c) (shS A.length M s)=((argsC x l c s).1,shC A.length (argsC x l c s).2.1,shS A.length M (argsC x l c s).2.2):=by
 unfold argsC;have e1:(shC A.length c).name=c.name:=rfl;have e2:(shC A.length c).at_=A.length+c.at_:=rfl;rw[e1,e2,Ziz true h,Ziz false h,ZmD _ h,Zk1 h,ZpL x h,ZmF h];split
 ·rfl
 split
 ·rfl
 split
 ·rfl
 split
 ·rfl
 split
 ·rfl
 split
 ·rfl
 split<;>rfl
theorem ZpM(h:s.at_≤l.length):Zjq (A++l) (shS A.length M s)=shS A.length M (Zjq l s):=by
 unfold Zjq;have e2:∀q,(shS A.length M q).at_=A.length+q.at_:=fun _=>rfl;simp only[e2,Zdv _ h,Zgm,Zef,ZaH,ZhF,List.length_append];by_cases c1:l.length≤(s.to (bhd l [32,9] s.at_)).at_∨ZI l (s.to (bhd l [32,9] s.at_)) [59,10,35]=true
 ·rw[if_pos c1,if_pos (c1.imp (by omega) id)]
 ·rw[if_neg c1,if_neg (fun h=>c1 (h.imp (by omega) id))];split<;>rfl
end
section
variable {A l:List UInt8} {M:List (Nat×List UInt8)} {s:AdS}
def ZlL(a:Nat)(M:List (Nat×List UInt8)):ZlK→ZlK
 | .inl z=>.inl (z.1,a+z.2)
 | .inr r=>.inr (r.1,shS a M r.2)
def Zqz(a:Nat)(M:List (Nat×List UInt8)):ZpG→ZpG
 | .inl z=>.inl (z.1,a+z.2)
 | .inr r=>.inr (r.1,shS a M r.2)
theorem Zoj:Zdj (A++l) (shS A.length M s)=ZlL A.length M (Zdj l s):=by
 unfold Zdj;have e:(shS A.length M s).at_=A.length+s.at_:=rfl;rw[e,Zbm,ZmB];simp only;split
 ·rfl
 ·split<;>rfl
theorem Zok:Zdk (A++l) (shS A.length M s)=ZlL A.length M (Zdk l s):=by
 unfold Zdk;have e:(shS A.length M s).at_=A.length+s.at_:=rfl;rw[e,Nat.add_assoc,Zbm,ZmB];simp only;split
 ·rfl
 ·simp[ZlL,shS,shM]
theorem Zgp(x:Bool)(d:UInt8)(h:s.at_≤l.length):ZaE x (A++l) d (shS A.length M s)=ZlL A.length M (ZaE x l d s):=by
 unfold ZaE;have e:(shS A.length M s).at_=A.length+s.at_:=rfl;rw[e,Znm d true h];simp only;split
 ·rfl
 ·split
  ·rfl
  ·cases Zac prg x (bt l d true (l.length+1) s.at_ []).1 with
   |inl z=>rfl
   |inr z=>
    simp only[ZlL,shS,List.map_append,List.map_map,List.append_assoc]
    congr 5
    apply List.map_congr_left;intro m _;simp[shM,Nat.add_assoc]
theorem Zk2(x sec:Bool)(h:s.at_≤l.length)(he:s.e=0):addrD x (A++l) sec (shS A.length M s)=ZlL A.length M (addrD x l sec s):=by
 unfold addrD;have e:(shS A.length M s).at_=A.length+s.at_:=rfl;have em:(shS A.length M s).marks=M++s.marks.map (shM A.length):=rfl;rw[e,em,Zee];split
 ·exact Zoj
 split
 ·rfl
 split
 ·next hb=>
  have hlt:s.at_<l.length:=ZaO (by rw[hb];decide);have:=Zgp (A:=A) (M:=M) (s:=⟨s.at_+1,s.marks,0⟩) x 47 (show s.at_+1≤l.length from hlt);rw[←this];rfl
 split
 ·next hb=>
  have hlt:s.at_<l.length:=ZaO (by rw[hb];decide);rw[Nat.add_assoc,Zee,List.length_append];by_cases hc:l.length≤s.at_+1∨byt l (s.at_+1)=92∨byt l (s.at_+1)=10
  ·rw[if_pos hc,if_pos (hc.imp (by omega) id)];rfl
  ·rw[if_neg hc,if_neg (fun h=>hc (h.imp (by omega) id))];have:=Zgp (A:=A) (M:=M) (s:=⟨s.at_+1+1,s.marks,0⟩) x (byt l (s.at_+1)) (show s.at_+1+1≤l.length by omega);rw[←this];rfl
 split
 ·exact Zok
 ·rfl
theorem addrD_le{x sec:Bool}{s':AdS}{a:AV}(h:s.at_≤l.length)(he:s.e=0)(hr:addrD x l sec s=.inr (a,s')):s'.at_≤l.length∧s'.e=0:=⟨(Zam h he hr).le,(Zam h he hr).ok⟩
theorem Zol(x:Bool)(h:s.at_≤l.length):Zbc x (A++l) (shS A.length M s)=ZlL A.length M (Zbc x l s):=by
 unfold Zbc;have e:(shS A.length M s).at_=A.length+s.at_:=rfl;have em:(shS A.length M s).marks=M++s.marks.map (shM A.length):=rfl;have hb:=(bhd_in [32,9] h).2;rw[e,em,Zdv _ h,Zee];split
 ·next h44=>
  have hlt:bhd l [32,9] s.at_<l.length:=ZaO (by rw[h44];decide);rw[Nat.add_assoc,Zdv _ (by omega)];have hb2:=(bhd_in [32,9] (show bhd l [32,9] s.at_+1≤l.length from hlt)).2;have:=Zk2 (A:=A) (M:=M) (s:=⟨bhd l [32,9] (bhd l [32,9] s.at_+1),s.marks,0⟩) x true hb2 rfl;rw[show(⟨A.length+bhd l [32,9] (bhd l [32,9] s.at_+1),M++s.marks.map (shM A.length),0⟩:AdS)=shS A.length M ⟨bhd l [32,9] (bhd l [32,9] s.at_+1),s.marks,0⟩from rfl,this];cases addrD x l true ⟨bhd l [32,9] (bhd l [32,9] s.at_+1),s.marks,0⟩with
  |inl z=>rfl
  |inr z=>
   simp only[ZlL];split
   ·rfl
   ·rfl
 ·rfl
theorem Znn(a b:AV)(h:s.at_≤l.length):ZgT (A++l) a b (shS A.length M s)=Zqz A.length M (ZgT l a b s):=by
 unfold ZgT;have e:(shS A.length M s).at_=A.length+s.at_:=rfl;have em:(shS A.length M s).marks=M++s.marks.map (shM A.length):=rfl;have hb:=(bhd_in [32,9] h).2;rw[e,em,Zdv _ h,Zee];split
 ·next h33=>
  have hlt:bhd l [32,9] s.at_<l.length:=ZaO (by rw[h33];decide);rw[Nat.add_assoc,Zdv _ (by omega),Zee];split<;>rfl
 ·rfl
theorem ZiC{x:Bool}{s':AdS}{a:AV}(h:s.at_≤l.length)(hr:Zbc x l s=.inr (a,s')):s'.at_≤l.length∧s'.e=0:=by
 unfold Zbc at hr;split at hr
 ·next h44=>
  have hlt:bhd l [32,9] s.at_<l.length:=ZaO (by rw[h44];decide);have hb2:=(bhd_in [32,9] (show bhd l [32,9] s.at_+1≤l.length from hlt)).2;split at hr
  ·cases hr
  ·next b s1 hp=>
   split at hr
   ·cases hr
   ·injection hr with hr;injection hr with h1 h2;subst h2;exact addrD_le (s:=⟨_,_,0⟩) hb2 rfl hp
 ·injection hr with hr;injection hr with h1 h2;subst h2;exact⟨(bhd_in [32,9] h).2,rfl⟩
theorem ZmG(x:Bool)(h:s.at_≤l.length)(he:s.e=0):ZX x (A++l) (shS A.length M s)=Zqz A.length M (ZX x l s):=by
 unfold ZX;rw[Zk2 x false h he];cases ha:addrD x l false s with
 |inl z=>rfl
 |inr z=>
  obtain⟨a,s1⟩:=z;obtain⟨h1,e1⟩:=addrD_le h he ha;simp only[ZlL];by_cases h0:a.kind=0
  ·simp only[if_pos h0];exact Znn a AV.zero h1
  ·simp only[if_neg h0];rw[Zol x h1];cases hp:Zbc x l s1 with
   |inl z=>rfl
   |inr z=>
    obtain⟨b,s2⟩:=z;simp only[ZlL];exact Znn a b (ZiC h1 hp).1
theorem Zcb{e:Int}{p:Nat}(he:e≠0):(failC s e p).e≠0:=by unfold failC;split<;>assumption
theorem ZpN(x:Bool)(g:GV)(h:s.at_≤l.length):(ZbY x (A++l) g (shS A.length M s)).2=shS A.length M (ZbY x l g s).2∧((ZbY x l g s).2.e=0→(ZbY x (A++l) g (shS A.length M s)).1=shC A.length (ZbY x l g s).1):=by
 unfold ZbY;have e2:(shS A.length M s).at_=A.length+s.at_:=rfl;rw[e2,List.length_append,Zee];by_cases c1:l.length≤s.at_
 ·rw[if_pos c1,if_pos (by omega)];exact⟨ZaH _ _ _,fun h=>(Zcb (by decide) h).elim⟩
 ·rw[if_neg c1,if_neg (by omega)];simp only[ZaH,ZhF];have hif:(if ZM (byt l s.at_)<0 then shS A.length M (failC s 13 s.at_)else if ZM (byt l s.at_)<ZcD g then shS A.length M (failC s 19 s.at_)else if byt l s.at_=81∨byt l s.at_=84∨byt l s.at_=122 then shS A.length M (Zan s s.at_ [byt l s.at_])else shS A.length M s)=
   shS A.length M (if ZM (byt l s.at_)<0 then failC s 13 s.at_ else if ZM (byt l s.at_)<ZcD g then failC s 19 s.at_ else if byt l s.at_=81∨byt l s.at_=84∨byt l s.at_=122 then Zan s s.at_ [byt l s.at_]else s):=by
   split
   ·rfl
   ·split
    ·rfl
    ·split<;>rfl
  rw[hif];generalize hs1:(if ZM (byt l s.at_)<0 then failC s 13 s.at_ else if ZM (byt l s.at_)<ZcD g then failC s 19 s.at_ else if byt l s.at_=81∨byt l s.at_=84∨byt l s.at_=122 then Zan s s.at_ [byt l s.at_]else s)=s1;have h1:s1.e=0→s1.at_+1≤l.length:=by
   intro h0;rw[←hs1]at h0⊢;split
   ·next hc=>rw[if_pos hc]at h0;exact(Zcb (by decide) h0).elim
   ·next hc=>
    rw[if_neg hc]at h0;split
    ·next hd=>rw[if_pos hd]at h0;exact(Zcb (by decide) h0).elim
    ·split
     ·show s.at_+1≤_;omega
     ·show s.at_+1≤_;omega
  have e1:(shS A.length M s1).e=s1.e:=rfl;rw[e1];by_cases h0:s1.e=0
  ·have h0':¬s1.e≠0:=fun h=>h h0;rw[if_neg h0',if_neg h0'];have e3:(shS A.length M s1).to ((shS A.length M s1).at_+1)=shS A.length M (s1.to (s1.at_+1)):=by simp[shS,AdS.to,Nat.add_assoc]
   have e4:({CV.zero with at_:=A.length+s.at_,guard:=g,name:=byt l s.at_}:CV)=shC A.length {CV.zero with at_:=s.at_,guard:=g,name:=byt l s.at_}:=rfl;rw[e3,e4,Zoi x _ (show(s1.to (s1.at_+1)).at_≤_ from h1 h0)];have hin:=ZdN (l:=l) (s:=s1.to (s1.at_+1)) x {CV.zero with at_:=s.at_,guard:=g,name:=byt l s.at_} (h1 h0);generalize argsC x l {CV.zero with at_:=s.at_,guard:=g,name:=byt l s.at_} (s1.to (s1.at_+1))=r at hin⊢;obtain⟨r1,r2,r3⟩:=r;simp only at hin⊢;have e5:(shS A.length M r3).e=r3.e:=rfl;rw[e5];split
   ·exact⟨ZpM hin,fun _=>rfl⟩
   ·exact⟨rfl,fun _=>rfl⟩
  ·rw[if_pos h0,if_pos h0];exact⟨rfl,fun h=>(h0 h).elim⟩
theorem Zom(x:Bool)(g:GV)(h:s.at_≤l.length):(ZbY x l g s).2.at_≤l.length:=by
 unfold ZbY;split
 ·exact ZO h (Nat.le_refl _)
 ·next c1=>
  simp only;generalize hs1:(if ZM (byt l s.at_)<0 then failC s 13 s.at_ else if ZM (byt l s.at_)<ZcD g then failC s 19 s.at_ else if byt l s.at_=81∨byt l s.at_=84∨byt l s.at_=122 then Zan s s.at_ [byt l s.at_]else s)=s1;have h1:s1.at_≤l.length:=by
   rw[←hs1];split
   ·exact ZO h h
   ·split
    ·exact ZO h h
    ·split<;>exact h
  have h2:s1.e=0→s1.at_+1≤l.length:=by
   intro h0;rw[←hs1]at h0⊢;split
   ·next hc=>rw[if_pos hc]at h0;exact(Zcb (by decide) h0).elim
   ·next hc=>
    rw[if_neg hc]at h0;split
    ·next hd=>rw[if_pos hd]at h0;exact(Zcb (by decide) h0).elim
    ·split
     ·show s.at_+1≤_;omega
     ·show s.at_+1≤_;omega
  split
  ·exact h1
  ·next h0=>
   have hin:=ZdN (l:=l) (s:=s1.to (s1.at_+1)) x {CV.zero with at_:=s.at_,guard:=g,name:=byt l s.at_} (h2 (Decidable.not_not.1 h0));split
   ·unfold Zjq;simp only;have hb:=(bhd_in [32,9] hin).2;split
    ·exact hb
    ·split
     ·exact hb
     ·exact ZO (show(AdS.to _ _).at_≤_ from hb) hb
   ·exact hin
theorem Zk3{a b:AV}{g:GV}{s':AdS}(h:s.at_≤l.length)(hr:ZgT l a b s=.inr (g,s')):s'.at_≤l.length:=by
 unfold ZgT at hr;have hb:=(bhd_in [32,9] h).2;split at hr
 ·next h33=>
  have hlt:bhd l [32,9] s.at_<l.length:=ZaO (by rw[h33];decide);have hb2:=(bhd_in [32,9] (show bhd l [32,9] s.at_+1≤l.length from hlt)).2;split at hr
  ·cases hr
  ·injection hr with hr;injection hr with h1 h2;subst h2;exact hb2
 ·injection hr with hr;injection hr with h1 h2;subst h2;exact hb
theorem guardD_le{x:Bool}{g:GV}{s':AdS}(h:s.at_≤l.length)(he:s.e=0)(hr:ZX x l s=.inr (g,s')):s'.at_≤l.length:=by
 unfold ZX at hr;cases ha:addrD x l false s with
 |inl z=>rw[ha]at hr;cases hr
 |inr z=>
  obtain⟨a,s1⟩:=z;obtain⟨h1,e1⟩:=addrD_le h he ha;rw[ha]at hr;simp only at hr;by_cases h0:a.kind=0
  ·simp only[if_pos h0]at hr;exact Zk3 h1 hr
  ·simp only[if_neg h0]at hr;cases hp:Zbc x l s1 with
   |inl z=>rw[hp]at hr;cases hr
   |inr z=>
    obtain⟨b,s2⟩:=z;rw[hp]at hr;exact Zk3 (ZiC h1 hp).1 hr
def ZqA(a:Nat):Zqc→Zqc
 | .inl z=>.inl (z.1,a+z.2)
 | .inr r=>.inr (shC a r.1,shS a [] r.2)
theorem Zon(x:Bool){p:Nat}(h:p≤l.length):Zeu x (A++l) (A.length+p)=ZqA A.length (Zeu x l p):=by
 unfold Zeu;have:=ZmG (A:=A) (l:=l) (M:=[]) (s:=⟨p,[],0⟩) x h rfl;rw[show(⟨A.length+p,[],0⟩:AdS)=shS A.length [] ⟨p,[],0⟩from rfl,this];cases hg:ZX x l ⟨p,[],0⟩with
 |inl z=>rfl
 |inr z=>
  obtain⟨g,s1⟩:=z;have h1:=guardD_le (s:=⟨p,[],0⟩) h rfl hg;simp only[Zqz];obtain⟨c1,c2⟩:=ZpN (A:=A) (M:=[]) x g h1;rw[c1];have e1:(shS A.length [] (ZbY x l g s1).2).e=(ZbY x l g s1).2.e:=rfl;rw[e1];by_cases h0:(ZbY x l g s1).2.e=0
  ·have h0':¬(ZbY x l g s1).2.e≠0:=fun h=>h h0;rw[if_neg h0',if_neg h0'];simp only[ZqA]
   congr 1
   exact Prod.ext (c2 h0) c1
  ·rw[if_pos h0,if_pos h0];rfl
end
theorem Zcj(x:Bool)(l:List UInt8)(c:CV)(s:AdS):(argsC x l c s).2.1.at_=c.at_∧(argsC x l c s).2.1.name=c.name∧(argsC x l c s).2.1.guard=c.guard:=by
 unfold argsC;split
 ·exact⟨rfl,rfl,rfl⟩
 split
 ·exact⟨rfl,rfl,rfl⟩
 split
 ·exact⟨rfl,rfl,rfl⟩
 split
 ·exact⟨rfl,rfl,rfl⟩
 split
 ·exact⟨rfl,rfl,rfl⟩
 split
 ·exact⟨rfl,rfl,rfl⟩
 split<;>exact⟨rfl,rfl,rfl⟩
theorem Zk4{x:Bool}{l:List UInt8}{g:GV}{s:AdS}(h:(ZbY x l g s).2.e=0):s.at_<l.length∧0≤ZM (byt l s.at_)∧¬ZM (byt l s.at_)<ZcD g∧(ZbY x l g s).1.at_=s.at_∧(ZbY x l g s).1.name=byt l s.at_∧(ZbY x l g s).1.guard=g:=by
 unfold ZbY at h⊢;split at h
 ·exact(Zcb (by decide) h).elim
 ·next c1=>
  rw[if_neg c1];simp only at h⊢;generalize hs1:(if ZM (byt l s.at_)<0 then failC s 13 s.at_ else if ZM (byt l s.at_)<ZcD g then failC s 19 s.at_ else if byt l s.at_=81∨byt l s.at_=84∨byt l s.at_=122 then Zan s s.at_ [byt l s.at_]else s)=s1 at h⊢;split at h
  ·next h0=>exact(h0 h).elim
  ·next h0=>
   rw[if_neg h0];have h0:s1.e=0:=Decidable.not_not.1 h0;have hc:¬ZM (byt l s.at_)<0:=fun hc=>by rw[←hs1,if_pos hc]at h0;exact Zcb (by decide) h0
   have hd:¬ZM (byt l s.at_)<ZcD g:=fun hd=>by rw[←hs1,if_neg hc,if_pos hd]at h0;exact Zcb (by decide) h0
   have hk:=Zcj x l {CV.zero with at_:=s.at_,guard:=g,name:=byt l s.at_} (s1.to (s1.at_+1));refine⟨by omega,by omega,hd,?_⟩;split<;>exact⟨hk.1,hk.2.1,hk.2.2⟩
section
variable {s t:List UInt8}
theorem Zrn{x:Bool}{sec:Bool}{r:List UInt8}{q q':AdS}{a:AV}(hk:q.at_≤s.length)(h:addrD x s sec q=.inr (a,q')):addrD x (s++10::r) sec q=.inr (a,q'):=by
 rcases Nat.lt_or_ge q.at_ s.length with hlt|hge
 ·unfold addrD at h⊢;rw[byt_app hlt];split
  ·next hc=>
   rw[if_pos hc]at h;unfold Zdj at h⊢;rw[Zq5 hk,Zrm (by decide)];exact h
  ·next hc=>
   rw[if_neg hc]at h;split
   ·next hc=>rw[if_pos hc]at h;exact h
   ·next hc=>
    rw[if_neg hc]at h;split
    ·next hc=>
     rw[if_pos hc]at h;exact regexD_app (by show q.at_+1≤_;omega) h
    ·next hc=>
     rw[if_neg hc]at h;split
     ·next hc=>
      rw[if_pos hc]at h;split at h
      ·cases h
      ·next hn=>
       have hl:q.at_+1<s.length:=Nat.lt_of_not_le fun e=>hn (Or.inl e);rw[byt_app hl,if_neg (by rw[List.length_append];intro e;exact hn (e.imp (by omega) id))];exact regexD_app (by show q.at_+1+1≤_;omega) h
     ·next hc=>
      rw[if_neg hc]at h;split
      ·next hc=>
       rw[if_pos hc]at h;unfold Zdk at h⊢;rw[Zq5 (by omega),Zrm (by decide)];exact h
      ·next hc=>rw[if_neg hc]at h;exact h
 ·have hb:byt s q.at_=0:=ZkR hge;have hb2:byt (s++10::r) q.at_=10:=by
   obtain e:q.at_=s.length:=by omega
   unfold byt;rw[e,List.getElem?_append_right (Nat.le_refl _)];simp
  unfold addrD at h⊢;rw[hb]at h;rw[hb2];rw[if_neg (by decide),if_neg (by decide),if_neg (by decide),if_neg (by decide),if_neg (by simp)]at h⊢;exact h
theorem Zr8{r:List UInt8}:byt (s++10::r) s.length=10:=by
 unfold byt;rw[List.getElem?_append_right (Nat.le_refl _)];simp
theorem Zq7{r:List UInt8}{k:Nat}(hk:k≤s.length){c:UInt8}(hc:c≠0)(hc2:c≠10):byt (s++10::r) k=c↔byt s k=c:=by
 rcases Nat.lt_or_ge k s.length with hlt|hge
 ·rw[byt_app hlt]
 ·obtain rfl:k=s.length:=by omega
  rw[Zr8,ZkR (Nat.le_refl _)];exact⟨fun e=>absurd e.symm hc2,fun e=>absurd e.symm hc⟩
theorem ZrL{x:Bool}{r:List UInt8}{q q':AdS}{a:AV}(hk:q.at_≤s.length)(h:Zbc x s q=.inr (a,q')):Zbc x (s++10::r) q=.inr (a,q'):=by
 have h1:=bhd_le s [32,9] q.at_;unfold Zbc at h⊢;rw[Zq8 (by decide) hk];by_cases hc:byt s (bhd s [32,9] q.at_)=44
 ·have hlt:=ZaO (by rw[hc];decide:byt s (bhd s [32,9] q.at_)≠0);rw[if_pos hc]at h;rw[if_pos ((Zq7 h1 (by decide) (by decide)).2 hc),Zq8 (by decide) (by omega)];cases hA:addrD x s true ⟨bhd s [32,9] (bhd s [32,9] q.at_+1),q.marks,0⟩with
  |inl z=>rw[hA]at h;cases h
  |inr y=>
   obtain⟨y,s1⟩:=y;rw[hA]at h;rw[Zrn (bhd_le _ _ _) hA];exact h
 ·rw[if_neg hc]at h;rw[if_neg (fun e=>hc ((Zq7 h1 (by decide) (by decide)).1 e))];exact h
theorem Zry{r:List UInt8}{a b:AV}{g:GV}{q q':AdS}(hk:q.at_≤s.length)(h:ZgT s a b q=.inr (g,q')):ZgT (s++10::r) a b q=.inr (g,q'):=by
 have h1:=bhd_le s [32,9] q.at_;unfold ZgT at h⊢;rw[Zq8 (by decide) hk];by_cases hc:byt s (bhd s [32,9] q.at_)=33
 ·have hlt:=ZaO (by rw[hc];decide:byt s (bhd s [32,9] q.at_)≠0);rw[if_pos hc]at h;rw[if_pos ((Zq7 h1 (by decide) (by decide)).2 hc),Zq8 (by decide) (by omega)];split at h
  ·cases h
  ·next hn=>
   rw[if_neg (fun e=>hn ((Zq7 (bhd_le _ _ _) (by decide) (by decide)).1 e))];exact h
 ·rw[if_neg hc]at h;rw[if_neg (fun e=>hc ((Zq7 h1 (by decide) (by decide)).1 e))];exact h
theorem Zrz{r:List UInt8}{x:Bool}{g:GV}{q q':AdS}(hk:q.at_≤s.length)(he:q.e=0)(h:ZX x s q=.inr (g,q')):ZX x (s++10::r) q=.inr (g,q'):=by
 unfold ZX at h⊢;cases hA:addrD x s false q with
 |inl z=>rw[hA]at h;cases h
 |inr y=>
  obtain⟨a,s1⟩:=y;rw[hA]at h;rw[Zrn hk hA];obtain⟨f1,e1⟩:=addrD_le hk he hA;simp only at h⊢;by_cases h0:a.kind=0
  ·rw[if_pos h0]at h⊢;exact Zry f1 h
  ·rw[if_neg h0]at h⊢;cases hB:Zbc x s s1 with
   |inl z=>rw[hB]at h;cases h
   |inr y=>
    obtain⟨b,s2⟩:=y;rw[hB]at h;rw[ZrL f1 hB];exact Zry (ZiC f1 hB).1 h
variable {r:List UInt8} {q:AdS}
theorem ZrA:(s++10::r)[s.length]? =some 10:=by rw[List.getElem?_append_right (Nat.le_refl _)];simp
theorem next_in(some:List UInt8)(h:q.at_<s.length):ZI (s++10::r) q some=ZI s q some:=by unfold ZI;rw[List.getElem?_append_left h]
theorem Zrb(some:List UInt8)(hs:some.contains 10=false)(h:q.at_≤s.length):ZI (s++10::r) q some=ZI s q some:=by
 rcases Nat.lt_or_ge q.at_ s.length with hlt|hge
 ·exact next_in some hlt
 ·have e:q.at_=s.length:=by omega
  unfold ZI;rw[e,ZrA,List.getElem?_eq_none (Nat.le_refl _)];exact hs
theorem Zrj(label:Bool):∀m:List UInt8,Zcv (m++10::r) label=Zcv m label
 |[]=>by unfold Zcv Zqx;cases label<;>rfl
 |b::m=>by
  have ih:=Zrj label m;unfold Zcv at ih⊢;rw[List.cons_append,List.takeWhile_cons,List.takeWhile_cons,ih]
theorem ZrV{k:Nat}(label:Bool)(hk:k≤s.length):ZcI (s++10::r) k label=ZcI s k label:=by
 unfold ZcI;rw[Zq5 hk,Zrj]
theorem Zro(must:Bool)(h:q.at_≤s.length):labelC (s++10::r) must q=labelC s must q:=by
 unfold labelC;rw[ZrV true h,Zq5 h,Zrj]
theorem ZrB(h:q.at_≤s.length):ZaR (s++10::r) q=ZaR s q:=by
 unfold ZaR;rw[ZrV false h,Zrb [32,9] (by decide) h]
theorem ZrY(sub:SV)(h:q.at_≤s.length):Zap (s++10::r) sub q=Zap s sub q:=by
 unfold Zap;rw[Zrb [103] (by decide) h,Zrb [112] (by decide) h,Zrb [48,49,50,51,52,53,54,55,56,57] (by decide) h,Zrb [119] (by decide) h,Zq5 h];simp only[Zrm (y:=10) (r:=r) (by decide)];by_cases hw:ZI s q [119]=true
 ·rw[ZrB (show(q.to (q.at_+1)).at_≤_ from Zbh hw)]
 ·simp only[if_neg hw]
theorem Zrp:∀(n:Nat) (sub:SV) (q:AdS),q.at_≤s.length→Zai (s++10::r) n sub q=Zai s n sub q
 |0,_,_,_=>rfl
 |n+1,sub,q,h=>by
  rw[Zai,Zai,ZrY sub h];have hf:=Ziy sub h;cases hr:Zap s sub q with
  |mk a b=>
   rw[hr]at hf;obtain⟨b,c⟩:=b;cases a with
   |true=>exact Zrp n b c hf
   |false=>rfl
theorem Zrq(h:q.at_≤s.length)(he:(Zv s q).2.e=0):Zv (s++10::r) q=Zv s q:=by
 unfold Zv at he⊢;split at he
 ·exact(Zcb (by decide) he).elim
 ·next hlt=>
  have hl2:¬(s++10::r).length≤q.at_:=by rw[List.length_append];omega
  rw[if_neg hl2,if_neg hlt,next_in _ (by omega),byt_app (by omega)]
theorem Zrk{p:Nat}{e:Int}(h:q.e=0)(he:(ZV q p e).e=0):e=0:=by unfold ZV at he;rw[if_pos h]at he;exact he
theorem ZrM{p:Nat}{e:Int}(he:(failC q e p).e=0):q.e=0:=by
 unfold failC at he;split at he
 ·assumption
 ·exact he
theorem Zrd{d:UInt8}{rx:Bool}(he:(Zr s d rx q).2.e=0):q.e=0:=by
 unfold Zr at he;split at he
 ·next h=>exact(h he).elim
 ·next h=>exact Decidable.not_not.1 h
theorem Zre(d:UInt8)(rx:Bool)(h:q.at_≤s.length)(he:(Zr s d rx q).2.e=0):Zr (s++10::r) d rx q=Zr s d rx q:=by
 have h0:=Zrd he;unfold Zr at he⊢;rw[if_neg (fun h=>h h0)]at he⊢;rw[if_neg (fun h=>h h0)];have hz:=Zrk h0 he;rw[bt_app (s.length+1) q.at_ [] ((s++10::r).length+1) h (by omega) (by rw[List.length_append];omega) hz]
theorem ZrN{x:Bool}{d:UInt8}(he:(Zav x s d q).2.e=0):(Zr s d true q).2.e=0:=by
 unfold Zav at he;simp only at he;have hs:∀s2:AdS,(if s2.e≠0 then((([]:List UInt8),Nd.nil),s2)else match Zac prg x (Zr s d true q).1 with
  | .inl z=>(((Zr s d true q).1,.nil),failC s2 z.1 q.at_)
  | .inr (n,r)=>(((Zr s d true q).1,n),⟨s2.at_,s2.marks++r.marks.map (shM q.at_),s2.e⟩)).2.e=0→s2.e=0:=by
  intro s2 h;split at h
  ·exact h
  ·next h0=>exact Decidable.not_not.1 h0
 have h2:=hs _ he;split at h2
 ·exact ZrM h2
 ·exact h2
theorem ZrO(x:Bool)(d:UInt8)(h:q.at_≤s.length)(he:(Zav x s d q).2.e=0):Zav x (s++10::r) d q=Zav x s d q:=by
 have hb:=Zre (r:=r) d true h (ZrN he);unfold Zav;rw[hb]
theorem Zr9(x:Bool)(h:q.at_≤s.length)(he:(Zet x s q).2.e=0):Zet x (s++10::r) q=Zet x s q:=by
 have hd:(Zv s q).2.e=0:=by
  refine Classical.byContradiction fun hn=> ?_;unfold Zet at he;simp only[if_pos hn]at he;exact hn he
 have h1:=Za7 h;have h2:=Zeg x (Zv s q).1 h1;have hb:(Zr s (Zv s q).1 false (Zav x s (Zv s q).1 (Zv s q).2).2).2.e=0:=by
  refine Classical.byContradiction fun hn=> ?_;unfold Zet at he;simp only[if_neg (show¬(Zv s q).2.e≠0 from fun h=>h hd),if_pos hn]at he;exact hn he
 have hr:=Zrd hb;have h3:=ZaW (Zv s q).1 false h2;unfold Zet;rw[Zrq h hd];simp only;rw[ZrO x _ h1 hr];(try simp only);rw[Zre _ _ h2 hb];simp only[Zrp _ _ _ h3];have hf:=fun sub=>ZeN (l:=s) ((s++10::r).length+2) (s.length+2) sub (Zr s (Zv s q).1 false (Zav x s (Zv s q).1 (Zv s q).2).2).2 h3 (by rw[List.length_append];omega) (by omega);simp only[hf]
theorem ZrP(h:q.at_≤s.length)(he:(ZaP s q).2.e=0):ZaP (s++10::r) q=ZaP s q:=by
 have hb:(Zr s (Zv s q).1 false (Zr s (Zv s q).1 false (Zv s q).2).2).2.e=0:=by
  refine Classical.byContradiction fun hn=> ?_;unfold ZaP at he;simp only[if_pos hn]at he;exact hn he
 have hb1:=Zrd hb;have hd:=Zrd hb1;have h1:=Za7 h;have h2:=ZaW (Zv s q).1 false h1;unfold ZaP;rw[Zrq h hd];simp only;rw[Zre _ _ h1 hb1];(try simp only);rw[Zre _ _ h2 hb]
theorem ZrC:∀(n m k:Nat) (out:List UInt8),k≤s.length→s.length<n+k→s.length<m+k→(ln s n k out).2.2=0→
 (ln (s++10::r) m k out).1=(ln s n k out).1∧(ln (s++10::r) m k out).2.2=0∧((ln (s++10::r) m k out).2.1=(ln s n k out).2.1∨((ln s n k out).2.1=s.length∧(ln (s++10::r) m k out).2.1=s.length+1))
 |0,m,k,out,hk,hn,_,_=>by omega
 |n+1,0,k,out,hk,_,hm,_=>by omega
 |n+1,m+1,k,out,hk,hn,hm,he=>by
  rw[ln]at he⊢;rw[ln];rcases Nat.lt_or_ge k s.length with hlt|hge
  ·rw[List.getElem?_append_left hlt];rw[List.getElem?_eq_getElem hlt]at he⊢;simp only at he⊢;by_cases h1:s[k]=10
   ·simp only[if_pos h1];refine⟨trivial,trivial,.inl ?_⟩;rw[List.length_append];omega
   ·simp only[if_neg h1]at he⊢;by_cases h2:s[k]=92
    ·simp only[if_pos h2]at he⊢;cases hx:s[k+1]? with
     |none=>rw[hx]at he;exact absurd he (by intro e;cases e)
     |some y=>
      have hk1:=(List.getElem?_eq_some_iff.1 hx).1;rw[List.getElem?_append_left hk1,hx];rw[hx]at he;exact ZrC n m (k+2) _ (by omega) (by omega) (by omega) he
    ·simp only[if_neg h2]at he⊢;exact ZrC n m (k+1) _ (by omega) (by omega) (by omega) he
  ·obtain rfl:k=s.length:=by omega
   rw[ZrA,List.getElem?_eq_none (Nat.le_refl _)];simp only[if_true];refine⟨trivial,trivial,.inr ⟨by omega,?_⟩⟩;rw[List.length_append,List.length_cons];omega
def Nl(s:List UInt8)(q q':AdS):Prop:=q'.marks=q.marks∧q'.e=q.e∧(q'.at_=q.at_∨(q.at_=s.length∧q'.at_=s.length+1))
theorem Nl.refl(s:List UInt8)(q:AdS):Nl s q q:=⟨rfl,rfl,.inl rfl⟩
theorem ZrQ(b:Nat)(h:q.at_≤s.length)(h0:q.e=0)(he:(Zah s b q).2.e=0):(Zah (s++10::r) b q).1=(Zah s b q).1∧Nl s (Zah s b q).2 (Zah (s++10::r) b q).2:=by
 unfold Zah at he⊢;simp only at he⊢;rw[Zq8 (by decide) h];have hb:=(bhd_in (l:=s) [32,9] h).2;generalize hs1:q.to (bhd s [32,9] q.at_)=s1 at he⊢;have h1:s1.at_≤s.length:=by rw[←hs1];exact hb
 have e1:s1.e=0:=by rw[←hs1];exact h0
 split at he
 ·exact(Zcb (by decide) he).elim
 ·next hlt=>
  rw[if_neg (by rw[List.length_append];omega),if_neg hlt,next_in _ (by omega)];split at he
  ·exact(Zcb (by decide) he).elim
  ·next hn=>
   rw[if_neg hn,if_neg hn];have hpre:[92,10].isPrefixOf ((s++10::r).drop s1.at_)=[92,10].isPrefixOf (s.drop s1.at_)∨s.drop s1.at_=[92]:=by
    rw[Zq5 h1]
    match hd:s.drop s1.at_ with
    |[]=>have:=congrArg List.length hd;simp at this;omega
    |[y]=>by_cases hy:y=92;exact .inr (by rw[hy]);exact .inl (by simp[List.isPrefixOf,Ne.symm hy])
    |y::z::t=>exact .inl rfl
   rcases hpre with hpre|hpre
   ·rw[hpre];generalize hs2:(if[92,10].isPrefixOf (s.drop s1.at_)=true then s1.to (s1.at_+2)else Zan s1 b [116,101,120,116])=s2 at he⊢;have h2:s2.at_≤s.length:=by
     rw[←hs2];split
     ·next hp=>
      have h2:=(List.isPrefixOf_iff_prefix.1 hp).length_le;simp only[List.length_drop,List.length_cons,List.length_nil]at h2;show s1.at_+2≤_;omega
     ·exact h1
    have e2:s2.e=0:=by rw[←hs2];split<;>exact e1
    have hz:=Zrk e2 he;obtain⟨k1,k2,k3⟩:=ZrC (r:=r) (s.length+1) ((s++10::r).length+1) s2.at_ [] h2 (by omega) (by rw[List.length_append];omega) hz;refine⟨k1,?_⟩;unfold ZV;rw[if_pos e2,if_pos e2];exact⟨rfl,by rw[k2,hz],k3⟩
   ·exfalso
    have hnp:[92,10].isPrefixOf (s.drop s1.at_)=false:=by rw[hpre];rfl
    rw[hnp]at he;simp only[Bool.false_eq_true,if_false]at he;have e2:(Zan s1 b [116,101,120,116]).e=0:=e1;have hz:=Zrk e2 he;have hat:(Zan s1 b [116,101,120,116]).at_=s1.at_:=rfl;rw[hat,ln]at hz;have hg:s[s1.at_]? =some 92:=by rw[←List.head?_drop,hpre];rfl
    have hg2:s[s1.at_+1]? =none:=by
     have:=congrArg (fun t=>t[1]?) hpre;simpa[List.getElem?_drop]using this
    rw[hg]at hz;simp only[(by decide:¬(92:UInt8)=10),if_false,if_true,hg2]at hz;cases hz
theorem ZrZ(x:Bool)(c:CV)(h:q.at_≤s.length)(h0:q.e=0)(he:(argsC x s c q).2.2.e=0):(argsC x (s++10::r) c q).1=(argsC x s c q).1∧(argsC x (s++10::r) c q).2.1=(argsC x s c q).2.1∧
 (((argsC x s c q).1=true→(argsC x (s++10::r) c q).2.2=(argsC x s c q).2.2)∧Nl s (argsC x s c q).2.2 (argsC x (s++10::r) c q).2.2):=by
 unfold argsC at he⊢;split
 ·exact⟨rfl,rfl,fun _=>rfl,Nl.refl _ _⟩
 next n1=>
 rw[if_neg n1]at he;split
 ·rw[Zro true h];exact⟨rfl,rfl,fun _=>rfl,Nl.refl _ _⟩
 next n2=>
 rw[if_neg n2]at he;split
 ·rw[Zro false h];exact⟨rfl,rfl,fun _=>rfl,Nl.refl _ _⟩
 next n3=>
 rw[if_neg n3]at he;split
 ·next n4=>
  rw[if_pos n4]at he;obtain⟨k1,k2⟩:=ZrQ (r:=r) c.at_ h h0 he;exact⟨rfl,by simp only[k1],fun e=>(nomatch e),k2⟩
 next n4=>
 rw[if_neg n4]at he;split
 ·rw[ZrB h];exact⟨rfl,rfl,fun _=>rfl,Nl.refl _ _⟩
 next n5=>
 rw[if_neg n5]at he;split
 ·next n6=>
  rw[if_pos n6]at he;rw[Zr9 x h he];exact⟨rfl,rfl,fun _=>rfl,Nl.refl _ _⟩
 next n6=>
 rw[if_neg n6]at he;split
 ·next n7=>
  rw[if_pos n7]at he;rw[ZrP h he];exact⟨rfl,rfl,fun _=>rfl,Nl.refl _ _⟩
 ·exact⟨rfl,rfl,fun _=>rfl,Nl.refl _ _⟩
theorem Zsa(h:q.at_≤s.length):Zjq (s++10::r) q=Zjq s q:=by
 unfold Zjq;simp only;rw[Zq8 (by decide) h];have hb:=(bhd_in (l:=s) [32,9] h).2;generalize hs1:q.to (bhd s [32,9] q.at_)=s1;have h1:s1.at_≤s.length:=by rw[←hs1];exact hb
 rcases Nat.lt_or_ge s1.at_ s.length with hlt|hge
 ·rw[next_in _ hlt,next_in _ hlt,List.length_append];have e:(s.length+(10::r).length≤s1.at_∨ZI s s1 [59,10,35]=true)↔(s.length≤s1.at_∨ZI s s1 [59,10,35]=true):=⟨fun h=>h.imp (by omega) id,fun h=>h.imp (by omega) id⟩;simp only[e]
 ·have e:s1.at_=s.length:=by omega
  rw[if_pos (.inr (by unfold ZI;rw[e,ZrA];rfl)),if_pos (.inl (by omega))]
theorem Zr0(x:Bool)(g:GV)(h:q.at_≤s.length)(h0:q.e=0)(he:(ZbY x s g q).2.e=0):(ZbY x (s++10::r) g q).1=(ZbY x s g q).1∧Nl s (ZbY x s g q).2 (ZbY x (s++10::r) g q).2:=by
 obtain⟨hlt,hn0,hn1,_⟩:=Zk4 he;unfold ZbY at he⊢;have hc:¬s.length≤q.at_:=Nat.not_le.2 hlt;have hc2:¬(s++10::r).length≤q.at_:=by rw[List.length_append];omega
 have ha:¬ZM (byt s q.at_)<0:=Int.not_lt.2 hn0;rw[byt_app hlt];simp only[if_neg hc,if_neg hc2,if_neg hn1,if_neg ha]at he⊢;generalize hs1:(if byt s q.at_=81∨byt s q.at_=84∨byt s q.at_=122 then Zan q q.at_ [byt s q.at_]else q)=s1 at he⊢;have e1:s1.e=0:=by rw[←hs1];split<;>exact h0
 have a1:s1.at_=q.at_:=by rw[←hs1];split<;>rfl
 have hne:¬s1.e≠0:=fun h=>h e1;simp only[if_neg hne]at he⊢;have hA:(argsC x s {CV.zero with at_:=q.at_,guard:=g,name:=byt s q.at_} (s1.to (s1.at_+1))).2.2.e=0:=by
  split at he
  ·next hc=>exact hc.2
  ·exact he
 have hin:=ZdN (l:=s) (s:=s1.to (s1.at_+1)) x {CV.zero with at_:=q.at_,guard:=g,name:=byt s q.at_} (by show s1.at_+1≤_;omega);obtain⟨k1,k2,k3,k4⟩:=ZrZ (r:=r) (q:=s1.to (s1.at_+1)) x {CV.zero with at_:=q.at_,guard:=g,name:=byt s q.at_} (by show s1.at_+1≤_;omega) e1 hA;simp only at k1 k2 k3 k4;simp only[k1,k2];by_cases hp:(argsC x s {CV.zero with at_:=q.at_,guard:=g,name:=byt s q.at_} (s1.to (s1.at_+1))).1=true
 ·have hp2:=And.intro hp hA;simp only at hp2 hin;simp only[k3 hp,if_pos hp2];refine⟨trivial,?_⟩;rw[Zsa hin];exact Nl.refl _ _
 ·have hp2:∀P:Prop,¬((argsC x s {CV.zero with at_:=q.at_,guard:=g,name:=byt s q.at_} (s1.to (s1.at_+1))).1=true∧P):=fun P h=>hp h.1;simp only at hp2;simp only[if_neg (hp2 _)];exact⟨trivial,k4⟩
theorem Zr1{x:Bool}{p:Nat}{c:CV}{q:AdS}(hp:p≤s.length)(h:Zeu x s p=.inr (c,q)):∃q',Zeu x (s++10::r) p=.inr (c,q')∧Nl s q q':=by
 unfold Zeu at h;cases hg:ZX x s ⟨p,[],0⟩with
 |inl z=>rw[hg]at h;cases h
 |inr z=>
  obtain⟨g,s1⟩:=z;rw[hg]at h;simp only at h;have h1:=guardD_le (s:=⟨p,[],0⟩) hp rfl hg;have h2:s1.e=0:=guardD_ok hg;by_cases h0:(ZbY x s g s1).2.e=0
  ·rw[if_neg (fun h=>h h0)]at h;injection h with h;obtain⟨k1,k2⟩:=Zr0 (r:=r) x g h1 h2 h0;unfold Zeu;rw[Zrz (q:=⟨p,[],0⟩) hp rfl hg];simp only;have e1:(ZbY x (s++10::r) g s1).2.e=0:=by rw[k2.2.1];exact h0
   rw[if_neg (fun h=>h e1)];rw[h]at k1 k2;exact⟨(ZbY x (s++10::r) g s1).2,congrArg Sum.inr (Prod.ext k1 rfl),k2⟩
  ·rw[if_pos h0]at h;cases h
end
abbrev Zc1:List UInt8:=[32,9,10,59]
def lineL(l:List UInt8):List UInt8:=l.takeWhile (·!=10)
def Zaq(l:List UInt8):Nat→Nat→Nat
 |0,k=>bhd l Zc1 k
 |n+1,k=>if(l.drop (bhd l Zc1 k)).head? =some 35 then Zaq l n (bhd l Zc1 k+(lineL (l.drop (bhd l Zc1 k))).length)else bhd l Zc1 k
structure RdS where
 cmds:List CV
 labels:List (List UInt8)
 opens:List Nat
def RdS.zero:RdS:=⟨[],[],[]⟩
def ZbZ(c:CV)(s:RdS):Int⊕RdS:=
 if c.name=123 then(if s.opens.length=12 then .inl 4 else .inr ⟨s.cmds++[c],s.labels,s.opens++[c.at_]⟩)
 else if c.name=125 then(if s.opens=[]then .inl 16 else .inr ⟨s.cmds++[c],s.labels,s.opens.dropLast⟩)
 else if c.name=58 then(if s.labels.contains c.arg then .inl 15 else .inr ⟨s.cmds++[c],s.labels++[c.arg],s.opens⟩)
 else .inr ⟨s.cmds++[c],s.labels,s.opens⟩
abbrev ZpO:=(Int×Nat)⊕(RdS×List (Nat×List UInt8))
def Zdm(x:Bool)(l:List UInt8):Nat→Nat→RdS→List (Nat×List UInt8)→ZpO
 |0,_,s,ms=>.inr (s,ms)
 |n+1,k,s,ms=>
  if l.length≤k then .inr (s,ms)
  else if s.cmds.length=100 then .inl (3,k)
  else match Zeu x l k with
   | .inl z=>.inl z
   | .inr (c,q)=>match ZbZ c s with
     | .inl e=>.inl (e,c.at_)
     | .inr s'=>Zdm x l n (Zaq l (l.length+1) q.at_) s' (ms++q.marks)
def ZiD(c:CV):Bool:=c.name==98||c.name==116||c.name==84
def Zcc(labels:List (List UInt8))(c:CV):Bool:=ZiD c&&(c.arg !=[])&& !(labels.contains c.arg)
def Za8(s:RdS):Option (Int×Nat):=
 match s.opens.getLast? with
 |some p=>some (16,p)
 |none=>match s.cmds.find? (Zcc s.labels)with
  |some c=>some (14,c.at_)
  |none=>none
structure ScV where
 quiet:Bool
 cmds:List CV
abbrev ZqB:=(Int×Nat)⊕(ScV×List (Nat×List UInt8))
def ZdO(x:Bool)(l:List UInt8):ZqB:=
 if 4000<l.length then .inl (3,4000)
 else match Zdm x l 101 (Zaq l (l.length+1) 0) RdS.zero []with
  | .inl z=>.inl z
  | .inr (s,ms)=>match Za8 s with
    |some z=>.inl z
    |none=>.inr (⟨lineL l==[35,110],s.cmds⟩,ms)
section
variable {l A:List UInt8}
theorem ZdP(l:List UInt8):(lineL l).length≤l.length:=(List.takeWhile_sublist _).length_le
theorem ZiE{m:List UInt8}(h:m.head? =some 35):0<(lineL m).length:=by
 cases m with
 |nil=>cases h
 |cons a r=>
  injection h with h;subst h;unfold lineL;rw[List.takeWhile_cons,if_pos (by decide)];simp
theorem Zoo{k:Nat}{b:UInt8}(h:(l.drop k).head? =some b):k<l.length:=by
 refine Nat.lt_of_not_le fun hk=> ?_;rw[List.drop_eq_nil_of_le hk]at h;cases h
theorem Zeh:∀(n k:Nat),k≤l.length→k≤Zaq l n k∧Zaq l n k≤l.length
 |0,k,hk=>bhd_in Zc1 hk
 |n+1,k,hk=>by
  have hb:=bhd_in (l:=l) Zc1 hk;rw[Zaq];split
  ·next h=>
   have h1:=ZdP (l.drop (bhd l Zc1 k));rw[List.length_drop]at h1;have:=Zeh n (bhd l Zc1 k+(lineL (l.drop (bhd l Zc1 k))).length) (by omega);omega
  ·exact hb
theorem Zei:∀(n m k:Nat),k≤l.length→l.length<n+k→l.length<m+k→Zaq l n k=Zaq l m k
 |0,_,k,hk,hn,_=>by omega
 |n+1,0,k,hk,_,hm=>by omega
 |n+1,m+1,k,hk,hn,hm=>by
  have hb:=bhd_in (l:=l) Zc1 hk;rw[Zaq,Zaq];split
  ·next h=>
   have h1:=ZdP (l.drop (bhd l Zc1 k));have h2:=ZiE h;rw[List.length_drop]at h1;exact Zei n m _ (by omega) (by omega) (by omega)
  ·rfl
theorem Zgq{x:Bool}{k:Nat}{c:CV}{q:AdS}(hk:k≤l.length)(h:Zeu x l k=.inr (c,q)):q.at_≤l.length∧q.e=0:=by
 unfold Zeu at h;cases hg:ZX x l ⟨k,[],0⟩with
 |inl z=>rw[hg]at h;cases h
 |inr z=>
  obtain⟨g,s⟩:=z;rw[hg]at h;simp only at h;split at h
  ·cases h
  ·next h0=>
   injection h with h;have hs:=guardD_le (s:=⟨k,[],0⟩) hk rfl hg;have h1:=Zom x g hs;rw[h]at h1;refine⟨h1,?_⟩;have:(ZbY x l g s).2.e=0:=by simpa using h0
   rw[h]at this;exact this
end
open Go.Lib (hid)
structure Cmr(b:Nat)(l:List UInt8)(x:Bool)(s:AdS)(S:Nat→Prop)(mv:Value)(w:World):Prop where
 blk:w.heap[b]? =some (.cells #[.string ⟨l.toArray⟩,.int .i64 s.at_,.bool x,mv,.int .i64 s.e] 79 (0,0))
 ma:OwM w s.marks mv
 nm:∀k,mv.ownBlock=some k→k≠b∧S k
 me:S b
def CRd(b:Nat)(l:List UInt8)(x:Bool)(s:AdS)(S:Nat→Prop)(w:World):Prop:=∃mv,Cmr b l x s S mv w
section
variable {b:Nat} {l:List UInt8} {x:Bool} {s:AdS} {S:Nat→Prop} {mv v':Value} {w w' W0 w3:World}
theorem Cmr.keep{X:Nat→Prop}(h:Cmr b l x s S mv w)(f:Fr X w w')(hb:¬X b)(hm:∀k,mv.ownBlock=some k→¬X k):Cmr b l x s S mv w':=
 ⟨f.heap h.blk hb,ownsRow_fr h.ma f hm,h.nm,h.me⟩
theorem Cmr.on(h:Cmr b l x s S mv w)(f:Fr nob w w'):Cmr b l x s S mv w':=h.keep f (fun x=>x) (fun _ _ x=>x)
theorem CRd.on(h:CRd b l x s S w)(f:Fr nob w w'):CRd b l x s S w':=by obtain⟨mv,h⟩:=h;exact⟨mv,h.on f⟩
theorem CRd.keep{X:Nat→Prop}(h:CRd b l x s S w)(f:Fr X w w')(hX:∀k,X k→¬S k):CRd b l x s S w':=by
 obtain⟨mv,h⟩:=h;exact⟨mv,h.keep f (fun e=>hX _ e h.me) (fun k hk e=>hX _ e (h.nm k hk).2)⟩
theorem Cmr.turned(h:Cmr b l x s S mv w)(j:Nat)(u:Value)(s':AdS)
 (hj:(#[.string ⟨l.toArray⟩,.int .i64 s.at_,.bool x,mv,.int .i64 s.e]:Array Value).setIfInBounds j u= #[.string ⟨l.toArray⟩,.int .i64 s'.at_,.bool x,mv,.int .i64 s'.e]) (hm:s'.marks=s.marks):
 Cmr b l x s' S mv (w.setCell ⟨b,j,none⟩ u):=by
 have hf:=(Fr.refl (fun k=>k=b) w).setCell (p:=⟨b,j,none⟩) (fun _=>rfl) u;have hb:=Za h.blk j u;rw[hj]at hb;exact⟨hb,by rw[hm];exact ownsRow_fr h.ma hf (fun k hk e=>(h.nm k hk).1 e),h.nm,h.me⟩
theorem Cmr.stp(h:Cmr b l x s S mv w)(j:Nat)(u:Value):Stp S w S (w.setCell ⟨b,j,none⟩ u):=
 ⟨(Fr.refl S w).setCell (p:=⟨b,j,none⟩) (fun _=>h.me) u,fun _ _ x=>x,fun hl k hk=>by have:=hl k hk;simpa[World.setCell]using this⟩
theorem Cmr.push(h:Cmr b l x s S mv w)(f:Fr nob w W0)(hap:Appd 1 mv v' W0 w3){k:Nat}{t:List UInt8}
 (hown:w3.ownsRow 0 55 2 v' (s.marks.length+1) (mkC s.marks++[.int .i64 k,.string ⟨t.toArray⟩])):
 (w3.cell? ⟨b,3,none⟩=some mv∧w3.frozen? ⟨b,3,none⟩=false)∧Cmr b l x ⟨s.at_,s.marks++[(k,t)],s.e⟩ (Zf0 S v') v' (w3.setCell ⟨b,3,none⟩ v')∧Stp S w (Zf0 S v') (w3.setCell ⟨b,3,none⟩ v'):=by
 have h0:=h.on f;have hblk:=hap.fr.heap h0.blk (fun e=>(h.nm b e).1 rfl);have hsz:=f.size;have hb:=lt_heap h.blk;have hst:=(Fr.refl (fun k=>k=b) w3).setCell (p:=⟨b,3,none⟩) (fun _=>rfl) v';have hnb:v'.ownBlock≠some b:=fun e=>by
  rcases hap.old b e with h1|h1
  ·exact(h.nm b h1).1 rfl
  ·omega
 refine⟨⟨cell_at hblk rfl,unfrozen_at hblk 3⟩,⟨by have:=Za hblk 3 v';simpa using this,?_,fun k hk=>⟨fun e=>hnb (by rw[←e];exact hk),.inr hk⟩,.inl h.me⟩,?_,?_,?_⟩
 ·have:=ownsRow_fr hown hst (fun k hk e=>hnb (by rw[←e];exact hk));unfold OwM;simp only[List.length_append,List.length_singleton,Zch];exact this
 ·exact(f.any.trans (hap.fr.mono (T:=S) fun k _ hk=>(h.nm k hk).2) (fun _ _ x=>x)).setCell (p:=⟨b,3,none⟩) (fun _=>h.me) v'
 ·intro k hk hx;rcases hx with hx|hx
  ·exact hx
  ·rcases hap.old k hx with h1|h1
   ·exact(h.nm k h1).2
   ·omega
 ·intro hl k hk;have hz:(w3.setCell ⟨b,3,none⟩ v').heap.size=w3.heap.size:=by simp[World.setCell]
  rw[hz];rcases hk with hk|hk
  ·have:=hl k hk;have:=hap.fr.size;omega
  ·exact own_lt hown k hk
end
theorem cm_ok(b:Nat)(l:List UInt8)(x:Bool)(s:AdS)(S:Nat→Prop)(w:World)(h:CRd b l x s S w):
 Calls Tryz.prog 31 #[.pointer (some ⟨b,0,none⟩)] w fun r w'=>r=.returned (.bool (s.e==0))∧Fr nob w w':=by
 obtain⟨mv,h⟩:=h;have rr:=Zd h.blk;go_enter Tryz.func31,Tryz.ntmps31;go_wp2;go_ret;exact⟨rfl,Fr.refl _ _⟩
theorem Zbn(b:Nat)(l:List UInt8)(x:Bool)(s:AdS)(S:Nat→Prop)(w:World)(hl:l.length≤1000000)(h:CRd b l x s S w):
 Calls Tryz.prog 52 #[.pointer (some ⟨b,0,none⟩)] w fun r w'=>r=.returned (.bool (decide (l.length≤s.at_)))∧Fr nob w w':=by
 obtain⟨mv,h⟩:=h;have rr:=Zd h.blk;obtain⟨p,hp⟩:∃p,s.at_=p:=⟨_,rfl⟩;rw[hp]at rr⊢;clear h hp;have e:decide (l.length≤p)=decide ((l.length:Int)≤(p:Int)):=by simp
 rw[e];go_enter Tryz.func52,Tryz.ntmps52;go_wp2_with fail;refine region_fr 9 (by kernel_rfl) (by kernel_rfl) ?_;simp only[List.take_succ_cons,List.take_zero,List.drop_succ_cons,List.drop_zero]
 repeat(quiet_step (fail))
 refine wpQuiet_nil ?_;intro wC fC;go_wp2;go_ret;exact⟨rfl,fC⟩
theorem Za9{s:AdS}{e:Int}{p:Nat}(h:s.e=0):failC s e p=⟨p,s.marks,e⟩:=if_pos h
theorem ZmH{s:AdS}{e:Int}{p:Nat}(h:¬s.e=0):failC s e p=s:=if_neg h
theorem cm_fail(b:Nat)(l:List UInt8)(x:Bool)(s:AdS)(S:Nat→Prop)(e:Int)(p:Nat)(w:World)(h:CRd b l x s S w):
 Calls Tryz.prog 53 #[.pointer (some ⟨b,0,none⟩),.int .i64 e,.int .i64 (p:Nat)] w fun r w'=>r=.returned (.tuple #[])∧CRd b l x (failC s e p) S w'∧Stp S w S w':=by
 obtain⟨mv,h⟩:=h;have r1:=Zd h.blk _ (Fr.refl _ _);by_cases h0:s.e=0
 ·rw[Za9 h0];have h2:=h.turned 4 (.int .i64 e) ⟨s.at_,s.marks,e⟩ (by simp) rfl;have h3:=h2.turned 1 (.int .i64 (p:Nat)) ⟨p,s.marks,e⟩ (by simp) rfl;have st:=((h.stp 4 (.int .i64 e)).trans (h2.stp 1 (.int .i64 (p:Nat))));have r2:=Zd h2.blk _ (Fr.refl _ _);have H3:=hid h3;have ST:=hid st;clear h h2 h3 st;rw[h0]at r1;clear h0;go_enter Tryz.func53,Tryz.ntmps53;go_wp2
  go_end0
  exact⟨rfl,⟨mv,H3.out⟩,ST.out⟩
 ·rw[ZmH h0];have h1:(s.e==0)=false:=by simpa using h0
  have H:=hid h;clear h;go_enter Tryz.func53,Tryz.ntmps53;go_wp2
  go_end0
  exact⟨rfl,⟨mv,H.out⟩,Stp.refl _ _⟩
theorem Zk5{l some:List UInt8}{s:AdS}(h:l.length≤s.at_):ZI l s some=false:=by unfold ZI;rw[List.getElem?_eq_none h]
theorem ZmI{l some:List UInt8}{s:AdS}(h:s.at_<l.length):ZI l s some=some.contains l[s.at_]:=by unfold ZI;rw[List.getElem?_eq_getElem h]
theorem Zbo(l:List UInt8)(c:UInt8):decide (0≤Lib.indexByte l c)=l.contains c:=by
 rw[ZbI];cases h:l.contains c with
 |true=>
  have:l.idxOf c<l.length:=List.idxOf_lt_length_of_mem (by simpa using h);rw[if_pos this];simp
 |false=>
  have:¬l.idxOf c<l.length:=fun hh=>by
   have:=List.idxOf_lt_length_iff.1 hh;simp at h;exact h this
  rw[if_neg this];rfl
theorem ZaI(b:Nat)(l:List UInt8)(x:Bool)(s:AdS)(S:Nat→Prop)(t:List UInt8)(w:World)(hl:l.length≤1000000)(h:CRd b l x s S w):
 Calls Tryz.prog 95 #[.pointer (some ⟨b,0,none⟩),.string ⟨t.toArray⟩] w fun r w'=>r=.returned (.bool (ZI l s t))∧Fr nob w w':=by
 have HO:=hid (fun w' (f:Fr nob w w')=>Zbn b l x s S w' hl (h.on f));obtain⟨mv,h⟩:=h;have rr:=Zd h.blk;obtain⟨p,hp⟩:∃p,s.at_=p:=⟨_,rfl⟩;by_cases hin:p<l.length
 ·rw[ZmI (by rw[hp];exact hin),←Zbo];have hd:decide (l.length≤s.at_)=false:=by rw[hp];simp;exact hin
  rw[hd]at HO;simp only[hp]at rr⊢;have HI:=hid (fun w'=>strings_IndexByte t (l[p].toNat:Int) w');have hb:((l[p].toNat:Int)).toNat.toUInt8=l[p]:=ZaY _;rw[hb]at HI;obtain⟨z,hz⟩:∃z,Lib.indexByte t l[p]=z:=⟨_,rfl⟩;rw[hz]at HI⊢;clear h hp hd hz hb;go_enter Tryz.func95,Tryz.ntmps95;go_wp2_with fail;refine region_fr 14 (by kernel_rfl) (by kernel_rfl) ?_;simp only[List.take_succ_cons,List.take_zero,List.drop_succ_cons,List.drop_zero]
  repeat(go_big_quiet_step ((with_reducible exact calls_fr (HO.out _ (grown_fr _ _ _)))))
  refine wpQuiet_nil ?_;intro wC fC;go_wp2_with(refine(HI.out _).mono ?_;rintro e w' ⟨rfl,rfl⟩);go_ret;exact⟨rfl,fC⟩
 ·rw[Zk5 (by rw[hp];omega)];have hd:decide (l.length≤s.at_)=true:=by rw[hp];simp;omega
  rw[hd]at HO;simp only[hp]at rr⊢;clear h hp hd;go_enter Tryz.func95,Tryz.ntmps95;go_wp2_with fail;refine region_fr 14 (by kernel_rfl) (by kernel_rfl) ?_;simp only[List.take_succ_cons,List.take_zero,List.drop_succ_cons,List.drop_zero]
  repeat(go_big_quiet_step ((with_reducible exact calls_fr (HO.out _ (grown_fr _ _ _)))))
  refine wpQuiet_nil ?_;intro wC fC;go_wp2;go_ret;exact⟨rfl,fC⟩
def ZqC(b:Nat)(l:List UInt8)(x:Bool)(S:Nat→Prop)(w:World)(s':AdS)(w':World):Prop:=∃S',CRd b l x s' S' w'∧Stp S w S' w'
theorem cm_mark(b:Nat)(l:List UInt8)(x:Bool)(s:AdS)(S:Nat→Prop)(p:Nat)(t:List UInt8)(w:World)(hm:s.marks.length≤1000000)(h:CRd b l x s S w):
 Calls Tryz.prog 57 #[.pointer (some ⟨b,0,none⟩),.int .i64 (p:Nat),.string ⟨t.toArray⟩] w fun r w'=>r=.returned (.tuple #[])∧ZqC b l x S w (Zan s p t) w':=by
 obtain⟨mv,h⟩:=h;obtain⟨a3,c3,rfl⟩:=Zb h.ma;obtain⟨i0,hi,hz0,hz1,hz2⟩:=info_parts Zbv;have r1:=Zd h.blk;have H:=hid h;clear h;go_enter Tryz.func57,Tryz.ntmps57;go_wp2_with(at_builtin;refine wpList_append_g rfl _ _ 36 rfl 55 i0 (.agg #[.int .i64 0,.string ByteArray.empty]) 2 24 Tryz.underlying36 hi hz0 hz1 hz2 rfl (by decide) _ _ _ rfl (ownsRow_fr H.out.ma ((Fr.refl nob w).alloc _) (fun _ _ x=>x)) ⟨w.heap.size,0,none⟩ 1 1 [.int .i64 (p:Nat),.string ⟨t.toArray⟩] rfl rfl ?c1 ?c2 ?c3 ?c4 ?_)
 case c1=>exact Zdg (t:=t) (newAt0 w _)
 case c2=>exact Zf1 (t:=t)
 case c3=>unfold maxLen;show s.marks.length+1≤_;omega
 case c4=>show(s.marks.length+1)*24≤_;omega
 intro v' w4 hown' hap;obtain⟨av,cv4,rfl⟩:=Zb hown';obtain⟨⟨pc,pf⟩,h5,st5⟩:=H.out.push ((Fr.refl nob w).alloc _) hap (k:=p) (t:=t) hown';have H5:=hid h5;have ST5:=hid st5;clear hown' hap h5 st5 r1;go_wp2
 go_end0
 exact⟨rfl,_,⟨_,H5.out⟩,ST5.out⟩
theorem Zjr{s:AdS}{e:Int}{p:Nat}(h:s.e=0):ZV s p e=⟨p,s.marks,e⟩:=if_pos h
theorem Zk6{s:AdS}{e:Int}{p:Nat}(h:¬s.e=0):ZV s p e=s:=if_neg h
theorem cm_moved(b:Nat)(l:List UInt8)(x:Bool)(s:AdS)(S:Nat→Prop)(e:Int)(p:Nat)(w:World)(h:CRd b l x s S w):
 Calls Tryz.prog 116 #[.pointer (some ⟨b,0,none⟩),.int .i64 (p:Nat),.int .i64 e] w fun r w'=>r=.returned (.bool (s.e==0&&(ZV s p e).e==0))∧CRd b l x (ZV s p e) S w'∧Stp S w S w':=by
 have HK:=hid (cm_ok b l x s S w h);obtain⟨mv,h⟩:=h;by_cases h0:s.e=0
 ·rw[Zjr h0];have e1:(s.e==0)=true:=by simpa using h0
  rw[e1]at HK⊢;have H:=hid h;clear h;go_enter Tryz.func116,Tryz.ntmps116;go_wp2_with fail;refine HK.out.mono ?_;rintro z w1 ⟨rfl,f1⟩;have h:=H.out.on f1;have r1:=Zd h.blk _ (Fr.refl _ _);have h2:=h.turned 1 (.int .i64 (p:Nat)) ⟨p,s.marks,s.e⟩ (by simp) rfl;have h3:=h2.turned 4 (.int .i64 e) ⟨p,s.marks,e⟩ (by simp) rfl;have st:=(Stp.of f1).trans ((h.stp 1 (.int .i64 (p:Nat))).trans (h2.stp 4 (.int .i64 e)));have r2:=Zd h2.blk _ (Fr.refl _ _);obtain⟨w2,hw2⟩:∃w2,w2=(w1.setCell ⟨b,1,none⟩ (.int .i64 (p:Nat))).setCell ⟨b,4,none⟩ (.int .i64 e):=⟨_,rfl⟩;rw[←hw2]at h3 st;have HK2:=hid (cm_ok b l x ⟨p,s.marks,e⟩ S w2 ⟨mv,h3⟩);have H3:=hid h3;have ST:=hid st;have HW2:=hid hw2;clear h h2 h3 st hw2 f1;go_wp2_with(rw[←HW2.out]);refine HK2.out.mono ?_;rintro z w3 ⟨rfl,f3⟩;clear r1 r2;go_wp2;go_ret;exact⟨rfl,⟨mv,H3.out.on f3⟩,ST.out.trans (Stp.of f3)⟩
 ·rw[Zk6 h0];have e1:(s.e==0)=false:=by simpa using h0
  rw[e1]at HK⊢;have H:=hid h;clear h;go_enter Tryz.func116,Tryz.ntmps116;go_wp2_with fail;refine HK.out.mono ?_;rintro z w1 ⟨rfl,f1⟩;go_wp2;go_ret;exact⟨rfl,⟨mv,H.out.on f1⟩,Stp.of f1⟩
end Go.Proofs.YtkfddjopbocpkaaGreatDoor
