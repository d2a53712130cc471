/- Lemmas of this claim. -/
import Derived.Test.YtkfddjopbocpkaaGreatDoorM17
import Derived.Test.YtkfddjopbocpkaaGreatDoorM19
set_option linter.unusedVariables false
set_option linter.unusedSimpArgs false
set_option maxRecDepth 100000
set_option maxHeartbeats 4000000
namespace Go.Proofs.YtkfddjopbocpkaaGreatDoor
open Go.Lib (hid)
open Go.RowKit
def ZvK(n:Nd):Prop:=n.size≤100000∧(n.right=true→n.shw)
def ZvL(n:Nd):List UInt8:=if n.right then n.txt else[]
def ZuU(n:Nd):List UInt8:=[47]++ZvL n++[47]
def ZvY(a:AV):Prop:=ZvK a.tree∧ -9223372036854775808≤a.line∧a.line≤9223372036854775807
def Zto(a:AV):List UInt8:=if a.kind=1 then Lib.itoa a.line else if a.kind=2 then[36]else if a.kind=3 then ZuU a.tree else if a.kind=4 then[43]++Lib.itoa a.line else[]
theorem ZuG{n:Nd}(h:ZvK n):(ZvL n).length≤300000000:=by
 unfold ZvL;split
 ·next e=>have:=Nd.txt_le n (h.2 e);have:=h.1;omega
 ·simp
theorem ZtS{n:Nd}(h:ZvK n):(ZuU n).length≤300000002:=by
 have:=ZuG h;unfold ZuU;simp only[List.length_append,List.length_cons,List.length_nil];omega
theorem ZtB(n:Int)(w:World)(h0: -9223372036854775808≤n)(h1:n≤9223372036854775807)(h:P10 w):
 Calls Tryz.prog 43 #[.int .i64 n] w fun e w'=>e=.returned (.string ⟨(Lib.itoa n).toArray⟩)∧Fr nob w w':=by
 refine(Tryz.strconv_Itoa n h0 h1 w h.tab).mono ?_;rintro e w' ⟨rfl,k,os,rfl⟩;exact⟨rfl,(Zt0 k).trans' (ZuB os)⟩
theorem ZtT:∀k m,m<10^(k+1)→(Lib.decDigits m).length≤k+1:=by
 intro k;induction k with
 |zero=>intro m hm;rw[Lib.decDigits,dif_pos (by omega)];simp
 |succ k ih=>
  intro m hm;rw[Lib.decDigits];split
  ·simp
  ·rw[List.length_append];have:=ih (m/10) (by rw[Nat.pow_succ]at hm;omega);simp;omega
theorem ZsT{n:Int}(h0: -9223372036854775808≤n)(h1:n≤9223372036854775807):(Lib.itoa n).length≤20:=by
 unfold Lib.itoa;split
 ·have:=ZtT 18 n.natAbs (by have:n.natAbs≤9223372036854775808:=by omega
                            exact Nat.lt_of_le_of_lt this (by decide));simp;omega
 ·have:=ZtT 18 n.toNat (by have:n.toNat≤9223372036854775807:=by omega
                           exact Nat.lt_of_le_of_lt this (by decide));omega
theorem Ztg{a:AV}(h:ZvY a):(Zto a).length≤300000002:=by
 have h1:=ZtS h.1;have h2:=ZsT h.2.1 h.2.2;unfold Zto;split
 ·omega
 ·split
  ·simp
  ·split
   ·exact h1
   ·split
    ·simp;omega
    ·simp
theorem Zt2(n:Nd)(v:Value)(w:World)(hE:Env w)(hP:P10 w)(hn:ZvK n)(hv:RN nob w n v):
 Calls Tryz.prog 44 #[v] w fun e w'=>e=.returned (.string ⟨(ZuU n).toArray⟩)∧Fr nob w w':=by
 have HS:=hid (Zu6 n v w hE hP (by have:=hn.1;omega) hv hn.2);have a:=ZuG hn;rw[show(if n.right then n.txt else[])=ZvL n from rfl]at HS;unfold ZuU;obtain⟨t,ht⟩:∃t,ZvL n=t:=⟨_,rfl⟩;rw[ht]at HS a⊢;clear ht hE hP hn hv;go_enter Tryz.func44,Tryz.ntmps44;go_wp2_with fail;refine HS.out.mono ?_;rintro e w1 ⟨rfl,f1⟩;go_wp2;go_ret;exact⟨by simp,f1⟩
theorem Zts(a:AV)(v:Value)(w:World)(hE:Env w)(hP:P10 w)(hn:ZvY a)(hv:ZkS nob w a v):
 Calls Tryz.prog 23 #[v] w fun e w'=>e=.returned (.string ⟨(Zto a).toArray⟩)∧Fr nob w w':=by
 obtain⟨u,rfl,hu⟩:=hv;have j:=hid (fun(w':World) (f:Fr nob w w')=>Zt2 a.tree u w' (hE.on f) (hP.on f) hn.1 (RN.keep f (fun _ _ x=>x.elim) (fun _ _ x=>x.elim) _ _ hu));have d:=hid (fun(w':World) (f:Fr nob w w')=>ZtB a.line w' hn.2.1 hn.2.2 (hP.on f));have l:=ZsT hn.2.1 hn.2.2;obtain⟨k,ln,tx,tr⟩:=a;obtain⟨w1,g⟩:∃w1,w1=w.alloc (.cells #[.int .i64 k,.int .i64 ln,.string ⟨tx.toArray⟩,u] 28):=⟨_,rfl⟩;have c:=hid g;have f1:Fr nob w w1:=by rw[g];exact(Fr.refl _ _).alloc _
 have hb:w1.heap[w.heap.size]? =some (.cells #[.int .i64 k,.int .i64 ln,.string ⟨tx.toArray⟩,u] 28 (0,0)):=by rw[g];exact newAt _ _
 have r1:=Zl hb;simp only at d j l hu;have F1:=hid f1;clear g hE hP hn f1 hb;unfold Zto;obtain⟨R,hR⟩:∃R,(if k=1 then Lib.itoa ln else if k=2 then[36]else if k=3 then ZuU tr else if k=4 then[43]++Lib.itoa ln else[])=R:=⟨_,rfl⟩;simp only[hR];obtain⟨it,h⟩:∃it,Lib.itoa ln=it:=⟨_,rfl⟩;rw[h]at d l hR;clear h;have b:=hu.shape;clear hu;by_cases k1:k=1
 ·rw[if_pos k1]at hR;have t1:(k==1)=true:=by simpa using k1
  clear k1;rcases b with rfl|⟨i,x,rfl⟩
  all_goals
   go_enter Tryz.func23,Tryz.ntmps23;go_wp2_with(rw[←c.out]);refine(d.out _ F1.out).mono ?_;rintro e w2 ⟨rfl,f2⟩;go_wp2;go_ret;exact⟨by rw[←hR];rfl,F1.out.trans' f2⟩
 have t1:(k==1)=false:=by simpa using k1
 rw[if_neg k1]at hR;by_cases k2:k=2
 ·rw[if_pos k2]at hR;have t2:(k==2)=true:=by simpa using k2
  clear k1 k2;rcases b with rfl|⟨i,x,rfl⟩
  all_goals
   go_enter Tryz.func23,Tryz.ntmps23;go_wp2_with(rw[←c.out]);go_ret;exact⟨by rw[←hR];rfl,F1.out⟩
 have t2:(k==2)=false:=by simpa using k2
 rw[if_neg k2]at hR;by_cases k3:k=3
 ·rw[if_pos k3]at hR;have t3:(k==3)=true:=by simpa using k3
  clear k1 k2 k3;rcases b with rfl|⟨i,x,rfl⟩
  all_goals
   go_enter Tryz.func23,Tryz.ntmps23;go_wp2_with(rw[←c.out]);refine(j.out _ F1.out).mono ?_;rintro e w2 ⟨rfl,f2⟩;go_wp2;go_ret;exact⟨by rw[←hR];rfl,F1.out.trans' f2⟩
 have t3:(k==3)=false:=by simpa using k3
 rw[if_neg k3]at hR;by_cases k4:k=4
 ·rw[if_pos k4]at hR;have t4:(k==4)=true:=by simpa using k4
  clear k1 k2 k3 k4;rcases b with rfl|⟨i,x,rfl⟩
  all_goals
   go_enter Tryz.func23,Tryz.ntmps23;go_wp2_with(rw[←c.out]);refine(d.out _ F1.out).mono ?_;rintro e w2 ⟨rfl,f2⟩;go_wp2;go_ret;exact⟨by rw[←hR];first|rfl|simp,F1.out.trans' f2⟩
 have t4:(k==4)=false:=by simpa using k4
 rw[if_neg k4]at hR;clear k1 k2 k3 k4;rcases b with rfl|⟨i,x,rfl⟩
 all_goals
  go_enter Tryz.func23,Tryz.ntmps23;go_wp2_with(rw[←c.out]);go_ret;exact⟨by rw[←hR];rfl,F1.out⟩
section
variable {s t:List UInt8}
theorem ZhE{d:UInt8}{rx:Bool}{k:Nat}{out:List UInt8}(h:(esc s d rx k out).1=0):esc (s++t) d rx k out=esc s d rx k out∧(esc s d rx k out).2.1=k+2∧k+2≤s.length:=by
 unfold esc at h⊢;cases hc:s[k+1]? with
 |none=>rw[hc]at h;simp at h
 |some y=>
  have hk:=(List.getElem?_eq_some_iff.1 hc).1;rw[hc]at h;rw[List.getElem?_append_left hk,hc];refine⟨rfl,?_,by omega⟩;simp only at h⊢;by_cases hd:y=d
  ·rw[if_pos hd]
  ·rw[if_neg hd]at h⊢;by_cases hn:y=10∧rx=true
   ·rw[if_pos hn]at h;exact absurd h (by intro e;cases e)
   ·rw[if_neg hn]
end
section
variable {A l:List UInt8}
theorem bhd_in(cs:List UInt8){k:Nat}(hk:k≤l.length):k≤bhd l cs k∧bhd l cs k≤l.length:=by
 unfold bhd;have:=Zmv (l.drop k) cs;rw[List.length_drop]at this;omega
theorem Znk{k:Nat}(hk:k<l.length):k<brE l k:=by
 have h1:=Znc (l:=l) (c:=94) (k:=k+1);have h2:=Znc (l:=l) (c:=93) (k:=adv l 94 (k+1));have h3:=Znb (l:=l) (c:=93) (k:=adv l 93 (adv l 94 (k+1)));unfold brE;omega
theorem Znl(k:Nat):brE l k≤l.length:=by unfold brE;omega
theorem Ziw{d:UInt8}{rx:Bool}{k:Nat}{out:List UInt8}(h:(esc l d rx k out).1=0):(esc l d rx k out).2.1=k+2:=(ZhE (t:=[]) h).2.1
variable {M:List (Nat×List UInt8)} {s:AdS}
theorem Zbh{l:List UInt8}{s:AdS}{some:List UInt8}(h:ZI l s some=true):s.at_<l.length:=by
 unfold ZI at h;cases hc:l[s.at_]? with
 |none=>rw[hc]at h;cases h
 |some b=>exact(List.getElem?_eq_some_iff.1 hc).1
theorem ZkX{k:Nat}(label:Bool)(hk:k≤l.length):(ZcI l k label).2.1≤l.length:=by
 unfold ZcI;split
 ·exact hk
 ·split
  ·exact hk
  ·have:=Zec (l.drop k) label;rw[List.length_drop]at this;simp only;omega
theorem ZpK(d:UInt8)(rx:Bool){k:Nat}(hk:k<l.length)(out:List UInt8):(esc l d rx k out).2.1≤l.length:=by
 unfold esc;cases hx:l[k+1]? with
 |none=>exact Nat.le_refl _
 |some y=>
  have:=(List.getElem?_eq_some_iff.1 hx).1;simp only;split
  ·show k+2≤_;omega
  ·split
   ·show k+1≤_;omega
   ·show k+2≤_;omega
theorem ZkY(d:UInt8)(rx:Bool):∀(n k:Nat) (out:List UInt8),k≤l.length→(bt l d rx n k out).2.1≤l.length
 |0,k,out,_=>by simp[bt]
 |n+1,k,out,hk=>by
  rw[bt];cases hc:l[k]? with
  |none=>simp
  |some c=>
   have hlt:=(List.getElem?_eq_some_iff.1 hc).1;simp only;split
   ·show k+1≤_;omega
   ·split
    ·by_cases h3:(esc l d rx k out).1=0
     ·rw[if_pos h3];have hb:=(ZhE (t:=[]) h3).2.2;have hs:=Ziw h3;exact ZkY d rx n _ _ (by omega)
     ·rw[if_neg h3];exact ZpK d rx hlt out
    ·have hm1:k+(if c=91∧rx=true then brE l k-k else 1)≤l.length:=by
      have:=Znk hlt;have:=Znl (l:=l) k;split<;>omega
     generalize(if c=91∧rx=true then brE l k-k else 1)=m at *;have a:=Zb1 ((l.drop k).take m) 10;rw[List.length_take,List.length_drop]at a;split
     ·exact ZkY d rx n _ _ hm1
     ·show k+(Lib.indexByte ((l.drop k).take m) 10).toNat≤_;omega
theorem ZmC:∀(n k:Nat) (out:List UInt8),k≤l.length→(ln l n k out).2.1≤l.length
 |0,k,out,_=>by simp[ln]
 |n+1,k,out,hk=>by
  rw[ln];cases hc:l[k]? with
  |none=>simp only;omega
  |some c=>
   have hlt:=(List.getElem?_eq_some_iff.1 hc).1;simp only;split
   ·simp only;omega
   ·split
    ·cases hx:l[k+1]? with
     |none=>simp only;omega
     |some y=>have:=(List.getElem?_eq_some_iff.1 hx).1;exact ZmC n _ _ (by omega)
    ·exact ZmC n _ _ (by omega)
theorem ZO{e:Int}{p:Nat}(h:s.at_≤l.length)(hp:p≤l.length):(failC s e p).at_≤l.length:=by unfold failC;split<;>assumption
theorem Za6{e:Int}{p:Nat}(h:s.at_≤l.length)(hp:p≤l.length):(ZV s p e).at_≤l.length:=by unfold ZV;split<;>assumption
theorem Zgn(must:Bool)(h:s.at_≤l.length):(labelC l must s).2.at_≤l.length:=by
 unfold labelC;split
 ·have:=Zec (l.drop s.at_) true;rw[List.length_drop]at this;exact Za6 h (by omega)
 ·exact Za6 h (ZkX _ h)
theorem Zix(h:s.at_≤l.length):(ZaR l s).2.at_≤l.length:=by
 unfold ZaR;split
 ·exact ZO h h
 ·exact Za6 h (ZkX _ h)
theorem ZkZ(b:Nat)(h:s.at_≤l.length):(Zah l b s).2.at_≤l.length:=by
 unfold Zah;simp only;have hb:=(bhd_in [32,9] h).2;have h1:(s.to (bhd l [32,9] s.at_)).at_≤l.length:=hb;split
 ·exact ZO h1 h1
 ·split
  ·exact ZO h1 h1
  ·split
   ·next hp=>
    have a:bhd l [32,9] s.at_+2≤l.length:=by
     have h2:=(List.isPrefixOf_iff_prefix.1 hp).length_le;simp only[List.length_drop,List.length_cons,List.length_nil]at h2;have h3:(s.to (bhd l [32,9] s.at_)).at_=bhd l [32,9] s.at_:=rfl;omega
    exact Za6 a (ZmC _ _ _ a)
   ·exact Za6 h1 (ZmC _ _ _ h1)
theorem Za7(h:s.at_≤l.length):(Zv l s).2.at_≤l.length:=by
 unfold Zv;split
 ·exact ZO h (Nat.le_refl _)
 ·split
  ·exact ZO h h
  ·show s.at_+1≤_;omega
theorem ZaW(d:UInt8)(rx:Bool)(h:s.at_≤l.length):(Zr l d rx s).2.at_≤l.length:=by
 unfold Zr;split
 ·exact h
 ·exact Za6 h (ZkY _ _ _ _ _ h)
theorem Zeg(x:Bool)(d:UInt8)(h:s.at_≤l.length):(Zav x l d s).2.at_≤l.length:=by
 unfold Zav;simp only;have hb:=ZaW d true h;have h2:(if(Zr l d true s).2.e=0∧(Zr l d true s).1=[]then failC (Zr l d true s).2 2 s.at_ else(Zr l d true s).2).at_≤l.length:=by
  split
  ·exact ZO hb h
  ·exact hb
 generalize(if(Zr l d true s).2.e=0∧(Zr l d true s).1=[]then failC (Zr l d true s).2 2 s.at_ else(Zr l d true s).2)=s2 at h2⊢;split
 ·exact h2
 ·cases Zac prg x (Zr l d true s).1 with
  |inl z=>exact ZO h2 h
  |inr z=>exact h2
theorem Ziy(sub:SV)(h:s.at_≤l.length):(Zap l sub s).2.2.at_≤l.length:=by
 unfold Zap;split
 ·next hn=>have:=Zbh hn;simp only;split;exact ZO (show s.at_+1≤_ from this) h;exact this
 ·split
  ·next hn=>have:=Zbh hn;simp only;split;exact ZO (show s.at_+1≤_ from this) h;exact this
  ·split
   ·simp only;split
    ·exact ZO h h
    ·have hn:(nm s.at_ (l.drop s.at_) 0 0).2.1≤l.length:=by
      have:=ZkV s.at_ (l.drop s.at_) 0 0;rw[List.length_drop]at this;omega
     have hm:=Za6 (s:=s) (e:=(nm s.at_ (l.drop s.at_) 0 0).2.2) h hn;split
     ·exact ZO hm h
     ·exact hm
   ·split
    ·next hn=>have:=Zbh hn;exact Zix (show(s.to (s.at_+1)).at_≤_ from this)
    ·exact h
theorem Zgo:∀(n:Nat) (sub:SV) (s:AdS),s.at_≤l.length→(Zai l n sub s).2.at_≤l.length
 |0,_,_,h=>h
 |n+1,sub,s,h=>by
  rw[Zai];have hf:=Ziy sub h;cases hr:Zap l sub s with
  |mk a b=>
   rw[hr]at hf;obtain⟨b,c⟩:=b;cases a with
   |true=>exact Zgo n b c hf
   |false=>exact hf
theorem Zog(x:Bool)(h:s.at_≤l.length):(Zet x l s).2.at_≤l.length:=by
 unfold Zet;simp only;have h1:=Za7 h;split
 ·exact h1
 ·have h2:=Zeg x (Zv l s).1 h1;have h3:=ZaW (Zv l s).1 false h2;split
  ·exact h3
  ·split
   ·exact ZO h3 h2
   ·exact Zgo _ _ _ h3
theorem Zk0(h:s.at_≤l.length):(ZaP l s).2.at_≤l.length:=by
 unfold ZaP;simp only;have h1:=Za7 h;have h2:=ZaW (Zv l s).1 false h1;have h3:=ZaW (Zv l s).1 false h2;split
 ·exact h3
 ·split
  ·exact ZO h3 h2
  ·split
   ·exact h3
   ·exact ZO h3 h2
theorem ZdN(x:Bool)(c:CV)(h:s.at_≤l.length):(ZsD x l c s).2.2.at_≤l.length:=by
 unfold ZsD;split
 ·exact h
 split
 ·exact Zgn _ h
 split
 ·exact Zgn _ h
 split
 ·exact ZkZ _ h
 split
 ·exact Zix h
 split
 ·exact Zog x h
 split
 ·exact Zk0 h
 ·exact h
theorem Zdl{sub sub':SV}{s s':AdS}(h:Zap l sub s=(true,sub',s')):s.at_<s'.at_∧s'.at_≤l.length:=by
 have hf:∀(q:AdS) (e:Int) (p:Nat),e≠0→((failC q e p).e==0)=true→False:=by
  intro q e p he hq;unfold failC at hq;split at hq
  ·exact he (by simpa using hq)
  ·next h0=>exact h0 (by simpa using hq)
 unfold Zap at h;split at h
 ·next hn=>
  have:=Zbh hn;simp only[Prod.mk.injEq]at h;obtain⟨h1,_,h3⟩:=h;split at h3
  ·next ha=>rw[if_pos ha]at h1;exact(hf _ _ _ (by decide) h1).elim
  ·rw[←h3];exact⟨Nat.lt_succ_self _,this⟩
 split at h
 ·next hn=>
  have:=Zbh hn;simp only[Prod.mk.injEq]at h;obtain⟨h1,_,h3⟩:=h;split at h3
  ·next ha=>rw[if_pos ha]at h1;exact(hf _ _ _ (by decide) h1).elim
  ·rw[←h3];exact⟨Nat.lt_succ_self _,this⟩
 split at h
 ·next hn=>
  have d:=Zbh hn;simp only at h;split at h
  ·simp only[Prod.mk.injEq]at h;exact(hf _ _ _ (by decide) h.1).elim
  ·simp only[Prod.mk.injEq]at h;obtain⟨h1,_,h3⟩:=h;split at h3
   ·next ha=>rw[if_pos ha]at h1;exact(hf _ _ _ (by decide) h1).elim
   ·next ha=>
    rw[if_neg ha]at h1;have b:=ZkV s.at_ (l.drop s.at_) 0 0;rw[List.length_drop]at b;unfold ZV at h1 h3;split at h3
    ·next h0=>
     rw[if_pos h0]at h1;rw[←h3];simp only at h1⊢;have hz:(nm s.at_ (l.drop s.at_) 0 0).2.2=0:=by simpa using h1
     refine⟨?_,by omega⟩;have a:∀(r:List UInt8) (n c:Nat),(nm s.at_ r n c).2.2=0→s.at_+c≤(nm s.at_ r n c).2.1∧0<(nm s.at_ r n c).2.1-s.at_:=by
      intro r;induction r with
      |nil=>intro n c h;rw[nm]at h⊢;split at h;cases h;next hc=>rw[if_neg hc];simp only;omega
      |cons y r ih=>
       intro n c h;rw[nm]at h⊢;split at h
       ·next hd=>
        rw[if_pos hd];split at h
        ·cases h
        ·next hc=>rw[if_neg hc];have:=ih _ _ h;omega
       ·next hd=>
        rw[if_neg hd];split at h
        ·cases h
        ·next hc=>rw[if_neg hc];simp only;omega
     have:=a _ _ _ hz;omega
    ·next h0=>
     rw[if_neg h0]at h1;exact(h0 (by simpa using h1)).elim
 split at h
 ·simp at h
 ·simp at h
end
theorem Zgr(w:World):Calls Tryz.prog 54 #[.int .u8 125] w fun r w'=>r=.returned (.int .i64 0)∧Fr nob w w':=by
 go_enter Tryz.func54,Tryz.ntmps54;go_wp2;go_ret;exact⟨rfl,Fr.refl _ _⟩
theorem ZhG(w:World):Calls Tryz.prog 54 #[.int .u8 58] w fun r w'=>r=.returned (.int .i64 0)∧Fr nob w w':=by
 go_enter Tryz.func54,Tryz.ntmps54;go_wp2;go_ret;exact⟨rfl,Fr.refl _ _⟩
theorem ZhH(w:World):Calls Tryz.prog 54 #[.int .u8 61] w fun r w'=>r=.returned (.int .i64 1)∧Fr nob w w':=by
 go_enter Tryz.func54,Tryz.ntmps54;go_wp2;go_ret;exact⟨rfl,Fr.refl _ _⟩
theorem Zgs(w:World):Calls Tryz.prog 54 #[.int .u8 113] w fun r w'=>r=.returned (.int .i64 1)∧Fr nob w w':=by
 go_enter Tryz.func54,Tryz.ntmps54;go_wp2;go_ret;exact⟨rfl,Fr.refl _ _⟩
theorem ZhI(w:World):Calls Tryz.prog 54 #[.int .u8 81] w fun r w'=>r=.returned (.int .i64 1)∧Fr nob w w':=by
 go_enter Tryz.func54,Tryz.ntmps54;go_wp2;go_ret;exact⟨rfl,Fr.refl _ _⟩
theorem ZhJ(w:World):Calls Tryz.prog 54 #[.int .u8 97] w fun r w'=>r=.returned (.int .i64 1)∧Fr nob w w':=by
 go_enter Tryz.func54,Tryz.ntmps54;go_wp2;go_ret;exact⟨rfl,Fr.refl _ _⟩
theorem Zgt(w:World):Calls Tryz.prog 54 #[.int .u8 105] w fun r w'=>r=.returned (.int .i64 1)∧Fr nob w w':=by
 go_enter Tryz.func54,Tryz.ntmps54;go_wp2;go_ret;exact⟨rfl,Fr.refl _ _⟩
theorem Zgu(w:World):Calls Tryz.prog 54 #[.int .u8 114] w fun r w'=>r=.returned (.int .i64 1)∧Fr nob w w':=by
 go_enter Tryz.func54,Tryz.ntmps54;go_wp2;go_ret;exact⟨rfl,Fr.refl _ _⟩
theorem Zgv(w:World):Calls Tryz.prog 54 #[.int .u8 123] w fun r w'=>r=.returned (.int .i64 2)∧Fr nob w w':=by
 go_enter Tryz.func54,Tryz.ntmps54;go_wp2;go_ret;exact⟨rfl,Fr.refl _ _⟩
theorem Zgw(w:World):Calls Tryz.prog 54 #[.int .u8 100] w fun r w'=>r=.returned (.int .i64 2)∧Fr nob w w':=by
 go_enter Tryz.func54,Tryz.ntmps54;go_wp2;go_ret;exact⟨rfl,Fr.refl _ _⟩
theorem ZhK(w:World):Calls Tryz.prog 54 #[.int .u8 68] w fun r w'=>r=.returned (.int .i64 2)∧Fr nob w w':=by
 go_enter Tryz.func54,Tryz.ntmps54;go_wp2;go_ret;exact⟨rfl,Fr.refl _ _⟩
theorem Zgx(w:World):Calls Tryz.prog 54 #[.int .u8 103] w fun r w'=>r=.returned (.int .i64 2)∧Fr nob w w':=by
 go_enter Tryz.func54,Tryz.ntmps54;go_wp2;go_ret;exact⟨rfl,Fr.refl _ _⟩
theorem ZhL(w:World):Calls Tryz.prog 54 #[.int .u8 71] w fun r w'=>r=.returned (.int .i64 2)∧Fr nob w w':=by
 go_enter Tryz.func54,Tryz.ntmps54;go_wp2;go_ret;exact⟨rfl,Fr.refl _ _⟩
theorem Zgy(w:World):Calls Tryz.prog 54 #[.int .u8 104] w fun r w'=>r=.returned (.int .i64 2)∧Fr nob w w':=by
 go_enter Tryz.func54,Tryz.ntmps54;go_wp2;go_ret;exact⟨rfl,Fr.refl _ _⟩
theorem ZhM(w:World):Calls Tryz.prog 54 #[.int .u8 72] w fun r w'=>r=.returned (.int .i64 2)∧Fr nob w w':=by
 go_enter Tryz.func54,Tryz.ntmps54;go_wp2;go_ret;exact⟨rfl,Fr.refl _ _⟩
theorem Zgz(w:World):Calls Tryz.prog 54 #[.int .u8 108] w fun r w'=>r=.returned (.int .i64 2)∧Fr nob w w':=by
 go_enter Tryz.func54,Tryz.ntmps54;go_wp2;go_ret;exact⟨rfl,Fr.refl _ _⟩
theorem ZgA(w:World):Calls Tryz.prog 54 #[.int .u8 110] w fun r w'=>r=.returned (.int .i64 2)∧Fr nob w w':=by
 go_enter Tryz.func54,Tryz.ntmps54;go_wp2;go_ret;exact⟨rfl,Fr.refl _ _⟩
theorem ZhN(w:World):Calls Tryz.prog 54 #[.int .u8 78] w fun r w'=>r=.returned (.int .i64 2)∧Fr nob w w':=by
 go_enter Tryz.func54,Tryz.ntmps54;go_wp2;go_ret;exact⟨rfl,Fr.refl _ _⟩
theorem ZgB(w:World):Calls Tryz.prog 54 #[.int .u8 112] w fun r w'=>r=.returned (.int .i64 2)∧Fr nob w w':=by
 go_enter Tryz.func54,Tryz.ntmps54;go_wp2;go_ret;exact⟨rfl,Fr.refl _ _⟩
theorem ZhO(w:World):Calls Tryz.prog 54 #[.int .u8 80] w fun r w'=>r=.returned (.int .i64 2)∧Fr nob w w':=by
 go_enter Tryz.func54,Tryz.ntmps54;go_wp2;go_ret;exact⟨rfl,Fr.refl _ _⟩
theorem ZgC(w:World):Calls Tryz.prog 54 #[.int .u8 120] w fun r w'=>r=.returned (.int .i64 2)∧Fr nob w w':=by
 go_enter Tryz.func54,Tryz.ntmps54;go_wp2;go_ret;exact⟨rfl,Fr.refl _ _⟩
theorem ZgD(w:World):Calls Tryz.prog 54 #[.int .u8 122] w fun r w'=>r=.returned (.int .i64 2)∧Fr nob w w':=by
 go_enter Tryz.func54,Tryz.ntmps54;go_wp2;go_ret;exact⟨rfl,Fr.refl _ _⟩
theorem ZhP(w:World):Calls Tryz.prog 54 #[.int .u8 98] w fun r w'=>r=.returned (.int .i64 2)∧Fr nob w w':=by
 go_enter Tryz.func54,Tryz.ntmps54;go_wp2;go_ret;exact⟨rfl,Fr.refl _ _⟩
theorem ZgE(w:World):Calls Tryz.prog 54 #[.int .u8 116] w fun r w'=>r=.returned (.int .i64 2)∧Fr nob w w':=by
 go_enter Tryz.func54,Tryz.ntmps54;go_wp2;go_ret;exact⟨rfl,Fr.refl _ _⟩
theorem ZhQ(w:World):Calls Tryz.prog 54 #[.int .u8 84] w fun r w'=>r=.returned (.int .i64 2)∧Fr nob w w':=by
 go_enter Tryz.func54,Tryz.ntmps54;go_wp2;go_ret;exact⟨rfl,Fr.refl _ _⟩
theorem ZhR(w:World):Calls Tryz.prog 54 #[.int .u8 99] w fun r w'=>r=.returned (.int .i64 2)∧Fr nob w w':=by
 go_enter Tryz.func54,Tryz.ntmps54;go_wp2;go_ret;exact⟨rfl,Fr.refl _ _⟩
theorem ZgF(w:World):Calls Tryz.prog 54 #[.int .u8 119] w fun r w'=>r=.returned (.int .i64 2)∧Fr nob w w':=by
 go_enter Tryz.func54,Tryz.ntmps54;go_wp2;go_ret;exact⟨rfl,Fr.refl _ _⟩
theorem ZgG(w:World):Calls Tryz.prog 54 #[.int .u8 115] w fun r w'=>r=.returned (.int .i64 2)∧Fr nob w w':=by
 go_enter Tryz.func54,Tryz.ntmps54;go_wp2;go_ret;exact⟨rfl,Fr.refl _ _⟩
theorem ZgH(w:World):Calls Tryz.prog 54 #[.int .u8 121] w fun r w'=>r=.returned (.int .i64 2)∧Fr nob w w':=by
 go_enter Tryz.func54,Tryz.ntmps54;go_wp2;go_ret;exact⟨rfl,Fr.refl _ _⟩
theorem ZdQ(n:UInt8)(w:World):Calls Tryz.prog 54 #[.int .u8 (n.toNat:Int)] w fun r w'=>r=.returned (.int .i64 (ZM n))∧Fr nob w w':=by
 by_cases l:n=125
 ·subst l;exact Zgr w
 by_cases G:n=58
 ·subst G;exact ZhG w
 by_cases x:n=61
 ·subst x;exact ZhH w
 by_cases p:n=113
 ·subst p;exact Zgs w
 by_cases H:n=81
 ·subst H;exact ZhI w
 by_cases B:n=97
 ·subst B;exact ZhJ w
 by_cases d:n=105
 ·subst d;exact Zgt w
 by_cases g:n=114
 ·subst g;exact Zgu w
 by_cases q:n=123
 ·subst q;exact Zgv w
 by_cases m:n=100
 ·subst m;exact Zgw w
 by_cases C:n=68
 ·subst C;exact ZhK w
 by_cases s:n=103
 ·subst s;exact Zgx w
 by_cases z:n=71
 ·subst z;exact ZhL w
 by_cases u:n=104
 ·subst u;exact Zgy w
 by_cases D:n=72
 ·subst D;exact ZhM w
 by_cases v:n=108
 ·subst v;exact Zgz w
 by_cases i:n=110
 ·subst i;exact ZgA w
 by_cases A:n=78
 ·subst A;exact ZhN w
 by_cases c:n=112
 ·subst c;exact ZgB w
 by_cases y:n=80
 ·subst y;exact ZhO w
 by_cases j:n=120
 ·subst j;exact ZgC w
 by_cases a:n=122
 ·subst a;exact ZgD w
 by_cases F:n=98
 ·subst F;exact ZhP w
 by_cases t:n=116
 ·subst t;exact ZgE w
 by_cases E:n=84
 ·subst E;exact ZhQ w
 by_cases I:n=99
 ·subst I;exact ZhR w
 by_cases o:n=119
 ·subst o;exact ZgF w
 by_cases f:n=115
 ·subst f;exact ZgG w
 by_cases k:n=121
 ·subst k;exact ZgH w
 have O:((n.toNat:Int)==125)=false:=Zn (b:=125) l;have a5:((n.toNat:Int)==58)=false:=Zn (b:=58) G;have a1:((n.toNat:Int)==61)=false:=Zn (b:=61) x;have a0:((n.toNat:Int)==113)=false:=Zn (b:=113) p;have a2:((n.toNat:Int)==81)=false:=Zn (b:=81) H;have a9:((n.toNat:Int)==97)=false:=Zn (b:=97) B;have W:((n.toNat:Int)==105)=false:=Zn (b:=105) d;have P:((n.toNat:Int)==114)=false:=Zn (b:=114) g;have J:((n.toNat:Int)==123)=false:=Zn (b:=123) q;have X:((n.toNat:Int)==100)=false:=Zn (b:=100) m;have a8:((n.toNat:Int)==68)=false:=Zn (b:=68) C;have M:((n.toNat:Int)==103)=false:=Zn (b:=103) s;have b1:((n.toNat:Int)==71)=false:=Zn (b:=71) z;have Z:((n.toNat:Int)==104)=false:=Zn (b:=104) u;have a6:((n.toNat:Int)==72)=false:=Zn (b:=72) D;have N:((n.toNat:Int)==108)=false:=Zn (b:=108) v
 have L:((n.toNat:Int)==110)=false:=Zn (b:=110) i;have b0:((n.toNat:Int)==78)=false:=Zn (b:=78) A;have R:((n.toNat:Int)==112)=false:=Zn (b:=112) c;have a4:((n.toNat:Int)==80)=false:=Zn (b:=80) y;have S:((n.toNat:Int)==120)=false:=Zn (b:=120) j;have U:((n.toNat:Int)==122)=false:=Zn (b:=122) a;have a3:((n.toNat:Int)==98)=false:=Zn (b:=98) F;have K:((n.toNat:Int)==116)=false:=Zn (b:=116) t;have a7:((n.toNat:Int)==84)=false:=Zn (b:=84) E;have b2:((n.toNat:Int)==99)=false:=Zn (b:=99) I;have Y:((n.toNat:Int)==119)=false:=Zn (b:=119) o;have V:((n.toNat:Int)==115)=false:=Zn (b:=115) f;have Q:((n.toNat:Int)==121)=false:=Zn (b:=121) k;have e:ZM n= -1:=by unfold ZM;rw[if_neg (by rintro(h|h);exact l h;exact G h),if_neg (by rintro(h|h|h|h|h|h);exact x h;exact p h;exact H h;exact B h;exact d h;exact g h),if_neg (by rintro(h|h|h|h|h|h|h|h|h|h|h|h|h|h|h|h|h|h|h|h|h);exact q h;exact m h;exact C h;exact s h;exact z h;exact u h;exact D h;exact v h;exact i h;exact A h;exact c h;exact y h;exact j h;exact a h;exact F h;exact t h;exact E h;exact I h;exact o h;exact f h;exact k h)]
 rw[e];clear e l G x p H B d g q m C s z u D v i A c y j a F t E I o f k;go_enter Tryz.func54,Tryz.ntmps54;go_wp2;go_ret;exact⟨rfl,Fr.refl _ _⟩
theorem ZhS(g:GV)(v:Value)(w:World)(h:Zni nob w g v):Calls Tryz.prog 55 #[v] w fun r w'=>r=.returned (.int .i64 (ZcD g))∧Fr nob w w':=by
 obtain⟨⟨k1,n1,t1,d1⟩,⟨k2,n2,t2,d2⟩,no⟩:=g;obtain⟨u1,u2,rfl,r1,r2⟩:=h;have o1:=r1.shape;have o2:=r2.shape;clear r1 r2;unfold ZcD;simp only;rcases o1 with rfl|⟨i1,y1,rfl⟩<;>rcases o2 with rfl|⟨i2,y2,rfl⟩
 all_goals
  by_cases h2:k2=0
  ·subst h2;rw[if_neg (by simp)];by_cases h1:k1=0
   ·subst h1;rw[if_neg (by simp)];go_enter Tryz.func55,Tryz.ntmps55;go_wp2;go_ret;exact⟨rfl,(Fr.refl _ _).alloc _⟩
   ·have e1:(k1 !=0)=true:=by simpa using h1
    rw[if_pos h1];go_enter Tryz.func55,Tryz.ntmps55;go_wp2;go_ret;exact⟨rfl,(Fr.refl _ _).alloc _⟩
  ·have e2:(k2 !=0)=true:=by simpa using h2
   rw[if_pos h2];go_enter Tryz.func55,Tryz.ntmps55;go_wp2;go_ret;exact⟨rfl,(Fr.refl _ _).alloc _⟩
theorem Zjs(D:List UInt8)(w:World)(h:D.length≤1000000):Calls Tryz.prog 115 #[.string ⟨D.toArray⟩,.string ⟨#[10,59]⟩] w fun e w'=>e=.returned (.int .i64 (if(Zcv D true).length<D.length then((Zcv D true).length:Int)else -1))∧Fr nob w w':=by
 have:=ZcX D true w h;rw[ZbT]at this;exact this
theorem ZdR(b:Nat)(l:List UInt8)(x must:Bool)(s:AdS)(S:Nat→Prop)(w:World)(hl:l.length≤99000)(ha:s.at_≤l.length)(h:CRd b l x s S w):
 Calls Tryz.prog 89 #[.pointer (some ⟨b,0,none⟩),.bool must] w fun r w'=>r=.returned (.string ⟨(labelC l must s).1.toArray⟩)∧CRd b l x (labelC l must s).2 S w'∧Stp S w S w':=by
 have HN:=hid (fun w'=>Ziq l s.at_ true w' (by omega) ha);have HI:=hid (fun w'=>Zjs (l.drop s.at_) w' (by rw[List.length_drop];omega));have c:=Zec (l.drop s.at_) true;have k:=Zgi (l.drop s.at_) true;have HM:=hid (fun(p:Nat) (e:Int) w' (f:Fr nob w w')=>cm_moved b l x s S e p w' (h.on f));have HF:=hid (fun(p:Nat) (e:Int)=>show(if(ZcI l s.at_ true).2.2=14∧must=false then p=s.at_+(Zcv (l.drop s.at_) true).length∧e=0 else p=(ZcI l s.at_ true).2.1∧e=(ZcI l s.at_ true).2.2)→labelC l must s=((ZcI l s.at_ true).1,ZV s p e)from by
  intro h;unfold labelC;split at h
  ·next hc=>rw[if_pos hc,h.1,h.2]
  ·next hc=>rw[if_neg hc,h.1,h.2])
 obtain⟨mv,h⟩:=h;have rr:=Zd h.blk;obtain⟨p0,ms,e0⟩:=s;simp only at HN HI HF c k ha rr;have j:(Zcv (l.drop p0) true).length≤l.length-p0:=by rw[List.length_drop]at c;exact c
 have d:(Zcv (l.drop p0) true).length<(l.drop p0).length→(l.drop p0).take (Zcv (l.drop p0) true).length=Zcv (l.drop p0) true:=fun _=>k;have a:¬(Zcv (l.drop p0) true).length<(l.drop p0).length→Zcv (l.drop p0) true=l.drop p0:=fun hn=>by rw[←k];exact List.take_of_length_le (by omega)
 obtain⟨U,hU⟩:∃U,Zcv (l.drop p0) true=U:=⟨_,rfl⟩;rw[hU]at HI HF c j d a;obtain⟨D,hD⟩:∃D,l.drop p0=D:=⟨_,rfl⟩;have HD:=hid hD;rw[hD]at HI c d a;obtain⟨NL,v⟩:∃NL,ZcI l p0 true=NL:=⟨_,rfl⟩;obtain⟨nt,nq,nz⟩:=NL;rw[v]at HN HF;simp only at HN HF;have E:=hid c;have y:=hid d;have C:=hid a;have m:=hid j;clear h k hU v c d a j hD;by_cases hc:nz=14∧must=false
 ·obtain⟨rfl,rfl⟩:=hc;have hE:=HF.out (p0+U.length) 0 (by simp);rw[hE];clear hE HF;have F:(p0:Int)≤l.length:=by omega
  go_enter Tryz.func89,Tryz.ntmps89;go_wp2_with fail;refine region_fr 15 (by kernel_rfl) (by kernel_rfl) ?_;simp only[List.take_succ_cons,List.take_zero,List.drop_succ_cons,List.drop_zero]
  repeat(quiet_step (with_reducible exact calls_fr (HN.out _)))
  refine wpQuiet_nil ?_;intro wC fC;go_wp2_with fail;refine region_fr 8 (by kernel_rfl) (by kernel_rfl) ?_;simp only[List.take_succ_cons,List.take_zero,List.drop_succ_cons,List.drop_zero]
  repeat(quiet_step (fail))
  refine wpQuiet_nil ?_;intro wD u;have fD:=fC.trans' u;clear fC u;by_cases g:U.length<D.length
  ·have hI:=HI.out;simp only[if_pos g]at hI;have q:=hid hI;have hq:=y.out g;have h0:(0:Int)≤U.length:=by omega
   have h1:(U.length:Int)≤D.length:=by omega
   clear hI HI g;go_wp2_with fail;rw[HD.out];refine(q.out _).mono ?_;rintro z w1 ⟨rfl,f1⟩;have f2:=fD.trans' f1;clear fD f1;have B:(ByteArray.mk D.toArray).extract 0 U.length=⟨U.toArray⟩:=by rw[Zm8];simp[hq]
   have hb:(U.length:Int)≤100000:=by have:=m.out;omega
   have hM:=HM.out (p0+U.length) 0 w1 f2;rw[show((p0+U.length:Nat):Int)=(p0:Int)+(U.length:Int) by omega]at hM;have n:=hid hM;clear hM hq;go_wp2_with fail;refine n.out.mono ?_;rintro z w2 ⟨rfl,h2,i⟩;clear rr B;go_wp2;go_ret;exact⟨rfl,h2,(Stp.of f2).trans i⟩
  ·have hI:=HI.out;simp only[if_neg g]at hI;have q:=hid hI;have o:=C.out g;have hb:(D.length:Int)≤100000:=by rw[←o];have:=m.out;omega
   clear hI HI g;go_wp2_with fail;rw[HD.out];refine(q.out _).mono ?_;rintro z w1 ⟨rfl,f1⟩;have f2:=fD.trans' f1;clear fD f1;have hM:=HM.out (p0+U.length) 0 w1 f2;rw[show((p0+U.length:Nat):Int)=(p0:Int)+(D.length:Int) by rw[o];omega]at hM;have n:=hid hM;clear hM o;go_wp2_with fail;refine n.out.mono ?_;rintro z w2 ⟨rfl,h2,i⟩;clear rr;go_wp2;go_ret;exact⟨rfl,h2,(Stp.of f2).trans i⟩
 ·have hE:=HF.out nq nz (by rw[if_neg hc];exact⟨rfl,rfl⟩);rw[hE];clear hE HF;have A:(nz==14)=false∨((nz==14)=true∧must=true):=by
   by_cases t:nz=14
   ·exact .inr ⟨by simpa using t,by cases must with|true=>rfl|false=>exact absurd ⟨t,rfl⟩ hc⟩
   ·exact .inl (by simpa using t)
  clear hc;rcases A with h1|⟨h1,rfl⟩
  all_goals
   go_enter Tryz.func89,Tryz.ntmps89;go_wp2_with fail;refine region_fr 15 (by kernel_rfl) (by kernel_rfl) ?_;simp only[List.take_succ_cons,List.take_zero,List.drop_succ_cons,List.drop_zero]
   repeat(quiet_step (with_reducible exact calls_fr (HN.out _)))
   refine wpQuiet_nil ?_;intro wC fC;go_wp2_with fail;refine(HM.out _ _ _ fC).mono ?_;rintro z w2 ⟨rfl,h2,i⟩;clear rr;go_wp2;go_ret;exact⟨rfl,h2,(Stp.of fC).trans i⟩
theorem ZhT(b:Nat)(l:List UInt8)(x:Bool)(s:AdS)(S:Nat→Prop)(w:World)(hl:l.length≤99000)(ha:s.at_≤l.length)(h:CRd b l x s S w):
 Calls Tryz.prog 91 #[.pointer (some ⟨b,0,none⟩)] w fun r w'=>r=.returned (.string ⟨(ZaR l s).1.toArray⟩)∧CRd b l x (ZaR l s).2 S w'∧Stp S w S w':=by
 have HN:=hid (fun w'=>Ziq l s.at_ false w' (by omega) ha);have HX:=hid (ZaI b l x s S [32,9] w (by omega) h);have HM:=hid (fun(p:Nat) (e:Int) w' (f:Fr nob w w')=>cm_moved b l x s S e p w' (h.on f));have d:=hid (fun w' (f:Fr nob w w')=>cm_fail b l x s S 2 s.at_ w' (h.on f));unfold ZaR;obtain⟨q,hq⟩:∃q,ZI l s [32,9]=q:=⟨_,rfl⟩;rw[hq]at HX⊢;obtain⟨mv,h⟩:=h;have rr:=Zd h.blk;obtain⟨p0,ms,e0⟩:=s;simp only at HN d rr⊢;obtain⟨NL,c⟩:∃NL,ZcI l p0 false=NL:=⟨_,rfl⟩;obtain⟨nt,nq,nz⟩:=NL;rw[c]at HN⊢;simp only at HN⊢;clear h c hq;cases q with
 |false=>
  rw[if_pos rfl];go_enter Tryz.func91,Tryz.ntmps91;go_wp2_with fail;refine HX.out.mono ?_;rintro z w1 ⟨rfl,f1⟩;go_wp2_with fail;refine(d.out _ f1).mono ?_;rintro z w2 ⟨rfl,h2,a⟩;clear rr;go_wp2;go_ret;exact⟨rfl,h2,(Stp.of f1).trans a⟩
 |true=>
  rw[if_neg (by simp)];go_enter Tryz.func91,Tryz.ntmps91;go_wp2_with fail;refine HX.out.mono ?_;rintro z w1 ⟨rfl,f1⟩;go_wp2_with fail;refine region_fr 15 (by kernel_rfl) (by kernel_rfl) ?_;simp only[List.take_succ_cons,List.take_zero,List.drop_succ_cons,List.drop_zero]
  repeat(quiet_step (with_reducible exact calls_fr (HN.out _)))
  refine wpQuiet_nil ?_;intro wC g;have fC:=f1.trans' g;clear f1 g;go_wp2_with fail;refine(HM.out _ _ _ fC).mono ?_;rintro z w2 ⟨rfl,h2,a⟩;clear rr;go_wp2;go_ret;exact⟨rfl,h2,(Stp.of fC).trans a⟩
theorem Zck(b:Nat)(l:List UInt8)(d:UInt8)(x rx:Bool)(s:AdS)(S:Nat→Prop)(w:World)(hl:l.length≤99000)(ha:s.at_≤l.length)(h:CRd b l x s S w):
 Calls Tryz.prog 120 #[.pointer (some ⟨b,0,none⟩),.int .u8 (d.toNat:Int),.bool rx] w fun r w'=>r=.returned (.string ⟨(Zr l d rx s).1.toArray⟩)∧CRd b l x (Zr l d rx s).2 S w'∧Stp S w S w':=by
 have HN:=hid (fun w'=>Zg0 l s.at_ d rx w' (by omega) ha);have HX:=hid (cm_ok b l x s S w h);have HM:=hid (fun(p:Nat) (e:Int) w' (f:Fr nob w w')=>cm_moved b l x s S e p w' (h.on f));unfold Zr;have H:=hid h;obtain⟨mv,h⟩:=h;have rr:=Zd h.blk;obtain⟨p0,ms,e0⟩:=s;simp only at HN HX rr⊢;obtain⟨NL,a⟩:∃NL,bt l d rx (l.length+1) p0 []=NL:=⟨_,rfl⟩;obtain⟨nt,nq,nz⟩:=NL;rw[a]at HN⊢;simp only at HN⊢;clear h a;by_cases h0:e0=0
 ·subst h0;rw[if_neg (by simp)];go_enter Tryz.func120,Tryz.ntmps120;go_wp2_with fail;refine HX.out.mono ?_;rintro z w1 ⟨rfl,f1⟩;go_wp2_with fail;refine region_fr 17 (by kernel_rfl) (by kernel_rfl) ?_;simp only[List.take_succ_cons,List.take_zero,List.drop_succ_cons,List.drop_zero]
  repeat(quiet_step (with_reducible exact calls_fr (HN.out _)))
  refine wpQuiet_nil ?_;intro wC c;have fC:=f1.trans' c;clear f1 c;go_wp2_with fail;refine(HM.out _ _ _ fC).mono ?_;rintro z w2 ⟨rfl,h2,g⟩;clear rr;go_wp2;go_ret;exact⟨rfl,h2,(Stp.of fC).trans g⟩
 ·rw[if_pos h0];have e1:(e0==0)=false:=by simpa using h0
  rw[e1]at HX;go_enter Tryz.func120,Tryz.ntmps120;go_wp2_with fail;refine HX.out.mono ?_;rintro z w1 ⟨rfl,f1⟩;clear rr;go_wp2;go_ret;exact⟨rfl,H.out.on f1,Stp.of f1⟩
theorem ZiF(b:Nat)(l:List UInt8)(x:Bool)(s:AdS)(S:Nat→Prop)(w:World)(hl:l.length≤99000)(ha:s.at_≤l.length)(h:CRd b l x s S w):
 Calls Tryz.prog 118 #[.pointer (some ⟨b,0,none⟩)] w fun r w'=>r=.returned (.int .u8 ((Zv l s).1.toNat:Int))∧CRd b l x (Zv l s).2 S w'∧Stp S w S w':=by
 have HO:=hid (Zbn b l x s S w (by omega) h);have HX:=hid (fun w' (f:Fr nob w w')=>ZaI b l x s S [92,10] w' (by omega) (h.on f));have i:=hid (fun(e:Int) (p:Nat) w' (f:Fr nob w w')=>cm_fail b l x s S e p w' (h.on f));unfold Zv;obtain⟨q,hq⟩:∃q,ZI l s [92,10]=q:=⟨_,rfl⟩;rw[hq]at HX⊢;obtain⟨mv,h⟩:=h;have rr:=Zd h.blk;obtain⟨p0,ms,e0⟩:=s;have H:=hid h;simp only at HO HX i ha rr⊢;clear h hq;by_cases a:l.length≤p0
 ·rw[if_pos a];have hd:decide (l.length≤p0)=true:=by simpa using a
  rw[hd]at HO;go_enter Tryz.func118,Tryz.ntmps118;go_wp2_with fail;refine HO.out.mono ?_;rintro z w1 ⟨rfl,f1⟩;go_wp2_with fail;refine(i.out 5 l.length _ f1).mono ?_;rintro z w2 ⟨rfl,h2,d⟩;clear rr;go_wp2;go_ret;exact⟨rfl,h2,(Stp.of f1).trans d⟩
 ·rw[if_neg a];have hd:decide (l.length≤p0)=false:=by simpa using a
  rw[hd]at HO;have k:p0<l.length:=by omega
  clear a hd;cases q with
  |true=>
   rw[if_pos rfl];go_enter Tryz.func118,Tryz.ntmps118;go_wp2_with fail;refine HO.out.mono ?_;rintro z w1 ⟨rfl,f1⟩;go_wp2_with fail;refine(HX.out _ f1).mono ?_;rintro z w2 ⟨rfl,c⟩;have f2:=f1.trans' c;clear f1 c;go_wp2_with fail;refine(i.out 2 p0 _ f2).mono ?_;rintro z w3 ⟨rfl,h2,d⟩;clear rr;go_wp2;go_ret;exact⟨rfl,h2,(Stp.of f2).trans d⟩
  |false=>
   rw[if_neg (by simp),ZkQ k];go_enter Tryz.func118,Tryz.ntmps118;go_wp2_with fail;refine HO.out.mono ?_;rintro z w1 ⟨rfl,f1⟩;go_wp2_with fail;refine(HX.out _ f1).mono ?_;rintro z w2 ⟨rfl,c⟩;have f2:=f1.trans' c;clear f1 c rr;have h2:=H.out.on f2;have r2:=Zd h2.blk _ (Fr.refl _ _);have h3:=h2.turned 1 (.int .i64 ((p0:Int)+1)) ⟨p0+1,ms,e0⟩ (by simp) rfl;have j:=(Stp.of f2).trans (h2.stp 1 (.int .i64 ((p0:Int)+1)));obtain⟨w3,g⟩:∃w3,w3=w2.setCell ⟨b,1,none⟩ (.int .i64 ((p0:Int)+1)):=⟨_,rfl⟩;rw[←g]at h3 j;have rr:=Zd h3.blk;simp only at rr;rw[show((p0+1:Nat):Int)=(p0:Int)+1 by omega]at rr;have H3:=hid h3;have n:=hid j;have m:=hid g;clear h2 h3 j g f2;go_wp2_with(rw[←m.out]);clear r2;refine region_fr 9 (by kernel_rfl) (by kernel_rfl) ?_;simp only[List.take_succ_cons,List.take_zero,List.drop_succ_cons,List.drop_zero]
   repeat(quiet_step (fail))
   refine wpQuiet_nil ?_;intro wC fC;go_wp2;go_ret;exact⟨rfl,⟨mv,H3.out.on fC⟩,n.out.trans (Stp.of fC)⟩
theorem ZgI{l:List UInt8}{p:Nat}(hl:l.length≤99000)(ha:p≤l.length)(w:World):Calls Tryz.prog 94 #[.string ⟨l.toArray⟩,.int .i64 (p:Nat)] w fun e w'=>e=.returned (.int .i64 (bhd l [32,9] p:Nat))∧Fr nob w w':=by
 have:=ZeK l (p:Int) w (by omega);rw[if_neg (by omega),Int.toNat_natCast]at this;exact this
theorem Zop{l:List UInt8}{s:AdS}{q:Nat}(hq:bhd l [32,9] s.at_=q):Zjq l s=if decide (l.length≤q)=true then s.to q else if ZI l (s.to q) [59,10,35]=true then s.to q else if ZI l (s.to q) [125]=true then Zan (s.to q) q [125]else failC (s.to q) 17 q:=by
 subst hq;unfold Zjq;simp only;generalize hq:bhd l [32,9] s.at_=q;have e:(s.to q).at_=q:=rfl;rw[e];by_cases h1:l.length≤q
 ·rw[if_pos (.inl h1),if_pos (by simpa using h1)]
 ·rw[if_neg (c:=decide (l.length≤q)=true) (by simpa using h1)];by_cases h2:ZI l (s.to q) [59,10,35]=true
  ·rw[if_pos (.inr h2),if_pos h2]
  ·rw[if_neg (by rintro(h|h);exact h1 h;exact h2 h),if_neg h2]
theorem cm_end(b:Nat)(l:List UInt8)(x:Bool)(s:AdS)(S:Nat→Prop)(w:World)(hl:l.length≤99000)(ha:s.at_≤l.length)(hm:s.marks.length≤1000000)(h:CRd b l x s S w):
 Calls Tryz.prog 59 #[.pointer (some ⟨b,0,none⟩)] w fun r w'=>r=.returned (.tuple #[])∧ZqC b l x S w (Zjq l s) w':=by
 have HB:=hid (fun w'=>ZgI (l:=l) (p:=s.at_) hl ha w');obtain⟨q,hq⟩:∃q,bhd l [32,9] s.at_=q:=⟨_,rfl⟩;rw[Zop hq];rw[hq]at HB;obtain⟨p0,ms,e0⟩:=s;obtain⟨mv,h⟩:=h;have rr:=Zd h.blk;simp only[AdS.to]at HB ha rr hm⊢;have H:=hid h;clear h hq;obtain⟨c1,f⟩:∃c1,decide (l.length≤q)=c1:=⟨_,rfl⟩;obtain⟨c2,i⟩:∃c2,ZI l ⟨q,ms,e0⟩ [59,10,35]=c2:=⟨_,rfl⟩;obtain⟨c3,e⟩:∃c3,ZI l ⟨q,ms,e0⟩ [125]=c3:=⟨_,rfl⟩;have HO:=hid (fun w' h=>by have:=Zbn b l x ⟨q,ms,e0⟩ S w' (by omega) h;simp only at this;rw[f]at this;exact this);have HX:=hid (fun w' h=>by have:=ZaI b l x ⟨q,ms,e0⟩ S [59,10,35] w' (by omega) h;rw[i]at this;exact this);have HY:=hid (fun w' h=>by have:=ZaI b l x ⟨q,ms,e0⟩ S [125] w' (by omega) h;rw[e]at this;exact this);simp only[f,i,e];clear f i e;go_enter Tryz.func59,Tryz.ntmps59;go_wp2_with fail;refine region_fr 10 (by kernel_rfl) (by kernel_rfl) ?_
 simp only[List.take_succ_cons,List.take_zero,List.drop_succ_cons,List.drop_zero]
 repeat(quiet_step (with_reducible exact calls_fr (HB.out _)))
 refine wpQuiet_nil ?_;intro wC fC;clear rr;have h2:=H.out.on fC;have r2:=Zd h2.blk _ (Fr.refl _ _);have h3:=h2.turned 1 (.int .i64 (q:Nat)) ⟨q,ms,e0⟩ (by simp) rfl;have g:=(Stp.of fC).trans (h2.stp 1 (.int .i64 (q:Nat)));obtain⟨w3,c⟩:∃w3,w3=wC.setCell ⟨b,1,none⟩ (.int .i64 (q:Nat)):=⟨_,rfl⟩;rw[←c]at h3 g;have rr:=Zd h3.blk;have H3:=hid (show CRd b l x ⟨q,ms,e0⟩ S w3 from⟨mv,h3⟩);have a:=hid g;have m:=hid c;clear h2 h3 g c fC;go_wp2_with(rw[←m.out]);clear r2;refine(HO.out _ H3.out).mono ?_;rintro z w4 ⟨rfl,f4⟩;cases c1 with
 |true=>
  clear rr;go_wp2
  go_end0
  exact⟨rfl,S,H3.out.on f4,a.out.trans (Stp.of f4)⟩
 |false=>
  go_wp2_with fail;refine(HX.out _ (H3.out.on f4)).mono ?_;rintro z w5 ⟨rfl,j⟩;have f5:=f4.trans' j;clear f4 j;cases c2 with
  |true=>
   clear rr;go_wp2
   go_end0
   exact⟨rfl,S,H3.out.on f5,a.out.trans (Stp.of f5)⟩
  |false=>
   go_wp2_with fail;refine(HY.out _ (H3.out.on f5)).mono ?_;rintro z w6 ⟨rfl,k⟩;have f6:=f5.trans' k;clear f5 k;cases c3 with
   |true=>
    go_wp2_with fail;refine(cm_mark b l x ⟨q,ms,e0⟩ S q [125] w6 hm (H3.out.on f6)).mono ?_;rintro z w7 ⟨rfl,S',h7,d⟩;clear rr;go_wp2
    go_end0
    exact⟨rfl,S',h7,a.out.trans ((Stp.of f6).trans d)⟩
   |false=>
    go_wp2_with fail;refine(cm_fail b l x ⟨q,ms,e0⟩ S 17 q w6 (H3.out.on f6)).mono ?_;rintro z w7 ⟨rfl,h7,d⟩;clear rr;go_wp2
    go_end0
    exact⟨rfl,S,h7,a.out.trans ((Stp.of f6).trans d)⟩
theorem Zfq(b:Nat)(l:List UInt8)(x:Bool)(g:Nat)(s:AdS)(S:Nat→Prop)(w:World)(hl:l.length≤99000)(ha:s.at_≤l.length)(hm:s.marks.length≤1000000)(h:CRd b l x s S w):
 Calls Tryz.prog 90 #[.pointer (some ⟨b,0,none⟩),.int .i64 (g:Nat)] w fun r w'=>r=.returned (.string ⟨(Zah l g s).1.toArray⟩)∧ZqC b l x S w (Zah l g s).2 w':=by
 have HB:=hid (fun w'=>ZgI (l:=l) (p:=s.at_) hl ha w');have F:=(bhd_in (l:=l) [32,9] ha).2;unfold Zah;simp only;obtain⟨p0,ms,e0⟩:=s;obtain⟨mv,h⟩:=h;have rr:=Zd h.blk;simp only[AdS.to]at HB ha rr hm F⊢;obtain⟨q,hq⟩:∃q,bhd l [32,9] p0=q:=⟨_,rfl⟩;rw[hq]at HB F⊢;have H:=hid h;clear h hq;have E:=hid (fun(e:Int) w' h=>cm_fail b l x ⟨q,ms,e0⟩ S e q w' h);have G:=hid (fun(k:Nat) w' hk=>ZjU l k w' (by omega) hk);obtain⟨c2,D⟩:∃c2,ZI l ⟨q,ms,e0⟩ [10]=c2:=⟨_,rfl⟩;obtain⟨c3,u⟩:∃c3,[92,10].isPrefixOf (l.drop q)=c3:=⟨_,rfl⟩;have HX:=hid (fun w' h=>by have:=ZaI b l x ⟨q,ms,e0⟩ S [10] w' (by omega) h;rw[D]at this;exact this);have HP:=hid (fun w'=>by have:=ZL (l.drop q) [92,10] w' (by rw[List.length_drop];omega) (by decide);rw[u]at this;exact this);have L:=hid (fun(e:c3=true)=>show q+2≤l.length from by
  rw[e]at u;have h2:=(List.isPrefixOf_iff_prefix.1 u).length_le;simp only[List.length_drop,List.length_cons,List.length_nil]at h2;omega)
 simp only[D,u];clear D u;by_cases v:l.length≤q
 ·rw[if_pos v];have HO:=hid (fun w' h=>by have:=Zbn b l x ⟨q,ms,e0⟩ S w' (by omega) h;simp only[show decide (l.length≤q)=true by simpa using v]at this;exact this);go_enter Tryz.func90,Tryz.ntmps90;go_wp2_with fail;refine region_fr 10 (by kernel_rfl) (by kernel_rfl) ?_;simp only[List.take_succ_cons,List.take_zero,List.drop_succ_cons,List.drop_zero]
  repeat(quiet_step (with_reducible exact calls_fr (HB.out _)))
  refine wpQuiet_nil ?_;intro wC fC;clear rr;have h2:=H.out.on fC;have r2:=Zd h2.blk _ (Fr.refl _ _);have h3:=h2.turned 1 (.int .i64 (q:Nat)) ⟨q,ms,e0⟩ (by simp) rfl;have c:=(Stp.of fC).trans (h2.stp 1 (.int .i64 (q:Nat)));obtain⟨w3,a⟩:∃w3,w3=wC.setCell ⟨b,1,none⟩ (.int .i64 (q:Nat)):=⟨_,rfl⟩;rw[←a]at h3 c;have rr:=Zd h3.blk;have H3:=hid (show CRd b l x ⟨q,ms,e0⟩ S w3 from⟨mv,h3⟩);have y:=hid h3;have j:=hid c;have i:=hid a;clear h2 h3 c a fC;go_wp2_with(rw[←i.out]);clear r2;refine(HO.out _ H3.out).mono ?_;rintro z w4 ⟨rfl,f4⟩;go_wp2_with fail;refine(E.out 11 _ (H3.out.on f4)).mono ?_;rintro z w5 ⟨rfl,h5,K⟩;clear rr;go_wp2;go_ret;exact⟨rfl,S,h5,j.out.trans ((Stp.of f4).trans K)⟩
 ·rw[if_neg v];have HO:=hid (fun w' h=>by have:=Zbn b l x ⟨q,ms,e0⟩ S w' (by omega) h;simp only[show decide (l.length≤q)=false by simpa using v]at this;exact this);cases c2 with
  |true=>
   rw[if_pos rfl];go_enter Tryz.func90,Tryz.ntmps90;go_wp2_with fail;refine region_fr 10 (by kernel_rfl) (by kernel_rfl) ?_;simp only[List.take_succ_cons,List.take_zero,List.drop_succ_cons,List.drop_zero]
   repeat(quiet_step (with_reducible exact calls_fr (HB.out _)))
   refine wpQuiet_nil ?_;intro wC fC;clear rr;have h2:=H.out.on fC;have r2:=Zd h2.blk _ (Fr.refl _ _);have h3:=h2.turned 1 (.int .i64 (q:Nat)) ⟨q,ms,e0⟩ (by simp) rfl;have c:=(Stp.of fC).trans (h2.stp 1 (.int .i64 (q:Nat)));obtain⟨w3,a⟩:∃w3,w3=wC.setCell ⟨b,1,none⟩ (.int .i64 (q:Nat)):=⟨_,rfl⟩;rw[←a]at h3 c;have rr:=Zd h3.blk;have H3:=hid (show CRd b l x ⟨q,ms,e0⟩ S w3 from⟨mv,h3⟩);have y:=hid h3;have j:=hid c;have i:=hid a;clear h2 h3 c a fC;go_wp2_with(rw[←i.out]);clear r2;refine(HO.out _ H3.out).mono ?_;rintro z w4 ⟨rfl,f4⟩;go_wp2_with fail;refine(HX.out _ (H3.out.on f4)).mono ?_;rintro z w5 ⟨rfl,d⟩;have f5:=f4.trans' d;clear f4 d;go_wp2_with fail;refine(E.out 5 _ (H3.out.on f5)).mono ?_;rintro z w6 ⟨rfl,h6,N⟩;clear rr;go_wp2;go_ret;exact⟨rfl,S,h6,j.out.trans ((Stp.of f5).trans N)⟩
  |false=>
   rw[if_neg (by simp)];have O:q<l.length:=by omega
   have P:(q:Int)≤l.length:=by omega
   cases c3 with
   |true=>
    have J:=L.out rfl;simp only[if_true];have n:=fun w'=>G.out (q+2) w' J;rw[show((q+2:Nat):Int)=(q:Int)+2 by omega]at n;have f:=hid n;obtain⟨NL,t⟩:∃NL,ln l (l.length+1) (q+2) []=NL:=⟨_,rfl⟩;obtain⟨nt,nq,nz⟩:=NL;rw[t]at f⊢;simp only at f⊢;clear n t;go_enter Tryz.func90,Tryz.ntmps90;go_wp2_with fail;refine region_fr 10 (by kernel_rfl) (by kernel_rfl) ?_;simp only[List.take_succ_cons,List.take_zero,List.drop_succ_cons,List.drop_zero]
    repeat(quiet_step (with_reducible exact calls_fr (HB.out _)))
    refine wpQuiet_nil ?_;intro wC fC;clear rr;have h2:=H.out.on fC;have r2:=Zd h2.blk _ (Fr.refl _ _);have h3:=h2.turned 1 (.int .i64 (q:Nat)) ⟨q,ms,e0⟩ (by simp) rfl;have c:=(Stp.of fC).trans (h2.stp 1 (.int .i64 (q:Nat)));obtain⟨w3,a⟩:∃w3,w3=wC.setCell ⟨b,1,none⟩ (.int .i64 (q:Nat)):=⟨_,rfl⟩;rw[←a]at h3 c;have rr:=Zd h3.blk;have H3:=hid (show CRd b l x ⟨q,ms,e0⟩ S w3 from⟨mv,h3⟩);have y:=hid h3;have j:=hid c;have i:=hid a;clear h2 h3 c a fC;go_wp2_with(rw[←i.out]);clear r2;refine(HO.out _ H3.out).mono ?_;rintro z w4 ⟨rfl,f4⟩;go_wp2_with fail;refine(HX.out _ (H3.out.on f4)).mono ?_;rintro z w5 ⟨rfl,d⟩;have f5:=f4.trans' d;clear f4 d;go_wp2_with fail;refine region_fr 8 (by kernel_rfl) (by kernel_rfl) ?_;simp only[List.take_succ_cons,List.take_zero,List.drop_succ_cons,List.drop_zero]
    repeat(quiet_step (fail))
    refine wpQuiet_nil ?_;intro wD o;have fD:=f5.trans' o;clear f5 o;go_wp2_with(refine(HP.out _).mono ?_;rintro z wE ⟨rfl,rfl⟩);have h6:=y.out.on fD;have r6:=Zd h6.blk _ (Fr.refl _ _);have h7:=h6.turned 1 (.int .i64 ((q:Int)+2)) ⟨q+2,ms,e0⟩ (by simp) rfl;have m:=j.out.trans ((Stp.of fD).trans (h6.stp 1 (.int .i64 ((q:Int)+2))));obtain⟨w7,C⟩:∃w7,w7=wD.setCell ⟨b,1,none⟩ (.int .i64 ((q:Int)+2)):=⟨_,rfl⟩;rw[←C]at h7 m;have r7:=Zd h7.blk;simp only at r7;rw[show((q+2:Nat):Int)=(q:Int)+2 by omega]at r7;have H7:=hid (show CRd b l x ⟨q+2,ms,e0⟩ S w7 from⟨mv,h7⟩);have A:=hid m;have I:=hid C;clear h6 h7 m C fD rr;go_wp2_with(rw[←I.out]);clear r6;refine region_fr 15 (by kernel_rfl) (by kernel_rfl) ?_;simp only[List.take_succ_cons,List.take_zero,List.drop_succ_cons,List.drop_zero]
    repeat(quiet_step (with_reducible exact calls_fr (f.out _)))
    refine wpQuiet_nil ?_;intro wC fC;go_wp2_with fail;refine(cm_moved b l x ⟨q+2,ms,e0⟩ S nz nq wC (H7.out.on fC)).mono ?_;rintro z w8 ⟨rfl,h8,B⟩;clear r7;go_wp2;go_ret;exact⟨rfl,S,h8,A.out.trans ((Stp.of fC).trans B)⟩
   |false=>
    simp only[Bool.false_eq_true,if_false,Zan];have f:=hid (fun w'=>G.out q w' (by omega));obtain⟨NL,t⟩:∃NL,ln l (l.length+1) q []=NL:=⟨_,rfl⟩;obtain⟨nt,nq,nz⟩:=NL;rw[t]at f⊢;simp only at f⊢;clear t;go_enter Tryz.func90,Tryz.ntmps90;go_wp2_with fail;refine region_fr 10 (by kernel_rfl) (by kernel_rfl) ?_;simp only[List.take_succ_cons,List.take_zero,List.drop_succ_cons,List.drop_zero]
    repeat(quiet_step (with_reducible exact calls_fr (HB.out _)))
    refine wpQuiet_nil ?_;intro wC fC;clear rr;have h2:=H.out.on fC;have r2:=Zd h2.blk _ (Fr.refl _ _);have h3:=h2.turned 1 (.int .i64 (q:Nat)) ⟨q,ms,e0⟩ (by simp) rfl;have c:=(Stp.of fC).trans (h2.stp 1 (.int .i64 (q:Nat)));obtain⟨w3,a⟩:∃w3,w3=wC.setCell ⟨b,1,none⟩ (.int .i64 (q:Nat)):=⟨_,rfl⟩;rw[←a]at h3 c;have rr:=Zd h3.blk;have H3:=hid (show CRd b l x ⟨q,ms,e0⟩ S w3 from⟨mv,h3⟩);have y:=hid h3;have j:=hid c;have i:=hid a;clear h2 h3 c a fC;go_wp2_with(rw[←i.out]);clear r2;refine(HO.out _ H3.out).mono ?_;rintro z w4 ⟨rfl,f4⟩;go_wp2_with fail;refine(HX.out _ (H3.out.on f4)).mono ?_;rintro z w5 ⟨rfl,d⟩;have f5:=f4.trans' d;clear f4 d;go_wp2_with fail;refine region_fr 8 (by kernel_rfl) (by kernel_rfl) ?_;simp only[List.take_succ_cons,List.take_zero,List.drop_succ_cons,List.drop_zero]
    repeat(quiet_step (fail))
    refine wpQuiet_nil ?_;intro wD o;have fD:=f5.trans' o;clear f5 o;go_wp2_with(refine(HP.out _).mono ?_;rintro z wE ⟨rfl,rfl⟩);go_wp2_with fail;refine(cm_mark b l x ⟨q,ms,e0⟩ S g [116,101,120,116] wD hm (H3.out.on fD)).mono ?_;rintro z w7 ⟨rfl,S',⟨M,h7⟩,m⟩;have r7:=Zd h7.blk;simp only[Zan]at r7;have H7:=hid (show CRd b l x ⟨q,ms++[(g,[116,101,120,116])],e0⟩ S' w7 from⟨M,h7⟩);have A:=hid (j.out.trans ((Stp.of fD).trans m));clear h7 m fD rr;go_wp2_with fail;refine region_fr 15 (by kernel_rfl) (by kernel_rfl) ?_;simp only[List.take_succ_cons,List.take_zero,List.drop_succ_cons,List.drop_zero]
    repeat(quiet_step (with_reducible exact calls_fr (f.out _)))
    refine wpQuiet_nil ?_;intro wC fC;go_wp2_with fail;refine(cm_moved b l x ⟨q,ms++[(g,[116,101,120,116])],e0⟩ S' nz nq wC (H7.out.on fC)).mono ?_;rintro z w8 ⟨rfl,h8,B⟩;clear r7;go_wp2;go_ret;exact⟨rfl,S',h8,A.out.trans ((Stp.of fC).trans B)⟩
def pC(l:List Prt):List Value:=l.flatMap fun m=>[.int .i64 m.1,.string ⟨m.2.toArray⟩]
theorem Zcd(l:List Prt):(pC l).length=2*l.length:=by
 induction l with
 |nil=>rfl
 |cons m r ih=>
  have e:pC (m::r)=.int .i64 m.1:: .string ⟨m.2.toArray⟩::pC r:=rfl;rw[e,List.length_cons,List.length_cons,ih,List.length_cons];omega
theorem ZcY(l:List Prt)(k:Int)(t:List UInt8):pC (l++[(k,t)])=pC l++[.int .i64 k,.string ⟨t.toArray⟩]:=by simp[pC]
theorem ZiG{k:Int}{t:List UInt8}:∀u∈([.int .i64 k,.string ⟨t.toArray⟩]:List Value),u.oneCell'=true:=by
 intro u hu;simp only[List.mem_cons,List.not_mem_nil,or_false]at hu;rcases hu with rfl|rfl<;>rfl
theorem pC_news{w:World}{g:Nat}{k:Int}{t:List UInt8}{T:TypeId}{fr:Nat×Nat}(h:w.heap[g]? =some (.cells #[.int .i64 k,.string ⟨t.toArray⟩] T fr)):
 ∀j u,([.int .i64 k,.string ⟨t.toArray⟩]:List Value)[j]? =some u→w.cell? ((⟨g,0,none⟩:Addr).add j)=some u:=by
 intro j u hj
 match j,hj with
 |0,hj=>simp at hj;subst hj;exact cell_at h rfl
 |1,hj=>simp at hj;subst hj;exact cell_at (j:=1) h rfl
theorem ZgJ:(Tryz.prog.info? 43).map (fun i=>(i.zero,i.size,i.bytes))=some (some (.agg #[.int .i64 0,.string ByteArray.empty]),2,24):=by kernel_rfl
def OwP(w:World)(l:List Prt)(v:Value):Prop:=w.ownsRow 0 43 2 v l.length (pC l)
def Bdr(B b:Nat)(l:List Prt)(w:World):Prop:=∃v,w.heap[b]? =some (.cells #[v] 238 (0,0))∧OwP w l v∧B≤b∧∀k,v.ownBlock=some k→k≠b∧B≤k
def Abv(B:Nat):Nat→Prop:=fun k=>B≤k
theorem ZhU{w:World}{base g cap n size j:Nat}{e:TypeId}{xs:List Value}(h:w.ownsRow base e size (.slice (some ⟨g,0,none⟩) n cap) n xs)(u:Value)(hj:j<xs.length):(w.setCell ⟨g,j,none⟩ u).ownsRow base e size (.slice (some ⟨g,0,none⟩) n cap) n (xs.set j u):=by
 refine⟨by rw[List.length_set];exact h.1,.inr ?_⟩;rcases h.2 with⟨e1,hn⟩|⟨g',i,f,e1,hb,hg,c,d,b,a⟩
 ·cases e1
 ·injection e1 with e1 e2 e3;injection e1 with e1;injection e1 with e1;subst e1;subst e3;refine⟨g,cap,f.setIfInBounds j u,rfl,hb,Za hg j u,c,d,by simpa using b,?_⟩;rw[Array.toList_setIfInBounds,List.take_set,a]
theorem Fr.weak{S T:Nat→Prop}{w w':World}(h:Fr S w w')(hs:∀k,S k→T k):Fr T w w':=h.mono fun k _ x=>hs k x
section
variable {B b:Nat} {l:List Prt} {w W0 w3:World} {v v':Value}
theorem Zfr(hb:w.heap[b]? =some (.cells #[v] 238 (0,0)))(hB:B≤b)(hBw:B≤w.heap.size)(hn:∀k,v.ownBlock=some k→k≠b∧B≤k)(f:Fr nob w W0)(hap:Appd 1 v v' W0 w3){k:Int}{t:List UInt8}
 (hown:w3.ownsRow 0 43 2 v' (l.length+1) (pC l++[.int .i64 k,.string ⟨t.toArray⟩])):
 (w3.cell? ⟨b,0,none⟩=some v∧w3.frozen? ⟨b,0,none⟩=false)∧Bdr B b (l++[(k,t)]) (w3.setCell ⟨b,0,none⟩ v')∧Fr (Abv B) w (w3.setCell ⟨b,0,none⟩ v'):=by
 have h0:=f.heap hb (fun x=>x);have a:=hap.fr.heap h0 (fun e=>(hn b e).1 rfl);have g:=lt_heap hb;have h:=f.size;have d:=(Fr.refl (fun k=>k=b) w3).setCell (p:=⟨b,0,none⟩) (fun _=>rfl) v';have c:∀k,v'.ownBlock=some k→k≠b∧B≤k:=fun k hk=>by
  rcases hap.old k hk with h1|h1
  ·exact hn k h1
  ·omega
 refine⟨⟨cell_at a rfl,unfrozen_at a 0⟩,⟨v',by have:=Za a 0 v';simpa using this,?_,hB,c⟩,?_⟩
 ·have:=ownsRow_fr hown d (fun k hk e=>(c k hk).1 e);unfold OwP;simp only[List.length_append,List.length_singleton,ZcY];exact this
 ·exact(f.any.trans (hap.fr.mono (T:=Abv B) fun k _ hk=>(hn k hk).2) (fun _ _ x=>x)).setCell (p:=⟨b,0,none⟩) (fun _=>hB) v'
end
theorem ZgK(t:List UInt8):pushT [] t=[(-1,t)]:=rfl
theorem ZeO(q:List Prt)(a t:List UInt8):pushT (q++[(-1,a)]) t=q++[(-1,a++t)]:=by
 unfold pushT;rw[List.getLast?_concat];simp only[if_true,List.dropLast_concat]
theorem Zej(q:List Prt)(k:Int)(a t:List UInt8)(hk:k≠ -1):pushT (q++[(k,a)]) t=q++[(k,a)]++[(-1,t)]:=by
 unfold pushT;rw[List.getLast?_concat];simp only[if_neg hk]
theorem Zoq(q:List Prt)(k:Int)(a:List UInt8):(pC (q++[(k,a)]))[q.length*2]? =some (.int .i64 k)∧(pC (q++[(k,a)]))[q.length*2+1]? =some (.string ⟨a.toArray⟩):=by
 rw[ZcY];have:=Zcd q;constructor
 ·rw[List.getElem?_append_right (by omega),show q.length*2-(pC q).length=0 by omega];rfl
 ·rw[List.getElem?_append_right (by omega),show q.length*2+1-(pC q).length=1 by omega];rfl
theorem ZeP{α:Type}(a:List α)(k j:Nat)(h:k=a.length+j)(b:List α)(x:α):(a++b).set k x=a++b.set j x:=by
 subst h;induction a with
 |nil=>simp
 |cons y a ih=>rw[List.cons_append,List.length_cons,show a.length+1+j=(a.length+j)+1 by omega,List.set_cons_succ,ih,List.cons_append]
theorem Zjt(q:List Prt)(k:Int)(a t:List UInt8):(pC (q++[(k,a)])).set (q.length*2+1) (.string ⟨t.toArray⟩)=pC (q++[(k,t)]):=by
 rw[ZcY,ZcY,ZeP (pC q) _ 1 (by rw[Zcd];omega)];rfl
theorem bd_text(B b:Nat)(l:List Prt)(t:List UInt8)(w:World)(hl:l.length≤100000)(ht:t.length≤100000)(hlt:∀p∈l,p.2.length≤100000)(hBw:B≤w.heap.size)(h:Bdr B b l w):
 Calls Tryz.prog 155 #[.pointer (some ⟨b,0,none⟩),.string ⟨t.toArray⟩] w fun r w'=>r=.returned (.tuple #[])∧Bdr B b (pushT l t) w'∧Fr (Abv B) w w':=by
 obtain⟨v,hb,ho,hB,hn⟩:=h;obtain⟨av,cv,rfl⟩:=Zb ho;obtain⟨i0,hi,z,A,y⟩:=info_parts ZgJ;have HB:=hid hb;have HO:=hid ho;have HN:=hid hn;have rb:=Zay (cell_at (j:=0) hb rfl);rcases(by rcases List.eq_nil_or_concat l with h|⟨q,p,h⟩;exact .inl h;exact .inr ⟨q,p.1,p.2,by rw[h,List.concat_eq_append]⟩:l=[]∨∃(q:List Prt) (k:Int) (a:List UInt8),l=q++[(k,a)])with rfl|⟨q,k,a,rfl⟩
 ·rw[ZgK];clear hb ho hn;go_enter Tryz.func155,Tryz.ntmps155;go_wp2_with(at_builtin;refine wpList_append_g rfl _ _ 238 rfl 43 i0 (.agg #[.int .i64 0,.string ByteArray.empty]) 2 24 Tryz.underlying238 hi z A y rfl (by decide) _ _ _ rfl (ownsRow_fr HO.out ((Fr.refl nob w).alloc _) (fun _ _ x=>x)) ⟨w.heap.size,0,none⟩ 1 1 [.int .i64 (-1),.string ⟨t.toArray⟩] rfl rfl ?c1 ?c2 ?c3 ?c4 ?_)
  case c1=>exact pC_news (newAt0 w _)
  case c2=>exact ZiG
  case c3=>unfold maxLen;show 0+1≤_;omega
  case c4=>show(0+1)*24≤_;omega
  intro v' w4 d i;obtain⟨G,D,rfl⟩:=Zb d;obtain⟨⟨pc,pf⟩,h5,f5⟩:=Zfr (l:=[]) HB.out hB hBw HN.out ((Fr.refl nob w).alloc _) i (k:= -1) (t:=t) d;have H5:=hid h5;have F5:=hid f5;clear d i h5 f5 rb;go_wp2
  go_end0
  exact⟨rfl,H5.out,F5.out⟩
 ·have c:(q++[(k,a)]).length=q.length+1:=by simp
  have M:q.length≤100000:=by rw[c]at hl;omega
  have N:a.length≤100000:=hlt (k,a) (by simp);obtain⟨g,m,hs,K,J,L⟩:∃g m,Value.slice av (q++[(k,a)]).length cv=.slice (some ⟨g,0,none⟩) (q.length+1) m∧g<w.heap.size∧w.cell? ⟨g,q.length*2,none⟩=some (.int .i64 k)∧w.cell? ⟨g,q.length*2+1,none⟩=some (.string ⟨a.toArray⟩):=by
   have hp:=Zoq q k a;have C:=Zcd (q++[(k,a)]);rcases ho.2 with⟨e,hn⟩|⟨r,m,E,e,_,hr,_⟩
   ·rw[c]at hn;omega
   ·have h2:=ho;injection e with e1 e2 e3;subst e1;subst e3;refine⟨r,cv,by rw[c],lt_heap hr,(World.ownsRow.cellAt ho (q.length*2) (by first|(rw[C,c];omega)|(rw[c];omega))).trans hp.1,(World.ownsRow.cellAt ho (q.length*2+1) (by first|(rw[C,c];omega)|(rw[c];omega))).trans hp.2⟩
  rw[c]at hs HB HN rb;injection hs with hs1 hs2 hs3;subst hs1;subst hs3;by_cases hk:k= -1
  ·subst hk;rw[ZeO];have f:=ZhU (j:=q.length*2+1) (by rw[c]at ho;unfold OwP at ho;rw[c]at ho;exact ho) (.string ⟨(a++t).toArray⟩) (by rw[Zcd,c];omega);rw[Zjt]at f;have u:=hid f;have H:w.frozen? ⟨g,q.length*2+1,none⟩=false:=by
    rcases ho.2 with⟨e,hn⟩|⟨r,m,E,e,_,hr,_⟩
    ·rw[c]at hn;omega
    ·injection e with e1 e2 e3;injection e1 with e1;injection e1 with e1;subst e1;exact unfrozen_at hr _
   clear hb ho hn f hlt;go_enter Tryz.func155,Tryz.ntmps155;have o:=HN.out g rfl;have n:Bdr B b (q++[(-1,a++t)]) (w.setCell ⟨g,q.length*2+1,none⟩ (.string ⟨(a++t).toArray⟩)):=by
    refine⟨_,Zc (p:=⟨g,q.length*2+1,none⟩) HB.out (fun e=>o.1 e.symm) _,?_,hB,HN.out⟩;have h:=u.out;unfold OwP;rw[show(q++[((-1:Int),a++t)]).length=q.length+1 by simp];exact h
   have s:Fr (Abv B) w (w.setCell ⟨g,q.length*2+1,none⟩ (.string ⟨(a++t).toArray⟩)):=(Fr.refl _ w).setCell (p:=⟨g,q.length*2+1,none⟩) (fun _=>o.2) _;have H5:=hid n;have F5:=hid s;clear o n s c;go_wp2;refine bodyPost_ret (v:=.tuple #[]) (by simp[results,Tryz.results155,go_sem]) rfl ?_;exact⟨rfl,H5.out,F5.out⟩
  ·have I:(k== -1)=false:=by simpa using hk
   rw[Zej q k a t hk];have F:=hid (show w.ownsRow 0 43 2 (.slice (some ⟨g,0,none⟩) (q.length+1) cv) (q.length+1) (pC (q++[(k,a)])) by unfold OwP at ho;rw[c]at ho;exact ho);clear hb ho hn;go_enter Tryz.func155,Tryz.ntmps155;go_wp2_with(at_builtin;refine wpList_append_g rfl _ _ 238 rfl 43 i0 (.agg #[.int .i64 0,.string ByteArray.empty]) 2 24 Tryz.underlying238 hi z A y rfl (by decide) _ _ _ rfl (ownsRow_fr (show w.ownsRow 0 43 2 _ (q.length+1) (pC (q++[(k,a)]))from F.out) ((Fr.refl nob w).alloc _) (fun _ _ x=>x)) ⟨w.heap.size,0,none⟩ 1 1 [.int .i64 (-1),.string ⟨t.toArray⟩] rfl rfl (pC_news (newAt0 w _)) (ZiG (k:= -1) (t:=t)) ?d3 ?d4 ?_)
   case d3=>unfold maxLen;omega
   case d4=>omega
   intro v' w4 d i;obtain⟨G,D,rfl⟩:=Zb d;obtain⟨⟨pc,pf⟩,h5,f5⟩:=Zfr (l:=q++[(k,a)]) HB.out hB hBw HN.out ((Fr.refl nob w).alloc _) i (k:= -1) (t:=t) (by rw[c];exact d);have H5:=hid h5;have F5:=hid f5;clear d i h5 f5 rb;go_wp2
   go_end0
   exact⟨rfl,H5.out,F5.out⟩
section
variable {A l:List UInt8} {M:List (Nat×List UInt8)} {s:AdS}
theorem addrD_le{x sec:Bool}{s':AdS}{a:AV}(h:s.at_≤l.length)(he:s.e=0)(hr:ZaC x l sec s=.inr (a,s')):s'.at_≤l.length∧s'.e=0:=⟨(Zam h he hr).le,(Zam h he hr).ok⟩
theorem ZiC{x:Bool}{s':AdS}{a:AV}(h:s.at_≤l.length)(hr:Zbc x l s=.inr (a,s')):s'.at_≤l.length∧s'.e=0:=by
 unfold Zbc at hr;split at hr
 ·next c=>
  have d:bhd l [32,9] s.at_<l.length:=ZaO (by rw[c];decide);have f:=(bhd_in [32,9] (show bhd l [32,9] s.at_+1≤l.length from d)).2;split at hr
  ·cases hr
  ·next b s1 hp=>
   split at hr
   ·cases hr
   ·injection hr with hr;injection hr with h1 h2;subst h2;exact addrD_le (s:=⟨_,_,0⟩) f rfl hp
 ·injection hr with hr;injection hr with h1 h2;subst h2;exact⟨(bhd_in [32,9] h).2,rfl⟩
theorem Zcb{e:Int}{p:Nat}(he:e≠0):(failC s e p).e≠0:=by unfold failC;split<;>assumption
theorem Zom(x:Bool)(g:GV)(h:s.at_≤l.length):(ZbY x l g s).2.at_≤l.length:=by
 unfold ZbY;split
 ·exact ZO h (Nat.le_refl _)
 ·next c1=>
  simp only;generalize hs1:(if ZM (byt l s.at_)<0 then failC s 13 s.at_ else if ZM (byt l s.at_)<ZcD g then failC s 19 s.at_ else if byt l s.at_=81∨byt l s.at_=84∨byt l s.at_=122 then Zan s s.at_ [byt l s.at_]else s)=s1;have h1:s1.at_≤l.length:=by
   rw[←hs1];split
   ·exact ZO h h
   ·split
    ·exact ZO h h
    ·split<;>exact h
  have h2:s1.e=0→s1.at_+1≤l.length:=by
   intro h0;rw[←hs1]at h0⊢;split
   ·next hc=>rw[if_pos hc]at h0;exact(Zcb (by decide) h0).elim
   ·next hc=>
    rw[if_neg hc]at h0;split
    ·next hd=>rw[if_pos hd]at h0;exact(Zcb (by decide) h0).elim
    ·split
     ·show s.at_+1≤_;omega
     ·show s.at_+1≤_;omega
  split
  ·exact h1
  ·next h0=>
   have a:=ZdN (l:=l) (s:=s1.to (s1.at_+1)) x {CV.zero with at_:=s.at_,guard:=g,name:=byt l s.at_} (h2 (Decidable.not_not.1 h0));split
   ·unfold Zjq;simp only;have hb:=(bhd_in [32,9] a).2;split
    ·exact hb
    ·split
     ·exact hb
     ·exact ZO (show(AdS.to _ _).at_≤_ from hb) hb
   ·exact a
theorem Zk3{a b:AV}{g:GV}{s':AdS}(h:s.at_≤l.length)(hr:ZgT l a b s=.inr (g,s')):s'.at_≤l.length:=by
 unfold ZgT at hr;have hb:=(bhd_in [32,9] h).2;split at hr
 ·next d=>
  have c:bhd l [32,9] s.at_<l.length:=ZaO (by rw[d];decide);have e:=(bhd_in [32,9] (show bhd l [32,9] s.at_+1≤l.length from c)).2;split at hr
  ·cases hr
  ·injection hr with hr;injection hr with h1 h2;subst h2;exact e
 ·injection hr with hr;injection hr with h1 h2;subst h2;exact hb
theorem guardD_le{x:Bool}{g:GV}{s':AdS}(h:s.at_≤l.length)(he:s.e=0)(hr:ZX x l s=.inr (g,s')):s'.at_≤l.length:=by
 unfold ZX at hr;cases ha:ZaC x l false s with
 |inl z=>rw[ha]at hr;cases hr
 |inr z=>
  obtain⟨a,s1⟩:=z;obtain⟨h1,e1⟩:=addrD_le h he ha;rw[ha]at hr;simp only at hr;by_cases h0:a.kind=0
  ·simp only[if_pos h0]at hr;exact Zk3 h1 hr
  ·simp only[if_neg h0]at hr;cases hp:Zbc x l s1 with
   |inl z=>rw[hp]at hr;cases hr
   |inr z=>
    obtain⟨b,s2⟩:=z;rw[hp]at hr;exact Zk3 (ZiC h1 hp).1 hr
end
theorem Zcj(x:Bool)(l:List UInt8)(c:CV)(s:AdS):(ZsD x l c s).2.1.at_=c.at_∧(ZsD x l c s).2.1.name=c.name∧(ZsD x l c s).2.1.guard=c.guard:=by
 unfold ZsD;split
 ·exact⟨rfl,rfl,rfl⟩
 split
 ·exact⟨rfl,rfl,rfl⟩
 split
 ·exact⟨rfl,rfl,rfl⟩
 split
 ·exact⟨rfl,rfl,rfl⟩
 split
 ·exact⟨rfl,rfl,rfl⟩
 split
 ·exact⟨rfl,rfl,rfl⟩
 split<;>exact⟨rfl,rfl,rfl⟩
theorem Zk4{x:Bool}{l:List UInt8}{g:GV}{s:AdS}(h:(ZbY x l g s).2.e=0):s.at_<l.length∧0≤ZM (byt l s.at_)∧¬ZM (byt l s.at_)<ZcD g∧(ZbY x l g s).1.at_=s.at_∧(ZbY x l g s).1.name=byt l s.at_∧(ZbY x l g s).1.guard=g:=by
 unfold ZbY at h⊢;split at h
 ·exact(Zcb (by decide) h).elim
 ·next c1=>
  rw[if_neg c1];simp only at h⊢;generalize hs1:(if ZM (byt l s.at_)<0 then failC s 13 s.at_ else if ZM (byt l s.at_)<ZcD g then failC s 19 s.at_ else if byt l s.at_=81∨byt l s.at_=84∨byt l s.at_=122 then Zan s s.at_ [byt l s.at_]else s)=s1 at h⊢;split at h
  ·next h0=>exact(h0 h).elim
  ·next h0=>
   rw[if_neg h0];have h0:s1.e=0:=Decidable.not_not.1 h0;have hc:¬ZM (byt l s.at_)<0:=fun hc=>by rw[←hs1,if_pos hc]at h0;exact Zcb (by decide) h0
   have hd:¬ZM (byt l s.at_)<ZcD g:=fun hd=>by rw[←hs1,if_neg hc,if_pos hd]at h0;exact Zcb (by decide) h0
   have hk:=Zcj x l {CV.zero with at_:=s.at_,guard:=g,name:=byt l s.at_} (s1.to (s1.at_+1));refine⟨by omega,by omega,hd,?_⟩;split<;>exact⟨hk.1,hk.2.1,hk.2.2⟩
section
variable {l:List UInt8}
end
theorem ZgL{w:World}{bs:List UInt8}{v:Value}(h:w.ownsRow 0 5 1 v bs.length (bcells bs)):(convert 22 9 v).run Tryz.prog w=.ok (.string ⟨bs.toArray⟩) w:=by
 have h0:=h;obtain⟨a,c,rfl⟩:=Zb h;rcases h.2 with⟨e,hn⟩|⟨g,b,d,e,_,hr,_⟩
 ·have hb:bs=[]:=List.length_eq_zero_iff.1 hn;subst hb;injection e with e1 e2 e3;subst e1;subst e3;rfl
 ·injection e with e1 e2 e3;subst e1;subst e3;refine run_conv_bytes Tryz.underlying22 Tryz.underlying5 Tryz.underlying9 ⟨g,0,none⟩ c bs w ?_;intro j v hj;exact h0.cells (g:=g) rfl j v hj
theorem ZmJ{l:List UInt8}{k:Nat}(hk:k<l.length)(e:Bool)(out:List UInt8):ZbC (l.drop k) e out=
 if e=false∧l[k]=92 then ZbC (l.drop (k+1)) true out else if e=true∧l[k]=110 then ZbC (l.drop (k+1)) false (out++[10])else if e=true∧l[k]≠92 then([],false)else ZbC (l.drop (k+1)) false (out++[l[k]]):=by
 rw[List.drop_eq_getElem_cons hk,ZbC]
theorem ZcE{w:World}{c:Int}{T:TypeId}:∀j u,([.int .u8 c]:List Value)[j]? =some u→(w.alloc (.cells #[.int .u8 c] T)).cell? ((⟨w.heap.size,0,none⟩:Addr).add j)=some u:=by
 intro j u hj
 match j,hj with
 |0,hj=>simp at hj;subst hj;simp[Addr.add]
theorem ZcF{c:Int}:∀u∈([.int .u8 c]:List Value),u.oneCell'=true:=by intro u hu;simp at hu;subst hu;rfl
theorem cm_list(l:List UInt8)(w:World)(hl:l.length≤99000):
 Calls Tryz.prog 124 #[.string ⟨l.toArray⟩] w fun r w'=>r=.returned (.tuple #[.string ⟨(ZbC l false []).1.toArray⟩,.bool (ZbC l false []).2])∧Fr nob w w':=by
 obtain⟨F,hF⟩:∃F,ZbC l false []=F:=⟨_,rfl⟩;rw[hF];obtain⟨Ft,Fb⟩:=F;obtain⟨i0,hi,y,z,v⟩:=info_parts ZeW;go_enter Tryz.func124,Tryz.ntmps124;go_wp2_with fail
 go_loopw [4,5,10] (fun ov ev i wr=>∃(k:Nat) (e:Bool) (bs:List UInt8),i=.int .i64 k∧k≤l.length∧ev=.bool e∧wr.ownsRow 0 5 1 ov bs.length (bcells bs)∧ZbC (l.drop k) e bs=(Ft,Fb)∧Fr nob w wr∧(∀g,ov.ownBlock=some g→w.heap.size≤g)∧bs.length≤k) (fun _ _ i _=>l.length-(intOf i).toNat)
 case atStart=>exact⟨0,false,[],rfl,Nat.zero_le _,rfl,World.ownsRow_nil _ _ _ _,hF,Fr.refl _ _,fun _ h=>(by cases h),Nat.zero_le _⟩
 case round=>
  obtain⟨k,e,bs,rfl,hk,rfl,ho,hL,fr,hn,G⟩:=hrel;clear hF;have HO:=hid ho;have HL:=hid hL;have FR:=hid fr;have HN:=hid hn;clear ho hL fr hn;by_cases B:k<l.length
  ·have hL:=HL.out;rw[ZmJ B]at hL;obtain⟨c,hc⟩:∃c,l[k]=c:=⟨_,rfl⟩;have H:(k:Int)<l.length:=by omega
   have HK:=hid hc;obtain⟨ao,co,D⟩:=Zb HO.out;subst D;rw[hc]at hL;cases e with
   |false=>
    by_cases j:c=92
    ·subst j;simp only[and_self,if_true]at hL;have q:=hid hL;clear hL HL;go_wp2_with(first|rw[HK.out]);go_roundw
     case rel=>exact⟨k+1,true,bs,by go_num,by omega,rfl,HO.out,q.out,FR.out,HN.out,by omega⟩
     case measure=>simp[intOf];omega
    ·have C:((c.toNat:Int)==92)=false:=Zn (b:=92) j;simp only[j,and_false,if_false,Bool.false_eq_true,false_and]at hL;have q:=hid hL;clear hL HL j hc;go_wp2_with(first|rw[HK.out]|(at_builtin;refine wpList_append_g rfl _ _ 22 rfl 5 i0 (.int .u8 0) 1 1 Tryz.underlying22 hi y z v rfl (by decide) _ _ _ rfl (ownsRow_fr HO.out ((Fr.refl nob wr).alloc _) (fun _ _ x=>x)) ⟨wr.heap.size,0,none⟩ 1 1 [(.int .u8 (c.toNat:Int))] rfl rfl ZcE ZcF (by unfold maxLen;omega) (by omega) ?_));intro v' w4 a f;obtain⟨u,s,rfl⟩:=Zb a;have m:Fr nob w w4:=(FR.out.alloc _).trans f.fr (fun i hi e=>by have:=HN.out i e;omega);have d:∀g,(Value.slice u (bs.length+1) s).ownBlock=some g→w.heap.size≤g:=fun g hg=>by
      rcases f.old g hg with h1|h1
      ·exact HN.out g h1
      ·have:=FR.out.size;simp only[World.size_alloc]at h1;omega
     have o:=hid a;have t:=hid m;have p:=hid d;clear a f m d;go_wp2;go_roundw
     case rel=>exact⟨k+1,false,bs++[c],by go_num,by omega,rfl,by rw[List.length_append,Zaj];exact o.out,q.out,t.out,p.out,by rw[List.length_append];simp;omega⟩
     case measure=>simp[intOf];omega
   |true=>
    by_cases n:c=110
    ·subst n;simp only[Bool.true_eq_false,false_and,if_false,and_self,if_true]at hL;have q:=hid hL;clear hL HL hc;go_wp2_with(first|rw[HK.out]|(at_builtin;refine wpList_append_g rfl _ _ 22 rfl 5 i0 (.int .u8 0) 1 1 Tryz.underlying22 hi y z v rfl (by decide) _ _ _ rfl (ownsRow_fr HO.out ((Fr.refl nob wr).alloc _) (fun _ _ x=>x)) ⟨wr.heap.size,0,none⟩ 1 1 [(.int .u8 10)] rfl rfl ZcE ZcF (by unfold maxLen;omega) (by omega) ?_));intro v' w4 a f;obtain⟨u,s,rfl⟩:=Zb a;have m:Fr nob w w4:=(FR.out.alloc _).trans f.fr (fun i hi e=>by have:=HN.out i e;omega);have d:∀g,(Value.slice u (bs.length+1) s).ownBlock=some g→w.heap.size≤g:=fun g hg=>by
      rcases f.old g hg with h1|h1
      ·exact HN.out g h1
      ·have:=FR.out.size;simp only[World.size_alloc]at h1;omega
     have o:=hid a;have t:=hid m;have p:=hid d;clear a f m d;go_wp2;go_roundw
     case rel=>exact⟨k+1,false,bs++[10],by go_num,by omega,rfl,by rw[List.length_append,Zaj];exact o.out,q.out,t.out,p.out,by rw[List.length_append];simp;omega⟩
     case measure=>simp[intOf];omega
    ·have A:((c.toNat:Int)==110)=false:=Zn (b:=110) n;by_cases j:c=92
     ·subst j;simp only[Bool.true_eq_false,false_and,if_false,true_and,ne_eq,not_true_eq_false,(by decide:¬(92:UInt8)=110)]at hL;have q:=hid hL;clear hL HL hc n A;go_wp2_with(first|rw[HK.out]|(at_builtin;refine wpList_append_g rfl _ _ 22 rfl 5 i0 (.int .u8 0) 1 1 Tryz.underlying22 hi y z v rfl (by decide) _ _ _ rfl (ownsRow_fr HO.out ((Fr.refl nob wr).alloc _) (fun _ _ x=>x)) ⟨wr.heap.size,0,none⟩ 1 1 [(.int .u8 92)] rfl rfl ZcE ZcF (by unfold maxLen;omega) (by omega) ?_));intro v' w4 a f;obtain⟨u,s,rfl⟩:=Zb a;have m:Fr nob w w4:=(FR.out.alloc _).trans f.fr (fun i hi e=>by have:=HN.out i e;omega);have d:∀g,(Value.slice u (bs.length+1) s).ownBlock=some g→w.heap.size≤g:=fun g hg=>by
       rcases f.old g hg with h1|h1
       ·exact HN.out g h1
       ·have:=FR.out.size;simp only[World.size_alloc]at h1;omega
      have o:=hid a;have t:=hid m;have p:=hid d;clear a f m d;go_wp2;go_roundw
      case rel=>exact⟨k+1,false,bs++[92],by go_num,by omega,rfl,by rw[List.length_append,Zaj];exact o.out,q.out,t.out,p.out,by rw[List.length_append];simp;omega⟩
      case measure=>simp[intOf];omega
     ·have C:((c.toNat:Int)==92)=false:=Zn (b:=92) j;have E:((c.toNat:Int) !=92)=true:=ZoW (b:=92) j;simp only[Bool.true_eq_false,false_and,if_false,true_and,ne_eq,j,n,not_false_eq_true,if_true]at hL;injection hL with e1 e2;subst e1;subst e2;clear HL hc j n;go_wp2_with(first|rw[HK.out]);go_ret2;exact⟨rfl,FR.out⟩
  ·obtain rfl:k=l.length:=by omega
   have hL:=HL.out;rw[List.drop_length,ZbC]at hL;injection hL with e1 e2;subst e1;subst e2;have I:=ZgL HO.out;go_wp2;go_ret2;exact⟨rfl,FR.out⟩
end Go.Proofs.YtkfddjopbocpkaaGreatDoor
