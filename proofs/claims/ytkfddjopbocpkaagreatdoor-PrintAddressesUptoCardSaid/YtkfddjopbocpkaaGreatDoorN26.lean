/- Lemmas of this claim. -/
import Derived.Test.YtkfddjopbocpkaaGreatDoorN23
import Derived.Test.YtkfddjopbocpkaaGreatDoorN25
set_option linter.unusedVariables false
set_option linter.unusedSimpArgs false
set_option maxRecDepth 100000
set_option maxHeartbeats 4000000
namespace Go.Proofs.YtkfddjopbocpkaaGreatDoor
open Go.Lib (hid)
open Go.RowKit
def ZvK(n:Nd):Prop:=n.size≤100000∧(n.right=true→n.shw)
def ZvL(n:Nd):List UInt8:=if n.right then n.txt else[]
def ZuU(n:Nd):List UInt8:=[47]++ZvL n++[47]
def ZvY(a:AV):Prop:=ZvK a.tree∧ -9223372036854775808≤a.line∧a.line≤9223372036854775807
def Zto(a:AV):List UInt8:=if a.kind=1 then Lib.itoa a.line else if a.kind=2 then[36]else if a.kind=3 then ZuU a.tree else if a.kind=4 then[43]++Lib.itoa a.line else[]
theorem ZuG{n:Nd}(h:ZvK n):(ZvL n).length≤300000000:=by
 unfold ZvL;split
 ·next e=>have:=Nd.txt_le n (h.2 e);have:=h.1;omega
 ·simp
theorem ZtS{n:Nd}(h:ZvK n):(ZuU n).length≤300000002:=by
 have:=ZuG h;unfold ZuU;simp only[List.length_append,List.length_cons,List.length_nil];omega
theorem ZtB(n:Int)(w:World)(h0: -9223372036854775808≤n)(h1:n≤9223372036854775807)(h:P10 w):
 Calls Tryz.prog 43 #[.int .i64 n] w fun e w'=>e=.returned (.string ⟨(Lib.itoa n).toArray⟩)∧Fr nob w w':=by
 refine(Tryz.strconv_Itoa n h0 h1 w h.tab).mono ?_;rintro e w' ⟨rfl,k,os,rfl⟩;exact⟨rfl,(Zt0 k).trans' (ZuB os)⟩
theorem ZtT:∀k m,m<10^(k+1)→(Lib.decDigits m).length≤k+1:=by
 intro k;induction k with
 |zero=>intro m hm;rw[Lib.decDigits,dif_pos (by omega)];simp
 |succ k ih=>
  intro m hm;rw[Lib.decDigits];split
  ·simp
  ·rw[List.length_append];have:=ih (m/10) (by rw[Nat.pow_succ]at hm;omega);simp;omega
theorem ZsT{n:Int}(h0: -9223372036854775808≤n)(h1:n≤9223372036854775807):(Lib.itoa n).length≤20:=by
 unfold Lib.itoa;split
 ·have:=ZtT 18 n.natAbs (by have:n.natAbs≤9223372036854775808:=by omega
                            exact Nat.lt_of_le_of_lt this (by decide));simp;omega
 ·have:=ZtT 18 n.toNat (by have:n.toNat≤9223372036854775807:=by omega
                           exact Nat.lt_of_le_of_lt this (by decide));omega
theorem Ztg{a:AV}(h:ZvY a):(Zto a).length≤300000002:=by
 have h1:=ZtS h.1;have h2:=ZsT h.2.1 h.2.2;unfold Zto;split
 ·omega
 ·split
  ·simp
  ·split
   ·exact h1
   ·split
    ·simp;omega
    ·simp
theorem Zt2(n:Nd)(v:Value)(w:World)(hE:Env w)(hP:P10 w)(hn:ZvK n)(hv:RN nob w n v):
 Calls Tryz.prog 44 #[v] w fun e w'=>e=.returned (.string ⟨(ZuU n).toArray⟩)∧Fr nob w w':=by
 have HS:=hid (Zu6 n v w hE hP (by have:=hn.1;omega) hv hn.2);have a:=ZuG hn;rw[show(if n.right then n.txt else[])=ZvL n from rfl]at HS;unfold ZuU;obtain⟨t,ht⟩:∃t,ZvL n=t:=⟨_,rfl⟩;rw[ht]at HS a⊢;clear ht hE hP hn hv;go_enter Tryz.func44,Tryz.ntmps44;go_wp2_with fail;refine HS.out.mono ?_;rintro e w1 ⟨rfl,f1⟩;go_wp2;go_ret;exact⟨by simp,f1⟩
theorem Zts(a:AV)(v:Value)(w:World)(hE:Env w)(hP:P10 w)(hn:ZvY a)(hv:ZkS nob w a v):
 Calls Tryz.prog 23 #[v] w fun e w'=>e=.returned (.string ⟨(Zto a).toArray⟩)∧Fr nob w w':=by
 obtain⟨u,rfl,hu⟩:=hv;have h:=hid (fun(w':World) (f:Fr nob w w')=>Zt2 a.tree u w' (hE.on f) (hP.on f) hn.1 (RN.keep f (fun _ _ x=>x.elim) (fun _ _ x=>x.elim) _ _ hu));have d:=hid (fun(w':World) (f:Fr nob w w')=>ZtB a.line w' hn.2.1 hn.2.2 (hP.on f));have j:=ZsT hn.2.1 hn.2.2;obtain⟨k,ln,tx,tr⟩:=a;obtain⟨w1,g⟩:∃w1,w1=w.alloc (.cells #[.int .i64 k,.int .i64 ln,.string ⟨tx.toArray⟩,u] 28):=⟨_,rfl⟩;have b:=hid g;have f1:Fr nob w w1:=by rw[g];exact(Fr.refl _ _).alloc _
 have hb:w1.heap[w.heap.size]? =some (.cells #[.int .i64 k,.int .i64 ln,.string ⟨tx.toArray⟩,u] 28 (0,0)):=by rw[g];exact newAt _ _
 have r1:=Zl hb;simp only at d h j hu;have F1:=hid f1;clear g hE hP hn f1 hb;unfold Zto;obtain⟨R,hR⟩:∃R,(if k=1 then Lib.itoa ln else if k=2 then[36]else if k=3 then ZuU tr else if k=4 then[43]++Lib.itoa ln else[])=R:=⟨_,rfl⟩;simp only[hR];obtain⟨it,l⟩:∃it,Lib.itoa ln=it:=⟨_,rfl⟩;rw[l]at d j hR;clear l;have c:=hu.shape;clear hu;by_cases k1:k=1
 ·rw[if_pos k1]at hR;have t1:(k==1)=true:=by simpa using k1
  clear k1;rcases c with rfl|⟨i,x,rfl⟩
  all_goals
   go_enter Tryz.func23,Tryz.ntmps23;go_wp2_with(rw[←b.out]);refine(d.out _ F1.out).mono ?_;rintro e w2 ⟨rfl,f2⟩;go_wp2;go_ret;exact⟨by rw[←hR];rfl,F1.out.trans' f2⟩
 have t1:(k==1)=false:=by simpa using k1
 rw[if_neg k1]at hR;by_cases k2:k=2
 ·rw[if_pos k2]at hR;have t2:(k==2)=true:=by simpa using k2
  clear k1 k2;rcases c with rfl|⟨i,x,rfl⟩
  all_goals
   go_enter Tryz.func23,Tryz.ntmps23;go_wp2_with(rw[←b.out]);go_ret;exact⟨by rw[←hR];rfl,F1.out⟩
 have t2:(k==2)=false:=by simpa using k2
 rw[if_neg k2]at hR;by_cases k3:k=3
 ·rw[if_pos k3]at hR;have t3:(k==3)=true:=by simpa using k3
  clear k1 k2 k3;rcases c with rfl|⟨i,x,rfl⟩
  all_goals
   go_enter Tryz.func23,Tryz.ntmps23;go_wp2_with(rw[←b.out]);refine(h.out _ F1.out).mono ?_;rintro e w2 ⟨rfl,f2⟩;go_wp2;go_ret;exact⟨by rw[←hR];rfl,F1.out.trans' f2⟩
 have t3:(k==3)=false:=by simpa using k3
 rw[if_neg k3]at hR;by_cases k4:k=4
 ·rw[if_pos k4]at hR;have t4:(k==4)=true:=by simpa using k4
  clear k1 k2 k3 k4;rcases c with rfl|⟨i,x,rfl⟩
  all_goals
   go_enter Tryz.func23,Tryz.ntmps23;go_wp2_with(rw[←b.out]);refine(d.out _ F1.out).mono ?_;rintro e w2 ⟨rfl,f2⟩;go_wp2;go_ret;exact⟨by rw[←hR];first|rfl|simp,F1.out.trans' f2⟩
 have t4:(k==4)=false:=by simpa using k4
 rw[if_neg k4]at hR;clear k1 k2 k3 k4;rcases c with rfl|⟨i,x,rfl⟩
 all_goals
  go_enter Tryz.func23,Tryz.ntmps23;go_wp2_with(rw[←b.out]);go_ret;exact⟨by rw[←hR];rfl,F1.out⟩
section
variable {s t:List UInt8}
theorem ZhE{d:UInt8}{rx:Bool}{k:Nat}{out:List UInt8}(h:(esc s d rx k out).1=0):esc (s++t) d rx k out=esc s d rx k out∧(esc s d rx k out).2.1=k+2∧k+2≤s.length:=by
 unfold esc at h⊢;cases hc:s[k+1]? with
 |none=>rw[hc]at h;simp at h
 |some y=>
  have hk:=(List.getElem?_eq_some_iff.1 hc).1;rw[hc]at h;rw[List.getElem?_append_left hk,hc];refine⟨rfl,?_,by omega⟩;simp only at h⊢;by_cases hd:y=d
  ·rw[if_pos hd]
  ·rw[if_neg hd]at h⊢;by_cases hn:y=10∧rx=true
   ·rw[if_pos hn]at h;exact absurd h (by intro e;cases e)
   ·rw[if_neg hn]
end
section
variable {A l:List UInt8}
theorem bhd_in(cs:List UInt8){k:Nat}(hk:k≤l.length):k≤bhd l cs k∧bhd l cs k≤l.length:=by
 unfold bhd;have:=Zmv (l.drop k) cs;rw[List.length_drop]at this;omega
theorem Znk{k:Nat}(hk:k<l.length):k<brE l k:=by
 have h1:=Znc (l:=l) (c:=94) (k:=k+1);have h2:=Znc (l:=l) (c:=93) (k:=adv l 94 (k+1));have h3:=Znb (l:=l) (c:=93) (k:=adv l 93 (adv l 94 (k+1)));unfold brE;omega
theorem Znl(k:Nat):brE l k≤l.length:=by unfold brE;omega
theorem Ziw{d:UInt8}{rx:Bool}{k:Nat}{out:List UInt8}(h:(esc l d rx k out).1=0):(esc l d rx k out).2.1=k+2:=(ZhE (t:=[]) h).2.1
variable {M:List (Nat×List UInt8)} {s:AdS}
theorem Zbh{l:List UInt8}{s:AdS}{some:List UInt8}(h:ZI l s some=true):s.at_<l.length:=by
 unfold ZI at h;cases hc:l[s.at_]? with
 |none=>rw[hc]at h;cases h
 |some b=>exact(List.getElem?_eq_some_iff.1 hc).1
theorem ZkX{k:Nat}(label:Bool)(hk:k≤l.length):(ZcI l k label).2.1≤l.length:=by
 unfold ZcI;split
 ·exact hk
 ·split
  ·exact hk
  ·have:=Zec (l.drop k) label;rw[List.length_drop]at this;simp only;omega
theorem ZpK(d:UInt8)(rx:Bool){k:Nat}(hk:k<l.length)(out:List UInt8):(esc l d rx k out).2.1≤l.length:=by
 unfold esc;cases hx:l[k+1]? with
 |none=>exact Nat.le_refl _
 |some y=>
  have:=(List.getElem?_eq_some_iff.1 hx).1;simp only;split
  ·show k+2≤_;omega
  ·split
   ·show k+1≤_;omega
   ·show k+2≤_;omega
theorem ZkY(d:UInt8)(rx:Bool):∀(n k:Nat) (out:List UInt8),k≤l.length→(bt l d rx n k out).2.1≤l.length
 |0,k,out,_=>by simp[bt]
 |n+1,k,out,hk=>by
  rw[bt];cases hc:l[k]? with
  |none=>simp
  |some c=>
   have hlt:=(List.getElem?_eq_some_iff.1 hc).1;simp only;split
   ·show k+1≤_;omega
   ·split
    ·by_cases h3:(esc l d rx k out).1=0
     ·rw[if_pos h3];have hb:=(ZhE (t:=[]) h3).2.2;have hs:=Ziw h3;exact ZkY d rx n _ _ (by omega)
     ·rw[if_neg h3];exact ZpK d rx hlt out
    ·have hm1:k+(if c=91∧rx=true then brE l k-k else 1)≤l.length:=by
      have:=Znk hlt;have:=Znl (l:=l) k;split<;>omega
     generalize(if c=91∧rx=true then brE l k-k else 1)=m at *;have a:=Zb1 ((l.drop k).take m) 10;rw[List.length_take,List.length_drop]at a;split
     ·exact ZkY d rx n _ _ hm1
     ·show k+(Lib.indexByte ((l.drop k).take m) 10).toNat≤_;omega
theorem ZmC:∀(n k:Nat) (out:List UInt8),k≤l.length→(ln l n k out).2.1≤l.length
 |0,k,out,_=>by simp[ln]
 |n+1,k,out,hk=>by
  rw[ln];cases hc:l[k]? with
  |none=>simp only;omega
  |some c=>
   have hlt:=(List.getElem?_eq_some_iff.1 hc).1;simp only;split
   ·simp only;omega
   ·split
    ·cases hx:l[k+1]? with
     |none=>simp only;omega
     |some y=>have:=(List.getElem?_eq_some_iff.1 hx).1;exact ZmC n _ _ (by omega)
    ·exact ZmC n _ _ (by omega)
theorem ZO{e:Int}{p:Nat}(h:s.at_≤l.length)(hp:p≤l.length):(failC s e p).at_≤l.length:=by unfold failC;split<;>assumption
theorem Za6{e:Int}{p:Nat}(h:s.at_≤l.length)(hp:p≤l.length):(ZV s p e).at_≤l.length:=by unfold ZV;split<;>assumption
theorem Zgn(must:Bool)(h:s.at_≤l.length):(labelC l must s).2.at_≤l.length:=by
 unfold labelC;split
 ·have:=Zec (l.drop s.at_) true;rw[List.length_drop]at this;exact Za6 h (by omega)
 ·exact Za6 h (ZkX _ h)
theorem Zix(h:s.at_≤l.length):(ZaR l s).2.at_≤l.length:=by
 unfold ZaR;split
 ·exact ZO h h
 ·exact Za6 h (ZkX _ h)
theorem ZkZ(b:Nat)(h:s.at_≤l.length):(Zah l b s).2.at_≤l.length:=by
 unfold Zah;simp only;have hb:=(bhd_in [32,9] h).2;have h1:(s.to (bhd l [32,9] s.at_)).at_≤l.length:=hb;split
 ·exact ZO h1 h1
 ·split
  ·exact ZO h1 h1
  ·split
   ·next hp=>
    have a:bhd l [32,9] s.at_+2≤l.length:=by
     have h2:=(List.isPrefixOf_iff_prefix.1 hp).length_le;simp only[List.length_drop,List.length_cons,List.length_nil]at h2;have h3:(s.to (bhd l [32,9] s.at_)).at_=bhd l [32,9] s.at_:=rfl;omega
    exact Za6 a (ZmC _ _ _ a)
   ·exact Za6 h1 (ZmC _ _ _ h1)
theorem Za7(h:s.at_≤l.length):(Zv l s).2.at_≤l.length:=by
 unfold Zv;split
 ·exact ZO h (Nat.le_refl _)
 ·split
  ·exact ZO h h
  ·show s.at_+1≤_;omega
theorem ZaW(d:UInt8)(rx:Bool)(h:s.at_≤l.length):(Zr l d rx s).2.at_≤l.length:=by
 unfold Zr;split
 ·exact h
 ·exact Za6 h (ZkY _ _ _ _ _ h)
theorem Zeg(x:Bool)(d:UInt8)(h:s.at_≤l.length):(Zav x l d s).2.at_≤l.length:=by
 unfold Zav;simp only;have hb:=ZaW d true h;have h2:(if(Zr l d true s).2.e=0∧(Zr l d true s).1=[]then failC (Zr l d true s).2 2 s.at_ else(Zr l d true s).2).at_≤l.length:=by
  split
  ·exact ZO hb h
  ·exact hb
 generalize(if(Zr l d true s).2.e=0∧(Zr l d true s).1=[]then failC (Zr l d true s).2 2 s.at_ else(Zr l d true s).2)=s2 at h2⊢;split
 ·exact h2
 ·cases Zac prg x (Zr l d true s).1 with
  |inl z=>exact ZO h2 h
  |inr z=>exact h2
theorem Ziy(sub:SV)(h:s.at_≤l.length):(Zap l sub s).2.2.at_≤l.length:=by
 unfold Zap;split
 ·next hn=>have:=Zbh hn;simp only;split;exact ZO (show s.at_+1≤_ from this) h;exact this
 ·split
  ·next hn=>have:=Zbh hn;simp only;split;exact ZO (show s.at_+1≤_ from this) h;exact this
  ·split
   ·simp only;split
    ·exact ZO h h
    ·have hn:(nm s.at_ (l.drop s.at_) 0 0).2.1≤l.length:=by
      have:=ZkV s.at_ (l.drop s.at_) 0 0;rw[List.length_drop]at this;omega
     have hm:=Za6 (s:=s) (e:=(nm s.at_ (l.drop s.at_) 0 0).2.2) h hn;split
     ·exact ZO hm h
     ·exact hm
   ·split
    ·next hn=>have:=Zbh hn;exact Zix (show(s.to (s.at_+1)).at_≤_ from this)
    ·exact h
theorem Zgo:∀(n:Nat) (sub:SV) (s:AdS),s.at_≤l.length→(Zai l n sub s).2.at_≤l.length
 |0,_,_,h=>h
 |n+1,sub,s,h=>by
  rw[Zai];have hf:=Ziy sub h;cases hr:Zap l sub s with
  |mk a b=>
   rw[hr]at hf;obtain⟨b,c⟩:=b;cases a with
   |true=>exact Zgo n b c hf
   |false=>exact hf
theorem Zog(x:Bool)(h:s.at_≤l.length):(Zet x l s).2.at_≤l.length:=by
 unfold Zet;simp only;have h1:=Za7 h;split
 ·exact h1
 ·have h2:=Zeg x (Zv l s).1 h1;have h3:=ZaW (Zv l s).1 false h2;split
  ·exact h3
  ·split
   ·exact ZO h3 h2
   ·exact Zgo _ _ _ h3
theorem Zk0(h:s.at_≤l.length):(ZaP l s).2.at_≤l.length:=by
 unfold ZaP;simp only;have h1:=Za7 h;have h2:=ZaW (Zv l s).1 false h1;have h3:=ZaW (Zv l s).1 false h2;split
 ·exact h3
 ·split
  ·exact ZO h3 h2
  ·split
   ·exact h3
   ·exact ZO h3 h2
theorem ZdN(x:Bool)(c:CV)(h:s.at_≤l.length):(ZsD x l c s).2.2.at_≤l.length:=by
 unfold ZsD;split
 ·exact h
 split
 ·exact Zgn _ h
 split
 ·exact Zgn _ h
 split
 ·exact ZkZ _ h
 split
 ·exact Zix h
 split
 ·exact Zog x h
 split
 ·exact Zk0 h
 ·exact h
theorem Zdl{sub sub':SV}{s s':AdS}(h:Zap l sub s=(true,sub',s')):s.at_<s'.at_∧s'.at_≤l.length:=by
 have hf:∀(q:AdS) (e:Int) (p:Nat),e≠0→((failC q e p).e==0)=true→False:=by
  intro q e p he hq;unfold failC at hq;split at hq
  ·exact he (by simpa using hq)
  ·next h0=>exact h0 (by simpa using hq)
 unfold Zap at h;split at h
 ·next hn=>
  have:=Zbh hn;simp only[Prod.mk.injEq]at h;obtain⟨h1,_,h3⟩:=h;split at h3
  ·next ha=>rw[if_pos ha]at h1;exact(hf _ _ _ (by decide) h1).elim
  ·rw[←h3];exact⟨Nat.lt_succ_self _,this⟩
 split at h
 ·next hn=>
  have:=Zbh hn;simp only[Prod.mk.injEq]at h;obtain⟨h1,_,h3⟩:=h;split at h3
  ·next ha=>rw[if_pos ha]at h1;exact(hf _ _ _ (by decide) h1).elim
  ·rw[←h3];exact⟨Nat.lt_succ_self _,this⟩
 split at h
 ·next hn=>
  have d:=Zbh hn;simp only at h;split at h
  ·simp only[Prod.mk.injEq]at h;exact(hf _ _ _ (by decide) h.1).elim
  ·simp only[Prod.mk.injEq]at h;obtain⟨h1,_,h3⟩:=h;split at h3
   ·next ha=>rw[if_pos ha]at h1;exact(hf _ _ _ (by decide) h1).elim
   ·next ha=>
    rw[if_neg ha]at h1;have a:=ZkV s.at_ (l.drop s.at_) 0 0;rw[List.length_drop]at a;unfold ZV at h1 h3;split at h3
    ·next h0=>
     rw[if_pos h0]at h1;rw[←h3];simp only at h1⊢;have hz:(nm s.at_ (l.drop s.at_) 0 0).2.2=0:=by simpa using h1
     refine⟨?_,by omega⟩;have b:∀(r:List UInt8) (n c:Nat),(nm s.at_ r n c).2.2=0→s.at_+c≤(nm s.at_ r n c).2.1∧0<(nm s.at_ r n c).2.1-s.at_:=by
      intro r;induction r with
      |nil=>intro n c h;rw[nm]at h⊢;split at h;cases h;next hc=>rw[if_neg hc];simp only;omega
      |cons y r ih=>
       intro n c h;rw[nm]at h⊢;split at h
       ·next hd=>
        rw[if_pos hd];split at h
        ·cases h
        ·next hc=>rw[if_neg hc];have:=ih _ _ h;omega
       ·next hd=>
        rw[if_neg hd];split at h
        ·cases h
        ·next hc=>rw[if_neg hc];simp only;omega
     have:=b _ _ _ hz;omega
    ·next h0=>
     rw[if_neg h0]at h1;exact(h0 (by simpa using h1)).elim
 split at h
 ·simp at h
 ·simp at h
end
theorem Zgr(w:World):Calls Tryz.prog 54 #[.int .u8 125] w fun r w'=>r=.returned (.int .i64 0)∧Fr nob w w':=by
 go_enter Tryz.func54,Tryz.ntmps54;go_wp2;go_ret;exact⟨rfl,Fr.refl _ _⟩
theorem ZhG(w:World):Calls Tryz.prog 54 #[.int .u8 58] w fun r w'=>r=.returned (.int .i64 0)∧Fr nob w w':=by
 go_enter Tryz.func54,Tryz.ntmps54;go_wp2;go_ret;exact⟨rfl,Fr.refl _ _⟩
theorem ZhH(w:World):Calls Tryz.prog 54 #[.int .u8 61] w fun r w'=>r=.returned (.int .i64 1)∧Fr nob w w':=by
 go_enter Tryz.func54,Tryz.ntmps54;go_wp2;go_ret;exact⟨rfl,Fr.refl _ _⟩
theorem Zgs(w:World):Calls Tryz.prog 54 #[.int .u8 113] w fun r w'=>r=.returned (.int .i64 1)∧Fr nob w w':=by
 go_enter Tryz.func54,Tryz.ntmps54;go_wp2;go_ret;exact⟨rfl,Fr.refl _ _⟩
theorem ZhI(w:World):Calls Tryz.prog 54 #[.int .u8 81] w fun r w'=>r=.returned (.int .i64 1)∧Fr nob w w':=by
 go_enter Tryz.func54,Tryz.ntmps54;go_wp2;go_ret;exact⟨rfl,Fr.refl _ _⟩
theorem ZhJ(w:World):Calls Tryz.prog 54 #[.int .u8 97] w fun r w'=>r=.returned (.int .i64 1)∧Fr nob w w':=by
 go_enter Tryz.func54,Tryz.ntmps54;go_wp2;go_ret;exact⟨rfl,Fr.refl _ _⟩
theorem Zgt(w:World):Calls Tryz.prog 54 #[.int .u8 105] w fun r w'=>r=.returned (.int .i64 1)∧Fr nob w w':=by
 go_enter Tryz.func54,Tryz.ntmps54;go_wp2;go_ret;exact⟨rfl,Fr.refl _ _⟩
theorem Zgu(w:World):Calls Tryz.prog 54 #[.int .u8 114] w fun r w'=>r=.returned (.int .i64 1)∧Fr nob w w':=by
 go_enter Tryz.func54,Tryz.ntmps54;go_wp2;go_ret;exact⟨rfl,Fr.refl _ _⟩
theorem Zgv(w:World):Calls Tryz.prog 54 #[.int .u8 123] w fun r w'=>r=.returned (.int .i64 2)∧Fr nob w w':=by
 go_enter Tryz.func54,Tryz.ntmps54;go_wp2;go_ret;exact⟨rfl,Fr.refl _ _⟩
theorem Zgw(w:World):Calls Tryz.prog 54 #[.int .u8 100] w fun r w'=>r=.returned (.int .i64 2)∧Fr nob w w':=by
 go_enter Tryz.func54,Tryz.ntmps54;go_wp2;go_ret;exact⟨rfl,Fr.refl _ _⟩
theorem ZhK(w:World):Calls Tryz.prog 54 #[.int .u8 68] w fun r w'=>r=.returned (.int .i64 2)∧Fr nob w w':=by
 go_enter Tryz.func54,Tryz.ntmps54;go_wp2;go_ret;exact⟨rfl,Fr.refl _ _⟩
theorem Zgx(w:World):Calls Tryz.prog 54 #[.int .u8 103] w fun r w'=>r=.returned (.int .i64 2)∧Fr nob w w':=by
 go_enter Tryz.func54,Tryz.ntmps54;go_wp2;go_ret;exact⟨rfl,Fr.refl _ _⟩
theorem ZhL(w:World):Calls Tryz.prog 54 #[.int .u8 71] w fun r w'=>r=.returned (.int .i64 2)∧Fr nob w w':=by
 go_enter Tryz.func54,Tryz.ntmps54;go_wp2;go_ret;exact⟨rfl,Fr.refl _ _⟩
theorem Zgy(w:World):Calls Tryz.prog 54 #[.int .u8 104] w fun r w'=>r=.returned (.int .i64 2)∧Fr nob w w':=by
 go_enter Tryz.func54,Tryz.ntmps54;go_wp2;go_ret;exact⟨rfl,Fr.refl _ _⟩
theorem ZhM(w:World):Calls Tryz.prog 54 #[.int .u8 72] w fun r w'=>r=.returned (.int .i64 2)∧Fr nob w w':=by
 go_enter Tryz.func54,Tryz.ntmps54;go_wp2;go_ret;exact⟨rfl,Fr.refl _ _⟩
theorem Zgz(w:World):Calls Tryz.prog 54 #[.int .u8 108] w fun r w'=>r=.returned (.int .i64 2)∧Fr nob w w':=by
 go_enter Tryz.func54,Tryz.ntmps54;go_wp2;go_ret;exact⟨rfl,Fr.refl _ _⟩
theorem ZgA(w:World):Calls Tryz.prog 54 #[.int .u8 110] w fun r w'=>r=.returned (.int .i64 2)∧Fr nob w w':=by
 go_enter Tryz.func54,Tryz.ntmps54;go_wp2;go_ret;exact⟨rfl,Fr.refl _ _⟩
theorem ZhN(w:World):Calls Tryz.prog 54 #[.int .u8 78] w fun r w'=>r=.returned (.int .i64 2)∧Fr nob w w':=by
 go_enter Tryz.func54,Tryz.ntmps54;go_wp2;go_ret;exact⟨rfl,Fr.refl _ _⟩
theorem ZgB(w:World):Calls Tryz.prog 54 #[.int .u8 112] w fun r w'=>r=.returned (.int .i64 2)∧Fr nob w w':=by
 go_enter Tryz.func54,Tryz.ntmps54;go_wp2;go_ret;exact⟨rfl,Fr.refl _ _⟩
theorem ZhO(w:World):Calls Tryz.prog 54 #[.int .u8 80] w fun r w'=>r=.returned (.int .i64 2)∧Fr nob w w':=by
 go_enter Tryz.func54,Tryz.ntmps54;go_wp2;go_ret;exact⟨rfl,Fr.refl _ _⟩
theorem ZgC(w:World):Calls Tryz.prog 54 #[.int .u8 120] w fun r w'=>r=.returned (.int .i64 2)∧Fr nob w w':=by
 go_enter Tryz.func54,Tryz.ntmps54;go_wp2;go_ret;exact⟨rfl,Fr.refl _ _⟩
theorem ZgD(w:World):Calls Tryz.prog 54 #[.int .u8 122] w fun r w'=>r=.returned (.int .i64 2)∧Fr nob w w':=by
 go_enter Tryz.func54,Tryz.ntmps54;go_wp2;go_ret;exact⟨rfl,Fr.refl _ _⟩
theorem ZhP(w:World):Calls Tryz.prog 54 #[.int .u8 98] w fun r w'=>r=.returned (.int .i64 2)∧Fr nob w w':=by
 go_enter Tryz.func54,Tryz.ntmps54;go_wp2;go_ret;exact⟨rfl,Fr.refl _ _⟩
theorem ZgE(w:World):Calls Tryz.prog 54 #[.int .u8 116] w fun r w'=>r=.returned (.int .i64 2)∧Fr nob w w':=by
 go_enter Tryz.func54,Tryz.ntmps54;go_wp2;go_ret;exact⟨rfl,Fr.refl _ _⟩
theorem ZhQ(w:World):Calls Tryz.prog 54 #[.int .u8 84] w fun r w'=>r=.returned (.int .i64 2)∧Fr nob w w':=by
 go_enter Tryz.func54,Tryz.ntmps54;go_wp2;go_ret;exact⟨rfl,Fr.refl _ _⟩
theorem ZhR(w:World):Calls Tryz.prog 54 #[.int .u8 99] w fun r w'=>r=.returned (.int .i64 2)∧Fr nob w w':=by
 go_enter Tryz.func54,Tryz.ntmps54;go_wp2;go_ret;exact⟨rfl,Fr.refl _ _⟩
theorem ZgF(w:World):Calls Tryz.prog 54 #[.int .u8 119] w fun r w'=>r=.returned (.int .i64 2)∧Fr nob w w':=by
 go_enter Tryz.func54,Tryz.ntmps54;go_wp2;go_ret;exact⟨rfl,Fr.refl _ _⟩
theorem ZgG(w:World):Calls Tryz.prog 54 #[.int .u8 115] w fun r w'=>r=.returned (.int .i64 2)∧Fr nob w w':=by
 go_enter Tryz.func54,Tryz.ntmps54;go_wp2;go_ret;exact⟨rfl,Fr.refl _ _⟩
theorem ZgH(w:World):Calls Tryz.prog 54 #[.int .u8 121] w fun r w'=>r=.returned (.int .i64 2)∧Fr nob w w':=by
 go_enter Tryz.func54,Tryz.ntmps54;go_wp2;go_ret;exact⟨rfl,Fr.refl _ _⟩
theorem ZdQ(n:UInt8)(w:World):Calls Tryz.prog 54 #[.int .u8 (n.toNat:Int)] w fun r w'=>r=.returned (.int .i64 (ZM n))∧Fr nob w w':=by
 by_cases v:n=125
 ·subst v;exact Zgr w
 by_cases x:n=58
 ·subst x;exact ZhG w
 by_cases y:n=61
 ·subst y;exact ZhH w
 by_cases k:n=113
 ·subst k;exact Zgs w
 by_cases E:n=81
 ·subst E;exact ZhI w
 by_cases G:n=97
 ·subst G;exact ZhJ w
 by_cases f:n=105
 ·subst f;exact Zgt w
 by_cases l:n=114
 ·subst l;exact Zgu w
 by_cases u:n=123
 ·subst u;exact Zgv w
 by_cases a:n=100
 ·subst a;exact Zgw w
 by_cases z:n=68
 ·subst z;exact ZhK w
 by_cases c:n=103
 ·subst c;exact Zgx w
 by_cases A:n=71
 ·subst A;exact ZhL w
 by_cases d:n=104
 ·subst d;exact Zgy w
 by_cases B:n=72
 ·subst B;exact ZhM w
 by_cases g:n=108
 ·subst g;exact Zgz w
 by_cases i:n=110
 ·subst i;exact ZgA w
 by_cases C:n=78
 ·subst C;exact ZhN w
 by_cases j:n=112
 ·subst j;exact ZgB w
 by_cases D:n=80
 ·subst D;exact ZhO w
 by_cases q:n=120
 ·subst q;exact ZgC w
 by_cases t:n=122
 ·subst t;exact ZgD w
 by_cases H:n=98
 ·subst H;exact ZhP w
 by_cases o:n=116
 ·subst o;exact ZgE w
 by_cases F:n=84
 ·subst F;exact ZhQ w
 by_cases I:n=99
 ·subst I;exact ZhR w
 by_cases p:n=119
 ·subst p;exact ZgF w
 by_cases m:n=115
 ·subst m;exact ZgG w
 by_cases s:n=121
 ·subst s;exact ZgH w
 have a0:((n.toNat:Int)==125)=false:=Zn (b:=125) v;have a1:((n.toNat:Int)==58)=false:=Zn (b:=58) x;have a2:((n.toNat:Int)==61)=false:=Zn (b:=61) y;have Q:((n.toNat:Int)==113)=false:=Zn (b:=113) k;have a8:((n.toNat:Int)==81)=false:=Zn (b:=81) E;have b0:((n.toNat:Int)==97)=false:=Zn (b:=97) G;have M:((n.toNat:Int)==105)=false:=Zn (b:=105) f;have R:((n.toNat:Int)==114)=false:=Zn (b:=114) l;have Z:((n.toNat:Int)==123)=false:=Zn (b:=123) u;have J:((n.toNat:Int)==100)=false:=Zn (b:=100) a;have a3:((n.toNat:Int)==68)=false:=Zn (b:=68) z;have K:((n.toNat:Int)==103)=false:=Zn (b:=103) c;have a4:((n.toNat:Int)==71)=false:=Zn (b:=71) A;have L:((n.toNat:Int)==104)=false:=Zn (b:=104) d;have a5:((n.toNat:Int)==72)=false:=Zn (b:=72) B;have N:((n.toNat:Int)==108)=false:=Zn (b:=108) g
 have O:((n.toNat:Int)==110)=false:=Zn (b:=110) i;have a6:((n.toNat:Int)==78)=false:=Zn (b:=78) C;have P:((n.toNat:Int)==112)=false:=Zn (b:=112) j;have a7:((n.toNat:Int)==80)=false:=Zn (b:=80) D;have W:((n.toNat:Int)==120)=false:=Zn (b:=120) q;have Y:((n.toNat:Int)==122)=false:=Zn (b:=122) t;have b1:((n.toNat:Int)==98)=false:=Zn (b:=98) H;have U:((n.toNat:Int)==116)=false:=Zn (b:=116) o;have a9:((n.toNat:Int)==84)=false:=Zn (b:=84) F;have b2:((n.toNat:Int)==99)=false:=Zn (b:=99) I;have V:((n.toNat:Int)==119)=false:=Zn (b:=119) p;have S:((n.toNat:Int)==115)=false:=Zn (b:=115) m;have X:((n.toNat:Int)==121)=false:=Zn (b:=121) s;have e:ZM n= -1:=by unfold ZM;rw[if_neg (by rintro(h|h);exact v h;exact x h),if_neg (by rintro(h|h|h|h|h|h);exact y h;exact k h;exact E h;exact G h;exact f h;exact l h),if_neg (by rintro(h|h|h|h|h|h|h|h|h|h|h|h|h|h|h|h|h|h|h|h|h);exact u h;exact a h;exact z h;exact c h;exact A h;exact d h;exact B h;exact g h;exact i h;exact C h;exact j h;exact D h;exact q h;exact t h;exact H h;exact o h;exact F h;exact I h;exact p h;exact m h;exact s h)]
 rw[e];clear e v x y k E G f l u a z c A d B g i C j D q t H o F I p m s;go_enter Tryz.func54,Tryz.ntmps54;go_wp2;go_ret;exact⟨rfl,Fr.refl _ _⟩
theorem ZhS(g:GV)(v:Value)(w:World)(h:Zni nob w g v):Calls Tryz.prog 55 #[v] w fun r w'=>r=.returned (.int .i64 (ZcD g))∧Fr nob w w':=by
 obtain⟨⟨k1,n1,t1,d1⟩,⟨k2,n2,t2,d2⟩,no⟩:=g;obtain⟨u1,u2,rfl,r1,r2⟩:=h;have o1:=r1.shape;have o2:=r2.shape;clear r1 r2;unfold ZcD;simp only;rcases o1 with rfl|⟨i1,y1,rfl⟩<;>rcases o2 with rfl|⟨i2,y2,rfl⟩
 all_goals
  by_cases h2:k2=0
  ·subst h2;rw[if_neg (by simp)];by_cases h1:k1=0
   ·subst h1;rw[if_neg (by simp)];go_enter Tryz.func55,Tryz.ntmps55;go_wp2;go_ret;exact⟨rfl,(Fr.refl _ _).alloc _⟩
   ·have e1:(k1 !=0)=true:=by simpa using h1
    rw[if_pos h1];go_enter Tryz.func55,Tryz.ntmps55;go_wp2;go_ret;exact⟨rfl,(Fr.refl _ _).alloc _⟩
  ·have e2:(k2 !=0)=true:=by simpa using h2
   rw[if_pos h2];go_enter Tryz.func55,Tryz.ntmps55;go_wp2;go_ret;exact⟨rfl,(Fr.refl _ _).alloc _⟩
theorem Zjs(D:List UInt8)(w:World)(h:D.length≤1000000):Calls Tryz.prog 115 #[.string ⟨D.toArray⟩,.string ⟨#[10,59]⟩] w fun e w'=>e=.returned (.int .i64 (if(Zcv D true).length<D.length then((Zcv D true).length:Int)else -1))∧Fr nob w w':=by
 have:=ZcX D true w h;rw[ZbT]at this;exact this
theorem ZdR(b:Nat)(l:List UInt8)(x must:Bool)(s:AdS)(S:Nat→Prop)(w:World)(hl:l.length≤99000)(ha:s.at_≤l.length)(h:CRd b l x s S w):
 Calls Tryz.prog 89 #[.pointer (some ⟨b,0,none⟩),.bool must] w fun r w'=>r=.returned (.string ⟨(labelC l must s).1.toArray⟩)∧CRd b l x (labelC l must s).2 S w'∧Stp S w S w':=by
 have HN:=hid (fun w'=>Ziq l s.at_ true w' (by omega) ha);have HI:=hid (fun w'=>Zjs (l.drop s.at_) w' (by rw[List.length_drop];omega));have c:=Zec (l.drop s.at_) true;have k:=Zgi (l.drop s.at_) true;have HM:=hid (fun(p:Nat) (e:Int) w' (f:Fr nob w w')=>cm_moved b l x s S e p w' (h.on f));have HF:=hid (fun(p:Nat) (e:Int)=>show(if(ZcI l s.at_ true).2.2=14∧must=false then p=s.at_+(Zcv (l.drop s.at_) true).length∧e=0 else p=(ZcI l s.at_ true).2.1∧e=(ZcI l s.at_ true).2.2)→labelC l must s=((ZcI l s.at_ true).1,ZV s p e)from by
  intro h;unfold labelC;split at h
  ·next hc=>rw[if_pos hc,h.1,h.2]
  ·next hc=>rw[if_neg hc,h.1,h.2])
 obtain⟨mv,h⟩:=h;have rr:=Zd h.blk;obtain⟨p0,ms,e0⟩:=s;simp only at HN HI HF c k ha rr;have i:(Zcv (l.drop p0) true).length≤l.length-p0:=by rw[List.length_drop]at c;exact c
 have d:(Zcv (l.drop p0) true).length<(l.drop p0).length→(l.drop p0).take (Zcv (l.drop p0) true).length=Zcv (l.drop p0) true:=fun _=>k;have a:¬(Zcv (l.drop p0) true).length<(l.drop p0).length→Zcv (l.drop p0) true=l.drop p0:=fun hn=>by rw[←k];exact List.take_of_length_le (by omega)
 obtain⟨U,hU⟩:∃U,Zcv (l.drop p0) true=U:=⟨_,rfl⟩;rw[hU]at HI HF c i d a;obtain⟨D,hD⟩:∃D,l.drop p0=D:=⟨_,rfl⟩;have HD:=hid hD;rw[hD]at HI c d a;obtain⟨NL,v⟩:∃NL,ZcI l p0 true=NL:=⟨_,rfl⟩;obtain⟨nt,nq,nz⟩:=NL;rw[v]at HN HF;simp only at HN HF;have E:=hid c;have A:=hid d;have y:=hid a;have m:=hid i;clear h k hU v c d a i hD;by_cases hc:nz=14∧must=false
 ·obtain⟨rfl,rfl⟩:=hc;have hE:=HF.out (p0+U.length) 0 (by simp);rw[hE];clear hE HF;have F:(p0:Int)≤l.length:=by omega
  go_enter Tryz.func89,Tryz.ntmps89;go_wp2_with fail;refine region_fr 15 (by kernel_rfl) (by kernel_rfl) ?_;simp only[List.take_succ_cons,List.take_zero,List.drop_succ_cons,List.drop_zero]
  repeat(quiet_step (with_reducible exact calls_fr (HN.out _)))
  refine wpQuiet_nil ?_;intro wC fC;go_wp2_with fail;refine region_fr 8 (by kernel_rfl) (by kernel_rfl) ?_;simp only[List.take_succ_cons,List.take_zero,List.drop_succ_cons,List.drop_zero]
  repeat(quiet_step (fail))
  refine wpQuiet_nil ?_;intro wD u;have fD:=fC.trans' u;clear fC u;by_cases g:U.length<D.length
  ·have hI:=HI.out;simp only[if_pos g]at hI;have n:=hid hI;have hq:=A.out g;have h0:(0:Int)≤U.length:=by omega
   have h1:(U.length:Int)≤D.length:=by omega
   clear hI HI g;go_wp2_with fail;rw[HD.out];refine(n.out _).mono ?_;rintro z w1 ⟨rfl,f1⟩;have f2:=fD.trans' f1;clear fD f1;have C:(ByteArray.mk D.toArray).extract 0 U.length=⟨U.toArray⟩:=by rw[Zm8];simp[hq]
   have hb:(U.length:Int)≤100000:=by have:=m.out;omega
   have hM:=HM.out (p0+U.length) 0 w1 f2;rw[show((p0+U.length:Nat):Int)=(p0:Int)+(U.length:Int) by omega]at hM;have o:=hid hM;clear hM hq;go_wp2_with fail;refine o.out.mono ?_;rintro z w2 ⟨rfl,h2,j⟩;clear rr C;go_wp2;go_ret;exact⟨rfl,h2,(Stp.of f2).trans j⟩
  ·have hI:=HI.out;simp only[if_neg g]at hI;have n:=hid hI;have t:=y.out g;have hb:(D.length:Int)≤100000:=by rw[←t];have:=m.out;omega
   clear hI HI g;go_wp2_with fail;rw[HD.out];refine(n.out _).mono ?_;rintro z w1 ⟨rfl,f1⟩;have f2:=fD.trans' f1;clear fD f1;have hM:=HM.out (p0+U.length) 0 w1 f2;rw[show((p0+U.length:Nat):Int)=(p0:Int)+(D.length:Int) by rw[t];omega]at hM;have o:=hid hM;clear hM t;go_wp2_with fail;refine o.out.mono ?_;rintro z w2 ⟨rfl,h2,j⟩;clear rr;go_wp2;go_ret;exact⟨rfl,h2,(Stp.of f2).trans j⟩
 ·have hE:=HF.out nq nz (by rw[if_neg hc];exact⟨rfl,rfl⟩);rw[hE];clear hE HF;have B:(nz==14)=false∨((nz==14)=true∧must=true):=by
   by_cases q:nz=14
   ·exact .inr ⟨by simpa using q,by cases must with|true=>rfl|false=>exact absurd ⟨q,rfl⟩ hc⟩
   ·exact .inl (by simpa using q)
  clear hc;rcases B with h1|⟨h1,rfl⟩
  all_goals
   go_enter Tryz.func89,Tryz.ntmps89;go_wp2_with fail;refine region_fr 15 (by kernel_rfl) (by kernel_rfl) ?_;simp only[List.take_succ_cons,List.take_zero,List.drop_succ_cons,List.drop_zero]
   repeat(quiet_step (with_reducible exact calls_fr (HN.out _)))
   refine wpQuiet_nil ?_;intro wC fC;go_wp2_with fail;refine(HM.out _ _ _ fC).mono ?_;rintro z w2 ⟨rfl,h2,j⟩;clear rr;go_wp2;go_ret;exact⟨rfl,h2,(Stp.of fC).trans j⟩
theorem ZhT(b:Nat)(l:List UInt8)(x:Bool)(s:AdS)(S:Nat→Prop)(w:World)(hl:l.length≤99000)(ha:s.at_≤l.length)(h:CRd b l x s S w):
 Calls Tryz.prog 91 #[.pointer (some ⟨b,0,none⟩)] w fun r w'=>r=.returned (.string ⟨(ZaR l s).1.toArray⟩)∧CRd b l x (ZaR l s).2 S w'∧Stp S w S w':=by
 have HN:=hid (fun w'=>Ziq l s.at_ false w' (by omega) ha);have HX:=hid (ZaI b l x s S [32,9] w (by omega) h);have HM:=hid (fun(p:Nat) (e:Int) w' (f:Fr nob w w')=>cm_moved b l x s S e p w' (h.on f));have c:=hid (fun w' (f:Fr nob w w')=>cm_fail b l x s S 2 s.at_ w' (h.on f));unfold ZaR;obtain⟨q,hq⟩:∃q,ZI l s [32,9]=q:=⟨_,rfl⟩;rw[hq]at HX⊢;obtain⟨mv,h⟩:=h;have rr:=Zd h.blk;obtain⟨p0,ms,e0⟩:=s;simp only at HN c rr⊢;obtain⟨NL,g⟩:∃NL,ZcI l p0 false=NL:=⟨_,rfl⟩;obtain⟨nt,nq,nz⟩:=NL;rw[g]at HN⊢;simp only at HN⊢;clear h g hq;cases q with
 |false=>
  rw[if_pos rfl];go_enter Tryz.func91,Tryz.ntmps91;go_wp2_with fail;refine HX.out.mono ?_;rintro z w1 ⟨rfl,f1⟩;go_wp2_with fail;refine(c.out _ f1).mono ?_;rintro z w2 ⟨rfl,h2,a⟩;clear rr;go_wp2;go_ret;exact⟨rfl,h2,(Stp.of f1).trans a⟩
 |true=>
  rw[if_neg (by simp)];go_enter Tryz.func91,Tryz.ntmps91;go_wp2_with fail;refine HX.out.mono ?_;rintro z w1 ⟨rfl,f1⟩;go_wp2_with fail;refine region_fr 15 (by kernel_rfl) (by kernel_rfl) ?_;simp only[List.take_succ_cons,List.take_zero,List.drop_succ_cons,List.drop_zero]
  repeat(quiet_step (with_reducible exact calls_fr (HN.out _)))
  refine wpQuiet_nil ?_;intro wC d;have fC:=f1.trans' d;clear f1 d;go_wp2_with fail;refine(HM.out _ _ _ fC).mono ?_;rintro z w2 ⟨rfl,h2,a⟩;clear rr;go_wp2;go_ret;exact⟨rfl,h2,(Stp.of fC).trans a⟩
theorem Zck(b:Nat)(l:List UInt8)(d:UInt8)(x rx:Bool)(s:AdS)(S:Nat→Prop)(w:World)(hl:l.length≤99000)(ha:s.at_≤l.length)(h:CRd b l x s S w):
 Calls Tryz.prog 120 #[.pointer (some ⟨b,0,none⟩),.int .u8 (d.toNat:Int),.bool rx] w fun r w'=>r=.returned (.string ⟨(Zr l d rx s).1.toArray⟩)∧CRd b l x (Zr l d rx s).2 S w'∧Stp S w S w':=by
 have HN:=hid (fun w'=>Zg0 l s.at_ d rx w' (by omega) ha);have HX:=hid (cm_ok b l x s S w h);have HM:=hid (fun(p:Nat) (e:Int) w' (f:Fr nob w w')=>cm_moved b l x s S e p w' (h.on f));unfold Zr;have H:=hid h;obtain⟨mv,h⟩:=h;have rr:=Zd h.blk;obtain⟨p0,ms,e0⟩:=s;simp only at HN HX rr⊢;obtain⟨NL,c⟩:∃NL,bt l d rx (l.length+1) p0 []=NL:=⟨_,rfl⟩;obtain⟨nt,nq,nz⟩:=NL;rw[c]at HN⊢;simp only at HN⊢;clear h c;by_cases h0:e0=0
 ·subst h0;rw[if_neg (by simp)];go_enter Tryz.func120,Tryz.ntmps120;go_wp2_with fail;refine HX.out.mono ?_;rintro z w1 ⟨rfl,f1⟩;go_wp2_with fail;refine region_fr 17 (by kernel_rfl) (by kernel_rfl) ?_;simp only[List.take_succ_cons,List.take_zero,List.drop_succ_cons,List.drop_zero]
  repeat(quiet_step (with_reducible exact calls_fr (HN.out _)))
  refine wpQuiet_nil ?_;intro wC a;have fC:=f1.trans' a;clear f1 a;go_wp2_with fail;refine(HM.out _ _ _ fC).mono ?_;rintro z w2 ⟨rfl,h2,g⟩;clear rr;go_wp2;go_ret;exact⟨rfl,h2,(Stp.of fC).trans g⟩
 ·rw[if_pos h0];have e1:(e0==0)=false:=by simpa using h0
  rw[e1]at HX;go_enter Tryz.func120,Tryz.ntmps120;go_wp2_with fail;refine HX.out.mono ?_;rintro z w1 ⟨rfl,f1⟩;clear rr;go_wp2;go_ret;exact⟨rfl,H.out.on f1,Stp.of f1⟩
theorem ZiF(b:Nat)(l:List UInt8)(x:Bool)(s:AdS)(S:Nat→Prop)(w:World)(hl:l.length≤99000)(ha:s.at_≤l.length)(h:CRd b l x s S w):
 Calls Tryz.prog 118 #[.pointer (some ⟨b,0,none⟩)] w fun r w'=>r=.returned (.int .u8 ((Zv l s).1.toNat:Int))∧CRd b l x (Zv l s).2 S w'∧Stp S w S w':=by
 have HO:=hid (Zbn b l x s S w (by omega) h);have HX:=hid (fun w' (f:Fr nob w w')=>ZaI b l x s S [92,10] w' (by omega) (h.on f));have d:=hid (fun(e:Int) (p:Nat) w' (f:Fr nob w w')=>cm_fail b l x s S e p w' (h.on f));unfold Zv;obtain⟨q,hq⟩:∃q,ZI l s [92,10]=q:=⟨_,rfl⟩;rw[hq]at HX⊢;obtain⟨mv,h⟩:=h;have rr:=Zd h.blk;obtain⟨p0,ms,e0⟩:=s;have H:=hid h;simp only at HO HX d ha rr⊢;clear h hq;by_cases c:l.length≤p0
 ·rw[if_pos c];have hd:decide (l.length≤p0)=true:=by simpa using c
  rw[hd]at HO;go_enter Tryz.func118,Tryz.ntmps118;go_wp2_with fail;refine HO.out.mono ?_;rintro z w1 ⟨rfl,f1⟩;go_wp2_with fail;refine(d.out 5 l.length _ f1).mono ?_;rintro z w2 ⟨rfl,h2,i⟩;clear rr;go_wp2;go_ret;exact⟨rfl,h2,(Stp.of f1).trans i⟩
 ·rw[if_neg c];have hd:decide (l.length≤p0)=false:=by simpa using c
  rw[hd]at HO;have n:p0<l.length:=by omega
  clear c hd;cases q with
  |true=>
   rw[if_pos rfl];go_enter Tryz.func118,Tryz.ntmps118;go_wp2_with fail;refine HO.out.mono ?_;rintro z w1 ⟨rfl,f1⟩;go_wp2_with fail;refine(HX.out _ f1).mono ?_;rintro z w2 ⟨rfl,a⟩;have f2:=f1.trans' a;clear f1 a;go_wp2_with fail;refine(d.out 2 p0 _ f2).mono ?_;rintro z w3 ⟨rfl,h2,i⟩;clear rr;go_wp2;go_ret;exact⟨rfl,h2,(Stp.of f2).trans i⟩
  |false=>
   rw[if_neg (by simp),ZkQ n];go_enter Tryz.func118,Tryz.ntmps118;go_wp2_with fail;refine HO.out.mono ?_;rintro z w1 ⟨rfl,f1⟩;go_wp2_with fail;refine(HX.out _ f1).mono ?_;rintro z w2 ⟨rfl,a⟩;have f2:=f1.trans' a;clear f1 a rr;have h2:=H.out.on f2;have r2:=Zd h2.blk _ (Fr.refl _ _);have h3:=h2.turned 1 (.int .i64 ((p0:Int)+1)) ⟨p0+1,ms,e0⟩ (by simp) rfl;have j:=(Stp.of f2).trans (h2.stp 1 (.int .i64 ((p0:Int)+1)));obtain⟨w3,g⟩:∃w3,w3=w2.setCell ⟨b,1,none⟩ (.int .i64 ((p0:Int)+1)):=⟨_,rfl⟩;rw[←g]at h3 j;have rr:=Zd h3.blk;simp only at rr;rw[show((p0+1:Nat):Int)=(p0:Int)+1 by omega]at rr;have H3:=hid h3;have m:=hid j;have k:=hid g;clear h2 h3 j g f2;go_wp2_with(rw[←k.out]);clear r2;refine region_fr 9 (by kernel_rfl) (by kernel_rfl) ?_;simp only[List.take_succ_cons,List.take_zero,List.drop_succ_cons,List.drop_zero]
   repeat(quiet_step (fail))
   refine wpQuiet_nil ?_;intro wC fC;go_wp2;go_ret;exact⟨rfl,⟨mv,H3.out.on fC⟩,m.out.trans (Stp.of fC)⟩
theorem ZgI{l:List UInt8}{p:Nat}(hl:l.length≤99000)(ha:p≤l.length)(w:World):Calls Tryz.prog 94 #[.string ⟨l.toArray⟩,.int .i64 (p:Nat)] w fun e w'=>e=.returned (.int .i64 (bhd l [32,9] p:Nat))∧Fr nob w w':=by
 have:=ZeK l (p:Int) w (by omega);rw[if_neg (by omega),Int.toNat_natCast]at this;exact this
theorem Zop{l:List UInt8}{s:AdS}{q:Nat}(hq:bhd l [32,9] s.at_=q):Zjq l s=if decide (l.length≤q)=true then s.to q else if ZI l (s.to q) [59,10,35]=true then s.to q else if ZI l (s.to q) [125]=true then Zan (s.to q) q [125]else failC (s.to q) 17 q:=by
 subst hq;unfold Zjq;simp only;generalize hq:bhd l [32,9] s.at_=q;have e:(s.to q).at_=q:=rfl;rw[e];by_cases h1:l.length≤q
 ·rw[if_pos (.inl h1),if_pos (by simpa using h1)]
 ·rw[if_neg (c:=decide (l.length≤q)=true) (by simpa using h1)];by_cases h2:ZI l (s.to q) [59,10,35]=true
  ·rw[if_pos (.inr h2),if_pos h2]
  ·rw[if_neg (by rintro(h|h);exact h1 h;exact h2 h),if_neg h2]
theorem cm_end(b:Nat)(l:List UInt8)(x:Bool)(s:AdS)(S:Nat→Prop)(w:World)(hl:l.length≤99000)(ha:s.at_≤l.length)(hm:s.marks.length≤1000000)(h:CRd b l x s S w):
 Calls Tryz.prog 59 #[.pointer (some ⟨b,0,none⟩)] w fun r w'=>r=.returned (.tuple #[])∧ZqC b l x S w (Zjq l s) w':=by
 have HB:=hid (fun w'=>ZgI (l:=l) (p:=s.at_) hl ha w');obtain⟨q,hq⟩:∃q,bhd l [32,9] s.at_=q:=⟨_,rfl⟩;rw[Zop hq];rw[hq]at HB;obtain⟨p0,ms,e0⟩:=s;obtain⟨mv,h⟩:=h;have rr:=Zd h.blk;simp only[AdS.to]at HB ha rr hm⊢;have H:=hid h;clear h hq;obtain⟨c1,c⟩:∃c1,decide (l.length≤q)=c1:=⟨_,rfl⟩;obtain⟨c2,d⟩:∃c2,ZI l ⟨q,ms,e0⟩ [59,10,35]=c2:=⟨_,rfl⟩;obtain⟨c3,e⟩:∃c3,ZI l ⟨q,ms,e0⟩ [125]=c3:=⟨_,rfl⟩;have HO:=hid (fun w' h=>by have:=Zbn b l x ⟨q,ms,e0⟩ S w' (by omega) h;simp only at this;rw[c]at this;exact this);have HX:=hid (fun w' h=>by have:=ZaI b l x ⟨q,ms,e0⟩ S [59,10,35] w' (by omega) h;rw[d]at this;exact this);have HY:=hid (fun w' h=>by have:=ZaI b l x ⟨q,ms,e0⟩ S [125] w' (by omega) h;rw[e]at this;exact this);simp only[c,d,e];clear c d e;go_enter Tryz.func59,Tryz.ntmps59;go_wp2_with fail;refine region_fr 10 (by kernel_rfl) (by kernel_rfl) ?_
 simp only[List.take_succ_cons,List.take_zero,List.drop_succ_cons,List.drop_zero]
 repeat(quiet_step (with_reducible exact calls_fr (HB.out _)))
 refine wpQuiet_nil ?_;intro wC fC;clear rr;have h2:=H.out.on fC;have r2:=Zd h2.blk _ (Fr.refl _ _);have h3:=h2.turned 1 (.int .i64 (q:Nat)) ⟨q,ms,e0⟩ (by simp) rfl;have g:=(Stp.of fC).trans (h2.stp 1 (.int .i64 (q:Nat)));obtain⟨w3,f⟩:∃w3,w3=wC.setCell ⟨b,1,none⟩ (.int .i64 (q:Nat)):=⟨_,rfl⟩;rw[←f]at h3 g;have rr:=Zd h3.blk;have H3:=hid (show CRd b l x ⟨q,ms,e0⟩ S w3 from⟨mv,h3⟩);have a:=hid g;have m:=hid f;clear h2 h3 g f fC;go_wp2_with(rw[←m.out]);clear r2;refine(HO.out _ H3.out).mono ?_;rintro z w4 ⟨rfl,f4⟩;cases c1 with
 |true=>
  clear rr;go_wp2
  go_end0
  exact⟨rfl,S,H3.out.on f4,a.out.trans (Stp.of f4)⟩
 |false=>
  go_wp2_with fail;refine(HX.out _ (H3.out.on f4)).mono ?_;rintro z w5 ⟨rfl,j⟩;have f5:=f4.trans' j;clear f4 j;cases c2 with
  |true=>
   clear rr;go_wp2
   go_end0
   exact⟨rfl,S,H3.out.on f5,a.out.trans (Stp.of f5)⟩
  |false=>
   go_wp2_with fail;refine(HY.out _ (H3.out.on f5)).mono ?_;rintro z w6 ⟨rfl,k⟩;have f6:=f5.trans' k;clear f5 k;cases c3 with
   |true=>
    go_wp2_with fail;refine(cm_mark b l x ⟨q,ms,e0⟩ S q [125] w6 hm (H3.out.on f6)).mono ?_;rintro z w7 ⟨rfl,S',h7,i⟩;clear rr;go_wp2
    go_end0
    exact⟨rfl,S',h7,a.out.trans ((Stp.of f6).trans i)⟩
   |false=>
    go_wp2_with fail;refine(cm_fail b l x ⟨q,ms,e0⟩ S 17 q w6 (H3.out.on f6)).mono ?_;rintro z w7 ⟨rfl,h7,i⟩;clear rr;go_wp2
    go_end0
    exact⟨rfl,S,h7,a.out.trans ((Stp.of f6).trans i)⟩
theorem Zfq(b:Nat)(l:List UInt8)(x:Bool)(g:Nat)(s:AdS)(S:Nat→Prop)(w:World)(hl:l.length≤99000)(ha:s.at_≤l.length)(hm:s.marks.length≤1000000)(h:CRd b l x s S w):
 Calls Tryz.prog 90 #[.pointer (some ⟨b,0,none⟩),.int .i64 (g:Nat)] w fun r w'=>r=.returned (.string ⟨(Zah l g s).1.toArray⟩)∧ZqC b l x S w (Zah l g s).2 w':=by
 have HB:=hid (fun w'=>ZgI (l:=l) (p:=s.at_) hl ha w');have G:=(bhd_in (l:=l) [32,9] ha).2;unfold Zah;simp only;obtain⟨p0,ms,e0⟩:=s;obtain⟨mv,h⟩:=h;have rr:=Zd h.blk;simp only[AdS.to]at HB ha rr hm G⊢;obtain⟨q,hq⟩:∃q,bhd l [32,9] p0=q:=⟨_,rfl⟩;rw[hq]at HB G⊢;have H:=hid h;clear h hq;have E:=hid (fun(e:Int) w' h=>cm_fail b l x ⟨q,ms,e0⟩ S e q w' h);have F:=hid (fun(k:Nat) w' hk=>ZjU l k w' (by omega) hk);obtain⟨c2,B⟩:∃c2,ZI l ⟨q,ms,e0⟩ [10]=c2:=⟨_,rfl⟩;obtain⟨c3,u⟩:∃c3,[92,10].isPrefixOf (l.drop q)=c3:=⟨_,rfl⟩;have HX:=hid (fun w' h=>by have:=ZaI b l x ⟨q,ms,e0⟩ S [10] w' (by omega) h;rw[B]at this;exact this);have HP:=hid (fun w'=>by have:=ZL (l.drop q) [92,10] w' (by rw[List.length_drop];omega) (by decide);rw[u]at this;exact this);have I:=hid (fun(e:c3=true)=>show q+2≤l.length from by
  rw[e]at u;have h2:=(List.isPrefixOf_iff_prefix.1 u).length_le;simp only[List.length_drop,List.length_cons,List.length_nil]at h2;omega)
 simp only[B,u];clear B u;by_cases y:l.length≤q
 ·rw[if_pos y];have HO:=hid (fun w' h=>by have:=Zbn b l x ⟨q,ms,e0⟩ S w' (by omega) h;simp only[show decide (l.length≤q)=true by simpa using y]at this;exact this);go_enter Tryz.func90,Tryz.ntmps90;go_wp2_with fail;refine region_fr 10 (by kernel_rfl) (by kernel_rfl) ?_;simp only[List.take_succ_cons,List.take_zero,List.drop_succ_cons,List.drop_zero]
  repeat(quiet_step (with_reducible exact calls_fr (HB.out _)))
  refine wpQuiet_nil ?_;intro wC fC;clear rr;have h2:=H.out.on fC;have r2:=Zd h2.blk _ (Fr.refl _ _);have h3:=h2.turned 1 (.int .i64 (q:Nat)) ⟨q,ms,e0⟩ (by simp) rfl;have c:=(Stp.of fC).trans (h2.stp 1 (.int .i64 (q:Nat)));obtain⟨w3,a⟩:∃w3,w3=wC.setCell ⟨b,1,none⟩ (.int .i64 (q:Nat)):=⟨_,rfl⟩;rw[←a]at h3 c;have rr:=Zd h3.blk;have H3:=hid (show CRd b l x ⟨q,ms,e0⟩ S w3 from⟨mv,h3⟩);have v:=hid h3;have j:=hid c;have i:=hid a;clear h2 h3 c a fC;go_wp2_with(rw[←i.out]);clear r2;refine(HO.out _ H3.out).mono ?_;rintro z w4 ⟨rfl,f4⟩;go_wp2_with fail;refine(E.out 11 _ (H3.out.on f4)).mono ?_;rintro z w5 ⟨rfl,h5,M⟩;clear rr;go_wp2;go_ret;exact⟨rfl,S,h5,j.out.trans ((Stp.of f4).trans M)⟩
 ·rw[if_neg y];have HO:=hid (fun w' h=>by have:=Zbn b l x ⟨q,ms,e0⟩ S w' (by omega) h;simp only[show decide (l.length≤q)=false by simpa using y]at this;exact this);cases c2 with
  |true=>
   rw[if_pos rfl];go_enter Tryz.func90,Tryz.ntmps90;go_wp2_with fail;refine region_fr 10 (by kernel_rfl) (by kernel_rfl) ?_;simp only[List.take_succ_cons,List.take_zero,List.drop_succ_cons,List.drop_zero]
   repeat(quiet_step (with_reducible exact calls_fr (HB.out _)))
   refine wpQuiet_nil ?_;intro wC fC;clear rr;have h2:=H.out.on fC;have r2:=Zd h2.blk _ (Fr.refl _ _);have h3:=h2.turned 1 (.int .i64 (q:Nat)) ⟨q,ms,e0⟩ (by simp) rfl;have c:=(Stp.of fC).trans (h2.stp 1 (.int .i64 (q:Nat)));obtain⟨w3,a⟩:∃w3,w3=wC.setCell ⟨b,1,none⟩ (.int .i64 (q:Nat)):=⟨_,rfl⟩;rw[←a]at h3 c;have rr:=Zd h3.blk;have H3:=hid (show CRd b l x ⟨q,ms,e0⟩ S w3 from⟨mv,h3⟩);have v:=hid h3;have j:=hid c;have i:=hid a;clear h2 h3 c a fC;go_wp2_with(rw[←i.out]);clear r2;refine(HO.out _ H3.out).mono ?_;rintro z w4 ⟨rfl,f4⟩;go_wp2_with fail;refine(HX.out _ (H3.out.on f4)).mono ?_;rintro z w5 ⟨rfl,d⟩;have f5:=f4.trans' d;clear f4 d;go_wp2_with fail;refine(E.out 5 _ (H3.out.on f5)).mono ?_;rintro z w6 ⟨rfl,h6,N⟩;clear rr;go_wp2;go_ret;exact⟨rfl,S,h6,j.out.trans ((Stp.of f5).trans N)⟩
  |false=>
   rw[if_neg (by simp)];have P:q<l.length:=by omega
   have O:(q:Int)≤l.length:=by omega
   cases c3 with
   |true=>
    have K:=I.out rfl;simp only[if_true];have n:=fun w'=>F.out (q+2) w' K;rw[show((q+2:Nat):Int)=(q:Int)+2 by omega]at n;have f:=hid n;obtain⟨NL,t⟩:∃NL,ln l (l.length+1) (q+2) []=NL:=⟨_,rfl⟩;obtain⟨nt,nq,nz⟩:=NL;rw[t]at f⊢;simp only at f⊢;clear n t;go_enter Tryz.func90,Tryz.ntmps90;go_wp2_with fail;refine region_fr 10 (by kernel_rfl) (by kernel_rfl) ?_;simp only[List.take_succ_cons,List.take_zero,List.drop_succ_cons,List.drop_zero]
    repeat(quiet_step (with_reducible exact calls_fr (HB.out _)))
    refine wpQuiet_nil ?_;intro wC fC;clear rr;have h2:=H.out.on fC;have r2:=Zd h2.blk _ (Fr.refl _ _);have h3:=h2.turned 1 (.int .i64 (q:Nat)) ⟨q,ms,e0⟩ (by simp) rfl;have c:=(Stp.of fC).trans (h2.stp 1 (.int .i64 (q:Nat)));obtain⟨w3,a⟩:∃w3,w3=wC.setCell ⟨b,1,none⟩ (.int .i64 (q:Nat)):=⟨_,rfl⟩;rw[←a]at h3 c;have rr:=Zd h3.blk;have H3:=hid (show CRd b l x ⟨q,ms,e0⟩ S w3 from⟨mv,h3⟩);have v:=hid h3;have j:=hid c;have i:=hid a;clear h2 h3 c a fC;go_wp2_with(rw[←i.out]);clear r2;refine(HO.out _ H3.out).mono ?_;rintro z w4 ⟨rfl,f4⟩;go_wp2_with fail;refine(HX.out _ (H3.out.on f4)).mono ?_;rintro z w5 ⟨rfl,d⟩;have f5:=f4.trans' d;clear f4 d;go_wp2_with fail;refine region_fr 8 (by kernel_rfl) (by kernel_rfl) ?_;simp only[List.take_succ_cons,List.take_zero,List.drop_succ_cons,List.drop_zero]
    repeat(quiet_step (fail))
    refine wpQuiet_nil ?_;intro wD o;have fD:=f5.trans' o;clear f5 o;go_wp2_with(refine(HP.out _).mono ?_;rintro z wE ⟨rfl,rfl⟩);have h6:=v.out.on fD;have r6:=Zd h6.blk _ (Fr.refl _ _);have h7:=h6.turned 1 (.int .i64 ((q:Int)+2)) ⟨q+2,ms,e0⟩ (by simp) rfl;have m:=j.out.trans ((Stp.of fD).trans (h6.stp 1 (.int .i64 ((q:Int)+2))));obtain⟨w7,C⟩:∃w7,w7=wD.setCell ⟨b,1,none⟩ (.int .i64 ((q:Int)+2)):=⟨_,rfl⟩;rw[←C]at h7 m;have r7:=Zd h7.blk;simp only at r7;rw[show((q+2:Nat):Int)=(q:Int)+2 by omega]at r7;have H7:=hid (show CRd b l x ⟨q+2,ms,e0⟩ S w7 from⟨mv,h7⟩);have A:=hid m;have J:=hid C;clear h6 h7 m C fD rr;go_wp2_with(rw[←J.out]);clear r6;refine region_fr 15 (by kernel_rfl) (by kernel_rfl) ?_;simp only[List.take_succ_cons,List.take_zero,List.drop_succ_cons,List.drop_zero]
    repeat(quiet_step (with_reducible exact calls_fr (f.out _)))
    refine wpQuiet_nil ?_;intro wC fC;go_wp2_with fail;refine(cm_moved b l x ⟨q+2,ms,e0⟩ S nz nq wC (H7.out.on fC)).mono ?_;rintro z w8 ⟨rfl,h8,D⟩;clear r7;go_wp2;go_ret;exact⟨rfl,S,h8,A.out.trans ((Stp.of fC).trans D)⟩
   |false=>
    simp only[Bool.false_eq_true,if_false,Zan];have f:=hid (fun w'=>F.out q w' (by omega));obtain⟨NL,t⟩:∃NL,ln l (l.length+1) q []=NL:=⟨_,rfl⟩;obtain⟨nt,nq,nz⟩:=NL;rw[t]at f⊢;simp only at f⊢;clear t;go_enter Tryz.func90,Tryz.ntmps90;go_wp2_with fail;refine region_fr 10 (by kernel_rfl) (by kernel_rfl) ?_;simp only[List.take_succ_cons,List.take_zero,List.drop_succ_cons,List.drop_zero]
    repeat(quiet_step (with_reducible exact calls_fr (HB.out _)))
    refine wpQuiet_nil ?_;intro wC fC;clear rr;have h2:=H.out.on fC;have r2:=Zd h2.blk _ (Fr.refl _ _);have h3:=h2.turned 1 (.int .i64 (q:Nat)) ⟨q,ms,e0⟩ (by simp) rfl;have c:=(Stp.of fC).trans (h2.stp 1 (.int .i64 (q:Nat)));obtain⟨w3,a⟩:∃w3,w3=wC.setCell ⟨b,1,none⟩ (.int .i64 (q:Nat)):=⟨_,rfl⟩;rw[←a]at h3 c;have rr:=Zd h3.blk;have H3:=hid (show CRd b l x ⟨q,ms,e0⟩ S w3 from⟨mv,h3⟩);have v:=hid h3;have j:=hid c;have i:=hid a;clear h2 h3 c a fC;go_wp2_with(rw[←i.out]);clear r2;refine(HO.out _ H3.out).mono ?_;rintro z w4 ⟨rfl,f4⟩;go_wp2_with fail;refine(HX.out _ (H3.out.on f4)).mono ?_;rintro z w5 ⟨rfl,d⟩;have f5:=f4.trans' d;clear f4 d;go_wp2_with fail;refine region_fr 8 (by kernel_rfl) (by kernel_rfl) ?_;simp only[List.take_succ_cons,List.take_zero,List.drop_succ_cons,List.drop_zero]
    repeat(quiet_step (fail))
    refine wpQuiet_nil ?_;intro wD o;have fD:=f5.trans' o;clear f5 o;go_wp2_with(refine(HP.out _).mono ?_;rintro z wE ⟨rfl,rfl⟩);go_wp2_with fail;refine(cm_mark b l x ⟨q,ms,e0⟩ S g [116,101,120,116] wD hm (H3.out.on fD)).mono ?_;rintro z w7 ⟨rfl,S',⟨L,h7⟩,m⟩;have r7:=Zd h7.blk;simp only[Zan]at r7;have H7:=hid (show CRd b l x ⟨q,ms++[(g,[116,101,120,116])],e0⟩ S' w7 from⟨L,h7⟩);have A:=hid (j.out.trans ((Stp.of fD).trans m));clear h7 m fD rr;go_wp2_with fail;refine region_fr 15 (by kernel_rfl) (by kernel_rfl) ?_;simp only[List.take_succ_cons,List.take_zero,List.drop_succ_cons,List.drop_zero]
    repeat(quiet_step (with_reducible exact calls_fr (f.out _)))
    refine wpQuiet_nil ?_;intro wC fC;go_wp2_with fail;refine(cm_moved b l x ⟨q,ms++[(g,[116,101,120,116])],e0⟩ S' nz nq wC (H7.out.on fC)).mono ?_;rintro z w8 ⟨rfl,h8,D⟩;clear r7;go_wp2;go_ret;exact⟨rfl,S',h8,A.out.trans ((Stp.of fC).trans D)⟩
end Go.Proofs.YtkfddjopbocpkaaGreatDoor
