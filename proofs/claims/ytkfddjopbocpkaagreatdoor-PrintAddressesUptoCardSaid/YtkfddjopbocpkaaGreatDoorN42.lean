/- Lemmas of this claim. -/
import Derived.Test.YtkfddjopbocpkaaGreatDoorN21
import Derived.Test.YtkfddjopbocpkaaGreatDoorN25
set_option linter.unusedVariables false
set_option linter.unusedSimpArgs false
set_option maxRecDepth 100000
set_option maxHeartbeats 4000000
namespace Go.Proofs.YtkfddjopbocpkaaGreatDoor
open Go.RowKit
mutual
def Nd.wft:Nd→Nat→Prop
 | .nil,_=>False
 | .one c,_=>c.fit
 | .cat l,m=>1<l.length∧Zeq l∧Nd.wfts l m
 | .alt l,m=>1<l.length∧Zn3 l∧Nd.wfts l m
 | .rep x a b,m=>x.atom=true∧repOk true a b=true∧x.wft m
 | .group _ x,m=>∃k,m=k+1∧x.wft k
 | .back n,_=>1≤n∧n≤9
 | .empty,_=>True
 | .start,_=>True
 | .fin,_=>True
def Nd.wfts:List Nd→Nat→Prop
 |[],_=>True
 |x::r,m=>x.wft m∧Nd.wfts r m
end
theorem Nd.wfts_snoc{m:Nat}{t:Nd}(ht:t.wft m):∀{l:List Nd},Nd.wfts l m→Nd.wfts (l++[t]) m
 |[],_=>by rw[List.nil_append,Nd.wfts];exact⟨ht,by rw[Nd.wfts];trivial⟩
 |x::r,h=>by rw[Nd.wfts]at h;rw[List.cons_append,Nd.wfts];exact⟨h.1,Nd.wfts_snoc ht h.2⟩
theorem joined_wft{ps:List Nd}{m:Nat}(hu:Zeq ps)(h:Nd.wfts ps m):(Za2 ps).wft m:=by
 rw[Zs7 hu]
 match ps,hu,h with
 |[],_,_=>show Nd.wft .empty m;rw[Nd.wft];trivial
 |[x],_,h=>rw[Nd.wfts]at h;exact h.1
 |x::y::r,hu,h=>show Nd.wft (.cat (x::y::r)) m;rw[Nd.wft];exact⟨by simp,hu,h⟩
theorem chosen_wft{ts:List Nd}{m:Nat}(hu:Zn3 ts)(h:Nd.wfts ts m):(Za3 ts).wft m:=by
 rw[Zhl hu]
 match ts,hu,h with
 |[],_,_=>show Nd.wft .empty m;rw[Nd.wft];trivial
 |[x],_,h=>rw[Nd.wfts]at h;exact h.1
 |x::y::r,hu,h=>show Nd.wft (.alt (x::y::r)) m;rw[Nd.wft];exact⟨by simp,hu,h⟩
theorem escB_fit{b:UInt8}{c:S4}{k:Bool}(h:ZjI b=some (c,k)):c.fit:=by
 have a:∀(x:S4) (y:Bool),x.fit→some (x,y)=some (c,k)→c.fit:=fun x y hx e=>by
  have h1:x=c:=congrArg Prod.fst (Option.some.inj e);rw[←h1];exact hx
 unfold ZjI at h;by_cases h1:b=110
 ·rw[if_pos h1]at h;exact a _ _ (fit_spn _ _) h
 rw[if_neg h1]at h;by_cases h2:b=116
 ·rw[if_pos h2]at h;exact a _ _ (fit_spn _ _) h
 rw[if_neg h2]at h;by_cases h3:b=119
 ·rw[if_pos h3]at h;exact a _ _ (Zph _ _) h
 rw[if_neg h3]at h;by_cases h4:b=87
 ·rw[if_pos h4]at h;exact a _ _ (ZnE _) h
 rw[if_neg h4]at h;by_cases h5:b=115
 ·rw[if_pos h5]at h;exact a _ _ (Zdd _) h
 rw[if_neg h5]at h;by_cases h6:b=83
 ·rw[if_pos h6]at h;exact a _ _ (ZnE _) h
 rw[if_neg h6]at h;by_cases h7:Za0.has b.toNat=true
 ·rw[if_pos h7]at h;exact a _ _ (fit_spn _ _) h
 rw[if_neg h7]at h;exact absurd h (by simp)
theorem ZtA{t:Nd}{a b:Int}{m:Nat}(ht:t.atom=true)(h:t.wft m)(hr:repOk true a b=true):(Nd.rep t a b).wft m:=by rw[Nd.wft];exact⟨ht,hr,h⟩
theorem ZsZ{ere:Bool}{l:List UInt8}{m:Nat}:∀(n:Nat) (s:RxS) (t t':Nd) (s':RxS),t.atom=true→t.wft m→Ze8 prg ere l n s t=.inr (t',s')→t'.wft m∧t'.atom=true
 |0,s,t,t',s',ht,hk,h=>by
  rw[Ze8]at h;injection h with h;injection h with h1 h2;subst h1;subst h2;exact⟨hk,ht⟩
 |n+1,s,t,t',s',ht,hk,h=>by
  rw[Ze8]at h;split at h
  ·exact ZsZ n _ _ _ _ rfl (ZtA (a:=0) (b:= -1) ht hk (by decide)) h
  ·split at h
   ·exact ZsZ n _ _ _ _ rfl (ZtA (a:=1) (b:= -1) ht hk (by decide)) h
   ·split at h
    ·exact ZsZ n _ _ _ _ rfl (ZtA (a:=0) (b:=1) ht hk (by decide)) h
    ·split at h
     ·cases hi:ZlJ l ere (s.at_+(opB ere 123).length)with
      |none=>rw[hi]at h;cases h
      |some y=>
       obtain⟨mn,x,j⟩:=y;rw[hi]at h;exact ZsZ n _ _ _ _ rfl (ZtA (a:=mn) (b:=x) ht hk (ZuD hi)) h
     ·injection h with h;injection h with h1 h2;subst h1;subst h2;exact⟨hk,ht⟩
def Zwf(m:Nat)(f:RxS→Out Nd):Prop:=∀s t s',f s=.inr (t,s')→t.wft m
section
variable {ere:Bool} {l:List UInt8} {C:Option (RxS→Out Nd)} {m:Nat} (hC:∀f,C=some f→∃k,m=k+1∧Zwf k f)
include hC
theorem ZuE{s s':RxS}{t:Nd}(h:ZcS prg ere l C s=.inr (t,s')):t.wft m∧t.atom=true:=by
 unfold ZcS at h;split at h
 ·unfold Zct at h;cases C with
  |none=>cases h
  |some f=>
   simp only at h;cases hf:f {s.go (opB ere 40).length with opened:=s.opened+1}with
   |inl e=>rw[hf]at h;cases h
   |inr z=>
    obtain⟨t1,s1⟩:=z;rw[hf]at h;simp only at h;obtain⟨k,hm,hk⟩:=hC f rfl;have hk:=hk _ _ _ hf;split at h
    ·injection h with h;injection h with h1 h2;subst h1;subst h2;refine⟨?_,rfl⟩;show(Nd.group _ t1).wft m;rw[Nd.wft];exact⟨k,hm,hk⟩
    ·cases h
 ·split at h
  ·cases h
  ·split at h
   ·cases hp:prs l (s.at_+1)with
    |inl z=>rw[hp]at h;cases h
    |inr y=>
     rw[hp]at h;injection h with h;injection h with h2 h3;subst h2;subst h3;exact⟨by show(Nd.one y.1).wft m;rw[Nd.wft];exact(prs_in hp).1,rfl⟩
   ·split at h
    ·injection h with h;injection h with h2 h3;subst h2;subst h3;exact⟨by show(Nd.one _).wft m;rw[Nd.wft];exact fit_spn _ _,rfl⟩
    ·split at h
     ·cases h
     ·split at h
      ·cases h
      ·injection h with h;injection h with h2 h3;subst h2;subst h3;exact⟨by show(Nd.one _).wft m;rw[Nd.wft];exact fit_spn _ _,rfl⟩
      ·next b r e=>
       unfold escD at h;split at h
       ·next hb=>
        split at h
        ·next hc=>
         injection h with h;injection h with h2 h3;subst h2;subst h3;refine⟨?_,rfl⟩;show(Nd.back _).wft m;rw[Nd.wft];omega
        ·cases h
       ·split at h
        ·cases h
        ·next c m' he=>
         injection h with h;injection h with h2 h3;subst h2;subst h3;exact⟨by show(Nd.one _).wft m;rw[Nd.wft];exact escB_fit he,rfl⟩
theorem Ztm{inner:Bool}:∀(n:Nat) (first front:Bool) (s:RxS) (ps:List Nd) (t:Nd) (s':RxS),Zeq ps→Nd.wfts ps m→brD prg ere l C inner n first front s ps=.inr (t,s')→t.wft m∧t.brn
 |0,first,front,s,ps,t,s',hu,hk,h=>by
  rw[brD]at h;injection h with h;injection h with h1 h2;subst h1;subst h2;exact⟨joined_wft hu hk,joined_brn hu⟩
 |n+1,first,front,s,ps,t,s',hu,hk,h=>by
  rw[brD]at h;split at h
  ·injection h with h;injection h with h1 h2;subst h1;subst h2;exact⟨joined_wft hu hk,joined_brn hu⟩
  ·split at h
   ·exact Ztm n _ _ _ _ _ _ (hu.snoc rfl) (Nd.wfts_snoc (t:=.start) (by rw[Nd.wft];trivial) hk) h
   ·split at h
    ·exact Ztm n _ _ _ _ _ _ (hu.snoc rfl) (Nd.wfts_snoc (t:=.fin) (by rw[Nd.wft];trivial) hk) h
    ·split at h
     ·cases h
     ·split at h
      ·cases h
      ·next t1 s1 e1=>
       split at h
       ·cases h
       ·next t2 s2 e2=>
        obtain⟨a1,a2⟩:=ZuE hC e1;obtain⟨b1,b2⟩:=ZsZ _ _ _ _ _ a2 a1 e2;exact Ztm n _ _ _ _ _ _ (hu.snoc (ZtH b2)) (Nd.wfts_snoc b1 hk) h
theorem ZtI{inner:Bool}:∀(n:Nat) (s:RxS) (ts:List Nd) (t:Nd) (s':RxS),Zn3 ts→Nd.wfts ts m→Zar prg ere l C inner n s ts=.inr (t,s')→t.wft m
 |0,s,ts,t,s',hu,hk,h=>by
  rw[Zar]at h;injection h with h;injection h with h1 h2;subst h1;subst h2;exact chosen_wft hu hk
 |n+1,s,ts,t,s',hu,hk,h=>by
  rw[Zar]at h;split at h
  ·split at h
   ·cases h
   ·next t1 s1 e1=>
    obtain⟨a1,a2⟩:=Ztm hC _ _ _ _ _ _ _ (fun x hx=>by cases hx) (by rw[Nd.wfts];trivial) e1;exact ZtI n _ _ _ _ (hu.snoc a2) (Nd.wfts_snoc a1 hk) h
  ·injection h with h;injection h with h1 h2;subst h1;subst h2;exact chosen_wft hu hk
theorem choiceD_wft{inner:Bool}:Zwf m (choiceD prg ere l C inner):=by
 intro s t s' h;unfold choiceD at h;split at h
 ·cases h
 ·next t1 s1 e1=>
  obtain⟨a1,a2⟩:=Ztm hC _ _ _ _ _ _ _ (fun x hx=>by cases hx) (by rw[Nd.wfts];trivial) e1;exact ZtI hC _ _ _ _ _ (fun x hx=>by rw[List.mem_singleton.1 hx];exact a2) (by rw[Nd.wfts];exact⟨a1,by rw[Nd.wfts];trivial⟩) h
end
theorem ZuF{ere:Bool}{l:List UInt8}:∀n,Zwf n (chD prg ere l n)
 |0=>by rw[chD];exact choiceD_wft (fun f hf=>by cases hf)
 |n+1=>by rw[chD];exact choiceD_wft (fun f hf=>by injection hf with hf;subst hf;exact⟨n,rfl,ZuF n⟩)
theorem Zup{ere:Bool}{l:List UInt8}{t:Nd}{s:RxS}(h:Zac prg ere l=.inr (t,s)):t.wft 12:=by
 unfold Zac at h;split at h
 ·cases h
 ·exact ZuF 12 _ _ _ h
section
variable {l D x:List UInt8} {s:RxS}
end
open Go.Lib (hid)
theorem Zwx(d:Nat)(hd:d<10)(w:World):(Instr.slice 9 (.string ⟨#[48,49,50,51,52,53,54,55,56,57]⟩) (some (.int .i64 (d:Int))) (some (.int .i64 ((d:Int)+1))) none).run Tryz.prog w=.ok (.string ⟨#[UInt8.ofNat (48+d)]⟩) w:=by
 rcases(show d=0∨d=1∨d=2∨d=3∨d=4∨d=5∨d=6∨d=7∨d=8∨d=9 by omega)with rfl|rfl|rfl|rfl|rfl|rfl|rfl|rfl|rfl|rfl
 all_goals kernel_rfl
theorem ref_digits(n:Nat)(w:World)(hn:n≤100000):
 Calls Tryz.prog 73 #[.int .i64 (n:Int)] w fun e w'=>e=.returned (.string ⟨(Lib.decDigits n).toArray⟩)∧Fr nob w w':=by
 obtain⟨D,hD⟩:∃D,Lib.decDigits n=D:=⟨_,rfl⟩;have i:D.length≤6:=hD▸Zs4 n hn;rw[hD];go_enter Tryz.func73,Tryz.ntmps73;go_wp2_with fail
 go_loopw [0,3] (fun v0 v3 wr=>∃(m:Nat) (r:List UInt8),v0=.int .i64 (m:Int)∧v3=.string ⟨r.toArray⟩∧Lib.decDigits m++r=D∧m≤100000∧Fr nob w wr) (fun v0 _ _=>(intOf v0).toNat)
 case atStart=>exact⟨n,[],rfl,rfl,by rw[hD];simp,hn,Fr.refl _ _⟩
 case round=>
  obtain⟨m,r,rfl,rfl,hm,j,fr⟩:=hrel;have k:r.length≤6:=by have:=congrArg List.length hm;simp at this;omega
  have HM:=hid hm;have FR:=hid fr;clear hm fr;by_cases h:10≤m
  ·have q1:(10:Int)≤(m:Int):=by omega
   have hs:=fun w=>Zwx (m%10) (by omega) w;rw[show((m%10:Nat):Int)=(m:Int)%10 by omega]at hs;have a:Lib.decDigits m=Lib.decDigits (m/10)++[UInt8.ofNat (48+m%10)]:=by rw[Lib.decDigits,dif_neg (by omega)]
   obtain⟨c,hc⟩:∃c,UInt8.ofNat (48+m%10)=c:=⟨_,rfl⟩;rw[hc]at hs a;have d:Lib.decDigits (m/10)++(c::r)=D:=by rw[←HM.out,a];simp[List.append_assoc]
   have ar:∀w',(Op.stringOp .add ⟨#[c]⟩ ⟨r.toArray⟩).run Tryz.prog w'=.ok (.string ⟨(c::r).toArray⟩) w':=fun w'=>run_string_add_lists w' [c] r (by simp) (by omega);have b:(m:Int)/10=((m/10:Nat):Int):=by omega
   have g:=hid d;have f:=hid b;clear hc a d b;go_wp2;go_roundw
   case rel=>exact⟨m/10,c::r,by rw[←f.out],rfl,g.out,by omega,FR.out⟩
   case measure=>simp[intOf];omega
  ·have q1:¬(10:Int)≤(m:Int):=by omega
   have hs:=fun w=>Zwx m (by omega) w;have a:Lib.decDigits m=[UInt8.ofNat (48+m)]:=by rw[Lib.decDigits,dif_pos (by omega)]
   obtain⟨c,hc⟩:∃c,UInt8.ofNat (48+m)=c:=⟨_,rfl⟩;rw[hc]at hs a;have ar:∀w',(Op.stringOp .add ⟨#[c]⟩ ⟨r.toArray⟩).run Tryz.prog w'=.ok (.string ⟨D.toArray⟩) w':=fun w'=>by rw[←HM.out,a];exact run_string_add_lists w' [c] r (by simp) (by omega)
   clear hc a;go_wp2;go_ret;exact⟨rfl,FR.out⟩
theorem ZwD(mn mx:Int)(c:UInt8)(w:World)(hc:(mn=0∧mx= -1∧c=42)∨(mn=1∧mx= -1∧c=43)∨(mn=0∧mx=1∧c=63)):
 Calls Tryz.prog 107 #[.int .i64 mn,.int .i64 mx] w fun e w'=>e=.returned (.string ⟨[c].toArray⟩)∧Fr nob w w':=by
 rcases hc with⟨rfl,rfl,rfl⟩|⟨rfl,rfl,rfl⟩|⟨rfl,rfl,rfl⟩
 all_goals
  go_enter Tryz.func107,Tryz.ntmps107;go_wp2;go_ret;exact⟨rfl,Fr.refl _ _⟩
theorem ZwO(m:Nat)(mx:Int)(w:World)(hm:m≤255)(hx:mx= -1∨((m:Int)≤mx∧mx≤255))
 (h1:¬((m:Int)=0∧mx= -1)) (h2:¬((m:Int)=1∧mx= -1)) (h3:¬((m:Int)=0∧mx=1)) (hxm:mx=m):
 Calls Tryz.prog 107 #[.int .i64 (m:Int),.int .i64 mx] w fun e w'=>e=.returned (.string ⟨(ZsR m mx).toArray⟩)∧Fr nob w w':=by
 have a:ZsR m mx=[123]++Lib.decDigits m++[125]:=by
  unfold ZsR;rw[if_neg h1,if_neg h2,if_neg h3,if_pos hxm];simp
 have c:=Zs4 m (by omega);have HD:=hid (fun w'=>ref_digits m w' (by omega));obtain⟨D,hD⟩:∃D,Lib.decDigits m=D:=⟨_,rfl⟩;rw[hD]at HD c a;obtain⟨X,hX⟩:∃X,[123]++D=X:=⟨_,rfl⟩;have f:X.length≤7:=by rw[←hX];simp;omega
 have d:∀w',(Op.stringOp .add ⟨#[123]⟩ ⟨D.toArray⟩).run Tryz.prog w'=.ok (.string ⟨X.toArray⟩) w':=fun w'=>by rw[←hX];exact run_string_add_lists w' [123] D (by decide) (by omega)
 have b:∀w',(Op.stringOp .add ⟨X.toArray⟩ ⟨#[125]⟩).run Tryz.prog w'=.ok (.string ⟨(ZsR m mx).toArray⟩) w':=fun w'=>by rw[a,hX];exact run_string_add_lists w' X [125] (by omega) (by decide)
 obtain⟨T,hT⟩:∃T,ZsR m mx=T:=⟨_,rfl⟩;rw[hT]at b⊢;have t1:((m:Int)==0&&mx== -1)=false:=by rw[Bool.and_eq_false_iff];simp;omega
 have t2:((m:Int)==1&&mx== -1)=false:=by rw[Bool.and_eq_false_iff];simp;omega
 have t3:((m:Int)==0&&mx==1)=false:=by rw[Bool.and_eq_false_iff];simp;omega
 have t4:((m:Int)==mx)=true:=by simp[hxm]
 have e0:((m:Int)==0)=decide (m=0):=by rw[Bool.eq_iff_iff];simp
 have e1:(mx== -1)=false:=by simp;omega
 have e2:((m:Int)==0&&mx==1)=false:=t3;clear hD hX a hT hx h1 h2 h3 hxm t1 t2 t3;cases h0:decide (m=0)with
 |true=>
  rw[h0]at e0;have e3:(mx==1)=false:=by rw[e0]at e2;simpa using e2
  have e4:((m:Int)==1)=false:=by have:m=0:=by simpa using h0
                                 subst this;rfl
  clear h0 e2;go_enter Tryz.func107,Tryz.ntmps107;go_wp2_with fail;refine(HD.out _).mono ?_;rintro e w2 ⟨rfl,f2⟩;have F2:=hid f2;clear f2;go_wp2;go_ret;exact⟨rfl,F2.out⟩
 |false=>
  rw[h0]at e0;clear h0 e2;cases e4:((m:Int)==1)with
  |true=>
   go_enter Tryz.func107,Tryz.ntmps107;go_wp2_with fail;refine(HD.out _).mono ?_;rintro e w2 ⟨rfl,f2⟩;have F2:=hid f2;clear f2;go_wp2;go_ret;exact⟨rfl,F2.out⟩
  |false=>
   go_enter Tryz.func107,Tryz.ntmps107;go_wp2_with fail;refine(HD.out _).mono ?_;rintro e w2 ⟨rfl,f2⟩;have F2:=hid f2;clear f2;go_wp2;go_ret;exact⟨rfl,F2.out⟩
theorem ref_times_inf(m:Nat)(w:World)(hm:m≤255)(h2m:2≤m):
 Calls Tryz.prog 107 #[.int .i64 (m:Int),.int .i64 (-1)] w fun e w'=>e=.returned (.string ⟨(ZsR m (-1)).toArray⟩)∧Fr nob w w':=by
 have a:ZsR m (-1)=[123]++Lib.decDigits m++[44,125]:=by
  unfold ZsR;rw[if_neg (by omega),if_neg (by omega),if_neg (by omega),if_neg (by omega),if_pos rfl];simp
 have c:=Zs4 m (by omega);have HD:=hid (fun w'=>ref_digits m w' (by omega));obtain⟨D,hD⟩:∃D,Lib.decDigits m=D:=⟨_,rfl⟩;rw[hD]at HD c a;obtain⟨X,hX⟩:∃X,[123]++D=X:=⟨_,rfl⟩;have f:X.length≤7:=by rw[←hX];simp;omega
 have d:∀w',(Op.stringOp .add ⟨#[123]⟩ ⟨D.toArray⟩).run Tryz.prog w'=.ok (.string ⟨X.toArray⟩) w':=fun w'=>by rw[←hX];exact run_string_add_lists w' [123] D (by decide) (by omega)
 have b:∀w',(Op.stringOp .add ⟨X.toArray⟩ ⟨#[44,125]⟩).run Tryz.prog w'=.ok (.string ⟨(ZsR m (-1)).toArray⟩) w':=fun w'=>by rw[a,hX];exact run_string_add_lists w' X [44,125] (by omega) (by decide)
 obtain⟨T,hT⟩:∃T,ZsR m (-1)=T:=⟨_,rfl⟩;rw[hT]at b⊢;have e0:((m:Int)==0)=false:=by simp;omega
 have e1:((m:Int)==1)=false:=by simp;omega
 have e2:((m:Int)== -1)=false:=by simp
 clear hD hX a hT hm h2m;go_enter Tryz.func107,Tryz.ntmps107;go_wp2_with fail;refine(HD.out _).mono ?_;rintro e w2 ⟨rfl,f2⟩;have F2:=hid f2;clear f2;go_wp2;go_ret;exact⟨rfl,F2.out⟩
theorem ZwI(m x:Nat)(w:World)(hmx:m<x)(hx:x≤255)(h3:¬(m=0∧x=1)):
 Calls Tryz.prog 107 #[.int .i64 (m:Int),.int .i64 (x:Int)] w fun e w'=>e=.returned (.string ⟨(ZsR m x).toArray⟩)∧Fr nob w w':=by
 have a:ZsR m x=[123]++Lib.decDigits m++[44]++Lib.decDigits x++[125]:=by
  unfold ZsR;rw[if_neg (by omega),if_neg (by omega),if_neg (by omega),if_neg (by omega),if_neg (by omega)];simp
 have c:=Zs4 m (by omega);have d:=Zs4 x (by omega);have HD:=hid (fun w'=>ref_digits m w' (by omega));have HX:=hid (fun w'=>ref_digits x w' (by omega));obtain⟨D,hD⟩:∃D,Lib.decDigits m=D:=⟨_,rfl⟩;obtain⟨E,hE⟩:∃E,Lib.decDigits x=E:=⟨_,rfl⟩;rw[hD]at HD c a;rw[hE]at HX d a;obtain⟨X,hX⟩:∃X,[123]++D=X:=⟨_,rfl⟩;obtain⟨Y,hY⟩:∃Y,X++[44]=Y:=⟨_,rfl⟩;obtain⟨Z,hZ⟩:∃Z,Y++E=Z:=⟨_,rfl⟩;have i:X.length≤7:=by rw[←hX];simp;omega
 have j:Y.length≤8:=by rw[←hY];simp;omega
 have k:Z.length≤14:=by rw[←hZ];simp;omega
 have f:∀w',(Op.stringOp .add ⟨#[123]⟩ ⟨D.toArray⟩).run Tryz.prog w'=.ok (.string ⟨X.toArray⟩) w':=fun w'=>by rw[←hX];exact run_string_add_lists w' [123] D (by decide) (by omega)
 have g:∀w',(Op.stringOp .add ⟨X.toArray⟩ ⟨#[44]⟩).run Tryz.prog w'=.ok (.string ⟨Y.toArray⟩) w':=fun w'=>by rw[←hY];exact run_string_add_lists w' X [44] (by omega) (by decide)
 have h:∀w',(Op.stringOp .add ⟨Y.toArray⟩ ⟨E.toArray⟩).run Tryz.prog w'=.ok (.string ⟨Z.toArray⟩) w':=fun w'=>by rw[←hZ];exact run_string_add_lists w' Y E (by omega) (by omega)
 have b:∀w',(Op.stringOp .add ⟨Z.toArray⟩ ⟨#[125]⟩).run Tryz.prog w'=.ok (.string ⟨(ZsR m x).toArray⟩) w':=fun w'=>by rw[a,hX,hY,hZ];exact run_string_add_lists w' Z [125] (by omega) (by decide)
 obtain⟨T,hT⟩:∃T,ZsR m x=T:=⟨_,rfl⟩;rw[hT]at b⊢;have e1:((x:Int)== -1)=false:=by simp
 have e2:((m:Int)==(x:Int))=false:=by simp;omega
 cases h0:decide (m=0)with
 |true=>
  have e0:((m:Int)==0)=true:=by simp at h0;simp;omega
  have e3:((x:Int)==1)=false:=by simp at h0;simp;omega
  have e4:((m:Int)==1)=false:=by simp at h0;simp;omega
  clear h0 hD hE hX hY hZ a hT hmx hx h3;go_enter Tryz.func107,Tryz.ntmps107;go_wp2_with fail;refine(HD.out _).mono ?_;rintro e w2 ⟨rfl,f2⟩;have F2:=hid f2;clear f2;go_wp2_with fail;refine(HX.out _).mono ?_;rintro e w3 ⟨rfl,f3⟩;have F3:=hid (F2.out.trans' f3);clear f3;go_wp2;go_ret;exact⟨rfl,F3.out⟩
 |false=>
  have e0:((m:Int)==0)=false:=by simp at h0;simp;omega
  cases e4:((m:Int)==1)with
  |true=>
   clear h0 hD hE hX hY hZ a hT hmx hx h3;go_enter Tryz.func107,Tryz.ntmps107;go_wp2_with fail;refine(HD.out _).mono ?_;rintro e w2 ⟨rfl,f2⟩;have F2:=hid f2;clear f2;go_wp2_with fail;refine(HX.out _).mono ?_;rintro e w3 ⟨rfl,f3⟩;have F3:=hid (F2.out.trans' f3);clear f3;go_wp2;go_ret;exact⟨rfl,F3.out⟩
  |false=>
   clear h0 hD hE hX hY hZ a hT hmx hx h3;go_enter Tryz.func107,Tryz.ntmps107;go_wp2_with fail;refine(HD.out _).mono ?_;rintro e w2 ⟨rfl,f2⟩;have F2:=hid f2;clear f2;go_wp2_with fail;refine(HX.out _).mono ?_;rintro e w3 ⟨rfl,f3⟩;have F3:=hid (F2.out.trans' f3);clear f3;go_wp2;go_ret;exact⟨rfl,F3.out⟩
theorem ZwV(mn mx:Int)(w:World)(hr:repOk true mn mx=true):
 Calls Tryz.prog 107 #[.int .i64 mn,.int .i64 mx] w fun e w'=>e=.returned (.string ⟨(ZsR mn mx).toArray⟩)∧Fr nob w w':=by
 unfold repOk at hr;simp only[Bool.true_and,Bool.and_eq_true,Bool.or_eq_true,decide_eq_true_eq,beq_iff_eq]at hr;obtain⟨b,c,a⟩:=hr;obtain⟨m,rfl⟩:∃m:Nat,mn=m:=⟨mn.toNat,by omega⟩;by_cases h1:(m:Int)=0∧mx= -1
 ·have:=ZwD m mx 42 w (.inl ⟨h1.1,h1.2,rfl⟩);rwa[show ZsR m mx=[42] by unfold ZsR;rw[if_pos h1]]
 by_cases h2:(m:Int)=1∧mx= -1
 ·have:=ZwD m mx 43 w (.inr (.inl ⟨h2.1,h2.2,rfl⟩));rwa[show ZsR m mx=[43] by unfold ZsR;rw[if_neg h1,if_pos h2]]
 by_cases h3:(m:Int)=0∧mx=1
 ·have:=ZwD m mx 63 w (.inr (.inr ⟨h3.1,h3.2,rfl⟩));rwa[show ZsR m mx=[63] by unfold ZsR;rw[if_neg h1,if_neg h2,if_pos h3]]
 by_cases h4:mx=m
 ·exact ZwO m mx w (by omega) (by omega) h1 h2 h3 h4
 rcases a with rfl|a
 ·exact ref_times_inf m w (by omega) (by omega)
 ·obtain⟨x,rfl⟩:∃x:Nat,mx=x:=⟨mx.toNat,by omega⟩;exact ZwI m x w (by omega) (by omega) (by omega)
theorem ZxM(t:T)(cs:List Value)(w:World)(h:RT nob w t cs):
 ∃cs',RT nob w t.of cs'∧∀w',Fr nob w w'→Calls Tryz.prog 104 #[.agg cs.toArray] w' fun e w''=>e=.returned (.agg cs'.toArray)∧Fr nob w' w'':=by
 obtain⟨kd,s,ps,mn,mx,nu,a,c,rfl,rfl,hs⟩:=h.open';have H:=hid hs;clear h hs;cases ps with
 |nil=>
  refine⟨_,Zw0.2 ⟨_,rfl,.inl ⟨⟨none,0,rfl⟩,rfl⟩⟩,fun w' fw=> ?_⟩;go_enter Tryz.func104,Tryz.ntmps104;go_wp2;(try simp only[Exit.inBlock,Exit.then]);refine bodyPost_ret (results_T (k:=0) (s:=S4.zero) (v:=.slice none 0 0) (mn:=0) (mx:=0) (nu:=0) rfl rfl (Zg _ _ _ (by simp))) rfl ⟨rfl,((Fr.refl _ _).alloc _).alloc _⟩
 |cons x r=>
  obtain⟨g,off,p,cx,he,hx,hc,f⟩:=H.out.get (k:=0) (by simp);injection he with e1 e2 e3;subst e1;subst e3;have d:RT nob w x cx:=hx;obtain⟨k',s',n,j,l,m,a',c',u,rfl,i⟩:=d.open';simp only[Nat.zero_mul,Nat.add_zero]at hc;refine⟨_,d,fun w' fw=> ?_⟩;obtain⟨d0,d1,d2,d3,d4,d5,d6,d7,d8⟩:=(hc.fr fw (fun x=>x)).nine;have o:g<w'.heap.size:=Nat.lt_of_lt_of_le f fw.size;clear hx d i hc e2 f;obtain⟨len,b⟩:∃len,(x::r).length=len:=⟨_,rfl⟩;have q:0<len:=by rw[←b];simp
  rw[b];clear b;go_enter Tryz.func104,Tryz.ntmps104;go_wp2;(try simp only[Exit.inBlock,Exit.then]);refine bodyPost_ret (results_T (k:=k') (s:=s') (v:=.slice a' n.length c') (mn:=j) (mx:=l) (nu:=m) rfl rfl (Zg _ _ _ (by simp))) rfl ⟨rfl,((Fr.refl _ _).alloc _).alloc _⟩
theorem T.nd_of(t:T):t.of.nd=T.nd1 t.parts:=by
 cases t with
 |mk k s ps mn mx nu=>cases ps with
  |nil=>rfl
  |cons x r=>rfl
theorem Zxz(m:Nat):∀(t:T) (cs:List Value) (w:World),t.nd.size≤m→t.nd.size≤2000→t.nd.shw→RT nob w t cs→
 Calls Tryz.prog 75 #[.agg cs.toArray] w fun e w'=>e=.returned (.string ⟨t.nd.txt.toArray⟩)∧Fr nob w w':=by
 induction m with
 |zero=>intro t cs w h;have:=t.nd.size_pos;omega
 |succ m ih=>
  intro t cs w hm hb g h;obtain⟨c2,V,W⟩:=ZxM t cs w h;obtain⟨kd,s,ps,mn,mx,nu,a,c,ht,rfl,hs⟩:=h.open';subst ht;obtain⟨w1,U⟩:∃w1,w1=w.alloc (.cells #[.int .i64 kd,.int .u64 s.a,.int .u64 s.b,.int .u64 s.c,.int .u64 s.d,.slice a ps.length c,.int .i64 mn,.int .i64 mx,.int .i64 nu] 65):=⟨_,rfl⟩;have f1:Fr nob w w1:=by rw[U];exact(Fr.refl _ _).alloc _
  have a8:w1.heap[w.heap.size]? =some (.cells #[.int .i64 kd,.int .u64 s.a,.int .u64 s.b,.int .u64 s.c,.int .u64 s.d,.slice a ps.length c,.int .i64 mn,.int .i64 mx,.int .i64 nu] 65 (0,0)):=by rw[U];exact newAt _ _
  have F1:=hid f1;have u:=hid U;have l:=hid a8;have a6:=hid W;have R:=hid V;have IH:=hid ih;have HS:=hid hs;clear V W ih hs f1 U a8 h;by_cases k1:kd=1
  ·subst k1;have hn:(T.mk 1 s ps mn mx nu).nd=.one s:=by simp[T.nd]
   rw[hn]at g⊢;have a7:=hid (fun w'=>Zxv s w' g);have j:(Nd.one s).txt=setT s:=by rw[Nd.txt]
   rw[j];obtain⟨d0,d1,d2,d3,d4,_⟩:=C9.of l.out;clear hm hb hn g j;go_enter Tryz.func75,Tryz.ntmps75;go_wp2_with(rw[←u.out]);refine(a7.out _).mono ?_;rintro e w2 ⟨rfl,f2⟩;have F2:=hid f2;clear f2;go_wp2;go_ret;exact⟨rfl,F1.out.trans' F2.out⟩
  by_cases k2:kd=2
  ·subst k2;have hn:(T.mk 2 s ps mn mx nu).nd=.cat (T.nds ps):=by simp[T.nd]
   rw[hn]at g hm hb⊢;rw[Nd.shw]at g;have hm:Nd.sizes (T.nds ps)≤m:=by rw[Nd.size]at hm;omega
   have hb:Nd.sizes (T.nds ps)≤2000:=by rw[Nd.size]at hb;omega
   have j:(Nd.cat (T.nds ps)).txt=Nd.txts (T.nds ps):=by rw[Nd.txt]
   rw[j];have N:=T.nds_length ps;have b4:ps.length≤100000:=by have:=Nd.length_le (T.nds ps);omega
   have M:∀k,(Nd.txts ((T.nds ps).take k)).length≤6000000:=fun k=>by
    have h1:=Nd.txts_le _ (Nd.shws_take g k);have h2:=Nd.sizes_take_le (T.nds ps) k;omega
   have v:∀k (h:k<ps.length),ps[k].nd.size≤m∧ps[k].nd.size≤2000∧ps[k].nd.shw∧ps[k].nd∈T.nds ps:=fun k h=>by
    have p:ps[k].nd∈T.nds ps:=by rw[T.nds_eq];exact List.mem_map_of_mem (List.getElem_mem h)
    have:=Nd.kid_lt (n:=Nd.cat (T.nds ps)) p;rw[Nd.size]at this;exact⟨by omega,by omega,Nd.shws_mem g _ p,p⟩
   have P:∀k (h:k<ps.length),ps[k].nd.txt.length≤6000000:=fun k h=>by
    have:=Nd.txt_le _ (v k h).2.2.1;have:=(v k h).2.1;omega
   have O:∀k (h:k<ps.length),Nd.txts ((T.nds ps).take (k+1))=Nd.txts ((T.nds ps).take k)++ps[k].nd.txt:=fun k h=>by
    rw[Nd.txts_take (by omega)];simp[T.nds_eq]
   have z:Nd.txts ((T.nds ps).take ps.length)=Nd.txts (T.nds ps):=by rw[List.take_of_length_le (by omega)]
   have J:=hid M;have a0:=hid v;have a2:=hid P;have a1:=hid O;have I:=hid z;obtain⟨d0,d1,d2,d3,d4,d5,_⟩:=C9.of l.out;clear hn g j M N hm hb v P O z;go_enter Tryz.func75,Tryz.ntmps75;go_wp2_with(rw[←u.out])
   go_loopw [3,18] (fun s i wr=>∃(k:Nat),i=.int .i64 k∧k≤ps.length∧s=.string ⟨(Nd.txts ((T.nds ps).take k)).toArray⟩∧Fr nob w1 wr) (fun _ i _=>ps.length-(intOf i).toNat)
   case atStart=>exact⟨0,rfl,Nat.zero_le _,by rw[List.take_zero];rfl,Fr.refl _ _⟩
   case round=>
    obtain⟨k,rfl,hk,rfl,fr⟩:=hrel;have hA:=J.out k;have hB:=J.out (k+1);obtain⟨e0,e1,e2,e3,e4,e5,_⟩:=C9.of (fr.heap l.out (fun x=>x));have FR:=hid fr;clear fr d0 d1 d2 d3 d4 d5;by_cases y:k<ps.length
    ·obtain⟨q,off,b0,cx,he,hx,hc,b2⟩:=(HS.out.on (F1.out.trans' FR.out)).get y;injection he with he1 he2 he3;subst he1;subst he3;have hE:=a0.out k y;have hX:=a2.out k y;have hN:=a1.out k y;obtain⟨x,r⟩:∃x,ps[k]=x:=⟨_,rfl⟩;rw[r]at hx hE hX hN;obtain⟨k',s',b9,b6,b7,b8,a',c',a3,rfl,a5⟩:=hx.open';obtain⟨g0,g1,g2,g3,g4,g5,g6,g7,g8⟩:=hc.nine;obtain⟨A,K⟩:∃A,Nd.txts ((T.nds ps).take k)=A:=⟨_,rfl⟩;obtain⟨B,E⟩:∃B,Nd.txts ((T.nds ps).take (k+1))=B:=⟨_,rfl⟩;obtain⟨X,o⟩:∃X,x.nd.txt=X:=⟨_,rfl⟩;have H:=hid (IH.out x _ wr hE.1 hE.2.1 hE.2.2.1 hx);rw[o]at H hX hN;rw[K]at hA hN⊢;rw[E]at hB hN;have Q:=hid E;clear hE hx a5 a3 hc r K E o he2;have ar:∀w',(Op.stringOp .add ⟨A.toArray⟩ ⟨X.toArray⟩).run Tryz.prog w'=.ok (.string ⟨B.toArray⟩) w':=fun w'=>by rw[hN];exact run_string_add_lists w' A X (by omega) (by omega)
     clear hN;by_cases b3:(0:Int)<(k:Int)
     all_goals
      go_wp2_with fail;refine H.out.mono ?_;rintro e w2 ⟨rfl,f2⟩;have F2:=hid f2;clear f2;go_wp2;go_roundw
      case rel=>exact⟨k+1,by go_num,by omega,by rw[Q.out],FR.out.trans' F2.out⟩
      case measure=>simp[intOf];omega
    ·obtain rfl:k=ps.length:=by omega
     go_wp2;go_ret;exact⟨by rw[I.out];rfl,F1.out.trans' FR.out⟩
  by_cases k3:kd=3
  ·subst k3;have hn:(T.mk 3 s ps mn mx nu).nd=.alt (T.nds ps):=by simp[T.nd]
   rw[hn]at g hm hb⊢;rw[Nd.shw]at g;have hm:Nd.sizes (T.nds ps)≤m:=by rw[Nd.size]at hm;omega
   have hb:Nd.sizes (T.nds ps)≤2000:=by rw[Nd.size]at hb;omega
   have j:(Nd.alt (T.nds ps)).txt=Nd.txta (T.nds ps):=by rw[Nd.txt]
   rw[j];have N:=T.nds_length ps;have b4:ps.length≤100000:=by have:=Nd.length_le (T.nds ps);omega
   have M:∀k,(Nd.txta ((T.nds ps).take k)).length≤6000000:=fun k=>by
    have h1:=Nd.txta_le _ (Nd.shws_take g k);have h2:=Nd.sizes_take_le (T.nds ps) k;omega
   have v:∀k (h:k<ps.length),ps[k].nd.size≤m∧ps[k].nd.size≤2000∧ps[k].nd.shw∧ps[k].nd∈T.nds ps:=fun k h=>by
    have p:ps[k].nd∈T.nds ps:=by rw[T.nds_eq];exact List.mem_map_of_mem (List.getElem_mem h)
    have:=Nd.kid_lt (n:=Nd.cat (T.nds ps)) p;rw[Nd.size]at this;exact⟨by omega,by omega,Nd.shws_mem g _ p,p⟩
   have P:∀k (h:k<ps.length),ps[k].nd.txt.length≤6000000:=fun k h=>by
    have:=Nd.txt_le _ (v k h).2.2.1;have:=(v k h).2.1;omega
   have O:∀k (h:k<ps.length),Nd.txta ((T.nds ps).take (k+1))=Nd.txta ((T.nds ps).take k)++((if k=0 then[]else[124])++ps[k].nd.txt):=fun k h=>by
    rw[Nd.txta_take (by omega)];simp[T.nds_eq]
   have z:Nd.txta ((T.nds ps).take ps.length)=Nd.txta (T.nds ps):=by rw[List.take_of_length_le (by omega)]
   have J:=hid M;have a0:=hid v;have a2:=hid P;have a1:=hid O;have I:=hid z;obtain⟨d0,d1,d2,d3,d4,d5,_⟩:=C9.of l.out;clear hn g j M N hm hb v P O z;go_enter Tryz.func75,Tryz.ntmps75;go_wp2_with(rw[←u.out])
   go_loopw [3,18] (fun s i wr=>∃(k:Nat),i=.int .i64 k∧k≤ps.length∧s=.string ⟨(Nd.txta ((T.nds ps).take k)).toArray⟩∧Fr nob w1 wr) (fun _ i _=>ps.length-(intOf i).toNat)
   case atStart=>exact⟨0,rfl,Nat.zero_le _,by rw[List.take_zero];rfl,Fr.refl _ _⟩
   case round=>
    obtain⟨k,rfl,hk,rfl,fr⟩:=hrel;have hA:=J.out k;have hB:=J.out (k+1);obtain⟨e0,e1,e2,e3,e4,e5,_⟩:=C9.of (fr.heap l.out (fun x=>x));have FR:=hid fr;clear fr d0 d1 d2 d3 d4 d5;by_cases y:k<ps.length
    ·obtain⟨q,off,b0,cx,he,hx,hc,b2⟩:=(HS.out.on (F1.out.trans' FR.out)).get y;injection he with he1 he2 he3;subst he1;subst he3;have hE:=a0.out k y;have hX:=a2.out k y;have hN:=a1.out k y;obtain⟨x,r⟩:∃x,ps[k]=x:=⟨_,rfl⟩;rw[r]at hx hE hX hN;obtain⟨k',s',b9,b6,b7,b8,a',c',a3,rfl,a5⟩:=hx.open';obtain⟨g0,g1,g2,g3,g4,g5,g6,g7,g8⟩:=hc.nine;obtain⟨A,K⟩:∃A,Nd.txta ((T.nds ps).take k)=A:=⟨_,rfl⟩;obtain⟨B,E⟩:∃B,Nd.txta ((T.nds ps).take (k+1))=B:=⟨_,rfl⟩;obtain⟨X,o⟩:∃X,x.nd.txt=X:=⟨_,rfl⟩;have H:=hid (IH.out x _ wr hE.1 hE.2.1 hE.2.2.1 hx);rw[o]at H hX hN;rw[K]at hA hN⊢;rw[E]at hB hN;have Q:=hid E;clear hE hx a5 a3 hc r K E o he2;by_cases b3:(0:Int)<(k:Int)
     ·obtain⟨C,S⟩:∃C,A++[124]=C:=⟨_,rfl⟩;have c0:C.length≤6000001:=by rw[←S];simp;omega
      rw[if_neg (by omega),←List.append_assoc,S]at hN;have a9:∀w',(Op.stringOp .add ⟨A.toArray⟩ ⟨#[124]⟩).run Tryz.prog w'=.ok (.string ⟨C.toArray⟩) w':=fun w'=>by rw[←S];exact run_string_add_lists w' A [124] (by omega) (by decide)
      have ar:∀w',(Op.stringOp .add ⟨C.toArray⟩ ⟨X.toArray⟩).run Tryz.prog w'=.ok (.string ⟨B.toArray⟩) w':=fun w'=>by rw[hN];exact run_string_add_lists w' C X (by omega) (by omega)
      clear hN S;go_wp2_with fail;refine H.out.mono ?_;rintro e w2 ⟨rfl,f2⟩;have F2:=hid f2;clear f2;go_wp2;go_roundw
      case rel=>exact⟨k+1,by go_num,by omega,by rw[Q.out],FR.out.trans' F2.out⟩
      case measure=>simp[intOf];omega
     ·rw[if_pos (by omega),List.nil_append]at hN;have ar:∀w',(Op.stringOp .add ⟨A.toArray⟩ ⟨X.toArray⟩).run Tryz.prog w'=.ok (.string ⟨B.toArray⟩) w':=fun w'=>by rw[hN];exact run_string_add_lists w' A X (by omega) (by omega)
      clear hN;go_wp2_with fail;refine H.out.mono ?_;rintro e w2 ⟨rfl,f2⟩;have F2:=hid f2;clear f2;go_wp2;go_roundw
      case rel=>exact⟨k+1,by go_num,by omega,by rw[Q.out],FR.out.trans' F2.out⟩
      case measure=>simp[intOf];omega
    ·obtain rfl:k=ps.length:=by omega
     go_wp2;go_ret;exact⟨by rw[I.out];rfl,F1.out.trans' FR.out⟩
  by_cases k4:kd=4
  ·subst k4;have hn:(T.mk 4 s ps mn mx nu).nd=.rep (T.nd1 ps) mn mx:=by simp[T.nd]
   have G:=T.nd_of (T.mk 4 s ps mn mx nu);rw[show T.parts (T.mk 4 s ps mn mx nu)=ps from rfl]at G;rw[hn]at g hm hb⊢;rw[Nd.shw]at g;rw[Nd.size]at hm hb;rw[←G]at g hm hb⊢;have j:(Nd.rep (T.of (T.mk 4 s ps mn mx nu)).nd mn mx).txt=(T.of (T.mk 4 s ps mn mx nu)).nd.txt++ZsR mn mx:=by rw[Nd.txt]
   rw[j];obtain⟨x,r⟩:∃x,T.of (T.mk 4 s ps mn mx nu)=x:=⟨_,rfl⟩;rw[r]at g hm hb R⊢;have a4:=Nd.txt_le _ g.1;have b5:=timesT_le g.2;have HE:=hid (fun w' (f:Fr nob w w')=>IH.out x _ w' (by omega) (by omega) g.1 (R.out.on f));have HT:=hid (fun w'=>ZwV mn mx w' g.2);obtain⟨X,o⟩:∃X,x.nd.txt=X:=⟨_,rfl⟩;obtain⟨Y,F⟩:∃Y,ZsR mn mx=Y:=⟨_,rfl⟩;rw[o]at HE a4⊢;rw[F]at HT b5⊢;have ar:∀w',(Op.stringOp .add ⟨X.toArray⟩ ⟨Y.toArray⟩).run Tryz.prog w'=.ok (.string ⟨(X++Y).toArray⟩) w':=fun w'=>run_string_add_lists w' X Y (by omega) (by omega);obtain⟨Z,L⟩:∃Z,X++Y=Z:=⟨_,rfl⟩;rw[L]at ar⊢;obtain⟨d0,d1,d2,d3,d4,d5,d6,d7,d8⟩:=C9.of l.out;have e0:=Zud d0;have e1:=Zud d1;have e2:=Zud d2;have e3:=Zud d3;have e4:=Zud d4;have e5:=Zud d5;have e6:=Zud d6;have e7:=Zud d7;have e8:=Zud d8;clear hn G g hm hb j r o F L
   go_enter Tryz.func75,Tryz.ntmps75;go_wp2_with(rw[←u.out]);refine region_fr 7 (by kernel_rfl) (by kernel_rfl) ?_;simp only[List.take_succ_cons,List.take_zero,List.drop_succ_cons,List.drop_zero]
   repeat(quiet_step (first|(with_reducible exact calls_fr (a6.out _ (Fr.trans' F1.out (grown_fr _ _ _))))|(with_reducible exact calls_fr (HE.out _ (Fr.trans' F1.out (grown_fr _ _ _))))))
   refine wpQuiet_nil ?_;intro w3 f3;have F3:=hid (F1.out.trans' f3);clear f3 e0 e1 e2 e3 e4 e5 e6 e7 e8;go_wp2_with fail;refine(HT.out _).mono ?_;rintro e w4 ⟨rfl,f4⟩;have F4:=hid (F3.out.trans' f4);clear f4;go_wp2;go_ret;exact⟨rfl,F4.out⟩
  by_cases k5:kd=5
  ·subst k5;have hn:(T.mk 5 s ps mn mx nu).nd=.group nu (T.nd1 ps):=by simp[T.nd]
   have G:=T.nd_of (T.mk 5 s ps mn mx nu);rw[show T.parts (T.mk 5 s ps mn mx nu)=ps from rfl]at G;rw[hn]at g hm hb⊢;rw[Nd.shw]at g;rw[Nd.size]at hm hb;rw[←G]at g hm hb⊢;have j:(Nd.group nu (T.of (T.mk 5 s ps mn mx nu)).nd).txt=[40]++((T.of (T.mk 5 s ps mn mx nu)).nd.txt++[41]):=by rw[Nd.txt]
   rw[j];obtain⟨x,r⟩:∃x,T.of (T.mk 5 s ps mn mx nu)=x:=⟨_,rfl⟩;rw[r]at g hm hb R⊢;have a4:=Nd.txt_le _ g;have HE:=hid (fun w' (f:Fr nob w w')=>IH.out x _ w' (by omega) (by omega) g (R.out.on f));obtain⟨X,o⟩:∃X,x.nd.txt=X:=⟨_,rfl⟩;rw[o]at HE a4⊢;obtain⟨Y,F⟩:∃Y,[40]++X=Y:=⟨_,rfl⟩;have c1:Y.length≤6000001:=by rw[←F];simp;omega
   have a9:∀w',(Op.stringOp .add ⟨#[40]⟩ ⟨X.toArray⟩).run Tryz.prog w'=.ok (.string ⟨Y.toArray⟩) w':=fun w'=>by rw[←F];exact run_string_add_lists w' [40] X (by decide) (by omega)
   rw[←List.append_assoc,F];have ar:∀w',(Op.stringOp .add ⟨Y.toArray⟩ ⟨#[41]⟩).run Tryz.prog w'=.ok (.string ⟨(Y++[41]).toArray⟩) w':=fun w'=>run_string_add_lists w' Y [41] (by omega) (by decide);obtain⟨Z,L⟩:∃Z,Y++[41]=Z:=⟨_,rfl⟩;rw[L]at ar⊢;obtain⟨d0,d1,d2,d3,d4,d5,d6,d7,d8⟩:=C9.of l.out;clear hn G g hm hb j r o F L;go_enter Tryz.func75,Tryz.ntmps75;go_wp2_with(rw[←u.out]);refine(a6.out _ F1.out).mono ?_;rintro e w2 ⟨rfl,f2⟩;have F2:=hid (F1.out.trans' f2);clear f2 d0 d1 d2 d3 d4 d5 d6 d7 d8;go_wp2_with fail;refine(HE.out _ F2.out).mono ?_;rintro e w3 ⟨rfl,f3⟩;have F3:=hid (F2.out.trans' f3);clear f3;go_wp2;go_ret;exact⟨rfl,F3.out⟩
  by_cases k6:kd=6
  ·subst k6;have hn:(T.mk 6 s ps mn mx nu).nd=.back nu:=by simp[T.nd]
   rw[hn]at g⊢;rw[Nd.shw]at g;obtain⟨n,rfl⟩:∃n:Nat,nu=n:=⟨nu.toNat,by omega⟩;have j:(Nd.back (n:Int)).txt=[92]++Lib.decDigits n:=by rw[Nd.txt,Int.toNat_natCast]
   rw[j];have HD:=hid (fun w'=>ref_digits n w' (by omega));have b1:=Zs4 n (by omega);obtain⟨D,hD⟩:∃D,Lib.decDigits n=D:=⟨_,rfl⟩;rw[hD]at HD b1⊢;have ar:∀w',(Op.stringOp .add ⟨#[92]⟩ ⟨D.toArray⟩).run Tryz.prog w'=.ok (.string ⟨([92]++D).toArray⟩) w':=fun w'=>run_string_add_lists w' [92] D (by decide) (by omega);obtain⟨d0,d1,d2,d3,d4,d5,d6,d7,d8⟩:=C9.of l.out;clear hn g j hm hb hD;go_enter Tryz.func75,Tryz.ntmps75;go_wp2_with(rw[←u.out]);refine(HD.out _).mono ?_;rintro e w2 ⟨rfl,f2⟩;have F2:=hid (F1.out.trans' f2);clear f2 d0 d1 d2 d3 d4 d5 d6 d7 d8;go_wp2;go_ret;exact⟨rfl,F2.out⟩
  by_cases k7:kd=7
  ·subst k7;have hn:(T.mk 7 s ps mn mx nu).nd.txt=[94]:=by simp[T.nd,Nd.txt]
   rw[hn];obtain⟨d0,_⟩:=C9.of l.out;clear hn g hm hb;go_enter Tryz.func75,Tryz.ntmps75;go_wp2_with(rw[←u.out]);go_ret;exact⟨rfl,F1.out⟩
  by_cases k8:kd=8
  ·subst k8;have hn:(T.mk 8 s ps mn mx nu).nd.txt=[36]:=by simp[T.nd,Nd.txt]
   rw[hn];obtain⟨d0,_⟩:=C9.of l.out;clear hn g hm hb;go_enter Tryz.func75,Tryz.ntmps75;go_wp2_with(rw[←u.out]);go_ret;exact⟨rfl,F1.out⟩
  have hn:(T.mk kd s ps mn mx nu).nd.txt=[]:=by simp[T.nd,k1,k2,k3,k4,k5,k6,k7,k8,Nd.txt]
  rw[hn];obtain⟨d0,_⟩:=C9.of l.out;clear hn g hm hb;go_enter Tryz.func75,Tryz.ntmps75;go_wp2_with(rw[←u.out]);go_ret;exact⟨rfl,F1.out⟩
theorem ZxA(t:T)(cs:List Value)(w:World)(hb:t.nd.size≤2000)(hk:t.known=true)(hsh:t.nd.right=true→t.nd.shw)(h:RT nob w t cs):
 Calls Tryz.prog 47 #[.agg cs.toArray] w fun e w'=>e=.returned (.string ⟨(if t.nd.right then t.nd.txt else[]).toArray⟩)∧Fr nob w w':=by
 obtain⟨kd,s,ps,mn,mx,nu,a,c,ht,rfl,hs⟩:=h.open';obtain⟨w1,g⟩:∃w1,w1=w.alloc (.cells #[.int .i64 kd,.int .u64 s.a,.int .u64 s.b,.int .u64 s.c,.int .u64 s.d,.slice a ps.length c,.int .i64 mn,.int .i64 mx,.int .i64 nu] 65):=⟨_,rfl⟩;have f1:Fr nob w w1:=by rw[g];exact(Fr.refl _ _).alloc _
 have i:w1.heap[w.heap.size]? =some (.cells #[.int .i64 kd,.int .u64 s.a,.int .u64 s.b,.int .u64 s.c,.int .u64 s.d,.slice a ps.length c,.int .i64 mn,.int .i64 mx,.int .i64 nu] 65 (0,0)):=by rw[g];exact newAt _ _
 have F1:=hid f1;have j:=hid g;have k:=hid i;have HR:=hid (ZwX t _ w1 (by omega) hk (h.on f1));have HE:=hid (fun(hr:t.nd.right=true) w' (f:Fr nob w w')=>Zxz t.nd.size t _ w' (Nat.le_refl _) hb (hsh hr) (h.on f));obtain⟨d0,d1,d2,d3,d4,d5,d6,d7,d8⟩:=C9.of i;clear ht hs h hk hb f1 g i hsh;cases hr:t.nd.right with
 |false=>
  rw[hr]at HR;rw[if_neg (by decide)];clear HE hr;go_enter Tryz.func47,Tryz.ntmps47;go_wp2_with(rw[←j.out]);refine HR.out.mono ?_;rintro e w2 ⟨rfl,f2⟩;have F2:=hid (F1.out.trans' f2);clear f2;go_wp2;go_ret;exact⟨rfl,F2.out⟩
 |true=>
  have l:=hid (HE.out hr);rw[hr]at HR;rw[if_pos rfl];clear HE hr;go_enter Tryz.func47,Tryz.ntmps47;go_wp2_with(rw[←j.out]);refine HR.out.mono ?_;rintro e w2 ⟨rfl,f2⟩;obtain⟨e0,e1,e2,e3,e4,e5,e6,e7,e8⟩:=C9.of (f2.heap k.out (fun x=>x));have F2:=hid (F1.out.trans' f2);clear f2 d0 d1 d2 d3 d4 d5 d6 d7 d8;go_wp2_with fail;refine(l.out _ F2.out).mono ?_;rintro e w3 ⟨rfl,f3⟩;have F3:=hid (F2.out.trans' f3);clear f3;go_wp2;go_ret;exact⟨rfl,F3.out⟩
theorem S4.wf_fit{s:S4}(h:s.wf):s.fit:=⟨ZjN h.1,ZjN h.2.1,ZjN h.2.2.1,ZjN h.2.2.2⟩
mutual
theorem T.wf_fits:∀t:T,t.wf→t.nd.fits
 | .mk k s ps mn mx nu,h=>by
   rw[T.wf]at h;have h1:=T.wfs_fits ps h.2.2.2.2.2;have h2:=T.wf1_fits ps h.2.2.2.2.2;have h3:=S4.wf_fit h.1;simp only[T.nd]
   repeat' split
   all_goals first
    |exact h3
    |exact h1
    |exact h2
    |trivial
theorem T.wfs_fits:∀l:List T,T.wfs l→Nd.fitss (T.nds l)
 |[],_=>trivial
 |t::ts,h=>⟨T.wf_fits t h.1,T.wfs_fits ts h.2⟩
theorem T.wf1_fits:∀l:List T,T.wfs l→(T.nd1 l).fits
 |[],_=>trivial
 |t::_,h=>T.wf_fits t h.1
end
theorem T.few_shw{t:T}(h:t.few 60=true)(hw:t.wf):t.nd.size≤120∧t.known=true∧(t.nd.right=true→t.nd.shw):=by
 unfold T.few at h;simp only[Bool.and_eq_true,decide_eq_true_eq]at h;have hz:=T.nd_size t;exact⟨by omega,h.2,fun hr=>Nd.right_shw hr (by omega) (T.wf_fits t hw)⟩
end Go.Proofs.YtkfddjopbocpkaaGreatDoor
