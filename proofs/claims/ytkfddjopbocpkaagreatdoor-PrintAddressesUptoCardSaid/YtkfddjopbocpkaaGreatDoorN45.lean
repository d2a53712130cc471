/- Lemmas of this claim. -/
import Derived.Test.YtkfddjopbocpkaaGreatDoorN43
import Derived.Test.YtkfddjopbocpkaaGreatDoorN44
set_option linter.unusedVariables false
set_option linter.unusedSimpArgs false
set_option maxRecDepth 100000
set_option maxHeartbeats 4000000
namespace Go.Proofs.YtkfddjopbocpkaaGreatDoor
open Go.Lib (hid)
open Go.RowKit
theorem Zta{x:Bool}{l:List UInt8}{a:ScV}{ms:List (Nat×List UInt8)}(h:ZdO x l=.inr (a,ms))(q:Bool)(cv:Value)(w:World)(hE:Env w)(hP:P10 w)(hv:Zdw nob w a.cmds cv):
 Calls Tryz.prog 27 #[.agg #[.bool q,cv]] w fun e w'=>e=.returned (.string ⟨(Zu8 q a.cmds).toArray⟩)∧Fr nob w w':=by
 obtain⟨b1,b2,b3⟩:=scrS_b h;refine ZuM q a.cmds cv w hE hP (Zwg w) (fun c hc=>(b1 c hc).ok b3) (by omega) (fun k=> ?_) hv;have h1:=ZtV b3 (cs:=a.cmds.take k) (fun c hc=>b1 c (List.mem_of_mem_take hc));have h2:(a.cmds.take k).length≤100:=by rw[List.length_take];omega
 omega
def Zwl(R:ZqB):Option (List UInt8):=match R with
 | .inl _=>none
 | .inr (a,_)=>some (Zu8 a.quiet a.cmds)
theorem Zv5:Zwl (ZdO false [115,44,97,92,124,98,44,91,38,93,44,103])=some [115,47,97,124,98,47,91,38,93,47,103,10]:=by decide +kernel
theorem ZsY(w:World)(hE:Env w)(hP:P10 w):Calls Tryz.prog 21 #[] w fun e w'=>e=.returned (.bool true)∧Fr nob w w':=by
 have h1:=ZbE [115,44,97,92,124,98,44,91,38,93,44,103] ⟨⟩ w (by decide) hE;cases hS:ZdO false [115,44,97,92,124,98,44,91,38,93,44,103]with
 |inl z=>exact absurd Zv5 (by rw[hS];intro h;cases h)
 |inr z=>
 obtain⟨a,ms⟩:=z;have hT:Zu8 a.quiet a.cmds=[115,47,97,124,98,47,91,38,93,47,103,10]:=by
  have h:=Zv5;rw[hS]at h;exact Option.some.inj h
 rw[hS]at h1;have hp:=fun(cv:Value) (w':World) (f:Fr nob w w') (hv:Zdw nob w' a.cmds cv)=>Zta hS a.quiet cv w' (hE.on f) (hP.on f) hv;rw[hT]at hp;have HP:=hid hp;have H1:=hid h1;obtain⟨aq,ac⟩:=a;simp only at HP H1;clear h1 hE hP hS hT hp;go_enter Tryz.func21,Tryz.ntmps21;go_wp2_with fail;refine H1.out.mono ?_;rintro e w4 ⟨f4,cv,mv,rfl,c,g⟩;simp only at c;obtain⟨va,vc,rfl⟩:=c.shape;obtain⟨ma,mc,rfl⟩:=Zb g;obtain⟨b,f5,_⟩:=ZaM w4 zS2 #[.bool aq,.slice va ac.length vc] 50;obtain⟨w5,d⟩:∃w5,w5=(w4.alloc (.cells zS2 50)).setRow w4.heap.size #[.bool aq,.slice va ac.length vc]:=⟨_,rfl⟩;rw[←d]at f5 b;have HL:=hid (HP.out _ w5 (f4.trans' f5) (c.on f5));have k:=Zay (cell_at (j:=0) b rfl);have l:=Zay (cell_at (j:=1) b rfl);have i:=hid d;have F5:=hid (f4.trans' f5);clear d f4 f5 b c g;go_wp2_with(first|refine wpList_store_row rfl 50 _ _ rfl w4.heap.size #[.bool aq,.slice va ac.length vc] rfl rfl 50 _ (newAt _ _) (ZwW _ _) rfl (ZiR _ _ _ _) ?_|rw[←i.out])
 refine HL.out.mono ?_;rintro e w6 ⟨rfl,f6⟩;go_wp2;go_ret;exact⟨rfl,F5.out.trans' f6⟩
theorem ZwC(n:Nat)(w:World)(hn:n≤9223372036854775807):
 Calls Tryz.prog 73 #[.int .i64 (n:Int)] w fun e w'=>e=.returned (.string ⟨(Lib.decDigits n).toArray⟩)∧Fr nob w w':=by
 obtain⟨D,hD⟩:∃D,Lib.decDigits n=D:=⟨_,rfl⟩;have i:D.length≤19:=hD▸ZtT 18 n (Nat.lt_of_le_of_lt hn (by decide));rw[hD];go_enter Tryz.func73,Tryz.ntmps73;go_wp2_with fail
 go_loopw [0,3] (fun v0 v3 wr=>∃(m:Nat) (r:List UInt8),v0=.int .i64 (m:Int)∧v3=.string ⟨r.toArray⟩∧Lib.decDigits m++r=D∧m≤9223372036854775807∧Fr nob w wr) (fun v0 _ _=>(intOf v0).toNat)
 case atStart=>exact⟨n,[],rfl,rfl,by rw[hD];simp,hn,Fr.refl _ _⟩
 case round=>
  obtain⟨m,r,rfl,rfl,hm,j,fr⟩:=hrel;have k:r.length≤19:=by have:=congrArg List.length hm;simp at this;omega
  have HM:=hid hm;have FR:=hid fr;clear hm fr;by_cases h:10≤m
  ·have q1:(10:Int)≤(m:Int):=by omega
   have hs:=fun w=>Zwx (m%10) (by omega) w;rw[show((m%10:Nat):Int)=(m:Int)%10 by omega]at hs;have a:Lib.decDigits m=Lib.decDigits (m/10)++[UInt8.ofNat (48+m%10)]:=by rw[Lib.decDigits,dif_neg (by omega)]
   obtain⟨c,hc⟩:∃c,UInt8.ofNat (48+m%10)=c:=⟨_,rfl⟩;rw[hc]at hs a;have d:Lib.decDigits (m/10)++(c::r)=D:=by rw[←HM.out,a];simp[List.append_assoc]
   have ar:∀w',(Op.stringOp .add ⟨#[c]⟩ ⟨r.toArray⟩).run Tryz.prog w'=.ok (.string ⟨(c::r).toArray⟩) w':=fun w'=>run_string_add_lists w' [c] r (by simp) (by omega);have b:(m:Int)/10=((m/10:Nat):Int):=by omega
   have g:=hid d;have f:=hid b;clear hc a d b;go_wp2;go_roundw
   case rel=>exact⟨m/10,c::r,by rw[←f.out],rfl,g.out,by omega,FR.out⟩
   case measure=>simp[intOf];omega
  ·have q1:¬(10:Int)≤(m:Int):=by omega
   have hs:=fun w=>Zwx m (by omega) w;have a:Lib.decDigits m=[UInt8.ofNat (48+m)]:=by rw[Lib.decDigits,dif_pos (by omega)]
   obtain⟨c,hc⟩:∃c,UInt8.ofNat (48+m)=c:=⟨_,rfl⟩;rw[hc]at hs a;have ar:∀w',(Op.stringOp .add ⟨#[c]⟩ ⟨r.toArray⟩).run Tryz.prog w'=.ok (.string ⟨D.toArray⟩) w':=fun w'=>by rw[←HM.out,a];exact run_string_add_lists w' [c] r (by simp) (by omega)
   clear hc a;go_wp2;go_ret;exact⟨rfl,FR.out⟩
theorem ZxB(m:Nat):Int.tdiv (-(m:Int)) 10= -((m/10:Nat):Int):=by rw[Int.neg_tdiv];simp
theorem ZxC(m:Nat):Int.tmod (-(m:Int)) 10= -((m%10:Nat):Int):=by rw[Int.neg_tmod,Int.tmod_eq_emod_of_nonneg (by omega)];simp
theorem ZxD:∀(m:Nat) (w:World),1≤m→m≤9223372036854775808→
 Calls Tryz.prog 46 #[.int .i64 (-(m:Int))] w fun e w'=>e=.returned (.string ⟨(45::Lib.decDigits m).toArray⟩)∧Fr nob w w':=by
 intro m;induction m using Nat.strongRecOn with
 |_ m ih=>
  intro w h1 h2;have hq:=ZxB m;have hr:=ZxC m;have g: -(m:Int)<0:=by omega
  have f: -9223372036854775808≤ -(m:Int):=by omega
  by_cases d:m<10
  ·have hd:Lib.decDigits m=[UInt8.ofNat (48+m)]:=by rw[Lib.decDigits,dif_pos d]
   have HD:=hid (fun w'=>ZwC m w' (by omega));obtain⟨c,hc⟩:∃c,UInt8.ofNat (48+m)=c:=⟨_,rfl⟩;rw[hd,hc]at HD;rw[hd,hc];have h:Int.tdiv (-(m:Int)) 10=0:=by rw[hq];omega
   clear hq hr hd hc ih;go_enter Tryz.func46,Tryz.ntmps46;go_wp2_with fail;refine(HD.out _).mono ?_;rintro e w1 ⟨rfl,f1⟩;go_wp2;go_ret;exact⟨rfl,f1⟩
  ·have HR:=hid (fun w'=>ih (m/10) (by omega) w' (by omega) (by omega));have HD:=hid (fun w'=>ZwC (m%10) w' (by omega));have a:Lib.decDigits m=Lib.decDigits (m/10)++[UInt8.ofNat (48+m%10)]:=by rw[Lib.decDigits,dif_neg (by omega)]
   have b:Lib.decDigits (m%10)=[UInt8.ofNat (48+m%10)]:=by rw[Lib.decDigits,dif_pos (by omega)]
   have hl:=ZtT 18 (m/10) (Nat.lt_of_lt_of_le (by omega:m/10<1000000000000000000) (by decide));obtain⟨c,hc⟩:∃c,UInt8.ofNat (48+m%10)=c:=⟨_,rfl⟩;obtain⟨D,hD⟩:∃D,Lib.decDigits (m/10)=D:=⟨_,rfl⟩;rw[hD]at HR a hl;rw[b,hc]at HD;rw[hc]at a;rw[a];have i:(-((m:Int)/10)==0)=false:=by rw[beq_eq_false_iff_ne];omega
   rw[show -((m/10:Nat):Int)= -((m:Int)/10) by omega]at HR;rw[show((m%10:Nat):Int)=(m:Int)%10 by omega]at HD;have b3:(m:Int)/10≤922337203685477580:=by omega
   have b4:0≤(m:Int)/10:=by omega
   have b5:(m:Int)%10≤9:=by omega
   have b6:0≤(m:Int)%10:=by omega
   clear ih a b hc hD hq hr;go_enter Tryz.func46,Tryz.ntmps46;go_wp2_with fail;refine(HR.out _).mono ?_;rintro e w1 ⟨rfl,f1⟩;have F1:=hid f1;clear f1;go_wp2_with fail;refine(HD.out _).mono ?_;rintro e w2 ⟨rfl,f2⟩;go_wp2;go_ret;exact⟨by simp,F1.out.trans' f2⟩
theorem ZxE(n:Int)(w:World)(h0: -9223372036854775808≤n)(h1:n≤9223372036854775807):
 Calls Tryz.prog 46 #[.int .i64 n] w fun e w'=>e=.returned (.string ⟨(Lib.itoa n).toArray⟩)∧Fr nob w w':=by
 by_cases hn:n<0
 ·have h:=ZxD n.natAbs w (by omega) (by omega);rw[show -((n.natAbs:Nat):Int)=n by omega]at h;unfold Lib.itoa;rw[if_pos hn];exact h
 ·have HD:=hid (fun w'=>ZwC n.toNat w' (by omega));rw[show((n.toNat:Nat):Int)=n by omega]at HD;unfold Lib.itoa;rw[if_neg hn];obtain⟨D,hD⟩:∃D,Lib.decDigits n.toNat=D:=⟨_,rfl⟩;rw[hD]at HD⊢;clear hD;go_enter Tryz.func46,Tryz.ntmps46;go_wp2_with fail;refine(HD.out _).mono ?_;rintro e w1 ⟨rfl,f1⟩;go_wp2;go_ret;exact⟨rfl,f1⟩
theorem Zxf(k n:Int)(t:List UInt8)(tr:T)(kd:Int)(s:S4)(m:Nat)(mn mx nu:Int)(ua:Option Addr)(uc:Nat)(w:World)(h0: -9223372036854775808≤n)(h1:n≤9223372036854775807)(hz:tr.nd.size≤2000)(hk:tr.known=true)(hs:tr.nd.right=true→tr.nd.shw)(h:RT nob w tr [.int .i64 kd,.int .u64 s.a,.int .u64 s.b,.int .u64 s.c,.int .u64 s.d,.slice ua m uc,.int .i64 mn,.int .i64 mx,.int .i64 nu]):
 Calls Tryz.prog 25 #[.agg #[.int .i64 k,.int .i64 n,.string ⟨t.toArray⟩,.int .i64 kd,.int .u64 s.a,.int .u64 s.b,.int .u64 s.c,.int .u64 s.d,.slice ua m uc,.int .i64 mn,.int .i64 mx,.int .i64 nu]] w fun e w'=>e=.returned (.string ⟨(Zto (DA.av ⟨k,n,t,tr⟩)).toArray⟩)∧Fr nob w w':=by
 obtain⟨w1,g⟩:∃w1,w1=w.alloc (.cells #[.int .i64 k,.int .i64 n,.string ⟨t.toArray⟩,.int .i64 kd,.int .u64 s.a,.int .u64 s.b,.int .u64 s.c,.int .u64 s.d,.slice ua m uc,.int .i64 mn,.int .i64 mx,.int .i64 nu] 67):=⟨_,rfl⟩;have j:w1.heap[w.heap.size]? =some (.cells #[.int .i64 k,.int .i64 n,.string ⟨t.toArray⟩,.int .i64 kd,.int .u64 s.a,.int .u64 s.b,.int .u64 s.c,.int .u64 s.d,.slice ua m uc,.int .i64 mn,.int .i64 mx,.int .i64 nu] 67 (0,0)):=by rw[g];exact newAt0 _ _
 have f1:Fr nob w w1:=by rw[g];exact(Fr.refl nob w).alloc _
 have r1:=K12.of j;have HD:=hid (ZxE n w1 h0 h1);have HT:=hid (ZxA tr _ w1 hz hk hs (h.on f1));have o:=ZsT h0 h1;have p:(ZvL tr.nd).length≤300000000:=ZuG ⟨by omega,hs⟩;have f:=hid g;have F1:=hid f1;rw[show(if tr.nd.right=true then tr.nd.txt else[])=ZvL tr.nd from rfl]at HT;unfold DA.av Zto ZuU;simp only;clear h hz j g f1 hk hs;obtain⟨it,i⟩:∃it,Lib.itoa n=it:=⟨_,rfl⟩;rw[i]at HD o⊢;clear i;by_cases k1:k=1
 ·subst k1;go_enter Tryz.func25,Tryz.ntmps25;go_wp2_with(rw[←f.out]);refine HD.out.mono ?_;rintro e w2 ⟨rfl,f2⟩;go_wp2;go_ret;exact⟨rfl,F1.out.trans' f2⟩
 rw[if_neg k1];have e1:(k==1)=false:=by simpa using k1
 by_cases k2:k=2
 ·subst k2;go_enter Tryz.func25,Tryz.ntmps25;go_wp2_with(rw[←f.out]);go_ret;exact⟨rfl,F1.out⟩
 rw[if_neg k2];have e2:(k==2)=false:=by simpa using k2
 by_cases k3:k=3
 ·subst k3;rw[if_pos rfl,if_pos rfl];obtain⟨tx,l⟩:∃tx,ZvL tr.nd=tx:=⟨_,rfl⟩;rw[l]at HT p⊢;clear l;go_enter Tryz.func25,Tryz.ntmps25;go_wp2_with(rw[←f.out]);refine HT.out.mono ?_;rintro e w2 ⟨rfl,f2⟩;go_wp2;go_ret;exact⟨by simp,F1.out.trans' f2⟩
 rw[if_neg k3];have e3:(k==3)=false:=by simpa using k3
 by_cases k4:k=4
 ·subst k4;go_enter Tryz.func25,Tryz.ntmps25;go_wp2_with(rw[←f.out]);refine HD.out.mono ?_;rintro e w2 ⟨rfl,f2⟩;go_wp2;go_ret;exact⟨by simp,F1.out.trans' f2⟩
 rw[if_neg k4];have e4:(k==4)=false:=by simpa using k4
 go_enter Tryz.func25,Tryz.ntmps25;go_wp2_with(rw[←f.out]);go_ret;exact⟨rfl,F1.out⟩
attribute [local go_sem ↓] Go.wp_at_zero Go.wp_at_succ
theorem ZwZ(a:DA)(cs:List Value)(w:World)(hb:a.tree.bulk≤1048576)(h:DAr nob w a cs)(hwf:a.wf)(hE:Env w)(hP:P10 w):
 Calls Tryz.prog 9 #[.agg cs.toArray] w fun e w'=>e=.returned (.bool true)∧Fr nob w w':=by
 obtain⟨kd,s,m,mn,mx,nu,ua,uc,rfl,hr⟩:=h.open';obtain⟨k,n,t,tr⟩:=a;simp only at hr hb;show Calls Tryz.prog 9 #[.agg #[.int .i64 k,.int .i64 n,.string ⟨t.toArray⟩,.int .i64 kd,.int .u64 s.a,.int .u64 s.b,.int .u64 s.c,.int .u64 s.d,.slice ua m uc,.int .i64 mn,.int .i64 mx,.int .i64 nu]] w _;have I:t.length≤9223372036854775807:=by have:=hwf.tx;unfold maxLen at this;exact this
 have i: -9223372036854775808≤n∧n≤9223372036854775807:=by
  have:=hwf.ln;simp[Lit.wf,IntKind.min,IntKind.max,IntKind.signed,IntKind.bits]at this;omega
 have p:=hwf.tr;simp only at p;have HT:=hid hr;clear h hwf hr;obtain⟨w0,j⟩:∃w0,w0=w.alloc (.cells #[.int .i64 k,.int .i64 n,.string ⟨t.toArray⟩,.int .i64 kd,.int .u64 s.a,.int .u64 s.b,.int .u64 s.c,.int .u64 s.d,.slice ua m uc,.int .i64 mn,.int .i64 mx,.int .i64 nu] 67):=⟨_,rfl⟩;have f0:Fr nob w w0:=by rw[j];exact(Fr.refl _ _).alloc _
 have v:w0.heap[w.heap.size]? =some (.cells #[.int .i64 k,.int .i64 n,.string ⟨t.toArray⟩,.int .i64 kd,.int .u64 s.a,.int .u64 s.b,.int .u64 s.c,.int .u64 s.d,.slice ua m uc,.int .i64 mn,.int .i64 mx,.int .i64 nu] 67 (0,0)):=by rw[j];exact newAt _ _
 have HA:=hid (fun w' (f:Fr nob w w')=>ZsY w' (hE.on f) (hP.on f));have y:=hid (HA.out w0 f0);have A:=hid hE;have C:=hid hP;have F:=hid j;have F0:=hid f0;have z:=hid v;clear hE hP j f0 v;go_enter Tryz.func9,Tryz.ntmps9;go_wp2_with(rw[←F.out]);refine y.out.mono ?_;rintro e w1 ⟨rfl,f1⟩;have q:=f1.heap z.out (fun x=>x);have r1:=K12.of q;have G:=hid q;have F1:=hid (F0.out.trans' f1);clear f1 q;go_wp2_with fail;refine(few_A k n t tr kd s m mn mx nu ua uc _ (by omega) I (HT.out.on F1.out)).mono ?_;rintro e w2 ⟨rfl,f2⟩;have F2:=hid (F1.out.trans' f2);have H:=hid (f2.heap G.out (fun x=>x));clear f2 r1;cases g:DA.few ⟨k,n,t,tr⟩with
 |false=>
  clear g;go_wp2_with fail;refine(HA.out w2 F2.out).mono ?_;rintro e w3 ⟨rfl,f3⟩;go_wp2;go_ret;exact⟨rfl,F2.out.trans' f3⟩
 |true=>
  unfold DA.few at g;simp only[Bool.and_eq_true,decide_eq_true_eq]at g;obtain⟨hz,hk,hs⟩:=T.few_shw g.2.2.1 p;have HK:=hid hk;have HS:=hid hs;clear g hk hs p;obtain⟨tx,o⟩:∃tx,Zto (DA.av ⟨k,n,t,tr⟩)=tx:=⟨_,rfl⟩;have r:ZvY (DA.av ⟨k,n,t,tr⟩):=⟨by unfold DA.av;simp only;split;exact⟨by omega,HS.out⟩;exact⟨by decide,fun _=>trivial⟩,i.1,i.2⟩;have l:=fun(w':World) (f:Fr nob w w') (u:Value) (B:Nat) (h:ZwB B k tr w' u)=>Zts (DA.av ⟨k,n,t,tr⟩) (.agg #[.int .i64 k,.int .i64 n,.string ⟨t.toArray⟩,u]) w' (A.out.on f) (C.out.on f) r ⟨u,rfl,h.rn⟩;rw[o]at l;have D:=hid l;have E:=hid (fun(w':World) (f:Fr nob w w')=>by have:=Zxf k n t tr kd s m mn mx nu ua uc w' i.1 i.2 (by omega) HK.out HS.out (HT.out.on f);rwa[o]at this);clear o r l;have HC:=hid (K12.on (K12.of H.out) ((Fr.refl nob _).drew));have FD:=hid F2.out.drew;go_wp2_with fail
  go_region_held3 (fun w'=>K12 w' w.heap.size (.int .i64 k) (.int .i64 n) (.string ⟨t.toArray⟩) (.int .i64 kd) (.int .u64 s.a) (.int .u64 s.b) (.int .u64 s.c) (.int .u64 s.d) (.slice ua m uc) (.int .i64 mn) (.int .i64 mx) (.int .i64 nu))
   (first|(with_reducible exact HC.out)|(with_reducible exact K12.on HC.out G1.out)|(with_reducible exact K12.on HC.out G2.out)|(with_reducible exact K12.on HC.out G3.out))
   (first|(go_at_call 24;(with_reducible refine(real_A' k n t tr kd s m mn mx nu ua uc _ (by omega) (HT.out.on FD.out)).mono ?_);rintro e g1 ⟨u,rfl,r1,f1⟩;have R1:=hid r1;have G1:=hid f1;clear f1 r1)|(go_at_call 23;(with_reducible refine(D.out _ (FD.out.trans' G1.out) _ _ R1.out).mono ?_);rintro e g2 ⟨rfl,f2⟩;have G2:=hid (G1.out.trans' f2);clear f2)|(go_at_call 25;(with_reducible refine(E.out _ (FD.out.trans' G2.out)).mono ?_);rintro e g3 ⟨rfl,f3⟩;have G3:=hid (G2.out.trans' f3);clear f3))
  all_goals
   go_wp2;go_ret;exact⟨rfl,FD.out.trans' G3.out⟩
end Go.Proofs.YtkfddjopbocpkaaGreatDoor
