/- Lemmas of this claim. -/
import Derived.Test.YtkfddjopbocpkaaGreatDoorN30
set_option linter.unusedVariables false
set_option linter.unusedSimpArgs false
set_option maxRecDepth 100000
set_option maxHeartbeats 4000000
namespace Go.Proofs.YtkfddjopbocpkaaGreatDoor
open Go.RowKit
section
variable {l A:List UInt8}
theorem ZoA{c:CV}{s s':RdS}(h:ZbZ c s=.inr s'):s'.cmds.length=s.cmds.length+1:=by
 unfold ZbZ at h
 (repeat' split at h)<;>first|(cases h;done)|(injection h with h;subst h;simp)
theorem put_labels{c:CV}{s s':RdS}(h:ZbZ c s=.inr s'):(∀b∈s.labels,b∈s'.labels)∧(c.name=58→c.arg∈s'.labels)∧s'.cmds=s.cmds++[c]:=by
 unfold ZbZ at h;split at h
 ·next hn=>split at h;(·cases h);(injection h with h;subst h;exact⟨fun _ e=>e,fun e=>(by rw[hn]at e;cases e),rfl⟩)
 ·split at h
  ·next hn=>split at h;(·cases h);(injection h with h;subst h;exact⟨fun _ e=>e,fun e=>(by rw[hn]at e;cases e),rfl⟩)
  ·split at h
   ·split at h;(·cases h);(injection h with h;subst h;exact⟨fun _ e=>List.mem_append_left _ e,fun _=>by simp,rfl⟩)
   ·next hn=>injection h with h;subst h;exact⟨fun _ e=>e,fun e=>(hn e).elim,rfl⟩
end
section
variable {s r:List UInt8}
end
def Zp0(s:RdS):Prop:=∀b,b∈s.labels↔∃c∈s.cmds,c.name=58∧c.arg=b
theorem ZoC{c:CV}{s s':RdS}(hs:Zp0 s)(h:ZbZ c s=.inr s'):Zp0 s':=by
 unfold Zp0 at hs⊢;intro b;have a:∀(L:List (List UInt8)),(c.name≠58→L=s.labels)→(c.name=58→L=s.labels++[c.arg])→(b∈L↔∃d∈s.cmds++[c],d.name=58∧d.arg=b):=fun L h1 h2=>by
  by_cases hn:c.name=58
  ·rw[h2 hn];simp[hs b,hn,or_and_right,exists_or,eq_comm]
  ·rw[h1 hn];simp[hs b,hn,or_and_right,exists_or]
 unfold ZbZ at h;split at h
 ·next hn=>split at h;(·cases h);(injection h with h;subst h;exact a _ (fun _=>rfl) (fun e=>by rw[hn]at e;cases e))
 ·split at h
  ·next hn=>split at h;(·cases h);(injection h with h;subst h;exact a _ (fun _=>rfl) (fun e=>by rw[hn]at e;cases e))
  ·split at h
   ·next hn=>split at h;(·cases h);(injection h with h;subst h;exact a _ (fun e=>(e hn).elim) (fun _=>rfl))
   ·next hn=>injection h with h;subst h;exact a _ (fun _=>rfl) (fun e=>(hn e).elim)
theorem ZiM(x:Bool)(l:List UInt8):∀(n k:Nat) (s s':RdS) (ms ms':List (Nat×List UInt8)),Zdm x l n k s ms=.inr (s',ms')→(∀b∈s.labels,b∈s'.labels)∧s.cmds.length≤s'.cmds.length∧(Zp0 s→Zp0 s')∧(s.cmds.length≤100→s'.cmds.length≤100)
 |0,k,s,s',ms,ms',h=>by
  injection h with h;injection h with h _;subst h;exact⟨fun _ e=>e,Nat.le_refl _,fun e=>e,fun e=>e⟩
 |n+1,k,s,s',ms,ms',h=>by
  rw[Zdm]at h;split at h
  ·injection h with h;injection h with h _;subst h;exact⟨fun _ e=>e,Nat.le_refl _,fun e=>e,fun e=>e⟩
  ·split at h
   ·cases h
   ·next hne=>
    split at h
    ·cases h
    ·split at h
     ·cases h
     ·next hp=>
      have h1:=put_labels hp;have h2:=ZoA hp;obtain⟨i1,i2,i3,i4⟩:=ZiM x l n _ _ _ _ _ h;exact⟨fun b e=>i1 b (h1.1 b e),by omega,fun e=>i3 (ZoC e hp),fun e=>i4 (by omega)⟩
section
variable {A l:List UInt8}
end
theorem ZiN{x:Bool}{l:List UInt8}{a:ScV}{ms:List (Nat×List UInt8)}(h:ZdO x l=.inr (a,ms)):
 l.length≤4000∧∃st,Zdm x l 101 (Zaq l (l.length+1) 0) RdS.zero []=.inr (st,ms)∧Za8 st=none∧a=⟨lineL l==[35,110],st.cmds⟩:=by
 unfold ZdO at h;split at h
 ·cases h
 ·next h0=>
  split at h
  ·cases h
  ·next st m1 hs=>
   split at h
   ·cases h
   ·next hw=>
    injection h with h;injection h with h1 h2;subst h1;subst h2;exact⟨by omega,st,hs,hw,rfl⟩
theorem Zow{l:List UInt8}{s:AdS}:(Zjq l s).marks.length≤s.marks.length+1:=by
 unfold Zjq;simp only;split
 ·show s.marks.length≤_;omega
 ·split
  ·show(s.marks++[_]).length≤_;simp
  ·exact Z0 (s:=s.to (bhd l [32,9] s.at_)) 17 _ (by show s.marks.length≤_;omega)
theorem Zox{l:List UInt8}{x:Bool}{g:GV}{s:AdS}{N:Nat}(hs:s.at_≤l.length)(h:s.marks.length≤N)(h0:(ZbY x l g s).2.e=0):(ZbY x l g s).2.marks.length≤N+l.length+3:=by
 have a:=Zk4 h0;unfold ZbY at h0⊢;rw[if_neg (by omega)]at h0⊢;simp only at h0⊢;rw[if_neg (show¬ZM (byt l s.at_)<0 by omega),if_neg a.2.2.1]at h0⊢;obtain⟨s1,b⟩:∃s1,(if byt l s.at_=81∨byt l s.at_=84∨byt l s.at_=122 then Zan s s.at_ [byt l s.at_]else s)=s1:=⟨_,rfl⟩;rw[b]at h0⊢;have d:s1.marks.length≤N+1∧s1.at_=s.at_:=by
  rw[←b];split
  ·exact⟨by show(s.marks++[_]).length≤_;simp;omega,rfl⟩
  ·exact⟨by omega,rfl⟩
 split
 ·show s1.marks.length≤_;omega
 ·have c:∀C,(ZsD x l C (s1.to (s1.at_+1))).2.2.marks.length≤N+1+l.length+1:=fun C=>Zfu (l:=l) (s:=s1.to (s1.at_+1)) (N:=N+1) x C (by show s1.at_+1≤_;rw[d.2];exact a.1) (by show s1.marks.length≤_;omega);split
  ·exact Nat.le_trans Zow (Nat.le_trans (Nat.succ_le_succ (c _)) (by omega))
  ·exact Nat.le_trans (c _) (by omega)
theorem Zoy{x:Bool}{l:List UInt8}{p:Nat}{c:CV}{q:AdS}(hp:p≤l.length)(h:Zeu x l p=.inr (c,q)):q.marks.length≤3*l.length+5∧c.at_≤l.length:=by
 unfold Zeu at h;cases hg:ZX x l ⟨p,[],0⟩with
 |inl z=>rw[hg]at h;cases h
 |inr z=>
  obtain⟨g,s⟩:=z;rw[hg]at h;simp only at h;split at h
  ·cases h
  ·next h0=>
   injection h with h;have hs:=guardD_le (s:=⟨p,[],0⟩) hp rfl hg;have he:(ZbY x l g s).2.e=0:=by simpa using h0
   have h1:=Zox (x:=x) (g:=g) hs (guardD_mk hp hg) he;have h2:=Zk4 he;rw[h]at h1 h2;simp only at h1;exact⟨by omega,by have:=h2.2.2.2.1;simp only at this;omega⟩
theorem Zw9{x:Bool}{l:List UInt8}{p:Nat}{z:Int×Nat}(h:Zeu x l p=.inl z):z.1≠0:=by
 unfold Zeu at h;cases hg:ZX x l ⟨p,[],0⟩with
 |inl y=>rw[hg]at h;injection h with h;subst h;exact guardD_err hg
 |inr y=>
  obtain⟨g,s⟩:=y;rw[hg]at h;simp only at h;split at h
  ·next h0=>injection h with h;subst h;exact h0
  ·cases h
structure RdW(l:List UInt8)(s:RdS):Prop where
 cm:s.cmds.length≤100
 op:s.opens.length≤12
 la:s.labels.length≤s.cmds.length
 at_:∀c∈s.cmds,c.at_≤l.length
theorem RdW.zero(l:List UInt8):RdW l RdS.zero:=⟨Nat.zero_le _,Nat.zero_le _,Nat.zero_le _,fun _ h=>by cases h⟩
theorem RdW.put{l:List UInt8}{s s':RdS}{c:CV}(h:RdW l s)(hn:s.cmds.length≠100)(hc:c.at_≤l.length)(hp:ZbZ c s=.inr s'):RdW l s':=by
 have a:∀d∈s.cmds++[c],d.at_≤l.length:=fun d hd=>by
  rcases List.mem_append.1 hd with hd|hd
  ·exact h.at_ d hd
  ·rw[List.mem_singleton.1 hd];exact hc
 have h1:=h.cm;have h2:=h.op;have h3:=h.la;unfold ZbZ at hp;split at hp
 ·split at hp
  ·cases hp
  ·next hb=>injection hp with hp;subst hp;exact⟨by simp;omega,by simp;omega,by simp;omega,a⟩
 ·split at hp
  ·split at hp
   ·cases hp
   ·injection hp with hp;subst hp;exact⟨by simp;omega,by simp;omega,by simp;omega,a⟩
  ·split at hp
   ·split at hp
    ·cases hp
    ·injection hp with hp;subst hp;exact⟨by simp;omega,by simp;omega,by simp;omega,a⟩
   ·injection hp with hp;subst hp;exact⟨by simp;omega,by simp;omega,by simp;omega,a⟩
theorem ZiK{s s':RdS}{c:CV}(hp:ZbZ c s=.inr s'):s'.cmds=s.cmds++[c]:=by
 unfold ZbZ at hp
 repeat' split at hp
 all_goals first|(cases hp;done)|(injection hp with hp;subst hp;rfl)
theorem put_err{s:RdS}{c:CV}{z:Int}(hp:ZbZ c s=.inl z):z≠0:=by
 unfold ZbZ at hp
 repeat' split at hp
 all_goals first|(injection hp with hp;subst hp;decide)|(cases hp;done)
theorem whole_err{s:RdS}{z:Int}{p:Nat}(h:Za8 s=some (z,p)):z≠0:=by
 unfold Za8 at h;split at h
 ·injection h with h;injection h with h _;subst h;decide
 ·split at h
  ·injection h with h;injection h with h _;subst h;decide
  ·cases h
theorem scrL_end{x:Bool}{l:List UInt8}{n k:Nat}{s:RdS}{ms:List (Nat×List UInt8)}(h:l.length≤k):Zdm x l n k s ms=.inr (s,ms):=by
 cases n with
 |zero=>rfl
 |succ n=>rw[Zdm,if_pos h]
theorem Zel{x:Bool}{l:List UInt8}{n k:Nat}{s:RdS}{ms:List (Nat×List UInt8)}(h:¬l.length≤k)(hc:s.cmds.length=100):Zdm x l (n+1) k s ms=.inl (3,k):=by
 rw[Zdm,if_neg h,if_pos hc]
theorem Zfv{x:Bool}{l:List UInt8}{n k:Nat}{s:RdS}{ms:List (Nat×List UInt8)}{z:Int×Nat}(h:¬l.length≤k)(hc:¬s.cmds.length=100)(h1:Zeu x l k=.inl z):Zdm x l (n+1) k s ms=.inl z:=by
 rw[Zdm,if_neg h,if_neg hc,h1]
theorem ZhW{x:Bool}{l:List UInt8}{n k:Nat}{s:RdS}{ms:List (Nat×List UInt8)}{c:CV}{q:AdS}{z:Int}(h:¬l.length≤k)(hc:¬s.cmds.length=100)(h1:Zeu x l k=.inr (c,q))(h2:ZbZ c s=.inl z):Zdm x l (n+1) k s ms=.inl (z,c.at_):=by
 rw[Zdm,if_neg h,if_neg hc,h1];simp only[h2]
theorem ZhX{x:Bool}{l:List UInt8}{n k:Nat}{s s':RdS}{ms:List (Nat×List UInt8)}{c:CV}{q:AdS}(h:¬l.length≤k)(hc:¬s.cmds.length=100)(h1:Zeu x l k=.inr (c,q))(h2:ZbZ c s=.inr s'):Zdm x l (n+1) k s ms=Zdm x l n (Zaq l (l.length+1) q.at_) s' (ms++q.marks):=by
 rw[Zdm,if_neg h,if_neg hc,h1];simp only[h2]
abbrev B4(w:World)(b:Nat)(v0 v1 v2 v3:Value):Prop:=w.cell? ⟨b,0,none⟩=some v0∧w.cell? ⟨b,1,none⟩=some v1∧w.cell? ⟨b,2,none⟩=some v2∧w.cell? ⟨b,3,none⟩=some v3
section
variable {w:World} {b c k j:Nat} {v0 v1 v2 v3 v4 u0 u1 u2 u3:Value}
end
open Go.Lib (hid)
structure DA where
 kind:Int
 line:Int
 text:List UInt8
 tree:T
def DAr(S:Nat→Prop)(w:World)(a:DA)(cs:List Value):Prop:=∃ct,cs=.int .i64 a.kind:: .int .i64 a.line:: .string ⟨a.text.toArray⟩::ct∧RT S w a.tree ct
def DA.av(a:DA):AV:=⟨a.kind,a.line,a.text,if a.kind=3 then a.tree.nd else .nil⟩
def DA.few(a:DA):Bool:=decide (0≤a.kind)&&(decide (a.kind≤4)&&(a.tree.few 60&&decide ((a.text.length:Int)≤300)))
theorem DAr.open'{S:Nat→Prop}{w:World}{a:DA}{cs:List Value}(h:DAr S w a cs):∃(kd:Int) (s:S4) (m:Nat) (mn mx nu:Int) (ua:Option Addr) (uc:Nat),
 cs=[.int .i64 a.kind,.int .i64 a.line,.string ⟨a.text.toArray⟩,.int .i64 kd,.int .u64 s.a,.int .u64 s.b,.int .u64 s.c,.int .u64 s.d,.slice ua m uc,.int .i64 mn,.int .i64 mx,.int .i64 nu]∧RT S w a.tree [.int .i64 kd,.int .u64 s.a,.int .u64 s.b,.int .u64 s.c,.int .u64 s.d,.slice ua m uc,.int .i64 mn,.int .i64 mx,.int .i64 nu]:=by
 obtain⟨ct,rfl,hr⟩:=h;obtain⟨kd,s,ps,mn,mx,nu,ua,uc,_,rfl,_⟩:=hr.open';exact⟨kd,s,ps.length,mn,mx,nu,ua,uc,rfl,hr⟩
theorem ZxH(k n:Int)(t:List UInt8)(tr:T)(kd:Int)(s:S4)(m:Nat)(mn mx nu:Int)(ua:Option Addr)(uc:Nat)(w:World)(hz:tr.nd.size≤3000000)(h:RT nob w tr [.int .i64 kd,.int .u64 s.a,.int .u64 s.b,.int .u64 s.c,.int .u64 s.d,.slice ua m uc,.int .i64 mn,.int .i64 mx,.int .i64 nu]):
 Calls Tryz.prog 24 #[.agg #[.int .i64 k,.int .i64 n,.string ⟨t.toArray⟩,.int .i64 kd,.int .u64 s.a,.int .u64 s.b,.int .u64 s.c,.int .u64 s.d,.slice ua m uc,.int .i64 mn,.int .i64 mx,.int .i64 nu]] w fun e w'=>Fr nob w w'∧if k=3 then∃i y,e=.returned (.agg #[.int .i64 k,.int .i64 n,.string ⟨t.toArray⟩,.iface i y])∧RN (fun j=>j<w.heap.size) w' tr.nd (.iface i y)else e=.returned (.agg #[.int .i64 k,.int .i64 n,.string ⟨t.toArray⟩,.nilIface]):=by
 obtain⟨w1,o⟩:∃w1,w1=w.alloc (.cells #[.int .i64 k,.int .i64 n,.string ⟨t.toArray⟩,.int .i64 kd,.int .u64 s.a,.int .u64 s.b,.int .u64 s.c,.int .u64 s.d,.slice ua m uc,.int .i64 mn,.int .i64 mx,.int .i64 nu] 67):=⟨_,rfl⟩;obtain⟨w2,f⟩:∃w2,w2=w1.alloc (.cells zA 28):=⟨_,rfl⟩;obtain⟨w3,g⟩:∃w3,w3=w2.alloc (.cells #[.int .i64 k,.int .i64 n,.string ⟨t.toArray⟩,.nilIface] 28):=⟨_,rfl⟩;have A:w1.heap.size=w.heap.size+1:=by rw[o];simp
 have B:w2.heap.size=w.heap.size+2:=by rw[f];simp;omega
 have P:w3.heap.size=w.heap.size+3:=by rw[g];simp;omega
 have z:w1.heap[w.heap.size]? =some (.cells #[.int .i64 k,.int .i64 n,.string ⟨t.toArray⟩,.int .i64 kd,.int .u64 s.a,.int .u64 s.b,.int .u64 s.c,.int .u64 s.d,.slice ua m uc,.int .i64 mn,.int .i64 mx,.int .i64 nu] 67 (0,0)):=by rw[o];exact newAt _ _
 have M:w3.heap[w.heap.size]? =some (.cells #[.int .i64 k,.int .i64 n,.string ⟨t.toArray⟩,.int .i64 kd,.int .u64 s.a,.int .u64 s.b,.int .u64 s.c,.int .u64 s.d,.slice ua m uc,.int .i64 mn,.int .i64 mx,.int .i64 nu] 67 (0,0)):=by rw[g];exact Ze _ (by rw[f];exact Ze _ z)
 have N:w3.heap[w.heap.size+1]? =some (.cells zA 28 (0,0)):=by rw[g];exact Ze _ (by rw[f];exact Zg _ _ _ A.symm)
 have O:w3.heap[w.heap.size+2]? =some (.cells #[.int .i64 k,.int .i64 n,.string ⟨t.toArray⟩,.nilIface] 28 (0,0)):=by rw[g];exact Zg _ _ _ B.symm
 have u:Fr nob w w3:=by rw[g,f,o];exact(((Fr.refl nob w).alloc _).alloc _).alloc _
 have L:Fr nob w1 w2:=by rw[f];exact(Fr.refl nob w1).alloc _
 have r1:=K12.of z;have r2:=K12.on r1 L;have r3:=K12.of M;have I:=hid o;have J:=hid f;have K:=hid g;have D:=hid u;have E:=hid N;have F:=hid O;have r:=hid A;have G:=hid B;have H:=hid P;have HC:=hid (Zw5 _ tr _ w3 (Nat.le_refl _) hz (h.on u));clear h hz o f g u L z M N O A B P;by_cases hk:k=3
 ·subst hk;simp only[if_true];go_enter Tryz.func24,Tryz.ntmps24;go_wp2_with(first|rw[←I.out]|rw[←J.out]|rw[←K.out]);(try rw[r.out]);(try rw[G.out]);refine HC.out.mono ?_;rintro e w4 ⟨v,rfl,rn,f4⟩;obtain⟨i,y,rfl⟩:=T.nd_iface rn;have q3:=f4.heap F.out (fun x=>x);have q2:=f4.heap E.out (fun x=>x);have g3:(w4.setCell ⟨w.heap.size+2,3,none⟩ (.iface i y)).heap[w.heap.size+2]? =some (.cells #[.int .i64 3,.int .i64 n,.string ⟨t.toArray⟩,.iface i y] 28 (0,0)):=Za q3 3 _;have g2:(w4.setCell ⟨w.heap.size+2,3,none⟩ (.iface i y)).heap[w.heap.size+1]? =some (.cells zA 28 (0,0)):=Zc q2 (by simp) _;have fs:Fr (fun k=>k=w.heap.size+2) w4 (w4.setCell ⟨w.heap.size+2,3,none⟩ (.iface i y)):=(Fr.refl (fun k=>k=w.heap.size+2) w4).setCell (p:=⟨w.heap.size+2,3,none⟩) (fun _=>rfl) _;obtain⟨w5,C⟩:∃w5,w5=w4.setCell ⟨w.heap.size+2,3,none⟩ (.iface i y):=⟨_,rfl⟩;rw[←C]at g3 g2 fs
  have x3:=Zl q3 w4 (Fr.refl _ _);have y3:=Zl g3 w5 (Fr.refl _ _);have y2:=Zl g2 w5 (Fr.refl _ _);have R:=hid C;have HZ:=hid (setFour_heap g2 (.int .i64 3) (.int .i64 n) (.string ⟨t.toArray⟩) (.iface i y));have ff:Fr (fun k=>k=w.heap.size+1∨k=w.heap.size+2) w4 (ZaG w5 (w.heap.size+1) (.int .i64 3) (.int .i64 n) (.string ⟨t.toArray⟩) (.iface i y)):=(fs.mono (T:=fun k=>k=w.heap.size+1∨k=w.heap.size+2) (fun k _ e=>.inr e)).trans (ZS w5 (w.heap.size+1) (.int .i64 3) (.int .i64 n) (.string ⟨t.toArray⟩) (.iface i y)) (fun k _ e=>.inl e);have Q:=hid (RN.keep ff (fun k _ hk=>by have:=H.out;show k<_;rcases hk with hk|hk<;>omega) (fun j _ x=>by have:=H.out;show j<_;omega) _ _ rn:RN (fun j=>j<w.heap.size) _ tr.nd (.iface i y));have FF:=hid ((D.out.trans' f4).trans ff (fun i hi h=>by rcases h with h|h<;>omega));clear q3 q2 g3 g2 fs ff C f4 rn r1 r2 r3;go_wp2_with(rw[←R.out])
  (try simp only[Exit.inBlock,Exit.then]);exact bodyPost_ret (Zo rfl rfl HZ.out rfl rfl rfl rfl) rfl ⟨FF.out,i,y,rfl,Q.out⟩
 ·have e3:(k==3)=false:=by simpa using hk
  simp only[if_neg hk];have l:w3.heap[w1.heap.size]? =some (.cells zA 28 (0,0)):=by rw[r.out];exact E.out
  have q:w3.heap[w2.heap.size]? =some (.cells #[.int .i64 k,.int .i64 n,.string ⟨t.toArray⟩,.nilIface] 28 (0,0)):=by rw[G.out];exact F.out
  have x3:=Zl q w3 (Fr.refl _ _);have x2:=Zl l w3 (Fr.refl _ _);have HZ:=hid (setFour_heap l (.int .i64 k) (.int .i64 n) (.string ⟨t.toArray⟩) .nilIface);have FF:=hid (D.out.trans (ZS w3 w1.heap.size (.int .i64 k) (.int .i64 n) (.string ⟨t.toArray⟩) .nilIface) (fun i hi h=>by have h:i=_:=h;have:=r.out;omega));clear HC l q;go_enter Tryz.func24,Tryz.ntmps24;go_wp2_with(first|rw[←I.out]|rw[←J.out]|rw[←K.out]);(try simp only[Exit.inBlock,Exit.then]);exact bodyPost_ret (Zo rfl rfl HZ.out rfl rfl rfl rfl) rfl ⟨FF.out,rfl⟩
theorem few_A(k n:Int)(t:List UInt8)(tr:T)(kd:Int)(s:S4)(m:Nat)(mn mx nu:Int)(ua:Option Addr)(uc:Nat)(w:World)(hb:tr.bulk≤3000000)(hl:t.length≤9223372036854775807)(h:RT nob w tr [.int .i64 kd,.int .u64 s.a,.int .u64 s.b,.int .u64 s.c,.int .u64 s.d,.slice ua m uc,.int .i64 mn,.int .i64 mx,.int .i64 nu]):
 Calls Tryz.prog 22 #[.agg #[.int .i64 k,.int .i64 n,.string ⟨t.toArray⟩,.int .i64 kd,.int .u64 s.a,.int .u64 s.b,.int .u64 s.c,.int .u64 s.d,.slice ua m uc,.int .i64 mn,.int .i64 mx,.int .i64 nu]] w fun e w'=>e=.returned (.bool (DA.few ⟨k,n,t,tr⟩))∧Fr nob w w':=by
 obtain⟨w1,f⟩:∃w1,w1=w.alloc (.cells #[.int .i64 k,.int .i64 n,.string ⟨t.toArray⟩,.int .i64 kd,.int .u64 s.a,.int .u64 s.b,.int .u64 s.c,.int .u64 s.d,.slice ua m uc,.int .i64 mn,.int .i64 mx,.int .i64 nu] 67):=⟨_,rfl⟩;have j:w1.heap[w.heap.size]? =some (.cells #[.int .i64 k,.int .i64 n,.string ⟨t.toArray⟩,.int .i64 kd,.int .u64 s.a,.int .u64 s.b,.int .u64 s.c,.int .u64 s.d,.slice ua m uc,.int .i64 mn,.int .i64 mx,.int .i64 nu] 67 (0,0)):=by rw[f];exact newAt _ _
 have f1:Fr nob w w1:=by rw[f];exact(Fr.refl nob w).alloc _
 have HC:=hid (Zxu tr 60 _ w1 hb (h.on f1));have r1:=K12.of j;have HQ:=hid j;have i:=hid f;have F1:=hid f1;clear h hb j f f1;unfold DA.few;simp only;by_cases h0:0≤k
 ·by_cases h4:k≤4
  ·obtain⟨q,hq⟩:∃q,tr.few 60=q:=⟨_,rfl⟩;rw[hq]at HC⊢;clear hq;simp only[h0,h4,decide_true,Bool.true_and];go_enter Tryz.func22,Tryz.ntmps22;go_wp2_with(rw[←i.out]);refine HC.out.mono ?_;rintro e w2 ⟨rfl,f2⟩;have r2:=K12.of (f2.heap HQ.out (fun x=>x));have F2:=hid (F1.out.trans' f2);clear f2 r1;cases q with
   |false=>
    go_wp2;go_ret;exact⟨rfl,F2.out⟩
   |true=>
    rcases(by by_cases h:t.length≤300;exact .inl ⟨h,by omega⟩;exact .inr ⟨h,by omega⟩:(t.length≤300∧(t.length:Int)≤300)∨(¬t.length≤300∧¬(t.length:Int)≤300))with⟨g,g'⟩|⟨g,g'⟩
    all_goals
     clear g;go_wp2;go_ret;exact⟨by simp[g'],F2.out⟩
  ·clear HC;go_enter Tryz.func22,Tryz.ntmps22;go_wp2_with(rw[←i.out]);go_wp2;go_ret;exact⟨by rw[show decide (k≤4)=false from decide_eq_false (by omega)];simp,F1.out⟩
 ·clear HC;go_enter Tryz.func22,Tryz.ntmps22;go_wp2_with(rw[←i.out]);go_wp2;go_ret;exact⟨by rw[show decide (0≤k)=false from decide_eq_false (by omega)];simp,F1.out⟩
def ZwB(B:Nat)(k:Int)(tr:T)(w:World)(u:Value):Prop:=if k=3 then∃i y,u=.iface i y∧RN (fun j=>j<B) w tr.nd (.iface i y)else u=.nilIface
theorem ZwB.rn{B:Nat}{k:Int}{tr:T}{w:World}{u:Value}(h:ZwB B k tr w u):RN nob w (if k=3 then tr.nd else .nil) u:=by
 unfold ZwB at h;split at h
 ·next hk=>obtain⟨i,y,rfl,hr⟩:=h;rw[if_pos hk];exact hr.any
 ·next hk=>rw[h,if_neg hk,RN]
theorem real_A'(k n:Int)(t:List UInt8)(tr:T)(kd:Int)(s:S4)(m:Nat)(mn mx nu:Int)(ua:Option Addr)(uc:Nat)(w:World)(hz:tr.nd.size≤3000000)(h:RT nob w tr [.int .i64 kd,.int .u64 s.a,.int .u64 s.b,.int .u64 s.c,.int .u64 s.d,.slice ua m uc,.int .i64 mn,.int .i64 mx,.int .i64 nu]):
 Calls Tryz.prog 24 #[.agg #[.int .i64 k,.int .i64 n,.string ⟨t.toArray⟩,.int .i64 kd,.int .u64 s.a,.int .u64 s.b,.int .u64 s.c,.int .u64 s.d,.slice ua m uc,.int .i64 mn,.int .i64 mx,.int .i64 nu]] w fun e w'=>∃u,e=.returned (.agg #[.int .i64 k,.int .i64 n,.string ⟨t.toArray⟩,u])∧ZwB w.heap.size k tr w' u∧Fr nob w w':=by
 refine(ZxH k n t tr kd s m mn mx nu ua uc w hz h).mono ?_;rintro e w' ⟨f,h⟩;split at h
 ·next hk=>obtain⟨i,y,rfl,hr⟩:=h;exact⟨_,rfl,by unfold ZwB;rw[if_pos hk];exact⟨i,y,rfl,hr⟩,f⟩
 ·next hk=>subst h;exact⟨_,rfl,by unfold ZwB;rw[if_neg hk],f⟩
section
variable {H:Type} {enc:TypeId×Value→H} {W:World} {base:Nat} {spare:Nat→Bool} {held:Bool}
structure DA.wf(a:DA):Prop where
 kd:(Lit.int .i64 a.kind).wf=true
 ln:(Lit.int .i64 a.line).wf=true
 tx:a.text.length≤maxLen
 tr:a.tree.wf
theorem ZxI:Tryz.prog.cellsOf 67=12:=by kernel_rfl
theorem ZxJ{fuel:Nat}{cs:List Value}{x:DataW H×List MemPlace}(h:DataW.trod enc Tryz.prog W base spare held fuel 67 cs=some x):cs.length=12∧∃a:DA,DAr nob W a cs∧a.wf∧a.tree.bulk≤Rows.uptoBulk x.1:=by
 obtain⟨xs,n,rfl,rfl,hl,b,hf⟩:=DataW.trod_struct Tryz.underlying67 h;rw[ZxI]at hl;refine⟨hl,?_⟩;have ci:Tryz.prog.cellsOf 3=1:=by kernel_rfl
 have c:Tryz.prog.cellsOf 9=1:=by kernel_rfl
 match cs,hl,xs,b with
 |[c0,c1,c2,c3,c4,c5,c6,c7,c8,c9,c10,c11],_,[y0,y1,y2,y3],_=>
  have f0:DataW.trod enc Tryz.prog W base spare held n 3 (([c0,c1,c2,c3,c4,c5,c6,c7,c8,c9,c10,c11].drop 0).take (Tryz.prog.cellsOf 3))=some y0:=hf 0 _ rfl;have f1:DataW.trod enc Tryz.prog W base spare held n 3 (([c0,c1,c2,c3,c4,c5,c6,c7,c8,c9,c10,c11].drop 1).take (Tryz.prog.cellsOf 3))=some y1:=hf 1 _ rfl;have f2:DataW.trod enc Tryz.prog W base spare held n 9 (([c0,c1,c2,c3,c4,c5,c6,c7,c8,c9,c10,c11].drop 2).take (Tryz.prog.cellsOf 9))=some y2:=hf 2 _ rfl;have f3:DataW.trod enc Tryz.prog W base spare held n 65 (([c0,c1,c2,c3,c4,c5,c6,c7,c8,c9,c10,c11].drop 3).take (Tryz.prog.cellsOf 65))=some y3:=hf 3 _ rfl;simp only[ci,c,ZwY,List.drop_zero,List.drop_succ_cons,List.take_succ_cons,List.take_zero]at f0 f1 f2 f3;obtain⟨k,e0,_,w0⟩:=DataW.trod_int Tryz.underlying3 f0;obtain⟨m,e1,_,w1⟩:=DataW.trod_int Tryz.underlying3 f1;obtain⟨s,e2,_,w2⟩:=DataW.trod_string Tryz.underlying9 f2;obtain⟨_,t,h1,h2,h3⟩:=ZxG n _ _ f3
  simp only[List.cons.injEq,and_true]at e0 e1 e2;subst e0 e1 e2;refine⟨⟨k,m,s.data.toList,t⟩,⟨_,by simp,h1⟩,⟨w0,w1,by unfold maxLen at w2⊢;exact w2,h2⟩,?_⟩;simp only[List.map_cons,List.map_nil,Rows.uptoBulk,Rows.uptoBulkAll];omega
theorem ZxK{w:World}{r:Reach}{b:Nat}{v:Value}{d:DataW H}{p:List MemPlace}(hv:Value.okWide Tryz.prog w r b 67 v)(h:DataW.Trod enc Tryz.prog W base spare held 67 v d p):
 ∃(a:DA) (cs:List Value),v=.agg cs.toArray∧DAr nob W a cs∧a.wf∧a.tree.bulk≤Rows.uptoBulk d:=by
 simp only[Value.okWide,Tryz.underlying67]at hv;obtain⟨cs,rfl,_,_⟩:=hv;obtain⟨c,hf⟩:=h;obtain⟨_,t,h1,h2,h3⟩:=ZxJ hf;exact⟨t,cs.toList,by simp,h1,h2,h3⟩
end
end Go.Proofs.YtkfddjopbocpkaaGreatDoor
