/- Lemmas of this claim. -/
import Derived.Test.YtkfddjopbocpkaaGreatDoorM25
set_option linter.unusedVariables false
set_option linter.unusedSimpArgs false
set_option maxRecDepth 100000
set_option maxHeartbeats 4000000
namespace Go.Proofs.YtkfddjopbocpkaaGreatDoor
open Go.Lib (hid)
open Go.RowKit
def AV.same(a b:AV):Prop:=a.kind=b.kind∧((a.kind=1∨a.kind=4)→a.line=b.line)∧(a.kind=3→a.tree.norm=b.tree.norm)
theorem ZiJ(a b:AV)(va vb:Value)(w:World)(sa:a.tree.size≤3000000)(sb:b.tree.size≤3000000)(ha:ZkS nob w a va)(hb:ZkS nob w b vb):
 Calls Tryz.prog 60 #[va,vb] w fun e w'=>∃r:Bool,e=.returned (.bool r)∧(r=true↔AV.same a b)∧Fr nob w w':=by
 obtain⟨k1,n1,t1,d1⟩:=a;obtain⟨k2,n2,t2,d2⟩:=b;obtain⟨u1,rfl,r1⟩:=ha;obtain⟨u2,rfl,r2⟩:=hb;simp only at sa sb r1 r2⊢;have o1:=r1.shape;have o2:=r2.shape;have HS:=hid (fun(w':World) (f:Fr nob w w')=>Zig 3000000 d1 d2 u1 u2 w' sa sa sb (r1.on f) (r2.on f));clear r1 r2;unfold AV.same;simp only;rcases o1 with rfl|⟨i1,y1,rfl⟩<;>rcases o2 with rfl|⟨i2,y2,rfl⟩
 all_goals
  by_cases hk:k1=k2
  ·subst hk;by_cases h1:k1=1
   ·subst h1;go_enter Tryz.func60,Tryz.ntmps60;go_wp2;go_ret;exact⟨_,rfl,by simp,((Fr.refl nob w).alloc _).alloc _⟩
   ·by_cases h4:k1=4
    ·subst h4;go_enter Tryz.func60,Tryz.ntmps60;go_wp2;go_ret;exact⟨_,rfl,by simp,((Fr.refl nob w).alloc _).alloc _⟩
    ·by_cases h3:k1=3
     ·subst h3;go_enter Tryz.func60,Tryz.ntmps60;go_wp2_with fail;refine(HS.out _ (((Fr.refl nob w).alloc _).alloc _)).mono ?_;rintro e w3 ⟨r,rfl,hr,f3⟩;have F3:=hid ((((Fr.refl nob w).alloc _).alloc _).trans' f3);clear f3;go_wp2;go_ret;exact⟨_,rfl,by rw[hr];simp,F3.out⟩
     ·have e1:(k1==1)=false:=by simpa using h1
      have e4:(k1==4)=false:=by simpa using h4
      have e3:(k1==3)=false:=by simpa using h3
      have H:=hid (And.intro h1 (And.intro h4 h3));clear h1 h4 h3;go_enter Tryz.func60,Tryz.ntmps60;go_wp2;go_ret;exact⟨_,rfl,by have:=H.out;simp[this.1,this.2.1,this.2.2],((Fr.refl nob w).alloc _).alloc _⟩
  ·have e1:(k1==k2)=false:=by simpa using hk
   have H:=hid hk;clear hk;go_enter Tryz.func60,Tryz.ntmps60;go_wp2;go_ret;exact⟨_,rfl,by simp[H.out],((Fr.refl nob w).alloc _).alloc _⟩
def GV.same(a b:GV):Prop:=AV.same a.a b.a∧AV.same a.b b.b∧a.no=b.no
theorem ZjC(g h:GV)(vg vh:Value)(w:World)(s1:g.a.tree.size≤3000000)(s2:g.b.tree.size≤3000000)(s3:h.a.tree.size≤3000000)(s4:h.b.tree.size≤3000000)(hg:Zni nob w g vg)(hh:Zni nob w h vh):
 Calls Tryz.prog 32 #[vg,vh] w fun e w'=>∃r:Bool,e=.returned (.bool r)∧(r=true↔GV.same g h)∧Fr nob w w':=by
 obtain⟨A,B,n⟩:=g;obtain⟨C,D,m⟩:=h;obtain⟨u1,u2,rfl,r1,r2⟩:=hg;obtain⟨u3,u4,rfl,r3,r4⟩:=hh;simp only at s1 s2 s3 s4 r1 r2 r3 r4⊢;have o1:=r1.shape;have o2:=r2.shape;have o3:=r3.shape;have o4:=r4.shape;have HA:=hid (fun(w':World) (f:Fr nob w w')=>ZiJ A C _ _ w' s1 s3 ⟨u1,rfl,r1.on f⟩ ⟨u3,rfl,r3.on f⟩);have HB:=hid (fun(w':World) (f:Fr nob w w')=>ZiJ B D _ _ w' s2 s4 ⟨u2,rfl,r2.on f⟩ ⟨u4,rfl,r4.on f⟩);clear r1 r2 r3 r4 s1 s2 s3 s4;unfold GV.same;simp only;rcases o1 with rfl|⟨i1,y1,rfl⟩<;>rcases o2 with rfl|⟨i2,y2,rfl⟩<;>rcases o3 with rfl|⟨i3,y3,rfl⟩<;>rcases o4 with rfl|⟨i4,y4,rfl⟩
 all_goals
  go_enter Tryz.func32,Tryz.ntmps32;go_wp2_with fail;refine(HA.out _ (((Fr.refl nob w).alloc _).alloc _)).mono ?_;rintro e w3 ⟨r,rfl,hr,f3⟩;have g1:=f3.heap (((Fr.refl nob _).alloc _).heap (newAt0 w _) (fun x=>x)) (fun x=>x);have g2:=f3.heap (newAt0 (w.alloc _) _) (fun x=>x);rw[show∀B,(w.alloc B).heap.size=w.heap.size+1 from fun B=>by simp]at g2;have ra:=Zk g1;have rb:=Zk g2;have F3:=hid ((((Fr.refl nob w).alloc _).alloc _).trans' f3);have HR:=hid hr;have G1:=hid g1;have G2:=hid g2;clear hr g1 g2 f3;cases r with
  |false=>
   go_wp2;go_ret;exact⟨_,rfl,by simp only[←HR.out];simp,F3.out⟩
  |true=>
   go_wp2_with fail;refine(HB.out _ F3.out).mono ?_;rintro e w4 ⟨r,rfl,hr,f4⟩;have F4:=hid (F3.out.trans' f4);have HR2:=hid hr;have ra4:=Zk (f4.heap G1.out (fun x=>x));have rb4:=Zk (f4.heap G2.out (fun x=>x));clear hr f4 ra rb;cases r with
   |false=>
    go_wp2;go_ret;exact⟨_,rfl,by simp only[←HR2.out];simp,F4.out⟩
   |true=>
    rcases(by cases n<;>cases m<;>simp:(n=m∧(n==m)=true)∨(n≠m∧(n==m)=false))with⟨e,e2⟩|⟨e,e2⟩
    ·have E:=hid e;clear e;go_wp2;go_ret;exact⟨_,rfl,by simp only[←HR.out,←HR2.out,E.out];simp,F4.out⟩
    ·have E:=hid e;clear e;go_wp2;go_ret;exact⟨_,rfl,by simp only[←HR.out,←HR2.out];simp[E.out],F4.out⟩
theorem Zow{l:List UInt8}{s:AdS}:(Zjq l s).marks.length≤s.marks.length+1:=by
 unfold Zjq;simp only;split
 ·show s.marks.length≤_;omega
 ·split
  ·show(s.marks++[_]).length≤_;simp
  ·exact Z0 (s:=s.to (bhd l [32,9] s.at_)) 17 _ (by show s.marks.length≤_;omega)
theorem Zox{l:List UInt8}{x:Bool}{g:GV}{s:AdS}{N:Nat}(hs:s.at_≤l.length)(h:s.marks.length≤N)(h0:(ZbY x l g s).2.e=0):(ZbY x l g s).2.marks.length≤N+l.length+3:=by
 have hok:=Zk4 h0;unfold ZbY at h0⊢;rw[if_neg (by omega)]at h0⊢;simp only at h0⊢;rw[if_neg (show¬ZM (byt l s.at_)<0 by omega),if_neg hok.2.2.1]at h0⊢;obtain⟨s1,hs1⟩:∃s1,(if byt l s.at_=81∨byt l s.at_=84∨byt l s.at_=122 then Zan s s.at_ [byt l s.at_]else s)=s1:=⟨_,rfl⟩;rw[hs1]at h0⊢;have hm1:s1.marks.length≤N+1∧s1.at_=s.at_:=by
  rw[←hs1];split
  ·exact⟨by show(s.marks++[_]).length≤_;simp;omega,rfl⟩
  ·exact⟨by omega,rfl⟩
 split
 ·show s1.marks.length≤_;omega
 ·have key:∀C,(argsC x l C (s1.to (s1.at_+1))).2.2.marks.length≤N+1+l.length+1:=fun C=>Zfu (l:=l) (s:=s1.to (s1.at_+1)) (N:=N+1) x C (by show s1.at_+1≤_;rw[hm1.2];exact hok.1) (by show s1.marks.length≤_;omega);split
  ·exact Nat.le_trans Zow (Nat.le_trans (Nat.succ_le_succ (key _)) (by omega))
  ·exact Nat.le_trans (key _) (by omega)
theorem Zoy{x:Bool}{l:List UInt8}{p:Nat}{c:CV}{q:AdS}(hp:p≤l.length)(h:Zeu x l p=.inr (c,q)):q.marks.length≤3*l.length+5∧c.at_≤l.length:=by
 unfold Zeu at h;cases hg:ZX x l ⟨p,[],0⟩with
 |inl z=>rw[hg]at h;cases h
 |inr z=>
  obtain⟨g,s⟩:=z;rw[hg]at h;simp only at h;split at h
  ·cases h
  ·next h0=>
   injection h with h;have hs:=guardD_le (s:=⟨p,[],0⟩) hp rfl hg;have he:(ZbY x l g s).2.e=0:=by simpa using h0
   have h1:=Zox (x:=x) (g:=g) hs (guardD_mk hp hg) he;have h2:=Zk4 he;rw[h]at h1 h2;simp only at h1;exact⟨by omega,by have:=h2.2.2.2.1;simp only at this;omega⟩
theorem cmdD_bad{x:Bool}{l:List UInt8}{p:Nat}{z:Int×Nat}(h:Zeu x l p=.inl z):z.1≠0:=by
 unfold Zeu at h;cases hg:ZX x l ⟨p,[],0⟩with
 |inl y=>rw[hg]at h;injection h with h;subst h;exact guardD_err hg
 |inr y=>
  obtain⟨g,s⟩:=y;rw[hg]at h;simp only at h;split at h
  ·next h0=>injection h with h;subst h;exact h0
  ·cases h
structure RdW(l:List UInt8)(s:RdS):Prop where
 cm:s.cmds.length≤100
 op:s.opens.length≤12
 la:s.labels.length≤s.cmds.length
 at_:∀c∈s.cmds,c.at_≤l.length
theorem RdW.zero(l:List UInt8):RdW l RdS.zero:=⟨Nat.zero_le _,Nat.zero_le _,Nat.zero_le _,fun _ h=>by cases h⟩
theorem RdW.put{l:List UInt8}{s s':RdS}{c:CV}(h:RdW l s)(hn:s.cmds.length≠100)(hc:c.at_≤l.length)(hp:ZbZ c s=.inr s'):RdW l s':=by
 have key:∀d∈s.cmds++[c],d.at_≤l.length:=fun d hd=>by
  rcases List.mem_append.1 hd with hd|hd
  ·exact h.at_ d hd
  ·rw[List.mem_singleton.1 hd];exact hc
 have h1:=h.cm;have h2:=h.op;have h3:=h.la;unfold ZbZ at hp;split at hp
 ·split at hp
  ·cases hp
  ·next hb=>injection hp with hp;subst hp;exact⟨by simp;omega,by simp;omega,by simp;omega,key⟩
 ·split at hp
  ·split at hp
   ·cases hp
   ·injection hp with hp;subst hp;exact⟨by simp;omega,by simp;omega,by simp;omega,key⟩
  ·split at hp
   ·split at hp
    ·cases hp
    ·injection hp with hp;subst hp;exact⟨by simp;omega,by simp;omega,by simp;omega,key⟩
   ·injection hp with hp;subst hp;exact⟨by simp;omega,by simp;omega,by simp;omega,key⟩
theorem ZiK{s s':RdS}{c:CV}(hp:ZbZ c s=.inr s'):s'.cmds=s.cmds++[c]:=by
 unfold ZbZ at hp
 repeat' split at hp
 all_goals first|(cases hp;done)|(injection hp with hp;subst hp;rfl)
theorem put_err{s:RdS}{c:CV}{z:Int}(hp:ZbZ c s=.inl z):z≠0:=by
 unfold ZbZ at hp
 repeat' split at hp
 all_goals first|(injection hp with hp;subst hp;decide)|(cases hp;done)
theorem whole_err{s:RdS}{z:Int}{p:Nat}(h:Za8 s=some (z,p)):z≠0:=by
 unfold Za8 at h;split at h
 ·injection h with h;injection h with h _;subst h;decide
 ·split at h
  ·injection h with h;injection h with h _;subst h;decide
  ·cases h
theorem scrL_end{x:Bool}{l:List UInt8}{n k:Nat}{s:RdS}{ms:List (Nat×List UInt8)}(h:l.length≤k):Zdm x l n k s ms=.inr (s,ms):=by
 cases n with
 |zero=>rfl
 |succ n=>rw[Zdm,if_pos h]
theorem Zel{x:Bool}{l:List UInt8}{n k:Nat}{s:RdS}{ms:List (Nat×List UInt8)}(h:¬l.length≤k)(hc:s.cmds.length=100):Zdm x l (n+1) k s ms=.inl (3,k):=by
 rw[Zdm,if_neg h,if_pos hc]
theorem Zfv{x:Bool}{l:List UInt8}{n k:Nat}{s:RdS}{ms:List (Nat×List UInt8)}{z:Int×Nat}(h:¬l.length≤k)(hc:¬s.cmds.length=100)(h1:Zeu x l k=.inl z):Zdm x l (n+1) k s ms=.inl z:=by
 rw[Zdm,if_neg h,if_neg hc,h1]
theorem ZhW{x:Bool}{l:List UInt8}{n k:Nat}{s:RdS}{ms:List (Nat×List UInt8)}{c:CV}{q:AdS}{z:Int}(h:¬l.length≤k)(hc:¬s.cmds.length=100)(h1:Zeu x l k=.inr (c,q))(h2:ZbZ c s=.inl z):Zdm x l (n+1) k s ms=.inl (z,c.at_):=by
 rw[Zdm,if_neg h,if_neg hc,h1];simp only[h2]
theorem ZhX{x:Bool}{l:List UInt8}{n k:Nat}{s s':RdS}{ms:List (Nat×List UInt8)}{c:CV}{q:AdS}(h:¬l.length≤k)(hc:¬s.cmds.length=100)(h1:Zeu x l k=.inr (c,q))(h2:ZbZ c s=.inr s'):Zdm x l (n+1) k s ms=Zdm x l n (Zaq l (l.length+1) q.at_) s' (ms++q.marks):=by
 rw[Zdm,if_neg h,if_neg hc,h1];simp only[h2]
section
variable {l A:List UInt8}
theorem ZhY:∀(n k:Nat),k≤l.length→Zaq (A++l) n (A.length+k)=A.length+Zaq l n k
 |0,k,hk=>Zdv Zc1 hk
 |n+1,k,hk=>by
  have hb:=bhd_in (l:=l) Zc1 hk;rw[Zaq,Zaq,Zdv Zc1 hk,Zbm];split
  ·next h=>
   have h1:=ZdP (l.drop (bhd l Zc1 k));rw[List.length_drop]at h1;rw[Nat.add_assoc];exact ZhY n _ (by omega)
  ·rfl
def Zep(B:RdS)(a:Nat)(s:RdS):RdS:=⟨B.cmds++s.cmds.map (shC a),B.labels++s.labels,s.opens.map (a+·)⟩
def ZqP(a:Nat):ZpO→ZpO
 | .inl z=>.inl (z.1,a+z.2)
 | .inr r=>.inr (Zep RdS.zero a r.1,r.2.map (shM a))
theorem Zoz{B:RdS}{a:Nat}{c:CV}{s:RdS}(h:c.name=58→B.labels.contains c.arg=false):ZbZ (shC a c) (Zep B a s)=(match ZbZ c s with| .inl e=>.inl e| .inr s'=>.inr (Zep B a s')):=by
 have e1:(shC a c).name=c.name:=rfl;have e2:(shC a c).arg=c.arg:=rfl;have e3:(shC a c).at_=a+c.at_:=rfl;have e4:(Zep B a s).opens.length=s.opens.length:=by unfold Zep;simp
 have e5:((Zep B a s).opens=[])↔(s.opens=[]):=by unfold Zep;simp
 unfold ZbZ;rw[e1,e2,e3,e4];by_cases h1:c.name=123
 ·rw[if_pos h1,if_pos h1];by_cases h2:s.opens.length=12
  ·rw[if_pos h2,if_pos h2]
  ·rw[if_neg h2,if_neg h2];unfold Zep;simp
 ·rw[if_neg h1,if_neg h1];by_cases h2:c.name=125
  ·rw[if_pos h2,if_pos h2];by_cases h3:s.opens=[]
   ·rw[if_pos (e5.2 h3),if_pos h3]
   ·rw[if_neg (fun e=>h3 (e5.1 e)),if_neg h3];unfold Zep;simp[List.map_dropLast]
  ·rw[if_neg h2,if_neg h2];by_cases h3:c.name=58
   ·rw[if_pos h3,if_pos h3];have e6:(Zep B a s).labels.contains c.arg=s.labels.contains c.arg:=by
     have:=h h3;unfold Zep;simp only[List.contains_eq_mem,List.mem_append]at this⊢;simp only[decide_eq_false_iff_not]at this;simp[this]
    rw[e6];cases s.labels.contains c.arg with
    |true=>rfl
    |false=>simp[Zep]
   ·rw[if_neg h3,if_neg h3];unfold Zep;simp
theorem ZoA{c:CV}{s s':RdS}(h:ZbZ c s=.inr s'):s'.cmds.length=s.cmds.length+1:=by
 unfold ZbZ at h
 (repeat' split at h)<;>first|(cases h;done)|(injection h with h;subst h;simp)
theorem put_labels{c:CV}{s s':RdS}(h:ZbZ c s=.inr s'):(∀b∈s.labels,b∈s'.labels)∧(c.name=58→c.arg∈s'.labels)∧s'.cmds=s.cmds++[c]:=by
 unfold ZbZ at h;split at h
 ·next hn=>split at h;(·cases h);(injection h with h;subst h;exact⟨fun _ e=>e,fun e=>(by rw[hn]at e;cases e),rfl⟩)
 ·split at h
  ·next hn=>split at h;(·cases h);(injection h with h;subst h;exact⟨fun _ e=>e,fun e=>(by rw[hn]at e;cases e),rfl⟩)
  ·split at h
   ·split at h;(·cases h);(injection h with h;subst h;exact⟨fun _ e=>List.mem_append_left _ e,fun _=>by simp,rfl⟩)
   ·next hn=>injection h with h;subst h;exact⟨fun _ e=>e,fun e=>(hn e).elim,rfl⟩
theorem Zno(x:Bool):∀(n k:Nat) (s:RdS) (ms:List (Nat×List UInt8)),k≤l.length→Zdm x (A++l) n (A.length+k) (Zep RdS.zero A.length s) (ms.map (shM A.length))=ZqP A.length (Zdm x l n k s ms)
 |0,k,s,ms,hk=>rfl
 |n+1,k,s,ms,hk=>by
  rw[Zdm,Zdm];by_cases h1:l.length≤k
  ·rw[if_pos h1,if_pos (by rw[List.length_append];omega)];rfl
  ·rw[if_neg h1,if_neg (by rw[List.length_append];omega)];have e1:(Zep RdS.zero A.length s).cmds.length=s.cmds.length:=by unfold Zep RdS.zero;simp
   rw[e1];by_cases h2:s.cmds.length=100
   ·rw[if_pos h2,if_pos h2];rfl
   ·rw[if_neg h2,if_neg h2,Zon x hk];cases hc:Zeu x l k with
    |inl z=>rfl
    |inr r=>
     obtain⟨c,q⟩:=r;have hq:=(Zgq hk hc).1;simp only[ZqA];rw[Zoz (fun _=>rfl)];cases ZbZ c s with
     |inl e=>rfl
     |inr s'=>
      simp only;have e2:(shS A.length [] q).at_=A.length+q.at_:=rfl;have e3:(shS A.length [] q).marks=q.marks.map (shM A.length):=by unfold shS;simp
      rw[e2,e3,ZhY _ _ hq,←List.map_append];have e4:=Zeh (l:=l) ((A++l).length+1) q.at_ hq;rw[Zno x n _ s' _ e4.2,Zei ((A++l).length+1) (l.length+1) q.at_ hq (by rw[List.length_append];omega) (by omega)]
theorem ZiL(labels:List (List UInt8))(a:Nat):∀cs:List CV,(cs.map (shC a)).find? (Zcc labels)=(cs.find? (Zcc labels)).map (shC a)
 |[]=>rfl
 |c::cs=>by
  rw[List.map_cons,List.find?_cons,List.find?_cons];have e:Zcc labels (shC a c)=Zcc labels c:=rfl;rw[e];cases Zcc labels c with
  |true=>rfl
  |false=>exact ZiL labels a cs
theorem ZmU(a:Nat)(s:RdS):Za8 (Zep RdS.zero a s)=(Za8 s).map (fun z=>(z.1,a+z.2)):=by
 have e1:(Zep RdS.zero a s).opens.getLast? =s.opens.getLast?.map (a+·):=by unfold Zep;simp[List.getLast?_map]
 have e2:(Zep RdS.zero a s).cmds=s.cmds.map (shC a):=rfl;have e3:(Zep RdS.zero a s).labels=s.labels:=rfl;unfold Za8;rw[e1,e2,e3,ZiL];cases s.opens.getLast? with
 |some p=>rfl
 |none=>
  simp only[Option.map_none];cases s.cmds.find? (Zcc s.labels)with
  |none=>rfl
  |some c=>rfl
end
section
variable {s r:List UInt8}
theorem ZmV{m:List UInt8}(cs:List UInt8){k:Nat}(hk:k<m.length)(h:cs.contains m[k]=true):bhd m cs k=bhd m cs (k+1):=by
 unfold bhd tl;rw[List.drop_eq_getElem_cons hk,List.dropWhile_cons,if_pos h]
theorem ZmW{m:List UInt8}(cs:List UInt8){k:Nat}(hk:k<m.length)(h:cs.contains m[k]=false):bhd m cs k=k:=by
 unfold bhd tl;rw[List.drop_eq_getElem_cons hk,List.dropWhile_cons,h];simp only[Bool.false_eq_true,if_false,List.length_cons,List.length_drop];omega
theorem ZoB(m r:List UInt8):lineL (m++10::r)=lineL m:=by
 unfold lineL;induction m with
 |nil=>rw[List.nil_append,List.takeWhile_cons,if_neg (by decide)];rfl
 |cons a m ih=>
  rw[List.cons_append,List.takeWhile_cons,List.takeWhile_cons,ih]
end
def Zp0(s:RdS):Prop:=∀b,b∈s.labels↔∃c∈s.cmds,c.name=58∧c.arg=b
theorem ZoC{c:CV}{s s':RdS}(hs:Zp0 s)(h:ZbZ c s=.inr s'):Zp0 s':=by
 unfold Zp0 at hs⊢;intro b;have key:∀(L:List (List UInt8)),(c.name≠58→L=s.labels)→(c.name=58→L=s.labels++[c.arg])→(b∈L↔∃d∈s.cmds++[c],d.name=58∧d.arg=b):=fun L h1 h2=>by
  by_cases hn:c.name=58
  ·rw[h2 hn];simp[hs b,hn,or_and_right,exists_or,eq_comm]
  ·rw[h1 hn];simp[hs b,hn,or_and_right,exists_or]
 unfold ZbZ at h;split at h
 ·next hn=>split at h;(·cases h);(injection h with h;subst h;exact key _ (fun _=>rfl) (fun e=>by rw[hn]at e;cases e))
 ·split at h
  ·next hn=>split at h;(·cases h);(injection h with h;subst h;exact key _ (fun _=>rfl) (fun e=>by rw[hn]at e;cases e))
  ·split at h
   ·next hn=>split at h;(·cases h);(injection h with h;subst h;exact key _ (fun e=>(e hn).elim) (fun _=>rfl))
   ·next hn=>injection h with h;subst h;exact key _ (fun _=>rfl) (fun e=>(hn e).elim)
theorem ZiM(x:Bool)(l:List UInt8):∀(n k:Nat) (s s':RdS) (ms ms':List (Nat×List UInt8)),Zdm x l n k s ms=.inr (s',ms')→(∀b∈s.labels,b∈s'.labels)∧s.cmds.length≤s'.cmds.length∧(Zp0 s→Zp0 s')∧(s.cmds.length≤100→s'.cmds.length≤100)
 |0,k,s,s',ms,ms',h=>by
  injection h with h;injection h with h _;subst h;exact⟨fun _ e=>e,Nat.le_refl _,fun e=>e,fun e=>e⟩
 |n+1,k,s,s',ms,ms',h=>by
  rw[Zdm]at h;split at h
  ·injection h with h;injection h with h _;subst h;exact⟨fun _ e=>e,Nat.le_refl _,fun e=>e,fun e=>e⟩
  ·split at h
   ·cases h
   ·next hne=>
    split at h
    ·cases h
    ·split at h
     ·cases h
     ·next hp=>
      have h1:=put_labels hp;have h2:=ZoA hp;obtain⟨i1,i2,i3,i4⟩:=ZiM x l n _ _ _ _ _ h;exact⟨fun b e=>i1 b (h1.1 b e),by omega,fun e=>i3 (ZoC e hp),fun e=>i4 (by omega)⟩
section
variable {A l:List UInt8}
end
theorem ZiN{x:Bool}{l:List UInt8}{a:ScV}{ms:List (Nat×List UInt8)}(h:ZdO x l=.inr (a,ms)):
 l.length≤4000∧∃st,Zdm x l 101 (Zaq l (l.length+1) 0) RdS.zero []=.inr (st,ms)∧Za8 st=none∧a=⟨lineL l==[35,110],st.cmds⟩:=by
 unfold ZdO at h;split at h
 ·cases h
 ·next h0=>
  split at h
  ·cases h
  ·next st m1 hs=>
   split at h
   ·cases h
   ·next hw=>
    injection h with h;injection h with h1 h2;subst h1;subst h2;exact⟨by omega,st,hs,hw,rfl⟩
theorem Zls{x:Bool}{A l:List UInt8}(hlen:(A++l).length≤4000)(hsk:Zaq (A++l) ((A++l).length+1) 0=A.length+Zaq l (l.length+1) 0):
 ZdO x (A++l)=(match ZdO x l with| .inl z=>.inl (z.1,A.length+z.2)| .inr (a,ms)=>.inr (⟨lineL (A++l)==[35,110],a.cmds.map (shC A.length)⟩,ms.map (shM A.length))):=by
 have hl:l.length≤4000:=by rw[List.length_append]at hlen;omega
 have h1:=Zno (A:=A) x 101 (Zaq l (l.length+1) 0) RdS.zero [] (Zeh (l:=l) _ _ (Nat.zero_le _)).2;have hz:Zep RdS.zero A.length RdS.zero=RdS.zero:=rfl;rw[hz,List.map_nil,←hsk]at h1;unfold ZdO;rw[if_neg (by omega),if_neg (by omega),h1];cases Zdm x l 101 (Zaq l (l.length+1) 0) RdS.zero []with
 |inl z=>rfl
 |inr r=>
  obtain⟨st,ms⟩:=r;simp only[ZqP];rw[ZmU];cases Za8 st with
  |some z=>rfl
  |none=>rfl
theorem ZiO:∀(m:List UInt8),(∀b∈m,b≠10)→lineL m=m
 |[],_=>rfl
 |a::m,h=>by
  have ih:=ZiO m (fun b hb=>h b (List.mem_cons_of_mem _ hb));have ha:=h a List.mem_cons_self;unfold lineL at ih⊢;rw[List.takeWhile_cons,if_pos (by simpa using ha),ih]
theorem ZhZ{R l:List UInt8}(h:∀b∈R,b≠10):Zaq ((35::R++[10])++l) (((35::R++[10])++l).length+1) 0=(35::R++[10]).length+Zaq l (l.length+1) 0:=by
 have hlen:((35::R++[10])++l).length=R.length+2+l.length:=by simp;omega
 have e0:bhd ((35::R++[10])++l) Zc1 0=0:=ZmW Zc1 (by rw[hlen];omega) (by simp);have eL:lineL ((35::R++[10])++l)=35::R:=by
  have:(35::R++[10])++l=(35::R)++10::l:=by simp
  rw[this,ZoB];exact ZiO (35::R) (fun b hb=>by rcases List.mem_cons.1 hb with rfl|hb;(·decide);(·exact h b hb))
 have hh:((35::R++[10])++l).head? =some 35:=rfl;rw[Zaq,e0,List.drop_zero,if_pos hh,eL,Nat.zero_add];have e2:bhd ((35::R++[10])++l) Zc1 (35::R).length=bhd ((35::R++[10])++l) Zc1 ((35::R).length+1):=by
  refine ZmV Zc1 (by rw[hlen,List.length_cons];omega) ?_;simp
 have e3:=ZhY (A:=35::R++[10]) (l:=l) ((35::R++[10])++l).length 0 (Nat.zero_le _);rw[Nat.add_zero]at e3;have e4:(35::R++[10]).length=(35::R).length+1:=by simp
 rw[Zei (l:=l) (l.length+1) ((35::R++[10])++l).length 0 (Nat.zero_le _) (by omega) (by rw[hlen];omega),←e3,e4];obtain⟨F,hF⟩:∃F,((35::R++[10])++l).length=F+1:=⟨R.length+1+l.length,by rw[hlen];omega⟩;rw[hF,Zaq,Zaq,e2]
end Go.Proofs.YtkfddjopbocpkaaGreatDoor
