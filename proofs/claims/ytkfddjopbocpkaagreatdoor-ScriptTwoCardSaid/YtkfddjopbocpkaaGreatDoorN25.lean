/- Lemmas of this claim. -/
import Derived.Test.YtkfddjopbocpkaaGreatDoorN22
set_option linter.unusedVariables false
set_option linter.unusedSimpArgs false
set_option maxRecDepth 100000
set_option maxHeartbeats 4000000
namespace Go.Proofs.YtkfddjopbocpkaaGreatDoor
open Go.Lib (hid)
open Go.RowKit
def AV.same(a b:AV):Prop:=a.kind=b.kind∧((a.kind=1∨a.kind=4)→a.line=b.line)∧(a.kind=3→a.tree.norm=b.tree.norm)
theorem ZiJ(a b:AV)(va vb:Value)(w:World)(sa:a.tree.size≤3000000)(sb:b.tree.size≤3000000)(ha:ZkS nob w a va)(hb:ZkS nob w b vb):
 Calls Tryz.prog 60 #[va,vb] w fun e w'=>∃r:Bool,e=.returned (.bool r)∧(r=true↔AV.same a b)∧Fr nob w w':=by
 obtain⟨k1,n1,t1,d1⟩:=a;obtain⟨k2,n2,t2,d2⟩:=b;obtain⟨u1,rfl,r1⟩:=ha;obtain⟨u2,rfl,r2⟩:=hb;simp only at sa sb r1 r2⊢;have o1:=r1.shape;have o2:=r2.shape;have HS:=hid (fun(w':World) (f:Fr nob w w')=>Zig 3000000 d1 d2 u1 u2 w' sa sa sb (r1.on f) (r2.on f));clear r1 r2;unfold AV.same;simp only;rcases o1 with rfl|⟨i1,y1,rfl⟩<;>rcases o2 with rfl|⟨i2,y2,rfl⟩
 all_goals
  by_cases hk:k1=k2
  ·subst hk;by_cases h1:k1=1
   ·subst h1;go_enter Tryz.func60,Tryz.ntmps60;go_wp2;go_ret;exact⟨_,rfl,by simp,((Fr.refl nob w).alloc _).alloc _⟩
   ·by_cases h4:k1=4
    ·subst h4;go_enter Tryz.func60,Tryz.ntmps60;go_wp2;go_ret;exact⟨_,rfl,by simp,((Fr.refl nob w).alloc _).alloc _⟩
    ·by_cases h3:k1=3
     ·subst h3;go_enter Tryz.func60,Tryz.ntmps60;go_wp2_with fail;refine(HS.out _ (((Fr.refl nob w).alloc _).alloc _)).mono ?_;rintro e w3 ⟨r,rfl,hr,f3⟩;have F3:=hid ((((Fr.refl nob w).alloc _).alloc _).trans' f3);clear f3;go_wp2;go_ret;exact⟨_,rfl,by rw[hr];simp,F3.out⟩
     ·have e1:(k1==1)=false:=by simpa using h1
      have e4:(k1==4)=false:=by simpa using h4
      have e3:(k1==3)=false:=by simpa using h3
      have H:=hid (And.intro h1 (And.intro h4 h3));clear h1 h4 h3;go_enter Tryz.func60,Tryz.ntmps60;go_wp2;go_ret;exact⟨_,rfl,by have:=H.out;simp[this.1,this.2.1,this.2.2],((Fr.refl nob w).alloc _).alloc _⟩
  ·have e1:(k1==k2)=false:=by simpa using hk
   have H:=hid hk;clear hk;go_enter Tryz.func60,Tryz.ntmps60;go_wp2;go_ret;exact⟨_,rfl,by simp[H.out],((Fr.refl nob w).alloc _).alloc _⟩
def GV.same(a b:GV):Prop:=AV.same a.a b.a∧AV.same a.b b.b∧a.no=b.no
theorem ZjC(g h:GV)(vg vh:Value)(w:World)(s1:g.a.tree.size≤3000000)(s2:g.b.tree.size≤3000000)(s3:h.a.tree.size≤3000000)(s4:h.b.tree.size≤3000000)(hg:Zni nob w g vg)(hh:Zni nob w h vh):
 Calls Tryz.prog 32 #[vg,vh] w fun e w'=>∃r:Bool,e=.returned (.bool r)∧(r=true↔GV.same g h)∧Fr nob w w':=by
 obtain⟨A,B,n⟩:=g;obtain⟨C,D,m⟩:=h;obtain⟨u1,u2,rfl,r1,r2⟩:=hg;obtain⟨u3,u4,rfl,r3,r4⟩:=hh;simp only at s1 s2 s3 s4 r1 r2 r3 r4⊢;have o1:=r1.shape;have o2:=r2.shape;have o3:=r3.shape;have o4:=r4.shape;have HA:=hid (fun(w':World) (f:Fr nob w w')=>ZiJ A C _ _ w' s1 s3 ⟨u1,rfl,r1.on f⟩ ⟨u3,rfl,r3.on f⟩);have HB:=hid (fun(w':World) (f:Fr nob w w')=>ZiJ B D _ _ w' s2 s4 ⟨u2,rfl,r2.on f⟩ ⟨u4,rfl,r4.on f⟩);clear r1 r2 r3 r4 s1 s2 s3 s4;unfold GV.same;simp only;rcases o1 with rfl|⟨i1,y1,rfl⟩<;>rcases o2 with rfl|⟨i2,y2,rfl⟩<;>rcases o3 with rfl|⟨i3,y3,rfl⟩<;>rcases o4 with rfl|⟨i4,y4,rfl⟩
 all_goals
  go_enter Tryz.func32,Tryz.ntmps32;go_wp2_with fail;refine(HA.out _ (((Fr.refl nob w).alloc _).alloc _)).mono ?_;rintro e w3 ⟨r,rfl,hr,f3⟩;have g1:=f3.heap (((Fr.refl nob _).alloc _).heap (newAt0 w _) (fun x=>x)) (fun x=>x);have g2:=f3.heap (newAt0 (w.alloc _) _) (fun x=>x);rw[show∀B,(w.alloc B).heap.size=w.heap.size+1 from fun B=>by simp]at g2;have ra:=Zk g1;have rb:=Zk g2;have F3:=hid ((((Fr.refl nob w).alloc _).alloc _).trans' f3);have HR:=hid hr;have G1:=hid g1;have G2:=hid g2;clear hr g1 g2 f3;cases r with
  |false=>
   go_wp2;go_ret;exact⟨_,rfl,by simp only[←HR.out];simp,F3.out⟩
  |true=>
   go_wp2_with fail;refine(HB.out _ F3.out).mono ?_;rintro e w4 ⟨r,rfl,hr,f4⟩;have F4:=hid (F3.out.trans' f4);have HR2:=hid hr;have ra4:=Zk (f4.heap G1.out (fun x=>x));have rb4:=Zk (f4.heap G2.out (fun x=>x));clear hr f4 ra rb;cases r with
   |false=>
    go_wp2;go_ret;exact⟨_,rfl,by simp only[←HR2.out];simp,F4.out⟩
   |true=>
    rcases(by cases n<;>cases m<;>simp:(n=m∧(n==m)=true)∨(n≠m∧(n==m)=false))with⟨e,e2⟩|⟨e,e2⟩
    ·have E:=hid e;clear e;go_wp2;go_ret;exact⟨_,rfl,by simp only[←HR.out,←HR2.out,E.out];simp,F4.out⟩
    ·have E:=hid e;clear e;go_wp2;go_ret;exact⟨_,rfl,by simp only[←HR.out,←HR2.out];simp[E.out],F4.out⟩
theorem Zow{l:List UInt8}{s:AdS}:(Zjq l s).marks.length≤s.marks.length+1:=by
 unfold Zjq;simp only;split
 ·show s.marks.length≤_;omega
 ·split
  ·show(s.marks++[_]).length≤_;simp
  ·exact Z0 (s:=s.to (bhd l [32,9] s.at_)) 17 _ (by show s.marks.length≤_;omega)
theorem Zox{l:List UInt8}{x:Bool}{g:GV}{s:AdS}{N:Nat}(hs:s.at_≤l.length)(h:s.marks.length≤N)(h0:(ZbY x l g s).2.e=0):(ZbY x l g s).2.marks.length≤N+l.length+3:=by
 have hok:=Zk4 h0;unfold ZbY at h0⊢;rw[if_neg (by omega)]at h0⊢;simp only at h0⊢;rw[if_neg (show¬ZM (byt l s.at_)<0 by omega),if_neg hok.2.2.1]at h0⊢;obtain⟨s1,hs1⟩:∃s1,(if byt l s.at_=81∨byt l s.at_=84∨byt l s.at_=122 then Zan s s.at_ [byt l s.at_]else s)=s1:=⟨_,rfl⟩;rw[hs1]at h0⊢;have hm1:s1.marks.length≤N+1∧s1.at_=s.at_:=by
  rw[←hs1];split
  ·exact⟨by show(s.marks++[_]).length≤_;simp;omega,rfl⟩
  ·exact⟨by omega,rfl⟩
 split
 ·show s1.marks.length≤_;omega
 ·have key:∀C,(argsC x l C (s1.to (s1.at_+1))).2.2.marks.length≤N+1+l.length+1:=fun C=>Zfu (l:=l) (s:=s1.to (s1.at_+1)) (N:=N+1) x C (by show s1.at_+1≤_;rw[hm1.2];exact hok.1) (by show s1.marks.length≤_;omega);split
  ·exact Nat.le_trans Zow (Nat.le_trans (Nat.succ_le_succ (key _)) (by omega))
  ·exact Nat.le_trans (key _) (by omega)
theorem Zoy{x:Bool}{l:List UInt8}{p:Nat}{c:CV}{q:AdS}(hp:p≤l.length)(h:Zeu x l p=.inr (c,q)):q.marks.length≤3*l.length+5∧c.at_≤l.length:=by
 unfold Zeu at h;cases hg:ZX x l ⟨p,[],0⟩with
 |inl z=>rw[hg]at h;cases h
 |inr z=>
  obtain⟨g,s⟩:=z;rw[hg]at h;simp only at h;split at h
  ·cases h
  ·next h0=>
   injection h with h;have hs:=guardD_le (s:=⟨p,[],0⟩) hp rfl hg;have he:(ZbY x l g s).2.e=0:=by simpa using h0
   have h1:=Zox (x:=x) (g:=g) hs (guardD_mk hp hg) he;have h2:=Zk4 he;rw[h]at h1 h2;simp only at h1;exact⟨by omega,by have:=h2.2.2.2.1;simp only at this;omega⟩
theorem cmdD_bad{x:Bool}{l:List UInt8}{p:Nat}{z:Int×Nat}(h:Zeu x l p=.inl z):z.1≠0:=by
 unfold Zeu at h;cases hg:ZX x l ⟨p,[],0⟩with
 |inl y=>rw[hg]at h;injection h with h;subst h;exact guardD_err hg
 |inr y=>
  obtain⟨g,s⟩:=y;rw[hg]at h;simp only at h;split at h
  ·next h0=>injection h with h;subst h;exact h0
  ·cases h
structure RdW(l:List UInt8)(s:RdS):Prop where
 cm:s.cmds.length≤100
 op:s.opens.length≤12
 la:s.labels.length≤s.cmds.length
 at_:∀c∈s.cmds,c.at_≤l.length
theorem RdW.zero(l:List UInt8):RdW l RdS.zero:=⟨Nat.zero_le _,Nat.zero_le _,Nat.zero_le _,fun _ h=>by cases h⟩
theorem RdW.put{l:List UInt8}{s s':RdS}{c:CV}(h:RdW l s)(hn:s.cmds.length≠100)(hc:c.at_≤l.length)(hp:ZbZ c s=.inr s'):RdW l s':=by
 have key:∀d∈s.cmds++[c],d.at_≤l.length:=fun d hd=>by
  rcases List.mem_append.1 hd with hd|hd
  ·exact h.at_ d hd
  ·rw[List.mem_singleton.1 hd];exact hc
 have h1:=h.cm;have h2:=h.op;have h3:=h.la;unfold ZbZ at hp;split at hp
 ·split at hp
  ·cases hp
  ·next hb=>injection hp with hp;subst hp;exact⟨by simp;omega,by simp;omega,by simp;omega,key⟩
 ·split at hp
  ·split at hp
   ·cases hp
   ·injection hp with hp;subst hp;exact⟨by simp;omega,by simp;omega,by simp;omega,key⟩
  ·split at hp
   ·split at hp
    ·cases hp
    ·injection hp with hp;subst hp;exact⟨by simp;omega,by simp;omega,by simp;omega,key⟩
   ·injection hp with hp;subst hp;exact⟨by simp;omega,by simp;omega,by simp;omega,key⟩
theorem ZiK{s s':RdS}{c:CV}(hp:ZbZ c s=.inr s'):s'.cmds=s.cmds++[c]:=by
 unfold ZbZ at hp
 repeat' split at hp
 all_goals first|(cases hp;done)|(injection hp with hp;subst hp;rfl)
theorem put_err{s:RdS}{c:CV}{z:Int}(hp:ZbZ c s=.inl z):z≠0:=by
 unfold ZbZ at hp
 repeat' split at hp
 all_goals first|(injection hp with hp;subst hp;decide)|(cases hp;done)
theorem whole_err{s:RdS}{z:Int}{p:Nat}(h:Za8 s=some (z,p)):z≠0:=by
 unfold Za8 at h;split at h
 ·injection h with h;injection h with h _;subst h;decide
 ·split at h
  ·injection h with h;injection h with h _;subst h;decide
  ·cases h
theorem scrL_end{x:Bool}{l:List UInt8}{n k:Nat}{s:RdS}{ms:List (Nat×List UInt8)}(h:l.length≤k):Zdm x l n k s ms=.inr (s,ms):=by
 cases n with
 |zero=>rfl
 |succ n=>rw[Zdm,if_pos h]
theorem Zel{x:Bool}{l:List UInt8}{n k:Nat}{s:RdS}{ms:List (Nat×List UInt8)}(h:¬l.length≤k)(hc:s.cmds.length=100):Zdm x l (n+1) k s ms=.inl (3,k):=by
 rw[Zdm,if_neg h,if_pos hc]
theorem Zfv{x:Bool}{l:List UInt8}{n k:Nat}{s:RdS}{ms:List (Nat×List UInt8)}{z:Int×Nat}(h:¬l.length≤k)(hc:¬s.cmds.length=100)(h1:Zeu x l k=.inl z):Zdm x l (n+1) k s ms=.inl z:=by
 rw[Zdm,if_neg h,if_neg hc,h1]
theorem ZhW{x:Bool}{l:List UInt8}{n k:Nat}{s:RdS}{ms:List (Nat×List UInt8)}{c:CV}{q:AdS}{z:Int}(h:¬l.length≤k)(hc:¬s.cmds.length=100)(h1:Zeu x l k=.inr (c,q))(h2:ZbZ c s=.inl z):Zdm x l (n+1) k s ms=.inl (z,c.at_):=by
 rw[Zdm,if_neg h,if_neg hc,h1];simp only[h2]
theorem ZhX{x:Bool}{l:List UInt8}{n k:Nat}{s s':RdS}{ms:List (Nat×List UInt8)}{c:CV}{q:AdS}(h:¬l.length≤k)(hc:¬s.cmds.length=100)(h1:Zeu x l k=.inr (c,q))(h2:ZbZ c s=.inr s'):Zdm x l (n+1) k s ms=Zdm x l n (Zaq l (l.length+1) q.at_) s' (ms++q.marks):=by
 rw[Zdm,if_neg h,if_neg hc,h1];simp only[h2]
section
variable {l A:List UInt8}
theorem ZhY:∀(n k:Nat),k≤l.length→Zaq (A++l) n (A.length+k)=A.length+Zaq l n k
 |0,k,hk=>Zdv Zc1 hk
 |n+1,k,hk=>by
  have hb:=bhd_in (l:=l) Zc1 hk;rw[Zaq,Zaq,Zdv Zc1 hk,Zbm];split
  ·next h=>
   have h1:=ZdP (l.drop (bhd l Zc1 k));rw[List.length_drop]at h1;rw[Nat.add_assoc];exact ZhY n _ (by omega)
  ·rfl
def Zep(B:RdS)(a:Nat)(s:RdS):RdS:=⟨B.cmds++s.cmds.map (shC a),B.labels++s.labels,s.opens.map (a+·)⟩
theorem Zoz{B:RdS}{a:Nat}{c:CV}{s:RdS}(h:c.name=58→B.labels.contains c.arg=false):ZbZ (shC a c) (Zep B a s)=(match ZbZ c s with| .inl e=>.inl e| .inr s'=>.inr (Zep B a s')):=by
 have e1:(shC a c).name=c.name:=rfl;have e2:(shC a c).arg=c.arg:=rfl;have e3:(shC a c).at_=a+c.at_:=rfl;have e4:(Zep B a s).opens.length=s.opens.length:=by unfold Zep;simp
 have e5:((Zep B a s).opens=[])↔(s.opens=[]):=by unfold Zep;simp
 unfold ZbZ;rw[e1,e2,e3,e4];by_cases h1:c.name=123
 ·rw[if_pos h1,if_pos h1];by_cases h2:s.opens.length=12
  ·rw[if_pos h2,if_pos h2]
  ·rw[if_neg h2,if_neg h2];unfold Zep;simp
 ·rw[if_neg h1,if_neg h1];by_cases h2:c.name=125
  ·rw[if_pos h2,if_pos h2];by_cases h3:s.opens=[]
   ·rw[if_pos (e5.2 h3),if_pos h3]
   ·rw[if_neg (fun e=>h3 (e5.1 e)),if_neg h3];unfold Zep;simp[List.map_dropLast]
  ·rw[if_neg h2,if_neg h2];by_cases h3:c.name=58
   ·rw[if_pos h3,if_pos h3];have e6:(Zep B a s).labels.contains c.arg=s.labels.contains c.arg:=by
     have:=h h3;unfold Zep;simp only[List.contains_eq_mem,List.mem_append]at this⊢;simp only[decide_eq_false_iff_not]at this;simp[this]
    rw[e6];cases s.labels.contains c.arg with
    |true=>rfl
    |false=>simp[Zep]
   ·rw[if_neg h3,if_neg h3];unfold Zep;simp
theorem ZoA{c:CV}{s s':RdS}(h:ZbZ c s=.inr s'):s'.cmds.length=s.cmds.length+1:=by
 unfold ZbZ at h
 (repeat' split at h)<;>first|(cases h;done)|(injection h with h;subst h;simp)
theorem put_labels{c:CV}{s s':RdS}(h:ZbZ c s=.inr s'):(∀b∈s.labels,b∈s'.labels)∧(c.name=58→c.arg∈s'.labels)∧s'.cmds=s.cmds++[c]:=by
 unfold ZbZ at h;split at h
 ·next hn=>split at h;(·cases h);(injection h with h;subst h;exact⟨fun _ e=>e,fun e=>(by rw[hn]at e;cases e),rfl⟩)
 ·split at h
  ·next hn=>split at h;(·cases h);(injection h with h;subst h;exact⟨fun _ e=>e,fun e=>(by rw[hn]at e;cases e),rfl⟩)
  ·split at h
   ·split at h;(·cases h);(injection h with h;subst h;exact⟨fun _ e=>List.mem_append_left _ e,fun _=>by simp,rfl⟩)
   ·next hn=>injection h with h;subst h;exact⟨fun _ e=>e,fun e=>(hn e).elim,rfl⟩
end
section
variable {s r:List UInt8}
def Kr(s r:List UInt8)(k k':Nat):Prop:=(k<s.length∧k'=k)∨(k=s.length∧k'=s.length+1+Zaq r (r.length+1) 0)
theorem ZmV{m:List UInt8}(cs:List UInt8){k:Nat}(hk:k<m.length)(h:cs.contains m[k]=true):bhd m cs k=bhd m cs (k+1):=by
 unfold bhd tl;rw[List.drop_eq_getElem_cons hk,List.dropWhile_cons,if_pos h]
theorem ZmW{m:List UInt8}(cs:List UInt8){k:Nat}(hk:k<m.length)(h:cs.contains m[k]=false):bhd m cs k=k:=by
 unfold bhd tl;rw[List.drop_eq_getElem_cons hk,List.dropWhile_cons,h];simp only[Bool.false_eq_true,if_false,List.length_cons,List.length_drop];omega
theorem ZrD(m cs:List UInt8):bhd m cs m.length=m.length:=by unfold bhd tl;simp
theorem bhd_nl:∀(n k:Nat),k≤s.length→s.length≤n+k→(bhd s Zc1 k<s.length∧bhd (s++10::r) Zc1 k=bhd s Zc1 k)∨(bhd s Zc1 k=s.length∧bhd (s++10::r) Zc1 k=bhd (s++10::r) Zc1 (s.length+1))
 |n,k,hk,hn=>by
  by_cases he:k=s.length
  ·subst he;refine .inr ⟨ZrD s Zc1,?_⟩;refine ZmV Zc1 (by simp) ?_;rw[List.getElem_append_right (Nat.le_refl _)];simp
  ·have hlt:k<s.length:=by omega
   have hlt':k<(s++10::r).length:=by rw[List.length_append];omega
   have hg:(s++10::r)[k]=s[k]:=List.getElem_append_left hlt;cases hc:Zc1.contains s[k]with
   |false=>
    rw[ZmW Zc1 hlt hc,ZmW Zc1 hlt' (by rw[hg];exact hc)];exact .inl ⟨hlt,rfl⟩
   |true=>
    rw[ZmV Zc1 hlt hc,ZmV Zc1 hlt' (by rw[hg];exact hc)]
    match n with
    |0=>omega
    |n+1=>exact bhd_nl n (k+1) hlt (by omega)
theorem ZoB(m r:List UInt8):lineL (m++10::r)=lineL m:=by
 unfold lineL;induction m with
 |nil=>rw[List.nil_append,List.takeWhile_cons,if_neg (by decide)];rfl
 |cons a m ih=>
  rw[List.cons_append,List.takeWhile_cons,List.takeWhile_cons,ih]
theorem Zrc(F:Nat)(hF:(s++10::r).length<F+(s.length+1)):Zaq (s++10::r) F (s.length+1)=s.length+1+Zaq r (r.length+1) 0:=by
 have e:s++10::r=(s++[10])++r:=by simp
 have hl:(s++[10]).length=s.length+1:=by simp
 have h1:=ZhY (l:=r) (A:=s++[10]) F 0 (Nat.zero_le _);rw[hl,Nat.add_zero]at h1;rw[e,h1];rw[List.length_append]at hF;simp only[List.length_cons]at hF;rw[Zei F (r.length+1) 0 (Nat.zero_le _) (by omega) (by omega)]
theorem ZrE:∀(n F k:Nat),k≤s.length→s.length<n+k→(s++10::r).length<F+k→Kr s r (Zaq s n k) (Zaq (s++10::r) F k)
 |0,_,k,hk,hn,_=>by omega
 |n+1,0,k,hk,_,hF=>by rw[List.length_append]at hF;omega
 |n+1,F+1,k,hk,hn,hF=>by
  have hb:=bhd_in (l:=s) Zc1 hk;have hlen:(s++10::r).length=s.length+1+r.length:=by rw[List.length_append,List.length_cons];omega
  rcases bhd_nl (s:=s) (r:=r) s.length k hk (by omega)with⟨h1,h2⟩|⟨h1,h2⟩
  ·rw[Zaq,Zaq,h2];have hd:(s++10::r).drop (bhd s Zc1 k)=s.drop (bhd s Zc1 k)++10::r:=by rw[List.drop_append_of_le_length (by omega)]
   have hh:((s++10::r).drop (bhd s Zc1 k)).head? =(s.drop (bhd s Zc1 k)).head? :=by
    rw[hd,List.drop_eq_getElem_cons h1];rfl
   rw[hh,hd,ZoB];split
   ·next h=>
    have g1:=ZdP (s.drop (bhd s Zc1 k));have g2:=ZiE h;rw[List.length_drop]at g1;exact ZrE n F _ (by omega) (by omega) (by omega)
   ·exact .inl ⟨h1,rfl⟩
  ·have e0:Zaq s (n+1) k=s.length:=by
    rw[Zaq,h1,if_neg (by rw[List.drop_length];simp)]
   rw[e0];refine .inr ⟨rfl,?_⟩;have e1:Zaq (s++10::r) (F+1) k=Zaq (s++10::r) (F+1) (s.length+1):=by
    rw[Zaq,Zaq,h2]
   rw[e1];exact Zrc (F+1) (by omega)
theorem Zrr{k k' F:Nat}(hk:k≤s.length)(h:k'=k∨(k=s.length∧k'=s.length+1))(hF:(s++10::r).length<F):Kr s r (Zaq s (s.length+1) k) (Zaq (s++10::r) F k'):=by
 rcases h with rfl|⟨rfl,rfl⟩
 ·exact ZrE _ _ _ hk (by omega) (by omega)
 ·refine .inr ⟨?_,Zrc F (by omega)⟩;rw[Zaq,ZrD,if_neg (by rw[List.drop_length];simp)]
theorem ZrW(x:Bool):∀(n m k k':Nat) (st st':RdS) (ms ms':List (Nat×List UInt8)),Kr s r k k'→k≤s.length→st.cmds.length≤100→100<n+st.cmds.length→Zdm x s n k st ms=.inr (st',ms')→
 st.cmds.length≤st'.cmds.length∧Zdm x (s++10::r) (m+(st'.cmds.length-st.cmds.length)) k' st ms=Zdm x (s++10::r) m (s.length+1+Zaq r (r.length+1) 0) st' ms'
 |0,m,k,k',st,st',ms,ms',hK,hk,hc0,hn,h=>by omega
 |n+1,m,k,k',st,st',ms,ms',hK,hk,hc0,hn,h=>by
  rw[Zdm]at h;rcases hK with⟨h1,rfl⟩|⟨rfl,rfl⟩
  ·rw[if_neg (by omega)]at h;by_cases h2:st.cmds.length=100
   ·rw[if_pos h2]at h;cases h
   ·rw[if_neg h2]at h;cases hc:Zeu x s k' with
    |inl z=>rw[hc]at h;cases h
    |inr z=>
     obtain⟨c,q⟩:=z;rw[hc]at h;simp only at h;cases hp:ZbZ c st with
     |inl e=>rw[hp]at h;cases h
     |inr s1=>
      rw[hp]at h;simp only at h;have hs1:=ZoA hp;have hq:=(Zgq hk hc).1;obtain⟨q',hc',hm,_,hat⟩:=Zr1 (r:=r) hk hc;have hK':=Zrr (s:=s) (r:=r) (F:=(s++10::r).length+1) hq hat (by omega);have ih:=ZrW x n m _ _ s1 st' _ ms' hK' (Zeh _ _ hq).2 (by omega) (by omega) h;refine⟨by omega,?_⟩;rw[show m+(st'.cmds.length-st.cmds.length)=(m+(st'.cmds.length-s1.cmds.length))+1 by omega,Zdm,if_neg (by rw[List.length_append,List.length_cons];omega),if_neg h2,hc'];simp only[hp,hm];exact ih.2
  ·rw[if_pos (Nat.le_refl _)]at h;injection h with h;injection h with h1 h2;subst h1;subst h2;exact⟨Nat.le_refl _,by rw[Nat.sub_self,Nat.add_zero]⟩
end
def Zp0(s:RdS):Prop:=∀b,b∈s.labels↔∃c∈s.cmds,c.name=58∧c.arg=b
theorem Zsj:Zp0 RdS.zero:=fun b=>by unfold RdS.zero;simp
theorem ZoC{c:CV}{s s':RdS}(hs:Zp0 s)(h:ZbZ c s=.inr s'):Zp0 s':=by
 unfold Zp0 at hs⊢;intro b;have key:∀(L:List (List UInt8)),(c.name≠58→L=s.labels)→(c.name=58→L=s.labels++[c.arg])→(b∈L↔∃d∈s.cmds++[c],d.name=58∧d.arg=b):=fun L h1 h2=>by
  by_cases hn:c.name=58
  ·rw[h2 hn];simp[hs b,hn,or_and_right,exists_or,eq_comm]
  ·rw[h1 hn];simp[hs b,hn,or_and_right,exists_or]
 unfold ZbZ at h;split at h
 ·next hn=>split at h;(·cases h);(injection h with h;subst h;exact key _ (fun _=>rfl) (fun e=>by rw[hn]at e;cases e))
 ·split at h
  ·next hn=>split at h;(·cases h);(injection h with h;subst h;exact key _ (fun _=>rfl) (fun e=>by rw[hn]at e;cases e))
  ·split at h
   ·next hn=>split at h;(·cases h);(injection h with h;subst h;exact key _ (fun e=>(e hn).elim) (fun _=>rfl))
   ·next hn=>injection h with h;subst h;exact key _ (fun _=>rfl) (fun e=>(hn e).elim)
theorem ZiM(x:Bool)(l:List UInt8):∀(n k:Nat) (s s':RdS) (ms ms':List (Nat×List UInt8)),Zdm x l n k s ms=.inr (s',ms')→(∀b∈s.labels,b∈s'.labels)∧s.cmds.length≤s'.cmds.length∧(Zp0 s→Zp0 s')∧(s.cmds.length≤100→s'.cmds.length≤100)
 |0,k,s,s',ms,ms',h=>by
  injection h with h;injection h with h _;subst h;exact⟨fun _ e=>e,Nat.le_refl _,fun e=>e,fun e=>e⟩
 |n+1,k,s,s',ms,ms',h=>by
  rw[Zdm]at h;split at h
  ·injection h with h;injection h with h _;subst h;exact⟨fun _ e=>e,Nat.le_refl _,fun e=>e,fun e=>e⟩
  ·split at h
   ·cases h
   ·next hne=>
    split at h
    ·cases h
    ·split at h
     ·cases h
     ·next hp=>
      have h1:=put_labels hp;have h2:=ZoA hp;obtain⟨i1,i2,i3,i4⟩:=ZiM x l n _ _ _ _ _ h;exact⟨fun b e=>i1 b (h1.1 b e),by omega,fun e=>i3 (ZoC e hp),fun e=>i4 (by omega)⟩
section
variable {A l:List UInt8}
theorem Zsl(x:Bool)(B:RdS):∀(n m k:Nat) (s s':RdS) (ms ms' M:List (Nat×List UInt8)),k≤l.length→s.cmds.length≤100→100<n+s.cmds.length→Zdm x l n k s ms=.inr (s',ms')→(∀b∈s'.labels,B.labels.contains b=false)→
 B.cmds.length+s.cmds.length≤100→100<m+(B.cmds.length+s.cmds.length)→
 (B.cmds.length+s'.cmds.length≤100→∃M',Zdm x (A++l) m (A.length+k) (Zep B A.length s) M=.inr (Zep B A.length s',M'))∧(100<B.cmds.length+s'.cmds.length→∃p,Zdm x (A++l) m (A.length+k) (Zep B A.length s) M=.inl (3,p))
 |0,m,k,s,s',ms,ms',M,hk,hs,hn,h,hl,hB,hm=>by omega
 |n+1,0,k,s,s',ms,ms',M,hk,hs,hn,h,hl,hB,hm=>by omega
 |n+1,m+1,k,s,s',ms,ms',M,hk,hs,hn,h,hl,hB,hm=>by
  have hkeep:=ZiM x l (n+1) k s s' ms ms' h;have e1:(Zep B A.length s).cmds.length=B.cmds.length+s.cmds.length:=by unfold Zep;simp
  rw[Zdm]at h;by_cases h1:l.length≤k
  ·rw[if_pos h1]at h;injection h with h;injection h with h h';subst h;refine⟨fun _=>⟨M,?_⟩,fun e=>by omega⟩;rw[Zdm,if_pos (by rw[List.length_append];omega)]
  ·rw[if_neg h1]at h;split at h
   ·cases h
   ·next hne=>
    cases hc:Zeu x l k with
    |inl z=>rw[hc]at h;cases h
    |inr z=>
     obtain⟨c,q⟩:=z;rw[hc]at h;simp only at h;cases hp:ZbZ c s with
     |inl e=>rw[hp]at h;cases h
     |inr s1=>
      rw[hp]at h;simp only at h;have h2:=ZoA hp;have h3:=put_labels hp;have hk1:=ZiM x l n _ _ _ _ _ h;by_cases h4:B.cmds.length+s.cmds.length=100
      ·refine⟨fun e=>by omega,fun _=>⟨A.length+k,?_⟩⟩;rw[Zdm,if_neg (by rw[List.length_append];omega),e1,if_pos h4]
      ·have hq:=(Zgq hk hc).1;have hput:=Zoz (B:=B) (a:=A.length) (c:=c) (s:=s) (fun e=>hl _ (hk1.1 _ (h3.2.1 e)));rw[hp]at hput;have e4:=Zeh (l:=l) (l.length+1) q.at_ hq;have ih:=Zsl x B n m _ s1 s' _ ms' (M++q.marks.map (shM A.length)) e4.2 (by omega) (by omega) h hl (by omega) (by omega);have hstep:Zdm x (A++l) (m+1) (A.length+k) (Zep B A.length s) M=Zdm x (A++l) m (A.length+Zaq l (l.length+1) q.at_) (Zep B A.length s1) (M++q.marks.map (shM A.length)):=by
        rw[Zdm,if_neg (by rw[List.length_append];omega),e1,if_neg h4,Zon x hk,hc];simp only[ZqA];rw[hput];simp only;have e2:(shS A.length [] q).at_=A.length+q.at_:=rfl;have e3:(shS A.length [] q).marks=q.marks.map (shM A.length):=by unfold shS;simp
        rw[e2,e3,ZhY _ _ hq,Zei ((A++l).length+1) (l.length+1) q.at_ hq (by rw[List.length_append];omega) (by omega)]
       rw[hstep];exact ih
end
theorem Zsf{s:RdS}(h:Za8 s=none):s.opens=[]∧∀c∈s.cmds,Zcc s.labels c=false:=by
 unfold Za8 at h;split at h
 ·cases h
 ·next ho=>
  split at h
  ·cases h
  ·next hf=>
   refine⟨by simpa using ho,fun c hc=> ?_⟩;have:=List.find?_eq_none.1 hf c hc;simpa using this
theorem Zsk{s:RdS}(h1:s.opens=[])(h2:∀c∈s.cmds,Zcc s.labels c=false):Za8 s=none:=by
 unfold Za8;rw[h1];simp only[List.getLast?_nil];rw[List.find?_eq_none.2 (fun c hc=>by rw[h2 c hc];simp)]
theorem lost_more{L L':List (List UInt8)}{c:CV}(h:Zcc L c=false)(hs:∀b∈L,b∈L'):Zcc L' c=false:=by
 unfold Zcc at h⊢;cases h1:(ZiD c&&(c.arg !=[]))with
 |false=>rfl
 |true=>
  rw[h1]at h;simp only[Bool.true_and,Bool.not_eq_false']at h⊢;rw[List.contains_iff_mem]at h⊢;exact hs _ h
theorem Zsm{B s:RdS}{a:Nat}(hB:Za8 B=none)(hs:Za8 s=none):Za8 (Zep B a s)=none:=by
 obtain⟨b1,b2⟩:=Zsf hB;obtain⟨s1,s2⟩:=Zsf hs;refine Zsk (by unfold Zep;simp[s1]) fun c hc=> ?_;rcases List.mem_append.1 hc with hc|hc
 ·exact lost_more (b2 c hc) (fun b e=>List.mem_append_left _ e)
 ·obtain⟨d,hd,rfl⟩:=List.mem_map.1 hc;exact lost_more (L:=s.labels) (by exact s2 d hd) (fun b e=>List.mem_append_right _ e)
theorem ZiN{x:Bool}{l:List UInt8}{a:ScV}{ms:List (Nat×List UInt8)}(h:ZdO x l=.inr (a,ms)):
 l.length≤4000∧∃st,Zdm x l 101 (Zaq l (l.length+1) 0) RdS.zero []=.inr (st,ms)∧Za8 st=none∧a=⟨lineL l==[35,110],st.cmds⟩:=by
 unfold ZdO at h;split at h
 ·cases h
 ·next h0=>
  split at h
  ·cases h
  ·next st m1 hs=>
   split at h
   ·cases h
   ·next hw=>
    injection h with h;injection h with h1 h2;subst h1;subst h2;exact⟨by omega,st,hs,hw,rfl⟩
theorem Zr2{x:Bool}{l:List UInt8}{st:RdS}{ms:List (Nat×List UInt8)}(hl:l.length≤4000)(h:Zdm x l 101 (Zaq l (l.length+1) 0) RdS.zero []=.inr (st,ms))(hw:Za8 st=none):ZdO x l=.inr (⟨lineL l==[35,110],st.cmds⟩,ms):=by
 unfold ZdO;rw[if_neg (by omega),h];simp only[hw]
theorem Zsp{x:Bool}{s t:List UInt8}{a b:ScV}{ma mb:List (Nat×List UInt8)}(hs:ZdO x s=.inr (a,ma))(ht:ZdO x t=.inr (b,mb))(hlen:(s++10::t).length≤4000)
 (hlab:∀c∈b.cmds,c.name=58→∀d∈a.cmds,d.name=58→d.arg≠c.arg):
 (100<a.cmds.length+b.cmds.length→∃p,ZdO x (s++10::t)=.inl (3,p))∧
 (a.cmds.length+b.cmds.length≤100→∃M,ZdO x (s++10::t)=.inr (⟨a.quiet,a.cmds++b.cmds.map (shC (s.length+1))⟩,M)):=by
 obtain⟨l1,sa,a1,a2,rfl⟩:=ZiN hs;obtain⟨l2,sb,b1,b2,rfl⟩:=ZiN ht;simp only at hlab⊢;have hsk:=Zrr (s:=s) (r:=t) (F:=(s++10::t).length+1) (Nat.zero_le _) (.inl rfl) (by omega);have hin:=(Zeh (l:=s) (s.length+1) 0 (Nat.zero_le _)).2;have ka:=ZiM x s _ _ _ _ _ _ a1;have kb:=ZiM x t _ _ _ _ _ _ b1;have ca:sa.cmds.length≤100:=ka.2.2.2 (by unfold RdS.zero;simp);have h1:=(ZrW x 101 (101-sa.cmds.length) _ _ RdS.zero sa [] ma hsk hin (by unfold RdS.zero;simp) (by unfold RdS.zero;simp) a1).2;rw[show 101-sa.cmds.length+(sa.cmds.length-RdS.zero.cmds.length)=101 by unfold RdS.zero;simp only[List.length_nil];omega]at h1;have hA:s++10::t=(s++[10])++t:=by simp
 have hAl:(s++[10]).length=s.length+1:=by simp
 have hz:Zep sa (s.length+1) RdS.zero=sa:=by
  have:=(Zsf a2).1;obtain⟨c1,c2,c3⟩:=sa;simp only at this;subst this;unfold Zep RdS.zero;simp
 have hdis:∀bb∈sb.labels,sa.labels.contains bb=false:=fun bb hb=>by
  rw[Bool.eq_false_iff];intro hc;rw[List.contains_iff_mem]at hc;obtain⟨c,hc1,hc2,hc3⟩:=(kb.2.2.1 Zsj bb).1 hb;obtain⟨d,hd1,hd2,hd3⟩:=(ka.2.2.1 Zsj bb).1 hc;exact hlab c hc1 hc2 d hd1 hd2 (by rw[hd3,hc3])
 have h2:=Zsl (A:=s++[10]) (l:=t) x sa 101 (101-sa.cmds.length) (Zaq t (t.length+1) 0) RdS.zero sb [] mb ma (Zeh _ _ (Nat.zero_le _)).2 (by unfold RdS.zero;simp) (by unfold RdS.zero;simp) b1 hdis (by unfold RdS.zero;simpa using ca) (by unfold RdS.zero;simp only[List.length_nil];omega);rw[hAl,hz,←hA]at h2;have hq:(lineL (s++10::t)==[35,110])=(lineL s==[35,110]):=by rw[ZoB]
 refine⟨fun e=> ?_,fun e=> ?_⟩
 ·obtain⟨p,hp⟩:=h2.2 e;refine⟨p,?_⟩;unfold ZdO;rw[if_neg (by omega),h1,hp]
 ·obtain⟨M,hM⟩:=h2.1 e;refine⟨M,?_⟩;rw[Zr2 hlen (h1.trans hM) (Zsm a2 b2),hq];rfl
end Go.Proofs.YtkfddjopbocpkaaGreatDoor
