/- Lemmas of this claim. -/
import Derived.Test.YtkfddjopbocpkaaGreatDoorM22
set_option linter.unusedVariables false
set_option linter.unusedSimpArgs false
set_option maxRecDepth 100000
set_option maxHeartbeats 4000000
namespace Go.Proofs.YtkfddjopbocpkaaGreatDoor
open Go.RowKit
section
variable {l A:List UInt8}
theorem ZhY:∀(n k:Nat),k≤l.length→Zaq (A++l) n (A.length+k)=A.length+Zaq l n k
 |0,k,hk=>Zdv Zc1 hk
 |n+1,k,hk=>by
  have hb:=bhd_in (l:=l) Zc1 hk;rw[Zaq,Zaq,Zdv Zc1 hk,Zbm];split
  ·next h=>
   have h1:=ZdP (l.drop (bhd l Zc1 k));rw[List.length_drop]at h1;rw[Nat.add_assoc];exact ZhY n _ (by omega)
  ·rfl
def Zep(B:RdS)(a:Nat)(s:RdS):RdS:=⟨B.cmds++s.cmds.map (shC a),B.labels++s.labels,s.opens.map (a+·)⟩
def ZqP(a:Nat):ZpO→ZpO
 | .inl z=>.inl (z.1,a+z.2)
 | .inr r=>.inr (Zep RdS.zero a r.1,r.2.map (shM a))
theorem Zoz{B:RdS}{a:Nat}{c:CV}{s:RdS}(h:c.name=58→B.labels.contains c.arg=false):ZbZ (shC a c) (Zep B a s)=(match ZbZ c s with| .inl e=>.inl e| .inr s'=>.inr (Zep B a s')):=by
 have e1:(shC a c).name=c.name:=rfl;have e2:(shC a c).arg=c.arg:=rfl;have e3:(shC a c).at_=a+c.at_:=rfl;have e4:(Zep B a s).opens.length=s.opens.length:=by unfold Zep;simp
 have e5:((Zep B a s).opens=[])↔(s.opens=[]):=by unfold Zep;simp
 unfold ZbZ;rw[e1,e2,e3,e4];by_cases h1:c.name=123
 ·rw[if_pos h1,if_pos h1];by_cases h2:s.opens.length=12
  ·rw[if_pos h2,if_pos h2]
  ·rw[if_neg h2,if_neg h2];unfold Zep;simp
 ·rw[if_neg h1,if_neg h1];by_cases h2:c.name=125
  ·rw[if_pos h2,if_pos h2];by_cases h3:s.opens=[]
   ·rw[if_pos (e5.2 h3),if_pos h3]
   ·rw[if_neg (fun e=>h3 (e5.1 e)),if_neg h3];unfold Zep;simp[List.map_dropLast]
  ·rw[if_neg h2,if_neg h2];by_cases h3:c.name=58
   ·rw[if_pos h3,if_pos h3];have e6:(Zep B a s).labels.contains c.arg=s.labels.contains c.arg:=by
     have:=h h3;unfold Zep;simp only[List.contains_eq_mem,List.mem_append]at this⊢;simp only[decide_eq_false_iff_not]at this;simp[this]
    rw[e6];cases s.labels.contains c.arg with
    |true=>rfl
    |false=>simp[Zep]
   ·rw[if_neg h3,if_neg h3];unfold Zep;simp
theorem ZoA{c:CV}{s s':RdS}(h:ZbZ c s=.inr s'):s'.cmds.length=s.cmds.length+1:=by
 unfold ZbZ at h
 (repeat' split at h)<;>first|(cases h;done)|(injection h with h;subst h;simp)
theorem put_labels{c:CV}{s s':RdS}(h:ZbZ c s=.inr s'):(∀b∈s.labels,b∈s'.labels)∧(c.name=58→c.arg∈s'.labels)∧s'.cmds=s.cmds++[c]:=by
 unfold ZbZ at h;split at h
 ·next hn=>split at h;(·cases h);(injection h with h;subst h;exact⟨fun _ e=>e,fun e=>(by rw[hn]at e;cases e),rfl⟩)
 ·split at h
  ·next hn=>split at h;(·cases h);(injection h with h;subst h;exact⟨fun _ e=>e,fun e=>(by rw[hn]at e;cases e),rfl⟩)
  ·split at h
   ·split at h;(·cases h);(injection h with h;subst h;exact⟨fun _ e=>List.mem_append_left _ e,fun _=>by simp,rfl⟩)
   ·next hn=>injection h with h;subst h;exact⟨fun _ e=>e,fun e=>(hn e).elim,rfl⟩
theorem Zno(x:Bool):∀(n k:Nat) (s:RdS) (ms:List (Nat×List UInt8)),k≤l.length→Zdm x (A++l) n (A.length+k) (Zep RdS.zero A.length s) (ms.map (shM A.length))=ZqP A.length (Zdm x l n k s ms)
 |0,k,s,ms,hk=>rfl
 |n+1,k,s,ms,hk=>by
  rw[Zdm,Zdm];by_cases h1:l.length≤k
  ·rw[if_pos h1,if_pos (by rw[List.length_append];omega)];rfl
  ·rw[if_neg h1,if_neg (by rw[List.length_append];omega)];have e1:(Zep RdS.zero A.length s).cmds.length=s.cmds.length:=by unfold Zep RdS.zero;simp
   rw[e1];by_cases h2:s.cmds.length=100
   ·rw[if_pos h2,if_pos h2];rfl
   ·rw[if_neg h2,if_neg h2,Zon x hk];cases hc:Zeu x l k with
    |inl z=>rfl
    |inr r=>
     obtain⟨c,q⟩:=r;have hq:=(Zgq hk hc).1;simp only[ZqA];rw[Zoz (fun _=>rfl)];cases ZbZ c s with
     |inl e=>rfl
     |inr s'=>
      simp only;have e2:(shS A.length [] q).at_=A.length+q.at_:=rfl;have e3:(shS A.length [] q).marks=q.marks.map (shM A.length):=by unfold shS;simp
      rw[e2,e3,ZhY _ _ hq,←List.map_append];have e4:=Zeh (l:=l) ((A++l).length+1) q.at_ hq;rw[Zno x n _ s' _ e4.2,Zei ((A++l).length+1) (l.length+1) q.at_ hq (by rw[List.length_append];omega) (by omega)]
theorem ZiL(labels:List (List UInt8))(a:Nat):∀cs:List CV,(cs.map (shC a)).find? (Zcc labels)=(cs.find? (Zcc labels)).map (shC a)
 |[]=>rfl
 |c::cs=>by
  rw[List.map_cons,List.find?_cons,List.find?_cons];have e:Zcc labels (shC a c)=Zcc labels c:=rfl;rw[e];cases Zcc labels c with
  |true=>rfl
  |false=>exact ZiL labels a cs
theorem ZmU(a:Nat)(s:RdS):Za8 (Zep RdS.zero a s)=(Za8 s).map (fun z=>(z.1,a+z.2)):=by
 have e1:(Zep RdS.zero a s).opens.getLast? =s.opens.getLast?.map (a+·):=by unfold Zep;simp[List.getLast?_map]
 have e2:(Zep RdS.zero a s).cmds=s.cmds.map (shC a):=rfl;have e3:(Zep RdS.zero a s).labels=s.labels:=rfl;unfold Za8;rw[e1,e2,e3,ZiL];cases s.opens.getLast? with
 |some p=>rfl
 |none=>
  simp only[Option.map_none];cases s.cmds.find? (Zcc s.labels)with
  |none=>rfl
  |some c=>rfl
end
section
variable {s r:List UInt8}
def Kr(s r:List UInt8)(k k':Nat):Prop:=(k<s.length∧k'=k)∨(k=s.length∧k'=s.length+1+Zaq r (r.length+1) 0)
theorem ZmV{m:List UInt8}(cs:List UInt8){k:Nat}(hk:k<m.length)(h:cs.contains m[k]=true):bhd m cs k=bhd m cs (k+1):=by
 unfold bhd tl;rw[List.drop_eq_getElem_cons hk,List.dropWhile_cons,if_pos h]
theorem ZmW{m:List UInt8}(cs:List UInt8){k:Nat}(hk:k<m.length)(h:cs.contains m[k]=false):bhd m cs k=k:=by
 unfold bhd tl;rw[List.drop_eq_getElem_cons hk,List.dropWhile_cons,h];simp only[Bool.false_eq_true,if_false,List.length_cons,List.length_drop];omega
theorem ZrD(m cs:List UInt8):bhd m cs m.length=m.length:=by unfold bhd tl;simp
theorem bhd_nl:∀(n k:Nat),k≤s.length→s.length≤n+k→(bhd s Zc1 k<s.length∧bhd (s++10::r) Zc1 k=bhd s Zc1 k)∨(bhd s Zc1 k=s.length∧bhd (s++10::r) Zc1 k=bhd (s++10::r) Zc1 (s.length+1))
 |n,k,hk,hn=>by
  by_cases he:k=s.length
  ·subst he;refine .inr ⟨ZrD s Zc1,?_⟩;refine ZmV Zc1 (by simp) ?_;rw[List.getElem_append_right (Nat.le_refl _)];simp
  ·have hlt:k<s.length:=by omega
   have hlt':k<(s++10::r).length:=by rw[List.length_append];omega
   have hg:(s++10::r)[k]=s[k]:=List.getElem_append_left hlt;cases hc:Zc1.contains s[k]with
   |false=>
    rw[ZmW Zc1 hlt hc,ZmW Zc1 hlt' (by rw[hg];exact hc)];exact .inl ⟨hlt,rfl⟩
   |true=>
    rw[ZmV Zc1 hlt hc,ZmV Zc1 hlt' (by rw[hg];exact hc)]
    match n with
    |0=>omega
    |n+1=>exact bhd_nl n (k+1) hlt (by omega)
theorem ZoB(m r:List UInt8):lineL (m++10::r)=lineL m:=by
 unfold lineL;induction m with
 |nil=>rw[List.nil_append,List.takeWhile_cons,if_neg (by decide)];rfl
 |cons a m ih=>
  rw[List.cons_append,List.takeWhile_cons,List.takeWhile_cons,ih]
theorem Zrc(F:Nat)(hF:(s++10::r).length<F+(s.length+1)):Zaq (s++10::r) F (s.length+1)=s.length+1+Zaq r (r.length+1) 0:=by
 have e:s++10::r=(s++[10])++r:=by simp
 have hl:(s++[10]).length=s.length+1:=by simp
 have h1:=ZhY (l:=r) (A:=s++[10]) F 0 (Nat.zero_le _);rw[hl,Nat.add_zero]at h1;rw[e,h1];rw[List.length_append]at hF;simp only[List.length_cons]at hF;rw[Zei F (r.length+1) 0 (Nat.zero_le _) (by omega) (by omega)]
theorem ZrE:∀(n F k:Nat),k≤s.length→s.length<n+k→(s++10::r).length<F+k→Kr s r (Zaq s n k) (Zaq (s++10::r) F k)
 |0,_,k,hk,hn,_=>by omega
 |n+1,0,k,hk,_,hF=>by rw[List.length_append]at hF;omega
 |n+1,F+1,k,hk,hn,hF=>by
  have hb:=bhd_in (l:=s) Zc1 hk;have hlen:(s++10::r).length=s.length+1+r.length:=by rw[List.length_append,List.length_cons];omega
  rcases bhd_nl (s:=s) (r:=r) s.length k hk (by omega)with⟨h1,h2⟩|⟨h1,h2⟩
  ·rw[Zaq,Zaq,h2];have hd:(s++10::r).drop (bhd s Zc1 k)=s.drop (bhd s Zc1 k)++10::r:=by rw[List.drop_append_of_le_length (by omega)]
   have hh:((s++10::r).drop (bhd s Zc1 k)).head? =(s.drop (bhd s Zc1 k)).head? :=by
    rw[hd,List.drop_eq_getElem_cons h1];rfl
   rw[hh,hd,ZoB];split
   ·next h=>
    have g1:=ZdP (s.drop (bhd s Zc1 k));have g2:=ZiE h;rw[List.length_drop]at g1;exact ZrE n F _ (by omega) (by omega) (by omega)
   ·exact .inl ⟨h1,rfl⟩
  ·have e0:Zaq s (n+1) k=s.length:=by
    rw[Zaq,h1,if_neg (by rw[List.drop_length];simp)]
   rw[e0];refine .inr ⟨rfl,?_⟩;have e1:Zaq (s++10::r) (F+1) k=Zaq (s++10::r) (F+1) (s.length+1):=by
    rw[Zaq,Zaq,h2]
   rw[e1];exact Zrc (F+1) (by omega)
theorem Zrr{k k' F:Nat}(hk:k≤s.length)(h:k'=k∨(k=s.length∧k'=s.length+1))(hF:(s++10::r).length<F):Kr s r (Zaq s (s.length+1) k) (Zaq (s++10::r) F k'):=by
 rcases h with rfl|⟨rfl,rfl⟩
 ·exact ZrE _ _ _ hk (by omega) (by omega)
 ·refine .inr ⟨?_,Zrc F (by omega)⟩;rw[Zaq,ZrD,if_neg (by rw[List.drop_length];simp)]
theorem ZrW(x:Bool):∀(n m k k':Nat) (st st':RdS) (ms ms':List (Nat×List UInt8)),Kr s r k k'→k≤s.length→st.cmds.length≤100→100<n+st.cmds.length→Zdm x s n k st ms=.inr (st',ms')→
 st.cmds.length≤st'.cmds.length∧Zdm x (s++10::r) (m+(st'.cmds.length-st.cmds.length)) k' st ms=Zdm x (s++10::r) m (s.length+1+Zaq r (r.length+1) 0) st' ms'
 |0,m,k,k',st,st',ms,ms',hK,hk,hc0,hn,h=>by omega
 |n+1,m,k,k',st,st',ms,ms',hK,hk,hc0,hn,h=>by
  rw[Zdm]at h;rcases hK with⟨h1,rfl⟩|⟨rfl,rfl⟩
  ·rw[if_neg (by omega)]at h;by_cases h2:st.cmds.length=100
   ·rw[if_pos h2]at h;cases h
   ·rw[if_neg h2]at h;cases hc:Zeu x s k' with
    |inl z=>rw[hc]at h;cases h
    |inr z=>
     obtain⟨c,q⟩:=z;rw[hc]at h;simp only at h;cases hp:ZbZ c st with
     |inl e=>rw[hp]at h;cases h
     |inr s1=>
      rw[hp]at h;simp only at h;have hs1:=ZoA hp;have hq:=(Zgq hk hc).1;obtain⟨q',hc',hm,_,hat⟩:=Zr1 (r:=r) hk hc;have hK':=Zrr (s:=s) (r:=r) (F:=(s++10::r).length+1) hq hat (by omega);have ih:=ZrW x n m _ _ s1 st' _ ms' hK' (Zeh _ _ hq).2 (by omega) (by omega) h;refine⟨by omega,?_⟩;rw[show m+(st'.cmds.length-st.cmds.length)=(m+(st'.cmds.length-s1.cmds.length))+1 by omega,Zdm,if_neg (by rw[List.length_append,List.length_cons];omega),if_neg h2,hc'];simp only[hp,hm];exact ih.2
  ·rw[if_pos (Nat.le_refl _)]at h;injection h with h;injection h with h1 h2;subst h1;subst h2;exact⟨Nat.le_refl _,by rw[Nat.sub_self,Nat.add_zero]⟩
end
def Zp0(s:RdS):Prop:=∀b,b∈s.labels↔∃c∈s.cmds,c.name=58∧c.arg=b
theorem ZoC{c:CV}{s s':RdS}(hs:Zp0 s)(h:ZbZ c s=.inr s'):Zp0 s':=by
 unfold Zp0 at hs⊢;intro b;have key:∀(L:List (List UInt8)),(c.name≠58→L=s.labels)→(c.name=58→L=s.labels++[c.arg])→(b∈L↔∃d∈s.cmds++[c],d.name=58∧d.arg=b):=fun L h1 h2=>by
  by_cases hn:c.name=58
  ·rw[h2 hn];simp[hs b,hn,or_and_right,exists_or,eq_comm]
  ·rw[h1 hn];simp[hs b,hn,or_and_right,exists_or]
 unfold ZbZ at h;split at h
 ·next hn=>split at h;(·cases h);(injection h with h;subst h;exact key _ (fun _=>rfl) (fun e=>by rw[hn]at e;cases e))
 ·split at h
  ·next hn=>split at h;(·cases h);(injection h with h;subst h;exact key _ (fun _=>rfl) (fun e=>by rw[hn]at e;cases e))
  ·split at h
   ·next hn=>split at h;(·cases h);(injection h with h;subst h;exact key _ (fun e=>(e hn).elim) (fun _=>rfl))
   ·next hn=>injection h with h;subst h;exact key _ (fun _=>rfl) (fun e=>(hn e).elim)
theorem ZiM(x:Bool)(l:List UInt8):∀(n k:Nat) (s s':RdS) (ms ms':List (Nat×List UInt8)),Zdm x l n k s ms=.inr (s',ms')→(∀b∈s.labels,b∈s'.labels)∧s.cmds.length≤s'.cmds.length∧(Zp0 s→Zp0 s')∧(s.cmds.length≤100→s'.cmds.length≤100)
 |0,k,s,s',ms,ms',h=>by
  injection h with h;injection h with h _;subst h;exact⟨fun _ e=>e,Nat.le_refl _,fun e=>e,fun e=>e⟩
 |n+1,k,s,s',ms,ms',h=>by
  rw[Zdm]at h;split at h
  ·injection h with h;injection h with h _;subst h;exact⟨fun _ e=>e,Nat.le_refl _,fun e=>e,fun e=>e⟩
  ·split at h
   ·cases h
   ·next hne=>
    split at h
    ·cases h
    ·split at h
     ·cases h
     ·next hp=>
      have h1:=put_labels hp;have h2:=ZoA hp;obtain⟨i1,i2,i3,i4⟩:=ZiM x l n _ _ _ _ _ h;exact⟨fun b e=>i1 b (h1.1 b e),by omega,fun e=>i3 (ZoC e hp),fun e=>i4 (by omega)⟩
section
variable {A l:List UInt8}
end
theorem ZiN{x:Bool}{l:List UInt8}{a:ScV}{ms:List (Nat×List UInt8)}(h:ZdO x l=.inr (a,ms)):
 l.length≤4000∧∃st,Zdm x l 101 (Zaq l (l.length+1) 0) RdS.zero []=.inr (st,ms)∧Za8 st=none∧a=⟨lineL l==[35,110],st.cmds⟩:=by
 unfold ZdO at h;split at h
 ·cases h
 ·next h0=>
  split at h
  ·cases h
  ·next st m1 hs=>
   split at h
   ·cases h
   ·next hw=>
    injection h with h;injection h with h1 h2;subst h1;subst h2;exact⟨by omega,st,hs,hw,rfl⟩
theorem Zr2{x:Bool}{l:List UInt8}{st:RdS}{ms:List (Nat×List UInt8)}(hl:l.length≤4000)(h:Zdm x l 101 (Zaq l (l.length+1) 0) RdS.zero []=.inr (st,ms))(hw:Za8 st=none):ZdO x l=.inr (⟨lineL l==[35,110],st.cmds⟩,ms):=by
 unfold ZdO;rw[if_neg (by omega),h];simp only[hw]
theorem Zls{x:Bool}{A l:List UInt8}(hlen:(A++l).length≤4000)(hsk:Zaq (A++l) ((A++l).length+1) 0=A.length+Zaq l (l.length+1) 0):
 ZdO x (A++l)=(match ZdO x l with| .inl z=>.inl (z.1,A.length+z.2)| .inr (a,ms)=>.inr (⟨lineL (A++l)==[35,110],a.cmds.map (shC A.length)⟩,ms.map (shM A.length))):=by
 have hl:l.length≤4000:=by rw[List.length_append]at hlen;omega
 have h1:=Zno (A:=A) x 101 (Zaq l (l.length+1) 0) RdS.zero [] (Zeh (l:=l) _ _ (Nat.zero_le _)).2;have hz:Zep RdS.zero A.length RdS.zero=RdS.zero:=rfl;rw[hz,List.map_nil,←hsk]at h1;unfold ZdO;rw[if_neg (by omega),if_neg (by omega),h1];cases Zdm x l 101 (Zaq l (l.length+1) 0) RdS.zero []with
 |inl z=>rfl
 |inr r=>
  obtain⟨st,ms⟩:=r;simp only[ZqP];rw[ZmU];cases Za8 st with
  |some z=>rfl
  |none=>rfl
theorem ZrF{cs:List UInt8}:∀(A l:List UInt8),(∀b∈A,cs.contains b=true)→bhd (A++l) cs 0=A.length+bhd l cs 0
 |[],l,_=>by simp
 |a::A,l,h=>by
  have ih:=ZrF A l (fun b hb=>h b (List.mem_cons_of_mem _ hb));have h0:(tl ((a::A)++l) cs)=tl (A++l) cs:=by
   unfold tl;rw[List.cons_append,List.dropWhile_cons,if_pos (h a List.mem_cons_self)]
  unfold bhd at ih⊢;simp only[List.drop_zero]at ih⊢;rw[h0];have:=Zmv (A++l) cs;simp only[List.cons_append,List.length_cons,List.length_append]at this ih⊢;omega
theorem Zq9{A l:List UInt8}(h:∀b∈A,Zc1.contains b=true):Zaq (A++l) ((A++l).length+1) 0=A.length+Zaq l (l.length+1) 0:=by
 have e1:=ZhY (A:=A) (l:=l) ((A++l).length+1) 0 (Nat.zero_le _);simp only[Nat.add_zero]at e1;rw[Zei (l:=l) (l.length+1) ((A++l).length+1) 0 (Nat.zero_le _) (by omega) (by rw[List.length_append];omega),←e1];have e2:bhd (A++l) Zc1 0=bhd (A++l) Zc1 A.length:=by
  have:=Zdv (A:=A) (l:=l) Zc1 (Nat.zero_le _);rw[Nat.add_zero]at this;rw[this,ZrF A l h]
 rw[Zaq,Zaq,e2]
theorem ZiO:∀(m:List UInt8),(∀b∈m,b≠10)→lineL m=m
 |[],_=>rfl
 |a::m,h=>by
  have ih:=ZiO m (fun b hb=>h b (List.mem_cons_of_mem _ hb));have ha:=h a List.mem_cons_self;unfold lineL at ih⊢;rw[List.takeWhile_cons,if_pos (by simpa using ha),ih]
theorem ZhZ{R l:List UInt8}(h:∀b∈R,b≠10):Zaq ((35::R++[10])++l) (((35::R++[10])++l).length+1) 0=(35::R++[10]).length+Zaq l (l.length+1) 0:=by
 have hlen:((35::R++[10])++l).length=R.length+2+l.length:=by simp;omega
 have e0:bhd ((35::R++[10])++l) Zc1 0=0:=ZmW Zc1 (by rw[hlen];omega) (by simp);have eL:lineL ((35::R++[10])++l)=35::R:=by
  have:(35::R++[10])++l=(35::R)++10::l:=by simp
  rw[this,ZoB];exact ZiO (35::R) (fun b hb=>by rcases List.mem_cons.1 hb with rfl|hb;(·decide);(·exact h b hb))
 have hh:((35::R++[10])++l).head? =some 35:=rfl;rw[Zaq,e0,List.drop_zero,if_pos hh,eL,Nat.zero_add];have e2:bhd ((35::R++[10])++l) Zc1 (35::R).length=bhd ((35::R++[10])++l) Zc1 ((35::R).length+1):=by
  refine ZmV Zc1 (by rw[hlen,List.length_cons];omega) ?_;simp
 have e3:=ZhY (A:=35::R++[10]) (l:=l) ((35::R++[10])++l).length 0 (Nat.zero_le _);rw[Nat.add_zero]at e3;have e4:(35::R++[10]).length=(35::R).length+1:=by simp
 rw[Zei (l:=l) (l.length+1) ((35::R++[10])++l).length 0 (Nat.zero_le _) (by omega) (by rw[hlen];omega),←e3,e4];obtain⟨F,hF⟩:∃F,((35::R++[10])++l).length=F+1:=⟨R.length+1+l.length,by rw[hlen];omega⟩;rw[hF,Zaq,Zaq,e2]
end Go.Proofs.YtkfddjopbocpkaaGreatDoor
