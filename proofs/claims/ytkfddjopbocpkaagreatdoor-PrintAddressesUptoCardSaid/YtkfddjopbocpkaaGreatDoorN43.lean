/- Lemmas of this claim. -/
import Derived.Test.YtkfddjopbocpkaaGreatDoorN37
import Derived.Test.YtkfddjopbocpkaaGreatDoorN41
import Derived.Test.YtkfddjopbocpkaaGreatDoorN42
set_option linter.unusedVariables false
set_option linter.unusedSimpArgs false
set_option maxRecDepth 100000
set_option maxHeartbeats 4000000
namespace Go.Proofs.YtkfddjopbocpkaaGreatDoor
open Go.RowKit
mutual
theorem Nd.wft_fits:∀(n:Nd) (m:Nat),n.wft m→n.fits
 | .nil,_,h=>by rw[Nd.wft]at h;exact h.elim
 | .one c,_,h=>by rw[Nd.wft]at h;exact h
 | .cat l,m,h=>by rw[Nd.wft]at h;exact Nd.wfts_fits l m h.2.2
 | .alt l,m,h=>by rw[Nd.wft]at h;exact Nd.wfts_fits l m h.2.2
 | .rep x a b,m,h=>by rw[Nd.wft]at h;exact Nd.wft_fits x m h.2.2
 | .group n x,m,h=>by rw[Nd.wft]at h;obtain⟨k,_,h⟩:=h;exact Nd.wft_fits x k h
 | .back n,_,_=>trivial
 | .empty,_,_=>trivial
 | .start,_,_=>trivial
 | .fin,_,_=>trivial
theorem Nd.wfts_fits:∀(l:List Nd) (m:Nat),Nd.wfts l m→Nd.fitss l
 |[],_,_=>trivial
 |x::r,m,h=>by rw[Nd.wfts]at h;exact⟨Nd.wft_fits x m h.1,Nd.wfts_fits r m h.2⟩
end
def TrB(n:Nd):Prop:=n.size≤502∧n.shw
theorem TrB.nil:TrB .nil:=⟨Nat.le_trans Nd.size_nil (by decide),trivial⟩
theorem TrB.ok{n:Nd}(h:TrB n):ZvK n:=⟨Nat.le_trans h.1 (by decide),fun _=>h.2⟩
theorem parse_tr{ere:Bool}{l:List UInt8}{n:Nd}{s:RxS}(h:Zac prg ere l=.inr (n,s)):TrB n:=by
 have hw:=Zup h;have hr:=parseD_right h;have hm:=(parseD_marks h).2.2;have hl:l.length≤250:=by
  unfold Zac at h;split at h
  ·cases h
  ·omega
 have hz:n.size≤502:=by omega
 exact⟨hz,Nd.right_shw hr (by omega) (Nd.wft_fits n 12 hw)⟩
theorem Zvf{n:Nd}(h:TrB n):(ZuU n).length≤1506002:=by
 have h1:=Nd.txt_le n h.2;have h2:=h.1;unfold ZuU ZvL;split<;>simp only[List.length_append,List.length_cons,List.length_nil]<;>omega
theorem Zu9(at_:Nat):∀(r:List UInt8) (n c:Nat),c≤9→n<10^c→(nm at_ r n c).1<1000000000
 |[],n,c,hc,hn=>by
  have h9:=Nat.pow_le_pow_right (show 0<10 by decide) hc;have h10:(10:Nat)^9=1000000000:=by decide
  rw[nm];split
  ·show 0<_;decide
  ·show n<_;omega
 |x::r,n,c,hc,hn=>by
  have h9:=Nat.pow_le_pow_right (show 0<10 by decide) hc;have h10:(10:Nat)^9=1000000000:=by decide
  rw[nm];split
  ·split
   ·show 0<_;decide
   ·exact Zu9 at_ r _ _ (by omega) (by rw[Nat.pow_succ];omega)
  ·split
   ·show 0<_;decide
   ·show n<_;omega
def AvB(a:AV):Prop:=TrB a.tree∧0≤a.line∧a.line≤999999999
theorem AvB.ok{a:AV}(h:AvB a):ZvY a:=⟨h.1.ok,by have:=h.2.1;omega,by have:=h.2.2;omega⟩
theorem AvB.none{a:AV}(h:a.tree=.nil)(h0:a.line=0):AvB a:=⟨by rw[h];exact TrB.nil,by rw[h0];decide,by rw[h0];decide⟩
theorem ZuN{a:AV}(h:AvB a):(Zto a).length≤1506002:=by
 have h1:=Zvf h.1;have h2:=ZsT (n:=a.line) (by have:=h.2.1;omega) (by have:=h.2.2;omega);unfold Zto
 repeat' split
 all_goals first|omega|(simp only[List.length_append,List.length_cons,List.length_nil];omega)
theorem ZvD{l:List UInt8}{s s':AdS}{a:AV}(h:Zdj l s=.inr (a,s')):AvB a:=by
 have hn:=Zu9 s.at_ (l.drop s.at_) 0 0 (by decide) (by decide);unfold Zdj at h;split at h
 ·cases h
 ·split at h
  ·cases h
  ·injection h with h;injection h with h1 h2;subst h1;exact⟨TrB.nil,by show(0:Int)≤((nm s.at_ (l.drop s.at_) 0 0).1:Nat);omega,by show(((nm s.at_ (l.drop s.at_) 0 0).1:Nat):Int)≤_;omega⟩
theorem moreD_b{l:List UInt8}{s s':AdS}{a:AV}(h:Zdk l s=.inr (a,s')):AvB a:=by
 have hn:=Zu9 (s.at_+1) (l.drop (s.at_+1)) 0 0 (by decide) (by decide);unfold Zdk at h;split at h
 ·cases h
 ·injection h with h;injection h with h1 h2;subst h1;exact⟨TrB.nil,by show(0:Int)≤((nm (s.at_+1) (l.drop (s.at_+1)) 0 0).1:Nat);omega,by show(((nm (s.at_+1) (l.drop (s.at_+1)) 0 0).1:Nat):Int)≤_;omega⟩
theorem regexD_b{x:Bool}{l:List UInt8}{d:UInt8}{s s':AdS}{a:AV}(h:ZaE x l d s=.inr (a,s')):AvB a:=by
 unfold ZaE at h;split at h
 ·cases h
 ·split at h
  ·cases h
  ·split at h
   ·cases h
   ·next t r hp=>
    injection h with h;injection h with h1 h2;subst h1;exact⟨parse_tr hp,Int.le_refl _,by show(0:Int)≤_;decide⟩
theorem addrD_b{x:Bool}{l:List UInt8}{sec:Bool}{s s':AdS}{a:AV}(h:ZaC x l sec s=.inr (a,s')):AvB a:=by
 unfold ZaC at h;split at h
 ·exact ZvD h
 ·split at h
  ·injection h with h;injection h with h1 h2;exact AvB.none (by rw[←h1]) (by rw[←h1])
  ·split at h
   ·exact regexD_b h
   ·split at h
    ·split at h
     ·cases h
     ·exact regexD_b h
    ·split at h
     ·exact moreD_b h
     ·injection h with h;injection h with h1 h2;exact AvB.none (by rw[←h1];rfl) (by rw[←h1];rfl)
theorem pairD_b{x:Bool}{l:List UInt8}{s s':AdS}{a:AV}(h:Zbc x l s=.inr (a,s')):AvB a:=by
 unfold Zbc at h;split at h
 ·split at h
  ·cases h
  ·next b s1 hp=>
   split at h
   ·cases h
   ·injection h with h;injection h with h1 h2;subst h1;exact addrD_b hp
 ·injection h with h;injection h with h1 h2;exact AvB.none (by rw[←h1];rfl) (by rw[←h1];rfl)
def GvB(g:GV):Prop:=AvB g.a∧AvB g.b
theorem GvB.ok{g:GV}(h:GvB g):Zv7 g:=⟨h.1.ok,h.2.ok⟩
theorem Zva{g:GV}(h:GvB g):(Zs9 g).length≤3012006:=by
 have h1:=ZuN h.1;have h2:=ZuN h.2;unfold Zs9;split<;>split<;>simp only[List.length_append,List.length_cons,List.length_nil]<;>omega
theorem Zvb{x:Bool}{l:List UInt8}{s s':AdS}{g:GV}(h:ZX x l s=.inr (g,s')):GvB g:=by
 unfold ZX at h;split at h
 ·cases h
 ·next a s1 ha=>
  split at h
  ·cases h
  ·next b s2 hb=>
   obtain⟨e1,e2⟩:=Zlt h;unfold GvB;rw[e1,e2];refine⟨addrD_b ha,?_⟩;split at hb
   ·injection hb with hb;injection hb with h1 h2;exact AvB.none (by rw[←h1];rfl) (by rw[←h1];rfl)
   ·exact pairD_b hb
theorem quoT_app(a b s t:List UInt8):Zs6 a b (s++t)=Zs6 a b s++Zs6 a b t:=by unfold Zs6;rw[List.flatMap_append]
theorem ZsN(s t:List Prt):ZsH (s++t)=ZsH s++ZsH t:=by unfold ZsH;rw[List.flatMap_append]
theorem ZsO(p:Prt):ZsH [p]=ZtU p:=by unfold ZsH;simp
theorem ZuO(b:List Prt)(t:List UInt8):ZsH (pushT b t)=ZsH b++Zs6 [92,47,38] [92,110] t:=by
 have h1:ZtU (-1,t)=Zs6 [92,47,38] [92,110] t:=by unfold ZtU;rw[if_pos (show(-1:Int)<0 by decide)]
 unfold pushT;cases h:b.getLast? with
 |none=>rw[ZsN,ZsO,h1]
 |some p=>
  simp only;split
  ·next hp=>
   have hb:b=b.dropLast++[p]:=by
    have a:b≠[]:=fun e=>by rw[e]at h;cases h
    have h2:=List.getLast?_eq_some_getLast a;rw[h]at h2;injection h2 with h2;rw[h2];exact(List.dropLast_concat_getLast a).symm
   have h2:ZtU (-1,p.2++t)=ZtU p++Zs6 [92,47,38] [92,110] t:=by
    unfold ZtU;rw[if_pos (show(-1:Int)<0 by decide),if_pos (by rw[hp];decide),quoT_app]
   rw[ZsN,ZsO,h2]
   conv=>rhs;rw[hb,ZsN,ZsO]
   rw[List.append_assoc]
  ·rw[ZsN,ZsO,h1]
theorem Zvc{n:Nat}(h:n≤9):(Lib.itoa (n:Int)).length≤1:=by
 unfold Lib.itoa;rw[if_neg (by omega)];have:=ZtT 0 (n:Int).toNat (by omega);exact this
theorem Ztv(g:Int):∀(t:List UInt8) (esc:Bool) (b:List Prt),(ZsH (Zao g t esc b).1).length≤(ZsH b).length+4*t.length
 |[],esc,b=>by rw[Zao];split<;>simp[ZsH]
 |c::r,esc,b=>by
  have h1:=Ztv g r;have h2:∀x,(Zs6 [92,47,38] [92,110] [x]).length≤4:=fun x=>by have:=ZsK [92,47,38] [92,110] [x];simpa using this
  have h3:=fun x=>congrArg List.length (ZuO b [x]);rw[Zao,List.length_cons];split
  ·have:=h1 true b;omega
  ·split
   ·have:=h1 false (b++[(0,[])]);rw[ZsN,ZsO,List.length_append]at this;have h4:(ZtU (0,[])).length=1:=by decide
    omega
   ·split
    ·next hd=>
     split
     ·exact Nat.zero_le _
     ·have:=h1 false (b++[((c.toNat:Int)-48,[])]);rw[ZsN,ZsO,List.length_append]at this;have h4:(ZtU ((c.toNat:Int)-48,[])).length≤2:=by
       unfold ZtU;rw[if_neg (by show¬(c.toNat:Int)-48<0;omega)];split
       ·decide
       ·have h5:=Zvc (n:=c.toNat-48) (by omega);rw[show((c.toNat-48:Nat):Int)=(c.toNat:Int)-48 by omega]at h5;simp only[List.length_append,List.length_cons,List.length_nil];omega
      omega
    ·split
     ·have:=h1 false (pushT b [10]);have h4:=h3 10;rw[List.length_append]at h4;have:=h2 10;omega
     ·have:=h1 false (pushT b [c]);have h4:=h3 c;rw[List.length_append]at h4;have:=h2 c;omega
def PB(B:Nat)(b:List Prt):Prop:=∀p∈b,p.2.length≤B∧ -1≤p.1∧p.1≤9
theorem PB.mono{B C:Nat}{b:List Prt}(h:PB B b)(hc:B≤C):PB C b:=fun p hp=>⟨by have:=(h p hp).1;omega,(h p hp).2⟩
theorem PB.snoc{B:Nat}{b:List Prt}{p:Prt}(h:PB B b)(h1:p.2.length≤B)(h2: -1≤p.1)(h3:p.1≤9):PB B (b++[p]):=fun q hq=>by
 rcases List.mem_append.1 hq with hq|hq
 ·exact h q hq
 ·rw[List.mem_singleton.1 hq];exact⟨h1,h2,h3⟩
theorem ZuP{B:Nat}{b:List Prt}{x:UInt8}(h:PB B b):PB (B+1) (pushT b [x]):=by
 unfold pushT;cases hb:b.getLast? with
 |none=>exact(h.mono (by omega)).snoc (by simp) (show(-1:Int)≤ -1 by decide) (show(-1:Int)≤9 by decide)
 |some p=>
  simp only;have hp:=h p (List.mem_of_getLast? hb);split
  ·refine PB.snoc (fun q hq=>(h.mono (by omega)) q (List.dropLast_subset _ hq)) ?_ (show(-1:Int)≤ -1 by decide) (show(-1:Int)≤9 by decide);show(p.2++[x]).length≤_;rw[List.length_append];have:=hp.1;simp;omega
  ·exact(h.mono (by omega)).snoc (by simp) (show(-1:Int)≤ -1 by decide) (show(-1:Int)≤9 by decide)
theorem Zt6(g:Int):∀(t:List UInt8) (esc:Bool) (b:List Prt) (B:Nat),PB B b→PB (B+t.length) (Zao g t esc b).1
 |[],esc,b,B,h=>by
  rw[Zao];split
  ·intro p hp;cases hp
  ·exact h
 |c::r,esc,b,B,h=>by
  have h1:=Zt6 g r;rw[Zao,List.length_cons];split
  ·exact(h1 true b B h).mono (by omega)
  ·split
   ·exact(h1 false _ B (h.snoc (p:=(0,[])) (Nat.zero_le _) (by decide) (by decide))).mono (by omega)
   ·split
    ·next hd=>
     split
     ·intro p hp;cases hp
     ·exact(h1 false _ B (h.snoc (p:=((c.toNat:Int)-48,[])) (Nat.zero_le _) (by show(-1:Int)≤(c.toNat:Int)-48;omega) (by show(c.toNat:Int)-48≤9;omega))).mono (by omega)
    ·split
     ·exact(h1 false _ (B+1) (ZuP h)).mono (by omega)
     ·exact(h1 false _ (B+1) (ZuP h)).mono (by omega)
theorem ZuQ(l:List UInt8)(k:Nat)(label:Bool):(ZcI l k label).1.length≤40:=by
 unfold ZcI;split
 ·exact Nat.zero_le _
 ·split
  ·exact Nat.zero_le _
  ·show(Za5 _).length≤40;omega
theorem ZtJ(l:List UInt8)(must:Bool)(s:AdS):(labelC l must s).1.length≤40:=by
 unfold labelC;split<;>exact ZuQ _ _ _
theorem Zt7(l:List UInt8)(s:AdS):(ZaR l s).1.length≤40:=by
 unfold ZaR;split
 ·exact Nat.zero_le _
 ·exact ZuQ _ _ _
theorem ZuR(l:List UInt8):∀(n k:Nat) (out:List UInt8),(ln l n k out).1.length≤out.length+(l.length-k)+1
 |0,k,out=>Nat.zero_le _
 |n+1,k,out=>by
  by_cases hk:l.length≤k
  ·rw[Zny hk];show(out++[10]).length≤_;rw[List.length_append,List.length_singleton];omega
  ·by_cases e:l[k]=10
   ·rw[Zqk (by omega) e];show(out++[10]).length≤_;rw[List.length_append,List.length_singleton];omega
   ·by_cases e2:l[k]=92
    ·by_cases h2:l.length≤k+1
     ·rw[Znz (by omega) e2 h2];exact Nat.zero_le _
     ·rw[Zo3 (by omega) e2 (by omega)];have:=ZuR l n (k+2) (out++[l[k+1]]);simp only[List.length_append,List.length_cons,List.length_nil]at this;omega
    ·rw[Zo4 (by omega) e e2];have:=ZuR l n (k+1) (out++[l[k]]);simp only[List.length_append,List.length_cons,List.length_nil]at this;omega
theorem ZuS(l:List UInt8)(p:Nat)(s:AdS):(Zah l p s).1.length≤l.length+1:=by
 unfold Zah;simp only;split
 ·exact Nat.zero_le _
 ·split
  ·exact Nat.zero_le _
  ·refine Nat.le_trans (ZuR l (l.length+1) _ []) ?_;simp only[List.length_nil];omega
theorem Zt8:∀(ps:List (UInt8×UInt8)) (seen out:List UInt8),(Zod ps seen out).1.length≤out.length
 |[],_,_=>Nat.le_refl _
 |(a,b)::r,seen,out=>by
  rw[Zod];split
  ·exact Nat.zero_le _
  ·have:=Zt8 r (seen++[a]) (out.set a.toNat b);rw[List.length_set]at this;exact this
theorem ZuT(l:List UInt8)(s:AdS):(ZaP l s).1.length≤256:=by
 unfold ZaP;simp only;split
 ·exact Nat.zero_le _
 ·split
  ·exact Nat.zero_le _
  ·split
   ·refine Nat.le_trans (Zt8 _ _ _) ?_;unfold Zjp;simp
   ·exact Nat.zero_le _
structure SvB(N:Nat)(x:SV):Prop where
 tr:TrB x.tree
 n0:0≤x.nth
 n1:x.nth≤999999999
 pl:x.parts.length≤N
 ps:PB N x.parts
 pt:(ZsH x.parts).length≤4*N
 fl:x.file.length≤40
theorem SvB.zero(N:Nat):SvB N SV.zero:=⟨TrB.nil,Int.le_refl _,by decide,Nat.zero_le _,fun p hp=>(by cases hp),Nat.zero_le _,Nat.zero_le _⟩
theorem SvB.ok{N:Nat}{x:SV}(h:SvB N x)(hN:N≤100000):SvOk x:=
 ⟨h.tr.ok,by have:=h.n0;omega,by have:=h.n1;omega,by have:=h.pl;omega,fun p hp=>by have:=h.ps p hp;exact⟨by omega,by omega,by omega⟩,by have:=h.fl;omega⟩
theorem Zv0{N:Nat}{x:SV}(h:SvB N x):(Zvy x).length≤1506100+4*N:=by
 have h1:=Zvf h.tr;have h2:=h.pt;have h3:=ZsT (n:=x.nth) (by have:=h.n0;omega) (by have:=h.n1;omega);have h5:=h.fl;unfold Zvy;simp only[List.length_append,List.length_cons,List.length_nil];have a1:(if x.nth=0 then[]else Lib.itoa x.nth).length≤20:=by split<;>first|omega|simp
 have a2:(if x.all then[(103:UInt8)]else[]).length≤1:=by split<;>simp
 have a3:(if x.print then[(112:UInt8)]else[]).length≤1:=by split<;>simp
 have a4:(if x.file=[]then[]else[119,32]++x.file).length≤42:=by split<;>simp only[List.length_append,List.length_cons,List.length_nil]<;>omega
 omega
theorem ZvE{N:Nat}(l:List UInt8)(sub:SV)(s:AdS)(h:SvB N sub):SvB N (Zap l sub s).2.1:=by
 have hn:=Zu9 s.at_ (l.drop s.at_) 0 0 (by decide) (by decide);obtain⟨h1,h2,h3,h4,h5,h6,h7⟩:=h;unfold Zap;split
 ·exact⟨h1,h2,h3,h4,h5,h6,h7⟩
 ·split
  ·exact⟨h1,h2,h3,h4,h5,h6,h7⟩
  ·split
   ·simp only;split<;>exact⟨h1,by show(0:Int)≤((nm s.at_ (l.drop s.at_) 0 0).1:Nat);omega,by show(((nm s.at_ (l.drop s.at_) 0 0).1:Nat):Int)≤_;omega,h4,h5,h6,h7⟩
   ·split
    ·exact⟨h1,h2,h3,h4,h5,h6,Zt7 _ _⟩
    ·exact⟨h1,h2,h3,h4,h5,h6,h7⟩
theorem Zt9{N:Nat}(l:List UInt8):∀(n:Nat) (sub:SV) (s:AdS),SvB N sub→SvB N (Zai l n sub s).1
 |0,_,_,h=>h
 |n+1,sub,s,h=>by
  rw[Zai];have hf:=ZvE l sub s h;cases hr:Zap l sub s with
  |mk a b=>
   rw[hr]at hf;obtain⟨b,c⟩:=b;cases a with
   |true=>exact Zt9 l n b c hf
   |false=>exact hf
theorem Zvd(x:Bool)(l:List UInt8)(d:UInt8)(s:AdS):TrB (Zav x l d s).1.2:=by
 unfold Zav;simp only;generalize(if(Zr l d true s).2.e=0∧(Zr l d true s).1=[]then failC (Zr l d true s).2 2 s.at_ else(Zr l d true s).2)=s2;split
 ·exact TrB.nil
 ·cases hp:Zac prg x (Zr l d true s).1 with
  |inl z=>exact TrB.nil
  |inr z=>
   obtain⟨n,r⟩:=z;exact parse_tr hp
theorem Zve(l:List UInt8)(d:UInt8)(rx:Bool)(s:AdS):(Zr l d rx s).1.length≤l.length:=by
 unfold Zr;split
 ·exact Nat.zero_le _
 ·have:=ZdC l d rx (l.length+1) s.at_ [];simp only[List.length_nil]at this;show(bt l d rx (l.length+1) s.at_ []).1.length≤_;omega
theorem Zv1(x:Bool)(l:List UInt8)(s:AdS):SvB l.length (Zet x l s).1:=by
 unfold Zet;simp only;split
 ·exact SvB.zero _
 ·have h1:=Zvd x l (Zv l s).1 (Zv l s).2;have h0:∀t:List UInt8,SvB l.length {SV.zero with text:=t,tree:=(Zav x l (Zv l s).1 (Zv l s).2).1.2}:=fun t=>⟨h1,Int.le_refl _,(show(0:Int)≤999999999 by decide),Nat.zero_le _,fun p hp=>(by cases hp),Nat.zero_le _,Nat.zero_le _⟩;split
  ·exact h0 _
  ·split
   ·exact h0 _
   ·refine Zt9 l _ _ _ ?_;have h6:=Zve l (Zv l s).1 false (Zav x l (Zv l s).1 (Zv l s).2).2;have h5:=partsL_len (Zav x l (Zv l s).1 (Zv l s).2).1.2.groups (Zr l (Zv l s).1 false (Zav x l (Zv l s).1 (Zv l s).2).2).1 false [];have h7:=Zt6 (Zav x l (Zv l s).1 (Zv l s).2).1.2.groups (Zr l (Zv l s).1 false (Zav x l (Zv l s).1 (Zv l s).2).2).1 false [] 0 (fun p hp=>by cases hp);have h8:=Ztv (Zav x l (Zv l s).1 (Zv l s).2).1.2.groups (Zr l (Zv l s).1 false (Zav x l (Zv l s).1 (Zv l s).2).2).1 false [];have h9:ZsH []=[]:=rfl;rw[h9]at h8;simp only[List.length_nil]at h5 h8;exact⟨h1,Int.le_refl _,by show(0:Int)≤_;decide,by show(Zao _ _ false []).1.length≤_;omega,h7.mono (by omega),by show(ZsH (Zao _ _ false []).1).length≤_;omega,Nat.zero_le _⟩
structure CvB(N:Nat)(c:CV):Prop where
 gd:GvB c.guard
 sb:SvB N c.sub
 al:c.arg.length≤N+41
 tl:c.table.length≤256
theorem CvB.ok{N:Nat}{c:CV}(h:CvB N c)(hN:N≤4000):CvOk c:=⟨h.gd.ok,h.sb.ok (by omega),by have:=h.al;omega,h.tl⟩
theorem Zv2{N:Nat}{c:CV}(h:CvB N c):(ZvB c).length≤1600000+4*N:=by
 have h1:=Zv0 h.sb;have h3:=h.al;have h4:=Zt3 c.arg;have h5:=ZsK [92] [92,10] (Lib.trimSuffix c.arg [10]);have h2:=Zt4 h.tl;unfold ZvB;simp only[List.length_cons,List.length_nil]at h5
 repeat' split
 all_goals first|omega|(simp only[List.length_append,List.length_cons,List.length_nil];omega)
theorem Zv3{N:Nat}{c:CV}(h:CvB N c)(hN:N≤4000):(ZuJ c).length≤5000000:=by
 have h1:=Zva h.gd;have h2:=Zv2 h;unfold ZuJ;simp only[List.length_append,List.length_cons,List.length_nil];omega
theorem ZvF(x:Bool)(l:List UInt8)(c:CV)(s:AdS)(h:CvB l.length c):CvB l.length (ZsD x l c s).2.1:=by
 obtain⟨h1,h2,h3,h4⟩:=h;unfold ZsD;split
 ·exact⟨h1,h2,h3,h4⟩
 split
 ·exact⟨h1,h2,by have:=ZtJ l true s;show(labelC l true s).1.length≤_;omega,h4⟩
 split
 ·exact⟨h1,h2,by have:=ZtJ l false s;show(labelC l false s).1.length≤_;omega,h4⟩
 split
 ·exact⟨h1,h2,by have:=ZuS l c.at_ s;show(Zah l c.at_ s).1.length≤_;omega,h4⟩
 split
 ·exact⟨h1,h2,by have:=Zt7 l s;show(ZaR l s).1.length≤_;omega,h4⟩
 split
 ·exact⟨h1,Zv1 x l s,h3,h4⟩
 split
 ·exact⟨h1,h2,h3,ZuT l s⟩
 ·exact⟨h1,h2,h3,h4⟩
theorem CvB.start{N:Nat}{g:GV}(h:GvB g)(p:Nat)(n:UInt8):CvB N {CV.zero with at_:=p,guard:=g,name:=n}:=⟨h,SvB.zero _,Nat.zero_le _,Nat.zero_le _⟩
theorem CvB.zero(N:Nat):CvB N CV.zero:=⟨⟨AvB.none rfl rfl,AvB.none rfl rfl⟩,SvB.zero _,Nat.zero_le _,Nat.zero_le _⟩
theorem Zv4(x:Bool)(l:List UInt8)(g:GV)(s:AdS)(h:GvB g):CvB l.length (ZbY x l g s).1:=by
 unfold ZbY;split
 ·exact CvB.zero _
 ·simp only;generalize(if ZM (byt l s.at_)<0 then failC s 13 s.at_ else if ZM (byt l s.at_)<ZcD g then failC s 19 s.at_ else if byt l s.at_=81∨byt l s.at_=84∨byt l s.at_=122 then Zan s s.at_ [byt l s.at_]else s)=s1;split
  ·exact CvB.zero _
  ·have a:=ZvF x l {CV.zero with at_:=s.at_,guard:=g,name:=byt l s.at_} (s1.to (s1.at_+1)) (CvB.start h _ _);split
   ·exact a
   ·exact a
theorem cmdD_b{x:Bool}{l:List UInt8}{p:Nat}{c:CV}{q:AdS}(h:Zeu x l p=.inr (c,q)):CvB l.length c:=by
 unfold Zeu at h;cases hg:ZX x l ⟨p,[],0⟩with
 |inl z=>rw[hg]at h;cases h
 |inr z=>
  obtain⟨g,s⟩:=z;rw[hg]at h;simp only at h;split at h
  ·cases h
  ·injection h with h;have:=Zv4 x l g s (Zvb hg);rw[h]at this;exact this
theorem scrL_b{x:Bool}{l:List UInt8}:∀(n k:Nat) (s:RdS) (ms:List (Nat×List UInt8)) (s':RdS) (ms':List (Nat×List UInt8)),(∀c∈s.cmds,CvB l.length c)→Zdm x l n k s ms=.inr (s',ms')→∀c∈s'.cmds,CvB l.length c
 |0,k,s,ms,s',ms',h0,h=>by
  rw[Zdm]at h;injection h with h;injection h with h1 h2;subst h1;exact h0
 |n+1,k,s,ms,s',ms',h0,h=>by
  rw[Zdm]at h;split at h
  ·injection h with h;injection h with h1 h2;subst h1;exact h0
  ·split at h
   ·cases h
   ·split at h
    ·cases h
    ·next c q hc=>
     split at h
     ·cases h
     ·next s1 hp=>
      refine scrL_b n _ s1 _ s' ms' (fun d hd=> ?_) h;rw[ZiK hp]at hd;rcases List.mem_append.1 hd with hd|hd
      ·exact h0 d hd
      ·rw[List.mem_singleton.1 hd];exact cmdD_b hc
theorem scrS_b{x:Bool}{l:List UInt8}{a:ScV}{ms:List (Nat×List UInt8)}(h:ZdO x l=.inr (a,ms)):(∀c∈a.cmds,CvB l.length c)∧a.cmds.length≤100∧l.length≤4000:=by
 have hf:=scrS_few h;refine⟨?_,hf.2,?_⟩
 ·unfold ZdO at h;split at h
  ·cases h
  ·cases hL:Zdm x l 101 (Zaq l (l.length+1) 0) RdS.zero []with
   |inl z=>rw[hL]at h;cases h
   |inr z=>
    obtain⟨s,b⟩:=z;rw[hL]at h;simp only at h;split at h
    ·cases h
    ·injection h with h;injection h with h1 h2;subst h1;exact scrL_b _ _ _ _ _ _ (fun c hc=>by cases hc) hL
 ·unfold ZdO at h;split at h
  ·cases h
  ·omega
theorem ZtV{N:Nat}(hN:N≤4000):∀{cs:List CV},(∀c∈cs,CvB N c)→(ZsU cs).length≤5000000*cs.length
 |[],_=>Nat.zero_le _
 |c::r,h=>by
  have h1:=ZtV hN (cs:=r) (fun d hd=>h d (List.mem_cons_of_mem _ hd));have h2:=Zv3 (h c (List.mem_cons_self ..)) hN;unfold ZsU at h1⊢;rw[List.flatMap_cons,List.length_append,List.length_cons];omega
end Go.Proofs.YtkfddjopbocpkaaGreatDoor
