/- Lemmas of this claim. -/
import Derived.Test.YtkfddjopbocpkaaGreatDoorN26
set_option linter.unusedVariables false
set_option linter.unusedSimpArgs false
set_option maxRecDepth 100000
set_option maxHeartbeats 4000000
namespace Go.Proofs.YtkfddjopbocpkaaGreatDoor
open Go.Lib (hid)
open Go.RowKit
def pC(l:List Prt):List Value:=l.flatMap fun m=>[.int .i64 m.1,.string ⟨m.2.toArray⟩]
theorem Zcd(l:List Prt):(pC l).length=2*l.length:=by
 induction l with
 |nil=>rfl
 |cons m r ih=>
  have e:pC (m::r)=.int .i64 m.1:: .string ⟨m.2.toArray⟩::pC r:=rfl;rw[e,List.length_cons,List.length_cons,ih,List.length_cons];omega
theorem ZcY(l:List Prt)(k:Int)(t:List UInt8):pC (l++[(k,t)])=pC l++[.int .i64 k,.string ⟨t.toArray⟩]:=by simp[pC]
theorem ZiG{k:Int}{t:List UInt8}:∀u∈([.int .i64 k,.string ⟨t.toArray⟩]:List Value),u.oneCell'=true:=by
 intro u hu;simp only[List.mem_cons,List.not_mem_nil,or_false]at hu;rcases hu with rfl|rfl<;>rfl
theorem pC_news{w:World}{g:Nat}{k:Int}{t:List UInt8}{T:TypeId}{fr:Nat×Nat}(h:w.heap[g]? =some (.cells #[.int .i64 k,.string ⟨t.toArray⟩] T fr)):
 ∀j u,([.int .i64 k,.string ⟨t.toArray⟩]:List Value)[j]? =some u→w.cell? ((⟨g,0,none⟩:Addr).add j)=some u:=by
 intro j u hj
 match j,hj with
 |0,hj=>simp at hj;subst hj;exact cell_at h rfl
 |1,hj=>simp at hj;subst hj;exact cell_at (j:=1) h rfl
theorem ZgJ:(Tryz.prog.info? 43).map (fun i=>(i.zero,i.size,i.bytes))=some (some (.agg #[.int .i64 0,.string ByteArray.empty]),2,24):=by kernel_rfl
def OwP(w:World)(l:List Prt)(v:Value):Prop:=w.ownsRow 0 43 2 v l.length (pC l)
def Bdr(B b:Nat)(l:List Prt)(w:World):Prop:=∃v,w.heap[b]? =some (.cells #[v] 238 (0,0))∧OwP w l v∧B≤b∧∀k,v.ownBlock=some k→k≠b∧B≤k
def Abv(B:Nat):Nat→Prop:=fun k=>B≤k
theorem ZhU{w:World}{base g cap n size j:Nat}{e:TypeId}{xs:List Value}(h:w.ownsRow base e size (.slice (some ⟨g,0,none⟩) n cap) n xs)(u:Value)(hj:j<xs.length):(w.setCell ⟨g,j,none⟩ u).ownsRow base e size (.slice (some ⟨g,0,none⟩) n cap) n (xs.set j u):=by
 refine⟨by rw[List.length_set];exact h.1,.inr ?_⟩;rcases h.2 with⟨e1,hn⟩|⟨g',i,b,e1,hb,hg,f,c,d,a⟩
 ·cases e1
 ·injection e1 with e1 e2 e3;injection e1 with e1;injection e1 with e1;subst e1;subst e3;refine⟨g,cap,b.setIfInBounds j u,rfl,hb,Za hg j u,f,c,by simpa using d,?_⟩;rw[Array.toList_setIfInBounds,List.take_set,a]
theorem Fr.weak{S T:Nat→Prop}{w w':World}(h:Fr S w w')(hs:∀k,S k→T k):Fr T w w':=h.mono fun k _ x=>hs k x
section
variable {B b:Nat} {l:List Prt} {w W0 w3:World} {v v':Value}
theorem Zfr(hb:w.heap[b]? =some (.cells #[v] 238 (0,0)))(hB:B≤b)(hBw:B≤w.heap.size)(hn:∀k,v.ownBlock=some k→k≠b∧B≤k)(f:Fr nob w W0)(hap:Appd 1 v v' W0 w3){k:Int}{t:List UInt8}
 (hown:w3.ownsRow 0 43 2 v' (l.length+1) (pC l++[.int .i64 k,.string ⟨t.toArray⟩])):
 (w3.cell? ⟨b,0,none⟩=some v∧w3.frozen? ⟨b,0,none⟩=false)∧Bdr B b (l++[(k,t)]) (w3.setCell ⟨b,0,none⟩ v')∧Fr (Abv B) w (w3.setCell ⟨b,0,none⟩ v'):=by
 have h0:=f.heap hb (fun x=>x);have a:=hap.fr.heap h0 (fun e=>(hn b e).1 rfl);have g:=lt_heap hb;have h:=f.size;have d:=(Fr.refl (fun k=>k=b) w3).setCell (p:=⟨b,0,none⟩) (fun _=>rfl) v';have c:∀k,v'.ownBlock=some k→k≠b∧B≤k:=fun k hk=>by
  rcases hap.old k hk with h1|h1
  ·exact hn k h1
  ·omega
 refine⟨⟨cell_at a rfl,unfrozen_at a 0⟩,⟨v',by have:=Za a 0 v';simpa using this,?_,hB,c⟩,?_⟩
 ·have:=ownsRow_fr hown d (fun k hk e=>(c k hk).1 e);unfold OwP;simp only[List.length_append,List.length_singleton,ZcY];exact this
 ·exact(f.any.trans (hap.fr.mono (T:=Abv B) fun k _ hk=>(hn k hk).2) (fun _ _ x=>x)).setCell (p:=⟨b,0,none⟩) (fun _=>hB) v'
end
theorem ZgK(t:List UInt8):pushT [] t=[(-1,t)]:=rfl
theorem ZeO(q:List Prt)(a t:List UInt8):pushT (q++[(-1,a)]) t=q++[(-1,a++t)]:=by
 unfold pushT;rw[List.getLast?_concat];simp only[if_true,List.dropLast_concat]
theorem Zej(q:List Prt)(k:Int)(a t:List UInt8)(hk:k≠ -1):pushT (q++[(k,a)]) t=q++[(k,a)]++[(-1,t)]:=by
 unfold pushT;rw[List.getLast?_concat];simp only[if_neg hk]
theorem Zoq(q:List Prt)(k:Int)(a:List UInt8):(pC (q++[(k,a)]))[q.length*2]? =some (.int .i64 k)∧(pC (q++[(k,a)]))[q.length*2+1]? =some (.string ⟨a.toArray⟩):=by
 rw[ZcY];have:=Zcd q;constructor
 ·rw[List.getElem?_append_right (by omega),show q.length*2-(pC q).length=0 by omega];rfl
 ·rw[List.getElem?_append_right (by omega),show q.length*2+1-(pC q).length=1 by omega];rfl
theorem ZeP{α:Type}(a:List α)(k j:Nat)(h:k=a.length+j)(b:List α)(x:α):(a++b).set k x=a++b.set j x:=by
 subst h;induction a with
 |nil=>simp
 |cons y a ih=>rw[List.cons_append,List.length_cons,show a.length+1+j=(a.length+j)+1 by omega,List.set_cons_succ,ih,List.cons_append]
theorem Zjt(q:List Prt)(k:Int)(a t:List UInt8):(pC (q++[(k,a)])).set (q.length*2+1) (.string ⟨t.toArray⟩)=pC (q++[(k,t)]):=by
 rw[ZcY,ZcY,ZeP (pC q) _ 1 (by rw[Zcd];omega)];rfl
theorem bd_text(B b:Nat)(l:List Prt)(t:List UInt8)(w:World)(hl:l.length≤100000)(ht:t.length≤100000)(hlt:∀p∈l,p.2.length≤100000)(hBw:B≤w.heap.size)(h:Bdr B b l w):
 Calls Tryz.prog 155 #[.pointer (some ⟨b,0,none⟩),.string ⟨t.toArray⟩] w fun r w'=>r=.returned (.tuple #[])∧Bdr B b (pushT l t) w'∧Fr (Abv B) w w':=by
 obtain⟨v,hb,ho,hB,hn⟩:=h;obtain⟨av,cv,rfl⟩:=Zb ho;obtain⟨i0,hi,z,A,C⟩:=info_parts ZgJ;have HB:=hid hb;have HO:=hid ho;have HN:=hid hn;have rb:=Zay (cell_at (j:=0) hb rfl);rcases(by rcases List.eq_nil_or_concat l with h|⟨q,p,h⟩;exact .inl h;exact .inr ⟨q,p.1,p.2,by rw[h,List.concat_eq_append]⟩:l=[]∨∃(q:List Prt) (k:Int) (a:List UInt8),l=q++[(k,a)])with rfl|⟨q,k,a,rfl⟩
 ·rw[ZgK];clear hb ho hn;go_enter Tryz.func155,Tryz.ntmps155;go_wp2_with(at_builtin;refine wpList_append_g rfl _ _ 238 rfl 43 i0 (.agg #[.int .i64 0,.string ByteArray.empty]) 2 24 Tryz.underlying238 hi z A C rfl (by decide) _ _ _ rfl (ownsRow_fr HO.out ((Fr.refl nob w).alloc _) (fun _ _ x=>x)) ⟨w.heap.size,0,none⟩ 1 1 [.int .i64 (-1),.string ⟨t.toArray⟩] rfl rfl ?c1 ?c2 ?c3 ?c4 ?_)
  case c1=>exact pC_news (newAt0 w _)
  case c2=>exact ZiG
  case c3=>unfold maxLen;show 0+1≤_;omega
  case c4=>show(0+1)*24≤_;omega
  intro v' w4 d f;obtain⟨E,G,rfl⟩:=Zb d;obtain⟨⟨pc,pf⟩,h5,f5⟩:=Zfr (l:=[]) HB.out hB hBw HN.out ((Fr.refl nob w).alloc _) f (k:= -1) (t:=t) d;have H5:=hid h5;have F5:=hid f5;clear d f h5 f5 rb;go_wp2
  go_end0
  exact⟨rfl,H5.out,F5.out⟩
 ·have c:(q++[(k,a)]).length=q.length+1:=by simp
  have N:q.length≤100000:=by rw[c]at hl;omega
  have I:a.length≤100000:=hlt (k,a) (by simp);obtain⟨g,m,hs,L,J,K⟩:∃g m,Value.slice av (q++[(k,a)]).length cv=.slice (some ⟨g,0,none⟩) (q.length+1) m∧g<w.heap.size∧w.cell? ⟨g,q.length*2,none⟩=some (.int .i64 k)∧w.cell? ⟨g,q.length*2+1,none⟩=some (.string ⟨a.toArray⟩):=by
   have hp:=Zoq q k a;have y:=Zcd (q++[(k,a)]);rcases ho.2 with⟨e,hn⟩|⟨r,m,F,e,_,hr,_⟩
   ·rw[c]at hn;omega
   ·have h2:=ho;injection e with e1 e2 e3;subst e1;subst e3;refine⟨r,cv,by rw[c],lt_heap hr,(World.ownsRow.cellAt ho (q.length*2) (by first|(rw[y,c];omega)|(rw[c];omega))).trans hp.1,(World.ownsRow.cellAt ho (q.length*2+1) (by first|(rw[y,c];omega)|(rw[c];omega))).trans hp.2⟩
  rw[c]at hs HB HN rb;injection hs with hs1 hs2 hs3;subst hs1;subst hs3;by_cases hk:k= -1
  ·subst hk;rw[ZeO];have i:=ZhU (j:=q.length*2+1) (by rw[c]at ho;unfold OwP at ho;rw[c]at ho;exact ho) (.string ⟨(a++t).toArray⟩) (by rw[Zcd,c];omega);rw[Zjt]at i;have s:=hid i;have H:w.frozen? ⟨g,q.length*2+1,none⟩=false:=by
    rcases ho.2 with⟨e,hn⟩|⟨r,m,F,e,_,hr,_⟩
    ·rw[c]at hn;omega
    ·injection e with e1 e2 e3;injection e1 with e1;injection e1 with e1;subst e1;exact unfrozen_at hr _
   clear hb ho hn i hlt;go_enter Tryz.func155,Tryz.ntmps155;have o:=HN.out g rfl;have n:Bdr B b (q++[(-1,a++t)]) (w.setCell ⟨g,q.length*2+1,none⟩ (.string ⟨(a++t).toArray⟩)):=by
    refine⟨_,Zc (p:=⟨g,q.length*2+1,none⟩) HB.out (fun e=>o.1 e.symm) _,?_,hB,HN.out⟩;have h:=s.out;unfold OwP;rw[show(q++[((-1:Int),a++t)]).length=q.length+1 by simp];exact h
   have u:Fr (Abv B) w (w.setCell ⟨g,q.length*2+1,none⟩ (.string ⟨(a++t).toArray⟩)):=(Fr.refl _ w).setCell (p:=⟨g,q.length*2+1,none⟩) (fun _=>o.2) _;have H5:=hid n;have F5:=hid u;clear o n u c;go_wp2;refine bodyPost_ret (v:=.tuple #[]) (by simp[results,Tryz.results155,go_sem]) rfl ?_;exact⟨rfl,H5.out,F5.out⟩
  ·have M:(k== -1)=false:=by simpa using hk
   rw[Zej q k a t hk];have D:=hid (show w.ownsRow 0 43 2 (.slice (some ⟨g,0,none⟩) (q.length+1) cv) (q.length+1) (pC (q++[(k,a)])) by unfold OwP at ho;rw[c]at ho;exact ho);clear hb ho hn;go_enter Tryz.func155,Tryz.ntmps155;go_wp2_with(at_builtin;refine wpList_append_g rfl _ _ 238 rfl 43 i0 (.agg #[.int .i64 0,.string ByteArray.empty]) 2 24 Tryz.underlying238 hi z A C rfl (by decide) _ _ _ rfl (ownsRow_fr (show w.ownsRow 0 43 2 _ (q.length+1) (pC (q++[(k,a)]))from D.out) ((Fr.refl nob w).alloc _) (fun _ _ x=>x)) ⟨w.heap.size,0,none⟩ 1 1 [.int .i64 (-1),.string ⟨t.toArray⟩] rfl rfl (pC_news (newAt0 w _)) (ZiG (k:= -1) (t:=t)) ?d3 ?d4 ?_)
   case d3=>unfold maxLen;omega
   case d4=>omega
   intro v' w4 d f;obtain⟨E,G,rfl⟩:=Zb d;obtain⟨⟨pc,pf⟩,h5,f5⟩:=Zfr (l:=q++[(k,a)]) HB.out hB hBw HN.out ((Fr.refl nob w).alloc _) f (k:= -1) (t:=t) (by rw[c];exact d);have H5:=hid h5;have F5:=hid f5;clear d f h5 f5 rb;go_wp2
   go_end0
   exact⟨rfl,H5.out,F5.out⟩
section
variable {A l:List UInt8} {M:List (Nat×List UInt8)} {s:AdS}
theorem addrD_le{x sec:Bool}{s':AdS}{a:AV}(h:s.at_≤l.length)(he:s.e=0)(hr:ZaC x l sec s=.inr (a,s')):s'.at_≤l.length∧s'.e=0:=⟨(Zam h he hr).le,(Zam h he hr).ok⟩
theorem ZiC{x:Bool}{s':AdS}{a:AV}(h:s.at_≤l.length)(hr:Zbc x l s=.inr (a,s')):s'.at_≤l.length∧s'.e=0:=by
 unfold Zbc at hr;split at hr
 ·next c=>
  have f:bhd l [32,9] s.at_<l.length:=ZaO (by rw[c];decide);have d:=(bhd_in [32,9] (show bhd l [32,9] s.at_+1≤l.length from f)).2;split at hr
  ·cases hr
  ·next b s1 hp=>
   split at hr
   ·cases hr
   ·injection hr with hr;injection hr with h1 h2;subst h2;exact addrD_le (s:=⟨_,_,0⟩) d rfl hp
 ·injection hr with hr;injection hr with h1 h2;subst h2;exact⟨(bhd_in [32,9] h).2,rfl⟩
theorem Zcb{e:Int}{p:Nat}(he:e≠0):(failC s e p).e≠0:=by unfold failC;split<;>assumption
theorem Zom(x:Bool)(g:GV)(h:s.at_≤l.length):(ZbY x l g s).2.at_≤l.length:=by
 unfold ZbY;split
 ·exact ZO h (Nat.le_refl _)
 ·next c1=>
  simp only;generalize hs1:(if ZM (byt l s.at_)<0 then failC s 13 s.at_ else if ZM (byt l s.at_)<ZcD g then failC s 19 s.at_ else if byt l s.at_=81∨byt l s.at_=84∨byt l s.at_=122 then Zan s s.at_ [byt l s.at_]else s)=s1;have h1:s1.at_≤l.length:=by
   rw[←hs1];split
   ·exact ZO h h
   ·split
    ·exact ZO h h
    ·split<;>exact h
  have h2:s1.e=0→s1.at_+1≤l.length:=by
   intro h0;rw[←hs1]at h0⊢;split
   ·next hc=>rw[if_pos hc]at h0;exact(Zcb (by decide) h0).elim
   ·next hc=>
    rw[if_neg hc]at h0;split
    ·next hd=>rw[if_pos hd]at h0;exact(Zcb (by decide) h0).elim
    ·split
     ·show s.at_+1≤_;omega
     ·show s.at_+1≤_;omega
  split
  ·exact h1
  ·next h0=>
   have a:=ZdN (l:=l) (s:=s1.to (s1.at_+1)) x {CV.zero with at_:=s.at_,guard:=g,name:=byt l s.at_} (h2 (Decidable.not_not.1 h0));split
   ·unfold Zjq;simp only;have hb:=(bhd_in [32,9] a).2;split
    ·exact hb
    ·split
     ·exact hb
     ·exact ZO (show(AdS.to _ _).at_≤_ from hb) hb
   ·exact a
theorem Zk3{a b:AV}{g:GV}{s':AdS}(h:s.at_≤l.length)(hr:ZgT l a b s=.inr (g,s')):s'.at_≤l.length:=by
 unfold ZgT at hr;have hb:=(bhd_in [32,9] h).2;split at hr
 ·next c=>
  have e:bhd l [32,9] s.at_<l.length:=ZaO (by rw[c];decide);have d:=(bhd_in [32,9] (show bhd l [32,9] s.at_+1≤l.length from e)).2;split at hr
  ·cases hr
  ·injection hr with hr;injection hr with h1 h2;subst h2;exact d
 ·injection hr with hr;injection hr with h1 h2;subst h2;exact hb
theorem guardD_le{x:Bool}{g:GV}{s':AdS}(h:s.at_≤l.length)(he:s.e=0)(hr:ZX x l s=.inr (g,s')):s'.at_≤l.length:=by
 unfold ZX at hr;cases ha:ZaC x l false s with
 |inl z=>rw[ha]at hr;cases hr
 |inr z=>
  obtain⟨a,s1⟩:=z;obtain⟨h1,e1⟩:=addrD_le h he ha;rw[ha]at hr;simp only at hr;by_cases h0:a.kind=0
  ·simp only[if_pos h0]at hr;exact Zk3 h1 hr
  ·simp only[if_neg h0]at hr;cases hp:Zbc x l s1 with
   |inl z=>rw[hp]at hr;cases hr
   |inr z=>
    obtain⟨b,s2⟩:=z;rw[hp]at hr;exact Zk3 (ZiC h1 hp).1 hr
end
theorem Zcj(x:Bool)(l:List UInt8)(c:CV)(s:AdS):(ZsD x l c s).2.1.at_=c.at_∧(ZsD x l c s).2.1.name=c.name∧(ZsD x l c s).2.1.guard=c.guard:=by
 unfold ZsD;split
 ·exact⟨rfl,rfl,rfl⟩
 split
 ·exact⟨rfl,rfl,rfl⟩
 split
 ·exact⟨rfl,rfl,rfl⟩
 split
 ·exact⟨rfl,rfl,rfl⟩
 split
 ·exact⟨rfl,rfl,rfl⟩
 split
 ·exact⟨rfl,rfl,rfl⟩
 split<;>exact⟨rfl,rfl,rfl⟩
theorem Zk4{x:Bool}{l:List UInt8}{g:GV}{s:AdS}(h:(ZbY x l g s).2.e=0):s.at_<l.length∧0≤ZM (byt l s.at_)∧¬ZM (byt l s.at_)<ZcD g∧(ZbY x l g s).1.at_=s.at_∧(ZbY x l g s).1.name=byt l s.at_∧(ZbY x l g s).1.guard=g:=by
 unfold ZbY at h⊢;split at h
 ·exact(Zcb (by decide) h).elim
 ·next c1=>
  rw[if_neg c1];simp only at h⊢;generalize hs1:(if ZM (byt l s.at_)<0 then failC s 13 s.at_ else if ZM (byt l s.at_)<ZcD g then failC s 19 s.at_ else if byt l s.at_=81∨byt l s.at_=84∨byt l s.at_=122 then Zan s s.at_ [byt l s.at_]else s)=s1 at h⊢;split at h
  ·next h0=>exact(h0 h).elim
  ·next h0=>
   rw[if_neg h0];have h0:s1.e=0:=Decidable.not_not.1 h0;have hc:¬ZM (byt l s.at_)<0:=fun hc=>by rw[←hs1,if_pos hc]at h0;exact Zcb (by decide) h0
   have hd:¬ZM (byt l s.at_)<ZcD g:=fun hd=>by rw[←hs1,if_neg hc,if_pos hd]at h0;exact Zcb (by decide) h0
   have hk:=Zcj x l {CV.zero with at_:=s.at_,guard:=g,name:=byt l s.at_} (s1.to (s1.at_+1));refine⟨by omega,by omega,hd,?_⟩;split<;>exact⟨hk.1,hk.2.1,hk.2.2⟩
section
variable {l:List UInt8}
end
theorem ZgL{w:World}{bs:List UInt8}{v:Value}(h:w.ownsRow 0 5 1 v bs.length (bcells bs)):(convert 22 9 v).run Tryz.prog w=.ok (.string ⟨bs.toArray⟩) w:=by
 have h0:=h;obtain⟨a,c,rfl⟩:=Zb h;rcases h.2 with⟨e,hn⟩|⟨g,b,d,e,_,hr,_⟩
 ·have hb:bs=[]:=List.length_eq_zero_iff.1 hn;subst hb;injection e with e1 e2 e3;subst e1;subst e3;rfl
 ·injection e with e1 e2 e3;subst e1;subst e3;refine run_conv_bytes Tryz.underlying22 Tryz.underlying5 Tryz.underlying9 ⟨g,0,none⟩ c bs w ?_;intro j v hj;exact h0.cells (g:=g) rfl j v hj
theorem ZmJ{l:List UInt8}{k:Nat}(hk:k<l.length)(e:Bool)(out:List UInt8):ZbC (l.drop k) e out=
 if e=false∧l[k]=92 then ZbC (l.drop (k+1)) true out else if e=true∧l[k]=110 then ZbC (l.drop (k+1)) false (out++[10])else if e=true∧l[k]≠92 then([],false)else ZbC (l.drop (k+1)) false (out++[l[k]]):=by
 rw[List.drop_eq_getElem_cons hk,ZbC]
theorem ZcE{w:World}{c:Int}{T:TypeId}:∀j u,([.int .u8 c]:List Value)[j]? =some u→(w.alloc (.cells #[.int .u8 c] T)).cell? ((⟨w.heap.size,0,none⟩:Addr).add j)=some u:=by
 intro j u hj
 match j,hj with
 |0,hj=>simp at hj;subst hj;simp[Addr.add]
theorem ZcF{c:Int}:∀u∈([.int .u8 c]:List Value),u.oneCell'=true:=by intro u hu;simp at hu;subst hu;rfl
theorem cm_list(l:List UInt8)(w:World)(hl:l.length≤99000):
 Calls Tryz.prog 124 #[.string ⟨l.toArray⟩] w fun r w'=>r=.returned (.tuple #[.string ⟨(ZbC l false []).1.toArray⟩,.bool (ZbC l false []).2])∧Fr nob w w':=by
 obtain⟨F,hF⟩:∃F,ZbC l false []=F:=⟨_,rfl⟩;rw[hF];obtain⟨Ft,Fb⟩:=F;obtain⟨i0,hi,v,y,z⟩:=info_parts ZeW;go_enter Tryz.func124,Tryz.ntmps124;go_wp2_with fail
 go_loopw [4,5,10] (fun ov ev i wr=>∃(k:Nat) (e:Bool) (bs:List UInt8),i=.int .i64 k∧k≤l.length∧ev=.bool e∧wr.ownsRow 0 5 1 ov bs.length (bcells bs)∧ZbC (l.drop k) e bs=(Ft,Fb)∧Fr nob w wr∧(∀g,ov.ownBlock=some g→w.heap.size≤g)∧bs.length≤k) (fun _ _ i _=>l.length-(intOf i).toNat)
 case atStart=>exact⟨0,false,[],rfl,Nat.zero_le _,rfl,World.ownsRow_nil _ _ _ _,hF,Fr.refl _ _,fun _ h=>(by cases h),Nat.zero_le _⟩
 case round=>
  obtain⟨k,e,bs,rfl,hk,rfl,ho,hL,fr,hn,E⟩:=hrel;clear hF;have HO:=hid ho;have HL:=hid hL;have FR:=hid fr;have HN:=hid hn;clear ho hL fr hn;by_cases B:k<l.length
  ·have hL:=HL.out;rw[ZmJ B]at hL;obtain⟨c,hc⟩:∃c,l[k]=c:=⟨_,rfl⟩;have H:(k:Int)<l.length:=by omega
   have HK:=hid hc;obtain⟨ao,co,C⟩:=Zb HO.out;subst C;rw[hc]at hL;cases e with
   |false=>
    by_cases j:c=92
    ·subst j;simp only[and_self,if_true]at hL;have q:=hid hL;clear hL HL;go_wp2_with(first|rw[HK.out]);go_roundw
     case rel=>exact⟨k+1,true,bs,by go_num,by omega,rfl,HO.out,q.out,FR.out,HN.out,by omega⟩
     case measure=>simp[intOf];omega
    ·have D:((c.toNat:Int)==92)=false:=Zn (b:=92) j;simp only[j,and_false,if_false,Bool.false_eq_true,false_and]at hL;have q:=hid hL;clear hL HL j hc;go_wp2_with(first|rw[HK.out]|(at_builtin;refine wpList_append_g rfl _ _ 22 rfl 5 i0 (.int .u8 0) 1 1 Tryz.underlying22 hi v y z rfl (by decide) _ _ _ rfl (ownsRow_fr HO.out ((Fr.refl nob wr).alloc _) (fun _ _ x=>x)) ⟨wr.heap.size,0,none⟩ 1 1 [(.int .u8 (c.toNat:Int))] rfl rfl ZcE ZcF (by unfold maxLen;omega) (by omega) ?_));intro v' w4 a f;obtain⟨t,u,rfl⟩:=Zb a;have p:Fr nob w w4:=(FR.out.alloc _).trans f.fr (fun i hi e=>by have:=HN.out i e;omega);have d:∀g,(Value.slice t (bs.length+1) u).ownBlock=some g→w.heap.size≤g:=fun g hg=>by
      rcases f.old g hg with h1|h1
      ·exact HN.out g h1
      ·have:=FR.out.size;simp only[World.size_alloc]at h1;omega
     have n:=hid a;have s:=hid p;have m:=hid d;clear a f p d;go_wp2;go_roundw
     case rel=>exact⟨k+1,false,bs++[c],by go_num,by omega,rfl,by rw[List.length_append,Zaj];exact n.out,q.out,s.out,m.out,by rw[List.length_append];simp;omega⟩
     case measure=>simp[intOf];omega
   |true=>
    by_cases o:c=110
    ·subst o;simp only[Bool.true_eq_false,false_and,if_false,and_self,if_true]at hL;have q:=hid hL;clear hL HL hc;go_wp2_with(first|rw[HK.out]|(at_builtin;refine wpList_append_g rfl _ _ 22 rfl 5 i0 (.int .u8 0) 1 1 Tryz.underlying22 hi v y z rfl (by decide) _ _ _ rfl (ownsRow_fr HO.out ((Fr.refl nob wr).alloc _) (fun _ _ x=>x)) ⟨wr.heap.size,0,none⟩ 1 1 [(.int .u8 10)] rfl rfl ZcE ZcF (by unfold maxLen;omega) (by omega) ?_));intro v' w4 a f;obtain⟨t,u,rfl⟩:=Zb a;have p:Fr nob w w4:=(FR.out.alloc _).trans f.fr (fun i hi e=>by have:=HN.out i e;omega);have d:∀g,(Value.slice t (bs.length+1) u).ownBlock=some g→w.heap.size≤g:=fun g hg=>by
      rcases f.old g hg with h1|h1
      ·exact HN.out g h1
      ·have:=FR.out.size;simp only[World.size_alloc]at h1;omega
     have n:=hid a;have s:=hid p;have m:=hid d;clear a f p d;go_wp2;go_roundw
     case rel=>exact⟨k+1,false,bs++[10],by go_num,by omega,rfl,by rw[List.length_append,Zaj];exact n.out,q.out,s.out,m.out,by rw[List.length_append];simp;omega⟩
     case measure=>simp[intOf];omega
    ·have A:((c.toNat:Int)==110)=false:=Zn (b:=110) o;by_cases j:c=92
     ·subst j;simp only[Bool.true_eq_false,false_and,if_false,true_and,ne_eq,not_true_eq_false,(by decide:¬(92:UInt8)=110)]at hL;have q:=hid hL;clear hL HL hc o A;go_wp2_with(first|rw[HK.out]|(at_builtin;refine wpList_append_g rfl _ _ 22 rfl 5 i0 (.int .u8 0) 1 1 Tryz.underlying22 hi v y z rfl (by decide) _ _ _ rfl (ownsRow_fr HO.out ((Fr.refl nob wr).alloc _) (fun _ _ x=>x)) ⟨wr.heap.size,0,none⟩ 1 1 [(.int .u8 92)] rfl rfl ZcE ZcF (by unfold maxLen;omega) (by omega) ?_));intro v' w4 a f;obtain⟨t,u,rfl⟩:=Zb a;have p:Fr nob w w4:=(FR.out.alloc _).trans f.fr (fun i hi e=>by have:=HN.out i e;omega);have d:∀g,(Value.slice t (bs.length+1) u).ownBlock=some g→w.heap.size≤g:=fun g hg=>by
       rcases f.old g hg with h1|h1
       ·exact HN.out g h1
       ·have:=FR.out.size;simp only[World.size_alloc]at h1;omega
      have n:=hid a;have s:=hid p;have m:=hid d;clear a f p d;go_wp2;go_roundw
      case rel=>exact⟨k+1,false,bs++[92],by go_num,by omega,rfl,by rw[List.length_append,Zaj];exact n.out,q.out,s.out,m.out,by rw[List.length_append];simp;omega⟩
      case measure=>simp[intOf];omega
     ·have D:((c.toNat:Int)==92)=false:=Zn (b:=92) j;have I:((c.toNat:Int) !=92)=true:=ZoW (b:=92) j;simp only[Bool.true_eq_false,false_and,if_false,true_and,ne_eq,j,o,not_false_eq_true,if_true]at hL;injection hL with e1 e2;subst e1;subst e2;clear HL hc j o;go_wp2_with(first|rw[HK.out]);go_ret2;exact⟨rfl,FR.out⟩
  ·obtain rfl:k=l.length:=by omega
   have hL:=HL.out;rw[List.drop_length,ZbC]at hL;injection hL with e1 e2;subst e1;subst e2;have G:=ZgL HO.out;go_wp2;go_ret2;exact⟨rfl,FR.out⟩
theorem Zk7{l:List UInt8}{k:Nat}(g:Int)(hk:k<l.length)(e:Bool)(b:List Prt):Zao g (l.drop k) e b=
 if e=false∧l[k]=92 then Zao g (l.drop (k+1)) true b
 else if e=false∧l[k]=38 then Zao g (l.drop (k+1)) false (b++[(0,[])])
 else if e=true∧48≤l[k].toNat∧l[k].toNat≤57 then(if g<(l[k].toNat:Int)-48 then([],9)else Zao g (l.drop (k+1)) false (b++[((l[k].toNat:Int)-48,[])]))
 else if e=true∧l[k]=110 then Zao g (l.drop (k+1)) false (pushT b [10])
 else Zao g (l.drop (k+1)) false (pushT b [l[k]]):=by
 rw[List.drop_eq_getElem_cons hk,Zao]
theorem Zaw{b:List Prt}{t:List UInt8}{k:Nat}(ht:t.length≤1)(hl:b.length≤k)(h:∀p∈b,p.2.length≤k):(pushT b t).length≤k+1∧∀p∈pushT b t,p.2.length≤k+1:=by
 rcases(by rcases List.eq_nil_or_concat b with h|⟨q,p,h⟩;exact .inl h;exact .inr ⟨q,p.1,p.2,by rw[h,List.concat_eq_append]⟩:b=[]∨∃(q:List Prt) (k:Int) (a:List UInt8),b=q++[(k,a)])with rfl|⟨q,g,a,rfl⟩
 ·rw[ZgK];refine⟨by simp,fun p hp=> ?_⟩;simp only[List.mem_singleton]at hp;subst hp;simp only;omega
 ·have ha:=h (g,a) (by simp);simp only at ha;simp only[List.length_append,List.length_singleton]at hl;by_cases hg:g= -1
  ·subst hg;rw[ZeO];refine⟨by simp;omega,fun p hp=> ?_⟩;simp only[List.mem_append,List.mem_singleton]at hp;rcases hp with hp|rfl
   ·have:=h p (by simp[hp]);omega
   ·simp only[List.length_append];omega
  ·rw[Zej q g a t hg];refine⟨by simp;omega,fun p hp=> ?_⟩;simp only[List.mem_append,List.mem_singleton]at hp;rcases hp with(hp|rfl)|rfl
   ·have:=h p (by simp[hp]);omega
   ·simp only;omega
   ·simp only;omega
theorem ZcZ{b:List Prt}{g:Int}{k:Nat}(hl:b.length≤k)(h:∀p∈b,p.2.length≤k):(b++[(g,[])]).length≤k+1∧∀p∈b++[(g,[])],p.2.length≤k+1:=by
 refine⟨by simp;omega,fun p hp=> ?_⟩;simp only[List.mem_append,List.mem_singleton]at hp;rcases hp with hp|rfl
 ·have:=h p hp;omega
 ·simp
def ZpP(w:World)(F:List Prt×Int)(r:Ending)(w':World):Prop:=∃v,r=.returned (.tuple #[v,.int .i64 F.2])∧OwP w' F.1 v∧(∀k,v.ownBlock=some k→w.heap.size≤k)∧Fr nob w w'
theorem Fr.abv{w a b:World}(f:Fr nob w a)(h:Fr (Abv w.heap.size) a b):Fr nob w b:=f.trans h (fun i hi hS=>by have hS:w.heap.size≤i:=hS;omega)
theorem ZmK(l:List UInt8)(gr:Int)(w:World)(hl:l.length≤99000):
 Calls Tryz.prog 121 #[.string ⟨l.toArray⟩,.int .i64 gr] w (ZpP w (Zao gr l false [])):=by
 obtain⟨F,hF⟩:∃F,Zao gr l false []=F:=⟨_,rfl⟩;rw[hF];obtain⟨Ft,Fe⟩:=F;obtain⟨i0,hi,D,E,G⟩:=info_parts ZgJ;obtain⟨w1,u⟩:∃w1,w1=w.alloc (.cells #[.slice none 0 0] 238):=⟨_,rfl⟩;have f1:Fr nob w w1:=by rw[u];exact(Fr.refl nob w).alloc _
 have y:Bdr w.heap.size w.heap.size [] w1:=by
  refine⟨.slice none 0 0,by rw[u];exact newAt _ _,World.ownsRow_nil _ _ _ _,Nat.le_refl _,fun k h=>by cases h⟩
 have I:=hid u;have F1:=hid f1;have H:=hid y;clear u f1 y;go_enter Tryz.func121,Tryz.ntmps121;go_wp2_with(rw[←I.out])
 go_loopw [7,13] (fun ev i wr=>∃(k:Nat) (e:Bool) (ps:List Prt),i=.int .i64 k∧k≤l.length∧ev=.bool e∧Bdr w.heap.size w.heap.size ps wr∧Zao gr (l.drop k) e ps=(Ft,Fe)∧Fr nob w wr∧ps.length≤k∧(∀p∈ps,p.2.length≤k)) (fun _ i _=>l.length-(intOf i).toNat)
 case atStart=>exact⟨0,false,[],rfl,Nat.zero_le _,rfl,H.out,hF,F1.out,Nat.zero_le _,by simp⟩
 case round=>
  obtain⟨k,e,ps,rfl,hk,rfl,hB,hL,fr,g,A⟩:=hrel;clear hF;have HB:=hid hB;have HL:=hid hL;have FR:=hid fr;have a:=hid A;have C:=fr.size;have n:=hid C;clear hB hL fr A C;by_cases s:k<l.length
  ·have hL:=HL.out;rw[Zk7 gr s]at hL;obtain⟨c,hc⟩:∃c,l[k]=c:=⟨_,rfl⟩;have N:(k:Int)<l.length:=by omega
   have HK:=hid hc;rw[hc]at hL;cases e with
   |false=>
    by_cases o:c=92
    ·subst o;simp only[and_self,if_true]at hL;have f:=hid hL;clear hL HL hc;go_wp2_with(first|rw[HK.out]);go_roundw
     case rel=>exact⟨k+1,true,ps,by go_num,by omega,rfl,HB.out,f.out,FR.out,by omega,fun p hp=>by have:=a.out p hp;omega⟩
     case measure=>simp[intOf];omega
    ·have L:((c.toNat:Int)==92)=false:=Zn (b:=92) o;by_cases r:c=38
     ·subst r;simp only[o,and_false,if_false,and_self,if_true]at hL;have f:=hid hL;clear hL HL hc o L;obtain⟨v,b1,b2,b3,b4⟩:=HB.out;obtain⟨av,cv,rfl⟩:=Zb b2;have rb:=Zay (cell_at (j:=0) b1 rfl);have B1:=hid b1;have B2:=hid b2;have B4:=hid b4;clear b1 b2 b4;go_wp2_with(first|rw[HK.out]|(at_builtin;refine wpList_append_g rfl _ _ 238 rfl 43 i0 (.agg #[.int .i64 0,.string ByteArray.empty]) 2 24 Tryz.underlying238 hi D E G rfl (by decide) _ _ _ rfl (ownsRow_fr B2.out ((Fr.refl nob wr).alloc _) (fun _ _ x=>x)) ⟨wr.heap.size,0,none⟩ 1 1 [.int .i64 (0),.string ⟨#[]⟩] rfl rfl (pC_news (t:=[]) (newAt0 wr _)) (ZiG (k:=0) (t:=[])) (by unfold maxLen;omega) (by omega) ?_));intro v' w4 d q;obtain⟨J,K,rfl⟩:=Zb d;obtain⟨⟨pc,pf⟩,h5,f5⟩:=Zfr (l:=ps) B1.out b3 n.out B4.out ((Fr.refl nob wr).alloc _) q (k:=0) (t:=[]) d;have H5:=hid h5;have F5:=hid (FR.out.abv f5)
      clear d q h5 f5 rb;go_wp2;go_roundw
      case rel=>exact⟨k+1,false,ps++[(0,[])],by go_num,by omega,rfl,H5.out,f.out,F5.out,(ZcZ g a.out).1,(ZcZ g a.out).2⟩
      case measure=>simp[intOf];omega
     ·have Q:((c.toNat:Int)==38)=false:=Zn (b:=38) r;simp only[o,r,and_false,if_false,Bool.false_eq_true,false_and]at hL;have f:=hid hL;clear hL HL o r hc;have B:∀W,(Instr.slice 9 (.string ⟨l.toArray⟩) (some (.int .i64 (k:Int))) (some (.int .i64 ((k:Int)+1))) none).run Tryz.prog W=.ok (.string ⟨[c].toArray⟩) W:=fun W=>by
       have:=ZbH (P:=Tryz.prog) (t:=9) l Tryz.underlying9 s rfl rfl W;rw[HK.out]at this;exact this
      go_wp2_with(first|rw[HK.out]);(try rw[HK.out]);refine(bd_text w.heap.size w.heap.size ps [c] wr (by omega) (by simp) (fun p hp=>by have:=a.out p hp;omega) n.out HB.out).mono ?_;rintro z w5 ⟨rfl,h5,f5⟩;have H5:=hid h5;have F5:=hid (FR.out.abv f5);clear h5 f5;go_wp2;go_roundw
      case rel=>exact⟨k+1,false,pushT ps [c],by go_num,by omega,rfl,H5.out,f.out,F5.out,(Zaw (by simp) g a.out).1,(Zaw (by simp) g a.out).2⟩
      case measure=>simp[intOf];omega
   |true=>
    by_cases hd:48≤c.toNat∧c.toNat≤57
    ·have d1:(48:Int)≤(c.toNat:Int):=by omega
     have d2:(c.toNat:Int)≤57:=by omega
     have O:IntKind.u8.wrap ((c.toNat:Int)-48)=(c.toNat:Int)-48:=IntWalk.u8_in _ (by omega);simp only[Bool.true_eq_false,false_and,if_false,true_and,hd,and_self,if_true]at hL;by_cases hg:gr<(c.toNat:Int)-48
     ·rw[if_pos hg]at hL;injection hL with e1 e2;subst e1;subst e2;clear HL hc hd;go_wp2_with(first|rw[HK.out]);go_ret2;exact⟨.slice none 0 0,rfl,World.ownsRow_nil _ _ _ _,fun k h=>(by cases h),FR.out⟩
     ·rw[if_neg hg]at hL;have f:=hid hL;clear hL HL hc hd;obtain⟨v,b1,b2,b3,b4⟩:=HB.out;obtain⟨av,cv,rfl⟩:=Zb b2;have rb:=Zay (cell_at (j:=0) b1 rfl);have B1:=hid b1;have B2:=hid b2;have B4:=hid b4;clear b1 b2 b4;go_wp2_with(first|rw[HK.out]|(at_builtin;refine wpList_append_g rfl _ _ 238 rfl 43 i0 (.agg #[.int .i64 0,.string ByteArray.empty]) 2 24 Tryz.underlying238 hi D E G rfl (by decide) _ _ _ rfl (ownsRow_fr B2.out ((Fr.refl nob wr).alloc _) (fun _ _ x=>x)) ⟨wr.heap.size,0,none⟩ 1 1 [.int .i64 ((c.toNat:Int)-48),.string ⟨#[]⟩] rfl rfl (pC_news (t:=[]) (newAt0 wr _)) (ZiG (k:=(c.toNat:Int)-48) (t:=[])) (by unfold maxLen;omega) (by omega) ?_));intro v' w4 d q;obtain⟨J,K,rfl⟩:=Zb d;obtain⟨⟨pc,pf⟩,h5,f5⟩:=Zfr (l:=ps) B1.out b3 n.out B4.out ((Fr.refl nob wr).alloc _) q (k:=(c.toNat:Int)-48) (t:=[]) d;have H5:=hid h5;have F5:=hid (FR.out.abv f5)
      clear d q h5 f5 rb;go_wp2;go_roundw
      case rel=>exact⟨k+1,false,ps++[((c.toNat:Int)-48,[])],by go_num,by omega,rfl,H5.out,f.out,F5.out,(ZcZ g a.out).1,(ZcZ g a.out).2⟩
      case measure=>simp[intOf];omega
    ·have nd:¬(48:Int)≤(c.toNat:Int)∨((48:Int)≤(c.toNat:Int)∧¬(c.toNat:Int)≤57):=by omega
     by_cases m:c=110
     ·subst m;simp only[Bool.true_eq_false,false_and,if_false,true_and,hd,and_self,if_true]at hL;have f:=hid hL;clear hL HL hc nd hd;go_wp2_with(first|rw[HK.out]);(try rw[HK.out]);refine(bd_text w.heap.size w.heap.size ps [10] wr (by omega) (by simp) (fun p hp=>by have:=a.out p hp;omega) n.out HB.out).mono ?_;rintro z w5 ⟨rfl,h5,f5⟩;have H5:=hid h5;have F5:=hid (FR.out.abv f5);clear h5 f5;go_wp2;go_roundw
      case rel=>exact⟨k+1,false,pushT ps [10],by go_num,by omega,rfl,H5.out,f.out,F5.out,(Zaw (by simp) g a.out).1,(Zaw (by simp) g a.out).2⟩
      case measure=>simp[intOf];omega
     ·have M:((c.toNat:Int)==110)=false:=Zn (b:=110) m;simp only[Bool.true_eq_false,false_and,if_false,true_and,hd,m]at hL;have f:=hid hL;clear hL HL m hc hd;rcases nd with n1|⟨n1,n2⟩
      ·skip
       have B:∀W,(Instr.slice 9 (.string ⟨l.toArray⟩) (some (.int .i64 (k:Int))) (some (.int .i64 ((k:Int)+1))) none).run Tryz.prog W=.ok (.string ⟨[c].toArray⟩) W:=fun W=>by
        have:=ZbH (P:=Tryz.prog) (t:=9) l Tryz.underlying9 s rfl rfl W;rw[HK.out]at this;exact this
       go_wp2_with(first|rw[HK.out]);(try rw[HK.out]);refine(bd_text w.heap.size w.heap.size ps [c] wr (by omega) (by simp) (fun p hp=>by have:=a.out p hp;omega) n.out HB.out).mono ?_;rintro z w5 ⟨rfl,h5,f5⟩;have H5:=hid h5;have F5:=hid (FR.out.abv f5);clear h5 f5;go_wp2;go_roundw
       case rel=>exact⟨k+1,false,pushT ps [c],by go_num,by omega,rfl,H5.out,f.out,F5.out,(Zaw (by simp) g a.out).1,(Zaw (by simp) g a.out).2⟩
       case measure=>simp[intOf];omega
      ·skip
       have B:∀W,(Instr.slice 9 (.string ⟨l.toArray⟩) (some (.int .i64 (k:Int))) (some (.int .i64 ((k:Int)+1))) none).run Tryz.prog W=.ok (.string ⟨[c].toArray⟩) W:=fun W=>by
        have:=ZbH (P:=Tryz.prog) (t:=9) l Tryz.underlying9 s rfl rfl W;rw[HK.out]at this;exact this
       go_wp2_with(first|rw[HK.out]);(try rw[HK.out]);refine(bd_text w.heap.size w.heap.size ps [c] wr (by omega) (by simp) (fun p hp=>by have:=a.out p hp;omega) n.out HB.out).mono ?_;rintro z w5 ⟨rfl,h5,f5⟩;have H5:=hid h5;have F5:=hid (FR.out.abv f5);clear h5 f5;go_wp2;go_roundw
       case rel=>exact⟨k+1,false,pushT ps [c],by go_num,by omega,rfl,H5.out,f.out,F5.out,(Zaw (by simp) g a.out).1,(Zaw (by simp) g a.out).2⟩
       case measure=>simp[intOf];omega
  ·obtain rfl:k=l.length:=by omega
   have hL:=HL.out;rw[List.drop_length,Zao]at hL;cases e with
   |true=>
    simp only[if_true]at hL;injection hL with e1 e2;subst e1;subst e2;go_wp2;go_ret2;exact⟨.slice none 0 0,rfl,World.ownsRow_nil _ _ _ _,fun k h=>(by cases h),FR.out⟩
   |false=>
    simp only[Bool.false_eq_true,if_false]at hL;injection hL with e1 e2;subst e1;subst e2;obtain⟨v,b1,b2,b3,b4⟩:=HB.out;obtain⟨av,cv,rfl⟩:=Zb b2;have rb:=Zay (cell_at (j:=0) b1 rfl);have B2:=hid b2;have B4:=hid b4;clear b1 b2 b4;go_wp2;go_ret2;exact⟨_,rfl,B2.out,fun k h=>(B4.out k h).2,FR.out⟩
theorem Zk8(b:Nat)(l:List UInt8)(x:Bool)(s:AdS)(S:Nat→Prop)(w:World)(h:CRd b l x s S w):
 Calls Tryz.prog 154 #[.pointer (some ⟨b,0,none⟩)] w fun r w'=>r=.returned (.func (.func (if x then 178 else 179)) #[] #[])∧Fr nob w w':=by
 obtain⟨mv,h⟩:=h;have rr:=Zd h.blk;clear h;cases x with
 |true=>
  go_enter Tryz.func154,Tryz.ntmps154;go_wp2;go_ret;exact⟨rfl,Fr.refl _ _⟩
 |false=>
  go_enter Tryz.func154,Tryz.ntmps154;go_wp2;go_ret;exact⟨rfl,Fr.refl _ _⟩
theorem ZgM(t:List UInt8)(x:BF)(w:World)(ht:t.length≤100000)(hE:Env w):Calls Tryz.prog (if x then 178 else 179) #[.string ⟨t.toArray⟩] w (EreAnsO (Zac prg x t) w):=by
 rw[if_neg Bool.false_ne_true]
 ·rw[ZfM];refine(ZeE t w ht hE).mono ?_;intro e w' h;unfold BreAnsO at h;unfold EreAnsO;refine⟨h.1,?_⟩;have h2:=h.2;cases hp:Zey prg t with
  |inl z=>rw[hp]at h2;exact h2
  |inr z=>rw[hp]at h2;obtain⟨i,y,mv,rfl,h3⟩:=h2;exact⟨_,mv,rfl,h3⟩
def ZqD(b:Nat)(l:List UInt8)(x:Bool)(S O:Nat→Prop)(w:World)(R:(List UInt8×Nd)×AdS)(r:Ending)(w':World):Prop:=
 ∃u S',r=.returned (.tuple #[.string ⟨R.1.1.toArray⟩,u])∧RN (SO S' O) w' R.1.2 u∧CRd b l x R.2 S' w'∧Stp S w S' w'
theorem ZmL(b:Nat)(l:List UInt8)(d:UInt8)(x:BF)(s:AdS)(S O:Nat→Prop)(w:World)(hl:l.length≤99000)(ha:s.at_≤l.length)(hm:s.marks.length≤100000)(hS:∀k,S k→k<w.heap.size)(hO:∀k,O k→k<w.heap.size)
 (W0:World) (hE:Env W0) (hW:Fr nob W0 w) (hSW:∀k,S k→W0.heap.size≤k) (h:CRd b l x s S w):
 Calls Tryz.prog 119 #[.pointer (some ⟨b,0,none⟩),.int .u8 (d.toNat:Int)] w (ZqD b l x S O w (Zav x l d s)):=by
 have t:=hid (Zck b l d x true s S w hl ha h);have a1:=ZaW (l:=l) d true ha;have f:(Zr l d true s).2.marks=s.marks:=by unfold Zr;split;rfl;unfold ZV;split<;>rfl
 have P:(Zr l d true s).1.length≤99000:=by
  unfold Zr;split
  ·simp
  ·have:=ZdC l d true (l.length+1) s.at_ [];simp only[List.length_nil]at this;simp only;omega
 unfold Zav;simp only;obtain⟨p0,ms,e0⟩:=s;obtain⟨mv,h⟩:=h;have rr:=Zd h.blk;have H:=hid h;simp only at ha hm rr f⊢;obtain⟨B,hB⟩:∃B,Zr l d true ⟨p0,ms,e0⟩=B:=⟨_,rfl⟩;obtain⟨T,s1⟩:=B;rw[hB]at t a1 f P⊢;obtain⟨p1,D,e1⟩:=s1;simp only at t a1 f P⊢;subst f;have HS:=hid hS;have HO:=hid hO;have HE:=hid hE;have HW:=hid hW;have b5:=hid hSW;clear h hB hS hO hE hW hSW;have d6:w.heap.size=w.heap.size:=rfl;by_cases h1:e1=0
 ·subst h1;by_cases hT:T=[]
  ·subst hT;simp only[and_self,if_true];rw[Za9 rfl];simp only[ne_eq,(by decide:¬(2:Int)=0),not_false_eq_true,if_true];go_enter Tryz.func119,Tryz.ntmps119;go_wp2_with fail;refine t.out.mono ?_;rintro z w1 ⟨rfl,h1,c⟩;clear rr;have H1:=hid h1;have a:=hid c;clear h1 c;go_wp2_with fail;refine(cm_ok b l x _ S w1 H1.out).mono ?_;rintro z w2 ⟨rfl,f2⟩;go_wp2_with fail;refine(cm_fail b l x _ S 2 p0 w2 (H1.out.on f2)).mono ?_;rintro z w3 ⟨rfl,h3,c8⟩;rw[Za9 rfl]at h3;go_wp2_with fail;refine(cm_ok b l x _ S w3 h3).mono ?_;rintro z w4 ⟨rfl,f4⟩;go_wp2;go_ret2;exact⟨.nilIface,S,rfl,by rw[RN],h3.on f4,(a.out.trans (Stp.of f2)).trans (c8.trans (Stp.of f4))⟩
  ·simp only[hT,and_false,if_false,ne_eq,not_true_eq_false];have d1:T.isEmpty=false:=by cases T with|nil=>exact absurd rfl hT|cons _ _=>rfl
   have J:=hid (fun w' hE=>ZgM T x w' (by omega) hE);have V:=hid (fun(n:Nd) (r:RxS) (h:Zac prg x T=.inr (n,r))=>parseD_marks h);have U:=hid (fun(z:Int×Nat) (h:Zac prg x T=.inl z)=>parseD_err h);obtain⟨R,hR⟩:∃R,Zac prg x T=R:=⟨_,rfl⟩;rw[hR]at J V U⊢;obtain⟨fn,E⟩:∃fn,(if x then 178 else 179)=fn:=⟨_,rfl⟩;have a0:fn=178∨fn=179:=by rw[←E];exact .inr rfl
   rw[E]at J;have b4:=hid (fun p m e w' h=>by have:=Zk8 b l x (⟨p,m,e⟩:AdS) S w' h;rw[E]at this;exact this);clear hR E hT;rcases a0 with rfl|rfl
   all_goals
    go_enter Tryz.func119,Tryz.ntmps119;go_wp2_with fail;refine t.out.mono ?_;rintro z w1 ⟨rfl,h1,c⟩;clear rr;have H1:=hid h1;have a:=hid c;clear h1 c;go_wp2_with fail;refine(cm_ok b l x _ S w1 H1.out).mono ?_;rintro z w2 ⟨rfl,f2⟩;go_wp2_with fail;refine(cm_ok b l x _ S w2 (H1.out.on f2)).mono ?_;rintro z w3 ⟨rfl,Y⟩;have f3:=f2.trans' Y;clear f2 Y;go_wp2_with fail;refine(b4.out _ _ _ w3 (H1.out.on f3)).mono ?_;rintro z w4 ⟨rfl,Z⟩;have F4:=hid (f3.trans' Z);clear f3 Z;have b0:=hid (HE.out.on ((a.out.trans (Stp.of F4.out)).from HW.out b5.out));go_wp2_with fail;refine(J.out w4 b0.out).mono ?_;intro z w5 hz;cases R with
    |inl y=>
     obtain⟨y,py⟩:=y;obtain⟨f5,rfl⟩:=hz;have c7:¬y=0:=U.out (y,py) rfl;have d8:(y !=0)=true:=by simpa using c7
     have K:=F4.out.trans' f5;go_wp2_with fail;refine(cm_fail b l x _ S y p0 w5 (H1.out.on K)).mono ?_;rintro z w6 ⟨rfl,h6,a8⟩;have H6:=hid h6;have c0:=hid (a.out.trans ((Stp.of K).trans a8));clear h6 a8 K f5;go_wp2_with fail
     go_loopw [50] (fun i wr=>i=.int .i64 0∧wr=w6) (fun _ _=>0)
     case atStart=>exact⟨rfl,rfl⟩
     case round=>
      obtain⟨rfl,rfl⟩:=hrel;go_wp2;go_ret2;exact⟨.nilIface,S,rfl,by rw[RN],H6.out,c0.out⟩
    |inr y=>
     obtain⟨n,r⟩:=y;obtain⟨f5,v,d9,rfl,Q,q,N⟩:=hz;obtain⟨f,a4,_⟩:=V.out n r rfl;obtain⟨aP,cP,c6⟩:=Zb q;subst c6;have I:∀i (h:i<r.marks.length),r.marks[i].1≤T.length:=fun i h=>f _ (List.getElem_mem h);have a6:r.marks.length≤99000:=Nat.le_trans a4 P;have h5:=H1.out.on (F4.out.trans' f5);have d0:=F4.out.size;have c9:=a.out.fr.size;obtain⟨RM,o⟩:∃RM,r.marks=RM:=⟨_,rfl⟩;have G:=q;have b2:=hid (show OwM w5 RM (.slice aP RM.length cP) by rw[←o];exact G);have W:=hid (show∀i (h:i<RM.length),RM[i].1≤T.length by rw[←o];exact I);have b7:=hid Q;have H5:=hid h5;have d3:RM.length≤99000:=by rw[←o];exact a6
     have b9:=hid (a.out.trans ((Stp.of F4.out).trans (Stp.of f5)));have F5:=hid f5;have SZ:=hid (show w.heap.size≤w4.heap.size by omega);have sh:=Q.shape;have A:(⟨p1,D++r.marks.map (shM p0),0⟩:AdS)=⟨p1,D++RM.map (shM p0),0⟩:=by rw[o]
     have HG:=hid A;have C:r.marks.length=RM.length:=by rw[o]
     rw[C];rw[C]at N;have b3:=hid N;clear f a4 I q G N Q h5 f5 o d0 c9 A a6 C;rcases sh with rfl|⟨iv,yv,rfl⟩
     all_goals
      go_wp2_with fail
      go_loopw [50] (fun i wr=>∃(k:Nat) (S':Nat→Prop),i=.int .i64 k∧k≤RM.length∧CRd b l x ⟨p1,D++(RM.take k).map (shM p0),0⟩ S' wr∧Stp S w5 S' wr) (fun i _=>RM.length-(intOf i).toNat)
      case atStart=>exact⟨0,S,rfl,Nat.zero_le _,by simpa using H5.out,Stp.refl _ _⟩
      case round=>
       obtain⟨k,S',rfl,hk,hA,a7⟩:=hrel;have HA:=hid hA;have u:=hid a7;clear hA a7;by_cases M:k<RM.length
       ·have c3:=W.out k M;have F:=Zit p0 RM M;have q:OwM wr RM (.slice aP RM.length cP):=ownsRow_fr b2.out u.out.fr (fun j hj hx=>by have:=b3.out j hj;have:=HS.out j hx;have:=SZ.out;omega);obtain⟨g,d4,L,d2,c4,c5⟩:=q.get M;injection L with L hg2 hg3;subst L;subst hg3;obtain⟨m1,a2⟩:∃m1,RM[k].1=m1:=⟨_,rfl⟩;obtain⟨m2,a3⟩:∃m2,RM[k].2=m2:=⟨_,rfl⟩;rw[a2]at c4 c3 F;rw[a3]at c5 F;have d7:IntKind.i64.wrap ((p0:Int)+(m1:Int))=((p0+m1:Nat):Int):=by rw[IntWalk.i64_in _ (by omega)];omega
        have b6:=hid F;have b1:=hid (show(D++(RM.take k).map (shM p0)).length≤1000000 by rw[List.length_append,List.length_map,List.length_take];omega);have d5:(k:Int)<RM.length:=by omega
        clear q F a2 a3 hg2;go_wp2_with fail;refine(cm_mark b l x _ S' (p0+m1) m2 _ b1.out (HA.out.on ((Fr.refl _ _).alloc _))).mono ?_;rintro z w7 ⟨rfl,b8,h7,a9⟩;have H7:=hid h7;have c1:=hid (u.out.trans ((Stp.of ((Fr.refl nob wr).alloc _)).trans a9));clear h7 a9;go_wp2;go_roundw
        case rel=>exact⟨k+1,b8,by go_num,by omega,by rw[b6.out,←List.append_assoc];exact H7.out,c1.out⟩
        case measure=>simp[intOf];omega
       ·obtain rfl:k=RM.length:=by omega
        go_wp2;go_ret2;have a5:=HA.out;rw[List.take_of_length_le (Nat.le_refl _)]at a5;refine⟨_,S',rfl,?_,?_,b9.out.trans u.out⟩
        ·exact RN.keep u.out.fr (fun j _ hj=>by have:=HS.out j hj;have:=SZ.out;show j<_;omega) (fun j hj hx=>by have:=SZ.out;rcases hx with hx|hx;have h1:=u.out.old j hj hx;have:=HS.out j h1;(show j<_;omega);have:=HO.out j hx;(show j<_;omega)) _ _ b7.out
        ·show CRd b l x ⟨p1,D++r.marks.map (shM p0),0⟩ S' wr;rw[HG.out];exact a5
 ·have c2:¬(e1=0∧T=[]):=fun h=>h1 h.1;have X:(e1==0)=false:=by simpa using h1
  simp only[if_neg c2,ne_eq,h1,not_false_eq_true,if_true];go_enter Tryz.func119,Tryz.ntmps119;go_wp2_with fail;refine t.out.mono ?_;rintro z w1 ⟨rfl,h1,c⟩;clear rr;have H1:=hid h1;have a:=hid c;clear h1 c;go_wp2_with fail;refine(cm_ok b l x _ S w1 H1.out).mono ?_;rintro z w2 ⟨rfl,f2⟩;simp only[X];go_wp2_with fail;refine(cm_ok b l x _ S w2 (H1.out.on f2)).mono ?_;rintro z w3 ⟨rfl,f3⟩;simp only[X];go_wp2;go_ret2;exact⟨.nilIface,S,rfl,by rw[RN],(H1.out.on f2).on f3,a.out.trans ((Stp.of f2).trans (Stp.of f3))⟩
end Go.Proofs.YtkfddjopbocpkaaGreatDoor
