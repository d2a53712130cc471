/- Lemmas of this claim. -/
import Derived.Test.YtkfddjopbocpkaaGreatDoorM22
set_option linter.unusedVariables false
set_option linter.unusedSimpArgs false
set_option maxRecDepth 100000
set_option maxHeartbeats 4000000
namespace Go.Proofs.YtkfddjopbocpkaaGreatDoor
open Go.Lib (hid)
open Go.RowKit
def pC(l:List Prt):List Value:=l.flatMap fun m=>[.int .i64 m.1,.string ⟨m.2.toArray⟩]
theorem Zcd(l:List Prt):(pC l).length=2*l.length:=by
 induction l with
 |nil=>rfl
 |cons m r ih=>
  have e:pC (m::r)=.int .i64 m.1:: .string ⟨m.2.toArray⟩::pC r:=rfl;rw[e,List.length_cons,List.length_cons,ih,List.length_cons];omega
theorem ZcY(l:List Prt)(k:Int)(t:List UInt8):pC (l++[(k,t)])=pC l++[.int .i64 k,.string ⟨t.toArray⟩]:=by simp[pC]
theorem ZiG{k:Int}{t:List UInt8}:∀u∈([.int .i64 k,.string ⟨t.toArray⟩]:List Value),u.oneCell'=true:=by
 intro u hu;simp only[List.mem_cons,List.not_mem_nil,or_false]at hu;rcases hu with rfl|rfl<;>rfl
theorem pC_news{w:World}{g:Nat}{k:Int}{t:List UInt8}{T:TypeId}{fr:Nat×Nat}(h:w.heap[g]? =some (.cells #[.int .i64 k,.string ⟨t.toArray⟩] T fr)):
 ∀j u,([.int .i64 k,.string ⟨t.toArray⟩]:List Value)[j]? =some u→w.cell? ((⟨g,0,none⟩:Addr).add j)=some u:=by
 intro j u hj
 match j,hj with
 |0,hj=>simp at hj;subst hj;exact cell_at h rfl
 |1,hj=>simp at hj;subst hj;exact cell_at (j:=1) h rfl
theorem ZgJ:(Tryz.prog.info? 43).map (fun i=>(i.zero,i.size,i.bytes))=some (some (.agg #[.int .i64 0,.string ByteArray.empty]),2,24):=by kernel_rfl
def OwP(w:World)(l:List Prt)(v:Value):Prop:=w.ownsRow 0 43 2 v l.length (pC l)
def Bdr(B b:Nat)(l:List Prt)(w:World):Prop:=∃v,w.heap[b]? =some (.cells #[v] 238 (0,0))∧OwP w l v∧B≤b∧∀k,v.ownBlock=some k→k≠b∧B≤k
def Abv(B:Nat):Nat→Prop:=fun k=>B≤k
theorem ZhU{w:World}{base g cap n size j:Nat}{e:TypeId}{xs:List Value}(h:w.ownsRow base e size (.slice (some ⟨g,0,none⟩) n cap) n xs)(u:Value)(hj:j<xs.length):(w.setCell ⟨g,j,none⟩ u).ownsRow base e size (.slice (some ⟨g,0,none⟩) n cap) n (xs.set j u):=by
 refine⟨by rw[List.length_set];exact h.1,.inr ?_⟩;rcases h.2 with⟨e1,hn⟩|⟨g',cap',cur,e1,hb,hg,hnc,hcm,hcs,htake⟩
 ·cases e1
 ·injection e1 with e1 e2 e3;injection e1 with e1;injection e1 with e1;subst e1;subst e3;refine⟨g,cap,cur.setIfInBounds j u,rfl,hb,Za hg j u,hnc,hcm,by simpa using hcs,?_⟩;rw[Array.toList_setIfInBounds,List.take_set,htake]
theorem Fr.weak{S T:Nat→Prop}{w w':World}(h:Fr S w w')(hs:∀k,S k→T k):Fr T w w':=h.mono fun k _ x=>hs k x
section
variable {B b:Nat} {l:List Prt} {w W0 w3:World} {v v':Value}
theorem Zfr(hb:w.heap[b]? =some (.cells #[v] 238 (0,0)))(hB:B≤b)(hBw:B≤w.heap.size)(hn:∀k,v.ownBlock=some k→k≠b∧B≤k)(f:Fr nob w W0)(hap:Appd 1 v v' W0 w3){k:Int}{t:List UInt8}
 (hown:w3.ownsRow 0 43 2 v' (l.length+1) (pC l++[.int .i64 k,.string ⟨t.toArray⟩])):
 (w3.cell? ⟨b,0,none⟩=some v∧w3.frozen? ⟨b,0,none⟩=false)∧Bdr B b (l++[(k,t)]) (w3.setCell ⟨b,0,none⟩ v')∧Fr (Abv B) w (w3.setCell ⟨b,0,none⟩ v'):=by
 have h0:=f.heap hb (fun x=>x);have hblk:=hap.fr.heap h0 (fun e=>(hn b e).1 rfl);have hlt:=lt_heap hb;have hsz:=f.size;have hst:=(Fr.refl (fun k=>k=b) w3).setCell (p:=⟨b,0,none⟩) (fun _=>rfl) v';have hnb:∀k,v'.ownBlock=some k→k≠b∧B≤k:=fun k hk=>by
  rcases hap.old k hk with h1|h1
  ·exact hn k h1
  ·omega
 refine⟨⟨cell_at hblk rfl,unfrozen_at hblk 0⟩,⟨v',by have:=Za hblk 0 v';simpa using this,?_,hB,hnb⟩,?_⟩
 ·have:=ownsRow_fr hown hst (fun k hk e=>(hnb k hk).1 e);unfold OwP;simp only[List.length_append,List.length_singleton,ZcY];exact this
 ·exact(f.any.trans (hap.fr.mono (T:=Abv B) fun k _ hk=>(hn k hk).2) (fun _ _ x=>x)).setCell (p:=⟨b,0,none⟩) (fun _=>hB) v'
end
theorem ZgK(t:List UInt8):pushT [] t=[(-1,t)]:=rfl
theorem ZeO(q:List Prt)(a t:List UInt8):pushT (q++[(-1,a)]) t=q++[(-1,a++t)]:=by
 unfold pushT;rw[List.getLast?_concat];simp only[if_true,List.dropLast_concat]
theorem Zej(q:List Prt)(k:Int)(a t:List UInt8)(hk:k≠ -1):pushT (q++[(k,a)]) t=q++[(k,a)]++[(-1,t)]:=by
 unfold pushT;rw[List.getLast?_concat];simp only[if_neg hk]
theorem Zoq(q:List Prt)(k:Int)(a:List UInt8):(pC (q++[(k,a)]))[q.length*2]? =some (.int .i64 k)∧(pC (q++[(k,a)]))[q.length*2+1]? =some (.string ⟨a.toArray⟩):=by
 rw[ZcY];have:=Zcd q;constructor
 ·rw[List.getElem?_append_right (by omega),show q.length*2-(pC q).length=0 by omega];rfl
 ·rw[List.getElem?_append_right (by omega),show q.length*2+1-(pC q).length=1 by omega];rfl
theorem ZeP{α:Type}(a:List α)(k j:Nat)(h:k=a.length+j)(b:List α)(x:α):(a++b).set k x=a++b.set j x:=by
 subst h;induction a with
 |nil=>simp
 |cons y a ih=>rw[List.cons_append,List.length_cons,show a.length+1+j=(a.length+j)+1 by omega,List.set_cons_succ,ih,List.cons_append]
theorem Zjt(q:List Prt)(k:Int)(a t:List UInt8):(pC (q++[(k,a)])).set (q.length*2+1) (.string ⟨t.toArray⟩)=pC (q++[(k,t)]):=by
 rw[ZcY,ZcY,ZeP (pC q) _ 1 (by rw[Zcd];omega)];rfl
theorem bd_text(B b:Nat)(l:List Prt)(t:List UInt8)(w:World)(hl:l.length≤100000)(ht:t.length≤100000)(hlt:∀p∈l,p.2.length≤100000)(hBw:B≤w.heap.size)(h:Bdr B b l w):
 Calls Tryz.prog 155 #[.pointer (some ⟨b,0,none⟩),.string ⟨t.toArray⟩] w fun r w'=>r=.returned (.tuple #[])∧Bdr B b (pushT l t) w'∧Fr (Abv B) w w':=by
 obtain⟨v,hb,ho,hB,hn⟩:=h;obtain⟨av,cv,rfl⟩:=Zb ho;obtain⟨i0,hi,hz0,hz1,hz2⟩:=info_parts ZgJ;have HB:=hid hb;have HO:=hid ho;have HN:=hid hn;have rb:=Zay (cell_at (j:=0) hb rfl);rcases(by rcases List.eq_nil_or_concat l with h|⟨q,p,h⟩;exact .inl h;exact .inr ⟨q,p.1,p.2,by rw[h,List.concat_eq_append]⟩:l=[]∨∃(q:List Prt) (k:Int) (a:List UInt8),l=q++[(k,a)])with rfl|⟨q,k,a,rfl⟩
 ·rw[ZgK];clear hb ho hn;go_enter Tryz.func155,Tryz.ntmps155;go_wp2_with(at_builtin;refine wpList_append_g rfl _ _ 238 rfl 43 i0 (.agg #[.int .i64 0,.string ByteArray.empty]) 2 24 Tryz.underlying238 hi hz0 hz1 hz2 rfl (by decide) _ _ _ rfl (ownsRow_fr HO.out ((Fr.refl nob w).alloc _) (fun _ _ x=>x)) ⟨w.heap.size,0,none⟩ 1 1 [.int .i64 (-1),.string ⟨t.toArray⟩] rfl rfl ?c1 ?c2 ?c3 ?c4 ?_)
  case c1=>exact pC_news (newAt0 w _)
  case c2=>exact ZiG
  case c3=>unfold maxLen;show 0+1≤_;omega
  case c4=>show(0+1)*24≤_;omega
  intro v' w4 hown' hap;obtain⟨av',cv',rfl⟩:=Zb hown';obtain⟨⟨pc,pf⟩,h5,f5⟩:=Zfr (l:=[]) HB.out hB hBw HN.out ((Fr.refl nob w).alloc _) hap (k:= -1) (t:=t) hown';have H5:=hid h5;have F5:=hid f5;clear hown' hap h5 f5 rb;go_wp2
  go_end0
  exact⟨rfl,H5.out,F5.out⟩
 ·have hkl:(q++[(k,a)]).length=q.length+1:=by simp
  have hql:q.length≤100000:=by rw[hkl]at hl;omega
  have hal:a.length≤100000:=hlt (k,a) (by simp);obtain⟨g,cap,hs,hgl,hc0,hc1⟩:∃g cap,Value.slice av (q++[(k,a)]).length cv=.slice (some ⟨g,0,none⟩) (q.length+1) cap∧g<w.heap.size∧w.cell? ⟨g,q.length*2,none⟩=some (.int .i64 k)∧w.cell? ⟨g,q.length*2+1,none⟩=some (.string ⟨a.toArray⟩):=by
   have hp:=Zoq q k a;have hpl:=Zcd (q++[(k,a)]);rcases ho.2 with⟨e,hn⟩|⟨r,cap,cur,e,_,hr,_⟩
   ·rw[hkl]at hn;omega
   ·have h2:=ho;injection e with e1 e2 e3;subst e1;subst e3;refine⟨r,cv,by rw[hkl],lt_heap hr,(World.ownsRow.cellAt ho (q.length*2) (by first|(rw[hpl,hkl];omega)|(rw[hkl];omega))).trans hp.1,(World.ownsRow.cellAt ho (q.length*2+1) (by first|(rw[hpl,hkl];omega)|(rw[hkl];omega))).trans hp.2⟩
  rw[hkl]at hs HB HN rb;injection hs with hs1 hs2 hs3;subst hs1;subst hs3;by_cases hk:k= -1
  ·subst hk;rw[ZeO];have hset:=ZhU (j:=q.length*2+1) (by rw[hkl]at ho;unfold OwP at ho;rw[hkl]at ho;exact ho) (.string ⟨(a++t).toArray⟩) (by rw[Zcd,hkl];omega);rw[Zjt]at hset;have HSET:=hid hset;have hfro:w.frozen? ⟨g,q.length*2+1,none⟩=false:=by
    rcases ho.2 with⟨e,hn⟩|⟨r,cap,cur,e,_,hr,_⟩
    ·rw[hkl]at hn;omega
    ·injection e with e1 e2 e3;injection e1 with e1;injection e1 with e1;subst e1;exact unfrozen_at hr _
   clear hb ho hn hset hlt;go_enter Tryz.func155,Tryz.ntmps155;have hgb:=HN.out g rfl;have hfin:Bdr B b (q++[(-1,a++t)]) (w.setCell ⟨g,q.length*2+1,none⟩ (.string ⟨(a++t).toArray⟩)):=by
    refine⟨_,Zc (p:=⟨g,q.length*2+1,none⟩) HB.out (fun e=>hgb.1 e.symm) _,?_,hB,HN.out⟩;have h:=HSET.out;unfold OwP;rw[show(q++[((-1:Int),a++t)]).length=q.length+1 by simp];exact h
   have hfr:Fr (Abv B) w (w.setCell ⟨g,q.length*2+1,none⟩ (.string ⟨(a++t).toArray⟩)):=(Fr.refl _ w).setCell (p:=⟨g,q.length*2+1,none⟩) (fun _=>hgb.2) _;have H5:=hid hfin;have F5:=hid hfr;clear hgb hfin hfr hkl;go_wp2;refine bodyPost_ret (v:=.tuple #[]) (by simp[results,Tryz.results155,go_sem]) rfl ?_;exact⟨rfl,H5.out,F5.out⟩
  ·have hk1:(k== -1)=false:=by simpa using hk
   rw[Zej q k a t hk];have HO2:=hid (show w.ownsRow 0 43 2 (.slice (some ⟨g,0,none⟩) (q.length+1) cv) (q.length+1) (pC (q++[(k,a)])) by unfold OwP at ho;rw[hkl]at ho;exact ho);clear hb ho hn;go_enter Tryz.func155,Tryz.ntmps155;go_wp2_with(at_builtin;refine wpList_append_g rfl _ _ 238 rfl 43 i0 (.agg #[.int .i64 0,.string ByteArray.empty]) 2 24 Tryz.underlying238 hi hz0 hz1 hz2 rfl (by decide) _ _ _ rfl (ownsRow_fr (show w.ownsRow 0 43 2 _ (q.length+1) (pC (q++[(k,a)]))from HO2.out) ((Fr.refl nob w).alloc _) (fun _ _ x=>x)) ⟨w.heap.size,0,none⟩ 1 1 [.int .i64 (-1),.string ⟨t.toArray⟩] rfl rfl (pC_news (newAt0 w _)) (ZiG (k:= -1) (t:=t)) ?d3 ?d4 ?_)
   case d3=>unfold maxLen;omega
   case d4=>omega
   intro v' w4 hown' hap;obtain⟨av',cv',rfl⟩:=Zb hown';obtain⟨⟨pc,pf⟩,h5,f5⟩:=Zfr (l:=q++[(k,a)]) HB.out hB hBw HN.out ((Fr.refl nob w).alloc _) hap (k:= -1) (t:=t) (by rw[hkl];exact hown');have H5:=hid h5;have F5:=hid f5;clear hown' hap h5 f5 rb;go_wp2
   go_end0
   exact⟨rfl,H5.out,F5.out⟩
section
variable {l:List UInt8}
end
theorem ZgL{w:World}{bs:List UInt8}{v:Value}(h:w.ownsRow 0 5 1 v bs.length (ZP bs)):(convert 22 9 v).run Tryz.prog w=.ok (.string ⟨bs.toArray⟩) w:=by
 have h0:=h;obtain⟨a,c,rfl⟩:=Zb h;rcases h.2 with⟨e,hn⟩|⟨g,cap,cur,e,_,hr,_⟩
 ·have hb:bs=[]:=List.length_eq_zero_iff.1 hn;subst hb;injection e with e1 e2 e3;subst e1;subst e3;rfl
 ·injection e with e1 e2 e3;subst e1;subst e3;refine run_conv_bytes Tryz.underlying22 Tryz.underlying5 Tryz.underlying9 ⟨g,0,none⟩ c bs w ?_;intro j v hj;exact h0.cells (g:=g) rfl j v hj
theorem ZmJ{l:List UInt8}{k:Nat}(hk:k<l.length)(e:Bool)(out:List UInt8):ZbC (l.drop k) e out=
 if e=false∧l[k]=92 then ZbC (l.drop (k+1)) true out else if e=true∧l[k]=110 then ZbC (l.drop (k+1)) false (out++[10])else if e=true∧l[k]≠92 then([],false)else ZbC (l.drop (k+1)) false (out++[l[k]]):=by
 rw[List.drop_eq_getElem_cons hk,ZbC]
theorem ZcE{w:World}{c:Int}{T:TypeId}:∀j u,([.int .u8 c]:List Value)[j]? =some u→(w.alloc (.cells #[.int .u8 c] T)).cell? ((⟨w.heap.size,0,none⟩:Addr).add j)=some u:=by
 intro j u hj
 match j,hj with
 |0,hj=>simp at hj;subst hj;simp[Addr.add]
theorem ZcF{c:Int}:∀u∈([.int .u8 c]:List Value),u.oneCell'=true:=by intro u hu;simp at hu;subst hu;rfl
theorem cm_list(l:List UInt8)(w:World)(hl:l.length≤99000):
 Calls Tryz.prog 124 #[.string ⟨l.toArray⟩] w fun r w'=>r=.returned (.tuple #[.string ⟨(ZbC l false []).1.toArray⟩,.bool (ZbC l false []).2])∧Fr nob w w':=by
 obtain⟨F,hF⟩:∃F,ZbC l false []=F:=⟨_,rfl⟩;rw[hF];obtain⟨Ft,Fb⟩:=F;obtain⟨i0,hi,hz0,hz1,hz2⟩:=info_parts ZeW;go_enter Tryz.func124,Tryz.ntmps124;go_wp2_with fail
 go_loopw [4,5,10] (fun ov ev i wr=>∃(k:Nat) (e:Bool) (bs:List UInt8),i=.int .i64 k∧k≤l.length∧ev=.bool e∧wr.ownsRow 0 5 1 ov bs.length (ZP bs)∧ZbC (l.drop k) e bs=(Ft,Fb)∧Fr nob w wr∧(∀g,ov.ownBlock=some g→w.heap.size≤g)∧bs.length≤k) (fun _ _ i _=>l.length-(intOf i).toNat)
 case atStart=>exact⟨0,false,[],rfl,Nat.zero_le _,rfl,World.ownsRow_nil _ _ _ _,hF,Fr.refl _ _,fun _ h=>(by cases h),Nat.zero_le _⟩
 case round=>
  obtain⟨k,e,bs,rfl,hk,rfl,ho,hL,fr,hn,hbs⟩:=hrel;clear hF;have HO:=hid ho;have HL:=hid hL;have FR:=hid fr;have HN:=hid hn;clear ho hL fr hn;by_cases hlt:k<l.length
  ·have hL:=HL.out;rw[ZmJ hlt]at hL;obtain⟨c,hc⟩:∃c,l[k]=c:=⟨_,rfl⟩;have hkl:(k:Int)<l.length:=by omega
   have HK:=hid hc;obtain⟨ao,co,hov⟩:=Zb HO.out;subst hov;rw[hc]at hL;cases e with
   |false=>
    by_cases h92:c=92
    ·subst h92;simp only[and_self,if_true]at hL;have HL2:=hid hL;clear hL HL;go_wp2_with(first|rw[HK.out]);go_roundw
     case rel=>exact⟨k+1,true,bs,by go_num,by omega,rfl,HO.out,HL2.out,FR.out,HN.out,by omega⟩
     case measure=>simp[intOf];omega
    ·have t92:((c.toNat:Int)==92)=false:=Zn (b:=92) h92;simp only[h92,and_false,if_false,Bool.false_eq_true,false_and]at hL;have HL2:=hid hL;clear hL HL h92 hc;go_wp2_with(first|rw[HK.out]|(at_builtin;refine wpList_append_g rfl _ _ 22 rfl 5 i0 (.int .u8 0) 1 1 Tryz.underlying22 hi hz0 hz1 hz2 rfl (by decide) _ _ _ rfl (ownsRow_fr HO.out ((Fr.refl nob wr).alloc _) (fun _ _ x=>x)) ⟨wr.heap.size,0,none⟩ 1 1 [(.int .u8 (c.toNat:Int))] rfl rfl ZcE ZcF (by unfold maxLen;omega) (by omega) ?_));intro v' w4 hown' hap;obtain⟨av',cv',rfl⟩:=Zb hown';have hfr:Fr nob w w4:=(FR.out.alloc _).trans hap.fr (fun i hi e=>by have:=HN.out i e;omega);have hnew:∀g,(Value.slice av' (bs.length+1) cv').ownBlock=some g→w.heap.size≤g:=fun g hg=>by
      rcases hap.old g hg with h1|h1
      ·exact HN.out g h1
      ·have:=FR.out.size;simp only[World.size_alloc]at h1;omega
     have HOWN:=hid hown';have HFR:=hid hfr;have HNEW:=hid hnew;clear hown' hap hfr hnew;go_wp2;go_roundw
     case rel=>exact⟨k+1,false,bs++[c],by go_num,by omega,rfl,by rw[List.length_append,Zaj];exact HOWN.out,HL2.out,HFR.out,HNEW.out,by rw[List.length_append];simp;omega⟩
     case measure=>simp[intOf];omega
   |true=>
    by_cases h110:c=110
    ·subst h110;simp only[Bool.true_eq_false,false_and,if_false,and_self,if_true]at hL;have HL2:=hid hL;clear hL HL hc;go_wp2_with(first|rw[HK.out]|(at_builtin;refine wpList_append_g rfl _ _ 22 rfl 5 i0 (.int .u8 0) 1 1 Tryz.underlying22 hi hz0 hz1 hz2 rfl (by decide) _ _ _ rfl (ownsRow_fr HO.out ((Fr.refl nob wr).alloc _) (fun _ _ x=>x)) ⟨wr.heap.size,0,none⟩ 1 1 [(.int .u8 10)] rfl rfl ZcE ZcF (by unfold maxLen;omega) (by omega) ?_));intro v' w4 hown' hap;obtain⟨av',cv',rfl⟩:=Zb hown';have hfr:Fr nob w w4:=(FR.out.alloc _).trans hap.fr (fun i hi e=>by have:=HN.out i e;omega);have hnew:∀g,(Value.slice av' (bs.length+1) cv').ownBlock=some g→w.heap.size≤g:=fun g hg=>by
      rcases hap.old g hg with h1|h1
      ·exact HN.out g h1
      ·have:=FR.out.size;simp only[World.size_alloc]at h1;omega
     have HOWN:=hid hown';have HFR:=hid hfr;have HNEW:=hid hnew;clear hown' hap hfr hnew;go_wp2;go_roundw
     case rel=>exact⟨k+1,false,bs++[10],by go_num,by omega,rfl,by rw[List.length_append,Zaj];exact HOWN.out,HL2.out,HFR.out,HNEW.out,by rw[List.length_append];simp;omega⟩
     case measure=>simp[intOf];omega
    ·have t110:((c.toNat:Int)==110)=false:=Zn (b:=110) h110;by_cases h92:c=92
     ·subst h92;simp only[Bool.true_eq_false,false_and,if_false,true_and,ne_eq,not_true_eq_false,(by decide:¬(92:UInt8)=110)]at hL;have HL2:=hid hL;clear hL HL hc h110 t110;go_wp2_with(first|rw[HK.out]|(at_builtin;refine wpList_append_g rfl _ _ 22 rfl 5 i0 (.int .u8 0) 1 1 Tryz.underlying22 hi hz0 hz1 hz2 rfl (by decide) _ _ _ rfl (ownsRow_fr HO.out ((Fr.refl nob wr).alloc _) (fun _ _ x=>x)) ⟨wr.heap.size,0,none⟩ 1 1 [(.int .u8 92)] rfl rfl ZcE ZcF (by unfold maxLen;omega) (by omega) ?_));intro v' w4 hown' hap;obtain⟨av',cv',rfl⟩:=Zb hown';have hfr:Fr nob w w4:=(FR.out.alloc _).trans hap.fr (fun i hi e=>by have:=HN.out i e;omega);have hnew:∀g,(Value.slice av' (bs.length+1) cv').ownBlock=some g→w.heap.size≤g:=fun g hg=>by
       rcases hap.old g hg with h1|h1
       ·exact HN.out g h1
       ·have:=FR.out.size;simp only[World.size_alloc]at h1;omega
      have HOWN:=hid hown';have HFR:=hid hfr;have HNEW:=hid hnew;clear hown' hap hfr hnew;go_wp2;go_roundw
      case rel=>exact⟨k+1,false,bs++[92],by go_num,by omega,rfl,by rw[List.length_append,Zaj];exact HOWN.out,HL2.out,HFR.out,HNEW.out,by rw[List.length_append];simp;omega⟩
      case measure=>simp[intOf];omega
     ·have t92:((c.toNat:Int)==92)=false:=Zn (b:=92) h92;have n92:((c.toNat:Int) !=92)=true:=ZoW (b:=92) h92;simp only[Bool.true_eq_false,false_and,if_false,true_and,ne_eq,h92,h110,not_false_eq_true,if_true]at hL;injection hL with e1 e2;subst e1;subst e2;clear HL hc h92 h110;go_wp2_with(first|rw[HK.out]);go_ret2;exact⟨rfl,FR.out⟩
  ·obtain rfl:k=l.length:=by omega
   have hL:=HL.out;rw[List.drop_length,ZbC]at hL;injection hL with e1 e2;subst e1;subst e2;have hcv:=ZgL HO.out;go_wp2;go_ret2;exact⟨rfl,FR.out⟩
theorem Zk7{l:List UInt8}{k:Nat}(g:Int)(hk:k<l.length)(e:Bool)(b:List Prt):Zao g (l.drop k) e b=
 if e=false∧l[k]=92 then Zao g (l.drop (k+1)) true b
 else if e=false∧l[k]=38 then Zao g (l.drop (k+1)) false (b++[(0,[])])
 else if e=true∧48≤l[k].toNat∧l[k].toNat≤57 then(if g<(l[k].toNat:Int)-48 then([],9)else Zao g (l.drop (k+1)) false (b++[((l[k].toNat:Int)-48,[])]))
 else if e=true∧l[k]=110 then Zao g (l.drop (k+1)) false (pushT b [10])
 else Zao g (l.drop (k+1)) false (pushT b [l[k]]):=by
 rw[List.drop_eq_getElem_cons hk,Zao]
theorem Zaw{b:List Prt}{t:List UInt8}{k:Nat}(ht:t.length≤1)(hl:b.length≤k)(h:∀p∈b,p.2.length≤k):(pushT b t).length≤k+1∧∀p∈pushT b t,p.2.length≤k+1:=by
 rcases(by rcases List.eq_nil_or_concat b with h|⟨q,p,h⟩;exact .inl h;exact .inr ⟨q,p.1,p.2,by rw[h,List.concat_eq_append]⟩:b=[]∨∃(q:List Prt) (k:Int) (a:List UInt8),b=q++[(k,a)])with rfl|⟨q,g,a,rfl⟩
 ·rw[ZgK];refine⟨by simp,fun p hp=> ?_⟩;simp only[List.mem_singleton]at hp;subst hp;simp only;omega
 ·have ha:=h (g,a) (by simp);simp only at ha;simp only[List.length_append,List.length_singleton]at hl;by_cases hg:g= -1
  ·subst hg;rw[ZeO];refine⟨by simp;omega,fun p hp=> ?_⟩;simp only[List.mem_append,List.mem_singleton]at hp;rcases hp with hp|rfl
   ·have:=h p (by simp[hp]);omega
   ·simp only[List.length_append];omega
  ·rw[Zej q g a t hg];refine⟨by simp;omega,fun p hp=> ?_⟩;simp only[List.mem_append,List.mem_singleton]at hp;rcases hp with(hp|rfl)|rfl
   ·have:=h p (by simp[hp]);omega
   ·simp only;omega
   ·simp only;omega
theorem ZcZ{b:List Prt}{g:Int}{k:Nat}(hl:b.length≤k)(h:∀p∈b,p.2.length≤k):(b++[(g,[])]).length≤k+1∧∀p∈b++[(g,[])],p.2.length≤k+1:=by
 refine⟨by simp;omega,fun p hp=> ?_⟩;simp only[List.mem_append,List.mem_singleton]at hp;rcases hp with hp|rfl
 ·have:=h p hp;omega
 ·simp
def ZpP(w:World)(F:List Prt×Int)(r:Ending)(w':World):Prop:=∃v,r=.returned (.tuple #[v,.int .i64 F.2])∧OwP w' F.1 v∧(∀k,v.ownBlock=some k→w.heap.size≤k)∧Fr nob w w'
theorem Fr.abv{w a b:World}(f:Fr nob w a)(h:Fr (Abv w.heap.size) a b):Fr nob w b:=f.trans h (fun i hi hS=>by have hS:w.heap.size≤i:=hS;omega)
theorem ZmK(l:List UInt8)(gr:Int)(w:World)(hl:l.length≤99000):
 Calls Tryz.prog 121 #[.string ⟨l.toArray⟩,.int .i64 gr] w (ZpP w (Zao gr l false [])):=by
 obtain⟨F,hF⟩:∃F,Zao gr l false []=F:=⟨_,rfl⟩;rw[hF];obtain⟨Ft,Fe⟩:=F;obtain⟨i0,hi,hz0,hz1,hz2⟩:=info_parts ZgJ;obtain⟨w1,hw1⟩:∃w1,w1=w.alloc (.cells #[.slice none 0 0] 238):=⟨_,rfl⟩;have f1:Fr nob w w1:=by rw[hw1];exact(Fr.refl nob w).alloc _
 have hb1:Bdr w.heap.size w.heap.size [] w1:=by
  refine⟨.slice none 0 0,by rw[hw1];exact newAt _ _,World.ownsRow_nil _ _ _ _,Nat.le_refl _,fun k h=>by cases h⟩
 have HW1:=hid hw1;have F1:=hid f1;have HB1:=hid hb1;clear hw1 f1 hb1;go_enter Tryz.func121,Tryz.ntmps121;go_wp2_with(rw[←HW1.out])
 go_loopw [7,13] (fun ev i wr=>∃(k:Nat) (e:Bool) (ps:List Prt),i=.int .i64 k∧k≤l.length∧ev=.bool e∧Bdr w.heap.size w.heap.size ps wr∧Zao gr (l.drop k) e ps=(Ft,Fe)∧Fr nob w wr∧ps.length≤k∧(∀p∈ps,p.2.length≤k)) (fun _ i _=>l.length-(intOf i).toNat)
 case atStart=>exact⟨0,false,[],rfl,Nat.zero_le _,rfl,HB1.out,hF,F1.out,Nat.zero_le _,by simp⟩
 case round=>
  obtain⟨k,e,ps,rfl,hk,rfl,hB,hL,fr,hps,hpt⟩:=hrel;clear hF;have HB:=hid hB;have HL:=hid hL;have FR:=hid fr;have HPT:=hid hpt;have hsz:=fr.size;have HSZ:=hid hsz;clear hB hL fr hpt hsz;by_cases hlt:k<l.length
  ·have hL:=HL.out;rw[Zk7 gr hlt]at hL;obtain⟨c,hc⟩:∃c,l[k]=c:=⟨_,rfl⟩;have hkl:(k:Int)<l.length:=by omega
   have HK:=hid hc;rw[hc]at hL;cases e with
   |false=>
    by_cases h92:c=92
    ·subst h92;simp only[and_self,if_true]at hL;have HL2:=hid hL;clear hL HL hc;go_wp2_with(first|rw[HK.out]);go_roundw
     case rel=>exact⟨k+1,true,ps,by go_num,by omega,rfl,HB.out,HL2.out,FR.out,by omega,fun p hp=>by have:=HPT.out p hp;omega⟩
     case measure=>simp[intOf];omega
    ·have t92:((c.toNat:Int)==92)=false:=Zn (b:=92) h92;by_cases h38:c=38
     ·subst h38;simp only[h92,and_false,if_false,and_self,if_true]at hL;have HL2:=hid hL;clear hL HL hc h92 t92;obtain⟨v,b1,b2,b3,b4⟩:=HB.out;obtain⟨av,cv,rfl⟩:=Zb b2;have rb:=Zay (cell_at (j:=0) b1 rfl);have B1:=hid b1;have B2:=hid b2;have B4:=hid b4;clear b1 b2 b4;go_wp2_with(first|rw[HK.out]|(at_builtin;refine wpList_append_g rfl _ _ 238 rfl 43 i0 (.agg #[.int .i64 0,.string ByteArray.empty]) 2 24 Tryz.underlying238 hi hz0 hz1 hz2 rfl (by decide) _ _ _ rfl (ownsRow_fr B2.out ((Fr.refl nob wr).alloc _) (fun _ _ x=>x)) ⟨wr.heap.size,0,none⟩ 1 1 [.int .i64 (0),.string ⟨#[]⟩] rfl rfl (pC_news (t:=[]) (newAt0 wr _)) (ZiG (k:=0) (t:=[])) (by unfold maxLen;omega) (by omega) ?_));intro v' w4 hown' hap;obtain⟨av',cv',rfl⟩:=Zb hown';obtain⟨⟨pc,pf⟩,h5,f5⟩:=Zfr (l:=ps) B1.out b3 HSZ.out B4.out ((Fr.refl nob wr).alloc _) hap (k:=0) (t:=[]) hown';have H5:=hid h5;have F5:=hid (FR.out.abv f5)
      clear hown' hap h5 f5 rb;go_wp2;go_roundw
      case rel=>exact⟨k+1,false,ps++[(0,[])],by go_num,by omega,rfl,H5.out,HL2.out,F5.out,(ZcZ hps HPT.out).1,(ZcZ hps HPT.out).2⟩
      case measure=>simp[intOf];omega
     ·have t38:((c.toNat:Int)==38)=false:=Zn (b:=38) h38;simp only[h92,h38,and_false,if_false,Bool.false_eq_true,false_and]at hL;have HL2:=hid hL;clear hL HL h92 h38 hc;have hsl:∀W,(Instr.slice 9 (.string ⟨l.toArray⟩) (some (.int .i64 (k:Int))) (some (.int .i64 ((k:Int)+1))) none).run Tryz.prog W=.ok (.string ⟨[c].toArray⟩) W:=fun W=>by
       have:=ZbH (P:=Tryz.prog) (t:=9) l Tryz.underlying9 hlt rfl rfl W;rw[HK.out]at this;exact this
      go_wp2_with(first|rw[HK.out]);(try rw[HK.out]);refine(bd_text w.heap.size w.heap.size ps [c] wr (by omega) (by simp) (fun p hp=>by have:=HPT.out p hp;omega) HSZ.out HB.out).mono ?_;rintro z w5 ⟨rfl,h5,f5⟩;have H5:=hid h5;have F5:=hid (FR.out.abv f5);clear h5 f5;go_wp2;go_roundw
      case rel=>exact⟨k+1,false,pushT ps [c],by go_num,by omega,rfl,H5.out,HL2.out,F5.out,(Zaw (by simp) hps HPT.out).1,(Zaw (by simp) hps HPT.out).2⟩
      case measure=>simp[intOf];omega
   |true=>
    by_cases hd:48≤c.toNat∧c.toNat≤57
    ·have d1:(48:Int)≤(c.toNat:Int):=by omega
     have d2:(c.toNat:Int)≤57:=by omega
     have hwr:IntKind.u8.wrap ((c.toNat:Int)-48)=(c.toNat:Int)-48:=IntWalk.u8_in _ (by omega);simp only[Bool.true_eq_false,false_and,if_false,true_and,hd,and_self,if_true]at hL;by_cases hg:gr<(c.toNat:Int)-48
     ·rw[if_pos hg]at hL;injection hL with e1 e2;subst e1;subst e2;clear HL hc hd;go_wp2_with(first|rw[HK.out]);go_ret2;exact⟨.slice none 0 0,rfl,World.ownsRow_nil _ _ _ _,fun k h=>(by cases h),FR.out⟩
     ·rw[if_neg hg]at hL;have HL2:=hid hL;clear hL HL hc hd;obtain⟨v,b1,b2,b3,b4⟩:=HB.out;obtain⟨av,cv,rfl⟩:=Zb b2;have rb:=Zay (cell_at (j:=0) b1 rfl);have B1:=hid b1;have B2:=hid b2;have B4:=hid b4;clear b1 b2 b4;go_wp2_with(first|rw[HK.out]|(at_builtin;refine wpList_append_g rfl _ _ 238 rfl 43 i0 (.agg #[.int .i64 0,.string ByteArray.empty]) 2 24 Tryz.underlying238 hi hz0 hz1 hz2 rfl (by decide) _ _ _ rfl (ownsRow_fr B2.out ((Fr.refl nob wr).alloc _) (fun _ _ x=>x)) ⟨wr.heap.size,0,none⟩ 1 1 [.int .i64 ((c.toNat:Int)-48),.string ⟨#[]⟩] rfl rfl (pC_news (t:=[]) (newAt0 wr _)) (ZiG (k:=(c.toNat:Int)-48) (t:=[])) (by unfold maxLen;omega) (by omega) ?_));intro v' w4 hown' hap;obtain⟨av',cv',rfl⟩:=Zb hown';obtain⟨⟨pc,pf⟩,h5,f5⟩:=Zfr (l:=ps) B1.out b3 HSZ.out B4.out ((Fr.refl nob wr).alloc _) hap (k:=(c.toNat:Int)-48) (t:=[]) hown';have H5:=hid h5;have F5:=hid (FR.out.abv f5)
      clear hown' hap h5 f5 rb;go_wp2;go_roundw
      case rel=>exact⟨k+1,false,ps++[((c.toNat:Int)-48,[])],by go_num,by omega,rfl,H5.out,HL2.out,F5.out,(ZcZ hps HPT.out).1,(ZcZ hps HPT.out).2⟩
      case measure=>simp[intOf];omega
    ·have nd:¬(48:Int)≤(c.toNat:Int)∨((48:Int)≤(c.toNat:Int)∧¬(c.toNat:Int)≤57):=by omega
     by_cases h110:c=110
     ·subst h110;simp only[Bool.true_eq_false,false_and,if_false,true_and,hd,and_self,if_true]at hL;have HL2:=hid hL;clear hL HL hc nd hd;go_wp2_with(first|rw[HK.out]);(try rw[HK.out]);refine(bd_text w.heap.size w.heap.size ps [10] wr (by omega) (by simp) (fun p hp=>by have:=HPT.out p hp;omega) HSZ.out HB.out).mono ?_;rintro z w5 ⟨rfl,h5,f5⟩;have H5:=hid h5;have F5:=hid (FR.out.abv f5);clear h5 f5;go_wp2;go_roundw
      case rel=>exact⟨k+1,false,pushT ps [10],by go_num,by omega,rfl,H5.out,HL2.out,F5.out,(Zaw (by simp) hps HPT.out).1,(Zaw (by simp) hps HPT.out).2⟩
      case measure=>simp[intOf];omega
     ·have t110:((c.toNat:Int)==110)=false:=Zn (b:=110) h110;simp only[Bool.true_eq_false,false_and,if_false,true_and,hd,h110]at hL;have HL2:=hid hL;clear hL HL h110 hc hd;rcases nd with n1|⟨n1,n2⟩
      ·skip
       have hsl:∀W,(Instr.slice 9 (.string ⟨l.toArray⟩) (some (.int .i64 (k:Int))) (some (.int .i64 ((k:Int)+1))) none).run Tryz.prog W=.ok (.string ⟨[c].toArray⟩) W:=fun W=>by
        have:=ZbH (P:=Tryz.prog) (t:=9) l Tryz.underlying9 hlt rfl rfl W;rw[HK.out]at this;exact this
       go_wp2_with(first|rw[HK.out]);(try rw[HK.out]);refine(bd_text w.heap.size w.heap.size ps [c] wr (by omega) (by simp) (fun p hp=>by have:=HPT.out p hp;omega) HSZ.out HB.out).mono ?_;rintro z w5 ⟨rfl,h5,f5⟩;have H5:=hid h5;have F5:=hid (FR.out.abv f5);clear h5 f5;go_wp2;go_roundw
       case rel=>exact⟨k+1,false,pushT ps [c],by go_num,by omega,rfl,H5.out,HL2.out,F5.out,(Zaw (by simp) hps HPT.out).1,(Zaw (by simp) hps HPT.out).2⟩
       case measure=>simp[intOf];omega
      ·skip
       have hsl:∀W,(Instr.slice 9 (.string ⟨l.toArray⟩) (some (.int .i64 (k:Int))) (some (.int .i64 ((k:Int)+1))) none).run Tryz.prog W=.ok (.string ⟨[c].toArray⟩) W:=fun W=>by
        have:=ZbH (P:=Tryz.prog) (t:=9) l Tryz.underlying9 hlt rfl rfl W;rw[HK.out]at this;exact this
       go_wp2_with(first|rw[HK.out]);(try rw[HK.out]);refine(bd_text w.heap.size w.heap.size ps [c] wr (by omega) (by simp) (fun p hp=>by have:=HPT.out p hp;omega) HSZ.out HB.out).mono ?_;rintro z w5 ⟨rfl,h5,f5⟩;have H5:=hid h5;have F5:=hid (FR.out.abv f5);clear h5 f5;go_wp2;go_roundw
       case rel=>exact⟨k+1,false,pushT ps [c],by go_num,by omega,rfl,H5.out,HL2.out,F5.out,(Zaw (by simp) hps HPT.out).1,(Zaw (by simp) hps HPT.out).2⟩
       case measure=>simp[intOf];omega
  ·obtain rfl:k=l.length:=by omega
   have hL:=HL.out;rw[List.drop_length,Zao]at hL;cases e with
   |true=>
    simp only[if_true]at hL;injection hL with e1 e2;subst e1;subst e2;go_wp2;go_ret2;exact⟨.slice none 0 0,rfl,World.ownsRow_nil _ _ _ _,fun k h=>(by cases h),FR.out⟩
   |false=>
    simp only[Bool.false_eq_true,if_false]at hL;injection hL with e1 e2;subst e1;subst e2;obtain⟨v,b1,b2,b3,b4⟩:=HB.out;obtain⟨av,cv,rfl⟩:=Zb b2;have rb:=Zay (cell_at (j:=0) b1 rfl);have B2:=hid b2;have B4:=hid b4;clear b1 b2 b4;go_wp2;go_ret2;exact⟨_,rfl,B2.out,fun k h=>(B4.out k h).2,FR.out⟩
theorem Zk8(b:Nat)(l:List UInt8)(x:Bool)(s:AdS)(S:Nat→Prop)(w:World)(h:CRd b l x s S w):
 Calls Tryz.prog 154 #[.pointer (some ⟨b,0,none⟩)] w fun r w'=>r=.returned (.func (.func (if x then 178 else 179)) #[] #[])∧Fr nob w w':=by
 obtain⟨mv,h⟩:=h;have rr:=Zd h.blk;clear h;cases x with
 |true=>
  go_enter Tryz.func154,Tryz.ntmps154;go_wp2;go_ret;exact⟨rfl,Fr.refl _ _⟩
 |false=>
  go_enter Tryz.func154,Tryz.ntmps154;go_wp2;go_ret;exact⟨rfl,Fr.refl _ _⟩
theorem ZgM(t:List UInt8)(x:Bool)(w:World)(ht:t.length≤100000)(hE:Env w):Calls Tryz.prog (if x then 178 else 179) #[.string ⟨t.toArray⟩] w (EreAnsO (Zac prg x t) w):=by
 cases x with
 |true=>exact ZeI t w ht hE
 |false=>
  rw[ZfM];refine(ZeE t w ht hE).mono ?_;intro e w' h;unfold BreAnsO at h;unfold EreAnsO;refine⟨h.1,?_⟩;have h2:=h.2;cases hp:Zey prg t with
  |inl z=>rw[hp]at h2;exact h2
  |inr z=>rw[hp]at h2;obtain⟨i,y,mv,rfl,h3⟩:=h2;exact⟨_,mv,rfl,h3⟩
def ZqD(b:Nat)(l:List UInt8)(x:Bool)(S O:Nat→Prop)(w:World)(R:(List UInt8×Nd)×AdS)(r:Ending)(w':World):Prop:=
 ∃u S',r=.returned (.tuple #[.string ⟨R.1.1.toArray⟩,u])∧RN (SO S' O) w' R.1.2 u∧CRd b l x R.2 S' w'∧Stp S w S' w'
theorem ZmL(b:Nat)(l:List UInt8)(d:UInt8)(x:Bool)(s:AdS)(S O:Nat→Prop)(w:World)(hl:l.length≤99000)(ha:s.at_≤l.length)(hm:s.marks.length≤100000)(hS:∀k,S k→k<w.heap.size)(hO:∀k,O k→k<w.heap.size)
 (W0:World) (hE:Env W0) (hW:Fr nob W0 w) (hSW:∀k,S k→W0.heap.size≤k) (h:CRd b l x s S w):
 Calls Tryz.prog 119 #[.pointer (some ⟨b,0,none⟩),.int .u8 (d.toNat:Int)] w (ZqD b l x S O w (Zav x l d s)):=by
 have HBT:=hid (Zck b l d x true s S w hl ha h);have hin:=ZaW (l:=l) d true ha;have hmk:(Zr l d true s).2.marks=s.marks:=by unfold Zr;split;rfl;unfold ZV;split<;>rfl
 have htl:(Zr l d true s).1.length≤99000:=by
  unfold Zr;split
  ·simp
  ·have:=ZdC l d true (l.length+1) s.at_ [];simp only[List.length_nil]at this;simp only;omega
 unfold Zav;simp only;obtain⟨p0,ms,e0⟩:=s;obtain⟨mv,h⟩:=h;have rr:=Zd h.blk;have H:=hid h;simp only at ha hm rr hmk⊢;obtain⟨B,hB⟩:∃B,Zr l d true ⟨p0,ms,e0⟩=B:=⟨_,rfl⟩;obtain⟨T,s1⟩:=B;rw[hB]at HBT hin hmk htl⊢;obtain⟨p1,ms1,e1⟩:=s1;simp only at HBT hin hmk htl⊢;subst hmk;have HS:=hid hS;have HO:=hid hO;have HE:=hid hE;have HW:=hid hW;have HSW:=hid hSW;clear h hB hS hO hE hW hSW;have hsz:w.heap.size=w.heap.size:=rfl;by_cases h1:e1=0
 ·subst h1;by_cases hT:T=[]
  ·subst hT;simp only[and_self,if_true];rw[Za9 rfl];simp only[ne_eq,(by decide:¬(2:Int)=0),not_false_eq_true,if_true];go_enter Tryz.func119,Tryz.ntmps119;go_wp2_with fail;refine HBT.out.mono ?_;rintro z w1 ⟨rfl,h1,st1⟩;clear rr;have H1:=hid h1;have ST1:=hid st1;clear h1 st1;go_wp2_with fail;refine(cm_ok b l x _ S w1 H1.out).mono ?_;rintro z w2 ⟨rfl,f2⟩;go_wp2_with fail;refine(cm_fail b l x _ S 2 p0 w2 (H1.out.on f2)).mono ?_;rintro z w3 ⟨rfl,h3,st3⟩;rw[Za9 rfl]at h3;go_wp2_with fail;refine(cm_ok b l x _ S w3 h3).mono ?_;rintro z w4 ⟨rfl,f4⟩;go_wp2;go_ret2;exact⟨.nilIface,S,rfl,by rw[RN],h3.on f4,(ST1.out.trans (Stp.of f2)).trans (st3.trans (Stp.of f4))⟩
  ·simp only[hT,and_false,if_false,ne_eq,not_true_eq_false];have hemp:T.isEmpty=false:=by cases T with|nil=>exact absurd rfl hT|cons _ _=>rfl
   have HPE:=hid (fun w' hE=>ZgM T x w' (by omega) hE);have HMK:=hid (fun(n:Nd) (r:RxS) (h:Zac prg x T=.inr (n,r))=>parseD_marks h);have HER:=hid (fun(z:Int×Nat) (h:Zac prg x T=.inl z)=>parseD_err h);obtain⟨R,hR⟩:∃R,Zac prg x T=R:=⟨_,rfl⟩;rw[hR]at HPE HMK HER⊢;obtain⟨fn,hfn⟩:∃fn,(if x then 178 else 179)=fn:=⟨_,rfl⟩;have hfn':fn=178∨fn=179:=by rw[←hfn];cases x;exact .inr rfl;exact .inl rfl
   rw[hfn]at HPE;have HPA:=hid (fun p m e w' h=>by have:=Zk8 b l x (⟨p,m,e⟩:AdS) S w' h;rw[hfn]at this;exact this);clear hR hfn hT;rcases hfn' with rfl|rfl
   all_goals
    go_enter Tryz.func119,Tryz.ntmps119;go_wp2_with fail;refine HBT.out.mono ?_;rintro z w1 ⟨rfl,h1,st1⟩;clear rr;have H1:=hid h1;have ST1:=hid st1;clear h1 st1;go_wp2_with fail;refine(cm_ok b l x _ S w1 H1.out).mono ?_;rintro z w2 ⟨rfl,f2⟩;go_wp2_with fail;refine(cm_ok b l x _ S w2 (H1.out.on f2)).mono ?_;rintro z w3 ⟨rfl,f3'⟩;have f3:=f2.trans' f3';clear f2 f3';go_wp2_with fail;refine(HPA.out _ _ _ w3 (H1.out.on f3)).mono ?_;rintro z w4 ⟨rfl,f4'⟩;have F4:=hid (f3.trans' f4');clear f3 f4';have HE4:=hid (HE.out.on ((ST1.out.trans (Stp.of F4.out)).from HW.out HSW.out));go_wp2_with fail;refine(HPE.out w4 HE4.out).mono ?_;intro z w5 hz;cases R with
    |inl y=>
     obtain⟨y,py⟩:=y;obtain⟨f5,rfl⟩:=hz;have hy0:¬y=0:=HER.out (y,py) rfl;have hy1:(y !=0)=true:=by simpa using hy0
     have f45:=F4.out.trans' f5;go_wp2_with fail;refine(cm_fail b l x _ S y p0 w5 (H1.out.on f45)).mono ?_;rintro z w6 ⟨rfl,h6,st6⟩;have H6:=hid h6;have ST6:=hid (ST1.out.trans ((Stp.of f45).trans st6));clear h6 st6 f45 f5;go_wp2_with fail
     go_loopw [50] (fun i wr=>i=.int .i64 0∧wr=w6) (fun _ _=>0)
     case atStart=>exact⟨rfl,rfl⟩
     case round=>
      obtain⟨rfl,rfl⟩:=hrel;go_wp2;go_ret2;exact⟨.nilIface,S,rfl,by rw[RN],H6.out,ST6.out⟩
    |inr y=>
     obtain⟨n,r⟩:=y;obtain⟨f5,v,mvP,rfl,rn5,hmP,hnw⟩:=hz;obtain⟨hmk,hml,_⟩:=HMK.out n r rfl;obtain⟨aP,cP,hmv⟩:=Zb hmP;subst hmv;have hmk':∀i (h:i<r.marks.length),r.marks[i].1≤T.length:=fun i h=>hmk _ (List.getElem_mem h);have hrl:r.marks.length≤99000:=Nat.le_trans hml htl;have h5:=H1.out.on (F4.out.trans' f5);have sz4:=F4.out.size;have sz1:=ST1.out.fr.size;obtain⟨RM,hRM⟩:∃RM,r.marks=RM:=⟨_,rfl⟩;have hmP0:=hmP;have HMP:=hid (show OwM w5 RM (.slice aP RM.length cP) by rw[←hRM];exact hmP0);have HMK':=hid (show∀i (h:i<RM.length),RM[i].1≤T.length by rw[←hRM];exact hmk');have RN5:=hid rn5;have H5:=hid h5;have hrl':RM.length≤99000:=by rw[←hRM];exact hrl
     have ST5:=hid (ST1.out.trans ((Stp.of F4.out).trans (Stp.of f5)));have F5:=hid f5;have SZ:=hid (show w.heap.size≤w4.heap.size by omega);have sh:=rn5.shape;have hgoal:(⟨p1,ms1++r.marks.map (shM p0),0⟩:AdS)=⟨p1,ms1++RM.map (shM p0),0⟩:=by rw[hRM]
     have HG:=hid hgoal;have hlen:r.marks.length=RM.length:=by rw[hRM]
     rw[hlen];rw[hlen]at hnw;have HNW:=hid hnw;clear hmk hml hmk' hmP hmP0 hnw rn5 h5 f5 hRM sz4 sz1 hgoal hrl hlen;rcases sh with rfl|⟨iv,yv,rfl⟩
     all_goals
      go_wp2_with fail
      go_loopw [50] (fun i wr=>∃(k:Nat) (S':Nat→Prop),i=.int .i64 k∧k≤RM.length∧CRd b l x ⟨p1,ms1++(RM.take k).map (shM p0),0⟩ S' wr∧Stp S w5 S' wr) (fun i _=>RM.length-(intOf i).toNat)
      case atStart=>exact⟨0,S,rfl,Nat.zero_le _,by simpa using H5.out,Stp.refl _ _⟩
      case round=>
       obtain⟨k,S',rfl,hk,hA,hst⟩:=hrel;have HA:=hid hA;have HST:=hid hst;clear hA hst;by_cases hlt:k<RM.length
       ·have hMk:=HMK'.out k hlt;have htk:=Zit p0 RM hlt;have hmP:OwM wr RM (.slice aP RM.length cP):=ownsRow_fr HMP.out HST.out.fr (fun j hj hx=>by have:=HNW.out j hj;have:=HS.out j hx;have:=SZ.out;omega);obtain⟨g,cap,hg1,hglt,hc0,hc1⟩:=hmP.get hlt;injection hg1 with hg1 hg2 hg3;subst hg1;subst hg3;obtain⟨m1,hm1⟩:∃m1,RM[k].1=m1:=⟨_,rfl⟩;obtain⟨m2,hm2⟩:∃m2,RM[k].2=m2:=⟨_,rfl⟩;rw[hm1]at hc0 hMk htk;rw[hm2]at hc1 htk;have hwr:IntKind.i64.wrap ((p0:Int)+(m1:Int))=((p0+m1:Nat):Int):=by rw[IntWalk.i64_in _ (by omega)];omega
        have HTK:=hid htk;have HLL:=hid (show(ms1++(RM.take k).map (shM p0)).length≤1000000 by rw[List.length_append,List.length_map,List.length_take];omega);have hkl:(k:Int)<RM.length:=by omega
        clear hmP htk hm1 hm2 hg2;go_wp2_with fail;refine(cm_mark b l x _ S' (p0+m1) m2 _ HLL.out (HA.out.on ((Fr.refl _ _).alloc _))).mono ?_;rintro z w7 ⟨rfl,S'',h7,st7⟩;have H7:=hid h7;have ST7:=hid (HST.out.trans ((Stp.of ((Fr.refl nob wr).alloc _)).trans st7));clear h7 st7;go_wp2;go_roundw
        case rel=>exact⟨k+1,S'',by go_num,by omega,by rw[HTK.out,←List.append_assoc];exact H7.out,ST7.out⟩
        case measure=>simp[intOf];omega
       ·obtain rfl:k=RM.length:=by omega
        go_wp2;go_ret2;have hrd:=HA.out;rw[List.take_of_length_le (Nat.le_refl _)]at hrd;refine⟨_,S',rfl,?_,?_,ST5.out.trans HST.out⟩
        ·exact RN.keep HST.out.fr (fun j _ hj=>by have:=HS.out j hj;have:=SZ.out;show j<_;omega) (fun j hj hx=>by have:=SZ.out;rcases hx with hx|hx;have h1:=HST.out.old j hj hx;have:=HS.out j h1;(show j<_;omega);have:=HO.out j hx;(show j<_;omega)) _ _ RN5.out
        ·show CRd b l x ⟨p1,ms1++r.marks.map (shM p0),0⟩ S' wr;rw[HG.out];exact hrd
 ·have h1':¬(e1=0∧T=[]):=fun h=>h1 h.1;have e1b:(e1==0)=false:=by simpa using h1
  simp only[if_neg h1',ne_eq,h1,not_false_eq_true,if_true];go_enter Tryz.func119,Tryz.ntmps119;go_wp2_with fail;refine HBT.out.mono ?_;rintro z w1 ⟨rfl,h1,st1⟩;clear rr;have H1:=hid h1;have ST1:=hid st1;clear h1 st1;go_wp2_with fail;refine(cm_ok b l x _ S w1 H1.out).mono ?_;rintro z w2 ⟨rfl,f2⟩;simp only[e1b];go_wp2_with fail;refine(cm_ok b l x _ S w2 (H1.out.on f2)).mono ?_;rintro z w3 ⟨rfl,f3⟩;simp only[e1b];go_wp2;go_ret2;exact⟨.nilIface,S,rfl,by rw[RN],(H1.out.on f2).on f3,ST1.out.trans ((Stp.of f2).trans (Stp.of f3))⟩
abbrev Zdn(s:SV)(u pv:Value):Array Value:= #[.string ⟨s.text.toArray⟩,u,pv,.int .i64 s.nth,.bool s.all,.bool s.print,.string ⟨s.file.toArray⟩]
theorem ZG{w:World}{b:Nat}{v0 v1 v2 v3 v4 v5 v6:Value}{T:TypeId}(h:w.heap[b]? =some (.cells #[v0,v1,v2,v3,v4,v5,v6] T (0,0))):∀w',Fr nob w w'→
 (w'.cell? ⟨b,0,none⟩=some v0∧w'.cell? ⟨b,1,none⟩=some v1∧w'.cell? ⟨b,2,none⟩=some v2∧w'.cell? ⟨b,3,none⟩=some v3∧w'.cell? ⟨b,4,none⟩=some v4∧w'.cell? ⟨b,5,none⟩=some v5∧w'.cell? ⟨b,6,none⟩=some v6)∧
 (w'.frozen? ⟨b,0,none⟩=false∧w'.frozen? ⟨b,1,none⟩=false∧w'.frozen? ⟨b,2,none⟩=false∧w'.frozen? ⟨b,3,none⟩=false∧w'.frozen? ⟨b,4,none⟩=false∧w'.frozen? ⟨b,5,none⟩=false∧w'.frozen? ⟨b,6,none⟩=false):=fun _ f=>by
 have h':=f.heap h (fun x=>x);exact⟨⟨cell_at h' rfl,cell_at h' rfl,cell_at h' rfl,cell_at h' rfl,cell_at h' rfl,cell_at h' rfl,cell_at h' rfl⟩,unfrozen_at h' _,unfrozen_at h' _,unfrozen_at h' _,unfrozen_at h' _,unfrozen_at h' _,unfrozen_at h' _,unfrozen_at h' _⟩
def Zfs(b g:Nat)(l:List UInt8)(x:Bool)(S:Nat→Prop)(u pv:Value)(w:World)(sub:SV)(s:AdS)(w':World):Prop:=
 w'.heap[g]? =some (.cells (Zdn sub u pv) 33 (0,0))∧CRd b l x s S w'∧Stp (GS S g) w (GS S g) w'
section
variable {b g:Nat} {l:List UInt8} {x:Bool} {S:Nat→Prop} {s:AdS} {w w':World}
theorem CRd.setg(h:CRd b l x s S w)(hg:¬S g)(j:Nat)(v:Value):CRd b l x s S (w.setCell ⟨g,j,none⟩ v):=by
 obtain⟨mv,h⟩:=h;exact⟨mv,h.keep (X:=fun k=>k=g) ((Fr.refl (fun k=>k=g) w).setCell (p:=⟨g,j,none⟩) (fun _=>rfl) v) (fun e=>hg (e▸h.me)) (fun k hk e=>hg (e▸(h.nm k hk).2))⟩
theorem Stp.setg(j:Nat)(v:Value):Stp (GS S g) w (GS S g) (w.setCell ⟨g,j,none⟩ v):=
 ⟨(Fr.refl (GS S g) w).setCell (p:=⟨g,j,none⟩) (fun _=>.inr rfl) v,fun _ _ x=>x,fun hl k hk=>by have:=hl k hk;simpa[World.setCell]using this⟩
end
section
variable (b g:Nat) (l:List UInt8) (x:Bool) (S:Nat→Prop) (u pv:Value)
theorem Zk9(sub:SV)(s:AdS)(w:World)(hl:l.length≤99000)(ha:s.at_≤l.length)(hS:∀k,S k→k<w.heap.size)(hgS:¬S g)(hg:w.heap[g]? =some (.cells (Zdn sub u pv) 33 (0,0)))(h:CRd b l x s S w)(c1:ZI l s [103]=true)(hf:sub.all=true):
 Calls Tryz.prog 123 #[.pointer (some ⟨b,0,none⟩),.pointer (some ⟨g,0,none⟩)] w fun r w'=>r=.returned (.bool (((failC (s.to (s.at_+1)) 15 s.at_)).e==0))∧Zfs b g l x S u pv w {sub with all:=true} (failC (s.to (s.at_+1)) 15 s.at_) w':=by
 have H:=hid h;have HG:=hid hg;have HX:=hid (fun t w' (f:Fr nob w w')=>ZaI b l x s S t w' (by omega) (h.on f));obtain⟨mv,hm⟩:=h;have rr:=Zd hm.blk;have rg:=ZG hg;have hlt:=lt_heap hg;have hgb:g≠b:=fun e=>hgS (by rw[e];exact hm.me);obtain⟨p0,ms,e0⟩:=s;obtain⟨tx,tr,pt,nth,al,pr,fi⟩:=sub;simp only at ha rr rg;have HM:=hid hm;clear hm hg;simp only at hf;subst hf;simp only[AdS.to];go_enter Tryz.func123,Tryz.ntmps123;go_wp2_with fail;refine(HX.out [103] _ (Fr.refl _ _)).mono ?_;rintro z w1 ⟨rfl,f1'⟩;have f1:=f1';clear f1';rw[c1];have g1:=f1.heap HG.out (fun x=>x);have g2:(w1.setCell ⟨g,4,none⟩ (.bool true)).heap[g]? =some (.cells #[.string ⟨tx.toArray⟩,u,pv,.int .i64 nth,.bool true,.bool pr,.string ⟨fi.toArray⟩] 33 (0,0)):=Za g1 4 _;have m1:=(HM.out.on f1);have m2:=m1.keep (X:=fun k=>k=g) ((Fr.refl (fun k=>k=g) w1).setCell (p:=⟨g,4,none⟩) (fun _=>rfl) (.bool true)) (fun e=>hgb e.symm) (fun k hk e=>hgS (e▸(m1.nm k hk).2))
 have m3:=m2.turned 1 (.int .i64 ((p0:Int)+1)) ⟨p0+1,ms,e0⟩ (by simp) rfl;have g3:=Zc (p:=⟨b,1,none⟩) g2 hgb (.int .i64 ((p0:Int)+1));have st:Stp (GS S g) w (GS S g) _:=((Stp.of f1).trans (Stp.setg (S:=S) (g:=g) 4 (.bool true))).trans (Stp.gs (m2.stp 1 (.int .i64 ((p0:Int)+1))) (lt_heap g2));have a1:=Zd m1.blk _ (Fr.refl _ _);have a2:=Zd m2.blk _ (Fr.refl _ _);have b1:=ZG g1 _ (Fr.refl _ _);obtain⟨wZ,hwZ⟩:∃wZ,wZ=(w1.setCell ⟨g,4,none⟩ (.bool true)).setCell ⟨b,1,none⟩ (.int .i64 ((p0:Int)+1)):=⟨_,rfl⟩;rw[←hwZ]at m3 g3 st;have HWZ:=hid hwZ;have G3:=hid g3;have ST:=hid st;have M3:=hid (show CRd b l x ⟨p0+1,ms,e0⟩ S wZ from⟨mv,m3⟩);clear g1 g2 g3 m1 m2 m3 st hwZ f1;go_wp2_with(rw[←HWZ.out]);refine(cm_fail b l x _ S 15 p0 wZ M3.out).mono ?_;rintro z wY ⟨rfl,hY,stY⟩;have gY:=stY.fr.heap G3.out hgS;have HY:=hid hY;have GY:=hid gY;have STY:=hid (ST.out.trans (Stp.gs stY (lt_heap G3.out)))
 clear hY gY stY rr rg a1 a2 b1;go_wp2_with fail;refine(cm_ok b l x _ S wY HY.out).mono ?_;rintro z wX ⟨rfl,fX⟩;go_wp2;go_ret;exact⟨rfl,fX.heap GY.out (fun x=>x),HY.out.on fX,STY.out.trans (Stp.of fX)⟩
theorem Zju(sub:SV)(s:AdS)(w:World)(hl:l.length≤99000)(ha:s.at_≤l.length)(hS:∀k,S k→k<w.heap.size)(hgS:¬S g)(hg:w.heap[g]? =some (.cells (Zdn sub u pv) 33 (0,0)))(h:CRd b l x s S w)(c1:ZI l s [103]=true)(hf:sub.all=false):
 Calls Tryz.prog 123 #[.pointer (some ⟨b,0,none⟩),.pointer (some ⟨g,0,none⟩)] w fun r w'=>r=.returned (.bool (((s.to (s.at_+1))).e==0))∧Zfs b g l x S u pv w {sub with all:=true} (s.to (s.at_+1)) w':=by
 have H:=hid h;have HG:=hid hg;have HX:=hid (fun t w' (f:Fr nob w w')=>ZaI b l x s S t w' (by omega) (h.on f));obtain⟨mv,hm⟩:=h;have rr:=Zd hm.blk;have rg:=ZG hg;have hlt:=lt_heap hg;have hgb:g≠b:=fun e=>hgS (by rw[e];exact hm.me);obtain⟨p0,ms,e0⟩:=s;obtain⟨tx,tr,pt,nth,al,pr,fi⟩:=sub;simp only at ha rr rg;have HM:=hid hm;clear hm hg;simp only at hf;subst hf;simp only[AdS.to];go_enter Tryz.func123,Tryz.ntmps123;go_wp2_with fail;refine(HX.out [103] _ (Fr.refl _ _)).mono ?_;rintro z w1 ⟨rfl,f1'⟩;have f1:=f1';clear f1';rw[c1];have g1:=f1.heap HG.out (fun x=>x);have g2:(w1.setCell ⟨g,4,none⟩ (.bool true)).heap[g]? =some (.cells #[.string ⟨tx.toArray⟩,u,pv,.int .i64 nth,.bool true,.bool pr,.string ⟨fi.toArray⟩] 33 (0,0)):=Za g1 4 _;have m1:=(HM.out.on f1);have m2:=m1.keep (X:=fun k=>k=g) ((Fr.refl (fun k=>k=g) w1).setCell (p:=⟨g,4,none⟩) (fun _=>rfl) (.bool true)) (fun e=>hgb e.symm) (fun k hk e=>hgS (e▸(m1.nm k hk).2))
 have m3:=m2.turned 1 (.int .i64 ((p0:Int)+1)) ⟨p0+1,ms,e0⟩ (by simp) rfl;have g3:=Zc (p:=⟨b,1,none⟩) g2 hgb (.int .i64 ((p0:Int)+1));have st:Stp (GS S g) w (GS S g) _:=((Stp.of f1).trans (Stp.setg (S:=S) (g:=g) 4 (.bool true))).trans (Stp.gs (m2.stp 1 (.int .i64 ((p0:Int)+1))) (lt_heap g2));have a1:=Zd m1.blk _ (Fr.refl _ _);have a2:=Zd m2.blk _ (Fr.refl _ _);have b1:=ZG g1 _ (Fr.refl _ _);obtain⟨wZ,hwZ⟩:∃wZ,wZ=(w1.setCell ⟨g,4,none⟩ (.bool true)).setCell ⟨b,1,none⟩ (.int .i64 ((p0:Int)+1)):=⟨_,rfl⟩;rw[←hwZ]at m3 g3 st;have HWZ:=hid hwZ;have G3:=hid g3;have ST:=hid st;have M3:=hid (show CRd b l x ⟨p0+1,ms,e0⟩ S wZ from⟨mv,m3⟩);clear g1 g2 g3 m1 m2 m3 st hwZ f1;go_wp2_with(rw[←HWZ.out]);refine(cm_ok b l x _ S wZ M3.out).mono ?_;rintro z wX ⟨rfl,fX⟩;clear rr rg a1 a2 b1;go_wp2;go_ret;exact⟨rfl,fX.heap G3.out (fun x=>x),M3.out.on fX,ST.out.trans (Stp.of fX)⟩
theorem Zla(sub:SV)(s:AdS)(w:World)(hl:l.length≤99000)(ha:s.at_≤l.length)(hS:∀k,S k→k<w.heap.size)(hgS:¬S g)(hg:w.heap[g]? =some (.cells (Zdn sub u pv) 33 (0,0)))(h:CRd b l x s S w)(c1:ZI l s [103]=false)(c2:ZI l s [112]=true)(hf:sub.print=true):
 Calls Tryz.prog 123 #[.pointer (some ⟨b,0,none⟩),.pointer (some ⟨g,0,none⟩)] w fun r w'=>r=.returned (.bool (((failC (s.to (s.at_+1)) 15 s.at_)).e==0))∧Zfs b g l x S u pv w {sub with print:=true} (failC (s.to (s.at_+1)) 15 s.at_) w':=by
 have H:=hid h;have HG:=hid hg;have HX:=hid (fun t w' (f:Fr nob w w')=>ZaI b l x s S t w' (by omega) (h.on f));obtain⟨mv,hm⟩:=h;have rr:=Zd hm.blk;have rg:=ZG hg;have hlt:=lt_heap hg;have hgb:g≠b:=fun e=>hgS (by rw[e];exact hm.me);obtain⟨p0,ms,e0⟩:=s;obtain⟨tx,tr,pt,nth,al,pr,fi⟩:=sub;simp only at ha rr rg;have HM:=hid hm;clear hm hg;simp only at hf;subst hf;simp only[AdS.to];go_enter Tryz.func123,Tryz.ntmps123;go_wp2_with fail;refine(HX.out [103] _ (Fr.refl _ _)).mono ?_;rintro z w1 ⟨rfl,f1'⟩;have f1:=f1';clear f1';rw[c1];go_wp2_with fail;refine(HX.out [112] _ f1).mono ?_;rintro z w2 ⟨rfl,f2'⟩;have f2:=f1.trans' f2';clear f1 f2';rw[c2];have g1:=f2.heap HG.out (fun x=>x);have g2:(w2.setCell ⟨g,5,none⟩ (.bool true)).heap[g]? =some (.cells #[.string ⟨tx.toArray⟩,u,pv,.int .i64 nth,.bool al,.bool true,.string ⟨fi.toArray⟩] 33 (0,0)):=Za g1 5 _;have m1:=(HM.out.on f2);have m2:=m1.keep (X:=fun k=>k=g) ((Fr.refl (fun k=>k=g) w2).setCell (p:=⟨g,5,none⟩) (fun _=>rfl) (.bool true)) (fun e=>hgb e.symm) (fun k hk e=>hgS (e▸(m1.nm k hk).2))
 have m3:=m2.turned 1 (.int .i64 ((p0:Int)+1)) ⟨p0+1,ms,e0⟩ (by simp) rfl;have g3:=Zc (p:=⟨b,1,none⟩) g2 hgb (.int .i64 ((p0:Int)+1));have st:Stp (GS S g) w (GS S g) _:=((Stp.of f2).trans (Stp.setg (S:=S) (g:=g) 5 (.bool true))).trans (Stp.gs (m2.stp 1 (.int .i64 ((p0:Int)+1))) (lt_heap g2));have a1:=Zd m1.blk _ (Fr.refl _ _);have a2:=Zd m2.blk _ (Fr.refl _ _);have b1:=ZG g1 _ (Fr.refl _ _);obtain⟨wZ,hwZ⟩:∃wZ,wZ=(w2.setCell ⟨g,5,none⟩ (.bool true)).setCell ⟨b,1,none⟩ (.int .i64 ((p0:Int)+1)):=⟨_,rfl⟩;rw[←hwZ]at m3 g3 st;have HWZ:=hid hwZ;have G3:=hid g3;have ST:=hid st;have M3:=hid (show CRd b l x ⟨p0+1,ms,e0⟩ S wZ from⟨mv,m3⟩);clear g1 g2 g3 m1 m2 m3 st hwZ f2;go_wp2_with(rw[←HWZ.out]);refine(cm_fail b l x _ S 15 p0 wZ M3.out).mono ?_;rintro z wY ⟨rfl,hY,stY⟩;have gY:=stY.fr.heap G3.out hgS;have HY:=hid hY;have GY:=hid gY;have STY:=hid (ST.out.trans (Stp.gs stY (lt_heap G3.out)))
 clear hY gY stY rr rg a1 a2 b1;go_wp2_with fail;refine(cm_ok b l x _ S wY HY.out).mono ?_;rintro z wX ⟨rfl,fX⟩;go_wp2;go_ret;exact⟨rfl,fX.heap GY.out (fun x=>x),HY.out.on fX,STY.out.trans (Stp.of fX)⟩
theorem Zjv(sub:SV)(s:AdS)(w:World)(hl:l.length≤99000)(ha:s.at_≤l.length)(hS:∀k,S k→k<w.heap.size)(hgS:¬S g)(hg:w.heap[g]? =some (.cells (Zdn sub u pv) 33 (0,0)))(h:CRd b l x s S w)(c1:ZI l s [103]=false)(c2:ZI l s [112]=true)(hf:sub.print=false):
 Calls Tryz.prog 123 #[.pointer (some ⟨b,0,none⟩),.pointer (some ⟨g,0,none⟩)] w fun r w'=>r=.returned (.bool (((s.to (s.at_+1))).e==0))∧Zfs b g l x S u pv w {sub with print:=true} (s.to (s.at_+1)) w':=by
 have H:=hid h;have HG:=hid hg;have HX:=hid (fun t w' (f:Fr nob w w')=>ZaI b l x s S t w' (by omega) (h.on f));obtain⟨mv,hm⟩:=h;have rr:=Zd hm.blk;have rg:=ZG hg;have hlt:=lt_heap hg;have hgb:g≠b:=fun e=>hgS (by rw[e];exact hm.me);obtain⟨p0,ms,e0⟩:=s;obtain⟨tx,tr,pt,nth,al,pr,fi⟩:=sub;simp only at ha rr rg;have HM:=hid hm;clear hm hg;simp only at hf;subst hf;simp only[AdS.to];go_enter Tryz.func123,Tryz.ntmps123;go_wp2_with fail;refine(HX.out [103] _ (Fr.refl _ _)).mono ?_;rintro z w1 ⟨rfl,f1'⟩;have f1:=f1';clear f1';rw[c1];go_wp2_with fail;refine(HX.out [112] _ f1).mono ?_;rintro z w2 ⟨rfl,f2'⟩;have f2:=f1.trans' f2';clear f1 f2';rw[c2];have g1:=f2.heap HG.out (fun x=>x);have g2:(w2.setCell ⟨g,5,none⟩ (.bool true)).heap[g]? =some (.cells #[.string ⟨tx.toArray⟩,u,pv,.int .i64 nth,.bool al,.bool true,.string ⟨fi.toArray⟩] 33 (0,0)):=Za g1 5 _;have m1:=(HM.out.on f2);have m2:=m1.keep (X:=fun k=>k=g) ((Fr.refl (fun k=>k=g) w2).setCell (p:=⟨g,5,none⟩) (fun _=>rfl) (.bool true)) (fun e=>hgb e.symm) (fun k hk e=>hgS (e▸(m1.nm k hk).2))
 have m3:=m2.turned 1 (.int .i64 ((p0:Int)+1)) ⟨p0+1,ms,e0⟩ (by simp) rfl;have g3:=Zc (p:=⟨b,1,none⟩) g2 hgb (.int .i64 ((p0:Int)+1));have st:Stp (GS S g) w (GS S g) _:=((Stp.of f2).trans (Stp.setg (S:=S) (g:=g) 5 (.bool true))).trans (Stp.gs (m2.stp 1 (.int .i64 ((p0:Int)+1))) (lt_heap g2));have a1:=Zd m1.blk _ (Fr.refl _ _);have a2:=Zd m2.blk _ (Fr.refl _ _);have b1:=ZG g1 _ (Fr.refl _ _);obtain⟨wZ,hwZ⟩:∃wZ,wZ=(w2.setCell ⟨g,5,none⟩ (.bool true)).setCell ⟨b,1,none⟩ (.int .i64 ((p0:Int)+1)):=⟨_,rfl⟩;rw[←hwZ]at m3 g3 st;have HWZ:=hid hwZ;have G3:=hid g3;have ST:=hid st;have M3:=hid (show CRd b l x ⟨p0+1,ms,e0⟩ S wZ from⟨mv,m3⟩);clear g1 g2 g3 m1 m2 m3 st hwZ f2;go_wp2_with(rw[←HWZ.out]);refine(cm_ok b l x _ S wZ M3.out).mono ?_;rintro z wX ⟨rfl,fX⟩;clear rr rg a1 a2 b1;go_wp2;go_ret;exact⟨rfl,fX.heap G3.out (fun x=>x),M3.out.on fX,ST.out.trans (Stp.of fX)⟩
theorem Zjw(sub:SV)(s:AdS)(w:World)(hl:l.length≤99000)(ha:s.at_≤l.length)(hS:∀k,S k→k<w.heap.size)(hgS:¬S g)(hg:w.heap[g]? =some (.cells (Zdn sub u pv) 33 (0,0)))(h:CRd b l x s S w)(c1:ZI l s [103]=false)(c2:ZI l s [112]=false)(c3:ZI l s [48,49,50,51,52,53,54,55,56,57]=true)(hn:0<sub.nth):
 Calls Tryz.prog 123 #[.pointer (some ⟨b,0,none⟩),.pointer (some ⟨g,0,none⟩)] w fun r w'=>r=.returned (.bool ((failC s 15 s.at_).e==0))∧Zfs b g l x S u pv w {sub with nth:=((nm s.at_ (l.drop s.at_) 0 0).1:Nat)} (failC s 15 s.at_) w':=by
 have H:=hid h;have HG:=hid hg;have HX:=hid (fun t w' (f:Fr nob w w')=>ZaI b l x s S t w' (by omega) (h.on f));obtain⟨mv,hm⟩:=h;have rr:=Zd hm.blk;have rg:=ZG hg;have hlt:=lt_heap hg;have hgb:g≠b:=fun e=>hgS (by rw[e];exact hm.me);obtain⟨p0,ms,e0⟩:=s;obtain⟨tx,tr,pt,nth,al,pr,fi⟩:=sub;simp only at ha rr rg;have HM:=hid hm;clear hm hg;simp only at hn⊢;have HN:=hid (fun w'=>Zc4 l p0 w' (by omega) ha);obtain⟨NR,hNR⟩:∃NR,nm p0 (l.drop p0) 0 0=NR:=⟨_,rfl⟩;obtain⟨nn,nq,nz⟩:=NR;rw[hNR]at HN⊢;simp only at HN⊢;clear hNR;go_enter Tryz.func123,Tryz.ntmps123;go_wp2_with fail;refine(HX.out [103] _ (Fr.refl _ _)).mono ?_;rintro z w1 ⟨rfl,f1'⟩;have f1:=f1';clear f1';rw[c1];go_wp2_with fail;refine(HX.out [112] _ f1).mono ?_;rintro z w2 ⟨rfl,f2'⟩;have f2:=f1.trans' f2';clear f1 f2';rw[c2];go_wp2_with fail;refine(HX.out [48,49,50,51,52,53,54,55,56,57] _ f2).mono ?_;rintro z w3 ⟨rfl,f3'⟩;have f3:=f2.trans' f3'
 clear f2 f3';rw[c3];go_wp2_with fail;refine(HN.out _).mono ?_;rintro z w4 ⟨rfl,f4'⟩;have f4:=f3.trans' f4';clear f3 f4';have g1:=f4.heap HG.out (fun x=>x);have b1:=ZG g1 _ (Fr.refl _ _);have g2:(w4.setCell ⟨g,3,none⟩ (.int .i64 (nn:Nat))).heap[g]? =some (.cells #[.string ⟨tx.toArray⟩,u,pv,.int .i64 (nn:Nat),.bool al,.bool pr,.string ⟨fi.toArray⟩] 33 (0,0)):=Za g1 3 _;have m1:=HM.out.on f4;have m2:=m1.keep (X:=fun k=>k=g) ((Fr.refl (fun k=>k=g) w4).setCell (p:=⟨g,3,none⟩) (fun _=>rfl) (.int .i64 (nn:Nat))) (fun e=>hgb e.symm) (fun k hk e=>hgS (e▸(m1.nm k hk).2));have st:Stp (GS S g) w (GS S g) _:=(Stp.of f4).trans (Stp.setg (S:=S) (g:=g) 3 (.int .i64 (nn:Nat)));obtain⟨wZ,hwZ⟩:∃wZ,wZ=w4.setCell ⟨g,3,none⟩ (.int .i64 (nn:Nat)):=⟨_,rfl⟩;rw[←hwZ]at m2 g2 st;have HWZ:=hid hwZ;have G3:=hid g2;have ST:=hid st;have M3:=hid (show CRd b l x ⟨p0,ms,e0⟩ S wZ from⟨mv,m2⟩);clear g1 g2 m1 m2 st hwZ f4
 go_wp2_with(rw[←HWZ.out]);refine(cm_fail b l x _ S 15 p0 wZ M3.out).mono ?_;rintro z wY ⟨rfl,hY,stY⟩;have gY:=stY.fr.heap G3.out hgS;have HY:=hid hY;have GY:=hid gY;have STY:=hid (ST.out.trans (Stp.gs stY (lt_heap G3.out)));clear hY gY stY rr rg b1;go_wp2_with fail;refine(cm_ok b l x _ S wY HY.out).mono ?_;rintro z wX ⟨rfl,fX⟩;go_wp2;go_ret;exact⟨rfl,fX.heap GY.out (fun x=>x),HY.out.on fX,STY.out.trans (Stp.of fX)⟩
theorem Zlb(sub:SV)(s:AdS)(w:World)(hl:l.length≤99000)(ha:s.at_≤l.length)(hS:∀k,S k→k<w.heap.size)(hgS:¬S g)(hg:w.heap[g]? =some (.cells (Zdn sub u pv) 33 (0,0)))(h:CRd b l x s S w)(c1:ZI l s [103]=false)(c2:ZI l s [112]=false)(c3:ZI l s [48,49,50,51,52,53,54,55,56,57]=true)(hn:¬0<sub.nth):
 Calls Tryz.prog 123 #[.pointer (some ⟨b,0,none⟩),.pointer (some ⟨g,0,none⟩)] w fun r w'=>r=.returned (.bool ((if s.e=0∧(ZV s (nm s.at_ (l.drop s.at_) 0 0).2.1 (nm s.at_ (l.drop s.at_) 0 0).2.2).e=0∧(nm s.at_ (l.drop s.at_) 0 0).1=0 then failC (ZV s (nm s.at_ (l.drop s.at_) 0 0).2.1 (nm s.at_ (l.drop s.at_) 0 0).2.2) 1 s.at_ else(ZV s (nm s.at_ (l.drop s.at_) 0 0).2.1 (nm s.at_ (l.drop s.at_) 0 0).2.2)).e==0))∧Zfs b g l x S u pv w {sub with nth:=((nm s.at_ (l.drop s.at_) 0 0).1:Nat)} (if s.e=0∧(ZV s (nm s.at_ (l.drop s.at_) 0 0).2.1 (nm s.at_ (l.drop s.at_) 0 0).2.2).e=0∧(nm s.at_ (l.drop s.at_) 0 0).1=0 then failC (ZV s (nm s.at_ (l.drop s.at_) 0 0).2.1 (nm s.at_ (l.drop s.at_) 0 0).2.2) 1 s.at_ else(ZV s (nm s.at_ (l.drop s.at_) 0 0).2.1 (nm s.at_ (l.drop s.at_) 0 0).2.2)) w':=by
 have H:=hid h;have HG:=hid hg;have HX:=hid (fun t w' (f:Fr nob w w')=>ZaI b l x s S t w' (by omega) (h.on f));obtain⟨mv,hm⟩:=h;have rr:=Zd hm.blk;have rg:=ZG hg;have hlt:=lt_heap hg;have hgb:g≠b:=fun e=>hgS (by rw[e];exact hm.me);obtain⟨p0,ms,e0⟩:=s;obtain⟨tx,tr,pt,nth,al,pr,fi⟩:=sub;simp only at ha rr rg;have HM:=hid hm;clear hm hg;simp only at hn⊢;have hnd:decide ((0:Int)<nth)=false:=decide_eq_false hn;have HN:=hid (fun w'=>Zc4 l p0 w' (by omega) ha);obtain⟨NR,hNR⟩:∃NR,nm p0 (l.drop p0) 0 0=NR:=⟨_,rfl⟩;obtain⟨nn,nq,nz⟩:=NR;rw[hNR]at HN⊢;simp only at HN⊢;clear hNR;obtain⟨q,hq⟩:∃q,(e0==0&&(ZV ⟨p0,ms,e0⟩ nq nz).e==0)=q:=⟨_,rfl⟩;have HMV:=hid (fun w' h=>by have:=cm_moved b l x ⟨p0,ms,e0⟩ S nz nq w' h;simp only at this;rw[hq]at this;exact this);obtain⟨s1,hs1⟩:∃s1,ZV ⟨p0,ms,e0⟩ nq nz=s1:=⟨_,rfl⟩;simp only[hs1]at HMV hq⊢;have hcase:(q=true∧nn=0∧(if e0=0∧s1.e=0∧nn=0 then failC s1 1 p0 else s1)=failC s1 1 p0)∨(¬(q=true∧nn=0)∧(if e0=0∧s1.e=0∧nn=0 then failC s1 1 p0 else s1)=s1):=by
  by_cases hc:e0=0∧s1.e=0∧nn=0
  ·refine .inl ⟨by rw[←hq,hc.1,hc.2.1];rfl,hc.2.2,if_pos hc⟩
  ·refine .inr ⟨fun h=>hc ?_,if_neg hc⟩;rw[←hq]at h;simp only[Bool.and_eq_true,beq_iff_eq]at h;exact⟨h.1.1,h.1.2,h.2⟩
 clear hq hs1;rcases hcase with⟨rfl,rfl,hs2⟩|⟨hqn,hs2⟩
 ·rw[hs2];rw[show((0:Nat):Int)=0 from rfl]at HN;go_enter Tryz.func123,Tryz.ntmps123;go_wp2_with fail;refine(HX.out [103] _ (Fr.refl _ _)).mono ?_;rintro z w1 ⟨rfl,f1'⟩;have f1:=f1';clear f1';rw[c1];go_wp2_with fail;refine(HX.out [112] _ f1).mono ?_;rintro z w2 ⟨rfl,f2'⟩;have f2:=f1.trans' f2';clear f1 f2';rw[c2];go_wp2_with fail;refine(HX.out [48,49,50,51,52,53,54,55,56,57] _ f2).mono ?_;rintro z w3 ⟨rfl,f3'⟩;have f3:=f2.trans' f3';clear f2 f3';rw[c3];go_wp2_with fail;refine(HN.out _).mono ?_;rintro z w4 ⟨rfl,f4'⟩;have f4:=f3.trans' f4';clear f3 f4';go_wp2_with fail;refine(HMV.out w4 ⟨mv,HM.out.on f4⟩).mono ?_;rintro z w5 ⟨rfl,h5,st5⟩;have g5:=st5.fr.heap (f4.heap HG.out (fun x=>x)) hgS;have H5:=hid h5;have G5:=hid g5;have ST5:=hid ((Stp.of f4:Stp (GS S g) w (GS S g) w4).trans (Stp.gs st5 (lt_heap (f4.heap HG.out (fun x=>x)))));clear h5 g5 st5 f4 rr;go_wp2_with fail;refine(cm_fail b l x _ S 1 p0 w5 H5.out).mono ?_
  rintro z w6 ⟨rfl,h6,st6⟩;have g6:=st6.fr.heap G5.out hgS;have HX5:=hid h6;have GX:=hid g6;have STX:=hid (ST5.out.trans (Stp.gs st6 (lt_heap G5.out)));clear h6 g6 st6;have b1:=ZG GX.out _ (Fr.refl _ _);have g2:(w6.setCell ⟨g,3,none⟩ (.int .i64 0)).heap[g]? =some (.cells #[.string ⟨tx.toArray⟩,u,pv,.int .i64 0,.bool al,.bool pr,.string ⟨fi.toArray⟩] 33 (0,0)):=Za GX.out 3 _;have m2:=HX5.out.setg hgS 3 (.int .i64 0);have st:Stp (GS S g) w (GS S g) _:=STX.out.trans (Stp.setg (S:=S) (g:=g) 3 (.int .i64 0));obtain⟨wZ,hwZ⟩:∃wZ,wZ=w6.setCell ⟨g,3,none⟩ (.int .i64 0):=⟨_,rfl⟩;rw[←hwZ]at m2 g2 st;have HWZ:=hid hwZ;have G3:=hid g2;have ST:=hid st;have M3:=hid m2;clear g2 m2 st hwZ;go_wp2_with(rw[←HWZ.out]);refine(cm_ok b l x _ S wZ M3.out).mono ?_;rintro z wX ⟨rfl,fX⟩;clear rg b1;go_wp2;go_ret;exact⟨rfl,fX.heap G3.out (fun x=>x),M3.out.on fX,ST.out.trans (Stp.of fX)⟩
 ·rw[hs2];have hqc:q=false∨(q=true∧((nn:Int)==0)=false):=by
   cases q with
   |false=>exact .inl rfl
   |true=>exact .inr ⟨rfl,by have:¬nn=0:=fun h=>hqn ⟨rfl,h⟩;simp;omega⟩
  clear hqn;rcases hqc with rfl|⟨rfl,hz0⟩
  all_goals
   go_enter Tryz.func123,Tryz.ntmps123;go_wp2_with fail;refine(HX.out [103] _ (Fr.refl _ _)).mono ?_;rintro z w1 ⟨rfl,f1'⟩;have f1:=f1';clear f1';rw[c1];go_wp2_with fail;refine(HX.out [112] _ f1).mono ?_;rintro z w2 ⟨rfl,f2'⟩;have f2:=f1.trans' f2';clear f1 f2';rw[c2];go_wp2_with fail;refine(HX.out [48,49,50,51,52,53,54,55,56,57] _ f2).mono ?_;rintro z w3 ⟨rfl,f3'⟩;have f3:=f2.trans' f3';clear f2 f3';rw[c3];go_wp2_with fail;refine(HN.out _).mono ?_;rintro z w4 ⟨rfl,f4'⟩;have f4:=f3.trans' f4';clear f3 f4';go_wp2_with fail;refine(HMV.out w4 ⟨mv,HM.out.on f4⟩).mono ?_;rintro z w5 ⟨rfl,h5,st5⟩;have g5:=st5.fr.heap (f4.heap HG.out (fun x=>x)) hgS;have H5:=hid h5;have G5:=hid g5;have ST5:=hid ((Stp.of f4:Stp (GS S g) w (GS S g) w4).trans (Stp.gs st5 (lt_heap (f4.heap HG.out (fun x=>x)))));clear h5 g5 st5 f4 rr;have HX5:=hid H5.out;have GX:=hid G5.out;have STX:=hid ST5.out;have b1:=ZG GX.out _ (Fr.refl _ _)
   have g2:(w5.setCell ⟨g,3,none⟩ (.int .i64 (nn:Nat))).heap[g]? =some (.cells #[.string ⟨tx.toArray⟩,u,pv,.int .i64 (nn:Nat),.bool al,.bool pr,.string ⟨fi.toArray⟩] 33 (0,0)):=Za GX.out 3 _;have m2:=HX5.out.setg hgS 3 (.int .i64 (nn:Nat));have st:Stp (GS S g) w (GS S g) _:=STX.out.trans (Stp.setg (S:=S) (g:=g) 3 (.int .i64 (nn:Nat)));obtain⟨wZ,hwZ⟩:∃wZ,wZ=w5.setCell ⟨g,3,none⟩ (.int .i64 (nn:Nat)):=⟨_,rfl⟩;rw[←hwZ]at m2 g2 st;have HWZ:=hid hwZ;have G3:=hid g2;have ST:=hid st;have M3:=hid m2;clear g2 m2 st hwZ;go_wp2_with(rw[←HWZ.out]);refine(cm_ok b l x _ S wZ M3.out).mono ?_;rintro z wX ⟨rfl,fX⟩;clear rg b1;go_wp2;go_ret;exact⟨rfl,fX.heap G3.out (fun x=>x),M3.out.on fX,ST.out.trans (Stp.of fX)⟩
theorem ZqY(sub:SV)(s:AdS)(w:World)(hl:l.length≤99000)(ha:s.at_≤l.length)(hS:∀k,S k→k<w.heap.size)(hgS:¬S g)(hg:w.heap[g]? =some (.cells (Zdn sub u pv) 33 (0,0)))(h:CRd b l x s S w)(c1:ZI l s [103]=false)(c2:ZI l s [112]=false)(c3:ZI l s [48,49,50,51,52,53,54,55,56,57]=false)(c4:ZI l s [119]=true):
 Calls Tryz.prog 123 #[.pointer (some ⟨b,0,none⟩),.pointer (some ⟨g,0,none⟩)] w fun r w'=>r=.returned (.bool false)∧Zfs b g l x S u pv w {sub with file:=(ZaR l (s.to (s.at_+1))).1} (ZaR l (s.to (s.at_+1))).2 w':=by
 have H:=hid h;have HG:=hid hg;have HX:=hid (fun t w' (f:Fr nob w w')=>ZaI b l x s S t w' (by omega) (h.on f));obtain⟨mv,hm⟩:=h;have rr:=Zd hm.blk;have rg:=ZG hg;have hlt:=lt_heap hg;have hgb:g≠b:=fun e=>hgS (by rw[e];exact hm.me);obtain⟨p0,ms,e0⟩:=s;obtain⟨tx,tr,pt,nth,al,pr,fi⟩:=sub;simp only at ha rr rg;have HM:=hid hm;clear hm hg;have hin:=Zbh c4;simp only[AdS.to]at hin⊢;obtain⟨FR,hFR⟩:∃FR,ZaR l ⟨p0+1,ms,e0⟩=FR:=⟨_,rfl⟩;have HF:=hid (fun w' h=>by have:=ZhT b l x ⟨p0+1,ms,e0⟩ S w' hl hin h;rw[hFR]at this;exact this);rw[hFR];obtain⟨ft,fs⟩:=FR;simp only at HF⊢;clear hFR;go_enter Tryz.func123,Tryz.ntmps123;go_wp2_with fail;refine(HX.out [103] _ (Fr.refl _ _)).mono ?_;rintro z w1 ⟨rfl,f1'⟩;have f1:=f1';clear f1';rw[c1];go_wp2_with fail;refine(HX.out [112] _ f1).mono ?_;rintro z w2 ⟨rfl,f2'⟩;have f2:=f1.trans' f2';clear f1 f2';rw[c2];go_wp2_with fail;refine(HX.out [48,49,50,51,52,53,54,55,56,57] _ f2).mono ?_
 rintro z w3 ⟨rfl,f3'⟩;have f3:=f2.trans' f3';clear f2 f3';rw[c3];go_wp2_with fail;refine(HX.out [119] _ f3).mono ?_;rintro z w4 ⟨rfl,f4'⟩;have f4:=f3.trans' f4';clear f3 f4';rw[c4];have m1:=HM.out.on f4;have m3:=m1.turned 1 (.int .i64 ((p0:Int)+1)) ⟨p0+1,ms,e0⟩ (by simp) rfl;have g1:=f4.heap HG.out (fun x=>x);have g3:=Zc (p:=⟨b,1,none⟩) g1 hgb (.int .i64 ((p0:Int)+1));have st:Stp (GS S g) w (GS S g) _:=(Stp.of f4).trans (Stp.gs (m1.stp 1 (.int .i64 ((p0:Int)+1))) (lt_heap g1));have a1:=Zd m1.blk _ (Fr.refl _ _);obtain⟨wZ,hwZ⟩:∃wZ,wZ=w4.setCell ⟨b,1,none⟩ (.int .i64 ((p0:Int)+1)):=⟨_,rfl⟩;rw[←hwZ]at m3 g3 st;have HWZ:=hid hwZ;have G3:=hid g3;have ST:=hid st;have M3:=hid (show CRd b l x ⟨p0+1,ms,e0⟩ S wZ from⟨mv,m3⟩);clear g1 g3 m1 m3 st hwZ f4;go_wp2_with(rw[←HWZ.out]);refine(HF.out wZ M3.out).mono ?_;rintro z w5 ⟨rfl,h5,st5⟩;have g5:=st5.fr.heap G3.out hgS;have b1:=ZG g5 _ (Fr.refl _ _)
 have g6:(w5.setCell ⟨g,6,none⟩ (.string ⟨ft.toArray⟩)).heap[g]? =some (.cells #[.string ⟨tx.toArray⟩,u,pv,.int .i64 nth,.bool al,.bool pr,.string ⟨ft.toArray⟩] 33 (0,0)):=Za g5 6 _;have G6:=hid g6;have H6:=hid (h5.setg hgS 6 (.string ⟨ft.toArray⟩));have ST6:=hid ((ST.out.trans (Stp.gs st5 (lt_heap G3.out))).trans (Stp.setg (S:=S) (g:=g) 6 (.string ⟨ft.toArray⟩)));clear g5 g6 h5 st5 rr rg a1;go_wp2;go_ret;exact⟨rfl,G6.out,H6.out,ST6.out⟩
theorem Zor(sub:SV)(s:AdS)(w:World)(hl:l.length≤99000)(ha:s.at_≤l.length)(hS:∀k,S k→k<w.heap.size)(hgS:¬S g)(hg:w.heap[g]? =some (.cells (Zdn sub u pv) 33 (0,0)))(h:CRd b l x s S w)(c1:ZI l s [103]=false)(c2:ZI l s [112]=false)(c3:ZI l s [48,49,50,51,52,53,54,55,56,57]=false)(c4:ZI l s [119]=false):
 Calls Tryz.prog 123 #[.pointer (some ⟨b,0,none⟩),.pointer (some ⟨g,0,none⟩)] w fun r w'=>r=.returned (.bool false)∧Zfs b g l x S u pv w sub s w':=by
 have H:=hid h;have HG:=hid hg;have HX:=hid (fun t w' (f:Fr nob w w')=>ZaI b l x s S t w' (by omega) (h.on f));obtain⟨mv,hm⟩:=h;have rr:=Zd hm.blk;have rg:=ZG hg;have hlt:=lt_heap hg;have hgb:g≠b:=fun e=>hgS (by rw[e];exact hm.me);obtain⟨p0,ms,e0⟩:=s;obtain⟨tx,tr,pt,nth,al,pr,fi⟩:=sub;simp only at ha rr rg;have HM:=hid hm;clear hm hg;go_enter Tryz.func123,Tryz.ntmps123;go_wp2_with fail;refine(HX.out [103] _ (Fr.refl _ _)).mono ?_;rintro z w1 ⟨rfl,f1'⟩;have f1:=f1';clear f1';rw[c1];go_wp2_with fail;refine(HX.out [112] _ f1).mono ?_;rintro z w2 ⟨rfl,f2'⟩;have f2:=f1.trans' f2';clear f1 f2';rw[c2];go_wp2_with fail;refine(HX.out [48,49,50,51,52,53,54,55,56,57] _ f2).mono ?_;rintro z w3 ⟨rfl,f3'⟩;have f3:=f2.trans' f3';clear f2 f3';rw[c3];go_wp2_with fail;refine(HX.out [119] _ f3).mono ?_;rintro z w4 ⟨rfl,f4'⟩;have f4:=f3.trans' f4';clear f3 f4';rw[c4];clear rr rg;go_wp2;go_ret;exact⟨rfl,f4.heap HG.out (fun x=>x),H.out.on f4,Stp.of f4⟩
theorem Zlc(sub:SV)(s:AdS)(w:World)(hl:l.length≤99000)(ha:s.at_≤l.length)(hS:∀k,S k→k<w.heap.size)(hgS:¬S g)(hg:w.heap[g]? =some (.cells (Zdn sub u pv) 33 (0,0)))(h:CRd b l x s S w):
 Calls Tryz.prog 123 #[.pointer (some ⟨b,0,none⟩),.pointer (some ⟨g,0,none⟩)] w fun r w'=>r=.returned (.bool (Zap l sub s).1)∧Zfs b g l x S u pv w (Zap l sub s).2.1 (Zap l sub s).2.2 w':=by
 unfold Zap;simp only;cases c1:ZI l s [103]with
 |true=>
  simp only[if_true];cases hf:sub.all with
  |true=>exact Zk9 b g l x S u pv sub s w hl ha hS hgS hg h c1 hf
  |false=>exact Zju b g l x S u pv sub s w hl ha hS hgS hg h c1 hf
 |false=>
  simp only[Bool.false_eq_true,if_false];cases c2:ZI l s [112]with
  |true=>
   simp only[if_true];cases hf:sub.print with
   |true=>exact Zla b g l x S u pv sub s w hl ha hS hgS hg h c1 c2 hf
   |false=>exact Zjv b g l x S u pv sub s w hl ha hS hgS hg h c1 c2 hf
  |false=>
   simp only[Bool.false_eq_true,if_false];cases c3:ZI l s [48,49,50,51,52,53,54,55,56,57]with
   |true=>
    simp only[if_true];by_cases hn:0<sub.nth
    ·simp only[if_pos hn];exact Zjw b g l x S u pv sub s w hl ha hS hgS hg h c1 c2 c3 hn
    ·simp only[if_neg hn];exact Zlb b g l x S u pv sub s w hl ha hS hgS hg h c1 c2 c3 hn
   |false=>
    simp only[Bool.false_eq_true,if_false];cases c4:ZI l s [119]with
    |true=>
     simp only[if_true];exact ZqY b g l x S u pv sub s w hl ha hS hgS hg h c1 c2 c3 c4
    |false=>
     simp only[Bool.false_eq_true,if_false];exact Zor b g l x S u pv sub s w hl ha hS hgS hg h c1 c2 c3 c4
end
end Go.Proofs.YtkfddjopbocpkaaGreatDoor
