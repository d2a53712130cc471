/- Lemmas of this claim. -/
import Derived.Deep.MidRow
import Derived.Lib.IndexBytes
import Derived.Test.YtkfddjopbocpkaaGreatDoorN33
set_option linter.unusedVariables false
set_option linter.unusedSimpArgs false
set_option maxRecDepth 100000
set_option maxHeartbeats 4000000
namespace Go.Proofs.YtkfddjopbocpkaaGreatDoor
open Go.RowKit
theorem Zc2.opened{S:Nat→Prop}{w:World}{c:CV}{v:Value}(h:Zc2 S w c v):∃(cs:Array Value) (pa:Option Addr) (pc:Nat),v=.agg cs∧cs.size=20∧cs.all (·.oneCell')=true∧
 OwP w c.sub.parts (.slice pa c.sub.parts.length pc)∧(∀k,(Value.slice pa c.sub.parts.length pc).ownBlock=some k→¬S k)∧
 ∀W b,W.heap[b]? =some (.cells cs 35 (0,0))→∀W',Fr nob W W'→W'.cell? ⟨b,0,none⟩=some (.int .i64 c.at_)∧W'.cell? ⟨b,10,none⟩=some (.int .u8 (c.name.toNat:Int))∧W'.cell? ⟨b,11,none⟩=some (.string ⟨c.arg.toArray⟩)∧
  W'.cell? ⟨b,14,none⟩=some (.slice pa c.sub.parts.length pc)∧W'.cell? ⟨b,15,none⟩=some (.int .i64 c.sub.nth)∧W'.cell? ⟨b,16,none⟩=some (.bool c.sub.all)∧W'.cell? ⟨b,17,none⟩=some (.bool c.sub.print)∧
  W'.cell? ⟨b,18,none⟩=some (.string ⟨c.sub.file.toArray⟩)∧W'.cell? ⟨b,19,none⟩=some (.string ⟨c.table.toArray⟩):=by
 obtain⟨u1,u2,u,pv,rfl,r1,r2,r3,po⟩:=h;have o1:u1.oneCell'=true:=by rcases r1.shape with rfl|⟨i,y,rfl⟩<;>rfl
 have o2:u2.oneCell'=true:=by rcases r2.shape with rfl|⟨i,y,rfl⟩<;>rfl
 have o3:u.oneCell'=true:=by rcases r3.shape with rfl|⟨i,y,rfl⟩<;>rfl
 obtain⟨pa,pc,rfl⟩:=Zb po.1;refine⟨_,pa,pc,rfl,rfl,?_,po.1,po.2,fun W b hb W' f=> ?_⟩
 ·exact Array.all_eq_true_iff_forall_mem.2 (by intro v hv;simp only[List.mem_toArray,List.mem_cons,List.not_mem_nil,or_false]at hv;rcases hv with h|h|h|h|h|h|h|h|h|h|h|h|h|h|h|h|h|h|h|h<;>(subst h;first|rfl|assumption))
 ·have h':=f.heap hb (fun x=>x);exact⟨cell_at h' rfl,cell_at h' rfl,cell_at h' rfl,cell_at h' rfl,cell_at h' rfl,cell_at h' rfl,cell_at h' rfl,cell_at h' rfl,cell_at h' rfl⟩
theorem Zen(w:World)(cs:Array Value):((w.alloc (.cells zC 35)).setRow w.heap.size cs).heap[w.heap.size]? =some (.cells cs 35 (0,0))∧Fr nob w ((w.alloc (.cells zC 35)).setRow w.heap.size cs):=
 ⟨setRow_heap _ _ _ _ _ _ (newAt _ _),((Fr.refl nob w).alloc _).trans (ZN _ _ _) (fun i hi e=>by have e:i=w.heap.size:=e;omega)⟩
attribute [-go_sem] storeVar
end Go.Proofs.YtkfddjopbocpkaaGreatDoor
namespace Go.Proofs.YtkfddjopbocpkaaGreatDoor
open Go.RowKit
def Cms(S:Nat→Prop)(w:World):List CV→List (Array Value)→Prop
 |[],[]=>True
 |c::cs,r::rs=>r.size=20∧Zc2 S w c (.agg r)∧Cms S w cs rs
 |_,_=>False
def flatR(rows:List (Array Value)):List Value:=rows.flatMap (·.toList)
theorem Cms.len{S:Nat→Prop}{w:World}:∀{cs:List CV} {rs:List (Array Value)},Cms S w cs rs→rs.length=cs.length∧(flatR rs).length=20*cs.length
 |[],[],_=>⟨rfl,rfl⟩
 |c::cs,r::rs,h=>by
  have ih:=Cms.len h.2.2;refine⟨by simp[ih.1],?_⟩;have e:flatR (r::rs)=r.toList++flatR rs:=rfl;rw[e,List.length_append,ih.2,Array.length_toList,h.1,List.length_cons];omega
 |[],_::_,h=>h.elim
 |_::_,[],h=>h.elim
theorem Cms.keep{S S' X:Nat→Prop}{w w':World}(f:Fr X w w')(hX:∀k,X k→S k)(hS:∀k,k<w.heap.size→S' k→S k):∀{cs:List CV} {rs:List (Array Value)},Cms S w cs rs→Cms S' w' cs rs
 |[],[],_=>trivial
 |_::_,_::_,h=>⟨h.1,h.2.1.keep f hX hS,Cms.keep f hX hS h.2.2⟩
 |[],_::_,h=>h.elim
 |_::_,[],h=>h.elim
theorem Cms.push{S:Nat→Prop}{w:World}{c:CV}{r:Array Value}(hr:r.size=20)(hc:Zc2 S w c (.agg r)):∀{cs:List CV} {rs:List (Array Value)},Cms S w cs rs→Cms S w (cs++[c]) (rs++[r])
 |[],[],_=>⟨hr,hc,trivial⟩
 |_::_,_::_,h=>⟨h.1,h.2.1,Cms.push hr hc h.2.2⟩
 |[],_::_,h=>h.elim
 |_::_,[],h=>h.elim
theorem Cms.at_{S:Nat→Prop}{w:World}:∀{cs:List CV} {rs:List (Array Value)},Cms S w cs rs→∀(k:Nat) (hk:k<cs.length),∃r:Array Value,r.size=20∧Zc2 S w cs[k] (.agg r)∧∀j v,r.toList[j]? =some v→(flatR rs)[k*20+j]? =some v
 |[],[],_,k,hk=>absurd hk (Nat.not_lt_zero _)
 |c::cs,r::rs,h,0,_=>⟨r,h.1,h.2.1,fun j v hj=>by
  have hl:j<r.toList.length:=(List.getElem?_eq_some_iff.1 hj).1;show(r.toList++flatR rs)[0*20+j]? =some v;rw[Nat.zero_mul,Nat.zero_add,List.getElem?_append_left hl];exact hj⟩
 |c::cs,r::rs,h,k+1,hk=>by
  obtain⟨q,h1,h2,h3⟩:=Cms.at_ h.2.2 k (by simpa using hk);refine⟨q,h1,h2,fun j v hj=> ?_⟩;show(r.toList++flatR rs)[(k+1)*20+j]? =some v;rw[List.getElem?_append_right (by rw[Array.length_toList,h.1];omega),Array.length_toList,h.1,show(k+1)*20+j-20=k*20+j by omega];exact h3 j v hj
 |[],_::_,h,_,_=>h.elim
 |_::_,[],h,_,_=>h.elim
def LB(S:Nat→Prop)(v:Value):Nat→Prop:=fun k=>S k∨v.ownBlock=some k
def Zdw(S:Nat→Prop)(w:World)(cs:List CV)(v:Value):Prop:=∃rs,Cms (LB S v) w cs rs∧w.ownsRow 0 35 20 v cs.length (flatR rs)
theorem Zdw.nil(S:Nat→Prop)(w:World):Zdw S w [] (.slice none 0 0):=⟨[],trivial,World.ownsRow_nil _ _ _ _⟩
theorem Zdw.shape{S:Nat→Prop}{w:World}{cs:List CV}{v:Value}(h:Zdw S w cs v):∃a c,v=.slice a cs.length c:=by
 obtain⟨rs,_,h⟩:=h;exact Zb h
theorem Zdw.keep{S S' X:Nat→Prop}{w w':World}{cs:List CV}{v:Value}(h:Zdw S w cs v)(f:Fr X w w')(hX:∀k,X k→S k)(hv:∀k,v.ownBlock=some k→¬X k)(hS:∀k,k<w.heap.size→S' k→S k):Zdw S' w' cs v:=by
 obtain⟨rs,h1,h2⟩:=h;exact⟨rs,h1.keep f (fun k hk=>.inl (hX k hk)) (fun k hk e=>e.elim (fun e=>.inl (hS k hk e)) .inr),ownsRow_fr h2 f hv⟩
theorem Zdw.on{S:Nat→Prop}{w w':World}{cs:List CV}{v:Value}(h:Zdw S w cs v)(f:Fr nob w w'):Zdw S w' cs v:=h.keep f (fun _ x=>x.elim) (fun _ _ x=>x) (fun _ _ x=>x)
theorem Zdw.get{S:Nat→Prop}{w:World}{cs:List CV}{v:Value}(h:Zdw S w cs v){k:Nat}(hk:k<cs.length):
 ∃g cap r,v=.slice (some ⟨g,0,none⟩) cs.length cap∧g<w.heap.size∧r.size=20∧Zc2 S w cs[k] (.agg r)∧w.rangeAt g (k*20) r.toList:=by
 obtain⟨rs,h1,h2⟩:=h;have hl:=h1.len;obtain⟨r,b,f,i⟩:=h1.at_ k hk;obtain⟨a,c,rfl⟩:=Zb h2;have d:=h2;rcases h2.2 with⟨e,hn⟩|⟨q,cap,l,e,_,hq,_⟩
 ·omega
 ·injection e with e1 e2 e3;subst e1;refine⟨q,c,r,rfl,lt_heap hq,b,f.keep (Fr.refl nob w) (fun _ x=>x.elim) (fun _ _ x=>.inl x),fun j v hj=> ?_⟩;have m:j<20:=by have:=(List.getElem?_eq_some_iff.1 hj).1;rw[Array.length_toList,b]at this;exact this
  exact(d.cellAt (k*20+j) (by omega)).trans (i j v hj)
open Go.Lib (hid)
theorem Zcx:∀l:List UInt8,(0≤Lib.indexByte l 10→(Lib.indexByte l 10).toNat=(lineL l).length)∧(Lib.indexByte l 10<0→lineL l=l)
 |[]=>⟨fun h=>by simp[Lib.indexByte]at h,fun _=>rfl⟩
 |b::l=>by
  obtain⟨h1,h2⟩:=Zcx l;have hg:=Lib.indexByte_ge l 10;by_cases hb:b=10
  ·subst hb;have e1:Lib.indexByte (10::l) 10=0:=by rw[Lib.indexByte,if_pos (by simp)]
   have e2:lineL (10::l)=[]:=by unfold lineL;rw[List.takeWhile_cons,if_neg (by decide)]
   rw[e1,e2];exact⟨fun _=>rfl,fun h=>by omega⟩
  ·have e2:lineL (b::l)=b::lineL l:=by unfold lineL;rw[List.takeWhile_cons,if_pos (by simpa using hb)]
   by_cases hn:Lib.indexByte l 10= -1
   ·have e1:Lib.indexByte (b::l) 10= -1:=by rw[Lib.indexByte,if_neg (by simpa using hb),if_pos (by simpa using hn)]
    rw[e1,e2];exact⟨fun h=>by omega,fun _=>by rw[h2 (by omega)]⟩
   ·have e1:Lib.indexByte (b::l) 10=Lib.indexByte l 10+1:=by rw[Lib.indexByte,if_neg (by simpa using hb),if_neg (by simpa using hn)]
    rw[e1,e2];exact⟨fun _=>by have:=h1 (by omega);rw[List.length_cons];omega,fun h=>by omega⟩
theorem ZmY(l:List UInt8):(Lib.cut l [10]).1=lineL l:=by
 obtain⟨h1,h2⟩:=Zcx l;unfold Lib.cut;rw[Lib.index_one];by_cases h:0≤Lib.indexByte l 10
 ·rw[if_pos h,h1 h];exact(List.prefix_iff_eq_take.1 (List.takeWhile_prefix _)).symm
 ·rw[if_neg h,h2 (by omega)]
def ZmZ(l:List UInt8)(n q:Nat):Nat:=if(l.drop q).head? =some 35 then Zaq l n (q+(lineL (l.drop q)).length)else q
theorem Zlw(l:List UInt8)(n k:Nat):Zaq l (n+1) k=ZmZ l n (bhd l Zc1 k):=rfl
theorem Zlx(l:List UInt8)(w:World)(hl:l.length≤1000000)(hE:Env w):
 Calls Tryz.prog 35 #[.string ⟨l.toArray⟩,.string ⟨#[10]⟩] w fun e w'=>∃a b,e=.returned (.tuple #[.string ⟨(lineL l).toArray⟩,.string a,.bool b])∧Fr nob w w':=by
 obtain⟨m,hm⟩:=hE.2;refine(Tryz.strings_Cut ⟨l.toArray⟩ ⟨#[10]⟩ m w (by show l.toArray.size<_;simp;omega) hm).mono ?_;rintro e w' ⟨rfl,n,rfl⟩;have e1:(⟨l.toArray⟩:ByteArray).data.toList=l:=by simp
 have e2:(⟨#[10]⟩:ByteArray).data.toList=[10]:=rfl;rw[e1,e2,ZmY];exact⟨_,_,rfl,(Fr.refl nob w).drewN n⟩
theorem ZeR(l:List UInt8)(b:UInt8):[b].isPrefixOf l=(l.head? ==some b):=by
 cases l with
 |nil=>rfl
 |cons a r=>simp[List.isPrefixOf,Bool.beq_comm]
theorem Zm0(l:List UInt8)(k:Nat)(w:World)(hl:l.length≤100000)(hk:k≤l.length)(hE:Env w):
 Calls Tryz.prog 36 #[.string ⟨l.toArray⟩,.int .i64 (k:Nat)] w fun e w'=>e=.returned (.int .i64 (Zaq l (l.length+1) k:Nat))∧Fr nob w w':=by
 have HS:=hid (fun(p:Nat) (hp:p≤l.length) (w':World)=>(ZkP l p w' (by omega)).mono (fun e w'' (h:_∧_)=>(⟨by rw[h.1,if_neg (by omega)];rfl,h.2⟩:e=.returned (.int .i64 (bhd l Zc1 p:Nat))∧Fr nob w' w'')));have HP:=hid (fun(q:Nat) (w':World)=>ZL (l.drop q) [35] w' (by rw[List.length_drop];omega) (by decide));have HC:=hid (fun(q:Nat) (w':World) (f:Fr nob w w')=>Zlx (l.drop q) w' (by rw[List.length_drop];omega) (hE.on f));obtain⟨F,hF⟩:∃F,Zaq l (l.length+1) k=F:=⟨_,rfl⟩;rw[hF];have HF:=hid hF;clear hE hF;go_enter Tryz.func36,Tryz.ntmps36;go_wp2_with fail;refine(HS.out k hk _).mono ?_;rintro e w1 ⟨rfl,f1⟩;have F1:=hid f1;clear f1;go_wp2_with fail
 go_loopw [1] (fun v wr=>∃q n:Nat,v=.int .i64 q∧q≤l.length∧l.length≤n+q∧ZmZ l n q=F∧Fr nob w wr) (fun v _=>l.length-(intOf v).toNat)
 case atStart=>exact⟨bhd l Zc1 k,l.length,rfl,(bhd_in Zc1 hk).2,by omega,by rw[←Zlw];exact HF.out,F1.out⟩
 case round=>
  obtain⟨q,n,rfl,hq,hn,he,fr⟩:=hrel;have HN:=hid hn;have HE:=hid he;have FR:=hid fr;have u:(q:Int)≤l.length:=by omega
  clear hn he fr;obtain⟨hb,b⟩:∃hb,([35]:List UInt8).isPrefixOf (l.drop q)=hb:=⟨_,rfl⟩;have a:=HP.out q wr;rw[b]at a;have i:=hid a;have d:=hid b;clear a b;cases hb with
  |true=>
   go_wp2_with fail;refine i.out.mono ?_;rintro e w2 ⟨rfl,rfl⟩;go_wp2_with fail;refine(HC.out q _ FR.out).mono ?_;rintro e w3 ⟨ca,cb,rfl,f3⟩;have hh:(l.drop q).head? =some 35:=by have:=d.out;rw[ZeR]at this;simpa using this
   have j:=Zoo hh;have h1:=ZdP (l.drop q);have h2:=ZiE hh;rw[List.length_drop]at h1;obtain⟨ln,c⟩:∃ln,lineL (l.drop q)=ln:=⟨_,rfl⟩;have r:=hid c;rw[c]at h1 h2⊢;have F3:=hid (FR.out.trans' f3);have HH:=hid hh;have g:=hid j;have t:(q:Int)+ln.length≤l.length:=by omega
   clear c hh f3 j;go_wp2_with fail;refine(HS.out (q+ln.length) (by omega) _).mono ?_;rintro e w4 ⟨rfl,f4⟩;have F4:=hid (F3.out.trans' f4);clear f4;go_wp2;go_roundw
   case rel=>
    have hm:∃m,n=m+1:=⟨n-1,by have:=HN.out;have:=g.out;omega⟩;obtain⟨m,rfl⟩:=hm;have hb:=bhd_in (l:=l) Zc1 (k:=q+ln.length) (by omega);refine⟨bhd l Zc1 (q+ln.length),m,rfl,hb.2,by have:=HN.out;omega,?_,F4.out⟩;have:=HE.out;unfold ZmZ at this;rw[if_pos HH.out,r.out,Zlw]at this;exact this
   case measure=>
    have hb:=bhd_in (l:=l) Zc1 (k:=q+ln.length) (by omega);have:=g.out;simp[intOf];omega
  |false=>
   go_wp2_with fail;refine i.out.mono ?_;rintro e w2 ⟨rfl,rfl⟩;have hh:¬(l.drop q).head? =some 35:=by have:=d.out;rw[ZeR]at this;simpa using this
   have o:q=F:=by have:=HE.out;unfold ZmZ at this;rwa[if_neg hh]at this
   have s:=hid o;clear hh o;go_wp2;go_ret;exact⟨by rw[s.out];rfl,FR.out⟩
theorem Zly(c:CV)(v:Value)(w:World)(hc:Zc2 nob w c v):
 Calls Tryz.prog 67 #[v] w fun e w'=>e=.returned (.bool (ZiD c))∧Fr nob w w':=by
 obtain⟨cs,pa,pc,rfl,h,g,_,_,f⟩:=hc.opened;obtain⟨w1,d⟩:∃w1,w1=w.alloc (.cells cs 35):=⟨_,rfl⟩;have hb:w1.heap[w.heap.size]? =some (.cells cs 35 (0,0)):=by rw[d];exact newAt _ _
 have f1:Fr nob w w1:=by rw[d];exact(Fr.refl _ _).alloc _
 have rc:=f w1 _ hb;have a:=hid d;have F1:=hid f1;have hj:ZiD c=(c.name==98||c.name==116||c.name==84):=rfl;rw[hj];clear hc h g f d hb f1 hj;obtain⟨n,hn⟩:∃n,c.name=n:=⟨_,rfl⟩;rw[hn]at rc⊢;clear hn;by_cases h1:n=98
 ·subst h1;go_enter Tryz.func67,Tryz.ntmps67;go_wp2_with(rw[←a.out]);go_ret;exact⟨rfl,F1.out⟩
 ·have t1:((n.toNat:Int)==98)=false:=Zn (b:=98) h1;by_cases h2:n=116
  ·subst h2;clear h1 t1;go_enter Tryz.func67,Tryz.ntmps67;go_wp2_with(rw[←a.out]);go_ret;exact⟨rfl,F1.out⟩
  ·have t2:((n.toNat:Int)==116)=false:=Zn (b:=116) h2;by_cases h3:n=84
   ·subst h3;clear h1 t1 h2 t2;go_enter Tryz.func67,Tryz.ntmps67;go_wp2_with(rw[←a.out]);go_ret;exact⟨rfl,F1.out⟩
   ·have t3:((n.toNat:Int)==84)=false:=Zn (b:=84) h3;have HE:=hid (show(n==98||n==116||n==84)=false by simp[h1,h2,h3]);rw[HE.out];clear h1 h2 h3;go_enter Tryz.func67,Tryz.ntmps67;go_wp2_with(rw[←a.out]);go_ret;exact⟨rfl,F1.out⟩
structure Sc(b m:Nat)(q:Bool)(s:RdS)(S O:Nat→Prop)(cv ov:Value)(w:World):Prop where
 blk:w.heap[b]? =some (.cells #[.bool q,cv,.map (some m),ov] 88 (0,0))
 cm:Zdw (SO S O) w s.cmds cv
 mp:ZiS w m s.labels
 op:OwC w s.opens ov
 nc:∀k,cv.ownBlock=some k→k≠b∧k≠m∧S k
 no:∀k,ov.ownBlock=some k→k≠b∧k≠m∧S k
 ne:∀k,cv.ownBlock=some k→ov.ownBlock≠some k
 bm:b≠m
 me:S b
 mm:S m
def Scd(b:Nat)(q:Bool)(s:RdS)(S O:Nat→Prop)(w:World):Prop:=∃m cv ov,Sc b m q s S O cv ov w
section
variable {b m:Nat} {q:Bool} {s:RdS} {S O:Nat→Prop} {cv ov v':Value} {w W0 w3 w':World}
theorem Sc.on(h:Sc b m q s S O cv ov w)(f:Fr nob w w'):Sc b m q s S O cv ov w':=
 ⟨f.heap h.blk (fun x=>x),h.cm.on f,h.mp.fr f (fun x=>x),ownsRow_fr h.op f (fun _ _ x=>x),h.nc,h.no,h.ne,h.bm,h.me,h.mm⟩
theorem Scd.on(h:Scd b q s S O w)(f:Fr nob w w'):Scd b q s S O w':=by
 obtain⟨m,cv,ov,h⟩:=h;exact⟨m,cv,ov,h.on f⟩
theorem Sc.pushC(h:Sc b m q s S O cv ov w)(f:Fr nob w W0)(hap:Appd 1 cv v' W0 w3){c:CV}{r:Array Value}(hc:Zc2 (SO S O) w c (.agg r))(hr:r.size=20){rs:List (Array Value)}(hrs:Cms (LB (SO S O) cv) w s.cmds rs)
 (hown:w3.ownsRow 0 35 20 v' (s.cmds.length+1) (flatR rs++r.toList)):
 (w3.cell? ⟨b,1,none⟩=some cv∧w3.frozen? ⟨b,1,none⟩=false)∧Sc b m q {s with cmds:=s.cmds++[c]} (Zf0 S v') O v' ov (w3.setCell ⟨b,1,none⟩ v')∧Stp S w (Zf0 S v') (w3.setCell ⟨b,1,none⟩ v'):=by
 have h0:=h.on f;have a:=hap.fr.heap h0.blk (fun e=>(h.nc b e).1 rfl);have u:=f.size;have hb:=lt_heap h.blk;have n:=h0.mp.fr hap.fr (fun e=>(h.nc m e).2.1 rfl);have o:=ownsRow_fr h0.op hap.fr (fun k hk e=>h.ne k e hk);have j:=(Fr.refl (fun k=>k=b) w3).setCell (p:=⟨b,1,none⟩) (fun _=>rfl) v';have t:=h.mp.lt;have i:∀k,v'.ownBlock=some k→k≠b∧k≠m:=fun k e=>by
  rcases hap.old k e with h1|h1
  ·exact⟨(h.nc k h1).1,(h.nc k h1).2.1⟩
  ·exact⟨by omega,by omega⟩
 have d:∀k,k<w.heap.size→v'.ownBlock=some k→cv.ownBlock=some k:=fun k hk e=>by
  rcases hap.old k e with h1|h1
  ·exact h1
  ·omega
 have g:Fr S w (w3.setCell ⟨b,1,none⟩ v'):=(f.any.trans (hap.fr.mono (T:=S) fun k _ hk=>(h.nc k hk).2.2) (fun _ _ x=>x)).setCell (p:=⟨b,1,none⟩) (fun _=>h.me) v';have hS:∀k,k<w.heap.size→LB (SO (Zf0 S v') O) v' k→LB (SO S O) cv k:=fun k hk e=>by
  rcases e with((e|e)|e)|e
  ·exact .inl (.inl e)
  ·exact .inr (d k hk e)
  ·exact .inl (.inr e)
  ·exact .inr (d k hk e)
 have l:∀k,k<w.heap.size→LB (SO (Zf0 S v') O) v' k→SO S O k:=fun k hk e=>by
  rcases hS k hk e with e|e
  ·exact e
  ·exact .inl (h.nc k e).2.2
 refine⟨⟨cell_at a rfl,unfrozen_at a 1⟩,⟨by have:=Za a 1 v';simpa using this,?_,n.fr j (fun e=>h.bm e.symm),ownsRow_fr o j (fun k hk e=>(h.no k hk).1 e),fun k hk=>⟨(i k hk).1,(i k hk).2,.inr hk⟩,fun k hk=>⟨(h.no k hk).1,(h.no k hk).2.1,.inl (h.no k hk).2.2⟩,?_,h.bm,.inl h.me,.inl h.mm⟩,g,?_,?_⟩
 ·refine⟨rs++[r],(Cms.keep g (fun k hk=>.inl (.inl hk)) hS hrs).push hr (hc.keep g (fun k hk=>.inl hk) l),?_⟩;have e:flatR (rs++[r])=flatR rs++r.toList:=by unfold flatR;simp
  rw[e,List.length_append];exact ownsRow_fr hown j (fun k hk e=>(i k hk).1 e)
 ·intro k hk e;rcases hap.old k hk with h1|h1
  ·exact h.ne k h1 e
  ·have:=own_lt h.op k e;omega
 ·intro k hk hx;rcases hx with hx|hx
  ·exact hx
  ·exact(h.nc k (d k hk hx)).2.2
 ·intro hl k hk;have hz:(w3.setCell ⟨b,1,none⟩ v').heap.size=w3.heap.size:=by simp[World.setCell]
  rw[hz];rcases hk with hk|hk
  ·have:=hl k hk;have:=hap.fr.size;omega
  ·exact own_lt hown k hk
theorem Sc.pushO(h:Sc b m q s S O cv ov w)(f:Fr nob w W0)(hap:Appd 1 ov v' W0 w3){n:Nat}
 (hown:w3.ownsRow 0 3 1 v' (s.opens.length+1) ((s.opens.map fun(n:Nat)=>Value.int .i64 n)++[.int .i64 n])):
 (w3.cell? ⟨b,3,none⟩=some ov∧w3.frozen? ⟨b,3,none⟩=false)∧Sc b m q {s with opens:=s.opens++[n]} (Zf0 S v') O cv v' (w3.setCell ⟨b,3,none⟩ v')∧Stp S w (Zf0 S v') (w3.setCell ⟨b,3,none⟩ v'):=by
 have h0:=h.on f;have a:=hap.fr.heap h0.blk (fun e=>(h.no b e).1 rfl);have u:=f.size;have hb:=lt_heap h.blk;have r:=h0.mp.fr hap.fr (fun e=>(h.no m e).2.1 rfl);have t:=h.mp.lt;have i:=(Fr.refl (fun k=>k=b) w3).setCell (p:=⟨b,3,none⟩) (fun _=>rfl) v';have d:∀k,v'.ownBlock=some k→k≠b∧k≠m:=fun k e=>by
  rcases hap.old k e with h1|h1
  ·exact⟨(h.no k h1).1,(h.no k h1).2.1⟩
  ·exact⟨by omega,by omega⟩
 have c:∀k,k<w.heap.size→v'.ownBlock=some k→ov.ownBlock=some k:=fun k hk e=>by
  rcases hap.old k e with h1|h1
  ·exact h1
  ·omega
 have o:Fr S w (w3.setCell ⟨b,3,none⟩ v'):=(f.any.trans (hap.fr.mono (T:=S) fun k _ hk=>(h.no k hk).2.2) (fun _ _ x=>x)).setCell (p:=⟨b,3,none⟩) (fun _=>h.me) v';have j:∀k,cv.ownBlock=some k→k<w.heap.size:=fun k hk=>by obtain⟨_,_,g⟩:=h.cm;exact own_lt g k hk
 have l:Zdw (SO (Zf0 S v') O) (w3.setCell ⟨b,3,none⟩ v') s.cmds cv:=by
  refine h.cm.keep (((f.any (S:=fun k=>k=b∨ov.ownBlock=some k)).trans' (hap.fr.mono fun k _ hk=>.inr hk)).setCell (p:=⟨b,3,none⟩) (fun _=>.inl rfl) v') ?_ ?_ ?_
  ·rintro k (rfl|hk)
   ·exact .inl h.me
   ·exact .inl (h.no k hk).2.2
  ·rintro k hk (rfl|e)
   ·exact(h.nc _ hk).1 rfl
   ·exact h.ne k hk e
  ·rintro k hk ((e|e)|e)
   ·exact .inl e
   ·exact .inl (h.no k (c k hk e)).2.2
   ·exact .inr e
 refine⟨⟨cell_at a rfl,unfrozen_at a 3⟩,⟨by have:=Za a 3 v';simpa using this,l,r.fr i (fun e=>h.bm e.symm),?_,fun k hk=>⟨(h.nc k hk).1,(h.nc k hk).2.1,.inl (h.nc k hk).2.2⟩,fun k hk=>⟨(d k hk).1,(d k hk).2,.inr hk⟩,?_,h.bm,.inl h.me,.inl h.mm⟩,o,?_,?_⟩
 ·have:=ownsRow_fr hown i (fun k hk e=>(d k hk).1 e);unfold OwC;simp only[List.length_append,List.length_singleton,List.map_append,List.map_cons,List.map_nil];exact this
 ·intro k hk e;exact h.ne k hk (c k (j k hk) e)
 ·intro k hk hx;rcases hx with hx|hx
  ·exact hx
  ·exact(h.no k (c k hk hx)).2.2
 ·intro hl k hk;have hz:(w3.setCell ⟨b,3,none⟩ v').heap.size=w3.heap.size:=by simp[World.setCell]
  rw[hz];rcases hk with hk|hk
  ·have:=hl k hk;have:=hap.fr.size;omega
  ·exact own_lt hown k hk
theorem ZoD{l:List Nat}{a:Option Addr}{cap:Nat}(h:OwC w l (.slice a l.length cap))(hl:0<l.length):OwC w l.dropLast (.slice a (l.length-1) cap):=by
 unfold OwC at h⊢;rcases h.2 with⟨e,hn⟩|⟨g,c,b,e,h1,h2,h3,h4,h5,h6⟩
 ·omega
 ·injection e with e1 e2 e3;subst e1;subst e3;refine⟨by simp,.inr ⟨g,cap,b,by simp,h1,h2,by simp;omega,h4,h5,?_⟩⟩;have e:(l.dropLast.map fun(n:Nat)=>Value.int .i64 n)=(l.map fun(n:Nat)=>Value.int .i64 n).take (l.length-1):=by
   rw[List.dropLast_eq_take,List.map_take]
  rw[e,←h6,List.take_take]
  congr 1
  simp
theorem Sc.popO{a:Option Addr}{cap:Nat}(h:Sc b m q s S O cv (.slice a s.opens.length cap) w)(hl:0<s.opens.length):
 Sc b m q {s with opens:=s.opens.dropLast} S O cv (.slice a (s.opens.length-1) cap) (w.setCell ⟨b,3,none⟩ (.slice a (s.opens.length-1) cap))∧Stp S w S (w.setCell ⟨b,3,none⟩ (.slice a (s.opens.length-1) cap)):=by
 have d:=(Fr.refl (fun k=>k=b) w).setCell (p:=⟨b,3,none⟩) (fun _=>rfl) (.slice a (s.opens.length-1) cap);have c:(Value.slice a (s.opens.length-1) cap).ownBlock=(Value.slice a s.opens.length cap).ownBlock:=by cases a<;>rfl
 refine⟨⟨by have:=Za h.blk 3 (.slice a (s.opens.length-1) cap);simpa using this,?_,h.mp.fr d (fun e=>h.bm e.symm),?_,h.nc,fun k hk=>h.no k (by rw[←c];exact hk),fun k hk e=>h.ne k hk (by rw[←c];exact e),h.bm,h.me,h.mm⟩,(Fr.refl S w).setCell (p:=⟨b,3,none⟩) (fun _=>h.me) _,fun _ _ x=>x,fun hl k hk=>by have:=hl k hk;simpa[World.setCell]using this⟩
 ·exact h.cm.keep d (fun k hk=>.inl (hk▸h.me)) (fun k hk e=>(h.nc k hk).1 e) (fun _ _ x=>x)
 ·have hp:=ZoD h.op hl;exact ownsRow_fr hp d (fun k hk e=>(h.no k (by rw[←c];exact hk)).1 e)
theorem Sc.label(h:Sc b m q s S O cv ov w){t:List UInt8}(hm:ZiS w' m (s.labels++[t]))(f:Fr (fun k=>k=m) w w'):Sc b m q {s with labels:=s.labels++[t]} S O cv ov w'∧Stp S w S w':=
 ⟨⟨f.heap h.blk (fun e=>h.bm e),h.cm.keep f (fun k hk=>.inl (hk▸h.mm)) (fun k hk e=>(h.nc k hk).2.1 e) (fun _ _ x=>x),hm,ownsRow_fr h.op f (fun k hk e=>(h.no k hk).2.1 e),h.nc,h.no,h.ne,h.bm,h.me,h.mm⟩,
   f.mono (fun k _ e=>e▸h.mm),fun _ _ x=>x,fun hl k hk=>Nat.lt_of_lt_of_le (hl k hk) f.size⟩
end
end Go.Proofs.YtkfddjopbocpkaaGreatDoor
