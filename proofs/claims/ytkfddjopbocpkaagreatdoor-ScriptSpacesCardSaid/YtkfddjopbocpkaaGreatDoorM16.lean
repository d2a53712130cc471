/- Lemmas of this claim. -/
import Derived.Test.YtkfddjopbocpkaaGreatDoorM15
set_option linter.unusedVariables false
set_option linter.unusedSimpArgs false
set_option maxRecDepth 100000
set_option maxHeartbeats 4000000
namespace Go.Proofs.YtkfddjopbocpkaaGreatDoor
open Go.Lib (hid)
open Go.RowKit
theorem Zge(b:UInt8)(hb:b.toNat<128):Utf8.encode (b.toNat:Int)=⟨#[b]⟩:=by
 have hv:Utf8.valid (b.toNat:Int)=true:=by unfold Utf8.valid;simp;omega
 unfold Utf8.encode;simp only[hv,if_true,Int.toNat_natCast];rw[if_pos hb];simp
theorem Zca{P:Program}{w:World}(f:Value→ByteArray→Sem (ForInStep ByteArray))(hf:∀(n:Int) (r:ByteArray),(f (.int .i32 n) r).run P w=.ok (.yield (r++Utf8.encode n)) w):
 ∀(bs:List UInt8) (s:ByteArray),(∀b∈bs,b.toNat<128)→(forIn (Zbk bs) s f).run P w=.ok ⟨s.data++bs.toArray⟩ w
 |[],s,_=>by
  have:(⟨s.data++ #[]⟩:ByteArray)=s:=by apply ByteArray.ext;simp
  simp[Zbk,Sem.run_pure,this]
 |b::bs,s,h=>by
  simp only[Zbk,List.map_cons,List.forIn_cons,Sem.run_bind,hf,Result.andThen];rw[Zge b (h b (by simp))];have:=Zca f hf bs (s++⟨#[b]⟩) (fun x hx=>h x (by simp[hx]));rw[show(forIn (List.map (fun c:UInt8=>Value.int .i32 (c.toNat:Int)) bs) (s++⟨#[b]⟩) f)=forIn (Zbk bs) (s++⟨#[b]⟩) f from rfl,this]
  congr 1
  apply ByteArray.ext;simp
theorem Zer{P:Program}{src dst e:TypeId}(hs:P.underlying src=some (.slice e))(he:P.underlying e=some (.int .i32))(hd:P.underlying dst=some .string)(a:Addr)(cap:Nat)(bs:List UInt8)(hb:∀b∈bs,b.toNat<128)(W:World)
 (hc:∀j v,(Zbk bs)[j]? =some v→W.cell? (a.add j)=some v):
 (convert src dst (.slice (some a) bs.length cap)).run P W=.ok (.string ⟨bs.toArray⟩) W:=by
 have hl:=run_loadCells_list (P:=P) W a (Zbk bs) hc;rw[show(Zbk bs).length=bs.length from by simp[Zbk]]at hl;rw[show(convert src dst (.slice (some a) bs.length cap)).run P W=(Conv.runesToString (.slice (some a) bs.length cap)).run P W from by simp[convert,run_underlying hs,run_underlying hd,run_underlying he]];unfold Conv.runesToString;simp only[Sem.run_bind,hl,Result.andThen,List.forIn_toArray];rw[Zca _ (by intro n r;simp[Sem.run_pure]) bs _ hb];simp[Sem.run_pure]
theorem run_conv_runes2(c:UInt8)(hc:c.toNat<128)(g:Nat)(W:World){T:TypeId}(hb:W.heap[g]? =some (.cells #[.int .i32 92,.int .i32 (c.toNat:Int)] T (0,0))):
 (convert 278 9 (.slice (some ⟨g,0,none⟩) 2 2)).run Tryz.prog W=.ok (.string ⟨#[92,c]⟩) W:=by
 refine Zer Tryz.underlying278 Tryz.underlying21 Tryz.underlying9 _ 2 [92,c] (by intro b h;simp at h;rcases h with rfl|rfl;decide;exact hc) W ?_;intro j v hj
 match j,hj with
 |0,hj=>simp[Zbk]at hj;subst hj;exact cell_at hb rfl
 |1,hj=>simp[Zbk]at hj;subst hj;exact cell_at hb rfl
section
variable {b:Nat} {l:List UInt8} {s:ES} {S:Nat→Prop} {sv:Value} {m:Nat} {mv v':Value} {w W0 w3:World}
theorem Er.pushM(h:Er b l s S sv m mv w)(f:Fr nob w W0)(hap:Appd 1 mv v' W0 w3){t:List UInt8}
 (hown:w3.ownsRow 0 55 2 v' (s.r.marks.length+1) (mkC s.r.marks++[.int .i64 s.r.at_,.string ⟨t.toArray⟩])):
 (w3.cell? ⟨b,5,none⟩=some mv∧w3.frozen? ⟨b,5,none⟩=false)∧Erd b l (s.mark t) (Zf0 S v') (w3.setCell ⟨b,5,none⟩ v')∧Stp S w (Zf0 S v') (w3.setCell ⟨b,5,none⟩ v'):=by
 have h0:=h.on f;have hblk:=hap.fr.heap h0.blk (fun e=>(h.nm b e).1 rfl);have hsz:=f.size;have hb:=lt_heap h.blk;have hm:=h.mp.lt;have hst:=(Fr.refl (fun k=>k=b) w3).setCell (p:=⟨b,5,none⟩) (fun _=>rfl) v';have hnew:∀k,v'.ownBlock=some k→(k≠b∧k≠m)∧∀j,sv.ownBlock=some j→k≠j:=fun k e=>by
  rcases hap.old k e with h1|h1
  ·obtain⟨n1,n2,n3⟩:=h.nm k h1;exact⟨⟨n1,n2⟩,fun j hj e=>(h.ns j hj).2 (e▸n3)⟩
  ·exact⟨⟨by omega,by omega⟩,fun j hj e=>by have:=(h.ns j hj).1;omega⟩
 have hsg:=ownsRow_fr h0.sg hap.fr (fun k hk e=>(h.ns k hk).2 (h.nm k e).2.2);have hmp:=h0.mp.fr hap.fr (fun e=>(h.nm m e).2.1 rfl);refine⟨⟨cell_at hblk rfl,unfrozen_at hblk 5⟩,⟨sv,m,v',by have:=Za hblk 5 v';simpa[RxS.mark,ES.mark]using this,ownsRow_fr hsg hst (fun k hk e=>(h.ns k hk).2 (e▸h.me)),hmp.fr hst (fun e=>h.bm e.symm),?_,fun k hk=>⟨(hnew k hk).1.1,(hnew k hk).1.2,.inr hk⟩,h.bm,fun k hk=>⟨(h.ns k hk).1,fun x=>x.elim (h.ns k hk).2 (fun y=>(hnew k y).2 k hk rfl)⟩,.inl h.me,.inl h.mm,h.ok⟩,?_,?_,?_⟩
 ·have:=ownsRow_fr hown hst (fun k hk e=>(hnew k hk).1.1 e);unfold OwM;simp only[ES.mark,RxS.mark,List.length_append,List.length_singleton,Zch];exact this
 ·exact(f.any.trans (hap.fr.mono (T:=S) fun k _ hk=>(h.nm k hk).2.2) (fun _ _ x=>x)).setCell (p:=⟨b,5,none⟩) (fun _=>h.me) v'
 ·intro k hk hx;rcases hx with hx|hx
  ·exact hx
  ·rcases hap.old k hx with h1|h1
   ·exact(h.nm k h1).2.2
   ·omega
 ·intro hl k hk;have hz:(w3.setCell ⟨b,5,none⟩ v').heap.size=w3.heap.size:=by simp[World.setCell]
  rw[hz];rcases hk with hk|hk
  ·have:=hl k hk;have:=hap.fr.size;omega
  ·exact own_lt hown k hk
end
def Zmo(b:Nat)(l:List UInt8)(S O:Nat→Prop)(w:World)(q:Nd×ES)(x:Ending)(w':World):Prop:=
 ∃v S',x=.returned v∧RN (SO S' O) w' q.1 v∧Erd b l q.2 S' w'∧Stp S w S' w'
theorem ZeH{c:UInt8}(h:ZdK c=true):c=116∨c=119∨c=87∨c=115∨c=83∨c=49∨c=50∨c=51∨c=52∨c=53∨c=54∨c=55∨c=56∨c=57:=by
 unfold ZdK at h;simp only[Bool.or_eq_true,beq_iff_eq,Bool.and_eq_true,decide_eq_true_eq]at h;rcases h with h|h|h|h|h|⟨h1,h2⟩
 ·simp[h]
 ·simp[h]
 ·simp[h]
 ·simp[h]
 ·simp[h]
 ·have:∀n:Nat,49≤n→n≤57→n=49∨n=50∨n=51∨n=52∨n=53∨n=54∨n=55∨n=56∨n=57:=fun n _ _=>by omega
  have key:∀d:UInt8,c.toNat=d.toNat→c=d:=fun d e=>UInt8.toNat_inj.1 e;rcases this c.toNat h1 h2 with e|e|e|e|e|e|e|e|e
  ·have:=key 49 e;simp[this]
  ·have:=key 50 e;simp[this]
  ·have:=key 51 e;simp[this]
  ·have:=key 52 e;simp[this]
  ·have:=key 53 e;simp[this]
  ·have:=key 54 e;simp[this]
  ·have:=key 55 e;simp[this]
  ·have:=key 56 e;simp[this]
  ·have:=key 57 e;simp[this]
theorem ZkM(b:Nat)(l:List UInt8)(s:ES)(S O:Nat→Prop)(w:World)(hl:l.length≤100000)(ha:s.r.at_<l.length)(hs:Sane l s.r)(hlt:∀k,S k→k<w.heap.size)(h:Erd b l s S w):
 Calls Tryz.prog 253 #[.pointer (some ⟨b,0,none⟩)] w (Zmo b l S O w (ZkG l s)):=by
 obtain⟨R,hR⟩:∃R,ZkG l s=R:=⟨_,rfl⟩;rw[hR];have hb1:=fun w' (f:Fr nob w w')=>Zgc b l s S 1 w' hl (by omega) (by omega) (h.on f);have HH:=hid h;obtain⟨sv,m,mv,hE⟩:=h;have rr:=Zae hE.blk;have HE:=hid hE;have HLT:=hid hlt;have HS:=hid hs;unfold ZkG at hR;cases hc:l[s.r.at_+1]? with
 |none=>
  rw[hc]at hR hb1;simp only at hR;subst hR;have HB:=hid hb1;clear hE hlt hs hb1 hc;go_enter Tryz.func253,Tryz.ntmps253;go_wp2_with fail;refine region_fr 6 (by kernel_rfl) (by kernel_rfl) ?_;simp only[List.take_succ_cons,List.take_zero,List.drop_succ_cons,List.drop_zero]
  repeat(quiet_step ((with_reducible exact calls_fr (HB.out _ (grown_fr _ _ _)))))
  refine wpQuiet_nil ?_;intro w1 f1;have hf:=Za4 b l s S 11 s.r.at_ w1 hl (by decide) (HH.out.on f1);have HF:=hid hf;have F1:=hid f1;clear hf f1;go_wp2_with fail;refine HF.out.mono ?_;rintro e w2 ⟨rfl,e2,t2⟩;have E2:=hid e2;have T2:=hid t2;clear e2 t2;go_wp2;go_ret;exact⟨.nilIface,S,rfl,by rw[RN],E2.out,(Stp.of F1.out).trans T2.out⟩
 |some c=>
  rw[hc]at hR hb1;simp only at hR;have hlt1:=ZK hc;have HB:=hid hb1;clear hE hlt hb1 hc;go_enter Tryz.func253,Tryz.ntmps253;go_wp2_with fail;refine region_fr 6 (by kernel_rfl) (by kernel_rfl) ?_;simp only[List.take_succ_cons,List.take_zero,List.drop_succ_cons,List.drop_zero]
  repeat(quiet_step ((with_reducible exact calls_fr (HB.out _ (grown_fr _ _ _)))))
  refine wpQuiet_nil ?_;intro w1 f1;have hcb:=c.toNat_lt;have hne:¬(c.toNat:Int)= -1:=by omega
  have hE1:=HE.out.on f1;have F1:=hid f1;have HE1:=hid hE1;clear f1 hE1 rr;simp only[rnX];go_upto_block 0 with(fail)
  go_cut [] (fun w'=>∃S',Erd b l (if ZdK c then s.mark [92,c]else s) S' w'∧Stp S w1 S' w')
  case first=>
   go_upto_if 20 with(fail)
   go_cut [20] (fun v w'=>v=.bool (ZdK c)∧w1=w')
   case first=>
    cases hm:ZdK c with
    |true=>
     have hcs:=ZeH hm;have HM:=hid hm;clear hm;rcases hcs with h|h|h|h|h|h|h|h|h|h|h|h|h|h
     ·have n0:((c.toNat:Int)==116)=true:=by rw[h];rfl
      clear h;go_wp2;go_meet
      case rel=>exact⟨by rw[HM.out];rw[n0],rfl⟩
     ·have n0:((c.toNat:Int)==116)=false:=by rw[h];rfl
      have n1:((c.toNat:Int)==119)=true:=by rw[h];rfl
      clear h;go_wp2;go_meet
      case rel=>exact⟨by rw[HM.out],rfl⟩
     ·have n0:((c.toNat:Int)==116)=false:=by rw[h];rfl
      have n1:((c.toNat:Int)==119)=false:=by rw[h];rfl
      have n2:((c.toNat:Int)==87)=true:=by rw[h];rfl
      clear h;go_wp2;go_meet
      case rel=>exact⟨by rw[HM.out],rfl⟩
     ·have n0:((c.toNat:Int)==116)=false:=by rw[h];rfl
      have n1:((c.toNat:Int)==119)=false:=by rw[h];rfl
      have n2:((c.toNat:Int)==87)=false:=by rw[h];rfl
      have n3:((c.toNat:Int)==115)=true:=by rw[h];rfl
      clear h;go_wp2;go_meet
      case rel=>exact⟨by rw[HM.out],rfl⟩
     ·have n0:((c.toNat:Int)==116)=false:=by rw[h];rfl
      have n1:((c.toNat:Int)==119)=false:=by rw[h];rfl
      have n2:((c.toNat:Int)==87)=false:=by rw[h];rfl
      have n3:((c.toNat:Int)==115)=false:=by rw[h];rfl
      have n4:((c.toNat:Int)==83)=true:=by rw[h];rfl
      clear h;go_wp2;go_meet
      case rel=>exact⟨by rw[HM.out],rfl⟩
     ·have n0:((c.toNat:Int)==116)=false:=by rw[h];rfl
      have n1:((c.toNat:Int)==119)=false:=by rw[h];rfl
      have n2:((c.toNat:Int)==87)=false:=by rw[h];rfl
      have n3:((c.toNat:Int)==115)=false:=by rw[h];rfl
      have n4:((c.toNat:Int)==83)=false:=by rw[h];rfl
      have n5:((c.toNat:Int)==49)=true:=by rw[h];rfl
      clear h;go_wp2;go_meet
      case rel=>exact⟨by rw[HM.out],rfl⟩
     ·have n0:((c.toNat:Int)==116)=false:=by rw[h];rfl
      have n1:((c.toNat:Int)==119)=false:=by rw[h];rfl
      have n2:((c.toNat:Int)==87)=false:=by rw[h];rfl
      have n3:((c.toNat:Int)==115)=false:=by rw[h];rfl
      have n4:((c.toNat:Int)==83)=false:=by rw[h];rfl
      have n5:((c.toNat:Int)==49)=false:=by rw[h];rfl
      have n6:((c.toNat:Int)==50)=true:=by rw[h];rfl
      clear h;go_wp2;go_meet
      case rel=>exact⟨by rw[HM.out],rfl⟩
     ·have n0:((c.toNat:Int)==116)=false:=by rw[h];rfl
      have n1:((c.toNat:Int)==119)=false:=by rw[h];rfl
      have n2:((c.toNat:Int)==87)=false:=by rw[h];rfl
      have n3:((c.toNat:Int)==115)=false:=by rw[h];rfl
      have n4:((c.toNat:Int)==83)=false:=by rw[h];rfl
      have n5:((c.toNat:Int)==49)=false:=by rw[h];rfl
      have n6:((c.toNat:Int)==50)=false:=by rw[h];rfl
      have n7:((c.toNat:Int)==51)=true:=by rw[h];rfl
      clear h;go_wp2;go_meet
      case rel=>exact⟨by rw[HM.out],rfl⟩
     ·have n0:((c.toNat:Int)==116)=false:=by rw[h];rfl
      have n1:((c.toNat:Int)==119)=false:=by rw[h];rfl
      have n2:((c.toNat:Int)==87)=false:=by rw[h];rfl
      have n3:((c.toNat:Int)==115)=false:=by rw[h];rfl
      have n4:((c.toNat:Int)==83)=false:=by rw[h];rfl
      have n5:((c.toNat:Int)==49)=false:=by rw[h];rfl
      have n6:((c.toNat:Int)==50)=false:=by rw[h];rfl
      have n7:((c.toNat:Int)==51)=false:=by rw[h];rfl
      have n8:((c.toNat:Int)==52)=true:=by rw[h];rfl
      clear h;go_wp2;go_meet
      case rel=>exact⟨by rw[HM.out],rfl⟩
     ·have n0:((c.toNat:Int)==116)=false:=by rw[h];rfl
      have n1:((c.toNat:Int)==119)=false:=by rw[h];rfl
      have n2:((c.toNat:Int)==87)=false:=by rw[h];rfl
      have n3:((c.toNat:Int)==115)=false:=by rw[h];rfl
      have n4:((c.toNat:Int)==83)=false:=by rw[h];rfl
      have n5:((c.toNat:Int)==49)=false:=by rw[h];rfl
      have n6:((c.toNat:Int)==50)=false:=by rw[h];rfl
      have n7:((c.toNat:Int)==51)=false:=by rw[h];rfl
      have n8:((c.toNat:Int)==52)=false:=by rw[h];rfl
      have n9:((c.toNat:Int)==53)=true:=by rw[h];rfl
      clear h;go_wp2;go_meet
      case rel=>exact⟨by rw[HM.out],rfl⟩
     ·have n0:((c.toNat:Int)==116)=false:=by rw[h];rfl
      have n1:((c.toNat:Int)==119)=false:=by rw[h];rfl
      have n2:((c.toNat:Int)==87)=false:=by rw[h];rfl
      have n3:((c.toNat:Int)==115)=false:=by rw[h];rfl
      have n4:((c.toNat:Int)==83)=false:=by rw[h];rfl
      have n5:((c.toNat:Int)==49)=false:=by rw[h];rfl
      have n6:((c.toNat:Int)==50)=false:=by rw[h];rfl
      have n7:((c.toNat:Int)==51)=false:=by rw[h];rfl
      have n8:((c.toNat:Int)==52)=false:=by rw[h];rfl
      have n9:((c.toNat:Int)==53)=false:=by rw[h];rfl
      have n10:((c.toNat:Int)==54)=true:=by rw[h];rfl
      clear h;go_wp2;go_meet
      case rel=>exact⟨by rw[HM.out],rfl⟩
     ·have n0:((c.toNat:Int)==116)=false:=by rw[h];rfl
      have n1:((c.toNat:Int)==119)=false:=by rw[h];rfl
      have n2:((c.toNat:Int)==87)=false:=by rw[h];rfl
      have n3:((c.toNat:Int)==115)=false:=by rw[h];rfl
      have n4:((c.toNat:Int)==83)=false:=by rw[h];rfl
      have n5:((c.toNat:Int)==49)=false:=by rw[h];rfl
      have n6:((c.toNat:Int)==50)=false:=by rw[h];rfl
      have n7:((c.toNat:Int)==51)=false:=by rw[h];rfl
      have n8:((c.toNat:Int)==52)=false:=by rw[h];rfl
      have n9:((c.toNat:Int)==53)=false:=by rw[h];rfl
      have n10:((c.toNat:Int)==54)=false:=by rw[h];rfl
      have n11:((c.toNat:Int)==55)=true:=by rw[h];rfl
      clear h;go_wp2;go_meet
      case rel=>exact⟨by rw[HM.out],rfl⟩
     ·have n0:((c.toNat:Int)==116)=false:=by rw[h];rfl
      have n1:((c.toNat:Int)==119)=false:=by rw[h];rfl
      have n2:((c.toNat:Int)==87)=false:=by rw[h];rfl
      have n3:((c.toNat:Int)==115)=false:=by rw[h];rfl
      have n4:((c.toNat:Int)==83)=false:=by rw[h];rfl
      have n5:((c.toNat:Int)==49)=false:=by rw[h];rfl
      have n6:((c.toNat:Int)==50)=false:=by rw[h];rfl
      have n7:((c.toNat:Int)==51)=false:=by rw[h];rfl
      have n8:((c.toNat:Int)==52)=false:=by rw[h];rfl
      have n9:((c.toNat:Int)==53)=false:=by rw[h];rfl
      have n10:((c.toNat:Int)==54)=false:=by rw[h];rfl
      have n11:((c.toNat:Int)==55)=false:=by rw[h];rfl
      have n12:((c.toNat:Int)==56)=true:=by rw[h];rfl
      clear h;go_wp2;go_meet
      case rel=>exact⟨by rw[HM.out],rfl⟩
     ·have n0:((c.toNat:Int)==116)=false:=by rw[h];rfl
      have n1:((c.toNat:Int)==119)=false:=by rw[h];rfl
      have n2:((c.toNat:Int)==87)=false:=by rw[h];rfl
      have n3:((c.toNat:Int)==115)=false:=by rw[h];rfl
      have n4:((c.toNat:Int)==83)=false:=by rw[h];rfl
      have n5:((c.toNat:Int)==49)=false:=by rw[h];rfl
      have n6:((c.toNat:Int)==50)=false:=by rw[h];rfl
      have n7:((c.toNat:Int)==51)=false:=by rw[h];rfl
      have n8:((c.toNat:Int)==52)=false:=by rw[h];rfl
      have n9:((c.toNat:Int)==53)=false:=by rw[h];rfl
      have n10:((c.toNat:Int)==54)=false:=by rw[h];rfl
      have n11:((c.toNat:Int)==55)=false:=by rw[h];rfl
      have n12:((c.toNat:Int)==56)=false:=by rw[h];rfl
      have n13:((c.toNat:Int)==57)=true:=by rw[h];rfl
      clear h;go_wp2;go_meet
      case rel=>exact⟨by rw[HM.out],rfl⟩
    |false=>
     have n:∀d:UInt8,ZdK d=true→((c.toNat:Int)==d.toNat)=false:=fun d hd=>Zn fun e=>by rw[e,hd]at hm;cases hm
     have n0:((c.toNat:Int)==116)=false:=n 116 rfl;have n1:((c.toNat:Int)==119)=false:=n 119 rfl;have n2:((c.toNat:Int)==87)=false:=n 87 rfl;have n3:((c.toNat:Int)==115)=false:=n 115 rfl;have n4:((c.toNat:Int)==83)=false:=n 83 rfl;have n5:((c.toNat:Int)==49)=false:=n 49 rfl;have n6:((c.toNat:Int)==50)=false:=n 50 rfl;have n7:((c.toNat:Int)==51)=false:=n 51 rfl;have n8:((c.toNat:Int)==52)=false:=n 52 rfl;have n9:((c.toNat:Int)==53)=false:=n 53 rfl;have n10:((c.toNat:Int)==54)=false:=n 54 rfl;have n11:((c.toNat:Int)==55)=false:=n 55 rfl;have n12:((c.toNat:Int)==56)=false:=n 56 rfl;have n13:((c.toNat:Int)==57)=false:=n 57 rfl;have HM:=hid hm;clear n hm;go_wp2;go_meet
     case rel=>exact⟨by rw[HM.out],rfl⟩
   case rest=>
    obtain⟨rfl,rfl⟩:=hcut;cases hm:ZdK c with
    |true=>
     have rr1:=Zae HE1.out.blk;obtain⟨am,cm,hmv⟩:=Zb HE1.out.ma;subst hmv;obtain⟨i0,hi,hz0,hz1,hz2⟩:=info_parts Zbv;have hcs:=ZeH hm;have hc128:c.toNat<128:=by rcases hcs with rfl|rfl|rfl|rfl|rfl|rfl|rfl|rfl|rfl|rfl|rfl|rfl|rfl|rfl<;>decide
     have hcv0:∀W:World,W.heap[w1.heap.size]? =some (.cells #[.int .i32 92,.int .i32 (c.toNat:Int)] 21 (0,0))→(convert 278 9 (.slice (some ⟨w1.heap.size,0,none⟩) 2 2)).run Tryz.prog W=.ok (.string ⟨#[92,c]⟩) W:=fun W hW=>run_conv_runes2 c hc128 _ W hW;have hcv1:=hcv0 (w1.alloc (.cells #[.int .i32 92,.int .i32 (c.toNat:Int)] 21)).drew (newAt0 w1 _);have hcv2:=hcv0 (w1.drew.alloc (.cells #[.int .i32 92,.int .i32 (c.toNat:Int)] 21)) (newAt0 w1.drew _);have r5:∀W,Fr nob w1 W→W.cell? ⟨b,5,none⟩=some (.slice am s.r.marks.length cm):=fun W f=>(rr1 W f).1.2.2.2.2.2.1;have r5b:∀X,(w1.alloc X).cell? ⟨b,5,none⟩=some (.slice am s.r.marks.length cm):=fun X=>r5 _ ((Fr.refl nob w1).alloc X);have r5c:∀X Y,((w1.alloc X).alloc Y).cell? ⟨b,5,none⟩=some (.slice am s.r.marks.length cm):=fun X Y=>r5 _ (((Fr.refl nob w1).alloc X).alloc Y);have hmr:=hs.mr;have HM:=hid hm;clear hcv0 hc128 hm hcs;go_wp2_with fail
     go_region_law (refine step_append_g rfl (.tmp 39) (.tmp 45) 36 rfl 55 i0 (.agg #[.int .i64 0,.string ByteArray.empty]) 2 24 Tryz.underlying36 hi hz0 hz1 hz2 rfl (by decide) (.slice am s.r.marks.length cm) s.r.marks.length (mkC s.r.marks) (by rfl) (ownsRow_fr HE1.out.ma (by repeat(first|exact Fr.refl _ _|apply Fr.alloc|apply Fr.drew)) (fun _ _ x=>x)) ⟨w1.heap.size+1,0,none⟩ 1 1 [.int .i64 s.r.at_,.string ⟨#[92,c]⟩] (by rfl) rfl (Zdg (t:=[92,c]) (by first|exact newAt0 _ _|exact Zg _ _ _ (by simp))) (Zf1 (t:=[92,c])) (by unfold maxLen;omega) (by omega) ?_;intro v' w3 hown' hap;obtain⟨av,cv',rfl⟩:=Zb hown';obtain⟨⟨pc,pf⟩,q1,q2⟩:=HE1.out.pushM (t:=[92,c]) (by repeat(first|exact Fr.refl _ _|apply Fr.alloc|apply Fr.drew)) hap hown';have HQ:=hid q1;have HR:=hid q2;clear hown' hap q1 q2)
     all_goals
      go_wp2;go_meet
      case rel=>rw[if_pos HM.out];exact⟨_,HQ.out,HR.out⟩
    |false=>
     have HM:=hid hm;clear hm;go_wp2;go_meet
     case rel=>rw[if_neg (by rw[HM.out];decide)];exact⟨S,⟨sv,m,mv,HE1.out⟩,Stp.refl _ _⟩
  case rest=>
   obtain⟨S1,h1,st1⟩:=hcut;have hat1:(if ZdK c then s.mark [92,c]else s).r.at_=s.r.at_:=by cases ZdK c<;>rfl
   have hcl1:(if ZdK c then s.mark [92,c]else s).r.closed=s.r.closed:=by cases ZdK c<;>rfl
   obtain⟨s1,hs1⟩:∃s1,(if ZdK c then s.mark [92,c]else s)=s1:=⟨_,rfl⟩;rw[hs1]at hR h1 hat1 hcl1;obtain⟨sv1,m1,mv1,hE1⟩:=h1;have st1':=(Stp.of F1.out).trans st1;have hlt2:∀k,S1 k→k<wc.heap.size:=st1'.lt HLT.out;have hE2:=hE1.turned 2 (.int .i64 ((s.r.at_:Int)+2)) (s1.go 2) (by simp[ES.go,RxS.go,hat1]) rfl rfl hE1.ok;have st2:=st1'.trans (hE1.stp 2 (.int .i64 ((s.r.at_:Int)+2)));have rr1:=Zae hE1.blk wc (Fr.refl nob wc);rw[hat1]at rr1;obtain⟨wD,hwD⟩:∃wD,wD=wc.setCell ⟨b,2,none⟩ (.int .i64 ((s.r.at_:Int)+2)):=⟨_,rfl⟩;rw[←hwD]at hE2 st2;have hszD:wD.heap.size=wc.heap.size:=by rw[hwD];simp[World.setCell]
   have HD:=hid hwD;have HE2:=hid hE2;have ST2:=hid st2;have HL2:=hid hlt2;have rr2:=Zae hE2.blk wD (Fr.refl nob wD);clear hE1 st1 st1' hwD hs1 hE2 st2 hlt2;by_cases hd:49≤c.toNat∧c.toNat≤57
   ·rw[if_pos hd]at hR;obtain⟨hd1,hd2⟩:=hd;have hd1I:(49:Int)≤c.toNat:=by omega
    have hd2I:(c.toNat:Int)≤57:=by omega
    obtain⟨n,hn⟩:∃n,c.toNat-48=n:=⟨_,rfl⟩;rw[hn]at hR;have hnI:((n:Nat):Int)=(c.toNat:Int)-48:=by omega
    have hw32:IntKind.i32.wrap ((c.toNat:Int)-48)=(c.toNat:Int)-48:=IntWalk.i32_in _ (by omega);have hw64:IntKind.i64.wrap ((c.toNat:Int)-48)=(c.toNat:Int)-48:=IntWalk.i64_in _ (by omega);have hlk:=ZfA (P:=Tryz.prog) (mty:=280) (kt:=3) (et:=3) Tryz.underlying280 Tryz.underlying3 (fun w=>by kernel_rfl) HE2.out.mp n;rw[show(s1.go 2).r.closed=s.r.closed from hcl1,hnI]at hlk;cases hq:s.r.closed.contains n with
    |true=>
     rw[if_pos hq]at hR;subst hR;have hc0:¬((s.r.closed.count n:Nat):Int)=0:=by
      have:0<s.r.closed.count n:=List.count_pos_iff.2 (by simpa using hq);omega
     obtain⟨k,hk⟩:∃k,s.r.closed.count n=k:=⟨_,rfl⟩;rw[hk]at hlk hc0;have HN:=hid hnI;clear hq hk hn hnI hd1 hd2;go_wp2_with(with_reducible rw[←HD.out]);go_ret;refine⟨.iface 143 (.agg #[.int .i64 ((c.toNat:Int)-48)]),S1,rfl,?_,⟨_,_,_,HE2.out⟩,ST2.out⟩;rw[←HN.out,RN]
    |false=>
     rw[if_neg (by rw[hq];decide)]at hR;subst hR;have hc0:s.r.closed.count n=0:=List.count_eq_zero.2 (by simpa using hq);rw[hc0]at hlk;have hf:=Za4 b l (s1.go 2) S1 9 s.r.at_ wD hl (by decide) ⟨_,_,_,HE2.out⟩;have HF:=hid hf;clear hf;have HN:=hid hnI;clear hq hc0 hn hnI hd1 hd2;go_wp2_with(with_reducible rw[←HD.out]);with_reducible refine HF.out.mono ?_
     rintro e w5 ⟨rfl,e5,t5⟩;have E5:=hid e5;have T5:=hid (ST2.out.trans t5);clear e5 t5;go_wp2;go_ret;refine⟨.iface 143 (.agg #[.int .i64 ((c.toNat:Int)-48)]),S1,rfl,?_,E5.out,T5.out⟩;rw[←HN.out,RN]
   ·rw[if_neg hd]at hR;have hd':(c.toNat:Int)<49∨((49:Int)≤c.toNat∧¬(c.toNat:Int)≤57):=by omega
    have hSE:=ZpE c wD;have hR2:∃u ok,ZkK c=(u,ok)∧((ok=true∧(Nd.one u,s1.go 2)=R)∨(ok=false∧(Nd.one u,(s1.go 2).fail l 2 s.r.at_)=R)):=by
     unfold ZkK;cases hb:ZjI c with
     |none=>rw[hb]at hR;exact⟨_,false,rfl,.inr ⟨rfl,hR⟩⟩
     |some q=>obtain⟨u,x⟩:=q;rw[hb]at hR;exact⟨u,true,rfl,.inl ⟨rfl,hR⟩⟩
    obtain⟨u,ok,hu,hR3⟩:=hR2;rw[hu]at hSE;have HSE:=hid hSE;clear hSE hR hu hd;have hS1:∀(w3:World),Fr nob wD w3→¬S1 w3.heap.size:=fun w3 f hk=>by have:=HL2.out _ hk;have:=f.size;omega
    have HS1:=hid hS1;clear hS1;rcases hR3 with⟨rfl,rfl⟩|⟨rfl,rfl⟩
    ·rcases hd' with hd'|⟨hd1,hd2⟩
     all_goals
      go_wp2_with(with_reducible rw[←HD.out]);with_reducible refine HSE.out.mono ?_
      rintro e w3 ⟨rfl,f3⟩;go_wp2;go_ret;exact⟨.iface 134 (.agg #[.int .u64 u.a,.int .u64 u.b,.int .u64 u.c,.int .u64 u.d]),S1,rfl,by rw[RN];rfl,⟨_,_,_,HE2.out.on (f3.alloc _)⟩,ST2.out.trans (Stp.of (f3.alloc _))⟩
    ·rcases hd' with hd'|⟨hd1,hd2⟩
     all_goals
      go_wp2_with(with_reducible rw[←HD.out]);with_reducible refine HSE.out.mono ?_
      rintro e w3 ⟨rfl,f3⟩;obtain⟨w4,hw4⟩:∃w4,w4=w3.alloc (.cells #[.int .u64 u.a,.int .u64 u.b,.int .u64 u.c,.int .u64 u.d] 132):=⟨_,rfl⟩;have f4:Fr nob wD w4:=by rw[hw4];exact f3.alloc _
      have hq4:w4.heap[w3.heap.size]? =some (.cells #[.int .u64 u.a,.int .u64 u.b,.int .u64 u.c,.int .u64 u.d] 132 (0,0)):=by rw[hw4];exact newAt0 w3 _
      have hf:=Za4 b l (s1.go 2) S1 2 s.r.at_ w4 hl (by decide) ⟨_,_,_,HE2.out.on f4⟩;have hnS:=HS1.out w3 f3;have HF:=hid hf;have H4:=hid hw4;have F4:=hid f4;have HQ4:=hid hq4;clear hf hw4 f4 hq4 f3 rr2;go_wp2_with(with_reducible rw[←H4.out]);with_reducible refine HF.out.mono ?_
      rintro e w5 ⟨rfl,e5,t5⟩;have hq5:=Zl (t5.fr.heap HQ4.out hnS) w5 (Fr.refl nob w5);have E5:=hid e5;have T5:=hid ((ST2.out.trans (Stp.of F4.out)).trans t5);clear e5 t5;go_wp2;go_ret;exact⟨.iface 134 (.agg #[.int .u64 u.a,.int .u64 u.b,.int .u64 u.c,.int .u64 u.d]),S1,rfl,by rw[RN];rfl,E5.out,T5.out⟩
def ZqX(b:Nat)(l:List UInt8)(S O:Nat→Prop)(w:World)(F:Nd×ES)(n:Nat)(v:Value)(wr:World):Prop:=
 ∃s t S',RN (SO S' O) wr t v∧Erd b l s S' wr∧Stp S w S' wr∧l.length<n+s.r.at_∧Sane l s.r∧(t≠.nil∨l[s.r.at_]? =none)∧ZbR l n s t=F
section
variable {l:List UInt8} {n:Nat} {s:ES} {t:Nd}
theorem Zn7(h:l[s.r.at_]? =some 42):ZbR l (n+1) s t=ZbR l n (s.go 1) (.rep t 0 (-1)):=by rw[ZbR,if_pos h]
theorem Zn8(h:l[s.r.at_]? =some 43):ZbR l (n+1) s t=ZbR l n (s.go 1) (.rep t 1 (-1)):=by rw[ZbR,if_neg (by rw[h];decide),if_pos h]
theorem Zn9(h:l[s.r.at_]? =some 63):ZbR l (n+1) s t=ZbR l n (s.go 1) (.rep t 0 1):=by rw[ZbR,if_neg (by rw[h];decide),if_neg (by rw[h];decide),if_pos h]
theorem Zmp(h:l[s.r.at_]? =some 123):ZbR l (n+1) s t=if(Zd8 l (s.go 1)).2.2.1 then ZbR l n (Zd8 l (s.go 1)).2.2.2 (.rep t (Zd8 l (s.go 1)).1 (Zd8 l (s.go 1)).2.1)else(t,(Zd8 l (s.go 1)).2.2.2.fail l 7 s.r.at_):=by
 rw[ZbR,if_neg (by rw[h];decide),if_neg (by rw[h];decide),if_neg (by rw[h];decide),if_pos h]
theorem Zmq(h1:¬l[s.r.at_]? =some 42)(h2:¬l[s.r.at_]? =some 43)(h3:¬l[s.r.at_]? =some 63)(h4:¬l[s.r.at_]? =some 123):ZbR l (n+1) s t=(t,s):=by
 rw[ZbR,if_neg h1,if_neg h2,if_neg h3,if_neg h4]
end
theorem Zeb(b:Nat)(l:List UInt8)(s:ES)(t:Nd)(v:Value)(S O:Nat→Prop)(w:World)(hl:l.length≤100000)(hs:Sane l s.r)(hnil:t≠.nil∨l[s.r.at_]? =none)(hv:RN (SO S O) w t v)(h:Erd b l s S w):
 Calls Tryz.prog 226 #[.pointer (some ⟨b,0,none⟩),v] w (Zmo b l S O w (ZbR l (l.length+1) s t)):=by
 obtain⟨F,hF⟩:∃F,ZbR l (l.length+1) s t=F:=⟨_,rfl⟩;rw[hF];have HF:=hid hF;have HV:=hid hv;have HH:=hid h;have HS:=hid hs;clear hF hv h hs;go_enter Tryz.func226,Tryz.ntmps226;go_wp2_with fail
 go_loopg [1] (l.length+1) (fun n u wr=>ZqX b l S O w F n u wr)
 case atStart=>exact⟨s,t,S,HV.out,HH.out,Stp.refl _ _,by omega,HS.out,hnil,HF.out⟩
 case round=>
  clear HF HV HH HS hnil;clear s t;obtain⟨s,t,S1,hv,hr,hst,hn,hs,hnil,hF⟩:=hrel;have hle:=hs.le;obtain⟨m,rfl⟩:∃m,gk=m+1:=⟨gk-1,by omega⟩;have hN:=Zea b l s S1 wr hl hle hr;obtain⟨sv,mm,mv,hE⟩:=hr;have rr0:=Zae hE.blk;have HV:=hid hv;have HE:=hid hE;have HST:=hid hst;have HF:=hid hF;have HS:=hid hs;have HN:=hid hN;clear hv hE hst hF hs hN;by_cases h42:l[s.r.at_]? =some 42
  ·obtain⟨vi,vy,rfl⟩:=HV.out.some (hnil.resolve_right (by rw[h42];simp));clear hnil;have hlt:=ZK h42;have hF:=HF.out;rw[Zn7 h42]at hF;have HF2:=hid hF;have n0:=(rnX_test l[s.r.at_]? 42 42 rfl).trans (decide_eq_true h42);obtain⟨R,hR⟩:∃R,rnX l[s.r.at_]? =R:=⟨_,rfl⟩;rw[hR]at HN n0;clear hF HF hR;go_wp2_with fail;with_reducible refine HN.out.mono ?_
   rintro e w1 ⟨rfl,f1⟩;have h1:=HE.out.on f1;have rr:=Zae h1.blk _ (Fr.refl _ _);have H1:=hid h1;have F1:=hid f1;clear h1 f1 rr0;go_wp2;go_roundg m
   case measure=>omega
   case rel=>
    have hs5:=H1.out.stp 2 (.int .i64 ((s.r.at_:Int)+1));refine⟨s.go 1,.rep t 0 (-1),S1,(((Stp.of F1.out).trans hs5).rn HV.out).rep _ _,⟨_,_,_,H1.out.turned 2 _ _ (by simp[RxS.go,ES.go]) rfl rfl H1.out.ok⟩,(HST.out.trans (Stp.of F1.out)).trans hs5,?_,?_,?_,HF2.out⟩
    ·show l.length<m+(s.r.at_+1);omega
    ·exact HS.out.goE hlt
    ·exact .inl (by intro h;cases h)
  ·by_cases h43:l[s.r.at_]? =some 43
   ·obtain⟨vi,vy,rfl⟩:=HV.out.some (hnil.resolve_right (by rw[h43];simp));clear hnil;have hlt:=ZK h43;have hF:=HF.out;rw[Zn8 h43]at hF;have HF2:=hid hF;have n0:=(rnX_test l[s.r.at_]? 42 42 rfl).trans (decide_eq_false h42);have n1:=(rnX_test l[s.r.at_]? 43 43 rfl).trans (decide_eq_true h43);obtain⟨R,hR⟩:∃R,rnX l[s.r.at_]? =R:=⟨_,rfl⟩;rw[hR]at HN n0 n1;clear hF HF hR;go_wp2_with fail;with_reducible refine HN.out.mono ?_
    rintro e w1 ⟨rfl,f1⟩;have h1:=HE.out.on f1;have rr:=Zae h1.blk _ (Fr.refl _ _);have H1:=hid h1;have F1:=hid f1;clear h1 f1 rr0;go_wp2;go_roundg m
    case measure=>omega
    case rel=>
     have hs5:=H1.out.stp 2 (.int .i64 ((s.r.at_:Int)+1));refine⟨s.go 1,.rep t 1 (-1),S1,(((Stp.of F1.out).trans hs5).rn HV.out).rep _ _,⟨_,_,_,H1.out.turned 2 _ _ (by simp[RxS.go,ES.go]) rfl rfl H1.out.ok⟩,(HST.out.trans (Stp.of F1.out)).trans hs5,?_,?_,?_,HF2.out⟩
     ·show l.length<m+(s.r.at_+1);omega
     ·exact HS.out.goE hlt
     ·exact .inl (by intro h;cases h)
   ·by_cases h63:l[s.r.at_]? =some 63
    ·obtain⟨vi,vy,rfl⟩:=HV.out.some (hnil.resolve_right (by rw[h63];simp));clear hnil;have hlt:=ZK h63;have hF:=HF.out;rw[Zn9 h63]at hF;have HF2:=hid hF;have n0:=(rnX_test l[s.r.at_]? 42 42 rfl).trans (decide_eq_false h42);have n1:=(rnX_test l[s.r.at_]? 43 43 rfl).trans (decide_eq_false h43);have n2:=(rnX_test l[s.r.at_]? 63 63 rfl).trans (decide_eq_true h63);obtain⟨R,hR⟩:∃R,rnX l[s.r.at_]? =R:=⟨_,rfl⟩;rw[hR]at HN n0 n1 n2;clear hF HF hR;go_wp2_with fail;with_reducible refine HN.out.mono ?_
     rintro e w1 ⟨rfl,f1⟩;have h1:=HE.out.on f1;have rr:=Zae h1.blk _ (Fr.refl _ _);have H1:=hid h1;have F1:=hid f1;clear h1 f1 rr0;go_wp2;go_roundg m
     case measure=>omega
     case rel=>
      have hs5:=H1.out.stp 2 (.int .i64 ((s.r.at_:Int)+1));refine⟨s.go 1,.rep t 0 1,S1,(((Stp.of F1.out).trans hs5).rn HV.out).rep _ _,⟨_,_,_,H1.out.turned 2 _ _ (by simp[RxS.go,ES.go]) rfl rfl H1.out.ok⟩,(HST.out.trans (Stp.of F1.out)).trans hs5,?_,?_,?_,HF2.out⟩
      ·show l.length<m+(s.r.at_+1);omega
      ·exact HS.out.goE hlt
      ·exact .inl (by intro h;cases h)
    ·by_cases h123:l[s.r.at_]? =some 123
     ·obtain⟨vi,vy,rfl⟩:=HV.out.some (hnil.resolve_right (by rw[h123];simp));clear hnil;have hlt:=ZK h123;have hF:=HF.out;rw[Zmp h123]at hF;have n0:=(rnX_test l[s.r.at_]? 42 42 rfl).trans (decide_eq_false h42);have n1:=(rnX_test l[s.r.at_]? 43 43 rfl).trans (decide_eq_false h43);have n2:=(rnX_test l[s.r.at_]? 63 63 rfl).trans (decide_eq_false h63);have n3:=(rnX_test l[s.r.at_]? 123 123 rfl).trans (decide_eq_true h123);obtain⟨R,hR⟩:∃R,rnX l[s.r.at_]? =R:=⟨_,rfl⟩;rw[hR]at HN n0 n1 n2 n3;have h2:=HE.out;clear HF hR;go_wp2_with fail;with_reducible refine HN.out.mono ?_
      rintro e w1 ⟨rfl,f1⟩;have h1:=HE.out.on f1;have rr:=Zae h1.blk _ (Fr.refl _ _);have hs5:=h1.stp 2 (.int .i64 ((s.r.at_:Int)+1));have h5:=h1.turned 2 (.int .i64 ((s.r.at_:Int)+1)) (s.go 1) (by simp[RxS.go,ES.go]) rfl rfl h1.ok;obtain⟨w2,hw2⟩:∃w2,w2=w1.setCell ⟨b,2,none⟩ (.int .i64 ((s.r.at_:Int)+1)):=⟨_,rfl⟩;rw[←hw2]at hs5 h5;have hI:=Zhs b l (s.go 1) S1 w2 hl hlt ⟨_,_,_,h5⟩;have hK:=Zf8 (l:=l) (s:=s.go 1) (HS.out.goE hlt);obtain⟨mn,mx,ok,s2,hq⟩:∃mn mx ok s2,Zd8 l (s.go 1)=(mn,mx,ok,s2):=⟨_,_,_,_,rfl⟩;rw[hq]at hI hF hK;simp only at hI hF hK;obtain⟨k1,k2,k3⟩:=hK;have k2:s.r.at_+1≤s2.r.at_:=k2;have HI:=hid hI;have HF2:=hid hF;have H2:=hid hw2;have T2:=hid ((Stp.of f1).trans hs5);have K1:=hid k1;clear hI hF hw2 hs5 h1 h5 f1 rr0 h2 k1 k3 hq;go_wp2_with(with_reducible rw[←H2.out]);with_reducible refine HI.out.mono ?_
      rintro e w3 ⟨rfl,e3,t3⟩;have T3:=hid (T2.out.trans t3);have E3:=hid e3;have kle:=K1.out.le;clear t3 e3;cases ok with
      |true=>
       have hF:=HF2.out;rw[if_pos rfl]at hF;have HF3:=hid hF;obtain⟨sv3,m3,mv3,e3⟩:=E3.out;have rr3:=Zae e3.blk _ (Fr.refl _ _);have hs6:=e3.stp 2 (.int .i64 ((s2.r.at_:Int)-1));have h6:=e3.turned 2 (.int .i64 ((s2.r.at_:Int)-1)) (s2.to (s2.r.at_-1)) (by simp[RxS.to,ES.to];omega) rfl rfl e3.ok;have hs7:=h6.stp 2 (.int .i64 (s2.r.at_:Int));have h7:=h6.turned 2 (.int .i64 (s2.r.at_:Int)) s2 (by simp[RxS.to,ES.to]) rfl rfl e3.ok;have rr6:=Zae h6.blk _ (Fr.refl _ _);rw[show(((s2.to (s2.r.at_-1)).r.at_:Nat):Int)=(s2.r.at_:Int)-1 from by show(((s2.r.at_-1:Nat)):Int)=_;omega]at rr6;have hadd:IntKind.i64.wrap ((s2.r.at_:Int)-1+1)=s2.r.at_:=by rw[IntWalk.i64_in _ (by omega)];omega
       have hsub:IntKind.i64.wrap ((s2.r.at_:Int)-1)=(s2.r.at_:Int)-1:=IntWalk.i64_in _ (by omega);have H7:=hid h7;have T7:=hid ((T3.out.trans hs6).trans hs7);clear hF HF2 e3 hs6 h6 hs7 h7 rr;go_wp2;go_roundg m
       case measure=>omega
       case rel=>
        refine⟨s2,.rep t mn mx,S1,(T7.out.rn HV.out).rep _ _,⟨_,_,_,H7.out⟩,HST.out.trans T7.out,?_,K1.out,.inl (by intro h;cases h),HF3.out⟩;omega
      |false=>
       have hF:=HF2.out;rw[if_neg (by decide)]at hF;subst hF;have hf:=Za4 b l s2 S1 7 s.r.at_ w3 hl (by decide) E3.out;have HFL:=hid hf;clear HF2 hf rr;go_wp2_with fail;with_reducible refine HFL.out.mono ?_
       rintro e w4 ⟨rfl,e4,t4⟩;have E4:=hid e4;have T4:=hid (T3.out.trans t4);clear e4 t4;go_wp2;go_ret;exact⟨_,S1,rfl,T4.out.rn HV.out,E4.out,HST.out.trans T4.out⟩
     ·have hF:=HF.out;rw[Zmq h42 h43 h63 h123]at hF;subst hF;have n0:=(rnX_test l[s.r.at_]? 42 42 rfl).trans (decide_eq_false h42);have n1:=(rnX_test l[s.r.at_]? 43 43 rfl).trans (decide_eq_false h43);have n2:=(rnX_test l[s.r.at_]? 63 63 rfl).trans (decide_eq_false h63);have n3:=(rnX_test l[s.r.at_]? 123 123 rfl).trans (decide_eq_false h123);obtain⟨R,hR⟩:∃R,rnX l[s.r.at_]? =R:=⟨_,rfl⟩;rw[hR]at HN n0 n1 n2 n3;clear HF hR;go_wp2_with fail;with_reducible refine HN.out.mono ?_
      rintro e w1 ⟨rfl,f1⟩;have F1:=hid f1;clear f1 rr0;go_wp2;go_ret;exact⟨_,S1,rfl,(Stp.of F1.out).rn HV.out,⟨_,_,_,HE.out.on F1.out⟩,HST.out.trans (Stp.of F1.out)⟩
def ChX(l:List UInt8)(W0:World)(deep:Nat)(f:ES→Nd×ES):Prop:=
 ∀b s S (O:Nat→Prop) w,(∀k,O k→k<w.heap.size)→Sane l s.r→Wd W0 S w→Erd b l s S w→Calls Tryz.prog 202 #[.pointer (some ⟨b,0,none⟩),.int .i64 deep] w (Zmo b l S O w (f s))
def GrX(l:List UInt8)(W0:World)(deep:Nat)(C:Option (ES→Nd×ES)):Prop:=
 ∀b s S (O:Nat→Prop) w,(∀k,O k→k<w.heap.size)→Sane l s.r→s.r.at_<l.length→Wd W0 S w→Erd b l s S w→Calls Tryz.prog 252 #[.pointer (some ⟨b,0,none⟩),.int .i64 deep] w (Zmo b l S O w (ZbA l C s))
theorem Er.close{b:Nat}{l:List UInt8}{s:ES}{S:Nat→Prop}{sv:Value}{m:Nat}{mv:Value}{w w':World}{n:Nat}(h:Er b l s S sv m mv w)(hm:IMap w' m (s.r.closed++[n]))(f:Fr (fun k=>k=m) w w'):
 Er b l ⟨{s.r with closed:=s.r.closed++[n]},s.x⟩ S sv m mv w':=
 ⟨f.heap h.blk (fun e=>h.bm e),ownsRow_fr h.sg f (fun k hk e=>(h.ns k hk).2 (e▸h.mm)),hm,ownsRow_fr h.ma f (fun k hk e=>(h.nm k hk).2.1 e),h.nm,h.bm,h.ns,h.me,h.mm,h.ok⟩
theorem Er.closeStp{b:Nat}{l:List UInt8}{s:ES}{S:Nat→Prop}{sv:Value}{m:Nat}{mv:Value}{w w':World}(h:Er b l s S sv m mv w)(f:Fr (fun k=>k=m) w w'):Stp S w S w':=
 ⟨f.mono (fun k _ e=>e▸h.mm),fun _ _ x=>x,fun hl k hk=>Nat.lt_of_lt_of_le (hl k hk) f.size⟩
theorem Zfn(b:Nat)(l:List UInt8)(s:ES)(S O:Nat→Prop)(w:World)(hl:l.length≤100000)(h:Erd b l s S w):
 Calls Tryz.prog 252 #[.pointer (some ⟨b,0,none⟩),.int .i64 12] w (Zmo b l S O w (ZbA l none s)):=by
 have hf:=Za4 b l s S 4 s.r.at_ w hl (by decide) h;obtain⟨sv,m,mv,h⟩:=h;have rr:=Zae h.blk w (Fr.refl nob w);have HF:=hid hf;clear hf h;go_enter Tryz.func252,Tryz.ntmps252;go_wp2_with fail;with_reducible refine HF.out.mono ?_
 rintro e w1 ⟨rfl,e1,t1⟩;have E1:=hid e1;have T1:=hid t1;clear e1 t1;go_wp2;go_ret;exact⟨.nilIface,S,rfl,by show RN _ _ .nil _;rw[RN],E1.out,T1.out⟩
theorem Zmr(b:Nat)(l:List UInt8)(W0:World)(deep:Nat)(f:ES→Nd×ES)(s:ES)(S O:Nat→Prop)(w:World)(hO:∀k,O k→k<w.heap.size)(hl:l.length≤100000)(hd:deep<12)(hC:ChX l W0 (deep+1) f)(hK:∀s,Sane l s.r→Kp l s (f s) 2)
 (hs:Sane l s.r) (hlt:s.r.at_<l.length) (hW:Wd W0 S w) (h:Erd b l s S w):
 Calls Tryz.prog 252 #[.pointer (some ⟨b,0,none⟩),.int .i64 deep] w (Zmo b l S O w (ZbA l (some f) s)):=by
 obtain⟨sv,m,mv,hE⟩:=h;have hsg:=ZeG hs hlt;have r0:=Zae hE.blk _ (Fr.refl _ _);have h1:=hE.turned 2 (.int .i64 ((s.r.at_:Int)+1)) (s.go 1) (by simp[RxS.go,ES.go]) rfl rfl hE.ok;have t1:=hE.stp 2 (.int .i64 ((s.r.at_:Int)+1));have h2:=h1.turned 3 (.int .i64 ((s.r.opened:Int)+1)) (ZdB s) (by simp[RxS.go,ES.go,ZdB]) rfl rfl hE.ok;have t2:=h1.stp 3 (.int .i64 ((s.r.opened:Int)+1));have r1:=Zae h1.blk _ (Fr.refl _ _);have r2:=Zae h2.blk _ (Fr.refl _ _);have hat1:(((s.go 1).r.opened:Nat):Int)=s.r.opened:=rfl;have hop2:(((ZdB s).r.opened:Nat):Int)=(s.r.opened:Int)+1:=rfl;rw[hat1]at r1;rw[hop2]at r2;have hop:=hs.op;have hle:=hs.le;obtain⟨w1,hw1⟩:∃w1,w1=(w.setCell ⟨b,2,none⟩ (.int .i64 ((s.r.at_:Int)+1))).setCell ⟨b,3,none⟩ (.int .i64 ((s.r.opened:Int)+1)):=⟨_,rfl⟩;rw[←hw1]at h2 t2 r2;have hsz:w1.heap.size=w.heap.size:=by rw[hw1];simp[World.setCell]
 have T2:=hid (t1.trans t2);have hc:=hC b (ZdB s) S O w1 (by rw[hsz];exact hO) hsg (hW.stp T2.out) ⟨_,_,_,h2⟩;have hk:=hK (ZdB s) hsg;obtain⟨t,s2,hq⟩:∃t s2,f (ZdB s)=(t,s2):=⟨_,_,rfl⟩;have hR:ZbA l (some f) s=(.group ((s.r.opened+1:Nat):Int) t,Zcu l (s.r.opened+1) s.r.at_ s2):=by unfold ZbA;simp only[hq]
 obtain⟨R,hRR⟩:∃R,ZbA l (some f) s=R:=⟨_,rfl⟩;rw[hRR];rw[hR]at hRR;have HRR:=hid hRR;clear hRR;rw[hq]at hc hk;rw[show((deep+1:Nat):Int)=(deep:Int)+1 from by simp]at hc;have HC:=hid hc;have HK:=hid hk;have HW1:=hid hw1;have hdd:((deep:Int)==12)=false:=by simp;omega
 have hdI:(deep:Int)<12:=by omega
 clear hR hq hc hk hw1 h2 h1 t1 t2 hE hsg hC hK hd hO hat1 hop2 hW;go_enter Tryz.func252,Tryz.ntmps252;go_wp2_with(rw[←HW1.out]);with_reducible refine(HC.out).mono ?_
 rintro e w2 ⟨v2,S2,rfl,rn2,e2,st2⟩;have hs2:Sane l s2.r:=HK.out.sn;have hle2:=hs2.le;have hT:Calls Tryz.prog 214 #[.pointer (some ⟨b,0,none⟩),.int .i32 41] w2 fun x w'=>x=.returned (.bool (decide (l[s2.r.at_]? =some 41)))∧Erd b l (if l[s2.r.at_]? =some 41 then s2.go 1 else s2) S2 w'∧Stp S2 w2 S2 w':=Zfm b l 41 s2 S2 w2 hl hle2 e2;have RN2:=hid rn2;have ST2:=hid (T2.out.trans st2);obtain⟨n,hn⟩:∃n,s.r.opened+1=n:=⟨_,rfl⟩;have hnI:(s.r.opened:Int)+1=(n:Nat):=by omega
 have hRR:=HRR.out;rw[hn]at hRR;have hcl2:=hs2.cl;have key:∀(s3:ES) (w3:World),s3.r.closed=s2.r.closed→Erd b l s3 S2 w3→Stp S2 w2 S2 w3→
  ∃(m3:Nat) (w4:World),(∃v0 v1 v2' v3 v5 v6 v7,w3.cell? ⟨b,0,none⟩=some v0∧w3.cell? ⟨b,1,none⟩=some v1∧w3.cell? ⟨b,2,none⟩=some v2'∧w3.cell? ⟨b,3,none⟩=some v3∧w3.cell? ⟨b,4,none⟩=some (.map (some m3))∧w3.cell? ⟨b,5,none⟩=some v5∧w3.cell? ⟨b,6,none⟩=some v6∧w3.cell? ⟨b,7,none⟩=some v7)∧
  (Instr.lookup 280 (.map (some m3)) (.int .i64 (n:Nat)) false).run Tryz.prog w3=.ok (.int .i64 (s2.r.closed.count n:Nat)) w3∧
  (Instr.mapUpdate 280 (.map (some m3)) (.int .i64 (n:Nat)) (.int .i64 ((s2.r.closed.count n:Nat)+1))).run Tryz.prog w3=.ok () w4∧
  Erd b l ⟨{s3.r with closed:=s3.r.closed++[n]},s3.x⟩ S2 w4∧Stp S2 w2 S2 w4:=by
  rintro s3 w3 hc3 ⟨sv3,m3,mv3,h3⟩ t3;have hmp:=h3.mp;rw[hc3]at hmp;obtain⟨w4,hu1,hu2,hu3⟩:=ZgX (P:=Tryz.prog) (mty:=280) (kt:=3) (et:=3) Tryz.underlying280 Tryz.underlying3 hmp n;obtain⟨⟨a0,a1,a2,a3,a4,a5,a6,a7⟩,_⟩:=Zae h3.blk _ (Fr.refl _ _);refine⟨m3,w4,⟨_,_,_,_,_,_,_,a0,a1,a2,a3,a4,a5,a6,a7⟩,ZfA (P:=Tryz.prog) (mty:=280) (kt:=3) (et:=3) Tryz.underlying280 Tryz.underlying3 (fun w=>by kernel_rfl) hmp n,hu1,⟨_,_,_,h3.close (by rw[hc3];exact hu2) hu3⟩,t3.trans (h3.closeStp hu3)⟩
 have hcnt:s2.r.closed.count n≤s2.r.closed.length:=List.count_le_length;obtain⟨k,hk⟩:∃k,s2.r.closed.count n=k:=⟨_,rfl⟩;rw[hk]at key hcnt;have hkI:(k:Int)≤100000:=by omega
 have HNI:=hid hnI;clear hnI hn;have KEY:=hid key;have HS2:=hid e2;have hv2:v2=.nilIface∨∃i y,v2=.iface i y:=by
  rcases rn2.kind' with ht|h
  ·left;have ht:t=.nil:=ht;rw[ht,RN]at rn2;exact rn2
  ·exact .inr h
 clear HRR key rn2 st2 hk hcnt r0 r1 r2 e2;by_cases hA:l[s2.r.at_]? =some 41
 ·rw[decide_eq_true hA,if_pos hA]at hT;have hgo:Zcu l n s.r.at_ s2=⟨{(s2.go 1).r with closed:=(s2.go 1).r.closed++[n]},(s2.go 1).x⟩:=by unfold Zcu;rw[if_pos hA]
  rw[hgo]at hRR;subst hRR;have HT:=hid hT;clear hT hA hgo;go_wp2_with fail;with_reducible refine HT.out.mono ?_
  rintro e w3 ⟨rfl,e3,t3⟩;obtain⟨m3,w4,⟨v0,v1,v2',v3,v5,v6,v7,a0,a1,a2,a3,a4,a5,a6,a7⟩,hlk,hup,e4,t4⟩:=KEY.out (s2.go 1) w3 rfl e3 t3;have E4:=hid e4;have T4:=hid t4;clear e4 t4 e3 t3;rw[←HNI.out]at hlk hup;rcases hv2 with rfl|⟨vi,vy,rfl⟩
  ·go_wp2;go_ret;refine⟨.iface 141 (.agg #[.int .i64 ((s.r.opened:Int)+1),.nilIface]),S2,rfl,?_,E4.out,ST2.out.trans T4.out⟩;rw[HNI.out];exact(T4.out.rn RN2.out).grp _
  ·go_wp2;go_ret;refine⟨.iface 141 (.agg #[.int .i64 ((s.r.opened:Int)+1),.iface vi vy]),S2,rfl,?_,E4.out,ST2.out.trans T4.out⟩;rw[HNI.out];exact(T4.out.rn RN2.out).grp _
 ·rw[decide_eq_false hA,if_neg hA]at hT;have hgo:Zcu l n s.r.at_ s2=⟨{(s2.fail l 8 s.r.at_).r with closed:=(s2.fail l 8 s.r.at_).r.closed++[n]},(s2.fail l 8 s.r.at_).x⟩:=by unfold Zcu;rw[if_neg hA]
  rw[hgo]at hRR;subst hRR;have HT:=hid hT;clear hT hA hgo;go_wp2_with fail;with_reducible refine HT.out.mono ?_
  rintro e w3 ⟨rfl,e3,t3⟩;have hf:=Za4 b l s2 S2 8 s.r.at_ w3 hl (by decide) e3;have HF:=hid hf;have T3:=hid t3;clear hf e3 t3;go_wp2_with fail;with_reducible refine HF.out.mono ?_
  rintro e w5 ⟨rfl,e5,t5⟩;obtain⟨m3,w4,⟨v0,v1,v2',v3,v5,v6,v7,a0,a1,a2,a3,a4,a5,a6,a7⟩,hlk,hup,e4,t4⟩:=KEY.out (s2.fail l 8 s.r.at_) w5 rfl e5 (T3.out.trans t5);have E4:=hid e4;have T4:=hid t4;clear e4 t4 e5 t5;rw[←HNI.out]at hlk hup;rcases hv2 with rfl|⟨vi,vy,rfl⟩
  ·go_wp2;go_ret;refine⟨.iface 141 (.agg #[.int .i64 ((s.r.opened:Int)+1),.nilIface]),S2,rfl,?_,E4.out,ST2.out.trans T4.out⟩;rw[HNI.out];exact(T4.out.rn RN2.out).grp _
  ·go_wp2;go_ret;refine⟨.iface 141 (.agg #[.int .i64 ((s.r.opened:Int)+1),.iface vi vy]),S2,rfl,?_,E4.out,ST2.out.trans T4.out⟩;rw[HNI.out];exact(T4.out.rn RN2.out).grp _
abbrev Zqa(w:World)(b:Nat)(v0 v1:Value):Prop:=w.cell? ⟨b,0,none⟩=some v0∧w.cell? ⟨b,2,none⟩=some v1
theorem cc02_on{w w':World}{b:Nat}{v0 v1:Value}(h:Zqa w b v0 v1)(f:Fr nob w w'):Zqa w' b v0 v1:=⟨f.cell h.1 (fun x=>x),f.cell h.2 (fun x=>x)⟩
theorem ZkN(b:Nat)(l:List UInt8)(W0:World)(deep:Nat)(C:Option (ES→Nd×ES))(s:ES)(S O:Nat→Prop)(w:World)(c:UInt8)(hO:∀k,O k→k<w.heap.size)(hl:l.length≤100000)(hE0:Env W0)(hG:GrX l W0 deep C)
 (hs:Sane l s.r) (hx:l[s.r.at_]? =some c) (hW:Wd W0 S w) (h:Erd b l s S w):
 Calls Tryz.prog 227 #[.pointer (some ⟨b,0,none⟩),.int .i64 deep] w (Zmo b l S O w (Zax l C s c)):=by
 obtain⟨R,hR⟩:∃R,Zax l C s c=R:=⟨_,rfl⟩;rw[hR];have hlt:=ZK hx;have hN:=Zea b l s S w hl hs.le h;rw[hx]at hN;have hN:Calls Tryz.prog 223 #[.pointer (some ⟨b,0,none⟩)] w fun x w'=>x=.returned (.int .i32 (c.toNat:Int))∧Fr nob w w':=hN;have hGR:=fun w' (f:Fr nob w w')=>hG b s S O w' (fun k hk=>Nat.lt_of_lt_of_le (hO k hk) f.size) hs hlt (hW.stp (Stp.of f)) (h.on f);have hES:=fun w' (f:Fr nob w w')=>ZkM b l s S O w' hl hlt hs (fun k hk=>Nat.lt_of_lt_of_le (hW.lt k hk) f.size) (h.on f);have HGR:=hid hGR;have HES:=hid hES;have HH:=hid h;obtain⟨sv,m,mv,hE⟩:=h;have HE:=hid hE;have HW:=hid hW;have HN:=hid hN;have hcb:=c.toNat_lt;clear hGR hES hG hE hW hO hN hx hs;go_enter Tryz.func227,Tryz.ntmps227;go_wp2_with fail;with_reducible refine HN.out.mono ?_
 rintro e wC ⟨rfl,fC⟩;have hBC:=HE.out.on fC;obtain⟨⟨k0,_,k2,_⟩,j0,_,j2,_⟩:=Zae hBC.blk _ (Fr.refl _ _);have HBC:=hid hBC;have FC:=hid fC;clear hBC fC;unfold Zax at hR;by_cases h40:c=40
 ·rw[if_pos h40]at hR;have t1:((c.toNat:Int)==40)=true:=Zcy (b:=40) h40;have HQ:=hid (HGR.out wC FC.out);rw[hR]at HQ;clear h40 hR k0 k2 j0 j2;go_wp2_with fail;with_reducible refine(HQ.out).mono ?_
  rintro e w2 ⟨v2,S2,rfl,rn2,r2,st2⟩;have RN2:=hid rn2;have R2:=hid r2;have ST2:=hid ((Stp.of FC.out).trans st2);clear rn2 r2 st2;go_wp2;go_ret;exact⟨_,S2,rfl,RN2.out,R2.out,ST2.out⟩
 ·rw[if_neg h40]at hR;have t1:((c.toNat:Int)==40)=false:=Zn (b:=40) h40;by_cases h41:c=41
  ·rw[if_pos h41]at hR;have t2:((c.toNat:Int)==41)=true:=Zcy (b:=41) h41;have hf:=Za4 b l s S 8 s.r.at_ wC hl (by decide) (HH.out.on FC.out);have HF:=hid hf;subst hR;clear h40 h41 hf;go_wp2_with fail;with_reducible refine(HF.out).mono ?_
   rintro e w2 ⟨rfl,e2,t2'⟩;have E2:=hid e2;have T2:=hid ((Stp.of FC.out).trans t2');clear e2 t2';go_wp2;go_ret;exact⟨.nilIface,S,rfl,by rw[RN],E2.out,T2.out⟩
  ·rw[if_neg h41]at hR;have t2:((c.toNat:Int)==41)=false:=Zn (b:=41) h41;by_cases h92:c=92
   ·rw[if_pos h92]at hR;have t3:((c.toNat:Int)==92)=true:=Zcy (b:=92) h92;have HQ:=hid (HES.out wC FC.out);rw[hR]at HQ;clear h40 h41 h92 hR k0 k2 j0 j2;go_wp2_with fail;with_reducible refine(HQ.out).mono ?_
    rintro e w2 ⟨v2,S2,rfl,rn2,r2,st2⟩;have RN2:=hid rn2;have R2:=hid r2;have ST2:=hid ((Stp.of FC.out).trans st2);clear rn2 r2 st2;go_wp2;go_ret;exact⟨_,S2,rfl,RN2.out,R2.out,ST2.out⟩
   ·rw[if_neg h92]at hR;have t3:((c.toNat:Int)==92)=false:=Zn (b:=92) h92;by_cases h91:c=91
    ·rw[if_pos h91]at hR;have t4:((c.toNat:Int)==91)=true:=Zcy (b:=91) h91;have hEnv:∀w',Fr nob wC w'→Env w':=fun w' f=>hE0.on ((HW.out.fr.trans' FC.out).trans' f);have hP:=fun w' (f:Fr nob wC w')=>ZfL l ((s.r.at_:Int)+1) w' hl (hEnv w' f);rw[show((s.r.at_:Int)+1)=((s.r.at_+1:Nat):Int)from by simp,Zkd (by omega)]at hP;rw[show((s.r.at_+1:Nat):Int)=(s.r.at_:Int)+1 from by simp]at hP;have hw:IntKind.i64.wrap ((s.r.at_:Int)+1)=s.r.at_+1:=IntWalk.i64_in _ (by omega);have hcc:Zqa wC b (.string ⟨l.toArray⟩) (.int .i64 s.r.at_):=⟨k0,k2⟩;have HC:=hid hcc;obtain⟨P,hPP⟩:∃P,prs l (s.r.at_+1)=P:=⟨_,rfl⟩;rw[hPP]at hP hR;obtain⟨u,k,e0,hv,hcase⟩:∃(u:S4) (k:Nat) (e0:Int),Zp8 P=.tuple #[ZcR u,.int .i64 k,.int .i64 e0]∧((e0≠0∧R=(.nil,s.fail l e0 k))∨(e0=0∧R=(.one u,s.to k))):=by
      cases P with
      |inl z=>obtain⟨z1,z2⟩:=z;exact⟨S4.zero,z2,z1,rfl,.inl ⟨prs_err hPP,hR.symm⟩⟩
      |inr q=>obtain⟨u,k⟩:=q;exact⟨u,k,0,rfl,.inr ⟨rfl,hR.symm⟩⟩
     rw[hv]at hP;have HP:=hid hP;have HCS:=hid hcase;have rzA:=Zl (show(wC.alloc (.cells #[.int .u64 0,.int .u64 0,.int .u64 0,.int .u64 0] 132)).heap[wC.heap.size]? =some (.cells #[.int .u64 0,.int .u64 0,.int .u64 0,.int .u64 0] 132)from newAt0 wC _);have RZA:=hid rzA;have hSC:∀k,wC.heap.size≤k→¬S k:=fun k hk h=>by have:=HW.out.lt k h;have:=FC.out.size;omega
     have HSC:=hid hSC;clear hP hEnv k0 k2 j0 j2 h91 h92 h41 h40 hcc hPP rzA hv hcase hR hSC;go_wp2_with fail
     go_region_held3 (fun w'=>Zqa w' b (.string ⟨l.toArray⟩) (.int .i64 s.r.at_)) (first|(with_reducible exact HC.out)|(with_reducible exact cc02_on HC.out ((Fr.refl nob wC).drew))|(with_reducible exact cc02_on HC.out (((Fr.refl nob wC).alloc _).drew))|(with_reducible exact cc02_on HC.out (((Fr.refl nob wC).drew).alloc _))|(with_reducible exact cc02_on HC.out G1)|(with_reducible exact cc02_on HC.out (G1.drew))|(with_reducible exact cc02_on HC.out (G1.alloc _))|(with_reducible exact cc02_on HC.out (setFour_frS G1 (Nat.le_refl _) _ _ _ _))|(with_reducible exact cc02_on HC.out (setFour_frS (G1.alloc _) G1.size _ _ _ _))|(trace_state;fail)) (first|(go_at_call 254;(first|((with_reducible refine(HP.out _ ((Fr.refl nob wC).drew)).mono ?_);rintro e g1 ⟨rfl,f1⟩;have G1:Fr nob wC g1:=((Fr.refl nob wC).drew).trans' f1;have hz:=newAt0 g1 (.cells #[.int .u64 0,.int .u64 0,.int .u64 0,.int .u64 0] 132);have HZ:=hid hz;have rz:=Zl hz _ (Fr.refl nob _))|((with_reducible refine(HP.out _ (((Fr.refl nob wC).alloc _).drew)).mono ?_);rintro e g1 ⟨rfl,f1⟩;have G1:Fr nob wC g1:=(((Fr.refl nob wC).alloc _).drew).trans' f1;have hz:=(((Fr.refl nob _).drew).trans' f1).heap (newAt0 wC (.cells #[.int .u64 0,.int .u64 0,.int .u64 0,.int .u64 0] 132)) (fun x=>x);have HZ:=hid hz;have rz:=RZA.out g1 (((Fr.refl nob _).drew).trans' f1)));clear f1 hz))
     ·obtain⟨wf,hwf⟩:∃wf,wf=g1.alloc (.cells #[.int .u64 u.a,.int .u64 u.b,.int .u64 u.c,.int .u64 u.d] 132):=⟨_,rfl⟩;have hset:At4 wf g1.heap.size u:=by rw[hwf];exact newAt0 g1 _
      have hfr:Fr nob wC wf:=by rw[hwf];exact G1.alloc _
      rw[←hwf];have HF:=hid hfr;have HSET:=hid hset;have hge:wC.heap.size≤g1.heap.size:=G1.size;clear hwf hfr hset rz;have hBf:=HBC.out.on HF.out;have hbl:=lt_heap HBC.out.blk;have hnb:g1.heap.size≠b:=by omega
      obtain⟨⟨_,_,n1,_⟩,_,_,n2,_⟩:=Zae hBf.blk _ (Fr.refl _ _);have hnS:=HSC.out g1.heap.size hge;have HBf:=hid hBf;clear hBf;rcases HCS.out with⟨hne,hR⟩|⟨hne,hR⟩
      ·subst hR;have hz':((e0:Int) !=0)=true:=by simpa using hne
       have hf:=Za4 b l s S e0 k wf hl hne ⟨_,_,_,HBf.out⟩;have HFL:=hid hf;clear hf n1 n2;go_wp2_with fail;with_reducible refine(HFL.out).mono ?_
       rintro e w2 ⟨rfl,e2,t2'⟩;have E2:=hid e2;have T2:=hid (((Stp.of FC.out).trans (Stp.of HF.out)).trans t2');clear e2 t2';go_wp2;go_ret;exact⟨.nilIface,S,rfl,by rw[RN],E2.out,T2.out⟩
      ·subst hR;subst hne;have hq6:Q4 (wf.setCell ⟨b,2,none⟩ (.int .i64 (k:Nat))) (g1.heap.size) u:=by
        have g:=(Fr.refl (fun i=>i=b) wf).setCell (p:=⟨b,2,none⟩) (fun _=>rfl) (.int .i64 (k:Nat));have q:=Q4.of HSET.out;exact⟨g.cell q.1 hnb,g.cell q.2.1 hnb,g.cell q.2.2.1 hnb,g.cell q.2.2.2 hnb⟩
       go_wp2;go_ret;exact⟨_,S,rfl,by rw[RN];rfl,⟨_,_,_,HBf.out.turned 2 _ (s.to k) (by simp[RxS.to,ES.to]) rfl rfl HBf.out.ok⟩,((Stp.of FC.out).trans (Stp.of HF.out)).trans (HBf.out.stp 2 _)⟩
     ·obtain⟨wf,hwf⟩:∃wf,wf=((((g1.setCell ⟨wC.heap.size,0,none⟩ (.int .u64 u.a)).setCell ⟨wC.heap.size,1,none⟩ (.int .u64 u.b)).setCell ⟨wC.heap.size,2,none⟩ (.int .u64 u.c)).setCell ⟨wC.heap.size,3,none⟩ (.int .u64 u.d)):=⟨_,rfl⟩;have hset:At4 wf wC.heap.size u:=by rw[hwf];with_reducible exact setFour_heap HZ.out _ _ _ _
      have hfr:Fr nob wC wf:=by rw[hwf];exact setFour_frS (G1) (Nat.le_refl _) _ _ _ _
      rw[←hwf];have HF:=hid hfr;have HSET:=hid hset;have hge:wC.heap.size≤wC.heap.size:=Nat.le_refl _;clear hwf hfr hset rz;have hBf:=HBC.out.on HF.out;have hbl:=lt_heap HBC.out.blk;have hnb:wC.heap.size≠b:=by omega
      obtain⟨⟨_,_,n1,_⟩,_,_,n2,_⟩:=Zae hBf.blk _ (Fr.refl _ _);have hnS:=HSC.out wC.heap.size hge;have HBf:=hid hBf;clear hBf;rcases HCS.out with⟨hne,hR⟩|⟨hne,hR⟩
      ·subst hR;have hz':((e0:Int) !=0)=true:=by simpa using hne
       have hf:=Za4 b l s S e0 k wf hl hne ⟨_,_,_,HBf.out⟩;have HFL:=hid hf;clear hf n1 n2;go_wp2_with fail;with_reducible refine(HFL.out).mono ?_
       rintro e w2 ⟨rfl,e2,t2'⟩;have E2:=hid e2;have T2:=hid (((Stp.of FC.out).trans (Stp.of HF.out)).trans t2');clear e2 t2';go_wp2;go_ret;exact⟨.nilIface,S,rfl,by rw[RN],E2.out,T2.out⟩
      ·subst hR;subst hne;have hq6:Q4 (wf.setCell ⟨b,2,none⟩ (.int .i64 (k:Nat))) (wC.heap.size) u:=by
        have g:=(Fr.refl (fun i=>i=b) wf).setCell (p:=⟨b,2,none⟩) (fun _=>rfl) (.int .i64 (k:Nat));have q:=Q4.of HSET.out;exact⟨g.cell q.1 hnb,g.cell q.2.1 hnb,g.cell q.2.2.1 hnb,g.cell q.2.2.2 hnb⟩
       go_wp2;go_ret;exact⟨_,S,rfl,by rw[RN];rfl,⟨_,_,_,HBf.out.turned 2 _ (s.to k) (by simp[RxS.to,ES.to]) rfl rfl HBf.out.ok⟩,((Stp.of FC.out).trans (Stp.of HF.out)).trans (HBf.out.stp 2 _)⟩
    ·rw[if_neg h91]at hR;have t4:((c.toNat:Int)==91)=false:=Zn (b:=91) h91;obtain⟨w1,hw1⟩:∃w1,w1=wC.setCell ⟨b,2,none⟩ (.int .i64 ((s.r.at_:Int)+1)):=⟨_,rfl⟩;have hB1:Er b l (s.go 1) S sv m mv w1:=by rw[hw1];exact HBC.out.turned 2 _ (s.go 1) (by simp[RxS.go,ES.go]) rfl rfl HBC.out.ok
     have hS1:Stp S w S w1:=by rw[hw1];exact(Stp.of FC.out).trans (HBC.out.stp 2 _)
     have hsz:w1.heap.size=wC.heap.size:=by rw[hw1];simp[World.setCell]
     have HW1:=hid hw1;have HB1:=hid hB1;have HS1:=hid hS1;clear hw1 hB1 hS1 h92 h91 h41 h40;by_cases h46:c=46
     ·rw[if_pos h46]at hR;have t5:((c.toNat:Int)==46)=true:=Zcy (b:=46) h46;have hsp:=Ze7 0 255 w1 (by decide) (by decide);rw[show((0:Nat):Int)=0 from rfl,show((255:Nat):Int)=255 from rfl]at hsp;obtain⟨u,hu⟩:∃u,spn 0 255=u:=⟨_,rfl⟩;rw[hu]at hsp hR;subst hR;have HSP:=hid hsp;clear h46 hsp hu;go_wp2_with(rw[←HW1.out]);with_reducible refine(HSP.out).mono ?_
      rintro e w2 ⟨rfl,f2⟩;have F2:=hid f2;clear f2;go_wp2;go_ret;exact⟨_,S,rfl,by rw[RN];rfl,⟨_,_,_,HB1.out.on F2.out⟩,HS1.out.trans (Stp.of F2.out)⟩
     ·rw[if_neg h46]at hR;have t5:((c.toNat:Int)==46)=false:=Zn (b:=46) h46;have hw8:IntKind.u8.wrap (c.toNat:Int)=c.toNat:=IntWalk.u8_in _ (by omega);have ho:=Zb6 c w1 5;obtain⟨u,hu⟩:∃u,spn c.toNat c.toNat=u:=⟨_,rfl⟩;rw[hu,hsz]at ho;rw[hu]at hR;subst hR;have HO:=hid ho;clear h46 ho hu;go_wp2_with(rw[←HW1.out]);with_reducible refine(HO.out).mono ?_
      rintro e w2 ⟨rfl,f2⟩;have F2:=hid (((Fr.refl nob w1).alloc _).trans' f2);clear f2;go_wp2;go_ret;exact⟨_,S,rfl,by rw[RN];rfl,⟨_,_,_,HB1.out.on F2.out⟩,HS1.out.trans (Stp.of F2.out)⟩
end Go.Proofs.YtkfddjopbocpkaaGreatDoor
