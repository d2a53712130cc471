/- Lemmas of this claim. -/
import Derived.Test.YtkfddjopbocpkaaGreatDoorM13
set_option linter.unusedVariables false
set_option linter.unusedSimpArgs false
set_option maxRecDepth 100000
set_option maxHeartbeats 4000000
namespace Go.Proofs.YtkfddjopbocpkaaGreatDoor
open Go.Lib (hid)
open Go.RowKit
theorem Zge(b:UInt8)(hb:b.toNat<128):Utf8.encode (b.toNat:Int)=⟨#[b]⟩:=by
 have hv:Utf8.valid (b.toNat:Int)=true:=by unfold Utf8.valid;simp;omega
 unfold Utf8.encode;simp only[hv,if_true,Int.toNat_natCast];rw[if_pos hb];simp
theorem Zca{P:Program}{w:World}(f:Value→ByteArray→Sem (ForInStep ByteArray))(hf:∀(n:Int) (r:ByteArray),(f (.int .i32 n) r).run P w=.ok (.yield (r++Utf8.encode n)) w):
 ∀(bs:List UInt8) (s:ByteArray),(∀b∈bs,b.toNat<128)→(forIn (Zbk bs) s f).run P w=.ok ⟨s.data++bs.toArray⟩ w
 |[],s,_=>by
  have:(⟨s.data++ #[]⟩:ByteArray)=s:=by apply ByteArray.ext;simp
  simp[Zbk,Sem.run_pure,this]
 |b::bs,s,h=>by
  simp only[Zbk,List.map_cons,List.forIn_cons,Sem.run_bind,hf,Result.andThen];rw[Zge b (h b (by simp))];have:=Zca f hf bs (s++⟨#[b]⟩) (fun x hx=>h x (by simp[hx]));rw[show(forIn (List.map (fun c:UInt8=>Value.int .i32 (c.toNat:Int)) bs) (s++⟨#[b]⟩) f)=forIn (Zbk bs) (s++⟨#[b]⟩) f from rfl,this]
  congr 1
  apply ByteArray.ext;simp
theorem Zer{P:Program}{src dst e:TypeId}(hs:P.underlying src=some (.slice e))(he:P.underlying e=some (.int .i32))(hd:P.underlying dst=some .string)(a:Addr)(cap:Nat)(bs:List UInt8)(hb:∀b∈bs,b.toNat<128)(W:World)
 (hc:∀j v,(Zbk bs)[j]? =some v→W.cell? (a.add j)=some v):
 (convert src dst (.slice (some a) bs.length cap)).run P W=.ok (.string ⟨bs.toArray⟩) W:=by
 have hl:=run_loadCells_list (P:=P) W a (Zbk bs) hc;rw[show(Zbk bs).length=bs.length from by simp[Zbk]]at hl;rw[show(convert src dst (.slice (some a) bs.length cap)).run P W=(Conv.runesToString (.slice (some a) bs.length cap)).run P W from by simp[convert,run_underlying hs,run_underlying hd,run_underlying he]];unfold Conv.runesToString;simp only[Sem.run_bind,hl,Result.andThen,List.forIn_toArray];rw[Zca _ (by intro n r;simp[Sem.run_pure]) bs _ hb];simp[Sem.run_pure]
theorem run_conv_runes2(c:UInt8)(hc:c.toNat<128)(g:Nat)(W:World){T:TypeId}(hb:W.heap[g]? =some (.cells #[.int .i32 92,.int .i32 (c.toNat:Int)] T (0,0))):
 (convert 278 9 (.slice (some ⟨g,0,none⟩) 2 2)).run Tryz.prog W=.ok (.string ⟨#[92,c]⟩) W:=by
 refine Zer Tryz.underlying278 Tryz.underlying21 Tryz.underlying9 _ 2 [92,c] (by intro b h;simp at h;rcases h with rfl|rfl;decide;exact hc) W ?_;intro j v hj
 match j,hj with
 |0,hj=>simp[Zbk]at hj;subst hj;exact cell_at hb rfl
 |1,hj=>simp[Zbk]at hj;subst hj;exact cell_at hb rfl
section
variable {b:Nat} {l:List UInt8} {s:ES} {S:Nat→Prop} {sv:Value} {m:Nat} {mv v':Value} {w W0 w3:World}
theorem Er.pushM(h:Er b l s S sv m mv w)(f:Fr nob w W0)(hap:Appd 1 mv v' W0 w3){t:List UInt8}
 (hown:w3.ownsRow 0 55 2 v' (s.r.marks.length+1) (mkC s.r.marks++[.int .i64 s.r.at_,.string ⟨t.toArray⟩])):
 (w3.cell? ⟨b,5,none⟩=some mv∧w3.frozen? ⟨b,5,none⟩=false)∧Erd b l (s.mark t) (Zf0 S v') (w3.setCell ⟨b,5,none⟩ v')∧Stp S w (Zf0 S v') (w3.setCell ⟨b,5,none⟩ v'):=by
 have h0:=h.on f;have c:=hap.fr.heap h0.blk (fun e=>(h.nm b e).1 rfl);have n:=f.size;have hb:=lt_heap h.blk;have hm:=h.mp.lt;have d:=(Fr.refl (fun k=>k=b) w3).setCell (p:=⟨b,5,none⟩) (fun _=>rfl) v';have a:∀k,v'.ownBlock=some k→(k≠b∧k≠m)∧∀j,sv.ownBlock=some j→k≠j:=fun k e=>by
  rcases hap.old k e with h1|h1
  ·obtain⟨n1,n2,n3⟩:=h.nm k h1;exact⟨⟨n1,n2⟩,fun j hj e=>(h.ns j hj).2 (e▸n3)⟩
  ·exact⟨⟨by omega,by omega⟩,fun j hj e=>by have:=(h.ns j hj).1;omega⟩
 have i:=ownsRow_fr h0.sg hap.fr (fun k hk e=>(h.ns k hk).2 (h.nm k e).2.2);have g:=h0.mp.fr hap.fr (fun e=>(h.nm m e).2.1 rfl);refine⟨⟨cell_at c rfl,unfrozen_at c 5⟩,⟨sv,m,v',by have:=Za c 5 v';simpa[RxS.mark,ES.mark]using this,ownsRow_fr i d (fun k hk e=>(h.ns k hk).2 (e▸h.me)),g.fr d (fun e=>h.bm e.symm),?_,fun k hk=>⟨(a k hk).1.1,(a k hk).1.2,.inr hk⟩,h.bm,fun k hk=>⟨(h.ns k hk).1,fun x=>x.elim (h.ns k hk).2 (fun y=>(a k y).2 k hk rfl)⟩,.inl h.me,.inl h.mm,h.ok⟩,?_,?_,?_⟩
 ·have:=ownsRow_fr hown d (fun k hk e=>(a k hk).1.1 e);unfold OwM;simp only[ES.mark,RxS.mark,List.length_append,List.length_singleton,Zch];exact this
 ·exact(f.any.trans (hap.fr.mono (T:=S) fun k _ hk=>(h.nm k hk).2.2) (fun _ _ x=>x)).setCell (p:=⟨b,5,none⟩) (fun _=>h.me) v'
 ·intro k hk hx;rcases hx with hx|hx
  ·exact hx
  ·rcases hap.old k hx with h1|h1
   ·exact(h.nm k h1).2.2
   ·omega
 ·intro hl k hk;have hz:(w3.setCell ⟨b,5,none⟩ v').heap.size=w3.heap.size:=by simp[World.setCell]
  rw[hz];rcases hk with hk|hk
  ·have:=hl k hk;have:=hap.fr.size;omega
  ·exact own_lt hown k hk
end
def Zmo(b:Nat)(l:List UInt8)(S O:Nat→Prop)(w:World)(q:Nd×ES)(x:Ending)(w':World):Prop:=
 ∃v S',x=.returned v∧RN (SO S' O) w' q.1 v∧Erd b l q.2 S' w'∧Stp S w S' w'
theorem ZeH{c:UInt8}(h:ZdK c=true):c=116∨c=119∨c=87∨c=115∨c=83∨c=49∨c=50∨c=51∨c=52∨c=53∨c=54∨c=55∨c=56∨c=57:=by
 unfold ZdK at h;simp only[Bool.or_eq_true,beq_iff_eq,Bool.and_eq_true,decide_eq_true_eq]at h;rcases h with h|h|h|h|h|⟨h1,h2⟩
 ·simp[h]
 ·simp[h]
 ·simp[h]
 ·simp[h]
 ·simp[h]
 ·have:∀n:Nat,49≤n→n≤57→n=49∨n=50∨n=51∨n=52∨n=53∨n=54∨n=55∨n=56∨n=57:=fun n _ _=>by omega
  have a:∀d:UInt8,c.toNat=d.toNat→c=d:=fun d e=>UInt8.toNat_inj.1 e;rcases this c.toNat h1 h2 with e|e|e|e|e|e|e|e|e
  ·have:=a 49 e;simp[this]
  ·have:=a 50 e;simp[this]
  ·have:=a 51 e;simp[this]
  ·have:=a 52 e;simp[this]
  ·have:=a 53 e;simp[this]
  ·have:=a 54 e;simp[this]
  ·have:=a 55 e;simp[this]
  ·have:=a 56 e;simp[this]
  ·have:=a 57 e;simp[this]
theorem ZkM(b:Nat)(l:List UInt8)(s:ES)(S O:Nat→Prop)(w:World)(hl:l.length≤100000)(ha:s.r.at_<l.length)(hs:Sane l s.r)(hlt:∀k,S k→k<w.heap.size)(h:Erd b l s S w):
 Calls Tryz.prog 253 #[.pointer (some ⟨b,0,none⟩)] w (Zmo b l S O w (ZkG l s)):=by
 obtain⟨R,hR⟩:∃R,ZkG l s=R:=⟨_,rfl⟩;rw[hR];have j:=fun w' (f:Fr nob w w')=>Zgc b l s S 1 w' hl (by omega) (by omega) (h.on f);have HH:=hid h;obtain⟨sv,m,mv,hE⟩:=h;have rr:=Zae hE.blk;have HE:=hid hE;have b9:=hid hlt;have HS:=hid hs;unfold ZkG at hR;cases hc:l[s.r.at_+1]? with
 |none=>
  rw[hc]at hR j;simp only at hR;subst hR;have HB:=hid j;clear hE hlt hs j hc;go_enter Tryz.func253,Tryz.ntmps253;go_wp2_with fail;refine region_fr 6 (by kernel_rfl) (by kernel_rfl) ?_;simp only[List.take_succ_cons,List.take_zero,List.drop_succ_cons,List.drop_zero]
  repeat(quiet_step ((with_reducible exact calls_fr (HB.out _ (grown_fr _ _ _)))))
  refine wpQuiet_nil ?_;intro w1 f1;have hf:=Za4 b l s S 11 s.r.at_ w1 hl (by decide) (HH.out.on f1);have HF:=hid hf;have F1:=hid f1;clear hf f1;go_wp2_with fail;refine HF.out.mono ?_;rintro e w2 ⟨rfl,e2,t2⟩;have E2:=hid e2;have T2:=hid t2;clear e2 t2;go_wp2;go_ret;exact⟨.nilIface,S,rfl,by rw[RN],E2.out,(Stp.of F1.out).trans T2.out⟩
 |some c=>
  rw[hc]at hR j;simp only at hR;have c3:=ZK hc;have HB:=hid j;clear hE hlt j hc;go_enter Tryz.func253,Tryz.ntmps253;go_wp2_with fail;refine region_fr 6 (by kernel_rfl) (by kernel_rfl) ?_;simp only[List.take_succ_cons,List.take_zero,List.drop_succ_cons,List.drop_zero]
  repeat(quiet_step ((with_reducible exact calls_fr (HB.out _ (grown_fr _ _ _)))))
  refine wpQuiet_nil ?_;intro w1 f1;have d3:=c.toNat_lt;have d4:¬(c.toNat:Int)= -1:=by omega
  have g:=HE.out.on f1;have F1:=hid f1;have y:=hid g;clear f1 g rr;simp only[rnX];go_upto_block 0 with(fail)
  go_cut [] (fun w'=>∃S',Erd b l (if ZdK c then s.mark [92,c]else s) S' w'∧Stp S w1 S' w')
  case first=>
   go_upto_if 20 with(fail)
   go_cut [20] (fun v w'=>v=.bool (ZdK c)∧w1=w')
   case first=>
    cases hm:ZdK c with
    |true=>
     have G:=ZeH hm;have HM:=hid hm;clear hm;rcases G with h|h|h|h|h|h|h|h|h|h|h|h|h|h
     ·have n0:((c.toNat:Int)==116)=true:=by rw[h];rfl
      clear h;go_wp2;go_meet
      case rel=>exact⟨by rw[HM.out];rw[n0],rfl⟩
     ·have n0:((c.toNat:Int)==116)=false:=by rw[h];rfl
      have n1:((c.toNat:Int)==119)=true:=by rw[h];rfl
      clear h;go_wp2;go_meet
      case rel=>exact⟨by rw[HM.out],rfl⟩
     ·have n0:((c.toNat:Int)==116)=false:=by rw[h];rfl
      have n1:((c.toNat:Int)==119)=false:=by rw[h];rfl
      have n2:((c.toNat:Int)==87)=true:=by rw[h];rfl
      clear h;go_wp2;go_meet
      case rel=>exact⟨by rw[HM.out],rfl⟩
     ·have n0:((c.toNat:Int)==116)=false:=by rw[h];rfl
      have n1:((c.toNat:Int)==119)=false:=by rw[h];rfl
      have n2:((c.toNat:Int)==87)=false:=by rw[h];rfl
      have n3:((c.toNat:Int)==115)=true:=by rw[h];rfl
      clear h;go_wp2;go_meet
      case rel=>exact⟨by rw[HM.out],rfl⟩
     ·have n0:((c.toNat:Int)==116)=false:=by rw[h];rfl
      have n1:((c.toNat:Int)==119)=false:=by rw[h];rfl
      have n2:((c.toNat:Int)==87)=false:=by rw[h];rfl
      have n3:((c.toNat:Int)==115)=false:=by rw[h];rfl
      have n4:((c.toNat:Int)==83)=true:=by rw[h];rfl
      clear h;go_wp2;go_meet
      case rel=>exact⟨by rw[HM.out],rfl⟩
     ·have n0:((c.toNat:Int)==116)=false:=by rw[h];rfl
      have n1:((c.toNat:Int)==119)=false:=by rw[h];rfl
      have n2:((c.toNat:Int)==87)=false:=by rw[h];rfl
      have n3:((c.toNat:Int)==115)=false:=by rw[h];rfl
      have n4:((c.toNat:Int)==83)=false:=by rw[h];rfl
      have n5:((c.toNat:Int)==49)=true:=by rw[h];rfl
      clear h;go_wp2;go_meet
      case rel=>exact⟨by rw[HM.out],rfl⟩
     ·have n0:((c.toNat:Int)==116)=false:=by rw[h];rfl
      have n1:((c.toNat:Int)==119)=false:=by rw[h];rfl
      have n2:((c.toNat:Int)==87)=false:=by rw[h];rfl
      have n3:((c.toNat:Int)==115)=false:=by rw[h];rfl
      have n4:((c.toNat:Int)==83)=false:=by rw[h];rfl
      have n5:((c.toNat:Int)==49)=false:=by rw[h];rfl
      have n6:((c.toNat:Int)==50)=true:=by rw[h];rfl
      clear h;go_wp2;go_meet
      case rel=>exact⟨by rw[HM.out],rfl⟩
     ·have n0:((c.toNat:Int)==116)=false:=by rw[h];rfl
      have n1:((c.toNat:Int)==119)=false:=by rw[h];rfl
      have n2:((c.toNat:Int)==87)=false:=by rw[h];rfl
      have n3:((c.toNat:Int)==115)=false:=by rw[h];rfl
      have n4:((c.toNat:Int)==83)=false:=by rw[h];rfl
      have n5:((c.toNat:Int)==49)=false:=by rw[h];rfl
      have n6:((c.toNat:Int)==50)=false:=by rw[h];rfl
      have n7:((c.toNat:Int)==51)=true:=by rw[h];rfl
      clear h;go_wp2;go_meet
      case rel=>exact⟨by rw[HM.out],rfl⟩
     ·have n0:((c.toNat:Int)==116)=false:=by rw[h];rfl
      have n1:((c.toNat:Int)==119)=false:=by rw[h];rfl
      have n2:((c.toNat:Int)==87)=false:=by rw[h];rfl
      have n3:((c.toNat:Int)==115)=false:=by rw[h];rfl
      have n4:((c.toNat:Int)==83)=false:=by rw[h];rfl
      have n5:((c.toNat:Int)==49)=false:=by rw[h];rfl
      have n6:((c.toNat:Int)==50)=false:=by rw[h];rfl
      have n7:((c.toNat:Int)==51)=false:=by rw[h];rfl
      have n8:((c.toNat:Int)==52)=true:=by rw[h];rfl
      clear h;go_wp2;go_meet
      case rel=>exact⟨by rw[HM.out],rfl⟩
     ·have n0:((c.toNat:Int)==116)=false:=by rw[h];rfl
      have n1:((c.toNat:Int)==119)=false:=by rw[h];rfl
      have n2:((c.toNat:Int)==87)=false:=by rw[h];rfl
      have n3:((c.toNat:Int)==115)=false:=by rw[h];rfl
      have n4:((c.toNat:Int)==83)=false:=by rw[h];rfl
      have n5:((c.toNat:Int)==49)=false:=by rw[h];rfl
      have n6:((c.toNat:Int)==50)=false:=by rw[h];rfl
      have n7:((c.toNat:Int)==51)=false:=by rw[h];rfl
      have n8:((c.toNat:Int)==52)=false:=by rw[h];rfl
      have n9:((c.toNat:Int)==53)=true:=by rw[h];rfl
      clear h;go_wp2;go_meet
      case rel=>exact⟨by rw[HM.out],rfl⟩
     ·have n0:((c.toNat:Int)==116)=false:=by rw[h];rfl
      have n1:((c.toNat:Int)==119)=false:=by rw[h];rfl
      have n2:((c.toNat:Int)==87)=false:=by rw[h];rfl
      have n3:((c.toNat:Int)==115)=false:=by rw[h];rfl
      have n4:((c.toNat:Int)==83)=false:=by rw[h];rfl
      have n5:((c.toNat:Int)==49)=false:=by rw[h];rfl
      have n6:((c.toNat:Int)==50)=false:=by rw[h];rfl
      have n7:((c.toNat:Int)==51)=false:=by rw[h];rfl
      have n8:((c.toNat:Int)==52)=false:=by rw[h];rfl
      have n9:((c.toNat:Int)==53)=false:=by rw[h];rfl
      have J:((c.toNat:Int)==54)=true:=by rw[h];rfl
      clear h;go_wp2;go_meet
      case rel=>exact⟨by rw[HM.out],rfl⟩
     ·have n0:((c.toNat:Int)==116)=false:=by rw[h];rfl
      have n1:((c.toNat:Int)==119)=false:=by rw[h];rfl
      have n2:((c.toNat:Int)==87)=false:=by rw[h];rfl
      have n3:((c.toNat:Int)==115)=false:=by rw[h];rfl
      have n4:((c.toNat:Int)==83)=false:=by rw[h];rfl
      have n5:((c.toNat:Int)==49)=false:=by rw[h];rfl
      have n6:((c.toNat:Int)==50)=false:=by rw[h];rfl
      have n7:((c.toNat:Int)==51)=false:=by rw[h];rfl
      have n8:((c.toNat:Int)==52)=false:=by rw[h];rfl
      have n9:((c.toNat:Int)==53)=false:=by rw[h];rfl
      have J:((c.toNat:Int)==54)=false:=by rw[h];rfl
      have Z:((c.toNat:Int)==55)=true:=by rw[h];rfl
      clear h;go_wp2;go_meet
      case rel=>exact⟨by rw[HM.out],rfl⟩
     ·have n0:((c.toNat:Int)==116)=false:=by rw[h];rfl
      have n1:((c.toNat:Int)==119)=false:=by rw[h];rfl
      have n2:((c.toNat:Int)==87)=false:=by rw[h];rfl
      have n3:((c.toNat:Int)==115)=false:=by rw[h];rfl
      have n4:((c.toNat:Int)==83)=false:=by rw[h];rfl
      have n5:((c.toNat:Int)==49)=false:=by rw[h];rfl
      have n6:((c.toNat:Int)==50)=false:=by rw[h];rfl
      have n7:((c.toNat:Int)==51)=false:=by rw[h];rfl
      have n8:((c.toNat:Int)==52)=false:=by rw[h];rfl
      have n9:((c.toNat:Int)==53)=false:=by rw[h];rfl
      have J:((c.toNat:Int)==54)=false:=by rw[h];rfl
      have Z:((c.toNat:Int)==55)=false:=by rw[h];rfl
      have a4:((c.toNat:Int)==56)=true:=by rw[h];rfl
      clear h;go_wp2;go_meet
      case rel=>exact⟨by rw[HM.out],rfl⟩
     ·have n0:((c.toNat:Int)==116)=false:=by rw[h];rfl
      have n1:((c.toNat:Int)==119)=false:=by rw[h];rfl
      have n2:((c.toNat:Int)==87)=false:=by rw[h];rfl
      have n3:((c.toNat:Int)==115)=false:=by rw[h];rfl
      have n4:((c.toNat:Int)==83)=false:=by rw[h];rfl
      have n5:((c.toNat:Int)==49)=false:=by rw[h];rfl
      have n6:((c.toNat:Int)==50)=false:=by rw[h];rfl
      have n7:((c.toNat:Int)==51)=false:=by rw[h];rfl
      have n8:((c.toNat:Int)==52)=false:=by rw[h];rfl
      have n9:((c.toNat:Int)==53)=false:=by rw[h];rfl
      have J:((c.toNat:Int)==54)=false:=by rw[h];rfl
      have Z:((c.toNat:Int)==55)=false:=by rw[h];rfl
      have a4:((c.toNat:Int)==56)=false:=by rw[h];rfl
      have b1:((c.toNat:Int)==57)=true:=by rw[h];rfl
      clear h;go_wp2;go_meet
      case rel=>exact⟨by rw[HM.out],rfl⟩
    |false=>
     have n:∀d:UInt8,ZdK d=true→((c.toNat:Int)==d.toNat)=false:=fun d hd=>Zn fun e=>by rw[e,hd]at hm;cases hm
     have n0:((c.toNat:Int)==116)=false:=n 116 rfl;have n1:((c.toNat:Int)==119)=false:=n 119 rfl;have n2:((c.toNat:Int)==87)=false:=n 87 rfl;have n3:((c.toNat:Int)==115)=false:=n 115 rfl;have n4:((c.toNat:Int)==83)=false:=n 83 rfl;have n5:((c.toNat:Int)==49)=false:=n 49 rfl;have n6:((c.toNat:Int)==50)=false:=n 50 rfl;have n7:((c.toNat:Int)==51)=false:=n 51 rfl;have n8:((c.toNat:Int)==52)=false:=n 52 rfl;have n9:((c.toNat:Int)==53)=false:=n 53 rfl;have J:((c.toNat:Int)==54)=false:=n 54 rfl;have Z:((c.toNat:Int)==55)=false:=n 55 rfl;have a4:((c.toNat:Int)==56)=false:=n 56 rfl;have b1:((c.toNat:Int)==57)=false:=n 57 rfl;have HM:=hid hm;clear n hm;go_wp2;go_meet
     case rel=>exact⟨by rw[HM.out],rfl⟩
   case rest=>
    obtain⟨rfl,rfl⟩:=hcut;cases hm:ZdK c with
    |true=>
     have U:=Zae y.out.blk;obtain⟨am,cm,c0⟩:=Zb y.out.ma;subst c0;obtain⟨i0,hi,c1,b8,b0⟩:=info_parts Zbv;have G:=ZeH hm;have p:c.toNat<128:=by rcases G with rfl|rfl|rfl|rfl|rfl|rfl|rfl|rfl|rfl|rfl|rfl|rfl|rfl|rfl<;>decide
     have o:∀W:World,W.heap[w1.heap.size]? =some (.cells #[.int .i32 92,.int .i32 (c.toNat:Int)] 21 (0,0))→(convert 278 9 (.slice (some ⟨w1.heap.size,0,none⟩) 2 2)).run Tryz.prog W=.ok (.string ⟨#[92,c]⟩) W:=fun W hW=>run_conv_runes2 c p _ W hW;have c8:=o (w1.alloc (.cells #[.int .i32 92,.int .i32 (c.toNat:Int)] 21)).drew (newAt0 w1 _);have c7:=o (w1.drew.alloc (.cells #[.int .i32 92,.int .i32 (c.toNat:Int)] 21)) (newAt0 w1.drew _);have r5:∀W,Fr nob w1 W→W.cell? ⟨b,5,none⟩=some (.slice am s.r.marks.length cm):=fun W f=>(U W f).1.2.2.2.2.2.1;have d0:∀X,(w1.alloc X).cell? ⟨b,5,none⟩=some (.slice am s.r.marks.length cm):=fun X=>r5 _ ((Fr.refl nob w1).alloc X);have d7:∀X Y,((w1.alloc X).alloc Y).cell? ⟨b,5,none⟩=some (.slice am s.r.marks.length cm):=fun X Y=>r5 _ (((Fr.refl nob w1).alloc X).alloc Y);have d6:=hs.mr;have HM:=hid hm;clear o p hm G;go_wp2_with fail
     go_region_law (refine step_append_g rfl (.tmp 39) (.tmp 45) 36 rfl 55 i0 (.agg #[.int .i64 0,.string ByteArray.empty]) 2 24 Tryz.underlying36 hi c1 b8 b0 rfl (by decide) (.slice am s.r.marks.length cm) s.r.marks.length (mkC s.r.marks) (by rfl) (ownsRow_fr y.out.ma (by repeat(first|exact Fr.refl _ _|apply Fr.alloc|apply Fr.drew)) (fun _ _ x=>x)) ⟨w1.heap.size+1,0,none⟩ 1 1 [.int .i64 s.r.at_,.string ⟨#[92,c]⟩] (by rfl) rfl (Zdg (t:=[92,c]) (by first|exact newAt0 _ _|exact Zg _ _ _ (by simp))) (Zf1 (t:=[92,c])) (by unfold maxLen;omega) (by omega) ?_;intro v' w3 i a7;obtain⟨av,d1,rfl⟩:=Zb i;obtain⟨⟨pc,pf⟩,q1,q2⟩:=y.out.pushM (t:=[92,c]) (by repeat(first|exact Fr.refl _ _|apply Fr.alloc|apply Fr.drew)) a7 i;have HQ:=hid q1;have HR:=hid q2;clear i a7 q1 q2)
     all_goals
      go_wp2;go_meet
      case rel=>rw[if_pos HM.out];exact⟨_,HQ.out,HR.out⟩
    |false=>
     have HM:=hid hm;clear hm;go_wp2;go_meet
     case rel=>rw[if_neg (by rw[HM.out];decide)];exact⟨S,⟨sv,m,mv,y.out⟩,Stp.refl _ _⟩
  case rest=>
   obtain⟨S1,h1,a5⟩:=hcut;have B:(if ZdK c then s.mark [92,c]else s).r.at_=s.r.at_:=by cases ZdK c<;>rfl
   have Q:(if ZdK c then s.mark [92,c]else s).r.closed=s.r.closed:=by cases ZdK c<;>rfl
   obtain⟨s1,a3⟩:∃s1,(if ZdK c then s.mark [92,c]else s)=s1:=⟨_,rfl⟩;rw[a3]at hR h1 B Q;obtain⟨d5,m1,d8,g⟩:=h1;have C:=(Stp.of F1.out).trans a5;have N:∀k,S1 k→k<wc.heap.size:=C.lt b9.out;have L:=g.turned 2 (.int .i64 ((s.r.at_:Int)+2)) (s1.go 2) (by simp[ES.go,RxS.go,B]) rfl rfl g.ok;have V:=C.trans (g.stp 2 (.int .i64 ((s.r.at_:Int)+2)));have U:=Zae g.blk wc (Fr.refl nob wc);rw[B]at U;obtain⟨wD,F⟩:∃wD,wD=wc.setCell ⟨b,2,none⟩ (.int .i64 ((s.r.at_:Int)+2)):=⟨_,rfl⟩;rw[←F]at L V;have c4:wD.heap.size=wc.heap.size:=by rw[F];simp[World.setCell]
   have HD:=hid F;have A:=hid L;have E:=hid V;have b7:=hid N;have b5:=Zae L.blk wD (Fr.refl nob wD);clear g a5 C F a3 L V N;by_cases hd:49≤c.toNat∧c.toNat≤57
   ·rw[if_pos hd]at hR;obtain⟨I,M⟩:=hd;have c2:(49:Int)≤c.toNat:=by omega
    have c9:(c.toNat:Int)≤57:=by omega
    obtain⟨n,hn⟩:∃n,c.toNat-48=n:=⟨_,rfl⟩;rw[hn]at hR;have z:((n:Nat):Int)=(c.toNat:Int)-48:=by omega
    have c5:IntKind.i32.wrap ((c.toNat:Int)-48)=(c.toNat:Int)-48:=IntWalk.i32_in _ (by omega);have c6:IntKind.i64.wrap ((c.toNat:Int)-48)=(c.toNat:Int)-48:=IntWalk.i64_in _ (by omega);have a1:=ZfA (P:=Tryz.prog) (mty:=280) (kt:=3) (et:=3) Tryz.underlying280 Tryz.underlying3 (fun w=>by kernel_rfl) A.out.mp n;rw[show(s1.go 2).r.closed=s.r.closed from Q,z]at a1;cases hq:s.r.closed.contains n with
    |true=>
     rw[if_pos hq]at hR;subst hR;have D:¬((s.r.closed.count n:Nat):Int)=0:=by
      have:0<s.r.closed.count n:=List.count_pos_iff.2 (by simpa using hq);omega
     obtain⟨k,hk⟩:∃k,s.r.closed.count n=k:=⟨_,rfl⟩;rw[hk]at a1 D;have HN:=hid z;clear hq hk hn z I M;go_wp2_with(with_reducible rw[←HD.out]);go_ret;refine⟨.iface 143 (.agg #[.int .i64 ((c.toNat:Int)-48)]),S1,rfl,?_,⟨_,_,_,A.out⟩,E.out⟩;rw[←HN.out,RN]
    |false=>
     rw[if_neg (by rw[hq];decide)]at hR;subst hR;have D:s.r.closed.count n=0:=List.count_eq_zero.2 (by simpa using hq);rw[D]at a1;have hf:=Za4 b l (s1.go 2) S1 9 s.r.at_ wD hl (by decide) ⟨_,_,_,A.out⟩;have HF:=hid hf;clear hf;have HN:=hid z;clear hq D hn z I M;go_wp2_with(with_reducible rw[←HD.out]);with_reducible refine HF.out.mono ?_
     rintro e w5 ⟨rfl,e5,t5⟩;have E5:=hid e5;have T5:=hid (E.out.trans t5);clear e5 t5;go_wp2;go_ret;refine⟨.iface 143 (.agg #[.int .i64 ((c.toNat:Int)-48)]),S1,rfl,?_,E5.out,T5.out⟩;rw[←HN.out,RN]
   ·rw[if_neg hd]at hR;have K:(c.toNat:Int)<49∨((49:Int)≤c.toNat∧¬(c.toNat:Int)≤57):=by omega
    have a0:=ZpE c wD;have b3:∃u ok,ZkK c=(u,ok)∧((ok=true∧(Nd.one u,s1.go 2)=R)∨(ok=false∧(Nd.one u,(s1.go 2).fail l 2 s.r.at_)=R)):=by
     unfold ZkK;cases hb:ZjI c with
     |none=>rw[hb]at hR;exact⟨_,false,rfl,.inr ⟨rfl,hR⟩⟩
     |some q=>obtain⟨u,x⟩:=q;rw[hb]at hR;exact⟨u,true,rfl,.inl ⟨rfl,hR⟩⟩
    obtain⟨u,ok,hu,b2⟩:=b3;rw[hu]at a0;have a8:=hid a0;clear a0 hR hu hd;have a2:∀(w3:World),Fr nob wD w3→¬S1 w3.heap.size:=fun w3 f hk=>by have:=b7.out _ hk;have:=f.size;omega
    have b6:=hid a2;clear a2;rcases b2 with⟨rfl,rfl⟩|⟨rfl,rfl⟩
    ·rcases K with K|⟨I,M⟩
     all_goals
      go_wp2_with(with_reducible rw[←HD.out]);with_reducible refine a8.out.mono ?_
      rintro e w3 ⟨rfl,f3⟩;go_wp2;go_ret;exact⟨.iface 134 (.agg #[.int .u64 u.a,.int .u64 u.b,.int .u64 u.c,.int .u64 u.d]),S1,rfl,by rw[RN];rfl,⟨_,_,_,A.out.on (f3.alloc _)⟩,E.out.trans (Stp.of (f3.alloc _))⟩
    ·rcases K with K|⟨I,M⟩
     all_goals
      go_wp2_with(with_reducible rw[←HD.out]);with_reducible refine a8.out.mono ?_
      rintro e w3 ⟨rfl,f3⟩;obtain⟨w4,H⟩:∃w4,w4=w3.alloc (.cells #[.int .u64 u.a,.int .u64 u.b,.int .u64 u.c,.int .u64 u.d] 132):=⟨_,rfl⟩;have f4:Fr nob wD w4:=by rw[H];exact f3.alloc _
      have a6:w4.heap[w3.heap.size]? =some (.cells #[.int .u64 u.a,.int .u64 u.b,.int .u64 u.c,.int .u64 u.d] 132 (0,0)):=by rw[H];exact newAt0 w3 _
      have hf:=Za4 b l (s1.go 2) S1 2 s.r.at_ w4 hl (by decide) ⟨_,_,_,A.out.on f4⟩;have b4:=b6.out w3 f3;have HF:=hid hf;have H4:=hid H;have F4:=hid f4;have a9:=hid a6;clear hf H f4 a6 f3 b5;go_wp2_with(with_reducible rw[←H4.out]);with_reducible refine HF.out.mono ?_
      rintro e w5 ⟨rfl,e5,t5⟩;have d2:=Zl (t5.fr.heap a9.out b4) w5 (Fr.refl nob w5);have E5:=hid e5;have T5:=hid ((E.out.trans (Stp.of F4.out)).trans t5);clear e5 t5;go_wp2;go_ret;exact⟨.iface 134 (.agg #[.int .u64 u.a,.int .u64 u.b,.int .u64 u.c,.int .u64 u.d]),S1,rfl,by rw[RN];rfl,E5.out,T5.out⟩
def ZqX(b:Nat)(l:List UInt8)(S O:Nat→Prop)(w:World)(F:Nd×ES)(n:Nat)(v:Value)(wr:World):Prop:=
 ∃s t S',RN (SO S' O) wr t v∧Erd b l s S' wr∧Stp S w S' wr∧l.length<n+s.r.at_∧Sane l s.r∧(t≠.nil∨l[s.r.at_]? =none)∧ZbR l n s t=F
section
variable {l:List UInt8} {n:Nat} {s:ES} {t:Nd}
theorem Zn7(h:l[s.r.at_]? =some 42):ZbR l (n+1) s t=ZbR l n (s.go 1) (.rep t 0 (-1)):=by rw[ZbR,if_pos h]
theorem Zn8(h:l[s.r.at_]? =some 43):ZbR l (n+1) s t=ZbR l n (s.go 1) (.rep t 1 (-1)):=by rw[ZbR,if_neg (by rw[h];decide),if_pos h]
theorem Zn9(h:l[s.r.at_]? =some 63):ZbR l (n+1) s t=ZbR l n (s.go 1) (.rep t 0 1):=by rw[ZbR,if_neg (by rw[h];decide),if_neg (by rw[h];decide),if_pos h]
theorem Zmp(h:l[s.r.at_]? =some 123):ZbR l (n+1) s t=if(Zd8 l (s.go 1)).2.2.1 then ZbR l n (Zd8 l (s.go 1)).2.2.2 (.rep t (Zd8 l (s.go 1)).1 (Zd8 l (s.go 1)).2.1)else(t,(Zd8 l (s.go 1)).2.2.2.fail l 7 s.r.at_):=by
 rw[ZbR,if_neg (by rw[h];decide),if_neg (by rw[h];decide),if_neg (by rw[h];decide),if_pos h]
theorem Zmq(h1:¬l[s.r.at_]? =some 42)(h2:¬l[s.r.at_]? =some 43)(h3:¬l[s.r.at_]? =some 63)(h4:¬l[s.r.at_]? =some 123):ZbR l (n+1) s t=(t,s):=by
 rw[ZbR,if_neg h1,if_neg h2,if_neg h3,if_neg h4]
end
theorem Zeb(b:Nat)(l:List UInt8)(s:ES)(t:Nd)(v:Value)(S O:Nat→Prop)(w:World)(hl:l.length≤100000)(hs:Sane l s.r)(hnil:t≠.nil∨l[s.r.at_]? =none)(hv:RN (SO S O) w t v)(h:Erd b l s S w):
 Calls Tryz.prog 226 #[.pointer (some ⟨b,0,none⟩),v] w (Zmo b l S O w (ZbR l (l.length+1) s t)):=by
 obtain⟨F,hF⟩:∃F,ZbR l (l.length+1) s t=F:=⟨_,rfl⟩;rw[hF];have HF:=hid hF;have HV:=hid hv;have HH:=hid h;have HS:=hid hs;clear hF hv h hs;go_enter Tryz.func226,Tryz.ntmps226;go_wp2_with fail
 go_loopg [1] (l.length+1) (fun n u wr=>ZqX b l S O w F n u wr)
 case atStart=>exact⟨s,t,S,HV.out,HH.out,Stp.refl _ _,by omega,HS.out,hnil,HF.out⟩
 case round=>
  clear HF HV HH HS hnil;clear s t;obtain⟨s,t,S1,hv,hr,x,hn,hs,hnil,hF⟩:=hrel;have A:=hs.le;obtain⟨m,rfl⟩:∃m,gk=m+1:=⟨gk-1,by omega⟩;have hN:=Zea b l s S1 wr hl A hr;obtain⟨sv,mm,mv,hE⟩:=hr;have o:=Zae hE.blk;have HV:=hid hv;have HE:=hid hE;have k:=hid x;have HF:=hid hF;have HS:=hid hs;have HN:=hid hN;clear hv hE x hF hs hN;by_cases f:l[s.r.at_]? =some 42
  ·obtain⟨vi,vy,rfl⟩:=HV.out.some (hnil.resolve_right (by rw[f];simp));clear hnil;have i:=ZK f;have hF:=HF.out;rw[Zn7 f]at hF;have c:=hid hF;have n0:=(rnX_test l[s.r.at_]? 42 42 rfl).trans (decide_eq_true f);obtain⟨R,hR⟩:∃R,rnX l[s.r.at_]? =R:=⟨_,rfl⟩;rw[hR]at HN n0;clear hF HF hR;go_wp2_with fail;with_reducible refine HN.out.mono ?_
   rintro e w1 ⟨rfl,f1⟩;have h1:=HE.out.on f1;have rr:=Zae h1.blk _ (Fr.refl _ _);have H1:=hid h1;have F1:=hid f1;clear h1 f1 o;go_wp2;go_roundg m
   case measure=>omega
   case rel=>
    have a:=H1.out.stp 2 (.int .i64 ((s.r.at_:Int)+1));refine⟨s.go 1,.rep t 0 (-1),S1,(((Stp.of F1.out).trans a).rn HV.out).rep _ _,⟨_,_,_,H1.out.turned 2 _ _ (by simp[RxS.go,ES.go]) rfl rfl H1.out.ok⟩,(k.out.trans (Stp.of F1.out)).trans a,?_,?_,?_,c.out⟩
    ·show l.length<m+(s.r.at_+1);omega
    ·exact HS.out.goE i
    ·exact .inl (by intro h;cases h)
  ·by_cases g:l[s.r.at_]? =some 43
   ·obtain⟨vi,vy,rfl⟩:=HV.out.some (hnil.resolve_right (by rw[g];simp));clear hnil;have i:=ZK g;have hF:=HF.out;rw[Zn8 g]at hF;have c:=hid hF;have n0:=(rnX_test l[s.r.at_]? 42 42 rfl).trans (decide_eq_false f);have n1:=(rnX_test l[s.r.at_]? 43 43 rfl).trans (decide_eq_true g);obtain⟨R,hR⟩:∃R,rnX l[s.r.at_]? =R:=⟨_,rfl⟩;rw[hR]at HN n0 n1;clear hF HF hR;go_wp2_with fail;with_reducible refine HN.out.mono ?_
    rintro e w1 ⟨rfl,f1⟩;have h1:=HE.out.on f1;have rr:=Zae h1.blk _ (Fr.refl _ _);have H1:=hid h1;have F1:=hid f1;clear h1 f1 o;go_wp2;go_roundg m
    case measure=>omega
    case rel=>
     have a:=H1.out.stp 2 (.int .i64 ((s.r.at_:Int)+1));refine⟨s.go 1,.rep t 1 (-1),S1,(((Stp.of F1.out).trans a).rn HV.out).rep _ _,⟨_,_,_,H1.out.turned 2 _ _ (by simp[RxS.go,ES.go]) rfl rfl H1.out.ok⟩,(k.out.trans (Stp.of F1.out)).trans a,?_,?_,?_,c.out⟩
     ·show l.length<m+(s.r.at_+1);omega
     ·exact HS.out.goE i
     ·exact .inl (by intro h;cases h)
   ·by_cases j:l[s.r.at_]? =some 63
    ·obtain⟨vi,vy,rfl⟩:=HV.out.some (hnil.resolve_right (by rw[j];simp));clear hnil;have i:=ZK j;have hF:=HF.out;rw[Zn9 j]at hF;have c:=hid hF;have n0:=(rnX_test l[s.r.at_]? 42 42 rfl).trans (decide_eq_false f);have n1:=(rnX_test l[s.r.at_]? 43 43 rfl).trans (decide_eq_false g);have n2:=(rnX_test l[s.r.at_]? 63 63 rfl).trans (decide_eq_true j);obtain⟨R,hR⟩:∃R,rnX l[s.r.at_]? =R:=⟨_,rfl⟩;rw[hR]at HN n0 n1 n2;clear hF HF hR;go_wp2_with fail;with_reducible refine HN.out.mono ?_
     rintro e w1 ⟨rfl,f1⟩;have h1:=HE.out.on f1;have rr:=Zae h1.blk _ (Fr.refl _ _);have H1:=hid h1;have F1:=hid f1;clear h1 f1 o;go_wp2;go_roundg m
     case measure=>omega
     case rel=>
      have a:=H1.out.stp 2 (.int .i64 ((s.r.at_:Int)+1));refine⟨s.go 1,.rep t 0 1,S1,(((Stp.of F1.out).trans a).rn HV.out).rep _ _,⟨_,_,_,H1.out.turned 2 _ _ (by simp[RxS.go,ES.go]) rfl rfl H1.out.ok⟩,(k.out.trans (Stp.of F1.out)).trans a,?_,?_,?_,c.out⟩
      ·show l.length<m+(s.r.at_+1);omega
      ·exact HS.out.goE i
      ·exact .inl (by intro h;cases h)
    ·by_cases d:l[s.r.at_]? =some 123
     ·obtain⟨vi,vy,rfl⟩:=HV.out.some (hnil.resolve_right (by rw[d];simp));clear hnil;have i:=ZK d;have hF:=HF.out;rw[Zmp d]at hF;have n0:=(rnX_test l[s.r.at_]? 42 42 rfl).trans (decide_eq_false f);have n1:=(rnX_test l[s.r.at_]? 43 43 rfl).trans (decide_eq_false g);have n2:=(rnX_test l[s.r.at_]? 63 63 rfl).trans (decide_eq_false j);have n3:=(rnX_test l[s.r.at_]? 123 123 rfl).trans (decide_eq_true d);obtain⟨R,hR⟩:∃R,rnX l[s.r.at_]? =R:=⟨_,rfl⟩;rw[hR]at HN n0 n1 n2 n3;have h2:=HE.out;clear HF hR;go_wp2_with fail;with_reducible refine HN.out.mono ?_
      rintro e w1 ⟨rfl,f1⟩;have h1:=HE.out.on f1;have rr:=Zae h1.blk _ (Fr.refl _ _);have a:=h1.stp 2 (.int .i64 ((s.r.at_:Int)+1));have h5:=h1.turned 2 (.int .i64 ((s.r.at_:Int)+1)) (s.go 1) (by simp[RxS.go,ES.go]) rfl rfl h1.ok;obtain⟨w2,p⟩:∃w2,w2=w1.setCell ⟨b,2,none⟩ (.int .i64 ((s.r.at_:Int)+1)):=⟨_,rfl⟩;rw[←p]at a h5;have hI:=Zhs b l (s.go 1) S1 w2 hl i ⟨_,_,_,h5⟩;have hK:=Zf8 (l:=l) (s:=s.go 1) (HS.out.goE i);obtain⟨mn,mx,ok,s2,hq⟩:∃mn mx ok s2,Zd8 l (s.go 1)=(mn,mx,ok,s2):=⟨_,_,_,_,rfl⟩;rw[hq]at hI hF hK;simp only at hI hF hK;obtain⟨k1,k2,k3⟩:=hK;have k2:s.r.at_+1≤s2.r.at_:=k2;have HI:=hid hI;have c:=hid hF;have H2:=hid p;have T2:=hid ((Stp.of f1).trans a);have K1:=hid k1;clear hI hF p a h1 h5 f1 o h2 k1 k3 hq;go_wp2_with(with_reducible rw[←H2.out]);with_reducible refine HI.out.mono ?_
      rintro e w3 ⟨rfl,e3,t3⟩;have T3:=hid (T2.out.trans t3);have E3:=hid e3;have H:=K1.out.le;clear t3 e3;cases ok with
      |true=>
       have hF:=c.out;rw[if_pos rfl]at hF;have z:=hid hF;obtain⟨G,m3,J,e3⟩:=E3.out;have I:=Zae e3.blk _ (Fr.refl _ _);have q:=e3.stp 2 (.int .i64 ((s2.r.at_:Int)-1));have h6:=e3.turned 2 (.int .i64 ((s2.r.at_:Int)-1)) (s2.to (s2.r.at_-1)) (by simp[RxS.to,ES.to];omega) rfl rfl e3.ok;have y:=h6.stp 2 (.int .i64 (s2.r.at_:Int));have h7:=h6.turned 2 (.int .i64 (s2.r.at_:Int)) s2 (by simp[RxS.to,ES.to]) rfl rfl e3.ok;have B:=Zae h6.blk _ (Fr.refl _ _);rw[show(((s2.to (s2.r.at_-1)).r.at_:Nat):Int)=(s2.r.at_:Int)-1 from by show(((s2.r.at_-1:Nat)):Int)=_;omega]at B;have D:IntKind.i64.wrap ((s2.r.at_:Int)-1+1)=s2.r.at_:=by rw[IntWalk.i64_in _ (by omega)];omega
       have E:IntKind.i64.wrap ((s2.r.at_:Int)-1)=(s2.r.at_:Int)-1:=IntWalk.i64_in _ (by omega);have H7:=hid h7;have T7:=hid ((T3.out.trans q).trans y);clear hF c e3 q h6 y h7 rr;go_wp2;go_roundg m
       case measure=>omega
       case rel=>
        refine⟨s2,.rep t mn mx,S1,(T7.out.rn HV.out).rep _ _,⟨_,_,_,H7.out⟩,k.out.trans T7.out,?_,K1.out,.inl (by intro h;cases h),z.out⟩;omega
      |false=>
       have hF:=c.out;rw[if_neg (by decide)]at hF;subst hF;have hf:=Za4 b l s2 S1 7 s.r.at_ w3 hl (by decide) E3.out;have C:=hid hf;clear c hf rr;go_wp2_with fail;with_reducible refine C.out.mono ?_
       rintro e w4 ⟨rfl,e4,t4⟩;have E4:=hid e4;have T4:=hid (T3.out.trans t4);clear e4 t4;go_wp2;go_ret;exact⟨_,S1,rfl,T4.out.rn HV.out,E4.out,k.out.trans T4.out⟩
     ·have hF:=HF.out;rw[Zmq f g j d]at hF;subst hF;have n0:=(rnX_test l[s.r.at_]? 42 42 rfl).trans (decide_eq_false f);have n1:=(rnX_test l[s.r.at_]? 43 43 rfl).trans (decide_eq_false g);have n2:=(rnX_test l[s.r.at_]? 63 63 rfl).trans (decide_eq_false j);have n3:=(rnX_test l[s.r.at_]? 123 123 rfl).trans (decide_eq_false d);obtain⟨R,hR⟩:∃R,rnX l[s.r.at_]? =R:=⟨_,rfl⟩;rw[hR]at HN n0 n1 n2 n3;clear HF hR;go_wp2_with fail;with_reducible refine HN.out.mono ?_
      rintro e w1 ⟨rfl,f1⟩;have F1:=hid f1;clear f1 o;go_wp2;go_ret;exact⟨_,S1,rfl,(Stp.of F1.out).rn HV.out,⟨_,_,_,HE.out.on F1.out⟩,k.out.trans (Stp.of F1.out)⟩
def ChX(l:List UInt8)(W0:World)(deep:Nat)(f:ES→Nd×ES):Prop:=
 ∀b s S (O:Nat→Prop) w,(∀k,O k→k<w.heap.size)→Sane l s.r→Wd W0 S w→Erd b l s S w→Calls Tryz.prog 202 #[.pointer (some ⟨b,0,none⟩),.int .i64 deep] w (Zmo b l S O w (f s))
def GrX(l:List UInt8)(W0:World)(deep:Nat)(C:Option (ES→Nd×ES)):Prop:=
 ∀b s S (O:Nat→Prop) w,(∀k,O k→k<w.heap.size)→Sane l s.r→s.r.at_<l.length→Wd W0 S w→Erd b l s S w→Calls Tryz.prog 252 #[.pointer (some ⟨b,0,none⟩),.int .i64 deep] w (Zmo b l S O w (ZbA l C s))
theorem Er.close{b:Nat}{l:List UInt8}{s:ES}{S:Nat→Prop}{sv:Value}{m:Nat}{mv:Value}{w w':World}{n:Nat}(h:Er b l s S sv m mv w)(hm:Zuc w' m (s.r.closed++[n]))(f:Fr (fun k=>k=m) w w'):
 Er b l ⟨{s.r with closed:=s.r.closed++[n]},s.x⟩ S sv m mv w':=
 ⟨f.heap h.blk (fun e=>h.bm e),ownsRow_fr h.sg f (fun k hk e=>(h.ns k hk).2 (e▸h.mm)),hm,ownsRow_fr h.ma f (fun k hk e=>(h.nm k hk).2.1 e),h.nm,h.bm,h.ns,h.me,h.mm,h.ok⟩
theorem Er.closeStp{b:Nat}{l:List UInt8}{s:ES}{S:Nat→Prop}{sv:Value}{m:Nat}{mv:Value}{w w':World}(h:Er b l s S sv m mv w)(f:Fr (fun k=>k=m) w w'):Stp S w S w':=
 ⟨f.mono (fun k _ e=>e▸h.mm),fun _ _ x=>x,fun hl k hk=>Nat.lt_of_lt_of_le (hl k hk) f.size⟩
theorem Zfn(b:Nat)(l:List UInt8)(s:ES)(S O:Nat→Prop)(w:World)(hl:l.length≤100000)(h:Erd b l s S w):
 Calls Tryz.prog 252 #[.pointer (some ⟨b,0,none⟩),.int .i64 12] w (Zmo b l S O w (ZbA l none s)):=by
 have hf:=Za4 b l s S 4 s.r.at_ w hl (by decide) h;obtain⟨sv,m,mv,h⟩:=h;have rr:=Zae h.blk w (Fr.refl nob w);have HF:=hid hf;clear hf h;go_enter Tryz.func252,Tryz.ntmps252;go_wp2_with fail;with_reducible refine HF.out.mono ?_
 rintro e w1 ⟨rfl,e1,t1⟩;have E1:=hid e1;have T1:=hid t1;clear e1 t1;go_wp2;go_ret;exact⟨.nilIface,S,rfl,by show RN _ _ .nil _;rw[RN],E1.out,T1.out⟩
theorem Zmr(b:Nat)(l:List UInt8)(W0:World)(deep:Nat)(f:ES→Nd×ES)(s:ES)(S O:Nat→Prop)(w:World)(hO:∀k,O k→k<w.heap.size)(hl:l.length≤100000)(hd:deep<12)(hC:ChX l W0 (deep+1) f)(hK:∀s,Sane l s.r→Kp l s (f s) 2)
 (hs:Sane l s.r) (hlt:s.r.at_<l.length) (hW:Wd W0 S w) (h:Erd b l s S w):
 Calls Tryz.prog 252 #[.pointer (some ⟨b,0,none⟩),.int .i64 deep] w (Zmo b l S O w (ZbA l (some f) s)):=by
 obtain⟨sv,m,mv,hE⟩:=h;have B:=ZeG hs hlt;have r0:=Zae hE.blk _ (Fr.refl _ _);have h1:=hE.turned 2 (.int .i64 ((s.r.at_:Int)+1)) (s.go 1) (by simp[RxS.go,ES.go]) rfl rfl hE.ok;have t1:=hE.stp 2 (.int .i64 ((s.r.at_:Int)+1));have h2:=h1.turned 3 (.int .i64 ((s.r.opened:Int)+1)) (ZdB s) (by simp[RxS.go,ES.go,ZdB]) rfl rfl hE.ok;have t2:=h1.stp 3 (.int .i64 ((s.r.opened:Int)+1));have r1:=Zae h1.blk _ (Fr.refl _ _);have r2:=Zae h2.blk _ (Fr.refl _ _);have u:(((s.go 1).r.opened:Nat):Int)=s.r.opened:=rfl;have v:(((ZdB s).r.opened:Nat):Int)=(s.r.opened:Int)+1:=rfl;rw[u]at r1;rw[v]at r2;have a8:=hs.op;have b0:=hs.le;obtain⟨w1,p⟩:∃w1,w1=(w.setCell ⟨b,2,none⟩ (.int .i64 ((s.r.at_:Int)+1))).setCell ⟨b,3,none⟩ (.int .i64 ((s.r.opened:Int)+1)):=⟨_,rfl⟩;rw[←p]at h2 t2 r2;have U:w1.heap.size=w.heap.size:=by rw[p];simp[World.setCell]
 have T2:=hid (t1.trans t2);have hc:=hC b (ZdB s) S O w1 (by rw[U];exact hO) B (hW.stp T2.out) ⟨_,_,_,h2⟩;have hk:=hK (ZdB s) B;obtain⟨t,s2,hq⟩:∃t s2,f (ZdB s)=(t,s2):=⟨_,_,rfl⟩;have hR:ZbA l (some f) s=(.group ((s.r.opened+1:Nat):Int) t,Zcu l (s.r.opened+1) s.r.at_ s2):=by unfold ZbA;simp only[hq]
 obtain⟨R,a⟩:∃R,ZbA l (some f) s=R:=⟨_,rfl⟩;rw[a];rw[hR]at a;have K:=hid a;clear a;rw[hq]at hc hk;rw[show((deep+1:Nat):Int)=(deep:Int)+1 from by simp]at hc;have HC:=hid hc;have HK:=hid hk;have W:=hid p;have Y:((deep:Int)==12)=false:=by simp;omega
 have b3:(deep:Int)<12:=by omega
 clear hR hq hc hk p h2 h1 t1 t2 hE B hC hK hd hO u v hW;go_enter Tryz.func252,Tryz.ntmps252;go_wp2_with(rw[←W.out]);with_reducible refine(HC.out).mono ?_
 rintro e w2 ⟨v2,S2,rfl,g,e2,J⟩;have H:Sane l s2.r:=HK.out.sn;have F:=H.le;have hT:Calls Tryz.prog 214 #[.pointer (some ⟨b,0,none⟩),.int .i32 41] w2 fun x w'=>x=.returned (.bool (decide (l[s2.r.at_]? =some 41)))∧Erd b l (if l[s2.r.at_]? =some 41 then s2.go 1 else s2) S2 w'∧Stp S2 w2 S2 w':=Zfm b l 41 s2 S2 w2 hl F e2;have o:=hid g;have j:=hid (T2.out.trans J);obtain⟨n,hn⟩:∃n,s.r.opened+1=n:=⟨_,rfl⟩;have L:(s.r.opened:Int)+1=(n:Nat):=by omega
 have a:=K.out;rw[hn]at a;have X:=H.cl;have z:∀(s3:ES) (w3:World),s3.r.closed=s2.r.closed→Erd b l s3 S2 w3→Stp S2 w2 S2 w3→
  ∃(m3:Nat) (w4:World),(∃v0 v1 C v3 v5 v6 v7,w3.cell? ⟨b,0,none⟩=some v0∧w3.cell? ⟨b,1,none⟩=some v1∧w3.cell? ⟨b,2,none⟩=some C∧w3.cell? ⟨b,3,none⟩=some v3∧w3.cell? ⟨b,4,none⟩=some (.map (some m3))∧w3.cell? ⟨b,5,none⟩=some v5∧w3.cell? ⟨b,6,none⟩=some v6∧w3.cell? ⟨b,7,none⟩=some v7)∧
  (Instr.lookup 280 (.map (some m3)) (.int .i64 (n:Nat)) false).run Tryz.prog w3=.ok (.int .i64 (s2.r.closed.count n:Nat)) w3∧
  (Instr.mapUpdate 280 (.map (some m3)) (.int .i64 (n:Nat)) (.int .i64 ((s2.r.closed.count n:Nat)+1))).run Tryz.prog w3=.ok () w4∧
  Erd b l ⟨{s3.r with closed:=s3.r.closed++[n]},s3.x⟩ S2 w4∧Stp S2 w2 S2 w4:=by
  rintro s3 w3 G ⟨Z,m3,a9,h3⟩ t3;have E:=h3.mp;rw[G]at E;obtain⟨w4,V,Q,N⟩:=ZgX (P:=Tryz.prog) (mty:=280) (kt:=3) (et:=3) Tryz.underlying280 Tryz.underlying3 E n;obtain⟨⟨a0,a1,a2,a3,a4,a5,a6,a7⟩,_⟩:=Zae h3.blk _ (Fr.refl _ _);refine⟨m3,w4,⟨_,_,_,_,_,_,_,a0,a1,a2,a3,a4,a5,a6,a7⟩,ZfA (P:=Tryz.prog) (mty:=280) (kt:=3) (et:=3) Tryz.underlying280 Tryz.underlying3 (fun w=>by kernel_rfl) E n,V,⟨_,_,_,h3.close (by rw[G];exact Q) N⟩,t3.trans (h3.closeStp N)⟩
 have q:s2.r.closed.count n≤s2.r.closed.length:=List.count_le_length;obtain⟨k,hk⟩:∃k,s2.r.closed.count n=k:=⟨_,rfl⟩;rw[hk]at z q;have b2:(k:Int)≤100000:=by omega
 have c:=hid L;clear L hn;have M:=hid z;have b1:=hid e2;have I:v2=.nilIface∨∃i y,v2=.iface i y:=by
  rcases g.kind' with ht|h
  ·left;have ht:t=.nil:=ht;rw[ht,RN]at g;exact g
  ·exact .inr h
 clear K z g J hk q r0 r1 r2 e2;by_cases hA:l[s2.r.at_]? =some 41
 ·rw[decide_eq_true hA,if_pos hA]at hT;have d:Zcu l n s.r.at_ s2=⟨{(s2.go 1).r with closed:=(s2.go 1).r.closed++[n]},(s2.go 1).x⟩:=by unfold Zcu;rw[if_pos hA]
  rw[d]at a;subst a;have HT:=hid hT;clear hT hA d;go_wp2_with fail;with_reducible refine HT.out.mono ?_
  rintro e w3 ⟨rfl,e3,t3⟩;obtain⟨m3,w4,⟨v0,v1,C,v3,v5,v6,v7,a0,a1,a2,a3,a4,a5,a6,a7⟩,D,A,e4,t4⟩:=M.out (s2.go 1) w3 rfl e3 t3;have E4:=hid e4;have T4:=hid t4;clear e4 t4 e3 t3;rw[←c.out]at D A;rcases I with rfl|⟨vi,vy,rfl⟩
  ·go_wp2;go_ret;refine⟨.iface 141 (.agg #[.int .i64 ((s.r.opened:Int)+1),.nilIface]),S2,rfl,?_,E4.out,j.out.trans T4.out⟩;rw[c.out];exact(T4.out.rn o.out).grp _
  ·go_wp2;go_ret;refine⟨.iface 141 (.agg #[.int .i64 ((s.r.opened:Int)+1),.iface vi vy]),S2,rfl,?_,E4.out,j.out.trans T4.out⟩;rw[c.out];exact(T4.out.rn o.out).grp _
 ·rw[decide_eq_false hA,if_neg hA]at hT;have d:Zcu l n s.r.at_ s2=⟨{(s2.fail l 8 s.r.at_).r with closed:=(s2.fail l 8 s.r.at_).r.closed++[n]},(s2.fail l 8 s.r.at_).x⟩:=by unfold Zcu;rw[if_neg hA]
  rw[d]at a;subst a;have HT:=hid hT;clear hT hA d;go_wp2_with fail;with_reducible refine HT.out.mono ?_
  rintro e w3 ⟨rfl,e3,t3⟩;have hf:=Za4 b l s2 S2 8 s.r.at_ w3 hl (by decide) e3;have HF:=hid hf;have T3:=hid t3;clear hf e3 t3;go_wp2_with fail;with_reducible refine HF.out.mono ?_
  rintro e w5 ⟨rfl,e5,t5⟩;obtain⟨m3,w4,⟨v0,v1,C,v3,v5,v6,v7,a0,a1,a2,a3,a4,a5,a6,a7⟩,D,A,e4,t4⟩:=M.out (s2.fail l 8 s.r.at_) w5 rfl e5 (T3.out.trans t5);have E4:=hid e4;have T4:=hid t4;clear e4 t4 e5 t5;rw[←c.out]at D A;rcases I with rfl|⟨vi,vy,rfl⟩
  ·go_wp2;go_ret;refine⟨.iface 141 (.agg #[.int .i64 ((s.r.opened:Int)+1),.nilIface]),S2,rfl,?_,E4.out,j.out.trans T4.out⟩;rw[c.out];exact(T4.out.rn o.out).grp _
  ·go_wp2;go_ret;refine⟨.iface 141 (.agg #[.int .i64 ((s.r.opened:Int)+1),.iface vi vy]),S2,rfl,?_,E4.out,j.out.trans T4.out⟩;rw[c.out];exact(T4.out.rn o.out).grp _
abbrev Zqa(w:World)(b:Nat)(v0 v1:Value):Prop:=w.cell? ⟨b,0,none⟩=some v0∧w.cell? ⟨b,2,none⟩=some v1
theorem cc02_on{w w':World}{b:Nat}{v0 v1:Value}(h:Zqa w b v0 v1)(f:Fr nob w w'):Zqa w' b v0 v1:=⟨f.cell h.1 (fun x=>x),f.cell h.2 (fun x=>x)⟩
theorem ZkN(b:Nat)(l:List UInt8)(W0:World)(deep:Nat)(C:Option (ES→Nd×ES))(s:ES)(S O:Nat→Prop)(w:World)(c:UInt8)(hO:∀k,O k→k<w.heap.size)(hl:l.length≤100000)(hE0:Env W0)(hG:GrX l W0 deep C)
 (hs:Sane l s.r) (hx:l[s.r.at_]? =some c) (hW:Wd W0 S w) (h:Erd b l s S w):
 Calls Tryz.prog 227 #[.pointer (some ⟨b,0,none⟩),.int .i64 deep] w (Zmo b l S O w (Zax l C s c)):=by
 obtain⟨R,hR⟩:∃R,Zax l C s c=R:=⟨_,rfl⟩;rw[hR];have b1:=ZK hx;have hN:=Zea b l s S w hl hs.le h;rw[hx]at hN;have hN:Calls Tryz.prog 223 #[.pointer (some ⟨b,0,none⟩)] w fun x w'=>x=.returned (.int .i32 (c.toNat:Int))∧Fr nob w w':=hN;have b0:=fun w' (f:Fr nob w w')=>hG b s S O w' (fun k hk=>Nat.lt_of_lt_of_le (hO k hk) f.size) hs b1 (hW.stp (Stp.of f)) (h.on f);have a1:=fun w' (f:Fr nob w w')=>ZkM b l s S O w' hl b1 hs (fun k hk=>Nat.lt_of_lt_of_le (hW.lt k hk) f.size) (h.on f);have c0:=hid b0;have b9:=hid a1;have HH:=hid h;obtain⟨sv,m,mv,hE⟩:=h;have HE:=hid hE;have HW:=hid hW;have HN:=hid hN;have c3:=c.toNat_lt;clear b0 a1 hG hE hW hO hN hx hs;go_enter Tryz.func227,Tryz.ntmps227;go_wp2_with fail;with_reducible refine HN.out.mono ?_
 rintro e wC ⟨rfl,fC⟩;have W:=HE.out.on fC;obtain⟨⟨k0,_,k2,_⟩,j0,_,j2,_⟩:=Zae W.blk _ (Fr.refl _ _);have F:=hid W;have FC:=hid fC;clear W fC;unfold Zax at hR;by_cases v:c=40
 ·rw[if_pos v]at hR;have t1:((c.toNat:Int)==40)=true:=Zcy (b:=40) v;have HQ:=hid (c0.out wC FC.out);rw[hR]at HQ;clear v hR k0 k2 j0 j2;go_wp2_with fail;with_reducible refine(HQ.out).mono ?_
  rintro e w2 ⟨v2,S2,rfl,N,r2,L⟩;have X:=hid N;have R2:=hid r2;have V:=hid ((Stp.of FC.out).trans L);clear N r2 L;go_wp2;go_ret;exact⟨_,S2,rfl,X.out,R2.out,V.out⟩
 ·rw[if_neg v]at hR;have t1:((c.toNat:Int)==40)=false:=Zn (b:=40) v;by_cases A:c=41
  ·rw[if_pos A]at hR;have t2:((c.toNat:Int)==41)=true:=Zcy (b:=41) A;have hf:=Za4 b l s S 8 s.r.at_ wC hl (by decide) (HH.out.on FC.out);have HF:=hid hf;subst hR;clear v A hf;go_wp2_with fail;with_reducible refine(HF.out).mono ?_
   rintro e w2 ⟨rfl,e2,B⟩;have E2:=hid e2;have T2:=hid ((Stp.of FC.out).trans B);clear e2 B;go_wp2;go_ret;exact⟨.nilIface,S,rfl,by rw[RN],E2.out,T2.out⟩
  ·rw[if_neg A]at hR;have t2:((c.toNat:Int)==41)=false:=Zn (b:=41) A;by_cases D:c=92
   ·rw[if_pos D]at hR;have t3:((c.toNat:Int)==92)=true:=Zcy (b:=92) D;have HQ:=hid (b9.out wC FC.out);rw[hR]at HQ;clear v A D hR k0 k2 j0 j2;go_wp2_with fail;with_reducible refine(HQ.out).mono ?_
    rintro e w2 ⟨v2,S2,rfl,N,r2,L⟩;have X:=hid N;have R2:=hid r2;have V:=hid ((Stp.of FC.out).trans L);clear N r2 L;go_wp2;go_ret;exact⟨_,S2,rfl,X.out,R2.out,V.out⟩
   ·rw[if_neg D]at hR;have t3:((c.toNat:Int)==92)=false:=Zn (b:=92) D;by_cases H:c=91
    ·rw[if_pos H]at hR;have t4:((c.toNat:Int)==91)=true:=Zcy (b:=91) H;have U:∀w',Fr nob wC w'→Env w':=fun w' f=>hE0.on ((HW.out.fr.trans' FC.out).trans' f);have hP:=fun w' (f:Fr nob wC w')=>ZfL l ((s.r.at_:Int)+1) w' hl (U w' f);rw[show((s.r.at_:Int)+1)=((s.r.at_+1:Nat):Int)from by simp,Zkd (by omega)]at hP;rw[show((s.r.at_+1:Nat):Int)=(s.r.at_:Int)+1 from by simp]at hP;have hw:IntKind.i64.wrap ((s.r.at_:Int)+1)=s.r.at_+1:=IntWalk.i64_in _ (by omega);have a5:Zqa wC b (.string ⟨l.toArray⟩) (.int .i64 s.r.at_):=⟨k0,k2⟩;have HC:=hid a5;obtain⟨P,Z⟩:∃P,prs l (s.r.at_+1)=P:=⟨_,rfl⟩;rw[Z]at hP hR;obtain⟨u,k,e0,hv,K⟩:∃(u:S4) (k:Nat) (e0:Int),Zp8 P=.tuple #[ZcR u,.int .i64 k,.int .i64 e0]∧((e0≠0∧R=(.nil,s.fail l e0 k))∨(e0=0∧R=(.one u,s.to k))):=by
      cases P with
      |inl z=>obtain⟨z1,z2⟩:=z;exact⟨S4.zero,z2,z1,rfl,.inl ⟨prs_err Z,hR.symm⟩⟩
      |inr q=>obtain⟨u,k⟩:=q;exact⟨u,k,0,rfl,.inr ⟨rfl,hR.symm⟩⟩
     rw[hv]at hP;have HP:=hid hP;have a9:=hid K;have b3:=Zl (show(wC.alloc (.cells #[.int .u64 0,.int .u64 0,.int .u64 0,.int .u64 0] 132)).heap[wC.heap.size]? =some (.cells #[.int .u64 0,.int .u64 0,.int .u64 0,.int .u64 0] 132)from newAt0 wC _);have b4:=hid b3;have a8:∀k,wC.heap.size≤k→¬S k:=fun k hk h=>by have:=HW.out.lt k h;have:=FC.out.size;omega
     have b2:=hid a8;clear hP U k0 k2 j0 j2 H D A v a5 Z b3 hv K hR a8;go_wp2_with fail
     go_region_held3 (fun w'=>Zqa w' b (.string ⟨l.toArray⟩) (.int .i64 s.r.at_)) (first|(with_reducible exact HC.out)|(with_reducible exact cc02_on HC.out ((Fr.refl nob wC).drew))|(with_reducible exact cc02_on HC.out (((Fr.refl nob wC).alloc _).drew))|(with_reducible exact cc02_on HC.out (((Fr.refl nob wC).drew).alloc _))|(with_reducible exact cc02_on HC.out G1)|(with_reducible exact cc02_on HC.out (G1.drew))|(with_reducible exact cc02_on HC.out (G1.alloc _))|(with_reducible exact cc02_on HC.out (setFour_frS G1 (Nat.le_refl _) _ _ _ _))|(with_reducible exact cc02_on HC.out (setFour_frS (G1.alloc _) G1.size _ _ _ _))|(trace_state;fail)) (first|(go_at_call 254;(first|((with_reducible refine(HP.out _ ((Fr.refl nob wC).drew)).mono ?_);rintro e g1 ⟨rfl,f1⟩;have G1:Fr nob wC g1:=((Fr.refl nob wC).drew).trans' f1;have hz:=newAt0 g1 (.cells #[.int .u64 0,.int .u64 0,.int .u64 0,.int .u64 0] 132);have HZ:=hid hz;have rz:=Zl hz _ (Fr.refl nob _))|((with_reducible refine(HP.out _ (((Fr.refl nob wC).alloc _).drew)).mono ?_);rintro e g1 ⟨rfl,f1⟩;have G1:Fr nob wC g1:=(((Fr.refl nob wC).alloc _).drew).trans' f1;have hz:=(((Fr.refl nob _).drew).trans' f1).heap (newAt0 wC (.cells #[.int .u64 0,.int .u64 0,.int .u64 0,.int .u64 0] 132)) (fun x=>x);have HZ:=hid hz;have rz:=b4.out g1 (((Fr.refl nob _).drew).trans' f1)));clear f1 hz))
     ·obtain⟨wf,t⟩:∃wf,wf=g1.alloc (.cells #[.int .u64 u.a,.int .u64 u.b,.int .u64 u.c,.int .u64 u.d] 132):=⟨_,rfl⟩;have y:At4 wf g1.heap.size u:=by rw[t];exact newAt0 g1 _
      have I:Fr nob wC wf:=by rw[t];exact G1.alloc _
      rw[←t];have HF:=hid I;have J:=hid y;have Y:wC.heap.size≤g1.heap.size:=G1.size;clear t I y rz;have E:=F.out.on HF.out;have c2:=lt_heap F.out.blk;have o:g1.heap.size≠b:=by omega
      obtain⟨⟨_,_,n1,_⟩,_,_,n2,_⟩:=Zae E.blk _ (Fr.refl _ _);have b8:=b2.out g1.heap.size Y;have n:=hid E;clear E;rcases a9.out with⟨j,hR⟩|⟨j,hR⟩
      ·subst hR;have b6:((e0:Int) !=0)=true:=by simpa using j
       have hf:=Za4 b l s S e0 k wf hl j ⟨_,_,_,n.out⟩;have a0:=hid hf;clear hf n1 n2;go_wp2_with fail;with_reducible refine(a0.out).mono ?_
       rintro e w2 ⟨rfl,e2,B⟩;have E2:=hid e2;have T2:=hid (((Stp.of FC.out).trans (Stp.of HF.out)).trans B);clear e2 B;go_wp2;go_ret;exact⟨.nilIface,S,rfl,by rw[RN],E2.out,T2.out⟩
      ·subst hR;subst j;have b7:Q4 (wf.setCell ⟨b,2,none⟩ (.int .i64 (k:Nat))) (g1.heap.size) u:=by
        have g:=(Fr.refl (fun i=>i=b) wf).setCell (p:=⟨b,2,none⟩) (fun _=>rfl) (.int .i64 (k:Nat));have q:=Q4.of J.out;exact⟨g.cell q.1 o,g.cell q.2.1 o,g.cell q.2.2.1 o,g.cell q.2.2.2 o⟩
       go_wp2;go_ret;exact⟨_,S,rfl,by rw[RN];rfl,⟨_,_,_,n.out.turned 2 _ (s.to k) (by simp[RxS.to,ES.to]) rfl rfl n.out.ok⟩,((Stp.of FC.out).trans (Stp.of HF.out)).trans (n.out.stp 2 _)⟩
     ·obtain⟨wf,t⟩:∃wf,wf=((((g1.setCell ⟨wC.heap.size,0,none⟩ (.int .u64 u.a)).setCell ⟨wC.heap.size,1,none⟩ (.int .u64 u.b)).setCell ⟨wC.heap.size,2,none⟩ (.int .u64 u.c)).setCell ⟨wC.heap.size,3,none⟩ (.int .u64 u.d)):=⟨_,rfl⟩;have y:At4 wf wC.heap.size u:=by rw[t];with_reducible exact setFour_heap HZ.out _ _ _ _
      have I:Fr nob wC wf:=by rw[t];exact setFour_frS (G1) (Nat.le_refl _) _ _ _ _
      rw[←t];have HF:=hid I;have J:=hid y;have Y:wC.heap.size≤wC.heap.size:=Nat.le_refl _;clear t I y rz;have E:=F.out.on HF.out;have c2:=lt_heap F.out.blk;have o:wC.heap.size≠b:=by omega
      obtain⟨⟨_,_,n1,_⟩,_,_,n2,_⟩:=Zae E.blk _ (Fr.refl _ _);have b8:=b2.out wC.heap.size Y;have n:=hid E;clear E;rcases a9.out with⟨j,hR⟩|⟨j,hR⟩
      ·subst hR;have b6:((e0:Int) !=0)=true:=by simpa using j
       have hf:=Za4 b l s S e0 k wf hl j ⟨_,_,_,n.out⟩;have a0:=hid hf;clear hf n1 n2;go_wp2_with fail;with_reducible refine(a0.out).mono ?_
       rintro e w2 ⟨rfl,e2,B⟩;have E2:=hid e2;have T2:=hid (((Stp.of FC.out).trans (Stp.of HF.out)).trans B);clear e2 B;go_wp2;go_ret;exact⟨.nilIface,S,rfl,by rw[RN],E2.out,T2.out⟩
      ·subst hR;subst j;have b7:Q4 (wf.setCell ⟨b,2,none⟩ (.int .i64 (k:Nat))) (wC.heap.size) u:=by
        have g:=(Fr.refl (fun i=>i=b) wf).setCell (p:=⟨b,2,none⟩) (fun _=>rfl) (.int .i64 (k:Nat));have q:=Q4.of J.out;exact⟨g.cell q.1 o,g.cell q.2.1 o,g.cell q.2.2.1 o,g.cell q.2.2.2 o⟩
       go_wp2;go_ret;exact⟨_,S,rfl,by rw[RN];rfl,⟨_,_,_,n.out.turned 2 _ (s.to k) (by simp[RxS.to,ES.to]) rfl rfl n.out.ok⟩,((Stp.of FC.out).trans (Stp.of HF.out)).trans (n.out.stp 2 _)⟩
    ·rw[if_neg H]at hR;have t4:((c.toNat:Int)==91)=false:=Zn (b:=91) H;obtain⟨w1,M⟩:∃w1,w1=wC.setCell ⟨b,2,none⟩ (.int .i64 ((s.r.at_:Int)+1)):=⟨_,rfl⟩;have a3:Er b l (s.go 1) S sv m mv w1:=by rw[M];exact F.out.turned 2 _ (s.go 1) (by simp[RxS.go,ES.go]) rfl rfl F.out.ok
     have a4:Stp S w S w1:=by rw[M];exact(Stp.of FC.out).trans (F.out.stp 2 _)
     have b5:w1.heap.size=wC.heap.size:=by rw[M];simp[World.setCell]
     have a6:=hid M;have a2:=hid a3;have a7:=hid a4;clear M a3 a4 D H A v;by_cases G:c=46
     ·rw[if_pos G]at hR;have t5:((c.toNat:Int)==46)=true:=Zcy (b:=46) G;have Q:=Ze7 0 255 w1 (by decide) (by decide);rw[show((0:Nat):Int)=0 from rfl,show((255:Nat):Int)=255 from rfl]at Q;obtain⟨u,hu⟩:∃u,spn 0 255=u:=⟨_,rfl⟩;rw[hu]at Q hR;subst hR;have c1:=hid Q;clear G Q hu;go_wp2_with(rw[←a6.out]);with_reducible refine(c1.out).mono ?_
      rintro e w2 ⟨rfl,f2⟩;have F2:=hid f2;clear f2;go_wp2;go_ret;exact⟨_,S,rfl,by rw[RN];rfl,⟨_,_,_,a2.out.on F2.out⟩,a7.out.trans (Stp.of F2.out)⟩
     ·rw[if_neg G]at hR;have t5:((c.toNat:Int)==46)=false:=Zn (b:=46) G;have c4:IntKind.u8.wrap (c.toNat:Int)=c.toNat:=IntWalk.u8_in _ (by omega);have ho:=Zb6 c w1 5;obtain⟨u,hu⟩:∃u,spn c.toNat c.toNat=u:=⟨_,rfl⟩;rw[hu,b5]at ho;rw[hu]at hR;subst hR;have HO:=hid ho;clear G ho hu;go_wp2_with(rw[←a6.out]);with_reducible refine(HO.out).mono ?_
      rintro e w2 ⟨rfl,f2⟩;have F2:=hid (((Fr.refl nob w1).alloc _).trans' f2);clear f2;go_wp2;go_ret;exact⟨_,S,rfl,by rw[RN];rfl,⟨_,_,_,a2.out.on F2.out⟩,a7.out.trans (Stp.of F2.out)⟩
section
variable {b:Nat} {l:List UInt8} {s:ES} {S:Nat→Prop} {W w w':World}
theorem Erd.off(h:Erd b l s S w)(f:Off S W w w')(hW:b<W.heap.size):Erd b l s S w':=by
 obtain⟨sv,m,mv,h⟩:=h;obtain⟨X,f,hX⟩:=f;exact⟨sv,m,mv,f.heap h.blk (fun x=>(hX _ x).1 h.me),ownsRow_fr h.sg f (fun k hk x=>by have:=(hX _ x).2;have:=(h.ns k hk).1;omega),h.mp.fr f (fun x=>(hX _ x).1 h.mm),ownsRow_fr h.ma f (fun k hk x=>(hX _ x).1 (h.nm k hk).2.2),h.nm,h.bm,h.ns,h.me,h.mm,h.ok⟩
theorem Erd.lt(h:Erd b l s S w):b<w.heap.size:=by obtain⟨_,_,_,h⟩:=h;exact lt_heap h.blk
end
theorem ZcW{l:List UInt8}{s:ES}{e:Int}{p:Nat}:l[(s.fail l e p).r.at_]? =none:=by show l[l.length]? =none;simp
theorem Zgf{l:List UInt8}{C:Option (ES→Nd×ES)}{s:ES}{c:UInt8}(h:(Zax l C s c).1=.nil):l[(Zax l C s c).2.r.at_]? =none:=by
 obtain⟨q,hq⟩:∃q,Zax l C s c=q:=⟨_,rfl⟩;rw[hq]at h⊢;unfold Zax at hq;split at hq
 ·unfold ZbA at hq;cases C with
  |none=>subst hq;exact ZcW
  |some f=>subst hq;cases h
 ·split at hq
  ·subst hq;exact ZcW
  ·split at hq
   ·unfold ZkG at hq;cases hc:l[s.r.at_+1]? with
    |none=>rw[hc]at hq;subst hq;exact ZcW
    |some d=>
     rw[hc]at hq;simp only at hq;split at hq
     ·subst hq;cases h
     ·split at hq<;>(subst hq;cases h)
   ·split at hq
    ·split at hq
     ·subst hq;exact ZcW
     ·subst hq;cases h
    ·split at hq<;>(subst hq;cases h)
def BrX(b:Nat)(l:List UInt8)(C:Option (ES→Nd×ES))(inner:Bool)(S O:Nat→Prop)(w:World)(F:Nd×ES)(n:Nat)(v5 v6:Value)(wr:World):Prop:=
 ∃front s ps S',v6=.bool front∧Pts S' O w wr ps v5∧Erd b l s S' wr∧Stp S w S' wr∧Sane l s.r∧l.length<n+s.r.at_∧Nd.sizes ps≤3*s.r.at_∧brX l C inner n front s ps=F
def spc(c:UInt8):Bool:=c==42||(c==43||(c==63||c==123))
theorem spc_iff{c:UInt8}:spc c=true↔(c=42∨c=43∨c=63∨c=123):=by simp[spc]
theorem ZdL{S:Nat→Prop}{w:World}{t:Nd}{v:Value}(h:RN S w t v):v=.nilIface∨∃i y,v=.iface i y:=by
 rcases h.kind' with rfl|h'
 ·rw[RN]at h;exact .inl h
 ·exact .inr h'
theorem er_branch(b:Nat)(l:List UInt8)(W0:World)(deep:Nat)(C:Option (ES→Nd×ES))(s:ES)(S O:Nat→Prop)(w:World)(hO:∀k,O k→k<w.heap.size)(hl:l.length≤100000)(hd:deep≤12)(hE0:Env W0)
 (hG:GrX l W0 deep C) (hC:∀f,C=some f→∀s,Sane l s.r→Kp l s (f s) 2) (hs:Sane l s.r) (hW:Wd W0 S w) (h:Erd b l s S w):
 Calls Tryz.prog 213 #[.pointer (some ⟨b,0,none⟩),.int .i64 deep] w (Zmo b l S O w (Zab l C (decide (0<deep)) s)):=by
 obtain⟨g,N⟩:∃g,decide (0<deep)=g:=⟨_,rfl⟩;obtain⟨F,hF⟩:∃F,Zab l C g s=F:=⟨_,rfl⟩;rw[N,hF];obtain⟨fu,c6,f7⟩:∃fu,(if sgn l s.r.at_==[94]then l.length+2 else l.length+1)=fu∧l.length<fu:=⟨_,rfl,by split<;>omega⟩;unfold Zab at hF;rw[c6]at hF;have J:=hid hs;have HW:=hid hW;have HG:=hid hG;have HC:=hid hC;have f2:=hid hE0;have M:=hid hO;have HH:=hid h;have HF:=hid hF;have b8:=h.lt;have e5:g=true→(0:Int)<deep:=fun e=>by rw[e]at N;have:=of_decide_eq_true N;omega
 have d6:g=false→¬(0:Int)<deep:=fun e=>by rw[e]at N;have:=of_decide_eq_false N;omega
 have g2:=hid e5;have f0:=hid d6;clear hs hW hG hC hE0 hO h N c6 hF e5 d6;go_enter Tryz.func213,Tryz.ntmps213;go_wp2_with fail
 go_loopg [5,6] fu (fun n u v wr=>BrX b l C g S O w F n u v wr)
 case atStart=>exact⟨true,s,[],S,rfl,Pts.nil _ _ _ _,HH.out,Stp.refl _ _,J.out,by omega,Nat.zero_le _,HF.out⟩
 case round=>
  clear HH J HF f7;obtain⟨I,s,ps,S1,rfl,hp,hr,Y,c2,hn,hz,hF⟩:=hrel;have e0:=c2.le;obtain⟨m,rfl⟩:∃m,gk=m+1:=⟨gk-1,by omega⟩;obtain⟨av,cv0,hv⟩:=hp.shape;subst hv;obtain⟨v5,b5⟩:∃v5,v5=Value.slice av ps.length cv0:=⟨_,rfl⟩;have hN:=Zea b l s S1 wr hl e0 hr;have HP:=hid (show Pts S1 O w wr ps v5 from b5▸hp);have HR:=hid hr;have p:=hid Y;have J:=hid c2;have HF:=hid hF;have a8:=hid b5;have a6:=hid (HW.out.stp Y);have HJ:=hid (fun(w':World) (f:Fr nob wr w')=>joinS_any (SO S1 O) ps (.slice av ps.length cv0) w' (fun k hk=>Nat.lt_of_lt_of_le (hk.elim ((HW.out.stp Y).lt k) (fun x=>Nat.lt_of_lt_of_le (M.out k x) Y.fr.size)) f.size) (by omega) ((hp.on f).sn M.out));have g7:=Nd.length_le ps;clear hp hr Y c2 hF b5;cases hc:l[s.r.at_]? with
  |none=>
   rw[hc]at hN;have hN:Calls Tryz.prog 223 #[.pointer (some ⟨b,0,none⟩)] wr fun x w'=>x=.returned (.int .i32 (-1))∧Fr nob wr w':=hN;have HN:=hid hN;have hF:=HF.out;rw[brX,hc]at hF;simp only at hF;subst hF;clear HF hN hc;go_wp2_with fail;with_reducible refine HN.out.mono ?_
   rintro e w1 ⟨rfl,f1⟩;have F1:=hid f1;clear f1;go_wp2_with fail;refine(HJ.out _ F1.out).mono ?_;rintro e wj ⟨r,rfl,H,fj⟩;have X:=hid H;have FJ:=hid (F1.out.trans' fj);clear H fj;go_wp2;go_ret;exact⟨r,S1,rfl,X.out,HR.out.on FJ.out,p.out.trans (Stp.of FJ.out)⟩
  |some c=>
   have d7:=ZK hc;rw[hc]at hN;have hN:Calls Tryz.prog 223 #[.pointer (some ⟨b,0,none⟩)] wr fun x w'=>x=.returned (.int .i32 (c.toNat:Int))∧Fr nob wr w':=hN;have HN:=hid hN;have g4:=c.toNat_lt;have tm:((c.toNat:Int)== -1)=false:=by first|(simp;done)|(simp;omega)
   have hF:=HF.out;rw[brX,hc]at hF;simp only at hF;obtain⟨sv,mm,mv,hE⟩:=HR.out;have HE:=hid hE;clear HF hN hE;go_wp2_with fail;with_reducible refine HN.out.mono ?_
   rintro e w1 ⟨rfl,f1⟩;have F1:=hid f1;clear f1;obtain⟨fs,i⟩:∃fs,Zd9 l I s c=fs:=⟨_,rfl⟩;rw[i]at hF;have a9:=hid i;clear i;go_upto_block 2 with(fail)
   go_cut [5,7,10] (fun v _ _ w'=>v=Value.slice av ps.length cv0∧¬((c=41∧g=true)∨c=124)∧¬c=94∧¬c=36∧Erd b l fs S1 w'∧Stp S1 wr S1 w')
   case first=>
    by_cases o:c=41
    ·have e6:((c.toNat:Int)==41)=true:=Zcy (b:=41) o;cases hi:g with
     |true=>
      have c3:=g2.out hi;rw[if_pos (.inl ⟨o,hi⟩)]at hF;subst hF;clear hc;go_wp2_with fail;refine(HJ.out _ F1.out).mono ?_;rintro e wj ⟨r,rfl,H,fj⟩;have X:=hid H;have FJ:=hid (F1.out.trans' fj);clear H fj;go_wp2;go_ret;exact⟨r,S1,rfl,X.out,HR.out.on FJ.out,p.out.trans (Stp.of FJ.out)⟩
     |false=>
      have c3:=f0.out hi;have j:¬c=124:=by rw[o];decide
      have y:¬c=94:=by rw[o];decide
      have A:¬c=36:=by rw[o];decide
      rw[if_neg (fun h=>h.elim (fun h=>by rw[hi]at h;cases h.2) j),if_neg y,if_neg A]at hF;have i:=a9.out;unfold Zd9 at i;rw[if_pos o]at i;subst i;have q:=HE.out.on F1.out;have rr:=Zae q.blk _ (Fr.refl _ _);have c5:=hid (Za4 b l s S1 8 s.r.at_ w1 hl (by decide) (HR.out.on F1.out));clear q hc;go_wp2_with fail;with_reducible refine c5.out.mono ?_
      rintro e w2 ⟨rfl,e2,t2⟩;go_wp2;go_meet
      case rel=>exact⟨rfl,fun h=>by rcases h with⟨_,h⟩|h;(first|(cases h;done)|(rw[hi]at h;cases h));exact j h,y,A,e2,(Stp.of F1.out).trans t2⟩
    ·have e6:((c.toNat:Int)==41)=false:=Zn (b:=41) o;by_cases j:c=124
     ·have d3:((c.toNat:Int)==124)=true:=Zcy (b:=124) j;rw[if_pos (.inr j)]at hF;subst hF;clear hc;go_wp2_with fail;refine(HJ.out _ F1.out).mono ?_;rintro e wj ⟨r,rfl,H,fj⟩;have X:=hid H;have FJ:=hid (F1.out.trans' fj);clear H fj;go_wp2;go_ret;exact⟨r,S1,rfl,X.out,HR.out.on FJ.out,p.out.trans (Stp.of FJ.out)⟩
     ·have d3:((c.toNat:Int)==124)=false:=Zn (b:=124) j;rw[if_neg (fun h=>h.elim (fun h=>o h.1) j)]at hF;by_cases y:c=94
      ·have e7:((c.toNat:Int)==94)=true:=Zcy (b:=94) y;rw[if_pos y]at hF;have b6:=hid hF;clear hF hc;have q:=HE.out.on F1.out;have rr:=Zae q.blk _ (Fr.refl _ _);have K:=q.turned 2 (.int .i64 ((s.r.at_:Int)+1)) (s.go 1) (by simp[RxS.go,ES.go]) rfl rfl q.ok;have t2:=(Stp.of F1.out).trans (q.stp 2 (.int .i64 ((s.r.at_:Int)+1)));obtain⟨w2,D⟩:∃w2,w2=w1.setCell ⟨b,2,none⟩ (.int .i64 ((s.r.at_:Int)+1)):=⟨_,rfl⟩;rw[←D]at K t2;have b0:=hid (HP.out.stp t2);have V:=hid (a6.out.stp t2).lt;have R:=hid (show∀k,O k→k<w2.heap.size from fun k hk=>Nat.lt_of_lt_of_le (M.out k hk) (Nat.le_trans p.out.fr.size t2.fr.size));have P:=hid (Nat.le_trans p.out.fr.size t2.fr.size);have U:w2.heap.size=w1.heap.size:=by rw[D];simp[World.setCell]
       have H2:=hid D;have E2:=hid (show Erd b l (s.go 1) S1 w2 from⟨_,_,_,K⟩);have T2:=hid t2;clear q K t2 D;go_wp2_with(first|(with_reducible rw[←H2.out])|(at_builtin;refine wpList_append_pts (W:=w) (S:=S1) (O:=O) rfl (.tmp 37) (.tmp 40) rfl ps .start v5 (.iface 145 (.agg #[])) _ w1.heap.size (by rw[a8.out];rfl) b0.out V.out R.out P.out U.symm (by rfl) (by rw[RN]) (by omega) ?_;intro va wa B t;obtain⟨aa,ca,G⟩:=B.shape;simp only[List.length_append,List.length_singleton]at G;subst G;have Z:=hid B;have E:=hid t;clear B t));go_roundg m
       case measure=>omega
       case rel=>
        refine⟨true,s.go 1,ps++[.start],S1,rfl,Z.out,E2.out.off E.out b8,(p.out.trans T2.out).off E.out,J.out.goE d7,?_,?_,b6.out⟩
        ·show l.length<m+(s.r.at_+1);omega
        ·rw[Nd.sizes_append];show Nd.sizes ps+(1+0)≤3*(s.r.at_+1);omega
      ·have e7:((c.toNat:Int)==94)=false:=Zn (b:=94) y;rw[if_neg y]at hF;by_cases A:c=36
       ·have g0:((c.toNat:Int)==36)=true:=Zcy (b:=36) A;rw[if_pos A]at hF;have b6:=hid hF;clear hF hc;have q:=HE.out.on F1.out;have rr:=Zae q.blk _ (Fr.refl _ _);have K:=q.turned 2 (.int .i64 ((s.r.at_:Int)+1)) (s.go 1) (by simp[RxS.go,ES.go]) rfl rfl q.ok;have t2:=(Stp.of F1.out).trans (q.stp 2 (.int .i64 ((s.r.at_:Int)+1)));obtain⟨w2,D⟩:∃w2,w2=w1.setCell ⟨b,2,none⟩ (.int .i64 ((s.r.at_:Int)+1)):=⟨_,rfl⟩;rw[←D]at K t2;have b0:=hid (HP.out.stp t2);have V:=hid (a6.out.stp t2).lt;have R:=hid (show∀k,O k→k<w2.heap.size from fun k hk=>Nat.lt_of_lt_of_le (M.out k hk) (Nat.le_trans p.out.fr.size t2.fr.size));have P:=hid (Nat.le_trans p.out.fr.size t2.fr.size);have U:w2.heap.size=w1.heap.size:=by rw[D];simp[World.setCell]
        have H2:=hid D;have E2:=hid (show Erd b l (s.go 1) S1 w2 from⟨_,_,_,K⟩);have T2:=hid t2;clear q K t2 D;go_wp2_with(first|(with_reducible rw[←H2.out])|(at_builtin;refine wpList_append_pts (W:=w) (S:=S1) (O:=O) rfl (.tmp 51) (.tmp 54) rfl ps .fin v5 (.iface 146 (.agg #[])) _ w1.heap.size (by rw[a8.out];rfl) b0.out V.out R.out P.out U.symm (by rfl) (by rw[RN]) (by omega) ?_;intro va wa B t;obtain⟨aa,ca,G⟩:=B.shape;simp only[List.length_append,List.length_singleton]at G;subst G;have Z:=hid B;have E:=hid t;clear B t));go_roundg m
        case measure=>omega
        case rel=>
         refine⟨true,s.go 1,ps++[.fin],S1,rfl,Z.out,E2.out.off E.out b8,(p.out.trans T2.out).off E.out,J.out.goE d7,?_,?_,b6.out⟩
         ·show l.length<m+(s.r.at_+1);omega
         ·rw[Nd.sizes_append];show Nd.sizes ps+(1+0)≤3*(s.r.at_+1);omega
       ·have g0:((c.toNat:Int)==36)=false:=Zn (b:=36) A;rw[if_neg A]at hF;obtain⟨sp,a⟩:∃x,spc c=x:=⟨_,rfl⟩;have d5:=hid a;clear a;go_upto_if 56 with(fail)
        go_cut [56] (fun v w'=>v=.bool sp∧w1=w')
        case first=>
         have a:=d5.out;cases sp with
         |true=>
          rcases spc_iff.1 a with h|h|h|h
          ·have n0:((c.toNat:Int)==42)=true:=by rw[h];rfl
           clear a h;go_wp2;go_meet
           case rel=>exact⟨by rw[n0],rfl⟩
          ·have n0:((c.toNat:Int)==42)=false:=by rw[h];rfl
           have n1:((c.toNat:Int)==43)=true:=by rw[h];rfl
           clear a h;go_wp2;go_meet
           case rel=>exact⟨rfl,rfl⟩
          ·have n0:((c.toNat:Int)==42)=false:=by rw[h];rfl
           have n1:((c.toNat:Int)==43)=false:=by rw[h];rfl
           have n2:((c.toNat:Int)==63)=true:=by rw[h];rfl
           clear a h;go_wp2;go_meet
           case rel=>exact⟨rfl,rfl⟩
          ·have n0:((c.toNat:Int)==42)=false:=by rw[h];rfl
           have n1:((c.toNat:Int)==43)=false:=by rw[h];rfl
           have n2:((c.toNat:Int)==63)=false:=by rw[h];rfl
           have n3:((c.toNat:Int)==123)=true:=by rw[h];rfl
           clear a h;go_wp2;go_meet
           case rel=>exact⟨rfl,rfl⟩
         |false=>
          have Q:∀d:UInt8,spc d=true→c≠d:=fun d hd e=>by rw[e,hd]at a;cases a
          have n0:((c.toNat:Int)==42)=false:=Zn (b:=42) (Q 42 rfl);have n1:((c.toNat:Int)==43)=false:=Zn (b:=43) (Q 43 rfl);have n2:((c.toNat:Int)==63)=false:=Zn (b:=63) (Q 63 rfl);have n3:((c.toNat:Int)==123)=false:=Zn (b:=123) (Q 123 rfl);clear a Q;go_wp2;go_meet
          case rel=>exact⟨rfl,rfl⟩
        case rest=>
         obtain⟨rfl,rfl⟩:=hcut;have b9:=hid (HE.out.on F1.out);have rr:=Zae b9.out.blk _ (Fr.refl _ _);have i:=a9.out;have a:=d5.out;unfold Zd9 at i;rw[if_neg o]at i;cases sp with
         |true=>
          cases I with
          |true=>
           rw[if_pos ⟨spc_iff.1 a,rfl⟩]at i;subst i;have c5:=hid (Za4 b l s S1 10 s.r.at_ w1 hl (by decide) (HR.out.on F1.out));clear a hF hc;go_wp2_with fail;with_reducible refine c5.out.mono ?_
           rintro e w2 ⟨rfl,e2,t2⟩;go_wp2;go_meet
           case rel=>exact⟨rfl,fun h=>h.elim (fun h=>o h.1) j,y,A,e2,(Stp.of F1.out).trans t2⟩
          |false=>
           rw[if_neg (fun h=>by cases h.2)]at i;subst i;clear a hF hc;go_wp2;go_meet
           case rel=>exact⟨rfl,fun h=>h.elim (fun h=>o h.1) j,y,A,⟨_,_,_,b9.out⟩,Stp.of F1.out⟩
         |false=>
          rw[if_neg (fun h=>by rw[spc_iff.2 h.1]at a;cases a)]at i;subst i;clear a hF hc;go_wp2;go_meet
          case rel=>exact⟨rfl,fun h=>h.elim (fun h=>o h.1) j,y,A,⟨_,_,_,b9.out⟩,Stp.of F1.out⟩
   case rest=>
    obtain⟨rfl,c7,y,A,⟨g6,m2,g5,e2⟩,t2⟩:=hcut;rw[if_neg c7,if_neg y,if_neg A]at hF;have d1:=Zae e2.blk _ (Fr.refl _ _);have T1:=hid t2;clear t2;cases hx:fs.x with
    |some z=>
     rw[hx]at hF;simp only[Option.isSome_some,if_true]at hF;subst hF;have a0:eX fs.x≠0:=by rw[hx];exact e2.ok z hx
     obtain⟨ev,e1⟩:∃ev,eX fs.x=ev:=⟨_,rfl⟩;rw[e1]at d1 a0;have g3:((ev:Int) !=0)=true:=by simpa using a0
     have E2:=hid e2;clear e2 hx e1;go_wp2;go_ret;exact⟨.nilIface,S1,rfl,by rw[RN],⟨_,_,_,E2.out⟩,p.out.trans T1.out⟩
    |none=>
     have a0:eX fs.x=0:=by rw[hx];rfl
     obtain rfl:s=fs:=by
      have h:=a9.out;unfold Zd9 at h;by_cases o:c=41
      ·rw[if_pos o]at h;rw[←h]at hx;exact absurd hx (by intro hh;cases hh)
      rw[if_neg o]at h;by_cases hq:(c=42∨c=43∨c=63∨c=123)∧I=true
      ·rw[if_pos hq]at h;rw[←h]at hx;exact absurd hx (by intro hh;cases hh)
      ·rw[if_neg hq]at h;exact h
     rw[hx]at hF;simp only[Option.isSome_none,Bool.false_eq_true,if_false]at hF;rw[a0]at d1;have E1:=hid (show Erd b l s S1 wc from⟨_,_,_,e2⟩);clear e2 a0;have d9:=HP.out.stp T1.out;have a7:=a6.out.stp T1.out;have c1:=ZkN b l W0 deep C s S1 (PO O v5) wc c (d9.lt (fun k hk=>Nat.lt_of_lt_of_le (M.out k hk) (Nat.le_trans p.out.fr.size T1.out.fr.size))) hl f2.out HG.out J.out hc a7 E1.out;have e4:=(atomX_kept HC.out (c:=c) J.out hc);have L:=Zgf (l:=l) (C:=C) (s:=s) (c:=c);obtain⟨ta,s2,hq⟩:∃ta s2,Zax l C s c=(ta,s2):=⟨_,_,rfl⟩;rw[hq]at c1 e4 L hF;simp only at hF L;obtain⟨⟨a1,a2,a3,a4⟩,a5⟩:=e4;have a1:Sane l s2.r:=a1;have a3:ta.size+3*s.r.at_≤3*s2.r.at_+0:=a3;have a5:s.r.at_<s2.r.at_:=a5;have c8:=Zb9 (l.length+1) s2 ta a1;obtain⟨tr,s3,c4⟩:∃tr s3,ZbR l (l.length+1) s2 ta=(tr,s3):=⟨_,_,rfl⟩;rw[c4]at c8 hF;simp only at hF;obtain⟨b1,b2,b3,b4⟩:=c8
     have b1:Sane l s3.r:=b1;have b2:s2.r.at_≤s3.r.at_:=b2;have b3:tr.size+3*s2.r.at_≤3*s3.r.at_+ta.size:=b3;have d2:ta≠.nil∨l[s2.r.at_]? =none:=by
      by_cases h:ta=.nil
      ·exact .inr (L h)
      ·exact .inl h
     have f6:=hid c1;have f8:=hid hF;have B1:=hid b1;have A1:=hid a1;have g1:=hid d2;have e8:=hid c4;clear hx d9 a7 c1 L hq hF a1 a2 a4 b1 b4 d2 c4 hc;go_wp2_with fail;with_reducible refine f6.out.mono ?_
     rintro e w2 ⟨v2,S2,rfl,d8,e2,d0⟩;have b7:=Zeb b l s2 ta v2 S2 (PO O v5) w2 hl A1.out g1.out d8 e2;rw[e8.out]at b7;have f4:=hid b7;have f3:=hid (T1.out.trans d0);clear d8 e2 d0 b7;go_wp2_with fail;with_reducible refine f4.out.mono ?_
     rintro e w3 ⟨v3,S3,rfl,c0,e3,d4⟩;have T3:=hid (f3.out.trans d4);have E3:=hid e3;have f9:=hid c0;have f5:=ZdL c0;clear c0 e3 d4;have e9:=hid (HP.out.stp T3.out);have c9:=hid (a6.out.stp T3.out).lt;have R:=hid (show∀k,O k→k<w3.heap.size from fun k hk=>Nat.lt_of_lt_of_le (M.out k hk) (Nat.le_trans p.out.fr.size T3.out.fr.size));have P:=hid (Nat.le_trans p.out.fr.size T3.out.fr.size);rcases f5 with rfl|⟨vi,vy,rfl⟩
     all_goals
      go_wp2_with(at_builtin;refine wpList_append_pts (W:=w) (S:=S3) (O:=O) rfl (.tmp 73) (.tmp 79) rfl ps tr v5 _ _ _ (by rw[a8.out];rfl) e9.out c9.out R.out P.out rfl (by rfl) f9.out (by omega) ?_;intro va wa B t;obtain⟨aa,ca,G⟩:=B.shape;simp only[List.length_append,List.length_singleton]at G;subst G;have Z:=hid B;have E:=hid t;clear B t);go_roundg m
      case measure=>omega
      case rel=>
       refine⟨false,s3,ps++[tr],S3,rfl,Z.out,E3.out.off E.out b8,(p.out.trans T3.out).off E.out,B1.out,?_,?_,f8.out⟩
       ·omega
       ·rw[Nd.sizes_append];show Nd.sizes ps+(tr.size+0)≤3*s3.r.at_;omega
end Go.Proofs.YtkfddjopbocpkaaGreatDoor
