/- Lemmas of this claim. -/
import Derived.Test.YtgllcniibbaoaaaGreatDoorJ14
set_option linter.all false
set_option maxRecDepth 100000
set_option maxHeartbeats 24000000
namespace Go.Proofs.YtgllcniibbaoaaaGreatDoor
open Go.Proofs.Tryz
open Go.Lib (hid)
open Go.RowKit
theorem Zge(b:UInt8)(hb:b.toNat<128):Utf8.encode (b.toNat:Int)=⟨#[b]⟩:=by
 have hv:Utf8.valid (b.toNat:Int)=true:=by unfold Utf8.valid;simp;omega
 unfold Utf8.encode;simp only[hv,if_true,Int.toNat_natCast];rw[if_pos hb];simp
theorem Zca{P:Program}{w:World}(f:Value→ByteArray→Sem (ForInStep ByteArray))(hf:∀(n:Int) (r:ByteArray),(f (.int .i32 n) r).run P w=.ok (.yield (r++Utf8.encode n)) w):
 ∀(bs:List UInt8) (s:ByteArray),(∀b∈bs,b.toNat<128)→(forIn (Zbk bs) s f).run P w=.ok ⟨s.data++bs.toArray⟩ w
 |[],s,_=>by
  have:(⟨s.data++ #[]⟩:ByteArray)=s:=by apply ByteArray.ext;simp
  simp[Zbk,Sem.run_pure,this]
 |b::bs,s,h=>by
  simp only[Zbk,List.map_cons,List.forIn_cons,Sem.run_bind,hf,Result.andThen];rw[Zge b (h b (by simp))];have:=Zca f hf bs (s++⟨#[b]⟩) (fun x hx=>h x (by simp[hx]));rw[show(forIn (List.map (fun c:UInt8=>Value.int .i32 (c.toNat:Int)) bs) (s++⟨#[b]⟩) f)=forIn (Zbk bs) (s++⟨#[b]⟩) f from rfl,this]
  congr 1
  apply ByteArray.ext;simp
theorem Zer{P:Program}{src dst e:TypeId}(hs:P.underlying src=some (.slice e))(he:P.underlying e=some (.int .i32))(hd:P.underlying dst=some .string)(a:Addr)(cap:Nat)(bs:List UInt8)(hb:∀b∈bs,b.toNat<128)(W:World)
 (hc:∀j v,(Zbk bs)[j]? =some v→W.cell? (a.add j)=some v):
 (convert src dst (.slice (some a) bs.length cap)).run P W=.ok (.string ⟨bs.toArray⟩) W:=by
 have hl:=run_loadCells_list (P:=P) W a (Zbk bs) hc;rw[show(Zbk bs).length=bs.length from by simp[Zbk]]at hl;rw[show(convert src dst (.slice (some a) bs.length cap)).run P W=(Conv.runesToString (.slice (some a) bs.length cap)).run P W from by simp[convert,run_underlying hs,run_underlying hd,run_underlying he]];unfold Conv.runesToString;simp only[Sem.run_bind,hl,Result.andThen,List.forIn_toArray];rw[Zca _ (by intro n r;simp[Sem.run_pure]) bs _ hb];simp[Sem.run_pure]
theorem run_conv_runes2(c:UInt8)(hc:c.toNat<128)(g:Nat)(W:World){T:TypeId}(hb:W.heap[g]? =some (.cells #[.int .i32 92,.int .i32 (c.toNat:Int)] T (0,0))):
 (convert 89 9 (.slice (some ⟨g,0,none⟩) 2 2)).run prog W=.ok (.string ⟨#[92,c]⟩) W:=by
 refine Zer underlying89 underlying21 underlying9 _ 2 [92,c] (by intro b h;simp at h;rcases h with rfl|rfl;decide;exact hc) W ?_;intro j v hj
 match j,hj with
 |0,hj=>simp[Zbk]at hj;subst hj;exact cell_at hb rfl
 |1,hj=>simp[Zbk]at hj;subst hj;exact cell_at hb rfl
section
variable {b:Nat} {l:List UInt8} {s:ES} {S:Nat→Prop} {sv:Value} {m:Nat} {mv v':Value} {w W0 w3:World}
theorem Er.pushM(h:Er b l s S sv m mv w)(f:Fr nob w W0)(hap:Appd 1 mv v' W0 w3){t:List UInt8}
 (hown:w3.ownsRow 0 95 2 v' (s.r.marks.length+1) (mkC s.r.marks++[.int .i64 s.r.at_,.string ⟨t.toArray⟩])):
 (w3.cell? ⟨b,5,none⟩=some mv∧w3.frozen? ⟨b,5,none⟩=false)∧Erd b l (s.mark t) (Zf0 S v') (w3.setCell ⟨b,5,none⟩ v')∧Stp S w (Zf0 S v') (w3.setCell ⟨b,5,none⟩ v'):=by
 have h0:=h.on f;have c:=hap.fr.heap h0.blk (fun e=>(h.nm b e).1 rfl);have n:=f.size;have hb:=lt_heap h.blk;have hm:=h.mp.lt;have d:=(Fr.refl (fun k=>k=b) w3).setCell (p:=⟨b,5,none⟩) (fun _=>rfl) v';have a:∀k,v'.ownBlock=some k→(k≠b∧k≠m)∧∀j,sv.ownBlock=some j→k≠j:=fun k e=>by
  rcases hap.old k e with h1|h1
  ·obtain⟨n1,n2,n3⟩:=h.nm k h1;exact⟨⟨n1,n2⟩,fun j hj e=>(h.ns j hj).2 (e▸n3)⟩
  ·exact⟨⟨by omega,by omega⟩,fun j hj e=>by have:=(h.ns j hj).1;omega⟩
 have i:=ownsRow_fr h0.sg hap.fr (fun k hk e=>(h.ns k hk).2 (h.nm k e).2.2);have g:=h0.mp.fr hap.fr (fun e=>(h.nm m e).2.1 rfl);refine⟨⟨cell_at c rfl,ZF c 5⟩,⟨sv,m,v',by have:=Za c 5 v';simpa[RxS.mark,ES.mark]using this,ownsRow_fr i d (fun k hk e=>(h.ns k hk).2 (e▸h.me)),g.fr d (fun e=>h.bm e.symm),?_,fun k hk=>⟨(a k hk).1.1,(a k hk).1.2,.inr hk⟩,h.bm,fun k hk=>⟨(h.ns k hk).1,fun x=>x.elim (h.ns k hk).2 (fun y=>(a k y).2 k hk rfl)⟩,.inl h.me,.inl h.mm,h.ok⟩,?_,?_,?_⟩
 ·have:=ownsRow_fr hown d (fun k hk e=>(a k hk).1.1 e);unfold OwM;simp only[ES.mark,RxS.mark,List.length_append,List.length_singleton,Zch];exact this
 ·exact(f.any.trans (hap.fr.mono (T:=S) fun k _ hk=>(h.nm k hk).2.2) (fun _ _ x=>x)).setCell (p:=⟨b,5,none⟩) (fun _=>h.me) v'
 ·intro k hk hx;rcases hx with hx|hx
  ·exact hx
  ·rcases hap.old k hx with h1|h1
   ·exact(h.nm k h1).2.2
   ·omega
 ·intro hl k hk;have hz:(w3.setCell ⟨b,5,none⟩ v').heap.size=w3.heap.size:=by simp[World.setCell]
  rw[hz];rcases hk with hk|hk
  ·have:=hl k hk;have:=hap.fr.size;omega
  ·exact Z3 hown k hk
end
def Zmo(b:Nat)(l:List UInt8)(S O:Nat→Prop)(w:World)(q:Nd×ES)(x:Ending)(w':World):Prop:=
 ∃v S',x=.returned v∧RN (SO S' O) w' q.1 v∧Erd b l q.2 S' w'∧Stp S w S' w'
theorem ZeH{c:UInt8}(h:ZdK c=true):c=116∨c=119∨c=87∨c=115∨c=83∨c=49∨c=50∨c=51∨c=52∨c=53∨c=54∨c=55∨c=56∨c=57:=by
 unfold ZdK at h;simp only[Bool.or_eq_true,beq_iff_eq,Bool.and_eq_true,decide_eq_true_eq]at h;rcases h with h|h|h|h|h|⟨h1,h2⟩
 ·simp[h]
 ·simp[h]
 ·simp[h]
 ·simp[h]
 ·simp[h]
 ·have:∀n:Nat,49≤n→n≤57→n=49∨n=50∨n=51∨n=52∨n=53∨n=54∨n=55∨n=56∨n=57:=fun n _ _=>by omega
  have a:∀d:UInt8,c.toNat=d.toNat→c=d:=fun d e=>UInt8.toNat_inj.1 e;rcases this c.toNat h1 h2 with e|e|e|e|e|e|e|e|e
  ·have:=a 49 e;simp[this]
  ·have:=a 50 e;simp[this]
  ·have:=a 51 e;simp[this]
  ·have:=a 52 e;simp[this]
  ·have:=a 53 e;simp[this]
  ·have:=a 54 e;simp[this]
  ·have:=a 55 e;simp[this]
  ·have:=a 56 e;simp[this]
  ·have:=a 57 e;simp[this]
theorem ZkM(b:Nat)(l:List UInt8)(s:ES)(S O:Nat→Prop)(w:World)(hl:l.length≤100000)(ha:s.r.at_<l.length)(hs:Sane l s.r)(hlt:∀k,S k→k<w.heap.size)(h:Erd b l s S w):
 Calls prog 128 #[.pointer (some ⟨b,0,none⟩)] w (Zmo b l S O w (ZkG l s)):=by
 obtain⟨R,hR⟩:∃R,ZkG l s=R:=⟨_,rfl⟩;rw[hR];have j:=fun w' (f:Fr nob w w')=>Zgc b l s S 1 w' hl (by omega) (by omega) (h.on f);have HH:=hid h;obtain⟨sv,m,mv,hE⟩:=h;have rr:=Zae hE.blk;have HE:=hid hE;have b1:=hid hlt;have HS:=hid hs;unfold ZkG at hR;cases hc:l[s.r.at_+1]? with
 |none=>
  rw[hc]at hR j;simp only at hR;subst hR;have HB:=hid j;clear hE hlt hs j hc;go_enter func128,ntmps128;go_wp2_with fail;refine region_fr 6 (by kernel_rfl) (by kernel_rfl) ?_;simp only[List.take_succ_cons,List.take_zero,List.drop_succ_cons,List.drop_zero]
  repeat(quiet_step ((with_reducible exact calls_fr (HB.out _ (grown_fr _ _ _)))))
  refine wpQuiet_nil ?_;intro w1 f1;have hf:=Za4 b l s S 11 s.r.at_ w1 hl (by decide) (HH.out.on f1);have HF:=hid hf;have F1:=hid f1;clear hf f1;go_wp2_with fail;refine HF.out.mono ?_;rintro e w2 ⟨rfl,e2,t2⟩;have E2:=hid e2;have T2:=hid t2;clear e2 t2;go_wp2;go_ret;exact⟨.nilIface,S,rfl,by rw[RN],E2.out,(Stp.of F1.out).trans T2.out⟩
 |some c=>
  rw[hc]at hR j;simp only at hR;have c6:=ZK hc;have HB:=hid j;clear hE hlt j hc;go_enter func128,ntmps128;go_wp2_with fail;refine region_fr 6 (by kernel_rfl) (by kernel_rfl) ?_;simp only[List.take_succ_cons,List.take_zero,List.drop_succ_cons,List.drop_zero]
  repeat(quiet_step ((with_reducible exact calls_fr (HB.out _ (grown_fr _ _ _)))))
  refine wpQuiet_nil ?_;intro w1 f1;have d1:=c.toNat_lt;have d3:¬(c.toNat:Int)= -1:=by omega
  have g:=HE.out.on f1;have F1:=hid f1;have o:=hid g;clear f1 g rr;simp only[rnX];go_upto_block 0 with(fail)
  go_cut [] (fun w'=>∃S',Erd b l (if ZdK c then s.mark [92,c]else s) S' w'∧Stp S w1 S' w')
  case first=>
   go_upto_if 20 with(fail)
   go_cut [20] (fun v w'=>v=.bool (ZdK c)∧w1=w')
   case first=>
    cases hm:ZdK c with
    |true=>
     have A:=ZeH hm;have HM:=hid hm;clear hm;rcases Bool.eq_false_or_eq_true ((c.toNat:Int)==116)with n0|n0;rotate_left
     rcases Bool.eq_false_or_eq_true ((c.toNat:Int)==119)with n1|n1;rotate_left
     rcases Bool.eq_false_or_eq_true ((c.toNat:Int)==87)with n2|n2;rotate_left
     rcases Bool.eq_false_or_eq_true ((c.toNat:Int)==115)with n3|n3;rotate_left
     rcases Bool.eq_false_or_eq_true ((c.toNat:Int)==83)with n4|n4;rotate_left
     rcases Bool.eq_false_or_eq_true ((c.toNat:Int)==49)with n5|n5;rotate_left
     rcases Bool.eq_false_or_eq_true ((c.toNat:Int)==50)with n6|n6;rotate_left
     rcases Bool.eq_false_or_eq_true ((c.toNat:Int)==51)with n7|n7;rotate_left
     rcases Bool.eq_false_or_eq_true ((c.toNat:Int)==52)with n8|n8;rotate_left
     rcases Bool.eq_false_or_eq_true ((c.toNat:Int)==53)with n9|n9;rotate_left
     rcases Bool.eq_false_or_eq_true ((c.toNat:Int)==54)with V|V;rotate_left
     rcases Bool.eq_false_or_eq_true ((c.toNat:Int)==55)with Z|Z;rotate_left
     rcases Bool.eq_false_or_eq_true ((c.toNat:Int)==56)with a0|a0;rotate_left
     rcases Bool.eq_false_or_eq_true ((c.toNat:Int)==57)with a1|a1;rotate_left
     ·exfalso
      revert n0 n1 n2 n3 n4 n5 n6 n7 n8 n9 V Z a0 a1
      rcases A with rfl|rfl|rfl|rfl|rfl|rfl|rfl|rfl|rfl|rfl|rfl|rfl|rfl|rfl<;>decide
     all_goals clear A
     all_goals
      go_wp2;go_meet
      case rel=>exact⟨by rw[HM.out];try rw[n0],rfl⟩
    |false=>
     have n:∀d:UInt8,ZdK d=true→((c.toNat:Int)==d.toNat)=false:=fun d hd=>Zn fun e=>by rw[e,hd]at hm;cases hm
     have n0:((c.toNat:Int)==116)=false:=n 116 rfl;have n1:((c.toNat:Int)==119)=false:=n 119 rfl;have n2:((c.toNat:Int)==87)=false:=n 87 rfl;have n3:((c.toNat:Int)==115)=false:=n 115 rfl;have n4:((c.toNat:Int)==83)=false:=n 83 rfl;have n5:((c.toNat:Int)==49)=false:=n 49 rfl;have n6:((c.toNat:Int)==50)=false:=n 50 rfl;have n7:((c.toNat:Int)==51)=false:=n 51 rfl;have n8:((c.toNat:Int)==52)=false:=n 52 rfl;have n9:((c.toNat:Int)==53)=false:=n 53 rfl;have V:((c.toNat:Int)==54)=false:=n 54 rfl;have Z:((c.toNat:Int)==55)=false:=n 55 rfl;have a0:((c.toNat:Int)==56)=false:=n 56 rfl;have a1:((c.toNat:Int)==57)=false:=n 57 rfl;have HM:=hid hm;clear n hm;go_wp2;go_meet
     case rel=>exact⟨by rw[HM.out],rfl⟩
   case rest=>
    obtain⟨rfl,rfl⟩:=hcut;cases hm:ZdK c with
    |true=>
     have a2:=Zae o.out.blk;obtain⟨am,cm,b6⟩:=Zb o.out.ma;subst b6;obtain⟨i0,hi,b8,b9,c0⟩:=info_parts Zbv;have A:=ZeH hm;have z:c.toNat<128:=by rcases A with rfl|rfl|rfl|rfl|rfl|rfl|rfl|rfl|rfl|rfl|rfl|rfl|rfl|rfl<;>decide
     have B:∀W:World,W.heap[w1.heap.size]? =some (.cells #[.int .i32 92,.int .i32 (c.toNat:Int)] 21 (0,0))→(convert 89 9 (.slice (some ⟨w1.heap.size,0,none⟩) 2 2)).run prog W=.ok (.string ⟨#[92,c]⟩) W:=fun W hW=>run_conv_runes2 c z _ W hW;have c2:=B (w1.alloc (.cells #[.int .i32 92,.int .i32 (c.toNat:Int)] 21)).drew (newAt0 w1 _);have c3:=B (w1.drew.alloc (.cells #[.int .i32 92,.int .i32 (c.toNat:Int)] 21)) (newAt0 w1.drew _);have r5:∀W,Fr nob w1 W→W.cell? ⟨b,5,none⟩=some (.slice am s.r.marks.length cm):=fun W f=>(a2 W f).1.2.2.2.2.2.1;have d6:∀X,(w1.alloc X).cell? ⟨b,5,none⟩=some (.slice am s.r.marks.length cm):=fun X=>r5 _ ((Fr.refl nob w1).alloc X);have d7:∀X Y,((w1.alloc X).alloc Y).cell? ⟨b,5,none⟩=some (.slice am s.r.marks.length cm):=fun X Y=>r5 _ (((Fr.refl nob w1).alloc X).alloc Y);have d2:=hs.mr;have HM:=hid hm;clear B z hm A;go_wp2_with fail
     go_region_law (refine step_append_g rfl (.tmp 39) (.tmp 45) 25 rfl 95 i0 (.agg #[.int .i64 0,.string ByteArray.empty]) 2 24 underlying25 hi b8 b9 c0 rfl (by decide) (.slice am s.r.marks.length cm) s.r.marks.length (mkC s.r.marks) (by rfl) (ownsRow_fr o.out.ma (by repeat(first|exact Fr.refl _ _|apply Fr.alloc|apply Fr.drew)) (fun _ _ x=>x)) ⟨w1.heap.size+1,0,none⟩ 1 1 [.int .i64 s.r.at_,.string ⟨#[92,c]⟩] (by rfl) rfl (Zdg (t:=[92,c]) (by first|exact newAt0 _ _|exact Zg _ _ _ (by simp))) (Zf1 (t:=[92,c])) (by unfold maxLen;omega) (by omega) ?_;intro v' w3 i a6;obtain⟨av,d0,rfl⟩:=Zb i;obtain⟨⟨pc,pf⟩,q1,q2⟩:=o.out.pushM (t:=[92,c]) (by repeat(first|exact Fr.refl _ _|apply Fr.alloc|apply Fr.drew)) a6 i;have HQ:=hid q1;have HR:=hid q2;clear i a6 q1 q2)
     all_goals
      go_wp2;go_meet
      case rel=>rw[if_pos HM.out];exact⟨_,HQ.out,HR.out⟩
    |false=>
     have HM:=hid hm;clear hm;go_wp2;go_meet
     case rel=>rw[if_neg (by rw[HM.out];decide)];exact⟨S,⟨sv,m,mv,o.out⟩,Stp.refl _ _⟩
  case rest=>
   obtain⟨S1,h1,a9⟩:=hcut;have y:(if ZdK c then s.mark [92,c]else s).r.at_=s.r.at_:=by cases ZdK c<;>rfl
   have M:(if ZdK c then s.mark [92,c]else s).r.closed=s.r.closed:=by cases ZdK c<;>rfl
   obtain⟨s1,a8⟩:∃s1,(if ZdK c then s.mark [92,c]else s)=s1:=⟨_,rfl⟩;rw[a8]at hR h1 y M;obtain⟨d8,m1,d5,g⟩:=h1;have D:=(Stp.of F1.out).trans a9;have N:∀k,S1 k→k<wc.heap.size:=D.lt b1.out;have F:=g.turned 2 (.int .i64 ((s.r.at_:Int)+2)) (s1.go 2) (by simp[ES.go,RxS.go,y]) rfl rfl g.ok;have a3:=D.trans (g.stp 2 (.int .i64 ((s.r.at_:Int)+2)));have a2:=Zae g.blk wc (Fr.refl nob wc);rw[y]at a2;obtain⟨wD,L⟩:∃wD,wD=wc.setCell ⟨b,2,none⟩ (.int .i64 ((s.r.at_:Int)+2)):=⟨_,rfl⟩;rw[←L]at F a3;have c7:wD.heap.size=wc.heap.size:=by rw[L];simp[World.setCell]
   have HD:=hid L;have p:=hid F;have E:=hid a3;have b0:=hid N;have c1:=Zae F.blk wD (Fr.refl nob wD);clear g a9 D L a8 F a3 N;by_cases hd:49≤c.toNat∧c.toNat≤57
   ·rw[if_pos hd]at hR;obtain⟨I,J⟩:=hd;have c4:(49:Int)≤c.toNat:=by omega
    have c5:(c.toNat:Int)≤57:=by omega
    obtain⟨n,hn⟩:∃n,c.toNat-48=n:=⟨_,rfl⟩;rw[hn]at hR;have C:((n:Nat):Int)=(c.toNat:Int)-48:=by omega
    have c8:IntKind.i32.wrap ((c.toNat:Int)-48)=(c.toNat:Int)-48:=IntWalk.i32_in _ (by omega);have c9:IntKind.i64.wrap ((c.toNat:Int)-48)=(c.toNat:Int)-48:=IntWalk.i64_in _ (by omega);have U:=ZfA (P:=prog) (mty:=91) (kt:=3) (et:=3) underlying91 underlying3 (fun w=>by kernel_rfl) p.out.mp n;rw[show(s1.go 2).r.closed=s.r.closed from M,C]at U;cases hq:s.r.closed.contains n with
    |true=>
     rw[if_pos hq]at hR;subst hR;have G:¬((s.r.closed.count n:Nat):Int)=0:=by
      have:0<s.r.closed.count n:=List.count_pos_iff.2 (by simpa using hq);omega
     obtain⟨k,hk⟩:∃k,s.r.closed.count n=k:=⟨_,rfl⟩;rw[hk]at U G;have HN:=hid C;clear hq hk hn C I J;go_wp2_with(with_reducible rw[←HD.out]);go_ret;refine⟨.iface 116 (.agg #[.int .i64 ((c.toNat:Int)-48)]),S1,rfl,?_,⟨_,_,_,p.out⟩,E.out⟩;rw[←HN.out,RN]
    |false=>
     rw[if_neg (by rw[hq];decide)]at hR;subst hR;have G:s.r.closed.count n=0:=List.count_eq_zero.2 (by simpa using hq);rw[G]at U;have hf:=Za4 b l (s1.go 2) S1 9 s.r.at_ wD hl (by decide) ⟨_,_,_,p.out⟩;have HF:=hid hf;clear hf;have HN:=hid C;clear hq G hn C I J;go_wp2_with(with_reducible rw[←HD.out]);with_reducible refine HF.out.mono ?_
     rintro e w5 ⟨rfl,e5,t5⟩;have E5:=hid e5;have T5:=hid (E.out.trans t5);clear e5 t5;go_wp2;go_ret;refine⟨.iface 116 (.agg #[.int .i64 ((c.toNat:Int)-48)]),S1,rfl,?_,E5.out,T5.out⟩;rw[←HN.out,RN]
   ·rw[if_neg hd]at hR;have H:(c.toNat:Int)<49∨((49:Int)≤c.toNat∧¬(c.toNat:Int)≤57):=by omega
    have Q:=ZpE c wD;have b4:∃u ok,ZkK c=(u,ok)∧((ok=true∧(Nd.one u,s1.go 2)=R)∨(ok=false∧(Nd.one u,(s1.go 2).fail l 2 s.r.at_)=R)):=by
     unfold ZkK;cases hb:ZjI c with
     |none=>rw[hb]at hR;exact⟨_,false,rfl,.inr ⟨rfl,hR⟩⟩
     |some q=>obtain⟨u,x⟩:=q;rw[hb]at hR;exact⟨u,true,rfl,.inl ⟨rfl,hR⟩⟩
    obtain⟨u,ok,hu,b5⟩:=b4;rw[hu]at Q;have a4:=hid Q;clear Q hR hu hd;have a5:∀(w3:World),Fr nob wD w3→¬S1 w3.heap.size:=fun w3 f hk=>by have:=b0.out _ hk;have:=f.size;omega
    have b3:=hid a5;clear a5;rcases b5 with⟨rfl,rfl⟩|⟨rfl,rfl⟩
    ·rcases H with H|⟨I,J⟩
     all_goals
      go_wp2_with(with_reducible rw[←HD.out]);with_reducible refine a4.out.mono ?_
      rintro e w3 ⟨rfl,f3⟩;go_wp2;go_ret;exact⟨.iface 134 (.agg #[.int .u64 u.a,.int .u64 u.b,.int .u64 u.c,.int .u64 u.d]),S1,rfl,by rw[RN];rfl,⟨_,_,_,p.out.on (f3.alloc _)⟩,E.out.trans (Stp.of (f3.alloc _))⟩
    ·rcases H with H|⟨I,J⟩
     all_goals
      go_wp2_with(with_reducible rw[←HD.out]);with_reducible refine a4.out.mono ?_
      rintro e w3 ⟨rfl,f3⟩;obtain⟨w4,K⟩:∃w4,w4=w3.alloc (.cells #[.int .u64 u.a,.int .u64 u.b,.int .u64 u.c,.int .u64 u.d] 132):=⟨_,rfl⟩;have f4:Fr nob wD w4:=by rw[K];exact f3.alloc _
      have a7:w4.heap[w3.heap.size]? =some (.cells #[.int .u64 u.a,.int .u64 u.b,.int .u64 u.c,.int .u64 u.d] 132 (0,0)):=by rw[K];exact newAt0 w3 _
      have hf:=Za4 b l (s1.go 2) S1 2 s.r.at_ w4 hl (by decide) ⟨_,_,_,p.out.on f4⟩;have b7:=b3.out w3 f3;have HF:=hid hf;have H4:=hid K;have F4:=hid f4;have b2:=hid a7;clear hf K f4 a7 f3 c1;go_wp2_with(with_reducible rw[←H4.out]);with_reducible refine HF.out.mono ?_
      rintro e w5 ⟨rfl,e5,t5⟩;have d4:=Zl (t5.fr.heap b2.out b7) w5 (Fr.refl nob w5);have E5:=hid e5;have T5:=hid ((E.out.trans (Stp.of F4.out)).trans t5);clear e5 t5;go_wp2;go_ret;exact⟨.iface 134 (.agg #[.int .u64 u.a,.int .u64 u.b,.int .u64 u.c,.int .u64 u.d]),S1,rfl,by rw[RN];rfl,E5.out,T5.out⟩
def ZqX(b:Nat)(l:List UInt8)(S O:Nat→Prop)(w:World)(F:Nd×ES)(n:Nat)(v:Value)(wr:World):Prop:=
 ∃s t S',RN (SO S' O) wr t v∧Erd b l s S' wr∧Stp S w S' wr∧l.length<n+s.r.at_∧Sane l s.r∧(t≠.nil∨l[s.r.at_]? =none)∧ZbR l n s t=F
section
variable {l:List UInt8} {n:Nat} {s:ES} {t:Nd}
theorem Zn7(h:l[s.r.at_]? =some 42):ZbR l (n+1) s t=ZbR l n (s.go 1) (.rep t 0 (-1)):=by rw[ZbR,if_pos h]
theorem Zn8(h:l[s.r.at_]? =some 43):ZbR l (n+1) s t=ZbR l n (s.go 1) (.rep t 1 (-1)):=by rw[ZbR,if_neg (by rw[h];decide),if_pos h]
theorem Zn9(h:l[s.r.at_]? =some 63):ZbR l (n+1) s t=ZbR l n (s.go 1) (.rep t 0 1):=by rw[ZbR,if_neg (by rw[h];decide),if_neg (by rw[h];decide),if_pos h]
theorem Zmp(h:l[s.r.at_]? =some 123):ZbR l (n+1) s t=if(Zd8 l (s.go 1)).2.2.1 then ZbR l n (Zd8 l (s.go 1)).2.2.2 (.rep t (Zd8 l (s.go 1)).1 (Zd8 l (s.go 1)).2.1)else(t,(Zd8 l (s.go 1)).2.2.2.fail l 7 s.r.at_):=by
 rw[ZbR,if_neg (by rw[h];decide),if_neg (by rw[h];decide),if_neg (by rw[h];decide),if_pos h]
theorem Zmq(h1:¬l[s.r.at_]? =some 42)(h2:¬l[s.r.at_]? =some 43)(h3:¬l[s.r.at_]? =some 63)(h4:¬l[s.r.at_]? =some 123):ZbR l (n+1) s t=(t,s):=by
 rw[ZbR,if_neg h1,if_neg h2,if_neg h3,if_neg h4]
end
theorem Zeb(b:Nat)(l:List UInt8)(s:ES)(t:Nd)(v:Value)(S O:Nat→Prop)(w:World)(hl:l.length≤100000)(hs:Sane l s.r)(hnil:t≠.nil∨l[s.r.at_]? =none)(hv:RN (SO S O) w t v)(h:Erd b l s S w):
 Calls prog 99 #[.pointer (some ⟨b,0,none⟩),v] w (Zmo b l S O w (ZbR l (l.length+1) s t)):=by
 obtain⟨F,hF⟩:∃F,ZbR l (l.length+1) s t=F:=⟨_,rfl⟩;rw[hF];have HF:=hid hF;have HV:=hid hv;have HH:=hid h;have HS:=hid hs;clear hF hv h hs;go_enter func99,ntmps99;go_wp2_with fail
 go_loopg [1] (l.length+1) (fun n u wr=>ZqX b l S O w F n u wr)
 case atStart=>exact⟨s,t,S,HV.out,HH.out,Stp.refl _ _,by omega,HS.out,hnil,HF.out⟩
 case round=>
  clear HF HV HH HS hnil;clear s t;obtain⟨s,t,S1,hv,hr,y,hn,hs,hnil,hF⟩:=hrel;have B:=hs.le;obtain⟨m,rfl⟩:∃m,gk=m+1:=⟨gk-1,by omega⟩;have hN:=Zea b l s S1 wr hl B hr;obtain⟨sv,mm,mv,hE⟩:=hr;have o:=Zae hE.blk;have HV:=hid hv;have HE:=hid hE;have k:=hid y;have HF:=hid hF;have HS:=hid hs;have HN:=hid hN;clear hv hE y hF hs hN;by_cases f:l[s.r.at_]? =some 42
  ·obtain⟨vi,vy,rfl⟩:=HV.out.some (hnil.resolve_right (by rw[f];simp));clear hnil;have i:=ZK f;have hF:=HF.out;rw[Zn7 f]at hF;have c:=hid hF;have n0:=(rnX_test l[s.r.at_]? 42 42 rfl).trans (decide_eq_true f);obtain⟨R,hR⟩:∃R,rnX l[s.r.at_]? =R:=⟨_,rfl⟩;rw[hR]at HN n0;clear hF HF hR;go_wp2_with fail;with_reducible refine HN.out.mono ?_
   rintro e w1 ⟨rfl,f1⟩;have h1:=HE.out.on f1;have rr:=Zae h1.blk _ (Fr.refl _ _);have H1:=hid h1;have F1:=hid f1;clear h1 f1 o;go_wp2;go_roundg m
   case measure=>omega
   case rel=>
    have a:=H1.out.stp 2 (.int .i64 ((s.r.at_:Int)+1));refine⟨s.go 1,.rep t 0 (-1),S1,(((Stp.of F1.out).trans a).rn HV.out).rep _ _,⟨_,_,_,H1.out.turned 2 _ _ (by simp[RxS.go,ES.go]) rfl rfl H1.out.ok⟩,(k.out.trans (Stp.of F1.out)).trans a,?_,?_,?_,c.out⟩
    ·show l.length<m+(s.r.at_+1);omega
    ·exact HS.out.goE i
    ·exact .inl (by intro h;cases h)
  ·by_cases g:l[s.r.at_]? =some 43
   ·obtain⟨vi,vy,rfl⟩:=HV.out.some (hnil.resolve_right (by rw[g];simp));clear hnil;have i:=ZK g;have hF:=HF.out;rw[Zn8 g]at hF;have c:=hid hF;have n0:=(rnX_test l[s.r.at_]? 42 42 rfl).trans (decide_eq_false f);have n1:=(rnX_test l[s.r.at_]? 43 43 rfl).trans (decide_eq_true g);obtain⟨R,hR⟩:∃R,rnX l[s.r.at_]? =R:=⟨_,rfl⟩;rw[hR]at HN n0 n1;clear hF HF hR;go_wp2_with fail;with_reducible refine HN.out.mono ?_
    rintro e w1 ⟨rfl,f1⟩;have h1:=HE.out.on f1;have rr:=Zae h1.blk _ (Fr.refl _ _);have H1:=hid h1;have F1:=hid f1;clear h1 f1 o;go_wp2;go_roundg m
    case measure=>omega
    case rel=>
     have a:=H1.out.stp 2 (.int .i64 ((s.r.at_:Int)+1));refine⟨s.go 1,.rep t 1 (-1),S1,(((Stp.of F1.out).trans a).rn HV.out).rep _ _,⟨_,_,_,H1.out.turned 2 _ _ (by simp[RxS.go,ES.go]) rfl rfl H1.out.ok⟩,(k.out.trans (Stp.of F1.out)).trans a,?_,?_,?_,c.out⟩
     ·show l.length<m+(s.r.at_+1);omega
     ·exact HS.out.goE i
     ·exact .inl (by intro h;cases h)
   ·by_cases j:l[s.r.at_]? =some 63
    ·obtain⟨vi,vy,rfl⟩:=HV.out.some (hnil.resolve_right (by rw[j];simp));clear hnil;have i:=ZK j;have hF:=HF.out;rw[Zn9 j]at hF;have c:=hid hF;have n0:=(rnX_test l[s.r.at_]? 42 42 rfl).trans (decide_eq_false f);have n1:=(rnX_test l[s.r.at_]? 43 43 rfl).trans (decide_eq_false g);have n2:=(rnX_test l[s.r.at_]? 63 63 rfl).trans (decide_eq_true j);obtain⟨R,hR⟩:∃R,rnX l[s.r.at_]? =R:=⟨_,rfl⟩;rw[hR]at HN n0 n1 n2;clear hF HF hR;go_wp2_with fail;with_reducible refine HN.out.mono ?_
     rintro e w1 ⟨rfl,f1⟩;have h1:=HE.out.on f1;have rr:=Zae h1.blk _ (Fr.refl _ _);have H1:=hid h1;have F1:=hid f1;clear h1 f1 o;go_wp2;go_roundg m
     case measure=>omega
     case rel=>
      have a:=H1.out.stp 2 (.int .i64 ((s.r.at_:Int)+1));refine⟨s.go 1,.rep t 0 1,S1,(((Stp.of F1.out).trans a).rn HV.out).rep _ _,⟨_,_,_,H1.out.turned 2 _ _ (by simp[RxS.go,ES.go]) rfl rfl H1.out.ok⟩,(k.out.trans (Stp.of F1.out)).trans a,?_,?_,?_,c.out⟩
      ·show l.length<m+(s.r.at_+1);omega
      ·exact HS.out.goE i
      ·exact .inl (by intro h;cases h)
    ·by_cases d:l[s.r.at_]? =some 123
     ·obtain⟨vi,vy,rfl⟩:=HV.out.some (hnil.resolve_right (by rw[d];simp));clear hnil;have i:=ZK d;have hF:=HF.out;rw[Zmp d]at hF;have n0:=(rnX_test l[s.r.at_]? 42 42 rfl).trans (decide_eq_false f);have n1:=(rnX_test l[s.r.at_]? 43 43 rfl).trans (decide_eq_false g);have n2:=(rnX_test l[s.r.at_]? 63 63 rfl).trans (decide_eq_false j);have n3:=(rnX_test l[s.r.at_]? 123 123 rfl).trans (decide_eq_true d);obtain⟨R,hR⟩:∃R,rnX l[s.r.at_]? =R:=⟨_,rfl⟩;rw[hR]at HN n0 n1 n2 n3;have h2:=HE.out;clear HF hR;go_wp2_with fail;with_reducible refine HN.out.mono ?_
      rintro e w1 ⟨rfl,f1⟩;have h1:=HE.out.on f1;have rr:=Zae h1.blk _ (Fr.refl _ _);have a:=h1.stp 2 (.int .i64 ((s.r.at_:Int)+1));have h5:=h1.turned 2 (.int .i64 ((s.r.at_:Int)+1)) (s.go 1) (by simp[RxS.go,ES.go]) rfl rfl h1.ok;obtain⟨w2,p⟩:∃w2,w2=w1.setCell ⟨b,2,none⟩ (.int .i64 ((s.r.at_:Int)+1)):=⟨_,rfl⟩;rw[←p]at a h5;have hI:=Zhs b l (s.go 1) S1 w2 hl i ⟨_,_,_,h5⟩;have hK:=Zf8 (l:=l) (s:=s.go 1) (HS.out.goE i);obtain⟨mn,mx,ok,s2,hq⟩:∃mn mx ok s2,Zd8 l (s.go 1)=(mn,mx,ok,s2):=⟨_,_,_,_,rfl⟩;rw[hq]at hI hF hK;simp only at hI hF hK;obtain⟨k1,k2,k3⟩:=hK;have k2:s.r.at_+1≤s2.r.at_:=k2;have HI:=hid hI;have c:=hid hF;have H2:=hid p;have T2:=hid ((Stp.of f1).trans a);have K1:=hid k1;clear hI hF p a h1 h5 f1 o h2 k1 k3 hq;go_wp2_with(with_reducible rw[←H2.out]);with_reducible refine HI.out.mono ?_
      rintro e w3 ⟨rfl,e3,t3⟩;have T3:=hid (T2.out.trans t3);have E3:=hid e3;have G:=K1.out.le;clear t3 e3;cases ok with
      |true=>
       have hF:=c.out;rw[if_pos rfl]at hF;have z:=hid hF;obtain⟨J,m3,H,e3⟩:=E3.out;have I:=Zae e3.blk _ (Fr.refl _ _);have q:=e3.stp 2 (.int .i64 ((s2.r.at_:Int)-1));have h6:=e3.turned 2 (.int .i64 ((s2.r.at_:Int)-1)) (s2.to (s2.r.at_-1)) (by simp[RxS.to,ES.to];omega) rfl rfl e3.ok;have x:=h6.stp 2 (.int .i64 (s2.r.at_:Int));have h7:=h6.turned 2 (.int .i64 (s2.r.at_:Int)) s2 (by simp[RxS.to,ES.to]) rfl rfl e3.ok;have C:=Zae h6.blk _ (Fr.refl _ _);rw[show(((s2.to (s2.r.at_-1)).r.at_:Nat):Int)=(s2.r.at_:Int)-1 from by show(((s2.r.at_-1:Nat)):Int)=_;omega]at C;have D:IntKind.i64.wrap ((s2.r.at_:Int)-1+1)=s2.r.at_:=by rw[IntWalk.i64_in _ (by omega)];omega
       have E:IntKind.i64.wrap ((s2.r.at_:Int)-1)=(s2.r.at_:Int)-1:=IntWalk.i64_in _ (by omega);have H7:=hid h7;have T7:=hid ((T3.out.trans q).trans x);clear hF c e3 q h6 x h7 rr;go_wp2;go_roundg m
       case measure=>omega
       case rel=>
        refine⟨s2,.rep t mn mx,S1,(T7.out.rn HV.out).rep _ _,⟨_,_,_,H7.out⟩,k.out.trans T7.out,?_,K1.out,.inl (by intro h;cases h),z.out⟩;omega
      |false=>
       have hF:=c.out;rw[if_neg (by decide)]at hF;subst hF;have hf:=Za4 b l s2 S1 7 s.r.at_ w3 hl (by decide) E3.out;have A:=hid hf;clear c hf rr;go_wp2_with fail;with_reducible refine A.out.mono ?_
       rintro e w4 ⟨rfl,e4,t4⟩;have E4:=hid e4;have T4:=hid (T3.out.trans t4);clear e4 t4;go_wp2;go_ret;exact⟨_,S1,rfl,T4.out.rn HV.out,E4.out,k.out.trans T4.out⟩
     ·have hF:=HF.out;rw[Zmq f g j d]at hF;subst hF;have n0:=(rnX_test l[s.r.at_]? 42 42 rfl).trans (decide_eq_false f);have n1:=(rnX_test l[s.r.at_]? 43 43 rfl).trans (decide_eq_false g);have n2:=(rnX_test l[s.r.at_]? 63 63 rfl).trans (decide_eq_false j);have n3:=(rnX_test l[s.r.at_]? 123 123 rfl).trans (decide_eq_false d);obtain⟨R,hR⟩:∃R,rnX l[s.r.at_]? =R:=⟨_,rfl⟩;rw[hR]at HN n0 n1 n2 n3;clear HF hR;go_wp2_with fail;with_reducible refine HN.out.mono ?_
      rintro e w1 ⟨rfl,f1⟩;have F1:=hid f1;clear f1 o;go_wp2;go_ret;exact⟨_,S1,rfl,(Stp.of F1.out).rn HV.out,⟨_,_,_,HE.out.on F1.out⟩,k.out.trans (Stp.of F1.out)⟩
def ChX(l:List UInt8)(W0:World)(deep:Nat)(f:ES→Nd×ES):Prop:=
 ∀b s S (O:Nat→Prop) w,(∀k,O k→k<w.heap.size)→Sane l s.r→Wd W0 S w→Erd b l s S w→Calls prog 37 #[.pointer (some ⟨b,0,none⟩),.int .i64 deep] w (Zmo b l S O w (f s))
def GrX(l:List UInt8)(W0:World)(deep:Nat)(C:Option (ES→Nd×ES)):Prop:=
 ∀b s S (O:Nat→Prop) w,(∀k,O k→k<w.heap.size)→Sane l s.r→s.r.at_<l.length→Wd W0 S w→Erd b l s S w→Calls prog 127 #[.pointer (some ⟨b,0,none⟩),.int .i64 deep] w (Zmo b l S O w (ZbA l C s))
theorem Er.close{b:Nat}{l:List UInt8}{s:ES}{S:Nat→Prop}{sv:Value}{m:Nat}{mv:Value}{w w':World}{n:Nat}(h:Er b l s S sv m mv w)(hm:IMap w' m (s.r.closed++[n]))(f:Fr (fun k=>k=m) w w'):
 Er b l ⟨{s.r with closed:=s.r.closed++[n]},s.x⟩ S sv m mv w':=
 ⟨f.heap h.blk (fun e=>h.bm e),ownsRow_fr h.sg f (fun k hk e=>(h.ns k hk).2 (e▸h.mm)),hm,ownsRow_fr h.ma f (fun k hk e=>(h.nm k hk).2.1 e),h.nm,h.bm,h.ns,h.me,h.mm,h.ok⟩
theorem Er.closeStp{b:Nat}{l:List UInt8}{s:ES}{S:Nat→Prop}{sv:Value}{m:Nat}{mv:Value}{w w':World}(h:Er b l s S sv m mv w)(f:Fr (fun k=>k=m) w w'):Stp S w S w':=
 ⟨f.mono (fun k _ e=>e▸h.mm),fun _ _ x=>x,fun hl k hk=>Nat.lt_of_lt_of_le (hl k hk) f.size⟩
theorem Zfn(b:Nat)(l:List UInt8)(s:ES)(S O:Nat→Prop)(w:World)(hl:l.length≤100000)(h:Erd b l s S w):
 Calls prog 127 #[.pointer (some ⟨b,0,none⟩),.int .i64 12] w (Zmo b l S O w (ZbA l none s)):=by
 have hf:=Za4 b l s S 4 s.r.at_ w hl (by decide) h;obtain⟨sv,m,mv,h⟩:=h;have rr:=Zae h.blk w (Fr.refl nob w);have HF:=hid hf;clear hf h;go_enter func127,ntmps127;go_wp2_with fail;with_reducible refine HF.out.mono ?_
 rintro e w1 ⟨rfl,e1,t1⟩;have E1:=hid e1;have T1:=hid t1;clear e1 t1;go_wp2;go_ret;exact⟨.nilIface,S,rfl,by show RN _ _ .nil _;rw[RN],E1.out,T1.out⟩
theorem Zmr(b:Nat)(l:List UInt8)(W0:World)(deep:Nat)(f:ES→Nd×ES)(s:ES)(S O:Nat→Prop)(w:World)(hO:∀k,O k→k<w.heap.size)(hl:l.length≤100000)(hd:deep<12)(hC:ChX l W0 (deep+1) f)(hK:∀s,Sane l s.r→Kp l s (f s) 2)
 (hs:Sane l s.r) (hlt:s.r.at_<l.length) (hW:Wd W0 S w) (h:Erd b l s S w):
 Calls prog 127 #[.pointer (some ⟨b,0,none⟩),.int .i64 deep] w (Zmo b l S O w (ZbA l (some f) s)):=by
 obtain⟨sv,m,mv,hE⟩:=h;have B:=ZeG hs hlt;have r0:=Zae hE.blk _ (Fr.refl _ _);have h1:=hE.turned 2 (.int .i64 ((s.r.at_:Int)+1)) (s.go 1) (by simp[RxS.go,ES.go]) rfl rfl hE.ok;have t1:=hE.stp 2 (.int .i64 ((s.r.at_:Int)+1));have h2:=h1.turned 3 (.int .i64 ((s.r.opened:Int)+1)) (ZdB s) (by simp[RxS.go,ES.go,ZdB]) rfl rfl hE.ok;have t2:=h1.stp 3 (.int .i64 ((s.r.opened:Int)+1));have r1:=Zae h1.blk _ (Fr.refl _ _);have r2:=Zae h2.blk _ (Fr.refl _ _);have q:(((s.go 1).r.opened:Nat):Int)=s.r.opened:=rfl;have v:(((ZdB s).r.opened:Nat):Int)=(s.r.opened:Int)+1:=rfl;rw[q]at r1;rw[v]at r2;have b1:=hs.op;have b0:=hs.le;obtain⟨w1,p⟩:∃w1,w1=(w.setCell ⟨b,2,none⟩ (.int .i64 ((s.r.at_:Int)+1))).setCell ⟨b,3,none⟩ (.int .i64 ((s.r.opened:Int)+1)):=⟨_,rfl⟩;rw[←p]at h2 t2 r2;have U:w1.heap.size=w.heap.size:=by rw[p];simp[World.setCell]
 have T2:=hid (t1.trans t2);have hc:=hC b (ZdB s) S O w1 (by rw[U];exact hO) B (hW.stp T2.out) ⟨_,_,_,h2⟩;have hk:=hK (ZdB s) B;obtain⟨t,s2,hq⟩:∃t s2,f (ZdB s)=(t,s2):=⟨_,_,rfl⟩;have hR:ZbA l (some f) s=(.group ((s.r.opened+1:Nat):Int) t,Zcu l (s.r.opened+1) s.r.at_ s2):=by unfold ZbA;simp only[hq]
 obtain⟨R,a⟩:∃R,ZbA l (some f) s=R:=⟨_,rfl⟩;rw[a];rw[hR]at a;have F:=hid a;clear a;rw[hq]at hc hk;rw[show((deep+1:Nat):Int)=(deep:Int)+1 from by simp]at hc;have HC:=hid hc;have HK:=hid hk;have Q:=hid p;have a8:((deep:Int)==12)=false:=by simp;omega
 have Z:(deep:Int)<12:=by omega
 clear hR hq hc hk p h2 h1 t1 t2 hE B hC hK hd hO q v hW;go_enter func127,ntmps127;go_wp2_with(rw[←Q.out]);with_reducible refine(HC.out).mono ?_
 rintro e w2 ⟨v2,S2,rfl,g,e2,N⟩;have K:Sane l s2.r:=HK.out.sn;have I:=K.le;have hT:Calls prog 59 #[.pointer (some ⟨b,0,none⟩),.int .i32 41] w2 fun x w'=>x=.returned (.bool (decide (l[s2.r.at_]? =some 41)))∧Erd b l (if l[s2.r.at_]? =some 41 then s2.go 1 else s2) S2 w'∧Stp S2 w2 S2 w':=Zfm b l 41 s2 S2 w2 hl I e2;have j:=hid g;have o:=hid (T2.out.trans N);obtain⟨n,hn⟩:∃n,s.r.opened+1=n:=⟨_,rfl⟩;have J:(s.r.opened:Int)+1=(n:Nat):=by omega
 have a:=F.out;rw[hn]at a;have X:=K.cl;have D:∀(s3:ES) (w3:World),s3.r.closed=s2.r.closed→Erd b l s3 S2 w3→Stp S2 w2 S2 w3→
  ∃(m3:Nat) (w4:World),(∃v0 v1 E v3 v5 v6 v7,w3.cell? ⟨b,0,none⟩=some v0∧w3.cell? ⟨b,1,none⟩=some v1∧w3.cell? ⟨b,2,none⟩=some E∧w3.cell? ⟨b,3,none⟩=some v3∧w3.cell? ⟨b,4,none⟩=some (.map (some m3))∧w3.cell? ⟨b,5,none⟩=some v5∧w3.cell? ⟨b,6,none⟩=some v6∧w3.cell? ⟨b,7,none⟩=some v7)∧
  (Instr.lookup 91 (.map (some m3)) (.int .i64 (n:Nat)) false).run prog w3=.ok (.int .i64 (s2.r.closed.count n:Nat)) w3∧
  (Instr.mapUpdate 91 (.map (some m3)) (.int .i64 (n:Nat)) (.int .i64 ((s2.r.closed.count n:Nat)+1))).run prog w3=.ok () w4∧
  Erd b l ⟨{s3.r with closed:=s3.r.closed++[n]},s3.x⟩ S2 w4∧Stp S2 w2 S2 w4:=by
  rintro s3 w3 H ⟨b3,m3,b2,h3⟩ t3;have A:=h3.mp;rw[H]at A;obtain⟨w4,V,W,L⟩:=ZgX (P:=prog) (mty:=91) (kt:=3) (et:=3) underlying91 underlying3 A n;obtain⟨⟨a0,a1,a2,a3,a4,a5,a6,a7⟩,_⟩:=Zae h3.blk _ (Fr.refl _ _);refine⟨m3,w4,⟨_,_,_,_,_,_,_,a0,a1,a2,a3,a4,a5,a6,a7⟩,ZfA (P:=prog) (mty:=91) (kt:=3) (et:=3) underlying91 underlying3 (fun w=>by kernel_rfl) A n,V,⟨_,_,_,h3.close (by rw[H];exact W) L⟩,t3.trans (h3.closeStp L)⟩
 have u:s2.r.closed.count n≤s2.r.closed.length:=List.count_le_length;obtain⟨k,hk⟩:∃k,s2.r.closed.count n=k:=⟨_,rfl⟩;rw[hk]at D u;have a9:(k:Int)≤100000:=by omega
 have c:=hid J;clear J hn;have G:=hid D;have Y:=hid e2;have M:v2=.nilIface∨∃i y,v2=.iface i y:=by
  rcases g.kind' with ht|h
  ·left;have ht:t=.nil:=ht;rw[ht,RN]at g;exact g
  ·exact .inr h
 clear F D g N hk u r0 r1 r2 e2;by_cases hA:l[s2.r.at_]? =some 41
 ·rw[decide_eq_true hA,if_pos hA]at hT;have d:Zcu l n s.r.at_ s2=⟨{(s2.go 1).r with closed:=(s2.go 1).r.closed++[n]},(s2.go 1).x⟩:=by unfold Zcu;rw[if_pos hA]
  rw[d]at a;subst a;have HT:=hid hT;clear hT hA d;go_wp2_with fail;with_reducible refine HT.out.mono ?_
  rintro e w3 ⟨rfl,e3,t3⟩;obtain⟨m3,w4,⟨v0,v1,E,v3,v5,v6,v7,a0,a1,a2,a3,a4,a5,a6,a7⟩,z,C,e4,t4⟩:=G.out (s2.go 1) w3 rfl e3 t3;have E4:=hid e4;have T4:=hid t4;clear e4 t4 e3 t3;rw[←c.out]at z C;rcases M with rfl|⟨vi,vy,rfl⟩
  ·go_wp2;go_ret;refine⟨.iface 127 (.agg #[.int .i64 ((s.r.opened:Int)+1),.nilIface]),S2,rfl,?_,E4.out,o.out.trans T4.out⟩;rw[c.out];exact(T4.out.rn j.out).grp _
  ·go_wp2;go_ret;refine⟨.iface 127 (.agg #[.int .i64 ((s.r.opened:Int)+1),.iface vi vy]),S2,rfl,?_,E4.out,o.out.trans T4.out⟩;rw[c.out];exact(T4.out.rn j.out).grp _
 ·rw[decide_eq_false hA,if_neg hA]at hT;have d:Zcu l n s.r.at_ s2=⟨{(s2.fail l 8 s.r.at_).r with closed:=(s2.fail l 8 s.r.at_).r.closed++[n]},(s2.fail l 8 s.r.at_).x⟩:=by unfold Zcu;rw[if_neg hA]
  rw[d]at a;subst a;have HT:=hid hT;clear hT hA d;go_wp2_with fail;with_reducible refine HT.out.mono ?_
  rintro e w3 ⟨rfl,e3,t3⟩;have hf:=Za4 b l s2 S2 8 s.r.at_ w3 hl (by decide) e3;have HF:=hid hf;have T3:=hid t3;clear hf e3 t3;go_wp2_with fail;with_reducible refine HF.out.mono ?_
  rintro e w5 ⟨rfl,e5,t5⟩;obtain⟨m3,w4,⟨v0,v1,E,v3,v5,v6,v7,a0,a1,a2,a3,a4,a5,a6,a7⟩,z,C,e4,t4⟩:=G.out (s2.fail l 8 s.r.at_) w5 rfl e5 (T3.out.trans t5);have E4:=hid e4;have T4:=hid t4;clear e4 t4 e5 t5;rw[←c.out]at z C;rcases M with rfl|⟨vi,vy,rfl⟩
  ·go_wp2;go_ret;refine⟨.iface 127 (.agg #[.int .i64 ((s.r.opened:Int)+1),.nilIface]),S2,rfl,?_,E4.out,o.out.trans T4.out⟩;rw[c.out];exact(T4.out.rn j.out).grp _
  ·go_wp2;go_ret;refine⟨.iface 127 (.agg #[.int .i64 ((s.r.opened:Int)+1),.iface vi vy]),S2,rfl,?_,E4.out,o.out.trans T4.out⟩;rw[c.out];exact(T4.out.rn j.out).grp _
abbrev Zqa(w:World)(b:Nat)(v0 v1:Value):Prop:=w.cell? ⟨b,0,none⟩=some v0∧w.cell? ⟨b,2,none⟩=some v1
theorem cc02_on{w w':World}{b:Nat}{v0 v1:Value}(h:Zqa w b v0 v1)(f:Fr nob w w'):Zqa w' b v0 v1:=⟨f.cell h.1 (fun x=>x),f.cell h.2 (fun x=>x)⟩
theorem ZkN(b:Nat)(l:List UInt8)(W0:World)(deep:Nat)(C:Option (ES→Nd×ES))(s:ES)(S O:Nat→Prop)(w:World)(c:UInt8)(hO:∀k,O k→k<w.heap.size)(hl:l.length≤100000)(hE0:Env W0)(hG:GrX l W0 deep C)
 (hs:Sane l s.r) (hx:l[s.r.at_]? =some c) (hW:Wd W0 S w) (h:Erd b l s S w):
 Calls prog 100 #[.pointer (some ⟨b,0,none⟩),.int .i64 deep] w (Zmo b l S O w (Zax l C s c)):=by
 obtain⟨R,hR⟩:∃R,Zax l C s c=R:=⟨_,rfl⟩;rw[hR];have b2:=ZK hx;have hN:=Zea b l s S w hl hs.le h;rw[hx]at hN;have hN:Calls prog 97 #[.pointer (some ⟨b,0,none⟩)] w fun x w'=>x=.returned (.int .i32 (c.toNat:Int))∧Fr nob w w':=hN;have a8:=fun w' (f:Fr nob w w')=>hG b s S O w' (fun k hk=>Nat.lt_of_lt_of_le (hO k hk) f.size) hs b2 (hW.stp (Stp.of f)) (h.on f);have a7:=fun w' (f:Fr nob w w')=>ZkM b l s S O w' hl b2 hs (fun k hk=>Nat.lt_of_lt_of_le (hW.lt k hk) f.size) (h.on f);have b5:=hid a8;have b4:=hid a7;have HH:=hid h;obtain⟨sv,m,mv,hE⟩:=h;have HE:=hid hE;have HW:=hid hW;have HN:=hid hN;have c3:=c.toNat_lt;clear a8 a7 hG hE hW hO hN hx hs;go_enter func100,ntmps100;go_wp2_with fail;with_reducible refine HN.out.mono ?_
 rintro e wC ⟨rfl,fC⟩;have Y:=HE.out.on fC;obtain⟨⟨k0,_,k2,_⟩,j0,_,j2,_⟩:=Zae Y.blk _ (Fr.refl _ _);have D:=hid Y;have FC:=hid fC;clear Y fC;unfold Zax at hR;by_cases n:c=40
 ·rw[if_pos n]at hR;have t1:((c.toNat:Int)==40)=true:=Zcy (b:=40) n;have HQ:=hid (b5.out wC FC.out);rw[hR]at HQ;clear n hR k0 k2 j0 j2;go_wp2_with fail;with_reducible refine(HQ.out).mono ?_
  rintro e w2 ⟨v2,S2,rfl,M,r2,N⟩;have W:=hid M;have R2:=hid r2;have X:=hid ((Stp.of FC.out).trans N);clear M r2 N;go_wp2;go_ret;exact⟨_,S2,rfl,W.out,R2.out,X.out⟩
 ·rw[if_neg n]at hR;have t1:((c.toNat:Int)==40)=false:=Zn (b:=40) n;by_cases y:c=41
  ·rw[if_pos y]at hR;have t2:((c.toNat:Int)==41)=true:=Zcy (b:=41) y;have hf:=Za4 b l s S 8 s.r.at_ wC hl (by decide) (HH.out.on FC.out);have HF:=hid hf;subst hR;clear n y hf;go_wp2_with fail;with_reducible refine(HF.out).mono ?_
   rintro e w2 ⟨rfl,e2,B⟩;have E2:=hid e2;have T2:=hid ((Stp.of FC.out).trans B);clear e2 B;go_wp2;go_ret;exact⟨.nilIface,S,rfl,by rw[RN],E2.out,T2.out⟩
  ·rw[if_neg y]at hR;have t2:((c.toNat:Int)==41)=false:=Zn (b:=41) y;by_cases E:c=92
   ·rw[if_pos E]at hR;have t3:((c.toNat:Int)==92)=true:=Zcy (b:=92) E;have HQ:=hid (b4.out wC FC.out);rw[hR]at HQ;clear n y E hR k0 k2 j0 j2;go_wp2_with fail;with_reducible refine(HQ.out).mono ?_
    rintro e w2 ⟨v2,S2,rfl,M,r2,N⟩;have W:=hid M;have R2:=hid r2;have X:=hid ((Stp.of FC.out).trans N);clear M r2 N;go_wp2;go_ret;exact⟨_,S2,rfl,W.out,R2.out,X.out⟩
   ·rw[if_neg E]at hR;have t3:((c.toNat:Int)==92)=false:=Zn (b:=92) E;by_cases H:c=91
    ·rw[if_pos H]at hR;have t4:((c.toNat:Int)==91)=true:=Zcy (b:=91) H;have U:∀w',Fr nob wC w'→Env w':=fun w' f=>hE0.on ((HW.out.fr.trans' FC.out).trans' f);have hP:=fun w' (f:Fr nob wC w')=>ZfL l ((s.r.at_:Int)+1) w' hl (U w' f);rw[show((s.r.at_:Int)+1)=((s.r.at_+1:Nat):Int)from by simp,Zkd (by omega)]at hP;rw[show((s.r.at_+1:Nat):Int)=(s.r.at_:Int)+1 from by simp]at hP;have hw:IntKind.i64.wrap ((s.r.at_:Int)+1)=s.r.at_+1:=IntWalk.i64_in _ (by omega);have b1:Zqa wC b (.string ⟨l.toArray⟩) (.int .i64 s.r.at_):=⟨k0,k2⟩;have HC:=hid b1;obtain⟨P,Z⟩:∃P,prs l (s.r.at_+1)=P:=⟨_,rfl⟩;rw[Z]at hP hR;obtain⟨u,k,e0,hv,J⟩:∃(u:S4) (k:Nat) (e0:Int),Zp8 P=.tuple #[ZcR u,.int .i64 k,.int .i64 e0]∧((e0≠0∧R=(.nil,s.fail l e0 k))∨(e0=0∧R=(.one u,s.to k))):=by
      cases P with
      |inl z=>obtain⟨z1,z2⟩:=z;exact⟨S4.zero,z2,z1,rfl,.inl ⟨prs_err Z,hR.symm⟩⟩
      |inr q=>obtain⟨u,k⟩:=q;exact⟨u,k,0,rfl,.inr ⟨rfl,hR.symm⟩⟩
     rw[hv]at hP;have HP:=hid hP;have a2:=hid J;have b3:=Zl (show(wC.alloc (.cells #[.int .u64 0,.int .u64 0,.int .u64 0,.int .u64 0] 132)).heap[wC.heap.size]? =some (.cells #[.int .u64 0,.int .u64 0,.int .u64 0,.int .u64 0] 132)from newAt0 wC _);have b7:=hid b3;have b0:∀k,wC.heap.size≤k→¬S k:=fun k hk h=>by have:=HW.out.lt k h;have:=FC.out.size;omega
     have a4:=hid b0;clear hP U k0 k2 j0 j2 H E y n b1 Z b3 hv J hR b0;go_wp2_with fail
     go_region_held3 (fun w'=>Zqa w' b (.string ⟨l.toArray⟩) (.int .i64 s.r.at_)) (first|(with_reducible exact HC.out)|(with_reducible exact cc02_on HC.out ((Fr.refl nob wC).drew))|(with_reducible exact cc02_on HC.out (((Fr.refl nob wC).alloc _).drew))|(with_reducible exact cc02_on HC.out (((Fr.refl nob wC).drew).alloc _))|(with_reducible exact cc02_on HC.out G1)|(with_reducible exact cc02_on HC.out (G1.drew))|(with_reducible exact cc02_on HC.out (G1.alloc _))|(with_reducible exact cc02_on HC.out (setFour_frS G1 (Nat.le_refl _) _ _ _ _))|(with_reducible exact cc02_on HC.out (setFour_frS (G1.alloc _) G1.size _ _ _ _))|(trace_state;fail)) (first|(go_at_call 114;(first|((with_reducible refine(HP.out _ ((Fr.refl nob wC).drew)).mono ?_);rintro e g1 ⟨rfl,f1⟩;have G1:Fr nob wC g1:=((Fr.refl nob wC).drew).trans' f1;have hz:=newAt0 g1 (.cells #[.int .u64 0,.int .u64 0,.int .u64 0,.int .u64 0] 132);have HZ:=hid hz;have rz:=Zl hz _ (Fr.refl nob _))|((with_reducible refine(HP.out _ (((Fr.refl nob wC).alloc _).drew)).mono ?_);rintro e g1 ⟨rfl,f1⟩;have G1:Fr nob wC g1:=(((Fr.refl nob wC).alloc _).drew).trans' f1;have hz:=(((Fr.refl nob _).drew).trans' f1).heap (newAt0 wC (.cells #[.int .u64 0,.int .u64 0,.int .u64 0,.int .u64 0] 132)) (fun x=>x);have HZ:=hid hz;have rz:=b7.out g1 (((Fr.refl nob _).drew).trans' f1)));clear f1 hz))
     ·obtain⟨wf,v⟩:∃wf,wf=g1.alloc (.cells #[.int .u64 u.a,.int .u64 u.b,.int .u64 u.c,.int .u64 u.d] 132):=⟨_,rfl⟩;have A:At4 wf g1.heap.size u:=by rw[v];exact newAt0 g1 _
      have K:Fr nob wC wf:=by rw[v];exact G1.alloc _
      rw[←v];have HF:=hid K;have I:=hid A;have a0:wC.heap.size≤g1.heap.size:=G1.size;clear v K A rz;have F:=D.out.on HF.out;have b8:=lt_heap D.out.blk;have o:g1.heap.size≠b:=by omega
      obtain⟨⟨_,_,n1,_⟩,_,_,n2,_⟩:=Zae F.blk _ (Fr.refl _ _);have b9:=a4.out g1.heap.size a0;have j:=hid F;clear F;rcases a2.out with⟨t,hR⟩|⟨t,hR⟩
      ·subst hR;have c2:((e0:Int) !=0)=true:=by simpa using t
       have hf:=Za4 b l s S e0 k wf hl t ⟨_,_,_,j.out⟩;have V:=hid hf;clear hf n1 n2;go_wp2_with fail;with_reducible refine(V.out).mono ?_
       rintro e w2 ⟨rfl,e2,B⟩;have E2:=hid e2;have T2:=hid (((Stp.of FC.out).trans (Stp.of HF.out)).trans B);clear e2 B;go_wp2;go_ret;exact⟨.nilIface,S,rfl,by rw[RN],E2.out,T2.out⟩
      ·subst hR;subst t;have c0:Q4 (wf.setCell ⟨b,2,none⟩ (.int .i64 (k:Nat))) (g1.heap.size) u:=by
        have g:=(Fr.refl (fun i=>i=b) wf).setCell (p:=⟨b,2,none⟩) (fun _=>rfl) (.int .i64 (k:Nat));have q:=Q4.of I.out;exact⟨g.cell q.1 o,g.cell q.2.1 o,g.cell q.2.2.1 o,g.cell q.2.2.2 o⟩
       go_wp2;go_ret;exact⟨_,S,rfl,by rw[RN];rfl,⟨_,_,_,j.out.turned 2 _ (s.to k) (by simp[RxS.to,ES.to]) rfl rfl j.out.ok⟩,((Stp.of FC.out).trans (Stp.of HF.out)).trans (j.out.stp 2 _)⟩
     ·obtain⟨wf,v⟩:∃wf,wf=((((g1.setCell ⟨wC.heap.size,0,none⟩ (.int .u64 u.a)).setCell ⟨wC.heap.size,1,none⟩ (.int .u64 u.b)).setCell ⟨wC.heap.size,2,none⟩ (.int .u64 u.c)).setCell ⟨wC.heap.size,3,none⟩ (.int .u64 u.d)):=⟨_,rfl⟩;have A:At4 wf wC.heap.size u:=by rw[v];with_reducible exact setFour_heap HZ.out _ _ _ _
      have K:Fr nob wC wf:=by rw[v];exact setFour_frS (G1) (Nat.le_refl _) _ _ _ _
      rw[←v];have HF:=hid K;have I:=hid A;have a0:wC.heap.size≤wC.heap.size:=Nat.le_refl _;clear v K A rz;have F:=D.out.on HF.out;have b8:=lt_heap D.out.blk;have o:wC.heap.size≠b:=by omega
      obtain⟨⟨_,_,n1,_⟩,_,_,n2,_⟩:=Zae F.blk _ (Fr.refl _ _);have b9:=a4.out wC.heap.size a0;have j:=hid F;clear F;rcases a2.out with⟨t,hR⟩|⟨t,hR⟩
      ·subst hR;have c2:((e0:Int) !=0)=true:=by simpa using t
       have hf:=Za4 b l s S e0 k wf hl t ⟨_,_,_,j.out⟩;have V:=hid hf;clear hf n1 n2;go_wp2_with fail;with_reducible refine(V.out).mono ?_
       rintro e w2 ⟨rfl,e2,B⟩;have E2:=hid e2;have T2:=hid (((Stp.of FC.out).trans (Stp.of HF.out)).trans B);clear e2 B;go_wp2;go_ret;exact⟨.nilIface,S,rfl,by rw[RN],E2.out,T2.out⟩
      ·subst hR;subst t;have c0:Q4 (wf.setCell ⟨b,2,none⟩ (.int .i64 (k:Nat))) (wC.heap.size) u:=by
        have g:=(Fr.refl (fun i=>i=b) wf).setCell (p:=⟨b,2,none⟩) (fun _=>rfl) (.int .i64 (k:Nat));have q:=Q4.of I.out;exact⟨g.cell q.1 o,g.cell q.2.1 o,g.cell q.2.2.1 o,g.cell q.2.2.2 o⟩
       go_wp2;go_ret;exact⟨_,S,rfl,by rw[RN];rfl,⟨_,_,_,j.out.turned 2 _ (s.to k) (by simp[RxS.to,ES.to]) rfl rfl j.out.ok⟩,((Stp.of FC.out).trans (Stp.of HF.out)).trans (j.out.stp 2 _)⟩
    ·rw[if_neg H]at hR;have t4:((c.toNat:Int)==91)=false:=Zn (b:=91) H;obtain⟨w1,L⟩:∃w1,w1=wC.setCell ⟨b,2,none⟩ (.int .i64 ((s.r.at_:Int)+1)):=⟨_,rfl⟩;have a6:Er b l (s.go 1) S sv m mv w1:=by rw[L];exact D.out.turned 2 _ (s.go 1) (by simp[RxS.go,ES.go]) rfl rfl D.out.ok
     have a9:Stp S w S w1:=by rw[L];exact(Stp.of FC.out).trans (D.out.stp 2 _)
     have c1:w1.heap.size=wC.heap.size:=by rw[L];simp[World.setCell]
     have a5:=hid L;have a1:=hid a6;have a3:=hid a9;clear L a6 a9 E H y n;by_cases G:c=46
     ·rw[if_pos G]at hR;have t5:((c.toNat:Int)==46)=true:=Zcy (b:=46) G;have Q:=Ze7 0 255 w1 (by decide) (by decide);rw[show((0:Nat):Int)=0 from rfl,show((255:Nat):Int)=255 from rfl]at Q;obtain⟨u,hu⟩:∃u,spn 0 255=u:=⟨_,rfl⟩;rw[hu]at Q hR;subst hR;have b6:=hid Q;clear G Q hu;go_wp2_with(rw[←a5.out]);with_reducible refine(b6.out).mono ?_
      rintro e w2 ⟨rfl,f2⟩;have F2:=hid f2;clear f2;go_wp2;go_ret;exact⟨_,S,rfl,by rw[RN];rfl,⟨_,_,_,a1.out.on F2.out⟩,a3.out.trans (Stp.of F2.out)⟩
     ·rw[if_neg G]at hR;have t5:((c.toNat:Int)==46)=false:=Zn (b:=46) G;have c4:IntKind.u8.wrap (c.toNat:Int)=c.toNat:=IntWalk.u8_in _ (by omega);have ho:=Zb6 c w1 5;obtain⟨u,hu⟩:∃u,spn c.toNat c.toNat=u:=⟨_,rfl⟩;rw[hu,c1]at ho;rw[hu]at hR;subst hR;have HO:=hid ho;clear G ho hu;go_wp2_with(rw[←a5.out]);with_reducible refine(HO.out).mono ?_
      rintro e w2 ⟨rfl,f2⟩;have F2:=hid (((Fr.refl nob w1).alloc _).trans' f2);clear f2;go_wp2;go_ret;exact⟨_,S,rfl,by rw[RN];rfl,⟨_,_,_,a1.out.on F2.out⟩,a3.out.trans (Stp.of F2.out)⟩
section
variable {b:Nat} {l:List UInt8} {s:ES} {S:Nat→Prop} {W w w':World}
theorem Erd.off(h:Erd b l s S w)(f:Off S W w w')(hW:b<W.heap.size):Erd b l s S w':=by
 obtain⟨sv,m,mv,h⟩:=h;obtain⟨X,f,hX⟩:=f;exact⟨sv,m,mv,f.heap h.blk (fun x=>(hX _ x).1 h.me),ownsRow_fr h.sg f (fun k hk x=>by have:=(hX _ x).2;have:=(h.ns k hk).1;omega),h.mp.fr f (fun x=>(hX _ x).1 h.mm),ownsRow_fr h.ma f (fun k hk x=>(hX _ x).1 (h.nm k hk).2.2),h.nm,h.bm,h.ns,h.me,h.mm,h.ok⟩
theorem Erd.lt(h:Erd b l s S w):b<w.heap.size:=by obtain⟨_,_,_,h⟩:=h;exact lt_heap h.blk
end
theorem ZcW{l:List UInt8}{s:ES}{e:Int}{p:Nat}:l[(s.fail l e p).r.at_]? =none:=by show l[l.length]? =none;simp
theorem Zgf{l:List UInt8}{C:Option (ES→Nd×ES)}{s:ES}{c:UInt8}(h:(Zax l C s c).1=.nil):l[(Zax l C s c).2.r.at_]? =none:=by
 obtain⟨q,hq⟩:∃q,Zax l C s c=q:=⟨_,rfl⟩;rw[hq]at h⊢;unfold Zax at hq;split at hq
 ·unfold ZbA at hq;cases C with
  |none=>subst hq;exact ZcW
  |some f=>subst hq;cases h
 ·split at hq
  ·subst hq;exact ZcW
  ·split at hq
   ·unfold ZkG at hq;cases hc:l[s.r.at_+1]? with
    |none=>rw[hc]at hq;subst hq;exact ZcW
    |some d=>
     rw[hc]at hq;simp only at hq;split at hq
     ·subst hq;cases h
     ·split at hq<;>(subst hq;cases h)
   ·split at hq
    ·split at hq
     ·subst hq;exact ZcW
     ·subst hq;cases h
    ·split at hq<;>(subst hq;cases h)
def BrX(b:Nat)(l:List UInt8)(C:Option (ES→Nd×ES))(inner:Bool)(S O:Nat→Prop)(w:World)(F:Nd×ES)(n:Nat)(v5 v6:Value)(wr:World):Prop:=
 ∃front s ps S',v6=.bool front∧Pts S' O w wr ps v5∧Erd b l s S' wr∧Stp S w S' wr∧Sane l s.r∧l.length<n+s.r.at_∧Nd.sizes ps≤3*s.r.at_∧brX l C inner n front s ps=F
def spc(c:UInt8):Bool:=c==42||(c==43||(c==63||c==123))
theorem spc_iff{c:UInt8}:spc c=true↔(c=42∨c=43∨c=63∨c=123):=by simp[spc]
theorem ZdL{S:Nat→Prop}{w:World}{t:Nd}{v:Value}(h:RN S w t v):v=.nilIface∨∃i y,v=.iface i y:=by
 rcases h.kind' with rfl|h'
 ·rw[RN]at h;exact .inl h
 ·exact .inr h'
theorem er_branch(b:Nat)(l:List UInt8)(W0:World)(deep:Nat)(C:Option (ES→Nd×ES))(s:ES)(S O:Nat→Prop)(w:World)(hO:∀k,O k→k<w.heap.size)(hl:l.length≤100000)(hd:deep≤12)(hE0:Env W0)
 (hG:GrX l W0 deep C) (hC:∀f,C=some f→∀s,Sane l s.r→Kp l s (f s) 2) (hs:Sane l s.r) (hW:Wd W0 S w) (h:Erd b l s S w):
 Calls prog 58 #[.pointer (some ⟨b,0,none⟩),.int .i64 deep] w (Zmo b l S O w (Zab l C (decide (0<deep)) s)):=by
 obtain⟨g,N⟩:∃g,decide (0<deep)=g:=⟨_,rfl⟩;obtain⟨F,hF⟩:∃F,Zab l C g s=F:=⟨_,rfl⟩;rw[N,hF];obtain⟨fu,d2,f9⟩:∃fu,(if sgn l s.r.at_==[94]then l.length+2 else l.length+1)=fu∧l.length<fu:=⟨_,rfl,by split<;>omega⟩;unfold Zab at hF;rw[d2]at hF;have I:=hid hs;have HW:=hid hW;have HG:=hid hG;have HC:=hid hC;have f0:=hid hE0;have M:=hid hO;have HH:=hid h;have HF:=hid hF;have c0:=h.lt;have c9:g=true→(0:Int)<deep:=fun e=>by rw[e]at N;have:=of_decide_eq_true N;omega
 have d0:g=false→¬(0:Int)<deep:=fun e=>by rw[e]at N;have:=of_decide_eq_false N;omega
 have e8:=hid c9;have e9:=hid d0;clear hs hW hG hC hE0 hO h N d2 hF c9 d0;go_enter func58,ntmps58;go_wp2_with fail
 go_loopg [5,6] fu (fun n u v wr=>BrX b l C g S O w F n u v wr)
 case atStart=>exact⟨true,s,[],S,rfl,Pts.nil _ _ _ _,HH.out,Stp.refl _ _,I.out,by omega,Nat.zero_le _,HF.out⟩
 case round=>
  clear HH I HF f9;obtain⟨J,s,ps,S1,rfl,hp,hr,Z,c4,hn,hz,hF⟩:=hrel;have d8:=c4.le;obtain⟨m,rfl⟩:∃m,gk=m+1:=⟨gk-1,by omega⟩;obtain⟨av,b7,hv⟩:=hp.shape;subst hv;obtain⟨v5,c5⟩:∃v5,v5=Value.slice av ps.length b7:=⟨_,rfl⟩;have hN:=Zea b l s S1 wr hl d8 hr;have HP:=hid (show Pts S1 O w wr ps v5 from c5▸hp);have HR:=hid hr;have p:=hid Z;have I:=hid c4;have HF:=hid hF;have b6:=hid c5;have a6:=hid (HW.out.stp Z);have HJ:=hid (fun(w':World) (f:Fr nob wr w')=>joinS_any (SO S1 O) ps (.slice av ps.length b7) w' (fun k hk=>Nat.lt_of_lt_of_le (hk.elim ((HW.out.stp Z).lt k) (fun x=>Nat.lt_of_lt_of_le (M.out k x) Z.fr.size)) f.size) (by omega) ((hp.on f).sn M.out));have g6:=Nd.length_le ps;clear hp hr Z c4 hF c5;cases hc:l[s.r.at_]? with
  |none=>
   rw[hc]at hN;have hN:Calls prog 97 #[.pointer (some ⟨b,0,none⟩)] wr fun x w'=>x=.returned (.int .i32 (-1))∧Fr nob wr w':=hN;have HN:=hid hN;have hF:=HF.out;rw[brX,hc]at hF;simp only at hF;subst hF;clear HF hN hc;go_wp2_with fail;with_reducible refine HN.out.mono ?_
   rintro e w1 ⟨rfl,f1⟩;have F1:=hid f1;clear f1;go_wp2_with fail;refine(HJ.out _ F1.out).mono ?_;rintro e wj ⟨r,rfl,H,fj⟩;have U:=hid H;have FJ:=hid (F1.out.trans' fj);clear H fj;go_wp2;go_ret;exact⟨r,S1,rfl,U.out,HR.out.on FJ.out,p.out.trans (Stp.of FJ.out)⟩
  |some c=>
   have d5:=ZK hc;rw[hc]at hN;have hN:Calls prog 97 #[.pointer (some ⟨b,0,none⟩)] wr fun x w'=>x=.returned (.int .i32 (c.toNat:Int))∧Fr nob wr w':=hN;have HN:=hid hN;have g5:=c.toNat_lt;have tm:((c.toNat:Int)== -1)=false:=by first|(simp;done)|(simp;omega)
   have hF:=HF.out;rw[brX,hc]at hF;simp only at hF;obtain⟨sv,mm,mv,hE⟩:=HR.out;have HE:=hid hE;clear HF hN hE;go_wp2_with fail;with_reducible refine HN.out.mono ?_
   rintro e w1 ⟨rfl,f1⟩;have F1:=hid f1;clear f1;obtain⟨fs,i⟩:∃fs,Zd9 l J s c=fs:=⟨_,rfl⟩;rw[i]at hF;have b0:=hid i;clear i;go_upto_block 2 with(fail)
   go_cut [5,7,10] (fun v _ _ w'=>v=Value.slice av ps.length b7∧¬((c=41∧g=true)∨c=124)∧¬c=94∧¬c=36∧Erd b l fs S1 w'∧Stp S1 wr S1 w')
   case first=>
    by_cases o:c=41
    ·have g2:((c.toNat:Int)==41)=true:=Zcy (b:=41) o;cases hi:g with
     |true=>
      have c1:=e8.out hi;rw[if_pos (.inl ⟨o,hi⟩)]at hF;subst hF;clear hc;go_wp2_with fail;refine(HJ.out _ F1.out).mono ?_;rintro e wj ⟨r,rfl,H,fj⟩;have U:=hid H;have FJ:=hid (F1.out.trans' fj);clear H fj;go_wp2;go_ret;exact⟨r,S1,rfl,U.out,HR.out.on FJ.out,p.out.trans (Stp.of FJ.out)⟩
     |false=>
      have c1:=e9.out hi;have j:¬c=124:=by rw[o];decide
      have A:¬c=94:=by rw[o];decide
      have y:¬c=36:=by rw[o];decide
      rw[if_neg (fun h=>h.elim (fun h=>by rw[hi]at h;cases h.2) j),if_neg A,if_neg y]at hF;have i:=b0.out;unfold Zd9 at i;rw[if_pos o]at i;subst i;have q:=HE.out.on F1.out;have rr:=Zae q.blk _ (Fr.refl _ _);have a9:=hid (Za4 b l s S1 8 s.r.at_ w1 hl (by decide) (HR.out.on F1.out));clear q hc;go_wp2_with fail;with_reducible refine a9.out.mono ?_
      rintro e w2 ⟨rfl,e2,t2⟩;go_wp2;go_meet
      case rel=>exact⟨rfl,fun h=>by rcases h with⟨_,h⟩|h;(first|(cases h;done)|(rw[hi]at h;cases h));exact j h,A,y,e2,(Stp.of F1.out).trans t2⟩
    ·have g2:((c.toNat:Int)==41)=false:=Zn (b:=41) o;by_cases j:c=124
     ·have e6:((c.toNat:Int)==124)=true:=Zcy (b:=124) j;rw[if_pos (.inr j)]at hF;subst hF;clear hc;go_wp2_with fail;refine(HJ.out _ F1.out).mono ?_;rintro e wj ⟨r,rfl,H,fj⟩;have U:=hid H;have FJ:=hid (F1.out.trans' fj);clear H fj;go_wp2;go_ret;exact⟨r,S1,rfl,U.out,HR.out.on FJ.out,p.out.trans (Stp.of FJ.out)⟩
     ·have e6:((c.toNat:Int)==124)=false:=Zn (b:=124) j;rw[if_neg (fun h=>h.elim (fun h=>o h.1) j)]at hF;by_cases A:c=94
      ·have g3:((c.toNat:Int)==94)=true:=Zcy (b:=94) A;rw[if_pos A]at hF;have b8:=hid hF;clear hF hc;have q:=HE.out.on F1.out;have rr:=Zae q.blk _ (Fr.refl _ _);have K:=q.turned 2 (.int .i64 ((s.r.at_:Int)+1)) (s.go 1) (by simp[RxS.go,ES.go]) rfl rfl q.ok;have t2:=(Stp.of F1.out).trans (q.stp 2 (.int .i64 ((s.r.at_:Int)+1)));obtain⟨w2,D⟩:∃w2,w2=w1.setCell ⟨b,2,none⟩ (.int .i64 ((s.r.at_:Int)+1)):=⟨_,rfl⟩;rw[←D]at K t2;have b5:=hid (HP.out.stp t2);have P:=hid (a6.out.stp t2).lt;have Q:=hid (show∀k,O k→k<w2.heap.size from fun k hk=>Nat.lt_of_lt_of_le (M.out k hk) (Nat.le_trans p.out.fr.size t2.fr.size));have V:=hid (Nat.le_trans p.out.fr.size t2.fr.size);have a0:w2.heap.size=w1.heap.size:=by rw[D];simp[World.setCell]
       have H2:=hid D;have E2:=hid (show Erd b l (s.go 1) S1 w2 from⟨_,_,_,K⟩);have T2:=hid t2;clear q K t2 D;go_wp2_with(first|(with_reducible rw[←H2.out])|(at_builtin;refine wpList_append_pts (W:=w) (S:=S1) (O:=O) rfl (.tmp 37) (.tmp 40) rfl ps .start v5 (.iface 139 (.agg #[])) _ w1.heap.size (by rw[b6.out];rfl) b5.out P.out Q.out V.out a0.symm (by rfl) (by rw[RN]) (by omega) ?_;intro va wa B t;obtain⟨aa,ca,G⟩:=B.shape;simp only[List.length_append,List.length_singleton]at G;subst G;have R:=hid B;have E:=hid t;clear B t));go_roundg m
       case measure=>omega
       case rel=>
        refine⟨true,s.go 1,ps++[.start],S1,rfl,R.out,E2.out.off E.out c0,(p.out.trans T2.out).off E.out,I.out.goE d5,?_,?_,b8.out⟩
        ·show l.length<m+(s.r.at_+1);omega
        ·rw[Nd.sizes_append];show Nd.sizes ps+(1+0)≤3*(s.r.at_+1);omega
      ·have g3:((c.toNat:Int)==94)=false:=Zn (b:=94) A;rw[if_neg A]at hF;by_cases y:c=36
       ·have g1:((c.toNat:Int)==36)=true:=Zcy (b:=36) y;rw[if_pos y]at hF;have b8:=hid hF;clear hF hc;have q:=HE.out.on F1.out;have rr:=Zae q.blk _ (Fr.refl _ _);have K:=q.turned 2 (.int .i64 ((s.r.at_:Int)+1)) (s.go 1) (by simp[RxS.go,ES.go]) rfl rfl q.ok;have t2:=(Stp.of F1.out).trans (q.stp 2 (.int .i64 ((s.r.at_:Int)+1)));obtain⟨w2,D⟩:∃w2,w2=w1.setCell ⟨b,2,none⟩ (.int .i64 ((s.r.at_:Int)+1)):=⟨_,rfl⟩;rw[←D]at K t2;have b5:=hid (HP.out.stp t2);have P:=hid (a6.out.stp t2).lt;have Q:=hid (show∀k,O k→k<w2.heap.size from fun k hk=>Nat.lt_of_lt_of_le (M.out k hk) (Nat.le_trans p.out.fr.size t2.fr.size));have V:=hid (Nat.le_trans p.out.fr.size t2.fr.size);have a0:w2.heap.size=w1.heap.size:=by rw[D];simp[World.setCell]
        have H2:=hid D;have E2:=hid (show Erd b l (s.go 1) S1 w2 from⟨_,_,_,K⟩);have T2:=hid t2;clear q K t2 D;go_wp2_with(first|(with_reducible rw[←H2.out])|(at_builtin;refine wpList_append_pts (W:=w) (S:=S1) (O:=O) rfl (.tmp 51) (.tmp 54) rfl ps .fin v5 (.iface 140 (.agg #[])) _ w1.heap.size (by rw[b6.out];rfl) b5.out P.out Q.out V.out a0.symm (by rfl) (by rw[RN]) (by omega) ?_;intro va wa B t;obtain⟨aa,ca,G⟩:=B.shape;simp only[List.length_append,List.length_singleton]at G;subst G;have R:=hid B;have E:=hid t;clear B t));go_roundg m
        case measure=>omega
        case rel=>
         refine⟨true,s.go 1,ps++[.fin],S1,rfl,R.out,E2.out.off E.out c0,(p.out.trans T2.out).off E.out,I.out.goE d5,?_,?_,b8.out⟩
         ·show l.length<m+(s.r.at_+1);omega
         ·rw[Nd.sizes_append];show Nd.sizes ps+(1+0)≤3*(s.r.at_+1);omega
       ·have g1:((c.toNat:Int)==36)=false:=Zn (b:=36) y;rw[if_neg y]at hF;obtain⟨sp,a⟩:∃x,spc c=x:=⟨_,rfl⟩;have c8:=hid a;clear a;go_upto_if 56 with(fail)
        go_cut [56] (fun v w'=>v=.bool sp∧w1=w')
        case first=>
         have a:=c8.out;cases sp with
         |true=>
          rcases spc_iff.1 a with h|h|h|h
          ·have n0:((c.toNat:Int)==42)=true:=by rw[h];rfl
           clear a h;go_wp2;go_meet
           case rel=>exact⟨by rw[n0],rfl⟩
          ·have n0:((c.toNat:Int)==42)=false:=by rw[h];rfl
           have n1:((c.toNat:Int)==43)=true:=by rw[h];rfl
           clear a h;go_wp2;go_meet
           case rel=>exact⟨rfl,rfl⟩
          ·have n0:((c.toNat:Int)==42)=false:=by rw[h];rfl
           have n1:((c.toNat:Int)==43)=false:=by rw[h];rfl
           have n2:((c.toNat:Int)==63)=true:=by rw[h];rfl
           clear a h;go_wp2;go_meet
           case rel=>exact⟨rfl,rfl⟩
          ·have n0:((c.toNat:Int)==42)=false:=by rw[h];rfl
           have n1:((c.toNat:Int)==43)=false:=by rw[h];rfl
           have n2:((c.toNat:Int)==63)=false:=by rw[h];rfl
           have n3:((c.toNat:Int)==123)=true:=by rw[h];rfl
           clear a h;go_wp2;go_meet
           case rel=>exact⟨rfl,rfl⟩
         |false=>
          have Y:∀d:UInt8,spc d=true→c≠d:=fun d hd e=>by rw[e,hd]at a;cases a
          have n0:((c.toNat:Int)==42)=false:=Zn (b:=42) (Y 42 rfl);have n1:((c.toNat:Int)==43)=false:=Zn (b:=43) (Y 43 rfl);have n2:((c.toNat:Int)==63)=false:=Zn (b:=63) (Y 63 rfl);have n3:((c.toNat:Int)==123)=false:=Zn (b:=123) (Y 123 rfl);clear a Y;go_wp2;go_meet
          case rel=>exact⟨rfl,rfl⟩
        case rest=>
         obtain⟨rfl,rfl⟩:=hcut;have a8:=hid (HE.out.on F1.out);have rr:=Zae a8.out.blk _ (Fr.refl _ _);have i:=b0.out;have a:=c8.out;unfold Zd9 at i;rw[if_neg o]at i;cases sp with
         |true=>
          cases J with
          |true=>
           rw[if_pos ⟨spc_iff.1 a,rfl⟩]at i;subst i;have a9:=hid (Za4 b l s S1 10 s.r.at_ w1 hl (by decide) (HR.out.on F1.out));clear a hF hc;go_wp2_with fail;with_reducible refine a9.out.mono ?_
           rintro e w2 ⟨rfl,e2,t2⟩;go_wp2;go_meet
           case rel=>exact⟨rfl,fun h=>h.elim (fun h=>o h.1) j,A,y,e2,(Stp.of F1.out).trans t2⟩
          |false=>
           rw[if_neg (fun h=>by cases h.2)]at i;subst i;clear a hF hc;go_wp2;go_meet
           case rel=>exact⟨rfl,fun h=>h.elim (fun h=>o h.1) j,A,y,⟨_,_,_,a8.out⟩,Stp.of F1.out⟩
         |false=>
          rw[if_neg (fun h=>by rw[spc_iff.2 h.1]at a;cases a)]at i;subst i;clear a hF hc;go_wp2;go_meet
          case rel=>exact⟨rfl,fun h=>h.elim (fun h=>o h.1) j,A,y,⟨_,_,_,a8.out⟩,Stp.of F1.out⟩
   case rest=>
    obtain⟨rfl,d9,A,y,⟨g8,m2,g7,e2⟩,t2⟩:=hcut;rw[if_neg d9,if_neg A,if_neg y]at hF;have e1:=Zae e2.blk _ (Fr.refl _ _);have T1:=hid t2;clear t2;cases hx:fs.x with
    |some z=>
     rw[hx]at hF;simp only[Option.isSome_some,if_true]at hF;subst hF;have X:eX fs.x≠0:=by rw[hx];exact e2.ok z hx
     obtain⟨ev,d1⟩:∃ev,eX fs.x=ev:=⟨_,rfl⟩;rw[d1]at e1 X;have g4:((ev:Int) !=0)=true:=by simpa using X
     have E2:=hid e2;clear e2 hx d1;go_wp2;go_ret;exact⟨.nilIface,S1,rfl,by rw[RN],⟨_,_,_,E2.out⟩,p.out.trans T1.out⟩
    |none=>
     have X:eX fs.x=0:=by rw[hx];rfl
     obtain rfl:s=fs:=by
      have h:=b0.out;unfold Zd9 at h;by_cases o:c=41
      ·rw[if_pos o]at h;rw[←h]at hx;exact absurd hx (by intro hh;cases hh)
      rw[if_neg o]at h;by_cases hq:(c=42∨c=43∨c=63∨c=123)∧J=true
      ·rw[if_pos hq]at h;rw[←h]at hx;exact absurd hx (by intro hh;cases hh)
      ·rw[if_neg hq]at h;exact h
     rw[hx]at hF;simp only[Option.isSome_none,Bool.false_eq_true,if_false]at hF;rw[X]at e1;have E1:=hid (show Erd b l s S1 wc from⟨_,_,_,e2⟩);clear e2 X;have d7:=HP.out.stp T1.out;have a7:=a6.out.stp T1.out;have b9:=ZkN b l W0 deep C s S1 (PO O v5) wc c (d7.lt (fun k hk=>Nat.lt_of_lt_of_le (M.out k hk) (Nat.le_trans p.out.fr.size T1.out.fr.size))) hl f0.out HG.out I.out hc a7 E1.out;have d3:=(atomX_kept HC.out (c:=c) I.out hc);have L:=Zgf (l:=l) (C:=C) (s:=s) (c:=c);obtain⟨ta,s2,hq⟩:∃ta s2,Zax l C s c=(ta,s2):=⟨_,_,rfl⟩;rw[hq]at b9 d3 L hF;simp only at hF L;obtain⟨⟨a1,a2,a3,a4⟩,a5⟩:=d3;have a1:Sane l s2.r:=a1;have a3:ta.size+3*s.r.at_≤3*s2.r.at_+0:=a3;have a5:s.r.at_<s2.r.at_:=a5;have d4:=Zb9 (l.length+1) s2 ta a1;obtain⟨tr,s3,c2⟩:∃tr s3,ZbR l (l.length+1) s2 ta=(tr,s3):=⟨_,_,rfl⟩;rw[c2]at d4 hF;simp only at hF;obtain⟨b1,b2,b3,b4⟩:=d4
     have b1:Sane l s3.r:=b1;have b2:s2.r.at_≤s3.r.at_:=b2;have b3:tr.size+3*s2.r.at_≤3*s3.r.at_+ta.size:=b3;have d6:ta≠.nil∨l[s2.r.at_]? =none:=by
      by_cases h:ta=.nil
      ·exact .inr (L h)
      ·exact .inl h
     have e7:=hid b9;have f2:=hid hF;have B1:=hid b1;have A1:=hid a1;have f3:=hid d6;have f5:=hid c2;clear hx d7 a7 b9 L hq hF a1 a2 a4 b1 b4 d6 c2 hc;go_wp2_with fail;with_reducible refine e7.out.mono ?_
     rintro e w2 ⟨v2,S2,rfl,e0,e2,e4⟩;have c3:=Zeb b l s2 ta v2 S2 (PO O v5) w2 hl A1.out f3.out e0 e2;rw[f5.out]at c3;have f6:=hid c3;have f8:=hid (T1.out.trans e4);clear e0 e2 e4 c3;go_wp2_with fail;with_reducible refine f6.out.mono ?_
     rintro e w3 ⟨v3,S3,rfl,c6,e3,e5⟩;have T3:=hid (f8.out.trans e5);have E3:=hid e3;have f7:=hid c6;have g0:=ZdL c6;clear c6 e3 e5;have f4:=hid (HP.out.stp T3.out);have c7:=hid (a6.out.stp T3.out).lt;have Q:=hid (show∀k,O k→k<w3.heap.size from fun k hk=>Nat.lt_of_lt_of_le (M.out k hk) (Nat.le_trans p.out.fr.size T3.out.fr.size));have V:=hid (Nat.le_trans p.out.fr.size T3.out.fr.size);rcases g0 with rfl|⟨vi,vy,rfl⟩
     all_goals
      go_wp2_with(at_builtin;refine wpList_append_pts (W:=w) (S:=S3) (O:=O) rfl (.tmp 73) (.tmp 79) rfl ps tr v5 _ _ _ (by rw[b6.out];rfl) f4.out c7.out Q.out V.out rfl (by rfl) f7.out (by omega) ?_;intro va wa B t;obtain⟨aa,ca,G⟩:=B.shape;simp only[List.length_append,List.length_singleton]at G;subst G;have R:=hid B;have E:=hid t;clear B t);go_roundg m
      case measure=>omega
      case rel=>
       refine⟨false,s3,ps++[tr],S3,rfl,R.out,E3.out.off E.out c0,(p.out.trans T3.out).off E.out,B1.out,?_,?_,f2.out⟩
       ·omega
       ·rw[Nd.sizes_append];show Nd.sizes ps+(tr.size+0)≤3*s3.r.at_;omega
section
variable {l:List UInt8} {C:Option (ES→Nd×ES)} {inner:Bool} {n:Nat} {s:ES} {ts:List Nd}
theorem Zht(h:¬l[s.r.at_]? =some 124):Zat l C inner (n+1) s ts=(Za3 ts,s):=by rw[Zat,if_neg h]
theorem Zjm(h:l[s.r.at_]? =some 124){t:Nd}{s':ES}(hb:Zab l C inner (s.go 1)=(t,s')):Zat l C inner (n+1) s ts=Zat l C inner n s' (ts++[t]):=by rw[Zat,if_pos h,hb]
end
def ChR(b:Nat)(l:List UInt8)(C:Option (ES→Nd×ES))(inner:Bool)(S O:Nat→Prop)(w:World)(F:Nd×ES)(n:Nat)(v5:Value)(wr:World):Prop:=
 ∃s ts S',Pts S' O w wr ts v5∧Erd b l s S' wr∧Stp S w S' wr∧Sane l s.r∧l.length<n+s.r.at_∧Nd.sizes ts≤3*s.r.at_+1∧Zat l C inner n s ts=F
theorem Zgg(b:Nat)(l:List UInt8)(W0:World)(deep:Nat)(C:Option (ES→Nd×ES))(s:ES)(S O:Nat→Prop)(w:World)(hO:∀k,O k→k<w.heap.size)(hl:l.length≤100000)(hd:deep≤12)(hE0:Env W0)
 (hG:GrX l W0 deep C) (hC:∀f,C=some f→∀s,Sane l s.r→Kp l s (f s) 2) (hs:Sane l s.r) (hW:Wd W0 S w) (h:Erd b l s S w):
 Calls prog 37 #[.pointer (some ⟨b,0,none⟩),.int .i64 deep] w (Zmo b l S O w (Zb8 l C (decide (0<deep)) s)):=by
 obtain⟨F,hF⟩:∃F,Zb8 l C (decide (0<deep)) s=F:=⟨_,rfl⟩;rw[hF];have g:=hid (fun(s:ES) (S O:Nat→Prop) (w:World) (hO:∀k,O k→k<w.heap.size) (hs:Sane l s.r) (hW:Wd W0 S w) (h:Erd b l s S w)=>er_branch b l W0 deep C s S O w hO hl hd hE0 hG hC hs hW h);obtain⟨inner,J⟩:∃inner,decide (0<deep)=inner:=⟨_,rfl⟩;rw[J]at g hF;have HW:=hid hW;have HC:=hid hC;have c:=hid hO;unfold Zb8 at hF;have h0:=g.out s S O w hO hs hW h;have hk:=Zbg hC (inner:=inner) hs;have a3:=h.lt;obtain⟨t,s1,H⟩:∃t s1,Zab l C inner s=(t,s1):=⟨_,_,rfl⟩;rw[H]at h0 hk hF;simp only at hF;obtain⟨k1,k2,k3,_⟩:=hk;have k1:Sane l s1.r:=k1;have k3:t.size+3*s.r.at_≤3*s1.r.at_+1:=k3;have H0:=hid h0;have HF:=hid hF;have K1:=hid k1;clear hW hC hE0 hO h hG J h0 H hF k1 hs;go_enter func37,ntmps37;go_wp2_with fail;with_reducible refine(H0.out).mono ?_
 rintro e w1 ⟨v1,S1,rfl,y,r1,t1⟩;have L:=Pts.one (W:=w) y ((HW.out.stp t1).lt) (fun k hk=>Nat.lt_of_lt_of_le (c.out k hk) t1.fr.size) t1.fr.size rfl;have o:=ZdL y;have D:=hid L;have R1:=hid r1;have T1:=hid t1;clear H0 L y r1 t1;rcases o with rfl|⟨vi,vy,rfl⟩
 all_goals
  go_wp2_with fail
  go_loopg [5] (l.length+1) (fun n v wr=>ChR b l C inner S O w F n v wr)
  case atStart=>exact⟨s1,[t],S1,D.out,R1.out.on ((Fr.refl _ _).alloc _),T1.out.trans (Stp.of ((Fr.refl _ _).alloc _)),K1.out,by omega,by show t.size+0≤_;omega,HF.out⟩
  case round=>
   clear D R1 T1 K1 HF k2 k3;obtain⟨s,ts,S1,hp,hr,q,p,hn,hz,hF⟩:=hrel;have P:=p.le;obtain⟨m,rfl⟩:∃m,gk=m+1:=⟨gk-1,by omega⟩;obtain⟨av,G,hv⟩:=hp.shape;subst hv;obtain⟨v5,u⟩:∃v5,v5=Value.slice av ts.length G:=⟨_,rfl⟩;have hT:Calls prog 59 #[.pointer (some ⟨b,0,none⟩),.int .i32 124] wr fun x w'=>x=.returned (.bool (decide (l[s.r.at_]? =some 124)))∧Erd b l (if l[s.r.at_]? =some 124 then s.go 1 else s) S1 w'∧Stp S1 wr S1 w':=Zfm b l 124 s S1 wr hl P hr;have HP:=hid (show Pts S1 O w wr ts v5 from u▸hp);have a:=hid q;have E:=hid p;have HF:=hid hF;have a0:=hid u;have i:=hid (HW.out.stp q);have a4:=Nd.length_le ts;clear hr q p hF u;by_cases e1:l[s.r.at_]? =some 124
   ·rw[decide_eq_true e1,if_pos e1]at hT;have K:=ZK e1;have HT:=hid hT;clear hT hp;go_wp2_with fail;with_reducible refine HT.out.mono ?_
    rintro e w2 ⟨rfl,r2,t2⟩;have M:=HP.out.stp t2;have h5:=g.out (s.go 1) S1 (PO O v5) w2 (M.lt (fun k hk=>Nat.lt_of_lt_of_le (c.out k hk) (Nat.le_trans a.out.fr.size t2.fr.size))) (E.out.goE K) (i.out.stp t2) r2;have hk:=Zbg HC.out (inner:=inner) (E.out.goE (n:=1) K);obtain⟨t5,s5,hb⟩:∃t5 s5,Zab l C inner (s.go 1)=(t5,s5):=⟨_,_,rfl⟩;rw[hb]at h5 hk;obtain⟨j1,j2,j3,_⟩:=hk;have j1:Sane l s5.r:=j1;have j2:s.r.at_+1≤s5.r.at_:=j2;have j3:t5.size+3*(s.r.at_+1)≤3*s5.r.at_+1:=j3;have hF:=HF.out;rw[Zjm e1 hb]at hF;have H5:=hid h5;have T2:=hid t2;have J1:=hid j1;have R:=hid hF;clear h5 t2 j1 hF M r2 hb e1;go_wp2_with fail;with_reducible refine H5.out.mono ?_
    rintro e w5 ⟨v6,S5,rfl,z,r5,Q⟩;have T5:=hid (T2.out.trans Q);have a2:=hid z;have R5:=hid r5;have o:=ZdL z;clear z r5 Q;have V:=hid (HP.out.stp T5.out);have A:=hid (i.out.stp T5.out).lt;have U:=hid (show∀k,O k→k<w5.heap.size from fun k hk=>Nat.lt_of_lt_of_le (c.out k hk) (Nat.le_trans a.out.fr.size T5.out.fr.size));have a1:=hid (Nat.le_trans a.out.fr.size T5.out.fr.size);rcases o with rfl|⟨vi,vy,rfl⟩
    all_goals
     go_wp2_with(at_builtin;refine wpList_append_pts (W:=w) (S:=S5) (O:=O) rfl (.tmp 12) (.tmp 16) rfl ts t5 v5 _ _ _ (by rw[a0.out];rfl) V.out A.out U.out a1.out rfl (by rfl) a2.out (by omega) ?_;intro va wa j d;obtain⟨aa,ca,I⟩:=j.shape;simp only[List.length_append,List.length_singleton]at I;subst I;have X:=hid j;have B:=hid d;clear j d);go_roundg m
     case measure=>omega
     case rel=>
      refine⟨s5,ts++[t5],S5,X.out,R5.out.off B.out a3,(a.out.trans T5.out).off B.out,J1.out,by omega,?_,R.out⟩;rw[Nd.sizes_append];show Nd.sizes ts+(t5.size+0)≤3*s5.r.at_+1;omega
   ·rw[decide_eq_false e1,if_neg e1]at hT;have hF:=HF.out;rw[Zht e1]at hF;subst hF;have HT:=hid hT;have Y:=hid hp;clear hT HF hp;go_wp2_with fail;with_reducible refine HT.out.mono ?_
    rintro e w2 ⟨rfl,r2,t2⟩;have hJ:=Zd4 (SO S1 O) ts (.slice av ts.length G) w2 (fun k hk=>hk.elim ((i.out.stp t2).lt k) (fun x=>Nat.lt_of_lt_of_le (c.out k x) (Nat.le_trans a.out.fr.size t2.fr.size))) (by omega) ((Y.out.stp t2).sn c.out);have HJ:=hid hJ;have R2:=hid r2;have T2:=hid t2;clear hJ r2 t2;go_wp2_with fail;refine(HJ.out).mono ?_;rintro e wj ⟨r,rfl,N,fj⟩;have Z:=hid N;have FJ:=hid fj;clear N fj;go_wp2;go_ret;exact⟨r,S1,rfl,Z.out,R2.out.on FJ.out,(a.out.trans T2.out).trans (Stp.of FJ.out)⟩
theorem ZkO(l:List UInt8)(W0:World)(hl:l.length≤100000)(hE0:Env W0):∀n deep,n+deep=12→ChX l W0 deep (chX l n)
 |0,deep,hd=>by
  obtain rfl:deep=12:=by omega
  intro b s S O w hO hs hW h;have hG:GrX l W0 12 none:=fun b s S O w _ _ _ _ h=>Zfn b l s S O w hl h;have:=Zgg b l W0 12 none s S O w hO hl (Nat.le_refl _) hE0 hG (fun f hf=>by cases hf) hs hW h;rw[chX];exact this
 |n+1,deep,hd=>by
  intro b s S O w hO hs hW h;have ih:=ZkO l W0 hl hE0 n (deep+1) (by omega);have hG:GrX l W0 deep (some (chX l n)):=fun b s S O w hO hs h1 hW h=>Zmr b l W0 deep (chX l n) s S O w hO hl (by omega) ih (chX_kept n) hs h1 hW h;have:=Zgg b l W0 deep (some (chX l n)) s S O w hO hl (by omega) hE0 hG (fun f hf=>by injection hf with hf;subst hf;exact chX_kept n) hs hW h;rw[chX,show decide (n+1<12)=decide (0<deep)from by congr 1;exact propext ⟨fun _=>by omega,fun _=>by omega⟩];exact this
end Go.Proofs.YtgllcniibbaoaaaGreatDoor
