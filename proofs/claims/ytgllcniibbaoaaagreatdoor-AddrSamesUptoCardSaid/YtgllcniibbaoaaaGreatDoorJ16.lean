/- Lemmas of this claim. -/
import Derived.Test.YtgllcniibbaoaaaGreatDoorJ15
set_option linter.all false
set_option maxRecDepth 100000
set_option maxHeartbeats 24000000
namespace Go.Proofs.YtgllcniibbaoaaaGreatDoor
open Go.Proofs.Tryz
open Go.Lib (hid)
open Go.RowKit
theorem Zms:(prog.info? 21).map (fun i=>(i.zero,i.size,i.bytes))=some (some (.int .i32 0),1,4):=by kernel_rfl
theorem Zgh(a b:List UInt8):Zbk (a++b)=Zbk a++Zbk b:=by simp[Zbk]
def Zqw(l x:List UInt8)(w:World)(it n:Nat)(v:Value)(wr:World):Prop:=
 ∃k:Nat,k≤l.length∧l.length<n+k∧wr.heap[it]? =some (.stringIter ⟨x.toArray⟩ (Zco (l.take k)).length)∧wr.ownsRow 0 21 1 v k (Zbk (l.take k))∧(∀j,v.ownBlock=some j→it<j)∧Fr nob w wr
theorem Zmt(l:List UInt8)(w:World)(hl:l.length≤100000):
 Calls prog 36 #[.string ⟨l.toArray⟩] w fun e w'=>∃v,e=.returned v∧w'.ownsRow 0 21 1 v l.length (Zbk l)∧(∀j,v.ownBlock=some j→w.heap.size≤j)∧Fr nob w w':=by
 obtain⟨i0,hi,R,S,U⟩:=info_parts Zms;have hW:=ZlR l w (by omega);obtain⟨x,hx⟩:∃x,Zco l=x:=⟨_,rfl⟩;rw[hx]at hW;have HX:=hid hx;have N:=hid hW;clear hx hW;go_enter func36,ntmps36;go_wp2_with fail;with_reducible refine N.out.mono ?_
 rintro e w3 ⟨rfl,f3⟩;have F:=hid f3;clear f3;go_wp2_with fail
 go_loopg [3] (l.length+1) (fun n v wr=>Zqw l x w w3.heap.size n v wr)
 case atStart=>exact⟨0,Nat.zero_le _,by omega,heap_alloc_new _ _,World.ownsRow_nil _ _ _ _,fun j h=>(by cases h),F.out.alloc _⟩
 case round=>
  obtain⟨k,hk,hn,G,f,q,D⟩:=hrel;obtain⟨m,rfl⟩:∃m,gk=m+1:=⟨gk-1,by omega⟩;obtain⟨av,cv,rfl⟩:=Zb f;have HI:=hid G;have HO:=hid f;have d:=hid q;have z:=hid D;clear G f q D;by_cases o:k<l.length
  ·have r:(Zco (l.take k)).length<x.length:=by rw[←HX.out];exact Zns o
   have p:∀ty,(Instr.next (.pointer (some ⟨w3.heap.size,0,none⟩)) true ty).run prog wr=.ok (.tuple #[.bool true,.int .i64 ((Zco (l.take k)).length:Nat),.int .i32 (l[k].toNat:Nat)]) (wr.iterAt w3.heap.size ⟨x.toArray⟩ (Zco (l.take (k+1))).length):=by
    intro ty;have:=Lib.run_next_any_at (P:=prog) wr w3.heap.size ⟨x.toArray⟩ (Zco (l.take k)).length ty HI.out (by rw[Zbp];exact r);rw[ZiT r (by rw[←HX.out];exact Znr o)]at this;rw[ZfD o,List.length_append];exact this
   have y:=Lib.iterAt_heap wr w3.heap.size ⟨x.toArray⟩ _ (Zco (l.take (k+1))).length HI.out;have W:w.heap.size≤w3.heap.size:=F.out.size;have t:=ZjS wr w3.heap.size ⟨x.toArray⟩ (Zco (l.take (k+1))).length;have s:Fr nob w (wr.iterAt w3.heap.size ⟨x.toArray⟩ (Zco (l.take (k+1))).length):=z.out.trans t (fun i hi e=>by omega);have b:=ownsRow_fr HO.out t (fun j hj e=>by have:=d.out j hj;omega);obtain⟨w4,hw⟩:∃w4,wr.iterAt w3.heap.size ⟨x.toArray⟩ (Zco (l.take (k+1))).length=w4:=⟨_,rfl⟩;rw[hw]at p y s b;obtain⟨c,hc⟩:∃c,l[k]=c:=⟨_,rfl⟩;rw[hc]at p;have hT:Zbk (l.take (k+1))=Zbk (l.take k)++[.int .i32 (c.toNat:Int)]:=by rw[List.take_succ_eq_append_getElem o,Zgh,hc];rfl
   have A:=hid y;have I:=hid s;have L:=hid b;have HT:=hid hT;clear hw y s r t b hT hc;go_wp2_with(at_builtin;refine wpList_append_g rfl _ _ 89 rfl 21 i0 (.int .i32 0) 1 4 underlying89 hi R S U rfl (by decide) _ _ _ rfl (ownsRow_fr L.out ((Fr.refl nob w4).alloc _) (fun _ _ x=>x)) ⟨w4.heap.size,0,none⟩ 1 1 [.int .i32 (c.toNat:Int)] rfl rfl ?c1 ?c2 ?c3 ?c4 ?_)
   case c1=>intro j u hj;match j,hj with|0,hj=>simp at hj;subst hj;simp[Addr.add]
   case c2=>intro u hu;simp at hu;subst hu;rfl
   case c3=>unfold maxLen;omega
   case c4=>omega
   intro v' w5 a g;obtain⟨O,Q,rfl⟩:=Zb a;have V:w3.heap.size<w4.heap.size:=lt_heap A.out;have E:=g.fr.heap (heap_alloc_lt (.cells #[.int .i32 (c.toNat:Int)] 21) A.out) (fun e=>by have:=d.out _ e;omega);have C:Fr nob w w5:=(I.out.alloc _).trans g.fr (fun i hi e=>by have:=d.out _ e;omega);have B:∀j,(Value.slice O (k+1) Q).ownBlock=some j→w3.heap.size<j:=fun j hj=>by
    rcases g.old j hj with h1|h1
    ·exact d.out j h1
    ·simp at h1;omega
   have K:=hid E;have J:=hid C;have H:=hid B;have M:=hid a;clear E C B a g p;go_wp2;go_roundg m
   case measure=>omega
   case rel=>exact⟨k+1,by omega,by omega,K.out,by rw[HT.out];exact M.out,H.out,J.out⟩
  ·obtain rfl:k=l.length:=by omega
   have hT:(Zco (l.take l.length)).length=x.length:=by rw[List.take_of_length_le (Nat.le_refl _),HX.out]
   have p:∀ty,(Instr.next (.pointer (some ⟨w3.heap.size,0,none⟩)) true ty).run prog wr=.ok (.tuple #[.bool false]) wr:=by
    intro ty;exact Lib.run_next_end_at (P:=prog) wr w3.heap.size ⟨x.toArray⟩ _ ty HI.out (by rw[Zbp,hT];omega)
   clear hT;go_wp2;go_ret;refine⟨_,rfl,?_,?_,z.out⟩
   ·have:=HO.out;rwa[List.take_of_length_le (Nat.le_refl _)]at this
   ·intro j hj;have:=d.out j hj;have:=F.out.size;omega
def Z2(R:Out Nd)(w:World)(e:Ending)(w':World):Prop:=Fr nob w w'∧match R with
 | .inl (z,p)=>e=.returned (.tuple #[.nilIface,.slice none 0 0,.int .i64 (p:Nat),.int .i64 z])
 | .inr (t,s)=>∃r mv,e=.returned (.tuple #[r,mv,.int .i64 0,.int .i64 0])∧RN (fun k=>k<w.heap.size) w' t r∧OwM w' s.marks mv∧∀k,mv.ownBlock=some k→w.heap.size≤k
theorem ZeI(l:List UInt8)(w:World)(hl:l.length≤100000)(hE:Env w):
 Calls prog 12 #[.string ⟨l.toArray⟩] w (Z2 (Zac prg true l) w):=by
 unfold Zac;by_cases d:250<l.length
 ·have I:(250:Int)<(l.length:Int):=by omega
  rw[if_pos d];go_enter func12,ntmps12;go_wp2;exact bodyPost_ret (results_tmp4 rfl _ _ _) rfl ⟨Fr.refl _ _,rfl⟩
 ·have I:¬(250:Int)<(l.length:Int):=by omega
  rw[if_neg d];obtain⟨D,hD⟩:∃D,chD prg true l 12 ⟨0,0,[],[]⟩=D:=⟨_,rfl⟩;rw[hD];have n:=ZpB (l:=l) 12 ⟨0,0,[],[]⟩;rw[hD]at n;have hS:=Zmt l w hl;have HS:=hid hS;have v:=hid n;clear hS n hD d;go_enter func12,ntmps12;go_wp2_with fail;with_reducible refine HS.out.mono ?_
  rintro e w1 ⟨sv,rfl,b,C,f1⟩;obtain⟨av,cv,rfl⟩:=Zb b;have N:∀W,(Instr.makeMap 91 none).run prog W=.ok (.map (some W.heap.size)) (W.alloc (.map #[] 0)):=fun W=>by simp[Instr.makeMap,Result.andThen]
  obtain⟨m,hm⟩:∃m,w1.heap.size=m:=⟨_,rfl⟩;obtain⟨w3,c⟩:∃w3,w3=(w1.alloc (.map #[] 0)).alloc (.cells #[.string ⟨l.toArray⟩,.slice av l.length cv,.int .i64 0,.int .i64 0,.map (some w1.heap.size),.slice none 0 0,.int .i64 0,.int .i64 0] 93):=⟨_,rfl⟩;have L:w3.heap.size=w1.heap.size+2:=by rw[c];simp
  have a:Fr nob w1 w3:=by rw[c];exact((Fr.refl nob w1).alloc _).alloc _
  have A:Er (w1.heap.size+1) l ⟨⟨0,0,[],[]⟩,none⟩ (fun k=>k=w1.heap.size+1∨k=w1.heap.size) (.slice av l.length cv) w1.heap.size (.slice none 0 0) w3:=by
   refine⟨by rw[c];exact Zg _ _ _ (by simp),ownsRow_fr b a (fun _ _ x=>x),IMap.new (by rw[c];exact heap_alloc_lt _ (newAt0 w1 _)),World.ownsRow_nil _ _ _ _,fun _ h=>(by cases h),by omega,fun k hk=> ?_,.inl rfl,.inr rfl,fun z h=>(by cases h)⟩;have:=Z3 b k hk;exact⟨by omega,by omega⟩
  have B:Wd w (fun k=>k=w1.heap.size+1∨k=w1.heap.size) w3:=⟨f1.trans' a,fun k hk=>by have:=f1.size;omega,fun k hk=>by omega⟩;have o:=ZkO l w hl hE 12 0 rfl (w1.heap.size+1) ⟨⟨0,0,[],[]⟩,none⟩ (fun k=>k=w1.heap.size+1∨k=w1.heap.size) (fun k=>k<w.heap.size) w3 (fun k (hk:k<w.heap.size)=>by have:=f1.size;omega) ⟨Nat.zero_le _,Nat.le_refl _,Nat.le_refl _,Nat.le_refl _⟩ B ⟨_,_,_,A⟩;rw[show((0:Nat):Int)=0 from rfl]at o;have E:=hid o;have H3:=hid c;have F3:=hid (f1.trans' a);have y:=hid f1.size;clear o c A B a b C f1 hm L;go_wp2_with(rw[←H3.out]);with_reducible refine E.out.mono ?_
  rintro e w4 ⟨v4,M,rfl,g,⟨Q,m4,P,e4⟩,t4⟩;have rr:=Zae e4.blk;have f:Fr nob w w4:=F3.out.trans t4.fr (fun i hi x=>by have:=y.out;rcases x with x|x<;>omega);cases D with
  |inl z=>
   obtain⟨z,p⟩:=z;obtain⟨hx,_⟩:(chX l 12 ⟨⟨0,0,[],[]⟩,none⟩).2.x=some (z,p)∧_:=v.out;have hz:=e4.ok _ hx;have hz:z≠0:=hz;rw[hx]at rr;have O:((z:Int) !=0)=true:=by simpa using hz
   have j:=hid f;clear hx e4 t4 g f;have u:=rr w4 (Fr.refl nob w4);unfold eX pX at rr u;go_wp2_with fail;refine region_fr 11 (by kernel_rfl) (by kernel_rfl) ?_;simp only[List.take_succ_cons,List.take_zero,List.drop_succ_cons,List.drop_zero]
   repeat(quiet_step (fail))
   refine wpQuiet_nil ?_;intro w5 f5;go_wp2;exact bodyPost_ret (results_tmp4 rfl _ _ _) rfl ⟨j.out.trans' f5,rfl⟩
  |inr q=>
   obtain⟨t,s⟩:=q;have hx:chX l 12 ⟨⟨0,0,[],[]⟩,none⟩=(t,⟨s,none⟩):=v.out;rw[hx]at rr g e4;have r:=e4.ma;obtain⟨am,cm,K⟩:=Zb r;subst K;have j:=hid f;have F:=hid r;have H:=hid (RN.keep (Fr.refl nob w4) (fun _ _ x=>x.elim) (fun _ _ x=>.inr x) _ _ g:RN (fun k=>k<w.heap.size) w4 t v4);have G:=hid (show∀k,(Value.slice am s.marks.length cm).ownBlock=some k→w.heap.size≤k from fun k hk=>by
    have h1:=e4.nm k hk;have h2:=y.out;by_cases J:k<w3.heap.size
    ·rcases t4.old k J h1.2.2 with x|x<;>omega
    ·have:=F3.out.size;omega)
   clear hx e4 t4 g f r;have u:=rr w4 (Fr.refl nob w4);unfold eX pX at rr u;go_wp2_with fail;refine region_fr 6 (by kernel_rfl) (by kernel_rfl) ?_;simp only[List.take_succ_cons,List.take_zero,List.drop_succ_cons,List.drop_zero]
   repeat(quiet_step (fail))
   refine wpQuiet_nil ?_;intro w5 f5;go_wp2;exact bodyPost_ret (results_tmp4 rfl _ _ _) rfl ⟨j.out.trans' f5,v4,_,rfl,H.out.on f5,ownsRow_fr F.out f5 (fun _ _ x=>x),G.out⟩
end Go.Proofs.YtgllcniibbaoaaaGreatDoor
