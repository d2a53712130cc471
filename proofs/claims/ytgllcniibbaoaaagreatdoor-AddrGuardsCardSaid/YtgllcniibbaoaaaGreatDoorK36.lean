/- Lemmas of this claim. -/
import Derived.Test.YtgllcniibbaoaaaGreatDoorK35
set_option linter.all false
set_option maxRecDepth 100000
set_option maxHeartbeats 24000000
namespace Go.Proofs.YtgllcniibbaoaaaGreatDoor
open Go.Lib (hid)
open Go.RowKit
attribute [-go_sem] storeVar loadVar
attribute [local go_sem] Zx3 Zx4 Zx1 Zx2 Zyb Zx9
theorem ZBJ(l:List UInt8)(k:Int)(x sec:Bool)(w:World)(hl:l.length≤99000)(hk:k<0∨(l.length:Int)<k):
 Calls Tryz.prog 22 #[.string ⟨l.toArray⟩,.int .i64 k,.bool x,.bool sec] w fun e w'=>e=.returned (.tuple #[.agg ZA5,.agg (xC (.slice none 0 0) 0 1)])∧Fr nob w w':=by
 have L0:=hid (LB.ax w);rcases(by omega:k<0∨(¬k<0∧(l.length:Int)<k))with h|⟨h,h'⟩
 all_goals
  go_enter Tryz.func22,Tryz.ntmps22;go_wp2_with fail;refine(x_bad 1 0 _).mono ?_;rintro e w3 ⟨rfl,f3⟩;have L3:=hid (L0.out.on f3);clear f3;go_wp2_with(first|(refine L3.out.sto nob 0 rfl rfl _ _ rfl rfl rfl info_dA rfl (one_dA 0 0 [] 0 S4.zero none 0 0 0 0 0) ?_;intro w7 l7 z1 z2;have L7:=hid l7;clear l7 z1 z2)|(refine L7.out.sto nob 1 rfl rfl _ _ rfl rfl rfl info_dX rfl (one_dX none 0 0 0 1) ?_;intro w8 l8 z1 z2;have L8:=hid l8;clear l8 z1 z2));refine bodyPost_ret (ZA1 rfl rfl rfl (L8.out.get 0 rfl) (L8.out.get 1 rfl) rfl rfl) rfl ?_;exact⟨rfl,L8.out.fr⟩
theorem DOw.one{B b k:Nat}{t:List UInt8}{w:World}{e:TypeId}(h:w.heap[b]? =some (.cells #[.int .i64 (k:Nat),.string ⟨t.toArray⟩] e (0,0)))(he:e=96)(hb:B≤b):DOw B w [(k,t)] (.slice (some ⟨b,0,none⟩) 1 1):=by
 subst he;refine⟨⟨by simp[mkC],.inr ⟨b,1,_,rfl,Nat.zero_le _,h,by simp,by simp[maxLen],by simp,by simp[mkC]⟩⟩,fun j hj=> ?_⟩;simp[Value.ownBlock]at hj;omega
theorem ZBj(l:List UInt8)(k:Nat)(x sec:Bool)(O:Nat→Prop)(w:World)(hO:∀j,O j→j<w.heap.size)(hl:l.length≤99000)(hk:k≤l.length):
 Calls Tryz.prog 22 #[.string ⟨l.toArray⟩,.int .i64 (k:Nat),.bool x,.bool sec] w (ZCa O (addrD x l sec ⟨k,[],0⟩) w):=by
 have L0:=hid (LB.ax w);have n1:¬(k:Int)<0:=by omega
 have n2:¬(l.length:Int)<k:=by omega
 obtain⟨R,hR⟩:∃R,addrD x l sec ⟨k,[],0⟩=R:=⟨_,rfl⟩;rw[hR];unfold addrD at hR;simp only at hR;by_cases r:k=l.length
 ·rw[ZkR (Nat.le_of_eq r.symm)]at hR;subst r;simp at hR;subst hR;clear n2;go_enter Tryz.func22,Tryz.ntmps22;go_wp2_with(first|(refine L0.out.sto nob 0 rfl rfl _ _ rfl rfl rfl info_dA rfl (one_dA 0 0 [] 0 S4.zero none 0 0 0 0 0) ?_;intro w7 l7 z1 z2;have L7:=hid l7;clear l7 z1 z2)|(refine L7.out.sto nob 1 rfl rfl _ _ rfl rfl rfl info_dX rfl (one_dX none 0 0 l.length 0) ?_;intro w8 l8 z1 z2;have L8:=hid l8;clear l8 z1 z2));refine bodyPost_ret (ZA1 rfl rfl rfl (L8.out.get 0 rfl) (L8.out.get 1 rfl) rfl rfl) rfl ?_;exact⟨L8.out.fr,_,_,rfl,ZBc _ w8 0 0 [] (by decide),DOw.nil _ w8⟩
 ·have H:k<l.length:=by omega
  have n3:((k:Int)==l.length)=false:=by simp only[beq_eq_false_iff_ne,ne_eq];omega
  rw[ZkQ H]at hR;clear r;by_cases hd:48≤l[k].toNat∧l[k].toNat≤57
  ·rw[if_pos hd]at hR;obtain⟨M,N⟩:=hd;unfold lineD at hR;simp only at hR;have HN:=hid (fun w'=>ZA3 l k w' (by omega) hk);obtain⟨F,hF⟩:∃F,nm k (l.drop k) 0 0=F:=⟨_,rfl⟩;obtain⟨n,q,z⟩:=F;rw[hF]at HN;simp only[hF]at hR HN;clear hF;by_cases hz:z=0
   ·subst hz;rw[if_neg (by simp)]at hR;by_cases hn:n=0
    ·subst hn;rw[if_pos rfl]at hR;subst hR;go_enter Tryz.func22,Tryz.ntmps22;go_wp2_with fail;refine(HN.out _).mono ?_;rintro e w2 ⟨rfl,rfl⟩;go_wp2_with fail;refine(x_bad 12 k _).mono ?_;rintro e w3 ⟨rfl,f3⟩;have L3:=hid (L0.out.on f3);clear f3;go_wp2_with(first|(refine L3.out.sto nob 0 rfl rfl _ _ rfl rfl rfl info_dA rfl (one_dA 0 0 [] 0 S4.zero none 0 0 0 0 0) ?_;intro w7 l7 z1 z2;have L7:=hid l7;clear l7 z1 z2)|(refine L7.out.sto nob 1 rfl rfl _ _ rfl rfl rfl info_dX rfl (one_dX none 0 0 k 12) ?_;intro w8 l8 z1 z2;have L8:=hid l8;clear l8 z1 z2));refine bodyPost_ret (ZA1 rfl rfl rfl (L8.out.get 0 rfl) (L8.out.get 1 rfl) rfl rfl) rfl ?_;exact⟨L8.out.fr,rfl,by decide⟩
    ·rw[if_neg hn]at hR;have P:((n:Int)==0)=false:=by simp only[beq_eq_false_iff_ne,ne_eq];omega
     subst hR;go_enter Tryz.func22,Tryz.ntmps22;go_wp2_with fail;refine(HN.out _).mono ?_;rintro e w2 ⟨rfl,rfl⟩;go_wp2_with(first|(refine L0.out.sto nob 0 rfl rfl _ _ rfl rfl rfl info_dA rfl (one_dA 1 n [] 0 S4.zero none 0 0 0 0 0) ?_;intro w7 l7 z1 z2;have L7:=hid l7;clear l7 z1 z2)|(refine L7.out.sto nob 1 rfl rfl _ _ rfl rfl rfl info_dX rfl (one_dX none 0 0 q 0) ?_;intro w8 l8 z1 z2;have L8:=hid l8;clear l8 z1 z2));refine bodyPost_ret (ZA1 rfl rfl rfl (L8.out.get 0 rfl) (L8.out.get 1 rfl) rfl rfl) rfl ?_;exact⟨L8.out.fr,_,_,rfl,ZBc _ w8 1 n [] (by decide),DOw.nil _ w8⟩
   ·rw[if_pos hz]at hR;have L:(z !=0)=true:=by simpa using hz
    subst hR;have HZ:=hid hz;clear hz;go_enter Tryz.func22,Tryz.ntmps22;go_wp2_with fail;refine(HN.out _).mono ?_;rintro e w2 ⟨rfl,rfl⟩;go_wp2_with fail;refine(x_bad z q _).mono ?_;rintro e w3 ⟨rfl,f3⟩;have L3:=hid (L0.out.on f3);clear f3;go_wp2_with(first|(refine L3.out.sto nob 0 rfl rfl _ _ rfl rfl rfl info_dA rfl (one_dA 0 0 [] 0 S4.zero none 0 0 0 0 0) ?_;intro w7 l7 z1 z2;have L7:=hid l7;clear l7 z1 z2)|(refine L7.out.sto nob 1 rfl rfl _ _ rfl rfl rfl info_dX rfl (one_dX none 0 0 q z) ?_;intro w8 l8 z1 z2;have L8:=hid l8;clear l8 z1 z2));refine bodyPost_ret (ZA1 rfl rfl rfl (L8.out.get 0 rfl) (L8.out.get 1 rfl) rfl rfl) rfl ?_;exact⟨L8.out.fr,rfl,HZ.out⟩
  ·rw[if_neg hd]at hR;by_cases b:l[k]=36
   ·rw[if_pos b]at hR;subst hR;have hv:(l[k].toNat:Int)=36:=by rw[b];rfl
    have hw:IntKind.i64.wrap ((k:Int)+1)=((k+1:Nat):Int):=by rw[IntWalk.i64_in _ (by omega)];omega
    clear b hd;go_enter Tryz.func22,Tryz.ntmps22;go_wp2_with(first|(refine L0.out.sto nob 0 rfl rfl _ _ rfl rfl rfl info_dA rfl (one_dA 2 0 [] 0 S4.zero none 0 0 0 0 0) ?_;intro w7 l7 z1 z2;have L7:=hid l7;clear l7 z1 z2)|(refine L7.out.sto nob 1 rfl rfl _ _ rfl rfl rfl info_dX rfl (one_dX none 0 0 (k+1:Nat) 0) ?_;intro w8 l8 z1 z2;have L8:=hid l8;clear l8 z1 z2));refine bodyPost_ret (ZA1 rfl rfl rfl (L8.out.get 0 rfl) (L8.out.get 1 rfl) rfl rfl) rfl ?_;exact⟨L8.out.fr,_,_,rfl,ZBc _ w8 2 0 [] (by decide),DOw.nil _ w8⟩
   ·rw[if_neg b]at hR;by_cases d:l[k]=47
    ·rw[if_pos d]at hR;have hv:(l[k].toNat:Int)=47:=by rw[d];rfl
     have hw:IntKind.i64.wrap ((k:Int)+1)=((k+1:Nat):Int):=by rw[IntWalk.i64_in _ (by omega)];omega
     have HX:=hid (fun W (f:Fr nob _ W)=>ZBz l 47 x (k+1) (lbB O [w.heap.size,w.heap.size+1]) W (L0.out.on f |>.below hO) hl (by omega));rw[hR]at HX;clear hR d b hd;go_enter Tryz.func22,Tryz.ntmps22;go_wp2_with fail;refine(HX.out _ (Fr.refl nob _)).mono ?_;rintro e w3 ⟨f3,h3⟩;have L3:=hid (L0.out.on f3);have I:=L0.out.fr.size;have J:w.heap.size+2≤w3.heap.size:=by have:=L3.out.lt _ (List.mem_of_getElem? (show(AX w ZA5 zX3)[1]? =some _ from rfl));simp at this;omega
     cases R with
     |inl y=>
      obtain⟨z,p⟩:=y;obtain⟨rfl,hz⟩:=h3;have HZ:=hid hz;clear hz f3;go_wp2_with(first|(refine L3.out.sto nob 0 rfl rfl _ _ rfl rfl rfl info_dA rfl (one_dA 0 0 [] 0 S4.zero none 0 0 0 0 0) ?_;intro w7 l7 z1 z2;have L7:=hid l7;clear l7 z1 z2)|(refine L7.out.sto nob 1 rfl rfl _ _ rfl rfl rfl info_dX rfl (one_dX none 0 0 p z) ?_;intro w8 l8 z1 z2;have L8:=hid l8;clear l8 z1 z2));refine bodyPost_ret (ZA1 rfl rfl rfl (L8.out.get 0 rfl) (L8.out.get 1 rfl) rfl rfl) rfl ?_;exact⟨L8.out.fr,rfl,HZ.out⟩
     |inr y=>
      obtain⟨a,s⟩:=y;obtain⟨v,mv,rfl,⟨kd,s4,ua,n,uc,mn,mx,nu,rfl,ht,u⟩,hd⟩:=h3;obtain⟨va,vc,rfl⟩:=hd.shape;have HT:=hid (ht.wide (S:=lbB (fun j=>O j∨(Value.slice va s.marks.length vc).ownBlock=some j) [w.heap.size,w.heap.size+1]) (fun j _ e=>ZBp e));have HD:=hid (hd.weak (B':=w.heap.size+2) (by simp));have HK:=hid u;clear ht hd u f3;go_wp2_with(first|(refine L3.out.sto O 0 rfl rfl _ _ rfl rfl rfl info_dA rfl (one_dA a.kind a.line a.text kd s4 ua n uc mn mx nu) ?_;intro w7 l7 z1 z2;have L7:=hid l7;have o:=hid (HT.out.step z2 (by simp));have i:=hid (HD.out.step z2 (fun j hj e=>by omega));clear l7 z1 z2)|(refine L7.out.sto O 1 rfl rfl _ _ rfl rfl rfl info_dX rfl (one_dX va s.marks.length vc s.at_ 0) ?_;intro w8 l8 z1 z2;have L8:=hid l8;have A:=hid (o.out.step z2 (by simp));have m:=hid (i.out.step z2 (fun j hj e=>by omega));clear l8 z1 z2));refine bodyPost_ret (ZA1 rfl rfl rfl (L8.out.get 0 rfl) (L8.out.get 1 rfl) rfl rfl) rfl ?_
      exact⟨L8.out.fr,_,_,rfl,⟨kd,s4,ua,n,uc,mn,mx,nu,rfl,A.out.wide (fun j _ e=>.inl e),HK.out⟩,m.out.weak (by omega)⟩
    ·rw[if_neg d]at hR;by_cases g:l[k]=92
     ·rw[if_pos g]at hR;have hv:(l[k].toNat:Int)=92:=by rw[g];rfl
      have hw:IntKind.i64.wrap ((k:Int)+1)=((k+1:Nat):Int):=by rw[IntWalk.i64_in _ (by omega)];omega
      clear g d b hd;by_cases he:k+1=l.length
      ·rw[if_pos (.inl (by omega))]at hR;subst hR;have E:(((k+1:Nat):Int)==l.length)=true:=by simp only[beq_iff_eq];omega
       go_enter Tryz.func22,Tryz.ntmps22;go_wp2_with fail;refine(x_bad 12 k _).mono ?_;rintro e w3 ⟨rfl,f3⟩;have L3:=hid (L0.out.on f3);clear f3;go_wp2_with(first|(refine L3.out.sto nob 0 rfl rfl _ _ rfl rfl rfl info_dA rfl (one_dA 0 0 [] 0 S4.zero none 0 0 0 0 0) ?_;intro w7 l7 z1 z2;have L7:=hid l7;clear l7 z1 z2)|(refine L7.out.sto nob 1 rfl rfl _ _ rfl rfl rfl info_dX rfl (one_dX none 0 0 k 12) ?_;intro w8 l8 z1 z2;have L8:=hid l8;clear l8 z1 z2));refine bodyPost_ret (ZA1 rfl rfl rfl (L8.out.get 0 rfl) (L8.out.get 1 rfl) rfl rfl) rfl ?_;exact⟨L8.out.fr,rfl,by decide⟩
      ·have C:k+1<l.length:=by omega
       have E:(((k+1:Nat):Int)==l.length)=false:=by simp only[beq_eq_false_iff_ne,ne_eq];omega
       rw[ZkQ C]at hR;clear he;by_cases h1:l[k+1]=92
       ·rw[if_pos (.inr (.inl h1))]at hR;subst hR;have K:(l[k+1].toNat:Int)=92:=by rw[h1];rfl
        clear h1;go_enter Tryz.func22,Tryz.ntmps22;go_wp2_with fail;refine(x_bad 12 k _).mono ?_;rintro e w3 ⟨rfl,f3⟩;have L3:=hid (L0.out.on f3);clear f3;go_wp2_with(first|(refine L3.out.sto nob 0 rfl rfl _ _ rfl rfl rfl info_dA rfl (one_dA 0 0 [] 0 S4.zero none 0 0 0 0 0) ?_;intro w7 l7 z1 z2;have L7:=hid l7;clear l7 z1 z2)|(refine L7.out.sto nob 1 rfl rfl _ _ rfl rfl rfl info_dX rfl (one_dX none 0 0 k 12) ?_;intro w8 l8 z1 z2;have L8:=hid l8;clear l8 z1 z2));refine bodyPost_ret (ZA1 rfl rfl rfl (L8.out.get 0 rfl) (L8.out.get 1 rfl) rfl rfl) rfl ?_;exact⟨L8.out.fr,rfl,by decide⟩
       ·by_cases h2:l[k+1]=10
        ·rw[if_pos (.inr (.inr h2))]at hR;subst hR;have K:(l[k+1].toNat:Int)=10:=by rw[h2];rfl
         clear h1 h2;go_enter Tryz.func22,Tryz.ntmps22;go_wp2_with fail;refine(x_bad 12 k _).mono ?_;rintro e w3 ⟨rfl,f3⟩;have L3:=hid (L0.out.on f3);clear f3;go_wp2_with(first|(refine L3.out.sto nob 0 rfl rfl _ _ rfl rfl rfl info_dA rfl (one_dA 0 0 [] 0 S4.zero none 0 0 0 0 0) ?_;intro w7 l7 z1 z2;have L7:=hid l7;clear l7 z1 z2)|(refine L7.out.sto nob 1 rfl rfl _ _ rfl rfl rfl info_dX rfl (one_dX none 0 0 k 12) ?_;intro w8 l8 z1 z2;have L8:=hid l8;clear l8 z1 z2));refine bodyPost_ret (ZA1 rfl rfl rfl (L8.out.get 0 rfl) (L8.out.get 1 rfl) rfl rfl) rfl ?_;exact⟨L8.out.fr,rfl,by decide⟩
        ·rw[if_neg (by rintro(h|h|h);(exact absurd h (by omega));(exact h1 h);(exact h2 h))]at hR;have t1:((l[k+1].toNat:Int)==92)=false:=Zn h1;have t2:((l[k+1].toNat:Int)==10)=false:=Zn h2;have Q:IntKind.i64.wrap ((k:Int)+2)=((k+1+1:Nat):Int):=by rw[IntWalk.i64_in _ (by omega)];omega
         have HX:=hid (fun W (f:Fr nob _ W)=>ZBz l l[k+1] x (k+1+1) (lbB O [w.heap.size,w.heap.size+1]) W (L0.out.on f |>.below hO) hl (by omega));rw[hR]at HX;clear hR h1 h2;go_enter Tryz.func22,Tryz.ntmps22;go_wp2_with fail;refine(HX.out _ (Fr.refl nob _)).mono ?_;rintro e w3 ⟨f3,h3⟩;have L3:=hid (L0.out.on f3);have I:=L0.out.fr.size;have J:w.heap.size+2≤w3.heap.size:=by have:=L3.out.lt _ (List.mem_of_getElem? (show(AX w ZA5 zX3)[1]? =some _ from rfl));simp at this;omega
         cases R with
         |inl y=>
          obtain⟨z,p⟩:=y;obtain⟨rfl,hz⟩:=h3;have HZ:=hid hz;clear hz f3;go_wp2_with(first|(refine L3.out.sto nob 0 rfl rfl _ _ rfl rfl rfl info_dA rfl (one_dA 0 0 [] 0 S4.zero none 0 0 0 0 0) ?_;intro w7 l7 z1 z2;have L7:=hid l7;clear l7 z1 z2)|(refine L7.out.sto nob 1 rfl rfl _ _ rfl rfl rfl info_dX rfl (one_dX none 0 0 p z) ?_;intro w8 l8 z1 z2;have L8:=hid l8;clear l8 z1 z2));refine bodyPost_ret (ZA1 rfl rfl rfl (L8.out.get 0 rfl) (L8.out.get 1 rfl) rfl rfl) rfl ?_;exact⟨L8.out.fr,rfl,HZ.out⟩
         |inr y=>
          obtain⟨a,s⟩:=y;obtain⟨v,mv,rfl,⟨kd,s4,ua,n,uc,mn,mx,nu,rfl,ht,u⟩,hd⟩:=h3;obtain⟨va,vc,rfl⟩:=hd.shape;have HT:=hid (ht.wide (S:=lbB (fun j=>O j∨(Value.slice va s.marks.length vc).ownBlock=some j) [w.heap.size,w.heap.size+1]) (fun j _ e=>ZBp e));have HD:=hid (hd.weak (B':=w.heap.size+2) (by simp));have HK:=hid u;clear ht hd u f3;go_wp2_with(first|(refine L3.out.sto O 0 rfl rfl _ _ rfl rfl rfl info_dA rfl (one_dA a.kind a.line a.text kd s4 ua n uc mn mx nu) ?_;intro w7 l7 z1 z2;have L7:=hid l7;have o:=hid (HT.out.step z2 (by simp));have i:=hid (HD.out.step z2 (fun j hj e=>by omega));clear l7 z1 z2)|(refine L7.out.sto O 1 rfl rfl _ _ rfl rfl rfl info_dX rfl (one_dX va s.marks.length vc s.at_ 0) ?_;intro w8 l8 z1 z2;have L8:=hid l8;have A:=hid (o.out.step z2 (by simp));have m:=hid (i.out.step z2 (fun j hj e=>by omega));clear l8 z1 z2));refine bodyPost_ret (ZA1 rfl rfl rfl (L8.out.get 0 rfl) (L8.out.get 1 rfl) rfl rfl) rfl ?_
          exact⟨L8.out.fr,_,_,rfl,⟨kd,s4,ua,n,uc,mn,mx,nu,rfl,A.out.wide (fun j _ e=>.inl e),HK.out⟩,m.out.weak (by omega)⟩
     ·rw[if_neg g]at hR;by_cases c:l[k]=43∧sec=true
      ·rw[if_pos c]at hR;obtain⟨c,rfl⟩:=c;have hv:(l[k].toNat:Int)=43:=by rw[c];rfl
       have hw:IntKind.i64.wrap ((k:Int)+1)=((k+1:Nat):Int):=by rw[IntWalk.i64_in _ (by omega)];omega
       clear c g d b hd;unfold moreD at hR;simp only at hR;have HN:=hid (fun w'=>ZA3 l (k+1) w' (by omega) (by omega));obtain⟨F,hF⟩:∃F,nm (k+1) (l.drop (k+1)) 0 0=F:=⟨_,rfl⟩;obtain⟨n,q,z⟩:=F;rw[hF]at HN;simp only[hF]at hR HN;clear hF;by_cases hz:z=0
       ·subst hz;rw[if_neg (by simp)]at hR;subst hR;go_enter Tryz.func22,Tryz.ntmps22;go_wp2_with fail;refine(HN.out _).mono ?_;rintro e w2 ⟨rfl,rfl⟩;have L9:=hid (L0.out.on ((Fr.refl nob _).alloc (.cells #[.int .i64 (k:Nat),.string ⟨#[43]⟩] 96)));have HD:=hid (DOw.one (B:=w.heap.size+2) (k:=k) (t:=[43]) (newAt0 ((w.alloc (.cells ZA5 51)).alloc (.cells zX3 55)) (.cells #[.int .i64 (k:Nat),.string ⟨#[43]⟩] 96)) rfl (by simp));have HT:=hid (ZyP (lbB O [w.heap.size,w.heap.size+1]) (((w.alloc (.cells ZA5 51)).alloc (.cells zX3 55)).alloc (.cells #[.int .i64 (k:Nat),.string ⟨#[43]⟩] 96)));go_wp2_with(first|(refine L9.out.sto O 0 rfl rfl _ _ rfl rfl rfl info_dA rfl (one_dA 4 n [] 0 S4.zero none 0 0 0 0 0) ?_;intro w7 l7 z1 z2;have L7:=hid l7;have o:=hid (HT.out.step z2 (by simp));have i:=hid (HD.out.step z2 (fun j hj e=>by omega));clear l7 z1 z2)|(refine L7.out.sto O 1 rfl rfl _ _ rfl rfl rfl info_dX rfl (one_dX _ 1 1 q 0) ?_;intro w8 l8 z1 z2;have L8:=hid l8;have A:=hid (o.out.step z2 (by simp));have m:=hid (i.out.step z2 (fun j hj e=>by omega));clear l8 z1 z2))
        refine bodyPost_ret (ZA1 rfl rfl rfl (L8.out.get 0 rfl) (L8.out.get 1 rfl) rfl rfl) rfl ?_;exact⟨L8.out.fr,_,_,rfl,ZBc _ w8 4 n [] (by decide),(by have:=m.out.weak (B':=w.heap.size) (Nat.le_add_right _ _);simpa using this)⟩
       ·rw[if_pos hz]at hR;have L:(z !=0)=true:=by simpa using hz
        subst hR;have HZ:=hid hz;clear hz;go_enter Tryz.func22,Tryz.ntmps22;go_wp2_with fail;refine(HN.out _).mono ?_;rintro e w2 ⟨rfl,rfl⟩;go_wp2_with fail;refine(x_bad z q _).mono ?_;rintro e w3 ⟨rfl,f3⟩;have L3:=hid (L0.out.on f3);clear f3;go_wp2_with(first|(refine L3.out.sto nob 0 rfl rfl _ _ rfl rfl rfl info_dA rfl (one_dA 0 0 [] 0 S4.zero none 0 0 0 0 0) ?_;intro w7 l7 z1 z2;have L7:=hid l7;clear l7 z1 z2)|(refine L7.out.sto nob 1 rfl rfl _ _ rfl rfl rfl info_dX rfl (one_dX none 0 0 q z) ?_;intro w8 l8 z1 z2;have L8:=hid l8;clear l8 z1 z2));refine bodyPost_ret (ZA1 rfl rfl rfl (L8.out.get 0 rfl) (L8.out.get 1 rfl) rfl rfl) rfl ?_;exact⟨L8.out.fr,rfl,HZ.out⟩
      ·rw[if_neg c]at hR;subst hR;have t1:((l[k].toNat:Int)==36)=false:=Zn b;have t2:((l[k].toNat:Int)==47)=false:=Zn d;have t3:((l[k].toNat:Int)==92)=false:=Zn g;have D:(((l[k].toNat:Int)==43)=false)∨(((l[k].toNat:Int)==43)=true∧sec=false):=by
        by_cases h:l[k]=43
        ·refine .inr ⟨by rw[h];rfl,?_⟩;cases sec with
         |false=>rfl
         |true=>exact absurd ⟨h,rfl⟩ c
        ·exact .inl (Zn h)
       have G:(l[k].toNat<48)∨(48≤l[k].toNat∧¬l[k].toNat≤57):=by omega
       clear b d g c hd;rcases D with t4|⟨t4,rfl⟩<;>rcases G with h1|⟨h1,h2⟩
       all_goals
        go_enter Tryz.func22,Tryz.ntmps22;go_wp2_with(first|(refine L0.out.sto nob 0 rfl rfl _ _ rfl rfl rfl info_dA rfl (one_dA 0 0 [] 0 S4.zero none 0 0 0 0 0) ?_;intro w7 l7 z1 z2;have L7:=hid l7;clear l7 z1 z2)|(refine L7.out.sto nob 1 rfl rfl _ _ rfl rfl rfl info_dX rfl (one_dX none 0 0 k 0) ?_;intro w8 l8 z1 z2;have L8:=hid l8;clear l8 z1 z2));refine bodyPost_ret (ZA1 rfl rfl rfl (L8.out.get 0 rfl) (L8.out.get 1 rfl) rfl rfl) rfl ?_;exact⟨L8.out.fr,_,_,rfl,ZBc _ w8 0 0 [] (by decide),DOw.nil _ w8⟩
end Go.Proofs.YtgllcniibbaoaaaGreatDoor
