/- Lemmas of this claim. -/
import Derived.Test.YtkfddjopbocpkaaGreatDoorM35
set_option linter.unusedVariables false
set_option linter.unusedSimpArgs false
set_option maxRecDepth 100000
set_option maxHeartbeats 4000000
namespace Go.Proofs.YtkfddjopbocpkaaGreatDoor
open Go.Lib (hid)
open Go.RowKit
attribute [-go_sem] storeVar
theorem ZvH(s:List UInt8)(x:Bool)(w:World)(hE:Env w)(hP:P10 w)(hl:s.length≤9223372036854775807)(h1:600<s.length):
 Calls Tryz.prog 10 #[.string ⟨s.toArray⟩,.bool x] w fun e w'=>e=.returned (.bool true)∧Fr nob w w':=by
 have HA:=hid (fun(w':World) (f:Fr nob w w')=>ZsY w' (hE.on f) (hP.on f));have h2:(600:Int)<s.length:=by omega
 have b:=hid (HA.out w (Fr.refl _ _));clear hE hP;go_enter Tryz.func10,Tryz.ntmps10;go_wp2_with fail;refine b.out.mono ?_;rintro e w1 ⟨rfl,f1⟩;have F1:=hid f1;clear f1;have a:=hid (HA.out w1 F1.out);go_wp2_with fail;refine a.out.mono ?_;rintro e w2 ⟨rfl,f2⟩;go_wp2;go_ret;exact⟨rfl,F1.out.trans' f2⟩
theorem ZvI(s:List UInt8)(x:Bool)(w:World)(hE:Env w)(hP:P10 w)(h1:s.length≤600)(z:Int)(p:Nat)(hS:ZdO x s=.inl (z,p)):
 Calls Tryz.prog 10 #[.string ⟨s.toArray⟩,.bool x] w fun e w'=>e=.returned (.bool true)∧Fr nob w w':=by
 have c:¬z=0:=Zm5 hS;have h:(z !=0)=true:=by simpa using c
 have HA:=hid (ZsY w hE hP);have a:=fun(w':World) (g:Fr nob w w')=>ZbE s x w' (by omega) (hE.on g);rw[hS]at a;have f:=hid a;have h2:(s.length:Int)≤600:=by omega
 clear hE hP a hS;go_enter Tryz.func10,Tryz.ntmps10;go_wp2_with fail;refine HA.out.mono ?_;rintro e w1 ⟨rfl,f1⟩;have F1:=hid f1;clear f1;go_wp2_with fail;refine(f.out _ F1.out).mono ?_;rintro e w2 ⟨f2,rfl⟩;obtain⟨_,f3,_⟩:=ZaM w2 zS2 zS2 50;obtain⟨w3,b⟩:∃w3,w3=(w2.alloc (.cells zS2 50)).setRow w2.heap.size zS2:=⟨_,rfl⟩;rw[←b]at f3;have d:=hid b;have F3:=hid (F1.out.trans' (f2.trans' f3));clear b f2 f3;go_wp2_with(first|refine wpList_store_row rfl 50 _ _ rfl w2.heap.size zS2 rfl rfl 50 _ (newAt _ _) (info_S2 _ _) rfl (by kernel_rfl) ?_|rw[←d.out]);go_ret;exact⟨rfl,F3.out⟩
theorem Zv6(s:List UInt8)(x:Bool)(w:World)(hE:Env w)(hP:P10 w)(h1:s.length≤600)(a:ScV)(ms:List (Nat×List UInt8))(hS:ZdO x s=.inr (a,ms)):
 Calls Tryz.prog 10 #[.string ⟨s.toArray⟩,.bool x] w fun e w'=>e=.returned (.bool true)∧Fr nob w w':=by
 have HA:=hid (ZsY w hE hP);have C:=fun(w':World) (g:Fr nob w w')=>ZbE s x w' (by omega) (hE.on g);rw[hS]at C;have H:=hid C;have J:=hid (fun(cv:Value) (w':World) (f:Fr nob w w') (hv:Zdw nob w' a.cmds cv)=>Zta hS a.quiet cv w' (hE.on f) (hP.on f) hv);have M:=hid (fun(c:CV) (hc:c∈a.cmds) (v:Value) (w':World) (f:Fr nob w w') (hv:Zc2 nob w' c v)=>ZtC hS c hc v w' (hE.on f) (hP.on f) hv);have o:=hid (fun k=>ZvG hS k a.quiet);have h2:(s.length:Int)≤600:=by omega
 have F:=(scrS_b hS).2.1;obtain⟨aq,ac⟩:=a;simp only at H J M o F;obtain⟨A,hA⟩:∃A,(if aq then[(35:UInt8),110,10]else[])=A:=⟨_,rfl⟩;have K:=hid hA;have G:=hid (show∀k,(A++ZsU (ac.take k)).length≤500000003 by rw[←hA];exact o.out);clear hE hP C hS o hA;go_enter Tryz.func10,Tryz.ntmps10;go_wp2_with fail;refine HA.out.mono ?_;rintro e w1 ⟨rfl,f1⟩;have F1:=hid f1;clear f1;go_wp2_with fail;refine(H.out _ F1.out).mono ?_;rintro e w2 ⟨f2,cv,mv,rfl,h,N⟩;simp only at h;obtain⟨va,vc,rfl⟩:=h.shape;obtain⟨ma,mc,rfl⟩:=Zb N;obtain⟨b,f3,_⟩:=ZaM w2 zS2 #[.bool aq,.slice va ac.length vc] 50;obtain⟨w3,y⟩:∃w3,w3=(w2.alloc (.cells zS2 50)).setRow w2.heap.size #[.bool aq,.slice va ac.length vc]:=⟨_,rfl⟩;rw[←y]at f3 b;have q0:=Zay (cell_at (v:=.bool aq) (j:=0) b rfl);have q1:=Zay (cell_at (v:=.slice va ac.length vc) (j:=1) b rfl);have O:=hid y;have F3:=hid (F1.out.trans' (f2.trans' f3));have a1:=hid b;have L:=hid (h.on f3)
 clear y f2 f3 h N b;go_upto_if 31 with(first|refine wpList_store_row rfl 50 _ _ rfl w2.heap.size #[.bool aq,.slice va ac.length vc] rfl rfl 50 _ (newAt _ _) (info_S2 _ _) rfl (ZiR _ _ _ _) ?_|rw[←O.out])
 go_cut [9] (fun v w'=>v=.string ⟨A.toArray⟩∧w'=w3)
 case first=>
  have hA:=K.out;cases aq
  ·rw[if_neg (by decide)]at hA;subst hA;go_wp2;go_meet
   case rel=>exact⟨rfl,rfl⟩
  ·rw[if_pos rfl]at hA;subst hA;go_wp2;go_meet
   case rel=>exact⟨rfl,rfl⟩
 case rest=>
  obtain⟨rfl,rfl⟩:=hcut;go_wp2_with fail
  go_loopw [9,35] (fun t i wr=>∃k:Nat,i=.int .i64 k∧k≤ac.length∧t=.string ⟨(A++ZsU (ac.take k)).toArray⟩∧Fr nob wc wr) (fun _ i _=>ac.length-(intOf i).toNat)
  case atStart=>exact⟨0,rfl,Nat.zero_le _,by simp[ZsU],Fr.refl _ _⟩
  case round=>
   obtain⟨k,rfl,hk,rfl,fr⟩:=hrel;have FR:=hid fr;clear fr;by_cases B:k<ac.length
   ·obtain⟨g,Y,r,e,X,hr,p,E⟩:=L.out.get B;injection e with e1 _ e2;subst e1;subst e2;have n:wr.rangeAt g (k*20) r.toList:=fun j v hj=>FR.out.cell (E j v hj) (fun x=>x);obtain⟨ks,pa,pc,e3,P,m,_,_,I⟩:=p.opened;injection e3 with e3;subst e3;obtain⟨w4,z⟩:∃w4,w4=(wr.alloc (.cells zC 35)).setRow wr.heap.size r:=⟨_,rfl⟩;obtain⟨q,f4,_⟩:=ZaM wr zC r 35;rw[←z]at q f4;have Q:=hid z;have R:=hid q;have U:=hid n;have HI:=hid (show(Tryz.prog.info? 35).map (·.size)=some r.size by rw[hr];exact info_C);have S:=hid (show(Tryz.prog.info? 35).map (·.size)=some r.toList.length by rw[Array.length_toList,hr];exact info_C);have HZ:=hid (show zC.size=r.size by rw[hr];rfl);have HO:=hid m;have hn:=M.out ac[k] (List.getElem_mem B) (.agg r) w4 (F3.out.trans' (FR.out.trans' f4)) (p.on (FR.out.trans' f4));have d:=hid (show(A++ZsU (ac.take k))++ZuJ ac[k]=A++ZsU (ac.take (k+1)) by rw[Ztu B,List.append_assoc])
    have V:=G.out k;have u:=G.out (k+1);rw[←d.out,List.length_append]at u;obtain⟨T,hT⟩:∃T,ZuJ ac[k]=T:=⟨_,rfl⟩;obtain⟨D,hD⟩:∃D,A++ZsU (ac.take k)=D:=⟨_,rfl⟩;rw[hT]at hn d u;rw[hD]at d V u⊢;have HN:=hid hn;have W:(k:Int)<ac.length:=by omega
    have F4:=hid (FR.out.trans' f4);clear E n p m I z f4 q hr P hn hT hD;go_wp2_with(first|(refine wpList_load_mid rfl 35 _ rfl g (k*20) ?_ r.toList _ U.out Tryz.underlying35 rfl S.out ?_)|refine wpList_store_row rfl 35 _ _ rfl wr.heap.size r rfl rfl 35 _ (newAt _ _) HI.out HZ.out HO.out ?_|rw[←Q.out]|refine wpList_load_row rfl 35 _ rfl wr.heap.size rfl 35 r (0,0) _ R.out Tryz.underlying35 rfl HI.out ?_);refine HN.out.mono ?_;rintro e w5 ⟨rfl,f5⟩;have F5:=hid (F4.out.trans' f5);clear f5;go_wp2;go_roundw
    case rel=>exact⟨k+1,by go_num,by omega,by rw[←d.out],F5.out⟩
    case measure=>simp[intOf];omega
   ·obtain rfl:k=ac.length:=by omega
    have hT:=List.take_of_length_le (l:=ac) (Nat.le_refl _);rw[hT];have HS:=hid (J.out _ wr (F3.out.trans' FR.out) (L.out.on FR.out));obtain⟨D,hD⟩:∃D,A++ZsU ac=D:=⟨_,rfl⟩;have HD:=hid (show Zu8 aq ac=D by rw[←hD];unfold Zu8;rw[K.out]);rw[HD.out]at HS;rw[hD];have Z:=q0 wr FR.out;have a0:=q1 wr FR.out;clear hT hD;go_wp2_with fail;refine HS.out.mono ?_;rintro e w4 ⟨rfl,f4⟩;have F4:=hid (F3.out.trans' (FR.out.trans' f4));clear f4;go_wp2;go_ret;exact⟨by simp,F4.out⟩
end Go.Proofs.YtkfddjopbocpkaaGreatDoor
