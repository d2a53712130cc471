/- Lemmas of this claim. -/
import Derived.Test.YtkfddjopbocpkaaGreatDoorM35
set_option linter.unusedVariables false
set_option linter.unusedSimpArgs false
set_option maxRecDepth 100000
set_option maxHeartbeats 4000000
namespace Go.Proofs.YtkfddjopbocpkaaGreatDoor
open Go.Lib (hid)
open Go.RowKit
attribute [-go_sem] storeVar
attribute [local go_sem] ZeS
theorem Zwp(c:CV):∃D,ZuJ c=D++[10]:=⟨Zs9 c.guard++([c.name]++ZvB c),by unfold ZuJ;simp⟩
theorem Zwq(s:List UInt8)(x:Bool)(w:World)(hE:Env w)(hP:P10 w)(hl:s.length≤9223372036854775807)(h1:400<s.length):
 Calls Tryz.prog 11 #[.string ⟨s.toArray⟩,.bool x] w fun e w'=>e=.returned (.bool true)∧Fr nob w w':=by
 have HA:=hid (fun(w':World) (f:Fr nob w w')=>ZsY w' (hE.on f) (hP.on f));have h2:(400:Int)<s.length:=by omega
 have b:=hid (HA.out w (Fr.refl _ _));clear hE hP;go_enter Tryz.func11,Tryz.ntmps11;go_wp2_with fail;refine b.out.mono ?_;rintro e w1 ⟨rfl,f1⟩;have F1:=hid f1;clear f1;have a:=hid (HA.out w1 F1.out);go_wp2_with fail;refine a.out.mono ?_;rintro e w2 ⟨rfl,f2⟩;go_wp2;go_ret;exact⟨rfl,F1.out.trans' f2⟩
theorem Zwr(s:List UInt8)(x:Bool)(w:World)(hE:Env w)(hP:P10 w)(h1:s.length≤400)(z:Int)(p:Nat)(hS:ZdO x s=.inl (z,p)):
 Calls Tryz.prog 11 #[.string ⟨s.toArray⟩,.bool x] w fun e w'=>e=.returned (.bool true)∧Fr nob w w':=by
 have c:¬z=0:=Zm5 hS;have h:(z !=0)=true:=by simpa using c
 have HA:=hid (ZsY w hE hP);have a:=fun(w':World) (g:Fr nob w w')=>ZbE s x w' (by omega) (hE.on g);rw[hS]at a;have f:=hid a;have h2:(s.length:Int)≤400:=by omega
 clear hE hP a hS;go_enter Tryz.func11,Tryz.ntmps11;go_wp2_with fail;refine HA.out.mono ?_;rintro e w1 ⟨rfl,f1⟩;have F1:=hid f1;clear f1;go_wp2_with fail;refine(f.out _ F1.out).mono ?_;rintro e w2 ⟨f2,rfl⟩;obtain⟨_,f3,_⟩:=ZaM w2 zS2 zS2 50;obtain⟨w3,b⟩:∃w3,w3=(w2.alloc (.cells zS2 50)).setRow w2.heap.size zS2:=⟨_,rfl⟩;rw[←b]at f3;have d:=hid b;have F3:=hid (F1.out.trans' (f2.trans' f3));clear b f2 f3;go_wp2_with(first|refine wpList_store_row rfl 50 _ _ rfl w2.heap.size zS2 rfl rfl 50 _ (newAt _ _) (info_S2 _ _) rfl (by kernel_rfl) ?_|rw[←d.out]);go_ret;exact⟨rfl,F3.out⟩
theorem Zws(s:List UInt8)(x:Bool)(w:World)(hE:Env w)(hP:P10 w)(h1:s.length≤400)(a:ScV)(ms:List (Nat×List UInt8))(hS:ZdO x s=.inr (a,ms)):
 Calls Tryz.prog 11 #[.string ⟨s.toArray⟩,.bool x] w fun e w'=>e=.returned (.bool true)∧Fr nob w w':=by
 have HA:=hid (ZsY w hE hP);have I:=fun(w':World) (g:Fr nob w w')=>ZbE s x w' (by omega) (hE.on g);rw[hS]at I;have S:=hid I;have G:=hid (fun(q:Bool) (cv:Value) (w':World) (f:Fr nob w w') (hv:Zdw nob w' a.cmds cv)=>Zta hS q cv w' (hE.on f) (hP.on f) hv);have V:=hid (fun(c:CV) (hc:c∈a.cmds) (v:Value) (w':World) (f:Fr nob w w') (hv:Zc2 nob w' c v)=>ZtC hS c hc v w' (hE.on f) (hP.on f) hv);have M:=hid (fun(c:CV) (hc:c∈a.cmds)=>Zv3 ((scrS_b hS).1 c hc) (scrS_b hS).2.2);have J:=ZvG hS a.cmds.length false;rw[List.take_of_length_le (Nat.le_refl _)]at J;have h2:(s.length:Int)≤400:=by omega
 have R:=(scrS_b hS).2.1;obtain⟨aq,ac⟩:=a;simp only at S G V J M R;obtain⟨L,hL⟩:∃L,Zu8 false ac=L:=⟨_,rfl⟩;have HQ:=hid (show Zu8 true ac=[35,110,10]++L by rw[←hL];unfold Zu8;simp);rw[hL]at J;have HL:=hid hL;clear hE hP I hS hL;go_enter Tryz.func11,Tryz.ntmps11;go_wp2_with fail;refine HA.out.mono ?_;rintro e w1 ⟨rfl,f1⟩;have F1:=hid f1;clear f1;go_wp2_with fail;refine(S.out _ F1.out).mono ?_;rintro e w2 ⟨f2,cv,mv,rfl,u,X⟩;simp only at u;obtain⟨va,vc,rfl⟩:=u.shape;obtain⟨ma,mc,rfl⟩:=Zb X;obtain⟨d,f3,_⟩:=ZaM w2 zS2 #[.bool aq,.slice va ac.length vc] 50;obtain⟨w3,n⟩:∃w3,w3=(w2.alloc (.cells zS2 50)).setRow w2.heap.size #[.bool aq,.slice va ac.length vc]:=⟨_,rfl⟩;rw[←n]at f3 d;obtain⟨b,hb⟩:∃b,w2.heap.size=b:=⟨_,rfl⟩;have F2:=hid (F1.out.trans' f2);have b6:w.heap.size≤b:=by have:=F2.out.size;omega
 have p0:=cell_at (v:=.bool aq) (j:=0) d rfl;have p2:=unfrozen_at d 0;rw[hb]at p0 p2;have p3:(w3.cell? ⟨b,0,none⟩).isSome=true:=by rw[p0];rfl
 obtain⟨w4,t⟩:∃w4,w4=w3.setCell ⟨b,0,none⟩ (.bool false):=⟨_,rfl⟩;have f4:Fr (fun k=>k=b) w3 w4:=by rw[t];exact(Fr.refl (fun k=>k=b) w3).setCell (p:=⟨b,0,none⟩) (fun _=>rfl) _
 rw[hb]at d;have l:=Za d 0 (.bool false);rw[←t]at l;have r0:=Zay (cell_at (v:=.bool false) (j:=0) l rfl);have r1:=Zay (cell_at (v:=.slice va ac.length vc) (j:=1) l rfl);have F3:=hid f3;have Q:=hid (fun(W:World) (f:Fr (fun k=>k=b) w3 W)=>u.past (Nat.le_of_eq hb) F3.out f);have P:=hid (fun(W:World) (f:Fr (fun k=>k=b) w3 W)=>(F2.out.trans' F3.out).trans f (fun i hi e=>by have e:i=b:=e;omega));have F4:=hid f4;have a3:=hid l;have N:=hid (G.out false _ w4 (P.out w4 f4) (Q.out w4 f4));rw[HL.out]at N;rw[hb]at n;have Y:=hid n;have a2:=hid t;have a1:=hid hb;clear n t f2 f3 f4 u X d l hb;go_wp2_with(first|refine wpList_store_row rfl 50 _ _ rfl w2.heap.size #[.bool aq,.slice va ac.length vc] rfl rfl 50 _ (newAt _ _) (info_S2 _ _) rfl (ZiR _ _ _ _) ?_|rw[a1.out]|rw[←Y.out]|rw[←a2.out]);refine N.out.mono ?_;rintro e w5 ⟨rfl,f5⟩
 have m:=f5.heap a3.out (fun x=>x);have p0:=cell_at (v:=.bool false) (j:=0) m rfl;have p2:=unfrozen_at m 0;have p3:(w5.cell? ⟨b,0,none⟩).isSome=true:=by rw[p0];rfl
 obtain⟨w6,o⟩:∃w6,w6=w5.setCell ⟨b,0,none⟩ (.bool true):=⟨_,rfl⟩;have f6:Fr (fun k=>k=b) w3 w6:=by rw[o];exact(F4.out.trans f5 (fun _ _ x=>x.elim)).setCell (p:=⟨b,0,none⟩) (fun _=>rfl) _
 have y:=Za m 0 (.bool true);rw[←o]at y;have q0:=Zay (cell_at (v:=.bool true) (j:=0) y rfl);have q1:=Zay (cell_at (v:=.slice va ac.length vc) (j:=1) y rfl);have a6:=hid o;have F6:=hid (P.out w6 f6);have O:=hid (Q.out w6 f6);clear o f5 f6 m y r0 r1;go_wp2_with(rw[←a6.out]);clear p0 p2 p3
 go_loopw [38] (fun i wr=>∃k:Nat,i=.int .i64 k∧k≤ac.length∧Fr nob w6 wr) (fun i _=>ac.length-(intOf i).toNat)
 case atStart=>exact⟨0,rfl,Nat.zero_le _,Fr.refl _ _⟩
 case round=>
  obtain⟨k,rfl,hk,fr⟩:=hrel;have FR:=hid fr;clear fr;by_cases H:k<ac.length
  ·obtain⟨g,b3,r,e,b2,hr,C,K⟩:=O.out.get H;injection e with e1 _ e2;subst e1;subst e2;have A:wr.rangeAt g (k*20) r.toList:=fun j v hj=>FR.out.cell (K j v hj) (fun x=>x);obtain⟨ks,pa,pc,e3,a0,z,_,_,U⟩:=C.opened;injection e3 with e3;subst e3;obtain⟨w7,E⟩:∃w7,w7=(wr.alloc (.cells zC 35)).setRow wr.heap.size r:=⟨_,rfl⟩;obtain⟨F,f7,_⟩:=ZaM wr zC r 35;rw[←E]at F f7;have Z:=hid E;have a7:=hid F;have a5:=hid A;have HI:=hid (show(Tryz.prog.info? 35).map (·.size)=some r.size by rw[hr];exact info_C);have a4:=hid (show(Tryz.prog.info? 35).map (·.size)=some r.toList.length by rw[Array.length_toList,hr];exact info_C);have HZ:=hid (show zC.size=r.size by rw[hr];rfl);have HO:=hid z;have hn:=V.out ac[k] (List.getElem_mem H) (.agg r) w7 (F6.out.trans' (FR.out.trans' f7)) (C.on (FR.out.trans' f7));have B:=M.out ac[k] (List.getElem_mem H);obtain⟨D,hD⟩:=Zwp ac[k]
   rw[hD]at hn B;have b1:D.length+1≤5000000:=by simpa using B
   have HN:=hid hn;have a8:(k:Int)<ac.length:=by omega
   have F7:=hid (FR.out.trans' f7);have b0:∀h,(D++[(10:UInt8)])[D.length]'h=10:=fun h=>by simp
   have a9:(D++[(10:UInt8)]).isEmpty=false:=by simp
   clear K A C z U E f7 F hr a0 hn B hD;go_wp2_with(first|(refine wpList_load_mid rfl 35 _ rfl g (k*20) ?_ r.toList _ a5.out Tryz.underlying35 rfl a4.out ?_)|refine wpList_store_row rfl 35 _ _ rfl wr.heap.size r rfl rfl 35 _ (newAt _ _) HI.out HZ.out HO.out ?_|rw[←Z.out]|refine wpList_load_row rfl 35 _ rfl wr.heap.size rfl 35 r (0,0) _ a7.out Tryz.underlying35 rfl HI.out ?_);refine HN.out.mono ?_;rintro e w8 ⟨rfl,f8⟩;have F8:=hid (F7.out.trans' f8);clear f8;go_wp2;go_roundw
   case rel=>exact⟨k+1,by go_num,by omega,F8.out⟩
   case measure=>simp[intOf];omega
  ·obtain rfl:k=ac.length:=by omega
   have HS:=hid (G.out true _ wr (F6.out.trans' FR.out) (O.out.on FR.out));rw[HQ.out]at HS;have b4:=q0 wr FR.out;have b5:=q1 wr FR.out;go_wp2_with fail;refine HS.out.mono ?_;rintro e w9 ⟨rfl,f9⟩;have F9:=hid (F6.out.trans' (FR.out.trans' f9));clear f9;go_wp2;go_ret;exact⟨by simp,F9.out⟩
end Go.Proofs.YtkfddjopbocpkaaGreatDoor
