/- Lemmas of this claim. -/
import Derived.Test.YtkfddjopbocpkaaGreatDoorM33
import Derived.Test.YtkfddjopbocpkaaGreatDoorM34
set_option linter.unusedVariables false
set_option linter.unusedSimpArgs false
set_option maxRecDepth 100000
set_option maxHeartbeats 4000000
namespace Go.Proofs.YtkfddjopbocpkaaGreatDoor
open Go.Lib (hid)
open Go.RowKit
attribute [-go_sem] storeVar
theorem Zdw.past{w W W':World}{cs:List CV}{v:Value}(h:Zdw nob w cs v){n:Nat}(hn:w.heap.size≤n)(f:Fr nob w W)(f2:Fr (fun k=>k=n) W W'):Zdw nob W' cs v:=by
 have h1:Zdw (fun k=>k=n) W cs v:=h.keep f (fun _ x=>x.elim) (fun _ _ x=>x) (fun k hk e=>by have e:k=n:=e;omega);exact h1.keep f2 (fun _ x=>x) (fun k hk e=>by
  have e:k=n:=e;obtain⟨_,_,g⟩:=h;have:=own_lt g k hk;omega) (fun _ _ x=>x.elim)
attribute [local go_sem] ZeS
theorem tk2(s:List UInt8):(((⟨s.toArray⟩:ByteArray).extract 0 2).toList==[35,110])=(s.take 2==[35,110]):=by rw[Zm8,ZqK];rfl
theorem ZoO(s:List UInt8)(x:Bool)(w:World)(hE:Env w)(hl:s.length≤9223372036854775807)(h1:300<s.length):
 Calls Tryz.prog 7 #[.string ⟨s.toArray⟩,.bool x] w fun e w'=>e=.returned (.bool true)∧Fr nob w w':=by
 have HA:=hid (fun(w':World) (f:Fr nob w w')=>ZbV w' (hE.on f));have h2:(300:Int)<s.length:=by omega
 have HA1:=hid (HA.out w (Fr.refl _ _));clear hE;go_enter Tryz.func7,Tryz.ntmps7;go_wp2_with fail;refine HA1.out.mono ?_;rintro e w1 ⟨rfl,f1⟩;have F1:=hid f1;clear f1;have HA2:=hid (HA.out w1 F1.out);go_wp2_with fail;refine HA2.out.mono ?_;rintro e w2 ⟨rfl,f2⟩;go_wp2;go_ret;exact⟨rfl,F1.out.trans' f2⟩
theorem Zm6(s:List UInt8)(x:Bool)(w:World)(hE:Env w)(h1:s.length≤300)(h3:1<s.length)(h4:s.take 2=[35,110]):
 Calls Tryz.prog 7 #[.string ⟨s.toArray⟩,.bool x] w fun e w'=>e=.returned (.bool true)∧Fr nob w w':=by
 have HA:=hid (fun(w':World) (f:Fr nob w w')=>ZbV w' (hE.on f));have h2:(s.length:Int)≤300:=by omega
 have h5:(1:Int)<s.length:=by omega
 have h6:(2:Int)≤s.length:=by omega
 have h7:=tk2 s;rw[h4]at h7;have HA1:=hid (HA.out w (Fr.refl _ _));clear hE;go_enter Tryz.func7,Tryz.ntmps7;go_wp2_with fail;refine HA1.out.mono ?_;rintro e w1 ⟨rfl,f1⟩;have F1:=hid f1;clear f1;have HA2:=hid (HA.out w1 F1.out);go_wp2_with fail;refine HA2.out.mono ?_;rintro e w2 ⟨rfl,f2⟩;go_wp2;go_ret;exact⟨rfl,F1.out.trans' f2⟩
abbrev Zp4(s:List UInt8):Prop:=s.length≤300∧(1<s.length→s.take 2≠[35,110])
theorem Zp4.take{s:List UInt8}(h:Zp4 s):s.take 2≠[35,110]:=fun e=>by
 have:=congrArg List.length e;rw[List.length_take]at this;exact h.2 (by simp at this;omega) e
theorem ZoP(s:List UInt8)(x:Bool)(w:World)(hE:Env w)(hL:Zp4 s)(z:Int)(p:Nat)(hS:ZdO x s=.inl (z,p)):
 Calls Tryz.prog 7 #[.string ⟨s.toArray⟩,.bool x] w fun e w'=>e=.returned (.bool true)∧Fr nob w w':=by
 have hz0:¬z=0:=Zm5 hS;have hz1:(z==0)=false:=by simpa using hz0
 have hz2:(z !=0)=true:=by simpa using hz0
 have hlen:=hL.1;have HA:=hid (ZbV w hE);have h7:=tk2 s;rw[show(s.take 2==[35,110])=false from by rw[beq_eq_false_iff_ne];exact hL.take]at h7;have hp1:=fun(w':World) (g:Fr nob w w')=>ZbE s x w' (by omega) (hE.on g);have hp2:=fun(w':World) (g:Fr nob w w')=>ZbE ([35,110,10]++s) x w' (by simp;omega) (hE.on g);rw[hS]at hp1;rw[ZgS hlen,hS]at hp2;have HP1:=hid hp1;have HP2:=hid hp2;have h2:(s.length:Int)≤300:=by omega
 clear hE hp1 hp2 hS hL;go_enter Tryz.func7,Tryz.ntmps7;go_wp2_with fail;refine HA.out.mono ?_;rintro e w1 ⟨rfl,f1⟩;have F1:=hid f1;clear f1;go_wp2_with fail
 all_goals
  refine(HP1.out _ F1.out).mono ?_;rintro e w2 ⟨f2,rfl⟩;obtain⟨_,f3,_⟩:=ZaM w2 zS2 zS2 50;obtain⟨w3,hw3⟩:∃w3,w3=(w2.alloc (.cells zS2 50)).setRow w2.heap.size zS2:=⟨_,rfl⟩;rw[←hw3]at f3;have HW3:=hid hw3;have F3:=hid (F1.out.trans' (f2.trans' f3));clear hw3 f2 f3;go_wp2_with(first|refine wpList_store_row rfl 50 _ _ rfl w2.heap.size zS2 rfl rfl 50 _ (newAt _ _) (info_S2 _ _) rfl (by kernel_rfl) ?_|rw[←HW3.out]);refine(HP2.out _ F3.out).mono ?_;rintro e w4 ⟨f4,rfl⟩;obtain⟨_,f5,_⟩:=ZaM w4 zS2 zS2 50;obtain⟨w5,hw5⟩:∃w5,w5=(w4.alloc (.cells zS2 50)).setRow w4.heap.size zS2:=⟨_,rfl⟩;rw[←hw5]at f5;have HW5:=hid hw5;have F5:=hid (F3.out.trans' (f4.trans' f5));clear hw5 f4 f5;go_wp2_with(first|refine wpList_store_row rfl 50 _ _ rfl w4.heap.size zS2 rfl rfl 50 _ (newAt _ _) (info_S2 _ _) rfl (by kernel_rfl) ?_|rw[←HW5.out]);go_ret;exact⟨rfl,F5.out⟩
theorem Zp5(s:List UInt8)(x:Bool)(w:World)(hE:Env w)(hL:Zp4 s)(a:ScV)(ms:List (Nat×List UInt8))(hS:ZdO x s=.inr (a,ms)):
 Calls Tryz.prog 7 #[.string ⟨s.toArray⟩,.bool x] w fun e w'=>e=.returned (.bool true)∧Fr nob w w':=by
 have hlen:=hL.1;have hq:=scrS_loud hS hL.take;obtain⟨hfew,h100⟩:=scrS_few hS;have hsm:=Zp3 3 hfew;have HA:=hid (ZbV w hE);have h7:=tk2 s;rw[show(s.take 2==[35,110])=false from by rw[beq_eq_false_iff_ne];exact hL.take]at h7;have hp1:=fun(w':World) (g:Fr nob w w')=>ZbE s x w' (by omega) (hE.on g);have hp2:=fun(w':World) (g:Fr nob w w')=>ZbE ([35,110,10]++s) x w' (by simp;omega) (hE.on g);rw[hS]at hp1;rw[ZgS hlen,hS]at hp2;obtain⟨aq,ac⟩:=a;simp only at hq hp2 h100 hsm;subst hq;obtain⟨bc,hbc⟩:∃bc,ac.map (shC 3)=bc:=⟨_,rfl⟩;obtain⟨mt,hmt⟩:∃mt,ms.map (shM 3)=mt:=⟨_,rfl⟩;rw[hbc,hmt]at hp2;rw[hbc]at hsm;have HSM:=hid hsm;have HP1:=hid hp1;have HP2:=hid hp2;have h2:(s.length:Int)≤300:=by omega
 clear hE hp1 hp2 hS hL hfew hsm hbc hmt;go_enter Tryz.func7,Tryz.ntmps7;go_wp2_with fail;refine HA.out.mono ?_;rintro e w1 ⟨rfl,f1⟩;have F1:=hid f1;clear f1;go_wp2_with fail
 all_goals
  refine(HP1.out _ F1.out).mono ?_;rintro e w2 ⟨f2,cv,mv,rfl,hcm,hma⟩;simp only at hcm;obtain⟨va,vc,rfl⟩:=hcm.shape;obtain⟨ma,mc,rfl⟩:=Zb hma;obtain⟨hb3,f3,_⟩:=ZaM w2 zS2 #[.bool false,.slice va ac.length vc] 50;obtain⟨w3,hw3⟩:∃w3,w3=(w2.alloc (.cells zS2 50)).setRow w2.heap.size #[.bool false,.slice va ac.length vc]:=⟨_,rfl⟩;rw[←hw3]at f3 hb3;have HW3:=hid hw3;have F3:=hid (F1.out.trans' (f2.trans' f3));have HB3:=hid hb3;have HC3:=hid (hcm.on f3);clear hw3 f2 f3 hcm hma hb3;go_wp2_with(first|refine wpList_store_row rfl 50 _ _ rfl w2.heap.size #[.bool false,.slice va ac.length vc] rfl rfl 50 _ (newAt _ _) (info_S2 _ _) rfl (ZiR _ _ _ _) ?_|rw[←HW3.out]);refine(HP2.out _ F3.out).mono ?_;rintro e w4 ⟨f4,cv,mv,rfl,hcm,hma⟩;simp only at hcm;obtain⟨vb,vd,rfl⟩:=hcm.shape;obtain⟨mb,md,rfl⟩:=Zb hma;obtain⟨hb5,f5,hs5⟩:=ZaM w4 zS2 #[.bool true,.slice vb bc.length vd] 50
  obtain⟨w5,hw5⟩:∃w5,w5=(w4.alloc (.cells zS2 50)).setRow w4.heap.size #[.bool true,.slice vb bc.length vd]:=⟨_,rfl⟩;rw[←hw5]at f5 hb5 hs5;obtain⟨w6,hw6⟩:∃w6,w6=w5.setCell ⟨w4.heap.size,0,none⟩ (.bool false):=⟨_,rfl⟩;have f6:Fr (fun k=>k=w4.heap.size) w5 w6:=by rw[hw6];exact(Fr.refl (fun k=>k=w4.heap.size) w5).setCell (p:=⟨w4.heap.size,0,none⟩) (fun _=>rfl) _
  have hb6:=Za hb5 0 (.bool false);rw[←hw6]at hb6;have h3lt:=lt_heap HB3.out;have h34:=f4.size;have hne:¬w2.heap.size=w4.heap.size:=by omega
  have ha0:=f5.heap (f4.heap HB3.out (fun x=>x)) (fun x=>x);have ha6:=f6.heap ha0 hne;have p0:=cell_at (v:=.bool true) (j:=0) hb5 rfl;have p1:=cell_at (v:=.slice vb bc.length vd) (j:=1) hb5 rfl;have p2:=unfrozen_at hb5 0;have q0:=Zay (cell_at (v:=.bool false) (j:=0) ha6 rfl);have q1:=Zay (cell_at (v:=.slice va ac.length vc) (j:=1) ha6 rfl);have r0:=Zay (cell_at (v:=.bool false) (j:=0) hb6 rfl);have r1:=Zay (cell_at (v:=.slice vb bc.length vd) (j:=1) hb6 rfl);have HSA:=hid (Zm4 false ac bc _ _ w6 (by omega) (HC3.out.past h34 (f4.trans' f5) f6) (hcm.past (Nat.le_refl _) f5 f6) HSM.out);have HW5:=hid hw5;have HW6:=hid hw6;have F6:=hid ((F3.out.trans' (f4.trans' f5)).trans f6 (fun i hi e=>by have e:i=w4.heap.size:=e;have:=F3.out.size;omega));have p3:(w5.cell? ⟨w4.heap.size,0,none⟩).isSome=true:=by rw[p0];rfl
  clear hw5 hw6 f4 f5 f6 hcm hma hb5 hb6 ha0 ha6 h3lt h34 hs5;go_wp2_with(first|refine wpList_store_row rfl 50 _ _ rfl w4.heap.size #[.bool true,.slice vb bc.length vd] rfl rfl 50 _ (newAt _ _) (info_S2 _ _) rfl (ZiR _ _ _ _) ?_|rw[←HW5.out]|rw[←HW6.out]);refine HSA.out.mono ?_;rintro e w7 ⟨rfl,f7⟩;go_wp2;go_ret;exact⟨rfl,F6.out.trans' f7⟩
end Go.Proofs.YtkfddjopbocpkaaGreatDoor
