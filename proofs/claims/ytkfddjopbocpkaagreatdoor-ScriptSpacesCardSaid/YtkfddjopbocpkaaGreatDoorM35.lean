/- Lemmas of this claim. -/
import Derived.Test.YtkfddjopbocpkaaGreatDoorM34
set_option linter.unusedVariables false
set_option linter.unusedSimpArgs false
set_option maxRecDepth 100000
set_option maxHeartbeats 4000000
namespace Go.Proofs.YtkfddjopbocpkaaGreatDoor
open Go.Lib (hid)
open Go.RowKit
attribute [-go_sem] storeVar
theorem Zr4(s:List UInt8)(x:Bool)(n:Nat)(w:World)(hE:Env w)(hl:s.length≤9223372036854775807)(h1:300<s.length):
 Calls Tryz.prog 6 #[.string ⟨s.toArray⟩,.bool x,.int .u8 (n:Int)] w fun e w'=>e=.returned (.bool true)∧Fr nob w w':=by
 have HA:=hid (fun(w':World) (f:Fr nob w w')=>ZbV w' (hE.on f));have h2:(300:Int)<s.length:=by omega
 have HA1:=hid (HA.out w (Fr.refl _ _));clear hE;go_enter Tryz.func6,Tryz.ntmps6;go_wp2_with fail;refine HA1.out.mono ?_;rintro e w1 ⟨rfl,f1⟩;have F1:=hid f1;clear f1;have HA2:=hid (HA.out w1 F1.out);go_wp2_with fail;refine HA2.out.mono ?_;rintro e w2 ⟨rfl,f2⟩;go_wp2;go_ret;exact⟨rfl,F1.out.trans' f2⟩
theorem ZrT(s:List UInt8)(x:Bool)(n:Nat)(w:World)(hE:Env w)(h1:s.length≤300)(h3:1<s.length)(h4:s.take 2=[35,110]):
 Calls Tryz.prog 6 #[.string ⟨s.toArray⟩,.bool x,.int .u8 (n:Int)] w fun e w'=>e=.returned (.bool true)∧Fr nob w w':=by
 have HA:=hid (fun(w':World) (f:Fr nob w w')=>ZbV w' (hE.on f));have h2:(s.length:Int)≤300:=by omega
 have h5:(1:Int)<s.length:=by omega
 have h6:(2:Int)≤s.length:=by omega
 have h7:=tk2 s;rw[h4]at h7;have HA1:=hid (HA.out w (Fr.refl _ _));clear hE;go_enter Tryz.func6,Tryz.ntmps6;go_wp2_with fail;refine HA1.out.mono ?_;rintro e w1 ⟨rfl,f1⟩;have F1:=hid f1;clear f1;have HA2:=hid (HA.out w1 F1.out);go_wp2_with fail;refine HA2.out.mono ?_;rintro e w2 ⟨rfl,f2⟩;go_wp2;go_ret;exact⟨rfl,F1.out.trans' f2⟩
theorem Zr5(s:List UInt8)(x:Bool)(n:Nat)(w:World)(hE:Env w)(hL:Zp4 s)(z:Int)(p:Nat)(hS:ZdO x s=.inl (z,p)):
 Calls Tryz.prog 6 #[.string ⟨s.toArray⟩,.bool x,.int .u8 (n:Int)] w fun e w'=>e=.returned (.bool true)∧Fr nob w w':=by
 have hz0:¬z=0:=Zm5 hS;have hz1:(z==0)=false:=by simpa using hz0
 have hz2:(z !=0)=true:=by simpa using hz0
 have hlen:=hL.1;have HA:=hid (ZbV w hE);have h7:=tk2 s;rw[show(s.take 2==[35,110])=false from by rw[beq_eq_false_iff_ne];exact hL.take]at h7;have hp1:=fun(w':World) (g:Fr nob w w')=>ZbE s x w' (by omega) (hE.on g);rw[hS]at hp1;have HP1:=hid hp1;have h2:(s.length:Int)≤300:=by omega
 clear hE hp1 hS hL;go_enter Tryz.func6,Tryz.ntmps6;go_wp2_with fail;refine HA.out.mono ?_;rintro e w1 ⟨rfl,f1⟩;have F1:=hid f1;clear f1;go_wp2_with fail
 all_goals
  refine(HP1.out _ F1.out).mono ?_;rintro e w2 ⟨f2,rfl⟩;obtain⟨_,f3,_⟩:=ZaM w2 zS2 zS2 50;obtain⟨w3,hw3⟩:∃w3,w3=(w2.alloc (.cells zS2 50)).setRow w2.heap.size zS2:=⟨_,rfl⟩;rw[←hw3]at f3;have HW3:=hid hw3;have F3:=hid (F1.out.trans' (f2.trans' f3));clear hw3 f2 f3;go_wp2_with(first|refine wpList_store_row rfl 50 _ _ rfl w2.heap.size zS2 rfl rfl 50 _ (newAt _ _) (info_S2 _ _) rfl (by kernel_rfl) ?_|rw[←HW3.out]);go_ret;exact⟨rfl,F3.out⟩
theorem Zr6{w:World}{ms:List (Nat×List UInt8)}{v:Value}(h:OwM w ms v):(ms.length:Int)≤9223372036854775807:=by
 unfold OwM at h;rcases h.2 with⟨_,hn⟩|⟨g,cap,cur,_,_,_,hc,hm,_⟩
 ·omega
 ·unfold maxLen at hm;omega
theorem Zsb:(Tryz.prog.info? 55).map (·.size)=some 2:=by kernel_rfl
theorem Zr7(a b:Value):(Tryz.prog.info? 55).map (·.size)=some (#[a,b]:Array Value).size:=Zsb
theorem Zsc(i:Int)(s:ByteArray):(#[.int .i64 i,.string s]:Array Value).all (·.oneCell')=true:=by simp[Value.oneCell']
theorem ahead_case(n:Nat):(n%4=0∧Zq3 n=[32,59,32])∨(n%4=1∧Zq3 n=[35,32,120,10])∨(n%4=2∧Zq3 n=[10,9])∨(n%4=3∧Zq3 n=[]):=by
 unfold Zq3;have:n%4<4:=Nat.mod_lt _ (by decide);rcases(show n%4=0∨n%4=1∨n%4=2∨n%4=3 by omega)with h|h|h|h<;>simp[h]
theorem ahead_run(n:Nat)(hn:n<256)(w:World):(Instr.index 45 (.agg #[.string ⟨#[32,59,32]⟩,.string ⟨#[35,32,120,10]⟩,.string ⟨#[10,9]⟩,.string ⟨#[]⟩]) (.int .u8 ((n:Int)%4))).run Tryz.prog w=.ok (.string ⟨(Zq3 n).toArray⟩) w:=by
 rcases ahead_case n with⟨h,e⟩|⟨h,e⟩|⟨h,e⟩|⟨h,e⟩<;>rw[e]
 ·rw[show((n:Int)%4)=0 by omega];kernel_rfl
 ·rw[show((n:Int)%4)=1 by omega];kernel_rfl
 ·rw[show((n:Int)%4)=2 by omega];kernel_rfl
 ·rw[show((n:Int)%4)=3 by omega];kernel_rfl
theorem Zsd(s:List UInt8)(x:Bool)(n:Nat)(hn:n<256)(w:World)(hE:Env w)(hL:Zp4 s)(a:ScV)(ms:List (Nat×List UInt8))(hS:ZdO x s=.inr (a,ms)):
 Calls Tryz.prog 6 #[.string ⟨s.toArray⟩,.bool x,.int .u8 (n:Int)] w fun e w'=>e=.returned (.bool true)∧Fr nob w w':=by
 have hlen:=hL.1;have hq:=ZrG hS hL.take;obtain⟨hfew,h100⟩:=scrS_few hS;have hal:=Zrf n;have hsm:=Zp3 (Zq3 n).length hfew;have HA:=hid (ZbV w hE);have h7:=tk2 s;rw[show(s.take 2==[35,110])=false from by rw[beq_eq_false_iff_ne];exact hL.take]at h7;have hp1:=fun(w':World) (g:Fr nob w w')=>ZbE s x w' (by omega) (hE.on g);have hp2:=fun(w':World) (g:Fr nob w w')=>ZbE (Zq3 n++s++[10,59,32,35,32,120,10]) x w' (by simp;omega) (hE.on g);rw[hS]at hp1;rw[Zru n hlen hS hL.take]at hp2;obtain⟨aq,ac⟩:=a;simp only at hq hp2 h100 hsm;subst hq;have hix:=ahead_run n hn;obtain⟨ah,hah⟩:∃ah,Zq3 n=ah:=⟨_,rfl⟩;rw[hah]at hix hp2 hsm hal;obtain⟨bc,hbc⟩:∃bc,ac.map (shC ah.length)=bc:=⟨_,rfl⟩;obtain⟨mt,hmt⟩:∃mt,ms.map (shM ah.length)=mt:=⟨_,rfl⟩;rw[hbc,hmt]at hp2;simp only[List.append_assoc]at hp2;rw[hbc]at hsm;have HSM:=hid hsm;have HMT:=hid hmt;have HMB0:=hid (scrS_mb hS)
 have HML:=hid (show mt.length=ms.length by rw[←hmt];simp);have HP1:=hid hp1;have HP2:=hid hp2;have h2:(s.length:Int)≤300:=by omega
 have h3:(ah.length:Int)≤4:=by omega
 clear hE hp1 hp2 hS hL hfew hsm hbc hmt hah;go_enter Tryz.func6,Tryz.ntmps6;go_wp2_with fail;refine HA.out.mono ?_;rintro e w1 ⟨rfl,f1⟩;have F1:=hid f1;clear f1;go_wp2_with fail
 all_goals
  refine(HP1.out _ F1.out).mono ?_;rintro e w2 ⟨f2,cv,mv,rfl,hcm,hma⟩;simp only at hcm;obtain⟨va,vc,rfl⟩:=hcm.shape;obtain⟨ma,mc,rfl⟩:=Zb hma;obtain⟨hb3,f3,_⟩:=ZaM w2 zS2 #[.bool false,.slice va ac.length vc] 50;obtain⟨w3,hw3⟩:∃w3,w3=(w2.alloc (.cells zS2 50)).setRow w2.heap.size #[.bool false,.slice va ac.length vc]:=⟨_,rfl⟩;rw[←hw3]at f3 hb3;have HW3:=hid hw3;have F3:=hid (F1.out.trans' (f2.trans' f3));have HB3:=hid hb3;have HC3:=hid (hcm.on f3);have HM3:=hid (show OwM w3 ms _ from ownsRow_fr hma f3 (fun _ _ x=>x));clear hw3 f2 f3 hcm hma hb3;go_wp2_with(first|refine wpList_store_row rfl 50 _ _ rfl w2.heap.size #[.bool false,.slice va ac.length vc] rfl rfl 50 _ (newAt _ _) (info_S2 _ _) rfl (ZiR _ _ _ _) ?_|rw[←HW3.out]);with_reducible refine(HP2.out _ F3.out).mono ?_
  rintro e w4 ⟨f4,cv,mv,rfl,hcm,hma⟩;simp only at hcm;obtain⟨vb,vd,rfl⟩:=hcm.shape;obtain⟨mb,md,rfl⟩:=Zb hma;obtain⟨hb5,f5,_⟩:=ZaM w4 zS2 #[.bool false,.slice vb bc.length vd] 50;obtain⟨w5,hw5⟩:∃w5,w5=(w4.alloc (.cells zS2 50)).setRow w4.heap.size #[.bool false,.slice vb bc.length vd]:=⟨_,rfl⟩;rw[←hw5]at f5 hb5;have ha5:=f5.heap (f4.heap HB3.out (fun x=>x)) (fun x=>x);have q0:=Zay (cell_at (v:=.bool false) (j:=0) ha5 rfl);have q1:=Zay (cell_at (v:=.slice va ac.length vc) (j:=1) ha5 rfl);have r0:=Zay (cell_at (v:=.bool false) (j:=0) hb5 rfl);have r1:=Zay (cell_at (v:=.slice vb bc.length vd) (j:=1) hb5 rfl);have HSA:=hid (Zm4 false ac bc _ _ w5 (by omega) (HC3.out.on (f4.trans' f5)) (hcm.on f5) HSM.out);have HW5:=hid hw5;have F5:=hid (F3.out.trans' (f4.trans' f5));have HMB:=hid (show OwM w5 mt _ from ownsRow_fr hma f5 (fun _ _ x=>x));have HMA:=hid (show OwM w5 ms _ from ownsRow_fr HM3.out (f4.trans' f5) (fun _ _ x=>x))
  clear hw5 f4 f5 hcm hma hb5 ha5;go_wp2_with(first|refine wpList_store_row rfl 50 _ _ rfl w4.heap.size #[.bool false,.slice vb bc.length vd] rfl rfl 50 _ (newAt _ _) (info_S2 _ _) rfl (ZiR _ _ _ _) ?_|rw[←HW5.out]);refine HSA.out.mono ?_;rintro e w6 ⟨rfl,f6⟩;have F6:=hid (F5.out.trans' f6);have HMB6:=hid (show OwM w6 mt _ from ownsRow_fr HMB.out f6 (fun _ _ x=>x));have HMA6:=hid (show OwM w6 ms _ from ownsRow_fr HMA.out f6 (fun _ _ x=>x));have hml:=HML.out;clear f6;rw[hml];go_wp2
  go_loopw [78] (fun v wr=>∃k:Nat,v=.int .i64 k∧k≤ms.length∧Fr nob w6 wr) (fun v _=>ms.length-(intOf v).toNat)
  case atStart=>exact⟨0,rfl,Nat.zero_le _,Fr.refl _ _⟩
  case round=>
   clear q0 q1 r0 r1 HSA HP1 HP2 hix h7;obtain⟨k,rfl,hk,fr⟩:=hrel;have FR:=hid fr;have hbig:=Zr6 HMA6.out;by_cases hlt:k<ms.length
   ·have hltb:k<mt.length:=by omega
    obtain⟨g1,c1,e1,_,a1,a2⟩:=HMA6.out.get hlt;obtain⟨g2,c2,e2,_,b1,b2⟩:=HMB6.out.get hltb;have hmk:mt[k]=(ah.length+ms[k].1,ms[k].2):=by
     have:=HMT.out;subst this;rw[List.getElem_map];rfl
    rw[hmk]at b1 b2;simp only at b1 b2;injection e1 with e1 eL e3;injection e2 with e2 eM e4;subst e1;subst e2;subst e3;subst e4;clear eL eM hmk;obtain⟨⟨m1,m2⟩,hm⟩:∃m,ms[k]=m:=⟨_,rfl⟩;rw[hm]at a1 a2 b1 b2;simp only at a1 a2 b1 b2;rw[show((ah.length+m1:Nat):Int)=(m1:Int)+ah.length by omega]at b1;obtain⟨hb7,f7,_⟩:=ZaM wr #[.int .i64 0,.string ⟨#[]⟩] #[.int .i64 ((m1:Int)+ah.length),.string ⟨m2.toArray⟩] 55;obtain⟨w7,hw7⟩:∃w7,w7=(wr.alloc (.cells #[.int .i64 0,.string ⟨#[]⟩] 55)).setRow wr.heap.size #[.int .i64 ((m1:Int)+ah.length),.string ⟨m2.toArray⟩]:=⟨_,rfl⟩;rw[←hw7]at hb7 f7;have b1':=fr.cell b1 (fun x=>x);have b2':=fr.cell b2 (fun x=>x);have a1':=Zay ((fr.trans' f7).cell a1 (fun x=>x));have c0:=Zay (cell_at (v:=.int .i64 ((m1:Int)+ah.length)) (j:=0) hb7 rfl);have HW7:=hid hw7;have F7:=hid (fr.trans' f7);have hltI:(k:Int)<ms.length:=by omega
    have hm1:(m1:Int)≤602:=by have:=HMB0.out _ (List.getElem_mem hlt);rw[hm]at this;simp only at this;omega
    clear a1 a2 b1 b2 hm hw7 hb7 f7 fr hltb;go_wp2_with(first|refine wpList_store_row rfl 55 _ _ rfl wr.heap.size #[.int .i64 ((m1:Int)+ah.length),.string ⟨m2.toArray⟩] rfl rfl 55 _ (newAt _ _) (Zr7 _ _) rfl (Zsc _ _) ?_|rw[←HW7.out]);simp only[Act.put];refine region_fr 10 (by kernel_rfl) (by kernel_rfl) ?_;simp only[List.take_succ_cons,List.take_zero,List.drop_succ_cons,List.drop_zero]
    repeat(go_big_quiet_step (fail))
    refine wpQuiet_nil ?_;intro wC fC;go_wp2;go_roundw
    case rel=>exact⟨k+1,by go_num,by omega,F7.out.trans' fC⟩
    case measure=>simp[intOf];omega
   ·have hke:k=ms.length:=by omega
    subst hke;clear fr;go_wp2;go_ret;exact⟨rfl,F6.out.trans' FR.out⟩
end Go.Proofs.YtkfddjopbocpkaaGreatDoor
