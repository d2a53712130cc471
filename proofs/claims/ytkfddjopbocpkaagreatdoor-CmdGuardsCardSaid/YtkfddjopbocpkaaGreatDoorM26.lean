/-
  Merged texts of this claim: CmdB, CmdC, CmdU.
-/
import Derived.Test.YtkfddjopbocpkaaGreatDoorM25
set_option linter.unusedVariables false
set_option linter.unusedSimpArgs false
set_option maxRecDepth 100000
set_option maxHeartbeats 4000000
namespace Go.Proofs.YtkfddjopbocpkaaGreatDoor
open Go.Lib (hid)
open Go.RowKit
theorem ZeN(w:World):Calls Tryz.prog 54 #[.int .u8 125] w fun r w'=>r=.returned (.int .i64 0)∧Fr nob w w':=by
 go_enter Tryz.func54,Tryz.ntmps54;go_wp2;go_ret;exact⟨rfl,Fr.refl _ _⟩
theorem Zf5(w:World):Calls Tryz.prog 54 #[.int .u8 58] w fun r w'=>r=.returned (.int .i64 0)∧Fr nob w w':=by
 go_enter Tryz.func54,Tryz.ntmps54;go_wp2;go_ret;exact⟨rfl,Fr.refl _ _⟩
theorem Zf6(w:World):Calls Tryz.prog 54 #[.int .u8 61] w fun r w'=>r=.returned (.int .i64 1)∧Fr nob w w':=by
 go_enter Tryz.func54,Tryz.ntmps54;go_wp2;go_ret;exact⟨rfl,Fr.refl _ _⟩
theorem ZeO(w:World):Calls Tryz.prog 54 #[.int .u8 113] w fun r w'=>r=.returned (.int .i64 1)∧Fr nob w w':=by
 go_enter Tryz.func54,Tryz.ntmps54;go_wp2;go_ret;exact⟨rfl,Fr.refl _ _⟩
theorem Zf7(w:World):Calls Tryz.prog 54 #[.int .u8 81] w fun r w'=>r=.returned (.int .i64 1)∧Fr nob w w':=by
 go_enter Tryz.func54,Tryz.ntmps54;go_wp2;go_ret;exact⟨rfl,Fr.refl _ _⟩
theorem Zf8(w:World):Calls Tryz.prog 54 #[.int .u8 97] w fun r w'=>r=.returned (.int .i64 1)∧Fr nob w w':=by
 go_enter Tryz.func54,Tryz.ntmps54;go_wp2;go_ret;exact⟨rfl,Fr.refl _ _⟩
theorem ZeP(w:World):Calls Tryz.prog 54 #[.int .u8 105] w fun r w'=>r=.returned (.int .i64 1)∧Fr nob w w':=by
 go_enter Tryz.func54,Tryz.ntmps54;go_wp2;go_ret;exact⟨rfl,Fr.refl _ _⟩
theorem ZeQ(w:World):Calls Tryz.prog 54 #[.int .u8 114] w fun r w'=>r=.returned (.int .i64 1)∧Fr nob w w':=by
 go_enter Tryz.func54,Tryz.ntmps54;go_wp2;go_ret;exact⟨rfl,Fr.refl _ _⟩
theorem ZeR(w:World):Calls Tryz.prog 54 #[.int .u8 123] w fun r w'=>r=.returned (.int .i64 2)∧Fr nob w w':=by
 go_enter Tryz.func54,Tryz.ntmps54;go_wp2;go_ret;exact⟨rfl,Fr.refl _ _⟩
theorem ZeS(w:World):Calls Tryz.prog 54 #[.int .u8 100] w fun r w'=>r=.returned (.int .i64 2)∧Fr nob w w':=by
 go_enter Tryz.func54,Tryz.ntmps54;go_wp2;go_ret;exact⟨rfl,Fr.refl _ _⟩
theorem Zf9(w:World):Calls Tryz.prog 54 #[.int .u8 68] w fun r w'=>r=.returned (.int .i64 2)∧Fr nob w w':=by
 go_enter Tryz.func54,Tryz.ntmps54;go_wp2;go_ret;exact⟨rfl,Fr.refl _ _⟩
theorem ZeT(w:World):Calls Tryz.prog 54 #[.int .u8 103] w fun r w'=>r=.returned (.int .i64 2)∧Fr nob w w':=by
 go_enter Tryz.func54,Tryz.ntmps54;go_wp2;go_ret;exact⟨rfl,Fr.refl _ _⟩
theorem Zga(w:World):Calls Tryz.prog 54 #[.int .u8 71] w fun r w'=>r=.returned (.int .i64 2)∧Fr nob w w':=by
 go_enter Tryz.func54,Tryz.ntmps54;go_wp2;go_ret;exact⟨rfl,Fr.refl _ _⟩
theorem ZeU(w:World):Calls Tryz.prog 54 #[.int .u8 104] w fun r w'=>r=.returned (.int .i64 2)∧Fr nob w w':=by
 go_enter Tryz.func54,Tryz.ntmps54;go_wp2;go_ret;exact⟨rfl,Fr.refl _ _⟩
theorem Zgb(w:World):Calls Tryz.prog 54 #[.int .u8 72] w fun r w'=>r=.returned (.int .i64 2)∧Fr nob w w':=by
 go_enter Tryz.func54,Tryz.ntmps54;go_wp2;go_ret;exact⟨rfl,Fr.refl _ _⟩
theorem ZeV(w:World):Calls Tryz.prog 54 #[.int .u8 108] w fun r w'=>r=.returned (.int .i64 2)∧Fr nob w w':=by
 go_enter Tryz.func54,Tryz.ntmps54;go_wp2;go_ret;exact⟨rfl,Fr.refl _ _⟩
theorem ZeW(w:World):Calls Tryz.prog 54 #[.int .u8 110] w fun r w'=>r=.returned (.int .i64 2)∧Fr nob w w':=by
 go_enter Tryz.func54,Tryz.ntmps54;go_wp2;go_ret;exact⟨rfl,Fr.refl _ _⟩
theorem Zgc(w:World):Calls Tryz.prog 54 #[.int .u8 78] w fun r w'=>r=.returned (.int .i64 2)∧Fr nob w w':=by
 go_enter Tryz.func54,Tryz.ntmps54;go_wp2;go_ret;exact⟨rfl,Fr.refl _ _⟩
theorem ZeX(w:World):Calls Tryz.prog 54 #[.int .u8 112] w fun r w'=>r=.returned (.int .i64 2)∧Fr nob w w':=by
 go_enter Tryz.func54,Tryz.ntmps54;go_wp2;go_ret;exact⟨rfl,Fr.refl _ _⟩
theorem Zgd(w:World):Calls Tryz.prog 54 #[.int .u8 80] w fun r w'=>r=.returned (.int .i64 2)∧Fr nob w w':=by
 go_enter Tryz.func54,Tryz.ntmps54;go_wp2;go_ret;exact⟨rfl,Fr.refl _ _⟩
theorem ZeY(w:World):Calls Tryz.prog 54 #[.int .u8 120] w fun r w'=>r=.returned (.int .i64 2)∧Fr nob w w':=by
 go_enter Tryz.func54,Tryz.ntmps54;go_wp2;go_ret;exact⟨rfl,Fr.refl _ _⟩
theorem ZeZ(w:World):Calls Tryz.prog 54 #[.int .u8 122] w fun r w'=>r=.returned (.int .i64 2)∧Fr nob w w':=by
 go_enter Tryz.func54,Tryz.ntmps54;go_wp2;go_ret;exact⟨rfl,Fr.refl _ _⟩
theorem Zge(w:World):Calls Tryz.prog 54 #[.int .u8 98] w fun r w'=>r=.returned (.int .i64 2)∧Fr nob w w':=by
 go_enter Tryz.func54,Tryz.ntmps54;go_wp2;go_ret;exact⟨rfl,Fr.refl _ _⟩
theorem Ze0(w:World):Calls Tryz.prog 54 #[.int .u8 116] w fun r w'=>r=.returned (.int .i64 2)∧Fr nob w w':=by
 go_enter Tryz.func54,Tryz.ntmps54;go_wp2;go_ret;exact⟨rfl,Fr.refl _ _⟩
theorem Zgf(w:World):Calls Tryz.prog 54 #[.int .u8 84] w fun r w'=>r=.returned (.int .i64 2)∧Fr nob w w':=by
 go_enter Tryz.func54,Tryz.ntmps54;go_wp2;go_ret;exact⟨rfl,Fr.refl _ _⟩
theorem Zgg(w:World):Calls Tryz.prog 54 #[.int .u8 99] w fun r w'=>r=.returned (.int .i64 2)∧Fr nob w w':=by
 go_enter Tryz.func54,Tryz.ntmps54;go_wp2;go_ret;exact⟨rfl,Fr.refl _ _⟩
theorem Ze1(w:World):Calls Tryz.prog 54 #[.int .u8 119] w fun r w'=>r=.returned (.int .i64 2)∧Fr nob w w':=by
 go_enter Tryz.func54,Tryz.ntmps54;go_wp2;go_ret;exact⟨rfl,Fr.refl _ _⟩
theorem Ze2(w:World):Calls Tryz.prog 54 #[.int .u8 115] w fun r w'=>r=.returned (.int .i64 2)∧Fr nob w w':=by
 go_enter Tryz.func54,Tryz.ntmps54;go_wp2;go_ret;exact⟨rfl,Fr.refl _ _⟩
theorem Ze3(w:World):Calls Tryz.prog 54 #[.int .u8 121] w fun r w'=>r=.returned (.int .i64 2)∧Fr nob w w':=by
 go_enter Tryz.func54,Tryz.ntmps54;go_wp2;go_ret;exact⟨rfl,Fr.refl _ _⟩
theorem ZcV(n:UInt8)(w:World):Calls Tryz.prog 54 #[.int .u8 (n.toNat:Int)] w fun r w'=>r=.returned (.int .i64 (Zw n))∧Fr nob w w':=by
 by_cases h125:n=125
 ·subst h125;exact ZeN w
 by_cases h58:n=58
 ·subst h58;exact Zf5 w
 by_cases h61:n=61
 ·subst h61;exact Zf6 w
 by_cases h113:n=113
 ·subst h113;exact ZeO w
 by_cases h81:n=81
 ·subst h81;exact Zf7 w
 by_cases h97:n=97
 ·subst h97;exact Zf8 w
 by_cases h105:n=105
 ·subst h105;exact ZeP w
 by_cases h114:n=114
 ·subst h114;exact ZeQ w
 by_cases h123:n=123
 ·subst h123;exact ZeR w
 by_cases h100:n=100
 ·subst h100;exact ZeS w
 by_cases h68:n=68
 ·subst h68;exact Zf9 w
 by_cases h103:n=103
 ·subst h103;exact ZeT w
 by_cases h71:n=71
 ·subst h71;exact Zga w
 by_cases h104:n=104
 ·subst h104;exact ZeU w
 by_cases h72:n=72
 ·subst h72;exact Zgb w
 by_cases h108:n=108
 ·subst h108;exact ZeV w
 by_cases h110:n=110
 ·subst h110;exact ZeW w
 by_cases h78:n=78
 ·subst h78;exact Zgc w
 by_cases h112:n=112
 ·subst h112;exact ZeX w
 by_cases h80:n=80
 ·subst h80;exact Zgd w
 by_cases h120:n=120
 ·subst h120;exact ZeY w
 by_cases h122:n=122
 ·subst h122;exact ZeZ w
 by_cases h98:n=98
 ·subst h98;exact Zge w
 by_cases h116:n=116
 ·subst h116;exact Ze0 w
 by_cases h84:n=84
 ·subst h84;exact Zgf w
 by_cases h99:n=99
 ·subst h99;exact Zgg w
 by_cases h119:n=119
 ·subst h119;exact Ze1 w
 by_cases h115:n=115
 ·subst h115;exact Ze2 w
 by_cases h121:n=121
 ·subst h121;exact Ze3 w
 have t125:((n.toNat:Int)==125)=false:=ZG (b:=125) h125;have t58:((n.toNat:Int)==58)=false:=ZG (b:=58) h58;have t61:((n.toNat:Int)==61)=false:=ZG (b:=61) h61;have t113:((n.toNat:Int)==113)=false:=ZG (b:=113) h113;have t81:((n.toNat:Int)==81)=false:=ZG (b:=81) h81;have t97:((n.toNat:Int)==97)=false:=ZG (b:=97) h97;have t105:((n.toNat:Int)==105)=false:=ZG (b:=105) h105;have t114:((n.toNat:Int)==114)=false:=ZG (b:=114) h114;have t123:((n.toNat:Int)==123)=false:=ZG (b:=123) h123;have t100:((n.toNat:Int)==100)=false:=ZG (b:=100) h100;have t68:((n.toNat:Int)==68)=false:=ZG (b:=68) h68;have t103:((n.toNat:Int)==103)=false:=ZG (b:=103) h103;have t71:((n.toNat:Int)==71)=false:=ZG (b:=71) h71;have t104:((n.toNat:Int)==104)=false:=ZG (b:=104) h104;have t72:((n.toNat:Int)==72)=false:=ZG (b:=72) h72;have t108:((n.toNat:Int)==108)=false:=ZG (b:=108) h108
 have t110:((n.toNat:Int)==110)=false:=ZG (b:=110) h110;have t78:((n.toNat:Int)==78)=false:=ZG (b:=78) h78;have t112:((n.toNat:Int)==112)=false:=ZG (b:=112) h112;have t80:((n.toNat:Int)==80)=false:=ZG (b:=80) h80;have t120:((n.toNat:Int)==120)=false:=ZG (b:=120) h120;have t122:((n.toNat:Int)==122)=false:=ZG (b:=122) h122;have t98:((n.toNat:Int)==98)=false:=ZG (b:=98) h98;have t116:((n.toNat:Int)==116)=false:=ZG (b:=116) h116;have t84:((n.toNat:Int)==84)=false:=ZG (b:=84) h84;have t99:((n.toNat:Int)==99)=false:=ZG (b:=99) h99;have t119:((n.toNat:Int)==119)=false:=ZG (b:=119) h119;have t115:((n.toNat:Int)==115)=false:=ZG (b:=115) h115;have t121:((n.toNat:Int)==121)=false:=ZG (b:=121) h121;have e:Zw n= -1:=by unfold Zw;rw[if_neg (by rintro(h|h);exact h125 h;exact h58 h),if_neg (by rintro(h|h|h|h|h|h);exact h61 h;exact h113 h;exact h81 h;exact h97 h;exact h105 h;exact h114 h),if_neg (by rintro(h|h|h|h|h|h|h|h|h|h|h|h|h|h|h|h|h|h|h|h|h);exact h123 h;exact h100 h;exact h68 h;exact h103 h;exact h71 h;exact h104 h;exact h72 h;exact h108 h;exact h110 h;exact h78 h;exact h112 h;exact h80 h;exact h120 h;exact h122 h;exact h98 h;exact h116 h;exact h84 h;exact h99 h;exact h119 h;exact h115 h;exact h121 h)]
 rw[e];clear e h125 h58 h61 h113 h81 h97 h105 h114 h123 h100 h68 h103 h71 h104 h72 h108 h110 h78 h112 h80 h120 h122 h98 h116 h84 h99 h119 h115 h121;go_enter Tryz.func54,Tryz.ntmps54;go_wp2;go_ret;exact⟨rfl,Fr.refl _ _⟩
theorem Zgh(g:GV)(v:Value)(w:World)(h:ZkR nob w g v):Calls Tryz.prog 55 #[v] w fun r w'=>r=.returned (.int .i64 (Zbc g))∧Fr nob w w':=by
 obtain⟨⟨k1,n1,t1,d1⟩,⟨k2,n2,t2,d2⟩,no⟩:=g;obtain⟨u1,u2,rfl,r1,r2⟩:=h;have o1:=r1.shape;have o2:=r2.shape;clear r1 r2;unfold Zbc;simp only;rcases o1 with rfl|⟨i1,y1,rfl⟩<;>rcases o2 with rfl|⟨i2,y2,rfl⟩
 all_goals
  by_cases h2:k2=0
  ·subst h2;rw[if_neg (by simp)];by_cases h1:k1=0
   ·subst h1;rw[if_neg (by simp)];go_enter Tryz.func55,Tryz.ntmps55;go_wp2;go_ret;exact⟨rfl,(Fr.refl _ _).alloc _⟩
   ·have e1:(k1 !=0)=true:=by simpa using h1
    rw[if_pos h1];go_enter Tryz.func55,Tryz.ntmps55;go_wp2;go_ret;exact⟨rfl,(Fr.refl _ _).alloc _⟩
  ·have e2:(k2 !=0)=true:=by simpa using h2
   rw[if_pos h2];go_enter Tryz.func55,Tryz.ntmps55;go_wp2;go_ret;exact⟨rfl,(Fr.refl _ _).alloc _⟩
theorem ZhG(D:List UInt8)(w:World)(h:D.length≤1000000):Calls Tryz.prog 115 #[.string ⟨D.toArray⟩,.string ⟨#[10,59]⟩] w fun e w'=>e=.returned (.int .i64 (if(ZbO D true).length<D.length then((ZbO D true).length:Int)else -1))∧Fr nob w w':=by
 have:=Zce D true w h;rw[Zbr]at this;exact this
theorem ZcW(b:Nat)(l:List UInt8)(x must:Bool)(s:AdS)(S:Nat→Prop)(w:World)(hl:l.length≤99000)(ha:s.at_≤l.length)(h:CRd b l x s S w):
 Calls Tryz.prog 89 #[.pointer (some ⟨b,0,none⟩),.bool must] w fun r w'=>r=.returned (.string ⟨(labelC l must s).1.toArray⟩)∧CRd b l x (labelC l must s).2 S w'∧Stp S w S w':=by
 have HN:=hid (fun w'=>ZgN l s.at_ true w' (by omega) ha);have HI:=hid (fun w'=>ZhG (l.drop s.at_) w' (by rw[List.length_drop];omega));have hul:=Zdd (l.drop s.at_) true;have hut:=ZeG (l.drop s.at_) true;have HM:=hid (fun(p:Nat) (e:Int) w' (f:Fr nob w w')=>cm_moved b l x s S e p w' (h.on f));have HF:=hid (fun(p:Nat) (e:Int)=>show(if(ZbZ l s.at_ true).2.2=14∧must=false then p=s.at_+(ZbO (l.drop s.at_) true).length∧e=0 else p=(ZbZ l s.at_ true).2.1∧e=(ZbZ l s.at_ true).2.2)→labelC l must s=((ZbZ l s.at_ true).1,ZR s p e)from by
  intro h;unfold labelC;split at h
  ·next hc=>rw[if_pos hc,h.1,h.2]
  ·next hc=>rw[if_neg hc,h.1,h.2])
 obtain⟨mv,h⟩:=h;have rr:=Zd h.blk;obtain⟨p0,ms,e0⟩:=s;simp only at HN HI HF hul hut ha rr;have hul2:(ZbO (l.drop p0) true).length≤l.length-p0:=by rw[List.length_drop]at hul;exact hul
 have hwin:(ZbO (l.drop p0) true).length<(l.drop p0).length→(l.drop p0).take (ZbO (l.drop p0) true).length=ZbO (l.drop p0) true:=fun _=>hut;have hwhole:¬(ZbO (l.drop p0) true).length<(l.drop p0).length→ZbO (l.drop p0) true=l.drop p0:=fun hn=>by rw[←hut];exact List.take_of_length_le (by omega)
 obtain⟨U,hU⟩:∃U,ZbO (l.drop p0) true=U:=⟨_,rfl⟩;rw[hU]at HI HF hul hul2 hwin hwhole;obtain⟨D,hD⟩:∃D,l.drop p0=D:=⟨_,rfl⟩;have HD:=hid hD;rw[hD]at HI hul hwin hwhole;obtain⟨NL,hNL⟩:∃NL,ZbZ l p0 true=NL:=⟨_,rfl⟩;obtain⟨nt,nq,nz⟩:=NL;rw[hNL]at HN HF;simp only at HN HF;have HUL:=hid hul;have HWN:=hid hwin;have HWH:=hid hwhole;have HUL2:=hid hul2;clear h hut hU hNL hul hwin hwhole hul2 hD;by_cases hc:nz=14∧must=false
 ·obtain⟨rfl,rfl⟩:=hc;have hE:=HF.out (p0+U.length) 0 (by simp);rw[hE];clear hE HF;have hl2:(p0:Int)≤l.length:=by omega
  go_enter Tryz.func89,Tryz.ntmps89
  go_wp2_with fail
  refine region_fr 15 (by kernel_rfl) (by kernel_rfl) ?_;simp only[List.take_succ_cons,List.take_zero,List.drop_succ_cons,List.drop_zero]
  repeat(quiet_step (with_reducible exact calls_fr (HN.out _)))
  refine wpQuiet_nil ?_;intro wC fC
  go_wp2_with fail
  refine region_fr 8 (by kernel_rfl) (by kernel_rfl) ?_;simp only[List.take_succ_cons,List.take_zero,List.drop_succ_cons,List.drop_zero]
  repeat(quiet_step (fail))
  refine wpQuiet_nil ?_;intro wD fD';have fD:=fC.trans' fD';clear fC fD';by_cases hlt:U.length<D.length
  ·have hI:=HI.out;simp only[if_pos hlt]at hI;have HI2:=hid hI;have hq:=HWN.out hlt;have h0:(0:Int)≤U.length:=by omega
   have h1:(U.length:Int)≤D.length:=by omega
   clear hI HI hlt
   go_wp2_with fail
   rw[HD.out];refine(HI2.out _).mono ?_;rintro z w1 ⟨rfl,f1⟩;have f2:=fD.trans' f1;clear fD f1;have hsl:(ByteArray.mk D.toArray).extract 0 U.length=⟨U.toArray⟩:=by rw[ZkX];simp[hq]
   have hb:(U.length:Int)≤100000:=by have:=HUL2.out;omega
   have hM:=HM.out (p0+U.length) 0 w1 f2;rw[show((p0+U.length:Nat):Int)=(p0:Int)+(U.length:Int) by omega]at hM;have HM2:=hid hM;clear hM hq
   go_wp2_with fail
   refine HM2.out.mono ?_;rintro z w2 ⟨rfl,h2,st2⟩;clear rr hsl;go_wp2;go_ret;exact⟨rfl,h2,(Stp.of f2).trans st2⟩
  ·have hI:=HI.out;simp only[if_neg hlt]at hI;have HI2:=hid hI;have hUD:=HWH.out hlt;have hb:(D.length:Int)≤100000:=by rw[←hUD];have:=HUL2.out;omega
   clear hI HI hlt
   go_wp2_with fail
   rw[HD.out];refine(HI2.out _).mono ?_;rintro z w1 ⟨rfl,f1⟩;have f2:=fD.trans' f1;clear fD f1;have hM:=HM.out (p0+U.length) 0 w1 f2;rw[show((p0+U.length:Nat):Int)=(p0:Int)+(D.length:Int) by rw[hUD];omega]at hM;have HM2:=hid hM;clear hM hUD
   go_wp2_with fail
   refine HM2.out.mono ?_;rintro z w2 ⟨rfl,h2,st2⟩;clear rr;go_wp2;go_ret;exact⟨rfl,h2,(Stp.of f2).trans st2⟩
 ·have hE:=HF.out nq nz (by rw[if_neg hc];exact⟨rfl,rfl⟩);rw[hE];clear hE HF;have hc':(nz==14)=false∨((nz==14)=true∧must=true):=by
   by_cases h14:nz=14
   ·exact .inr ⟨by simpa using h14,by cases must with|true=>rfl|false=>exact absurd ⟨h14,rfl⟩ hc⟩
   ·exact .inl (by simpa using h14)
  clear hc;rcases hc' with h1|⟨h1,rfl⟩
  all_goals
   go_enter Tryz.func89,Tryz.ntmps89
   go_wp2_with fail
   refine region_fr 15 (by kernel_rfl) (by kernel_rfl) ?_;simp only[List.take_succ_cons,List.take_zero,List.drop_succ_cons,List.drop_zero]
   repeat(quiet_step (with_reducible exact calls_fr (HN.out _)))
   refine wpQuiet_nil ?_;intro wC fC
   go_wp2_with fail
   refine(HM.out _ _ _ fC).mono ?_;rintro z w2 ⟨rfl,h2,st2⟩;clear rr;go_wp2;go_ret;exact⟨rfl,h2,(Stp.of fC).trans st2⟩
theorem Zgi(b:Nat)(l:List UInt8)(x:Bool)(s:AdS)(S:Nat→Prop)(w:World)(hl:l.length≤99000)(ha:s.at_≤l.length)(h:CRd b l x s S w):
 Calls Tryz.prog 91 #[.pointer (some ⟨b,0,none⟩)] w fun r w'=>r=.returned (.string ⟨(ZaC l s).1.toArray⟩)∧CRd b l x (ZaC l s).2 S w'∧Stp S w S w':=by
 have HN:=hid (fun w'=>ZgN l s.at_ false w' (by omega) ha);have HX:=hid (Zax b l x s S [32,9] w (by omega) h);have HM:=hid (fun(p:Nat) (e:Int) w' (f:Fr nob w w')=>cm_moved b l x s S e p w' (h.on f));have HFA:=hid (fun w' (f:Fr nob w w')=>cm_fail b l x s S 2 s.at_ w' (h.on f));unfold ZaC;obtain⟨q,hq⟩:∃q,ZI l s [32,9]=q:=⟨_,rfl⟩;rw[hq]at HX⊢;obtain⟨mv,h⟩:=h;have rr:=Zd h.blk;obtain⟨p0,ms,e0⟩:=s;simp only at HN HFA rr⊢;obtain⟨NL,hNL⟩:∃NL,ZbZ l p0 false=NL:=⟨_,rfl⟩;obtain⟨nt,nq,nz⟩:=NL;rw[hNL]at HN⊢;simp only at HN⊢;clear h hNL hq;cases q with
 |false=>
  rw[if_pos rfl];go_enter Tryz.func91,Tryz.ntmps91
  go_wp2_with fail
  refine HX.out.mono ?_;rintro z w1 ⟨rfl,f1⟩
  go_wp2_with fail
  refine(HFA.out _ f1).mono ?_;rintro z w2 ⟨rfl,h2,st2⟩;clear rr;go_wp2;go_ret;exact⟨rfl,h2,(Stp.of f1).trans st2⟩
 |true=>
  rw[if_neg (by simp)];go_enter Tryz.func91,Tryz.ntmps91
  go_wp2_with fail
  refine HX.out.mono ?_;rintro z w1 ⟨rfl,f1⟩
  go_wp2_with fail
  refine region_fr 15 (by kernel_rfl) (by kernel_rfl) ?_;simp only[List.take_succ_cons,List.take_zero,List.drop_succ_cons,List.drop_zero]
  repeat(quiet_step (with_reducible exact calls_fr (HN.out _)))
  refine wpQuiet_nil ?_;intro wC fC';have fC:=f1.trans' fC';clear f1 fC'
  go_wp2_with fail
  refine(HM.out _ _ _ fC).mono ?_;rintro z w2 ⟨rfl,h2,st2⟩;clear rr;go_wp2;go_ret;exact⟨rfl,h2,(Stp.of fC).trans st2⟩
theorem ZbI(b:Nat)(l:List UInt8)(d:UInt8)(x rx:Bool)(s:AdS)(S:Nat→Prop)(w:World)(hl:l.length≤99000)(ha:s.at_≤l.length)(h:CRd b l x s S w):
 Calls Tryz.prog 120 #[.pointer (some ⟨b,0,none⟩),.int .u8 (d.toNat:Int),.bool rx] w fun r w'=>r=.returned (.string ⟨(Zp l d rx s).1.toArray⟩)∧CRd b l x (Zp l d rx s).2 S w'∧Stp S w S w':=by
 have HN:=hid (fun w'=>Zfo l s.at_ d rx w' (by omega) ha);have HX:=hid (cm_ok b l x s S w h);have HM:=hid (fun(p:Nat) (e:Int) w' (f:Fr nob w w')=>cm_moved b l x s S e p w' (h.on f));unfold Zp;have H:=hid h;obtain⟨mv,h⟩:=h;have rr:=Zd h.blk;obtain⟨p0,ms,e0⟩:=s;simp only at HN HX rr⊢;obtain⟨NL,hNL⟩:∃NL,bt l d rx (l.length+1) p0 []=NL:=⟨_,rfl⟩;obtain⟨nt,nq,nz⟩:=NL;rw[hNL]at HN⊢;simp only at HN⊢;clear h hNL;by_cases h0:e0=0
 ·subst h0;rw[if_neg (by simp)];go_enter Tryz.func120,Tryz.ntmps120
  go_wp2_with fail
  refine HX.out.mono ?_;rintro z w1 ⟨rfl,f1⟩
  go_wp2_with fail
  refine region_fr 17 (by kernel_rfl) (by kernel_rfl) ?_;simp only[List.take_succ_cons,List.take_zero,List.drop_succ_cons,List.drop_zero]
  repeat(quiet_step (with_reducible exact calls_fr (HN.out _)))
  refine wpQuiet_nil ?_;intro wC fC';have fC:=f1.trans' fC';clear f1 fC'
  go_wp2_with fail
  refine(HM.out _ _ _ fC).mono ?_;rintro z w2 ⟨rfl,h2,st2⟩;clear rr;go_wp2;go_ret;exact⟨rfl,h2,(Stp.of fC).trans st2⟩
 ·rw[if_pos h0];have e1:(e0==0)=false:=by simpa using h0
  rw[e1]at HX;go_enter Tryz.func120,Tryz.ntmps120
  go_wp2_with fail
  refine HX.out.mono ?_;rintro z w1 ⟨rfl,f1⟩;clear rr;go_wp2;go_ret;exact⟨rfl,H.out.on f1,Stp.of f1⟩
theorem Zg0(b:Nat)(l:List UInt8)(x:Bool)(s:AdS)(S:Nat→Prop)(w:World)(hl:l.length≤99000)(ha:s.at_≤l.length)(h:CRd b l x s S w):
 Calls Tryz.prog 118 #[.pointer (some ⟨b,0,none⟩)] w fun r w'=>r=.returned (.int .u8 ((Zs l s).1.toNat:Int))∧CRd b l x (Zs l s).2 S w'∧Stp S w S w':=by
 have HO:=hid (Za1 b l x s S w (by omega) h);have HX:=hid (fun w' (f:Fr nob w w')=>Zax b l x s S [92,10] w' (by omega) (h.on f));have HFA:=hid (fun(e:Int) (p:Nat) w' (f:Fr nob w w')=>cm_fail b l x s S e p w' (h.on f));unfold Zs;obtain⟨q,hq⟩:∃q,ZI l s [92,10]=q:=⟨_,rfl⟩;rw[hq]at HX⊢;obtain⟨mv,h⟩:=h;have rr:=Zd h.blk;obtain⟨p0,ms,e0⟩:=s;have H:=hid h;simp only at HO HX HFA ha rr⊢;clear h hq;by_cases hin:l.length≤p0
 ·rw[if_pos hin];have hd:decide (l.length≤p0)=true:=by simpa using hin
  rw[hd]at HO;go_enter Tryz.func118,Tryz.ntmps118
  go_wp2_with fail
  refine HO.out.mono ?_;rintro z w1 ⟨rfl,f1⟩
  go_wp2_with fail
  refine(HFA.out 5 l.length _ f1).mono ?_;rintro z w2 ⟨rfl,h2,st2⟩;clear rr;go_wp2;go_ret;exact⟨rfl,h2,(Stp.of f1).trans st2⟩
 ·rw[if_neg hin];have hd:decide (l.length≤p0)=false:=by simpa using hin
  rw[hd]at HO;have hlt:p0<l.length:=by omega
  clear hin hd;cases q with
  |true=>
   rw[if_pos rfl];go_enter Tryz.func118,Tryz.ntmps118
   go_wp2_with fail
   refine HO.out.mono ?_;rintro z w1 ⟨rfl,f1⟩
   go_wp2_with fail
   refine(HX.out _ f1).mono ?_;rintro z w2 ⟨rfl,f2'⟩;have f2:=f1.trans' f2';clear f1 f2'
   go_wp2_with fail
   refine(HFA.out 2 p0 _ f2).mono ?_;rintro z w3 ⟨rfl,h2,st2⟩;clear rr;go_wp2;go_ret;exact⟨rfl,h2,(Stp.of f2).trans st2⟩
  |false=>
   rw[if_neg (by simp),ZgO hlt];go_enter Tryz.func118,Tryz.ntmps118
   go_wp2_with fail
   refine HO.out.mono ?_;rintro z w1 ⟨rfl,f1⟩
   go_wp2_with fail
   refine(HX.out _ f1).mono ?_;rintro z w2 ⟨rfl,f2'⟩;have f2:=f1.trans' f2';clear f1 f2' rr;have h2:=H.out.on f2;have r2:=Zd h2.blk _ (Fr.refl _ _);have h3:=h2.turned 1 (.int .i64 ((p0:Int)+1)) ⟨p0+1,ms,e0⟩ (by simp) rfl;have st3:=(Stp.of f2).trans (h2.stp 1 (.int .i64 ((p0:Int)+1)));obtain⟨w3,hw3⟩:∃w3,w3=w2.setCell ⟨b,1,none⟩ (.int .i64 ((p0:Int)+1)):=⟨_,rfl⟩;rw[←hw3]at h3 st3;have rr:=Zd h3.blk;simp only at rr;rw[show((p0+1:Nat):Int)=(p0:Int)+1 by omega]at rr;have H3:=hid h3;have ST3:=hid st3;have HW3:=hid hw3;clear h2 h3 st3 hw3 f2
   go_wp2_with(rw[←HW3.out])
   clear r2;refine region_fr 9 (by kernel_rfl) (by kernel_rfl) ?_;simp only[List.take_succ_cons,List.take_zero,List.drop_succ_cons,List.drop_zero]
   repeat(quiet_step (fail))
   refine wpQuiet_nil ?_;intro wC fC;go_wp2;go_ret;exact⟨rfl,⟨mv,H3.out.on fC⟩,ST3.out.trans (Stp.of fC)⟩
theorem Ze4{l:List UInt8}{p:Nat}(hl:l.length≤99000)(ha:p≤l.length)(w:World):Calls Tryz.prog 94 #[.string ⟨l.toArray⟩,.int .i64 (p:Nat)] w fun e w'=>e=.returned (.int .i64 (bhd l [32,9] p:Nat))∧Fr nob w w':=by
 have:=ZdB l (p:Int) w (by omega);rw[if_neg (by omega),Int.toNat_natCast]at this;exact this
theorem ZlK{l:List UInt8}{s:AdS}{q:Nat}(hq:bhd l [32,9] s.at_=q):Zjy l s=if decide (l.length≤q)=true then s.to q else if ZI l (s.to q) [59,10,35]=true then s.to q else if ZI l (s.to q) [125]=true then Zag (s.to q) q [125]else failC (s.to q) 17 q:=by
 subst hq;unfold Zjy;simp only;generalize hq:bhd l [32,9] s.at_=q;have e:(s.to q).at_=q:=rfl;rw[e];by_cases h1:l.length≤q
 ·rw[if_pos (.inl h1),if_pos (by simpa using h1)]
 ·rw[if_neg (c:=decide (l.length≤q)=true) (by simpa using h1)];by_cases h2:ZI l (s.to q) [59,10,35]=true
  ·rw[if_pos (.inr h2),if_pos h2]
  ·rw[if_neg (by rintro(h|h);exact h1 h;exact h2 h),if_neg h2]
theorem cm_end(b:Nat)(l:List UInt8)(x:Bool)(s:AdS)(S:Nat→Prop)(w:World)(hl:l.length≤99000)(ha:s.at_≤l.length)(hm:s.marks.length≤1000000)(h:CRd b l x s S w):
 Calls Tryz.prog 59 #[.pointer (some ⟨b,0,none⟩)] w fun r w'=>r=.returned (.tuple #[])∧Znp b l x S w (Zjy l s) w':=by
 have HB:=hid (fun w'=>Ze4 (l:=l) (p:=s.at_) hl ha w');obtain⟨q,hq⟩:∃q,bhd l [32,9] s.at_=q:=⟨_,rfl⟩;rw[ZlK hq];rw[hq]at HB;obtain⟨p0,ms,e0⟩:=s;obtain⟨mv,h⟩:=h;have rr:=Zd h.blk;simp only[AdS.to]at HB ha rr hm⊢;have H:=hid h;clear h hq;obtain⟨c1,hc1⟩:∃c1,decide (l.length≤q)=c1:=⟨_,rfl⟩;obtain⟨c2,hc2⟩:∃c2,ZI l ⟨q,ms,e0⟩ [59,10,35]=c2:=⟨_,rfl⟩;obtain⟨c3,hc3⟩:∃c3,ZI l ⟨q,ms,e0⟩ [125]=c3:=⟨_,rfl⟩;have HO:=hid (fun w' h=>by have:=Za1 b l x ⟨q,ms,e0⟩ S w' (by omega) h;simp only at this;rw[hc1]at this;exact this);have HX:=hid (fun w' h=>by have:=Zax b l x ⟨q,ms,e0⟩ S [59,10,35] w' (by omega) h;rw[hc2]at this;exact this);have HY:=hid (fun w' h=>by have:=Zax b l x ⟨q,ms,e0⟩ S [125] w' (by omega) h;rw[hc3]at this;exact this);simp only[hc1,hc2,hc3];clear hc1 hc2 hc3;go_enter Tryz.func59,Tryz.ntmps59
 go_wp2_with fail
 refine region_fr 10 (by kernel_rfl) (by kernel_rfl) ?_;simp only[List.take_succ_cons,List.take_zero,List.drop_succ_cons,List.drop_zero]
 repeat(quiet_step (with_reducible exact calls_fr (HB.out _)))
 refine wpQuiet_nil ?_;intro wC fC;clear rr;have h2:=H.out.on fC;have r2:=Zd h2.blk _ (Fr.refl _ _);have h3:=h2.turned 1 (.int .i64 (q:Nat)) ⟨q,ms,e0⟩ (by simp) rfl;have st3:=(Stp.of fC).trans (h2.stp 1 (.int .i64 (q:Nat)));obtain⟨w3,hw3⟩:∃w3,w3=wC.setCell ⟨b,1,none⟩ (.int .i64 (q:Nat)):=⟨_,rfl⟩;rw[←hw3]at h3 st3;have rr:=Zd h3.blk;have H3:=hid (show CRd b l x ⟨q,ms,e0⟩ S w3 from⟨mv,h3⟩);have ST3:=hid st3;have HW3:=hid hw3;clear h2 h3 st3 hw3 fC
 go_wp2_with(rw[←HW3.out])
 clear r2;refine(HO.out _ H3.out).mono ?_;rintro z w4 ⟨rfl,f4⟩;cases c1 with
 |true=>
  clear rr;go_wp2
  go_end0
  exact⟨rfl,S,H3.out.on f4,ST3.out.trans (Stp.of f4)⟩
 |false=>
  go_wp2_with fail
  refine(HX.out _ (H3.out.on f4)).mono ?_;rintro z w5 ⟨rfl,f5'⟩;have f5:=f4.trans' f5';clear f4 f5';cases c2 with
  |true=>
   clear rr;go_wp2
   go_end0
   exact⟨rfl,S,H3.out.on f5,ST3.out.trans (Stp.of f5)⟩
  |false=>
   go_wp2_with fail
   refine(HY.out _ (H3.out.on f5)).mono ?_;rintro z w6 ⟨rfl,f6'⟩;have f6:=f5.trans' f6';clear f5 f6';cases c3 with
   |true=>
    go_wp2_with fail
    refine(cm_mark b l x ⟨q,ms,e0⟩ S q [125] w6 hm (H3.out.on f6)).mono ?_;rintro z w7 ⟨rfl,S',h7,st7⟩;clear rr;go_wp2
    go_end0
    exact⟨rfl,S',h7,ST3.out.trans ((Stp.of f6).trans st7)⟩
   |false=>
    go_wp2_with fail
    refine(cm_fail b l x ⟨q,ms,e0⟩ S 17 q w6 (H3.out.on f6)).mono ?_;rintro z w7 ⟨rfl,h7,st7⟩;clear rr;go_wp2
    go_end0
    exact⟨rfl,S,h7,ST3.out.trans ((Stp.of f6).trans st7)⟩
theorem Zd9(b:Nat)(l:List UInt8)(x:Bool)(g:Nat)(s:AdS)(S:Nat→Prop)(w:World)(hl:l.length≤99000)(ha:s.at_≤l.length)(hm:s.marks.length≤1000000)(h:CRd b l x s S w):
 Calls Tryz.prog 90 #[.pointer (some ⟨b,0,none⟩),.int .i64 (g:Nat)] w fun r w'=>r=.returned (.string ⟨(Zab l g s).1.toArray⟩)∧Znp b l x S w (Zab l g s).2 w':=by
 have HB:=hid (fun w'=>Ze4 (l:=l) (p:=s.at_) hl ha w');have hbl:=(bhd_in (l:=l) [32,9] ha).2;unfold Zab;simp only;obtain⟨p0,ms,e0⟩:=s;obtain⟨mv,h⟩:=h;have rr:=Zd h.blk;simp only[AdS.to]at HB ha rr hm hbl⊢;obtain⟨q,hq⟩:∃q,bhd l [32,9] p0=q:=⟨_,rfl⟩;rw[hq]at HB hbl⊢;have H:=hid h;clear h hq;have HFA:=hid (fun(e:Int) w' h=>cm_fail b l x ⟨q,ms,e0⟩ S e q w' h);have HLN:=hid (fun(k:Nat) w' hk=>Zh4 l k w' (by omega) hk);obtain⟨c2,hc2⟩:∃c2,ZI l ⟨q,ms,e0⟩ [10]=c2:=⟨_,rfl⟩;obtain⟨c3,hc3⟩:∃c3,[92,10].isPrefixOf (l.drop q)=c3:=⟨_,rfl⟩;have HX:=hid (fun w' h=>by have:=Zax b l x ⟨q,ms,e0⟩ S [10] w' (by omega) h;rw[hc2]at this;exact this);have HP:=hid (fun w'=>by have:=ZT (l.drop q) [92,10] w' (by rw[List.length_drop];omega) (by decide);rw[hc3]at this;exact this);have HC3:=hid (fun(e:c3=true)=>show q+2≤l.length from by
  rw[e]at hc3;have h2:=(List.isPrefixOf_iff_prefix.1 hc3).length_le;simp only[List.length_drop,List.length_cons,List.length_nil]at h2;omega)
 simp only[hc2,hc3];clear hc2 hc3;by_cases hin:l.length≤q
 ·rw[if_pos hin];have HO:=hid (fun w' h=>by have:=Za1 b l x ⟨q,ms,e0⟩ S w' (by omega) h;simp only[show decide (l.length≤q)=true by simpa using hin]at this;exact this);go_enter Tryz.func90,Tryz.ntmps90
  go_wp2_with fail
  refine region_fr 10 (by kernel_rfl) (by kernel_rfl) ?_;simp only[List.take_succ_cons,List.take_zero,List.drop_succ_cons,List.drop_zero]
  repeat(quiet_step (with_reducible exact calls_fr (HB.out _)))
  refine wpQuiet_nil ?_;intro wC fC;clear rr;have h2:=H.out.on fC;have r2:=Zd h2.blk _ (Fr.refl _ _);have h3:=h2.turned 1 (.int .i64 (q:Nat)) ⟨q,ms,e0⟩ (by simp) rfl;have st3:=(Stp.of fC).trans (h2.stp 1 (.int .i64 (q:Nat)));obtain⟨w3,hw3⟩:∃w3,w3=wC.setCell ⟨b,1,none⟩ (.int .i64 (q:Nat)):=⟨_,rfl⟩;rw[←hw3]at h3 st3;have rr:=Zd h3.blk;have H3:=hid (show CRd b l x ⟨q,ms,e0⟩ S w3 from⟨mv,h3⟩);have H3':=hid h3;have ST3:=hid st3;have HW3:=hid hw3;clear h2 h3 st3 hw3 fC
  go_wp2_with(rw[←HW3.out])
  clear r2;refine(HO.out _ H3.out).mono ?_;rintro z w4 ⟨rfl,f4⟩
  go_wp2_with fail
  refine(HFA.out 11 _ (H3.out.on f4)).mono ?_;rintro z w5 ⟨rfl,h5,st5⟩;clear rr;go_wp2;go_ret;exact⟨rfl,S,h5,ST3.out.trans ((Stp.of f4).trans st5)⟩
 ·rw[if_neg hin];have HO:=hid (fun w' h=>by have:=Za1 b l x ⟨q,ms,e0⟩ S w' (by omega) h;simp only[show decide (l.length≤q)=false by simpa using hin]at this;exact this);cases c2 with
  |true=>
   rw[if_pos rfl];go_enter Tryz.func90,Tryz.ntmps90
   go_wp2_with fail
   refine region_fr 10 (by kernel_rfl) (by kernel_rfl) ?_;simp only[List.take_succ_cons,List.take_zero,List.drop_succ_cons,List.drop_zero]
   repeat(quiet_step (with_reducible exact calls_fr (HB.out _)))
   refine wpQuiet_nil ?_;intro wC fC;clear rr;have h2:=H.out.on fC;have r2:=Zd h2.blk _ (Fr.refl _ _);have h3:=h2.turned 1 (.int .i64 (q:Nat)) ⟨q,ms,e0⟩ (by simp) rfl;have st3:=(Stp.of fC).trans (h2.stp 1 (.int .i64 (q:Nat)));obtain⟨w3,hw3⟩:∃w3,w3=wC.setCell ⟨b,1,none⟩ (.int .i64 (q:Nat)):=⟨_,rfl⟩;rw[←hw3]at h3 st3;have rr:=Zd h3.blk;have H3:=hid (show CRd b l x ⟨q,ms,e0⟩ S w3 from⟨mv,h3⟩);have H3':=hid h3;have ST3:=hid st3;have HW3:=hid hw3;clear h2 h3 st3 hw3 fC
   go_wp2_with(rw[←HW3.out])
   clear r2;refine(HO.out _ H3.out).mono ?_;rintro z w4 ⟨rfl,f4⟩
   go_wp2_with fail
   refine(HX.out _ (H3.out.on f4)).mono ?_;rintro z w5 ⟨rfl,f5'⟩;have f5:=f4.trans' f5';clear f4 f5'
   go_wp2_with fail
   refine(HFA.out 5 _ (H3.out.on f5)).mono ?_;rintro z w6 ⟨rfl,h6,st6⟩;clear rr;go_wp2;go_ret;exact⟨rfl,S,h6,ST3.out.trans ((Stp.of f5).trans st6)⟩
  |false=>
   rw[if_neg (by simp)];have hlt:q<l.length:=by omega
   have hle:(q:Int)≤l.length:=by omega
   cases c3 with
   |true=>
    have hq2:=HC3.out rfl;simp only[if_true];have HLN2:=fun w'=>HLN.out (q+2) w' hq2;rw[show((q+2:Nat):Int)=(q:Int)+2 by omega]at HLN2;have HL2:=hid HLN2;obtain⟨NL,hNL⟩:∃NL,ln l (l.length+1) (q+2) []=NL:=⟨_,rfl⟩;obtain⟨nt,nq,nz⟩:=NL;rw[hNL]at HL2⊢;simp only at HL2⊢;clear HLN2 hNL;go_enter Tryz.func90,Tryz.ntmps90
    go_wp2_with fail
    refine region_fr 10 (by kernel_rfl) (by kernel_rfl) ?_;simp only[List.take_succ_cons,List.take_zero,List.drop_succ_cons,List.drop_zero]
    repeat(quiet_step (with_reducible exact calls_fr (HB.out _)))
    refine wpQuiet_nil ?_;intro wC fC;clear rr;have h2:=H.out.on fC;have r2:=Zd h2.blk _ (Fr.refl _ _);have h3:=h2.turned 1 (.int .i64 (q:Nat)) ⟨q,ms,e0⟩ (by simp) rfl;have st3:=(Stp.of fC).trans (h2.stp 1 (.int .i64 (q:Nat)));obtain⟨w3,hw3⟩:∃w3,w3=wC.setCell ⟨b,1,none⟩ (.int .i64 (q:Nat)):=⟨_,rfl⟩;rw[←hw3]at h3 st3;have rr:=Zd h3.blk;have H3:=hid (show CRd b l x ⟨q,ms,e0⟩ S w3 from⟨mv,h3⟩);have H3':=hid h3;have ST3:=hid st3;have HW3:=hid hw3;clear h2 h3 st3 hw3 fC
    go_wp2_with(rw[←HW3.out])
    clear r2;refine(HO.out _ H3.out).mono ?_;rintro z w4 ⟨rfl,f4⟩
    go_wp2_with fail
    refine(HX.out _ (H3.out.on f4)).mono ?_;rintro z w5 ⟨rfl,f5'⟩;have f5:=f4.trans' f5';clear f4 f5'
    go_wp2_with fail
    refine region_fr 8 (by kernel_rfl) (by kernel_rfl) ?_;simp only[List.take_succ_cons,List.take_zero,List.drop_succ_cons,List.drop_zero]
    repeat(quiet_step (fail))
    refine wpQuiet_nil ?_;intro wD fD';have fD:=f5.trans' fD';clear f5 fD'
    go_wp2_with(refine(HP.out _).mono ?_;rintro z wE ⟨rfl,rfl⟩)
    have h6:=H3'.out.on fD;have r6:=Zd h6.blk _ (Fr.refl _ _);have h7:=h6.turned 1 (.int .i64 ((q:Int)+2)) ⟨q+2,ms,e0⟩ (by simp) rfl;have st7:=ST3.out.trans ((Stp.of fD).trans (h6.stp 1 (.int .i64 ((q:Int)+2))));obtain⟨w7,hw7⟩:∃w7,w7=wD.setCell ⟨b,1,none⟩ (.int .i64 ((q:Int)+2)):=⟨_,rfl⟩;rw[←hw7]at h7 st7;have r7:=Zd h7.blk;simp only at r7;rw[show((q+2:Nat):Int)=(q:Int)+2 by omega]at r7;have H7:=hid (show CRd b l x ⟨q+2,ms,e0⟩ S w7 from⟨mv,h7⟩);have ST7:=hid st7;have HW7:=hid hw7;clear h6 h7 st7 hw7 fD rr
    go_wp2_with(rw[←HW7.out])
    clear r6;refine region_fr 15 (by kernel_rfl) (by kernel_rfl) ?_;simp only[List.take_succ_cons,List.take_zero,List.drop_succ_cons,List.drop_zero]
    repeat(quiet_step (with_reducible exact calls_fr (HL2.out _)))
    refine wpQuiet_nil ?_;intro wC fC
    go_wp2_with fail
    refine(cm_moved b l x ⟨q+2,ms,e0⟩ S nz nq wC (H7.out.on fC)).mono ?_;rintro z w8 ⟨rfl,h8,st8⟩;clear r7;go_wp2;go_ret;exact⟨rfl,S,h8,ST7.out.trans ((Stp.of fC).trans st8)⟩
   |false=>
    simp only[Bool.false_eq_true,if_false,Zag];have HL2:=hid (fun w'=>HLN.out q w' (by omega));obtain⟨NL,hNL⟩:∃NL,ln l (l.length+1) q []=NL:=⟨_,rfl⟩;obtain⟨nt,nq,nz⟩:=NL;rw[hNL]at HL2⊢;simp only at HL2⊢;clear hNL;go_enter Tryz.func90,Tryz.ntmps90
    go_wp2_with fail
    refine region_fr 10 (by kernel_rfl) (by kernel_rfl) ?_;simp only[List.take_succ_cons,List.take_zero,List.drop_succ_cons,List.drop_zero]
    repeat(quiet_step (with_reducible exact calls_fr (HB.out _)))
    refine wpQuiet_nil ?_;intro wC fC;clear rr;have h2:=H.out.on fC;have r2:=Zd h2.blk _ (Fr.refl _ _);have h3:=h2.turned 1 (.int .i64 (q:Nat)) ⟨q,ms,e0⟩ (by simp) rfl;have st3:=(Stp.of fC).trans (h2.stp 1 (.int .i64 (q:Nat)));obtain⟨w3,hw3⟩:∃w3,w3=wC.setCell ⟨b,1,none⟩ (.int .i64 (q:Nat)):=⟨_,rfl⟩;rw[←hw3]at h3 st3;have rr:=Zd h3.blk;have H3:=hid (show CRd b l x ⟨q,ms,e0⟩ S w3 from⟨mv,h3⟩);have H3':=hid h3;have ST3:=hid st3;have HW3:=hid hw3;clear h2 h3 st3 hw3 fC
    go_wp2_with(rw[←HW3.out])
    clear r2;refine(HO.out _ H3.out).mono ?_;rintro z w4 ⟨rfl,f4⟩
    go_wp2_with fail
    refine(HX.out _ (H3.out.on f4)).mono ?_;rintro z w5 ⟨rfl,f5'⟩;have f5:=f4.trans' f5';clear f4 f5'
    go_wp2_with fail
    refine region_fr 8 (by kernel_rfl) (by kernel_rfl) ?_;simp only[List.take_succ_cons,List.take_zero,List.drop_succ_cons,List.drop_zero]
    repeat(quiet_step (fail))
    refine wpQuiet_nil ?_;intro wD fD';have fD:=f5.trans' fD';clear f5 fD'
    go_wp2_with(refine(HP.out _).mono ?_;rintro z wE ⟨rfl,rfl⟩)
    go_wp2_with fail
    refine(cm_mark b l x ⟨q,ms,e0⟩ S g [116,101,120,116] wD hm (H3.out.on fD)).mono ?_;rintro z w7 ⟨rfl,S',⟨mv7,h7⟩,st7⟩;have r7:=Zd h7.blk;simp only[Zag]at r7;have H7:=hid (show CRd b l x ⟨q,ms++[(g,[116,101,120,116])],e0⟩ S' w7 from⟨mv7,h7⟩);have ST7:=hid (ST3.out.trans ((Stp.of fD).trans st7));clear h7 st7 fD rr
    go_wp2_with fail
    refine region_fr 15 (by kernel_rfl) (by kernel_rfl) ?_;simp only[List.take_succ_cons,List.take_zero,List.drop_succ_cons,List.drop_zero]
    repeat(quiet_step (with_reducible exact calls_fr (HL2.out _)))
    refine wpQuiet_nil ?_;intro wC fC
    go_wp2_with fail
    refine(cm_moved b l x ⟨q,ms++[(g,[116,101,120,116])],e0⟩ S' nz nq wC (H7.out.on fC)).mono ?_;rintro z w8 ⟨rfl,h8,st8⟩;clear r7;go_wp2;go_ret;exact⟨rfl,S',h8,ST7.out.trans ((Stp.of fC).trans st8)⟩
def pC(l:List Prt):List Value:=l.flatMap fun m=>[.int .i64 m.1,.string ⟨m.2.toArray⟩]
theorem ZbE(l:List Prt):(pC l).length=2*l.length:=by
 induction l with
 |nil=>rfl
 |cons m r ih=>
  have e:pC (m::r)=.int .i64 m.1:: .string ⟨m.2.toArray⟩::pC r:=rfl;rw[e,List.length_cons,List.length_cons,ih,List.length_cons];omega
theorem Zcf(l:List Prt)(k:Int)(t:List UInt8):pC (l++[(k,t)])=pC l++[.int .i64 k,.string ⟨t.toArray⟩]:=by simp[pC]
theorem Zg1{k:Int}{t:List UInt8}:∀u∈([.int .i64 k,.string ⟨t.toArray⟩]:List Value),u.oneCell'=true:=by
 intro u hu;simp only[List.mem_cons,List.not_mem_nil,or_false]at hu;rcases hu with rfl|rfl<;>rfl
theorem pC_news{w:World}{g:Nat}{k:Int}{t:List UInt8}{T:TypeId}{fr:Nat×Nat}(h:w.heap[g]? =some (.cells #[.int .i64 k,.string ⟨t.toArray⟩] T fr)):
 ∀j u,([.int .i64 k,.string ⟨t.toArray⟩]:List Value)[j]? =some u→w.cell? ((⟨g,0,none⟩:Addr).add j)=some u:=by
 intro j u hj
 match j,hj with
 |0,hj=>simp at hj;subst hj;exact cell_at h rfl
 |1,hj=>simp at hj;subst hj;exact cell_at (j:=1) h rfl
theorem Ze5:(Tryz.prog.info? 43).map (fun i=>(i.zero,i.size,i.bytes))=some (some (.agg #[.int .i64 0,.string ByteArray.empty]),2,24):=by kernel_rfl
def OwP(w:World)(l:List Prt)(v:Value):Prop:=w.ownsRow 0 43 2 v l.length (pC l)
def Bdr(B b:Nat)(l:List Prt)(w:World):Prop:=∃v,w.heap[b]? =some (.cells #[v] 238 (0,0))∧OwP w l v∧B≤b∧∀k,v.ownBlock=some k→k≠b∧B≤k
def Abv(B:Nat):Nat→Prop:=fun k=>B≤k
theorem Zgj{w:World}{base g cap n size j:Nat}{e:TypeId}{xs:List Value}(h:w.ownsRow base e size (.slice (some ⟨g,0,none⟩) n cap) n xs)(u:Value)(hj:j<xs.length):(w.setCell ⟨g,j,none⟩ u).ownsRow base e size (.slice (some ⟨g,0,none⟩) n cap) n (xs.set j u):=by
 refine⟨by rw[List.length_set];exact h.1,.inr ?_⟩;rcases h.2 with⟨e1,hn⟩|⟨g',cap',cur,e1,hb,hg,hnc,hcm,hcs,htake⟩
 ·cases e1
 ·injection e1 with e1 e2 e3;injection e1 with e1;injection e1 with e1;subst e1;subst e3;refine⟨g,cap,cur.setIfInBounds j u,rfl,hb,Za hg j u,hnc,hcm,by simpa using hcs,?_⟩;rw[Array.toList_setIfInBounds,List.take_set,htake]
theorem Fr.weak{S T:Nat→Prop}{w w':World}(h:Fr S w w')(hs:∀k,S k→T k):Fr T w w':=h.mono fun k _ x=>hs k x
section
variable {B b:Nat} {l:List Prt} {w W0 w3:World} {v v':Value}
theorem Zea(hb:w.heap[b]? =some (.cells #[v] 238 (0,0)))(hB:B≤b)(hBw:B≤w.heap.size)(hn:∀k,v.ownBlock=some k→k≠b∧B≤k)(f:Fr nob w W0)(hap:Appd 1 v v' W0 w3){k:Int}{t:List UInt8}
 (hown:w3.ownsRow 0 43 2 v' (l.length+1) (pC l++[.int .i64 k,.string ⟨t.toArray⟩])):
 (w3.cell? ⟨b,0,none⟩=some v∧w3.frozen? ⟨b,0,none⟩=false)∧Bdr B b (l++[(k,t)]) (w3.setCell ⟨b,0,none⟩ v')∧Fr (Abv B) w (w3.setCell ⟨b,0,none⟩ v'):=by
 have h0:=f.heap hb (fun x=>x);have hblk:=hap.fr.heap h0 (fun e=>(hn b e).1 rfl);have hlt:=lt_heap hb;have hsz:=f.size;have hst:=(Fr.refl (fun k=>k=b) w3).setCell (p:=⟨b,0,none⟩) (fun _=>rfl) v';have hnb:∀k,v'.ownBlock=some k→k≠b∧B≤k:=fun k hk=>by
  rcases hap.old k hk with h1|h1
  ·exact hn k h1
  ·omega
 refine⟨⟨cell_at hblk rfl,unfrozen_at hblk 0⟩,⟨v',by have:=Za hblk 0 v';simpa using this,?_,hB,hnb⟩,?_⟩
 ·have:=ownsRow_fr hown hst (fun k hk e=>(hnb k hk).1 e);unfold OwP;simp only[List.length_append,List.length_singleton,Zcf];exact this
 ·exact(f.any.trans (hap.fr.mono (T:=Abv B) fun k _ hk=>(hn k hk).2) (fun _ _ x=>x)).setCell (p:=⟨b,0,none⟩) (fun _=>hB) v'
end
theorem Ze6(t:List UInt8):pushT [] t=[(-1,t)]:=rfl
theorem ZdE(q:List Prt)(a t:List UInt8):pushT (q++[(-1,a)]) t=q++[(-1,a++t)]:=by
 unfold pushT;rw[List.getLast?_concat];simp only[if_true,List.dropLast_concat]
theorem Zdh(q:List Prt)(k:Int)(a t:List UInt8)(hk:k≠ -1):pushT (q++[(k,a)]) t=q++[(k,a)]++[(-1,t)]:=by
 unfold pushT;rw[List.getLast?_concat];simp only[if_neg hk]
theorem ZlL(q:List Prt)(k:Int)(a:List UInt8):(pC (q++[(k,a)]))[q.length*2]? =some (.int .i64 k)∧(pC (q++[(k,a)]))[q.length*2+1]? =some (.string ⟨a.toArray⟩):=by
 rw[Zcf];have:=ZbE q;constructor
 ·rw[List.getElem?_append_right (by omega),show q.length*2-(pC q).length=0 by omega];rfl
 ·rw[List.getElem?_append_right (by omega),show q.length*2+1-(pC q).length=1 by omega];rfl
theorem ZdF{α:Type}(a:List α)(k j:Nat)(h:k=a.length+j)(b:List α)(x:α):(a++b).set k x=a++b.set j x:=by
 subst h;induction a with
 |nil=>simp
 |cons y a ih=>rw[List.cons_append,List.length_cons,show a.length+1+j=(a.length+j)+1 by omega,List.set_cons_succ,ih,List.cons_append]
theorem ZhH(q:List Prt)(k:Int)(a t:List UInt8):(pC (q++[(k,a)])).set (q.length*2+1) (.string ⟨t.toArray⟩)=pC (q++[(k,t)]):=by
 rw[Zcf,Zcf,ZdF (pC q) _ 1 (by rw[ZbE];omega)];rfl
theorem bd_text(B b:Nat)(l:List Prt)(t:List UInt8)(w:World)(hl:l.length≤100000)(ht:t.length≤100000)(hlt:∀p∈l,p.2.length≤100000)(hBw:B≤w.heap.size)(h:Bdr B b l w):
 Calls Tryz.prog 155 #[.pointer (some ⟨b,0,none⟩),.string ⟨t.toArray⟩] w fun r w'=>r=.returned (.tuple #[])∧Bdr B b (pushT l t) w'∧Fr (Abv B) w w':=by
 obtain⟨v,hb,ho,hB,hn⟩:=h;obtain⟨av,cv,rfl⟩:=Zb ho;obtain⟨i0,hi,hz0,hz1,hz2⟩:=info_parts Ze5;have HB:=hid hb;have HO:=hid ho;have HN:=hid hn;have rb:=ZcP (cell_at (j:=0) hb rfl);rcases(by rcases List.eq_nil_or_concat l with h|⟨q,p,h⟩;exact .inl h;exact .inr ⟨q,p.1,p.2,by rw[h,List.concat_eq_append]⟩:l=[]∨∃(q:List Prt) (k:Int) (a:List UInt8),l=q++[(k,a)])with rfl|⟨q,k,a,rfl⟩
 ·rw[Ze6];clear hb ho hn;go_enter Tryz.func155,Tryz.ntmps155
  go_wp2_with(at_builtin;refine wpList_append_g rfl _ _ 238 rfl 43 i0 (.agg #[.int .i64 0,.string ByteArray.empty]) 2 24 Tryz.underlying238 hi hz0 hz1 hz2 rfl (by decide) _ _ _ rfl (ownsRow_fr HO.out ((Fr.refl nob w).alloc _) (fun _ _ x=>x)) ⟨w.heap.size,0,none⟩ 1 1 [.int .i64 (-1),.string ⟨t.toArray⟩] rfl rfl ?c1 ?c2 ?c3 ?c4 ?_)
  case c1=>exact pC_news (newAt0 w _)
  case c2=>exact Zg1
  case c3=>unfold maxLen;show 0+1≤_;omega
  case c4=>show(0+1)*24≤_;omega
  intro v' w4 hown' hap;obtain⟨av',cv',rfl⟩:=Zb hown';obtain⟨⟨pc,pf⟩,h5,f5⟩:=Zea (l:=[]) HB.out hB hBw HN.out ((Fr.refl nob w).alloc _) hap (k:= -1) (t:=t) hown';have H5:=hid h5;have F5:=hid f5;clear hown' hap h5 f5 rb;go_wp2
  go_end0
  exact⟨rfl,H5.out,F5.out⟩
 ·have hkl:(q++[(k,a)]).length=q.length+1:=by simp
  have hql:q.length≤100000:=by rw[hkl]at hl;omega
  have hal:a.length≤100000:=hlt (k,a) (by simp);obtain⟨g,cap,hs,hgl,hc0,hc1⟩:∃g cap,Value.slice av (q++[(k,a)]).length cv=.slice (some ⟨g,0,none⟩) (q.length+1) cap∧g<w.heap.size∧w.cell? ⟨g,q.length*2,none⟩=some (.int .i64 k)∧w.cell? ⟨g,q.length*2+1,none⟩=some (.string ⟨a.toArray⟩):=by
   have hp:=ZlL q k a;have hpl:=ZbE (q++[(k,a)]);rcases ho.2 with⟨e,hn⟩|⟨r,cap,cur,e,_,hr,_⟩
   ·rw[hkl]at hn;omega
   ·have h2:=ho;injection e with e1 e2 e3;subst e1;subst e3;refine⟨r,cv,by rw[hkl],lt_heap hr,(World.ownsRow.cellAt ho (q.length*2) (by first|(rw[hpl,hkl];omega)|(rw[hkl];omega))).trans hp.1,(World.ownsRow.cellAt ho (q.length*2+1) (by first|(rw[hpl,hkl];omega)|(rw[hkl];omega))).trans hp.2⟩
  rw[hkl]at hs HB HN rb;injection hs with hs1 hs2 hs3;subst hs1;subst hs3;by_cases hk:k= -1
  ·subst hk;rw[ZdE];have hset:=Zgj (j:=q.length*2+1) (by rw[hkl]at ho;unfold OwP at ho;rw[hkl]at ho;exact ho) (.string ⟨(a++t).toArray⟩) (by rw[ZbE,hkl];omega);rw[ZhH]at hset;have HSET:=hid hset;have hfro:w.frozen? ⟨g,q.length*2+1,none⟩=false:=by
    rcases ho.2 with⟨e,hn⟩|⟨r,cap,cur,e,_,hr,_⟩
    ·rw[hkl]at hn;omega
    ·injection e with e1 e2 e3;injection e1 with e1;injection e1 with e1;subst e1;exact unfrozen_at hr _
   clear hb ho hn hset hlt;go_enter Tryz.func155,Tryz.ntmps155;have hgb:=HN.out g rfl;have hfin:Bdr B b (q++[(-1,a++t)]) (w.setCell ⟨g,q.length*2+1,none⟩ (.string ⟨(a++t).toArray⟩)):=by
    refine⟨_,Zc (p:=⟨g,q.length*2+1,none⟩) HB.out (fun e=>hgb.1 e.symm) _,?_,hB,HN.out⟩;have h:=HSET.out;unfold OwP;rw[show(q++[((-1:Int),a++t)]).length=q.length+1 by simp];exact h
   have hfr:Fr (Abv B) w (w.setCell ⟨g,q.length*2+1,none⟩ (.string ⟨(a++t).toArray⟩)):=(Fr.refl _ w).setCell (p:=⟨g,q.length*2+1,none⟩) (fun _=>hgb.2) _;have H5:=hid hfin;have F5:=hid hfr;clear hgb hfin hfr hkl;go_wp2;refine bodyPost_ret (v:=.tuple #[]) (by simp[results,Tryz.results155,go_sem]) rfl ?_;exact⟨rfl,H5.out,F5.out⟩
  ·have hk1:(k== -1)=false:=by simpa using hk
   rw[Zdh q k a t hk];have HO2:=hid (show w.ownsRow 0 43 2 (.slice (some ⟨g,0,none⟩) (q.length+1) cv) (q.length+1) (pC (q++[(k,a)])) by unfold OwP at ho;rw[hkl]at ho;exact ho);clear hb ho hn;go_enter Tryz.func155,Tryz.ntmps155
   go_wp2_with(at_builtin;refine wpList_append_g rfl _ _ 238 rfl 43 i0 (.agg #[.int .i64 0,.string ByteArray.empty]) 2 24 Tryz.underlying238 hi hz0 hz1 hz2 rfl (by decide) _ _ _ rfl (ownsRow_fr (show w.ownsRow 0 43 2 _ (q.length+1) (pC (q++[(k,a)]))from HO2.out) ((Fr.refl nob w).alloc _) (fun _ _ x=>x)) ⟨w.heap.size,0,none⟩ 1 1 [.int .i64 (-1),.string ⟨t.toArray⟩] rfl rfl (pC_news (newAt0 w _)) (Zg1 (k:= -1) (t:=t)) ?d3 ?d4 ?_)
   case d3=>unfold maxLen;omega
   case d4=>omega
   intro v' w4 hown' hap;obtain⟨av',cv',rfl⟩:=Zb hown';obtain⟨⟨pc,pf⟩,h5,f5⟩:=Zea (l:=q++[(k,a)]) HB.out hB hBw HN.out ((Fr.refl nob w).alloc _) hap (k:= -1) (t:=t) (by rw[hkl];exact hown');have H5:=hid h5;have F5:=hid f5;clear hown' hap h5 f5 rb;go_wp2
   go_end0
   exact⟨rfl,H5.out,F5.out⟩
section
variable {l:List UInt8}
theorem Zg2{k:Nat}{cs:List UInt8}(hk:k<l.length)(h:cs.contains (byt l k)=false):bhd l cs k=k:=by
 unfold bhd tl;rw[ZgO hk]at h;rw[List.drop_eq_getElem_cons hk,List.dropWhile_cons,h];simp only[Bool.false_eq_true,if_false,List.length_cons,List.length_drop];omega
theorem Zgk{x:Bool}{s:AdS}(hlt:s.at_<l.length)(hn:0≤Zw (byt l s.at_))(he:s.e=0):ZU x l s=.inr (GV.zero,s):=by
 obtain⟨h1,h2,h3,h4,h5,h6,h7,h8,_⟩:=Zd8 hn;have hb:bhd l [32,9] s.at_=s.at_:=Zg2 hlt (by simp[h2,h3]);unfold ZU Zar;rw[if_neg h1,if_neg h6,if_neg h7,if_neg h8,if_neg (by simp)];simp only[AV.zero,if_true];unfold ZfU;rw[hb,if_neg h5];obtain⟨a,m,e⟩:=s;obtain rfl:e=0:=he;rfl
theorem Zgl{line:List UInt8}{k n:Int}(hl:l.length>0)(hn:0≤Zw (byt l 0))(hk:k≠0)(ha:Zar false (line++l) false ⟨0,[],0⟩=.inr (⟨k,n,[],.nil⟩,⟨line.length,[],0⟩)):
 ZU false (line++l) ⟨0,[],0⟩=.inr (⟨⟨k,n,[],.nil⟩,AV.zero,false⟩,⟨line.length,[],0⟩):=by
 obtain⟨h1,h2,h3,h4,h5,h6,h7,h8,_⟩:=Zd8 hn;have hb:bhd (line++l) [32,9] line.length=line.length:=by
  have:=ZiX (A:=line) (l:=l) [32,9] (k:=0) (by omega);rw[Zg2 hl (by simp[h2,h3])]at this;exact this
 have hy:byt (line++l) line.length=byt l 0:=ZiW (A:=line) (l:=l) 0;unfold ZU;rw[ha];simp only[if_neg hk];unfold Zbs;simp only[hb,hy,if_neg h4];unfold ZfU;simp only[hb,hy,if_neg h5]
theorem ZkV{b:UInt8}{r:List UInt8}(h1:48≤b.toNat∧b.toNat≤57)(h2:¬(48≤(byt r 0).toNat∧(byt r 0).toNat≤57)):nm 0 (b::r) 0 0=(b.toNat-48,1,0):=by
 rw[nm,if_pos h1,if_neg (by decide)];cases r with
 |nil=>simp[nm]
 |cons y r=>
  have h2:¬(48≤y.toNat∧y.toNat≤57):=h2;rw[nm,if_neg h2];simp
theorem ZmK{b c:UInt8}{r:List UInt8}(h1:48≤b.toNat∧b.toNat≤57)(h3:48≤c.toNat∧c.toNat≤57)(h2:¬(48≤(byt r 0).toNat∧(byt r 0).toNat≤57)):nm 0 (b::c::r) 0 0=((b.toNat-48)*10+(c.toNat-48),2,0):=by
 rw[nm,if_pos h1,if_neg (by decide),nm,if_pos h3,if_neg (by decide)];cases r with
 |nil=>simp[nm]
 |cons y r=>
  have h2:¬(48≤y.toNat∧y.toNat≤57):=h2;rw[nm,if_neg h2];simp
theorem Zi6{line:List UInt8}(hl:line=[49]∨line=[55]∨line=[36]∨line=[49,50])(h2:¬(48≤(byt l 0).toNat∧(byt l 0).toNat≤57)):
 ∃k n:Int,(k=1∨k=2)∧Zar false (line++l) false ⟨0,[],0⟩=.inr (⟨k,n,[],.nil⟩,⟨line.length,[],0⟩):=by
 rcases hl with rfl|rfl|rfl|rfl
 ·refine⟨1,1,.inl rfl,?_⟩;unfold Zar;refine(if_pos (show 48≤(49:UInt8).toNat∧(49:UInt8).toNat≤57 by decide)).trans ?_;unfold Zcu;simp only[List.cons_append,List.nil_append,List.drop_zero,ZkV (b:=49) (r:=l) (by decide) h2];rfl
 ·refine⟨1,7,.inl rfl,?_⟩;unfold Zar;refine(if_pos (show 48≤(55:UInt8).toNat∧(55:UInt8).toNat≤57 by decide)).trans ?_;unfold Zcu;simp only[List.cons_append,List.nil_append,List.drop_zero,ZkV (b:=55) (r:=l) (by decide) h2];rfl
 ·exact⟨2,0,.inr rfl,rfl⟩
 ·refine⟨1,12,.inl rfl,?_⟩;unfold Zar;refine(if_pos (show 48≤(49:UInt8).toNat∧(49:UInt8).toNat≤57 by decide)).trans ?_;unfold Zcu;simp only[List.cons_append,List.nil_append,List.drop_zero,ZmK (b:=49) (c:=50) (r:=l) (by decide) (by decide) h2];rfl
theorem ZdG{line:List UInt8}(hl:line=[49]∨line=[55]∨line=[36]∨line=[49,50]){c:CV}{s1:AdS}(h:Zeg false l 0=.inr (c,s1))(hat:c.at_=0):
 ((c.name=58∨c.name=125)→Zeg false (line++l) 0=.inl (19,line.length))∧
 (¬(c.name=58∨c.name=125)→∃g s',Zeg false (line++l) 0=.inr ({shC line.length c with guard:=g},s'))∧c.guard=GV.zero:=by
 unfold Zeg at h;cases hg:ZU false l ⟨0,[],0⟩with
 |inl z=>rw[hg]at h;cases h
 |inr z=>
  obtain⟨g,q⟩:=z;rw[hg]at h;simp only at h;by_cases h0:(Zbw false l g q).2.e=0
  ·rw[if_neg (fun h=>h h0)]at h;injection h with h;have hok:=ZlJ h0;rw[h]at hok;obtain⟨ho1,ho2,ho3,ho4,ho5,ho6⟩:=hok;simp only at ho4 ho5 ho6;have hq:q.at_=0:=by rw[←ho4];exact hat
   rw[hq]at ho1 ho2 ho5;have hgz:=Zgk (x:=false) (s:=⟨0,[],0⟩) ho1 ho2 rfl;rw[hgz]at hg;injection hg with hg;injection hg with hg1 hg2;subst hg1;subst hg2;have hc0:(Zbw false l GV.zero ⟨0,[],0⟩).2.e=0:=h0;obtain⟨k,n,hk,ha⟩:=Zi6 hl (Zd8 ho2).1;have hgl:=Zgl (l:=l) (line:=line) ho1 ho2 (by omega) ha;have hA:line++l=line++l:=rfl;have htold:Zbc ⟨⟨k,n,[],.nil⟩,AV.zero,false⟩=1:=by
    unfold Zbc AV.zero;rw[if_neg (by simp),if_pos (by show k≠0;omega)]
   have hsh:=fun g'=>ZmJ (A:=line) (l:=l) (M:=[]) (s:=⟨0,[],0⟩) false g' (by show 0≤_;omega);have hsS:shS line.length [] ⟨0,[],0⟩=⟨line.length,[],0⟩:=rfl;rw[hsS]at hsh;refine⟨fun hn=> ?_,fun hn=> ?_,by rw[ho6]⟩
   ·have hadd:Zw (byt l 0)=0:=by
     rw[←ho5];rcases hn with hn|hn<;>rw[hn]<;>rfl
    have hR:(Zbw false l ⟨⟨k,n,[],.nil⟩,AV.zero,false⟩ ⟨0,[],0⟩).2=⟨0,[],19⟩:=by
     unfold Zbw;rw[if_neg (by show¬l.length≤0;omega)];simp only[hadd,htold];rfl
    unfold Zeg;rw[hgl];simp only;rw[(hsh _).1,hR];rfl
   ·have hadd:¬Zw (byt l 0)<Zbc ⟨⟨k,n,[],.nil⟩,AV.zero,false⟩:=by
     rw[htold,←ho5];rw[←ho5]at ho2;intro hlt;apply hn;have:Zw c.name=0:=by omega
     unfold Zw at this;split at this
     ·next hc=>exact hc.symm
     split at this
     ·cases this
     split at this<;>cases this
    have hgd:=ZhF false l GV.zero ⟨⟨k,n,[],.nil⟩,AV.zero,false⟩ ⟨0,[],0⟩ ho1 ho2 (by unfold Zbc GV.zero AV.zero;simp;omega) hadd rfl;have h2:=hsh ⟨⟨k,n,[],.nil⟩,AV.zero,false⟩;rw[hgd]at h2;simp only at h2;obtain⟨h2a,h2b⟩:=h2;have h2b:=h2b hc0;unfold Zeg;rw[hgl];simp only;have e1:(Zbw false (line++l) ⟨⟨k,n,[],.nil⟩,AV.zero,false⟩ ⟨line.length,[],0⟩).2.e=0:=by rw[h2a];exact hc0
    rw[if_neg (fun h=>h e1)];refine⟨⟨⟨k,n,[],.nil⟩,AV.zero,false⟩,(Zbw false (line++l) ⟨⟨k,n,[],.nil⟩,AV.zero,false⟩ ⟨line.length,[],0⟩).2,congrArg Sum.inr (Prod.ext ?_ rfl)⟩;rw[h2b,h];rfl
  ·rw[if_pos h0]at h;cases h
end
end Go.Proofs.YtkfddjopbocpkaaGreatDoor
