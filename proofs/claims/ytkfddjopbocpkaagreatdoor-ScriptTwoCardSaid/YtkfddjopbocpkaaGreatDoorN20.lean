/- Lemmas of this claim. -/
import Derived.Test.YtkfddjopbocpkaaGreatDoorN19
set_option linter.unusedVariables false
set_option linter.unusedSimpArgs false
set_option maxRecDepth 100000
set_option maxHeartbeats 4000000
namespace Go.Proofs.YtkfddjopbocpkaaGreatDoor
open Go.Lib (hid)
open Go.RowKit
theorem Zgr(w:World):Calls Tryz.prog 54 #[.int .u8 125] w fun r w'=>r=.returned (.int .i64 0)∧Fr nob w w':=by
 go_enter Tryz.func54,Tryz.ntmps54;go_wp2;go_ret;exact⟨rfl,Fr.refl _ _⟩
theorem ZhG(w:World):Calls Tryz.prog 54 #[.int .u8 58] w fun r w'=>r=.returned (.int .i64 0)∧Fr nob w w':=by
 go_enter Tryz.func54,Tryz.ntmps54;go_wp2;go_ret;exact⟨rfl,Fr.refl _ _⟩
theorem ZhH(w:World):Calls Tryz.prog 54 #[.int .u8 61] w fun r w'=>r=.returned (.int .i64 1)∧Fr nob w w':=by
 go_enter Tryz.func54,Tryz.ntmps54;go_wp2;go_ret;exact⟨rfl,Fr.refl _ _⟩
theorem Zgs(w:World):Calls Tryz.prog 54 #[.int .u8 113] w fun r w'=>r=.returned (.int .i64 1)∧Fr nob w w':=by
 go_enter Tryz.func54,Tryz.ntmps54;go_wp2;go_ret;exact⟨rfl,Fr.refl _ _⟩
theorem ZhI(w:World):Calls Tryz.prog 54 #[.int .u8 81] w fun r w'=>r=.returned (.int .i64 1)∧Fr nob w w':=by
 go_enter Tryz.func54,Tryz.ntmps54;go_wp2;go_ret;exact⟨rfl,Fr.refl _ _⟩
theorem ZhJ(w:World):Calls Tryz.prog 54 #[.int .u8 97] w fun r w'=>r=.returned (.int .i64 1)∧Fr nob w w':=by
 go_enter Tryz.func54,Tryz.ntmps54;go_wp2;go_ret;exact⟨rfl,Fr.refl _ _⟩
theorem Zgt(w:World):Calls Tryz.prog 54 #[.int .u8 105] w fun r w'=>r=.returned (.int .i64 1)∧Fr nob w w':=by
 go_enter Tryz.func54,Tryz.ntmps54;go_wp2;go_ret;exact⟨rfl,Fr.refl _ _⟩
theorem Zgu(w:World):Calls Tryz.prog 54 #[.int .u8 114] w fun r w'=>r=.returned (.int .i64 1)∧Fr nob w w':=by
 go_enter Tryz.func54,Tryz.ntmps54;go_wp2;go_ret;exact⟨rfl,Fr.refl _ _⟩
theorem Zgv(w:World):Calls Tryz.prog 54 #[.int .u8 123] w fun r w'=>r=.returned (.int .i64 2)∧Fr nob w w':=by
 go_enter Tryz.func54,Tryz.ntmps54;go_wp2;go_ret;exact⟨rfl,Fr.refl _ _⟩
theorem Zgw(w:World):Calls Tryz.prog 54 #[.int .u8 100] w fun r w'=>r=.returned (.int .i64 2)∧Fr nob w w':=by
 go_enter Tryz.func54,Tryz.ntmps54;go_wp2;go_ret;exact⟨rfl,Fr.refl _ _⟩
theorem ZhK(w:World):Calls Tryz.prog 54 #[.int .u8 68] w fun r w'=>r=.returned (.int .i64 2)∧Fr nob w w':=by
 go_enter Tryz.func54,Tryz.ntmps54;go_wp2;go_ret;exact⟨rfl,Fr.refl _ _⟩
theorem Zgx(w:World):Calls Tryz.prog 54 #[.int .u8 103] w fun r w'=>r=.returned (.int .i64 2)∧Fr nob w w':=by
 go_enter Tryz.func54,Tryz.ntmps54;go_wp2;go_ret;exact⟨rfl,Fr.refl _ _⟩
theorem ZhL(w:World):Calls Tryz.prog 54 #[.int .u8 71] w fun r w'=>r=.returned (.int .i64 2)∧Fr nob w w':=by
 go_enter Tryz.func54,Tryz.ntmps54;go_wp2;go_ret;exact⟨rfl,Fr.refl _ _⟩
theorem Zgy(w:World):Calls Tryz.prog 54 #[.int .u8 104] w fun r w'=>r=.returned (.int .i64 2)∧Fr nob w w':=by
 go_enter Tryz.func54,Tryz.ntmps54;go_wp2;go_ret;exact⟨rfl,Fr.refl _ _⟩
theorem ZhM(w:World):Calls Tryz.prog 54 #[.int .u8 72] w fun r w'=>r=.returned (.int .i64 2)∧Fr nob w w':=by
 go_enter Tryz.func54,Tryz.ntmps54;go_wp2;go_ret;exact⟨rfl,Fr.refl _ _⟩
theorem Zgz(w:World):Calls Tryz.prog 54 #[.int .u8 108] w fun r w'=>r=.returned (.int .i64 2)∧Fr nob w w':=by
 go_enter Tryz.func54,Tryz.ntmps54;go_wp2;go_ret;exact⟨rfl,Fr.refl _ _⟩
theorem ZgA(w:World):Calls Tryz.prog 54 #[.int .u8 110] w fun r w'=>r=.returned (.int .i64 2)∧Fr nob w w':=by
 go_enter Tryz.func54,Tryz.ntmps54;go_wp2;go_ret;exact⟨rfl,Fr.refl _ _⟩
theorem ZhN(w:World):Calls Tryz.prog 54 #[.int .u8 78] w fun r w'=>r=.returned (.int .i64 2)∧Fr nob w w':=by
 go_enter Tryz.func54,Tryz.ntmps54;go_wp2;go_ret;exact⟨rfl,Fr.refl _ _⟩
theorem ZgB(w:World):Calls Tryz.prog 54 #[.int .u8 112] w fun r w'=>r=.returned (.int .i64 2)∧Fr nob w w':=by
 go_enter Tryz.func54,Tryz.ntmps54;go_wp2;go_ret;exact⟨rfl,Fr.refl _ _⟩
theorem ZhO(w:World):Calls Tryz.prog 54 #[.int .u8 80] w fun r w'=>r=.returned (.int .i64 2)∧Fr nob w w':=by
 go_enter Tryz.func54,Tryz.ntmps54;go_wp2;go_ret;exact⟨rfl,Fr.refl _ _⟩
theorem ZgC(w:World):Calls Tryz.prog 54 #[.int .u8 120] w fun r w'=>r=.returned (.int .i64 2)∧Fr nob w w':=by
 go_enter Tryz.func54,Tryz.ntmps54;go_wp2;go_ret;exact⟨rfl,Fr.refl _ _⟩
theorem ZgD(w:World):Calls Tryz.prog 54 #[.int .u8 122] w fun r w'=>r=.returned (.int .i64 2)∧Fr nob w w':=by
 go_enter Tryz.func54,Tryz.ntmps54;go_wp2;go_ret;exact⟨rfl,Fr.refl _ _⟩
theorem ZhP(w:World):Calls Tryz.prog 54 #[.int .u8 98] w fun r w'=>r=.returned (.int .i64 2)∧Fr nob w w':=by
 go_enter Tryz.func54,Tryz.ntmps54;go_wp2;go_ret;exact⟨rfl,Fr.refl _ _⟩
theorem ZgE(w:World):Calls Tryz.prog 54 #[.int .u8 116] w fun r w'=>r=.returned (.int .i64 2)∧Fr nob w w':=by
 go_enter Tryz.func54,Tryz.ntmps54;go_wp2;go_ret;exact⟨rfl,Fr.refl _ _⟩
theorem ZhQ(w:World):Calls Tryz.prog 54 #[.int .u8 84] w fun r w'=>r=.returned (.int .i64 2)∧Fr nob w w':=by
 go_enter Tryz.func54,Tryz.ntmps54;go_wp2;go_ret;exact⟨rfl,Fr.refl _ _⟩
theorem ZhR(w:World):Calls Tryz.prog 54 #[.int .u8 99] w fun r w'=>r=.returned (.int .i64 2)∧Fr nob w w':=by
 go_enter Tryz.func54,Tryz.ntmps54;go_wp2;go_ret;exact⟨rfl,Fr.refl _ _⟩
theorem ZgF(w:World):Calls Tryz.prog 54 #[.int .u8 119] w fun r w'=>r=.returned (.int .i64 2)∧Fr nob w w':=by
 go_enter Tryz.func54,Tryz.ntmps54;go_wp2;go_ret;exact⟨rfl,Fr.refl _ _⟩
theorem ZgG(w:World):Calls Tryz.prog 54 #[.int .u8 115] w fun r w'=>r=.returned (.int .i64 2)∧Fr nob w w':=by
 go_enter Tryz.func54,Tryz.ntmps54;go_wp2;go_ret;exact⟨rfl,Fr.refl _ _⟩
theorem ZgH(w:World):Calls Tryz.prog 54 #[.int .u8 121] w fun r w'=>r=.returned (.int .i64 2)∧Fr nob w w':=by
 go_enter Tryz.func54,Tryz.ntmps54;go_wp2;go_ret;exact⟨rfl,Fr.refl _ _⟩
theorem ZdQ(n:UInt8)(w:World):Calls Tryz.prog 54 #[.int .u8 (n.toNat:Int)] w fun r w'=>r=.returned (.int .i64 (ZM n))∧Fr nob w w':=by
 by_cases h125:n=125
 ·subst h125;exact Zgr w
 by_cases h58:n=58
 ·subst h58;exact ZhG w
 by_cases h61:n=61
 ·subst h61;exact ZhH w
 by_cases h113:n=113
 ·subst h113;exact Zgs w
 by_cases h81:n=81
 ·subst h81;exact ZhI w
 by_cases h97:n=97
 ·subst h97;exact ZhJ w
 by_cases h105:n=105
 ·subst h105;exact Zgt w
 by_cases h114:n=114
 ·subst h114;exact Zgu w
 by_cases h123:n=123
 ·subst h123;exact Zgv w
 by_cases h100:n=100
 ·subst h100;exact Zgw w
 by_cases h68:n=68
 ·subst h68;exact ZhK w
 by_cases h103:n=103
 ·subst h103;exact Zgx w
 by_cases h71:n=71
 ·subst h71;exact ZhL w
 by_cases h104:n=104
 ·subst h104;exact Zgy w
 by_cases h72:n=72
 ·subst h72;exact ZhM w
 by_cases h108:n=108
 ·subst h108;exact Zgz w
 by_cases h110:n=110
 ·subst h110;exact ZgA w
 by_cases h78:n=78
 ·subst h78;exact ZhN w
 by_cases h112:n=112
 ·subst h112;exact ZgB w
 by_cases h80:n=80
 ·subst h80;exact ZhO w
 by_cases h120:n=120
 ·subst h120;exact ZgC w
 by_cases h122:n=122
 ·subst h122;exact ZgD w
 by_cases h98:n=98
 ·subst h98;exact ZhP w
 by_cases h116:n=116
 ·subst h116;exact ZgE w
 by_cases h84:n=84
 ·subst h84;exact ZhQ w
 by_cases h99:n=99
 ·subst h99;exact ZhR w
 by_cases h119:n=119
 ·subst h119;exact ZgF w
 by_cases h115:n=115
 ·subst h115;exact ZgG w
 by_cases h121:n=121
 ·subst h121;exact ZgH w
 have t125:((n.toNat:Int)==125)=false:=Zn (b:=125) h125;have t58:((n.toNat:Int)==58)=false:=Zn (b:=58) h58;have t61:((n.toNat:Int)==61)=false:=Zn (b:=61) h61;have t113:((n.toNat:Int)==113)=false:=Zn (b:=113) h113;have t81:((n.toNat:Int)==81)=false:=Zn (b:=81) h81;have t97:((n.toNat:Int)==97)=false:=Zn (b:=97) h97;have t105:((n.toNat:Int)==105)=false:=Zn (b:=105) h105;have t114:((n.toNat:Int)==114)=false:=Zn (b:=114) h114;have t123:((n.toNat:Int)==123)=false:=Zn (b:=123) h123;have t100:((n.toNat:Int)==100)=false:=Zn (b:=100) h100;have t68:((n.toNat:Int)==68)=false:=Zn (b:=68) h68;have t103:((n.toNat:Int)==103)=false:=Zn (b:=103) h103;have t71:((n.toNat:Int)==71)=false:=Zn (b:=71) h71;have t104:((n.toNat:Int)==104)=false:=Zn (b:=104) h104;have t72:((n.toNat:Int)==72)=false:=Zn (b:=72) h72;have t108:((n.toNat:Int)==108)=false:=Zn (b:=108) h108
 have t110:((n.toNat:Int)==110)=false:=Zn (b:=110) h110;have t78:((n.toNat:Int)==78)=false:=Zn (b:=78) h78;have t112:((n.toNat:Int)==112)=false:=Zn (b:=112) h112;have t80:((n.toNat:Int)==80)=false:=Zn (b:=80) h80;have t120:((n.toNat:Int)==120)=false:=Zn (b:=120) h120;have t122:((n.toNat:Int)==122)=false:=Zn (b:=122) h122;have t98:((n.toNat:Int)==98)=false:=Zn (b:=98) h98;have t116:((n.toNat:Int)==116)=false:=Zn (b:=116) h116;have t84:((n.toNat:Int)==84)=false:=Zn (b:=84) h84;have t99:((n.toNat:Int)==99)=false:=Zn (b:=99) h99;have t119:((n.toNat:Int)==119)=false:=Zn (b:=119) h119;have t115:((n.toNat:Int)==115)=false:=Zn (b:=115) h115;have t121:((n.toNat:Int)==121)=false:=Zn (b:=121) h121;have e:ZM n= -1:=by unfold ZM;rw[if_neg (by rintro(h|h);exact h125 h;exact h58 h),if_neg (by rintro(h|h|h|h|h|h);exact h61 h;exact h113 h;exact h81 h;exact h97 h;exact h105 h;exact h114 h),if_neg (by rintro(h|h|h|h|h|h|h|h|h|h|h|h|h|h|h|h|h|h|h|h|h);exact h123 h;exact h100 h;exact h68 h;exact h103 h;exact h71 h;exact h104 h;exact h72 h;exact h108 h;exact h110 h;exact h78 h;exact h112 h;exact h80 h;exact h120 h;exact h122 h;exact h98 h;exact h116 h;exact h84 h;exact h99 h;exact h119 h;exact h115 h;exact h121 h)]
 rw[e];clear e h125 h58 h61 h113 h81 h97 h105 h114 h123 h100 h68 h103 h71 h104 h72 h108 h110 h78 h112 h80 h120 h122 h98 h116 h84 h99 h119 h115 h121;go_enter Tryz.func54,Tryz.ntmps54;go_wp2;go_ret;exact⟨rfl,Fr.refl _ _⟩
theorem ZhS(g:GV)(v:Value)(w:World)(h:Zni nob w g v):Calls Tryz.prog 55 #[v] w fun r w'=>r=.returned (.int .i64 (ZcD g))∧Fr nob w w':=by
 obtain⟨⟨k1,n1,t1,d1⟩,⟨k2,n2,t2,d2⟩,no⟩:=g;obtain⟨u1,u2,rfl,r1,r2⟩:=h;have o1:=r1.shape;have o2:=r2.shape;clear r1 r2;unfold ZcD;simp only;rcases o1 with rfl|⟨i1,y1,rfl⟩<;>rcases o2 with rfl|⟨i2,y2,rfl⟩
 all_goals
  by_cases h2:k2=0
  ·subst h2;rw[if_neg (by simp)];by_cases h1:k1=0
   ·subst h1;rw[if_neg (by simp)];go_enter Tryz.func55,Tryz.ntmps55;go_wp2;go_ret;exact⟨rfl,(Fr.refl _ _).alloc _⟩
   ·have e1:(k1 !=0)=true:=by simpa using h1
    rw[if_pos h1];go_enter Tryz.func55,Tryz.ntmps55;go_wp2;go_ret;exact⟨rfl,(Fr.refl _ _).alloc _⟩
  ·have e2:(k2 !=0)=true:=by simpa using h2
   rw[if_pos h2];go_enter Tryz.func55,Tryz.ntmps55;go_wp2;go_ret;exact⟨rfl,(Fr.refl _ _).alloc _⟩
theorem Zjs(D:List UInt8)(w:World)(h:D.length≤1000000):Calls Tryz.prog 115 #[.string ⟨D.toArray⟩,.string ⟨#[10,59]⟩] w fun e w'=>e=.returned (.int .i64 (if(Zcv D true).length<D.length then((Zcv D true).length:Int)else -1))∧Fr nob w w':=by
 have:=ZcX D true w h;rw[ZbT]at this;exact this
theorem ZdR(b:Nat)(l:List UInt8)(x must:Bool)(s:AdS)(S:Nat→Prop)(w:World)(hl:l.length≤99000)(ha:s.at_≤l.length)(h:CRd b l x s S w):
 Calls Tryz.prog 89 #[.pointer (some ⟨b,0,none⟩),.bool must] w fun r w'=>r=.returned (.string ⟨(labelC l must s).1.toArray⟩)∧CRd b l x (labelC l must s).2 S w'∧Stp S w S w':=by
 have HN:=hid (fun w'=>Ziq l s.at_ true w' (by omega) ha);have HI:=hid (fun w'=>Zjs (l.drop s.at_) w' (by rw[List.length_drop];omega));have hul:=Zec (l.drop s.at_) true;have hut:=Zgi (l.drop s.at_) true;have HM:=hid (fun(p:Nat) (e:Int) w' (f:Fr nob w w')=>cm_moved b l x s S e p w' (h.on f));have HF:=hid (fun(p:Nat) (e:Int)=>show(if(ZcI l s.at_ true).2.2=14∧must=false then p=s.at_+(Zcv (l.drop s.at_) true).length∧e=0 else p=(ZcI l s.at_ true).2.1∧e=(ZcI l s.at_ true).2.2)→labelC l must s=((ZcI l s.at_ true).1,ZV s p e)from by
  intro h;unfold labelC;split at h
  ·next hc=>rw[if_pos hc,h.1,h.2]
  ·next hc=>rw[if_neg hc,h.1,h.2])
 obtain⟨mv,h⟩:=h;have rr:=Zd h.blk;obtain⟨p0,ms,e0⟩:=s;simp only at HN HI HF hul hut ha rr;have hul2:(Zcv (l.drop p0) true).length≤l.length-p0:=by rw[List.length_drop]at hul;exact hul
 have hwin:(Zcv (l.drop p0) true).length<(l.drop p0).length→(l.drop p0).take (Zcv (l.drop p0) true).length=Zcv (l.drop p0) true:=fun _=>hut;have hwhole:¬(Zcv (l.drop p0) true).length<(l.drop p0).length→Zcv (l.drop p0) true=l.drop p0:=fun hn=>by rw[←hut];exact List.take_of_length_le (by omega)
 obtain⟨U,hU⟩:∃U,Zcv (l.drop p0) true=U:=⟨_,rfl⟩;rw[hU]at HI HF hul hul2 hwin hwhole;obtain⟨D,hD⟩:∃D,l.drop p0=D:=⟨_,rfl⟩;have HD:=hid hD;rw[hD]at HI hul hwin hwhole;obtain⟨NL,hNL⟩:∃NL,ZcI l p0 true=NL:=⟨_,rfl⟩;obtain⟨nt,nq,nz⟩:=NL;rw[hNL]at HN HF;simp only at HN HF;have HUL:=hid hul;have HWN:=hid hwin;have HWH:=hid hwhole;have HUL2:=hid hul2;clear h hut hU hNL hul hwin hwhole hul2 hD;by_cases hc:nz=14∧must=false
 ·obtain⟨rfl,rfl⟩:=hc;have hE:=HF.out (p0+U.length) 0 (by simp);rw[hE];clear hE HF;have hl2:(p0:Int)≤l.length:=by omega
  go_enter Tryz.func89,Tryz.ntmps89;go_wp2_with fail;refine region_fr 15 (by kernel_rfl) (by kernel_rfl) ?_;simp only[List.take_succ_cons,List.take_zero,List.drop_succ_cons,List.drop_zero]
  repeat(quiet_step (with_reducible exact calls_fr (HN.out _)))
  refine wpQuiet_nil ?_;intro wC fC;go_wp2_with fail;refine region_fr 8 (by kernel_rfl) (by kernel_rfl) ?_;simp only[List.take_succ_cons,List.take_zero,List.drop_succ_cons,List.drop_zero]
  repeat(quiet_step (fail))
  refine wpQuiet_nil ?_;intro wD fD';have fD:=fC.trans' fD';clear fC fD';by_cases hlt:U.length<D.length
  ·have hI:=HI.out;simp only[if_pos hlt]at hI;have HI2:=hid hI;have hq:=HWN.out hlt;have h0:(0:Int)≤U.length:=by omega
   have h1:(U.length:Int)≤D.length:=by omega
   clear hI HI hlt;go_wp2_with fail;rw[HD.out];refine(HI2.out _).mono ?_;rintro z w1 ⟨rfl,f1⟩;have f2:=fD.trans' f1;clear fD f1;have hsl:(ByteArray.mk D.toArray).extract 0 U.length=⟨U.toArray⟩:=by rw[Zm8];simp[hq]
   have hb:(U.length:Int)≤100000:=by have:=HUL2.out;omega
   have hM:=HM.out (p0+U.length) 0 w1 f2;rw[show((p0+U.length:Nat):Int)=(p0:Int)+(U.length:Int) by omega]at hM;have HM2:=hid hM;clear hM hq;go_wp2_with fail;refine HM2.out.mono ?_;rintro z w2 ⟨rfl,h2,st2⟩;clear rr hsl;go_wp2;go_ret;exact⟨rfl,h2,(Stp.of f2).trans st2⟩
  ·have hI:=HI.out;simp only[if_neg hlt]at hI;have HI2:=hid hI;have hUD:=HWH.out hlt;have hb:(D.length:Int)≤100000:=by rw[←hUD];have:=HUL2.out;omega
   clear hI HI hlt;go_wp2_with fail;rw[HD.out];refine(HI2.out _).mono ?_;rintro z w1 ⟨rfl,f1⟩;have f2:=fD.trans' f1;clear fD f1;have hM:=HM.out (p0+U.length) 0 w1 f2;rw[show((p0+U.length:Nat):Int)=(p0:Int)+(D.length:Int) by rw[hUD];omega]at hM;have HM2:=hid hM;clear hM hUD;go_wp2_with fail;refine HM2.out.mono ?_;rintro z w2 ⟨rfl,h2,st2⟩;clear rr;go_wp2;go_ret;exact⟨rfl,h2,(Stp.of f2).trans st2⟩
 ·have hE:=HF.out nq nz (by rw[if_neg hc];exact⟨rfl,rfl⟩);rw[hE];clear hE HF;have hc':(nz==14)=false∨((nz==14)=true∧must=true):=by
   by_cases h14:nz=14
   ·exact .inr ⟨by simpa using h14,by cases must with|true=>rfl|false=>exact absurd ⟨h14,rfl⟩ hc⟩
   ·exact .inl (by simpa using h14)
  clear hc;rcases hc' with h1|⟨h1,rfl⟩
  all_goals
   go_enter Tryz.func89,Tryz.ntmps89;go_wp2_with fail;refine region_fr 15 (by kernel_rfl) (by kernel_rfl) ?_;simp only[List.take_succ_cons,List.take_zero,List.drop_succ_cons,List.drop_zero]
   repeat(quiet_step (with_reducible exact calls_fr (HN.out _)))
   refine wpQuiet_nil ?_;intro wC fC;go_wp2_with fail;refine(HM.out _ _ _ fC).mono ?_;rintro z w2 ⟨rfl,h2,st2⟩;clear rr;go_wp2;go_ret;exact⟨rfl,h2,(Stp.of fC).trans st2⟩
theorem ZhT(b:Nat)(l:List UInt8)(x:Bool)(s:AdS)(S:Nat→Prop)(w:World)(hl:l.length≤99000)(ha:s.at_≤l.length)(h:CRd b l x s S w):
 Calls Tryz.prog 91 #[.pointer (some ⟨b,0,none⟩)] w fun r w'=>r=.returned (.string ⟨(ZaR l s).1.toArray⟩)∧CRd b l x (ZaR l s).2 S w'∧Stp S w S w':=by
 have HN:=hid (fun w'=>Ziq l s.at_ false w' (by omega) ha);have HX:=hid (ZaI b l x s S [32,9] w (by omega) h);have HM:=hid (fun(p:Nat) (e:Int) w' (f:Fr nob w w')=>cm_moved b l x s S e p w' (h.on f));have HFA:=hid (fun w' (f:Fr nob w w')=>cm_fail b l x s S 2 s.at_ w' (h.on f));unfold ZaR;obtain⟨q,hq⟩:∃q,ZI l s [32,9]=q:=⟨_,rfl⟩;rw[hq]at HX⊢;obtain⟨mv,h⟩:=h;have rr:=Zd h.blk;obtain⟨p0,ms,e0⟩:=s;simp only at HN HFA rr⊢;obtain⟨NL,hNL⟩:∃NL,ZcI l p0 false=NL:=⟨_,rfl⟩;obtain⟨nt,nq,nz⟩:=NL;rw[hNL]at HN⊢;simp only at HN⊢;clear h hNL hq;cases q with
 |false=>
  rw[if_pos rfl];go_enter Tryz.func91,Tryz.ntmps91;go_wp2_with fail;refine HX.out.mono ?_;rintro z w1 ⟨rfl,f1⟩;go_wp2_with fail;refine(HFA.out _ f1).mono ?_;rintro z w2 ⟨rfl,h2,st2⟩;clear rr;go_wp2;go_ret;exact⟨rfl,h2,(Stp.of f1).trans st2⟩
 |true=>
  rw[if_neg (by simp)];go_enter Tryz.func91,Tryz.ntmps91;go_wp2_with fail;refine HX.out.mono ?_;rintro z w1 ⟨rfl,f1⟩;go_wp2_with fail;refine region_fr 15 (by kernel_rfl) (by kernel_rfl) ?_;simp only[List.take_succ_cons,List.take_zero,List.drop_succ_cons,List.drop_zero]
  repeat(quiet_step (with_reducible exact calls_fr (HN.out _)))
  refine wpQuiet_nil ?_;intro wC fC';have fC:=f1.trans' fC';clear f1 fC';go_wp2_with fail;refine(HM.out _ _ _ fC).mono ?_;rintro z w2 ⟨rfl,h2,st2⟩;clear rr;go_wp2;go_ret;exact⟨rfl,h2,(Stp.of fC).trans st2⟩
theorem Zck(b:Nat)(l:List UInt8)(d:UInt8)(x rx:Bool)(s:AdS)(S:Nat→Prop)(w:World)(hl:l.length≤99000)(ha:s.at_≤l.length)(h:CRd b l x s S w):
 Calls Tryz.prog 120 #[.pointer (some ⟨b,0,none⟩),.int .u8 (d.toNat:Int),.bool rx] w fun r w'=>r=.returned (.string ⟨(Zr l d rx s).1.toArray⟩)∧CRd b l x (Zr l d rx s).2 S w'∧Stp S w S w':=by
 have HN:=hid (fun w'=>Zg0 l s.at_ d rx w' (by omega) ha);have HX:=hid (cm_ok b l x s S w h);have HM:=hid (fun(p:Nat) (e:Int) w' (f:Fr nob w w')=>cm_moved b l x s S e p w' (h.on f));unfold Zr;have H:=hid h;obtain⟨mv,h⟩:=h;have rr:=Zd h.blk;obtain⟨p0,ms,e0⟩:=s;simp only at HN HX rr⊢;obtain⟨NL,hNL⟩:∃NL,bt l d rx (l.length+1) p0 []=NL:=⟨_,rfl⟩;obtain⟨nt,nq,nz⟩:=NL;rw[hNL]at HN⊢;simp only at HN⊢;clear h hNL;by_cases h0:e0=0
 ·subst h0;rw[if_neg (by simp)];go_enter Tryz.func120,Tryz.ntmps120;go_wp2_with fail;refine HX.out.mono ?_;rintro z w1 ⟨rfl,f1⟩;go_wp2_with fail;refine region_fr 17 (by kernel_rfl) (by kernel_rfl) ?_;simp only[List.take_succ_cons,List.take_zero,List.drop_succ_cons,List.drop_zero]
  repeat(quiet_step (with_reducible exact calls_fr (HN.out _)))
  refine wpQuiet_nil ?_;intro wC fC';have fC:=f1.trans' fC';clear f1 fC';go_wp2_with fail;refine(HM.out _ _ _ fC).mono ?_;rintro z w2 ⟨rfl,h2,st2⟩;clear rr;go_wp2;go_ret;exact⟨rfl,h2,(Stp.of fC).trans st2⟩
 ·rw[if_pos h0];have e1:(e0==0)=false:=by simpa using h0
  rw[e1]at HX;go_enter Tryz.func120,Tryz.ntmps120;go_wp2_with fail;refine HX.out.mono ?_;rintro z w1 ⟨rfl,f1⟩;clear rr;go_wp2;go_ret;exact⟨rfl,H.out.on f1,Stp.of f1⟩
theorem ZiF(b:Nat)(l:List UInt8)(x:Bool)(s:AdS)(S:Nat→Prop)(w:World)(hl:l.length≤99000)(ha:s.at_≤l.length)(h:CRd b l x s S w):
 Calls Tryz.prog 118 #[.pointer (some ⟨b,0,none⟩)] w fun r w'=>r=.returned (.int .u8 ((Zv l s).1.toNat:Int))∧CRd b l x (Zv l s).2 S w'∧Stp S w S w':=by
 have HO:=hid (Zbn b l x s S w (by omega) h);have HX:=hid (fun w' (f:Fr nob w w')=>ZaI b l x s S [92,10] w' (by omega) (h.on f));have HFA:=hid (fun(e:Int) (p:Nat) w' (f:Fr nob w w')=>cm_fail b l x s S e p w' (h.on f));unfold Zv;obtain⟨q,hq⟩:∃q,ZI l s [92,10]=q:=⟨_,rfl⟩;rw[hq]at HX⊢;obtain⟨mv,h⟩:=h;have rr:=Zd h.blk;obtain⟨p0,ms,e0⟩:=s;have H:=hid h;simp only at HO HX HFA ha rr⊢;clear h hq;by_cases hin:l.length≤p0
 ·rw[if_pos hin];have hd:decide (l.length≤p0)=true:=by simpa using hin
  rw[hd]at HO;go_enter Tryz.func118,Tryz.ntmps118;go_wp2_with fail;refine HO.out.mono ?_;rintro z w1 ⟨rfl,f1⟩;go_wp2_with fail;refine(HFA.out 5 l.length _ f1).mono ?_;rintro z w2 ⟨rfl,h2,st2⟩;clear rr;go_wp2;go_ret;exact⟨rfl,h2,(Stp.of f1).trans st2⟩
 ·rw[if_neg hin];have hd:decide (l.length≤p0)=false:=by simpa using hin
  rw[hd]at HO;have hlt:p0<l.length:=by omega
  clear hin hd;cases q with
  |true=>
   rw[if_pos rfl];go_enter Tryz.func118,Tryz.ntmps118;go_wp2_with fail;refine HO.out.mono ?_;rintro z w1 ⟨rfl,f1⟩;go_wp2_with fail;refine(HX.out _ f1).mono ?_;rintro z w2 ⟨rfl,f2'⟩;have f2:=f1.trans' f2';clear f1 f2';go_wp2_with fail;refine(HFA.out 2 p0 _ f2).mono ?_;rintro z w3 ⟨rfl,h2,st2⟩;clear rr;go_wp2;go_ret;exact⟨rfl,h2,(Stp.of f2).trans st2⟩
  |false=>
   rw[if_neg (by simp),ZkQ hlt];go_enter Tryz.func118,Tryz.ntmps118;go_wp2_with fail;refine HO.out.mono ?_;rintro z w1 ⟨rfl,f1⟩;go_wp2_with fail;refine(HX.out _ f1).mono ?_;rintro z w2 ⟨rfl,f2'⟩;have f2:=f1.trans' f2';clear f1 f2' rr;have h2:=H.out.on f2;have r2:=Zd h2.blk _ (Fr.refl _ _);have h3:=h2.turned 1 (.int .i64 ((p0:Int)+1)) ⟨p0+1,ms,e0⟩ (by simp) rfl;have st3:=(Stp.of f2).trans (h2.stp 1 (.int .i64 ((p0:Int)+1)));obtain⟨w3,hw3⟩:∃w3,w3=w2.setCell ⟨b,1,none⟩ (.int .i64 ((p0:Int)+1)):=⟨_,rfl⟩;rw[←hw3]at h3 st3;have rr:=Zd h3.blk;simp only at rr;rw[show((p0+1:Nat):Int)=(p0:Int)+1 by omega]at rr;have H3:=hid h3;have ST3:=hid st3;have HW3:=hid hw3;clear h2 h3 st3 hw3 f2;go_wp2_with(rw[←HW3.out]);clear r2;refine region_fr 9 (by kernel_rfl) (by kernel_rfl) ?_;simp only[List.take_succ_cons,List.take_zero,List.drop_succ_cons,List.drop_zero]
   repeat(quiet_step (fail))
   refine wpQuiet_nil ?_;intro wC fC;go_wp2;go_ret;exact⟨rfl,⟨mv,H3.out.on fC⟩,ST3.out.trans (Stp.of fC)⟩
theorem ZgI{l:List UInt8}{p:Nat}(hl:l.length≤99000)(ha:p≤l.length)(w:World):Calls Tryz.prog 94 #[.string ⟨l.toArray⟩,.int .i64 (p:Nat)] w fun e w'=>e=.returned (.int .i64 (bhd l [32,9] p:Nat))∧Fr nob w w':=by
 have:=ZeK l (p:Int) w (by omega);rw[if_neg (by omega),Int.toNat_natCast]at this;exact this
theorem Zop{l:List UInt8}{s:AdS}{q:Nat}(hq:bhd l [32,9] s.at_=q):Zjq l s=if decide (l.length≤q)=true then s.to q else if ZI l (s.to q) [59,10,35]=true then s.to q else if ZI l (s.to q) [125]=true then Zan (s.to q) q [125]else failC (s.to q) 17 q:=by
 subst hq;unfold Zjq;simp only;generalize hq:bhd l [32,9] s.at_=q;have e:(s.to q).at_=q:=rfl;rw[e];by_cases h1:l.length≤q
 ·rw[if_pos (.inl h1),if_pos (by simpa using h1)]
 ·rw[if_neg (c:=decide (l.length≤q)=true) (by simpa using h1)];by_cases h2:ZI l (s.to q) [59,10,35]=true
  ·rw[if_pos (.inr h2),if_pos h2]
  ·rw[if_neg (by rintro(h|h);exact h1 h;exact h2 h),if_neg h2]
theorem cm_end(b:Nat)(l:List UInt8)(x:Bool)(s:AdS)(S:Nat→Prop)(w:World)(hl:l.length≤99000)(ha:s.at_≤l.length)(hm:s.marks.length≤1000000)(h:CRd b l x s S w):
 Calls Tryz.prog 59 #[.pointer (some ⟨b,0,none⟩)] w fun r w'=>r=.returned (.tuple #[])∧ZqC b l x S w (Zjq l s) w':=by
 have HB:=hid (fun w'=>ZgI (l:=l) (p:=s.at_) hl ha w');obtain⟨q,hq⟩:∃q,bhd l [32,9] s.at_=q:=⟨_,rfl⟩;rw[Zop hq];rw[hq]at HB;obtain⟨p0,ms,e0⟩:=s;obtain⟨mv,h⟩:=h;have rr:=Zd h.blk;simp only[AdS.to]at HB ha rr hm⊢;have H:=hid h;clear h hq;obtain⟨c1,hc1⟩:∃c1,decide (l.length≤q)=c1:=⟨_,rfl⟩;obtain⟨c2,hc2⟩:∃c2,ZI l ⟨q,ms,e0⟩ [59,10,35]=c2:=⟨_,rfl⟩;obtain⟨c3,hc3⟩:∃c3,ZI l ⟨q,ms,e0⟩ [125]=c3:=⟨_,rfl⟩;have HO:=hid (fun w' h=>by have:=Zbn b l x ⟨q,ms,e0⟩ S w' (by omega) h;simp only at this;rw[hc1]at this;exact this);have HX:=hid (fun w' h=>by have:=ZaI b l x ⟨q,ms,e0⟩ S [59,10,35] w' (by omega) h;rw[hc2]at this;exact this);have HY:=hid (fun w' h=>by have:=ZaI b l x ⟨q,ms,e0⟩ S [125] w' (by omega) h;rw[hc3]at this;exact this);simp only[hc1,hc2,hc3];clear hc1 hc2 hc3;go_enter Tryz.func59,Tryz.ntmps59;go_wp2_with fail;refine region_fr 10 (by kernel_rfl) (by kernel_rfl) ?_
 simp only[List.take_succ_cons,List.take_zero,List.drop_succ_cons,List.drop_zero]
 repeat(quiet_step (with_reducible exact calls_fr (HB.out _)))
 refine wpQuiet_nil ?_;intro wC fC;clear rr;have h2:=H.out.on fC;have r2:=Zd h2.blk _ (Fr.refl _ _);have h3:=h2.turned 1 (.int .i64 (q:Nat)) ⟨q,ms,e0⟩ (by simp) rfl;have st3:=(Stp.of fC).trans (h2.stp 1 (.int .i64 (q:Nat)));obtain⟨w3,hw3⟩:∃w3,w3=wC.setCell ⟨b,1,none⟩ (.int .i64 (q:Nat)):=⟨_,rfl⟩;rw[←hw3]at h3 st3;have rr:=Zd h3.blk;have H3:=hid (show CRd b l x ⟨q,ms,e0⟩ S w3 from⟨mv,h3⟩);have ST3:=hid st3;have HW3:=hid hw3;clear h2 h3 st3 hw3 fC;go_wp2_with(rw[←HW3.out]);clear r2;refine(HO.out _ H3.out).mono ?_;rintro z w4 ⟨rfl,f4⟩;cases c1 with
 |true=>
  clear rr;go_wp2
  go_end0
  exact⟨rfl,S,H3.out.on f4,ST3.out.trans (Stp.of f4)⟩
 |false=>
  go_wp2_with fail;refine(HX.out _ (H3.out.on f4)).mono ?_;rintro z w5 ⟨rfl,f5'⟩;have f5:=f4.trans' f5';clear f4 f5';cases c2 with
  |true=>
   clear rr;go_wp2
   go_end0
   exact⟨rfl,S,H3.out.on f5,ST3.out.trans (Stp.of f5)⟩
  |false=>
   go_wp2_with fail;refine(HY.out _ (H3.out.on f5)).mono ?_;rintro z w6 ⟨rfl,f6'⟩;have f6:=f5.trans' f6';clear f5 f6';cases c3 with
   |true=>
    go_wp2_with fail;refine(cm_mark b l x ⟨q,ms,e0⟩ S q [125] w6 hm (H3.out.on f6)).mono ?_;rintro z w7 ⟨rfl,S',h7,st7⟩;clear rr;go_wp2
    go_end0
    exact⟨rfl,S',h7,ST3.out.trans ((Stp.of f6).trans st7)⟩
   |false=>
    go_wp2_with fail;refine(cm_fail b l x ⟨q,ms,e0⟩ S 17 q w6 (H3.out.on f6)).mono ?_;rintro z w7 ⟨rfl,h7,st7⟩;clear rr;go_wp2
    go_end0
    exact⟨rfl,S,h7,ST3.out.trans ((Stp.of f6).trans st7)⟩
theorem Zfq(b:Nat)(l:List UInt8)(x:Bool)(g:Nat)(s:AdS)(S:Nat→Prop)(w:World)(hl:l.length≤99000)(ha:s.at_≤l.length)(hm:s.marks.length≤1000000)(h:CRd b l x s S w):
 Calls Tryz.prog 90 #[.pointer (some ⟨b,0,none⟩),.int .i64 (g:Nat)] w fun r w'=>r=.returned (.string ⟨(Zah l g s).1.toArray⟩)∧ZqC b l x S w (Zah l g s).2 w':=by
 have HB:=hid (fun w'=>ZgI (l:=l) (p:=s.at_) hl ha w');have hbl:=(bhd_in (l:=l) [32,9] ha).2;unfold Zah;simp only;obtain⟨p0,ms,e0⟩:=s;obtain⟨mv,h⟩:=h;have rr:=Zd h.blk;simp only[AdS.to]at HB ha rr hm hbl⊢;obtain⟨q,hq⟩:∃q,bhd l [32,9] p0=q:=⟨_,rfl⟩;rw[hq]at HB hbl⊢;have H:=hid h;clear h hq;have HFA:=hid (fun(e:Int) w' h=>cm_fail b l x ⟨q,ms,e0⟩ S e q w' h);have HLN:=hid (fun(k:Nat) w' hk=>ZjU l k w' (by omega) hk);obtain⟨c2,hc2⟩:∃c2,ZI l ⟨q,ms,e0⟩ [10]=c2:=⟨_,rfl⟩;obtain⟨c3,hc3⟩:∃c3,[92,10].isPrefixOf (l.drop q)=c3:=⟨_,rfl⟩;have HX:=hid (fun w' h=>by have:=ZaI b l x ⟨q,ms,e0⟩ S [10] w' (by omega) h;rw[hc2]at this;exact this);have HP:=hid (fun w'=>by have:=ZL (l.drop q) [92,10] w' (by rw[List.length_drop];omega) (by decide);rw[hc3]at this;exact this);have HC3:=hid (fun(e:c3=true)=>show q+2≤l.length from by
  rw[e]at hc3;have h2:=(List.isPrefixOf_iff_prefix.1 hc3).length_le;simp only[List.length_drop,List.length_cons,List.length_nil]at h2;omega)
 simp only[hc2,hc3];clear hc2 hc3;by_cases hin:l.length≤q
 ·rw[if_pos hin];have HO:=hid (fun w' h=>by have:=Zbn b l x ⟨q,ms,e0⟩ S w' (by omega) h;simp only[show decide (l.length≤q)=true by simpa using hin]at this;exact this);go_enter Tryz.func90,Tryz.ntmps90;go_wp2_with fail;refine region_fr 10 (by kernel_rfl) (by kernel_rfl) ?_;simp only[List.take_succ_cons,List.take_zero,List.drop_succ_cons,List.drop_zero]
  repeat(quiet_step (with_reducible exact calls_fr (HB.out _)))
  refine wpQuiet_nil ?_;intro wC fC;clear rr;have h2:=H.out.on fC;have r2:=Zd h2.blk _ (Fr.refl _ _);have h3:=h2.turned 1 (.int .i64 (q:Nat)) ⟨q,ms,e0⟩ (by simp) rfl;have st3:=(Stp.of fC).trans (h2.stp 1 (.int .i64 (q:Nat)));obtain⟨w3,hw3⟩:∃w3,w3=wC.setCell ⟨b,1,none⟩ (.int .i64 (q:Nat)):=⟨_,rfl⟩;rw[←hw3]at h3 st3;have rr:=Zd h3.blk;have H3:=hid (show CRd b l x ⟨q,ms,e0⟩ S w3 from⟨mv,h3⟩);have H3':=hid h3;have ST3:=hid st3;have HW3:=hid hw3;clear h2 h3 st3 hw3 fC;go_wp2_with(rw[←HW3.out]);clear r2;refine(HO.out _ H3.out).mono ?_;rintro z w4 ⟨rfl,f4⟩;go_wp2_with fail;refine(HFA.out 11 _ (H3.out.on f4)).mono ?_;rintro z w5 ⟨rfl,h5,st5⟩;clear rr;go_wp2;go_ret;exact⟨rfl,S,h5,ST3.out.trans ((Stp.of f4).trans st5)⟩
 ·rw[if_neg hin];have HO:=hid (fun w' h=>by have:=Zbn b l x ⟨q,ms,e0⟩ S w' (by omega) h;simp only[show decide (l.length≤q)=false by simpa using hin]at this;exact this);cases c2 with
  |true=>
   rw[if_pos rfl];go_enter Tryz.func90,Tryz.ntmps90;go_wp2_with fail;refine region_fr 10 (by kernel_rfl) (by kernel_rfl) ?_;simp only[List.take_succ_cons,List.take_zero,List.drop_succ_cons,List.drop_zero]
   repeat(quiet_step (with_reducible exact calls_fr (HB.out _)))
   refine wpQuiet_nil ?_;intro wC fC;clear rr;have h2:=H.out.on fC;have r2:=Zd h2.blk _ (Fr.refl _ _);have h3:=h2.turned 1 (.int .i64 (q:Nat)) ⟨q,ms,e0⟩ (by simp) rfl;have st3:=(Stp.of fC).trans (h2.stp 1 (.int .i64 (q:Nat)));obtain⟨w3,hw3⟩:∃w3,w3=wC.setCell ⟨b,1,none⟩ (.int .i64 (q:Nat)):=⟨_,rfl⟩;rw[←hw3]at h3 st3;have rr:=Zd h3.blk;have H3:=hid (show CRd b l x ⟨q,ms,e0⟩ S w3 from⟨mv,h3⟩);have H3':=hid h3;have ST3:=hid st3;have HW3:=hid hw3;clear h2 h3 st3 hw3 fC;go_wp2_with(rw[←HW3.out]);clear r2;refine(HO.out _ H3.out).mono ?_;rintro z w4 ⟨rfl,f4⟩;go_wp2_with fail;refine(HX.out _ (H3.out.on f4)).mono ?_;rintro z w5 ⟨rfl,f5'⟩;have f5:=f4.trans' f5';clear f4 f5';go_wp2_with fail;refine(HFA.out 5 _ (H3.out.on f5)).mono ?_;rintro z w6 ⟨rfl,h6,st6⟩;clear rr;go_wp2;go_ret;exact⟨rfl,S,h6,ST3.out.trans ((Stp.of f5).trans st6)⟩
  |false=>
   rw[if_neg (by simp)];have hlt:q<l.length:=by omega
   have hle:(q:Int)≤l.length:=by omega
   cases c3 with
   |true=>
    have hq2:=HC3.out rfl;simp only[if_true];have HLN2:=fun w'=>HLN.out (q+2) w' hq2;rw[show((q+2:Nat):Int)=(q:Int)+2 by omega]at HLN2;have HL2:=hid HLN2;obtain⟨NL,hNL⟩:∃NL,ln l (l.length+1) (q+2) []=NL:=⟨_,rfl⟩;obtain⟨nt,nq,nz⟩:=NL;rw[hNL]at HL2⊢;simp only at HL2⊢;clear HLN2 hNL;go_enter Tryz.func90,Tryz.ntmps90;go_wp2_with fail;refine region_fr 10 (by kernel_rfl) (by kernel_rfl) ?_;simp only[List.take_succ_cons,List.take_zero,List.drop_succ_cons,List.drop_zero]
    repeat(quiet_step (with_reducible exact calls_fr (HB.out _)))
    refine wpQuiet_nil ?_;intro wC fC;clear rr;have h2:=H.out.on fC;have r2:=Zd h2.blk _ (Fr.refl _ _);have h3:=h2.turned 1 (.int .i64 (q:Nat)) ⟨q,ms,e0⟩ (by simp) rfl;have st3:=(Stp.of fC).trans (h2.stp 1 (.int .i64 (q:Nat)));obtain⟨w3,hw3⟩:∃w3,w3=wC.setCell ⟨b,1,none⟩ (.int .i64 (q:Nat)):=⟨_,rfl⟩;rw[←hw3]at h3 st3;have rr:=Zd h3.blk;have H3:=hid (show CRd b l x ⟨q,ms,e0⟩ S w3 from⟨mv,h3⟩);have H3':=hid h3;have ST3:=hid st3;have HW3:=hid hw3;clear h2 h3 st3 hw3 fC;go_wp2_with(rw[←HW3.out]);clear r2;refine(HO.out _ H3.out).mono ?_;rintro z w4 ⟨rfl,f4⟩;go_wp2_with fail;refine(HX.out _ (H3.out.on f4)).mono ?_;rintro z w5 ⟨rfl,f5'⟩;have f5:=f4.trans' f5';clear f4 f5';go_wp2_with fail;refine region_fr 8 (by kernel_rfl) (by kernel_rfl) ?_;simp only[List.take_succ_cons,List.take_zero,List.drop_succ_cons,List.drop_zero]
    repeat(quiet_step (fail))
    refine wpQuiet_nil ?_;intro wD fD';have fD:=f5.trans' fD';clear f5 fD';go_wp2_with(refine(HP.out _).mono ?_;rintro z wE ⟨rfl,rfl⟩);have h6:=H3'.out.on fD;have r6:=Zd h6.blk _ (Fr.refl _ _);have h7:=h6.turned 1 (.int .i64 ((q:Int)+2)) ⟨q+2,ms,e0⟩ (by simp) rfl;have st7:=ST3.out.trans ((Stp.of fD).trans (h6.stp 1 (.int .i64 ((q:Int)+2))));obtain⟨w7,hw7⟩:∃w7,w7=wD.setCell ⟨b,1,none⟩ (.int .i64 ((q:Int)+2)):=⟨_,rfl⟩;rw[←hw7]at h7 st7;have r7:=Zd h7.blk;simp only at r7;rw[show((q+2:Nat):Int)=(q:Int)+2 by omega]at r7;have H7:=hid (show CRd b l x ⟨q+2,ms,e0⟩ S w7 from⟨mv,h7⟩);have ST7:=hid st7;have HW7:=hid hw7;clear h6 h7 st7 hw7 fD rr;go_wp2_with(rw[←HW7.out]);clear r6;refine region_fr 15 (by kernel_rfl) (by kernel_rfl) ?_;simp only[List.take_succ_cons,List.take_zero,List.drop_succ_cons,List.drop_zero]
    repeat(quiet_step (with_reducible exact calls_fr (HL2.out _)))
    refine wpQuiet_nil ?_;intro wC fC;go_wp2_with fail;refine(cm_moved b l x ⟨q+2,ms,e0⟩ S nz nq wC (H7.out.on fC)).mono ?_;rintro z w8 ⟨rfl,h8,st8⟩;clear r7;go_wp2;go_ret;exact⟨rfl,S,h8,ST7.out.trans ((Stp.of fC).trans st8)⟩
   |false=>
    simp only[Bool.false_eq_true,if_false,Zan];have HL2:=hid (fun w'=>HLN.out q w' (by omega));obtain⟨NL,hNL⟩:∃NL,ln l (l.length+1) q []=NL:=⟨_,rfl⟩;obtain⟨nt,nq,nz⟩:=NL;rw[hNL]at HL2⊢;simp only at HL2⊢;clear hNL;go_enter Tryz.func90,Tryz.ntmps90;go_wp2_with fail;refine region_fr 10 (by kernel_rfl) (by kernel_rfl) ?_;simp only[List.take_succ_cons,List.take_zero,List.drop_succ_cons,List.drop_zero]
    repeat(quiet_step (with_reducible exact calls_fr (HB.out _)))
    refine wpQuiet_nil ?_;intro wC fC;clear rr;have h2:=H.out.on fC;have r2:=Zd h2.blk _ (Fr.refl _ _);have h3:=h2.turned 1 (.int .i64 (q:Nat)) ⟨q,ms,e0⟩ (by simp) rfl;have st3:=(Stp.of fC).trans (h2.stp 1 (.int .i64 (q:Nat)));obtain⟨w3,hw3⟩:∃w3,w3=wC.setCell ⟨b,1,none⟩ (.int .i64 (q:Nat)):=⟨_,rfl⟩;rw[←hw3]at h3 st3;have rr:=Zd h3.blk;have H3:=hid (show CRd b l x ⟨q,ms,e0⟩ S w3 from⟨mv,h3⟩);have H3':=hid h3;have ST3:=hid st3;have HW3:=hid hw3;clear h2 h3 st3 hw3 fC;go_wp2_with(rw[←HW3.out]);clear r2;refine(HO.out _ H3.out).mono ?_;rintro z w4 ⟨rfl,f4⟩;go_wp2_with fail;refine(HX.out _ (H3.out.on f4)).mono ?_;rintro z w5 ⟨rfl,f5'⟩;have f5:=f4.trans' f5';clear f4 f5';go_wp2_with fail;refine region_fr 8 (by kernel_rfl) (by kernel_rfl) ?_;simp only[List.take_succ_cons,List.take_zero,List.drop_succ_cons,List.drop_zero]
    repeat(quiet_step (fail))
    refine wpQuiet_nil ?_;intro wD fD';have fD:=f5.trans' fD';clear f5 fD';go_wp2_with(refine(HP.out _).mono ?_;rintro z wE ⟨rfl,rfl⟩);go_wp2_with fail;refine(cm_mark b l x ⟨q,ms,e0⟩ S g [116,101,120,116] wD hm (H3.out.on fD)).mono ?_;rintro z w7 ⟨rfl,S',⟨mv7,h7⟩,st7⟩;have r7:=Zd h7.blk;simp only[Zan]at r7;have H7:=hid (show CRd b l x ⟨q,ms++[(g,[116,101,120,116])],e0⟩ S' w7 from⟨mv7,h7⟩);have ST7:=hid (ST3.out.trans ((Stp.of fD).trans st7));clear h7 st7 fD rr;go_wp2_with fail;refine region_fr 15 (by kernel_rfl) (by kernel_rfl) ?_;simp only[List.take_succ_cons,List.take_zero,List.drop_succ_cons,List.drop_zero]
    repeat(quiet_step (with_reducible exact calls_fr (HL2.out _)))
    refine wpQuiet_nil ?_;intro wC fC;go_wp2_with fail;refine(cm_moved b l x ⟨q,ms++[(g,[116,101,120,116])],e0⟩ S' nz nq wC (H7.out.on fC)).mono ?_;rintro z w8 ⟨rfl,h8,st8⟩;clear r7;go_wp2;go_ret;exact⟨rfl,S',h8,ST7.out.trans ((Stp.of fC).trans st8)⟩
def pC(l:List Prt):List Value:=l.flatMap fun m=>[.int .i64 m.1,.string ⟨m.2.toArray⟩]
theorem Zcd(l:List Prt):(pC l).length=2*l.length:=by
 induction l with
 |nil=>rfl
 |cons m r ih=>
  have e:pC (m::r)=.int .i64 m.1:: .string ⟨m.2.toArray⟩::pC r:=rfl;rw[e,List.length_cons,List.length_cons,ih,List.length_cons];omega
theorem ZcY(l:List Prt)(k:Int)(t:List UInt8):pC (l++[(k,t)])=pC l++[.int .i64 k,.string ⟨t.toArray⟩]:=by simp[pC]
theorem ZiG{k:Int}{t:List UInt8}:∀u∈([.int .i64 k,.string ⟨t.toArray⟩]:List Value),u.oneCell'=true:=by
 intro u hu;simp only[List.mem_cons,List.not_mem_nil,or_false]at hu;rcases hu with rfl|rfl<;>rfl
theorem pC_news{w:World}{g:Nat}{k:Int}{t:List UInt8}{T:TypeId}{fr:Nat×Nat}(h:w.heap[g]? =some (.cells #[.int .i64 k,.string ⟨t.toArray⟩] T fr)):
 ∀j u,([.int .i64 k,.string ⟨t.toArray⟩]:List Value)[j]? =some u→w.cell? ((⟨g,0,none⟩:Addr).add j)=some u:=by
 intro j u hj
 match j,hj with
 |0,hj=>simp at hj;subst hj;exact cell_at h rfl
 |1,hj=>simp at hj;subst hj;exact cell_at (j:=1) h rfl
theorem ZgJ:(Tryz.prog.info? 43).map (fun i=>(i.zero,i.size,i.bytes))=some (some (.agg #[.int .i64 0,.string ByteArray.empty]),2,24):=by kernel_rfl
def OwP(w:World)(l:List Prt)(v:Value):Prop:=w.ownsRow 0 43 2 v l.length (pC l)
def Bdr(B b:Nat)(l:List Prt)(w:World):Prop:=∃v,w.heap[b]? =some (.cells #[v] 238 (0,0))∧OwP w l v∧B≤b∧∀k,v.ownBlock=some k→k≠b∧B≤k
def Abv(B:Nat):Nat→Prop:=fun k=>B≤k
theorem ZhU{w:World}{base g cap n size j:Nat}{e:TypeId}{xs:List Value}(h:w.ownsRow base e size (.slice (some ⟨g,0,none⟩) n cap) n xs)(u:Value)(hj:j<xs.length):(w.setCell ⟨g,j,none⟩ u).ownsRow base e size (.slice (some ⟨g,0,none⟩) n cap) n (xs.set j u):=by
 refine⟨by rw[List.length_set];exact h.1,.inr ?_⟩;rcases h.2 with⟨e1,hn⟩|⟨g',cap',cur,e1,hb,hg,hnc,hcm,hcs,htake⟩
 ·cases e1
 ·injection e1 with e1 e2 e3;injection e1 with e1;injection e1 with e1;subst e1;subst e3;refine⟨g,cap,cur.setIfInBounds j u,rfl,hb,Za hg j u,hnc,hcm,by simpa using hcs,?_⟩;rw[Array.toList_setIfInBounds,List.take_set,htake]
theorem Fr.weak{S T:Nat→Prop}{w w':World}(h:Fr S w w')(hs:∀k,S k→T k):Fr T w w':=h.mono fun k _ x=>hs k x
section
variable {B b:Nat} {l:List Prt} {w W0 w3:World} {v v':Value}
theorem Zfr(hb:w.heap[b]? =some (.cells #[v] 238 (0,0)))(hB:B≤b)(hBw:B≤w.heap.size)(hn:∀k,v.ownBlock=some k→k≠b∧B≤k)(f:Fr nob w W0)(hap:Appd 1 v v' W0 w3){k:Int}{t:List UInt8}
 (hown:w3.ownsRow 0 43 2 v' (l.length+1) (pC l++[.int .i64 k,.string ⟨t.toArray⟩])):
 (w3.cell? ⟨b,0,none⟩=some v∧w3.frozen? ⟨b,0,none⟩=false)∧Bdr B b (l++[(k,t)]) (w3.setCell ⟨b,0,none⟩ v')∧Fr (Abv B) w (w3.setCell ⟨b,0,none⟩ v'):=by
 have h0:=f.heap hb (fun x=>x);have hblk:=hap.fr.heap h0 (fun e=>(hn b e).1 rfl);have hlt:=lt_heap hb;have hsz:=f.size;have hst:=(Fr.refl (fun k=>k=b) w3).setCell (p:=⟨b,0,none⟩) (fun _=>rfl) v';have hnb:∀k,v'.ownBlock=some k→k≠b∧B≤k:=fun k hk=>by
  rcases hap.old k hk with h1|h1
  ·exact hn k h1
  ·omega
 refine⟨⟨cell_at hblk rfl,unfrozen_at hblk 0⟩,⟨v',by have:=Za hblk 0 v';simpa using this,?_,hB,hnb⟩,?_⟩
 ·have:=ownsRow_fr hown hst (fun k hk e=>(hnb k hk).1 e);unfold OwP;simp only[List.length_append,List.length_singleton,ZcY];exact this
 ·exact(f.any.trans (hap.fr.mono (T:=Abv B) fun k _ hk=>(hn k hk).2) (fun _ _ x=>x)).setCell (p:=⟨b,0,none⟩) (fun _=>hB) v'
end
theorem ZgK(t:List UInt8):pushT [] t=[(-1,t)]:=rfl
theorem ZeO(q:List Prt)(a t:List UInt8):pushT (q++[(-1,a)]) t=q++[(-1,a++t)]:=by
 unfold pushT;rw[List.getLast?_concat];simp only[if_true,List.dropLast_concat]
theorem Zej(q:List Prt)(k:Int)(a t:List UInt8)(hk:k≠ -1):pushT (q++[(k,a)]) t=q++[(k,a)]++[(-1,t)]:=by
 unfold pushT;rw[List.getLast?_concat];simp only[if_neg hk]
theorem Zoq(q:List Prt)(k:Int)(a:List UInt8):(pC (q++[(k,a)]))[q.length*2]? =some (.int .i64 k)∧(pC (q++[(k,a)]))[q.length*2+1]? =some (.string ⟨a.toArray⟩):=by
 rw[ZcY];have:=Zcd q;constructor
 ·rw[List.getElem?_append_right (by omega),show q.length*2-(pC q).length=0 by omega];rfl
 ·rw[List.getElem?_append_right (by omega),show q.length*2+1-(pC q).length=1 by omega];rfl
theorem ZeP{α:Type}(a:List α)(k j:Nat)(h:k=a.length+j)(b:List α)(x:α):(a++b).set k x=a++b.set j x:=by
 subst h;induction a with
 |nil=>simp
 |cons y a ih=>rw[List.cons_append,List.length_cons,show a.length+1+j=(a.length+j)+1 by omega,List.set_cons_succ,ih,List.cons_append]
theorem Zjt(q:List Prt)(k:Int)(a t:List UInt8):(pC (q++[(k,a)])).set (q.length*2+1) (.string ⟨t.toArray⟩)=pC (q++[(k,t)]):=by
 rw[ZcY,ZcY,ZeP (pC q) _ 1 (by rw[Zcd];omega)];rfl
theorem bd_text(B b:Nat)(l:List Prt)(t:List UInt8)(w:World)(hl:l.length≤100000)(ht:t.length≤100000)(hlt:∀p∈l,p.2.length≤100000)(hBw:B≤w.heap.size)(h:Bdr B b l w):
 Calls Tryz.prog 155 #[.pointer (some ⟨b,0,none⟩),.string ⟨t.toArray⟩] w fun r w'=>r=.returned (.tuple #[])∧Bdr B b (pushT l t) w'∧Fr (Abv B) w w':=by
 obtain⟨v,hb,ho,hB,hn⟩:=h;obtain⟨av,cv,rfl⟩:=Zb ho;obtain⟨i0,hi,hz0,hz1,hz2⟩:=info_parts ZgJ;have HB:=hid hb;have HO:=hid ho;have HN:=hid hn;have rb:=Zay (cell_at (j:=0) hb rfl);rcases(by rcases List.eq_nil_or_concat l with h|⟨q,p,h⟩;exact .inl h;exact .inr ⟨q,p.1,p.2,by rw[h,List.concat_eq_append]⟩:l=[]∨∃(q:List Prt) (k:Int) (a:List UInt8),l=q++[(k,a)])with rfl|⟨q,k,a,rfl⟩
 ·rw[ZgK];clear hb ho hn;go_enter Tryz.func155,Tryz.ntmps155;go_wp2_with(at_builtin;refine wpList_append_g rfl _ _ 238 rfl 43 i0 (.agg #[.int .i64 0,.string ByteArray.empty]) 2 24 Tryz.underlying238 hi hz0 hz1 hz2 rfl (by decide) _ _ _ rfl (ownsRow_fr HO.out ((Fr.refl nob w).alloc _) (fun _ _ x=>x)) ⟨w.heap.size,0,none⟩ 1 1 [.int .i64 (-1),.string ⟨t.toArray⟩] rfl rfl ?c1 ?c2 ?c3 ?c4 ?_)
  case c1=>exact pC_news (newAt0 w _)
  case c2=>exact ZiG
  case c3=>unfold maxLen;show 0+1≤_;omega
  case c4=>show(0+1)*24≤_;omega
  intro v' w4 hown' hap;obtain⟨av',cv',rfl⟩:=Zb hown';obtain⟨⟨pc,pf⟩,h5,f5⟩:=Zfr (l:=[]) HB.out hB hBw HN.out ((Fr.refl nob w).alloc _) hap (k:= -1) (t:=t) hown';have H5:=hid h5;have F5:=hid f5;clear hown' hap h5 f5 rb;go_wp2
  go_end0
  exact⟨rfl,H5.out,F5.out⟩
 ·have hkl:(q++[(k,a)]).length=q.length+1:=by simp
  have hql:q.length≤100000:=by rw[hkl]at hl;omega
  have hal:a.length≤100000:=hlt (k,a) (by simp);obtain⟨g,cap,hs,hgl,hc0,hc1⟩:∃g cap,Value.slice av (q++[(k,a)]).length cv=.slice (some ⟨g,0,none⟩) (q.length+1) cap∧g<w.heap.size∧w.cell? ⟨g,q.length*2,none⟩=some (.int .i64 k)∧w.cell? ⟨g,q.length*2+1,none⟩=some (.string ⟨a.toArray⟩):=by
   have hp:=Zoq q k a;have hpl:=Zcd (q++[(k,a)]);rcases ho.2 with⟨e,hn⟩|⟨r,cap,cur,e,_,hr,_⟩
   ·rw[hkl]at hn;omega
   ·have h2:=ho;injection e with e1 e2 e3;subst e1;subst e3;refine⟨r,cv,by rw[hkl],lt_heap hr,(World.ownsRow.cellAt ho (q.length*2) (by first|(rw[hpl,hkl];omega)|(rw[hkl];omega))).trans hp.1,(World.ownsRow.cellAt ho (q.length*2+1) (by first|(rw[hpl,hkl];omega)|(rw[hkl];omega))).trans hp.2⟩
  rw[hkl]at hs HB HN rb;injection hs with hs1 hs2 hs3;subst hs1;subst hs3;by_cases hk:k= -1
  ·subst hk;rw[ZeO];have hset:=ZhU (j:=q.length*2+1) (by rw[hkl]at ho;unfold OwP at ho;rw[hkl]at ho;exact ho) (.string ⟨(a++t).toArray⟩) (by rw[Zcd,hkl];omega);rw[Zjt]at hset;have HSET:=hid hset;have hfro:w.frozen? ⟨g,q.length*2+1,none⟩=false:=by
    rcases ho.2 with⟨e,hn⟩|⟨r,cap,cur,e,_,hr,_⟩
    ·rw[hkl]at hn;omega
    ·injection e with e1 e2 e3;injection e1 with e1;injection e1 with e1;subst e1;exact unfrozen_at hr _
   clear hb ho hn hset hlt;go_enter Tryz.func155,Tryz.ntmps155;have hgb:=HN.out g rfl;have hfin:Bdr B b (q++[(-1,a++t)]) (w.setCell ⟨g,q.length*2+1,none⟩ (.string ⟨(a++t).toArray⟩)):=by
    refine⟨_,Zc (p:=⟨g,q.length*2+1,none⟩) HB.out (fun e=>hgb.1 e.symm) _,?_,hB,HN.out⟩;have h:=HSET.out;unfold OwP;rw[show(q++[((-1:Int),a++t)]).length=q.length+1 by simp];exact h
   have hfr:Fr (Abv B) w (w.setCell ⟨g,q.length*2+1,none⟩ (.string ⟨(a++t).toArray⟩)):=(Fr.refl _ w).setCell (p:=⟨g,q.length*2+1,none⟩) (fun _=>hgb.2) _;have H5:=hid hfin;have F5:=hid hfr;clear hgb hfin hfr hkl;go_wp2;refine bodyPost_ret (v:=.tuple #[]) (by simp[results,Tryz.results155,go_sem]) rfl ?_;exact⟨rfl,H5.out,F5.out⟩
  ·have hk1:(k== -1)=false:=by simpa using hk
   rw[Zej q k a t hk];have HO2:=hid (show w.ownsRow 0 43 2 (.slice (some ⟨g,0,none⟩) (q.length+1) cv) (q.length+1) (pC (q++[(k,a)])) by unfold OwP at ho;rw[hkl]at ho;exact ho);clear hb ho hn;go_enter Tryz.func155,Tryz.ntmps155;go_wp2_with(at_builtin;refine wpList_append_g rfl _ _ 238 rfl 43 i0 (.agg #[.int .i64 0,.string ByteArray.empty]) 2 24 Tryz.underlying238 hi hz0 hz1 hz2 rfl (by decide) _ _ _ rfl (ownsRow_fr (show w.ownsRow 0 43 2 _ (q.length+1) (pC (q++[(k,a)]))from HO2.out) ((Fr.refl nob w).alloc _) (fun _ _ x=>x)) ⟨w.heap.size,0,none⟩ 1 1 [.int .i64 (-1),.string ⟨t.toArray⟩] rfl rfl (pC_news (newAt0 w _)) (ZiG (k:= -1) (t:=t)) ?d3 ?d4 ?_)
   case d3=>unfold maxLen;omega
   case d4=>omega
   intro v' w4 hown' hap;obtain⟨av',cv',rfl⟩:=Zb hown';obtain⟨⟨pc,pf⟩,h5,f5⟩:=Zfr (l:=q++[(k,a)]) HB.out hB hBw HN.out ((Fr.refl nob w).alloc _) hap (k:= -1) (t:=t) (by rw[hkl];exact hown');have H5:=hid h5;have F5:=hid f5;clear hown' hap h5 f5 rb;go_wp2
   go_end0
   exact⟨rfl,H5.out,F5.out⟩
section
variable {l:List UInt8}
end
theorem ZgL{w:World}{bs:List UInt8}{v:Value}(h:w.ownsRow 0 5 1 v bs.length (ZP bs)):(convert 22 9 v).run Tryz.prog w=.ok (.string ⟨bs.toArray⟩) w:=by
 have h0:=h;obtain⟨a,c,rfl⟩:=Zb h;rcases h.2 with⟨e,hn⟩|⟨g,cap,cur,e,_,hr,_⟩
 ·have hb:bs=[]:=List.length_eq_zero_iff.1 hn;subst hb;injection e with e1 e2 e3;subst e1;subst e3;rfl
 ·injection e with e1 e2 e3;subst e1;subst e3;refine run_conv_bytes Tryz.underlying22 Tryz.underlying5 Tryz.underlying9 ⟨g,0,none⟩ c bs w ?_;intro j v hj;exact h0.cells (g:=g) rfl j v hj
theorem ZmJ{l:List UInt8}{k:Nat}(hk:k<l.length)(e:Bool)(out:List UInt8):ZbC (l.drop k) e out=
 if e=false∧l[k]=92 then ZbC (l.drop (k+1)) true out else if e=true∧l[k]=110 then ZbC (l.drop (k+1)) false (out++[10])else if e=true∧l[k]≠92 then([],false)else ZbC (l.drop (k+1)) false (out++[l[k]]):=by
 rw[List.drop_eq_getElem_cons hk,ZbC]
theorem ZcE{w:World}{c:Int}{T:TypeId}:∀j u,([.int .u8 c]:List Value)[j]? =some u→(w.alloc (.cells #[.int .u8 c] T)).cell? ((⟨w.heap.size,0,none⟩:Addr).add j)=some u:=by
 intro j u hj
 match j,hj with
 |0,hj=>simp at hj;subst hj;simp[Addr.add]
theorem ZcF{c:Int}:∀u∈([.int .u8 c]:List Value),u.oneCell'=true:=by intro u hu;simp at hu;subst hu;rfl
theorem cm_list(l:List UInt8)(w:World)(hl:l.length≤99000):
 Calls Tryz.prog 124 #[.string ⟨l.toArray⟩] w fun r w'=>r=.returned (.tuple #[.string ⟨(ZbC l false []).1.toArray⟩,.bool (ZbC l false []).2])∧Fr nob w w':=by
 obtain⟨F,hF⟩:∃F,ZbC l false []=F:=⟨_,rfl⟩;rw[hF];obtain⟨Ft,Fb⟩:=F;obtain⟨i0,hi,hz0,hz1,hz2⟩:=info_parts ZeW;go_enter Tryz.func124,Tryz.ntmps124;go_wp2_with fail
 go_loopw [4,5,10] (fun ov ev i wr=>∃(k:Nat) (e:Bool) (bs:List UInt8),i=.int .i64 k∧k≤l.length∧ev=.bool e∧wr.ownsRow 0 5 1 ov bs.length (ZP bs)∧ZbC (l.drop k) e bs=(Ft,Fb)∧Fr nob w wr∧(∀g,ov.ownBlock=some g→w.heap.size≤g)∧bs.length≤k) (fun _ _ i _=>l.length-(intOf i).toNat)
 case atStart=>exact⟨0,false,[],rfl,Nat.zero_le _,rfl,World.ownsRow_nil _ _ _ _,hF,Fr.refl _ _,fun _ h=>(by cases h),Nat.zero_le _⟩
 case round=>
  obtain⟨k,e,bs,rfl,hk,rfl,ho,hL,fr,hn,hbs⟩:=hrel;clear hF;have HO:=hid ho;have HL:=hid hL;have FR:=hid fr;have HN:=hid hn;clear ho hL fr hn;by_cases hlt:k<l.length
  ·have hL:=HL.out;rw[ZmJ hlt]at hL;obtain⟨c,hc⟩:∃c,l[k]=c:=⟨_,rfl⟩;have hkl:(k:Int)<l.length:=by omega
   have HK:=hid hc;obtain⟨ao,co,hov⟩:=Zb HO.out;subst hov;rw[hc]at hL;cases e with
   |false=>
    by_cases h92:c=92
    ·subst h92;simp only[and_self,if_true]at hL;have HL2:=hid hL;clear hL HL;go_wp2_with(first|rw[HK.out]);go_roundw
     case rel=>exact⟨k+1,true,bs,by go_num,by omega,rfl,HO.out,HL2.out,FR.out,HN.out,by omega⟩
     case measure=>simp[intOf];omega
    ·have t92:((c.toNat:Int)==92)=false:=Zn (b:=92) h92;simp only[h92,and_false,if_false,Bool.false_eq_true,false_and]at hL;have HL2:=hid hL;clear hL HL h92 hc;go_wp2_with(first|rw[HK.out]|(at_builtin;refine wpList_append_g rfl _ _ 22 rfl 5 i0 (.int .u8 0) 1 1 Tryz.underlying22 hi hz0 hz1 hz2 rfl (by decide) _ _ _ rfl (ownsRow_fr HO.out ((Fr.refl nob wr).alloc _) (fun _ _ x=>x)) ⟨wr.heap.size,0,none⟩ 1 1 [(.int .u8 (c.toNat:Int))] rfl rfl ZcE ZcF (by unfold maxLen;omega) (by omega) ?_));intro v' w4 hown' hap;obtain⟨av',cv',rfl⟩:=Zb hown';have hfr:Fr nob w w4:=(FR.out.alloc _).trans hap.fr (fun i hi e=>by have:=HN.out i e;omega);have hnew:∀g,(Value.slice av' (bs.length+1) cv').ownBlock=some g→w.heap.size≤g:=fun g hg=>by
      rcases hap.old g hg with h1|h1
      ·exact HN.out g h1
      ·have:=FR.out.size;simp only[World.size_alloc]at h1;omega
     have HOWN:=hid hown';have HFR:=hid hfr;have HNEW:=hid hnew;clear hown' hap hfr hnew;go_wp2;go_roundw
     case rel=>exact⟨k+1,false,bs++[c],by go_num,by omega,rfl,by rw[List.length_append,Zaj];exact HOWN.out,HL2.out,HFR.out,HNEW.out,by rw[List.length_append];simp;omega⟩
     case measure=>simp[intOf];omega
   |true=>
    by_cases h110:c=110
    ·subst h110;simp only[Bool.true_eq_false,false_and,if_false,and_self,if_true]at hL;have HL2:=hid hL;clear hL HL hc;go_wp2_with(first|rw[HK.out]|(at_builtin;refine wpList_append_g rfl _ _ 22 rfl 5 i0 (.int .u8 0) 1 1 Tryz.underlying22 hi hz0 hz1 hz2 rfl (by decide) _ _ _ rfl (ownsRow_fr HO.out ((Fr.refl nob wr).alloc _) (fun _ _ x=>x)) ⟨wr.heap.size,0,none⟩ 1 1 [(.int .u8 10)] rfl rfl ZcE ZcF (by unfold maxLen;omega) (by omega) ?_));intro v' w4 hown' hap;obtain⟨av',cv',rfl⟩:=Zb hown';have hfr:Fr nob w w4:=(FR.out.alloc _).trans hap.fr (fun i hi e=>by have:=HN.out i e;omega);have hnew:∀g,(Value.slice av' (bs.length+1) cv').ownBlock=some g→w.heap.size≤g:=fun g hg=>by
      rcases hap.old g hg with h1|h1
      ·exact HN.out g h1
      ·have:=FR.out.size;simp only[World.size_alloc]at h1;omega
     have HOWN:=hid hown';have HFR:=hid hfr;have HNEW:=hid hnew;clear hown' hap hfr hnew;go_wp2;go_roundw
     case rel=>exact⟨k+1,false,bs++[10],by go_num,by omega,rfl,by rw[List.length_append,Zaj];exact HOWN.out,HL2.out,HFR.out,HNEW.out,by rw[List.length_append];simp;omega⟩
     case measure=>simp[intOf];omega
    ·have t110:((c.toNat:Int)==110)=false:=Zn (b:=110) h110;by_cases h92:c=92
     ·subst h92;simp only[Bool.true_eq_false,false_and,if_false,true_and,ne_eq,not_true_eq_false,(by decide:¬(92:UInt8)=110)]at hL;have HL2:=hid hL;clear hL HL hc h110 t110;go_wp2_with(first|rw[HK.out]|(at_builtin;refine wpList_append_g rfl _ _ 22 rfl 5 i0 (.int .u8 0) 1 1 Tryz.underlying22 hi hz0 hz1 hz2 rfl (by decide) _ _ _ rfl (ownsRow_fr HO.out ((Fr.refl nob wr).alloc _) (fun _ _ x=>x)) ⟨wr.heap.size,0,none⟩ 1 1 [(.int .u8 92)] rfl rfl ZcE ZcF (by unfold maxLen;omega) (by omega) ?_));intro v' w4 hown' hap;obtain⟨av',cv',rfl⟩:=Zb hown';have hfr:Fr nob w w4:=(FR.out.alloc _).trans hap.fr (fun i hi e=>by have:=HN.out i e;omega);have hnew:∀g,(Value.slice av' (bs.length+1) cv').ownBlock=some g→w.heap.size≤g:=fun g hg=>by
       rcases hap.old g hg with h1|h1
       ·exact HN.out g h1
       ·have:=FR.out.size;simp only[World.size_alloc]at h1;omega
      have HOWN:=hid hown';have HFR:=hid hfr;have HNEW:=hid hnew;clear hown' hap hfr hnew;go_wp2;go_roundw
      case rel=>exact⟨k+1,false,bs++[92],by go_num,by omega,rfl,by rw[List.length_append,Zaj];exact HOWN.out,HL2.out,HFR.out,HNEW.out,by rw[List.length_append];simp;omega⟩
      case measure=>simp[intOf];omega
     ·have t92:((c.toNat:Int)==92)=false:=Zn (b:=92) h92;have n92:((c.toNat:Int) !=92)=true:=ZoW (b:=92) h92;simp only[Bool.true_eq_false,false_and,if_false,true_and,ne_eq,h92,h110,not_false_eq_true,if_true]at hL;injection hL with e1 e2;subst e1;subst e2;clear HL hc h92 h110;go_wp2_with(first|rw[HK.out]);go_ret2;exact⟨rfl,FR.out⟩
  ·obtain rfl:k=l.length:=by omega
   have hL:=HL.out;rw[List.drop_length,ZbC]at hL;injection hL with e1 e2;subst e1;subst e2;have hcv:=ZgL HO.out;go_wp2;go_ret2;exact⟨rfl,FR.out⟩
theorem Zk7{l:List UInt8}{k:Nat}(g:Int)(hk:k<l.length)(e:Bool)(b:List Prt):Zao g (l.drop k) e b=
 if e=false∧l[k]=92 then Zao g (l.drop (k+1)) true b
 else if e=false∧l[k]=38 then Zao g (l.drop (k+1)) false (b++[(0,[])])
 else if e=true∧48≤l[k].toNat∧l[k].toNat≤57 then(if g<(l[k].toNat:Int)-48 then([],9)else Zao g (l.drop (k+1)) false (b++[((l[k].toNat:Int)-48,[])]))
 else if e=true∧l[k]=110 then Zao g (l.drop (k+1)) false (pushT b [10])
 else Zao g (l.drop (k+1)) false (pushT b [l[k]]):=by
 rw[List.drop_eq_getElem_cons hk,Zao]
theorem Zaw{b:List Prt}{t:List UInt8}{k:Nat}(ht:t.length≤1)(hl:b.length≤k)(h:∀p∈b,p.2.length≤k):(pushT b t).length≤k+1∧∀p∈pushT b t,p.2.length≤k+1:=by
 rcases(by rcases List.eq_nil_or_concat b with h|⟨q,p,h⟩;exact .inl h;exact .inr ⟨q,p.1,p.2,by rw[h,List.concat_eq_append]⟩:b=[]∨∃(q:List Prt) (k:Int) (a:List UInt8),b=q++[(k,a)])with rfl|⟨q,g,a,rfl⟩
 ·rw[ZgK];refine⟨by simp,fun p hp=> ?_⟩;simp only[List.mem_singleton]at hp;subst hp;simp only;omega
 ·have ha:=h (g,a) (by simp);simp only at ha;simp only[List.length_append,List.length_singleton]at hl;by_cases hg:g= -1
  ·subst hg;rw[ZeO];refine⟨by simp;omega,fun p hp=> ?_⟩;simp only[List.mem_append,List.mem_singleton]at hp;rcases hp with hp|rfl
   ·have:=h p (by simp[hp]);omega
   ·simp only[List.length_append];omega
  ·rw[Zej q g a t hg];refine⟨by simp;omega,fun p hp=> ?_⟩;simp only[List.mem_append,List.mem_singleton]at hp;rcases hp with(hp|rfl)|rfl
   ·have:=h p (by simp[hp]);omega
   ·simp only;omega
   ·simp only;omega
theorem ZcZ{b:List Prt}{g:Int}{k:Nat}(hl:b.length≤k)(h:∀p∈b,p.2.length≤k):(b++[(g,[])]).length≤k+1∧∀p∈b++[(g,[])],p.2.length≤k+1:=by
 refine⟨by simp;omega,fun p hp=> ?_⟩;simp only[List.mem_append,List.mem_singleton]at hp;rcases hp with hp|rfl
 ·have:=h p hp;omega
 ·simp
def ZpP(w:World)(F:List Prt×Int)(r:Ending)(w':World):Prop:=∃v,r=.returned (.tuple #[v,.int .i64 F.2])∧OwP w' F.1 v∧(∀k,v.ownBlock=some k→w.heap.size≤k)∧Fr nob w w'
theorem Fr.abv{w a b:World}(f:Fr nob w a)(h:Fr (Abv w.heap.size) a b):Fr nob w b:=f.trans h (fun i hi hS=>by have hS:w.heap.size≤i:=hS;omega)
theorem ZmK(l:List UInt8)(gr:Int)(w:World)(hl:l.length≤99000):
 Calls Tryz.prog 121 #[.string ⟨l.toArray⟩,.int .i64 gr] w (ZpP w (Zao gr l false [])):=by
 obtain⟨F,hF⟩:∃F,Zao gr l false []=F:=⟨_,rfl⟩;rw[hF];obtain⟨Ft,Fe⟩:=F;obtain⟨i0,hi,hz0,hz1,hz2⟩:=info_parts ZgJ;obtain⟨w1,hw1⟩:∃w1,w1=w.alloc (.cells #[.slice none 0 0] 238):=⟨_,rfl⟩;have f1:Fr nob w w1:=by rw[hw1];exact(Fr.refl nob w).alloc _
 have hb1:Bdr w.heap.size w.heap.size [] w1:=by
  refine⟨.slice none 0 0,by rw[hw1];exact newAt _ _,World.ownsRow_nil _ _ _ _,Nat.le_refl _,fun k h=>by cases h⟩
 have HW1:=hid hw1;have F1:=hid f1;have HB1:=hid hb1;clear hw1 f1 hb1;go_enter Tryz.func121,Tryz.ntmps121;go_wp2_with(rw[←HW1.out])
 go_loopw [7,13] (fun ev i wr=>∃(k:Nat) (e:Bool) (ps:List Prt),i=.int .i64 k∧k≤l.length∧ev=.bool e∧Bdr w.heap.size w.heap.size ps wr∧Zao gr (l.drop k) e ps=(Ft,Fe)∧Fr nob w wr∧ps.length≤k∧(∀p∈ps,p.2.length≤k)) (fun _ i _=>l.length-(intOf i).toNat)
 case atStart=>exact⟨0,false,[],rfl,Nat.zero_le _,rfl,HB1.out,hF,F1.out,Nat.zero_le _,by simp⟩
 case round=>
  obtain⟨k,e,ps,rfl,hk,rfl,hB,hL,fr,hps,hpt⟩:=hrel;clear hF;have HB:=hid hB;have HL:=hid hL;have FR:=hid fr;have HPT:=hid hpt;have hsz:=fr.size;have HSZ:=hid hsz;clear hB hL fr hpt hsz;by_cases hlt:k<l.length
  ·have hL:=HL.out;rw[Zk7 gr hlt]at hL;obtain⟨c,hc⟩:∃c,l[k]=c:=⟨_,rfl⟩;have hkl:(k:Int)<l.length:=by omega
   have HK:=hid hc;rw[hc]at hL;cases e with
   |false=>
    by_cases h92:c=92
    ·subst h92;simp only[and_self,if_true]at hL;have HL2:=hid hL;clear hL HL hc;go_wp2_with(first|rw[HK.out]);go_roundw
     case rel=>exact⟨k+1,true,ps,by go_num,by omega,rfl,HB.out,HL2.out,FR.out,by omega,fun p hp=>by have:=HPT.out p hp;omega⟩
     case measure=>simp[intOf];omega
    ·have t92:((c.toNat:Int)==92)=false:=Zn (b:=92) h92;by_cases h38:c=38
     ·subst h38;simp only[h92,and_false,if_false,and_self,if_true]at hL;have HL2:=hid hL;clear hL HL hc h92 t92;obtain⟨v,b1,b2,b3,b4⟩:=HB.out;obtain⟨av,cv,rfl⟩:=Zb b2;have rb:=Zay (cell_at (j:=0) b1 rfl);have B1:=hid b1;have B2:=hid b2;have B4:=hid b4;clear b1 b2 b4;go_wp2_with(first|rw[HK.out]|(at_builtin;refine wpList_append_g rfl _ _ 238 rfl 43 i0 (.agg #[.int .i64 0,.string ByteArray.empty]) 2 24 Tryz.underlying238 hi hz0 hz1 hz2 rfl (by decide) _ _ _ rfl (ownsRow_fr B2.out ((Fr.refl nob wr).alloc _) (fun _ _ x=>x)) ⟨wr.heap.size,0,none⟩ 1 1 [.int .i64 (0),.string ⟨#[]⟩] rfl rfl (pC_news (t:=[]) (newAt0 wr _)) (ZiG (k:=0) (t:=[])) (by unfold maxLen;omega) (by omega) ?_));intro v' w4 hown' hap;obtain⟨av',cv',rfl⟩:=Zb hown';obtain⟨⟨pc,pf⟩,h5,f5⟩:=Zfr (l:=ps) B1.out b3 HSZ.out B4.out ((Fr.refl nob wr).alloc _) hap (k:=0) (t:=[]) hown';have H5:=hid h5;have F5:=hid (FR.out.abv f5)
      clear hown' hap h5 f5 rb;go_wp2;go_roundw
      case rel=>exact⟨k+1,false,ps++[(0,[])],by go_num,by omega,rfl,H5.out,HL2.out,F5.out,(ZcZ hps HPT.out).1,(ZcZ hps HPT.out).2⟩
      case measure=>simp[intOf];omega
     ·have t38:((c.toNat:Int)==38)=false:=Zn (b:=38) h38;simp only[h92,h38,and_false,if_false,Bool.false_eq_true,false_and]at hL;have HL2:=hid hL;clear hL HL h92 h38 hc;have hsl:∀W,(Instr.slice 9 (.string ⟨l.toArray⟩) (some (.int .i64 (k:Int))) (some (.int .i64 ((k:Int)+1))) none).run Tryz.prog W=.ok (.string ⟨[c].toArray⟩) W:=fun W=>by
       have:=ZbH (P:=Tryz.prog) (t:=9) l Tryz.underlying9 hlt rfl rfl W;rw[HK.out]at this;exact this
      go_wp2_with(first|rw[HK.out]);(try rw[HK.out]);refine(bd_text w.heap.size w.heap.size ps [c] wr (by omega) (by simp) (fun p hp=>by have:=HPT.out p hp;omega) HSZ.out HB.out).mono ?_;rintro z w5 ⟨rfl,h5,f5⟩;have H5:=hid h5;have F5:=hid (FR.out.abv f5);clear h5 f5;go_wp2;go_roundw
      case rel=>exact⟨k+1,false,pushT ps [c],by go_num,by omega,rfl,H5.out,HL2.out,F5.out,(Zaw (by simp) hps HPT.out).1,(Zaw (by simp) hps HPT.out).2⟩
      case measure=>simp[intOf];omega
   |true=>
    by_cases hd:48≤c.toNat∧c.toNat≤57
    ·have d1:(48:Int)≤(c.toNat:Int):=by omega
     have d2:(c.toNat:Int)≤57:=by omega
     have hwr:IntKind.u8.wrap ((c.toNat:Int)-48)=(c.toNat:Int)-48:=IntWalk.u8_in _ (by omega);simp only[Bool.true_eq_false,false_and,if_false,true_and,hd,and_self,if_true]at hL;by_cases hg:gr<(c.toNat:Int)-48
     ·rw[if_pos hg]at hL;injection hL with e1 e2;subst e1;subst e2;clear HL hc hd;go_wp2_with(first|rw[HK.out]);go_ret2;exact⟨.slice none 0 0,rfl,World.ownsRow_nil _ _ _ _,fun k h=>(by cases h),FR.out⟩
     ·rw[if_neg hg]at hL;have HL2:=hid hL;clear hL HL hc hd;obtain⟨v,b1,b2,b3,b4⟩:=HB.out;obtain⟨av,cv,rfl⟩:=Zb b2;have rb:=Zay (cell_at (j:=0) b1 rfl);have B1:=hid b1;have B2:=hid b2;have B4:=hid b4;clear b1 b2 b4;go_wp2_with(first|rw[HK.out]|(at_builtin;refine wpList_append_g rfl _ _ 238 rfl 43 i0 (.agg #[.int .i64 0,.string ByteArray.empty]) 2 24 Tryz.underlying238 hi hz0 hz1 hz2 rfl (by decide) _ _ _ rfl (ownsRow_fr B2.out ((Fr.refl nob wr).alloc _) (fun _ _ x=>x)) ⟨wr.heap.size,0,none⟩ 1 1 [.int .i64 ((c.toNat:Int)-48),.string ⟨#[]⟩] rfl rfl (pC_news (t:=[]) (newAt0 wr _)) (ZiG (k:=(c.toNat:Int)-48) (t:=[])) (by unfold maxLen;omega) (by omega) ?_));intro v' w4 hown' hap;obtain⟨av',cv',rfl⟩:=Zb hown';obtain⟨⟨pc,pf⟩,h5,f5⟩:=Zfr (l:=ps) B1.out b3 HSZ.out B4.out ((Fr.refl nob wr).alloc _) hap (k:=(c.toNat:Int)-48) (t:=[]) hown';have H5:=hid h5;have F5:=hid (FR.out.abv f5)
      clear hown' hap h5 f5 rb;go_wp2;go_roundw
      case rel=>exact⟨k+1,false,ps++[((c.toNat:Int)-48,[])],by go_num,by omega,rfl,H5.out,HL2.out,F5.out,(ZcZ hps HPT.out).1,(ZcZ hps HPT.out).2⟩
      case measure=>simp[intOf];omega
    ·have nd:¬(48:Int)≤(c.toNat:Int)∨((48:Int)≤(c.toNat:Int)∧¬(c.toNat:Int)≤57):=by omega
     by_cases h110:c=110
     ·subst h110;simp only[Bool.true_eq_false,false_and,if_false,true_and,hd,and_self,if_true]at hL;have HL2:=hid hL;clear hL HL hc nd hd;go_wp2_with(first|rw[HK.out]);(try rw[HK.out]);refine(bd_text w.heap.size w.heap.size ps [10] wr (by omega) (by simp) (fun p hp=>by have:=HPT.out p hp;omega) HSZ.out HB.out).mono ?_;rintro z w5 ⟨rfl,h5,f5⟩;have H5:=hid h5;have F5:=hid (FR.out.abv f5);clear h5 f5;go_wp2;go_roundw
      case rel=>exact⟨k+1,false,pushT ps [10],by go_num,by omega,rfl,H5.out,HL2.out,F5.out,(Zaw (by simp) hps HPT.out).1,(Zaw (by simp) hps HPT.out).2⟩
      case measure=>simp[intOf];omega
     ·have t110:((c.toNat:Int)==110)=false:=Zn (b:=110) h110;simp only[Bool.true_eq_false,false_and,if_false,true_and,hd,h110]at hL;have HL2:=hid hL;clear hL HL h110 hc hd;rcases nd with n1|⟨n1,n2⟩
      ·skip
       have hsl:∀W,(Instr.slice 9 (.string ⟨l.toArray⟩) (some (.int .i64 (k:Int))) (some (.int .i64 ((k:Int)+1))) none).run Tryz.prog W=.ok (.string ⟨[c].toArray⟩) W:=fun W=>by
        have:=ZbH (P:=Tryz.prog) (t:=9) l Tryz.underlying9 hlt rfl rfl W;rw[HK.out]at this;exact this
       go_wp2_with(first|rw[HK.out]);(try rw[HK.out]);refine(bd_text w.heap.size w.heap.size ps [c] wr (by omega) (by simp) (fun p hp=>by have:=HPT.out p hp;omega) HSZ.out HB.out).mono ?_;rintro z w5 ⟨rfl,h5,f5⟩;have H5:=hid h5;have F5:=hid (FR.out.abv f5);clear h5 f5;go_wp2;go_roundw
       case rel=>exact⟨k+1,false,pushT ps [c],by go_num,by omega,rfl,H5.out,HL2.out,F5.out,(Zaw (by simp) hps HPT.out).1,(Zaw (by simp) hps HPT.out).2⟩
       case measure=>simp[intOf];omega
      ·skip
       have hsl:∀W,(Instr.slice 9 (.string ⟨l.toArray⟩) (some (.int .i64 (k:Int))) (some (.int .i64 ((k:Int)+1))) none).run Tryz.prog W=.ok (.string ⟨[c].toArray⟩) W:=fun W=>by
        have:=ZbH (P:=Tryz.prog) (t:=9) l Tryz.underlying9 hlt rfl rfl W;rw[HK.out]at this;exact this
       go_wp2_with(first|rw[HK.out]);(try rw[HK.out]);refine(bd_text w.heap.size w.heap.size ps [c] wr (by omega) (by simp) (fun p hp=>by have:=HPT.out p hp;omega) HSZ.out HB.out).mono ?_;rintro z w5 ⟨rfl,h5,f5⟩;have H5:=hid h5;have F5:=hid (FR.out.abv f5);clear h5 f5;go_wp2;go_roundw
       case rel=>exact⟨k+1,false,pushT ps [c],by go_num,by omega,rfl,H5.out,HL2.out,F5.out,(Zaw (by simp) hps HPT.out).1,(Zaw (by simp) hps HPT.out).2⟩
       case measure=>simp[intOf];omega
  ·obtain rfl:k=l.length:=by omega
   have hL:=HL.out;rw[List.drop_length,Zao]at hL;cases e with
   |true=>
    simp only[if_true]at hL;injection hL with e1 e2;subst e1;subst e2;go_wp2;go_ret2;exact⟨.slice none 0 0,rfl,World.ownsRow_nil _ _ _ _,fun k h=>(by cases h),FR.out⟩
   |false=>
    simp only[Bool.false_eq_true,if_false]at hL;injection hL with e1 e2;subst e1;subst e2;obtain⟨v,b1,b2,b3,b4⟩:=HB.out;obtain⟨av,cv,rfl⟩:=Zb b2;have rb:=Zay (cell_at (j:=0) b1 rfl);have B2:=hid b2;have B4:=hid b4;clear b1 b2 b4;go_wp2;go_ret2;exact⟨_,rfl,B2.out,fun k h=>(B4.out k h).2,FR.out⟩
theorem Zk8(b:Nat)(l:List UInt8)(x:Bool)(s:AdS)(S:Nat→Prop)(w:World)(h:CRd b l x s S w):
 Calls Tryz.prog 154 #[.pointer (some ⟨b,0,none⟩)] w fun r w'=>r=.returned (.func (.func (if x then 178 else 179)) #[] #[])∧Fr nob w w':=by
 obtain⟨mv,h⟩:=h;have rr:=Zd h.blk;clear h;cases x with
 |true=>
  go_enter Tryz.func154,Tryz.ntmps154;go_wp2;go_ret;exact⟨rfl,Fr.refl _ _⟩
 |false=>
  go_enter Tryz.func154,Tryz.ntmps154;go_wp2;go_ret;exact⟨rfl,Fr.refl _ _⟩
theorem ZgM(t:List UInt8)(x:BF)(w:World)(ht:t.length≤100000)(hE:Env w):Calls Tryz.prog (if x then 178 else 179) #[.string ⟨t.toArray⟩] w (EreAnsO (Zac prg x t) w):=by
 rw[if_neg Bool.false_ne_true]
 ·rw[ZfM];refine(ZeE t w ht hE).mono ?_;intro e w' h;unfold BreAnsO at h;unfold EreAnsO;refine⟨h.1,?_⟩;have h2:=h.2;cases hp:Zey prg t with
  |inl z=>rw[hp]at h2;exact h2
  |inr z=>rw[hp]at h2;obtain⟨i,y,mv,rfl,h3⟩:=h2;exact⟨_,mv,rfl,h3⟩
def ZqD(b:Nat)(l:List UInt8)(x:Bool)(S O:Nat→Prop)(w:World)(R:(List UInt8×Nd)×AdS)(r:Ending)(w':World):Prop:=
 ∃u S',r=.returned (.tuple #[.string ⟨R.1.1.toArray⟩,u])∧RN (SO S' O) w' R.1.2 u∧CRd b l x R.2 S' w'∧Stp S w S' w'
theorem ZmL(b:Nat)(l:List UInt8)(d:UInt8)(x:BF)(s:AdS)(S O:Nat→Prop)(w:World)(hl:l.length≤99000)(ha:s.at_≤l.length)(hm:s.marks.length≤100000)(hS:∀k,S k→k<w.heap.size)(hO:∀k,O k→k<w.heap.size)
 (W0:World) (hE:Env W0) (hW:Fr nob W0 w) (hSW:∀k,S k→W0.heap.size≤k) (h:CRd b l x s S w):
 Calls Tryz.prog 119 #[.pointer (some ⟨b,0,none⟩),.int .u8 (d.toNat:Int)] w (ZqD b l x S O w (Zav x l d s)):=by
 have HBT:=hid (Zck b l d x true s S w hl ha h);have hin:=ZaW (l:=l) d true ha;have hmk:(Zr l d true s).2.marks=s.marks:=by unfold Zr;split;rfl;unfold ZV;split<;>rfl
 have htl:(Zr l d true s).1.length≤99000:=by
  unfold Zr;split
  ·simp
  ·have:=ZdC l d true (l.length+1) s.at_ [];simp only[List.length_nil]at this;simp only;omega
 unfold Zav;simp only;obtain⟨p0,ms,e0⟩:=s;obtain⟨mv,h⟩:=h;have rr:=Zd h.blk;have H:=hid h;simp only at ha hm rr hmk⊢;obtain⟨B,hB⟩:∃B,Zr l d true ⟨p0,ms,e0⟩=B:=⟨_,rfl⟩;obtain⟨T,s1⟩:=B;rw[hB]at HBT hin hmk htl⊢;obtain⟨p1,ms1,e1⟩:=s1;simp only at HBT hin hmk htl⊢;subst hmk;have HS:=hid hS;have HO:=hid hO;have HE:=hid hE;have HW:=hid hW;have HSW:=hid hSW;clear h hB hS hO hE hW hSW;have hsz:w.heap.size=w.heap.size:=rfl;by_cases h1:e1=0
 ·subst h1;by_cases hT:T=[]
  ·subst hT;simp only[and_self,if_true];rw[Za9 rfl];simp only[ne_eq,(by decide:¬(2:Int)=0),not_false_eq_true,if_true];go_enter Tryz.func119,Tryz.ntmps119;go_wp2_with fail;refine HBT.out.mono ?_;rintro z w1 ⟨rfl,h1,st1⟩;clear rr;have H1:=hid h1;have ST1:=hid st1;clear h1 st1;go_wp2_with fail;refine(cm_ok b l x _ S w1 H1.out).mono ?_;rintro z w2 ⟨rfl,f2⟩;go_wp2_with fail;refine(cm_fail b l x _ S 2 p0 w2 (H1.out.on f2)).mono ?_;rintro z w3 ⟨rfl,h3,st3⟩;rw[Za9 rfl]at h3;go_wp2_with fail;refine(cm_ok b l x _ S w3 h3).mono ?_;rintro z w4 ⟨rfl,f4⟩;go_wp2;go_ret2;exact⟨.nilIface,S,rfl,by rw[RN],h3.on f4,(ST1.out.trans (Stp.of f2)).trans (st3.trans (Stp.of f4))⟩
  ·simp only[hT,and_false,if_false,ne_eq,not_true_eq_false];have hemp:T.isEmpty=false:=by cases T with|nil=>exact absurd rfl hT|cons _ _=>rfl
   have HPE:=hid (fun w' hE=>ZgM T x w' (by omega) hE);have HMK:=hid (fun(n:Nd) (r:RxS) (h:Zac prg x T=.inr (n,r))=>parseD_marks h);have HER:=hid (fun(z:Int×Nat) (h:Zac prg x T=.inl z)=>parseD_err h);obtain⟨R,hR⟩:∃R,Zac prg x T=R:=⟨_,rfl⟩;rw[hR]at HPE HMK HER⊢;obtain⟨fn,hfn⟩:∃fn,(if x then 178 else 179)=fn:=⟨_,rfl⟩;have hfn':fn=178∨fn=179:=by rw[←hfn];exact .inr rfl
   rw[hfn]at HPE;have HPA:=hid (fun p m e w' h=>by have:=Zk8 b l x (⟨p,m,e⟩:AdS) S w' h;rw[hfn]at this;exact this);clear hR hfn hT;rcases hfn' with rfl|rfl
   all_goals
    go_enter Tryz.func119,Tryz.ntmps119;go_wp2_with fail;refine HBT.out.mono ?_;rintro z w1 ⟨rfl,h1,st1⟩;clear rr;have H1:=hid h1;have ST1:=hid st1;clear h1 st1;go_wp2_with fail;refine(cm_ok b l x _ S w1 H1.out).mono ?_;rintro z w2 ⟨rfl,f2⟩;go_wp2_with fail;refine(cm_ok b l x _ S w2 (H1.out.on f2)).mono ?_;rintro z w3 ⟨rfl,f3'⟩;have f3:=f2.trans' f3';clear f2 f3';go_wp2_with fail;refine(HPA.out _ _ _ w3 (H1.out.on f3)).mono ?_;rintro z w4 ⟨rfl,f4'⟩;have F4:=hid (f3.trans' f4');clear f3 f4';have HE4:=hid (HE.out.on ((ST1.out.trans (Stp.of F4.out)).from HW.out HSW.out));go_wp2_with fail;refine(HPE.out w4 HE4.out).mono ?_;intro z w5 hz;cases R with
    |inl y=>
     obtain⟨y,py⟩:=y;obtain⟨f5,rfl⟩:=hz;have hy0:¬y=0:=HER.out (y,py) rfl;have hy1:(y !=0)=true:=by simpa using hy0
     have f45:=F4.out.trans' f5;go_wp2_with fail;refine(cm_fail b l x _ S y p0 w5 (H1.out.on f45)).mono ?_;rintro z w6 ⟨rfl,h6,st6⟩;have H6:=hid h6;have ST6:=hid (ST1.out.trans ((Stp.of f45).trans st6));clear h6 st6 f45 f5;go_wp2_with fail
     go_loopw [50] (fun i wr=>i=.int .i64 0∧wr=w6) (fun _ _=>0)
     case atStart=>exact⟨rfl,rfl⟩
     case round=>
      obtain⟨rfl,rfl⟩:=hrel;go_wp2;go_ret2;exact⟨.nilIface,S,rfl,by rw[RN],H6.out,ST6.out⟩
    |inr y=>
     obtain⟨n,r⟩:=y;obtain⟨f5,v,mvP,rfl,rn5,hmP,hnw⟩:=hz;obtain⟨hmk,hml,_⟩:=HMK.out n r rfl;obtain⟨aP,cP,hmv⟩:=Zb hmP;subst hmv;have hmk':∀i (h:i<r.marks.length),r.marks[i].1≤T.length:=fun i h=>hmk _ (List.getElem_mem h);have hrl:r.marks.length≤99000:=Nat.le_trans hml htl;have h5:=H1.out.on (F4.out.trans' f5);have sz4:=F4.out.size;have sz1:=ST1.out.fr.size;obtain⟨RM,hRM⟩:∃RM,r.marks=RM:=⟨_,rfl⟩;have hmP0:=hmP;have HMP:=hid (show OwM w5 RM (.slice aP RM.length cP) by rw[←hRM];exact hmP0);have HMK':=hid (show∀i (h:i<RM.length),RM[i].1≤T.length by rw[←hRM];exact hmk');have RN5:=hid rn5;have H5:=hid h5;have hrl':RM.length≤99000:=by rw[←hRM];exact hrl
     have ST5:=hid (ST1.out.trans ((Stp.of F4.out).trans (Stp.of f5)));have F5:=hid f5;have SZ:=hid (show w.heap.size≤w4.heap.size by omega);have sh:=rn5.shape;have hgoal:(⟨p1,ms1++r.marks.map (shM p0),0⟩:AdS)=⟨p1,ms1++RM.map (shM p0),0⟩:=by rw[hRM]
     have HG:=hid hgoal;have hlen:r.marks.length=RM.length:=by rw[hRM]
     rw[hlen];rw[hlen]at hnw;have HNW:=hid hnw;clear hmk hml hmk' hmP hmP0 hnw rn5 h5 f5 hRM sz4 sz1 hgoal hrl hlen;rcases sh with rfl|⟨iv,yv,rfl⟩
     all_goals
      go_wp2_with fail
      go_loopw [50] (fun i wr=>∃(k:Nat) (S':Nat→Prop),i=.int .i64 k∧k≤RM.length∧CRd b l x ⟨p1,ms1++(RM.take k).map (shM p0),0⟩ S' wr∧Stp S w5 S' wr) (fun i _=>RM.length-(intOf i).toNat)
      case atStart=>exact⟨0,S,rfl,Nat.zero_le _,by simpa using H5.out,Stp.refl _ _⟩
      case round=>
       obtain⟨k,S',rfl,hk,hA,hst⟩:=hrel;have HA:=hid hA;have HST:=hid hst;clear hA hst;by_cases hlt:k<RM.length
       ·have hMk:=HMK'.out k hlt;have htk:=Zit p0 RM hlt;have hmP:OwM wr RM (.slice aP RM.length cP):=ownsRow_fr HMP.out HST.out.fr (fun j hj hx=>by have:=HNW.out j hj;have:=HS.out j hx;have:=SZ.out;omega);obtain⟨g,cap,hg1,hglt,hc0,hc1⟩:=hmP.get hlt;injection hg1 with hg1 hg2 hg3;subst hg1;subst hg3;obtain⟨m1,hm1⟩:∃m1,RM[k].1=m1:=⟨_,rfl⟩;obtain⟨m2,hm2⟩:∃m2,RM[k].2=m2:=⟨_,rfl⟩;rw[hm1]at hc0 hMk htk;rw[hm2]at hc1 htk;have hwr:IntKind.i64.wrap ((p0:Int)+(m1:Int))=((p0+m1:Nat):Int):=by rw[IntWalk.i64_in _ (by omega)];omega
        have HTK:=hid htk;have HLL:=hid (show(ms1++(RM.take k).map (shM p0)).length≤1000000 by rw[List.length_append,List.length_map,List.length_take];omega);have hkl:(k:Int)<RM.length:=by omega
        clear hmP htk hm1 hm2 hg2;go_wp2_with fail;refine(cm_mark b l x _ S' (p0+m1) m2 _ HLL.out (HA.out.on ((Fr.refl _ _).alloc _))).mono ?_;rintro z w7 ⟨rfl,S'',h7,st7⟩;have H7:=hid h7;have ST7:=hid (HST.out.trans ((Stp.of ((Fr.refl nob wr).alloc _)).trans st7));clear h7 st7;go_wp2;go_roundw
        case rel=>exact⟨k+1,S'',by go_num,by omega,by rw[HTK.out,←List.append_assoc];exact H7.out,ST7.out⟩
        case measure=>simp[intOf];omega
       ·obtain rfl:k=RM.length:=by omega
        go_wp2;go_ret2;have hrd:=HA.out;rw[List.take_of_length_le (Nat.le_refl _)]at hrd;refine⟨_,S',rfl,?_,?_,ST5.out.trans HST.out⟩
        ·exact RN.keep HST.out.fr (fun j _ hj=>by have:=HS.out j hj;have:=SZ.out;show j<_;omega) (fun j hj hx=>by have:=SZ.out;rcases hx with hx|hx;have h1:=HST.out.old j hj hx;have:=HS.out j h1;(show j<_;omega);have:=HO.out j hx;(show j<_;omega)) _ _ RN5.out
        ·show CRd b l x ⟨p1,ms1++r.marks.map (shM p0),0⟩ S' wr;rw[HG.out];exact hrd
 ·have h1':¬(e1=0∧T=[]):=fun h=>h1 h.1;have e1b:(e1==0)=false:=by simpa using h1
  simp only[if_neg h1',ne_eq,h1,not_false_eq_true,if_true];go_enter Tryz.func119,Tryz.ntmps119;go_wp2_with fail;refine HBT.out.mono ?_;rintro z w1 ⟨rfl,h1,st1⟩;clear rr;have H1:=hid h1;have ST1:=hid st1;clear h1 st1;go_wp2_with fail;refine(cm_ok b l x _ S w1 H1.out).mono ?_;rintro z w2 ⟨rfl,f2⟩;simp only[e1b];go_wp2_with fail;refine(cm_ok b l x _ S w2 (H1.out.on f2)).mono ?_;rintro z w3 ⟨rfl,f3⟩;simp only[e1b];go_wp2;go_ret2;exact⟨.nilIface,S,rfl,by rw[RN],(H1.out.on f2).on f3,ST1.out.trans ((Stp.of f2).trans (Stp.of f3))⟩
end Go.Proofs.YtkfddjopbocpkaaGreatDoor
