/- Lemmas of this claim. -/
import Derived.Laws.Bits64b
import Derived.Lib.TrailingZeros
import Derived.MapKept
import Derived.Defers
import Derived.ChangeSame
import Derived.ChangeOld
import Derived.Below
import Derived.Carry
import Derived.ShutString
import Derived.Test.YtkfddjopbocpkaaGreatDoorM01
set_option linter.unusedVariables false
set_option linter.unusedSimpArgs false
set_option maxRecDepth 100000
set_option maxHeartbeats 4000000
namespace Go.Proofs.YtkfddjopbocpkaaGreatDoor
open Go.Lib (hid)
open Go.RowKit
theorem Zti(a m:Nat)(ha:a<18446744073709551616)(hm:m<18446744073709551616):bits .and .u64 (a:Int) (m:Int)=((a&&& m:Nat):Int):=by
 rw[ZlN];have h1:wd (a:Int)=BitVec.ofNat 64 a:=by unfold wd;simp
 have h2:wd (m:Int)=BitVec.ofNat 64 m:=by unfold wd;simp
 rw[h1,h2,BitVec.toNat_and,BitVec.toNat_ofNat,BitVec.toNat_ofNat,Nat.mod_eq_of_lt (by simpa using ha),Nat.mod_eq_of_lt (by simpa using hm)]
theorem ZsJ(a:Nat)(ha:a<18446744073709551616):IntKind.u64.wrap (a:Int)=(a:Int):=by
 have:=Zh9 (BitVec.ofNat 64 a);rw[BitVec.toNat_ofNat,Nat.mod_eq_of_lt (by simpa using ha)]at this;exact this
theorem Ztj(a:Nat)(ha:a<9223372036854775808):IntKind.i64.wrap (a:Int)=(a:Int):=by
 simp only[IntKind.wrap,IntKind.bits,IntKind.signed];simp;omega
theorem Zvk(a:Nat)(ha:a<9223372036854775808):bits .and .i64 (a:Int) 127=((a%128:Nat):Int):=by
 have h1:BitVec.ofInt 64 (a:Int)=BitVec.ofNat 64 a:=by simp
 have h2:BitVec.ofInt 64 127=BitVec.ofNat 64 127:=by decide
 show IntKind.i64.wrap (((BitVec.ofInt 64 (a:Int))&&& (BitVec.ofInt 64 127)).toNat:Int)=_;rw[h1,h2,BitVec.toNat_and,BitVec.toNat_ofNat,BitVec.toNat_ofNat,Nat.mod_eq_of_lt (by simp;omega)];have h3:a&&& 127%2^64=a%128:=by
  have:=Nat.and_two_pow_sub_one_eq_mod a 7;simpa using this
 rw[h3];exact Ztj _ (by omega)
theorem ones_any(n:Nat)(w:World)(hn:n<18446744073709551616):
 Calls Tryz.prog 193 #[.int .u64 n] w fun e w'=>e=.returned (.int .i64 (pop n))∧w=w':=by
 have hp:=hid (Zvj n hn);obtain⟨x1,h1⟩:∃x,pf1 6148914691236517205 n=x:=⟨_,rfl⟩;obtain⟨x2,h2⟩:∃x,pf2 3689348814741910323 x1=x:=⟨_,rfl⟩;obtain⟨x3,h3⟩:∃x,pf3 1085102592571150095 x2=x:=⟨_,rfl⟩;have hs:Zub n=x3:=by unfold Zub;rw[h1,h2,h3]
 have HP:=hid (show Ztw x3%128=pop n∧Ztw x3<9223372036854775808 by rw[←hs];exact hp.out);have b1:x1≤12297829382473034410:=by
  rw[←h1];unfold pf1;have:= @Nat.and_le_right (n/2) 6148914691236517205;have:= @Nat.and_le_right n 6148914691236517205;omega
 have b2:x2≤7378697629483820646:=by
  rw[←h2];unfold pf2;have:= @Nat.and_le_right (x1/4) 3689348814741910323;have:= @Nat.and_le_right x1 3689348814741910323;omega
 have b3:x3≤1085102592571150095:=by
  rw[←h3];unfold pf3;exact Nat.and_le_right
 obtain⟨x4,h4⟩:∃x,x3+x3/256=x:=⟨_,rfl⟩;obtain⟨x5,h5⟩:∃x,x4+x4/65536=x:=⟨_,rfl⟩;obtain⟨x6,h6⟩:∃x,x5+x5/4294967296=x:=⟨_,rfl⟩;have a:Ztw x3=x6:=by unfold Ztw;rw[h4,h5,h6]
 have e1:IntKind.u64.wrap (bits .and .u64 ((n:Int)/2) 6148914691236517205+bits .and .u64 (n:Int) 6148914691236517205)=(x1:Int):=by
  have q1:=Zti (n/2) 6148914691236517205 (by omega) (by decide);have q2:=Zti n 6148914691236517205 hn (by decide);have q3:((n:Int)/2)=((n/2:Nat):Int):=by omega
  rw[q3,show(6148914691236517205:Int)=((6148914691236517205:Nat):Int)from rfl,q1,q2,←Int.natCast_add];rw[show(n/2&&& 6148914691236517205)+(n&&& 6148914691236517205)=x1 from h1];exact ZsJ _ (by omega)
 have e2:IntKind.u64.wrap (bits .and .u64 ((x1:Int)/4) 3689348814741910323+bits .and .u64 (x1:Int) 3689348814741910323)=(x2:Int):=by
  have q1:=Zti (x1/4) 3689348814741910323 (by omega) (by decide);have q2:=Zti x1 3689348814741910323 (by omega) (by decide);have q3:((x1:Int)/4)=((x1/4:Nat):Int):=by omega
  rw[q3,show(3689348814741910323:Int)=((3689348814741910323:Nat):Int)from rfl,q1,q2,←Int.natCast_add];rw[show(x1/4&&& 3689348814741910323)+(x1&&& 3689348814741910323)=x2 from h2];exact ZsJ _ (by omega)
 have e3:bits .and .u64 (IntKind.u64.wrap ((x2:Int)/16+(x2:Int))) 1085102592571150095=(x3:Int):=by
  have q3:((x2:Int)/16+(x2:Int))=((x2/16+x2:Nat):Int):=by omega
  rw[q3,ZsJ _ (by omega),show(1085102592571150095:Int)=((1085102592571150095:Nat):Int)from rfl,Zti _ _ (by omega) (by decide)];rw[show(x2/16+x2)&&& 1085102592571150095=x3 from h3]
 have e4:IntKind.u64.wrap ((x3:Int)+(x3:Int)/256)=(x4:Int):=by
  rw[show(x3:Int)+(x3:Int)/256=((x4:Nat):Int) by omega];exact ZsJ _ (by omega)
 have e5:IntKind.u64.wrap ((x4:Int)+(x4:Int)/65536)=(x5:Int):=by
  rw[show(x4:Int)+(x4:Int)/65536=((x5:Nat):Int) by omega];exact ZsJ _ (by omega)
 have e6:IntKind.u64.wrap ((x5:Int)+(x5:Int)/4294967296)=(x6:Int):=by
  rw[show(x5:Int)+(x5:Int)/4294967296=((x6:Nat):Int) by omega];exact ZsJ _ (by omega)
 have e7:IntKind.i64.wrap (x6:Int)=(x6:Int):=Ztj _ (by omega);have e8:bits .and .i64 (x6:Int) 127=((pop n:Nat):Int):=by
  rw[Zvk _ (by omega),←a,HP.out.1]
 have n0:(0:Int)≤x2:=by omega
 clear h1 h2 h3 h4 h5 h6 hs a b1 b2 b3 hn;go_enter Tryz.func193,Tryz.ntmps193;go_wp2;go_ret;exact⟨rfl,rfl⟩
def S4.len(s:S4):Nat:=pop s.a.toNat+pop s.b.toNat+pop s.c.toNat+pop s.d.toNat
theorem ZtW(n:Nat):Ztb n≤8:=by unfold Ztb;omega
theorem Zs5(n:Nat):pop n≤64:=by
 have h:=fun k=>ZtW (n/k%256);have:=ZtW (n%256);have:=h 256;have:=h 65536;have:=h 16777216;have:=h 4294967296;have:=h 1099511627776;have:=h 281474976710656;have:=h 72057594037927936;unfold pop;omega
theorem S4.len_le(s:S4):s.len≤256:=by
 have:=Zs5 s.a.toNat;have:=Zs5 s.b.toNat;have:=Zs5 s.c.toNat;have:=Zs5 s.d.toNat;unfold S4.len;omega
theorem Zvl(s:S4)(w:World)(hs:s.fit):
 Calls Tryz.prog 167 #[.agg s.cells.toArray] w fun e w'=>e=.returned (.int .i64 s.len)∧Fr nob w w':=by
 obtain⟨a,b,c,d⟩:=s;obtain⟨⟨l0,u0⟩,⟨l1,u1⟩,⟨l2,u2⟩,⟨l3,u3⟩⟩:=hs;simp only at l0 u0 l1 u1 l2 u2 l3 u3;obtain⟨na,rfl⟩:=Int.eq_ofNat_of_zero_le l0;obtain⟨nb,rfl⟩:=Int.eq_ofNat_of_zero_le l1;obtain⟨nc,rfl⟩:=Int.eq_ofNat_of_zero_le l2;obtain⟨nd,rfl⟩:=Int.eq_ofNat_of_zero_le l3;have g:=Zs5 na;have h:=Zs5 nb;have l:=Zs5 nc;have j:=Zs5 nd;have f:=hid (show S4.len ⟨na,nb,nc,nd⟩=pop na+pop nb+pop nc+pop nd by simp[S4.len]);have i0:∀w,(Instr.index 132 (.agg #[.int .u64 na,.int .u64 nb,.int .u64 nc,.int .u64 nd]) (.int .i64 0)).run Tryz.prog w=.ok (.int .u64 na) w:=fun _=>by kernel_rfl
 have i1:∀w,(Instr.index 132 (.agg #[.int .u64 na,.int .u64 nb,.int .u64 nc,.int .u64 nd]) (.int .i64 1)).run Tryz.prog w=.ok (.int .u64 nb) w:=fun _=>by kernel_rfl
 have i2:∀w,(Instr.index 132 (.agg #[.int .u64 na,.int .u64 nb,.int .u64 nc,.int .u64 nd]) (.int .i64 2)).run Tryz.prog w=.ok (.int .u64 nc) w:=fun _=>by kernel_rfl
 have i3:∀w,(Instr.index 132 (.agg #[.int .u64 na,.int .u64 nb,.int .u64 nc,.int .u64 nd]) (.int .i64 3)).run Tryz.prog w=.ok (.int .u64 nd) w:=fun _=>by kernel_rfl
 rw[S4.cells_eq];clear l0 l1 l2 l3;have m0:na<18446744073709551616:=by omega
 have m1:nb<18446744073709551616:=by omega
 have m2:nc<18446744073709551616:=by omega
 have m3:nd<18446744073709551616:=by omega
 clear u0 u1 u2 u3;go_enter Tryz.func167,Tryz.ntmps167;go_wp2_with fail
 go_loop [3,7] (fun n i=>∃k:Nat,i=.int .i64 k∧k≤4∧((k=0∧n=.int .i64 0)∨(k=1∧n=.int .i64 (pop na:Nat))∨(k=2∧n=.int .i64 ((pop na+pop nb:Nat):Int))∨(k=3∧n=.int .i64 ((pop na+pop nb+pop nc:Nat):Int))∨(k=4∧n=.int .i64 ((pop na+pop nb+pop nc+pop nd:Nat):Int)))) (fun _ i=>4-(intOf i).toNat)
 case atStart=>exact⟨0,rfl,by omega,.inl ⟨rfl,rfl⟩⟩
 case round=>
  obtain⟨k,rfl,hk,hh⟩:=hrel;rcases hh with⟨rfl,rfl⟩|⟨rfl,rfl⟩|⟨rfl,rfl⟩|⟨rfl,rfl⟩|⟨rfl,rfl⟩
  ·go_wp2_with fail;refine(ones_any na _ m0).mono ?_;rintro e w1 ⟨rfl,rfl⟩;go_wp2
   go_round
   case rel=>exact⟨1,by go_num,by omega,.inr (.inl ⟨rfl,by go_num⟩)⟩
   case measure=>simp[intOf]
  ·go_wp2_with fail;refine(ones_any nb _ m1).mono ?_;rintro e w1 ⟨rfl,rfl⟩;go_wp2
   go_round
   case rel=>exact⟨2,by go_num,by omega,.inr (.inr (.inl ⟨rfl,by go_num⟩))⟩
   case measure=>simp[intOf]
  ·go_wp2_with fail;refine(ones_any nc _ m2).mono ?_;rintro e w1 ⟨rfl,rfl⟩;go_wp2
   go_round
   case rel=>exact⟨3,by go_num,by omega,.inr (.inr (.inr (.inl ⟨rfl,by go_num⟩)))⟩
   case measure=>simp[intOf]
  ·go_wp2_with fail;refine(ones_any nd _ m3).mono ?_;rintro e w1 ⟨rfl,rfl⟩;go_wp2
   go_round
   case rel=>exact⟨4,by go_num,by omega,.inr (.inr (.inr (.inr ⟨rfl,by go_num⟩)))⟩
   case measure=>simp[intOf]
  ·go_wp2;go_ret;exact⟨ZdT (by rw[f.out];push_cast;rfl),(Fr.refl _ _).alloc _⟩
def ZsI(f:Nat→Bool):Nat→Nat
 |0=>0
 |k+1=>ZsI f k+(if f k=true then 1 else 0)
theorem cntTo_add(f:Nat→Bool)(a b:Nat):ZsI f (a+b)=ZsI f a+ZsI (fun i=>f (a+i)) b:=by
 induction b with
 |zero=>rfl
 |succ b ih=>rw[←Nat.add_assoc];simp only[ZsI,ih];omega
theorem ZsF{f g:Nat→Bool}{k:Nat}(h:∀i,i<k→f i=g i):ZsI f k=ZsI g k:=by
 induction k with
 |zero=>rfl
 |succ k ih=>simp only[ZsI,ih (fun i hi=>h i (by omega)),h k (by omega)]
theorem ZvR(m k:Nat):(if decide (m/k%2=1)=true then 1 else 0)=m/k%2:=by
 by_cases h:m/k%2=1
 ·simp[h]
 ·have:m/k%2=0:=by omega
  simp[this]
theorem Zwk(m:Nat):ZsI (fun i=>decide (m/2^i%2=1)) 8=Ztb (m%256):=by
 simp only[ZsI,ZvR];unfold Ztb;simp only[Nat.reducePow];omega
theorem Zwe(n:Nat)(_h:n<18446744073709551616):ZsI (fun i=>decide (n/2^i%2=1)) 64=pop n:=by
 have st:∀(m:Nat) (k:Nat),ZsI (fun i=>decide (m/2^i%2=1)) (8+k)=Ztb (m%256)+ZsI (fun i=>decide (m/256/2^i%2=1)) k:=by
  intro m k;rw[cntTo_add,Zwk]
  congr 1
  refine ZsF fun i _=> ?_;rw[Nat.div_div_eq_div_mul,show 2^(8+i)=256*2^i by rw[Nat.pow_add]]
 rw[show 64=8+(8+(8+(8+(8+(8+(8+(8+0)))))))from rfl,st,st,st,st,st,st,st,st];simp only[ZsI,Nat.div_div_eq_div_mul];unfold pop;simp only[Nat.reduceMul];omega
theorem ZvS(n i:Nat)(hn:n<18446744073709551616)(_hi:i<64):(wd (n:Int)).getLsbD i=decide (n/2^i%2=1):=by
 have h1:wd (n:Int)=BitVec.ofNat 64 n:=by unfold wd;simp
 rw[h1,BitVec.getLsbD,BitVec.toNat_ofNat,Nat.mod_eq_of_lt (by simpa using hn),Nat.testBit_eq_decide_div_mod_eq]
theorem Ztc{x:Int}(h:Fit x):ZsI (fun i=>(wd x).getLsbD i) 64=pop x.toNat:=by
 obtain⟨n,rfl⟩:=Int.eq_ofNat_of_zero_le h.1;have hn:n<18446744073709551616:=by have:=h.2;omega
 rw[ZsF (fun i hi=>ZvS n i hn hi),Zwe n hn];simp
theorem Zuu{s:S4}(h:s.fit):ZsI s.has 256=s.len:=by
 obtain⟨h0,h1,h2,h3⟩:=h;have e0:ZsI (fun i=>s.has i) 64=pop s.a.toNat:=by
  rw[←Ztc h0];refine ZsF fun i hi=> ?_;unfold S4.has S4.word;rw[show i/64=0 by omega,show i%64=i by omega];rfl
 have e1:ZsI (fun i=>s.has (64+i)) 64=pop s.b.toNat:=by
  rw[←Ztc h1];refine ZsF fun i hi=> ?_;unfold S4.has S4.word;rw[show(64+i)/64=1 by omega,show(64+i)%64=i by omega];rfl
 have e2:ZsI (fun i=>s.has (64+(64+i))) 64=pop s.c.toNat:=by
  rw[←Ztc h2];refine ZsF fun i hi=> ?_;unfold S4.has S4.word;rw[show(64+(64+i))/64=2 by omega,show(64+(64+i))%64=i by omega];rfl
 have e3:ZsI (fun i=>s.has (64+(64+(64+i)))) 64=pop s.d.toNat:=by
  rw[←Ztc h3];refine ZsF fun i hi=> ?_;unfold S4.has S4.word;rw[show(64+(64+(64+i)))/64=3 by omega,show(64+(64+(64+i)))%64=i by omega];rfl
 rw[show 256=64+(64+(64+64))from rfl,cntTo_add,cntTo_add,cntTo_add];show ZsI (fun i=>s.has i) 64+_=_;rw[e0,e1,e2,e3];unfold S4.len;omega
def Zbd(f:FuncId)(p:Int→Bool):Prop:=∀(r:Int) (w:World),Calls Tryz.prog f #[.int .i32 r] w fun e w'=>e=.returned (.bool (p r))∧w=w'
def btw(r a b:Int):Bool:=decide (a≤r)&&decide (r≤b)
theorem between_any(r a b:Int)(w:World):Calls Tryz.prog 241 #[.int .i32 r,.int .i32 a,.int .i32 b] w fun e w'=>e=.returned (.bool (btw r a b))∧w=w':=by
 by_cases h1:a≤r
 ·by_cases h2:r≤b
  ·have HB:=hid (show btw r a b=true by simp[btw,h1,h2]);go_enter Tryz.func241,Tryz.ntmps241;go_wp2;go_ret;exact⟨ret_bool (by rw[HB.out]),rfl⟩
  ·have HB:=hid (show btw r a b=false by simp[btw,h2]);go_enter Tryz.func241,Tryz.ntmps241;go_wp2;go_ret;exact⟨ret_bool (by rw[HB.out]),rfl⟩
 ·have HB:=hid (show btw r a b=false by simp[btw,h1]);go_enter Tryz.func241,Tryz.ntmps241;go_wp2;go_ret;exact⟨ret_bool HB.out.symm,rfl⟩
def ZeZ(r:Int):Bool:=btw r 97 122
def Ze0(r:Int):Bool:=btw r 65 90
def Zc7(r:Int):Bool:=btw r 48 57
def Zc8(r:Int):Bool:=ZeZ r||Ze0 r
def Zc9(r:Int):Bool:=Zc8 r||Zc7 r
def Zb3(r:Int):Bool:=decide (r=32)||decide (r=9)
def Zda(r:Int):Bool:=btw r 33 126
def ZdE(r:Int):Bool:=Zc7 r||btw r 65 70||btw r 97 102
def Ze1(r:Int):Bool:=Zb3 r||btw r 10 13
def Zdb(r:Int):Bool:=decide (r<32)||decide (r=127)
def Zdc(r:Int):Bool:=decide (r=32)||Zda r
def Ze2(r:Int):Bool:=Zda r&& !Zc9 r
theorem rune_lower:Zbd 235 ZeZ:=by
 intro r w;go_enter Tryz.func235,Tryz.ntmps235;go_wp2_with fail;refine(between_any r 97 122 w).mono ?_;rintro e w1 ⟨rfl,rfl⟩;go_wp2;go_ret;exact⟨rfl,rfl⟩
theorem rune_upper:Zbd 236 Ze0:=by
 intro r w;go_enter Tryz.func236,Tryz.ntmps236;go_wp2_with fail;refine(between_any r 65 90 w).mono ?_;rintro e w1 ⟨rfl,rfl⟩;go_wp2;go_ret;exact⟨rfl,rfl⟩
theorem rune_digit:Zbd 238 Zc7:=by
 intro r w;go_enter Tryz.func238,Tryz.ntmps238;go_wp2_with fail;refine(between_any r 48 57 w).mono ?_;rintro e w1 ⟨rfl,rfl⟩;go_wp2;go_ret;exact⟨rfl,rfl⟩
theorem rune_graph:Zbd 246 Zda:=by
 intro r w;go_enter Tryz.func246,Tryz.ntmps246;go_wp2_with fail;refine(between_any r 33 126 w).mono ?_;rintro e w1 ⟨rfl,rfl⟩;go_wp2;go_ret;exact⟨rfl,rfl⟩
theorem rune_Alpha:Zbd 237 Zc8:=by
 intro r w;obtain⟨v,hv⟩:∃v,Zc8 r=v:=⟨_,rfl⟩;rw[hv];have HV:=hid hv;clear hv;obtain⟨p0,a⟩:∃p,ZeZ r=p:=⟨_,rfl⟩;have d:=hid a;clear a;obtain⟨p1,b⟩:∃p,Ze0 r=p:=⟨_,rfl⟩;have c:=hid b;clear b;have HE:=hid (show v=(p0||p1) by rw[←HV.out];unfold Zc8;rw[d.out,c.out]);go_enter Tryz.func237,Tryz.ntmps237;go_wp2_with fail;refine(rune_lower r w).mono ?_;rw[d.out];rintro e w1 ⟨rfl,rfl⟩;cases p0 with
 |true=>
  go_wp2;go_ret;exact⟨ret_bool (by rw[HE.out];simp),rfl⟩
 |false=>
  go_wp2_with fail;refine(rune_upper r w).mono ?_;rw[c.out];rintro e w2 ⟨rfl,rfl⟩;go_wp2;go_ret;exact⟨ret_bool (by rw[HE.out];simp),rfl⟩
theorem rune_Alnum:Zbd 239 Zc9:=by
 intro r w;obtain⟨v,hv⟩:∃v,Zc9 r=v:=⟨_,rfl⟩;rw[hv];have HV:=hid hv;clear hv;obtain⟨p0,a⟩:∃p,Zc8 r=p:=⟨_,rfl⟩;have d:=hid a;clear a;obtain⟨p1,b⟩:∃p,Zc7 r=p:=⟨_,rfl⟩;have c:=hid b;clear b;have HE:=hid (show v=(p0||p1) by rw[←HV.out];unfold Zc9;rw[d.out,c.out]);go_enter Tryz.func239,Tryz.ntmps239;go_wp2_with fail;refine(rune_Alpha r w).mono ?_;rw[d.out];rintro e w1 ⟨rfl,rfl⟩;cases p0 with
 |true=>
  go_wp2;go_ret;exact⟨ret_bool (by rw[HE.out];simp),rfl⟩
 |false=>
  go_wp2_with fail;refine(rune_digit r w).mono ?_;rw[c.out];rintro e w2 ⟨rfl,rfl⟩;go_wp2;go_ret;exact⟨ret_bool (by rw[HE.out];simp),rfl⟩
theorem Zg2:Zbd 240 ZdE:=by
 intro r w;obtain⟨v,hv⟩:∃v,ZdE r=v:=⟨_,rfl⟩;rw[hv];have HV:=hid hv;clear hv;obtain⟨p0,f⟩:∃p,Zc7 r=p:=⟨_,rfl⟩;have d:=hid f;clear f;obtain⟨p1,b⟩:∃p,btw r 65 70=p:=⟨_,rfl⟩;have g:=hid b;clear b;obtain⟨p2,a⟩:∃p,btw r 97 102=p:=⟨_,rfl⟩;have c:=hid a;clear a;have HE:=hid (show v=(p0||p1||p2) by rw[←HV.out];unfold ZdE;rw[d.out,g.out,c.out]);go_enter Tryz.func240,Tryz.ntmps240;go_wp2_with fail;refine(rune_digit r w).mono ?_;rw[d.out];rintro e w1 ⟨rfl,rfl⟩;cases p0 with
 |true=>
  go_wp2;go_ret;exact⟨ret_bool (by rw[HE.out];simp),rfl⟩
 |false=>
  go_wp2_with fail;refine(between_any r 65 70 w).mono ?_;rw[g.out];rintro e w2 ⟨rfl,rfl⟩;cases p1 with
  |true=>
   go_wp2;go_ret;exact⟨ret_bool (by rw[HE.out];simp),rfl⟩
  |false=>
   go_wp2_with fail;refine(between_any r 97 102 w).mono ?_;rw[c.out];rintro e w3 ⟨rfl,rfl⟩;go_wp2;go_ret;exact⟨ret_bool (by rw[HE.out];simp),rfl⟩
theorem rune_blank:Zbd 242 Zb3:=by
 intro r w;by_cases h1:r=32
 ·have HE:=hid (show Zb3 r=true by simp[Zb3,h1]);subst h1;go_enter Tryz.func242,Tryz.ntmps242;go_wp2;go_ret;exact⟨ret_bool HE.out.symm,rfl⟩
 ·have h2:(r==32)=false:=by simpa using h1
  have HE:=hid (show Zb3 r=(r==9) by rw[Bool.eq_iff_iff];simp[Zb3,h1]);clear h1;go_enter Tryz.func242,Tryz.ntmps242;go_wp2;go_ret;exact⟨ret_bool HE.out.symm,rfl⟩
theorem ZiW:Zbd 243 Ze1:=by
 intro r w;obtain⟨v,hv⟩:∃v,Ze1 r=v:=⟨_,rfl⟩;rw[hv];have HV:=hid hv;clear hv;obtain⟨p0,a⟩:∃p,Zb3 r=p:=⟨_,rfl⟩;have d:=hid a;clear a;obtain⟨p1,b⟩:∃p,btw r 10 13=p:=⟨_,rfl⟩;have c:=hid b;clear b;have HE:=hid (show v=(p0||p1) by rw[←HV.out];unfold Ze1;rw[d.out,c.out]);go_enter Tryz.func243,Tryz.ntmps243;go_wp2_with fail;refine(rune_blank r w).mono ?_;rw[d.out];rintro e w1 ⟨rfl,rfl⟩;cases p0 with
 |true=>
  go_wp2;go_ret;exact⟨ret_bool (by rw[HE.out];simp),rfl⟩
 |false=>
  go_wp2_with fail;refine(between_any r 10 13 w).mono ?_;rw[c.out];rintro e w2 ⟨rfl,rfl⟩;go_wp2;go_ret;exact⟨ret_bool (by rw[HE.out];simp),rfl⟩
theorem ZiX:Zbd 244 Zdb:=by
 intro r w;by_cases h1:r<32
 ·have HE:=hid (show Zdb r=true by simp[Zdb,h1]);go_enter Tryz.func244,Tryz.ntmps244;go_wp2;go_ret;exact⟨ret_bool HE.out.symm,rfl⟩
 ·have HE:=hid (show Zdb r=(r==127) by rw[Bool.eq_iff_iff];simp[Zdb,h1]);go_enter Tryz.func244,Tryz.ntmps244;go_wp2;go_ret;exact⟨ret_bool HE.out.symm,rfl⟩
theorem ZiY:Zbd 245 Zdc:=by
 intro r w;by_cases h1:r=32
 ·have HE:=hid (show Zdc r=true by simp[Zdc,h1]);subst h1;go_enter Tryz.func245,Tryz.ntmps245;go_wp2;go_ret;exact⟨ret_bool HE.out.symm,rfl⟩
 ·have h2:(r==32)=false:=by simpa using h1
  have HE:=hid (show Zdc r=Zda r by simp[Zdc,h1]);clear h1;go_enter Tryz.func245,Tryz.ntmps245;go_wp2_with fail;refine(rune_graph r w).mono ?_;rintro e w1 ⟨rfl,rfl⟩;go_wp2;go_ret;exact⟨ret_bool HE.out.symm,rfl⟩
theorem ZiZ:Zbd 247 Ze2:=by
 intro r w;obtain⟨p,hp⟩:∃p,Zda r=p:=⟨_,rfl⟩;obtain⟨q,hq⟩:∃q,Zc9 r=q:=⟨_,rfl⟩;have HE:=hid (show Ze2 r=(p&& !q) by unfold Ze2;rw[hp,hq]);have HP:=hid hp;have HQ:=hid hq;clear hp hq;go_enter Tryz.func247,Tryz.ntmps247;go_wp2_with fail;refine(rune_graph r w).mono ?_;rw[HP.out];rintro e w1 ⟨rfl,rfl⟩;cases p with
 |false=>
  go_wp2;go_ret;exact⟨ret_bool (by rw[HE.out];rfl),rfl⟩
 |true=>
  go_wp2_with fail;refine(rune_Alnum r w).mono ?_;rw[HQ.out];rintro e w1 ⟨rfl,rfl⟩;go_wp2;go_ret;exact⟨ret_bool (by rw[HE.out];simp),rfl⟩
def ZqL(f:FuncId):Prop:=∀(r:Int) (w:World),(callFunc f #[.int .i32 r]).run Tryz.prog w=.ok (.enter f #[.int .i32 r]) w
def Cls(v:Value)(o:Option (Int→Bool)):Prop:=
 (v=.nilFunc∧o=none)∨∃f p,v=.func (.func f) #[] #[]∧o=some p∧ZqL f∧Zbd f p
def Zak(s:ByteArray):Option (Int→Bool):=
 if s.toList==[108,111,119,101,114]then some ZeZ
 else if s.toList==[117,112,112,101,114]then some Ze0
 else if s.toList==[97,108,112,104,97]then some Zc8
 else if s.toList==[100,105,103,105,116]then some Zc7
 else if s.toList==[97,108,110,117,109]then some Zc9
 else if s.toList==[120,100,105,103,105,116]then some ZdE
 else if s.toList==[98,108,97,110,107]then some Zb3
 else if s.toList==[115,112,97,99,101]then some Ze1
 else if s.toList==[99,110,116,114,108]then some Zdb
 else if s.toList==[112,114,105,110,116]then some Zdc
 else if s.toList==[103,114,97,112,104]then some Zda
 else if s.toList==[112,117,110,99,116]then some Ze2
 else none
theorem class_any(s:ByteArray)(w:World):Calls Tryz.prog 220 #[.string s] w fun e w'=>∃v,e=.returned v∧Cls v (Zak s)∧w=w':=by
 go_enter Tryz.func220,Tryz.ntmps220;go_wp2
 ·go_ret;exact⟨_,rfl,Or.inr ⟨_,_,rfl,(by simp only[Zak, *];rfl),(fun _ _=>rfl),rune_lower⟩,rfl⟩
 ·go_ret;exact⟨_,rfl,Or.inr ⟨_,_,rfl,(by simp only[Zak, *];rfl),(fun _ _=>rfl),rune_upper⟩,rfl⟩
 ·go_ret;exact⟨_,rfl,Or.inr ⟨_,_,rfl,(by simp only[Zak, *];rfl),(fun _ _=>rfl),rune_Alpha⟩,rfl⟩
 ·go_ret;exact⟨_,rfl,Or.inr ⟨_,_,rfl,(by simp only[Zak, *];rfl),(fun _ _=>rfl),rune_digit⟩,rfl⟩
 ·go_ret;exact⟨_,rfl,Or.inr ⟨_,_,rfl,(by simp only[Zak, *];rfl),(fun _ _=>rfl),rune_Alnum⟩,rfl⟩
 ·go_ret;exact⟨_,rfl,Or.inr ⟨_,_,rfl,(by simp only[Zak, *];rfl),(fun _ _=>rfl),Zg2⟩,rfl⟩
 ·go_ret;exact⟨_,rfl,Or.inr ⟨_,_,rfl,(by simp only[Zak, *];rfl),(fun _ _=>rfl),rune_blank⟩,rfl⟩
 ·go_ret;exact⟨_,rfl,Or.inr ⟨_,_,rfl,(by simp only[Zak, *];rfl),(fun _ _=>rfl),ZiW⟩,rfl⟩
 ·go_ret;exact⟨_,rfl,Or.inr ⟨_,_,rfl,(by simp only[Zak, *];rfl),(fun _ _=>rfl),ZiX⟩,rfl⟩
 ·go_ret;exact⟨_,rfl,Or.inr ⟨_,_,rfl,(by simp only[Zak, *];rfl),(fun _ _=>rfl),ZiY⟩,rfl⟩
 ·go_ret;exact⟨_,rfl,Or.inr ⟨_,_,rfl,(by simp only[Zak, *];rfl),(fun _ _=>rfl),rune_graph⟩,rfl⟩
 ·go_ret;exact⟨_,rfl,Or.inr ⟨_,_,rfl,(by simp only[Zak, *];rfl),(fun _ _=>rfl),ZiZ⟩,rfl⟩
 ·go_ret;exact⟨_,rfl,Or.inl ⟨rfl,(by simp only[Zak, *];rfl)⟩,rfl⟩
def pk(p:Int→Bool):Nat→S4
 |0=>S4.zero
 |k+1=>if p k then(pk p k).put k else pk p k
theorem pick_any(f:FuncId)(p:Int→Bool)(w:World)(hn:ZqL f)(hf:Zbd f p):
 Calls Tryz.prog 221 #[.func (.func f) #[] #[]] w fun e w'=>e=.returned (.agg (pk p 256).cells.toArray)∧Fr nob w w':=by
 go_enter Tryz.func221,Tryz.ntmps221;go_wp2_with fail;obtain⟨w0,g⟩:∃w0,w0=((w.alloc (.cells S4.zero.cells.toArray 132)).alloc (.cells S4.zero.cells.toArray 132)):=⟨_,rfl⟩;have f0:Fr nob w w0:=by rw[g];exact((Fr.refl _ _).alloc _).alloc _
 have m:w0.heap[w.heap.size]? =some (.cells S4.zero.cells.toArray 132 (0,0)):=by rw[g];exact Ze _ (heap_alloc_new _ _)
 have l:w0.heap[w.heap.size+1]? =some (.cells S4.zero.cells.toArray 132 (0,0)):=by
  rw[g];have:=heap_alloc_new (w.alloc (.cells S4.zero.cells.toArray 132)) (.cells S4.zero.cells.toArray 132);simpa using this
 change Code.wp _ _ _ _ ((w.alloc (.cells S4.zero.cells.toArray 132)).alloc (.cells S4.zero.cells.toArray 132));rw[←g];have F0:=hid f0;have q:=hid m;have r:=hid l;clear f0 m l g
 go_loopw [5] (fun i wr=>∃k:Nat,i=.int .i32 k∧k≤256∧wr.heap[w.heap.size+1]? =some (.cells (pk p k).cells.toArray 132 (0,0))∧Fr (fun k=>k=w.heap.size+1) w0 wr) (fun i _=>256-(intOf i).toNat)
 case atStart=>exact⟨0,rfl,Nat.zero_le _,r.out,Fr.refl _ _⟩
 case round=>
  obtain⟨k,rfl,hk,hb,fr⟩:=hrel;have HB:=hid hb;have FR:=hid fr;clear hb fr;have FW:=hid (F0.out.trans FR.out (fun i hi x=>by omega));by_cases n:k<256
  ·cases hp:p k with
   |true=>
    have j:=hid (show pk p (k+1)=(pk p k).put k by simp[pk,hp]);have HP:=hid hp;clear hp;go_wp2_with fail;rw[hn];refine(hf k _).mono ?_;rw[HP.out];rintro e w3 ⟨rfl,rfl⟩;go_wp2_with fail;refine(add_any (w.heap.size+1) _ k _ n HB.out).mono ?_;rintro e w3 ⟨rfl,h3,f3⟩;have H3:=hid h3;have F3:=hid f3;clear h3 f3;go_wp2;go_roundw
    case rel=>exact⟨k+1,by go_num,by omega,by rw[j.out];exact H3.out,FR.out.trans' F3.out⟩
    case measure=>simp[intOf];omega
   |false=>
    have j:=hid (show pk p (k+1)=pk p k by simp[pk,hp]);have HP:=hid hp;clear hp;go_wp2_with fail;rw[hn];refine(hf k _).mono ?_;rw[HP.out];rintro e w3 ⟨rfl,rfl⟩;go_wp2;go_roundw
    case rel=>exact⟨k+1,by go_num,by omega,by rw[j.out];exact HB.out,FR.out⟩
    case measure=>simp[intOf];omega
  ·obtain rfl:k=256:=by omega
   have hb:=HB.out;obtain⟨c0,c1,c2,c3,_⟩:=Zcn hb;have hr:=FR.out.heap q.out (fun e=>by omega);obtain⟨_,_,_,_,f0,f1,f2,f3⟩:=Zcn hr;have u:=lt_heap hr;have t:=lt_heap hb;have v:=hid hb;have o:=hid hr;clear hb hr;go_wp2;(try simp only[Exit.inBlock,Exit.then]);have hW:=Za (Za (Za (Za o.out 0 (.int .u64 (pk p 256).a)) 1 (.int .u64 (pk p 256).b)) 2 (.int .u64 (pk p 256).c)) 3 (.int .u64 (pk p 256).d);refine bodyPost_ret (Zs (s:=pk p 256) rfl rfl hW) rfl ⟨rfl,?_⟩;exact(((FW.out.setCell (p:=⟨w.heap.size,0,none⟩) (fun h=>absurd h (Nat.lt_irrefl _)) _).setCell (p:=⟨w.heap.size,1,none⟩) (fun h=>absurd h (Nat.lt_irrefl _)) _).setCell (p:=⟨w.heap.size,2,none⟩) (fun h=>absurd h (Nat.lt_irrefl _)) _).setCell (p:=⟨w.heap.size,3,none⟩) (fun h=>absurd h (Nat.lt_irrefl _)) _
def ZaD(o:Option (Int→Bool)):S4:=match o with
 |none=>S4.zero
 |some p=>pk p 256
theorem ZfH(w:World):(binOp .eql 264 .nilFunc .nilFunc).run Tryz.prog w=.ok (.bool true) w:=by kernel_rfl
theorem ZlV(f:FuncId)(w:World):(binOp .eql 264 (.func (.func f) #[] #[]) .nilFunc).run Tryz.prog w=.ok (.bool false) w:=by kernel_rfl
theorem Zdq{fn:Func}{p q:Tmp}(h:fn.results= #[.cell p 132,.tmp q]){tmps:Array Value}{r:Nat}(ht:tmps.getD p undef=.pointer (some ⟨r,0,none⟩)){v:Value}(hq:tmps.getD q undef=v){W:World}{s:S4}
 (hb:W.heap[r]? =some (.cells s.cells.toArray 132 (0,0))):(results fn tmps).run Tryz.prog W=.ok (.tuple #[.agg s.cells.toArray,v]) W:=by
 obtain⟨c0,c1,c2,c3,_⟩:=Zcn hb;have a:tmps[p]?.getD undef=.pointer (some ⟨r,0,none⟩):=by rw[←ht];simp
 have b:tmps[q]?.getD undef=v:=by rw[←hq];simp
 simp only[results,h];simp[a,b,go_sem,c0,c1,c2,c3,S4.cells]
theorem ZfI(s:ByteArray)(w:World):Calls Tryz.prog 209 #[.string s] w fun e w'=>e=.returned (.tuple #[.agg (ZaD (Zak s)).cells.toArray,.bool (Zak s).isSome])∧Fr nob w w':=by
 obtain⟨o,ho⟩:∃o,Zak s=o:=⟨_,rfl⟩;rw[ho];have HO:=hid ho;clear ho;have q0:=ZfH;have q1:=ZlV;go_enter Tryz.func209,Tryz.ntmps209;go_wp2_with fail;refine(class_any s _).mono ?_;rw[HO.out];rintro e w1 ⟨v,rfl,hc,rfl⟩;rcases hc with⟨rfl,rfl⟩|⟨f,p,rfl,rfl,hn,hf⟩
 ·go_wp2;(try simp only[Exit.inBlock,Exit.then]);exact bodyPost_ret (Zdq (s:=S4.zero) rfl rfl rfl (Zg _ _ _ (by simp))) rfl ⟨rfl,(Fr.refl _ _).alloc _⟩
 ·go_wp2_with fail;refine(pick_any f p _ hn hf).mono ?_;rintro e w1 ⟨he,h1⟩;rw[S4.cells_eq]at he;subst he;have hb:=h1.heap (heap_alloc_new w (.cells S4.zero.cells.toArray 132)) (fun x=>x);obtain⟨c0,c1,c2,c3,f0,f1,f2,f3⟩:=Zcn hb;have HB:=hid hb;have F1:=hid h1;clear h1 hb;go_wp2;(try simp only[Exit.inBlock,Exit.then]);exact bodyPost_ret (Zdq (s:=pk p 256) rfl rfl rfl (setFour_heap HB.out _ _ _ _)) rfl ⟨rfl,Zp (((Fr.refl _ _).alloc _).trans' F1.out) (Nat.le_refl _) _ _ _ _⟩
def spanTo(a:Nat):Nat→S4
 |0=>S4.zero
 |n+1=>(spanTo a n).put (a+n)
def spn(a b:Nat):S4:=spanTo a (b+1-a)
theorem S4.word_not(s:S4)(d:Nat):wd (s.not.word d)= ~~~ wd (s.word d):=by
 unfold S4.word S4.not;split<;>exact ZvN _
theorem Zvm(s:S4)(d:Nat):s.not.has d= !s.has d:=by
 unfold S4.has;rw[S4.word_not,BitVec.getLsbD_not];have:d%64<64:=Nat.mod_lt _ (by decide);simp[this]
theorem ZcO(d:Nat):S4.zero.has d=false:=by
 unfold S4.has S4.word S4.zero;have:wd 0=0#64:=by decide
 split<;>rw[this]<;>simp
theorem Zph(s t:S4):(s.or t).fit:=⟨ZaT .or s.a t.a,ZaT .or s.b t.b,ZaT .or s.c t.c,ZaT .or s.d t.d⟩
theorem ZnE(s:S4):s.not.fit:=⟨ZaT .xor _ s.a,ZaT .xor _ s.b,ZaT .xor _ s.c,ZaT .xor _ s.d⟩
theorem ZlW:Fit 0:=⟨by decide,by decide⟩
theorem ZaU:S4.zero.fit:=⟨ZlW,ZlW,ZlW,ZlW⟩
theorem Ze3(x:Int)(n:Nat):Fit (orw x n):=ZaT .or x _
theorem fit_put{s:S4}(h:s.fit)(d:Nat):(s.put d).fit:=by
 unfold S4.put;split
 ·exact⟨Ze3 _ _,h.2.1,h.2.2.1,h.2.2.2⟩
 ·exact⟨h.1,Ze3 _ _,h.2.2.1,h.2.2.2⟩
 ·exact⟨h.1,h.2.1,Ze3 _ _,h.2.2.2⟩
 ·exact⟨h.1,h.2.1,h.2.2.1,Ze3 _ _⟩
theorem ZlX(l:List UInt8):∀{s:S4},s.fit→(s.puts l).fit:=by
 induction l with
 |nil=>intro s h;exact h
 |cons c r ih=>intro s h;exact ih (fit_put h _)
theorem fit_spanTo(a:Nat):∀n,(spanTo a n).fit
 |0=>ZaU
 |n+1=>fit_put (fit_spanTo a n) _
theorem fit_spn(a b:Nat):(spn a b).fit:=fit_spanTo _ _
theorem Zic(p:Int→Bool):∀n,(pk p n).fit
 |0=>ZaU
 |n+1=>by unfold pk;split;exact fit_put (Zic p n) _;exact Zic p n
theorem Zdd(o:Option (Int→Bool)):(ZaD o).fit:=by
 unfold ZaD;split;exact ZaU;exact Zic _ _
theorem S4.ext_has{s t:S4}(hs:s.fit)(ht:t.fit)(h:∀d,d<256→s.has d=t.has d):s=t:=by
 have e:∀q,q<4→wd (s.word (64*q))=wd (t.word (64*q)):=by
  intro q hq;apply BitVec.eq_of_getLsbD_eq;intro i hi;have:=h (64*q+i) (by omega);unfold S4.has at this;have w1:∀u:S4,u.word (64*q+i)=u.word (64*q):=fun u=>by
   unfold S4.word;rw[show(64*q+i)/64=64*q/64 by omega]
  rw[w1,w1,show(64*q+i)%64=i by omega]at this;exact this
 obtain⟨a,b,c,d⟩:=s;obtain⟨a',b',c',d'⟩:=t;have h0:=Zh8 hs.1 ht.1 (e 0 (by decide));have h1:=Zh8 hs.2.1 ht.2.1 (e 1 (by decide));have h2:=Zh8 hs.2.2.1 ht.2.2.1 (e 2 (by decide));have h3:=Zh8 hs.2.2.2 ht.2.2.2 (e 3 (by decide));subst h0;subst h1;subst h2;subst h3;rfl
theorem Zpi:∀n:Fin 64,wd (IntKind.u64.wrap (2^n.val))=BitVec.twoPow 64 n.val:=by decide +kernel
theorem Zpj(x:Int){n:Nat}(h:n<64):wd (orw x n)=wd x|||BitVec.twoPow 64 n:=by
 unfold orw;rw[Zqf,Zpi ⟨n,h⟩]
theorem ZlY(s:S4)(d e:Nat)(hd:d<256)(he:e<256):wd ((s.put d).word e)=if d/64=e/64 then wd (s.word e)|||BitVec.twoPow 64 (d%64)else wd (s.word e):=by
 have hm:d%64<64:=Nat.mod_lt _ (by decide);have hq:d/64=0∨d/64=1∨d/64=2∨d/64=3:=by omega
 have hr:e/64=0∨e/64=1∨e/64=2∨e/64=3:=by omega
 unfold S4.put S4.word;rcases hq with hq|hq|hq|hq<;>rcases hr with hr|hr|hr|hr<;>simp[hq,hr,Zpj,hm]
theorem ZjW(s:S4)(d e:Nat)(hd:d<256)(he:e<256):(s.put d).has e=(decide (d=e)||s.has e):=by
 unfold S4.has;rw[ZlY s d e hd he];split
 ·next h=>
  rw[BitVec.getLsbD_or,BitVec.getLsbD_twoPow,Bool.or_comm]
  congr 1
  have:d%64<64:=Nat.mod_lt _ (by decide);simp only[this,decide_true,Bool.true_and];rw[decide_eq_decide];omega
 ·next h=>
  have:d≠e:=fun x=>h (by rw[x]);simp[this]
theorem ZlZ(l:List UInt8)(e:Nat)(he:e<256):∀s:S4,(s.puts l).has e=(l.any (fun c=>decide (c.toNat=e))||s.has e):=by
 induction l with
 |nil=>intro s;simp[S4.puts]
 |cons c r ih=>
  intro s;rw[S4.puts,ih,ZjW _ _ _ c.toNat_lt he,List.any_cons];cases decide (c.toNat=e)<;>cases r.any (fun c=>decide (c.toNat=e))<;>simp
theorem Zi0(a e:Nat)(he:e<256):∀n,a+n≤256→(spanTo a n).has e=(decide (a≤e)&&decide (e<a+n)):=by
 intro n;induction n with
 |zero=>intro _;rw[spanTo,ZcO];simp<;>omega
 |succ n ih=>
  intro h;rw[spanTo,ZjW _ _ _ (by omega) he,ih (by omega)];rw[Bool.eq_iff_iff];simp;omega
theorem Zg3(a b e:Nat)(ha:a<256)(hb:b<256)(he:e<256):(spn a b).has e=(decide (a≤e)&&decide (e≤b)):=by
 unfold spn;rcases Nat.lt_or_ge b a with h|h
 ·rw[show b+1-a=0 by omega];rw[spanTo,ZcO];simp<;>omega
 ·rw[Zi0 _ _ he _ (by omega)];rw[Bool.eq_iff_iff];simp;omega
theorem Zuv(p:Nat→Bool):∀n,ZsI (fun i=> !p i) n+ZsI p n=n
 |0=>rfl
 |n+1=>by
  have ih:=Zuv p n;have hb:∀a:Bool,(if(!a)=true then 1 else 0)+(if a=true then 1 else 0)=1:=by decide
  have:=hb (p n);simp only[ZsI];omega
theorem Zvn{s:S4}(hs:s.fit):s.not.len+s.len=256:=by
 have h1:ZsI s.not.has 256=ZsI (fun i=> !s.has i) 256:=ZsF fun i _=>Zvm _ _;rw[←Zuu (ZnE s),←Zuu hs,h1,Zuv]
theorem len_le{s:S4}(hs:s.fit):s.len≤256:=by have:=Zvn hs;omega
def Tab(w:World):Prop:=∀j,j<64→w.cell? ⟨3,j,none⟩=some (.int .u8 (Lib.deBruijn64tab.getD j 0:Nat))
theorem Tab.on{w w':World}(h:Tab w)(f:Fr nob w w'):Tab w':=fun j hj=>f.cell (h j hj) (fun x=>x)
theorem Tab.on2{w w':World}{S:Nat→Prop}(h:Tab w)(f:Fr S w w')(hn:¬S 3):Tab w':=fun j hj=>f.cell (h j hj) hn
theorem Tab.lt{w:World}(h:Tab w):3<w.heap.size:=World.block_lt_of_cell? w _ (h 0 (by decide))
theorem Zpk(x a:Nat)(hx:x<18446744073709551616)(hx0:x≠0)(hlow:x&&& (18446744073709551616-x)=a):
 IntKind.u64.wrap (bits .and .u64 (x:Int) (IntKind.u64.wrap (-(x:Int)))*285870213051353865)/288230376151711744=((a*285870213051353865%18446744073709551616/288230376151711744:Nat):Int):=by
 have e1:IntKind.u64.wrap (-(x:Int))=((18446744073709551616-x:Nat):Int):=by rw[IntKind.wrap_u64];omega
 rw[e1,bits_and_u64_nat x _ hx (by omega),hlow,IntKind.wrap_u64];omega
theorem tz_any(x:Nat)(hx:x<18446744073709551616)(hx0:x≠0)(w:World)(hT:Tab w):
 Calls Tryz.prog 187 #[.int .u64 x] w fun e w'=>e=.returned (.int .i64 (Lib.ctz 64 x))∧w=w':=by
 obtain⟨d,hk⟩:=Lib.lowest_bit 64 x hx0 hx;obtain⟨hi,c⟩:=Lib.deBruijn64_at _ hk;have b:=Zpk x _ hx hx0 d;have a:=hT _ hi;rw[c]at a;obtain⟨k,g⟩:∃k,Lib.ctz 64 x=k:=⟨_,rfl⟩;rw[g]at a hk b hi⊢;obtain⟨j,f⟩:∃i,2^k*285870213051353865%18446744073709551616/288230376151711744=i:=⟨_,rfl⟩;rw[f]at a b hi;have h0:((x:Int)==0)=false:=by simp;omega
 have h:=hid b;clear d c g f hx hx0 hT b;go_enter Tryz.func187,Tryz.ntmps187;go_wp2_with(simp only[h.out]);go_ret;exact⟨rfl,rfl⟩
theorem ZfJ{x:Nat}(hx0:x≠0)(hx:x<18446744073709551616):Lib.ctz 64 x<64:=(Lib.lowest_bit 64 x hx0 hx).2
theorem Zl0{x:Nat}(hx0:x≠0)(hx:x<18446744073709551616):x.testBit (Lib.ctz 64 x)=true∧∀i,i<Lib.ctz 64 x→x.testBit i=false:=by
 unfold Lib.ctz;rw[if_neg hx0];obtain⟨m,hm,_⟩:=Lib.ctzFrom_spec 64 x (by omega) hx;generalize Lib.ctzFrom 64 x=k at *;subst hm;constructor
 ·rw[Nat.testBit_eq_decide_div_mod_eq,Nat.mul_div_cancel_left _ (Nat.two_pow_pos k)];simp
 ·intro i hi;rw[Nat.testBit_eq_decide_div_mod_eq];obtain⟨d,rfl⟩:∃d,k=i+(d+1):=⟨k-i-1,by omega⟩;rw[Nat.pow_add,Nat.mul_assoc,Nat.mul_div_cancel_left _ (Nat.two_pow_pos i),Nat.pow_succ];simp;rw[Nat.mul_assoc,Nat.mul_comm,Nat.mul_assoc];omega
def Zbi(s:S4)(d:Nat)(b:Bool):Prop:=(b=false∧d=0∧s=S4.zero)∨(b=true∧d<256∧s.has d=true∧∀e,e<d→s.has e=false)
theorem Zbi.uniq{s:S4}{d d':Nat}{b b':Bool}(h:Zbi s d b)(h':Zbi s d' b'):d=d'∧b=b':=by
 rcases h with⟨rfl,rfl,rfl⟩|⟨rfl,h1,h2,h3⟩<;>rcases h' with⟨rfl,rfl,h'⟩|⟨rfl,e,a,c⟩
 ·exact⟨rfl,rfl⟩
 ·rw[ZcO]at a;cases a
 ·subst h';rw[ZcO]at h2;cases h2
 ·refine⟨?_,rfl⟩;rcases Nat.lt_trichotomy d d' with h|h|h
  ·rw[c d h]at h2;cases h2
  ·exact h
  ·rw[h3 d' h]at a;cases a
theorem word_bit{x:Int}(h:Fit x)(i:Nat):(wd x).getLsbD i=x.toNat.testBit i:=by
 have:=Zh7 h;have e:(wd x).toNat=x.toNat:=by omega
 rw[BitVec.getLsbD,e]
theorem S4.has_word{s:S4}(hs:s.fit)(q i:Nat)(hq:q<4)(hi:i<64):s.has (64*q+i)=(s.word (64*q)).toNat.testBit i:=by
 unfold S4.has;have hw:s.word (64*q+i)=s.word (64*q):=by unfold S4.word;rw[show(64*q+i)/64=64*q/64 by omega]
 have hf:Fit (s.word (64*q)):=by unfold S4.word;split;exact hs.1;exact hs.2.1;exact hs.2.2.1;exact hs.2.2.2
 rw[hw,word_bit hf,show(64*q+i)%64=i by omega]
def S4.noughts(s:S4)(q:Nat):Prop:=∀r,r<q→s.word (64*r)=0
theorem ZcP{s:S4}(hs:s.fit){q:Nat}(hq:q<4)(h0:s.noughts q)(x:Nat)(hx:s.word (64*q)=(x:Int))(hx0:x≠0):Zbi s (64*q+Lib.ctz 64 x) true:=by
 have hf:Fit (s.word (64*q)):=by unfold S4.word;split;exact hs.1;exact hs.2.1;exact hs.2.2.1;exact hs.2.2.2
 have a:x<18446744073709551616:=by have:=hf.2;omega
 have hc:=ZfJ hx0 a;obtain⟨b1,b2⟩:=Zl0 hx0 a;refine .inr ⟨rfl,by omega,?_,?_⟩
 ·rw[S4.has_word hs q _ hq hc,hx];exact b1
 ·intro e he;have hd:e=64*(e/64)+e%64:=by omega
  have hm:e%64<64:=Nat.mod_lt _ (by decide);rw[hd,S4.has_word hs _ _ (by omega) hm];rcases Nat.lt_or_ge (e/64) q with h|h
  ·rw[h0 _ h];simp
  ·have:e/64=q:=by omega
   rw[this,hx];exact b2 _ (by omega)
theorem Zi1{s:S4}(h0:s.noughts 4):Zbi s 0 false:=by
 refine .inl ⟨rfl,rfl,?_⟩;obtain⟨a,b,c,d⟩:=s;have e0:=h0 0 (by decide);have e1:=h0 1 (by decide);have e2:=h0 2 (by decide);have e3:=h0 3 (by decide);simp[S4.word]at e0 e1 e2 e3;subst e0;subst e1;subst e2;subst e3;rfl
theorem ZnF(a b c d:Value)(w:World):(Instr.index 132 (.agg #[a,b,c,d]) (.int .i64 0)).run Tryz.prog w=.ok a w:=by kernel_rfl
theorem ZnG(a b c d:Value)(w:World):(Instr.index 132 (.agg #[a,b,c,d]) (.int .i64 1)).run Tryz.prog w=.ok b w:=by kernel_rfl
theorem ZnH(a b c d:Value)(w:World):(Instr.index 132 (.agg #[a,b,c,d]) (.int .i64 2)).run Tryz.prog w=.ok c w:=by kernel_rfl
theorem ZnI(a b c d:Value)(w:World):(Instr.index 132 (.agg #[a,b,c,d]) (.int .i64 3)).run Tryz.prog w=.ok d w:=by kernel_rfl
def Zpl(s:S4)(w:World)(e:Ending)(w':World):Prop:=∃(d:Nat) (b:Bool),e=.returned (.tuple #[.int .u8 d,.bool b])∧Zbi s d b∧Fr nob w w'
theorem least_any(s:S4)(w:World)(hs:s.fit)(hT:Tab w):
 Calls Tryz.prog 168 #[.agg #[.int .u64 s.a,.int .u64 s.b,.int .u64 s.c,.int .u64 s.d]] w (Zpl s w):=by
 obtain⟨s0,s1,s2,s3⟩:=s;obtain⟨x0,rfl⟩:∃x:Nat,s0=(x:Int):=⟨s0.toNat,by have:=hs.1.1;simp only at this;omega⟩;obtain⟨x1,rfl⟩:∃x:Nat,s1=(x:Int):=⟨s1.toNat,by have:=hs.2.1.1;simp only at this;omega⟩;obtain⟨x2,rfl⟩:∃x:Nat,s2=(x:Int):=⟨s2.toNat,by have:=hs.2.2.1.1;simp only at this;omega⟩;obtain⟨x3,rfl⟩:∃x:Nat,s3=(x:Int):=⟨s3.toNat,by have:=hs.2.2.2.1;simp only at this;omega⟩;have b0:x0<18446744073709551616:=by have:=hs.1.2;simp only at this;omega
 have b1:x1<18446744073709551616:=by have:=hs.2.1.2;simp only at this;omega
 have b2:x2<18446744073709551616:=by have:=hs.2.2.1.2;simp only at this;omega
 have b3:x3<18446744073709551616:=by have:=hs.2.2.2.2;simp only at this;omega
 have B0:=hid b0;have B1:=hid b1;have B2:=hid b2;have B3:=hid b3;clear b0 b1 b2 b3;have HS:=hid hs;have i0:=ZnF;have i1:=ZnG;have i2:=ZnH;have i3:=ZnI;have HT:=hid (hT.on ((Fr.refl nob w).alloc (.cells #[.int .u64 x0,.int .u64 x1,.int .u64 x2,.int .u64 x3] 132)));clear hT hs;go_enter Tryz.func168,Tryz.ntmps168;go_wp2_with fail
 go_loop [7] (fun i=>∃k:Nat,i=.int .i64 k∧k≤4∧(S4.mk (x0:Int) x1 x2 x3).noughts k) (fun i=>4-(intOf i).toNat)
 case atStart=>exact⟨0,rfl,by omega,fun r hr=>by omega⟩
 case round=>
  obtain⟨k,rfl,hk,h0⟩:=hrel;have H0:=hid h0;clear h0;have g:k=0∨k=1∨k=2∨k=3∨k=4:=by omega
  rcases g with rfl|rfl|rfl|rfl|rfl
  ·by_cases f:x0=0
   ·have HN:=hid (show(S4.mk (x0:Int) x1 x2 x3).noughts 1 from fun r hr=>by
     rcases Nat.lt_or_ge r 0 with h|h
     ·exact H0.out r h
     ·obtain rfl:r=0:=by omega
      show(x0:Int)=0;omega)
    have t0:((x0:Int) !=0)=false:=by simp;omega
    clear f;go_wp2
    go_round
    case rel=>exact⟨1,by go_num,by omega,HN.out⟩
    case measure=>simp[intOf]
   ·have t0:((x0:Int) !=0)=true:=by simp;omega
    have HL:=hid (ZcP HS.out (q:=0) (by decide) H0.out x0 rfl f);have hc:=ZfJ f B0.out;have hT:=HT.out;go_wp2_with fail;refine(tz_any x0 B0.out f _ hT).mono ?_;rintro e w' ⟨rfl,rfl⟩;go_wp2;go_ret2;exact⟨_,true,by simp,HL.out,(Fr.refl _ _).alloc _⟩
  ·by_cases f:x1=0
   ·have HN:=hid (show(S4.mk (x0:Int) x1 x2 x3).noughts 2 from fun r hr=>by
     rcases Nat.lt_or_ge r 1 with h|h
     ·exact H0.out r h
     ·obtain rfl:r=1:=by omega
      show(x1:Int)=0;omega)
    have t0:((x1:Int) !=0)=false:=by simp;omega
    clear f;go_wp2
    go_round
    case rel=>exact⟨2,by go_num,by omega,HN.out⟩
    case measure=>simp[intOf]
   ·have t0:((x1:Int) !=0)=true:=by simp;omega
    have HL:=hid (ZcP HS.out (q:=1) (by decide) H0.out x1 rfl f);have hc:=ZfJ f B1.out;have hT:=HT.out;go_wp2_with fail;refine(tz_any x1 B1.out f _ hT).mono ?_;rintro e w' ⟨rfl,rfl⟩;go_wp2;go_ret2;exact⟨_,true,by simp,HL.out,(Fr.refl _ _).alloc _⟩
  ·by_cases f:x2=0
   ·have HN:=hid (show(S4.mk (x0:Int) x1 x2 x3).noughts 3 from fun r hr=>by
     rcases Nat.lt_or_ge r 2 with h|h
     ·exact H0.out r h
     ·obtain rfl:r=2:=by omega
      show(x2:Int)=0;omega)
    have t0:((x2:Int) !=0)=false:=by simp;omega
    clear f;go_wp2
    go_round
    case rel=>exact⟨3,by go_num,by omega,HN.out⟩
    case measure=>simp[intOf]
   ·have t0:((x2:Int) !=0)=true:=by simp;omega
    have HL:=hid (ZcP HS.out (q:=2) (by decide) H0.out x2 rfl f);have hc:=ZfJ f B2.out;have hT:=HT.out;go_wp2_with fail;refine(tz_any x2 B2.out f _ hT).mono ?_;rintro e w' ⟨rfl,rfl⟩;go_wp2;go_ret2;exact⟨_,true,by simp,HL.out,(Fr.refl _ _).alloc _⟩
  ·by_cases f:x3=0
   ·have HN:=hid (show(S4.mk (x0:Int) x1 x2 x3).noughts 4 from fun r hr=>by
     rcases Nat.lt_or_ge r 3 with h|h
     ·exact H0.out r h
     ·obtain rfl:r=3:=by omega
      show(x3:Int)=0;omega)
    have t0:((x3:Int) !=0)=false:=by simp;omega
    clear f;go_wp2
    go_round
    case rel=>exact⟨4,by go_num,by omega,HN.out⟩
    case measure=>simp[intOf]
   ·have t0:((x3:Int) !=0)=true:=by simp;omega
    have HL:=hid (ZcP HS.out (q:=3) (by decide) H0.out x3 rfl f);have hc:=ZfJ f B3.out;have hT:=HT.out;go_wp2_with fail;refine(tz_any x3 B3.out f _ hT).mono ?_;rintro e w' ⟨rfl,rfl⟩;go_wp2;go_ret2;exact⟨_,true,by simp,HL.out,(Fr.refl _ _).alloc _⟩
  ·go_wp2;go_ret2;exact⟨0,false,rfl,Zi1 H0.out,(Fr.refl _ _).alloc _⟩
theorem Zl1(a b:Nat)(w:World)(ha:a<256)(hb:b<256):
 Calls Tryz.prog 255 #[.int .u8 a,.int .u8 b] w fun e w'=>e=.returned (.agg (spn a b).cells.toArray)∧Fr nob w w':=by
 go_enter Tryz.func255,Tryz.ntmps255;go_wp2_with fail;obtain⟨w0,c⟩:∃w0,w0=((w.alloc (.cells S4.zero.cells.toArray 132)).alloc (.cells S4.zero.cells.toArray 132)):=⟨_,rfl⟩;have f0:Fr nob w w0:=by rw[c];exact((Fr.refl _ _).alloc _).alloc _
 have g:w0.heap[w.heap.size]? =some (.cells S4.zero.cells.toArray 132 (0,0)):=by rw[c];exact Ze _ (heap_alloc_new _ _)
 have f:w0.heap[w.heap.size+1]? =some (.cells S4.zero.cells.toArray 132 (0,0)):=by
  rw[c];have:=heap_alloc_new (w.alloc (.cells S4.zero.cells.toArray 132)) (.cells S4.zero.cells.toArray 132);simpa using this
 change Code.wp _ _ _ _ ((w.alloc (.cells S4.zero.cells.toArray 132)).alloc (.cells S4.zero.cells.toArray 132));rw[←c];have F0:=hid f0;have l:=hid g;have m:=hid f;clear f0 g f c
 go_loopw [6] (fun i wr=>∃k:Nat,i=.int .i64 (a+k:Nat)∧(k=0∨a+k≤b+1)∧wr.heap[w.heap.size+1]? =some (.cells (spanTo a k).cells.toArray 132 (0,0))∧Fr (fun k=>k=w.heap.size+1) w0 wr) (fun i _=>256-(intOf i).toNat)
 case atStart=>exact⟨0,rfl,.inl rfl,m.out,Fr.refl _ _⟩
 case round=>
  obtain⟨k,rfl,hk,d,fr⟩:=hrel;have HB:=hid d;have FR:=hid fr;clear d fr;have FW:=hid (F0.out.trans FR.out (fun i hi x=>by omega));obtain⟨n,hn⟩:∃n,a+k=n:=⟨_,rfl⟩;rw[hn];have HN:=hid hn;by_cases o:n≤b
  ·have wn:IntKind.u8.wrap (n:Int)=(n:Int):=IntWalk.u8_in _ (by omega);clear hn hk;go_wp2_with fail;refine(add_any (w.heap.size+1) _ n _ (by omega) HB.out).mono ?_;rintro e w3 ⟨rfl,h3,f3⟩;have H3:=hid h3;have F3:=hid f3;clear h3 f3;go_wp2;go_roundw
   case rel=>exact⟨k+1,by have:=HN.out;congr 1;omega,.inr (by have:=HN.out;omega),by have:=H3.out;rw[←HN.out]at this;exact this,FR.out.trans' F3.out⟩
   case measure=>simp[intOf];omega
  ·have j:=hid (show spanTo a k=spn a b by unfold spn;congr 1;omega);clear hn hk;have hb:=HB.out;rw[j.out]at hb;obtain⟨c0,c1,c2,c3,_⟩:=Zcn hb;have hr:=FR.out.heap l.out (fun e=>by omega);obtain⟨_,_,_,_,f0,f1,f2,f3⟩:=Zcn hr;have q:=lt_heap hr;have p:=lt_heap hb;have r:=hid hb;have h:=hid hr;clear hb hr;go_wp2;(try simp only[Exit.inBlock,Exit.then]);exact bodyPost_ret (Zs (s:=spn a b) rfl rfl (setFour_heap h.out _ _ _ _)) rfl ⟨rfl,Zp FW.out (Nat.le_refl _) _ _ _ _⟩
open Go.RowKit Go.MapKept
def Zuc(w:World)(m:Nat)(cl:List Nat):Prop:=∃es clock,w.heap[m]? =some (.map es clock)∧Stamped es clock∧
 (∀x∈es.toList,∃k:Nat,x.key=.int .i64 k∧x.val=.int .i64 (cl.count k:Nat))∧(∀k∈cl,∃x∈es.toList,x.key=.int .i64 (k:Nat))
theorem Zuc.fr{X:Nat→Prop}{w w':World}{m:Nat}{cl:List Nat}(h:Zuc w m cl)(f:Fr X w w')(hm:¬X m):Zuc w' m cl:=by
 obtain⟨es,a,hb,h⟩:=h;exact⟨es,a,f.heap hb hm,h⟩
theorem Zuc.lt{w:World}{m:Nat}{cl:List Nat}(h:Zuc w m cl):m<w.heap.size:=by obtain⟨es,a,hb,_⟩:=h;exact lt_heap hb
theorem Zuc.new{w:World}{m:Nat}(h:w.heap[m]? =some (.map #[] 0)):Zuc w m []:=⟨#[],0,h,stamped_empty 0,by simp,by simp⟩
theorem Zce{w:World}{m:Nat}(o:Obj):Fr (fun k=>k=m) w {w with heap:=w.heap.setIfInBounds m o}:=
 ⟨rfl,rfl,rfl,by simp,fun k hk hn=>by simp[Array.getElem?_setIfInBounds_ne (Ne.symm hn)]⟩
theorem Zfz{α:Type}{l:List α}(h:l.Nodup){i j:Nat}(hi:i<l.length)(e:l[i]? =l[j]?):i=j:=by
 have hj:j<l.length:=by
  rw[List.getElem?_eq_getElem hi]at e;exact(List.getElem?_eq_some_iff.1 e.symm).1
 rw[List.getElem?_eq_getElem hi,List.getElem?_eq_getElem hj]at e;injection e with e;have hp:=List.pairwise_iff_getElem.1 h;rcases Nat.lt_trichotomy i j with a|rfl|a
 ·exact absurd e (hp i j hi hj a)
 ·rfl
 ·exact absurd e.symm (hp j i hj hi a)
section
variable {P:Program} {mty kt et:TypeId}
theorem ZfA(hm:P.underlying mty=some (.map kt et))(hd:P.underlying kt=some (.int .i64))(hz:∀w,(zeroValue et).run P w=.ok (.int .i64 0) w){w:World}{m:Nat}{cl:List Nat}(h:Zuc w m cl)(n:Nat):
 (Instr.lookup mty (.map (some m)) (.int .i64 n) false).run P w=.ok (.int .i64 (cl.count n:Nat)) w:=by
 obtain⟨es,c,hb,hs,hv,hk⟩:=h;have b:∀x∈es.toList,IsKey (.int .i64) x.key:=fun x hx=>by obtain⟨k,e,_⟩:=hv x hx;rw[e];rfl
 have a:IsKey (.int .i64) (.int .i64 (n:Int)):=rfl;rcases findNow_spec a es.toList 0 b with⟨h1,h2⟩|⟨j,e,h1,h2,h3⟩
 ·have hc:cl.count n=0:=List.count_eq_zero.2 fun hn=>by obtain⟨x,hx,e⟩:=hk n hn;exact h2 x hx e
  simp[Instr.lookup,run_underlying hm,MapKept.run_getObj_map hb,run_checkKey hd a,run_findKey hd h1,Result.andThen,hz,hc]
 ·have he:e∈es.toList:=List.mem_of_getElem? h2;obtain⟨k,e1,e2⟩:=hv e he;rw[e1]at h3;have:k=n:=by injection h3 with _ h;omega
  subst this;simp[Instr.lookup,run_underlying hm,MapKept.run_getObj_map hb,run_checkKey hd a,run_findKey hd h1,Result.andThen,e2]
theorem ZgX(hm:P.underlying mty=some (.map kt et))(hd:P.underlying kt=some (.int .i64)){w:World}{m:Nat}{cl:List Nat}(h:Zuc w m cl)(n:Nat):
 ∃w',(Instr.mapUpdate mty (.map (some m)) (.int .i64 n) (.int .i64 ((cl.count n:Nat)+1))).run P w=.ok () w'∧Zuc w' m (cl++[n])∧Fr (fun k=>k=m) w w':=by
 obtain⟨es,a,hb,hs,hv,hk⟩:=h;have o:∀x∈es.toList,IsKey (.int .i64) x.key:=fun x hx=>by obtain⟨k,e,_⟩:=hv x hx;rw[e];rfl
 have d:IsKey (.int .i64) (.int .i64 (n:Int)):=rfl;have c:∀x∈es.toList,x.key≠.int .i64 (n:Nat)→∃k:Nat,x.key=.int .i64 k∧x.val=.int .i64 ((cl++[n]).count k:Nat):=fun x hx hne=>by
  obtain⟨k,k1,k2⟩:=hv x hx;refine⟨k,k1,?_⟩;have d:k≠n:=by rintro rfl;exact hne k1
  rw[k2,List.count_append];simp[List.count_singleton,Ne.symm d]
 rcases findNow_spec d es.toList 0 o with⟨h1,h2⟩|⟨j,e,h1,h2,h3⟩
 ·have hc:cl.count n=0:=List.count_eq_zero.2 fun hn=>by obtain⟨x,hx,e⟩:=hk n hn;exact h2 x hx e
  refine⟨{w with heap:=w.heap.setIfInBounds m (.map (es.push {key:=.int .i64 n,val:=.int .i64 ((cl.count n:Nat)+1),born:=a}) (a+1))},?_,?_,Zce _⟩
  ·simp[Instr.mapUpdate,run_underlying hm,MapKept.run_getObj_map hb,run_checkKey hd d,run_findKey hd h1,Result.andThen,MapKept.run_setObj_map _ hb]
  ·refine⟨_,_,(heap_set hb).1,stamped_push hs h2,?_,?_⟩
   ·intro x hx;simp only[Array.toList_push,List.mem_append,List.mem_singleton]at hx;rcases hx with hx|rfl
    ·exact c x hx (h2 x hx)
    ·exact⟨n,rfl,by simp⟩
   ·intro k b;rcases List.mem_append.1 b with b|b
    ·obtain⟨x,hx,e⟩:=hk k b;exact⟨x,by simp[hx],e⟩
    ·rw[List.mem_singleton]at b;subst b;exact⟨{key:=.int .i64 k,val:=.int .i64 ((cl.count k:Nat)+1),born:=a},by simp,rfl⟩
 ·have he:e∈es.toList:=List.mem_of_getElem? h2;have hj:es[j]? =some e:=by simpa using h2
  have l:j<es.size:=(Array.getElem?_eq_some_iff.1 hj).1;have f:∀e',es[j]? =some e'→({e' with key:=.int .i64 (n:Nat),val:=.int .i64 ((cl.count n:Nat)+1)}:MapEntry).key=e'.key:=fun e' he'=>by rw[hj]at he';cases he';exact h3.symm
  refine⟨{w with heap:=w.heap.setIfInBounds m (.map (es.modify j fun x=>{x with key:=.int .i64 (n:Nat),val:=.int .i64 ((cl.count n:Nat)+1)}) a)},?_,?_,Zce _⟩
  ·simp[Instr.mapUpdate,run_underlying hm,MapKept.run_getObj_map hb,run_checkKey hd d,run_findKey hd h1,Result.andThen,hj,h3,run_keyThatStays d,MapKept.run_setObj_map _ hb]
  ·refine⟨_,_,(heap_set hb).1,stamped_modify hs _ _ (fun _ _=>rfl) (fun e' _ he'=>f e' he'),?_,?_⟩
   ·intro y hy;rw[Array.mem_toList_iff,Array.mem_iff_getElem?]at hy;obtain⟨i,hi⟩:=hy;rw[Array.getElem?_modify]at hi;split at hi
    ·rw[show es[i]? =some e from by rw[←hj];congr 1;omega]at hi;simp only[Option.map_some,Option.some.injEq]at hi;subst hi;exact⟨n,rfl,by simp⟩
    ·next p=>
     refine c y (Array.mem_toList_iff.2 (Array.mem_of_getElem? hi)) fun hy=> ?_;have s:i<es.size:=(Array.getElem?_eq_some_iff.1 hi).1;have e1:(es.toList.map (·.key))[j]? =(es.toList.map (·.key))[i]? :=by
      rw[List.getElem?_map,List.getElem?_map,Array.getElem?_toList,Array.getElem?_toList,hj,hi];simp only[Option.map_some,Option.some.injEq];rw[h3,hy]
     exact p (Zfz hs.2.2 (by simpa using l) e1)
   ·intro k b;have g:=MapKept.modify_keys (es:=es) j (fun x=>{x with key:=.int .i64 (n:Nat),val:=.int .i64 ((cl.count n:Nat)+1)}) f;have:∃x∈es.toList,x.key=.int .i64 (k:Nat):=by
     rcases List.mem_append.1 b with h|h
     ·exact hk k h
     ·rw[List.mem_singleton]at h;subst h;exact⟨e,he,h3⟩
    obtain⟨y,hy,r⟩:=this;have hm:(.int .i64 (k:Nat):Value)∈(es.modify j (fun x=>{x with key:=.int .i64 (n:Nat),val:=.int .i64 ((cl.count n:Nat)+1)})).toList.map (·.key):=by
     rw[g];exact List.mem_map.2 ⟨y,hy,r⟩
    obtain⟨z,hz,q⟩:=List.mem_map.1 hm;exact⟨z,hz,q⟩
end
theorem Zae{w:World}{b:Nat}{v0 v1 v2 v3 v4 v5 v6 v7:Value}{T:TypeId}(h:w.heap[b]? =some (.cells #[v0,v1,v2,v3,v4,v5,v6,v7] T (0,0))):∀w',Fr nob w w'→
 (w'.cell? ⟨b,0,none⟩=some v0∧w'.cell? ⟨b,1,none⟩=some v1∧w'.cell? ⟨b,2,none⟩=some v2∧w'.cell? ⟨b,3,none⟩=some v3∧w'.cell? ⟨b,4,none⟩=some v4∧w'.cell? ⟨b,5,none⟩=some v5∧w'.cell? ⟨b,6,none⟩=some v6∧w'.cell? ⟨b,7,none⟩=some v7)∧
 (w'.frozen? ⟨b,0,none⟩=false∧w'.frozen? ⟨b,1,none⟩=false∧w'.frozen? ⟨b,2,none⟩=false∧w'.frozen? ⟨b,3,none⟩=false∧w'.frozen? ⟨b,4,none⟩=false∧w'.frozen? ⟨b,5,none⟩=false∧w'.frozen? ⟨b,6,none⟩=false∧w'.frozen? ⟨b,7,none⟩=false):=fun _ f=>by
 have h':=f.heap h (fun x=>x);exact⟨⟨cell_at h' rfl,cell_at h' rfl,cell_at h' rfl,cell_at h' rfl,cell_at h' rfl,cell_at h' rfl,cell_at h' rfl,cell_at h' rfl⟩,unfrozen_at h' _,unfrozen_at h' _,unfrozen_at h' _,unfrozen_at h' _,unfrozen_at h' _,unfrozen_at h' _,unfrozen_at h' _,unfrozen_at h' _⟩
theorem results_tmp4{fn:Func}{t u v x:Tmp}(h:fn.results= #[.tmp t,.tmp u,.tmp v,.tmp x])(tmps:Array Value)(P:Program)(w:World):
 (results fn tmps).run P w=.ok (.tuple #[tmps.getD t undef,tmps.getD u undef,tmps.getD v undef,tmps.getD x undef]) w:=by
 simp[results,h]
theorem Ztx(T:TypeId)(b o:Nat)(cs:Array Value)(bs:List UInt8)(g:Option Nat)(l:List UInt8)(u:FrameMode)(w:World)(h:Zc3 5 T b o cs bs g w)(hl:Zfx T cs.size o)(hlen:bs.length+l.length≤140737488355328):
 CallsD Tryz.prog 50 #[.pointer (some ⟨b,o,none⟩),.string ⟨l.toArray⟩] u w fun e u' w'=>u'=u∧e=.returned (.tuple #[.int .i64 l.length,.nilIface])∧
  ∃v',Zc3 5 T b o (ZaK cs b o v') (bs++l) v'.ownBlock w'∧Fr (fun k=>k=b∨some k=g) w w'∧(∀k,v'.ownBlock=some k→some k=g∨w.heap.size≤k):=by
 obtain⟨i0,hi,E,G,D⟩:=info_parts ZeW;have HL:=hid hl;clear hl
 go_enter_d Tryz.func50,Tryz.ntmps50
 go_wp2_with(go_at_call 82;refine(copyCheck_any T b o cs bs g _ h HL.out).mono ?_);rintro e w1 ⟨rfl,h1,r⟩;obtain⟨hb,ho,hp,v,hv,z,hg,B,x⟩:=h1;have c1:w1.cell? ⟨b,o+1,none⟩=some v:=cell_at hb hv;have HB:=hid hb;have HO:=hid ho;have HV:=hid hv;have HG:=hid hg;have HN:=hid B;have HP:=hid hp;have HI:=hid x;clear hb ho hv hg B hp x;go_wp2_with(at_builtin;refine wpList_append_gs rfl _ _ 22 9 rfl 5 i0 Tryz.underlying22 Tryz.underlying9 hi E G D _ _ _ rfl z ⟨l.toArray⟩ rfl ?c3 ?c4 ?_)
 case c3=>unfold maxLen;show bs.length+l.toArray.size≤_;simp;omega
 case c4=>show bs.length+l.toArray.size≤_;simp;omega
 intro v' w2 c d;have hb:=HB.out;have f:=HG.out;have q:=HN.out;have i:w2.heap[b]? =some (.cells (cs.setIfInBounds o (.pointer (some ⟨b,o,none⟩))) T (0,0)):=
  d.fr.heap hb (fun e=>q (by rw[←f,e]))
 have d1:w2.cell? ⟨b,o+1,none⟩=some v:=cell_at i HV.out;have f1:w2.frozen? ⟨b,o+1,none⟩=false:=unfrozen_at i _;have J:=lt_heap hb;have m:v'.ownBlock≠some b:=by
  intro e;rcases d.old b e with h|h
  ·exact q (by rw[←f,h])
  ·omega
 have n:∀k,v'.ownBlock=some k→some k=g∨w.heap.size≤k:=by
  intro k hk;have:=r.size;rcases d.old k hk with h|h
  ·exact .inl (by rw[←f,h])
  ·exact .inr (by omega)
 have a:w2.ownsRow 0 5 1 v' (bs++l).length (bcells (bs++l)):=by
  rw[Zaj,List.length_append];exact c
 have j:bs++l=[]→v'=.slice none 0 0:=fun h=>by
  rw[List.append_eq_nil_iff]at h;exact d.nil.2 ⟨HI.out h.1,by show l.toArray.size=0;simp[h.2]⟩
 have t:Fr (fun k=>k=b∨some k=g) w w2:=by
  refine(r.mono (fun _ _ h=>Or.inl h)).trans d.fr (fun k _ h=>Or.inr ?_);rw[←f,h]
 obtain⟨ga,gn,gc,H⟩:=Zcs a;have C:=hid j;clear j;have I:=hid i;have s:=hid m;have A:=hid n;have y:=hid a;have F:=hid t;clear hb i f q m n a c t;subst H;go_wp2;go_ret2;have ho:=HO.out;refine⟨by simp,_,⟨Za I.out _ _,?_,.inr ?_,_,ZdU ho,?_,rfl,s.out,C.out⟩,?_,A.out⟩
 ·rw[ZY];simpa using ho
 ·unfold ZaK;rw[Zau (by omega)];exact ZdU (by simp at ho;omega)
 ·exact ownsRow_fr y.out ((Fr.refl (fun k=>k=b) w2).setCell (p:=⟨b,o+1,none⟩) (fun _=>rfl) _) (fun k hk e=>s.out (by rw[hk,e]))
 ·exact F.out.setCell (p:=⟨b,o+1,none⟩) (fun _=>Or.inl rfl) _
def ZiS(w:World)(m:Nat)(cl:List (List UInt8)):Prop:=∃es clock,w.heap[m]? =some (.map es clock)∧Stamped es clock∧
 (∀x∈es.toList,∃k:List UInt8,x.key=.string ⟨k.toArray⟩∧x.val=.int .i64 (cl.count k:Nat))∧(∀k∈cl,∃x∈es.toList,x.key=.string ⟨k.toArray⟩)
theorem ZiS.fr{X:Nat→Prop}{w w':World}{m:Nat}{cl:List (List UInt8)}(h:ZiS w m cl)(f:Fr X w w')(hm:¬X m):ZiS w' m cl:=by
 obtain⟨es,a,hb,h⟩:=h;exact⟨es,a,f.heap hb hm,h⟩
theorem ZiS.lt{w:World}{m:Nat}{cl:List (List UInt8)}(h:ZiS w m cl):m<w.heap.size:=by obtain⟨es,a,hb,_⟩:=h;exact lt_heap hb
theorem ZiS.new{w:World}{m:Nat}(h:w.heap[m]? =some (.map #[] 0)):ZiS w m []:=⟨#[],0,h,stamped_empty 0,by simp,by simp⟩
section
variable {P:Program} {mty kt et:TypeId}
theorem ZfB(hm:P.underlying mty=some (.map kt et))(hd:P.underlying kt=some .string)(hz:∀w,(zeroValue et).run P w=.ok (.int .i64 0) w){w:World}{m:Nat}{cl:List (List UInt8)}(h:ZiS w m cl)(n:List UInt8):
 (Instr.lookup mty (.map (some m)) (.string ⟨n.toArray⟩) false).run P w=.ok (.int .i64 (cl.count n:Nat)) w:=by
 obtain⟨es,c,hb,hs,hv,hk⟩:=h;have b:∀x∈es.toList,IsKey .string x.key:=fun x hx=>by obtain⟨k,e,_⟩:=hv x hx;rw[e];trivial
 have a:IsKey .string (.string ⟨n.toArray⟩):=trivial;rcases findNow_spec a es.toList 0 b with⟨h1,h2⟩|⟨j,e,h1,h2,h3⟩
 ·have hc:cl.count n=0:=List.count_eq_zero.2 fun hn=>by obtain⟨x,hx,e⟩:=hk n hn;exact h2 x hx e
  simp[Instr.lookup,run_underlying hm,MapKept.run_getObj_map hb,run_checkKey hd a,run_findKey hd h1,Result.andThen,hz,hc]
 ·have he:e∈es.toList:=List.mem_of_getElem? h2;obtain⟨k,e1,e2⟩:=hv e he;rw[e1]at h3;have:k=n:=by injection h3 with h;injection h with h;exact Array.toList_inj.2 h|>fun e=>by simpa using e
  subst this;simp[Instr.lookup,run_underlying hm,MapKept.run_getObj_map hb,run_checkKey hd a,run_findKey hd h1,Result.andThen,e2]
theorem ZgY(hm:P.underlying mty=some (.map kt et))(hd:P.underlying kt=some .string){w:World}{m:Nat}{cl:List (List UInt8)}(h:ZiS w m cl)(n:List UInt8):
 ∃w',(Instr.mapUpdate mty (.map (some m)) (.string ⟨n.toArray⟩) (.int .i64 ((cl.count n:Nat)+1))).run P w=.ok () w'∧ZiS w' m (cl++[n])∧Fr (fun k=>k=m) w w':=by
 obtain⟨es,a,hb,hs,hv,hk⟩:=h;have o:∀x∈es.toList,IsKey .string x.key:=fun x hx=>by obtain⟨k,e,_⟩:=hv x hx;rw[e];trivial
 have d:IsKey .string (.string ⟨n.toArray⟩):=trivial;have c:∀x∈es.toList,x.key≠.string ⟨n.toArray⟩→∃k:List UInt8,x.key=.string ⟨k.toArray⟩∧x.val=.int .i64 ((cl++[n]).count k:Nat):=fun x hx hne=>by
  obtain⟨k,k1,k2⟩:=hv x hx;refine⟨k,k1,?_⟩;have d:k≠n:=by rintro rfl;exact hne k1
  rw[k2,List.count_append];simp[List.count_singleton,Ne.symm d]
 rcases findNow_spec d es.toList 0 o with⟨h1,h2⟩|⟨j,e,h1,h2,h3⟩
 ·have hc:cl.count n=0:=List.count_eq_zero.2 fun hn=>by obtain⟨x,hx,e⟩:=hk n hn;exact h2 x hx e
  refine⟨{w with heap:=w.heap.setIfInBounds m (.map (es.push {key:=.string ⟨n.toArray⟩,val:=.int .i64 ((cl.count n:Nat)+1),born:=a}) (a+1))},?_,?_,Zce _⟩
  ·simp[Instr.mapUpdate,run_underlying hm,MapKept.run_getObj_map hb,run_checkKey hd d,run_findKey hd h1,Result.andThen,MapKept.run_setObj_map _ hb]
  ·refine⟨_,_,(heap_set hb).1,stamped_push hs h2,?_,?_⟩
   ·intro x hx;simp only[Array.toList_push,List.mem_append,List.mem_singleton]at hx;rcases hx with hx|rfl
    ·exact c x hx (h2 x hx)
    ·exact⟨n,rfl,by simp⟩
   ·intro k b;rcases List.mem_append.1 b with b|b
    ·obtain⟨x,hx,e⟩:=hk k b;exact⟨x,by simp[hx],e⟩
    ·rw[List.mem_singleton]at b;subst b;exact⟨{key:=.string ⟨k.toArray⟩,val:=.int .i64 ((cl.count k:Nat)+1),born:=a},by simp,rfl⟩
 ·have he:e∈es.toList:=List.mem_of_getElem? h2;have hj:es[j]? =some e:=by simpa using h2
  have l:j<es.size:=(Array.getElem?_eq_some_iff.1 hj).1;have f:∀e',es[j]? =some e'→({e' with key:=.string ⟨n.toArray⟩,val:=.int .i64 ((cl.count n:Nat)+1)}:MapEntry).key=e'.key:=fun e' he'=>by rw[hj]at he';cases he';exact h3.symm
  refine⟨{w with heap:=w.heap.setIfInBounds m (.map (es.modify j fun x=>{x with key:=.string ⟨n.toArray⟩,val:=.int .i64 ((cl.count n:Nat)+1)}) a)},?_,?_,Zce _⟩
  ·simp[Instr.mapUpdate,run_underlying hm,MapKept.run_getObj_map hb,run_checkKey hd d,run_findKey hd h1,Result.andThen,hj,h3,run_keyThatStays d,MapKept.run_setObj_map _ hb]
  ·refine⟨_,_,(heap_set hb).1,stamped_modify hs _ _ (fun _ _=>rfl) (fun e' _ he'=>f e' he'),?_,?_⟩
   ·intro y hy;rw[Array.mem_toList_iff,Array.mem_iff_getElem?]at hy;obtain⟨i,hi⟩:=hy;rw[Array.getElem?_modify]at hi;split at hi
    ·rw[show es[i]? =some e from by rw[←hj];congr 1;omega]at hi;simp only[Option.map_some,Option.some.injEq]at hi;subst hi;exact⟨n,rfl,by simp⟩
    ·next p=>
     refine c y (Array.mem_toList_iff.2 (Array.mem_of_getElem? hi)) fun hy=> ?_;have s:i<es.size:=(Array.getElem?_eq_some_iff.1 hi).1;have e1:(es.toList.map (·.key))[j]? =(es.toList.map (·.key))[i]? :=by
      rw[List.getElem?_map,List.getElem?_map,Array.getElem?_toList,Array.getElem?_toList,hj,hi];simp only[Option.map_some,Option.some.injEq];rw[h3,hy]
     exact p (Zfz hs.2.2 (by simpa using l) e1)
   ·intro k b;have g:=MapKept.modify_keys (es:=es) j (fun x=>{x with key:=.string ⟨n.toArray⟩,val:=.int .i64 ((cl.count n:Nat)+1)}) f;have:∃x∈es.toList,x.key=.string ⟨k.toArray⟩:=by
     rcases List.mem_append.1 b with h|h
     ·exact hk k h
     ·rw[List.mem_singleton]at h;subst h;exact⟨e,he,h3⟩
    obtain⟨y,hy,r⟩:=this;have hm:(.string ⟨k.toArray⟩:Value)∈(es.modify j (fun x=>{x with key:=.string ⟨n.toArray⟩,val:=.int .i64 ((cl.count n:Nat)+1)})).toList.map (·.key):=by
     rw[g];exact List.mem_map.2 ⟨y,hy,r⟩
    obtain⟨z,hz,q⟩:=List.mem_map.1 hm;exact⟨z,hz,q⟩
end
open Go.ChangeShapes Go.WideShapes Go.ChangeAt Go.RowKit
section
variable {H:Type} {enc:TypeId×Value→H} {P:Program}
theorem trodAll_stays(hl:laidOutB P=true){W W':World}{sp:Nat→Bool}(hb:Below W.heap.size W W'):∀(ts:List TypeId) (vs:List Value) (ds:List (DataW H)) (ps:List MemPlace),
 (∀t∈ts,P.readableRec t=true∧t<P.types.size)→DataW.TrodAll enc P W 0 (fun _=>true) true ts vs ds ps→(∀x∈ps,x.block<W.heap.size)→(∀x∈ps,sp x.block=true)→
 DataW.TrodAll enc P W' 0 sp true ts vs ds ps
 |[],[],[],ps,_,h,_,_=>h
 |t::ts,v::vs,d::ds,ps,hr,⟨p,q,h1,h2,e⟩,hlt,hsp=>by
  subst e;refine⟨p,q,?_,?_,rfl⟩
  ·exact WideElems.Trod_stays hl (hr t (by simp)).1 (hr t (by simp)).2 h1 (fun x hx=>hb.same (hlt x (by simp[hx]))) (fun x hx=>hsp x (by simp[hx]))
  ·exact trodAll_stays hl hb ts vs ds q (fun t ht=>hr t (by simp[ht])) h2 (fun x hx=>hlt x (by simp[hx])) (fun x hx=>hsp x (by simp[hx]))
 |[],[],_::_,_,_,h,_,_=>h.elim
 |[],_::_,_,_,_,h,_,_=>h.elim
 |_::_,[],_,_,_,h,_,_=>h.elim
 |_::_,_::_,[],_,_,h,_,_=>h.elim
theorem ZlP{f:Func}{s:ChangeSpec}{apart fresh handsOn again:Bool}{W W':World}{args:Array Value}{ds gs:List (DataW H)}{before:List MemPlace}{tb:TypeId}
 (hvars:s.vars=[]) (hres:f.resultTypes= #[tb]) (htb:P.underlying tb=some .bool) (hl:laidOutB P=true) (hrd:∀t∈f.params.toList,P.readableRec t=true∧t<P.types.size)
 (hsp:s.fn H (ds++gs)={results:=[.lit (.bool true)],args:=ds})
 (hW:DataW.Whole enc P f.params.toList s.vars apart W args.toList ds gs before) (hb:Below W.heap.size W W'):
 s.post enc P f apart fresh handsOn again W args (.bool true) W':=by
 have d:∀p∈before,p.block<W.heap.size:=fun p hp=>hW.lt p hp;have g:∀p∈before,(fun b=>decide (b<W.heap.size)) p.block=true:=fun p hp=>by simpa using d p hp
 have a:∀(b:Nat) (sp:Nat→Bool) (hd:Bool),DataW.TrodAll enc P W' b sp hd f.resultTypes.toList ((Value.bool true).resultList f.resultTypes.size) (s.fn H (ds++gs)).results []:=by
  intro b sp hd;rw[hsp,hres];exact trodAll_cons_mk (shut_bool htb _) trodAll_mk0
 obtain⟨p,q,hA,hV,e,hz,hn⟩:=hW;have hW:DataW.Whole enc P f.params.toList s.vars apart W args.toList ds gs before:=⟨p,q,hA,hV,e,hz,hn⟩;have i:=hV;rw[hvars]at i;obtain⟨rfl,rfl⟩:=trodVars_none i;simp only[List.append_nil]at e hsp a;subst e;have c:∀sp:Nat→Bool,(∀x∈before,sp x.block=true)→DataW.TrodAll enc P W' 0 sp true f.params.toList args.toList (s.fn H (ds++[])).args before:=by
  intro sp h;simp only[List.append_nil];rw[hsp];exact trodAll_stays hl hb _ _ _ _ hrd hA d h
 have j:∀sp:Nat→Bool,DataW.TrodVars enc P W' sp s.vars (s.fn H (ds++[])).vars []:=by
  intro sp;simp only[List.append_nil];rw[hvars,hsp];rfl
 refine⟨ds,[],before,[],before,[],hW,by simpa using a _ _ _,c _ g,j _,World.keptBut_mono (fun x hx=>⟨hx,.inr (.inl hx)⟩) (hb.frame (·∈before)),fun _=> ?_⟩;refine⟨ok_one hres rfl (okWide_bool_mk htb _),(s.fn H (ds++[])).results++(s.fn H (ds++[])).args,[],before,⟨[]++before,[],?_,?_,by simp,?_,?_⟩,?_⟩
 ·exact trodAll_append (c _ (fun _ _=>rfl)) (by simpa using a _ _ _)
 ·rw[hvars];rfl
 ·intro b off hp;rw[hb.frozen (d _ hp)];exact hz b off hp
 ·intro ha;exact hn ha
 ·intro x hx _;exact hx
end
section
variable {H:Type} {enc:TypeId×Value→H} {P:Program}
end
set_option maxRecDepth 100000
theorem printQuiet_joined:joinedFacts Tryz.pinned.checked.prog 11 Tryz.f11 Rows.printQuietSpec Rows.printQuietRow=true:=by kernel_rfl
end Go.Proofs.YtkfddjopbocpkaaGreatDoor
