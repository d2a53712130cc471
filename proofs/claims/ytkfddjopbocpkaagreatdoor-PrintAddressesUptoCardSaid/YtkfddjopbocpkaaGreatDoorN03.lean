/- Lemmas of this claim. -/
import Derived.OpenShut
import Derived.Test.YtkfddjopbocpkaaGreatDoorN01
set_option linter.unusedVariables false
set_option linter.unusedSimpArgs false
set_option maxRecDepth 100000
set_option maxHeartbeats 4000000
namespace Go.Proofs.YtkfddjopbocpkaaGreatDoor
open Go.Lib (hid)
open Go.RowKit
def S4.mix(f:Int→Int→Int)(k:Nat)(s t:S4):S4:=
 ⟨if 0<k then f s.a t.a else s.a,if 1<k then f s.b t.b else s.b,if 2<k then f s.c t.c else s.c,if 3<k then f s.d t.d else s.d⟩
def S4.and(s t:S4):S4:=⟨bits .and .u64 s.a t.a,bits .and .u64 s.b t.b,bits .and .u64 s.c t.c,bits .and .u64 s.d t.d⟩
def S4.or(s t:S4):S4:=⟨bits .or .u64 s.a t.a,bits .or .u64 s.b t.b,bits .or .u64 s.c t.c,bits .or .u64 s.d t.d⟩
abbrev ZaG(w:World)(b:Nat)(v0 v1 v2 v3:Value):World:=(((w.setCell ⟨b,0,none⟩ v0).setCell ⟨b,1,none⟩ v1).setCell ⟨b,2,none⟩ v2).setCell ⟨b,3,none⟩ v3
theorem setFour_heap{w:World}{b:Nat}{a0 a1 a2 a3:Value}{T:TypeId}{fr:Nat×Nat}(h:w.heap[b]? =some (.cells #[a0,a1,a2,a3] T fr))(v0 v1 v2 v3:Value):
 (ZaG w b v0 v1 v2 v3).heap[b]? =some (.cells #[v0,v1,v2,v3] T fr):=by
 have h0:(w.setCell ⟨b,0,none⟩ v0).heap[b]? =some (.cells #[v0,a1,a2,a3] T fr):=Za h 0 v0;have h1:((w.setCell ⟨b,0,none⟩ v0).setCell ⟨b,1,none⟩ v1).heap[b]? =some (.cells #[v0,v1,a2,a3] T fr):=Za h0 1 v1;have h2:(((w.setCell ⟨b,0,none⟩ v0).setCell ⟨b,1,none⟩ v1).setCell ⟨b,2,none⟩ v2).heap[b]? =some (.cells #[v0,v1,v2,a3] T fr):=Za h1 2 v2;exact Za h2 3 v3
theorem Zp{w a:World}{b:Nat}(f:Fr nob a w)(hb:a.heap.size≤b)(v0 v1 v2 v3:Value):Fr nob a (ZaG w b v0 v1 v2 v3):=by
 have h:∀(x:World) (j:Nat) (v:Value),Fr nob a x→Fr nob a (x.setCell ⟨b,j,none⟩ v):=fun x j v hx=>hx.setCell (p:=⟨b,j,none⟩) (fun h=>absurd h (Nat.not_lt.2 hb)) v;exact h _ _ _ (h _ _ _ (h _ _ _ (h _ _ _ f)))
abbrev ZnA(w:World)(s t:S4)(T:TypeId):World:=((w.alloc (.cells s.cells.toArray T)).alloc (.cells t.cells.toArray T)).alloc (.cells S4.zero.cells.toArray T)
theorem ZnB(w:World)(s t:S4)(T:TypeId):Fr nob w (ZnA w s t T):=(((Fr.refl _ _).alloc _).alloc _).alloc _
theorem Zpc(w:World)(s t:S4)(T:TypeId):(ZnA w s t T).heap[w.heap.size]? =some (.cells s.cells.toArray T (0,0)):=Ze _ (Ze _ (heap_alloc_new _ _))
theorem Zpd(w:World)(s t:S4)(T:TypeId):(ZnA w s t T).heap[w.heap.size+1]? =some (.cells t.cells.toArray T (0,0)):=by
 refine Ze _ ?_;have:=heap_alloc_new (w.alloc (.cells s.cells.toArray T)) (.cells t.cells.toArray T);simpa using this
theorem Zpe(w:World)(s t:S4)(T:TypeId):(ZnA w s t T).heap[w.heap.size+2]? =some (.cells S4.zero.cells.toArray T (0,0)):=by
 have:=heap_alloc_new ((w.alloc (.cells s.cells.toArray T)).alloc (.cells t.cells.toArray T)) (.cells S4.zero.cells.toArray T);simpa using this
theorem ZjV(w:World)(s t:S4)(T:TypeId):(ZnA w s t T).heap.size=w.heap.size+3:=by simp
theorem Zpf(s t:S4)(w:World):
 Calls Tryz.prog 264 #[.agg s.cells.toArray,.agg t.cells.toArray] w fun e w'=>e=.returned (.agg (s.or t).cells.toArray)∧Fr nob w w':=by
 have HA:=hid (Zpc w s t 132);have HB:=hid (Zpd w s t 132);have HC:=hid (Zpe w s t 132);have F0:=hid (ZnB w s t 132);have n:=hid (ZjV w s t 132);rw[S4.cells_eq s,S4.cells_eq t];go_enter Tryz.func264,Tryz.ntmps264;go_wp2_with fail;obtain⟨w0,l⟩:∃w0,w0=ZnA w s t 132:=⟨_,rfl⟩;change Code.wp _ _ _ _ (ZnA w s t 132);rw[←l]at HA HB HC F0 n⊢;clear l
 go_loopw [6] (fun i wr=>∃k:Nat,i=.int .i64 k∧k≤4∧wr.heap[w.heap.size]? =some (.cells (S4.mix (bits .or .u64) k s t).cells.toArray 132 (0,0))∧Fr (fun j=>j=w.heap.size) w0 wr) (fun i _=>4-(intOf i).toNat)
 case atStart=>exact⟨0,rfl,by omega,HA.out,Fr.refl _ _⟩
 case round=>
  obtain⟨k,rfl,hk,hh,fr⟩:=hrel;have g:=fr.heap HB.out (by omega);have h:=fr.heap HC.out (by omega);obtain⟨c0,c1,c2,c3,z0,z1,z2,z3⟩:=Zcn hh;obtain⟨g0,g1,g2,g3,_⟩:=Zcn g;have HH:=hid hh;have FR:=hid fr;have o:=hid g;have f:=hid h;clear hh fr g h;have m:k=0∨k=1∨k=2∨k=3∨k=4:=by omega
  rcases m with rfl|rfl|rfl|rfl|rfl
  ·simp only[S4.mix,Nat.lt_irrefl,Nat.zero_lt_one,if_true,if_false,Nat.not_lt_zero,Nat.reduceLT]at c0 c1 c2 c3;go_wp2_with fail
   go_still_tail 6,(by kernel_rfl)
   change wpList _ _ _ _ _ wr.drew;go_wp2;go_roundw
   case rel=>exact⟨1,by go_num,by omega,Za HH.out 0 (.int .u64 (bits .or .u64 s.a t.a)),(FR.out.setCell (p:=⟨w.heap.size,0,none⟩) (fun _=>rfl) _).drew⟩
   case measure=>simp[intOf]
  ·simp only[S4.mix,Nat.lt_irrefl,Nat.zero_lt_one,if_true,if_false,Nat.not_lt_zero,Nat.reduceLT]at c0 c1 c2 c3;go_wp2_with fail
   go_still_tail 6,(by kernel_rfl)
   change wpList _ _ _ _ _ wr.drew;go_wp2;go_roundw
   case rel=>exact⟨2,by go_num,by omega,Za HH.out 1 (.int .u64 (bits .or .u64 s.b t.b)),(FR.out.setCell (p:=⟨w.heap.size,1,none⟩) (fun _=>rfl) _).drew⟩
   case measure=>simp[intOf]
  ·simp only[S4.mix,Nat.lt_irrefl,Nat.zero_lt_one,if_true,if_false,Nat.not_lt_zero,Nat.reduceLT]at c0 c1 c2 c3;go_wp2_with fail
   go_still_tail 6,(by kernel_rfl)
   change wpList _ _ _ _ _ wr.drew;go_wp2;go_roundw
   case rel=>exact⟨3,by go_num,by omega,Za HH.out 2 (.int .u64 (bits .or .u64 s.c t.c)),(FR.out.setCell (p:=⟨w.heap.size,2,none⟩) (fun _=>rfl) _).drew⟩
   case measure=>simp[intOf]
  ·simp only[S4.mix,Nat.lt_irrefl,Nat.zero_lt_one,if_true,if_false,Nat.not_lt_zero,Nat.reduceLT]at c0 c1 c2 c3;go_wp2_with fail
   go_still_tail 6,(by kernel_rfl)
   change wpList _ _ _ _ _ wr.drew;go_wp2;go_roundw
   case rel=>exact⟨4,by go_num,by omega,Za HH.out 3 (.int .u64 (bits .or .u64 s.d t.d)),(FR.out.setCell (p:=⟨w.heap.size,3,none⟩) (fun _=>rfl) _).drew⟩
   case measure=>simp[intOf]
  ·obtain⟨_,_,_,_,y0,y1,y2,y3⟩:=Zcn f.out;obtain⟨x0,x1,x2,x3,_⟩:=Zcn f.out;have FW:=hid (F0.out.trans FR.out (fun i hi e=>by omega));simp only[S4.mix,Nat.lt_irrefl,Nat.zero_lt_one,if_true,if_false,Nat.not_lt_zero,Nat.reduceLT]at c0 c1 c2 c3;go_wp2;(try simp only[Exit.inBlock,Exit.then]);exact bodyPost_ret (Zs (s:=s.or t) rfl rfl (setFour_heap f.out _ _ _ _)) rfl ⟨rfl,Zp FW.out (by omega) _ _ _ _⟩
def wd(x:Int):BitVec 64:=BitVec.ofInt 64 x
def Fit(x:Int):Prop:=0≤x∧x<18446744073709551616
theorem ZjN{x:Int}(h:(Lit.int .u64 x).wf=true):Fit x:=by
 simp[Lit.wf,IntKind.min,IntKind.max,IntKind.signed,IntKind.bits]at h;exact⟨h.1,by omega⟩
theorem Zm7(b:BitVec 64):wd (b.toNat:Int)=b:=by unfold wd;simp
theorem Zh7{x:Int}(h:Fit x):((wd x).toNat:Int)=x:=by
 unfold wd;rw[BitVec.toNat_ofInt];have:=h.1;have:=h.2;simp only[Nat.reducePow];omega
theorem Zh8{x y:Int}(hx:Fit x)(hy:Fit y)(h:wd x=wd y):x=y:=by rw[←Zh7 hx,←Zh7 hy,h]
theorem Zh9(b:BitVec 64):IntKind.u64.wrap (b.toNat:Int)=(b.toNat:Int):=by
 have:=b.isLt;simp only[IntKind.wrap,IntKind.bits,IntKind.signed];simp;omega
theorem ZlN(x y:Int):bits .and .u64 x y=((wd x&&& wd y).toNat:Int):=Zh9 _
theorem Znp(x y:Int):bits .or .u64 x y=((wd x|||wd y).toNat:Int):=Zh9 _
theorem ZuV(x y:Int):bits .xor .u64 x y=((wd x ^^^wd y).toNat:Int):=Zh9 _
theorem Zqf(x y:Int):wd (bits .or .u64 x y)=wd x|||wd y:=by rw[Znp,Zm7]
theorem ZaT(op:BinOp)(x y:Int):Fit (bits op .u64 x y):=ZjN (wf_bits op .u64 x y)
theorem ZvM:wd IntKind.u64.max=BitVec.allOnes 64:=by decide
theorem ZvN(x:Int):wd (bits .xor .u64 IntKind.u64.max x)= ~~~ wd x:=by
 rw[ZuV,Zm7,ZvM,BitVec.allOnes_xor]
theorem ZeV{x:Int}(h:Fit x){n:Nat}(hn:n<64):(bits .and .u64 (x/2^n) 1==1)=(wd x).getLsbD n:=by
 have hx:=Zh7 h;obtain⟨b,hb⟩:∃b,wd x=b:=⟨_,rfl⟩;rw[hb]at hx⊢;subst hx;rw[ZlN];have hd:((b.toNat:Int)/2^n)=(((b >>>n).toNat:Nat):Int):=by
  rw[BitVec.toNat_ushiftRight,Nat.shiftRight_eq_div_pow];push_cast;rfl
 rw[hd,Zm7];have h1:wd 1=1#64:=by decide
 rw[h1];have h2:(b >>>n&&& 1#64).toNat=if b.getLsbD n then 1 else 0:=by
  rw[BitVec.toNat_and,BitVec.toNat_ushiftRight];simp only[BitVec.toNat_ofNat,Nat.reducePow,Nat.reduceMod];rw[Nat.and_one_is_mod,Nat.shiftRight_eq_div_pow,BitVec.getLsbD,Nat.testBit_eq_decide_div_mod_eq];split<;>simp_all<;>omega
 rw[h2];cases b.getLsbD n<;>simp
theorem Zxh{x:Int}(h:Fit x){n:Nat}(hn:n<64):((x/2^n)%2==1)=(wd x).getLsbD n:=by
 have hx:=Zh7 h;obtain⟨b,hb⟩:∃b,wd x=b:=⟨_,rfl⟩;rw[hb]at hx⊢;subst hx;rw[BitVec.getLsbD,Nat.testBit_eq_decide_div_mod_eq];rw[Bool.eq_iff_iff];simp only[beq_iff_eq,decide_eq_true_eq];have:((b.toNat:Int)/2^n)=((b.toNat/2^n:Nat):Int):=by push_cast;rfl
 rw[this];omega
theorem ZwF{x:Int}(h:Fit x){n:Nat}(hn:n<64):((x/2^n).tmod 2==1)=(wd x).getLsbD n:=by
 rw[Int.tmod_eq_emod_of_nonneg (Int.ediv_nonneg h.1 (Int.le_of_lt (Int.pow_pos (by decide)))),Zxh h hn]
def S4.fit(s:S4):Prop:=Fit s.a∧Fit s.b∧Fit s.c∧Fit s.d
def S4.word(s:S4)(d:Nat):Int:=match d/64 with
 |0=>s.a
 |1=>s.b
 |2=>s.c
 |_=>s.d
def S4.has(s:S4)(d:Nat):Bool:=(wd (s.word d)).getLsbD (d%64)
def S4.not(s:S4):S4:=⟨bits .xor .u64 IntKind.u64.max s.a,bits .xor .u64 IntKind.u64.max s.b,bits .xor .u64 IntKind.u64.max s.c,bits .xor .u64 IntKind.u64.max s.d⟩
theorem has_any(s:S4)(d:Nat)(w:World)(hs:s.fit)(hd:d<256):
 Calls Tryz.prog 197 #[.agg s.cells.toArray,.int .u8 d] w fun e w'=>e=.returned (.bool (s.has d))∧Fr nob w w':=by
 rw[S4.cells_eq s];have f:Int.tdiv (d:Int) 64=((d/64:Nat):Int):=(Int.ofNat_tdiv d 64).symm;have g:Int.tmod (d:Int) 64=((d%64:Nat):Int):=(Int.ofNat_tmod d 64).symm;have hq:d/64=0∨d/64=1∨d/64=2∨d/64=3:=by omega
 have hr:d%64<64:=by omega
 have w0:IntKind.u8.wrap 0=0:=by decide
 have w1:IntKind.u8.wrap 1=1:=by decide
 have w2:IntKind.u8.wrap 2=2:=by decide
 have w3:IntKind.u8.wrap 3=3:=by decide
 have wm:IntKind.u8.wrap ((d%64:Nat):Int)=((d%64:Nat):Int):=IntWalk.u8_in _ (by omega);have h:IntKind.u8.wrap ((d:Int)%64)=((d%64:Nat):Int):=by rw[show(d:Int)%64=((d%64:Nat):Int) by omega];exact wm
 have HS:=hid hs;clear hs;obtain⟨p0,p1,p2,p3⟩:=HS.out;have n0:0≤s.a:=p0.1;have n1:0≤s.b:=p1.1;have n2:0≤s.c:=p2.1;have n3:0≤s.d:=p3.1;clear p0 p1 p2 p3;rcases hq with hq|hq|hq|hq
 ·have HH:=hid (show s.has d=(wd s.a).getLsbD (d%64) by unfold S4.has S4.word;rw[hq];rfl);have HB:=hid (ZeV HS.out.1 hr);rw[hq]at f;clear hq;go_enter Tryz.func197,Tryz.ntmps197;go_wp2;go_ret;exact⟨ret_bool (by rw[HH.out];exact HB.out),(Fr.refl _ _).alloc _⟩
 ·have HH:=hid (show s.has d=(wd s.b).getLsbD (d%64) by unfold S4.has S4.word;rw[hq];rfl);have HB:=hid (ZeV HS.out.2.1 hr);rw[hq]at f;clear hq;go_enter Tryz.func197,Tryz.ntmps197;go_wp2;go_ret;exact⟨ret_bool (by rw[HH.out];exact HB.out),(Fr.refl _ _).alloc _⟩
 ·have HH:=hid (show s.has d=(wd s.c).getLsbD (d%64) by unfold S4.has S4.word;rw[hq];rfl);have HB:=hid (ZeV HS.out.2.2.1 hr);rw[hq]at f;clear hq;go_enter Tryz.func197,Tryz.ntmps197;go_wp2;go_ret;exact⟨ret_bool (by rw[HH.out];exact HB.out),(Fr.refl _ _).alloc _⟩
 ·have HH:=hid (show s.has d=(wd s.d).getLsbD (d%64) by unfold S4.has S4.word;rw[hq];rfl);have HB:=hid (ZeV HS.out.2.2.2 hr);rw[hq]at f;clear hq;go_enter Tryz.func197,Tryz.ntmps197;go_wp2;go_ret;exact⟨ret_bool (by rw[HH.out];exact HB.out),(Fr.refl _ _).alloc _⟩
theorem hasR_any(s:S4)(d:Nat)(w:World)(hs:s.fit)(hd:d<256):
 Calls Tryz.prog 141 #[.agg s.cells.toArray,.int .u8 d] w fun e w'=>e=.returned (.bool (s.has d))∧Fr nob w w':=by
 rw[S4.cells_eq s];have f:Int.tdiv (d:Int) 64=((d/64:Nat):Int):=(Int.ofNat_tdiv d 64).symm;have g:Int.tmod (d:Int) 64=((d%64:Nat):Int):=(Int.ofNat_tmod d 64).symm;have hq:d/64=0∨d/64=1∨d/64=2∨d/64=3:=by omega
 have hr:d%64<64:=by omega
 have w0:IntKind.u8.wrap 0=0:=by decide
 have w1:IntKind.u8.wrap 1=1:=by decide
 have w2:IntKind.u8.wrap 2=2:=by decide
 have w3:IntKind.u8.wrap 3=3:=by decide
 have wm:IntKind.u8.wrap ((d%64:Nat):Int)=((d%64:Nat):Int):=IntWalk.u8_in _ (by omega);have h:IntKind.u8.wrap ((d:Int)%64)=((d%64:Nat):Int):=by rw[show(d:Int)%64=((d%64:Nat):Int) by omega];exact wm
 have HS:=hid hs;clear hs;obtain⟨p0,p1,p2,p3⟩:=HS.out;have n0:0≤s.a:=p0.1;have n1:0≤s.b:=p1.1;have n2:0≤s.c:=p2.1;have n3:0≤s.d:=p3.1;clear p0 p1 p2 p3;rcases hq with hq|hq|hq|hq
 ·have HH:=hid (show s.has d=(wd s.a).getLsbD (d%64) by unfold S4.has S4.word;rw[hq];rfl);have HB:=hid (ZwF HS.out.1 hr);rw[hq]at f;clear hq;go_enter Tryz.func141,Tryz.ntmps141;go_wp2;go_ret;exact⟨ret_bool (by rw[HH.out];exact HB.out),(Fr.refl _ _).alloc _⟩
 ·have HH:=hid (show s.has d=(wd s.b).getLsbD (d%64) by unfold S4.has S4.word;rw[hq];rfl);have HB:=hid (ZwF HS.out.2.1 hr);rw[hq]at f;clear hq;go_enter Tryz.func141,Tryz.ntmps141;go_wp2;go_ret;exact⟨ret_bool (by rw[HH.out];exact HB.out),(Fr.refl _ _).alloc _⟩
 ·have HH:=hid (show s.has d=(wd s.c).getLsbD (d%64) by unfold S4.has S4.word;rw[hq];rfl);have HB:=hid (ZwF HS.out.2.2.1 hr);rw[hq]at f;clear hq;go_enter Tryz.func141,Tryz.ntmps141;go_wp2;go_ret;exact⟨ret_bool (by rw[HH.out];exact HB.out),(Fr.refl _ _).alloc _⟩
 ·have HH:=hid (show s.has d=(wd s.d).getLsbD (d%64) by unfold S4.has S4.word;rw[hq];rfl);have HB:=hid (ZwF HS.out.2.2.2 hr);rw[hq]at f;clear hq;go_enter Tryz.func141,Tryz.ntmps141;go_wp2;go_ret;exact⟨ret_bool (by rw[HH.out];exact HB.out),(Fr.refl _ _).alloc _⟩
abbrev bx2(w:World)(s:S4)(T:TypeId):World:=(w.alloc (.cells s.cells.toArray T)).alloc (.cells S4.zero.cells.toArray T)
theorem Zpg(w:World)(s:S4)(T:TypeId):Fr nob w (bx2 w s T):=((Fr.refl _ _).alloc _).alloc _
theorem Zqo(w:World)(s:S4)(T:TypeId):(bx2 w s T).heap[w.heap.size]? =some (.cells s.cells.toArray T (0,0)):=Ze _ (heap_alloc_new _ _)
theorem Zqp(w:World)(s:S4)(T:TypeId):(bx2 w s T).heap[w.heap.size+1]? =some (.cells S4.zero.cells.toArray T (0,0)):=by
 have:=heap_alloc_new (w.alloc (.cells s.cells.toArray T)) (.cells S4.zero.cells.toArray T);simpa using this
theorem ZlU(w:World)(s:S4)(T:TypeId):(bx2 w s T).heap.size=w.heap.size+2:=by simp
def S4.mix1(f:Int→Int)(k:Nat)(s:S4):S4:=
 ⟨if 0<k then f s.a else s.a,if 1<k then f s.b else s.b,if 2<k then f s.c else s.c,if 3<k then f s.d else s.d⟩
theorem ZnD(s:S4)(w:World):
 Calls Tryz.prog 170 #[.agg s.cells.toArray] w fun e w'=>e=.returned (.agg s.not.cells.toArray)∧Fr nob w w':=by
 have HA:=hid (Zqo w s 132);have HC:=hid (Zqp w s 132);have F0:=hid (Zpg w s 132);have m:=hid (ZlU w s 132);rw[S4.cells_eq s];go_enter Tryz.func170,Tryz.ntmps170;go_wp2_with fail;obtain⟨w0,h⟩:∃w0,w0=bx2 w s 132:=⟨_,rfl⟩;change Code.wp _ _ _ _ (bx2 w s 132);rw[←h]at HA HC F0 m⊢;clear h
 go_loopw [4] (fun i wr=>∃k:Nat,i=.int .i64 k∧k≤4∧wr.heap[w.heap.size]? =some (.cells (S4.mix1 (bits .xor .u64 IntKind.u64.max) k s).cells.toArray 132 (0,0))∧Fr (fun j=>j=w.heap.size) w0 wr) (fun i _=>4-(intOf i).toNat)
 case atStart=>exact⟨0,rfl,by omega,HA.out,Fr.refl _ _⟩
 case round=>
  obtain⟨k,rfl,hk,hh,fr⟩:=hrel;have g:=fr.heap HC.out (by omega);obtain⟨c0,c1,c2,c3,z0,z1,z2,z3⟩:=Zcn hh;have HH:=hid hh;have FR:=hid fr;have f:=hid g;clear hh fr g;have l:k=0∨k=1∨k=2∨k=3∨k=4:=by omega
  rcases l with rfl|rfl|rfl|rfl|rfl
  ·simp only[S4.mix1,Nat.lt_irrefl,Nat.zero_lt_one,if_true,if_false,Nat.not_lt_zero,Nat.reduceLT]at c0 c1 c2 c3;go_wp2;go_roundw
   case rel=>exact⟨1,by go_num,by omega,Za HH.out 0 (.int .u64 (bits .xor .u64 IntKind.u64.max s.a)),(FR.out.setCell (p:=⟨w.heap.size,0,none⟩) (fun _=>rfl) _)⟩
   case measure=>simp[intOf]
  ·simp only[S4.mix1,Nat.lt_irrefl,Nat.zero_lt_one,if_true,if_false,Nat.not_lt_zero,Nat.reduceLT]at c0 c1 c2 c3;go_wp2;go_roundw
   case rel=>exact⟨2,by go_num,by omega,Za HH.out 1 (.int .u64 (bits .xor .u64 IntKind.u64.max s.b)),(FR.out.setCell (p:=⟨w.heap.size,1,none⟩) (fun _=>rfl) _)⟩
   case measure=>simp[intOf]
  ·simp only[S4.mix1,Nat.lt_irrefl,Nat.zero_lt_one,if_true,if_false,Nat.not_lt_zero,Nat.reduceLT]at c0 c1 c2 c3;go_wp2;go_roundw
   case rel=>exact⟨3,by go_num,by omega,Za HH.out 2 (.int .u64 (bits .xor .u64 IntKind.u64.max s.c)),(FR.out.setCell (p:=⟨w.heap.size,2,none⟩) (fun _=>rfl) _)⟩
   case measure=>simp[intOf]
  ·simp only[S4.mix1,Nat.lt_irrefl,Nat.zero_lt_one,if_true,if_false,Nat.not_lt_zero,Nat.reduceLT]at c0 c1 c2 c3;go_wp2;go_roundw
   case rel=>exact⟨4,by go_num,by omega,Za HH.out 3 (.int .u64 (bits .xor .u64 IntKind.u64.max s.d)),(FR.out.setCell (p:=⟨w.heap.size,3,none⟩) (fun _=>rfl) _)⟩
   case measure=>simp[intOf]
  ·obtain⟨x0,x1,x2,x3,y0,y1,y2,y3⟩:=Zcn f.out;have FW:=hid (F0.out.trans FR.out (fun i hi e=>by omega));simp only[S4.mix1,Nat.lt_irrefl,Nat.zero_lt_one,if_true,if_false,Nat.not_lt_zero,Nat.reduceLT]at c0 c1 c2 c3;go_wp2;(try simp only[Exit.inBlock,Exit.then]);exact bodyPost_ret (Zs (s:=s.not) rfl rfl (setFour_heap f.out _ _ _ _)) rfl ⟨rfl,Zp FW.out (by omega) _ _ _ _⟩
theorem Zww{fn:Func}{p:Tmp}(h:fn.results= #[.cell p 62]){tmps:Array Value}{r:Nat}(ht:tmps.getD p undef=.pointer (some ⟨r,0,none⟩)){W:World}{s:S4}
 (hb:W.heap[r]? =some (.cells s.cells.toArray 62 (0,0))):(results fn tmps).run Tryz.prog W=.ok (.agg s.cells.toArray) W:=by
 obtain⟨c0,c1,c2,c3,_⟩:=Zcn hb;have a:tmps[p]?.getD undef=.pointer (some ⟨r,0,none⟩):=by rw[←ht];simp
 simp only[results,h];simp[a,go_sem,c0,c1,c2,c3,S4.cells]
theorem ZwP(s:S4)(w:World):
 Calls Tryz.prog 143 #[.agg s.cells.toArray] w fun e w'=>e=.returned (.agg s.not.cells.toArray)∧Fr nob w w':=by
 rw[S4.cells_eq s];go_enter Tryz.func143,Tryz.ntmps143;go_wp2;(try simp only[Exit.inBlock,Exit.then]);exact bodyPost_ret (Zww (s:=s.not) rfl rfl (Zg _ _ _ (by simp))) rfl ⟨rfl,((Fr.refl _ _).alloc _).alloc _⟩
theorem Zw1(s t:S4)(w:World):
 Calls Tryz.prog 200 #[.agg s.cells.toArray,.agg t.cells.toArray] w fun e w'=>e=.returned (.agg (s.and t).cells.toArray)∧Fr nob w w':=by
 rw[S4.cells_eq s,S4.cells_eq t];go_enter Tryz.func200,Tryz.ntmps200;go_wp2;(try simp only[Exit.inBlock,Exit.then]);exact bodyPost_ret (Zww (s:=s.and t) rfl rfl (Zg _ _ _ (by simp))) rfl ⟨rfl,(((Fr.refl _ _).alloc _).alloc _).alloc _⟩
theorem Zxi(s t:S4)(w:World):
 Calls Tryz.prog 199 #[.agg s.cells.toArray,.agg t.cells.toArray] w fun e w'=>e=.returned (.agg (s.or t).cells.toArray)∧Fr nob w w':=by
 rw[S4.cells_eq s,S4.cells_eq t];go_enter Tryz.func199,Tryz.ntmps199;go_wp2;(try simp only[Exit.inBlock,Exit.then]);exact bodyPost_ret (Zww (s:=s.or t) rfl rfl (Zg _ _ _ (by simp))) rfl ⟨rfl,(((Fr.refl _ _).alloc _).alloc _).alloc _⟩
theorem withR_any(s:S4)(d:Nat)(w:World)(hd:d<256):
 Calls Tryz.prog 211 #[.agg s.cells.toArray,.int .u8 d] w fun e w'=>e=.returned (.agg (s.put d).cells.toArray)∧Fr nob w w':=by
 rw[S4.cells_eq s];have a:Int.tdiv (d:Int) 64=((d/64:Nat):Int):=(Int.ofNat_tdiv d 64).symm;have b:Int.tmod (d:Int) 64=((d%64:Nat):Int):=(Int.ofNat_tmod d 64).symm;have hq:d/64=0∨d/64=1∨d/64=2∨d/64=3:=by omega
 have hr:d%64<64:=by omega
 have w0:IntKind.u8.wrap 0=0:=by decide
 have w1:IntKind.u8.wrap 1=1:=by decide
 have w2:IntKind.u8.wrap 2=2:=by decide
 have w3:IntKind.u8.wrap 3=3:=by decide
 have wm:IntKind.u8.wrap ((d%64:Nat):Int)=((d%64:Nat):Int):=IntWalk.u8_in _ (by omega);have c:IntKind.u8.wrap ((d:Int)%64)=((d%64:Nat):Int):=by rw[show(d:Int)%64=((d%64:Nat):Int) by omega];exact wm
 rcases hq with hq|hq|hq|hq
 all_goals
  have HQ:=hid hq;rw[hq]at a;clear hq;go_enter Tryz.func211,Tryz.ntmps211;go_wp2;(try simp only[Exit.inBlock,Exit.then]);refine bodyPost_ret (Zww (s:=s.put d) rfl rfl ?_) rfl ⟨rfl,?_⟩
  ·have hp:s.put d=s.put d:=rfl;unfold S4.put;rw[HQ.out];exact Zg _ _ _ (by simp)
  ·exact((Fr.refl _ _).alloc _).alloc _
theorem ZsP(p q M c:Nat)(hq:q<256)(hc:c<256):(256*p+q)&&& (256*M+c)=256*(p&&& M)+(q&&& c):=by
 have h1:((256*p+q)&&& (256*M+c))/256=p&&& M:=by
  have:= @Nat.and_div_two_pow (256*p+q) (256*M+c) 8;rw[show(2:Nat)^8=256 from rfl]at this;rw[this,show(256*p+q)/256=p by omega,show(256*M+c)/256=M by omega]
 have h2:((256*p+q)&&& (256*M+c))%256=q&&& c:=by
  have:= @Nat.and_mod_two_pow (256*p+q) (256*M+c) 8;rw[show(2:Nat)^8=256 from rfl]at this;rw[this,show(256*p+q)%256=q by omega,show(256*M+c)%256=c by omega]
 omega
def pf1(M x:Nat):Nat:=((x/2)&&& M)+(x&&& M)
def pf2(M x:Nat):Nat:=((x/4)&&& M)+(x&&& M)
def pf3(M x:Nat):Nat:=(x/16+x)&&& M
theorem Zwh:∀(c:Fin 2) (b:Fin 256),(c.val*128+b.val/2)&&& 85=(b.val/2)&&& 85:=by decide +kernel
theorem Zwi:∀(c:Fin 4) (b:Fin 256),(c.val*64+b.val/4)&&& 51=(b.val/4)&&& 51:=by decide +kernel
theorem Zwj:∀(c:Fin 5) (b:Fin 69),(c.val*16+(b.val/16+b.val))&&& 15=(b.val/16+b.val)&&& 15:=by decide +kernel
theorem ZtL(y b M:Nat)(hb:b<256):pf1 (256*M+85) (256*y+b)=256*pf1 M y+pf1 85 b:=by
 unfold pf1;have h:=Zwh ⟨y%2,by omega⟩ ⟨b,hb⟩;simp only at h;rw[show(256*y+b)/2=256*(y/2)+(y%2*128+b/2) by omega,ZsP _ _ _ _ (by omega) (by decide),ZsP _ _ _ _ hb (by decide),h];omega
theorem ZtM(y b M:Nat)(hb:b<256):pf2 (256*M+51) (256*y+b)=256*pf2 M y+pf2 51 b:=by
 unfold pf2;have h:=Zwi ⟨y%4,by omega⟩ ⟨b,hb⟩;simp only at h;rw[show(256*y+b)/4=256*(y/4)+(y%4*64+b/4) by omega,ZsP _ _ _ _ (by omega) (by decide),ZsP _ _ _ _ hb (by decide),h];omega
theorem ZtN(y b M:Nat)(hb:b<69)(hy:y%16<5):pf3 (256*M+15) (256*y+b)=256*pf3 M y+pf3 15 b:=by
 unfold pf3;have h:=Zwj ⟨y%16,hy⟩ ⟨b,hb⟩;simp only at h;rw[show(256*y+b)/16+(256*y+b)=256*(y/16+y)+(y%16*16+(b/16+b)) by omega,ZsP _ _ _ _ (by omega) (by decide),h]
def Ztb(b:Nat):Nat:=b%2+b/2%2+b/4%2+b/8%2+b/16%2+b/32%2+b/64%2+b/128%2
theorem Zvg:∀b:Fin 256,pf3 15 (pf2 51 (pf1 85 b.val))=Ztb b.val:=by decide +kernel
theorem ZvO:∀b:Fin 256,pf1 85 b.val<256:=by decide +kernel
theorem ZvP:∀b:Fin 256,pf2 51 (pf1 85 b.val)<69:=by decide +kernel
theorem Zvh:∀b:Fin 256,pf2 51 (pf1 85 b.val)%16<5:=by decide +kernel
theorem Zvi:∀b:Fin 256,Ztb b.val≤8:=by decide +kernel
def by8(b0 b1 b2 b3 b4 b5 b6 b7:Nat):Nat:=256*(256*(256*(256*(256*(256*(256*b7+b6)+b5)+b4)+b3)+b2)+b1)+b0
theorem Zwb{b0 b1 b2 b3 b4 b5 b6 b7:Nat}(h0:b0<256)(h1:b1<256)(h2:b2<256)(h3:b3<256)(h4:b4<256)(h5:b5<256)(h6:b6<256):
 pf1 6148914691236517205 (by8 b0 b1 b2 b3 b4 b5 b6 b7)=by8 (pf1 85 b0) (pf1 85 b1) (pf1 85 b2) (pf1 85 b3) (pf1 85 b4) (pf1 85 b5) (pf1 85 b6) (pf1 85 b7):=by
 unfold by8;rw[show 6148914691236517205=256*(256*(256*(256*(256*(256*(256*85+85)+85)+85)+85)+85)+85)+85 from rfl];rw[ZtL _ _ _ h0,ZtL _ _ _ h1,ZtL _ _ _ h2,ZtL _ _ _ h3,ZtL _ _ _ h4,ZtL _ _ _ h5,ZtL _ _ _ h6]
theorem Zwc{b0 b1 b2 b3 b4 b5 b6 b7:Nat}(h0:b0<256)(h1:b1<256)(h2:b2<256)(h3:b3<256)(h4:b4<256)(h5:b5<256)(h6:b6<256):
 pf2 3689348814741910323 (by8 b0 b1 b2 b3 b4 b5 b6 b7)=by8 (pf2 51 b0) (pf2 51 b1) (pf2 51 b2) (pf2 51 b3) (pf2 51 b4) (pf2 51 b5) (pf2 51 b6) (pf2 51 b7):=by
 unfold by8;rw[show 3689348814741910323=256*(256*(256*(256*(256*(256*(256*51+51)+51)+51)+51)+51)+51)+51 from rfl];rw[ZtM _ _ _ h0,ZtM _ _ _ h1,ZtM _ _ _ h2,ZtM _ _ _ h3,ZtM _ _ _ h4,ZtM _ _ _ h5,ZtM _ _ _ h6]
theorem Zua(y b:Nat):(256*y+b)%16=b%16:=by omega
theorem Zwd{b0 b1 b2 b3 b4 b5 b6 b7:Nat}(h0:b0<69)(h1:b1<69)(h2:b2<69)(h3:b3<69)(h4:b4<69)(h5:b5<69)(h6:b6<69)
 (g1:b1%16<5) (g2:b2%16<5) (g3:b3%16<5) (g4:b4%16<5) (g5:b5%16<5) (g6:b6%16<5) (g7:b7%16<5):
 pf3 1085102592571150095 (by8 b0 b1 b2 b3 b4 b5 b6 b7)=by8 (pf3 15 b0) (pf3 15 b1) (pf3 15 b2) (pf3 15 b3) (pf3 15 b4) (pf3 15 b5) (pf3 15 b6) (pf3 15 b7):=by
 unfold by8;rw[show 1085102592571150095=256*(256*(256*(256*(256*(256*(256*15+15)+15)+15)+15)+15)+15)+15 from rfl];rw[ZtN _ _ _ h0 (by rw[Zua];exact g1),ZtN _ _ _ h1 (by rw[Zua];exact g2),ZtN _ _ _ h2 (by rw[Zua];exact g3),ZtN _ _ _ h3 (by rw[Zua];exact g4),ZtN _ _ _ h4 (by rw[Zua];exact g5),ZtN _ _ _ h5 (by rw[Zua];exact g6),ZtN _ _ _ h6 g7]
def Zub(x:Nat):Nat:=pf3 1085102592571150095 (pf2 3689348814741910323 (pf1 6148914691236517205 x))
def Ztw(x:Nat):Nat:=((x+x/256)+(x+x/256)/65536)+((x+x/256)+(x+x/256)/65536)/4294967296
def pop(x:Nat):Nat:=Ztb (x%256)+Ztb (x/256%256)+Ztb (x/65536%256)+Ztb (x/16777216%256)+Ztb (x/4294967296%256)+Ztb (x/1099511627776%256)+Ztb (x/281474976710656%256)+Ztb (x/72057594037927936%256)
theorem ZvQ(x:Nat)(h:x<18446744073709551616):x=by8 (x%256) (x/256%256) (x/65536%256) (x/16777216%256) (x/4294967296%256) (x/1099511627776%256) (x/281474976710656%256) (x/72057594037927936%256):=by
 unfold by8;omega
theorem ZuW(x:Nat)(h:x<18446744073709551616):Zub x=by8 (Ztb (x%256)) (Ztb (x/256%256)) (Ztb (x/65536%256)) (Ztb (x/16777216%256)) (Ztb (x/4294967296%256)) (Ztb (x/1099511627776%256)) (Ztb (x/281474976710656%256)) (Ztb (x/72057594037927936%256)):=by
 have hx:=ZvQ x h;have l:∀n,n%256<256:=fun n=>Nat.mod_lt _ (by decide);have e:∀n,n%256=n%256→pf3 15 (pf2 51 (pf1 85 (n%256)))=Ztb (n%256):=fun n _=>Zvg ⟨n%256,l n⟩;have a:∀n,pf1 85 (n%256)<256:=fun n=>ZvO ⟨n%256,l n⟩;have b:∀n,pf2 51 (pf1 85 (n%256))<69:=fun n=>ZvP ⟨n%256,l n⟩;have c:∀n,pf2 51 (pf1 85 (n%256))%16<5:=fun n=>Zvh ⟨n%256,l n⟩;unfold Zub;have h1:=Zwb (b7:=x/72057594037927936%256) (l x) (l (x/256)) (l (x/65536)) (l (x/16777216)) (l (x/4294967296)) (l (x/1099511627776)) (l (x/281474976710656));have h2:=Zwc (b7:=pf1 85 (x/72057594037927936%256)) (a x) (a (x/256)) (a (x/65536)) (a (x/16777216)) (a (x/4294967296)) (a (x/1099511627776)) (a (x/281474976710656));have h3:=Zwd (b x) (b (x/256)) (b (x/65536)) (b (x/16777216)) (b (x/4294967296)) (b (x/1099511627776)) (b (x/281474976710656)) (c (x/256)) (c (x/65536)) (c (x/16777216)) (c (x/4294967296)) (c (x/1099511627776)) (c (x/281474976710656)) (c (x/72057594037927936))
 rw[←hx]at h1;rw[h1,h2,h3,e x rfl,e (x/256) rfl,e (x/65536) rfl,e (x/16777216) rfl,e (x/4294967296) rfl,e (x/1099511627776) rfl,e (x/281474976710656) rfl,e (x/72057594037927936) rfl]
theorem ZuX(c0 c1 c2 c3 c4 c5 c6 c7:Nat)(h0:c0≤8)(h1:c1≤8)(h2:c2≤8)(h3:c3≤8)(h4:c4≤8)(h5:c5≤8)(h6:c6≤8)(h7:c7≤8):
 Ztw (by8 c0 c1 c2 c3 c4 c5 c6 c7)%128=c0+c1+c2+c3+c4+c5+c6+c7∧Ztw (by8 c0 c1 c2 c3 c4 c5 c6 c7)<9223372036854775808:=by
 have hx:by8 c0 c1 c2 c3 c4 c5 c6 c7/256=by8 c1 c2 c3 c4 c5 c6 c7 0:=by unfold by8;omega
 have hy:by8 c0 c1 c2 c3 c4 c5 c6 c7+by8 c1 c2 c3 c4 c5 c6 c7 0=by8 (c0+c1) (c1+c2) (c2+c3) (c3+c4) (c4+c5) (c5+c6) (c6+c7) c7:=by unfold by8;omega
 have hz:by8 (c0+c1) (c1+c2) (c2+c3) (c3+c4) (c4+c5) (c5+c6) (c6+c7) c7/65536=by8 (c2+c3) (c3+c4) (c4+c5) (c5+c6) (c6+c7) c7 0 0:=by unfold by8;omega
 have hu:by8 (c0+c1) (c1+c2) (c2+c3) (c3+c4) (c4+c5) (c5+c6) (c6+c7) c7+by8 (c2+c3) (c3+c4) (c4+c5) (c5+c6) (c6+c7) c7 0 0=by8 (c0+c1+(c2+c3)) (c1+c2+(c3+c4)) (c2+c3+(c4+c5)) (c3+c4+(c5+c6)) (c4+c5+(c6+c7)) (c5+c6+c7) (c6+c7) c7:=by unfold by8;omega
 have hv:by8 (c0+c1+(c2+c3)) (c1+c2+(c3+c4)) (c2+c3+(c4+c5)) (c3+c4+(c5+c6)) (c4+c5+(c6+c7)) (c5+c6+c7) (c6+c7) c7/4294967296=by8 (c4+c5+(c6+c7)) (c5+c6+c7) (c6+c7) c7 0 0 0 0:=by unfold by8;omega
 unfold Ztw;rw[hx,hy,hz,hu,hv];unfold by8;constructor<;>omega
theorem Zvj(x:Nat)(h:x<18446744073709551616):Ztw (Zub x)%128=pop x∧Ztw (Zub x)<9223372036854775808:=by
 have l:∀n,Ztb (n%256)≤8:=fun n=>Zvi ⟨n%256,Nat.mod_lt _ (by decide)⟩;rw[ZuW x h];exact ZuX _ _ _ _ _ _ _ _ (l _) (l _) (l _) (l _) (l _) (l _) (l _) (l _)
theorem Zti(a m:Nat)(ha:a<18446744073709551616)(hm:m<18446744073709551616):bits .and .u64 (a:Int) (m:Int)=((a&&& m:Nat):Int):=by
 rw[ZlN];have h1:wd (a:Int)=BitVec.ofNat 64 a:=by unfold wd;simp
 have h2:wd (m:Int)=BitVec.ofNat 64 m:=by unfold wd;simp
 rw[h1,h2,BitVec.toNat_and,BitVec.toNat_ofNat,BitVec.toNat_ofNat,Nat.mod_eq_of_lt (by simpa using ha),Nat.mod_eq_of_lt (by simpa using hm)]
theorem ZsJ(a:Nat)(ha:a<18446744073709551616):IntKind.u64.wrap (a:Int)=(a:Int):=by
 have:=Zh9 (BitVec.ofNat 64 a);rw[BitVec.toNat_ofNat,Nat.mod_eq_of_lt (by simpa using ha)]at this;exact this
theorem Ztj(a:Nat)(ha:a<9223372036854775808):IntKind.i64.wrap (a:Int)=(a:Int):=by
 simp only[IntKind.wrap,IntKind.bits,IntKind.signed];simp;omega
theorem Zvk(a:Nat)(ha:a<9223372036854775808):bits .and .i64 (a:Int) 127=((a%128:Nat):Int):=by
 have h1:BitVec.ofInt 64 (a:Int)=BitVec.ofNat 64 a:=by simp
 have h2:BitVec.ofInt 64 127=BitVec.ofNat 64 127:=by decide
 show IntKind.i64.wrap (((BitVec.ofInt 64 (a:Int))&&& (BitVec.ofInt 64 127)).toNat:Int)=_;rw[h1,h2,BitVec.toNat_and,BitVec.toNat_ofNat,BitVec.toNat_ofNat,Nat.mod_eq_of_lt (by simp;omega)];have h3:a&&& 127%2^64=a%128:=by
  have:=Nat.and_two_pow_sub_one_eq_mod a 7;simpa using this
 rw[h3];exact Ztj _ (by omega)
theorem ones_any(n:Nat)(w:World)(hn:n<18446744073709551616):
 Calls Tryz.prog 193 #[.int .u64 n] w fun e w'=>e=.returned (.int .i64 (pop n))∧w=w':=by
 have hp:=hid (Zvj n hn);obtain⟨x1,h1⟩:∃x,pf1 6148914691236517205 n=x:=⟨_,rfl⟩;obtain⟨x2,h2⟩:∃x,pf2 3689348814741910323 x1=x:=⟨_,rfl⟩;obtain⟨x3,h3⟩:∃x,pf3 1085102592571150095 x2=x:=⟨_,rfl⟩;have hs:Zub n=x3:=by unfold Zub;rw[h1,h2,h3]
 have HP:=hid (show Ztw x3%128=pop n∧Ztw x3<9223372036854775808 by rw[←hs];exact hp.out);have b1:x1≤12297829382473034410:=by
  rw[←h1];unfold pf1;have:= @Nat.and_le_right (n/2) 6148914691236517205;have:= @Nat.and_le_right n 6148914691236517205;omega
 have b2:x2≤7378697629483820646:=by
  rw[←h2];unfold pf2;have:= @Nat.and_le_right (x1/4) 3689348814741910323;have:= @Nat.and_le_right x1 3689348814741910323;omega
 have b3:x3≤1085102592571150095:=by
  rw[←h3];unfold pf3;exact Nat.and_le_right
 obtain⟨x4,h4⟩:∃x,x3+x3/256=x:=⟨_,rfl⟩;obtain⟨x5,h5⟩:∃x,x4+x4/65536=x:=⟨_,rfl⟩;obtain⟨x6,h6⟩:∃x,x5+x5/4294967296=x:=⟨_,rfl⟩;have a:Ztw x3=x6:=by unfold Ztw;rw[h4,h5,h6]
 have e1:IntKind.u64.wrap (bits .and .u64 ((n:Int)/2) 6148914691236517205+bits .and .u64 (n:Int) 6148914691236517205)=(x1:Int):=by
  have q1:=Zti (n/2) 6148914691236517205 (by omega) (by decide);have q2:=Zti n 6148914691236517205 hn (by decide);have q3:((n:Int)/2)=((n/2:Nat):Int):=by omega
  rw[q3,show(6148914691236517205:Int)=((6148914691236517205:Nat):Int)from rfl,q1,q2,←Int.natCast_add];rw[show(n/2&&& 6148914691236517205)+(n&&& 6148914691236517205)=x1 from h1];exact ZsJ _ (by omega)
 have e2:IntKind.u64.wrap (bits .and .u64 ((x1:Int)/4) 3689348814741910323+bits .and .u64 (x1:Int) 3689348814741910323)=(x2:Int):=by
  have q1:=Zti (x1/4) 3689348814741910323 (by omega) (by decide);have q2:=Zti x1 3689348814741910323 (by omega) (by decide);have q3:((x1:Int)/4)=((x1/4:Nat):Int):=by omega
  rw[q3,show(3689348814741910323:Int)=((3689348814741910323:Nat):Int)from rfl,q1,q2,←Int.natCast_add];rw[show(x1/4&&& 3689348814741910323)+(x1&&& 3689348814741910323)=x2 from h2];exact ZsJ _ (by omega)
 have e3:bits .and .u64 (IntKind.u64.wrap ((x2:Int)/16+(x2:Int))) 1085102592571150095=(x3:Int):=by
  have q3:((x2:Int)/16+(x2:Int))=((x2/16+x2:Nat):Int):=by omega
  rw[q3,ZsJ _ (by omega),show(1085102592571150095:Int)=((1085102592571150095:Nat):Int)from rfl,Zti _ _ (by omega) (by decide)];rw[show(x2/16+x2)&&& 1085102592571150095=x3 from h3]
 have e4:IntKind.u64.wrap ((x3:Int)+(x3:Int)/256)=(x4:Int):=by
  rw[show(x3:Int)+(x3:Int)/256=((x4:Nat):Int) by omega];exact ZsJ _ (by omega)
 have e5:IntKind.u64.wrap ((x4:Int)+(x4:Int)/65536)=(x5:Int):=by
  rw[show(x4:Int)+(x4:Int)/65536=((x5:Nat):Int) by omega];exact ZsJ _ (by omega)
 have e6:IntKind.u64.wrap ((x5:Int)+(x5:Int)/4294967296)=(x6:Int):=by
  rw[show(x5:Int)+(x5:Int)/4294967296=((x6:Nat):Int) by omega];exact ZsJ _ (by omega)
 have e7:IntKind.i64.wrap (x6:Int)=(x6:Int):=Ztj _ (by omega);have e8:bits .and .i64 (x6:Int) 127=((pop n:Nat):Int):=by
  rw[Zvk _ (by omega),←a,HP.out.1]
 have n0:(0:Int)≤x2:=by omega
 clear h1 h2 h3 h4 h5 h6 hs a b1 b2 b3 hn;go_enter Tryz.func193,Tryz.ntmps193;go_wp2;go_ret;exact⟨rfl,rfl⟩
def S4.len(s:S4):Nat:=pop s.a.toNat+pop s.b.toNat+pop s.c.toNat+pop s.d.toNat
theorem ZtW(n:Nat):Ztb n≤8:=by unfold Ztb;omega
theorem Zs5(n:Nat):pop n≤64:=by
 have h:=fun k=>ZtW (n/k%256);have:=ZtW (n%256);have:=h 256;have:=h 65536;have:=h 16777216;have:=h 4294967296;have:=h 1099511627776;have:=h 281474976710656;have:=h 72057594037927936;unfold pop;omega
theorem S4.len_le(s:S4):s.len≤256:=by
 have:=Zs5 s.a.toNat;have:=Zs5 s.b.toNat;have:=Zs5 s.c.toNat;have:=Zs5 s.d.toNat;unfold S4.len;omega
theorem Zvl(s:S4)(w:World)(hs:s.fit):
 Calls Tryz.prog 167 #[.agg s.cells.toArray] w fun e w'=>e=.returned (.int .i64 s.len)∧Fr nob w w':=by
 obtain⟨a,b,c,d⟩:=s;obtain⟨⟨l0,u0⟩,⟨l1,u1⟩,⟨l2,u2⟩,⟨l3,u3⟩⟩:=hs;simp only at l0 u0 l1 u1 l2 u2 l3 u3;obtain⟨na,rfl⟩:=Int.eq_ofNat_of_zero_le l0;obtain⟨nb,rfl⟩:=Int.eq_ofNat_of_zero_le l1;obtain⟨nc,rfl⟩:=Int.eq_ofNat_of_zero_le l2;obtain⟨nd,rfl⟩:=Int.eq_ofNat_of_zero_le l3;have g:=Zs5 na;have h:=Zs5 nb;have j:=Zs5 nc;have l:=Zs5 nd;have f:=hid (show S4.len ⟨na,nb,nc,nd⟩=pop na+pop nb+pop nc+pop nd by simp[S4.len]);have i0:∀w,(Instr.index 132 (.agg #[.int .u64 na,.int .u64 nb,.int .u64 nc,.int .u64 nd]) (.int .i64 0)).run Tryz.prog w=.ok (.int .u64 na) w:=fun _=>by kernel_rfl
 have i1:∀w,(Instr.index 132 (.agg #[.int .u64 na,.int .u64 nb,.int .u64 nc,.int .u64 nd]) (.int .i64 1)).run Tryz.prog w=.ok (.int .u64 nb) w:=fun _=>by kernel_rfl
 have i2:∀w,(Instr.index 132 (.agg #[.int .u64 na,.int .u64 nb,.int .u64 nc,.int .u64 nd]) (.int .i64 2)).run Tryz.prog w=.ok (.int .u64 nc) w:=fun _=>by kernel_rfl
 have i3:∀w,(Instr.index 132 (.agg #[.int .u64 na,.int .u64 nb,.int .u64 nc,.int .u64 nd]) (.int .i64 3)).run Tryz.prog w=.ok (.int .u64 nd) w:=fun _=>by kernel_rfl
 rw[S4.cells_eq];clear l0 l1 l2 l3;have m0:na<18446744073709551616:=by omega
 have m1:nb<18446744073709551616:=by omega
 have m2:nc<18446744073709551616:=by omega
 have m3:nd<18446744073709551616:=by omega
 clear u0 u1 u2 u3;go_enter Tryz.func167,Tryz.ntmps167;go_wp2_with fail
 go_loop [3,7] (fun n i=>∃k:Nat,i=.int .i64 k∧k≤4∧((k=0∧n=.int .i64 0)∨(k=1∧n=.int .i64 (pop na:Nat))∨(k=2∧n=.int .i64 ((pop na+pop nb:Nat):Int))∨(k=3∧n=.int .i64 ((pop na+pop nb+pop nc:Nat):Int))∨(k=4∧n=.int .i64 ((pop na+pop nb+pop nc+pop nd:Nat):Int)))) (fun _ i=>4-(intOf i).toNat)
 case atStart=>exact⟨0,rfl,by omega,.inl ⟨rfl,rfl⟩⟩
 case round=>
  obtain⟨k,rfl,hk,hh⟩:=hrel;rcases hh with⟨rfl,rfl⟩|⟨rfl,rfl⟩|⟨rfl,rfl⟩|⟨rfl,rfl⟩|⟨rfl,rfl⟩
  ·go_wp2_with fail;refine(ones_any na _ m0).mono ?_;rintro e w1 ⟨rfl,rfl⟩;go_wp2
   go_round
   case rel=>exact⟨1,by go_num,by omega,.inr (.inl ⟨rfl,by go_num⟩)⟩
   case measure=>simp[intOf]
  ·go_wp2_with fail;refine(ones_any nb _ m1).mono ?_;rintro e w1 ⟨rfl,rfl⟩;go_wp2
   go_round
   case rel=>exact⟨2,by go_num,by omega,.inr (.inr (.inl ⟨rfl,by go_num⟩))⟩
   case measure=>simp[intOf]
  ·go_wp2_with fail;refine(ones_any nc _ m2).mono ?_;rintro e w1 ⟨rfl,rfl⟩;go_wp2
   go_round
   case rel=>exact⟨3,by go_num,by omega,.inr (.inr (.inr (.inl ⟨rfl,by go_num⟩)))⟩
   case measure=>simp[intOf]
  ·go_wp2_with fail;refine(ones_any nd _ m3).mono ?_;rintro e w1 ⟨rfl,rfl⟩;go_wp2
   go_round
   case rel=>exact⟨4,by go_num,by omega,.inr (.inr (.inr (.inr ⟨rfl,by go_num⟩)))⟩
   case measure=>simp[intOf]
  ·go_wp2;go_ret;exact⟨ZdT (by rw[f.out];push_cast;rfl),(Fr.refl _ _).alloc _⟩
def ZsI(f:Nat→Bool):Nat→Nat
 |0=>0
 |k+1=>ZsI f k+(if f k=true then 1 else 0)
theorem Zw2(f:Nat→Bool)(k:Nat):ZsI f k≤k:=by
 induction k with
 |zero=>exact Nat.le_refl _
 |succ k ih=>simp only[ZsI];split<;>omega
theorem cntTo_add(f:Nat→Bool)(a b:Nat):ZsI f (a+b)=ZsI f a+ZsI (fun i=>f (a+i)) b:=by
 induction b with
 |zero=>rfl
 |succ b ih=>rw[←Nat.add_assoc];simp only[ZsI,ih];omega
theorem ZsF{f g:Nat→Bool}{k:Nat}(h:∀i,i<k→f i=g i):ZsI f k=ZsI g k:=by
 induction k with
 |zero=>rfl
 |succ k ih=>simp only[ZsI,ih (fun i hi=>h i (by omega)),h k (by omega)]
theorem ZvR(m k:Nat):(if decide (m/k%2=1)=true then 1 else 0)=m/k%2:=by
 by_cases h:m/k%2=1
 ·simp[h]
 ·have:m/k%2=0:=by omega
  simp[this]
theorem Zwk(m:Nat):ZsI (fun i=>decide (m/2^i%2=1)) 8=Ztb (m%256):=by
 simp only[ZsI,ZvR];unfold Ztb;simp only[Nat.reducePow];omega
theorem Zwe(n:Nat)(_h:n<18446744073709551616):ZsI (fun i=>decide (n/2^i%2=1)) 64=pop n:=by
 have st:∀(m:Nat) (k:Nat),ZsI (fun i=>decide (m/2^i%2=1)) (8+k)=Ztb (m%256)+ZsI (fun i=>decide (m/256/2^i%2=1)) k:=by
  intro m k;rw[cntTo_add,Zwk]
  congr 1
  refine ZsF fun i _=> ?_;rw[Nat.div_div_eq_div_mul,show 2^(8+i)=256*2^i by rw[Nat.pow_add]]
 rw[show 64=8+(8+(8+(8+(8+(8+(8+(8+0)))))))from rfl,st,st,st,st,st,st,st,st];simp only[ZsI,Nat.div_div_eq_div_mul];unfold pop;simp only[Nat.reduceMul];omega
theorem ZvS(n i:Nat)(hn:n<18446744073709551616)(_hi:i<64):(wd (n:Int)).getLsbD i=decide (n/2^i%2=1):=by
 have h1:wd (n:Int)=BitVec.ofNat 64 n:=by unfold wd;simp
 rw[h1,BitVec.getLsbD,BitVec.toNat_ofNat,Nat.mod_eq_of_lt (by simpa using hn),Nat.testBit_eq_decide_div_mod_eq]
theorem Ztc{x:Int}(h:Fit x):ZsI (fun i=>(wd x).getLsbD i) 64=pop x.toNat:=by
 obtain⟨n,rfl⟩:=Int.eq_ofNat_of_zero_le h.1;have hn:n<18446744073709551616:=by have:=h.2;omega
 rw[ZsF (fun i hi=>ZvS n i hn hi),Zwe n hn];simp
theorem Zuu{s:S4}(h:s.fit):ZsI s.has 256=s.len:=by
 obtain⟨h0,h1,h2,h3⟩:=h;have e0:ZsI (fun i=>s.has i) 64=pop s.a.toNat:=by
  rw[←Ztc h0];refine ZsF fun i hi=> ?_;unfold S4.has S4.word;rw[show i/64=0 by omega,show i%64=i by omega];rfl
 have e1:ZsI (fun i=>s.has (64+i)) 64=pop s.b.toNat:=by
  rw[←Ztc h1];refine ZsF fun i hi=> ?_;unfold S4.has S4.word;rw[show(64+i)/64=1 by omega,show(64+i)%64=i by omega];rfl
 have e2:ZsI (fun i=>s.has (64+(64+i))) 64=pop s.c.toNat:=by
  rw[←Ztc h2];refine ZsF fun i hi=> ?_;unfold S4.has S4.word;rw[show(64+(64+i))/64=2 by omega,show(64+(64+i))%64=i by omega];rfl
 have e3:ZsI (fun i=>s.has (64+(64+(64+i)))) 64=pop s.d.toNat:=by
  rw[←Ztc h3];refine ZsF fun i hi=> ?_;unfold S4.has S4.word;rw[show(64+(64+(64+i)))/64=3 by omega,show(64+(64+(64+i)))%64=i by omega];rfl
 rw[show 256=64+(64+(64+64))from rfl,cntTo_add,cntTo_add,cntTo_add];show ZsI (fun i=>s.has i) 64+_=_;rw[e0,e1,e2,e3];unfold S4.len;omega
theorem C4s{w:World}{b:Nat}{s:S4}{T:TypeId}(h:w.heap[b]? =some (.cells s.cells.toArray T (0,0)))(w':World)(f:Fr nob w w'):
 w'.cell? ⟨b,0,none⟩=some (.int .u64 s.a)∧w'.cell? ⟨b,1,none⟩=some (.int .u64 s.b)∧w'.cell? ⟨b,2,none⟩=some (.int .u64 s.c)∧w'.cell? ⟨b,3,none⟩=some (.int .u64 s.d):=by
 obtain⟨c0,c1,c2,c3,_⟩:=Zcn (f.heap h (fun x=>x));exact⟨c0,c1,c2,c3⟩
theorem Zw3(s:S4)(w:World)(hs:s.fit):
 Calls Tryz.prog 137 #[.agg s.cells.toArray] w fun e w'=>e=.returned (.int .i64 s.len)∧Fr nob w w':=by
 have HS:=hid hs;have HB:=hid (heap_alloc_new w (.cells s.cells.toArray 62));have b:=hid (Zuu hs);clear hs;rw[S4.cells_eq];go_enter Tryz.func137,Tryz.ntmps137;go_wp2_with fail
 go_loopw [3,5] (fun n i wr=>∃k:Nat,i=.int .i64 k∧k≤256∧n=.int .i64 (ZsI s.has k:Nat)∧Fr nob (w.alloc (.cells s.cells.toArray 62)) wr) (fun _ i _=>256-(intOf i).toNat)
 case atStart=>exact⟨0,rfl,by omega,rfl,Fr.refl _ _⟩
 case round=>
  obtain⟨k,rfl,hk,rfl,fr⟩:=hrel;obtain⟨c0,c1,c2,c3⟩:=C4s HB.out wr fr;have FR:=hid fr;clear fr;have d:=Zw2 s.has k;have a:=hid (show ZsI s.has (k+1)=ZsI s.has k+(if s.has k=true then 1 else 0)from rfl);obtain⟨c,hc⟩:∃c,ZsI s.has k=c:=⟨_,rfl⟩;rw[hc]at d a⊢;have HC:=hid hc;clear hc;by_cases f:k<256
  ·have wk:IntKind.u8.wrap (k:Int)=(k:Int):=IntWalk.u8_in _ (by omega);go_wp2_with fail;refine(hasR_any s k _ HS.out f).mono ?_;obtain⟨p,hp⟩:∃p,s.has k=p:=⟨_,rfl⟩;rw[hp]at a⊢;rintro e w2 ⟨rfl,f2⟩;have F2:=hid f2;clear f2 hp;cases p with
   |true=>
    have HN:=hid (show ZsI s.has (k+1)=c+1 from a.out);go_wp2;go_roundw
    case rel=>exact⟨k+1,by go_num,by omega,by rw[HN.out];go_num,FR.out.trans' F2.out⟩
    case measure=>simp[intOf];omega
   |false=>
    have HN:=hid (show ZsI s.has (k+1)=c from a.out);go_wp2;go_roundw
    case rel=>exact⟨k+1,by go_num,by omega,by rw[HN.out],FR.out.trans' F2.out⟩
    case measure=>simp[intOf];omega
  ·obtain rfl:k=256:=by omega
   have HE:=hid (show s.len=c by rw[←b.out,HC.out]);go_wp2;go_ret;exact⟨ZdT (by rw[HE.out]),((Fr.refl _ _).alloc _).trans' FR.out⟩
def Zbd(f:FuncId)(p:Int→Bool):Prop:=∀(r:Int) (w:World),Calls Tryz.prog f #[.int .i32 r] w fun e w'=>e=.returned (.bool (p r))∧w=w'
def btw(r a b:Int):Bool:=decide (a≤r)&&decide (r≤b)
theorem between_any(r a b:Int)(w:World):Calls Tryz.prog 241 #[.int .i32 r,.int .i32 a,.int .i32 b] w fun e w'=>e=.returned (.bool (btw r a b))∧w=w':=by
 by_cases h1:a≤r
 ·by_cases h2:r≤b
  ·have HB:=hid (show btw r a b=true by simp[btw,h1,h2]);go_enter Tryz.func241,Tryz.ntmps241;go_wp2;go_ret;exact⟨ret_bool (by rw[HB.out]),rfl⟩
  ·have HB:=hid (show btw r a b=false by simp[btw,h2]);go_enter Tryz.func241,Tryz.ntmps241;go_wp2;go_ret;exact⟨ret_bool (by rw[HB.out]),rfl⟩
 ·have HB:=hid (show btw r a b=false by simp[btw,h1]);go_enter Tryz.func241,Tryz.ntmps241;go_wp2;go_ret;exact⟨ret_bool HB.out.symm,rfl⟩
def ZeZ(r:Int):Bool:=btw r 97 122
def Ze0(r:Int):Bool:=btw r 65 90
def Zc7(r:Int):Bool:=btw r 48 57
def Zc8(r:Int):Bool:=ZeZ r||Ze0 r
def Zc9(r:Int):Bool:=Zc8 r||Zc7 r
def Zb3(r:Int):Bool:=decide (r=32)||decide (r=9)
def Zda(r:Int):Bool:=btw r 33 126
def ZdE(r:Int):Bool:=Zc7 r||btw r 65 70||btw r 97 102
def Ze1(r:Int):Bool:=Zb3 r||btw r 10 13
def Zdb(r:Int):Bool:=decide (r<32)||decide (r=127)
def Zdc(r:Int):Bool:=decide (r=32)||Zda r
def Ze2(r:Int):Bool:=Zda r&& !Zc9 r
theorem rune_lower:Zbd 235 ZeZ:=by
 intro r w;go_enter Tryz.func235,Tryz.ntmps235;go_wp2_with fail;refine(between_any r 97 122 w).mono ?_;rintro e w1 ⟨rfl,rfl⟩;go_wp2;go_ret;exact⟨rfl,rfl⟩
theorem rune_upper:Zbd 236 Ze0:=by
 intro r w;go_enter Tryz.func236,Tryz.ntmps236;go_wp2_with fail;refine(between_any r 65 90 w).mono ?_;rintro e w1 ⟨rfl,rfl⟩;go_wp2;go_ret;exact⟨rfl,rfl⟩
theorem rune_digit:Zbd 238 Zc7:=by
 intro r w;go_enter Tryz.func238,Tryz.ntmps238;go_wp2_with fail;refine(between_any r 48 57 w).mono ?_;rintro e w1 ⟨rfl,rfl⟩;go_wp2;go_ret;exact⟨rfl,rfl⟩
theorem rune_graph:Zbd 246 Zda:=by
 intro r w;go_enter Tryz.func246,Tryz.ntmps246;go_wp2_with fail;refine(between_any r 33 126 w).mono ?_;rintro e w1 ⟨rfl,rfl⟩;go_wp2;go_ret;exact⟨rfl,rfl⟩
theorem rune_Alpha:Zbd 237 Zc8:=by
 intro r w;obtain⟨v,hv⟩:∃v,Zc8 r=v:=⟨_,rfl⟩;rw[hv];have HV:=hid hv;clear hv;obtain⟨p0,c⟩:∃p,ZeZ r=p:=⟨_,rfl⟩;have a:=hid c;clear c;obtain⟨p1,d⟩:∃p,Ze0 r=p:=⟨_,rfl⟩;have b:=hid d;clear d;have HE:=hid (show v=(p0||p1) by rw[←HV.out];unfold Zc8;rw[a.out,b.out]);go_enter Tryz.func237,Tryz.ntmps237;go_wp2_with fail;refine(rune_lower r w).mono ?_;rw[a.out];rintro e w1 ⟨rfl,rfl⟩;cases p0 with
 |true=>
  go_wp2;go_ret;exact⟨ret_bool (by rw[HE.out];simp),rfl⟩
 |false=>
  go_wp2_with fail;refine(rune_upper r w).mono ?_;rw[b.out];rintro e w2 ⟨rfl,rfl⟩;go_wp2;go_ret;exact⟨ret_bool (by rw[HE.out];simp),rfl⟩
theorem rune_Alnum:Zbd 239 Zc9:=by
 intro r w;obtain⟨v,hv⟩:∃v,Zc9 r=v:=⟨_,rfl⟩;rw[hv];have HV:=hid hv;clear hv;obtain⟨p0,c⟩:∃p,Zc8 r=p:=⟨_,rfl⟩;have a:=hid c;clear c;obtain⟨p1,d⟩:∃p,Zc7 r=p:=⟨_,rfl⟩;have b:=hid d;clear d;have HE:=hid (show v=(p0||p1) by rw[←HV.out];unfold Zc9;rw[a.out,b.out]);go_enter Tryz.func239,Tryz.ntmps239;go_wp2_with fail;refine(rune_Alpha r w).mono ?_;rw[a.out];rintro e w1 ⟨rfl,rfl⟩;cases p0 with
 |true=>
  go_wp2;go_ret;exact⟨ret_bool (by rw[HE.out];simp),rfl⟩
 |false=>
  go_wp2_with fail;refine(rune_digit r w).mono ?_;rw[b.out];rintro e w2 ⟨rfl,rfl⟩;go_wp2;go_ret;exact⟨ret_bool (by rw[HE.out];simp),rfl⟩
theorem Zg2:Zbd 240 ZdE:=by
 intro r w;obtain⟨v,hv⟩:∃v,ZdE r=v:=⟨_,rfl⟩;rw[hv];have HV:=hid hv;clear hv;obtain⟨p0,d⟩:∃p,Zc7 r=p:=⟨_,rfl⟩;have a:=hid d;clear d;obtain⟨p1,f⟩:∃p,btw r 65 70=p:=⟨_,rfl⟩;have b:=hid f;clear f;obtain⟨p2,g⟩:∃p,btw r 97 102=p:=⟨_,rfl⟩;have c:=hid g;clear g;have HE:=hid (show v=(p0||p1||p2) by rw[←HV.out];unfold ZdE;rw[a.out,b.out,c.out]);go_enter Tryz.func240,Tryz.ntmps240;go_wp2_with fail;refine(rune_digit r w).mono ?_;rw[a.out];rintro e w1 ⟨rfl,rfl⟩;cases p0 with
 |true=>
  go_wp2;go_ret;exact⟨ret_bool (by rw[HE.out];simp),rfl⟩
 |false=>
  go_wp2_with fail;refine(between_any r 65 70 w).mono ?_;rw[b.out];rintro e w2 ⟨rfl,rfl⟩;cases p1 with
  |true=>
   go_wp2;go_ret;exact⟨ret_bool (by rw[HE.out];simp),rfl⟩
  |false=>
   go_wp2_with fail;refine(between_any r 97 102 w).mono ?_;rw[c.out];rintro e w3 ⟨rfl,rfl⟩;go_wp2;go_ret;exact⟨ret_bool (by rw[HE.out];simp),rfl⟩
theorem rune_blank:Zbd 242 Zb3:=by
 intro r w;by_cases h1:r=32
 ·have HE:=hid (show Zb3 r=true by simp[Zb3,h1]);subst h1;go_enter Tryz.func242,Tryz.ntmps242;go_wp2;go_ret;exact⟨ret_bool HE.out.symm,rfl⟩
 ·have h2:(r==32)=false:=by simpa using h1
  have HE:=hid (show Zb3 r=(r==9) by rw[Bool.eq_iff_iff];simp[Zb3,h1]);clear h1;go_enter Tryz.func242,Tryz.ntmps242;go_wp2;go_ret;exact⟨ret_bool HE.out.symm,rfl⟩
theorem ZiW:Zbd 243 Ze1:=by
 intro r w;obtain⟨v,hv⟩:∃v,Ze1 r=v:=⟨_,rfl⟩;rw[hv];have HV:=hid hv;clear hv;obtain⟨p0,c⟩:∃p,Zb3 r=p:=⟨_,rfl⟩;have a:=hid c;clear c;obtain⟨p1,d⟩:∃p,btw r 10 13=p:=⟨_,rfl⟩;have b:=hid d;clear d;have HE:=hid (show v=(p0||p1) by rw[←HV.out];unfold Ze1;rw[a.out,b.out]);go_enter Tryz.func243,Tryz.ntmps243;go_wp2_with fail;refine(rune_blank r w).mono ?_;rw[a.out];rintro e w1 ⟨rfl,rfl⟩;cases p0 with
 |true=>
  go_wp2;go_ret;exact⟨ret_bool (by rw[HE.out];simp),rfl⟩
 |false=>
  go_wp2_with fail;refine(between_any r 10 13 w).mono ?_;rw[b.out];rintro e w2 ⟨rfl,rfl⟩;go_wp2;go_ret;exact⟨ret_bool (by rw[HE.out];simp),rfl⟩
theorem ZiX:Zbd 244 Zdb:=by
 intro r w;by_cases h1:r<32
 ·have HE:=hid (show Zdb r=true by simp[Zdb,h1]);go_enter Tryz.func244,Tryz.ntmps244;go_wp2;go_ret;exact⟨ret_bool HE.out.symm,rfl⟩
 ·have HE:=hid (show Zdb r=(r==127) by rw[Bool.eq_iff_iff];simp[Zdb,h1]);go_enter Tryz.func244,Tryz.ntmps244;go_wp2;go_ret;exact⟨ret_bool HE.out.symm,rfl⟩
theorem ZiY:Zbd 245 Zdc:=by
 intro r w;by_cases h1:r=32
 ·have HE:=hid (show Zdc r=true by simp[Zdc,h1]);subst h1;go_enter Tryz.func245,Tryz.ntmps245;go_wp2;go_ret;exact⟨ret_bool HE.out.symm,rfl⟩
 ·have h2:(r==32)=false:=by simpa using h1
  have HE:=hid (show Zdc r=Zda r by simp[Zdc,h1]);clear h1;go_enter Tryz.func245,Tryz.ntmps245;go_wp2_with fail;refine(rune_graph r w).mono ?_;rintro e w1 ⟨rfl,rfl⟩;go_wp2;go_ret;exact⟨ret_bool HE.out.symm,rfl⟩
theorem ZiZ:Zbd 247 Ze2:=by
 intro r w;obtain⟨p,hp⟩:∃p,Zda r=p:=⟨_,rfl⟩;obtain⟨q,hq⟩:∃q,Zc9 r=q:=⟨_,rfl⟩;have HE:=hid (show Ze2 r=(p&& !q) by unfold Ze2;rw[hp,hq]);have HP:=hid hp;have HQ:=hid hq;clear hp hq;go_enter Tryz.func247,Tryz.ntmps247;go_wp2_with fail;refine(rune_graph r w).mono ?_;rw[HP.out];rintro e w1 ⟨rfl,rfl⟩;cases p with
 |false=>
  go_wp2;go_ret;exact⟨ret_bool (by rw[HE.out];rfl),rfl⟩
 |true=>
  go_wp2_with fail;refine(rune_Alnum r w).mono ?_;rw[HQ.out];rintro e w1 ⟨rfl,rfl⟩;go_wp2;go_ret;exact⟨ret_bool (by rw[HE.out];simp),rfl⟩
def ZqL(f:FuncId):Prop:=∀(r:Int) (w:World),(callFunc f #[.int .i32 r]).run Tryz.prog w=.ok (.enter f #[.int .i32 r]) w
def Cls(v:Value)(o:Option (Int→Bool)):Prop:=
 (v=.nilFunc∧o=none)∨∃f p,v=.func (.func f) #[] #[]∧o=some p∧ZqL f∧Zbd f p
def Zak(s:ByteArray):Option (Int→Bool):=
 if s.toList==[108,111,119,101,114]then some ZeZ
 else if s.toList==[117,112,112,101,114]then some Ze0
 else if s.toList==[97,108,112,104,97]then some Zc8
 else if s.toList==[100,105,103,105,116]then some Zc7
 else if s.toList==[97,108,110,117,109]then some Zc9
 else if s.toList==[120,100,105,103,105,116]then some ZdE
 else if s.toList==[98,108,97,110,107]then some Zb3
 else if s.toList==[115,112,97,99,101]then some Ze1
 else if s.toList==[99,110,116,114,108]then some Zdb
 else if s.toList==[112,114,105,110,116]then some Zdc
 else if s.toList==[103,114,97,112,104]then some Zda
 else if s.toList==[112,117,110,99,116]then some Ze2
 else none
theorem class_any(s:ByteArray)(w:World):Calls Tryz.prog 220 #[.string s] w fun e w'=>∃v,e=.returned v∧Cls v (Zak s)∧w=w':=by
 go_enter Tryz.func220,Tryz.ntmps220;go_wp2
 ·go_ret;exact⟨_,rfl,Or.inr ⟨_,_,rfl,(by simp only[Zak, *];rfl),(fun _ _=>rfl),rune_lower⟩,rfl⟩
 ·go_ret;exact⟨_,rfl,Or.inr ⟨_,_,rfl,(by simp only[Zak, *];rfl),(fun _ _=>rfl),rune_upper⟩,rfl⟩
 ·go_ret;exact⟨_,rfl,Or.inr ⟨_,_,rfl,(by simp only[Zak, *];rfl),(fun _ _=>rfl),rune_Alpha⟩,rfl⟩
 ·go_ret;exact⟨_,rfl,Or.inr ⟨_,_,rfl,(by simp only[Zak, *];rfl),(fun _ _=>rfl),rune_digit⟩,rfl⟩
 ·go_ret;exact⟨_,rfl,Or.inr ⟨_,_,rfl,(by simp only[Zak, *];rfl),(fun _ _=>rfl),rune_Alnum⟩,rfl⟩
 ·go_ret;exact⟨_,rfl,Or.inr ⟨_,_,rfl,(by simp only[Zak, *];rfl),(fun _ _=>rfl),Zg2⟩,rfl⟩
 ·go_ret;exact⟨_,rfl,Or.inr ⟨_,_,rfl,(by simp only[Zak, *];rfl),(fun _ _=>rfl),rune_blank⟩,rfl⟩
 ·go_ret;exact⟨_,rfl,Or.inr ⟨_,_,rfl,(by simp only[Zak, *];rfl),(fun _ _=>rfl),ZiW⟩,rfl⟩
 ·go_ret;exact⟨_,rfl,Or.inr ⟨_,_,rfl,(by simp only[Zak, *];rfl),(fun _ _=>rfl),ZiX⟩,rfl⟩
 ·go_ret;exact⟨_,rfl,Or.inr ⟨_,_,rfl,(by simp only[Zak, *];rfl),(fun _ _=>rfl),ZiY⟩,rfl⟩
 ·go_ret;exact⟨_,rfl,Or.inr ⟨_,_,rfl,(by simp only[Zak, *];rfl),(fun _ _=>rfl),rune_graph⟩,rfl⟩
 ·go_ret;exact⟨_,rfl,Or.inr ⟨_,_,rfl,(by simp only[Zak, *];rfl),(fun _ _=>rfl),ZiZ⟩,rfl⟩
 ·go_ret;exact⟨_,rfl,Or.inl ⟨rfl,(by simp only[Zak, *];rfl)⟩,rfl⟩
end Go.Proofs.YtkfddjopbocpkaaGreatDoor
