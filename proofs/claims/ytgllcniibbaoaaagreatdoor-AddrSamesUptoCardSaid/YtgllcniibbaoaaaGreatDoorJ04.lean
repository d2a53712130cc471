/- Lemmas of this claim. -/
import Derived.Laws.StructEq
import Derived.Laws.Bits64b
import Derived.Lib.TrailingZeros
import Derived.Test.YtgllcniibbaoaaaGreatDoorJ01
set_option linter.all false
set_option maxRecDepth 100000
set_option maxHeartbeats 24000000
namespace Go.Proofs.YtgllcniibbaoaaaGreatDoor
open Go.Proofs.Tryz
open Go.RowKit
theorem ZcN:∀(xs ys:List Int),xs.length=ys.length→((List.range xs.length).all fun i=>xs.getD i 0==ys.getD i 0)=(xs==ys)
 |[],[],_=>rfl
 |x::xs,y::ys,h=>by
  have ih:=ZcN xs ys (by simpa using h);rw[List.length_cons,List.range_succ_eq_map,List.all_cons,List.all_map];simp only[List.getD_cons_zero,Function.comp_def,List.getD_cons_succ,ih];simp[List.cons_beq_cons]
 |[],_::_,h=>by simp at h
 |_::_,[],h=>by simp at h
theorem Zdx{P:Program}(w:World)(k:IntKind)(d:Nat)(t e:TypeId)(n:Nat)(ht:P.underlying t=some (.array n e))(he:P.underlying e=some (.int k))(hsz:∀w,(sizeOf e).run P w=.ok 1 w)
 (xs ys:List Int) (hx:xs.length=n) (hy:ys.length=n):
 (Op.equalIn (d+2) t (.agg (xs.map (Value.int k)).toArray) (.agg (ys.map (Value.int k)).toArray)).run P w=.ok (xs==ys) w:=by
 rw[←ZcN xs ys (hx.trans hy.symm),hx,List.range_eq_range',Op.equalIn];simp only[Sem.run_bind,run_underlying ht,Result.andThen_ok,hsz,Std.Legacy.Range.forIn_eq_forIn_range',Std.Legacy.Range.size,Nat.sub_zero,Nat.add_sub_cancel,Nat.div_one];have hl:∀i∈List.range' 0 n 1,i<n:=fun i hi=>by simpa using(List.mem_range'_1.1 hi).2
 generalize List.range' 0 n 1=l at hl⊢;induction l with
 |nil=>simp
 |cons i l ih=>
  have hi:i<n:=hl i (by simp);have px:(part e (xs.map (Value.int k)).toArray (i*1)).run P w=.ok (.int k (xs.getD i 0)) w:=by
   simp[part,isAgg,run_underlying he,List.getD,List.getElem?_eq_getElem (show i<xs.length by omega)]
  have py:(part e (ys.map (Value.int k)).toArray (i*1)).run P w=.ok (.int k (ys.getD i 0)) w:=by
   simp[part,isAgg,run_underlying he,List.getD,List.getElem?_eq_getElem (show i<ys.length by omega)]
  have pe:(Op.equalIn (d+1) e (.int k (xs.getD i 0)) (.int k (ys.getD i 0))).run P w=.ok (xs.getD i 0==ys.getD i 0) w:=by
   rw[run_equalIn_int w d e k k _ _ he]
  simp only[List.forIn_cons,Sem.run_bind,px,py,pe,Result.andThen_ok,List.all_cons];cases hb:(xs.getD i 0==ys.getD i 0)
  ·simp
  ·simp only[Bool.not_true,Bool.false_eq_true,if_false,Sem.run_pure,Result.andThen_ok,Bool.true_and];exact ih fun j hj=>hl j (by simp[hj])
def S4.same(s t:S4):Bool:=decide (s=t)
theorem S4.same_iff{s t:S4}:s.same t=true↔s=t:=by simp[S4.same]
theorem S4.eq_list(a b c d a' b' c' d':Int):([a,b,c,d]==[a',b',c',d'])=S4.same ⟨a,b,c,d⟩ ⟨a',b',c',d'⟩:=by
 rw[Bool.eq_iff_iff,S4.same_iff];simp
theorem Zpb(a b c d a' b' c' d':Int)(k:Nat)(w:World):(Op.equalIn (k+2) 132 (.agg #[.int .u64 a,.int .u64 b,.int .u64 c,.int .u64 d]) (.agg #[.int .u64 a',.int .u64 b',.int .u64 c',.int .u64 d'])).run prog w=.ok (S4.same ⟨a,b,c,d⟩ ⟨a',b',c',d'⟩) w:=by
 rw[←S4.eq_list];exact Zdx w .u64 k 132 31 4 underlying132 underlying31 (fun _=>by kernel_rfl) [a,b,c,d] [a',b',c',d'] rfl rfl
theorem ZAa(a b c d a' b' c' d':Int)(k:Nat)(w:World):(Op.equalIn (k+2) 33 (.agg #[.int .u64 a,.int .u64 b,.int .u64 c,.int .u64 d]) (.agg #[.int .u64 a',.int .u64 b',.int .u64 c',.int .u64 d'])).run prog w=.ok (S4.same ⟨a,b,c,d⟩ ⟨a',b',c',d'⟩) w:=by
 rw[←S4.eq_list];exact Zdx w .u64 k 33 31 4 underlying33 underlying31 (fun _=>by kernel_rfl) [a,b,c,d] [a',b',c',d'] rfl rfl
theorem Zg1(a b c d a' b' c' d':Int)(w:World):(Op.equalIn 9999 132 (.agg #[.int .u64 a,.int .u64 b,.int .u64 c,.int .u64 d]) (.agg #[.int .u64 a',.int .u64 b',.int .u64 c',.int .u64 d'])).run prog w=.ok (S4.same ⟨a,b,c,d⟩ ⟨a',b',c',d'⟩) w:=Zpb a b c d a' b' c' d' 9997 w
attribute [go_sem] Zg1
theorem Zyy(a b c d a' b' c' d':Int)(w:World):(Op.equalIn 10000 33 (.agg #[.int .u64 a,.int .u64 b,.int .u64 c,.int .u64 d]) (.agg #[.int .u64 a',.int .u64 b',.int .u64 c',.int .u64 d'])).run prog w=.ok (S4.same ⟨a,b,c,d⟩ ⟨a',b',c',d'⟩) w:=ZAa a b c d a' b' c' d' 9998 w
attribute [go_sem] Zyy
open Go.Lib (hid)
def S4.mix(f:Int→Int→Int)(k:Nat)(s t:S4):S4:=
 ⟨if 0<k then f s.a t.a else s.a,if 1<k then f s.b t.b else s.b,if 2<k then f s.c t.c else s.c,if 3<k then f s.d t.d else s.d⟩
def S4.or(s t:S4):S4:=⟨bits .or .u64 s.a t.a,bits .or .u64 s.b t.b,bits .or .u64 s.c t.c,bits .or .u64 s.d t.d⟩
abbrev ZaG(w:World)(b:Nat)(v0 v1 v2 v3:Value):World:=(((w.setCell ⟨b,0,none⟩ v0).setCell ⟨b,1,none⟩ v1).setCell ⟨b,2,none⟩ v2).setCell ⟨b,3,none⟩ v3
theorem setFour_heap{w:World}{b:Nat}{a0 a1 a2 a3:Value}{T:TypeId}{fr:Nat×Nat}(h:w.heap[b]? =some (.cells #[a0,a1,a2,a3] T fr))(v0 v1 v2 v3:Value):
 (ZaG w b v0 v1 v2 v3).heap[b]? =some (.cells #[v0,v1,v2,v3] T fr):=by
 have h0:(w.setCell ⟨b,0,none⟩ v0).heap[b]? =some (.cells #[v0,a1,a2,a3] T fr):=Za h 0 v0;have h1:((w.setCell ⟨b,0,none⟩ v0).setCell ⟨b,1,none⟩ v1).heap[b]? =some (.cells #[v0,v1,a2,a3] T fr):=Za h0 1 v1;have h2:(((w.setCell ⟨b,0,none⟩ v0).setCell ⟨b,1,none⟩ v1).setCell ⟨b,2,none⟩ v2).heap[b]? =some (.cells #[v0,v1,v2,a3] T fr):=Za h1 2 v2;exact Za h2 3 v3
theorem Zp{w a:World}{b:Nat}(f:Fr nob a w)(hb:a.heap.size≤b)(v0 v1 v2 v3:Value):Fr nob a (ZaG w b v0 v1 v2 v3):=by
 have h:∀(x:World) (j:Nat) (v:Value),Fr nob a x→Fr nob a (x.setCell ⟨b,j,none⟩ v):=fun x j v hx=>hx.setCell (p:=⟨b,j,none⟩) (fun h=>absurd h (Nat.not_lt.2 hb)) v;exact h _ _ _ (h _ _ _ (h _ _ _ (h _ _ _ f)))
abbrev ZnA(w:World)(s t:S4)(T:TypeId):World:=((w.alloc (.cells s.cells.toArray T)).alloc (.cells t.cells.toArray T)).alloc (.cells S4.zero.cells.toArray T)
theorem ZnB(w:World)(s t:S4)(T:TypeId):Fr nob w (ZnA w s t T):=(((Fr.refl _ _).alloc _).alloc _).alloc _
theorem Zpc(w:World)(s t:S4)(T:TypeId):(ZnA w s t T).heap[w.heap.size]? =some (.cells s.cells.toArray T (0,0)):=heap_alloc_lt _ (heap_alloc_lt _ (heap_alloc_new _ _))
theorem Zpd(w:World)(s t:S4)(T:TypeId):(ZnA w s t T).heap[w.heap.size+1]? =some (.cells t.cells.toArray T (0,0)):=by
 refine heap_alloc_lt _ ?_;have:=heap_alloc_new (w.alloc (.cells s.cells.toArray T)) (.cells t.cells.toArray T);simpa using this
theorem Zpe(w:World)(s t:S4)(T:TypeId):(ZnA w s t T).heap[w.heap.size+2]? =some (.cells S4.zero.cells.toArray T (0,0)):=by
 have:=heap_alloc_new ((w.alloc (.cells s.cells.toArray T)).alloc (.cells t.cells.toArray T)) (.cells S4.zero.cells.toArray T);simpa using this
theorem ZjV(w:World)(s t:S4)(T:TypeId):(ZnA w s t T).heap.size=w.heap.size+3:=by simp
theorem Zpf(s t:S4)(w:World):
 Calls prog 141 #[.agg s.cells.toArray,.agg t.cells.toArray] w fun e w'=>e=.returned (.agg (s.or t).cells.toArray)∧Fr nob w w':=by
 have HA:=hid (Zpc w s t 132);have HB:=hid (Zpd w s t 132);have HC:=hid (Zpe w s t 132);have F0:=hid (ZnB w s t 132);have n:=hid (ZjV w s t 132);rw[S4.cells_eq s,S4.cells_eq t];go_enter func141,ntmps141;go_wp2_with fail;obtain⟨w0,l⟩:∃w0,w0=ZnA w s t 132:=⟨_,rfl⟩;change Code.wp _ _ _ _ (ZnA w s t 132);rw[←l]at HA HB HC F0 n⊢;clear l
 go_loopw [6] (fun i wr=>∃k:Nat,i=.int .i64 k∧k≤4∧wr.heap[w.heap.size]? =some (.cells (S4.mix (bits .or .u64) k s t).cells.toArray 132 (0,0))∧Fr (fun j=>j=w.heap.size) w0 wr) (fun i _=>4-(intOf i).toNat)
 case atStart=>exact⟨0,rfl,by omega,HA.out,Fr.refl _ _⟩
 case round=>
  obtain⟨k,rfl,hk,hh,fr⟩:=hrel;have g:=fr.heap HB.out (by omega);have h:=fr.heap HC.out (by omega);obtain⟨c0,c1,c2,c3,z0,z1,z2,z3⟩:=Zcn hh;obtain⟨g0,g1,g2,g3,_⟩:=Zcn g;have HH:=hid hh;have FR:=hid fr;have o:=hid g;have f:=hid h;clear hh fr g h;have m:k=0∨k=1∨k=2∨k=3∨k=4:=by omega
  rcases m with rfl|rfl|rfl|rfl|rfl
  ·simp only[S4.mix,Nat.lt_irrefl,Nat.zero_lt_one,if_true,if_false,Nat.not_lt_zero,Nat.reduceLT]at c0 c1 c2 c3;go_wp2_with fail
   go_still_tail 6,(by kernel_rfl)
   change wpList _ _ _ _ _ wr.drew;go_wp2;go_roundw
   case rel=>exact⟨1,by go_num,by omega,Za HH.out 0 (.int .u64 (bits .or .u64 s.a t.a)),(FR.out.setCell (p:=⟨w.heap.size,0,none⟩) (fun _=>rfl) _).drew⟩
   case measure=>simp[intOf]
  ·simp only[S4.mix,Nat.lt_irrefl,Nat.zero_lt_one,if_true,if_false,Nat.not_lt_zero,Nat.reduceLT]at c0 c1 c2 c3;go_wp2_with fail
   go_still_tail 6,(by kernel_rfl)
   change wpList _ _ _ _ _ wr.drew;go_wp2;go_roundw
   case rel=>exact⟨2,by go_num,by omega,Za HH.out 1 (.int .u64 (bits .or .u64 s.b t.b)),(FR.out.setCell (p:=⟨w.heap.size,1,none⟩) (fun _=>rfl) _).drew⟩
   case measure=>simp[intOf]
  ·simp only[S4.mix,Nat.lt_irrefl,Nat.zero_lt_one,if_true,if_false,Nat.not_lt_zero,Nat.reduceLT]at c0 c1 c2 c3;go_wp2_with fail
   go_still_tail 6,(by kernel_rfl)
   change wpList _ _ _ _ _ wr.drew;go_wp2;go_roundw
   case rel=>exact⟨3,by go_num,by omega,Za HH.out 2 (.int .u64 (bits .or .u64 s.c t.c)),(FR.out.setCell (p:=⟨w.heap.size,2,none⟩) (fun _=>rfl) _).drew⟩
   case measure=>simp[intOf]
  ·simp only[S4.mix,Nat.lt_irrefl,Nat.zero_lt_one,if_true,if_false,Nat.not_lt_zero,Nat.reduceLT]at c0 c1 c2 c3;go_wp2_with fail
   go_still_tail 6,(by kernel_rfl)
   change wpList _ _ _ _ _ wr.drew;go_wp2;go_roundw
   case rel=>exact⟨4,by go_num,by omega,Za HH.out 3 (.int .u64 (bits .or .u64 s.d t.d)),(FR.out.setCell (p:=⟨w.heap.size,3,none⟩) (fun _=>rfl) _).drew⟩
   case measure=>simp[intOf]
  ·obtain⟨_,_,_,_,y0,y1,y2,y3⟩:=Zcn f.out;obtain⟨x0,x1,x2,x3,_⟩:=Zcn f.out;have FW:=hid (F0.out.trans FR.out (fun i hi e=>by omega));simp only[S4.mix,Nat.lt_irrefl,Nat.zero_lt_one,if_true,if_false,Nat.not_lt_zero,Nat.reduceLT]at c0 c1 c2 c3;go_wp2;(try simp only[Exit.inBlock,Exit.then]);exact bodyPost_ret (Zs (s:=s.or t) rfl rfl (setFour_heap f.out _ _ _ _)) rfl ⟨rfl,Zp FW.out (by omega) _ _ _ _⟩
def S4.fit(s:S4):Prop:=Fit s.a∧Fit s.b∧Fit s.c∧Fit s.d
def S4.word(s:S4)(d:Nat):Int:=match d/64 with
 |0=>s.a
 |1=>s.b
 |2=>s.c
 |_=>s.d
def S4.has(s:S4)(d:Nat):Bool:=(wd (s.word d)).getLsbD (d%64)
def S4.not(s:S4):S4:=⟨bits .xor .u64 IntKind.u64.max s.a,bits .xor .u64 IntKind.u64.max s.b,bits .xor .u64 IntKind.u64.max s.c,bits .xor .u64 IntKind.u64.max s.d⟩
theorem ZnC(s:S4)(d:Nat)(w:World)(hs:s.fit)(hd:d<256):
 Calls prog 160 #[.agg s.cells.toArray,.int .u8 d] w fun e w'=>e=.returned (.bool (s.has d))∧Fr nob w w':=by
 rw[S4.cells_eq s];have f:Int.tdiv (d:Int) 64=((d/64:Nat):Int):=(Int.ofNat_tdiv d 64).symm;have g:Int.tmod (d:Int) 64=((d%64:Nat):Int):=(Int.ofNat_tmod d 64).symm;have hq:d/64=0∨d/64=1∨d/64=2∨d/64=3:=by omega
 have hr:d%64<64:=by omega
 have w0:IntKind.u8.wrap 0=0:=by decide
 have w1:IntKind.u8.wrap 1=1:=by decide
 have w2:IntKind.u8.wrap 2=2:=by decide
 have w3:IntKind.u8.wrap 3=3:=by decide
 have wm:IntKind.u8.wrap ((d%64:Nat):Int)=((d%64:Nat):Int):=IntWalk.u8_in _ (by omega);have h:IntKind.u8.wrap ((d:Int)%64)=((d%64:Nat):Int):=by rw[show(d:Int)%64=((d%64:Nat):Int) by omega];exact wm
 have HS:=hid hs;clear hs;obtain⟨p0,p1,p2,p3⟩:=HS.out;have n0:0≤s.a:=p0.1;have n1:0≤s.b:=p1.1;have n2:0≤s.c:=p2.1;have n3:0≤s.d:=p3.1;clear p0 p1 p2 p3;rcases hq with hq|hq|hq|hq
 ·have HH:=hid (show s.has d=(wd s.a).getLsbD (d%64) by unfold S4.has S4.word;rw[hq];rfl);have HB:=hid (ZeV HS.out.1 hr);rw[hq]at f;clear hq;go_enter func160,ntmps160;go_wp2;go_ret;exact⟨ret_bool (by rw[HH.out];exact HB.out),(Fr.refl _ _).alloc _⟩
 ·have HH:=hid (show s.has d=(wd s.b).getLsbD (d%64) by unfold S4.has S4.word;rw[hq];rfl);have HB:=hid (ZeV HS.out.2.1 hr);rw[hq]at f;clear hq;go_enter func160,ntmps160;go_wp2;go_ret;exact⟨ret_bool (by rw[HH.out];exact HB.out),(Fr.refl _ _).alloc _⟩
 ·have HH:=hid (show s.has d=(wd s.c).getLsbD (d%64) by unfold S4.has S4.word;rw[hq];rfl);have HB:=hid (ZeV HS.out.2.2.1 hr);rw[hq]at f;clear hq;go_enter func160,ntmps160;go_wp2;go_ret;exact⟨ret_bool (by rw[HH.out];exact HB.out),(Fr.refl _ _).alloc _⟩
 ·have HH:=hid (show s.has d=(wd s.d).getLsbD (d%64) by unfold S4.has S4.word;rw[hq];rfl);have HB:=hid (ZeV HS.out.2.2.2 hr);rw[hq]at f;clear hq;go_enter func160,ntmps160;go_wp2;go_ret;exact⟨ret_bool (by rw[HH.out];exact HB.out),(Fr.refl _ _).alloc _⟩
abbrev bx2(w:World)(s:S4)(T:TypeId):World:=(w.alloc (.cells s.cells.toArray T)).alloc (.cells S4.zero.cells.toArray T)
theorem Zpg(w:World)(s:S4)(T:TypeId):Fr nob w (bx2 w s T):=((Fr.refl _ _).alloc _).alloc _
theorem Zqo(w:World)(s:S4)(T:TypeId):(bx2 w s T).heap[w.heap.size]? =some (.cells s.cells.toArray T (0,0)):=heap_alloc_lt _ (heap_alloc_new _ _)
theorem Zqp(w:World)(s:S4)(T:TypeId):(bx2 w s T).heap[w.heap.size+1]? =some (.cells S4.zero.cells.toArray T (0,0)):=by
 have:=heap_alloc_new (w.alloc (.cells s.cells.toArray T)) (.cells S4.zero.cells.toArray T);simpa using this
theorem ZlU(w:World)(s:S4)(T:TypeId):(bx2 w s T).heap.size=w.heap.size+2:=by simp
def S4.mix1(f:Int→Int)(k:Nat)(s:S4):S4:=
 ⟨if 0<k then f s.a else s.a,if 1<k then f s.b else s.b,if 2<k then f s.c else s.c,if 3<k then f s.d else s.d⟩
theorem ZnD(s:S4)(w:World):
 Calls prog 142 #[.agg s.cells.toArray] w fun e w'=>e=.returned (.agg s.not.cells.toArray)∧Fr nob w w':=by
 have HA:=hid (Zqo w s 132);have HC:=hid (Zqp w s 132);have F0:=hid (Zpg w s 132);have m:=hid (ZlU w s 132);rw[S4.cells_eq s];go_enter func142,ntmps142;go_wp2_with fail;obtain⟨w0,h⟩:∃w0,w0=bx2 w s 132:=⟨_,rfl⟩;change Code.wp _ _ _ _ (bx2 w s 132);rw[←h]at HA HC F0 m⊢;clear h
 go_loopw [4] (fun i wr=>∃k:Nat,i=.int .i64 k∧k≤4∧wr.heap[w.heap.size]? =some (.cells (S4.mix1 (bits .xor .u64 IntKind.u64.max) k s).cells.toArray 132 (0,0))∧Fr (fun j=>j=w.heap.size) w0 wr) (fun i _=>4-(intOf i).toNat)
 case atStart=>exact⟨0,rfl,by omega,HA.out,Fr.refl _ _⟩
 case round=>
  obtain⟨k,rfl,hk,hh,fr⟩:=hrel;have g:=fr.heap HC.out (by omega);obtain⟨c0,c1,c2,c3,z0,z1,z2,z3⟩:=Zcn hh;have HH:=hid hh;have FR:=hid fr;have f:=hid g;clear hh fr g;have l:k=0∨k=1∨k=2∨k=3∨k=4:=by omega
  rcases l with rfl|rfl|rfl|rfl|rfl
  ·simp only[S4.mix1,Nat.lt_irrefl,Nat.zero_lt_one,if_true,if_false,Nat.not_lt_zero,Nat.reduceLT]at c0 c1 c2 c3;go_wp2;go_roundw
   case rel=>exact⟨1,by go_num,by omega,Za HH.out 0 (.int .u64 (bits .xor .u64 IntKind.u64.max s.a)),(FR.out.setCell (p:=⟨w.heap.size,0,none⟩) (fun _=>rfl) _)⟩
   case measure=>simp[intOf]
  ·simp only[S4.mix1,Nat.lt_irrefl,Nat.zero_lt_one,if_true,if_false,Nat.not_lt_zero,Nat.reduceLT]at c0 c1 c2 c3;go_wp2;go_roundw
   case rel=>exact⟨2,by go_num,by omega,Za HH.out 1 (.int .u64 (bits .xor .u64 IntKind.u64.max s.b)),(FR.out.setCell (p:=⟨w.heap.size,1,none⟩) (fun _=>rfl) _)⟩
   case measure=>simp[intOf]
  ·simp only[S4.mix1,Nat.lt_irrefl,Nat.zero_lt_one,if_true,if_false,Nat.not_lt_zero,Nat.reduceLT]at c0 c1 c2 c3;go_wp2;go_roundw
   case rel=>exact⟨3,by go_num,by omega,Za HH.out 2 (.int .u64 (bits .xor .u64 IntKind.u64.max s.c)),(FR.out.setCell (p:=⟨w.heap.size,2,none⟩) (fun _=>rfl) _)⟩
   case measure=>simp[intOf]
  ·simp only[S4.mix1,Nat.lt_irrefl,Nat.zero_lt_one,if_true,if_false,Nat.not_lt_zero,Nat.reduceLT]at c0 c1 c2 c3;go_wp2;go_roundw
   case rel=>exact⟨4,by go_num,by omega,Za HH.out 3 (.int .u64 (bits .xor .u64 IntKind.u64.max s.d)),(FR.out.setCell (p:=⟨w.heap.size,3,none⟩) (fun _=>rfl) _)⟩
   case measure=>simp[intOf]
  ·obtain⟨x0,x1,x2,x3,y0,y1,y2,y3⟩:=Zcn f.out;have FW:=hid (F0.out.trans FR.out (fun i hi e=>by omega));simp only[S4.mix1,Nat.lt_irrefl,Nat.zero_lt_one,if_true,if_false,Nat.not_lt_zero,Nat.reduceLT]at c0 c1 c2 c3;go_wp2;(try simp only[Exit.inBlock,Exit.then]);exact bodyPost_ret (Zs (s:=s.not) rfl rfl (setFour_heap f.out _ _ _ _)) rfl ⟨rfl,Zp FW.out (by omega) _ _ _ _⟩
def Zbd(f:FuncId)(p:Int→Bool):Prop:=∀(r:Int) (w:World),Calls prog f #[.int .i32 r] w fun e w'=>e=.returned (.bool (p r))∧w=w'
def btw(r a b:Int):Bool:=decide (a≤r)&&decide (r≤b)
theorem between_any(r a b:Int)(w:World):Calls prog 194 #[.int .i32 r,.int .i32 a,.int .i32 b] w fun e w'=>e=.returned (.bool (btw r a b))∧w=w':=by
 by_cases h1:a≤r
 ·by_cases h2:r≤b
  ·have HB:=hid (show btw r a b=true by simp[btw,h1,h2]);go_enter func194,ntmps194;go_wp2;go_ret;exact⟨ret_bool (by rw[HB.out]),rfl⟩
  ·have HB:=hid (show btw r a b=false by simp[btw,h2]);go_enter func194,ntmps194;go_wp2;go_ret;exact⟨ret_bool (by rw[HB.out]),rfl⟩
 ·have HB:=hid (show btw r a b=false by simp[btw,h1]);go_enter func194,ntmps194;go_wp2;go_ret;exact⟨ret_bool HB.out.symm,rfl⟩
def ZeZ(r:Int):Bool:=btw r 97 122
def Ze0(r:Int):Bool:=btw r 65 90
def Zc7(r:Int):Bool:=btw r 48 57
def Zc8(r:Int):Bool:=ZeZ r||Ze0 r
def Zc9(r:Int):Bool:=Zc8 r||Zc7 r
def Zb3(r:Int):Bool:=decide (r=32)||decide (r=9)
def Zda(r:Int):Bool:=btw r 33 126
def ZdE(r:Int):Bool:=Zc7 r||btw r 65 70||btw r 97 102
def Ze1(r:Int):Bool:=Zb3 r||btw r 10 13
def Zdb(r:Int):Bool:=decide (r<32)||decide (r=127)
def Zdc(r:Int):Bool:=decide (r=32)||Zda r
def Ze2(r:Int):Bool:=Zda r&& !Zc9 r
theorem rune_lower:Zbd 188 ZeZ:=by
 intro r w;go_enter func188,ntmps188;go_wp2_with fail;refine(between_any r 97 122 w).mono ?_;rintro e w1 ⟨rfl,rfl⟩;go_wp2;go_ret;exact⟨rfl,rfl⟩
theorem rune_upper:Zbd 189 Ze0:=by
 intro r w;go_enter func189,ntmps189;go_wp2_with fail;refine(between_any r 65 90 w).mono ?_;rintro e w1 ⟨rfl,rfl⟩;go_wp2;go_ret;exact⟨rfl,rfl⟩
theorem rune_digit:Zbd 191 Zc7:=by
 intro r w;go_enter func191,ntmps191;go_wp2_with fail;refine(between_any r 48 57 w).mono ?_;rintro e w1 ⟨rfl,rfl⟩;go_wp2;go_ret;exact⟨rfl,rfl⟩
theorem rune_graph:Zbd 199 Zda:=by
 intro r w;go_enter func199,ntmps199;go_wp2_with fail;refine(between_any r 33 126 w).mono ?_;rintro e w1 ⟨rfl,rfl⟩;go_wp2;go_ret;exact⟨rfl,rfl⟩
theorem rune_Alpha:Zbd 190 Zc8:=by
 intro r w;obtain⟨v,hv⟩:∃v,Zc8 r=v:=⟨_,rfl⟩;rw[hv];have HV:=hid hv;clear hv;obtain⟨p0,c⟩:∃p,ZeZ r=p:=⟨_,rfl⟩;have a:=hid c;clear c;obtain⟨p1,d⟩:∃p,Ze0 r=p:=⟨_,rfl⟩;have b:=hid d;clear d;have HE:=hid (show v=(p0||p1) by rw[←HV.out];unfold Zc8;rw[a.out,b.out]);go_enter func190,ntmps190;go_wp2_with fail;refine(rune_lower r w).mono ?_;rw[a.out];rintro e w1 ⟨rfl,rfl⟩;cases p0 with
 |true=>
  go_wp2;go_ret;exact⟨ret_bool (by rw[HE.out];simp),rfl⟩
 |false=>
  go_wp2_with fail;refine(rune_upper r w).mono ?_;rw[b.out];rintro e w2 ⟨rfl,rfl⟩;go_wp2;go_ret;exact⟨ret_bool (by rw[HE.out];simp),rfl⟩
theorem rune_Alnum:Zbd 192 Zc9:=by
 intro r w;obtain⟨v,hv⟩:∃v,Zc9 r=v:=⟨_,rfl⟩;rw[hv];have HV:=hid hv;clear hv;obtain⟨p0,c⟩:∃p,Zc8 r=p:=⟨_,rfl⟩;have a:=hid c;clear c;obtain⟨p1,d⟩:∃p,Zc7 r=p:=⟨_,rfl⟩;have b:=hid d;clear d;have HE:=hid (show v=(p0||p1) by rw[←HV.out];unfold Zc9;rw[a.out,b.out]);go_enter func192,ntmps192;go_wp2_with fail;refine(rune_Alpha r w).mono ?_;rw[a.out];rintro e w1 ⟨rfl,rfl⟩;cases p0 with
 |true=>
  go_wp2;go_ret;exact⟨ret_bool (by rw[HE.out];simp),rfl⟩
 |false=>
  go_wp2_with fail;refine(rune_digit r w).mono ?_;rw[b.out];rintro e w2 ⟨rfl,rfl⟩;go_wp2;go_ret;exact⟨ret_bool (by rw[HE.out];simp),rfl⟩
theorem Zg2:Zbd 193 ZdE:=by
 intro r w;obtain⟨v,hv⟩:∃v,ZdE r=v:=⟨_,rfl⟩;rw[hv];have HV:=hid hv;clear hv;obtain⟨p0,d⟩:∃p,Zc7 r=p:=⟨_,rfl⟩;have a:=hid d;clear d;obtain⟨p1,f⟩:∃p,btw r 65 70=p:=⟨_,rfl⟩;have b:=hid f;clear f;obtain⟨p2,g⟩:∃p,btw r 97 102=p:=⟨_,rfl⟩;have c:=hid g;clear g;have HE:=hid (show v=(p0||p1||p2) by rw[←HV.out];unfold ZdE;rw[a.out,b.out,c.out]);go_enter func193,ntmps193;go_wp2_with fail;refine(rune_digit r w).mono ?_;rw[a.out];rintro e w1 ⟨rfl,rfl⟩;cases p0 with
 |true=>
  go_wp2;go_ret;exact⟨ret_bool (by rw[HE.out];simp),rfl⟩
 |false=>
  go_wp2_with fail;refine(between_any r 65 70 w).mono ?_;rw[b.out];rintro e w2 ⟨rfl,rfl⟩;cases p1 with
  |true=>
   go_wp2;go_ret;exact⟨ret_bool (by rw[HE.out];simp),rfl⟩
  |false=>
   go_wp2_with fail;refine(between_any r 97 102 w).mono ?_;rw[c.out];rintro e w3 ⟨rfl,rfl⟩;go_wp2;go_ret;exact⟨ret_bool (by rw[HE.out];simp),rfl⟩
theorem rune_blank:Zbd 195 Zb3:=by
 intro r w;by_cases h1:r=32
 ·have HE:=hid (show Zb3 r=true by simp[Zb3,h1]);subst h1;go_enter func195,ntmps195;go_wp2;go_ret;exact⟨ret_bool HE.out.symm,rfl⟩
 ·have h2:(r==32)=false:=by simpa using h1
  have HE:=hid (show Zb3 r=(r==9) by rw[Bool.eq_iff_iff];simp[Zb3,h1]);clear h1;go_enter func195,ntmps195;go_wp2;go_ret;exact⟨ret_bool HE.out.symm,rfl⟩
theorem ZiW:Zbd 196 Ze1:=by
 intro r w;obtain⟨v,hv⟩:∃v,Ze1 r=v:=⟨_,rfl⟩;rw[hv];have HV:=hid hv;clear hv;obtain⟨p0,c⟩:∃p,Zb3 r=p:=⟨_,rfl⟩;have a:=hid c;clear c;obtain⟨p1,d⟩:∃p,btw r 10 13=p:=⟨_,rfl⟩;have b:=hid d;clear d;have HE:=hid (show v=(p0||p1) by rw[←HV.out];unfold Ze1;rw[a.out,b.out]);go_enter func196,ntmps196;go_wp2_with fail;refine(rune_blank r w).mono ?_;rw[a.out];rintro e w1 ⟨rfl,rfl⟩;cases p0 with
 |true=>
  go_wp2;go_ret;exact⟨ret_bool (by rw[HE.out];simp),rfl⟩
 |false=>
  go_wp2_with fail;refine(between_any r 10 13 w).mono ?_;rw[b.out];rintro e w2 ⟨rfl,rfl⟩;go_wp2;go_ret;exact⟨ret_bool (by rw[HE.out];simp),rfl⟩
theorem ZiX:Zbd 197 Zdb:=by
 intro r w;by_cases h1:r<32
 ·have HE:=hid (show Zdb r=true by simp[Zdb,h1]);go_enter func197,ntmps197;go_wp2;go_ret;exact⟨ret_bool HE.out.symm,rfl⟩
 ·have HE:=hid (show Zdb r=(r==127) by rw[Bool.eq_iff_iff];simp[Zdb,h1]);go_enter func197,ntmps197;go_wp2;go_ret;exact⟨ret_bool HE.out.symm,rfl⟩
theorem ZiY:Zbd 198 Zdc:=by
 intro r w;by_cases h1:r=32
 ·have HE:=hid (show Zdc r=true by simp[Zdc,h1]);subst h1;go_enter func198,ntmps198;go_wp2;go_ret;exact⟨ret_bool HE.out.symm,rfl⟩
 ·have h2:(r==32)=false:=by simpa using h1
  have HE:=hid (show Zdc r=Zda r by simp[Zdc,h1]);clear h1;go_enter func198,ntmps198;go_wp2_with fail;refine(rune_graph r w).mono ?_;rintro e w1 ⟨rfl,rfl⟩;go_wp2;go_ret;exact⟨ret_bool HE.out.symm,rfl⟩
theorem ZiZ:Zbd 200 Ze2:=by
 intro r w;obtain⟨p,hp⟩:∃p,Zda r=p:=⟨_,rfl⟩;obtain⟨q,hq⟩:∃q,Zc9 r=q:=⟨_,rfl⟩;have HE:=hid (show Ze2 r=(p&& !q) by unfold Ze2;rw[hp,hq]);have HP:=hid hp;have HQ:=hid hq;clear hp hq;go_enter func200,ntmps200;go_wp2_with fail;refine(rune_graph r w).mono ?_;rw[HP.out];rintro e w1 ⟨rfl,rfl⟩;cases p with
 |false=>
  go_wp2;go_ret;exact⟨ret_bool (by rw[HE.out];rfl),rfl⟩
 |true=>
  go_wp2_with fail;refine(rune_Alnum r w).mono ?_;rw[HQ.out];rintro e w1 ⟨rfl,rfl⟩;go_wp2;go_ret;exact⟨ret_bool (by rw[HE.out];simp),rfl⟩
def ZqL(f:FuncId):Prop:=∀(r:Int) (w:World),(callFunc f #[.int .i32 r]).run prog w=.ok (.enter f #[.int .i32 r]) w
def Cls(v:Value)(o:Option (Int→Bool)):Prop:=
 (v=.nilFunc∧o=none)∨∃f p,v=.func (.func f) #[] #[]∧o=some p∧ZqL f∧Zbd f p
def Zak(s:ByteArray):Option (Int→Bool):=
 if s.toList==[108,111,119,101,114]then some ZeZ
 else if s.toList==[117,112,112,101,114]then some Ze0
 else if s.toList==[97,108,112,104,97]then some Zc8
 else if s.toList==[100,105,103,105,116]then some Zc7
 else if s.toList==[97,108,110,117,109]then some Zc9
 else if s.toList==[120,100,105,103,105,116]then some ZdE
 else if s.toList==[98,108,97,110,107]then some Zb3
 else if s.toList==[115,112,97,99,101]then some Ze1
 else if s.toList==[99,110,116,114,108]then some Zdb
 else if s.toList==[112,114,105,110,116]then some Zdc
 else if s.toList==[103,114,97,112,104]then some Zda
 else if s.toList==[112,117,110,99,116]then some Ze2
 else none
theorem class_any(s:ByteArray)(w:World):Calls prog 178 #[.string s] w fun e w'=>∃v,e=.returned v∧Cls v (Zak s)∧w=w':=by
 go_enter func178,ntmps178;go_wp2
 ·go_ret;exact⟨_,rfl,Or.inr ⟨_,_,rfl,(by simp only[Zak, *];rfl),(fun _ _=>rfl),rune_lower⟩,rfl⟩
 ·go_ret;exact⟨_,rfl,Or.inr ⟨_,_,rfl,(by simp only[Zak, *];rfl),(fun _ _=>rfl),rune_upper⟩,rfl⟩
 ·go_ret;exact⟨_,rfl,Or.inr ⟨_,_,rfl,(by simp only[Zak, *];rfl),(fun _ _=>rfl),rune_Alpha⟩,rfl⟩
 ·go_ret;exact⟨_,rfl,Or.inr ⟨_,_,rfl,(by simp only[Zak, *];rfl),(fun _ _=>rfl),rune_digit⟩,rfl⟩
 ·go_ret;exact⟨_,rfl,Or.inr ⟨_,_,rfl,(by simp only[Zak, *];rfl),(fun _ _=>rfl),rune_Alnum⟩,rfl⟩
 ·go_ret;exact⟨_,rfl,Or.inr ⟨_,_,rfl,(by simp only[Zak, *];rfl),(fun _ _=>rfl),Zg2⟩,rfl⟩
 ·go_ret;exact⟨_,rfl,Or.inr ⟨_,_,rfl,(by simp only[Zak, *];rfl),(fun _ _=>rfl),rune_blank⟩,rfl⟩
 ·go_ret;exact⟨_,rfl,Or.inr ⟨_,_,rfl,(by simp only[Zak, *];rfl),(fun _ _=>rfl),ZiW⟩,rfl⟩
 ·go_ret;exact⟨_,rfl,Or.inr ⟨_,_,rfl,(by simp only[Zak, *];rfl),(fun _ _=>rfl),ZiX⟩,rfl⟩
 ·go_ret;exact⟨_,rfl,Or.inr ⟨_,_,rfl,(by simp only[Zak, *];rfl),(fun _ _=>rfl),ZiY⟩,rfl⟩
 ·go_ret;exact⟨_,rfl,Or.inr ⟨_,_,rfl,(by simp only[Zak, *];rfl),(fun _ _=>rfl),rune_graph⟩,rfl⟩
 ·go_ret;exact⟨_,rfl,Or.inr ⟨_,_,rfl,(by simp only[Zak, *];rfl),(fun _ _=>rfl),ZiZ⟩,rfl⟩
 ·go_ret;exact⟨_,rfl,Or.inl ⟨rfl,(by simp only[Zak, *];rfl)⟩,rfl⟩
def pk(p:Int→Bool):Nat→S4
 |0=>S4.zero
 |k+1=>if p k then(pk p k).put k else pk p k
theorem pick_any(f:FuncId)(p:Int→Bool)(w:World)(hn:ZqL f)(hf:Zbd f p):
 Calls prog 179 #[.func (.func f) #[] #[]] w fun e w'=>e=.returned (.agg (pk p 256).cells.toArray)∧Fr nob w w':=by
 go_enter func179,ntmps179;go_wp2_with fail;obtain⟨w0,g⟩:∃w0,w0=((w.alloc (.cells S4.zero.cells.toArray 132)).alloc (.cells S4.zero.cells.toArray 132)):=⟨_,rfl⟩;have f0:Fr nob w w0:=by rw[g];exact((Fr.refl _ _).alloc _).alloc _
 have m:w0.heap[w.heap.size]? =some (.cells S4.zero.cells.toArray 132 (0,0)):=by rw[g];exact heap_alloc_lt _ (heap_alloc_new _ _)
 have l:w0.heap[w.heap.size+1]? =some (.cells S4.zero.cells.toArray 132 (0,0)):=by
  rw[g];have:=heap_alloc_new (w.alloc (.cells S4.zero.cells.toArray 132)) (.cells S4.zero.cells.toArray 132);simpa using this
 change Code.wp _ _ _ _ ((w.alloc (.cells S4.zero.cells.toArray 132)).alloc (.cells S4.zero.cells.toArray 132));rw[←g];have F0:=hid f0;have o:=hid m;have n:=hid l;clear f0 m l g
 go_loopw [5] (fun i wr=>∃k:Nat,i=.int .i32 k∧k≤256∧wr.heap[w.heap.size+1]? =some (.cells (pk p k).cells.toArray 132 (0,0))∧Fr (fun k=>k=w.heap.size+1) w0 wr) (fun i _=>256-(intOf i).toNat)
 case atStart=>exact⟨0,rfl,Nat.zero_le _,n.out,Fr.refl _ _⟩
 case round=>
  obtain⟨k,rfl,hk,hb,fr⟩:=hrel;have HB:=hid hb;have FR:=hid fr;clear hb fr;have FW:=hid (F0.out.trans FR.out (fun i hi x=>by omega));by_cases r:k<256
  ·cases hp:p k with
   |true=>
    have j:=hid (show pk p (k+1)=(pk p k).put k by simp[pk,hp]);have HP:=hid hp;clear hp;go_wp2_with fail;rw[hn];refine(hf k _).mono ?_;rw[HP.out];rintro e w3 ⟨rfl,rfl⟩;go_wp2_with fail;refine(add_any (w.heap.size+1) _ k _ r HB.out).mono ?_;rintro e w3 ⟨rfl,h3,f3⟩;have H3:=hid h3;have F3:=hid f3;clear h3 f3;go_wp2;go_roundw
    case rel=>exact⟨k+1,by go_num,by omega,by rw[j.out];exact H3.out,FR.out.trans' F3.out⟩
    case measure=>simp[intOf];omega
   |false=>
    have j:=hid (show pk p (k+1)=pk p k by simp[pk,hp]);have HP:=hid hp;clear hp;go_wp2_with fail;rw[hn];refine(hf k _).mono ?_;rw[HP.out];rintro e w3 ⟨rfl,rfl⟩;go_wp2;go_roundw
    case rel=>exact⟨k+1,by go_num,by omega,by rw[j.out];exact HB.out,FR.out⟩
    case measure=>simp[intOf];omega
  ·obtain rfl:k=256:=by omega
   have hb:=HB.out;obtain⟨c0,c1,c2,c3,_⟩:=Zcn hb;have hr:=FR.out.heap o.out (fun e=>by omega);obtain⟨_,_,_,_,f0,f1,f2,f3⟩:=Zcn hr;have v:=lt_heap hr;have u:=lt_heap hb;have t:=hid hb;have q:=hid hr;clear hb hr;go_wp2;(try simp only[Exit.inBlock,Exit.then]);have hW:=Za (Za (Za (Za q.out 0 (.int .u64 (pk p 256).a)) 1 (.int .u64 (pk p 256).b)) 2 (.int .u64 (pk p 256).c)) 3 (.int .u64 (pk p 256).d);refine bodyPost_ret (Zs (s:=pk p 256) rfl rfl hW) rfl ⟨rfl,?_⟩;exact(((FW.out.setCell (p:=⟨w.heap.size,0,none⟩) (fun h=>absurd h (Nat.lt_irrefl _)) _).setCell (p:=⟨w.heap.size,1,none⟩) (fun h=>absurd h (Nat.lt_irrefl _)) _).setCell (p:=⟨w.heap.size,2,none⟩) (fun h=>absurd h (Nat.lt_irrefl _)) _).setCell (p:=⟨w.heap.size,3,none⟩) (fun h=>absurd h (Nat.lt_irrefl _)) _
def ZaD(o:Option (Int→Bool)):S4:=match o with
 |none=>S4.zero
 |some p=>pk p 256
theorem ZfH(w:World):(binOp .eql 130 .nilFunc .nilFunc).run prog w=.ok (.bool true) w:=by kernel_rfl
theorem ZlV(f:FuncId)(w:World):(binOp .eql 130 (.func (.func f) #[] #[]) .nilFunc).run prog w=.ok (.bool false) w:=by kernel_rfl
theorem Zdq{fn:Func}{p q:Tmp}(h:fn.results= #[.cell p 132,.tmp q]){tmps:Array Value}{r:Nat}(ht:tmps.getD p undef=.pointer (some ⟨r,0,none⟩)){v:Value}(hq:tmps.getD q undef=v){W:World}{s:S4}
 (hb:W.heap[r]? =some (.cells s.cells.toArray 132 (0,0))):(results fn tmps).run prog W=.ok (.tuple #[.agg s.cells.toArray,v]) W:=by
 obtain⟨c0,c1,c2,c3,_⟩:=Zcn hb;have b:tmps[p]?.getD undef=.pointer (some ⟨r,0,none⟩):=by rw[←ht];simp
 have a:tmps[q]?.getD undef=v:=by rw[←hq];simp
 simp only[results,h];simp[b,a,go_sem,c0,c1,c2,c3,S4.cells]
theorem ZfI(s:ByteArray)(w:World):Calls prog 159 #[.string s] w fun e w'=>e=.returned (.tuple #[.agg (ZaD (Zak s)).cells.toArray,.bool (Zak s).isSome])∧Fr nob w w':=by
 obtain⟨o,ho⟩:∃o,Zak s=o:=⟨_,rfl⟩;rw[ho];have HO:=hid ho;clear ho;have q0:=ZfH;have q1:=ZlV;go_enter func159,ntmps159;go_wp2_with fail;refine(class_any s _).mono ?_;rw[HO.out];rintro e w1 ⟨v,rfl,hc,rfl⟩;rcases hc with⟨rfl,rfl⟩|⟨f,p,rfl,rfl,hn,hf⟩
 ·go_wp2;(try simp only[Exit.inBlock,Exit.then]);exact bodyPost_ret (Zdq (s:=S4.zero) rfl rfl rfl (Zg _ _ _ (by simp))) rfl ⟨rfl,(Fr.refl _ _).alloc _⟩
 ·go_wp2_with fail;refine(pick_any f p _ hn hf).mono ?_;rintro e w1 ⟨he,h1⟩;rw[S4.cells_eq]at he;subst he;have hb:=h1.heap (heap_alloc_new w (.cells S4.zero.cells.toArray 132)) (fun x=>x);obtain⟨c0,c1,c2,c3,f0,f1,f2,f3⟩:=Zcn hb;have HB:=hid hb;have F1:=hid h1;clear h1 hb;go_wp2;(try simp only[Exit.inBlock,Exit.then]);exact bodyPost_ret (Zdq (s:=pk p 256) rfl rfl rfl (setFour_heap HB.out _ _ _ _)) rfl ⟨rfl,Zp (((Fr.refl _ _).alloc _).trans' F1.out) (Nat.le_refl _) _ _ _ _⟩
def spanTo(a:Nat):Nat→S4
 |0=>S4.zero
 |n+1=>(spanTo a n).put (a+n)
def spn(a b:Nat):S4:=spanTo a (b+1-a)
theorem ZcO(d:Nat):S4.zero.has d=false:=by
 unfold S4.has S4.word S4.zero;have:wd 0=0#64:=by decide
 split<;>rw[this]<;>simp
theorem Zph(s t:S4):(s.or t).fit:=⟨ZaT .or s.a t.a,ZaT .or s.b t.b,ZaT .or s.c t.c,ZaT .or s.d t.d⟩
theorem ZnE(s:S4):s.not.fit:=⟨ZaT .xor _ s.a,ZaT .xor _ s.b,ZaT .xor _ s.c,ZaT .xor _ s.d⟩
theorem ZlW:Fit 0:=⟨by decide,by decide⟩
theorem ZaU:S4.zero.fit:=⟨ZlW,ZlW,ZlW,ZlW⟩
theorem Ze3(x:Int)(n:Nat):Fit (orw x n):=ZaT .or x _
theorem fit_put{s:S4}(h:s.fit)(d:Nat):(s.put d).fit:=by
 unfold S4.put;split
 ·exact⟨Ze3 _ _,h.2.1,h.2.2.1,h.2.2.2⟩
 ·exact⟨h.1,Ze3 _ _,h.2.2.1,h.2.2.2⟩
 ·exact⟨h.1,h.2.1,Ze3 _ _,h.2.2.2⟩
 ·exact⟨h.1,h.2.1,h.2.2.1,Ze3 _ _⟩
theorem ZlX(l:List UInt8):∀{s:S4},s.fit→(s.puts l).fit:=by
 induction l with
 |nil=>intro s h;exact h
 |cons c r ih=>intro s h;exact ih (fit_put h _)
theorem fit_spanTo(a:Nat):∀n,(spanTo a n).fit
 |0=>ZaU
 |n+1=>fit_put (fit_spanTo a n) _
theorem Zb4(a b:Nat):(spn a b).fit:=fit_spanTo _ _
theorem Zic(p:Int→Bool):∀n,(pk p n).fit
 |0=>ZaU
 |n+1=>by unfold pk;split;exact fit_put (Zic p n) _;exact Zic p n
theorem Zdd(o:Option (Int→Bool)):(ZaD o).fit:=by
 unfold ZaD;split;exact ZaU;exact Zic _ _
theorem S4.ext_has{s t:S4}(hs:s.fit)(ht:t.fit)(h:∀d,d<256→s.has d=t.has d):s=t:=by
 have e:∀q,q<4→wd (s.word (64*q))=wd (t.word (64*q)):=by
  intro q hq;apply BitVec.eq_of_getLsbD_eq;intro i hi;have:=h (64*q+i) (by omega);unfold S4.has at this;have w1:∀u:S4,u.word (64*q+i)=u.word (64*q):=fun u=>by
   unfold S4.word;rw[show(64*q+i)/64=64*q/64 by omega]
  rw[w1,w1,show(64*q+i)%64=i by omega]at this;exact this
 obtain⟨a,b,c,d⟩:=s;obtain⟨a',b',c',d'⟩:=t;have h0:=Zh8 hs.1 ht.1 (e 0 (by decide));have h1:=Zh8 hs.2.1 ht.2.1 (e 1 (by decide));have h2:=Zh8 hs.2.2.1 ht.2.2.1 (e 2 (by decide));have h3:=Zh8 hs.2.2.2 ht.2.2.2 (e 3 (by decide));subst h0;subst h1;subst h2;subst h3;rfl
theorem Zpi:∀n:Fin 64,wd (IntKind.u64.wrap (2^n.val))=BitVec.twoPow 64 n.val:=by decide +kernel
theorem Zpj(x:Int){n:Nat}(h:n<64):wd (orw x n)=wd x|||BitVec.twoPow 64 n:=by
 unfold orw;rw[Zqf,Zpi ⟨n,h⟩]
theorem ZlY(s:S4)(d e:Nat)(hd:d<256)(he:e<256):wd ((s.put d).word e)=if d/64=e/64 then wd (s.word e)|||BitVec.twoPow 64 (d%64)else wd (s.word e):=by
 have hm:d%64<64:=Nat.mod_lt _ (by decide);have hq:d/64=0∨d/64=1∨d/64=2∨d/64=3:=by omega
 have hr:e/64=0∨e/64=1∨e/64=2∨e/64=3:=by omega
 unfold S4.put S4.word;rcases hq with hq|hq|hq|hq<;>rcases hr with hr|hr|hr|hr<;>simp[hq,hr,Zpj,hm]
theorem ZjW(s:S4)(d e:Nat)(hd:d<256)(he:e<256):(s.put d).has e=(decide (d=e)||s.has e):=by
 unfold S4.has;rw[ZlY s d e hd he];split
 ·next h=>
  rw[BitVec.getLsbD_or,BitVec.getLsbD_twoPow,Bool.or_comm]
  congr 1
  have:d%64<64:=Nat.mod_lt _ (by decide);simp only[this,decide_true,Bool.true_and];rw[decide_eq_decide];omega
 ·next h=>
  have:d≠e:=fun x=>h (by rw[x]);simp[this]
theorem ZlZ(l:List UInt8)(e:Nat)(he:e<256):∀s:S4,(s.puts l).has e=(l.any (fun c=>decide (c.toNat=e))||s.has e):=by
 induction l with
 |nil=>intro s;simp[S4.puts]
 |cons c r ih=>
  intro s;rw[S4.puts,ih,ZjW _ _ _ c.toNat_lt he,List.any_cons];cases decide (c.toNat=e)<;>cases r.any (fun c=>decide (c.toNat=e))<;>simp
theorem Zi0(a e:Nat)(he:e<256):∀n,a+n≤256→(spanTo a n).has e=(decide (a≤e)&&decide (e<a+n)):=by
 intro n;induction n with
 |zero=>intro _;rw[spanTo,ZcO];simp<;>omega
 |succ n ih=>
  intro h;rw[spanTo,ZjW _ _ _ (by omega) he,ih (by omega)];rw[Bool.eq_iff_iff];simp;omega
theorem Zg3(a b e:Nat)(ha:a<256)(hb:b<256)(he:e<256):(spn a b).has e=(decide (a≤e)&&decide (e≤b)):=by
 unfold spn;rcases Nat.lt_or_ge b a with h|h
 ·rw[show b+1-a=0 by omega];rw[spanTo,ZcO];simp<;>omega
 ·rw[Zi0 _ _ he _ (by omega)];rw[Bool.eq_iff_iff];simp;omega
def Tab(w:World):Prop:=∀j,j<64→w.cell? ⟨1,j,none⟩=some (.int .u8 (Lib.deBruijn64tab.getD j 0:Nat))
theorem Tab.on{w w':World}(h:Tab w)(f:Fr nob w w'):Tab w':=fun j hj=>f.cell (h j hj) (fun x=>x)
theorem Tab.on2{w w':World}{S:Nat→Prop}(h:Tab w)(f:Fr S w w')(hn:¬S 1):Tab w':=fun j hj=>f.cell (h j hj) hn
theorem Tab.lt{w:World}(h:Tab w):1<w.heap.size:=World.block_lt_of_cell? w _ (h 0 (by decide))
theorem Zpk(x a:Nat)(hx:x<18446744073709551616)(hx0:x≠0)(hlow:x&&& (18446744073709551616-x)=a):
 IntKind.u64.wrap (bits .and .u64 (x:Int) (IntKind.u64.wrap (-(x:Int)))*285870213051353865)/288230376151711744=((a*285870213051353865%18446744073709551616/288230376151711744:Nat):Int):=by
 have e1:IntKind.u64.wrap (-(x:Int))=((18446744073709551616-x:Nat):Int):=by rw[IntKind.wrap_u64];omega
 rw[e1,bits_and_u64_nat x _ hx (by omega),hlow,IntKind.wrap_u64];omega
theorem tz_any(x:Nat)(hx:x<18446744073709551616)(hx0:x≠0)(w:World)(hT:Tab w):
 Calls prog 202 #[.int .u64 x] w fun e w'=>e=.returned (.int .i64 (Lib.ctz 64 x))∧w=w':=by
 obtain⟨d,hk⟩:=Lib.lowest_bit 64 x hx0 hx;obtain⟨hi,f⟩:=Lib.deBruijn64_at _ hk;have b:=Zpk x _ hx hx0 d;have a:=hT _ hi;rw[f]at a;obtain⟨k,g⟩:∃k,Lib.ctz 64 x=k:=⟨_,rfl⟩;rw[g]at a hk b hi⊢;obtain⟨j,c⟩:∃i,2^k*285870213051353865%18446744073709551616/288230376151711744=i:=⟨_,rfl⟩;rw[c]at a b hi;have h0:((x:Int)==0)=false:=by simp;omega
 have h:=hid b;clear d f g c hx hx0 hT b;go_enter func202,ntmps202;go_wp2_with(simp only[h.out]);go_ret;exact⟨rfl,rfl⟩
theorem ZfJ{x:Nat}(hx0:x≠0)(hx:x<18446744073709551616):Lib.ctz 64 x<64:=(Lib.lowest_bit 64 x hx0 hx).2
theorem Zl0{x:Nat}(hx0:x≠0)(hx:x<18446744073709551616):x.testBit (Lib.ctz 64 x)=true∧∀i,i<Lib.ctz 64 x→x.testBit i=false:=by
 unfold Lib.ctz;rw[if_neg hx0];obtain⟨m,hm,_⟩:=Lib.ctzFrom_spec 64 x (by omega) hx;generalize Lib.ctzFrom 64 x=k at *;subst hm;constructor
 ·rw[Nat.testBit_eq_decide_div_mod_eq,Nat.mul_div_cancel_left _ (Nat.two_pow_pos k)];simp
 ·intro i hi;rw[Nat.testBit_eq_decide_div_mod_eq];obtain⟨d,rfl⟩:∃d,k=i+(d+1):=⟨k-i-1,by omega⟩;rw[Nat.pow_add,Nat.mul_assoc,Nat.mul_div_cancel_left _ (Nat.two_pow_pos i),Nat.pow_succ];simp;rw[Nat.mul_assoc,Nat.mul_comm,Nat.mul_assoc];omega
def Zbi(s:S4)(d:Nat)(b:Bool):Prop:=(b=false∧d=0∧s=S4.zero)∨(b=true∧d<256∧s.has d=true∧∀e,e<d→s.has e=false)
theorem Zbi.uniq{s:S4}{d d':Nat}{b b':Bool}(h:Zbi s d b)(h':Zbi s d' b'):d=d'∧b=b':=by
 rcases h with⟨rfl,rfl,rfl⟩|⟨rfl,h1,h2,h3⟩<;>rcases h' with⟨rfl,rfl,h'⟩|⟨rfl,e,a,c⟩
 ·exact⟨rfl,rfl⟩
 ·rw[ZcO]at a;cases a
 ·subst h';rw[ZcO]at h2;cases h2
 ·refine⟨?_,rfl⟩;rcases Nat.lt_trichotomy d d' with h|h|h
  ·rw[c d h]at h2;cases h2
  ·exact h
  ·rw[h3 d' h]at a;cases a
theorem word_bit{x:Int}(h:Fit x)(i:Nat):(wd x).getLsbD i=x.toNat.testBit i:=by
 have:=Zh7 h;have e:(wd x).toNat=x.toNat:=by omega
 rw[BitVec.getLsbD,e]
theorem S4.has_word{s:S4}(hs:s.fit)(q i:Nat)(hq:q<4)(hi:i<64):s.has (64*q+i)=(s.word (64*q)).toNat.testBit i:=by
 unfold S4.has;have hw:s.word (64*q+i)=s.word (64*q):=by unfold S4.word;rw[show(64*q+i)/64=64*q/64 by omega]
 have hf:Fit (s.word (64*q)):=by unfold S4.word;split;exact hs.1;exact hs.2.1;exact hs.2.2.1;exact hs.2.2.2
 rw[hw,word_bit hf,show(64*q+i)%64=i by omega]
def S4.noughts(s:S4)(q:Nat):Prop:=∀r,r<q→s.word (64*r)=0
theorem ZcP{s:S4}(hs:s.fit){q:Nat}(hq:q<4)(h0:s.noughts q)(x:Nat)(hx:s.word (64*q)=(x:Int))(hx0:x≠0):Zbi s (64*q+Lib.ctz 64 x) true:=by
 have hf:Fit (s.word (64*q)):=by unfold S4.word;split;exact hs.1;exact hs.2.1;exact hs.2.2.1;exact hs.2.2.2
 have a:x<18446744073709551616:=by have:=hf.2;omega
 have hc:=ZfJ hx0 a;obtain⟨b1,b2⟩:=Zl0 hx0 a;refine .inr ⟨rfl,by omega,?_,?_⟩
 ·rw[S4.has_word hs q _ hq hc,hx];exact b1
 ·intro e he;have hd:e=64*(e/64)+e%64:=by omega
  have hm:e%64<64:=Nat.mod_lt _ (by decide);rw[hd,S4.has_word hs _ _ (by omega) hm];rcases Nat.lt_or_ge (e/64) q with h|h
  ·rw[h0 _ h];simp
  ·have:e/64=q:=by omega
   rw[this,hx];exact b2 _ (by omega)
theorem Zi1{s:S4}(h0:s.noughts 4):Zbi s 0 false:=by
 refine .inl ⟨rfl,rfl,?_⟩;obtain⟨a,b,c,d⟩:=s;have e0:=h0 0 (by decide);have e1:=h0 1 (by decide);have e2:=h0 2 (by decide);have e3:=h0 3 (by decide);simp[S4.word]at e0 e1 e2 e3;subst e0;subst e1;subst e2;subst e3;rfl
theorem ZnF(a b c d:Value)(w:World):(Instr.index 132 (.agg #[a,b,c,d]) (.int .i64 0)).run prog w=.ok a w:=by kernel_rfl
theorem ZnG(a b c d:Value)(w:World):(Instr.index 132 (.agg #[a,b,c,d]) (.int .i64 1)).run prog w=.ok b w:=by kernel_rfl
theorem ZnH(a b c d:Value)(w:World):(Instr.index 132 (.agg #[a,b,c,d]) (.int .i64 2)).run prog w=.ok c w:=by kernel_rfl
theorem ZnI(a b c d:Value)(w:World):(Instr.index 132 (.agg #[a,b,c,d]) (.int .i64 3)).run prog w=.ok d w:=by kernel_rfl
def Zpl(s:S4)(w:World)(e:Ending)(w':World):Prop:=∃(d:Nat) (b:Bool),e=.returned (.tuple #[.int .u8 d,.bool b])∧Zbi s d b∧Fr nob w w'
theorem least_any(s:S4)(w:World)(hs:s.fit)(hT:Tab w):
 Calls prog 181 #[.agg #[.int .u64 s.a,.int .u64 s.b,.int .u64 s.c,.int .u64 s.d]] w (Zpl s w):=by
 obtain⟨s0,s1,s2,s3⟩:=s;obtain⟨x0,rfl⟩:∃x:Nat,s0=(x:Int):=⟨s0.toNat,by have:=hs.1.1;simp only at this;omega⟩;obtain⟨x1,rfl⟩:∃x:Nat,s1=(x:Int):=⟨s1.toNat,by have:=hs.2.1.1;simp only at this;omega⟩;obtain⟨x2,rfl⟩:∃x:Nat,s2=(x:Int):=⟨s2.toNat,by have:=hs.2.2.1.1;simp only at this;omega⟩;obtain⟨x3,rfl⟩:∃x:Nat,s3=(x:Int):=⟨s3.toNat,by have:=hs.2.2.2.1;simp only at this;omega⟩;have b0:x0<18446744073709551616:=by have:=hs.1.2;simp only at this;omega
 have b1:x1<18446744073709551616:=by have:=hs.2.1.2;simp only at this;omega
 have b2:x2<18446744073709551616:=by have:=hs.2.2.1.2;simp only at this;omega
 have b3:x3<18446744073709551616:=by have:=hs.2.2.2.2;simp only at this;omega
 have B0:=hid b0;have B1:=hid b1;have B2:=hid b2;have B3:=hid b3;clear b0 b1 b2 b3;have HS:=hid hs;have i0:=ZnF;have i1:=ZnG;have i2:=ZnH;have i3:=ZnI;have HT:=hid (hT.on ((Fr.refl nob w).alloc (.cells #[.int .u64 x0,.int .u64 x1,.int .u64 x2,.int .u64 x3] 132)));clear hT hs;go_enter func181,ntmps181;go_wp2_with fail
 go_loop [7] (fun i=>∃k:Nat,i=.int .i64 k∧k≤4∧(S4.mk (x0:Int) x1 x2 x3).noughts k) (fun i=>4-(intOf i).toNat)
 case atStart=>exact⟨0,rfl,by omega,fun r hr=>by omega⟩
 case round=>
  obtain⟨k,rfl,hk,h0⟩:=hrel;have H0:=hid h0;clear h0;have g:k=0∨k=1∨k=2∨k=3∨k=4:=by omega
  rcases g with rfl|rfl|rfl|rfl|rfl
  ·by_cases f:x0=0
   ·have HN:=hid (show(S4.mk (x0:Int) x1 x2 x3).noughts 1 from fun r hr=>by
     rcases Nat.lt_or_ge r 0 with h|h
     ·exact H0.out r h
     ·obtain rfl:r=0:=by omega
      show(x0:Int)=0;omega)
    have t0:((x0:Int) !=0)=false:=by simp;omega
    clear f;go_wp2
    go_round
    case rel=>exact⟨1,by go_num,by omega,HN.out⟩
    case measure=>simp[intOf]
   ·have t0:((x0:Int) !=0)=true:=by simp;omega
    have HL:=hid (ZcP HS.out (q:=0) (by decide) H0.out x0 rfl f);have hc:=ZfJ f B0.out;have hT:=HT.out;go_wp2_with fail;refine(tz_any x0 B0.out f _ hT).mono ?_;rintro e w' ⟨rfl,rfl⟩;go_wp2;go_ret2;exact⟨_,true,by simp,HL.out,(Fr.refl _ _).alloc _⟩
  ·by_cases f:x1=0
   ·have HN:=hid (show(S4.mk (x0:Int) x1 x2 x3).noughts 2 from fun r hr=>by
     rcases Nat.lt_or_ge r 1 with h|h
     ·exact H0.out r h
     ·obtain rfl:r=1:=by omega
      show(x1:Int)=0;omega)
    have t0:((x1:Int) !=0)=false:=by simp;omega
    clear f;go_wp2
    go_round
    case rel=>exact⟨2,by go_num,by omega,HN.out⟩
    case measure=>simp[intOf]
   ·have t0:((x1:Int) !=0)=true:=by simp;omega
    have HL:=hid (ZcP HS.out (q:=1) (by decide) H0.out x1 rfl f);have hc:=ZfJ f B1.out;have hT:=HT.out;go_wp2_with fail;refine(tz_any x1 B1.out f _ hT).mono ?_;rintro e w' ⟨rfl,rfl⟩;go_wp2;go_ret2;exact⟨_,true,by simp,HL.out,(Fr.refl _ _).alloc _⟩
  ·by_cases f:x2=0
   ·have HN:=hid (show(S4.mk (x0:Int) x1 x2 x3).noughts 3 from fun r hr=>by
     rcases Nat.lt_or_ge r 2 with h|h
     ·exact H0.out r h
     ·obtain rfl:r=2:=by omega
      show(x2:Int)=0;omega)
    have t0:((x2:Int) !=0)=false:=by simp;omega
    clear f;go_wp2
    go_round
    case rel=>exact⟨3,by go_num,by omega,HN.out⟩
    case measure=>simp[intOf]
   ·have t0:((x2:Int) !=0)=true:=by simp;omega
    have HL:=hid (ZcP HS.out (q:=2) (by decide) H0.out x2 rfl f);have hc:=ZfJ f B2.out;have hT:=HT.out;go_wp2_with fail;refine(tz_any x2 B2.out f _ hT).mono ?_;rintro e w' ⟨rfl,rfl⟩;go_wp2;go_ret2;exact⟨_,true,by simp,HL.out,(Fr.refl _ _).alloc _⟩
  ·by_cases f:x3=0
   ·have HN:=hid (show(S4.mk (x0:Int) x1 x2 x3).noughts 4 from fun r hr=>by
     rcases Nat.lt_or_ge r 3 with h|h
     ·exact H0.out r h
     ·obtain rfl:r=3:=by omega
      show(x3:Int)=0;omega)
    have t0:((x3:Int) !=0)=false:=by simp;omega
    clear f;go_wp2
    go_round
    case rel=>exact⟨4,by go_num,by omega,HN.out⟩
    case measure=>simp[intOf]
   ·have t0:((x3:Int) !=0)=true:=by simp;omega
    have HL:=hid (ZcP HS.out (q:=3) (by decide) H0.out x3 rfl f);have hc:=ZfJ f B3.out;have hT:=HT.out;go_wp2_with fail;refine(tz_any x3 B3.out f _ hT).mono ?_;rintro e w' ⟨rfl,rfl⟩;go_wp2;go_ret2;exact⟨_,true,by simp,HL.out,(Fr.refl _ _).alloc _⟩
  ·go_wp2;go_ret2;exact⟨0,false,rfl,Zi1 H0.out,(Fr.refl _ _).alloc _⟩
theorem Zl1(a b:Nat)(w:World)(ha:a<256)(hb:b<256):
 Calls prog 115 #[.int .u8 a,.int .u8 b] w fun e w'=>e=.returned (.agg (spn a b).cells.toArray)∧Fr nob w w':=by
 go_enter func115,ntmps115;go_wp2_with fail;obtain⟨w0,c⟩:∃w0,w0=((w.alloc (.cells S4.zero.cells.toArray 132)).alloc (.cells S4.zero.cells.toArray 132)):=⟨_,rfl⟩;have f0:Fr nob w w0:=by rw[c];exact((Fr.refl _ _).alloc _).alloc _
 have g:w0.heap[w.heap.size]? =some (.cells S4.zero.cells.toArray 132 (0,0)):=by rw[c];exact heap_alloc_lt _ (heap_alloc_new _ _)
 have f:w0.heap[w.heap.size+1]? =some (.cells S4.zero.cells.toArray 132 (0,0)):=by
  rw[c];have:=heap_alloc_new (w.alloc (.cells S4.zero.cells.toArray 132)) (.cells S4.zero.cells.toArray 132);simpa using this
 change Code.wp _ _ _ _ ((w.alloc (.cells S4.zero.cells.toArray 132)).alloc (.cells S4.zero.cells.toArray 132));rw[←c];have F0:=hid f0;have j:=hid g;have h:=hid f;clear f0 g f c
 go_loopw [6] (fun i wr=>∃k:Nat,i=.int .i64 (a+k:Nat)∧(k=0∨a+k≤b+1)∧wr.heap[w.heap.size+1]? =some (.cells (spanTo a k).cells.toArray 132 (0,0))∧Fr (fun k=>k=w.heap.size+1) w0 wr) (fun i _=>256-(intOf i).toNat)
 case atStart=>exact⟨0,rfl,.inl rfl,h.out,Fr.refl _ _⟩
 case round=>
  obtain⟨k,rfl,hk,d,fr⟩:=hrel;have HB:=hid d;have FR:=hid fr;clear d fr;have FW:=hid (F0.out.trans FR.out (fun i hi x=>by omega));obtain⟨n,hn⟩:∃n,a+k=n:=⟨_,rfl⟩;rw[hn];have HN:=hid hn;by_cases r:n≤b
  ·have wn:IntKind.u8.wrap (n:Int)=(n:Int):=IntWalk.u8_in _ (by omega);clear hn hk;go_wp2_with fail;refine(add_any (w.heap.size+1) _ n _ (by omega) HB.out).mono ?_;rintro e w3 ⟨rfl,h3,f3⟩;have H3:=hid h3;have F3:=hid f3;clear h3 f3;go_wp2;go_roundw
   case rel=>exact⟨k+1,by have:=HN.out;congr 1;omega,.inr (by have:=HN.out;omega),by have:=H3.out;rw[←HN.out]at this;exact this,FR.out.trans' F3.out⟩
   case measure=>simp[intOf];omega
  ·have m:=hid (show spanTo a k=spn a b by unfold spn;congr 1;omega);clear hn hk;have hb:=HB.out;rw[m.out]at hb;obtain⟨c0,c1,c2,c3,_⟩:=Zcn hb;have hr:=FR.out.heap j.out (fun e=>by omega);obtain⟨_,_,_,_,f0,f1,f2,f3⟩:=Zcn hr;have q:=lt_heap hr;have p:=lt_heap hb;have o:=hid hb;have l:=hid hr;clear hb hr;go_wp2;(try simp only[Exit.inBlock,Exit.then]);exact bodyPost_ret (Zs (s:=spn a b) rfl rfl (setFour_heap l.out _ _ _ _)) rfl ⟨rfl,Zp FW.out (Nat.le_refl _) _ _ _ _⟩
end Go.Proofs.YtgllcniibbaoaaaGreatDoor
