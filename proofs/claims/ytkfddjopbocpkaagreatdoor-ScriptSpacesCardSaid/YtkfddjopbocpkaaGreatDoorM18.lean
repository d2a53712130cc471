/- Lemmas of this claim. -/
import Derived.WalkMore
import Derived.Test.YtkfddjopbocpkaaGreatDoorM02
import Derived.Test.YtkfddjopbocpkaaGreatDoorM05
set_option linter.unusedVariables false
set_option linter.unusedSimpArgs false
set_option maxRecDepth 100000
set_option maxHeartbeats 4000000
namespace Go.Proofs.YtkfddjopbocpkaaGreatDoor
open Go.Lib (hid)
open Go.RowKit
theorem Zmu{r:Int}(h:Lib.validRune r=true):Utf8.valid r=true:=by
 simp only[Lib.validRune,decide_eq_true_eq]at h;simp only[Utf8.valid,Bool.or_eq_true,Bool.and_eq_true,decide_eq_true_eq];omega
theorem indexRune_high(r:Int)(w:World)(h:128≤r)(hm:r≤2147483647):
 Calls Tryz.prog 150 #[.string ⟨#[10,59]⟩,.int .i32 r] w fun e w'=>e=.returned (.int .i64 (-1))∧Fr nob w w':=by
 have h0:¬r<128:=by omega
 by_cases he:r=65533
 ·subst he;go_enter Tryz.func150,Tryz.ntmps150;go_wp2_with fail
  go_loopw [5] (fun _ wr=>∃k:Nat,k≤2∧wr=w.iter ⟨#[10,59]⟩ k) (fun _ wr=>2-wr.iterPos w.heap.size)
  case atStart=>exact⟨0,by omega,rfl⟩
  case round=>
   obtain⟨k,hk,rfl⟩:=hrel;by_cases hk2:k=2
   ·subst hk2;have hnx:∀ty,(Instr.next (.pointer (some ⟨w.heap.size,0,none⟩)) true ty).run Tryz.prog (w.iter ⟨#[10,59]⟩ 2)=.ok (.tuple #[.bool false]) (w.iter ⟨#[10,59]⟩ 2):=fun ty=>run_next_end w _ 2 ty (by decide);go_wp2;go_ret;exact⟨rfl,Zb2 (Fr.refl _ _) _ _⟩
   ·have hlt:k<(ByteArray.mk #[10,59]).size:=by show k<2;omega
    obtain⟨x,hx,hxl⟩:∃x:Nat,x=((ByteArray.mk #[10,59])[k]'hlt).toNat∧x<128:=⟨_,rfl,by
     match k,hlt with
     |0,_=>show(UInt8.toNat 10)<128;decide
     |1,_=>show(UInt8.toNat 59)<128;decide⟩
    have hnx:∀ty,(Instr.next (.pointer (some ⟨w.heap.size,0,none⟩)) true ty).run Tryz.prog (w.iter ⟨#[10,59]⟩ k)=.ok (.tuple #[.bool true,.int .i64 k,.int .i32 x]) (w.iter ⟨#[10,59]⟩ (k+1)):=fun ty=>by
     rw[run_next_ascii w _ k ty hlt (by omega),hx]
    have hx2:((x:Int)==65533)=false:=by simp;omega
    clear hx;go_wp2;go_roundw
    case rel=>exact⟨k+1,by omega,rfl⟩
    case measure=>simp;omega
 ·have he2:(r==65533)=false:=by simpa using he
  cases hv:Lib.validRune r with
  |false=>
   go_enter Tryz.func150,Tryz.ntmps150;go_wp2_with(go_at_call 183;refine(Tryz.utf8_ValidRune _ _).mono ?_;rw[hv];rintro e w' ⟨rfl,rfl⟩);go_ret;exact⟨rfl,Fr.refl _ _⟩
  |true=>
   obtain⟨f1,f2,f3⟩:=encode_facts r (Zmu hv) h;obtain⟨E,hE⟩:∃E,Utf8.encode r=E:=⟨_,rfl⟩;rw[hE]at f1 f2 f3;have hcv:∀w,(convert 21 9 (.int .i32 r)).run Tryz.prog w=.ok (.string E) w:=fun w=>by rw[run_convert_int_string w _ _ _ _ (by kernel_rfl) (by kernel_rfl),hE]
   have hsl:∀w,(Instr.slice 9 (.string ⟨#[10,59]⟩) (some (.int .i64 2)) none none).run Tryz.prog w=.ok (.string ⟨#[]⟩) w:=fun w=>by rfl
   by_cases hz:E.size=2
   ·have hl:1<E.size:=by omega
    have f4:128≤(E[1]'hl).toNat:=by have:=f3 (by omega);simpa[hz]using this
    have f5:((59:Int) !=((E[1]'hl).toNat:Int))=true:=by simp;omega
    clear f3 he;go_enter Tryz.func150,Tryz.ntmps150;go_wp2_with(go_at_call 183;refine(Tryz.utf8_ValidRune _ _).mono ?_;rw[hv];rintro e w' ⟨rfl,rfl⟩)
    go_step3
    go_wp2_with fail
    go_loop [9] (fun i=>i=.int .i64 1) (fun _=>0)
    case atStart=>go_num
    case round=>
     subst hrel;go_wp2_with fail
     go_step3
     go_wp2_with fail
     go_quiet (fail)
     go_wp2_with fail;have hw2:IntKind.i64.wrap 2=2:=by decide
     refine region_fr 7 (by kernel_rfl) (by kernel_rfl) ?_;simp only[List.take_succ_cons,List.take_zero,List.drop_succ_cons,List.drop_zero]
     repeat(quiet_step (fail))
     refine wpQuiet_nil ?_;intro wC fC;go_wp2_with(go_at_call 56;refine(strings_IndexByte [] _ _).mono ?_;rintro e w' ⟨rfl,rfl⟩);rw[Exit.noGoto_ret]
     repeat(change Exit.noGoto _ Exit.ret _ _;rw[Exit.noGoto_ret])
     go_ret;exact⟨rfl,((Fr.refl _ _).drewN nq).trans' fC⟩
   ·have hl:¬(E.size:Int)-1<2:=by omega
    clear f3 he;go_enter Tryz.func150,Tryz.ntmps150;go_wp2_with(go_at_call 183;refine(Tryz.utf8_ValidRune _ _).mono ?_;rw[hv];rintro e w' ⟨rfl,rfl⟩);go_wp2_with fail
    go_step3
    go_wp2_with fail
    go_loop [9] (fun i=>i=.int .i64 ((E.size:Int)-1)) (fun _=>0)
    case atStart=>go_num
    case round=>
     subst hrel;go_wp2;go_ret;exact⟨rfl,Fr.refl _ _⟩
theorem Zhu(s:ByteArray)(p:Nat)(h:p<s.size)(ha:128≤(s[p]'h).toNat):∀j,j<(Utf8.decode s p).2→∃hj:p+j<s.size,128≤(s[p+j]'hj).toNat:=by
 have hn:¬(s[p]'h).toNat<128:=by omega
 have h0:∃hj:p+0<s.size,128≤(s[p+0]'hj).toNat:=⟨h,ha⟩;have hk:∀k,(decide (p+k<s.size)&&(s.get! (p+k)).toNat/64==2)=true→∃hj:p+k<s.size,128≤(s[p+k]'hj).toNat:=by
  intro k hk;rw[Bool.and_eq_true,decide_eq_true_eq,beq_iff_eq]at hk;refine⟨hk.1,?_⟩;have e:s.get! (p+k)=s[p+k]'hk.1:=get_at s (p+k) hk.1;rw[←e];omega
 simp only[Utf8.decode,get_at s p h,hn,if_false];intro j;split
 ·next c=>
  rw[Bool.and_eq_true]at c;split
  ·intro hj
   match j,hj with
   |0,_=>exact h0
   |1,_=>exact hk 1 c.2
  ·intro hj;obtain rfl:j=0:=by omega
   exact h0
 ·split
  ·next c=>
   rw[Bool.and_eq_true,Bool.and_eq_true]at c;split
   ·intro hj
    match j,hj with
    |0,_=>exact h0
    |1,_=>exact hk 1 c.1.2
    |2,_=>exact hk 2 c.2
   ·intro hj;obtain rfl:j=0:=by omega
    exact h0
  ·split
   ·next c=>
    rw[Bool.and_eq_true,Bool.and_eq_true,Bool.and_eq_true]at c;split
    ·intro hj
     match j,hj with
     |0,_=>exact h0
     |1,_=>exact hk 1 c.1.1.2
     |2,_=>exact hk 2 c.1.2
     |3,_=>exact hk 3 c.2
    ·intro hj;obtain rfl:j=0:=by omega
     exact h0
   ·intro hj;obtain rfl:j=0:=by omega
    exact h0
theorem Zdi{w:World}{k p:Nat}{s:ByteArray}(h:w.heap[k]? =some (.stringIter s p)):w.iterPos k=p:=by unfold World.iterPos;rw[h]
theorem ZeJ{S:Nat→Prop}{a w:World}(h:Fr S a w){k:Nat}(hk:a.heap.size≤k)(s:ByteArray)(p:Nat):Fr S a (w.iterAt k s p):=
 ⟨h.os,h.tape,h.output,by show a.heap.size≤(w.heap.setIfInBounds k _).size;rw[Array.size_setIfInBounds];exact h.size,fun i hi hs=>by
  show(w.heap.setIfInBounds k _)[i]? =_;rw[Array.getElem?_setIfInBounds_ne (by omega)];exact h.block i hi hs⟩
theorem Zjn{l cs:List UInt8}{p d:Nat}(hc:∀b,b∈cs→b.toNat<128)(h:Lib.NoAny l cs p)(hs:∀j,j<d→∃hj:p+j<l.length,128≤(l[p+j]'hj).toNat):Lib.NoAny l cs (p+d):=by
 intro j b hj hb;by_cases hp:j<p
 ·exact h j b hp hb
 ·obtain⟨hq,hx⟩:=hs (j-p) (by omega);have e:p+(j-p)=j:=by omega
  simp only[e]at hq hx;rw[List.getElem?_eq_getElem hq]at hb;injection hb with hb;rw[Bool.eq_false_iff];intro hcon;have:=hc b (List.contains_iff_mem.1 hcon);rw[←hb]at this;omega
theorem Zes(l:List UInt8)(w:World)(hl:l.length≤8):
 Calls Tryz.prog 115 #[.string ⟨l.toArray⟩,.string ⟨#[10,59]⟩] w fun e w'=>e=.returned (.int .i64 (Lib.indexAny l [10,59]))∧Fr nob w w':=by
 have h8:decide ((8:Int)<(l.length:Int))=false:=decide_eq_false (by omega);go_enter Tryz.func115,Tryz.ntmps115;go_wp2_with(go_at_call 151;refine(Tryz.strings_shouldUseASCIISet _ _).mono ?_;rintro e w' ⟨rfl,hw⟩;rw[hw,h8])
 go_loopw [9] (fun _ wr=>∃p:Nat,p≤l.length∧wr.heap[w.heap.size]? =some (.stringIter ⟨l.toArray⟩ p)∧Fr nob w wr∧Lib.NoAny l [10,59] p) (fun _ wr=>l.length-wr.iterPos w.heap.size)
 case atStart=>
  subst hw;exact⟨0,by omega,World.iter_heap _ _ _,(Fr.refl _ _).alloc _,Lib.NoAny.zero _ _⟩
 case round=>
  subst hw;obtain⟨p,hp,hi,hf,hno⟩:=hrel;have HI:=hid hi;have HF:=hid hf;have HN:=hid hno;clear hi hf hno;by_cases hlt:p<l.length
  ·have hk3:p<(ByteArray.mk l.toArray).size:=by rw[Zbp];exact hlt
   have hget:(ByteArray.mk l.toArray)[p]'hk3=l[p]:=Zp6 _ _ _;have hm:wr.iterPos w'.heap.size=p:=Zdi HI.out;by_cases ha:l[p].toNat<128
   ·have hnx:∀ty,(Instr.next (.pointer (some ⟨w'.heap.size,0,none⟩)) true ty).run Tryz.prog wr=.ok (.tuple #[.bool true,.int .i64 p,.int .i32 l[p].toNat]) (wr.iterAt w'.heap.size ⟨l.toArray⟩ (p+1)):=fun ty=>by
     rw[Lib.run_next_ascii_at wr _ _ p ty HI.out hk3 (by rw[hget];exact ha),hget]
    have hI2:=Lib.iterAt_heap wr w'.heap.size ⟨l.toArray⟩ p (p+1) HI.out;have hF2:=ZeJ HF.out (Nat.le_refl _) ⟨l.toArray⟩ (p+1);obtain⟨x,hx⟩:∃x,l[p]=x:=⟨_,rfl⟩;have HX:=hid (show l[p]? =some x by rw[List.getElem?_eq_getElem hlt,hx]);rw[hx]at hnx ha;have HI2:=hid hI2;have HF2:=hid hF2;clear hI2 hF2 hk3 hget hx;have hix:=Lib.contains_iff_indexByte [10,59] x;cases hc:([10,59]:List UInt8).contains x with
    |true=>
     rw[hc]at hix;have hge:¬Lib.indexByte [10,59] x<0:=by have:=of_decide_eq_true hix.symm;omega
     have HC:=hid hc;clear hc hix;go_wp2_with(go_at_call 150;refine(Tryz.strings_IndexRune_ascii ⟨#[10,59]⟩ _ _ (by omega) (by omega)).mono ?_;rintro e w2 ⟨rfl,rfl⟩;rw[show Lib.indexByte (ByteArray.mk #[10,59]).data.toList (((x.toNat:Int)).toNat.toUInt8)=Lib.indexByte [10,59] x by simp]);go_ret;exact⟨by rw[Lib.indexAny_hit HN.out HX.out HC.out];rfl,HF2.out⟩
    |false=>
     rw[hc]at hix;have hge:Lib.indexByte [10,59] x<0:=by have:=of_decide_eq_false hix.symm;omega
     have HC:=hid hc;clear hc hix;go_wp2_with(go_at_call 150;refine(Tryz.strings_IndexRune_ascii ⟨#[10,59]⟩ _ _ (by omega) (by omega)).mono ?_;rintro e w2 ⟨rfl,rfl⟩;rw[show Lib.indexByte (ByteArray.mk #[10,59]).data.toList (((x.toNat:Int)).toNat.toUInt8)=Lib.indexByte [10,59] x by simp]);go_roundw
     case rel=>exact⟨p+1,by omega,HI2.out,HF2.out,HN.out.succ HX.out HC.out⟩
     case measure=>rw[hm,Zdi HI2.out];omega
   ·have hh:=decode_high (ByteArray.mk l.toArray) p hk3 (by rw[hget];omega);have hs:=Zhu (ByteArray.mk l.toArray) p hk3 (by rw[hget];omega);have hle:=decode_le (ByteArray.mk l.toArray) p;obtain⟨r,hr⟩:∃r,(Utf8.decode ⟨l.toArray⟩ p).1=r:=⟨_,rfl⟩;obtain⟨d,hd⟩:∃d,(Utf8.decode ⟨l.toArray⟩ p).2=d:=⟨_,rfl⟩;have hnx:∀ty,(Instr.next (.pointer (some ⟨w'.heap.size,0,none⟩)) true ty).run Tryz.prog wr=.ok (.tuple #[.bool true,.int .i64 p,.int .i32 r]) (wr.iterAt w'.heap.size ⟨l.toArray⟩ (p+d)):=fun ty=>by
     rw[Lib.run_next_any_at wr _ _ p ty HI.out hk3,hr,hd]
    rw[hr]at hh hle;rw[hd]at hh hs;have hpd:p+d≤l.length:=by
     obtain⟨hj,_⟩:=hs (d-1) (by omega);rw[Zbp]at hj;omega
    have HN2:=hid (Zjn (cs:=[10,59]) (by decide) HN.out (fun j hj=>by obtain⟨h1,h2⟩:=hs j hj;exact⟨by rw[Zbp]at h1;exact h1,h2⟩));have hI2:=Lib.iterAt_heap wr w'.heap.size ⟨l.toArray⟩ p (p+d) HI.out;have hF2:=ZeJ HF.out (Nat.le_refl _) ⟨l.toArray⟩ (p+d);have HI2:=hid hI2;have HF2:=hid hF2;clear hI2 hF2 hk3 hget hr hd hs ha;go_wp2_with(go_at_call 150;refine(indexRune_high _ _ (by omega) (by omega)).mono ?_;rintro e w2 ⟨rfl,f2⟩);go_roundw
    case rel=>exact⟨p+d,hpd,f2.heap HI2.out (fun x=>x),HF2.out.trans' f2,HN2.out⟩
    case measure=>rw[hm,Zdi (f2.heap HI2.out (fun x=>x))];omega
  ·obtain rfl:p=l.length:=by omega
   have hnx:∀ty,(Instr.next (.pointer (some ⟨w'.heap.size,0,none⟩)) true ty).run Tryz.prog wr=.ok (.tuple #[.bool false]) wr:=fun ty=>Lib.run_next_end_at wr _ _ _ ty HI.out (by rw[Zbp];omega);go_wp2;go_ret;exact⟨by rw[Lib.indexAny_none HN.out];rfl,HF.out⟩
theorem ZcX(l:List UInt8)(label:Bool)(w:World)(hl:l.length≤1000000):
 Calls Tryz.prog 115 #[.string ⟨l.toArray⟩,.string (if label then⟨#[10,59]⟩else⟨#[10]⟩)] w fun e w'=>e=.returned (.int .i64 (Lib.indexAny l (if label then[10,59]else[10])))∧Fr nob w w':=by
 cases label with
 |false=>
  refine(Tryz.strings_IndexAny_one ⟨l.toArray⟩ ⟨#[10]⟩ w rfl (fun j b h=> ?_)).mono ?_
  ·match j,h with
   |0,h=>cases h;decide
  ·rintro e w' ⟨rfl,rfl⟩;exact⟨rfl,Fr.refl _ _⟩
 |true=>
  by_cases h8:l.length≤8
  ·exact Zes l w h8
  ·refine(Tryz.strings_IndexAny_long (fun w=>by rw[Zpa]) ⟨l.toArray⟩ ⟨#[10,59]⟩ w (by decide) (by rw[Zbp];omega) (by rw[Zbp];omega) (by decide) (fun j b h=> ?_)).mono ?_
   ·match j,h with
    |0,h=>cases h;decide
    |1,h=>cases h;decide
   ·rintro e w' ⟨rfl,rfl⟩;exact⟨rfl,Zc5 [10,59] w⟩
def bhd(l cs:List UInt8)(k:Nat):Nat:=l.length-(tl (l.drop k) cs).length
theorem Zmv(m cs:List UInt8):(tl m cs).length≤m.length:=(List.dropWhile_sublist _).length_le
theorem Zip(cs:List UInt8)(h:∀b∈cs,b.toNat<128):∀(j:Nat) b,cs[j]? =some b→b.toNat<128:=fun _ _ hj=>h _ (List.mem_of_getElem? hj)
theorem behind_any(l:List UInt8)(at_:Int)(c d:UInt8)(cs:List UInt8)(w:World)(hs:l.length≤1000000)(hcs:cs.length≤1000)(ha:∀b∈c::d::cs,b.toNat<128):
 Calls Tryz.prog 99 #[.string ⟨l.toArray⟩,.int .i64 at_,.string ⟨(c::d::cs).toArray⟩] w fun e w'=>
  e=.returned (.int .i64 (if at_<0∨(l.length:Int)<at_ then 0 else(bhd l (c::d::cs) at_.toNat:Nat)))∧Fr nob w w':=by
 have hT:=fun k w=>ZfG (l.drop k) c d cs w (by rw[List.length_drop];omega) hcs (Zip _ ha);obtain⟨CS,hCS⟩:∃CS,c::d::cs=CS:=⟨_,rfl⟩;rw[hCS]at hT⊢;clear hCS ha;by_cases ho:at_<0∨(l.length:Int)<at_
 ·have ho1:(decide (at_<0)||decide ((l.length:Int)<at_))=true:=by simpa using ho
  rw[if_pos ho];have HO:=hid ho1;clear ho1 ho;go_enter Tryz.func99,Tryz.ntmps99;go_wp2_with(go_at_call 128;refine(over_any _ _ w (by omega)).mono ?_;rw[HO.out];rintro e w' ⟨rfl,rfl⟩);go_ret;exact⟨rfl,Fr.refl _ _⟩
 ·obtain⟨k,rfl⟩:∃k:Nat,at_=k:=⟨at_.toNat,by omega⟩;have hk:k≤l.length:=by omega
  have ho1:(decide ((k:Int)<0)||decide ((l.length:Int)<k))=false:=by simp;omega
  rw[if_neg ho];have HO:=hid ho1;clear ho1 ho;have hle:=Zmv (l.drop k) CS;rw[List.length_drop]at hle;go_enter Tryz.func99,Tryz.ntmps99;go_wp2_with(first|(go_at_call 128;refine(over_any _ _ w (by omega)).mono ?_;rw[HO.out];rintro e w' ⟨rfl,rfl⟩)|(go_at_call 129;refine(hT k _).mono ?_;rintro e w' ⟨rfl,hf⟩));go_ret;exact⟨ZdT (by unfold bhd;simp;omega),hf⟩
theorem ZeK(l:List UInt8)(at_:Int)(w:World)(hs:l.length≤1000000):
 Calls Tryz.prog 94 #[.string ⟨l.toArray⟩,.int .i64 at_] w fun e w'=>
  e=.returned (.int .i64 (if at_<0∨(l.length:Int)<at_ then 0 else(bhd l [32,9] at_.toNat:Nat)))∧Fr nob w w':=by
 go_enter Tryz.func94,Tryz.ntmps94;go_wp2_with(go_at_call 99;refine(behind_any l at_ 32 9 [] w hs (by decide) (by decide)).mono ?_;rintro e w' ⟨rfl,hf⟩)
 all_goals
  go_ret;exact⟨rfl,hf⟩
theorem ZkP(l:List UInt8)(at_:Int)(w:World)(hs:l.length≤1000000):
 Calls Tryz.prog 65 #[.string ⟨l.toArray⟩,.int .i64 at_] w fun e w'=>
  e=.returned (.int .i64 (if at_<0∨(l.length:Int)<at_ then 0 else(bhd l [32,9,10,59] at_.toNat:Nat)))∧Fr nob w w':=by
 go_enter Tryz.func65,Tryz.ntmps65;go_wp2_with(go_at_call 99;refine(behind_any l at_ 32 9 [10,59] w hs (by decide) (by decide)).mono ?_;rintro e w' ⟨rfl,hf⟩)
 all_goals
  go_ret;exact⟨rfl,hf⟩
def Zqx(label:Bool):List UInt8:=if label then[10,59]else[10]
def Zcv(m:List UInt8)(label:Bool):List UInt8:=m.takeWhile (fun b=> !(Zqx label).contains b)
def Za5(m:List UInt8):List UInt8:=tl (tr m [32,9]) [32,9]
def ZcI(l:List UInt8)(k:Nat)(label:Bool):List UInt8×Nat×Int:=
 if Za5 (Zcv (l.drop k) label)=[]then([],k,14)
 else if 40<(Za5 (Zcv (l.drop k) label)).length then([],k,3)
 else(Za5 (Zcv (l.drop k) label),k+(Zcv (l.drop k) label).length,0)
theorem Zec(m:List UInt8)(label:Bool):(Zcv m label).length≤m.length:=(List.takeWhile_sublist _).length_le
theorem ZbT:∀(m cs:List UInt8),Lib.indexAny m cs=if(m.takeWhile (fun b=> !cs.contains b)).length<m.length then((m.takeWhile (fun b=> !cs.contains b)).length:Int)else -1
 |[],cs=>rfl
 |b::m,cs=>by
  have ih:=ZbT m cs;have hl:=(List.takeWhile_sublist (fun b=> !cs.contains b) (l:=m)).length_le;rw[Lib.indexAny,List.takeWhile_cons,ih];cases h:cs.contains b with
  |true=>simp
  |false=>
   simp only[Bool.false_eq_true,if_false,Bool.not_false,if_true,List.length_cons];by_cases h2:(m.takeWhile (fun b=> !cs.contains b)).length<m.length
   ·rw[if_pos h2,if_neg (by simp),if_pos (by omega)];omega
   ·rw[if_neg h2,if_pos (by rfl),if_neg (by omega)]
theorem Zgi(m:List UInt8)(label:Bool):m.take (Zcv m label).length=Zcv m label:=by
 unfold Zcv;exact(List.prefix_iff_eq_take.1 (List.takeWhile_prefix _)).symm
theorem Zmw{l:List UInt8}{k:Nat}{label:Bool}(h:Za5 (Zcv (l.drop k) label)=[]):ZcI l k label=([],k,14):=if_pos h
theorem Zmx{l:List UInt8}{k:Nat}{label:Bool}(h:40<(Za5 (Zcv (l.drop k) label)).length):ZcI l k label=([],k,3):=by
 unfold ZcI;rw[if_neg (fun e=>by rw[e]at h;simp at h),if_pos h]
theorem ZpF{l:List UInt8}{k:Nat}{label:Bool}(h:Za5 (Zcv (l.drop k) label)≠[])(h2:¬40<(Za5 (Zcv (l.drop k) label)).length):
 ZcI l k label=(Za5 (Zcv (l.drop k) label),k+(Zcv (l.drop k) label).length,0):=by
 unfold ZcI;rw[if_neg h,if_neg h2]
theorem Ziq(l:List UInt8)(k:Nat)(label:Bool)(w:World)(hs:l.length≤100000)(hk:k≤l.length):
 Calls Tryz.prog 114 #[.string ⟨l.toArray⟩,.int .i64 k,.bool label] w fun e w'=>
  e=.returned (.tuple #[.string ⟨(ZcI l k label).1.toArray⟩,.int .i64 (ZcI l k label).2.1,.int .i64 (ZcI l k label).2.2])∧Fr nob w w':=by
 have hI:∀w,Calls Tryz.prog 115 #[.string ⟨(l.drop k).toArray⟩,.string (if label then⟨#[10,59]⟩else⟨#[10]⟩)] w fun e w'=>e=.returned (.int .i64 (if(Zcv (l.drop k) label).length<(l.drop k).length then((Zcv (l.drop k) label).length:Int)else -1))∧Fr nob w w':=fun w=>by
  have:=ZcX (l.drop k) label w (by rw[List.length_drop];omega);rw[ZbT]at this;exact this
 have hB:=fun w=>ZlT (Zcv (l.drop k) label) 32 9 [] w (by have:=Zec (l.drop k) label;rw[List.length_drop]at this;omega) (by decide) (Zip _ (by decide));have hnN:(Za5 (Zcv (l.drop k) label)).length≤(Zcv (l.drop k) label).length:=Nat.le_trans (Zmv _ _) (Zo7 _ _);have hnn:= @Zmw l k label;have hnl:= @Zmx l k label;have hni:= @ZpF l k label;have htk:=Zgi (l.drop k) label;have hUl:=Zec (l.drop k) label;have ho:(decide ((k:Int)<0)||decide ((l.length:Int)<k))=false:=by simp;omega
 have HO:=hid ho;clear ho;have hml:(l.drop k).length=l.length-k:=List.length_drop;change∀w,Calls Tryz.prog 149 _ w fun e w'=>e=.returned (.string ⟨(Za5 (Zcv (l.drop k) label)).toArray⟩)∧Fr nob w w' at hB;have hd:(ByteArray.mk l.toArray).extract k l.length=⟨(l.drop k).toArray⟩:=ZoV _ _
 revert hI hB hnN hnn hnl hni htk hUl hml hd
 generalize l.drop k=M;generalize Zcv M label=U;generalize Za5 U=N;generalize ZcI l k label=F;intro hI hnN hnn hnl hni htk hUl hml hB hd;have hsl:(ByteArray.mk M.toArray).extract 0 U.length=⟨U.toArray⟩:=by rw[Zm8];simp[htk]
 have HB:=hid hB;clear hB;by_cases hlt:U.length<M.length
 ·rw[if_pos hlt]at hI;have HI:=hid hI;clear hI htk;by_cases hn0:N=[]
  ·rw[hnn hn0];subst hn0;clear hnn hnl hni;cases label
   all_goals
    go_enter Tryz.func114,Tryz.ntmps114;go_wp2_with(first|(go_at_call 128;refine(over_any _ _ w (by omega)).mono ?_;rw[HO.out];rintro e w' ⟨rfl,rfl⟩)|(go_at_call 115;refine(HI.out _).mono ?_;rintro e w1 ⟨rfl,hf⟩;have HF:=hid hf;clear hf)|(go_at_call 149;refine(HB.out _).mono ?_;rintro e w2 ⟨rfl,hf⟩;have HF2:=hid hf;clear hf));go_ret3;exact⟨rfl,HF.out.trans' HF2.out⟩
  ·by_cases hn40:40<N.length
   ·rw[hnl hn40];have hne:N.isEmpty=false:=by cases N with|nil=>exact absurd rfl hn0|cons _ _=>rfl
    clear hnn hnl hni hn0;cases label
    all_goals
     go_enter Tryz.func114,Tryz.ntmps114;go_wp2_with(first|(go_at_call 128;refine(over_any _ _ w (by omega)).mono ?_;rw[HO.out];rintro e w' ⟨rfl,rfl⟩)|(go_at_call 115;refine(HI.out _).mono ?_;rintro e w1 ⟨rfl,hf⟩;have HF:=hid hf;clear hf)|(go_at_call 149;refine(HB.out _).mono ?_;rintro e w2 ⟨rfl,hf⟩;have HF2:=hid hf;clear hf));go_ret3;exact⟨rfl,HF.out.trans' HF2.out⟩
   ·rw[hni hn0 hn40];have hne:N.isEmpty=false:=by cases N with|nil=>exact absurd rfl hn0|cons _ _=>rfl
    clear hnn hnl hni hn0;cases label
    all_goals
     go_enter Tryz.func114,Tryz.ntmps114;go_wp2_with(first|(go_at_call 128;refine(over_any _ _ w (by omega)).mono ?_;rw[HO.out];rintro e w' ⟨rfl,rfl⟩)|(go_at_call 115;refine(HI.out _).mono ?_;rintro e w1 ⟨rfl,hf⟩;have HF:=hid hf;clear hf)|(go_at_call 149;refine(HB.out _).mono ?_;rintro e w2 ⟨rfl,hf⟩;have HF2:=hid hf;clear hf));go_ret3;exact⟨rfl,HF.out.trans' HF2.out⟩
 ·rw[if_neg hlt]at hI;obtain rfl:U=M:=by rw[←htk];exact List.take_of_length_le (by omega)
  have HI:=hid hI;clear hI htk hsl hlt;by_cases hn0:N=[]
  ·rw[hnn hn0];subst hn0;clear hnn hnl hni;cases label
   all_goals
    go_enter Tryz.func114,Tryz.ntmps114;go_wp2_with(first|(go_at_call 128;refine(over_any _ _ w (by omega)).mono ?_;rw[HO.out];rintro e w' ⟨rfl,rfl⟩)|(go_at_call 115;refine(HI.out _).mono ?_;rintro e w1 ⟨rfl,hf⟩;have HF:=hid hf;clear hf)|(go_at_call 149;refine(HB.out _).mono ?_;rintro e w2 ⟨rfl,hf⟩;have HF2:=hid hf;clear hf));go_ret3;exact⟨rfl,HF.out.trans' HF2.out⟩
  ·by_cases hn40:40<N.length
   ·rw[hnl hn40];have hne:N.isEmpty=false:=by cases N with|nil=>exact absurd rfl hn0|cons _ _=>rfl
    clear hnn hnl hni hn0;cases label
    all_goals
     go_enter Tryz.func114,Tryz.ntmps114;go_wp2_with(first|(go_at_call 128;refine(over_any _ _ w (by omega)).mono ?_;rw[HO.out];rintro e w' ⟨rfl,rfl⟩)|(go_at_call 115;refine(HI.out _).mono ?_;rintro e w1 ⟨rfl,hf⟩;have HF:=hid hf;clear hf)|(go_at_call 149;refine(HB.out _).mono ?_;rintro e w2 ⟨rfl,hf⟩;have HF2:=hid hf;clear hf));go_ret3;exact⟨rfl,HF.out.trans' HF2.out⟩
   ·rw[hni hn0 hn40];have hne:N.isEmpty=false:=by cases N with|nil=>exact absurd rfl hn0|cons _ _=>rfl
    clear hnn hnl hni hn0;cases label
    all_goals
     go_enter Tryz.func114,Tryz.ntmps114;go_wp2_with(first|(go_at_call 128;refine(over_any _ _ w (by omega)).mono ?_;rw[HO.out];rintro e w' ⟨rfl,rfl⟩)|(go_at_call 115;refine(HI.out _).mono ?_;rintro e w1 ⟨rfl,hf⟩;have HF:=hid hf;clear hf)|(go_at_call 149;refine(HB.out _).mono ?_;rintro e w2 ⟨rfl,hf⟩;have HF2:=hid hf;clear hf));go_ret3;exact⟨by simp[hml],HF.out.trans' HF2.out⟩
end Go.Proofs.YtkfddjopbocpkaaGreatDoor
