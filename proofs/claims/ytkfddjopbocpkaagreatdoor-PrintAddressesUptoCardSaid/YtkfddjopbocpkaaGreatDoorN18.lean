/- Lemmas of this claim. -/
import Derived.WalkMore
import Derived.Test.YtkfddjopbocpkaaGreatDoorN08
import Derived.Test.YtkfddjopbocpkaaGreatDoorN17
set_option linter.unusedVariables false
set_option linter.unusedSimpArgs false
set_option maxRecDepth 100000
set_option maxHeartbeats 4000000
namespace Go.Proofs.YtkfddjopbocpkaaGreatDoor
open Go.Lib (hid)
open Go.RowKit
theorem Zmu{r:Int}(h:Lib.validRune r=true):Utf8.valid r=true:=by
 simp only[Lib.validRune,decide_eq_true_eq]at h;simp only[Utf8.valid,Bool.or_eq_true,Bool.and_eq_true,decide_eq_true_eq];omega
theorem indexRune_high(r:Int)(w:World)(h:128≤r)(hm:r≤2147483647):
 Calls Tryz.prog 150 #[.string ⟨#[10,59]⟩,.int .i32 r] w fun e w'=>e=.returned (.int .i64 (-1))∧Fr nob w w':=by
 have h0:¬r<128:=by omega
 by_cases he:r=65533
 ·subst he;go_enter Tryz.func150,Tryz.ntmps150;go_wp2_with fail
  go_loopw [5] (fun _ wr=>∃k:Nat,k≤2∧wr=w.iter ⟨#[10,59]⟩ k) (fun _ wr=>2-wr.iterPos w.heap.size)
  case atStart=>exact⟨0,by omega,rfl⟩
  case round=>
   obtain⟨k,hk,rfl⟩:=hrel;by_cases c:k=2
   ·subst c;have d:∀ty,(Instr.next (.pointer (some ⟨w.heap.size,0,none⟩)) true ty).run Tryz.prog (w.iter ⟨#[10,59]⟩ 2)=.ok (.tuple #[.bool false]) (w.iter ⟨#[10,59]⟩ 2):=fun ty=>run_next_end w _ 2 ty (by decide);go_wp2;go_ret;exact⟨rfl,Zb2 (Fr.refl _ _) _ _⟩
   ·have b:k<(ByteArray.mk #[10,59]).size:=by show k<2;omega
    obtain⟨x,hx,n⟩:∃x:Nat,x=((ByteArray.mk #[10,59])[k]'b).toNat∧x<128:=⟨_,rfl,by
     match k,b with
     |0,_=>show(UInt8.toNat 10)<128;decide
     |1,_=>show(UInt8.toNat 59)<128;decide⟩
    have d:∀ty,(Instr.next (.pointer (some ⟨w.heap.size,0,none⟩)) true ty).run Tryz.prog (w.iter ⟨#[10,59]⟩ k)=.ok (.tuple #[.bool true,.int .i64 k,.int .i32 x]) (w.iter ⟨#[10,59]⟩ (k+1)):=fun ty=>by
     rw[run_next_ascii w _ k ty b (by omega),hx]
    have m:((x:Int)==65533)=false:=by simp;omega
    clear hx;go_wp2;go_roundw
    case rel=>exact⟨k+1,by omega,rfl⟩
    case measure=>simp;omega
 ·have g:(r==65533)=false:=by simpa using he
  cases hv:Lib.validRune r with
  |false=>
   go_enter Tryz.func150,Tryz.ntmps150;go_wp2_with(go_at_call 183;refine(Tryz.utf8_ValidRune _ _).mono ?_;rw[hv];rintro e w' ⟨rfl,rfl⟩);go_ret;exact⟨rfl,Fr.refl _ _⟩
  |true=>
   obtain⟨f1,f2,f3⟩:=encode_facts r (Zmu hv) h;obtain⟨E,hE⟩:∃E,Utf8.encode r=E:=⟨_,rfl⟩;rw[hE]at f1 f2 f3;have f:∀w,(convert 21 9 (.int .i32 r)).run Tryz.prog w=.ok (.string E) w:=fun w=>by rw[run_convert_int_string w _ _ _ _ (by kernel_rfl) (by kernel_rfl),hE]
   have j:∀w,(Instr.slice 9 (.string ⟨#[10,59]⟩) (some (.int .i64 2)) none none).run Tryz.prog w=.ok (.string ⟨#[]⟩) w:=fun w=>by rfl
   by_cases hz:E.size=2
   ·have hl:1<E.size:=by omega
    have f4:128≤(E[1]'hl).toNat:=by have:=f3 (by omega);simpa[hz]using this
    have f5:((59:Int) !=((E[1]'hl).toNat:Int))=true:=by simp;omega
    clear f3 he;go_enter Tryz.func150,Tryz.ntmps150;go_wp2_with(go_at_call 183;refine(Tryz.utf8_ValidRune _ _).mono ?_;rw[hv];rintro e w' ⟨rfl,rfl⟩)
    go_step3
    go_wp2_with fail
    go_loop [9] (fun i=>i=.int .i64 1) (fun _=>0)
    case atStart=>go_num
    case round=>
     subst hrel;go_wp2_with fail
     go_step3
     go_wp2_with fail
     go_quiet (fail)
     go_wp2_with fail;have l:IntKind.i64.wrap 2=2:=by decide
     refine region_fr 7 (by kernel_rfl) (by kernel_rfl) ?_;simp only[List.take_succ_cons,List.take_zero,List.drop_succ_cons,List.drop_zero]
     repeat(quiet_step (fail))
     refine wpQuiet_nil ?_;intro wC fC;go_wp2_with(go_at_call 56;refine(strings_IndexByte [] _ _).mono ?_;rintro e w' ⟨rfl,rfl⟩);rw[Exit.noGoto_ret]
     repeat(change Exit.noGoto _ Exit.ret _ _;rw[Exit.noGoto_ret])
     go_ret;exact⟨rfl,((Fr.refl _ _).drewN nq).trans' fC⟩
   ·have hl:¬(E.size:Int)-1<2:=by omega
    clear f3 he;go_enter Tryz.func150,Tryz.ntmps150;go_wp2_with(go_at_call 183;refine(Tryz.utf8_ValidRune _ _).mono ?_;rw[hv];rintro e w' ⟨rfl,rfl⟩);go_wp2_with fail
    go_step3
    go_wp2_with fail
    go_loop [9] (fun i=>i=.int .i64 ((E.size:Int)-1)) (fun _=>0)
    case atStart=>go_num
    case round=>
     subst hrel;go_wp2;go_ret;exact⟨rfl,Fr.refl _ _⟩
theorem Zhu(s:ByteArray)(p:Nat)(h:p<s.size)(ha:128≤(s[p]'h).toNat):∀j,j<(Utf8.decode s p).2→∃hj:p+j<s.size,128≤(s[p+j]'hj).toNat:=by
 have hn:¬(s[p]'h).toNat<128:=by omega
 have h0:∃hj:p+0<s.size,128≤(s[p+0]'hj).toNat:=⟨h,ha⟩;have hk:∀k,(decide (p+k<s.size)&&(s.get! (p+k)).toNat/64==2)=true→∃hj:p+k<s.size,128≤(s[p+k]'hj).toNat:=by
  intro k hk;rw[Bool.and_eq_true,decide_eq_true_eq,beq_iff_eq]at hk;refine⟨hk.1,?_⟩;have e:s.get! (p+k)=s[p+k]'hk.1:=get_at s (p+k) hk.1;rw[←e];omega
 simp only[Utf8.decode,get_at s p h,hn,if_false];intro j;split
 ·next c=>
  rw[Bool.and_eq_true]at c;split
  ·intro hj
   match j,hj with
   |0,_=>exact h0
   |1,_=>exact hk 1 c.2
  ·intro hj;obtain rfl:j=0:=by omega
   exact h0
 ·split
  ·next c=>
   rw[Bool.and_eq_true,Bool.and_eq_true]at c;split
   ·intro hj
    match j,hj with
    |0,_=>exact h0
    |1,_=>exact hk 1 c.1.2
    |2,_=>exact hk 2 c.2
   ·intro hj;obtain rfl:j=0:=by omega
    exact h0
  ·split
   ·next c=>
    rw[Bool.and_eq_true,Bool.and_eq_true,Bool.and_eq_true]at c;split
    ·intro hj
     match j,hj with
     |0,_=>exact h0
     |1,_=>exact hk 1 c.1.1.2
     |2,_=>exact hk 2 c.1.2
     |3,_=>exact hk 3 c.2
    ·intro hj;obtain rfl:j=0:=by omega
     exact h0
   ·intro hj;obtain rfl:j=0:=by omega
    exact h0
theorem Zdi{w:World}{k p:Nat}{s:ByteArray}(h:w.heap[k]? =some (.stringIter s p)):w.iterPos k=p:=by unfold World.iterPos;rw[h]
theorem ZeJ{S:Nat→Prop}{a w:World}(h:Fr S a w){k:Nat}(hk:a.heap.size≤k)(s:ByteArray)(p:Nat):Fr S a (w.iterAt k s p):=
 ⟨h.os,h.tape,h.output,by show a.heap.size≤(w.heap.setIfInBounds k _).size;rw[Array.size_setIfInBounds];exact h.size,fun i hi hs=>by
  show(w.heap.setIfInBounds k _)[i]? =_;rw[Array.getElem?_setIfInBounds_ne (by omega)];exact h.block i hi hs⟩
theorem Zjn{l cs:List UInt8}{p d:Nat}(hc:∀b,b∈cs→b.toNat<128)(h:Lib.NoAny l cs p)(hs:∀j,j<d→∃hj:p+j<l.length,128≤(l[p+j]'hj).toNat):Lib.NoAny l cs (p+d):=by
 intro j b hj hb;by_cases hp:j<p
 ·exact h j b hp hb
 ·obtain⟨hq,hx⟩:=hs (j-p) (by omega);have e:p+(j-p)=j:=by omega
  simp only[e]at hq hx;rw[List.getElem?_eq_getElem hq]at hb;injection hb with hb;rw[Bool.eq_false_iff];intro a;have:=hc b (List.contains_iff_mem.1 a);rw[←hb]at this;omega
theorem Zes(l:List UInt8)(w:World)(hl:l.length≤8):
 Calls Tryz.prog 115 #[.string ⟨l.toArray⟩,.string ⟨#[10,59]⟩] w fun e w'=>e=.returned (.int .i64 (Lib.indexAny l [10,59]))∧Fr nob w w':=by
 have h8:decide ((8:Int)<(l.length:Int))=false:=decide_eq_false (by omega);go_enter Tryz.func115,Tryz.ntmps115;go_wp2_with(go_at_call 151;refine(Tryz.strings_shouldUseASCIISet _ _).mono ?_;rintro e w' ⟨rfl,hw⟩;rw[hw,h8])
 go_loopw [9] (fun _ wr=>∃p:Nat,p≤l.length∧wr.heap[w.heap.size]? =some (.stringIter ⟨l.toArray⟩ p)∧Fr nob w wr∧Lib.NoAny l [10,59] p) (fun _ wr=>l.length-wr.iterPos w.heap.size)
 case atStart=>
  subst hw;exact⟨0,by omega,World.iter_heap _ _ _,(Fr.refl _ _).alloc _,Lib.NoAny.zero _ _⟩
 case round=>
  subst hw;obtain⟨p,hp,hi,hf,o⟩:=hrel;have HI:=hid hi;have HF:=hid hf;have HN:=hid o;clear hi hf o;by_cases n:p<l.length
  ·have c:p<(ByteArray.mk l.toArray).size:=by rw[Zbp];exact n
   have a:(ByteArray.mk l.toArray)[p]'c=l[p]:=Zp6 _ _ _;have hm:wr.iterPos w'.heap.size=p:=Zdi HI.out;by_cases ha:l[p].toNat<128
   ·have m:∀ty,(Instr.next (.pointer (some ⟨w'.heap.size,0,none⟩)) true ty).run Tryz.prog wr=.ok (.tuple #[.bool true,.int .i64 p,.int .i32 l[p].toNat]) (wr.iterAt w'.heap.size ⟨l.toArray⟩ (p+1)):=fun ty=>by
     rw[Lib.run_next_ascii_at wr _ _ p ty HI.out c (by rw[a];exact ha),a]
    have i:=Lib.iterAt_heap wr w'.heap.size ⟨l.toArray⟩ p (p+1) HI.out;have h:=ZeJ HF.out (Nat.le_refl _) ⟨l.toArray⟩ (p+1);obtain⟨x,hx⟩:∃x,l[p]=x:=⟨_,rfl⟩;have HX:=hid (show l[p]? =some x by rw[List.getElem?_eq_getElem n,hx]);rw[hx]at m ha;have g:=hid i;have k:=hid h;clear i h c a hx;have f:=Lib.contains_iff_indexByte [10,59] x;cases hc:([10,59]:List UInt8).contains x with
    |true=>
     rw[hc]at f;have s:¬Lib.indexByte [10,59] x<0:=by have:=of_decide_eq_true f.symm;omega
     have HC:=hid hc;clear hc f;go_wp2_with(go_at_call 150;refine(Tryz.strings_IndexRune_ascii ⟨#[10,59]⟩ _ _ (by omega) (by omega)).mono ?_;rintro e w2 ⟨rfl,rfl⟩;rw[show Lib.indexByte (ByteArray.mk #[10,59]).data.toList (((x.toNat:Int)).toNat.toUInt8)=Lib.indexByte [10,59] x by simp]);go_ret;exact⟨by rw[Lib.indexAny_hit HN.out HX.out HC.out];rfl,k.out⟩
    |false=>
     rw[hc]at f;have s:Lib.indexByte [10,59] x<0:=by have:=of_decide_eq_false f.symm;omega
     have HC:=hid hc;clear hc f;go_wp2_with(go_at_call 150;refine(Tryz.strings_IndexRune_ascii ⟨#[10,59]⟩ _ _ (by omega) (by omega)).mono ?_;rintro e w2 ⟨rfl,rfl⟩;rw[show Lib.indexByte (ByteArray.mk #[10,59]).data.toList (((x.toNat:Int)).toNat.toUInt8)=Lib.indexByte [10,59] x by simp]);go_roundw
     case rel=>exact⟨p+1,by omega,g.out,k.out,HN.out.succ HX.out HC.out⟩
     case measure=>rw[hm,Zdi g.out];omega
   ·have hh:=decode_high (ByteArray.mk l.toArray) p c (by rw[a];omega);have hs:=Zhu (ByteArray.mk l.toArray) p c (by rw[a];omega);have t:=decode_le (ByteArray.mk l.toArray) p;obtain⟨r,hr⟩:∃r,(Utf8.decode ⟨l.toArray⟩ p).1=r:=⟨_,rfl⟩;obtain⟨d,hd⟩:∃d,(Utf8.decode ⟨l.toArray⟩ p).2=d:=⟨_,rfl⟩;have m:∀ty,(Instr.next (.pointer (some ⟨w'.heap.size,0,none⟩)) true ty).run Tryz.prog wr=.ok (.tuple #[.bool true,.int .i64 p,.int .i32 r]) (wr.iterAt w'.heap.size ⟨l.toArray⟩ (p+d)):=fun ty=>by
     rw[Lib.run_next_any_at wr _ _ p ty HI.out c,hr,hd]
    rw[hr]at hh t;rw[hd]at hh hs;have u:p+d≤l.length:=by
     obtain⟨hj,_⟩:=hs (d-1) (by omega);rw[Zbp]at hj;omega
    have q:=hid (Zjn (cs:=[10,59]) (by decide) HN.out (fun j hj=>by obtain⟨h1,h2⟩:=hs j hj;exact⟨by rw[Zbp]at h1;exact h1,h2⟩));have i:=Lib.iterAt_heap wr w'.heap.size ⟨l.toArray⟩ p (p+d) HI.out;have h:=ZeJ HF.out (Nat.le_refl _) ⟨l.toArray⟩ (p+d);have g:=hid i;have k:=hid h;clear i h c a hr hd hs ha;go_wp2_with(go_at_call 150;refine(indexRune_high _ _ (by omega) (by omega)).mono ?_;rintro e w2 ⟨rfl,f2⟩);go_roundw
    case rel=>exact⟨p+d,u,f2.heap g.out (fun x=>x),k.out.trans' f2,q.out⟩
    case measure=>rw[hm,Zdi (f2.heap g.out (fun x=>x))];omega
  ·obtain rfl:p=l.length:=by omega
   have m:∀ty,(Instr.next (.pointer (some ⟨w'.heap.size,0,none⟩)) true ty).run Tryz.prog wr=.ok (.tuple #[.bool false]) wr:=fun ty=>Lib.run_next_end_at wr _ _ _ ty HI.out (by rw[Zbp];omega);go_wp2;go_ret;exact⟨by rw[Lib.indexAny_none HN.out];rfl,HF.out⟩
theorem ZcX(l:List UInt8)(label:Bool)(w:World)(hl:l.length≤1000000):
 Calls Tryz.prog 115 #[.string ⟨l.toArray⟩,.string (if label then⟨#[10,59]⟩else⟨#[10]⟩)] w fun e w'=>e=.returned (.int .i64 (Lib.indexAny l (if label then[10,59]else[10])))∧Fr nob w w':=by
 cases label with
 |false=>
  refine(Tryz.strings_IndexAny_one ⟨l.toArray⟩ ⟨#[10]⟩ w rfl (fun j b h=> ?_)).mono ?_
  ·match j,h with
   |0,h=>cases h;decide
  ·rintro e w' ⟨rfl,rfl⟩;exact⟨rfl,Fr.refl _ _⟩
 |true=>
  by_cases h8:l.length≤8
  ·exact Zes l w h8
  ·refine(Tryz.strings_IndexAny_long (fun w=>by rw[Zpa]) ⟨l.toArray⟩ ⟨#[10,59]⟩ w (by decide) (by rw[Zbp];omega) (by rw[Zbp];omega) (by decide) (fun j b h=> ?_)).mono ?_
   ·match j,h with
    |0,h=>cases h;decide
    |1,h=>cases h;decide
   ·rintro e w' ⟨rfl,rfl⟩;exact⟨rfl,Zc5 [10,59] w⟩
def bhd(l cs:List UInt8)(k:Nat):Nat:=l.length-(tl (l.drop k) cs).length
theorem Zmv(m cs:List UInt8):(tl m cs).length≤m.length:=(List.dropWhile_sublist _).length_le
theorem Zip(cs:List UInt8)(h:∀b∈cs,b.toNat<128):∀(j:Nat) b,cs[j]? =some b→b.toNat<128:=fun _ _ hj=>h _ (List.mem_of_getElem? hj)
theorem behind_any(l:List UInt8)(at_:Int)(c d:UInt8)(cs:List UInt8)(w:World)(hs:l.length≤1000000)(hcs:cs.length≤1000)(ha:∀b∈c::d::cs,b.toNat<128):
 Calls Tryz.prog 99 #[.string ⟨l.toArray⟩,.int .i64 at_,.string ⟨(c::d::cs).toArray⟩] w fun e w'=>
  e=.returned (.int .i64 (if at_<0∨(l.length:Int)<at_ then 0 else(bhd l (c::d::cs) at_.toNat:Nat)))∧Fr nob w w':=by
 have hT:=fun k w=>ZfG (l.drop k) c d cs w (by rw[List.length_drop];omega) hcs (Zip _ ha);obtain⟨CS,f⟩:∃CS,c::d::cs=CS:=⟨_,rfl⟩;rw[f]at hT⊢;clear f ha;by_cases ho:at_<0∨(l.length:Int)<at_
 ·have a:(decide (at_<0)||decide ((l.length:Int)<at_))=true:=by simpa using ho
  rw[if_pos ho];have HO:=hid a;clear a ho;go_enter Tryz.func99,Tryz.ntmps99;go_wp2_with(go_at_call 128;refine(over_any _ _ w (by omega)).mono ?_;rw[HO.out];rintro e w' ⟨rfl,rfl⟩);go_ret;exact⟨rfl,Fr.refl _ _⟩
 ·obtain⟨k,rfl⟩:∃k:Nat,at_=k:=⟨at_.toNat,by omega⟩;have hk:k≤l.length:=by omega
  have a:(decide ((k:Int)<0)||decide ((l.length:Int)<k))=false:=by simp;omega
  rw[if_neg ho];have HO:=hid a;clear a ho;have g:=Zmv (l.drop k) CS;rw[List.length_drop]at g;go_enter Tryz.func99,Tryz.ntmps99;go_wp2_with(first|(go_at_call 128;refine(over_any _ _ w (by omega)).mono ?_;rw[HO.out];rintro e w' ⟨rfl,rfl⟩)|(go_at_call 129;refine(hT k _).mono ?_;rintro e w' ⟨rfl,hf⟩));go_ret;exact⟨ZdT (by unfold bhd;simp;omega),hf⟩
theorem ZeK(l:List UInt8)(at_:Int)(w:World)(hs:l.length≤1000000):
 Calls Tryz.prog 94 #[.string ⟨l.toArray⟩,.int .i64 at_] w fun e w'=>
  e=.returned (.int .i64 (if at_<0∨(l.length:Int)<at_ then 0 else(bhd l [32,9] at_.toNat:Nat)))∧Fr nob w w':=by
 go_enter Tryz.func94,Tryz.ntmps94;go_wp2_with(go_at_call 99;refine(behind_any l at_ 32 9 [] w hs (by decide) (by decide)).mono ?_;rintro e w' ⟨rfl,hf⟩)
 all_goals
  go_ret;exact⟨rfl,hf⟩
theorem ZkP(l:List UInt8)(at_:Int)(w:World)(hs:l.length≤1000000):
 Calls Tryz.prog 65 #[.string ⟨l.toArray⟩,.int .i64 at_] w fun e w'=>
  e=.returned (.int .i64 (if at_<0∨(l.length:Int)<at_ then 0 else(bhd l [32,9,10,59] at_.toNat:Nat)))∧Fr nob w w':=by
 go_enter Tryz.func65,Tryz.ntmps65;go_wp2_with(go_at_call 99;refine(behind_any l at_ 32 9 [10,59] w hs (by decide) (by decide)).mono ?_;rintro e w' ⟨rfl,hf⟩)
 all_goals
  go_ret;exact⟨rfl,hf⟩
def Zqx(label:Bool):List UInt8:=if label then[10,59]else[10]
def Zcv(m:List UInt8)(label:Bool):List UInt8:=m.takeWhile (fun b=> !(Zqx label).contains b)
def Za5(m:List UInt8):List UInt8:=tl (tr m [32,9]) [32,9]
def ZcI(l:List UInt8)(k:Nat)(label:Bool):List UInt8×Nat×Int:=
 if Za5 (Zcv (l.drop k) label)=[]then([],k,14)
 else if 40<(Za5 (Zcv (l.drop k) label)).length then([],k,3)
 else(Za5 (Zcv (l.drop k) label),k+(Zcv (l.drop k) label).length,0)
theorem Zec(m:List UInt8)(label:Bool):(Zcv m label).length≤m.length:=(List.takeWhile_sublist _).length_le
theorem ZbT:∀(m cs:List UInt8),Lib.indexAny m cs=if(m.takeWhile (fun b=> !cs.contains b)).length<m.length then((m.takeWhile (fun b=> !cs.contains b)).length:Int)else -1
 |[],cs=>rfl
 |b::m,cs=>by
  have ih:=ZbT m cs;have hl:=(List.takeWhile_sublist (fun b=> !cs.contains b) (l:=m)).length_le;rw[Lib.indexAny,List.takeWhile_cons,ih];cases h:cs.contains b with
  |true=>simp
  |false=>
   simp only[Bool.false_eq_true,if_false,Bool.not_false,if_true,List.length_cons];by_cases h2:(m.takeWhile (fun b=> !cs.contains b)).length<m.length
   ·rw[if_pos h2,if_neg (by simp),if_pos (by omega)];omega
   ·rw[if_neg h2,if_pos (by rfl),if_neg (by omega)]
theorem Zgi(m:List UInt8)(label:Bool):m.take (Zcv m label).length=Zcv m label:=by
 unfold Zcv;exact(List.prefix_iff_eq_take.1 (List.takeWhile_prefix _)).symm
theorem Zmw{l:List UInt8}{k:Nat}{label:Bool}(h:Za5 (Zcv (l.drop k) label)=[]):ZcI l k label=([],k,14):=if_pos h
theorem Zmx{l:List UInt8}{k:Nat}{label:Bool}(h:40<(Za5 (Zcv (l.drop k) label)).length):ZcI l k label=([],k,3):=by
 unfold ZcI;rw[if_neg (fun e=>by rw[e]at h;simp at h),if_pos h]
theorem ZpF{l:List UInt8}{k:Nat}{label:Bool}(h:Za5 (Zcv (l.drop k) label)≠[])(h2:¬40<(Za5 (Zcv (l.drop k) label)).length):
 ZcI l k label=(Za5 (Zcv (l.drop k) label),k+(Zcv (l.drop k) label).length,0):=by
 unfold ZcI;rw[if_neg h,if_neg h2]
theorem Ziq(l:List UInt8)(k:Nat)(label:Bool)(w:World)(hs:l.length≤100000)(hk:k≤l.length):
 Calls Tryz.prog 114 #[.string ⟨l.toArray⟩,.int .i64 k,.bool label] w fun e w'=>
  e=.returned (.tuple #[.string ⟨(ZcI l k label).1.toArray⟩,.int .i64 (ZcI l k label).2.1,.int .i64 (ZcI l k label).2.2])∧Fr nob w w':=by
 have hI:∀w,Calls Tryz.prog 115 #[.string ⟨(l.drop k).toArray⟩,.string (if label then⟨#[10,59]⟩else⟨#[10]⟩)] w fun e w'=>e=.returned (.int .i64 (if(Zcv (l.drop k) label).length<(l.drop k).length then((Zcv (l.drop k) label).length:Int)else -1))∧Fr nob w w':=fun w=>by
  have:=ZcX (l.drop k) label w (by rw[List.length_drop];omega);rw[ZbT]at this;exact this
 have hB:=fun w=>ZlT (Zcv (l.drop k) label) 32 9 [] w (by have:=Zec (l.drop k) label;rw[List.length_drop]at this;omega) (by decide) (Zip _ (by decide));have o:(Za5 (Zcv (l.drop k) label)).length≤(Zcv (l.drop k) label).length:=Nat.le_trans (Zmv _ _) (Zo7 _ _);have f:= @Zmw l k label;have d:= @Zmx l k label;have c:= @ZpF l k label;have h:=Zgi (l.drop k) label;have n:=Zec (l.drop k) label;have ho:(decide ((k:Int)<0)||decide ((l.length:Int)<k))=false:=by simp;omega
 have HO:=hid ho;clear ho;have j:(l.drop k).length=l.length-k:=List.length_drop;change∀w,Calls Tryz.prog 149 _ w fun e w'=>e=.returned (.string ⟨(Za5 (Zcv (l.drop k) label)).toArray⟩)∧Fr nob w w' at hB;have hd:(ByteArray.mk l.toArray).extract k l.length=⟨(l.drop k).toArray⟩:=ZoV _ _
 revert hI hB o f d c h n j hd
 generalize l.drop k=M;generalize Zcv M label=U;generalize Za5 U=N;generalize ZcI l k label=F;intro hI o f d c h n j hB hd;have p:(ByteArray.mk M.toArray).extract 0 U.length=⟨U.toArray⟩:=by rw[Zm8];simp[h]
 have HB:=hid hB;clear hB;by_cases i:U.length<M.length
 ·rw[if_pos i]at hI;have HI:=hid hI;clear hI h;by_cases a:N=[]
  ·rw[f a];subst a;clear f d c;cases label
   all_goals
    go_enter Tryz.func114,Tryz.ntmps114;go_wp2_with(first|(go_at_call 128;refine(over_any _ _ w (by omega)).mono ?_;rw[HO.out];rintro e w' ⟨rfl,rfl⟩)|(go_at_call 115;refine(HI.out _).mono ?_;rintro e w1 ⟨rfl,hf⟩;have HF:=hid hf;clear hf)|(go_at_call 149;refine(HB.out _).mono ?_;rintro e w2 ⟨rfl,hf⟩;have b:=hid hf;clear hf));go_ret3;exact⟨rfl,HF.out.trans' b.out⟩
  ·by_cases g:40<N.length
   ·rw[d g];have m:N.isEmpty=false:=by cases N with|nil=>exact absurd rfl a|cons _ _=>rfl
    clear f d c a;cases label
    all_goals
     go_enter Tryz.func114,Tryz.ntmps114;go_wp2_with(first|(go_at_call 128;refine(over_any _ _ w (by omega)).mono ?_;rw[HO.out];rintro e w' ⟨rfl,rfl⟩)|(go_at_call 115;refine(HI.out _).mono ?_;rintro e w1 ⟨rfl,hf⟩;have HF:=hid hf;clear hf)|(go_at_call 149;refine(HB.out _).mono ?_;rintro e w2 ⟨rfl,hf⟩;have b:=hid hf;clear hf));go_ret3;exact⟨rfl,HF.out.trans' b.out⟩
   ·rw[c a g];have m:N.isEmpty=false:=by cases N with|nil=>exact absurd rfl a|cons _ _=>rfl
    clear f d c a;cases label
    all_goals
     go_enter Tryz.func114,Tryz.ntmps114;go_wp2_with(first|(go_at_call 128;refine(over_any _ _ w (by omega)).mono ?_;rw[HO.out];rintro e w' ⟨rfl,rfl⟩)|(go_at_call 115;refine(HI.out _).mono ?_;rintro e w1 ⟨rfl,hf⟩;have HF:=hid hf;clear hf)|(go_at_call 149;refine(HB.out _).mono ?_;rintro e w2 ⟨rfl,hf⟩;have b:=hid hf;clear hf));go_ret3;exact⟨rfl,HF.out.trans' b.out⟩
 ·rw[if_neg i]at hI;obtain rfl:U=M:=by rw[←h];exact List.take_of_length_le (by omega)
  have HI:=hid hI;clear hI h p i;by_cases a:N=[]
  ·rw[f a];subst a;clear f d c;cases label
   all_goals
    go_enter Tryz.func114,Tryz.ntmps114;go_wp2_with(first|(go_at_call 128;refine(over_any _ _ w (by omega)).mono ?_;rw[HO.out];rintro e w' ⟨rfl,rfl⟩)|(go_at_call 115;refine(HI.out _).mono ?_;rintro e w1 ⟨rfl,hf⟩;have HF:=hid hf;clear hf)|(go_at_call 149;refine(HB.out _).mono ?_;rintro e w2 ⟨rfl,hf⟩;have b:=hid hf;clear hf));go_ret3;exact⟨rfl,HF.out.trans' b.out⟩
  ·by_cases g:40<N.length
   ·rw[d g];have m:N.isEmpty=false:=by cases N with|nil=>exact absurd rfl a|cons _ _=>rfl
    clear f d c a;cases label
    all_goals
     go_enter Tryz.func114,Tryz.ntmps114;go_wp2_with(first|(go_at_call 128;refine(over_any _ _ w (by omega)).mono ?_;rw[HO.out];rintro e w' ⟨rfl,rfl⟩)|(go_at_call 115;refine(HI.out _).mono ?_;rintro e w1 ⟨rfl,hf⟩;have HF:=hid hf;clear hf)|(go_at_call 149;refine(HB.out _).mono ?_;rintro e w2 ⟨rfl,hf⟩;have b:=hid hf;clear hf));go_ret3;exact⟨rfl,HF.out.trans' b.out⟩
   ·rw[c a g];have m:N.isEmpty=false:=by cases N with|nil=>exact absurd rfl a|cons _ _=>rfl
    clear f d c a;cases label
    all_goals
     go_enter Tryz.func114,Tryz.ntmps114;go_wp2_with(first|(go_at_call 128;refine(over_any _ _ w (by omega)).mono ?_;rw[HO.out];rintro e w' ⟨rfl,rfl⟩)|(go_at_call 115;refine(HI.out _).mono ?_;rintro e w1 ⟨rfl,hf⟩;have HF:=hid hf;clear hf)|(go_at_call 149;refine(HB.out _).mono ?_;rintro e w2 ⟨rfl,hf⟩;have b:=hid hf;clear hf));go_ret3;exact⟨by simp[j],HF.out.trans' b.out⟩
def TxB(b:Nat)(out:List UInt8)(g:Option Nat)(w:World):Prop:=∃cs,Zc3 5 177 b 0 cs out g w∧cs.size=2
theorem TxB.new(w:World):TxB w.heap.size [] none (w.alloc (.cells #[.pointer none,.slice none 0 0] 177)):=
 ⟨_,⟨heap_alloc_new w _,by simp,.inl rfl,.slice none 0 0,rfl,World.ownsRow_nil _ _ _ _,rfl,by simp,fun _=>rfl⟩,rfl⟩
theorem Zs2{n:Nat}(h:n=2):Zfx 177 n 0:=by subst h;unfold Zfx;kernel_rfl
structure TxW(W0:World)(K:Nat→Prop)(b:Nat)(out:List UInt8)(w:World):Prop where
 fr:Fr nob W0 w
 tx:∃g,TxB b out g w∧∀k,(k<W0.heap.size∨K k)→k≠b∧some k≠g∧k<w.heap.size
def Txn(W0:World)(K:Nat→Prop)(k:Nat):Prop:=¬(k<W0.heap.size∨K k)
def TxA(W0:World)(K:Nat→Prop)(b:Nat)(out:List UInt8)(w:World)(v:Value)(e:Ending)(w':World):Prop:=e=.returned v∧TxW W0 K b out w'∧Fr (Txn W0 K) w w'
section
variable {W0 w w':World} {K:Nat→Prop} {b:Nat} {out:List UInt8}
theorem TxB.on{g:Option Nat}{S:Nat→Prop}(h:TxB b out g w)(f:Fr S w w')(h1:¬S b)(h2:∀k,g=some k→¬S k):TxB b out g w':=by
 obtain⟨cs,⟨hb,ho,hp,v,hv,a,hg,c,d⟩,hs⟩:=h;exact⟨cs,⟨f.heap hb h1,ho,hp,v,hv,ownsRow_fr a f (fun k hk=>h2 k (hg▸hk)),hg,c,d⟩,hs⟩
theorem TxW.on{S:Nat→Prop}(h:TxW W0 K b out w)(f:Fr S w w')(hS:∀k,S k→K k∧W0.heap.size≤k):TxW W0 K b out w':=by
 obtain⟨fr,g,ht,hk⟩:=h;refine⟨fr.trans f (fun i hi x=>by have:=(hS i x).2;omega),g,ht.on f (fun x=>(hk b (.inr (hS b x).1)).1 rfl) (fun k e x=>(hk k (.inr (hS k x).1)).2.1 e.symm),fun k h=> ?_⟩;obtain⟨h1,h2,h3⟩:=hk k h;exact⟨h1,h2,Nat.lt_of_lt_of_le h3 f.size⟩
theorem TxW.quiet(h:TxW W0 K b out w)(f:Fr nob w w'):TxW W0 K b out w':=h.on f (fun _ x=>x.elim)
theorem TxW.alloc(h:TxW W0 K b out w)(o:Obj)(hb:b<w.heap.size):TxW W0 (fun k=>K k∨k=w.heap.size) b out (w.alloc o):=by
 obtain⟨fr,g,ht,hk⟩:=h;have hg:∀k,g=some k→k<w.heap.size:=by
  intro k e;obtain⟨cs,⟨_,_,_,v,_,c,a,_⟩,_⟩:=ht;subst e;rcases c.2 with⟨rfl,_⟩|⟨q,f,i,rfl,_,hh,_⟩
  ·cases a
  ·injection a with e;subst e;exact lt_heap hh
 refine⟨fr.alloc o,g,ht.on ((Fr.refl nob w).alloc o) (fun x=>x) (fun _ _ x=>x),fun k hk'=> ?_⟩;have d:(w.alloc o).heap.size=w.heap.size+1:=by simp
 rw[d];rcases hk' with h|h|rfl
 ·obtain⟨h1,h2,h3⟩:=hk k (.inl h);exact⟨h1,h2,by omega⟩
 ·obtain⟨h1,h2,h3⟩:=hk k (.inr h);exact⟨h1,h2,by omega⟩
 ·exact⟨by omega,fun e=>by have:=hg _ e.symm;omega,by omega⟩
theorem TxW.less{K':Nat→Prop}(h:TxW W0 K b out w)(hK:∀k,K' k→K k):TxW W0 K' b out w:=
 ⟨h.fr,let⟨g,ht,hk⟩:=h.tx;⟨g,ht,fun k x=>hk k (x.imp id (hK k))⟩⟩
theorem TxW.lt(h:TxW W0 K b out w):b<w.heap.size:=by
 obtain⟨_,_,⟨_,⟨hb,_⟩,_⟩,_⟩:=h;exact lt_heap hb
theorem tx_byte(c:Int)(x:UInt8)(hc:0≤c∧c≤255)(hx:c.toNat.toUInt8=x)(h:TxW W0 K b out w)(hlen:out.length≤140737488355327):
 Calls Tryz.prog 77 #[.pointer (some ⟨b,0,none⟩),.int .u8 c] w (TxA W0 K b (out++[x]) w .nilIface):=by
 obtain⟨fr,g,⟨cs,hb,hs⟩,hk⟩:=h;refine(ZcK _ b 0 cs out g c w hc hb (Zs2 hs) hlen).mono ?_;rintro e w' ⟨rfl,v',d,hf,hn⟩;subst hx;refine⟨rfl,⟨fr.trans hf (fun i hi x=> ?_),_,⟨_,d,by rw[ZY];exact hs⟩,fun k a=> ?_⟩,hf.mono (fun k _ x=> ?_)⟩
 ·rcases x with x|x
  ·exact(hk i (.inl hi)).1 x
  ·exact(hk i (.inl hi)).2.1 x
 ·obtain⟨h1,h2,h3⟩:=hk k a;refine⟨h1,fun e=> ?_,Nat.lt_of_lt_of_le h3 hf.size⟩;rcases hn k e.symm with x|x
  ·exact h2 x
  ·omega
 ·intro a;rcases x with x|x
  ·exact(hk k a).1 x
  ·exact(hk k a).2.1 x
theorem tx_str(l:List UInt8)(h:TxW W0 K b out w)(hlen:out.length+l.length≤140737488355328):
 Calls Tryz.prog 50 #[.pointer (some ⟨b,0,none⟩),.string ⟨l.toArray⟩] w (TxA W0 K b (out++l) w (.tuple #[.int .i64 l.length,.nilIface])):=by
 obtain⟨fr,g,⟨cs,hb,hs⟩,hk⟩:=h;refine(writeString_any _ b 0 cs out g l w hb (Zs2 hs) hlen).mono ?_;rintro e w' ⟨rfl,v',c,hf,hn⟩;refine⟨rfl,⟨fr.trans hf (fun i hi x=> ?_),_,⟨_,c,by rw[ZY];exact hs⟩,fun k a=> ?_⟩,hf.mono (fun k _ x=> ?_)⟩
 ·rcases x with x|x
  ·exact(hk i (.inl hi)).1 x
  ·exact(hk i (.inl hi)).2.1 x
 ·obtain⟨h1,h2,h3⟩:=hk k a;refine⟨h1,fun e=> ?_,Nat.lt_of_lt_of_le h3 hf.size⟩;rcases hn k e.symm with x|x
  ·exact h2 x
  ·omega
 ·intro a;rcases x with x|x
  ·exact(hk k a).1 x
  ·exact(hk k a).2.1 x
end
def sngT(n:Nat):List UInt8:=if n=10 then[92,110]else if Za0.has n then[92,n.toUInt8]else[n.toUInt8]
def Ztd(n:Nat):List UInt8:=if Za0.has n then[91,46,n.toUInt8,46,93]else[n.toUInt8]
theorem Ztq(n:Nat)(w:World)(hn:n<256):
 Calls Tryz.prog 194 #[.int .u8 (n:Int)] w fun e w'=>e=.returned (.bool (Za0.has n))∧Fr nob w w':=by
 have hc:=Zb5 ⟨#[112,117,110,99,116]⟩ _ rfl w;rw[show ZaD (Zak ⟨#[112,117,110,99,116]⟩)=Za0 from rfl]at hc;have f:Za0.fit:=Zdd _;have hh:=fun w=>Zj2 Za0 n w f hn;obtain⟨S,hS⟩:∃S,Za0=S:=⟨_,rfl⟩;rw[hS]at hc;simp only[hS]at hh⊢;have HC:=hid hc;have HH:=hid hh;clear hc hh f hS;go_enter Tryz.func194,Tryz.ntmps194;go_wp2_with fail;refine HC.out.mono ?_;rintro e w2 ⟨rfl,f2⟩;have g:=Zl (heap_alloc_new w2 (.cells #[.int .u64 S.a,.int .u64 S.b,.int .u64 S.c,.int .u64 S.d] 132));have F2:=hid (f2.alloc (.cells #[.int .u64 S.a,.int .u64 S.b,.int .u64 S.c,.int .u64 S.d] 132));clear f2;go_wp2_with fail;refine(HH.out _).mono ?_;rintro e w3 ⟨rfl,f3⟩;have F3:=hid (F2.out.trans' f3);clear f3;go_wp2;go_ret;exact⟨rfl,F3.out⟩
theorem Fr.toTx{W0 w w':World}{K:Nat→Prop}(f:Fr nob w w'):Fr (Txn W0 K) w w':=f.mono (fun _ _ x=>x.elim)
theorem Zvp{W0:World}{K:Nat→Prop}{b:Nat}{out:List UInt8}(l:List UInt8)(u:FrameMode)(w:World)(h:TxW W0 K b out w)(hlen:out.length+l.length≤140737488355328):
 CallsD Tryz.prog 50 #[.pointer (some ⟨b,0,none⟩),.string ⟨l.toArray⟩] u w fun e u' w'=>u'=u∧TxA W0 K b (out++l) w (.tuple #[.int .i64 l.length,.nilIface]) e w':=by
 obtain⟨fr,g,⟨cs,hb,hs⟩,hk⟩:=h;refine(Ztx _ b 0 cs out g l u w hb (Zs2 hs) hlen).mono ?_;rintro e u' w' ⟨rfl,rfl,v',c,hf,hn⟩;refine⟨rfl,rfl,⟨fr.trans hf (fun i hi x=> ?_),_,⟨_,c,by rw[ZY];exact hs⟩,fun k a=> ?_⟩,hf.mono (fun k _ x=> ?_)⟩
 ·rcases x with x|x
  ·exact(hk i (.inl hi)).1 x
  ·exact(hk i (.inl hi)).2.1 x
 ·obtain⟨h1,h2,h3⟩:=hk k a;refine⟨h1,fun e=> ?_,Nat.lt_of_lt_of_le h3 hf.size⟩;rcases hn k e.symm with x|x
  ·exact h2 x
  ·omega
 ·intro a;rcases x with x|x
  ·exact(hk k a).1 x
  ·exact(hk k a).2.1 x
section
variable {W0 w:World} {K:Nat→Prop} {b:Nat} {out:List UInt8}
theorem show_single(n:Nat)(hn:n<256)(h:TxW W0 K b out w)(hlen:out.length≤100000000000000):
 Calls Tryz.prog 169 #[.pointer (some ⟨b,0,none⟩),.int .u8 (n:Int)] w (TxA W0 K b (out++sngT n) w (.tuple #[])):=by
 have hp:=Ztq n w hn;have HT:=hid h;have HP:=hid hp;clear h hp;unfold sngT;by_cases a:n=10
 ·have t1:((n:Int)==10)=true:=by subst a;rfl
  rw[if_pos a];clear a;go_enter Tryz.func169,Tryz.ntmps169;go_wp2_with fail;refine(tx_str [92,110] HT.out (by simp;omega)).mono ?_;rintro e w1 ⟨rfl,h1,f1⟩;have H1:=hid h1;have F1:=hid f1;clear h1 f1;go_wp2;exact bodyPost_ret (results_none rfl _ _ _) rfl ⟨rfl,H1.out,F1.out⟩
 ·have t1:((n:Int)==10)=false:=by simp;omega
  rw[if_neg a];cases hc:Za0.has n with
  |true=>
   rw[if_pos rfl];rw[hc]at HP;clear hc;go_enter Tryz.func169,Tryz.ntmps169;go_wp2_with fail;refine HP.out.mono ?_;rintro e w1 ⟨rfl,f1⟩;have H1:=hid (HT.out.quiet f1);have F1:=hid (Fr.toTx (W0:=W0) (K:=K) f1);clear f1;go_wp2_with fail;refine(tx_byte 92 92 (by decide) rfl H1.out (by omega)).mono ?_;rintro e w2 ⟨rfl,h2,f2⟩;have H2:=hid h2;have F2:=hid (F1.out.trans f2 (fun i _ x=>x));clear h2 f2;go_wp2_with fail;refine(tx_byte n n.toUInt8 (by omega) rfl H2.out (by simp;omega)).mono ?_;rintro e w3 ⟨rfl,h3,f3⟩;have H3:=hid h3;have F3:=hid (F2.out.trans f3 (fun i _ x=>x));clear h3 f3;go_wp2
   go_end0
   refine⟨rfl,?_,F3.out⟩;have:=H3.out;rw[List.append_assoc]at this;exact this
  |false=>
   rw[if_neg (by decide)];rw[hc]at HP;clear hc;go_enter Tryz.func169,Tryz.ntmps169;go_wp2_with fail;refine HP.out.mono ?_;rintro e w1 ⟨rfl,f1⟩;have H1:=hid (HT.out.quiet f1);have F1:=hid (Fr.toTx (W0:=W0) (K:=K) f1);clear f1;go_wp2_with fail;refine(tx_byte n n.toUInt8 (by omega) rfl H1.out (by omega)).mono ?_;rintro e w3 ⟨rfl,h3,f3⟩;have H3:=hid h3;have F3:=hid (F1.out.trans f3 (fun i _ x=>x));clear h3 f3;go_wp2
   go_end0
   exact⟨rfl,H3.out,F3.out⟩
theorem show_inside(n:Nat)(hn:n<256)(h:TxW W0 K b out w)(hlen:out.length≤100000000000000):
 Calls Tryz.prog 173 #[.pointer (some ⟨b,0,none⟩),.int .u8 (n:Int)] w (TxA W0 K b (out++Ztd n) w (.tuple #[])):=by
 have hp:=Ztq n w hn;have HT:=hid h;have HP:=hid hp;clear h hp;unfold Ztd;cases hc:Za0.has n with
 |true=>
  rw[if_pos rfl];rw[hc]at HP;clear hc
  go_enter_defers Tryz.func173,Tryz.ntmps173
  go_wp2_with fail;refine HP.out.mono ?_;rintro e w1 ⟨rfl,f1⟩;have H1:=hid (HT.out.quiet f1);have F1:=hid (Fr.toTx (W0:=W0) (K:=K) f1);clear f1;go_wp2_with fail;refine(tx_str [91,46] H1.out (by simp;omega)).mono ?_;rintro e w2 ⟨rfl,h2,f2⟩;have H2:=hid h2;have F2:=hid (F1.out.trans f2 (fun i _ x=>x));clear h2 f2;go_wp2_with fail;refine(tx_byte n n.toUInt8 (by omega) rfl H2.out (by simp;omega)).mono ?_;rintro e w3 ⟨rfl,h3,f3⟩;have H3:=hid h3;have F3:=hid (F2.out.trans f3 (fun i _ x=>x));clear h3 f3;go_wp2;refine leaves_cons (f:=50) (args:= #[.pointer (some ⟨b,0,none⟩),.string ⟨#[46,93]⟩]) (by simp) (by simp[go_sem]) ?_;refine(Zvp [46,93] _ _ H3.out (by simp;omega)).mono ?_;rintro e u' w4 ⟨rfl,rfl,h4,f4⟩;refine⟨_,results_none rfl _ _ _,rfl,?_,F3.out.trans f4 (fun i _ x=>x)⟩;rw[List.append_assoc,List.append_assoc]at h4;exact h4
 |false=>
  rw[if_neg (by decide)];rw[hc]at HP;clear hc
  go_enter_defers Tryz.func173,Tryz.ntmps173
  go_wp2_with fail;refine HP.out.mono ?_;rintro e w1 ⟨rfl,f1⟩;have H1:=hid (HT.out.quiet f1);have F1:=hid (Fr.toTx (W0:=W0) (K:=K) f1);clear f1;go_wp2_with fail;refine(tx_byte n n.toUInt8 (by omega) rfl H1.out (by omega)).mono ?_;rintro e w3 ⟨rfl,h3,f3⟩;have H3:=hid h3;have F3:=hid (F1.out.trans f3 (fun i _ x=>x));clear h3 f3;go_wp2;exact⟨_,results_none rfl _ _ _,rfl,H3.out,F3.out⟩
end
theorem least_nil'{s:S4}(hs:s.fit)(h:spl s.has 256=[]):Zbi s 0 false:=by
 have g:=ZsE s.has 256;rw[h]at g;refine .inl ⟨rfl,rfl,S4.ext_has hs ZaU fun e he=> ?_⟩;rw[ZcO];have:=g.cov e he;cases hp:s.has e with
 |false=>rfl
 |true=>obtain⟨x,hx,_⟩:=this.1 hp;cases hx
theorem ZtG{s:S4}{x:Nat×Nat}{r:List (Nat×Nat)}(h:spl s.has 256=x::r):Zbi s x.1 true:=by
 have g:=ZsE s.has 256;rw[h]at g;have hx:=g.in_ x (by simp);refine .inr ⟨rfl,by omega,(g.cov x.1 (by omega)).2 ⟨x,by simp,Nat.le_refl _,hx.1⟩,fun e he=> ?_⟩;cases hp:s.has e with
 |false=>rfl
 |true=>
  obtain⟨y,hy,h1,h2⟩:=(g.cov e (by omega)).1 hp;rcases List.mem_cons.1 hy with rfl|hy
  ·omega
  ·have:=(List.pairwise_cons.1 g.gap).1 y hy;omega
def lowS(s:S4):Nat:=match spl s.has 256 with
 |[]=>0
 |x::_=>x.1
theorem Zbi.lowS{s:S4}{d:Nat}{b:Bool}(hs:s.fit)(h:Zbi s d b):d=lowS s:=by
 unfold Go.Proofs.YtkfddjopbocpkaaGreatDoor.lowS;cases hp:spl s.has 256 with
 |nil=>exact(h.uniq (least_nil' hs hp)).1
 |cons x r=>exact(h.uniq (ZtG hp)).1
theorem Zvs(s:S4):lowS s<256:=by
 unfold lowS;have g:=ZsE s.has 256;cases hp:spl s.has 256 with
 |nil=>simp
 |cons x r=>rw[hp]at g;have:=g.in_ x (by simp);show x.1<256;omega
def Zus(L:List (Nat×Nat)):Bool:=L.any fun x=>x.1==10||x.2==10
def ZsV(x:Nat×Nat):List UInt8:=Ztd x.1++(if x.1=x.2 then[]else 45::Ztd x.2)
def ZsL:List (Nat×Nat)→List UInt8
 |[]=>[]
 |x::r=>ZsV x++ZsL r
def ZtK(o:Bool)(s:S4):List UInt8:=91::((if o then[94]else[])++(ZsL (spl s.has 256)++[93]))
def setT(s:S4):List UInt8:=
 if s.len=256 then[46]else if s.len=1 then sngT (lowS s)
 else
  let o:=decide (128<s.len∨s.len=0)
  let s1:=if o then s.not else s
  let e:=Zus (spl s1.has 256)
  ZtK (o !=e) (if e then s1.not else s1)
theorem ZsQ(n:Nat):(Ztd n).length≤5:=by unfold Ztd;split<;>simp
theorem Zvt(n:Nat):(sngT n).length≤2:=by unfold sngT;split;simp;split<;>simp
theorem Zvu(x:Nat×Nat):(ZsV x).length≤11:=by
 unfold ZsV;have:=ZsQ x.1;have:=ZsQ x.2;rw[List.length_append];split
 ·simp;omega
 ·simp;omega
theorem ZsG:∀L:List (Nat×Nat),(ZsL L).length≤11*L.length
 |[]=>Nat.le_refl _
 |x::r=>by have:=ZsG r;have:=Zvu x;simp only[ZsL,List.length_append,List.length_cons];omega
theorem Ztl:∀L M:List (Nat×Nat),ZsL (L++M)=ZsL L++ZsL M
 |[],_=>rfl
 |x::r,M=>by simp only[List.cons_append,ZsL,Ztl r M,List.append_assoc]
theorem ZsM{L:List (Nat×Nat)}{k:Nat}(h:k<L.length):ZsL (L.take (k+1))=ZsL (L.take k)++ZsV L[k]:=by
 rw[List.take_succ_eq_append_getElem h,Ztl];simp[ZsL]
theorem Zvv(o:Bool)(s:S4):(ZtK o s).length≤2819:=by
 have:=ZsG (spl s.has 256);have:=spl_len s.has 256;unfold ZtK;cases o<;>simp<;>omega
theorem Zvw(s:S4):(setT s).length≤2819:=by
 unfold setT;split
 ·simp
 ·split
  ·have:=Zvt (lowS s);omega
  ·exact Zvv _ _
theorem ZtD.get{w:World}{v:Value}{L:List (Nat×Nat)}(h:ZtD w v L){k:Nat}(hk:k<L.length):∃g cap,v=.slice (some ⟨g,0,none⟩) L.length cap∧
 w.cell? ⟨g,k*2,none⟩=some (.int .u8 (L[k].1:Int))∧w.cell? ⟨g,k*2+1,none⟩=some (.int .u8 (L[k].2:Int)):=by
 have a:L≠[]:=fun e=>by rw[e]at hk;simp at hk
 obtain⟨g,cap,rfl,hg⟩:=h.slc a;have hl:=Zs1 L;unfold ZtD at h;exact⟨g,cap,rfl,(h.cellAt (k*2) (by omega)).trans (Zux L k hk).1,(h.cellAt (k*2+1) (by omega)).trans (Zux L k hk).2⟩
theorem Zui(a b:Nat)(w:World)(ha:a<256)(hb:b<256):
 Calls Tryz.prog 196 #[.agg #[.int .u8 (a:Int),.int .u8 (b:Int)]] w fun e w'=>e=.returned (.bool (a==10||b==10))∧Fr nob w w':=by
 have hf:=(Fr.refl nob w).alloc (.cells #[.int .u8 (a:Int),.int .u8 (b:Int)] 221);have hz:=heap_alloc_new w (.cells #[.int .u8 (a:Int),.int .u8 (b:Int)] 221);have k0:=cell_at (j:=0) (v:=.int .u8 (a:Int)) hz rfl;have k1:=cell_at (j:=1) (v:=.int .u8 (b:Int)) hz rfl;have HF:=hid hf;clear hf hz;have ea:((a:Int)==10)=(a==10):=by rw[Bool.eq_iff_iff];simp;omega
 have eb:((b:Int)==10)=(b==10):=by rw[Bool.eq_iff_iff];simp;omega
 cases h1:(a==10)with
 |true=>
  rw[h1]at ea;go_enter Tryz.func196,Tryz.ntmps196;go_wp2;go_ret;exact⟨rfl,HF.out⟩
 |false=>
  rw[h1]at ea;cases h2:(b==10)with
  |true=>
   rw[h2]at eb;go_enter Tryz.func196,Tryz.ntmps196;go_wp2;go_ret;exact⟨rfl,HF.out⟩
  |false=>
   rw[h2]at eb;go_enter Tryz.func196,Tryz.ntmps196;go_wp2;go_ret;exact⟨rfl,HF.out⟩
theorem Zuj(L:List (Nat×Nat))(u:Value)(w:World)(hl:L.length≤256)(hL:∀x∈L,x.1<256∧x.2<256)(h:ZtD w u L):
 Calls Tryz.prog 210 #[u,.func (.func 196) #[] #[]] w fun e w'=>(∃i:Int,e=.returned (.int .i64 i)∧(decide (0≤i))=Zus L)∧Fr nob w w':=by
 obtain⟨a,c,rfl⟩:=Zb (show w.ownsRow 0 221 2 u L.length (spC L)from h);have H:=hid h;clear h;have HL:=hid hL;clear hL;go_enter Tryz.func210,Tryz.ntmps210;go_wp2_with fail
 go_loopw [8] (fun i wr=>∃k:Nat,i=.int .i64 k∧k≤L.length∧Zus (L.take k)=false∧Fr nob w wr) (fun i _=>L.length-(intOf i).toNat)
 case atStart=>exact⟨0,rfl,Nat.zero_le _,rfl,Fr.refl _ _⟩
 case round=>
  obtain⟨k,rfl,hk,hn,fr⟩:=hrel;have HR:=hid (H.out.on fr (fun _ _ x=>x));have FR:=hid fr;have HN:=hid hn;clear fr hn;by_cases b:k<L.length
  ·obtain⟨g,v,he,n,o⟩:=HR.out.get b;injection he with e1 e2 e3;subst e1;subst e3;clear e2;have t:=hid (List.take_succ_eq_append_getElem b);have f:Zus (L.take (k+1))=(L[k].1==10||L[k].2==10):=by unfold Zus;rw[t.out,List.any_append,show(L.take k).any _=false from HN.out];simp
   have j:((L[k].1==10||L[k].2==10)=true)→Zus L=true:=fun h=>List.any_eq_true.2 ⟨_,List.getElem_mem b,h⟩;have hb:=HL.out L[k] (List.getElem_mem b);have HA:=hid f;have HM:=hid j;clear f j;obtain⟨⟨p,q⟩,r⟩:∃x,L[k]=x:=⟨_,rfl⟩;rw[r]at n o HA HM hb;simp only at n o HA HM hb;have HE:=hid (fun w=>Zui p q w hb.1 hb.2);clear r;go_wp2_with fail;refine(HE.out _).mono ?_;rintro e w2 ⟨rfl,f2⟩;have F2:=hid f2;clear f2;cases d:(p==10||q==10)with
   |true=>
    have m:=hid (HM.out d);clear d;go_wp2;go_ret;exact⟨⟨k,rfl,by rw[m.out];simp⟩,FR.out.trans' F2.out⟩
   |false=>
    have s:=hid (HA.out.trans d);clear d;go_wp2;go_roundw
    case rel=>exact⟨k+1,by go_num,by omega,s.out,FR.out.trans' F2.out⟩
    case measure=>simp[intOf];omega
  ·obtain rfl:k=L.length:=by omega
   have hT:=hid (List.take_of_length_le (l:=L) (Nat.le_refl _));go_wp2;go_ret;exact⟨⟨-1,rfl,by have:=HN.out;rw[hT.out]at this;rw[this];decide⟩,FR.out⟩
theorem ended_any(L:List (Nat×Nat))(u:Value)(w:World)(hl:L.length≤256)(hL:∀x∈L,x.1<256∧x.2<256)(h:ZtD w u L):
 Calls Tryz.prog 171 #[u] w fun e w'=>e=.returned (.bool (Zus L))∧Fr nob w w':=by
 have HI:=hid (Zuj L u w hl hL h);clear h;go_enter Tryz.func171,Tryz.ntmps171;go_wp2_with fail;refine(show Calls Tryz.prog 195 #[u,.func (.func 196) #[] #[]] w fun e w'=>e=.returned (.bool (Zus L))∧Fr nob w w' from ?_).mono ?_
 ·go_enter Tryz.func195,Tryz.ntmps195;go_wp2_with fail;refine HI.out.mono ?_;rintro e w1 ⟨⟨i,rfl,hi⟩,f1⟩;have F1:=hid f1;have HI:=hid hi;clear f1 hi;go_wp2;go_ret;exact⟨by rw[←HI.out];rfl,F1.out⟩
 ·rintro e w1 ⟨rfl,f1⟩;have F1:=hid f1;clear f1;go_wp2;go_ret;exact⟨rfl,F1.out⟩
end Go.Proofs.YtkfddjopbocpkaaGreatDoor
