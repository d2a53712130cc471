/- Lemmas of this claim. -/
import Derived.WalkMore
import Derived.Test.YtgllcniibbaoaaaGreatDoorK02
import Derived.Test.YtgllcniibbaoaaaGreatDoorK05
set_option linter.all false
set_option maxRecDepth 100000
set_option maxHeartbeats 24000000
namespace Go.Proofs.YtgllcniibbaoaaaGreatDoor
open Go.RowKit
open Go.Lib (hid)
def bhd(l cs:List UInt8)(k:Nat):Nat:=l.length-(tl (l.drop k) cs).length
theorem Zmv(m cs:List UInt8):(tl m cs).length≤m.length:=(List.dropWhile_sublist _).length_le
theorem Zip(cs:List UInt8)(h:∀b∈cs,b.toNat<128):∀(j:Nat) b,cs[j]? =some b→b.toNat<128:=fun _ _ hj=>h _ (List.mem_of_getElem? hj)
theorem behind_any(l:List UInt8)(at_:Int)(c d:UInt8)(cs:List UInt8)(w:World)(hs:l.length≤1000000)(hcs:cs.length≤1000)(ha:∀b∈c::d::cs,b.toNat<128):
 Calls Tryz.prog 130 #[.string ⟨l.toArray⟩,.int .i64 at_,.string ⟨(c::d::cs).toArray⟩] w fun e w'=>
  e=.returned (.int .i64 (if at_<0∨(l.length:Int)<at_ then 0 else(bhd l (c::d::cs) at_.toNat:Nat)))∧Fr nob w w':=by
 have hT:=fun k w=>ZfG (l.drop k) c d cs w (by rw[List.length_drop];omega) hcs (Zip _ ha);obtain⟨CS,f⟩:∃CS,c::d::cs=CS:=⟨_,rfl⟩;rw[f]at hT⊢;clear f ha;by_cases ho:at_<0∨(l.length:Int)<at_
 ·have a:(decide (at_<0)||decide ((l.length:Int)<at_))=true:=by simpa using ho
  rw[if_pos ho];have HO:=hid a;clear a ho;go_enter Tryz.func130,Tryz.ntmps130;go_wp2_with(go_at_call 132;refine(over_any _ _ w (by omega)).mono ?_;rw[HO.out];rintro e w' ⟨rfl,rfl⟩);go_ret;exact⟨rfl,Fr.refl _ _⟩
 ·obtain⟨k,rfl⟩:∃k:Nat,at_=k:=⟨at_.toNat,by omega⟩;have hk:k≤l.length:=by omega
  have a:(decide ((k:Int)<0)||decide ((l.length:Int)<k))=false:=by simp;omega
  rw[if_neg ho];have HO:=hid a;clear a ho;have g:=Zmv (l.drop k) CS;rw[List.length_drop]at g;go_enter Tryz.func130,Tryz.ntmps130;go_wp2_with(first|(go_at_call 132;refine(over_any _ _ w (by omega)).mono ?_;rw[HO.out];rintro e w' ⟨rfl,rfl⟩)|(go_at_call 153;refine(hT k _).mono ?_;rintro e w' ⟨rfl,hf⟩));go_ret;exact⟨ZdT (by unfold bhd;simp;omega),hf⟩
theorem ZeK(l:List UInt8)(at_:Int)(w:World)(hs:l.length≤1000000):
 Calls Tryz.prog 107 #[.string ⟨l.toArray⟩,.int .i64 at_] w fun e w'=>
  e=.returned (.int .i64 (if at_<0∨(l.length:Int)<at_ then 0 else(bhd l [32,9] at_.toNat:Nat)))∧Fr nob w w':=by
 go_enter Tryz.func107,Tryz.ntmps107;go_wp2_with(go_at_call 130;refine(behind_any l at_ 32 9 [] w hs (by decide) (by decide)).mono ?_;rintro e w' ⟨rfl,hf⟩)
 all_goals
  go_ret;exact⟨rfl,hf⟩
theorem ZA3(l:List UInt8)(at_:Nat)(w:World)(hs:l.length≤100000)(hat:at_≤l.length):
 Calls Tryz.prog 45 #[.string ⟨l.toArray⟩,.int .i64 at_] w fun e w'=>
  e=.returned (.tuple #[.int .i64 (nm at_ (l.drop at_) 0 0).1,.int .i64 (nm at_ (l.drop at_) 0 0).2.1,.int .i64 (nm at_ (l.drop at_) 0 0).2.2])∧w=w':=by
 obtain⟨F,hF⟩:∃F,nm at_ (l.drop at_) 0 0=F:=⟨_,rfl⟩;rw[hF];have HF:=hid hF;clear hF;have ho:(decide ((at_:Int)<0)||decide ((l.length:Int)<at_))=false:=by simp;omega
 have HO:=hid ho;clear ho;go_enter Tryz.func45,Tryz.ntmps45;go_wp2_with(go_at_call 71;refine(refOver_any _ _ w (by omega)).mono ?_;rw[HO.out];rintro e w' ⟨rfl,rfl⟩)
 go_loop [7,8] (fun n k=>∃(m c:Nat),n=.int .i64 m∧k=.int .i64 ((at_:Int)+c)∧c≤9∧at_+c≤l.length∧m<ZiU c∧nm at_ (l.drop (at_+c)) m c=F) (fun _ k=>l.length-(intOf k).toNat)
 case atStart=>exact⟨0,0,rfl,by simp,by omega,by omega,by decide,HF.out⟩
 case round=>
  obtain⟨m,c,rfl,rfl,i,p,hm,hb⟩:=hrel;have hp:=ZlS i;by_cases f:at_+c<l.length
  ·have g:(at_:Int)+c<l.length:=by omega
   obtain⟨x,hx⟩:∃x,l[at_+c]=x:=⟨_,rfl⟩;by_cases hd:48≤l[at_+c].toNat∧l[at_+c].toNat≤57
   ·have b:=hd.1;have d:=hd.2;by_cases h9:c=9
    ·subst h9;rw[Znw f hd]at hb;subst hb;rw[hx]at b d;have t1:((at_:Int)+9-at_==9)=true:=by rw[beq_iff_eq];omega
     clear hm hd;go_wp2;go_ret3;exact⟨rfl,rfl⟩
    ·rw[Znx f hd h9]at hb;have t1:((c:Int)==9)=false:=by simp;omega
     have h:=ZiV c;have HB:=hid hb;have HP:=hid h;rw[hx]at b d HB;have r:IntKind.u8.wrap ((x.toNat:Int)-48)=x.toNat-48:=IntWalk.u8_in _ (by omega);have q:m<1000000000:=by omega
     have o:c≤8:=by omega
     clear hd hb h9 h;go_wp2
     go_round
     case rel=>exact⟨m*10+(x.toNat-48),c+1,by go_num,by go_num,by omega,by omega,by rw[HP.out];omega,HB.out⟩
     case measure=>simp[intOf];omega
   ·rw[Zqi f hd]at hb;rw[hx]at hd;have a:x.toNat<48∨(48≤x.toNat∧57<x.toNat):=by omega
    clear hd hm;by_cases h0:c=0
    ·subst h0;rw[if_pos rfl]at hb;subst hb;have t1:((at_:Int)+((0:Nat):Int)==at_)=true:=by simp
     have j:at_<l.length:=by omega
     have s:l[at_]=x:=by simpa using hx
     rcases a with a|⟨b,d⟩
     all_goals
      go_wp2;go_ret3;exact⟨rfl,rfl⟩
    ·rw[if_neg h0]at hb;subst hb;have t1:((at_:Int)+c==at_)=false:=by simp;omega
     rcases a with a|⟨b,d⟩
     all_goals
      go_wp2;go_ret3;exact⟨by simp,rfl⟩
  ·rw[Zo2 (by omega)]at hb;have g:¬(at_:Int)+c<l.length:=by omega
   clear hm;by_cases h0:c=0
   ·subst h0;rw[if_pos rfl]at hb;subst hb;go_wp2;go_ret3;exact⟨rfl,rfl⟩
   ·rw[if_neg h0]at hb;subst hb;have t1:((at_:Int)+c==at_)=false:=by simp;omega
    go_wp2;go_ret3;exact⟨by simp,rfl⟩
theorem ZBw{l cs:List UInt8}{k:Nat}(h:k<l.length)(e:cs.contains l[k]=true):bhd l cs k=bhd l cs (k+1):=by
 unfold bhd;rw[Zo6 (m:=l.drop k) (by rw[List.length_drop];omega) (by simpa using e),List.drop_drop]
theorem ZBx{l cs:List UInt8}{k:Nat}(h:k<l.length)(e:cs.contains l[k]=false):bhd l cs k=k:=by
 unfold bhd;rw[Zqm (m:=l.drop k) (by rw[List.length_drop];omega) (by simpa using e),List.length_drop];omega
theorem ZrD{l cs:List UInt8}:bhd l cs l.length=l.length:=by
 unfold bhd;rw[List.drop_length];simp[tl]
theorem ZBh{cs:List UInt8}{i:Nat}(h:i<cs.length)(x:UInt8):(cs.take (i+1)).contains x=((cs.take i).contains x||(cs[i]==x)):=by
 rw[←List.take_append_getElem h,List.contains_append,List.contains_cons,List.contains_nil,Bool.or_false,Bool.beq_comm]
theorem refBehind_any(l:List UInt8)(at_:Int)(CS:List UInt8)(w:World)(hs:l.length≤1000000)(hcs:CS.length≤1000):
 Calls Tryz.prog 67 #[.string ⟨l.toArray⟩,.int .i64 at_,.string ⟨CS.toArray⟩] w fun e w'=>
  e=.returned (.int .i64 (if at_<0∨(l.length:Int)<at_ then 0 else(bhd l CS at_.toNat:Nat)))∧Fr nob w w':=by
 by_cases ho:at_<0∨(l.length:Int)<at_
 ·have d:(decide (at_<0)||decide ((l.length:Int)<at_))=true:=by simpa using ho
  rw[if_pos ho];have HO:=hid d;clear d ho;go_enter Tryz.func67,Tryz.ntmps67;go_wp2_with(go_at_call 71;refine(refOver_any _ _ w (by omega)).mono ?_;rw[HO.out];rintro e w' ⟨rfl,rfl⟩);go_ret;exact⟨rfl,Fr.refl _ _⟩
 ·obtain⟨a,rfl⟩:∃a:Nat,at_=a:=⟨at_.toNat,by omega⟩;have ha:a≤l.length:=by omega
  have d:(decide ((a:Int)<0)||decide ((l.length:Int)<a))=false:=by simp;omega
  rw[if_neg ho];have HO:=hid d;clear d ho;obtain⟨F,hF⟩:∃F,bhd l CS ((a:Int)).toNat=F:=⟨_,rfl⟩;rw[hF];rw[Int.toNat_natCast]at hF;have HF:=hid hF;clear hF;go_enter Tryz.func67,Tryz.ntmps67;go_wp2_with(go_at_call 71;refine(refOver_any _ _ w (by omega)).mono ?_;rw[HO.out];rintro e w' ⟨rfl,rfl⟩)
  go_loopw [1] (fun v wr=>∃k:Nat,v=.int .i64 k∧k≤l.length∧Fr nob w wr∧bhd l CS k=F) (fun v _=>l.length-(intOf v).toNat)
  case atStart=>exact⟨a,rfl,ha,Fr.refl _ _,HF.out⟩
  case round=>
   obtain⟨k,rfl,hk,hf,hb⟩:=hrel;have HB:=hid hb;have HR:=hid hf;clear hb hf;by_cases j:k<l.length
   ·obtain⟨x,hx⟩:∃x,l[k]=x:=⟨_,rfl⟩;go_wp2_with fail
    go_loopw [7,18] (fun f v wr2=>∃i:Nat,v=.int .i64 i∧i≤CS.length∧f=.bool ((CS.take i).contains x)∧Fr nob w wr2) (fun _ v _=>CS.length-(intOf v).toNat)
    case atStart=>exact⟨0,rfl,Nat.zero_le _,rfl,HR.out⟩
    case round=>
     obtain⟨i,rfl,hi,rfl,h⟩:=hrel;have c:=hid h;clear h;by_cases n:i<CS.length
     ·have g:=ZBh n x;have b:=hid g;clear g;cases hc:(CS.take i).contains x with
      |true=>
       rw[hc,Bool.true_or]at b;go_wp2_with fail;refine region_fr 8 (by kernel_rfl) (by kernel_rfl) ?_;simp only[List.take_succ_cons,List.take_zero,List.drop_succ_cons,List.drop_zero]
       repeat(quiet_step (fail))
       refine wpQuiet_nil ?_;intro wC fC;go_wp2;go_roundw
       case rel=>exact⟨i+1,by go_num,by omega,by rw[b.out],c.out.trans' fC⟩
       case measure=>simp[intOf];omega
      |false=>
       rw[hc,Bool.false_or]at b;obtain⟨y,hy⟩:∃y,CS[i]=y:=⟨_,rfl⟩;rw[hy]at b;cases hq:y==x with
       |true=>
        rw[hq]at b;have t1:((y.toNat:Int)==x.toNat)=true:=Zcy (beq_iff_eq.1 hq);clear hq;go_wp2_with fail;refine region_fr 8 (by kernel_rfl) (by kernel_rfl) ?_;simp only[List.take_succ_cons,List.take_zero,List.drop_succ_cons,List.drop_zero]
        repeat(quiet_step (fail))
        refine wpQuiet_nil ?_;intro wC fC;go_wp2;go_roundw
        case rel=>exact⟨i+1,by go_num,by omega,by rw[b.out],c.out.trans' fC⟩
        case measure=>simp[intOf];omega
       |false=>
        rw[hq]at b;have t1:((y.toNat:Int)==x.toNat)=false:=Zn (beq_eq_false_iff_ne.1 hq);clear hq;go_wp2_with fail;refine region_fr 8 (by kernel_rfl) (by kernel_rfl) ?_;simp only[List.take_succ_cons,List.take_zero,List.drop_succ_cons,List.drop_zero]
        repeat(quiet_step (fail))
        refine wpQuiet_nil ?_;intro wC fC;go_wp2;go_roundw
        case rel=>exact⟨i+1,by go_num,by omega,by rw[b.out],c.out.trans' fC⟩
        case measure=>simp[intOf];omega
     ·obtain rfl:i=CS.length:=by omega
      rw[List.take_length];cases hc:CS.contains x with
      |true=>
       have hb:=HB.out;rw[ZBw j (by rw[hx];exact hc)]at hb;have m:=hid hb;clear hb hc;go_wp2;go_roundw
       case rel=>exact⟨k+1,by go_num,by omega,c.out,m.out⟩
       case measure=>simp[intOf];omega
      |false=>
       have hb:=HB.out;rw[ZBx j (by rw[hx];exact hc)]at hb;subst hb;clear hc;go_wp2;go_ret;exact⟨rfl,c.out⟩
   ·obtain rfl:k=l.length:=by omega
    go_wp2;go_ret;exact⟨ZdT (by rw[←HB.out,ZrD]),HR.out⟩
theorem ZBi(l:List UInt8)(at_:Int)(w:World)(hs:l.length≤1000000):
 Calls Tryz.prog 42 #[.string ⟨l.toArray⟩,.int .i64 at_] w fun e w'=>
  e=.returned (.int .i64 (if at_<0∨(l.length:Int)<at_ then 0 else(bhd l [32,9] at_.toNat:Nat)))∧Fr nob w w':=by
 go_enter Tryz.func42,Tryz.ntmps42;go_wp2_with(go_at_call 67;refine(refBehind_any l at_ [32,9] w hs (by decide)).mono ?_;rintro e w' ⟨rfl,hf⟩)
 all_goals
  go_ret;exact⟨rfl,hf⟩
end Go.Proofs.YtgllcniibbaoaaaGreatDoor
