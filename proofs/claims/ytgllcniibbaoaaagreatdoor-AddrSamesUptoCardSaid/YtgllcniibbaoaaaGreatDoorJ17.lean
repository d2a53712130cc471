/- Lemmas of this claim. -/
import Derived.WalkMore
import Derived.Test.YtgllcniibbaoaaaGreatDoorJ03
import Derived.Test.YtgllcniibbaoaaaGreatDoorJ06
set_option linter.all false
set_option maxRecDepth 100000
set_option maxHeartbeats 24000000
namespace Go.Proofs.YtgllcniibbaoaaaGreatDoor
open Go.Proofs.Tryz
open Go.RowKit
open Go.Lib (hid)
def bhd(l cs:List UInt8)(k:Nat):Nat:=l.length-(tl (l.drop k) cs).length
theorem Zmv(m cs:List UInt8):(tl m cs).length≤m.length:=(List.dropWhile_sublist _).length_le
theorem Zip(cs:List UInt8)(h:∀b∈cs,b.toNat<128):∀(j:Nat) b,cs[j]? =some b→b.toNat<128:=fun _ _ hj=>h _ (List.mem_of_getElem? hj)
theorem behind_any(l:List UInt8)(at_:Int)(c d:UInt8)(cs:List UInt8)(w:World)(hs:l.length≤1000000)(hcs:cs.length≤1000)(ha:∀b∈c::d::cs,b.toNat<128):
 Calls prog 130 #[.string ⟨l.toArray⟩,.int .i64 at_,.string ⟨(c::d::cs).toArray⟩] w fun e w'=>
  e=.returned (.int .i64 (if at_<0∨(l.length:Int)<at_ then 0 else(bhd l (c::d::cs) at_.toNat:Nat)))∧Fr nob w w':=by
 have hT:=fun k w=>ZfG (l.drop k) c d cs w (by rw[List.length_drop];omega) hcs (Zip _ ha);obtain⟨CS,f⟩:∃CS,c::d::cs=CS:=⟨_,rfl⟩;rw[f]at hT⊢;clear f ha;by_cases ho:at_<0∨(l.length:Int)<at_
 ·have a:(decide (at_<0)||decide ((l.length:Int)<at_))=true:=by simpa using ho
  rw[if_pos ho];have HO:=hid a;clear a ho;go_enter func130,ntmps130;go_wp2_with(go_at_call 132;refine(over_any _ _ w (by omega)).mono ?_;rw[HO.out];rintro e w' ⟨rfl,rfl⟩);go_ret;exact⟨rfl,Fr.refl _ _⟩
 ·obtain⟨k,rfl⟩:∃k:Nat,at_=k:=⟨at_.toNat,by omega⟩;have hk:k≤l.length:=by omega
  have a:(decide ((k:Int)<0)||decide ((l.length:Int)<k))=false:=by simp;omega
  rw[if_neg ho];have HO:=hid a;clear a ho;have g:=Zmv (l.drop k) CS;rw[List.length_drop]at g;go_enter func130,ntmps130;go_wp2_with(first|(go_at_call 132;refine(over_any _ _ w (by omega)).mono ?_;rw[HO.out];rintro e w' ⟨rfl,rfl⟩)|(go_at_call 153;refine(hT k _).mono ?_;rintro e w' ⟨rfl,hf⟩));go_ret;exact⟨ZdT (by unfold bhd;simp;omega),hf⟩
theorem ZeK(l:List UInt8)(at_:Int)(w:World)(hs:l.length≤1000000):
 Calls prog 107 #[.string ⟨l.toArray⟩,.int .i64 at_] w fun e w'=>
  e=.returned (.int .i64 (if at_<0∨(l.length:Int)<at_ then 0 else(bhd l [32,9] at_.toNat:Nat)))∧Fr nob w w':=by
 go_enter func107,ntmps107;go_wp2_with(go_at_call 130;refine(behind_any l at_ 32 9 [] w hs (by decide) (by decide)).mono ?_;rintro e w' ⟨rfl,hf⟩)
 all_goals
  go_ret;exact⟨rfl,hf⟩
end Go.Proofs.YtgllcniibbaoaaaGreatDoor
