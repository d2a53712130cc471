/-
  Walks: octet.class, from a name to the predicate.
-/
import Derived.Test.YtmoiiidfhkfdgaaDoorOctetF
namespace Go.Proofs.YtmoiiidfhkfdgaaDoor
open Go.RowKit

/-- A call of the value f enters the function f. -/
def IsFn (f : FuncId) : Prop := ∀ (r : Int) (w : World), (callFunc f #[.int .i32 r]).run Tryd.prog w = .ok (.enter f #[.int .i32 r]) w

/-- A value that is the function of a predicate, or no function. -/
def Cls (v : Value) (o : Option (Int → Bool)) : Prop :=
  (v = .nilFunc ∧ o = none) ∨ ∃ f p, v = .func (.func f) #[] #[] ∧ o = some p ∧ IsFn f ∧ IsRune f p

/-- What class answers by the name. -/
def clsOf (s : ByteArray) : Option (Int → Bool) :=
  if s.toList == [108, 111, 119, 101, 114] then some isLower
  else if s.toList == [117, 112, 112, 101, 114] then some isUpper
  else if s.toList == [97, 108, 112, 104, 97] then some isAlpha
  else if s.toList == [100, 105, 103, 105, 116] then some isDigit
  else if s.toList == [97, 108, 110, 117, 109] then some isAlnum
  else if s.toList == [120, 100, 105, 103, 105, 116] then some isXdigit
  else if s.toList == [98, 108, 97, 110, 107] then some isBlank
  else if s.toList == [115, 112, 97, 99, 101] then some isSpace
  else if s.toList == [99, 110, 116, 114, 108] then some isCntrl
  else if s.toList == [112, 114, 105, 110, 116] then some isPrint
  else if s.toList == [103, 114, 97, 112, 104] then some isGraph
  else if s.toList == [112, 117, 110, 99, 116] then some isPunct
  else none

set_option maxRecDepth 100000 in
theorem class_any (s : ByteArray) (w : World) : Calls Tryd.prog 42 #[.string s] w fun e w' => ∃ v, e = .returned v ∧ Cls v (clsOf s) ∧ w = w' := by
  go_enter Tryd.func42, Tryd.ntmps42
  go_wp2
  · go_ret
    exact ⟨_, rfl, Or.inr ⟨_, _, rfl, (by simp only [clsOf, *]; rfl), (fun _ _ => rfl), rune_lower⟩, rfl⟩
  · go_ret
    exact ⟨_, rfl, Or.inr ⟨_, _, rfl, (by simp only [clsOf, *]; rfl), (fun _ _ => rfl), rune_upper⟩, rfl⟩
  · go_ret
    exact ⟨_, rfl, Or.inr ⟨_, _, rfl, (by simp only [clsOf, *]; rfl), (fun _ _ => rfl), rune_Alpha⟩, rfl⟩
  · go_ret
    exact ⟨_, rfl, Or.inr ⟨_, _, rfl, (by simp only [clsOf, *]; rfl), (fun _ _ => rfl), rune_digit⟩, rfl⟩
  · go_ret
    exact ⟨_, rfl, Or.inr ⟨_, _, rfl, (by simp only [clsOf, *]; rfl), (fun _ _ => rfl), rune_Alnum⟩, rfl⟩
  · go_ret
    exact ⟨_, rfl, Or.inr ⟨_, _, rfl, (by simp only [clsOf, *]; rfl), (fun _ _ => rfl), rune_Xdigit⟩, rfl⟩
  · go_ret
    exact ⟨_, rfl, Or.inr ⟨_, _, rfl, (by simp only [clsOf, *]; rfl), (fun _ _ => rfl), rune_blank⟩, rfl⟩
  · go_ret
    exact ⟨_, rfl, Or.inr ⟨_, _, rfl, (by simp only [clsOf, *]; rfl), (fun _ _ => rfl), rune_Space⟩, rfl⟩
  · go_ret
    exact ⟨_, rfl, Or.inr ⟨_, _, rfl, (by simp only [clsOf, *]; rfl), (fun _ _ => rfl), rune_Cntrl⟩, rfl⟩
  · go_ret
    exact ⟨_, rfl, Or.inr ⟨_, _, rfl, (by simp only [clsOf, *]; rfl), (fun _ _ => rfl), rune_Print⟩, rfl⟩
  · go_ret
    exact ⟨_, rfl, Or.inr ⟨_, _, rfl, (by simp only [clsOf, *]; rfl), (fun _ _ => rfl), rune_graph⟩, rfl⟩
  · go_ret
    exact ⟨_, rfl, Or.inr ⟨_, _, rfl, (by simp only [clsOf, *]; rfl), (fun _ _ => rfl), rune_Punct⟩, rfl⟩
  · go_ret
    exact ⟨_, rfl, Or.inl ⟨rfl, (by simp only [clsOf, *]; rfl)⟩, rfl⟩

end Go.Proofs.YtmoiiidfhkfdgaaDoor
