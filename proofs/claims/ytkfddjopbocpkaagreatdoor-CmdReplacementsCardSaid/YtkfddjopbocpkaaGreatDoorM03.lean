/-
  Merged texts of this claim: OctetF, OctetG, OctetH, OctetI, SetLaw, Least, Bld, OctetS, EreM, Cell8, BldByte, BldStr, Builder.
-/
import Derived.Laws.Bits64b
import Derived.Lib.TrailingZeros
import Derived.Test.YtkfddjopbocpkaaGreatDoorChecked
import Derived.WalkKit
import Derived.Laws.Externs
import Derived.Laws.IdiomCopy
import Derived.Shelf.Lays
import Derived.Shelf.RegionOpenPlain
import Derived.Lib.UnsafeStr
import Derived.StillTailTactics
import Derived.MapKept
import Derived.Test.YtkfddjopbocpkaaGreatDoorM01

set_option linter.unusedVariables false
set_option linter.unusedSimpArgs false
/-
  Walks: the predicates of the classes.
-/
namespace Go.Proofs.YtkfddjopbocpkaaGreatDoor
open Go.RowKit

def IsRune (f : FuncId) (p : Int → Bool) : Prop := ∀ (r : Int) (w : World), Calls Tryz.prog f #[.int .i32 r] w fun e w' => e = .returned (.bool (p r)) ∧ w = w'

def btw (r a b : Int) : Bool := decide (a ≤ r) && decide (r ≤ b)

set_option maxRecDepth 100000 in
theorem between_any (r a b : Int) (w : World) : Calls Tryz.prog 241 #[.int .i32 r, .int .i32 a, .int .i32 b] w fun e w' => e = .returned (.bool (btw r a b)) ∧ w = w' := by
  by_cases h1 : a ≤ r
  · by_cases h2 : r ≤ b
    · have HB := Lib.hid (show btw r a b = true by simp [btw, h1, h2])
      go_enter Tryz.func241, Tryz.ntmps241
      go_wp2
      go_ret
      exact ⟨ret_bool (by rw [HB.out]), rfl⟩
    · have HB := Lib.hid (show btw r a b = false by simp [btw, h2])
      go_enter Tryz.func241, Tryz.ntmps241
      go_wp2
      go_ret
      exact ⟨ret_bool (by rw [HB.out]), rfl⟩
  · have HB := Lib.hid (show btw r a b = false by simp [btw, h1])
    go_enter Tryz.func241, Tryz.ntmps241
    go_wp2
    go_ret
    exact ⟨ret_bool HB.out.symm, rfl⟩

def isLower (r : Int) : Bool := btw r 97 122
def isUpper (r : Int) : Bool := btw r 65 90
def isDigit (r : Int) : Bool := btw r 48 57
def isAlpha (r : Int) : Bool := isLower r || isUpper r
def isAlnum (r : Int) : Bool := isAlpha r || isDigit r
def isBlank (r : Int) : Bool := decide (r = 32) || decide (r = 9)
def isGraph (r : Int) : Bool := btw r 33 126
def isXdigit (r : Int) : Bool := isDigit r || btw r 65 70 || btw r 97 102
def isSpace (r : Int) : Bool := isBlank r || btw r 10 13
def isCntrl (r : Int) : Bool := decide (r < 32) || decide (r = 127)
def isPrint (r : Int) : Bool := decide (r = 32) || isGraph r
def isPunct (r : Int) : Bool := isGraph r && !isAlnum r

set_option maxRecDepth 100000 in
theorem rune_lower : IsRune 235 isLower := by
  intro r w
  go_enter Tryz.func235, Tryz.ntmps235
  go_wp2_with fail
  refine (between_any r 97 122 w).mono ?_
  rintro e w1 ⟨rfl, rfl⟩
  go_wp2
  go_ret
  exact ⟨rfl, rfl⟩
set_option maxRecDepth 100000 in
theorem rune_upper : IsRune 236 isUpper := by
  intro r w
  go_enter Tryz.func236, Tryz.ntmps236
  go_wp2_with fail
  refine (between_any r 65 90 w).mono ?_
  rintro e w1 ⟨rfl, rfl⟩
  go_wp2
  go_ret
  exact ⟨rfl, rfl⟩
set_option maxRecDepth 100000 in
theorem rune_digit : IsRune 238 isDigit := by
  intro r w
  go_enter Tryz.func238, Tryz.ntmps238
  go_wp2_with fail
  refine (between_any r 48 57 w).mono ?_
  rintro e w1 ⟨rfl, rfl⟩
  go_wp2
  go_ret
  exact ⟨rfl, rfl⟩
set_option maxRecDepth 100000 in
theorem rune_graph : IsRune 246 isGraph := by
  intro r w
  go_enter Tryz.func246, Tryz.ntmps246
  go_wp2_with fail
  refine (between_any r 33 126 w).mono ?_
  rintro e w1 ⟨rfl, rfl⟩
  go_wp2
  go_ret
  exact ⟨rfl, rfl⟩
set_option maxRecDepth 100000 in
theorem rune_Alpha : IsRune 237 isAlpha := by
  intro r w
  obtain ⟨v, hv⟩ : ∃ v, isAlpha r = v := ⟨_, rfl⟩
  rw [hv]
  have HV := Lib.hid hv; clear hv
  obtain ⟨p0, hp0⟩ : ∃ p, isLower r = p := ⟨_, rfl⟩
  have HP0 := Lib.hid hp0; clear hp0
  obtain ⟨p1, hp1⟩ : ∃ p, isUpper r = p := ⟨_, rfl⟩
  have HP1 := Lib.hid hp1; clear hp1
  have HE := Lib.hid (show v = (p0 || p1) by rw [← HV.out]; unfold isAlpha; rw [HP0.out, HP1.out])
  go_enter Tryz.func237, Tryz.ntmps237
  go_wp2_with fail
  refine (rune_lower r w).mono ?_
  rw [HP0.out]
  rintro e w1 ⟨rfl, rfl⟩
  cases p0 with
  | true =>
    go_wp2
    go_ret
    exact ⟨ret_bool (by rw [HE.out]; simp), rfl⟩
  | false =>
    go_wp2_with fail
    refine (rune_upper r w).mono ?_
    rw [HP1.out]
    rintro e w2 ⟨rfl, rfl⟩
    go_wp2
    go_ret
    exact ⟨ret_bool (by rw [HE.out]; simp), rfl⟩
set_option maxRecDepth 100000 in
theorem rune_Alnum : IsRune 239 isAlnum := by
  intro r w
  obtain ⟨v, hv⟩ : ∃ v, isAlnum r = v := ⟨_, rfl⟩
  rw [hv]
  have HV := Lib.hid hv; clear hv
  obtain ⟨p0, hp0⟩ : ∃ p, isAlpha r = p := ⟨_, rfl⟩
  have HP0 := Lib.hid hp0; clear hp0
  obtain ⟨p1, hp1⟩ : ∃ p, isDigit r = p := ⟨_, rfl⟩
  have HP1 := Lib.hid hp1; clear hp1
  have HE := Lib.hid (show v = (p0 || p1) by rw [← HV.out]; unfold isAlnum; rw [HP0.out, HP1.out])
  go_enter Tryz.func239, Tryz.ntmps239
  go_wp2_with fail
  refine (rune_Alpha r w).mono ?_
  rw [HP0.out]
  rintro e w1 ⟨rfl, rfl⟩
  cases p0 with
  | true =>
    go_wp2
    go_ret
    exact ⟨ret_bool (by rw [HE.out]; simp), rfl⟩
  | false =>
    go_wp2_with fail
    refine (rune_digit r w).mono ?_
    rw [HP1.out]
    rintro e w2 ⟨rfl, rfl⟩
    go_wp2
    go_ret
    exact ⟨ret_bool (by rw [HE.out]; simp), rfl⟩
set_option maxRecDepth 100000 in
theorem rune_Xdigit : IsRune 240 isXdigit := by
  intro r w
  obtain ⟨v, hv⟩ : ∃ v, isXdigit r = v := ⟨_, rfl⟩
  rw [hv]
  have HV := Lib.hid hv; clear hv
  obtain ⟨p0, hp0⟩ : ∃ p, isDigit r = p := ⟨_, rfl⟩
  have HP0 := Lib.hid hp0; clear hp0
  obtain ⟨p1, hp1⟩ : ∃ p, btw r 65 70 = p := ⟨_, rfl⟩
  have HP1 := Lib.hid hp1; clear hp1
  obtain ⟨p2, hp2⟩ : ∃ p, btw r 97 102 = p := ⟨_, rfl⟩
  have HP2 := Lib.hid hp2; clear hp2
  have HE := Lib.hid (show v = (p0 || p1 || p2) by rw [← HV.out]; unfold isXdigit; rw [HP0.out, HP1.out, HP2.out])
  go_enter Tryz.func240, Tryz.ntmps240
  go_wp2_with fail
  refine (rune_digit r w).mono ?_
  rw [HP0.out]
  rintro e w1 ⟨rfl, rfl⟩
  cases p0 with
  | true =>
    go_wp2
    go_ret
    exact ⟨ret_bool (by rw [HE.out]; simp), rfl⟩
  | false =>
    go_wp2_with fail
    refine (between_any r 65 70 w).mono ?_
    rw [HP1.out]
    rintro e w2 ⟨rfl, rfl⟩
    cases p1 with
    | true =>
      go_wp2
      go_ret
      exact ⟨ret_bool (by rw [HE.out]; simp), rfl⟩
    | false =>
      go_wp2_with fail
      refine (between_any r 97 102 w).mono ?_
      rw [HP2.out]
      rintro e w3 ⟨rfl, rfl⟩
      go_wp2
      go_ret
      exact ⟨ret_bool (by rw [HE.out]; simp), rfl⟩
set_option maxRecDepth 100000 in
theorem rune_blank : IsRune 242 isBlank := by
  intro r w
  by_cases h1 : r = 32
  · have HE := Lib.hid (show isBlank r = true by simp [isBlank, h1])
    subst h1
    go_enter Tryz.func242, Tryz.ntmps242
    go_wp2
    go_ret
    exact ⟨ret_bool HE.out.symm, rfl⟩
  · have h2 : (r == 32) = false := by simpa using h1
    have HE := Lib.hid (show isBlank r = (r == 9) by rw [Bool.eq_iff_iff]; simp [isBlank, h1])
    clear h1
    go_enter Tryz.func242, Tryz.ntmps242
    go_wp2
    go_ret
    exact ⟨ret_bool HE.out.symm, rfl⟩
set_option maxRecDepth 100000 in
theorem rune_Space : IsRune 243 isSpace := by
  intro r w
  obtain ⟨v, hv⟩ : ∃ v, isSpace r = v := ⟨_, rfl⟩
  rw [hv]
  have HV := Lib.hid hv; clear hv
  obtain ⟨p0, hp0⟩ : ∃ p, isBlank r = p := ⟨_, rfl⟩
  have HP0 := Lib.hid hp0; clear hp0
  obtain ⟨p1, hp1⟩ : ∃ p, btw r 10 13 = p := ⟨_, rfl⟩
  have HP1 := Lib.hid hp1; clear hp1
  have HE := Lib.hid (show v = (p0 || p1) by rw [← HV.out]; unfold isSpace; rw [HP0.out, HP1.out])
  go_enter Tryz.func243, Tryz.ntmps243
  go_wp2_with fail
  refine (rune_blank r w).mono ?_
  rw [HP0.out]
  rintro e w1 ⟨rfl, rfl⟩
  cases p0 with
  | true =>
    go_wp2
    go_ret
    exact ⟨ret_bool (by rw [HE.out]; simp), rfl⟩
  | false =>
    go_wp2_with fail
    refine (between_any r 10 13 w).mono ?_
    rw [HP1.out]
    rintro e w2 ⟨rfl, rfl⟩
    go_wp2
    go_ret
    exact ⟨ret_bool (by rw [HE.out]; simp), rfl⟩
set_option maxRecDepth 100000 in
theorem rune_Cntrl : IsRune 244 isCntrl := by
  intro r w
  by_cases h1 : r < 32
  · have HE := Lib.hid (show isCntrl r = true by simp [isCntrl, h1])
    go_enter Tryz.func244, Tryz.ntmps244
    go_wp2
    go_ret
    exact ⟨ret_bool HE.out.symm, rfl⟩
  · have HE := Lib.hid (show isCntrl r = (r == 127) by rw [Bool.eq_iff_iff]; simp [isCntrl, h1])
    go_enter Tryz.func244, Tryz.ntmps244
    go_wp2
    go_ret
    exact ⟨ret_bool HE.out.symm, rfl⟩
set_option maxRecDepth 100000 in
theorem rune_Print : IsRune 245 isPrint := by
  intro r w
  by_cases h1 : r = 32
  · have HE := Lib.hid (show isPrint r = true by simp [isPrint, h1])
    subst h1
    go_enter Tryz.func245, Tryz.ntmps245
    go_wp2
    go_ret
    exact ⟨ret_bool HE.out.symm, rfl⟩
  · have h2 : (r == 32) = false := by simpa using h1
    have HE := Lib.hid (show isPrint r = isGraph r by simp [isPrint, h1])
    clear h1
    go_enter Tryz.func245, Tryz.ntmps245
    go_wp2_with fail
    refine (rune_graph r w).mono ?_
    rintro e w1 ⟨rfl, rfl⟩
    go_wp2
    go_ret
    exact ⟨ret_bool HE.out.symm, rfl⟩
set_option maxRecDepth 100000 in
theorem rune_Punct : IsRune 247 isPunct := by
  intro r w
  obtain ⟨p, hp⟩ : ∃ p, isGraph r = p := ⟨_, rfl⟩
  obtain ⟨q, hq⟩ : ∃ q, isAlnum r = q := ⟨_, rfl⟩
  have HE := Lib.hid (show isPunct r = (p && !q) by unfold isPunct; rw [hp, hq])
  have HP := Lib.hid hp; have HQ := Lib.hid hq; clear hp hq
  go_enter Tryz.func247, Tryz.ntmps247
  go_wp2_with fail
  refine (rune_graph r w).mono ?_
  rw [HP.out]
  rintro e w1 ⟨rfl, rfl⟩
  cases p with
  | false =>
    go_wp2
    go_ret
    exact ⟨ret_bool (by rw [HE.out]; rfl), rfl⟩
  | true =>
    go_wp2_with fail
    refine (rune_Alnum r w).mono ?_
    rw [HQ.out]
    rintro e w1 ⟨rfl, rfl⟩
    go_wp2
    go_ret
    exact ⟨ret_bool (by rw [HE.out]; simp), rfl⟩

end Go.Proofs.YtkfddjopbocpkaaGreatDoor

/-
  Walks: octet.class, from a name to the predicate.
-/
namespace Go.Proofs.YtkfddjopbocpkaaGreatDoor
open Go.RowKit

def IsFn (f : FuncId) : Prop := ∀ (r : Int) (w : World), (callFunc f #[.int .i32 r]).run Tryz.prog w = .ok (.enter f #[.int .i32 r]) w

def Cls (v : Value) (o : Option (Int → Bool)) : Prop :=
  (v = .nilFunc ∧ o = none) ∨ ∃ f p, v = .func (.func f) #[] #[] ∧ o = some p ∧ IsFn f ∧ IsRune f p

def clsOf (s : ByteArray) : Option (Int → Bool) :=
  if s.toList == [108, 111, 119, 101, 114] then some isLower
  else if s.toList == [117, 112, 112, 101, 114] then some isUpper
  else if s.toList == [97, 108, 112, 104, 97] then some isAlpha
  else if s.toList == [100, 105, 103, 105, 116] then some isDigit
  else if s.toList == [97, 108, 110, 117, 109] then some isAlnum
  else if s.toList == [120, 100, 105, 103, 105, 116] then some isXdigit
  else if s.toList == [98, 108, 97, 110, 107] then some isBlank
  else if s.toList == [115, 112, 97, 99, 101] then some isSpace
  else if s.toList == [99, 110, 116, 114, 108] then some isCntrl
  else if s.toList == [112, 114, 105, 110, 116] then some isPrint
  else if s.toList == [103, 114, 97, 112, 104] then some isGraph
  else if s.toList == [112, 117, 110, 99, 116] then some isPunct
  else none

set_option maxRecDepth 100000 in
theorem class_any (s : ByteArray) (w : World) : Calls Tryz.prog 220 #[.string s] w fun e w' => ∃ v, e = .returned v ∧ Cls v (clsOf s) ∧ w = w' := by
  go_enter Tryz.func220, Tryz.ntmps220
  go_wp2
  · go_ret
    exact ⟨_, rfl, Or.inr ⟨_, _, rfl, (by simp only [clsOf, *]; rfl), (fun _ _ => rfl), rune_lower⟩, rfl⟩
  · go_ret
    exact ⟨_, rfl, Or.inr ⟨_, _, rfl, (by simp only [clsOf, *]; rfl), (fun _ _ => rfl), rune_upper⟩, rfl⟩
  · go_ret
    exact ⟨_, rfl, Or.inr ⟨_, _, rfl, (by simp only [clsOf, *]; rfl), (fun _ _ => rfl), rune_Alpha⟩, rfl⟩
  · go_ret
    exact ⟨_, rfl, Or.inr ⟨_, _, rfl, (by simp only [clsOf, *]; rfl), (fun _ _ => rfl), rune_digit⟩, rfl⟩
  · go_ret
    exact ⟨_, rfl, Or.inr ⟨_, _, rfl, (by simp only [clsOf, *]; rfl), (fun _ _ => rfl), rune_Alnum⟩, rfl⟩
  · go_ret
    exact ⟨_, rfl, Or.inr ⟨_, _, rfl, (by simp only [clsOf, *]; rfl), (fun _ _ => rfl), rune_Xdigit⟩, rfl⟩
  · go_ret
    exact ⟨_, rfl, Or.inr ⟨_, _, rfl, (by simp only [clsOf, *]; rfl), (fun _ _ => rfl), rune_blank⟩, rfl⟩
  · go_ret
    exact ⟨_, rfl, Or.inr ⟨_, _, rfl, (by simp only [clsOf, *]; rfl), (fun _ _ => rfl), rune_Space⟩, rfl⟩
  · go_ret
    exact ⟨_, rfl, Or.inr ⟨_, _, rfl, (by simp only [clsOf, *]; rfl), (fun _ _ => rfl), rune_Cntrl⟩, rfl⟩
  · go_ret
    exact ⟨_, rfl, Or.inr ⟨_, _, rfl, (by simp only [clsOf, *]; rfl), (fun _ _ => rfl), rune_Print⟩, rfl⟩
  · go_ret
    exact ⟨_, rfl, Or.inr ⟨_, _, rfl, (by simp only [clsOf, *]; rfl), (fun _ _ => rfl), rune_graph⟩, rfl⟩
  · go_ret
    exact ⟨_, rfl, Or.inr ⟨_, _, rfl, (by simp only [clsOf, *]; rfl), (fun _ _ => rfl), rune_Punct⟩, rfl⟩
  · go_ret
    exact ⟨_, rfl, Or.inl ⟨rfl, (by simp only [clsOf, *]; rfl)⟩, rfl⟩

end Go.Proofs.YtkfddjopbocpkaaGreatDoor

/-
  Walks: pick, the set of the signs that a predicate takes.
-/
namespace Go.Proofs.YtkfddjopbocpkaaGreatDoor
open Go.RowKit

def pk (p : Int → Bool) : Nat → S4
  | 0 => S4.zero
  | k + 1 => if p k then (pk p k).put k else pk p k

set_option maxRecDepth 100000 in
set_option maxHeartbeats 1000000 in
theorem pick_any (f : FuncId) (p : Int → Bool) (w : World) (hn : IsFn f) (hf : IsRune f p) :
    Calls Tryz.prog 221 #[.func (.func f) #[] #[]] w fun e w' => e = .returned (.agg (pk p 256).cells.toArray) ∧ Fr nob w w' := by
  go_enter Tryz.func221, Tryz.ntmps221
  go_wp2_with fail
  obtain ⟨w0, hw0⟩ : ∃ w0, w0 = ((w.alloc (.cells S4.zero.cells.toArray 132)).alloc (.cells S4.zero.cells.toArray 132)) := ⟨_, rfl⟩
  have f0 : Fr nob w w0 := by rw [hw0]; exact ((Fr.refl _ _).alloc _).alloc _
  have hr0 : w0.heap[w.heap.size]? = some (.cells S4.zero.cells.toArray 132 (0, 0)) := by rw [hw0]; exact heap_alloc_lt _ (heap_alloc_new _ _)
  have hb0 : w0.heap[w.heap.size + 1]? = some (.cells S4.zero.cells.toArray 132 (0, 0)) := by
    rw [hw0]; have := heap_alloc_new (w.alloc (.cells S4.zero.cells.toArray 132)) (.cells S4.zero.cells.toArray 132); simpa using this
  change Code.wp _ _ _ _ ((w.alloc (.cells S4.zero.cells.toArray 132)).alloc (.cells S4.zero.cells.toArray 132))
  rw [← hw0]
  have F0 := Lib.hid f0; have HR0 := Lib.hid hr0; have HB0 := Lib.hid hb0; clear f0 hr0 hb0 hw0
  go_loopw [5] (fun i wr => ∃ k : Nat, i = .int .i32 k ∧ k ≤ 256 ∧ wr.heap[w.heap.size + 1]? = some (.cells (pk p k).cells.toArray 132 (0, 0)) ∧ Fr (fun k => k = w.heap.size + 1) w0 wr) (fun i _ => 256 - (intOf i).toNat)
  case atStart => exact ⟨0, rfl, Nat.zero_le _, HB0.out, Fr.refl _ _⟩
  case round =>
    obtain ⟨k, rfl, hk, hb, fr⟩ := hrel
    have HB := Lib.hid hb; have FR := Lib.hid fr; clear hb fr
    have FW := Lib.hid (F0.out.trans FR.out (fun i hi x => by omega))
    by_cases hlt : k < 256
    · cases hp : p k with
      | true =>
        have hpt := Lib.hid (show pk p (k + 1) = (pk p k).put k by simp [pk, hp])
        have HP := Lib.hid hp; clear hp
        go_wp2_with fail
        rw [hn]
        refine (hf k _).mono ?_
        rw [HP.out]
        rintro e w3 ⟨rfl, rfl⟩
        go_wp2_with fail
        refine (add_any (w.heap.size + 1) _ k _ hlt HB.out).mono ?_
        rintro e w3 ⟨rfl, h3, f3⟩
        have H3 := Lib.hid h3; have F3 := Lib.hid f3; clear h3 f3
        go_wp2
        go_roundw
        case rel => exact ⟨k + 1, by go_num, by omega, by rw [hpt.out]; exact H3.out, FR.out.trans' F3.out⟩
        case measure => simp [intOf]; omega
      | false =>
        have hpt := Lib.hid (show pk p (k + 1) = pk p k by simp [pk, hp])
        have HP := Lib.hid hp; clear hp
        go_wp2_with fail
        rw [hn]
        refine (hf k _).mono ?_
        rw [HP.out]
        rintro e w3 ⟨rfl, rfl⟩
        go_wp2
        go_roundw
        case rel => exact ⟨k + 1, by go_num, by omega, by rw [hpt.out]; exact HB.out, FR.out⟩
        case measure => simp [intOf]; omega
    · obtain rfl : k = 256 := by omega
      have hb := HB.out
      obtain ⟨c0, c1, c2, c3, _⟩ := cellS hb
      have hr := FR.out.heap HR0.out (fun e => by omega)
      obtain ⟨_, _, _, _, f0, f1, f2, f3⟩ := cellS hr
      have hlr := lt_heap hr; have hlb := lt_heap hb
      have HBB := Lib.hid hb; have HRR := Lib.hid hr; clear hb hr
      go_wp2
      (try simp only [Exit.inBlock, Exit.then])
      have hW := heap_setCell_at (heap_setCell_at (heap_setCell_at (heap_setCell_at HRR.out 0 (.int .u64 (pk p 256).a)) 1 (.int .u64 (pk p 256).b)) 2 (.int .u64 (pk p 256).c)) 3 (.int .u64 (pk p 256).d)
      refine bodyPost_ret (results_set (s := pk p 256) rfl rfl hW) rfl ⟨rfl, ?_⟩
      exact (((FW.out.setCell (p := ⟨w.heap.size, 0, none⟩) (fun h => absurd h (Nat.lt_irrefl _)) _).setCell (p := ⟨w.heap.size, 1, none⟩) (fun h => absurd h (Nat.lt_irrefl _)) _).setCell (p := ⟨w.heap.size, 2, none⟩) (fun h => absurd h (Nat.lt_irrefl _)) _).setCell (p := ⟨w.heap.size, 3, none⟩) (fun h => absurd h (Nat.lt_irrefl _)) _

end Go.Proofs.YtkfddjopbocpkaaGreatDoor

/-
  Walks: octet.Class; Span of both sides.
-/
namespace Go.Proofs.YtkfddjopbocpkaaGreatDoor
open Go.RowKit

def clsSet (o : Option (Int → Bool)) : S4 := match o with
  | none => S4.zero
  | some p => pk p 256

theorem eq_nilfn_nil (w : World) : (binOp .eql 264 .nilFunc .nilFunc).run Tryz.prog w = .ok (.bool true) w := by kernel_rfl
theorem eq_nilfn (f : FuncId) (w : World) : (binOp .eql 264 (.func (.func f) #[] #[]) .nilFunc).run Tryz.prog w = .ok (.bool false) w := by kernel_rfl

theorem results_setB {fn : Func} {p q : Tmp} (h : fn.results = #[.cell p 132, .tmp q]) {tmps : Array Value} {r : Nat} (ht : tmps.getD p undef = .pointer (some ⟨r, 0, none⟩)) {v : Value} (hq : tmps.getD q undef = v) {W : World} {s : S4}
    (hb : W.heap[r]? = some (.cells s.cells.toArray 132 (0, 0))) : (results fn tmps).run Tryz.prog W = .ok (.tuple #[.agg s.cells.toArray, v]) W := by
  obtain ⟨c0, c1, c2, c3, _⟩ := cellS hb
  have ht' : tmps[p]?.getD undef = .pointer (some ⟨r, 0, none⟩) := by rw [← ht]; simp
  have hq' : tmps[q]?.getD undef = v := by rw [← hq]; simp
  simp only [results, h]
  simp [ht', hq', go_sem, c0, c1, c2, c3, S4.cells]

set_option maxRecDepth 100000 in
theorem octClass_any (s : ByteArray) (w : World) : Calls Tryz.prog 209 #[.string s] w fun e w' => e = .returned (.tuple #[.agg (clsSet (clsOf s)).cells.toArray, .bool (clsOf s).isSome]) ∧ Fr nob w w' := by
  obtain ⟨o, ho⟩ : ∃ o, clsOf s = o := ⟨_, rfl⟩
  rw [ho]
  have HO := Lib.hid ho; clear ho
  have q0 := eq_nilfn_nil; have q1 := eq_nilfn
  go_enter Tryz.func209, Tryz.ntmps209
  go_wp2_with fail
  refine (class_any s _).mono ?_
  rw [HO.out]
  rintro e w1 ⟨v, rfl, hc, rfl⟩
  rcases hc with ⟨rfl, rfl⟩ | ⟨f, p, rfl, rfl, hn, hf⟩
  · go_wp2
    (try simp only [Exit.inBlock, Exit.then])
    exact bodyPost_ret (results_setB (s := S4.zero) rfl rfl rfl (heap_alloc_new' _ _ _ (by simp))) rfl ⟨rfl, (Fr.refl _ _).alloc _⟩
  · go_wp2_with fail
    refine (pick_any f p _ hn hf).mono ?_
    rintro e w1 ⟨he, h1⟩
    rw [S4.cells_eq] at he; subst he
    have hb := h1.heap (heap_alloc_new w (.cells S4.zero.cells.toArray 132)) (fun x => x)
    obtain ⟨c0, c1, c2, c3, f0, f1, f2, f3⟩ := cellS hb
    have HB := Lib.hid hb
    have F1 := Lib.hid h1; clear h1 hb
    go_wp2
    (try simp only [Exit.inBlock, Exit.then])
    exact bodyPost_ret (results_setB (s := pk p 256) rfl rfl rfl (setFour_heap HB.out _ _ _ _)) rfl ⟨rfl, setFour_fr (((Fr.refl _ _).alloc _).trans' F1.out) (Nat.le_refl _) _ _ _ _⟩

def spanTo (a : Nat) : Nat → S4
  | 0 => S4.zero
  | n + 1 => (spanTo a n).put (a + n)
def spn (a b : Nat) : S4 := spanTo a (b + 1 - a)

end Go.Proofs.YtkfddjopbocpkaaGreatDoor

/-
  Sets of bytes: what is in them. Plain: no walk.
-/
namespace Go.Proofs.YtkfddjopbocpkaaGreatDoor
open Go.RowKit

theorem has_zero (d : Nat) : S4.zero.has d = false := by
  unfold S4.has S4.word S4.zero
  have : wd 0 = 0#64 := by decide
  split <;> rw [this] <;> simp

theorem fit_or (s t : S4) : (s.or t).fit := ⟨fit_bits .or s.a t.a, fit_bits .or s.b t.b, fit_bits .or s.c t.c, fit_bits .or s.d t.d⟩
theorem fit_not (s : S4) : s.not.fit := ⟨fit_bits .xor _ s.a, fit_bits .xor _ s.b, fit_bits .xor _ s.c, fit_bits .xor _ s.d⟩
theorem fit_0 : Fit 0 := ⟨by decide, by decide⟩
theorem fit_zero : S4.zero.fit := ⟨fit_0, fit_0, fit_0, fit_0⟩
theorem fit_orw (x : Int) (n : Nat) : Fit (orw x n) := fit_bits .or x _
theorem fit_put {s : S4} (h : s.fit) (d : Nat) : (s.put d).fit := by
  unfold S4.put
  split
  · exact ⟨fit_orw _ _, h.2.1, h.2.2.1, h.2.2.2⟩
  · exact ⟨h.1, fit_orw _ _, h.2.2.1, h.2.2.2⟩
  · exact ⟨h.1, h.2.1, fit_orw _ _, h.2.2.2⟩
  · exact ⟨h.1, h.2.1, h.2.2.1, fit_orw _ _⟩
theorem fit_puts (l : List UInt8) : ∀ {s : S4}, s.fit → (s.puts l).fit := by
  induction l with
  | nil => intro s h; exact h
  | cons c r ih => intro s h; exact ih (fit_put h _)
theorem fit_spanTo (a : Nat) : ∀ n, (spanTo a n).fit
  | 0 => fit_zero
  | n + 1 => fit_put (fit_spanTo a n) _
theorem fit_spn (a b : Nat) : (spn a b).fit := fit_spanTo _ _
theorem fit_pk (p : Int → Bool) : ∀ n, (pk p n).fit
  | 0 => fit_zero
  | n + 1 => by unfold pk; split; exact fit_put (fit_pk p n) _; exact fit_pk p n
theorem fit_clsSet (o : Option (Int → Bool)) : (clsSet o).fit := by
  unfold clsSet; split; exact fit_zero; exact fit_pk _ _

theorem S4.ext_has {s t : S4} (hs : s.fit) (ht : t.fit) (h : ∀ d, d < 256 → s.has d = t.has d) : s = t := by
  have e : ∀ q, q < 4 → wd (s.word (64 * q)) = wd (t.word (64 * q)) := by
    intro q hq
    apply BitVec.eq_of_getLsbD_eq
    intro i hi
    have := h (64 * q + i) (by omega)
    unfold S4.has at this
    have w1 : ∀ u : S4, u.word (64 * q + i) = u.word (64 * q) := fun u => by
      unfold S4.word; rw [show (64 * q + i) / 64 = 64 * q / 64 by omega]
    rw [w1, w1, show (64 * q + i) % 64 = i by omega] at this
    exact this
  obtain ⟨a, b, c, d⟩ := s
  obtain ⟨a', b', c', d'⟩ := t
  have h0 := wd_inj hs.1 ht.1 (e 0 (by decide))
  have h1 := wd_inj hs.2.1 ht.2.1 (e 1 (by decide))
  have h2 := wd_inj hs.2.2.1 ht.2.2.1 (e 2 (by decide))
  have h3 := wd_inj hs.2.2.2 ht.2.2.2 (e 3 (by decide))
  subst h0; subst h1; subst h2; subst h3; rfl

theorem wd_pow : ∀ n : Fin 64, wd (IntKind.u64.wrap (2 ^ n.val)) = BitVec.twoPow 64 n.val := by decide +kernel
theorem wd_orw (x : Int) {n : Nat} (h : n < 64) : wd (orw x n) = wd x ||| BitVec.twoPow 64 n := by
  unfold orw; rw [wd_or, wd_pow ⟨n, h⟩]
theorem word_put (s : S4) (d e : Nat) (hd : d < 256) (he : e < 256) : wd ((s.put d).word e) = if d / 64 = e / 64 then wd (s.word e) ||| BitVec.twoPow 64 (d % 64) else wd (s.word e) := by
  have hm : d % 64 < 64 := Nat.mod_lt _ (by decide)
  have hq : d / 64 = 0 ∨ d / 64 = 1 ∨ d / 64 = 2 ∨ d / 64 = 3 := by omega
  have hr : e / 64 = 0 ∨ e / 64 = 1 ∨ e / 64 = 2 ∨ e / 64 = 3 := by omega
  unfold S4.put S4.word
  rcases hq with hq | hq | hq | hq <;> rcases hr with hr | hr | hr | hr <;> simp [hq, hr, wd_orw, hm]
theorem has_put (s : S4) (d e : Nat) (hd : d < 256) (he : e < 256) : (s.put d).has e = (decide (d = e) || s.has e) := by
  unfold S4.has
  rw [word_put s d e hd he]
  split
  · next h =>
    rw [BitVec.getLsbD_or, BitVec.getLsbD_twoPow, Bool.or_comm]
    congr 1
    have : d % 64 < 64 := Nat.mod_lt _ (by decide)
    simp only [this, decide_true, Bool.true_and]
    rw [decide_eq_decide]
    omega
  · next h =>
    have : d ≠ e := fun x => h (by rw [x])
    simp [this]
theorem has_puts (l : List UInt8) (e : Nat) (he : e < 256) : ∀ s : S4, (s.puts l).has e = (l.any (fun c => decide (c.toNat = e)) || s.has e) := by
  induction l with
  | nil => intro s; simp [S4.puts]
  | cons c r ih =>
    intro s
    rw [S4.puts, ih, has_put _ _ _ c.toNat_lt he, List.any_cons]
    cases decide (c.toNat = e) <;> cases r.any (fun c => decide (c.toNat = e)) <;> simp
theorem has_spanTo (a e : Nat) (he : e < 256) : ∀ n, a + n ≤ 256 → (spanTo a n).has e = (decide (a ≤ e) && decide (e < a + n)) := by
  intro n
  induction n with
  | zero => intro _; rw [spanTo, has_zero]; simp <;> omega
  | succ n ih =>
    intro h
    rw [spanTo, has_put _ _ _ (by omega) he, ih (by omega)]
    rw [Bool.eq_iff_iff]; simp; omega
theorem has_spn (a b e : Nat) (ha : a < 256) (hb : b < 256) (he : e < 256) : (spn a b).has e = (decide (a ≤ e) && decide (e ≤ b)) := by
  unfold spn
  rcases Nat.lt_or_ge b a with h | h
  · rw [show b + 1 - a = 0 by omega]; rw [spanTo, has_zero]; simp <;> omega
  · rw [has_spanTo _ _ he _ (by omega)]; rw [Bool.eq_iff_iff]; simp; omega

end Go.Proofs.YtkfddjopbocpkaaGreatDoor

/-
  Walks: TrailingZeros64 (its table as start-up lays it), Least.
-/
namespace Go.Proofs.YtkfddjopbocpkaaGreatDoor
open Go.RowKit

def Tab (w : World) : Prop := ∀ j, j < 64 → w.cell? ⟨3, j, none⟩ = some (.int .u8 (Lib.deBruijn64tab.getD j 0 : Nat))
theorem Tab.on {w w' : World} (h : Tab w) (f : Fr nob w w') : Tab w' := fun j hj => f.cell (h j hj) (fun x => x)

theorem Tab.on2 {w w' : World} {S : Nat → Prop} (h : Tab w) (f : Fr S w w') (hn : ¬ S 3) : Tab w' := fun j hj => f.cell (h j hj) hn
theorem Tab.lt {w : World} (h : Tab w) : 3 < w.heap.size := World.block_lt_of_cell? w _ (h 0 (by decide))
theorem tz_key (x a : Nat) (hx : x < 18446744073709551616) (hx0 : x ≠ 0) (hlow : x &&& (18446744073709551616 - x) = a) :
    IntKind.u64.wrap (bits .and .u64 (x : Int) (IntKind.u64.wrap (-(x : Int))) * 285870213051353865) / 288230376151711744 = ((a * 285870213051353865 % 18446744073709551616 / 288230376151711744 : Nat) : Int) := by
  have e1 : IntKind.u64.wrap (-(x : Int)) = ((18446744073709551616 - x : Nat) : Int) := by rw [IntKind.wrap_u64]; omega
  rw [e1, bits_and_u64_nat x _ hx (by omega), hlow, IntKind.wrap_u64]
  omega

set_option maxRecDepth 100000 in
set_option maxHeartbeats 1000000 in
theorem tz_any (x : Nat) (hx : x < 18446744073709551616) (hx0 : x ≠ 0) (w : World) (hT : Tab w) :
    Calls Tryz.prog 187 #[.int .u64 x] w fun e w' => e = .returned (.int .i64 (Lib.ctz 64 x)) ∧ w = w' := by
  obtain ⟨hlow, hk⟩ := Lib.lowest_bit 64 x hx0 hx
  obtain ⟨hi, htab⟩ := Lib.deBruijn64_at _ hk
  have key := tz_key x _ hx hx0 hlow
  have hcell := hT _ hi
  rw [htab] at hcell
  obtain ⟨k, hkk⟩ : ∃ k, Lib.ctz 64 x = k := ⟨_, rfl⟩
  rw [hkk] at hcell hk key hi ⊢
  obtain ⟨idx, hidx⟩ : ∃ i, 2 ^ k * 285870213051353865 % 18446744073709551616 / 288230376151711744 = i := ⟨_, rfl⟩
  rw [hidx] at hcell key hi
  have h0 : ((x : Int) == 0) = false := by simp; omega
  have KEY := Lib.hid key
  clear hlow htab hkk hidx hx hx0 hT key
  go_enter Tryz.func187, Tryz.ntmps187
  go_wp2_with (simp only [KEY.out])
  go_ret
  exact ⟨rfl, rfl⟩

theorem ctz_lt {x : Nat} (hx0 : x ≠ 0) (hx : x < 18446744073709551616) : Lib.ctz 64 x < 64 := (Lib.lowest_bit 64 x hx0 hx).2
theorem ctz_bits {x : Nat} (hx0 : x ≠ 0) (hx : x < 18446744073709551616) : x.testBit (Lib.ctz 64 x) = true ∧ ∀ i, i < Lib.ctz 64 x → x.testBit i = false := by
  unfold Lib.ctz
  rw [if_neg hx0]
  obtain ⟨m, hm, _⟩ := Lib.ctzFrom_spec 64 x (by omega) hx
  generalize Lib.ctzFrom 64 x = k at *
  subst hm
  constructor
  · rw [Nat.testBit_eq_decide_div_mod_eq, Nat.mul_div_cancel_left _ (Nat.two_pow_pos k)]; simp
  · intro i hi
    rw [Nat.testBit_eq_decide_div_mod_eq]
    obtain ⟨d, rfl⟩ : ∃ d, k = i + (d + 1) := ⟨k - i - 1, by omega⟩
    rw [Nat.pow_add, Nat.mul_assoc, Nat.mul_div_cancel_left _ (Nat.two_pow_pos i), Nat.pow_succ]
    simp
    rw [Nat.mul_assoc, Nat.mul_comm, Nat.mul_assoc]
    omega

def LeastIs (s : S4) (d : Nat) (b : Bool) : Prop := (b = false ∧ d = 0 ∧ s = S4.zero) ∨ (b = true ∧ d < 256 ∧ s.has d = true ∧ ∀ e, e < d → s.has e = false)

theorem LeastIs.uniq {s : S4} {d d' : Nat} {b b' : Bool} (h : LeastIs s d b) (h' : LeastIs s d' b') : d = d' ∧ b = b' := by
  rcases h with ⟨rfl, rfl, rfl⟩ | ⟨rfl, h1, h2, h3⟩ <;> rcases h' with ⟨rfl, rfl, h'⟩ | ⟨rfl, h1', h2', h3'⟩
  · exact ⟨rfl, rfl⟩
  · rw [has_zero] at h2'; cases h2'
  · subst h'; rw [has_zero] at h2; cases h2
  · refine ⟨?_, rfl⟩
    rcases Nat.lt_trichotomy d d' with h | h | h
    · rw [h3' d h] at h2; cases h2
    · exact h
    · rw [h3 d' h] at h2'; cases h2'

theorem word_bit {x : Int} (h : Fit x) (i : Nat) : (wd x).getLsbD i = x.toNat.testBit i := by
  have := wd_val h
  have e : (wd x).toNat = x.toNat := by omega
  rw [BitVec.getLsbD, e]
theorem S4.has_word {s : S4} (hs : s.fit) (q i : Nat) (hq : q < 4) (hi : i < 64) : s.has (64 * q + i) = (s.word (64 * q)).toNat.testBit i := by
  unfold S4.has
  have hw : s.word (64 * q + i) = s.word (64 * q) := by unfold S4.word; rw [show (64 * q + i) / 64 = 64 * q / 64 by omega]
  have hf : Fit (s.word (64 * q)) := by unfold S4.word; split; exact hs.1; exact hs.2.1; exact hs.2.2.1; exact hs.2.2.2
  rw [hw, word_bit hf, show (64 * q + i) % 64 = i by omega]
def S4.noughts (s : S4) (q : Nat) : Prop := ∀ r, r < q → s.word (64 * r) = 0
theorem least_hit {s : S4} (hs : s.fit) {q : Nat} (hq : q < 4) (h0 : s.noughts q) (x : Nat) (hx : s.word (64 * q) = (x : Int)) (hx0 : x ≠ 0) : LeastIs s (64 * q + Lib.ctz 64 x) true := by
  have hf : Fit (s.word (64 * q)) := by unfold S4.word; split; exact hs.1; exact hs.2.1; exact hs.2.2.1; exact hs.2.2.2
  have hlt : x < 18446744073709551616 := by have := hf.2; omega
  have hc := ctz_lt hx0 hlt
  obtain ⟨b1, b2⟩ := ctz_bits hx0 hlt
  refine .inr ⟨rfl, by omega, ?_, ?_⟩
  · rw [S4.has_word hs q _ hq hc, hx]; exact b1
  · intro e he
    have hd : e = 64 * (e / 64) + e % 64 := by omega
    have hm : e % 64 < 64 := Nat.mod_lt _ (by decide)
    rw [hd, S4.has_word hs _ _ (by omega) hm]
    rcases Nat.lt_or_ge (e / 64) q with h | h
    · rw [h0 _ h]; simp
    · have : e / 64 = q := by omega
      rw [this, hx]; exact b2 _ (by omega)
theorem least_none {s : S4} (h0 : s.noughts 4) : LeastIs s 0 false := by
  refine .inl ⟨rfl, rfl, ?_⟩
  obtain ⟨a, b, c, d⟩ := s
  have e0 := h0 0 (by decide); have e1 := h0 1 (by decide); have e2 := h0 2 (by decide); have e3 := h0 3 (by decide)
  simp [S4.word] at e0 e1 e2 e3
  subst e0; subst e1; subst e2; subst e3; rfl

theorem idxSet0 (a b c d : Value) (w : World) : (Instr.index 132 (.agg #[a, b, c, d]) (.int .i64 0)).run Tryz.prog w = .ok a w := by kernel_rfl
theorem idxSet1 (a b c d : Value) (w : World) : (Instr.index 132 (.agg #[a, b, c, d]) (.int .i64 1)).run Tryz.prog w = .ok b w := by kernel_rfl
theorem idxSet2 (a b c d : Value) (w : World) : (Instr.index 132 (.agg #[a, b, c, d]) (.int .i64 2)).run Tryz.prog w = .ok c w := by kernel_rfl
theorem idxSet3 (a b c d : Value) (w : World) : (Instr.index 132 (.agg #[a, b, c, d]) (.int .i64 3)).run Tryz.prog w = .ok d w := by kernel_rfl

def LeastV (s : S4) (w : World) (e : Ending) (w' : World) : Prop := ∃ (d : Nat) (b : Bool), e = .returned (.tuple #[.int .u8 d, .bool b]) ∧ LeastIs s d b ∧ Fr nob w w'

set_option maxRecDepth 100000 in
set_option maxHeartbeats 1000000 in
theorem least_any (s : S4) (w : World) (hs : s.fit) (hT : Tab w) :
    Calls Tryz.prog 168 #[.agg #[.int .u64 s.a, .int .u64 s.b, .int .u64 s.c, .int .u64 s.d]] w (LeastV s w) := by
  obtain ⟨s0, s1, s2, s3⟩ := s
  obtain ⟨x0, rfl⟩ : ∃ x : Nat, s0 = (x : Int) := ⟨s0.toNat, by have := hs.1.1; simp only at this; omega⟩
  obtain ⟨x1, rfl⟩ : ∃ x : Nat, s1 = (x : Int) := ⟨s1.toNat, by have := hs.2.1.1; simp only at this; omega⟩
  obtain ⟨x2, rfl⟩ : ∃ x : Nat, s2 = (x : Int) := ⟨s2.toNat, by have := hs.2.2.1.1; simp only at this; omega⟩
  obtain ⟨x3, rfl⟩ : ∃ x : Nat, s3 = (x : Int) := ⟨s3.toNat, by have := hs.2.2.2.1; simp only at this; omega⟩
  have b0 : x0 < 18446744073709551616 := by have := hs.1.2; simp only at this; omega
  have b1 : x1 < 18446744073709551616 := by have := hs.2.1.2; simp only at this; omega
  have b2 : x2 < 18446744073709551616 := by have := hs.2.2.1.2; simp only at this; omega
  have b3 : x3 < 18446744073709551616 := by have := hs.2.2.2.2; simp only at this; omega
  have B0 := Lib.hid b0; have B1 := Lib.hid b1; have B2 := Lib.hid b2; have B3 := Lib.hid b3
  clear b0 b1 b2 b3
  have HS := Lib.hid hs
  have i0 := idxSet0; have i1 := idxSet1; have i2 := idxSet2; have i3 := idxSet3
  have HT := Lib.hid (hT.on ((Fr.refl nob w).alloc (.cells #[.int .u64 x0, .int .u64 x1, .int .u64 x2, .int .u64 x3] 132)))
  clear hT hs
  go_enter Tryz.func168, Tryz.ntmps168
  go_wp2_with fail
  go_loop [7] (fun i => ∃ k : Nat, i = .int .i64 k ∧ k ≤ 4 ∧ (S4.mk (x0 : Int) x1 x2 x3).noughts k) (fun i => 4 - (intOf i).toNat)
  case atStart => exact ⟨0, rfl, by omega, fun r hr => by omega⟩
  case round =>
    obtain ⟨k, rfl, hk, h0⟩ := hrel
    have H0 := Lib.hid h0; clear h0
    have hkk : k = 0 ∨ k = 1 ∨ k = 2 ∨ k = 3 ∨ k = 4 := by omega
    rcases hkk with rfl | rfl | rfl | rfl | rfl
    · by_cases hx0 : x0 = 0
      · have HN := Lib.hid (show (S4.mk (x0 : Int) x1 x2 x3).noughts 1 from fun r hr => by
          rcases Nat.lt_or_ge r 0 with h | h
          · exact H0.out r h
          · obtain rfl : r = 0 := by omega
            show (x0 : Int) = 0
            omega)
        have t0 : ((x0 : Int) != 0) = false := by simp; omega
        clear hx0
        go_wp2
        go_round
        case rel => exact ⟨1, by go_num, by omega, HN.out⟩
        case measure => simp [intOf]
      · have t0 : ((x0 : Int) != 0) = true := by simp; omega
        have HL := Lib.hid (least_hit HS.out (q := 0) (by decide) H0.out x0 rfl hx0)
        have hc := ctz_lt hx0 B0.out
        have hT := HT.out
        go_wp2_with fail
        refine (tz_any x0 B0.out hx0 _ hT).mono ?_
        rintro e w' ⟨rfl, rfl⟩
        go_wp2
        go_ret2
        exact ⟨_, true, by simp, HL.out, (Fr.refl _ _).alloc _⟩
    · by_cases hx0 : x1 = 0
      · have HN := Lib.hid (show (S4.mk (x0 : Int) x1 x2 x3).noughts 2 from fun r hr => by
          rcases Nat.lt_or_ge r 1 with h | h
          · exact H0.out r h
          · obtain rfl : r = 1 := by omega
            show (x1 : Int) = 0
            omega)
        have t0 : ((x1 : Int) != 0) = false := by simp; omega
        clear hx0
        go_wp2
        go_round
        case rel => exact ⟨2, by go_num, by omega, HN.out⟩
        case measure => simp [intOf]
      · have t0 : ((x1 : Int) != 0) = true := by simp; omega
        have HL := Lib.hid (least_hit HS.out (q := 1) (by decide) H0.out x1 rfl hx0)
        have hc := ctz_lt hx0 B1.out
        have hT := HT.out
        go_wp2_with fail
        refine (tz_any x1 B1.out hx0 _ hT).mono ?_
        rintro e w' ⟨rfl, rfl⟩
        go_wp2
        go_ret2
        exact ⟨_, true, by simp, HL.out, (Fr.refl _ _).alloc _⟩
    · by_cases hx0 : x2 = 0
      · have HN := Lib.hid (show (S4.mk (x0 : Int) x1 x2 x3).noughts 3 from fun r hr => by
          rcases Nat.lt_or_ge r 2 with h | h
          · exact H0.out r h
          · obtain rfl : r = 2 := by omega
            show (x2 : Int) = 0
            omega)
        have t0 : ((x2 : Int) != 0) = false := by simp; omega
        clear hx0
        go_wp2
        go_round
        case rel => exact ⟨3, by go_num, by omega, HN.out⟩
        case measure => simp [intOf]
      · have t0 : ((x2 : Int) != 0) = true := by simp; omega
        have HL := Lib.hid (least_hit HS.out (q := 2) (by decide) H0.out x2 rfl hx0)
        have hc := ctz_lt hx0 B2.out
        have hT := HT.out
        go_wp2_with fail
        refine (tz_any x2 B2.out hx0 _ hT).mono ?_
        rintro e w' ⟨rfl, rfl⟩
        go_wp2
        go_ret2
        exact ⟨_, true, by simp, HL.out, (Fr.refl _ _).alloc _⟩
    · by_cases hx0 : x3 = 0
      · have HN := Lib.hid (show (S4.mk (x0 : Int) x1 x2 x3).noughts 4 from fun r hr => by
          rcases Nat.lt_or_ge r 3 with h | h
          · exact H0.out r h
          · obtain rfl : r = 3 := by omega
            show (x3 : Int) = 0
            omega)
        have t0 : ((x3 : Int) != 0) = false := by simp; omega
        clear hx0
        go_wp2
        go_round
        case rel => exact ⟨4, by go_num, by omega, HN.out⟩
        case measure => simp [intOf]
      · have t0 : ((x3 : Int) != 0) = true := by simp; omega
        have HL := Lib.hid (least_hit HS.out (q := 3) (by decide) H0.out x3 rfl hx0)
        have hc := ctz_lt hx0 B3.out
        have hT := HT.out
        go_wp2_with fail
        refine (tz_any x3 B3.out hx0 _ hT).mono ?_
        rintro e w' ⟨rfl, rfl⟩
        go_wp2
        go_ret2
        exact ⟨_, true, by simp, HL.out, (Fr.refl _ _).alloc _⟩
    · go_wp2
      go_ret2
      exact ⟨0, false, rfl, least_none H0.out, (Fr.refl _ _).alloc _⟩

end Go.Proofs.YtkfddjopbocpkaaGreatDoor

/-
  strings.Builder's methods at a builder that lies anywhere in a block: what each does.
-/
namespace Go.Proofs.YtkfddjopbocpkaaGreatDoor
open Go.RowKit

theorem info_bld : (Tryz.prog.info? 105).map (·.size) = some 2 := by kernel_rfl
theorem info_u8 : (Tryz.prog.info? 5).map (fun i => (i.zero, i.size, i.bytes)) = some (some (.int .u8 0), 1, 1) := by kernel_rfl

def BldIn (T : TypeId) (n o : Nat) : Prop := liesAt Tryz.prog Tryz.prog.depth T (n / Tryz.prog.cellsOf T) o 105 1 = true

set_option maxRecDepth 100000 in
set_option maxHeartbeats 1000000 in
theorem copyCheck_any (T : TypeId) (b o : Nat) (cs : Array Value) (bs : List UInt8) (g : Option Nat) (w : World) (h : BldAt 5 T b o cs bs g w) (hl : BldIn T cs.size o) :
    Calls Tryz.prog 82 #[.pointer (some ⟨b, o, none⟩)] w fun e w' => e = .returned (.tuple #[]) ∧
      BldAt 5 T b o (cs.setIfInBounds o (.pointer (some ⟨b, o, none⟩))) bs g w' ∧ Fr (fun k => k = b) w w' := by
  obtain ⟨hb, ho, hp, v, hv, hown, hg, hne, hni⟩ := h
  obtain ⟨j, hj, hjs⟩ := Option.map_eq_some_iff.1 info_bld
  have hsh : w.shape? b = some (T, cs.size) := by simp [World.shape?, hb]
  have hfz : w.frozen? ⟨b, o, none⟩ = false := unfrozen_at hb o
  rcases hp with hp | hp
  · have h0 := cell_at hb hp
    have HB := Lib.hid hb; have HO := Lib.hid ho; have HV := Lib.hid hv; have HW := Lib.hid hown; have HG := Lib.hid hg; have HN := Lib.hid hne; have HP := Lib.hid hp; have HL := Lib.hid hl; have HJ := Lib.hid hjs; have HS := Lib.hid hsh; have HI := Lib.hid hni
    clear hb ho hv hown hg hne hp hl hjs hsh hni
    go_enter Tryz.func82, Tryz.ntmps82
    go_wp2
    rw [Lib.run_to_unsafe w ⟨b, o, none⟩ Tryz.underlying103 Tryz.underlying184 hj (by rw [HJ.out]; decide) HS.out (Nat.lt_of_succ_lt HO.out)]
    simp only [Result.andThen]
    rw [Oper.upon_value]
    go_wp2
    rw [run_callFunc_extern Tryz.func109 (by kernel_rfl) (by kernel_rfl) (by kernel_rfl) (e := Extern.AbiNoEscape.same) (by kernel_rfl)]
    rw [Lib.run_noEscape]
    simp only [Result.andThen]
    rw [Oper.upon_value]
    go_wp2
    rw [Lib.run_from_unsafe w ⟨b, o, none⟩ Tryz.underlying184 Tryz.underlying103 hj HS.out HL.out]
    simp only [Result.andThen]
    rw [Oper.upon_value]
    go_wp2
    go_end0
    have ho := HO.out
    refine ⟨rfl, ⟨heap_setCell_at HB.out o _, by simpa using ho, .inr (by rw [Array.getElem?_setIfInBounds, if_pos rfl, if_pos (by omega)]), v, ?_, ?_, HG.out, HN.out, HI.out⟩, (Fr.refl (fun k => k = b) w).setCell (p := ⟨b, o, none⟩) (fun _ => rfl) _⟩
    · rw [Array.getElem?_setIfInBounds, if_neg (by omega)]; exact HV.out
    · have hn := HN.out
      exact ownsRow_fr HW.out ((Fr.refl (fun k => k = b) w).setCell (p := ⟨b, o, none⟩) (fun _ => rfl) _) (fun k hk e => hn (by rw [← HG.out, hk, e]))
  · have h0 := cell_at hb hp
    have HB := Lib.hid hb; have HO := Lib.hid ho; have HV := Lib.hid hv; have HW := Lib.hid hown; have HG := Lib.hid hg; have HN := Lib.hid hne; have HP := Lib.hid hp; have HL := Lib.hid hl; have HJ := Lib.hid hjs; have HS := Lib.hid hsh; have HI := Lib.hid hni
    clear hb ho hv hown hg hne hp hl hjs hsh hni
    go_enter Tryz.func82, Tryz.ntmps82
    go_wp2
    rw [Lib.run_neq_ptr_same w _ Tryz.underlying103 hj]
    go_wp2
    go_end0
    have hcs : cs.setIfInBounds o (.pointer (some ⟨b, o, none⟩)) = cs := by
      apply Array.ext_getElem?
      intro i
      rw [Array.getElem?_setIfInBounds]
      have ho := HO.out
      split
      · subst_vars; rw [if_pos (by omega)]; exact HP.out.symm
      · rfl
    rw [hcs]
    exact ⟨rfl, ⟨HB.out, HO.out, .inr HP.out, v, HV.out, HW.out, HG.out, HN.out, HI.out⟩, Fr.refl _ _⟩


theorem set_set_ne {cs : Array Value} {o i : Nat} {p : Value} (h : i ≠ o) : (cs.setIfInBounds o p)[i]? = cs[i]? := by
  rw [Array.getElem?_setIfInBounds, if_neg (fun e => h e.symm)]

theorem set_at {cs : Array Value} {o : Nat} {p : Value} (h : o < cs.size) : (cs.setIfInBounds o p)[o]? = some p := by
  rw [Array.getElem?_setIfInBounds, if_pos rfl, if_pos h]

def bldCells (cs : Array Value) (b o : Nat) (v : Value) : Array Value := (cs.setIfInBounds o (.pointer (some ⟨b, o, none⟩))).setIfInBounds (o + 1) v

theorem bldCells_size (cs : Array Value) (b o : Nat) (v : Value) : (bldCells cs b o v).size = cs.size := by simp [bldCells]

theorem bldCells_ne (cs : Array Value) (b o : Nat) (v : Value) {i : Nat} (h : i ≠ o) (h' : i ≠ o + 1) : (bldCells cs b o v)[i]? = cs[i]? := by
  unfold bldCells; rw [set_set_ne h', set_set_ne h]

theorem fr_freeze {S : Nat → Prop} {a w : World} (h : Fr S a w) {p : Addr} (hp : p.block < a.heap.size → S p.block) (n : Nat) : Fr S a (w.freeze p n) := by
  refine h.trans (T := fun k => k = p.block) ?_ (fun i hi e => by subst e; exact hp hi)
  unfold World.freeze
  split
  · exact Fr.refl _ _
  · refine ⟨rfl, rfl, rfl, by simp, fun k _ hk => ?_⟩
    simp only [Array.getElem?_modify]
    rw [if_neg (fun e => hk e.symm)]

set_option maxRecDepth 100000 in
set_option maxHeartbeats 1000000 in
theorem string_some (T : TypeId) (b o : Nat) (cs : Array Value) (bs : List UInt8) (g : Option Nat) (w : World) (h : BldAt 5 T b o cs bs g w) (h0 : bs ≠ []) :
    Calls Tryz.prog 49 #[.pointer (some ⟨b, o, none⟩)] w fun e w' => e = .returned (.string ⟨bs.toArray⟩) ∧ Fr (fun k => some k = g) w w' := by
  obtain ⟨hb, ho, hp, v, hv, hown, hg, hne, _⟩ := h
  have hl0 : bs.length ≠ 0 := by simpa using h0
  obtain ⟨gb, cap, cur, rfl, _, hgh, hnc, hcm, hcs, htake⟩ : ∃ g cap cur, v = .slice (some ⟨g, 0, none⟩) bs.length cap ∧ 0 ≤ g ∧ w.heap[g]? = some (.cells cur 5 (0, 0)) ∧ bs.length ≤ cap ∧ cap ≤ maxLen ∧ cur.size = cap * 1 ∧ cur.toList.take (bs.length * 1) = bcells bs := by
    rcases hown.2 with ⟨_, hz⟩ | ⟨g, cap, cur, hv, r⟩
    · exact absurd hz hl0
    · exact ⟨g, cap, cur, hv, r⟩
  have c1 : w.drew.cell? ⟨b, o + 1, none⟩ = some (.slice (some ⟨gb, 0, none⟩) bs.length cap) := cell_at (w := w.drew) hb hv
  have hSD : (Builtin.unsafeSliceData_ #[22] 155 #[.slice (some ⟨gb, 0, none⟩) bs.length cap]).run Tryz.prog w.drew = .ok (.pointer (some ⟨gb, 0, none⟩)) w.drew :=
    Lib.run_unsafeSliceData_row _ _ _ _ _ _ (by omega)
  have hUS : (Builtin.unsafeString_ #[155, 3] 9 #[.pointer (some ⟨gb, 0, none⟩), .int .i64 bs.length]).run Tryz.prog w.drew = .ok (.string ⟨bs.toArray⟩) (w.drew.freeze ⟨gb, 0, none⟩ bs.length) := by
    refine Lib.run_unsafeString_row w.drew 155 3 9 5 Tryz.underlying155 (by kernel_rfl) gb cur.size (by have hg' : w.drew.heap[gb]? = some (.cells cur 5 (0, 0)) := hgh; simp [World.shape?, hg']) bs h0 (by omega) (by unfold maxLen at hcm; omega) ?_
    intro j x hx
    have := hown.cells (g := gb) rfl j (.int .u8 x.toNat) (by simp [bcells, bcell, hx])
    exact this
  have HG := Lib.hid hg; have HB := Lib.hid hb
  clear hb ho hp hv hown hg hne hgh hnc hcm hcs htake hl0 h0
  go_enter Tryz.func49, Tryz.ntmps49
  go_wp2
  go_still_tail 10, (by kernel_rfl)
  change wpList _ _ _ _ _ w.drew
  all_goals (go_wp2; go_ret; exact ⟨rfl, fr_freeze (Fr.refl _ w).drew (p := ⟨gb, 0, none⟩) (fun _ => HG.out) _⟩)


set_option maxRecDepth 100000 in
set_option maxHeartbeats 1000000 in
theorem string_none (T : TypeId) (b o : Nat) (cs : Array Value) (g : Option Nat) (w : World) (h : BldAt 5 T b o cs [] g w) :
    Calls Tryz.prog 49 #[.pointer (some ⟨b, o, none⟩)] w fun e w' => e = .returned (.string ⟨#[]⟩) ∧ Fr (fun k => some k = g) w w' := by
  obtain ⟨hb, ho, hp, v, hv, hown, hg, hne, hn⟩ := h
  have hnil := hn rfl; subst hnil
  have c1 : w.drew.cell? ⟨b, o + 1, none⟩ = some (.slice none 0 0) := cell_at (w := w.drew) hb hv
  have hSD : (Builtin.unsafeSliceData_ #[22] 155 #[.slice none 0 0]).run Tryz.prog w.drew = .ok (.pointer none) w.drew := rfl
  have hUS : (Builtin.unsafeString_ #[155, 3] 9 #[.pointer none, .int .i64 0]).run Tryz.prog w.drew = .ok (.string .empty) w.drew := Lib.run_unsafeString_none w.drew _ _ _ none
  clear hb ho hp hv hown hg hne hn
  go_enter Tryz.func49, Tryz.ntmps49
  go_wp2
  go_still_tail 10, (by kernel_rfl)
  change wpList _ _ _ _ _ w.drew
  all_goals (go_wp2; go_ret; exact ⟨rfl, (Fr.refl _ w).drew⟩)

theorem string_any (T : TypeId) (b o : Nat) (cs : Array Value) (bs : List UInt8) (g : Option Nat) (w : World) (h : BldAt 5 T b o cs bs g w) :
    Calls Tryz.prog 49 #[.pointer (some ⟨b, o, none⟩)] w fun e w' => e = .returned (.string ⟨bs.toArray⟩) ∧ Fr (fun k => some k = g) w w' := by
  by_cases h0 : bs = []
  · subst h0; exact string_none T b o cs g w h
  · exact string_some T b o cs bs g w h h0

def Bb (b : Nat) (out : List UInt8) (g : Option Nat) (w : World) : Prop := ∃ cs, BldAt 5 105 b 0 cs out g w ∧ cs.size = 2

theorem Bb.new (w : World) : Bb w.heap.size [] none (w.alloc (.cells #[.pointer none, .slice none 0 0] 105)) :=
  ⟨_, ⟨heap_alloc_new w _, by simp, .inl rfl, .slice none 0 0, rfl, World.ownsRow_nil _ _ _ _, rfl, by simp, fun _ => rfl⟩, rfl⟩
theorem bldIn_own {n : Nat} (h : n = 2) : BldIn 105 n 0 := by subst h; unfold BldIn; kernel_rfl

theorem bb_string (b : Nat) (out : List UInt8) (g : Option Nat) (w : World) (h : Bb b out g w) :
    Calls Tryz.prog 49 #[.pointer (some ⟨b, 0, none⟩)] w fun e w' => e = .returned (.string ⟨out.toArray⟩) ∧ Fr (fun k => some k = g) w w' := by
  obtain ⟨cs, hb, hs⟩ := h
  exact string_any _ b 0 cs out g w hb

theorem keep_new {b : Nat} {g g' : Option Nat} {w wr w1 : World} (hb : w.heap.size ≤ b) (hf : Fr nob w wr) (hg : ∀ j, g = some j → w.heap.size ≤ j) (hf1 : Fr (fun k => k = b ∨ some k = g) wr w1) : Fr nob w w1 :=
  hf.trans hf1 (fun i hi h => by rcases h with h | h; omega; have := hg i h.symm; omega)
theorem new_blk {g g' : Option Nat} {w wr : World} (hf : Fr nob w wr) (hg : ∀ j, g = some j → w.heap.size ≤ j) (hg1 : ∀ k, g' = some k → some k = g ∨ wr.heap.size ≤ k) : ∀ j, g' = some j → w.heap.size ≤ j := fun j hj => by
  have := hf.size
  rcases hg1 j hj with h | h
  · exact hg j h.symm
  · omega

end Go.Proofs.YtkfddjopbocpkaaGreatDoor

/-
  Walks: octet.Span.
-/
namespace Go.Proofs.YtkfddjopbocpkaaGreatDoor
open Go.RowKit

set_option maxRecDepth 100000 in
set_option maxHeartbeats 1000000 in
theorem span_any (a b : Nat) (w : World) (ha : a < 256) (hb : b < 256) :
    Calls Tryz.prog 255 #[.int .u8 a, .int .u8 b] w fun e w' => e = .returned (.agg (spn a b).cells.toArray) ∧ Fr nob w w' := by
  go_enter Tryz.func255, Tryz.ntmps255
  go_wp2_with fail
  obtain ⟨w0, hw0⟩ : ∃ w0, w0 = ((w.alloc (.cells S4.zero.cells.toArray 132)).alloc (.cells S4.zero.cells.toArray 132)) := ⟨_, rfl⟩
  have f0 : Fr nob w w0 := by rw [hw0]; exact ((Fr.refl _ _).alloc _).alloc _
  have hr0 : w0.heap[w.heap.size]? = some (.cells S4.zero.cells.toArray 132 (0, 0)) := by rw [hw0]; exact heap_alloc_lt _ (heap_alloc_new _ _)
  have hb0 : w0.heap[w.heap.size + 1]? = some (.cells S4.zero.cells.toArray 132 (0, 0)) := by
    rw [hw0]; have := heap_alloc_new (w.alloc (.cells S4.zero.cells.toArray 132)) (.cells S4.zero.cells.toArray 132); simpa using this
  change Code.wp _ _ _ _ ((w.alloc (.cells S4.zero.cells.toArray 132)).alloc (.cells S4.zero.cells.toArray 132))
  rw [← hw0]
  have F0 := Lib.hid f0; have HR0 := Lib.hid hr0; have HB0 := Lib.hid hb0; clear f0 hr0 hb0 hw0
  go_loopw [6] (fun i wr => ∃ k : Nat, i = .int .i64 (a + k : Nat) ∧ (k = 0 ∨ a + k ≤ b + 1) ∧ wr.heap[w.heap.size + 1]? = some (.cells (spanTo a k).cells.toArray 132 (0, 0)) ∧ Fr (fun k => k = w.heap.size + 1) w0 wr) (fun i _ => 256 - (intOf i).toNat)
  case atStart => exact ⟨0, rfl, .inl rfl, HB0.out, Fr.refl _ _⟩
  case round =>
    obtain ⟨k, rfl, hk, hb', fr⟩ := hrel
    have HB := Lib.hid hb'; have FR := Lib.hid fr; clear hb' fr
    have FW := Lib.hid (F0.out.trans FR.out (fun i hi x => by omega))
    obtain ⟨n, hn⟩ : ∃ n, a + k = n := ⟨_, rfl⟩
    rw [hn]
    have HN := Lib.hid hn
    by_cases hlt : n ≤ b
    · have wn : IntKind.u8.wrap (n : Int) = (n : Int) := IntWalk.u8_in _ (by omega)
      clear hn hk
      go_wp2_with fail
      refine (add_any (w.heap.size + 1) _ n _ (by omega) HB.out).mono ?_
      rintro e w3 ⟨rfl, h3, f3⟩
      have H3 := Lib.hid h3; have F3 := Lib.hid f3; clear h3 f3
      go_wp2
      go_roundw
      case rel => exact ⟨k + 1, by have := HN.out; congr 1; omega, .inr (by have := HN.out; omega), by have := H3.out; rw [← HN.out] at this; exact this, FR.out.trans' F3.out⟩
      case measure => simp [intOf]; omega
    · have hsp := Lib.hid (show spanTo a k = spn a b by unfold spn; congr 1; omega)
      clear hn hk
      have hb := HB.out
      rw [hsp.out] at hb
      obtain ⟨c0, c1, c2, c3, _⟩ := cellS hb
      have hr := FR.out.heap HR0.out (fun e => by omega)
      obtain ⟨_, _, _, _, f0, f1, f2, f3⟩ := cellS hr
      have hlr := lt_heap hr; have hlb := lt_heap hb
      have HBB := Lib.hid hb; have HRR := Lib.hid hr; clear hb hr
      go_wp2
      (try simp only [Exit.inBlock, Exit.then])
      exact bodyPost_ret (results_set (s := spn a b) rfl rfl (setFour_heap HRR.out _ _ _ _)) rfl ⟨rfl, setFour_fr FW.out (Nat.le_refl _) _ _ _ _⟩

end Go.Proofs.YtkfddjopbocpkaaGreatDoor

/-
  A map from numbers to how often each was told: lookup, '++'. No walk.
-/
namespace Go.Proofs.YtkfddjopbocpkaaGreatDoor
open Go.RowKit Go.MapKept

section
variable {P : Program} {mty kt et : TypeId}
end
end Go.Proofs.YtkfddjopbocpkaaGreatDoor

/-
  A block of eight cells, in every later world.
-/
namespace Go.Proofs.YtkfddjopbocpkaaGreatDoor
open Go.RowKit

theorem results_tmp4 {fn : Func} {t u v x : Tmp} (h : fn.results = #[.tmp t, .tmp u, .tmp v, .tmp x]) (tmps : Array Value) (P : Program) (w : World) :
    (results fn tmps).run P w = .ok (.tuple #[tmps.getD t undef, tmps.getD u undef, tmps.getD v undef, tmps.getD x undef]) w := by
  simp [results, h]
end Go.Proofs.YtkfddjopbocpkaaGreatDoor

/-
  strings.Builder: WriteByte.
-/
namespace Go.Proofs.YtkfddjopbocpkaaGreatDoor
open Go.RowKit

set_option maxRecDepth 100000 in
set_option maxHeartbeats 1000000 in
theorem writeByte_any (T : TypeId) (b o : Nat) (cs : Array Value) (bs : List UInt8) (g : Option Nat) (c : Int) (w : World) (hc : 0 ≤ c ∧ c ≤ 255) (h : BldAt 5 T b o cs bs g w) (hl : BldIn T cs.size o) (hlen : bs.length ≤ 140737488355327) :
    Calls Tryz.prog 77 #[.pointer (some ⟨b, o, none⟩), .int .u8 c] w fun e w' => e = .returned .nilIface ∧
      ∃ v', BldAt 5 T b o (bldCells cs b o v') (bs ++ [c.toNat.toUInt8]) v'.ownBlock w' ∧ Fr (fun k => k = b ∨ some k = g) w w' ∧ (∀ k, v'.ownBlock = some k → some k = g ∨ w.heap.size ≤ k) := by
  obtain ⟨i0, hi, hz0, hz1, hz2⟩ := info_parts info_u8
  have hcv : bcell c.toNat.toUInt8 = .int .u8 c := by
    unfold bcell; congr 1; simp; omega
  have HC := Lib.hid hcv; clear hcv
  have HL := Lib.hid hl; clear hl
  go_enter Tryz.func77, Tryz.ntmps77
  go_wp2_with (go_at_call 82; refine (copyCheck_any T b o cs bs g _ h HL.out).mono ?_)
  rintro e w1 ⟨rfl, h1, hf1⟩
  obtain ⟨hb, ho, hp, v, hv, hown, hg, hne, hni⟩ := h1
  have c1 : w1.cell? ⟨b, o + 1, none⟩ = some v := cell_at hb hv
  have HB := Lib.hid hb; have HO := Lib.hid ho; have HV := Lib.hid hv; have HG := Lib.hid hg; have HN := Lib.hid hne; have HP := Lib.hid hp; have HI := Lib.hid hni
  clear hb ho hv hg hne hp hni
  go_wp2_with (at_builtin; refine wpList_append_g rfl _ _ 22 rfl 5 i0 (.int .u8 0) 1 1 Tryz.underlying22 hi hz0 hz1 hz2 rfl (by decide) _ _ _ rfl (hown.alloc _) ⟨w1.heap.size, 0, none⟩ 1 1 [.int .u8 c] rfl rfl ?c1 ?c2 ?c3 ?c4 ?_)
  case c1 =>
    intro j u hj
    match j, hj with
    | 0, hj => simp at hj; subst hj; simp [Addr.add]
  case c2 => intro u hu; simp at hu; subst hu; rfl
  case c3 => unfold maxLen; omega
  case c4 => omega
  intro v' w2 hown' hap
  have hb := HB.out; have hlt : b < w1.heap.size := lt_heap hb
  have hgb := HG.out; have hnb := HN.out
  have hb2 : w2.heap[b]? = some (.cells (cs.setIfInBounds o (.pointer (some ⟨b, o, none⟩))) T (0, 0)) :=
    hap.fr.heap (heap_alloc_lt _ hb) (fun e => hnb (by rw [← hgb, e]))
  have d1 : w2.cell? ⟨b, o + 1, none⟩ = some v := cell_at hb2 HV.out
  have f1 : w2.frozen? ⟨b, o + 1, none⟩ = false := unfrozen_at hb2 _
  have hlen2 : w1.heap.size + 1 ≤ w2.heap.size := by simpa using hap.fr.size
  have hne' : v'.ownBlock ≠ some b := by
    intro e
    rcases hap.old b e with h | h
    · exact hnb (by rw [← hgb, h])
    · simp at h; omega
  have hnew : ∀ k, v'.ownBlock = some k → some k = g ∨ w.heap.size ≤ k := by
    intro k hk
    have := hf1.size
    rcases hap.old k hk with h | h
    · exact .inl (by rw [← hgb, h])
    · simp at h; exact .inr (by omega)
  have hrow : w2.ownsRow 0 5 1 v' (bs ++ [c.toNat.toUInt8]).length (bcells (bs ++ [c.toNat.toUInt8])) := by
    rw [bcells_append, List.length_append]
    have hc1 : bcells [c.toNat.toUInt8] = [.int .u8 c] := by rw [← HC.out]; rfl
    rw [hc1]; exact hown'
  have hni' : bs ++ [c.toNat.toUInt8] = [] → v' = .slice none 0 0 := fun h => by simp at h
  have hfr : Fr (fun k => k = b ∨ some k = g) w w2 := by
    refine (hf1.mono (fun _ _ h => Or.inl h)).trans (((Fr.refl (fun k => v.ownBlock = some k) w1).alloc _).trans' hap.fr) (fun k _ h => Or.inr ?_)
    rw [← hgb, h]
  obtain ⟨ga, gn, gc, hvs⟩ := ownsRow_slice' hrow
  have HNI := Lib.hid hni'; clear hni'
  have HB2 := Lib.hid hb2; have HNE := Lib.hid hne'; have HNEW := Lib.hid hnew; have HROW := Lib.hid hrow; have HFR := Lib.hid hfr
  clear hb hb2 hgb hnb hne' hnew hrow hown' hfr
  subst hvs
  go_wp2
  go_ret
  have ho := HO.out
  refine ⟨rfl, _, ⟨heap_setCell_at HB2.out _ _, ?_, .inr ?_, _, set_at ho, ?_, rfl, HNE.out, HNI.out⟩, ?_, HNEW.out⟩
  · rw [bldCells_size]; simpa using ho
  · unfold bldCells; rw [set_set_ne (by omega)]; exact set_at (by simp at ho; omega)
  · exact ownsRow_fr HROW.out ((Fr.refl (fun k => k = b) w2).setCell (p := ⟨b, o + 1, none⟩) (fun _ => rfl) _) (fun k hk e => HNE.out (by rw [hk, e]))
  · exact HFR.out.setCell (p := ⟨b, o + 1, none⟩) (fun _ => Or.inl rfl) _


theorem bb_writeByte (b : Nat) (out : List UInt8) (c : Int) (g : Option Nat) (w : World) (hc : 0 ≤ c ∧ c ≤ 255) (h : Bb b out g w) (hlen : out.length ≤ 140737488355327) :
    Calls Tryz.prog 77 #[.pointer (some ⟨b, 0, none⟩), .int .u8 c] w fun e w' => e = .returned .nilIface ∧
      ∃ g', Bb b (out ++ [c.toNat.toUInt8]) g' w' ∧ Fr (fun k => k = b ∨ some k = g) w w' ∧ (∀ k, g' = some k → some k = g ∨ w.heap.size ≤ k) := by
  obtain ⟨cs, hb, hs⟩ := h
  refine (writeByte_any _ b 0 cs out g c w hc hb (bldIn_own hs) hlen).mono ?_
  rintro e w' ⟨rfl, v', hb', hf, hn⟩
  exact ⟨rfl, _, ⟨_, hb', by rw [bldCells_size]; exact hs⟩, hf, hn⟩

end Go.Proofs.YtkfddjopbocpkaaGreatDoor

/-
  strings.Builder: WriteString.
-/
namespace Go.Proofs.YtkfddjopbocpkaaGreatDoor
open Go.RowKit

set_option maxRecDepth 100000 in
set_option maxHeartbeats 1000000 in
theorem writeString_any (T : TypeId) (b o : Nat) (cs : Array Value) (bs : List UInt8) (g : Option Nat) (l : List UInt8) (w : World) (h : BldAt 5 T b o cs bs g w) (hl : BldIn T cs.size o) (hlen : bs.length + l.length ≤ 140737488355328) :
    Calls Tryz.prog 50 #[.pointer (some ⟨b, o, none⟩), .string ⟨l.toArray⟩] w fun e w' => e = .returned (.tuple #[.int .i64 l.length, .nilIface]) ∧
      ∃ v', BldAt 5 T b o (bldCells cs b o v') (bs ++ l) v'.ownBlock w' ∧ Fr (fun k => k = b ∨ some k = g) w w' ∧ (∀ k, v'.ownBlock = some k → some k = g ∨ w.heap.size ≤ k) := by
  obtain ⟨i0, hi, hz0, hz1, hz2⟩ := info_parts info_u8
  have HL := Lib.hid hl; clear hl
  go_enter Tryz.func50, Tryz.ntmps50
  go_wp2_with (go_at_call 82; refine (copyCheck_any T b o cs bs g _ h HL.out).mono ?_)
  rintro e w1 ⟨rfl, h1, hf1⟩
  obtain ⟨hb, ho, hp, v, hv, hown, hg, hne, hni⟩ := h1
  have c1 : w1.cell? ⟨b, o + 1, none⟩ = some v := cell_at hb hv
  have HB := Lib.hid hb; have HO := Lib.hid ho; have HV := Lib.hid hv; have HG := Lib.hid hg; have HN := Lib.hid hne; have HP := Lib.hid hp; have HI := Lib.hid hni
  clear hb ho hv hg hne hp hni
  go_wp2_with (at_builtin; refine wpList_append_gs rfl _ _ 22 9 rfl 5 i0 Tryz.underlying22 Tryz.underlying9 hi hz0 hz1 hz2 _ _ _ rfl hown ⟨l.toArray⟩ rfl ?c3 ?c4 ?_)
  case c3 => unfold maxLen; show bs.length + l.toArray.size ≤ _; simp; omega
  case c4 => show bs.length + l.toArray.size ≤ _; simp; omega
  intro v' w2 hown' hap
  have hb := HB.out
  have hgb := HG.out; have hnb := HN.out
  have hb2 : w2.heap[b]? = some (.cells (cs.setIfInBounds o (.pointer (some ⟨b, o, none⟩))) T (0, 0)) :=
    hap.fr.heap hb (fun e => hnb (by rw [← hgb, e]))
  have d1 : w2.cell? ⟨b, o + 1, none⟩ = some v := cell_at hb2 HV.out
  have f1 : w2.frozen? ⟨b, o + 1, none⟩ = false := unfrozen_at hb2 _
  have hlt := lt_heap hb
  have hne' : v'.ownBlock ≠ some b := by
    intro e
    rcases hap.old b e with h | h
    · exact hnb (by rw [← hgb, h])
    · omega
  have hnew : ∀ k, v'.ownBlock = some k → some k = g ∨ w.heap.size ≤ k := by
    intro k hk
    have := hf1.size
    rcases hap.old k hk with h | h
    · exact .inl (by rw [← hgb, h])
    · exact .inr (by omega)
  have hrow : w2.ownsRow 0 5 1 v' (bs ++ l).length (bcells (bs ++ l)) := by
    rw [bcells_append, List.length_append]
    exact hown'
  have hni' : bs ++ l = [] → v' = .slice none 0 0 := fun h => by
    rw [List.append_eq_nil_iff] at h
    exact hap.nil.2 ⟨HI.out h.1, by show l.toArray.size = 0; simp [h.2]⟩
  have hfr : Fr (fun k => k = b ∨ some k = g) w w2 := by
    refine (hf1.mono (fun _ _ h => Or.inl h)).trans hap.fr (fun k _ h => Or.inr ?_)
    rw [← hgb, h]
  obtain ⟨ga, gn, gc, hvs⟩ := ownsRow_slice' hrow
  have HNI := Lib.hid hni'; clear hni'
  have HB2 := Lib.hid hb2; have HNE := Lib.hid hne'; have HNEW := Lib.hid hnew; have HROW := Lib.hid hrow; have HFR := Lib.hid hfr
  clear hb hb2 hgb hnb hne' hnew hrow hown' hfr
  subst hvs
  go_wp2
  go_ret2
  have ho := HO.out
  refine ⟨by simp, _, ⟨heap_setCell_at HB2.out _ _, ?_, .inr ?_, _, set_at ho, ?_, rfl, HNE.out, HNI.out⟩, ?_, HNEW.out⟩
  · rw [bldCells_size]; simpa using ho
  · unfold bldCells; rw [set_set_ne (by omega)]; exact set_at (by simp at ho; omega)
  · exact ownsRow_fr HROW.out ((Fr.refl (fun k => k = b) w2).setCell (p := ⟨b, o + 1, none⟩) (fun _ => rfl) _) (fun k hk e => HNE.out (by rw [hk, e]))
  · exact HFR.out.setCell (p := ⟨b, o + 1, none⟩) (fun _ => Or.inl rfl) _

end Go.Proofs.YtkfddjopbocpkaaGreatDoor

/-
  strings.Builder: all that the seat's program uses.
-/
