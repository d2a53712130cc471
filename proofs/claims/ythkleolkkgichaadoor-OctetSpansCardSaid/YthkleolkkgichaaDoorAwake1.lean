/-
  Walks: the fixed fact of chapter 1.
-/
import Derived.Test.YthkleolkkgichaaDoorOctetK
import Derived.Test.YthkleolkkgichaaDoorOctetW
import Derived.Test.YthkleolkkgichaaDoorSetLaw
namespace Go.Proofs.YthkleolkkgichaaDoor
open Go.RowKit

theorem class_lit (s : ByteArray) (o : Option (Int → Bool)) (ho : clsOf s = o) (w : World) : Calls Tryd.prog 11 #[.string s] w fun e w' => e = .returned (.tuple #[setV (clsSet o), .bool o.isSome]) ∧ Fr nob w w' := by
  subst ho; exact octClass_any s w
theorem len_lit (s : S4) (w : World) (hs : s.fit) : Calls Tryd.prog 13 #[setV s] w fun e w' => e = .returned (.int .i64 s.len) ∧ Fr nob w w' := len_any s w hs
theorem has_lit (s : S4) (d : Nat) (w : World) (hs : s.fit) (hd : d < 256) : Calls Tryd.prog 15 #[setV s, .int .u8 d] w fun e w' => e = .returned (.bool (s.has d)) ∧ Fr nob w w' := has_any s d w hs hd
theorem of_lit (l : List UInt8) (u : Value) (w : World) (hl : l.length ≤ 9000000000000000000) (h : SB w l u) : Calls Tryd.prog 14 #[u] w fun e w' => e = .returned (setV (S4.zero.puts l)) ∧ Fr nob w w' := of_any l u w hl h
theorem SB_new1 (w : World) (c : UInt8) (T : TypeId) : SB (w.alloc (.cells #[.int .u8 (c.toNat : Int)] T)) [c] (.slice (some ⟨w.heap.size, 0, none⟩) 1 1) := by
  refine Or.inr ⟨_, _, _, rfl, by simp, ?_⟩
  intro j x hj
  match j, hj with
  | 0, hj => simp at hj; subst hj; simp [World.cell?_alloc_new]
theorem clsOf_punct : clsOf ⟨#[112, 117, 110, 99, 116]⟩ = some isPunct := by simp [clsOf]
theorem len_punct : (clsSet (some isPunct)).len = 32 := by decide +kernel
theorem wide_e9 : wide [233] = [195, 169] := by decide +kernel
theorem has_97 : (S4.zero.puts [97]).has 97 = true := by decide +kernel
theorem has_98 : (S4.zero.puts [97]).has 98 = false := by decide +kernel

set_option maxRecDepth 100000 in
set_option maxHeartbeats 1000000 in
theorem awake1_any (w : World) : Calls Tryd.prog 4 #[] w fun e w' => e = .returned (.bool true) ∧ Fr nob w w' := by
  go_enter Tryd.func4, Tryd.ntmps4
  go_wp2_with fail
  refine (class_lit _ _ clsOf_punct _).mono ?_
  obtain ⟨P, hP⟩ : ∃ P, clsSet (some isPunct) = P := ⟨_, rfl⟩
  have hl : P.len = 32 := by rw [← hP]; exact len_punct
  have hf : P.fit := by rw [← hP]; exact fit_clsSet _
  rw [hP]
  clear hP
  have HL := Lib.hid hl; clear hl
  rintro e w1 ⟨rfl, f1⟩
  go_wp2_with fail
  refine (wide_any [233] _ (by simp)).mono ?_
  rw [wide_e9]
  rintro e w2 ⟨rfl, f2⟩
  have hb := f2.heap (heap_alloc_new w1 (.cells #[.int .u64 P.a, .int .u64 P.b, .int .u64 P.c, .int .u64 P.d] 26)) (fun x => x)
  have r0 := rule4 hb _ (Fr.refl _ _)
  clear hb
  go_wp2_with fail
  refine (len_lit P _ hf).mono ?_
  rw [HL.out]
  rintro e w3 ⟨rfl, f3⟩
  clear r0
  go_wp2_with fail
  refine (of_lit [97] _ _ (by simp) (SB_new1 w3 97 _)).mono ?_
  obtain ⟨S, hS⟩ : ∃ S, S4.zero.puts [97] = S := ⟨_, rfl⟩
  have hs1 : S.has 97 = true := by rw [← hS]; exact has_97
  have hs2 : S.has 98 = false := by rw [← hS]; exact has_98
  have hsf : S.fit := by rw [← hS]; exact fit_puts _ fit_zero
  rw [hS]
  have HS := Lib.hid hS; clear hS
  rintro e w4 ⟨rfl, f4⟩
  go_wp2_with fail
  refine (has_lit S 97 _ hsf (by decide)).mono ?_
  rw [hs1]
  rintro e w5 ⟨rfl, f5⟩
  go_wp2_with fail
  refine (of_lit [97] _ _ (by simp) (SB_new1 w5 97 _)).mono ?_
  rw [HS.out]
  rintro e w6 ⟨rfl, f6⟩
  go_wp2_with fail
  refine (has_lit S 98 _ hsf (by decide)).mono ?_
  rw [hs2]
  rintro e w7 ⟨rfl, f7⟩
  go_wp2
  go_ret
  exact ⟨rfl, f1.trans' (((Fr.refl _ _).alloc _).trans' (f2.trans' (f3.trans' (((Fr.refl _ _).alloc _).trans' (f4.trans' (f5.trans' (((Fr.refl _ _).alloc _).trans' (f6.trans' f7))))))))⟩

end Go.Proofs.YthkleolkkgichaaDoor
