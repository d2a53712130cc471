/-
  Merged texts of this claim: PieceH, PieceI.
-/
import Derived.Lib.OthersKept
import Derived.WalkMore
import Derived.Test.YtmoeboknelnaoaaGreatDoorM06
import Derived.Test.YtmoeboknelnaoaaGreatDoorM27

/-
  Walk of strings.IndexAny at the two sets of ends that a name has, in any text.
-/
namespace Go.Proofs.YtmoeboknelnaoaaGreatDoor
open Go.RowKit

end Go.Proofs.YtmoeboknelnaoaaGreatDoor

/-
  Walks of piece.Blanks, piece.Space, and piece.Name.
-/
namespace Go.Proofs.YtmoeboknelnaoaaGreatDoor
open Go.RowKit

/-- The place behind bytes of a set, of a text whose rest from the place on is r. -/
def bhd (l cs : List UInt8) (k : Nat) : Nat := l.length - (tl (l.drop k) cs).length

theorem tl_le (m cs : List UInt8) : (tl m cs).length ≤ m.length := (List.dropWhile_sublist _).length_le
theorem ascii_of (cs : List UInt8) (h : ∀ b ∈ cs, b.toNat < 128) : ∀ (j : Nat) b, cs[j]? = some b → b.toNat < 128 := fun _ _ hj => h _ (List.mem_of_getElem? hj)

set_option maxRecDepth 100000 in
set_option maxHeartbeats 1000000 in
theorem behind_any (l : List UInt8) (at_ : Int) (c d : UInt8) (cs : List UInt8) (w : World) (hs : l.length ≤ 1000000) (hcs : cs.length ≤ 1000) (ha : ∀ b ∈ c :: d :: cs, b.toNat < 128) :
    Calls Tryz.prog 67 #[.string ⟨l.toArray⟩, .int .i64 at_, .string ⟨(c :: d :: cs).toArray⟩] w fun e w' =>
      e = .returned (.int .i64 (if at_ < 0 ∨ (l.length : Int) < at_ then 0 else (bhd l (c :: d :: cs) at_.toNat : Nat))) ∧ Fr nob w w' := by
  have hT := fun k w => trimLeft_any (l.drop k) c d cs w (by rw [List.length_drop]; omega) hcs (ascii_of _ ha)
  obtain ⟨CS, hCS⟩ : ∃ CS, c :: d :: cs = CS := ⟨_, rfl⟩
  rw [hCS] at hT ⊢
  clear hCS ha
  by_cases ho : at_ < 0 ∨ (l.length : Int) < at_
  · have ho1 : (decide (at_ < 0) || decide ((l.length : Int) < at_)) = true := by simpa using ho
    rw [if_pos ho]
    have HO := Lib.hid ho1; clear ho1 ho
    go_enter Tryz.func67, Tryz.ntmps67
    go_wp2_with (go_at_call 69; refine (over_any _ _ w (by omega)).mono ?_; rw [HO.out]; rintro e w' ⟨rfl, rfl⟩)
    go_ret
    exact ⟨rfl, Fr.refl _ _⟩
  · obtain ⟨k, rfl⟩ : ∃ k : Nat, at_ = k := ⟨at_.toNat, by omega⟩
    have hk : k ≤ l.length := by omega
    have ho1 : (decide ((k : Int) < 0) || decide ((l.length : Int) < k)) = false := by simp; omega
    rw [if_neg ho]
    have HO := Lib.hid ho1; clear ho1 ho
    have hle := tl_le (l.drop k) CS
    rw [List.length_drop] at hle
    go_enter Tryz.func67, Tryz.ntmps67
    go_wp2_with (first | (go_at_call 69; refine (over_any _ _ w (by omega)).mono ?_; rw [HO.out]; rintro e w' ⟨rfl, rfl⟩) | (go_at_call 81; refine (hT k _).mono ?_; rintro e w' ⟨rfl, hf⟩))
    go_ret
    exact ⟨ret_int (by unfold bhd; simp; omega), hf⟩

set_option maxRecDepth 100000 in
theorem blanks_any (l : List UInt8) (at_ : Int) (w : World) (hs : l.length ≤ 1000000) :
    Calls Tryz.prog 60 #[.string ⟨l.toArray⟩, .int .i64 at_] w fun e w' =>
      e = .returned (.int .i64 (if at_ < 0 ∨ (l.length : Int) < at_ then 0 else (bhd l [32, 9] at_.toNat : Nat))) ∧ Fr nob w w' := by
  go_enter Tryz.func60, Tryz.ntmps60
  go_wp2_with (go_at_call 67; refine (behind_any l at_ 32 9 [] w hs (by decide) (by decide)).mono ?_; rintro e w' ⟨rfl, hf⟩)
  all_goals
    go_ret
    exact ⟨rfl, hf⟩

end Go.Proofs.YtmoeboknelnaoaaGreatDoor
