/-
  Walks of piece.Blanks, piece.Space, and piece.Name.
-/
import Derived.Test.YthdcpjmjdbldiaaDoorPieceH
namespace Go.Proofs.YthdcpjmjdbldiaaDoor
open Go.RowKit

/-- The place behind bytes of a set, of a text whose rest from the place on is r. -/
def bhd (l cs : List UInt8) (k : Nat) : Nat := l.length - (tl (l.drop k) cs).length

theorem tl_le (m cs : List UInt8) : (tl m cs).length ≤ m.length := (List.dropWhile_sublist _).length_le
theorem ascii_of (cs : List UInt8) (h : ∀ b ∈ cs, b.toNat < 128) : ∀ (j : Nat) b, cs[j]? = some b → b.toNat < 128 := fun _ _ hj => h _ (List.mem_of_getElem? hj)

set_option maxHeartbeats 1000000 in
theorem behind_any (l : List UInt8) (at_ : Int) (c d : UInt8) (cs : List UInt8) (w : World) (hs : l.length ≤ 1000000) (hcs : cs.length ≤ 1000) (ha : ∀ b ∈ c :: d :: cs, b.toNat < 128) :
    Calls Tryd.prog 18 #[.string ⟨l.toArray⟩, .int .i64 at_, .string ⟨(c :: d :: cs).toArray⟩] w fun e w' =>
      e = .returned (.int .i64 (if at_ < 0 ∨ (l.length : Int) < at_ then 0 else (bhd l (c :: d :: cs) at_.toNat : Nat))) ∧ Fr nob w w' := by
  have hT := fun k w => trimLeft_any (l.drop k) c d cs w (by rw [List.length_drop]; omega) hcs (ascii_of _ ha)
  obtain ⟨CS, hCS⟩ : ∃ CS, c :: d :: cs = CS := ⟨_, rfl⟩
  rw [hCS] at hT ⊢
  clear hCS ha
  by_cases ho : at_ < 0 ∨ (l.length : Int) < at_
  · have ho1 : (decide (at_ < 0) || decide ((l.length : Int) < at_)) = true := by simpa using ho
    rw [if_pos ho]
    have HO := Lib.hid ho1; clear ho1 ho
    go_enter Tryd.func18, Tryd.ntmps18
    go_wp2_with (go_at_call 16; refine (over_any _ _ w (by omega)).mono ?_; rw [HO.out]; rintro e w' ⟨rfl, rfl⟩)
    go_ret
    exact ⟨rfl, Fr.refl _ _⟩
  · obtain ⟨k, rfl⟩ : ∃ k : Nat, at_ = k := ⟨at_.toNat, by omega⟩
    have hk : k ≤ l.length := by omega
    have ho1 : (decide ((k : Int) < 0) || decide ((l.length : Int) < k)) = false := by simp; omega
    rw [if_neg ho]
    have HO := Lib.hid ho1; clear ho1 ho
    have hle := tl_le (l.drop k) CS
    rw [List.length_drop] at hle
    go_enter Tryd.func18, Tryd.ntmps18
    go_wp2_with (first | (go_at_call 16; refine (over_any _ _ w (by omega)).mono ?_; rw [HO.out]; rintro e w' ⟨rfl, rfl⟩) | (go_at_call 27; refine (hT k _).mono ?_; rintro e w' ⟨rfl, hf⟩))
    go_ret
    exact ⟨ret_int (by unfold bhd; simp; omega), hf⟩

theorem blanks_any (l : List UInt8) (at_ : Int) (w : World) (hs : l.length ≤ 1000000) :
    Calls Tryd.prog 7 #[.string ⟨l.toArray⟩, .int .i64 at_] w fun e w' =>
      e = .returned (.int .i64 (if at_ < 0 ∨ (l.length : Int) < at_ then 0 else (bhd l [32, 9] at_.toNat : Nat))) ∧ Fr nob w w' := by
  go_enter Tryd.func7, Tryd.ntmps7
  go_wp2_with (go_at_call 18; refine (behind_any l at_ 32 9 [] w hs (by decide) (by decide)).mono ?_; rintro e w' ⟨rfl, hf⟩)
  all_goals
    go_ret
    exact ⟨rfl, hf⟩

theorem space_any (l : List UInt8) (at_ : Int) (w : World) (hs : l.length ≤ 1000000) :
    Calls Tryd.prog 9 #[.string ⟨l.toArray⟩, .int .i64 at_] w fun e w' =>
      e = .returned (.int .i64 (if at_ < 0 ∨ (l.length : Int) < at_ then 0 else (bhd l [32, 9, 10, 59] at_.toNat : Nat))) ∧ Fr nob w w' := by
  go_enter Tryd.func9, Tryd.ntmps9
  go_wp2_with (go_at_call 18; refine (behind_any l at_ 32 9 [10, 59] w hs (by decide) (by decide)).mono ?_; rintro e w' ⟨rfl, hf⟩)
  all_goals
    go_ret
    exact ⟨rfl, hf⟩

/-- A name's ends; what stands ahead of the first of them; a name. -/
def ends (label : Bool) : List UInt8 := if label then [10, 59] else [10]
def upTo (m : List UInt8) (label : Bool) : List UInt8 := m.takeWhile (fun b => !(ends label).contains b)
def blanked (m : List UInt8) : List UInt8 := tl (tr m [32, 9]) [32, 9]
def nam (l : List UInt8) (k : Nat) (label : Bool) : List UInt8 × Nat × Int :=
  if blanked (upTo (l.drop k) label) = [] then ([], k, 14)
  else if 40 < (blanked (upTo (l.drop k) label)).length then ([], k, 3)
  else (blanked (upTo (l.drop k) label), k + (upTo (l.drop k) label).length, 0)

theorem upTo_le (m : List UInt8) (label : Bool) : (upTo m label).length ≤ m.length := (List.takeWhile_sublist _).length_le
theorem indexAny_upTo : ∀ (m cs : List UInt8), Lib.indexAny m cs = if (m.takeWhile (fun b => !cs.contains b)).length < m.length then ((m.takeWhile (fun b => !cs.contains b)).length : Int) else -1
  | [], cs => rfl
  | b :: m, cs => by
    have ih := indexAny_upTo m cs
    have hl := (List.takeWhile_sublist (fun b => !cs.contains b) (l := m)).length_le
    rw [Lib.indexAny, List.takeWhile_cons, ih]
    cases h : cs.contains b with
    | true => simp
    | false =>
      simp only [Bool.false_eq_true, if_false, Bool.not_false, if_true, List.length_cons]
      by_cases h2 : (m.takeWhile (fun b => !cs.contains b)).length < m.length
      · rw [if_pos h2, if_neg (by simp), if_pos (by omega)]; omega
      · rw [if_neg h2, if_pos (by rfl), if_neg (by omega)]
theorem upTo_take (m : List UInt8) (label : Bool) : m.take (upTo m label).length = upTo m label := by
  unfold upTo
  exact (List.prefix_iff_eq_take.1 (List.takeWhile_prefix _)).symm

theorem nam_none {l : List UInt8} {k : Nat} {label : Bool} (h : blanked (upTo (l.drop k) label) = []) : nam l k label = ([], k, 14) := if_pos h
theorem nam_long {l : List UInt8} {k : Nat} {label : Bool} (h : 40 < (blanked (upTo (l.drop k) label)).length) : nam l k label = ([], k, 3) := by
  unfold nam; rw [if_neg (fun e => by rw [e] at h; simp at h), if_pos h]
theorem nam_is {l : List UInt8} {k : Nat} {label : Bool} (h : blanked (upTo (l.drop k) label) ≠ []) (h2 : ¬ 40 < (blanked (upTo (l.drop k) label)).length) :
    nam l k label = (blanked (upTo (l.drop k) label), k + (upTo (l.drop k) label).length, 0) := by
  unfold nam; rw [if_neg h, if_neg h2]

set_option maxRecDepth 100000 in
set_option maxHeartbeats 2000000 in
theorem name_any (l : List UInt8) (k : Nat) (label : Bool) (w : World) (hs : l.length ≤ 100000) (hk : k ≤ l.length) :
    Calls Tryd.prog 13 #[.string ⟨l.toArray⟩, .int .i64 k, .bool label] w fun e w' =>
      e = .returned (.tuple #[.string ⟨(nam l k label).1.toArray⟩, .int .i64 (nam l k label).2.1, .int .i64 (nam l k label).2.2]) ∧ Fr nob w w' := by
  have hI : ∀ w, Calls Tryd.prog 22 #[.string ⟨(l.drop k).toArray⟩, .string (if label then ⟨#[10, 59]⟩ else ⟨#[10]⟩)] w fun e w' => e = .returned (.int .i64 (if (upTo (l.drop k) label).length < (l.drop k).length then ((upTo (l.drop k) label).length : Int) else -1)) ∧ Fr nob w w' := fun w => by
    have := indexAny_ends (l.drop k) label w (by rw [List.length_drop]; omega)
    rw [indexAny_upTo] at this
    exact this
  have hB := fun w => trim_any (upTo (l.drop k) label) 32 9 [] w (by have := upTo_le (l.drop k) label; rw [List.length_drop] at this; omega) (by decide) (ascii_of _ (by decide))
  have hnN : (blanked (upTo (l.drop k) label)).length ≤ (upTo (l.drop k) label).length := Nat.le_trans (tl_le _ _) (tr_le _ _)
  have hnn := @nam_none l k label
  have hnl := @nam_long l k label
  have hni := @nam_is l k label
  have htk := upTo_take (l.drop k) label
  have hUl := upTo_le (l.drop k) label
  have ho : (decide ((k : Int) < 0) || decide ((l.length : Int) < k)) = false := by simp; omega
  have HO := Lib.hid ho; clear ho
  have hml : (l.drop k).length = l.length - k := List.length_drop
  change ∀ w, Calls Tryd.prog 23 _ w fun e w' => e = .returned (.string ⟨(blanked (upTo (l.drop k) label)).toArray⟩) ∧ Fr nob w w' at hB
  have hd : (ByteArray.mk l.toArray).extract k l.length = ⟨(l.drop k).toArray⟩ := bextE _ _
  revert hI hB hnN hnn hnl hni htk hUl hml hd
  generalize l.drop k = M
  generalize upTo M label = U
  generalize blanked U = N
  generalize nam l k label = F
  intro hI hnN hnn hnl hni htk hUl hml hB hd
  have hsl : (ByteArray.mk M.toArray).extract 0 U.length = ⟨U.toArray⟩ := by rw [bext]; simp [htk]
  have HB := Lib.hid hB
  clear hB
  by_cases hlt : U.length < M.length
  · rw [if_pos hlt] at hI
    have HI := Lib.hid hI; clear hI htk
    by_cases hn0 : N = []
    · rw [hnn hn0]
      subst hn0
      clear hnn hnl hni
      cases label
      all_goals
        go_enter Tryd.func13, Tryd.ntmps13
        go_wp2_with (first | (go_at_call 16; refine (over_any _ _ w (by omega)).mono ?_; rw [HO.out]; rintro e w' ⟨rfl, rfl⟩) | (go_at_call 22; refine (HI.out _).mono ?_; rintro e w1 ⟨rfl, hf⟩; have HF := Lib.hid hf; clear hf) | (go_at_call 23; refine (HB.out _).mono ?_; rintro e w2 ⟨rfl, hf⟩; have HF2 := Lib.hid hf; clear hf))
        go_ret3
        exact ⟨rfl, HF.out.trans' HF2.out⟩
    · by_cases hn40 : 40 < N.length
      · rw [hnl hn40]
        have hne : N.isEmpty = false := by cases N with | nil => exact absurd rfl hn0 | cons _ _ => rfl
        clear hnn hnl hni hn0
        cases label
        all_goals
          go_enter Tryd.func13, Tryd.ntmps13
          go_wp2_with (first | (go_at_call 16; refine (over_any _ _ w (by omega)).mono ?_; rw [HO.out]; rintro e w' ⟨rfl, rfl⟩) | (go_at_call 22; refine (HI.out _).mono ?_; rintro e w1 ⟨rfl, hf⟩; have HF := Lib.hid hf; clear hf) | (go_at_call 23; refine (HB.out _).mono ?_; rintro e w2 ⟨rfl, hf⟩; have HF2 := Lib.hid hf; clear hf))
          go_ret3
          exact ⟨rfl, HF.out.trans' HF2.out⟩
      · rw [hni hn0 hn40]
        have hne : N.isEmpty = false := by cases N with | nil => exact absurd rfl hn0 | cons _ _ => rfl
        clear hnn hnl hni hn0
        cases label
        all_goals
          go_enter Tryd.func13, Tryd.ntmps13
          go_wp2_with (first | (go_at_call 16; refine (over_any _ _ w (by omega)).mono ?_; rw [HO.out]; rintro e w' ⟨rfl, rfl⟩) | (go_at_call 22; refine (HI.out _).mono ?_; rintro e w1 ⟨rfl, hf⟩; have HF := Lib.hid hf; clear hf) | (go_at_call 23; refine (HB.out _).mono ?_; rintro e w2 ⟨rfl, hf⟩; have HF2 := Lib.hid hf; clear hf))
          go_ret3
          exact ⟨rfl, HF.out.trans' HF2.out⟩
  · rw [if_neg hlt] at hI
    obtain rfl : U = M := by rw [← htk]; exact List.take_of_length_le (by omega)
    have HI := Lib.hid hI; clear hI htk hsl hlt
    by_cases hn0 : N = []
    · rw [hnn hn0]
      subst hn0
      clear hnn hnl hni
      cases label
      all_goals
        go_enter Tryd.func13, Tryd.ntmps13
        go_wp2_with (first | (go_at_call 16; refine (over_any _ _ w (by omega)).mono ?_; rw [HO.out]; rintro e w' ⟨rfl, rfl⟩) | (go_at_call 22; refine (HI.out _).mono ?_; rintro e w1 ⟨rfl, hf⟩; have HF := Lib.hid hf; clear hf) | (go_at_call 23; refine (HB.out _).mono ?_; rintro e w2 ⟨rfl, hf⟩; have HF2 := Lib.hid hf; clear hf))
        go_ret3
        exact ⟨rfl, HF.out.trans' HF2.out⟩
    · by_cases hn40 : 40 < N.length
      · rw [hnl hn40]
        have hne : N.isEmpty = false := by cases N with | nil => exact absurd rfl hn0 | cons _ _ => rfl
        clear hnn hnl hni hn0
        cases label
        all_goals
          go_enter Tryd.func13, Tryd.ntmps13
          go_wp2_with (first | (go_at_call 16; refine (over_any _ _ w (by omega)).mono ?_; rw [HO.out]; rintro e w' ⟨rfl, rfl⟩) | (go_at_call 22; refine (HI.out _).mono ?_; rintro e w1 ⟨rfl, hf⟩; have HF := Lib.hid hf; clear hf) | (go_at_call 23; refine (HB.out _).mono ?_; rintro e w2 ⟨rfl, hf⟩; have HF2 := Lib.hid hf; clear hf))
          go_ret3
          exact ⟨rfl, HF.out.trans' HF2.out⟩
      · rw [hni hn0 hn40]
        have hne : N.isEmpty = false := by cases N with | nil => exact absurd rfl hn0 | cons _ _ => rfl
        clear hnn hnl hni hn0
        cases label
        all_goals
          go_enter Tryd.func13, Tryd.ntmps13
          go_wp2_with (first | (go_at_call 16; refine (over_any _ _ w (by omega)).mono ?_; rw [HO.out]; rintro e w' ⟨rfl, rfl⟩) | (go_at_call 22; refine (HI.out _).mono ?_; rintro e w1 ⟨rfl, hf⟩; have HF := Lib.hid hf; clear hf) | (go_at_call 23; refine (HB.out _).mono ?_; rintro e w2 ⟨rfl, hf⟩; have HF2 := Lib.hid hf; clear hf))
          go_ret3
          exact ⟨by simp [hml], HF.out.trans' HF2.out⟩
end Go.Proofs.YthdcpjmjdbldiaaDoor
