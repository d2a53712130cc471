/-
  Merged texts of this claim: BrkA.
-/
import Derived.Test.YtmoeboknelnaoaaGreatDoorM04
import Derived.Test.YtmoeboknelnaoaaGreatDoorM05
import Derived.Test.YtmoeboknelnaoaaGreatDoorM06

/-
  Walks of package bracket: fail, ahead, an item's least byte.
-/
namespace Go.Proofs.YtmoeboknelnaoaaGreatDoor
open Go.RowKit

/-- A reader in a block. -/
def Rd (w : World) (b : Nat) (l : List UInt8) (at_ wr pl : Int) : Prop := w.heap[b]? = some (.cells #[.string ⟨l.toArray⟩, .int .i64 at_, .int .i64 wr, .int .i64 pl] 255 (0, 0))
theorem Rd.on {w w' : World} {b : Nat} {l : List UInt8} {a r p : Int} (h : Rd w b l a r p) (f : Fr nob w w') : Rd w' b l a r p := f.heap h (fun x => x)

theorem strings_HasPrefix (l p : List UInt8) (w : World) (hs : l.length ≤ 9223372036854775807) (hp : p.length ≤ 9223372036854775807) :
    Calls Tryz.prog 83 #[.string ⟨l.toArray⟩, .string ⟨p.toArray⟩] w fun e w' => e = .returned (.bool (p.isPrefixOf l)) ∧ w = w' := by
  have HS := Lib.hid hs; have HP := Lib.hid hp
  have hx := bext l 0 p.length
  simp only [List.drop_zero, Nat.sub_zero] at hx
  go_enter Tryz.func83, Tryz.ntmps83
  go_wp2
  all_goals go_ret
  · exact ⟨ret_bool (prefix_take (by assumption)), rfl⟩
  · exact ⟨ret_bool (prefix_long (by assumption)), rfl⟩

theorem fail_ok (b : Nat) (l : List UInt8) (a p e q : Int) (w : World) (h : Rd w b l a 0 p) :
    Calls Tryz.prog 171 #[.pointer (some ⟨b, 0, none⟩), .int .i64 e, .int .i64 q] w fun r w' => r = .returned (.tuple #[]) ∧ Rd w' b l a e q ∧ Fr (fun k => k = b) w w' := by
  obtain ⟨⟨c0, c1, c2, c3⟩, d0, d1, d2, d3⟩ := rule4 h _ (Fr.refl _ _)
  have H := Lib.hid h; clear h
  go_enter Tryz.func171, Tryz.ntmps171
  go_wp2
  go_end0
  have h1 := heap_setCell_at H.out 2 (.int .i64 e)
  exact ⟨rfl, heap_setCell_at h1 3 (.int .i64 q), ((Fr.refl (fun k => k = b) w).setCell (p := ⟨b, 2, none⟩) (fun _ => rfl) _).setCell (p := ⟨b, 3, none⟩) (fun _ => rfl) _⟩
theorem fail_set (b : Nat) (l : List UInt8) (a r p e q : Int) (w : World) (hr : r ≠ 0) (h : Rd w b l a r p) :
    Calls Tryz.prog 171 #[.pointer (some ⟨b, 0, none⟩), .int .i64 e, .int .i64 q] w fun x w' => x = .returned (.tuple #[]) ∧ w = w' := by
  obtain ⟨⟨c0, c1, c2, c3⟩, d0, d1, d2, d3⟩ := rule4 h _ (Fr.refl _ _)
  have hr' : (r == 0) = false := by simpa using hr
  clear h hr
  go_enter Tryz.func171, Tryz.ntmps171
  go_wp2
  go_end0
  exact ⟨rfl, rfl⟩

set_option maxRecDepth 100000 in
theorem ahead_any (b : Nat) (l t : List UInt8) (a : Nat) (r p : Int) (w : World) (hl : l.length ≤ 1000000) (ht : t.length ≤ 1000000) (ha : a ≤ l.length) (h : Rd w b l a r p) :
    Calls Tryz.prog 157 #[.pointer (some ⟨b, 0, none⟩), .string ⟨t.toArray⟩] w fun x w' => x = .returned (.bool (t.isPrefixOf (l.drop a))) ∧ Fr nob w w' := by
  have rr := rule4 h
  clear h
  have hal : (a : Int) ≤ l.length := by omega
  have hP := fun w : World => strings_HasPrefix (l.drop a) t w (by simp; omega) (by omega)
  have HPP := Lib.hid hP; clear hP
  go_enter Tryz.func157, Tryz.ntmps157
  go_wp2_with fail
  refine region_fr 10 (by kernel_rfl) (by kernel_rfl) ?_
  simp only [List.take_succ_cons, List.take_zero, List.drop_succ_cons, List.drop_zero]
  repeat (quiet_step (fail))
  refine wpQuiet_nil ?_
  intro wC fC
  go_wp2_with fail
  refine (HPP.out _).mono ?_
  rintro e w2 ⟨rfl, rfl⟩
  go_wp2
  go_ret
  exact ⟨rfl, fC⟩

abbrev itV (s : S4) (e : Bool) : Value := .agg #[.int .u64 s.a, .int .u64 s.b, .int .u64 s.c, .int .u64 s.d, .bool e]
def DigitIs (s : S4) (w : World) (e : Ending) (w' : World) : Prop := ∃ d b, e = .returned (.int .u8 (d : Nat)) ∧ LeastIs s d b ∧ d < 256 ∧ Fr nob w w'

set_option maxRecDepth 100000 in
theorem itLeast_any (s : S4) (e : Bool) (w : World) (hs : s.fit) (hT : Tab w) :
    Calls Tryz.prog 170 #[itV s e] w (DigitIs s w) := by
  have HT := Lib.hid (hT.on ((Fr.refl nob w).alloc (.cells #[.int .u64 s.a, .int .u64 s.b, .int .u64 s.c, .int .u64 s.d, .bool e] 267)))
  clear hT
  go_enter Tryz.func170, Tryz.ntmps170
  go_wp2_with fail
  refine (least_any s _ hs HT.out).mono ?_
  rintro x w2 ⟨d, b, rfl, hl, f⟩
  have HL := Lib.hid hl
  have hd : d < 256 := by rcases hl with ⟨_, rfl, _⟩ | ⟨_, h, _⟩ <;> omega
  clear hl
  go_wp2
  go_ret
  exact ⟨d, b, rfl, HL.out, hd, ((Fr.refl _ _).alloc _).trans' f⟩
theorem LeastIs.one {c d : Nat} {b : Bool} (hc : c < 256) (h : LeastIs (spn c c) d b) : d = c := by
  have hh : (spn c c).has c = true := by rw [has_spn _ _ _ hc hc hc]; simp
  rcases h with ⟨_, _, h⟩ | ⟨_, h1, h2, h3⟩
  · rw [h, has_zero] at hh; cases hh
  · rw [has_spn _ _ _ hc hc h1] at h2
    simp at h2; omega

end Go.Proofs.YtmoeboknelnaoaaGreatDoor
