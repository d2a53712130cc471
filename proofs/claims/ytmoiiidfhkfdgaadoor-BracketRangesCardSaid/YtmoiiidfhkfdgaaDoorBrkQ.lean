/-
  Both Parses, whatever the place; the fixed fact of chapter 2.
-/
import Derived.Test.YtmoiiidfhkfdgaaDoorBrkN
import Derived.Test.YtmoiiidfhkfdgaaDoorBrkI
namespace Go.Proofs.YtmoiiidfhkfdgaaDoor
open Go.RowKit

/-- What Parse answers, whatever the place. -/
def prz (l : List UInt8) (a : Int) : (Int × Nat) ⊕ (S4 × Nat) := if a < 0 ∨ (l.length : Int) < a then .inl (1, 0) else prs l a.toNat
theorem prz_out {l : List UInt8} {a : Int} (h : a < 0 ∨ (l.length : Int) < a) : prz l a = .inl (1, 0) := if_pos h
theorem prz_in {l : List UInt8} {a : Nat} (h : a ≤ l.length) : prz l a = prs l a := by unfold prz; rw [if_neg (by omega)]; rfl

theorem parse_all (l : List UInt8) (a : Int) (w : World) (hl : l.length ≤ 100000) (hE : Env w) :
    Calls Tryd.prog 9 #[.string ⟨l.toArray⟩, .int .i64 a] w fun e w' => e = .returned (prsV (prz l a)) ∧ Fr nob w w' := by
  by_cases h : a < 0 ∨ (l.length : Int) < a
  · rw [prz_out h]; exact parse_out l a w h
  · obtain ⟨n, rfl⟩ : ∃ n : Nat, a = n := ⟨a.toNat, by omega⟩
    rw [prz_in (by omega)]
    exact parse_any l n w hl (by omega) hE

theorem rparse_any (l : List UInt8) (a : Nat) (w : World) (hl : l.length ≤ 100000) (ha : a ≤ l.length) :
    Calls Tryd.prog 10 #[.string ⟨l.toArray⟩, .int .i64 a] w (PAns (prs l a) w) := by
  by_cases h : a < l.length
  · by_cases h94 : l[a] = 94
    · exact rparse_yes l a w hl ha (by rw [List.getElem?_eq_getElem h, h94])
    · exact rparse_no l a w hl ha h h94
  · exact rparse_end l a w hl ha (by omega)

theorem rparse_all (l : List UInt8) (a : Int) (w : World) (hl : l.length ≤ 100000) :
    Calls Tryd.prog 10 #[.string ⟨l.toArray⟩, .int .i64 a] w fun e w' => e = .returned (prsV (prz l a)) ∧ Fr nob w w' := by
  by_cases h : a < 0 ∨ (l.length : Int) < a
  · rw [prz_out h]; exact rparse_out l a w h
  · obtain ⟨n, rfl⟩ : ∃ n : Nat, a = n := ⟨a.toNat, by omega⟩
    rw [prz_in (by omega)]
    exact rparse_any l n w hl (by omega)

theorem prs_awake1 : ∃ N, prs [94, 97, 45, 93] 0 = .inr (N, 4) ∧ N.fit ∧ N.len = 254 ∧ N.has 45 = false := by
  refine ⟨((spn 97 97).or (spn 45 45)).not, by decide +kernel, fit_not _, by decide +kernel, by decide +kernel⟩
theorem prs_awake2 : prs [91, 58, 100, 105, 103, 105, 116, 58, 93, 45, 122, 93] 0 = .inl (1, 0) := by decide +kernel

set_option maxRecDepth 100000 in
set_option maxHeartbeats 1000000 in
theorem awake2_any (w : World) (hE : Env w) : Calls Tryd.prog 8 #[] w fun e w' => e = .returned (.bool true) ∧ Fr nob w w' := by
  obtain ⟨N, h1, h2, h3, h4⟩ := prs_awake1
  have HE := Lib.hid hE; have HL := Lib.hid h3; have HH := Lib.hid h4
  have P1 := Lib.hid (parse_any [94, 97, 45, 93] 0 w (by decide) (by decide) hE)
  rw [h1] at P1
  clear hE h1 h3 h4
  go_enter Tryd.func8, Tryd.ntmps8
  go_wp2_with fail
  refine P1.out.mono ?_
  rintro e w1 ⟨rfl, f1⟩
  have HE1 := Lib.hid ((HE.out.on f1).on ((Fr.refl nob w1).alloc (.cells #[.int .u64 N.a, .int .u64 N.b, .int .u64 N.c, .int .u64 N.d] 25)))
  have P2 := Lib.hid (parse_any [91, 58, 100, 105, 103, 105, 116, 58, 93, 45, 122, 93] 0 _ (by decide) (by decide) HE1.out)
  rw [prs_awake2] at P2
  rw [show prsV (.inr (N, 4)) = .tuple #[setV N, .int .i64 4, .int .i64 0] from rfl]
  go_wp2_with fail
  refine P2.out.mono ?_
  rintro e w2 ⟨rfl, f2⟩
  rw [show prsV (.inl (1, 0)) = .tuple #[setV S4.zero, .int .i64 0, .int .i64 1] from rfl]
  have hb := f2.heap (heap_alloc_new w1 (.cells #[.int .u64 N.a, .int .u64 N.b, .int .u64 N.c, .int .u64 N.d] 25)) (fun x => x)
  have rz := rule4 hb
  have HB := Lib.hid hb; clear hb
  have F2 := Lib.hid (f1.trans' (((Fr.refl _ _).alloc _).trans' f2)); clear f1 f2
  go_wp2_with fail
  refine (len_lit N _ h2).mono ?_
  rw [HL.out]
  rintro e w3 ⟨rfl, f3⟩
  have rz3 := rule4 ((((Fr.refl nob w2).alloc _).trans' f3).heap HB.out (fun x => x))
  go_wp2_with fail
  refine (has_lit N 45 _ h2 (by decide)).mono ?_
  rw [HH.out]
  rintro e w4 ⟨rfl, f4⟩
  go_wp2
  go_ret
  exact ⟨rfl, F2.out.trans' (((Fr.refl _ _).alloc _).trans' (f3.trans' f4))⟩

end Go.Proofs.YtmoiiidfhkfdgaaDoor
