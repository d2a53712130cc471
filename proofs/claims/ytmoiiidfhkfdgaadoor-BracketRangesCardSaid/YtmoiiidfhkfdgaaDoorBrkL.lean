/-
  Walks of the document's bracket expressions: item, least.
-/
import Derived.Test.YtmoiiidfhkfdgaaDoorBrkK
import Derived.Test.YtmoiiidfhkfdgaaDoorSpans
import Derived.Test.YtmoiiidfhkfdgaaDoorBrkF
namespace Go.Proofs.YtmoiiidfhkfdgaaDoor
open Go.RowKit

theorem ritem_any (l : List UInt8) (a : Nat) (w : World) (hl : l.length ≤ 100000) (ha : a ≤ 1000000) :
    Calls Tryd.prog 20 #[.string ⟨l.toArray⟩, .int .i64 a] w fun e w' => e = .returned (ritV (itm l a)) ∧ Fr nob w w' := by
  show RItem l a w
  by_cases h1 : l.length ≤ a
  · exact ritem_end l a w hl h1 ha
  by_cases h2 : l[a] = 91
  · by_cases h3 : l.length ≤ a + 1
    · exact ritem_b l a w hl (by omega) h2 h3
    by_cases h4 : isKind l[a + 1] = true
    · unfold isKind at h4
      simp only [Bool.or_eq_true, beq_iff_eq] at h4
      rcases h4 with (h4 | h4) | h4
      · exact ritem_58 l a w hl (by omega) h2 h4
      · exact ritem_61 l a w hl (by omega) h2 h4
      · exact ritem_46 l a w hl (by omega) h2 h4
    · exact ritem_c l a w hl (by omega) h2 (by omega) (by simpa using h4)
  · exact ritem_a l a w hl (by omega) h2

theorem spl_one {p : Nat → Bool} {c : Nat} (hp : ∀ e, e < 256 → p e = decide (e = c)) : ∀ k, k ≤ 256 → spl p k = if c < k then [(c, c)] else []
  | 0, _ => by simp [spl]
  | k + 1, hk => by
    have ih := spl_one hp k (by omega)
    have h1 := hp k (by omega)
    rw [spl, h1]
    by_cases hc : k = c
    · subst hc
      have ho : opn p k = false := by
        cases k with
        | zero => rfl
        | succ j => rw [opn, hp j (by omega)]; simp
      simp [ho, ih]
    · rw [if_neg (by simpa using hc), ih]
      by_cases hlt : c < k
      · rw [if_pos hlt, if_pos (by omega)]
      · rw [if_neg hlt, if_neg (by omega)]
theorem spl_spn {c : Nat} (hc : c < 256) : spl (spn c c).has 256 = [(c, c)] := by
  rw [spl_one (c := c) (fun e he => ?_) 256 (Nat.le_refl _), if_pos hc]
  rw [has_spn _ _ _ hc hc he, Bool.eq_iff_iff]
  simp; omega

set_option maxRecDepth 100000 in
set_option maxHeartbeats 1000000 in
theorem rleast_one (c : Nat) (w : World) (hc : c < 256) :
    Calls Tryd.prog 21 #[setV (spn c c)] w fun e w' => e = .returned (.int .u8 c) ∧ Fr nob w w' := by
  have hsp := spl_spn hc
  have hfit := fit_spn c c
  obtain ⟨S, hS⟩ : ∃ S, spn c c = S := ⟨_, rfl⟩
  rw [hS] at hsp hfit ⊢
  clear hS
  have HSP := Lib.hid hsp; clear hsp
  go_enter Tryd.func21, Tryd.ntmps21
  go_wp2_with fail
  refine (spansR_any S _ hfit).mono ?_
  rintro e w2 ⟨v, rfl, ho, f, _⟩
  rw [HSP.out] at ho
  obtain ⟨g, cap, rfl, hg⟩ := ho.slc (by simp)
  have ho' : w2.ownsRow 0 63 2 (.slice (some ⟨g, 0, none⟩) 1 cap) 1 (spC [(c, c)]) := ho
  have hcell : w2.cell? ⟨g, 0, none⟩ = some (.int .u8 (c : Nat)) := (ho'.cellAt 0 (by omega)).trans rfl
  have F := Lib.hid (((Fr.refl nob w).alloc _).trans' f)
  clear ho ho' f
  simp only [List.length_singleton]
  go_wp2
  go_ret
  exact ⟨rfl, F.out⟩

end Go.Proofs.YtmoiiidfhkfdgaaDoor
