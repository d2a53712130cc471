/-
  Walks of package tree: head, Same; Deep, Groups, Backs; Holds.
-/
import Derived.Test.YticeknkikflmkaaTreeI
import Derived.Test.YticeknkikflmkaaEqS
namespace Go.Proofs.Yticeknkikflmkaa
open Go.RowKit

theorem RN.miss {S : Nat → Prop} {w : World} {n : Nd} {v : Value} {i0 : TypeId} (h : RN S w n v) (hn : n.ty ≠ some i0) : v = .nilIface ∨ ∃ i x, v = .iface i x ∧ i ≠ i0 := by
  rcases h.tyv with ⟨_, rfl⟩ | ⟨i, x, ht, rfl⟩
  · exact .inl rfl
  · exact .inr ⟨i, x, rfl, fun e => hn (by rw [ht, e])⟩

theorem told_head (a b : Nd) : a.told.head b = a.head b := by cases a <;> cases b <;> rfl

set_option maxRecDepth 100000 in
set_option maxHeartbeats 4000000 in
theorem head_any (a b : Nd) (va vb : Value) (w : World) (ha : RN nob w a va) (hb : RN nob w b vb) :
    Calls Try.prog 39 #[va, vb] w fun e w' => e = .returned (.bool (a.head b)) ∧ Fr nob w w' := by
  rw [← told_head]
  have HB := Lib.hid hb; clear hb
  have HA := Lib.hid ha; clear ha
  obtain ⟨c, hc⟩ : ∃ c, a.told = c := ⟨_, rfl⟩
  have hnn : c ≠ .nil := by rw [← hc]; cases a <;> simp [Nd.told]
  rw [hc]
  have HC := Lib.hid hc; clear hc
  go_enter Try.func39, Try.ntmps39
  go_wp2_with fail
  refine (told_any nob a va w HA.out).mono ?_
  rintro e w1 ⟨u, rfl, hu, rfl⟩
  rw [HC.out] at hu
  clear HA HC
  have hk := hu.kind
  clear hu
  cases c with
  | nil => exact (hnn rfl).elim
  | cat l =>
    clear hnn
    obtain ⟨q, cp, rfl, _⟩ := hk
    by_cases hh : b.ty = some 55
    · cases b <;> simp [Nd.ty] at hh
      obtain ⟨qb, cb, rfl, _⟩ := HB.out.kind
      go_wp2
      go_ret
      exact ⟨rfl, ((Fr.refl _ _).alloc _).alloc _⟩
    · have hr : Nd.head (.cat l) b = false := by cases b <;> first | rfl | (simp [Nd.ty] at hh)
      have HRR := Lib.hid hr
      rcases HB.out.miss hh with rfl | ⟨i, x, rfl, hi⟩
      all_goals
        clear hr hh
        go_wp2
        go_ret
        exact ⟨ret_bool HRR.out.symm, ((Fr.refl _ _).alloc _).alloc _⟩
  | one s =>
    clear hnn
    obtain rfl := hk
    rw [S4.cells_eq]
    by_cases hh : b.ty = some 53
    · obtain ⟨t, rfl⟩ : ∃ t, b = .one t := by cases b <;> simp [Nd.ty] at hh ⊢
      obtain rfl := HB.out.kind
      rw [S4.cells_eq]
      clear hh
      obtain ⟨a1, b1, c1, d1⟩ := s
      obtain ⟨a2, b2, c2, d2⟩ := t
      have hr : Nd.head (.one ⟨a1, b1, c1, d1⟩) (.one ⟨a2, b2, c2, d2⟩) = S4.same ⟨a1, b1, c1, d1⟩ ⟨a2, b2, c2, d2⟩ := rfl
      have HRR := Lib.hid hr; clear hr
      cases hp : S4.same ⟨a1, b1, c1, d1⟩ ⟨a2, b2, c2, d2⟩
      all_goals
        have HPP := Lib.hid hp
        go_wp2
        go_ret
        exact ⟨ret_bool (HRR.out.trans HPP.out).symm, ((Fr.refl _ _).alloc _).alloc _⟩
    · have hr : Nd.head (.one s) b = false := by cases b <;> first | rfl | (simp [Nd.ty] at hh)
      have HRR := Lib.hid hr
      rcases HB.out.miss hh with rfl | ⟨i, x, rfl, hi⟩
      all_goals
        clear hr hh
        go_wp2
        go_ret
        exact ⟨ret_bool HRR.out.symm, ((Fr.refl _ _).alloc _).alloc _⟩
  | alt l =>
    clear hnn
    obtain ⟨q, cp, rfl, _⟩ := hk
    have hr : Nd.head (.alt l) b = b.isAlt := by cases b <;> rfl
    have HRR := Lib.hid hr; clear hr
    go_wp2_with fail
    refine (alt_any nob b vb _ (HB.out.on ((Fr.refl _ _).alloc _))).mono ?_
    rintro e w2 ⟨rfl, f2⟩
    go_wp2
    go_ret
    exact ⟨ret_bool HRR.out.symm, ((Fr.refl _ _).alloc _).trans' f2⟩
  | rep y mn mx =>
    clear hnn
    obtain ⟨uy, rfl, hy⟩ := hk
    have hysh := hy.shape
    clear hy
    by_cases hh : b.ty = some 61
    · obtain ⟨z, mn', mx', rfl⟩ : ∃ z mn' mx', b = .rep z mn' mx' := by cases b <;> simp [Nd.ty] at hh ⊢
      obtain ⟨uz, rfl, hz⟩ := HB.out.kind
      have hzsh := hz.shape
      clear hz hh HB
      have hr : Nd.head (.rep y mn mx) (.rep z mn' mx') = (decide (mn = mn') && decide (mx = mx')) := rfl
      have HRR := Lib.hid hr; clear hr
      by_cases h1 : mn = mn'
      · subst h1
        by_cases h2 : mx = mx'
        · subst h2
          rcases hysh with rfl | ⟨iy, xy, rfl⟩ <;> rcases hzsh with rfl | ⟨iz, xz, rfl⟩
          all_goals
            go_wp2
            go_ret
            exact ⟨ret_bool (by first | (rw [HRR.out]; done) | (rw [HRR.out]; simp; done) | (rw [HRR.out]; simp [*]; done)), ((Fr.refl _ _).alloc _).alloc _⟩
        · have h3 : (mx == mx') = false := by simpa using h2
          rcases hysh with rfl | ⟨iy, xy, rfl⟩ <;> rcases hzsh with rfl | ⟨iz, xz, rfl⟩
          all_goals
            go_wp2
            go_ret
            exact ⟨ret_bool (by first | (rw [HRR.out]; done) | (rw [HRR.out]; simp; done) | (rw [HRR.out]; simp [*]; done)), ((Fr.refl _ _).alloc _).alloc _⟩
      · have h3 : (mn == mn') = false := by simpa using h1
        rcases hysh with rfl | ⟨iy, xy, rfl⟩ <;> rcases hzsh with rfl | ⟨iz, xz, rfl⟩
        all_goals
          go_wp2
          go_ret
          exact ⟨ret_bool (by first | (rw [HRR.out]; done) | (rw [HRR.out]; simp; done) | (rw [HRR.out]; simp [*]; done)), ((Fr.refl _ _).alloc _).alloc _⟩
    · have hr : Nd.head (.rep y mn mx) b = false := by cases b <;> first | rfl | (simp [Nd.ty] at hh)
      have HRR := Lib.hid hr
      rcases HB.out.miss hh with rfl | ⟨i, x, rfl, hi⟩ <;> rcases hysh with rfl | ⟨iy, xy, rfl⟩
      all_goals
        clear hr hh
        go_wp2
        go_ret
        exact ⟨ret_bool HRR.out.symm, ((Fr.refl _ _).alloc _).alloc _⟩
  | group n y =>
    clear hnn
    obtain ⟨uy, rfl, hy⟩ := hk
    have hysh := hy.shape
    clear hy
    by_cases hh : b.ty = some 63
    · obtain ⟨m, z, rfl⟩ : ∃ m z, b = .group m z := by cases b <;> simp [Nd.ty] at hh ⊢
      obtain ⟨uz, rfl, hz⟩ := HB.out.kind
      have hzsh := hz.shape
      clear hz hh HB
      have hr : Nd.head (.group n y) (.group m z) = decide (n = m) := rfl
      by_cases h1 : n = m
      · subst h1
        have HRR := Lib.hid (show Nd.head (.group n y) (.group n z) = true by rw [hr]; simp); clear hr
        rcases hysh with rfl | ⟨iy, xy, rfl⟩ <;> rcases hzsh with rfl | ⟨iz, xz, rfl⟩
        all_goals
          go_wp2
          go_ret
          exact ⟨ret_bool (by rw [HRR.out]), ((Fr.refl _ _).alloc _).alloc _⟩
      · have HRR := Lib.hid (show Nd.head (.group n y) (.group m z) = false by rw [hr]; simp [h1]); clear hr
        have h2 : (n == m) = false := by simpa using h1
        rcases hysh with rfl | ⟨iy, xy, rfl⟩ <;> rcases hzsh with rfl | ⟨iz, xz, rfl⟩
        all_goals
          go_wp2
          go_ret
          exact ⟨ret_bool (by rw [HRR.out]), ((Fr.refl _ _).alloc _).alloc _⟩
    · have hr : Nd.head (.group n y) b = false := by cases b <;> first | rfl | (simp [Nd.ty] at hh)
      have HRR := Lib.hid hr
      rcases HB.out.miss hh with rfl | ⟨i, x, rfl, hi⟩ <;> rcases hysh with rfl | ⟨iy, xy, rfl⟩
      all_goals
        clear hr hh
        go_wp2
        go_ret
        exact ⟨ret_bool HRR.out.symm, ((Fr.refl _ _).alloc _).alloc _⟩
  | back n =>
    clear hnn
    obtain rfl := hk
    by_cases hh : b.ty = some 65
    · obtain ⟨m, rfl⟩ : ∃ m, b = .back m := by cases b <;> simp [Nd.ty] at hh ⊢
      obtain rfl := HB.out.kind
      clear hh HB
      have hr : Nd.head (.back n) (.back m) = decide (n = m) := rfl
      have HRR := Lib.hid hr; clear hr
      by_cases h1 : n = m
      · subst h1
        go_wp2
        go_ret
        exact ⟨ret_bool (by rw [HRR.out]; simp), ((Fr.refl _ _).alloc _).alloc _⟩
      · have h2 : (n == m) = false := by simpa using h1
        go_wp2
        go_ret
        exact ⟨ret_bool (by rw [HRR.out]; simp [h1]), ((Fr.refl _ _).alloc _).alloc _⟩
    · have hr : Nd.head (.back n) b = false := by cases b <;> first | rfl | (simp [Nd.ty] at hh)
      have HRR := Lib.hid hr
      rcases HB.out.miss hh with rfl | ⟨i, x, rfl, hi⟩
      all_goals
        clear hr hh
        go_wp2
        go_ret
        exact ⟨ret_bool HRR.out.symm, ((Fr.refl _ _).alloc _).alloc _⟩
  | start =>
    clear hnn
    obtain rfl := hk
    by_cases hh : b.ty = some 57
    · cases b <;> simp [Nd.ty] at hh
      obtain rfl := HB.out.kind
      go_wp2
      go_ret
      exact ⟨rfl, ((Fr.refl _ _).alloc _).alloc _⟩
    · have hr : Nd.head .start b = false := by cases b <;> first | rfl | (simp [Nd.ty] at hh)
      have HRR := Lib.hid hr
      rcases HB.out.miss hh with rfl | ⟨i, x, rfl, hi⟩
      all_goals
        clear hr hh
        go_wp2
        go_ret
        exact ⟨ret_bool HRR.out.symm, ((Fr.refl _ _).alloc _).alloc _⟩
  | fin =>
    clear hnn
    obtain rfl := hk
    by_cases hh : b.ty = some 66
    · cases b <;> simp [Nd.ty] at hh
      obtain rfl := HB.out.kind
      go_wp2
      go_ret
      exact ⟨rfl, ((Fr.refl _ _).alloc _).alloc _⟩
    · have hr : Nd.head .fin b = false := by cases b <;> first | rfl | (simp [Nd.ty] at hh)
      have HRR := Lib.hid hr
      rcases HB.out.miss hh with rfl | ⟨i, x, rfl, hi⟩
      all_goals
        clear hr hh
        go_wp2
        go_ret
        exact ⟨ret_bool HRR.out.symm, ((Fr.refl _ _).alloc _).alloc _⟩
  | empty =>
    clear hnn
    obtain rfl := hk
    go_wp2_with fail
    refine (told_any nob b vb _ HB.out).mono ?_
    rintro e w2 ⟨ub, rfl, hub, rfl⟩
    by_cases hh : b.told.ty = some 49
    · have hr : Nd.head .empty b = true := by cases b <;> simp [Nd.ty, Nd.told] at hh <;> rfl
      have HRR := Lib.hid hr
      rcases hub.tyv with ⟨ht, rfl⟩ | ⟨i, x, ht, rfl⟩
      · rw [ht] at hh; cases hh
      · rw [ht] at hh; injection hh with hh; subst hh
        have hx : x = .agg #[] := by
          have := hub.kind
          cases b <;> simp [Nd.ty, Nd.told] at ht <;> (simp [Nd.told, KindIs] at this; exact this)
        subst hx
        clear hr ht hub
        go_wp2
        go_ret
        exact ⟨ret_bool HRR.out.symm, (Fr.refl _ _).alloc _⟩
    · have hr : Nd.head .empty b = false := by cases b <;> first | rfl | (simp [Nd.ty, Nd.told] at hh)
      have HRR := Lib.hid hr
      rcases hub.miss hh with rfl | ⟨i, x, rfl, hi⟩
      all_goals
        clear hr hh hub
        go_wp2
        go_ret
        exact ⟨ret_bool HRR.out.symm, (Fr.refl _ _).alloc _⟩

end Go.Proofs.Yticeknkikflmkaa
