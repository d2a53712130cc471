/-
  Merged texts of this claim: TreeJ, TreeK.
-/
import Derived.Test.YtmoeboknelnaoaaGreatDoorM03
import Derived.Test.YtmoeboknelnaoaaGreatDoorM12

/-
  Walks of package tree: head, Same; Deep, Groups, Backs; Holds.
-/
namespace Go.Proofs.YtmoeboknelnaoaaGreatDoor
open Go.RowKit

theorem RN.miss {S : Nat → Prop} {w : World} {n : Nd} {v : Value} {i0 : TypeId} (h : RN S w n v) (hn : n.ty ≠ some i0) : v = .nilIface ∨ ∃ i x, v = .iface i x ∧ i ≠ i0 := by
  rcases h.tyv with ⟨_, rfl⟩ | ⟨i, x, ht, rfl⟩
  · exact .inl rfl
  · exact .inr ⟨i, x, rfl, fun e => hn (by rw [ht, e])⟩

theorem told_head (a b : Nd) : a.told.head b = a.head b := by cases a <;> cases b <;> rfl

set_option maxRecDepth 100000 in
set_option maxHeartbeats 4000000 in
theorem head_any (a b : Nd) (va vb : Value) (w : World) (ha : RN nob w a va) (hb : RN nob w b vb) :
    Calls Tryz.prog 34 #[va, vb] w fun e w' => e = .returned (.bool (a.head b)) ∧ Fr nob w w' := by
  rw [← told_head]
  have HB := Lib.hid hb; clear hb
  have HA := Lib.hid ha; clear ha
  obtain ⟨c, hc⟩ : ∃ c, a.told = c := ⟨_, rfl⟩
  have hnn : c ≠ .nil := by rw [← hc]; cases a <;> simp [Nd.told]
  rw [hc]
  have HC := Lib.hid hc; clear hc
  go_enter Tryz.func34, Tryz.ntmps34
  go_wp2_with fail
  refine (told_any nob a va w HA.out).mono ?_
  rintro e w1 ⟨u, rfl, hu, rfl⟩
  rw [HC.out] at hu
  clear HA HC
  have hk := hu.kind
  clear hu
  cases c with
  | nil => exact (hnn rfl).elim
  | cat l =>
    clear hnn
    obtain ⟨q, cp, rfl, _⟩ := hk
    by_cases hh : b.ty = some 95
    · cases b <;> simp [Nd.ty] at hh
      obtain ⟨qb, cb, rfl, _⟩ := HB.out.kind
      go_wp2
      go_ret
      exact ⟨rfl, ((Fr.refl _ _).alloc _).alloc _⟩
    · have hr : Nd.head (.cat l) b = false := by cases b <;> first | rfl | (simp [Nd.ty] at hh)
      have HRR := Lib.hid hr
      rcases HB.out.miss hh with rfl | ⟨i, x, rfl, hi⟩
      all_goals
        clear hr hh
        go_wp2
        go_ret
        exact ⟨ret_bool HRR.out.symm, ((Fr.refl _ _).alloc _).alloc _⟩
  | one s =>
    clear hnn
    obtain rfl := hk
    rw [S4.cells_eq]
    by_cases hh : b.ty = some 93
    · obtain ⟨t, rfl⟩ : ∃ t, b = .one t := by cases b <;> simp [Nd.ty] at hh ⊢
      obtain rfl := HB.out.kind
      rw [S4.cells_eq]
      clear hh
      obtain ⟨a1, b1, c1, d1⟩ := s
      obtain ⟨a2, b2, c2, d2⟩ := t
      have hr : Nd.head (.one ⟨a1, b1, c1, d1⟩) (.one ⟨a2, b2, c2, d2⟩) = S4.same ⟨a1, b1, c1, d1⟩ ⟨a2, b2, c2, d2⟩ := rfl
      have HRR := Lib.hid hr; clear hr
      cases hp : S4.same ⟨a1, b1, c1, d1⟩ ⟨a2, b2, c2, d2⟩
      all_goals
        have HPP := Lib.hid hp
        go_wp2
        go_ret
        exact ⟨ret_bool (HRR.out.trans HPP.out).symm, ((Fr.refl _ _).alloc _).alloc _⟩
    · have hr : Nd.head (.one s) b = false := by cases b <;> first | rfl | (simp [Nd.ty] at hh)
      have HRR := Lib.hid hr
      rcases HB.out.miss hh with rfl | ⟨i, x, rfl, hi⟩
      all_goals
        clear hr hh
        go_wp2
        go_ret
        exact ⟨ret_bool HRR.out.symm, ((Fr.refl _ _).alloc _).alloc _⟩
  | alt l =>
    clear hnn
    obtain ⟨q, cp, rfl, _⟩ := hk
    have hr : Nd.head (.alt l) b = b.isAlt := by cases b <;> rfl
    have HRR := Lib.hid hr; clear hr
    go_wp2_with fail
    refine (alt_any nob b vb _ (HB.out.on ((Fr.refl _ _).alloc _))).mono ?_
    rintro e w2 ⟨rfl, f2⟩
    go_wp2
    go_ret
    exact ⟨ret_bool HRR.out.symm, ((Fr.refl _ _).alloc _).trans' f2⟩
  | rep y mn mx =>
    clear hnn
    obtain ⟨uy, rfl, hy⟩ := hk
    have hysh := hy.shape
    clear hy
    by_cases hh : b.ty = some 98
    · obtain ⟨z, mn', mx', rfl⟩ : ∃ z mn' mx', b = .rep z mn' mx' := by cases b <;> simp [Nd.ty] at hh ⊢
      obtain ⟨uz, rfl, hz⟩ := HB.out.kind
      have hzsh := hz.shape
      clear hz hh HB
      have hr : Nd.head (.rep y mn mx) (.rep z mn' mx') = (decide (mn = mn') && decide (mx = mx')) := rfl
      have HRR := Lib.hid hr; clear hr
      by_cases h1 : mn = mn'
      · subst h1
        by_cases h2 : mx = mx'
        · subst h2
          rcases hysh with rfl | ⟨iy, xy, rfl⟩ <;> rcases hzsh with rfl | ⟨iz, xz, rfl⟩
          all_goals
            go_wp2
            go_ret
            exact ⟨ret_bool (by first | (rw [HRR.out]; done) | (rw [HRR.out]; simp; done) | (rw [HRR.out]; simp [*]; done)), ((Fr.refl _ _).alloc _).alloc _⟩
        · have h3 : (mx == mx') = false := by simpa using h2
          rcases hysh with rfl | ⟨iy, xy, rfl⟩ <;> rcases hzsh with rfl | ⟨iz, xz, rfl⟩
          all_goals
            go_wp2
            go_ret
            exact ⟨ret_bool (by first | (rw [HRR.out]; done) | (rw [HRR.out]; simp; done) | (rw [HRR.out]; simp [*]; done)), ((Fr.refl _ _).alloc _).alloc _⟩
      · have h3 : (mn == mn') = false := by simpa using h1
        rcases hysh with rfl | ⟨iy, xy, rfl⟩ <;> rcases hzsh with rfl | ⟨iz, xz, rfl⟩
        all_goals
          go_wp2
          go_ret
          exact ⟨ret_bool (by first | (rw [HRR.out]; done) | (rw [HRR.out]; simp; done) | (rw [HRR.out]; simp [*]; done)), ((Fr.refl _ _).alloc _).alloc _⟩
    · have hr : Nd.head (.rep y mn mx) b = false := by cases b <;> first | rfl | (simp [Nd.ty] at hh)
      have HRR := Lib.hid hr
      rcases HB.out.miss hh with rfl | ⟨i, x, rfl, hi⟩ <;> rcases hysh with rfl | ⟨iy, xy, rfl⟩
      all_goals
        clear hr hh
        go_wp2
        go_ret
        exact ⟨ret_bool HRR.out.symm, ((Fr.refl _ _).alloc _).alloc _⟩
  | group n y =>
    clear hnn
    obtain ⟨uy, rfl, hy⟩ := hk
    have hysh := hy.shape
    clear hy
    by_cases hh : b.ty = some 100
    · obtain ⟨m, z, rfl⟩ : ∃ m z, b = .group m z := by cases b <;> simp [Nd.ty] at hh ⊢
      obtain ⟨uz, rfl, hz⟩ := HB.out.kind
      have hzsh := hz.shape
      clear hz hh HB
      have hr : Nd.head (.group n y) (.group m z) = decide (n = m) := rfl
      by_cases h1 : n = m
      · subst h1
        have HRR := Lib.hid (show Nd.head (.group n y) (.group n z) = true by rw [hr]; simp); clear hr
        rcases hysh with rfl | ⟨iy, xy, rfl⟩ <;> rcases hzsh with rfl | ⟨iz, xz, rfl⟩
        all_goals
          go_wp2
          go_ret
          exact ⟨ret_bool (by rw [HRR.out]), ((Fr.refl _ _).alloc _).alloc _⟩
      · have HRR := Lib.hid (show Nd.head (.group n y) (.group m z) = false by rw [hr]; simp [h1]); clear hr
        have h2 : (n == m) = false := by simpa using h1
        rcases hysh with rfl | ⟨iy, xy, rfl⟩ <;> rcases hzsh with rfl | ⟨iz, xz, rfl⟩
        all_goals
          go_wp2
          go_ret
          exact ⟨ret_bool (by rw [HRR.out]), ((Fr.refl _ _).alloc _).alloc _⟩
    · have hr : Nd.head (.group n y) b = false := by cases b <;> first | rfl | (simp [Nd.ty] at hh)
      have HRR := Lib.hid hr
      rcases HB.out.miss hh with rfl | ⟨i, x, rfl, hi⟩ <;> rcases hysh with rfl | ⟨iy, xy, rfl⟩
      all_goals
        clear hr hh
        go_wp2
        go_ret
        exact ⟨ret_bool HRR.out.symm, ((Fr.refl _ _).alloc _).alloc _⟩
  | back n =>
    clear hnn
    obtain rfl := hk
    by_cases hh : b.ty = some 102
    · obtain ⟨m, rfl⟩ : ∃ m, b = .back m := by cases b <;> simp [Nd.ty] at hh ⊢
      obtain rfl := HB.out.kind
      clear hh HB
      have hr : Nd.head (.back n) (.back m) = decide (n = m) := rfl
      have HRR := Lib.hid hr; clear hr
      by_cases h1 : n = m
      · subst h1
        go_wp2
        go_ret
        exact ⟨ret_bool (by rw [HRR.out]; simp), ((Fr.refl _ _).alloc _).alloc _⟩
      · have h2 : (n == m) = false := by simpa using h1
        go_wp2
        go_ret
        exact ⟨ret_bool (by rw [HRR.out]; simp [h1]), ((Fr.refl _ _).alloc _).alloc _⟩
    · have hr : Nd.head (.back n) b = false := by cases b <;> first | rfl | (simp [Nd.ty] at hh)
      have HRR := Lib.hid hr
      rcases HB.out.miss hh with rfl | ⟨i, x, rfl, hi⟩
      all_goals
        clear hr hh
        go_wp2
        go_ret
        exact ⟨ret_bool HRR.out.symm, ((Fr.refl _ _).alloc _).alloc _⟩
  | start =>
    clear hnn
    obtain rfl := hk
    by_cases hh : b.ty = some 104
    · cases b <;> simp [Nd.ty] at hh
      obtain rfl := HB.out.kind
      go_wp2
      go_ret
      exact ⟨rfl, ((Fr.refl _ _).alloc _).alloc _⟩
    · have hr : Nd.head .start b = false := by cases b <;> first | rfl | (simp [Nd.ty] at hh)
      have HRR := Lib.hid hr
      rcases HB.out.miss hh with rfl | ⟨i, x, rfl, hi⟩
      all_goals
        clear hr hh
        go_wp2
        go_ret
        exact ⟨ret_bool HRR.out.symm, ((Fr.refl _ _).alloc _).alloc _⟩
  | fin =>
    clear hnn
    obtain rfl := hk
    by_cases hh : b.ty = some 105
    · cases b <;> simp [Nd.ty] at hh
      obtain rfl := HB.out.kind
      go_wp2
      go_ret
      exact ⟨rfl, ((Fr.refl _ _).alloc _).alloc _⟩
    · have hr : Nd.head .fin b = false := by cases b <;> first | rfl | (simp [Nd.ty] at hh)
      have HRR := Lib.hid hr
      rcases HB.out.miss hh with rfl | ⟨i, x, rfl, hi⟩
      all_goals
        clear hr hh
        go_wp2
        go_ret
        exact ⟨ret_bool HRR.out.symm, ((Fr.refl _ _).alloc _).alloc _⟩
  | empty =>
    clear hnn
    obtain rfl := hk
    go_wp2_with fail
    refine (told_any nob b vb _ HB.out).mono ?_
    rintro e w2 ⟨ub, rfl, hub, rfl⟩
    by_cases hh : b.told.ty = some 106
    · have hr : Nd.head .empty b = true := by cases b <;> simp [Nd.ty, Nd.told] at hh <;> rfl
      have HRR := Lib.hid hr
      rcases hub.tyv with ⟨ht, rfl⟩ | ⟨i, x, ht, rfl⟩
      · rw [ht] at hh; cases hh
      · rw [ht] at hh; injection hh with hh; subst hh
        have hx : x = .agg #[] := by
          have := hub.kind
          cases b <;> simp [Nd.ty, Nd.told] at ht <;> (simp [Nd.told, KindIs] at this; exact this)
        subst hx
        clear hr ht hub
        go_wp2
        go_ret
        exact ⟨ret_bool HRR.out.symm, (Fr.refl _ _).alloc _⟩
    · have hr : Nd.head .empty b = false := by cases b <;> first | rfl | (simp [Nd.ty, Nd.told] at hh)
      have HRR := Lib.hid hr
      rcases hub.miss hh with rfl | ⟨i, x, rfl, hi⟩
      all_goals
        clear hr hh hub
        go_wp2
        go_ret
        exact ⟨ret_bool HRR.out.symm, (Fr.refl _ _).alloc _⟩

end Go.Proofs.YtmoeboknelnaoaaGreatDoor

/-
  Walks of package tree: EqualFunc, Same; Deep, Groups, Backs; Holds.
-/
namespace Go.Proofs.YtmoeboknelnaoaaGreatDoor
open Go.RowKit

/-- Same's answer. -/
def SameIs (a b : Nd) (w : World) (e : Ending) (w' : World) : Prop := ∃ r : Bool, e = .returned (.bool r) ∧ (r = true ↔ a.norm = b.norm) ∧ Fr nob w w'

theorem Nd.norms_take {l : List Nd} {k : Nat} (h : k < l.length) : Nd.norms (l.take (k + 1)) = Nd.norms (l.take k) ++ [l[k].norm] := by
  simp only [Nd.norms_eq]; rw [List.take_succ_eq_append_getElem h, List.map_append]; rfl
theorem Nd.norms_at {l m : List Nd} (h : Nd.norms l = Nd.norms m) {k : Nat} (h1 : k < l.length) (h2 : k < m.length) : l[k].norm = m[k].norm := by
  have e := congrArg (fun x => x[k]?) h
  simp only [Nd.norms_eq, List.getElem?_map, List.getElem?_eq_getElem h1, List.getElem?_eq_getElem h2, Option.map_some, Option.some.injEq] at e
  exact e
theorem Nd.norms_len {l m : List Nd} (h : Nd.norms l = Nd.norms m) : l.length = m.length := by
  have e := congrArg List.length h
  simpa only [Nd.norms_eq, List.length_map] using e

set_option maxRecDepth 100000 in
set_option maxHeartbeats 1000000 in
theorem equalFunc_any (l m : List Nd) (u v : Value) (w : World) (hl : l.length ≤ 3000000) (hm : m.length ≤ 3000000)
    (hc : ∀ x ∈ l, ∀ (y : Nd) (vx vy : Value) (w : World), y ∈ m → RN nob w x vx → RN nob w y vy → Calls Tryz.prog 17 #[vx, vy] w (SameIs x y w)) (hu : SN nob w l u) (hv : SN nob w m v) :
    Calls Tryz.prog 35 #[u, v, .func (.func 17) #[] #[]] w fun e w' => ∃ r : Bool, e = .returned (.bool r) ∧ (r = true ↔ Nd.norms l = Nd.norms m) ∧ Fr nob w w' := by
  obtain ⟨a, c, rfl⟩ := hu.shape
  obtain ⟨a', c', rfl⟩ := hv.shape
  have HU := Lib.hid hu; have HV := Lib.hid hv; have HC := Lib.hid hc; clear hu hv hc
  by_cases hlm : l.length = m.length
  · have h1 : ((l.length : Int) != (m.length : Int)) = false := by rw [hlm]; simp
    have HLM := Lib.hid hlm
    obtain ⟨n, hn⟩ : ∃ n, m.length = n := ⟨_, rfl⟩
    rw [hlm, hn] at hl ⊢
    rw [hn] at hm
    have HN := Lib.hid hn
    clear hlm hn h1
    go_enter Tryz.func35, Tryz.ntmps35
    go_wp2_with fail
    go_loopw [17] (fun i wr => ∃ k : Nat, i = .int .i64 k ∧ k ≤ n ∧ Nd.norms (l.take k) = Nd.norms (m.take k) ∧ Fr nob w wr) (fun i _ => n - (intOf i).toNat)
    case atStart => exact ⟨0, rfl, Nat.zero_le _, rfl, Fr.refl _ _⟩
    case round =>
      obtain ⟨k, rfl, hk, hq, fr⟩ := hrel
      have HQ := Lib.hid hq; have FR := Lib.hid fr; clear hq fr
      by_cases hlt : k < n
      · have k1 : k < l.length := by have := HN.out; have := HLM.out; omega
        have k2 : k < m.length := by have := HN.out; omega
        obtain ⟨g, off, cap, x, he, hx, hcx⟩ := (HU.out.on FR.out).get k1
        obtain ⟨g', off', cap', y, he', hy, hcy⟩ := (HV.out.on FR.out).get k2
        rw [HLM.out, HN.out] at he
        rw [HN.out] at he'
        injection he with e1 e2 e3
        injection he' with e1' e2' e3'
        subst e1 e3 e1' e3'
        have K1 := Lib.hid k1; have K2 := Lib.hid k2
        have HX := Lib.hid hx; have HY := Lib.hid hy; clear hx hy e2 e2'
        go_wp2_with fail
        refine (HC.out _ (List.getElem_mem K1.out) _ _ _ _ (List.getElem_mem K2.out) HX.out HY.out).mono ?_
        rintro e w2 ⟨r, rfl, hr, f2⟩
        have F2 := Lib.hid f2; have HR := Lib.hid hr; clear f2 hr
        cases r with
        | true =>
          have hne : Nd.norms (l.take (k + 1)) = Nd.norms (m.take (k + 1)) := by
            rw [Nd.norms_take K1.out, Nd.norms_take K2.out, HQ.out, HR.out.1 rfl]
          have HNE := Lib.hid hne; clear hne
          go_wp2
          go_roundw
          case rel => exact ⟨k + 1, by go_num, by omega, HNE.out, FR.out.trans' F2.out⟩
          case measure => simp [intOf]; omega
        | false =>
          go_wp2
          go_ret
          exact ⟨false, rfl, ⟨fun h => (nomatch h), fun h => HR.out.2 (Nd.norms_at h K1.out K2.out)⟩, FR.out.trans' F2.out⟩
      · obtain rfl : k = n := by omega
        go_wp2
        go_ret
        refine ⟨true, rfl, ⟨fun _ => ?_, fun _ => rfl⟩, FR.out⟩
        have := HQ.out
        rwa [List.take_of_length_le (by have := HN.out; have := HLM.out; omega), List.take_of_length_le (by have := HN.out; omega)] at this
  · have h1 : (((l.length : Nat) : Int) != ((m.length : Nat) : Int)) = true := by simp; omega
    have HLM := Lib.hid hlm
    obtain ⟨n, hn⟩ : ∃ n, m.length = n := ⟨_, rfl⟩
    obtain ⟨n', hn'⟩ : ∃ n, l.length = n := ⟨_, rfl⟩
    rw [hn, hn'] at h1
    rw [hn] at hm ⊢
    rw [hn'] at hl ⊢
    have h2 : ¬ (n' : Int) = n := by simpa using h1
    clear hlm hn hn'
    go_enter Tryz.func35, Tryz.ntmps35
    go_wp2_with fail
    go_ret
    exact ⟨false, rfl, ⟨fun h => (nomatch h), fun h => (HLM.out (Nd.norms_len h)).elim⟩, Fr.refl _ _⟩

set_option maxRecDepth 100000 in
set_option maxHeartbeats 1000000 in
theorem same_any (m : Nat) : ∀ (a b : Nd) (va vb : Value) (w : World), a.size ≤ m → a.size ≤ 3000000 → b.size ≤ 3000000 → RN nob w a va → RN nob w b vb →
    Calls Tryz.prog 17 #[va, vb] w (SameIs a b w) := by
  induction m with
  | zero => intro a b va vb w h; have := a.size_pos; omega
  | succ m ih =>
    intro a b va vb w hm ha hb hra hrb
    have IH := Lib.hid ih; clear ih
    have HA := Lib.hid hra; have HB := Lib.hid hrb; clear hra hrb
    have hska := Lib.hid a.size_kids
    have hskb := Lib.hid b.size_kids
    have hlka := Nd.length_le a.kids
    have hlkb := Nd.length_le b.kids
    have hkla : a.kids.length ≤ 3000000 := by have := hska.out; omega
    have hklb : b.kids.length ≤ 3000000 := by have := hskb.out; omega
    have HKB := Lib.hid (fun y (hy : y ∈ b.kids) => (Nat.le_trans (Nat.le_of_lt (Nd.kid_lt hy)) hb : y.size ≤ 3000000))
    have HKA := Lib.hid (fun y (hy : y ∈ a.kids) => (Nat.le_of_lt_succ (Nat.lt_of_lt_of_le (Nd.kid_lt hy) hm) : y.size ≤ m))
    have HKA2 := Lib.hid (fun y (hy : y ∈ a.kids) => (Nat.le_trans (Nat.le_of_lt (Nd.kid_lt hy)) ha : y.size ≤ 3000000))
    clear hlka hlkb
    have hsame := Lib.hid (Nd.same_iff a b)
    obtain ⟨p, hp⟩ : ∃ p, a.head b = p := ⟨_, rfl⟩
    have HP := Lib.hid hp; clear hp
    go_enter Tryz.func17, Tryz.ntmps17
    go_wp2_with fail
    refine (head_any a b va vb w HA.out HB.out).mono ?_
    rw [HP.out]
    rintro e w1 ⟨rfl, f1⟩
    have F1 := Lib.hid f1; clear f1
    cases p with
    | false =>
      go_wp2
      go_ret
      exact ⟨false, rfl, ⟨fun h => (nomatch h), fun h => by have h1 := (hsame.out.1 h).1; rw [HP.out] at h1; exact h1⟩, F1.out⟩
    | true =>
      go_wp2_with fail
      refine (kids_any nob a va w1 (HA.out.on F1.out) (fun _ x => x.elim)).mono ?_
      rintro e w2 ⟨u, rfl, s2, f2⟩
      obtain ⟨q, cq, rfl⟩ := s2.shape
      have F2 := Lib.hid f2; have S2 := Lib.hid s2; clear f2 s2
      go_wp2_with fail
      refine (kids_any nob b vb w2 (HB.out.on (F1.out.trans' F2.out)) (fun _ x => x.elim)).mono ?_
      rintro e w3 ⟨u', rfl, s3, f3⟩
      obtain ⟨q', cq', rfl⟩ := s3.shape
      have F3 := Lib.hid f3; have S3 := Lib.hid s3; clear f3 s3
      go_wp2_with fail
      refine (equalFunc_any a.kids b.kids _ _ w3 hkla hklb (fun x hx y vx vy wq hy hvx hvy => IH.out x y vx vy wq (HKA.out x hx) (HKA2.out x hx) (HKB.out y hy) hvx hvy) (S2.out.on F3.out) S3.out).mono ?_
      rintro e w4 ⟨r, rfl, hr, f4⟩
      have F4 := Lib.hid f4; have HR := Lib.hid hr; clear f4 hr
      go_wp2
      go_ret
      exact ⟨r, rfl, ⟨fun h => hsame.out.2 ⟨HP.out, HR.out.1 h⟩, fun h => HR.out.2 (hsame.out.1 h).2⟩, F1.out.trans' (F2.out.trans' (F3.out.trans' F4.out))⟩

end Go.Proofs.YtmoeboknelnaoaaGreatDoor
