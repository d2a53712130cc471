/-
  Merged texts of this claim: TreeJ, TreeK, RefH.
-/
import Derived.Test.YtpcpmjaphjkphaaDoorM03
import Derived.Test.YtpcpmjaphjkphaaDoorM13

/-
  Walks of package tree: head, Same; Deep, Groups, Backs; Holds.
-/
namespace Go.Proofs.YtpcpmjaphjkphaaDoor
open Go.RowKit

theorem RN.miss {S : Nat → Prop} {w : World} {n : Nd} {v : Value} {i0 : TypeId} (h : RN S w n v) (hn : n.ty ≠ some i0) : v = .nilIface ∨ ∃ i x, v = .iface i x ∧ i ≠ i0 := by
  rcases h.tyv with ⟨_, rfl⟩ | ⟨i, x, ht, rfl⟩
  · exact .inl rfl
  · exact .inr ⟨i, x, rfl, fun e => hn (by rw [ht, e])⟩

theorem told_head (a b : Nd) : a.told.head b = a.head b := by cases a <;> cases b <;> rfl

set_option maxRecDepth 100000 in
set_option maxHeartbeats 4000000 in
theorem head_any (a b : Nd) (va vb : Value) (w : World) (ha : RN nob w a va) (hb : RN nob w b vb) :
    Calls Tryd.prog 47 #[va, vb] w fun e w' => e = .returned (.bool (a.head b)) ∧ Fr nob w w' := by
  rw [← told_head]
  have HB := Lib.hid hb; clear hb
  have HA := Lib.hid ha; clear ha
  obtain ⟨c, hc⟩ : ∃ c, a.told = c := ⟨_, rfl⟩
  have hnn : c ≠ .nil := by rw [← hc]; cases a <;> simp [Nd.told]
  rw [hc]
  have HC := Lib.hid hc; clear hc
  go_enter Tryd.func47, Tryd.ntmps47
  go_wp2_with fail
  refine (told_any nob a va w HA.out).mono ?_
  rintro e w1 ⟨u, rfl, hu, rfl⟩
  rw [HC.out] at hu
  clear HA HC
  have hk := hu.kind
  clear hu
  cases c with
  | nil => exact (hnn rfl).elim
  | cat l =>
    clear hnn
    obtain ⟨q, cp, rfl, _⟩ := hk
    by_cases hh : b.ty = some 65
    · cases b <;> simp [Nd.ty] at hh
      obtain ⟨qb, cb, rfl, _⟩ := HB.out.kind
      go_wp2
      go_ret
      exact ⟨rfl, ((Fr.refl _ _).alloc _).alloc _⟩
    · have hr : Nd.head (.cat l) b = false := by cases b <;> first | rfl | (simp [Nd.ty] at hh)
      have HRR := Lib.hid hr
      rcases HB.out.miss hh with rfl | ⟨i, x, rfl, hi⟩
      all_goals
        clear hr hh
        go_wp2
        go_ret
        exact ⟨ret_bool HRR.out.symm, ((Fr.refl _ _).alloc _).alloc _⟩
  | one s =>
    clear hnn
    obtain rfl := hk
    rw [S4.cells_eq]
    by_cases hh : b.ty = some 75
    · obtain ⟨t, rfl⟩ : ∃ t, b = .one t := by cases b <;> simp [Nd.ty] at hh ⊢
      obtain rfl := HB.out.kind
      rw [S4.cells_eq]
      clear hh
      obtain ⟨a1, b1, c1, d1⟩ := s
      obtain ⟨a2, b2, c2, d2⟩ := t
      have hr : Nd.head (.one ⟨a1, b1, c1, d1⟩) (.one ⟨a2, b2, c2, d2⟩) = S4.same ⟨a1, b1, c1, d1⟩ ⟨a2, b2, c2, d2⟩ := rfl
      have HRR := Lib.hid hr; clear hr
      cases hp : S4.same ⟨a1, b1, c1, d1⟩ ⟨a2, b2, c2, d2⟩
      all_goals
        have HPP := Lib.hid hp
        go_wp2
        go_ret
        exact ⟨ret_bool (HRR.out.trans HPP.out).symm, ((Fr.refl _ _).alloc _).alloc _⟩
    · have hr : Nd.head (.one s) b = false := by cases b <;> first | rfl | (simp [Nd.ty] at hh)
      have HRR := Lib.hid hr
      rcases HB.out.miss hh with rfl | ⟨i, x, rfl, hi⟩
      all_goals
        clear hr hh
        go_wp2
        go_ret
        exact ⟨ret_bool HRR.out.symm, ((Fr.refl _ _).alloc _).alloc _⟩
  | alt l =>
    clear hnn
    obtain ⟨q, cp, rfl, _⟩ := hk
    have hr : Nd.head (.alt l) b = b.isAlt := by cases b <;> rfl
    have HRR := Lib.hid hr; clear hr
    go_wp2_with fail
    refine (alt_any nob b vb _ (HB.out.on ((Fr.refl _ _).alloc _))).mono ?_
    rintro e w2 ⟨rfl, f2⟩
    go_wp2
    go_ret
    exact ⟨ret_bool HRR.out.symm, ((Fr.refl _ _).alloc _).trans' f2⟩
  | rep y mn mx =>
    clear hnn
    obtain ⟨uy, rfl, hy⟩ := hk
    have hysh := hy.shape
    clear hy
    by_cases hh : b.ty = some 32
    · obtain ⟨z, mn', mx', rfl⟩ : ∃ z mn' mx', b = .rep z mn' mx' := by cases b <;> simp [Nd.ty] at hh ⊢
      obtain ⟨uz, rfl, hz⟩ := HB.out.kind
      have hzsh := hz.shape
      clear hz hh HB
      have hr : Nd.head (.rep y mn mx) (.rep z mn' mx') = (decide (mn = mn') && decide (mx = mx')) := rfl
      have HRR := Lib.hid hr; clear hr
      by_cases h1 : mn = mn'
      · subst h1
        by_cases h2 : mx = mx'
        · subst h2
          rcases hysh with rfl | ⟨iy, xy, rfl⟩ <;> rcases hzsh with rfl | ⟨iz, xz, rfl⟩
          all_goals
            go_wp2
            go_ret
            exact ⟨ret_bool (by first | (rw [HRR.out]; done) | (rw [HRR.out]; simp; done) | (rw [HRR.out]; simp [*]; done)), ((Fr.refl _ _).alloc _).alloc _⟩
        · have h3 : (mx == mx') = false := by simpa using h2
          rcases hysh with rfl | ⟨iy, xy, rfl⟩ <;> rcases hzsh with rfl | ⟨iz, xz, rfl⟩
          all_goals
            go_wp2
            go_ret
            exact ⟨ret_bool (by first | (rw [HRR.out]; done) | (rw [HRR.out]; simp; done) | (rw [HRR.out]; simp [*]; done)), ((Fr.refl _ _).alloc _).alloc _⟩
      · have h3 : (mn == mn') = false := by simpa using h1
        rcases hysh with rfl | ⟨iy, xy, rfl⟩ <;> rcases hzsh with rfl | ⟨iz, xz, rfl⟩
        all_goals
          go_wp2
          go_ret
          exact ⟨ret_bool (by first | (rw [HRR.out]; done) | (rw [HRR.out]; simp; done) | (rw [HRR.out]; simp [*]; done)), ((Fr.refl _ _).alloc _).alloc _⟩
    · have hr : Nd.head (.rep y mn mx) b = false := by cases b <;> first | rfl | (simp [Nd.ty] at hh)
      have HRR := Lib.hid hr
      rcases HB.out.miss hh with rfl | ⟨i, x, rfl, hi⟩ <;> rcases hysh with rfl | ⟨iy, xy, rfl⟩
      all_goals
        clear hr hh
        go_wp2
        go_ret
        exact ⟨ret_bool HRR.out.symm, ((Fr.refl _ _).alloc _).alloc _⟩
  | group n y =>
    clear hnn
    obtain ⟨uy, rfl, hy⟩ := hk
    have hysh := hy.shape
    clear hy
    by_cases hh : b.ty = some 43
    · obtain ⟨m, z, rfl⟩ : ∃ m z, b = .group m z := by cases b <;> simp [Nd.ty] at hh ⊢
      obtain ⟨uz, rfl, hz⟩ := HB.out.kind
      have hzsh := hz.shape
      clear hz hh HB
      have hr : Nd.head (.group n y) (.group m z) = decide (n = m) := rfl
      by_cases h1 : n = m
      · subst h1
        have HRR := Lib.hid (show Nd.head (.group n y) (.group n z) = true by rw [hr]; simp); clear hr
        rcases hysh with rfl | ⟨iy, xy, rfl⟩ <;> rcases hzsh with rfl | ⟨iz, xz, rfl⟩
        all_goals
          go_wp2
          go_ret
          exact ⟨ret_bool (by rw [HRR.out]), ((Fr.refl _ _).alloc _).alloc _⟩
      · have HRR := Lib.hid (show Nd.head (.group n y) (.group m z) = false by rw [hr]; simp [h1]); clear hr
        have h2 : (n == m) = false := by simpa using h1
        rcases hysh with rfl | ⟨iy, xy, rfl⟩ <;> rcases hzsh with rfl | ⟨iz, xz, rfl⟩
        all_goals
          go_wp2
          go_ret
          exact ⟨ret_bool (by rw [HRR.out]), ((Fr.refl _ _).alloc _).alloc _⟩
    · have hr : Nd.head (.group n y) b = false := by cases b <;> first | rfl | (simp [Nd.ty] at hh)
      have HRR := Lib.hid hr
      rcases HB.out.miss hh with rfl | ⟨i, x, rfl, hi⟩ <;> rcases hysh with rfl | ⟨iy, xy, rfl⟩
      all_goals
        clear hr hh
        go_wp2
        go_ret
        exact ⟨ret_bool HRR.out.symm, ((Fr.refl _ _).alloc _).alloc _⟩
  | back n =>
    clear hnn
    obtain rfl := hk
    by_cases hh : b.ty = some 79
    · obtain ⟨m, rfl⟩ : ∃ m, b = .back m := by cases b <;> simp [Nd.ty] at hh ⊢
      obtain rfl := HB.out.kind
      clear hh HB
      have hr : Nd.head (.back n) (.back m) = decide (n = m) := rfl
      have HRR := Lib.hid hr; clear hr
      by_cases h1 : n = m
      · subst h1
        go_wp2
        go_ret
        exact ⟨ret_bool (by rw [HRR.out]; simp), ((Fr.refl _ _).alloc _).alloc _⟩
      · have h2 : (n == m) = false := by simpa using h1
        go_wp2
        go_ret
        exact ⟨ret_bool (by rw [HRR.out]; simp [h1]), ((Fr.refl _ _).alloc _).alloc _⟩
    · have hr : Nd.head (.back n) b = false := by cases b <;> first | rfl | (simp [Nd.ty] at hh)
      have HRR := Lib.hid hr
      rcases HB.out.miss hh with rfl | ⟨i, x, rfl, hi⟩
      all_goals
        clear hr hh
        go_wp2
        go_ret
        exact ⟨ret_bool HRR.out.symm, ((Fr.refl _ _).alloc _).alloc _⟩
  | start =>
    clear hnn
    obtain rfl := hk
    by_cases hh : b.ty = some 87
    · cases b <;> simp [Nd.ty] at hh
      obtain rfl := HB.out.kind
      go_wp2
      go_ret
      exact ⟨rfl, ((Fr.refl _ _).alloc _).alloc _⟩
    · have hr : Nd.head .start b = false := by cases b <;> first | rfl | (simp [Nd.ty] at hh)
      have HRR := Lib.hid hr
      rcases HB.out.miss hh with rfl | ⟨i, x, rfl, hi⟩
      all_goals
        clear hr hh
        go_wp2
        go_ret
        exact ⟨ret_bool HRR.out.symm, ((Fr.refl _ _).alloc _).alloc _⟩
  | fin =>
    clear hnn
    obtain rfl := hk
    by_cases hh : b.ty = some 88
    · cases b <;> simp [Nd.ty] at hh
      obtain rfl := HB.out.kind
      go_wp2
      go_ret
      exact ⟨rfl, ((Fr.refl _ _).alloc _).alloc _⟩
    · have hr : Nd.head .fin b = false := by cases b <;> first | rfl | (simp [Nd.ty] at hh)
      have HRR := Lib.hid hr
      rcases HB.out.miss hh with rfl | ⟨i, x, rfl, hi⟩
      all_goals
        clear hr hh
        go_wp2
        go_ret
        exact ⟨ret_bool HRR.out.symm, ((Fr.refl _ _).alloc _).alloc _⟩
  | empty =>
    clear hnn
    obtain rfl := hk
    go_wp2_with fail
    refine (told_any nob b vb _ HB.out).mono ?_
    rintro e w2 ⟨ub, rfl, hub, rfl⟩
    by_cases hh : b.told.ty = some 107
    · have hr : Nd.head .empty b = true := by cases b <;> simp [Nd.ty, Nd.told] at hh <;> rfl
      have HRR := Lib.hid hr
      rcases hub.tyv with ⟨ht, rfl⟩ | ⟨i, x, ht, rfl⟩
      · rw [ht] at hh; cases hh
      · rw [ht] at hh; injection hh with hh; subst hh
        have hx : x = .agg #[] := by
          have := hub.kind
          cases b <;> simp [Nd.ty, Nd.told] at ht <;> (simp [Nd.told, KindIs] at this; exact this)
        subst hx
        clear hr ht hub
        go_wp2
        go_ret
        exact ⟨ret_bool HRR.out.symm, (Fr.refl _ _).alloc _⟩
    · have hr : Nd.head .empty b = false := by cases b <;> first | rfl | (simp [Nd.ty, Nd.told] at hh)
      have HRR := Lib.hid hr
      rcases hub.miss hh with rfl | ⟨i, x, rfl, hi⟩
      all_goals
        clear hr hh hub
        go_wp2
        go_ret
        exact ⟨ret_bool HRR.out.symm, (Fr.refl _ _).alloc _⟩

end Go.Proofs.YtpcpmjaphjkphaaDoor

/-
  Walks of package tree: EqualFunc, Same; Deep, Groups, Backs; Holds.
-/
namespace Go.Proofs.YtpcpmjaphjkphaaDoor
open Go.RowKit

/-- Same's answer. -/
def SameIs (a b : Nd) (w : World) (e : Ending) (w' : World) : Prop := ∃ r : Bool, e = .returned (.bool r) ∧ (r = true ↔ a.norm = b.norm) ∧ Fr nob w w'

theorem Nd.norms_take {l : List Nd} {k : Nat} (h : k < l.length) : Nd.norms (l.take (k + 1)) = Nd.norms (l.take k) ++ [l[k].norm] := by
  simp only [Nd.norms_eq]; rw [List.take_succ_eq_append_getElem h, List.map_append]; rfl
theorem Nd.norms_at {l m : List Nd} (h : Nd.norms l = Nd.norms m) {k : Nat} (h1 : k < l.length) (h2 : k < m.length) : l[k].norm = m[k].norm := by
  have e := congrArg (fun x => x[k]?) h
  simp only [Nd.norms_eq, List.getElem?_map, List.getElem?_eq_getElem h1, List.getElem?_eq_getElem h2, Option.map_some, Option.some.injEq] at e
  exact e
theorem Nd.norms_len {l m : List Nd} (h : Nd.norms l = Nd.norms m) : l.length = m.length := by
  have e := congrArg List.length h
  simpa only [Nd.norms_eq, List.length_map] using e

set_option maxRecDepth 100000 in
set_option maxHeartbeats 1000000 in
theorem equalFunc_any (l m : List Nd) (u v : Value) (w : World) (hl : l.length ≤ 3000000) (hm : m.length ≤ 3000000)
    (hc : ∀ x ∈ l, ∀ (y : Nd) (vx vy : Value) (w : World), y ∈ m → RN nob w x vx → RN nob w y vy → Calls Tryd.prog 33 #[vx, vy] w (SameIs x y w)) (hu : SN nob w l u) (hv : SN nob w m v) :
    Calls Tryd.prog 48 #[u, v, .func (.func 33) #[] #[]] w fun e w' => ∃ r : Bool, e = .returned (.bool r) ∧ (r = true ↔ Nd.norms l = Nd.norms m) ∧ Fr nob w w' := by
  obtain ⟨a, c, rfl⟩ := hu.shape
  obtain ⟨a', c', rfl⟩ := hv.shape
  have HU := Lib.hid hu; have HV := Lib.hid hv; have HC := Lib.hid hc; clear hu hv hc
  by_cases hlm : l.length = m.length
  · have h1 : ((l.length : Int) != (m.length : Int)) = false := by rw [hlm]; simp
    have HLM := Lib.hid hlm
    obtain ⟨n, hn⟩ : ∃ n, m.length = n := ⟨_, rfl⟩
    rw [hlm, hn] at hl ⊢
    rw [hn] at hm
    have HN := Lib.hid hn
    clear hlm hn h1
    go_enter Tryd.func48, Tryd.ntmps48
    go_wp2_with fail
    go_loopw [17] (fun i wr => ∃ k : Nat, i = .int .i64 k ∧ k ≤ n ∧ Nd.norms (l.take k) = Nd.norms (m.take k) ∧ Fr nob w wr) (fun i _ => n - (intOf i).toNat)
    case atStart => exact ⟨0, rfl, Nat.zero_le _, rfl, Fr.refl _ _⟩
    case round =>
      obtain ⟨k, rfl, hk, hq, fr⟩ := hrel
      have HQ := Lib.hid hq; have FR := Lib.hid fr; clear hq fr
      by_cases hlt : k < n
      · have k1 : k < l.length := by have := HN.out; have := HLM.out; omega
        have k2 : k < m.length := by have := HN.out; omega
        obtain ⟨g, off, cap, x, he, hx, hcx⟩ := (HU.out.on FR.out).get k1
        obtain ⟨g', off', cap', y, he', hy, hcy⟩ := (HV.out.on FR.out).get k2
        rw [HLM.out, HN.out] at he
        rw [HN.out] at he'
        injection he with e1 e2 e3
        injection he' with e1' e2' e3'
        subst e1 e3 e1' e3'
        have K1 := Lib.hid k1; have K2 := Lib.hid k2
        have HX := Lib.hid hx; have HY := Lib.hid hy; clear hx hy e2 e2'
        go_wp2_with fail
        refine (HC.out _ (List.getElem_mem K1.out) _ _ _ _ (List.getElem_mem K2.out) HX.out HY.out).mono ?_
        rintro e w2 ⟨r, rfl, hr, f2⟩
        have F2 := Lib.hid f2; have HR := Lib.hid hr; clear f2 hr
        cases r with
        | true =>
          have hne : Nd.norms (l.take (k + 1)) = Nd.norms (m.take (k + 1)) := by
            rw [Nd.norms_take K1.out, Nd.norms_take K2.out, HQ.out, HR.out.1 rfl]
          have HNE := Lib.hid hne; clear hne
          go_wp2
          go_roundw
          case rel => exact ⟨k + 1, by go_num, by omega, HNE.out, FR.out.trans' F2.out⟩
          case measure => simp [intOf]; omega
        | false =>
          go_wp2
          go_ret
          exact ⟨false, rfl, ⟨fun h => (nomatch h), fun h => HR.out.2 (Nd.norms_at h K1.out K2.out)⟩, FR.out.trans' F2.out⟩
      · obtain rfl : k = n := by omega
        go_wp2
        go_ret
        refine ⟨true, rfl, ⟨fun _ => ?_, fun _ => rfl⟩, FR.out⟩
        have := HQ.out
        rwa [List.take_of_length_le (by have := HN.out; have := HLM.out; omega), List.take_of_length_le (by have := HN.out; omega)] at this
  · have h1 : (((l.length : Nat) : Int) != ((m.length : Nat) : Int)) = true := by simp; omega
    have HLM := Lib.hid hlm
    obtain ⟨n, hn⟩ : ∃ n, m.length = n := ⟨_, rfl⟩
    obtain ⟨n', hn'⟩ : ∃ n, l.length = n := ⟨_, rfl⟩
    rw [hn, hn'] at h1
    rw [hn] at hm ⊢
    rw [hn'] at hl ⊢
    have h2 : ¬ (n' : Int) = n := by simpa using h1
    clear hlm hn hn'
    go_enter Tryd.func48, Tryd.ntmps48
    go_wp2_with fail
    go_ret
    exact ⟨false, rfl, ⟨fun h => (nomatch h), fun h => (HLM.out (Nd.norms_len h)).elim⟩, Fr.refl _ _⟩

set_option maxRecDepth 100000 in
set_option maxHeartbeats 1000000 in
theorem same_any (m : Nat) : ∀ (a b : Nd) (va vb : Value) (w : World), a.size ≤ m → a.size ≤ 3000000 → b.size ≤ 3000000 → RN nob w a va → RN nob w b vb →
    Calls Tryd.prog 33 #[va, vb] w (SameIs a b w) := by
  induction m with
  | zero => intro a b va vb w h; have := a.size_pos; omega
  | succ m ih =>
    intro a b va vb w hm ha hb hra hrb
    have IH := Lib.hid ih; clear ih
    have HA := Lib.hid hra; have HB := Lib.hid hrb; clear hra hrb
    have hska := Lib.hid a.size_kids
    have hskb := Lib.hid b.size_kids
    have hlka := Nd.length_le a.kids
    have hlkb := Nd.length_le b.kids
    have hkla : a.kids.length ≤ 3000000 := by have := hska.out; omega
    have hklb : b.kids.length ≤ 3000000 := by have := hskb.out; omega
    have HKB := Lib.hid (fun y (hy : y ∈ b.kids) => (Nat.le_trans (Nat.le_of_lt (Nd.kid_lt hy)) hb : y.size ≤ 3000000))
    have HKA := Lib.hid (fun y (hy : y ∈ a.kids) => (Nat.le_of_lt_succ (Nat.lt_of_lt_of_le (Nd.kid_lt hy) hm) : y.size ≤ m))
    have HKA2 := Lib.hid (fun y (hy : y ∈ a.kids) => (Nat.le_trans (Nat.le_of_lt (Nd.kid_lt hy)) ha : y.size ≤ 3000000))
    clear hlka hlkb
    have hsame := Lib.hid (Nd.same_iff a b)
    obtain ⟨p, hp⟩ : ∃ p, a.head b = p := ⟨_, rfl⟩
    have HP := Lib.hid hp; clear hp
    go_enter Tryd.func33, Tryd.ntmps33
    go_wp2_with fail
    refine (head_any a b va vb w HA.out HB.out).mono ?_
    rw [HP.out]
    rintro e w1 ⟨rfl, f1⟩
    have F1 := Lib.hid f1; clear f1
    cases p with
    | false =>
      go_wp2
      go_ret
      exact ⟨false, rfl, ⟨fun h => (nomatch h), fun h => by have h1 := (hsame.out.1 h).1; rw [HP.out] at h1; exact h1⟩, F1.out⟩
    | true =>
      go_wp2_with fail
      refine (kids_any nob a va w1 (HA.out.on F1.out) (fun _ x => x.elim)).mono ?_
      rintro e w2 ⟨u, rfl, s2, f2⟩
      obtain ⟨q, cq, rfl⟩ := s2.shape
      have F2 := Lib.hid f2; have S2 := Lib.hid s2; clear f2 s2
      go_wp2_with fail
      refine (kids_any nob b vb w2 (HB.out.on (F1.out.trans' F2.out)) (fun _ x => x.elim)).mono ?_
      rintro e w3 ⟨u', rfl, s3, f3⟩
      obtain ⟨q', cq', rfl⟩ := s3.shape
      have F3 := Lib.hid f3; have S3 := Lib.hid s3; clear f3 s3
      go_wp2_with fail
      refine (equalFunc_any a.kids b.kids _ _ w3 hkla hklb (fun x hx y vx vy wq hy hvx hvy => IH.out x y vx vy wq (HKA.out x hx) (HKA2.out x hx) (HKB.out y hy) hvx hvy) (S2.out.on F3.out) S3.out).mono ?_
      rintro e w4 ⟨r, rfl, hr, f4⟩
      have F4 := Lib.hid f4; have HR := Lib.hid hr; clear f4 hr
      go_wp2
      go_ret
      exact ⟨r, rfl, ⟨fun h => hsame.out.2 ⟨HP.out, HR.out.1 h⟩, fun h => HR.out.2 (hsame.out.1 h).2⟩, F1.out.trans' (F2.out.trans' (F3.out.trans' F4.out))⟩

theorem isGroup_ty (n : Nd) : (n.ty = some 43 ∧ n.isGroup = true) ∨ (n.ty ≠ some 43 ∧ n.isGroup = false) := by
  cases n <;> simp [Nd.ty, Nd.isGroup]
theorem isBack_ty (n : Nd) : (n.ty = some 79 ∧ n.isBack = true) ∨ (n.ty ≠ some 79 ∧ n.isBack = false) := by
  cases n <;> simp [Nd.ty, Nd.isBack]
/-- The value of a group; of what is none. -/
theorem RN.group_or {S : Nat → Prop} {w : World} {n : Nd} {v : Value} (h : RN S w n v) : (n.isGroup = true ∧ ∃ k u, v = .iface 43 (.agg #[.int .i64 k, u]) ∧ (u = .nilIface ∨ ∃ i x, u = .iface i x)) ∨ (n.isGroup = false ∧ (v = .nilIface ∨ ∃ i x, v = .iface i x ∧ i ≠ 43)) := by
  rcases isGroup_ty n with ⟨h1, h2⟩ | ⟨h1, h2⟩
  · refine .inl ⟨h2, ?_⟩
    cases n <;> simp [Nd.isGroup] at h2
    obtain ⟨u, hv, hu⟩ := h.kind
    exact ⟨_, u, hv, hu.shape⟩
  · exact .inr ⟨h2, h.miss h1⟩
theorem RN.back_or {S : Nat → Prop} {w : World} {n : Nd} {v : Value} (h : RN S w n v) : (n.isBack = true ∧ ∃ k, v = .iface 79 (.agg #[.int .i64 k])) ∨ (n.isBack = false ∧ (v = .nilIface ∨ ∃ i x, v = .iface i x ∧ i ≠ 79)) := by
  rcases isBack_ty n with ⟨h1, h2⟩ | ⟨h1, h2⟩
  · refine .inl ⟨h2, ?_⟩
    cases n <;> simp [Nd.isBack] at h2
    exact ⟨_, h.kind⟩
  · exact .inr ⟨h2, h.miss h1⟩

set_option maxRecDepth 100000 in
set_option maxHeartbeats 1000000 in
theorem deep_any (m : Nat) : ∀ (n : Nd) (v : Value) (w : World), n.size ≤ m → n.size ≤ 3000000 → RN nob w n v →
    Calls Tryd.prog 13 #[v] w fun e w' => e = .returned (.int .i64 n.deep) ∧ Fr nob w w' := by
  induction m with
  | zero => intro n v w h; have := n.size_pos; omega
  | succ m ih =>
    intro n v w hm hn h
    have IH := Lib.hid ih; clear ih
    have hsk := Lib.hid n.size_kids
    have hlk := Nd.length_le n.kids
    have hkl : n.kids.length ≤ 3000000 := by have := hsk.out; omega
    have hdl := Nd.deeps_le n.kids
    have hdb : Nd.deeps n.kids ≤ 3000000 := by have := hsk.out; omega
    have hdk := Lib.hid n.deep_kids
    obtain ⟨d, hd⟩ : ∃ d, n.deep = d := ⟨_, rfl⟩
    rw [hd] at hdk ⊢
    clear hd hdl hlk
    have HG := Lib.hid h.group_or
    go_enter Tryd.func13, Tryd.ntmps13
    go_wp2_with fail
    refine (kids_any nob n v w h (fun _ x => x.elim)).mono ?_
    rintro e w1 ⟨u, rfl, h1, f1⟩
    obtain ⟨a, c, rfl⟩ := h1.shape
    have H1 := Lib.hid h1; have F1 := Lib.hid f1; clear h1 f1 h
    go_wp2_with fail
    go_loopw [3, 11] (fun s i wr => ∃ k : Nat, i = .int .i64 k ∧ k ≤ n.kids.length ∧ s = .int .i64 ((Nd.deeps (n.kids.take k) : Nat) : Int) ∧ Fr nob w1 wr) (fun _ i _ => n.kids.length - (intOf i).toNat)
    case atStart => exact ⟨0, rfl, Nat.zero_le _, rfl, Fr.refl _ _⟩
    case round =>
      obtain ⟨k, rfl, hk, rfl, fr⟩ := hrel
      have HR := Lib.hid (H1.out.on fr); have FR := Lib.hid fr; clear fr
      by_cases hlt : k < n.kids.length
      · obtain ⟨g, off, cap, x, he, hx, hc⟩ := HR.out.get hlt
        injection he with e1 e2 e3
        subst e1; subst e3
        have hst2 := Lib.hid (Nd.deeps_take hlt)
        have hxs : n.kids[k].size < n.size := Nd.kid_lt (List.getElem_mem hlt)
        have HX := Lib.hid hx; clear hx e2
        go_wp2_with fail
        refine (IH.out n.kids[k] x _ (by omega) (by omega) HX.out).mono ?_
        obtain ⟨dk, hdk2⟩ : ∃ dk, n.kids[k].deep = dk := ⟨_, rfl⟩
        rw [hdk2] at hst2 ⊢
        clear hdk2
        obtain ⟨dt, hdt2⟩ : ∃ dt, Nd.deeps (n.kids.take k) = dt := ⟨_, rfl⟩
        rw [hdt2] at hst2 ⊢
        clear hdt2
        rintro e w2 ⟨rfl, f2⟩
        have F2 := Lib.hid f2; clear f2
        by_cases hle : dk ≤ dt
        · have hmx : max dt dk = dt := by omega
          have HMX := Lib.hid hmx; clear hmx
          go_wp2
          all_goals
            go_roundw
            case rel => exact ⟨k + 1, by go_num, by omega, by rw [hst2.out, HMX.out], FR.out.trans' F2.out⟩
            case measure => simp [intOf]; omega
        · have hmx : max dt dk = dk := by omega
          have HMX := Lib.hid hmx; clear hmx
          go_wp2
          all_goals
            go_roundw
            case rel => exact ⟨k + 1, by go_num, by omega, by rw [hst2.out, HMX.out], FR.out.trans' F2.out⟩
            case measure => simp [intOf]; omega
      · obtain rfl : k = n.kids.length := by omega
        have hT := Lib.hid (List.take_of_length_le (l := n.kids) (Nat.le_refl _))
        rw [hT.out]
        rcases HG.out with ⟨h2, gk, uu, rfl, hsh⟩ | ⟨h2, hsh⟩
        · have HD := Lib.hid (show d = Nd.deeps n.kids + 1 by rw [hdk.out, h2]; rfl)
          clear h2
          rcases hsh with rfl | ⟨iu, xu, rfl⟩
          all_goals
            go_wp2
            go_ret
            exact ⟨ret_int (by rw [HD.out]; first | rfl | (simp; done) | omega), F1.out.trans' (FR.out.alloc _)⟩
        · have HD := Lib.hid (show d = Nd.deeps n.kids by rw [hdk.out, h2]; rfl)
          clear h2
          rcases hsh with rfl | ⟨iu, xu, rfl, hi⟩
          all_goals
            go_wp2
            go_ret
            exact ⟨ret_int (by rw [HD.out]), F1.out.trans' (FR.out.alloc _)⟩

set_option maxRecDepth 100000 in
set_option maxHeartbeats 1000000 in
theorem groups_any (m : Nat) : ∀ (n : Nd) (v : Value) (w : World), n.size ≤ m → n.size ≤ 3000000 → RN nob w n v →
    Calls Tryd.prog 14 #[v] w fun e w' => e = .returned (.int .i64 n.groups) ∧ Fr nob w w' := by
  induction m with
  | zero => intro n v w h; have := n.size_pos; omega
  | succ m ih =>
    intro n v w hm hn h
    have IH := Lib.hid ih; clear ih
    have hsk := Lib.hid n.size_kids
    have hlk := Nd.length_le n.kids
    have hkl : n.kids.length ≤ 3000000 := by have := hsk.out; omega
    have hgl := Nd.groupss_le n.kids
    have hgk := Lib.hid n.groups_kids
    obtain ⟨d, hd⟩ : ∃ d, n.groups = d := ⟨_, rfl⟩
    rw [hd] at hgk ⊢
    clear hd hlk
    have hgb : Nd.groupss n.kids ≤ 3000000 := by have := hsk.out; omega
    have hor := h.group_or
    have HV := Lib.hid h; clear h hgl
    obtain ⟨b, hb1, hb2, hb3⟩ : ∃ b : Nat, b ≤ 1 ∧ d = b + Nd.groupss n.kids ∧ ((b = 1 ∧ ∃ k u, v = .iface 43 (.agg #[.int .i64 k, u]) ∧ (u = .nilIface ∨ ∃ i x, u = .iface i x)) ∨ (b = 0 ∧ (v = .nilIface ∨ ∃ i x, v = .iface i x ∧ i ≠ 43))) := by
      rcases hor with ⟨h1, h2⟩ | ⟨h1, h2⟩
      · exact ⟨1, by omega, by have := hgk.out; rw [h1] at this; simp at this; omega, .inl ⟨rfl, h2⟩⟩
      · exact ⟨0, by omega, by have := hgk.out; rw [h1] at this; simp at this; omega, .inr ⟨rfl, h2⟩⟩
    have HB2 := Lib.hid hb2; clear hb2 hor
    rcases hb3 with ⟨rfl, gk, uu, rfl, hsh⟩ | ⟨rfl, hsh⟩
    · rcases hsh with rfl | ⟨iu, xu, rfl⟩
      all_goals
        go_enter Tryd.func14, Tryd.ntmps14
        go_wp2_with fail
        refine (kids_any nob n _ _ (HV.out.on ((Fr.refl _ _).alloc _)) (fun _ x => x.elim)).mono ?_
        rintro e w1 ⟨u, rfl, h1, f1⟩
        obtain ⟨a, c, rfl⟩ := h1.shape
        have H1 := Lib.hid h1; have F1 := Lib.hid f1; clear h1 f1
        go_wp2_with fail
        go_loopw [3, 19] (fun s i wr => ∃ k : Nat, i = .int .i64 k ∧ k ≤ n.kids.length ∧ s = .int .i64 ((1 + Nd.groupss (n.kids.take k) : Nat) : Int) ∧ Fr nob w1 wr) (fun _ i _ => n.kids.length - (intOf i).toNat)
        case atStart => exact ⟨0, rfl, Nat.zero_le _, rfl, Fr.refl _ _⟩
        case round =>
          obtain ⟨k, rfl, hk, rfl, fr⟩ := hrel
          have HR := Lib.hid (H1.out.on fr); have FR := Lib.hid fr; clear fr
          by_cases hlt : k < n.kids.length
          · obtain ⟨g, off, cap, x, he, hx, hc⟩ := HR.out.get hlt
            injection he with e1 e2 e3
            subst e1; subst e3
            have hst2 := Lib.hid (Nd.groupss_take hlt)
            have hst3 : Nd.groupss (n.kids.take k) + n.kids[k].groups ≤ 3000000 := by
              have := Nd.groupss_append (n.kids.take (k + 1)) (n.kids.drop (k + 1)); rw [List.take_append_drop] at this; have := hst2.out; omega
            have hxs : n.kids[k].size < n.size := Nd.kid_lt (List.getElem_mem hlt)
            have HX := Lib.hid hx; clear hx e2
            go_wp2_with fail
            refine (IH.out n.kids[k] x _ (by omega) (by omega) HX.out).mono ?_
            rintro e w2 ⟨rfl, f2⟩
            have F2 := Lib.hid f2; clear f2
            go_wp2
            go_roundw
            case rel => exact ⟨k + 1, by go_num, by omega, by rw [hst2.out]; go_num, FR.out.trans' F2.out⟩
            case measure => simp [intOf]; omega
          · obtain rfl : k = n.kids.length := by omega
            have hT := Lib.hid (List.take_of_length_le (l := n.kids) (Nat.le_refl _))
            rw [hT.out]
            go_wp2
            go_ret
            exact ⟨ret_int (by rw [HB2.out]), (((Fr.refl _ _).alloc _).trans' F1.out).trans' FR.out⟩
    · rcases hsh with rfl | ⟨iu, xu, rfl, hi⟩
      all_goals
        go_enter Tryd.func14, Tryd.ntmps14
        go_wp2_with fail
        refine (kids_any nob n _ _ (HV.out.on ((Fr.refl _ _).alloc _)) (fun _ x => x.elim)).mono ?_
        rintro e w1 ⟨u, rfl, h1, f1⟩
        obtain ⟨a, c, rfl⟩ := h1.shape
        have H1 := Lib.hid h1; have F1 := Lib.hid f1; clear h1 f1
        go_wp2_with fail
        go_loopw [3, 19] (fun s i wr => ∃ k : Nat, i = .int .i64 k ∧ k ≤ n.kids.length ∧ s = .int .i64 ((Nd.groupss (n.kids.take k) : Nat) : Int) ∧ Fr nob w1 wr) (fun _ i _ => n.kids.length - (intOf i).toNat)
        case atStart => exact ⟨0, rfl, Nat.zero_le _, rfl, Fr.refl _ _⟩
        case round =>
          obtain ⟨k, rfl, hk, rfl, fr⟩ := hrel
          have HR := Lib.hid (H1.out.on fr); have FR := Lib.hid fr; clear fr
          by_cases hlt : k < n.kids.length
          · obtain ⟨g, off, cap, x, he, hx, hc⟩ := HR.out.get hlt
            injection he with e1 e2 e3
            subst e1; subst e3
            have hst2 := Lib.hid (Nd.groupss_take hlt)
            have hst3 : Nd.groupss (n.kids.take k) + n.kids[k].groups ≤ 3000000 := by
              have := Nd.groupss_append (n.kids.take (k + 1)) (n.kids.drop (k + 1)); rw [List.take_append_drop] at this; have := hst2.out; omega
            have hxs : n.kids[k].size < n.size := Nd.kid_lt (List.getElem_mem hlt)
            have HX := Lib.hid hx; clear hx e2
            go_wp2_with fail
            refine (IH.out n.kids[k] x _ (by omega) (by omega) HX.out).mono ?_
            rintro e w2 ⟨rfl, f2⟩
            have F2 := Lib.hid f2; clear f2
            go_wp2
            go_roundw
            case rel => exact ⟨k + 1, by go_num, by omega, by rw [hst2.out]; go_num, FR.out.trans' F2.out⟩
            case measure => simp [intOf]; omega
          · obtain rfl : k = n.kids.length := by omega
            have hT := Lib.hid (List.take_of_length_le (l := n.kids) (Nat.le_refl _))
            rw [hT.out]
            go_wp2
            go_ret
            exact ⟨ret_int (by rw [HB2.out]; simp), (((Fr.refl _ _).alloc _).trans' F1.out).trans' FR.out⟩

theorem enters_Backs : ∀ args w, (callFunc 12 args).run Tryd.prog w = .ok (.enter 12 args) w := enters_f Tryd.func12 (by kernel_rfl) rfl

set_option maxRecDepth 100000 in
set_option maxHeartbeats 1000000 in
theorem backs_any (m : Nat) : ∀ (n : Nd) (v : Value) (w : World), n.size ≤ m → n.size ≤ 3000000 → RN nob w n v →
    Calls Tryd.prog 12 #[v] w fun e w' => e = .returned (.bool n.backs) ∧ Fr nob w w' := by
  induction m with
  | zero => intro n v w h; have := n.size_pos; omega
  | succ m ih =>
    intro n v w hm hn h
    have IH := Lib.hid ih; clear ih
    have hsk := Lib.hid n.size_kids
    have hlk := Nd.length_le n.kids
    have hkl : n.kids.length ≤ 3000000 := by have := hsk.out; omega
    have hbk := n.backs_kids
    obtain ⟨d, hd⟩ : ∃ d, n.backs = d := ⟨_, rfl⟩
    rw [hd] at hbk ⊢
    clear hd hlk
    have HKS := Lib.hid (fun y (hy : y ∈ n.kids) => (by have := Nd.kid_lt hy; omega : y.size ≤ min m 3000000))
    have hor := h.back_or
    have HV := Lib.hid h; clear h
    rcases hor with ⟨h1, k, rfl⟩ | ⟨h1, h2⟩
    · obtain rfl : d = true := by rw [hbk, h1]; rfl
      clear hbk h1
      go_enter Tryd.func12, Tryd.ntmps12
      go_wp2
      go_ret
      exact ⟨rfl, (Fr.refl _ _).alloc _⟩
    · have HB := Lib.hid (show d = n.kids.any Nd.backs by rw [hbk, h1, Nd.backss_eq]; rfl)
      clear hbk h1
      rcases h2 with rfl | ⟨iu, xu, rfl, hi⟩
      all_goals
        go_enter Tryd.func12, Tryd.ntmps12
        go_wp2_with fail
        refine (kids_any nob n _ _ (HV.out.on ((Fr.refl _ _).alloc _)) (fun _ x => x.elim)).mono ?_
        rintro e w1 ⟨u, rfl, h1, f1⟩
        obtain ⟨a, c, rfl⟩ := h1.shape
        have H1 := Lib.hid h1; have F1 := Lib.hid f1; clear h1 f1
        go_wp2_with fail
        refine (containsFunc_any 12 Nd.backs (min m 3000000) (fun y vy wy hy hry => IH.out y vy wy (by omega) (by omega) hry) enters_Backs n.kids _ _ hkl HKS.out H1.out).mono ?_
        rintro e w2 ⟨rfl, f2⟩
        have F2 := Lib.hid f2; clear f2
        go_wp2
        go_ret
        exact ⟨ret_bool HB.out.symm, (((Fr.refl _ _).alloc _).trans' F1.out).trans' F2.out⟩

/-- Is it a One of this set? -/
def Nd.isOne (s : S4) : Nd → Bool
  | .one t => t.same s
  | _ => false

set_option maxRecDepth 100000 in
set_option maxHeartbeats 1000000 in
theorem holds_any (n : Nd) (s : S4) (v : Value) (w : World) (h : RN nob w n v) :
    Calls Tryd.prog 10 #[v, .agg #[.int .u64 s.a, .int .u64 s.b, .int .u64 s.c, .int .u64 s.d]] w fun e w' => e = .returned (.bool (n.isOne s)) ∧ Fr nob w w' := by
  obtain ⟨r, hr⟩ : ∃ r, n.isOne s = r := ⟨_, rfl⟩
  rw [hr]
  by_cases hh : n.ty = some 75
  · obtain ⟨t, rfl⟩ : ∃ t, n = .one t := by cases n <;> simp [Nd.ty] at hh ⊢
    obtain rfl := h.kind
    rw [S4.cells_eq]
    have hr' : S4.same t s = r := hr
    obtain ⟨a1, b1, c1, d1⟩ := s
    obtain ⟨a2, b2, c2, d2⟩ := t
    clear h hr hh
    cases r
    all_goals
      go_enter Tryd.func10, Tryd.ntmps10
      go_wp2
      go_ret
      exact ⟨rfl, ((Fr.refl _ _).alloc _).alloc _⟩
  · obtain rfl : r = false := by rw [← hr]; cases n <;> first | rfl | (simp [Nd.ty] at hh)
    have hm := h.miss hh
    clear h hr hh
    rcases hm with rfl | ⟨i, x, rfl, hi⟩
    all_goals
      go_enter Tryd.func10, Tryd.ntmps10
      go_wp2
      go_ret
      exact ⟨rfl, ((Fr.refl _ _).alloc _).alloc _⟩

end Go.Proofs.YtpcpmjaphjkphaaDoor

/-
  A call's own slice of the document's nodes, and append to it. Walks: list, Ref; Join, Choose of the document.
-/
namespace Go.Proofs.YtpcpmjaphjkphaaDoor
open Go.RowKit

/-- Nodes' cells, one behind the other. -/
def VT (S : Nat → Prop) (w : World) : List T → List Value → Prop
  | [], vs => vs = []
  | t :: ts, vs => ∃ cs r, vs = cs ++ r ∧ cs.length = 9 ∧ RT S w t cs ∧ VT S w ts r

theorem RT.length {S : Nat → Prop} {w : World} {t : T} {cs : List Value} (h : RT S w t cs) : cs.length = 9 := by
  obtain ⟨k, s, ps, mn, mx, nu, a, c, _, rfl, _⟩ := h.open'; rfl
theorem VT.length {S : Nat → Prop} {w : World} : ∀ {l : List T} {vs : List Value}, VT S w l vs → vs.length = l.length * 9
  | [], _, h => by rw [VT] at h; subst h; rfl
  | t :: ts, _, h => by rw [VT] at h; obtain ⟨cs, r, rfl, hl, _, h⟩ := h; rw [List.length_append, hl, VT.length h, List.length_cons]; omega
theorem VT.append {S : Nat → Prop} {w : World} : ∀ {l m : List T} {vs us : List Value}, VT S w l vs → VT S w m us → VT S w (l ++ m) (vs ++ us)
  | [], _, _, _, h, k => by rw [VT] at h; subst h; exact k
  | t :: ts, _, _, _, h, k => by rw [VT] at h; obtain ⟨cs, r, rfl, hl, h1, h⟩ := h; exact ⟨cs, _, by rw [List.append_assoc], hl, h1, VT.append h k⟩
theorem VT.keep {S X S' : Nat → Prop} {w w' : World} (hf : Fr X w w') (hX : ∀ k, k < w.heap.size → X k → S k) (hS : ∀ k, k < w.heap.size → S' k → S k) : ∀ {l : List T} {vs : List Value}, VT S w l vs → VT S' w' l vs
  | [], _, h => by rw [VT] at h ⊢; exact h
  | t :: ts, _, h => by rw [VT] at h ⊢; obtain ⟨cs, r, rfl, hl, h1, h⟩ := h; exact ⟨cs, r, rfl, hl, RT.keep hf hX hS _ _ h1, VT.keep hf hX hS h⟩
theorem RT.cell1 {S : Nat → Prop} {w : World} {t : T} {cs : List Value} (h : RT S w t cs) : ∀ u ∈ cs, u.oneCell' = true := by
  obtain ⟨k, s, ps, mn, mx, nu, a, c, _, rfl, _⟩ := h.open'
  intro u hu
  simp only [List.mem_cons, List.not_mem_nil, or_false] at hu
  rcases hu with rfl | rfl | rfl | rfl | rfl | rfl | rfl | rfl | rfl <;> rfl
theorem VT.cell1 {S : Nat → Prop} {w : World} : ∀ {l : List T} {vs : List Value}, VT S w l vs → ∀ u ∈ vs, u.oneCell' = true
  | [], _, h, u, hu => by rw [VT] at h; subst h; cases hu
  | t :: ts, _, h, u, hu => by
    rw [VT] at h; obtain ⟨cs, r, rfl, hl, h1, h⟩ := h
    rcases List.mem_append.1 hu with hu | hu
    · exact h1.cell1 u hu
    · exact VT.cell1 h u hu

theorem At.left {w : World} {g off : Nat} {a b : List Value} (h : At w g off (a ++ b)) : At w g off a := fun j v hj => h j v (by
  rw [List.getElem?_append_left (List.getElem?_eq_some_iff.1 hj).1]; exact hj)
theorem At.right {w : World} {g off : Nat} {a b : List Value} (h : At w g off (a ++ b)) : At w g (off + a.length) b := fun j v hj => by
  have := h (a.length + j) v (by rw [List.getElem?_append_right (by omega)]; simpa using hj)
  rwa [show off + (a.length + j) = off + a.length + j by omega] at this
theorem At.join {w : World} {g off : Nat} {a b : List Value} (h : At w g off a) (k : At w g (off + a.length) b) : At w g off (a ++ b) := fun j v hj => by
  by_cases hl : j < a.length
  · rw [List.getElem?_append_left hl] at hj; exact h j v hj
  · rw [List.getElem?_append_right (by omega)] at hj
    have := k (j - a.length) v hj
    rwa [show off + a.length + (j - a.length) = off + j by omega] at this

theorem RTs.of {S : Nat → Prop} {w : World} {g : Nat} (hg : ¬ S g) (hs : g < w.heap.size) : ∀ {l : List T} {vs : List Value} {off : Nat}, VT S w l vs → At w g off vs → RTs S w l g off
  | [], _, _, _, _ => by rw [RTs]; trivial
  | t :: ts, _, off, h, ha => by
    rw [VT] at h; obtain ⟨cs, r, rfl, hl, h1, h⟩ := h
    have hr := ha.right
    rw [hl] at hr
    rw [RTs]; exact ⟨hg, hs, ⟨cs, h1, ha.left⟩, RTs.of hg hs h hr⟩
theorem RTs.vals {S : Nat → Prop} {w : World} {g : Nat} : ∀ {l : List T} {off : Nat}, RTs S w l g off → ∃ vs, VT S w l vs ∧ At w g off vs
  | [], _, _ => ⟨[], rfl, fun j v hj => by simp at hj⟩
  | t :: ts, off, h => by
    rw [RTs] at h; obtain ⟨_, _, ⟨cs, h1, h2⟩, h⟩ := h
    obtain ⟨vs, hv, ha⟩ := RTs.vals h
    have hl := h1.length
    exact ⟨cs ++ vs, ⟨cs, vs, rfl, hl, h1, hv⟩, At.join h2 (by rw [hl]; exact ha)⟩

/-- A slice of the call's own that holds the document's nodes. -/
theorem ST.of_own {S : Nat → Prop} {w : World} {l : List T} {u : Value} {vs : List Value} {e : TypeId} (h : w.ownsRow 0 e 9 u l.length vs) (hv : VT S w l vs) (hS : ∀ k, u.ownBlock = some k → ¬ S k) : ST S w l u := by
  obtain ⟨_, h⟩ := h
  rcases h with ⟨rfl, h0⟩ | ⟨g, cap, cur, rfl, _, hg, hn, _, _, htake⟩
  · exact .inl ⟨⟨none, 0, rfl⟩, List.length_eq_zero_iff.1 h0⟩
  · refine .inr ⟨g, 0, cap, rfl, hn, RTs.of (hS g rfl) (lt_heap hg) hv ?_⟩
    intro j v hj
    rw [← htake, List.getElem?_take] at hj
    split at hj
    · exact cell_at hg (by simpa using hj)
    · cases hj

/-- A call's own slice of the document's nodes, all of them outside S. -/
def OwnT (S : Nat → Prop) (w : World) (l : List T) (v : Value) (g : Option Nat) : Prop := ∃ vs, w.ownsRow 0 51 9 v l.length vs ∧ VT (LS2 S g) w l vs ∧ v.ownBlock = g ∧ ∀ k, g = some k → ¬ S k

theorem OwnT.nil (S : Nat → Prop) (w : World) : OwnT S w [] (.slice none 0 0) none := ⟨[], World.ownsRow_nil _ _ _ _, rfl, rfl, fun _ h => by cases h⟩
theorem OwnT.shape {S : Nat → Prop} {w : World} {l : List T} {v : Value} {g : Option Nat} (h : OwnT S w l v g) : ∃ a c, v = .slice a l.length c := by
  obtain ⟨vs, h1, _⟩ := h; exact ownsRow_slice h1
theorem OwnT.on {S : Nat → Prop} {w w' : World} {l : List T} {v : Value} {g : Option Nat} (h : OwnT S w l v g) (f : Fr nob w w') : OwnT S w' l v g := by
  obtain ⟨vs, h1, h2, h3, h4⟩ := h
  exact ⟨vs, ownsRow_fr h1 f (fun _ _ x => x), h2.keep f (fun _ _ x => x.elim) (fun _ _ x => x), h3, h4⟩
theorem OwnT.lt {S : Nat → Prop} {w : World} {l : List T} {v : Value} {g : Option Nat} (h : OwnT S w l v g) : ∀ k, g = some k → k < w.heap.size := by
  intro k hk
  obtain ⟨vs, hown, _, hg, _⟩ := h
  rcases hown.2 with ⟨rfl, _⟩ | ⟨r, cap, cur, rfl, _, hr, _⟩
  · rw [← hg] at hk; cases hk
  · rw [← hg] at hk; injection hk with hk; subst hk; exact lt_heap hr
theorem OwnT.st {S : Nat → Prop} {w : World} {l : List T} {v : Value} {g : Option Nat} (h : OwnT S w l v g) : ST S w l v := by
  obtain ⟨vs, h1, h2, h3, h4⟩ := h
  exact ST.of_own h1 (h2.keep (S' := S) (Fr.refl nob w) (fun _ _ x => x.elim) (fun _ _ x => .inl x)) (fun k hk => h4 k (by rw [← h3, hk]))

theorem info_T : (Tryd.prog.info? 51).map (fun i => (i.zero, i.size, i.bytes)) = some (some (.agg #[.int .i64 0, .int .u64 0, .int .u64 0, .int .u64 0, .int .u64 0, .slice none 0 0, .int .i64 0, .int .i64 0, .int .i64 0]), 9, 88) := by kernel_rfl

theorem run_append_zero {P : Program} {w : World} (base : Nat) (t ty e : TypeId) (i : TypeInfo) (size : Nat) (ht : P.underlying t = some (.slice e)) (hi : P.info? e = some i)
    (v : Value) (n : Nat) (xs : List Value) (hown : w.ownsRow base e size v n xs) (a : Option Addr) (c : Nat) :
    (Builtin.append_ #[t, t] ty #[v, .slice a 0 c]).run P w = .ok v w := by
  rcases hown.2 with ⟨rfl, rfl⟩ | ⟨g, cap, cur, rfl, _, _, hnc, _⟩
  · cases a <;> simp [Builtin.append_, run_underlying ht, sizeOf, typeInfo, hi, Builtin.lenOf, Builtin.firstCells, loadCells, loadCellsFrom]
  · cases a <;> simp [Builtin.append_, run_underlying ht, sizeOf, typeInfo, hi, Builtin.lenOf, Builtin.firstCells, hnc, storeCells, loadCells, loadCellsFrom]

theorem wpList_append_t {S : Nat → Prop} {w : World} {ops : Array Oper} {rest : List Oper} {o : Oper} {a : Act} {Q : Exit → Act → World → Prop} (hgd : o.guard = none) (s x : Operand)
    (ho : o.op = .call { callee := .builtin .append, args := #[s, x], argTypes := #[49, 49] })
    (l m : List T) (v ux : Value) (g : Option Nat) (hs : a.eval s = v) (hown : OwnT S w l v g) (hx : a.eval x = ux) (hm : ST (LS2 S g) w m ux) (hS : ∀ k, S k → k < w.heap.size) (hb : l.length + m.length ≤ 3000000)
    (h : ∀ v' w' g', OwnT S w' (l ++ m) v' g' → Fr (fun k => g = some k) w w' → (∀ k, g' = some k → g = some k ∨ w.heap.size ≤ k) → wpList Tryd.prog ops Q rest (a.put o.dst v') w') : wpList Tryd.prog ops Q (o :: rest) a w := by
  obtain ⟨i0, hi, hz0, hz1, hz2⟩ := info_parts info_T
  obtain ⟨vs, h1, h2, h3, h4⟩ := hown
  rcases hm with ⟨⟨ax, cx, rfl⟩, rfl⟩ | ⟨q, off, cap, rfl, _, hm⟩
  · refine wpList_plain hgd fun K hK => ?_
    have hr := run_append_zero (P := Tryd.prog) (w := w) 0 49 o.type 51 i0 9 Tryd.underlying49 hi v l.length vs h1 ax cx
    unfold Oper.wp execOp
    simp only [ho, resolve, invoke, builtin, Sem.run_bind, Sem.run_pure, Result.andThen_ok, List.map_toArray, List.map_cons, List.map_nil, hs, hx, hr]
    exact hK _ _ (h v w g (by rw [List.append_nil]; exact ⟨vs, h1, h2, h3, h4⟩) (Fr.refl _ _) (fun k hk => .inl hk))
  · obtain ⟨us, hu, ha⟩ := RTs.vals hm
    have hul := hu.length
    refine wpList_append_g hgd s x _ ho 51 i0 _ 9 88 Tryd.underlying49 hi hz0 hz1 hz2 rfl (by decide) v l.length vs hs h1 ⟨q, off, none⟩ m.length cap us hx (by omega) (fun j u hj => by have := ha j u hj; by_cases hj0 : j = 0 <;> simpa [Addr.add, hj0] using this) hu.cell1 (by unfold maxLen; omega) (by omega) ?_
    intro v' w' hown' hap
    have hold : ∀ k, v'.ownBlock = some k → g = some k ∨ w.heap.size ≤ k := fun k hk => by
      rcases hap.old k hk with h | h
      · exact .inl (by rw [← h3, h])
      · exact .inr h
    have hfr : Fr (fun k => g = some k) w w' := hap.fr.mono fun k _ hk => by rw [← h3, hk]
    refine h v' w' v'.ownBlock ⟨vs ++ us, by simpa using hown', (VT.append h2 hu).keep hfr (fun _ _ x => .inr x) ?_, rfl, ?_⟩ hfr hold
    · intro k hk x
      rcases x with x | x
      · exact .inl x
      · rcases hold k x with e | e
        · exact .inr e
        · omega
    · intro k hk hsk
      rcases hold k hk with e | e
      · exact h4 k e hsk
      · have := hS k hsk; omega

mutual
/-- The program's node as the document's. -/
def Nd.rf : Nd → T
  | .nil => T.zero
  | .empty => T.zero
  | .one s => .mk 1 s [] 0 0 0
  | .cat l => .mk 2 S4.zero (Nd.rfs l) 0 0 0
  | .alt l => .mk 3 S4.zero (Nd.rfs l) 0 0 0
  | .rep x mn mx => .mk 4 S4.zero [x.rf] mn mx 0
  | .group n x => .mk 5 S4.zero [x.rf] 0 0 n
  | .back n => .mk 6 S4.zero [] 0 0 n
  | .start => .mk 7 S4.zero [] 0 0 0
  | .fin => .mk 8 S4.zero [] 0 0 0
def Nd.rfs : List Nd → List T
  | [] => []
  | t :: ts => t.rf :: Nd.rfs ts
end
theorem Nd.rfs_eq (l : List Nd) : Nd.rfs l = l.map Nd.rf := by
  induction l with
  | nil => rfl
  | cons t ts ih => simp only [Nd.rfs, List.map_cons, ih]
mutual
theorem Nd.rf_nd : ∀ n : Nd, n.rf.nd = n.norm
  | .nil | .empty | .one _ | .back _ | .start | .fin => by simp [Nd.rf, T.zero, T.nd, Nd.norm]
  | .cat l => by simp [Nd.rf, T.nd, Nd.norm, Nd.rfs_nd l]
  | .alt l => by simp [Nd.rf, T.nd, Nd.norm, Nd.rfs_nd l]
  | .rep x _ _ => by simp [Nd.rf, T.nd, Nd.norm, T.nd1, Nd.rf_nd x]
  | .group _ x => by simp [Nd.rf, T.nd, Nd.norm, T.nd1, Nd.rf_nd x]
theorem Nd.rfs_nd : ∀ l : List Nd, T.nds (Nd.rfs l) = Nd.norms l
  | [] => rfl
  | t :: ts => by simp only [Nd.rfs, T.nds, Nd.norms, Nd.rf_nd t, Nd.rfs_nd ts]
end
mutual
theorem Nd.rf_known : ∀ n : Nd, n.rf.known = true
  | .nil | .empty | .one _ | .back _ | .start | .fin => by simp [Nd.rf, T.zero, T.known, T.knowns]
  | .cat l => by simp [Nd.rf, T.known, Nd.rfs_known l]
  | .alt l => by simp [Nd.rf, T.known, Nd.rfs_known l]
  | .rep x _ _ => by simp [Nd.rf, T.known, T.knowns, Nd.rf_known x]
  | .group _ x => by simp [Nd.rf, T.known, T.knowns, Nd.rf_known x]
theorem Nd.rfs_known : ∀ l : List Nd, T.knowns (Nd.rfs l) = true
  | [] => rfl
  | t :: ts => by simp only [Nd.rfs, T.knowns, Nd.rf_known t, Nd.rfs_known ts, Bool.and_self]
end
mutual
theorem Nd.norm_size : ∀ n : Nd, n.norm.size = n.size
  | .nil | .empty | .one _ | .back _ | .start | .fin => by simp [Nd.norm, Nd.size]
  | .cat l => by simp [Nd.norm, Nd.size, Nd.norms_size l]
  | .alt l => by simp [Nd.norm, Nd.size, Nd.norms_size l]
  | .rep x _ _ => by simp [Nd.norm, Nd.size, Nd.norm_size x]
  | .group _ x => by simp [Nd.norm, Nd.size, Nd.norm_size x]
theorem Nd.norms_size : ∀ l : List Nd, Nd.sizes (Nd.norms l) = Nd.sizes l
  | [] => rfl
  | t :: ts => by simp only [Nd.norms, Nd.sizes, Nd.norm_size t, Nd.norms_size ts]
end
theorem Nd.rfs_take {l : List Nd} {k : Nat} (h : k < l.length) : Nd.rfs (l.take (k + 1)) = Nd.rfs (l.take k) ++ [l[k].rf] := by
  simp only [Nd.rfs_eq]; rw [List.take_succ_eq_append_getElem h, List.map_append]; rfl
theorem Nd.rfs_length (l : List Nd) : (Nd.rfs l).length = l.length := by rw [Nd.rfs_eq, List.length_map]

end Go.Proofs.YtpcpmjaphjkphaaDoor
