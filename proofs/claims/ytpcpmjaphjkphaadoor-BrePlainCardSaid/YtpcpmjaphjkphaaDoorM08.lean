/-
  Merged texts of this claim: TreeK, BreA, BreB, BreC.
-/
import Derived.Test.YtpcpmjaphjkphaaDoorM05
import Derived.Test.YtpcpmjaphjkphaaDoorM06
import Derived.Test.YtpcpmjaphjkphaaDoorM07

/-
  Walks of package tree: EqualFunc, Same; Deep, Groups, Backs; Holds.
-/
namespace Go.Proofs.YtpcpmjaphjkphaaDoor
open Go.RowKit

/-- Same's answer. -/
def SameIs (a b : Nd) (w : World) (e : Ending) (w' : World) : Prop := ∃ r : Bool, e = .returned (.bool r) ∧ (r = true ↔ a.norm = b.norm) ∧ Fr nob w w'

theorem Nd.norms_take {l : List Nd} {k : Nat} (h : k < l.length) : Nd.norms (l.take (k + 1)) = Nd.norms (l.take k) ++ [l[k].norm] := by
  simp only [Nd.norms_eq]; rw [List.take_succ_eq_append_getElem h, List.map_append]; rfl
theorem Nd.norms_at {l m : List Nd} (h : Nd.norms l = Nd.norms m) {k : Nat} (h1 : k < l.length) (h2 : k < m.length) : l[k].norm = m[k].norm := by
  have e := congrArg (fun x => x[k]?) h
  simp only [Nd.norms_eq, List.getElem?_map, List.getElem?_eq_getElem h1, List.getElem?_eq_getElem h2, Option.map_some, Option.some.injEq] at e
  exact e
theorem Nd.norms_len {l m : List Nd} (h : Nd.norms l = Nd.norms m) : l.length = m.length := by
  have e := congrArg List.length h
  simpa only [Nd.norms_eq, List.length_map] using e

set_option maxRecDepth 100000 in
set_option maxHeartbeats 1000000 in
theorem equalFunc_any (l m : List Nd) (u v : Value) (w : World) (hl : l.length ≤ 3000000) (hm : m.length ≤ 3000000)
    (hc : ∀ x ∈ l, ∀ (y : Nd) (vx vy : Value) (w : World), y ∈ m → RN nob w x vx → RN nob w y vy → Calls Tryd.prog 33 #[vx, vy] w (SameIs x y w)) (hu : SN nob w l u) (hv : SN nob w m v) :
    Calls Tryd.prog 48 #[u, v, .func (.func 33) #[] #[]] w fun e w' => ∃ r : Bool, e = .returned (.bool r) ∧ (r = true ↔ Nd.norms l = Nd.norms m) ∧ Fr nob w w' := by
  obtain ⟨a, c, rfl⟩ := hu.shape
  obtain ⟨a', c', rfl⟩ := hv.shape
  have HU := Lib.hid hu; have HV := Lib.hid hv; have HC := Lib.hid hc; clear hu hv hc
  by_cases hlm : l.length = m.length
  · have h1 : ((l.length : Int) != (m.length : Int)) = false := by rw [hlm]; simp
    have HLM := Lib.hid hlm
    obtain ⟨n, hn⟩ : ∃ n, m.length = n := ⟨_, rfl⟩
    rw [hlm, hn] at hl ⊢
    rw [hn] at hm
    have HN := Lib.hid hn
    clear hlm hn h1
    go_enter Tryd.func48, Tryd.ntmps48
    go_wp2_with fail
    go_loopw [17] (fun i wr => ∃ k : Nat, i = .int .i64 k ∧ k ≤ n ∧ Nd.norms (l.take k) = Nd.norms (m.take k) ∧ Fr nob w wr) (fun i _ => n - (intOf i).toNat)
    case atStart => exact ⟨0, rfl, Nat.zero_le _, rfl, Fr.refl _ _⟩
    case round =>
      obtain ⟨k, rfl, hk, hq, fr⟩ := hrel
      have HQ := Lib.hid hq; have FR := Lib.hid fr; clear hq fr
      by_cases hlt : k < n
      · have k1 : k < l.length := by have := HN.out; have := HLM.out; omega
        have k2 : k < m.length := by have := HN.out; omega
        obtain ⟨g, off, cap, x, he, hx, hcx⟩ := (HU.out.on FR.out).get k1
        obtain ⟨g', off', cap', y, he', hy, hcy⟩ := (HV.out.on FR.out).get k2
        rw [HLM.out, HN.out] at he
        rw [HN.out] at he'
        injection he with e1 e2 e3
        injection he' with e1' e2' e3'
        subst e1 e3 e1' e3'
        have K1 := Lib.hid k1; have K2 := Lib.hid k2
        have HX := Lib.hid hx; have HY := Lib.hid hy; clear hx hy e2 e2'
        go_wp2_with fail
        refine (HC.out _ (List.getElem_mem K1.out) _ _ _ _ (List.getElem_mem K2.out) HX.out HY.out).mono ?_
        rintro e w2 ⟨r, rfl, hr, f2⟩
        have F2 := Lib.hid f2; have HR := Lib.hid hr; clear f2 hr
        cases r with
        | true =>
          have hne : Nd.norms (l.take (k + 1)) = Nd.norms (m.take (k + 1)) := by
            rw [Nd.norms_take K1.out, Nd.norms_take K2.out, HQ.out, HR.out.1 rfl]
          have HNE := Lib.hid hne; clear hne
          go_wp2
          go_roundw
          case rel => exact ⟨k + 1, by go_num, by omega, HNE.out, FR.out.trans' F2.out⟩
          case measure => simp [intOf]; omega
        | false =>
          go_wp2
          go_ret
          exact ⟨false, rfl, ⟨fun h => (nomatch h), fun h => HR.out.2 (Nd.norms_at h K1.out K2.out)⟩, FR.out.trans' F2.out⟩
      · obtain rfl : k = n := by omega
        go_wp2
        go_ret
        refine ⟨true, rfl, ⟨fun _ => ?_, fun _ => rfl⟩, FR.out⟩
        have := HQ.out
        rwa [List.take_of_length_le (by have := HN.out; have := HLM.out; omega), List.take_of_length_le (by have := HN.out; omega)] at this
  · have h1 : (((l.length : Nat) : Int) != ((m.length : Nat) : Int)) = true := by simp; omega
    have HLM := Lib.hid hlm
    obtain ⟨n, hn⟩ : ∃ n, m.length = n := ⟨_, rfl⟩
    obtain ⟨n', hn'⟩ : ∃ n, l.length = n := ⟨_, rfl⟩
    rw [hn, hn'] at h1
    rw [hn] at hm ⊢
    rw [hn'] at hl ⊢
    have h2 : ¬ (n' : Int) = n := by simpa using h1
    clear hlm hn hn'
    go_enter Tryd.func48, Tryd.ntmps48
    go_wp2_with fail
    go_ret
    exact ⟨false, rfl, ⟨fun h => (nomatch h), fun h => (HLM.out (Nd.norms_len h)).elim⟩, Fr.refl _ _⟩

set_option maxRecDepth 100000 in
set_option maxHeartbeats 1000000 in
theorem same_any (m : Nat) : ∀ (a b : Nd) (va vb : Value) (w : World), a.size ≤ m → a.size ≤ 3000000 → b.size ≤ 3000000 → RN nob w a va → RN nob w b vb →
    Calls Tryd.prog 33 #[va, vb] w (SameIs a b w) := by
  induction m with
  | zero => intro a b va vb w h; have := a.size_pos; omega
  | succ m ih =>
    intro a b va vb w hm ha hb hra hrb
    have IH := Lib.hid ih; clear ih
    have HA := Lib.hid hra; have HB := Lib.hid hrb; clear hra hrb
    have hska := Lib.hid a.size_kids
    have hskb := Lib.hid b.size_kids
    have hlka := Nd.length_le a.kids
    have hlkb := Nd.length_le b.kids
    have hkla : a.kids.length ≤ 3000000 := by have := hska.out; omega
    have hklb : b.kids.length ≤ 3000000 := by have := hskb.out; omega
    have HKB := Lib.hid (fun y (hy : y ∈ b.kids) => (Nat.le_trans (Nat.le_of_lt (Nd.kid_lt hy)) hb : y.size ≤ 3000000))
    have HKA := Lib.hid (fun y (hy : y ∈ a.kids) => (Nat.le_of_lt_succ (Nat.lt_of_lt_of_le (Nd.kid_lt hy) hm) : y.size ≤ m))
    have HKA2 := Lib.hid (fun y (hy : y ∈ a.kids) => (Nat.le_trans (Nat.le_of_lt (Nd.kid_lt hy)) ha : y.size ≤ 3000000))
    clear hlka hlkb
    have hsame := Lib.hid (Nd.same_iff a b)
    obtain ⟨p, hp⟩ : ∃ p, a.head b = p := ⟨_, rfl⟩
    have HP := Lib.hid hp; clear hp
    go_enter Tryd.func33, Tryd.ntmps33
    go_wp2_with fail
    refine (head_any a b va vb w HA.out HB.out).mono ?_
    rw [HP.out]
    rintro e w1 ⟨rfl, f1⟩
    have F1 := Lib.hid f1; clear f1
    cases p with
    | false =>
      go_wp2
      go_ret
      exact ⟨false, rfl, ⟨fun h => (nomatch h), fun h => by have h1 := (hsame.out.1 h).1; rw [HP.out] at h1; exact h1⟩, F1.out⟩
    | true =>
      go_wp2_with fail
      refine (kids_any nob a va w1 (HA.out.on F1.out) (fun _ x => x.elim)).mono ?_
      rintro e w2 ⟨u, rfl, s2, f2⟩
      obtain ⟨q, cq, rfl⟩ := s2.shape
      have F2 := Lib.hid f2; have S2 := Lib.hid s2; clear f2 s2
      go_wp2_with fail
      refine (kids_any nob b vb w2 (HB.out.on (F1.out.trans' F2.out)) (fun _ x => x.elim)).mono ?_
      rintro e w3 ⟨u', rfl, s3, f3⟩
      obtain ⟨q', cq', rfl⟩ := s3.shape
      have F3 := Lib.hid f3; have S3 := Lib.hid s3; clear f3 s3
      go_wp2_with fail
      refine (equalFunc_any a.kids b.kids _ _ w3 hkla hklb (fun x hx y vx vy wq hy hvx hvy => IH.out x y vx vy wq (HKA.out x hx) (HKA2.out x hx) (HKB.out y hy) hvx hvy) (S2.out.on F3.out) S3.out).mono ?_
      rintro e w4 ⟨r, rfl, hr, f4⟩
      have F4 := Lib.hid f4; have HR := Lib.hid hr; clear f4 hr
      go_wp2
      go_ret
      exact ⟨r, rfl, ⟨fun h => hsame.out.2 ⟨HP.out, HR.out.1 h⟩, fun h => HR.out.2 (hsame.out.1 h).2⟩, F1.out.trans' (F2.out.trans' (F3.out.trans' F4.out))⟩

theorem isGroup_ty (n : Nd) : (n.ty = some 43 ∧ n.isGroup = true) ∨ (n.ty ≠ some 43 ∧ n.isGroup = false) := by
  cases n <;> simp [Nd.ty, Nd.isGroup]
theorem isBack_ty (n : Nd) : (n.ty = some 79 ∧ n.isBack = true) ∨ (n.ty ≠ some 79 ∧ n.isBack = false) := by
  cases n <;> simp [Nd.ty, Nd.isBack]
/-- The value of a group; of what is none. -/
theorem RN.group_or {S : Nat → Prop} {w : World} {n : Nd} {v : Value} (h : RN S w n v) : (n.isGroup = true ∧ ∃ k u, v = .iface 43 (.agg #[.int .i64 k, u]) ∧ (u = .nilIface ∨ ∃ i x, u = .iface i x)) ∨ (n.isGroup = false ∧ (v = .nilIface ∨ ∃ i x, v = .iface i x ∧ i ≠ 43)) := by
  rcases isGroup_ty n with ⟨h1, h2⟩ | ⟨h1, h2⟩
  · refine .inl ⟨h2, ?_⟩
    cases n <;> simp [Nd.isGroup] at h2
    obtain ⟨u, hv, hu⟩ := h.kind
    exact ⟨_, u, hv, hu.shape⟩
  · exact .inr ⟨h2, h.miss h1⟩
theorem RN.back_or {S : Nat → Prop} {w : World} {n : Nd} {v : Value} (h : RN S w n v) : (n.isBack = true ∧ ∃ k, v = .iface 79 (.agg #[.int .i64 k])) ∨ (n.isBack = false ∧ (v = .nilIface ∨ ∃ i x, v = .iface i x ∧ i ≠ 79)) := by
  rcases isBack_ty n with ⟨h1, h2⟩ | ⟨h1, h2⟩
  · refine .inl ⟨h2, ?_⟩
    cases n <;> simp [Nd.isBack] at h2
    exact ⟨_, h.kind⟩
  · exact .inr ⟨h2, h.miss h1⟩

set_option maxRecDepth 100000 in
set_option maxHeartbeats 1000000 in
theorem deep_any (m : Nat) : ∀ (n : Nd) (v : Value) (w : World), n.size ≤ m → n.size ≤ 3000000 → RN nob w n v →
    Calls Tryd.prog 13 #[v] w fun e w' => e = .returned (.int .i64 n.deep) ∧ Fr nob w w' := by
  induction m with
  | zero => intro n v w h; have := n.size_pos; omega
  | succ m ih =>
    intro n v w hm hn h
    have IH := Lib.hid ih; clear ih
    have hsk := Lib.hid n.size_kids
    have hlk := Nd.length_le n.kids
    have hkl : n.kids.length ≤ 3000000 := by have := hsk.out; omega
    have hdl := Nd.deeps_le n.kids
    have hdb : Nd.deeps n.kids ≤ 3000000 := by have := hsk.out; omega
    have hdk := Lib.hid n.deep_kids
    obtain ⟨d, hd⟩ : ∃ d, n.deep = d := ⟨_, rfl⟩
    rw [hd] at hdk ⊢
    clear hd hdl hlk
    have HG := Lib.hid h.group_or
    go_enter Tryd.func13, Tryd.ntmps13
    go_wp2_with fail
    refine (kids_any nob n v w h (fun _ x => x.elim)).mono ?_
    rintro e w1 ⟨u, rfl, h1, f1⟩
    obtain ⟨a, c, rfl⟩ := h1.shape
    have H1 := Lib.hid h1; have F1 := Lib.hid f1; clear h1 f1 h
    go_wp2_with fail
    go_loopw [3, 11] (fun s i wr => ∃ k : Nat, i = .int .i64 k ∧ k ≤ n.kids.length ∧ s = .int .i64 ((Nd.deeps (n.kids.take k) : Nat) : Int) ∧ Fr nob w1 wr) (fun _ i _ => n.kids.length - (intOf i).toNat)
    case atStart => exact ⟨0, rfl, Nat.zero_le _, rfl, Fr.refl _ _⟩
    case round =>
      obtain ⟨k, rfl, hk, rfl, fr⟩ := hrel
      have HR := Lib.hid (H1.out.on fr); have FR := Lib.hid fr; clear fr
      by_cases hlt : k < n.kids.length
      · obtain ⟨g, off, cap, x, he, hx, hc⟩ := HR.out.get hlt
        injection he with e1 e2 e3
        subst e1; subst e3
        have hst2 := Lib.hid (Nd.deeps_take hlt)
        have hxs : n.kids[k].size < n.size := Nd.kid_lt (List.getElem_mem hlt)
        have HX := Lib.hid hx; clear hx e2
        go_wp2_with fail
        refine (IH.out n.kids[k] x _ (by omega) (by omega) HX.out).mono ?_
        obtain ⟨dk, hdk2⟩ : ∃ dk, n.kids[k].deep = dk := ⟨_, rfl⟩
        rw [hdk2] at hst2 ⊢
        clear hdk2
        obtain ⟨dt, hdt2⟩ : ∃ dt, Nd.deeps (n.kids.take k) = dt := ⟨_, rfl⟩
        rw [hdt2] at hst2 ⊢
        clear hdt2
        rintro e w2 ⟨rfl, f2⟩
        have F2 := Lib.hid f2; clear f2
        by_cases hle : dk ≤ dt
        · have hmx : max dt dk = dt := by omega
          have HMX := Lib.hid hmx; clear hmx
          go_wp2
          all_goals
            go_roundw
            case rel => exact ⟨k + 1, by go_num, by omega, by rw [hst2.out, HMX.out], FR.out.trans' F2.out⟩
            case measure => simp [intOf]; omega
        · have hmx : max dt dk = dk := by omega
          have HMX := Lib.hid hmx; clear hmx
          go_wp2
          all_goals
            go_roundw
            case rel => exact ⟨k + 1, by go_num, by omega, by rw [hst2.out, HMX.out], FR.out.trans' F2.out⟩
            case measure => simp [intOf]; omega
      · obtain rfl : k = n.kids.length := by omega
        have hT := Lib.hid (List.take_of_length_le (l := n.kids) (Nat.le_refl _))
        rw [hT.out]
        rcases HG.out with ⟨h2, gk, uu, rfl, hsh⟩ | ⟨h2, hsh⟩
        · have HD := Lib.hid (show d = Nd.deeps n.kids + 1 by rw [hdk.out, h2]; rfl)
          clear h2
          rcases hsh with rfl | ⟨iu, xu, rfl⟩
          all_goals
            go_wp2
            go_ret
            exact ⟨ret_int (by rw [HD.out]; first | rfl | (simp; done) | omega), F1.out.trans' (FR.out.alloc _)⟩
        · have HD := Lib.hid (show d = Nd.deeps n.kids by rw [hdk.out, h2]; rfl)
          clear h2
          rcases hsh with rfl | ⟨iu, xu, rfl, hi⟩
          all_goals
            go_wp2
            go_ret
            exact ⟨ret_int (by rw [HD.out]), F1.out.trans' (FR.out.alloc _)⟩

set_option maxRecDepth 100000 in
set_option maxHeartbeats 1000000 in
theorem groups_any (m : Nat) : ∀ (n : Nd) (v : Value) (w : World), n.size ≤ m → n.size ≤ 3000000 → RN nob w n v →
    Calls Tryd.prog 14 #[v] w fun e w' => e = .returned (.int .i64 n.groups) ∧ Fr nob w w' := by
  induction m with
  | zero => intro n v w h; have := n.size_pos; omega
  | succ m ih =>
    intro n v w hm hn h
    have IH := Lib.hid ih; clear ih
    have hsk := Lib.hid n.size_kids
    have hlk := Nd.length_le n.kids
    have hkl : n.kids.length ≤ 3000000 := by have := hsk.out; omega
    have hgl := Nd.groupss_le n.kids
    have hgk := Lib.hid n.groups_kids
    obtain ⟨d, hd⟩ : ∃ d, n.groups = d := ⟨_, rfl⟩
    rw [hd] at hgk ⊢
    clear hd hlk
    have hgb : Nd.groupss n.kids ≤ 3000000 := by have := hsk.out; omega
    have hor := h.group_or
    have HV := Lib.hid h; clear h hgl
    obtain ⟨b, hb1, hb2, hb3⟩ : ∃ b : Nat, b ≤ 1 ∧ d = b + Nd.groupss n.kids ∧ ((b = 1 ∧ ∃ k u, v = .iface 43 (.agg #[.int .i64 k, u]) ∧ (u = .nilIface ∨ ∃ i x, u = .iface i x)) ∨ (b = 0 ∧ (v = .nilIface ∨ ∃ i x, v = .iface i x ∧ i ≠ 43))) := by
      rcases hor with ⟨h1, h2⟩ | ⟨h1, h2⟩
      · exact ⟨1, by omega, by have := hgk.out; rw [h1] at this; simp at this; omega, .inl ⟨rfl, h2⟩⟩
      · exact ⟨0, by omega, by have := hgk.out; rw [h1] at this; simp at this; omega, .inr ⟨rfl, h2⟩⟩
    have HB2 := Lib.hid hb2; clear hb2 hor
    rcases hb3 with ⟨rfl, gk, uu, rfl, hsh⟩ | ⟨rfl, hsh⟩
    · rcases hsh with rfl | ⟨iu, xu, rfl⟩
      all_goals
        go_enter Tryd.func14, Tryd.ntmps14
        go_wp2_with fail
        refine (kids_any nob n _ _ (HV.out.on ((Fr.refl _ _).alloc _)) (fun _ x => x.elim)).mono ?_
        rintro e w1 ⟨u, rfl, h1, f1⟩
        obtain ⟨a, c, rfl⟩ := h1.shape
        have H1 := Lib.hid h1; have F1 := Lib.hid f1; clear h1 f1
        go_wp2_with fail
        go_loopw [3, 19] (fun s i wr => ∃ k : Nat, i = .int .i64 k ∧ k ≤ n.kids.length ∧ s = .int .i64 ((1 + Nd.groupss (n.kids.take k) : Nat) : Int) ∧ Fr nob w1 wr) (fun _ i _ => n.kids.length - (intOf i).toNat)
        case atStart => exact ⟨0, rfl, Nat.zero_le _, rfl, Fr.refl _ _⟩
        case round =>
          obtain ⟨k, rfl, hk, rfl, fr⟩ := hrel
          have HR := Lib.hid (H1.out.on fr); have FR := Lib.hid fr; clear fr
          by_cases hlt : k < n.kids.length
          · obtain ⟨g, off, cap, x, he, hx, hc⟩ := HR.out.get hlt
            injection he with e1 e2 e3
            subst e1; subst e3
            have hst2 := Lib.hid (Nd.groupss_take hlt)
            have hst3 : Nd.groupss (n.kids.take k) + n.kids[k].groups ≤ 3000000 := by
              have := Nd.groupss_append (n.kids.take (k + 1)) (n.kids.drop (k + 1)); rw [List.take_append_drop] at this; have := hst2.out; omega
            have hxs : n.kids[k].size < n.size := Nd.kid_lt (List.getElem_mem hlt)
            have HX := Lib.hid hx; clear hx e2
            go_wp2_with fail
            refine (IH.out n.kids[k] x _ (by omega) (by omega) HX.out).mono ?_
            rintro e w2 ⟨rfl, f2⟩
            have F2 := Lib.hid f2; clear f2
            go_wp2
            go_roundw
            case rel => exact ⟨k + 1, by go_num, by omega, by rw [hst2.out]; go_num, FR.out.trans' F2.out⟩
            case measure => simp [intOf]; omega
          · obtain rfl : k = n.kids.length := by omega
            have hT := Lib.hid (List.take_of_length_le (l := n.kids) (Nat.le_refl _))
            rw [hT.out]
            go_wp2
            go_ret
            exact ⟨ret_int (by rw [HB2.out]), (((Fr.refl _ _).alloc _).trans' F1.out).trans' FR.out⟩
    · rcases hsh with rfl | ⟨iu, xu, rfl, hi⟩
      all_goals
        go_enter Tryd.func14, Tryd.ntmps14
        go_wp2_with fail
        refine (kids_any nob n _ _ (HV.out.on ((Fr.refl _ _).alloc _)) (fun _ x => x.elim)).mono ?_
        rintro e w1 ⟨u, rfl, h1, f1⟩
        obtain ⟨a, c, rfl⟩ := h1.shape
        have H1 := Lib.hid h1; have F1 := Lib.hid f1; clear h1 f1
        go_wp2_with fail
        go_loopw [3, 19] (fun s i wr => ∃ k : Nat, i = .int .i64 k ∧ k ≤ n.kids.length ∧ s = .int .i64 ((Nd.groupss (n.kids.take k) : Nat) : Int) ∧ Fr nob w1 wr) (fun _ i _ => n.kids.length - (intOf i).toNat)
        case atStart => exact ⟨0, rfl, Nat.zero_le _, rfl, Fr.refl _ _⟩
        case round =>
          obtain ⟨k, rfl, hk, rfl, fr⟩ := hrel
          have HR := Lib.hid (H1.out.on fr); have FR := Lib.hid fr; clear fr
          by_cases hlt : k < n.kids.length
          · obtain ⟨g, off, cap, x, he, hx, hc⟩ := HR.out.get hlt
            injection he with e1 e2 e3
            subst e1; subst e3
            have hst2 := Lib.hid (Nd.groupss_take hlt)
            have hst3 : Nd.groupss (n.kids.take k) + n.kids[k].groups ≤ 3000000 := by
              have := Nd.groupss_append (n.kids.take (k + 1)) (n.kids.drop (k + 1)); rw [List.take_append_drop] at this; have := hst2.out; omega
            have hxs : n.kids[k].size < n.size := Nd.kid_lt (List.getElem_mem hlt)
            have HX := Lib.hid hx; clear hx e2
            go_wp2_with fail
            refine (IH.out n.kids[k] x _ (by omega) (by omega) HX.out).mono ?_
            rintro e w2 ⟨rfl, f2⟩
            have F2 := Lib.hid f2; clear f2
            go_wp2
            go_roundw
            case rel => exact ⟨k + 1, by go_num, by omega, by rw [hst2.out]; go_num, FR.out.trans' F2.out⟩
            case measure => simp [intOf]; omega
          · obtain rfl : k = n.kids.length := by omega
            have hT := Lib.hid (List.take_of_length_le (l := n.kids) (Nat.le_refl _))
            rw [hT.out]
            go_wp2
            go_ret
            exact ⟨ret_int (by rw [HB2.out]; simp), (((Fr.refl _ _).alloc _).trans' F1.out).trans' FR.out⟩

theorem enters_Backs : ∀ args w, (callFunc 12 args).run Tryd.prog w = .ok (.enter 12 args) w := enters_f Tryd.func12 (by kernel_rfl) rfl

set_option maxRecDepth 100000 in
set_option maxHeartbeats 1000000 in
theorem backs_any (m : Nat) : ∀ (n : Nd) (v : Value) (w : World), n.size ≤ m → n.size ≤ 3000000 → RN nob w n v →
    Calls Tryd.prog 12 #[v] w fun e w' => e = .returned (.bool n.backs) ∧ Fr nob w w' := by
  induction m with
  | zero => intro n v w h; have := n.size_pos; omega
  | succ m ih =>
    intro n v w hm hn h
    have IH := Lib.hid ih; clear ih
    have hsk := Lib.hid n.size_kids
    have hlk := Nd.length_le n.kids
    have hkl : n.kids.length ≤ 3000000 := by have := hsk.out; omega
    have hbk := n.backs_kids
    obtain ⟨d, hd⟩ : ∃ d, n.backs = d := ⟨_, rfl⟩
    rw [hd] at hbk ⊢
    clear hd hlk
    have HKS := Lib.hid (fun y (hy : y ∈ n.kids) => (by have := Nd.kid_lt hy; omega : y.size ≤ min m 3000000))
    have hor := h.back_or
    have HV := Lib.hid h; clear h
    rcases hor with ⟨h1, k, rfl⟩ | ⟨h1, h2⟩
    · obtain rfl : d = true := by rw [hbk, h1]; rfl
      clear hbk h1
      go_enter Tryd.func12, Tryd.ntmps12
      go_wp2
      go_ret
      exact ⟨rfl, (Fr.refl _ _).alloc _⟩
    · have HB := Lib.hid (show d = n.kids.any Nd.backs by rw [hbk, h1, Nd.backss_eq]; rfl)
      clear hbk h1
      rcases h2 with rfl | ⟨iu, xu, rfl, hi⟩
      all_goals
        go_enter Tryd.func12, Tryd.ntmps12
        go_wp2_with fail
        refine (kids_any nob n _ _ (HV.out.on ((Fr.refl _ _).alloc _)) (fun _ x => x.elim)).mono ?_
        rintro e w1 ⟨u, rfl, h1, f1⟩
        obtain ⟨a, c, rfl⟩ := h1.shape
        have H1 := Lib.hid h1; have F1 := Lib.hid f1; clear h1 f1
        go_wp2_with fail
        refine (containsFunc_any 12 Nd.backs (min m 3000000) (fun y vy wy hy hry => IH.out y vy wy (by omega) (by omega) hry) enters_Backs n.kids _ _ hkl HKS.out H1.out).mono ?_
        rintro e w2 ⟨rfl, f2⟩
        have F2 := Lib.hid f2; clear f2
        go_wp2
        go_ret
        exact ⟨ret_bool HB.out.symm, (((Fr.refl _ _).alloc _).trans' F1.out).trans' F2.out⟩

/-- Is it a One of this set? -/
def Nd.isOne (s : S4) : Nd → Bool
  | .one t => t.same s
  | _ => false

set_option maxRecDepth 100000 in
set_option maxHeartbeats 1000000 in
theorem holds_any (n : Nd) (s : S4) (v : Value) (w : World) (h : RN nob w n v) :
    Calls Tryd.prog 10 #[v, .agg #[.int .u64 s.a, .int .u64 s.b, .int .u64 s.c, .int .u64 s.d]] w fun e w' => e = .returned (.bool (n.isOne s)) ∧ Fr nob w w' := by
  obtain ⟨r, hr⟩ : ∃ r, n.isOne s = r := ⟨_, rfl⟩
  rw [hr]
  by_cases hh : n.ty = some 75
  · obtain ⟨t, rfl⟩ : ∃ t, n = .one t := by cases n <;> simp [Nd.ty] at hh ⊢
    obtain rfl := h.kind
    rw [S4.cells_eq]
    have hr' : S4.same t s = r := hr
    obtain ⟨a1, b1, c1, d1⟩ := s
    obtain ⟨a2, b2, c2, d2⟩ := t
    clear h hr hh
    cases r
    all_goals
      go_enter Tryd.func10, Tryd.ntmps10
      go_wp2
      go_ret
      exact ⟨rfl, ((Fr.refl _ _).alloc _).alloc _⟩
  · obtain rfl : r = false := by rw [← hr]; cases n <;> first | rfl | (simp [Nd.ty] at hh)
    have hm := h.miss hh
    clear h hr hh
    rcases hm with rfl | ⟨i, x, rfl, hi⟩
    all_goals
      go_enter Tryd.func10, Tryd.ntmps10
      go_wp2
      go_ret
      exact ⟨rfl, ((Fr.refl _ _).alloc _).alloc _⟩

end Go.Proofs.YtpcpmjaphjkphaaDoor

/-
  The reader of package bre in memory; walks of ahead, over, take, last.
-/
namespace Go.Proofs.YtpcpmjaphjkphaaDoor
open Go.RowKit

/-- The groups closed, as a call's own slice of ints; the marks, of two cells each. -/
def mkC (l : List (Nat × List UInt8)) : List Value := l.flatMap fun m => [.int .i64 (m.1 : Nat), .string ⟨m.2.toArray⟩]
def OwC (w : World) (l : List Nat) (v : Value) : Prop := w.ownsRow 0 3 1 v l.length (l.map fun (n : Nat) => Value.int .i64 n)
def OwM (w : World) (l : List (Nat × List UInt8)) (v : Value) : Prop := w.ownsRow 0 46 2 v l.length (mkC l)

/-- The blocks that a reading turns: the reader's, its two rows'. -/
structure Br (b : Nat) (l : List UInt8) (s : RxS) (S : Nat → Prop) (cv mv : Value) (w : World) : Prop where
  blk : w.heap[b]? = some (.cells #[.string ⟨l.toArray⟩, .int .i64 s.at_, .int .i64 s.opened, cv, mv] 72 (0, 0))
  cl : OwC w s.closed cv
  ma : OwM w s.marks mv
  nc : ∀ k, cv.ownBlock = some k → k ≠ b ∧ S k
  nm : ∀ k, mv.ownBlock = some k → k ≠ b ∧ S k
  ne : ∀ k, cv.ownBlock = some k → mv.ownBlock ≠ some k
  me : S b
def Rdg (b : Nat) (l : List UInt8) (s : RxS) (S : Nat → Prop) (w : World) : Prop := ∃ cv mv, Br b l s S cv mv w

/-- From one world, with the blocks that may turn, to a later one. -/
structure Stp (S : Nat → Prop) (w : World) (S' : Nat → Prop) (w' : World) : Prop where
  fr : Fr S w w'
  old : ∀ k, k < w.heap.size → S' k → S k
  lt : (∀ k, S k → k < w.heap.size) → ∀ k, S' k → k < w'.heap.size
theorem Stp.refl (S : Nat → Prop) (w : World) : Stp S w S w := ⟨Fr.refl _ _, fun _ _ h => h, fun h => h⟩
theorem Stp.trans {S S' S'' : Nat → Prop} {w w' w'' : World} (h : Stp S w S' w') (k : Stp S' w' S'' w'') : Stp S w S'' w'' :=
  ⟨h.fr.trans k.fr (fun i hi x => h.old i hi x), fun i hi x => h.old i hi (k.old i (Nat.lt_of_lt_of_le hi h.fr.size) x), fun hl => k.lt (h.lt hl)⟩
theorem Stp.of {S : Nat → Prop} {w w' : World} (h : Fr nob w w') : Stp S w S w' := ⟨h.any, fun _ _ x => x, fun hl k hk => Nat.lt_of_lt_of_le (hl k hk) h.size⟩
/-- Blocks that may turn, and others that a tree does not touch. -/
def SO (S O : Nat → Prop) : Nat → Prop := fun k => S k ∨ O k
theorem Stp.rn {S S' O : Nat → Prop} {w w' : World} (h : Stp S w S' w') {t : Nd} {v : Value} (k : RN (SO S O) w t v) : RN (SO S' O) w' t v := RN.keep h.fr (fun _ _ x => .inl x) (fun i hi x => x.elim (fun y => .inl (h.old i hi y)) .inr) t v k
theorem Stp.from {S S' : Nat → Prop} {W w w' : World} (h : Stp S w S' w') (f : Fr nob W w) (hS : ∀ k, S k → W.heap.size ≤ k) : Fr nob W w' :=
  f.trans h.fr (fun i hi x => by have := hS i x; omega)

theorem Br.on {b : Nat} {l : List UInt8} {s : RxS} {S : Nat → Prop} {cv mv : Value} {w w' : World} (h : Br b l s S cv mv w) (f : Fr nob w w') : Br b l s S cv mv w' :=
  ⟨f.heap h.blk (fun x => x), ownsRow_fr h.cl f (fun _ _ x => x), ownsRow_fr h.ma f (fun _ _ x => x), h.nc, h.nm, h.ne, h.me⟩
theorem Rdg.on {b : Nat} {l : List UInt8} {s : RxS} {S : Nat → Prop} {w w' : World} (h : Rdg b l s S w) (f : Fr nob w w') : Rdg b l s S w' := by
  obtain ⟨cv, mv, h⟩ := h; exact ⟨cv, mv, h.on f⟩

/-- A cell of the reader turned. -/
theorem Br.turned {b : Nat} {l : List UInt8} {s : RxS} {S : Nat → Prop} {cv mv : Value} {w : World} (h : Br b l s S cv mv w) (j : Nat) (u : Value) (s' : RxS)
    (hj : (#[.string ⟨l.toArray⟩, .int .i64 s.at_, .int .i64 s.opened, cv, mv] : Array Value).setIfInBounds j u = #[.string ⟨l.toArray⟩, .int .i64 s'.at_, .int .i64 s'.opened, cv, mv]) (hc : s'.closed = s.closed) (hm : s'.marks = s.marks) :
    Br b l s' S cv mv (w.setCell ⟨b, j, none⟩ u) := by
  have hf := (Fr.refl (fun k => k = b) w).setCell (p := ⟨b, j, none⟩) (fun _ => rfl) u
  have hb := heap_setCell_at h.blk j u
  rw [hj] at hb
  exact ⟨hb, by rw [hc]; exact ownsRow_fr h.cl hf (fun k hk e => (h.nc k hk).1 e), by rw [hm]; exact ownsRow_fr h.ma hf (fun k hk e => (h.nm k hk).1 e), h.nc, h.nm, h.ne, h.me⟩
theorem Br.stp {b : Nat} {l : List UInt8} {s : RxS} {S : Nat → Prop} {cv mv : Value} {w : World} (h : Br b l s S cv mv w) (j : Nat) (u : Value) : Stp S w S (w.setCell ⟨b, j, none⟩ u) :=
  ⟨(Fr.refl S w).setCell (p := ⟨b, j, none⟩) (fun _ => h.me) u, fun _ _ x => x, fun hl k hk => by have := hl k hk; simpa [World.setCell] using this⟩

set_option maxRecDepth 100000 in
theorem br_ahead (b : Nat) (l t : List UInt8) (s : RxS) (S : Nat → Prop) (w : World) (hl : l.length ≤ 1000000) (ht : t.length ≤ 1000000) (ha : s.at_ ≤ l.length) (h : Rdg b l s S w) :
    Calls Tryd.prog 38 #[.pointer (some ⟨b, 0, none⟩), .string ⟨t.toArray⟩] w fun x w' => x = .returned (.bool (ahd l s.at_ t)) ∧ Fr nob w w' := by
  obtain ⟨cv, mv, h⟩ := h
  have rr := rule5 h.blk
  clear h
  have hal : (s.at_ : Int) ≤ l.length := by omega
  have hP := fun w : World => strings_HasPrefix (l.drop s.at_) t w (by simp; omega) (by omega)
  have HPP := Lib.hid hP; clear hP
  go_enter Tryd.func38, Tryd.ntmps38
  go_wp2_with fail
  refine region_fr 10 (by kernel_rfl) (by kernel_rfl) ?_
  simp only [List.take_succ_cons, List.take_zero, List.drop_succ_cons, List.drop_zero]
  repeat (quiet_step (fail))
  refine wpQuiet_nil ?_
  intro wC fC
  go_wp2_with fail
  refine (HPP.out _).mono ?_
  rintro e w2 ⟨rfl, rfl⟩
  go_wp2
  go_ret
  exact ⟨rfl, fC⟩

set_option maxRecDepth 100000 in
theorem br_over (b : Nat) (l : List UInt8) (s : RxS) (S : Nat → Prop) (w : World) (hl : l.length ≤ 1000000) (h : Rdg b l s S w) :
    Calls Tryd.prog 65 #[.pointer (some ⟨b, 0, none⟩)] w fun x w' => x = .returned (.bool (decide (l.length ≤ s.at_))) ∧ Fr nob w w' := by
  obtain ⟨cv, mv, h⟩ := h
  have rr := rule5 h.blk
  clear h
  have hd : decide ((l.length : Int) ≤ (s.at_ : Int)) = decide (l.length ≤ s.at_) := by simp
  go_enter Tryd.func65, Tryd.ntmps65
  go_wp2_with fail
  refine region_fr 9 (by kernel_rfl) (by kernel_rfl) ?_
  simp only [List.take_succ_cons, List.take_zero, List.drop_succ_cons, List.drop_zero]
  repeat (quiet_step (fail))
  refine wpQuiet_nil ?_
  intro wC fC
  go_wp2
  go_ret
  exact ⟨ret_bool (by simp), fC⟩

set_option maxRecDepth 100000 in
theorem br_last (b : Nat) (l : List UInt8) (s : RxS) (S : Nat → Prop) (w : World) (hl : l.length ≤ 1000000) (ha : s.at_ < l.length) (h : Rdg b l s S w) :
    Calls Tryd.prog 67 #[.pointer (some ⟨b, 0, none⟩)] w fun x w' => x = .returned (.bool (lastS l s.at_)) ∧ Fr nob w w' := by
  obtain ⟨cv, mv, h⟩ := h
  have rr := rule5 h.blk
  clear h
  have hal : (s.at_ : Int) + 1 ≤ l.length := by omega
  have hw : IntKind.i64.wrap ((s.at_ : Int) + 1) = s.at_ + 1 := IntWalk.i64_in _ (by omega)
  obtain ⟨R, hR⟩ : ∃ R, l.drop (s.at_ + 1) = R := ⟨_, rfl⟩
  have hRl : R.length ≤ 1000000 := by rw [← hR, List.length_drop]; omega
  have hS1 := fun w : World => strings_HasPrefix R [92, 41] w (by omega) (by decide)
  have hS2 := fun w : World => strings_HasPrefix R [92, 124] w (by omega) (by decide)
  have HS1 := Lib.hid hS1; have HS2 := Lib.hid hS2; clear hS1 hS2
  unfold lastS ahd
  rw [hR]
  go_enter Tryd.func67, Tryd.ntmps67
  go_wp2_with fail
  refine region_fr 9 (by kernel_rfl) (by kernel_rfl) ?_
  simp only [List.take_succ_cons, List.take_zero, List.drop_succ_cons, List.drop_zero]
  repeat (quiet_step (fail))
  refine wpQuiet_nil ?_
  intro wC fC
  obtain ⟨p1, h1⟩ : ∃ p, ([92, 41] : List UInt8).isPrefixOf R = p := ⟨_, rfl⟩
  obtain ⟨p2, h2⟩ : ∃ p, ([92, 124] : List UInt8).isPrefixOf R = p := ⟨_, rfl⟩
  rw [h1] at HS1
  rw [h2] at HS2
  have hpost : (R.isEmpty || ([92, 41] : List UInt8).isPrefixOf R || ([92, 124] : List UInt8).isPrefixOf R) = (R.isEmpty || p1 || p2) := by rw [h1, h2]
  have HPO := Lib.hid hpost
  clear h1 h2 hpost
  cases hE : R.isEmpty <;> cases p1 <;> cases p2
  all_goals
    rw [hE] at HPO
    go_wp2_with (first | (go_at_call 70; refine (HS1.out _).mono ?_; rintro e w' ⟨rfl, rfl⟩) | (go_at_call 70; refine (HS2.out _).mono ?_; rintro e w' ⟨rfl, rfl⟩))
    go_ret
    exact ⟨ret_bool (by rw [hE]; exact HPO.out.symm), fC⟩

set_option maxRecDepth 100000 in
theorem br_take (b : Nat) (l t : List UInt8) (s : RxS) (S : Nat → Prop) (w : World) (hl : l.length ≤ 100000) (ht : t.length ≤ 1000) (ha : s.at_ ≤ l.length) (h : Rdg b l s S w) :
    Calls Tryd.prog 64 #[.pointer (some ⟨b, 0, none⟩), .string ⟨t.toArray⟩] w fun x w' => x = .returned (.bool (ahd l s.at_ t)) ∧ Rdg b l (if ahd l s.at_ t then s.go t.length else s) S w' ∧ Stp S w S w' := by
  have hA := br_ahead b l t s S w (by omega) (by omega) ha h
  obtain ⟨cv, mv, h⟩ := h
  obtain ⟨c, hc⟩ : ∃ c, ahd l s.at_ t = c := ⟨_, rfl⟩
  rw [hc] at hA ⊢
  have HB := Lib.hid h; clear h
  go_enter Tryd.func64, Tryd.ntmps64
  go_wp2_with fail
  refine hA.mono ?_
  rintro e w1 ⟨rfl, f1⟩
  have hB1 := HB.out.on f1
  obtain ⟨⟨c0, c1, c2, c3, c4⟩, d0, d1, d2, d3, d4⟩ := rule5 hB1.blk _ (Fr.refl _ _)
  have HB1 := Lib.hid hB1; have F1 := Lib.hid f1; clear hB1 f1
  cases c with
  | false =>
    go_wp2
    go_ret
    exact ⟨rfl, ⟨cv, mv, HB1.out⟩, Stp.of F1.out⟩
  | true =>
    go_wp2
    go_ret
    exact ⟨rfl, ⟨cv, mv, HB1.out.turned 1 _ (s.go t.length) (by simp [RxS.go]) rfl rfl⟩, (Stp.of F1.out).trans (HB1.out.stp 1 _)⟩
end Go.Proofs.YtpcpmjaphjkphaaDoor

/-
  Walks of package bre: fail, number, mark.
-/
namespace Go.Proofs.YtpcpmjaphjkphaaDoor
open Go.RowKit

/-- What is thrown. -/
def thrown (e : Int) (p : Nat) : List PanicEntry := [{ v := .iface 68 (.agg #[.int .i64 e, .int .i64 (p : Nat)]), recovered := false }]

theorem br_fail (e : Int) (p : Nat) (w : World) :
    Calls Tryd.prog 66 #[.int .i64 e, .int .i64 (p : Nat)] w fun x w' => x = .panicked (thrown e p) ∧ w = w' := by
  go_enter Tryd.func66, Tryd.ntmps66
  go_wp2
  exact ⟨rfl, rfl, rfl⟩

theorem num3_out {l : List UInt8} {k c n : Nat} (h : l.length ≤ k) : num3 (l.drop k) c n = (n, c) := by
  rw [List.drop_eq_nil_of_le h]; rfl
theorem num3_no {l : List UInt8} {k c n : Nat} (h : k < l.length) (hd : ¬ (48 ≤ l[k].toNat ∧ l[k].toNat ≤ 57 ∧ c ≠ 3)) : num3 (l.drop k) c n = (n, c) := by
  rw [List.drop_eq_getElem_cons h, num3, if_neg hd]
theorem num3_more {l : List UInt8} {k c n : Nat} (h : k < l.length) (hd : 48 ≤ l[k].toNat ∧ l[k].toNat ≤ 57 ∧ c ≠ 3) : num3 (l.drop k) c n = num3 (l.drop (k + 1)) (c + 1) (n * 10 + (l[k].toNat - 48)) := by
  rw [List.drop_eq_getElem_cons h, num3, if_pos hd]
theorem num3_le : ∀ (r : List UInt8) (c n : Nat), c ≤ 3 → n < 10 ^ c → (num3 r c n).2 ≤ 3 ∧ (num3 r c n).1 < 10 ^ (num3 r c n).2 ∧ c ≤ (num3 r c n).2 ∧ (num3 r c n).2 ≤ c + r.length
  | [], c, n, h, hn => ⟨h, hn, Nat.le_refl _, by simp [num3]⟩
  | x :: r, c, n, h, hn => by
    rw [num3]
    split
    · next hd =>
      have hn2 : n * 10 + (x.toNat - 48) < 10 ^ (c + 1) := by rw [Nat.pow_succ]; omega
      have ih := num3_le r (c + 1) (n * 10 + (x.toNat - 48)) (by omega) hn2
      refine ⟨ih.1, ih.2.1, by omega, ?_⟩
      have := ih.2.2.2; rw [List.length_cons]; omega
    · exact ⟨h, hn, Nat.le_refl _, by simp⟩

theorem fr_iterB {S : Nat → Prop} {a w : World} (h : Fr S a w) (s : ByteArray) (p : Nat) : Fr S a (w.iter s p) := h.alloc _
def p10 (c : Nat) : Nat := 10 ^ c
theorem p10_succ (c : Nat) : p10 (c + 1) = p10 c * 10 := by unfold p10; rw [Nat.pow_succ]
theorem p10_le {c : Nat} (h : c ≤ 3) : p10 c ≤ 1000 := by unfold p10; exact Nat.le_trans (Nat.pow_le_pow_right (by omega) h) (by omega)

set_option maxRecDepth 100000 in
set_option maxHeartbeats 1000000 in
theorem br_number (b : Nat) (l : List UInt8) (s : RxS) (S : Nat → Prop) (w : World) (hl : l.length ≤ 100000) (ha : s.at_ ≤ l.length) (h : Rdg b l s S w) :
    Calls Tryd.prog 79 #[.pointer (some ⟨b, 0, none⟩)] w fun x w' =>
      x = .returned (.tuple #[.int .i64 (num3 (l.drop s.at_) 0 0).1, .bool (decide (0 < (num3 (l.drop s.at_) 0 0).2))]) ∧ Rdg b l (s.go (num3 (l.drop s.at_) 0 0).2) S w' ∧ Stp S w S w' := by
  obtain ⟨cv, mv, h⟩ := h
  have rr := rule5 h.blk
  have HB := Lib.hid h; clear h
  have hal : (s.at_ : Int) ≤ l.length := by omega
  obtain ⟨F, hF⟩ : ∃ F, num3 (l.drop s.at_) 0 0 = F := ⟨_, rfl⟩
  rw [hF]
  have HF := Lib.hid hF; clear hF
  go_enter Tryd.func79, Tryd.ntmps79
  go_wp2_with fail
  refine region_fr 8 (by kernel_rfl) (by kernel_rfl) ?_
  simp only [List.take_succ_cons, List.take_zero, List.drop_succ_cons, List.drop_zero]
  repeat (quiet_step (fail))
  refine wpQuiet_nil ?_
  intro wC fC
  have rc : ∀ (q : ByteArray) (p : Nat), (wC.iter q p).cell? ⟨b, 1, none⟩ = some (.int .i64 s.at_) ∧ (wC.iter q p).frozen? ⟨b, 1, none⟩ = false := fun q p => by
    obtain ⟨⟨_, c1, _⟩, _, d1, _⟩ := rr _ (fr_iterB fC q p)
    exact ⟨c1, d1⟩
  have HB1 := Lib.hid (fun (q : ByteArray) (p : Nat) => HB.out.on (fr_iterB fC q p))
  have FC := Lib.hid fC
  clear rr fC
  go_wp2_with fail
  go_loopw [4, 5] (fun n c wr => ∃ m k : Nat, n = .int .i64 m ∧ c = .int .i64 k ∧ wr = wC.iter ⟨(l.drop s.at_).toArray⟩ k ∧ k ≤ 3 ∧ s.at_ + k ≤ l.length ∧ m < p10 k ∧ num3 (l.drop (s.at_ + k)) k m = F) (fun _ c _ => 4 - (intOf c).toNat)
  case atStart => exact ⟨0, 0, rfl, rfl, rfl, by omega, by omega, by decide, HF.out⟩
  case round =>
    obtain ⟨m, k, rfl, rfl, rfl, hk, hle, hm, hb⟩ := hrel
    have fin : ∀ p, F = (m, k) → Rdg b l (s.go F.2) S ((wC.iter ⟨(l.drop s.at_).toArray⟩ p).setCell ⟨b, 1, none⟩ (.int .i64 ((s.at_ : Int) + k))) ∧ Stp S w S ((wC.iter ⟨(l.drop s.at_).toArray⟩ p).setCell ⟨b, 1, none⟩ (.int .i64 ((s.at_ : Int) + k))) := fun p hF => by
      subst hF
      have h1 := HB1.out ⟨(l.drop s.at_).toArray⟩ p
      exact ⟨⟨cv, mv, h1.turned 1 _ (s.go k) (by simp [RxS.go]) rfl rfl⟩, (Stp.of (fr_iterB FC.out _ p)).trans (h1.stp 1 _)⟩
    have FIN := Lib.hid fin; clear fin
    have hp := p10_le hk
    by_cases hlt : s.at_ + k < l.length
    · have hk2 : k < (l.drop s.at_).length := by rw [List.length_drop]; omega
      have hk3 : k < (ByteArray.mk (l.drop s.at_).toArray).size := by rw [bsize]; exact hk2
      have hget : (ByteArray.mk (l.drop s.at_).toArray)[k]'hk3 = l[s.at_ + k] := by rw [bget]; exact List.getElem_drop
      by_cases hd : 48 ≤ l[s.at_ + k].toNat ∧ l[s.at_ + k].toNat ≤ 57
      · obtain ⟨hd1, hd2⟩ := hd
        obtain ⟨x, hx⟩ : ∃ x, l[s.at_ + k] = x := ⟨_, rfl⟩
        have hnx : ∀ ty, (Instr.next (.pointer (some ⟨wC.heap.size, 0, none⟩)) true ty).run Tryd.prog (wC.iter ⟨(l.drop s.at_).toArray⟩ k) = .ok (.tuple #[.bool true, .int .i64 k, .int .i32 x.toNat]) (wC.iter ⟨(l.drop s.at_).toArray⟩ (k + 1)) := fun ty => by
          rw [run_next_ascii wC _ k ty hk3 (by rw [hget]; omega), hget, hx]
        by_cases h3 : k = 3
        · subst h3
          rw [num3_no hlt (fun h => h.2.2 rfl)] at hb
          rw [hx] at hd1 hd2
          have t1 : decide ((0 : Int) < 3) = true := rfl
          have hF := FIN.out 4 hb.symm
          subst hb
          have HFN := Lib.hid hF
          obtain ⟨rc1, rc2⟩ := rc ⟨(l.drop s.at_).toArray⟩ 4
          clear hk2 hk3 hget hm hF rc hx
          go_wp2
          go_ret2
          exact ⟨rfl, HFN.out⟩
        · have h3' : ((k : Int) == 3) = false := by simp; omega
          rw [num3_more hlt ⟨hd1, hd2, h3⟩] at hb
          rw [hx] at hd1 hd2 hb
          have hps := p10_succ k
          have HX := Lib.hid hb; have HP := Lib.hid hps
          have hk4 : k ≤ 2 := by omega
          have hm2 : m < 1000 := by omega
          clear hb hk2 hk3 hget h3 hps hx rc
          go_wp2
          go_roundw
          case rel => exact ⟨m * 10 + (x.toNat - 48), k + 1, by go_num, by go_num, rfl, by omega, by omega, by rw [HP.out]; omega, HX.out⟩
          case measure => simp [intOf]; omega
      · rw [num3_no hlt (fun h => hd ⟨h.1, h.2.1⟩)] at hb
        obtain ⟨r, p, hr, hnx⟩ : ∃ (r : Int) (p : Nat), (r < 48 ∨ (48 ≤ r ∧ 57 < r)) ∧ ∀ ty, (Instr.next (.pointer (some ⟨wC.heap.size, 0, none⟩)) true ty).run Tryd.prog (wC.iter ⟨(l.drop s.at_).toArray⟩ k) = .ok (.tuple #[.bool true, .int .i64 k, .int .i32 r]) (wC.iter ⟨(l.drop s.at_).toArray⟩ p) := by
          by_cases ha : l[s.at_ + k].toNat < 128
          · exact ⟨l[s.at_ + k].toNat, k + 1, by omega, fun ty => by rw [run_next_ascii wC _ k ty hk3 (by rw [hget]; exact ha), hget]⟩
          · have hh := decode_high (ByteArray.mk (l.drop s.at_).toArray) k hk3 (by rw [hget]; omega)
            exact ⟨_, _, by omega, fun ty => run_next_any wC _ k ty hk3⟩
        have hF := FIN.out p hb.symm
        subst hb
        have HFN := Lib.hid hF
        obtain ⟨rc1, rc2⟩ := rc ⟨(l.drop s.at_).toArray⟩ p
        clear hk2 hk3 hget hd hm hF rc
        rcases hr with hr | ⟨hr1, hr2⟩
        all_goals
          go_wp2
          go_ret2
          exact ⟨by simp, HFN.out⟩
    · rw [num3_out (by omega)] at hb
      have hnx : ∀ ty, (Instr.next (.pointer (some ⟨wC.heap.size, 0, none⟩)) true ty).run Tryd.prog (wC.iter ⟨(l.drop s.at_).toArray⟩ k) = .ok (.tuple #[.bool false]) (wC.iter ⟨(l.drop s.at_).toArray⟩ k) := fun ty => run_next_end wC _ k ty (by rw [bsize, List.length_drop]; omega)
      have hF := FIN.out k hb.symm
      subst hb
      have HFN := Lib.hid hF
      obtain ⟨rc1, rc2⟩ := rc ⟨(l.drop s.at_).toArray⟩ k
      clear hm hF rc
      go_wp2
      go_ret2
      exact ⟨by simp, HFN.out⟩
end Go.Proofs.YtpcpmjaphjkphaaDoor

/-
  Walks of package bre: mark, and a group closed.
-/
namespace Go.Proofs.YtpcpmjaphjkphaaDoor
open Go.RowKit

theorem own_lt {w : World} {e : TypeId} {size n : Nat} {v : Value} {xs : List Value} (h : w.ownsRow 0 e size v n xs) : ∀ k, v.ownBlock = some k → k < w.heap.size := by
  intro k hk
  rcases h.2 with ⟨rfl, _⟩ | ⟨r, cap, cur, rfl, _, hr, _⟩
  · cases hk
  · injection hk with hk; subst hk; exact lt_heap hr
theorem newAt0 (w : World) (A : Obj) : (w.alloc A).heap[w.heap.size]? = some A := by unfold World.alloc; exact Array.getElem?_push_size
theorem info_mark : (Tryd.prog.info? 46).map (fun i => (i.zero, i.size, i.bytes)) = some (some (.agg #[.int .i64 0, .string ByteArray.empty]), 2, 24) := by kernel_rfl
theorem mkC_append (l : List (Nat × List UInt8)) (k : Nat) (t : List UInt8) : mkC (l ++ [(k, t)]) = mkC l ++ [.int .i64 k, .string ⟨t.toArray⟩] := by simp [mkC]

def Plus (S : Nat → Prop) (v : Value) : Nat → Prop := fun k => S k ∨ v.ownBlock = some k

section
variable {b : Nat} {l : List UInt8} {s : RxS} {S : Nat → Prop} {cv mv v' : Value} {w W0 w3 : World}
theorem Br.pushM (h : Br b l s S cv mv w) (f : Fr nob w W0) (hap : Appd 1 mv v' W0 w3) {t : List UInt8}
    (hown : w3.ownsRow 0 46 2 v' (s.marks.length + 1) (mkC s.marks ++ [.int .i64 s.at_, .string ⟨t.toArray⟩])) :
    (w3.cell? ⟨b, 4, none⟩ = some mv ∧ w3.frozen? ⟨b, 4, none⟩ = false) ∧ Rdg b l (s.mark t) (Plus S v') (w3.setCell ⟨b, 4, none⟩ v') ∧ Stp S w (Plus S v') (w3.setCell ⟨b, 4, none⟩ v') := by
  have h0 := h.on f
  have hblk := hap.fr.heap h0.blk (fun e => (h.nm b e).1 rfl)
  have hsz := f.size
  have hb := lt_heap h.blk
  have hcl := ownsRow_fr h0.cl hap.fr (fun k hk e => h.ne k hk e)
  have hst := (Fr.refl (fun k => k = b) w3).setCell (p := ⟨b, 4, none⟩) (fun _ => rfl) v'
  have hnb : v'.ownBlock ≠ some b := fun e => by
    rcases hap.old b e with h1 | h1
    · exact (h.nm b h1).1 rfl
    · omega
  refine ⟨⟨cell_at hblk rfl, unfrozen_at hblk 4⟩, ⟨cv, v', by have := heap_setCell_at hblk 4 v'; simpa [RxS.mark] using this, ownsRow_fr hcl hst (fun k hk e => (h.nc k hk).1 e), ?_, fun k hk => ⟨(h.nc k hk).1, .inl (h.nc k hk).2⟩, fun k hk => ⟨fun e => hnb (by rw [← e]; exact hk), .inr hk⟩, ?_, .inl h.me⟩, ?_, ?_, ?_⟩
  · have := ownsRow_fr hown hst (fun k hk e => hnb (by rw [← e]; exact hk))
    unfold OwM
    simp only [RxS.mark, List.length_append, List.length_singleton, mkC_append]
    exact this
  · intro k hk e
    rcases hap.old k e with h1 | h1
    · exact h.ne k hk h1
    · have := own_lt h.cl k hk; omega
  · exact (f.any.trans (hap.fr.mono (T := S) fun k _ hk => (h.nm k hk).2) (fun _ _ x => x)).setCell (p := ⟨b, 4, none⟩) (fun _ => h.me) v'
  · intro k hk hx
    rcases hx with hx | hx
    · exact hx
    · rcases hap.old k hx with h1 | h1
      · exact (h.nm k h1).2
      · omega
  · intro hl k hk
    have hz : (w3.setCell ⟨b, 4, none⟩ v').heap.size = w3.heap.size := by simp [World.setCell]
    rw [hz]
    rcases hk with hk | hk
    · have := hl k hk; have := hap.fr.size; omega
    · exact own_lt hown k hk

theorem Br.pushC (h : Br b l s S cv mv w) (f : Fr nob w W0) (hap : Appd 1 cv v' W0 w3) {n : Nat}
    (hown : w3.ownsRow 0 3 1 v' (s.closed.length + 1) ((s.closed.map fun (n : Nat) => Value.int .i64 n) ++ [.int .i64 n])) :
    (w3.cell? ⟨b, 3, none⟩ = some cv ∧ w3.frozen? ⟨b, 3, none⟩ = false) ∧ Rdg b l { s with closed := s.closed ++ [n] } (Plus S v') (w3.setCell ⟨b, 3, none⟩ v') ∧ Stp S w (Plus S v') (w3.setCell ⟨b, 3, none⟩ v') := by
  have h0 := h.on f
  have hblk := hap.fr.heap h0.blk (fun e => (h.nc b e).1 rfl)
  have hsz := f.size
  have hb := lt_heap h.blk
  have hml := ownsRow_fr h0.ma hap.fr (fun k hk e => h.ne k e hk)
  have hst := (Fr.refl (fun k => k = b) w3).setCell (p := ⟨b, 3, none⟩) (fun _ => rfl) v'
  have hnb : v'.ownBlock ≠ some b := fun e => by
    rcases hap.old b e with h1 | h1
    · exact (h.nc b h1).1 rfl
    · omega
  refine ⟨⟨cell_at hblk rfl, unfrozen_at hblk 3⟩, ⟨v', mv, by have := heap_setCell_at hblk 3 v'; simpa using this, ?_, ownsRow_fr hml hst (fun k hk e => (h.nm k hk).1 e), fun k hk => ⟨fun e => hnb (by rw [← e]; exact hk), .inr hk⟩, fun k hk => ⟨(h.nm k hk).1, .inl (h.nm k hk).2⟩, ?_, .inl h.me⟩, ?_, ?_, ?_⟩
  · have := ownsRow_fr hown hst (fun k hk e => hnb (by rw [← e]; exact hk))
    unfold OwC
    simp only [List.length_append, List.length_singleton, List.map_append, List.map_cons, List.map_nil]
    exact this
  · intro k hk e
    rcases hap.old k hk with h1 | h1
    · exact h.ne k h1 e
    · have := own_lt h.ma k e; omega
  · exact (f.any.trans (hap.fr.mono (T := S) fun k _ hk => (h.nc k hk).2) (fun _ _ x => x)).setCell (p := ⟨b, 3, none⟩) (fun _ => h.me) v'
  · intro k hk hx
    rcases hx with hx | hx
    · exact hx
    · rcases hap.old k hx with h1 | h1
      · exact (h.nc k h1).2
      · omega
  · intro hl k hk
    have hz : (w3.setCell ⟨b, 3, none⟩ v').heap.size = w3.heap.size := by simp [World.setCell]
    rw [hz]
    rcases hk with hk | hk
    · have := hl k hk; have := hap.fr.size; omega
    · exact own_lt hown k hk
end

theorem mk_news {w : World} {g k : Nat} {t : List UInt8} {T : TypeId} {fr : Nat × Nat} (h : w.heap[g]? = some (.cells #[.int .i64 k, .string ⟨t.toArray⟩] T fr)) :
    ∀ j u, ([.int .i64 k, .string ⟨t.toArray⟩] : List Value)[j]? = some u → w.cell? ((⟨g, 0, none⟩ : Addr).add j) = some u := by
  intro j u hj
  match j, hj with
  | 0, hj => simp at hj; subst hj; exact cell_at h rfl
  | 1, hj => simp at hj; subst hj; exact cell_at h rfl
theorem mk_one {k : Nat} {t : List UInt8} : ∀ u ∈ ([.int .i64 k, .string ⟨t.toArray⟩] : List Value), u.oneCell' = true := by
  intro u hu
  simp only [List.mem_cons, List.not_mem_nil, or_false] at hu
  rcases hu with rfl | rfl <;> rfl

set_option maxRecDepth 100000 in
set_option maxHeartbeats 2000000 in
theorem br_mark (b : Nat) (l t : List UInt8) (s : RxS) (S : Nat → Prop) (w : World) (hm : s.marks.length ≤ 100000) (h : Rdg b l s S w) :
    Calls Tryd.prog 39 #[.pointer (some ⟨b, 0, none⟩), .string ⟨t.toArray⟩] w fun x w' => x = .returned (.tuple #[]) ∧ ∃ S', Rdg b l (s.mark t) S' w' ∧ Stp S w S' w' := by
  obtain ⟨cv, mv, h⟩ := h
  obtain ⟨a, c, rfl⟩ := ownsRow_slice h.ma
  have rb := rule5 h.blk
  obtain ⟨i0, hi, hz0, hz1, hz2⟩ := info_parts info_mark
  have HB := Lib.hid h; clear h
  go_enter Tryd.func39, Tryd.ntmps39
  go_wp2_with fail
  go_region_law (refine step_append_g rfl (.tmp 8) (.tmp 15) 27 rfl 46 i0 (.agg #[.int .i64 0, .string ByteArray.empty]) 2 24 Tryd.underlying27 hi hz0 hz1 hz2 rfl (by decide) (.slice a s.marks.length c) s.marks.length (mkC s.marks) (by rfl) (by first | exact ownsRow_fr HB.out.ma (((Fr.refl nob w).alloc _).drew) (fun _ _ x => x) | exact ownsRow_fr HB.out.ma (((Fr.refl nob w).drew).alloc _) (fun _ _ x => x)) ⟨w.heap.size, 0, none⟩ 1 1 [.int .i64 s.at_, .string ⟨t.toArray⟩] (by rfl) rfl (by first | exact mk_news (newAt0 w _) | exact mk_news (newAt0 w.drew _)) mk_one (by unfold maxLen; omega) (by omega) ?_; intro v' w3 hown' hap; obtain ⟨av, cv', rfl⟩ := ownsRow_slice hown'; obtain ⟨⟨pc, pf⟩, q1, q2⟩ := (by first | exact HB.out.pushM (((Fr.refl nob w).alloc _).drew) hap hown' | exact HB.out.pushM (((Fr.refl nob w).drew).alloc _) hap hown'); have HQ := Lib.hid q1; have HR := Lib.hid q2; clear hown' hap q1 q2)
  all_goals
    go_wp2
    go_end0
    exact ⟨rfl, _, HQ.out, HR.out⟩
end Go.Proofs.YtpcpmjaphjkphaaDoor
