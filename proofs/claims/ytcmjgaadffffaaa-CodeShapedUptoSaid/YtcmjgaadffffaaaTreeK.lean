/-
  Walks of package tree: EqualFunc, Same; Deep, Groups, Backs; Holds.
-/
import Derived.Test.YtcmjgaadffffaaaTreeJ
namespace Go.Proofs.Ytcmjgaadffffaaa
open Go.RowKit

/-- Same's answer. -/
def SameIs (a b : Nd) (w : World) (e : Ending) (w' : World) : Prop := ∃ r : Bool, e = .returned (.bool r) ∧ (r = true ↔ a.norm = b.norm) ∧ Fr nob w w'

theorem Nd.norms_take {l : List Nd} {k : Nat} (h : k < l.length) : Nd.norms (l.take (k + 1)) = Nd.norms (l.take k) ++ [l[k].norm] := by
  simp only [Nd.norms_eq]; rw [List.take_succ_eq_append_getElem h, List.map_append]; rfl
theorem Nd.norms_at {l m : List Nd} (h : Nd.norms l = Nd.norms m) {k : Nat} (h1 : k < l.length) (h2 : k < m.length) : l[k].norm = m[k].norm := by
  have e := congrArg (fun x => x[k]?) h
  simp only [Nd.norms_eq, List.getElem?_map, List.getElem?_eq_getElem h1, List.getElem?_eq_getElem h2, Option.map_some, Option.some.injEq] at e
  exact e
theorem Nd.norms_len {l m : List Nd} (h : Nd.norms l = Nd.norms m) : l.length = m.length := by
  have e := congrArg List.length h
  simpa only [Nd.norms_eq, List.length_map] using e

theorem isGroup_ty (n : Nd) : (n.ty = some 67 ∧ n.isGroup = true) ∨ (n.ty ≠ some 67 ∧ n.isGroup = false) := by
  cases n <;> simp [Nd.ty, Nd.isGroup]
theorem isBack_ty (n : Nd) : (n.ty = some 69 ∧ n.isBack = true) ∨ (n.ty ≠ some 69 ∧ n.isBack = false) := by
  cases n <;> simp [Nd.ty, Nd.isBack]
/-- The value of a group; of what is none. -/
theorem RN.group_or {S : Nat → Prop} {w : World} {n : Nd} {v : Value} (h : RN S w n v) : (n.isGroup = true ∧ ∃ k u, v = .iface 67 (.agg #[.int .i64 k, u]) ∧ (u = .nilIface ∨ ∃ i x, u = .iface i x)) ∨ (n.isGroup = false ∧ (v = .nilIface ∨ ∃ i x, v = .iface i x ∧ i ≠ 67)) := by
  rcases isGroup_ty n with ⟨h1, h2⟩ | ⟨h1, h2⟩
  · refine .inl ⟨h2, ?_⟩
    cases n <;> simp [Nd.isGroup] at h2
    obtain ⟨u, hv, hu⟩ := h.kind
    exact ⟨_, u, hv, hu.shape⟩
  · exact .inr ⟨h2, h.miss h1⟩
theorem RN.back_or {S : Nat → Prop} {w : World} {n : Nd} {v : Value} (h : RN S w n v) : (n.isBack = true ∧ ∃ k, v = .iface 69 (.agg #[.int .i64 k])) ∨ (n.isBack = false ∧ (v = .nilIface ∨ ∃ i x, v = .iface i x ∧ i ≠ 69)) := by
  rcases isBack_ty n with ⟨h1, h2⟩ | ⟨h1, h2⟩
  · refine .inl ⟨h2, ?_⟩
    cases n <;> simp [Nd.isBack] at h2
    exact ⟨_, h.kind⟩
  · exact .inr ⟨h2, h.miss h1⟩

set_option maxRecDepth 100000 in
set_option maxHeartbeats 1000000 in
theorem groups_any (m : Nat) : ∀ (n : Nd) (v : Value) (w : World), n.size ≤ m → n.size ≤ 3000000 → RN nob w n v →
    Calls Try.prog 10 #[v] w fun e w' => e = .returned (.int .i64 n.groups) ∧ Fr nob w w' := by
  induction m with
  | zero => intro n v w h; have := n.size_pos; omega
  | succ m ih =>
    intro n v w hm hn h
    have IH := Lib.hid ih; clear ih
    have hsk := Lib.hid n.size_kids
    have hlk := Nd.length_le n.kids
    have hkl : n.kids.length ≤ 3000000 := by have := hsk.out; omega
    have hgl := Nd.groupss_le n.kids
    have hgk := Lib.hid n.groups_kids
    obtain ⟨d, hd⟩ : ∃ d, n.groups = d := ⟨_, rfl⟩
    rw [hd] at hgk ⊢
    clear hd hlk
    have hgb : Nd.groupss n.kids ≤ 3000000 := by have := hsk.out; omega
    have hor := h.group_or
    have HV := Lib.hid h; clear h hgl
    obtain ⟨b, hb1, hb2, hb3⟩ : ∃ b : Nat, b ≤ 1 ∧ d = b + Nd.groupss n.kids ∧ ((b = 1 ∧ ∃ k u, v = .iface 67 (.agg #[.int .i64 k, u]) ∧ (u = .nilIface ∨ ∃ i x, u = .iface i x)) ∨ (b = 0 ∧ (v = .nilIface ∨ ∃ i x, v = .iface i x ∧ i ≠ 67))) := by
      rcases hor with ⟨h1, h2⟩ | ⟨h1, h2⟩
      · exact ⟨1, by omega, by have := hgk.out; rw [h1] at this; simp at this; omega, .inl ⟨rfl, h2⟩⟩
      · exact ⟨0, by omega, by have := hgk.out; rw [h1] at this; simp at this; omega, .inr ⟨rfl, h2⟩⟩
    have HB2 := Lib.hid hb2; clear hb2 hor
    rcases hb3 with ⟨rfl, gk, uu, rfl, hsh⟩ | ⟨rfl, hsh⟩
    · rcases hsh with rfl | ⟨iu, xu, rfl⟩
      all_goals
        go_enter Try.func10, Try.ntmps10
        go_wp2_with fail
        refine (kids_any nob n _ _ (HV.out.on ((Fr.refl _ _).alloc _)) (fun _ x => x.elim)).mono ?_
        rintro e w1 ⟨u, rfl, h1, f1⟩
        obtain ⟨a, c, rfl⟩ := h1.shape
        have H1 := Lib.hid h1; have F1 := Lib.hid f1; clear h1 f1
        go_wp2_with fail
        go_loopw [3, 19] (fun s i wr => ∃ k : Nat, i = .int .i64 k ∧ k ≤ n.kids.length ∧ s = .int .i64 ((1 + Nd.groupss (n.kids.take k) : Nat) : Int) ∧ Fr nob w1 wr) (fun _ i _ => n.kids.length - (intOf i).toNat)
        case atStart => exact ⟨0, rfl, Nat.zero_le _, rfl, Fr.refl _ _⟩
        case round =>
          obtain ⟨k, rfl, hk, rfl, fr⟩ := hrel
          have HR := Lib.hid (H1.out.on fr); have FR := Lib.hid fr; clear fr
          by_cases hlt : k < n.kids.length
          · obtain ⟨g, off, cap, x, he, hx, hc⟩ := HR.out.get hlt
            injection he with e1 e2 e3
            subst e1; subst e3
            have hst2 := Lib.hid (Nd.groupss_take hlt)
            have hst3 : Nd.groupss (n.kids.take k) + n.kids[k].groups ≤ 3000000 := by
              have := Nd.groupss_append (n.kids.take (k + 1)) (n.kids.drop (k + 1)); rw [List.take_append_drop] at this; have := hst2.out; omega
            have hxs : n.kids[k].size < n.size := Nd.kid_lt (List.getElem_mem hlt)
            have HX := Lib.hid hx; clear hx e2
            go_wp2_with fail
            refine (IH.out n.kids[k] x _ (by omega) (by omega) HX.out).mono ?_
            rintro e w2 ⟨rfl, f2⟩
            have F2 := Lib.hid f2; clear f2
            go_wp2
            go_roundw
            case rel => exact ⟨k + 1, by go_num, by omega, by rw [hst2.out]; go_num, FR.out.trans' F2.out⟩
            case measure => simp [intOf]; omega
          · obtain rfl : k = n.kids.length := by omega
            have hT := Lib.hid (List.take_of_length_le (l := n.kids) (Nat.le_refl _))
            rw [hT.out]
            go_wp2
            go_ret
            exact ⟨ret_int (by rw [HB2.out]), (((Fr.refl _ _).alloc _).trans' F1.out).trans' FR.out⟩
    · rcases hsh with rfl | ⟨iu, xu, rfl, hi⟩
      all_goals
        go_enter Try.func10, Try.ntmps10
        go_wp2_with fail
        refine (kids_any nob n _ _ (HV.out.on ((Fr.refl _ _).alloc _)) (fun _ x => x.elim)).mono ?_
        rintro e w1 ⟨u, rfl, h1, f1⟩
        obtain ⟨a, c, rfl⟩ := h1.shape
        have H1 := Lib.hid h1; have F1 := Lib.hid f1; clear h1 f1
        go_wp2_with fail
        go_loopw [3, 19] (fun s i wr => ∃ k : Nat, i = .int .i64 k ∧ k ≤ n.kids.length ∧ s = .int .i64 ((Nd.groupss (n.kids.take k) : Nat) : Int) ∧ Fr nob w1 wr) (fun _ i _ => n.kids.length - (intOf i).toNat)
        case atStart => exact ⟨0, rfl, Nat.zero_le _, rfl, Fr.refl _ _⟩
        case round =>
          obtain ⟨k, rfl, hk, rfl, fr⟩ := hrel
          have HR := Lib.hid (H1.out.on fr); have FR := Lib.hid fr; clear fr
          by_cases hlt : k < n.kids.length
          · obtain ⟨g, off, cap, x, he, hx, hc⟩ := HR.out.get hlt
            injection he with e1 e2 e3
            subst e1; subst e3
            have hst2 := Lib.hid (Nd.groupss_take hlt)
            have hst3 : Nd.groupss (n.kids.take k) + n.kids[k].groups ≤ 3000000 := by
              have := Nd.groupss_append (n.kids.take (k + 1)) (n.kids.drop (k + 1)); rw [List.take_append_drop] at this; have := hst2.out; omega
            have hxs : n.kids[k].size < n.size := Nd.kid_lt (List.getElem_mem hlt)
            have HX := Lib.hid hx; clear hx e2
            go_wp2_with fail
            refine (IH.out n.kids[k] x _ (by omega) (by omega) HX.out).mono ?_
            rintro e w2 ⟨rfl, f2⟩
            have F2 := Lib.hid f2; clear f2
            go_wp2
            go_roundw
            case rel => exact ⟨k + 1, by go_num, by omega, by rw [hst2.out]; go_num, FR.out.trans' F2.out⟩
            case measure => simp [intOf]; omega
          · obtain rfl : k = n.kids.length := by omega
            have hT := Lib.hid (List.take_of_length_le (l := n.kids) (Nat.le_refl _))
            rw [hT.out]
            go_wp2
            go_ret
            exact ⟨ret_int (by rw [HB2.out]; simp), (((Fr.refl _ _).alloc _).trans' F1.out).trans' FR.out⟩

/-- Is it a One of this set? -/
def Nd.isOne (s : S4) : Nd → Bool
  | .one t => t.same s
  | _ => false

end Go.Proofs.Ytcmjgaadffffaaa
