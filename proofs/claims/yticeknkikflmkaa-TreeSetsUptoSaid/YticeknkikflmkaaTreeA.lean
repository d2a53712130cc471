/-
  Walks of package tree: told, kids, plain, alt, atom.
-/
import Derived.Test.YticeknkikflmkaaAssert
namespace Go.Proofs.Yticeknkikflmkaa
open Go.RowKit

set_option maxRecDepth 100000 in
set_option maxHeartbeats 1000000 in
theorem kids_any (S : Nat → Prop) (n : Nd) (v : Value) (w : World) (h : RN S w n v) (hS : ∀ k, S k → k < w.heap.size) :
    Calls Try.prog 41 #[v] w fun e w' => ∃ u, e = .returned u ∧ SN S w' n.kids u ∧ Fr nob w w' := by
  cases n with
  | nil =>
    rw [RN] at h; subst h
    go_enter Try.func41, Try.ntmps41
    go_wp2
    go_ret
    exact ⟨_, rfl, SN.nil, Fr.refl _ _⟩
  | empty =>
    rw [RN] at h; subst h
    go_enter Try.func41, Try.ntmps41
    go_wp2
    go_ret
    exact ⟨_, rfl, SN.nil, Fr.refl _ _⟩
  | one s =>
    rw [RN] at h; subst h
    go_enter Try.func41, Try.ntmps41
    go_wp2
    go_ret
    exact ⟨_, rfl, SN.nil, Fr.refl _ _⟩
  | back n =>
    rw [RN] at h; subst h
    go_enter Try.func41, Try.ntmps41
    go_wp2
    go_ret
    exact ⟨_, rfl, SN.nil, Fr.refl _ _⟩
  | start =>
    rw [RN] at h; subst h
    go_enter Try.func41, Try.ntmps41
    go_wp2
    go_ret
    exact ⟨_, rfl, SN.nil, Fr.refl _ _⟩
  | fin =>
    rw [RN] at h; subst h
    go_enter Try.func41, Try.ntmps41
    go_wp2
    go_ret
    exact ⟨_, rfl, SN.nil, Fr.refl _ _⟩
  | cat l =>
    rw [RN_cat] at h; obtain ⟨u, rfl, h⟩ := h
    obtain ⟨a, c, rfl⟩ := h.shape
    have HH := Lib.hid h; clear h
    go_enter Try.func41, Try.ntmps41
    go_wp2
    go_ret
    exact ⟨_, rfl, HH.out.on ((Fr.refl _ _).alloc _), (Fr.refl _ _).alloc _⟩
  | alt l =>
    rw [RN_alt] at h; obtain ⟨u, rfl, h⟩ := h
    obtain ⟨a, c, rfl⟩ := h.shape
    have HH := Lib.hid h; clear h
    go_enter Try.func41, Try.ntmps41
    go_wp2
    go_ret
    exact ⟨_, rfl, HH.out.on ((Fr.refl _ _).alloc _), (Fr.refl _ _).alloc _⟩
  | rep x mn mx =>
    rw [RN] at h; obtain ⟨u, rfl, h⟩ := h
    have hsh := h.shape
    have HH := Lib.hid h; clear h
    rcases hsh with rfl | ⟨i, x, rfl⟩
    all_goals
      go_enter Try.func41, Try.ntmps41
      go_wp2
      go_ret
      exact ⟨_, rfl, SN.one' (HH.out.on ((Fr.refl _ _).alloc _)) (fun k hk => by have := hS k hk; simp; omega) _ (by simp), ((Fr.refl _ _).alloc _).alloc _⟩
  | group n x =>
    rw [RN] at h; obtain ⟨u, rfl, h⟩ := h
    have hsh := h.shape
    have HH := Lib.hid h; clear h
    rcases hsh with rfl | ⟨i, x, rfl⟩
    all_goals
      go_enter Try.func41, Try.ntmps41
      go_wp2
      go_ret
      exact ⟨_, rfl, SN.one' (HH.out.on ((Fr.refl _ _).alloc _)) (fun k hk => by have := hS k hk; simp; omega) _ (by simp), ((Fr.refl _ _).alloc _).alloc _⟩


set_option maxRecDepth 100000 in
set_option maxHeartbeats 1000000 in
theorem size_any (m : Nat) : ∀ (n : Nd) (v : Value) (w : World), n.size ≤ m → n.size ≤ 3000000 → RN nob w n v →
    Calls Try.prog 22 #[v] w fun e w' => e = .returned (.int .i64 n.size) ∧ Fr nob w w' := by
  induction m with
  | zero => intro n v w h; have := n.size_pos; omega
  | succ m ih =>
    intro n v w hm hn h
    have IH := Lib.hid ih; clear ih
    have hsk := Lib.hid n.size_kids
    have hlk := Nd.length_le n.kids
    have hkl : n.kids.length ≤ 3000000 := by have := hsk.out; omega
    go_enter Try.func22, Try.ntmps22
    go_wp2_with fail
    refine (kids_any nob n v w h (fun _ x => x.elim)).mono ?_
    rintro e w1 ⟨u, rfl, h1, f1⟩
    obtain ⟨a, c, rfl⟩ := h1.shape
    have H1 := Lib.hid h1; have F1 := Lib.hid f1; clear h1 f1 hlk h
    go_wp2_with fail
    go_loopw [3, 9] (fun s i wr => ∃ k : Nat, i = .int .i64 k ∧ k ≤ n.kids.length ∧ s = .int .i64 ((1 + Nd.sizes (n.kids.take k) : Nat) : Int) ∧ Fr nob w1 wr) (fun _ i _ => n.kids.length - (intOf i).toNat)
    case atStart => exact ⟨0, rfl, Nat.zero_le _, rfl, Fr.refl _ _⟩
    case round =>
      obtain ⟨k, rfl, hk, rfl, fr⟩ := hrel
      have hst := Nd.sizes_take_le n.kids k
      have hsb : Nd.sizes (n.kids.take k) ≤ 3000000 := by have := hsk.out; omega
      have HR := Lib.hid (H1.out.on fr); have FR := Lib.hid fr; clear fr hst
      by_cases hlt : k < n.kids.length
      · obtain ⟨g, off, cap, x, he, hx, hc⟩ := HR.out.get hlt
        injection he with e1 e2 e3
        subst e1; subst e3
        have hst2 := Lib.hid (Nd.sizes_take hlt)
        have hxs : n.kids[k].size < n.size := Nd.kid_lt (List.getElem_mem hlt)
        have HX := Lib.hid hx; clear hx e2
        go_wp2_with fail
        refine (IH.out n.kids[k] x _ (by omega) (by omega) HX.out).mono ?_
        rintro e w2 ⟨rfl, f2⟩
        have F2 := Lib.hid f2; clear f2
        go_wp2
        go_roundw
        case rel => exact ⟨k + 1, by go_num, by omega, by rw [hst2.out]; go_num, FR.out.trans' F2.out⟩
        case measure => simp [intOf]; omega
      · obtain rfl : k = n.kids.length := by omega
        have hT := Lib.hid (List.take_of_length_le (l := n.kids) (Nat.le_refl _))
        go_wp2
        go_ret
        exact ⟨ret_int (by have := hsk.out; rw [hT.out]; omega), F1.out.trans' FR.out⟩


/-- A node that is told. -/
def Nd.told : Nd → Nd
  | .nil => .empty
  | n => n
/-- Can it stand in a Cat? -/
def Nd.plain : Nd → Bool
  | .nil | .empty | .cat _ | .alt _ => false
  | _ => true
def Nd.isAlt : Nd → Bool
  | .alt _ => true
  | _ => false
/-- May it be repeated? -/
def Nd.atom : Nd → Bool
  | .nil | .empty | .cat _ | .alt _ | .start | .fin => false
  | _ => true

theorem told_any2 (S : Nat → Prop) (n : Nd) (v : Value) (w : World) (h : RN S w n v) : Calls Try.prog 37 #[v] w fun e w' => ∃ u, e = .returned u ∧ RN S w n.told u ∧ (v = .nilIface ∨ u = v) ∧ w = w' := by
  rcases h.shape with rfl | ⟨i, x, rfl⟩
  · have hn : n = .nil := by cases n <;> rw [RN] at h <;> first | rfl | (cases h; done) | (obtain ⟨_, h, _⟩ := h; cases h)
    subst hn
    have H := Lib.hid h; clear h
    go_enter Try.func37, Try.ntmps37
    go_wp2
    go_ret
    exact ⟨_, rfl, by rw [Nd.told, RN]; rfl, by simp, rfl⟩
  · have hn : n.told = n := by cases n <;> first | rfl | (rw [RN] at h; cases h)
    have H := Lib.hid h; clear h; have HN := Lib.hid hn; clear hn
    go_enter Try.func37, Try.ntmps37
    go_wp2
    go_ret
    exact ⟨_, rfl, by rw [HN.out]; exact H.out, by simp, rfl⟩

theorem told_any (S : Nat → Prop) (n : Nd) (v : Value) (w : World) (h : RN S w n v) : Calls Try.prog 37 #[v] w fun e w' => ∃ u, e = .returned u ∧ RN S w n.told u ∧ w = w' := by
  refine (told_any2 S n v w h).mono ?_
  rintro e w1 ⟨u, h1, h2, _, h3⟩
  exact ⟨u, h1, h2, h3⟩


/-- A node's value is an interface of its kind's type. -/
def KindIs (S : Nat → Prop) (w : World) (v : Value) : Nd → Prop
    | .nil => v = .nilIface
    | .empty => v = .iface 49 (.agg #[])
    | .one s => v = .iface 53 (.agg s.cells.toArray)
    | .cat l => ∃ (a : Option Addr) (c : Nat), v = .iface 55 (.agg #[.slice a l.length c]) ∧ SN S w l (.slice a l.length c)
    | .alt l => ∃ (a : Option Addr) (c : Nat), v = .iface 59 (.agg #[.slice a l.length c]) ∧ SN S w l (.slice a l.length c)
    | .rep x mn mx => ∃ u, v = .iface 61 (.agg #[u, .int .i64 mn, .int .i64 mx]) ∧ RN S w x u
    | .group n x => ∃ u, v = .iface 63 (.agg #[.int .i64 n, u]) ∧ RN S w x u
    | .back n => v = .iface 65 (.agg #[.int .i64 n])
    | .start => v = .iface 57 (.agg #[])
    | .fin => v = .iface 66 (.agg #[])
theorem RN.kind {S : Nat → Prop} {w : World} {n : Nd} {v : Value} (h : RN S w n v) : KindIs S w v n := by
  cases n with
  | cat l => rw [RN_cat] at h; obtain ⟨u, rfl, h⟩ := h; obtain ⟨a, c, rfl⟩ := h.shape; exact ⟨a, c, rfl, h⟩
  | alt l => rw [RN_alt] at h; obtain ⟨u, rfl, h⟩ := h; obtain ⟨a, c, rfl⟩ := h.shape; exact ⟨a, c, rfl, h⟩
  | _ => rw [RN] at h; exact h

/-- .. its type alone. -/
def Nd.ty : Nd → Option TypeId
  | .nil => none
  | .empty => some 49
  | .one _ => some 53
  | .cat _ => some 55
  | .alt _ => some 59
  | .rep _ _ _ => some 61
  | .group _ _ => some 63
  | .back _ => some 65
  | .start => some 57
  | .fin => some 66
theorem RN.tyv {S : Nat → Prop} {w : World} {n : Nd} {v : Value} (h : RN S w n v) : (n.ty = none ∧ v = .nilIface) ∨ ∃ i x, n.ty = some i ∧ v = .iface i x := by
  have := h.kind
  cases n with
  | nil => exact .inl ⟨rfl, this⟩
  | cat l => obtain ⟨a, c, h, _⟩ := this; exact .inr ⟨_, _, rfl, h⟩
  | alt l => obtain ⟨a, c, h, _⟩ := this; exact .inr ⟨_, _, rfl, h⟩
  | rep x mn mx => obtain ⟨a, h, _⟩ := this; exact .inr ⟨_, _, rfl, h⟩
  | group n x => obtain ⟨a, h, _⟩ := this; exact .inr ⟨_, _, rfl, h⟩
  | _ => exact .inr ⟨_, _, rfl, this⟩

set_option maxRecDepth 100000 in
set_option maxHeartbeats 1000000 in
theorem plain_any (S : Nat → Prop) (n : Nd) (v : Value) (w : World) (h : RN S w n v) : Calls Try.prog 52 #[v] w fun e w' => e = .returned (.bool n.plain) ∧ w = w' := by
  have H := Lib.hid h; clear h
  obtain ⟨p, hp⟩ : ∃ p, n.plain = p := ⟨_, rfl⟩
  rw [hp]
  have HP := Lib.hid hp; clear hp
  go_enter Try.func52, Try.ntmps52
  go_wp2_with fail
  refine (told_any S n v w H.out).mono ?_
  rintro e w1 ⟨u, rfl, hu, rfl⟩
  rcases hu.tyv with ⟨ht, rfl⟩ | ⟨i, x, ht, rfl⟩
  · cases n <;> cases ht
  · have hi : (i = 49 ∧ p = false) ∨ (i = 55 ∧ p = false) ∨ (i = 59 ∧ p = false) ∨ (i ≠ 49 ∧ i ≠ 55 ∧ i ≠ 59 ∧ p = true) := by
      have hp := HP.out
      cases n <;> simp only [Nd.told, Nd.ty, Option.some.injEq] at ht <;> subst ht <;> subst hp <;> simp [Nd.plain]
    clear hu ht
    rcases hi with ⟨rfl, rfl⟩ | ⟨rfl, rfl⟩ | ⟨rfl, rfl⟩ | ⟨h1, h2, h3, rfl⟩
    all_goals
      go_wp2
      go_ret
      exact ⟨rfl, rfl⟩

set_option maxRecDepth 100000 in
set_option maxHeartbeats 1000000 in
theorem alt_any (S : Nat → Prop) (n : Nd) (v : Value) (w : World) (h : RN S w n v) : Calls Try.prog 48 #[v] w fun e w' => e = .returned (.bool n.isAlt) ∧ Fr nob w w' := by
  have hk := h.kind
  have H := Lib.hid h; clear h
  by_cases ha : ∃ l, n = .alt l
  · obtain ⟨l, rfl⟩ := ha
    obtain ⟨a, c, rfl, _⟩ := hk
    go_enter Try.func48, Try.ntmps48
    go_wp2
    go_ret
    exact ⟨rfl, (Fr.refl _ _).alloc _⟩
  · have hn : n.isAlt = false := by cases n <;> first | rfl | exact (ha ⟨_, rfl⟩).elim
    rw [hn]
    clear hk
    rcases H.out.tyv with ⟨_, rfl⟩ | ⟨i, x, ht, rfl⟩
    · go_enter Try.func48, Try.ntmps48
      go_wp2
      go_ret
      exact ⟨rfl, (Fr.refl _ _).alloc _⟩
    · have hi : i ≠ 59 := by
        cases n <;> simp only [Nd.ty, Option.some.injEq] at ht <;> first | (subst ht; decide) | (exact (ha ⟨_, rfl⟩).elim) | cases ht
      clear ha ht hn
      go_enter Try.func48, Try.ntmps48
      go_wp2
      go_ret
      exact ⟨rfl, (Fr.refl _ _).alloc _⟩

set_option maxRecDepth 100000 in
set_option maxHeartbeats 1000000 in
theorem atom_any (S : Nat → Prop) (n : Nd) (v : Value) (w : World) (h : RN S w n v) : Calls Try.prog 53 #[v] w fun e w' => e = .returned (.bool n.atom) ∧ w = w' := by
  rcases h.tyv with ⟨ht, rfl⟩ | ⟨i, x, ht, rfl⟩
  · have hn : n = .nil := by cases n <;> first | rfl | cases ht
    subst hn
    have H := Lib.hid h; clear h ht
    go_enter Try.func53, Try.ntmps53
    go_wp2_with fail
    refine (plain_any S _ _ w H.out).mono ?_
    rintro e w1 ⟨rfl, rfl⟩
    go_wp2
    go_ret
    exact ⟨rfl, rfl⟩
  · have hi : (i = 57 ∧ n.atom = false) ∨ (i = 66 ∧ n.atom = false) ∨ (i ≠ 57 ∧ i ≠ 66 ∧ n.atom = n.plain) := by
      cases n <;> simp only [Nd.ty, Option.some.injEq] at ht <;> first | (subst ht; simp [Nd.atom, Nd.plain]; done) | cases ht
    have H := Lib.hid h; clear h ht
    rcases hi with ⟨rfl, hn⟩ | ⟨rfl, hn⟩ | ⟨h1, h2, hn⟩
    · rw [hn]; clear hn
      go_enter Try.func53, Try.ntmps53
      go_wp2_with fail
      go_ret
      exact ⟨rfl, rfl⟩
    · rw [hn]; clear hn
      go_enter Try.func53, Try.ntmps53
      go_wp2_with fail
      go_ret
      exact ⟨rfl, rfl⟩
    · rw [hn]; clear hn
      go_enter Try.func53, Try.ntmps53
      go_wp2_with fail
      refine (plain_any S _ _ w H.out).mono ?_
      rintro e w1 ⟨rfl, rfl⟩
      go_wp2
      go_ret
      exact ⟨rfl, rfl⟩

end Go.Proofs.Yticeknkikflmkaa
