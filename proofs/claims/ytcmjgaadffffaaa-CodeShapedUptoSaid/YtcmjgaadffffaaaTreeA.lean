/-
  Walks of package tree: told, kids, plain, alt, atom.
-/
import Derived.Test.YtcmjgaadffffaaaAssert
namespace Go.Proofs.Ytcmjgaadffffaaa
open Go.RowKit

set_option maxRecDepth 100000 in
set_option maxHeartbeats 1000000 in
theorem kids_any (S : Nat → Prop) (n : Nd) (v : Value) (w : World) (h : RN S w n v) (hS : ∀ k, S k → k < w.heap.size) :
    Calls Try.prog 20 #[v] w fun e w' => ∃ u, e = .returned u ∧ SN S w' n.kids u ∧ Fr nob w w' := by
  cases n with
  | nil =>
    rw [RN] at h; subst h
    go_enter Try.func20, Try.ntmps20
    go_wp2
    go_ret
    exact ⟨_, rfl, SN.nil, Fr.refl _ _⟩
  | empty =>
    rw [RN] at h; subst h
    go_enter Try.func20, Try.ntmps20
    go_wp2
    go_ret
    exact ⟨_, rfl, SN.nil, Fr.refl _ _⟩
  | one s =>
    rw [RN] at h; subst h
    go_enter Try.func20, Try.ntmps20
    go_wp2
    go_ret
    exact ⟨_, rfl, SN.nil, Fr.refl _ _⟩
  | back n =>
    rw [RN] at h; subst h
    go_enter Try.func20, Try.ntmps20
    go_wp2
    go_ret
    exact ⟨_, rfl, SN.nil, Fr.refl _ _⟩
  | start =>
    rw [RN] at h; subst h
    go_enter Try.func20, Try.ntmps20
    go_wp2
    go_ret
    exact ⟨_, rfl, SN.nil, Fr.refl _ _⟩
  | fin =>
    rw [RN] at h; subst h
    go_enter Try.func20, Try.ntmps20
    go_wp2
    go_ret
    exact ⟨_, rfl, SN.nil, Fr.refl _ _⟩
  | cat l =>
    rw [RN_cat] at h; obtain ⟨u, rfl, h⟩ := h
    obtain ⟨a, c, rfl⟩ := h.shape
    have HH := Lib.hid h; clear h
    go_enter Try.func20, Try.ntmps20
    go_wp2
    go_ret
    exact ⟨_, rfl, HH.out.on ((Fr.refl _ _).alloc _), (Fr.refl _ _).alloc _⟩
  | alt l =>
    rw [RN_alt] at h; obtain ⟨u, rfl, h⟩ := h
    obtain ⟨a, c, rfl⟩ := h.shape
    have HH := Lib.hid h; clear h
    go_enter Try.func20, Try.ntmps20
    go_wp2
    go_ret
    exact ⟨_, rfl, HH.out.on ((Fr.refl _ _).alloc _), (Fr.refl _ _).alloc _⟩
  | rep x mn mx =>
    rw [RN] at h; obtain ⟨u, rfl, h⟩ := h
    have hsh := h.shape
    have HH := Lib.hid h; clear h
    rcases hsh with rfl | ⟨i, x, rfl⟩
    all_goals
      go_enter Try.func20, Try.ntmps20
      go_wp2
      go_ret
      exact ⟨_, rfl, SN.one' (HH.out.on ((Fr.refl _ _).alloc _)) (fun k hk => by have := hS k hk; simp; omega) _ (by simp), ((Fr.refl _ _).alloc _).alloc _⟩
  | group n x =>
    rw [RN] at h; obtain ⟨u, rfl, h⟩ := h
    have hsh := h.shape
    have HH := Lib.hid h; clear h
    rcases hsh with rfl | ⟨i, x, rfl⟩
    all_goals
      go_enter Try.func20, Try.ntmps20
      go_wp2
      go_ret
      exact ⟨_, rfl, SN.one' (HH.out.on ((Fr.refl _ _).alloc _)) (fun k hk => by have := hS k hk; simp; omega) _ (by simp), ((Fr.refl _ _).alloc _).alloc _⟩


/-- A node that is told. -/
def Nd.told : Nd → Nd
  | .nil => .empty
  | n => n
/-- Can it stand in a Cat? -/
def Nd.plain : Nd → Bool
  | .nil | .empty | .cat _ | .alt _ => false
  | _ => true
def Nd.isAlt : Nd → Bool
  | .alt _ => true
  | _ => false
/-- May it be repeated? -/
def Nd.atom : Nd → Bool
  | .nil | .empty | .cat _ | .alt _ | .start | .fin => false
  | _ => true

theorem told_any2 (S : Nat → Prop) (n : Nd) (v : Value) (w : World) (h : RN S w n v) : Calls Try.prog 38 #[v] w fun e w' => ∃ u, e = .returned u ∧ RN S w n.told u ∧ (v = .nilIface ∨ u = v) ∧ w = w' := by
  rcases h.shape with rfl | ⟨i, x, rfl⟩
  · have hn : n = .nil := by cases n <;> rw [RN] at h <;> first | rfl | (cases h; done) | (obtain ⟨_, h, _⟩ := h; cases h)
    subst hn
    have H := Lib.hid h; clear h
    go_enter Try.func38, Try.ntmps38
    go_wp2
    go_ret
    exact ⟨_, rfl, by rw [Nd.told, RN]; rfl, by simp, rfl⟩
  · have hn : n.told = n := by cases n <;> first | rfl | (rw [RN] at h; cases h)
    have H := Lib.hid h; clear h; have HN := Lib.hid hn; clear hn
    go_enter Try.func38, Try.ntmps38
    go_wp2
    go_ret
    exact ⟨_, rfl, by rw [HN.out]; exact H.out, by simp, rfl⟩

theorem told_any (S : Nat → Prop) (n : Nd) (v : Value) (w : World) (h : RN S w n v) : Calls Try.prog 38 #[v] w fun e w' => ∃ u, e = .returned u ∧ RN S w n.told u ∧ w = w' := by
  refine (told_any2 S n v w h).mono ?_
  rintro e w1 ⟨u, h1, h2, _, h3⟩
  exact ⟨u, h1, h2, h3⟩


/-- A node's value is an interface of its kind's type. -/
def KindIs (S : Nat → Prop) (w : World) (v : Value) : Nd → Prop
    | .nil => v = .nilIface
    | .empty => v = .iface 73 (.agg #[])
    | .one s => v = .iface 48 (.agg s.cells.toArray)
    | .cat l => ∃ (a : Option Addr) (c : Nat), v = .iface 64 (.agg #[.slice a l.length c]) ∧ SN S w l (.slice a l.length c)
    | .alt l => ∃ (a : Option Addr) (c : Nat), v = .iface 65 (.agg #[.slice a l.length c]) ∧ SN S w l (.slice a l.length c)
    | .rep x mn mx => ∃ u, v = .iface 50 (.agg #[u, .int .i64 mn, .int .i64 mx]) ∧ RN S w x u
    | .group n x => ∃ u, v = .iface 67 (.agg #[.int .i64 n, u]) ∧ RN S w x u
    | .back n => v = .iface 69 (.agg #[.int .i64 n])
    | .start => v = .iface 71 (.agg #[])
    | .fin => v = .iface 72 (.agg #[])
theorem RN.kind {S : Nat → Prop} {w : World} {n : Nd} {v : Value} (h : RN S w n v) : KindIs S w v n := by
  cases n with
  | cat l => rw [RN_cat] at h; obtain ⟨u, rfl, h⟩ := h; obtain ⟨a, c, rfl⟩ := h.shape; exact ⟨a, c, rfl, h⟩
  | alt l => rw [RN_alt] at h; obtain ⟨u, rfl, h⟩ := h; obtain ⟨a, c, rfl⟩ := h.shape; exact ⟨a, c, rfl, h⟩
  | _ => rw [RN] at h; exact h

/-- .. its type alone. -/
def Nd.ty : Nd → Option TypeId
  | .nil => none
  | .empty => some 73
  | .one _ => some 48
  | .cat _ => some 64
  | .alt _ => some 65
  | .rep _ _ _ => some 50
  | .group _ _ => some 67
  | .back _ => some 69
  | .start => some 71
  | .fin => some 72
theorem RN.tyv {S : Nat → Prop} {w : World} {n : Nd} {v : Value} (h : RN S w n v) : (n.ty = none ∧ v = .nilIface) ∨ ∃ i x, n.ty = some i ∧ v = .iface i x := by
  have := h.kind
  cases n with
  | nil => exact .inl ⟨rfl, this⟩
  | cat l => obtain ⟨a, c, h, _⟩ := this; exact .inr ⟨_, _, rfl, h⟩
  | alt l => obtain ⟨a, c, h, _⟩ := this; exact .inr ⟨_, _, rfl, h⟩
  | rep x mn mx => obtain ⟨a, h, _⟩ := this; exact .inr ⟨_, _, rfl, h⟩
  | group n x => obtain ⟨a, h, _⟩ := this; exact .inr ⟨_, _, rfl, h⟩
  | _ => exact .inr ⟨_, _, rfl, this⟩

set_option maxRecDepth 100000 in
set_option maxHeartbeats 1000000 in
theorem plain_any (S : Nat → Prop) (n : Nd) (v : Value) (w : World) (h : RN S w n v) : Calls Try.prog 33 #[v] w fun e w' => e = .returned (.bool n.plain) ∧ w = w' := by
  have H := Lib.hid h; clear h
  obtain ⟨p, hp⟩ : ∃ p, n.plain = p := ⟨_, rfl⟩
  rw [hp]
  have HP := Lib.hid hp; clear hp
  go_enter Try.func33, Try.ntmps33
  go_wp2_with fail
  refine (told_any S n v w H.out).mono ?_
  rintro e w1 ⟨u, rfl, hu, rfl⟩
  rcases hu.tyv with ⟨ht, rfl⟩ | ⟨i, x, ht, rfl⟩
  · cases n <;> cases ht
  · have hi : (i = 73 ∧ p = false) ∨ (i = 64 ∧ p = false) ∨ (i = 65 ∧ p = false) ∨ (i ≠ 73 ∧ i ≠ 64 ∧ i ≠ 65 ∧ p = true) := by
      have hp := HP.out
      cases n <;> simp only [Nd.told, Nd.ty, Option.some.injEq] at ht <;> subst ht <;> subst hp <;> simp [Nd.plain]
    clear hu ht
    rcases hi with ⟨rfl, rfl⟩ | ⟨rfl, rfl⟩ | ⟨rfl, rfl⟩ | ⟨h1, h2, h3, rfl⟩
    all_goals
      go_wp2
      go_ret
      exact ⟨rfl, rfl⟩

set_option maxRecDepth 100000 in
set_option maxHeartbeats 1000000 in
theorem alt_any (S : Nat → Prop) (n : Nd) (v : Value) (w : World) (h : RN S w n v) : Calls Try.prog 34 #[v] w fun e w' => e = .returned (.bool n.isAlt) ∧ Fr nob w w' := by
  have hk := h.kind
  have H := Lib.hid h; clear h
  by_cases ha : ∃ l, n = .alt l
  · obtain ⟨l, rfl⟩ := ha
    obtain ⟨a, c, rfl, _⟩ := hk
    go_enter Try.func34, Try.ntmps34
    go_wp2
    go_ret
    exact ⟨rfl, (Fr.refl _ _).alloc _⟩
  · have hn : n.isAlt = false := by cases n <;> first | rfl | exact (ha ⟨_, rfl⟩).elim
    rw [hn]
    clear hk
    rcases H.out.tyv with ⟨_, rfl⟩ | ⟨i, x, ht, rfl⟩
    · go_enter Try.func34, Try.ntmps34
      go_wp2
      go_ret
      exact ⟨rfl, (Fr.refl _ _).alloc _⟩
    · have hi : i ≠ 65 := by
        cases n <;> simp only [Nd.ty, Option.some.injEq] at ht <;> first | (subst ht; decide) | (exact (ha ⟨_, rfl⟩).elim) | cases ht
      clear ha ht hn
      go_enter Try.func34, Try.ntmps34
      go_wp2
      go_ret
      exact ⟨rfl, (Fr.refl _ _).alloc _⟩

set_option maxRecDepth 100000 in
set_option maxHeartbeats 1000000 in
theorem atom_any (S : Nat → Prop) (n : Nd) (v : Value) (w : World) (h : RN S w n v) : Calls Try.prog 35 #[v] w fun e w' => e = .returned (.bool n.atom) ∧ w = w' := by
  rcases h.tyv with ⟨ht, rfl⟩ | ⟨i, x, ht, rfl⟩
  · have hn : n = .nil := by cases n <;> first | rfl | cases ht
    subst hn
    have H := Lib.hid h; clear h ht
    go_enter Try.func35, Try.ntmps35
    go_wp2_with fail
    refine (plain_any S _ _ w H.out).mono ?_
    rintro e w1 ⟨rfl, rfl⟩
    go_wp2
    go_ret
    exact ⟨rfl, rfl⟩
  · have hi : (i = 71 ∧ n.atom = false) ∨ (i = 72 ∧ n.atom = false) ∨ (i ≠ 71 ∧ i ≠ 72 ∧ n.atom = n.plain) := by
      cases n <;> simp only [Nd.ty, Option.some.injEq] at ht <;> first | (subst ht; simp [Nd.atom, Nd.plain]; done) | cases ht
    have H := Lib.hid h; clear h ht
    rcases hi with ⟨rfl, hn⟩ | ⟨rfl, hn⟩ | ⟨h1, h2, hn⟩
    · rw [hn]; clear hn
      go_enter Try.func35, Try.ntmps35
      go_wp2_with fail
      go_ret
      exact ⟨rfl, rfl⟩
    · rw [hn]; clear hn
      go_enter Try.func35, Try.ntmps35
      go_wp2_with fail
      go_ret
      exact ⟨rfl, rfl⟩
    · rw [hn]; clear hn
      go_enter Try.func35, Try.ntmps35
      go_wp2_with fail
      refine (plain_any S _ _ w H.out).mono ?_
      rintro e w1 ⟨rfl, rfl⟩
      go_wp2
      go_ret
      exact ⟨rfl, rfl⟩

end Go.Proofs.Ytcmjgaadffffaaa
