/-
  Merged texts of this claim: Assert, TreeA, TreeB, TreeC, TreeD.
-/
import Derived.Test.YtlchaocpejfikaaGreatDoorChecked
import Derived.Deep.RegionLaw
import Derived.Test.YtlchaocpejfikaaGreatDoorM01

/-
  Type assertions at the nodes' types: what each answers.
-/
namespace Go.Proofs.YtlchaocpejfikaaGreatDoor
open Go.RowKit

section
variable {P : Program}
theorem run_assert_hit {x a : TypeId} {fs : Array Field} (h : P.underlying a = some (.struct fs)) (v : Value) (w : World) :
    (Instr.typeAssert (.iface a v) x a true).run P w = .ok (.tuple #[v, .bool true]) w := by
  simp [Instr.typeAssert, run_underlying h]
theorem run_assert_miss {x a t : TypeId} {fs : Array Field} (h : P.underlying a = some (.struct fs)) {z : Value} (hz : ∀ w, (zeroValue a).run P w = .ok z w) (ht : t ≠ a) (v : Value) (w : World) :
    (Instr.typeAssert (.iface t v) x a true).run P w = .ok (.tuple #[z, .bool false]) w := by
  simp [Instr.typeAssert, run_underlying h, ht, hz]
theorem run_assert_nil {x a : TypeId} {fs : Array Field} (h : P.underlying a = some (.struct fs)) {z : Value} (hz : ∀ w, (zeroValue a).run P w = .ok z w) (w : World) :
    (Instr.typeAssert .nilIface x a true).run P w = .ok (.tuple #[z, .bool false]) w := by
  simp [Instr.typeAssert, run_underlying h, hz]
end

theorem as_hit_Empty (v : Value) (w : World) : (Instr.typeAssert (.iface 84 v) 36 84 true).run Tryz.prog w = .ok (.tuple #[v, .bool true]) w := run_assert_hit Tryz.underlying84 v w
theorem as_miss_Empty (t : TypeId) (v : Value) (w : World) (h : t ≠ 84) : (Instr.typeAssert (.iface t v) 36 84 true).run Tryz.prog w = .ok (.tuple #[.agg #[], .bool false]) w := run_assert_miss Tryz.underlying84 (fun _ => by kernel_rfl) h v w
theorem as_nil_Empty (w : World) : (Instr.typeAssert .nilIface 36 84 true).run Tryz.prog w = .ok (.tuple #[.agg #[], .bool false]) w := run_assert_nil Tryz.underlying84 (fun _ => by kernel_rfl) w
attribute [go_sem] as_hit_Empty as_miss_Empty as_nil_Empty
theorem as_hit_One (v : Value) (w : World) : (Instr.typeAssert (.iface 71 v) 36 71 true).run Tryz.prog w = .ok (.tuple #[v, .bool true]) w := run_assert_hit Tryz.underlying71 v w
theorem as_miss_One (t : TypeId) (v : Value) (w : World) (h : t ≠ 71) : (Instr.typeAssert (.iface t v) 36 71 true).run Tryz.prog w = .ok (.tuple #[.agg #[.int .u64 0, .int .u64 0, .int .u64 0, .int .u64 0], .bool false]) w := run_assert_miss Tryz.underlying71 (fun _ => by kernel_rfl) h v w
theorem as_nil_One (w : World) : (Instr.typeAssert .nilIface 36 71 true).run Tryz.prog w = .ok (.tuple #[.agg #[.int .u64 0, .int .u64 0, .int .u64 0, .int .u64 0], .bool false]) w := run_assert_nil Tryz.underlying71 (fun _ => by kernel_rfl) w
attribute [go_sem] as_hit_One as_miss_One as_nil_One
theorem as_hit_Cat (v : Value) (w : World) : (Instr.typeAssert (.iface 73 v) 36 73 true).run Tryz.prog w = .ok (.tuple #[v, .bool true]) w := run_assert_hit Tryz.underlying73 v w
theorem as_miss_Cat (t : TypeId) (v : Value) (w : World) (h : t ≠ 73) : (Instr.typeAssert (.iface t v) 36 73 true).run Tryz.prog w = .ok (.tuple #[.agg #[.slice none 0 0], .bool false]) w := run_assert_miss Tryz.underlying73 (fun _ => by kernel_rfl) h v w
theorem as_nil_Cat (w : World) : (Instr.typeAssert .nilIface 36 73 true).run Tryz.prog w = .ok (.tuple #[.agg #[.slice none 0 0], .bool false]) w := run_assert_nil Tryz.underlying73 (fun _ => by kernel_rfl) w
attribute [go_sem] as_hit_Cat as_miss_Cat as_nil_Cat
theorem as_hit_Alt (v : Value) (w : World) : (Instr.typeAssert (.iface 74 v) 36 74 true).run Tryz.prog w = .ok (.tuple #[v, .bool true]) w := run_assert_hit Tryz.underlying74 v w
theorem as_miss_Alt (t : TypeId) (v : Value) (w : World) (h : t ≠ 74) : (Instr.typeAssert (.iface t v) 36 74 true).run Tryz.prog w = .ok (.tuple #[.agg #[.slice none 0 0], .bool false]) w := run_assert_miss Tryz.underlying74 (fun _ => by kernel_rfl) h v w
theorem as_nil_Alt (w : World) : (Instr.typeAssert .nilIface 36 74 true).run Tryz.prog w = .ok (.tuple #[.agg #[.slice none 0 0], .bool false]) w := run_assert_nil Tryz.underlying74 (fun _ => by kernel_rfl) w
attribute [go_sem] as_hit_Alt as_miss_Alt as_nil_Alt
theorem as_hit_Rep (v : Value) (w : World) : (Instr.typeAssert (.iface 76 v) 36 76 true).run Tryz.prog w = .ok (.tuple #[v, .bool true]) w := run_assert_hit Tryz.underlying76 v w
theorem as_miss_Rep (t : TypeId) (v : Value) (w : World) (h : t ≠ 76) : (Instr.typeAssert (.iface t v) 36 76 true).run Tryz.prog w = .ok (.tuple #[.agg #[.nilIface, .int .i64 0, .int .i64 0], .bool false]) w := run_assert_miss Tryz.underlying76 (fun _ => by kernel_rfl) h v w
theorem as_nil_Rep (w : World) : (Instr.typeAssert .nilIface 36 76 true).run Tryz.prog w = .ok (.tuple #[.agg #[.nilIface, .int .i64 0, .int .i64 0], .bool false]) w := run_assert_nil Tryz.underlying76 (fun _ => by kernel_rfl) w
attribute [go_sem] as_hit_Rep as_miss_Rep as_nil_Rep
theorem as_hit_Group (v : Value) (w : World) : (Instr.typeAssert (.iface 78 v) 36 78 true).run Tryz.prog w = .ok (.tuple #[v, .bool true]) w := run_assert_hit Tryz.underlying78 v w
theorem as_miss_Group (t : TypeId) (v : Value) (w : World) (h : t ≠ 78) : (Instr.typeAssert (.iface t v) 36 78 true).run Tryz.prog w = .ok (.tuple #[.agg #[.int .i64 0, .nilIface], .bool false]) w := run_assert_miss Tryz.underlying78 (fun _ => by kernel_rfl) h v w
theorem as_nil_Group (w : World) : (Instr.typeAssert .nilIface 36 78 true).run Tryz.prog w = .ok (.tuple #[.agg #[.int .i64 0, .nilIface], .bool false]) w := run_assert_nil Tryz.underlying78 (fun _ => by kernel_rfl) w
attribute [go_sem] as_hit_Group as_miss_Group as_nil_Group
theorem as_hit_Back (v : Value) (w : World) : (Instr.typeAssert (.iface 80 v) 36 80 true).run Tryz.prog w = .ok (.tuple #[v, .bool true]) w := run_assert_hit Tryz.underlying80 v w
theorem as_miss_Back (t : TypeId) (v : Value) (w : World) (h : t ≠ 80) : (Instr.typeAssert (.iface t v) 36 80 true).run Tryz.prog w = .ok (.tuple #[.agg #[.int .i64 0], .bool false]) w := run_assert_miss Tryz.underlying80 (fun _ => by kernel_rfl) h v w
theorem as_nil_Back (w : World) : (Instr.typeAssert .nilIface 36 80 true).run Tryz.prog w = .ok (.tuple #[.agg #[.int .i64 0], .bool false]) w := run_assert_nil Tryz.underlying80 (fun _ => by kernel_rfl) w
attribute [go_sem] as_hit_Back as_miss_Back as_nil_Back
theorem as_hit_Start (v : Value) (w : World) : (Instr.typeAssert (.iface 82 v) 36 82 true).run Tryz.prog w = .ok (.tuple #[v, .bool true]) w := run_assert_hit Tryz.underlying82 v w
theorem as_miss_Start (t : TypeId) (v : Value) (w : World) (h : t ≠ 82) : (Instr.typeAssert (.iface t v) 36 82 true).run Tryz.prog w = .ok (.tuple #[.agg #[], .bool false]) w := run_assert_miss Tryz.underlying82 (fun _ => by kernel_rfl) h v w
theorem as_nil_Start (w : World) : (Instr.typeAssert .nilIface 36 82 true).run Tryz.prog w = .ok (.tuple #[.agg #[], .bool false]) w := run_assert_nil Tryz.underlying82 (fun _ => by kernel_rfl) w
attribute [go_sem] as_hit_Start as_miss_Start as_nil_Start
theorem as_hit_End (v : Value) (w : World) : (Instr.typeAssert (.iface 83 v) 36 83 true).run Tryz.prog w = .ok (.tuple #[v, .bool true]) w := run_assert_hit Tryz.underlying83 v w
theorem as_miss_End (t : TypeId) (v : Value) (w : World) (h : t ≠ 83) : (Instr.typeAssert (.iface t v) 36 83 true).run Tryz.prog w = .ok (.tuple #[.agg #[], .bool false]) w := run_assert_miss Tryz.underlying83 (fun _ => by kernel_rfl) h v w
theorem as_nil_End (w : World) : (Instr.typeAssert .nilIface 36 83 true).run Tryz.prog w = .ok (.tuple #[.agg #[], .bool false]) w := run_assert_nil Tryz.underlying83 (fun _ => by kernel_rfl) w
attribute [go_sem] as_hit_End as_miss_End as_nil_End

end Go.Proofs.YtlchaocpejfikaaGreatDoor

/-
  Walks of package tree: told, kids, plain, alt, atom.
-/
namespace Go.Proofs.YtlchaocpejfikaaGreatDoor
open Go.RowKit

set_option maxRecDepth 100000 in
set_option maxHeartbeats 1000000 in
theorem kids_any (S : Nat → Prop) (n : Nd) (v : Value) (w : World) (h : RN S w n v) (hS : ∀ k, S k → k < w.heap.size) :
    Calls Tryz.prog 73 #[v] w fun e w' => ∃ u, e = .returned u ∧ SN S w' n.kids u ∧ Fr nob w w' := by
  cases n with
  | nil =>
    rw [RN] at h; subst h
    go_enter Tryz.func73, Tryz.ntmps73
    go_wp2
    go_ret
    exact ⟨_, rfl, SN.nil, Fr.refl _ _⟩
  | empty =>
    rw [RN] at h; subst h
    go_enter Tryz.func73, Tryz.ntmps73
    go_wp2
    go_ret
    exact ⟨_, rfl, SN.nil, Fr.refl _ _⟩
  | one s =>
    rw [RN] at h; subst h
    go_enter Tryz.func73, Tryz.ntmps73
    go_wp2
    go_ret
    exact ⟨_, rfl, SN.nil, Fr.refl _ _⟩
  | back n =>
    rw [RN] at h; subst h
    go_enter Tryz.func73, Tryz.ntmps73
    go_wp2
    go_ret
    exact ⟨_, rfl, SN.nil, Fr.refl _ _⟩
  | start =>
    rw [RN] at h; subst h
    go_enter Tryz.func73, Tryz.ntmps73
    go_wp2
    go_ret
    exact ⟨_, rfl, SN.nil, Fr.refl _ _⟩
  | fin =>
    rw [RN] at h; subst h
    go_enter Tryz.func73, Tryz.ntmps73
    go_wp2
    go_ret
    exact ⟨_, rfl, SN.nil, Fr.refl _ _⟩
  | cat l =>
    rw [RN_cat] at h; obtain ⟨u, rfl, h⟩ := h
    obtain ⟨a, c, rfl⟩ := h.shape
    have HH := Lib.hid h; clear h
    go_enter Tryz.func73, Tryz.ntmps73
    go_wp2
    go_ret
    exact ⟨_, rfl, HH.out.on ((Fr.refl _ _).alloc _), (Fr.refl _ _).alloc _⟩
  | alt l =>
    rw [RN_alt] at h; obtain ⟨u, rfl, h⟩ := h
    obtain ⟨a, c, rfl⟩ := h.shape
    have HH := Lib.hid h; clear h
    go_enter Tryz.func73, Tryz.ntmps73
    go_wp2
    go_ret
    exact ⟨_, rfl, HH.out.on ((Fr.refl _ _).alloc _), (Fr.refl _ _).alloc _⟩
  | rep x mn mx =>
    rw [RN] at h; obtain ⟨u, rfl, h⟩ := h
    have hsh := h.shape
    have HH := Lib.hid h; clear h
    rcases hsh with rfl | ⟨i, x, rfl⟩
    all_goals
      go_enter Tryz.func73, Tryz.ntmps73
      go_wp2
      go_ret
      exact ⟨_, rfl, SN.one' (HH.out.on ((Fr.refl _ _).alloc _)) (fun k hk => by have := hS k hk; simp; omega) _ (by simp), ((Fr.refl _ _).alloc _).alloc _⟩
  | group n x =>
    rw [RN] at h; obtain ⟨u, rfl, h⟩ := h
    have hsh := h.shape
    have HH := Lib.hid h; clear h
    rcases hsh with rfl | ⟨i, x, rfl⟩
    all_goals
      go_enter Tryz.func73, Tryz.ntmps73
      go_wp2
      go_ret
      exact ⟨_, rfl, SN.one' (HH.out.on ((Fr.refl _ _).alloc _)) (fun k hk => by have := hS k hk; simp; omega) _ (by simp), ((Fr.refl _ _).alloc _).alloc _⟩


/-- A node that is told. -/
def Nd.told : Nd → Nd
  | .nil => .empty
  | n => n
/-- Can it stand in a Cat? -/
def Nd.plain : Nd → Bool
  | .nil | .empty | .cat _ | .alt _ => false
  | _ => true
def Nd.isAlt : Nd → Bool
  | .alt _ => true
  | _ => false
/-- May it be repeated? -/
def Nd.atom : Nd → Bool
  | .nil | .empty | .cat _ | .alt _ | .start | .fin => false
  | _ => true

theorem told_any2 (S : Nat → Prop) (n : Nd) (v : Value) (w : World) (h : RN S w n v) : Calls Tryz.prog 41 #[v] w fun e w' => ∃ u, e = .returned u ∧ RN S w n.told u ∧ (v = .nilIface ∨ u = v) ∧ w = w' := by
  rcases h.shape with rfl | ⟨i, x, rfl⟩
  · have hn : n = .nil := by cases n <;> rw [RN] at h <;> first | rfl | (cases h; done) | (obtain ⟨_, h, _⟩ := h; cases h)
    subst hn
    have H := Lib.hid h; clear h
    go_enter Tryz.func41, Tryz.ntmps41
    go_wp2
    go_ret
    exact ⟨_, rfl, by rw [Nd.told, RN]; rfl, by simp, rfl⟩
  · have hn : n.told = n := by cases n <;> first | rfl | (rw [RN] at h; cases h)
    have H := Lib.hid h; clear h; have HN := Lib.hid hn; clear hn
    go_enter Tryz.func41, Tryz.ntmps41
    go_wp2
    go_ret
    exact ⟨_, rfl, by rw [HN.out]; exact H.out, by simp, rfl⟩

theorem told_any (S : Nat → Prop) (n : Nd) (v : Value) (w : World) (h : RN S w n v) : Calls Tryz.prog 41 #[v] w fun e w' => ∃ u, e = .returned u ∧ RN S w n.told u ∧ w = w' := by
  refine (told_any2 S n v w h).mono ?_
  rintro e w1 ⟨u, h1, h2, _, h3⟩
  exact ⟨u, h1, h2, h3⟩


/-- A node's value is an interface of its kind's type. -/
def KindIs (S : Nat → Prop) (w : World) (v : Value) : Nd → Prop
    | .nil => v = .nilIface
    | .empty => v = .iface 84 (.agg #[])
    | .one s => v = .iface 71 (.agg s.cells.toArray)
    | .cat l => ∃ (a : Option Addr) (c : Nat), v = .iface 73 (.agg #[.slice a l.length c]) ∧ SN S w l (.slice a l.length c)
    | .alt l => ∃ (a : Option Addr) (c : Nat), v = .iface 74 (.agg #[.slice a l.length c]) ∧ SN S w l (.slice a l.length c)
    | .rep x mn mx => ∃ u, v = .iface 76 (.agg #[u, .int .i64 mn, .int .i64 mx]) ∧ RN S w x u
    | .group n x => ∃ u, v = .iface 78 (.agg #[.int .i64 n, u]) ∧ RN S w x u
    | .back n => v = .iface 80 (.agg #[.int .i64 n])
    | .start => v = .iface 82 (.agg #[])
    | .fin => v = .iface 83 (.agg #[])
theorem RN.kind {S : Nat → Prop} {w : World} {n : Nd} {v : Value} (h : RN S w n v) : KindIs S w v n := by
  cases n with
  | cat l => rw [RN_cat] at h; obtain ⟨u, rfl, h⟩ := h; obtain ⟨a, c, rfl⟩ := h.shape; exact ⟨a, c, rfl, h⟩
  | alt l => rw [RN_alt] at h; obtain ⟨u, rfl, h⟩ := h; obtain ⟨a, c, rfl⟩ := h.shape; exact ⟨a, c, rfl, h⟩
  | _ => rw [RN] at h; exact h

/-- .. its type alone. -/
def Nd.ty : Nd → Option TypeId
  | .nil => none
  | .empty => some 84
  | .one _ => some 71
  | .cat _ => some 73
  | .alt _ => some 74
  | .rep _ _ _ => some 76
  | .group _ _ => some 78
  | .back _ => some 80
  | .start => some 82
  | .fin => some 83
theorem RN.tyv {S : Nat → Prop} {w : World} {n : Nd} {v : Value} (h : RN S w n v) : (n.ty = none ∧ v = .nilIface) ∨ ∃ i x, n.ty = some i ∧ v = .iface i x := by
  have := h.kind
  cases n with
  | nil => exact .inl ⟨rfl, this⟩
  | cat l => obtain ⟨a, c, h, _⟩ := this; exact .inr ⟨_, _, rfl, h⟩
  | alt l => obtain ⟨a, c, h, _⟩ := this; exact .inr ⟨_, _, rfl, h⟩
  | rep x mn mx => obtain ⟨a, h, _⟩ := this; exact .inr ⟨_, _, rfl, h⟩
  | group n x => obtain ⟨a, h, _⟩ := this; exact .inr ⟨_, _, rfl, h⟩
  | _ => exact .inr ⟨_, _, rfl, this⟩

set_option maxRecDepth 100000 in
set_option maxHeartbeats 1000000 in
theorem plain_any (S : Nat → Prop) (n : Nd) (v : Value) (w : World) (h : RN S w n v) : Calls Tryz.prog 105 #[v] w fun e w' => e = .returned (.bool n.plain) ∧ w = w' := by
  have H := Lib.hid h; clear h
  obtain ⟨p, hp⟩ : ∃ p, n.plain = p := ⟨_, rfl⟩
  rw [hp]
  have HP := Lib.hid hp; clear hp
  go_enter Tryz.func105, Tryz.ntmps105
  go_wp2_with fail
  refine (told_any S n v w H.out).mono ?_
  rintro e w1 ⟨u, rfl, hu, rfl⟩
  rcases hu.tyv with ⟨ht, rfl⟩ | ⟨i, x, ht, rfl⟩
  · cases n <;> cases ht
  · have hi : (i = 84 ∧ p = false) ∨ (i = 73 ∧ p = false) ∨ (i = 74 ∧ p = false) ∨ (i ≠ 84 ∧ i ≠ 73 ∧ i ≠ 74 ∧ p = true) := by
      have hp := HP.out
      cases n <;> simp only [Nd.told, Nd.ty, Option.some.injEq] at ht <;> subst ht <;> subst hp <;> simp [Nd.plain]
    clear hu ht
    rcases hi with ⟨rfl, rfl⟩ | ⟨rfl, rfl⟩ | ⟨rfl, rfl⟩ | ⟨h1, h2, h3, rfl⟩
    all_goals
      go_wp2
      go_ret
      exact ⟨rfl, rfl⟩

set_option maxRecDepth 100000 in
set_option maxHeartbeats 1000000 in
theorem alt_any (S : Nat → Prop) (n : Nd) (v : Value) (w : World) (h : RN S w n v) : Calls Tryz.prog 98 #[v] w fun e w' => e = .returned (.bool n.isAlt) ∧ Fr nob w w' := by
  have hk := h.kind
  have H := Lib.hid h; clear h
  by_cases ha : ∃ l, n = .alt l
  · obtain ⟨l, rfl⟩ := ha
    obtain ⟨a, c, rfl, _⟩ := hk
    go_enter Tryz.func98, Tryz.ntmps98
    go_wp2
    go_ret
    exact ⟨rfl, (Fr.refl _ _).alloc _⟩
  · have hn : n.isAlt = false := by cases n <;> first | rfl | exact (ha ⟨_, rfl⟩).elim
    rw [hn]
    clear hk
    rcases H.out.tyv with ⟨_, rfl⟩ | ⟨i, x, ht, rfl⟩
    · go_enter Tryz.func98, Tryz.ntmps98
      go_wp2
      go_ret
      exact ⟨rfl, (Fr.refl _ _).alloc _⟩
    · have hi : i ≠ 74 := by
        cases n <;> simp only [Nd.ty, Option.some.injEq] at ht <;> first | (subst ht; decide) | (exact (ha ⟨_, rfl⟩).elim) | cases ht
      clear ha ht hn
      go_enter Tryz.func98, Tryz.ntmps98
      go_wp2
      go_ret
      exact ⟨rfl, (Fr.refl _ _).alloc _⟩

set_option maxRecDepth 100000 in
set_option maxHeartbeats 1000000 in
theorem atom_any (S : Nat → Prop) (n : Nd) (v : Value) (w : World) (h : RN S w n v) : Calls Tryz.prog 106 #[v] w fun e w' => e = .returned (.bool n.atom) ∧ w = w' := by
  rcases h.tyv with ⟨ht, rfl⟩ | ⟨i, x, ht, rfl⟩
  · have hn : n = .nil := by cases n <;> first | rfl | cases ht
    subst hn
    have H := Lib.hid h; clear h ht
    go_enter Tryz.func106, Tryz.ntmps106
    go_wp2_with fail
    refine (plain_any S _ _ w H.out).mono ?_
    rintro e w1 ⟨rfl, rfl⟩
    go_wp2
    go_ret
    exact ⟨rfl, rfl⟩
  · have hi : (i = 82 ∧ n.atom = false) ∨ (i = 83 ∧ n.atom = false) ∨ (i ≠ 82 ∧ i ≠ 83 ∧ n.atom = n.plain) := by
      cases n <;> simp only [Nd.ty, Option.some.injEq] at ht <;> first | (subst ht; simp [Nd.atom, Nd.plain]; done) | cases ht
    have H := Lib.hid h; clear h ht
    rcases hi with ⟨rfl, hn⟩ | ⟨rfl, hn⟩ | ⟨h1, h2, hn⟩
    · rw [hn]; clear hn
      go_enter Tryz.func106, Tryz.ntmps106
      go_wp2_with fail
      go_ret
      exact ⟨rfl, rfl⟩
    · rw [hn]; clear hn
      go_enter Tryz.func106, Tryz.ntmps106
      go_wp2_with fail
      go_ret
      exact ⟨rfl, rfl⟩
    · rw [hn]; clear hn
      go_enter Tryz.func106, Tryz.ntmps106
      go_wp2_with fail
      refine (plain_any S _ _ w H.out).mono ?_
      rintro e w1 ⟨rfl, rfl⟩
      go_wp2
      go_ret
      exact ⟨rfl, rfl⟩

end Go.Proofs.YtlchaocpejfikaaGreatDoor

/-
  Walks: slices.IndexFunc, ContainsFunc over nodes, by a function that is a predicate; slices.Contains over numbers.
-/
namespace Go.Proofs.YtlchaocpejfikaaGreatDoor
open Go.RowKit

/-- A function of the program that answers a predicate of nodes. -/
def IsPred (f : FuncId) (p : Nd → Bool) (B : Nat) : Prop := ∀ (n : Nd) (v : Value) (w : World), n.size ≤ B → RN nob w n v → Calls Tryz.prog f #[v] w fun e w' => e = .returned (.bool (p n)) ∧ Fr nob w w'

theorem pred_alt (B : Nat) : IsPred 98 Nd.isAlt B := fun n v w _ h => alt_any nob n v w h

theorem notPlain_any (n : Nd) (v : Value) (w : World) (h : RN nob w n v) : Calls Tryz.prog 104 #[v] w fun e w' => e = .returned (.bool (!n.plain)) ∧ Fr nob w w' := by
  have H := Lib.hid h; clear h
  go_enter Tryz.func104, Tryz.ntmps104
  go_wp2_with fail
  refine (plain_any nob n v w H.out).mono ?_
  rintro e w1 ⟨rfl, rfl⟩
  go_wp2
  go_ret
  exact ⟨rfl, Fr.refl _ _⟩

theorem pred_notPlain (B : Nat) : IsPred 104 (fun n => !n.plain) B := fun n v w _ h => notPlain_any n v w h

set_option maxRecDepth 100000 in
set_option maxHeartbeats 1000000 in
theorem indexFunc_any (f : FuncId) (p : Nd → Bool) (B : Nat) (hp : IsPred f p B) (hdef : ∀ args w, (callFunc f args).run Tryz.prog w = .ok (.enter f args) w) (l : List Nd) (u : Value) (w : World) (hl : l.length ≤ 3000000) (hB : ∀ n ∈ l, n.size ≤ B) (h : SN nob w l u) :
    Calls Tryz.prog 121 #[u, .func (.func f) #[] #[]] w fun e w' => (∃ i : Int, e = .returned (.int .i64 i) ∧ (decide (0 ≤ i)) = l.any p) ∧ Fr nob w w' := by
  obtain ⟨a, c, rfl⟩ := h.shape
  have H := Lib.hid h; clear h
  have HP := Lib.hid hp; clear hp
  have HB := Lib.hid hB; clear hB
  go_enter Tryz.func121, Tryz.ntmps121
  go_wp2_with fail
  go_loopw [8] (fun i wr => ∃ k : Nat, i = .int .i64 k ∧ k ≤ l.length ∧ (l.take k).any p = false ∧ Fr nob w wr) (fun i _ => l.length - (intOf i).toNat)
  case atStart => exact ⟨0, rfl, Nat.zero_le _, rfl, Fr.refl _ _⟩
  case round =>
    obtain ⟨k, rfl, hk, hn, fr⟩ := hrel
    have HR := Lib.hid (H.out.on fr); have FR := Lib.hid fr; have HN := Lib.hid hn; clear fr hn
    by_cases hlt : k < l.length
    · obtain ⟨g, off, cap, x, he, hx, hc⟩ := HR.out.get hlt
      injection he with e1 e2 e3
      subst e1; subst e3
      have HX := Lib.hid hx; clear hx e2
      have hts := Lib.hid (List.take_succ_eq_append_getElem hlt)
      have hany : (l.take (k + 1)).any p = p l[k] := by rw [hts.out, List.any_append, HN.out]; simp
      have HA := Lib.hid hany; clear hany
      go_wp2_with fail
      refine (HP.out l[k] x _ (HB.out _ (List.getElem_mem hlt)) HX.out).mono ?_
      rintro e w2 ⟨rfl, f2⟩
      have F2 := Lib.hid f2; clear f2
      by_cases hpk : p l[k] = true
      · have hall : l.any p = true := List.any_eq_true.2 ⟨_, List.getElem_mem hlt, hpk⟩
        have HALL := Lib.hid hall; clear hall
        rw [hpk]
        clear hpk
        go_wp2
        go_ret
        exact ⟨⟨k, rfl, by rw [HALL.out]; simp⟩, FR.out.trans' F2.out⟩
      · have hpf : p l[k] = false := by simpa using hpk
        have HA2 := Lib.hid (HA.out.trans hpf); clear hpk
        rw [hpf]
        clear hpf
        go_wp2
        go_roundw
        case rel => exact ⟨k + 1, by go_num, by omega, HA2.out, FR.out.trans' F2.out⟩
        case measure => simp [intOf]; omega
    · obtain rfl : k = l.length := by omega
      have hT := Lib.hid (List.take_of_length_le (l := l) (Nat.le_refl _))
      go_wp2
      go_ret
      exact ⟨⟨-1, rfl, by have := HN.out; rw [hT.out] at this; rw [this]; decide⟩, FR.out⟩


set_option maxRecDepth 100000 in
theorem containsFunc_any (f : FuncId) (p : Nd → Bool) (B : Nat) (hp : IsPred f p B) (hdef : ∀ args w, (callFunc f args).run Tryz.prog w = .ok (.enter f args) w) (l : List Nd) (u : Value) (w : World) (hl : l.length ≤ 3000000) (hB : ∀ n ∈ l, n.size ≤ B) (h : SN nob w l u) :
    Calls Tryz.prog 103 #[u, .func (.func f) #[] #[]] w fun e w' => e = .returned (.bool (l.any p)) ∧ Fr nob w w' := by
  have H := Lib.hid h; clear h
  have HP := Lib.hid hp; clear hp
  have HB := Lib.hid hB; clear hB
  have HD := Lib.hid hdef; clear hdef
  go_enter Tryz.func103, Tryz.ntmps103
  go_wp2_with fail
  refine (indexFunc_any f p B HP.out HD.out l u w hl HB.out H.out).mono ?_
  rintro e w1 ⟨⟨i, rfl, hi⟩, f1⟩
  have F1 := Lib.hid f1; have HI := Lib.hid hi; clear f1 hi
  go_wp2
  go_ret
  exact ⟨by rw [← HI.out]; rfl, F1.out⟩

/-- A slice of integers, its own or not: what it reads. -/
def SI (w : World) (l : List Int) (u : Value) : Prop := (u = .slice none 0 0 ∧ l = []) ∨ ∃ g off cap, u = .slice (some ⟨g, off, none⟩) l.length cap ∧ ∀ j x, l[j]? = some x → w.cell? ⟨g, off + j, none⟩ = some (.int .i64 x)

theorem SI.shape {w : World} {l : List Int} {u : Value} (h : SI w l u) : ∃ a c, u = .slice a l.length c := by
  rcases h with ⟨rfl, rfl⟩ | ⟨g, off, cap, rfl, _⟩
  · exact ⟨_, _, rfl⟩
  · exact ⟨_, _, rfl⟩
theorem SI.get {w : World} {l : List Int} {u : Value} (h : SI w l u) {k : Nat} (hk : k < l.length) : ∃ g off cap, u = .slice (some ⟨g, off, none⟩) l.length cap ∧ w.cell? ⟨g, off + k, none⟩ = some (.int .i64 l[k]) := by
  rcases h with ⟨_, rfl⟩ | ⟨g, off, cap, rfl, h⟩
  · simp at hk
  · exact ⟨g, off, cap, rfl, h k _ (List.getElem?_eq_getElem hk)⟩

set_option maxRecDepth 100000 in
set_option maxHeartbeats 1000000 in
theorem contains_any (l : List Int) (x : Int) (u : Value) (w : World) (hl : l.length ≤ 3000000) (h : SI w l u) :
    Calls Tryz.prog 107 #[u, .int .i64 x] w fun e w' => e = .returned (.bool (l.contains x)) ∧ w = w' := by
  obtain ⟨a, c, rfl⟩ := h.shape
  have H := Lib.hid h; clear h
  obtain ⟨r, hr⟩ : ∃ r, l.contains x = r := ⟨_, rfl⟩
  rw [hr]
  have HR := Lib.hid hr; clear hr
  go_enter Tryz.func107, Tryz.ntmps107
  go_wp2
  go_loop [8] (fun i => ∃ k : Nat, i = .int .i64 k ∧ k ≤ l.length ∧ (l.take k).contains x = false) (fun i => l.length - (intOf i).toNat)
  case atStart => exact ⟨0, rfl, Nat.zero_le _, rfl⟩
  case round =>
    obtain ⟨k, rfl, hk, hn⟩ := hrel
    have HN := Lib.hid hn; clear hn
    by_cases hlt : k < l.length
    · obtain ⟨g, off, cap, he, hc⟩ := H.out.get hlt
      injection he with e1 e2 e3
      subst e1; subst e3
      have hts := Lib.hid (List.take_succ_eq_append_getElem hlt)
      by_cases hx : x = l[k]
      · have t1 : (x == l[k]) = true := by rw [← hx]; simp
        obtain rfl : r = true := by rw [← HR.out, hx]; simp
        clear hx e2
        go_wp2
        go_ret
        exact ⟨by simp, rfl⟩
      · have t1 : (x == l[k]) = false := by simpa using hx
        have hnn : (l.take (k + 1)).contains x = false := by
          have := HN.out
          rw [hts.out]; simp only [List.contains_eq_mem, decide_eq_false_iff_not, List.mem_append, List.mem_singleton] at *
          intro h; rcases h with h | h; exact this h; exact hx h
        have HNN := Lib.hid hnn; clear hnn hx e2
        go_wp2
        go_round
        case rel => exact ⟨k + 1, by go_num, by omega, HNN.out⟩
        case measure => simp [intOf]; omega
    · obtain rfl : k = l.length := by omega
      have hT := List.take_of_length_le (l := l) (Nat.le_refl _)
      obtain rfl : r = false := by have := HN.out; rw [hT] at this; rw [← HR.out]; exact this
      clear hT
      go_wp2
      go_ret
      exact ⟨by simp, rfl⟩

end Go.Proofs.YtlchaocpejfikaaGreatDoor

/-
  Walks of package tree: the looker; Right.
-/
namespace Go.Proofs.YtlchaocpejfikaaGreatDoor
open Go.RowKit

/-- The looker in block b: how many groups were opened, which are closed. -/
def Lk (b : Nat) (o : Int) (c : List Int) (g : Option Nat) (w : World) : Prop :=
  ∃ u, w.heap[b]? = some (.cells #[.int .i64 o, u] 121 (0, 0)) ∧ w.ownsRow 0 3 1 u c.length (c.map (Value.int .i64)) ∧ u.ownBlock = g ∧ g ≠ some b

def repOk (a : Bool) (mn mx : Int) : Bool := a && (decide (0 ≤ mn) && (decide (mn ≤ 255) && (mx == -1 || (decide (mn ≤ mx) && decide (mx ≤ 255)))))

/-- Is a node, its parts not looked at within; how many groups are opened then. -/
def Nd.shaped (o : Int) (c : List Int) : Nd → Bool × Int
  | .cat l => (decide (1 < l.length) && !l.any (fun n => !n.plain), o)
  | .alt l => (decide (1 < l.length) && !l.any Nd.isAlt, o)
  | .rep x mn mx => (repOk x.atom mn mx, o)
  | .group n _ => (n == o + 1, o + 1)
  | .back n => (c.contains n, o)
  | _ => (true, o)

theorem Lk.si {b : Nat} {o : Int} {c : List Int} {g : Option Nat} {w : World} (h : Lk b o c g w) : ∃ u, w.cell? ⟨b, 1, none⟩ = some u ∧ SI w c u ∧ u.ownBlock = g := by
  obtain ⟨u, hb, hown, hg, _⟩ := h
  refine ⟨u, cell_at hb rfl, ?_, hg⟩
  obtain ⟨_, h⟩ := hown
  rcases h with ⟨rfl, h0⟩ | ⟨r, cap, cur, rfl, _, hr, hn, _, _, htake⟩
  · exact .inl ⟨rfl, List.length_eq_zero_iff.1 h0⟩
  · refine .inr ⟨r, 0, cap, rfl, fun j x hj => ?_⟩
    have : (c.map (Value.int .i64))[j]? = some (.int .i64 x) := by simp [hj]
    rw [← htake, List.getElem?_take] at this
    split at this
    · exact cell_at hr (by simpa using this)
    · cases this
theorem Lk.sis {b : Nat} {o : Int} {c : List Int} {g : Option Nat} {w : World} (h : Lk b o c g w) : ∃ u, u.ownBlock = g ∧ ∀ w', Fr nob w w' → w'.cell? ⟨b, 1, none⟩ = some u ∧ SI w' c u := by
  obtain ⟨u, hb, hown, hg, hne⟩ := h
  refine ⟨u, hg, fun w' f => ?_⟩
  have h' : Lk b o c g w' := ⟨u, f.heap hb (fun x => x), ownsRow_fr hown f (fun _ _ x => x), hg, hne⟩
  obtain ⟨u', hc, hs, _⟩ := h'.si
  have hc2 : w'.cell? ⟨b, 1, none⟩ = some u := cell_at (f.heap hb (fun x => x)) rfl
  obtain rfl : u = u' := by rw [hc2] at hc; injection hc
  exact ⟨hc2, hs⟩
theorem Lk.cell0 {b : Nat} {o : Int} {c : List Int} {g : Option Nat} {w : World} (h : Lk b o c g w) : w.cell? ⟨b, 0, none⟩ = some (.int .i64 o) := by
  obtain ⟨u, hb, _⟩ := h; exact cell_at hb rfl
theorem Lk.thawed {b : Nat} {o : Int} {c : List Int} {g : Option Nat} {w : World} (h : Lk b o c g w) (j : Nat) : w.frozen? ⟨b, j, none⟩ = false := by
  obtain ⟨u, hb, _⟩ := h; exact unfrozen_at hb j
theorem Lk.lt {b : Nat} {o : Int} {c : List Int} {g : Option Nat} {w : World} (h : Lk b o c g w) : b < w.heap.size := by
  obtain ⟨u, hb, _⟩ := h; exact lt_heap hb
theorem Lk.on {b : Nat} {o : Int} {c : List Int} {g : Option Nat} {w w' : World} (h : Lk b o c g w) (hf : Fr nob w w') : Lk b o c g w' := by
  obtain ⟨u, hb, hown, hg, hne⟩ := h
  exact ⟨u, hf.heap hb (fun x => x), ownsRow_fr hown hf (fun _ _ x => x), hg, hne⟩
theorem Lk.open {b : Nat} {o : Int} {c : List Int} {g : Option Nat} {w : World} (h : Lk b o c g w) (k : Int) : Lk b k c g (w.setCell ⟨b, 0, none⟩ (.int .i64 k)) := by
  obtain ⟨u, hb, hown, hg, hne⟩ := h
  refine ⟨u, by have := heap_setCell_at hb 0 (.int .i64 k); simpa using this, ?_, hg, hne⟩
  exact ownsRow_fr hown ((Fr.refl (fun k => k = b) w).setCell (p := ⟨b, 0, none⟩) (fun _ => rfl) _) (fun k hk e => hne (by rw [← hg, hk, e]))

theorem SN.weak {S : Nat → Prop} {w : World} {l : List Nd} {u : Value} (h : SN S w l u) : SN nob w l u := h.keep (Fr.refl nob w) (fun _ _ x => x.elim) (fun _ _ x => x.elim)
theorem RN.weak {S : Nat → Prop} {w : World} {n : Nd} {u : Value} (h : RN S w n u) : RN nob w n u := RN.keep (Fr.refl nob w) (fun _ _ x => x.elim) (fun _ _ x => x.elim) _ _ h

theorem enters_f {P : Program} {f : FuncId} {fn : Func} {c : Code} (hf : P.funcs[f]? = some fn) (hname : (fn.name == "runtime.NumGoroutine") = false) (hb : fn.body = some c) : ∀ args w, (callFunc f args).run P w = .ok (.enter f args) w := by
  intro args w
  have h1 : fn.name ≠ "runtime.NumGoroutine" := by simpa using hname
  simp [callFunc, hf, h1, hb, mark]
theorem enters_alt : ∀ args w, (callFunc 98 args).run Tryz.prog w = .ok (.enter 98 args) w := enters_f Tryz.func98 (by kernel_rfl) rfl
theorem enters_notPlain : ∀ args w, (callFunc 104 args).run Tryz.prog w = .ok (.enter 104 args) w := enters_f Tryz.func104 (by kernel_rfl) rfl

/-- What 'shaped' leaves. -/
def Shp (b : Nat) (o : Int) (c : List Int) (g : Option Nat) (n : Nd) (w : World) (e : Ending) (w' : World) : Prop :=
  e = .returned (.bool (n.shaped o c).1) ∧ Lk b (n.shaped o c).2 c g w' ∧ Fr (fun k => k = b) w w'

set_option maxRecDepth 100000 in
set_option maxHeartbeats 1000000 in
theorem shaped_cat (b : Nat) (o : Int) (c : List Int) (g : Option Nat) (l : List Nd) (v : Value) (w : World) (hL : Lk b o c g w) (hz : Nd.sizes l ≤ 3000000) (h : RN nob w (.cat l) v) :
    Calls Tryz.prog 84 #[.pointer (some ⟨b, 0, none⟩), v] w (Shp b o c g (.cat l) w) := by
  obtain ⟨a, cp, rfl, hs⟩ := h.kind
  have hlen := Nd.length_le l
  have HM := Lib.hid (fun n (hn : n ∈ l) => Nd.sizes_mem hn)
  have H := Lib.hid hs; have HL := Lib.hid hL; clear h hs hL
  by_cases h1 : 1 < l.length
  · obtain ⟨r, hr⟩ : ∃ r, l.any (fun n => !n.plain) = r := ⟨_, rfl⟩
    have hE : Nd.shaped o c (.cat l) = (!r, o) := by simp [Nd.shaped, h1, hr]
    have HR := Lib.hid hr; have HE := Lib.hid hE; clear hr hE
    have h1' : (1 : Int) < l.length := by omega
    go_enter Tryz.func84, Tryz.ntmps84
    go_wp2_with fail
    refine (containsFunc_any 104 _ 3000000 (pred_notPlain _) enters_notPlain l _ _ (by omega) (fun n hn => by have := HM.out n hn; omega) (H.out.on ((Fr.refl _ _).alloc _))).mono ?_
    rw [HR.out]
    rintro e w1 ⟨rfl, f1⟩
    have F1 := Lib.hid f1; clear f1
    go_wp2
    go_ret
    unfold Shp
    rw [HE.out]
    exact ⟨rfl, HL.out.on (((Fr.refl _ _).alloc _).trans' F1.out), (((Fr.refl _ _).alloc _).trans' F1.out).any⟩
  · have hE : Nd.shaped o c (.cat l) = (false, o) := by simp [Nd.shaped, h1]
    have HE := Lib.hid hE; clear hE
    have h1' : ¬ (1 : Int) < l.length := by omega
    go_enter Tryz.func84, Tryz.ntmps84
    go_wp2_with fail
    go_ret
    unfold Shp
    rw [HE.out]
    exact ⟨rfl, HL.out.on ((Fr.refl _ _).alloc _), (Fr.refl _ _).alloc _⟩

set_option maxRecDepth 100000 in
set_option maxHeartbeats 1000000 in
theorem shaped_alt (b : Nat) (o : Int) (c : List Int) (g : Option Nat) (l : List Nd) (v : Value) (w : World) (hL : Lk b o c g w) (hz : Nd.sizes l ≤ 3000000) (h : RN nob w (.alt l) v) :
    Calls Tryz.prog 84 #[.pointer (some ⟨b, 0, none⟩), v] w (Shp b o c g (.alt l) w) := by
  obtain ⟨a, cp, rfl, hs⟩ := h.kind
  have hlen := Nd.length_le l
  have HM := Lib.hid (fun n (hn : n ∈ l) => Nd.sizes_mem hn)
  have H := Lib.hid hs; have HL := Lib.hid hL; clear h hs hL
  by_cases h1 : 1 < l.length
  · obtain ⟨r, hr⟩ : ∃ r, l.any Nd.isAlt = r := ⟨_, rfl⟩
    have hE : Nd.shaped o c (.alt l) = (!r, o) := by simp [Nd.shaped, h1, hr]
    have HR := Lib.hid hr; have HE := Lib.hid hE; clear hr hE
    have h1' : (1 : Int) < l.length := by omega
    go_enter Tryz.func84, Tryz.ntmps84
    go_wp2_with fail
    refine (containsFunc_any 98 _ 3000000 (pred_alt _) enters_alt l _ _ (by omega) (fun n hn => by have := HM.out n hn; omega) (H.out.on ((Fr.refl _ _).alloc _))).mono ?_
    rw [HR.out]
    rintro e w1 ⟨rfl, f1⟩
    have F1 := Lib.hid f1; clear f1
    go_wp2
    go_ret
    unfold Shp
    rw [HE.out]
    exact ⟨rfl, HL.out.on (((Fr.refl _ _).alloc _).trans' F1.out), (((Fr.refl _ _).alloc _).trans' F1.out).any⟩
  · have hE : Nd.shaped o c (.alt l) = (false, o) := by simp [Nd.shaped, h1]
    have HE := Lib.hid hE; clear hE
    have h1' : ¬ (1 : Int) < l.length := by omega
    go_enter Tryz.func84, Tryz.ntmps84
    go_wp2_with fail
    go_ret
    unfold Shp
    rw [HE.out]
    exact ⟨rfl, HL.out.on ((Fr.refl _ _).alloc _), (Fr.refl _ _).alloc _⟩

set_option maxRecDepth 100000 in
set_option maxHeartbeats 1000000 in
theorem shaped_rep (b : Nat) (o : Int) (c : List Int) (g : Option Nat) (x : Nd) (mn mx : Int) (v : Value) (w : World) (hL : Lk b o c g w) (h : RN nob w (.rep x mn mx) v) :
    Calls Tryz.prog 84 #[.pointer (some ⟨b, 0, none⟩), v] w (Shp b o c g (.rep x mn mx) w) := by
  obtain ⟨u, rfl, hs⟩ := h.kind
  have hsh := hs.shape
  have H := Lib.hid hs; have HL := Lib.hid hL; clear h hs hL
  have hE : Nd.shaped o c (.rep x mn mx) = (repOk x.atom mn mx, o) := rfl
  obtain ⟨r, hr⟩ : ∃ r, repOk x.atom mn mx = r := ⟨_, rfl⟩
  rw [hr] at hE
  have HE := Lib.hid hE; have HR := Lib.hid hr; clear hE hr
  rcases hsh with rfl | ⟨iu, xu, rfl⟩
  all_goals
    go_enter Tryz.func84, Tryz.ntmps84
    go_wp2_with fail
    refine (atom_any nob x _ _ (H.out.on ((Fr.refl _ _).alloc _))).mono ?_
    rintro e w1 ⟨rfl, rfl⟩
    obtain ⟨q, hq⟩ : ∃ q, x.atom = q := ⟨_, rfl⟩
    rw [hq]
    have HQ := Lib.hid hq; clear hq
    have hr := HR.out
    rw [HQ.out] at hr
    unfold repOk at hr
    cases q
    · obtain rfl : r = false := by rw [← hr]; rfl
      clear hr
      go_wp2
      go_ret
      unfold Shp
      rw [HE.out]
      exact ⟨rfl, HL.out.on ((Fr.refl _ _).alloc _), (Fr.refl _ _).alloc _⟩
    · simp only [Bool.true_and] at hr
      have HR2 := Lib.hid hr; clear hr
      by_cases h0 : 0 ≤ mn
      · by_cases h1 : mn ≤ 255
        · by_cases h2 : mx = -1
          · obtain rfl : r = true := by rw [← HR2.out]; simp [h0, h1, h2]
            subst h2
            go_wp2
            go_ret
            unfold Shp
            rw [HE.out]
            exact ⟨rfl, HL.out.on ((Fr.refl _ _).alloc _), (Fr.refl _ _).alloc _⟩
          · have h2' : (mx == -1) = false := by simpa using h2
            by_cases h3 : mn ≤ mx
            · by_cases h4 : mx ≤ 255
              · obtain rfl : r = true := by rw [← HR2.out]; simp [h0, h1, h3, h4]
                go_wp2
                go_ret
                unfold Shp
                rw [HE.out]
                exact ⟨rfl, HL.out.on ((Fr.refl _ _).alloc _), (Fr.refl _ _).alloc _⟩
              · obtain rfl : r = false := by rw [← HR2.out]; simp [h0, h1, h2, h3, h4]
                go_wp2
                go_ret
                unfold Shp
                rw [HE.out]
                exact ⟨ret_bool (decide_eq_false (by omega)), HL.out.on ((Fr.refl _ _).alloc _), (Fr.refl _ _).alloc _⟩
            · obtain rfl : r = false := by rw [← HR2.out]; simp [h0, h1, h2, h3]
              go_wp2
              go_ret
              unfold Shp
              rw [HE.out]
              exact ⟨rfl, HL.out.on ((Fr.refl _ _).alloc _), (Fr.refl _ _).alloc _⟩
        · obtain rfl : r = false := by rw [← HR2.out]; simp [h0, h1]
          go_wp2
          go_ret
          unfold Shp
          rw [HE.out]
          exact ⟨rfl, HL.out.on ((Fr.refl _ _).alloc _), (Fr.refl _ _).alloc _⟩
      · obtain rfl : r = false := by rw [← HR2.out]; simp [h0]
        go_wp2
        go_ret
        unfold Shp
        rw [HE.out]
        exact ⟨rfl, HL.out.on ((Fr.refl _ _).alloc _), (Fr.refl _ _).alloc _⟩

set_option maxRecDepth 100000 in
set_option maxHeartbeats 1000000 in
theorem shaped_group (b : Nat) (o : Int) (c : List Int) (g : Option Nat) (n : Int) (x : Nd) (v : Value) (w : World) (hL : Lk b o c g w) (h0 : 0 ≤ o) (h1 : o ≤ 3000000) (h : RN nob w (.group n x) v) :
    Calls Tryz.prog 84 #[.pointer (some ⟨b, 0, none⟩), v] w (Shp b o c g (.group n x) w) := by
  obtain ⟨u, rfl, hs⟩ := h.kind
  have hsh := hs.shape
  have H := Lib.hid hs; have HL := Lib.hid hL; clear h hs hL
  have hE : Nd.shaped o c (.group n x) = (n == o + 1, o + 1) := rfl
  have HE := Lib.hid hE; clear hE
  have hb := Lib.hid HL.out.lt
  have c0 := Lib.hid fun X => (HL.out.on ((Fr.refl nob w).alloc X)).cell0
  have th := Lib.hid fun X => (HL.out.on ((Fr.refl nob w).alloc X)).thawed 0
  rcases hsh with rfl | ⟨iu, xu, rfl⟩
  all_goals
    have c0' := c0.out; have th' := th.out
    have hb' := hb.out
    go_enter Tryz.func84, Tryz.ntmps84
    go_wp2_with fail
    have L1 := Lib.hid fun X => (HL.out.open (o + 1)).on ((Fr.refl nob _).alloc X)
    have c1 := fun X => (L1.out X).cell0
    have th1 := fun X => (L1.out X).thawed 0
    go_quiet (fail)
    go_wp2
    go_ret
    unfold Shp
    rw [HE.out]
    exact ⟨rfl, L1.out _, (((Fr.refl (fun k => k = b) w).setCell (p := ⟨b, 0, none⟩) (fun _ => rfl) _).alloc _).drewN _⟩

set_option maxRecDepth 100000 in
set_option maxHeartbeats 1000000 in
theorem shaped_back (b : Nat) (o : Int) (c : List Int) (g : Option Nat) (n : Int) (v : Value) (w : World) (hL : Lk b o c g w) (hc : c.length ≤ 3000000) (h : RN nob w (.back n) v) :
    Calls Tryz.prog 84 #[.pointer (some ⟨b, 0, none⟩), v] w (Shp b o c g (.back n) w) := by
  obtain rfl := h.kind
  have HL := Lib.hid hL; clear h hL
  have hE : Nd.shaped o c (.back n) = (c.contains n, o) := rfl
  obtain ⟨r, hr⟩ : ∃ r, c.contains n = r := ⟨_, rfl⟩
  rw [hr] at hE
  have HE := Lib.hid hE; have HR := Lib.hid hr; clear hE hr
  obtain ⟨u, _, hu⟩ := HL.out.sis
  have c1 := fun X => (hu _ ((Fr.refl nob w).alloc X)).1
  have s1 := Lib.hid fun X k => (hu _ (((Fr.refl nob w).alloc X).drewN k)).2
  have hb' := HL.out.lt
  clear hu
  go_enter Tryz.func84, Tryz.ntmps84
  go_wp2_with fail
  go_quiet ((go_at_call 107; exact Calls.quiet_of_same ((contains_any c n u _ hc (s1.out _ _)).mono fun _ _ h => ⟨h.1, h.2.symm⟩)))
  go_wp2
  go_ret
  unfold Shp
  rw [HE.out]
  exact ⟨ret_bool HR.out, HL.out.on (((Fr.refl _ _).alloc _).drewN _), ((Fr.refl _ _).alloc _).drewN _⟩

end Go.Proofs.YtlchaocpejfikaaGreatDoor

/-
  Walks of package tree: shaped of any node; right; Right. What they answer in plain words: Nd.look.
-/
namespace Go.Proofs.YtlchaocpejfikaaGreatDoor
open Go.RowKit

mutual
/-- Is a node, when o groups were opened, and those of c closed? How many, and which, then are. -/
def Nd.look : Nd → Int → List Int → Option (Int × List Int)
  | .cat l, o, c => if (decide (1 < l.length) && !l.any (fun n => !n.plain)) = true then Nd.looks l o c else none
  | .alt l, o, c => if (decide (1 < l.length) && !l.any Nd.isAlt) = true then Nd.looks l o c else none
  | .rep x mn mx, o, c => if repOk x.atom mn mx = true then x.look o c else none
  | .group n x, o, c => if (n == o + 1) = true then (match x.look (o + 1) c with
      | none => none
      | some (o', c') => some (o', c' ++ [n])) else none
  | .back n, o, c => if c.contains n = true then some (o, c) else none
  | .nil, o, c | .empty, o, c | .one _, o, c | .start, o, c | .fin, o, c => some (o, c)
def Nd.looks : List Nd → Int → List Int → Option (Int × List Int)
  | [], o, c => some (o, c)
  | t :: ts, o, c => match t.look o c with
    | none => none
    | some (o', c') => Nd.looks ts o' c'
end

/-- What is closed with a node. -/
def Nd.shut (c : List Int) : Nd → List Int
  | .group n _ => c ++ [n]
  | _ => c

theorem looks_one (x : Nd) (o : Int) (c : List Int) : Nd.looks [x] o c = x.look o c := by
  rw [Nd.looks]
  cases x.look o c with
  | none => rfl
  | some p => simp [Nd.looks]

theorem Nd.look_no {n : Nd} {o : Int} {c : List Int} (h : (n.shaped o c).1 = false) : n.look o c = none := by
  cases n <;> simp only [Nd.shaped] at h <;> first | (simp only [Nd.look]; rw [h]; rfl) | cases h
theorem Nd.look_yes {n : Nd} {o : Int} {c : List Int} (h : (n.shaped o c).1 = true) : n.look o c = (match Nd.looks n.kids (n.shaped o c).2 c with
      | none => none
      | some (o', c') => some (o', n.shut c')) := by
  cases n with
  | cat l => simp only [Nd.shaped] at h; simp only [Nd.look, Nd.kids, Nd.shaped, Nd.shut, h]; cases Nd.looks l o c <;> rfl
  | alt l => simp only [Nd.shaped] at h; simp only [Nd.look, Nd.kids, Nd.shaped, Nd.shut, h]; cases Nd.looks l o c <;> rfl
  | rep x mn mx => simp only [Nd.shaped] at h; simp only [Nd.look, Nd.kids, Nd.shaped, Nd.shut, h, looks_one]; cases x.look o c <;> rfl
  | group k x => simp only [Nd.shaped] at h; simp only [Nd.look, Nd.kids, Nd.shaped, Nd.shut, h, looks_one]; cases x.look (o + 1) c <;> rfl
  | back k => simp only [Nd.shaped] at h; simp only [Nd.look, Nd.kids, Nd.shaped, Nd.shut, h, Nd.looks]; rfl
  | _ => rfl

mutual
theorem Nd.look_le : ∀ (n : Nd) (o : Int) (c : List Int) (o' : Int) (c' : List Int), n.look o c = some (o', c') → o ≤ o' ∧ o' ≤ o + n.size ∧ c'.length ≤ c.length + n.size
  | .cat l, o, c, o', c', h => by
    simp only [Nd.look] at h; split at h
    · have := Nd.looks_le l o c o' c' h; simp only [Nd.size]; omega
    · cases h
  | .alt l, o, c, o', c', h => by
    simp only [Nd.look] at h; split at h
    · have := Nd.looks_le l o c o' c' h; simp only [Nd.size]; omega
    · cases h
  | .rep x _ _, o, c, o', c', h => by
    simp only [Nd.look] at h; split at h
    · have := Nd.look_le x o c o' c' h; simp only [Nd.size]; omega
    · cases h
  | .group n x, o, c, o', c', h => by
    simp only [Nd.look] at h; split at h
    · split at h
      · cases h
      · rename_i a b e
        have := Nd.look_le x (o + 1) c a b e
        injection h with h; injection h with h1 h2; subst h1; subst h2
        simp only [Nd.size, List.length_append, List.length_cons, List.length_nil]; omega
    · cases h
  | .back n, o, c, o', c', h => by
    simp only [Nd.look] at h; split at h
    · injection h with h; injection h with h1 h2; subst h1; subst h2; omega
    · cases h
  | .nil, o, c, o', c', h => by simp only [Nd.look] at h; injection h with h; injection h with h1 h2; subst h1; subst h2; omega
  | .empty, o, c, o', c', h => by simp only [Nd.look] at h; injection h with h; injection h with h1 h2; subst h1; subst h2; omega
  | .one _, o, c, o', c', h => by simp only [Nd.look] at h; injection h with h; injection h with h1 h2; subst h1; subst h2; omega
  | .start, o, c, o', c', h => by simp only [Nd.look] at h; injection h with h; injection h with h1 h2; subst h1; subst h2; omega
  | .fin, o, c, o', c', h => by simp only [Nd.look] at h; injection h with h; injection h with h1 h2; subst h1; subst h2; omega
theorem Nd.looks_le : ∀ (l : List Nd) (o : Int) (c : List Int) (o' : Int) (c' : List Int), Nd.looks l o c = some (o', c') → o ≤ o' ∧ o' ≤ o + Nd.sizes l ∧ c'.length ≤ c.length + Nd.sizes l
  | [], o, c, o', c', h => by simp only [Nd.looks] at h; injection h with h; injection h with h1 h2; subst h1; subst h2; omega
  | t :: ts, o, c, o', c', h => by
    simp only [Nd.looks] at h; split at h
    · cases h
    · rename_i a b e
      have h1 := Nd.look_le t o c a b e
      have h2 := Nd.looks_le ts a b o' c' h
      simp only [Nd.sizes]; omega
end

theorem Nd.shaped_le (n : Nd) (o : Int) (c : List Int) : o ≤ (n.shaped o c).2 ∧ (n.shaped o c).2 ≤ o + 1 := by
  cases n <;> simp only [Nd.shaped] <;> omega

set_option maxRecDepth 100000 in
set_option maxHeartbeats 1000000 in
theorem shaped_any (b : Nat) (o : Int) (c : List Int) (g : Option Nat) (n : Nd) (v : Value) (w : World) (hL : Lk b o c g w) (hz : n.size ≤ 3000000) (h0 : 0 ≤ o) (h1 : o ≤ 3000000) (hc : c.length ≤ 3000000) (h : RN nob w n v) :
    Calls Tryz.prog 84 #[.pointer (some ⟨b, 0, none⟩), v] w (Shp b o c g n w) := by
  have plainly : ∀ i x, v = .iface i x → i ≠ 73 → i ≠ 74 → i ≠ 76 → i ≠ 78 → i ≠ 80 → n.shaped o c = (true, o) →
      Calls Tryz.prog 84 #[.pointer (some ⟨b, 0, none⟩), v] w (Shp b o c g n w) := by
    intro i x hv n1 n2 n3 n4 n5 hE
    have HL := Lib.hid hL; have HE := Lib.hid hE; clear hL hE h hz h0 h1 hc
    subst hv
    go_enter Tryz.func84, Tryz.ntmps84
    go_wp2_with fail
    go_ret
    unfold Shp
    rw [HE.out]
    exact ⟨rfl, HL.out, Fr.refl _ _⟩
  cases n with
  | cat l => exact shaped_cat b o c g l v w hL (by simp only [Nd.size] at hz; omega) h
  | alt l => exact shaped_alt b o c g l v w hL (by simp only [Nd.size] at hz; omega) h
  | rep x mn mx => exact shaped_rep b o c g x mn mx v w hL h
  | group k x => exact shaped_group b o c g k x v w hL h0 h1 h
  | back k => exact shaped_back b o c g k v w hL hc h
  | nil =>
    obtain rfl := h.kind
    have HL := Lib.hid hL; clear hL h hz h0 h1 hc plainly
    go_enter Tryz.func84, Tryz.ntmps84
    go_wp2_with fail
    go_ret
    exact ⟨rfl, HL.out, Fr.refl _ _⟩
  | empty => exact plainly _ _ h.kind (by decide) (by decide) (by decide) (by decide) (by decide) rfl
  | one s => exact plainly _ _ h.kind (by decide) (by decide) (by decide) (by decide) (by decide) rfl
  | start => exact plainly _ _ h.kind (by decide) (by decide) (by decide) (by decide) (by decide) rfl
  | fin => exact plainly _ _ h.kind (by decide) (by decide) (by decide) (by decide) (by decide) rfl

end Go.Proofs.YtlchaocpejfikaaGreatDoor
