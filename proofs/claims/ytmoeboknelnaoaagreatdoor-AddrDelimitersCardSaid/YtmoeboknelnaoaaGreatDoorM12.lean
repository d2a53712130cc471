/-
  Merged texts of this claim: Assert, TreeA, TreeB, TreeC, TreeD, TreeE, TreeF, TreeG, TreeH, TreeI, TreeS, RefA, RefB.
-/
import Derived.Test.YtmoeboknelnaoaaGreatDoorChecked
import Derived.Deep.RegionLaw
import Derived.Laws.OwnMore
import Derived.Test.YtmoeboknelnaoaaGreatDoorM01

/-
  Type assertions at the nodes' types: what each answers.
-/
namespace Go.Proofs.YtmoeboknelnaoaaGreatDoor
open Go.RowKit

section
variable {P : Program}
theorem run_assert_hit {x a : TypeId} {fs : Array Field} (h : P.underlying a = some (.struct fs)) (v : Value) (w : World) :
    (Instr.typeAssert (.iface a v) x a true).run P w = .ok (.tuple #[v, .bool true]) w := by
  simp [Instr.typeAssert, run_underlying h]
theorem run_assert_miss {x a t : TypeId} {fs : Array Field} (h : P.underlying a = some (.struct fs)) {z : Value} (hz : ∀ w, (zeroValue a).run P w = .ok z w) (ht : t ≠ a) (v : Value) (w : World) :
    (Instr.typeAssert (.iface t v) x a true).run P w = .ok (.tuple #[z, .bool false]) w := by
  simp [Instr.typeAssert, run_underlying h, ht, hz]
theorem run_assert_nil {x a : TypeId} {fs : Array Field} (h : P.underlying a = some (.struct fs)) {z : Value} (hz : ∀ w, (zeroValue a).run P w = .ok z w) (w : World) :
    (Instr.typeAssert .nilIface x a true).run P w = .ok (.tuple #[z, .bool false]) w := by
  simp [Instr.typeAssert, run_underlying h, hz]
end

theorem as_hit_Empty (v : Value) (w : World) : (Instr.typeAssert (.iface 106 v) 25 106 true).run Tryz.prog w = .ok (.tuple #[v, .bool true]) w := run_assert_hit Tryz.underlying106 v w
theorem as_miss_Empty (t : TypeId) (v : Value) (w : World) (h : t ≠ 106) : (Instr.typeAssert (.iface t v) 25 106 true).run Tryz.prog w = .ok (.tuple #[.agg #[], .bool false]) w := run_assert_miss Tryz.underlying106 (fun _ => by kernel_rfl) h v w
theorem as_nil_Empty (w : World) : (Instr.typeAssert .nilIface 25 106 true).run Tryz.prog w = .ok (.tuple #[.agg #[], .bool false]) w := run_assert_nil Tryz.underlying106 (fun _ => by kernel_rfl) w
attribute [go_sem] as_hit_Empty as_miss_Empty as_nil_Empty
theorem as_hit_One (v : Value) (w : World) : (Instr.typeAssert (.iface 93 v) 25 93 true).run Tryz.prog w = .ok (.tuple #[v, .bool true]) w := run_assert_hit Tryz.underlying93 v w
theorem as_miss_One (t : TypeId) (v : Value) (w : World) (h : t ≠ 93) : (Instr.typeAssert (.iface t v) 25 93 true).run Tryz.prog w = .ok (.tuple #[.agg #[.int .u64 0, .int .u64 0, .int .u64 0, .int .u64 0], .bool false]) w := run_assert_miss Tryz.underlying93 (fun _ => by kernel_rfl) h v w
theorem as_nil_One (w : World) : (Instr.typeAssert .nilIface 25 93 true).run Tryz.prog w = .ok (.tuple #[.agg #[.int .u64 0, .int .u64 0, .int .u64 0, .int .u64 0], .bool false]) w := run_assert_nil Tryz.underlying93 (fun _ => by kernel_rfl) w
attribute [go_sem] as_hit_One as_miss_One as_nil_One
theorem as_hit_Cat (v : Value) (w : World) : (Instr.typeAssert (.iface 95 v) 25 95 true).run Tryz.prog w = .ok (.tuple #[v, .bool true]) w := run_assert_hit Tryz.underlying95 v w
theorem as_miss_Cat (t : TypeId) (v : Value) (w : World) (h : t ≠ 95) : (Instr.typeAssert (.iface t v) 25 95 true).run Tryz.prog w = .ok (.tuple #[.agg #[.slice none 0 0], .bool false]) w := run_assert_miss Tryz.underlying95 (fun _ => by kernel_rfl) h v w
theorem as_nil_Cat (w : World) : (Instr.typeAssert .nilIface 25 95 true).run Tryz.prog w = .ok (.tuple #[.agg #[.slice none 0 0], .bool false]) w := run_assert_nil Tryz.underlying95 (fun _ => by kernel_rfl) w
attribute [go_sem] as_hit_Cat as_miss_Cat as_nil_Cat
theorem as_hit_Alt (v : Value) (w : World) : (Instr.typeAssert (.iface 96 v) 25 96 true).run Tryz.prog w = .ok (.tuple #[v, .bool true]) w := run_assert_hit Tryz.underlying96 v w
theorem as_miss_Alt (t : TypeId) (v : Value) (w : World) (h : t ≠ 96) : (Instr.typeAssert (.iface t v) 25 96 true).run Tryz.prog w = .ok (.tuple #[.agg #[.slice none 0 0], .bool false]) w := run_assert_miss Tryz.underlying96 (fun _ => by kernel_rfl) h v w
theorem as_nil_Alt (w : World) : (Instr.typeAssert .nilIface 25 96 true).run Tryz.prog w = .ok (.tuple #[.agg #[.slice none 0 0], .bool false]) w := run_assert_nil Tryz.underlying96 (fun _ => by kernel_rfl) w
attribute [go_sem] as_hit_Alt as_miss_Alt as_nil_Alt
theorem as_hit_Rep (v : Value) (w : World) : (Instr.typeAssert (.iface 98 v) 25 98 true).run Tryz.prog w = .ok (.tuple #[v, .bool true]) w := run_assert_hit Tryz.underlying98 v w
theorem as_miss_Rep (t : TypeId) (v : Value) (w : World) (h : t ≠ 98) : (Instr.typeAssert (.iface t v) 25 98 true).run Tryz.prog w = .ok (.tuple #[.agg #[.nilIface, .int .i64 0, .int .i64 0], .bool false]) w := run_assert_miss Tryz.underlying98 (fun _ => by kernel_rfl) h v w
theorem as_nil_Rep (w : World) : (Instr.typeAssert .nilIface 25 98 true).run Tryz.prog w = .ok (.tuple #[.agg #[.nilIface, .int .i64 0, .int .i64 0], .bool false]) w := run_assert_nil Tryz.underlying98 (fun _ => by kernel_rfl) w
attribute [go_sem] as_hit_Rep as_miss_Rep as_nil_Rep
theorem as_hit_Group (v : Value) (w : World) : (Instr.typeAssert (.iface 100 v) 25 100 true).run Tryz.prog w = .ok (.tuple #[v, .bool true]) w := run_assert_hit Tryz.underlying100 v w
theorem as_miss_Group (t : TypeId) (v : Value) (w : World) (h : t ≠ 100) : (Instr.typeAssert (.iface t v) 25 100 true).run Tryz.prog w = .ok (.tuple #[.agg #[.int .i64 0, .nilIface], .bool false]) w := run_assert_miss Tryz.underlying100 (fun _ => by kernel_rfl) h v w
theorem as_nil_Group (w : World) : (Instr.typeAssert .nilIface 25 100 true).run Tryz.prog w = .ok (.tuple #[.agg #[.int .i64 0, .nilIface], .bool false]) w := run_assert_nil Tryz.underlying100 (fun _ => by kernel_rfl) w
attribute [go_sem] as_hit_Group as_miss_Group as_nil_Group
theorem as_hit_Back (v : Value) (w : World) : (Instr.typeAssert (.iface 102 v) 25 102 true).run Tryz.prog w = .ok (.tuple #[v, .bool true]) w := run_assert_hit Tryz.underlying102 v w
theorem as_miss_Back (t : TypeId) (v : Value) (w : World) (h : t ≠ 102) : (Instr.typeAssert (.iface t v) 25 102 true).run Tryz.prog w = .ok (.tuple #[.agg #[.int .i64 0], .bool false]) w := run_assert_miss Tryz.underlying102 (fun _ => by kernel_rfl) h v w
theorem as_nil_Back (w : World) : (Instr.typeAssert .nilIface 25 102 true).run Tryz.prog w = .ok (.tuple #[.agg #[.int .i64 0], .bool false]) w := run_assert_nil Tryz.underlying102 (fun _ => by kernel_rfl) w
attribute [go_sem] as_hit_Back as_miss_Back as_nil_Back
theorem as_hit_Start (v : Value) (w : World) : (Instr.typeAssert (.iface 104 v) 25 104 true).run Tryz.prog w = .ok (.tuple #[v, .bool true]) w := run_assert_hit Tryz.underlying104 v w
theorem as_miss_Start (t : TypeId) (v : Value) (w : World) (h : t ≠ 104) : (Instr.typeAssert (.iface t v) 25 104 true).run Tryz.prog w = .ok (.tuple #[.agg #[], .bool false]) w := run_assert_miss Tryz.underlying104 (fun _ => by kernel_rfl) h v w
theorem as_nil_Start (w : World) : (Instr.typeAssert .nilIface 25 104 true).run Tryz.prog w = .ok (.tuple #[.agg #[], .bool false]) w := run_assert_nil Tryz.underlying104 (fun _ => by kernel_rfl) w
attribute [go_sem] as_hit_Start as_miss_Start as_nil_Start
theorem as_hit_End (v : Value) (w : World) : (Instr.typeAssert (.iface 105 v) 25 105 true).run Tryz.prog w = .ok (.tuple #[v, .bool true]) w := run_assert_hit Tryz.underlying105 v w
theorem as_miss_End (t : TypeId) (v : Value) (w : World) (h : t ≠ 105) : (Instr.typeAssert (.iface t v) 25 105 true).run Tryz.prog w = .ok (.tuple #[.agg #[], .bool false]) w := run_assert_miss Tryz.underlying105 (fun _ => by kernel_rfl) h v w
theorem as_nil_End (w : World) : (Instr.typeAssert .nilIface 25 105 true).run Tryz.prog w = .ok (.tuple #[.agg #[], .bool false]) w := run_assert_nil Tryz.underlying105 (fun _ => by kernel_rfl) w
attribute [go_sem] as_hit_End as_miss_End as_nil_End

end Go.Proofs.YtmoeboknelnaoaaGreatDoor

/-
  Walks of package tree: told, kids, plain, alt, atom.
-/
namespace Go.Proofs.YtmoeboknelnaoaaGreatDoor
open Go.RowKit

set_option maxRecDepth 100000 in
set_option maxHeartbeats 1000000 in
theorem kids_any (S : Nat → Prop) (n : Nd) (v : Value) (w : World) (h : RN S w n v) (hS : ∀ k, S k → k < w.heap.size) :
    Calls Tryz.prog 36 #[v] w fun e w' => ∃ u, e = .returned u ∧ SN S w' n.kids u ∧ Fr nob w w' := by
  cases n with
  | nil =>
    rw [RN] at h; subst h
    go_enter Tryz.func36, Tryz.ntmps36
    go_wp2
    go_ret
    exact ⟨_, rfl, SN.nil, Fr.refl _ _⟩
  | empty =>
    rw [RN] at h; subst h
    go_enter Tryz.func36, Tryz.ntmps36
    go_wp2
    go_ret
    exact ⟨_, rfl, SN.nil, Fr.refl _ _⟩
  | one s =>
    rw [RN] at h; subst h
    go_enter Tryz.func36, Tryz.ntmps36
    go_wp2
    go_ret
    exact ⟨_, rfl, SN.nil, Fr.refl _ _⟩
  | back n =>
    rw [RN] at h; subst h
    go_enter Tryz.func36, Tryz.ntmps36
    go_wp2
    go_ret
    exact ⟨_, rfl, SN.nil, Fr.refl _ _⟩
  | start =>
    rw [RN] at h; subst h
    go_enter Tryz.func36, Tryz.ntmps36
    go_wp2
    go_ret
    exact ⟨_, rfl, SN.nil, Fr.refl _ _⟩
  | fin =>
    rw [RN] at h; subst h
    go_enter Tryz.func36, Tryz.ntmps36
    go_wp2
    go_ret
    exact ⟨_, rfl, SN.nil, Fr.refl _ _⟩
  | cat l =>
    rw [RN_cat] at h; obtain ⟨u, rfl, h⟩ := h
    obtain ⟨a, c, rfl⟩ := h.shape
    have HH := Lib.hid h; clear h
    go_enter Tryz.func36, Tryz.ntmps36
    go_wp2
    go_ret
    exact ⟨_, rfl, HH.out.on ((Fr.refl _ _).alloc _), (Fr.refl _ _).alloc _⟩
  | alt l =>
    rw [RN_alt] at h; obtain ⟨u, rfl, h⟩ := h
    obtain ⟨a, c, rfl⟩ := h.shape
    have HH := Lib.hid h; clear h
    go_enter Tryz.func36, Tryz.ntmps36
    go_wp2
    go_ret
    exact ⟨_, rfl, HH.out.on ((Fr.refl _ _).alloc _), (Fr.refl _ _).alloc _⟩
  | rep x mn mx =>
    rw [RN] at h; obtain ⟨u, rfl, h⟩ := h
    have hsh := h.shape
    have HH := Lib.hid h; clear h
    rcases hsh with rfl | ⟨i, x, rfl⟩
    all_goals
      go_enter Tryz.func36, Tryz.ntmps36
      go_wp2
      go_ret
      exact ⟨_, rfl, SN.one' (HH.out.on ((Fr.refl _ _).alloc _)) (fun k hk => by have := hS k hk; simp; omega) _ (by simp), ((Fr.refl _ _).alloc _).alloc _⟩
  | group n x =>
    rw [RN] at h; obtain ⟨u, rfl, h⟩ := h
    have hsh := h.shape
    have HH := Lib.hid h; clear h
    rcases hsh with rfl | ⟨i, x, rfl⟩
    all_goals
      go_enter Tryz.func36, Tryz.ntmps36
      go_wp2
      go_ret
      exact ⟨_, rfl, SN.one' (HH.out.on ((Fr.refl _ _).alloc _)) (fun k hk => by have := hS k hk; simp; omega) _ (by simp), ((Fr.refl _ _).alloc _).alloc _⟩


/-- A node that is told. -/
def Nd.told : Nd → Nd
  | .nil => .empty
  | n => n
/-- Can it stand in a Cat? -/
def Nd.plain : Nd → Bool
  | .nil | .empty | .cat _ | .alt _ => false
  | _ => true
def Nd.isAlt : Nd → Bool
  | .alt _ => true
  | _ => false
/-- May it be repeated? -/
def Nd.atom : Nd → Bool
  | .nil | .empty | .cat _ | .alt _ | .start | .fin => false
  | _ => true

theorem told_any2 (S : Nat → Prop) (n : Nd) (v : Value) (w : World) (h : RN S w n v) : Calls Tryz.prog 55 #[v] w fun e w' => ∃ u, e = .returned u ∧ RN S w n.told u ∧ (v = .nilIface ∨ u = v) ∧ w = w' := by
  rcases h.shape with rfl | ⟨i, x, rfl⟩
  · have hn : n = .nil := by cases n <;> rw [RN] at h <;> first | rfl | (cases h; done) | (obtain ⟨_, h, _⟩ := h; cases h)
    subst hn
    have H := Lib.hid h; clear h
    go_enter Tryz.func55, Tryz.ntmps55
    go_wp2
    go_ret
    exact ⟨_, rfl, by rw [Nd.told, RN]; rfl, by simp, rfl⟩
  · have hn : n.told = n := by cases n <;> first | rfl | (rw [RN] at h; cases h)
    have H := Lib.hid h; clear h; have HN := Lib.hid hn; clear hn
    go_enter Tryz.func55, Tryz.ntmps55
    go_wp2
    go_ret
    exact ⟨_, rfl, by rw [HN.out]; exact H.out, by simp, rfl⟩

theorem told_any (S : Nat → Prop) (n : Nd) (v : Value) (w : World) (h : RN S w n v) : Calls Tryz.prog 55 #[v] w fun e w' => ∃ u, e = .returned u ∧ RN S w n.told u ∧ w = w' := by
  refine (told_any2 S n v w h).mono ?_
  rintro e w1 ⟨u, h1, h2, _, h3⟩
  exact ⟨u, h1, h2, h3⟩


/-- A node's value is an interface of its kind's type. -/
def KindIs (S : Nat → Prop) (w : World) (v : Value) : Nd → Prop
    | .nil => v = .nilIface
    | .empty => v = .iface 106 (.agg #[])
    | .one s => v = .iface 93 (.agg s.cells.toArray)
    | .cat l => ∃ (a : Option Addr) (c : Nat), v = .iface 95 (.agg #[.slice a l.length c]) ∧ SN S w l (.slice a l.length c)
    | .alt l => ∃ (a : Option Addr) (c : Nat), v = .iface 96 (.agg #[.slice a l.length c]) ∧ SN S w l (.slice a l.length c)
    | .rep x mn mx => ∃ u, v = .iface 98 (.agg #[u, .int .i64 mn, .int .i64 mx]) ∧ RN S w x u
    | .group n x => ∃ u, v = .iface 100 (.agg #[.int .i64 n, u]) ∧ RN S w x u
    | .back n => v = .iface 102 (.agg #[.int .i64 n])
    | .start => v = .iface 104 (.agg #[])
    | .fin => v = .iface 105 (.agg #[])
theorem RN.kind {S : Nat → Prop} {w : World} {n : Nd} {v : Value} (h : RN S w n v) : KindIs S w v n := by
  cases n with
  | cat l => rw [RN_cat] at h; obtain ⟨u, rfl, h⟩ := h; obtain ⟨a, c, rfl⟩ := h.shape; exact ⟨a, c, rfl, h⟩
  | alt l => rw [RN_alt] at h; obtain ⟨u, rfl, h⟩ := h; obtain ⟨a, c, rfl⟩ := h.shape; exact ⟨a, c, rfl, h⟩
  | _ => rw [RN] at h; exact h

/-- .. its type alone. -/
def Nd.ty : Nd → Option TypeId
  | .nil => none
  | .empty => some 106
  | .one _ => some 93
  | .cat _ => some 95
  | .alt _ => some 96
  | .rep _ _ _ => some 98
  | .group _ _ => some 100
  | .back _ => some 102
  | .start => some 104
  | .fin => some 105
theorem RN.tyv {S : Nat → Prop} {w : World} {n : Nd} {v : Value} (h : RN S w n v) : (n.ty = none ∧ v = .nilIface) ∨ ∃ i x, n.ty = some i ∧ v = .iface i x := by
  have := h.kind
  cases n with
  | nil => exact .inl ⟨rfl, this⟩
  | cat l => obtain ⟨a, c, h, _⟩ := this; exact .inr ⟨_, _, rfl, h⟩
  | alt l => obtain ⟨a, c, h, _⟩ := this; exact .inr ⟨_, _, rfl, h⟩
  | rep x mn mx => obtain ⟨a, h, _⟩ := this; exact .inr ⟨_, _, rfl, h⟩
  | group n x => obtain ⟨a, h, _⟩ := this; exact .inr ⟨_, _, rfl, h⟩
  | _ => exact .inr ⟨_, _, rfl, this⟩

set_option maxRecDepth 100000 in
set_option maxHeartbeats 1000000 in
theorem alt_any (S : Nat → Prop) (n : Nd) (v : Value) (w : World) (h : RN S w n v) : Calls Tryz.prog 56 #[v] w fun e w' => e = .returned (.bool n.isAlt) ∧ Fr nob w w' := by
  have hk := h.kind
  have H := Lib.hid h; clear h
  by_cases ha : ∃ l, n = .alt l
  · obtain ⟨l, rfl⟩ := ha
    obtain ⟨a, c, rfl, _⟩ := hk
    go_enter Tryz.func56, Tryz.ntmps56
    go_wp2
    go_ret
    exact ⟨rfl, (Fr.refl _ _).alloc _⟩
  · have hn : n.isAlt = false := by cases n <;> first | rfl | exact (ha ⟨_, rfl⟩).elim
    rw [hn]
    clear hk
    rcases H.out.tyv with ⟨_, rfl⟩ | ⟨i, x, ht, rfl⟩
    · go_enter Tryz.func56, Tryz.ntmps56
      go_wp2
      go_ret
      exact ⟨rfl, (Fr.refl _ _).alloc _⟩
    · have hi : i ≠ 96 := by
        cases n <;> simp only [Nd.ty, Option.some.injEq] at ht <;> first | (subst ht; decide) | (exact (ha ⟨_, rfl⟩).elim) | cases ht
      clear ha ht hn
      go_enter Tryz.func56, Tryz.ntmps56
      go_wp2
      go_ret
      exact ⟨rfl, (Fr.refl _ _).alloc _⟩

end Go.Proofs.YtmoeboknelnaoaaGreatDoor

/-
  Walks: slices.IndexFunc, ContainsFunc over nodes, by a function that is a predicate; slices.Contains over numbers.
-/
namespace Go.Proofs.YtmoeboknelnaoaaGreatDoor
open Go.RowKit

/-- A slice of integers, its own or not: what it reads. -/
def SI (w : World) (l : List Int) (u : Value) : Prop := (u = .slice none 0 0 ∧ l = []) ∨ ∃ g off cap, u = .slice (some ⟨g, off, none⟩) l.length cap ∧ ∀ j x, l[j]? = some x → w.cell? ⟨g, off + j, none⟩ = some (.int .i64 x)

theorem SI.shape {w : World} {l : List Int} {u : Value} (h : SI w l u) : ∃ a c, u = .slice a l.length c := by
  rcases h with ⟨rfl, rfl⟩ | ⟨g, off, cap, rfl, _⟩
  · exact ⟨_, _, rfl⟩
  · exact ⟨_, _, rfl⟩
theorem SI.get {w : World} {l : List Int} {u : Value} (h : SI w l u) {k : Nat} (hk : k < l.length) : ∃ g off cap, u = .slice (some ⟨g, off, none⟩) l.length cap ∧ w.cell? ⟨g, off + k, none⟩ = some (.int .i64 l[k]) := by
  rcases h with ⟨_, rfl⟩ | ⟨g, off, cap, rfl, h⟩
  · simp at hk
  · exact ⟨g, off, cap, rfl, h k _ (List.getElem?_eq_getElem hk)⟩

end Go.Proofs.YtmoeboknelnaoaaGreatDoor

/-
  Walks of package tree: the looker; Right.
-/
namespace Go.Proofs.YtmoeboknelnaoaaGreatDoor
open Go.RowKit

def repOk (a : Bool) (mn mx : Int) : Bool := a && (decide (0 ≤ mn) && (decide (mn ≤ 255) && (mx == -1 || (decide (mn ≤ mx) && decide (mx ≤ 255)))))

theorem SN.weak {S : Nat → Prop} {w : World} {l : List Nd} {u : Value} (h : SN S w l u) : SN nob w l u := h.keep (Fr.refl nob w) (fun _ _ x => x.elim) (fun _ _ x => x.elim)
theorem RN.weak {S : Nat → Prop} {w : World} {n : Nd} {u : Value} (h : RN S w n u) : RN nob w n u := RN.keep (Fr.refl nob w) (fun _ _ x => x.elim) (fun _ _ x => x.elim) _ _ h

end Go.Proofs.YtmoeboknelnaoaaGreatDoor

/-
  Walks of package tree: shaped of any node; right; Right. What they answer in plain words: Nd.look.
-/
namespace Go.Proofs.YtmoeboknelnaoaaGreatDoor
open Go.RowKit

mutual
/-- Is a node, when o groups were opened, and those of c closed? How many, and which, then are. -/
def Nd.look : Nd → Int → List Int → Option (Int × List Int)
  | .cat l, o, c => if (decide (1 < l.length) && !l.any (fun n => !n.plain)) = true then Nd.looks l o c else none
  | .alt l, o, c => if (decide (1 < l.length) && !l.any Nd.isAlt) = true then Nd.looks l o c else none
  | .rep x mn mx, o, c => if repOk x.atom mn mx = true then x.look o c else none
  | .group n x, o, c => if (n == o + 1) = true then (match x.look (o + 1) c with
      | none => none
      | some (o', c') => some (o', c' ++ [n])) else none
  | .back n, o, c => if c.contains n = true then some (o, c) else none
  | .nil, o, c | .empty, o, c | .one _, o, c | .start, o, c | .fin, o, c => some (o, c)
def Nd.looks : List Nd → Int → List Int → Option (Int × List Int)
  | [], o, c => some (o, c)
  | t :: ts, o, c => match t.look o c with
    | none => none
    | some (o', c') => Nd.looks ts o' c'
end

end Go.Proofs.YtmoeboknelnaoaaGreatDoor

/-
  Walks of package tree: (*looker).right by recursion; Right.
-/
namespace Go.Proofs.YtmoeboknelnaoaaGreatDoor
open Go.RowKit

/-- append, grown or not, as one step of a region that draws. -/
theorem step_append_g {P : Program} {ops : Array Oper} {o : Oper} {a : Act} {w : World} {K : Act → World → Prop} {Q : Exit → Act → World → Prop} {E : Prop}
    (hg : o.guard = none) (s x : Operand) (t : TypeId) (hop : o.op = Op.call { callee := Callee.builtin Builtin.append, args := #[s, x], argTypes := #[t, t] })
    (e : TypeId) (i : TypeInfo) (z : Value) (size bytes : Nat) (ht : P.underlying t = some (.slice e)) (hi : P.info? e = some i) (hz : i.zero = some z)
    (hsize : i.size = size) (hby : i.bytes = bytes) (hzs : z.cells.size = size) (hsz : 0 < size)
    (v : Value) (n : Nat) (xs : List Value) (hs : a.eval s = v) (hown : w.ownsRow 0 e size v n xs)
    (ad : Addr) (m c : Nat) (news : List Value) (hx : a.eval x = .slice (some ad) m c) (hl : news.length = m * size) (hnews : ∀ j u, news[j]? = some u → w.cell? (ad.add j) = some u) (h1 : ∀ u ∈ news, u.oneCell' = true)
    (h63 : n + m ≤ maxLen) (hbytes : (n + m) * bytes ≤ 140737488355328)
    (hK : ∀ v' w', w'.ownsRow 0 e size v' (n + m) (xs ++ news) → Appd m v v' w w' → K (a.put o.dst v') w') :
    if Region.wanted o (yielded ops a.tmps) = true then Oper.wp P o a w K Q else E := by
  have hw : Region.wanted o (yielded ops a.tmps) = true := by simp [Region.wanted, hg]
  rw [if_pos hw]
  obtain ⟨v', w', hr, h2, h3⟩ := run_append_g (P := P) w t o.type e i z size bytes ht hi hz hsize hby hzs hsz v n xs hown ad m c news hl hnews h1 h63 hbytes
  unfold Oper.wp execOp
  simp only [hop, resolve, invoke, builtin, Sem.run_bind, Sem.run_pure, Result.andThen_ok, List.map_toArray, List.map_cons, List.map_nil, hs, hx, hr]
  exact hK _ _ h2 h3

section
variable {b : Nat} {o : Int} {c : List Int} {g : Option Nat} {w W0 w3 : World} {v v' : Value} {gn : Int}
end

end Go.Proofs.YtmoeboknelnaoaaGreatDoor

/-
  Walks of package tree: Right; Join, Choose. A call's own slice of nodes, and append to it.
-/
namespace Go.Proofs.YtmoeboknelnaoaaGreatDoor
open Go.RowKit

/-- Is a tree right? -/
def Nd.right (n : Nd) : Bool := (n.look 0 []).isSome

/-- The block of a call's own slice. -/
def LG (g : Option Nat) : Nat → Prop := fun k => g = some k

/-- A call's own slice of nodes. -/
def OwnN (w : World) (l : List Nd) (v : Value) (g : Option Nat) : Prop := ∃ vs, w.ownsRow 0 25 1 v l.length vs ∧ VN (LG g) w l vs ∧ v.ownBlock = g

theorem OwnN.nil (w : World) : OwnN w [] (.slice none 0 0) none := ⟨[], World.ownsRow_nil _ _ _ _, rfl, rfl⟩
theorem OwnN.on {w w' : World} {l : List Nd} {v : Value} {g : Option Nat} (h : OwnN w l v g) (f : Fr nob w w') : OwnN w' l v g := by
  obtain ⟨vs, h1, h2, h3⟩ := h
  exact ⟨vs, ownsRow_fr h1 f (fun _ _ x => x), h2.keep f (fun _ _ x => x.elim) (fun _ _ x => x), h3⟩
theorem OwnN.shape {w : World} {l : List Nd} {v : Value} {g : Option Nat} (h : OwnN w l v g) : ∃ a c, v = .slice a l.length c := by
  obtain ⟨vs, h1, h2, h3⟩ := h; exact ownsRow_slice h1
theorem OwnN.sn {w : World} {l : List Nd} {v : Value} {g : Option Nat} (h : OwnN w l v g) : SN nob w l v := by
  obtain ⟨vs, h1, h2, h3⟩ := h
  exact SN.of_own h1 (h2.keep (S' := nob) (Fr.refl nob w) (fun _ _ x => x.elim) (fun _ _ x => x.elim)) (fun _ _ x => x)

theorem info_node : (Tryz.prog.info? 25).map (fun i => (i.zero, i.size, i.bytes)) = some (some .nilIface, 1, 16) := by kernel_rfl

/-- Values of nodes are one cell each. -/
theorem VN.cell1 {S : Nat → Prop} {w : World} : ∀ {l : List Nd} {vs : List Value}, VN S w l vs → ∀ u ∈ vs, u.oneCell' = true
  | [], _, h, u, hu => by rw [VN] at h; subst h; cases hu
  | t :: ts, _, h, u, hu => by
    rw [VN] at h; obtain ⟨v, r, rfl, h1, h⟩ := h
    rcases List.mem_cons.1 hu with rfl | hu
    · rcases h1.shape with rfl | ⟨i, x, rfl⟩ <;> rfl
    · exact VN.cell1 h u hu

/-- What stands for the parts: none, one, or all. -/
def onlyOf (l : List Nd) (n : Nd) : Nd := match l with
  | [] => .empty
  | [x] => x
  | _ => n

end Go.Proofs.YtmoeboknelnaoaaGreatDoor

/-
  Walks of package tree: Join, Choose.
-/
namespace Go.Proofs.YtmoeboknelnaoaaGreatDoor
open Go.RowKit

/-- What a part brings to a Cat; to an Alt. -/
def Nd.part : Nd → List Nd
  | .nil | .empty => []
  | .cat l => l
  | n => [n]
def Nd.arm : Nd → List Nd
  | .alt l => l
  | n => [n.told]
def parts : List Nd → List Nd
  | [] => []
  | t :: ts => t.part ++ parts ts
def arms : List Nd → List Nd
  | [] => []
  | t :: ts => t.arm ++ arms ts
def joined (l : List Nd) : Nd := onlyOf (parts l) (.cat (parts l))
def chosen (l : List Nd) : Nd := onlyOf (arms l) (.alt (arms l))

theorem Nd.part_sizes (n : Nd) : Nd.sizes n.part ≤ n.size := by
  cases n <;> simp only [Nd.part, Nd.sizes, Nd.size] <;> omega
theorem Nd.arm_sizes (n : Nd) : Nd.sizes n.arm ≤ n.size := by
  cases n <;> simp only [Nd.arm, Nd.told, Nd.sizes, Nd.size] <;> omega
theorem parts_sizes (l : List Nd) : Nd.sizes (parts l) ≤ Nd.sizes l := by
  induction l with
  | nil => simp [parts]
  | cons t ts ih => have := t.part_sizes; simp only [parts, Nd.sizes, Nd.sizes_append]; omega
theorem arms_sizes (l : List Nd) : Nd.sizes (arms l) ≤ Nd.sizes l := by
  induction l with
  | nil => simp [arms]
  | cons t ts ih => have := t.arm_sizes; simp only [arms, Nd.sizes, Nd.sizes_append]; omega
theorem parts_append (l m : List Nd) : parts (l ++ m) = parts l ++ parts m := by
  induction l with
  | nil => rfl
  | cons t ts ih => simp only [List.cons_append, parts, ih, List.append_assoc]
theorem arms_append (l m : List Nd) : arms (l ++ m) = arms l ++ arms m := by
  induction l with
  | nil => rfl
  | cons t ts ih => simp only [List.cons_append, arms, ih, List.append_assoc]
theorem parts_take {l : List Nd} {k : Nat} (h : k < l.length) : parts (l.take (k + 1)) = parts (l.take k) ++ l[k].part := by
  rw [List.take_succ_eq_append_getElem h, parts_append]; simp [parts]
theorem arms_take {l : List Nd} {k : Nat} (h : k < l.length) : arms (l.take (k + 1)) = arms (l.take k) ++ l[k].arm := by
  rw [List.take_succ_eq_append_getElem h, arms_append]; simp [arms]

/-- The slice that Join, Choose build, behind some rounds: it lies behind the world w. -/
def Built (w : World) (l : List Nd) (v : Value) (wr : World) : Prop := ∃ g, OwnN wr l v g ∧ Fr nob w wr ∧ ∀ k, g = some k → w.heap.size ≤ k

theorem Built.nil (w : World) : Built w [] (.slice none 0 0) w := ⟨none, OwnN.nil w, Fr.refl _ _, fun _ h => by cases h⟩
theorem Built.on {w wr w' : World} {l : List Nd} {v : Value} (h : Built w l v wr) (f : Fr nob wr w') : Built w l v w' := by
  obtain ⟨g, h1, h2, h3⟩ := h; exact ⟨g, h1.on f, h2.trans' f, h3⟩
theorem Built.shape {w wr : World} {l : List Nd} {v : Value} (h : Built w l v wr) : ∃ a c, v = .slice a l.length c := by
  obtain ⟨g, h1, h2, h3⟩ := h; exact h1.shape
theorem Built.fr {w wr : World} {l : List Nd} {v : Value} (h : Built w l v wr) : Fr nob w wr := by
  obtain ⟨g, h1, h2, h3⟩ := h; exact h2
theorem Built.sn {w wr : World} {l : List Nd} {v : Value} (h : Built w l v wr) : SN nob wr l v := by
  obtain ⟨g, h1, h2, h3⟩ := h; exact h1.sn

/-- What lay in W, seen from a world behind, where a slice of the call's own lies. -/
theorem SN.behind {W w : World} {m : List Nd} {u : Value} {g : Option Nat} (h : SN nob W m u) (f : Fr nob W w) (hg : ∀ k, g = some k → W.heap.size ≤ k) : SN (LG g) w m u :=
  h.keep f (fun _ _ x => x) (fun k hk x => by have := hg k x; omega)
theorem RN.behind {W w : World} {m : Nd} {u : Value} {g : Option Nat} (h : RN nob W m u) (f : Fr nob W w) (hg : ∀ k, g = some k → W.heap.size ≤ k) : RN (LG g) w m u :=
  RN.keep f (fun _ _ x => x) (fun k hk x => by have := hg k x; omega) _ _ h
theorem OwnN.lt {w : World} {l : List Nd} {v : Value} {g : Option Nat} (h : OwnN w l v g) : ∀ k, LG g k → k < w.heap.size := by
  intro k hk
  obtain ⟨vs, hown, _, hg⟩ := h
  rcases hown.2 with ⟨rfl, _⟩ | ⟨r, cap, cur, rfl, _, hr, _⟩
  · rw [← hg] at hk; cases hk
  · rw [← hg] at hk; injection hk with hk; subst hk; exact lt_heap hr

theorem OwnN.blk {w : World} {l : List Nd} {v : Value} {g : Option Nat} (h : OwnN w l v g) : v.ownBlock = g := by
  obtain ⟨_, _, _, h⟩ := h; exact h
theorem Built.lt {w wr : World} {l : List Nd} {v : Value} (h : Built w l v wr) : ∀ k, v.ownBlock = some k → k < wr.heap.size := by
  obtain ⟨g, h1, h2, h3⟩ := h
  intro k hk
  rw [h1.blk] at hk
  exact h1.lt k hk

end Go.Proofs.YtmoeboknelnaoaaGreatDoor

/-
  Walk of the statements' fixed fact: awake is true.
-/
namespace Go.Proofs.YtmoeboknelnaoaaGreatDoor
open Go.RowKit

theorem At.new {b : Nat} (w : World) (cs : Array Value) (T : TypeId) (hb : b = w.heap.size) : At (w.alloc (.cells cs T)) b 0 cs.toList := by
  subst hb
  intro j v hj
  exact cell_at (heap_alloc_new w _) (by simpa using hj)

end Go.Proofs.YtmoeboknelnaoaaGreatDoor

/-
  Package tree: a node as it is told (norm); when two are the same; depth, groups, backs. No walk.
-/
namespace Go.Proofs.YtmoeboknelnaoaaGreatDoor
open Go.RowKit

mutual
/-- A node, its parts that are not told as Empty. -/
def Nd.norm : Nd → Nd
  | .nil => .empty
  | .empty => .empty
  | .one s => .one s
  | .cat l => .cat (Nd.norms l)
  | .alt l => .alt (Nd.norms l)
  | .rep x a b => .rep x.norm a b
  | .group n x => .group n x.norm
  | .back n => .back n
  | .start => .start
  | .fin => .fin
def Nd.norms : List Nd → List Nd
  | [] => []
  | t :: ts => t.norm :: Nd.norms ts
end
theorem Nd.norms_eq (l : List Nd) : Nd.norms l = l.map Nd.norm := by
  induction l with
  | nil => rfl
  | cons t ts ih => simp only [Nd.norms, List.map_cons, ih]

/-- Are two nodes the same, their parts not looked at? -/
def Nd.head : Nd → Nd → Bool
  | .one s, .one t => decide (s = t)
  | .cat _, .cat _ => true
  | .alt _, .alt _ => true
  | .rep _ a b, .rep _ c d => decide (a = c) && decide (b = d)
  | .group n _, .group m _ => decide (n = m)
  | .back n, .back m => decide (n = m)
  | .start, .start => true
  | .fin, .fin => true
  | .nil, .nil => true
  | .nil, .empty => true
  | .empty, .nil => true
  | .empty, .empty => true
  | _, _ => false

theorem Nd.same_iff (a b : Nd) : a.norm = b.norm ↔ a.head b = true ∧ Nd.norms a.kids = Nd.norms b.kids := by
  cases a <;> cases b <;> simp [Nd.norm, Nd.head, Nd.kids, Nd.norms]
  · constructor
    · rintro ⟨a, b, c⟩; exact ⟨⟨b, c⟩, a⟩
    · rintro ⟨⟨b, c⟩, a⟩; exact ⟨a, b, c⟩

mutual
/-- How many groups are in one another. -/
def Nd.deep : Nd → Nat
  | .cat l => Nd.deeps l
  | .alt l => Nd.deeps l
  | .rep x _ _ => x.deep
  | .group _ x => x.deep + 1
  | .nil | .empty | .one _ | .back _ | .start | .fin => 0
def Nd.deeps : List Nd → Nat
  | [] => 0
  | t :: ts => max t.deep (Nd.deeps ts)
end
mutual
/-- How many groups. -/
def Nd.groups : Nd → Nat
  | .cat l => Nd.groupss l
  | .alt l => Nd.groupss l
  | .rep x _ _ => x.groups
  | .group _ x => x.groups + 1
  | .nil | .empty | .one _ | .back _ | .start | .fin => 0
def Nd.groupss : List Nd → Nat
  | [] => 0
  | t :: ts => t.groups + Nd.groupss ts
end
end Go.Proofs.YtmoeboknelnaoaaGreatDoor

/-
  Join and Choose beside blocks that turn (S): what they hand back lies outside S.
-/
namespace Go.Proofs.YtmoeboknelnaoaaGreatDoor
open Go.RowKit

/-- Blocks that turn, and a row's own. -/
def LGS (S : Nat → Prop) (g : Option Nat) : Nat → Prop := fun k => S k ∨ g = some k
def OwnNS (S : Nat → Prop) (w : World) (l : List Nd) (v : Value) (g : Option Nat) : Prop := ∃ vs, w.ownsRow 0 25 1 v l.length vs ∧ VN (LGS S g) w l vs ∧ v.ownBlock = g
theorem OwnNS.nil (S : Nat → Prop) (w : World) : OwnNS S w [] (.slice none 0 0) none := ⟨[], World.ownsRow_nil _ _ _ _, rfl, rfl⟩
theorem OwnNS.on {S : Nat → Prop} {w w' : World} {l : List Nd} {v : Value} {g : Option Nat} (h : OwnNS S w l v g) (f : Fr nob w w') : OwnNS S w' l v g := by
  obtain ⟨vs, h1, h2, h3⟩ := h
  exact ⟨vs, ownsRow_fr h1 f (fun _ _ x => x), h2.keep f (fun _ _ x => x.elim) (fun _ _ x => x), h3⟩
theorem OwnNS.shape {S : Nat → Prop} {w : World} {l : List Nd} {v : Value} {g : Option Nat} (h : OwnNS S w l v g) : ∃ a c, v = .slice a l.length c := by
  obtain ⟨vs, h1, h2, h3⟩ := h; exact ownsRow_slice h1
theorem OwnNS.sn {S : Nat → Prop} {w : World} {l : List Nd} {v : Value} {g : Option Nat} (h : OwnNS S w l v g) (hg : ∀ k, g = some k → ¬ S k) : SN S w l v := by
  obtain ⟨vs, h1, h2, h3⟩ := h
  exact SN.of_own h1 (h2.keep (S' := S) (Fr.refl nob w) (fun _ _ x => x.elim) (fun _ _ x => .inl x)) (fun k hk => hg k (by rw [← h3]; exact hk))
theorem OwnNS.lt {S : Nat → Prop} {w : World} {l : List Nd} {v : Value} {g : Option Nat} (h : OwnNS S w l v g) : ∀ k, g = some k → k < w.heap.size := by
  intro k hk
  obtain ⟨vs, hown, _, hg⟩ := h
  rcases hown.2 with ⟨rfl, _⟩ | ⟨r, cap, cur, rfl, _, hr, _⟩
  · rw [← hg] at hk; cases hk
  · rw [← hg] at hk; injection hk with hk; subst hk; exact lt_heap hr
theorem OwnNS.blk {S : Nat → Prop} {w : World} {l : List Nd} {v : Value} {g : Option Nat} (h : OwnNS S w l v g) : v.ownBlock = g := by
  obtain ⟨_, _, _, h⟩ := h; exact h

theorem wpList_append_snS {w : World} {ops : Array Oper} {rest : List Oper} {o : Oper} {a : Act} {Q : Exit → Act → World → Prop} {S : Nat → Prop} (hgd : o.guard = none) (s x : Operand)
    (ho : o.op = .call { callee := .builtin .append, args := #[s, x], argTypes := #[88, 88] })
    (l m : List Nd) (v ux : Value) (g : Option Nat) (hs : a.eval s = v) (hown : OwnNS S w l v g) (hx : a.eval x = ux) (hm : SN (LGS S g) w m ux) (hb : l.length + m.length ≤ 3000000)
    (h : ∀ v' w' g', OwnNS S w' (l ++ m) v' g' → Fr (LG g) w w' → (∀ k, g' = some k → g = some k ∨ w.heap.size ≤ k) → wpList Tryz.prog ops Q rest (a.put o.dst v') w') : wpList Tryz.prog ops Q (o :: rest) a w := by
  obtain ⟨i0, hi, hz0, hz1, hz2⟩ := info_parts info_node
  obtain ⟨vs, h1, h2, h3⟩ := hown
  rcases hm with ⟨rfl, rfl⟩ | ⟨q, off, cap, rfl, _, hm⟩
  · refine wpList_plain hgd fun K hK => ?_
    have hr := run_append_owned_none (P := Tryz.prog) (w := w) 0 88 o.type 25 i0 1 Tryz.underlying88 hi v l.length vs h1
    unfold Oper.wp execOp
    simp only [ho, resolve, invoke, builtin, Sem.run_bind, Sem.run_pure, Result.andThen_ok, List.map_toArray, List.map_cons, List.map_nil, hs, hx, hr]
    exact hK _ _ (h v w g (by rw [List.append_nil]; exact ⟨vs, h1, h2, h3⟩) (Fr.refl _ _) (fun k hk => .inl hk))
  · obtain ⟨us, hu, ha⟩ := RNs.vals hm
    have hul := hu.length
    refine wpList_append_g hgd s x _ ho 25 i0 .nilIface 1 16 Tryz.underlying88 hi hz0 hz1 hz2 rfl (by decide) v l.length vs hs h1 ⟨q, off, none⟩ m.length cap us hx (by omega) (fun j u hj => by have := ha j u hj; by_cases hj0 : j = 0 <;> simpa [Addr.add, hj0] using this) hu.cell1 (by unfold maxLen; omega) (by omega) ?_
    intro v' w' hown' hap
    have hold : ∀ k, v'.ownBlock = some k → g = some k ∨ w.heap.size ≤ k := fun k hk => by
      rcases hap.old k hk with h | h
      · exact .inl (by rw [← h3, h])
      · exact .inr h
    have hfr : Fr (LG g) w w' := hap.fr.mono fun k _ hk => by unfold LG; rw [← h3, hk]
    refine h v' w' v'.ownBlock ⟨vs ++ us, by simpa using hown', (VN.append h2 hu).keep hfr (fun _ _ x => .inr x) (fun k hk x => x.elim .inl (fun y => (hold k y).elim .inr (fun z => by omega))), rfl⟩ hfr hold

set_option maxRecDepth 100000 in
set_option maxHeartbeats 1000000 in
theorem onlyS_any (S : Nat → Prop) (l : List Nd) (n : Nd) (u v : Value) (w : World) (hl : l.length ≤ 3000000) (hu : SN S w l u) (hn : RN S w n v) :
    Calls Tryz.prog 123 #[u, v] w fun e w' => ∃ r, e = .returned r ∧ RN S w' (onlyOf l n) r ∧ w = w' := by
  have HN := Lib.hid hn; clear hn
  match l, hu with
  | [], hu =>
    obtain ⟨a, c, rfl⟩ := hu.shape
    clear hu
    go_enter Tryz.func123, Tryz.ntmps123
    go_wp2
    go_ret
    exact ⟨_, rfl, by unfold onlyOf; rw [RN]; rfl, rfl⟩
  | [x], hu =>
    obtain ⟨q, off, cap, y, he, hy, hc⟩ := hu.get (k := 0) (by simp)
    have he' : u = .slice (some ⟨q, off, none⟩) 1 cap := he
    have hc' : w.cell? ⟨q, off, none⟩ = some y := by simpa using hc
    have HY := Lib.hid hy; clear hu hy he hc
    subst he'
    go_enter Tryz.func123, Tryz.ntmps123
    go_wp2
    go_ret
    exact ⟨_, rfl, HY.out, rfl⟩
  | x :: y :: l, hu =>
    obtain ⟨a, c, rfl⟩ := hu.shape
    clear hu
    have h2 : ¬ (((x :: y :: l).length : Nat) : Int) = 0 := by simp; omega
    have h3 : ¬ (((x :: y :: l).length : Nat) : Int) = 1 := by simp; omega
    obtain ⟨k, hk⟩ : ∃ k, (x :: y :: l).length = k := ⟨_, rfl⟩
    rw [hk] at h2 h3 hl ⊢
    clear hk
    go_enter Tryz.func123, Tryz.ntmps123
    go_wp2
    go_ret
    exact ⟨_, rfl, HN.out, rfl⟩

/-- The slice that Join, Choose build, behind some rounds: it lies behind the world w. -/
def BuiltS (S : Nat → Prop) (w : World) (l : List Nd) (v : Value) (wr : World) : Prop := ∃ g, OwnNS S wr l v g ∧ Fr nob w wr ∧ ∀ k, g = some k → w.heap.size ≤ k

theorem BuiltS.nil (S : Nat → Prop) (w : World) : BuiltS S w [] (.slice none 0 0) w := ⟨none, OwnNS.nil S w, Fr.refl _ _, fun _ h => by cases h⟩
theorem BuiltS.on {S : Nat → Prop} {w wr w' : World} {l : List Nd} {v : Value} (h : BuiltS S w l v wr) (f : Fr nob wr w') : BuiltS S w l v w' := by
  obtain ⟨g, h1, h2, h3⟩ := h; exact ⟨g, h1.on f, h2.trans' f, h3⟩
theorem BuiltS.shape {S : Nat → Prop} {w wr : World} {l : List Nd} {v : Value} (h : BuiltS S w l v wr) : ∃ a c, v = .slice a l.length c := by
  obtain ⟨g, h1, h2, h3⟩ := h; exact h1.shape
theorem BuiltS.fr {S : Nat → Prop} {w wr : World} {l : List Nd} {v : Value} (h : BuiltS S w l v wr) : Fr nob w wr := by
  obtain ⟨g, h1, h2, h3⟩ := h; exact h2
theorem BuiltS.sn {S : Nat → Prop} {w wr : World} {l : List Nd} {v : Value} (h : BuiltS S w l v wr) (hS : ∀ k, S k → k < w.heap.size) : SN S wr l v := by
  obtain ⟨g, h1, h2, h3⟩ := h; exact h1.sn (fun k hk x => by have := h3 k hk; have := hS k x; omega)

theorem wpList_append_btS {S : Nat → Prop} {W w : World} {ops : Array Oper} {rest : List Oper} {o : Oper} {a : Act} {Q : Exit → Act → World → Prop} (hgd : o.guard = none) (s x : Operand)
    (ho : o.op = .call { callee := .builtin .append, args := #[s, x], argTypes := #[88, 88] })
    (l m : List Nd) (v ux : Value) (hs : a.eval s = v) (hown : BuiltS S W l v w) (hx : a.eval x = ux)
    (hm : ∀ g, (∀ k, g = some k → W.heap.size ≤ k) → OwnNS S w l v g → SN (LGS S g) w m ux) (hb : l.length + m.length ≤ 3000000)
    (h : ∀ v' w', BuiltS S W (l ++ m) v' w' → wpList Tryz.prog ops Q rest (a.put o.dst v') w') : wpList Tryz.prog ops Q (o :: rest) a w := by
  obtain ⟨g, h1, h2, h3⟩ := hown
  refine wpList_append_snS hgd s x ho l m v ux g hs h1 hx (hm g h3 h1) hb fun v' w' g' q1 q2 q3 => h v' w' ⟨g', q1, ?_, ?_⟩
  · exact h2.trans q2 (fun i hi hg => by have := h3 i hg; omega)
  · intro k hk
    have := h2.size
    rcases q3 k hk with h | h
    · exact h3 k h
    · omega

theorem SN.behindS {S : Nat → Prop} {W w : World} {m : List Nd} {u : Value} {g : Option Nat} (h : SN S W m u) (f : Fr nob W w) (hg : ∀ k, g = some k → W.heap.size ≤ k) : SN (LGS S g) w m u :=
  h.keep f (fun _ _ x => x.elim) (fun k hk x => x.elim id (fun x => by have := hg k x; omega))
theorem RN.behindS {S : Nat → Prop} {W w : World} {m : Nd} {u : Value} {g : Option Nat} (h : RN S W m u) (f : Fr nob W w) (hg : ∀ k, g = some k → W.heap.size ≤ k) : RN (LGS S g) w m u :=
  RN.keep f (fun _ _ x => x.elim) (fun k hk x => x.elim id (fun x => by have := hg k x; omega)) _ _ h
theorem BuiltS.lt {S : Nat → Prop} {w wr : World} {l : List Nd} {v : Value} (h : BuiltS S w l v wr) : ∀ k, v.ownBlock = some k → k < wr.heap.size := by
  obtain ⟨g, h1, h2, h3⟩ := h
  intro k hk
  rw [h1.blk] at hk
  exact h1.lt k hk

set_option maxRecDepth 100000 in
set_option maxHeartbeats 1000000 in
theorem joinS_any (S : Nat → Prop) (l : List Nd) (u : Value) (w : World) (hS : ∀ k, S k → k < w.heap.size) (hl : Nd.sizes l ≤ 3000000) (h : SN S w l u) :
    Calls Tryz.prog 119 #[u] w fun e w' => ∃ r, e = .returned r ∧ RN S w' (joined l) r ∧ Fr nob w w' := by
  obtain ⟨a, c, rfl⟩ := h.shape
  have H := Lib.hid h; clear h
  have hll := Nd.length_le l
  have hpl := Lib.hid (Nat.le_trans (Nd.length_le (parts l)) (parts_sizes l))
  go_enter Tryz.func119, Tryz.ntmps119
  go_wp2_with fail
  go_loopw [3, 11] (fun s i wr => ∃ k : Nat, i = .int .i64 k ∧ k ≤ l.length ∧ BuiltS S w (parts (l.take k)) s wr) (fun _ i _ => l.length - (intOf i).toNat)
  case atStart => exact ⟨0, rfl, Nat.zero_le _, BuiltS.nil S w⟩
  case round =>
    obtain ⟨k, rfl, hk, hB⟩ := hrel
    obtain ⟨av, cv, rfl⟩ := hB.shape
    have HB := Lib.hid hB; clear hB
    by_cases hlt : k < l.length
    · obtain ⟨q, off, cap, x, he, hx, hc⟩ := (H.out.on HB.out.fr).get hlt
      obtain ⟨_, _, _, x', he', hx', hc'⟩ := H.out.get hlt
      obtain rfl : x = x' := by
        rw [he] at he'; injection he' with e1 _ _; injection e1 with e1; injection e1 with e1 e2; subst e1; subst e2
        have := HB.out.fr.cell hc' (fun x => x); rw [hc] at this; injection this
      clear he' hc'
      injection he with e1 e2 e3
      subst e1; subst e3
      have HX := Lib.hid hx; have HX0 := Lib.hid hx'; clear hx hx' e2
      have hpt := Lib.hid (parts_take hlt)
      have hsz := Lib.hid (Nat.le_trans (Nd.length_le (parts (l.take (k + 1)))) (Nat.le_trans (parts_sizes _) (Nd.sizes_take_le l (k + 1))))
      go_wp2_with fail
      refine (told_any2 S l[k] x _ HX.out).mono ?_
      rintro e w2 ⟨y, rfl, hy, hxy, rfl⟩
      obtain ⟨n, hn⟩ : ∃ n, l[k] = n := ⟨_, rfl⟩
      rw [hn] at hy HX HX0 hpt
      clear hn
      have hcase : (n.part = [] ∧ y = .iface 106 (.agg #[])) ∨ (∃ m a c, n.part = m ∧ y = .iface 95 (.agg #[.slice a m.length c]) ∧ SN S w m (.slice a m.length c)) ∨ (n.part = [n] ∧ ∃ i z, y = .iface i z ∧ i ≠ 106 ∧ i ≠ 95 ∧ x = y) := by
        have hyk := hy.kind
        have hxk := HX0.out.kind
        cases n with
        | nil => exact .inl ⟨rfl, hyk⟩
        | empty => exact .inl ⟨rfl, hyk⟩
        | cat m =>
          obtain ⟨a', c', h2, h3⟩ := hxk
          subst h2
          rcases hxy with h | rfl
          · cases h
          · exact .inr (.inl ⟨m, a', c', rfl, rfl, h3⟩)
        | one s => subst hxk; rcases hxy with h | rfl; cases h; exact .inr (.inr ⟨rfl, _, _, rfl, by decide, by decide, rfl⟩)
        | alt m => obtain ⟨a, c, h1, _⟩ := hxk; subst h1; rcases hxy with h | rfl; cases h; exact .inr (.inr ⟨rfl, _, _, rfl, by decide, by decide, rfl⟩)
        | rep z mn mx => obtain ⟨a, h1, _⟩ := hxk; subst h1; rcases hxy with h | rfl; cases h; exact .inr (.inr ⟨rfl, _, _, rfl, by decide, by decide, rfl⟩)
        | group q z => obtain ⟨a, h1, _⟩ := hxk; subst h1; rcases hxy with h | rfl; cases h; exact .inr (.inr ⟨rfl, _, _, rfl, by decide, by decide, rfl⟩)
        | back q => subst hxk; rcases hxy with h | rfl; cases h; exact .inr (.inr ⟨rfl, _, _, rfl, by decide, by decide, rfl⟩)
        | start => subst hxk; rcases hxy with h | rfl; cases h; exact .inr (.inr ⟨rfl, _, _, rfl, by decide, by decide, rfl⟩)
        | fin => subst hxk; rcases hxy with h | rfl; cases h; exact .inr (.inr ⟨rfl, _, _, rfl, by decide, by decide, rfl⟩)
      clear hy hxy
      rcases hcase with ⟨hp, rfl⟩ | ⟨m, am, cm, hp, rfl, hm⟩ | ⟨hp, iy, z, rfl, n1, n2, rfl⟩
      · rw [hp, List.append_nil] at hpt
        clear hp
        go_wp2
        go_roundw
        case rel => exact ⟨k + 1, by go_num, by omega, by rw [hpt.out]; exact HB.out.on ((Fr.refl _ _).alloc _)⟩
        case measure => simp [intOf]; omega
      · rw [hp] at hpt
        have HM := Lib.hid hm; clear hm hp
        have hlen : (parts (l.take k)).length + m.length ≤ 3000000 := by have h := hsz.out; rw [hpt.out, List.length_append] at h; omega
        go_wp2_with (at_builtin; refine wpList_append_btS rfl (.tmp 27) (.tmp 29) rfl (parts (l.take k)) m _ _ (by rfl) (HB.out.on ((Fr.refl _ _).alloc _)) (by rfl) (fun g hg ho => HM.out.behindS (HB.out.fr.trans' ((Fr.refl _ _).alloc _)) hg) hlen ?_; intro v' w3 hb3; obtain ⟨av', cv', he3⟩ := hb3.shape; simp only [List.length_append] at he3; subst he3; have HB3 := Lib.hid hb3; clear hb3)
        go_roundw
        case rel => exact ⟨k + 1, by go_num, by omega, by rw [hpt.out]; exact HB3.out⟩
        case measure => simp [intOf]; omega
      · rw [hp] at hpt
        clear hp
        have hlen : (parts (l.take k)).length + [n].length ≤ 3000000 := by have h := hsz.out; rw [hpt.out, List.length_append] at h; omega
        go_wp2_with (at_builtin; refine wpList_append_btS rfl (.tmp 17) (.tmp 19) rfl (parts (l.take k)) [n] _ _ (by rfl) (HB.out.on ((Fr.refl _ _).alloc _)) (by rfl) (fun g hg ho => SN.one' (HX0.out.behindS (HB.out.fr) hg) (fun k hk => hk.elim (fun x => Nat.lt_of_lt_of_le (hS k x) HB.out.fr.size) (fun x => HB.out.lt k (by rw [ho.blk]; exact x))) _ rfl) hlen ?_; intro v' w3 hb3; obtain ⟨av', cv', he3⟩ := hb3.shape; simp only [List.length_append, List.length_singleton] at he3; subst he3; have HB3 := Lib.hid hb3; clear hb3)
        go_roundw
        case rel => exact ⟨k + 1, by go_num, by omega, by rw [hpt.out]; exact HB3.out⟩
        case measure => simp [intOf]; omega
    · obtain rfl : k = l.length := by omega
      have hT := Lib.hid (List.take_of_length_le (l := l) (Nat.le_refl _))
      have hB := HB.out
      rw [hT.out] at hB
      go_wp2_with fail
      refine (onlyS_any S (parts l) (.cat (parts l)) _ _ _ (by have := hpl.out; omega) (hB.sn hS) (RN_cat.2 ⟨_, rfl, (hB.sn hS)⟩)).mono ?_
      rintro e w2 ⟨r, rfl, hr, rfl⟩
      have HR := Lib.hid hr; clear hr
      go_wp2
      go_ret
      exact ⟨_, rfl, HR.out, HB.out.fr⟩

set_option maxRecDepth 100000 in
set_option maxHeartbeats 1000000 in
theorem chooseS_any (S : Nat → Prop) (l : List Nd) (u : Value) (w : World) (hS : ∀ k, S k → k < w.heap.size) (hl : Nd.sizes l ≤ 3000000) (h : SN S w l u) :
    Calls Tryz.prog 104 #[u] w fun e w' => ∃ r, e = .returned r ∧ RN S w' (chosen l) r ∧ Fr nob w w' := by
  obtain ⟨a, c, rfl⟩ := h.shape
  have H := Lib.hid h; clear h
  have hll := Nd.length_le l
  have hpl := Lib.hid (Nat.le_trans (Nd.length_le (arms l)) (arms_sizes l))
  go_enter Tryz.func104, Tryz.ntmps104
  go_wp2_with fail
  go_loopw [3, 10] (fun s i wr => ∃ k : Nat, i = .int .i64 k ∧ k ≤ l.length ∧ BuiltS S w (arms (l.take k)) s wr) (fun _ i _ => l.length - (intOf i).toNat)
  case atStart => exact ⟨0, rfl, Nat.zero_le _, BuiltS.nil S w⟩
  case round =>
    obtain ⟨k, rfl, hk, hB⟩ := hrel
    obtain ⟨av, cv, rfl⟩ := hB.shape
    have HB := Lib.hid hB; clear hB
    by_cases hlt : k < l.length
    · obtain ⟨q, off, cap, x, he, hx, hc⟩ := (H.out.on HB.out.fr).get hlt
      obtain ⟨_, _, _, x', he', hx', hc'⟩ := H.out.get hlt
      obtain rfl : x = x' := by
        rw [he] at he'; injection he' with e1 _ _; injection e1 with e1; injection e1 with e1 e2; subst e1; subst e2
        have := HB.out.fr.cell hc' (fun x => x); rw [hc] at this; injection this
      clear he' hc'
      injection he with e1 e2 e3
      subst e1; subst e3
      have HX := Lib.hid hx; have HX0 := Lib.hid hx'; clear hx hx' e2
      have hpt := Lib.hid (arms_take hlt)
      have hsz := Lib.hid (Nat.le_trans (Nd.length_le (arms (l.take (k + 1)))) (Nat.le_trans (arms_sizes _) (Nd.sizes_take_le l (k + 1))))
      obtain ⟨n, hn⟩ : ∃ n, l[k] = n := ⟨_, rfl⟩
      rw [hn] at HX HX0 hpt
      clear hn
      have hcase : (∃ m a c, n.arm = m ∧ x = .iface 96 (.agg #[.slice a m.length c]) ∧ SN S w m (.slice a m.length c)) ∨ (n.arm = [n.told] ∧ (x = .nilIface ∨ ∃ i z, x = .iface i z ∧ i ≠ 96)) := by
        have hxk := HX0.out.kind
        cases n with
        | alt m =>
          obtain ⟨a', c', h2, h3⟩ := hxk
          exact .inl ⟨m, a', c', rfl, h2, h3⟩
        | nil => exact .inr ⟨rfl, .inl hxk⟩
        | cat m => obtain ⟨a, c, h1, _⟩ := hxk; exact .inr ⟨rfl, .inr ⟨_, _, h1, by decide⟩⟩
        | rep z mn mx => obtain ⟨a, h1, _⟩ := hxk; exact .inr ⟨rfl, .inr ⟨_, _, h1, by decide⟩⟩
        | group q z => obtain ⟨a, h1, _⟩ := hxk; exact .inr ⟨rfl, .inr ⟨_, _, h1, by decide⟩⟩
        | _ => exact .inr ⟨rfl, .inr ⟨_, _, hxk, by decide⟩⟩
      rcases hcase with ⟨m, am, cm, hp, rfl, hm⟩ | ⟨hp, hx⟩
      · rw [hp] at hpt
        have HM := Lib.hid hm; clear hm hp
        have hlen : (arms (l.take k)).length + m.length ≤ 3000000 := by have h := hsz.out; rw [hpt.out, List.length_append] at h; omega
        go_wp2_with (at_builtin; refine wpList_append_btS rfl (.tmp 20) (.tmp 22) rfl (arms (l.take k)) m _ _ (by rfl) (HB.out.on ((Fr.refl _ _).alloc _)) (by rfl) (fun g hg ho => HM.out.behindS (HB.out.fr.trans' ((Fr.refl _ _).alloc _)) hg) hlen ?_; intro v' w3 hb3; obtain ⟨av', cv', he3⟩ := hb3.shape; simp only [List.length_append] at he3; subst he3; have HB3 := Lib.hid hb3; clear hb3)
        go_roundw
        case rel => exact ⟨k + 1, by go_num, by omega, by rw [hpt.out]; exact HB3.out⟩
        case measure => simp [intOf]; omega
      · rw [hp] at hpt
        clear hp
        have hlen : (arms (l.take k)).length + [n.told].length ≤ 3000000 := by have h := hsz.out; rw [hpt.out, List.length_append] at h; omega
        obtain ⟨g0, o0, f0, l0⟩ := HB.out
        have HXG := Lib.hid (HX0.out.behindS f0 l0)
        have hb0 := o0.blk
        have HL0 := Lib.hid l0; have F0 := Lib.hid f0; have O0 := Lib.hid o0; clear l0 f0 o0
        rcases hx with rfl | ⟨ix, zx, rfl, hne⟩
        all_goals
          go_wp2_with fail
          refine (told_any (LGS S g0) n _ _ (HXG.out.on ((Fr.refl _ _).alloc _))).mono ?_
          rintro e w2 ⟨y, rfl, hy, rfl⟩
          have HY := Lib.hid hy; have hysh := hy.shape; clear hy
          rcases hysh with rfl | ⟨iy, zy, rfl⟩
          all_goals
            go_wp2_with (at_builtin; refine wpList_append_btS rfl (.tmp 24) (.tmp 27) rfl (arms (l.take k)) [n.told] _ _ (by rfl) (HB.out.on (((Fr.refl _ _).alloc _).alloc _)) (by rfl) (fun g hg ho => by have e := hb0.symm.trans ho.blk; subst e; exact SN.one' HY.out (fun k hk => hk.elim (fun x => by have := hS k x; have := F0.out.size; simp; omega) (fun x => by have := O0.out.lt k x; simp; omega)) _ (by simp)) hlen ?_; intro v' w3 hb3; obtain ⟨av', cv', he3⟩ := hb3.shape; simp only [List.length_append, List.length_singleton] at he3; subst he3; have HB3 := Lib.hid hb3; clear hb3)
            go_roundw
            case rel => exact ⟨k + 1, by go_num, by omega, by rw [hpt.out]; exact HB3.out⟩
            case measure => simp [intOf]; omega
    · obtain rfl : k = l.length := by omega
      have hT := Lib.hid (List.take_of_length_le (l := l) (Nat.le_refl _))
      have hB := HB.out
      rw [hT.out] at hB
      go_wp2_with fail
      refine (onlyS_any S (arms l) (.alt (arms l)) _ _ _ (by have := hpl.out; omega) (hB.sn hS) (RN_alt.2 ⟨_, rfl, (hB.sn hS)⟩)).mono ?_
      rintro e w2 ⟨r, rfl, hr, rfl⟩
      have HR := Lib.hid hr; clear hr
      go_wp2
      go_ret
      exact ⟨_, rfl, HR.out, HB.out.fr⟩

end Go.Proofs.YtmoeboknelnaoaaGreatDoor

/-
  The document's nodes: Of, Kids; how much there is of a node, its kinds known; as the program's node.
-/
namespace Go.Proofs.YtmoeboknelnaoaaGreatDoor
open Go.RowKit

def T.kind : T → Int | .mk k _ _ _ _ _ => k
def T.parts : T → List T | .mk _ _ ps _ _ _ => ps
def T.zero : T := .mk 0 S4.zero [] 0 0 0
def T.of (t : T) : T := match t.parts with
  | [] => T.zero
  | x :: _ => x
def T.kids (t : T) : List T := if t.kind = 2 ∨ t.kind = 3 then t.parts else if t.kind = 4 ∨ t.kind = 5 then [t.of] else []

mutual
/-- How much there is of a node. -/
def T.bulk : T → Nat
  | .mk _ _ ps _ _ _ => 1 + T.bulks ps
def T.bulks : List T → Nat
  | [] => 0
  | t :: ts => t.bulk + T.bulks ts
end
mutual
/-- Are all kinds known? -/
def T.known : T → Bool
  | .mk k _ ps _ _ _ => (!(decide (k < 0) || decide (8 < k))) && T.knowns ps
def T.knowns : List T → Bool
  | [] => true
  | t :: ts => t.known && T.knowns ts
end
mutual
/-- The program's node. -/
def T.nd : T → Nd
  | .mk k s ps mn mx nu => if k = 1 then .one s else if k = 2 then .cat (T.nds ps) else if k = 3 then .alt (T.nds ps) else if k = 4 then .rep (T.nd1 ps) mn mx
    else if k = 5 then .group nu (T.nd1 ps) else if k = 6 then .back nu else if k = 7 then .start else if k = 8 then .fin else .empty
def T.nds : List T → List Nd
  | [] => []
  | t :: ts => t.nd :: T.nds ts
def T.nd1 : List T → Nd
  | [] => .empty
  | t :: _ => t.nd
end

theorem T.bulk_pos (t : T) : 1 ≤ t.bulk := by cases t; simp only [T.bulk]; omega
theorem T.bulk_parts (t : T) : t.bulk = 1 + T.bulks t.parts := by cases t; rfl
theorem T.bulks_append (l m : List T) : T.bulks (l ++ m) = T.bulks l + T.bulks m := by
  induction l with
  | nil => simp [T.bulks]
  | cons t ts ih => simp only [List.cons_append, T.bulks, ih]; omega
theorem T.length_le (l : List T) : l.length ≤ T.bulks l := by
  induction l with
  | nil => simp
  | cons t ts ih => have := t.bulk_pos; simp only [List.length_cons, T.bulks]; omega
theorem T.bulks_take_le (l : List T) (k : Nat) : T.bulks (l.take k) ≤ T.bulks l := by
  have := T.bulks_append (l.take k) (l.drop k)
  rw [List.take_append_drop] at this; omega
theorem T.nds_eq (l : List T) : T.nds l = l.map T.nd := by
  induction l with
  | nil => rfl
  | cons t ts ih => simp only [T.nds, List.map_cons, ih]
theorem T.kids_nd (t : T) : t.nd.kids = t.kids.map T.nd := by
  cases t with
  | mk k s ps mn mx nu =>
    have h1 : T.nd1 ps = (T.of (.mk k s ps mn mx nu)).nd := by cases ps <;> rfl
    simp only [T.nd, T.kids, T.kind, T.parts, h1, T.nds_eq]
    by_cases a1 : k = 1
    · simp [a1, Nd.kids]
    by_cases a2 : k = 2
    · simp [a2, Nd.kids]
    by_cases a3 : k = 3
    · simp [a3, Nd.kids]
    by_cases a4 : k = 4
    · simp [a4, Nd.kids]
    by_cases a5 : k = 5
    · simp [a5, Nd.kids]
    by_cases a6 : k = 6
    · simp [a6, Nd.kids]
    by_cases a7 : k = 7
    · simp [a7, Nd.kids]
    by_cases a8 : k = 8
    · simp [a8, Nd.kids]
    simp [a1, a2, a3, a4, a5, a6, a7, a8, Nd.kids]

/-- The cells of a document's node, named. -/
theorem RT.open' {S : Nat → Prop} {w : World} {t : T} {cs : List Value} (h : RT S w t cs) : ∃ k s ps mn mx nu a c, t = .mk k s ps mn mx nu ∧
    cs = [.int .i64 k, .int .u64 s.a, .int .u64 s.b, .int .u64 s.c, .int .u64 s.d, .slice a ps.length c, .int .i64 mn, .int .i64 mx, .int .i64 nu] ∧ ST S w ps (.slice a ps.length c) := by
  cases t with
  | mk k s ps mn mx nu =>
    rw [RT_mk] at h
    obtain ⟨v, rfl, h⟩ := h
    rcases h with ⟨⟨a, c, rfl⟩, rfl⟩ | ⟨g, off, cap, rfl, hc, h⟩
    · exact ⟨k, s, [], mn, mx, nu, a, c, rfl, rfl, .inl ⟨⟨a, c, rfl⟩, rfl⟩⟩
    · exact ⟨k, s, ps, mn, mx, nu, _, cap, rfl, rfl, .inr ⟨g, off, cap, rfl, hc, h⟩⟩

/-- The k-th of the document's nodes that lie one behind the other. -/
theorem RTs.get {S : Nat → Prop} {w : World} {g : Nat} : ∀ {l : List T} {off : Nat}, RTs S w l g off → ∀ {k : Nat} (hk : k < l.length), ∃ cs, RT S w l[k] cs ∧ At w g (off + k * 9) cs ∧ g < w.heap.size
  | [], _, _, k, hk => by simp at hk
  | t :: ts, off, h, k, hk => by
    rw [RTs] at h; obtain ⟨_, hg, ⟨cs, h1, h2⟩, h⟩ := h
    cases k with
    | zero => exact ⟨cs, h1, by simpa using h2, hg⟩
    | succ k =>
      obtain ⟨cs', h3, h4, h5⟩ := RTs.get h (k := k) (by simpa using hk)
      exact ⟨cs', by simpa using h3, by rwa [show off + (k + 1) * 9 = off + 9 + k * 9 by omega], h5⟩
theorem ST.get {S : Nat → Prop} {w : World} {l : List T} {u : Value} (h : ST S w l u) {k : Nat} (hk : k < l.length) : ∃ g off cap cs, u = .slice (some ⟨g, off, none⟩) l.length cap ∧ RT S w l[k] cs ∧ At w g (off + k * 9) cs ∧ g < w.heap.size := by
  rcases h with ⟨_, rfl⟩ | ⟨g, off, cap, rfl, _, h⟩
  · simp at hk
  · obtain ⟨cs, h1, h2, h3⟩ := h.get hk
    exact ⟨g, off, cap, cs, rfl, h1, h2, h3⟩
theorem ST.shape {S : Nat → Prop} {w : World} {l : List T} {u : Value} (h : ST S w l u) : ∃ a c, u = .slice a l.length c := by
  rcases h with ⟨⟨a, c, rfl⟩, rfl⟩ | ⟨g, off, cap, rfl, _⟩
  · exact ⟨_, _, rfl⟩
  · exact ⟨_, _, rfl⟩

end Go.Proofs.YtmoeboknelnaoaaGreatDoor

/-
  Walks over the document's nodes: size, Known, Few; Of, Kids.
-/
namespace Go.Proofs.YtmoeboknelnaoaaGreatDoor
open Go.RowKit

/-- Nine cells of a node, as the walk reads them. -/
theorem At.nine {w : World} {g off : Nat} {a b c d e f h i j : Value} (H : At w g off [a, b, c, d, e, f, h, i, j]) :
    w.cell? ⟨g, off, none⟩ = some a ∧ w.cell? ⟨g, off + 1, none⟩ = some b ∧ w.cell? ⟨g, off + 2, none⟩ = some c ∧ w.cell? ⟨g, off + 3, none⟩ = some d ∧ w.cell? ⟨g, off + 4, none⟩ = some e ∧
    w.cell? ⟨g, off + 5, none⟩ = some f ∧ w.cell? ⟨g, off + 6, none⟩ = some h ∧ w.cell? ⟨g, off + 7, none⟩ = some i ∧ w.cell? ⟨g, off + 8, none⟩ = some j :=
  ⟨H 0 _ rfl, H 1 _ rfl, H 2 _ rfl, H 3 _ rfl, H 4 _ rfl, H 5 _ rfl, H 6 _ rfl, H 7 _ rfl, H 8 _ rfl⟩

end Go.Proofs.YtmoeboknelnaoaaGreatDoor
