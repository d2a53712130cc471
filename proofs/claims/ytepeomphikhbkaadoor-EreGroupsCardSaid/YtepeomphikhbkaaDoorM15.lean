/-
  Merged texts of this claim: Assert, TreeA, TreeB, TreeC, TreeD, TreeE, TreeF.
-/
import Derived.Test.YtepeomphikhbkaaDoorChecked
import Derived.Deep.RegionLaw
import Derived.Laws.OwnMore
import Derived.Test.YtepeomphikhbkaaDoorM01

/-
  Type assertions at the nodes' types: what each answers.
-/
namespace Go.Proofs.YtepeomphikhbkaaDoor
open Go.RowKit

section
variable {P : Program}
theorem run_assert_hit {x a : TypeId} {fs : Array Field} (h : P.underlying a = some (.struct fs)) (v : Value) (w : World) :
    (Instr.typeAssert (.iface a v) x a true).run P w = .ok (.tuple #[v, .bool true]) w := by
  simp [Instr.typeAssert, run_underlying h]
theorem run_assert_miss {x a t : TypeId} {fs : Array Field} (h : P.underlying a = some (.struct fs)) {z : Value} (hz : ∀ w, (zeroValue a).run P w = .ok z w) (ht : t ≠ a) (v : Value) (w : World) :
    (Instr.typeAssert (.iface t v) x a true).run P w = .ok (.tuple #[z, .bool false]) w := by
  simp [Instr.typeAssert, run_underlying h, ht, hz]
theorem run_assert_nil {x a : TypeId} {fs : Array Field} (h : P.underlying a = some (.struct fs)) {z : Value} (hz : ∀ w, (zeroValue a).run P w = .ok z w) (w : World) :
    (Instr.typeAssert .nilIface x a true).run P w = .ok (.tuple #[z, .bool false]) w := by
  simp [Instr.typeAssert, run_underlying h, hz]
end

theorem as_hit_Empty (v : Value) (w : World) : (Instr.typeAssert (.iface 80 v) 24 80 true).run Tryd.prog w = .ok (.tuple #[v, .bool true]) w := run_assert_hit Tryd.underlying80 v w
theorem as_miss_Empty (t : TypeId) (v : Value) (w : World) (h : t ≠ 80) : (Instr.typeAssert (.iface t v) 24 80 true).run Tryd.prog w = .ok (.tuple #[.agg #[], .bool false]) w := run_assert_miss Tryd.underlying80 (fun _ => by kernel_rfl) h v w
theorem as_nil_Empty (w : World) : (Instr.typeAssert .nilIface 24 80 true).run Tryd.prog w = .ok (.tuple #[.agg #[], .bool false]) w := run_assert_nil Tryd.underlying80 (fun _ => by kernel_rfl) w
attribute [go_sem] as_hit_Empty as_miss_Empty as_nil_Empty
theorem as_hit_One (v : Value) (w : World) : (Instr.typeAssert (.iface 64 v) 24 64 true).run Tryd.prog w = .ok (.tuple #[v, .bool true]) w := run_assert_hit Tryd.underlying64 v w
theorem as_miss_One (t : TypeId) (v : Value) (w : World) (h : t ≠ 64) : (Instr.typeAssert (.iface t v) 24 64 true).run Tryd.prog w = .ok (.tuple #[.agg #[.int .u64 0, .int .u64 0, .int .u64 0, .int .u64 0], .bool false]) w := run_assert_miss Tryd.underlying64 (fun _ => by kernel_rfl) h v w
theorem as_nil_One (w : World) : (Instr.typeAssert .nilIface 24 64 true).run Tryd.prog w = .ok (.tuple #[.agg #[.int .u64 0, .int .u64 0, .int .u64 0, .int .u64 0], .bool false]) w := run_assert_nil Tryd.underlying64 (fun _ => by kernel_rfl) w
attribute [go_sem] as_hit_One as_miss_One as_nil_One
theorem as_hit_Cat (v : Value) (w : World) : (Instr.typeAssert (.iface 70 v) 24 70 true).run Tryd.prog w = .ok (.tuple #[v, .bool true]) w := run_assert_hit Tryd.underlying70 v w
theorem as_miss_Cat (t : TypeId) (v : Value) (w : World) (h : t ≠ 70) : (Instr.typeAssert (.iface t v) 24 70 true).run Tryd.prog w = .ok (.tuple #[.agg #[.slice none 0 0], .bool false]) w := run_assert_miss Tryd.underlying70 (fun _ => by kernel_rfl) h v w
theorem as_nil_Cat (w : World) : (Instr.typeAssert .nilIface 24 70 true).run Tryd.prog w = .ok (.tuple #[.agg #[.slice none 0 0], .bool false]) w := run_assert_nil Tryd.underlying70 (fun _ => by kernel_rfl) w
attribute [go_sem] as_hit_Cat as_miss_Cat as_nil_Cat
theorem as_hit_Alt (v : Value) (w : World) : (Instr.typeAssert (.iface 36 v) 24 36 true).run Tryd.prog w = .ok (.tuple #[v, .bool true]) w := run_assert_hit Tryd.underlying36 v w
theorem as_miss_Alt (t : TypeId) (v : Value) (w : World) (h : t ≠ 36) : (Instr.typeAssert (.iface t v) 24 36 true).run Tryd.prog w = .ok (.tuple #[.agg #[.slice none 0 0], .bool false]) w := run_assert_miss Tryd.underlying36 (fun _ => by kernel_rfl) h v w
theorem as_nil_Alt (w : World) : (Instr.typeAssert .nilIface 24 36 true).run Tryd.prog w = .ok (.tuple #[.agg #[.slice none 0 0], .bool false]) w := run_assert_nil Tryd.underlying36 (fun _ => by kernel_rfl) w
attribute [go_sem] as_hit_Alt as_miss_Alt as_nil_Alt
theorem as_hit_Rep (v : Value) (w : World) : (Instr.typeAssert (.iface 72 v) 24 72 true).run Tryd.prog w = .ok (.tuple #[v, .bool true]) w := run_assert_hit Tryd.underlying72 v w
theorem as_miss_Rep (t : TypeId) (v : Value) (w : World) (h : t ≠ 72) : (Instr.typeAssert (.iface t v) 24 72 true).run Tryd.prog w = .ok (.tuple #[.agg #[.nilIface, .int .i64 0, .int .i64 0], .bool false]) w := run_assert_miss Tryd.underlying72 (fun _ => by kernel_rfl) h v w
theorem as_nil_Rep (w : World) : (Instr.typeAssert .nilIface 24 72 true).run Tryd.prog w = .ok (.tuple #[.agg #[.nilIface, .int .i64 0, .int .i64 0], .bool false]) w := run_assert_nil Tryd.underlying72 (fun _ => by kernel_rfl) w
attribute [go_sem] as_hit_Rep as_miss_Rep as_nil_Rep
theorem as_hit_Group (v : Value) (w : World) : (Instr.typeAssert (.iface 32 v) 24 32 true).run Tryd.prog w = .ok (.tuple #[v, .bool true]) w := run_assert_hit Tryd.underlying32 v w
theorem as_miss_Group (t : TypeId) (v : Value) (w : World) (h : t ≠ 32) : (Instr.typeAssert (.iface t v) 24 32 true).run Tryd.prog w = .ok (.tuple #[.agg #[.int .i64 0, .nilIface], .bool false]) w := run_assert_miss Tryd.underlying32 (fun _ => by kernel_rfl) h v w
theorem as_nil_Group (w : World) : (Instr.typeAssert .nilIface 24 32 true).run Tryd.prog w = .ok (.tuple #[.agg #[.int .i64 0, .nilIface], .bool false]) w := run_assert_nil Tryd.underlying32 (fun _ => by kernel_rfl) w
attribute [go_sem] as_hit_Group as_miss_Group as_nil_Group
theorem as_hit_Back (v : Value) (w : World) : (Instr.typeAssert (.iface 51 v) 24 51 true).run Tryd.prog w = .ok (.tuple #[v, .bool true]) w := run_assert_hit Tryd.underlying51 v w
theorem as_miss_Back (t : TypeId) (v : Value) (w : World) (h : t ≠ 51) : (Instr.typeAssert (.iface t v) 24 51 true).run Tryd.prog w = .ok (.tuple #[.agg #[.int .i64 0], .bool false]) w := run_assert_miss Tryd.underlying51 (fun _ => by kernel_rfl) h v w
theorem as_nil_Back (w : World) : (Instr.typeAssert .nilIface 24 51 true).run Tryd.prog w = .ok (.tuple #[.agg #[.int .i64 0], .bool false]) w := run_assert_nil Tryd.underlying51 (fun _ => by kernel_rfl) w
attribute [go_sem] as_hit_Back as_miss_Back as_nil_Back
theorem as_hit_Start (v : Value) (w : World) : (Instr.typeAssert (.iface 92 v) 24 92 true).run Tryd.prog w = .ok (.tuple #[v, .bool true]) w := run_assert_hit Tryd.underlying92 v w
theorem as_miss_Start (t : TypeId) (v : Value) (w : World) (h : t ≠ 92) : (Instr.typeAssert (.iface t v) 24 92 true).run Tryd.prog w = .ok (.tuple #[.agg #[], .bool false]) w := run_assert_miss Tryd.underlying92 (fun _ => by kernel_rfl) h v w
theorem as_nil_Start (w : World) : (Instr.typeAssert .nilIface 24 92 true).run Tryd.prog w = .ok (.tuple #[.agg #[], .bool false]) w := run_assert_nil Tryd.underlying92 (fun _ => by kernel_rfl) w
attribute [go_sem] as_hit_Start as_miss_Start as_nil_Start
theorem as_hit_End (v : Value) (w : World) : (Instr.typeAssert (.iface 93 v) 24 93 true).run Tryd.prog w = .ok (.tuple #[v, .bool true]) w := run_assert_hit Tryd.underlying93 v w
theorem as_miss_End (t : TypeId) (v : Value) (w : World) (h : t ≠ 93) : (Instr.typeAssert (.iface t v) 24 93 true).run Tryd.prog w = .ok (.tuple #[.agg #[], .bool false]) w := run_assert_miss Tryd.underlying93 (fun _ => by kernel_rfl) h v w
theorem as_nil_End (w : World) : (Instr.typeAssert .nilIface 24 93 true).run Tryd.prog w = .ok (.tuple #[.agg #[], .bool false]) w := run_assert_nil Tryd.underlying93 (fun _ => by kernel_rfl) w
attribute [go_sem] as_hit_End as_miss_End as_nil_End

end Go.Proofs.YtepeomphikhbkaaDoor

/-
  Walks of package tree: told, kids, plain, alt, atom.
-/
namespace Go.Proofs.YtepeomphikhbkaaDoor
open Go.RowKit

set_option maxRecDepth 100000 in
set_option maxHeartbeats 1000000 in
theorem kids_any (S : Nat → Prop) (n : Nd) (v : Value) (w : World) (h : RN S w n v) (hS : ∀ k, S k → k < w.heap.size) :
    Calls Tryd.prog 16 #[v] w fun e w' => ∃ u, e = .returned u ∧ SN S w' n.kids u ∧ Fr nob w w' := by
  cases n with
  | nil =>
    rw [RN] at h; subst h
    go_enter Tryd.func16, Tryd.ntmps16
    go_wp2
    go_ret
    exact ⟨_, rfl, SN.nil, Fr.refl _ _⟩
  | empty =>
    rw [RN] at h; subst h
    go_enter Tryd.func16, Tryd.ntmps16
    go_wp2
    go_ret
    exact ⟨_, rfl, SN.nil, Fr.refl _ _⟩
  | one s =>
    rw [RN] at h; subst h
    go_enter Tryd.func16, Tryd.ntmps16
    go_wp2
    go_ret
    exact ⟨_, rfl, SN.nil, Fr.refl _ _⟩
  | back n =>
    rw [RN] at h; subst h
    go_enter Tryd.func16, Tryd.ntmps16
    go_wp2
    go_ret
    exact ⟨_, rfl, SN.nil, Fr.refl _ _⟩
  | start =>
    rw [RN] at h; subst h
    go_enter Tryd.func16, Tryd.ntmps16
    go_wp2
    go_ret
    exact ⟨_, rfl, SN.nil, Fr.refl _ _⟩
  | fin =>
    rw [RN] at h; subst h
    go_enter Tryd.func16, Tryd.ntmps16
    go_wp2
    go_ret
    exact ⟨_, rfl, SN.nil, Fr.refl _ _⟩
  | cat l =>
    rw [RN_cat] at h; obtain ⟨u, rfl, h⟩ := h
    obtain ⟨a, c, rfl⟩ := h.shape
    have HH := Lib.hid h; clear h
    go_enter Tryd.func16, Tryd.ntmps16
    go_wp2
    go_ret
    exact ⟨_, rfl, HH.out.on ((Fr.refl _ _).alloc _), (Fr.refl _ _).alloc _⟩
  | alt l =>
    rw [RN_alt] at h; obtain ⟨u, rfl, h⟩ := h
    obtain ⟨a, c, rfl⟩ := h.shape
    have HH := Lib.hid h; clear h
    go_enter Tryd.func16, Tryd.ntmps16
    go_wp2
    go_ret
    exact ⟨_, rfl, HH.out.on ((Fr.refl _ _).alloc _), (Fr.refl _ _).alloc _⟩
  | rep x mn mx =>
    rw [RN] at h; obtain ⟨u, rfl, h⟩ := h
    have hsh := h.shape
    have HH := Lib.hid h; clear h
    rcases hsh with rfl | ⟨i, x, rfl⟩
    all_goals
      go_enter Tryd.func16, Tryd.ntmps16
      go_wp2
      go_ret
      exact ⟨_, rfl, SN.one' (HH.out.on ((Fr.refl _ _).alloc _)) (fun k hk => by have := hS k hk; simp; omega) _ (by simp), ((Fr.refl _ _).alloc _).alloc _⟩
  | group n x =>
    rw [RN] at h; obtain ⟨u, rfl, h⟩ := h
    have hsh := h.shape
    have HH := Lib.hid h; clear h
    rcases hsh with rfl | ⟨i, x, rfl⟩
    all_goals
      go_enter Tryd.func16, Tryd.ntmps16
      go_wp2
      go_ret
      exact ⟨_, rfl, SN.one' (HH.out.on ((Fr.refl _ _).alloc _)) (fun k hk => by have := hS k hk; simp; omega) _ (by simp), ((Fr.refl _ _).alloc _).alloc _⟩


set_option maxRecDepth 100000 in
set_option maxHeartbeats 1000000 in
theorem size_any (m : Nat) : ∀ (n : Nd) (v : Value) (w : World), n.size ≤ m → n.size ≤ 3000000 → RN nob w n v →
    Calls Tryd.prog 10 #[v] w fun e w' => e = .returned (.int .i64 n.size) ∧ Fr nob w w' := by
  induction m with
  | zero => intro n v w h; have := n.size_pos; omega
  | succ m ih =>
    intro n v w hm hn h
    have IH := Lib.hid ih; clear ih
    have hsk := Lib.hid n.size_kids
    have hlk := Nd.length_le n.kids
    have hkl : n.kids.length ≤ 3000000 := by have := hsk.out; omega
    go_enter Tryd.func10, Tryd.ntmps10
    go_wp2_with fail
    refine (kids_any nob n v w h (fun _ x => x.elim)).mono ?_
    rintro e w1 ⟨u, rfl, h1, f1⟩
    obtain ⟨a, c, rfl⟩ := h1.shape
    have H1 := Lib.hid h1; have F1 := Lib.hid f1; clear h1 f1 hlk h
    go_wp2_with fail
    go_loopw [3, 9] (fun s i wr => ∃ k : Nat, i = .int .i64 k ∧ k ≤ n.kids.length ∧ s = .int .i64 ((1 + Nd.sizes (n.kids.take k) : Nat) : Int) ∧ Fr nob w1 wr) (fun _ i _ => n.kids.length - (intOf i).toNat)
    case atStart => exact ⟨0, rfl, Nat.zero_le _, rfl, Fr.refl _ _⟩
    case round =>
      obtain ⟨k, rfl, hk, rfl, fr⟩ := hrel
      have hst := Nd.sizes_take_le n.kids k
      have hsb : Nd.sizes (n.kids.take k) ≤ 3000000 := by have := hsk.out; omega
      have HR := Lib.hid (H1.out.on fr); have FR := Lib.hid fr; clear fr hst
      by_cases hlt : k < n.kids.length
      · obtain ⟨g, off, cap, x, he, hx, hc⟩ := HR.out.get hlt
        injection he with e1 e2 e3
        subst e1; subst e3
        have hst2 := Lib.hid (Nd.sizes_take hlt)
        have hxs : n.kids[k].size < n.size := Nd.kid_lt (List.getElem_mem hlt)
        have HX := Lib.hid hx; clear hx e2
        go_wp2_with fail
        refine (IH.out n.kids[k] x _ (by omega) (by omega) HX.out).mono ?_
        rintro e w2 ⟨rfl, f2⟩
        have F2 := Lib.hid f2; clear f2
        go_wp2
        go_roundw
        case rel => exact ⟨k + 1, by go_num, by omega, by rw [hst2.out]; go_num, FR.out.trans' F2.out⟩
        case measure => simp [intOf]; omega
      · obtain rfl : k = n.kids.length := by omega
        have hT := Lib.hid (List.take_of_length_le (l := n.kids) (Nat.le_refl _))
        go_wp2
        go_ret
        exact ⟨ret_int (by have := hsk.out; rw [hT.out]; omega), F1.out.trans' FR.out⟩


/-- A node that is told. -/
def Nd.told : Nd → Nd
  | .nil => .empty
  | n => n
/-- Can it stand in a Cat? -/
def Nd.plain : Nd → Bool
  | .nil | .empty | .cat _ | .alt _ => false
  | _ => true
def Nd.isAlt : Nd → Bool
  | .alt _ => true
  | _ => false
/-- May it be repeated? -/
def Nd.atom : Nd → Bool
  | .nil | .empty | .cat _ | .alt _ | .start | .fin => false
  | _ => true

theorem told_any2 (S : Nat → Prop) (n : Nd) (v : Value) (w : World) (h : RN S w n v) : Calls Tryd.prog 34 #[v] w fun e w' => ∃ u, e = .returned u ∧ RN S w n.told u ∧ (v = .nilIface ∨ u = v) ∧ w = w' := by
  rcases h.shape with rfl | ⟨i, x, rfl⟩
  · have hn : n = .nil := by cases n <;> rw [RN] at h <;> first | rfl | (cases h; done) | (obtain ⟨_, h, _⟩ := h; cases h)
    subst hn
    have H := Lib.hid h; clear h
    go_enter Tryd.func34, Tryd.ntmps34
    go_wp2
    go_ret
    exact ⟨_, rfl, by rw [Nd.told, RN]; rfl, by simp, rfl⟩
  · have hn : n.told = n := by cases n <;> first | rfl | (rw [RN] at h; cases h)
    have H := Lib.hid h; clear h; have HN := Lib.hid hn; clear hn
    go_enter Tryd.func34, Tryd.ntmps34
    go_wp2
    go_ret
    exact ⟨_, rfl, by rw [HN.out]; exact H.out, by simp, rfl⟩

theorem told_any (S : Nat → Prop) (n : Nd) (v : Value) (w : World) (h : RN S w n v) : Calls Tryd.prog 34 #[v] w fun e w' => ∃ u, e = .returned u ∧ RN S w n.told u ∧ w = w' := by
  refine (told_any2 S n v w h).mono ?_
  rintro e w1 ⟨u, h1, h2, _, h3⟩
  exact ⟨u, h1, h2, h3⟩


/-- A node's value is an interface of its kind's type. -/
def KindIs (S : Nat → Prop) (w : World) (v : Value) : Nd → Prop
    | .nil => v = .nilIface
    | .empty => v = .iface 80 (.agg #[])
    | .one s => v = .iface 64 (.agg s.cells.toArray)
    | .cat l => ∃ (a : Option Addr) (c : Nat), v = .iface 70 (.agg #[.slice a l.length c]) ∧ SN S w l (.slice a l.length c)
    | .alt l => ∃ (a : Option Addr) (c : Nat), v = .iface 36 (.agg #[.slice a l.length c]) ∧ SN S w l (.slice a l.length c)
    | .rep x mn mx => ∃ u, v = .iface 72 (.agg #[u, .int .i64 mn, .int .i64 mx]) ∧ RN S w x u
    | .group n x => ∃ u, v = .iface 32 (.agg #[.int .i64 n, u]) ∧ RN S w x u
    | .back n => v = .iface 51 (.agg #[.int .i64 n])
    | .start => v = .iface 92 (.agg #[])
    | .fin => v = .iface 93 (.agg #[])
theorem RN.kind {S : Nat → Prop} {w : World} {n : Nd} {v : Value} (h : RN S w n v) : KindIs S w v n := by
  cases n with
  | cat l => rw [RN_cat] at h; obtain ⟨u, rfl, h⟩ := h; obtain ⟨a, c, rfl⟩ := h.shape; exact ⟨a, c, rfl, h⟩
  | alt l => rw [RN_alt] at h; obtain ⟨u, rfl, h⟩ := h; obtain ⟨a, c, rfl⟩ := h.shape; exact ⟨a, c, rfl, h⟩
  | _ => rw [RN] at h; exact h

/-- .. its type alone. -/
def Nd.ty : Nd → Option TypeId
  | .nil => none
  | .empty => some 80
  | .one _ => some 64
  | .cat _ => some 70
  | .alt _ => some 36
  | .rep _ _ _ => some 72
  | .group _ _ => some 32
  | .back _ => some 51
  | .start => some 92
  | .fin => some 93
theorem RN.tyv {S : Nat → Prop} {w : World} {n : Nd} {v : Value} (h : RN S w n v) : (n.ty = none ∧ v = .nilIface) ∨ ∃ i x, n.ty = some i ∧ v = .iface i x := by
  have := h.kind
  cases n with
  | nil => exact .inl ⟨rfl, this⟩
  | cat l => obtain ⟨a, c, h, _⟩ := this; exact .inr ⟨_, _, rfl, h⟩
  | alt l => obtain ⟨a, c, h, _⟩ := this; exact .inr ⟨_, _, rfl, h⟩
  | rep x mn mx => obtain ⟨a, h, _⟩ := this; exact .inr ⟨_, _, rfl, h⟩
  | group n x => obtain ⟨a, h, _⟩ := this; exact .inr ⟨_, _, rfl, h⟩
  | _ => exact .inr ⟨_, _, rfl, this⟩

set_option maxRecDepth 100000 in
set_option maxHeartbeats 1000000 in
theorem alt_any (S : Nat → Prop) (n : Nd) (v : Value) (w : World) (h : RN S w n v) : Calls Tryd.prog 43 #[v] w fun e w' => e = .returned (.bool n.isAlt) ∧ Fr nob w w' := by
  have hk := h.kind
  have H := Lib.hid h; clear h
  by_cases ha : ∃ l, n = .alt l
  · obtain ⟨l, rfl⟩ := ha
    obtain ⟨a, c, rfl, _⟩ := hk
    go_enter Tryd.func43, Tryd.ntmps43
    go_wp2
    go_ret
    exact ⟨rfl, (Fr.refl _ _).alloc _⟩
  · have hn : n.isAlt = false := by cases n <;> first | rfl | exact (ha ⟨_, rfl⟩).elim
    rw [hn]
    clear hk
    rcases H.out.tyv with ⟨_, rfl⟩ | ⟨i, x, ht, rfl⟩
    · go_enter Tryd.func43, Tryd.ntmps43
      go_wp2
      go_ret
      exact ⟨rfl, (Fr.refl _ _).alloc _⟩
    · have hi : i ≠ 36 := by
        cases n <;> simp only [Nd.ty, Option.some.injEq] at ht <;> first | (subst ht; decide) | (exact (ha ⟨_, rfl⟩).elim) | cases ht
      clear ha ht hn
      go_enter Tryd.func43, Tryd.ntmps43
      go_wp2
      go_ret
      exact ⟨rfl, (Fr.refl _ _).alloc _⟩

end Go.Proofs.YtepeomphikhbkaaDoor

/-
  Walks: slices.IndexFunc, ContainsFunc over nodes, by a function that is a predicate; slices.Contains over numbers.
-/
namespace Go.Proofs.YtepeomphikhbkaaDoor
open Go.RowKit

/-- A function of the program that answers a predicate of nodes. -/
def IsPred (f : FuncId) (p : Nd → Bool) (B : Nat) : Prop := ∀ (n : Nd) (v : Value) (w : World), n.size ≤ B → RN nob w n v → Calls Tryd.prog f #[v] w fun e w' => e = .returned (.bool (p n)) ∧ Fr nob w w'

theorem pred_alt (B : Nat) : IsPred 43 Nd.isAlt B := fun n v w _ h => alt_any nob n v w h

set_option maxRecDepth 100000 in
set_option maxHeartbeats 1000000 in
theorem indexFunc_any (f : FuncId) (p : Nd → Bool) (B : Nat) (hp : IsPred f p B) (hdef : ∀ args w, (callFunc f args).run Tryd.prog w = .ok (.enter f args) w) (l : List Nd) (u : Value) (w : World) (hl : l.length ≤ 3000000) (hB : ∀ n ∈ l, n.size ≤ B) (h : SN nob w l u) :
    Calls Tryd.prog 26 #[u, .func (.func f) #[] #[]] w fun e w' => (∃ i : Int, e = .returned (.int .i64 i) ∧ (decide (0 ≤ i)) = l.any p) ∧ Fr nob w w' := by
  obtain ⟨a, c, rfl⟩ := h.shape
  have H := Lib.hid h; clear h
  have HP := Lib.hid hp; clear hp
  have HB := Lib.hid hB; clear hB
  go_enter Tryd.func26, Tryd.ntmps26
  go_wp2_with fail
  go_loopw [8] (fun i wr => ∃ k : Nat, i = .int .i64 k ∧ k ≤ l.length ∧ (l.take k).any p = false ∧ Fr nob w wr) (fun i _ => l.length - (intOf i).toNat)
  case atStart => exact ⟨0, rfl, Nat.zero_le _, rfl, Fr.refl _ _⟩
  case round =>
    obtain ⟨k, rfl, hk, hn, fr⟩ := hrel
    have HR := Lib.hid (H.out.on fr); have FR := Lib.hid fr; have HN := Lib.hid hn; clear fr hn
    by_cases hlt : k < l.length
    · obtain ⟨g, off, cap, x, he, hx, hc⟩ := HR.out.get hlt
      injection he with e1 e2 e3
      subst e1; subst e3
      have HX := Lib.hid hx; clear hx e2
      have hts := Lib.hid (List.take_succ_eq_append_getElem hlt)
      have hany : (l.take (k + 1)).any p = p l[k] := by rw [hts.out, List.any_append, HN.out]; simp
      have HA := Lib.hid hany; clear hany
      go_wp2_with fail
      refine (HP.out l[k] x _ (HB.out _ (List.getElem_mem hlt)) HX.out).mono ?_
      rintro e w2 ⟨rfl, f2⟩
      have F2 := Lib.hid f2; clear f2
      by_cases hpk : p l[k] = true
      · have hall : l.any p = true := List.any_eq_true.2 ⟨_, List.getElem_mem hlt, hpk⟩
        have HALL := Lib.hid hall; clear hall
        rw [hpk]
        clear hpk
        go_wp2
        go_ret
        exact ⟨⟨k, rfl, by rw [HALL.out]; simp⟩, FR.out.trans' F2.out⟩
      · have hpf : p l[k] = false := by simpa using hpk
        have HA2 := Lib.hid (HA.out.trans hpf); clear hpk
        rw [hpf]
        clear hpf
        go_wp2
        go_roundw
        case rel => exact ⟨k + 1, by go_num, by omega, HA2.out, FR.out.trans' F2.out⟩
        case measure => simp [intOf]; omega
    · obtain rfl : k = l.length := by omega
      have hT := Lib.hid (List.take_of_length_le (l := l) (Nat.le_refl _))
      go_wp2
      go_ret
      exact ⟨⟨-1, rfl, by have := HN.out; rw [hT.out] at this; rw [this]; decide⟩, FR.out⟩


set_option maxRecDepth 100000 in
theorem containsFunc_any (f : FuncId) (p : Nd → Bool) (B : Nat) (hp : IsPred f p B) (hdef : ∀ args w, (callFunc f args).run Tryd.prog w = .ok (.enter f args) w) (l : List Nd) (u : Value) (w : World) (hl : l.length ≤ 3000000) (hB : ∀ n ∈ l, n.size ≤ B) (h : SN nob w l u) :
    Calls Tryd.prog 15 #[u, .func (.func f) #[] #[]] w fun e w' => e = .returned (.bool (l.any p)) ∧ Fr nob w w' := by
  have H := Lib.hid h; clear h
  have HP := Lib.hid hp; clear hp
  have HB := Lib.hid hB; clear hB
  have HD := Lib.hid hdef; clear hdef
  go_enter Tryd.func15, Tryd.ntmps15
  go_wp2_with fail
  refine (indexFunc_any f p B HP.out HD.out l u w hl HB.out H.out).mono ?_
  rintro e w1 ⟨⟨i, rfl, hi⟩, f1⟩
  have F1 := Lib.hid f1; have HI := Lib.hid hi; clear f1 hi
  go_wp2
  go_ret
  exact ⟨by rw [← HI.out]; rfl, F1.out⟩

/-- A slice of integers, its own or not: what it reads. -/
def SI (w : World) (l : List Int) (u : Value) : Prop := (u = .slice none 0 0 ∧ l = []) ∨ ∃ g off cap, u = .slice (some ⟨g, off, none⟩) l.length cap ∧ ∀ j x, l[j]? = some x → w.cell? ⟨g, off + j, none⟩ = some (.int .i64 x)

theorem SI.shape {w : World} {l : List Int} {u : Value} (h : SI w l u) : ∃ a c, u = .slice a l.length c := by
  rcases h with ⟨rfl, rfl⟩ | ⟨g, off, cap, rfl, _⟩
  · exact ⟨_, _, rfl⟩
  · exact ⟨_, _, rfl⟩
theorem SI.get {w : World} {l : List Int} {u : Value} (h : SI w l u) {k : Nat} (hk : k < l.length) : ∃ g off cap, u = .slice (some ⟨g, off, none⟩) l.length cap ∧ w.cell? ⟨g, off + k, none⟩ = some (.int .i64 l[k]) := by
  rcases h with ⟨_, rfl⟩ | ⟨g, off, cap, rfl, h⟩
  · simp at hk
  · exact ⟨g, off, cap, rfl, h k _ (List.getElem?_eq_getElem hk)⟩

end Go.Proofs.YtepeomphikhbkaaDoor

/-
  Walks of package tree: the looker; Right.
-/
namespace Go.Proofs.YtepeomphikhbkaaDoor
open Go.RowKit

def repOk (a : Bool) (mn mx : Int) : Bool := a && (decide (0 ≤ mn) && (decide (mn ≤ 255) && (mx == -1 || (decide (mn ≤ mx) && decide (mx ≤ 255)))))

/-- Is a node, its parts not looked at within; how many groups are opened then. -/
def Nd.shaped (o : Int) (c : List Int) : Nd → Bool × Int
  | .cat l => (decide (1 < l.length) && !l.any (fun n => !n.plain), o)
  | .alt l => (decide (1 < l.length) && !l.any Nd.isAlt, o)
  | .rep x mn mx => (repOk x.atom mn mx, o)
  | .group n _ => (n == o + 1, o + 1)
  | .back n => (c.contains n, o)
  | _ => (true, o)

theorem SN.weak {S : Nat → Prop} {w : World} {l : List Nd} {u : Value} (h : SN S w l u) : SN nob w l u := h.keep (Fr.refl nob w) (fun _ _ x => x.elim) (fun _ _ x => x.elim)
theorem RN.weak {S : Nat → Prop} {w : World} {n : Nd} {u : Value} (h : RN S w n u) : RN nob w n u := RN.keep (Fr.refl nob w) (fun _ _ x => x.elim) (fun _ _ x => x.elim) _ _ h

theorem enters_f {P : Program} {f : FuncId} {fn : Func} {c : Code} (hf : P.funcs[f]? = some fn) (hname : (fn.name == "runtime.NumGoroutine") = false) (hb : fn.body = some c) : ∀ args w, (callFunc f args).run P w = .ok (.enter f args) w := by
  intro args w
  have h1 : fn.name ≠ "runtime.NumGoroutine" := by simpa using hname
  simp [callFunc, hf, h1, hb, mark]
theorem enters_alt : ∀ args w, (callFunc 43 args).run Tryd.prog w = .ok (.enter 43 args) w := enters_f Tryd.func43 (by kernel_rfl) rfl
end Go.Proofs.YtepeomphikhbkaaDoor

/-
  Walks of package tree: shaped of any node; right; Right. What they answer in plain words: Nd.look.
-/
namespace Go.Proofs.YtepeomphikhbkaaDoor
open Go.RowKit

mutual
/-- Is a node, when o groups were opened, and those of c closed? How many, and which, then are. -/
def Nd.look : Nd → Int → List Int → Option (Int × List Int)
  | .cat l, o, c => if (decide (1 < l.length) && !l.any (fun n => !n.plain)) = true then Nd.looks l o c else none
  | .alt l, o, c => if (decide (1 < l.length) && !l.any Nd.isAlt) = true then Nd.looks l o c else none
  | .rep x mn mx, o, c => if repOk x.atom mn mx = true then x.look o c else none
  | .group n x, o, c => if (n == o + 1) = true then (match x.look (o + 1) c with
      | none => none
      | some (o', c') => some (o', c' ++ [n])) else none
  | .back n, o, c => if c.contains n = true then some (o, c) else none
  | .nil, o, c | .empty, o, c | .one _, o, c | .start, o, c | .fin, o, c => some (o, c)
def Nd.looks : List Nd → Int → List Int → Option (Int × List Int)
  | [], o, c => some (o, c)
  | t :: ts, o, c => match t.look o c with
    | none => none
    | some (o', c') => Nd.looks ts o' c'
end

/-- What is closed with a node. -/
def Nd.shut (c : List Int) : Nd → List Int
  | .group n _ => c ++ [n]
  | _ => c

theorem looks_one (x : Nd) (o : Int) (c : List Int) : Nd.looks [x] o c = x.look o c := by
  rw [Nd.looks]
  cases x.look o c with
  | none => rfl
  | some p => simp [Nd.looks]

theorem Nd.look_no {n : Nd} {o : Int} {c : List Int} (h : (n.shaped o c).1 = false) : n.look o c = none := by
  cases n <;> simp only [Nd.shaped] at h <;> first | (simp only [Nd.look]; rw [h]; rfl) | cases h
theorem Nd.look_yes {n : Nd} {o : Int} {c : List Int} (h : (n.shaped o c).1 = true) : n.look o c = (match Nd.looks n.kids (n.shaped o c).2 c with
      | none => none
      | some (o', c') => some (o', n.shut c')) := by
  cases n with
  | cat l => simp only [Nd.shaped] at h; simp only [Nd.look, Nd.kids, Nd.shaped, Nd.shut, h]; cases Nd.looks l o c <;> rfl
  | alt l => simp only [Nd.shaped] at h; simp only [Nd.look, Nd.kids, Nd.shaped, Nd.shut, h]; cases Nd.looks l o c <;> rfl
  | rep x mn mx => simp only [Nd.shaped] at h; simp only [Nd.look, Nd.kids, Nd.shaped, Nd.shut, h, looks_one]; cases x.look o c <;> rfl
  | group k x => simp only [Nd.shaped] at h; simp only [Nd.look, Nd.kids, Nd.shaped, Nd.shut, h, looks_one]; cases x.look (o + 1) c <;> rfl
  | back k => simp only [Nd.shaped] at h; simp only [Nd.look, Nd.kids, Nd.shaped, Nd.shut, h, Nd.looks]; rfl
  | _ => rfl

mutual
theorem Nd.look_le : ∀ (n : Nd) (o : Int) (c : List Int) (o' : Int) (c' : List Int), n.look o c = some (o', c') → o ≤ o' ∧ o' ≤ o + n.size ∧ c'.length ≤ c.length + n.size
  | .cat l, o, c, o', c', h => by
    simp only [Nd.look] at h; split at h
    · have := Nd.looks_le l o c o' c' h; simp only [Nd.size]; omega
    · cases h
  | .alt l, o, c, o', c', h => by
    simp only [Nd.look] at h; split at h
    · have := Nd.looks_le l o c o' c' h; simp only [Nd.size]; omega
    · cases h
  | .rep x _ _, o, c, o', c', h => by
    simp only [Nd.look] at h; split at h
    · have := Nd.look_le x o c o' c' h; simp only [Nd.size]; omega
    · cases h
  | .group n x, o, c, o', c', h => by
    simp only [Nd.look] at h; split at h
    · split at h
      · cases h
      · rename_i a b e
        have := Nd.look_le x (o + 1) c a b e
        injection h with h; injection h with h1 h2; subst h1; subst h2
        simp only [Nd.size, List.length_append, List.length_cons, List.length_nil]; omega
    · cases h
  | .back n, o, c, o', c', h => by
    simp only [Nd.look] at h; split at h
    · injection h with h; injection h with h1 h2; subst h1; subst h2; omega
    · cases h
  | .nil, o, c, o', c', h => by simp only [Nd.look] at h; injection h with h; injection h with h1 h2; subst h1; subst h2; omega
  | .empty, o, c, o', c', h => by simp only [Nd.look] at h; injection h with h; injection h with h1 h2; subst h1; subst h2; omega
  | .one _, o, c, o', c', h => by simp only [Nd.look] at h; injection h with h; injection h with h1 h2; subst h1; subst h2; omega
  | .start, o, c, o', c', h => by simp only [Nd.look] at h; injection h with h; injection h with h1 h2; subst h1; subst h2; omega
  | .fin, o, c, o', c', h => by simp only [Nd.look] at h; injection h with h; injection h with h1 h2; subst h1; subst h2; omega
theorem Nd.looks_le : ∀ (l : List Nd) (o : Int) (c : List Int) (o' : Int) (c' : List Int), Nd.looks l o c = some (o', c') → o ≤ o' ∧ o' ≤ o + Nd.sizes l ∧ c'.length ≤ c.length + Nd.sizes l
  | [], o, c, o', c', h => by simp only [Nd.looks] at h; injection h with h; injection h with h1 h2; subst h1; subst h2; omega
  | t :: ts, o, c, o', c', h => by
    simp only [Nd.looks] at h; split at h
    · cases h
    · rename_i a b e
      have h1 := Nd.look_le t o c a b e
      have h2 := Nd.looks_le ts a b o' c' h
      simp only [Nd.sizes]; omega
end

theorem Nd.shaped_le (n : Nd) (o : Int) (c : List Int) : o ≤ (n.shaped o c).2 ∧ (n.shaped o c).2 ≤ o + 1 := by
  cases n <;> simp only [Nd.shaped] <;> omega

end Go.Proofs.YtepeomphikhbkaaDoor

/-
  Walks of package tree: (*looker).right by recursion; Right.
-/
namespace Go.Proofs.YtepeomphikhbkaaDoor
open Go.RowKit

/-- append, grown or not, as one step of a region that draws. -/
theorem step_append_g {P : Program} {ops : Array Oper} {o : Oper} {a : Act} {w : World} {K : Act → World → Prop} {Q : Exit → Act → World → Prop} {E : Prop}
    (hg : o.guard = none) (s x : Operand) (t : TypeId) (hop : o.op = Op.call { callee := Callee.builtin Builtin.append, args := #[s, x], argTypes := #[t, t] })
    (e : TypeId) (i : TypeInfo) (z : Value) (size bytes : Nat) (ht : P.underlying t = some (.slice e)) (hi : P.info? e = some i) (hz : i.zero = some z)
    (hsize : i.size = size) (hby : i.bytes = bytes) (hzs : z.cells.size = size) (hsz : 0 < size)
    (v : Value) (n : Nat) (xs : List Value) (hs : a.eval s = v) (hown : w.ownsRow 0 e size v n xs)
    (ad : Addr) (m c : Nat) (news : List Value) (hx : a.eval x = .slice (some ad) m c) (hl : news.length = m * size) (hnews : ∀ j u, news[j]? = some u → w.cell? (ad.add j) = some u) (h1 : ∀ u ∈ news, u.oneCell' = true)
    (h63 : n + m ≤ maxLen) (hbytes : (n + m) * bytes ≤ 140737488355328)
    (hK : ∀ v' w', w'.ownsRow 0 e size v' (n + m) (xs ++ news) → Appd m v v' w w' → K (a.put o.dst v') w') :
    if Region.wanted o (yielded ops a.tmps) = true then Oper.wp P o a w K Q else E := by
  have hw : Region.wanted o (yielded ops a.tmps) = true := by simp [Region.wanted, hg]
  rw [if_pos hw]
  obtain ⟨v', w', hr, h2, h3⟩ := run_append_g (P := P) w t o.type e i z size bytes ht hi hz hsize hby hzs hsz v n xs hown ad m c news hl hnews h1 h63 hbytes
  unfold Oper.wp execOp
  simp only [hop, resolve, invoke, builtin, Sem.run_bind, Sem.run_pure, Result.andThen_ok, List.map_toArray, List.map_cons, List.map_nil, hs, hx, hr]
  exact hK _ _ h2 h3

theorem info_int : (Tryd.prog.info? 3).map (fun i => (i.zero, i.size, i.bytes)) = some (some (.int .i64 0), 1, 8) := by kernel_rfl

/-- The blocks that a looker has for its own. -/
def LS (b : Nat) (g : Option Nat) : Nat → Prop := fun k => k = b ∨ g = some k

section
variable {b : Nat} {o : Int} {c : List Int} {g : Option Nat} {w W0 w3 : World} {v v' : Value} {gn : Int}
end

theorem LS.late {b : Nat} {g g' : Option Nat} {w : World} (h : ∀ k, g' = some k → g = some k ∨ w.heap.size ≤ k) : ∀ k, k < w.heap.size → LS b g' k → LS b g k := by
  intro k hk hl
  rcases hl with rfl | hl
  · exact .inl rfl
  · rcases h k hl with h | h
    · exact .inr h
    · omega

end Go.Proofs.YtepeomphikhbkaaDoor

/-
  Walks of package tree: Right; Join, Choose. A call's own slice of nodes, and append to it.
-/
namespace Go.Proofs.YtepeomphikhbkaaDoor
open Go.RowKit

/-- Is a tree right? -/
def Nd.right (n : Nd) : Bool := (n.look 0 []).isSome

/-- The block of a call's own slice. -/
def LG (g : Option Nat) : Nat → Prop := fun k => g = some k

theorem LG.late {g g' : Option Nat} {w : World} (h : ∀ k, g' = some k → g = some k ∨ w.heap.size ≤ k) : ∀ k, k < w.heap.size → LG g' k → LG g k := by
  intro k hk hl
  rcases h k hl with h | h
  · exact h
  · omega

/-- A call's own slice of nodes. -/
def OwnN (w : World) (l : List Nd) (v : Value) (g : Option Nat) : Prop := ∃ vs, w.ownsRow 0 24 1 v l.length vs ∧ VN (LG g) w l vs ∧ v.ownBlock = g

theorem OwnN.nil (w : World) : OwnN w [] (.slice none 0 0) none := ⟨[], World.ownsRow_nil _ _ _ _, rfl, rfl⟩
theorem OwnN.on {w w' : World} {l : List Nd} {v : Value} {g : Option Nat} (h : OwnN w l v g) (f : Fr nob w w') : OwnN w' l v g := by
  obtain ⟨vs, h1, h2, h3⟩ := h
  exact ⟨vs, ownsRow_fr h1 f (fun _ _ x => x), h2.keep f (fun _ _ x => x.elim) (fun _ _ x => x), h3⟩
theorem OwnN.shape {w : World} {l : List Nd} {v : Value} {g : Option Nat} (h : OwnN w l v g) : ∃ a c, v = .slice a l.length c := by
  obtain ⟨vs, h1, h2, h3⟩ := h; exact ownsRow_slice h1
theorem OwnN.sn {w : World} {l : List Nd} {v : Value} {g : Option Nat} (h : OwnN w l v g) : SN nob w l v := by
  obtain ⟨vs, h1, h2, h3⟩ := h
  exact SN.of_own h1 (h2.keep (S' := nob) (Fr.refl nob w) (fun _ _ x => x.elim) (fun _ _ x => x.elim)) (fun _ _ x => x)

theorem info_node : (Tryd.prog.info? 24).map (fun i => (i.zero, i.size, i.bytes)) = some (some .nilIface, 1, 16) := by kernel_rfl

/-- Values of nodes are one cell each. -/
theorem VN.cell1 {S : Nat → Prop} {w : World} : ∀ {l : List Nd} {vs : List Value}, VN S w l vs → ∀ u ∈ vs, u.oneCell' = true
  | [], _, h, u, hu => by rw [VN] at h; subst h; cases hu
  | t :: ts, _, h, u, hu => by
    rw [VN] at h; obtain ⟨v, r, rfl, h1, h⟩ := h
    rcases List.mem_cons.1 hu with rfl | hu
    · rcases h1.shape with rfl | ⟨i, x, rfl⟩ <;> rfl
    · exact VN.cell1 h u hu

theorem wpList_append_sn {w : World} {ops : Array Oper} {rest : List Oper} {o : Oper} {a : Act} {Q : Exit → Act → World → Prop} (hgd : o.guard = none) (s x : Operand)
    (ho : o.op = .call { callee := .builtin .append, args := #[s, x], argTypes := #[34, 34] })
    (l m : List Nd) (v ux : Value) (g : Option Nat) (hs : a.eval s = v) (hown : OwnN w l v g) (hx : a.eval x = ux) (hm : SN (LG g) w m ux) (hb : l.length + m.length ≤ 3000000)
    (h : ∀ v' w' g', OwnN w' (l ++ m) v' g' → Fr (LG g) w w' → (∀ k, g' = some k → g = some k ∨ w.heap.size ≤ k) → wpList Tryd.prog ops Q rest (a.put o.dst v') w') : wpList Tryd.prog ops Q (o :: rest) a w := by
  obtain ⟨i0, hi, hz0, hz1, hz2⟩ := info_parts info_node
  obtain ⟨vs, h1, h2, h3⟩ := hown
  rcases hm with ⟨rfl, rfl⟩ | ⟨q, off, cap, rfl, _, hm⟩
  · refine wpList_plain hgd fun K hK => ?_
    have hr := run_append_owned_none (P := Tryd.prog) (w := w) 0 34 o.type 24 i0 1 Tryd.underlying34 hi v l.length vs h1
    unfold Oper.wp execOp
    simp only [ho, resolve, invoke, builtin, Sem.run_bind, Sem.run_pure, Result.andThen_ok, List.map_toArray, List.map_cons, List.map_nil, hs, hx, hr]
    exact hK _ _ (h v w g (by rw [List.append_nil]; exact ⟨vs, h1, h2, h3⟩) (Fr.refl _ _) (fun k hk => .inl hk))
  · obtain ⟨us, hu, ha⟩ := RNs.vals hm
    have hul := hu.length
    refine wpList_append_g hgd s x _ ho 24 i0 .nilIface 1 16 Tryd.underlying34 hi hz0 hz1 hz2 rfl (by decide) v l.length vs hs h1 ⟨q, off, none⟩ m.length cap us hx (by omega) (fun j u hj => by have := ha j u hj; by_cases hj0 : j = 0 <;> simpa [Addr.add, hj0] using this) hu.cell1 (by unfold maxLen; omega) (by omega) ?_
    intro v' w' hown' hap
    have hold : ∀ k, v'.ownBlock = some k → g = some k ∨ w.heap.size ≤ k := fun k hk => by
      rcases hap.old k hk with h | h
      · exact .inl (by rw [← h3, h])
      · exact .inr h
    have hfr : Fr (LG g) w w' := hap.fr.mono fun k _ hk => by unfold LG; rw [← h3, hk]
    refine h v' w' v'.ownBlock ⟨vs ++ us, by simpa using hown', (VN.append h2 hu).keep hfr (fun _ _ x => x) (LG.late hold), rfl⟩ hfr hold

/-- What stands for the parts: none, one, or all. -/
def onlyOf (l : List Nd) (n : Nd) : Nd := match l with
  | [] => .empty
  | [x] => x
  | _ => n

set_option maxRecDepth 100000 in
set_option maxHeartbeats 1000000 in
theorem only_any (l : List Nd) (n : Nd) (u v : Value) (w : World) (hl : l.length ≤ 3000000) (hu : SN nob w l u) (hn : RN nob w n v) :
    Calls Tryd.prog 35 #[u, v] w fun e w' => ∃ r, e = .returned r ∧ RN nob w' (onlyOf l n) r ∧ w = w' := by
  have HN := Lib.hid hn; clear hn
  match l, hu with
  | [], hu =>
    obtain ⟨a, c, rfl⟩ := hu.shape
    clear hu
    go_enter Tryd.func35, Tryd.ntmps35
    go_wp2
    go_ret
    exact ⟨_, rfl, by unfold onlyOf; rw [RN]; rfl, rfl⟩
  | [x], hu =>
    obtain ⟨q, off, cap, y, he, hy, hc⟩ := hu.get (k := 0) (by simp)
    have he' : u = .slice (some ⟨q, off, none⟩) 1 cap := he
    have hc' : w.cell? ⟨q, off, none⟩ = some y := by simpa using hc
    have HY := Lib.hid hy; clear hu hy he hc
    subst he'
    go_enter Tryd.func35, Tryd.ntmps35
    go_wp2
    go_ret
    exact ⟨_, rfl, HY.out, rfl⟩
  | x :: y :: l, hu =>
    obtain ⟨a, c, rfl⟩ := hu.shape
    clear hu
    have h2 : ¬ (((x :: y :: l).length : Nat) : Int) = 0 := by simp; omega
    have h3 : ¬ (((x :: y :: l).length : Nat) : Int) = 1 := by simp; omega
    obtain ⟨k, hk⟩ : ∃ k, (x :: y :: l).length = k := ⟨_, rfl⟩
    rw [hk] at h2 h3 hl ⊢
    clear hk
    go_enter Tryd.func35, Tryd.ntmps35
    go_wp2
    go_ret
    exact ⟨_, rfl, HN.out, rfl⟩

end Go.Proofs.YtepeomphikhbkaaDoor
