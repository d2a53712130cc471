/-
  Type assertions at the nodes' types: what each answers.
-/
import Derived.Test.YtcmjgaadffffaaaTree
import Derived.Test.YtcmjgaadffffaaaChecked
namespace Go.Proofs.Ytcmjgaadffffaaa
open Go.RowKit

section
variable {P : Program}
theorem run_assert_hit {x a : TypeId} {fs : Array Field} (h : P.underlying a = some (.struct fs)) (v : Value) (w : World) :
    (Instr.typeAssert (.iface a v) x a true).run P w = .ok (.tuple #[v, .bool true]) w := by
  simp [Instr.typeAssert, run_underlying h]
theorem run_assert_miss {x a t : TypeId} {fs : Array Field} (h : P.underlying a = some (.struct fs)) {z : Value} (hz : ∀ w, (zeroValue a).run P w = .ok z w) (ht : t ≠ a) (v : Value) (w : World) :
    (Instr.typeAssert (.iface t v) x a true).run P w = .ok (.tuple #[z, .bool false]) w := by
  simp [Instr.typeAssert, run_underlying h, ht, hz]
theorem run_assert_nil {x a : TypeId} {fs : Array Field} (h : P.underlying a = some (.struct fs)) {z : Value} (hz : ∀ w, (zeroValue a).run P w = .ok z w) (w : World) :
    (Instr.typeAssert .nilIface x a true).run P w = .ok (.tuple #[z, .bool false]) w := by
  simp [Instr.typeAssert, run_underlying h, hz]
end

theorem as_hit_Empty (v : Value) (w : World) : (Instr.typeAssert (.iface 73 v) 37 73 true).run Try.prog w = .ok (.tuple #[v, .bool true]) w := run_assert_hit Try.underlying73 v w
theorem as_miss_Empty (t : TypeId) (v : Value) (w : World) (h : t ≠ 73) : (Instr.typeAssert (.iface t v) 37 73 true).run Try.prog w = .ok (.tuple #[.agg #[], .bool false]) w := run_assert_miss Try.underlying73 (fun _ => by kernel_rfl) h v w
theorem as_nil_Empty (w : World) : (Instr.typeAssert .nilIface 37 73 true).run Try.prog w = .ok (.tuple #[.agg #[], .bool false]) w := run_assert_nil Try.underlying73 (fun _ => by kernel_rfl) w
attribute [go_sem] as_hit_Empty as_miss_Empty as_nil_Empty
theorem as_hit_One (v : Value) (w : World) : (Instr.typeAssert (.iface 48 v) 37 48 true).run Try.prog w = .ok (.tuple #[v, .bool true]) w := run_assert_hit Try.underlying48 v w
theorem as_miss_One (t : TypeId) (v : Value) (w : World) (h : t ≠ 48) : (Instr.typeAssert (.iface t v) 37 48 true).run Try.prog w = .ok (.tuple #[.agg #[.int .u64 0, .int .u64 0, .int .u64 0, .int .u64 0], .bool false]) w := run_assert_miss Try.underlying48 (fun _ => by kernel_rfl) h v w
theorem as_nil_One (w : World) : (Instr.typeAssert .nilIface 37 48 true).run Try.prog w = .ok (.tuple #[.agg #[.int .u64 0, .int .u64 0, .int .u64 0, .int .u64 0], .bool false]) w := run_assert_nil Try.underlying48 (fun _ => by kernel_rfl) w
attribute [go_sem] as_hit_One as_miss_One as_nil_One
theorem as_hit_Cat (v : Value) (w : World) : (Instr.typeAssert (.iface 64 v) 37 64 true).run Try.prog w = .ok (.tuple #[v, .bool true]) w := run_assert_hit Try.underlying64 v w
theorem as_miss_Cat (t : TypeId) (v : Value) (w : World) (h : t ≠ 64) : (Instr.typeAssert (.iface t v) 37 64 true).run Try.prog w = .ok (.tuple #[.agg #[.slice none 0 0], .bool false]) w := run_assert_miss Try.underlying64 (fun _ => by kernel_rfl) h v w
theorem as_nil_Cat (w : World) : (Instr.typeAssert .nilIface 37 64 true).run Try.prog w = .ok (.tuple #[.agg #[.slice none 0 0], .bool false]) w := run_assert_nil Try.underlying64 (fun _ => by kernel_rfl) w
attribute [go_sem] as_hit_Cat as_miss_Cat as_nil_Cat
theorem as_hit_Alt (v : Value) (w : World) : (Instr.typeAssert (.iface 65 v) 37 65 true).run Try.prog w = .ok (.tuple #[v, .bool true]) w := run_assert_hit Try.underlying65 v w
theorem as_miss_Alt (t : TypeId) (v : Value) (w : World) (h : t ≠ 65) : (Instr.typeAssert (.iface t v) 37 65 true).run Try.prog w = .ok (.tuple #[.agg #[.slice none 0 0], .bool false]) w := run_assert_miss Try.underlying65 (fun _ => by kernel_rfl) h v w
theorem as_nil_Alt (w : World) : (Instr.typeAssert .nilIface 37 65 true).run Try.prog w = .ok (.tuple #[.agg #[.slice none 0 0], .bool false]) w := run_assert_nil Try.underlying65 (fun _ => by kernel_rfl) w
attribute [go_sem] as_hit_Alt as_miss_Alt as_nil_Alt
theorem as_hit_Rep (v : Value) (w : World) : (Instr.typeAssert (.iface 50 v) 37 50 true).run Try.prog w = .ok (.tuple #[v, .bool true]) w := run_assert_hit Try.underlying50 v w
theorem as_miss_Rep (t : TypeId) (v : Value) (w : World) (h : t ≠ 50) : (Instr.typeAssert (.iface t v) 37 50 true).run Try.prog w = .ok (.tuple #[.agg #[.nilIface, .int .i64 0, .int .i64 0], .bool false]) w := run_assert_miss Try.underlying50 (fun _ => by kernel_rfl) h v w
theorem as_nil_Rep (w : World) : (Instr.typeAssert .nilIface 37 50 true).run Try.prog w = .ok (.tuple #[.agg #[.nilIface, .int .i64 0, .int .i64 0], .bool false]) w := run_assert_nil Try.underlying50 (fun _ => by kernel_rfl) w
attribute [go_sem] as_hit_Rep as_miss_Rep as_nil_Rep
theorem as_hit_Group (v : Value) (w : World) : (Instr.typeAssert (.iface 67 v) 37 67 true).run Try.prog w = .ok (.tuple #[v, .bool true]) w := run_assert_hit Try.underlying67 v w
theorem as_miss_Group (t : TypeId) (v : Value) (w : World) (h : t ≠ 67) : (Instr.typeAssert (.iface t v) 37 67 true).run Try.prog w = .ok (.tuple #[.agg #[.int .i64 0, .nilIface], .bool false]) w := run_assert_miss Try.underlying67 (fun _ => by kernel_rfl) h v w
theorem as_nil_Group (w : World) : (Instr.typeAssert .nilIface 37 67 true).run Try.prog w = .ok (.tuple #[.agg #[.int .i64 0, .nilIface], .bool false]) w := run_assert_nil Try.underlying67 (fun _ => by kernel_rfl) w
attribute [go_sem] as_hit_Group as_miss_Group as_nil_Group
theorem as_hit_Back (v : Value) (w : World) : (Instr.typeAssert (.iface 69 v) 37 69 true).run Try.prog w = .ok (.tuple #[v, .bool true]) w := run_assert_hit Try.underlying69 v w
theorem as_miss_Back (t : TypeId) (v : Value) (w : World) (h : t ≠ 69) : (Instr.typeAssert (.iface t v) 37 69 true).run Try.prog w = .ok (.tuple #[.agg #[.int .i64 0], .bool false]) w := run_assert_miss Try.underlying69 (fun _ => by kernel_rfl) h v w
theorem as_nil_Back (w : World) : (Instr.typeAssert .nilIface 37 69 true).run Try.prog w = .ok (.tuple #[.agg #[.int .i64 0], .bool false]) w := run_assert_nil Try.underlying69 (fun _ => by kernel_rfl) w
attribute [go_sem] as_hit_Back as_miss_Back as_nil_Back
theorem as_hit_Start (v : Value) (w : World) : (Instr.typeAssert (.iface 71 v) 37 71 true).run Try.prog w = .ok (.tuple #[v, .bool true]) w := run_assert_hit Try.underlying71 v w
theorem as_miss_Start (t : TypeId) (v : Value) (w : World) (h : t ≠ 71) : (Instr.typeAssert (.iface t v) 37 71 true).run Try.prog w = .ok (.tuple #[.agg #[], .bool false]) w := run_assert_miss Try.underlying71 (fun _ => by kernel_rfl) h v w
theorem as_nil_Start (w : World) : (Instr.typeAssert .nilIface 37 71 true).run Try.prog w = .ok (.tuple #[.agg #[], .bool false]) w := run_assert_nil Try.underlying71 (fun _ => by kernel_rfl) w
attribute [go_sem] as_hit_Start as_miss_Start as_nil_Start
theorem as_hit_End (v : Value) (w : World) : (Instr.typeAssert (.iface 72 v) 37 72 true).run Try.prog w = .ok (.tuple #[v, .bool true]) w := run_assert_hit Try.underlying72 v w
theorem as_miss_End (t : TypeId) (v : Value) (w : World) (h : t ≠ 72) : (Instr.typeAssert (.iface t v) 37 72 true).run Try.prog w = .ok (.tuple #[.agg #[], .bool false]) w := run_assert_miss Try.underlying72 (fun _ => by kernel_rfl) h v w
theorem as_nil_End (w : World) : (Instr.typeAssert .nilIface 37 72 true).run Try.prog w = .ok (.tuple #[.agg #[], .bool false]) w := run_assert_nil Try.underlying72 (fun _ => by kernel_rfl) w
attribute [go_sem] as_hit_End as_miss_End as_nil_End

end Go.Proofs.Ytcmjgaadffffaaa
