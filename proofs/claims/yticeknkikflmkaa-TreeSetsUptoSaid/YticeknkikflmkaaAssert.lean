/-
  Type assertions at the nodes' types: what each answers.
-/
import Derived.Test.YticeknkikflmkaaTree
import Derived.Test.YticeknkikflmkaaChecked
namespace Go.Proofs.Yticeknkikflmkaa
open Go.RowKit

section
variable {P : Program}
theorem run_assert_hit {x a : TypeId} {fs : Array Field} (h : P.underlying a = some (.struct fs)) (v : Value) (w : World) :
    (Instr.typeAssert (.iface a v) x a true).run P w = .ok (.tuple #[v, .bool true]) w := by
  simp [Instr.typeAssert, run_underlying h]
theorem run_assert_miss {x a t : TypeId} {fs : Array Field} (h : P.underlying a = some (.struct fs)) {z : Value} (hz : ∀ w, (zeroValue a).run P w = .ok z w) (ht : t ≠ a) (v : Value) (w : World) :
    (Instr.typeAssert (.iface t v) x a true).run P w = .ok (.tuple #[z, .bool false]) w := by
  simp [Instr.typeAssert, run_underlying h, ht, hz]
theorem run_assert_nil {x a : TypeId} {fs : Array Field} (h : P.underlying a = some (.struct fs)) {z : Value} (hz : ∀ w, (zeroValue a).run P w = .ok z w) (w : World) :
    (Instr.typeAssert .nilIface x a true).run P w = .ok (.tuple #[z, .bool false]) w := by
  simp [Instr.typeAssert, run_underlying h, hz]
end

theorem as_hit_Empty (v : Value) (w : World) : (Instr.typeAssert (.iface 49 v) 31 49 true).run Try.prog w = .ok (.tuple #[v, .bool true]) w := run_assert_hit Try.underlying49 v w
theorem as_miss_Empty (t : TypeId) (v : Value) (w : World) (h : t ≠ 49) : (Instr.typeAssert (.iface t v) 31 49 true).run Try.prog w = .ok (.tuple #[.agg #[], .bool false]) w := run_assert_miss Try.underlying49 (fun _ => by kernel_rfl) h v w
theorem as_nil_Empty (w : World) : (Instr.typeAssert .nilIface 31 49 true).run Try.prog w = .ok (.tuple #[.agg #[], .bool false]) w := run_assert_nil Try.underlying49 (fun _ => by kernel_rfl) w
attribute [go_sem] as_hit_Empty as_miss_Empty as_nil_Empty
theorem as_hit_One (v : Value) (w : World) : (Instr.typeAssert (.iface 53 v) 31 53 true).run Try.prog w = .ok (.tuple #[v, .bool true]) w := run_assert_hit Try.underlying53 v w
theorem as_miss_One (t : TypeId) (v : Value) (w : World) (h : t ≠ 53) : (Instr.typeAssert (.iface t v) 31 53 true).run Try.prog w = .ok (.tuple #[.agg #[.int .u64 0, .int .u64 0, .int .u64 0, .int .u64 0], .bool false]) w := run_assert_miss Try.underlying53 (fun _ => by kernel_rfl) h v w
theorem as_nil_One (w : World) : (Instr.typeAssert .nilIface 31 53 true).run Try.prog w = .ok (.tuple #[.agg #[.int .u64 0, .int .u64 0, .int .u64 0, .int .u64 0], .bool false]) w := run_assert_nil Try.underlying53 (fun _ => by kernel_rfl) w
attribute [go_sem] as_hit_One as_miss_One as_nil_One
theorem as_hit_Cat (v : Value) (w : World) : (Instr.typeAssert (.iface 55 v) 31 55 true).run Try.prog w = .ok (.tuple #[v, .bool true]) w := run_assert_hit Try.underlying55 v w
theorem as_miss_Cat (t : TypeId) (v : Value) (w : World) (h : t ≠ 55) : (Instr.typeAssert (.iface t v) 31 55 true).run Try.prog w = .ok (.tuple #[.agg #[.slice none 0 0], .bool false]) w := run_assert_miss Try.underlying55 (fun _ => by kernel_rfl) h v w
theorem as_nil_Cat (w : World) : (Instr.typeAssert .nilIface 31 55 true).run Try.prog w = .ok (.tuple #[.agg #[.slice none 0 0], .bool false]) w := run_assert_nil Try.underlying55 (fun _ => by kernel_rfl) w
attribute [go_sem] as_hit_Cat as_miss_Cat as_nil_Cat
theorem as_hit_Alt (v : Value) (w : World) : (Instr.typeAssert (.iface 59 v) 31 59 true).run Try.prog w = .ok (.tuple #[v, .bool true]) w := run_assert_hit Try.underlying59 v w
theorem as_miss_Alt (t : TypeId) (v : Value) (w : World) (h : t ≠ 59) : (Instr.typeAssert (.iface t v) 31 59 true).run Try.prog w = .ok (.tuple #[.agg #[.slice none 0 0], .bool false]) w := run_assert_miss Try.underlying59 (fun _ => by kernel_rfl) h v w
theorem as_nil_Alt (w : World) : (Instr.typeAssert .nilIface 31 59 true).run Try.prog w = .ok (.tuple #[.agg #[.slice none 0 0], .bool false]) w := run_assert_nil Try.underlying59 (fun _ => by kernel_rfl) w
attribute [go_sem] as_hit_Alt as_miss_Alt as_nil_Alt
theorem as_hit_Rep (v : Value) (w : World) : (Instr.typeAssert (.iface 61 v) 31 61 true).run Try.prog w = .ok (.tuple #[v, .bool true]) w := run_assert_hit Try.underlying61 v w
theorem as_miss_Rep (t : TypeId) (v : Value) (w : World) (h : t ≠ 61) : (Instr.typeAssert (.iface t v) 31 61 true).run Try.prog w = .ok (.tuple #[.agg #[.nilIface, .int .i64 0, .int .i64 0], .bool false]) w := run_assert_miss Try.underlying61 (fun _ => by kernel_rfl) h v w
theorem as_nil_Rep (w : World) : (Instr.typeAssert .nilIface 31 61 true).run Try.prog w = .ok (.tuple #[.agg #[.nilIface, .int .i64 0, .int .i64 0], .bool false]) w := run_assert_nil Try.underlying61 (fun _ => by kernel_rfl) w
attribute [go_sem] as_hit_Rep as_miss_Rep as_nil_Rep
theorem as_hit_Group (v : Value) (w : World) : (Instr.typeAssert (.iface 63 v) 31 63 true).run Try.prog w = .ok (.tuple #[v, .bool true]) w := run_assert_hit Try.underlying63 v w
theorem as_miss_Group (t : TypeId) (v : Value) (w : World) (h : t ≠ 63) : (Instr.typeAssert (.iface t v) 31 63 true).run Try.prog w = .ok (.tuple #[.agg #[.int .i64 0, .nilIface], .bool false]) w := run_assert_miss Try.underlying63 (fun _ => by kernel_rfl) h v w
theorem as_nil_Group (w : World) : (Instr.typeAssert .nilIface 31 63 true).run Try.prog w = .ok (.tuple #[.agg #[.int .i64 0, .nilIface], .bool false]) w := run_assert_nil Try.underlying63 (fun _ => by kernel_rfl) w
attribute [go_sem] as_hit_Group as_miss_Group as_nil_Group
theorem as_hit_Back (v : Value) (w : World) : (Instr.typeAssert (.iface 65 v) 31 65 true).run Try.prog w = .ok (.tuple #[v, .bool true]) w := run_assert_hit Try.underlying65 v w
theorem as_miss_Back (t : TypeId) (v : Value) (w : World) (h : t ≠ 65) : (Instr.typeAssert (.iface t v) 31 65 true).run Try.prog w = .ok (.tuple #[.agg #[.int .i64 0], .bool false]) w := run_assert_miss Try.underlying65 (fun _ => by kernel_rfl) h v w
theorem as_nil_Back (w : World) : (Instr.typeAssert .nilIface 31 65 true).run Try.prog w = .ok (.tuple #[.agg #[.int .i64 0], .bool false]) w := run_assert_nil Try.underlying65 (fun _ => by kernel_rfl) w
attribute [go_sem] as_hit_Back as_miss_Back as_nil_Back
theorem as_hit_Start (v : Value) (w : World) : (Instr.typeAssert (.iface 57 v) 31 57 true).run Try.prog w = .ok (.tuple #[v, .bool true]) w := run_assert_hit Try.underlying57 v w
theorem as_miss_Start (t : TypeId) (v : Value) (w : World) (h : t ≠ 57) : (Instr.typeAssert (.iface t v) 31 57 true).run Try.prog w = .ok (.tuple #[.agg #[], .bool false]) w := run_assert_miss Try.underlying57 (fun _ => by kernel_rfl) h v w
theorem as_nil_Start (w : World) : (Instr.typeAssert .nilIface 31 57 true).run Try.prog w = .ok (.tuple #[.agg #[], .bool false]) w := run_assert_nil Try.underlying57 (fun _ => by kernel_rfl) w
attribute [go_sem] as_hit_Start as_miss_Start as_nil_Start
theorem as_hit_End (v : Value) (w : World) : (Instr.typeAssert (.iface 66 v) 31 66 true).run Try.prog w = .ok (.tuple #[v, .bool true]) w := run_assert_hit Try.underlying66 v w
theorem as_miss_End (t : TypeId) (v : Value) (w : World) (h : t ≠ 66) : (Instr.typeAssert (.iface t v) 31 66 true).run Try.prog w = .ok (.tuple #[.agg #[], .bool false]) w := run_assert_miss Try.underlying66 (fun _ => by kernel_rfl) h v w
theorem as_nil_End (w : World) : (Instr.typeAssert .nilIface 31 66 true).run Try.prog w = .ok (.tuple #[.agg #[], .bool false]) w := run_assert_nil Try.underlying66 (fun _ => by kernel_rfl) w
attribute [go_sem] as_hit_End as_miss_End as_nil_End

end Go.Proofs.Yticeknkikflmkaa
