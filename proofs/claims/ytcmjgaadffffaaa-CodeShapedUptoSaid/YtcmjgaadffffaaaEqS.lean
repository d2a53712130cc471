/-
  '==' of two sets, of two structs that hold one.
-/
import Derived.Test.YtcmjgaadffffaaaSets
import Derived.Test.YtcmjgaadffffaaaChecked
import Derived.Laws.StructEq
namespace Go.Proofs.Ytcmjgaadffffaaa
open Go.RowKit

theorem all_range_int : ∀ (xs ys : List Int), xs.length = ys.length → ((List.range xs.length).all fun i => xs.getD i 0 == ys.getD i 0) = (xs == ys)
  | [], [], _ => rfl
  | x :: xs, y :: ys, h => by
    have ih := all_range_int xs ys (by simpa using h)
    rw [List.length_cons, List.range_succ_eq_map, List.all_cons, List.all_map]
    simp only [List.getD_cons_zero, Function.comp_def, List.getD_cons_succ, ih]
    simp [List.cons_beq_cons]
  | [], _ :: _, h => by simp at h
  | _ :: _, [], h => by simp at h

theorem run_equalIn_iarr {P : Program} (w : World) (k : IntKind) (d : Nat) (t e : TypeId) (n : Nat) (ht : P.underlying t = some (.array n e)) (he : P.underlying e = some (.int k)) (hsz : ∀ w, (sizeOf e).run P w = .ok 1 w)
    (xs ys : List Int) (hx : xs.length = n) (hy : ys.length = n) :
    (Op.equalIn (d + 2) t (.agg (xs.map (Value.int k)).toArray) (.agg (ys.map (Value.int k)).toArray)).run P w = .ok (xs == ys) w := by
  rw [← all_range_int xs ys (hx.trans hy.symm), hx, List.range_eq_range', Op.equalIn]
  simp only [Sem.run_bind, run_underlying ht, Result.andThen_ok, hsz, Std.Legacy.Range.forIn_eq_forIn_range', Std.Legacy.Range.size, Nat.sub_zero, Nat.add_sub_cancel, Nat.div_one]
  have hl : ∀ i ∈ List.range' 0 n 1, i < n := fun i hi => by simpa using (List.mem_range'_1.1 hi).2
  generalize List.range' 0 n 1 = l at hl ⊢
  induction l with
  | nil => simp
  | cons i l ih =>
    have hi : i < n := hl i (by simp)
    have px : (part e (xs.map (Value.int k)).toArray (i * 1)).run P w = .ok (.int k (xs.getD i 0)) w := by
      simp [part, isAgg, run_underlying he, List.getD, List.getElem?_eq_getElem (show i < xs.length by omega)]
    have py : (part e (ys.map (Value.int k)).toArray (i * 1)).run P w = .ok (.int k (ys.getD i 0)) w := by
      simp [part, isAgg, run_underlying he, List.getD, List.getElem?_eq_getElem (show i < ys.length by omega)]
    have pe : (Op.equalIn (d + 1) e (.int k (xs.getD i 0)) (.int k (ys.getD i 0))).run P w = .ok (xs.getD i 0 == ys.getD i 0) w := by
      rw [run_equalIn_int w d e k k _ _ he]
    simp only [List.forIn_cons, Sem.run_bind, px, py, pe, Result.andThen_ok, List.all_cons]
    cases hb : (xs.getD i 0 == ys.getD i 0)
    · simp
    · simp only [Bool.not_true, Bool.false_eq_true, if_false, Sem.run_pure, Result.andThen_ok, Bool.true_and]
      exact ih fun j hj => hl j (by simp [hj])

/-- Are two sets the same? -/
def S4.same (s t : S4) : Bool := decide (s = t)
theorem S4.same_iff {s t : S4} : s.same t = true ↔ s = t := by simp [S4.same]
theorem S4.same_refl (s : S4) : s.same s = true := by simp [S4.same]
theorem S4.same_ne {s t : S4} (h : s ≠ t) : s.same t = false := by simp [S4.same, h]

theorem S4.eq_list (a b c d a' b' c' d' : Int) : ([a, b, c, d] == [a', b', c', d']) = S4.same ⟨a, b, c, d⟩ ⟨a', b', c', d'⟩ := by
  rw [Bool.eq_iff_iff, S4.same_iff]; simp

/-- Two sets. -/
theorem eq_set (a b c d a' b' c' d' : Int) (k : Nat) (w : World) : (Op.equalIn (k + 2) 41 (.agg #[.int .u64 a, .int .u64 b, .int .u64 c, .int .u64 d]) (.agg #[.int .u64 a', .int .u64 b', .int .u64 c', .int .u64 d'])).run Try.prog w = .ok (S4.same ⟨a, b, c, d⟩ ⟨a', b', c', d'⟩) w := by
  rw [← S4.eq_list]; exact run_equalIn_iarr w .u64 k 41 22 4 Try.underlying41 Try.underlying22 (fun _ => by kernel_rfl) [a, b, c, d] [a', b', c', d'] rfl rfl
theorem eq_setS (a b c d a' b' c' d' : Int) (k : Nat) (w : World) : (Op.equalIn (k + 2) 24 (.agg #[.int .u64 a, .int .u64 b, .int .u64 c, .int .u64 d]) (.agg #[.int .u64 a', .int .u64 b', .int .u64 c', .int .u64 d'])).run Try.prog w = .ok (S4.same ⟨a, b, c, d⟩ ⟨a', b', c', d'⟩) w := by
  rw [← S4.eq_list]; exact run_equalIn_iarr w .u64 k 24 22 4 Try.underlying24 Try.underlying22 (fun _ => by kernel_rfl) [a, b, c, d] [a', b', c', d'] rfl rfl
theorem eq_set_9999 (a b c d a' b' c' d' : Int) (w : World) : (Op.equalIn 9999 41 (.agg #[.int .u64 a, .int .u64 b, .int .u64 c, .int .u64 d]) (.agg #[.int .u64 a', .int .u64 b', .int .u64 c', .int .u64 d'])).run Try.prog w = .ok (S4.same ⟨a, b, c, d⟩ ⟨a', b', c', d'⟩) w := eq_set a b c d a' b' c' d' 9997 w
attribute [go_sem] eq_set_9999
theorem eq_set_10000 (a b c d a' b' c' d' : Int) (w : World) : (Op.equalIn 10000 41 (.agg #[.int .u64 a, .int .u64 b, .int .u64 c, .int .u64 d]) (.agg #[.int .u64 a', .int .u64 b', .int .u64 c', .int .u64 d'])).run Try.prog w = .ok (S4.same ⟨a, b, c, d⟩ ⟨a', b', c', d'⟩) w := eq_set a b c d a' b' c' d' 9998 w
attribute [go_sem] eq_set_10000
theorem eq_setS_9999 (a b c d a' b' c' d' : Int) (w : World) : (Op.equalIn 9999 24 (.agg #[.int .u64 a, .int .u64 b, .int .u64 c, .int .u64 d]) (.agg #[.int .u64 a', .int .u64 b', .int .u64 c', .int .u64 d'])).run Try.prog w = .ok (S4.same ⟨a, b, c, d⟩ ⟨a', b', c', d'⟩) w := eq_setS a b c d a' b' c' d' 9997 w
attribute [go_sem] eq_setS_9999
theorem eq_setS_10000 (a b c d a' b' c' d' : Int) (w : World) : (Op.equalIn 10000 24 (.agg #[.int .u64 a, .int .u64 b, .int .u64 c, .int .u64 d]) (.agg #[.int .u64 a', .int .u64 b', .int .u64 c', .int .u64 d'])).run Try.prog w = .ok (S4.same ⟨a, b, c, d⟩ ⟨a', b', c', d'⟩) w := eq_setS a b c d a' b' c' d' 9998 w
attribute [go_sem] eq_setS_10000

end Go.Proofs.Ytcmjgaadffffaaa
