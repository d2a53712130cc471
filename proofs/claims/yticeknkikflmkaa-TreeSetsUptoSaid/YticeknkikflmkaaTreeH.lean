/-
  Walk of the statements' fixed fact: awake is true.
-/
import Derived.Test.YticeknkikflmkaaTreeG
namespace Go.Proofs.Yticeknkikflmkaa
open Go.RowKit

theorem At.new {b : Nat} (w : World) (cs : Array Value) (T : TypeId) (hb : b = w.heap.size) : At (w.alloc (.cells cs T)) b 0 cs.toList := by
  subst hb
  intro j v hj
  exact cell_at (heap_alloc_new w _) (by simpa using hj)

set_option maxRecDepth 100000 in
set_option maxHeartbeats 1000000 in
theorem awake_any (w : World) : Calls Try.prog 8 #[] w fun e w' => e = .returned (.bool true) ∧ Fr nob w w' := by
  go_enter Try.func8, Try.ntmps8
  go_wp2_with fail
  refine (of_any [97] _ _ (by simp) (.inr ⟨w.heap.size, 0, 1, rfl, by simp, ?_⟩)).mono ?_
  · intro j x hj
    match j, hj with
    | 0, hj => simp at hj; subst hj; simp
  obtain ⟨s, hs⟩ : ∃ s, S4.zero.puts [97] = s := ⟨_, rfl⟩
  rw [hs, S4.cells_eq]
  rintro e w1 ⟨rfl, f1⟩
  clear hs
  have F1 := Lib.hid f1; clear f1
  go_wp2_with fail
  refine (join_any [.one s, .empty, .cat [.one s, .start]] _ _ (by simp [Nd.sizes, Nd.size]) ?_).mono ?_
  · refine .inr ⟨w1.heap.size + 2, 0, 3, rfl, by simp, RNs.of (vs := [_, _, _]) (fun x => x) (by simp) ⟨_, _, rfl, rfl, ⟨_, _, rfl, rfl, ⟨_, _, rfl, RN_cat.2 ⟨_, rfl, .inr ⟨w1.heap.size + 1, 0, 2, rfl, by simp, RNs.of (vs := [_, _]) (fun x => x) (by simp) ⟨_, _, rfl, rfl, ⟨_, _, rfl, rfl, rfl⟩⟩ ?_⟩⟩, rfl⟩⟩⟩ ?_⟩
    · exact At.fr (w := (w1.alloc _).alloc _) (At.new _ _ _ (by simp)) ((Fr.refl nob _).alloc _) (fun x => x)
    · exact At.new _ _ _ (by simp)
  rintro e w2 ⟨r, rfl, hr, f2⟩
  have F2 := Lib.hid f2; clear f2
  have hj : joined [.one s, .empty, .cat [.one s, .start]] = .cat [.one s, .one s, .start] := rfl
  rw [hj] at hr
  obtain ⟨a, c, rfl, hsn⟩ := hr.kind
  have HSN := Lib.hid hsn; have HR := Lib.hid hr; clear hsn hr hj
  go_wp2_with fail
  refine (size_any 4 (.cat [.one s, .one s, .start]) _ _ (by simp [Nd.sizes, Nd.size]) (by simp [Nd.sizes, Nd.size]) (HR.out.on ((Fr.refl _ _).alloc _))).mono ?_
  have hz : (Nd.cat [.one s, .one s, .start]).size = 4 := rfl
  rw [hz]
  rintro e w3 ⟨rfl, f3⟩
  have d3 : w3.cell? ⟨w2.heap.size, 0, none⟩ = some (.slice a 3 c) := f3.cell (cell_at (heap_alloc_new w2 _) rfl) (fun x => x)
  have F3 := Lib.hid f3; clear f3
  go_wp2_with fail
  refine (right_of (.cat [.one s, .one s, .start]) _ _ (by simp [Nd.sizes, Nd.size]) (HR.out.on (((Fr.refl _ _).alloc _).trans' F3.out))).mono ?_
  have hz2 : (Nd.cat [.one s, .one s, .start]).right = true := rfl
  rw [hz2]
  rintro e w4 ⟨rfl, f4⟩
  have F4 := Lib.hid f4; clear f4
  go_wp2
  go_ret
  exact ⟨rfl, ((((((((Fr.refl nob w).alloc _).trans' F1.out).alloc _).alloc _).alloc _).trans' F2.out).alloc _).trans' (F3.out.trans' F4.out)⟩

end Go.Proofs.Yticeknkikflmkaa
