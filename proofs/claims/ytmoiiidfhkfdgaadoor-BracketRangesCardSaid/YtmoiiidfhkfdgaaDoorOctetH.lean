/-
  Walks: pick, the set of the signs that a predicate takes.
-/
import Derived.Test.YtmoiiidfhkfdgaaDoorOctetG
namespace Go.Proofs.YtmoiiidfhkfdgaaDoor
open Go.RowKit

/-- The set of the signs below k that p takes. -/
def pk (p : Int → Bool) : Nat → S4
  | 0 => S4.zero
  | k + 1 => if p k then (pk p k).put k else pk p k

set_option maxRecDepth 100000 in
set_option maxHeartbeats 1000000 in
theorem pick_any (f : FuncId) (p : Int → Bool) (w : World) (hn : IsFn f) (hf : IsRune f p) :
    Calls Tryd.prog 43 #[.func (.func f) #[] #[]] w fun e w' => e = .returned (.agg (pk p 256).cells.toArray) ∧ Fr nob w w' := by
  go_enter Tryd.func43, Tryd.ntmps43
  go_wp2_with fail
  obtain ⟨w0, hw0⟩ : ∃ w0, w0 = ((w.alloc (.cells S4.zero.cells.toArray 25)).alloc (.cells S4.zero.cells.toArray 25)) := ⟨_, rfl⟩
  have f0 : Fr nob w w0 := by rw [hw0]; exact ((Fr.refl _ _).alloc _).alloc _
  have hr0 : w0.heap[w.heap.size]? = some (.cells S4.zero.cells.toArray 25 (0, 0)) := by rw [hw0]; exact heap_alloc_lt _ (heap_alloc_new _ _)
  have hb0 : w0.heap[w.heap.size + 1]? = some (.cells S4.zero.cells.toArray 25 (0, 0)) := by
    rw [hw0]; have := heap_alloc_new (w.alloc (.cells S4.zero.cells.toArray 25)) (.cells S4.zero.cells.toArray 25); simpa using this
  change Code.wp _ _ _ _ ((w.alloc (.cells S4.zero.cells.toArray 25)).alloc (.cells S4.zero.cells.toArray 25))
  rw [← hw0]
  have F0 := Lib.hid f0; have HR0 := Lib.hid hr0; have HB0 := Lib.hid hb0; clear f0 hr0 hb0 hw0
  go_loopw [5] (fun i wr => ∃ k : Nat, i = .int .i32 k ∧ k ≤ 256 ∧ wr.heap[w.heap.size + 1]? = some (.cells (pk p k).cells.toArray 25 (0, 0)) ∧ Fr (fun k => k = w.heap.size + 1) w0 wr) (fun i _ => 256 - (intOf i).toNat)
  case atStart => exact ⟨0, rfl, Nat.zero_le _, HB0.out, Fr.refl _ _⟩
  case round =>
    obtain ⟨k, rfl, hk, hb, fr⟩ := hrel
    have HB := Lib.hid hb; have FR := Lib.hid fr; clear hb fr
    have FW := Lib.hid (F0.out.trans FR.out (fun i hi x => by omega))
    by_cases hlt : k < 256
    · cases hp : p k with
      | true =>
        have hpt := Lib.hid (show pk p (k + 1) = (pk p k).put k by simp [pk, hp])
        have HP := Lib.hid hp; clear hp
        go_wp2_with fail
        rw [hn]
        refine (hf k _).mono ?_
        rw [HP.out]
        rintro e w3 ⟨rfl, rfl⟩
        go_wp2_with fail
        refine (add_any (w.heap.size + 1) _ k _ hlt HB.out).mono ?_
        rintro e w3 ⟨rfl, h3, f3⟩
        have H3 := Lib.hid h3; have F3 := Lib.hid f3; clear h3 f3
        go_wp2
        go_roundw
        case rel => exact ⟨k + 1, by go_num, by omega, by rw [hpt.out]; exact H3.out, FR.out.trans' F3.out⟩
        case measure => simp [intOf]; omega
      | false =>
        have hpt := Lib.hid (show pk p (k + 1) = pk p k by simp [pk, hp])
        have HP := Lib.hid hp; clear hp
        go_wp2_with fail
        rw [hn]
        refine (hf k _).mono ?_
        rw [HP.out]
        rintro e w3 ⟨rfl, rfl⟩
        go_wp2
        go_roundw
        case rel => exact ⟨k + 1, by go_num, by omega, by rw [hpt.out]; exact HB.out, FR.out⟩
        case measure => simp [intOf]; omega
    · obtain rfl : k = 256 := by omega
      have hb := HB.out
      obtain ⟨c0, c1, c2, c3, _⟩ := cellS hb
      have hr := FR.out.heap HR0.out (fun e => by omega)
      obtain ⟨_, _, _, _, f0, f1, f2, f3⟩ := cellS hr
      have hlr := lt_heap hr; have hlb := lt_heap hb
      have HBB := Lib.hid hb; have HRR := Lib.hid hr; clear hb hr
      go_wp2
      (try simp only [Exit.inBlock, Exit.then])
      have hW := heap_setCell_at (heap_setCell_at (heap_setCell_at (heap_setCell_at HRR.out 0 (.int .u64 (pk p 256).a)) 1 (.int .u64 (pk p 256).b)) 2 (.int .u64 (pk p 256).c)) 3 (.int .u64 (pk p 256).d)
      refine bodyPost_ret (results_set (s := pk p 256) rfl rfl hW) rfl ⟨rfl, ?_⟩
      exact (((FW.out.setCell (p := ⟨w.heap.size, 0, none⟩) (fun h => absurd h (Nat.lt_irrefl _)) _).setCell (p := ⟨w.heap.size, 1, none⟩) (fun h => absurd h (Nat.lt_irrefl _)) _).setCell (p := ⟨w.heap.size, 2, none⟩) (fun h => absurd h (Nat.lt_irrefl _)) _).setCell (p := ⟨w.heap.size, 3, none⟩) (fun h => absurd h (Nat.lt_irrefl _)) _

end Go.Proofs.YtmoiiidfhkfdgaaDoor
