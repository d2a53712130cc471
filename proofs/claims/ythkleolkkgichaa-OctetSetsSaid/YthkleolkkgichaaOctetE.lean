/-
  Walks: Len of the document; Span of both sides.
-/
import Derived.Test.YthkleolkkgichaaCount
namespace Go.Proofs.Ythkleolkkgichaa
open Go.RowKit

theorem C4s {w : World} {b : Nat} {s : S4} {T : TypeId} (h : w.heap[b]? = some (.cells s.cells.toArray T (0, 0))) (w' : World) (f : Fr nob w w') :
    w'.cell? ⟨b, 0, none⟩ = some (.int .u64 s.a) ∧ w'.cell? ⟨b, 1, none⟩ = some (.int .u64 s.b) ∧ w'.cell? ⟨b, 2, none⟩ = some (.int .u64 s.c) ∧ w'.cell? ⟨b, 3, none⟩ = some (.int .u64 s.d) := by
  obtain ⟨c0, c1, c2, c3, _⟩ := cellS (f.heap h (fun x => x))
  exact ⟨c0, c1, c2, c3⟩

set_option maxRecDepth 100000 in
set_option maxHeartbeats 1000000 in
theorem lenR_any (s : S4) (w : World) (hs : s.fit) :
    Calls Try.prog 26 #[.agg s.cells.toArray] w fun e w' => e = .returned (.int .i64 s.len) ∧ Fr nob w w' := by
  have HS := Lib.hid hs
  have HB := Lib.hid (heap_alloc_new w (.cells s.cells.toArray 28))
  have HCNT := Lib.hid (cnt_set hs)
  clear hs
  rw [S4.cells_eq]
  go_enter Try.func26, Try.ntmps26
  go_wp2_with fail
  go_loopw [3, 5] (fun n i wr => ∃ k : Nat, i = .int .i64 k ∧ k ≤ 256 ∧ n = .int .i64 (cntTo s.has k : Nat) ∧ Fr nob (w.alloc (.cells s.cells.toArray 28)) wr) (fun _ i _ => 256 - (intOf i).toNat)
  case atStart => exact ⟨0, rfl, by omega, rfl, Fr.refl _ _⟩
  case round =>
    obtain ⟨k, rfl, hk, rfl, fr⟩ := hrel
    obtain ⟨c0, c1, c2, c3⟩ := C4s HB.out wr fr
    have FR := Lib.hid fr; clear fr
    have hle := cntTo_le s.has k
    have hce := Lib.hid (show cntTo s.has (k + 1) = cntTo s.has k + (if s.has k = true then 1 else 0) from rfl)
    obtain ⟨c, hc⟩ : ∃ c, cntTo s.has k = c := ⟨_, rfl⟩
    rw [hc] at hle hce ⊢
    have HC := Lib.hid hc; clear hc
    by_cases hlt : k < 256
    · have wk : IntKind.u8.wrap (k : Int) = (k : Int) := IntWalk.u8_in _ (by omega)
      go_wp2_with fail
      refine (hasR_any s k _ HS.out hlt).mono ?_
      obtain ⟨p, hp⟩ : ∃ p, s.has k = p := ⟨_, rfl⟩
      rw [hp] at hce ⊢
      rintro e w2 ⟨rfl, f2⟩
      have F2 := Lib.hid f2; clear f2 hp
      cases p with
      | true =>
        have HN := Lib.hid (show cntTo s.has (k + 1) = c + 1 from hce.out)
        go_wp2
        go_roundw
        case rel => exact ⟨k + 1, by go_num, by omega, by rw [HN.out]; go_num, FR.out.trans' F2.out⟩
        case measure => simp [intOf]; omega
      | false =>
        have HN := Lib.hid (show cntTo s.has (k + 1) = c from hce.out)
        go_wp2
        go_roundw
        case rel => exact ⟨k + 1, by go_num, by omega, by rw [HN.out], FR.out.trans' F2.out⟩
        case measure => simp [intOf]; omega
    · obtain rfl : k = 256 := by omega
      have HE := Lib.hid (show s.len = c by rw [← HCNT.out, HC.out])
      go_wp2
      go_ret
      exact ⟨ret_int (by rw [HE.out]), ((Fr.refl _ _).alloc _).trans' FR.out⟩

end Go.Proofs.Ythkleolkkgichaa
