/-
  Walks of package bracket: named, behind [: .
-/
import Derived.Test.YtmoiiidfhkfdgaaDoorBrkB
namespace Go.Proofs.YtmoiiidfhkfdgaaDoor
open Go.RowKit

def colIt (a e : Nat) : Option (Int → Bool) → (Int × Nat) ⊕ It
  | none => .inl (6, a)
  | some p => .inr ⟨pk p 256, none, e + 2⟩

set_option maxRecDepth 100000 in
set_option maxHeartbeats 4000000 in
theorem named_col (b : Nat) (l : List UInt8) (a : Nat) (p : Int) (w : World) (hl : l.length ≤ 100000) (ha : a + 2 ≤ l.length) (hb : 2 ≤ b) (hE : Env w) (h : Rd w b l a 0 p) :
    Calls Tryd.prog 33 #[.pointer (some ⟨b, 0, none⟩), .int .u8 58] w (ItAns b l a p (itmN l a 58) w) := by
  obtain ⟨R, hR⟩ : ∃ R, itmN l a 58 = R := ⟨_, rfl⟩
  rw [hR]
  have HR := Lib.hid hR; clear hR
  have rr := rule4 h
  have hbw := lt_heap h
  have H := Lib.hid h; have HE := Lib.hid hE; clear h hE
  obtain ⟨w0, hw0⟩ : ∃ w0, w0 = (w.alloc (.cells #[.int .u64 0, .int .u64 0, .int .u64 0, .int .u64 0, .bool false] 57)).alloc (.cells #[.int .u8 58, .int .u8 93] 5) := ⟨_, rfl⟩
  have hz0 : w0.heap[w.heap.size]? = some (.cells #[.int .u64 0, .int .u64 0, .int .u64 0, .int .u64 0, .bool false] 57 (0, 0)) := by rw [hw0]; exact heap_alloc_lt _ (newAt _ _)
  have f0 : Fr nob w w0 := by rw [hw0]; exact ((Fr.refl _ _).alloc _).alloc _
  have hcv := run_conv_two (P := Tryd.prog) (src := 36) (dst := 9) (e := 5) Tryd.underlying36 Tryd.underlying5 Tryd.underlying9 58 93 (w.alloc (.cells #[.int .u64 0, .int .u64 0, .int .u64 0, .int .u64 0, .bool false] 57))
  rw [show ((93 : UInt8).toNat : Int) = 93 from rfl, show (w.alloc (.cells #[.int .u64 0, .int .u64 0, .int .u64 0, .int .u64 0, .bool false] 57)).heap.size = w.heap.size + 1 by simp] at hcv
  rw [show ((58 : UInt8).toNat : Int) = 58 from rfl] at hcv
  have HW0 := Lib.hid hw0; have HZ0 := Lib.hid hz0; have FW0 := Lib.hid f0; have HE0 := Lib.hid (HE.out.on f0)
  have rr0 := rule4 (f0.heap H.out (fun x => x))
  have hbw0 : b < w0.heap.size := Nat.lt_of_lt_of_le hbw f0.size
  clear hw0 hz0 f0
  have hal : (a : Int) + 2 ≤ l.length := by omega
  cases hf : fnd l 58 (l.length + 1) (a + 2) with
  | none =>
    have hix : Lib.index (l.drop (a + 2)) [58, 93] = -1 := by rw [idx_fnd _ _ _ (by omega), hf]
    have HRV := Lib.hid (itmN_none (l := l) (a := a) (k := 58) hf)
    clear hf
    have hS := fun w h => strIndex (l.drop (a + 2)) [58, 93] w (by simp; omega) h
    rw [hix] at hS
    have HS := Lib.hid hS; clear hS hix
    go_enter Tryd.func33, Tryd.ntmps33
    go_wp2_with fail
    rw [← HW0.out]
    clear hcv
    refine (HS.out _ HE0.out).mono ?_
    rintro e w1 ⟨rfl, rfl⟩
    go_wp2_with fail
    refine (fail_ok b l a p 5 l.length _ (H.out.on FW0.out)).mono ?_
    rintro e w2 ⟨rfl, h2, f2⟩
    have hz2 := f2.heap HZ0.out (fun e => by omega)
    have r2 := rule5 hz2
    have hlz := lt_heap hz2
    have HH := Lib.hid h2; have FF := Lib.hid f2; have HZ2 := Lib.hid hz2
    clear h2 f2 hz2
    go_wp2
    (try simp only [Exit.inBlock, Exit.then])
    refine bodyPost_ret (results_it (s := S4.zero) (e := false) rfl rfl (setFive_heap HZ2.out _ _ _ _ _)) rfl ⟨S4.zero, false, rfl, fit_zero, setFive_fr (FW0.out.any.trans FF.out (fun i hi e => e)) (Nat.le_refl _) _ _ _ _ _, ?_⟩
    rw [← HR.out, HRV.out]
    exact ⟨a, by omega, (by simp), setFive_old HH.out (by omega) _ _ _ _ _⟩
  | some e =>
    obtain ⟨h1, h2, h3, h4, h5⟩ := fnd_some hf
    obtain ⟨d, rfl⟩ : ∃ d, e = a + 2 + d := ⟨e - (a + 2), by omega⟩
    have hix : Lib.index (l.drop (a + 2)) [58, 93] = (d : Int) := by rw [idx_fnd _ _ _ (by omega), hf]; simp only; omega
    have hS := fun w h => strIndex (l.drop (a + 2)) [58, 93] w (by simp; omega) h
    rw [hix] at hS
    have HS := Lib.hid hS; clear hS hix
    have hdb : (a : Int) + 2 + d + 1 < l.length := by omega
    have hsl := run_slice_bs (P := Tryd.prog) l (lo := (a : Int) + 2) (hi := (a : Int) + 2 + d) Tryd.underlying9 (by omega) (by omega) (by omega)
    rw [show ((a : Int) + 2).toNat = a + 2 by omega, show ((a : Int) + 2 + d).toNat = a + 2 + d by omega] at hsl
    obtain ⟨nm, hnm⟩ : ∃ nm, (l.drop (a + 2)).take (a + 2 + d - (a + 2)) = nm := ⟨_, rfl⟩
    have hnl : nm.length = d := by rw [← hnm]; simp; omega
    rw [hnm] at hsl
    obtain ⟨o, ho⟩ : ∃ o, clsOf ⟨nm.toArray⟩ = o := ⟨_, rfl⟩
    have HRV := Lib.hid (show itmN l a 58 = colIt a (a + 2 + d) o by
      cases o with
      | none => exact itmN_clsno hf (by unfold nam; rw [hnm, ho])
      | some p => exact itmN_cls hf (by unfold nam; rw [hnm, ho]))
    have HC := Lib.hid (fun w => class_lit ⟨nm.toArray⟩ o ho w)
    clear hf h3 h4 h5 hnm ho
    obtain ⟨w1, hw1⟩ : ∃ w1, w1 = w0.setCell ⟨b, 1, none⟩ (.int .i64 ((a : Int) + 2 + d + 2)) := ⟨_, rfl⟩
    have H1 := Lib.hid (show Rd w1 b l ((a + 2 + d + 2 : Nat) : Int) 0 p by
      rw [hw1, show ((a + 2 + d + 2 : Nat) : Int) = (a : Int) + 2 + d + 2 by omega]; exact heap_setCell_at (FW0.out.heap H.out (fun x => x)) 1 _)
    have HZ1 := Lib.hid (show w1.heap[w.heap.size]? = some (.cells #[.int .u64 0, .int .u64 0, .int .u64 0, .int .u64 0, .bool false] 57 (0, 0)) by
      rw [hw1]; exact heap_setCell_ne HZ0.out (by simp only; omega) _)
    have FW1 := Lib.hid (show Fr (fun k => k = b) w w1 by rw [hw1]; exact Fr.setCell (S := fun k => k = b) (p := ⟨b, 1, none⟩) FW0.out.any (fun _ => rfl) _)
    have HW1 := Lib.hid hw1; clear hw1
    go_enter Tryd.func33, Tryd.ntmps33
    go_wp2_with fail
    rw [← HW0.out]
    clear hcv
    refine (HS.out _ HE0.out).mono ?_
    rintro e w1' ⟨rfl, rfl⟩
    go_wp2_with fail
    rw [← HW1.out]
    refine (HC.out w1).mono ?_
    obtain ⟨S, hS⟩ : ∃ S, clsSet o = S := ⟨_, rfl⟩
    have hfit : S.fit := by rw [← hS]; exact fit_clsSet _
    rw [hS]
    rintro e w2 ⟨rfl, f2⟩
    have hz2 := f2.heap HZ1.out (fun x => x)
    have hr2 := H1.out.on f2
    have hlr2 := lt_heap hr2
    have hlz := lt_heap hz2
    have FF := Lib.hid (FW1.out.trans f2 (fun i hi e => e.elim)); have HZ2 := Lib.hid hz2; have HR2 := Lib.hid hr2; have HS2 := Lib.hid hS
    clear hz2 hr2 hS f2
    cases o with
    | none =>
      go_wp2_with fail
      refine (fail_ok b l _ p 6 a _ (HR2.out.on ((Fr.refl _ _).alloc _))).mono ?_
      rintro e w3 ⟨rfl, h3, f3⟩
      have hz3 := f3.heap (((Fr.refl nob w2).alloc _).heap HZ2.out (fun x => x)) (fun e => by omega)
      have r3 := rule5 hz3
      have hn3 := rule4 (f3.heap (newAt w2 (.cells #[.int .u64 S.a, .int .u64 S.b, .int .u64 S.c, .int .u64 S.d] 25)) (fun e => by omega))
      have HH := Lib.hid h3; have F3 := Lib.hid f3; have HZ3 := Lib.hid hz3
      clear h3 f3 hz3
      go_wp2
      (try simp only [Exit.inBlock, Exit.then])
      refine bodyPost_ret (results_it (s := S) (e := false) rfl rfl (setFive_heap HZ3.out _ _ _ _ _)) rfl ⟨S, false, rfl, hfit, setFive_fr ((FF.out.alloc _).trans F3.out (fun i hi e => e)) (Nat.le_refl _) _ _ _ _ _, ?_⟩
      rw [← HR.out, HRV.out]
      exact ⟨a + 2 + d + 2, by omega, (by simp), setFive_old HH.out (by omega) _ _ _ _ _⟩
    | some p0 =>
      have r3 := rule5 HZ2.out
      have hn3 := rule4 (newAt w2 (.cells #[.int .u64 S.a, .int .u64 S.b, .int .u64 S.c, .int .u64 S.d] 25))
      go_wp2
      (try simp only [Exit.inBlock, Exit.then])
      refine bodyPost_ret (results_it (s := S) (e := false) rfl rfl (((Fr.refl nob _).alloc _).heap (setFive_heap HZ2.out _ _ _ _ _) (fun x => x))) rfl ⟨S, false, rfl, hfit, (setFive_fr FF.out (Nat.le_refl _) _ _ _ _ _).alloc _, ?_⟩
      rw [← HR.out, HRV.out]
      exact ⟨HS2.out.symm, rfl, ((Fr.refl nob _).alloc _).heap (setFive_old HR2.out (by omega) _ _ _ _ _) (fun x => x)⟩

end Go.Proofs.YtmoiiidfhkfdgaaDoor
