/-
  Walks of package bracket: named, behind [= and [..
-/
import Derived.Test.YtmoiiidfhkfdgaaDoorBrkB
namespace Go.Proofs.YtmoiiidfhkfdgaaDoor
open Go.RowKit

set_option maxRecDepth 100000 in
set_option maxHeartbeats 4000000 in
theorem named_oth (b : Nat) (l : List UInt8) (a : Nat) (k : UInt8) (p : Int) (w : World) (hl : l.length ≤ 100000) (ha : a + 2 ≤ l.length) (hb : 2 ≤ b) (hE : Env w) (h : Rd w b l a 0 p) (h58 : k ≠ 58) :
    Calls Tryd.prog 33 #[.pointer (some ⟨b, 0, none⟩), .int .u8 (k.toNat : Int)] w (ItAns b l a p (itmN l a k) w) := by
  obtain ⟨R, hR⟩ : ∃ R, itmN l a k = R := ⟨_, rfl⟩
  rw [hR]
  have HR := Lib.hid hR; clear hR
  have rr := rule4 h
  have hbw := lt_heap h
  have H := Lib.hid h; have HE := Lib.hid hE; clear h hE
  have t1 : ((k.toNat : Int) == 58) = false := by simp; intro h; exact h58 (UInt8.toNat_inj.1 (by simp; omega))
  have hkb := toNat_bd k
  obtain ⟨w0, hw0⟩ : ∃ w0, w0 = (w.alloc (.cells #[.int .u64 0, .int .u64 0, .int .u64 0, .int .u64 0, .bool false] 57)).alloc (.cells #[.int .u8 (k.toNat : Int), .int .u8 93] 5) := ⟨_, rfl⟩
  have hz0 : w0.heap[w.heap.size]? = some (.cells #[.int .u64 0, .int .u64 0, .int .u64 0, .int .u64 0, .bool false] 57 (0, 0)) := by rw [hw0]; exact heap_alloc_lt _ (newAt _ _)
  have f0 : Fr nob w w0 := by rw [hw0]; exact ((Fr.refl _ _).alloc _).alloc _
  have hcv := run_conv_two (P := Tryd.prog) (src := 36) (dst := 9) (e := 5) Tryd.underlying36 Tryd.underlying5 Tryd.underlying9 k 93 (w.alloc (.cells #[.int .u64 0, .int .u64 0, .int .u64 0, .int .u64 0, .bool false] 57))
  rw [show ((93 : UInt8).toNat : Int) = 93 from rfl, show (w.alloc (.cells #[.int .u64 0, .int .u64 0, .int .u64 0, .int .u64 0, .bool false] 57)).heap.size = w.heap.size + 1 by simp] at hcv
  have HW0 := Lib.hid hw0; have HZ0 := Lib.hid hz0; have FW0 := Lib.hid f0; have HE0 := Lib.hid (HE.out.on f0)
  have rr0 := rule4 (f0.heap H.out (fun x => x))
  have hbw0 : b < w0.heap.size := Nat.lt_of_lt_of_le hbw f0.size
  clear hw0 hz0 f0
  by_cases hlong : l.length < a + 3
  · have HRV := Lib.hid (show itmN l a k = .inl (5, l.length) by
      have : fnd l k (l.length + 1) (a + 2 + skp k) = none := by
        rw [fnd, if_neg (by unfold skp; rw [if_neg h58]; omega)]
      unfold itmN; rw [this])
    go_enter Tryd.func33, Tryd.ntmps33
    go_wp2_with fail
    rw [← HW0.out]
    clear hcv
    refine (fail_ok b l a p 5 l.length _ (H.out.on FW0.out)).mono ?_
    rintro e w2 ⟨rfl, h2, f2⟩
    have hz2 := f2.heap HZ0.out (fun e => by omega)
    have r2 := rule5 hz2
    have hlz := lt_heap hz2
    have HH := Lib.hid h2; have FF := Lib.hid f2; have HZ2 := Lib.hid hz2
    clear h2 f2 hz2
    go_wp2
    (try simp only [Exit.inBlock, Exit.then])
    refine bodyPost_ret (results_it (s := S4.zero) (e := false) rfl rfl (setFive_heap HZ2.out _ _ _ _ _)) rfl ⟨S4.zero, false, rfl, fit_zero, setFive_fr (FW0.out.any.trans FF.out (fun i hi e => e)) (Nat.le_refl _) _ _ _ _ _, ?_⟩
    rw [← HR.out, HRV.out]
    exact ⟨a, by omega, (by simp), setFive_old HH.out (by omega) _ _ _ _ _⟩
  · have hal : (a : Int) + 2 + 1 ≤ l.length := by omega
    cases hf : fnd l k (l.length + 1) (a + 2 + 1) with
    | none =>
      have hix : Lib.index (l.drop (a + 2 + 1)) [k, 93] = -1 := by rw [idx_fnd _ _ _ (by omega), hf]
      have HRV := Lib.hid (show itmN l a k = .inl (5, l.length) by unfold itmN skp; rw [if_neg h58, hf])
      clear hf
      have hS := fun w h => strIndex (l.drop (a + 2 + 1)) [k, 93] w (by simp; omega) h
      rw [hix] at hS
      have HS := Lib.hid hS; clear hS hix
      go_enter Tryd.func33, Tryd.ntmps33
      go_wp2_with fail
      rw [← HW0.out]
      clear hcv
      refine (HS.out _ HE0.out).mono ?_
      rintro e w1 ⟨rfl, rfl⟩
      go_wp2_with fail
      refine (fail_ok b l a p 5 l.length _ (H.out.on FW0.out)).mono ?_
      rintro e w2 ⟨rfl, h2, f2⟩
      have hz2 := f2.heap HZ0.out (fun e => by omega)
      have r2 := rule5 hz2
      have hlz := lt_heap hz2
      have HH := Lib.hid h2; have FF := Lib.hid f2; have HZ2 := Lib.hid hz2
      clear h2 f2 hz2
      go_wp2
      (try simp only [Exit.inBlock, Exit.then])
      refine bodyPost_ret (results_it (s := S4.zero) (e := false) rfl rfl (setFive_heap HZ2.out _ _ _ _ _)) rfl ⟨S4.zero, false, rfl, fit_zero, setFive_fr (FW0.out.any.trans FF.out (fun i hi e => e)) (Nat.le_refl _) _ _ _ _ _, ?_⟩
      rw [← HR.out, HRV.out]
      exact ⟨a, by omega, (by simp), setFive_old HH.out (by omega) _ _ _ _ _⟩
    | some e =>
      obtain ⟨h1, h2, h3, h4, h5⟩ := fnd_some hf
      obtain ⟨d, rfl⟩ : ∃ d, e = a + 2 + 1 + d := ⟨e - (a + 2 + 1), by omega⟩
      have hix : Lib.index (l.drop (a + 2 + 1)) [k, 93] = (d : Int) := by rw [idx_fnd _ _ _ (by omega), hf]; simp only; omega
      have hS := fun w h => strIndex (l.drop (a + 2 + 1)) [k, 93] w (by simp; omega) h
      rw [hix] at hS
      have HS := Lib.hid hS; clear hS hix
      have hdb : (a : Int) + 2 + 1 + d + 1 < l.length := by omega
      have hsl := run_slice_bs (P := Tryd.prog) l (lo := (a : Int) + 2) (hi := (a : Int) + 2 + 1 + d) Tryd.underlying9 (by omega) (by omega) (by omega)
      rw [show ((a : Int) + 2).toNat = a + 2 by omega, show ((a : Int) + 2 + 1 + d).toNat = a + 2 + 1 + d by omega] at hsl
      obtain ⟨nm, hnm⟩ : ∃ nm, (l.drop (a + 2)).take (a + 2 + 1 + d - (a + 2)) = nm := ⟨_, rfl⟩
      have hnl : nm.length = 1 + d := by rw [← hnm]; simp; omega
      rw [hnm] at hsl
      have HNM := Lib.hid hnm
      have HRA := Lib.hid (show ∀ c, nm = [c] → itmN l a k = .inr ⟨spn c.toNat c.toNat, if k = 46 then some c else none, a + 2 + 1 + d + 2⟩ from fun c hc => itmN_one h58 hf (by unfold nam; rw [hnm, hc]))
      have HRB := Lib.hid (show nm.length ≠ 1 → itmN l a k = .inl (6, a) from fun hc => itmN_bad h58 hf (by unfold nam; rw [hnm]; exact hc))
      clear hf h3 h4 h5 hnm
      obtain ⟨w1, hw1⟩ : ∃ w1, w1 = w0.setCell ⟨b, 1, none⟩ (.int .i64 ((a : Int) + 2 + (1 + d) + 2)) := ⟨_, rfl⟩
      have hs1 : w1.heap.size = w0.heap.size := by rw [hw1]; simp
      have H1 := Lib.hid (show Rd w1 b l ((a + 2 + 1 + d + 2 : Nat) : Int) 0 p by
        rw [hw1, show ((a + 2 + 1 + d + 2 : Nat) : Int) = (a : Int) + 2 + (1 + d) + 2 by omega]; exact heap_setCell_at (FW0.out.heap H.out (fun x => x)) 1 _)
      have HZ1 := Lib.hid (show w1.heap[w.heap.size]? = some (.cells #[.int .u64 0, .int .u64 0, .int .u64 0, .int .u64 0, .bool false] 57 (0, 0)) by
        rw [hw1]; exact heap_setCell_ne HZ0.out (by simp only; omega) _)
      have FW1 := Lib.hid (show Fr (fun k => k = b) w w1 by rw [hw1]; exact Fr.setCell (S := fun k => k = b) (p := ⟨b, 1, none⟩) FW0.out.any (fun _ => rfl) _)
      have HW1 := Lib.hid hw1; clear hw1
      by_cases hd : d = 0
      · have td : ((1 : Int) + d == 1) = true := by simp; omega
        have td2 : ((1 : Int) + d != 1) = false := by simp; omega
        have HD := Lib.hid hd; clear hd
        go_enter Tryd.func33, Tryd.ntmps33
        go_wp2_with fail
        rw [← HW0.out]
        clear hcv
        refine (HS.out _ HE0.out).mono ?_
        rintro e w1 ⟨rfl, rfl⟩
        go_wp2_with fail
        obtain ⟨c, rfl⟩ := List.length_eq_one_iff.1 (show nm.length = 1 by have := HD.out; omega)
        rw [← HW1.out, ← hs1]
        have ho := dot_some k c
        refine (of_one c w1 _).mono ?_
        have hHRA := HRA.out c rfl
        obtain ⟨S, hS⟩ : ∃ S, spn c.toNat c.toNat = S := ⟨_, rfl⟩
        have hfit : S.fit := by rw [← hS]; exact fit_spn _ _
        rw [hS] at hHRA ⊢
        rintro e w2 ⟨rfl, f2⟩
        have f12 : Fr nob w1 w2 := ((Fr.refl _ _).alloc _).trans' f2
        have hz2 := f12.heap HZ1.out (fun x => x)
        have hr2 := H1.out.on f12
        have r2 := rule5 hz2
        have hlz := lt_heap hz2
        have FF := Lib.hid (FW1.out.trans f12 (fun i hi e => e.elim)); have HZ2 := Lib.hid hz2; have HR2 := Lib.hid hr2; have HRV := Lib.hid hHRA; have HO := Lib.hid ho
        clear hz2 hr2 hS hHRA f2 f12 ho
        go_wp2
        (try simp only [Exit.inBlock, Exit.then])
        refine bodyPost_ret (results_it (s := S) (e := (k.toNat : Int) == 46) rfl rfl (setFive_heap HZ2.out _ _ _ _ _)) rfl ⟨S, _, rfl, hfit, setFive_fr FF.out (Nat.le_refl _) _ _ _ _ _, ?_⟩
        rw [← HR.out, HRV.out]
        exact ⟨rfl, HO.out, setFive_old HR2.out (by omega) _ _ _ _ _⟩
      · have td : ((1 : Int) + d == 1) = false := by simp; omega
        have td2 : ((1 : Int) + d != 1) = true := by simp; omega
        go_enter Tryd.func33, Tryd.ntmps33
        go_wp2_with fail
        rw [← HW0.out]
        clear hcv
        refine (HS.out _ HE0.out).mono ?_
        rintro e w1 ⟨rfl, rfl⟩
        go_wp2_with fail
        rw [← HW1.out]
        refine (fail_ok b l _ p 6 a _ H1.out).mono ?_
        rintro e w2 ⟨rfl, h2, f2⟩
        have hz2 := f2.heap HZ1.out (fun e => by omega)
        have r2 := rule5 hz2
        have hlz := lt_heap hz2
        have HH := Lib.hid h2; have FF := Lib.hid f2; have HZ2 := Lib.hid hz2
        have HRV := Lib.hid (HRB.out (by omega))
        clear h2 f2 hz2
        go_wp2
        (try simp only [Exit.inBlock, Exit.then])
        refine bodyPost_ret (results_it (s := S4.zero) (e := false) rfl rfl (setFive_heap HZ2.out _ _ _ _ _)) rfl ⟨S4.zero, false, rfl, fit_zero, setFive_fr (FW1.out.trans FF.out (fun i hi e => e)) (Nat.le_refl _) _ _ _ _ _, ?_⟩
        rw [← HR.out, HRV.out]
        exact ⟨a + 2 + 1 + d + 2, by omega, (by simp), setFive_old HH.out (by omega) _ _ _ _ _⟩

end Go.Proofs.YtmoiiidfhkfdgaaDoor
