/-
  Walks of the document's bracket expressions: item, behind a sign. Printed by tools/ref02b.py.
-/
import Derived.Test.YtmoiiidfhkfdgaaDoorBrkJ
namespace Go.Proofs.YtmoiiidfhkfdgaaDoor
open Go.RowKit

set_option maxRecDepth 100000 in
set_option maxHeartbeats 4000000 in
theorem ritem_58 (l : List UInt8) (a : Nat) (w : World) (hl : l.length ≤ 100000) (h2 : a + 1 < l.length) (h : l[a] = 91) (hk : l[a + 1] = 58) : RItem l a w := by
  have HEQ := Lib.hid (itm_kind h2 h hk (by rfl))
  obtain ⟨w0, hw0⟩ : ∃ w0, w0 = (w.alloc (.cells #[.int .u64 0, .int .u64 0, .int .u64 0, .int .u64 0] 29)).alloc (.cells #[.int .u64 0, .int .u64 0, .int .u64 0, .int .u64 0] 29) := ⟨_, rfl⟩
  have hz : w0.heap[w.heap.size]? = some (.cells #[.int .u64 0, .int .u64 0, .int .u64 0, .int .u64 0] 29 (0, 0)) := by rw [hw0]; exact heap_alloc_lt _ (newAt _ _)
  have hn : w0.heap[w.heap.size + 1]? = some (.cells #[.int .u64 0, .int .u64 0, .int .u64 0, .int .u64 0] 29 (0, 0)) := by
    rw [hw0]; have := newAt (w.alloc (.cells #[.int .u64 0, .int .u64 0, .int .u64 0, .int .u64 0] 29)) (.cells #[.int .u64 0, .int .u64 0, .int .u64 0, .int .u64 0] 29); simpa using this
  have f0 : Fr nob w w0 := by rw [hw0]; exact ((Fr.refl _ _).alloc _).alloc _
  have rz := rule4 hz
  have rn := rule4 hn
  have HZ := Lib.hid hz; have HN := Lib.hid hn; have F0 := Lib.hid f0; have HW := Lib.hid hw0
  clear hw0 hz hn f0
  obtain ⟨R, hR⟩ : ∃ R, itm l a = R := ⟨_, rfl⟩
  unfold RItem
  rw [hR]
  have HR := Lib.hid hR; clear hR
  have t1 : ¬ (l.length : Int) ≤ a := by omega
  have t1' : (a : Int) < l.length := by omega
  have t1'' : (0 : Int) ≤ a := by omega
  have t2 : (((l[a]).toNat : Int) != 91) = false := tn_eq h
  have t3 : ¬ (l.length : Int) ≤ (a : Int) + 1 := by omega
  have t3' : (a : Int) + 1 < l.length := by omega
  have tk : ((l[a + 1]).toNat : Int) = 58 := by rw [hk]; rfl
  clear h hk
  obtain ⟨E, hE⟩ : ∃ E, fnd l 58 (l.length + 1) (a + 2) = E := ⟨_, rfl⟩
  have HE := Lib.hid hE; clear hE
  go_enter Tryd.func20, Tryd.ntmps20
  iterate 27 go_step
  rw [← HW.out]
  go_wp2_with fail
  go_loopg [12] (l.length + 1) (fun n v wr => ∃ p : Nat, v = .int .i64 p ∧ a + 2 ≤ p ∧ p ≤ l.length + 1 ∧ l.length < n + p ∧ fnd l 58 n p = E ∧ w0 = wr)
  case atStart => exact ⟨a + 2, by go_num, by omega, by omega, by omega, HE.out, rfl⟩
  case round =>
    obtain ⟨p, rfl, hp, hp2, hpn, hf, rfl⟩ := hrel
    have hp0 : (a : Int) + 2 ≤ p := by omega
    by_cases hlt : p + 1 < l.length
    · obtain ⟨m, rfl⟩ : ∃ m, gk = m + 1 := ⟨gk - 1, by omega⟩
      have hltI : (p : Int) + 1 < l.length := by omega
      by_cases hm1 : l[p]'(by omega) = 58
      · have u1 : (((l[p]'(by omega)).toNat : Int) != 58) = false := tn_eq hm1
        have u1' : ((l[p]'(by omega)).toNat : Int) = 58 := by rw [hm1]; rfl
        by_cases hm2 : l[p + 1] = 93
        · have u2 : (((l[p + 1]).toNat : Int) != 93) = false := tn_eq hm2
          have hEE : fnd l 58 (l.length + 1) (a + 2) = some p := by
            rw [HE.out, ← hf, fnd, if_pos hlt, if_pos ⟨by rw [List.getElem?_eq_getElem (by omega), hm1], by rw [List.getElem?_eq_getElem hlt, hm2]⟩]
          have hsl := run_slice_bs (P := Tryd.prog) l (lo := (a : Int) + 2) (hi := (p : Int)) Tryd.underlying9 (by omega) (by omega) (by omega)
          rw [show ((a : Int) + 2).toNat = a + 2 by omega, show ((p : Int)).toNat = p by omega] at hsl
          obtain ⟨nm, hnm⟩ : ∃ nm, (l.drop (a + 2)).take (p - (a + 2)) = nm := ⟨_, rfl⟩
          rw [hnm] at hsl
          have hnmm : nam l a p = nm := hnm
          have hwr : IntKind.i64.wrap ((p : Int) + 2) = (p : Int) + 2 := IntWalk.i64_in _ (by omega)
          obtain ⟨o, ho⟩ : ∃ o, clsOf ⟨nm.toArray⟩ = o := ⟨_, rfl⟩
          have HC := Lib.hid (fun w => classR_lit ⟨nm.toArray⟩ o ho w)
          have HRV := Lib.hid (show itmN l a 58 = colIt' a p o by
            cases o with
            | none => exact itmN_clsno hEE (by rw [hnmm, ho])
            | some p0 => exact itmN_cls hEE (by rw [hnmm, ho]))
          clear hf hm1 hm2 hEE hnm hnmm ho
          go_wp2_with fail
          refine (HC.out w0).mono ?_
          obtain ⟨S, hS⟩ : ∃ S, clsSet o = S := ⟨_, rfl⟩
          rw [hS]
          have HS := Lib.hid hS; clear hS
          rintro e w2 ⟨rfl, f2⟩
          have hz2 := f2.heap HZ.out (fun x => x)
          have rz2 := rule4 hz2
          have rn2 := rule4 (f2.heap HN.out (fun x => x))
          have hs2 := rule4 (newAt w2 (.cells #[.int .u64 S.a, .int .u64 S.b, .int .u64 S.c, .int .u64 S.d] 29))
          have HZ2 := Lib.hid hz2; have F2 := Lib.hid (F0.out.trans' f2)
          clear hz2 f2
          cases o with
          | none =>
            have HZa := Lib.hid (((Fr.refl nob w2).alloc (.cells #[.int .u64 S.a, .int .u64 S.b, .int .u64 S.c, .int .u64 S.d] 29)).heap HZ2.out (fun x => x))
            have F2a := Lib.hid (F2.out.alloc (.cells #[.int .u64 S.a, .int .u64 S.b, .int .u64 S.c, .int .u64 S.d] 29))
            go_wp2
            (try simp only [Exit.inBlock, Exit.then])
            refine bodyPost_ret (results_set5 (s := S4.zero) (by rfl) (by rfl) (by rfl) (by rfl) (by rfl) (by rfl) (setFour_heap HZa.out _ _ _ _)) rfl ⟨?_, setFour_frS F2a.out (Nat.le_refl _) _ _ _ _⟩
            rw [← HR.out, HEQ.out, HRV.out]
            rfl
          | some p0 =>
            have HZa := Lib.hid (((Fr.refl nob w2).alloc (.cells #[.int .u64 S.a, .int .u64 S.b, .int .u64 S.c, .int .u64 S.d] 29)).heap HZ2.out (fun x => x))
            have F2a := Lib.hid (F2.out.alloc (.cells #[.int .u64 S.a, .int .u64 S.b, .int .u64 S.c, .int .u64 S.d] 29))
            go_wp2
            (try simp only [Exit.inBlock, Exit.then])
            refine bodyPost_ret (results_set5 (s := S) (by rfl) (by rfl) (by rfl) (by rfl) (by rfl) (by rfl) (setFour_heap HZa.out _ _ _ _)) rfl ⟨?_, setFour_frS F2a.out (Nat.le_refl _) _ _ _ _⟩
            rw [← HR.out, HEQ.out, HRV.out, ← HS.out]
            rfl
        · have u2 : (((l[p + 1]).toNat : Int) != 93) = true := tn_ne hm2
          have HF := Lib.hid (show fnd l 58 m (p + 1) = E by rw [← hf, fnd, if_pos hlt, if_neg (fun e => hm2 (by have := e.2; rw [List.getElem?_eq_getElem hlt] at this; exact Option.some.inj this))])
          clear hf hm1 hm2
          go_wp2
          go_roundg m
          case measure => omega
          case rel => exact ⟨p + 1, by go_num, by omega, by omega, by omega, HF.out, rfl⟩
      · have u1 : (((l[p]'(by omega)).toNat : Int) != 58) = true := tn_ne hm1
        have HF := Lib.hid (show fnd l 58 m (p + 1) = E by rw [← hf, fnd, if_pos hlt, if_neg (fun e => hm1 (by have := e.1; rw [List.getElem?_eq_getElem (by omega)] at this; exact Option.some.inj this))])
        clear hf hm1
        go_wp2
        go_roundg m
        case measure => omega
        case rel => exact ⟨p + 1, by go_num, by omega, by omega, by omega, HF.out, rfl⟩
    · have hlt' : ¬ (p : Int) + 1 < l.length := by omega
      have HRV := Lib.hid (show itmN l a 58 = .inl (5, l.length) from itmN_none (by
        rw [show a + 2 + skp 58 = a + 2 from rfl, HE.out, ← hf]
        cases gk with
        | zero => rfl
        | succ m => rw [fnd, if_neg hlt]))
      clear hf
      go_wp2
      (try simp only [Exit.inBlock, Exit.then])
      refine bodyPost_ret (results_set5 (s := S4.zero) (by rfl) (by rfl) (by rfl) (by rfl) (by rfl) (by rfl) (setFour_heap HZ.out _ _ _ _)) rfl ⟨?_, setFour_frS F0.out (Nat.le_refl _) _ _ _ _⟩
      rw [← HR.out, HEQ.out, HRV.out]
      rfl


set_option maxRecDepth 100000 in
set_option maxHeartbeats 4000000 in
theorem ritem_61 (l : List UInt8) (a : Nat) (w : World) (hl : l.length ≤ 100000) (h2 : a + 1 < l.length) (h : l[a] = 91) (hk : l[a + 1] = 61) : RItem l a w := by
  have HEQ := Lib.hid (itm_kind h2 h hk (by rfl))
  obtain ⟨w0, hw0⟩ : ∃ w0, w0 = (w.alloc (.cells #[.int .u64 0, .int .u64 0, .int .u64 0, .int .u64 0] 29)).alloc (.cells #[.int .u64 0, .int .u64 0, .int .u64 0, .int .u64 0] 29) := ⟨_, rfl⟩
  have hz : w0.heap[w.heap.size]? = some (.cells #[.int .u64 0, .int .u64 0, .int .u64 0, .int .u64 0] 29 (0, 0)) := by rw [hw0]; exact heap_alloc_lt _ (newAt _ _)
  have hn : w0.heap[w.heap.size + 1]? = some (.cells #[.int .u64 0, .int .u64 0, .int .u64 0, .int .u64 0] 29 (0, 0)) := by
    rw [hw0]; have := newAt (w.alloc (.cells #[.int .u64 0, .int .u64 0, .int .u64 0, .int .u64 0] 29)) (.cells #[.int .u64 0, .int .u64 0, .int .u64 0, .int .u64 0] 29); simpa using this
  have f0 : Fr nob w w0 := by rw [hw0]; exact ((Fr.refl _ _).alloc _).alloc _
  have rz := rule4 hz
  have rn := rule4 hn
  have HZ := Lib.hid hz; have HN := Lib.hid hn; have F0 := Lib.hid f0; have HW := Lib.hid hw0
  clear hw0 hz hn f0
  obtain ⟨R, hR⟩ : ∃ R, itm l a = R := ⟨_, rfl⟩
  unfold RItem
  rw [hR]
  have HR := Lib.hid hR; clear hR
  have t1 : ¬ (l.length : Int) ≤ a := by omega
  have t1' : (a : Int) < l.length := by omega
  have t1'' : (0 : Int) ≤ a := by omega
  have t2 : (((l[a]).toNat : Int) != 91) = false := tn_eq h
  have t3 : ¬ (l.length : Int) ≤ (a : Int) + 1 := by omega
  have t3' : (a : Int) + 1 < l.length := by omega
  have tk : ((l[a + 1]).toNat : Int) = 61 := by rw [hk]; rfl
  clear h hk
  obtain ⟨E, hE⟩ : ∃ E, fnd l 61 (l.length + 1) (a + 2 + 1) = E := ⟨_, rfl⟩
  have HE := Lib.hid hE; clear hE
  go_enter Tryd.func20, Tryd.ntmps20
  iterate 27 go_step
  rw [← HW.out]
  go_wp2_with fail
  go_loopg [12] (l.length + 1) (fun n v wr => ∃ p : Nat, v = .int .i64 p ∧ a + 2 + 1 ≤ p ∧ p ≤ l.length + 1 ∧ l.length < n + p ∧ fnd l 61 n p = E ∧ w0 = wr)
  case atStart => exact ⟨a + 2 + 1, by go_num, by omega, by omega, by omega, HE.out, rfl⟩
  case round =>
    obtain ⟨p, rfl, hp, hp2, hpn, hf, rfl⟩ := hrel
    have hp0 : (a : Int) + 2 ≤ p := by omega
    by_cases hlt : p + 1 < l.length
    · obtain ⟨m, rfl⟩ : ∃ m, gk = m + 1 := ⟨gk - 1, by omega⟩
      have hltI : (p : Int) + 1 < l.length := by omega
      by_cases hm1 : l[p]'(by omega) = 61
      · have u1 : (((l[p]'(by omega)).toNat : Int) != 61) = false := tn_eq hm1
        have u1' : ((l[p]'(by omega)).toNat : Int) = 61 := by rw [hm1]; rfl
        by_cases hm2 : l[p + 1] = 93
        · have u2 : (((l[p + 1]).toNat : Int) != 93) = false := tn_eq hm2
          have hEE : fnd l 61 (l.length + 1) (a + 2 + 1) = some p := by
            rw [HE.out, ← hf, fnd, if_pos hlt, if_pos ⟨by rw [List.getElem?_eq_getElem (by omega), hm1], by rw [List.getElem?_eq_getElem hlt, hm2]⟩]
          have hsl := run_slice_bs (P := Tryd.prog) l (lo := (a : Int) + 2) (hi := (p : Int)) Tryd.underlying9 (by omega) (by omega) (by omega)
          rw [show ((a : Int) + 2).toNat = a + 2 by omega, show ((p : Int)).toNat = p by omega] at hsl
          obtain ⟨nm, hnm⟩ : ∃ nm, (l.drop (a + 2)).take (p - (a + 2)) = nm := ⟨_, rfl⟩
          rw [hnm] at hsl
          have hnmm : nam l a p = nm := hnm
          have hwr : IntKind.i64.wrap ((p : Int) + 2) = (p : Int) + 2 := IntWalk.i64_in _ (by omega)
          by_cases hd : nm.length = 1
          · obtain ⟨c, rfl⟩ := List.length_eq_one_iff.1 hd
            have HRV := Lib.hid (itmN_one (by decide) hEE hnmm)
            clear hf hm1 hm2 hEE hnm hnmm hd
            have e1 : (((1 : Nat) : Int) != 1) = false := by simp
            obtain ⟨S, hS⟩ : ∃ S, spn c.toNat c.toNat = S := ⟨_, rfl⟩
            have HSP := Lib.hid (fun w' => (show _ from hS ▸ spanR_lit c.toNat c.toNat w' c.toNat_lt c.toNat_lt : Calls Tryd.prog 22 #[.int .u8 c.toNat, .int .u8 c.toNat] w' fun e w'' => e = .returned (setV S) ∧ Fr nob w' w''))
            have HS := Lib.hid hS; clear hS
            go_wp2_with fail
            go_region_held3 (fun w' => True) (trivial) (first | (go_at_call 22; (refine (HSP.out _).mono ?_); rintro e w2 ⟨rfl, f2⟩; have hz2 := f2.heap HZ.out (fun x => x); have rz2 := rule4 hz2; have HZ2 := Lib.hid hz2; have F2 := Lib.hid f2; clear hz2 f2))
            all_goals
              go_wp2
              (try simp only [Exit.inBlock, Exit.then])
              refine bodyPost_ret (results_set5 (s := S) (by rfl) (by rfl) (by rfl) (by rfl) (by rfl) (by rfl) (setFour_heap HZ2.out _ _ _ _)) rfl ⟨?_, setFour_frS (F0.out.drew.trans' F2.out) (Nat.le_refl _) _ _ _ _⟩
              rw [← HR.out, HEQ.out, HRV.out, ← HS.out]
              rfl
          · have HRV := Lib.hid (itmN_bad (by decide) hEE (by rw [hnmm]; exact hd))
            have e1 : ((nm.length : Int) != 1) = true := by simp; omega
            clear hf hm1 hm2 hEE hnm hnmm hd
            go_wp2
            (try simp only [Exit.inBlock, Exit.then])
            refine bodyPost_ret (results_set5 (s := S4.zero) (by rfl) (by rfl) (by rfl) (by rfl) (by rfl) (by rfl) (setFour_heap HZ.out _ _ _ _)) rfl ⟨?_, setFour_frS F0.out (Nat.le_refl _) _ _ _ _⟩
            rw [← HR.out, HEQ.out, HRV.out]
            rfl
        · have u2 : (((l[p + 1]).toNat : Int) != 93) = true := tn_ne hm2
          have HF := Lib.hid (show fnd l 61 m (p + 1) = E by rw [← hf, fnd, if_pos hlt, if_neg (fun e => hm2 (by have := e.2; rw [List.getElem?_eq_getElem hlt] at this; exact Option.some.inj this))])
          clear hf hm1 hm2
          go_wp2
          go_roundg m
          case measure => omega
          case rel => exact ⟨p + 1, by go_num, by omega, by omega, by omega, HF.out, rfl⟩
      · have u1 : (((l[p]'(by omega)).toNat : Int) != 61) = true := tn_ne hm1
        have HF := Lib.hid (show fnd l 61 m (p + 1) = E by rw [← hf, fnd, if_pos hlt, if_neg (fun e => hm1 (by have := e.1; rw [List.getElem?_eq_getElem (by omega)] at this; exact Option.some.inj this))])
        clear hf hm1
        go_wp2
        go_roundg m
        case measure => omega
        case rel => exact ⟨p + 1, by go_num, by omega, by omega, by omega, HF.out, rfl⟩
    · have hlt' : ¬ (p : Int) + 1 < l.length := by omega
      have HRV := Lib.hid (show itmN l a 61 = .inl (5, l.length) from itmN_none (by
        rw [show a + 2 + skp 61 = a + 2 + 1 from rfl, HE.out, ← hf]
        cases gk with
        | zero => rfl
        | succ m => rw [fnd, if_neg hlt]))
      clear hf
      go_wp2
      (try simp only [Exit.inBlock, Exit.then])
      refine bodyPost_ret (results_set5 (s := S4.zero) (by rfl) (by rfl) (by rfl) (by rfl) (by rfl) (by rfl) (setFour_heap HZ.out _ _ _ _)) rfl ⟨?_, setFour_frS F0.out (Nat.le_refl _) _ _ _ _⟩
      rw [← HR.out, HEQ.out, HRV.out]
      rfl


set_option maxRecDepth 100000 in
set_option maxHeartbeats 4000000 in
theorem ritem_46 (l : List UInt8) (a : Nat) (w : World) (hl : l.length ≤ 100000) (h2 : a + 1 < l.length) (h : l[a] = 91) (hk : l[a + 1] = 46) : RItem l a w := by
  have HEQ := Lib.hid (itm_kind h2 h hk (by rfl))
  obtain ⟨w0, hw0⟩ : ∃ w0, w0 = (w.alloc (.cells #[.int .u64 0, .int .u64 0, .int .u64 0, .int .u64 0] 29)).alloc (.cells #[.int .u64 0, .int .u64 0, .int .u64 0, .int .u64 0] 29) := ⟨_, rfl⟩
  have hz : w0.heap[w.heap.size]? = some (.cells #[.int .u64 0, .int .u64 0, .int .u64 0, .int .u64 0] 29 (0, 0)) := by rw [hw0]; exact heap_alloc_lt _ (newAt _ _)
  have hn : w0.heap[w.heap.size + 1]? = some (.cells #[.int .u64 0, .int .u64 0, .int .u64 0, .int .u64 0] 29 (0, 0)) := by
    rw [hw0]; have := newAt (w.alloc (.cells #[.int .u64 0, .int .u64 0, .int .u64 0, .int .u64 0] 29)) (.cells #[.int .u64 0, .int .u64 0, .int .u64 0, .int .u64 0] 29); simpa using this
  have f0 : Fr nob w w0 := by rw [hw0]; exact ((Fr.refl _ _).alloc _).alloc _
  have rz := rule4 hz
  have rn := rule4 hn
  have HZ := Lib.hid hz; have HN := Lib.hid hn; have F0 := Lib.hid f0; have HW := Lib.hid hw0
  clear hw0 hz hn f0
  obtain ⟨R, hR⟩ : ∃ R, itm l a = R := ⟨_, rfl⟩
  unfold RItem
  rw [hR]
  have HR := Lib.hid hR; clear hR
  have t1 : ¬ (l.length : Int) ≤ a := by omega
  have t1' : (a : Int) < l.length := by omega
  have t1'' : (0 : Int) ≤ a := by omega
  have t2 : (((l[a]).toNat : Int) != 91) = false := tn_eq h
  have t3 : ¬ (l.length : Int) ≤ (a : Int) + 1 := by omega
  have t3' : (a : Int) + 1 < l.length := by omega
  have tk : ((l[a + 1]).toNat : Int) = 46 := by rw [hk]; rfl
  clear h hk
  obtain ⟨E, hE⟩ : ∃ E, fnd l 46 (l.length + 1) (a + 2 + 1) = E := ⟨_, rfl⟩
  have HE := Lib.hid hE; clear hE
  go_enter Tryd.func20, Tryd.ntmps20
  iterate 27 go_step
  rw [← HW.out]
  go_wp2_with fail
  go_loopg [12] (l.length + 1) (fun n v wr => ∃ p : Nat, v = .int .i64 p ∧ a + 2 + 1 ≤ p ∧ p ≤ l.length + 1 ∧ l.length < n + p ∧ fnd l 46 n p = E ∧ w0 = wr)
  case atStart => exact ⟨a + 2 + 1, by go_num, by omega, by omega, by omega, HE.out, rfl⟩
  case round =>
    obtain ⟨p, rfl, hp, hp2, hpn, hf, rfl⟩ := hrel
    have hp0 : (a : Int) + 2 ≤ p := by omega
    by_cases hlt : p + 1 < l.length
    · obtain ⟨m, rfl⟩ : ∃ m, gk = m + 1 := ⟨gk - 1, by omega⟩
      have hltI : (p : Int) + 1 < l.length := by omega
      by_cases hm1 : l[p]'(by omega) = 46
      · have u1 : (((l[p]'(by omega)).toNat : Int) != 46) = false := tn_eq hm1
        have u1' : ((l[p]'(by omega)).toNat : Int) = 46 := by rw [hm1]; rfl
        by_cases hm2 : l[p + 1] = 93
        · have u2 : (((l[p + 1]).toNat : Int) != 93) = false := tn_eq hm2
          have hEE : fnd l 46 (l.length + 1) (a + 2 + 1) = some p := by
            rw [HE.out, ← hf, fnd, if_pos hlt, if_pos ⟨by rw [List.getElem?_eq_getElem (by omega), hm1], by rw [List.getElem?_eq_getElem hlt, hm2]⟩]
          have hsl := run_slice_bs (P := Tryd.prog) l (lo := (a : Int) + 2) (hi := (p : Int)) Tryd.underlying9 (by omega) (by omega) (by omega)
          rw [show ((a : Int) + 2).toNat = a + 2 by omega, show ((p : Int)).toNat = p by omega] at hsl
          obtain ⟨nm, hnm⟩ : ∃ nm, (l.drop (a + 2)).take (p - (a + 2)) = nm := ⟨_, rfl⟩
          rw [hnm] at hsl
          have hnmm : nam l a p = nm := hnm
          have hwr : IntKind.i64.wrap ((p : Int) + 2) = (p : Int) + 2 := IntWalk.i64_in _ (by omega)
          by_cases hd : nm.length = 1
          · obtain ⟨c, rfl⟩ := List.length_eq_one_iff.1 hd
            have HRV := Lib.hid (itmN_one (by decide) hEE hnmm)
            clear hf hm1 hm2 hEE hnm hnmm hd
            have e1 : (((1 : Nat) : Int) != 1) = false := by simp
            obtain ⟨S, hS⟩ : ∃ S, spn c.toNat c.toNat = S := ⟨_, rfl⟩
            have HSP := Lib.hid (fun w' => (show _ from hS ▸ spanR_lit c.toNat c.toNat w' c.toNat_lt c.toNat_lt : Calls Tryd.prog 22 #[.int .u8 c.toNat, .int .u8 c.toNat] w' fun e w'' => e = .returned (setV S) ∧ Fr nob w' w''))
            have HS := Lib.hid hS; clear hS
            go_wp2_with fail
            go_region_held3 (fun w' => True) (trivial) (first | (go_at_call 22; (refine (HSP.out _).mono ?_); rintro e w2 ⟨rfl, f2⟩; have hz2 := f2.heap HZ.out (fun x => x); have rz2 := rule4 hz2; have HZ2 := Lib.hid hz2; have F2 := Lib.hid f2; clear hz2 f2))
            all_goals
              go_wp2
              (try simp only [Exit.inBlock, Exit.then])
              refine bodyPost_ret (results_set5 (s := S) (by rfl) (by rfl) (by rfl) (by rfl) (by rfl) (by rfl) (setFour_heap HZ2.out _ _ _ _)) rfl ⟨?_, setFour_frS (F0.out.drew.trans' F2.out) (Nat.le_refl _) _ _ _ _⟩
              rw [← HR.out, HEQ.out, HRV.out, ← HS.out]
              rfl
          · have HRV := Lib.hid (itmN_bad (by decide) hEE (by rw [hnmm]; exact hd))
            have e1 : ((nm.length : Int) != 1) = true := by simp; omega
            clear hf hm1 hm2 hEE hnm hnmm hd
            go_wp2
            (try simp only [Exit.inBlock, Exit.then])
            refine bodyPost_ret (results_set5 (s := S4.zero) (by rfl) (by rfl) (by rfl) (by rfl) (by rfl) (by rfl) (setFour_heap HZ.out _ _ _ _)) rfl ⟨?_, setFour_frS F0.out (Nat.le_refl _) _ _ _ _⟩
            rw [← HR.out, HEQ.out, HRV.out]
            rfl
        · have u2 : (((l[p + 1]).toNat : Int) != 93) = true := tn_ne hm2
          have HF := Lib.hid (show fnd l 46 m (p + 1) = E by rw [← hf, fnd, if_pos hlt, if_neg (fun e => hm2 (by have := e.2; rw [List.getElem?_eq_getElem hlt] at this; exact Option.some.inj this))])
          clear hf hm1 hm2
          go_wp2
          go_roundg m
          case measure => omega
          case rel => exact ⟨p + 1, by go_num, by omega, by omega, by omega, HF.out, rfl⟩
      · have u1 : (((l[p]'(by omega)).toNat : Int) != 46) = true := tn_ne hm1
        have HF := Lib.hid (show fnd l 46 m (p + 1) = E by rw [← hf, fnd, if_pos hlt, if_neg (fun e => hm1 (by have := e.1; rw [List.getElem?_eq_getElem (by omega)] at this; exact Option.some.inj this))])
        clear hf hm1
        go_wp2
        go_roundg m
        case measure => omega
        case rel => exact ⟨p + 1, by go_num, by omega, by omega, by omega, HF.out, rfl⟩
    · have hlt' : ¬ (p : Int) + 1 < l.length := by omega
      have HRV := Lib.hid (show itmN l a 46 = .inl (5, l.length) from itmN_none (by
        rw [show a + 2 + skp 46 = a + 2 + 1 from rfl, HE.out, ← hf]
        cases gk with
        | zero => rfl
        | succ m => rw [fnd, if_neg hlt]))
      clear hf
      go_wp2
      (try simp only [Exit.inBlock, Exit.then])
      refine bodyPost_ret (results_set5 (s := S4.zero) (by rfl) (by rfl) (by rfl) (by rfl) (by rfl) (by rfl) (setFour_heap HZ.out _ _ _ _)) rfl ⟨?_, setFour_frS F0.out (Nat.le_refl _) _ _ _ _⟩
      rw [← HR.out, HEQ.out, HRV.out]
      rfl

end Go.Proofs.YtmoiiidfhkfdgaaDoor
