/-
  Merged texts of this claim: BrkN.
-/
import Derived.Test.YtepeomphikhbkaaGreatDoorM15

/-
  Walks of the document's Parse. Printed by tools/rparse02.py.
-/
namespace Go.Proofs.YtepeomphikhbkaaGreatDoor
open Go.RowKit

set_option maxRecDepth 100000 in
set_option maxHeartbeats 8000000 in
theorem rparse_yes (l : List UInt8) (a : Nat) (w : World) (hl : l.length ≤ 100000) (ha : a ≤ l.length) (h94 : l[a]? = some 94) :
    Calls Tryz.prog 92 #[.string ⟨l.toArray⟩, .int .i64 a] w (PAns (prs l a) w) := by
  obtain ⟨w0, hw0⟩ : ∃ w0, w0 = ((w.alloc (.cells #[.int .u64 0, .int .u64 0, .int .u64 0, .int .u64 0] 31)).alloc (.cells #[.int .u64 0, .int .u64 0, .int .u64 0, .int .u64 0] 31)).alloc (.cells #[.int .u64 0, .int .u64 0, .int .u64 0, .int .u64 0] 31) := ⟨_, rfl⟩
  have h4 : AtR w0 w.heap.size S4.zero := by rw [hw0]; exact heap_alloc_lt _ (heap_alloc_lt _ (newAt _ _))
  have h7 : AtR w0 (w.heap.size + 1) S4.zero := (show w0.heap[w.heap.size + 1]? = some (.cells #[.int .u64 0, .int .u64 0, .int .u64 0, .int .u64 0] 31 (0, 0)) by rw [hw0]; have := newAt (w.alloc (.cells #[.int .u64 0, .int .u64 0, .int .u64 0, .int .u64 0] 31)) (.cells #[.int .u64 0, .int .u64 0, .int .u64 0, .int .u64 0] 31); exact heap_alloc_lt _ (by simpa using this))
  have h8 : AtR w0 (w.heap.size + 2) S4.zero := (show w0.heap[w.heap.size + 2]? = some (.cells #[.int .u64 0, .int .u64 0, .int .u64 0, .int .u64 0] 31 (0, 0)) by rw [hw0]; have := newAt ((w.alloc (.cells #[.int .u64 0, .int .u64 0, .int .u64 0, .int .u64 0] 31)).alloc (.cells #[.int .u64 0, .int .u64 0, .int .u64 0, .int .u64 0] 31)) (.cells #[.int .u64 0, .int .u64 0, .int .u64 0, .int .u64 0] 31); simpa using this)
  have F0 := Lib.hid (show Fr nob w w0 by rw [hw0]; exact (((Fr.refl _ _).alloc _).alloc _).alloc _)
  have H4 := Lib.hid h4; have H7 := Lib.hid h7; have H8 := Lib.hid h8; have HW := Lib.hid hw0
  clear hw0 h4 h7 h8
  have t0 : ¬ (a : Int) < 0 := by omega
  have t0' : ¬ (l.length : Int) < a := by omega
  obtain ⟨F, hF⟩ : ∃ F, lopF l (l.length + 1) (prt l (a + 1)) = F := ⟨_, rfl⟩
  have HP := Lib.hid (show prs l a = prsNot true F by rw [← hF]; exact prs_yes (pre1.2 h94))
  obtain ⟨R, hR⟩ : ∃ R, prs l a = R := ⟨_, rfl⟩
  rw [hR]
  have HR := Lib.hid hR; have HF := Lib.hid hF; clear hR hF
  have hlt := (List.getElem?_eq_some_iff.1 h94).1
  have t1 : (a : Int) < l.length := by omega
  have t2 : (((l[a]).toNat : Int) == 94) = true := tb_eq (List.getElem?_eq_some_iff.1 h94).2
  clear h94
  go_enter Tryz.func92, Tryz.ntmps92
  iterate 26 go_step
  rw [← HW.out]
  go_wp2_with fail
  go_loopg [1, 10] (l.length + 2) (fun n v1 v10 wr => RInv l w F n v1 v10 wr)
  case atStart => exact ⟨a + 1, S4.zero, true, by go_num, rfl, H7.out, H4.out, H8.out, F0.out, fit_zero, hlt, by omega, by unfold RS; exact ⟨rfl, rfl, HF.out⟩⟩
  case round =>
    obtain ⟨k, acc, fst, rfl, rfl, h7, h4, h8, hfr, hfit, hk, hng, hrs⟩ := hrel
    obtain ⟨m, rfl⟩ : ∃ m, gk = m + 1 := ⟨gk - 1, by omega⟩
    have rz4 := rule4 (show wr.heap[w.heap.size]? = some (.cells #[.int .u64 0, .int .u64 0, .int .u64 0, .int .u64 0] 31 (0, 0)) from h4)
    have rz7 := rule4 h7
    have rz8 := rule4 (show wr.heap[w.heap.size + 1 + 1]? = some (.cells #[.int .u64 0, .int .u64 0, .int .u64 0, .int .u64 0] 31 (0, 0)) from h8)
    have H4 := Lib.hid h4; have H7 := Lib.hid h7; have H8 := Lib.hid h8; have FR := Lib.hid hfr; have FIT := Lib.hid hfit; have RSS := Lib.hid hrs
    clear h4 h7 h8 hfr hfit hrs
    have hk0 : (0 : Int) ≤ k := by omega
    have hkl : (k : Int) ≤ l.length := by omega
    have hwr : IntKind.i64.wrap ((k : Int) + 1) = (k : Int) + 1 := IntWalk.i64_in _ (by omega)
    by_cases hst : fst = false ∧ l[k]? = some 93
    · obtain ⟨rfl, h93⟩ := hst
      have HFE := Lib.hid (RSS.out.halt h93)
      have hlk := (List.getElem?_eq_some_iff.1 h93).1
      have u1 : ¬ (l.length : Int) ≤ k := by omega
      have u1' : (k : Int) < l.length := by omega
      have u2 : (((l[k]).toNat : Int) != 93) = false := tn_eq (List.getElem?_eq_some_iff.1 h93).2
      clear h93
      go_wp2_with fail
      refine (notR_lit acc wr).mono ?_
      obtain ⟨N, hN⟩ : ∃ N, acc.not = N := ⟨_, rfl⟩
      rw [hN]
      have HN := Lib.hid hN; clear hN
      rintro e w5 ⟨rfl, f5⟩
      obtain ⟨w7, hw7⟩ : ∃ w7, w7 = (((w5.setCell ⟨w.heap.size + 1, 0, none⟩ (.int .u64 N.a)).setCell ⟨w.heap.size + 1, 1, none⟩ (.int .u64 N.b)).setCell ⟨w.heap.size + 1, 2, none⟩ (.int .u64 N.c)).setCell ⟨w.heap.size + 1, 3, none⟩ (.int .u64 N.d) := ⟨_, rfl⟩
      have h77 : AtR w7 (w.heap.size + 1) N := by rw [hw7]; exact setFour_heap (f5.heap H7.out (fun x => x)) _ _ _ _
      have h47 : AtR w7 w.heap.size S4.zero := by rw [hw7]; exact setFour_old (f5.heap H4.out (fun x => x)) (by omega) _ _ _ _
      have FR7 := Lib.hid (show Fr nob w w7 by rw [hw7]; exact setFour_frS (FR.out.trans' f5) (by omega) _ _ _ _)
      have rn5 := rule4 (f5.heap H7.out (fun x => x))
      have H47 := Lib.hid h47; have HW7 := Lib.hid hw7
      have rz47 := rule4 (show w7.heap[w.heap.size]? = some (.cells #[.int .u64 0, .int .u64 0, .int .u64 0, .int .u64 0] 31 (0, 0)) from h47)
      have rz77 := rule4 h77
      clear hw7 h77 h47
      go_wp2_with fail
      rw [← HW7.out]
      go_wp2
      (try simp only [Exit.inBlock, Exit.then])
      refine bodyPost_ret (results_setR3 (s := N) (by rfl) (by rfl) (by rfl) (by rfl) (setFour_heap H47.out _ _ _ _)) rfl ⟨?_, setFour_frS FR7.out (Nat.le_refl _) _ _ _ _⟩
      rw [← HR.out, HP.out, HFE.out, ← HN.out]
      rfl
    · have hgo := RSS.out.go (by cases fst with | true => exact .inl rfl | false => exact .inr (fun e => hst ⟨rfl, e⟩))
      have HGO := Lib.hid hgo; clear hgo
      have HLN := Lib.hid (lopN_go (l := l) (n := m) (a := k) (s := acc) (by omega))
      have hcond : fst = true ∨ (fst = false ∧ l.length ≤ k) ∨ (fst = false ∧ ∃ h : k < l.length, l[k] ≠ 93) := by
        cases fst with
        | true => exact .inl rfl
        | false =>
          by_cases hkk : l.length ≤ k
          · exact .inr (.inl ⟨rfl, hkk⟩)
          · exact .inr (.inr ⟨rfl, by omega, fun e => hst ⟨rfl, by rw [List.getElem?_eq_getElem (by omega), e]⟩⟩)
      clear hst
      go_step
      go_cut [] (fun w' => wr = w')
      case first =>
        rcases hcond with rfl | ⟨rfl, hge⟩ | ⟨rfl, hlk, hne⟩
        · go_wp2
          go_meet
          case rel => exact rfl
        · have u1 : (l.length : Int) ≤ k := by omega
          go_wp2
          go_meet
          case rel => exact rfl
        · have u1 : ¬ (l.length : Int) ≤ k := by omega
          have u1' : (k : Int) < l.length := by omega
          have u2 : (((l[k]).toNat : Int) != 93) = true := tn_ne hne
          clear hne
          go_wp2
          go_meet
          case rel => exact rfl
      case rest =>
        obtain rfl := hcut
        clear hcond
        go_wp2_with fail
        refine (ritem_any l k wr hl (by omega)).mono ?_
        cases hI : itm l k with
        | inl z =>
          rintro e w5 ⟨rfl, f5⟩
          have hz := itm_err hI
          have v1 : (z.1 != 0) = true := by simpa using hz
          have HFI := Lib.hid (show F = .inl z by rw [← HGO.out, prt_inl hI]; rfl)
          have rz85 := rule4 (show w5.heap[w.heap.size + 1 + 1]? = some (.cells #[.int .u64 0, .int .u64 0, .int .u64 0, .int .u64 0] 31 (0, 0)) from f5.heap H8.out (fun x => x))
          have H45 := Lib.hid (f5.heap H4.out (fun x => x)); have FR5 := Lib.hid (FR.out.trans' f5)
          have rz45 := rule4 (show w5.heap[w.heap.size]? = some (.cells #[.int .u64 0, .int .u64 0, .int .u64 0, .int .u64 0] 31 (0, 0)) from H45.out)
          clear hz f5 hI
          rw [show ritV (.inl z) = .tuple #[.agg #[.int .u64 0, .int .u64 0, .int .u64 0, .int .u64 0], .bool false, .int .i64 0, .int .i64 z.1, .int .i64 z.2] from rfl]
          have ha5 : Fr nob w5 (w5.alloc (.cells #[.int .u64 0, .int .u64 0, .int .u64 0, .int .u64 0] 31)) := (Fr.refl _ _).alloc _
          have H45a := Lib.hid (ha5.heap H45.out (fun x => x)); have FR5a := Lib.hid (FR5.out.trans' ha5)
          clear ha5
          go_wp2
          (try simp only [Exit.inBlock, Exit.then])
          refine bodyPost_ret (results_setR3 (s := S4.zero) (by rfl) (by rfl) (by rfl) (by rfl) (setFour_heap H45a.out _ _ _ _)) rfl ⟨?_, setFour_frS FR5a.out (Nat.le_refl _) _ _ _ _⟩
          rw [← HR.out, HP.out, HFI.out]
          rfl
        | inr x =>
          rintro e w5 ⟨rfl, f5⟩
          rw [show ritV (.inr x) = .tuple #[setV x.set, .bool x.one.isSome, .int .i64 x.next, .int .i64 0, .int .i64 0] from rfl]
          have hin := itm_next hI
          obtain ⟨sx, hsx⟩ : ∃ sx, x.set = sx := ⟨_, rfl⟩
          rw [hsx]
          obtain ⟨w6, hw6⟩ : ∃ w6, w6 = w5.alloc (.cells #[.int .u64 sx.a, .int .u64 sx.b, .int .u64 sx.c, .int .u64 sx.d] 31) := ⟨_, rfl⟩
          have f56 : Fr nob w5 w6 := by rw [hw6]; exact (Fr.refl _ _).alloc _
          have h12 : AtR w6 w5.heap.size sx := by rw [hw6]; exact newAt _ _
          have H12 := Lib.hid h12; have F56 := Lib.hid (f5.trans' f56); have HW6 := Lib.hid hw6; have HI := Lib.hid hI; have HSX := Lib.hid hsx
          have rz12 := rule4 h12
          have HF5 := Lib.hid f5
          clear h12 hw6 hsx hI
          have F6 := Lib.hid (f5.trans' f56)
          have h46 := F6.out.heap H4.out (fun x => x)
          have h76 := F6.out.heap H7.out (fun x => x)
          have h86 := F6.out.heap H8.out (fun x => x)
          have FR6 := Lib.hid (FR.out.trans' F6.out)
          have rz46 := rule4 (HF5.out.heap H4.out (fun x => x)); have rz76 := rule4 (HF5.out.heap H7.out (fun x => x)); have rz86 := rule4 (show w5.heap[w.heap.size + 1 + 1]? = some (.cells #[.int .u64 0, .int .u64 0, .int .u64 0, .int .u64 0] 31 (0, 0)) from HF5.out.heap H8.out (fun x => x))
          have H46 := Lib.hid h46; have H76 := Lib.hid h76; have H86 := Lib.hid h86
          clear h46 h76 h86 f56 rz4 rz7 rz8 f5
          have hn0 : (0 : Int) ≤ x.next := by omega
          have hnl : (x.next : Int) ≤ l.length := by have := hin.2.1; omega
          have hwn : IntKind.i64.wrap ((x.next : Int) + 1) = (x.next : Int) + 1 := IntWalk.i64_in _ (by omega)
          have HIN := Lib.hid hin; clear hin
          cases hr : rng l x.next with
          | false =>
            have hps := prt_set HI.out hr
            rw [HSX.out] at hps
            have HRS := Lib.hid (RS.next HGO.out HLN.out hps)
            clear hps
            have hrn := rng_no hr
            clear hr
            rcases hrn with h1 | ⟨h1, h2⟩ | ⟨h1, h2, h3⟩
            · have u3 : ¬ (x.next : Int) + 1 < l.length := by omega
              clear h1
              go_wp2_with fail
              rw [← HW6.out]
              refine (orR_lit acc sx w6).mono ?_
              obtain ⟨N, hN⟩ : ∃ N, acc.or sx = N := ⟨_, rfl⟩
              have HFN := Lib.hid (show N.fit by rw [← hN]; exact fit_or _ _)
              rw [hN] at HRS ⊢
              clear hN
              rintro e w20 ⟨rfl, f20⟩
              have rn20 := rule4 (f20.heap H76.out (fun x => x))
              obtain ⟨w21, hw21⟩ : ∃ w21, w21 = (((w20.setCell ⟨w.heap.size + 1, 0, none⟩ (.int .u64 N.a)).setCell ⟨w.heap.size + 1, 1, none⟩ (.int .u64 N.b)).setCell ⟨w.heap.size + 1, 2, none⟩ (.int .u64 N.c)).setCell ⟨w.heap.size + 1, 3, none⟩ (.int .u64 N.d) := ⟨_, rfl⟩
              have h721 : AtR w21 (w.heap.size + 1) N := by rw [hw21]; exact setFour_heap (f20.heap H76.out (fun x => x)) _ _ _ _
              have h421 : AtR w21 w.heap.size S4.zero := by rw [hw21]; exact setFour_old (f20.heap H46.out (fun x => x)) (by omega) _ _ _ _
              have h821 : AtR w21 (w.heap.size + 2) S4.zero := by rw [hw21]; exact setFour_old (f20.heap H86.out (fun x => x)) (by omega) _ _ _ _
              have FR21 := Lib.hid (show Fr nob w w21 by rw [hw21]; exact setFour_frS (FR6.out.trans' f20) (by omega) _ _ _ _)
              have HINV := Lib.hid (show RInv l w F m (.int .i64 x.next) (.bool false) w21 from ⟨x.next, N, false, rfl, rfl, h721, h421, h821, FR21.out, HFN.out, HRS.out.2.1, HRS.out.2.2, HRS.out.1⟩)
              have HW21 := Lib.hid hw21
              clear h721 h421 h821 hw21 f20
              go_wp2_with fail
              rw [← HW21.out]
              go_roundg m
              case measure => omega
              case rel => exact HINV.out
            · have u3 : (x.next : Int) + 1 < l.length := by omega
              have u3' : (x.next : Int) < l.length := by omega
              have u4 : (((l[x.next]).toNat : Int) == 45) = false := tb_ne h2
              clear h2
              go_wp2_with fail
              rw [← HW6.out]
              refine (orR_lit acc sx w6).mono ?_
              obtain ⟨N, hN⟩ : ∃ N, acc.or sx = N := ⟨_, rfl⟩
              have HFN := Lib.hid (show N.fit by rw [← hN]; exact fit_or _ _)
              rw [hN] at HRS ⊢
              clear hN
              rintro e w20 ⟨rfl, f20⟩
              have rn20 := rule4 (f20.heap H76.out (fun x => x))
              obtain ⟨w21, hw21⟩ : ∃ w21, w21 = (((w20.setCell ⟨w.heap.size + 1, 0, none⟩ (.int .u64 N.a)).setCell ⟨w.heap.size + 1, 1, none⟩ (.int .u64 N.b)).setCell ⟨w.heap.size + 1, 2, none⟩ (.int .u64 N.c)).setCell ⟨w.heap.size + 1, 3, none⟩ (.int .u64 N.d) := ⟨_, rfl⟩
              have h721 : AtR w21 (w.heap.size + 1) N := by rw [hw21]; exact setFour_heap (f20.heap H76.out (fun x => x)) _ _ _ _
              have h421 : AtR w21 w.heap.size S4.zero := by rw [hw21]; exact setFour_old (f20.heap H46.out (fun x => x)) (by omega) _ _ _ _
              have h821 : AtR w21 (w.heap.size + 2) S4.zero := by rw [hw21]; exact setFour_old (f20.heap H86.out (fun x => x)) (by omega) _ _ _ _
              have FR21 := Lib.hid (show Fr nob w w21 by rw [hw21]; exact setFour_frS (FR6.out.trans' f20) (by omega) _ _ _ _)
              have HINV := Lib.hid (show RInv l w F m (.int .i64 x.next) (.bool false) w21 from ⟨x.next, N, false, rfl, rfl, h721, h421, h821, FR21.out, HFN.out, HRS.out.2.1, HRS.out.2.2, HRS.out.1⟩)
              have HW21 := Lib.hid hw21
              clear h721 h421 h821 hw21 f20
              go_wp2_with fail
              rw [← HW21.out]
              go_roundg m
              case measure => omega
              case rel => exact HINV.out
            · have u3 : (x.next : Int) + 1 < l.length := by omega
              have u3' : (x.next : Int) < l.length := by omega
              have u4 : (((l[x.next]).toNat : Int) == 45) = true := tb_eq h2
              have u5 : (((l[x.next + 1]).toNat : Int) != 93) = false := tn_eq h3
              clear h2 h3
              go_wp2_with fail
              rw [← HW6.out]
              refine (orR_lit acc sx w6).mono ?_
              obtain ⟨N, hN⟩ : ∃ N, acc.or sx = N := ⟨_, rfl⟩
              have HFN := Lib.hid (show N.fit by rw [← hN]; exact fit_or _ _)
              rw [hN] at HRS ⊢
              clear hN
              rintro e w20 ⟨rfl, f20⟩
              have rn20 := rule4 (f20.heap H76.out (fun x => x))
              obtain ⟨w21, hw21⟩ : ∃ w21, w21 = (((w20.setCell ⟨w.heap.size + 1, 0, none⟩ (.int .u64 N.a)).setCell ⟨w.heap.size + 1, 1, none⟩ (.int .u64 N.b)).setCell ⟨w.heap.size + 1, 2, none⟩ (.int .u64 N.c)).setCell ⟨w.heap.size + 1, 3, none⟩ (.int .u64 N.d) := ⟨_, rfl⟩
              have h721 : AtR w21 (w.heap.size + 1) N := by rw [hw21]; exact setFour_heap (f20.heap H76.out (fun x => x)) _ _ _ _
              have h421 : AtR w21 w.heap.size S4.zero := by rw [hw21]; exact setFour_old (f20.heap H46.out (fun x => x)) (by omega) _ _ _ _
              have h821 : AtR w21 (w.heap.size + 2) S4.zero := by rw [hw21]; exact setFour_old (f20.heap H86.out (fun x => x)) (by omega) _ _ _ _
              have FR21 := Lib.hid (show Fr nob w w21 by rw [hw21]; exact setFour_frS (FR6.out.trans' f20) (by omega) _ _ _ _)
              have HINV := Lib.hid (show RInv l w F m (.int .i64 x.next) (.bool false) w21 from ⟨x.next, N, false, rfl, rfl, h721, h421, h821, FR21.out, HFN.out, HRS.out.2.1, HRS.out.2.2, HRS.out.1⟩)
              have HW21 := Lib.hid hw21
              clear h721 h421 h821 hw21 f20
              go_wp2_with fail
              rw [← HW21.out]
              go_roundg m
              case measure => omega
              case rel => exact HINV.out
          | true =>
            obtain ⟨h1, h2, h3⟩ := rng_yes hr
            have HRG := Lib.hid hr; clear hr
            have u3 : (x.next : Int) + 1 < l.length := by omega
            have u3' : (x.next : Int) < l.length := by omega
            have u4 : (((l[x.next]).toNat : Int) == 45) = true := tb_eq h2
            have u5 : (((l[x.next + 1]).toNat : Int) != 93) = true := tn_ne h3
            clear h2 h3
            have HIT := Lib.hid (ritem_any l (x.next + 1) w6 hl (by omega))
            rw [show ((x.next + 1 : Nat) : Int) = (x.next : Int) + 1 from rfl] at HIT
            go_wp2_with fail
            rw [← HW6.out]
            refine HIT.out.mono ?_
            clear HIT
            cases hJ : itm l (x.next + 1) with
            | inl z =>
              rintro e w9 ⟨rfl, f9⟩
              have hz := itm_err hJ
              have v1 : (z.1 != 0) = true := by simpa using hz
              have HFI := Lib.hid (RS.bad HGO.out (prt_bad HI.out HRG.out hJ))
              have rz89 := rule4 (show w9.heap[w.heap.size + 1 + 1]? = some (.cells #[.int .u64 0, .int .u64 0, .int .u64 0, .int .u64 0] 31 (0, 0)) from f9.heap H86.out (fun x => x))
              have H49 := Lib.hid (f9.heap H46.out (fun x => x)); have FR9 := Lib.hid (FR6.out.trans' f9)
              have rz49 := rule4 (show w9.heap[w.heap.size]? = some (.cells #[.int .u64 0, .int .u64 0, .int .u64 0, .int .u64 0] 31 (0, 0)) from H49.out)
              clear hz f9 hJ
              rw [show ritV (.inl z) = .tuple #[.agg #[.int .u64 0, .int .u64 0, .int .u64 0, .int .u64 0], .bool false, .int .i64 0, .int .i64 z.1, .int .i64 z.2] from rfl]
              have ha9 : Fr nob w9 (w9.alloc (.cells #[.int .u64 0, .int .u64 0, .int .u64 0, .int .u64 0] 31)) := (Fr.refl _ _).alloc _
              have H49a := Lib.hid (ha9.heap H49.out (fun x => x)); have FR9a := Lib.hid (FR9.out.trans' ha9)
              clear ha9
              go_wp2
              (try simp only [Exit.inBlock, Exit.then])
              refine bodyPost_ret (results_setR3 (s := S4.zero) (by rfl) (by rfl) (by rfl) (by rfl) (setFour_heap H49a.out _ _ _ _)) rfl ⟨?_, setFour_frS FR9a.out (Nat.le_refl _) _ _ _ _⟩
              rw [← HR.out, HP.out, HFI.out]
              rfl
            | inr y =>
              rintro e w9 ⟨rfl, f9⟩
              rw [show ritV (.inr y) = .tuple #[setV y.set, .bool y.one.isSome, .int .i64 y.next, .int .i64 0, .int .i64 0] from rfl]
              obtain ⟨sy, hsy⟩ : ∃ sy, y.set = sy := ⟨_, rfl⟩
              rw [hsy]
              obtain ⟨w10, hw10⟩ : ∃ w10, w10 = w9.alloc (.cells #[.int .u64 sy.a, .int .u64 sy.b, .int .u64 sy.c, .int .u64 sy.d] 31) := ⟨_, rfl⟩
              have F610 := Lib.hid (show Fr nob w6 w10 by rw [hw10]; exact f9.alloc _)
              have h17 : AtR w10 w9.heap.size sy := by rw [hw10]; exact newAt _ _
              have h410 := F610.out.heap H46.out (fun x => x)
              have h710 := F610.out.heap H76.out (fun x => x)
              have h810 := F610.out.heap H86.out (fun x => x)
              have h1210 := F610.out.heap H12.out (fun x => x)
              have FR10 := Lib.hid (FR6.out.trans' F610.out)
              have rz410 := rule4 h410; have rz710 := rule4 h710; have rz810 := rule4 (show w10.heap[w.heap.size + 1 + 1]? = some (.cells #[.int .u64 0, .int .u64 0, .int .u64 0, .int .u64 0] 31 (0, 0)) from h810); have rz1210 := rule4 h1210; have rz1710 := rule4 h17
              have H410 := Lib.hid h410; have H710 := Lib.hid h710; have H810 := Lib.hid h810; have H1210 := Lib.hid h1210; have H17 := Lib.hid h17; have HW10 := Lib.hid hw10; have HSY := Lib.hid hsy
              have h5w : w.heap.size + 2 < w5.heap.size := by have := lt_heap H8.out; have := HF5.out.size; omega
              clear h410 h710 h810 h1210 h17 hw10 hsy rz46 rz76 rz86 rz12 f9
              have HPR := Lib.hid (prt_rgo HI.out HRG.out hJ)
              have HY := Lib.hid hJ; clear hJ
              cases hx1 : x.one with
              | none =>
                have HFI := Lib.hid (RS.bad HGO.out (show prt l k = .inl (1, k) by rw [HPR.out, hx1]; rfl))
                have b1 : (none : Option UInt8).isSome = false := rfl
                go_wp2_with fail
                rw [← HW10.out]
                refine region_fr 10 (by kernel_rfl) (by kernel_rfl) ?_
                simp only [List.take_succ_cons, List.take_zero, List.drop_succ_cons, List.drop_zero]
                repeat (go_big_quiet_step (fail))
                refine wpQuiet_nil ?_
                intro wC fC
                have H4C := Lib.hid (fC.heap H410.out (fun x => x)); have FRC := Lib.hid (FR10.out.trans' fC)
                go_wp2
                (try simp only [Exit.inBlock, Exit.then])
                refine bodyPost_ret (results_setR3 (s := S4.zero) (by rfl) (by rfl) (by rfl) (by rfl) (setFour_heap H4C.out _ _ _ _)) rfl ⟨?_, setFour_frS FRC.out (Nat.le_refl _) _ _ _ _⟩
                rw [← HR.out, HP.out, HFI.out]
                rfl
              | some a1 =>
                cases hy1 : y.one with
                | none =>
                  have HFI := Lib.hid (RS.bad HGO.out (show prt l k = .inl (1, k) by rw [HPR.out, hx1, hy1]; rfl))
                  have b1 : (some a1 : Option UInt8).isSome = true := rfl
                  have b2 : (none : Option UInt8).isSome = false := rfl
                  go_wp2_with fail
                  rw [← HW10.out]
                  refine region_fr 10 (by kernel_rfl) (by kernel_rfl) ?_
                  simp only [List.take_succ_cons, List.take_zero, List.drop_succ_cons, List.drop_zero]
                  repeat (go_big_quiet_step (fail))
                  refine wpQuiet_nil ?_
                  intro wC fC
                  have H4C := Lib.hid (fC.heap H410.out (fun x => x)); have FRC := Lib.hid (FR10.out.trans' fC)
                  go_wp2
                  (try simp only [Exit.inBlock, Exit.then])
                  refine bodyPost_ret (results_setR3 (s := S4.zero) (by rfl) (by rfl) (by rfl) (by rfl) (setFour_heap H4C.out _ _ _ _)) rfl ⟨?_, setFour_frS FRC.out (Nat.le_refl _) _ _ _ _⟩
                  rw [← HR.out, HP.out, HFI.out]
                  rfl
                | some b1 =>
                  have b1' : (some a1 : Option UInt8).isSome = true := rfl
                  have b2' : (some b1 : Option UInt8).isSome = true := rfl
                  have hcx : ∀ w' : World, Calls Tryz.prog 106 #[setV sx] w' fun e w'' => e = .returned (.int .u8 (a1.toNat : Nat)) ∧ Fr nob w' w'' := fun w' => by
                    rw [← HSX.out, itm_one HI.out hx1]; exact rleast_one _ w' a1.toNat_lt
                  have hcy : ∀ w' : World, Calls Tryz.prog 106 #[setV sy] w' fun e w'' => e = .returned (.int .u8 (b1.toNat : Nat)) ∧ Fr nob w' w'' := fun w' => by
                    rw [← HSY.out, itm_one HY.out hy1]; exact rleast_one _ w' b1.toNat_lt
                  have CX := Lib.hid hcx; have CY := Lib.hid hcy; clear hcx hcy
                  by_cases hlt : a1.toNat ≤ b1.toNat
                  · have HRS := Lib.hid (RS.next HGO.out HLN.out (show prt l k = .inr (spn a1.toNat b1.toNat, y.next) by rw [HPR.out, hx1, hy1]; exact rgo_ok hlt))
                    have u6 : ¬ (b1.toNat : Int) < (a1.toNat : Int) := by omega
                    go_wp2_with fail
                    rw [← HW10.out]
                    refine region_fr 10 (by kernel_rfl) (by kernel_rfl) ?_
                    simp only [List.take_succ_cons, List.take_zero, List.drop_succ_cons, List.drop_zero]
                    repeat (go_big_quiet_step ((with_reducible exact calls_fr (CY.out _))))
                    refine wpQuiet_nil ?_
                    intro wC fC
                    go_wp2_with fail
                    refine (CX.out _).mono ?_
                    rintro e w11 ⟨rfl, f11⟩
                    have F11 := Lib.hid (fC.trans' f11)
                    have h411 := F11.out.heap H410.out (fun x => x)
                    have h711 := F11.out.heap H710.out (fun x => x)
                    have h811 := F11.out.heap H810.out (fun x => x)
                    have h1211 := F11.out.heap H1210.out (fun x => x)
                    have h1711 := F11.out.heap H17.out (fun x => x)
                    have FR11 := Lib.hid (FR10.out.trans' F11.out)
                    have rz411 := rule4 h411; have rz711 := rule4 h711; have rz1211 := rule4 h1211; have rz1711 := rule4 h1711
                    have H411 := Lib.hid h411; have H711 := Lib.hid h711; have H811 := Lib.hid h811; have H1211 := Lib.hid h1211
                    clear h411 h711 h811 h1211 h1711 f11 fC rz410 rz710 rz810 rz1210 rz1710
                    go_wp2_with fail
                    refine region_fr 3 (by kernel_rfl) (by kernel_rfl) ?_
                    simp only [List.take_succ_cons, List.take_zero, List.drop_succ_cons, List.drop_zero]
                    repeat (go_big_quiet_step ((with_reducible exact calls_fr (CX.out _))))
                    refine wpQuiet_nil ?_
                    intro wD fD
                    go_wp2_with fail
                    refine (CY.out _).mono ?_
                    rintro e w12 ⟨rfl, f12⟩
                    go_wp2_with fail
                    refine (spanR_lit a1.toNat b1.toNat w12 a1.toNat_lt b1.toNat_lt).mono ?_
                    obtain ⟨sz, hsz⟩ : ∃ sz, spn a1.toNat b1.toNat = sz := ⟨_, rfl⟩
                    rw [hsz] at HRS ⊢
                    have HSZ := Lib.hid hsz; clear hsz
                    rintro e w13 ⟨rfl, f13⟩
                    have F13 := Lib.hid ((fD.trans' f12).trans' f13)
                    have h1213 := F13.out.heap H1211.out (fun x => x)
                    have rz1213 := rule4 h1213
                    obtain ⟨w14, hw14⟩ : ∃ w14, w14 = (((w13.setCell ⟨w5.heap.size, 0, none⟩ (.int .u64 sz.a)).setCell ⟨w5.heap.size, 1, none⟩ (.int .u64 sz.b)).setCell ⟨w5.heap.size, 2, none⟩ (.int .u64 sz.c)).setCell ⟨w5.heap.size, 3, none⟩ (.int .u64 sz.d) := ⟨_, rfl⟩
                    have h1214 : AtR w14 w5.heap.size sz := by rw [hw14]; exact setFour_heap h1213 _ _ _ _
                    have h414 : AtR w14 w.heap.size S4.zero := by rw [hw14]; exact setFour_old (F13.out.heap H411.out (fun x => x)) (by omega) _ _ _ _
                    have h714 : AtR w14 (w.heap.size + 1) acc := by rw [hw14]; exact setFour_old (F13.out.heap H711.out (fun x => x)) (by omega) _ _ _ _
                    have h814 : AtR w14 (w.heap.size + 2) S4.zero := by rw [hw14]; exact setFour_old (F13.out.heap H811.out (fun x => x)) (by omega) _ _ _ _
                    have FR14 := Lib.hid (show Fr nob w w14 by rw [hw14]; exact setFour_frS (FR11.out.trans' F13.out) (by omega) _ _ _ _)
                    have H414 := Lib.hid h414; have H714 := Lib.hid h714; have H814 := Lib.hid h814; have HW14 := Lib.hid hw14
                    have rz714 := rule4 h714; have rz1214 := rule4 h1214
                    clear h1213 h1214 h414 h714 h814 hw14 f12 f13 fD rz411 rz711 rz1211 rz1711
                    go_wp2_with (rw [← HW14.out])
                    refine (orR_lit acc sz w14).mono ?_
                    obtain ⟨N, hN⟩ : ∃ N, acc.or sz = N := ⟨_, rfl⟩
                    have HFN := Lib.hid (show N.fit by rw [← hN]; exact fit_or _ _)
                    rw [hN] at HRS ⊢
                    clear hN
                    rintro e w20 ⟨rfl, f20⟩
                    have rn20 := rule4 (f20.heap H714.out (fun x => x))
                    obtain ⟨w21, hw21⟩ : ∃ w21, w21 = (((w20.setCell ⟨w.heap.size + 1, 0, none⟩ (.int .u64 N.a)).setCell ⟨w.heap.size + 1, 1, none⟩ (.int .u64 N.b)).setCell ⟨w.heap.size + 1, 2, none⟩ (.int .u64 N.c)).setCell ⟨w.heap.size + 1, 3, none⟩ (.int .u64 N.d) := ⟨_, rfl⟩
                    have h721 : AtR w21 (w.heap.size + 1) N := by rw [hw21]; exact setFour_heap (f20.heap H714.out (fun x => x)) _ _ _ _
                    have h421 : AtR w21 w.heap.size S4.zero := by rw [hw21]; exact setFour_old (f20.heap H414.out (fun x => x)) (by omega) _ _ _ _
                    have h821 : AtR w21 (w.heap.size + 2) S4.zero := by rw [hw21]; exact setFour_old (f20.heap H814.out (fun x => x)) (by omega) _ _ _ _
                    have FR21 := Lib.hid (show Fr nob w w21 by rw [hw21]; exact setFour_frS (FR14.out.trans' f20) (by omega) _ _ _ _)
                    have HINV := Lib.hid (show RInv l w F m (.int .i64 y.next) (.bool false) w21 from ⟨y.next, N, false, rfl, rfl, h721, h421, h821, FR21.out, HFN.out, HRS.out.2.1, HRS.out.2.2, HRS.out.1⟩)
                    have HW21 := Lib.hid hw21
                    clear h721 h421 h821 hw21 f20
                    go_wp2_with fail
                    rw [← HW21.out]
                    go_roundg m
                    case measure => omega
                    case rel => exact HINV.out
                  · have HFI := Lib.hid (RS.bad HGO.out (show prt l k = .inl (1, k) by rw [HPR.out, hx1, hy1]; exact rgo_no hlt))
                    have u6 : (b1.toNat : Int) < (a1.toNat : Int) := by omega
                    go_wp2_with fail
                    rw [← HW10.out]
                    refine region_fr 10 (by kernel_rfl) (by kernel_rfl) ?_
                    simp only [List.take_succ_cons, List.take_zero, List.drop_succ_cons, List.drop_zero]
                    repeat (go_big_quiet_step ((with_reducible exact calls_fr (CY.out _))))
                    refine wpQuiet_nil ?_
                    intro wC fC
                    go_wp2_with fail
                    refine (CX.out _).mono ?_
                    rintro e w11 ⟨rfl, f11⟩
                    have F11 := Lib.hid (fC.trans' f11)
                    have h411 := F11.out.heap H410.out (fun x => x)
                    have h811 := F11.out.heap H810.out (fun x => x)
                    have FR11 := Lib.hid (FR10.out.trans' F11.out)
                    have rz411 := rule4 h411; have rz811 := rule4 (show w11.heap[w.heap.size + 1 + 1]? = some (.cells #[.int .u64 0, .int .u64 0, .int .u64 0, .int .u64 0] 31 (0, 0)) from h811)
                    have H411 := Lib.hid h411
                    clear h411 h811 f11 fC rz410 rz710 rz810 rz1210 rz1710
                    go_wp2
                    (try simp only [Exit.inBlock, Exit.then])
                    refine bodyPost_ret (results_setR3 (s := S4.zero) (by rfl) (by rfl) (by rfl) (by rfl) (setFour_heap H411.out _ _ _ _)) rfl ⟨?_, setFour_frS FR11.out (Nat.le_refl _) _ _ _ _⟩
                    rw [← HR.out, HP.out, HFI.out]
                    rfl


set_option maxRecDepth 100000 in
set_option maxHeartbeats 8000000 in
theorem rparse_no (l : List UInt8) (a : Nat) (w : World) (hl : l.length ≤ 100000) (ha : a ≤ l.length) (hlt : a < l.length) (h94 : ¬ l[a] = 94) :
    Calls Tryz.prog 92 #[.string ⟨l.toArray⟩, .int .i64 a] w (PAns (prs l a) w) := by
  obtain ⟨w0, hw0⟩ : ∃ w0, w0 = ((w.alloc (.cells #[.int .u64 0, .int .u64 0, .int .u64 0, .int .u64 0] 31)).alloc (.cells #[.int .u64 0, .int .u64 0, .int .u64 0, .int .u64 0] 31)).alloc (.cells #[.int .u64 0, .int .u64 0, .int .u64 0, .int .u64 0] 31) := ⟨_, rfl⟩
  have h4 : AtR w0 w.heap.size S4.zero := by rw [hw0]; exact heap_alloc_lt _ (heap_alloc_lt _ (newAt _ _))
  have h7 : AtR w0 (w.heap.size + 1) S4.zero := (show w0.heap[w.heap.size + 1]? = some (.cells #[.int .u64 0, .int .u64 0, .int .u64 0, .int .u64 0] 31 (0, 0)) by rw [hw0]; have := newAt (w.alloc (.cells #[.int .u64 0, .int .u64 0, .int .u64 0, .int .u64 0] 31)) (.cells #[.int .u64 0, .int .u64 0, .int .u64 0, .int .u64 0] 31); exact heap_alloc_lt _ (by simpa using this))
  have h8 : AtR w0 (w.heap.size + 2) S4.zero := (show w0.heap[w.heap.size + 2]? = some (.cells #[.int .u64 0, .int .u64 0, .int .u64 0, .int .u64 0] 31 (0, 0)) by rw [hw0]; have := newAt ((w.alloc (.cells #[.int .u64 0, .int .u64 0, .int .u64 0, .int .u64 0] 31)).alloc (.cells #[.int .u64 0, .int .u64 0, .int .u64 0, .int .u64 0] 31)) (.cells #[.int .u64 0, .int .u64 0, .int .u64 0, .int .u64 0] 31); simpa using this)
  have F0 := Lib.hid (show Fr nob w w0 by rw [hw0]; exact (((Fr.refl _ _).alloc _).alloc _).alloc _)
  have H4 := Lib.hid h4; have H7 := Lib.hid h7; have H8 := Lib.hid h8; have HW := Lib.hid hw0
  clear hw0 h4 h7 h8
  have t0 : ¬ (a : Int) < 0 := by omega
  have t0' : ¬ (l.length : Int) < a := by omega
  obtain ⟨F, hF⟩ : ∃ F, lopF l (l.length + 1) (prt l (a)) = F := ⟨_, rfl⟩
  have HP := Lib.hid (show prs l a = prsNot false F by rw [← hF]; exact prs_no (by cases hb : [94].isPrefixOf (l.drop a) with | false => rfl | true => exact absurd ((List.getElem?_eq_some_iff.1 (pre1.1 hb)).2) h94))
  obtain ⟨R, hR⟩ : ∃ R, prs l a = R := ⟨_, rfl⟩
  rw [hR]
  have HR := Lib.hid hR; have HF := Lib.hid hF; clear hR hF
  have t1 : (a : Int) < l.length := by omega
  have t2 : (((l[a]).toNat : Int) == 94) = false := tb_ne h94
  clear h94
  go_enter Tryz.func92, Tryz.ntmps92
  iterate 26 go_step
  rw [← HW.out]
  go_wp2_with fail
  go_loopg [1, 10] (l.length + 2) (fun n v1 v10 wr => RInv l w F n v1 v10 wr)
  case atStart => exact ⟨a, S4.zero, true, by go_num, rfl, H7.out, H4.out, H8.out, F0.out, fit_zero, ha, by omega, by unfold RS; exact ⟨rfl, rfl, HF.out⟩⟩
  case round =>
    obtain ⟨k, acc, fst, rfl, rfl, h7, h4, h8, hfr, hfit, hk, hng, hrs⟩ := hrel
    obtain ⟨m, rfl⟩ : ∃ m, gk = m + 1 := ⟨gk - 1, by omega⟩
    have rz4 := rule4 (show wr.heap[w.heap.size]? = some (.cells #[.int .u64 0, .int .u64 0, .int .u64 0, .int .u64 0] 31 (0, 0)) from h4)
    have rz7 := rule4 h7
    have rz8 := rule4 (show wr.heap[w.heap.size + 1 + 1]? = some (.cells #[.int .u64 0, .int .u64 0, .int .u64 0, .int .u64 0] 31 (0, 0)) from h8)
    have H4 := Lib.hid h4; have H7 := Lib.hid h7; have H8 := Lib.hid h8; have FR := Lib.hid hfr; have FIT := Lib.hid hfit; have RSS := Lib.hid hrs
    clear h4 h7 h8 hfr hfit hrs
    have hk0 : (0 : Int) ≤ k := by omega
    have hkl : (k : Int) ≤ l.length := by omega
    have hwr : IntKind.i64.wrap ((k : Int) + 1) = (k : Int) + 1 := IntWalk.i64_in _ (by omega)
    by_cases hst : fst = false ∧ l[k]? = some 93
    · obtain ⟨rfl, h93⟩ := hst
      have HFE := Lib.hid (RSS.out.halt h93)
      have hlk := (List.getElem?_eq_some_iff.1 h93).1
      have u1 : ¬ (l.length : Int) ≤ k := by omega
      have u1' : (k : Int) < l.length := by omega
      have u2 : (((l[k]).toNat : Int) != 93) = false := tn_eq (List.getElem?_eq_some_iff.1 h93).2
      clear h93
      go_wp2_with fail
      (try simp only [Exit.inBlock, Exit.then])
      refine bodyPost_ret (results_setR3 (s := acc) (by rfl) (by rfl) (by rfl) (by rfl) (setFour_heap H4.out _ _ _ _)) rfl ⟨?_, setFour_frS FR.out (Nat.le_refl _) _ _ _ _⟩
      rw [← HR.out, HP.out, HFE.out]
      rfl
    · have hgo := RSS.out.go (by cases fst with | true => exact .inl rfl | false => exact .inr (fun e => hst ⟨rfl, e⟩))
      have HGO := Lib.hid hgo; clear hgo
      have HLN := Lib.hid (lopN_go (l := l) (n := m) (a := k) (s := acc) (by omega))
      have hcond : fst = true ∨ (fst = false ∧ l.length ≤ k) ∨ (fst = false ∧ ∃ h : k < l.length, l[k] ≠ 93) := by
        cases fst with
        | true => exact .inl rfl
        | false =>
          by_cases hkk : l.length ≤ k
          · exact .inr (.inl ⟨rfl, hkk⟩)
          · exact .inr (.inr ⟨rfl, by omega, fun e => hst ⟨rfl, by rw [List.getElem?_eq_getElem (by omega), e]⟩⟩)
      clear hst
      go_step
      go_cut [] (fun w' => wr = w')
      case first =>
        rcases hcond with rfl | ⟨rfl, hge⟩ | ⟨rfl, hlk, hne⟩
        · go_wp2
          go_meet
          case rel => exact rfl
        · have u1 : (l.length : Int) ≤ k := by omega
          go_wp2
          go_meet
          case rel => exact rfl
        · have u1 : ¬ (l.length : Int) ≤ k := by omega
          have u1' : (k : Int) < l.length := by omega
          have u2 : (((l[k]).toNat : Int) != 93) = true := tn_ne hne
          clear hne
          go_wp2
          go_meet
          case rel => exact rfl
      case rest =>
        obtain rfl := hcut
        clear hcond
        go_wp2_with fail
        refine (ritem_any l k wr hl (by omega)).mono ?_
        cases hI : itm l k with
        | inl z =>
          rintro e w5 ⟨rfl, f5⟩
          have hz := itm_err hI
          have v1 : (z.1 != 0) = true := by simpa using hz
          have HFI := Lib.hid (show F = .inl z by rw [← HGO.out, prt_inl hI]; rfl)
          have rz85 := rule4 (show w5.heap[w.heap.size + 1 + 1]? = some (.cells #[.int .u64 0, .int .u64 0, .int .u64 0, .int .u64 0] 31 (0, 0)) from f5.heap H8.out (fun x => x))
          have H45 := Lib.hid (f5.heap H4.out (fun x => x)); have FR5 := Lib.hid (FR.out.trans' f5)
          have rz45 := rule4 (show w5.heap[w.heap.size]? = some (.cells #[.int .u64 0, .int .u64 0, .int .u64 0, .int .u64 0] 31 (0, 0)) from H45.out)
          clear hz f5 hI
          rw [show ritV (.inl z) = .tuple #[.agg #[.int .u64 0, .int .u64 0, .int .u64 0, .int .u64 0], .bool false, .int .i64 0, .int .i64 z.1, .int .i64 z.2] from rfl]
          have ha5 : Fr nob w5 (w5.alloc (.cells #[.int .u64 0, .int .u64 0, .int .u64 0, .int .u64 0] 31)) := (Fr.refl _ _).alloc _
          have H45a := Lib.hid (ha5.heap H45.out (fun x => x)); have FR5a := Lib.hid (FR5.out.trans' ha5)
          clear ha5
          go_wp2
          (try simp only [Exit.inBlock, Exit.then])
          refine bodyPost_ret (results_setR3 (s := S4.zero) (by rfl) (by rfl) (by rfl) (by rfl) (setFour_heap H45a.out _ _ _ _)) rfl ⟨?_, setFour_frS FR5a.out (Nat.le_refl _) _ _ _ _⟩
          rw [← HR.out, HP.out, HFI.out]
          rfl
        | inr x =>
          rintro e w5 ⟨rfl, f5⟩
          rw [show ritV (.inr x) = .tuple #[setV x.set, .bool x.one.isSome, .int .i64 x.next, .int .i64 0, .int .i64 0] from rfl]
          have hin := itm_next hI
          obtain ⟨sx, hsx⟩ : ∃ sx, x.set = sx := ⟨_, rfl⟩
          rw [hsx]
          obtain ⟨w6, hw6⟩ : ∃ w6, w6 = w5.alloc (.cells #[.int .u64 sx.a, .int .u64 sx.b, .int .u64 sx.c, .int .u64 sx.d] 31) := ⟨_, rfl⟩
          have f56 : Fr nob w5 w6 := by rw [hw6]; exact (Fr.refl _ _).alloc _
          have h12 : AtR w6 w5.heap.size sx := by rw [hw6]; exact newAt _ _
          have H12 := Lib.hid h12; have F56 := Lib.hid (f5.trans' f56); have HW6 := Lib.hid hw6; have HI := Lib.hid hI; have HSX := Lib.hid hsx
          have rz12 := rule4 h12
          have HF5 := Lib.hid f5
          clear h12 hw6 hsx hI
          have F6 := Lib.hid (f5.trans' f56)
          have h46 := F6.out.heap H4.out (fun x => x)
          have h76 := F6.out.heap H7.out (fun x => x)
          have h86 := F6.out.heap H8.out (fun x => x)
          have FR6 := Lib.hid (FR.out.trans' F6.out)
          have rz46 := rule4 (HF5.out.heap H4.out (fun x => x)); have rz76 := rule4 (HF5.out.heap H7.out (fun x => x)); have rz86 := rule4 (show w5.heap[w.heap.size + 1 + 1]? = some (.cells #[.int .u64 0, .int .u64 0, .int .u64 0, .int .u64 0] 31 (0, 0)) from HF5.out.heap H8.out (fun x => x))
          have H46 := Lib.hid h46; have H76 := Lib.hid h76; have H86 := Lib.hid h86
          clear h46 h76 h86 f56 rz4 rz7 rz8 f5
          have hn0 : (0 : Int) ≤ x.next := by omega
          have hnl : (x.next : Int) ≤ l.length := by have := hin.2.1; omega
          have hwn : IntKind.i64.wrap ((x.next : Int) + 1) = (x.next : Int) + 1 := IntWalk.i64_in _ (by omega)
          have HIN := Lib.hid hin; clear hin
          cases hr : rng l x.next with
          | false =>
            have hps := prt_set HI.out hr
            rw [HSX.out] at hps
            have HRS := Lib.hid (RS.next HGO.out HLN.out hps)
            clear hps
            have hrn := rng_no hr
            clear hr
            rcases hrn with h1 | ⟨h1, h2⟩ | ⟨h1, h2, h3⟩
            · have u3 : ¬ (x.next : Int) + 1 < l.length := by omega
              clear h1
              go_wp2_with fail
              rw [← HW6.out]
              refine (orR_lit acc sx w6).mono ?_
              obtain ⟨N, hN⟩ : ∃ N, acc.or sx = N := ⟨_, rfl⟩
              have HFN := Lib.hid (show N.fit by rw [← hN]; exact fit_or _ _)
              rw [hN] at HRS ⊢
              clear hN
              rintro e w20 ⟨rfl, f20⟩
              have rn20 := rule4 (f20.heap H76.out (fun x => x))
              obtain ⟨w21, hw21⟩ : ∃ w21, w21 = (((w20.setCell ⟨w.heap.size + 1, 0, none⟩ (.int .u64 N.a)).setCell ⟨w.heap.size + 1, 1, none⟩ (.int .u64 N.b)).setCell ⟨w.heap.size + 1, 2, none⟩ (.int .u64 N.c)).setCell ⟨w.heap.size + 1, 3, none⟩ (.int .u64 N.d) := ⟨_, rfl⟩
              have h721 : AtR w21 (w.heap.size + 1) N := by rw [hw21]; exact setFour_heap (f20.heap H76.out (fun x => x)) _ _ _ _
              have h421 : AtR w21 w.heap.size S4.zero := by rw [hw21]; exact setFour_old (f20.heap H46.out (fun x => x)) (by omega) _ _ _ _
              have h821 : AtR w21 (w.heap.size + 2) S4.zero := by rw [hw21]; exact setFour_old (f20.heap H86.out (fun x => x)) (by omega) _ _ _ _
              have FR21 := Lib.hid (show Fr nob w w21 by rw [hw21]; exact setFour_frS (FR6.out.trans' f20) (by omega) _ _ _ _)
              have HINV := Lib.hid (show RInv l w F m (.int .i64 x.next) (.bool false) w21 from ⟨x.next, N, false, rfl, rfl, h721, h421, h821, FR21.out, HFN.out, HRS.out.2.1, HRS.out.2.2, HRS.out.1⟩)
              have HW21 := Lib.hid hw21
              clear h721 h421 h821 hw21 f20
              go_wp2_with fail
              rw [← HW21.out]
              go_roundg m
              case measure => omega
              case rel => exact HINV.out
            · have u3 : (x.next : Int) + 1 < l.length := by omega
              have u3' : (x.next : Int) < l.length := by omega
              have u4 : (((l[x.next]).toNat : Int) == 45) = false := tb_ne h2
              clear h2
              go_wp2_with fail
              rw [← HW6.out]
              refine (orR_lit acc sx w6).mono ?_
              obtain ⟨N, hN⟩ : ∃ N, acc.or sx = N := ⟨_, rfl⟩
              have HFN := Lib.hid (show N.fit by rw [← hN]; exact fit_or _ _)
              rw [hN] at HRS ⊢
              clear hN
              rintro e w20 ⟨rfl, f20⟩
              have rn20 := rule4 (f20.heap H76.out (fun x => x))
              obtain ⟨w21, hw21⟩ : ∃ w21, w21 = (((w20.setCell ⟨w.heap.size + 1, 0, none⟩ (.int .u64 N.a)).setCell ⟨w.heap.size + 1, 1, none⟩ (.int .u64 N.b)).setCell ⟨w.heap.size + 1, 2, none⟩ (.int .u64 N.c)).setCell ⟨w.heap.size + 1, 3, none⟩ (.int .u64 N.d) := ⟨_, rfl⟩
              have h721 : AtR w21 (w.heap.size + 1) N := by rw [hw21]; exact setFour_heap (f20.heap H76.out (fun x => x)) _ _ _ _
              have h421 : AtR w21 w.heap.size S4.zero := by rw [hw21]; exact setFour_old (f20.heap H46.out (fun x => x)) (by omega) _ _ _ _
              have h821 : AtR w21 (w.heap.size + 2) S4.zero := by rw [hw21]; exact setFour_old (f20.heap H86.out (fun x => x)) (by omega) _ _ _ _
              have FR21 := Lib.hid (show Fr nob w w21 by rw [hw21]; exact setFour_frS (FR6.out.trans' f20) (by omega) _ _ _ _)
              have HINV := Lib.hid (show RInv l w F m (.int .i64 x.next) (.bool false) w21 from ⟨x.next, N, false, rfl, rfl, h721, h421, h821, FR21.out, HFN.out, HRS.out.2.1, HRS.out.2.2, HRS.out.1⟩)
              have HW21 := Lib.hid hw21
              clear h721 h421 h821 hw21 f20
              go_wp2_with fail
              rw [← HW21.out]
              go_roundg m
              case measure => omega
              case rel => exact HINV.out
            · have u3 : (x.next : Int) + 1 < l.length := by omega
              have u3' : (x.next : Int) < l.length := by omega
              have u4 : (((l[x.next]).toNat : Int) == 45) = true := tb_eq h2
              have u5 : (((l[x.next + 1]).toNat : Int) != 93) = false := tn_eq h3
              clear h2 h3
              go_wp2_with fail
              rw [← HW6.out]
              refine (orR_lit acc sx w6).mono ?_
              obtain ⟨N, hN⟩ : ∃ N, acc.or sx = N := ⟨_, rfl⟩
              have HFN := Lib.hid (show N.fit by rw [← hN]; exact fit_or _ _)
              rw [hN] at HRS ⊢
              clear hN
              rintro e w20 ⟨rfl, f20⟩
              have rn20 := rule4 (f20.heap H76.out (fun x => x))
              obtain ⟨w21, hw21⟩ : ∃ w21, w21 = (((w20.setCell ⟨w.heap.size + 1, 0, none⟩ (.int .u64 N.a)).setCell ⟨w.heap.size + 1, 1, none⟩ (.int .u64 N.b)).setCell ⟨w.heap.size + 1, 2, none⟩ (.int .u64 N.c)).setCell ⟨w.heap.size + 1, 3, none⟩ (.int .u64 N.d) := ⟨_, rfl⟩
              have h721 : AtR w21 (w.heap.size + 1) N := by rw [hw21]; exact setFour_heap (f20.heap H76.out (fun x => x)) _ _ _ _
              have h421 : AtR w21 w.heap.size S4.zero := by rw [hw21]; exact setFour_old (f20.heap H46.out (fun x => x)) (by omega) _ _ _ _
              have h821 : AtR w21 (w.heap.size + 2) S4.zero := by rw [hw21]; exact setFour_old (f20.heap H86.out (fun x => x)) (by omega) _ _ _ _
              have FR21 := Lib.hid (show Fr nob w w21 by rw [hw21]; exact setFour_frS (FR6.out.trans' f20) (by omega) _ _ _ _)
              have HINV := Lib.hid (show RInv l w F m (.int .i64 x.next) (.bool false) w21 from ⟨x.next, N, false, rfl, rfl, h721, h421, h821, FR21.out, HFN.out, HRS.out.2.1, HRS.out.2.2, HRS.out.1⟩)
              have HW21 := Lib.hid hw21
              clear h721 h421 h821 hw21 f20
              go_wp2_with fail
              rw [← HW21.out]
              go_roundg m
              case measure => omega
              case rel => exact HINV.out
          | true =>
            obtain ⟨h1, h2, h3⟩ := rng_yes hr
            have HRG := Lib.hid hr; clear hr
            have u3 : (x.next : Int) + 1 < l.length := by omega
            have u3' : (x.next : Int) < l.length := by omega
            have u4 : (((l[x.next]).toNat : Int) == 45) = true := tb_eq h2
            have u5 : (((l[x.next + 1]).toNat : Int) != 93) = true := tn_ne h3
            clear h2 h3
            have HIT := Lib.hid (ritem_any l (x.next + 1) w6 hl (by omega))
            rw [show ((x.next + 1 : Nat) : Int) = (x.next : Int) + 1 from rfl] at HIT
            go_wp2_with fail
            rw [← HW6.out]
            refine HIT.out.mono ?_
            clear HIT
            cases hJ : itm l (x.next + 1) with
            | inl z =>
              rintro e w9 ⟨rfl, f9⟩
              have hz := itm_err hJ
              have v1 : (z.1 != 0) = true := by simpa using hz
              have HFI := Lib.hid (RS.bad HGO.out (prt_bad HI.out HRG.out hJ))
              have rz89 := rule4 (show w9.heap[w.heap.size + 1 + 1]? = some (.cells #[.int .u64 0, .int .u64 0, .int .u64 0, .int .u64 0] 31 (0, 0)) from f9.heap H86.out (fun x => x))
              have H49 := Lib.hid (f9.heap H46.out (fun x => x)); have FR9 := Lib.hid (FR6.out.trans' f9)
              have rz49 := rule4 (show w9.heap[w.heap.size]? = some (.cells #[.int .u64 0, .int .u64 0, .int .u64 0, .int .u64 0] 31 (0, 0)) from H49.out)
              clear hz f9 hJ
              rw [show ritV (.inl z) = .tuple #[.agg #[.int .u64 0, .int .u64 0, .int .u64 0, .int .u64 0], .bool false, .int .i64 0, .int .i64 z.1, .int .i64 z.2] from rfl]
              have ha9 : Fr nob w9 (w9.alloc (.cells #[.int .u64 0, .int .u64 0, .int .u64 0, .int .u64 0] 31)) := (Fr.refl _ _).alloc _
              have H49a := Lib.hid (ha9.heap H49.out (fun x => x)); have FR9a := Lib.hid (FR9.out.trans' ha9)
              clear ha9
              go_wp2
              (try simp only [Exit.inBlock, Exit.then])
              refine bodyPost_ret (results_setR3 (s := S4.zero) (by rfl) (by rfl) (by rfl) (by rfl) (setFour_heap H49a.out _ _ _ _)) rfl ⟨?_, setFour_frS FR9a.out (Nat.le_refl _) _ _ _ _⟩
              rw [← HR.out, HP.out, HFI.out]
              rfl
            | inr y =>
              rintro e w9 ⟨rfl, f9⟩
              rw [show ritV (.inr y) = .tuple #[setV y.set, .bool y.one.isSome, .int .i64 y.next, .int .i64 0, .int .i64 0] from rfl]
              obtain ⟨sy, hsy⟩ : ∃ sy, y.set = sy := ⟨_, rfl⟩
              rw [hsy]
              obtain ⟨w10, hw10⟩ : ∃ w10, w10 = w9.alloc (.cells #[.int .u64 sy.a, .int .u64 sy.b, .int .u64 sy.c, .int .u64 sy.d] 31) := ⟨_, rfl⟩
              have F610 := Lib.hid (show Fr nob w6 w10 by rw [hw10]; exact f9.alloc _)
              have h17 : AtR w10 w9.heap.size sy := by rw [hw10]; exact newAt _ _
              have h410 := F610.out.heap H46.out (fun x => x)
              have h710 := F610.out.heap H76.out (fun x => x)
              have h810 := F610.out.heap H86.out (fun x => x)
              have h1210 := F610.out.heap H12.out (fun x => x)
              have FR10 := Lib.hid (FR6.out.trans' F610.out)
              have rz410 := rule4 h410; have rz710 := rule4 h710; have rz810 := rule4 (show w10.heap[w.heap.size + 1 + 1]? = some (.cells #[.int .u64 0, .int .u64 0, .int .u64 0, .int .u64 0] 31 (0, 0)) from h810); have rz1210 := rule4 h1210; have rz1710 := rule4 h17
              have H410 := Lib.hid h410; have H710 := Lib.hid h710; have H810 := Lib.hid h810; have H1210 := Lib.hid h1210; have H17 := Lib.hid h17; have HW10 := Lib.hid hw10; have HSY := Lib.hid hsy
              have h5w : w.heap.size + 2 < w5.heap.size := by have := lt_heap H8.out; have := HF5.out.size; omega
              clear h410 h710 h810 h1210 h17 hw10 hsy rz46 rz76 rz86 rz12 f9
              have HPR := Lib.hid (prt_rgo HI.out HRG.out hJ)
              have HY := Lib.hid hJ; clear hJ
              cases hx1 : x.one with
              | none =>
                have HFI := Lib.hid (RS.bad HGO.out (show prt l k = .inl (1, k) by rw [HPR.out, hx1]; rfl))
                have b1 : (none : Option UInt8).isSome = false := rfl
                go_wp2_with fail
                rw [← HW10.out]
                refine region_fr 10 (by kernel_rfl) (by kernel_rfl) ?_
                simp only [List.take_succ_cons, List.take_zero, List.drop_succ_cons, List.drop_zero]
                repeat (go_big_quiet_step (fail))
                refine wpQuiet_nil ?_
                intro wC fC
                have H4C := Lib.hid (fC.heap H410.out (fun x => x)); have FRC := Lib.hid (FR10.out.trans' fC)
                go_wp2
                (try simp only [Exit.inBlock, Exit.then])
                refine bodyPost_ret (results_setR3 (s := S4.zero) (by rfl) (by rfl) (by rfl) (by rfl) (setFour_heap H4C.out _ _ _ _)) rfl ⟨?_, setFour_frS FRC.out (Nat.le_refl _) _ _ _ _⟩
                rw [← HR.out, HP.out, HFI.out]
                rfl
              | some a1 =>
                cases hy1 : y.one with
                | none =>
                  have HFI := Lib.hid (RS.bad HGO.out (show prt l k = .inl (1, k) by rw [HPR.out, hx1, hy1]; rfl))
                  have b1 : (some a1 : Option UInt8).isSome = true := rfl
                  have b2 : (none : Option UInt8).isSome = false := rfl
                  go_wp2_with fail
                  rw [← HW10.out]
                  refine region_fr 10 (by kernel_rfl) (by kernel_rfl) ?_
                  simp only [List.take_succ_cons, List.take_zero, List.drop_succ_cons, List.drop_zero]
                  repeat (go_big_quiet_step (fail))
                  refine wpQuiet_nil ?_
                  intro wC fC
                  have H4C := Lib.hid (fC.heap H410.out (fun x => x)); have FRC := Lib.hid (FR10.out.trans' fC)
                  go_wp2
                  (try simp only [Exit.inBlock, Exit.then])
                  refine bodyPost_ret (results_setR3 (s := S4.zero) (by rfl) (by rfl) (by rfl) (by rfl) (setFour_heap H4C.out _ _ _ _)) rfl ⟨?_, setFour_frS FRC.out (Nat.le_refl _) _ _ _ _⟩
                  rw [← HR.out, HP.out, HFI.out]
                  rfl
                | some b1 =>
                  have b1' : (some a1 : Option UInt8).isSome = true := rfl
                  have b2' : (some b1 : Option UInt8).isSome = true := rfl
                  have hcx : ∀ w' : World, Calls Tryz.prog 106 #[setV sx] w' fun e w'' => e = .returned (.int .u8 (a1.toNat : Nat)) ∧ Fr nob w' w'' := fun w' => by
                    rw [← HSX.out, itm_one HI.out hx1]; exact rleast_one _ w' a1.toNat_lt
                  have hcy : ∀ w' : World, Calls Tryz.prog 106 #[setV sy] w' fun e w'' => e = .returned (.int .u8 (b1.toNat : Nat)) ∧ Fr nob w' w'' := fun w' => by
                    rw [← HSY.out, itm_one HY.out hy1]; exact rleast_one _ w' b1.toNat_lt
                  have CX := Lib.hid hcx; have CY := Lib.hid hcy; clear hcx hcy
                  by_cases hlt : a1.toNat ≤ b1.toNat
                  · have HRS := Lib.hid (RS.next HGO.out HLN.out (show prt l k = .inr (spn a1.toNat b1.toNat, y.next) by rw [HPR.out, hx1, hy1]; exact rgo_ok hlt))
                    have u6 : ¬ (b1.toNat : Int) < (a1.toNat : Int) := by omega
                    go_wp2_with fail
                    rw [← HW10.out]
                    refine region_fr 10 (by kernel_rfl) (by kernel_rfl) ?_
                    simp only [List.take_succ_cons, List.take_zero, List.drop_succ_cons, List.drop_zero]
                    repeat (go_big_quiet_step ((with_reducible exact calls_fr (CY.out _))))
                    refine wpQuiet_nil ?_
                    intro wC fC
                    go_wp2_with fail
                    refine (CX.out _).mono ?_
                    rintro e w11 ⟨rfl, f11⟩
                    have F11 := Lib.hid (fC.trans' f11)
                    have h411 := F11.out.heap H410.out (fun x => x)
                    have h711 := F11.out.heap H710.out (fun x => x)
                    have h811 := F11.out.heap H810.out (fun x => x)
                    have h1211 := F11.out.heap H1210.out (fun x => x)
                    have h1711 := F11.out.heap H17.out (fun x => x)
                    have FR11 := Lib.hid (FR10.out.trans' F11.out)
                    have rz411 := rule4 h411; have rz711 := rule4 h711; have rz1211 := rule4 h1211; have rz1711 := rule4 h1711
                    have H411 := Lib.hid h411; have H711 := Lib.hid h711; have H811 := Lib.hid h811; have H1211 := Lib.hid h1211
                    clear h411 h711 h811 h1211 h1711 f11 fC rz410 rz710 rz810 rz1210 rz1710
                    go_wp2_with fail
                    refine region_fr 3 (by kernel_rfl) (by kernel_rfl) ?_
                    simp only [List.take_succ_cons, List.take_zero, List.drop_succ_cons, List.drop_zero]
                    repeat (go_big_quiet_step ((with_reducible exact calls_fr (CX.out _))))
                    refine wpQuiet_nil ?_
                    intro wD fD
                    go_wp2_with fail
                    refine (CY.out _).mono ?_
                    rintro e w12 ⟨rfl, f12⟩
                    go_wp2_with fail
                    refine (spanR_lit a1.toNat b1.toNat w12 a1.toNat_lt b1.toNat_lt).mono ?_
                    obtain ⟨sz, hsz⟩ : ∃ sz, spn a1.toNat b1.toNat = sz := ⟨_, rfl⟩
                    rw [hsz] at HRS ⊢
                    have HSZ := Lib.hid hsz; clear hsz
                    rintro e w13 ⟨rfl, f13⟩
                    have F13 := Lib.hid ((fD.trans' f12).trans' f13)
                    have h1213 := F13.out.heap H1211.out (fun x => x)
                    have rz1213 := rule4 h1213
                    obtain ⟨w14, hw14⟩ : ∃ w14, w14 = (((w13.setCell ⟨w5.heap.size, 0, none⟩ (.int .u64 sz.a)).setCell ⟨w5.heap.size, 1, none⟩ (.int .u64 sz.b)).setCell ⟨w5.heap.size, 2, none⟩ (.int .u64 sz.c)).setCell ⟨w5.heap.size, 3, none⟩ (.int .u64 sz.d) := ⟨_, rfl⟩
                    have h1214 : AtR w14 w5.heap.size sz := by rw [hw14]; exact setFour_heap h1213 _ _ _ _
                    have h414 : AtR w14 w.heap.size S4.zero := by rw [hw14]; exact setFour_old (F13.out.heap H411.out (fun x => x)) (by omega) _ _ _ _
                    have h714 : AtR w14 (w.heap.size + 1) acc := by rw [hw14]; exact setFour_old (F13.out.heap H711.out (fun x => x)) (by omega) _ _ _ _
                    have h814 : AtR w14 (w.heap.size + 2) S4.zero := by rw [hw14]; exact setFour_old (F13.out.heap H811.out (fun x => x)) (by omega) _ _ _ _
                    have FR14 := Lib.hid (show Fr nob w w14 by rw [hw14]; exact setFour_frS (FR11.out.trans' F13.out) (by omega) _ _ _ _)
                    have H414 := Lib.hid h414; have H714 := Lib.hid h714; have H814 := Lib.hid h814; have HW14 := Lib.hid hw14
                    have rz714 := rule4 h714; have rz1214 := rule4 h1214
                    clear h1213 h1214 h414 h714 h814 hw14 f12 f13 fD rz411 rz711 rz1211 rz1711
                    go_wp2_with (rw [← HW14.out])
                    refine (orR_lit acc sz w14).mono ?_
                    obtain ⟨N, hN⟩ : ∃ N, acc.or sz = N := ⟨_, rfl⟩
                    have HFN := Lib.hid (show N.fit by rw [← hN]; exact fit_or _ _)
                    rw [hN] at HRS ⊢
                    clear hN
                    rintro e w20 ⟨rfl, f20⟩
                    have rn20 := rule4 (f20.heap H714.out (fun x => x))
                    obtain ⟨w21, hw21⟩ : ∃ w21, w21 = (((w20.setCell ⟨w.heap.size + 1, 0, none⟩ (.int .u64 N.a)).setCell ⟨w.heap.size + 1, 1, none⟩ (.int .u64 N.b)).setCell ⟨w.heap.size + 1, 2, none⟩ (.int .u64 N.c)).setCell ⟨w.heap.size + 1, 3, none⟩ (.int .u64 N.d) := ⟨_, rfl⟩
                    have h721 : AtR w21 (w.heap.size + 1) N := by rw [hw21]; exact setFour_heap (f20.heap H714.out (fun x => x)) _ _ _ _
                    have h421 : AtR w21 w.heap.size S4.zero := by rw [hw21]; exact setFour_old (f20.heap H414.out (fun x => x)) (by omega) _ _ _ _
                    have h821 : AtR w21 (w.heap.size + 2) S4.zero := by rw [hw21]; exact setFour_old (f20.heap H814.out (fun x => x)) (by omega) _ _ _ _
                    have FR21 := Lib.hid (show Fr nob w w21 by rw [hw21]; exact setFour_frS (FR14.out.trans' f20) (by omega) _ _ _ _)
                    have HINV := Lib.hid (show RInv l w F m (.int .i64 y.next) (.bool false) w21 from ⟨y.next, N, false, rfl, rfl, h721, h421, h821, FR21.out, HFN.out, HRS.out.2.1, HRS.out.2.2, HRS.out.1⟩)
                    have HW21 := Lib.hid hw21
                    clear h721 h421 h821 hw21 f20
                    go_wp2_with fail
                    rw [← HW21.out]
                    go_roundg m
                    case measure => omega
                    case rel => exact HINV.out
                  · have HFI := Lib.hid (RS.bad HGO.out (show prt l k = .inl (1, k) by rw [HPR.out, hx1, hy1]; exact rgo_no hlt))
                    have u6 : (b1.toNat : Int) < (a1.toNat : Int) := by omega
                    go_wp2_with fail
                    rw [← HW10.out]
                    refine region_fr 10 (by kernel_rfl) (by kernel_rfl) ?_
                    simp only [List.take_succ_cons, List.take_zero, List.drop_succ_cons, List.drop_zero]
                    repeat (go_big_quiet_step ((with_reducible exact calls_fr (CY.out _))))
                    refine wpQuiet_nil ?_
                    intro wC fC
                    go_wp2_with fail
                    refine (CX.out _).mono ?_
                    rintro e w11 ⟨rfl, f11⟩
                    have F11 := Lib.hid (fC.trans' f11)
                    have h411 := F11.out.heap H410.out (fun x => x)
                    have h811 := F11.out.heap H810.out (fun x => x)
                    have FR11 := Lib.hid (FR10.out.trans' F11.out)
                    have rz411 := rule4 h411; have rz811 := rule4 (show w11.heap[w.heap.size + 1 + 1]? = some (.cells #[.int .u64 0, .int .u64 0, .int .u64 0, .int .u64 0] 31 (0, 0)) from h811)
                    have H411 := Lib.hid h411
                    clear h411 h811 f11 fC rz410 rz710 rz810 rz1210 rz1710
                    go_wp2
                    (try simp only [Exit.inBlock, Exit.then])
                    refine bodyPost_ret (results_setR3 (s := S4.zero) (by rfl) (by rfl) (by rfl) (by rfl) (setFour_heap H411.out _ _ _ _)) rfl ⟨?_, setFour_frS FR11.out (Nat.le_refl _) _ _ _ _⟩
                    rw [← HR.out, HP.out, HFI.out]
                    rfl


set_option maxRecDepth 100000 in
set_option maxHeartbeats 8000000 in
theorem rparse_end (l : List UInt8) (a : Nat) (w : World) (hl : l.length ≤ 100000) (ha : a ≤ l.length) (hge : l.length ≤ a) :
    Calls Tryz.prog 92 #[.string ⟨l.toArray⟩, .int .i64 a] w (PAns (prs l a) w) := by
  obtain ⟨w0, hw0⟩ : ∃ w0, w0 = ((w.alloc (.cells #[.int .u64 0, .int .u64 0, .int .u64 0, .int .u64 0] 31)).alloc (.cells #[.int .u64 0, .int .u64 0, .int .u64 0, .int .u64 0] 31)).alloc (.cells #[.int .u64 0, .int .u64 0, .int .u64 0, .int .u64 0] 31) := ⟨_, rfl⟩
  have h4 : AtR w0 w.heap.size S4.zero := by rw [hw0]; exact heap_alloc_lt _ (heap_alloc_lt _ (newAt _ _))
  have h7 : AtR w0 (w.heap.size + 1) S4.zero := (show w0.heap[w.heap.size + 1]? = some (.cells #[.int .u64 0, .int .u64 0, .int .u64 0, .int .u64 0] 31 (0, 0)) by rw [hw0]; have := newAt (w.alloc (.cells #[.int .u64 0, .int .u64 0, .int .u64 0, .int .u64 0] 31)) (.cells #[.int .u64 0, .int .u64 0, .int .u64 0, .int .u64 0] 31); exact heap_alloc_lt _ (by simpa using this))
  have h8 : AtR w0 (w.heap.size + 2) S4.zero := (show w0.heap[w.heap.size + 2]? = some (.cells #[.int .u64 0, .int .u64 0, .int .u64 0, .int .u64 0] 31 (0, 0)) by rw [hw0]; have := newAt ((w.alloc (.cells #[.int .u64 0, .int .u64 0, .int .u64 0, .int .u64 0] 31)).alloc (.cells #[.int .u64 0, .int .u64 0, .int .u64 0, .int .u64 0] 31)) (.cells #[.int .u64 0, .int .u64 0, .int .u64 0, .int .u64 0] 31); simpa using this)
  have F0 := Lib.hid (show Fr nob w w0 by rw [hw0]; exact (((Fr.refl _ _).alloc _).alloc _).alloc _)
  have H4 := Lib.hid h4; have H7 := Lib.hid h7; have H8 := Lib.hid h8; have HW := Lib.hid hw0
  clear hw0 h4 h7 h8
  have t0 : ¬ (a : Int) < 0 := by omega
  have t0' : ¬ (l.length : Int) < a := by omega
  obtain ⟨F, hF⟩ : ∃ F, lopF l (l.length + 1) (prt l (a)) = F := ⟨_, rfl⟩
  have HP := Lib.hid (show prs l a = prsNot false F by rw [← hF]; exact prs_no (by cases hb : [94].isPrefixOf (l.drop a) with | false => rfl | true => exact absurd ((List.getElem?_eq_some_iff.1 (pre1.1 hb)).1) (by omega)))
  obtain ⟨R, hR⟩ : ∃ R, prs l a = R := ⟨_, rfl⟩
  rw [hR]
  have HR := Lib.hid hR; have HF := Lib.hid hF; clear hR hF
  have t1 : ¬ (a : Int) < l.length := by omega
  go_enter Tryz.func92, Tryz.ntmps92
  iterate 26 go_step
  rw [← HW.out]
  go_wp2_with fail
  go_loopg [1, 10] (l.length + 2) (fun n v1 v10 wr => RInv l w F n v1 v10 wr)
  case atStart => exact ⟨a, S4.zero, true, by go_num, rfl, H7.out, H4.out, H8.out, F0.out, fit_zero, ha, by omega, by unfold RS; exact ⟨rfl, rfl, HF.out⟩⟩
  case round =>
    obtain ⟨k, acc, fst, rfl, rfl, h7, h4, h8, hfr, hfit, hk, hng, hrs⟩ := hrel
    obtain ⟨m, rfl⟩ : ∃ m, gk = m + 1 := ⟨gk - 1, by omega⟩
    have rz4 := rule4 (show wr.heap[w.heap.size]? = some (.cells #[.int .u64 0, .int .u64 0, .int .u64 0, .int .u64 0] 31 (0, 0)) from h4)
    have rz7 := rule4 h7
    have rz8 := rule4 (show wr.heap[w.heap.size + 1 + 1]? = some (.cells #[.int .u64 0, .int .u64 0, .int .u64 0, .int .u64 0] 31 (0, 0)) from h8)
    have H4 := Lib.hid h4; have H7 := Lib.hid h7; have H8 := Lib.hid h8; have FR := Lib.hid hfr; have FIT := Lib.hid hfit; have RSS := Lib.hid hrs
    clear h4 h7 h8 hfr hfit hrs
    have hk0 : (0 : Int) ≤ k := by omega
    have hkl : (k : Int) ≤ l.length := by omega
    have hwr : IntKind.i64.wrap ((k : Int) + 1) = (k : Int) + 1 := IntWalk.i64_in _ (by omega)
    by_cases hst : fst = false ∧ l[k]? = some 93
    · obtain ⟨rfl, h93⟩ := hst
      have HFE := Lib.hid (RSS.out.halt h93)
      have hlk := (List.getElem?_eq_some_iff.1 h93).1
      have u1 : ¬ (l.length : Int) ≤ k := by omega
      have u1' : (k : Int) < l.length := by omega
      have u2 : (((l[k]).toNat : Int) != 93) = false := tn_eq (List.getElem?_eq_some_iff.1 h93).2
      clear h93
      go_wp2_with fail
      (try simp only [Exit.inBlock, Exit.then])
      refine bodyPost_ret (results_setR3 (s := acc) (by rfl) (by rfl) (by rfl) (by rfl) (setFour_heap H4.out _ _ _ _)) rfl ⟨?_, setFour_frS FR.out (Nat.le_refl _) _ _ _ _⟩
      rw [← HR.out, HP.out, HFE.out]
      rfl
    · have hgo := RSS.out.go (by cases fst with | true => exact .inl rfl | false => exact .inr (fun e => hst ⟨rfl, e⟩))
      have HGO := Lib.hid hgo; clear hgo
      have HLN := Lib.hid (lopN_go (l := l) (n := m) (a := k) (s := acc) (by omega))
      have hcond : fst = true ∨ (fst = false ∧ l.length ≤ k) ∨ (fst = false ∧ ∃ h : k < l.length, l[k] ≠ 93) := by
        cases fst with
        | true => exact .inl rfl
        | false =>
          by_cases hkk : l.length ≤ k
          · exact .inr (.inl ⟨rfl, hkk⟩)
          · exact .inr (.inr ⟨rfl, by omega, fun e => hst ⟨rfl, by rw [List.getElem?_eq_getElem (by omega), e]⟩⟩)
      clear hst
      go_step
      go_cut [] (fun w' => wr = w')
      case first =>
        rcases hcond with rfl | ⟨rfl, hge⟩ | ⟨rfl, hlk, hne⟩
        · go_wp2
          go_meet
          case rel => exact rfl
        · have u1 : (l.length : Int) ≤ k := by omega
          go_wp2
          go_meet
          case rel => exact rfl
        · have u1 : ¬ (l.length : Int) ≤ k := by omega
          have u1' : (k : Int) < l.length := by omega
          have u2 : (((l[k]).toNat : Int) != 93) = true := tn_ne hne
          clear hne
          go_wp2
          go_meet
          case rel => exact rfl
      case rest =>
        obtain rfl := hcut
        clear hcond
        go_wp2_with fail
        refine (ritem_any l k wr hl (by omega)).mono ?_
        cases hI : itm l k with
        | inl z =>
          rintro e w5 ⟨rfl, f5⟩
          have hz := itm_err hI
          have v1 : (z.1 != 0) = true := by simpa using hz
          have HFI := Lib.hid (show F = .inl z by rw [← HGO.out, prt_inl hI]; rfl)
          have rz85 := rule4 (show w5.heap[w.heap.size + 1 + 1]? = some (.cells #[.int .u64 0, .int .u64 0, .int .u64 0, .int .u64 0] 31 (0, 0)) from f5.heap H8.out (fun x => x))
          have H45 := Lib.hid (f5.heap H4.out (fun x => x)); have FR5 := Lib.hid (FR.out.trans' f5)
          have rz45 := rule4 (show w5.heap[w.heap.size]? = some (.cells #[.int .u64 0, .int .u64 0, .int .u64 0, .int .u64 0] 31 (0, 0)) from H45.out)
          clear hz f5 hI
          rw [show ritV (.inl z) = .tuple #[.agg #[.int .u64 0, .int .u64 0, .int .u64 0, .int .u64 0], .bool false, .int .i64 0, .int .i64 z.1, .int .i64 z.2] from rfl]
          have ha5 : Fr nob w5 (w5.alloc (.cells #[.int .u64 0, .int .u64 0, .int .u64 0, .int .u64 0] 31)) := (Fr.refl _ _).alloc _
          have H45a := Lib.hid (ha5.heap H45.out (fun x => x)); have FR5a := Lib.hid (FR5.out.trans' ha5)
          clear ha5
          go_wp2
          (try simp only [Exit.inBlock, Exit.then])
          refine bodyPost_ret (results_setR3 (s := S4.zero) (by rfl) (by rfl) (by rfl) (by rfl) (setFour_heap H45a.out _ _ _ _)) rfl ⟨?_, setFour_frS FR5a.out (Nat.le_refl _) _ _ _ _⟩
          rw [← HR.out, HP.out, HFI.out]
          rfl
        | inr x =>
          rintro e w5 ⟨rfl, f5⟩
          rw [show ritV (.inr x) = .tuple #[setV x.set, .bool x.one.isSome, .int .i64 x.next, .int .i64 0, .int .i64 0] from rfl]
          have hin := itm_next hI
          obtain ⟨sx, hsx⟩ : ∃ sx, x.set = sx := ⟨_, rfl⟩
          rw [hsx]
          obtain ⟨w6, hw6⟩ : ∃ w6, w6 = w5.alloc (.cells #[.int .u64 sx.a, .int .u64 sx.b, .int .u64 sx.c, .int .u64 sx.d] 31) := ⟨_, rfl⟩
          have f56 : Fr nob w5 w6 := by rw [hw6]; exact (Fr.refl _ _).alloc _
          have h12 : AtR w6 w5.heap.size sx := by rw [hw6]; exact newAt _ _
          have H12 := Lib.hid h12; have F56 := Lib.hid (f5.trans' f56); have HW6 := Lib.hid hw6; have HI := Lib.hid hI; have HSX := Lib.hid hsx
          have rz12 := rule4 h12
          have HF5 := Lib.hid f5
          clear h12 hw6 hsx hI
          have F6 := Lib.hid (f5.trans' f56)
          have h46 := F6.out.heap H4.out (fun x => x)
          have h76 := F6.out.heap H7.out (fun x => x)
          have h86 := F6.out.heap H8.out (fun x => x)
          have FR6 := Lib.hid (FR.out.trans' F6.out)
          have rz46 := rule4 (HF5.out.heap H4.out (fun x => x)); have rz76 := rule4 (HF5.out.heap H7.out (fun x => x)); have rz86 := rule4 (show w5.heap[w.heap.size + 1 + 1]? = some (.cells #[.int .u64 0, .int .u64 0, .int .u64 0, .int .u64 0] 31 (0, 0)) from HF5.out.heap H8.out (fun x => x))
          have H46 := Lib.hid h46; have H76 := Lib.hid h76; have H86 := Lib.hid h86
          clear h46 h76 h86 f56 rz4 rz7 rz8 f5
          have hn0 : (0 : Int) ≤ x.next := by omega
          have hnl : (x.next : Int) ≤ l.length := by have := hin.2.1; omega
          have hwn : IntKind.i64.wrap ((x.next : Int) + 1) = (x.next : Int) + 1 := IntWalk.i64_in _ (by omega)
          have HIN := Lib.hid hin; clear hin
          cases hr : rng l x.next with
          | false =>
            have hps := prt_set HI.out hr
            rw [HSX.out] at hps
            have HRS := Lib.hid (RS.next HGO.out HLN.out hps)
            clear hps
            have hrn := rng_no hr
            clear hr
            rcases hrn with h1 | ⟨h1, h2⟩ | ⟨h1, h2, h3⟩
            · have u3 : ¬ (x.next : Int) + 1 < l.length := by omega
              clear h1
              go_wp2_with fail
              rw [← HW6.out]
              refine (orR_lit acc sx w6).mono ?_
              obtain ⟨N, hN⟩ : ∃ N, acc.or sx = N := ⟨_, rfl⟩
              have HFN := Lib.hid (show N.fit by rw [← hN]; exact fit_or _ _)
              rw [hN] at HRS ⊢
              clear hN
              rintro e w20 ⟨rfl, f20⟩
              have rn20 := rule4 (f20.heap H76.out (fun x => x))
              obtain ⟨w21, hw21⟩ : ∃ w21, w21 = (((w20.setCell ⟨w.heap.size + 1, 0, none⟩ (.int .u64 N.a)).setCell ⟨w.heap.size + 1, 1, none⟩ (.int .u64 N.b)).setCell ⟨w.heap.size + 1, 2, none⟩ (.int .u64 N.c)).setCell ⟨w.heap.size + 1, 3, none⟩ (.int .u64 N.d) := ⟨_, rfl⟩
              have h721 : AtR w21 (w.heap.size + 1) N := by rw [hw21]; exact setFour_heap (f20.heap H76.out (fun x => x)) _ _ _ _
              have h421 : AtR w21 w.heap.size S4.zero := by rw [hw21]; exact setFour_old (f20.heap H46.out (fun x => x)) (by omega) _ _ _ _
              have h821 : AtR w21 (w.heap.size + 2) S4.zero := by rw [hw21]; exact setFour_old (f20.heap H86.out (fun x => x)) (by omega) _ _ _ _
              have FR21 := Lib.hid (show Fr nob w w21 by rw [hw21]; exact setFour_frS (FR6.out.trans' f20) (by omega) _ _ _ _)
              have HINV := Lib.hid (show RInv l w F m (.int .i64 x.next) (.bool false) w21 from ⟨x.next, N, false, rfl, rfl, h721, h421, h821, FR21.out, HFN.out, HRS.out.2.1, HRS.out.2.2, HRS.out.1⟩)
              have HW21 := Lib.hid hw21
              clear h721 h421 h821 hw21 f20
              go_wp2_with fail
              rw [← HW21.out]
              go_roundg m
              case measure => omega
              case rel => exact HINV.out
            · have u3 : (x.next : Int) + 1 < l.length := by omega
              have u3' : (x.next : Int) < l.length := by omega
              have u4 : (((l[x.next]).toNat : Int) == 45) = false := tb_ne h2
              clear h2
              go_wp2_with fail
              rw [← HW6.out]
              refine (orR_lit acc sx w6).mono ?_
              obtain ⟨N, hN⟩ : ∃ N, acc.or sx = N := ⟨_, rfl⟩
              have HFN := Lib.hid (show N.fit by rw [← hN]; exact fit_or _ _)
              rw [hN] at HRS ⊢
              clear hN
              rintro e w20 ⟨rfl, f20⟩
              have rn20 := rule4 (f20.heap H76.out (fun x => x))
              obtain ⟨w21, hw21⟩ : ∃ w21, w21 = (((w20.setCell ⟨w.heap.size + 1, 0, none⟩ (.int .u64 N.a)).setCell ⟨w.heap.size + 1, 1, none⟩ (.int .u64 N.b)).setCell ⟨w.heap.size + 1, 2, none⟩ (.int .u64 N.c)).setCell ⟨w.heap.size + 1, 3, none⟩ (.int .u64 N.d) := ⟨_, rfl⟩
              have h721 : AtR w21 (w.heap.size + 1) N := by rw [hw21]; exact setFour_heap (f20.heap H76.out (fun x => x)) _ _ _ _
              have h421 : AtR w21 w.heap.size S4.zero := by rw [hw21]; exact setFour_old (f20.heap H46.out (fun x => x)) (by omega) _ _ _ _
              have h821 : AtR w21 (w.heap.size + 2) S4.zero := by rw [hw21]; exact setFour_old (f20.heap H86.out (fun x => x)) (by omega) _ _ _ _
              have FR21 := Lib.hid (show Fr nob w w21 by rw [hw21]; exact setFour_frS (FR6.out.trans' f20) (by omega) _ _ _ _)
              have HINV := Lib.hid (show RInv l w F m (.int .i64 x.next) (.bool false) w21 from ⟨x.next, N, false, rfl, rfl, h721, h421, h821, FR21.out, HFN.out, HRS.out.2.1, HRS.out.2.2, HRS.out.1⟩)
              have HW21 := Lib.hid hw21
              clear h721 h421 h821 hw21 f20
              go_wp2_with fail
              rw [← HW21.out]
              go_roundg m
              case measure => omega
              case rel => exact HINV.out
            · have u3 : (x.next : Int) + 1 < l.length := by omega
              have u3' : (x.next : Int) < l.length := by omega
              have u4 : (((l[x.next]).toNat : Int) == 45) = true := tb_eq h2
              have u5 : (((l[x.next + 1]).toNat : Int) != 93) = false := tn_eq h3
              clear h2 h3
              go_wp2_with fail
              rw [← HW6.out]
              refine (orR_lit acc sx w6).mono ?_
              obtain ⟨N, hN⟩ : ∃ N, acc.or sx = N := ⟨_, rfl⟩
              have HFN := Lib.hid (show N.fit by rw [← hN]; exact fit_or _ _)
              rw [hN] at HRS ⊢
              clear hN
              rintro e w20 ⟨rfl, f20⟩
              have rn20 := rule4 (f20.heap H76.out (fun x => x))
              obtain ⟨w21, hw21⟩ : ∃ w21, w21 = (((w20.setCell ⟨w.heap.size + 1, 0, none⟩ (.int .u64 N.a)).setCell ⟨w.heap.size + 1, 1, none⟩ (.int .u64 N.b)).setCell ⟨w.heap.size + 1, 2, none⟩ (.int .u64 N.c)).setCell ⟨w.heap.size + 1, 3, none⟩ (.int .u64 N.d) := ⟨_, rfl⟩
              have h721 : AtR w21 (w.heap.size + 1) N := by rw [hw21]; exact setFour_heap (f20.heap H76.out (fun x => x)) _ _ _ _
              have h421 : AtR w21 w.heap.size S4.zero := by rw [hw21]; exact setFour_old (f20.heap H46.out (fun x => x)) (by omega) _ _ _ _
              have h821 : AtR w21 (w.heap.size + 2) S4.zero := by rw [hw21]; exact setFour_old (f20.heap H86.out (fun x => x)) (by omega) _ _ _ _
              have FR21 := Lib.hid (show Fr nob w w21 by rw [hw21]; exact setFour_frS (FR6.out.trans' f20) (by omega) _ _ _ _)
              have HINV := Lib.hid (show RInv l w F m (.int .i64 x.next) (.bool false) w21 from ⟨x.next, N, false, rfl, rfl, h721, h421, h821, FR21.out, HFN.out, HRS.out.2.1, HRS.out.2.2, HRS.out.1⟩)
              have HW21 := Lib.hid hw21
              clear h721 h421 h821 hw21 f20
              go_wp2_with fail
              rw [← HW21.out]
              go_roundg m
              case measure => omega
              case rel => exact HINV.out
          | true =>
            obtain ⟨h1, h2, h3⟩ := rng_yes hr
            have HRG := Lib.hid hr; clear hr
            have u3 : (x.next : Int) + 1 < l.length := by omega
            have u3' : (x.next : Int) < l.length := by omega
            have u4 : (((l[x.next]).toNat : Int) == 45) = true := tb_eq h2
            have u5 : (((l[x.next + 1]).toNat : Int) != 93) = true := tn_ne h3
            clear h2 h3
            have HIT := Lib.hid (ritem_any l (x.next + 1) w6 hl (by omega))
            rw [show ((x.next + 1 : Nat) : Int) = (x.next : Int) + 1 from rfl] at HIT
            go_wp2_with fail
            rw [← HW6.out]
            refine HIT.out.mono ?_
            clear HIT
            cases hJ : itm l (x.next + 1) with
            | inl z =>
              rintro e w9 ⟨rfl, f9⟩
              have hz := itm_err hJ
              have v1 : (z.1 != 0) = true := by simpa using hz
              have HFI := Lib.hid (RS.bad HGO.out (prt_bad HI.out HRG.out hJ))
              have rz89 := rule4 (show w9.heap[w.heap.size + 1 + 1]? = some (.cells #[.int .u64 0, .int .u64 0, .int .u64 0, .int .u64 0] 31 (0, 0)) from f9.heap H86.out (fun x => x))
              have H49 := Lib.hid (f9.heap H46.out (fun x => x)); have FR9 := Lib.hid (FR6.out.trans' f9)
              have rz49 := rule4 (show w9.heap[w.heap.size]? = some (.cells #[.int .u64 0, .int .u64 0, .int .u64 0, .int .u64 0] 31 (0, 0)) from H49.out)
              clear hz f9 hJ
              rw [show ritV (.inl z) = .tuple #[.agg #[.int .u64 0, .int .u64 0, .int .u64 0, .int .u64 0], .bool false, .int .i64 0, .int .i64 z.1, .int .i64 z.2] from rfl]
              have ha9 : Fr nob w9 (w9.alloc (.cells #[.int .u64 0, .int .u64 0, .int .u64 0, .int .u64 0] 31)) := (Fr.refl _ _).alloc _
              have H49a := Lib.hid (ha9.heap H49.out (fun x => x)); have FR9a := Lib.hid (FR9.out.trans' ha9)
              clear ha9
              go_wp2
              (try simp only [Exit.inBlock, Exit.then])
              refine bodyPost_ret (results_setR3 (s := S4.zero) (by rfl) (by rfl) (by rfl) (by rfl) (setFour_heap H49a.out _ _ _ _)) rfl ⟨?_, setFour_frS FR9a.out (Nat.le_refl _) _ _ _ _⟩
              rw [← HR.out, HP.out, HFI.out]
              rfl
            | inr y =>
              rintro e w9 ⟨rfl, f9⟩
              rw [show ritV (.inr y) = .tuple #[setV y.set, .bool y.one.isSome, .int .i64 y.next, .int .i64 0, .int .i64 0] from rfl]
              obtain ⟨sy, hsy⟩ : ∃ sy, y.set = sy := ⟨_, rfl⟩
              rw [hsy]
              obtain ⟨w10, hw10⟩ : ∃ w10, w10 = w9.alloc (.cells #[.int .u64 sy.a, .int .u64 sy.b, .int .u64 sy.c, .int .u64 sy.d] 31) := ⟨_, rfl⟩
              have F610 := Lib.hid (show Fr nob w6 w10 by rw [hw10]; exact f9.alloc _)
              have h17 : AtR w10 w9.heap.size sy := by rw [hw10]; exact newAt _ _
              have h410 := F610.out.heap H46.out (fun x => x)
              have h710 := F610.out.heap H76.out (fun x => x)
              have h810 := F610.out.heap H86.out (fun x => x)
              have h1210 := F610.out.heap H12.out (fun x => x)
              have FR10 := Lib.hid (FR6.out.trans' F610.out)
              have rz410 := rule4 h410; have rz710 := rule4 h710; have rz810 := rule4 (show w10.heap[w.heap.size + 1 + 1]? = some (.cells #[.int .u64 0, .int .u64 0, .int .u64 0, .int .u64 0] 31 (0, 0)) from h810); have rz1210 := rule4 h1210; have rz1710 := rule4 h17
              have H410 := Lib.hid h410; have H710 := Lib.hid h710; have H810 := Lib.hid h810; have H1210 := Lib.hid h1210; have H17 := Lib.hid h17; have HW10 := Lib.hid hw10; have HSY := Lib.hid hsy
              have h5w : w.heap.size + 2 < w5.heap.size := by have := lt_heap H8.out; have := HF5.out.size; omega
              clear h410 h710 h810 h1210 h17 hw10 hsy rz46 rz76 rz86 rz12 f9
              have HPR := Lib.hid (prt_rgo HI.out HRG.out hJ)
              have HY := Lib.hid hJ; clear hJ
              cases hx1 : x.one with
              | none =>
                have HFI := Lib.hid (RS.bad HGO.out (show prt l k = .inl (1, k) by rw [HPR.out, hx1]; rfl))
                have b1 : (none : Option UInt8).isSome = false := rfl
                go_wp2_with fail
                rw [← HW10.out]
                refine region_fr 10 (by kernel_rfl) (by kernel_rfl) ?_
                simp only [List.take_succ_cons, List.take_zero, List.drop_succ_cons, List.drop_zero]
                repeat (go_big_quiet_step (fail))
                refine wpQuiet_nil ?_
                intro wC fC
                have H4C := Lib.hid (fC.heap H410.out (fun x => x)); have FRC := Lib.hid (FR10.out.trans' fC)
                go_wp2
                (try simp only [Exit.inBlock, Exit.then])
                refine bodyPost_ret (results_setR3 (s := S4.zero) (by rfl) (by rfl) (by rfl) (by rfl) (setFour_heap H4C.out _ _ _ _)) rfl ⟨?_, setFour_frS FRC.out (Nat.le_refl _) _ _ _ _⟩
                rw [← HR.out, HP.out, HFI.out]
                rfl
              | some a1 =>
                cases hy1 : y.one with
                | none =>
                  have HFI := Lib.hid (RS.bad HGO.out (show prt l k = .inl (1, k) by rw [HPR.out, hx1, hy1]; rfl))
                  have b1 : (some a1 : Option UInt8).isSome = true := rfl
                  have b2 : (none : Option UInt8).isSome = false := rfl
                  go_wp2_with fail
                  rw [← HW10.out]
                  refine region_fr 10 (by kernel_rfl) (by kernel_rfl) ?_
                  simp only [List.take_succ_cons, List.take_zero, List.drop_succ_cons, List.drop_zero]
                  repeat (go_big_quiet_step (fail))
                  refine wpQuiet_nil ?_
                  intro wC fC
                  have H4C := Lib.hid (fC.heap H410.out (fun x => x)); have FRC := Lib.hid (FR10.out.trans' fC)
                  go_wp2
                  (try simp only [Exit.inBlock, Exit.then])
                  refine bodyPost_ret (results_setR3 (s := S4.zero) (by rfl) (by rfl) (by rfl) (by rfl) (setFour_heap H4C.out _ _ _ _)) rfl ⟨?_, setFour_frS FRC.out (Nat.le_refl _) _ _ _ _⟩
                  rw [← HR.out, HP.out, HFI.out]
                  rfl
                | some b1 =>
                  have b1' : (some a1 : Option UInt8).isSome = true := rfl
                  have b2' : (some b1 : Option UInt8).isSome = true := rfl
                  have hcx : ∀ w' : World, Calls Tryz.prog 106 #[setV sx] w' fun e w'' => e = .returned (.int .u8 (a1.toNat : Nat)) ∧ Fr nob w' w'' := fun w' => by
                    rw [← HSX.out, itm_one HI.out hx1]; exact rleast_one _ w' a1.toNat_lt
                  have hcy : ∀ w' : World, Calls Tryz.prog 106 #[setV sy] w' fun e w'' => e = .returned (.int .u8 (b1.toNat : Nat)) ∧ Fr nob w' w'' := fun w' => by
                    rw [← HSY.out, itm_one HY.out hy1]; exact rleast_one _ w' b1.toNat_lt
                  have CX := Lib.hid hcx; have CY := Lib.hid hcy; clear hcx hcy
                  by_cases hlt : a1.toNat ≤ b1.toNat
                  · have HRS := Lib.hid (RS.next HGO.out HLN.out (show prt l k = .inr (spn a1.toNat b1.toNat, y.next) by rw [HPR.out, hx1, hy1]; exact rgo_ok hlt))
                    have u6 : ¬ (b1.toNat : Int) < (a1.toNat : Int) := by omega
                    go_wp2_with fail
                    rw [← HW10.out]
                    refine region_fr 10 (by kernel_rfl) (by kernel_rfl) ?_
                    simp only [List.take_succ_cons, List.take_zero, List.drop_succ_cons, List.drop_zero]
                    repeat (go_big_quiet_step ((with_reducible exact calls_fr (CY.out _))))
                    refine wpQuiet_nil ?_
                    intro wC fC
                    go_wp2_with fail
                    refine (CX.out _).mono ?_
                    rintro e w11 ⟨rfl, f11⟩
                    have F11 := Lib.hid (fC.trans' f11)
                    have h411 := F11.out.heap H410.out (fun x => x)
                    have h711 := F11.out.heap H710.out (fun x => x)
                    have h811 := F11.out.heap H810.out (fun x => x)
                    have h1211 := F11.out.heap H1210.out (fun x => x)
                    have h1711 := F11.out.heap H17.out (fun x => x)
                    have FR11 := Lib.hid (FR10.out.trans' F11.out)
                    have rz411 := rule4 h411; have rz711 := rule4 h711; have rz1211 := rule4 h1211; have rz1711 := rule4 h1711
                    have H411 := Lib.hid h411; have H711 := Lib.hid h711; have H811 := Lib.hid h811; have H1211 := Lib.hid h1211
                    clear h411 h711 h811 h1211 h1711 f11 fC rz410 rz710 rz810 rz1210 rz1710
                    go_wp2_with fail
                    refine region_fr 3 (by kernel_rfl) (by kernel_rfl) ?_
                    simp only [List.take_succ_cons, List.take_zero, List.drop_succ_cons, List.drop_zero]
                    repeat (go_big_quiet_step ((with_reducible exact calls_fr (CX.out _))))
                    refine wpQuiet_nil ?_
                    intro wD fD
                    go_wp2_with fail
                    refine (CY.out _).mono ?_
                    rintro e w12 ⟨rfl, f12⟩
                    go_wp2_with fail
                    refine (spanR_lit a1.toNat b1.toNat w12 a1.toNat_lt b1.toNat_lt).mono ?_
                    obtain ⟨sz, hsz⟩ : ∃ sz, spn a1.toNat b1.toNat = sz := ⟨_, rfl⟩
                    rw [hsz] at HRS ⊢
                    have HSZ := Lib.hid hsz; clear hsz
                    rintro e w13 ⟨rfl, f13⟩
                    have F13 := Lib.hid ((fD.trans' f12).trans' f13)
                    have h1213 := F13.out.heap H1211.out (fun x => x)
                    have rz1213 := rule4 h1213
                    obtain ⟨w14, hw14⟩ : ∃ w14, w14 = (((w13.setCell ⟨w5.heap.size, 0, none⟩ (.int .u64 sz.a)).setCell ⟨w5.heap.size, 1, none⟩ (.int .u64 sz.b)).setCell ⟨w5.heap.size, 2, none⟩ (.int .u64 sz.c)).setCell ⟨w5.heap.size, 3, none⟩ (.int .u64 sz.d) := ⟨_, rfl⟩
                    have h1214 : AtR w14 w5.heap.size sz := by rw [hw14]; exact setFour_heap h1213 _ _ _ _
                    have h414 : AtR w14 w.heap.size S4.zero := by rw [hw14]; exact setFour_old (F13.out.heap H411.out (fun x => x)) (by omega) _ _ _ _
                    have h714 : AtR w14 (w.heap.size + 1) acc := by rw [hw14]; exact setFour_old (F13.out.heap H711.out (fun x => x)) (by omega) _ _ _ _
                    have h814 : AtR w14 (w.heap.size + 2) S4.zero := by rw [hw14]; exact setFour_old (F13.out.heap H811.out (fun x => x)) (by omega) _ _ _ _
                    have FR14 := Lib.hid (show Fr nob w w14 by rw [hw14]; exact setFour_frS (FR11.out.trans' F13.out) (by omega) _ _ _ _)
                    have H414 := Lib.hid h414; have H714 := Lib.hid h714; have H814 := Lib.hid h814; have HW14 := Lib.hid hw14
                    have rz714 := rule4 h714; have rz1214 := rule4 h1214
                    clear h1213 h1214 h414 h714 h814 hw14 f12 f13 fD rz411 rz711 rz1211 rz1711
                    go_wp2_with (rw [← HW14.out])
                    refine (orR_lit acc sz w14).mono ?_
                    obtain ⟨N, hN⟩ : ∃ N, acc.or sz = N := ⟨_, rfl⟩
                    have HFN := Lib.hid (show N.fit by rw [← hN]; exact fit_or _ _)
                    rw [hN] at HRS ⊢
                    clear hN
                    rintro e w20 ⟨rfl, f20⟩
                    have rn20 := rule4 (f20.heap H714.out (fun x => x))
                    obtain ⟨w21, hw21⟩ : ∃ w21, w21 = (((w20.setCell ⟨w.heap.size + 1, 0, none⟩ (.int .u64 N.a)).setCell ⟨w.heap.size + 1, 1, none⟩ (.int .u64 N.b)).setCell ⟨w.heap.size + 1, 2, none⟩ (.int .u64 N.c)).setCell ⟨w.heap.size + 1, 3, none⟩ (.int .u64 N.d) := ⟨_, rfl⟩
                    have h721 : AtR w21 (w.heap.size + 1) N := by rw [hw21]; exact setFour_heap (f20.heap H714.out (fun x => x)) _ _ _ _
                    have h421 : AtR w21 w.heap.size S4.zero := by rw [hw21]; exact setFour_old (f20.heap H414.out (fun x => x)) (by omega) _ _ _ _
                    have h821 : AtR w21 (w.heap.size + 2) S4.zero := by rw [hw21]; exact setFour_old (f20.heap H814.out (fun x => x)) (by omega) _ _ _ _
                    have FR21 := Lib.hid (show Fr nob w w21 by rw [hw21]; exact setFour_frS (FR14.out.trans' f20) (by omega) _ _ _ _)
                    have HINV := Lib.hid (show RInv l w F m (.int .i64 y.next) (.bool false) w21 from ⟨y.next, N, false, rfl, rfl, h721, h421, h821, FR21.out, HFN.out, HRS.out.2.1, HRS.out.2.2, HRS.out.1⟩)
                    have HW21 := Lib.hid hw21
                    clear h721 h421 h821 hw21 f20
                    go_wp2_with fail
                    rw [← HW21.out]
                    go_roundg m
                    case measure => omega
                    case rel => exact HINV.out
                  · have HFI := Lib.hid (RS.bad HGO.out (show prt l k = .inl (1, k) by rw [HPR.out, hx1, hy1]; exact rgo_no hlt))
                    have u6 : (b1.toNat : Int) < (a1.toNat : Int) := by omega
                    go_wp2_with fail
                    rw [← HW10.out]
                    refine region_fr 10 (by kernel_rfl) (by kernel_rfl) ?_
                    simp only [List.take_succ_cons, List.take_zero, List.drop_succ_cons, List.drop_zero]
                    repeat (go_big_quiet_step ((with_reducible exact calls_fr (CY.out _))))
                    refine wpQuiet_nil ?_
                    intro wC fC
                    go_wp2_with fail
                    refine (CX.out _).mono ?_
                    rintro e w11 ⟨rfl, f11⟩
                    have F11 := Lib.hid (fC.trans' f11)
                    have h411 := F11.out.heap H410.out (fun x => x)
                    have h811 := F11.out.heap H810.out (fun x => x)
                    have FR11 := Lib.hid (FR10.out.trans' F11.out)
                    have rz411 := rule4 h411; have rz811 := rule4 (show w11.heap[w.heap.size + 1 + 1]? = some (.cells #[.int .u64 0, .int .u64 0, .int .u64 0, .int .u64 0] 31 (0, 0)) from h811)
                    have H411 := Lib.hid h411
                    clear h411 h811 f11 fC rz410 rz710 rz810 rz1210 rz1710
                    go_wp2
                    (try simp only [Exit.inBlock, Exit.then])
                    refine bodyPost_ret (results_setR3 (s := S4.zero) (by rfl) (by rfl) (by rfl) (by rfl) (setFour_heap H411.out _ _ _ _)) rfl ⟨?_, setFour_frS FR11.out (Nat.le_refl _) _ _ _ _⟩
                    rw [← HR.out, HP.out, HFI.out]
                    rfl


end Go.Proofs.YtepeomphikhbkaaGreatDoor
