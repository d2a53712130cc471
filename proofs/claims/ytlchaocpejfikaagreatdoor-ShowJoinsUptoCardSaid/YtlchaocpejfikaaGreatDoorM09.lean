/-
  Merged texts of this claim: OctetK, Spans.
-/
import Derived.Deep.RegionHeld3
import Derived.Deep.DeepCutAuto
import Derived.Deep.CutBlock
import Derived.Laws.OwnMore
import Derived.Test.YtlchaocpejfikaaGreatDoorM05
import Derived.Test.YtlchaocpejfikaaGreatDoorM07

/-
  Walks: placketref01.Class.
-/
namespace Go.Proofs.YtlchaocpejfikaaGreatDoor
open Go.RowKit

theorem e_lower : spn 97 122 = pk isLower 256 := by decide +kernel
theorem e_upper : spn 65 90 = pk isUpper 256 := by decide +kernel
theorem e_digit : spn 48 57 = pk isDigit 256 := by decide +kernel
theorem e_alpha : (spn 97 122).or (spn 65 90) = pk isAlpha 256 := by decide +kernel
theorem e_alnum : ((spn 97 122).or (spn 65 90)).or (spn 48 57) = pk isAlnum 256 := by decide +kernel
theorem e_xdigit : (spn 48 57).or ((spn 65 70).or (spn 97 102)) = pk isXdigit 256 := by decide +kernel
theorem e_blank : (spn 32 32).or (spn 9 9) = pk isBlank 256 := by decide +kernel
theorem e_space : ((spn 32 32).or (spn 9 9)).or (spn 10 13) = pk isSpace 256 := by decide +kernel
theorem e_cntrl : (spn 0 31).or (spn 127 127) = pk isCntrl 256 := by decide +kernel
theorem e_print : spn 32 126 = pk isPrint 256 := by decide +kernel
theorem e_graph : spn 33 126 = pk isGraph 256 := by decide +kernel
theorem e_punct : (spn 33 126).and (((spn 97 122).or (spn 65 90)).or (spn 48 57)).not = pk isPunct 256 := by decide +kernel

abbrev setV (s : S4) : Value := .agg #[.int .u64 s.a, .int .u64 s.b, .int .u64 s.c, .int .u64 s.d]
/-- A set of the document's and a bool that are handed back. -/
theorem results_setRB {fn : Func} {p q : Tmp} (h : fn.results = #[.cell p 24, .tmp q]) {tmps : Array Value} {r : Nat} (ht : tmps.getD p undef = .pointer (some ⟨r, 0, none⟩)) {v : Value} (hq : tmps.getD q undef = v) {W : World} {s : S4}
    (hb : W.heap[r]? = some (.cells #[.int .u64 s.a, .int .u64 s.b, .int .u64 s.c, .int .u64 s.d] 24 (0, 0))) : (results fn tmps).run Tryz.prog W = .ok (.tuple #[setV s, v]) W := by
  obtain ⟨c0, c1, c2, c3, _⟩ := cellS (s := s) hb
  have ht' : tmps[p]?.getD undef = .pointer (some ⟨r, 0, none⟩) := by rw [← ht]; simp
  have hq' : tmps[q]?.getD undef = v := by rw [← hq]; simp
  simp only [results, h]
  simp [ht', hq', go_sem, c0, c1, c2, c3]

/-! The contracts, their sets written out. -/
theorem spanR_lit (a b : Nat) (w : World) (ha : a < 256) (hb : b < 256) :
    Calls Tryz.prog 81 #[.int .u8 a, .int .u8 b] w fun e w' => e = .returned (setV (spn a b)) ∧ Fr nob w w' := spanR_any a b w ha hb
theorem orR_lit (s t : S4) (w : World) : Calls Tryz.prog 82 #[setV s, setV t] w fun e w' => e = .returned (setV (s.or t)) ∧ Fr nob w w' := orR_any s t w
theorem andR_lit (s t : S4) (w : World) : Calls Tryz.prog 83 #[setV s, setV t] w fun e w' => e = .returned (setV (s.and t)) ∧ Fr nob w w' := andR_any s t w
theorem notR_lit (s : S4) (w : World) : Calls Tryz.prog 32 #[setV s] w fun e w' => e = .returned (setV s.not) ∧ Fr nob w w' := notR_any s w

set_option maxRecDepth 100000 in
set_option maxHeartbeats 1000000 in
theorem refClass_any (s : ByteArray) (w : World) : Calls Tryz.prog 57 #[.string s] w fun e w' => e = .returned (.tuple #[.agg (clsSet (clsOf s)).cells.toArray, .bool (clsOf s).isSome]) ∧ Fr nob w w' := by
  obtain ⟨o, ho⟩ : ∃ o, clsOf s = o := ⟨_, rfl⟩
  rw [ho]
  have HO := Lib.hid ho; clear ho
  obtain ⟨lo, hlo⟩ : ∃ x, spn 97 122 = x := ⟨_, rfl⟩
  obtain ⟨up, hup⟩ : ∃ x, spn 65 90 = x := ⟨_, rfl⟩
  obtain ⟨dg, hdg⟩ : ∃ x, spn 48 57 = x := ⟨_, rfl⟩
  have HLO := Lib.hid hlo; have HUP := Lib.hid hup; have HDG := Lib.hid hdg; clear hlo hup hdg
  go_enter Tryz.func57, Tryz.ntmps57
  go_wp2_with fail
  refine (spanR_lit 97 122 _ (by decide) (by decide)).mono ?_
  rw [HLO.out]; rintro e w1 ⟨rfl, f1⟩
  go_wp2_with fail
  refine (spanR_lit 65 90 _ (by decide) (by decide)).mono ?_
  rw [HUP.out]; rintro e w2 ⟨rfl, f2⟩
  go_wp2_with fail
  refine (spanR_lit 48 57 _ (by decide) (by decide)).mono ?_
  rw [HDG.out]; rintro e w3 ⟨rfl, f3⟩
  go_wp2_with fail
  obtain ⟨wA, hA⟩ : ∃ wA, wA = ((w3.alloc (.cells lo.cells.toArray 24)).alloc (.cells up.cells.toArray 24)).alloc (.cells dg.cells.toArray 24) := ⟨_, rfl⟩
  have fA : Fr nob w3 wA := by rw [hA]; exact (((Fr.refl _ _).alloc _).alloc _).alloc _
  have hr : wA.heap[w.heap.size]? = some (.cells S4.zero.cells.toArray 24 (0, 0)) := fA.heap (f3.heap (f2.heap (f1.heap (heap_alloc_new _ _) (fun x => x)) (fun x => x)) (fun x => x)) (fun x => x)
  have h4 : wA.heap[w3.heap.size]? = some (.cells lo.cells.toArray 24 (0, 0)) := by rw [hA]; exact heap_alloc_lt _ (heap_alloc_lt _ (heap_alloc_new _ _))
  have h5 : wA.heap[w3.heap.size + 1]? = some (.cells up.cells.toArray 24 (0, 0)) := by rw [hA]; exact heap_alloc_lt _ (heap_alloc_new' _ _ _ (by simp))
  have h6 : wA.heap[w3.heap.size + 1 + 1]? = some (.cells dg.cells.toArray 24 (0, 0)) := by rw [hA]; exact heap_alloc_new' _ _ _ (by simp)
  have FA := Lib.hid (((Fr.refl nob w).alloc (.cells S4.zero.cells.toArray 24)).trans' (f1.trans' (f2.trans' (f3.trans' fA))))
  simp only [S4.cells_eq] at hA
  rw [← hA]
  clear hA fA f1 f2 f3
  obtain ⟨b4, e4⟩ : ∃ b, w3.heap.size = b := ⟨_, rfl⟩
  rw [e4] at h4 h5 h6 ⊢
  clear e4
  have c4 := fun w' f => C4s h4 w' f
  have c5 := fun w' f => C4s h5 w' f
  have c6 := fun w' f => C4s h6 w' f
  have HR := Lib.hid hr; have H4 := Lib.hid h4; have H5 := Lib.hid h5; have H6 := Lib.hid h6
  clear hr h4 h5 h6
  go_cut [7] (fun v7 w' => ∃ b, v7 = .pointer (some ⟨b, 0, none⟩) ∧ w'.heap[b]? = some (.cells ((lo.or up).or dg).cells.toArray 24 (0, 0)) ∧ Fr nob wA w')
  case first =>
    go_region_held3 (fun w' => Fr nob wA w') (repeat (first | (with_reducible exact Fr.refl _ _) | (with_reducible assumption) | (with_reducible refine Fr.drew ?_) | (with_reducible refine Fr.alloc ?_ _) | (refine Fr.setCell ?_ (fun h => absurd h (by first | exact Nat.lt_irrefl _ | exact Nat.not_lt.2 f5.size | exact Nat.not_lt.2 (Nat.le_trans f5.size f6.size))) _) | (with_reducible refine Fr.trans' ?_ (by with_reducible assumption)))) (first | (go_at_call 82; (with_reducible refine (orR_lit lo up _).mono ?_); rintro e w5 ⟨rfl, f5⟩; first | (have z5 := f5.heap (heap_alloc_new _ (.cells #[.int .u64 0, .int .u64 0, .int .u64 0, .int .u64 0] 24)) (fun x => x)) | skip) | (go_at_call 82; (with_reducible refine (orR_lit (lo.or up) dg _).mono ?_); rintro e w6 ⟨rfl, f6⟩; first | (have z6 := f6.heap z5 (fun x => x); obtain ⟨⟨y4, y5, y6, y7⟩, y0, y1, y2, y3⟩ := rule4 z6 _ (Fr.refl _ _); have hl := lt_heap z6) | (have z6 := f6.heap (heap_alloc_new _ (.cells #[.int .u64 0, .int .u64 0, .int .u64 0, .int .u64 0] 24)) (fun x => x); obtain ⟨⟨y4, y5, y6, y7⟩, y0, y1, y2, y3⟩ := rule4 z6 _ (Fr.refl _ _); have hl := lt_heap z6) | skip))
    all_goals
      go_wp2
      go_meet
      case rel =>
        refine ⟨_, rfl, ?_, ?_⟩
        · rw [S4.cells_eq]; first | (with_reducible exact heap_alloc_new _ _) | (with_reducible exact setFour_heap z6 _ _ _ _)
        · (repeat (first | (with_reducible exact Fr.refl _ _) | (with_reducible assumption) | (with_reducible refine Fr.drew ?_) | (with_reducible refine Fr.alloc ?_ _) | (refine Fr.setCell ?_ (fun h => absurd h (by first | exact Nat.lt_irrefl _ | exact Nat.not_lt.2 f5.size | exact Nat.not_lt.2 (Nat.le_trans f5.size f6.size))) _) | (with_reducible refine Fr.trans' ?_ (by with_reducible assumption))))
  case rest =>
    obtain ⟨b7, rfl, h7, f4⟩ := hcut
    have H7 := Lib.hid h7; clear h7
    go_wp2_with fail
    refine (spanR_lit 32 32 _ (by decide) (by decide)).mono ?_
    rintro e w7 ⟨rfl, f7⟩
    go_wp2_with fail
    refine (spanR_lit 9 9 _ (by decide) (by decide)).mono ?_
    rintro e w8 ⟨rfl, f8⟩
    go_wp2_with fail
    refine (orR_lit _ _ _).mono ?_
    rintro e w9 ⟨rfl, f9⟩
    have fB : Fr nob wA w9 := f4.trans' (f7.trans' (f8.trans' f9))
    have h8 := heap_alloc_new w9 (.cells ((spn 32 32).or (spn 9 9)).cells.toArray 24)
    obtain ⟨bl, hbl⟩ : ∃ x, (spn 32 32).or (spn 9 9) = x := ⟨_, rfl⟩
    rw [hbl] at h8 ⊢
    have HBL := Lib.hid hbl; clear hbl
    have hr := heap_alloc_lt (.cells bl.cells.toArray 24) (fB.heap HR.out (fun x => x))
    have h4 := heap_alloc_lt (.cells bl.cells.toArray 24) (fB.heap H4.out (fun x => x))
    have h5 := heap_alloc_lt (.cells bl.cells.toArray 24) (fB.heap H5.out (fun x => x))
    have h6 := heap_alloc_lt (.cells bl.cells.toArray 24) (fB.heap H6.out (fun x => x))
    have h7 := heap_alloc_lt (.cells bl.cells.toArray 24) ((f7.trans' (f8.trans' f9)).heap H7.out (fun x => x))
    have FB := Lib.hid ((FA.out.trans' fB).alloc (.cells bl.cells.toArray 24))
    clear HR H4 H5 H6 H7 FA fB f4 f7 f8 f9 c4 c5 c6
    simp only [S4.cells_eq] at hr h4 h5 h6 h7 h8
    go_upto_block 0 with (fail)
    obtain ⟨wB, hB⟩ : ∃ x, x = w9.alloc (.cells #[.int .u64 bl.a, .int .u64 bl.b, .int .u64 bl.c, .int .u64 bl.d] 24) := ⟨_, rfl⟩
    have FB2 : Hid (Fr nob w wB) := by rw [hB]; exact FB
    rw [← hB] at hr h4 h5 h6 h7 h8 ⊢
    clear hB FB
    have lr := lt_heap hr; have l4 := lt_heap h4; have l5 := lt_heap h5; have l6 := lt_heap h6; have l7 := lt_heap h7; have l8 := lt_heap h8
    obtain ⟨b8, e8⟩ : ∃ b, w9.heap.size = b := ⟨_, rfl⟩
    rw [e8] at h8 l8 ⊢
    clear e8
    have r0 := rule4 hr; have r4 := rule4 h4; have r5 := rule4 h5; have r6 := rule4 h6; have r7 := rule4 h7; have r8 := rule4 h8
    have HR := Lib.hid hr; clear hr h4 h5 h6 h7 h8
    go_wp2_with fail
    · go_wp2
      (try simp only [Exit.inBlock, Exit.then])
      have ho : o = some isLower := by rw [← HO.out]; simp only [clsOf, *]; rfl
      have hs : clsSet (some isLower) = lo := by rw [← HLO.out]; exact e_lower.symm
      refine bodyPost_ret (results_setRB (s := lo) rfl rfl rfl (setFour_heap ((Fr.refl nob wB).heap HR.out (fun x => x)) _ _ _ _)) rfl ⟨by rw [ho, hs]; rfl, setFour_fr (FB2.out.trans' (Fr.refl nob wB)) (by omega) _ _ _ _⟩
    · go_wp2
      (try simp only [Exit.inBlock, Exit.then])
      have ho : o = some isUpper := by rw [← HO.out]; simp only [clsOf, *]; rfl
      have hs : clsSet (some isUpper) = up := by rw [← HUP.out]; exact e_upper.symm
      refine bodyPost_ret (results_setRB (s := up) rfl rfl rfl (setFour_heap ((Fr.refl nob wB).heap HR.out (fun x => x)) _ _ _ _)) rfl ⟨by rw [ho, hs]; rfl, setFour_fr (FB2.out.trans' (Fr.refl nob wB)) (by omega) _ _ _ _⟩
    · go_wp2_with fail
      refine (orR_lit lo up _).mono ?_
      rintro e wC ⟨rfl, fC⟩
      go_wp2
      (try simp only [Exit.inBlock, Exit.then])
      have ho : o = some isAlpha := by rw [← HO.out]; simp only [clsOf, *]; rfl
      have hs : clsSet (some isAlpha) = (lo.or up) := by rw [← HLO.out, ← HUP.out]; exact e_alpha.symm
      refine bodyPost_ret (results_setRB (s := (lo.or up)) rfl rfl rfl (setFour_heap (fC.heap HR.out (fun x => x)) _ _ _ _)) rfl ⟨by rw [ho, hs]; rfl, setFour_fr (FB2.out.trans' fC) (by omega) _ _ _ _⟩
    · go_wp2
      (try simp only [Exit.inBlock, Exit.then])
      have ho : o = some isDigit := by rw [← HO.out]; simp only [clsOf, *]; rfl
      have hs : clsSet (some isDigit) = dg := by rw [← HDG.out]; exact e_digit.symm
      refine bodyPost_ret (results_setRB (s := dg) rfl rfl rfl (setFour_heap ((Fr.refl nob wB).heap HR.out (fun x => x)) _ _ _ _)) rfl ⟨by rw [ho, hs]; rfl, setFour_fr (FB2.out.trans' (Fr.refl nob wB)) (by omega) _ _ _ _⟩
    · go_wp2
      (try simp only [Exit.inBlock, Exit.then])
      have ho : o = some isAlnum := by rw [← HO.out]; simp only [clsOf, *]; rfl
      have hs : clsSet (some isAlnum) = ((lo.or up).or dg) := by rw [← HLO.out, ← HUP.out, ← HDG.out]; exact e_alnum.symm
      refine bodyPost_ret (results_setRB (s := ((lo.or up).or dg)) rfl rfl rfl (setFour_heap ((Fr.refl nob wB).heap HR.out (fun x => x)) _ _ _ _)) rfl ⟨by rw [ho, hs]; rfl, setFour_fr (FB2.out.trans' (Fr.refl nob wB)) (by omega) _ _ _ _⟩
    · obtain ⟨x1, hx1⟩ : ∃ x, spn 65 70 = x := ⟨_, rfl⟩
      obtain ⟨x2, hx2⟩ : ∃ x, spn 97 102 = x := ⟨_, rfl⟩
      have HX1 := Lib.hid hx1; have HX2 := Lib.hid hx2; clear hx1 hx2
      have s1 : ∀ w : World, Calls Tryz.prog 81 #[.int .u8 65, .int .u8 70] w fun e w' => e = .returned (setV x1) ∧ Fr nob w w' := fun w => by rw [← HX1.out]; exact spanR_lit 65 70 w (by decide) (by decide)
      have s2 : ∀ w : World, Calls Tryz.prog 81 #[.int .u8 97, .int .u8 102] w fun e w' => e = .returned (setV x2) ∧ Fr nob w w' := fun w => by rw [← HX2.out]; exact spanR_lit 97 102 w (by decide) (by decide)
      have S1 := Lib.hid s1; have S2 := Lib.hid s2; clear s1 s2
      refine region_fr 5 (by kernel_rfl) (by kernel_rfl) ?_
      simp only [List.take_succ_cons, List.take_zero, List.drop_succ_cons, List.drop_zero]
      repeat (quiet_step ((first | (with_reducible exact calls_fr (S1.out _)) | (with_reducible exact calls_fr (S2.out _)) | (with_reducible exact calls_fr (orR_lit x1 x2 _)) | (with_reducible exact calls_fr (orR_lit dg (x1.or x2) _)))))
      refine wpQuiet_nil ?_
      intro wC fC
      go_wp2
      (try simp only [Exit.inBlock, Exit.then])
      have ho : o = some isXdigit := by rw [← HO.out]; simp only [clsOf, *]; rfl
      have hs : clsSet (some isXdigit) = (dg.or (x1.or x2)) := by rw [← HDG.out, ← HX1.out, ← HX2.out]; exact e_xdigit.symm
      refine bodyPost_ret (results_setRB (s := (dg.or (x1.or x2))) rfl rfl rfl (setFour_heap (fC.heap HR.out (fun x => x)) _ _ _ _)) rfl ⟨by rw [ho, hs]; rfl, setFour_fr (FB2.out.trans' fC) (by omega) _ _ _ _⟩
    · go_wp2
      (try simp only [Exit.inBlock, Exit.then])
      have ho : o = some isBlank := by rw [← HO.out]; simp only [clsOf, *]; rfl
      have hs : clsSet (some isBlank) = bl := by rw [← HBL.out]; exact e_blank.symm
      refine bodyPost_ret (results_setRB (s := bl) rfl rfl rfl (setFour_heap ((Fr.refl nob wB).heap HR.out (fun x => x)) _ _ _ _)) rfl ⟨by rw [ho, hs]; rfl, setFour_fr (FB2.out.trans' (Fr.refl nob wB)) (by omega) _ _ _ _⟩
    · obtain ⟨x1, hx1⟩ : ∃ x, spn 10 13 = x := ⟨_, rfl⟩
      have HX1 := Lib.hid hx1; clear hx1
      have s1 : ∀ w : World, Calls Tryz.prog 81 #[.int .u8 10, .int .u8 13] w fun e w' => e = .returned (setV x1) ∧ Fr nob w w' := fun w => by rw [← HX1.out]; exact spanR_lit 10 13 w (by decide) (by decide)
      have S1 := Lib.hid s1; clear s1
      refine region_fr 3 (by kernel_rfl) (by kernel_rfl) ?_
      simp only [List.take_succ_cons, List.take_zero, List.drop_succ_cons, List.drop_zero]
      repeat (quiet_step ((first | (with_reducible exact calls_fr (S1.out _)) | (with_reducible exact calls_fr (orR_lit bl x1 _)))))
      refine wpQuiet_nil ?_
      intro wC fC
      go_wp2
      (try simp only [Exit.inBlock, Exit.then])
      have ho : o = some isSpace := by rw [← HO.out]; simp only [clsOf, *]; rfl
      have hs : clsSet (some isSpace) = (bl.or x1) := by rw [← HBL.out, ← HX1.out]; exact e_space.symm
      refine bodyPost_ret (results_setRB (s := (bl.or x1)) rfl rfl rfl (setFour_heap (fC.heap HR.out (fun x => x)) _ _ _ _)) rfl ⟨by rw [ho, hs]; rfl, setFour_fr (FB2.out.trans' fC) (by omega) _ _ _ _⟩
    · go_wp2_with fail
      refine (spanR_lit 0 31 _ (by decide) (by decide)).mono ?_
      obtain ⟨x1, hx1⟩ : ∃ x, spn 0 31 = x := ⟨_, rfl⟩
      rw [hx1]; have HX1 := Lib.hid hx1; clear hx1
      rintro e wC ⟨rfl, fC⟩
      go_wp2_with fail
      refine (spanR_lit 127 127 _ (by decide) (by decide)).mono ?_
      obtain ⟨x2, hx2⟩ : ∃ x, spn 127 127 = x := ⟨_, rfl⟩
      rw [hx2]; have HX2 := Lib.hid hx2; clear hx2
      rintro e wD ⟨rfl, fD⟩
      go_wp2_with fail
      refine (orR_lit x1 x2 _).mono ?_
      rintro e wE ⟨rfl, fE⟩
      have fBE := fC.trans' (fD.trans' fE)
      go_wp2
      (try simp only [Exit.inBlock, Exit.then])
      have ho : o = some isCntrl := by rw [← HO.out]; simp only [clsOf, *]; rfl
      have hs : clsSet (some isCntrl) = (x1.or x2) := by rw [← HX1.out, ← HX2.out]; exact e_cntrl.symm
      refine bodyPost_ret (results_setRB (s := (x1.or x2)) rfl rfl rfl (setFour_heap (fBE.heap HR.out (fun x => x)) _ _ _ _)) rfl ⟨by rw [ho, hs]; rfl, setFour_fr (FB2.out.trans' fBE) (by omega) _ _ _ _⟩
    · go_wp2_with fail
      refine (spanR_lit 32 126 _ (by decide) (by decide)).mono ?_
      obtain ⟨x1, hx1⟩ : ∃ x, spn 32 126 = x := ⟨_, rfl⟩
      rw [hx1]; have HX1 := Lib.hid hx1; clear hx1
      rintro e wC ⟨rfl, fC⟩
      go_wp2
      (try simp only [Exit.inBlock, Exit.then])
      have ho : o = some isPrint := by rw [← HO.out]; simp only [clsOf, *]; rfl
      have hs : clsSet (some isPrint) = x1 := by rw [← HX1.out]; exact e_print.symm
      refine bodyPost_ret (results_setRB (s := x1) rfl rfl rfl (setFour_heap (fC.heap HR.out (fun x => x)) _ _ _ _)) rfl ⟨by rw [ho, hs]; rfl, setFour_fr (FB2.out.trans' fC) (by omega) _ _ _ _⟩
    · go_wp2_with fail
      refine (spanR_lit 33 126 _ (by decide) (by decide)).mono ?_
      obtain ⟨x1, hx1⟩ : ∃ x, spn 33 126 = x := ⟨_, rfl⟩
      rw [hx1]; have HX1 := Lib.hid hx1; clear hx1
      rintro e wC ⟨rfl, fC⟩
      go_wp2
      (try simp only [Exit.inBlock, Exit.then])
      have ho : o = some isGraph := by rw [← HO.out]; simp only [clsOf, *]; rfl
      have hs : clsSet (some isGraph) = x1 := by rw [← HX1.out]; exact e_graph.symm
      refine bodyPost_ret (results_setRB (s := x1) rfl rfl rfl (setFour_heap (fC.heap HR.out (fun x => x)) _ _ _ _)) rfl ⟨by rw [ho, hs]; rfl, setFour_fr (FB2.out.trans' fC) (by omega) _ _ _ _⟩
    · obtain ⟨x1, hx1⟩ : ∃ x, spn 33 126 = x := ⟨_, rfl⟩
      have HX1 := Lib.hid hx1; clear hx1
      have s1 : ∀ w : World, Calls Tryz.prog 81 #[.int .u8 33, .int .u8 126] w fun e w' => e = .returned (setV x1) ∧ Fr nob w w' := fun w => by rw [← HX1.out]; exact spanR_lit 33 126 w (by decide) (by decide)
      have S1 := Lib.hid s1; clear s1
      refine region_fr 4 (by kernel_rfl) (by kernel_rfl) ?_
      simp only [List.take_succ_cons, List.take_zero, List.drop_succ_cons, List.drop_zero]
      repeat (quiet_step ((first | (with_reducible exact calls_fr (S1.out _)) | (with_reducible exact calls_fr (notR_lit ((lo.or up).or dg) _)) | (with_reducible exact calls_fr (andR_lit x1 ((lo.or up).or dg).not _)))))
      refine wpQuiet_nil ?_
      intro wC fC
      go_wp2
      (try simp only [Exit.inBlock, Exit.then])
      have ho : o = some isPunct := by rw [← HO.out]; simp only [clsOf, *]; rfl
      have hs : clsSet (some isPunct) = (x1.and ((lo.or up).or dg).not) := by rw [← HX1.out, ← HLO.out, ← HUP.out, ← HDG.out]; exact e_punct.symm
      refine bodyPost_ret (results_setRB (s := (x1.and ((lo.or up).or dg).not)) rfl rfl rfl (setFour_heap (fC.heap HR.out (fun x => x)) _ _ _ _)) rfl ⟨by rw [ho, hs]; rfl, setFour_fr (FB2.out.trans' fC) (by omega) _ _ _ _⟩
    · go_wp2
      (try simp only [Exit.inBlock, Exit.then])
      have ho : o = none := by rw [← HO.out]; simp only [clsOf, *]; rfl
      refine bodyPost_ret (results_setRB (s := S4.zero) rfl rfl rfl (setFour_heap HR.out _ _ _ _)) rfl ⟨by rw [ho]; rfl, setFour_fr FB2.out (by omega) _ _ _ _⟩

end Go.Proofs.YtlchaocpejfikaaGreatDoor

/-
  The spans of a set: plain; walks of both sides.
-/
namespace Go.Proofs.YtlchaocpejfikaaGreatDoor
open Go.RowKit

def opn (p : Nat → Bool) : Nat → Bool
  | 0 => false
  | j + 1 => p j
def ext (l : List (Nat × Nat)) (k : Nat) : List (Nat × Nat) := match l.getLast? with
  | some x => l.dropLast ++ [(x.1, k)]
  | none => l
/-- The longest runs below k. -/
def spl (p : Nat → Bool) : Nat → List (Nat × Nat)
  | 0 => []
  | k + 1 => if p k then (if opn p k then ext (spl p k) k else spl p k ++ [(k, k)]) else spl p k

theorem ext_snoc (l : List (Nat × Nat)) (a b k : Nat) : ext (l ++ [(a, b)]) k = l ++ [(a, k)] := by simp [ext]
theorem spl_open {p : Nat → Bool} {k : Nat} (h : opn p k = true) : ∃ l0 a, spl p k = l0 ++ [(a, k - 1)] := by
  induction k with
  | zero => cases h
  | succ j ih =>
    have hp : p j = true := h
    rw [spl, if_pos hp]
    split
    · next ho =>
      obtain ⟨l0, a, e⟩ := ih ho
      exact ⟨l0, a, by rw [e, ext_snoc]; rfl⟩
    · exact ⟨_, j, rfl⟩
theorem spl_no {p : Nat → Bool} {k : Nat} (h : p k = false) : spl p (k + 1) = spl p k := by rw [spl, h]; rfl
theorem spl_new {p : Nat → Bool} {k : Nat} (h : p k = true) (ho : opn p k = false) : spl p (k + 1) = spl p k ++ [(k, k)] := by rw [spl, h, ho]; rfl
theorem spl_ext {p : Nat → Bool} {k : Nat} (h : p k = true) (ho : opn p k = true) {l0 : List (Nat × Nat)} {a : Nat} (e : spl p k = l0 ++ [(a, k - 1)]) : spl p (k + 1) = l0 ++ [(a, k)] := by
  rw [spl, h, ho, e]; exact ext_snoc _ _ _ _

theorem spl_len (p : Nat → Bool) : ∀ k, (spl p k).length ≤ k
  | 0 => Nat.le_refl _
  | k + 1 => by
    have ih := spl_len p k
    cases hp : p k with
    | false => rw [spl_no hp]; omega
    | true =>
      cases ho : opn p k with
      | false => rw [spl_new hp ho, List.length_append]; simp; omega
      | true =>
        obtain ⟨l0, a, e0⟩ := spl_open ho
        rw [spl_ext hp ho e0]
        rw [e0] at ih
        simp at ih ⊢; omega
structure SpGood (p : Nat → Bool) (k : Nat) (l : List (Nat × Nat)) : Prop where
  in_ : ∀ x ∈ l, x.1 ≤ x.2 ∧ x.2 < k
  gap : l.Pairwise fun x y => x.2 + 1 < y.1
  cov : ∀ e, e < k → (p e = true ↔ ∃ x ∈ l, x.1 ≤ e ∧ e ≤ x.2)
  far : opn p k = false → ∀ x ∈ l, x.2 + 1 < k

theorem spl_good (p : Nat → Bool) : ∀ k, SpGood p k (spl p k)
  | 0 => ⟨fun x h => by simp [spl] at h, by simp [spl], fun e h => by omega, fun _ x h => by simp [spl] at h⟩
  | k + 1 => by
    have ih := spl_good p k
    cases hp : p k with
    | false =>
      rw [spl_no hp]
      refine ⟨fun x hx => ⟨(ih.in_ x hx).1, by have := (ih.in_ x hx).2; omega⟩, ih.gap, fun e he => ?_, fun _ x hx => by have := (ih.in_ x hx).2; omega⟩
      by_cases h : e < k
      · exact ih.cov e h
      · obtain rfl : e = k := by omega
        rw [hp]
        refine ⟨fun h => (by cases h), fun ⟨x, hx, h1, h2⟩ => ?_⟩
        have := (ih.in_ x hx).2; omega
    | true =>
      cases ho : opn p k with
      | false =>
        rw [spl_new hp ho]
        refine ⟨fun x hx => ?_, ?_, fun e he => ?_, fun h => ?_⟩
        · rcases List.mem_append.1 hx with hx | hx
          · exact ⟨(ih.in_ x hx).1, by have := (ih.in_ x hx).2; omega⟩
          · simp at hx; subst hx; exact ⟨Nat.le_refl _, Nat.lt_succ_self _⟩
        · rw [List.pairwise_append]
          refine ⟨ih.gap, by simp, fun x hx y hy => ?_⟩
          simp at hy; subst hy; exact ih.far ho x hx
        · by_cases h : e < k
          · rw [ih.cov e h]
            refine ⟨fun ⟨x, hx, h1⟩ => ⟨x, List.mem_append.2 (.inl hx), h1⟩, fun ⟨x, hx, h1, h2⟩ => ?_⟩
            rcases List.mem_append.1 hx with hx | hx
            · exact ⟨x, hx, h1, h2⟩
            · simp at hx; subst hx; simp at h1; omega
          · obtain rfl : e = k := by omega
            exact ⟨fun _ => ⟨(e, e), by simp, Nat.le_refl _, Nat.le_refl _⟩, fun _ => hp⟩
        · have h' : p k = false := h
          rw [hp] at h'; cases h'
      | true =>
        obtain ⟨l0, a, e0⟩ := spl_open ho
        rw [spl_ext hp ho e0]
        rw [e0] at ih
        have hk : 0 < k := by cases k with | zero => cases ho | succ j => omega
        have ha := ih.in_ (a, k - 1) (by simp)
        simp only at ha
        refine ⟨fun x hx => ?_, ?_, fun e he => ?_, fun h => ?_⟩
        · rcases List.mem_append.1 hx with hx | hx
          · have := ih.in_ x (List.mem_append.2 (.inl hx)); omega
          · simp at hx; subst hx; simp only; omega
        · have hg := ih.gap
          rw [List.pairwise_append] at hg ⊢
          refine ⟨hg.1, by simp, fun x hx y hy => ?_⟩
          simp at hy; subst hy
          exact hg.2.2 x hx (a, k - 1) (by simp)
        · by_cases h : e < k
          · rw [ih.cov e h]
            constructor
            · rintro ⟨x, hx, h1, h2⟩
              rcases List.mem_append.1 hx with hx | hx
              · exact ⟨x, List.mem_append.2 (.inl hx), h1, h2⟩
              · simp at hx; subst hx; exact ⟨(a, k), by simp, h1, by simp only; omega⟩
            · rintro ⟨x, hx, h1, h2⟩
              rcases List.mem_append.1 hx with hx | hx
              · exact ⟨x, List.mem_append.2 (.inl hx), h1, h2⟩
              · simp at hx; subst hx; exact ⟨(a, k - 1), by simp, h1, by simp only; omega⟩
          · obtain rfl : e = k := by omega
            exact ⟨fun _ => ⟨(a, e), by simp, by simp only; omega, Nat.le_refl _⟩, fun _ => hp⟩
        · have h' : p k = false := h
          rw [hp] at h'; cases h'

/-- Spans as cells. -/
def spC (l : List (Nat × Nat)) : List Value := l.flatMap fun x => [.int .u8 (x.1 : Int), .int .u8 (x.2 : Int)]
theorem spC_append (a b : List (Nat × Nat)) : spC (a ++ b) = spC a ++ spC b := by simp [spC]
theorem spC_length (l : List (Nat × Nat)) : (spC l).length = 2 * l.length := by
  induction l with
  | nil => rfl
  | cons x l ih => have : spC (x :: l) = [.int .u8 (x.1 : Int), .int .u8 (x.2 : Int)] ++ spC l := rfl
                   rw [this, List.length_append, ih, List.length_cons]; simp; omega
theorem spC_set (l : List (Nat × Nat)) (a b c : Nat) : (spC (l ++ [(a, b)])).set (l.length * 2 + 1) (.int .u8 (c : Int)) = spC (l ++ [(a, c)]) := by
  rw [spC_append, spC_append, List.set_append]
  rw [if_neg (by rw [spC_length]; omega), spC_length, show l.length * 2 + 1 - 2 * l.length = 1 by omega]
  rfl
theorem spC_at (l : List (Nat × Nat)) : ∀ (i : Nat) (h : i < l.length), (spC l)[i * 2]? = some (.int .u8 (l[i].1 : Int)) ∧ (spC l)[i * 2 + 1]? = some (.int .u8 (l[i].2 : Int)) := by
  induction l with
  | nil => intro i h; simp at h
  | cons x l ih =>
    intro i h
    have e : spC (x :: l) = .int .u8 (x.1 : Int) :: .int .u8 (x.2 : Int) :: spC l := rfl
    rw [e]
    cases i with
    | zero => exact ⟨rfl, rfl⟩
    | succ j =>
      have := ih j (by simpa using h)
      rw [show (j + 1) * 2 = j * 2 + 1 + 1 by omega]
      simpa using this

theorem info_pair : (Tryz.prog.info? 62).map (fun i => (i.zero, i.size, i.bytes)) = some (some (.agg #[.int .u8 0, .int .u8 0]), 2, 2) := by kernel_rfl

def OwnP (w : World) (v : Value) (l : List (Nat × Nat)) : Prop := w.ownsRow 0 62 2 v l.length (spC l)
theorem OwnP.slc {w : World} {v : Value} {l : List (Nat × Nat)} (h : OwnP w v l) (h0 : l ≠ []) : ∃ g cap, v = .slice (some ⟨g, 0, none⟩) l.length cap ∧ g < w.heap.size := by
  rcases h.2 with ⟨_, hz⟩ | ⟨g, cap, cur, hv, _, hh, _⟩
  · exact absurd (List.length_eq_zero_iff.1 hz) h0
  · exact ⟨g, cap, hv, lt_heap hh⟩
theorem OwnP.on {w w' : World} {v : Value} {l : List (Nat × Nat)} (h : OwnP w v l) {S : Nat → Prop} (f : Fr S w w') (hn : ∀ k, v.ownBlock = some k → ¬ S k) : OwnP w' v l := ownsRow_fr h f hn

def SpV (s : S4) (w : World) (e : Ending) (w' : World) : Prop := ∃ v, e = .returned v ∧ OwnP w' v (spl s.has 256) ∧ Fr nob w w' ∧ ∀ j, v.ownBlock = some j → w.heap.size ≤ j

set_option maxRecDepth 100000 in
set_option maxHeartbeats 2000000 in
theorem spans_any (s : S4) (w : World) (hs : s.fit) :
    Calls Tryz.prog 55 #[.agg #[.int .u64 s.a, .int .u64 s.b, .int .u64 s.c, .int .u64 s.d]] w (SpV s w) := by
  obtain ⟨i0, hi, hz0, hz1, hz2⟩ := info_parts info_pair
  obtain ⟨w0, hw0⟩ : ∃ w0, w0 = w.alloc (.cells #[.int .u64 s.a, .int .u64 s.b, .int .u64 s.c, .int .u64 s.d] 27) := ⟨_, rfl⟩
  have hb0 : w0.heap[w.heap.size]? = some (.cells #[.int .u64 s.a, .int .u64 s.b, .int .u64 s.c, .int .u64 s.d] 27 (0, 0)) := by rw [hw0]; exact newAt _ _
  have f0 : Fr nob w w0 := by rw [hw0]; exact (Fr.refl _ _).alloc _
  have HS := Lib.hid hs; have HW := Lib.hid hw0
  have HSZ := Lib.hid (show w0.heap.size = w.heap.size + 1 by rw [hw0]; simp)
  clear hs hw0
  go_enter Tryz.func55, Tryz.ntmps55
  go_wp2_with fail
  rw [← HW.out]
  have r0 := rule4 hb0
  have HB0 := Lib.hid hb0; have F0 := Lib.hid f0; clear hb0 f0
  go_loopw [3, 4, 7] (fun v o i wr => ∃ k : Nat, i = .int .i64 k ∧ k ≤ 256 ∧ o = .bool (opn s.has k) ∧ OwnP wr v (spl s.has k) ∧ (∀ j, v.ownBlock = some j → w.heap.size < j) ∧ Fr nob w0 wr) (fun _ _ i _ => 256 - (intOf i).toNat)
  case atStart => exact ⟨0, rfl, by omega, rfl, World.ownsRow_nil _ _ _ _, fun j h => (by cases h), Fr.refl _ _⟩
  case round =>
    obtain ⟨k, rfl, hk, rfl, hown, hblk, fr⟩ := hrel
    have HO := Lib.hid hown; have HBK := Lib.hid hblk; clear hown hblk
    by_cases hlt : k < 256
    · have wk : IntKind.u8.wrap (k : Int) = (k : Int) := IntWalk.u8_in _ (by omega)
      cases hp : s.has k with
      | false =>
        have HP := Lib.hid hp
        have HN := Lib.hid (spl_no hp); have HOP := Lib.hid (show opn s.has (k + 1) = false from hp)
        clear hp
        go_wp2_with fail
        refine (has_any s k _ HS.out hlt).mono ?_
        rw [HP.out]
        rintro e w2 ⟨rfl, f2⟩
        have HO2 := Lib.hid (HO.out.on f2 (fun _ _ x => x)); have F2 := Lib.hid (fr.trans' f2)
        clear fr f2
        go_wp2
        go_roundw
        case rel => exact ⟨k + 1, by go_num, by omega, by rw [HOP.out], by rw [HN.out]; exact HO2.out, HBK.out, F2.out⟩
        case measure => simp [intOf]; omega
      | true =>
        have HP := Lib.hid hp
        cases ho : opn s.has k with
        | false =>
          have HN := Lib.hid (spl_new hp ho); have HOP := Lib.hid (show opn s.has (k + 1) = true from hp)
          have hl : (spl s.has k).length ≤ 256 := by have := spl_len s.has k; omega
          clear hp ho
          go_wp2_with fail
          refine (has_any s k _ HS.out hlt).mono ?_
          rw [HP.out]
          rintro e w2 ⟨rfl, f2⟩
          have hown : w2.ownsRow 0 62 2 u3 (spl s.has k).length (spC (spl s.has k)) := HO.out.on f2 (fun _ _ x => x)
          have F2 := Lib.hid (fr.trans' f2)
          clear fr f2
          go_wp2_with (at_builtin; refine wpList_append_g rfl _ _ 60 rfl 62 i0 (.agg #[.int .u8 0, .int .u8 0]) 2 2 Tryz.underlying60 hi hz0 hz1 hz2 rfl (by decide) _ _ _ rfl (hown.alloc _) ⟨w2.heap.size, 0, none⟩ 1 1 [.int .u8 (k : Int), .int .u8 (k : Int)] rfl rfl ?c1 ?c2 ?c3 ?c4 ?_)
          case c1 =>
            intro j u hj
            match j, hj with
            | 0, hj => simp at hj; subst hj; simp [Addr.add]
            | 1, hj => simp at hj; subst hj; simp [Addr.add]
          case c2 => intro u hu; simp at hu; subst hu; rfl
          case c3 => unfold maxLen; omega
          case c4 => omega
          intro v' w3 hown' hap
          have hf3 : Fr nob w0 w3 := (F2.out.alloc _).trans hap.fr (fun i hi e => by have := HBK.out _ e; have := HSZ.out; omega)
          have hk3 : ∀ j, v'.ownBlock = some j → w.heap.size < j := fun j hj => by
            rcases hap.old j hj with h1 | h1
            · exact HBK.out j h1
            · simp at h1; have := F2.out.size; have := lt_heap HB0.out; omega
          have HF3 := Lib.hid hf3; have HK3 := Lib.hid hk3; have HO3 := Lib.hid hown'
          clear hf3 hk3 hown' hown hap
          go_wp2
          go_roundw
          case rel =>
            refine ⟨k + 1, by go_num, by omega, by rw [HOP.out], ?_, HK3.out, HF3.out⟩
            rw [HN.out]; unfold OwnP; rw [List.length_append, spC_append]; exact HO3.out
          case measure => simp [intOf]; omega
        | true =>
          obtain ⟨l0, a, e0⟩ := spl_open ho
          have HN := Lib.hid (spl_ext hp ho e0); have HOP := Lib.hid (show opn s.has (k + 1) = true from hp)
          have hl : (spl s.has k).length ≤ 256 := by have := spl_len s.has k; omega
          have hown0 := HO.out
          rw [e0] at hown0 hl
          obtain ⟨g, cap, hv, hg⟩ := hown0.slc (by simp)
          have hgb := HBK.out g (by rw [hv]; rfl)
          subst hv
          have hle : (l0 ++ [(a, k - 1)]).length = l0.length + 1 := by simp
          rw [hle] at hl hown0 ⊢
          clear hp ho
          go_wp2_with fail
          refine (has_any s k _ HS.out hlt).mono ?_
          rw [HP.out]
          rintro e w2 ⟨rfl, f2⟩
          have hown : w2.ownsRow 0 62 2 (.slice (some ⟨g, 0, none⟩) (l0.length + 1) cap) (l0.length + 1) (spC (l0 ++ [(a, k - 1)])) := by have := hown0.on f2 (fun _ _ x => x); unfold OwnP at this; rwa [hle] at this
          have c1 := hown.cellAt (l0.length * 2 + 1) (by omega)
          have c2 := hown.frozenAt (l0.length * 2 + 1)
          have c3 := (spC_at (l0 ++ [(a, k - 1)]) l0.length (by simp)).2
          rw [c3] at c1
          have F2 := Lib.hid (fr.trans' f2)
          have HOW := Lib.hid hown
          clear fr f2 hown hown0 c3 hle
          go_wp2_with fail
          have hst := HOW.out.stored (l0.length * 2 + 1) (.int .u8 (k : Int))
          rw [spC_set] at hst
          have HST := Lib.hid hst.1
          clear hst c1 c2
          go_roundw
          case rel =>
            refine ⟨k + 1, by go_num, by omega, by rw [HOP.out], ?_, fun j hj => ?_, F2.out.setCell (p := ⟨g, l0.length * 2 + 1, none⟩) (fun h => by have := HSZ.out; simp only at h; omega) _⟩
            · rw [HN.out]; unfold OwnP; rw [List.length_append]; exact HST.out
            · obtain rfl : g = j := by injection hj
              exact hgb
          case measure => simp [intOf]; omega
    · obtain rfl : k = 256 := by omega
      go_wp2
      go_ret
      exact ⟨_, rfl, HO.out, F0.out.trans' fr, fun j hj => by have := HBK.out j hj; omega⟩

set_option maxRecDepth 100000 in
set_option maxHeartbeats 2000000 in
theorem spansR_any (s : S4) (w : World) (hs : s.fit) :
    Calls Tryz.prog 27 #[.agg #[.int .u64 s.a, .int .u64 s.b, .int .u64 s.c, .int .u64 s.d]] w (SpV s w) := by
  obtain ⟨i0, hi, hz0, hz1, hz2⟩ := info_parts info_pair
  obtain ⟨w0, hw0⟩ : ∃ w0, w0 = w.alloc (.cells #[.int .u64 s.a, .int .u64 s.b, .int .u64 s.c, .int .u64 s.d] 24) := ⟨_, rfl⟩
  have hb0 : w0.heap[w.heap.size]? = some (.cells #[.int .u64 s.a, .int .u64 s.b, .int .u64 s.c, .int .u64 s.d] 24 (0, 0)) := by rw [hw0]; exact newAt _ _
  have f0 : Fr nob w w0 := by rw [hw0]; exact (Fr.refl _ _).alloc _
  have HS := Lib.hid hs; have HW := Lib.hid hw0
  have HSZ := Lib.hid (show w0.heap.size = w.heap.size + 1 by rw [hw0]; simp)
  clear hs hw0
  go_enter Tryz.func27, Tryz.ntmps27
  go_wp2_with fail
  rw [← HW.out]
  have r0 := rule4 hb0
  have HB0 := Lib.hid hb0; have F0 := Lib.hid f0; clear hb0 f0
  go_loopw [3, 5] (fun v i wr => ∃ k : Nat, i = .int .i64 k ∧ k ≤ 256 ∧ OwnP wr v (spl s.has k) ∧ (∀ j, v.ownBlock = some j → w.heap.size < j) ∧ Fr nob w0 wr) (fun _ i _ => 256 - (intOf i).toNat)
  case atStart => exact ⟨0, rfl, by omega, World.ownsRow_nil _ _ _ _, fun j h => (by cases h), Fr.refl _ _⟩
  case round =>
    obtain ⟨k, rfl, hk, hown, hblk, fr⟩ := hrel
    have HO := Lib.hid hown; have HBK := Lib.hid hblk; clear hown hblk
    by_cases hlt : k < 256
    · have wk : IntKind.u8.wrap (k : Int) = (k : Int) := IntWalk.u8_in _ (by omega)
      cases hp : s.has k with
      | false =>
        have HP := Lib.hid hp
        have HN := Lib.hid (spl_no hp); have HOP := Lib.hid (show opn s.has (k + 1) = false from hp)
        clear hp
        go_wp2_with fail
        refine (hasR_any s k _ HS.out hlt).mono ?_
        rw [HP.out]
        rintro e w2 ⟨rfl, f2⟩
        have HO2 := Lib.hid (HO.out.on f2 (fun _ _ x => x)); have F2 := Lib.hid (fr.trans' f2)
        clear fr f2
        go_wp2
        go_roundw
        case rel => exact ⟨k + 1, by go_num, by omega, by rw [HN.out]; exact HO2.out, HBK.out, F2.out⟩
        case measure => simp [intOf]; omega
      | true =>
        have HP := Lib.hid hp
        cases ho : opn s.has k with
        | false =>
          have HN := Lib.hid (spl_new hp ho); have HOP := Lib.hid (show opn s.has (k + 1) = true from hp)
          have hl : (spl s.has k).length ≤ 256 := by have := spl_len s.has k; omega
          have HO1 := Lib.hid ho
          clear hp ho
          have second : ∀ w2 : World, Fr nob wr w2 → Fr nob w0 w2 ∧ w2.ownsRow 0 62 2 u3 (spl s.has k).length (spC (spl s.has k)) := fun w2 f2 => ⟨fr.trans' f2, HO.out.on f2 (fun _ _ x => x)⟩
          have SE := Lib.hid second
          clear second
          cases k with
          | zero =>
            go_wp2_with fail
            refine (hasR_any s 0 _ HS.out hlt).mono ?_
            rw [HP.out]
            rintro e w2 ⟨rfl, f2⟩
            have F2 := Lib.hid (SE.out _ f2).1
            have hown := (SE.out _ f2).2
            clear f2
            go_wp2_with (at_builtin; refine wpList_append_g rfl _ _ 60 rfl 62 i0 (.agg #[.int .u8 0, .int .u8 0]) 2 2 Tryz.underlying60 hi hz0 hz1 hz2 rfl (by decide) _ _ _ rfl (hown.alloc _) ⟨w2.heap.size, 0, none⟩ 1 1 [.int .u8 0, .int .u8 0] rfl rfl ?c1 ?c2 ?c3 ?c4 ?_)
            case c1 =>
              intro j u hj
              match j, hj with
              | 0, hj => simp at hj; subst hj; simp [Addr.add]
              | 1, hj => simp at hj; subst hj; simp [Addr.add]
            case c2 => intro u hu; simp at hu; subst hu; rfl
            case c3 => unfold maxLen; omega
            case c4 => omega
            intro v' w3 hown' hap
            have hf3 : Fr nob w0 w3 := (F2.out.alloc _).trans hap.fr (fun i hi e => by have := HBK.out _ e; have := HSZ.out; omega)
            have hk3 : ∀ j, v'.ownBlock = some j → w.heap.size < j := fun j hj => by
              rcases hap.old j hj with h1 | h1
              · exact HBK.out j h1
              · simp at h1; have := F2.out.size; have := lt_heap HB0.out; omega
            have HF3 := Lib.hid hf3; have HK3 := Lib.hid hk3; have HO3 := Lib.hid hown'
            clear hf3 hk3 hown' hown hap
            go_wp2
            go_roundw
            case rel =>
              refine ⟨0 + 1, by go_num, by omega, ?_, HK3.out, HF3.out⟩
              rw [HN.out]; unfold OwnP; rw [List.length_append, spC_append]; exact HO3.out
            case measure => simp [intOf]
          | succ j =>
            have hj : s.has j = false := HO1.out
            have wj : IntKind.u8.wrap (j : Int) = (j : Int) := IntWalk.u8_in _ (by omega)
            have wj' : IntKind.u8.wrap ((j : Int) + 1) = (j : Int) + 1 := IntWalk.u8_in _ (by omega)
            have HJ := Lib.hid hj; clear hj
            go_wp2_with fail
            refine (hasR_any s (j + 1) _ HS.out hlt).mono ?_
            rw [HP.out]
            rintro e w2 ⟨rfl, f2⟩
            have fr2 := fr.trans' f2
            go_wp2_with fail
            refine (hasR_any s j _ HS.out (by omega)).mono ?_
            rw [HJ.out]
            rintro e w3 ⟨rfl, f3⟩
            have F2 := Lib.hid (SE.out _ (f2.trans' f3)).1
            have hown := (SE.out _ (f2.trans' f3)).2
            clear f2 f3
            go_wp2_with (at_builtin; refine wpList_append_g rfl _ _ 60 rfl 62 i0 (.agg #[.int .u8 0, .int .u8 0]) 2 2 Tryz.underlying60 hi hz0 hz1 hz2 rfl (by decide) _ _ _ rfl (hown.alloc _) ⟨w3.heap.size, 0, none⟩ 1 1 [.int .u8 ((j : Int) + 1), .int .u8 ((j : Int) + 1)] rfl rfl ?e1 ?e2 ?e3 ?e4 ?_)
            case e1 =>
              intro j u hj
              match j, hj with
              | 0, hj => simp at hj; subst hj; simp [Addr.add]
              | 1, hj => simp at hj; subst hj; simp [Addr.add]
            case e2 => intro u hu; simp at hu; subst hu; rfl
            case e3 => unfold maxLen; omega
            case e4 => omega
            intro v' w4 hown' hap
            have hf3 : Fr nob w0 w4 := (F2.out.alloc _).trans hap.fr (fun i hi e => by have := HBK.out _ e; have := HSZ.out; omega)
            have hk3 : ∀ j, v'.ownBlock = some j → w.heap.size < j := fun j hj => by
              rcases hap.old j hj with h1 | h1
              · exact HBK.out j h1
              · simp at h1; have := F2.out.size; have := lt_heap HB0.out; omega
            have HF3 := Lib.hid hf3; have HK3 := Lib.hid hk3; have HO3 := Lib.hid hown'
            clear hf3 hk3 hown' hown hap
            go_wp2
            go_roundw
            case rel =>
              refine ⟨j + 1 + 1, by go_num, by omega, ?_, HK3.out, HF3.out⟩
              rw [HN.out]; unfold OwnP; rw [List.length_append, spC_append]; exact HO3.out
            case measure => simp [intOf]; omega
        | true =>
          obtain ⟨l0, a, e0⟩ := spl_open ho
          have HN := Lib.hid (spl_ext hp ho e0); have HOP := Lib.hid (show opn s.has (k + 1) = true from hp)
          have hl : (spl s.has k).length ≤ 256 := by have := spl_len s.has k; omega
          have hown0 := HO.out
          rw [e0] at hown0 hl
          obtain ⟨g, cap, hv, hg⟩ := hown0.slc (by simp)
          have hgb := HBK.out g (by rw [hv]; rfl)
          subst hv
          have hle : (l0 ++ [(a, k - 1)]).length = l0.length + 1 := by simp
          rw [hle] at hl hown0 ⊢
          obtain ⟨j, rfl⟩ : ∃ j, k = j + 1 := by cases k with | zero => cases ho | succ j => exact ⟨j, rfl⟩
          have hj : s.has j = true := ho
          have wj : IntKind.u8.wrap (j : Int) = (j : Int) := IntWalk.u8_in _ (by omega)
          have wj' : IntKind.u8.wrap ((j : Int) + 1) = (j : Int) + 1 := IntWalk.u8_in _ (by omega)
          have HJ := Lib.hid hj
          clear hp ho hj
          go_wp2_with fail
          refine (hasR_any s (j + 1) _ HS.out hlt).mono ?_
          rw [HP.out]
          rintro e w1 ⟨rfl, f1⟩
          have fr2 := fr.trans' f1
          go_wp2_with fail
          refine (hasR_any s j _ HS.out (by omega)).mono ?_
          rw [HJ.out]
          rintro e w2 ⟨rfl, f2'⟩
          have f2 := f1.trans' f2'
          clear f1 f2'
          have hown : w2.ownsRow 0 62 2 (.slice (some ⟨g, 0, none⟩) (l0.length + 1) cap) (l0.length + 1) (spC (l0 ++ [(a, j + 1 - 1)])) := by have := hown0.on f2 (fun _ _ x => x); unfold OwnP at this; rwa [hle] at this
          have c1 := hown.cellAt (l0.length * 2 + 1) (by omega)
          have c2 := hown.frozenAt (l0.length * 2 + 1)
          have c3 := (spC_at (l0 ++ [(a, j + 1 - 1)]) l0.length (by simp)).2
          rw [c3] at c1
          have F2 := Lib.hid (fr.trans' f2)
          have HOW := Lib.hid hown
          clear fr f2 hown hown0 c3 hle
          go_wp2_with fail
          have hst := HOW.out.stored (l0.length * 2 + 1) (.int .u8 ((j + 1 : Nat) : Int))
          rw [spC_set] at hst
          have HST := Lib.hid hst.1
          clear hst c1 c2
          go_roundw
          case rel =>
            refine ⟨j + 1 + 1, by go_num, by omega, ?_, fun j hj => ?_, F2.out.setCell (p := ⟨g, l0.length * 2 + 1, none⟩) (fun h => by have := HSZ.out; simp only at h; omega) _⟩
            · rw [HN.out]; unfold OwnP; rw [List.length_append]; exact HST.out
            · obtain rfl : g = j := by injection hj
              exact hgb
          case measure => simp [intOf]; omega
    · obtain rfl : k = 256 := by omega
      go_wp2
      go_ret
      exact ⟨_, rfl, HO.out, F0.out.trans' fr, fun j hj => by have := HBK.out j hj; omega⟩


end Go.Proofs.YtlchaocpejfikaaGreatDoor
