/-
  Merged texts of this claim: BrkA, OctetK, Bld, Narrow, BldRune, OctetW, Awake1, BrkB, BrkC, BrkD.
-/
import Derived.Deep.RegionHeld3
import Derived.Deep.DeepCutAuto
import Derived.Deep.CutBlock
import Derived.Test.YtpcpmjaphjkphaaDoorChecked
import Derived.WalkKit
import Derived.Laws.Externs
import Derived.Laws.IdiomCopy
import Derived.Shelf.Lays
import Derived.Shelf.RegionOpenPlain
import Derived.Lib.UnsafeStr
import Derived.StillTailTactics
import Derived.Laws.RangeAny
import Derived.Test.YtpcpmjaphjkphaaDoorShelf
import Derived.Test.YtpcpmjaphjkphaaDoorM01
import Derived.Test.YtpcpmjaphjkphaaDoorM03

/-
  Walks of package bracket: fail, ahead, an item's least byte.
-/
namespace Go.Proofs.YtpcpmjaphjkphaaDoor
open Go.RowKit

/-- A reader in a block. -/
def Rd (w : World) (b : Nat) (l : List UInt8) (at_ wr pl : Int) : Prop := w.heap[b]? = some (.cells #[.string ⟨l.toArray⟩, .int .i64 at_, .int .i64 wr, .int .i64 pl] 130 (0, 0))
theorem Rd.on {w w' : World} {b : Nat} {l : List UInt8} {a r p : Int} (h : Rd w b l a r p) (f : Fr nob w w') : Rd w' b l a r p := f.heap h (fun x => x)

theorem strings_HasPrefix (l p : List UInt8) (w : World) (hs : l.length ≤ 9223372036854775807) (hp : p.length ≤ 9223372036854775807) :
    Calls Tryd.prog 70 #[.string ⟨l.toArray⟩, .string ⟨p.toArray⟩] w fun e w' => e = .returned (.bool (p.isPrefixOf l)) ∧ w = w' := by
  have HS := Lib.hid hs; have HP := Lib.hid hp
  have hx := bext l 0 p.length
  simp only [List.drop_zero, Nat.sub_zero] at hx
  go_enter Tryd.func70, Tryd.ntmps70
  go_wp2
  all_goals go_ret
  · exact ⟨ret_bool (prefix_take (by assumption)), rfl⟩
  · exact ⟨ret_bool (prefix_long (by assumption)), rfl⟩

theorem fail_ok (b : Nat) (l : List UInt8) (a p e q : Int) (w : World) (h : Rd w b l a 0 p) :
    Calls Tryd.prog 92 #[.pointer (some ⟨b, 0, none⟩), .int .i64 e, .int .i64 q] w fun r w' => r = .returned (.tuple #[]) ∧ Rd w' b l a e q ∧ Fr (fun k => k = b) w w' := by
  obtain ⟨⟨c0, c1, c2, c3⟩, d0, d1, d2, d3⟩ := rule4 h _ (Fr.refl _ _)
  have H := Lib.hid h; clear h
  go_enter Tryd.func92, Tryd.ntmps92
  go_wp2
  go_end0
  have h1 := heap_setCell_at H.out 2 (.int .i64 e)
  exact ⟨rfl, heap_setCell_at h1 3 (.int .i64 q), ((Fr.refl (fun k => k = b) w).setCell (p := ⟨b, 2, none⟩) (fun _ => rfl) _).setCell (p := ⟨b, 3, none⟩) (fun _ => rfl) _⟩
theorem fail_set (b : Nat) (l : List UInt8) (a r p e q : Int) (w : World) (hr : r ≠ 0) (h : Rd w b l a r p) :
    Calls Tryd.prog 92 #[.pointer (some ⟨b, 0, none⟩), .int .i64 e, .int .i64 q] w fun x w' => x = .returned (.tuple #[]) ∧ w = w' := by
  obtain ⟨⟨c0, c1, c2, c3⟩, d0, d1, d2, d3⟩ := rule4 h _ (Fr.refl _ _)
  have hr' : (r == 0) = false := by simpa using hr
  clear h hr
  go_enter Tryd.func92, Tryd.ntmps92
  go_wp2
  go_end0
  exact ⟨rfl, rfl⟩

set_option maxRecDepth 100000 in
theorem ahead_any (b : Nat) (l t : List UInt8) (a : Nat) (r p : Int) (w : World) (hl : l.length ≤ 1000000) (ht : t.length ≤ 1000000) (ha : a ≤ l.length) (h : Rd w b l a r p) :
    Calls Tryd.prog 83 #[.pointer (some ⟨b, 0, none⟩), .string ⟨t.toArray⟩] w fun x w' => x = .returned (.bool (t.isPrefixOf (l.drop a))) ∧ Fr nob w w' := by
  have rr := rule4 h
  clear h
  have hal : (a : Int) ≤ l.length := by omega
  have hP := fun w : World => strings_HasPrefix (l.drop a) t w (by simp; omega) (by omega)
  have HPP := Lib.hid hP; clear hP
  go_enter Tryd.func83, Tryd.ntmps83
  go_wp2_with fail
  refine region_fr 10 (by kernel_rfl) (by kernel_rfl) ?_
  simp only [List.take_succ_cons, List.take_zero, List.drop_succ_cons, List.drop_zero]
  repeat (quiet_step (fail))
  refine wpQuiet_nil ?_
  intro wC fC
  go_wp2_with fail
  refine (HPP.out _).mono ?_
  rintro e w2 ⟨rfl, rfl⟩
  go_wp2
  go_ret
  exact ⟨rfl, fC⟩

abbrev itV (s : S4) (e : Bool) : Value := .agg #[.int .u64 s.a, .int .u64 s.b, .int .u64 s.c, .int .u64 s.d, .bool e]
def DigitIs (s : S4) (w : World) (e : Ending) (w' : World) : Prop := ∃ d b, e = .returned (.int .u8 (d : Nat)) ∧ LeastIs s d b ∧ d < 256 ∧ Fr nob w w'

set_option maxRecDepth 100000 in
theorem itLeast_any (s : S4) (e : Bool) (w : World) (hs : s.fit) (hT : Tab w) :
    Calls Tryd.prog 91 #[itV s e] w (DigitIs s w) := by
  have HT := Lib.hid (hT.on ((Fr.refl nob w).alloc (.cells #[.int .u64 s.a, .int .u64 s.b, .int .u64 s.c, .int .u64 s.d, .bool e] 135)))
  clear hT
  go_enter Tryd.func91, Tryd.ntmps91
  go_wp2_with fail
  refine (least_any s _ hs HT.out).mono ?_
  rintro x w2 ⟨d, b, rfl, hl, f⟩
  have HL := Lib.hid hl
  have hd : d < 256 := by rcases hl with ⟨_, rfl, _⟩ | ⟨_, h, _⟩ <;> omega
  clear hl
  go_wp2
  go_ret
  exact ⟨d, b, rfl, HL.out, hd, ((Fr.refl _ _).alloc _).trans' f⟩
theorem LeastIs.one {c d : Nat} {b : Bool} (hc : c < 256) (h : LeastIs (spn c c) d b) : d = c := by
  have hh : (spn c c).has c = true := by rw [has_spn _ _ _ hc hc hc]; simp
  rcases h with ⟨_, _, h⟩ | ⟨_, h1, h2, h3⟩
  · rw [h, has_zero] at hh; cases hh
  · rw [has_spn _ _ _ hc hc h1] at h2
    simp at h2; omega

end Go.Proofs.YtpcpmjaphjkphaaDoor

/-
  Walks: placketref01.Class.
-/
namespace Go.Proofs.YtpcpmjaphjkphaaDoor
open Go.RowKit

theorem e_lower : spn 97 122 = pk isLower 256 := by decide +kernel
theorem e_upper : spn 65 90 = pk isUpper 256 := by decide +kernel
theorem e_digit : spn 48 57 = pk isDigit 256 := by decide +kernel
theorem e_alpha : (spn 97 122).or (spn 65 90) = pk isAlpha 256 := by decide +kernel
theorem e_alnum : ((spn 97 122).or (spn 65 90)).or (spn 48 57) = pk isAlnum 256 := by decide +kernel
theorem e_xdigit : (spn 48 57).or ((spn 65 70).or (spn 97 102)) = pk isXdigit 256 := by decide +kernel
theorem e_blank : (spn 32 32).or (spn 9 9) = pk isBlank 256 := by decide +kernel
theorem e_space : ((spn 32 32).or (spn 9 9)).or (spn 10 13) = pk isSpace 256 := by decide +kernel
theorem e_cntrl : (spn 0 31).or (spn 127 127) = pk isCntrl 256 := by decide +kernel
theorem e_print : spn 32 126 = pk isPrint 256 := by decide +kernel
theorem e_graph : spn 33 126 = pk isGraph 256 := by decide +kernel
theorem e_punct : (spn 33 126).and (((spn 97 122).or (spn 65 90)).or (spn 48 57)).not = pk isPunct 256 := by decide +kernel

abbrev setV (s : S4) : Value := .agg #[.int .u64 s.a, .int .u64 s.b, .int .u64 s.c, .int .u64 s.d]
/-- A set of the document's and a bool that are handed back. -/
theorem results_setRB {fn : Func} {p q : Tmp} (h : fn.results = #[.cell p 48, .tmp q]) {tmps : Array Value} {r : Nat} (ht : tmps.getD p undef = .pointer (some ⟨r, 0, none⟩)) {v : Value} (hq : tmps.getD q undef = v) {W : World} {s : S4}
    (hb : W.heap[r]? = some (.cells #[.int .u64 s.a, .int .u64 s.b, .int .u64 s.c, .int .u64 s.d] 48 (0, 0))) : (results fn tmps).run Tryd.prog W = .ok (.tuple #[setV s, v]) W := by
  obtain ⟨c0, c1, c2, c3, _⟩ := cellS (s := s) hb
  have ht' : tmps[p]?.getD undef = .pointer (some ⟨r, 0, none⟩) := by rw [← ht]; simp
  have hq' : tmps[q]?.getD undef = v := by rw [← hq]; simp
  simp only [results, h]
  simp [ht', hq', go_sem, c0, c1, c2, c3]

/-! The contracts, their sets written out. -/
theorem spanR_lit (a b : Nat) (w : World) (ha : a < 256) (hb : b < 256) :
    Calls Tryd.prog 43 #[.int .u8 a, .int .u8 b] w fun e w' => e = .returned (setV (spn a b)) ∧ Fr nob w w' := spanR_any a b w ha hb
theorem orR_lit (s t : S4) (w : World) : Calls Tryd.prog 44 #[setV s, setV t] w fun e w' => e = .returned (setV (s.or t)) ∧ Fr nob w w' := orR_any s t w
theorem andR_lit (s t : S4) (w : World) : Calls Tryd.prog 45 #[setV s, setV t] w fun e w' => e = .returned (setV (s.and t)) ∧ Fr nob w w' := andR_any s t w
theorem notR_lit (s : S4) (w : World) : Calls Tryd.prog 46 #[setV s] w fun e w' => e = .returned (setV s.not) ∧ Fr nob w w' := notR_any s w

set_option maxRecDepth 100000 in
set_option maxHeartbeats 1000000 in
theorem refClass_any (s : ByteArray) (w : World) : Calls Tryd.prog 31 #[.string s] w fun e w' => e = .returned (.tuple #[.agg (clsSet (clsOf s)).cells.toArray, .bool (clsOf s).isSome]) ∧ Fr nob w w' := by
  obtain ⟨o, ho⟩ : ∃ o, clsOf s = o := ⟨_, rfl⟩
  rw [ho]
  have HO := Lib.hid ho; clear ho
  obtain ⟨lo, hlo⟩ : ∃ x, spn 97 122 = x := ⟨_, rfl⟩
  obtain ⟨up, hup⟩ : ∃ x, spn 65 90 = x := ⟨_, rfl⟩
  obtain ⟨dg, hdg⟩ : ∃ x, spn 48 57 = x := ⟨_, rfl⟩
  have HLO := Lib.hid hlo; have HUP := Lib.hid hup; have HDG := Lib.hid hdg; clear hlo hup hdg
  go_enter Tryd.func31, Tryd.ntmps31
  go_wp2_with fail
  refine (spanR_lit 97 122 _ (by decide) (by decide)).mono ?_
  rw [HLO.out]; rintro e w1 ⟨rfl, f1⟩
  go_wp2_with fail
  refine (spanR_lit 65 90 _ (by decide) (by decide)).mono ?_
  rw [HUP.out]; rintro e w2 ⟨rfl, f2⟩
  go_wp2_with fail
  refine (spanR_lit 48 57 _ (by decide) (by decide)).mono ?_
  rw [HDG.out]; rintro e w3 ⟨rfl, f3⟩
  go_wp2_with fail
  obtain ⟨wA, hA⟩ : ∃ wA, wA = ((w3.alloc (.cells lo.cells.toArray 48)).alloc (.cells up.cells.toArray 48)).alloc (.cells dg.cells.toArray 48) := ⟨_, rfl⟩
  have fA : Fr nob w3 wA := by rw [hA]; exact (((Fr.refl _ _).alloc _).alloc _).alloc _
  have hr : wA.heap[w.heap.size]? = some (.cells S4.zero.cells.toArray 48 (0, 0)) := fA.heap (f3.heap (f2.heap (f1.heap (heap_alloc_new _ _) (fun x => x)) (fun x => x)) (fun x => x)) (fun x => x)
  have h4 : wA.heap[w3.heap.size]? = some (.cells lo.cells.toArray 48 (0, 0)) := by rw [hA]; exact heap_alloc_lt _ (heap_alloc_lt _ (heap_alloc_new _ _))
  have h5 : wA.heap[w3.heap.size + 1]? = some (.cells up.cells.toArray 48 (0, 0)) := by rw [hA]; exact heap_alloc_lt _ (heap_alloc_new' _ _ _ (by simp))
  have h6 : wA.heap[w3.heap.size + 1 + 1]? = some (.cells dg.cells.toArray 48 (0, 0)) := by rw [hA]; exact heap_alloc_new' _ _ _ (by simp)
  have FA := Lib.hid (((Fr.refl nob w).alloc (.cells S4.zero.cells.toArray 48)).trans' (f1.trans' (f2.trans' (f3.trans' fA))))
  simp only [S4.cells_eq] at hA
  rw [← hA]
  clear hA fA f1 f2 f3
  obtain ⟨b4, e4⟩ : ∃ b, w3.heap.size = b := ⟨_, rfl⟩
  rw [e4] at h4 h5 h6 ⊢
  clear e4
  have c4 := fun w' f => C4s h4 w' f
  have c5 := fun w' f => C4s h5 w' f
  have c6 := fun w' f => C4s h6 w' f
  have HR := Lib.hid hr; have H4 := Lib.hid h4; have H5 := Lib.hid h5; have H6 := Lib.hid h6
  clear hr h4 h5 h6
  go_cut [7] (fun v7 w' => ∃ b, v7 = .pointer (some ⟨b, 0, none⟩) ∧ w'.heap[b]? = some (.cells ((lo.or up).or dg).cells.toArray 48 (0, 0)) ∧ Fr nob wA w')
  case first =>
    go_region_held3 (fun w' => Fr nob wA w') (repeat (first | (with_reducible exact Fr.refl _ _) | (with_reducible assumption) | (with_reducible refine Fr.drew ?_) | (with_reducible refine Fr.alloc ?_ _) | (refine Fr.setCell ?_ (fun h => absurd h (by first | exact Nat.lt_irrefl _ | exact Nat.not_lt.2 f5.size | exact Nat.not_lt.2 (Nat.le_trans f5.size f6.size))) _) | (with_reducible refine Fr.trans' ?_ (by with_reducible assumption)))) (first | (go_at_call 44; (with_reducible refine (orR_lit lo up _).mono ?_); rintro e w5 ⟨rfl, f5⟩; first | (have z5 := f5.heap (heap_alloc_new _ (.cells #[.int .u64 0, .int .u64 0, .int .u64 0, .int .u64 0] 48)) (fun x => x)) | skip) | (go_at_call 44; (with_reducible refine (orR_lit (lo.or up) dg _).mono ?_); rintro e w6 ⟨rfl, f6⟩; first | (have z6 := f6.heap z5 (fun x => x); obtain ⟨⟨y4, y5, y6, y7⟩, y0, y1, y2, y3⟩ := rule4 z6 _ (Fr.refl _ _); have hl := lt_heap z6) | (have z6 := f6.heap (heap_alloc_new _ (.cells #[.int .u64 0, .int .u64 0, .int .u64 0, .int .u64 0] 48)) (fun x => x); obtain ⟨⟨y4, y5, y6, y7⟩, y0, y1, y2, y3⟩ := rule4 z6 _ (Fr.refl _ _); have hl := lt_heap z6) | skip))
    all_goals
      go_wp2
      go_meet
      case rel =>
        refine ⟨_, rfl, ?_, ?_⟩
        · rw [S4.cells_eq]; first | (with_reducible exact heap_alloc_new _ _) | (with_reducible exact setFour_heap z6 _ _ _ _)
        · (repeat (first | (with_reducible exact Fr.refl _ _) | (with_reducible assumption) | (with_reducible refine Fr.drew ?_) | (with_reducible refine Fr.alloc ?_ _) | (refine Fr.setCell ?_ (fun h => absurd h (by first | exact Nat.lt_irrefl _ | exact Nat.not_lt.2 f5.size | exact Nat.not_lt.2 (Nat.le_trans f5.size f6.size))) _) | (with_reducible refine Fr.trans' ?_ (by with_reducible assumption))))
  case rest =>
    obtain ⟨b7, rfl, h7, f4⟩ := hcut
    have H7 := Lib.hid h7; clear h7
    go_wp2_with fail
    refine (spanR_lit 32 32 _ (by decide) (by decide)).mono ?_
    rintro e w7 ⟨rfl, f7⟩
    go_wp2_with fail
    refine (spanR_lit 9 9 _ (by decide) (by decide)).mono ?_
    rintro e w8 ⟨rfl, f8⟩
    go_wp2_with fail
    refine (orR_lit _ _ _).mono ?_
    rintro e w9 ⟨rfl, f9⟩
    have fB : Fr nob wA w9 := f4.trans' (f7.trans' (f8.trans' f9))
    have h8 := heap_alloc_new w9 (.cells ((spn 32 32).or (spn 9 9)).cells.toArray 48)
    obtain ⟨bl, hbl⟩ : ∃ x, (spn 32 32).or (spn 9 9) = x := ⟨_, rfl⟩
    rw [hbl] at h8 ⊢
    have HBL := Lib.hid hbl; clear hbl
    have hr := heap_alloc_lt (.cells bl.cells.toArray 48) (fB.heap HR.out (fun x => x))
    have h4 := heap_alloc_lt (.cells bl.cells.toArray 48) (fB.heap H4.out (fun x => x))
    have h5 := heap_alloc_lt (.cells bl.cells.toArray 48) (fB.heap H5.out (fun x => x))
    have h6 := heap_alloc_lt (.cells bl.cells.toArray 48) (fB.heap H6.out (fun x => x))
    have h7 := heap_alloc_lt (.cells bl.cells.toArray 48) ((f7.trans' (f8.trans' f9)).heap H7.out (fun x => x))
    have FB := Lib.hid ((FA.out.trans' fB).alloc (.cells bl.cells.toArray 48))
    clear HR H4 H5 H6 H7 FA fB f4 f7 f8 f9 c4 c5 c6
    simp only [S4.cells_eq] at hr h4 h5 h6 h7 h8
    go_upto_block 0 with (fail)
    obtain ⟨wB, hB⟩ : ∃ x, x = w9.alloc (.cells #[.int .u64 bl.a, .int .u64 bl.b, .int .u64 bl.c, .int .u64 bl.d] 48) := ⟨_, rfl⟩
    have FB2 : Hid (Fr nob w wB) := by rw [hB]; exact FB
    rw [← hB] at hr h4 h5 h6 h7 h8 ⊢
    clear hB FB
    have lr := lt_heap hr; have l4 := lt_heap h4; have l5 := lt_heap h5; have l6 := lt_heap h6; have l7 := lt_heap h7; have l8 := lt_heap h8
    obtain ⟨b8, e8⟩ : ∃ b, w9.heap.size = b := ⟨_, rfl⟩
    rw [e8] at h8 l8 ⊢
    clear e8
    have r0 := rule4 hr; have r4 := rule4 h4; have r5 := rule4 h5; have r6 := rule4 h6; have r7 := rule4 h7; have r8 := rule4 h8
    have HR := Lib.hid hr; clear hr h4 h5 h6 h7 h8
    go_wp2_with fail
    · go_wp2
      (try simp only [Exit.inBlock, Exit.then])
      have ho : o = some isLower := by rw [← HO.out]; simp only [clsOf, *]; rfl
      have hs : clsSet (some isLower) = lo := by rw [← HLO.out]; exact e_lower.symm
      refine bodyPost_ret (results_setRB (s := lo) rfl rfl rfl (setFour_heap ((Fr.refl nob wB).heap HR.out (fun x => x)) _ _ _ _)) rfl ⟨by rw [ho, hs]; rfl, setFour_fr (FB2.out.trans' (Fr.refl nob wB)) (by omega) _ _ _ _⟩
    · go_wp2
      (try simp only [Exit.inBlock, Exit.then])
      have ho : o = some isUpper := by rw [← HO.out]; simp only [clsOf, *]; rfl
      have hs : clsSet (some isUpper) = up := by rw [← HUP.out]; exact e_upper.symm
      refine bodyPost_ret (results_setRB (s := up) rfl rfl rfl (setFour_heap ((Fr.refl nob wB).heap HR.out (fun x => x)) _ _ _ _)) rfl ⟨by rw [ho, hs]; rfl, setFour_fr (FB2.out.trans' (Fr.refl nob wB)) (by omega) _ _ _ _⟩
    · go_wp2_with fail
      refine (orR_lit lo up _).mono ?_
      rintro e wC ⟨rfl, fC⟩
      go_wp2
      (try simp only [Exit.inBlock, Exit.then])
      have ho : o = some isAlpha := by rw [← HO.out]; simp only [clsOf, *]; rfl
      have hs : clsSet (some isAlpha) = (lo.or up) := by rw [← HLO.out, ← HUP.out]; exact e_alpha.symm
      refine bodyPost_ret (results_setRB (s := (lo.or up)) rfl rfl rfl (setFour_heap (fC.heap HR.out (fun x => x)) _ _ _ _)) rfl ⟨by rw [ho, hs]; rfl, setFour_fr (FB2.out.trans' fC) (by omega) _ _ _ _⟩
    · go_wp2
      (try simp only [Exit.inBlock, Exit.then])
      have ho : o = some isDigit := by rw [← HO.out]; simp only [clsOf, *]; rfl
      have hs : clsSet (some isDigit) = dg := by rw [← HDG.out]; exact e_digit.symm
      refine bodyPost_ret (results_setRB (s := dg) rfl rfl rfl (setFour_heap ((Fr.refl nob wB).heap HR.out (fun x => x)) _ _ _ _)) rfl ⟨by rw [ho, hs]; rfl, setFour_fr (FB2.out.trans' (Fr.refl nob wB)) (by omega) _ _ _ _⟩
    · go_wp2
      (try simp only [Exit.inBlock, Exit.then])
      have ho : o = some isAlnum := by rw [← HO.out]; simp only [clsOf, *]; rfl
      have hs : clsSet (some isAlnum) = ((lo.or up).or dg) := by rw [← HLO.out, ← HUP.out, ← HDG.out]; exact e_alnum.symm
      refine bodyPost_ret (results_setRB (s := ((lo.or up).or dg)) rfl rfl rfl (setFour_heap ((Fr.refl nob wB).heap HR.out (fun x => x)) _ _ _ _)) rfl ⟨by rw [ho, hs]; rfl, setFour_fr (FB2.out.trans' (Fr.refl nob wB)) (by omega) _ _ _ _⟩
    · obtain ⟨x1, hx1⟩ : ∃ x, spn 65 70 = x := ⟨_, rfl⟩
      obtain ⟨x2, hx2⟩ : ∃ x, spn 97 102 = x := ⟨_, rfl⟩
      have HX1 := Lib.hid hx1; have HX2 := Lib.hid hx2; clear hx1 hx2
      have s1 : ∀ w : World, Calls Tryd.prog 43 #[.int .u8 65, .int .u8 70] w fun e w' => e = .returned (setV x1) ∧ Fr nob w w' := fun w => by rw [← HX1.out]; exact spanR_lit 65 70 w (by decide) (by decide)
      have s2 : ∀ w : World, Calls Tryd.prog 43 #[.int .u8 97, .int .u8 102] w fun e w' => e = .returned (setV x2) ∧ Fr nob w w' := fun w => by rw [← HX2.out]; exact spanR_lit 97 102 w (by decide) (by decide)
      have S1 := Lib.hid s1; have S2 := Lib.hid s2; clear s1 s2
      refine region_fr 5 (by kernel_rfl) (by kernel_rfl) ?_
      simp only [List.take_succ_cons, List.take_zero, List.drop_succ_cons, List.drop_zero]
      repeat (quiet_step ((first | (with_reducible exact calls_fr (S1.out _)) | (with_reducible exact calls_fr (S2.out _)) | (with_reducible exact calls_fr (orR_lit x1 x2 _)) | (with_reducible exact calls_fr (orR_lit dg (x1.or x2) _)))))
      refine wpQuiet_nil ?_
      intro wC fC
      go_wp2
      (try simp only [Exit.inBlock, Exit.then])
      have ho : o = some isXdigit := by rw [← HO.out]; simp only [clsOf, *]; rfl
      have hs : clsSet (some isXdigit) = (dg.or (x1.or x2)) := by rw [← HDG.out, ← HX1.out, ← HX2.out]; exact e_xdigit.symm
      refine bodyPost_ret (results_setRB (s := (dg.or (x1.or x2))) rfl rfl rfl (setFour_heap (fC.heap HR.out (fun x => x)) _ _ _ _)) rfl ⟨by rw [ho, hs]; rfl, setFour_fr (FB2.out.trans' fC) (by omega) _ _ _ _⟩
    · go_wp2
      (try simp only [Exit.inBlock, Exit.then])
      have ho : o = some isBlank := by rw [← HO.out]; simp only [clsOf, *]; rfl
      have hs : clsSet (some isBlank) = bl := by rw [← HBL.out]; exact e_blank.symm
      refine bodyPost_ret (results_setRB (s := bl) rfl rfl rfl (setFour_heap ((Fr.refl nob wB).heap HR.out (fun x => x)) _ _ _ _)) rfl ⟨by rw [ho, hs]; rfl, setFour_fr (FB2.out.trans' (Fr.refl nob wB)) (by omega) _ _ _ _⟩
    · obtain ⟨x1, hx1⟩ : ∃ x, spn 10 13 = x := ⟨_, rfl⟩
      have HX1 := Lib.hid hx1; clear hx1
      have s1 : ∀ w : World, Calls Tryd.prog 43 #[.int .u8 10, .int .u8 13] w fun e w' => e = .returned (setV x1) ∧ Fr nob w w' := fun w => by rw [← HX1.out]; exact spanR_lit 10 13 w (by decide) (by decide)
      have S1 := Lib.hid s1; clear s1
      refine region_fr 3 (by kernel_rfl) (by kernel_rfl) ?_
      simp only [List.take_succ_cons, List.take_zero, List.drop_succ_cons, List.drop_zero]
      repeat (quiet_step ((first | (with_reducible exact calls_fr (S1.out _)) | (with_reducible exact calls_fr (orR_lit bl x1 _)))))
      refine wpQuiet_nil ?_
      intro wC fC
      go_wp2
      (try simp only [Exit.inBlock, Exit.then])
      have ho : o = some isSpace := by rw [← HO.out]; simp only [clsOf, *]; rfl
      have hs : clsSet (some isSpace) = (bl.or x1) := by rw [← HBL.out, ← HX1.out]; exact e_space.symm
      refine bodyPost_ret (results_setRB (s := (bl.or x1)) rfl rfl rfl (setFour_heap (fC.heap HR.out (fun x => x)) _ _ _ _)) rfl ⟨by rw [ho, hs]; rfl, setFour_fr (FB2.out.trans' fC) (by omega) _ _ _ _⟩
    · go_wp2_with fail
      refine (spanR_lit 0 31 _ (by decide) (by decide)).mono ?_
      obtain ⟨x1, hx1⟩ : ∃ x, spn 0 31 = x := ⟨_, rfl⟩
      rw [hx1]; have HX1 := Lib.hid hx1; clear hx1
      rintro e wC ⟨rfl, fC⟩
      go_wp2_with fail
      refine (spanR_lit 127 127 _ (by decide) (by decide)).mono ?_
      obtain ⟨x2, hx2⟩ : ∃ x, spn 127 127 = x := ⟨_, rfl⟩
      rw [hx2]; have HX2 := Lib.hid hx2; clear hx2
      rintro e wD ⟨rfl, fD⟩
      go_wp2_with fail
      refine (orR_lit x1 x2 _).mono ?_
      rintro e wE ⟨rfl, fE⟩
      have fBE := fC.trans' (fD.trans' fE)
      go_wp2
      (try simp only [Exit.inBlock, Exit.then])
      have ho : o = some isCntrl := by rw [← HO.out]; simp only [clsOf, *]; rfl
      have hs : clsSet (some isCntrl) = (x1.or x2) := by rw [← HX1.out, ← HX2.out]; exact e_cntrl.symm
      refine bodyPost_ret (results_setRB (s := (x1.or x2)) rfl rfl rfl (setFour_heap (fBE.heap HR.out (fun x => x)) _ _ _ _)) rfl ⟨by rw [ho, hs]; rfl, setFour_fr (FB2.out.trans' fBE) (by omega) _ _ _ _⟩
    · go_wp2_with fail
      refine (spanR_lit 32 126 _ (by decide) (by decide)).mono ?_
      obtain ⟨x1, hx1⟩ : ∃ x, spn 32 126 = x := ⟨_, rfl⟩
      rw [hx1]; have HX1 := Lib.hid hx1; clear hx1
      rintro e wC ⟨rfl, fC⟩
      go_wp2
      (try simp only [Exit.inBlock, Exit.then])
      have ho : o = some isPrint := by rw [← HO.out]; simp only [clsOf, *]; rfl
      have hs : clsSet (some isPrint) = x1 := by rw [← HX1.out]; exact e_print.symm
      refine bodyPost_ret (results_setRB (s := x1) rfl rfl rfl (setFour_heap (fC.heap HR.out (fun x => x)) _ _ _ _)) rfl ⟨by rw [ho, hs]; rfl, setFour_fr (FB2.out.trans' fC) (by omega) _ _ _ _⟩
    · go_wp2_with fail
      refine (spanR_lit 33 126 _ (by decide) (by decide)).mono ?_
      obtain ⟨x1, hx1⟩ : ∃ x, spn 33 126 = x := ⟨_, rfl⟩
      rw [hx1]; have HX1 := Lib.hid hx1; clear hx1
      rintro e wC ⟨rfl, fC⟩
      go_wp2
      (try simp only [Exit.inBlock, Exit.then])
      have ho : o = some isGraph := by rw [← HO.out]; simp only [clsOf, *]; rfl
      have hs : clsSet (some isGraph) = x1 := by rw [← HX1.out]; exact e_graph.symm
      refine bodyPost_ret (results_setRB (s := x1) rfl rfl rfl (setFour_heap (fC.heap HR.out (fun x => x)) _ _ _ _)) rfl ⟨by rw [ho, hs]; rfl, setFour_fr (FB2.out.trans' fC) (by omega) _ _ _ _⟩
    · obtain ⟨x1, hx1⟩ : ∃ x, spn 33 126 = x := ⟨_, rfl⟩
      have HX1 := Lib.hid hx1; clear hx1
      have s1 : ∀ w : World, Calls Tryd.prog 43 #[.int .u8 33, .int .u8 126] w fun e w' => e = .returned (setV x1) ∧ Fr nob w w' := fun w => by rw [← HX1.out]; exact spanR_lit 33 126 w (by decide) (by decide)
      have S1 := Lib.hid s1; clear s1
      refine region_fr 4 (by kernel_rfl) (by kernel_rfl) ?_
      simp only [List.take_succ_cons, List.take_zero, List.drop_succ_cons, List.drop_zero]
      repeat (quiet_step ((first | (with_reducible exact calls_fr (S1.out _)) | (with_reducible exact calls_fr (notR_lit ((lo.or up).or dg) _)) | (with_reducible exact calls_fr (andR_lit x1 ((lo.or up).or dg).not _)))))
      refine wpQuiet_nil ?_
      intro wC fC
      go_wp2
      (try simp only [Exit.inBlock, Exit.then])
      have ho : o = some isPunct := by rw [← HO.out]; simp only [clsOf, *]; rfl
      have hs : clsSet (some isPunct) = (x1.and ((lo.or up).or dg).not) := by rw [← HX1.out, ← HLO.out, ← HUP.out, ← HDG.out]; exact e_punct.symm
      refine bodyPost_ret (results_setRB (s := (x1.and ((lo.or up).or dg).not)) rfl rfl rfl (setFour_heap (fC.heap HR.out (fun x => x)) _ _ _ _)) rfl ⟨by rw [ho, hs]; rfl, setFour_fr (FB2.out.trans' fC) (by omega) _ _ _ _⟩
    · go_wp2
      (try simp only [Exit.inBlock, Exit.then])
      have ho : o = none := by rw [← HO.out]; simp only [clsOf, *]; rfl
      refine bodyPost_ret (results_setRB (s := S4.zero) rfl rfl rfl (setFour_heap HR.out _ _ _ _)) rfl ⟨by rw [ho]; rfl, setFour_fr FB2.out (by omega) _ _ _ _⟩

end Go.Proofs.YtpcpmjaphjkphaaDoor

/-
  strings.Builder's methods at a builder that lies anywhere in a block: what each does.
-/
namespace Go.Proofs.YtpcpmjaphjkphaaDoor
open Go.RowKit

def u8T : TypeId := 5

theorem info_u8 : (Tryd.prog.info? 5).map (fun i => (i.zero, i.size, i.bytes)) = some (some (.int .u8 0), 1, 1) := by kernel_rfl

theorem set_set_ne {cs : Array Value} {o i : Nat} {p : Value} (h : i ≠ o) : (cs.setIfInBounds o p)[i]? = cs[i]? := by
  rw [Array.getElem?_setIfInBounds, if_neg (fun e => h e.symm)]

theorem set_at {cs : Array Value} {o : Nat} {p : Value} (h : o < cs.size) : (cs.setIfInBounds o p)[o]? = some p := by
  rw [Array.getElem?_setIfInBounds, if_pos rfl, if_pos h]

/-- What a Builder's cells are behind a write. -/
def bldCells (cs : Array Value) (b o : Nat) (v : Value) : Array Value := (cs.setIfInBounds o (.pointer (some ⟨b, o, none⟩))).setIfInBounds (o + 1) v

theorem bldCells_size (cs : Array Value) (b o : Nat) (v : Value) : (bldCells cs b o v).size = cs.size := by simp [bldCells]

theorem bldCells_ne (cs : Array Value) (b o : Nat) (v : Value) {i : Nat} (h : i ≠ o) (h' : i ≠ o + 1) : (bldCells cs b o v)[i]? = cs[i]? := by
  unfold bldCells; rw [set_set_ne h', set_set_ne h]

theorem fr_freeze {S : Nat → Prop} {a w : World} (h : Fr S a w) {p : Addr} (hp : p.block < a.heap.size → S p.block) (n : Nat) : Fr S a (w.freeze p n) := by
  refine h.trans (T := fun k => k = p.block) ?_ (fun i hi e => by subst e; exact hp hi)
  unfold World.freeze
  split
  · exact Fr.refl _ _
  · refine ⟨rfl, rfl, rfl, by simp, fun k _ hk => ?_⟩
    simp only [Array.getElem?_modify]
    rw [if_neg (fun e => hk e.symm)]

theorem keep_new {b : Nat} {g g' : Option Nat} {w wr w1 : World} (hb : w.heap.size ≤ b) (hf : Fr nob w wr) (hg : ∀ j, g = some j → w.heap.size ≤ j) (hf1 : Fr (fun k => k = b ∨ some k = g) wr w1) : Fr nob w w1 :=
  hf.trans hf1 (fun i hi h => by rcases h with h | h; omega; have := hg i h.symm; omega)
theorem new_blk {g g' : Option Nat} {w wr : World} (hf : Fr nob w wr) (hg : ∀ j, g = some j → w.heap.size ≤ j) (hg1 : ∀ k, g' = some k → some k = g ∨ wr.heap.size ≤ k) : ∀ j, g' = some j → w.heap.size ≤ j := fun j hj => by
  have := hf.size
  rcases hg1 j hj with h | h
  · exact hg j h.symm
  · omega

end Go.Proofs.YtpcpmjaphjkphaaDoor

/-
  Bytes as signs, and back: plain.
-/
namespace Go.Proofs.YtpcpmjaphjkphaaDoor

/-- The bytes of a sign below 256. -/
def wide1 (c : UInt8) : List UInt8 := if c.toNat < 128 then [c] else [(192 + c.toNat / 64).toUInt8, (128 + c.toNat % 64).toUInt8]
def wide : List UInt8 → List UInt8
  | [] => []
  | c :: r => wide1 c ++ wide r

/-- The sign at a place, and how many bytes it has; none: it is none of the 256. -/
def nar1 (l : List UInt8) (k : Nat) : Option (UInt8 × Nat) :=
  let b := (l[k]?.getD 0).toNat
  let c := (l[k + 1]?.getD 0).toNat
  if b < 128 then some (b.toUInt8, 1)
  else if (b = 194 ∨ b = 195) ∧ k + 1 < l.length ∧ 128 ≤ c ∧ c < 192 then some (((b - 192) * 64 + c - 128).toUInt8, 2)
  else none
def nar (l : List UInt8) : Nat → Nat → List UInt8 → Option (List UInt8)
  | 0, _, _ => none
  | n + 1, k, out => if k < l.length then (match nar1 l k with | some (c, m) => nar l n (k + m) (out ++ [c]) | none => none) else some out

theorem nar_end {l : List UInt8} {n k : Nat} {out : List UInt8} (h : ¬ k < l.length) : nar l (n + 1) k out = some out := by rw [nar, if_neg h]
theorem nar_yes {l : List UInt8} {n k m : Nat} {out : List UInt8} {c : UInt8} (h : k < l.length) (e : nar1 l k = some (c, m)) : nar l (n + 1) k out = nar l n (k + m) (out ++ [c]) := by rw [nar, if_pos h, e]
theorem nar_no {l : List UInt8} {n k : Nat} {out : List UInt8} (h : k < l.length) (e : nar1 l k = none) : nar l (n + 1) k out = none := by rw [nar, if_pos h, e]

theorem nar1_le {l : List UInt8} {k m : Nat} {c : UInt8} (h : k < l.length) (e : nar1 l k = some (c, m)) : 1 ≤ m ∧ k + m ≤ l.length := by
  unfold nar1 at e
  simp only at e
  split at e
  · injection e with e; injection e with _ e; omega
  · split at e
    · injection e with e; injection e with _ e; omega
    · cases e
theorem wide1_len (c : UInt8) : 1 ≤ (wide1 c).length ∧ (wide1 c).length ≤ 2 := by unfold wide1; split <;> simp
theorem wide_append (a b : List UInt8) : wide (a ++ b) = wide a ++ wide b := by
  induction a with
  | nil => rfl
  | cons c r ih => simp only [List.cons_append, wide, ih, List.append_assoc]
theorem wide_take {l : List UInt8} {k : Nat} (h : k < l.length) : wide (l.take (k + 1)) = wide (l.take k) ++ wide1 l[k] := by
  rw [List.take_succ_eq_append_getElem h, wide_append]; simp [wide]
theorem wide_split {l : List UInt8} {k : Nat} (h : k < l.length) : wide l = wide (l.take k) ++ (wide1 l[k] ++ wide (l.drop (k + 1))) := by
  conv => lhs; rw [← List.take_append_drop k l, wide_append, List.drop_eq_getElem_cons h]
  rfl
theorem wide_le (l : List UInt8) : (wide l).length ≤ 2 * l.length ∧ l.length ≤ (wide l).length := by
  induction l with
  | nil => simp [wide]
  | cons c r ih => have := wide1_len c; simp only [wide, List.length_append, List.length_cons]; omega

theorem nar1_wide (p q : List UInt8) (c : UInt8) : nar1 (p ++ (wide1 c ++ q)) p.length = some (c, (wide1 c).length) := by
  have hc := c.toNat_lt
  unfold wide1
  split
  · next h => simp [nar1, h]
  · next h =>
    have e1 : (192 + c.toNat / 64).toUInt8.toNat = 192 + c.toNat / 64 := by simp; omega
    have e2 : (128 + c.toNat % 64).toUInt8.toNat = 128 + c.toNat % 64 := by simp; omega
    unfold nar1
    have g0 : (p ++ ([(192 + c.toNat / 64).toUInt8, (128 + c.toNat % 64).toUInt8] ++ q))[p.length]? = some (192 + c.toNat / 64).toUInt8 := by
      rw [List.getElem?_append_right (Nat.le_refl _), Nat.sub_self]; rfl
    have g1 : (p ++ ([(192 + c.toNat / 64).toUInt8, (128 + c.toNat % 64).toUInt8] ++ q))[p.length + 1]? = some (128 + c.toNat % 64).toUInt8 := by
      rw [List.getElem?_append_right (by omega), show p.length + 1 - p.length = 1 by omega]; rfl
    rw [g0, g1]
    simp only [Option.getD_some, e1, e2]
    rw [if_neg (by omega), if_pos ⟨by omega, by simp, by omega, by omega⟩]
    have : (192 + c.toNat / 64 - 192) * 64 + (128 + c.toNat % 64) - 128 = c.toNat := by omega
    rw [this]
    simp
theorem nar1_at {l : List UInt8} {k : Nat} (h : k < l.length) : nar1 (wide l) (wide (l.take k)).length = some (l[k], (wide1 l[k]).length) := by
  rw [wide_split h]; exact nar1_wide _ _ _
theorem wide_at {l : List UInt8} {k : Nat} (h : k < l.length) : (wide (l.take k)).length < (wide l).length := by
  conv => rhs; rw [wide_split h]
  have := wide1_len l[k]
  simp only [List.length_append]; omega
theorem nar_wide (l : List UInt8) : ∀ (j k n : Nat), k + j = l.length → j < n → nar (wide l) n (wide (l.take k)).length (l.take k) = some l := by
  intro j
  induction j with
  | zero =>
    intro k n hk hn
    obtain ⟨m, rfl⟩ : ∃ m, n = m + 1 := ⟨n - 1, by omega⟩
    have : l.take k = l := List.take_of_length_le (by omega)
    rw [this, nar_end (by omega)]
  | succ j ih =>
    intro k n hk hn
    obtain ⟨m, rfl⟩ : ∃ m, n = m + 1 := ⟨n - 1, by omega⟩
    have hlt : k < l.length := by omega
    rw [nar_yes (wide_at hlt) (nar1_at hlt)]
    have := ih (k + 1) m (by omega) (by omega)
    rw [wide_take hlt, List.length_append, List.take_succ_eq_append_getElem hlt] at this
    exact this

theorem bget_at (l : List UInt8) (i : Nat) : ((ByteArray.mk l.toArray).get! i) = l[i]?.getD 0 := by
  show (l.toArray)[i]! = _
  rw [getElem!_def]; simp
  cases l[i]? <;> rfl

/-- What a range over a string tells of a place. -/
theorem decode_yes {l : List UInt8} {k m : Nat} {c : UInt8} (h : k < l.length) (e : nar1 l k = some (c, m)) : Utf8.decode ⟨l.toArray⟩ k = (c.toNat, m) := by
  unfold nar1 at e
  unfold Utf8.decode
  simp only [bget_at, bsize, Nat.add_zero] at e ⊢
  have hb := (l[k]?.getD 0).toNat_lt
  have hc := (l[k + 1]?.getD 0).toNat_lt
  generalize (l[k]?.getD 0).toNat = b at *
  generalize (l[k + 1]?.getD 0).toNat = d at *
  split at e
  · next hlt =>
    rw [if_pos hlt]
    injection e with e; injection e with e1 e2
    subst e1; subst e2
    simp; omega
  · next hge =>
    rw [if_neg hge]
    split at e
    · next hx =>
      injection e with e; injection e with e1 e2
      subst e1; subst e2
      have q1 : (b / 32 == 6) = true := by simp; omega
      have q2 : (d / 64 == 2) = true := by simp; omega
      have q3 : decide (k + 1 < l.length) = true := by simp; omega
      simp only [q1, q2, q3, Bool.and_self, if_true]
      rw [if_pos (by omega)]
      simp; omega
    · cases e
theorem decode_no {l : List UInt8} {k : Nat} (h : k < l.length) (e : nar1 l k = none) : 256 ≤ (Utf8.decode ⟨l.toArray⟩ k).1 := by
  unfold nar1 at e
  unfold Utf8.decode
  simp only [bget_at, bsize, Nat.add_zero] at e ⊢
  have hb := (l[k]?.getD 0).toNat_lt
  have hc := (l[k + 1]?.getD 0).toNat_lt
  generalize (l[k]?.getD 0).toNat = b at *
  generalize (l[k + 1]?.getD 0).toNat = d at *
  split at e
  · cases e
  · next hge =>
    rw [if_neg hge]
    split at e
    · cases e
    · next hx =>
      split
      · next hy =>
        simp only [Bool.and_eq_true, beq_iff_eq, decide_eq_true_eq] at hy
        split
        · show 256 ≤ _; simp only; omega
        · simp [Utf8.runeError]
      · split
        · split
          · next hz => simp only [Bool.and_eq_true, decide_eq_true_eq] at hz; show 256 ≤ _; simp only; omega
          · simp [Utf8.runeError]
        · split
          · split
            · next hz => simp only [Bool.and_eq_true, decide_eq_true_eq] at hz; show 256 ≤ _; simp only; omega
            · simp [Utf8.runeError]
          · simp [Utf8.runeError]

end Go.Proofs.YtpcpmjaphjkphaaDoor

/-
  utf8.AppendRune and (*strings.Builder).WriteRune at a sign below 256.
-/
namespace Go.Proofs.YtpcpmjaphjkphaaDoor
open Go.RowKit

end Go.Proofs.YtpcpmjaphjkphaaDoor

/-
  Walks: Wide of both sides.
-/
namespace Go.Proofs.YtpcpmjaphjkphaaDoor
open Go.RowKit

end Go.Proofs.YtpcpmjaphjkphaaDoor

/-
  Walks: the fixed fact of chapter 1.
-/
namespace Go.Proofs.YtpcpmjaphjkphaaDoor
open Go.RowKit

theorem class_lit (s : ByteArray) (o : Option (Int → Bool)) (ho : clsOf s = o) (w : World) : Calls Tryd.prog 22 #[.string s] w fun e w' => e = .returned (.tuple #[setV (clsSet o), .bool o.isSome]) ∧ Fr nob w w' := by
  subst ho; exact octClass_any s w
theorem has_lit (s : S4) (d : Nat) (w : World) (hs : s.fit) (hd : d < 256) : Calls Tryd.prog 23 #[setV s, .int .u8 d] w fun e w' => e = .returned (.bool (s.has d)) ∧ Fr nob w w' := has_any s d w hs hd
theorem of_lit (l : List UInt8) (u : Value) (w : World) (hl : l.length ≤ 9000000000000000000) (h : SB w l u) : Calls Tryd.prog 11 #[u] w fun e w' => e = .returned (setV (S4.zero.puts l)) ∧ Fr nob w w' := of_any l u w hl h
theorem SB_new1 (w : World) (c : UInt8) (T : TypeId) : SB (w.alloc (.cells #[.int .u8 (c.toNat : Int)] T)) [c] (.slice (some ⟨w.heap.size, 0, none⟩) 1 1) := by
  refine Or.inr ⟨_, _, _, rfl, by simp, ?_⟩
  intro j x hj
  match j, hj with
  | 0, hj => simp at hj; subst hj; simp [World.cell?_alloc_new]
theorem clsOf_punct : clsOf ⟨#[112, 117, 110, 99, 116]⟩ = some isPunct := by simp [clsOf]
theorem len_punct : (clsSet (some isPunct)).len = 32 := by decide +kernel
theorem wide_e9 : wide [233] = [195, 169] := by decide +kernel
theorem has_97 : (S4.zero.puts [97]).has 97 = true := by decide +kernel
theorem has_98 : (S4.zero.puts [97]).has 98 = false := by decide +kernel

end Go.Proofs.YtpcpmjaphjkphaaDoor

/-
  Walks of package bracket: named, item.
-/
namespace Go.Proofs.YtpcpmjaphjkphaaDoor
open Go.RowKit

/-- What the library's variables hold. -/
def Env (w : World) : Prop := Tab w ∧ ∃ m, w.cell? ⟨1, 0, none⟩ = some (.int .i64 m)
theorem Env.on {w w' : World} (h : Env w) (f : Fr nob w w') : Env w' := ⟨h.1.on f, let ⟨m, hm⟩ := h.2; ⟨m, f.cell hm (fun x => x)⟩⟩
theorem Env.on2 {w w' : World} {b : Nat} (h : Env w) (f : Fr (fun k => k = b) w w') (hb : 2 ≤ b) : Env w' :=
  ⟨h.1.on2 f (fun e => by omega), let ⟨m, hm⟩ := h.2; ⟨m, f.cell hm (fun e => by simp only at e; omega)⟩⟩

theorem strIndex (s t : List UInt8) (w : World) (hs : s.length ≤ 1000000) (h : Env w) :
    Calls Tryd.prog 95 #[.string ⟨s.toArray⟩, .string ⟨t.toArray⟩] w fun e w' => e = .returned (.int .i64 (Lib.index s t)) ∧ w = w' := by
  obtain ⟨m, hm⟩ := h.2
  refine (Tryd.strings_Index ⟨s.toArray⟩ ⟨t.toArray⟩ m w (by rw [bsize]; omega) hm).mono ?_
  rintro e w' ⟨rfl, rfl⟩
  exact ⟨rfl, rfl⟩

/-- An item of five cells that is handed back out of a variable. -/
theorem results_it {fn : Func} {p : Tmp} (h : fn.results = #[.cell p 135]) {tmps : Array Value} {r : Nat} (ht : tmps.getD p undef = .pointer (some ⟨r, 0, none⟩)) {W : World} {s : S4} {e : Bool}
    (hb : W.heap[r]? = some (.cells #[.int .u64 s.a, .int .u64 s.b, .int .u64 s.c, .int .u64 s.d, .bool e] 135 (0, 0))) : (results fn tmps).run Tryd.prog W = .ok (itV s e) W := by
  have c0 := cell_at (j := 0) (v := .int .u64 s.a) hb rfl
  have c1 := cell_at (j := 1) (v := .int .u64 s.b) hb rfl
  have c2 := cell_at (j := 2) (v := .int .u64 s.c) hb rfl
  have c3 := cell_at (j := 3) (v := .int .u64 s.d) hb rfl
  have c4 := cell_at (j := 4) (v := .bool e) hb rfl
  have ht' : tmps[p]?.getD undef = .pointer (some ⟨r, 0, none⟩) := by rw [← ht]; simp
  simp only [results, h]
  simp [ht', go_sem, c0, c1, c2, c3, c4]
theorem rule5 {w : World} {b : Nat} {v0 v1 v2 v3 v4 : Value} {T : TypeId} (h : w.heap[b]? = some (.cells #[v0, v1, v2, v3, v4] T (0, 0))) : ∀ w', Fr nob w w' →
    (w'.cell? ⟨b, 0, none⟩ = some v0 ∧ w'.cell? ⟨b, 1, none⟩ = some v1 ∧ w'.cell? ⟨b, 2, none⟩ = some v2 ∧ w'.cell? ⟨b, 3, none⟩ = some v3 ∧ w'.cell? ⟨b, 4, none⟩ = some v4) ∧
    (w'.frozen? ⟨b, 0, none⟩ = false ∧ w'.frozen? ⟨b, 1, none⟩ = false ∧ w'.frozen? ⟨b, 2, none⟩ = false ∧ w'.frozen? ⟨b, 3, none⟩ = false ∧ w'.frozen? ⟨b, 4, none⟩ = false) := fun _ f => by
  have h' := f.heap h (fun x => x)
  exact ⟨⟨cell_at h' rfl, cell_at h' rfl, cell_at h' rfl, cell_at h' rfl, cell_at h' rfl⟩, unfrozen_at h' _, unfrozen_at h' _, unfrozen_at h' _, unfrozen_at h' _, unfrozen_at h' _⟩
abbrev setFive (w : World) (b : Nat) (v0 v1 v2 v3 v4 : Value) : World := (setFour w b v0 v1 v2 v3).setCell ⟨b, 4, none⟩ v4
theorem setFive_heap {w : World} {b : Nat} {a0 a1 a2 a3 a4 : Value} {T : TypeId} {fr : Nat × Nat} (h : w.heap[b]? = some (.cells #[a0, a1, a2, a3, a4] T fr)) (v0 v1 v2 v3 v4 : Value) :
    (setFive w b v0 v1 v2 v3 v4).heap[b]? = some (.cells #[v0, v1, v2, v3, v4] T fr) := by
  have h0 : (w.setCell ⟨b, 0, none⟩ v0).heap[b]? = some (.cells #[v0, a1, a2, a3, a4] T fr) := heap_setCell_at h 0 v0
  have h1 : ((w.setCell ⟨b, 0, none⟩ v0).setCell ⟨b, 1, none⟩ v1).heap[b]? = some (.cells #[v0, v1, a2, a3, a4] T fr) := heap_setCell_at h0 1 v1
  have h2 : (((w.setCell ⟨b, 0, none⟩ v0).setCell ⟨b, 1, none⟩ v1).setCell ⟨b, 2, none⟩ v2).heap[b]? = some (.cells #[v0, v1, v2, a3, a4] T fr) := heap_setCell_at h1 2 v2
  have h3 : (setFour w b v0 v1 v2 v3).heap[b]? = some (.cells #[v0, v1, v2, v3, a4] T fr) := heap_setCell_at h2 3 v3
  exact heap_setCell_at h3 4 v4
theorem setFive_fr {S : Nat → Prop} {w a : World} {b : Nat} (f : Fr S a w) (hb : a.heap.size ≤ b) (v0 v1 v2 v3 v4 : Value) : Fr S a (setFive w b v0 v1 v2 v3 v4) := by
  have h : ∀ (x : World) (j : Nat) (v : Value), Fr S a x → Fr S a (x.setCell ⟨b, j, none⟩ v) := fun x j v hx => hx.setCell (p := ⟨b, j, none⟩) (fun h => absurd h (Nat.not_lt.2 hb)) v
  exact h _ _ _ (h _ _ _ (h _ _ _ (h _ _ _ (h _ _ _ f))))
theorem setFive_old {w : World} {b k : Nat} {o : Obj} (hk : w.heap[k]? = some o) (hne : k ≠ b) (v0 v1 v2 v3 v4 : Value) : (setFive w b v0 v1 v2 v3 v4).heap[k]? = some o :=
  heap_setCell_ne (heap_setCell_ne (heap_setCell_ne (heap_setCell_ne (heap_setCell_ne hk hne _) hne _) hne _) hne _) hne _

theorem puts_one (c : UInt8) : S4.zero.puts [c] = spn c.toNat c.toNat := S4.ext_has (fit_puts _ fit_zero) (fit_spn _ _) fun e he => by
  have := c.toNat_lt
  rw [has_puts _ _ he, has_zero, has_spn _ _ _ (by omega) (by omega) he]
  by_cases h : c.toNat = e
  · subst h; simp
  · simp only [List.any_cons, List.any_nil, Bool.or_false, h, decide_false]
    by_cases h2 : c.toNat ≤ e
    · simp [h2]; omega
    · simp [h2]
theorem of_one (c : UInt8) (w : World) (T : TypeId) : Calls Tryd.prog 11 #[.slice (some ⟨w.heap.size, 0, none⟩) 1 1] (w.alloc (.cells #[.int .u8 (c.toNat : Int)] T)) fun e w' => e = .returned (setV (spn c.toNat c.toNat)) ∧ Fr nob (w.alloc (.cells #[.int .u8 (c.toNat : Int)] T)) w' := by
  rw [← puts_one]; exact of_lit [c] _ _ (by simp) (SB_new1 w c T)
theorem dot_some (k c : UInt8) : ((k.toNat : Int) == 46) = (if k = 46 then some c else none).isSome := by
  by_cases h : k = 46
  · subst h; rfl
  · have := (fun e => h (UInt8.toNat_inj.1 e) : k.toNat ≠ (46 : UInt8).toNat)
    rw [if_neg h]; simp at this ⊢; omega

abbrev ItEnd (b : Nat) (l : List UInt8) (p : Int) (s : S4) (o : Bool) (R : (Int × Nat) ⊕ It) (w' : World) : Prop := match R with
    | .inr x => s = x.set ∧ o = x.one.isSome ∧ Rd w' b l x.next 0 p
    | .inl z => ∃ a' : Nat, a' ≤ l.length ∧ z.1 ≠ 0 ∧ Rd w' b l a' z.1 z.2
theorem ItEnd.to {b : Nat} {l : List UInt8} {p : Int} {s : S4} {o : Bool} {R : (Int × Nat) ⊕ It} {w w' : World} (h : ItEnd b l p s o R w) (f : ∀ x r q, Rd w b l x r q → Rd w' b l x r q) : ItEnd b l p s o R w' := by
  cases R with
  | inr x => exact ⟨h.1, h.2.1, f _ _ _ h.2.2⟩
  | inl z => obtain ⟨a', h1, h2, h3⟩ := h; exact ⟨a', h1, h2, f _ _ _ h3⟩
/-- Behind an item that was read, or was wrong. -/
def ItAns (b : Nat) (l : List UInt8) (a : Nat) (p : Int) (R : (Int × Nat) ⊕ It) (w : World) (e : Ending) (w' : World) : Prop :=
  ∃ s o, e = .returned (itV s o) ∧ s.fit ∧ Fr (fun k => k = b) w w' ∧ ItEnd b l p s o R w'

end Go.Proofs.YtpcpmjaphjkphaaDoor

/-
  Walks of package bracket: named, behind [= and [..
-/
namespace Go.Proofs.YtpcpmjaphjkphaaDoor
open Go.RowKit

set_option maxRecDepth 100000 in
set_option maxHeartbeats 4000000 in
theorem named_oth (b : Nat) (l : List UInt8) (a : Nat) (k : UInt8) (p : Int) (w : World) (hl : l.length ≤ 100000) (ha : a + 2 ≤ l.length) (hb : 2 ≤ b) (hE : Env w) (h : Rd w b l a 0 p) (h58 : k ≠ 58) :
    Calls Tryd.prog 93 #[.pointer (some ⟨b, 0, none⟩), .int .u8 (k.toNat : Int)] w (ItAns b l a p (itmN l a k) w) := by
  obtain ⟨R, hR⟩ : ∃ R, itmN l a k = R := ⟨_, rfl⟩
  rw [hR]
  have HR := Lib.hid hR; clear hR
  have rr := rule4 h
  have hbw := lt_heap h
  have H := Lib.hid h; have HE := Lib.hid hE; clear h hE
  have t1 : ((k.toNat : Int) == 58) = false := by simp; intro h; exact h58 (UInt8.toNat_inj.1 (by simp; omega))
  have hkb := toNat_bd k
  obtain ⟨w0, hw0⟩ : ∃ w0, w0 = (w.alloc (.cells #[.int .u64 0, .int .u64 0, .int .u64 0, .int .u64 0, .bool false] 135)).alloc (.cells #[.int .u8 (k.toNat : Int), .int .u8 93] 5) := ⟨_, rfl⟩
  have hz0 : w0.heap[w.heap.size]? = some (.cells #[.int .u64 0, .int .u64 0, .int .u64 0, .int .u64 0, .bool false] 135 (0, 0)) := by rw [hw0]; exact heap_alloc_lt _ (newAt _ _)
  have f0 : Fr nob w w0 := by rw [hw0]; exact ((Fr.refl _ _).alloc _).alloc _
  have hcv := run_conv_two (P := Tryd.prog) (src := 56) (dst := 9) (e := 5) Tryd.underlying56 Tryd.underlying5 Tryd.underlying9 k 93 (w.alloc (.cells #[.int .u64 0, .int .u64 0, .int .u64 0, .int .u64 0, .bool false] 135))
  rw [show ((93 : UInt8).toNat : Int) = 93 from rfl, show (w.alloc (.cells #[.int .u64 0, .int .u64 0, .int .u64 0, .int .u64 0, .bool false] 135)).heap.size = w.heap.size + 1 by simp] at hcv
  have HW0 := Lib.hid hw0; have HZ0 := Lib.hid hz0; have FW0 := Lib.hid f0; have HE0 := Lib.hid (HE.out.on f0)
  have rr0 := rule4 (f0.heap H.out (fun x => x))
  have hbw0 : b < w0.heap.size := Nat.lt_of_lt_of_le hbw f0.size
  clear hw0 hz0 f0
  by_cases hlong : l.length < a + 3
  · have HRV := Lib.hid (show itmN l a k = .inl (5, l.length) by
      have : fnd l k (l.length + 1) (a + 2 + skp k) = none := by
        rw [fnd, if_neg (by unfold skp; rw [if_neg h58]; omega)]
      unfold itmN; rw [this])
    go_enter Tryd.func93, Tryd.ntmps93
    go_wp2_with fail
    rw [← HW0.out]
    clear hcv
    refine (fail_ok b l a p 5 l.length _ (H.out.on FW0.out)).mono ?_
    rintro e w2 ⟨rfl, h2, f2⟩
    have hz2 := f2.heap HZ0.out (fun e => by omega)
    have r2 := rule5 hz2
    have hlz := lt_heap hz2
    have HH := Lib.hid h2; have FF := Lib.hid f2; have HZ2 := Lib.hid hz2
    clear h2 f2 hz2
    go_wp2
    (try simp only [Exit.inBlock, Exit.then])
    refine bodyPost_ret (results_it (s := S4.zero) (e := false) rfl rfl (setFive_heap HZ2.out _ _ _ _ _)) rfl ⟨S4.zero, false, rfl, fit_zero, setFive_fr (FW0.out.any.trans FF.out (fun i hi e => e)) (Nat.le_refl _) _ _ _ _ _, ?_⟩
    rw [← HR.out, HRV.out]
    exact ⟨a, by omega, (by simp), setFive_old HH.out (by omega) _ _ _ _ _⟩
  · have hal : (a : Int) + 2 + 1 ≤ l.length := by omega
    cases hf : fnd l k (l.length + 1) (a + 2 + 1) with
    | none =>
      have hix : Lib.index (l.drop (a + 2 + 1)) [k, 93] = -1 := by rw [idx_fnd _ _ _ (by omega), hf]
      have HRV := Lib.hid (show itmN l a k = .inl (5, l.length) by unfold itmN skp; rw [if_neg h58, hf])
      clear hf
      have hS := fun w h => strIndex (l.drop (a + 2 + 1)) [k, 93] w (by simp; omega) h
      rw [hix] at hS
      have HS := Lib.hid hS; clear hS hix
      go_enter Tryd.func93, Tryd.ntmps93
      go_wp2_with fail
      rw [← HW0.out]
      clear hcv
      refine (HS.out _ HE0.out).mono ?_
      rintro e w1 ⟨rfl, rfl⟩
      go_wp2_with fail
      refine (fail_ok b l a p 5 l.length _ (H.out.on FW0.out)).mono ?_
      rintro e w2 ⟨rfl, h2, f2⟩
      have hz2 := f2.heap HZ0.out (fun e => by omega)
      have r2 := rule5 hz2
      have hlz := lt_heap hz2
      have HH := Lib.hid h2; have FF := Lib.hid f2; have HZ2 := Lib.hid hz2
      clear h2 f2 hz2
      go_wp2
      (try simp only [Exit.inBlock, Exit.then])
      refine bodyPost_ret (results_it (s := S4.zero) (e := false) rfl rfl (setFive_heap HZ2.out _ _ _ _ _)) rfl ⟨S4.zero, false, rfl, fit_zero, setFive_fr (FW0.out.any.trans FF.out (fun i hi e => e)) (Nat.le_refl _) _ _ _ _ _, ?_⟩
      rw [← HR.out, HRV.out]
      exact ⟨a, by omega, (by simp), setFive_old HH.out (by omega) _ _ _ _ _⟩
    | some e =>
      obtain ⟨h1, h2, h3, h4, h5⟩ := fnd_some hf
      obtain ⟨d, rfl⟩ : ∃ d, e = a + 2 + 1 + d := ⟨e - (a + 2 + 1), by omega⟩
      have hix : Lib.index (l.drop (a + 2 + 1)) [k, 93] = (d : Int) := by rw [idx_fnd _ _ _ (by omega), hf]; simp only; omega
      have hS := fun w h => strIndex (l.drop (a + 2 + 1)) [k, 93] w (by simp; omega) h
      rw [hix] at hS
      have HS := Lib.hid hS; clear hS hix
      have hdb : (a : Int) + 2 + 1 + d + 1 < l.length := by omega
      have hsl := run_slice_bs (P := Tryd.prog) l (lo := (a : Int) + 2) (hi := (a : Int) + 2 + 1 + d) Tryd.underlying9 (by omega) (by omega) (by omega)
      rw [show ((a : Int) + 2).toNat = a + 2 by omega, show ((a : Int) + 2 + 1 + d).toNat = a + 2 + 1 + d by omega] at hsl
      obtain ⟨nm, hnm⟩ : ∃ nm, (l.drop (a + 2)).take (a + 2 + 1 + d - (a + 2)) = nm := ⟨_, rfl⟩
      have hnl : nm.length = 1 + d := by rw [← hnm]; simp; omega
      rw [hnm] at hsl
      have HNM := Lib.hid hnm
      have HRA := Lib.hid (show ∀ c, nm = [c] → itmN l a k = .inr ⟨spn c.toNat c.toNat, if k = 46 then some c else none, a + 2 + 1 + d + 2⟩ from fun c hc => itmN_one h58 hf (by unfold nam; rw [hnm, hc]))
      have HRB := Lib.hid (show nm.length ≠ 1 → itmN l a k = .inl (6, a) from fun hc => itmN_bad h58 hf (by unfold nam; rw [hnm]; exact hc))
      clear hf h3 h4 h5 hnm
      obtain ⟨w1, hw1⟩ : ∃ w1, w1 = w0.setCell ⟨b, 1, none⟩ (.int .i64 ((a : Int) + 2 + (1 + d) + 2)) := ⟨_, rfl⟩
      have hs1 : w1.heap.size = w0.heap.size := by rw [hw1]; simp
      have H1 := Lib.hid (show Rd w1 b l ((a + 2 + 1 + d + 2 : Nat) : Int) 0 p by
        rw [hw1, show ((a + 2 + 1 + d + 2 : Nat) : Int) = (a : Int) + 2 + (1 + d) + 2 by omega]; exact heap_setCell_at (FW0.out.heap H.out (fun x => x)) 1 _)
      have HZ1 := Lib.hid (show w1.heap[w.heap.size]? = some (.cells #[.int .u64 0, .int .u64 0, .int .u64 0, .int .u64 0, .bool false] 135 (0, 0)) by
        rw [hw1]; exact heap_setCell_ne HZ0.out (by simp only; omega) _)
      have FW1 := Lib.hid (show Fr (fun k => k = b) w w1 by rw [hw1]; exact Fr.setCell (S := fun k => k = b) (p := ⟨b, 1, none⟩) FW0.out.any (fun _ => rfl) _)
      have HW1 := Lib.hid hw1; clear hw1
      by_cases hd : d = 0
      · have td : ((1 : Int) + d == 1) = true := by simp; omega
        have td2 : ((1 : Int) + d != 1) = false := by simp; omega
        have HD := Lib.hid hd; clear hd
        go_enter Tryd.func93, Tryd.ntmps93
        go_wp2_with fail
        rw [← HW0.out]
        clear hcv
        refine (HS.out _ HE0.out).mono ?_
        rintro e w1 ⟨rfl, rfl⟩
        go_wp2_with fail
        obtain ⟨c, rfl⟩ := List.length_eq_one_iff.1 (show nm.length = 1 by have := HD.out; omega)
        rw [← HW1.out, ← hs1]
        have ho := dot_some k c
        refine (of_one c w1 _).mono ?_
        have hHRA := HRA.out c rfl
        obtain ⟨S, hS⟩ : ∃ S, spn c.toNat c.toNat = S := ⟨_, rfl⟩
        have hfit : S.fit := by rw [← hS]; exact fit_spn _ _
        rw [hS] at hHRA ⊢
        rintro e w2 ⟨rfl, f2⟩
        have f12 : Fr nob w1 w2 := ((Fr.refl _ _).alloc _).trans' f2
        have hz2 := f12.heap HZ1.out (fun x => x)
        have hr2 := H1.out.on f12
        have r2 := rule5 hz2
        have hlz := lt_heap hz2
        have FF := Lib.hid (FW1.out.trans f12 (fun i hi e => e.elim)); have HZ2 := Lib.hid hz2; have HR2 := Lib.hid hr2; have HRV := Lib.hid hHRA; have HO := Lib.hid ho
        clear hz2 hr2 hS hHRA f2 f12 ho
        go_wp2
        (try simp only [Exit.inBlock, Exit.then])
        refine bodyPost_ret (results_it (s := S) (e := (k.toNat : Int) == 46) rfl rfl (setFive_heap HZ2.out _ _ _ _ _)) rfl ⟨S, _, rfl, hfit, setFive_fr FF.out (Nat.le_refl _) _ _ _ _ _, ?_⟩
        rw [← HR.out, HRV.out]
        exact ⟨rfl, HO.out, setFive_old HR2.out (by omega) _ _ _ _ _⟩
      · have td : ((1 : Int) + d == 1) = false := by simp; omega
        have td2 : ((1 : Int) + d != 1) = true := by simp; omega
        go_enter Tryd.func93, Tryd.ntmps93
        go_wp2_with fail
        rw [← HW0.out]
        clear hcv
        refine (HS.out _ HE0.out).mono ?_
        rintro e w1 ⟨rfl, rfl⟩
        go_wp2_with fail
        rw [← HW1.out]
        refine (fail_ok b l _ p 6 a _ H1.out).mono ?_
        rintro e w2 ⟨rfl, h2, f2⟩
        have hz2 := f2.heap HZ1.out (fun e => by omega)
        have r2 := rule5 hz2
        have hlz := lt_heap hz2
        have HH := Lib.hid h2; have FF := Lib.hid f2; have HZ2 := Lib.hid hz2
        have HRV := Lib.hid (HRB.out (by omega))
        clear h2 f2 hz2
        go_wp2
        (try simp only [Exit.inBlock, Exit.then])
        refine bodyPost_ret (results_it (s := S4.zero) (e := false) rfl rfl (setFive_heap HZ2.out _ _ _ _ _)) rfl ⟨S4.zero, false, rfl, fit_zero, setFive_fr (FW1.out.trans FF.out (fun i hi e => e)) (Nat.le_refl _) _ _ _ _ _, ?_⟩
        rw [← HR.out, HRV.out]
        exact ⟨a + 2 + 1 + d + 2, by omega, (by simp), setFive_old HH.out (by omega) _ _ _ _ _⟩

end Go.Proofs.YtpcpmjaphjkphaaDoor

/-
  Walks of package bracket: named, behind [: .
-/
namespace Go.Proofs.YtpcpmjaphjkphaaDoor
open Go.RowKit

def colIt (a e : Nat) : Option (Int → Bool) → (Int × Nat) ⊕ It
  | none => .inl (6, a)
  | some p => .inr ⟨pk p 256, none, e + 2⟩

set_option maxRecDepth 100000 in
set_option maxHeartbeats 4000000 in
theorem named_col (b : Nat) (l : List UInt8) (a : Nat) (p : Int) (w : World) (hl : l.length ≤ 100000) (ha : a + 2 ≤ l.length) (hb : 2 ≤ b) (hE : Env w) (h : Rd w b l a 0 p) :
    Calls Tryd.prog 93 #[.pointer (some ⟨b, 0, none⟩), .int .u8 58] w (ItAns b l a p (itmN l a 58) w) := by
  obtain ⟨R, hR⟩ : ∃ R, itmN l a 58 = R := ⟨_, rfl⟩
  rw [hR]
  have HR := Lib.hid hR; clear hR
  have rr := rule4 h
  have hbw := lt_heap h
  have H := Lib.hid h; have HE := Lib.hid hE; clear h hE
  obtain ⟨w0, hw0⟩ : ∃ w0, w0 = (w.alloc (.cells #[.int .u64 0, .int .u64 0, .int .u64 0, .int .u64 0, .bool false] 135)).alloc (.cells #[.int .u8 58, .int .u8 93] 5) := ⟨_, rfl⟩
  have hz0 : w0.heap[w.heap.size]? = some (.cells #[.int .u64 0, .int .u64 0, .int .u64 0, .int .u64 0, .bool false] 135 (0, 0)) := by rw [hw0]; exact heap_alloc_lt _ (newAt _ _)
  have f0 : Fr nob w w0 := by rw [hw0]; exact ((Fr.refl _ _).alloc _).alloc _
  have hcv := run_conv_two (P := Tryd.prog) (src := 56) (dst := 9) (e := 5) Tryd.underlying56 Tryd.underlying5 Tryd.underlying9 58 93 (w.alloc (.cells #[.int .u64 0, .int .u64 0, .int .u64 0, .int .u64 0, .bool false] 135))
  rw [show ((93 : UInt8).toNat : Int) = 93 from rfl, show (w.alloc (.cells #[.int .u64 0, .int .u64 0, .int .u64 0, .int .u64 0, .bool false] 135)).heap.size = w.heap.size + 1 by simp] at hcv
  rw [show ((58 : UInt8).toNat : Int) = 58 from rfl] at hcv
  have HW0 := Lib.hid hw0; have HZ0 := Lib.hid hz0; have FW0 := Lib.hid f0; have HE0 := Lib.hid (HE.out.on f0)
  have rr0 := rule4 (f0.heap H.out (fun x => x))
  have hbw0 : b < w0.heap.size := Nat.lt_of_lt_of_le hbw f0.size
  clear hw0 hz0 f0
  have hal : (a : Int) + 2 ≤ l.length := by omega
  cases hf : fnd l 58 (l.length + 1) (a + 2) with
  | none =>
    have hix : Lib.index (l.drop (a + 2)) [58, 93] = -1 := by rw [idx_fnd _ _ _ (by omega), hf]
    have HRV := Lib.hid (itmN_none (l := l) (a := a) (k := 58) hf)
    clear hf
    have hS := fun w h => strIndex (l.drop (a + 2)) [58, 93] w (by simp; omega) h
    rw [hix] at hS
    have HS := Lib.hid hS; clear hS hix
    go_enter Tryd.func93, Tryd.ntmps93
    go_wp2_with fail
    rw [← HW0.out]
    clear hcv
    refine (HS.out _ HE0.out).mono ?_
    rintro e w1 ⟨rfl, rfl⟩
    go_wp2_with fail
    refine (fail_ok b l a p 5 l.length _ (H.out.on FW0.out)).mono ?_
    rintro e w2 ⟨rfl, h2, f2⟩
    have hz2 := f2.heap HZ0.out (fun e => by omega)
    have r2 := rule5 hz2
    have hlz := lt_heap hz2
    have HH := Lib.hid h2; have FF := Lib.hid f2; have HZ2 := Lib.hid hz2
    clear h2 f2 hz2
    go_wp2
    (try simp only [Exit.inBlock, Exit.then])
    refine bodyPost_ret (results_it (s := S4.zero) (e := false) rfl rfl (setFive_heap HZ2.out _ _ _ _ _)) rfl ⟨S4.zero, false, rfl, fit_zero, setFive_fr (FW0.out.any.trans FF.out (fun i hi e => e)) (Nat.le_refl _) _ _ _ _ _, ?_⟩
    rw [← HR.out, HRV.out]
    exact ⟨a, by omega, (by simp), setFive_old HH.out (by omega) _ _ _ _ _⟩
  | some e =>
    obtain ⟨h1, h2, h3, h4, h5⟩ := fnd_some hf
    obtain ⟨d, rfl⟩ : ∃ d, e = a + 2 + d := ⟨e - (a + 2), by omega⟩
    have hix : Lib.index (l.drop (a + 2)) [58, 93] = (d : Int) := by rw [idx_fnd _ _ _ (by omega), hf]; simp only; omega
    have hS := fun w h => strIndex (l.drop (a + 2)) [58, 93] w (by simp; omega) h
    rw [hix] at hS
    have HS := Lib.hid hS; clear hS hix
    have hdb : (a : Int) + 2 + d + 1 < l.length := by omega
    have hsl := run_slice_bs (P := Tryd.prog) l (lo := (a : Int) + 2) (hi := (a : Int) + 2 + d) Tryd.underlying9 (by omega) (by omega) (by omega)
    rw [show ((a : Int) + 2).toNat = a + 2 by omega, show ((a : Int) + 2 + d).toNat = a + 2 + d by omega] at hsl
    obtain ⟨nm, hnm⟩ : ∃ nm, (l.drop (a + 2)).take (a + 2 + d - (a + 2)) = nm := ⟨_, rfl⟩
    have hnl : nm.length = d := by rw [← hnm]; simp; omega
    rw [hnm] at hsl
    obtain ⟨o, ho⟩ : ∃ o, clsOf ⟨nm.toArray⟩ = o := ⟨_, rfl⟩
    have HRV := Lib.hid (show itmN l a 58 = colIt a (a + 2 + d) o by
      cases o with
      | none => exact itmN_clsno hf (by unfold nam; rw [hnm, ho])
      | some p => exact itmN_cls hf (by unfold nam; rw [hnm, ho]))
    have HC := Lib.hid (fun w => class_lit ⟨nm.toArray⟩ o ho w)
    clear hf h3 h4 h5 hnm ho
    obtain ⟨w1, hw1⟩ : ∃ w1, w1 = w0.setCell ⟨b, 1, none⟩ (.int .i64 ((a : Int) + 2 + d + 2)) := ⟨_, rfl⟩
    have H1 := Lib.hid (show Rd w1 b l ((a + 2 + d + 2 : Nat) : Int) 0 p by
      rw [hw1, show ((a + 2 + d + 2 : Nat) : Int) = (a : Int) + 2 + d + 2 by omega]; exact heap_setCell_at (FW0.out.heap H.out (fun x => x)) 1 _)
    have HZ1 := Lib.hid (show w1.heap[w.heap.size]? = some (.cells #[.int .u64 0, .int .u64 0, .int .u64 0, .int .u64 0, .bool false] 135 (0, 0)) by
      rw [hw1]; exact heap_setCell_ne HZ0.out (by simp only; omega) _)
    have FW1 := Lib.hid (show Fr (fun k => k = b) w w1 by rw [hw1]; exact Fr.setCell (S := fun k => k = b) (p := ⟨b, 1, none⟩) FW0.out.any (fun _ => rfl) _)
    have HW1 := Lib.hid hw1; clear hw1
    go_enter Tryd.func93, Tryd.ntmps93
    go_wp2_with fail
    rw [← HW0.out]
    clear hcv
    refine (HS.out _ HE0.out).mono ?_
    rintro e w1' ⟨rfl, rfl⟩
    go_wp2_with fail
    rw [← HW1.out]
    refine (HC.out w1).mono ?_
    obtain ⟨S, hS⟩ : ∃ S, clsSet o = S := ⟨_, rfl⟩
    have hfit : S.fit := by rw [← hS]; exact fit_clsSet _
    rw [hS]
    rintro e w2 ⟨rfl, f2⟩
    have hz2 := f2.heap HZ1.out (fun x => x)
    have hr2 := H1.out.on f2
    have hlr2 := lt_heap hr2
    have hlz := lt_heap hz2
    have FF := Lib.hid (FW1.out.trans f2 (fun i hi e => e.elim)); have HZ2 := Lib.hid hz2; have HR2 := Lib.hid hr2; have HS2 := Lib.hid hS
    clear hz2 hr2 hS f2
    cases o with
    | none =>
      go_wp2_with fail
      refine (fail_ok b l _ p 6 a _ (HR2.out.on ((Fr.refl _ _).alloc _))).mono ?_
      rintro e w3 ⟨rfl, h3, f3⟩
      have hz3 := f3.heap (((Fr.refl nob w2).alloc _).heap HZ2.out (fun x => x)) (fun e => by omega)
      have r3 := rule5 hz3
      have hn3 := rule4 (f3.heap (newAt w2 (.cells #[.int .u64 S.a, .int .u64 S.b, .int .u64 S.c, .int .u64 S.d] 37)) (fun e => by omega))
      have HH := Lib.hid h3; have F3 := Lib.hid f3; have HZ3 := Lib.hid hz3
      clear h3 f3 hz3
      go_wp2
      (try simp only [Exit.inBlock, Exit.then])
      refine bodyPost_ret (results_it (s := S) (e := false) rfl rfl (setFive_heap HZ3.out _ _ _ _ _)) rfl ⟨S, false, rfl, hfit, setFive_fr ((FF.out.alloc _).trans F3.out (fun i hi e => e)) (Nat.le_refl _) _ _ _ _ _, ?_⟩
      rw [← HR.out, HRV.out]
      exact ⟨a + 2 + d + 2, by omega, (by simp), setFive_old HH.out (by omega) _ _ _ _ _⟩
    | some p0 =>
      have r3 := rule5 HZ2.out
      have hn3 := rule4 (newAt w2 (.cells #[.int .u64 S.a, .int .u64 S.b, .int .u64 S.c, .int .u64 S.d] 37))
      go_wp2
      (try simp only [Exit.inBlock, Exit.then])
      refine bodyPost_ret (results_it (s := S) (e := false) rfl rfl (((Fr.refl nob _).alloc _).heap (setFive_heap HZ2.out _ _ _ _ _) (fun x => x))) rfl ⟨S, false, rfl, hfit, (setFive_fr FF.out (Nat.le_refl _) _ _ _ _ _).alloc _, ?_⟩
      rw [← HR.out, HRV.out]
      exact ⟨HS2.out.symm, rfl, ((Fr.refl nob _).alloc _).heap (setFive_old HR2.out (by omega) _ _ _ _ _) (fun x => x)⟩

end Go.Proofs.YtpcpmjaphjkphaaDoor
