/-
  Merged texts of this claim: BrkJ, BrkK, BrkL, BrkO.
-/
import Derived.Test.YtepeomphikhbkaaGreatDoorM10
import Derived.Test.YtepeomphikhbkaaGreatDoorM12
import Derived.Test.YtepeomphikhbkaaGreatDoorM13

/-
  Walks of the document's bracket expressions: item. Printed by tools/ref02.py.
-/
namespace Go.Proofs.YtepeomphikhbkaaGreatDoor
open Go.RowKit

def ritV : (Int × Nat) ⊕ It → Value
  | .inl z => .tuple #[setV S4.zero, .bool false, .int .i64 0, .int .i64 z.1, .int .i64 z.2]
  | .inr x => .tuple #[setV x.set, .bool x.one.isSome, .int .i64 x.next, .int .i64 0, .int .i64 0]

theorem results_set5 {fn : Func} {p q r s' t' : Tmp} (h : fn.results = #[.cell p 31, .tmp q, .tmp r, .tmp s', .tmp t']) {tmps : Array Value} {b : Nat} (ht : tmps.getD p undef = .pointer (some ⟨b, 0, none⟩)) {u v x y : Value} (hq : tmps.getD q undef = u) (hr : tmps.getD r undef = v) (hs : tmps.getD s' undef = x) (hu : tmps.getD t' undef = y) {W : World} {s : S4}
    (hb : W.heap[b]? = some (.cells #[.int .u64 s.a, .int .u64 s.b, .int .u64 s.c, .int .u64 s.d] 31 (0, 0))) : (results fn tmps).run Tryz.prog W = .ok (.tuple #[setV s, u, v, x, y]) W := by
  have c0 := cell_at (j := 0) (v := .int .u64 s.a) hb rfl
  have c1 := cell_at (j := 1) (v := .int .u64 s.b) hb rfl
  have c2 := cell_at (j := 2) (v := .int .u64 s.c) hb rfl
  have c3 := cell_at (j := 3) (v := .int .u64 s.d) hb rfl
  have ht' : tmps[p]?.getD undef = .pointer (some ⟨b, 0, none⟩) := by rw [← ht]; simp
  have hq' : tmps[q]?.getD undef = u := by rw [← hq]; simp
  have hr' : tmps[r]?.getD undef = v := by rw [← hr]; simp
  have hs' : tmps[s']?.getD undef = x := by rw [← hs]; simp
  have hu' : tmps[t']?.getD undef = y := by rw [← hu]; simp
  simp only [results, h]
  simp [ht', hq', hr', hs', hu', go_sem, c0, c1, c2, c3]
theorem classR_lit (s : ByteArray) (o : Option (Int → Bool)) (ho : clsOf s = o) (w : World) : Calls Tryz.prog 118 #[.string s] w fun e w' => e = .returned (.tuple #[setV (clsSet o), .bool o.isSome]) ∧ Fr nob w w' := by
  subst ho; exact refClass_any s w

def RItAns (R : (Int × Nat) ⊕ It) (w : World) (e : Ending) (w' : World) : Prop := e = .returned (ritV R) ∧ Fr nob w w'
abbrev RItem (l : List UInt8) (a : Nat) (w : World) : Prop := Calls Tryz.prog 105 #[.string ⟨l.toArray⟩, .int .i64 a] w (RItAns (itm l a) w)

set_option maxRecDepth 100000 in
set_option maxHeartbeats 2000000 in
theorem ritem_end (l : List UInt8) (a : Nat) (w : World) (hl : l.length ≤ 100000) (ha : l.length ≤ a) (ha2 : a ≤ 1000000) : RItem l a w := by
  obtain ⟨w0, hw0⟩ : ∃ w0, w0 = (w.alloc (.cells #[.int .u64 0, .int .u64 0, .int .u64 0, .int .u64 0] 31)).alloc (.cells #[.int .u64 0, .int .u64 0, .int .u64 0, .int .u64 0] 31) := ⟨_, rfl⟩
  have hz : w0.heap[w.heap.size]? = some (.cells #[.int .u64 0, .int .u64 0, .int .u64 0, .int .u64 0] 31 (0, 0)) := by rw [hw0]; exact heap_alloc_lt _ (newAt _ _)
  have hn : w0.heap[w.heap.size + 1]? = some (.cells #[.int .u64 0, .int .u64 0, .int .u64 0, .int .u64 0] 31 (0, 0)) := by
    rw [hw0]; have := newAt (w.alloc (.cells #[.int .u64 0, .int .u64 0, .int .u64 0, .int .u64 0] 31)) (.cells #[.int .u64 0, .int .u64 0, .int .u64 0, .int .u64 0] 31); simpa using this
  have f0 : Fr nob w w0 := by rw [hw0]; exact ((Fr.refl _ _).alloc _).alloc _
  have rz := rule4 hz
  have rn := rule4 hn
  have HZ := Lib.hid hz; have HN := Lib.hid hn; have F0 := Lib.hid f0; have HW := Lib.hid hw0
  clear hw0 hz hn f0
  obtain ⟨R, hR⟩ : ∃ R, itm l a = R := ⟨_, rfl⟩
  unfold RItem
  rw [hR]
  have HR := Lib.hid hR; clear hR
  have t1 : (l.length : Int) ≤ a := by omega
  go_enter Tryz.func105, Tryz.ntmps105
  iterate 27 go_step
  rw [← HW.out]
  go_wp2
  (try simp only [Exit.inBlock, Exit.then])
  refine bodyPost_ret (results_set5 (s := S4.zero) (by rfl) (by rfl) (by rfl) (by rfl) (by rfl) (by rfl) (setFour_heap HZ.out _ _ _ _)) rfl ⟨?_, setFour_frS F0.out (Nat.le_refl _) _ _ _ _⟩
  rw [← HR.out, itm_end ha]
  rfl

set_option maxRecDepth 100000 in
set_option maxHeartbeats 2000000 in
theorem ritem_a (l : List UInt8) (a : Nat) (w : World) (hl : l.length ≤ 100000) (ha : a < l.length) (h : ¬ l[a] = 91) : RItem l a w := by
  have HEQ := Lib.hid (show itm l a = .inr ⟨spn (l[a]).toNat (l[a]).toNat, some l[a], a + 1⟩ by exact itm_not91 ha h)
  obtain ⟨w0, hw0⟩ : ∃ w0, w0 = (w.alloc (.cells #[.int .u64 0, .int .u64 0, .int .u64 0, .int .u64 0] 31)).alloc (.cells #[.int .u64 0, .int .u64 0, .int .u64 0, .int .u64 0] 31) := ⟨_, rfl⟩
  have hz : w0.heap[w.heap.size]? = some (.cells #[.int .u64 0, .int .u64 0, .int .u64 0, .int .u64 0] 31 (0, 0)) := by rw [hw0]; exact heap_alloc_lt _ (newAt _ _)
  have hn : w0.heap[w.heap.size + 1]? = some (.cells #[.int .u64 0, .int .u64 0, .int .u64 0, .int .u64 0] 31 (0, 0)) := by
    rw [hw0]; have := newAt (w.alloc (.cells #[.int .u64 0, .int .u64 0, .int .u64 0, .int .u64 0] 31)) (.cells #[.int .u64 0, .int .u64 0, .int .u64 0, .int .u64 0] 31); simpa using this
  have f0 : Fr nob w w0 := by rw [hw0]; exact ((Fr.refl _ _).alloc _).alloc _
  have rz := rule4 hz
  have rn := rule4 hn
  have HZ := Lib.hid hz; have HN := Lib.hid hn; have F0 := Lib.hid f0; have HW := Lib.hid hw0
  clear hw0 hz hn f0
  obtain ⟨R, hR⟩ : ∃ R, itm l a = R := ⟨_, rfl⟩
  unfold RItem
  rw [hR]
  have HR := Lib.hid hR; clear hR
  have t1 : ¬ (l.length : Int) ≤ a := by omega
  have t1' : (a : Int) < l.length := by omega
  have t1'' : (0 : Int) ≤ a := by omega
  have hwr : IntKind.i64.wrap ((a : Int) + 1) = (a : Int) + 1 := IntWalk.i64_in _ (by omega)
  have t2 : (((l[a]).toNat : Int) != 91) = true := tn_ne h
  have t3 : (((l[a]).toNat : Int) == 91) = false := tb_ne h
  clear h
  go_enter Tryz.func105, Tryz.ntmps105
  go_wp2_with fail
  rw [← HW.out]
  obtain ⟨S, hS⟩ : ∃ S, spn (l[a]).toNat (l[a]).toNat = S := ⟨_, rfl⟩
  have HSP := Lib.hid (fun w' => (show _ from hS ▸ spanR_lit (l[a]).toNat (l[a]).toNat w' (l[a]).toNat_lt (l[a]).toNat_lt : Calls Tryz.prog 94 #[.int .u8 (l[a]).toNat, .int .u8 (l[a]).toNat] w' fun e w'' => e = .returned (setV S) ∧ Fr nob w' w''))
  have HS := Lib.hid hS; clear hS
  go_region_held3 (fun w' => True) (trivial) (first | (go_at_call 94; (refine (HSP.out _).mono ?_); rintro e w2 ⟨rfl, f2⟩; have hz2 := f2.heap HZ.out (fun x => x); have rz2 := rule4 hz2; have HZ2 := Lib.hid hz2; have F2 := Lib.hid f2; clear hz2 f2))
  all_goals
    go_wp2
    (try simp only [Exit.inBlock, Exit.then])
    refine bodyPost_ret (results_set5 (s := S) (by rfl) (by rfl) (by rfl) (by rfl) (by rfl) (by rfl) (setFour_heap HZ2.out _ _ _ _)) rfl ⟨?_, setFour_frS (F0.out.drew.trans' F2.out) (Nat.le_refl _) _ _ _ _⟩
    rw [← HR.out, HEQ.out, ← HS.out]
    rfl

set_option maxRecDepth 100000 in
set_option maxHeartbeats 2000000 in
theorem ritem_b (l : List UInt8) (a : Nat) (w : World) (hl : l.length ≤ 100000) (ha : a < l.length) (h : l[a] = 91) (h2 : l.length ≤ a + 1) : RItem l a w := by
  have HEQ := Lib.hid (show itm l a = .inr ⟨spn (l[a]).toNat (l[a]).toNat, some l[a], a + 1⟩ by exact itm_last ha h2)
  obtain ⟨w0, hw0⟩ : ∃ w0, w0 = (w.alloc (.cells #[.int .u64 0, .int .u64 0, .int .u64 0, .int .u64 0] 31)).alloc (.cells #[.int .u64 0, .int .u64 0, .int .u64 0, .int .u64 0] 31) := ⟨_, rfl⟩
  have hz : w0.heap[w.heap.size]? = some (.cells #[.int .u64 0, .int .u64 0, .int .u64 0, .int .u64 0] 31 (0, 0)) := by rw [hw0]; exact heap_alloc_lt _ (newAt _ _)
  have hn : w0.heap[w.heap.size + 1]? = some (.cells #[.int .u64 0, .int .u64 0, .int .u64 0, .int .u64 0] 31 (0, 0)) := by
    rw [hw0]; have := newAt (w.alloc (.cells #[.int .u64 0, .int .u64 0, .int .u64 0, .int .u64 0] 31)) (.cells #[.int .u64 0, .int .u64 0, .int .u64 0, .int .u64 0] 31); simpa using this
  have f0 : Fr nob w w0 := by rw [hw0]; exact ((Fr.refl _ _).alloc _).alloc _
  have rz := rule4 hz
  have rn := rule4 hn
  have HZ := Lib.hid hz; have HN := Lib.hid hn; have F0 := Lib.hid f0; have HW := Lib.hid hw0
  clear hw0 hz hn f0
  obtain ⟨R, hR⟩ : ∃ R, itm l a = R := ⟨_, rfl⟩
  unfold RItem
  rw [hR]
  have HR := Lib.hid hR; clear hR
  have t1 : ¬ (l.length : Int) ≤ a := by omega
  have t1' : (a : Int) < l.length := by omega
  have t1'' : (0 : Int) ≤ a := by omega
  have hwr : IntKind.i64.wrap ((a : Int) + 1) = (a : Int) + 1 := IntWalk.i64_in _ (by omega)
  have t2 : (((l[a]).toNat : Int) != 91) = false := tn_eq h
  have t3 : (l.length : Int) ≤ (a : Int) + 1 := by omega
  clear h h2
  go_enter Tryz.func105, Tryz.ntmps105
  go_wp2_with fail
  rw [← HW.out]
  obtain ⟨S, hS⟩ : ∃ S, spn (l[a]).toNat (l[a]).toNat = S := ⟨_, rfl⟩
  have HSP := Lib.hid (fun w' => (show _ from hS ▸ spanR_lit (l[a]).toNat (l[a]).toNat w' (l[a]).toNat_lt (l[a]).toNat_lt : Calls Tryz.prog 94 #[.int .u8 (l[a]).toNat, .int .u8 (l[a]).toNat] w' fun e w'' => e = .returned (setV S) ∧ Fr nob w' w''))
  have HS := Lib.hid hS; clear hS
  go_region_held3 (fun w' => True) (trivial) (first | (go_at_call 94; (refine (HSP.out _).mono ?_); rintro e w2 ⟨rfl, f2⟩; have hz2 := f2.heap HZ.out (fun x => x); have rz2 := rule4 hz2; have HZ2 := Lib.hid hz2; have F2 := Lib.hid f2; clear hz2 f2))
  all_goals
    go_wp2
    (try simp only [Exit.inBlock, Exit.then])
    refine bodyPost_ret (results_set5 (s := S) (by rfl) (by rfl) (by rfl) (by rfl) (by rfl) (by rfl) (setFour_heap HZ2.out _ _ _ _)) rfl ⟨?_, setFour_frS (F0.out.drew.trans' F2.out) (Nat.le_refl _) _ _ _ _⟩
    rw [← HR.out, HEQ.out, ← HS.out]
    rfl

set_option maxRecDepth 100000 in
set_option maxHeartbeats 2000000 in
theorem ritem_c (l : List UInt8) (a : Nat) (w : World) (hl : l.length ≤ 100000) (ha : a < l.length) (h : l[a] = 91) (h2 : a + 1 < l.length) (h3 : isKind l[a + 1] = false) : RItem l a w := by
  have HEQ := Lib.hid (show itm l a = .inr ⟨spn (l[a]).toNat (l[a]).toNat, some l[a], a + 1⟩ by exact itm_unkind h2 h3)
  obtain ⟨w0, hw0⟩ : ∃ w0, w0 = (w.alloc (.cells #[.int .u64 0, .int .u64 0, .int .u64 0, .int .u64 0] 31)).alloc (.cells #[.int .u64 0, .int .u64 0, .int .u64 0, .int .u64 0] 31) := ⟨_, rfl⟩
  have hz : w0.heap[w.heap.size]? = some (.cells #[.int .u64 0, .int .u64 0, .int .u64 0, .int .u64 0] 31 (0, 0)) := by rw [hw0]; exact heap_alloc_lt _ (newAt _ _)
  have hn : w0.heap[w.heap.size + 1]? = some (.cells #[.int .u64 0, .int .u64 0, .int .u64 0, .int .u64 0] 31 (0, 0)) := by
    rw [hw0]; have := newAt (w.alloc (.cells #[.int .u64 0, .int .u64 0, .int .u64 0, .int .u64 0] 31)) (.cells #[.int .u64 0, .int .u64 0, .int .u64 0, .int .u64 0] 31); simpa using this
  have f0 : Fr nob w w0 := by rw [hw0]; exact ((Fr.refl _ _).alloc _).alloc _
  have rz := rule4 hz
  have rn := rule4 hn
  have HZ := Lib.hid hz; have HN := Lib.hid hn; have F0 := Lib.hid f0; have HW := Lib.hid hw0
  clear hw0 hz hn f0
  obtain ⟨R, hR⟩ : ∃ R, itm l a = R := ⟨_, rfl⟩
  unfold RItem
  rw [hR]
  have HR := Lib.hid hR; clear hR
  have t1 : ¬ (l.length : Int) ≤ a := by omega
  have t1' : (a : Int) < l.length := by omega
  have t1'' : (0 : Int) ≤ a := by omega
  have hwr : IntKind.i64.wrap ((a : Int) + 1) = (a : Int) + 1 := IntWalk.i64_in _ (by omega)
  have t2 : (((l[a]).toNat : Int) != 91) = false := tn_eq h
  have t3 : ¬ (l.length : Int) ≤ (a : Int) + 1 := by omega
  have t3' : (a : Int) + 1 < l.length := by omega
  have hk : ¬ l[a + 1] = 58 ∧ ¬ l[a + 1] = 61 ∧ ¬ l[a + 1] = 46 := by unfold isKind at h3; simp at h3; exact ⟨h3.1.1, h3.1.2, h3.2⟩
  have t4 : (((l[a + 1]).toNat : Int) != 58) = true := tn_ne hk.1
  have t5 : (((l[a + 1]).toNat : Int) != 61) = true := tn_ne hk.2.1
  have t6 : (((l[a + 1]).toNat : Int) != 46) = true := tn_ne hk.2.2
  clear h h3 hk
  go_enter Tryz.func105, Tryz.ntmps105
  go_wp2_with fail
  rw [← HW.out]
  obtain ⟨S, hS⟩ : ∃ S, spn (l[a]).toNat (l[a]).toNat = S := ⟨_, rfl⟩
  have HSP := Lib.hid (fun w' => (show _ from hS ▸ spanR_lit (l[a]).toNat (l[a]).toNat w' (l[a]).toNat_lt (l[a]).toNat_lt : Calls Tryz.prog 94 #[.int .u8 (l[a]).toNat, .int .u8 (l[a]).toNat] w' fun e w'' => e = .returned (setV S) ∧ Fr nob w' w''))
  have HS := Lib.hid hS; clear hS
  go_region_held3 (fun w' => True) (trivial) (first | (go_at_call 94; (refine (HSP.out _).mono ?_); rintro e w2 ⟨rfl, f2⟩; have hz2 := f2.heap HZ.out (fun x => x); have rz2 := rule4 hz2; have HZ2 := Lib.hid hz2; have F2 := Lib.hid f2; clear hz2 f2))
  all_goals
    go_wp2
    (try simp only [Exit.inBlock, Exit.then])
    refine bodyPost_ret (results_set5 (s := S) (by rfl) (by rfl) (by rfl) (by rfl) (by rfl) (by rfl) (setFour_heap HZ2.out _ _ _ _)) rfl ⟨?_, setFour_frS (F0.out.drew.trans' F2.out) (Nat.le_refl _) _ _ _ _⟩
    rw [← HR.out, HEQ.out, ← HS.out]
    rfl

end Go.Proofs.YtepeomphikhbkaaGreatDoor

/-
  Walks of the document's bracket expressions: item, behind a sign. Printed by tools/ref02b.py.
-/
namespace Go.Proofs.YtepeomphikhbkaaGreatDoor
open Go.RowKit

set_option maxRecDepth 100000 in
set_option maxHeartbeats 4000000 in
theorem ritem_58 (l : List UInt8) (a : Nat) (w : World) (hl : l.length ≤ 100000) (h2 : a + 1 < l.length) (h : l[a] = 91) (hk : l[a + 1] = 58) : RItem l a w := by
  have HEQ := Lib.hid (itm_kind h2 h hk (by rfl))
  obtain ⟨w0, hw0⟩ : ∃ w0, w0 = (w.alloc (.cells #[.int .u64 0, .int .u64 0, .int .u64 0, .int .u64 0] 31)).alloc (.cells #[.int .u64 0, .int .u64 0, .int .u64 0, .int .u64 0] 31) := ⟨_, rfl⟩
  have hz : w0.heap[w.heap.size]? = some (.cells #[.int .u64 0, .int .u64 0, .int .u64 0, .int .u64 0] 31 (0, 0)) := by rw [hw0]; exact heap_alloc_lt _ (newAt _ _)
  have hn : w0.heap[w.heap.size + 1]? = some (.cells #[.int .u64 0, .int .u64 0, .int .u64 0, .int .u64 0] 31 (0, 0)) := by
    rw [hw0]; have := newAt (w.alloc (.cells #[.int .u64 0, .int .u64 0, .int .u64 0, .int .u64 0] 31)) (.cells #[.int .u64 0, .int .u64 0, .int .u64 0, .int .u64 0] 31); simpa using this
  have f0 : Fr nob w w0 := by rw [hw0]; exact ((Fr.refl _ _).alloc _).alloc _
  have rz := rule4 hz
  have rn := rule4 hn
  have HZ := Lib.hid hz; have HN := Lib.hid hn; have F0 := Lib.hid f0; have HW := Lib.hid hw0
  clear hw0 hz hn f0
  obtain ⟨R, hR⟩ : ∃ R, itm l a = R := ⟨_, rfl⟩
  unfold RItem
  rw [hR]
  have HR := Lib.hid hR; clear hR
  have t1 : ¬ (l.length : Int) ≤ a := by omega
  have t1' : (a : Int) < l.length := by omega
  have t1'' : (0 : Int) ≤ a := by omega
  have t2 : (((l[a]).toNat : Int) != 91) = false := tn_eq h
  have t3 : ¬ (l.length : Int) ≤ (a : Int) + 1 := by omega
  have t3' : (a : Int) + 1 < l.length := by omega
  have tk : ((l[a + 1]).toNat : Int) = 58 := by rw [hk]; rfl
  clear h hk
  obtain ⟨E, hE⟩ : ∃ E, fnd l 58 (l.length + 1) (a + 2) = E := ⟨_, rfl⟩
  have HE := Lib.hid hE; clear hE
  go_enter Tryz.func105, Tryz.ntmps105
  iterate 27 go_step
  rw [← HW.out]
  go_wp2_with fail
  go_loopg [12] (l.length + 1) (fun n v wr => ∃ p : Nat, v = .int .i64 p ∧ a + 2 ≤ p ∧ p ≤ l.length + 1 ∧ l.length < n + p ∧ fnd l 58 n p = E ∧ w0 = wr)
  case atStart => exact ⟨a + 2, by go_num, by omega, by omega, by omega, HE.out, rfl⟩
  case round =>
    obtain ⟨p, rfl, hp, hp2, hpn, hf, rfl⟩ := hrel
    have hp0 : (a : Int) + 2 ≤ p := by omega
    by_cases hlt : p + 1 < l.length
    · obtain ⟨m, rfl⟩ : ∃ m, gk = m + 1 := ⟨gk - 1, by omega⟩
      have hltI : (p : Int) + 1 < l.length := by omega
      by_cases hm1 : l[p]'(by omega) = 58
      · have u1 : (((l[p]'(by omega)).toNat : Int) != 58) = false := tn_eq hm1
        have u1' : ((l[p]'(by omega)).toNat : Int) = 58 := by rw [hm1]; rfl
        by_cases hm2 : l[p + 1] = 93
        · have u2 : (((l[p + 1]).toNat : Int) != 93) = false := tn_eq hm2
          have hEE : fnd l 58 (l.length + 1) (a + 2) = some p := by
            rw [HE.out, ← hf, fnd, if_pos hlt, if_pos ⟨by rw [List.getElem?_eq_getElem (by omega), hm1], by rw [List.getElem?_eq_getElem hlt, hm2]⟩]
          have hsl := run_slice_bs (P := Tryz.prog) l (lo := (a : Int) + 2) (hi := (p : Int)) Tryz.underlying9 (by omega) (by omega) (by omega)
          rw [show ((a : Int) + 2).toNat = a + 2 by omega, show ((p : Int)).toNat = p by omega] at hsl
          obtain ⟨nm, hnm⟩ : ∃ nm, (l.drop (a + 2)).take (p - (a + 2)) = nm := ⟨_, rfl⟩
          rw [hnm] at hsl
          have hnmm : nam l a p = nm := hnm
          have hwr : IntKind.i64.wrap ((p : Int) + 2) = (p : Int) + 2 := IntWalk.i64_in _ (by omega)
          obtain ⟨o, ho⟩ : ∃ o, clsOf ⟨nm.toArray⟩ = o := ⟨_, rfl⟩
          have HC := Lib.hid (fun w => classR_lit ⟨nm.toArray⟩ o ho w)
          have HRV := Lib.hid (show itmN l a 58 = colIt' a p o by
            cases o with
            | none => exact itmN_clsno hEE (by rw [hnmm, ho])
            | some p0 => exact itmN_cls hEE (by rw [hnmm, ho]))
          clear hf hm1 hm2 hEE hnm hnmm ho
          go_wp2_with fail
          refine (HC.out w0).mono ?_
          obtain ⟨S, hS⟩ : ∃ S, clsSet o = S := ⟨_, rfl⟩
          rw [hS]
          have HS := Lib.hid hS; clear hS
          rintro e w2 ⟨rfl, f2⟩
          have hz2 := f2.heap HZ.out (fun x => x)
          have rz2 := rule4 hz2
          have rn2 := rule4 (f2.heap HN.out (fun x => x))
          have hs2 := rule4 (newAt w2 (.cells #[.int .u64 S.a, .int .u64 S.b, .int .u64 S.c, .int .u64 S.d] 31))
          have HZ2 := Lib.hid hz2; have F2 := Lib.hid (F0.out.trans' f2)
          clear hz2 f2
          cases o with
          | none =>
            have HZa := Lib.hid (((Fr.refl nob w2).alloc (.cells #[.int .u64 S.a, .int .u64 S.b, .int .u64 S.c, .int .u64 S.d] 31)).heap HZ2.out (fun x => x))
            have F2a := Lib.hid (F2.out.alloc (.cells #[.int .u64 S.a, .int .u64 S.b, .int .u64 S.c, .int .u64 S.d] 31))
            go_wp2
            (try simp only [Exit.inBlock, Exit.then])
            refine bodyPost_ret (results_set5 (s := S4.zero) (by rfl) (by rfl) (by rfl) (by rfl) (by rfl) (by rfl) (setFour_heap HZa.out _ _ _ _)) rfl ⟨?_, setFour_frS F2a.out (Nat.le_refl _) _ _ _ _⟩
            rw [← HR.out, HEQ.out, HRV.out]
            rfl
          | some p0 =>
            have HZa := Lib.hid (((Fr.refl nob w2).alloc (.cells #[.int .u64 S.a, .int .u64 S.b, .int .u64 S.c, .int .u64 S.d] 31)).heap HZ2.out (fun x => x))
            have F2a := Lib.hid (F2.out.alloc (.cells #[.int .u64 S.a, .int .u64 S.b, .int .u64 S.c, .int .u64 S.d] 31))
            go_wp2
            (try simp only [Exit.inBlock, Exit.then])
            refine bodyPost_ret (results_set5 (s := S) (by rfl) (by rfl) (by rfl) (by rfl) (by rfl) (by rfl) (setFour_heap HZa.out _ _ _ _)) rfl ⟨?_, setFour_frS F2a.out (Nat.le_refl _) _ _ _ _⟩
            rw [← HR.out, HEQ.out, HRV.out, ← HS.out]
            rfl
        · have u2 : (((l[p + 1]).toNat : Int) != 93) = true := tn_ne hm2
          have HF := Lib.hid (show fnd l 58 m (p + 1) = E by rw [← hf, fnd, if_pos hlt, if_neg (fun e => hm2 (by have := e.2; rw [List.getElem?_eq_getElem hlt] at this; exact Option.some.inj this))])
          clear hf hm1 hm2
          go_wp2
          go_roundg m
          case measure => omega
          case rel => exact ⟨p + 1, by go_num, by omega, by omega, by omega, HF.out, rfl⟩
      · have u1 : (((l[p]'(by omega)).toNat : Int) != 58) = true := tn_ne hm1
        have HF := Lib.hid (show fnd l 58 m (p + 1) = E by rw [← hf, fnd, if_pos hlt, if_neg (fun e => hm1 (by have := e.1; rw [List.getElem?_eq_getElem (by omega)] at this; exact Option.some.inj this))])
        clear hf hm1
        go_wp2
        go_roundg m
        case measure => omega
        case rel => exact ⟨p + 1, by go_num, by omega, by omega, by omega, HF.out, rfl⟩
    · have hlt' : ¬ (p : Int) + 1 < l.length := by omega
      have HRV := Lib.hid (show itmN l a 58 = .inl (5, l.length) from itmN_none (by
        rw [show a + 2 + skp 58 = a + 2 from rfl, HE.out, ← hf]
        cases gk with
        | zero => rfl
        | succ m => rw [fnd, if_neg hlt]))
      clear hf
      go_wp2
      (try simp only [Exit.inBlock, Exit.then])
      refine bodyPost_ret (results_set5 (s := S4.zero) (by rfl) (by rfl) (by rfl) (by rfl) (by rfl) (by rfl) (setFour_heap HZ.out _ _ _ _)) rfl ⟨?_, setFour_frS F0.out (Nat.le_refl _) _ _ _ _⟩
      rw [← HR.out, HEQ.out, HRV.out]
      rfl


set_option maxRecDepth 100000 in
set_option maxHeartbeats 4000000 in
theorem ritem_61 (l : List UInt8) (a : Nat) (w : World) (hl : l.length ≤ 100000) (h2 : a + 1 < l.length) (h : l[a] = 91) (hk : l[a + 1] = 61) : RItem l a w := by
  have HEQ := Lib.hid (itm_kind h2 h hk (by rfl))
  obtain ⟨w0, hw0⟩ : ∃ w0, w0 = (w.alloc (.cells #[.int .u64 0, .int .u64 0, .int .u64 0, .int .u64 0] 31)).alloc (.cells #[.int .u64 0, .int .u64 0, .int .u64 0, .int .u64 0] 31) := ⟨_, rfl⟩
  have hz : w0.heap[w.heap.size]? = some (.cells #[.int .u64 0, .int .u64 0, .int .u64 0, .int .u64 0] 31 (0, 0)) := by rw [hw0]; exact heap_alloc_lt _ (newAt _ _)
  have hn : w0.heap[w.heap.size + 1]? = some (.cells #[.int .u64 0, .int .u64 0, .int .u64 0, .int .u64 0] 31 (0, 0)) := by
    rw [hw0]; have := newAt (w.alloc (.cells #[.int .u64 0, .int .u64 0, .int .u64 0, .int .u64 0] 31)) (.cells #[.int .u64 0, .int .u64 0, .int .u64 0, .int .u64 0] 31); simpa using this
  have f0 : Fr nob w w0 := by rw [hw0]; exact ((Fr.refl _ _).alloc _).alloc _
  have rz := rule4 hz
  have rn := rule4 hn
  have HZ := Lib.hid hz; have HN := Lib.hid hn; have F0 := Lib.hid f0; have HW := Lib.hid hw0
  clear hw0 hz hn f0
  obtain ⟨R, hR⟩ : ∃ R, itm l a = R := ⟨_, rfl⟩
  unfold RItem
  rw [hR]
  have HR := Lib.hid hR; clear hR
  have t1 : ¬ (l.length : Int) ≤ a := by omega
  have t1' : (a : Int) < l.length := by omega
  have t1'' : (0 : Int) ≤ a := by omega
  have t2 : (((l[a]).toNat : Int) != 91) = false := tn_eq h
  have t3 : ¬ (l.length : Int) ≤ (a : Int) + 1 := by omega
  have t3' : (a : Int) + 1 < l.length := by omega
  have tk : ((l[a + 1]).toNat : Int) = 61 := by rw [hk]; rfl
  clear h hk
  obtain ⟨E, hE⟩ : ∃ E, fnd l 61 (l.length + 1) (a + 2 + 1) = E := ⟨_, rfl⟩
  have HE := Lib.hid hE; clear hE
  go_enter Tryz.func105, Tryz.ntmps105
  iterate 27 go_step
  rw [← HW.out]
  go_wp2_with fail
  go_loopg [12] (l.length + 1) (fun n v wr => ∃ p : Nat, v = .int .i64 p ∧ a + 2 + 1 ≤ p ∧ p ≤ l.length + 1 ∧ l.length < n + p ∧ fnd l 61 n p = E ∧ w0 = wr)
  case atStart => exact ⟨a + 2 + 1, by go_num, by omega, by omega, by omega, HE.out, rfl⟩
  case round =>
    obtain ⟨p, rfl, hp, hp2, hpn, hf, rfl⟩ := hrel
    have hp0 : (a : Int) + 2 ≤ p := by omega
    by_cases hlt : p + 1 < l.length
    · obtain ⟨m, rfl⟩ : ∃ m, gk = m + 1 := ⟨gk - 1, by omega⟩
      have hltI : (p : Int) + 1 < l.length := by omega
      by_cases hm1 : l[p]'(by omega) = 61
      · have u1 : (((l[p]'(by omega)).toNat : Int) != 61) = false := tn_eq hm1
        have u1' : ((l[p]'(by omega)).toNat : Int) = 61 := by rw [hm1]; rfl
        by_cases hm2 : l[p + 1] = 93
        · have u2 : (((l[p + 1]).toNat : Int) != 93) = false := tn_eq hm2
          have hEE : fnd l 61 (l.length + 1) (a + 2 + 1) = some p := by
            rw [HE.out, ← hf, fnd, if_pos hlt, if_pos ⟨by rw [List.getElem?_eq_getElem (by omega), hm1], by rw [List.getElem?_eq_getElem hlt, hm2]⟩]
          have hsl := run_slice_bs (P := Tryz.prog) l (lo := (a : Int) + 2) (hi := (p : Int)) Tryz.underlying9 (by omega) (by omega) (by omega)
          rw [show ((a : Int) + 2).toNat = a + 2 by omega, show ((p : Int)).toNat = p by omega] at hsl
          obtain ⟨nm, hnm⟩ : ∃ nm, (l.drop (a + 2)).take (p - (a + 2)) = nm := ⟨_, rfl⟩
          rw [hnm] at hsl
          have hnmm : nam l a p = nm := hnm
          have hwr : IntKind.i64.wrap ((p : Int) + 2) = (p : Int) + 2 := IntWalk.i64_in _ (by omega)
          by_cases hd : nm.length = 1
          · obtain ⟨c, rfl⟩ := List.length_eq_one_iff.1 hd
            have HRV := Lib.hid (itmN_one (by decide) hEE hnmm)
            clear hf hm1 hm2 hEE hnm hnmm hd
            have e1 : (((1 : Nat) : Int) != 1) = false := by simp
            obtain ⟨S, hS⟩ : ∃ S, spn c.toNat c.toNat = S := ⟨_, rfl⟩
            have HSP := Lib.hid (fun w' => (show _ from hS ▸ spanR_lit c.toNat c.toNat w' c.toNat_lt c.toNat_lt : Calls Tryz.prog 94 #[.int .u8 c.toNat, .int .u8 c.toNat] w' fun e w'' => e = .returned (setV S) ∧ Fr nob w' w''))
            have HS := Lib.hid hS; clear hS
            go_wp2_with fail
            go_region_held3 (fun w' => True) (trivial) (first | (go_at_call 94; (refine (HSP.out _).mono ?_); rintro e w2 ⟨rfl, f2⟩; have hz2 := f2.heap HZ.out (fun x => x); have rz2 := rule4 hz2; have HZ2 := Lib.hid hz2; have F2 := Lib.hid f2; clear hz2 f2))
            all_goals
              go_wp2
              (try simp only [Exit.inBlock, Exit.then])
              refine bodyPost_ret (results_set5 (s := S) (by rfl) (by rfl) (by rfl) (by rfl) (by rfl) (by rfl) (setFour_heap HZ2.out _ _ _ _)) rfl ⟨?_, setFour_frS (F0.out.drew.trans' F2.out) (Nat.le_refl _) _ _ _ _⟩
              rw [← HR.out, HEQ.out, HRV.out, ← HS.out]
              rfl
          · have HRV := Lib.hid (itmN_bad (by decide) hEE (by rw [hnmm]; exact hd))
            have e1 : ((nm.length : Int) != 1) = true := by simp; omega
            clear hf hm1 hm2 hEE hnm hnmm hd
            go_wp2
            (try simp only [Exit.inBlock, Exit.then])
            refine bodyPost_ret (results_set5 (s := S4.zero) (by rfl) (by rfl) (by rfl) (by rfl) (by rfl) (by rfl) (setFour_heap HZ.out _ _ _ _)) rfl ⟨?_, setFour_frS F0.out (Nat.le_refl _) _ _ _ _⟩
            rw [← HR.out, HEQ.out, HRV.out]
            rfl
        · have u2 : (((l[p + 1]).toNat : Int) != 93) = true := tn_ne hm2
          have HF := Lib.hid (show fnd l 61 m (p + 1) = E by rw [← hf, fnd, if_pos hlt, if_neg (fun e => hm2 (by have := e.2; rw [List.getElem?_eq_getElem hlt] at this; exact Option.some.inj this))])
          clear hf hm1 hm2
          go_wp2
          go_roundg m
          case measure => omega
          case rel => exact ⟨p + 1, by go_num, by omega, by omega, by omega, HF.out, rfl⟩
      · have u1 : (((l[p]'(by omega)).toNat : Int) != 61) = true := tn_ne hm1
        have HF := Lib.hid (show fnd l 61 m (p + 1) = E by rw [← hf, fnd, if_pos hlt, if_neg (fun e => hm1 (by have := e.1; rw [List.getElem?_eq_getElem (by omega)] at this; exact Option.some.inj this))])
        clear hf hm1
        go_wp2
        go_roundg m
        case measure => omega
        case rel => exact ⟨p + 1, by go_num, by omega, by omega, by omega, HF.out, rfl⟩
    · have hlt' : ¬ (p : Int) + 1 < l.length := by omega
      have HRV := Lib.hid (show itmN l a 61 = .inl (5, l.length) from itmN_none (by
        rw [show a + 2 + skp 61 = a + 2 + 1 from rfl, HE.out, ← hf]
        cases gk with
        | zero => rfl
        | succ m => rw [fnd, if_neg hlt]))
      clear hf
      go_wp2
      (try simp only [Exit.inBlock, Exit.then])
      refine bodyPost_ret (results_set5 (s := S4.zero) (by rfl) (by rfl) (by rfl) (by rfl) (by rfl) (by rfl) (setFour_heap HZ.out _ _ _ _)) rfl ⟨?_, setFour_frS F0.out (Nat.le_refl _) _ _ _ _⟩
      rw [← HR.out, HEQ.out, HRV.out]
      rfl


set_option maxRecDepth 100000 in
set_option maxHeartbeats 4000000 in
theorem ritem_46 (l : List UInt8) (a : Nat) (w : World) (hl : l.length ≤ 100000) (h2 : a + 1 < l.length) (h : l[a] = 91) (hk : l[a + 1] = 46) : RItem l a w := by
  have HEQ := Lib.hid (itm_kind h2 h hk (by rfl))
  obtain ⟨w0, hw0⟩ : ∃ w0, w0 = (w.alloc (.cells #[.int .u64 0, .int .u64 0, .int .u64 0, .int .u64 0] 31)).alloc (.cells #[.int .u64 0, .int .u64 0, .int .u64 0, .int .u64 0] 31) := ⟨_, rfl⟩
  have hz : w0.heap[w.heap.size]? = some (.cells #[.int .u64 0, .int .u64 0, .int .u64 0, .int .u64 0] 31 (0, 0)) := by rw [hw0]; exact heap_alloc_lt _ (newAt _ _)
  have hn : w0.heap[w.heap.size + 1]? = some (.cells #[.int .u64 0, .int .u64 0, .int .u64 0, .int .u64 0] 31 (0, 0)) := by
    rw [hw0]; have := newAt (w.alloc (.cells #[.int .u64 0, .int .u64 0, .int .u64 0, .int .u64 0] 31)) (.cells #[.int .u64 0, .int .u64 0, .int .u64 0, .int .u64 0] 31); simpa using this
  have f0 : Fr nob w w0 := by rw [hw0]; exact ((Fr.refl _ _).alloc _).alloc _
  have rz := rule4 hz
  have rn := rule4 hn
  have HZ := Lib.hid hz; have HN := Lib.hid hn; have F0 := Lib.hid f0; have HW := Lib.hid hw0
  clear hw0 hz hn f0
  obtain ⟨R, hR⟩ : ∃ R, itm l a = R := ⟨_, rfl⟩
  unfold RItem
  rw [hR]
  have HR := Lib.hid hR; clear hR
  have t1 : ¬ (l.length : Int) ≤ a := by omega
  have t1' : (a : Int) < l.length := by omega
  have t1'' : (0 : Int) ≤ a := by omega
  have t2 : (((l[a]).toNat : Int) != 91) = false := tn_eq h
  have t3 : ¬ (l.length : Int) ≤ (a : Int) + 1 := by omega
  have t3' : (a : Int) + 1 < l.length := by omega
  have tk : ((l[a + 1]).toNat : Int) = 46 := by rw [hk]; rfl
  clear h hk
  obtain ⟨E, hE⟩ : ∃ E, fnd l 46 (l.length + 1) (a + 2 + 1) = E := ⟨_, rfl⟩
  have HE := Lib.hid hE; clear hE
  go_enter Tryz.func105, Tryz.ntmps105
  iterate 27 go_step
  rw [← HW.out]
  go_wp2_with fail
  go_loopg [12] (l.length + 1) (fun n v wr => ∃ p : Nat, v = .int .i64 p ∧ a + 2 + 1 ≤ p ∧ p ≤ l.length + 1 ∧ l.length < n + p ∧ fnd l 46 n p = E ∧ w0 = wr)
  case atStart => exact ⟨a + 2 + 1, by go_num, by omega, by omega, by omega, HE.out, rfl⟩
  case round =>
    obtain ⟨p, rfl, hp, hp2, hpn, hf, rfl⟩ := hrel
    have hp0 : (a : Int) + 2 ≤ p := by omega
    by_cases hlt : p + 1 < l.length
    · obtain ⟨m, rfl⟩ : ∃ m, gk = m + 1 := ⟨gk - 1, by omega⟩
      have hltI : (p : Int) + 1 < l.length := by omega
      by_cases hm1 : l[p]'(by omega) = 46
      · have u1 : (((l[p]'(by omega)).toNat : Int) != 46) = false := tn_eq hm1
        have u1' : ((l[p]'(by omega)).toNat : Int) = 46 := by rw [hm1]; rfl
        by_cases hm2 : l[p + 1] = 93
        · have u2 : (((l[p + 1]).toNat : Int) != 93) = false := tn_eq hm2
          have hEE : fnd l 46 (l.length + 1) (a + 2 + 1) = some p := by
            rw [HE.out, ← hf, fnd, if_pos hlt, if_pos ⟨by rw [List.getElem?_eq_getElem (by omega), hm1], by rw [List.getElem?_eq_getElem hlt, hm2]⟩]
          have hsl := run_slice_bs (P := Tryz.prog) l (lo := (a : Int) + 2) (hi := (p : Int)) Tryz.underlying9 (by omega) (by omega) (by omega)
          rw [show ((a : Int) + 2).toNat = a + 2 by omega, show ((p : Int)).toNat = p by omega] at hsl
          obtain ⟨nm, hnm⟩ : ∃ nm, (l.drop (a + 2)).take (p - (a + 2)) = nm := ⟨_, rfl⟩
          rw [hnm] at hsl
          have hnmm : nam l a p = nm := hnm
          have hwr : IntKind.i64.wrap ((p : Int) + 2) = (p : Int) + 2 := IntWalk.i64_in _ (by omega)
          by_cases hd : nm.length = 1
          · obtain ⟨c, rfl⟩ := List.length_eq_one_iff.1 hd
            have HRV := Lib.hid (itmN_one (by decide) hEE hnmm)
            clear hf hm1 hm2 hEE hnm hnmm hd
            have e1 : (((1 : Nat) : Int) != 1) = false := by simp
            obtain ⟨S, hS⟩ : ∃ S, spn c.toNat c.toNat = S := ⟨_, rfl⟩
            have HSP := Lib.hid (fun w' => (show _ from hS ▸ spanR_lit c.toNat c.toNat w' c.toNat_lt c.toNat_lt : Calls Tryz.prog 94 #[.int .u8 c.toNat, .int .u8 c.toNat] w' fun e w'' => e = .returned (setV S) ∧ Fr nob w' w''))
            have HS := Lib.hid hS; clear hS
            go_wp2_with fail
            go_region_held3 (fun w' => True) (trivial) (first | (go_at_call 94; (refine (HSP.out _).mono ?_); rintro e w2 ⟨rfl, f2⟩; have hz2 := f2.heap HZ.out (fun x => x); have rz2 := rule4 hz2; have HZ2 := Lib.hid hz2; have F2 := Lib.hid f2; clear hz2 f2))
            all_goals
              go_wp2
              (try simp only [Exit.inBlock, Exit.then])
              refine bodyPost_ret (results_set5 (s := S) (by rfl) (by rfl) (by rfl) (by rfl) (by rfl) (by rfl) (setFour_heap HZ2.out _ _ _ _)) rfl ⟨?_, setFour_frS (F0.out.drew.trans' F2.out) (Nat.le_refl _) _ _ _ _⟩
              rw [← HR.out, HEQ.out, HRV.out, ← HS.out]
              rfl
          · have HRV := Lib.hid (itmN_bad (by decide) hEE (by rw [hnmm]; exact hd))
            have e1 : ((nm.length : Int) != 1) = true := by simp; omega
            clear hf hm1 hm2 hEE hnm hnmm hd
            go_wp2
            (try simp only [Exit.inBlock, Exit.then])
            refine bodyPost_ret (results_set5 (s := S4.zero) (by rfl) (by rfl) (by rfl) (by rfl) (by rfl) (by rfl) (setFour_heap HZ.out _ _ _ _)) rfl ⟨?_, setFour_frS F0.out (Nat.le_refl _) _ _ _ _⟩
            rw [← HR.out, HEQ.out, HRV.out]
            rfl
        · have u2 : (((l[p + 1]).toNat : Int) != 93) = true := tn_ne hm2
          have HF := Lib.hid (show fnd l 46 m (p + 1) = E by rw [← hf, fnd, if_pos hlt, if_neg (fun e => hm2 (by have := e.2; rw [List.getElem?_eq_getElem hlt] at this; exact Option.some.inj this))])
          clear hf hm1 hm2
          go_wp2
          go_roundg m
          case measure => omega
          case rel => exact ⟨p + 1, by go_num, by omega, by omega, by omega, HF.out, rfl⟩
      · have u1 : (((l[p]'(by omega)).toNat : Int) != 46) = true := tn_ne hm1
        have HF := Lib.hid (show fnd l 46 m (p + 1) = E by rw [← hf, fnd, if_pos hlt, if_neg (fun e => hm1 (by have := e.1; rw [List.getElem?_eq_getElem (by omega)] at this; exact Option.some.inj this))])
        clear hf hm1
        go_wp2
        go_roundg m
        case measure => omega
        case rel => exact ⟨p + 1, by go_num, by omega, by omega, by omega, HF.out, rfl⟩
    · have hlt' : ¬ (p : Int) + 1 < l.length := by omega
      have HRV := Lib.hid (show itmN l a 46 = .inl (5, l.length) from itmN_none (by
        rw [show a + 2 + skp 46 = a + 2 + 1 from rfl, HE.out, ← hf]
        cases gk with
        | zero => rfl
        | succ m => rw [fnd, if_neg hlt]))
      clear hf
      go_wp2
      (try simp only [Exit.inBlock, Exit.then])
      refine bodyPost_ret (results_set5 (s := S4.zero) (by rfl) (by rfl) (by rfl) (by rfl) (by rfl) (by rfl) (setFour_heap HZ.out _ _ _ _)) rfl ⟨?_, setFour_frS F0.out (Nat.le_refl _) _ _ _ _⟩
      rw [← HR.out, HEQ.out, HRV.out]
      rfl

end Go.Proofs.YtepeomphikhbkaaGreatDoor

/-
  Walks of the document's bracket expressions: item, least.
-/
namespace Go.Proofs.YtepeomphikhbkaaGreatDoor
open Go.RowKit

theorem ritem_any (l : List UInt8) (a : Nat) (w : World) (hl : l.length ≤ 100000) (ha : a ≤ 1000000) :
    Calls Tryz.prog 105 #[.string ⟨l.toArray⟩, .int .i64 a] w fun e w' => e = .returned (ritV (itm l a)) ∧ Fr nob w w' := by
  show RItem l a w
  by_cases h1 : l.length ≤ a
  · exact ritem_end l a w hl h1 ha
  by_cases h2 : l[a] = 91
  · by_cases h3 : l.length ≤ a + 1
    · exact ritem_b l a w hl (by omega) h2 h3
    by_cases h4 : isKind l[a + 1] = true
    · unfold isKind at h4
      simp only [Bool.or_eq_true, beq_iff_eq] at h4
      rcases h4 with (h4 | h4) | h4
      · exact ritem_58 l a w hl (by omega) h2 h4
      · exact ritem_61 l a w hl (by omega) h2 h4
      · exact ritem_46 l a w hl (by omega) h2 h4
    · exact ritem_c l a w hl (by omega) h2 (by omega) (by simpa using h4)
  · exact ritem_a l a w hl (by omega) h2

theorem spl_one {p : Nat → Bool} {c : Nat} (hp : ∀ e, e < 256 → p e = decide (e = c)) : ∀ k, k ≤ 256 → spl p k = if c < k then [(c, c)] else []
  | 0, _ => by simp [spl]
  | k + 1, hk => by
    have ih := spl_one hp k (by omega)
    have h1 := hp k (by omega)
    rw [spl, h1]
    by_cases hc : k = c
    · subst hc
      have ho : opn p k = false := by
        cases k with
        | zero => rfl
        | succ j => rw [opn, hp j (by omega)]; simp
      simp [ho, ih]
    · rw [if_neg (by simpa using hc), ih]
      by_cases hlt : c < k
      · rw [if_pos hlt, if_pos (by omega)]
      · rw [if_neg hlt, if_neg (by omega)]
theorem spl_spn {c : Nat} (hc : c < 256) : spl (spn c c).has 256 = [(c, c)] := by
  rw [spl_one (c := c) (fun e he => ?_) 256 (Nat.le_refl _), if_pos hc]
  rw [has_spn _ _ _ hc hc he, Bool.eq_iff_iff]
  simp; omega

set_option maxRecDepth 100000 in
set_option maxHeartbeats 1000000 in
theorem rleast_one (c : Nat) (w : World) (hc : c < 256) :
    Calls Tryz.prog 106 #[setV (spn c c)] w fun e w' => e = .returned (.int .u8 c) ∧ Fr nob w w' := by
  have hsp := spl_spn hc
  have hfit := fit_spn c c
  obtain ⟨S, hS⟩ : ∃ S, spn c c = S := ⟨_, rfl⟩
  rw [hS] at hsp hfit ⊢
  clear hS
  have HSP := Lib.hid hsp; clear hsp
  go_enter Tryz.func106, Tryz.ntmps106
  go_wp2_with fail
  refine (spansR_any S _ hfit).mono ?_
  rintro e w2 ⟨v, rfl, ho, f, _⟩
  rw [HSP.out] at ho
  obtain ⟨g, cap, rfl, hg⟩ := ho.slc (by simp)
  have ho' : w2.ownsRow 0 191 2 (.slice (some ⟨g, 0, none⟩) 1 cap) 1 (spC [(c, c)]) := ho
  have hcell : w2.cell? ⟨g, 0, none⟩ = some (.int .u8 (c : Nat)) := (ho'.cellAt 0 (by omega)).trans rfl
  have F := Lib.hid (((Fr.refl nob w).alloc _).trans' f)
  clear ho ho' f
  simp only [List.length_singleton]
  go_wp2
  go_ret
  exact ⟨rfl, F.out⟩

end Go.Proofs.YtepeomphikhbkaaGreatDoor

/-
  Walks of both Parses where the place is out of the text.
-/
namespace Go.Proofs.YtepeomphikhbkaaGreatDoor
open Go.RowKit

def OutAns (w : World) (e : Ending) (w' : World) : Prop := e = .returned (.tuple #[setV S4.zero, .int .i64 0, .int .i64 1]) ∧ Fr nob w w'

theorem results_setR3 {fn : Func} {p q r : Tmp} (h : fn.results = #[.cell p 31, .tmp q, .tmp r]) {tmps : Array Value} {b : Nat} (ht : tmps.getD p undef = .pointer (some ⟨b, 0, none⟩)) {u v : Value} (hq : tmps.getD q undef = u) (hr : tmps.getD r undef = v) {W : World} {s : S4}
    (hb : W.heap[b]? = some (.cells #[.int .u64 s.a, .int .u64 s.b, .int .u64 s.c, .int .u64 s.d] 31 (0, 0))) : (results fn tmps).run Tryz.prog W = .ok (.tuple #[setV s, u, v]) W := by
  have c0 := cell_at (j := 0) (v := .int .u64 s.a) hb rfl
  have c1 := cell_at (j := 1) (v := .int .u64 s.b) hb rfl
  have c2 := cell_at (j := 2) (v := .int .u64 s.c) hb rfl
  have c3 := cell_at (j := 3) (v := .int .u64 s.d) hb rfl
  have ht' : tmps[p]?.getD undef = .pointer (some ⟨b, 0, none⟩) := by rw [← ht]; simp
  have hq' : tmps[q]?.getD undef = u := by rw [← hq]; simp
  have hr' : tmps[r]?.getD undef = v := by rw [← hr]; simp
  simp only [results, h]
  simp [ht', hq', hr', go_sem, c0, c1, c2, c3]

set_option maxRecDepth 100000 in
set_option maxHeartbeats 2000000 in
theorem parse_out (l : List UInt8) (a : Int) (w : World) (h : a < 0 ∨ (l.length : Int) < a) :
    Calls Tryz.prog 70 #[.string ⟨l.toArray⟩, .int .i64 a] w (OutAns w) := by
  obtain ⟨w0, hw0⟩ : ∃ w0, w0 = w.alloc (.cells #[.int .u64 0, .int .u64 0, .int .u64 0, .int .u64 0] 85) := ⟨_, rfl⟩
  have hz : w0.heap[w.heap.size]? = some (.cells #[.int .u64 0, .int .u64 0, .int .u64 0, .int .u64 0] 85 (0, 0)) := by rw [hw0]; exact newAt _ _
  have F := Lib.hid (show Fr nob w w0 by rw [hw0]; exact (Fr.refl _ _).alloc _)
  have rz := rule4 hz
  have HZ := Lib.hid hz; have HW := Lib.hid hw0; clear hz hw0
  by_cases h0 : a < 0
  · clear h
    go_enter Tryz.func70, Tryz.ntmps70
    iterate 14 go_step
    rw [← HW.out]
    go_wp2
    (try simp only [Exit.inBlock, Exit.then])
    refine bodyPost_ret (results_set3 (s := S4.zero) (by rfl) (by rfl) (by rfl) (by rfl) (setFour_heap HZ.out _ _ _ _)) rfl ⟨?_, setFour_frS F.out (Nat.le_refl _) _ _ _ _⟩
    rfl
  · have h1 : (l.length : Int) < a := h.resolve_left h0
    clear h
    go_enter Tryz.func70, Tryz.ntmps70
    iterate 14 go_step
    rw [← HW.out]
    go_wp2
    (try simp only [Exit.inBlock, Exit.then])
    refine bodyPost_ret (results_set3 (s := S4.zero) (by rfl) (by rfl) (by rfl) (by rfl) (setFour_heap HZ.out _ _ _ _)) rfl ⟨?_, setFour_frS F.out (Nat.le_refl _) _ _ _ _⟩
    rfl

set_option maxRecDepth 100000 in
set_option maxHeartbeats 2000000 in
theorem rparse_out (l : List UInt8) (a : Int) (w : World) (h : a < 0 ∨ (l.length : Int) < a) :
    Calls Tryz.prog 92 #[.string ⟨l.toArray⟩, .int .i64 a] w (OutAns w) := by
  obtain ⟨w0, hw0⟩ : ∃ w0, w0 = ((w.alloc (.cells #[.int .u64 0, .int .u64 0, .int .u64 0, .int .u64 0] 31)).alloc (.cells #[.int .u64 0, .int .u64 0, .int .u64 0, .int .u64 0] 31)).alloc (.cells #[.int .u64 0, .int .u64 0, .int .u64 0, .int .u64 0] 31) := ⟨_, rfl⟩
  have hz : w0.heap[w.heap.size]? = some (.cells #[.int .u64 0, .int .u64 0, .int .u64 0, .int .u64 0] 31 (0, 0)) := by rw [hw0]; exact heap_alloc_lt _ (heap_alloc_lt _ (newAt _ _))
  have hn : w0.heap[w.heap.size + 2]? = some (.cells #[.int .u64 0, .int .u64 0, .int .u64 0, .int .u64 0] 31 (0, 0)) := by rw [hw0]; have := newAt ((w.alloc (.cells #[.int .u64 0, .int .u64 0, .int .u64 0, .int .u64 0] 31)).alloc (.cells #[.int .u64 0, .int .u64 0, .int .u64 0, .int .u64 0] 31)) (.cells #[.int .u64 0, .int .u64 0, .int .u64 0, .int .u64 0] 31); simpa using this
  have F := Lib.hid (show Fr nob w w0 by rw [hw0]; exact (((Fr.refl _ _).alloc _).alloc _).alloc _)
  have rz := rule4 hz
  have rn := rule4 hn
  have HZ := Lib.hid hz; have HW := Lib.hid hw0; clear hz hw0 hn
  by_cases h0 : a < 0
  · clear h
    go_enter Tryz.func92, Tryz.ntmps92
    iterate 26 go_step
    rw [← HW.out]
    go_wp2
    (try simp only [Exit.inBlock, Exit.then])
    refine bodyPost_ret (results_setR3 (s := S4.zero) (by rfl) (by rfl) (by rfl) (by rfl) (setFour_heap HZ.out _ _ _ _)) rfl ⟨?_, setFour_frS F.out (Nat.le_refl _) _ _ _ _⟩
    rfl
  · have h1 : (l.length : Int) < a := h.resolve_left h0
    clear h
    go_enter Tryz.func92, Tryz.ntmps92
    iterate 26 go_step
    rw [← HW.out]
    go_wp2
    (try simp only [Exit.inBlock, Exit.then])
    refine bodyPost_ret (results_setR3 (s := S4.zero) (by rfl) (by rfl) (by rfl) (by rfl) (setFour_heap HZ.out _ _ _ _)) rfl ⟨?_, setFour_frS F.out (Nat.le_refl _) _ _ _ _⟩
    rfl

end Go.Proofs.YtepeomphikhbkaaGreatDoor
