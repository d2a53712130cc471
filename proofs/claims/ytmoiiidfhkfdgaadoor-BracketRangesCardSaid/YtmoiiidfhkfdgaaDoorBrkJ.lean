/-
  Walks of the document's bracket expressions: item. Printed by tools/ref02.py.
-/
import Derived.Test.YtmoiiidfhkfdgaaDoorBrkH
import Derived.Test.YtmoiiidfhkfdgaaDoorOctetK
namespace Go.Proofs.YtmoiiidfhkfdgaaDoor
open Go.RowKit

def ritV : (Int × Nat) ⊕ It → Value
  | .inl z => .tuple #[setV S4.zero, .bool false, .int .i64 0, .int .i64 z.1, .int .i64 z.2]
  | .inr x => .tuple #[setV x.set, .bool x.one.isSome, .int .i64 x.next, .int .i64 0, .int .i64 0]

theorem results_set5 {fn : Func} {p q r s' t' : Tmp} (h : fn.results = #[.cell p 29, .tmp q, .tmp r, .tmp s', .tmp t']) {tmps : Array Value} {b : Nat} (ht : tmps.getD p undef = .pointer (some ⟨b, 0, none⟩)) {u v x y : Value} (hq : tmps.getD q undef = u) (hr : tmps.getD r undef = v) (hs : tmps.getD s' undef = x) (hu : tmps.getD t' undef = y) {W : World} {s : S4}
    (hb : W.heap[b]? = some (.cells #[.int .u64 s.a, .int .u64 s.b, .int .u64 s.c, .int .u64 s.d] 29 (0, 0))) : (results fn tmps).run Tryd.prog W = .ok (.tuple #[setV s, u, v, x, y]) W := by
  have c0 := cell_at (j := 0) (v := .int .u64 s.a) hb rfl
  have c1 := cell_at (j := 1) (v := .int .u64 s.b) hb rfl
  have c2 := cell_at (j := 2) (v := .int .u64 s.c) hb rfl
  have c3 := cell_at (j := 3) (v := .int .u64 s.d) hb rfl
  have ht' : tmps[p]?.getD undef = .pointer (some ⟨b, 0, none⟩) := by rw [← ht]; simp
  have hq' : tmps[q]?.getD undef = u := by rw [← hq]; simp
  have hr' : tmps[r]?.getD undef = v := by rw [← hr]; simp
  have hs' : tmps[s']?.getD undef = x := by rw [← hs]; simp
  have hu' : tmps[t']?.getD undef = y := by rw [← hu]; simp
  simp only [results, h]
  simp [ht', hq', hr', hs', hu', go_sem, c0, c1, c2, c3]
theorem classR_lit (s : ByteArray) (o : Option (Int → Bool)) (ho : clsOf s = o) (w : World) : Calls Tryd.prog 30 #[.string s] w fun e w' => e = .returned (.tuple #[setV (clsSet o), .bool o.isSome]) ∧ Fr nob w w' := by
  subst ho; exact refClass_any s w

def RItAns (R : (Int × Nat) ⊕ It) (w : World) (e : Ending) (w' : World) : Prop := e = .returned (ritV R) ∧ Fr nob w w'
abbrev RItem (l : List UInt8) (a : Nat) (w : World) : Prop := Calls Tryd.prog 20 #[.string ⟨l.toArray⟩, .int .i64 a] w (RItAns (itm l a) w)

set_option maxRecDepth 100000 in
set_option maxHeartbeats 2000000 in
theorem ritem_end (l : List UInt8) (a : Nat) (w : World) (hl : l.length ≤ 100000) (ha : l.length ≤ a) (ha2 : a ≤ 1000000) : RItem l a w := by
  obtain ⟨w0, hw0⟩ : ∃ w0, w0 = (w.alloc (.cells #[.int .u64 0, .int .u64 0, .int .u64 0, .int .u64 0] 29)).alloc (.cells #[.int .u64 0, .int .u64 0, .int .u64 0, .int .u64 0] 29) := ⟨_, rfl⟩
  have hz : w0.heap[w.heap.size]? = some (.cells #[.int .u64 0, .int .u64 0, .int .u64 0, .int .u64 0] 29 (0, 0)) := by rw [hw0]; exact heap_alloc_lt _ (newAt _ _)
  have hn : w0.heap[w.heap.size + 1]? = some (.cells #[.int .u64 0, .int .u64 0, .int .u64 0, .int .u64 0] 29 (0, 0)) := by
    rw [hw0]; have := newAt (w.alloc (.cells #[.int .u64 0, .int .u64 0, .int .u64 0, .int .u64 0] 29)) (.cells #[.int .u64 0, .int .u64 0, .int .u64 0, .int .u64 0] 29); simpa using this
  have f0 : Fr nob w w0 := by rw [hw0]; exact ((Fr.refl _ _).alloc _).alloc _
  have rz := rule4 hz
  have rn := rule4 hn
  have HZ := Lib.hid hz; have HN := Lib.hid hn; have F0 := Lib.hid f0; have HW := Lib.hid hw0
  clear hw0 hz hn f0
  obtain ⟨R, hR⟩ : ∃ R, itm l a = R := ⟨_, rfl⟩
  unfold RItem
  rw [hR]
  have HR := Lib.hid hR; clear hR
  have t1 : (l.length : Int) ≤ a := by omega
  go_enter Tryd.func20, Tryd.ntmps20
  iterate 27 go_step
  rw [← HW.out]
  go_wp2
  (try simp only [Exit.inBlock, Exit.then])
  refine bodyPost_ret (results_set5 (s := S4.zero) (by rfl) (by rfl) (by rfl) (by rfl) (by rfl) (by rfl) (setFour_heap HZ.out _ _ _ _)) rfl ⟨?_, setFour_frS F0.out (Nat.le_refl _) _ _ _ _⟩
  rw [← HR.out, itm_end ha]
  rfl

set_option maxRecDepth 100000 in
set_option maxHeartbeats 2000000 in
theorem ritem_a (l : List UInt8) (a : Nat) (w : World) (hl : l.length ≤ 100000) (ha : a < l.length) (h : ¬ l[a] = 91) : RItem l a w := by
  have HEQ := Lib.hid (show itm l a = .inr ⟨spn (l[a]).toNat (l[a]).toNat, some l[a], a + 1⟩ by exact itm_not91 ha h)
  obtain ⟨w0, hw0⟩ : ∃ w0, w0 = (w.alloc (.cells #[.int .u64 0, .int .u64 0, .int .u64 0, .int .u64 0] 29)).alloc (.cells #[.int .u64 0, .int .u64 0, .int .u64 0, .int .u64 0] 29) := ⟨_, rfl⟩
  have hz : w0.heap[w.heap.size]? = some (.cells #[.int .u64 0, .int .u64 0, .int .u64 0, .int .u64 0] 29 (0, 0)) := by rw [hw0]; exact heap_alloc_lt _ (newAt _ _)
  have hn : w0.heap[w.heap.size + 1]? = some (.cells #[.int .u64 0, .int .u64 0, .int .u64 0, .int .u64 0] 29 (0, 0)) := by
    rw [hw0]; have := newAt (w.alloc (.cells #[.int .u64 0, .int .u64 0, .int .u64 0, .int .u64 0] 29)) (.cells #[.int .u64 0, .int .u64 0, .int .u64 0, .int .u64 0] 29); simpa using this
  have f0 : Fr nob w w0 := by rw [hw0]; exact ((Fr.refl _ _).alloc _).alloc _
  have rz := rule4 hz
  have rn := rule4 hn
  have HZ := Lib.hid hz; have HN := Lib.hid hn; have F0 := Lib.hid f0; have HW := Lib.hid hw0
  clear hw0 hz hn f0
  obtain ⟨R, hR⟩ : ∃ R, itm l a = R := ⟨_, rfl⟩
  unfold RItem
  rw [hR]
  have HR := Lib.hid hR; clear hR
  have t1 : ¬ (l.length : Int) ≤ a := by omega
  have t1' : (a : Int) < l.length := by omega
  have t1'' : (0 : Int) ≤ a := by omega
  have hwr : IntKind.i64.wrap ((a : Int) + 1) = (a : Int) + 1 := IntWalk.i64_in _ (by omega)
  have t2 : (((l[a]).toNat : Int) != 91) = true := tn_ne h
  have t3 : (((l[a]).toNat : Int) == 91) = false := tb_ne h
  clear h
  go_enter Tryd.func20, Tryd.ntmps20
  go_wp2_with fail
  rw [← HW.out]
  obtain ⟨S, hS⟩ : ∃ S, spn (l[a]).toNat (l[a]).toNat = S := ⟨_, rfl⟩
  have HSP := Lib.hid (fun w' => (show _ from hS ▸ spanR_lit (l[a]).toNat (l[a]).toNat w' (l[a]).toNat_lt (l[a]).toNat_lt : Calls Tryd.prog 22 #[.int .u8 (l[a]).toNat, .int .u8 (l[a]).toNat] w' fun e w'' => e = .returned (setV S) ∧ Fr nob w' w''))
  have HS := Lib.hid hS; clear hS
  go_region_held3 (fun w' => True) (trivial) (first | (go_at_call 22; (refine (HSP.out _).mono ?_); rintro e w2 ⟨rfl, f2⟩; have hz2 := f2.heap HZ.out (fun x => x); have rz2 := rule4 hz2; have HZ2 := Lib.hid hz2; have F2 := Lib.hid f2; clear hz2 f2))
  all_goals
    go_wp2
    (try simp only [Exit.inBlock, Exit.then])
    refine bodyPost_ret (results_set5 (s := S) (by rfl) (by rfl) (by rfl) (by rfl) (by rfl) (by rfl) (setFour_heap HZ2.out _ _ _ _)) rfl ⟨?_, setFour_frS (F0.out.drew.trans' F2.out) (Nat.le_refl _) _ _ _ _⟩
    rw [← HR.out, HEQ.out, ← HS.out]
    rfl

set_option maxRecDepth 100000 in
set_option maxHeartbeats 2000000 in
theorem ritem_b (l : List UInt8) (a : Nat) (w : World) (hl : l.length ≤ 100000) (ha : a < l.length) (h : l[a] = 91) (h2 : l.length ≤ a + 1) : RItem l a w := by
  have HEQ := Lib.hid (show itm l a = .inr ⟨spn (l[a]).toNat (l[a]).toNat, some l[a], a + 1⟩ by exact itm_last ha h2)
  obtain ⟨w0, hw0⟩ : ∃ w0, w0 = (w.alloc (.cells #[.int .u64 0, .int .u64 0, .int .u64 0, .int .u64 0] 29)).alloc (.cells #[.int .u64 0, .int .u64 0, .int .u64 0, .int .u64 0] 29) := ⟨_, rfl⟩
  have hz : w0.heap[w.heap.size]? = some (.cells #[.int .u64 0, .int .u64 0, .int .u64 0, .int .u64 0] 29 (0, 0)) := by rw [hw0]; exact heap_alloc_lt _ (newAt _ _)
  have hn : w0.heap[w.heap.size + 1]? = some (.cells #[.int .u64 0, .int .u64 0, .int .u64 0, .int .u64 0] 29 (0, 0)) := by
    rw [hw0]; have := newAt (w.alloc (.cells #[.int .u64 0, .int .u64 0, .int .u64 0, .int .u64 0] 29)) (.cells #[.int .u64 0, .int .u64 0, .int .u64 0, .int .u64 0] 29); simpa using this
  have f0 : Fr nob w w0 := by rw [hw0]; exact ((Fr.refl _ _).alloc _).alloc _
  have rz := rule4 hz
  have rn := rule4 hn
  have HZ := Lib.hid hz; have HN := Lib.hid hn; have F0 := Lib.hid f0; have HW := Lib.hid hw0
  clear hw0 hz hn f0
  obtain ⟨R, hR⟩ : ∃ R, itm l a = R := ⟨_, rfl⟩
  unfold RItem
  rw [hR]
  have HR := Lib.hid hR; clear hR
  have t1 : ¬ (l.length : Int) ≤ a := by omega
  have t1' : (a : Int) < l.length := by omega
  have t1'' : (0 : Int) ≤ a := by omega
  have hwr : IntKind.i64.wrap ((a : Int) + 1) = (a : Int) + 1 := IntWalk.i64_in _ (by omega)
  have t2 : (((l[a]).toNat : Int) != 91) = false := tn_eq h
  have t3 : (l.length : Int) ≤ (a : Int) + 1 := by omega
  clear h h2
  go_enter Tryd.func20, Tryd.ntmps20
  go_wp2_with fail
  rw [← HW.out]
  obtain ⟨S, hS⟩ : ∃ S, spn (l[a]).toNat (l[a]).toNat = S := ⟨_, rfl⟩
  have HSP := Lib.hid (fun w' => (show _ from hS ▸ spanR_lit (l[a]).toNat (l[a]).toNat w' (l[a]).toNat_lt (l[a]).toNat_lt : Calls Tryd.prog 22 #[.int .u8 (l[a]).toNat, .int .u8 (l[a]).toNat] w' fun e w'' => e = .returned (setV S) ∧ Fr nob w' w''))
  have HS := Lib.hid hS; clear hS
  go_region_held3 (fun w' => True) (trivial) (first | (go_at_call 22; (refine (HSP.out _).mono ?_); rintro e w2 ⟨rfl, f2⟩; have hz2 := f2.heap HZ.out (fun x => x); have rz2 := rule4 hz2; have HZ2 := Lib.hid hz2; have F2 := Lib.hid f2; clear hz2 f2))
  all_goals
    go_wp2
    (try simp only [Exit.inBlock, Exit.then])
    refine bodyPost_ret (results_set5 (s := S) (by rfl) (by rfl) (by rfl) (by rfl) (by rfl) (by rfl) (setFour_heap HZ2.out _ _ _ _)) rfl ⟨?_, setFour_frS (F0.out.drew.trans' F2.out) (Nat.le_refl _) _ _ _ _⟩
    rw [← HR.out, HEQ.out, ← HS.out]
    rfl

set_option maxRecDepth 100000 in
set_option maxHeartbeats 2000000 in
theorem ritem_c (l : List UInt8) (a : Nat) (w : World) (hl : l.length ≤ 100000) (ha : a < l.length) (h : l[a] = 91) (h2 : a + 1 < l.length) (h3 : isKind l[a + 1] = false) : RItem l a w := by
  have HEQ := Lib.hid (show itm l a = .inr ⟨spn (l[a]).toNat (l[a]).toNat, some l[a], a + 1⟩ by exact itm_unkind h2 h3)
  obtain ⟨w0, hw0⟩ : ∃ w0, w0 = (w.alloc (.cells #[.int .u64 0, .int .u64 0, .int .u64 0, .int .u64 0] 29)).alloc (.cells #[.int .u64 0, .int .u64 0, .int .u64 0, .int .u64 0] 29) := ⟨_, rfl⟩
  have hz : w0.heap[w.heap.size]? = some (.cells #[.int .u64 0, .int .u64 0, .int .u64 0, .int .u64 0] 29 (0, 0)) := by rw [hw0]; exact heap_alloc_lt _ (newAt _ _)
  have hn : w0.heap[w.heap.size + 1]? = some (.cells #[.int .u64 0, .int .u64 0, .int .u64 0, .int .u64 0] 29 (0, 0)) := by
    rw [hw0]; have := newAt (w.alloc (.cells #[.int .u64 0, .int .u64 0, .int .u64 0, .int .u64 0] 29)) (.cells #[.int .u64 0, .int .u64 0, .int .u64 0, .int .u64 0] 29); simpa using this
  have f0 : Fr nob w w0 := by rw [hw0]; exact ((Fr.refl _ _).alloc _).alloc _
  have rz := rule4 hz
  have rn := rule4 hn
  have HZ := Lib.hid hz; have HN := Lib.hid hn; have F0 := Lib.hid f0; have HW := Lib.hid hw0
  clear hw0 hz hn f0
  obtain ⟨R, hR⟩ : ∃ R, itm l a = R := ⟨_, rfl⟩
  unfold RItem
  rw [hR]
  have HR := Lib.hid hR; clear hR
  have t1 : ¬ (l.length : Int) ≤ a := by omega
  have t1' : (a : Int) < l.length := by omega
  have t1'' : (0 : Int) ≤ a := by omega
  have hwr : IntKind.i64.wrap ((a : Int) + 1) = (a : Int) + 1 := IntWalk.i64_in _ (by omega)
  have t2 : (((l[a]).toNat : Int) != 91) = false := tn_eq h
  have t3 : ¬ (l.length : Int) ≤ (a : Int) + 1 := by omega
  have t3' : (a : Int) + 1 < l.length := by omega
  have hk : ¬ l[a + 1] = 58 ∧ ¬ l[a + 1] = 61 ∧ ¬ l[a + 1] = 46 := by unfold isKind at h3; simp at h3; exact ⟨h3.1.1, h3.1.2, h3.2⟩
  have t4 : (((l[a + 1]).toNat : Int) != 58) = true := tn_ne hk.1
  have t5 : (((l[a + 1]).toNat : Int) != 61) = true := tn_ne hk.2.1
  have t6 : (((l[a + 1]).toNat : Int) != 46) = true := tn_ne hk.2.2
  clear h h3 hk
  go_enter Tryd.func20, Tryd.ntmps20
  go_wp2_with fail
  rw [← HW.out]
  obtain ⟨S, hS⟩ : ∃ S, spn (l[a]).toNat (l[a]).toNat = S := ⟨_, rfl⟩
  have HSP := Lib.hid (fun w' => (show _ from hS ▸ spanR_lit (l[a]).toNat (l[a]).toNat w' (l[a]).toNat_lt (l[a]).toNat_lt : Calls Tryd.prog 22 #[.int .u8 (l[a]).toNat, .int .u8 (l[a]).toNat] w' fun e w'' => e = .returned (setV S) ∧ Fr nob w' w''))
  have HS := Lib.hid hS; clear hS
  go_region_held3 (fun w' => True) (trivial) (first | (go_at_call 22; (refine (HSP.out _).mono ?_); rintro e w2 ⟨rfl, f2⟩; have hz2 := f2.heap HZ.out (fun x => x); have rz2 := rule4 hz2; have HZ2 := Lib.hid hz2; have F2 := Lib.hid f2; clear hz2 f2))
  all_goals
    go_wp2
    (try simp only [Exit.inBlock, Exit.then])
    refine bodyPost_ret (results_set5 (s := S) (by rfl) (by rfl) (by rfl) (by rfl) (by rfl) (by rfl) (setFour_heap HZ2.out _ _ _ _)) rfl ⟨?_, setFour_frS (F0.out.drew.trans' F2.out) (Nat.le_refl _) _ _ _ _⟩
    rw [← HR.out, HEQ.out, ← HS.out]
    rfl

end Go.Proofs.YtmoiiidfhkfdgaaDoor
