/-
  Walks: octet.Class; Span of both sides.
-/
import Derived.Test.YtmoiiidfhkfdgaaDoorOctetH
namespace Go.Proofs.YtmoiiidfhkfdgaaDoor
open Go.RowKit

def clsSet (o : Option (Int → Bool)) : S4 := match o with
  | none => S4.zero
  | some p => pk p 256

theorem eq_nilfn_nil (w : World) : (binOp .eql 77 .nilFunc .nilFunc).run Tryd.prog w = .ok (.bool true) w := by kernel_rfl
theorem eq_nilfn (f : FuncId) (w : World) : (binOp .eql 77 (.func (.func f) #[] #[]) .nilFunc).run Tryd.prog w = .ok (.bool false) w := by kernel_rfl

/-- A set and a bool that are handed back. -/
theorem results_setB {fn : Func} {p q : Tmp} (h : fn.results = #[.cell p 25, .tmp q]) {tmps : Array Value} {r : Nat} (ht : tmps.getD p undef = .pointer (some ⟨r, 0, none⟩)) {v : Value} (hq : tmps.getD q undef = v) {W : World} {s : S4}
    (hb : W.heap[r]? = some (.cells s.cells.toArray 25 (0, 0))) : (results fn tmps).run Tryd.prog W = .ok (.tuple #[.agg s.cells.toArray, v]) W := by
  obtain ⟨c0, c1, c2, c3, _⟩ := cellS hb
  have ht' : tmps[p]?.getD undef = .pointer (some ⟨r, 0, none⟩) := by rw [← ht]; simp
  have hq' : tmps[q]?.getD undef = v := by rw [← hq]; simp
  simp only [results, h]
  simp [ht', hq', go_sem, c0, c1, c2, c3, S4.cells]

set_option maxRecDepth 100000 in
theorem octClass_any (s : ByteArray) (w : World) : Calls Tryd.prog 39 #[.string s] w fun e w' => e = .returned (.tuple #[.agg (clsSet (clsOf s)).cells.toArray, .bool (clsOf s).isSome]) ∧ Fr nob w w' := by
  obtain ⟨o, ho⟩ : ∃ o, clsOf s = o := ⟨_, rfl⟩
  rw [ho]
  have HO := Lib.hid ho; clear ho
  have q0 := eq_nilfn_nil; have q1 := eq_nilfn
  go_enter Tryd.func39, Tryd.ntmps39
  go_wp2_with fail
  refine (class_any s _).mono ?_
  rw [HO.out]
  rintro e w1 ⟨v, rfl, hc, rfl⟩
  rcases hc with ⟨rfl, rfl⟩ | ⟨f, p, rfl, rfl, hn, hf⟩
  · go_wp2
    (try simp only [Exit.inBlock, Exit.then])
    exact bodyPost_ret (results_setB (s := S4.zero) rfl rfl rfl (heap_alloc_new' _ _ _ (by simp))) rfl ⟨rfl, (Fr.refl _ _).alloc _⟩
  · go_wp2_with fail
    refine (pick_any f p _ hn hf).mono ?_
    rintro e w1 ⟨he, h1⟩
    rw [S4.cells_eq] at he; subst he
    have hb := h1.heap (heap_alloc_new w (.cells S4.zero.cells.toArray 25)) (fun x => x)
    obtain ⟨c0, c1, c2, c3, f0, f1, f2, f3⟩ := cellS hb
    have HB := Lib.hid hb
    have F1 := Lib.hid h1; clear h1 hb
    go_wp2
    (try simp only [Exit.inBlock, Exit.then])
    exact bodyPost_ret (results_setB (s := pk p 256) rfl rfl rfl (setFour_heap HB.out _ _ _ _)) rfl ⟨rfl, setFour_fr (((Fr.refl _ _).alloc _).trans' F1.out) (Nat.le_refl _) _ _ _ _⟩

/-- n bytes from a on. -/
def spanTo (a : Nat) : Nat → S4
  | 0 => S4.zero
  | n + 1 => (spanTo a n).put (a + n)
def spn (a b : Nat) : S4 := spanTo a (b + 1 - a)

set_option maxRecDepth 100000 in
set_option maxHeartbeats 1000000 in
theorem spanR_any (a b : Nat) (w : World) (ha : a < 256) (hb : b < 256) :
    Calls Tryd.prog 22 #[.int .u8 a, .int .u8 b] w fun e w' => e = .returned (.agg (spn a b).cells.toArray) ∧ Fr nob w w' := by
  go_enter Tryd.func22, Tryd.ntmps22
  go_wp2_with fail
  obtain ⟨w0, hw0⟩ : ∃ w0, w0 = ((w.alloc (.cells S4.zero.cells.toArray 29)).alloc (.cells S4.zero.cells.toArray 29)) := ⟨_, rfl⟩
  have f0 : Fr nob w w0 := by rw [hw0]; exact ((Fr.refl _ _).alloc _).alloc _
  have hr0 : w0.heap[w.heap.size]? = some (.cells S4.zero.cells.toArray 29 (0, 0)) := by rw [hw0]; exact heap_alloc_lt _ (heap_alloc_new _ _)
  have hb0 : w0.heap[w.heap.size + 1]? = some (.cells S4.zero.cells.toArray 29 (0, 0)) := by
    rw [hw0]; have := heap_alloc_new (w.alloc (.cells S4.zero.cells.toArray 29)) (.cells S4.zero.cells.toArray 29); simpa using this
  change Code.wp _ _ _ _ ((w.alloc (.cells S4.zero.cells.toArray 29)).alloc (.cells S4.zero.cells.toArray 29))
  rw [← hw0]
  have F0 := Lib.hid f0; have HR0 := Lib.hid hr0; have HB0 := Lib.hid hb0; clear f0 hr0 hb0 hw0
  go_loopw [6] (fun i wr => ∃ k : Nat, i = .int .i64 (a + k : Nat) ∧ (k = 0 ∨ a + k ≤ b + 1) ∧ wr.heap[w.heap.size + 1]? = some (.cells (spanTo a k).cells.toArray 29 (0, 0)) ∧ Fr (fun k => k = w.heap.size + 1) w0 wr) (fun i _ => 256 - (intOf i).toNat)
  case atStart => exact ⟨0, rfl, .inl rfl, HB0.out, Fr.refl _ _⟩
  case round =>
    obtain ⟨k, rfl, hk, hb', fr⟩ := hrel
    have HB := Lib.hid hb'; have FR := Lib.hid fr
    have FW := Lib.hid (F0.out.trans FR.out (fun i hi x => by omega))
    obtain ⟨c0, c1, c2, c3, z0, z1, z2, z3⟩ := cellS hb'
    have hlb := lt_heap hb'
    clear hb' fr
    obtain ⟨n, hn⟩ : ∃ n, a + k = n := ⟨_, rfl⟩
    rw [hn]
    have HN := Lib.hid hn
    by_cases hlt : n ≤ b
    · have wn : IntKind.u8.wrap (n : Int) = (n : Int) := IntWalk.u8_in _ (by omega)
      clear hn hk
      go_wp2_with fail
      refine (withR_any (spanTo a k) n _ (by omega)).mono ?_
      rintro e w3 ⟨he, f3⟩
      rw [S4.cells_eq] at he; subst he
      have h3 := f3.heap HB.out (fun x => x)
      obtain ⟨_, _, _, _, y0, y1, y2, y3⟩ := cellS h3
      have hl3 := lt_heap h3
      have H3 := Lib.hid h3; have F3 := Lib.hid f3; clear h3 f3
      go_wp2
      go_roundw
      case rel =>
        refine ⟨k + 1, by have := HN.out; congr 1; omega, .inr (by have := HN.out; omega), ?_, ?_⟩
        · have := setFour_heap (w := w3) (b := w.heap.size + 1) H3.out (.int .u64 ((spanTo a k).put n).a) (.int .u64 ((spanTo a k).put n).b) (.int .u64 ((spanTo a k).put n).c) (.int .u64 ((spanTo a k).put n).d)
          rw [show spanTo a (k + 1) = (spanTo a k).put n by rw [← HN.out]; rfl]
          exact this
        · refine FR.out.trans' ?_
          have h : ∀ (x : World) (j : Nat) (v : Value), Fr (fun k => k = w.heap.size + 1) wr x → Fr (fun k => k = w.heap.size + 1) wr (x.setCell ⟨w.heap.size + 1, j, none⟩ v) := fun x j v hx => hx.setCell (p := ⟨w.heap.size + 1, j, none⟩) (fun _ => rfl) v
          exact h _ _ _ (h _ _ _ (h _ _ _ (h _ _ _ F3.out.any)))
      case measure => simp [intOf]; omega
    · have hsp := Lib.hid (show spanTo a k = spn a b by unfold spn; congr 1; omega)
      clear hn hk
      have hb := HB.out
      rw [hsp.out] at hb c0 c1 c2 c3
      have hr := FR.out.heap HR0.out (fun e => by omega)
      obtain ⟨_, _, _, _, f0, f1, f2, f3⟩ := cellS hr
      have hlr := lt_heap hr
      have HBB := Lib.hid hb; have HRR := Lib.hid hr; clear hb hr
      go_wp2
      (try simp only [Exit.inBlock, Exit.then])
      exact bodyPost_ret (results_setR (s := spn a b) rfl rfl (setFour_heap HRR.out _ _ _ _)) rfl ⟨rfl, setFour_fr FW.out (Nat.le_refl _) _ _ _ _⟩

end Go.Proofs.YtmoiiidfhkfdgaaDoor
