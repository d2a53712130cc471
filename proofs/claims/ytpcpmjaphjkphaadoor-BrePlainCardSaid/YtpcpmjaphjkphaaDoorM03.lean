/-
  Merged texts of this claim: OctetG, OctetH, OctetI, SetLaw, BrkP, Least, QuietTail.
-/
import Derived.Lib.IndexMore
import Derived.Laws.Bits64b
import Derived.Lib.TrailingZeros
import Derived.StillTailTactics
import Derived.Lib.QuietBelow
import Derived.Test.YtpcpmjaphjkphaaDoorM01
import Derived.Test.YtpcpmjaphjkphaaDoorM02

/-
  Walks: octet.class, from a name to the predicate.
-/
namespace Go.Proofs.YtpcpmjaphjkphaaDoor
open Go.RowKit

/-- A call of the value f enters the function f. -/
def IsFn (f : FuncId) : Prop := ∀ (r : Int) (w : World), (callFunc f #[.int .i32 r]).run Tryd.prog w = .ok (.enter f #[.int .i32 r]) w

/-- A value that is the function of a predicate, or no function. -/
def Cls (v : Value) (o : Option (Int → Bool)) : Prop :=
  (v = .nilFunc ∧ o = none) ∨ ∃ f p, v = .func (.func f) #[] #[] ∧ o = some p ∧ IsFn f ∧ IsRune f p

/-- What class answers by the name. -/
def clsOf (s : ByteArray) : Option (Int → Bool) :=
  if s.toList == [108, 111, 119, 101, 114] then some isLower
  else if s.toList == [117, 112, 112, 101, 114] then some isUpper
  else if s.toList == [97, 108, 112, 104, 97] then some isAlpha
  else if s.toList == [100, 105, 103, 105, 116] then some isDigit
  else if s.toList == [97, 108, 110, 117, 109] then some isAlnum
  else if s.toList == [120, 100, 105, 103, 105, 116] then some isXdigit
  else if s.toList == [98, 108, 97, 110, 107] then some isBlank
  else if s.toList == [115, 112, 97, 99, 101] then some isSpace
  else if s.toList == [99, 110, 116, 114, 108] then some isCntrl
  else if s.toList == [112, 114, 105, 110, 116] then some isPrint
  else if s.toList == [103, 114, 97, 112, 104] then some isGraph
  else if s.toList == [112, 117, 110, 99, 116] then some isPunct
  else none

set_option maxRecDepth 100000 in
theorem class_any (s : ByteArray) (w : World) : Calls Tryd.prog 35 #[.string s] w fun e w' => ∃ v, e = .returned v ∧ Cls v (clsOf s) ∧ w = w' := by
  go_enter Tryd.func35, Tryd.ntmps35
  go_wp2
  · go_ret
    exact ⟨_, rfl, Or.inr ⟨_, _, rfl, (by simp only [clsOf, *]; rfl), (fun _ _ => rfl), rune_lower⟩, rfl⟩
  · go_ret
    exact ⟨_, rfl, Or.inr ⟨_, _, rfl, (by simp only [clsOf, *]; rfl), (fun _ _ => rfl), rune_upper⟩, rfl⟩
  · go_ret
    exact ⟨_, rfl, Or.inr ⟨_, _, rfl, (by simp only [clsOf, *]; rfl), (fun _ _ => rfl), rune_Alpha⟩, rfl⟩
  · go_ret
    exact ⟨_, rfl, Or.inr ⟨_, _, rfl, (by simp only [clsOf, *]; rfl), (fun _ _ => rfl), rune_digit⟩, rfl⟩
  · go_ret
    exact ⟨_, rfl, Or.inr ⟨_, _, rfl, (by simp only [clsOf, *]; rfl), (fun _ _ => rfl), rune_Alnum⟩, rfl⟩
  · go_ret
    exact ⟨_, rfl, Or.inr ⟨_, _, rfl, (by simp only [clsOf, *]; rfl), (fun _ _ => rfl), rune_Xdigit⟩, rfl⟩
  · go_ret
    exact ⟨_, rfl, Or.inr ⟨_, _, rfl, (by simp only [clsOf, *]; rfl), (fun _ _ => rfl), rune_blank⟩, rfl⟩
  · go_ret
    exact ⟨_, rfl, Or.inr ⟨_, _, rfl, (by simp only [clsOf, *]; rfl), (fun _ _ => rfl), rune_Space⟩, rfl⟩
  · go_ret
    exact ⟨_, rfl, Or.inr ⟨_, _, rfl, (by simp only [clsOf, *]; rfl), (fun _ _ => rfl), rune_Cntrl⟩, rfl⟩
  · go_ret
    exact ⟨_, rfl, Or.inr ⟨_, _, rfl, (by simp only [clsOf, *]; rfl), (fun _ _ => rfl), rune_Print⟩, rfl⟩
  · go_ret
    exact ⟨_, rfl, Or.inr ⟨_, _, rfl, (by simp only [clsOf, *]; rfl), (fun _ _ => rfl), rune_graph⟩, rfl⟩
  · go_ret
    exact ⟨_, rfl, Or.inr ⟨_, _, rfl, (by simp only [clsOf, *]; rfl), (fun _ _ => rfl), rune_Punct⟩, rfl⟩
  · go_ret
    exact ⟨_, rfl, Or.inl ⟨rfl, (by simp only [clsOf, *]; rfl)⟩, rfl⟩

end Go.Proofs.YtpcpmjaphjkphaaDoor

/-
  Walks: pick, the set of the signs that a predicate takes.
-/
namespace Go.Proofs.YtpcpmjaphjkphaaDoor
open Go.RowKit

/-- The set of the signs below k that p takes. -/
def pk (p : Int → Bool) : Nat → S4
  | 0 => S4.zero
  | k + 1 => if p k then (pk p k).put k else pk p k

set_option maxRecDepth 100000 in
set_option maxHeartbeats 1000000 in
theorem pick_any (f : FuncId) (p : Int → Bool) (w : World) (hn : IsFn f) (hf : IsRune f p) :
    Calls Tryd.prog 36 #[.func (.func f) #[] #[]] w fun e w' => e = .returned (.agg (pk p 256).cells.toArray) ∧ Fr nob w w' := by
  go_enter Tryd.func36, Tryd.ntmps36
  go_wp2_with fail
  obtain ⟨w0, hw0⟩ : ∃ w0, w0 = ((w.alloc (.cells S4.zero.cells.toArray 37)).alloc (.cells S4.zero.cells.toArray 37)) := ⟨_, rfl⟩
  have f0 : Fr nob w w0 := by rw [hw0]; exact ((Fr.refl _ _).alloc _).alloc _
  have hr0 : w0.heap[w.heap.size]? = some (.cells S4.zero.cells.toArray 37 (0, 0)) := by rw [hw0]; exact heap_alloc_lt _ (heap_alloc_new _ _)
  have hb0 : w0.heap[w.heap.size + 1]? = some (.cells S4.zero.cells.toArray 37 (0, 0)) := by
    rw [hw0]; have := heap_alloc_new (w.alloc (.cells S4.zero.cells.toArray 37)) (.cells S4.zero.cells.toArray 37); simpa using this
  change Code.wp _ _ _ _ ((w.alloc (.cells S4.zero.cells.toArray 37)).alloc (.cells S4.zero.cells.toArray 37))
  rw [← hw0]
  have F0 := Lib.hid f0; have HR0 := Lib.hid hr0; have HB0 := Lib.hid hb0; clear f0 hr0 hb0 hw0
  go_loopw [5] (fun i wr => ∃ k : Nat, i = .int .i32 k ∧ k ≤ 256 ∧ wr.heap[w.heap.size + 1]? = some (.cells (pk p k).cells.toArray 37 (0, 0)) ∧ Fr (fun k => k = w.heap.size + 1) w0 wr) (fun i _ => 256 - (intOf i).toNat)
  case atStart => exact ⟨0, rfl, Nat.zero_le _, HB0.out, Fr.refl _ _⟩
  case round =>
    obtain ⟨k, rfl, hk, hb, fr⟩ := hrel
    have HB := Lib.hid hb; have FR := Lib.hid fr; clear hb fr
    have FW := Lib.hid (F0.out.trans FR.out (fun i hi x => by omega))
    by_cases hlt : k < 256
    · cases hp : p k with
      | true =>
        have hpt := Lib.hid (show pk p (k + 1) = (pk p k).put k by simp [pk, hp])
        have HP := Lib.hid hp; clear hp
        go_wp2_with fail
        rw [hn]
        refine (hf k _).mono ?_
        rw [HP.out]
        rintro e w3 ⟨rfl, rfl⟩
        go_wp2_with fail
        refine (add_any (w.heap.size + 1) _ k _ hlt HB.out).mono ?_
        rintro e w3 ⟨rfl, h3, f3⟩
        have H3 := Lib.hid h3; have F3 := Lib.hid f3; clear h3 f3
        go_wp2
        go_roundw
        case rel => exact ⟨k + 1, by go_num, by omega, by rw [hpt.out]; exact H3.out, FR.out.trans' F3.out⟩
        case measure => simp [intOf]; omega
      | false =>
        have hpt := Lib.hid (show pk p (k + 1) = pk p k by simp [pk, hp])
        have HP := Lib.hid hp; clear hp
        go_wp2_with fail
        rw [hn]
        refine (hf k _).mono ?_
        rw [HP.out]
        rintro e w3 ⟨rfl, rfl⟩
        go_wp2
        go_roundw
        case rel => exact ⟨k + 1, by go_num, by omega, by rw [hpt.out]; exact HB.out, FR.out⟩
        case measure => simp [intOf]; omega
    · obtain rfl : k = 256 := by omega
      have hb := HB.out
      obtain ⟨c0, c1, c2, c3, _⟩ := cellS hb
      have hr := FR.out.heap HR0.out (fun e => by omega)
      obtain ⟨_, _, _, _, f0, f1, f2, f3⟩ := cellS hr
      have hlr := lt_heap hr; have hlb := lt_heap hb
      have HBB := Lib.hid hb; have HRR := Lib.hid hr; clear hb hr
      go_wp2
      (try simp only [Exit.inBlock, Exit.then])
      have hW := heap_setCell_at (heap_setCell_at (heap_setCell_at (heap_setCell_at HRR.out 0 (.int .u64 (pk p 256).a)) 1 (.int .u64 (pk p 256).b)) 2 (.int .u64 (pk p 256).c)) 3 (.int .u64 (pk p 256).d)
      refine bodyPost_ret (results_set (s := pk p 256) rfl rfl hW) rfl ⟨rfl, ?_⟩
      exact (((FW.out.setCell (p := ⟨w.heap.size, 0, none⟩) (fun h => absurd h (Nat.lt_irrefl _)) _).setCell (p := ⟨w.heap.size, 1, none⟩) (fun h => absurd h (Nat.lt_irrefl _)) _).setCell (p := ⟨w.heap.size, 2, none⟩) (fun h => absurd h (Nat.lt_irrefl _)) _).setCell (p := ⟨w.heap.size, 3, none⟩) (fun h => absurd h (Nat.lt_irrefl _)) _

end Go.Proofs.YtpcpmjaphjkphaaDoor

/-
  Walks: octet.Class; Span of both sides.
-/
namespace Go.Proofs.YtpcpmjaphjkphaaDoor
open Go.RowKit

def clsSet (o : Option (Int → Bool)) : S4 := match o with
  | none => S4.zero
  | some p => pk p 256

theorem eq_nilfn_nil (w : World) : (binOp .eql 94 .nilFunc .nilFunc).run Tryd.prog w = .ok (.bool true) w := by kernel_rfl
theorem eq_nilfn (f : FuncId) (w : World) : (binOp .eql 94 (.func (.func f) #[] #[]) .nilFunc).run Tryd.prog w = .ok (.bool false) w := by kernel_rfl

/-- A set and a bool that are handed back. -/
theorem results_setB {fn : Func} {p q : Tmp} (h : fn.results = #[.cell p 37, .tmp q]) {tmps : Array Value} {r : Nat} (ht : tmps.getD p undef = .pointer (some ⟨r, 0, none⟩)) {v : Value} (hq : tmps.getD q undef = v) {W : World} {s : S4}
    (hb : W.heap[r]? = some (.cells s.cells.toArray 37 (0, 0))) : (results fn tmps).run Tryd.prog W = .ok (.tuple #[.agg s.cells.toArray, v]) W := by
  obtain ⟨c0, c1, c2, c3, _⟩ := cellS hb
  have ht' : tmps[p]?.getD undef = .pointer (some ⟨r, 0, none⟩) := by rw [← ht]; simp
  have hq' : tmps[q]?.getD undef = v := by rw [← hq]; simp
  simp only [results, h]
  simp [ht', hq', go_sem, c0, c1, c2, c3, S4.cells]

set_option maxRecDepth 100000 in
theorem octClass_any (s : ByteArray) (w : World) : Calls Tryd.prog 22 #[.string s] w fun e w' => e = .returned (.tuple #[.agg (clsSet (clsOf s)).cells.toArray, .bool (clsOf s).isSome]) ∧ Fr nob w w' := by
  obtain ⟨o, ho⟩ : ∃ o, clsOf s = o := ⟨_, rfl⟩
  rw [ho]
  have HO := Lib.hid ho; clear ho
  have q0 := eq_nilfn_nil; have q1 := eq_nilfn
  go_enter Tryd.func22, Tryd.ntmps22
  go_wp2_with fail
  refine (class_any s _).mono ?_
  rw [HO.out]
  rintro e w1 ⟨v, rfl, hc, rfl⟩
  rcases hc with ⟨rfl, rfl⟩ | ⟨f, p, rfl, rfl, hn, hf⟩
  · go_wp2
    (try simp only [Exit.inBlock, Exit.then])
    exact bodyPost_ret (results_setB (s := S4.zero) rfl rfl rfl (heap_alloc_new' _ _ _ (by simp))) rfl ⟨rfl, (Fr.refl _ _).alloc _⟩
  · go_wp2_with fail
    refine (pick_any f p _ hn hf).mono ?_
    rintro e w1 ⟨he, h1⟩
    rw [S4.cells_eq] at he; subst he
    have hb := h1.heap (heap_alloc_new w (.cells S4.zero.cells.toArray 37)) (fun x => x)
    obtain ⟨c0, c1, c2, c3, f0, f1, f2, f3⟩ := cellS hb
    have HB := Lib.hid hb
    have F1 := Lib.hid h1; clear h1 hb
    go_wp2
    (try simp only [Exit.inBlock, Exit.then])
    exact bodyPost_ret (results_setB (s := pk p 256) rfl rfl rfl (setFour_heap HB.out _ _ _ _)) rfl ⟨rfl, setFour_fr (((Fr.refl _ _).alloc _).trans' F1.out) (Nat.le_refl _) _ _ _ _⟩

/-- n bytes from a on. -/
def spanTo (a : Nat) : Nat → S4
  | 0 => S4.zero
  | n + 1 => (spanTo a n).put (a + n)
def spn (a b : Nat) : S4 := spanTo a (b + 1 - a)

set_option maxRecDepth 100000 in
set_option maxHeartbeats 1000000 in
theorem spanR_any (a b : Nat) (w : World) (ha : a < 256) (hb : b < 256) :
    Calls Tryd.prog 43 #[.int .u8 a, .int .u8 b] w fun e w' => e = .returned (.agg (spn a b).cells.toArray) ∧ Fr nob w w' := by
  go_enter Tryd.func43, Tryd.ntmps43
  go_wp2_with fail
  obtain ⟨w0, hw0⟩ : ∃ w0, w0 = ((w.alloc (.cells S4.zero.cells.toArray 48)).alloc (.cells S4.zero.cells.toArray 48)) := ⟨_, rfl⟩
  have f0 : Fr nob w w0 := by rw [hw0]; exact ((Fr.refl _ _).alloc _).alloc _
  have hr0 : w0.heap[w.heap.size]? = some (.cells S4.zero.cells.toArray 48 (0, 0)) := by rw [hw0]; exact heap_alloc_lt _ (heap_alloc_new _ _)
  have hb0 : w0.heap[w.heap.size + 1]? = some (.cells S4.zero.cells.toArray 48 (0, 0)) := by
    rw [hw0]; have := heap_alloc_new (w.alloc (.cells S4.zero.cells.toArray 48)) (.cells S4.zero.cells.toArray 48); simpa using this
  change Code.wp _ _ _ _ ((w.alloc (.cells S4.zero.cells.toArray 48)).alloc (.cells S4.zero.cells.toArray 48))
  rw [← hw0]
  have F0 := Lib.hid f0; have HR0 := Lib.hid hr0; have HB0 := Lib.hid hb0; clear f0 hr0 hb0 hw0
  go_loopw [6] (fun i wr => ∃ k : Nat, i = .int .i64 (a + k : Nat) ∧ (k = 0 ∨ a + k ≤ b + 1) ∧ wr.heap[w.heap.size + 1]? = some (.cells (spanTo a k).cells.toArray 48 (0, 0)) ∧ Fr (fun k => k = w.heap.size + 1) w0 wr) (fun i _ => 256 - (intOf i).toNat)
  case atStart => exact ⟨0, rfl, .inl rfl, HB0.out, Fr.refl _ _⟩
  case round =>
    obtain ⟨k, rfl, hk, hb', fr⟩ := hrel
    have HB := Lib.hid hb'; have FR := Lib.hid fr
    have FW := Lib.hid (F0.out.trans FR.out (fun i hi x => by omega))
    obtain ⟨c0, c1, c2, c3, z0, z1, z2, z3⟩ := cellS hb'
    have hlb := lt_heap hb'
    clear hb' fr
    obtain ⟨n, hn⟩ : ∃ n, a + k = n := ⟨_, rfl⟩
    rw [hn]
    have HN := Lib.hid hn
    by_cases hlt : n ≤ b
    · have wn : IntKind.u8.wrap (n : Int) = (n : Int) := IntWalk.u8_in _ (by omega)
      clear hn hk
      go_wp2_with fail
      refine (withR_any (spanTo a k) n _ (by omega)).mono ?_
      rintro e w3 ⟨he, f3⟩
      rw [S4.cells_eq] at he; subst he
      have h3 := f3.heap HB.out (fun x => x)
      obtain ⟨_, _, _, _, y0, y1, y2, y3⟩ := cellS h3
      have hl3 := lt_heap h3
      have H3 := Lib.hid h3; have F3 := Lib.hid f3; clear h3 f3
      go_wp2
      go_roundw
      case rel =>
        refine ⟨k + 1, by have := HN.out; congr 1; omega, .inr (by have := HN.out; omega), ?_, ?_⟩
        · have := setFour_heap (w := w3) (b := w.heap.size + 1) H3.out (.int .u64 ((spanTo a k).put n).a) (.int .u64 ((spanTo a k).put n).b) (.int .u64 ((spanTo a k).put n).c) (.int .u64 ((spanTo a k).put n).d)
          rw [show spanTo a (k + 1) = (spanTo a k).put n by rw [← HN.out]; rfl]
          exact this
        · refine FR.out.trans' ?_
          have h : ∀ (x : World) (j : Nat) (v : Value), Fr (fun k => k = w.heap.size + 1) wr x → Fr (fun k => k = w.heap.size + 1) wr (x.setCell ⟨w.heap.size + 1, j, none⟩ v) := fun x j v hx => hx.setCell (p := ⟨w.heap.size + 1, j, none⟩) (fun _ => rfl) v
          exact h _ _ _ (h _ _ _ (h _ _ _ (h _ _ _ F3.out.any)))
      case measure => simp [intOf]; omega
    · have hsp := Lib.hid (show spanTo a k = spn a b by unfold spn; congr 1; omega)
      clear hn hk
      have hb := HB.out
      rw [hsp.out] at hb c0 c1 c2 c3
      have hr := FR.out.heap HR0.out (fun e => by omega)
      obtain ⟨_, _, _, _, f0, f1, f2, f3⟩ := cellS hr
      have hlr := lt_heap hr
      have HBB := Lib.hid hb; have HRR := Lib.hid hr; clear hb hr
      go_wp2
      (try simp only [Exit.inBlock, Exit.then])
      exact bodyPost_ret (results_setR (s := spn a b) rfl rfl (setFour_heap HRR.out _ _ _ _)) rfl ⟨rfl, setFour_fr FW.out (Nat.le_refl _) _ _ _ _⟩

end Go.Proofs.YtpcpmjaphjkphaaDoor

/-
  Sets of bytes: what is in them. Plain: no walk.
-/
namespace Go.Proofs.YtpcpmjaphjkphaaDoor
open Go.RowKit

theorem S4.word_and (s t : S4) (d : Nat) : wd ((s.and t).word d) = wd (s.word d) &&& wd (t.word d) := by
  unfold S4.word S4.and; split <;> exact wd_and _ _
theorem S4.word_or (s t : S4) (d : Nat) : wd ((s.or t).word d) = wd (s.word d) ||| wd (t.word d) := by
  unfold S4.word S4.or; split <;> exact wd_or _ _
theorem S4.word_not (s : S4) (d : Nat) : wd (s.not.word d) = ~~~ wd (s.word d) := by
  unfold S4.word S4.not; split <;> exact wd_not _

theorem has_and (s t : S4) (d : Nat) : (s.and t).has d = (s.has d && t.has d) := by
  unfold S4.has; rw [S4.word_and, BitVec.getLsbD_and]
theorem has_or (s t : S4) (d : Nat) : (s.or t).has d = (s.has d || t.has d) := by
  unfold S4.has; rw [S4.word_or, BitVec.getLsbD_or]
theorem has_not (s : S4) (d : Nat) : s.not.has d = !s.has d := by
  unfold S4.has; rw [S4.word_not, BitVec.getLsbD_not]
  have : d % 64 < 64 := Nat.mod_lt _ (by decide)
  simp [this]
theorem has_zero (d : Nat) : S4.zero.has d = false := by
  unfold S4.has S4.word S4.zero
  have : wd 0 = 0#64 := by decide
  split <;> rw [this] <;> simp

theorem fit_and (s t : S4) : (s.and t).fit := ⟨fit_bits .and s.a t.a, fit_bits .and s.b t.b, fit_bits .and s.c t.c, fit_bits .and s.d t.d⟩
theorem fit_or (s t : S4) : (s.or t).fit := ⟨fit_bits .or s.a t.a, fit_bits .or s.b t.b, fit_bits .or s.c t.c, fit_bits .or s.d t.d⟩
theorem fit_not (s : S4) : s.not.fit := ⟨fit_bits .xor _ s.a, fit_bits .xor _ s.b, fit_bits .xor _ s.c, fit_bits .xor _ s.d⟩
theorem fit_0 : Fit 0 := ⟨by decide, by decide⟩
theorem fit_zero : S4.zero.fit := ⟨fit_0, fit_0, fit_0, fit_0⟩
theorem fit_orw (x : Int) (n : Nat) : Fit (orw x n) := fit_bits .or x _
theorem fit_put {s : S4} (h : s.fit) (d : Nat) : (s.put d).fit := by
  unfold S4.put
  split
  · exact ⟨fit_orw _ _, h.2.1, h.2.2.1, h.2.2.2⟩
  · exact ⟨h.1, fit_orw _ _, h.2.2.1, h.2.2.2⟩
  · exact ⟨h.1, h.2.1, fit_orw _ _, h.2.2.2⟩
  · exact ⟨h.1, h.2.1, h.2.2.1, fit_orw _ _⟩
theorem fit_puts (l : List UInt8) : ∀ {s : S4}, s.fit → (s.puts l).fit := by
  induction l with
  | nil => intro s h; exact h
  | cons c r ih => intro s h; exact ih (fit_put h _)
theorem fit_spanTo (a : Nat) : ∀ n, (spanTo a n).fit
  | 0 => fit_zero
  | n + 1 => fit_put (fit_spanTo a n) _
theorem fit_spn (a b : Nat) : (spn a b).fit := fit_spanTo _ _
theorem fit_pk (p : Int → Bool) : ∀ n, (pk p n).fit
  | 0 => fit_zero
  | n + 1 => by unfold pk; split; exact fit_put (fit_pk p n) _; exact fit_pk p n
theorem fit_clsSet (o : Option (Int → Bool)) : (clsSet o).fit := by
  unfold clsSet; split; exact fit_zero; exact fit_pk _ _

/-- Two sets of the same bytes are one. -/
theorem S4.ext_has {s t : S4} (hs : s.fit) (ht : t.fit) (h : ∀ d, d < 256 → s.has d = t.has d) : s = t := by
  have e : ∀ q, q < 4 → wd (s.word (64 * q)) = wd (t.word (64 * q)) := by
    intro q hq
    apply BitVec.eq_of_getLsbD_eq
    intro i hi
    have := h (64 * q + i) (by omega)
    unfold S4.has at this
    have w1 : ∀ u : S4, u.word (64 * q + i) = u.word (64 * q) := fun u => by
      unfold S4.word; rw [show (64 * q + i) / 64 = 64 * q / 64 by omega]
    rw [w1, w1, show (64 * q + i) % 64 = i by omega] at this
    exact this
  obtain ⟨a, b, c, d⟩ := s
  obtain ⟨a', b', c', d'⟩ := t
  have h0 := wd_inj hs.1 ht.1 (e 0 (by decide))
  have h1 := wd_inj hs.2.1 ht.2.1 (e 1 (by decide))
  have h2 := wd_inj hs.2.2.1 ht.2.2.1 (e 2 (by decide))
  have h3 := wd_inj hs.2.2.2 ht.2.2.2 (e 3 (by decide))
  subst h0; subst h1; subst h2; subst h3; rfl

theorem wd_pow : ∀ n : Fin 64, wd (IntKind.u64.wrap (2 ^ n.val)) = BitVec.twoPow 64 n.val := by decide +kernel
theorem wd_orw (x : Int) {n : Nat} (h : n < 64) : wd (orw x n) = wd x ||| BitVec.twoPow 64 n := by
  unfold orw; rw [wd_or, wd_pow ⟨n, h⟩]
theorem word_put (s : S4) (d e : Nat) (hd : d < 256) (he : e < 256) : wd ((s.put d).word e) = if d / 64 = e / 64 then wd (s.word e) ||| BitVec.twoPow 64 (d % 64) else wd (s.word e) := by
  have hm : d % 64 < 64 := Nat.mod_lt _ (by decide)
  have hq : d / 64 = 0 ∨ d / 64 = 1 ∨ d / 64 = 2 ∨ d / 64 = 3 := by omega
  have hr : e / 64 = 0 ∨ e / 64 = 1 ∨ e / 64 = 2 ∨ e / 64 = 3 := by omega
  unfold S4.put S4.word
  rcases hq with hq | hq | hq | hq <;> rcases hr with hr | hr | hr | hr <;> simp [hq, hr, wd_orw, hm]
theorem has_put (s : S4) (d e : Nat) (hd : d < 256) (he : e < 256) : (s.put d).has e = (decide (d = e) || s.has e) := by
  unfold S4.has
  rw [word_put s d e hd he]
  split
  · next h =>
    rw [BitVec.getLsbD_or, BitVec.getLsbD_twoPow, Bool.or_comm]
    congr 1
    have : d % 64 < 64 := Nat.mod_lt _ (by decide)
    simp only [this, decide_true, Bool.true_and]
    rw [decide_eq_decide]
    omega
  · next h =>
    have : d ≠ e := fun x => h (by rw [x])
    simp [this]
theorem has_puts (l : List UInt8) (e : Nat) (he : e < 256) : ∀ s : S4, (s.puts l).has e = (l.any (fun c => decide (c.toNat = e)) || s.has e) := by
  induction l with
  | nil => intro s; simp [S4.puts]
  | cons c r ih =>
    intro s
    rw [S4.puts, ih, has_put _ _ _ c.toNat_lt he, List.any_cons]
    cases decide (c.toNat = e) <;> cases r.any (fun c => decide (c.toNat = e)) <;> simp
theorem has_spanTo (a e : Nat) (he : e < 256) : ∀ n, a + n ≤ 256 → (spanTo a n).has e = (decide (a ≤ e) && decide (e < a + n)) := by
  intro n
  induction n with
  | zero => intro _; rw [spanTo, has_zero]; simp <;> omega
  | succ n ih =>
    intro h
    rw [spanTo, has_put _ _ _ (by omega) he, ih (by omega)]
    rw [Bool.eq_iff_iff]; simp; omega
theorem has_spn (a b e : Nat) (ha : a < 256) (hb : b < 256) (he : e < 256) : (spn a b).has e = (decide (a ≤ e) && decide (e ≤ b)) := by
  unfold spn
  rcases Nat.lt_or_ge b a with h | h
  · rw [show b + 1 - a = 0 by omega]; rw [spanTo, has_zero]; simp <;> omega
  · rw [has_spanTo _ _ he _ (by omega)]; rw [Bool.eq_iff_iff]; simp; omega

theorem S4.and_not (s : S4) : s.and s.not = S4.zero := S4.ext_has (fit_and _ _) fit_zero fun d _ => by rw [has_and, has_not, has_zero]; simp
theorem S4.not_not {s : S4} (h : s.fit) : s.not.not = s := S4.ext_has (fit_not _) h fun d _ => by rw [has_not, has_not]; simp
theorem S4.not_and (s t : S4) : (s.and t).not = s.not.or t.not := S4.ext_has (fit_not _) (fit_or _ _) fun d _ => by simp [has_not, has_and, has_or]
theorem S4.and_comm (s t : S4) : s.and t = t.and s := S4.ext_has (fit_and _ _) (fit_and _ _) fun d _ => by simp [has_and, Bool.and_comm]
theorem S4.or_comm (s t : S4) : s.or t = t.or s := S4.ext_has (fit_or _ _) (fit_or _ _) fun d _ => by simp [has_or, Bool.or_comm]
theorem S4.put_or {s : S4} (h : s.fit) {d : Nat} (hd : d < 256) : (S4.zero.put d).or s = s.put d := S4.ext_has (fit_or _ _) (fit_put h _) fun e he => by
  rw [has_or, has_put _ _ _ hd he, has_put _ _ _ hd he, has_zero]; simp
theorem puts_reverse (l : List UInt8) : S4.zero.puts l.reverse = S4.zero.puts l := S4.ext_has (fit_puts _ fit_zero) (fit_puts _ fit_zero) fun e he => by
  rw [has_puts _ _ he, has_puts _ _ he, List.any_reverse]

theorem cnt_and_or (p q : Nat → Bool) : ∀ n, cntTo (fun i => p i && q i) n + cntTo (fun i => p i || q i) n = cntTo p n + cntTo q n
  | 0 => rfl
  | n + 1 => by
    have ih := cnt_and_or p q n
    have hb : ∀ a b : Bool, (if (a && b) = true then 1 else 0) + (if (a || b) = true then 1 else 0) = (if a = true then 1 else 0) + (if b = true then 1 else 0) := by decide
    have := hb (p n) (q n)
    simp only [cntTo]
    omega
theorem cnt_not (p : Nat → Bool) : ∀ n, cntTo (fun i => !p i) n + cntTo p n = n
  | 0 => rfl
  | n + 1 => by
    have ih := cnt_not p n
    have hb : ∀ a : Bool, (if (!a) = true then 1 else 0) + (if a = true then 1 else 0) = 1 := by decide
    have := hb (p n)
    simp only [cntTo]
    omega
theorem len_and_or {s t : S4} (hs : s.fit) (ht : t.fit) : (s.and t).len + (s.or t).len = s.len + t.len := by
  have h1 : cntTo (s.and t).has 256 = cntTo (fun i => s.has i && t.has i) 256 := cntTo_congr fun i _ => has_and _ _ _
  have h2 : cntTo (s.or t).has 256 = cntTo (fun i => s.has i || t.has i) 256 := cntTo_congr fun i _ => has_or _ _ _
  rw [← cnt_set (fit_and s t), ← cnt_set (fit_or s t), ← cnt_set hs, ← cnt_set ht, h1, h2, cnt_and_or]
theorem len_not {s : S4} (hs : s.fit) : s.not.len + s.len = 256 := by
  have h1 : cntTo s.not.has 256 = cntTo (fun i => !s.has i) 256 := cntTo_congr fun i _ => has_not _ _
  rw [← cnt_set (fit_not s), ← cnt_set hs, h1, cnt_not]
theorem len_le {s : S4} (hs : s.fit) : s.len ≤ 256 := by have := len_not hs; omega

end Go.Proofs.YtpcpmjaphjkphaaDoor

/-
  Bracket expressions: what the document reads. Plain: no walk.
-/
namespace Go.Proofs.YtpcpmjaphjkphaaDoor
open Go.RowKit

/-- Where a sign and ] stand first, from a place on. -/
def fnd (l : List UInt8) (k : UInt8) : Nat → Nat → Option Nat
  | 0, _ => none
  | n + 1, p => if p + 1 < l.length then (if l[p]? = some k ∧ l[p + 1]? = some 93 then some p else fnd l k n (p + 1)) else none
/-- What an item has: its bytes; its one byte, if it may begin or end a range; the place behind. -/
structure It where
  set : S4
  one : Option UInt8
  next : Nat
def isKind (c : UInt8) : Bool := c == 58 || c == 61 || c == 46
def skp (k : UInt8) : Nat := if k = 58 then 0 else 1
def nam (l : List UInt8) (at_ e : Nat) : List UInt8 := (l.drop (at_ + 2)).take (e - (at_ + 2))
def itmN (l : List UInt8) (at_ : Nat) (k : UInt8) : (Int × Nat) ⊕ It :=
  match fnd l k (l.length + 1) (at_ + 2 + skp k) with
  | none => .inl (5, l.length)
  | some e =>
    if k = 58 then (match clsOf ⟨(nam l at_ e).toArray⟩ with | none => .inl (6, at_) | some p => .inr ⟨pk p 256, none, e + 2⟩)
    else (match nam l at_ e with | [b] => .inr ⟨spn b.toNat b.toNat, if k = 46 then some b else none, e + 2⟩ | _ => .inl (6, at_))
def itm (l : List UInt8) (at_ : Nat) : (Int × Nat) ⊕ It :=
  match l[at_]? with
  | none => .inl (5, l.length)
  | some c => match l[at_ + 1]? with
    | none => .inr ⟨spn c.toNat c.toNat, some c, at_ + 1⟩
    | some k => if c = 91 ∧ isKind k = true then itmN l at_ k else .inr ⟨spn c.toNat c.toNat, some c, at_ + 1⟩
def rng (l : List UInt8) (k : Nat) : Bool := decide (k + 1 < l.length) && (l[k]? == some 45) && !(l[k + 1]? == some 93)
def prt (l : List UInt8) (at_ : Nat) : (Int × Nat) ⊕ (S4 × Nat) :=
  match itm l at_ with
  | .inl e => .inl e
  | .inr x => if rng l x.next then
      (match itm l (x.next + 1) with
      | .inl e => .inl e
      | .inr y => match x.one, y.one with
        | some a, some b => if a.toNat ≤ b.toNat then .inr (spn a.toNat b.toNat, y.next) else .inl (1, at_)
        | _, _ => .inl (1, at_))
    else .inr (x.set, x.next)
def lop (l : List UInt8) : Nat → Nat → S4 → (Int × Nat) ⊕ (S4 × Nat)
  | 0, _, _ => .inl (0, 0)
  | n + 1, at_, out => if l[at_]? = some 93 then .inr (out, at_) else
    match prt l at_ with | .inl e => .inl e | .inr x => lop l n x.2 (out.or x.1)
def prs (l : List UInt8) (at_ : Nat) : (Int × Nat) ⊕ (S4 × Nat) :=
  let at' := if l[at_]? = some 94 then at_ + 1 else at_
  match prt l at' with
  | .inl e => .inl e
  | .inr x => match lop l (l.length + 1) x.2 x.1 with
    | .inl e => .inl e
    | .inr y => .inr (if l[at_]? = some 94 then y.1.not else y.1, y.2 + 1)

/-! ### Where things stand -/
theorem fnd_some {l : List UInt8} {k : UInt8} : ∀ {n p e : Nat}, fnd l k n p = some e → p ≤ e ∧ e + 1 < l.length ∧ l[e]? = some k ∧ l[e + 1]? = some 93 ∧ ∀ j, p ≤ j → j < e → ¬ (l[j]? = some k ∧ l[j + 1]? = some 93)
  | 0, p, e, h => by simp [fnd] at h
  | n + 1, p, e, h => by
    rw [fnd] at h
    split at h
    · next hl =>
      split at h
      · next hk => injection h with h; subst h; exact ⟨Nat.le_refl _, hl, hk.1, hk.2, fun j h1 h2 => by omega⟩
      · next hk =>
        obtain ⟨h1, h2, h3, h4, h5⟩ := fnd_some h
        refine ⟨by omega, h2, h3, h4, fun j hj hje => ?_⟩
        rcases Nat.eq_or_lt_of_le hj with rfl | hj
        · exact hk
        · exact h5 j hj hje
    · cases h
theorem fnd_none {l : List UInt8} {k : UInt8} : ∀ {n p : Nat}, l.length < n + p → fnd l k n p = none → ∀ j, p ≤ j → ¬ (l[j]? = some k ∧ l[j + 1]? = some 93)
  | 0, p, hn, _, j, hj => fun h => by
    have := (List.getElem?_eq_some_iff.1 h.1).1; omega
  | n + 1, p, hn, h, j, hj => by
    rw [fnd] at h
    split at h
    · split at h
      · cases h
      · next hk =>
        rcases Nat.eq_or_lt_of_le hj with rfl | hj
        · exact hk
        · exact fnd_none (by omega) h j hj
    · next hl => exact fun hc => by have := (List.getElem?_eq_some_iff.1 hc.2).1; omega
theorem occ2 (l : List UInt8) (p i : Nat) (k : UInt8) : Lib.occAt (l.drop p) [k, 93] i = true ↔ l[p + i]? = some k ∧ l[p + i + 1]? = some 93 := by
  unfold Lib.occAt
  rw [List.drop_drop]
  have e1 : l[p + i]? = (l.drop (p + i))[0]? := by simp
  have e2 : l[p + i + 1]? = (l.drop (p + i))[1]? := by simp
  rw [e1, e2]
  cases h : l.drop (p + i) with
  | nil => simp
  | cons a r =>
    cases r with
    | nil => simp
    | cons b r =>
      simp [List.isPrefixOf]
      constructor <;> (rintro ⟨h1, h2⟩; exact ⟨h1.symm, h2.symm⟩)
theorem idx_fnd (l : List UInt8) (k : UInt8) (p : Nat) (hp : p ≤ l.length) : Lib.index (l.drop p) [k, 93] = match fnd l k (l.length + 1) p with | some e => (e : Int) - p | none => -1 := by
  cases h : fnd l k (l.length + 1) p with
  | none =>
    have hn := fnd_none (by omega) h
    refine Lib.index_none fun j hj => ?_
    cases ho : Lib.occAt (l.drop p) [k, 93] j with
    | false => rfl
    | true => exact absurd ((occ2 l p j k).1 ho) (hn (p + j) (by omega))
  | some e =>
    obtain ⟨h1, h2, h3, h4, h5⟩ := fnd_some h
    have := Lib.index_first (s := l.drop p) (sub := [k, 93]) (i := e - p) (by simp; omega) ((occ2 l p (e - p) k).2 ⟨by rw [show p + (e - p) = e by omega]; exact h3, by rw [show p + (e - p) = e by omega]; exact h4⟩) (fun j hj => by
      cases ho : Lib.occAt (l.drop p) [k, 93] j with
      | false => rfl
      | true => exact absurd ((occ2 l p j k).1 ho) (h5 (p + j) (by omega) (by omega)))
    rw [this]; simp only; omega

theorem itmN_one {l : List UInt8} {a e : Nat} {k c : UInt8} (hk : k ≠ 58) (hf : fnd l k (l.length + 1) (a + 2 + 1) = some e) (hn : nam l a e = [c]) : itmN l a k = .inr ⟨spn c.toNat c.toNat, if k = 46 then some c else none, e + 2⟩ := by
  unfold itmN skp; rw [if_neg hk, hf]; simp only; rw [if_neg hk, hn]
theorem itmN_bad {l : List UInt8} {a e : Nat} {k : UInt8} (hk : k ≠ 58) (hf : fnd l k (l.length + 1) (a + 2 + 1) = some e) (hn : (nam l a e).length ≠ 1) : itmN l a k = .inl (6, a) := by
  unfold itmN skp; rw [if_neg hk, hf]; simp only; rw [if_neg hk]
  split
  · next h => rw [h] at hn; simp at hn
  · rfl
theorem itmN_cls {l : List UInt8} {a e : Nat} {p : Int → Bool} (hf : fnd l 58 (l.length + 1) (a + 2) = some e) (hn : clsOf ⟨(nam l a e).toArray⟩ = some p) : itmN l a 58 = .inr ⟨pk p 256, none, e + 2⟩ := by
  unfold itmN skp; rw [if_pos rfl, Nat.add_zero, hf]; simp only; rw [if_pos trivial, hn]
theorem itmN_clsno {l : List UInt8} {a e : Nat} (hf : fnd l 58 (l.length + 1) (a + 2) = some e) (hn : clsOf ⟨(nam l a e).toArray⟩ = none) : itmN l a 58 = .inl (6, a) := by
  unfold itmN skp; rw [if_pos rfl, Nat.add_zero, hf]; simp only; rw [if_pos trivial, hn]
theorem itmN_none {l : List UInt8} {a : Nat} {k : UInt8} (hf : fnd l k (l.length + 1) (a + 2 + skp k) = none) : itmN l a k = .inl (5, l.length) := by
  unfold itmN; rw [hf]
theorem itmN_next {l : List UInt8} {a : Nat} {k : UInt8} {x : It} (h : itmN l a k = .inr x) : a < x.next ∧ x.next ≤ l.length ∧ x.set.fit := by
  unfold itmN at h
  cases hf : fnd l k (l.length + 1) (a + 2 + skp k) with
  | none => rw [hf] at h; cases h
  | some e =>
    obtain ⟨h1, h2, _⟩ := fnd_some hf
    rw [hf] at h
    simp only at h
    split at h
    · split at h
      · cases h
      · injection h with h; subst h; exact ⟨by simp only; omega, by simp only; omega, fit_pk _ _⟩
    · split at h
      · injection h with h; subst h; exact ⟨by simp only; omega, by simp only; omega, fit_spn _ _⟩
      · cases h
theorem itm_next {l : List UInt8} {a : Nat} {x : It} (h : itm l a = .inr x) : a < x.next ∧ x.next ≤ l.length ∧ x.set.fit := by
  unfold itm at h
  split at h
  · cases h
  · next c hc =>
    have hl := (List.getElem?_eq_some_iff.1 hc).1
    split at h
    · injection h with h; subst h; exact ⟨Nat.lt_succ_self _, hl, fit_spn _ _⟩
    · split at h
      · exact itmN_next h
      · injection h with h; subst h; exact ⟨Nat.lt_succ_self _, hl, fit_spn _ _⟩
theorem itm_one {l : List UInt8} {a : Nat} {x : It} {c : UInt8} (h : itm l a = .inr x) (ho : x.one = some c) : x.set = spn c.toNat c.toNat := by
  unfold itm at h
  split at h
  · cases h
  · split at h
    · injection h with h; subst h; injection ho with ho; subst ho; rfl
    · split at h
      · unfold itmN at h
        split at h
        · cases h
        · split at h
          · split at h
            · cases h
            · injection h with h; subst h; cases ho
          · split at h
            · injection h with h; subst h
              simp only at ho
              split at ho
              · injection ho with ho; subst ho; rfl
              · cases ho
            · cases h
      · injection h with h; subst h; injection ho with ho; subst ho; rfl
theorem prt_next {l : List UInt8} {a : Nat} {x : S4 × Nat} (h : prt l a = .inr x) : a < x.2 ∧ x.2 ≤ l.length ∧ x.1.fit := by
  unfold prt at h
  split at h
  · cases h
  · next y hy =>
    have h1 := itm_next hy
    split at h
    · split at h
      · cases h
      · next z hz =>
        have h2 := itm_next hz
        split at h
        · split at h
          · injection h with h; subst h; exact ⟨by simp only; omega, h2.2.1, fit_spn _ _⟩
          · cases h
        · cases h
    · injection h with h; subst h; exact h1
theorem lop_next {l : List UInt8} : ∀ {n a : Nat} {o : S4} {x : S4 × Nat}, o.fit → lop l n a o = .inr x → a ≤ x.2 ∧ x.2 < l.length ∧ x.1.fit
  | 0, a, o, x, ho, h => by simp [lop] at h
  | n + 1, a, o, x, ho, h => by
    rw [lop] at h
    split at h
    · next hc => injection h with h; subst h; exact ⟨Nat.le_refl _, (List.getElem?_eq_some_iff.1 hc).1, ho⟩
    · split at h
      · cases h
      · next y hy =>
        have h1 := prt_next hy
        have h2 := lop_next (fit_or _ _) h
        exact ⟨by omega, h2.2⟩
theorem zero_or {s : S4} (h : s.fit) : S4.zero.or s = s := S4.ext_has (fit_or _ _) h fun e _ => by rw [has_or, has_zero]; rfl

end Go.Proofs.YtpcpmjaphjkphaaDoor

/-
  Walks: TrailingZeros64 (its table as start-up lays it), Least.
-/
namespace Go.Proofs.YtpcpmjaphjkphaaDoor
open Go.RowKit

/-- The table of math/bits lies in its variable. -/
def Tab (w : World) : Prop := ∀ j, j < 64 → w.cell? ⟨0, j, none⟩ = some (.int .u8 (Lib.deBruijn64tab.getD j 0 : Nat))
theorem Tab.on {w w' : World} (h : Tab w) (f : Fr nob w w') : Tab w' := fun j hj => f.cell (h j hj) (fun x => x)

theorem Tab.on2 {w w' : World} {S : Nat → Prop} (h : Tab w) (f : Fr S w w') (hn : ¬ S 0) : Tab w' := fun j hj => f.cell (h j hj) hn
theorem Tab.lt {w : World} (h : Tab w) : 0 < w.heap.size := World.block_lt_of_cell? w _ (h 0 (by decide))
theorem tz_key (x a : Nat) (hx : x < 18446744073709551616) (hx0 : x ≠ 0) (hlow : x &&& (18446744073709551616 - x) = a) :
    IntKind.u64.wrap (bits .and .u64 (x : Int) (IntKind.u64.wrap (-(x : Int))) * 285870213051353865) / 288230376151711744 = ((a * 285870213051353865 % 18446744073709551616 / 288230376151711744 : Nat) : Int) := by
  have e1 : IntKind.u64.wrap (-(x : Int)) = ((18446744073709551616 - x : Nat) : Int) := by rw [IntKind.wrap_u64]; omega
  rw [e1, bits_and_u64_nat x _ hx (by omega), hlow, IntKind.wrap_u64]
  omega

set_option maxRecDepth 100000 in
set_option maxHeartbeats 1000000 in
theorem tz_any (x : Nat) (hx : x < 18446744073709551616) (hx0 : x ≠ 0) (w : World) (hT : Tab w) :
    Calls Tryd.prog 96 #[.int .u64 x] w fun e w' => e = .returned (.int .i64 (Lib.ctz 64 x)) ∧ w = w' := by
  obtain ⟨hlow, hk⟩ := Lib.lowest_bit 64 x hx0 hx
  obtain ⟨hi, htab⟩ := Lib.deBruijn64_at _ hk
  have key := tz_key x _ hx hx0 hlow
  have hcell := hT _ hi
  rw [htab] at hcell
  obtain ⟨k, hkk⟩ : ∃ k, Lib.ctz 64 x = k := ⟨_, rfl⟩
  rw [hkk] at hcell hk key hi ⊢
  obtain ⟨idx, hidx⟩ : ∃ i, 2 ^ k * 285870213051353865 % 18446744073709551616 / 288230376151711744 = i := ⟨_, rfl⟩
  rw [hidx] at hcell key hi
  have h0 : ((x : Int) == 0) = false := by simp; omega
  have KEY := Lib.hid key
  clear hlow htab hkk hidx hx hx0 hT key
  go_enter Tryd.func96, Tryd.ntmps96
  go_wp2_with (simp only [KEY.out])
  go_ret
  exact ⟨rfl, rfl⟩

theorem ctz_lt {x : Nat} (hx0 : x ≠ 0) (hx : x < 18446744073709551616) : Lib.ctz 64 x < 64 := (Lib.lowest_bit 64 x hx0 hx).2
theorem ctz_bits {x : Nat} (hx0 : x ≠ 0) (hx : x < 18446744073709551616) : x.testBit (Lib.ctz 64 x) = true ∧ ∀ i, i < Lib.ctz 64 x → x.testBit i = false := by
  unfold Lib.ctz
  rw [if_neg hx0]
  obtain ⟨m, hm, _⟩ := Lib.ctzFrom_spec 64 x (by omega) hx
  generalize Lib.ctzFrom 64 x = k at *
  subst hm
  constructor
  · rw [Nat.testBit_eq_decide_div_mod_eq, Nat.mul_div_cancel_left _ (Nat.two_pow_pos k)]; simp
  · intro i hi
    rw [Nat.testBit_eq_decide_div_mod_eq]
    obtain ⟨d, rfl⟩ : ∃ d, k = i + (d + 1) := ⟨k - i - 1, by omega⟩
    rw [Nat.pow_add, Nat.mul_assoc, Nat.mul_div_cancel_left _ (Nat.two_pow_pos i), Nat.pow_succ]
    simp
    rw [Nat.mul_assoc, Nat.mul_comm, Nat.mul_assoc]
    omega

/-- The least byte that a set has; whether it has one. -/
def LeastIs (s : S4) (d : Nat) (b : Bool) : Prop := (b = false ∧ d = 0 ∧ s = S4.zero) ∨ (b = true ∧ d < 256 ∧ s.has d = true ∧ ∀ e, e < d → s.has e = false)

theorem LeastIs.uniq {s : S4} {d d' : Nat} {b b' : Bool} (h : LeastIs s d b) (h' : LeastIs s d' b') : d = d' ∧ b = b' := by
  rcases h with ⟨rfl, rfl, rfl⟩ | ⟨rfl, h1, h2, h3⟩ <;> rcases h' with ⟨rfl, rfl, h'⟩ | ⟨rfl, h1', h2', h3'⟩
  · exact ⟨rfl, rfl⟩
  · rw [has_zero] at h2'; cases h2'
  · subst h'; rw [has_zero] at h2; cases h2
  · refine ⟨?_, rfl⟩
    rcases Nat.lt_trichotomy d d' with h | h | h
    · rw [h3' d h] at h2; cases h2
    · exact h
    · rw [h3 d' h] at h2'; cases h2'

theorem word_bit {x : Int} (h : Fit x) (i : Nat) : (wd x).getLsbD i = x.toNat.testBit i := by
  have := wd_val h
  have e : (wd x).toNat = x.toNat := by omega
  rw [BitVec.getLsbD, e]
theorem S4.has_word {s : S4} (hs : s.fit) (q i : Nat) (hq : q < 4) (hi : i < 64) : s.has (64 * q + i) = (s.word (64 * q)).toNat.testBit i := by
  unfold S4.has
  have hw : s.word (64 * q + i) = s.word (64 * q) := by unfold S4.word; rw [show (64 * q + i) / 64 = 64 * q / 64 by omega]
  have hf : Fit (s.word (64 * q)) := by unfold S4.word; split; exact hs.1; exact hs.2.1; exact hs.2.2.1; exact hs.2.2.2
  rw [hw, word_bit hf, show (64 * q + i) % 64 = i by omega]
/-- The first q words are nought. -/
def S4.noughts (s : S4) (q : Nat) : Prop := ∀ r, r < q → s.word (64 * r) = 0
theorem least_hit {s : S4} (hs : s.fit) {q : Nat} (hq : q < 4) (h0 : s.noughts q) (x : Nat) (hx : s.word (64 * q) = (x : Int)) (hx0 : x ≠ 0) : LeastIs s (64 * q + Lib.ctz 64 x) true := by
  have hf : Fit (s.word (64 * q)) := by unfold S4.word; split; exact hs.1; exact hs.2.1; exact hs.2.2.1; exact hs.2.2.2
  have hlt : x < 18446744073709551616 := by have := hf.2; omega
  have hc := ctz_lt hx0 hlt
  obtain ⟨b1, b2⟩ := ctz_bits hx0 hlt
  refine .inr ⟨rfl, by omega, ?_, ?_⟩
  · rw [S4.has_word hs q _ hq hc, hx]; exact b1
  · intro e he
    have hd : e = 64 * (e / 64) + e % 64 := by omega
    have hm : e % 64 < 64 := Nat.mod_lt _ (by decide)
    rw [hd, S4.has_word hs _ _ (by omega) hm]
    rcases Nat.lt_or_ge (e / 64) q with h | h
    · rw [h0 _ h]; simp
    · have : e / 64 = q := by omega
      rw [this, hx]; exact b2 _ (by omega)
theorem least_none {s : S4} (h0 : s.noughts 4) : LeastIs s 0 false := by
  refine .inl ⟨rfl, rfl, ?_⟩
  obtain ⟨a, b, c, d⟩ := s
  have e0 := h0 0 (by decide); have e1 := h0 1 (by decide); have e2 := h0 2 (by decide); have e3 := h0 3 (by decide)
  simp [S4.word] at e0 e1 e2 e3
  subst e0; subst e1; subst e2; subst e3; rfl

theorem idxSet0 (a b c d : Value) (w : World) : (Instr.index 37 (.agg #[a, b, c, d]) (.int .i64 0)).run Tryd.prog w = .ok a w := by kernel_rfl
theorem idxSet1 (a b c d : Value) (w : World) : (Instr.index 37 (.agg #[a, b, c, d]) (.int .i64 1)).run Tryd.prog w = .ok b w := by kernel_rfl
theorem idxSet2 (a b c d : Value) (w : World) : (Instr.index 37 (.agg #[a, b, c, d]) (.int .i64 2)).run Tryd.prog w = .ok c w := by kernel_rfl
theorem idxSet3 (a b c d : Value) (w : World) : (Instr.index 37 (.agg #[a, b, c, d]) (.int .i64 3)).run Tryd.prog w = .ok d w := by kernel_rfl

def LeastV (s : S4) (w : World) (e : Ending) (w' : World) : Prop := ∃ (d : Nat) (b : Bool), e = .returned (.tuple #[.int .u8 d, .bool b]) ∧ LeastIs s d b ∧ Fr nob w w'

set_option maxRecDepth 100000 in
set_option maxHeartbeats 1000000 in
theorem least_any (s : S4) (w : World) (hs : s.fit) (hT : Tab w) :
    Calls Tryd.prog 94 #[.agg #[.int .u64 s.a, .int .u64 s.b, .int .u64 s.c, .int .u64 s.d]] w (LeastV s w) := by
  obtain ⟨s0, s1, s2, s3⟩ := s
  obtain ⟨x0, rfl⟩ : ∃ x : Nat, s0 = (x : Int) := ⟨s0.toNat, by have := hs.1.1; simp only at this; omega⟩
  obtain ⟨x1, rfl⟩ : ∃ x : Nat, s1 = (x : Int) := ⟨s1.toNat, by have := hs.2.1.1; simp only at this; omega⟩
  obtain ⟨x2, rfl⟩ : ∃ x : Nat, s2 = (x : Int) := ⟨s2.toNat, by have := hs.2.2.1.1; simp only at this; omega⟩
  obtain ⟨x3, rfl⟩ : ∃ x : Nat, s3 = (x : Int) := ⟨s3.toNat, by have := hs.2.2.2.1; simp only at this; omega⟩
  have b0 : x0 < 18446744073709551616 := by have := hs.1.2; simp only at this; omega
  have b1 : x1 < 18446744073709551616 := by have := hs.2.1.2; simp only at this; omega
  have b2 : x2 < 18446744073709551616 := by have := hs.2.2.1.2; simp only at this; omega
  have b3 : x3 < 18446744073709551616 := by have := hs.2.2.2.2; simp only at this; omega
  have B0 := Lib.hid b0; have B1 := Lib.hid b1; have B2 := Lib.hid b2; have B3 := Lib.hid b3
  clear b0 b1 b2 b3
  have HS := Lib.hid hs
  have i0 := idxSet0; have i1 := idxSet1; have i2 := idxSet2; have i3 := idxSet3
  have HT := Lib.hid (hT.on ((Fr.refl nob w).alloc (.cells #[.int .u64 x0, .int .u64 x1, .int .u64 x2, .int .u64 x3] 37)))
  clear hT hs
  go_enter Tryd.func94, Tryd.ntmps94
  go_wp2_with fail
  go_loop [7] (fun i => ∃ k : Nat, i = .int .i64 k ∧ k ≤ 4 ∧ (S4.mk (x0 : Int) x1 x2 x3).noughts k) (fun i => 4 - (intOf i).toNat)
  case atStart => exact ⟨0, rfl, by omega, fun r hr => by omega⟩
  case round =>
    obtain ⟨k, rfl, hk, h0⟩ := hrel
    have H0 := Lib.hid h0; clear h0
    have hkk : k = 0 ∨ k = 1 ∨ k = 2 ∨ k = 3 ∨ k = 4 := by omega
    rcases hkk with rfl | rfl | rfl | rfl | rfl
    · by_cases hx0 : x0 = 0
      · have HN := Lib.hid (show (S4.mk (x0 : Int) x1 x2 x3).noughts 1 from fun r hr => by
          rcases Nat.lt_or_ge r 0 with h | h
          · exact H0.out r h
          · obtain rfl : r = 0 := by omega
            show (x0 : Int) = 0
            omega)
        have t0 : ((x0 : Int) != 0) = false := by simp; omega
        clear hx0
        go_wp2
        go_round
        case rel => exact ⟨1, by go_num, by omega, HN.out⟩
        case measure => simp [intOf]
      · have t0 : ((x0 : Int) != 0) = true := by simp; omega
        have HL := Lib.hid (least_hit HS.out (q := 0) (by decide) H0.out x0 rfl hx0)
        have hc := ctz_lt hx0 B0.out
        have hT := HT.out
        go_wp2_with fail
        refine (tz_any x0 B0.out hx0 _ hT).mono ?_
        rintro e w' ⟨rfl, rfl⟩
        go_wp2
        go_ret2
        exact ⟨_, true, by simp, HL.out, (Fr.refl _ _).alloc _⟩
    · by_cases hx0 : x1 = 0
      · have HN := Lib.hid (show (S4.mk (x0 : Int) x1 x2 x3).noughts 2 from fun r hr => by
          rcases Nat.lt_or_ge r 1 with h | h
          · exact H0.out r h
          · obtain rfl : r = 1 := by omega
            show (x1 : Int) = 0
            omega)
        have t0 : ((x1 : Int) != 0) = false := by simp; omega
        clear hx0
        go_wp2
        go_round
        case rel => exact ⟨2, by go_num, by omega, HN.out⟩
        case measure => simp [intOf]
      · have t0 : ((x1 : Int) != 0) = true := by simp; omega
        have HL := Lib.hid (least_hit HS.out (q := 1) (by decide) H0.out x1 rfl hx0)
        have hc := ctz_lt hx0 B1.out
        have hT := HT.out
        go_wp2_with fail
        refine (tz_any x1 B1.out hx0 _ hT).mono ?_
        rintro e w' ⟨rfl, rfl⟩
        go_wp2
        go_ret2
        exact ⟨_, true, by simp, HL.out, (Fr.refl _ _).alloc _⟩
    · by_cases hx0 : x2 = 0
      · have HN := Lib.hid (show (S4.mk (x0 : Int) x1 x2 x3).noughts 3 from fun r hr => by
          rcases Nat.lt_or_ge r 2 with h | h
          · exact H0.out r h
          · obtain rfl : r = 2 := by omega
            show (x2 : Int) = 0
            omega)
        have t0 : ((x2 : Int) != 0) = false := by simp; omega
        clear hx0
        go_wp2
        go_round
        case rel => exact ⟨3, by go_num, by omega, HN.out⟩
        case measure => simp [intOf]
      · have t0 : ((x2 : Int) != 0) = true := by simp; omega
        have HL := Lib.hid (least_hit HS.out (q := 2) (by decide) H0.out x2 rfl hx0)
        have hc := ctz_lt hx0 B2.out
        have hT := HT.out
        go_wp2_with fail
        refine (tz_any x2 B2.out hx0 _ hT).mono ?_
        rintro e w' ⟨rfl, rfl⟩
        go_wp2
        go_ret2
        exact ⟨_, true, by simp, HL.out, (Fr.refl _ _).alloc _⟩
    · by_cases hx0 : x3 = 0
      · have HN := Lib.hid (show (S4.mk (x0 : Int) x1 x2 x3).noughts 4 from fun r hr => by
          rcases Nat.lt_or_ge r 3 with h | h
          · exact H0.out r h
          · obtain rfl : r = 3 := by omega
            show (x3 : Int) = 0
            omega)
        have t0 : ((x3 : Int) != 0) = false := by simp; omega
        clear hx0
        go_wp2
        go_round
        case rel => exact ⟨4, by go_num, by omega, HN.out⟩
        case measure => simp [intOf]
      · have t0 : ((x3 : Int) != 0) = true := by simp; omega
        have HL := Lib.hid (least_hit HS.out (q := 3) (by decide) H0.out x3 rfl hx0)
        have hc := ctz_lt hx0 B3.out
        have hT := HT.out
        go_wp2_with fail
        refine (tz_any x3 B3.out hx0 _ hT).mono ?_
        rintro e w' ⟨rfl, rfl⟩
        go_wp2
        go_ret2
        exact ⟨_, true, by simp, HL.out, (Fr.refl _ _).alloc _⟩
    · go_wp2
      go_ret2
      exact ⟨0, false, rfl, least_none H0.out, (Fr.refl _ _).alloc _⟩

end Go.Proofs.YtpcpmjaphjkphaaDoor

/-
  A region that draws its order: reads and calls that leave old memory alone stand ahead, one forced order behind: one walk, in the order of the text.
-/
namespace Go.Proofs.YtpcpmjaphjkphaaDoor
open Go.RowKit Go.Sort

section
variable {P : Program} {ops : Array Oper} {md : Region.Mode} {C : World → Prop}

/-- f operations are still to come up ahead of number n, each quiet in the class; then L. -/
def headQ (P : Program) (md : Region.Mode) (ops : Array Oper) (C : World → Prop) (n : Nat) (L : Array Bool → Act → Prop) : Nat → Array Bool → Act → Prop
  | 0, listed, a => L listed a
  | f + 1, listed, a => Region.ready md ops listed ≠ [] ∧ ∀ i, i ∈ Region.ready md ops listed → i < n ∧ qOp P ops C i (headQ P md ops C n L f (listed.setIfInBounds i true)) a

theorem headQ_any {n g : Nat} {L : Array Bool → Act → Prop} {R : Exit → Act → World → Prop} (hL : ∀ listed a w, C w → L listed a → wpAny P md ops R g listed a w) (f : Nat) :
    ∀ (listed : Array Bool) (a : Act) (w : World), C w → headQ P md ops C n L f listed a → wpAny P md ops R (f + g) listed a w := by
  induction f with
  | zero => intro listed a w hw h; rw [Nat.zero_add]; exact hL _ _ _ hw h
  | succ f ih =>
    intro listed a w hw h
    rw [Nat.succ_add]
    exact ⟨fun e => (h.1 e).elim, fun i hi => wpOp_of_qOp hw (fun a' w' hw' => ih _ a' w' hw') (h.2 i hi).2⟩

theorem headQ_take {n i : Nat} {oi : Oper} {v : Value} {L : Array Bool → Act → Prop} (hi : ops[i]? = some oi) (hsel : ∀ (j : Nat) (o : Oper) cs b, ops[j]? = some o → o.op ≠ .select cs b)
    (hs : Region.sinkB md ops n = true) (hc : Region.chainB md ops n = true) (hn : n < ops.size) (hin : i < n)
    (hdone : ∀ listed a, L listed a → ∀ j ∈ Region.ready md ops listed, n ≤ j) (f : Nat) :
    ∀ (listed : Array Bool) (a : Act), HeadInv md ops n listed →
      (∀ j oj, ops[j]? = some oj → j ≠ i → listed.getD j true = false → (∀ e ∈ oj.after, Region.binds md e = true → e.on ≠ i) → oi.apart ops oj = true) →
      i ∈ Region.ready md ops listed → YieldsIn P ops C oi v a →
      headQ P md ops C n L f (listed.setIfInBounds i true) (a.put oi.dst v) → headQ P md ops C n L (f + 1) listed a := by
  have small : ∀ (listed : Array Bool), HeadInv md ops n listed → i ∈ Region.ready md ops listed → ∀ j ∈ Region.ready md ops listed, j < n := fun listed inv hr j hj =>
    Nat.lt_of_not_le fun h => tail_waits hs hc hn inv _ i rfl hin (mem_ready.1 hr).1 j h hj
  induction f with
  | zero =>
    intro listed a inv _ hr hy H
    refine ⟨List.ne_nil_of_mem hr, fun j hj => ⟨small _ inv hr j hj, ?_⟩⟩
    rcases Decidable.em (j = i) with rfl | hji
    · exact hy.qOp hi H
    · exact absurd (hdone _ _ H j (ready_mono hj hji)) (Nat.not_le.2 (small _ inv hr j hj))
  | succ f ih =>
    intro listed a inv hfree hr hy H
    refine ⟨List.ne_nil_of_mem hr, fun j hj => ⟨small _ inv hr j hj, ?_⟩⟩
    rcases Decidable.em (j = i) with rfl | hji
    · exact hy.qOp hi H
    · obtain ⟨hun, oj, hoj, hall⟩ := mem_ready.1 hj
      have hno : ∀ e ∈ oj.after, Region.binds md e = true → e.on ≠ i := by
        intro e he hb h
        have := hall e he hb
        rw [h, getD_both (mem_ready.1 hr).1] at this
        exact Bool.noConfusion this
      refine qOp_mono (fun a' h => ih _ a' (inv.set hj (small _ inv hr j hj)) ?_ (ready_mono hr (Ne.symm hji)) h.1 ?_) (qOp_put hoj (hfree j oj hoj hji hun hno) (fun cs b => hsel i oi cs b hi) (fun cs b => hsel j oj cs b hoj) hy (H.2 j (ready_mono hj hji)).2)
      · intro k ok hk hki hku hkn
        refine hfree k ok hk hki ?_ hkn
        rcases Decidable.em (j = k) with rfl | hjk
        · exact hun
        · rwa [getD_set_ne true hjk] at hku
      · rw [Array.setIfInBounds_comm _ _ hji]; exact h.2

theorem headQ_lex {n g : Nat} {K : Act → Prop} (hsel : Region.noSelect ops = true) (hs : Region.sinkB md ops n = true) (hc : Region.chainB md ops n = true) (hn : n < ops.size) (l : List Oper) :
    ∀ (k : Nat) (listed : Array Bool) (a : Act), (∀ j, j < l.length → l[j]? = ops[k + j]?) → k + l.length = n → HeadInv md ops n listed →
    Region.lexHead md ops g l.length k listed = true → wpQuiet P ops C K l a →
    headQ P md ops C n (fun listed' a' => Region.seqB md ops g n listed' = true ∧ K a') l.length listed a := by
  induction l with
  | nil =>
    intro k listed a _ hk _ hB h
    obtain rfl : k = n := hk
    exact ⟨hB, h⟩
  | cons o l ih =>
    intro k listed a hl hk inv hB h
    have hk' : k + (l.length + 1) = n := hk
    have h0 : ops[k]? = some o := (hl 0 (Nat.succ_pos _)).symm
    have hB2 : ((Region.ready md ops listed).contains k && Region.free md ops listed k && Region.lexHead md ops g l.length (k + 1) (listed.setIfInBounds k true)) = true := hB
    rw [Bool.and_eq_true, Bool.and_eq_true] at hB2
    have hr : k ∈ Region.ready md ops listed := by simpa using hB2.1.1
    have hq : qOp P ops C k (wpQuiet P ops C K l) a := by unfold qOp; rw [h0]; exact h
    obtain ⟨v, hy, hK⟩ := yieldsIn_of_qOp h0 hq
    refine headQ_take h0 (Region.noSelect_spec hsel) hs hc hn (by omega) (fun _ _ hL => seqB_ready hL.1) _ _ _ inv (Region.free_spec h0 hB2.1.2) hr hy ?_
    refine ih (k + 1) _ _ (fun j hj => ?_) (by omega) (inv.set hr (by omega)) hB2.2 hK
    have := hl (j + 1) (Nat.succ_lt_succ hj)
    rwa [List.getElem?_cons_succ, show k + (j + 1) = k + 1 + j by omega] at this

theorem region_tail {id : Nat} {Q : Exit → Act → World → Prop} {a : Act} {w : World} {l : List Oper} (n : Nat) (hm : P.follows .mixedOrders = true) (hB : Region.lexTailB .any l.toArray n = true) (hC : C { w with drawn := w.drawn + 1 })
    (h : wpQuiet P l.toArray C (fun a' => ∀ w', C w' → wpList P l.toArray Q (l.drop n) a' w') (l.take n) a) : (Code.region id l.toArray true).wp P Q a w := by
  unfold Region.lexTailB at hB
  simp only [Bool.and_eq_true, decide_eq_true_eq] at hB
  obtain ⟨⟨⟨⟨hsel, hn⟩, hs⟩, hc⟩, hlex⟩ := hB
  have hn' : n < l.length := by simpa using hn
  have e1 : (l.take n).length = n := by rw [List.length_take]; omega
  have e2 : (l.drop n).length = l.toArray.size - n := by simp
  have inv : HeadInv .any l.toArray n (Array.replicate l.toArray.size false) :=
    { size := by simp, closed := fun j oj _ e => (by rw [getD_replicate_false] at e; exact Bool.noConfusion e), tail := fun t _ ht => getD_in (by simpa using ht) (getD_replicate_false _ _) }
  have H := headQ_lex (md := .any) (g := l.toArray.size - n) hsel hs hc hn (l.take n) 0 _ a (fun j hj => by rw [e1] at hj; simp [hj]) (by rw [e1, Nat.zero_add]) inv (by rw [e1]; exact hlex) h
  refine wp_region_any hm ?_
  have H2 := headQ_any (R := Q) (g := l.toArray.size - n) (fun listed a' w' hw' hL => by
    have := wpAny_of_seq (md := .any) (Q' := Q) (l.drop n) n listed a' w' (fun j => by simp [List.getElem?_drop]) (by rw [e2]; exact hL.1) (hL.2 w' hw')
    rwa [e2] at this) _ _ _ { w with drawn := w.drawn + 1 } hC H
  rwa [e1, Nat.add_sub_cancel' (Nat.le_of_lt hn)] at H2

/-- The class: old memory is as it was. -/
def Kept (w : World) : World → Prop := fun w' => ∃ p : Regrown, w' = grow (redrawn w p.d) p.os

theorem kept_fr {w w' : World} (h : Kept w w') : Fr nob w w' := by
  obtain ⟨p, rfl⟩ := h; exact Fr.ofBelow (below_regrown _ _ _)
theorem fr_kept {w w' : World} (h : Fr nob w w') : Kept w w' := regrown_of_below h.below

/-- n operations that read, or call what leaves old memory alone; then the others, in their order. -/
theorem region_fr {id : Nat} {Q : Exit → Act → World → Prop} {a : Act} {w : World} {l : List Oper} (n : Nat) (hm : P.follows .mixedOrders = true) (hB : Region.lexTailB .any l.toArray n = true)
    (h : wpQuiet P l.toArray (fun w' => ∃ p : Regrown, w' = grow (redrawn w p.d) p.os) (fun a' => ∀ w', Fr nob w w' → wpList P l.toArray Q (l.drop n) a' w') (l.take n) a) : (Code.region id l.toArray true).wp P Q a w :=
  region_tail (C := fun w' => ∃ p : Regrown, w' = grow (redrawn w p.d) p.os) n hm hB (fr_kept (Fr.drew (Fr.refl _ w))) (by
    have : (fun a' => ∀ w', (∃ p : Regrown, w' = grow (redrawn w p.d) p.os) → wpList P l.toArray Q (l.drop n) a' w') = (fun a' => ∀ w', Fr nob w w' → wpList P l.toArray Q (l.drop n) a' w') := by
      funext a'; exact propext ⟨fun h w' f => h w' (fr_kept f), fun h w' f => h w' (kept_fr f)⟩
    rw [this]; exact h)

/-- All its operations are such. -/
theorem region_fr_all {id : Nat} {Q : Exit → Act → World → Prop} {a : Act} {w : World} {l : List Oper} (hm : P.follows .mixedOrders = true) (hB : Region.lexB .any l.toArray = true)
    (h : wpQuiet P l.toArray (fun w' => ∃ p : Regrown, w' = grow (redrawn w p.d) p.os) (fun a' => ∀ w', Fr nob w w' → Q .normal a' w') l a) : (Code.region id l.toArray true).wp P Q a w :=
  wp_region_quiet (C := fun w' => ∃ p : Regrown, w' = grow (redrawn w p.d) p.os) hm hB (fr_kept (Fr.drew (Fr.refl _ w))) (by
    have : (fun a' => ∀ w', (∃ p : Regrown, w' = grow (redrawn w p.d) p.os) → Q .normal a' w') = (fun a' => ∀ w', Fr nob w w' → Q .normal a' w') := by
      funext a'; exact propext ⟨fun h w' f => h w' (fr_kept f), fun h w' f => h w' (kept_fr f)⟩
    rw [this]; simpa using h)

/-- An old cell, in every world of the class. -/
theorem cell_kept {w : World} {b o : Nat} {e : Option Nat} (hb : b < w.heap.size) (d : Nat) (os : Array Obj) : (grow (redrawn w d) os).cell? ⟨b, o, e⟩ = w.cell? ⟨b, o, e⟩ :=
  (below_regrown w d os).cell (p := ⟨b, o, e⟩) hb
theorem cell_keptv {w : World} {p : Addr} {v : Value} (h : w.cell? p = some v) : ∀ d os, (grow (redrawn w d) os).cell? p = some v := fun d os => cell_regrown h d os

/-- A contract that leaves old memory alone, met in a world of the class. -/
theorem calls_fr {f : FuncId} {args : Array Value} {w : World} {d : Nat} {os : Array Obj} {v : Value}
    (h : Calls P f args (grow (redrawn w d) os) fun e w' => e = .returned v ∧ Fr nob (grow (redrawn w d) os) w') : Calls P f args (grow (redrawn w d) os) fun e w'' => e = .returned v ∧ ∃ p : Regrown, w'' = grow (redrawn w p.d) p.os :=
  h.mono fun _ _ ⟨he, hb⟩ => ⟨he, fr_kept ((Fr.ofBelow (below_regrown w d os)).trans' hb)⟩
/-- .. that changes nothing. -/
theorem calls_same {f : FuncId} {args : Array Value} {w : World} {d : Nat} {os : Array Obj} {v : Value}
    (h : Calls P f args (grow (redrawn w d) os) fun e w' => e = .returned v ∧ grow (redrawn w d) os = w') : Calls P f args (grow (redrawn w d) os) fun e w'' => e = .returned v ∧ ∃ p : Regrown, w'' = grow (redrawn w p.d) p.os :=
  h.mono fun _ _ ⟨he, hb⟩ => ⟨he, ⟨⟨d, os⟩, hb.symm⟩⟩
theorem newAt (w : World) (A : Obj) : (w.alloc A).heap[w.heap.size]? = some A := by unfold World.alloc; exact Array.getElem?_push_size
theorem two_new_a (w : World) (A B : Obj) : ((w.alloc A).alloc B).drew.heap[w.heap.size]? = some A := heap_alloc_lt _ (newAt w A)
theorem two_new_b (w : World) (A B : Obj) : ((w.alloc A).alloc B).drew.heap[w.heap.size + 1]? = some B := by
  have h := newAt (w.alloc A) B
  have e : (w.alloc A).heap.size = w.heap.size + 1 := by simp
  rw [e] at h; exact h

/-! Facts on old cells as rules: '∀ w', Fr nob W w' → w'.cell? p = some v' serves in whatever world the walk comes to. -/
theorem fr_drew_iff (a w : World) : Fr nob a w.drew = Fr nob a w := propext ⟨Fr.undrew, Fr.drew⟩
theorem fr_drewN_iff (a w : World) (n : Nat) : Fr nob a (w.drewN n) = Fr nob a w := propext ⟨fun h => ⟨h.os, h.tape, h.output, h.size, h.block⟩, fun h => h.drewN n⟩
theorem fr_grow_of {a w : World} (h : Fr nob a w) (d : Nat) (os : Array Obj) : Fr nob a (grow (redrawn w d) os) := h.trans' (Fr.ofBelow (below_regrown w d os))
theorem cellRule {w : World} {p : Addr} {v : Value} (h : w.cell? p = some v) : ∀ w', Fr nob w w' → w'.cell? p = some v := fun _ f => f.cell h (fun x => x)
theorem rule4 {w : World} {b : Nat} {v0 v1 v2 v3 : Value} {T : TypeId} (h : w.heap[b]? = some (.cells #[v0, v1, v2, v3] T (0, 0))) : ∀ w', Fr nob w w' →
    (w'.cell? ⟨b, 0, none⟩ = some v0 ∧ w'.cell? ⟨b, 1, none⟩ = some v1 ∧ w'.cell? ⟨b, 2, none⟩ = some v2 ∧ w'.cell? ⟨b, 3, none⟩ = some v3) ∧
    (w'.frozen? ⟨b, 0, none⟩ = false ∧ w'.frozen? ⟨b, 1, none⟩ = false ∧ w'.frozen? ⟨b, 2, none⟩ = false ∧ w'.frozen? ⟨b, 3, none⟩ = false) := fun _ f => by
  have h' := f.heap h (fun x => x)
  exact ⟨⟨cell_at h' rfl, cell_at h' rfl, cell_at h' rfl, cell_at h' rfl⟩, unfrozen_at h' _, unfrozen_at h' _, unfrozen_at h' _, unfrozen_at h' _⟩
attribute [go_sem] Fr.refl fr_drew_iff fr_drewN_iff fr_grow_of Fr.alloc
theorem grown_fr (w : World) (d : Nat) (os : Array Obj) : Fr nob w (grow (redrawn w d) os) := Fr.ofBelow (below_regrown w d os)
end

end Go.Proofs.YtpcpmjaphjkphaaDoor
