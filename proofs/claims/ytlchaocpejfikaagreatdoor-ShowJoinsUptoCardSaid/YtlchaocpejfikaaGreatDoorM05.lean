/-
  Merged texts of this claim: OctetH, OctetI, SetLaw, Least, OctetS.
-/
import Derived.Laws.Bits64b
import Derived.Lib.TrailingZeros
import Derived.Test.YtlchaocpejfikaaGreatDoorM04

/-
  Walks: pick, the set of the signs that a predicate takes.
-/
namespace Go.Proofs.YtlchaocpejfikaaGreatDoor
open Go.RowKit

/-- The set of the signs below k that p takes. -/
def pk (p : Int → Bool) : Nat → S4
  | 0 => S4.zero
  | k + 1 => if p k then (pk p k).put k else pk p k

set_option maxRecDepth 100000 in
set_option maxHeartbeats 1000000 in
theorem pick_any (f : FuncId) (p : Int → Bool) (w : World) (hn : IsFn f) (hf : IsRune f p) :
    Calls Tryz.prog 120 #[.func (.func f) #[] #[]] w fun e w' => e = .returned (.agg (pk p 256).cells.toArray) ∧ Fr nob w w' := by
  go_enter Tryz.func120, Tryz.ntmps120
  go_wp2_with fail
  obtain ⟨w0, hw0⟩ : ∃ w0, w0 = ((w.alloc (.cells S4.zero.cells.toArray 27)).alloc (.cells S4.zero.cells.toArray 27)) := ⟨_, rfl⟩
  have f0 : Fr nob w w0 := by rw [hw0]; exact ((Fr.refl _ _).alloc _).alloc _
  have hr0 : w0.heap[w.heap.size]? = some (.cells S4.zero.cells.toArray 27 (0, 0)) := by rw [hw0]; exact heap_alloc_lt _ (heap_alloc_new _ _)
  have hb0 : w0.heap[w.heap.size + 1]? = some (.cells S4.zero.cells.toArray 27 (0, 0)) := by
    rw [hw0]; have := heap_alloc_new (w.alloc (.cells S4.zero.cells.toArray 27)) (.cells S4.zero.cells.toArray 27); simpa using this
  change Code.wp _ _ _ _ ((w.alloc (.cells S4.zero.cells.toArray 27)).alloc (.cells S4.zero.cells.toArray 27))
  rw [← hw0]
  have F0 := Lib.hid f0; have HR0 := Lib.hid hr0; have HB0 := Lib.hid hb0; clear f0 hr0 hb0 hw0
  go_loopw [5] (fun i wr => ∃ k : Nat, i = .int .i32 k ∧ k ≤ 256 ∧ wr.heap[w.heap.size + 1]? = some (.cells (pk p k).cells.toArray 27 (0, 0)) ∧ Fr (fun k => k = w.heap.size + 1) w0 wr) (fun i _ => 256 - (intOf i).toNat)
  case atStart => exact ⟨0, rfl, Nat.zero_le _, HB0.out, Fr.refl _ _⟩
  case round =>
    obtain ⟨k, rfl, hk, hb, fr⟩ := hrel
    have HB := Lib.hid hb; have FR := Lib.hid fr; clear hb fr
    have FW := Lib.hid (F0.out.trans FR.out (fun i hi x => by omega))
    by_cases hlt : k < 256
    · cases hp : p k with
      | true =>
        have hpt := Lib.hid (show pk p (k + 1) = (pk p k).put k by simp [pk, hp])
        have HP := Lib.hid hp; clear hp
        go_wp2_with fail
        rw [hn]
        refine (hf k _).mono ?_
        rw [HP.out]
        rintro e w3 ⟨rfl, rfl⟩
        go_wp2_with fail
        refine (add_any (w.heap.size + 1) _ k _ hlt HB.out).mono ?_
        rintro e w3 ⟨rfl, h3, f3⟩
        have H3 := Lib.hid h3; have F3 := Lib.hid f3; clear h3 f3
        go_wp2
        go_roundw
        case rel => exact ⟨k + 1, by go_num, by omega, by rw [hpt.out]; exact H3.out, FR.out.trans' F3.out⟩
        case measure => simp [intOf]; omega
      | false =>
        have hpt := Lib.hid (show pk p (k + 1) = pk p k by simp [pk, hp])
        have HP := Lib.hid hp; clear hp
        go_wp2_with fail
        rw [hn]
        refine (hf k _).mono ?_
        rw [HP.out]
        rintro e w3 ⟨rfl, rfl⟩
        go_wp2
        go_roundw
        case rel => exact ⟨k + 1, by go_num, by omega, by rw [hpt.out]; exact HB.out, FR.out⟩
        case measure => simp [intOf]; omega
    · obtain rfl : k = 256 := by omega
      have hb := HB.out
      obtain ⟨c0, c1, c2, c3, _⟩ := cellS hb
      have hr := FR.out.heap HR0.out (fun e => by omega)
      obtain ⟨_, _, _, _, f0, f1, f2, f3⟩ := cellS hr
      have hlr := lt_heap hr; have hlb := lt_heap hb
      have HBB := Lib.hid hb; have HRR := Lib.hid hr; clear hb hr
      go_wp2
      (try simp only [Exit.inBlock, Exit.then])
      have hW := heap_setCell_at (heap_setCell_at (heap_setCell_at (heap_setCell_at HRR.out 0 (.int .u64 (pk p 256).a)) 1 (.int .u64 (pk p 256).b)) 2 (.int .u64 (pk p 256).c)) 3 (.int .u64 (pk p 256).d)
      refine bodyPost_ret (results_set (s := pk p 256) rfl rfl hW) rfl ⟨rfl, ?_⟩
      exact (((FW.out.setCell (p := ⟨w.heap.size, 0, none⟩) (fun h => absurd h (Nat.lt_irrefl _)) _).setCell (p := ⟨w.heap.size, 1, none⟩) (fun h => absurd h (Nat.lt_irrefl _)) _).setCell (p := ⟨w.heap.size, 2, none⟩) (fun h => absurd h (Nat.lt_irrefl _)) _).setCell (p := ⟨w.heap.size, 3, none⟩) (fun h => absurd h (Nat.lt_irrefl _)) _

end Go.Proofs.YtlchaocpejfikaaGreatDoor

/-
  Walks: octet.Class; Span of both sides.
-/
namespace Go.Proofs.YtlchaocpejfikaaGreatDoor
open Go.RowKit

def clsSet (o : Option (Int → Bool)) : S4 := match o with
  | none => S4.zero
  | some p => pk p 256

theorem eq_nilfn_nil (w : World) : (binOp .eql 129 .nilFunc .nilFunc).run Tryz.prog w = .ok (.bool true) w := by kernel_rfl
theorem eq_nilfn (f : FuncId) (w : World) : (binOp .eql 129 (.func (.func f) #[] #[]) .nilFunc).run Tryz.prog w = .ok (.bool false) w := by kernel_rfl

/-- A set and a bool that are handed back. -/
theorem results_setB {fn : Func} {p q : Tmp} (h : fn.results = #[.cell p 27, .tmp q]) {tmps : Array Value} {r : Nat} (ht : tmps.getD p undef = .pointer (some ⟨r, 0, none⟩)) {v : Value} (hq : tmps.getD q undef = v) {W : World} {s : S4}
    (hb : W.heap[r]? = some (.cells s.cells.toArray 27 (0, 0))) : (results fn tmps).run Tryz.prog W = .ok (.tuple #[.agg s.cells.toArray, v]) W := by
  obtain ⟨c0, c1, c2, c3, _⟩ := cellS hb
  have ht' : tmps[p]?.getD undef = .pointer (some ⟨r, 0, none⟩) := by rw [← ht]; simp
  have hq' : tmps[q]?.getD undef = v := by rw [← hq]; simp
  simp only [results, h]
  simp [ht', hq', go_sem, c0, c1, c2, c3, S4.cells]

set_option maxRecDepth 100000 in
theorem octClass_any (s : ByteArray) (w : World) : Calls Tryz.prog 100 #[.string s] w fun e w' => e = .returned (.tuple #[.agg (clsSet (clsOf s)).cells.toArray, .bool (clsOf s).isSome]) ∧ Fr nob w w' := by
  obtain ⟨o, ho⟩ : ∃ o, clsOf s = o := ⟨_, rfl⟩
  rw [ho]
  have HO := Lib.hid ho; clear ho
  have q0 := eq_nilfn_nil; have q1 := eq_nilfn
  go_enter Tryz.func100, Tryz.ntmps100
  go_wp2_with fail
  refine (class_any s _).mono ?_
  rw [HO.out]
  rintro e w1 ⟨v, rfl, hc, rfl⟩
  rcases hc with ⟨rfl, rfl⟩ | ⟨f, p, rfl, rfl, hn, hf⟩
  · go_wp2
    (try simp only [Exit.inBlock, Exit.then])
    exact bodyPost_ret (results_setB (s := S4.zero) rfl rfl rfl (heap_alloc_new' _ _ _ (by simp))) rfl ⟨rfl, (Fr.refl _ _).alloc _⟩
  · go_wp2_with fail
    refine (pick_any f p _ hn hf).mono ?_
    rintro e w1 ⟨he, h1⟩
    rw [S4.cells_eq] at he; subst he
    have hb := h1.heap (heap_alloc_new w (.cells S4.zero.cells.toArray 27)) (fun x => x)
    obtain ⟨c0, c1, c2, c3, f0, f1, f2, f3⟩ := cellS hb
    have HB := Lib.hid hb
    have F1 := Lib.hid h1; clear h1 hb
    go_wp2
    (try simp only [Exit.inBlock, Exit.then])
    exact bodyPost_ret (results_setB (s := pk p 256) rfl rfl rfl (setFour_heap HB.out _ _ _ _)) rfl ⟨rfl, setFour_fr (((Fr.refl _ _).alloc _).trans' F1.out) (Nat.le_refl _) _ _ _ _⟩

/-- n bytes from a on. -/
def spanTo (a : Nat) : Nat → S4
  | 0 => S4.zero
  | n + 1 => (spanTo a n).put (a + n)
def spn (a b : Nat) : S4 := spanTo a (b + 1 - a)

set_option maxRecDepth 100000 in
set_option maxHeartbeats 1000000 in
theorem spanR_any (a b : Nat) (w : World) (ha : a < 256) (hb : b < 256) :
    Calls Tryz.prog 81 #[.int .u8 a, .int .u8 b] w fun e w' => e = .returned (.agg (spn a b).cells.toArray) ∧ Fr nob w w' := by
  go_enter Tryz.func81, Tryz.ntmps81
  go_wp2_with fail
  obtain ⟨w0, hw0⟩ : ∃ w0, w0 = ((w.alloc (.cells S4.zero.cells.toArray 24)).alloc (.cells S4.zero.cells.toArray 24)) := ⟨_, rfl⟩
  have f0 : Fr nob w w0 := by rw [hw0]; exact ((Fr.refl _ _).alloc _).alloc _
  have hr0 : w0.heap[w.heap.size]? = some (.cells S4.zero.cells.toArray 24 (0, 0)) := by rw [hw0]; exact heap_alloc_lt _ (heap_alloc_new _ _)
  have hb0 : w0.heap[w.heap.size + 1]? = some (.cells S4.zero.cells.toArray 24 (0, 0)) := by
    rw [hw0]; have := heap_alloc_new (w.alloc (.cells S4.zero.cells.toArray 24)) (.cells S4.zero.cells.toArray 24); simpa using this
  change Code.wp _ _ _ _ ((w.alloc (.cells S4.zero.cells.toArray 24)).alloc (.cells S4.zero.cells.toArray 24))
  rw [← hw0]
  have F0 := Lib.hid f0; have HR0 := Lib.hid hr0; have HB0 := Lib.hid hb0; clear f0 hr0 hb0 hw0
  go_loopw [6] (fun i wr => ∃ k : Nat, i = .int .i64 (a + k : Nat) ∧ (k = 0 ∨ a + k ≤ b + 1) ∧ wr.heap[w.heap.size + 1]? = some (.cells (spanTo a k).cells.toArray 24 (0, 0)) ∧ Fr (fun k => k = w.heap.size + 1) w0 wr) (fun i _ => 256 - (intOf i).toNat)
  case atStart => exact ⟨0, rfl, .inl rfl, HB0.out, Fr.refl _ _⟩
  case round =>
    obtain ⟨k, rfl, hk, hb', fr⟩ := hrel
    have HB := Lib.hid hb'; have FR := Lib.hid fr
    have FW := Lib.hid (F0.out.trans FR.out (fun i hi x => by omega))
    obtain ⟨c0, c1, c2, c3, z0, z1, z2, z3⟩ := cellS hb'
    have hlb := lt_heap hb'
    clear hb' fr
    obtain ⟨n, hn⟩ : ∃ n, a + k = n := ⟨_, rfl⟩
    rw [hn]
    have HN := Lib.hid hn
    by_cases hlt : n ≤ b
    · have wn : IntKind.u8.wrap (n : Int) = (n : Int) := IntWalk.u8_in _ (by omega)
      clear hn hk
      go_wp2_with fail
      refine (withR_any (spanTo a k) n _ (by omega)).mono ?_
      rintro e w3 ⟨he, f3⟩
      rw [S4.cells_eq] at he; subst he
      have h3 := f3.heap HB.out (fun x => x)
      obtain ⟨_, _, _, _, y0, y1, y2, y3⟩ := cellS h3
      have hl3 := lt_heap h3
      have H3 := Lib.hid h3; have F3 := Lib.hid f3; clear h3 f3
      go_wp2
      go_roundw
      case rel =>
        refine ⟨k + 1, by have := HN.out; congr 1; omega, .inr (by have := HN.out; omega), ?_, ?_⟩
        · have := setFour_heap (w := w3) (b := w.heap.size + 1) H3.out (.int .u64 ((spanTo a k).put n).a) (.int .u64 ((spanTo a k).put n).b) (.int .u64 ((spanTo a k).put n).c) (.int .u64 ((spanTo a k).put n).d)
          rw [show spanTo a (k + 1) = (spanTo a k).put n by rw [← HN.out]; rfl]
          exact this
        · refine FR.out.trans' ?_
          have h : ∀ (x : World) (j : Nat) (v : Value), Fr (fun k => k = w.heap.size + 1) wr x → Fr (fun k => k = w.heap.size + 1) wr (x.setCell ⟨w.heap.size + 1, j, none⟩ v) := fun x j v hx => hx.setCell (p := ⟨w.heap.size + 1, j, none⟩) (fun _ => rfl) v
          exact h _ _ _ (h _ _ _ (h _ _ _ (h _ _ _ F3.out.any)))
      case measure => simp [intOf]; omega
    · have hsp := Lib.hid (show spanTo a k = spn a b by unfold spn; congr 1; omega)
      clear hn hk
      have hb := HB.out
      rw [hsp.out] at hb c0 c1 c2 c3
      have hr := FR.out.heap HR0.out (fun e => by omega)
      obtain ⟨_, _, _, _, f0, f1, f2, f3⟩ := cellS hr
      have hlr := lt_heap hr
      have HBB := Lib.hid hb; have HRR := Lib.hid hr; clear hb hr
      go_wp2
      (try simp only [Exit.inBlock, Exit.then])
      exact bodyPost_ret (results_setR (s := spn a b) rfl rfl (setFour_heap HRR.out _ _ _ _)) rfl ⟨rfl, setFour_fr FW.out (Nat.le_refl _) _ _ _ _⟩

end Go.Proofs.YtlchaocpejfikaaGreatDoor

/-
  Sets of bytes: what is in them. Plain: no walk.
-/
namespace Go.Proofs.YtlchaocpejfikaaGreatDoor
open Go.RowKit

theorem S4.word_and (s t : S4) (d : Nat) : wd ((s.and t).word d) = wd (s.word d) &&& wd (t.word d) := by
  unfold S4.word S4.and; split <;> exact wd_and _ _
theorem S4.word_or (s t : S4) (d : Nat) : wd ((s.or t).word d) = wd (s.word d) ||| wd (t.word d) := by
  unfold S4.word S4.or; split <;> exact wd_or _ _
theorem S4.word_not (s : S4) (d : Nat) : wd (s.not.word d) = ~~~ wd (s.word d) := by
  unfold S4.word S4.not; split <;> exact wd_not _

theorem has_and (s t : S4) (d : Nat) : (s.and t).has d = (s.has d && t.has d) := by
  unfold S4.has; rw [S4.word_and, BitVec.getLsbD_and]
theorem has_or (s t : S4) (d : Nat) : (s.or t).has d = (s.has d || t.has d) := by
  unfold S4.has; rw [S4.word_or, BitVec.getLsbD_or]
theorem has_not (s : S4) (d : Nat) : s.not.has d = !s.has d := by
  unfold S4.has; rw [S4.word_not, BitVec.getLsbD_not]
  have : d % 64 < 64 := Nat.mod_lt _ (by decide)
  simp [this]
theorem has_zero (d : Nat) : S4.zero.has d = false := by
  unfold S4.has S4.word S4.zero
  have : wd 0 = 0#64 := by decide
  split <;> rw [this] <;> simp

theorem fit_and (s t : S4) : (s.and t).fit := ⟨fit_bits .and s.a t.a, fit_bits .and s.b t.b, fit_bits .and s.c t.c, fit_bits .and s.d t.d⟩
theorem fit_or (s t : S4) : (s.or t).fit := ⟨fit_bits .or s.a t.a, fit_bits .or s.b t.b, fit_bits .or s.c t.c, fit_bits .or s.d t.d⟩
theorem fit_not (s : S4) : s.not.fit := ⟨fit_bits .xor _ s.a, fit_bits .xor _ s.b, fit_bits .xor _ s.c, fit_bits .xor _ s.d⟩
theorem fit_0 : Fit 0 := ⟨by decide, by decide⟩
theorem fit_zero : S4.zero.fit := ⟨fit_0, fit_0, fit_0, fit_0⟩
theorem fit_orw (x : Int) (n : Nat) : Fit (orw x n) := fit_bits .or x _
theorem fit_put {s : S4} (h : s.fit) (d : Nat) : (s.put d).fit := by
  unfold S4.put
  split
  · exact ⟨fit_orw _ _, h.2.1, h.2.2.1, h.2.2.2⟩
  · exact ⟨h.1, fit_orw _ _, h.2.2.1, h.2.2.2⟩
  · exact ⟨h.1, h.2.1, fit_orw _ _, h.2.2.2⟩
  · exact ⟨h.1, h.2.1, h.2.2.1, fit_orw _ _⟩
theorem fit_puts (l : List UInt8) : ∀ {s : S4}, s.fit → (s.puts l).fit := by
  induction l with
  | nil => intro s h; exact h
  | cons c r ih => intro s h; exact ih (fit_put h _)
theorem fit_spanTo (a : Nat) : ∀ n, (spanTo a n).fit
  | 0 => fit_zero
  | n + 1 => fit_put (fit_spanTo a n) _
theorem fit_spn (a b : Nat) : (spn a b).fit := fit_spanTo _ _
theorem fit_pk (p : Int → Bool) : ∀ n, (pk p n).fit
  | 0 => fit_zero
  | n + 1 => by unfold pk; split; exact fit_put (fit_pk p n) _; exact fit_pk p n
theorem fit_clsSet (o : Option (Int → Bool)) : (clsSet o).fit := by
  unfold clsSet; split; exact fit_zero; exact fit_pk _ _

/-- Two sets of the same bytes are one. -/
theorem S4.ext_has {s t : S4} (hs : s.fit) (ht : t.fit) (h : ∀ d, d < 256 → s.has d = t.has d) : s = t := by
  have e : ∀ q, q < 4 → wd (s.word (64 * q)) = wd (t.word (64 * q)) := by
    intro q hq
    apply BitVec.eq_of_getLsbD_eq
    intro i hi
    have := h (64 * q + i) (by omega)
    unfold S4.has at this
    have w1 : ∀ u : S4, u.word (64 * q + i) = u.word (64 * q) := fun u => by
      unfold S4.word; rw [show (64 * q + i) / 64 = 64 * q / 64 by omega]
    rw [w1, w1, show (64 * q + i) % 64 = i by omega] at this
    exact this
  obtain ⟨a, b, c, d⟩ := s
  obtain ⟨a', b', c', d'⟩ := t
  have h0 := wd_inj hs.1 ht.1 (e 0 (by decide))
  have h1 := wd_inj hs.2.1 ht.2.1 (e 1 (by decide))
  have h2 := wd_inj hs.2.2.1 ht.2.2.1 (e 2 (by decide))
  have h3 := wd_inj hs.2.2.2 ht.2.2.2 (e 3 (by decide))
  subst h0; subst h1; subst h2; subst h3; rfl

theorem wd_pow : ∀ n : Fin 64, wd (IntKind.u64.wrap (2 ^ n.val)) = BitVec.twoPow 64 n.val := by decide +kernel
theorem wd_orw (x : Int) {n : Nat} (h : n < 64) : wd (orw x n) = wd x ||| BitVec.twoPow 64 n := by
  unfold orw; rw [wd_or, wd_pow ⟨n, h⟩]
theorem word_put (s : S4) (d e : Nat) (hd : d < 256) (he : e < 256) : wd ((s.put d).word e) = if d / 64 = e / 64 then wd (s.word e) ||| BitVec.twoPow 64 (d % 64) else wd (s.word e) := by
  have hm : d % 64 < 64 := Nat.mod_lt _ (by decide)
  have hq : d / 64 = 0 ∨ d / 64 = 1 ∨ d / 64 = 2 ∨ d / 64 = 3 := by omega
  have hr : e / 64 = 0 ∨ e / 64 = 1 ∨ e / 64 = 2 ∨ e / 64 = 3 := by omega
  unfold S4.put S4.word
  rcases hq with hq | hq | hq | hq <;> rcases hr with hr | hr | hr | hr <;> simp [hq, hr, wd_orw, hm]
theorem has_put (s : S4) (d e : Nat) (hd : d < 256) (he : e < 256) : (s.put d).has e = (decide (d = e) || s.has e) := by
  unfold S4.has
  rw [word_put s d e hd he]
  split
  · next h =>
    rw [BitVec.getLsbD_or, BitVec.getLsbD_twoPow, Bool.or_comm]
    congr 1
    have : d % 64 < 64 := Nat.mod_lt _ (by decide)
    simp only [this, decide_true, Bool.true_and]
    rw [decide_eq_decide]
    omega
  · next h =>
    have : d ≠ e := fun x => h (by rw [x])
    simp [this]
theorem has_puts (l : List UInt8) (e : Nat) (he : e < 256) : ∀ s : S4, (s.puts l).has e = (l.any (fun c => decide (c.toNat = e)) || s.has e) := by
  induction l with
  | nil => intro s; simp [S4.puts]
  | cons c r ih =>
    intro s
    rw [S4.puts, ih, has_put _ _ _ c.toNat_lt he, List.any_cons]
    cases decide (c.toNat = e) <;> cases r.any (fun c => decide (c.toNat = e)) <;> simp
theorem has_spanTo (a e : Nat) (he : e < 256) : ∀ n, a + n ≤ 256 → (spanTo a n).has e = (decide (a ≤ e) && decide (e < a + n)) := by
  intro n
  induction n with
  | zero => intro _; rw [spanTo, has_zero]; simp <;> omega
  | succ n ih =>
    intro h
    rw [spanTo, has_put _ _ _ (by omega) he, ih (by omega)]
    rw [Bool.eq_iff_iff]; simp; omega
theorem has_spn (a b e : Nat) (ha : a < 256) (hb : b < 256) (he : e < 256) : (spn a b).has e = (decide (a ≤ e) && decide (e ≤ b)) := by
  unfold spn
  rcases Nat.lt_or_ge b a with h | h
  · rw [show b + 1 - a = 0 by omega]; rw [spanTo, has_zero]; simp <;> omega
  · rw [has_spanTo _ _ he _ (by omega)]; rw [Bool.eq_iff_iff]; simp; omega

theorem S4.and_not (s : S4) : s.and s.not = S4.zero := S4.ext_has (fit_and _ _) fit_zero fun d _ => by rw [has_and, has_not, has_zero]; simp
theorem S4.not_not {s : S4} (h : s.fit) : s.not.not = s := S4.ext_has (fit_not _) h fun d _ => by rw [has_not, has_not]; simp
theorem S4.not_and (s t : S4) : (s.and t).not = s.not.or t.not := S4.ext_has (fit_not _) (fit_or _ _) fun d _ => by simp [has_not, has_and, has_or]
theorem S4.and_comm (s t : S4) : s.and t = t.and s := S4.ext_has (fit_and _ _) (fit_and _ _) fun d _ => by simp [has_and, Bool.and_comm]
theorem S4.or_comm (s t : S4) : s.or t = t.or s := S4.ext_has (fit_or _ _) (fit_or _ _) fun d _ => by simp [has_or, Bool.or_comm]
theorem S4.put_or {s : S4} (h : s.fit) {d : Nat} (hd : d < 256) : (S4.zero.put d).or s = s.put d := S4.ext_has (fit_or _ _) (fit_put h _) fun e he => by
  rw [has_or, has_put _ _ _ hd he, has_put _ _ _ hd he, has_zero]; simp
theorem puts_reverse (l : List UInt8) : S4.zero.puts l.reverse = S4.zero.puts l := S4.ext_has (fit_puts _ fit_zero) (fit_puts _ fit_zero) fun e he => by
  rw [has_puts _ _ he, has_puts _ _ he, List.any_reverse]

theorem cnt_and_or (p q : Nat → Bool) : ∀ n, cntTo (fun i => p i && q i) n + cntTo (fun i => p i || q i) n = cntTo p n + cntTo q n
  | 0 => rfl
  | n + 1 => by
    have ih := cnt_and_or p q n
    have hb : ∀ a b : Bool, (if (a && b) = true then 1 else 0) + (if (a || b) = true then 1 else 0) = (if a = true then 1 else 0) + (if b = true then 1 else 0) := by decide
    have := hb (p n) (q n)
    simp only [cntTo]
    omega
theorem cnt_not (p : Nat → Bool) : ∀ n, cntTo (fun i => !p i) n + cntTo p n = n
  | 0 => rfl
  | n + 1 => by
    have ih := cnt_not p n
    have hb : ∀ a : Bool, (if (!a) = true then 1 else 0) + (if a = true then 1 else 0) = 1 := by decide
    have := hb (p n)
    simp only [cntTo]
    omega
theorem len_and_or {s t : S4} (hs : s.fit) (ht : t.fit) : (s.and t).len + (s.or t).len = s.len + t.len := by
  have h1 : cntTo (s.and t).has 256 = cntTo (fun i => s.has i && t.has i) 256 := cntTo_congr fun i _ => has_and _ _ _
  have h2 : cntTo (s.or t).has 256 = cntTo (fun i => s.has i || t.has i) 256 := cntTo_congr fun i _ => has_or _ _ _
  rw [← cnt_set (fit_and s t), ← cnt_set (fit_or s t), ← cnt_set hs, ← cnt_set ht, h1, h2, cnt_and_or]
theorem len_not {s : S4} (hs : s.fit) : s.not.len + s.len = 256 := by
  have h1 : cntTo s.not.has 256 = cntTo (fun i => !s.has i) 256 := cntTo_congr fun i _ => has_not _ _
  rw [← cnt_set (fit_not s), ← cnt_set hs, h1, cnt_not]
theorem len_le {s : S4} (hs : s.fit) : s.len ≤ 256 := by have := len_not hs; omega

end Go.Proofs.YtlchaocpejfikaaGreatDoor

/-
  Walks: TrailingZeros64 (its table as start-up lays it), Least.
-/
namespace Go.Proofs.YtlchaocpejfikaaGreatDoor
open Go.RowKit

/-- The table of math/bits lies in its variable. -/
def Tab (w : World) : Prop := ∀ j, j < 64 → w.cell? ⟨0, j, none⟩ = some (.int .u8 (Lib.deBruijn64tab.getD j 0 : Nat))
theorem Tab.on {w w' : World} (h : Tab w) (f : Fr nob w w') : Tab w' := fun j hj => f.cell (h j hj) (fun x => x)

theorem Tab.on2 {w w' : World} {S : Nat → Prop} (h : Tab w) (f : Fr S w w') (hn : ¬ S 0) : Tab w' := fun j hj => f.cell (h j hj) hn
theorem Tab.lt {w : World} (h : Tab w) : 0 < w.heap.size := World.block_lt_of_cell? w _ (h 0 (by decide))
theorem tz_key (x a : Nat) (hx : x < 18446744073709551616) (hx0 : x ≠ 0) (hlow : x &&& (18446744073709551616 - x) = a) :
    IntKind.u64.wrap (bits .and .u64 (x : Int) (IntKind.u64.wrap (-(x : Int))) * 285870213051353865) / 288230376151711744 = ((a * 285870213051353865 % 18446744073709551616 / 288230376151711744 : Nat) : Int) := by
  have e1 : IntKind.u64.wrap (-(x : Int)) = ((18446744073709551616 - x : Nat) : Int) := by rw [IntKind.wrap_u64]; omega
  rw [e1, bits_and_u64_nat x _ hx (by omega), hlow, IntKind.wrap_u64]
  omega

set_option maxRecDepth 100000 in
set_option maxHeartbeats 1000000 in
theorem tz_any (x : Nat) (hx : x < 18446744073709551616) (hx0 : x ≠ 0) (w : World) (hT : Tab w) :
    Calls Tryz.prog 75 #[.int .u64 x] w fun e w' => e = .returned (.int .i64 (Lib.ctz 64 x)) ∧ w = w' := by
  obtain ⟨hlow, hk⟩ := Lib.lowest_bit 64 x hx0 hx
  obtain ⟨hi, htab⟩ := Lib.deBruijn64_at _ hk
  have key := tz_key x _ hx hx0 hlow
  have hcell := hT _ hi
  rw [htab] at hcell
  obtain ⟨k, hkk⟩ : ∃ k, Lib.ctz 64 x = k := ⟨_, rfl⟩
  rw [hkk] at hcell hk key hi ⊢
  obtain ⟨idx, hidx⟩ : ∃ i, 2 ^ k * 285870213051353865 % 18446744073709551616 / 288230376151711744 = i := ⟨_, rfl⟩
  rw [hidx] at hcell key hi
  have h0 : ((x : Int) == 0) = false := by simp; omega
  have KEY := Lib.hid key
  clear hlow htab hkk hidx hx hx0 hT key
  go_enter Tryz.func75, Tryz.ntmps75
  go_wp2_with (simp only [KEY.out])
  go_ret
  exact ⟨rfl, rfl⟩

theorem ctz_lt {x : Nat} (hx0 : x ≠ 0) (hx : x < 18446744073709551616) : Lib.ctz 64 x < 64 := (Lib.lowest_bit 64 x hx0 hx).2
theorem ctz_bits {x : Nat} (hx0 : x ≠ 0) (hx : x < 18446744073709551616) : x.testBit (Lib.ctz 64 x) = true ∧ ∀ i, i < Lib.ctz 64 x → x.testBit i = false := by
  unfold Lib.ctz
  rw [if_neg hx0]
  obtain ⟨m, hm, _⟩ := Lib.ctzFrom_spec 64 x (by omega) hx
  generalize Lib.ctzFrom 64 x = k at *
  subst hm
  constructor
  · rw [Nat.testBit_eq_decide_div_mod_eq, Nat.mul_div_cancel_left _ (Nat.two_pow_pos k)]; simp
  · intro i hi
    rw [Nat.testBit_eq_decide_div_mod_eq]
    obtain ⟨d, rfl⟩ : ∃ d, k = i + (d + 1) := ⟨k - i - 1, by omega⟩
    rw [Nat.pow_add, Nat.mul_assoc, Nat.mul_div_cancel_left _ (Nat.two_pow_pos i), Nat.pow_succ]
    simp
    rw [Nat.mul_assoc, Nat.mul_comm, Nat.mul_assoc]
    omega

/-- The least byte that a set has; whether it has one. -/
def LeastIs (s : S4) (d : Nat) (b : Bool) : Prop := (b = false ∧ d = 0 ∧ s = S4.zero) ∨ (b = true ∧ d < 256 ∧ s.has d = true ∧ ∀ e, e < d → s.has e = false)

theorem LeastIs.uniq {s : S4} {d d' : Nat} {b b' : Bool} (h : LeastIs s d b) (h' : LeastIs s d' b') : d = d' ∧ b = b' := by
  rcases h with ⟨rfl, rfl, rfl⟩ | ⟨rfl, h1, h2, h3⟩ <;> rcases h' with ⟨rfl, rfl, h'⟩ | ⟨rfl, h1', h2', h3'⟩
  · exact ⟨rfl, rfl⟩
  · rw [has_zero] at h2'; cases h2'
  · subst h'; rw [has_zero] at h2; cases h2
  · refine ⟨?_, rfl⟩
    rcases Nat.lt_trichotomy d d' with h | h | h
    · rw [h3' d h] at h2; cases h2
    · exact h
    · rw [h3 d' h] at h2'; cases h2'

theorem word_bit {x : Int} (h : Fit x) (i : Nat) : (wd x).getLsbD i = x.toNat.testBit i := by
  have := wd_val h
  have e : (wd x).toNat = x.toNat := by omega
  rw [BitVec.getLsbD, e]
theorem S4.has_word {s : S4} (hs : s.fit) (q i : Nat) (hq : q < 4) (hi : i < 64) : s.has (64 * q + i) = (s.word (64 * q)).toNat.testBit i := by
  unfold S4.has
  have hw : s.word (64 * q + i) = s.word (64 * q) := by unfold S4.word; rw [show (64 * q + i) / 64 = 64 * q / 64 by omega]
  have hf : Fit (s.word (64 * q)) := by unfold S4.word; split; exact hs.1; exact hs.2.1; exact hs.2.2.1; exact hs.2.2.2
  rw [hw, word_bit hf, show (64 * q + i) % 64 = i by omega]
/-- The first q words are nought. -/
def S4.noughts (s : S4) (q : Nat) : Prop := ∀ r, r < q → s.word (64 * r) = 0
theorem least_hit {s : S4} (hs : s.fit) {q : Nat} (hq : q < 4) (h0 : s.noughts q) (x : Nat) (hx : s.word (64 * q) = (x : Int)) (hx0 : x ≠ 0) : LeastIs s (64 * q + Lib.ctz 64 x) true := by
  have hf : Fit (s.word (64 * q)) := by unfold S4.word; split; exact hs.1; exact hs.2.1; exact hs.2.2.1; exact hs.2.2.2
  have hlt : x < 18446744073709551616 := by have := hf.2; omega
  have hc := ctz_lt hx0 hlt
  obtain ⟨b1, b2⟩ := ctz_bits hx0 hlt
  refine .inr ⟨rfl, by omega, ?_, ?_⟩
  · rw [S4.has_word hs q _ hq hc, hx]; exact b1
  · intro e he
    have hd : e = 64 * (e / 64) + e % 64 := by omega
    have hm : e % 64 < 64 := Nat.mod_lt _ (by decide)
    rw [hd, S4.has_word hs _ _ (by omega) hm]
    rcases Nat.lt_or_ge (e / 64) q with h | h
    · rw [h0 _ h]; simp
    · have : e / 64 = q := by omega
      rw [this, hx]; exact b2 _ (by omega)
theorem least_none {s : S4} (h0 : s.noughts 4) : LeastIs s 0 false := by
  refine .inl ⟨rfl, rfl, ?_⟩
  obtain ⟨a, b, c, d⟩ := s
  have e0 := h0 0 (by decide); have e1 := h0 1 (by decide); have e2 := h0 2 (by decide); have e3 := h0 3 (by decide)
  simp [S4.word] at e0 e1 e2 e3
  subst e0; subst e1; subst e2; subst e3; rfl

theorem idxSet0 (a b c d : Value) (w : World) : (Instr.index 27 (.agg #[a, b, c, d]) (.int .i64 0)).run Tryz.prog w = .ok a w := by kernel_rfl
theorem idxSet1 (a b c d : Value) (w : World) : (Instr.index 27 (.agg #[a, b, c, d]) (.int .i64 1)).run Tryz.prog w = .ok b w := by kernel_rfl
theorem idxSet2 (a b c d : Value) (w : World) : (Instr.index 27 (.agg #[a, b, c, d]) (.int .i64 2)).run Tryz.prog w = .ok c w := by kernel_rfl
theorem idxSet3 (a b c d : Value) (w : World) : (Instr.index 27 (.agg #[a, b, c, d]) (.int .i64 3)).run Tryz.prog w = .ok d w := by kernel_rfl

def LeastV (s : S4) (w : World) (e : Ending) (w' : World) : Prop := ∃ (d : Nat) (b : Bool), e = .returned (.tuple #[.int .u8 d, .bool b]) ∧ LeastIs s d b ∧ Fr nob w w'

set_option maxRecDepth 100000 in
set_option maxHeartbeats 1000000 in
theorem least_any (s : S4) (w : World) (hs : s.fit) (hT : Tab w) :
    Calls Tryz.prog 50 #[.agg #[.int .u64 s.a, .int .u64 s.b, .int .u64 s.c, .int .u64 s.d]] w (LeastV s w) := by
  obtain ⟨s0, s1, s2, s3⟩ := s
  obtain ⟨x0, rfl⟩ : ∃ x : Nat, s0 = (x : Int) := ⟨s0.toNat, by have := hs.1.1; simp only at this; omega⟩
  obtain ⟨x1, rfl⟩ : ∃ x : Nat, s1 = (x : Int) := ⟨s1.toNat, by have := hs.2.1.1; simp only at this; omega⟩
  obtain ⟨x2, rfl⟩ : ∃ x : Nat, s2 = (x : Int) := ⟨s2.toNat, by have := hs.2.2.1.1; simp only at this; omega⟩
  obtain ⟨x3, rfl⟩ : ∃ x : Nat, s3 = (x : Int) := ⟨s3.toNat, by have := hs.2.2.2.1; simp only at this; omega⟩
  have b0 : x0 < 18446744073709551616 := by have := hs.1.2; simp only at this; omega
  have b1 : x1 < 18446744073709551616 := by have := hs.2.1.2; simp only at this; omega
  have b2 : x2 < 18446744073709551616 := by have := hs.2.2.1.2; simp only at this; omega
  have b3 : x3 < 18446744073709551616 := by have := hs.2.2.2.2; simp only at this; omega
  have B0 := Lib.hid b0; have B1 := Lib.hid b1; have B2 := Lib.hid b2; have B3 := Lib.hid b3
  clear b0 b1 b2 b3
  have HS := Lib.hid hs
  have i0 := idxSet0; have i1 := idxSet1; have i2 := idxSet2; have i3 := idxSet3
  have HT := Lib.hid (hT.on ((Fr.refl nob w).alloc (.cells #[.int .u64 x0, .int .u64 x1, .int .u64 x2, .int .u64 x3] 27)))
  clear hT hs
  go_enter Tryz.func50, Tryz.ntmps50
  go_wp2_with fail
  go_loop [7] (fun i => ∃ k : Nat, i = .int .i64 k ∧ k ≤ 4 ∧ (S4.mk (x0 : Int) x1 x2 x3).noughts k) (fun i => 4 - (intOf i).toNat)
  case atStart => exact ⟨0, rfl, by omega, fun r hr => by omega⟩
  case round =>
    obtain ⟨k, rfl, hk, h0⟩ := hrel
    have H0 := Lib.hid h0; clear h0
    have hkk : k = 0 ∨ k = 1 ∨ k = 2 ∨ k = 3 ∨ k = 4 := by omega
    rcases hkk with rfl | rfl | rfl | rfl | rfl
    · by_cases hx0 : x0 = 0
      · have HN := Lib.hid (show (S4.mk (x0 : Int) x1 x2 x3).noughts 1 from fun r hr => by
          rcases Nat.lt_or_ge r 0 with h | h
          · exact H0.out r h
          · obtain rfl : r = 0 := by omega
            show (x0 : Int) = 0
            omega)
        have t0 : ((x0 : Int) != 0) = false := by simp; omega
        clear hx0
        go_wp2
        go_round
        case rel => exact ⟨1, by go_num, by omega, HN.out⟩
        case measure => simp [intOf]
      · have t0 : ((x0 : Int) != 0) = true := by simp; omega
        have HL := Lib.hid (least_hit HS.out (q := 0) (by decide) H0.out x0 rfl hx0)
        have hc := ctz_lt hx0 B0.out
        have hT := HT.out
        go_wp2_with fail
        refine (tz_any x0 B0.out hx0 _ hT).mono ?_
        rintro e w' ⟨rfl, rfl⟩
        go_wp2
        go_ret2
        exact ⟨_, true, by simp, HL.out, (Fr.refl _ _).alloc _⟩
    · by_cases hx0 : x1 = 0
      · have HN := Lib.hid (show (S4.mk (x0 : Int) x1 x2 x3).noughts 2 from fun r hr => by
          rcases Nat.lt_or_ge r 1 with h | h
          · exact H0.out r h
          · obtain rfl : r = 1 := by omega
            show (x1 : Int) = 0
            omega)
        have t0 : ((x1 : Int) != 0) = false := by simp; omega
        clear hx0
        go_wp2
        go_round
        case rel => exact ⟨2, by go_num, by omega, HN.out⟩
        case measure => simp [intOf]
      · have t0 : ((x1 : Int) != 0) = true := by simp; omega
        have HL := Lib.hid (least_hit HS.out (q := 1) (by decide) H0.out x1 rfl hx0)
        have hc := ctz_lt hx0 B1.out
        have hT := HT.out
        go_wp2_with fail
        refine (tz_any x1 B1.out hx0 _ hT).mono ?_
        rintro e w' ⟨rfl, rfl⟩
        go_wp2
        go_ret2
        exact ⟨_, true, by simp, HL.out, (Fr.refl _ _).alloc _⟩
    · by_cases hx0 : x2 = 0
      · have HN := Lib.hid (show (S4.mk (x0 : Int) x1 x2 x3).noughts 3 from fun r hr => by
          rcases Nat.lt_or_ge r 2 with h | h
          · exact H0.out r h
          · obtain rfl : r = 2 := by omega
            show (x2 : Int) = 0
            omega)
        have t0 : ((x2 : Int) != 0) = false := by simp; omega
        clear hx0
        go_wp2
        go_round
        case rel => exact ⟨3, by go_num, by omega, HN.out⟩
        case measure => simp [intOf]
      · have t0 : ((x2 : Int) != 0) = true := by simp; omega
        have HL := Lib.hid (least_hit HS.out (q := 2) (by decide) H0.out x2 rfl hx0)
        have hc := ctz_lt hx0 B2.out
        have hT := HT.out
        go_wp2_with fail
        refine (tz_any x2 B2.out hx0 _ hT).mono ?_
        rintro e w' ⟨rfl, rfl⟩
        go_wp2
        go_ret2
        exact ⟨_, true, by simp, HL.out, (Fr.refl _ _).alloc _⟩
    · by_cases hx0 : x3 = 0
      · have HN := Lib.hid (show (S4.mk (x0 : Int) x1 x2 x3).noughts 4 from fun r hr => by
          rcases Nat.lt_or_ge r 3 with h | h
          · exact H0.out r h
          · obtain rfl : r = 3 := by omega
            show (x3 : Int) = 0
            omega)
        have t0 : ((x3 : Int) != 0) = false := by simp; omega
        clear hx0
        go_wp2
        go_round
        case rel => exact ⟨4, by go_num, by omega, HN.out⟩
        case measure => simp [intOf]
      · have t0 : ((x3 : Int) != 0) = true := by simp; omega
        have HL := Lib.hid (least_hit HS.out (q := 3) (by decide) H0.out x3 rfl hx0)
        have hc := ctz_lt hx0 B3.out
        have hT := HT.out
        go_wp2_with fail
        refine (tz_any x3 B3.out hx0 _ hT).mono ?_
        rintro e w' ⟨rfl, rfl⟩
        go_wp2
        go_ret2
        exact ⟨_, true, by simp, HL.out, (Fr.refl _ _).alloc _⟩
    · go_wp2
      go_ret2
      exact ⟨0, false, rfl, least_none H0.out, (Fr.refl _ _).alloc _⟩

end Go.Proofs.YtlchaocpejfikaaGreatDoor

/-
  Walks: octet.Span.
-/
namespace Go.Proofs.YtlchaocpejfikaaGreatDoor
open Go.RowKit

set_option maxRecDepth 100000 in
set_option maxHeartbeats 1000000 in
theorem span_any (a b : Nat) (w : World) (ha : a < 256) (hb : b < 256) :
    Calls Tryz.prog 115 #[.int .u8 a, .int .u8 b] w fun e w' => e = .returned (.agg (spn a b).cells.toArray) ∧ Fr nob w w' := by
  go_enter Tryz.func115, Tryz.ntmps115
  go_wp2_with fail
  obtain ⟨w0, hw0⟩ : ∃ w0, w0 = ((w.alloc (.cells S4.zero.cells.toArray 27)).alloc (.cells S4.zero.cells.toArray 27)) := ⟨_, rfl⟩
  have f0 : Fr nob w w0 := by rw [hw0]; exact ((Fr.refl _ _).alloc _).alloc _
  have hr0 : w0.heap[w.heap.size]? = some (.cells S4.zero.cells.toArray 27 (0, 0)) := by rw [hw0]; exact heap_alloc_lt _ (heap_alloc_new _ _)
  have hb0 : w0.heap[w.heap.size + 1]? = some (.cells S4.zero.cells.toArray 27 (0, 0)) := by
    rw [hw0]; have := heap_alloc_new (w.alloc (.cells S4.zero.cells.toArray 27)) (.cells S4.zero.cells.toArray 27); simpa using this
  change Code.wp _ _ _ _ ((w.alloc (.cells S4.zero.cells.toArray 27)).alloc (.cells S4.zero.cells.toArray 27))
  rw [← hw0]
  have F0 := Lib.hid f0; have HR0 := Lib.hid hr0; have HB0 := Lib.hid hb0; clear f0 hr0 hb0 hw0
  go_loopw [6] (fun i wr => ∃ k : Nat, i = .int .i64 (a + k : Nat) ∧ (k = 0 ∨ a + k ≤ b + 1) ∧ wr.heap[w.heap.size + 1]? = some (.cells (spanTo a k).cells.toArray 27 (0, 0)) ∧ Fr (fun k => k = w.heap.size + 1) w0 wr) (fun i _ => 256 - (intOf i).toNat)
  case atStart => exact ⟨0, rfl, .inl rfl, HB0.out, Fr.refl _ _⟩
  case round =>
    obtain ⟨k, rfl, hk, hb', fr⟩ := hrel
    have HB := Lib.hid hb'; have FR := Lib.hid fr; clear hb' fr
    have FW := Lib.hid (F0.out.trans FR.out (fun i hi x => by omega))
    obtain ⟨n, hn⟩ : ∃ n, a + k = n := ⟨_, rfl⟩
    rw [hn]
    have HN := Lib.hid hn
    by_cases hlt : n ≤ b
    · have wn : IntKind.u8.wrap (n : Int) = (n : Int) := IntWalk.u8_in _ (by omega)
      clear hn hk
      go_wp2_with fail
      refine (add_any (w.heap.size + 1) _ n _ (by omega) HB.out).mono ?_
      rintro e w3 ⟨rfl, h3, f3⟩
      have H3 := Lib.hid h3; have F3 := Lib.hid f3; clear h3 f3
      go_wp2
      go_roundw
      case rel => exact ⟨k + 1, by have := HN.out; congr 1; omega, .inr (by have := HN.out; omega), by have := H3.out; rw [← HN.out] at this; exact this, FR.out.trans' F3.out⟩
      case measure => simp [intOf]; omega
    · have hsp := Lib.hid (show spanTo a k = spn a b by unfold spn; congr 1; omega)
      clear hn hk
      have hb := HB.out
      rw [hsp.out] at hb
      obtain ⟨c0, c1, c2, c3, _⟩ := cellS hb
      have hr := FR.out.heap HR0.out (fun e => by omega)
      obtain ⟨_, _, _, _, f0, f1, f2, f3⟩ := cellS hr
      have hlr := lt_heap hr; have hlb := lt_heap hb
      have HBB := Lib.hid hb; have HRR := Lib.hid hr; clear hb hr
      go_wp2
      (try simp only [Exit.inBlock, Exit.then])
      exact bodyPost_ret (results_set (s := spn a b) rfl rfl (setFour_heap HRR.out _ _ _ _)) rfl ⟨rfl, setFour_fr FW.out (Nat.le_refl _) _ _ _ _⟩

end Go.Proofs.YtlchaocpejfikaaGreatDoor
