/-
  Merged texts of this claim: BrkJ, BrkK, Spans, BrkL, BrkO, BrkM, BrkN, BrkI, BrkQ, Assert, TreeA.
-/
import Derived.Laws.OwnMore
import Derived.Deep.DeepCutAuto
import Derived.Deep.RegionWith
import Derived.Test.YtpcpmjaphjkphaaDoorChecked
import Derived.Test.YtpcpmjaphjkphaaDoorM01
import Derived.Test.YtpcpmjaphjkphaaDoorM03
import Derived.Test.YtpcpmjaphjkphaaDoorM04
import Derived.Test.YtpcpmjaphjkphaaDoorM05

/-
  Walks of the document's bracket expressions: item. Printed by tools/ref02.py.
-/
namespace Go.Proofs.YtpcpmjaphjkphaaDoor
open Go.RowKit

def ritV : (Int × Nat) ⊕ It → Value
  | .inl z => .tuple #[setV S4.zero, .bool false, .int .i64 0, .int .i64 z.1, .int .i64 z.2]
  | .inr x => .tuple #[setV x.set, .bool x.one.isSome, .int .i64 x.next, .int .i64 0, .int .i64 0]

theorem results_set5 {fn : Func} {p q r s' t' : Tmp} (h : fn.results = #[.cell p 48, .tmp q, .tmp r, .tmp s', .tmp t']) {tmps : Array Value} {b : Nat} (ht : tmps.getD p undef = .pointer (some ⟨b, 0, none⟩)) {u v x y : Value} (hq : tmps.getD q undef = u) (hr : tmps.getD r undef = v) (hs : tmps.getD s' undef = x) (hu : tmps.getD t' undef = y) {W : World} {s : S4}
    (hb : W.heap[b]? = some (.cells #[.int .u64 s.a, .int .u64 s.b, .int .u64 s.c, .int .u64 s.d] 48 (0, 0))) : (results fn tmps).run Tryd.prog W = .ok (.tuple #[setV s, u, v, x, y]) W := by
  have c0 := cell_at (j := 0) (v := .int .u64 s.a) hb rfl
  have c1 := cell_at (j := 1) (v := .int .u64 s.b) hb rfl
  have c2 := cell_at (j := 2) (v := .int .u64 s.c) hb rfl
  have c3 := cell_at (j := 3) (v := .int .u64 s.d) hb rfl
  have ht' : tmps[p]?.getD undef = .pointer (some ⟨b, 0, none⟩) := by rw [← ht]; simp
  have hq' : tmps[q]?.getD undef = u := by rw [← hq]; simp
  have hr' : tmps[r]?.getD undef = v := by rw [← hr]; simp
  have hs' : tmps[s']?.getD undef = x := by rw [← hs]; simp
  have hu' : tmps[t']?.getD undef = y := by rw [← hu]; simp
  simp only [results, h]
  simp [ht', hq', hr', hs', hu', go_sem, c0, c1, c2, c3]
theorem classR_lit (s : ByteArray) (o : Option (Int → Bool)) (ho : clsOf s = o) (w : World) : Calls Tryd.prog 31 #[.string s] w fun e w' => e = .returned (.tuple #[setV (clsSet o), .bool o.isSome]) ∧ Fr nob w w' := by
  subst ho; exact refClass_any s w

def RItAns (R : (Int × Nat) ⊕ It) (w : World) (e : Ending) (w' : World) : Prop := e = .returned (ritV R) ∧ Fr nob w w'
end Go.Proofs.YtpcpmjaphjkphaaDoor

/-
  Walks of the document's bracket expressions: item, behind a sign. Printed by tools/ref02b.py.
-/
namespace Go.Proofs.YtpcpmjaphjkphaaDoor
open Go.RowKit

end Go.Proofs.YtpcpmjaphjkphaaDoor

/-
  The spans of a set: plain; walks of both sides.
-/
namespace Go.Proofs.YtpcpmjaphjkphaaDoor
open Go.RowKit

def opn (p : Nat → Bool) : Nat → Bool
  | 0 => false
  | j + 1 => p j
def ext (l : List (Nat × Nat)) (k : Nat) : List (Nat × Nat) := match l.getLast? with
  | some x => l.dropLast ++ [(x.1, k)]
  | none => l
/-- The longest runs below k. -/
def spl (p : Nat → Bool) : Nat → List (Nat × Nat)
  | 0 => []
  | k + 1 => if p k then (if opn p k then ext (spl p k) k else spl p k ++ [(k, k)]) else spl p k

theorem ext_snoc (l : List (Nat × Nat)) (a b k : Nat) : ext (l ++ [(a, b)]) k = l ++ [(a, k)] := by simp [ext]
theorem spl_open {p : Nat → Bool} {k : Nat} (h : opn p k = true) : ∃ l0 a, spl p k = l0 ++ [(a, k - 1)] := by
  induction k with
  | zero => cases h
  | succ j ih =>
    have hp : p j = true := h
    rw [spl, if_pos hp]
    split
    · next ho =>
      obtain ⟨l0, a, e⟩ := ih ho
      exact ⟨l0, a, by rw [e, ext_snoc]; rfl⟩
    · exact ⟨_, j, rfl⟩
theorem spl_no {p : Nat → Bool} {k : Nat} (h : p k = false) : spl p (k + 1) = spl p k := by rw [spl, h]; rfl
theorem spl_new {p : Nat → Bool} {k : Nat} (h : p k = true) (ho : opn p k = false) : spl p (k + 1) = spl p k ++ [(k, k)] := by rw [spl, h, ho]; rfl
theorem spl_ext {p : Nat → Bool} {k : Nat} (h : p k = true) (ho : opn p k = true) {l0 : List (Nat × Nat)} {a : Nat} (e : spl p k = l0 ++ [(a, k - 1)]) : spl p (k + 1) = l0 ++ [(a, k)] := by
  rw [spl, h, ho, e]; exact ext_snoc _ _ _ _

theorem spl_len (p : Nat → Bool) : ∀ k, (spl p k).length ≤ k
  | 0 => Nat.le_refl _
  | k + 1 => by
    have ih := spl_len p k
    cases hp : p k with
    | false => rw [spl_no hp]; omega
    | true =>
      cases ho : opn p k with
      | false => rw [spl_new hp ho, List.length_append]; simp; omega
      | true =>
        obtain ⟨l0, a, e0⟩ := spl_open ho
        rw [spl_ext hp ho e0]
        rw [e0] at ih
        simp at ih ⊢; omega
structure SpGood (p : Nat → Bool) (k : Nat) (l : List (Nat × Nat)) : Prop where
  in_ : ∀ x ∈ l, x.1 ≤ x.2 ∧ x.2 < k
  gap : l.Pairwise fun x y => x.2 + 1 < y.1
  cov : ∀ e, e < k → (p e = true ↔ ∃ x ∈ l, x.1 ≤ e ∧ e ≤ x.2)
  far : opn p k = false → ∀ x ∈ l, x.2 + 1 < k

theorem spl_good (p : Nat → Bool) : ∀ k, SpGood p k (spl p k)
  | 0 => ⟨fun x h => by simp [spl] at h, by simp [spl], fun e h => by omega, fun _ x h => by simp [spl] at h⟩
  | k + 1 => by
    have ih := spl_good p k
    cases hp : p k with
    | false =>
      rw [spl_no hp]
      refine ⟨fun x hx => ⟨(ih.in_ x hx).1, by have := (ih.in_ x hx).2; omega⟩, ih.gap, fun e he => ?_, fun _ x hx => by have := (ih.in_ x hx).2; omega⟩
      by_cases h : e < k
      · exact ih.cov e h
      · obtain rfl : e = k := by omega
        rw [hp]
        refine ⟨fun h => (by cases h), fun ⟨x, hx, h1, h2⟩ => ?_⟩
        have := (ih.in_ x hx).2; omega
    | true =>
      cases ho : opn p k with
      | false =>
        rw [spl_new hp ho]
        refine ⟨fun x hx => ?_, ?_, fun e he => ?_, fun h => ?_⟩
        · rcases List.mem_append.1 hx with hx | hx
          · exact ⟨(ih.in_ x hx).1, by have := (ih.in_ x hx).2; omega⟩
          · simp at hx; subst hx; exact ⟨Nat.le_refl _, Nat.lt_succ_self _⟩
        · rw [List.pairwise_append]
          refine ⟨ih.gap, by simp, fun x hx y hy => ?_⟩
          simp at hy; subst hy; exact ih.far ho x hx
        · by_cases h : e < k
          · rw [ih.cov e h]
            refine ⟨fun ⟨x, hx, h1⟩ => ⟨x, List.mem_append.2 (.inl hx), h1⟩, fun ⟨x, hx, h1, h2⟩ => ?_⟩
            rcases List.mem_append.1 hx with hx | hx
            · exact ⟨x, hx, h1, h2⟩
            · simp at hx; subst hx; simp at h1; omega
          · obtain rfl : e = k := by omega
            exact ⟨fun _ => ⟨(e, e), by simp, Nat.le_refl _, Nat.le_refl _⟩, fun _ => hp⟩
        · have h' : p k = false := h
          rw [hp] at h'; cases h'
      | true =>
        obtain ⟨l0, a, e0⟩ := spl_open ho
        rw [spl_ext hp ho e0]
        rw [e0] at ih
        have hk : 0 < k := by cases k with | zero => cases ho | succ j => omega
        have ha := ih.in_ (a, k - 1) (by simp)
        simp only at ha
        refine ⟨fun x hx => ?_, ?_, fun e he => ?_, fun h => ?_⟩
        · rcases List.mem_append.1 hx with hx | hx
          · have := ih.in_ x (List.mem_append.2 (.inl hx)); omega
          · simp at hx; subst hx; simp only; omega
        · have hg := ih.gap
          rw [List.pairwise_append] at hg ⊢
          refine ⟨hg.1, by simp, fun x hx y hy => ?_⟩
          simp at hy; subst hy
          exact hg.2.2 x hx (a, k - 1) (by simp)
        · by_cases h : e < k
          · rw [ih.cov e h]
            constructor
            · rintro ⟨x, hx, h1, h2⟩
              rcases List.mem_append.1 hx with hx | hx
              · exact ⟨x, List.mem_append.2 (.inl hx), h1, h2⟩
              · simp at hx; subst hx; exact ⟨(a, k), by simp, h1, by simp only; omega⟩
            · rintro ⟨x, hx, h1, h2⟩
              rcases List.mem_append.1 hx with hx | hx
              · exact ⟨x, List.mem_append.2 (.inl hx), h1, h2⟩
              · simp at hx; subst hx; exact ⟨(a, k - 1), by simp, h1, by simp only; omega⟩
          · obtain rfl : e = k := by omega
            exact ⟨fun _ => ⟨(a, e), by simp, by simp only; omega, Nat.le_refl _⟩, fun _ => hp⟩
        · have h' : p k = false := h
          rw [hp] at h'; cases h'

/-- Spans as cells. -/
def spC (l : List (Nat × Nat)) : List Value := l.flatMap fun x => [.int .u8 (x.1 : Int), .int .u8 (x.2 : Int)]
theorem spC_append (a b : List (Nat × Nat)) : spC (a ++ b) = spC a ++ spC b := by simp [spC]
theorem spC_length (l : List (Nat × Nat)) : (spC l).length = 2 * l.length := by
  induction l with
  | nil => rfl
  | cons x l ih => have : spC (x :: l) = [.int .u8 (x.1 : Int), .int .u8 (x.2 : Int)] ++ spC l := rfl
                   rw [this, List.length_append, ih, List.length_cons]; simp; omega
theorem spC_set (l : List (Nat × Nat)) (a b c : Nat) : (spC (l ++ [(a, b)])).set (l.length * 2 + 1) (.int .u8 (c : Int)) = spC (l ++ [(a, c)]) := by
  rw [spC_append, spC_append, List.set_append]
  rw [if_neg (by rw [spC_length]; omega), spC_length, show l.length * 2 + 1 - 2 * l.length = 1 by omega]
  rfl
theorem spC_at (l : List (Nat × Nat)) : ∀ (i : Nat) (h : i < l.length), (spC l)[i * 2]? = some (.int .u8 (l[i].1 : Int)) ∧ (spC l)[i * 2 + 1]? = some (.int .u8 (l[i].2 : Int)) := by
  induction l with
  | nil => intro i h; simp at h
  | cons x l ih =>
    intro i h
    have e : spC (x :: l) = .int .u8 (x.1 : Int) :: .int .u8 (x.2 : Int) :: spC l := rfl
    rw [e]
    cases i with
    | zero => exact ⟨rfl, rfl⟩
    | succ j =>
      have := ih j (by simpa using h)
      rw [show (j + 1) * 2 = j * 2 + 1 + 1 by omega]
      simpa using this

end Go.Proofs.YtpcpmjaphjkphaaDoor

/-
  Walks of the document's bracket expressions: item, least.
-/
namespace Go.Proofs.YtpcpmjaphjkphaaDoor
open Go.RowKit

theorem spl_one {p : Nat → Bool} {c : Nat} (hp : ∀ e, e < 256 → p e = decide (e = c)) : ∀ k, k ≤ 256 → spl p k = if c < k then [(c, c)] else []
  | 0, _ => by simp [spl]
  | k + 1, hk => by
    have ih := spl_one hp k (by omega)
    have h1 := hp k (by omega)
    rw [spl, h1]
    by_cases hc : k = c
    · subst hc
      have ho : opn p k = false := by
        cases k with
        | zero => rfl
        | succ j => rw [opn, hp j (by omega)]; simp
      simp [ho, ih]
    · rw [if_neg (by simpa using hc), ih]
      by_cases hlt : c < k
      · rw [if_pos hlt, if_pos (by omega)]
      · rw [if_neg hlt, if_neg (by omega)]
theorem spl_spn {c : Nat} (hc : c < 256) : spl (spn c c).has 256 = [(c, c)] := by
  rw [spl_one (c := c) (fun e he => ?_) 256 (Nat.le_refl _), if_pos hc]
  rw [has_spn _ _ _ hc hc he, Bool.eq_iff_iff]
  simp; omega

end Go.Proofs.YtpcpmjaphjkphaaDoor

/-
  Walks of both Parses where the place is out of the text.
-/
namespace Go.Proofs.YtpcpmjaphjkphaaDoor
open Go.RowKit

def OutAns (w : World) (e : Ending) (w' : World) : Prop := e = .returned (.tuple #[setV S4.zero, .int .i64 0, .int .i64 1]) ∧ Fr nob w w'

theorem results_setR3 {fn : Func} {p q r : Tmp} (h : fn.results = #[.cell p 48, .tmp q, .tmp r]) {tmps : Array Value} {b : Nat} (ht : tmps.getD p undef = .pointer (some ⟨b, 0, none⟩)) {u v : Value} (hq : tmps.getD q undef = u) (hr : tmps.getD r undef = v) {W : World} {s : S4}
    (hb : W.heap[b]? = some (.cells #[.int .u64 s.a, .int .u64 s.b, .int .u64 s.c, .int .u64 s.d] 48 (0, 0))) : (results fn tmps).run Tryd.prog W = .ok (.tuple #[setV s, u, v]) W := by
  have c0 := cell_at (j := 0) (v := .int .u64 s.a) hb rfl
  have c1 := cell_at (j := 1) (v := .int .u64 s.b) hb rfl
  have c2 := cell_at (j := 2) (v := .int .u64 s.c) hb rfl
  have c3 := cell_at (j := 3) (v := .int .u64 s.d) hb rfl
  have ht' : tmps[p]?.getD undef = .pointer (some ⟨b, 0, none⟩) := by rw [← ht]; simp
  have hq' : tmps[q]?.getD undef = u := by rw [← hq]; simp
  have hr' : tmps[r]?.getD undef = v := by rw [← hr]; simp
  simp only [results, h]
  simp [ht', hq', hr', go_sem, c0, c1, c2, c3]

set_option maxRecDepth 100000 in
set_option maxHeartbeats 2000000 in
theorem parse_out (l : List UInt8) (a : Int) (w : World) (h : a < 0 ∨ (l.length : Int) < a) :
    Calls Tryd.prog 76 #[.string ⟨l.toArray⟩, .int .i64 a] w (OutAns w) := by
  obtain ⟨w0, hw0⟩ : ∃ w0, w0 = w.alloc (.cells #[.int .u64 0, .int .u64 0, .int .u64 0, .int .u64 0] 37) := ⟨_, rfl⟩
  have hz : w0.heap[w.heap.size]? = some (.cells #[.int .u64 0, .int .u64 0, .int .u64 0, .int .u64 0] 37 (0, 0)) := by rw [hw0]; exact newAt _ _
  have F := Lib.hid (show Fr nob w w0 by rw [hw0]; exact (Fr.refl _ _).alloc _)
  have rz := rule4 hz
  have HZ := Lib.hid hz; have HW := Lib.hid hw0; clear hz hw0
  by_cases h0 : a < 0
  · clear h
    go_enter Tryd.func76, Tryd.ntmps76
    iterate 14 go_step
    rw [← HW.out]
    go_wp2
    (try simp only [Exit.inBlock, Exit.then])
    refine bodyPost_ret (results_set3 (s := S4.zero) (by rfl) (by rfl) (by rfl) (by rfl) (setFour_heap HZ.out _ _ _ _)) rfl ⟨?_, setFour_frS F.out (Nat.le_refl _) _ _ _ _⟩
    rfl
  · have h1 : (l.length : Int) < a := h.resolve_left h0
    clear h
    go_enter Tryd.func76, Tryd.ntmps76
    iterate 14 go_step
    rw [← HW.out]
    go_wp2
    (try simp only [Exit.inBlock, Exit.then])
    refine bodyPost_ret (results_set3 (s := S4.zero) (by rfl) (by rfl) (by rfl) (by rfl) (setFour_heap HZ.out _ _ _ _)) rfl ⟨?_, setFour_frS F.out (Nat.le_refl _) _ _ _ _⟩
    rfl

end Go.Proofs.YtpcpmjaphjkphaaDoor

/-
  Walks of the document's Parse. Printed by tools/rparse02.py.
-/
namespace Go.Proofs.YtpcpmjaphjkphaaDoor
open Go.RowKit

theorem stop_seq {P : Program} {Q : Exit → Act → World → Prop} {a : Act} {w : World} {ops : Array Oper} {b : Bool} {c : Code} (n : Nat) (h : ∀ X : Prop, Hid (((Code.region n ops b).seq c).wp P Q a w → X) → X) : ((Code.region n ops b).seq c).wp P Q a w := h _ (Lib.hid id)
abbrev AtR (w : World) (b : Nat) (s : S4) : Prop := w.heap[b]? = some (.cells #[.int .u64 s.a, .int .u64 s.b, .int .u64 s.c, .int .u64 s.d] 48 (0, 0))
def RS (l : List UInt8) (F : (Int × Nat) ⊕ (S4 × Nat)) (fst : Bool) (n k : Nat) (acc : S4) : Prop :=
  if fst then acc = S4.zero ∧ n = l.length + 2 ∧ lopF l (l.length + 1) (prt l k) = F else lop l n k acc = F
theorem orF_zero {l : List UInt8} {k : Nat} : orF S4.zero (prt l k) = prt l k := by
  cases h : prt l k with
  | inl z => rfl
  | inr x => have := (prt_next h).2.2; simp only [orF]; rw [zero_or this]
theorem RS.go {l : List UInt8} {F : (Int × Nat) ⊕ (S4 × Nat)} {fst : Bool} {m k : Nat} {acc : S4} (h : RS l F fst (m + 1) k acc) (hg : fst = true ∨ l[k]? ≠ some 93) : lopF l m (orF acc (prt l k)) = F := by
  unfold RS at h
  cases fst with
  | true =>
    simp only [if_true] at h
    obtain ⟨rfl, h1, h2⟩ := h
    obtain rfl : m = l.length + 1 := by omega
    rw [orF_zero]; exact h2
  | false =>
    rw [if_neg (by simp)] at h
    rw [← h]
    exact (lop_go (hg.resolve_left (by simp))).symm
theorem RS.halt {l : List UInt8} {F : (Int × Nat) ⊕ (S4 × Nat)} {m k : Nat} {acc : S4} (h : RS l F false (m + 1) k acc) (hg : l[k]? = some 93) : F = .inr (acc, k) := by
  unfold RS at h
  rw [if_neg (by simp)] at h
  rw [← h]; exact lop_end hg
theorem itmN_err {l : List UInt8} {a : Nat} {k : UInt8} {z : Int × Nat} (h : itmN l a k = .inl z) : z.1 ≠ 0 := by
  unfold itmN at h
  split at h
  · injection h with h; subst h; simp
  · split at h
    · split at h
      · injection h with h; subst h; simp
      · cases h
    · split at h
      · cases h
      · injection h with h; subst h; simp
theorem itm_err {l : List UInt8} {a : Nat} {z : Int × Nat} (h : itm l a = .inl z) : z.1 ≠ 0 := by
  unfold itm at h
  split at h
  · injection h with h; subst h; simp
  · split at h
    · cases h
    · split at h
      · exact itmN_err h
      · cases h
theorem RS.next {l : List UInt8} {F : (Int × Nat) ⊕ (S4 × Nat)} {m k p : Nat} {acc s : S4} (h : lopF l m (orF acc (prt l k)) = F) (hn : lopN l m (orF acc (prt l k))) (hp : prt l k = .inr (s, p)) :
    RS l F false m p (acc.or s) ∧ p ≤ l.length ∧ l.length < m + p := by
  rw [hp] at h hn
  refine ⟨?_, hn _ rfl⟩
  unfold RS
  rw [if_neg (by simp)]
  exact h
theorem RS.bad {l : List UInt8} {F : (Int × Nat) ⊕ (S4 × Nat)} {m k : Nat} {acc : S4} {z : Int × Nat} (h : lopF l m (orF acc (prt l k)) = F) (hp : prt l k = .inl z) : F = .inl z := by
  rw [← h, hp]; rfl
theorem rng_yes {l : List UInt8} {k : Nat} (h : rng l k = true) : ∃ h : k + 1 < l.length, l[k] = 45 ∧ l[k + 1] ≠ 93 := by
  unfold rng at h
  simp only [Bool.and_eq_true, decide_eq_true_eq, beq_iff_eq, Bool.not_eq_true', beq_eq_false_iff_ne] at h
  obtain ⟨⟨h1, h2⟩, h3⟩ := h
  exact ⟨h1, (List.getElem?_eq_some_iff.1 h2).2, fun e => h3 (by rw [List.getElem?_eq_getElem h1, e])⟩
theorem rng_no {l : List UInt8} {k : Nat} (h : rng l k = false) : l.length ≤ k + 1 ∨ (∃ h : k + 1 < l.length, l[k] ≠ 45) ∨ ∃ h : k + 1 < l.length, l[k] = 45 ∧ l[k + 1] = 93 := by
  by_cases h1 : k + 1 < l.length
  · by_cases h2 : l[k] = 45
    · by_cases h3 : l[k + 1] = 93
      · exact .inr (.inr ⟨h1, h2, h3⟩)
      · exfalso
        unfold rng at h
        rw [List.getElem?_eq_getElem h1, List.getElem?_eq_getElem (by omega : k < l.length)] at h
        simp [h1, h2, h3] at h
    · exact .inr (.inl ⟨h1, h2⟩)
  · exact .inl (by omega)
def PAns (R : (Int × Nat) ⊕ (S4 × Nat)) (w : World) (e : Ending) (w' : World) : Prop := e = .returned (prsV R) ∧ Fr nob w w'
abbrev RInv (l : List UInt8) (w : World) (F : (Int × Nat) ⊕ (S4 × Nat)) (n : Nat) (v1 v10 : Value) (wr : World) : Prop :=
  ∃ (k : Nat) (acc : S4) (fst : Bool), v1 = .int .i64 k ∧ v10 = .bool fst ∧ AtR wr (w.heap.size + 1) acc ∧ AtR wr w.heap.size S4.zero ∧ AtR wr (w.heap.size + 2) S4.zero ∧ Fr nob w wr ∧ acc.fit ∧ k ≤ l.length ∧ l.length < n + k ∧ RS l F fst n k acc

end Go.Proofs.YtpcpmjaphjkphaaDoor

/-
  Walks of the document's Parse. Printed by tools/rparse02.py.
-/
namespace Go.Proofs.YtpcpmjaphjkphaaDoor
open Go.RowKit

end Go.Proofs.YtpcpmjaphjkphaaDoor

/-
  Walks of package bracket: Parse. Printed by tools/parse02.py.
-/
namespace Go.Proofs.YtpcpmjaphjkphaaDoor
open Go.RowKit

abbrev PInv (l : List UInt8) (w0 : World) (b r4 r9 : Nat) (F : (Int × Nat) ⊕ (S4 × Nat)) (n : Nat) (wr : World) : Prop :=
  ∃ R s, PtEnd b l 0 s R wr ∧ At4 wr r9 s ∧ At4 wr r4 S4.zero ∧ Fr nob w0 wr ∧ lopF l n R = F ∧ lopN l n R

set_option maxRecDepth 100000 in
set_option maxHeartbeats 8000000 in
theorem parse_any (l : List UInt8) (a : Nat) (w : World) (hl : l.length ≤ 100000) (ha : a ≤ l.length) (hE : Env w) :
    Calls Tryd.prog 76 #[.string ⟨l.toArray⟩, .int .i64 a] w fun e w' => e = .returned (prsV (prs l a)) ∧ Fr nob w w' := by
  obtain ⟨w0, hw0⟩ : ∃ w0, w0 = (w.alloc (.cells #[.int .u64 0, .int .u64 0, .int .u64 0, .int .u64 0] 37)).alloc (.cells #[.string ⟨l.toArray⟩, .int .i64 a, .int .i64 0, .int .i64 0] 130) := ⟨_, rfl⟩
  have f0 : Fr nob w w0 := by rw [hw0]; exact ((Fr.refl _ _).alloc _).alloc _
  have hw2 := hE.1
  have hz0 : w0.heap[w.heap.size]? = some (.cells #[.int .u64 0, .int .u64 0, .int .u64 0, .int .u64 0] 37 (0, 0)) := by rw [hw0]; exact heap_alloc_lt _ (newAt _ _)
  have hr0 : Rd w0 (w.heap.size + 1) l a 0 0 := by
    rw [hw0]; unfold Rd
    have := newAt (w.alloc (.cells #[.int .u64 0, .int .u64 0, .int .u64 0, .int .u64 0] 37)) (.cells #[.string ⟨l.toArray⟩, .int .i64 a, .int .i64 0, .int .i64 0] 130)
    simpa using this
  have hb2 : 2 ≤ w.heap.size + 1 := Env.big hE
  have hE0 := hE.on f0
  obtain ⟨b, hb⟩ : ∃ b, w.heap.size + 1 = b := ⟨_, rfl⟩
  rw [hb] at hr0 hb2
  have rr0 := rule4 hr0
  have hal : (a : Int) ≤ l.length := by omega
  have ha0 : (0 : Int) ≤ a := by omega
  obtain ⟨d0, hd0⟩ : ∃ d, [94].isPrefixOf (l.drop a) = d := ⟨_, rfl⟩
  have hc0 : ∀ w', Fr nob w0 w' → _ := fun w' f => ahead_any b l [94] a 0 0 w' (by omega) (by simp) ha (hr0.on f)
  rw [hd0] at hc0
  have C0 := Lib.hid hc0; have HR0 := Lib.hid hr0; have HZ0 := Lib.hid hz0; have FW0 := Lib.hid f0; have HE0 := Lib.hid hE0; have HW0 := Lib.hid hw0; have HBB := Lib.hid hb
  have hbs : w.heap.size < b := by omega
  clear hc0 hr0 hz0 f0 hE0 hw0 hE hb hw2
  cases d0 with
  | true =>
    have HD0 := Lib.hid hd0; clear hd0
    go_enter Tryd.func76, Tryd.ntmps76
    go_wp2_with fail
    rw [← HW0.out]
    simp only [HBB.out]
    refine (C0.out w0 (Fr.refl _ _)).mono ?_
    rintro e w1 ⟨rfl, f1⟩
    have HR1 := Lib.hid (HR0.out.on f1); have HZ1 := Lib.hid (f1.heap HZ0.out (fun x => x)); have FW1 := Lib.hid (FW0.out.trans' f1); have HE1 := Lib.hid (HE0.out.on f1)
    clear f1
    have hlt : a + 1 ≤ l.length := by
      have := (List.getElem?_eq_some_iff.1 (pre1.1 HD0.out)).1
      omega
    have rr1 := rule4 HR1.out
    obtain ⟨w2, hw2⟩ : ∃ w2, w2 = w1.setCell ⟨b, 1, none⟩ (.int .i64 ((a : Int) + 1)) := ⟨_, rfl⟩
    have HR2 := Lib.hid (show Rd w2 b l ((a + 1 : Nat) : Int) 0 0 by
      rw [hw2, show ((a + 1 : Nat) : Int) = (a : Int) + 1 by omega]; exact heap_setCell_at HR1.out 1 _)
    have HZ2 := Lib.hid (show w2.heap[w.heap.size]? = some (.cells #[.int .u64 0, .int .u64 0, .int .u64 0, .int .u64 0] 37 (0, 0)) by rw [hw2]; exact heap_setCell_ne HZ1.out (by simp only; omega) _)
    have FW2 := Lib.hid (show Fr nob w w2 by rw [hw2]; exact Fr.setCell (p := ⟨b, 1, none⟩) FW1.out (fun h => absurd h (by simp only; omega)) _)
    have HE2 := Lib.hid (show Env w2 by rw [hw2]; exact HE1.out.on2 (Fr.setCell (S := fun k => k = b) (p := ⟨b, 1, none⟩) (Fr.refl _ _) (fun _ => rfl) _) hb2)
    have HW2 := Lib.hid hw2
    clear hw2
    go_wp2_with fail
    rw [← HW2.out]
    refine (part_any b l (a + 1) 0 w2 hl hlt hb2 HE2.out HR2.out).mono ?_
    rintro e w3 ⟨s, rfl, hs, f3, hend⟩
    have hz3 := f3.heap HZ2.out (fun e => by omega)
    obtain ⟨w4, hw4⟩ : ∃ w4, w4 = w3.alloc (.cells #[.int .u64 s.a, .int .u64 s.b, .int .u64 s.c, .int .u64 s.d] 37) := ⟨_, rfl⟩
    have f34 : Fr nob w3 w4 := by rw [hw4]; exact (Fr.refl _ _).alloc _
    have hbw2 := lt_heap HR2.out
    have hz4 := f34.heap hz3 (fun x => x)
    have hlz4 := lt_heap hz3
    obtain ⟨r9, hr9⟩ : ∃ r, w3.heap.size = r := ⟨_, rfl⟩
    have h94 : At4 w4 r9 s := by rw [hw4, ← hr9]; exact newAt _ _
    have hb9 : b < r9 := by rw [← hr9]; exact Nat.lt_of_lt_of_le hbw2 f3.size
    have F4 := Lib.hid ((FW2.out.trans f3 (fun i hi e => by omega)).trans' f34)
    have HE4 := Lib.hid ((HE2.out.on2 f3 hb2).on f34)
    have hend4 := hend.to (w' := w4) (fun x r q h => h.on f34)
    have hF : prs l a = prsNot _ (lopF l (l.length + 1) (prt l (a + 1))) := prs_yes HD0.out
    have hN0 : lopN l (l.length + 1) (prt l (a + 1)) := fun x hx => by
      have := prt_next hx; exact ⟨this.2.1, by omega⟩
    obtain ⟨F, hFF⟩ : ∃ F, lopF l (l.length + 1) (prt l (a + 1)) = F := ⟨_, rfl⟩
    rw [hFF] at hF
    have HF := Lib.hid hF; have HW4 := Lib.hid hw4
    have HI := Lib.hid (show PInv l w b w.heap.size r9 F (l.length + 1) w4 from ⟨_, s, hend4, h94, hz4, F4.out, hFF, hN0⟩)
    have H9 := Lib.hid hr9
    clear hz3 hw4 f34 hz4 h94 hend hend4 hF hN0 hFF hr9 hs f3
    go_wp2_with fail
    rw [← HW4.out]
    simp only [H9.out]
    go_loopg [] (l.length + 1) (fun n wr => PInv l w b w.heap.size r9 F n wr ∧ Env wr)
    case atStart => exact ⟨HI.out, HE4.out⟩
    case round =>
      obtain ⟨⟨R, o, hend, h9, hz, hfr, hF, hN⟩, hEr⟩ := hrel
      have rz := rule4 hz
      have rq9 := rule4 h9
      have HEND := Lib.hid hend; have HZ := Lib.hid hz; have HH9 := Lib.hid h9; have HFR := Lib.hid hfr; have HER := Lib.hid hEr
      clear hend hz h9 hfr hEr
      have HF0 := Lib.hid hF; clear hF
      cases R with
      | inl z =>
        obtain ⟨a', h1, h2, h3⟩ := HEND.out
        have rr := rule4 h3
        have t1 : (z.1 == 0) = false := by simpa using h2
        have t2 : (z.1 != 0) = true := by simpa using h2
        have HFz := Lib.hid (HF0.out.symm : F = .inl z)
        have HRz := Lib.hid h3
        clear h1 h2 h3 hN
        have hne : w.heap.size ≠ b := by omega
        have HQ := Lib.hid (show RQ wr b (.int .i64 z.1) (.int .i64 z.2) from ⟨cell_at HRz.out rfl, cell_at HRz.out rfl⟩)
        have HQd := Lib.hid (show RQ wr.drew b (.int .i64 z.1) (.int .i64 z.2) from ⟨cell_at HRz.out rfl, cell_at HRz.out rfl⟩)
        have HZd := Lib.hid (show At4 wr.drew w.heap.size S4.zero from HZ.out)
        have FRd := Lib.hid HFR.out.drew
        go_wp2_with fail
        go_region_held3 (fun w' => RQ w' b (.int .i64 z.1) (.int .i64 z.2)) (repeat (first | (with_reducible exact HQ.out) | (with_reducible exact HQd.out) | (with_reducible refine RQ.set ?_ hne _) | (with_reducible refine RQ.drew ?_))) (fail)
        all_goals
          go_wp2
          (try simp only [Exit.inBlock, Exit.then])
          refine bodyPost_ret (results_set3 (s := S4.zero) rfl rfl rfl rfl (setFour_heap HZd.out _ _ _ _)) rfl ⟨?_, setFour_frS FRd.out (Nat.le_refl _) _ _ _ _⟩
          rw [HF.out, HFz.out]; rfl
      | inr x =>
        obtain ⟨o1, n0⟩ := x
        obtain ⟨hso, h3⟩ := HEND.out
        simp only at hso
        subst hso
        obtain ⟨hn0, hng⟩ := hN _ rfl
        simp only at hn0 hng h3 rq9
        obtain ⟨m, rfl⟩ : ∃ m, gk = m + 1 := ⟨gk - 1, by omega⟩
        have rr := rule4 h3
        have hnl : (n0 : Int) ≤ l.length := by omega
        have hn00 : (0 : Int) ≤ n0 := by omega
        have hwr : IntKind.i64.wrap ((n0 : Int) + 1) = (n0 : Int) + 1 := IntWalk.i64_in _ (by omega)
        obtain ⟨D, hD⟩ : ∃ d, [93].isPrefixOf (l.drop n0) = d := ⟨_, rfl⟩
        have hc1 := ahead_any b l [93] n0 0 0 wr (by omega) (by simp) hn0 h3
        rw [hD] at hc1
        have C1 := Lib.hid hc1; have HR := Lib.hid h3; have HD := Lib.hid hD
        clear hc1 h3 hD hN HEND
        cases D with
        | true =>
          have HFy := Lib.hid (show F = .inr (o, n0) by rw [← HF0.out]; exact lop_end (pre1.1 HD.out))
          go_wp2_with fail
          refine C1.out.mono ?_
          rintro e w5 ⟨rfl, f5⟩
          have HR5 := Lib.hid (HR.out.on f5); have HZ5 := Lib.hid (f5.heap HZ.out (fun x => x)); have H95 := Lib.hid (f5.heap HH9.out (fun x => x)); have F5 := Lib.hid (HFR.out.trans' f5)
          go_wp2_with fail
          refine (not_lit o w5).mono ?_
          obtain ⟨N, hNo⟩ : ∃ N, o.not = N := ⟨_, rfl⟩
          rw [hNo]
          rintro e w6 ⟨rfl, f6⟩
          obtain ⟨w7, hw7⟩ : ∃ w7, w7 = (((w6.setCell ⟨r9, 0, none⟩ (.int .u64 N.a)).setCell ⟨r9, 1, none⟩ (.int .u64 N.b)).setCell ⟨r9, 2, none⟩ (.int .u64 N.c)).setCell ⟨r9, 3, none⟩ (.int .u64 N.d) := ⟨_, rfl⟩
          have h97 : At4 w7 r9 N := by rw [hw7]; exact setFour_heap (f6.heap H95.out (fun x => x)) _ _ _ _
          have hr7 : Rd w7 b l n0 0 0 := by rw [hw7]; exact setFour_old (HR5.out.on f6) (by omega) _ _ _ _
          have hz7 : At4 w7 w.heap.size S4.zero := by rw [hw7]; exact setFour_old (f6.heap HZ5.out (fun x => x)) (by omega) _ _ _ _
          have F7 := Lib.hid (show Fr nob w w7 by rw [hw7]; exact setFour_frS (F5.out.trans' f6) (by omega) _ _ _ _)
          have HNo := Lib.hid hNo
          have HW7 := Lib.hid hw7
          have rn6 := rule4 (f6.heap H95.out (fun x => x))
          clear hNo hw7
          go_wp2_with fail
          rw [← HW7.out]
          have rr7 := rule4 hr7
          have rn7 := rule4 h97
          have rz7 := rule4 hz7
          have HZ7 := Lib.hid hz7; have HR7 := Lib.hid hr7; have H97 := Lib.hid h97
          clear hr7 h97 hz7
          have hne : w.heap.size ≠ b := by omega
          have hne9 : w.heap.size ≠ r9 := by omega
          have HQ7 := Lib.hid (show RA w7 b (.int .i64 n0) r9 N from ⟨cell_at HR7.out rfl, Q4.of H97.out⟩)
          have HQ7d := Lib.hid (show RA (World.drew w7) b (.int .i64 n0) r9 N from ⟨cell_at HR7.out rfl, Q4.of H97.out⟩)
          have HZd := Lib.hid (show At4 (World.drew w7) w.heap.size S4.zero from HZ7.out)
          have FRd := Lib.hid (Fr.drew F7.out)
          go_region_held3 (fun w' => RA w' b (.int .i64 n0) r9 N) (repeat (first | (with_reducible exact HQ7.out) | (with_reducible exact HQ7d.out) | (with_reducible refine RA.set ?_ hne hne9 _) | (with_reducible refine RA.drew ?_))) (fail)
          all_goals
            go_wp2
            (try simp only [Exit.inBlock, Exit.then])
            refine bodyPost_ret (results_set3 (s := N) rfl rfl rfl rfl (setFour_heap HZd.out _ _ _ _)) rfl ⟨?_, setFour_frS FRd.out (Nat.le_refl _) _ _ _ _⟩
            rw [HF.out, HFy.out]
            rw [← HNo.out]; rfl
        | false =>
          have hne : l[n0]? ≠ some 93 := fun e => by rw [pre1.2 e] at HD; exact absurd HD.out (by simp)
          have HFn := Lib.hid (show lopF l m (orF o (prt l n0)) = F by rw [← HF0.out]; exact (lop_go hne).symm)
          have HNn := Lib.hid (show lopN l m (orF o (prt l n0)) from lopN_go (by omega))
          clear hne
          go_wp2_with fail
          refine C1.out.mono ?_
          rintro e w5 ⟨rfl, f5⟩
          have HR5 := Lib.hid (HR.out.on f5.drew); have HZ5 := Lib.hid (f5.drew.heap HZ.out (fun x => x)); have H95 := Lib.hid (f5.drew.heap HH9.out (fun x => x)); have F5 := Lib.hid (HFR.out.trans' f5.drew); have HE5 := Lib.hid (HER.out.on f5.drew)
          have HQ5 := Lib.hid (Q4.of (f5.heap HH9.out (fun x => x))); have HQ5d := Lib.hid (Q4.of H95.out)
          go_wp2_with fail
          go_region_with (first | (go_at_call 84; (refine (part_any b l n0 0 w5.drew hl hn0 hb2 HE5.out HR5.out).mono ?_); rintro e w6 ⟨s', rfl, hs', f6, hend6⟩; have H96 := Lib.hid (f6.heap H95.out (fun e => by omega)); have HQ6 := Lib.hid (Q4.of H96.out); have HZ6 := Lib.hid (f6.heap HZ5.out (fun e => by omega)); have HE6 := Lib.hid (HE5.out.on2 f6 hb2); have F6 := Lib.hid (F5.out.trans f6 (fun i hi e => by omega)); have HEND6 := Lib.hid (hend6.or (t := o)); have rn6 := rule4 H96.out; clear f6 hend6) | (go_at_call 85; (refine (or_lit o s' w6).mono ?_); obtain ⟨N, hNo⟩ : ∃ N, o.or s' = N := ⟨_, rfl⟩; rw [hNo] at HEND6 ⊢; rintro e w7 ⟨rfl, f7⟩; have H97 := Lib.hid (f7.heap H96.out (fun x => x)); have HQ7 := Lib.hid (Q4.of H97.out); have HZ7 := Lib.hid (f7.heap HZ6.out (fun x => x)); have HE7 := Lib.hid (HE6.out.on f7); have F7 := Lib.hid (F6.out.trans' f7); have HEND7 := Lib.hid (HEND6.out.to (w' := w7) (fun x r q h => h.on f7)); have rn7 := rule4 H97.out; clear f7))
          all_goals
            have hfin := HFn.out
            have hfn := HNn.out
            obtain ⟨w8, hw8⟩ : ∃ w8, w8 = (((w7.setCell ⟨r9, 0, none⟩ (.int .u64 N.a)).setCell ⟨r9, 1, none⟩ (.int .u64 N.b)).setCell ⟨r9, 2, none⟩ (.int .u64 N.c)).setCell ⟨r9, 3, none⟩ (.int .u64 N.d) := ⟨_, rfl⟩
            have HI8 := Lib.hid (show PInv l w b w.heap.size r9 F m w8 ∧ Env w8 by
              rw [hw8]
              refine ⟨⟨_, N, HEND7.out.to (fun x r q h => setFour_old h (by omega) _ _ _ _), setFour_heap H97.out _ _ _ _, setFour_old HZ7.out (by omega) _ _ _ _, setFour_frS F7.out (by omega) _ _ _ _, hfin, hfn⟩, HE7.out.on2 (setFour_one _ _ _ _ _ _) (by omega)⟩)
            have HW8 := Lib.hid hw8
            clear hw8 hfin hfn
            go_wp2_with fail
            rw [← HW8.out]
            go_roundg m
            case measure => omega
            case rel => exact HI8.out
  | false =>
    have HD0 := Lib.hid hd0; clear hd0
    go_enter Tryd.func76, Tryd.ntmps76
    go_wp2_with fail
    rw [← HW0.out]
    simp only [HBB.out]
    refine (C0.out w0 (Fr.refl _ _)).mono ?_
    rintro e w1 ⟨rfl, f1⟩
    have HR1 := Lib.hid (HR0.out.on f1); have HZ1 := Lib.hid (f1.heap HZ0.out (fun x => x)); have FW1 := Lib.hid (FW0.out.trans' f1); have HE1 := Lib.hid (HE0.out.on f1)
    clear f1
    obtain ⟨w2, hw2⟩ : ∃ w2, w2 = w1 := ⟨_, rfl⟩
    rw [← hw2] at HR1 HZ1 FW1 HE1
    have HR2 := HR1; have HZ2 := HZ1; have FW2 := FW1; have HE2 := HE1
    go_wp2_with fail
    rw [← hw2]
    clear hw2
    refine (part_any b l (a) 0 w2 hl ha hb2 HE2.out HR2.out).mono ?_
    rintro e w3 ⟨s, rfl, hs, f3, hend⟩
    have hz3 := f3.heap HZ2.out (fun e => by omega)
    obtain ⟨w4, hw4⟩ : ∃ w4, w4 = w3.alloc (.cells #[.int .u64 s.a, .int .u64 s.b, .int .u64 s.c, .int .u64 s.d] 37) := ⟨_, rfl⟩
    have f34 : Fr nob w3 w4 := by rw [hw4]; exact (Fr.refl _ _).alloc _
    have hbw2 := lt_heap HR2.out
    have hz4 := f34.heap hz3 (fun x => x)
    have hlz4 := lt_heap hz3
    obtain ⟨r9, hr9⟩ : ∃ r, w3.heap.size = r := ⟨_, rfl⟩
    have h94 : At4 w4 r9 s := by rw [hw4, ← hr9]; exact newAt _ _
    have hb9 : b < r9 := by rw [← hr9]; exact Nat.lt_of_lt_of_le hbw2 f3.size
    have F4 := Lib.hid ((FW2.out.trans f3 (fun i hi e => by omega)).trans' f34)
    have HE4 := Lib.hid ((HE2.out.on2 f3 hb2).on f34)
    have hend4 := hend.to (w' := w4) (fun x r q h => h.on f34)
    have hF : prs l a = prsNot _ (lopF l (l.length + 1) (prt l (a))) := prs_no HD0.out
    have hN0 : lopN l (l.length + 1) (prt l (a)) := fun x hx => by
      have := prt_next hx; exact ⟨this.2.1, by omega⟩
    obtain ⟨F, hFF⟩ : ∃ F, lopF l (l.length + 1) (prt l (a)) = F := ⟨_, rfl⟩
    rw [hFF] at hF
    have HF := Lib.hid hF; have HW4 := Lib.hid hw4
    have HI := Lib.hid (show PInv l w b w.heap.size r9 F (l.length + 1) w4 from ⟨_, s, hend4, h94, hz4, F4.out, hFF, hN0⟩)
    have H9 := Lib.hid hr9
    clear hz3 hw4 f34 hz4 h94 hend hend4 hF hN0 hFF hr9 hs f3
    go_wp2_with fail
    rw [← HW4.out]
    simp only [H9.out]
    go_loopg [] (l.length + 1) (fun n wr => PInv l w b w.heap.size r9 F n wr ∧ Env wr)
    case atStart => exact ⟨HI.out, HE4.out⟩
    case round =>
      obtain ⟨⟨R, o, hend, h9, hz, hfr, hF, hN⟩, hEr⟩ := hrel
      have rz := rule4 hz
      have rq9 := rule4 h9
      have HEND := Lib.hid hend; have HZ := Lib.hid hz; have HH9 := Lib.hid h9; have HFR := Lib.hid hfr; have HER := Lib.hid hEr
      clear hend hz h9 hfr hEr
      have HF0 := Lib.hid hF; clear hF
      cases R with
      | inl z =>
        obtain ⟨a', h1, h2, h3⟩ := HEND.out
        have rr := rule4 h3
        have t1 : (z.1 == 0) = false := by simpa using h2
        have t2 : (z.1 != 0) = true := by simpa using h2
        have HFz := Lib.hid (HF0.out.symm : F = .inl z)
        have HRz := Lib.hid h3
        clear h1 h2 h3 hN
        have hne : w.heap.size ≠ b := by omega
        have HQ := Lib.hid (show RQ wr b (.int .i64 z.1) (.int .i64 z.2) from ⟨cell_at HRz.out rfl, cell_at HRz.out rfl⟩)
        have HQd := Lib.hid (show RQ wr.drew b (.int .i64 z.1) (.int .i64 z.2) from ⟨cell_at HRz.out rfl, cell_at HRz.out rfl⟩)
        have HZd := Lib.hid (show At4 wr.drew w.heap.size S4.zero from HZ.out)
        have FRd := Lib.hid HFR.out.drew
        go_wp2_with fail
        go_region_held3 (fun w' => RQ w' b (.int .i64 z.1) (.int .i64 z.2)) (repeat (first | (with_reducible exact HQ.out) | (with_reducible exact HQd.out) | (with_reducible refine RQ.set ?_ hne _) | (with_reducible refine RQ.drew ?_))) (fail)
        all_goals
          go_wp2
          (try simp only [Exit.inBlock, Exit.then])
          refine bodyPost_ret (results_set3 (s := S4.zero) rfl rfl rfl rfl (setFour_heap HZd.out _ _ _ _)) rfl ⟨?_, setFour_frS FRd.out (Nat.le_refl _) _ _ _ _⟩
          rw [HF.out, HFz.out]; rfl
      | inr x =>
        obtain ⟨o1, n0⟩ := x
        obtain ⟨hso, h3⟩ := HEND.out
        simp only at hso
        subst hso
        obtain ⟨hn0, hng⟩ := hN _ rfl
        simp only at hn0 hng h3 rq9
        obtain ⟨m, rfl⟩ : ∃ m, gk = m + 1 := ⟨gk - 1, by omega⟩
        have rr := rule4 h3
        have hnl : (n0 : Int) ≤ l.length := by omega
        have hn00 : (0 : Int) ≤ n0 := by omega
        have hwr : IntKind.i64.wrap ((n0 : Int) + 1) = (n0 : Int) + 1 := IntWalk.i64_in _ (by omega)
        obtain ⟨D, hD⟩ : ∃ d, [93].isPrefixOf (l.drop n0) = d := ⟨_, rfl⟩
        have hc1 := ahead_any b l [93] n0 0 0 wr (by omega) (by simp) hn0 h3
        rw [hD] at hc1
        have C1 := Lib.hid hc1; have HR := Lib.hid h3; have HD := Lib.hid hD
        clear hc1 h3 hD hN HEND
        cases D with
        | true =>
          have HFy := Lib.hid (show F = .inr (o, n0) by rw [← HF0.out]; exact lop_end (pre1.1 HD.out))
          go_wp2_with fail
          refine C1.out.mono ?_
          rintro e w5 ⟨rfl, f5⟩
          have HR5 := Lib.hid (HR.out.on f5); have HZ5 := Lib.hid (f5.heap HZ.out (fun x => x)); have H95 := Lib.hid (f5.heap HH9.out (fun x => x)); have F5 := Lib.hid (HFR.out.trans' f5)
          go_wp2_with fail
          have rr7 := rule4 HR5.out
          have rn7 := rule4 H95.out
          have rz7 := rule4 HZ5.out
          have HZ7 := HZ5; have F7 := F5; have HR7 := HR5; have H97 := H95
          have hne : w.heap.size ≠ b := by omega
          have hne9 : w.heap.size ≠ r9 := by omega
          have HQ7 := Lib.hid (show RA w5 b (.int .i64 n0) r9 o from ⟨cell_at HR7.out rfl, Q4.of H97.out⟩)
          have HQ7d := Lib.hid (show RA (World.drew w5) b (.int .i64 n0) r9 o from ⟨cell_at HR7.out rfl, Q4.of H97.out⟩)
          have HZd := Lib.hid (show At4 (World.drew w5) w.heap.size S4.zero from HZ7.out)
          have FRd := Lib.hid (Fr.drew F7.out)
          go_region_held3 (fun w' => RA w' b (.int .i64 n0) r9 o) (repeat (first | (with_reducible exact HQ7.out) | (with_reducible exact HQ7d.out) | (with_reducible refine RA.set ?_ hne hne9 _) | (with_reducible refine RA.drew ?_))) (fail)
          all_goals
            go_wp2
            (try simp only [Exit.inBlock, Exit.then])
            refine bodyPost_ret (results_set3 (s := o) rfl rfl rfl rfl (setFour_heap HZd.out _ _ _ _)) rfl ⟨?_, setFour_frS FRd.out (Nat.le_refl _) _ _ _ _⟩
            rw [HF.out, HFy.out]
            rfl
        | false =>
          have hne : l[n0]? ≠ some 93 := fun e => by rw [pre1.2 e] at HD; exact absurd HD.out (by simp)
          have HFn := Lib.hid (show lopF l m (orF o (prt l n0)) = F by rw [← HF0.out]; exact (lop_go hne).symm)
          have HNn := Lib.hid (show lopN l m (orF o (prt l n0)) from lopN_go (by omega))
          clear hne
          go_wp2_with fail
          refine C1.out.mono ?_
          rintro e w5 ⟨rfl, f5⟩
          have HR5 := Lib.hid (HR.out.on f5.drew); have HZ5 := Lib.hid (f5.drew.heap HZ.out (fun x => x)); have H95 := Lib.hid (f5.drew.heap HH9.out (fun x => x)); have F5 := Lib.hid (HFR.out.trans' f5.drew); have HE5 := Lib.hid (HER.out.on f5.drew)
          have HQ5 := Lib.hid (Q4.of (f5.heap HH9.out (fun x => x))); have HQ5d := Lib.hid (Q4.of H95.out)
          go_wp2_with fail
          go_region_with (first | (go_at_call 84; (refine (part_any b l n0 0 w5.drew hl hn0 hb2 HE5.out HR5.out).mono ?_); rintro e w6 ⟨s', rfl, hs', f6, hend6⟩; have H96 := Lib.hid (f6.heap H95.out (fun e => by omega)); have HQ6 := Lib.hid (Q4.of H96.out); have HZ6 := Lib.hid (f6.heap HZ5.out (fun e => by omega)); have HE6 := Lib.hid (HE5.out.on2 f6 hb2); have F6 := Lib.hid (F5.out.trans f6 (fun i hi e => by omega)); have HEND6 := Lib.hid (hend6.or (t := o)); have rn6 := rule4 H96.out; clear f6 hend6) | (go_at_call 85; (refine (or_lit o s' w6).mono ?_); obtain ⟨N, hNo⟩ : ∃ N, o.or s' = N := ⟨_, rfl⟩; rw [hNo] at HEND6 ⊢; rintro e w7 ⟨rfl, f7⟩; have H97 := Lib.hid (f7.heap H96.out (fun x => x)); have HQ7 := Lib.hid (Q4.of H97.out); have HZ7 := Lib.hid (f7.heap HZ6.out (fun x => x)); have HE7 := Lib.hid (HE6.out.on f7); have F7 := Lib.hid (F6.out.trans' f7); have HEND7 := Lib.hid (HEND6.out.to (w' := w7) (fun x r q h => h.on f7)); have rn7 := rule4 H97.out; clear f7))
          all_goals
            have hfin := HFn.out
            have hfn := HNn.out
            obtain ⟨w8, hw8⟩ : ∃ w8, w8 = (((w7.setCell ⟨r9, 0, none⟩ (.int .u64 N.a)).setCell ⟨r9, 1, none⟩ (.int .u64 N.b)).setCell ⟨r9, 2, none⟩ (.int .u64 N.c)).setCell ⟨r9, 3, none⟩ (.int .u64 N.d) := ⟨_, rfl⟩
            have HI8 := Lib.hid (show PInv l w b w.heap.size r9 F m w8 ∧ Env w8 by
              rw [hw8]
              refine ⟨⟨_, N, HEND7.out.to (fun x r q h => setFour_old h (by omega) _ _ _ _), setFour_heap H97.out _ _ _ _, setFour_old HZ7.out (by omega) _ _ _ _, setFour_frS F7.out (by omega) _ _ _ _, hfin, hfn⟩, HE7.out.on2 (setFour_one _ _ _ _ _ _) (by omega)⟩)
            have HW8 := Lib.hid hw8
            clear hw8 hfin hfn
            go_wp2_with fail
            rw [← HW8.out]
            go_roundg m
            case measure => omega
            case rel => exact HI8.out

end Go.Proofs.YtpcpmjaphjkphaaDoor

/-
  Both Parses, whatever the place; the fixed fact of chapter 2.
-/
namespace Go.Proofs.YtpcpmjaphjkphaaDoor
open Go.RowKit

/-- What Parse answers, whatever the place. -/
def prz (l : List UInt8) (a : Int) : (Int × Nat) ⊕ (S4 × Nat) := if a < 0 ∨ (l.length : Int) < a then .inl (1, 0) else prs l a.toNat
theorem prz_out {l : List UInt8} {a : Int} (h : a < 0 ∨ (l.length : Int) < a) : prz l a = .inl (1, 0) := if_pos h
theorem prz_in {l : List UInt8} {a : Nat} (h : a ≤ l.length) : prz l a = prs l a := by unfold prz; rw [if_neg (by omega)]; rfl

theorem parse_all (l : List UInt8) (a : Int) (w : World) (hl : l.length ≤ 100000) (hE : Env w) :
    Calls Tryd.prog 76 #[.string ⟨l.toArray⟩, .int .i64 a] w fun e w' => e = .returned (prsV (prz l a)) ∧ Fr nob w w' := by
  by_cases h : a < 0 ∨ (l.length : Int) < a
  · rw [prz_out h]; exact parse_out l a w h
  · obtain ⟨n, rfl⟩ : ∃ n : Nat, a = n := ⟨a.toNat, by omega⟩
    rw [prz_in (by omega)]
    exact parse_any l n w hl (by omega) hE

theorem prs_awake1 : ∃ N, prs [94, 97, 45, 93] 0 = .inr (N, 4) ∧ N.fit ∧ N.len = 254 ∧ N.has 45 = false := by
  refine ⟨((spn 97 97).or (spn 45 45)).not, by decide +kernel, fit_not _, by decide +kernel, by decide +kernel⟩
theorem prs_awake2 : prs [91, 58, 100, 105, 103, 105, 116, 58, 93, 45, 122, 93] 0 = .inl (1, 0) := by decide +kernel

end Go.Proofs.YtpcpmjaphjkphaaDoor

/-
  Type assertions at the nodes' types: what each answers.
-/
namespace Go.Proofs.YtpcpmjaphjkphaaDoor
open Go.RowKit

section
variable {P : Program}
theorem run_assert_hit {x a : TypeId} {fs : Array Field} (h : P.underlying a = some (.struct fs)) (v : Value) (w : World) :
    (Instr.typeAssert (.iface a v) x a true).run P w = .ok (.tuple #[v, .bool true]) w := by
  simp [Instr.typeAssert, run_underlying h]
theorem run_assert_miss {x a t : TypeId} {fs : Array Field} (h : P.underlying a = some (.struct fs)) {z : Value} (hz : ∀ w, (zeroValue a).run P w = .ok z w) (ht : t ≠ a) (v : Value) (w : World) :
    (Instr.typeAssert (.iface t v) x a true).run P w = .ok (.tuple #[z, .bool false]) w := by
  simp [Instr.typeAssert, run_underlying h, ht, hz]
theorem run_assert_nil {x a : TypeId} {fs : Array Field} (h : P.underlying a = some (.struct fs)) {z : Value} (hz : ∀ w, (zeroValue a).run P w = .ok z w) (w : World) :
    (Instr.typeAssert .nilIface x a true).run P w = .ok (.tuple #[z, .bool false]) w := by
  simp [Instr.typeAssert, run_underlying h, hz]
end

theorem as_hit_Empty (v : Value) (w : World) : (Instr.typeAssert (.iface 107 v) 26 107 true).run Tryd.prog w = .ok (.tuple #[v, .bool true]) w := run_assert_hit Tryd.underlying107 v w
theorem as_miss_Empty (t : TypeId) (v : Value) (w : World) (h : t ≠ 107) : (Instr.typeAssert (.iface t v) 26 107 true).run Tryd.prog w = .ok (.tuple #[.agg #[], .bool false]) w := run_assert_miss Tryd.underlying107 (fun _ => by kernel_rfl) h v w
theorem as_nil_Empty (w : World) : (Instr.typeAssert .nilIface 26 107 true).run Tryd.prog w = .ok (.tuple #[.agg #[], .bool false]) w := run_assert_nil Tryd.underlying107 (fun _ => by kernel_rfl) w
attribute [go_sem] as_hit_Empty as_miss_Empty as_nil_Empty
theorem as_hit_One (v : Value) (w : World) : (Instr.typeAssert (.iface 75 v) 26 75 true).run Tryd.prog w = .ok (.tuple #[v, .bool true]) w := run_assert_hit Tryd.underlying75 v w
theorem as_miss_One (t : TypeId) (v : Value) (w : World) (h : t ≠ 75) : (Instr.typeAssert (.iface t v) 26 75 true).run Tryd.prog w = .ok (.tuple #[.agg #[.int .u64 0, .int .u64 0, .int .u64 0, .int .u64 0], .bool false]) w := run_assert_miss Tryd.underlying75 (fun _ => by kernel_rfl) h v w
theorem as_nil_One (w : World) : (Instr.typeAssert .nilIface 26 75 true).run Tryd.prog w = .ok (.tuple #[.agg #[.int .u64 0, .int .u64 0, .int .u64 0, .int .u64 0], .bool false]) w := run_assert_nil Tryd.underlying75 (fun _ => by kernel_rfl) w
attribute [go_sem] as_hit_One as_miss_One as_nil_One
theorem as_hit_Cat (v : Value) (w : World) : (Instr.typeAssert (.iface 65 v) 26 65 true).run Tryd.prog w = .ok (.tuple #[v, .bool true]) w := run_assert_hit Tryd.underlying65 v w
theorem as_miss_Cat (t : TypeId) (v : Value) (w : World) (h : t ≠ 65) : (Instr.typeAssert (.iface t v) 26 65 true).run Tryd.prog w = .ok (.tuple #[.agg #[.slice none 0 0], .bool false]) w := run_assert_miss Tryd.underlying65 (fun _ => by kernel_rfl) h v w
theorem as_nil_Cat (w : World) : (Instr.typeAssert .nilIface 26 65 true).run Tryd.prog w = .ok (.tuple #[.agg #[.slice none 0 0], .bool false]) w := run_assert_nil Tryd.underlying65 (fun _ => by kernel_rfl) w
attribute [go_sem] as_hit_Cat as_miss_Cat as_nil_Cat
theorem as_hit_Alt (v : Value) (w : World) : (Instr.typeAssert (.iface 85 v) 26 85 true).run Tryd.prog w = .ok (.tuple #[v, .bool true]) w := run_assert_hit Tryd.underlying85 v w
theorem as_miss_Alt (t : TypeId) (v : Value) (w : World) (h : t ≠ 85) : (Instr.typeAssert (.iface t v) 26 85 true).run Tryd.prog w = .ok (.tuple #[.agg #[.slice none 0 0], .bool false]) w := run_assert_miss Tryd.underlying85 (fun _ => by kernel_rfl) h v w
theorem as_nil_Alt (w : World) : (Instr.typeAssert .nilIface 26 85 true).run Tryd.prog w = .ok (.tuple #[.agg #[.slice none 0 0], .bool false]) w := run_assert_nil Tryd.underlying85 (fun _ => by kernel_rfl) w
attribute [go_sem] as_hit_Alt as_miss_Alt as_nil_Alt
theorem as_hit_Rep (v : Value) (w : World) : (Instr.typeAssert (.iface 32 v) 26 32 true).run Tryd.prog w = .ok (.tuple #[v, .bool true]) w := run_assert_hit Tryd.underlying32 v w
theorem as_miss_Rep (t : TypeId) (v : Value) (w : World) (h : t ≠ 32) : (Instr.typeAssert (.iface t v) 26 32 true).run Tryd.prog w = .ok (.tuple #[.agg #[.nilIface, .int .i64 0, .int .i64 0], .bool false]) w := run_assert_miss Tryd.underlying32 (fun _ => by kernel_rfl) h v w
theorem as_nil_Rep (w : World) : (Instr.typeAssert .nilIface 26 32 true).run Tryd.prog w = .ok (.tuple #[.agg #[.nilIface, .int .i64 0, .int .i64 0], .bool false]) w := run_assert_nil Tryd.underlying32 (fun _ => by kernel_rfl) w
attribute [go_sem] as_hit_Rep as_miss_Rep as_nil_Rep
theorem as_hit_Group (v : Value) (w : World) : (Instr.typeAssert (.iface 43 v) 26 43 true).run Tryd.prog w = .ok (.tuple #[v, .bool true]) w := run_assert_hit Tryd.underlying43 v w
theorem as_miss_Group (t : TypeId) (v : Value) (w : World) (h : t ≠ 43) : (Instr.typeAssert (.iface t v) 26 43 true).run Tryd.prog w = .ok (.tuple #[.agg #[.int .i64 0, .nilIface], .bool false]) w := run_assert_miss Tryd.underlying43 (fun _ => by kernel_rfl) h v w
theorem as_nil_Group (w : World) : (Instr.typeAssert .nilIface 26 43 true).run Tryd.prog w = .ok (.tuple #[.agg #[.int .i64 0, .nilIface], .bool false]) w := run_assert_nil Tryd.underlying43 (fun _ => by kernel_rfl) w
attribute [go_sem] as_hit_Group as_miss_Group as_nil_Group
theorem as_hit_Back (v : Value) (w : World) : (Instr.typeAssert (.iface 79 v) 26 79 true).run Tryd.prog w = .ok (.tuple #[v, .bool true]) w := run_assert_hit Tryd.underlying79 v w
theorem as_miss_Back (t : TypeId) (v : Value) (w : World) (h : t ≠ 79) : (Instr.typeAssert (.iface t v) 26 79 true).run Tryd.prog w = .ok (.tuple #[.agg #[.int .i64 0], .bool false]) w := run_assert_miss Tryd.underlying79 (fun _ => by kernel_rfl) h v w
theorem as_nil_Back (w : World) : (Instr.typeAssert .nilIface 26 79 true).run Tryd.prog w = .ok (.tuple #[.agg #[.int .i64 0], .bool false]) w := run_assert_nil Tryd.underlying79 (fun _ => by kernel_rfl) w
attribute [go_sem] as_hit_Back as_miss_Back as_nil_Back
theorem as_hit_Start (v : Value) (w : World) : (Instr.typeAssert (.iface 87 v) 26 87 true).run Tryd.prog w = .ok (.tuple #[v, .bool true]) w := run_assert_hit Tryd.underlying87 v w
theorem as_miss_Start (t : TypeId) (v : Value) (w : World) (h : t ≠ 87) : (Instr.typeAssert (.iface t v) 26 87 true).run Tryd.prog w = .ok (.tuple #[.agg #[], .bool false]) w := run_assert_miss Tryd.underlying87 (fun _ => by kernel_rfl) h v w
theorem as_nil_Start (w : World) : (Instr.typeAssert .nilIface 26 87 true).run Tryd.prog w = .ok (.tuple #[.agg #[], .bool false]) w := run_assert_nil Tryd.underlying87 (fun _ => by kernel_rfl) w
attribute [go_sem] as_hit_Start as_miss_Start as_nil_Start
theorem as_hit_End (v : Value) (w : World) : (Instr.typeAssert (.iface 88 v) 26 88 true).run Tryd.prog w = .ok (.tuple #[v, .bool true]) w := run_assert_hit Tryd.underlying88 v w
theorem as_miss_End (t : TypeId) (v : Value) (w : World) (h : t ≠ 88) : (Instr.typeAssert (.iface t v) 26 88 true).run Tryd.prog w = .ok (.tuple #[.agg #[], .bool false]) w := run_assert_miss Tryd.underlying88 (fun _ => by kernel_rfl) h v w
theorem as_nil_End (w : World) : (Instr.typeAssert .nilIface 26 88 true).run Tryd.prog w = .ok (.tuple #[.agg #[], .bool false]) w := run_assert_nil Tryd.underlying88 (fun _ => by kernel_rfl) w
attribute [go_sem] as_hit_End as_miss_End as_nil_End

end Go.Proofs.YtpcpmjaphjkphaaDoor

/-
  Walks of package tree: told, kids, plain, alt, atom.
-/
namespace Go.Proofs.YtpcpmjaphjkphaaDoor
open Go.RowKit

set_option maxRecDepth 100000 in
set_option maxHeartbeats 1000000 in
theorem kids_any (S : Nat → Prop) (n : Nd) (v : Value) (w : World) (h : RN S w n v) (hS : ∀ k, S k → k < w.heap.size) :
    Calls Tryd.prog 28 #[v] w fun e w' => ∃ u, e = .returned u ∧ SN S w' n.kids u ∧ Fr nob w w' := by
  cases n with
  | nil =>
    rw [RN] at h; subst h
    go_enter Tryd.func28, Tryd.ntmps28
    go_wp2
    go_ret
    exact ⟨_, rfl, SN.nil, Fr.refl _ _⟩
  | empty =>
    rw [RN] at h; subst h
    go_enter Tryd.func28, Tryd.ntmps28
    go_wp2
    go_ret
    exact ⟨_, rfl, SN.nil, Fr.refl _ _⟩
  | one s =>
    rw [RN] at h; subst h
    go_enter Tryd.func28, Tryd.ntmps28
    go_wp2
    go_ret
    exact ⟨_, rfl, SN.nil, Fr.refl _ _⟩
  | back n =>
    rw [RN] at h; subst h
    go_enter Tryd.func28, Tryd.ntmps28
    go_wp2
    go_ret
    exact ⟨_, rfl, SN.nil, Fr.refl _ _⟩
  | start =>
    rw [RN] at h; subst h
    go_enter Tryd.func28, Tryd.ntmps28
    go_wp2
    go_ret
    exact ⟨_, rfl, SN.nil, Fr.refl _ _⟩
  | fin =>
    rw [RN] at h; subst h
    go_enter Tryd.func28, Tryd.ntmps28
    go_wp2
    go_ret
    exact ⟨_, rfl, SN.nil, Fr.refl _ _⟩
  | cat l =>
    rw [RN_cat] at h; obtain ⟨u, rfl, h⟩ := h
    obtain ⟨a, c, rfl⟩ := h.shape
    have HH := Lib.hid h; clear h
    go_enter Tryd.func28, Tryd.ntmps28
    go_wp2
    go_ret
    exact ⟨_, rfl, HH.out.on ((Fr.refl _ _).alloc _), (Fr.refl _ _).alloc _⟩
  | alt l =>
    rw [RN_alt] at h; obtain ⟨u, rfl, h⟩ := h
    obtain ⟨a, c, rfl⟩ := h.shape
    have HH := Lib.hid h; clear h
    go_enter Tryd.func28, Tryd.ntmps28
    go_wp2
    go_ret
    exact ⟨_, rfl, HH.out.on ((Fr.refl _ _).alloc _), (Fr.refl _ _).alloc _⟩
  | rep x mn mx =>
    rw [RN] at h; obtain ⟨u, rfl, h⟩ := h
    have hsh := h.shape
    have HH := Lib.hid h; clear h
    rcases hsh with rfl | ⟨i, x, rfl⟩
    all_goals
      go_enter Tryd.func28, Tryd.ntmps28
      go_wp2
      go_ret
      exact ⟨_, rfl, SN.one' (HH.out.on ((Fr.refl _ _).alloc _)) (fun k hk => by have := hS k hk; simp; omega) _ (by simp), ((Fr.refl _ _).alloc _).alloc _⟩
  | group n x =>
    rw [RN] at h; obtain ⟨u, rfl, h⟩ := h
    have hsh := h.shape
    have HH := Lib.hid h; clear h
    rcases hsh with rfl | ⟨i, x, rfl⟩
    all_goals
      go_enter Tryd.func28, Tryd.ntmps28
      go_wp2
      go_ret
      exact ⟨_, rfl, SN.one' (HH.out.on ((Fr.refl _ _).alloc _)) (fun k hk => by have := hS k hk; simp; omega) _ (by simp), ((Fr.refl _ _).alloc _).alloc _⟩


set_option maxRecDepth 100000 in
set_option maxHeartbeats 1000000 in
theorem size_any (m : Nat) : ∀ (n : Nd) (v : Value) (w : World), n.size ≤ m → n.size ≤ 3000000 → RN nob w n v →
    Calls Tryd.prog 15 #[v] w fun e w' => e = .returned (.int .i64 n.size) ∧ Fr nob w w' := by
  induction m with
  | zero => intro n v w h; have := n.size_pos; omega
  | succ m ih =>
    intro n v w hm hn h
    have IH := Lib.hid ih; clear ih
    have hsk := Lib.hid n.size_kids
    have hlk := Nd.length_le n.kids
    have hkl : n.kids.length ≤ 3000000 := by have := hsk.out; omega
    go_enter Tryd.func15, Tryd.ntmps15
    go_wp2_with fail
    refine (kids_any nob n v w h (fun _ x => x.elim)).mono ?_
    rintro e w1 ⟨u, rfl, h1, f1⟩
    obtain ⟨a, c, rfl⟩ := h1.shape
    have H1 := Lib.hid h1; have F1 := Lib.hid f1; clear h1 f1 hlk h
    go_wp2_with fail
    go_loopw [3, 9] (fun s i wr => ∃ k : Nat, i = .int .i64 k ∧ k ≤ n.kids.length ∧ s = .int .i64 ((1 + Nd.sizes (n.kids.take k) : Nat) : Int) ∧ Fr nob w1 wr) (fun _ i _ => n.kids.length - (intOf i).toNat)
    case atStart => exact ⟨0, rfl, Nat.zero_le _, rfl, Fr.refl _ _⟩
    case round =>
      obtain ⟨k, rfl, hk, rfl, fr⟩ := hrel
      have hst := Nd.sizes_take_le n.kids k
      have hsb : Nd.sizes (n.kids.take k) ≤ 3000000 := by have := hsk.out; omega
      have HR := Lib.hid (H1.out.on fr); have FR := Lib.hid fr; clear fr hst
      by_cases hlt : k < n.kids.length
      · obtain ⟨g, off, cap, x, he, hx, hc⟩ := HR.out.get hlt
        injection he with e1 e2 e3
        subst e1; subst e3
        have hst2 := Lib.hid (Nd.sizes_take hlt)
        have hxs : n.kids[k].size < n.size := Nd.kid_lt (List.getElem_mem hlt)
        have HX := Lib.hid hx; clear hx e2
        go_wp2_with fail
        refine (IH.out n.kids[k] x _ (by omega) (by omega) HX.out).mono ?_
        rintro e w2 ⟨rfl, f2⟩
        have F2 := Lib.hid f2; clear f2
        go_wp2
        go_roundw
        case rel => exact ⟨k + 1, by go_num, by omega, by rw [hst2.out]; go_num, FR.out.trans' F2.out⟩
        case measure => simp [intOf]; omega
      · obtain rfl : k = n.kids.length := by omega
        have hT := Lib.hid (List.take_of_length_le (l := n.kids) (Nat.le_refl _))
        go_wp2
        go_ret
        exact ⟨ret_int (by have := hsk.out; rw [hT.out]; omega), F1.out.trans' FR.out⟩


/-- A node that is told. -/
def Nd.told : Nd → Nd
  | .nil => .empty
  | n => n
/-- Can it stand in a Cat? -/
def Nd.plain : Nd → Bool
  | .nil | .empty | .cat _ | .alt _ => false
  | _ => true
def Nd.isAlt : Nd → Bool
  | .alt _ => true
  | _ => false
/-- May it be repeated? -/
def Nd.atom : Nd → Bool
  | .nil | .empty | .cat _ | .alt _ | .start | .fin => false
  | _ => true

theorem told_any2 (S : Nat → Prop) (n : Nd) (v : Value) (w : World) (h : RN S w n v) : Calls Tryd.prog 49 #[v] w fun e w' => ∃ u, e = .returned u ∧ RN S w n.told u ∧ (v = .nilIface ∨ u = v) ∧ w = w' := by
  rcases h.shape with rfl | ⟨i, x, rfl⟩
  · have hn : n = .nil := by cases n <;> rw [RN] at h <;> first | rfl | (cases h; done) | (obtain ⟨_, h, _⟩ := h; cases h)
    subst hn
    have H := Lib.hid h; clear h
    go_enter Tryd.func49, Tryd.ntmps49
    go_wp2
    go_ret
    exact ⟨_, rfl, by rw [Nd.told, RN]; rfl, by simp, rfl⟩
  · have hn : n.told = n := by cases n <;> first | rfl | (rw [RN] at h; cases h)
    have H := Lib.hid h; clear h; have HN := Lib.hid hn; clear hn
    go_enter Tryd.func49, Tryd.ntmps49
    go_wp2
    go_ret
    exact ⟨_, rfl, by rw [HN.out]; exact H.out, by simp, rfl⟩

theorem told_any (S : Nat → Prop) (n : Nd) (v : Value) (w : World) (h : RN S w n v) : Calls Tryd.prog 49 #[v] w fun e w' => ∃ u, e = .returned u ∧ RN S w n.told u ∧ w = w' := by
  refine (told_any2 S n v w h).mono ?_
  rintro e w1 ⟨u, h1, h2, _, h3⟩
  exact ⟨u, h1, h2, h3⟩


/-- A node's value is an interface of its kind's type. -/
def KindIs (S : Nat → Prop) (w : World) (v : Value) : Nd → Prop
    | .nil => v = .nilIface
    | .empty => v = .iface 107 (.agg #[])
    | .one s => v = .iface 75 (.agg s.cells.toArray)
    | .cat l => ∃ (a : Option Addr) (c : Nat), v = .iface 65 (.agg #[.slice a l.length c]) ∧ SN S w l (.slice a l.length c)
    | .alt l => ∃ (a : Option Addr) (c : Nat), v = .iface 85 (.agg #[.slice a l.length c]) ∧ SN S w l (.slice a l.length c)
    | .rep x mn mx => ∃ u, v = .iface 32 (.agg #[u, .int .i64 mn, .int .i64 mx]) ∧ RN S w x u
    | .group n x => ∃ u, v = .iface 43 (.agg #[.int .i64 n, u]) ∧ RN S w x u
    | .back n => v = .iface 79 (.agg #[.int .i64 n])
    | .start => v = .iface 87 (.agg #[])
    | .fin => v = .iface 88 (.agg #[])
theorem RN.kind {S : Nat → Prop} {w : World} {n : Nd} {v : Value} (h : RN S w n v) : KindIs S w v n := by
  cases n with
  | cat l => rw [RN_cat] at h; obtain ⟨u, rfl, h⟩ := h; obtain ⟨a, c, rfl⟩ := h.shape; exact ⟨a, c, rfl, h⟩
  | alt l => rw [RN_alt] at h; obtain ⟨u, rfl, h⟩ := h; obtain ⟨a, c, rfl⟩ := h.shape; exact ⟨a, c, rfl, h⟩
  | _ => rw [RN] at h; exact h

/-- .. its type alone. -/
def Nd.ty : Nd → Option TypeId
  | .nil => none
  | .empty => some 107
  | .one _ => some 75
  | .cat _ => some 65
  | .alt _ => some 85
  | .rep _ _ _ => some 32
  | .group _ _ => some 43
  | .back _ => some 79
  | .start => some 87
  | .fin => some 88
theorem RN.tyv {S : Nat → Prop} {w : World} {n : Nd} {v : Value} (h : RN S w n v) : (n.ty = none ∧ v = .nilIface) ∨ ∃ i x, n.ty = some i ∧ v = .iface i x := by
  have := h.kind
  cases n with
  | nil => exact .inl ⟨rfl, this⟩
  | cat l => obtain ⟨a, c, h, _⟩ := this; exact .inr ⟨_, _, rfl, h⟩
  | alt l => obtain ⟨a, c, h, _⟩ := this; exact .inr ⟨_, _, rfl, h⟩
  | rep x mn mx => obtain ⟨a, h, _⟩ := this; exact .inr ⟨_, _, rfl, h⟩
  | group n x => obtain ⟨a, h, _⟩ := this; exact .inr ⟨_, _, rfl, h⟩
  | _ => exact .inr ⟨_, _, rfl, this⟩

set_option maxRecDepth 100000 in
set_option maxHeartbeats 1000000 in
theorem alt_any (S : Nat → Prop) (n : Nd) (v : Value) (w : World) (h : RN S w n v) : Calls Tryd.prog 73 #[v] w fun e w' => e = .returned (.bool n.isAlt) ∧ Fr nob w w' := by
  have hk := h.kind
  have H := Lib.hid h; clear h
  by_cases ha : ∃ l, n = .alt l
  · obtain ⟨l, rfl⟩ := ha
    obtain ⟨a, c, rfl, _⟩ := hk
    go_enter Tryd.func73, Tryd.ntmps73
    go_wp2
    go_ret
    exact ⟨rfl, (Fr.refl _ _).alloc _⟩
  · have hn : n.isAlt = false := by cases n <;> first | rfl | exact (ha ⟨_, rfl⟩).elim
    rw [hn]
    clear hk
    rcases H.out.tyv with ⟨_, rfl⟩ | ⟨i, x, ht, rfl⟩
    · go_enter Tryd.func73, Tryd.ntmps73
      go_wp2
      go_ret
      exact ⟨rfl, (Fr.refl _ _).alloc _⟩
    · have hi : i ≠ 85 := by
        cases n <;> simp only [Nd.ty, Option.some.injEq] at ht <;> first | (subst ht; decide) | (exact (ha ⟨_, rfl⟩).elim) | cases ht
      clear ha ht hn
      go_enter Tryd.func73, Tryd.ntmps73
      go_wp2
      go_ret
      exact ⟨rfl, (Fr.refl _ _).alloc _⟩

end Go.Proofs.YtpcpmjaphjkphaaDoor
