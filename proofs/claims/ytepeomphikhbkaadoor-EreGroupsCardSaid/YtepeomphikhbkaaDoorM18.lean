/-
  Merged texts of this claim: BreA, BreB, BreC, BreD, BreE, BreF, BreG, BreH, BreI, BreJ, BreL, BreK.
-/
import Derived.Test.YtepeomphikhbkaaDoorM12
import Derived.Test.YtepeomphikhbkaaDoorM13
import Derived.Test.YtepeomphikhbkaaDoorM14
import Derived.Test.YtepeomphikhbkaaDoorM17

/-
  The reader of package bre in memory; walks of ahead, over, take, last.
-/
namespace Go.Proofs.YtepeomphikhbkaaDoor
open Go.RowKit

/-- The groups closed, as a call's own slice of ints; the marks, of two cells each. -/
def mkC (l : List (Nat × List UInt8)) : List Value := l.flatMap fun m => [.int .i64 (m.1 : Nat), .string ⟨m.2.toArray⟩]
def OwC (w : World) (l : List Nat) (v : Value) : Prop := w.ownsRow 0 3 1 v l.length (l.map fun (n : Nat) => Value.int .i64 n)
def OwM (w : World) (l : List (Nat × List UInt8)) (v : Value) : Prop := w.ownsRow 0 116 2 v l.length (mkC l)

/-- From one world, with the blocks that may turn, to a later one. -/
structure Stp (S : Nat → Prop) (w : World) (S' : Nat → Prop) (w' : World) : Prop where
  fr : Fr S w w'
  old : ∀ k, k < w.heap.size → S' k → S k
  lt : (∀ k, S k → k < w.heap.size) → ∀ k, S' k → k < w'.heap.size
theorem Stp.refl (S : Nat → Prop) (w : World) : Stp S w S w := ⟨Fr.refl _ _, fun _ _ h => h, fun h => h⟩
theorem Stp.trans {S S' S'' : Nat → Prop} {w w' w'' : World} (h : Stp S w S' w') (k : Stp S' w' S'' w'') : Stp S w S'' w'' :=
  ⟨h.fr.trans k.fr (fun i hi x => h.old i hi x), fun i hi x => h.old i hi (k.old i (Nat.lt_of_lt_of_le hi h.fr.size) x), fun hl => k.lt (h.lt hl)⟩
theorem Stp.of {S : Nat → Prop} {w w' : World} (h : Fr nob w w') : Stp S w S w' := ⟨h.any, fun _ _ x => x, fun hl k hk => Nat.lt_of_lt_of_le (hl k hk) h.size⟩
/-- Blocks that may turn, and others that a tree does not touch. -/
def SO (S O : Nat → Prop) : Nat → Prop := fun k => S k ∨ O k
theorem Stp.rn {S S' O : Nat → Prop} {w w' : World} (h : Stp S w S' w') {t : Nd} {v : Value} (k : RN (SO S O) w t v) : RN (SO S' O) w' t v := RN.keep h.fr (fun _ _ x => .inl x) (fun i hi x => x.elim (fun y => .inl (h.old i hi y)) .inr) t v k
theorem Stp.from {S S' : Nat → Prop} {W w w' : World} (h : Stp S w S' w') (f : Fr nob W w) (hS : ∀ k, S k → W.heap.size ≤ k) : Fr nob W w' :=
  f.trans h.fr (fun i hi x => by have := hS i x; omega)

end Go.Proofs.YtepeomphikhbkaaDoor

/-
  Walks of package bre: fail, number, mark.
-/
namespace Go.Proofs.YtepeomphikhbkaaDoor
open Go.RowKit

theorem num3_out {l : List UInt8} {k c n : Nat} (h : l.length ≤ k) : num3 (l.drop k) c n = (n, c) := by
  rw [List.drop_eq_nil_of_le h]; rfl
theorem num3_no {l : List UInt8} {k c n : Nat} (h : k < l.length) (hd : ¬ (48 ≤ l[k].toNat ∧ l[k].toNat ≤ 57 ∧ c ≠ 3)) : num3 (l.drop k) c n = (n, c) := by
  rw [List.drop_eq_getElem_cons h, num3, if_neg hd]
theorem num3_more {l : List UInt8} {k c n : Nat} (h : k < l.length) (hd : 48 ≤ l[k].toNat ∧ l[k].toNat ≤ 57 ∧ c ≠ 3) : num3 (l.drop k) c n = num3 (l.drop (k + 1)) (c + 1) (n * 10 + (l[k].toNat - 48)) := by
  rw [List.drop_eq_getElem_cons h, num3, if_pos hd]
theorem num3_le : ∀ (r : List UInt8) (c n : Nat), c ≤ 3 → n < 10 ^ c → (num3 r c n).2 ≤ 3 ∧ (num3 r c n).1 < 10 ^ (num3 r c n).2 ∧ c ≤ (num3 r c n).2 ∧ (num3 r c n).2 ≤ c + r.length
  | [], c, n, h, hn => ⟨h, hn, Nat.le_refl _, by simp [num3]⟩
  | x :: r, c, n, h, hn => by
    rw [num3]
    split
    · next hd =>
      have hn2 : n * 10 + (x.toNat - 48) < 10 ^ (c + 1) := by rw [Nat.pow_succ]; omega
      have ih := num3_le r (c + 1) (n * 10 + (x.toNat - 48)) (by omega) hn2
      refine ⟨ih.1, ih.2.1, by omega, ?_⟩
      have := ih.2.2.2; rw [List.length_cons]; omega
    · exact ⟨h, hn, Nat.le_refl _, by simp⟩

theorem fr_iterB {S : Nat → Prop} {a w : World} (h : Fr S a w) (s : ByteArray) (p : Nat) : Fr S a (w.iter s p) := h.alloc _
def p10 (c : Nat) : Nat := 10 ^ c
theorem p10_succ (c : Nat) : p10 (c + 1) = p10 c * 10 := by unfold p10; rw [Nat.pow_succ]
theorem p10_le {c : Nat} (h : c ≤ 3) : p10 c ≤ 1000 := by unfold p10; exact Nat.le_trans (Nat.pow_le_pow_right (by omega) h) (by omega)

end Go.Proofs.YtepeomphikhbkaaDoor

/-
  Walks of package bre: mark, and a group closed.
-/
namespace Go.Proofs.YtepeomphikhbkaaDoor
open Go.RowKit

theorem own_lt {w : World} {e : TypeId} {size n : Nat} {v : Value} {xs : List Value} (h : w.ownsRow 0 e size v n xs) : ∀ k, v.ownBlock = some k → k < w.heap.size := by
  intro k hk
  rcases h.2 with ⟨rfl, _⟩ | ⟨r, cap, cur, rfl, _, hr, _⟩
  · cases hk
  · injection hk with hk; subst hk; exact lt_heap hr
theorem newAt0 (w : World) (A : Obj) : (w.alloc A).heap[w.heap.size]? = some A := by unfold World.alloc; exact Array.getElem?_push_size
theorem info_mark : (Tryd.prog.info? 116).map (fun i => (i.zero, i.size, i.bytes)) = some (some (.agg #[.int .i64 0, .string ByteArray.empty]), 2, 24) := by kernel_rfl
theorem mkC_append (l : List (Nat × List UInt8)) (k : Nat) (t : List UInt8) : mkC (l ++ [(k, t)]) = mkC l ++ [.int .i64 k, .string ⟨t.toArray⟩] := by simp [mkC]

def Plus (S : Nat → Prop) (v : Value) : Nat → Prop := fun k => S k ∨ v.ownBlock = some k

section
variable {b : Nat} {l : List UInt8} {s : RxS} {S : Nat → Prop} {cv mv v' : Value} {w W0 w3 : World}
end

theorem mk_news {w : World} {g k : Nat} {t : List UInt8} {T : TypeId} {fr : Nat × Nat} (h : w.heap[g]? = some (.cells #[.int .i64 k, .string ⟨t.toArray⟩] T fr)) :
    ∀ j u, ([.int .i64 k, .string ⟨t.toArray⟩] : List Value)[j]? = some u → w.cell? ((⟨g, 0, none⟩ : Addr).add j) = some u := by
  intro j u hj
  match j, hj with
  | 0, hj => simp at hj; subst hj; exact cell_at h rfl
  | 1, hj => simp at hj; subst hj; exact cell_at h rfl
theorem mk_one {k : Nat} {t : List UInt8} : ∀ u ∈ ([.int .i64 k, .string ⟨t.toArray⟩] : List Value), u.oneCell' = true := by
  intro u hu
  simp only [List.mem_cons, List.not_mem_nil, or_false] at hu
  rcases hu with rfl | rfl <;> rfl

end Go.Proofs.YtepeomphikhbkaaDoor

/-
  Walks of package bre: interval, repeated.
-/
namespace Go.Proofs.YtepeomphikhbkaaDoor
open Go.RowKit

theorem itvB_zero {l : List UInt8} {k m : Nat} (h : num3 (l.drop k) 0 0 = (m, 0)) : itvB l k = none := by
  unfold itvB; rw [h]; rfl
theorem itvB_one {l : List UInt8} {k m c : Nat} (h : num3 (l.drop k) 0 0 = (m, c)) (hc : c ≠ 0) (ha : ahd l (k + c) [44] = false) :
    itvB l k = if ahd l (k + c) [92, 125] = false ∨ 255 < m then none else some ((m : Int), (m : Int), k + c + 2) := by
  unfold itvB; rw [h]
  simp only [hc, if_false, ha, Bool.false_eq_true]
  by_cases h1 : ahd l (k + c) [92, 125] = false ∨ 255 < m
  · rw [if_pos h1, if_pos (by rcases h1 with h1 | h1; exact .inl h1; exact .inr (.inl h1))]
  · rw [if_neg h1, if_neg (by intro h2; rcases h2 with h2 | h2 | h2 | h2; exact h1 (.inl h2); exact h1 (.inr h2); exact h1 (.inr (by omega)); omega)]
theorem itvB_open {l : List UInt8} {k m c x : Nat} (h : num3 (l.drop k) 0 0 = (m, c)) (hc : c ≠ 0) (ha : ahd l (k + c) [44] = true) (h2 : num3 (l.drop (k + c + 1)) 0 0 = (x, 0)) :
    itvB l k = if ahd l (k + c + 1) [92, 125] = false ∨ 255 < m then none else some ((m : Int), -1, k + c + 1 + 2) := by
  unfold itvB; rw [h]
  simp only [hc, if_false, ha, if_true, h2, Nat.add_zero]
  by_cases h1 : ahd l (k + c + 1) [92, 125] = false ∨ 255 < m
  · rw [if_pos h1, if_pos (by rcases h1 with h1 | h1; exact .inl h1; exact .inr (.inl h1))]
  · rw [if_neg h1, if_neg (by intro h2; rcases h2 with h2 | h2 | h2 | h2; exact h1 (.inl h2); exact h1 (.inr h2); omega; omega)]
theorem itvB_two {l : List UInt8} {k m c x d : Nat} (h : num3 (l.drop k) 0 0 = (m, c)) (hc : c ≠ 0) (ha : ahd l (k + c) [44] = true) (h2 : num3 (l.drop (k + c + 1)) 0 0 = (x, d)) (hd : d ≠ 0) :
    itvB l k = if ahd l (k + c + 1 + d) [92, 125] = false ∨ 255 < m ∨ 255 < x ∨ x < m then none else some ((m : Int), (x : Int), k + c + 1 + d + 2) := by
  unfold itvB; rw [h]
  simp only [hc, if_false, ha, if_true, h2, hd]
  by_cases h1 : ahd l (k + c + 1 + d) [92, 125] = false ∨ 255 < m ∨ 255 < x ∨ x < m
  · rw [if_pos h1, if_pos (by rcases h1 with h1 | h1 | h1 | h1; exact .inl h1; exact .inr (.inl h1); exact .inr (.inr (.inl (by omega))); exact .inr (.inr (.inr ⟨by omega, by omega⟩)))]
  · rw [if_neg h1, if_neg (by intro h2; rcases h2 with h2 | h2 | h2 | h2; exact h1 (.inl h2); exact h1 (.inr (.inl h2)); exact h1 (.inr (.inr (.inl (by omega)))); exact h1 (.inr (.inr (.inr (by omega)))))]

theorem ahd_le {l t : List UInt8} {k : Nat} (h : ahd l k t = true) (ht : 1 ≤ t.length) : k + t.length ≤ l.length := by
  unfold ahd at h
  rw [List.isPrefixOf_iff_prefix] at h
  have := h.length_le
  rw [List.length_drop] at this
  omega
theorem num3_bd (l : List UInt8) (k : Nat) (h : k ≤ l.length) : (num3 (l.drop k) 0 0).2 ≤ 3 ∧ (num3 (l.drop k) 0 0).1 < 1000 ∧ k + (num3 (l.drop k) 0 0).2 ≤ l.length := by
  obtain ⟨h1, h2, _, h4⟩ := num3_le (l.drop k) 0 0 (by omega) (by decide)
  rw [List.length_drop] at h4
  refine ⟨h1, Nat.lt_of_lt_of_le h2 (by have := p10_le h1; unfold p10 at this; exact this), by omega⟩

end Go.Proofs.YtepeomphikhbkaaDoor

/-
  Walk of package bre: repeated.
-/
namespace Go.Proofs.YtepeomphikhbkaaDoor
open Go.RowKit

/-- The program's trees. -/
def prg : Alg Nd := ⟨.one, .rep, .group, .back, .start, .fin, joined, chosen⟩

section
variable {α : Type} {A : Alg α} {l : List UInt8} {n : Nat} {s : RxS} {t : α}
theorem repS_plus (h : ahd l s.at_ [92, 43] = true) : repS A l (n + 1) s t = repS A l n ((s.mark [92, 43]).go 2) (A.rep t 1 (-1)) := by rw [repS, if_pos h]
theorem repS_maybe (h : ahd l s.at_ [92, 43] = false) (h2 : ahd l s.at_ [92, 63] = true) : repS A l (n + 1) s t = repS A l n ((s.mark [92, 63]).go 2) (A.rep t 0 1) := by
  rw [repS, if_neg (by rw [h]; decide), if_pos h2]
theorem repS_bad (h : ahd l s.at_ [92, 43] = false) (h2 : ahd l s.at_ [92, 63] = false) (h3 : ahd l s.at_ [92, 123] = true) (h4 : itvB l (s.at_ + 2) = none) : repS A l (n + 1) s t = .inl (7, s.at_) := by
  rw [repS, if_neg (by rw [h]; decide), if_neg (by rw [h2]; decide), if_pos h3, h4]
theorem repS_bound (h : ahd l s.at_ [92, 43] = false) (h2 : ahd l s.at_ [92, 63] = false) (h3 : ahd l s.at_ [92, 123] = true) {m x : Int} {k : Nat} (h4 : itvB l (s.at_ + 2) = some (m, x, k)) :
    repS A l (n + 1) s t = repS A l n (s.to k) (A.rep t m x) := by
  rw [repS, if_neg (by rw [h]; decide), if_neg (by rw [h2]; decide), if_pos h3, h4]
theorem repS_star (h : ahd l s.at_ [92, 43] = false) (h2 : ahd l s.at_ [92, 63] = false) (h3 : ahd l s.at_ [92, 123] = false) (h4 : ahd l s.at_ [42] = true) : repS A l (n + 1) s t = repS A l n (s.go 1) (A.rep t 0 (-1)) := by
  rw [repS, if_neg (by rw [h]; decide), if_neg (by rw [h2]; decide), if_neg (by rw [h3]; decide), if_pos h4]
theorem repS_end (h : ahd l s.at_ [92, 43] = false) (h2 : ahd l s.at_ [92, 63] = false) (h3 : ahd l s.at_ [92, 123] = false) (h4 : ahd l s.at_ [42] = false) : repS A l (n + 1) s t = .inr (t, s) := by
  rw [repS, if_neg (by rw [h]; decide), if_neg (by rw [h2]; decide), if_neg (by rw [h3]; decide), if_neg (by rw [h4]; decide)]
end

theorem itvB_le {l : List UInt8} {k : Nat} {m x : Int} {j : Nat} (hk : k ≤ l.length) (h : itvB l k = some (m, x, j)) : k + 3 ≤ j ∧ j ≤ l.length ∧ 0 ≤ m ∧ m ≤ 255 ∧ -1 ≤ x ∧ x ≤ 255 := by
  obtain ⟨b1, b2, b3⟩ := num3_bd l k hk
  obtain ⟨p, c, hM⟩ : ∃ p c, num3 (l.drop k) 0 0 = (p, c) := ⟨_, _, rfl⟩
  rw [hM] at b1 b2 b3
  simp only at b1 b2 b3
  by_cases hc : c = 0
  · subst hc; rw [itvB_zero hM] at h; cases h
  · cases ha : ahd l (k + c) [44] with
    | false =>
      rw [itvB_one hM hc ha] at h
      split at h
      · cases h
      · next hn =>
        have he : ahd l (k + c) [92, 125] = true := by cases hq : ahd l (k + c) [92, 125]; exact absurd (.inl hq) hn; rfl
        have := ahd_le he (by decide)
        simp only [List.length_cons, List.length_nil] at this
        simp only [Option.some.injEq, Prod.mk.injEq] at h
        obtain ⟨rfl, rfl, rfl⟩ := h
        have : ¬ 255 < p := fun x => hn (.inr x)
        omega
    | true =>
      have hle1 := ahd_le ha (by decide)
      simp only [List.length_singleton] at hle1
      obtain ⟨e1, e2, e3⟩ := num3_bd l (k + c + 1) hle1
      obtain ⟨y, d, hX⟩ : ∃ y d, num3 (l.drop (k + c + 1)) 0 0 = (y, d) := ⟨_, _, rfl⟩
      rw [hX] at e1 e2 e3
      simp only at e1 e2 e3
      by_cases hd : d = 0
      · subst hd
        rw [itvB_open hM hc ha hX] at h
        split at h
        · cases h
        · next hn =>
          have he : ahd l (k + c + 1) [92, 125] = true := by cases hq : ahd l (k + c + 1) [92, 125]; exact absurd (.inl hq) hn; rfl
          have := ahd_le he (by decide)
          simp only [List.length_cons, List.length_nil] at this
          simp only [Option.some.injEq, Prod.mk.injEq] at h
          obtain ⟨rfl, rfl, rfl⟩ := h
          have : ¬ 255 < p := fun x => hn (.inr x)
          omega
      · rw [itvB_two hM hc ha hX hd] at h
        split at h
        · cases h
        · next hn =>
          have he : ahd l (k + c + 1 + d) [92, 125] = true := by cases hq : ahd l (k + c + 1 + d) [92, 125]; exact absurd (.inl hq) hn; rfl
          have := ahd_le he (by decide)
          simp only [List.length_cons, List.length_nil] at this
          simp only [Option.some.injEq, Prod.mk.injEq] at h
          obtain ⟨rfl, rfl, rfl⟩ := h
          have : ¬ 255 < p := fun x => hn (.inr (.inl x))
          have : ¬ 255 < y := fun x => hn (.inr (.inr (.inl x)))
          omega

theorem RN.rep {S : Nat → Prop} {w : World} {t : Nd} {v : Value} (h : RN S w t v) (m x : Int) : RN S w (.rep t m x) (.iface 72 (.agg #[v, .int .i64 m, .int .i64 x])) := by
  rw [RN.eq_def]; exact ⟨v, rfl, h⟩

end Go.Proofs.YtepeomphikhbkaaDoor

/-
  Walks of package bre: space, word, escaped.
-/
namespace Go.Proofs.YtepeomphikhbkaaDoor
open Go.RowKit

theorem q4_on {w w' : World} {b : Nat} {s : S4} (h : Q4 w b s) (f : Fr nob w w') : Q4 w' b s := ⟨f.cell h.1 (fun x => x), f.cell h.2.1 (fun x => x), f.cell h.2.2.1 (fun x => x), f.cell h.2.2.2 (fun x => x)⟩
theorem q4_four {w w' : World} {b c : Nat} {s : S4} (h : Q4 w b s) (f : Fr nob w w') (hne : b ≠ c) (v0 v1 v2 v3 : Value) : Q4 (setFour w' c v0 v1 v2 v3) b s := by
  have h' := q4_on h f
  have g := setFour_one w' c v0 v1 v2 v3
  exact ⟨g.cell h'.1 hne, g.cell h'.2.1 hne, g.cell h'.2.2.1 hne, g.cell h'.2.2.2 hne⟩
theorem of_95 (w : World) (T : TypeId) : Calls Tryd.prog 19 #[.slice (some ⟨w.heap.size, 0, none⟩) 1 1] (w.alloc (.cells #[.int .u8 95] T)) fun e w' => e = .returned (setV (spn 95 95)) ∧ Fr nob (w.alloc (.cells #[.int .u8 95] T)) w' := of_one 95 w T

end Go.Proofs.YtepeomphikhbkaaDoor

/-
  Walk of package bre: escaped.
-/
namespace Go.Proofs.YtepeomphikhbkaaDoor
open Go.RowKit

/-- What escaped hands back: the set, whether it is an extension, whether there is one. -/
def escR (b : UInt8) : S4 × Bool × Bool :=
  match escB b with
  | some (c, m) => (c, m, true)
  | none => (spn b.toNat b.toNat, false, false)
theorem escR_110 : escR 110 = (spn 10 10, false, true) := rfl
theorem escR_116 : escR 116 = (spn 9 9, true, true) := rfl
theorem escR_119 : escR 119 = (wordS, true, true) := rfl
theorem escR_87 : escR 87 = (wordS.not, true, true) := rfl
theorem escR_115 : escR 115 = (spaceS, true, true) := rfl
theorem escR_83 : escR 83 = (spaceS.not, true, true) := rfl
theorem escR_else {b : UInt8} (h1 : b ≠ 110) (h2 : b ≠ 116) (h3 : b ≠ 119) (h4 : b ≠ 87) (h5 : b ≠ 115) (h6 : b ≠ 83) : escR b = (spn b.toNat b.toNat, false, punctS.has b.toNat) := by
  unfold escR escB
  rw [if_neg h1, if_neg h2, if_neg h3, if_neg h4, if_neg h5, if_neg h6]
  cases punctS.has b.toNat <;> rfl

theorem results_set_bb {fn : Func} {p q r : Tmp} (h : fn.results = #[.cell p 61, .tmp q, .tmp r]) {tmps : Array Value} {b : Nat} (ht : tmps.getD p undef = .pointer (some ⟨b, 0, none⟩)) {u v : Value} (hq : tmps.getD q undef = u) (hr : tmps.getD r undef = v) {W : World} {s : S4}
    (hb : W.heap[b]? = some (.cells #[.int .u64 s.a, .int .u64 s.b, .int .u64 s.c, .int .u64 s.d] 61 (0, 0))) : (results fn tmps).run Tryd.prog W = .ok (.tuple #[setV s, u, v]) W := results_set3 h ht hq hr hb
theorem of_10 (w : World) (T : TypeId) : Calls Tryd.prog 19 #[.slice (some ⟨w.heap.size, 0, none⟩) 1 1] (w.alloc (.cells #[.int .u8 10] T)) fun e w' => e = .returned (setV (spn 10 10)) ∧ Fr nob (w.alloc (.cells #[.int .u8 10] T)) w' := of_one 10 w T
theorem of_9 (w : World) (T : TypeId) : Calls Tryd.prog 19 #[.slice (some ⟨w.heap.size, 0, none⟩) 1 1] (w.alloc (.cells #[.int .u8 9] T)) fun e w' => e = .returned (setV (spn 9 9)) ∧ Fr nob (w.alloc (.cells #[.int .u8 9] T)) w' := of_one 9 w T

abbrev EscPost (R : S4 × Bool × Bool) (w : World) (e : Ending) (w' : World) : Prop := e = .returned (.tuple #[setV R.1, .bool R.2.1, .bool R.2.2]) ∧ Fr nob w w'

end Go.Proofs.YtepeomphikhbkaaDoor

/-
  Walk of package bre: is a group closed? (slices.Contains)
-/
namespace Go.Proofs.YtepeomphikhbkaaDoor
open Go.RowKit

/-- The first place from k on at which a number stands. -/
def ixC (l : List Nat) (n k : Nat) : Int := if (l.drop k).contains n then (k + (l.drop k).idxOf n : Nat) else -1
theorem ixC_end {l : List Nat} {n k : Nat} (h : l.length ≤ k) : ixC l n k = -1 := by
  unfold ixC; rw [List.drop_eq_nil_of_le h]; rfl
theorem ixC_hit {l : List Nat} {n k : Nat} (h : k < l.length) (e : l[k] = n) : ixC l n k = k := by
  unfold ixC; rw [List.drop_eq_getElem_cons h, e]
  simp
theorem ixC_next {l : List Nat} {n k : Nat} (h : k < l.length) (e : l[k] ≠ n) : ixC l n k = ixC l n (k + 1) := by
  unfold ixC; rw [List.drop_eq_getElem_cons h]
  have e' : (l[k] == n) = false := by simpa using e
  have e2 : (n == l[k]) = false := by simpa using fun h => e h.symm
  rw [List.contains_cons, e2, Bool.false_or, List.idxOf_cons, e']
  split
  · simp; omega
  · rfl
theorem ixC_bool {l : List Nat} {n : Nat} : decide (0 ≤ ixC l n 0) = l.contains n := by
  unfold ixC
  rw [List.drop_zero]
  cases h : l.contains n <;> simp

theorem OwC.get {w : World} {l : List Nat} {v : Value} (h : OwC w l v) : ∃ a c, v = .slice a l.length c ∧ ∀ k (hk : k < l.length), ∃ g, a = some ⟨g, 0, none⟩ ∧ w.cell? ⟨g, k, none⟩ = some (.int .i64 (l[k] : Nat)) := by
  have h0 := h
  unfold OwC at h
  rcases h.2 with ⟨rfl, hn⟩ | ⟨gb, c, _, rfl, _⟩
  · exact ⟨none, 0, by rw [hn], fun k hk => by omega⟩
  · refine ⟨_, c, rfl, fun k hk => ⟨gb, rfl, ?_⟩⟩
    rw [h.cellAt k (by omega)]
    simp [List.getElem?_eq_getElem hk]

end Go.Proofs.YtepeomphikhbkaaDoor

/-
  Walk of package bre: group.
-/
namespace Go.Proofs.YtepeomphikhbkaaDoor
open Go.RowKit

/-- What holds of a reading's state at every place. -/
structure Sane (l : List UInt8) (s : RxS) : Prop where
  le : s.at_ ≤ l.length
  mr : s.marks.length ≤ s.at_
  cl : s.closed.length ≤ s.at_
  op : s.opened ≤ s.at_
/-- All that may turn was not there at the start. -/
structure Wd (W0 : World) (S : Nat → Prop) (w : World) : Prop where
  fr : Fr nob W0 w
  ge : ∀ k, S k → W0.heap.size ≤ k
  lt : ∀ k, S k → k < w.heap.size
theorem Wd.stp {W0 : World} {S S' : Nat → Prop} {w w' : World} (h : Wd W0 S w) (k : Stp S w S' w') : Wd W0 S' w' :=
  ⟨k.from h.fr h.ge, fun i hi => by
    by_cases hlt : i < w.heap.size
    · exact h.ge i (k.old i hlt hi)
    · have := h.fr.size; omega, k.lt h.lt⟩

/-- A reading function that keeps its state sane. -/
def KeptS (l : List UInt8) (f : RxS → Out Nd) : Prop := ∀ s, Sane l s → ∀ t s', f s = .inr (t, s') → Sane l s' ∧ s.at_ ≤ s'.at_

theorem info_int4 : (Tryd.prog.info? 3).map (fun i => (i.zero, i.size, i.bytes)) = some (some (.int .i64 0), 1, 8) := by kernel_rfl
theorem RN.grp {S : Nat → Prop} {w : World} {t : Nd} {v : Value} (h : RN S w t v) (n : Int) : RN S w (.group n t) (.iface 32 (.agg #[.int .i64 n, v])) := by
  rw [RN.eq_def]; exact ⟨v, rfl, h⟩

end Go.Proofs.YtepeomphikhbkaaDoor

/-
  Walk of package bre: escape.
-/
namespace Go.Proofs.YtepeomphikhbkaaDoor
open Go.RowKit

theorem escS_tail {l : List UInt8} {C : Option (RxS → Out Nd)} {s : RxS} (h : l.length ≤ s.at_ + 1) : escS prg l C s = .inl (11, s.at_) := by
  unfold escS; rw [List.getElem?_eq_none h]
theorem escS_in {l : List UInt8} {C : Option (RxS → Out Nd)} {s : RxS} (h : s.at_ + 1 < l.length) : escS prg l C s =
    if ahd l s.at_ [92, 40] then groupS prg l C s.at_ (s.go 2)
    else if ahd l s.at_ [92, 41] then .inl (8, s.at_)
    else if 49 ≤ l[s.at_ + 1].toNat ∧ l[s.at_ + 1].toNat ≤ 57 then
      (if s.closed.contains (l[s.at_ + 1].toNat - 48) then .inr (.back ((l[s.at_ + 1].toNat - 48 : Nat) : Int), s.go 2) else .inl (9, s.at_))
    else if (escR l[s.at_ + 1]).2.2 then .inr (.one (escR l[s.at_ + 1]).1, (if (escR l[s.at_ + 1]).2.1 then s.mark [92, l[s.at_ + 1]] else s).go 2) else .inl (2, s.at_) := by
  unfold escS
  rw [List.getElem?_eq_getElem h]
  simp only [prg]
  split
  · rfl
  · split
    · rfl
    · split
      · rfl
      · unfold escR
        cases escB l[s.at_ + 1] with
        | none => rfl
        | some q => obtain ⟨c, m⟩ := q; rfl

end Go.Proofs.YtepeomphikhbkaaDoor

/-
  A basic regex in plain words: the state stays sane, the place goes on, a tree is no larger than what was read. No walk.
-/
namespace Go.Proofs.YtepeomphikhbkaaDoor
open Go.RowKit

def KeptZ (l : List UInt8) (c : Nat) (f : RxS → Out Nd) : Prop := ∀ s, Sane l s → ∀ t s', f s = .inr (t, s') → Sane l s' ∧ s.at_ ≤ s'.at_ ∧ t.size + s.at_ ≤ s'.at_ + c
theorem KeptZ.kept {l : List UInt8} {c : Nat} {f : RxS → Out Nd} (h : KeptZ l c f) : KeptS l f := fun s hs t s' e => ⟨(h s hs t s' e).1, (h s hs t s' e).2.1⟩

section
variable {l : List UInt8} {s : RxS} (hs : Sane l s)
include hs
theorem Sane.go {n : Nat} (h : s.at_ + n ≤ l.length) : Sane l (s.go n) :=
  ⟨h, Nat.le_trans hs.mr (Nat.le_add_right _ _), Nat.le_trans hs.cl (Nat.le_add_right _ _), Nat.le_trans hs.op (Nat.le_add_right _ _)⟩
theorem Sane.to {n : Nat} (h : s.at_ ≤ n) (h' : n ≤ l.length) : Sane l (s.to n) :=
  ⟨h', Nat.le_trans hs.mr h, Nat.le_trans hs.cl h, Nat.le_trans hs.op h⟩
theorem Sane.markgo {n : Nat} (t : List UInt8) (hn : 1 ≤ n) (h : s.at_ + n ≤ l.length) : Sane l ((s.mark t).go n) :=
  ⟨h, by have := hs.mr; show (s.marks ++ [_]).length ≤ s.at_ + n; simp; omega, Nat.le_trans hs.cl (Nat.le_add_right _ _), Nat.le_trans hs.op (Nat.le_add_right _ _)⟩
end

theorem repS_kept {l : List UInt8} : ∀ (n : Nat) (s : RxS) (t : Nd) (t' : Nd) (s' : RxS), Sane l s → repS prg l n s t = .inr (t', s') → Sane l s' ∧ s.at_ ≤ s'.at_ ∧ t'.size + s.at_ ≤ s'.at_ + t.size
  | 0, s, t, t', s', hs, h => by
    rw [repS] at h; injection h with h; injection h with h1 h2; subst h1; subst h2; exact ⟨hs, Nat.le_refl _, by omega⟩
  | n + 1, s, t, t', s', hs, h => by
    have hz : ∀ a b, (prg.rep t a b).size = 1 + t.size := fun _ _ => rfl
    cases e1 : ahd l s.at_ [92, 43] with
    | true =>
      rw [repS_plus e1] at h
      have hle := ahd_le e1 (by decide)
      simp only [List.length_cons, List.length_nil] at hle
      obtain ⟨k1, k2, k3⟩ := repS_kept n _ _ _ _ (hs.markgo _ (by omega) hle) h
      rw [hz] at k3
      refine ⟨k1, ?_, ?_⟩
      · have : s.at_ + 2 ≤ s'.at_ := k2; omega
      · have : 1 + 0 + t'.size + (s.at_ + 2) ≤ 1 + 0 + s'.at_ + (1 + t.size) := by have : t'.size + (s.at_ + 2) ≤ s'.at_ + (1 + t.size) := k3; omega
        omega
    | false =>
      cases e2 : ahd l s.at_ [92, 63] with
      | true =>
        rw [repS_maybe e1 e2] at h
        have hle := ahd_le e2 (by decide)
        simp only [List.length_cons, List.length_nil] at hle
        obtain ⟨k1, k2, k3⟩ := repS_kept n _ _ _ _ (hs.markgo _ (by omega) hle) h
        rw [hz] at k3
        refine ⟨k1, ?_, ?_⟩
        · have : s.at_ + 2 ≤ s'.at_ := k2; omega
        · have : t'.size + (s.at_ + 2) ≤ s'.at_ + (1 + t.size) := k3; omega
      | false =>
        cases e3 : ahd l s.at_ [92, 123] with
        | true =>
          have hle := ahd_le e3 (by decide)
          simp only [List.length_cons, List.length_nil] at hle
          cases e4 : itvB l (s.at_ + 2) with
          | none => rw [repS_bad e1 e2 e3 e4] at h; cases h
          | some q =>
            obtain ⟨m, x, k⟩ := q
            rw [repS_bound e1 e2 e3 e4] at h
            obtain ⟨g1, g2, _⟩ := itvB_le (by omega) e4
            obtain ⟨k1, k2, k3⟩ := repS_kept n _ _ _ _ (hs.to (by omega) g2) h
            rw [hz] at k3
            refine ⟨k1, ?_, ?_⟩
            · have : k ≤ s'.at_ := k2; omega
            · have : t'.size + k ≤ s'.at_ + (1 + t.size) := k3; omega
        | false =>
          cases e4 : ahd l s.at_ [42] with
          | true =>
            have hle := ahd_le e4 (by decide)
            simp only [List.length_singleton] at hle
            rw [repS_star e1 e2 e3 e4] at h
            obtain ⟨k1, k2, k3⟩ := repS_kept n _ _ _ _ (hs.go hle) h
            rw [hz] at k3
            refine ⟨k1, ?_, ?_⟩
            · have : s.at_ + 1 ≤ s'.at_ := k2; omega
            · have : t'.size + (s.at_ + 1) ≤ s'.at_ + (1 + t.size) := k3; omega
          | false =>
            rw [repS_end e1 e2 e3 e4] at h
            injection h with h; injection h with h1 h2; subst h1; subst h2; exact ⟨hs, Nat.le_refl _, by omega⟩

theorem groupS_kept {l : List UInt8} {C : Option (RxS → Out Nd)} (hC : ∀ f, C = some f → KeptZ l 2 f) {p : Nat} {s s' : RxS} {t : Nd} (hs : Sane l s) (h1 : s.opened < s.at_) (h : groupS prg l C p s = .inr (t, s')) :
    Sane l s' ∧ s.at_ + 2 ≤ s'.at_ ∧ t.size + s.at_ ≤ s'.at_ + 1 := by
  cases C with
  | none => cases h
  | some f =>
    unfold groupS at h
    simp only at h
    cases hf : f { s with opened := s.opened + 1 } with
    | inl e => rw [hf] at h; cases h
    | inr z =>
      obtain ⟨t1, s1⟩ := z
      rw [hf] at h
      simp only at h
      obtain ⟨k1, k2, k3⟩ := hC f rfl { s with opened := s.opened + 1 } ⟨hs.le, hs.mr, hs.cl, h1⟩ t1 s1 hf
      have k2 : s.at_ ≤ s1.at_ := k2
      have k3 : t1.size + s.at_ ≤ s1.at_ + 2 := k3
      split at h
      · next ha =>
        have hle := ahd_le ha (by decide)
        simp only [List.length_cons, List.length_nil] at hle
        injection h with h; injection h with h2 h3; subst h2; subst h3
        refine ⟨⟨hle, Nat.le_trans k1.mr (Nat.le_add_right _ _), ?_, ?_⟩, ?_, ?_⟩
        · show (s1.closed ++ [_]).length ≤ s1.at_ + 2
          have := k1.cl; simp; omega
        · exact Nat.le_trans k1.op (Nat.le_add_right _ _)
        · show s.at_ + 2 ≤ s1.at_ + 2; omega
        · show (1 + t1.size) + s.at_ ≤ s1.at_ + 2 + 1; omega
      · cases h

theorem escS_kept {l : List UInt8} {C : Option (RxS → Out Nd)} (hC : ∀ f, C = some f → KeptZ l 2 f) {s s' : RxS} {t : Nd} (hs : Sane l s) (h : escS prg l C s = .inr (t, s')) :
    Sane l s' ∧ s.at_ < s'.at_ ∧ t.size + s.at_ ≤ s'.at_ := by
  by_cases hl : s.at_ + 1 < l.length
  · rw [escS_in hl] at h
    split at h
    · next ha =>
      have := hs.op
      obtain ⟨k1, k2, k3⟩ := groupS_kept hC (hs.go (n := 2) (by omega)) (by show s.opened < s.at_ + 2; omega) h
      have k2 : s.at_ + 2 + 2 ≤ s'.at_ := k2
      have k3 : t.size + (s.at_ + 2) ≤ s'.at_ + 1 := k3
      exact ⟨k1, by omega, by omega⟩
    · split at h
      · cases h
      · split at h
        · split at h
          · injection h with h; injection h with h2 h3; subst h2; subst h3
            exact ⟨hs.go (by omega), by show s.at_ < s.at_ + 2; omega, by show 1 + s.at_ ≤ s.at_ + 2; omega⟩
          · cases h
        · split at h
          · injection h with h; injection h with h2 h3; subst h2; subst h3
            split
            · exact ⟨hs.markgo _ (by omega) (by omega), by show s.at_ < s.at_ + 2; omega, by show 1 + s.at_ ≤ s.at_ + 2; omega⟩
            · exact ⟨hs.go (by omega), by show s.at_ < s.at_ + 2; omega, by show 1 + s.at_ ≤ s.at_ + 2; omega⟩
          · cases h
  · rw [escS_tail (by omega)] at h; cases h

theorem atomS_kept {l : List UInt8} {C : Option (RxS → Out Nd)} (hC : ∀ f, C = some f → KeptZ l 2 f) {s s' : RxS} {t : Nd} {b : UInt8} (hs : Sane l s) (ha : s.at_ < l.length) (h : atomS prg l C s b = .inr (t, s')) :
    Sane l s' ∧ s.at_ < s'.at_ ∧ t.size + s.at_ ≤ s'.at_ := by
  unfold atomS at h
  split at h
  · exact escS_kept hC hs h
  · split at h
    · cases hp : prs l (s.at_ + 1) with
      | inl z => rw [hp] at h; cases h
      | inr y =>
        obtain ⟨c, k⟩ := y
        rw [hp] at h
        injection h with h; injection h with h2 h3; subst h2; subst h3
        obtain ⟨p1, p2, p3⟩ := prs_in hp
        have p2 : s.at_ + 1 < k := p2
        have p3 : k ≤ l.length := p3
        exact ⟨hs.to (by omega) p3, by show s.at_ < k; omega, by show 1 + s.at_ ≤ k; omega⟩
    · split at h
      · injection h with h; injection h with h2 h3; subst h2; subst h3
        exact ⟨hs.go (by omega), by show s.at_ < s.at_ + 1; omega, by show 1 + s.at_ ≤ s.at_ + 1; omega⟩
      · injection h with h; injection h with h2 h3; subst h2; subst h3
        exact ⟨hs.go (by omega), by show s.at_ < s.at_ + 1; omega, by show 1 + s.at_ ≤ s.at_ + 1; omega⟩

theorem only_size {l : List Nd} {n : Nd} {k : Nat} (h1 : 1 ≤ k) (h2 : Nd.sizes l ≤ k) (h3 : n.size ≤ k) : (onlyOf l n).size ≤ k := by
  match l, h2 with
  | [], _ => exact h1
  | [x], h2 => simpa [onlyOf, Nd.sizes] using h2
  | _ :: _ :: _, _ => exact h3
theorem joined_le (l : List Nd) : (joined l).size ≤ Nd.sizes l + 1 :=
  have h := parts_sizes l
  only_size (by omega) (by omega) (by show 1 + Nd.sizes (parts l) ≤ _; omega)
theorem chosen_le (l : List Nd) : (chosen l).size ≤ Nd.sizes l + 1 :=
  have h := arms_sizes l
  only_size (by omega) (by omega) (by show 1 + Nd.sizes (arms l) ≤ _; omega)

/-- One round of a branch. -/
def rndS (l : List UInt8) (C : Option (RxS → Out Nd)) (s : RxS) (b : UInt8) : Out Nd :=
  match atomS prg l C s b with
  | .inl e => .inl e
  | .inr (t, s1) => repS prg l (l.length + 1) s1 t
theorem rndS_kept {l : List UInt8} {C : Option (RxS → Out Nd)} (hC : ∀ f, C = some f → KeptZ l 2 f) {s s' : RxS} {t : Nd} {b : UInt8} (hs : Sane l s) (ha : s.at_ < l.length) (h : rndS l C s b = .inr (t, s')) :
    Sane l s' ∧ s.at_ < s'.at_ ∧ t.size + s.at_ ≤ s'.at_ := by
  unfold rndS at h
  cases hp : atomS prg l C s b with
  | inl z => rw [hp] at h; cases h
  | inr y =>
    obtain ⟨t1, s1⟩ := y
    rw [hp] at h
    simp only at h
    obtain ⟨k1, k2, k3⟩ := atomS_kept hC hs ha hp
    obtain ⟨j1, j2, j3⟩ := repS_kept _ _ _ _ _ k1 h
    exact ⟨j1, by omega, by omega⟩

section
variable {l : List UInt8} {C : Option (RxS → Out Nd)} {inner front : Bool} {n : Nat} {s : RxS} {ps : List Nd}
theorem brS_over (h : l.length ≤ s.at_) : brS prg l C inner (n + 1) front s ps = .inr (joined ps, s) := by
  rw [brS, List.getElem?_eq_none h]; rfl
theorem brS_stop (h : s.at_ < l.length) (h1 : (ahd l s.at_ [92, 124] || (inner && ahd l s.at_ [92, 41])) = true) : brS prg l C inner (n + 1) front s ps = .inr (joined ps, s) := by
  rw [brS, List.getElem?_eq_getElem h]; simp only; rw [if_pos h1]; rfl
theorem brS_bad (h : s.at_ < l.length) (h1 : (ahd l s.at_ [92, 124] || (inner && ahd l s.at_ [92, 41])) = false) (h2 : (front && (ahd l s.at_ [92, 123] || (ahd l s.at_ [92, 43] || ahd l s.at_ [92, 63]))) = true) :
    brS prg l C inner (n + 1) front s ps = .inl (10, s.at_) := by
  rw [brS, List.getElem?_eq_getElem h]; simp only; rw [if_neg (by rw [h1]; decide), if_pos h2]
theorem brS_fin (h : s.at_ < l.length) (h1 : (ahd l s.at_ [92, 124] || (inner && ahd l s.at_ [92, 41])) = false) (h2 : (front && (ahd l s.at_ [92, 123] || (ahd l s.at_ [92, 43] || ahd l s.at_ [92, 63]))) = false) (h3 : (ahd l s.at_ [36] && lastS l s.at_) = true) :
    brS prg l C inner (n + 1) front s ps = brS prg l C inner n false (s.go 1) (ps ++ [.fin]) := by
  rw [brS, List.getElem?_eq_getElem h]; simp only; rw [if_neg (by rw [h1]; decide), if_neg (by rw [h2]; decide), if_pos h3]; rfl
theorem brS_go (h : s.at_ < l.length) (h1 : (ahd l s.at_ [92, 124] || (inner && ahd l s.at_ [92, 41])) = false) (h2 : (front && (ahd l s.at_ [92, 123] || (ahd l s.at_ [92, 43] || ahd l s.at_ [92, 63]))) = false) (h3 : (ahd l s.at_ [36] && lastS l s.at_) = false) :
    brS prg l C inner (n + 1) front s ps = match rndS l C s l[s.at_] with | .inl e => .inl e | .inr (t, s2) => brS prg l C inner n false s2 (ps ++ [t]) := by
  rw [brS, List.getElem?_eq_getElem h]; simp only; rw [if_neg (by rw [h1]; decide), if_neg (by rw [h2]; decide), if_neg (by rw [h3]; decide)]
  unfold rndS
  cases atomS prg l C s l[s.at_] with
  | inl e => rfl
  | inr z => obtain ⟨t, s1⟩ := z; simp only; cases repS prg l (l.length + 1) s1 t <;> rfl
end

theorem brS_kept {l : List UInt8} {C : Option (RxS → Out Nd)} (hC : ∀ f, C = some f → KeptZ l 2 f) {inner : Bool} : ∀ (n : Nat) (front : Bool) (s : RxS) (ps : List Nd) (t : Nd) (s' : RxS), Sane l s → brS prg l C inner n front s ps = .inr (t, s') →
    Sane l s' ∧ s.at_ ≤ s'.at_ ∧ t.size + s.at_ ≤ s'.at_ + Nd.sizes ps + 1
  | 0, front, s, ps, t, s', hs, h => by
    rw [brS] at h; injection h with h; injection h with h1 h2; subst h1; subst h2
    have := joined_le ps
    exact ⟨hs, Nat.le_refl _, by show (joined ps).size + s.at_ ≤ _; omega⟩
  | n + 1, front, s, ps, t, s', hs, h => by
    have hj := joined_le ps
    by_cases hl : s.at_ < l.length
    · cases h1 : (ahd l s.at_ [92, 124] || (inner && ahd l s.at_ [92, 41])) with
      | true =>
        rw [brS_stop hl h1] at h; injection h with h; injection h with h1 h2; subst h1; subst h2
        exact ⟨hs, Nat.le_refl _, by omega⟩
      | false =>
        cases h2 : (front && (ahd l s.at_ [92, 123] || (ahd l s.at_ [92, 43] || ahd l s.at_ [92, 63]))) with
        | true => rw [brS_bad hl h1 h2] at h; cases h
        | false =>
          cases h3 : (ahd l s.at_ [36] && lastS l s.at_) with
          | true =>
            rw [brS_fin hl h1 h2 h3] at h
            obtain ⟨k1, k2, k3⟩ := brS_kept hC n _ _ _ _ _ (hs.go (n := 1) (by omega)) h
            rw [Nd.sizes_append] at k3
            have k2 : s.at_ + 1 ≤ s'.at_ := k2
            have k3 : t.size + (s.at_ + 1) ≤ s'.at_ + (Nd.sizes ps + (1 + 0)) + 1 := k3
            exact ⟨k1, by omega, by omega⟩
          | false =>
            rw [brS_go hl h1 h2 h3] at h
            cases hr : rndS l C s l[s.at_] with
            | inl e => rw [hr] at h; cases h
            | inr z =>
              obtain ⟨t1, s1⟩ := z
              rw [hr] at h
              simp only at h
              obtain ⟨r1, r2, r3⟩ := rndS_kept hC hs hl hr
              obtain ⟨k1, k2, k3⟩ := brS_kept hC n _ _ _ _ _ r1 h
              rw [Nd.sizes_append] at k3
              have k3 : t.size + s1.at_ ≤ s'.at_ + (Nd.sizes ps + (t1.size + 0)) + 1 := k3
              exact ⟨k1, by omega, by omega⟩
    · rw [brS_over (by omega)] at h; injection h with h; injection h with h1 h2; subst h1; subst h2
      exact ⟨hs, Nat.le_refl _, by omega⟩

theorem branchS_kept {l : List UInt8} {C : Option (RxS → Out Nd)} (hC : ∀ f, C = some f → KeptZ l 2 f) {inner : Bool} : KeptZ l 1 (branchS prg l C inner) := by
  intro s hs t s' h
  unfold branchS at h
  split at h
  · next ha =>
    have hle := ahd_le ha (by decide)
    simp only [List.length_singleton] at hle
    obtain ⟨k1, k2, k3⟩ := brS_kept hC _ _ _ _ _ _ (hs.go hle) h
    have k2 : s.at_ + 1 ≤ s'.at_ := k2
    have k3 : t.size + (s.at_ + 1) ≤ s'.at_ + (1 + 0) + 1 := k3
    exact ⟨k1, by omega, by omega⟩
  · obtain ⟨k1, k2, k3⟩ := brS_kept hC _ _ _ _ _ _ hs h
    have k3 : t.size + s.at_ ≤ s'.at_ + 0 + 1 := k3
    exact ⟨k1, by omega, by omega⟩

theorem chLoop_kept {l : List UInt8} {C : Option (RxS → Out Nd)} (hC : ∀ f, C = some f → KeptZ l 2 f) {inner : Bool} : ∀ (n : Nat) (s : RxS) (ts : List Nd) (t : Nd) (s' : RxS), Sane l s → chLoop prg l C inner n s ts = .inr (t, s') →
    Sane l s' ∧ s.at_ ≤ s'.at_ ∧ t.size + s.at_ ≤ s'.at_ + Nd.sizes ts + 1
  | 0, s, ts, t, s', hs, h => by
    rw [chLoop] at h; injection h with h; injection h with h1 h2; subst h1; subst h2
    have := chosen_le ts
    exact ⟨hs, Nat.le_refl _, by show (chosen ts).size + s.at_ ≤ _; omega⟩
  | n + 1, s, ts, t, s', hs, h => by
    rw [chLoop] at h
    split at h
    · next ha =>
      have hle := ahd_le ha (by decide)
      simp only [List.length_cons, List.length_nil] at hle
      cases hb : branchS prg l C inner ((s.mark [92, 124]).go 2) with
      | inl e => rw [hb] at h; cases h
      | inr z =>
        obtain ⟨t1, s1⟩ := z
        rw [hb] at h
        simp only at h
        obtain ⟨r1, r2, r3⟩ := branchS_kept hC _ (hs.markgo [92, 124] (n := 2) (by omega) hle) _ _ hb
        obtain ⟨k1, k2, k3⟩ := chLoop_kept hC n _ _ _ _ r1 h
        rw [Nd.sizes_append] at k3
        have r2 : s.at_ + 2 ≤ s1.at_ := r2
        have r3 : t1.size + (s.at_ + 2) ≤ s1.at_ + 1 := r3
        have k3 : t.size + s1.at_ ≤ s'.at_ + (Nd.sizes ts + (t1.size + 0)) + 1 := k3
        exact ⟨k1, by omega, by omega⟩
    · injection h with h; injection h with h1 h2; subst h1; subst h2
      have := chosen_le ts
      exact ⟨hs, Nat.le_refl _, by show (chosen ts).size + s.at_ ≤ _; omega⟩

theorem choiceS_kept {l : List UInt8} {C : Option (RxS → Out Nd)} (hC : ∀ f, C = some f → KeptZ l 2 f) {inner : Bool} : KeptZ l 2 (choiceS prg l C inner) := by
  intro s hs t s' h
  unfold choiceS at h
  cases hb : branchS prg l C inner s with
  | inl e => rw [hb] at h; cases h
  | inr z =>
    obtain ⟨t1, s1⟩ := z
    rw [hb] at h
    simp only at h
    obtain ⟨r1, r2, r3⟩ := branchS_kept hC _ hs _ _ hb
    obtain ⟨k1, k2, k3⟩ := chLoop_kept hC _ _ _ _ _ r1 h
    have k3 : t.size + s1.at_ ≤ s'.at_ + (t1.size + 0) + 1 := k3
    exact ⟨k1, by omega, by omega⟩

theorem chS_kept {l : List UInt8} : ∀ n, KeptZ l 2 (chS prg l n)
  | 0 => by
    have : chS prg l 0 = choiceS prg l none true := by funext s; rw [chS]
    rw [this]; exact choiceS_kept (fun f hf => by cases hf)
  | n + 1 => by
    have : chS prg l (n + 1) = choiceS prg l (some (chS prg l n)) (decide (n + 1 < 12)) := by funext s; rw [chS]
    rw [this]; exact choiceS_kept (fun f hf => by injection hf with hf; subst hf; exact chS_kept n)
end Go.Proofs.YtepeomphikhbkaaDoor

/-
  Walk of package bre: atom.
-/
namespace Go.Proofs.YtepeomphikhbkaaDoor
open Go.RowKit

abbrev CC2 (w : World) (b : Nat) (v0 v1 : Value) : Prop := w.cell? ⟨b, 0, none⟩ = some v0 ∧ w.cell? ⟨b, 1, none⟩ = some v1
theorem cc2_on {w w' : World} {b : Nat} {v0 v1 : Value} (h : CC2 w b v0 v1) (f : Fr nob w w') : CC2 w' b v0 v1 := ⟨f.cell h.1 (fun x => x), f.cell h.2 (fun x => x)⟩

end Go.Proofs.YtepeomphikhbkaaDoor
