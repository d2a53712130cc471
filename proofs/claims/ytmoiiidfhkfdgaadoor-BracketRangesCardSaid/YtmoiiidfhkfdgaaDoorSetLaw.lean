/-
  Sets of bytes: what is in them. Plain: no walk.
-/
import Derived.Test.YtmoiiidfhkfdgaaDoorOctetI
namespace Go.Proofs.YtmoiiidfhkfdgaaDoor
open Go.RowKit

theorem S4.word_and (s t : S4) (d : Nat) : wd ((s.and t).word d) = wd (s.word d) &&& wd (t.word d) := by
  unfold S4.word S4.and; split <;> exact wd_and _ _
theorem S4.word_or (s t : S4) (d : Nat) : wd ((s.or t).word d) = wd (s.word d) ||| wd (t.word d) := by
  unfold S4.word S4.or; split <;> exact wd_or _ _
theorem S4.word_not (s : S4) (d : Nat) : wd (s.not.word d) = ~~~ wd (s.word d) := by
  unfold S4.word S4.not; split <;> exact wd_not _

theorem has_and (s t : S4) (d : Nat) : (s.and t).has d = (s.has d && t.has d) := by
  unfold S4.has; rw [S4.word_and, BitVec.getLsbD_and]
theorem has_or (s t : S4) (d : Nat) : (s.or t).has d = (s.has d || t.has d) := by
  unfold S4.has; rw [S4.word_or, BitVec.getLsbD_or]
theorem has_not (s : S4) (d : Nat) : s.not.has d = !s.has d := by
  unfold S4.has; rw [S4.word_not, BitVec.getLsbD_not]
  have : d % 64 < 64 := Nat.mod_lt _ (by decide)
  simp [this]
theorem has_zero (d : Nat) : S4.zero.has d = false := by
  unfold S4.has S4.word S4.zero
  have : wd 0 = 0#64 := by decide
  split <;> rw [this] <;> simp

theorem fit_and (s t : S4) : (s.and t).fit := ⟨fit_bits .and s.a t.a, fit_bits .and s.b t.b, fit_bits .and s.c t.c, fit_bits .and s.d t.d⟩
theorem fit_or (s t : S4) : (s.or t).fit := ⟨fit_bits .or s.a t.a, fit_bits .or s.b t.b, fit_bits .or s.c t.c, fit_bits .or s.d t.d⟩
theorem fit_not (s : S4) : s.not.fit := ⟨fit_bits .xor _ s.a, fit_bits .xor _ s.b, fit_bits .xor _ s.c, fit_bits .xor _ s.d⟩
theorem fit_0 : Fit 0 := ⟨by decide, by decide⟩
theorem fit_zero : S4.zero.fit := ⟨fit_0, fit_0, fit_0, fit_0⟩
theorem fit_orw (x : Int) (n : Nat) : Fit (orw x n) := fit_bits .or x _
theorem fit_put {s : S4} (h : s.fit) (d : Nat) : (s.put d).fit := by
  unfold S4.put
  split
  · exact ⟨fit_orw _ _, h.2.1, h.2.2.1, h.2.2.2⟩
  · exact ⟨h.1, fit_orw _ _, h.2.2.1, h.2.2.2⟩
  · exact ⟨h.1, h.2.1, fit_orw _ _, h.2.2.2⟩
  · exact ⟨h.1, h.2.1, h.2.2.1, fit_orw _ _⟩
theorem fit_puts (l : List UInt8) : ∀ {s : S4}, s.fit → (s.puts l).fit := by
  induction l with
  | nil => intro s h; exact h
  | cons c r ih => intro s h; exact ih (fit_put h _)
theorem fit_spanTo (a : Nat) : ∀ n, (spanTo a n).fit
  | 0 => fit_zero
  | n + 1 => fit_put (fit_spanTo a n) _
theorem fit_spn (a b : Nat) : (spn a b).fit := fit_spanTo _ _
theorem fit_pk (p : Int → Bool) : ∀ n, (pk p n).fit
  | 0 => fit_zero
  | n + 1 => by unfold pk; split; exact fit_put (fit_pk p n) _; exact fit_pk p n
theorem fit_clsSet (o : Option (Int → Bool)) : (clsSet o).fit := by
  unfold clsSet; split; exact fit_zero; exact fit_pk _ _

/-- Two sets of the same bytes are one. -/
theorem S4.ext_has {s t : S4} (hs : s.fit) (ht : t.fit) (h : ∀ d, d < 256 → s.has d = t.has d) : s = t := by
  have e : ∀ q, q < 4 → wd (s.word (64 * q)) = wd (t.word (64 * q)) := by
    intro q hq
    apply BitVec.eq_of_getLsbD_eq
    intro i hi
    have := h (64 * q + i) (by omega)
    unfold S4.has at this
    have w1 : ∀ u : S4, u.word (64 * q + i) = u.word (64 * q) := fun u => by
      unfold S4.word; rw [show (64 * q + i) / 64 = 64 * q / 64 by omega]
    rw [w1, w1, show (64 * q + i) % 64 = i by omega] at this
    exact this
  obtain ⟨a, b, c, d⟩ := s
  obtain ⟨a', b', c', d'⟩ := t
  have h0 := wd_inj hs.1 ht.1 (e 0 (by decide))
  have h1 := wd_inj hs.2.1 ht.2.1 (e 1 (by decide))
  have h2 := wd_inj hs.2.2.1 ht.2.2.1 (e 2 (by decide))
  have h3 := wd_inj hs.2.2.2 ht.2.2.2 (e 3 (by decide))
  subst h0; subst h1; subst h2; subst h3; rfl

theorem wd_pow : ∀ n : Fin 64, wd (IntKind.u64.wrap (2 ^ n.val)) = BitVec.twoPow 64 n.val := by decide +kernel
theorem wd_orw (x : Int) {n : Nat} (h : n < 64) : wd (orw x n) = wd x ||| BitVec.twoPow 64 n := by
  unfold orw; rw [wd_or, wd_pow ⟨n, h⟩]
theorem word_put (s : S4) (d e : Nat) (hd : d < 256) (he : e < 256) : wd ((s.put d).word e) = if d / 64 = e / 64 then wd (s.word e) ||| BitVec.twoPow 64 (d % 64) else wd (s.word e) := by
  have hm : d % 64 < 64 := Nat.mod_lt _ (by decide)
  have hq : d / 64 = 0 ∨ d / 64 = 1 ∨ d / 64 = 2 ∨ d / 64 = 3 := by omega
  have hr : e / 64 = 0 ∨ e / 64 = 1 ∨ e / 64 = 2 ∨ e / 64 = 3 := by omega
  unfold S4.put S4.word
  rcases hq with hq | hq | hq | hq <;> rcases hr with hr | hr | hr | hr <;> simp [hq, hr, wd_orw, hm]
theorem has_put (s : S4) (d e : Nat) (hd : d < 256) (he : e < 256) : (s.put d).has e = (decide (d = e) || s.has e) := by
  unfold S4.has
  rw [word_put s d e hd he]
  split
  · next h =>
    rw [BitVec.getLsbD_or, BitVec.getLsbD_twoPow, Bool.or_comm]
    congr 1
    have : d % 64 < 64 := Nat.mod_lt _ (by decide)
    simp only [this, decide_true, Bool.true_and]
    rw [decide_eq_decide]
    omega
  · next h =>
    have : d ≠ e := fun x => h (by rw [x])
    simp [this]
theorem has_puts (l : List UInt8) (e : Nat) (he : e < 256) : ∀ s : S4, (s.puts l).has e = (l.any (fun c => decide (c.toNat = e)) || s.has e) := by
  induction l with
  | nil => intro s; simp [S4.puts]
  | cons c r ih =>
    intro s
    rw [S4.puts, ih, has_put _ _ _ c.toNat_lt he, List.any_cons]
    cases decide (c.toNat = e) <;> cases r.any (fun c => decide (c.toNat = e)) <;> simp
theorem has_spanTo (a e : Nat) (he : e < 256) : ∀ n, a + n ≤ 256 → (spanTo a n).has e = (decide (a ≤ e) && decide (e < a + n)) := by
  intro n
  induction n with
  | zero => intro _; rw [spanTo, has_zero]; simp <;> omega
  | succ n ih =>
    intro h
    rw [spanTo, has_put _ _ _ (by omega) he, ih (by omega)]
    rw [Bool.eq_iff_iff]; simp; omega
theorem has_spn (a b e : Nat) (ha : a < 256) (hb : b < 256) (he : e < 256) : (spn a b).has e = (decide (a ≤ e) && decide (e ≤ b)) := by
  unfold spn
  rcases Nat.lt_or_ge b a with h | h
  · rw [show b + 1 - a = 0 by omega]; rw [spanTo, has_zero]; simp <;> omega
  · rw [has_spanTo _ _ he _ (by omega)]; rw [Bool.eq_iff_iff]; simp; omega

theorem S4.and_not (s : S4) : s.and s.not = S4.zero := S4.ext_has (fit_and _ _) fit_zero fun d _ => by rw [has_and, has_not, has_zero]; simp
theorem S4.not_not {s : S4} (h : s.fit) : s.not.not = s := S4.ext_has (fit_not _) h fun d _ => by rw [has_not, has_not]; simp
theorem S4.not_and (s t : S4) : (s.and t).not = s.not.or t.not := S4.ext_has (fit_not _) (fit_or _ _) fun d _ => by simp [has_not, has_and, has_or]
theorem S4.and_comm (s t : S4) : s.and t = t.and s := S4.ext_has (fit_and _ _) (fit_and _ _) fun d _ => by simp [has_and, Bool.and_comm]
theorem S4.or_comm (s t : S4) : s.or t = t.or s := S4.ext_has (fit_or _ _) (fit_or _ _) fun d _ => by simp [has_or, Bool.or_comm]
theorem S4.put_or {s : S4} (h : s.fit) {d : Nat} (hd : d < 256) : (S4.zero.put d).or s = s.put d := S4.ext_has (fit_or _ _) (fit_put h _) fun e he => by
  rw [has_or, has_put _ _ _ hd he, has_put _ _ _ hd he, has_zero]; simp
theorem puts_reverse (l : List UInt8) : S4.zero.puts l.reverse = S4.zero.puts l := S4.ext_has (fit_puts _ fit_zero) (fit_puts _ fit_zero) fun e he => by
  rw [has_puts _ _ he, has_puts _ _ he, List.any_reverse]

theorem cnt_and_or (p q : Nat → Bool) : ∀ n, cntTo (fun i => p i && q i) n + cntTo (fun i => p i || q i) n = cntTo p n + cntTo q n
  | 0 => rfl
  | n + 1 => by
    have ih := cnt_and_or p q n
    have hb : ∀ a b : Bool, (if (a && b) = true then 1 else 0) + (if (a || b) = true then 1 else 0) = (if a = true then 1 else 0) + (if b = true then 1 else 0) := by decide
    have := hb (p n) (q n)
    simp only [cntTo]
    omega
theorem cnt_not (p : Nat → Bool) : ∀ n, cntTo (fun i => !p i) n + cntTo p n = n
  | 0 => rfl
  | n + 1 => by
    have ih := cnt_not p n
    have hb : ∀ a : Bool, (if (!a) = true then 1 else 0) + (if a = true then 1 else 0) = 1 := by decide
    have := hb (p n)
    simp only [cntTo]
    omega
theorem len_and_or {s t : S4} (hs : s.fit) (ht : t.fit) : (s.and t).len + (s.or t).len = s.len + t.len := by
  have h1 : cntTo (s.and t).has 256 = cntTo (fun i => s.has i && t.has i) 256 := cntTo_congr fun i _ => has_and _ _ _
  have h2 : cntTo (s.or t).has 256 = cntTo (fun i => s.has i || t.has i) 256 := cntTo_congr fun i _ => has_or _ _ _
  rw [← cnt_set (fit_and s t), ← cnt_set (fit_or s t), ← cnt_set hs, ← cnt_set ht, h1, h2, cnt_and_or]
theorem len_not {s : S4} (hs : s.fit) : s.not.len + s.len = 256 := by
  have h1 : cntTo s.not.has 256 = cntTo (fun i => !s.has i) 256 := cntTo_congr fun i _ => has_not _ _
  rw [← cnt_set (fit_not s), ← cnt_set hs, h1, cnt_not]
theorem len_le {s : S4} (hs : s.fit) : s.len ≤ 256 := by have := len_not hs; omega

end Go.Proofs.YtmoiiidfhkfdgaaDoor
