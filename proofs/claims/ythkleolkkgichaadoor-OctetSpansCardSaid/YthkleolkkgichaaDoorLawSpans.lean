/-
  OctetSpans: the spans of any set are the document's, rising, with bytes between that aren't in it; it is their union; its least byte is the first one's. For every input; the table of math/bits lies as start-up lays it (tied).
-/
import Derived.Test.YthkleolkkgichaaDoorAwake1
import Derived.Test.YthkleolkkgichaaDoorOctetS
import Derived.Test.YthkleolkkgichaaDoorSpans
import Derived.Test.YthkleolkkgichaaDoorLeast
import Derived.Test.YthkleolkkgichaaDoorClaimB
import Derived.Test.YthkleolkkgichaaDoorDoor
import Derived.Test.YthkleolkkgichaaDoorCards
import Derived.Test.YthkleolkkgichaaDoorTie
namespace Go.Proofs.YthkleolkkgichaaDoor
open Go.RowKit

def allTo (L : List (Nat × Nat)) (i : Nat) : S4 := (L.take i).foldl (fun acc x => acc.or (spn x.1 x.2)) S4.zero
theorem allTo_succ {L : List (Nat × Nat)} {i : Nat} (h : i < L.length) : allTo L (i + 1) = (allTo L i).or (spn L[i].1 L[i].2) := by
  unfold allTo; rw [List.take_succ_eq_append_getElem h, List.foldl_append]; rfl
theorem has_fold (l : List (Nat × Nat)) (e : Nat) (he : e < 256) (h : ∀ x ∈ l, x.1 ≤ x.2 ∧ x.2 < 256) : ∀ acc : S4, (l.foldl (fun acc x => acc.or (spn x.1 x.2)) acc).has e = (acc.has e || l.any fun x => decide (x.1 ≤ e) && decide (e ≤ x.2)) := by
  induction l with
  | nil => intro acc; simp
  | cons x l ih =>
    intro acc
    have hx := h x (by simp)
    rw [List.foldl_cons, ih (fun y hy => h y (by simp [hy])), has_or, has_spn _ _ _ (by omega) hx.2 he, List.any_cons, Bool.or_assoc]
theorem fit_fold (l : List (Nat × Nat)) : ∀ acc : S4, acc.fit → (l.foldl (fun acc x => acc.or (spn x.1 x.2)) acc).fit := by
  induction l with
  | nil => intro acc h; exact h
  | cons x l ih => intro acc h; exact ih _ (fit_or _ _)
theorem allTo_all {s : S4} (hs : s.fit) : allTo (spl s.has 256) (spl s.has 256).length = s := by
  have g := spl_good s.has 256
  refine S4.ext_has (fit_fold _ _ fit_zero) hs fun e he => ?_
  unfold allTo
  rw [List.take_of_length_le (Nat.le_refl _), has_fold _ e he g.in_, has_zero, Bool.false_or, Bool.eq_iff_iff, g.cov e he]
  simp
theorem least_nil {s : S4} (hs : s.fit) (h : spl s.has 256 = []) : LeastIs s 0 false := by
  have g := spl_good s.has 256
  rw [h] at g
  refine .inl ⟨rfl, rfl, S4.ext_has hs fit_zero fun e he => ?_⟩
  rw [has_zero]
  have := g.cov e he
  cases hp : s.has e with
  | false => rfl
  | true => obtain ⟨x, hx, _⟩ := this.1 hp; simp at hx
theorem least_first {s : S4} {x : Nat × Nat} {r : List (Nat × Nat)} (h : spl s.has 256 = x :: r) : LeastIs s x.1 true := by
  have g := spl_good s.has 256
  rw [h] at g
  have hx := g.in_ x (by simp)
  refine .inr ⟨rfl, by omega, (g.cov x.1 (by omega)).2 ⟨x, by simp, Nat.le_refl _, hx.1⟩, fun e he => ?_⟩
  cases hp : s.has e with
  | false => rfl
  | true =>
    obtain ⟨y, hy, h1, h2⟩ := (g.cov e (by omega)).1 hp
    rcases List.mem_cons.1 hy with rfl | hy
    · omega
    · have := (List.pairwise_cons.1 g.gap).1 y hy; omega

theorem span_lit (a b : Nat) (w : World) (ha : a < 256) (hb : b < 256) : Calls Tryd.prog 7 #[.int .u8 a, .int .u8 b] w fun e w' => e = .returned (setV (spn a b)) ∧ Fr nob w w' := span_any a b w ha hb
theorem or_lit' (s t : S4) (w : World) : Calls Tryd.prog 9 #[setV s, setV t] w fun e w' => e = .returned (setV (s.or t)) ∧ Fr nob w w' := or_any s t w
theorem same_mk' (a b c d : Int) : S4.same ⟨a, b, c, d⟩ ⟨a, b, c, d⟩ = true := S4.same_refl _
theorem eq_pair (a b a' b' : Int) (k : Nat) (w : World) : (Op.equalIn (k + 2) 32 (.agg #[.int .u8 a, .int .u8 b]) (.agg #[.int .u8 a', .int .u8 b'])).run Tryd.prog w = .ok ([a, b] == [a', b']) w :=
  run_equalIn_iarr w .u8 k 32 5 2 Tryd.underlying32 Tryd.underlying5 (fun _ => by kernel_rfl) [a, b] [a', b'] rfl rfl
theorem eq_pair_9999 (a b : Int) (w : World) : (Op.equalIn 9999 32 (.agg #[.int .u8 a, .int .u8 b]) (.agg #[.int .u8 a, .int .u8 b])).run Tryd.prog w = .ok true w := by
  rw [eq_pair a b a b 9997 w]; simp
theorem eq_pair_10000 (a b : Int) (w : World) : (Op.equalIn 10000 32 (.agg #[.int .u8 a, .int .u8 b]) (.agg #[.int .u8 a, .int .u8 b])).run Tryd.prog w = .ok true w := by
  rw [eq_pair a b a b 9998 w]; simp
attribute [local go_sem] eq_pair_9999 eq_pair_10000

set_option maxRecDepth 100000 in
set_option maxHeartbeats 4000000 in
theorem lawSpans (s : S4) (c d : UInt8) (w : World) (hs : s.fit) (hT : Tab w) :
    Calls Tryd.prog 3 #[setV s, .int .u8 (c.toNat : Int), .int .u8 (d.toNat : Int)] w fun e w' => e = .returned (.bool true) ∧ Fr nob w w' := by
  go_enter Tryd.func3, Tryd.ntmps3
  go_wp2_with fail
  refine (awake1_any _).mono ?_
  rintro e w1 ⟨rfl, f1⟩
  have hA := f1.heap (newAt w (.cells #[.int .u64 s.a, .int .u64 s.b, .int .u64 s.c, .int .u64 s.d] 24)) (fun x => x)
  have rA := rule4 hA _ (Fr.refl _ _)
  have lA := lt_heap hA
  go_wp2_with fail
  obtain ⟨w2, hw2⟩ : ∃ w2, w2 = w1.alloc (.cells #[.int .u64 s.a, .int .u64 s.b, .int .u64 s.c, .int .u64 s.d] 26) := ⟨_, rfl⟩
  rw [← hw2]
  have f2 : Fr nob w1 w2 := by rw [hw2]; exact (Fr.refl _ _).alloc _
  have hB : w2.heap[w1.heap.size]? = some (.cells #[.int .u64 s.a, .int .u64 s.b, .int .u64 s.c, .int .u64 s.d] 26 (0, 0)) := by rw [hw2]; exact newAt _ _
  have hA2 := f2.heap hA (fun x => x)
  have rB := rule4 hB; have rA2 := rule4 hA2
  have lA2 := lt_heap hA2; have lB := lt_heap hB
  obtain ⟨b7, hb7⟩ : ∃ b, w1.heap.size = b := ⟨_, rfl⟩
  rw [hb7] at hB rB lB ⊢
  have F2 := Lib.hid (((Fr.refl nob w).alloc (.cells #[.int .u64 s.a, .int .u64 s.b, .int .u64 s.c, .int .u64 s.d] 24)).trans' (f1.trans' f2))
  have HB := Lib.hid hB
  clear hw2 f1 f2 hA rA lA hA2 hB hb7
  go_region_held3 (fun w' => Fr nob w2 w') (repeat (first | (with_reducible exact Fr.refl _ _) | (with_reducible assumption) | (with_reducible refine Fr.drew ?_) | (with_reducible refine Fr.trans' ?_ (by with_reducible assumption)))) (first | (go_at_call 5; (refine (spans_any s _ hs).mono ?_); rintro e w3 ⟨v8, rfl, o8, f3, n8⟩) | (go_at_call 6; (refine (spansR_any s _ hs).mono ?_); rintro e w4 ⟨v9, rfl, o9, f4, n9⟩))
  have o8' : OwnP w4 v8 (spl s.has 256) := o8.on f4 (fun _ _ x => x)
  have f24 : Fr nob w2 w4 := Fr.trans' (Fr.drew (Fr.refl _ _)) (f3.trans' f4)
  have hs8 : ∀ j, v8.ownBlock = some j → j < w4.heap.size := fun j hj => by
    rcases o8'.2 with ⟨hv, _⟩ | ⟨g, cap, cur, hv, _, hh, _⟩
    · rw [hv] at hj; cases hj
    · rw [hv] at hj; injection hj with hj; have := lt_heap hh; simp at hj; omega
  have hs9 : ∀ j, v9.ownBlock = some j → j < w4.heap.size := fun j hj => by
    rcases o9.2 with ⟨hv, _⟩ | ⟨g, cap, cur, hv, _, hh, _⟩
    · rw [hv] at hj; cases hj
    · rw [hv] at hj; injection hj with hj; have := lt_heap hh; simp at hj; omega
  have HL := Lib.hid (allTo_all hs)
  have hg := spl_good s.has 256
  have HLN := Lib.hid (fun h => least_nil (s := s) hs h)
  have HLF := Lib.hid (fun x r h => least_first (s := s) (x := x) (r := r) h)
  have hlen := spl_len s.has 256
  have HBB := Lib.hid (f24.heap HB.out (fun x => x))
  have F4 := Lib.hid (F2.out.trans' f24)
  obtain ⟨L, hLL⟩ : ∃ L, spl s.has 256 = L := ⟨_, rfl⟩
  rw [hLL] at o8' o9 HL hg HLN HLF hlen
  obtain ⟨n, hn⟩ : ∃ n, L.length = n := ⟨_, rfl⟩
  obtain ⟨a8, c8, hv8⟩ := ownsRow_slice (show w4.ownsRow 0 32 2 v8 L.length (spC L) from o8')
  obtain ⟨a9, c9, hv9⟩ := ownsRow_slice (show w4.ownsRow 0 32 2 v9 L.length (spC L) from o9)
  rw [hn] at hlen hv8 hv9
  have O8 := Lib.hid o8'; have O9 := Lib.hid o9; have G := Lib.hid hg; have S8 := Lib.hid hs8; have S9 := Lib.hid hs9; have HN := Lib.hid hn
  subst hv8 hv9
  clear o8 o8' o9 n8 n9 f3 f4 hLL hg hs8 hs9 HB rA2 rB lA2 lB
  have hc := c.toNat_lt; have hd := d.toNat_lt
  obtain ⟨sp, hsp⟩ : ∃ x, spn c.toNat d.toNat = x := ⟨_, rfl⟩
  have s1 := fun w => span_lit c.toNat d.toNat w hc hd
  have s2 := fun w => spanR_lit c.toNat d.toNat w hc hd
  rw [hsp] at s1 s2
  have S1 := Lib.hid s1; have S2 := Lib.hid s2
  have e1 := same_mk'
  have t1 : ((n : Int) != n) = false := by simp
  clear hsp s1 s2 hc hd
  go_wp2_with fail
  refine (S1.out _).mono ?_
  rintro e w5 ⟨rfl, f5⟩
  go_wp2_with fail
  refine (S2.out _).mono ?_
  rintro e w6 ⟨rfl, f6⟩
  go_wp2_with fail
  obtain ⟨w7, hw7⟩ : ∃ w7, w7 = w6.alloc (.cells #[.int .u64 0, .int .u64 0, .int .u64 0, .int .u64 0] 26) := ⟨_, rfl⟩
  rw [← hw7]
  have f67 : Fr nob w6 w7 := by rw [hw7]; exact (Fr.refl _ _).alloc _
  have hz : w7.heap[w6.heap.size]? = some (.cells #[.int .u64 0, .int .u64 0, .int .u64 0, .int .u64 0] 26 (0, 0)) := by rw [hw7]; exact newAt _ _
  have f47 := f5.trans' (f6.trans' f67)
  have h46 : w4.heap.size ≤ w6.heap.size := (f5.trans' f6).size
  obtain ⟨bz, hbz⟩ : ∃ b, w6.heap.size = b := ⟨_, rfl⟩
  rw [hbz] at hz h46 ⊢
  have O8' := Lib.hid (O8.out.on f47 (fun _ _ x => x)); have O9' := Lib.hid (O9.out.on f47 (fun _ _ x => x))
  have HZ := Lib.hid hz; have HB7 := Lib.hid (f47.heap HBB.out (fun x => x)); have F7 := Lib.hid (F4.out.trans' f47)
  have T7 := Lib.hid (hT.on F7.out)
  have HG := Lib.hid (show 0 < bz by have := hT.lt; have := F2.out.size; have := f24.size; omega)
  have HWZ := Lib.hid (show w.heap.size ≤ bz by have := F4.out.size; omega)
  have hb7z : b7 < bz := by have := lt_heap HBB.out; omega
  clear hw7 f67 hz f47 f5 f6 hbz O8 O9 HBB F4 hT f24 F2
  go_loopw [37] (fun i wr => ∃ k : Nat, i = .int .i64 k ∧ k ≤ n ∧ wr.heap[bz]? = some (.cells #[.int .u64 (allTo L k).a, .int .u64 (allTo L k).b, .int .u64 (allTo L k).c, .int .u64 (allTo L k).d] 26 (0, 0)) ∧ Fr (fun j => j = bz) w7 wr) (fun i _ => n - (intOf i).toNat)
  case atStart => exact ⟨0, rfl, Nat.zero_le _, HZ.out, Fr.refl _ _⟩
  case round =>
    obtain ⟨k, rfl, hk, hb, fr⟩ := hrel
    have o8 := O8'.out.on fr (fun j hj e => by have := S8.out j hj; omega)
    have o9 := O9'.out.on fr (fun j hj e => by have := S9.out j hj; omega)
    have rz := rule4 hb
    have lz := lt_heap hb
    have HB := Lib.hid hb; have FR := Lib.hid fr
    clear hb fr
    by_cases hlt : k < n
    · have hkl : k < L.length := by omega
      have hne : L ≠ [] := fun e => by rw [e] at hkl; simp at hkl
      obtain ⟨g8, cp8, hv8, hg8⟩ := o8.slc hne
      obtain ⟨g9, cp9, hv9, hg9⟩ := o9.slc hne
      rw [hn] at hv8 hv9
      injection hv8 with x1 x2 x3; injection hv9 with x4 x5 x6
      subst x1 x3 x4 x6
      clear x2 x5 hne
      have o8c : wr.ownsRow 0 32 2 (.slice (some ⟨g8, 0, none⟩) n c8) n (spC L) := by have := o8; unfold OwnP at this; rwa [hn] at this
      have o9c : wr.ownsRow 0 32 2 (.slice (some ⟨g9, 0, none⟩) n c9) n (spC L) := by have := o9; unfold OwnP at this; rwa [hn] at this
      have at8 : ∀ i (h : i < L.length), (∀ w', Fr nob wr w' → w'.cell? ⟨g8, i * 2, none⟩ = some (.int .u8 (L[i].1 : Int)) ∧ w'.cell? ⟨g8, i * 2 + 1, none⟩ = some (.int .u8 (L[i].2 : Int))) := fun i h w' f =>
        ⟨f.cell ((o8c.cellAt (i * 2) (by omega)).trans (spC_at L i h).1) (fun x => x), f.cell ((o8c.cellAt (i * 2 + 1) (by omega)).trans (spC_at L i h).2) (fun x => x)⟩
      have at9 : ∀ i (h : i < L.length), (∀ w', Fr nob wr w' → w'.cell? ⟨g9, i * 2, none⟩ = some (.int .u8 (L[i].1 : Int)) ∧ w'.cell? ⟨g9, i * 2 + 1, none⟩ = some (.int .u8 (L[i].2 : Int))) := fun i h w' f =>
        ⟨f.cell ((o9c.cellAt (i * 2) (by omega)).trans (spC_at L i h).1) (fun x => x), f.cell ((o9c.cellAt (i * 2 + 1) (by omega)).trans (spC_at L i h).2) (fun x => x)⟩
      have a8k := at8 k hkl; have a9k := at9 k hkl
      have hin := G.out.in_ L[k] (List.getElem_mem hkl)
      have HA := Lib.hid (allTo_succ hkl)
      have hprev : 0 < k → ∃ a b, (∀ w', Fr nob wr w' → w'.cell? ⟨g8, (k - 1) * 2 + 1, none⟩ = some (.int .u8 ((b : Nat) : Int))) ∧ b + 1 < a ∧ a = L[k].1 := fun h0 => by
        refine ⟨L[k].1, (L[k - 1]'(by omega)).2, fun w' f => (at8 (k - 1) (by omega) w' f).2, ?_, rfl⟩
        have := List.pairwise_iff_getElem.1 G.out.gap (k - 1) k (by omega) hkl (by omega)
        exact this
      obtain ⟨⟨a, b⟩, hab⟩ : ∃ x, L[k] = x := ⟨_, rfl⟩
      rw [hab] at a8k a9k hin HA hprev
      simp only at a8k a9k hin HA hprev
      have q1 : decide ((b : Int) < (a : Int)) = false := by simp; omega
      have q1' : decide (b < a) = false := by simp; omega
      have qa : IntKind.i64.wrap (a : Int) = (a : Int) := IntWalk.i64_in _ (by omega)
      obtain ⟨A, hA⟩ : ∃ x, allTo L k = x := ⟨_, rfl⟩
      rw [hA] at rz HB HA
      obtain ⟨N, hN⟩ : ∃ x, A.or (spn a b) = x := ⟨_, rfl⟩
      have HN2 := Lib.hid (show allTo L (k + 1) = N by rw [HA.out, hN])
      obtain ⟨M, hM⟩ : ∃ x, spn a b = x := ⟨_, rfl⟩
      have s1 := fun w => span_lit a b w (by omega) (by omega); rw [hM] at s1
      have s2 := fun w => or_lit' A M w; rw [← hM, hN, hM] at s2
      have SA := Lib.hid s1; have SB := Lib.hid s2
      have HPREV := Lib.hid hprev
      clear at8 at9 hprev hab hA hN hM s1 s2 o8 o9 o8c o9c HA hkl
      by_cases h0 : 0 < k
      · obtain ⟨a', b', rp, hp1, hp2⟩ := HPREV.out h0
        have q2 : decide ((0 : Int) < (k : Int)) = true := by simp; omega
        have q3 : IntKind.i64.wrap ((b' : Int) + 1) = (b' : Int) + 1 := IntWalk.i64_in _ (by omega)
        have q4 : decide ((a : Int) ≤ (b' : Int) + 1) = false := by simp; omega
        have qb : IntKind.i64.wrap (b' : Int) = (b' : Int) := IntWalk.i64_in _ (by omega)
        have q5 : IntKind.i64.wrap ((k : Int) - 1) = (k : Int) - 1 := IntWalk.i64_in _ (by omega)
        have q6 : (0 : Int) ≤ (k : Int) - 1 := by omega
        have q8 : (1 : Int) ≤ (k : Int) := by omega
        have q9 : (k : Int) ≤ n := by omega
        have q7 : ((k : Int) - 1).toNat = k - 1 := by omega
        have hkn : (k : Int) < n := by omega
        have hk0 : (k : Int) - 1 < n := by omega
        clear hp1 hp2
        go_wp2_with fail
        go_quiet (fail)
        go_wp2_with fail
        refine region_fr 13 (by kernel_rfl) (by kernel_rfl) ?_
        simp only [List.take_succ_cons, List.take_zero, List.drop_succ_cons, List.drop_zero]
        repeat (quiet_step ((first | (with_reducible exact calls_fr (SA.out _)) | (with_reducible exact calls_fr (SB.out _)))))
        refine wpQuiet_nil ?_
        intro wC fC
        have fC' : Fr nob wr wC := (Fr.refl nob wr).drewN nq |>.trans' fC
        go_wp2
        go_roundw
        case rel =>
          refine ⟨k + 1, by go_num, by omega, by rw [HN2.out]; exact setFour_heap (fC'.heap HB.out (fun x => x)) _ _ _ _, ?_⟩
          have h : ∀ (x : World) (j : Nat) (v : Value), Fr (fun k => k = bz) w7 x → Fr (fun k => k = bz) w7 (x.setCell ⟨bz, j, none⟩ v) := fun x j v hx => hx.setCell (p := ⟨bz, j, none⟩) (fun _ => rfl) v
          exact h _ _ _ (h _ _ _ (h _ _ _ (h _ _ _ (FR.out.trans' fC'.any))))
        case measure => simp [intOf]; omega
      · obtain rfl : k = 0 := by omega
        have hkn : (0 : Int) < n := by omega
        clear h0
        go_wp2_with fail
        go_quiet (fail)
        go_wp2_with fail
        refine region_fr 13 (by kernel_rfl) (by kernel_rfl) ?_
        simp only [List.take_succ_cons, List.take_zero, List.drop_succ_cons, List.drop_zero]
        repeat (quiet_step ((first | (with_reducible exact calls_fr (SA.out _)) | (with_reducible exact calls_fr (SB.out _)))))
        refine wpQuiet_nil ?_
        intro wC fC
        have fC' : Fr nob wr wC := (Fr.refl nob wr).drewN nq |>.trans' fC
        go_wp2
        go_roundw
        case rel =>
          refine ⟨0 + 1, by go_num, by omega, by rw [HN2.out]; exact setFour_heap (fC'.heap HB.out (fun x => x)) _ _ _ _, ?_⟩
          have h : ∀ (x : World) (j : Nat) (v : Value), Fr (fun k => k = bz) w7 x → Fr (fun k => k = bz) w7 (x.setCell ⟨bz, j, none⟩ v) := fun x j v hx => hx.setCell (p := ⟨bz, j, none⟩) (fun _ => rfl) v
          exact h _ _ _ (h _ _ _ (h _ _ _ (h _ _ _ (FR.out.trans' fC'.any))))
        case measure => simp [intOf]; omega
    · obtain rfl : k = n := by omega
      have hT' := T7.out.on2 FR.out (fun e => by have := HG.out; omega)
      have hb7 := FR.out.heap HB7.out (fun e => by omega)
      have r7 := rule4 hb7
      have l7 := lt_heap hb7
      have HT' := Lib.hid hT'
      have hal := HL.out
      rw [hn] at hal
      rw [hal] at rz
      have FF := Lib.hid (show Fr nob w wr from F7.out.trans FR.out (fun i hi e => by have := HWZ.out; omega))
      clear hT' hb7 hal
      go_wp2_with fail
      refine (least_any s _ hs HT'.out).mono ?_
      rintro e wL ⟨d', b', rfl, hl, fL⟩
      by_cases h0 : L = []
      · obtain ⟨rfl, rfl⟩ := hl.uniq (HLN.out h0)
        have hs0 : s = S4.zero := by
          rcases hl with ⟨_, _, h⟩ | ⟨h, _⟩
          · exact h
          · cases h
        have hk0 : k = 0 := by rw [← hn, h0]; rfl
        have t2 : ((k : Int) == 0) = true := by simp; omega
        have t3 : S4.same ⟨s.a, s.b, s.c, s.d⟩ ⟨0, 0, 0, 0⟩ = true := by rw [hs0]; decide
        clear hl hs0 hk0 h0 hn o8 o9
        go_wp2
        go_ret
        exact ⟨rfl, FF.out.trans' fL⟩
      · obtain ⟨x, r, hxr⟩ : ∃ x r, L = x :: r := by cases L with | nil => exact absurd rfl h0 | cons x r => exact ⟨x, r, rfl⟩
        obtain ⟨rfl, rfl⟩ := hl.uniq (HLF.out x r hxr)
        have hkp : 0 < k := by rw [← hn, hxr]; simp
        have t2 : ((k : Int) == 0) = false := by simp; omega
        have t4 : ((x.1 : Int) == (x.1 : Int)) = true := by simp
        obtain ⟨g8, cp8, hv8, hg8⟩ := o8.slc h0
        rw [hn] at hv8
        injection hv8 with x1 x2 x3
        subst x1
        clear x2 x3
        have o8c : wr.ownsRow 0 32 2 (.slice (some ⟨g8, 0, none⟩) k c8) k (spC L) := by have := o8; unfold OwnP at this; rwa [hn] at this
        have a80 : ∀ w', Fr nob wr w' → w'.cell? ⟨g8, 0, none⟩ = some (.int .u8 (x.1 : Int)) := fun w' f => f.cell ((o8c.cellAt 0 (by omega)).trans (by rw [hxr]; rfl)) (fun x => x)
        have hkp' : (0 : Int) < k := by omega
        clear hl h0 hxr hn o8 o9 o8c
        go_wp2
        go_ret
        exact ⟨by simp, FF.out.trans' fL⟩

namespace octetSpans
open Go.ChangeShapes Go.WideShapes Go.ChangeAt Go.RowKit
open Go.ChangeMaps (open_string shut_string)

theorem readable : ∀ t ∈ Tryd.f3.params.toList, Tryd.prog.readableRec t = true ∧ t < Tryd.prog.types.size := by
  rw [Tryd.params3]
  intro t ht
  simp only [List.mem_cons, List.not_mem_nil, or_false] at ht
  rcases ht with rfl | rfl | rfl
  all_goals exact ⟨by kernel_rfl, of_decide_eq_true (by kernel_rfl)⟩

set_option maxRecDepth 100000 in
theorem lifted (os : Os) (started : os.Started) (H : Type) (enc : TypeId × Value → H) :
    ReturnsInHanded {} Tryd.checked os 3 .any (fun w args => (Rows.octetSpansSpec.pre enc Tryd.prog Tryd.f3 [] false w args ∧ laidMetH Tryd.prog door.list1 w) ∧ sizedMet enc Tryd.prog Tryd.f3 (OpenSpec.ofChange Rows.octetSpansSpec) false w args)
      (Rows.octetSpansSpec.post enc Tryd.prog Tryd.f3 false true false false) := by
  refine returnsInHanded_of_change_and (C := Tryd.checked) (X := fun w _ => laidMetH Tryd.prog door.list1 w) (fun _ _ _ hh h => h.of_heap hh) door.own started (by kernel_rfl) Tryd.func3
    (ChangeSpec.witness_shaped (enc := enc) (C := Tryd.checked) (os := os) (X := fun w _ => laidMetH Tryd.prog door.list1 w) false (World.doorLaid Tryd.prog 14 os) #[.agg #[.int .u64 0, .int .u64 0, .int .u64 0, .int .u64 0], .int .u8 0, .int .u8 0] 8 rfl (World.shaped_of_RefB (by kernel_rfl) (by kernel_rfl)) (by kernel_rfl) (by kernel_rfl) (by kernel_rfl) (door.met os _)) ?_
  intro W base args ds gs before hval0 hW _ _ hL _
  have hval : ∀ (j : Nat) t v, Tryd.f3.params[j]? = some t → args[j]? = some v → Value.okWide Tryd.prog W .any base t v := hval0
  have hW' : DataW.Whole enc Tryd.prog Tryd.f3.params.toList Rows.octetSpansSpec.vars false W args.toList ds gs before := hW
  obtain ⟨p, q, hA0, hV, rfl, hfz, hnd⟩ := hW
  have hA : DataW.TrodAll enc Tryd.prog W 0 (fun _ => true) true Tryd.f3.params.toList args.toList ds p := hA0
  rw [Tryd.params3] at hA hval
  obtain ⟨v0, vs0, d0, ds0, p0, q0, hargs, rfl, rfl, h0, r0⟩ := trodAll_cons hA
  obtain ⟨v1, vs1, d1, ds1, p1, q1, rfl, rfl, rfl, h1, r1⟩ := trodAll_cons r0
  obtain ⟨v2, vs2, d2, ds2, p2, q2, rfl, rfl, rfl, h2, r2⟩ := trodAll_cons r1
  obtain ⟨rfl, rfl, rfl⟩ := trodAll_nil r2
  obtain rfl : args = #[v0, v1, v2] := by cases args; simp_all
  obtain ⟨rfl, rfl⟩ := trodVars_none hV
  obtain ⟨zs0, hz0, rfl, hw0⟩ := open_iarr Tryd.underlying24 Tryd.underlying22 (by kernel_rfl) (by kernel_rfl) (hval 0 24 v0 rfl rfl) h0
  obtain ⟨a0, b0, c0, e0, rfl⟩ := list4_of hz0
  have hf0 : (S4.mk a0 b0 c0 e0).fit := ⟨fit_of_wf (hw0 _ (by simp)), fit_of_wf (hw0 _ (by simp)), fit_of_wf (hw0 _ (by simp)), fit_of_wf (hw0 _ (by simp))⟩
  obtain ⟨x1, rfl, _, _, wx1⟩ := open_int Tryd.underlying5 (hval 1 5 v1 rfl rfl) h1
  obtain ⟨c1, hc1⟩ : ∃ c : UInt8, (c.toNat : Int) = x1 := ⟨_, byte_of_wf wx1⟩
  subst hc1
  obtain ⟨x2, rfl, _, _, wx2⟩ := open_int Tryd.underlying5 (hval 2 5 v2 rfl rfl) h2
  obtain ⟨c2, hc2⟩ : ∃ c : UInt8, (c.toNat : Int) = x2 := ⟨_, byte_of_wf wx2⟩
  subst hc2
  refine (show Calls Tryd.prog 3 #[.agg #[.int .u64 a0, .int .u64 b0, .int .u64 c0, .int .u64 e0], .int .u8 (c1.toNat : Int), .int .u8 (c2.toNat : Int)] W _ from ?_).mono fun e W' h => h
  refine (lawSpans ⟨a0, b0, c0, e0⟩ c1 c2 W hf0 (door.tab hL)).mono fun e W' ⟨he, hg⟩ => ?_
  subst he
  exact ⟨_, rfl, law_post rfl (by kernel_rfl) Tryd.underlying4 door.laidOut readable rfl hW' hg.below⟩

theorem over : Rows.octetSpansRow.holds Tryd.pinned (OpenSpec.ofChange Rows.octetSpansSpec) :=
  OpenClaim.holds_of_wide 3 Tryd.f3 rfl rfl rfl rfl rfl rfl rfl ⟨rfl, rfl, rfl, rfl, rfl⟩ rfl rfl rfl rfl rfl (by kernel_rfl) Tryd.func3 (by kernel_rfl)
    (of_decide_eq_true (by kernel_rfl)) (by unfold Func.isWrapper; first | (rw [if_pos (by decide +kernel)]; kernel_rfl) | (rw [if_neg (by decide +kernel)]; exact ⟨rfl, rfl⟩))
    (fun os started H enc _ => lifted os started H enc)

/-- THE STATEMENT: the tied card. -/
theorem proved : Rows.OctetSpansCardSaid :=
  Claim7.holds_tied_plain_at .later [] [.data] true _ false over (fun _ h => by cases h) (by kernel_rfl) (fun _ h => by cases h) octetSpans_row_tie rfl ⟨rfl, rfl⟩ (by kernel_rfl) rfl
    (fun f fn hf hfn => by
      obtain rfl : f = 3 := (Option.some.inj ((show Tryd.prog.funcNamed "placket/placketlaw01.OctetSpans" = some 3 by kernel_rfl).symm.trans hf)).symm
      obtain rfl : fn = Tryd.f3 := (Option.some.inj (Tryd.func3.symm.trans hfn)).symm
      exact ⟨by kernel_rfl, fun j t ht => by
        rw [Tryd.params3] at ht
        have hm : t ∈ [24, 5, 5] := by
          have := Array.mem_of_getElem? ht
          simpa using this
        exact List.all_eq_true.1 (show ([24, 5, 5] : List TypeId).all (fun t => !Tryd.prog.wantsStandIn t) = true by kernel_rfl) t hm |> fun h => by show Tryd.prog.wantsStandIn t = false; simpa using h⟩)
    (by kernel_rfl)
#print axioms proved
end octetSpans

end Go.Proofs.YthkleolkkgichaaDoor
