/-
  Walks over the document's nodes: size, Known, Few; Of, Kids.
-/
import Derived.Test.YtcmjgaadffffaaaRefA
namespace Go.Proofs.Ytcmjgaadffffaaa
open Go.RowKit

/-- Nine cells of a node, as the walk reads them. -/
theorem At.nine {w : World} {g off : Nat} {a b c d e f h i j : Value} (H : At w g off [a, b, c, d, e, f, h, i, j]) :
    w.cell? ⟨g, off, none⟩ = some a ∧ w.cell? ⟨g, off + 1, none⟩ = some b ∧ w.cell? ⟨g, off + 2, none⟩ = some c ∧ w.cell? ⟨g, off + 3, none⟩ = some d ∧ w.cell? ⟨g, off + 4, none⟩ = some e ∧
    w.cell? ⟨g, off + 5, none⟩ = some f ∧ w.cell? ⟨g, off + 6, none⟩ = some h ∧ w.cell? ⟨g, off + 7, none⟩ = some i ∧ w.cell? ⟨g, off + 8, none⟩ = some j :=
  ⟨H 0 _ rfl, H 1 _ rfl, H 2 _ rfl, H 3 _ rfl, H 4 _ rfl, H 5 _ rfl, H 6 _ rfl, H 7 _ rfl, H 8 _ rfl⟩

set_option maxRecDepth 100000 in
set_option maxHeartbeats 1000000 in
theorem tsize_any (m : Nat) : ∀ (t : T) (cs : List Value) (w : World), t.bulk ≤ m → t.bulk ≤ 3000000 → RT nob w t cs →
    Calls Try.prog 14 #[.agg cs.toArray] w fun e w' => e = .returned (.int .i64 t.bulk) ∧ Fr nob w w' := by
  induction m with
  | zero => intro t cs w h; have := t.bulk_pos; omega
  | succ m ih =>
    intro t cs w hm hb h
    obtain ⟨k, s, ps, mn, mx, nu, a, c, rfl, rfl, hs⟩ := h.open'
    have IH := Lib.hid ih; clear ih
    have hsk : (T.mk k s ps mn mx nu).bulk = 1 + T.bulks ps := rfl
    rw [hsk] at hm hb ⊢
    have hlk := T.length_le ps
    have H := Lib.hid hs; clear h hs hsk
    go_enter Try.func14, Try.ntmps14
    go_wp2_with fail
    go_loopw [3, 9] (fun s i wr => ∃ k : Nat, i = .int .i64 k ∧ k ≤ ps.length ∧ s = .int .i64 ((1 + T.bulks (ps.take k) : Nat) : Int) ∧ Fr nob w wr) (fun _ i _ => ps.length - (intOf i).toNat)
    case atStart => exact ⟨0, rfl, Nat.zero_le _, rfl, (Fr.refl _ _).alloc _⟩
    case round =>
      obtain ⟨k, rfl, hk, rfl, fr⟩ := hrel
      have hst := T.bulks_take_le ps k
      have HR := Lib.hid (H.out.on fr); have FR := Lib.hid fr; clear fr
      by_cases hlt : k < ps.length
      · obtain ⟨g, off, cap, cs, he, hx, hc, hgs⟩ := HR.out.get hlt
        injection he with e1 e2 e3
        subst e1; subst e3
        have hst2 := Lib.hid (T.bulks_take hlt)
        have hst3 := T.bulks_take_le ps (k + 1)
        have hxs : ps[k].bulk ≤ m := by have := T.bulks_mem (List.getElem_mem hlt); omega
        have hbb : T.bulks (ps.take k) + ps[k].bulk ≤ T.bulks ps := by have := hst2.out; omega
        obtain ⟨t, ht⟩ : ∃ t, ps[k] = t := ⟨_, rfl⟩
        rw [ht] at hx hxs hst2 hbb
        obtain ⟨k', s', ps', mn', mx', nu', a', c', rfl, rfl, hx'⟩ := hx.open'
        obtain ⟨d0, d1, d2, d3, d4, d5, d6, d7, d8⟩ := hc.nine
        have HX := Lib.hid hx; clear hx hx' e2 hc
        go_wp2_with fail
        refine (IH.out _ _ _ hxs (by omega) (HX.out.on ((Fr.refl _ _).alloc _))).mono ?_
        rintro e w2 ⟨rfl, f2⟩
        have F2 := Lib.hid f2; clear f2
        go_wp2
        go_roundw
        case rel => exact ⟨k + 1, by go_num, by omega, by rw [hst2.out]; go_num, (FR.out.alloc _).trans' F2.out⟩
        case measure => simp [intOf]; omega
      · obtain rfl : k = ps.length := by omega
        have hT := Lib.hid (List.take_of_length_le (l := ps) (Nat.le_refl _))
        go_wp2
        go_ret
        exact ⟨ret_int (by rw [hT.out]), FR.out⟩

theorem T.knowns_take {l : List T} {k : Nat} (h : k < l.length) : T.knowns (l.take (k + 1)) = (T.knowns (l.take k) && l[k].known) := by
  have ha : ∀ a b : List T, T.knowns (a ++ b) = (T.knowns a && T.knowns b) := by
    intro a b
    induction a with
    | nil => simp [T.knowns]
    | cons t ts ih => simp only [List.cons_append, T.knowns, ih, Bool.and_assoc]
  rw [List.take_succ_eq_append_getElem h, ha]; simp [T.knowns]
theorem T.knowns_mem {l : List T} (h : T.knowns l = true) {t : T} (ht : t ∈ l) : t.known = true := by
  induction l with
  | nil => simp at ht
  | cons a r ih =>
    simp only [T.knowns, Bool.and_eq_true] at h
    rcases List.mem_cons.1 ht with rfl | ht
    · exact h.1
    · exact ih h.2 ht
theorem T.knowns_no {l : List T} {t : T} (ht : t ∈ l) (h : t.known = false) : T.knowns l = false := by
  cases hk : T.knowns l with
  | false => rfl
  | true => rw [T.knowns_mem hk ht] at h; cases h

set_option maxRecDepth 100000 in
set_option maxHeartbeats 1000000 in
theorem known_any (m : Nat) : ∀ (t : T) (cs : List Value) (w : World), t.bulk ≤ m → t.bulk ≤ 3000000 → RT nob w t cs →
    Calls Try.prog 15 #[.agg cs.toArray] w fun e w' => e = .returned (.bool t.known) ∧ Fr nob w w' := by
  induction m with
  | zero => intro t cs w h; have := t.bulk_pos; omega
  | succ m ih =>
    intro t cs w hm hb h
    obtain ⟨kd, s, ps, mn, mx, nu, a, c, rfl, rfl, hs⟩ := h.open'
    have IH := Lib.hid ih; clear ih
    have hsk : (T.mk kd s ps mn mx nu).bulk = 1 + T.bulks ps := rfl
    rw [hsk] at hm hb
    have hlk := T.length_le ps
    obtain ⟨r, hr⟩ : ∃ r, (T.mk kd s ps mn mx nu).known = r := ⟨_, rfl⟩
    rw [hr]
    have hr' : ((!(decide (kd < 0) || decide (8 < kd))) && T.knowns ps) = r := hr
    have H := Lib.hid hs; have HK := Lib.hid hr'; clear h hs hsk hr hr'
    by_cases h0 : kd < 0
    · obtain rfl : r = false := by rw [← HK.out]; simp [h0]
      go_enter Try.func15, Try.ntmps15
      go_wp2_with fail
      go_ret
      exact ⟨rfl, (Fr.refl _ _).alloc _⟩
    by_cases h8 : 8 < kd
    · obtain rfl : r = false := by rw [← HK.out]; simp [h8]
      go_enter Try.func15, Try.ntmps15
      go_wp2_with fail
      go_ret
      exact ⟨rfl, (Fr.refl _ _).alloc _⟩
    have HKK := Lib.hid (show T.knowns ps = r by rw [← HK.out]; simp [h0, h8])
    go_enter Try.func15, Try.ntmps15
    go_wp2_with fail
    go_loopw [16] (fun i wr => ∃ k : Nat, i = .int .i64 k ∧ k ≤ ps.length ∧ T.knowns (ps.take k) = true ∧ Fr nob w wr) (fun i _ => ps.length - (intOf i).toNat)
    case atStart => exact ⟨0, rfl, Nat.zero_le _, rfl, (Fr.refl _ _).alloc _⟩
    case round =>
      obtain ⟨k, rfl, hk, hkn, fr⟩ := hrel
      have HR := Lib.hid (H.out.on fr); have FR := Lib.hid fr; have HN := Lib.hid hkn; clear fr hkn
      by_cases hlt : k < ps.length
      · obtain ⟨g, off, cap, cs, he, hx, hc, hgs⟩ := HR.out.get hlt
        injection he with e1 e2 e3
        subst e1; subst e3
        have hmem := Lib.hid (List.getElem_mem hlt)
        have hxs : ps[k].bulk ≤ m := by have := T.bulks_mem (List.getElem_mem hlt); omega
        have hxb : ps[k].bulk ≤ 3000000 := by have := T.bulks_mem (List.getElem_mem hlt); omega
        have htk := Lib.hid (T.knowns_take hlt)
        obtain ⟨t, ht⟩ : ∃ t, ps[k] = t := ⟨_, rfl⟩
        rw [ht] at hx hxs hxb hmem htk
        obtain ⟨k', s', ps', mn', mx', nu', a', c', rfl, rfl, hx'⟩ := hx.open'
        obtain ⟨d0, d1, d2, d3, d4, d5, d6, d7, d8⟩ := hc.nine
        have HX := Lib.hid hx; clear hx hx' e2 hc
        go_wp2_with fail
        refine (IH.out _ _ _ hxs hxb (HX.out.on ((Fr.refl _ _).alloc _))).mono ?_
        obtain ⟨q, hq⟩ : ∃ q, (T.mk k' s' ps' mn' mx' nu').known = q := ⟨_, rfl⟩
        rw [hq]
        rintro e w2 ⟨rfl, f2⟩
        have F2 := Lib.hid f2; have HQ := Lib.hid hq; clear f2 hq
        cases q with
        | false =>
          obtain rfl : r = false := by rw [← HKK.out]; exact T.knowns_no hmem.out HQ.out
          go_wp2
          go_ret
          exact ⟨rfl, (FR.out.alloc _).trans' F2.out⟩
        | true =>
          go_wp2
          go_roundw
          case rel => exact ⟨k + 1, by go_num, by omega, by rw [htk.out, HN.out, HQ.out]; rfl, (FR.out.alloc _).trans' F2.out⟩
          case measure => simp [intOf]; omega
      · obtain rfl : k = ps.length := by omega
        have hT := List.take_of_length_le (l := ps) (Nat.le_refl _)
        obtain rfl : r = true := by have := HN.out; rw [hT] at this; rw [← HKK.out]; exact this
        clear hT
        go_wp2
        go_ret
        exact ⟨rfl, FR.out⟩

/-- A node of few parts, of known kinds. -/
def T.few (t : T) (most : Int) : Bool := decide ((t.bulk : Int) ≤ most) && t.known

set_option maxRecDepth 100000 in
set_option maxHeartbeats 1000000 in
theorem few_any (t : T) (most : Int) (cs : List Value) (w : World) (hb : t.bulk ≤ 3000000) (h : RT nob w t cs) :
    Calls Try.prog 7 #[.agg cs.toArray, .int .i64 most] w fun e w' => e = .returned (.bool (t.few most)) ∧ Fr nob w w' := by
  obtain ⟨kd, s, ps, mn, mx, nu, a, c, ht, rfl, hs⟩ := h.open'
  obtain ⟨r, hr⟩ : ∃ r, t.few most = r := ⟨_, rfl⟩
  rw [hr]
  have hr' : (decide ((t.bulk : Int) ≤ most) && t.known) = r := hr
  have H := Lib.hid h; have HR := Lib.hid hr'; clear h hs ht hr hr'
  go_enter Try.func7, Try.ntmps7
  go_wp2_with fail
  refine (tsize_any t.bulk t _ _ (Nat.le_refl _) hb (H.out.on ((Fr.refl _ _).alloc _))).mono ?_
  rintro e w1 ⟨rfl, f1⟩
  have hf := ((Fr.refl nob w).alloc (.cells #[.int .i64 kd, .int .u64 s.a, .int .u64 s.b, .int .u64 s.c, .int .u64 s.d, .slice a ps.length c, .int .i64 mn, .int .i64 mx, .int .i64 nu] 27)).trans' f1
  have hbx := f1.heap (heap_alloc_new _ _) (fun x => x)
  have HF := Lib.hid hf; clear hf f1
  by_cases hm : (t.bulk : Int) ≤ most
  · have d0 := cell_at (j := 0) hbx rfl
    have d1 := cell_at (j := 1) hbx rfl
    have d2 := cell_at (j := 2) hbx rfl
    have d3 := cell_at (j := 3) hbx rfl
    have d4 := cell_at (j := 4) hbx rfl
    have d5 := cell_at (j := 5) hbx rfl
    have d6 := cell_at (j := 6) hbx rfl
    have d7 := cell_at (j := 7) hbx rfl
    have d8 := cell_at (j := 8) hbx rfl
    have HRR := Lib.hid (show t.known = r by rw [← HR.out]; simp [hm])
    go_wp2_with fail
    refine (known_any t.bulk t _ _ (Nat.le_refl _) hb (H.out.on HF.out)).mono ?_
    rw [HRR.out]
    rintro e w2 ⟨rfl, f2⟩
    have F2 := Lib.hid f2; clear f2
    go_wp2
    go_ret
    exact ⟨rfl, HF.out.trans' F2.out⟩
  · obtain rfl : r = false := by rw [← HR.out]; simp [hm]
    go_wp2_with fail
    go_ret
    exact ⟨rfl, HF.out⟩

end Go.Proofs.Ytcmjgaadffffaaa
