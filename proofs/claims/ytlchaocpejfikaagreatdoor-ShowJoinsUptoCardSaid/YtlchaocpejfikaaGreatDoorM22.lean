/-
  Merged texts of this claim: RefB, RefC, RefE, RefD, TreeS.
-/
import Derived.Test.YtlchaocpejfikaaGreatDoorM19

/-
  Walks over the document's nodes: size, Known, Few; Of, Kids.
-/
namespace Go.Proofs.YtlchaocpejfikaaGreatDoor
open Go.RowKit

/-- Nine cells of a node, as the walk reads them. -/
theorem At.nine {w : World} {g off : Nat} {a b c d e f h i j : Value} (H : At w g off [a, b, c, d, e, f, h, i, j]) :
    w.cell? ⟨g, off, none⟩ = some a ∧ w.cell? ⟨g, off + 1, none⟩ = some b ∧ w.cell? ⟨g, off + 2, none⟩ = some c ∧ w.cell? ⟨g, off + 3, none⟩ = some d ∧ w.cell? ⟨g, off + 4, none⟩ = some e ∧
    w.cell? ⟨g, off + 5, none⟩ = some f ∧ w.cell? ⟨g, off + 6, none⟩ = some h ∧ w.cell? ⟨g, off + 7, none⟩ = some i ∧ w.cell? ⟨g, off + 8, none⟩ = some j :=
  ⟨H 0 _ rfl, H 1 _ rfl, H 2 _ rfl, H 3 _ rfl, H 4 _ rfl, H 5 _ rfl, H 6 _ rfl, H 7 _ rfl, H 8 _ rfl⟩

set_option maxRecDepth 100000 in
set_option maxHeartbeats 1000000 in
theorem tsize_any (m : Nat) : ∀ (t : T) (cs : List Value) (w : World), t.bulk ≤ m → t.bulk ≤ 3000000 → RT nob w t cs →
    Calls Tryz.prog 34 #[.agg cs.toArray] w fun e w' => e = .returned (.int .i64 t.bulk) ∧ Fr nob w w' := by
  induction m with
  | zero => intro t cs w h; have := t.bulk_pos; omega
  | succ m ih =>
    intro t cs w hm hb h
    obtain ⟨k, s, ps, mn, mx, nu, a, c, rfl, rfl, hs⟩ := h.open'
    have IH := Lib.hid ih; clear ih
    have hsk : (T.mk k s ps mn mx nu).bulk = 1 + T.bulks ps := rfl
    rw [hsk] at hm hb ⊢
    have hlk := T.length_le ps
    have H := Lib.hid hs; clear h hs hsk
    go_enter Tryz.func34, Tryz.ntmps34
    go_wp2_with fail
    go_loopw [3, 9] (fun s i wr => ∃ k : Nat, i = .int .i64 k ∧ k ≤ ps.length ∧ s = .int .i64 ((1 + T.bulks (ps.take k) : Nat) : Int) ∧ Fr nob w wr) (fun _ i _ => ps.length - (intOf i).toNat)
    case atStart => exact ⟨0, rfl, Nat.zero_le _, rfl, (Fr.refl _ _).alloc _⟩
    case round =>
      obtain ⟨k, rfl, hk, rfl, fr⟩ := hrel
      have hst := T.bulks_take_le ps k
      have HR := Lib.hid (H.out.on fr); have FR := Lib.hid fr; clear fr
      by_cases hlt : k < ps.length
      · obtain ⟨g, off, cap, cs, he, hx, hc, hgs⟩ := HR.out.get hlt
        injection he with e1 e2 e3
        subst e1; subst e3
        have hst2 := Lib.hid (T.bulks_take hlt)
        have hst3 := T.bulks_take_le ps (k + 1)
        have hxs : ps[k].bulk ≤ m := by have := T.bulks_mem (List.getElem_mem hlt); omega
        have hbb : T.bulks (ps.take k) + ps[k].bulk ≤ T.bulks ps := by have := hst2.out; omega
        obtain ⟨t, ht⟩ : ∃ t, ps[k] = t := ⟨_, rfl⟩
        rw [ht] at hx hxs hst2 hbb
        obtain ⟨k', s', ps', mn', mx', nu', a', c', rfl, rfl, hx'⟩ := hx.open'
        obtain ⟨d0, d1, d2, d3, d4, d5, d6, d7, d8⟩ := hc.nine
        have HX := Lib.hid hx; clear hx hx' e2 hc
        go_wp2_with fail
        refine (IH.out _ _ _ hxs (by omega) (HX.out.on ((Fr.refl _ _).alloc _))).mono ?_
        rintro e w2 ⟨rfl, f2⟩
        have F2 := Lib.hid f2; clear f2
        go_wp2
        go_roundw
        case rel => exact ⟨k + 1, by go_num, by omega, by rw [hst2.out]; go_num, (FR.out.alloc _).trans' F2.out⟩
        case measure => simp [intOf]; omega
      · obtain rfl : k = ps.length := by omega
        have hT := Lib.hid (List.take_of_length_le (l := ps) (Nat.le_refl _))
        go_wp2
        go_ret
        exact ⟨ret_int (by rw [hT.out]), FR.out⟩

theorem T.knowns_take {l : List T} {k : Nat} (h : k < l.length) : T.knowns (l.take (k + 1)) = (T.knowns (l.take k) && l[k].known) := by
  have ha : ∀ a b : List T, T.knowns (a ++ b) = (T.knowns a && T.knowns b) := by
    intro a b
    induction a with
    | nil => simp [T.knowns]
    | cons t ts ih => simp only [List.cons_append, T.knowns, ih, Bool.and_assoc]
  rw [List.take_succ_eq_append_getElem h, ha]; simp [T.knowns]
theorem T.knowns_mem {l : List T} (h : T.knowns l = true) {t : T} (ht : t ∈ l) : t.known = true := by
  induction l with
  | nil => simp at ht
  | cons a r ih =>
    simp only [T.knowns, Bool.and_eq_true] at h
    rcases List.mem_cons.1 ht with rfl | ht
    · exact h.1
    · exact ih h.2 ht
theorem T.knowns_no {l : List T} {t : T} (ht : t ∈ l) (h : t.known = false) : T.knowns l = false := by
  cases hk : T.knowns l with
  | false => rfl
  | true => rw [T.knowns_mem hk ht] at h; cases h

set_option maxRecDepth 100000 in
set_option maxHeartbeats 1000000 in
theorem known_any (m : Nat) : ∀ (t : T) (cs : List Value) (w : World), t.bulk ≤ m → t.bulk ≤ 3000000 → RT nob w t cs →
    Calls Tryz.prog 35 #[.agg cs.toArray] w fun e w' => e = .returned (.bool t.known) ∧ Fr nob w w' := by
  induction m with
  | zero => intro t cs w h; have := t.bulk_pos; omega
  | succ m ih =>
    intro t cs w hm hb h
    obtain ⟨kd, s, ps, mn, mx, nu, a, c, rfl, rfl, hs⟩ := h.open'
    have IH := Lib.hid ih; clear ih
    have hsk : (T.mk kd s ps mn mx nu).bulk = 1 + T.bulks ps := rfl
    rw [hsk] at hm hb
    have hlk := T.length_le ps
    obtain ⟨r, hr⟩ : ∃ r, (T.mk kd s ps mn mx nu).known = r := ⟨_, rfl⟩
    rw [hr]
    have hr' : ((!(decide (kd < 0) || decide (8 < kd))) && T.knowns ps) = r := hr
    have H := Lib.hid hs; have HK := Lib.hid hr'; clear h hs hsk hr hr'
    by_cases h0 : kd < 0
    · obtain rfl : r = false := by rw [← HK.out]; simp [h0]
      go_enter Tryz.func35, Tryz.ntmps35
      go_wp2_with fail
      go_ret
      exact ⟨rfl, (Fr.refl _ _).alloc _⟩
    by_cases h8 : 8 < kd
    · obtain rfl : r = false := by rw [← HK.out]; simp [h8]
      go_enter Tryz.func35, Tryz.ntmps35
      go_wp2_with fail
      go_ret
      exact ⟨rfl, (Fr.refl _ _).alloc _⟩
    have HKK := Lib.hid (show T.knowns ps = r by rw [← HK.out]; simp [h0, h8])
    go_enter Tryz.func35, Tryz.ntmps35
    go_wp2_with fail
    go_loopw [16] (fun i wr => ∃ k : Nat, i = .int .i64 k ∧ k ≤ ps.length ∧ T.knowns (ps.take k) = true ∧ Fr nob w wr) (fun i _ => ps.length - (intOf i).toNat)
    case atStart => exact ⟨0, rfl, Nat.zero_le _, rfl, (Fr.refl _ _).alloc _⟩
    case round =>
      obtain ⟨k, rfl, hk, hkn, fr⟩ := hrel
      have HR := Lib.hid (H.out.on fr); have FR := Lib.hid fr; have HN := Lib.hid hkn; clear fr hkn
      by_cases hlt : k < ps.length
      · obtain ⟨g, off, cap, cs, he, hx, hc, hgs⟩ := HR.out.get hlt
        injection he with e1 e2 e3
        subst e1; subst e3
        have hmem := Lib.hid (List.getElem_mem hlt)
        have hxs : ps[k].bulk ≤ m := by have := T.bulks_mem (List.getElem_mem hlt); omega
        have hxb : ps[k].bulk ≤ 3000000 := by have := T.bulks_mem (List.getElem_mem hlt); omega
        have htk := Lib.hid (T.knowns_take hlt)
        obtain ⟨t, ht⟩ : ∃ t, ps[k] = t := ⟨_, rfl⟩
        rw [ht] at hx hxs hxb hmem htk
        obtain ⟨k', s', ps', mn', mx', nu', a', c', rfl, rfl, hx'⟩ := hx.open'
        obtain ⟨d0, d1, d2, d3, d4, d5, d6, d7, d8⟩ := hc.nine
        have HX := Lib.hid hx; clear hx hx' e2 hc
        go_wp2_with fail
        refine (IH.out _ _ _ hxs hxb (HX.out.on ((Fr.refl _ _).alloc _))).mono ?_
        obtain ⟨q, hq⟩ : ∃ q, (T.mk k' s' ps' mn' mx' nu').known = q := ⟨_, rfl⟩
        rw [hq]
        rintro e w2 ⟨rfl, f2⟩
        have F2 := Lib.hid f2; have HQ := Lib.hid hq; clear f2 hq
        cases q with
        | false =>
          obtain rfl : r = false := by rw [← HKK.out]; exact T.knowns_no hmem.out HQ.out
          go_wp2
          go_ret
          exact ⟨rfl, (FR.out.alloc _).trans' F2.out⟩
        | true =>
          go_wp2
          go_roundw
          case rel => exact ⟨k + 1, by go_num, by omega, by rw [htk.out, HN.out, HQ.out]; rfl, (FR.out.alloc _).trans' F2.out⟩
          case measure => simp [intOf]; omega
      · obtain rfl : k = ps.length := by omega
        have hT := List.take_of_length_le (l := ps) (Nat.le_refl _)
        obtain rfl : r = true := by have := HN.out; rw [hT] at this; rw [← HKK.out]; exact this
        clear hT
        go_wp2
        go_ret
        exact ⟨rfl, FR.out⟩

/-- A node of few parts, of known kinds. -/
def T.few (t : T) (most : Int) : Bool := decide ((t.bulk : Int) ≤ most) && t.known

set_option maxRecDepth 100000 in
set_option maxHeartbeats 1000000 in
theorem few_any (t : T) (most : Int) (cs : List Value) (w : World) (hb : t.bulk ≤ 3000000) (h : RT nob w t cs) :
    Calls Tryz.prog 11 #[.agg cs.toArray, .int .i64 most] w fun e w' => e = .returned (.bool (t.few most)) ∧ Fr nob w w' := by
  obtain ⟨kd, s, ps, mn, mx, nu, a, c, ht, rfl, hs⟩ := h.open'
  obtain ⟨r, hr⟩ : ∃ r, t.few most = r := ⟨_, rfl⟩
  rw [hr]
  have hr' : (decide ((t.bulk : Int) ≤ most) && t.known) = r := hr
  have H := Lib.hid h; have HR := Lib.hid hr'; clear h hs ht hr hr'
  go_enter Tryz.func11, Tryz.ntmps11
  go_wp2_with fail
  refine (tsize_any t.bulk t _ _ (Nat.le_refl _) hb (H.out.on ((Fr.refl _ _).alloc _))).mono ?_
  rintro e w1 ⟨rfl, f1⟩
  have hf := ((Fr.refl nob w).alloc (.cells #[.int .i64 kd, .int .u64 s.a, .int .u64 s.b, .int .u64 s.c, .int .u64 s.d, .slice a ps.length c, .int .i64 mn, .int .i64 mx, .int .i64 nu] 32)).trans' f1
  have hbx := f1.heap (heap_alloc_new _ _) (fun x => x)
  have HF := Lib.hid hf; clear hf f1
  by_cases hm : (t.bulk : Int) ≤ most
  · have d0 := cell_at (j := 0) hbx rfl
    have d1 := cell_at (j := 1) hbx rfl
    have d2 := cell_at (j := 2) hbx rfl
    have d3 := cell_at (j := 3) hbx rfl
    have d4 := cell_at (j := 4) hbx rfl
    have d5 := cell_at (j := 5) hbx rfl
    have d6 := cell_at (j := 6) hbx rfl
    have d7 := cell_at (j := 7) hbx rfl
    have d8 := cell_at (j := 8) hbx rfl
    have HRR := Lib.hid (show t.known = r by rw [← HR.out]; simp [hm])
    go_wp2_with fail
    refine (known_any t.bulk t _ _ (Nat.le_refl _) hb (H.out.on HF.out)).mono ?_
    rw [HRR.out]
    rintro e w2 ⟨rfl, f2⟩
    have F2 := Lib.hid f2; clear f2
    go_wp2
    go_ret
    exact ⟨rfl, HF.out.trans' F2.out⟩
  · obtain rfl : r = false := by rw [← HR.out]; simp [hm]
    go_wp2_with fail
    go_ret
    exact ⟨rfl, HF.out⟩

end Go.Proofs.YtlchaocpejfikaaGreatDoor

/-
  Walks over the document's nodes: Of, Kids.
-/
namespace Go.Proofs.YtlchaocpejfikaaGreatDoor
open Go.RowKit

/-- The nine cells of a node. -/
def nine (k : Int) (s : S4) (v : Value) (mn mx nu : Int) : List Value := [.int .i64 k, .int .u64 s.a, .int .u64 s.b, .int .u64 s.c, .int .u64 s.d, v, .int .i64 mn, .int .i64 mx, .int .i64 nu]

theorem cell9 {w : World} {b : Nat} {k : Int} {s : S4} {v : Value} {mn mx nu : Int} {T : TypeId} (h : w.heap[b]? = some (.cells (nine k s v mn mx nu).toArray T (0, 0))) : At w b 0 (nine k s v mn mx nu) := by
  intro j u hj
  exact cell_at h (by simpa using hj)

/-- A node that is handed back out of a variable. -/
theorem results_T {fn : Func} {p : Tmp} (h : fn.results = #[.cell p 32]) {tmps : Array Value} {r : Nat} (ht : tmps.getD p undef = .pointer (some ⟨r, 0, none⟩)) {W : World} {k : Int} {s : S4} {v : Value} {mn mx nu : Int}
    (hb : W.heap[r]? = some (.cells (nine k s v mn mx nu).toArray 32 (0, 0))) : (results fn tmps).run Tryz.prog W = .ok (.agg (nine k s v mn mx nu).toArray) W := by
  obtain ⟨c0, c1, c2, c3, c4, c5, c6, c7, c8⟩ := (cell9 hb).nine
  simp only [Nat.zero_add] at c1 c2 c3 c4 c5 c6 c7 c8
  have ht' : tmps[p]?.getD undef = .pointer (some ⟨r, 0, none⟩) := by rw [← ht]; simp
  simp only [results, h]
  simp [ht', go_sem, c0, c1, c2, c3, c4, c5, c6, c7, c8, nine]


set_option maxRecDepth 100000 in
set_option maxHeartbeats 1000000 in
theorem of_T (t : T) (cs : List Value) (w : World) (h : RT nob w t cs) :
    Calls Tryz.prog 62 #[.agg cs.toArray] w fun e w' => ∃ cs', e = .returned (.agg cs'.toArray) ∧ RT nob w' t.of cs' ∧ Fr nob w w' := by
  obtain ⟨kd, s, ps, mn, mx, nu, a, c, rfl, rfl, hs⟩ := h.open'
  have H := Lib.hid hs; clear h hs
  cases ps with
  | nil =>
    have H0 := H.out
    go_enter Tryz.func62, Tryz.ntmps62
    go_wp2
    (try simp only [Exit.inBlock, Exit.then])
    refine bodyPost_ret (results_T (k := 0) (s := S4.zero) (v := .slice none 0 0) (mn := 0) (mx := 0) (nu := 0) rfl rfl (heap_alloc_new' _ _ _ (by simp))) rfl ⟨_, rfl, ?_, ((Fr.refl _ _).alloc _).alloc _⟩
    show RT nob _ T.zero _
    unfold T.zero
    rw [RT_mk]
    exact ⟨_, rfl, .inl ⟨⟨none, 0, rfl⟩, rfl⟩⟩
  | cons x r =>
    obtain ⟨g, off, cap, cx, he, hx, hc, hgs⟩ := H.out.get (k := 0) (by simp)
    injection he with e1 e2 e3
    subst e1; subst e3
    have hx' : RT nob w x cx := hx
    obtain ⟨k', s', ps', mn', mx', nu', a', c', hxe, rfl, hxs⟩ := hx'.open'
    simp only [Nat.zero_mul, Nat.add_zero] at hc
    obtain ⟨d0, d1, d2, d3, d4, d5, d6, d7, d8⟩ := hc.nine
    have HX := Lib.hid hx'
    clear hx hx' hxs hc e2
    obtain ⟨len, hlen⟩ : ∃ len, (x :: r).length = len := ⟨_, rfl⟩
    have hl0 : 0 < len := by rw [← hlen]; simp
    rw [hlen]
    clear hlen
    go_enter Tryz.func62, Tryz.ntmps62
    go_wp2
    (try simp only [Exit.inBlock, Exit.then])
    refine bodyPost_ret (results_T (k := k') (s := s') (v := .slice a' ps'.length c') (mn := mn') (mx := mx') (nu := nu') rfl rfl (heap_alloc_new' _ _ _ (by simp))) rfl ⟨_, rfl, ?_, ((Fr.refl _ _).alloc _).alloc _⟩
    exact HX.out.on (((Fr.refl _ _).alloc _).alloc _)

/-- One node in a block of its own. -/
theorem ST.one {S : Nat → Prop} {w : World} {t : T} {cs : List Value} {b : Nat} (h : RT S w t cs) (hS : ∀ k, S k → k < w.heap.size) (e : TypeId) (hb : b = w.heap.size) : ST S (w.alloc (.cells cs.toArray e)) [t] (.slice (some ⟨b, 0, none⟩) 1 1) := by
  subst hb
  refine .inr ⟨_, _, _, rfl, by simp, ?_⟩
  rw [RTs]
  exact ⟨fun x => by have := hS _ x; omega, by simp, ⟨cs, h.on ((Fr.refl _ _).alloc _), by have := At.new w cs.toArray e rfl; simpa using this⟩, by rw [RTs]; trivial⟩

set_option maxRecDepth 100000 in
set_option maxHeartbeats 1000000 in
theorem kids_T (t : T) (cs : List Value) (w : World) (h : RT nob w t cs) :
    Calls Tryz.prog 38 #[.agg cs.toArray] w fun e w' => ∃ u, e = .returned u ∧ ST nob w' t.kids u ∧ Fr nob w w' := by
  obtain ⟨kd, s, ps, mn, mx, nu, a, c, ht, rfl, hs⟩ := h.open'
  have H := Lib.hid hs; have HT := Lib.hid h; clear h hs
  by_cases h2 : kd = 2
  · have hk : t.kids = ps := by rw [ht]; simp [T.kids, T.kind, T.parts, h2]
    rw [hk]; subst h2
    clear ht hk
    go_enter Tryz.func38, Tryz.ntmps38
    go_wp2
    go_ret
    exact ⟨_, rfl, H.out.on ((Fr.refl _ _).alloc _), (Fr.refl _ _).alloc _⟩
  by_cases h3 : kd = 3
  · have hk : t.kids = ps := by rw [ht]; simp [T.kids, T.kind, T.parts, h3]
    rw [hk]; subst h3
    clear ht hk
    go_enter Tryz.func38, Tryz.ntmps38
    go_wp2
    go_ret
    exact ⟨_, rfl, H.out.on ((Fr.refl _ _).alloc _), (Fr.refl _ _).alloc _⟩
  by_cases h45 : kd = 4 ∨ kd = 5
  · have hk : t.kids = [t.of] := by rw [ht]; simp [T.kids, T.kind, h2, h3, h45]
    rw [hk]
    clear ht hk
    rcases h45 with rfl | rfl
    all_goals
      go_enter Tryz.func38, Tryz.ntmps38
      go_wp2_with fail
      refine (of_T t _ _ (HT.out.on ((Fr.refl _ _).alloc _))).mono ?_
      rintro e w1 ⟨cs', rfl, hr, f1⟩
      obtain ⟨k', s', ps', mn', mx', nu', a', c', hxe, rfl, hxs⟩ := hr.open'
      have HR := Lib.hid hr; have F1 := Lib.hid f1; clear hr f1 hxs hxe
      go_wp2
      go_ret
      exact ⟨_, rfl, ST.one HR.out (fun _ x => x.elim) _ rfl, (((Fr.refl _ _).alloc _).trans' F1.out).alloc _⟩
  · have hk : t.kids = [] := by rw [ht]; simp [T.kids, T.kind, h2, h3, h45]
    rw [hk]
    have h4 : kd ≠ 4 := fun e => h45 (.inl e)
    have h5 : kd ≠ 5 := fun e => h45 (.inr e)
    clear ht hk h45
    go_enter Tryz.func38, Tryz.ntmps38
    go_wp2
    go_ret
    exact ⟨_, rfl, .inl ⟨⟨none, 0, rfl⟩, rfl⟩, (Fr.refl _ _).alloc _⟩

end Go.Proofs.YtlchaocpejfikaaGreatDoor

/-
  Walks over the document's nodes: Size, Deep, Groups, Backs: as of the program's node.
-/
namespace Go.Proofs.YtlchaocpejfikaaGreatDoor
open Go.RowKit

theorem T.kids_take (t : T) (k : Nat) : t.nd.kids.take k = (t.kids.take k).map T.nd := by rw [t.kids_nd, List.map_take]
theorem T.kid_at (t : T) {k : Nat} (h : k < t.kids.length) (h' : k < t.nd.kids.length) : t.nd.kids[k] = t.kids[k].nd := by
  have : t.nd.kids[k]? = (t.kids[k]?).map T.nd := by rw [t.kids_nd, List.getElem?_map]
  rw [List.getElem?_eq_getElem h', List.getElem?_eq_getElem h] at this
  simpa using this
theorem T.kids_len (t : T) : t.nd.kids.length = t.kids.length := by rw [t.kids_nd, List.length_map]
theorem T.isGroup_iff (kd : Int) (s : S4) (ps : List T) (mn mx nu : Int) : (T.mk kd s ps mn mx nu).nd.isGroup = decide (kd = 5) := by
  simp only [T.nd]
  by_cases a1 : kd = 1
  · simp [a1, Nd.isGroup]
  by_cases a2 : kd = 2
  · simp [a2, Nd.isGroup]
  by_cases a3 : kd = 3
  · simp [a3, Nd.isGroup]
  by_cases a4 : kd = 4
  · simp [a4, Nd.isGroup]
  by_cases a5 : kd = 5
  · simp [a5, Nd.isGroup]
  by_cases a6 : kd = 6
  · simp [a6, Nd.isGroup]
  by_cases a7 : kd = 7
  · simp [a7, Nd.isGroup]
  by_cases a8 : kd = 8
  · simp [a8, Nd.isGroup]
  simp [a1, a2, a3, a4, a5, a6, a7, a8, Nd.isGroup]
theorem T.isBack_iff (kd : Int) (s : S4) (ps : List T) (mn mx nu : Int) : (T.mk kd s ps mn mx nu).nd.isBack = decide (kd = 6) := by
  simp only [T.nd]
  by_cases a1 : kd = 1
  · simp [a1, Nd.isBack]
  by_cases a2 : kd = 2
  · simp [a2, Nd.isBack]
  by_cases a3 : kd = 3
  · simp [a3, Nd.isBack]
  by_cases a4 : kd = 4
  · simp [a4, Nd.isBack]
  by_cases a5 : kd = 5
  · simp [a5, Nd.isBack]
  by_cases a6 : kd = 6
  · simp [a6, Nd.isBack]
  by_cases a7 : kd = 7
  · simp [a7, Nd.isBack]
  by_cases a8 : kd = 8
  · simp [a8, Nd.isBack]
  simp [a1, a2, a3, a4, a5, a6, a7, a8, Nd.isBack]

set_option maxRecDepth 100000 in
set_option maxHeartbeats 1000000 in
theorem groups_T (m : Nat) : ∀ (t : T) (cs : List Value) (w : World), t.nd.size ≤ m → t.nd.size ≤ 3000000 → RT nob w t cs →
    Calls Tryz.prog 16 #[.agg cs.toArray] w fun e w' => e = .returned (.int .i64 t.nd.groups) ∧ Fr nob w w' := by
  induction m with
  | zero => intro t cs w h; have := t.nd.size_pos; omega
  | succ m ih =>
    intro t cs w hm hb h
    obtain ⟨kd, s, ps, mn, mx, nu, a, c, ht, rfl, hs⟩ := h.open'
    have IH := Lib.hid ih; have HT := Lib.hid h; have HE := Lib.hid ht; clear ih h hs ht
    have hkl : t.kids.length ≤ 3000000 := by have h1 := Nd.length_le t.nd.kids; have h2 := t.nd.size_kids; have h3 := t.kids_len; omega
    have hsk := Lib.hid t.nd.size_kids
    have hdl := Nd.groupss_le t.nd.kids
    have hdb : Nd.groupss t.nd.kids ≤ 3000000 := by have := hsk.out; omega
    have hdk := Lib.hid (show t.nd.groups = Nd.groupss t.nd.kids + (if kd = 5 then 1 else 0) by rw [t.nd.groups_kids, HE.out, T.isGroup_iff]; by_cases h5 : kd = 5 <;> simp [h5])
    obtain ⟨d, hd⟩ : ∃ d, t.nd.groups = d := ⟨_, rfl⟩
    rw [hd] at hdk ⊢
    clear hd hdl
    go_enter Tryz.func16, Tryz.ntmps16
    go_wp2_with fail
    refine (kids_T t _ _ (HT.out.on ((Fr.refl _ _).alloc _))).mono ?_
    rintro e w1 ⟨u, rfl, s1, f1⟩
    obtain ⟨a1, c1, rfl⟩ := s1.shape
    have hbx := f1.heap (heap_alloc_new _ _) (fun x => x)
    have S1 := Lib.hid s1; have F1 := Lib.hid f1; have HBX := Lib.hid hbx; clear s1 f1 hbx
    go_wp2_with fail
    go_loopw [3, 10] (fun s i wr => ∃ (k : Nat), i = .int .i64 k ∧ k ≤ t.kids.length ∧ s = .int .i64 ((Nd.groupss (t.nd.kids.take k) : Nat) : Int) ∧ Fr nob w1 wr) (fun _ i _ => t.kids.length - (intOf i).toNat)
    case atStart => exact ⟨0, rfl, Nat.zero_le _, rfl, Fr.refl _ _⟩
    case round =>
      obtain ⟨k, rfl, hk, rfl, fr⟩ := hrel
      have FR := Lib.hid fr; clear fr
      by_cases hlt : k < t.kids.length
      · obtain ⟨q, off, cap, cx, he, hx, hc, hgs⟩ := (S1.out.on FR.out).get hlt
        injection he with e1 e2 e3
        subst e1; subst e3
        have hlt' : k < t.nd.kids.length := by have := t.kids_len; omega
        have hka := t.kid_at hlt hlt'
        have hxs : t.kids[k].nd.size < t.nd.size := Nd.kid_lt (by rw [← hka]; exact List.getElem_mem hlt')
        have hnt := Lib.hid (show Nd.groupss (t.nd.kids.take (k + 1)) = Nd.groupss (t.nd.kids.take k) + t.kids[k].nd.groups by rw [Nd.groupss_take hlt', hka])
        have hst3 : Nd.groupss (t.nd.kids.take k) + t.kids[k].nd.groups ≤ 3000000 := by
          have h1 := Nd.groupss_append (t.nd.kids.take (k + 1)) (t.nd.kids.drop (k + 1)); rw [List.take_append_drop] at h1; have := hnt.out; omega
        obtain ⟨x, hxe⟩ : ∃ x, t.kids[k] = x := ⟨_, rfl⟩
        rw [hxe] at hx hxs hnt hst3
        obtain ⟨k', s', ps', mn', mx', nu', a', c', hx0, rfl, hxx⟩ := hx.open'
        obtain ⟨d0, d1, d2, d3, d4, d5, d6, d7, d8⟩ := hc.nine
        have HX := Lib.hid hx; clear hx hxx hx0 e2 hc hxe hka hlt'
        go_wp2_with fail
        refine (IH.out x _ _ (by omega) (by omega) HX.out).mono ?_
        rintro e w2 ⟨rfl, f2⟩
        have F2 := Lib.hid f2; clear f2
        go_wp2
        go_roundw
        case rel => exact ⟨k + 1, by go_num, by omega, by rw [hnt.out]; go_num, FR.out.trans' F2.out⟩
        case measure => simp [intOf]; omega
      · obtain rfl : k = t.kids.length := by omega
        have hwr := FR.out.heap HBX.out (fun x => x)
        have d0 := cell_at (j := 0) hwr rfl
        have FW := Lib.hid ((((Fr.refl nob w).alloc _).trans' F1.out).trans' FR.out)
        clear hwr
        have hT := List.take_of_length_le (l := t.nd.kids) (i := t.kids.length) (by have := t.kids_len; omega)
        rw [hT]
        clear hT
        by_cases h5 : kd = 5
        · have HD := Lib.hid (show d = Nd.groupss t.nd.kids + 1 by rw [hdk.out, if_pos h5])
          subst h5
          go_wp2
          go_ret
          exact ⟨ret_int (by rw [HD.out]; first | rfl | (simp; done) | omega), FW.out⟩
        · have HD := Lib.hid (show d = Nd.groupss t.nd.kids by rw [hdk.out, if_neg h5]; rfl)
          go_wp2
          go_ret
          exact ⟨ret_int (by rw [HD.out]), FW.out⟩

end Go.Proofs.YtlchaocpejfikaaGreatDoor

/-
  Walk: Real: the document's node as the program's, all of it in new memory.
-/
namespace Go.Proofs.YtlchaocpejfikaaGreatDoor
open Go.RowKit

/-- What lay there ahead of a world. -/
def Old (w : World) : Nat → Prop := fun k => k < w.heap.size
/-- Blocks of S, and the call's own slice's. -/
def LS2 (S : Nat → Prop) (g : Option Nat) : Nat → Prop := fun k => S k ∨ g = some k

/-- A call's own slice of nodes, all of them outside S. -/
def OwnS (S : Nat → Prop) (w : World) (l : List Nd) (v : Value) (g : Option Nat) : Prop := ∃ vs, w.ownsRow 0 36 1 v l.length vs ∧ VN (LS2 S g) w l vs ∧ v.ownBlock = g ∧ ∀ k, g = some k → ¬ S k

theorem OwnS.nil (S : Nat → Prop) (w : World) : OwnS S w [] (.slice none 0 0) none := ⟨[], World.ownsRow_nil _ _ _ _, rfl, rfl, fun _ h => by cases h⟩
theorem OwnS.shape {S : Nat → Prop} {w : World} {l : List Nd} {v : Value} {g : Option Nat} (h : OwnS S w l v g) : ∃ a c, v = .slice a l.length c := by
  obtain ⟨vs, h1, _⟩ := h; exact ownsRow_slice h1
theorem OwnS.on {S : Nat → Prop} {w w' : World} {l : List Nd} {v : Value} {g : Option Nat} (h : OwnS S w l v g) (f : Fr nob w w') : OwnS S w' l v g := by
  obtain ⟨vs, h1, h2, h3, h4⟩ := h
  exact ⟨vs, ownsRow_fr h1 f (fun _ _ x => x), h2.keep f (fun _ _ x => x.elim) (fun _ _ x => x), h3, h4⟩
theorem OwnS.lt {S : Nat → Prop} {w : World} {l : List Nd} {v : Value} {g : Option Nat} (h : OwnS S w l v g) : ∀ k, g = some k → k < w.heap.size := by
  intro k hk
  obtain ⟨vs, hown, _, hg, _⟩ := h
  rcases hown.2 with ⟨rfl, _⟩ | ⟨r, cap, cur, rfl, _, hr, _⟩
  · rw [← hg] at hk; cases hk
  · rw [← hg] at hk; injection hk with hk; subst hk; exact lt_heap hr
theorem OwnS.sn {S : Nat → Prop} {w : World} {l : List Nd} {v : Value} {g : Option Nat} (h : OwnS S w l v g) : SN S w l v := by
  obtain ⟨vs, h1, h2, h3, h4⟩ := h
  exact SN.of_own h1 (h2.keep (S' := S) (Fr.refl nob w) (fun _ _ x => x.elim) (fun _ _ x => .inl x)) (fun k hk => h4 k (by rw [← h3, hk]))

/-- One node more, in a call's own slice. -/
theorem wpList_append_own1 {S : Nat → Prop} {w : World} {ops : Array Oper} {rest : List Oper} {o : Oper} {a : Act} {Q : Exit → Act → World → Prop} (hgd : o.guard = none) (s x : Operand)
    (ho : o.op = .call { callee := .builtin .append, args := #[s, x], argTypes := #[68, 68] })
    (l : List Nd) (n : Nd) (v y : Value) (q : Nat) (g : Option Nat) (hs : a.eval s = v) (hown : OwnS S w l v g) (hx : a.eval x = .slice (some ⟨q, 0, none⟩) 1 1) (hy : RN (LS2 S g) w n y)
    (hc : w.cell? ⟨q, 0, none⟩ = some y) (hS : ∀ k, S k → k < w.heap.size) (hb : l.length ≤ 3000000)
    (h : ∀ v' w' g', OwnS S w' (l ++ [n]) v' g' → Fr (fun k => g = some k) w w' → (∀ k, g' = some k → g = some k ∨ w.heap.size ≤ k) → wpList Tryz.prog ops Q rest (a.put o.dst v') w') : wpList Tryz.prog ops Q (o :: rest) a w := by
  obtain ⟨i0, hi, hz0, hz1, hz2⟩ := info_parts info_node
  obtain ⟨vs, h1, h2, h3, h4⟩ := hown
  have hvy : VN (LS2 S g) w [n] [y] := ⟨y, [], rfl, hy, rfl⟩
  refine wpList_append_g hgd s x _ ho 36 i0 .nilIface 1 16 Tryz.underlying68 hi hz0 hz1 hz2 rfl (by decide) v l.length vs hs h1 ⟨q, 0, none⟩ 1 1 [y] hx rfl ?_ hvy.cell1 (by unfold maxLen; omega) (by omega) ?_
  · intro j u hj
    match j, hj with
    | 0, hj => simp at hj; subst hj; simpa [Addr.add] using hc
  intro v' w' hown' hap
  have hold : ∀ k, v'.ownBlock = some k → g = some k ∨ w.heap.size ≤ k := fun k hk => by
    rcases hap.old k hk with h | h
    · exact .inl (by rw [← h3, h])
    · exact .inr h
  have hfr : Fr (fun k => g = some k) w w' := hap.fr.mono fun k _ hk => by rw [← h3, hk]
  refine h v' w' v'.ownBlock ⟨vs ++ [y], by simpa using hown', (VN.append h2 hvy).keep hfr (fun _ _ x => .inr x) ?_, rfl, ?_⟩ hfr hold
  · intro k hk x
    rcases x with x | x
    · exact .inl x
    · rcases hold k x with e | e
      · exact .inr e
      · omega
  · intro k hk hsk
    rcases hold k hk with e | e
    · exact h4 k e hsk
    · have := hS k hsk; omega

theorem T.nds_take {l : List T} {k : Nat} (h : k < l.length) : T.nds (l.take (k + 1)) = T.nds (l.take k) ++ [l[k].nd] := by
  simp only [T.nds_eq]; rw [List.take_succ_eq_append_getElem h, List.map_append]; rfl
theorem T.nds_length (l : List T) : (T.nds l).length = l.length := by rw [T.nds_eq, List.length_map]

theorem new_of {w wr w1 w2 : World} {o : Obj} {g : Option Nat} (h2 : w1.heap.size ≤ wr.heap.size) (h3 : w.heap.size < w1.heap.size) (hg : ∀ k, g = some k → k < wr.heap.size) :
    ∀ k, k < w2.heap.size → LS2 (Old w) g k → Old (wr.alloc o) k := by
  intro k _ hk
  unfold Old
  rcases hk with hk | hk
  · unfold Old at hk; simp; omega
  · have := hg k hk; simp; omega

set_option maxRecDepth 100000 in
set_option maxHeartbeats 1000000 in
theorem real_any (m : Nat) : ∀ (t : T) (cs : List Value) (w : World), t.nd.size ≤ m → t.nd.size ≤ 3000000 → RT nob w t cs →
    Calls Tryz.prog 13 #[.agg cs.toArray] w fun e w' => ∃ v, e = .returned v ∧ RN (Old w) w' t.nd v ∧ Fr nob w w' := by
  induction m with
  | zero => intro t cs w h; have := t.nd.size_pos; omega
  | succ m ih =>
    intro t cs w hm hb h
    obtain ⟨kd, s, ps, mn, mx, nu, a, c, ht, rfl, hs⟩ := h.open'
    have IH := Lib.hid ih; have HT := Lib.hid h; have HE := Lib.hid ht; clear ih h hs ht
    have hkn := Lib.hid t.kids_nd
    have hln := Nd.length_le t.nd.kids
    have hsk := Lib.hid t.nd.size_kids
    have hkl : t.kids.length ≤ 3000000 := by have h1 := hkn.out; have h2 := hsk.out; rw [h1, List.length_map] at hln; rw [← h1] at hln; omega
    go_enter Tryz.func13, Tryz.ntmps13
    go_wp2_with fail
    refine (kids_T t _ _ (HT.out.on ((Fr.refl _ _).alloc _))).mono ?_
    rintro e w1 ⟨u, rfl, s1, f1⟩
    obtain ⟨a1, c1, rfl⟩ := s1.shape
    have hbx := f1.heap (heap_alloc_new _ _) (fun x => x)
    have hlt1 := lt_heap hbx
    have S1 := Lib.hid s1; have F1 := Lib.hid f1; have HBX := Lib.hid hbx; clear s1 f1 hbx hln
    go_wp2_with fail
    go_loopw [3, 9] (fun s i wr => ∃ (k : Nat) (g : Option Nat), i = .int .i64 k ∧ k ≤ t.kids.length ∧ OwnS (Old w) wr (T.nds (t.kids.take k)) s g ∧ Fr nob w1 wr ∧ ∀ j, g = some j → w1.heap.size ≤ j) (fun _ i _ => t.kids.length - (intOf i).toNat)
    case atStart => exact ⟨0, none, rfl, Nat.zero_le _, OwnS.nil _ _, Fr.refl _ _, fun _ h => by cases h⟩
    case round =>
      obtain ⟨k, g, rfl, hk, ho, fr, hg⟩ := hrel
      obtain ⟨av, cv, rfl⟩ := ho.shape
      have HO := Lib.hid ho; have FR := Lib.hid fr; have HG := Lib.hid hg
      have hlw := fr.size
      clear ho fr hg
      by_cases hlt : k < t.kids.length
      · obtain ⟨q, off, cap, cx, he, hx, hc, hgs⟩ := (S1.out.on FR.out).get hlt
        injection he with e1 e2 e3
        subst e1; subst e3
        have hmem := List.getElem_mem hlt
        have hxs : t.kids[k].nd.size < t.nd.size := Nd.kid_lt (by rw [hkn.out]; exact List.mem_map_of_mem hmem)
        have hnt := Lib.hid (T.nds_take hlt)
        have hnl : (T.nds (t.kids.take k)).length ≤ 3000000 := by rw [T.nds_length, List.length_take]; omega
        obtain ⟨x, hxe⟩ : ∃ x, t.kids[k] = x := ⟨_, rfl⟩
        rw [hxe] at hx hxs hnt
        obtain ⟨k', s', ps', mn', mx', nu', a', c', hx0, rfl, hxx⟩ := hx.open'
        obtain ⟨d0, d1, d2, d3, d4, d5, d6, d7, d8⟩ := hc.nine
        have HX := Lib.hid hx; clear hx hxx hx0 e2 hc hxe hmem
        go_wp2_with fail
        refine (IH.out x _ _ (by omega) (by omega) (HX.out.on ((Fr.refl _ _).alloc _))).mono ?_
        rintro e w2 ⟨y, rfl, hy, f2⟩
        have hysh := hy.shape
        have HY := Lib.hid hy; have hl2 := f2.size; have F2 := Lib.hid f2; clear hy f2
        simp only [World.size_alloc] at hl2
        have hS := Lib.hid (fun X => fun k (hk : Old w k) => (by unfold Old at hk; simp only [World.size_alloc]; omega : k < (w2.alloc X).heap.size))
        rcases hysh with rfl | ⟨iy, zy, rfl⟩
        all_goals
          go_wp2_with (at_builtin; refine wpList_append_own1 (S := Old w) rfl (.tmp 13) (.tmp 16) rfl (T.nds (t.kids.take k)) x.nd _ _ w2.heap.size g (by rfl) (HO.out.on (((Fr.refl _ _).alloc _).trans' (F2.out.alloc _))) (by rfl) (RN.keep ((Fr.refl nob w2).alloc _) (fun _ _ x => x.elim) (new_of hlw hlt1 HO.out.lt) _ _ HY.out) (by simp) (hS.out _) hnl ?_; intro v' w3 g' ho3 hf3 hg3; obtain ⟨av', cv', he3⟩ := ho3.shape; simp only [List.length_append, List.length_singleton] at he3; subst he3; have HO3 := Lib.hid ho3; have HF3 := Lib.hid hf3; have HG3 := Lib.hid hg3; clear ho3 hf3 hg3)
          go_roundw
          case rel => exact ⟨k + 1, g', by go_num, by omega, by rw [hnt.out]; exact HO3.out, (((FR.out.alloc _).trans' F2.out).alloc _).trans HF3.out (fun i hi x => by have := HG.out i x; omega), fun j hj => by
            rcases HG3.out j hj with h | h
            · exact HG.out j h
            · simp only [World.size_alloc] at h; omega⟩
          case measure => simp [intOf]; omega
      · obtain rfl : k = t.kids.length := by omega
        have hT := List.take_of_length_le (l := t.kids) (Nat.le_refl _)
        have hO := HO.out
        rw [hT] at hO ⊢
        have HSN := Lib.hid hO.sn
        clear hT hO
        have hwr := FR.out.heap HBX.out (fun x => x)
        have d0 := cell_at (j := 0) hwr rfl
        have d1 := cell_at (j := 1) hwr rfl
        have d2 := cell_at (j := 2) hwr rfl
        have d3 := cell_at (j := 3) hwr rfl
        have d4 := cell_at (j := 4) hwr rfl
        have d6 := cell_at (j := 6) hwr rfl
        have d7 := cell_at (j := 7) hwr rfl
        have d8 := cell_at (j := 8) hwr rfl
        have FW := Lib.hid ((((Fr.refl nob w).alloc _).trans' F1.out).trans' FR.out)
        clear hwr
        have hnd1 := Lib.hid (show T.nd1 ps = t.of.nd by rw [HE.out]; cases ps <;> rfl)
        by_cases a1 : kd = 1
        · subst a1
          have hn := Lib.hid (show t.nd = .one s by rw [HE.out]; simp [T.nd])
          go_wp2
          go_ret
          exact ⟨_, rfl, by rw [hn.out, RN]; rfl, FW.out⟩
        by_cases a2 : kd = 2
        · subst a2
          have hn := Lib.hid (show t.nd = .cat (T.nds t.kids) by rw [HE.out]; simp [T.nd, T.kids, T.kind, T.parts])
          go_wp2
          go_ret
          exact ⟨_, rfl, by rw [hn.out]; exact RN_cat.2 ⟨_, rfl, HSN.out⟩, FW.out⟩
        by_cases a3 : kd = 3
        · subst a3
          have hn := Lib.hid (show t.nd = .alt (T.nds t.kids) by rw [HE.out]; simp [T.nd, T.kids, T.kind, T.parts])
          go_wp2
          go_ret
          exact ⟨_, rfl, by rw [hn.out]; exact RN_alt.2 ⟨_, rfl, HSN.out⟩, FW.out⟩
        by_cases a4 : kd = 4
        · subst a4
          have hn := Lib.hid (show t.nd = .rep t.of.nd mn mx by rw [← hnd1.out, HE.out]; simp [T.nd])
          have hkd : T.nds t.kids = [t.of.nd] := by rw [HE.out]; simp [T.kids, T.kind, T.nds]
          have hS := HSN.out
          rw [hkd] at hS ⊢
          clear hkd
          obtain ⟨q, off, cap, y, he, hy, hc⟩ := hS.get (k := 0) (by simp)
          injection he with e1 e2 e3
          subst e1; subst e3
          simp only [Nat.add_zero] at hc
          have hysh := hy.shape
          have HY := Lib.hid hy; clear hy e2 hS
          simp only [List.length_cons, List.length_nil, Nat.zero_add]
          rcases hysh with rfl | ⟨iy, zy, rfl⟩
          all_goals
            go_wp2
            go_quiet (fail)
            go_wp2
            go_ret
            exact ⟨_, rfl, by rw [hn.out, RN]; exact ⟨_, rfl, RN.keep ((Fr.refl nob wr).drewN _) (fun _ _ x => x.elim) (fun _ _ x => x) _ _ HY.out⟩, FW.out.drewN _⟩
        by_cases a5 : kd = 5
        · subst a5
          have hn := Lib.hid (show t.nd = .group nu t.of.nd by rw [← hnd1.out, HE.out]; simp [T.nd])
          have hkd : T.nds t.kids = [t.of.nd] := by rw [HE.out]; simp [T.kids, T.kind, T.nds]
          have hS := HSN.out
          rw [hkd] at hS ⊢
          clear hkd
          obtain ⟨q, off, cap, y, he, hy, hc⟩ := hS.get (k := 0) (by simp)
          injection he with e1 e2 e3
          subst e1; subst e3
          simp only [Nat.add_zero] at hc
          have hysh := hy.shape
          have HY := Lib.hid hy; clear hy e2 hS
          simp only [List.length_cons, List.length_nil, Nat.zero_add]
          rcases hysh with rfl | ⟨iy, zy, rfl⟩
          all_goals
            go_wp2
            go_quiet (fail)
            go_wp2
            go_ret
            exact ⟨_, rfl, by rw [hn.out, RN]; exact ⟨_, rfl, RN.keep ((Fr.refl nob wr).drewN _) (fun _ _ x => x.elim) (fun _ _ x => x) _ _ HY.out⟩, FW.out.drewN _⟩
        by_cases a6 : kd = 6
        · subst a6
          have hn := Lib.hid (show t.nd = .back nu by rw [HE.out]; simp [T.nd])
          go_wp2
          go_ret
          exact ⟨_, rfl, by rw [hn.out, RN]; rfl, FW.out⟩
        by_cases a7 : kd = 7
        · subst a7
          have hn := Lib.hid (show t.nd = .start by rw [HE.out]; simp [T.nd])
          go_wp2
          go_ret
          exact ⟨_, rfl, by rw [hn.out, RN]; rfl, FW.out⟩
        by_cases a8 : kd = 8
        · subst a8
          have hn := Lib.hid (show t.nd = .fin by rw [HE.out]; simp [T.nd])
          go_wp2
          go_ret
          exact ⟨_, rfl, by rw [hn.out, RN]; rfl, FW.out⟩
        · have hn := Lib.hid (show t.nd = .empty by rw [HE.out]; simp [T.nd, a1, a2, a3, a4, a5, a6, a7, a8])
          go_wp2
          go_ret
          exact ⟨_, rfl, by rw [hn.out, RN]; rfl, FW.out⟩

end Go.Proofs.YtlchaocpejfikaaGreatDoor

/-
  Join and Choose beside blocks that turn (S): what they hand back lies outside S.
-/
namespace Go.Proofs.YtlchaocpejfikaaGreatDoor
open Go.RowKit

/-- Blocks that turn, and a row's own. -/
def LGS (S : Nat → Prop) (g : Option Nat) : Nat → Prop := fun k => S k ∨ g = some k
def OwnNS (S : Nat → Prop) (w : World) (l : List Nd) (v : Value) (g : Option Nat) : Prop := ∃ vs, w.ownsRow 0 36 1 v l.length vs ∧ VN (LGS S g) w l vs ∧ v.ownBlock = g
theorem OwnNS.nil (S : Nat → Prop) (w : World) : OwnNS S w [] (.slice none 0 0) none := ⟨[], World.ownsRow_nil _ _ _ _, rfl, rfl⟩
theorem OwnNS.on {S : Nat → Prop} {w w' : World} {l : List Nd} {v : Value} {g : Option Nat} (h : OwnNS S w l v g) (f : Fr nob w w') : OwnNS S w' l v g := by
  obtain ⟨vs, h1, h2, h3⟩ := h
  exact ⟨vs, ownsRow_fr h1 f (fun _ _ x => x), h2.keep f (fun _ _ x => x.elim) (fun _ _ x => x), h3⟩
theorem OwnNS.shape {S : Nat → Prop} {w : World} {l : List Nd} {v : Value} {g : Option Nat} (h : OwnNS S w l v g) : ∃ a c, v = .slice a l.length c := by
  obtain ⟨vs, h1, h2, h3⟩ := h; exact ownsRow_slice h1
theorem OwnNS.sn {S : Nat → Prop} {w : World} {l : List Nd} {v : Value} {g : Option Nat} (h : OwnNS S w l v g) (hg : ∀ k, g = some k → ¬ S k) : SN S w l v := by
  obtain ⟨vs, h1, h2, h3⟩ := h
  exact SN.of_own h1 (h2.keep (S' := S) (Fr.refl nob w) (fun _ _ x => x.elim) (fun _ _ x => .inl x)) (fun k hk => hg k (by rw [← h3]; exact hk))
theorem OwnNS.lt {S : Nat → Prop} {w : World} {l : List Nd} {v : Value} {g : Option Nat} (h : OwnNS S w l v g) : ∀ k, g = some k → k < w.heap.size := by
  intro k hk
  obtain ⟨vs, hown, _, hg⟩ := h
  rcases hown.2 with ⟨rfl, _⟩ | ⟨r, cap, cur, rfl, _, hr, _⟩
  · rw [← hg] at hk; cases hk
  · rw [← hg] at hk; injection hk with hk; subst hk; exact lt_heap hr
theorem OwnNS.blk {S : Nat → Prop} {w : World} {l : List Nd} {v : Value} {g : Option Nat} (h : OwnNS S w l v g) : v.ownBlock = g := by
  obtain ⟨_, _, _, h⟩ := h; exact h

theorem wpList_append_snS {w : World} {ops : Array Oper} {rest : List Oper} {o : Oper} {a : Act} {Q : Exit → Act → World → Prop} {S : Nat → Prop} (hgd : o.guard = none) (s x : Operand)
    (ho : o.op = .call { callee := .builtin .append, args := #[s, x], argTypes := #[68, 68] })
    (l m : List Nd) (v ux : Value) (g : Option Nat) (hs : a.eval s = v) (hown : OwnNS S w l v g) (hx : a.eval x = ux) (hm : SN (LGS S g) w m ux) (hb : l.length + m.length ≤ 3000000)
    (h : ∀ v' w' g', OwnNS S w' (l ++ m) v' g' → Fr (LG g) w w' → (∀ k, g' = some k → g = some k ∨ w.heap.size ≤ k) → wpList Tryz.prog ops Q rest (a.put o.dst v') w') : wpList Tryz.prog ops Q (o :: rest) a w := by
  obtain ⟨i0, hi, hz0, hz1, hz2⟩ := info_parts info_node
  obtain ⟨vs, h1, h2, h3⟩ := hown
  rcases hm with ⟨rfl, rfl⟩ | ⟨q, off, cap, rfl, _, hm⟩
  · refine wpList_plain hgd fun K hK => ?_
    have hr := run_append_owned_none (P := Tryz.prog) (w := w) 0 68 o.type 36 i0 1 Tryz.underlying68 hi v l.length vs h1
    unfold Oper.wp execOp
    simp only [ho, resolve, invoke, builtin, Sem.run_bind, Sem.run_pure, Result.andThen_ok, List.map_toArray, List.map_cons, List.map_nil, hs, hx, hr]
    exact hK _ _ (h v w g (by rw [List.append_nil]; exact ⟨vs, h1, h2, h3⟩) (Fr.refl _ _) (fun k hk => .inl hk))
  · obtain ⟨us, hu, ha⟩ := RNs.vals hm
    have hul := hu.length
    refine wpList_append_g hgd s x _ ho 36 i0 .nilIface 1 16 Tryz.underlying68 hi hz0 hz1 hz2 rfl (by decide) v l.length vs hs h1 ⟨q, off, none⟩ m.length cap us hx (by omega) (fun j u hj => by have := ha j u hj; by_cases hj0 : j = 0 <;> simpa [Addr.add, hj0] using this) hu.cell1 (by unfold maxLen; omega) (by omega) ?_
    intro v' w' hown' hap
    have hold : ∀ k, v'.ownBlock = some k → g = some k ∨ w.heap.size ≤ k := fun k hk => by
      rcases hap.old k hk with h | h
      · exact .inl (by rw [← h3, h])
      · exact .inr h
    have hfr : Fr (LG g) w w' := hap.fr.mono fun k _ hk => by unfold LG; rw [← h3, hk]
    refine h v' w' v'.ownBlock ⟨vs ++ us, by simpa using hown', (VN.append h2 hu).keep hfr (fun _ _ x => .inr x) (fun k hk x => x.elim .inl (fun y => (hold k y).elim .inr (fun z => by omega))), rfl⟩ hfr hold

set_option maxRecDepth 100000 in
set_option maxHeartbeats 1000000 in
theorem onlyS_any (S : Nat → Prop) (l : List Nd) (n : Nd) (u v : Value) (w : World) (hl : l.length ≤ 3000000) (hu : SN S w l u) (hn : RN S w n v) :
    Calls Tryz.prog 42 #[u, v] w fun e w' => ∃ r, e = .returned r ∧ RN S w' (onlyOf l n) r ∧ w = w' := by
  have HN := Lib.hid hn; clear hn
  match l, hu with
  | [], hu =>
    obtain ⟨a, c, rfl⟩ := hu.shape
    clear hu
    go_enter Tryz.func42, Tryz.ntmps42
    go_wp2
    go_ret
    exact ⟨_, rfl, by unfold onlyOf; rw [RN]; rfl, rfl⟩
  | [x], hu =>
    obtain ⟨q, off, cap, y, he, hy, hc⟩ := hu.get (k := 0) (by simp)
    have he' : u = .slice (some ⟨q, off, none⟩) 1 cap := he
    have hc' : w.cell? ⟨q, off, none⟩ = some y := by simpa using hc
    have HY := Lib.hid hy; clear hu hy he hc
    subst he'
    go_enter Tryz.func42, Tryz.ntmps42
    go_wp2
    go_ret
    exact ⟨_, rfl, HY.out, rfl⟩
  | x :: y :: l, hu =>
    obtain ⟨a, c, rfl⟩ := hu.shape
    clear hu
    have h2 : ¬ (((x :: y :: l).length : Nat) : Int) = 0 := by simp; omega
    have h3 : ¬ (((x :: y :: l).length : Nat) : Int) = 1 := by simp; omega
    obtain ⟨k, hk⟩ : ∃ k, (x :: y :: l).length = k := ⟨_, rfl⟩
    rw [hk] at h2 h3 hl ⊢
    clear hk
    go_enter Tryz.func42, Tryz.ntmps42
    go_wp2
    go_ret
    exact ⟨_, rfl, HN.out, rfl⟩

/-- The slice that Join, Choose build, behind some rounds: it lies behind the world w. -/
def BuiltS (S : Nat → Prop) (w : World) (l : List Nd) (v : Value) (wr : World) : Prop := ∃ g, OwnNS S wr l v g ∧ Fr nob w wr ∧ ∀ k, g = some k → w.heap.size ≤ k

theorem BuiltS.nil (S : Nat → Prop) (w : World) : BuiltS S w [] (.slice none 0 0) w := ⟨none, OwnNS.nil S w, Fr.refl _ _, fun _ h => by cases h⟩
theorem BuiltS.on {S : Nat → Prop} {w wr w' : World} {l : List Nd} {v : Value} (h : BuiltS S w l v wr) (f : Fr nob wr w') : BuiltS S w l v w' := by
  obtain ⟨g, h1, h2, h3⟩ := h; exact ⟨g, h1.on f, h2.trans' f, h3⟩
theorem BuiltS.shape {S : Nat → Prop} {w wr : World} {l : List Nd} {v : Value} (h : BuiltS S w l v wr) : ∃ a c, v = .slice a l.length c := by
  obtain ⟨g, h1, h2, h3⟩ := h; exact h1.shape
theorem BuiltS.fr {S : Nat → Prop} {w wr : World} {l : List Nd} {v : Value} (h : BuiltS S w l v wr) : Fr nob w wr := by
  obtain ⟨g, h1, h2, h3⟩ := h; exact h2
theorem BuiltS.sn {S : Nat → Prop} {w wr : World} {l : List Nd} {v : Value} (h : BuiltS S w l v wr) (hS : ∀ k, S k → k < w.heap.size) : SN S wr l v := by
  obtain ⟨g, h1, h2, h3⟩ := h; exact h1.sn (fun k hk x => by have := h3 k hk; have := hS k x; omega)

theorem wpList_append_btS {S : Nat → Prop} {W w : World} {ops : Array Oper} {rest : List Oper} {o : Oper} {a : Act} {Q : Exit → Act → World → Prop} (hgd : o.guard = none) (s x : Operand)
    (ho : o.op = .call { callee := .builtin .append, args := #[s, x], argTypes := #[68, 68] })
    (l m : List Nd) (v ux : Value) (hs : a.eval s = v) (hown : BuiltS S W l v w) (hx : a.eval x = ux)
    (hm : ∀ g, (∀ k, g = some k → W.heap.size ≤ k) → OwnNS S w l v g → SN (LGS S g) w m ux) (hb : l.length + m.length ≤ 3000000)
    (h : ∀ v' w', BuiltS S W (l ++ m) v' w' → wpList Tryz.prog ops Q rest (a.put o.dst v') w') : wpList Tryz.prog ops Q (o :: rest) a w := by
  obtain ⟨g, h1, h2, h3⟩ := hown
  refine wpList_append_snS hgd s x ho l m v ux g hs h1 hx (hm g h3 h1) hb fun v' w' g' q1 q2 q3 => h v' w' ⟨g', q1, ?_, ?_⟩
  · exact h2.trans q2 (fun i hi hg => by have := h3 i hg; omega)
  · intro k hk
    have := h2.size
    rcases q3 k hk with h | h
    · exact h3 k h
    · omega

theorem SN.behindS {S : Nat → Prop} {W w : World} {m : List Nd} {u : Value} {g : Option Nat} (h : SN S W m u) (f : Fr nob W w) (hg : ∀ k, g = some k → W.heap.size ≤ k) : SN (LGS S g) w m u :=
  h.keep f (fun _ _ x => x.elim) (fun k hk x => x.elim id (fun x => by have := hg k x; omega))
theorem RN.behindS {S : Nat → Prop} {W w : World} {m : Nd} {u : Value} {g : Option Nat} (h : RN S W m u) (f : Fr nob W w) (hg : ∀ k, g = some k → W.heap.size ≤ k) : RN (LGS S g) w m u :=
  RN.keep f (fun _ _ x => x.elim) (fun k hk x => x.elim id (fun x => by have := hg k x; omega)) _ _ h
theorem BuiltS.lt {S : Nat → Prop} {w wr : World} {l : List Nd} {v : Value} (h : BuiltS S w l v wr) : ∀ k, v.ownBlock = some k → k < wr.heap.size := by
  obtain ⟨g, h1, h2, h3⟩ := h
  intro k hk
  rw [h1.blk] at hk
  exact h1.lt k hk

set_option maxRecDepth 100000 in
set_option maxHeartbeats 1000000 in
theorem joinS_any (S : Nat → Prop) (l : List Nd) (u : Value) (w : World) (hS : ∀ k, S k → k < w.heap.size) (hl : Nd.sizes l ≤ 3000000) (h : SN S w l u) :
    Calls Tryz.prog 18 #[u] w fun e w' => ∃ r, e = .returned r ∧ RN S w' (joined l) r ∧ Fr nob w w' := by
  obtain ⟨a, c, rfl⟩ := h.shape
  have H := Lib.hid h; clear h
  have hll := Nd.length_le l
  have hpl := Lib.hid (Nat.le_trans (Nd.length_le (parts l)) (parts_sizes l))
  go_enter Tryz.func18, Tryz.ntmps18
  go_wp2_with fail
  go_loopw [3, 11] (fun s i wr => ∃ k : Nat, i = .int .i64 k ∧ k ≤ l.length ∧ BuiltS S w (parts (l.take k)) s wr) (fun _ i _ => l.length - (intOf i).toNat)
  case atStart => exact ⟨0, rfl, Nat.zero_le _, BuiltS.nil S w⟩
  case round =>
    obtain ⟨k, rfl, hk, hB⟩ := hrel
    obtain ⟨av, cv, rfl⟩ := hB.shape
    have HB := Lib.hid hB; clear hB
    by_cases hlt : k < l.length
    · obtain ⟨q, off, cap, x, he, hx, hc⟩ := (H.out.on HB.out.fr).get hlt
      obtain ⟨_, _, _, x', he', hx', hc'⟩ := H.out.get hlt
      obtain rfl : x = x' := by
        rw [he] at he'; injection he' with e1 _ _; injection e1 with e1; injection e1 with e1 e2; subst e1; subst e2
        have := HB.out.fr.cell hc' (fun x => x); rw [hc] at this; injection this
      clear he' hc'
      injection he with e1 e2 e3
      subst e1; subst e3
      have HX := Lib.hid hx; have HX0 := Lib.hid hx'; clear hx hx' e2
      have hpt := Lib.hid (parts_take hlt)
      have hsz := Lib.hid (Nat.le_trans (Nd.length_le (parts (l.take (k + 1)))) (Nat.le_trans (parts_sizes _) (Nd.sizes_take_le l (k + 1))))
      go_wp2_with fail
      refine (told_any2 S l[k] x _ HX.out).mono ?_
      rintro e w2 ⟨y, rfl, hy, hxy, rfl⟩
      obtain ⟨n, hn⟩ : ∃ n, l[k] = n := ⟨_, rfl⟩
      rw [hn] at hy HX HX0 hpt
      clear hn
      have hcase : (n.part = [] ∧ y = .iface 84 (.agg #[])) ∨ (∃ m a c, n.part = m ∧ y = .iface 73 (.agg #[.slice a m.length c]) ∧ SN S w m (.slice a m.length c)) ∨ (n.part = [n] ∧ ∃ i z, y = .iface i z ∧ i ≠ 84 ∧ i ≠ 73 ∧ x = y) := by
        have hyk := hy.kind
        have hxk := HX0.out.kind
        cases n with
        | nil => exact .inl ⟨rfl, hyk⟩
        | empty => exact .inl ⟨rfl, hyk⟩
        | cat m =>
          obtain ⟨a', c', h2, h3⟩ := hxk
          subst h2
          rcases hxy with h | rfl
          · cases h
          · exact .inr (.inl ⟨m, a', c', rfl, rfl, h3⟩)
        | one s => subst hxk; rcases hxy with h | rfl; cases h; exact .inr (.inr ⟨rfl, _, _, rfl, by decide, by decide, rfl⟩)
        | alt m => obtain ⟨a, c, h1, _⟩ := hxk; subst h1; rcases hxy with h | rfl; cases h; exact .inr (.inr ⟨rfl, _, _, rfl, by decide, by decide, rfl⟩)
        | rep z mn mx => obtain ⟨a, h1, _⟩ := hxk; subst h1; rcases hxy with h | rfl; cases h; exact .inr (.inr ⟨rfl, _, _, rfl, by decide, by decide, rfl⟩)
        | group q z => obtain ⟨a, h1, _⟩ := hxk; subst h1; rcases hxy with h | rfl; cases h; exact .inr (.inr ⟨rfl, _, _, rfl, by decide, by decide, rfl⟩)
        | back q => subst hxk; rcases hxy with h | rfl; cases h; exact .inr (.inr ⟨rfl, _, _, rfl, by decide, by decide, rfl⟩)
        | start => subst hxk; rcases hxy with h | rfl; cases h; exact .inr (.inr ⟨rfl, _, _, rfl, by decide, by decide, rfl⟩)
        | fin => subst hxk; rcases hxy with h | rfl; cases h; exact .inr (.inr ⟨rfl, _, _, rfl, by decide, by decide, rfl⟩)
      clear hy hxy
      rcases hcase with ⟨hp, rfl⟩ | ⟨m, am, cm, hp, rfl, hm⟩ | ⟨hp, iy, z, rfl, n1, n2, rfl⟩
      · rw [hp, List.append_nil] at hpt
        clear hp
        go_wp2
        go_roundw
        case rel => exact ⟨k + 1, by go_num, by omega, by rw [hpt.out]; exact HB.out.on ((Fr.refl _ _).alloc _)⟩
        case measure => simp [intOf]; omega
      · rw [hp] at hpt
        have HM := Lib.hid hm; clear hm hp
        have hlen : (parts (l.take k)).length + m.length ≤ 3000000 := by have h := hsz.out; rw [hpt.out, List.length_append] at h; omega
        go_wp2_with (at_builtin; refine wpList_append_btS rfl (.tmp 27) (.tmp 29) rfl (parts (l.take k)) m _ _ (by rfl) (HB.out.on ((Fr.refl _ _).alloc _)) (by rfl) (fun g hg ho => HM.out.behindS (HB.out.fr.trans' ((Fr.refl _ _).alloc _)) hg) hlen ?_; intro v' w3 hb3; obtain ⟨av', cv', he3⟩ := hb3.shape; simp only [List.length_append] at he3; subst he3; have HB3 := Lib.hid hb3; clear hb3)
        go_roundw
        case rel => exact ⟨k + 1, by go_num, by omega, by rw [hpt.out]; exact HB3.out⟩
        case measure => simp [intOf]; omega
      · rw [hp] at hpt
        clear hp
        have hlen : (parts (l.take k)).length + [n].length ≤ 3000000 := by have h := hsz.out; rw [hpt.out, List.length_append] at h; omega
        go_wp2_with (at_builtin; refine wpList_append_btS rfl (.tmp 17) (.tmp 19) rfl (parts (l.take k)) [n] _ _ (by rfl) (HB.out.on ((Fr.refl _ _).alloc _)) (by rfl) (fun g hg ho => SN.one' (HX0.out.behindS (HB.out.fr) hg) (fun k hk => hk.elim (fun x => Nat.lt_of_lt_of_le (hS k x) HB.out.fr.size) (fun x => HB.out.lt k (by rw [ho.blk]; exact x))) _ rfl) hlen ?_; intro v' w3 hb3; obtain ⟨av', cv', he3⟩ := hb3.shape; simp only [List.length_append, List.length_singleton] at he3; subst he3; have HB3 := Lib.hid hb3; clear hb3)
        go_roundw
        case rel => exact ⟨k + 1, by go_num, by omega, by rw [hpt.out]; exact HB3.out⟩
        case measure => simp [intOf]; omega
    · obtain rfl : k = l.length := by omega
      have hT := Lib.hid (List.take_of_length_le (l := l) (Nat.le_refl _))
      have hB := HB.out
      rw [hT.out] at hB
      go_wp2_with fail
      refine (onlyS_any S (parts l) (.cat (parts l)) _ _ _ (by have := hpl.out; omega) (hB.sn hS) (RN_cat.2 ⟨_, rfl, (hB.sn hS)⟩)).mono ?_
      rintro e w2 ⟨r, rfl, hr, rfl⟩
      have HR := Lib.hid hr; clear hr
      go_wp2
      go_ret
      exact ⟨_, rfl, HR.out, HB.out.fr⟩

set_option maxRecDepth 100000 in
set_option maxHeartbeats 1000000 in
theorem chooseS_any (S : Nat → Prop) (l : List Nd) (u : Value) (w : World) (hS : ∀ k, S k → k < w.heap.size) (hl : Nd.sizes l ≤ 3000000) (h : SN S w l u) :
    Calls Tryz.prog 17 #[u] w fun e w' => ∃ r, e = .returned r ∧ RN S w' (chosen l) r ∧ Fr nob w w' := by
  obtain ⟨a, c, rfl⟩ := h.shape
  have H := Lib.hid h; clear h
  have hll := Nd.length_le l
  have hpl := Lib.hid (Nat.le_trans (Nd.length_le (arms l)) (arms_sizes l))
  go_enter Tryz.func17, Tryz.ntmps17
  go_wp2_with fail
  go_loopw [3, 10] (fun s i wr => ∃ k : Nat, i = .int .i64 k ∧ k ≤ l.length ∧ BuiltS S w (arms (l.take k)) s wr) (fun _ i _ => l.length - (intOf i).toNat)
  case atStart => exact ⟨0, rfl, Nat.zero_le _, BuiltS.nil S w⟩
  case round =>
    obtain ⟨k, rfl, hk, hB⟩ := hrel
    obtain ⟨av, cv, rfl⟩ := hB.shape
    have HB := Lib.hid hB; clear hB
    by_cases hlt : k < l.length
    · obtain ⟨q, off, cap, x, he, hx, hc⟩ := (H.out.on HB.out.fr).get hlt
      obtain ⟨_, _, _, x', he', hx', hc'⟩ := H.out.get hlt
      obtain rfl : x = x' := by
        rw [he] at he'; injection he' with e1 _ _; injection e1 with e1; injection e1 with e1 e2; subst e1; subst e2
        have := HB.out.fr.cell hc' (fun x => x); rw [hc] at this; injection this
      clear he' hc'
      injection he with e1 e2 e3
      subst e1; subst e3
      have HX := Lib.hid hx; have HX0 := Lib.hid hx'; clear hx hx' e2
      have hpt := Lib.hid (arms_take hlt)
      have hsz := Lib.hid (Nat.le_trans (Nd.length_le (arms (l.take (k + 1)))) (Nat.le_trans (arms_sizes _) (Nd.sizes_take_le l (k + 1))))
      obtain ⟨n, hn⟩ : ∃ n, l[k] = n := ⟨_, rfl⟩
      rw [hn] at HX HX0 hpt
      clear hn
      have hcase : (∃ m a c, n.arm = m ∧ x = .iface 74 (.agg #[.slice a m.length c]) ∧ SN S w m (.slice a m.length c)) ∨ (n.arm = [n.told] ∧ (x = .nilIface ∨ ∃ i z, x = .iface i z ∧ i ≠ 74)) := by
        have hxk := HX0.out.kind
        cases n with
        | alt m =>
          obtain ⟨a', c', h2, h3⟩ := hxk
          exact .inl ⟨m, a', c', rfl, h2, h3⟩
        | nil => exact .inr ⟨rfl, .inl hxk⟩
        | cat m => obtain ⟨a, c, h1, _⟩ := hxk; exact .inr ⟨rfl, .inr ⟨_, _, h1, by decide⟩⟩
        | rep z mn mx => obtain ⟨a, h1, _⟩ := hxk; exact .inr ⟨rfl, .inr ⟨_, _, h1, by decide⟩⟩
        | group q z => obtain ⟨a, h1, _⟩ := hxk; exact .inr ⟨rfl, .inr ⟨_, _, h1, by decide⟩⟩
        | _ => exact .inr ⟨rfl, .inr ⟨_, _, hxk, by decide⟩⟩
      rcases hcase with ⟨m, am, cm, hp, rfl, hm⟩ | ⟨hp, hx⟩
      · rw [hp] at hpt
        have HM := Lib.hid hm; clear hm hp
        have hlen : (arms (l.take k)).length + m.length ≤ 3000000 := by have h := hsz.out; rw [hpt.out, List.length_append] at h; omega
        go_wp2_with (at_builtin; refine wpList_append_btS rfl (.tmp 20) (.tmp 22) rfl (arms (l.take k)) m _ _ (by rfl) (HB.out.on ((Fr.refl _ _).alloc _)) (by rfl) (fun g hg ho => HM.out.behindS (HB.out.fr.trans' ((Fr.refl _ _).alloc _)) hg) hlen ?_; intro v' w3 hb3; obtain ⟨av', cv', he3⟩ := hb3.shape; simp only [List.length_append] at he3; subst he3; have HB3 := Lib.hid hb3; clear hb3)
        go_roundw
        case rel => exact ⟨k + 1, by go_num, by omega, by rw [hpt.out]; exact HB3.out⟩
        case measure => simp [intOf]; omega
      · rw [hp] at hpt
        clear hp
        have hlen : (arms (l.take k)).length + [n.told].length ≤ 3000000 := by have h := hsz.out; rw [hpt.out, List.length_append] at h; omega
        obtain ⟨g0, o0, f0, l0⟩ := HB.out
        have HXG := Lib.hid (HX0.out.behindS f0 l0)
        have hb0 := o0.blk
        have HL0 := Lib.hid l0; have F0 := Lib.hid f0; have O0 := Lib.hid o0; clear l0 f0 o0
        rcases hx with rfl | ⟨ix, zx, rfl, hne⟩
        all_goals
          go_wp2_with fail
          refine (told_any (LGS S g0) n _ _ (HXG.out.on ((Fr.refl _ _).alloc _))).mono ?_
          rintro e w2 ⟨y, rfl, hy, rfl⟩
          have HY := Lib.hid hy; have hysh := hy.shape; clear hy
          rcases hysh with rfl | ⟨iy, zy, rfl⟩
          all_goals
            go_wp2_with (at_builtin; refine wpList_append_btS rfl (.tmp 24) (.tmp 27) rfl (arms (l.take k)) [n.told] _ _ (by rfl) (HB.out.on (((Fr.refl _ _).alloc _).alloc _)) (by rfl) (fun g hg ho => by have e := hb0.symm.trans ho.blk; subst e; exact SN.one' HY.out (fun k hk => hk.elim (fun x => by have := hS k x; have := F0.out.size; simp; omega) (fun x => by have := O0.out.lt k x; simp; omega)) _ (by simp)) hlen ?_; intro v' w3 hb3; obtain ⟨av', cv', he3⟩ := hb3.shape; simp only [List.length_append, List.length_singleton] at he3; subst he3; have HB3 := Lib.hid hb3; clear hb3)
            go_roundw
            case rel => exact ⟨k + 1, by go_num, by omega, by rw [hpt.out]; exact HB3.out⟩
            case measure => simp [intOf]; omega
    · obtain rfl : k = l.length := by omega
      have hT := Lib.hid (List.take_of_length_le (l := l) (Nat.le_refl _))
      have hB := HB.out
      rw [hT.out] at hB
      go_wp2_with fail
      refine (onlyS_any S (arms l) (.alt (arms l)) _ _ _ (by have := hpl.out; omega) (hB.sn hS) (RN_alt.2 ⟨_, rfl, (hB.sn hS)⟩)).mono ?_
      rintro e w2 ⟨r, rfl, hr, rfl⟩
      have HR := Lib.hid hr; clear hr
      go_wp2
      go_ret
      exact ⟨_, rfl, HR.out, HB.out.fr⟩

end Go.Proofs.YtlchaocpejfikaaGreatDoor
