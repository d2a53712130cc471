/-
  Walks over the document's nodes: Size, Deep, Groups, Backs: as of the program's node.
-/
import Derived.Test.YticeknkikflmkaaRefC
import Derived.Test.YticeknkikflmkaaTreeI
namespace Go.Proofs.Yticeknkikflmkaa
open Go.RowKit

theorem T.kids_take (t : T) (k : Nat) : t.nd.kids.take k = (t.kids.take k).map T.nd := by rw [t.kids_nd, List.map_take]
theorem T.kid_at (t : T) {k : Nat} (h : k < t.kids.length) (h' : k < t.nd.kids.length) : t.nd.kids[k] = t.kids[k].nd := by
  have : t.nd.kids[k]? = (t.kids[k]?).map T.nd := by rw [t.kids_nd, List.getElem?_map]
  rw [List.getElem?_eq_getElem h', List.getElem?_eq_getElem h] at this
  simpa using this
theorem T.kids_len (t : T) : t.nd.kids.length = t.kids.length := by rw [t.kids_nd, List.length_map]
theorem T.isGroup_iff (kd : Int) (s : S4) (ps : List T) (mn mx nu : Int) : (T.mk kd s ps mn mx nu).nd.isGroup = decide (kd = 5) := by
  simp only [T.nd]
  by_cases a1 : kd = 1
  · simp [a1, Nd.isGroup]
  by_cases a2 : kd = 2
  · simp [a2, Nd.isGroup]
  by_cases a3 : kd = 3
  · simp [a3, Nd.isGroup]
  by_cases a4 : kd = 4
  · simp [a4, Nd.isGroup]
  by_cases a5 : kd = 5
  · simp [a5, Nd.isGroup]
  by_cases a6 : kd = 6
  · simp [a6, Nd.isGroup]
  by_cases a7 : kd = 7
  · simp [a7, Nd.isGroup]
  by_cases a8 : kd = 8
  · simp [a8, Nd.isGroup]
  simp [a1, a2, a3, a4, a5, a6, a7, a8, Nd.isGroup]
theorem T.isBack_iff (kd : Int) (s : S4) (ps : List T) (mn mx nu : Int) : (T.mk kd s ps mn mx nu).nd.isBack = decide (kd = 6) := by
  simp only [T.nd]
  by_cases a1 : kd = 1
  · simp [a1, Nd.isBack]
  by_cases a2 : kd = 2
  · simp [a2, Nd.isBack]
  by_cases a3 : kd = 3
  · simp [a3, Nd.isBack]
  by_cases a4 : kd = 4
  · simp [a4, Nd.isBack]
  by_cases a5 : kd = 5
  · simp [a5, Nd.isBack]
  by_cases a6 : kd = 6
  · simp [a6, Nd.isBack]
  by_cases a7 : kd = 7
  · simp [a7, Nd.isBack]
  by_cases a8 : kd = 8
  · simp [a8, Nd.isBack]
  simp [a1, a2, a3, a4, a5, a6, a7, a8, Nd.isBack]

set_option maxRecDepth 100000 in
set_option maxHeartbeats 1000000 in
theorem tnsize_T (m : Nat) : ∀ (t : T) (cs : List Value) (w : World), t.nd.size ≤ m → t.nd.size ≤ 3000000 → RT nob w t cs →
    Calls Try.prog 23 #[.agg cs.toArray] w fun e w' => e = .returned (.int .i64 t.nd.size) ∧ Fr nob w w' := by
  induction m with
  | zero => intro t cs w h; have := t.nd.size_pos; omega
  | succ m ih =>
    intro t cs w hm hb h
    obtain ⟨kd, s, ps, mn, mx, nu, a, c, ht, rfl, hs⟩ := h.open'
    have IH := Lib.hid ih; have HT := Lib.hid h; have HE := Lib.hid ht; clear ih h hs ht
    have hkl : t.kids.length ≤ 3000000 := by have h1 := Nd.length_le t.nd.kids; have h2 := t.nd.size_kids; have h3 := t.kids_len; omega
    have hsk := Lib.hid t.nd.size_kids
    go_enter Try.func23, Try.ntmps23
    go_wp2_with fail
    refine (kids_T t _ _ (HT.out.on ((Fr.refl _ _).alloc _))).mono ?_
    rintro e w1 ⟨u, rfl, s1, f1⟩
    obtain ⟨a1, c1, rfl⟩ := s1.shape
    have hbx := f1.heap (heap_alloc_new _ _) (fun x => x)
    have S1 := Lib.hid s1; have F1 := Lib.hid f1; have HBX := Lib.hid hbx; clear s1 f1 hbx
    go_wp2_with fail
    go_loopw [3, 10] (fun s i wr => ∃ (k : Nat), i = .int .i64 k ∧ k ≤ t.kids.length ∧ s = .int .i64 ((1 + Nd.sizes (t.nd.kids.take k) : Nat) : Int) ∧ Fr nob w1 wr) (fun _ i _ => t.kids.length - (intOf i).toNat)
    case atStart => exact ⟨0, rfl, Nat.zero_le _, rfl, Fr.refl _ _⟩
    case round =>
      obtain ⟨k, rfl, hk, rfl, fr⟩ := hrel
      have hst := Nd.sizes_take_le t.nd.kids k
      have hsb : Nd.sizes (t.nd.kids.take k) ≤ 3000000 := by have := hsk.out; omega
      clear hst
      have FR := Lib.hid fr; clear fr
      by_cases hlt : k < t.kids.length
      · obtain ⟨q, off, cap, cx, he, hx, hc, hgs⟩ := (S1.out.on FR.out).get hlt
        injection he with e1 e2 e3
        subst e1; subst e3
        have hlt' : k < t.nd.kids.length := by have := t.kids_len; omega
        have hka := t.kid_at hlt hlt'
        have hxs : t.kids[k].nd.size < t.nd.size := Nd.kid_lt (by rw [← hka]; exact List.getElem_mem hlt')
        have hnt := Lib.hid (show Nd.sizes (t.nd.kids.take (k + 1)) = Nd.sizes (t.nd.kids.take k) + t.kids[k].nd.size by rw [Nd.sizes_take hlt', hka])
        obtain ⟨x, hxe⟩ : ∃ x, t.kids[k] = x := ⟨_, rfl⟩
        rw [hxe] at hx hxs hnt
        obtain ⟨k', s', ps', mn', mx', nu', a', c', hx0, rfl, hxx⟩ := hx.open'
        obtain ⟨d0, d1, d2, d3, d4, d5, d6, d7, d8⟩ := hc.nine
        have HX := Lib.hid hx; clear hx hxx hx0 e2 hc hxe hka hlt'
        go_wp2_with fail
        refine (IH.out x _ _ (by omega) (by omega) HX.out).mono ?_
        rintro e w2 ⟨rfl, f2⟩
        have F2 := Lib.hid f2; clear f2
        go_wp2
        go_roundw
        case rel => exact ⟨k + 1, by go_num, by omega, by rw [hnt.out]; go_num, FR.out.trans' F2.out⟩
        case measure => simp [intOf]; omega
      · obtain rfl : k = t.kids.length := by omega
        have hwr := FR.out.heap HBX.out (fun x => x)
        have d0 := cell_at (j := 0) hwr rfl
        have FW := Lib.hid ((((Fr.refl nob w).alloc _).trans' F1.out).trans' FR.out)
        clear hwr
        have hT := Lib.hid (show t.nd.size = 1 + Nd.sizes (t.nd.kids.take t.kids.length) by rw [List.take_of_length_le (by have := t.kids_len; omega)]; exact hsk.out)
        go_wp2
        go_ret
        exact ⟨ret_int (by rw [hT.out]), FW.out⟩

set_option maxRecDepth 100000 in
set_option maxHeartbeats 1000000 in
theorem deep_T (m : Nat) : ∀ (t : T) (cs : List Value) (w : World), t.nd.size ≤ m → t.nd.size ≤ 3000000 → RT nob w t cs →
    Calls Try.prog 25 #[.agg cs.toArray] w fun e w' => e = .returned (.int .i64 t.nd.deep) ∧ Fr nob w w' := by
  induction m with
  | zero => intro t cs w h; have := t.nd.size_pos; omega
  | succ m ih =>
    intro t cs w hm hb h
    obtain ⟨kd, s, ps, mn, mx, nu, a, c, ht, rfl, hs⟩ := h.open'
    have IH := Lib.hid ih; have HT := Lib.hid h; have HE := Lib.hid ht; clear ih h hs ht
    have hkl : t.kids.length ≤ 3000000 := by have h1 := Nd.length_le t.nd.kids; have h2 := t.nd.size_kids; have h3 := t.kids_len; omega
    have hsk := Lib.hid t.nd.size_kids
    have hdl := Nd.deeps_le t.nd.kids
    have hdb : Nd.deeps t.nd.kids ≤ 3000000 := by have := hsk.out; omega
    have hdk := Lib.hid (show t.nd.deep = Nd.deeps t.nd.kids + (if kd = 5 then 1 else 0) by rw [t.nd.deep_kids, HE.out, T.isGroup_iff]; by_cases h5 : kd = 5 <;> simp [h5])
    obtain ⟨d, hd⟩ : ∃ d, t.nd.deep = d := ⟨_, rfl⟩
    rw [hd] at hdk ⊢
    clear hd hdl
    go_enter Try.func25, Try.ntmps25
    go_wp2_with fail
    refine (kids_T t _ _ (HT.out.on ((Fr.refl _ _).alloc _))).mono ?_
    rintro e w1 ⟨u, rfl, s1, f1⟩
    obtain ⟨a1, c1, rfl⟩ := s1.shape
    have hbx := f1.heap (heap_alloc_new _ _) (fun x => x)
    have S1 := Lib.hid s1; have F1 := Lib.hid f1; have HBX := Lib.hid hbx; clear s1 f1 hbx
    go_wp2_with fail
    go_loopw [3, 10] (fun s i wr => ∃ (k : Nat), i = .int .i64 k ∧ k ≤ t.kids.length ∧ s = .int .i64 ((Nd.deeps (t.nd.kids.take k) : Nat) : Int) ∧ Fr nob w1 wr) (fun _ i _ => t.kids.length - (intOf i).toNat)
    case atStart => exact ⟨0, rfl, Nat.zero_le _, rfl, Fr.refl _ _⟩
    case round =>
      obtain ⟨k, rfl, hk, rfl, fr⟩ := hrel
      have FR := Lib.hid fr; clear fr
      by_cases hlt : k < t.kids.length
      · obtain ⟨q, off, cap, cx, he, hx, hc, hgs⟩ := (S1.out.on FR.out).get hlt
        injection he with e1 e2 e3
        subst e1; subst e3
        have hlt' : k < t.nd.kids.length := by have := t.kids_len; omega
        have hka := t.kid_at hlt hlt'
        have hxs : t.kids[k].nd.size < t.nd.size := Nd.kid_lt (by rw [← hka]; exact List.getElem_mem hlt')
        have hnt := Lib.hid (show Nd.deeps (t.nd.kids.take (k + 1)) = max (Nd.deeps (t.nd.kids.take k)) t.kids[k].nd.deep by rw [Nd.deeps_take hlt', hka])
        obtain ⟨x, hxe⟩ : ∃ x, t.kids[k] = x := ⟨_, rfl⟩
        rw [hxe] at hx hxs hnt
        obtain ⟨k', s', ps', mn', mx', nu', a', c', hx0, rfl, hxx⟩ := hx.open'
        obtain ⟨d0, d1, d2, d3, d4, d5, d6, d7, d8⟩ := hc.nine
        have HX := Lib.hid hx; clear hx hxx hx0 e2 hc hxe hka hlt'
        go_wp2_with fail
        refine (IH.out x _ _ (by omega) (by omega) HX.out).mono ?_
        obtain ⟨dk, hdk2⟩ : ∃ dk, x.nd.deep = dk := ⟨_, rfl⟩
        rw [hdk2] at hnt ⊢
        clear hdk2
        obtain ⟨dt, hdt2⟩ : ∃ dt, Nd.deeps (t.nd.kids.take k) = dt := ⟨_, rfl⟩
        rw [hdt2] at hnt ⊢
        clear hdt2
        rintro e w2 ⟨rfl, f2⟩
        have F2 := Lib.hid f2; clear f2
        by_cases hle : dk ≤ dt
        · have HMX := Lib.hid (show max dt dk = dt by omega)
          go_wp2
          all_goals
            go_roundw
            case rel => exact ⟨k + 1, by go_num, by omega, by rw [hnt.out, HMX.out], FR.out.trans' F2.out⟩
            case measure => simp [intOf]; omega
        · have HMX := Lib.hid (show max dt dk = dk by omega)
          go_wp2
          all_goals
            go_roundw
            case rel => exact ⟨k + 1, by go_num, by omega, by rw [hnt.out, HMX.out], FR.out.trans' F2.out⟩
            case measure => simp [intOf]; omega
      · obtain rfl : k = t.kids.length := by omega
        have hwr := FR.out.heap HBX.out (fun x => x)
        have d0 := cell_at (j := 0) hwr rfl
        have FW := Lib.hid ((((Fr.refl nob w).alloc _).trans' F1.out).trans' FR.out)
        clear hwr
        have hT := List.take_of_length_le (l := t.nd.kids) (i := t.kids.length) (by have := t.kids_len; omega)
        rw [hT]
        clear hT
        by_cases h5 : kd = 5
        · have HD := Lib.hid (show d = Nd.deeps t.nd.kids + 1 by rw [hdk.out, if_pos h5])
          subst h5
          go_wp2
          go_ret
          exact ⟨ret_int (by rw [HD.out]; first | rfl | (simp; done) | omega), FW.out⟩
        · have HD := Lib.hid (show d = Nd.deeps t.nd.kids by rw [hdk.out, if_neg h5]; rfl)
          go_wp2
          go_ret
          exact ⟨ret_int (by rw [HD.out]), FW.out⟩

set_option maxRecDepth 100000 in
set_option maxHeartbeats 1000000 in
theorem groups_T (m : Nat) : ∀ (t : T) (cs : List Value) (w : World), t.nd.size ≤ m → t.nd.size ≤ 3000000 → RT nob w t cs →
    Calls Try.prog 27 #[.agg cs.toArray] w fun e w' => e = .returned (.int .i64 t.nd.groups) ∧ Fr nob w w' := by
  induction m with
  | zero => intro t cs w h; have := t.nd.size_pos; omega
  | succ m ih =>
    intro t cs w hm hb h
    obtain ⟨kd, s, ps, mn, mx, nu, a, c, ht, rfl, hs⟩ := h.open'
    have IH := Lib.hid ih; have HT := Lib.hid h; have HE := Lib.hid ht; clear ih h hs ht
    have hkl : t.kids.length ≤ 3000000 := by have h1 := Nd.length_le t.nd.kids; have h2 := t.nd.size_kids; have h3 := t.kids_len; omega
    have hsk := Lib.hid t.nd.size_kids
    have hdl := Nd.groupss_le t.nd.kids
    have hdb : Nd.groupss t.nd.kids ≤ 3000000 := by have := hsk.out; omega
    have hdk := Lib.hid (show t.nd.groups = Nd.groupss t.nd.kids + (if kd = 5 then 1 else 0) by rw [t.nd.groups_kids, HE.out, T.isGroup_iff]; by_cases h5 : kd = 5 <;> simp [h5])
    obtain ⟨d, hd⟩ : ∃ d, t.nd.groups = d := ⟨_, rfl⟩
    rw [hd] at hdk ⊢
    clear hd hdl
    go_enter Try.func27, Try.ntmps27
    go_wp2_with fail
    refine (kids_T t _ _ (HT.out.on ((Fr.refl _ _).alloc _))).mono ?_
    rintro e w1 ⟨u, rfl, s1, f1⟩
    obtain ⟨a1, c1, rfl⟩ := s1.shape
    have hbx := f1.heap (heap_alloc_new _ _) (fun x => x)
    have S1 := Lib.hid s1; have F1 := Lib.hid f1; have HBX := Lib.hid hbx; clear s1 f1 hbx
    go_wp2_with fail
    go_loopw [3, 10] (fun s i wr => ∃ (k : Nat), i = .int .i64 k ∧ k ≤ t.kids.length ∧ s = .int .i64 ((Nd.groupss (t.nd.kids.take k) : Nat) : Int) ∧ Fr nob w1 wr) (fun _ i _ => t.kids.length - (intOf i).toNat)
    case atStart => exact ⟨0, rfl, Nat.zero_le _, rfl, Fr.refl _ _⟩
    case round =>
      obtain ⟨k, rfl, hk, rfl, fr⟩ := hrel
      have FR := Lib.hid fr; clear fr
      by_cases hlt : k < t.kids.length
      · obtain ⟨q, off, cap, cx, he, hx, hc, hgs⟩ := (S1.out.on FR.out).get hlt
        injection he with e1 e2 e3
        subst e1; subst e3
        have hlt' : k < t.nd.kids.length := by have := t.kids_len; omega
        have hka := t.kid_at hlt hlt'
        have hxs : t.kids[k].nd.size < t.nd.size := Nd.kid_lt (by rw [← hka]; exact List.getElem_mem hlt')
        have hnt := Lib.hid (show Nd.groupss (t.nd.kids.take (k + 1)) = Nd.groupss (t.nd.kids.take k) + t.kids[k].nd.groups by rw [Nd.groupss_take hlt', hka])
        have hst3 : Nd.groupss (t.nd.kids.take k) + t.kids[k].nd.groups ≤ 3000000 := by
          have h1 := Nd.groupss_append (t.nd.kids.take (k + 1)) (t.nd.kids.drop (k + 1)); rw [List.take_append_drop] at h1; have := hnt.out; omega
        obtain ⟨x, hxe⟩ : ∃ x, t.kids[k] = x := ⟨_, rfl⟩
        rw [hxe] at hx hxs hnt hst3
        obtain ⟨k', s', ps', mn', mx', nu', a', c', hx0, rfl, hxx⟩ := hx.open'
        obtain ⟨d0, d1, d2, d3, d4, d5, d6, d7, d8⟩ := hc.nine
        have HX := Lib.hid hx; clear hx hxx hx0 e2 hc hxe hka hlt'
        go_wp2_with fail
        refine (IH.out x _ _ (by omega) (by omega) HX.out).mono ?_
        rintro e w2 ⟨rfl, f2⟩
        have F2 := Lib.hid f2; clear f2
        go_wp2
        go_roundw
        case rel => exact ⟨k + 1, by go_num, by omega, by rw [hnt.out]; go_num, FR.out.trans' F2.out⟩
        case measure => simp [intOf]; omega
      · obtain rfl : k = t.kids.length := by omega
        have hwr := FR.out.heap HBX.out (fun x => x)
        have d0 := cell_at (j := 0) hwr rfl
        have FW := Lib.hid ((((Fr.refl nob w).alloc _).trans' F1.out).trans' FR.out)
        clear hwr
        have hT := List.take_of_length_le (l := t.nd.kids) (i := t.kids.length) (by have := t.kids_len; omega)
        rw [hT]
        clear hT
        by_cases h5 : kd = 5
        · have HD := Lib.hid (show d = Nd.groupss t.nd.kids + 1 by rw [hdk.out, if_pos h5])
          subst h5
          go_wp2
          go_ret
          exact ⟨ret_int (by rw [HD.out]; first | rfl | (simp; done) | omega), FW.out⟩
        · have HD := Lib.hid (show d = Nd.groupss t.nd.kids by rw [hdk.out, if_neg h5]; rfl)
          go_wp2
          go_ret
          exact ⟨ret_int (by rw [HD.out]), FW.out⟩

set_option maxRecDepth 100000 in
set_option maxHeartbeats 1000000 in
theorem backs_T (m : Nat) : ∀ (t : T) (cs : List Value) (w : World), t.nd.size ≤ m → t.nd.size ≤ 3000000 → RT nob w t cs →
    Calls Try.prog 29 #[.agg cs.toArray] w fun e w' => e = .returned (.bool t.nd.backs) ∧ Fr nob w w' := by
  induction m with
  | zero => intro t cs w h; have := t.nd.size_pos; omega
  | succ m ih =>
    intro t cs w hm hb h
    obtain ⟨kd, s, ps, mn, mx, nu, a, c, ht, rfl, hs⟩ := h.open'
    have IH := Lib.hid ih; have HT := Lib.hid h; have HE := Lib.hid ht; clear ih h hs ht
    have hkl : t.kids.length ≤ 3000000 := by have h1 := Nd.length_le t.nd.kids; have h2 := t.nd.size_kids; have h3 := t.kids_len; omega
    have hsk := Lib.hid t.nd.size_kids
    have hbk := Lib.hid (show t.nd.backs = (decide (kd = 6) || Nd.backss t.nd.kids) by rw [t.nd.backs_kids, HE.out, T.isBack_iff])
    obtain ⟨d, hd⟩ : ∃ d, t.nd.backs = d := ⟨_, rfl⟩
    rw [hd] at hbk ⊢
    clear hd
    go_enter Try.func29, Try.ntmps29
    go_wp2_with fail
    refine (kids_T t _ _ (HT.out.on ((Fr.refl _ _).alloc _))).mono ?_
    rintro e w1 ⟨u, rfl, s1, f1⟩
    obtain ⟨a1, c1, rfl⟩ := s1.shape
    have hbx := f1.heap (heap_alloc_new _ _) (fun x => x)
    have S1 := Lib.hid s1; have F1 := Lib.hid f1; have HBX := Lib.hid hbx; clear s1 f1 hbx
    go_wp2_with fail
    go_loopw [9] (fun i wr => ∃ (k : Nat), i = .int .i64 k ∧ k ≤ t.kids.length ∧ Nd.backss (t.nd.kids.take k) = false ∧ Fr nob w1 wr) (fun i _ => t.kids.length - (intOf i).toNat)
    case atStart => exact ⟨0, rfl, Nat.zero_le _, rfl, Fr.refl _ _⟩
    case round =>
      obtain ⟨k, rfl, hk, hn, fr⟩ := hrel
      have HN := Lib.hid hn; clear hn
      have FR := Lib.hid fr; clear fr
      by_cases hlt : k < t.kids.length
      · obtain ⟨q, off, cap, cx, he, hx, hc, hgs⟩ := (S1.out.on FR.out).get hlt
        injection he with e1 e2 e3
        subst e1; subst e3
        have hlt' : k < t.nd.kids.length := by have := t.kids_len; omega
        have hka := t.kid_at hlt hlt'
        have hxs : t.kids[k].nd.size < t.nd.size := Nd.kid_lt (by rw [← hka]; exact List.getElem_mem hlt')
        have hnt := Lib.hid (show Nd.backss (t.nd.kids.take (k + 1)) = (Nd.backss (t.nd.kids.take k) || t.kids[k].nd.backs) by rw [List.take_succ_eq_append_getElem hlt', Nd.backss_eq, List.any_append, ← Nd.backss_eq, hka]; simp)
        obtain ⟨x, hxe⟩ : ∃ x, t.kids[k] = x := ⟨_, rfl⟩
        rw [hxe] at hx hxs hnt
        obtain ⟨k', s', ps', mn', mx', nu', a', c', hx0, rfl, hxx⟩ := hx.open'
        obtain ⟨d0, d1, d2, d3, d4, d5, d6, d7, d8⟩ := hc.nine
        have HX := Lib.hid hx; clear hx hxx hx0 e2 hc hxe hka hlt'
        go_wp2_with fail
        refine (IH.out x _ _ (by omega) (by omega) HX.out).mono ?_
        obtain ⟨p, hp⟩ : ∃ p, x.nd.backs = p := ⟨_, rfl⟩
        rw [hp] at hnt ⊢
        clear hp
        rintro e w2 ⟨rfl, f2⟩
        have F2 := Lib.hid f2; clear f2
        cases p with
        | true =>
          obtain rfl : d = true := by
            rw [hbk.out]
            have h1 : t.nd.kids = t.nd.kids.take (k + 1) ++ t.nd.kids.drop (k + 1) := (List.take_append_drop _ _).symm
            rw [h1, Nd.backss_eq, List.any_append, ← Nd.backss_eq, hnt.out]; simp
          go_wp2
          go_ret
          exact ⟨rfl, (((Fr.refl nob w).alloc _).trans' F1.out).trans' (FR.out.trans' F2.out)⟩
        | false =>
          go_wp2
          go_roundw
          case rel => exact ⟨k + 1, by go_num, by omega, by rw [hnt.out, HN.out]; rfl, FR.out.trans' F2.out⟩
          case measure => simp [intOf]; omega
      · obtain rfl : k = t.kids.length := by omega
        have hwr := FR.out.heap HBX.out (fun x => x)
        have d0 := cell_at (j := 0) hwr rfl
        have FW := Lib.hid ((((Fr.refl nob w).alloc _).trans' F1.out).trans' FR.out)
        clear hwr
        have hT := List.take_of_length_le (l := t.nd.kids) (i := t.kids.length) (by have := t.kids_len; omega)
        have hn := HN.out
        rw [hT] at hn
        have HD := Lib.hid (show d = decide (kd = 6) by rw [hbk.out, hn]; simp)
        clear hT hn
        by_cases h6 : kd = 6
        · obtain rfl : d = true := by rw [HD.out]; simp [h6]
          subst h6
          go_wp2
          go_ret
          exact ⟨rfl, FW.out⟩
        · obtain rfl : d = false := by rw [HD.out]; simp [h6]
          have h7 : (kd == 6) = false := by simpa using h6
          go_wp2
          go_ret
          exact ⟨rfl, FW.out⟩

end Go.Proofs.Yticeknkikflmkaa
