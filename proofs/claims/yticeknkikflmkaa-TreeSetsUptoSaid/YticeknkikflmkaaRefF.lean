/-
  Walks over the document's nodes: Same; right, Right.
-/
import Derived.Test.YticeknkikflmkaaRefE
import Derived.Test.YticeknkikflmkaaTreeK
import Derived.Deep.RegionHeld3
import Derived.StillTailTactics
namespace Go.Proofs.Yticeknkikflmkaa
open Go.RowKit

/-- A kind's number. -/
def Nd.kd : Nd → Int
  | .nil => 0
  | .empty => 0
  | .one _ => 1
  | .cat _ => 2
  | .alt _ => 3
  | .rep _ _ _ => 4
  | .group _ _ => 5
  | .back _ => 6
  | .start => 7
  | .fin => 8

theorem T.known_kd {k : Int} {s : S4} {ps : List T} {mn mx nu : Int} (h : (T.mk k s ps mn mx nu).known = true) : (k = 0 ∨ k = 1 ∨ k = 2 ∨ k = 3 ∨ k = 4 ∨ k = 5 ∨ k = 6 ∨ k = 7 ∨ k = 8) ∧ T.knowns ps = true := by
  simp only [T.known, Bool.and_eq_true, Bool.not_eq_true', Bool.or_eq_false_iff, decide_eq_false_iff_not] at h
  exact ⟨by omega, h.2⟩
theorem T.kd_nd {k : Int} {s : S4} {ps : List T} {mn mx nu : Int} (h : (T.mk k s ps mn mx nu).known = true) : (T.mk k s ps mn mx nu).nd.kd = k := by
  rcases (T.known_kd h).1 with rfl | rfl | rfl | rfl | rfl | rfl | rfl | rfl | rfl <;> simp [T.nd, Nd.kd]
theorem T.known_kids {t : T} (h : t.known = true) : ∀ x ∈ t.kids, x.known = true := by
  obtain ⟨k, s, ps, mn, mx, nu⟩ := t
  have hp := (T.known_kd h).2
  intro x hx
  unfold T.kids at hx
  split at hx
  · exact T.knowns_mem hp hx
  · split at hx
    · simp only [List.mem_singleton] at hx
      subst hx
      cases ps with
      | nil => rfl
      | cons y r => exact T.knowns_mem hp (by simp [T.of, T.parts])
    · cases hx

/-- Two nodes of one kind: their own parts. -/
def headSame (k : Int) (s : S4) (mn mx nu : Int) (s' : S4) (mn' mx' nu' : Int) : Prop :=
  (k = 1 → s = s') ∧ (k = 4 → mn = mn' ∧ mx = mx') ∧ (k = 5 ∨ k = 6 → nu = nu')
theorem T.same_iff {k : Int} {s : S4} {ps : List T} {mn mx nu : Int} {s' : S4} {ps' : List T} {mn' mx' nu' : Int} (h : (T.mk k s ps mn mx nu).known = true) :
    (T.mk k s ps mn mx nu).nd = (T.mk k s' ps' mn' mx' nu').nd ↔ headSame k s mn mx nu s' mn' mx' nu' ∧ (T.mk k s ps mn mx nu).nd.kids = (T.mk k s' ps' mn' mx' nu').nd.kids := by
  rcases (T.known_kd h).1 with rfl | rfl | rfl | rfl | rfl | rfl | rfl | rfl | rfl <;> simp [T.nd, headSame, Nd.kids]
  · constructor
    · rintro ⟨a, b, c⟩; exact ⟨⟨b, c⟩, a⟩
    · rintro ⟨⟨b, c⟩, a⟩; exact ⟨a, b, c⟩
theorem T.same_kd {t t' : T} (h : t.known = true) (h' : t'.known = true) (e : t.nd = t'.nd) : t.kind = t'.kind := by
  obtain ⟨k, s, ps, mn, mx, nu⟩ := t
  obtain ⟨k', s', ps', mn', mx', nu'⟩ := t'
  have := congrArg Nd.kd e
  rwa [T.kd_nd h, T.kd_nd h'] at this

/-- Nine cells of a variable that holds a node. -/
abbrev C9 (w : World) (b : Nat) (v0 v1 v2 v3 v4 v5 v6 v7 v8 : Value) : Prop :=
  w.cell? ⟨b, 0, none⟩ = some v0 ∧ w.cell? ⟨b, 1, none⟩ = some v1 ∧ w.cell? ⟨b, 2, none⟩ = some v2 ∧ w.cell? ⟨b, 3, none⟩ = some v3 ∧ w.cell? ⟨b, 4, none⟩ = some v4 ∧ w.cell? ⟨b, 5, none⟩ = some v5 ∧ w.cell? ⟨b, 6, none⟩ = some v6 ∧ w.cell? ⟨b, 7, none⟩ = some v7 ∧ w.cell? ⟨b, 8, none⟩ = some v8
theorem C9.on {w w' : World} {b : Nat} {v0 v1 v2 v3 v4 v5 v6 v7 v8 : Value} (h : C9 w b v0 v1 v2 v3 v4 v5 v6 v7 v8) (f : Fr nob w w') : C9 w' b v0 v1 v2 v3 v4 v5 v6 v7 v8 := by
  obtain ⟨h0, h1, h2, h3, h4, h5, h6, h7, h8⟩ := h
  exact ⟨f.cell h0 (fun x => x), f.cell h1 (fun x => x), f.cell h2 (fun x => x), f.cell h3 (fun x => x), f.cell h4 (fun x => x), f.cell h5 (fun x => x), f.cell h6 (fun x => x), f.cell h7 (fun x => x), f.cell h8 (fun x => x)⟩
theorem C9.of {w : World} {b : Nat} {v0 v1 v2 v3 v4 v5 v6 v7 v8 : Value} {T : TypeId} {fr : Nat × Nat} (h : w.heap[b]? = some (.cells #[v0, v1, v2, v3, v4, v5, v6, v7, v8] T fr)) : C9 w b v0 v1 v2 v3 v4 v5 v6 v7 v8 :=
  ⟨cell_at h rfl, cell_at h rfl, cell_at h rfl, cell_at h rfl, cell_at h rfl, cell_at h rfl, cell_at h rfl, cell_at h rfl, cell_at h rfl⟩

theorem C9.two {w w' : World} {b : Nat} {v0 v1 v2 v3 v4 v5 v6 v7 v8 : Value} {c : Nat} {u0 u1 u2 u3 u4 u5 u6 u7 u8 : Value} (h : C9 w b v0 v1 v2 v3 v4 v5 v6 v7 v8 ∧ C9 w c u0 u1 u2 u3 u4 u5 u6 u7 u8) (f : Fr nob w w') :
    C9 w' b v0 v1 v2 v3 v4 v5 v6 v7 v8 ∧ C9 w' c u0 u1 u2 u3 u4 u5 u6 u7 u8 := ⟨C9.on h.1 f, C9.on h.2 f⟩

/-- Same's answer. -/
def SameT (a b : T) (w : World) (e : Ending) (w' : World) : Prop := ∃ r : Bool, e = .returned (.bool r) ∧ (r = true ↔ a.nd = b.nd) ∧ Fr nob w w'

/-- Two variables that hold nodes. -/
abbrev box2 (w : World) (X Y : List Value) : World := (w.alloc (.cells X.toArray 27)).alloc (.cells Y.toArray 27)

theorem box2_fr (w : World) (X Y : List Value) : Fr nob w (box2 w X Y) := ((Fr.refl _ _).alloc _).alloc _
theorem box2_a (w : World) (X Y : List Value) : (box2 w X Y).heap[w.heap.size]? = some (.cells X.toArray 27 (0, 0)) := heap_alloc_lt _ (heap_alloc_new _ _)
theorem box2_b (w : World) (X Y : List Value) : (box2 w X Y).heap[w.heap.size + 1]? = some (.cells Y.toArray 27 (0, 0)) := by
  have := heap_alloc_new (w.alloc (.cells X.toArray 27)) (.cells Y.toArray 27); simpa using this

set_option maxRecDepth 100000 in
set_option maxHeartbeats 2000000 in
/-- The part of Same that goes along the kids. -/
theorem same_T (m : Nat) : ∀ (a b : T) (ca cb : List Value) (w : World), a.nd.size ≤ m → a.nd.size ≤ 3000000 → b.nd.size ≤ 3000000 → a.known = true → b.known = true → RT nob w a ca → RT nob w b cb →
    Calls Try.prog 19 #[.agg ca.toArray, .agg cb.toArray] w (SameT a b w) := by
  induction m with
  | zero => intro a b ca cb w h; have := a.nd.size_pos; omega
  | succ m ih =>
    intro a b ca cb w hm hsa hsb hka hkb ha hb
    obtain ⟨kd, s, ps, mn, mx, nu, ua, uc, hea, rfl, hps⟩ := ha.open'
    obtain ⟨kd', s', ps', mn', mx', nu', ua', uc', heb, rfl, hps'⟩ := hb.open'
    have IH := Lib.hid ih; have HA := Lib.hid ha; have HB := Lib.hid hb; have HEA := Lib.hid hea; have HEB := Lib.hid heb; have HKA := Lib.hid hka; have HKB := Lib.hid hkb
    clear ih ha hb hps hps' hea heb hka hkb
    have hla : a.kids.length ≤ 3000000 := by have h1 := Nd.length_le a.nd.kids; have h2 := a.nd.size_kids; have h3 := a.kids_len; omega
    have hlb : b.kids.length ≤ 3000000 := by have h1 := Nd.length_le b.nd.kids; have h2 := b.nd.size_kids; have h3 := b.kids_len; omega
    by_cases hkk : kd = kd'
    · subst hkk
      have hsi : a.nd = b.nd ↔ headSame kd s mn mx nu s' mn' mx' nu' ∧ a.nd.kids = b.nd.kids := by
        have h1 := HKA.out
        rw [HEA.out] at h1
        have := T.same_iff (s' := s') (ps' := ps') (mn' := mn') (mx' := mx') (nu' := nu') h1
        rw [HEA.out, HEB.out]; exact this
      by_cases h1 : kd = 1
      · have hk1 : a.nd = b.nd ↔ s = s' := by
          rw [HEA.out, HEB.out, h1]; simp [T.nd]
        have HK1 := Lib.hid hk1
        subst h1
        clear hsi hk1
        obtain ⟨a1, b1, c1, d1⟩ := s
        obtain ⟨a2, b2, c2, d2⟩ := s'
        cases hp : S4.same ⟨a1, b1, c1, d1⟩ ⟨a2, b2, c2, d2⟩
        all_goals
          have HPP := Lib.hid hp
          go_enter Try.func19, Try.ntmps19
          go_wp2
          go_ret
          exact ⟨_, rfl, ⟨fun h => by first | (cases h; done) | exact HK1.out.2 (S4.same_iff.1 HPP.out), fun h => HPP.out.symm.trans (S4.same_iff.2 (HK1.out.1 h))⟩, box2_fr _ _ _⟩
      by_cases hh : headSame kd s mn mx nu s' mn' mx' nu'
      · have HSI := Lib.hid (show a.nd = b.nd ↔ a.nd.kids = b.nd.kids by rw [hsi]; exact ⟨fun h => h.2, fun h => ⟨hh, h⟩⟩)
        have hcase : ((kd == 4) = true ∧ (mn != mn') = false ∧ (mx != mx') = false) ∨ ((kd == 4) = false ∧ (kd == 5) = true ∧ (nu != nu') = false) ∨ ((kd == 4) = false ∧ (kd == 5) = false ∧ (kd == 6) = true ∧ (nu != nu') = false) ∨ ((kd == 4) = false ∧ (kd == 5) = false ∧ (kd == 6) = false) := by
          obtain ⟨_, q4, q56⟩ := hh
          by_cases h4 : kd = 4
          · obtain ⟨e1, e2⟩ := q4 h4
            exact .inl (by simp [h4, e1, e2])
          by_cases h5 : kd = 5
          · exact .inr (.inl (by simp [h5, q56 (.inl h5)]))
          by_cases h6 : kd = 6
          · exact .inr (.inr (.inl (by simp [h6, q56 (.inr h6)])))
          exact .inr (.inr (.inr (by simp [h4, h5, h6])))
        have h1' : (kd == 1) = false := by simpa using h1
        have CA := C9.of (box2_a w [.int .i64 kd, .int .u64 s.a, .int .u64 s.b, .int .u64 s.c, .int .u64 s.d, .slice ua ps.length uc, .int .i64 mn, .int .i64 mx, .int .i64 nu] [.int .i64 kd, .int .u64 s'.a, .int .u64 s'.b, .int .u64 s'.c, .int .u64 s'.d, .slice ua' ps'.length uc', .int .i64 mn', .int .i64 mx', .int .i64 nu'])
        have CB := C9.of (box2_b w [.int .i64 kd, .int .u64 s.a, .int .u64 s.b, .int .u64 s.c, .int .u64 s.d, .slice ua ps.length uc, .int .i64 mn, .int .i64 mx, .int .i64 nu] [.int .i64 kd, .int .u64 s'.a, .int .u64 s'.b, .int .u64 s'.c, .int .u64 s'.d, .slice ua' ps'.length uc', .int .i64 mn', .int .i64 mx', .int .i64 nu'])
        have HC := Lib.hid (And.intro CA CB)
        have F0 := Lib.hid (box2_fr w [.int .i64 kd, .int .u64 s.a, .int .u64 s.b, .int .u64 s.c, .int .u64 s.d, .slice ua ps.length uc, .int .i64 mn, .int .i64 mx, .int .i64 nu] [.int .i64 kd, .int .u64 s'.a, .int .u64 s'.b, .int .u64 s'.c, .int .u64 s'.d, .slice ua' ps'.length uc', .int .i64 mn', .int .i64 mx', .int .i64 nu'])
        clear hh hsi CA CB h1
        rcases hcase with ⟨h4, h5, h6⟩ | ⟨h4, h5, h6⟩ | ⟨h4, h5, h6, h7⟩ | ⟨h4, h5, h6⟩
        all_goals
          go_enter Try.func19, Try.ntmps19
          go_wp2_with fail
          go_region_held3 (fun w' => C9 w' w.heap.size (.int .i64 kd) (.int .u64 s.a) (.int .u64 s.b) (.int .u64 s.c) (.int .u64 s.d) (.slice ua ps.length uc) (.int .i64 mn) (.int .i64 mx) (.int .i64 nu) ∧ C9 w' (w.heap.size + 1) (.int .i64 kd) (.int .u64 s'.a) (.int .u64 s'.b) (.int .u64 s'.c) (.int .u64 s'.d) (.slice ua' ps'.length uc') (.int .i64 mn') (.int .i64 mx') (.int .i64 nu'))
            (first | exact C9.two ‹_› F2.out | exact C9.two ‹_› F1.out | exact C9.two HC.out ((Fr.refl nob _).drew))
            (first | (go_at_call 33; with_reducible refine (kids_T a _ _ (HA.out.on (F0.out.drew))).mono ?_; rintro e w1 ⟨u1, rfl, s1, f1⟩; obtain ⟨a1, c1, rfl⟩ := s1.shape; have S1 := Lib.hid s1; have F1 := Lib.hid f1; clear s1 f1) | (go_at_call 33; with_reducible refine (kids_T b _ _ (HB.out.on (F0.out.drew.trans' F1.out))).mono ?_; rintro e w2 ⟨u2, rfl, s2, f2⟩; obtain ⟨a2, c2, rfl⟩ := s2.shape; have S2 := Lib.hid s2; have F2 := Lib.hid f2; clear s2 f2))
          by_cases hlen : a.kids.length = b.kids.length
          · have e1 : (((a.kids.length : Nat) : Int) != ((b.kids.length : Nat) : Int)) = false := by rw [hlen]; simp
            have HLEN := Lib.hid hlen
            clear hlen
            have FK := Lib.hid ((F0.out.drew.trans' F1.out).trans' F2.out)
            go_wp2_with fail
            go_loopw [55] (fun i wr => ∃ k : Nat, i = .int .i64 k ∧ k ≤ a.kids.length ∧ (a.kids.take k).map T.nd = (b.kids.take k).map T.nd ∧ Fr nob w2 wr) (fun i _ => a.kids.length - (intOf i).toNat)
            case atStart => exact ⟨0, rfl, Nat.zero_le _, rfl, Fr.refl _ _⟩
            case round =>
              obtain ⟨k, rfl, hk, hq, fr⟩ := hrel
              have HQ := Lib.hid hq; have FR := Lib.hid fr; clear hq fr
              by_cases hlt : k < a.kids.length
              · have hlt' : k < b.kids.length := by have := HLEN.out; omega
                obtain ⟨q, off, cap, cx, he, hx, hc, hgs⟩ := (S1.out.on (F2.out.trans' FR.out)).get hlt
                obtain ⟨q', off', cap', cx', he', hx', hc', hgs'⟩ := (S2.out.on FR.out).get hlt'
                injection he with e1 e2 e3
                injection he' with e1' e2' e3'
                subst e1 e3 e1' e3'
                have hna := a.kid_at hlt (by have := a.kids_len; omega)
                have hnb := b.kid_at hlt' (by have := b.kids_len; omega)
                have hza : a.kids[k].nd.size < a.nd.size := Nd.kid_lt (by rw [← hna]; exact List.getElem_mem _)
                have hzb : b.kids[k].nd.size < b.nd.size := Nd.kid_lt (by rw [← hnb]; exact List.getElem_mem _)
                have hkx := T.known_kids HKA.out _ (List.getElem_mem hlt)
                have hky := T.known_kids HKB.out _ (List.getElem_mem hlt')
                have hta : (a.kids.take (k + 1)).map T.nd = (a.kids.take k).map T.nd ++ [a.kids[k].nd] := by rw [List.take_succ_eq_append_getElem hlt, List.map_append]; rfl
                have htb : (b.kids.take (k + 1)).map T.nd = (b.kids.take k).map T.nd ++ [b.kids[k].nd] := by rw [List.take_succ_eq_append_getElem hlt', List.map_append]; rfl
                have hall : a.nd.kids = b.nd.kids → a.kids[k].nd = b.kids[k].nd := fun h => by
                  rw [a.kids_nd, b.kids_nd] at h
                  have := congrArg (fun l => l[k]?) h
                  simpa [List.getElem?_map, List.getElem?_eq_getElem hlt, List.getElem?_eq_getElem hlt'] using this
                obtain ⟨x, hxe⟩ : ∃ x, a.kids[k] = x := ⟨_, rfl⟩
                obtain ⟨y, hye⟩ : ∃ y, b.kids[k] = y := ⟨_, rfl⟩
                rw [hxe] at hx hza hkx hta hall
                rw [hye] at hx' hzb hky htb hall
                obtain ⟨k1, s1, p1, mn1, mx1, nu1, a1, c1, hx0, rfl, hxx⟩ := hx.open'
                obtain ⟨k2, s2, p2, mn2, mx2, nu2, a2, c2, hy0, rfl, hyy⟩ := hx'.open'
                obtain ⟨d0, d1, d2, d3, d4, d5, d6, d7, d8⟩ := hc.nine
                obtain ⟨g0, g1, g2, g3, g4, g5, g6, g7, g8⟩ := hc'.nine
                have HX := Lib.hid hx; have HY := Lib.hid hx'; have HTA := Lib.hid hta; have HTB := Lib.hid htb; have HALL := Lib.hid hall; have HKX := Lib.hid hkx; have HKY := Lib.hid hky
                clear hx hx' hta htb hall hkx hky hxx hyy hx0 hy0 e2 e2' hc hc' hxe hye hna hnb
                have q1 : (0 : Int) ≤ k := by omega
                have q2 : (k : Int) < a.kids.length := by omega
                have q3 : (k : Int) < b.kids.length := by omega
                go_wp2_with fail
                go_still_tail 8, (by kernel_rfl)
                change wpList _ _ _ _ _ wr.drew
                go_wp2_with fail
                refine (IH.out x y _ _ _ (by omega) (by omega) (by omega) HKX.out HKY.out (HX.out.on ((Fr.refl _ _).drew)) (HY.out.on ((Fr.refl _ _).drew))).mono ?_
                rintro e w3 ⟨r, rfl, hr, f3⟩
                have F3 := Lib.hid f3; have HR := Lib.hid hr; clear f3 hr
                cases r with
                | true =>
                  have HXY := Lib.hid (HR.out.1 (by trivial))
                  go_wp2
                  go_roundw
                  case rel => exact ⟨k + 1, by go_num, by omega, by rw [HTA.out, HTB.out, HQ.out, HXY.out], FR.out.drew.trans' F3.out⟩
                  case measure => simp [intOf]; omega
                | false =>
                  go_wp2
                  go_ret
                  exact ⟨false, rfl, ⟨fun h => (nomatch h), fun h => HR.out.2 (HALL.out (HSI.out.1 h))⟩, FK.out.trans' (FR.out.drew.trans' F3.out)⟩
              · obtain rfl : k = a.kids.length := by omega
                go_wp2
                go_ret
                refine ⟨true, rfl, ⟨fun _ => HSI.out.2 ?_, fun _ => rfl⟩, FK.out.trans' FR.out⟩
                have := HQ.out
                rw [List.take_of_length_le (Nat.le_refl _), HLEN.out, List.take_of_length_le (Nat.le_refl _)] at this
                rw [a.kids_nd, b.kids_nd, this]
          · have e1 : (((a.kids.length : Nat) : Int) != ((b.kids.length : Nat) : Int)) = true := by simp; omega
            have HLEN := Lib.hid hlen
            have hne : ¬ ((a.kids.length : Nat) : Int) = ((b.kids.length : Nat) : Int) := by omega
            clear hlen
            go_wp2
            go_ret
            refine ⟨false, rfl, ⟨fun h => (nomatch h), fun h => ?_⟩, (F0.out.drew.trans' F1.out).trans' F2.out⟩
            have := congrArg List.length (HSI.out.1 h)
            rw [a.kids_len, b.kids_len] at this
            exact (HLEN.out this).elim
      · have hf : ¬ a.nd = b.nd := fun h => hh (hsi.1 h).1
        have HF := Lib.hid hf
        have hcase : (kd = 4 ∧ mn ≠ mn') ∨ (kd = 4 ∧ mn = mn' ∧ mx ≠ mx') ∨ (kd = 5 ∧ nu ≠ nu') ∨ (kd = 6 ∧ nu ≠ nu') := by
          by_cases h4 : kd = 4
          · by_cases e1 : mn = mn'
            · by_cases e2 : mx = mx'
              · exact (hh ⟨fun h => (h1 h).elim, fun _ => ⟨e1, e2⟩, fun h => by omega⟩).elim
              · exact .inr (.inl ⟨h4, e1, e2⟩)
            · exact .inl ⟨h4, e1⟩
          by_cases h56 : kd = 5 ∨ kd = 6
          · have e3 : nu ≠ nu' := fun e => hh ⟨fun h => (h1 h).elim, fun h => (h4 h).elim, fun _ => e⟩
            rcases h56 with h | h
            · exact .inr (.inr (.inl ⟨h, e3⟩))
            · exact .inr (.inr (.inr ⟨h, e3⟩))
          · exact (hh ⟨fun h => (h1 h).elim, fun h => (h4 h).elim, fun h => (h56 h).elim⟩).elim
        clear hh hsi hf
        rcases hcase with ⟨rfl, e1⟩ | ⟨rfl, rfl, e1⟩ | ⟨rfl, e1⟩ | ⟨rfl, e1⟩
        · have e2 : (mn != mn') = true := by simpa using e1
          go_enter Try.func19, Try.ntmps19
          go_wp2
          go_ret
          exact ⟨_, rfl, ⟨fun h => (nomatch h), fun h => (HF.out h).elim⟩, box2_fr _ _ _⟩
        · have e2 : (mx != mx') = true := by simpa using e1
          go_enter Try.func19, Try.ntmps19
          go_wp2
          go_ret
          exact ⟨_, rfl, ⟨fun h => (nomatch h), fun h => (HF.out h).elim⟩, box2_fr _ _ _⟩
        all_goals
          have e2 : (nu != nu') = true := by simpa using e1
          go_enter Try.func19, Try.ntmps19
          go_wp2
          go_ret
          exact ⟨_, rfl, ⟨fun h => (nomatch h), fun h => (HF.out h).elim⟩, box2_fr _ _ _⟩
    · have h1 : (kd != kd') = true := by simpa using hkk
      go_enter Try.func19, Try.ntmps19
      go_wp2
      go_ret
      refine ⟨false, rfl, ⟨fun h => (nomatch h), fun h => ?_⟩, box2_fr _ _ _⟩
      have := T.same_kd HKA.out HKB.out h
      rw [HEA.out, HEB.out] at this
      exact (hkk this).elim

end Go.Proofs.Yticeknkikflmkaa
