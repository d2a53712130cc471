/-
  Merged texts of this claim: RefF, RefI, RefJ.
-/
import Derived.Deep.RegionHeld3
import Derived.StillTailTactics
import Derived.Deep.DrawnRows
import Derived.Test.YtpcpmjaphjkphaaDoorM13
import Derived.Test.YtpcpmjaphjkphaaDoorM14

/-
  Walks over the document's nodes: Same; right, Right.
-/
namespace Go.Proofs.YtpcpmjaphjkphaaDoor
open Go.RowKit

/-- A kind's number. -/
def Nd.kd : Nd → Int
  | .nil => 0
  | .empty => 0
  | .one _ => 1
  | .cat _ => 2
  | .alt _ => 3
  | .rep _ _ _ => 4
  | .group _ _ => 5
  | .back _ => 6
  | .start => 7
  | .fin => 8

theorem T.known_kd {k : Int} {s : S4} {ps : List T} {mn mx nu : Int} (h : (T.mk k s ps mn mx nu).known = true) : (k = 0 ∨ k = 1 ∨ k = 2 ∨ k = 3 ∨ k = 4 ∨ k = 5 ∨ k = 6 ∨ k = 7 ∨ k = 8) ∧ T.knowns ps = true := by
  simp only [T.known, Bool.and_eq_true, Bool.not_eq_true', Bool.or_eq_false_iff, decide_eq_false_iff_not] at h
  exact ⟨by omega, h.2⟩
theorem T.kd_nd {k : Int} {s : S4} {ps : List T} {mn mx nu : Int} (h : (T.mk k s ps mn mx nu).known = true) : (T.mk k s ps mn mx nu).nd.kd = k := by
  rcases (T.known_kd h).1 with rfl | rfl | rfl | rfl | rfl | rfl | rfl | rfl | rfl <;> simp [T.nd, Nd.kd]
theorem T.known_kids {t : T} (h : t.known = true) : ∀ x ∈ t.kids, x.known = true := by
  obtain ⟨k, s, ps, mn, mx, nu⟩ := t
  have hp := (T.known_kd h).2
  intro x hx
  unfold T.kids at hx
  split at hx
  · exact T.knowns_mem hp hx
  · split at hx
    · simp only [List.mem_singleton] at hx
      subst hx
      cases ps with
      | nil => rfl
      | cons y r => exact T.knowns_mem hp (by simp [T.of, T.parts])
    · cases hx

/-- Two nodes of one kind: their own parts. -/
def headSame (k : Int) (s : S4) (mn mx nu : Int) (s' : S4) (mn' mx' nu' : Int) : Prop :=
  (k = 1 → s = s') ∧ (k = 4 → mn = mn' ∧ mx = mx') ∧ (k = 5 ∨ k = 6 → nu = nu')
theorem T.same_iff {k : Int} {s : S4} {ps : List T} {mn mx nu : Int} {s' : S4} {ps' : List T} {mn' mx' nu' : Int} (h : (T.mk k s ps mn mx nu).known = true) :
    (T.mk k s ps mn mx nu).nd = (T.mk k s' ps' mn' mx' nu').nd ↔ headSame k s mn mx nu s' mn' mx' nu' ∧ (T.mk k s ps mn mx nu).nd.kids = (T.mk k s' ps' mn' mx' nu').nd.kids := by
  rcases (T.known_kd h).1 with rfl | rfl | rfl | rfl | rfl | rfl | rfl | rfl | rfl <;> simp [T.nd, headSame, Nd.kids]
  · constructor
    · rintro ⟨a, b, c⟩; exact ⟨⟨b, c⟩, a⟩
    · rintro ⟨⟨b, c⟩, a⟩; exact ⟨a, b, c⟩
theorem T.same_kd {t t' : T} (h : t.known = true) (h' : t'.known = true) (e : t.nd = t'.nd) : t.kind = t'.kind := by
  obtain ⟨k, s, ps, mn, mx, nu⟩ := t
  obtain ⟨k', s', ps', mn', mx', nu'⟩ := t'
  have := congrArg Nd.kd e
  rwa [T.kd_nd h, T.kd_nd h'] at this

/-- Nine cells of a variable that holds a node. -/
abbrev C9 (w : World) (b : Nat) (v0 v1 v2 v3 v4 v5 v6 v7 v8 : Value) : Prop :=
  w.cell? ⟨b, 0, none⟩ = some v0 ∧ w.cell? ⟨b, 1, none⟩ = some v1 ∧ w.cell? ⟨b, 2, none⟩ = some v2 ∧ w.cell? ⟨b, 3, none⟩ = some v3 ∧ w.cell? ⟨b, 4, none⟩ = some v4 ∧ w.cell? ⟨b, 5, none⟩ = some v5 ∧ w.cell? ⟨b, 6, none⟩ = some v6 ∧ w.cell? ⟨b, 7, none⟩ = some v7 ∧ w.cell? ⟨b, 8, none⟩ = some v8
theorem C9.on {w w' : World} {b : Nat} {v0 v1 v2 v3 v4 v5 v6 v7 v8 : Value} (h : C9 w b v0 v1 v2 v3 v4 v5 v6 v7 v8) (f : Fr nob w w') : C9 w' b v0 v1 v2 v3 v4 v5 v6 v7 v8 := by
  obtain ⟨h0, h1, h2, h3, h4, h5, h6, h7, h8⟩ := h
  exact ⟨f.cell h0 (fun x => x), f.cell h1 (fun x => x), f.cell h2 (fun x => x), f.cell h3 (fun x => x), f.cell h4 (fun x => x), f.cell h5 (fun x => x), f.cell h6 (fun x => x), f.cell h7 (fun x => x), f.cell h8 (fun x => x)⟩
theorem C9.of {w : World} {b : Nat} {v0 v1 v2 v3 v4 v5 v6 v7 v8 : Value} {T : TypeId} {fr : Nat × Nat} (h : w.heap[b]? = some (.cells #[v0, v1, v2, v3, v4, v5, v6, v7, v8] T fr)) : C9 w b v0 v1 v2 v3 v4 v5 v6 v7 v8 :=
  ⟨cell_at h rfl, cell_at h rfl, cell_at h rfl, cell_at h rfl, cell_at h rfl, cell_at h rfl, cell_at h rfl, cell_at h rfl, cell_at h rfl⟩

theorem C9.two {w w' : World} {b : Nat} {v0 v1 v2 v3 v4 v5 v6 v7 v8 : Value} {c : Nat} {u0 u1 u2 u3 u4 u5 u6 u7 u8 : Value} (h : C9 w b v0 v1 v2 v3 v4 v5 v6 v7 v8 ∧ C9 w c u0 u1 u2 u3 u4 u5 u6 u7 u8) (f : Fr nob w w') :
    C9 w' b v0 v1 v2 v3 v4 v5 v6 v7 v8 ∧ C9 w' c u0 u1 u2 u3 u4 u5 u6 u7 u8 := ⟨C9.on h.1 f, C9.on h.2 f⟩

/-- Same's answer. -/
def SameT (a b : T) (w : World) (e : Ending) (w' : World) : Prop := ∃ r : Bool, e = .returned (.bool r) ∧ (r = true ↔ a.nd = b.nd) ∧ Fr nob w w'

/-- Two variables that hold nodes. -/
abbrev box2 (w : World) (X Y : List Value) : World := (w.alloc (.cells X.toArray 51)).alloc (.cells Y.toArray 51)

theorem box2_fr (w : World) (X Y : List Value) : Fr nob w (box2 w X Y) := ((Fr.refl _ _).alloc _).alloc _
theorem box2_a (w : World) (X Y : List Value) : (box2 w X Y).heap[w.heap.size]? = some (.cells X.toArray 51 (0, 0)) := heap_alloc_lt _ (heap_alloc_new _ _)
theorem box2_b (w : World) (X Y : List Value) : (box2 w X Y).heap[w.heap.size + 1]? = some (.cells Y.toArray 51 (0, 0)) := by
  have := heap_alloc_new (w.alloc (.cells X.toArray 51)) (.cells Y.toArray 51); simpa using this

set_option maxRecDepth 100000 in
set_option maxHeartbeats 2000000 in
/-- The part of Same that goes along the kids. -/
theorem same_T (m : Nat) : ∀ (a b : T) (ca cb : List Value) (w : World), a.nd.size ≤ m → a.nd.size ≤ 3000000 → b.nd.size ≤ 3000000 → a.known = true → b.known = true → RT nob w a ca → RT nob w b cb →
    Calls Tryd.prog 29 #[.agg ca.toArray, .agg cb.toArray] w (SameT a b w) := by
  induction m with
  | zero => intro a b ca cb w h; have := a.nd.size_pos; omega
  | succ m ih =>
    intro a b ca cb w hm hsa hsb hka hkb ha hb
    obtain ⟨kd, s, ps, mn, mx, nu, ua, uc, hea, rfl, hps⟩ := ha.open'
    obtain ⟨kd', s', ps', mn', mx', nu', ua', uc', heb, rfl, hps'⟩ := hb.open'
    have IH := Lib.hid ih; have HA := Lib.hid ha; have HB := Lib.hid hb; have HEA := Lib.hid hea; have HEB := Lib.hid heb; have HKA := Lib.hid hka; have HKB := Lib.hid hkb
    clear ih ha hb hps hps' hea heb hka hkb
    have hla : a.kids.length ≤ 3000000 := by have h1 := Nd.length_le a.nd.kids; have h2 := a.nd.size_kids; have h3 := a.kids_len; omega
    have hlb : b.kids.length ≤ 3000000 := by have h1 := Nd.length_le b.nd.kids; have h2 := b.nd.size_kids; have h3 := b.kids_len; omega
    by_cases hkk : kd = kd'
    · subst hkk
      have hsi : a.nd = b.nd ↔ headSame kd s mn mx nu s' mn' mx' nu' ∧ a.nd.kids = b.nd.kids := by
        have h1 := HKA.out
        rw [HEA.out] at h1
        have := T.same_iff (s' := s') (ps' := ps') (mn' := mn') (mx' := mx') (nu' := nu') h1
        rw [HEA.out, HEB.out]; exact this
      by_cases h1 : kd = 1
      · have hk1 : a.nd = b.nd ↔ s = s' := by
          rw [HEA.out, HEB.out, h1]; simp [T.nd]
        have HK1 := Lib.hid hk1
        subst h1
        clear hsi hk1
        obtain ⟨a1, b1, c1, d1⟩ := s
        obtain ⟨a2, b2, c2, d2⟩ := s'
        cases hp : S4.same ⟨a1, b1, c1, d1⟩ ⟨a2, b2, c2, d2⟩
        all_goals
          have HPP := Lib.hid hp
          go_enter Tryd.func29, Tryd.ntmps29
          go_wp2
          go_ret
          exact ⟨_, rfl, ⟨fun h => by first | (cases h; done) | exact HK1.out.2 (S4.same_iff.1 HPP.out), fun h => HPP.out.symm.trans (S4.same_iff.2 (HK1.out.1 h))⟩, box2_fr _ _ _⟩
      by_cases hh : headSame kd s mn mx nu s' mn' mx' nu'
      · have HSI := Lib.hid (show a.nd = b.nd ↔ a.nd.kids = b.nd.kids by rw [hsi]; exact ⟨fun h => h.2, fun h => ⟨hh, h⟩⟩)
        have hcase : ((kd == 4) = true ∧ (mn != mn') = false ∧ (mx != mx') = false) ∨ ((kd == 4) = false ∧ (kd == 5) = true ∧ (nu != nu') = false) ∨ ((kd == 4) = false ∧ (kd == 5) = false ∧ (kd == 6) = true ∧ (nu != nu') = false) ∨ ((kd == 4) = false ∧ (kd == 5) = false ∧ (kd == 6) = false) := by
          obtain ⟨_, q4, q56⟩ := hh
          by_cases h4 : kd = 4
          · obtain ⟨e1, e2⟩ := q4 h4
            exact .inl (by simp [h4, e1, e2])
          by_cases h5 : kd = 5
          · exact .inr (.inl (by simp [h5, q56 (.inl h5)]))
          by_cases h6 : kd = 6
          · exact .inr (.inr (.inl (by simp [h6, q56 (.inr h6)])))
          exact .inr (.inr (.inr (by simp [h4, h5, h6])))
        have h1' : (kd == 1) = false := by simpa using h1
        have CA := C9.of (box2_a w [.int .i64 kd, .int .u64 s.a, .int .u64 s.b, .int .u64 s.c, .int .u64 s.d, .slice ua ps.length uc, .int .i64 mn, .int .i64 mx, .int .i64 nu] [.int .i64 kd, .int .u64 s'.a, .int .u64 s'.b, .int .u64 s'.c, .int .u64 s'.d, .slice ua' ps'.length uc', .int .i64 mn', .int .i64 mx', .int .i64 nu'])
        have CB := C9.of (box2_b w [.int .i64 kd, .int .u64 s.a, .int .u64 s.b, .int .u64 s.c, .int .u64 s.d, .slice ua ps.length uc, .int .i64 mn, .int .i64 mx, .int .i64 nu] [.int .i64 kd, .int .u64 s'.a, .int .u64 s'.b, .int .u64 s'.c, .int .u64 s'.d, .slice ua' ps'.length uc', .int .i64 mn', .int .i64 mx', .int .i64 nu'])
        have HC := Lib.hid (And.intro CA CB)
        have F0 := Lib.hid (box2_fr w [.int .i64 kd, .int .u64 s.a, .int .u64 s.b, .int .u64 s.c, .int .u64 s.d, .slice ua ps.length uc, .int .i64 mn, .int .i64 mx, .int .i64 nu] [.int .i64 kd, .int .u64 s'.a, .int .u64 s'.b, .int .u64 s'.c, .int .u64 s'.d, .slice ua' ps'.length uc', .int .i64 mn', .int .i64 mx', .int .i64 nu'])
        clear hh hsi CA CB h1
        rcases hcase with ⟨h4, h5, h6⟩ | ⟨h4, h5, h6⟩ | ⟨h4, h5, h6, h7⟩ | ⟨h4, h5, h6⟩
        all_goals
          go_enter Tryd.func29, Tryd.ntmps29
          go_wp2_with fail
          go_region_held3 (fun w' => C9 w' w.heap.size (.int .i64 kd) (.int .u64 s.a) (.int .u64 s.b) (.int .u64 s.c) (.int .u64 s.d) (.slice ua ps.length uc) (.int .i64 mn) (.int .i64 mx) (.int .i64 nu) ∧ C9 w' (w.heap.size + 1) (.int .i64 kd) (.int .u64 s'.a) (.int .u64 s'.b) (.int .u64 s'.c) (.int .u64 s'.d) (.slice ua' ps'.length uc') (.int .i64 mn') (.int .i64 mx') (.int .i64 nu'))
            (first | exact C9.two ‹_› F2.out | exact C9.two ‹_› F1.out | exact C9.two HC.out ((Fr.refl nob _).drew))
            (first | (go_at_call 42; with_reducible refine (kids_T a _ _ (HA.out.on (F0.out.drew))).mono ?_; rintro e w1 ⟨u1, rfl, s1, f1⟩; obtain ⟨a1, c1, rfl⟩ := s1.shape; have S1 := Lib.hid s1; have F1 := Lib.hid f1; clear s1 f1) | (go_at_call 42; with_reducible refine (kids_T b _ _ (HB.out.on (F0.out.drew.trans' F1.out))).mono ?_; rintro e w2 ⟨u2, rfl, s2, f2⟩; obtain ⟨a2, c2, rfl⟩ := s2.shape; have S2 := Lib.hid s2; have F2 := Lib.hid f2; clear s2 f2))
          by_cases hlen : a.kids.length = b.kids.length
          · have e1 : (((a.kids.length : Nat) : Int) != ((b.kids.length : Nat) : Int)) = false := by rw [hlen]; simp
            have HLEN := Lib.hid hlen
            clear hlen
            have FK := Lib.hid ((F0.out.drew.trans' F1.out).trans' F2.out)
            go_wp2_with fail
            go_loopw [55] (fun i wr => ∃ k : Nat, i = .int .i64 k ∧ k ≤ a.kids.length ∧ (a.kids.take k).map T.nd = (b.kids.take k).map T.nd ∧ Fr nob w2 wr) (fun i _ => a.kids.length - (intOf i).toNat)
            case atStart => exact ⟨0, rfl, Nat.zero_le _, rfl, Fr.refl _ _⟩
            case round =>
              obtain ⟨k, rfl, hk, hq, fr⟩ := hrel
              have HQ := Lib.hid hq; have FR := Lib.hid fr; clear hq fr
              by_cases hlt : k < a.kids.length
              · have hlt' : k < b.kids.length := by have := HLEN.out; omega
                obtain ⟨q, off, cap, cx, he, hx, hc, hgs⟩ := (S1.out.on (F2.out.trans' FR.out)).get hlt
                obtain ⟨q', off', cap', cx', he', hx', hc', hgs'⟩ := (S2.out.on FR.out).get hlt'
                injection he with e1 e2 e3
                injection he' with e1' e2' e3'
                subst e1 e3 e1' e3'
                have hna := a.kid_at hlt (by have := a.kids_len; omega)
                have hnb := b.kid_at hlt' (by have := b.kids_len; omega)
                have hza : a.kids[k].nd.size < a.nd.size := Nd.kid_lt (by rw [← hna]; exact List.getElem_mem _)
                have hzb : b.kids[k].nd.size < b.nd.size := Nd.kid_lt (by rw [← hnb]; exact List.getElem_mem _)
                have hkx := T.known_kids HKA.out _ (List.getElem_mem hlt)
                have hky := T.known_kids HKB.out _ (List.getElem_mem hlt')
                have hta : (a.kids.take (k + 1)).map T.nd = (a.kids.take k).map T.nd ++ [a.kids[k].nd] := by rw [List.take_succ_eq_append_getElem hlt, List.map_append]; rfl
                have htb : (b.kids.take (k + 1)).map T.nd = (b.kids.take k).map T.nd ++ [b.kids[k].nd] := by rw [List.take_succ_eq_append_getElem hlt', List.map_append]; rfl
                have hall : a.nd.kids = b.nd.kids → a.kids[k].nd = b.kids[k].nd := fun h => by
                  rw [a.kids_nd, b.kids_nd] at h
                  have := congrArg (fun l => l[k]?) h
                  simpa [List.getElem?_map, List.getElem?_eq_getElem hlt, List.getElem?_eq_getElem hlt'] using this
                obtain ⟨x, hxe⟩ : ∃ x, a.kids[k] = x := ⟨_, rfl⟩
                obtain ⟨y, hye⟩ : ∃ y, b.kids[k] = y := ⟨_, rfl⟩
                rw [hxe] at hx hza hkx hta hall
                rw [hye] at hx' hzb hky htb hall
                obtain ⟨k1, s1, p1, mn1, mx1, nu1, a1, c1, hx0, rfl, hxx⟩ := hx.open'
                obtain ⟨k2, s2, p2, mn2, mx2, nu2, a2, c2, hy0, rfl, hyy⟩ := hx'.open'
                obtain ⟨d0, d1, d2, d3, d4, d5, d6, d7, d8⟩ := hc.nine
                obtain ⟨g0, g1, g2, g3, g4, g5, g6, g7, g8⟩ := hc'.nine
                have HX := Lib.hid hx; have HY := Lib.hid hx'; have HTA := Lib.hid hta; have HTB := Lib.hid htb; have HALL := Lib.hid hall; have HKX := Lib.hid hkx; have HKY := Lib.hid hky
                clear hx hx' hta htb hall hkx hky hxx hyy hx0 hy0 e2 e2' hc hc' hxe hye hna hnb
                have q1 : (0 : Int) ≤ k := by omega
                have q2 : (k : Int) < a.kids.length := by omega
                have q3 : (k : Int) < b.kids.length := by omega
                go_wp2_with fail
                go_still_tail 8, (by kernel_rfl)
                change wpList _ _ _ _ _ wr.drew
                go_wp2_with fail
                refine (IH.out x y _ _ _ (by omega) (by omega) (by omega) HKX.out HKY.out (HX.out.on ((Fr.refl _ _).drew)) (HY.out.on ((Fr.refl _ _).drew))).mono ?_
                rintro e w3 ⟨r, rfl, hr, f3⟩
                have F3 := Lib.hid f3; have HR := Lib.hid hr; clear f3 hr
                cases r with
                | true =>
                  have HXY := Lib.hid (HR.out.1 (by trivial))
                  go_wp2
                  go_roundw
                  case rel => exact ⟨k + 1, by go_num, by omega, by rw [HTA.out, HTB.out, HQ.out, HXY.out], FR.out.drew.trans' F3.out⟩
                  case measure => simp [intOf]; omega
                | false =>
                  go_wp2
                  go_ret
                  exact ⟨false, rfl, ⟨fun h => (nomatch h), fun h => HR.out.2 (HALL.out (HSI.out.1 h))⟩, FK.out.trans' (FR.out.drew.trans' F3.out)⟩
              · obtain rfl : k = a.kids.length := by omega
                go_wp2
                go_ret
                refine ⟨true, rfl, ⟨fun _ => HSI.out.2 ?_, fun _ => rfl⟩, FK.out.trans' FR.out⟩
                have := HQ.out
                rw [List.take_of_length_le (Nat.le_refl _), HLEN.out, List.take_of_length_le (Nat.le_refl _)] at this
                rw [a.kids_nd, b.kids_nd, this]
          · have e1 : (((a.kids.length : Nat) : Int) != ((b.kids.length : Nat) : Int)) = true := by simp; omega
            have HLEN := Lib.hid hlen
            have hne : ¬ ((a.kids.length : Nat) : Int) = ((b.kids.length : Nat) : Int) := by omega
            clear hlen
            go_wp2
            go_ret
            refine ⟨false, rfl, ⟨fun h => (nomatch h), fun h => ?_⟩, (F0.out.drew.trans' F1.out).trans' F2.out⟩
            have := congrArg List.length (HSI.out.1 h)
            rw [a.kids_len, b.kids_len] at this
            exact (HLEN.out this).elim
      · have hf : ¬ a.nd = b.nd := fun h => hh (hsi.1 h).1
        have HF := Lib.hid hf
        have hcase : (kd = 4 ∧ mn ≠ mn') ∨ (kd = 4 ∧ mn = mn' ∧ mx ≠ mx') ∨ (kd = 5 ∧ nu ≠ nu') ∨ (kd = 6 ∧ nu ≠ nu') := by
          by_cases h4 : kd = 4
          · by_cases e1 : mn = mn'
            · by_cases e2 : mx = mx'
              · exact (hh ⟨fun h => (h1 h).elim, fun _ => ⟨e1, e2⟩, fun h => by omega⟩).elim
              · exact .inr (.inl ⟨h4, e1, e2⟩)
            · exact .inl ⟨h4, e1⟩
          by_cases h56 : kd = 5 ∨ kd = 6
          · have e3 : nu ≠ nu' := fun e => hh ⟨fun h => (h1 h).elim, fun h => (h4 h).elim, fun _ => e⟩
            rcases h56 with h | h
            · exact .inr (.inr (.inl ⟨h, e3⟩))
            · exact .inr (.inr (.inr ⟨h, e3⟩))
          · exact (hh ⟨fun h => (h1 h).elim, fun h => (h4 h).elim, fun h => (h56 h).elim⟩).elim
        clear hh hsi hf
        rcases hcase with ⟨rfl, e1⟩ | ⟨rfl, rfl, e1⟩ | ⟨rfl, e1⟩ | ⟨rfl, e1⟩
        · have e2 : (mn != mn') = true := by simpa using e1
          go_enter Tryd.func29, Tryd.ntmps29
          go_wp2
          go_ret
          exact ⟨_, rfl, ⟨fun h => (nomatch h), fun h => (HF.out h).elim⟩, box2_fr _ _ _⟩
        · have e2 : (mx != mx') = true := by simpa using e1
          go_enter Tryd.func29, Tryd.ntmps29
          go_wp2
          go_ret
          exact ⟨_, rfl, ⟨fun h => (nomatch h), fun h => (HF.out h).elim⟩, box2_fr _ _ _⟩
        all_goals
          have e2 : (nu != nu') = true := by simpa using e1
          go_enter Tryd.func29, Tryd.ntmps29
          go_wp2
          go_ret
          exact ⟨_, rfl, ⟨fun h => (nomatch h), fun h => (HF.out h).elim⟩, box2_fr _ _ _⟩
    · have h1 : (kd != kd') = true := by simpa using hkk
      go_enter Tryd.func29, Tryd.ntmps29
      go_wp2
      go_ret
      refine ⟨false, rfl, ⟨fun h => (nomatch h), fun h => ?_⟩, box2_fr _ _ _⟩
      have := T.same_kd HKA.out HKB.out h
      rw [HEA.out, HEB.out] at this
      exact (hkk this).elim

end Go.Proofs.YtpcpmjaphjkphaaDoor

/-
  Walks: list, Ref: the program's node as the document's.
-/
namespace Go.Proofs.YtpcpmjaphjkphaaDoor
open Go.RowKit
attribute [local go_sem ↓] Go.wp_at_zero Go.wp_at_succ

/-- What Ref answers. -/
def RefIs (n : Nd) (w : World) (e : Ending) (w' : World) : Prop := ∃ cs, e = .returned (.agg cs.toArray) ∧ RT (Old w) w' n.rf cs ∧ Fr nob w w'

theorem new_of' {w wr w2 : World} {g : Option Nat} (h2 : w.heap.size ≤ wr.heap.size) (hg : ∀ k, g = some k → k < wr.heap.size) :
    ∀ k, k < w2.heap.size → LS2 (Old w) g k → Old wr k := by
  intro k _ hk
  unfold Old
  rcases hk with hk | hk
  · unfold Old at hk; omega
  · exact hg k hk

set_option maxRecDepth 100000 in
set_option maxHeartbeats 1000000 in
theorem list_any (l : List Nd) (u : Value) (w : World) (hl : Nd.sizes l ≤ 3000000) (hc : ∀ n ∈ l, ∀ (v : Value) (w : World), RN nob w n v → Calls Tryd.prog 18 #[v] w (RefIs n w)) (h : SN nob w l u) :
    Calls Tryd.prog 30 #[u] w fun e w' => ∃ v, e = .returned v ∧ ST (Old w) w' (Nd.rfs l) v ∧ Fr nob w w' := by
  obtain ⟨a, c, rfl⟩ := h.shape
  have H := Lib.hid h; have HC := Lib.hid hc; clear h hc
  have hll := Nd.length_le l
  go_enter Tryd.func30, Tryd.ntmps30
  go_wp2_with fail
  go_loopw [3, 8] (fun s i wr => ∃ (k : Nat) (g : Option Nat), i = .int .i64 k ∧ k ≤ l.length ∧ OwnT (Old w) wr (Nd.rfs (l.take k)) s g ∧ Fr nob w wr ∧ ∀ j, g = some j → w.heap.size ≤ j) (fun _ i _ => l.length - (intOf i).toNat)
  case atStart => exact ⟨0, none, rfl, Nat.zero_le _, OwnT.nil _ _, Fr.refl _ _, fun _ h => by cases h⟩
  case round =>
    obtain ⟨k, g, rfl, hk, ho, fr, hg⟩ := hrel
    obtain ⟨av, cv, rfl⟩ := ho.shape
    have HO := Lib.hid ho; have FR := Lib.hid fr; have HG := Lib.hid hg
    have hlw := fr.size
    clear ho fr hg
    by_cases hlt : k < l.length
    · obtain ⟨q, off, cap, x, he, hx, hcx⟩ := (H.out.on FR.out).get hlt
      injection he with e1 e2 e3
      subst e1; subst e3
      have hnt := Lib.hid (Nd.rfs_take hlt)
      have hnl : (Nd.rfs (l.take k)).length + [l[k].rf].length ≤ 3000000 := by rw [Nd.rfs_length, List.length_take]; simp; omega
      have hcc := Lib.hid (HC.out l[k] (List.getElem_mem hlt))
      have HX := Lib.hid hx
      obtain ⟨n, hn⟩ : ∃ n, l[k] = n := ⟨_, rfl⟩
      rw [hn] at hnt hcc HX hnl
      clear hx e2 hn
      go_wp2_with fail
      refine (hcc.out x _ HX.out).mono ?_
      rintro e w2 ⟨cs, rfl, hr, f2⟩
      obtain ⟨k', s', ps', mn', mx', nu', a', c', hx0, rfl, hxx⟩ := hr.open'
      have hl2 := f2.size
      have HR := Lib.hid hr; have F2 := Lib.hid f2; clear hr f2 hx0 hxx
      have hS := Lib.hid (fun X => fun k (hk : Old w k) => (by unfold Old at hk; simp only [World.size_alloc]; omega : k < (w2.alloc X).heap.size))
      have HST := Lib.hid (ST.one (S := LS2 (Old w) g) (RT.keep (Fr.refl nob w2) (fun _ _ x => x.elim) (new_of' hlw HO.out.lt) _ _ HR.out) (fun k hk => by
        rcases hk with hk | hk
        · unfold Old at hk; omega
        · have := HO.out.lt k hk; omega) 51 rfl)
      go_wp2_with (at_builtin; refine wpList_append_t (S := Old w) rfl (.tmp 12) (.tmp 15) rfl (Nd.rfs (l.take k)) [n.rf] _ _ g (by rfl) (HO.out.on (F2.out.alloc _)) (by rfl) HST.out (hS.out _) hnl ?_; intro v' w3 g' ho3 hf3 hg3; obtain ⟨av', cv', he3⟩ := ho3.shape; simp only [List.length_append, List.length_singleton] at he3; subst he3; have HO3 := Lib.hid ho3; have HF3 := Lib.hid hf3; have HG3 := Lib.hid hg3; clear ho3 hf3 hg3)
      go_roundw
      case rel => exact ⟨k + 1, g', by go_num, by omega, by rw [hnt.out]; exact HO3.out, ((FR.out.trans' F2.out).alloc _).trans HF3.out (fun i hi x => by have := HG.out i x; omega), fun j hj => by
            rcases HG3.out j hj with h | h
            · exact HG.out j h
            · simp only [World.size_alloc] at h; omega⟩
      case measure => simp [intOf]; omega
    · obtain rfl : k = l.length := by omega
      have hT := Lib.hid (List.take_of_length_le (l := l) (Nat.le_refl _))
      have hO := HO.out
      rw [hT.out] at hO
      have HST := Lib.hid hO.st
      clear hO
      go_wp2
      go_ret
      exact ⟨_, rfl, by have := HST.out; rw [hT.out]; exact this, FR.out⟩

/-- Nine cells stored anew. -/
abbrev setNine (w : World) (b : Nat) (v0 v1 v2 v3 v4 v5 v6 v7 v8 : Value) : World :=
  ((((((((w.setCell ⟨b, 0, none⟩ v0).setCell ⟨b, 1, none⟩ v1).setCell ⟨b, 2, none⟩ v2).setCell ⟨b, 3, none⟩ v3).setCell ⟨b, 4, none⟩ v4).setCell ⟨b, 5, none⟩ v5).setCell ⟨b, 6, none⟩ v6).setCell ⟨b, 7, none⟩ v7).setCell ⟨b, 8, none⟩ v8
theorem setNine_heap {w : World} {b : Nat} {a0 a1 a2 a3 a4 a5 a6 a7 a8 : Value} {T : TypeId} {fr : Nat × Nat} (h : w.heap[b]? = some (.cells #[a0, a1, a2, a3, a4, a5, a6, a7, a8] T fr)) (v0 v1 v2 v3 v4 v5 v6 v7 v8 : Value) :
    (setNine w b v0 v1 v2 v3 v4 v5 v6 v7 v8).heap[b]? = some (.cells #[v0, v1, v2, v3, v4, v5, v6, v7, v8] T fr) := by
  have h0 : (w.setCell ⟨b, 0, none⟩ v0).heap[b]? = some (.cells #[v0, a1, a2, a3, a4, a5, a6, a7, a8] T fr) := heap_setCell_at h 0 v0
  have h1 : ((w.setCell ⟨b, 0, none⟩ v0).setCell ⟨b, 1, none⟩ v1).heap[b]? = some (.cells #[v0, v1, a2, a3, a4, a5, a6, a7, a8] T fr) := heap_setCell_at h0 1 v1
  have h2 : (((w.setCell ⟨b, 0, none⟩ v0).setCell ⟨b, 1, none⟩ v1).setCell ⟨b, 2, none⟩ v2).heap[b]? = some (.cells #[v0, v1, v2, a3, a4, a5, a6, a7, a8] T fr) := heap_setCell_at h1 2 v2
  have h3 : ((((w.setCell ⟨b, 0, none⟩ v0).setCell ⟨b, 1, none⟩ v1).setCell ⟨b, 2, none⟩ v2).setCell ⟨b, 3, none⟩ v3).heap[b]? = some (.cells #[v0, v1, v2, v3, a4, a5, a6, a7, a8] T fr) := heap_setCell_at h2 3 v3
  have h4 : (((((w.setCell ⟨b, 0, none⟩ v0).setCell ⟨b, 1, none⟩ v1).setCell ⟨b, 2, none⟩ v2).setCell ⟨b, 3, none⟩ v3).setCell ⟨b, 4, none⟩ v4).heap[b]? = some (.cells #[v0, v1, v2, v3, v4, a5, a6, a7, a8] T fr) := heap_setCell_at h3 4 v4
  have h5 : ((((((w.setCell ⟨b, 0, none⟩ v0).setCell ⟨b, 1, none⟩ v1).setCell ⟨b, 2, none⟩ v2).setCell ⟨b, 3, none⟩ v3).setCell ⟨b, 4, none⟩ v4).setCell ⟨b, 5, none⟩ v5).heap[b]? = some (.cells #[v0, v1, v2, v3, v4, v5, a6, a7, a8] T fr) := heap_setCell_at h4 5 v5
  have h6 : (((((((w.setCell ⟨b, 0, none⟩ v0).setCell ⟨b, 1, none⟩ v1).setCell ⟨b, 2, none⟩ v2).setCell ⟨b, 3, none⟩ v3).setCell ⟨b, 4, none⟩ v4).setCell ⟨b, 5, none⟩ v5).setCell ⟨b, 6, none⟩ v6).heap[b]? = some (.cells #[v0, v1, v2, v3, v4, v5, v6, a7, a8] T fr) := heap_setCell_at h5 6 v6
  have h7 : ((((((((w.setCell ⟨b, 0, none⟩ v0).setCell ⟨b, 1, none⟩ v1).setCell ⟨b, 2, none⟩ v2).setCell ⟨b, 3, none⟩ v3).setCell ⟨b, 4, none⟩ v4).setCell ⟨b, 5, none⟩ v5).setCell ⟨b, 6, none⟩ v6).setCell ⟨b, 7, none⟩ v7).heap[b]? = some (.cells #[v0, v1, v2, v3, v4, v5, v6, v7, a8] T fr) := heap_setCell_at h6 7 v7
  have h8 : (((((((((w.setCell ⟨b, 0, none⟩ v0).setCell ⟨b, 1, none⟩ v1).setCell ⟨b, 2, none⟩ v2).setCell ⟨b, 3, none⟩ v3).setCell ⟨b, 4, none⟩ v4).setCell ⟨b, 5, none⟩ v5).setCell ⟨b, 6, none⟩ v6).setCell ⟨b, 7, none⟩ v7).setCell ⟨b, 8, none⟩ v8).heap[b]? = some (.cells #[v0, v1, v2, v3, v4, v5, v6, v7, v8] T fr) := heap_setCell_at h7 8 v8
  exact h8
theorem setNine_fr {w a : World} {b : Nat} (f : Fr nob a w) (hb : a.heap.size ≤ b) (v0 v1 v2 v3 v4 v5 v6 v7 v8 : Value) : Fr nob a (setNine w b v0 v1 v2 v3 v4 v5 v6 v7 v8) := by
  have h : ∀ (x : World) (j : Nat) (v : Value), Fr nob a x → Fr nob a (x.setCell ⟨b, j, none⟩ v) := fun x j v hx => hx.setCell (p := ⟨b, j, none⟩) (fun h => absurd h (Nat.not_lt.2 hb)) v
  exact h _ _ _ (h _ _ _ (h _ _ _ (h _ _ _ (h _ _ _ (h _ _ _ (h _ _ _ (h _ _ _ (h _ _ _ f))))))))
theorem setNine_one {w : World} {b : Nat} (v0 v1 v2 v3 v4 v5 v6 v7 v8 : Value) : Fr (fun k => k = b) w (setNine w b v0 v1 v2 v3 v4 v5 v6 v7 v8) := by
  have h : ∀ (x : World) (j : Nat) (v : Value), Fr (fun k => k = b) w x → Fr (fun k => k = b) w (x.setCell ⟨b, j, none⟩ v) := fun x j v hx => hx.setCell (p := ⟨b, j, none⟩) (fun _ => rfl) v
  exact h _ _ _ (h _ _ _ (h _ _ _ (h _ _ _ (h _ _ _ (h _ _ _ (h _ _ _ (h _ _ _ (h _ _ _ (Fr.refl _ w)))))))))

theorem setNine_size {w : World} {b : Nat} (v0 v1 v2 v3 v4 v5 v6 v7 v8 : Value) : (setNine w b v0 v1 v2 v3 v4 v5 v6 v7 v8).heap.size = w.heap.size := by
  simp [World.setCell]

/-- Nine cells that are there and may be written. -/
theorem there9 {w : World} {b : Nat} {a0 a1 a2 a3 a4 a5 a6 a7 a8 : Value} {T : TypeId} (h : w.heap[b]? = some (.cells #[a0, a1, a2, a3, a4, a5, a6, a7, a8] T (0, 0))) :
    (w.frozen? ⟨b, 0, none⟩ = false ∧ w.frozen? ⟨b, 1, none⟩ = false ∧ w.frozen? ⟨b, 2, none⟩ = false ∧ w.frozen? ⟨b, 3, none⟩ = false ∧ w.frozen? ⟨b, 4, none⟩ = false ∧ w.frozen? ⟨b, 5, none⟩ = false ∧ w.frozen? ⟨b, 6, none⟩ = false ∧ w.frozen? ⟨b, 7, none⟩ = false ∧ w.frozen? ⟨b, 8, none⟩ = false) :=
  ⟨unfrozen_at h _, unfrozen_at h _, unfrozen_at h _, unfrozen_at h _, unfrozen_at h _, unfrozen_at h _, unfrozen_at h _, unfrozen_at h _, unfrozen_at h _⟩

/-- Three cells; two. -/
abbrev C3 (w : World) (b : Nat) (v0 v1 v2 : Value) : Prop := w.cell? ⟨b, 0, none⟩ = some v0 ∧ w.cell? ⟨b, 1, none⟩ = some v1 ∧ w.cell? ⟨b, 2, none⟩ = some v2
abbrev C2 (w : World) (b : Nat) (v0 v1 : Value) : Prop := w.cell? ⟨b, 0, none⟩ = some v0 ∧ w.cell? ⟨b, 1, none⟩ = some v1
theorem C3.on {w w' : World} {b : Nat} {v0 v1 v2 : Value} (h : C3 w b v0 v1 v2) (f : Fr nob w w') : C3 w' b v0 v1 v2 := ⟨f.cell h.1 (fun x => x), f.cell h.2.1 (fun x => x), f.cell h.2.2 (fun x => x)⟩
theorem C2.on {w w' : World} {b : Nat} {v0 v1 : Value} (h : C2 w b v0 v1) (f : Fr nob w w') : C2 w' b v0 v1 := ⟨f.cell h.1 (fun x => x), f.cell h.2 (fun x => x)⟩
theorem C3.set {w : World} {b c : Nat} {v0 v1 v2 : Value} (h : C3 w b v0 v1 v2) (hn : ¬ b = c) (u0 u1 u2 u3 u4 u5 u6 u7 u8 : Value) : C3 (setNine w c u0 u1 u2 u3 u4 u5 u6 u7 u8) b v0 v1 v2 :=
  ⟨Fr.cell (setNine_one u0 u1 u2 u3 u4 u5 u6 u7 u8) h.1 hn, Fr.cell (setNine_one u0 u1 u2 u3 u4 u5 u6 u7 u8) h.2.1 hn, Fr.cell (setNine_one u0 u1 u2 u3 u4 u5 u6 u7 u8) h.2.2 hn⟩
theorem C2.set {w : World} {b c : Nat} {v0 v1 : Value} (h : C2 w b v0 v1) (hn : ¬ b = c) (u0 u1 u2 u3 u4 u5 u6 u7 u8 : Value) : C2 (setNine w c u0 u1 u2 u3 u4 u5 u6 u7 u8) b v0 v1 :=
  ⟨Fr.cell (setNine_one u0 u1 u2 u3 u4 u5 u6 u7 u8) h.1 hn, Fr.cell (setNine_one u0 u1 u2 u3 u4 u5 u6 u7 u8) h.2 hn⟩
theorem C3.of {w : World} {b : Nat} {v0 v1 v2 : Value} {T : TypeId} {fr : Nat × Nat} (h : w.heap[b]? = some (.cells #[v0, v1, v2] T fr)) : C3 w b v0 v1 v2 := ⟨cell_at h rfl, cell_at h rfl, cell_at h rfl⟩
theorem C2.of {w : World} {b : Nat} {v0 v1 : Value} {T : TypeId} {fr : Nat × Nat} (h : w.heap[b]? = some (.cells #[v0, v1] T fr)) : C2 w b v0 v1 := ⟨cell_at h rfl, cell_at h rfl⟩

set_option maxRecDepth 100000 in
set_option maxHeartbeats 2000000 in
theorem ref_any (m : Nat) : ∀ (n : Nd) (v : Value) (w : World), n.size ≤ m → n.size ≤ 3000000 → RN nob w n v →
    Calls Tryd.prog 18 #[v] w (RefIs n w) := by
  induction m with
  | zero => intro n v w h; have := n.size_pos; omega
  | succ m ih =>
    intro n v w hm hn h
    have IH := Lib.hid ih; clear ih
    have hk := h.kind
    have H := Lib.hid h; clear h
    cases n with
    | nil =>
      obtain rfl := hk
      go_enter Tryd.func18, Tryd.ntmps18
      go_wp2
      (try simp only [Exit.inBlock, Exit.then])
      refine bodyPost_ret (results_T (k := 0) (s := S4.zero) (v := .slice none 0 0) (mn := 0) (mx := 0) (nu := 0) rfl rfl (heap_alloc_new' _ _ _ (by simp))) rfl ⟨_, rfl, ?_, (Fr.refl _ _).alloc _⟩
      rw [Nd.rf]; unfold T.zero
      exact RT_mk.2 ⟨_, rfl, .inl ⟨⟨none, 0, rfl⟩, rfl⟩⟩
    | empty =>
      obtain rfl := hk
      go_enter Tryd.func18, Tryd.ntmps18
      go_wp2
      (try simp only [Exit.inBlock, Exit.then])
      refine bodyPost_ret (results_T (k := 0) (s := S4.zero) (v := .slice none 0 0) (mn := 0) (mx := 0) (nu := 0) rfl rfl (heap_alloc_new' _ _ _ (by simp))) rfl ⟨_, rfl, ?_, (Fr.refl _ _).alloc _⟩
      rw [Nd.rf]; unfold T.zero
      exact RT_mk.2 ⟨_, rfl, .inl ⟨⟨none, 0, rfl⟩, rfl⟩⟩
    | one s =>
      obtain rfl := hk
      rw [S4.cells_eq]
      go_enter Tryd.func18, Tryd.ntmps18
      go_wp2
      (try simp only [Exit.inBlock, Exit.then])
      refine bodyPost_ret (results_T (k := 1) (s := s) (v := .slice none 0 0) (mn := 0) (mx := 0) (nu := 0) rfl rfl (heap_alloc_lt _ (heap_alloc_new' _ _ _ (by simp)))) rfl ⟨_, rfl, ?_, ((Fr.refl _ _).alloc _).alloc _⟩
      rw [Nd.rf]
      exact RT_mk.2 ⟨_, rfl, .inl ⟨⟨none, 0, rfl⟩, rfl⟩⟩
    | back n =>
      obtain rfl := hk
      go_enter Tryd.func18, Tryd.ntmps18
      go_wp2
      (try simp only [Exit.inBlock, Exit.then])
      refine bodyPost_ret (results_T (k := 6) (s := S4.zero) (v := .slice none 0 0) (mn := 0) (mx := 0) (nu := n) rfl rfl (heap_alloc_lt _ (heap_alloc_new' _ _ _ (by simp)))) rfl ⟨_, rfl, ?_, ((Fr.refl _ _).alloc _).alloc _⟩
      rw [Nd.rf]
      exact RT_mk.2 ⟨_, rfl, .inl ⟨⟨none, 0, rfl⟩, rfl⟩⟩
    | start =>
      obtain rfl := hk
      go_enter Tryd.func18, Tryd.ntmps18
      go_wp2
      (try simp only [Exit.inBlock, Exit.then])
      refine bodyPost_ret (results_T (k := 7) (s := S4.zero) (v := .slice none 0 0) (mn := 0) (mx := 0) (nu := 0) rfl rfl (heap_alloc_lt _ (heap_alloc_new' _ _ _ (by simp)))) rfl ⟨_, rfl, ?_, ((Fr.refl _ _).alloc _).alloc _⟩
      rw [Nd.rf]
      exact RT_mk.2 ⟨_, rfl, .inl ⟨⟨none, 0, rfl⟩, rfl⟩⟩
    | fin =>
      obtain rfl := hk
      go_enter Tryd.func18, Tryd.ntmps18
      go_wp2
      (try simp only [Exit.inBlock, Exit.then])
      refine bodyPost_ret (results_T (k := 8) (s := S4.zero) (v := .slice none 0 0) (mn := 0) (mx := 0) (nu := 0) rfl rfl (heap_alloc_lt _ (heap_alloc_new' _ _ _ (by simp)))) rfl ⟨_, rfl, ?_, ((Fr.refl _ _).alloc _).alloc _⟩
      rw [Nd.rf]
      exact RT_mk.2 ⟨_, rfl, .inl ⟨⟨none, 0, rfl⟩, rfl⟩⟩
    | cat l =>
      obtain ⟨a, c, rfl, hs⟩ := hk
      have HS := Lib.hid hs; clear hs
      have hz : Nd.sizes l ≤ m := by simp only [Nd.size] at hm; omega
      have hz2 : Nd.sizes l ≤ 3000000 := by simp only [Nd.size] at hn; omega
      go_enter Tryd.func18, Tryd.ntmps18
      go_wp2_with fail
      refine (list_any l _ _ hz2 (fun x hx v w hv => IH.out x v w (Nat.le_trans (Nd.sizes_mem hx) hz) (Nat.le_trans (Nd.sizes_mem hx) hz2) hv) (HS.out.on (((Fr.refl _ _).alloc _).alloc _))).mono ?_
      rintro e w2 ⟨u, rfl, hu, f2⟩
      obtain ⟨au, cu, rfl⟩ := hu.shape
      have hr := f2.heap (heap_alloc_lt _ (heap_alloc_new _ _)) (fun x => x)
      obtain ⟨z0, z1, z2, z3, z4, z5, z6, z7, z8⟩ := C9.of hr
      obtain ⟨q0, q1, q2, q3, q4, q5, q6, q7, q8⟩ := there9 hr
      have HR := Lib.hid hr; have HU := Lib.hid hu; have F2 := Lib.hid f2
      clear hr hu f2
      go_wp2
      (try simp only [Exit.inBlock, Exit.then])
      refine bodyPost_ret (results_T (k := 2) (s := S4.zero) (v := .slice au (Nd.rfs l).length cu) (mn := 0) (mx := 0) (nu := 0) rfl rfl (setNine_heap HR.out _ _ _ _ _ _ _ _ _)) rfl ⟨_, rfl, ?_, setNine_fr ((((Fr.refl _ _).alloc _).alloc _).trans' F2.out) (Nat.le_refl _) _ _ _ _ _ _ _ _ _⟩
      rw [Nd.rf]
      exact RT_mk.2 ⟨_, rfl, HU.out.keep (setNine_one _ _ _ _ _ _ _ _ _) (fun k hk x => by unfold Old; subst x; simp; omega) (fun k hk x => by unfold Old at x ⊢; simp; omega)⟩
    | alt l =>
      obtain ⟨a, c, rfl, hs⟩ := hk
      have HS := Lib.hid hs; clear hs
      have hz : Nd.sizes l ≤ m := by simp only [Nd.size] at hm; omega
      have hz2 : Nd.sizes l ≤ 3000000 := by simp only [Nd.size] at hn; omega
      go_enter Tryd.func18, Tryd.ntmps18
      go_wp2_with fail
      refine (list_any l _ _ hz2 (fun x hx v w hv => IH.out x v w (Nat.le_trans (Nd.sizes_mem hx) hz) (Nat.le_trans (Nd.sizes_mem hx) hz2) hv) (HS.out.on (((Fr.refl _ _).alloc _).alloc _))).mono ?_
      rintro e w2 ⟨u, rfl, hu, f2⟩
      obtain ⟨au, cu, rfl⟩ := hu.shape
      have hr := f2.heap (heap_alloc_lt _ (heap_alloc_new _ _)) (fun x => x)
      obtain ⟨z0, z1, z2, z3, z4, z5, z6, z7, z8⟩ := C9.of hr
      obtain ⟨q0, q1, q2, q3, q4, q5, q6, q7, q8⟩ := there9 hr
      have HR := Lib.hid hr; have HU := Lib.hid hu; have F2 := Lib.hid f2
      clear hr hu f2
      go_wp2
      (try simp only [Exit.inBlock, Exit.then])
      refine bodyPost_ret (results_T (k := 3) (s := S4.zero) (v := .slice au (Nd.rfs l).length cu) (mn := 0) (mx := 0) (nu := 0) rfl rfl (setNine_heap HR.out _ _ _ _ _ _ _ _ _)) rfl ⟨_, rfl, ?_, setNine_fr ((((Fr.refl _ _).alloc _).alloc _).trans' F2.out) (Nat.le_refl _) _ _ _ _ _ _ _ _ _⟩
      rw [Nd.rf]
      exact RT_mk.2 ⟨_, rfl, HU.out.keep (setNine_one _ _ _ _ _ _ _ _ _) (fun k hk x => by unfold Old; subst x; simp; omega) (fun k hk x => by unfold Old at x ⊢; simp; omega)⟩
    | rep x mn mx =>
      obtain ⟨u, rfl, hx⟩ := hk
      have hsh := hx.shape
      have HX := Lib.hid hx; clear hx
      have hz : x.size ≤ m := by simp only [Nd.size] at hm; omega
      have hz2 : x.size ≤ 3000000 := by simp only [Nd.size] at hn; omega
      rcases hsh with rfl | ⟨ix, zx, rfl⟩
      · have F0 := Lib.hid (((Fr.refl nob w).alloc (.cells #[.int .i64 0, .int .u64 0, .int .u64 0, .int .u64 0, .int .u64 0, .slice none 0 0, .int .i64 0, .int .i64 0, .int .i64 0] 51)).alloc (.cells #[.nilIface, .int .i64 mn, .int .i64 mx] 32))
        have HC := Lib.hid (C3.on (C3.of (heap_alloc_new' (w.alloc (.cells #[.int .i64 0, .int .u64 0, .int .u64 0, .int .u64 0, .int .u64 0, .slice none 0 0, .int .i64 0, .int .i64 0, .int .i64 0] 51)) (.cells #[.nilIface, .int .i64 mn, .int .i64 mx] 32) (w.heap.size + 1) (by simp))) ((Fr.refl nob _).drew))
        go_enter Tryd.func18, Tryd.ntmps18
        go_wp2_with fail
        go_region_held3 (fun w' => C3 w' (w.heap.size + 1) .nilIface (.int .i64 mn) (.int .i64 mx))
          (first | (with_reducible exact HC.out) | (with_reducible exact C3.on HC.out F2.out) | (with_reducible exact C3.on HC.out (F2.out.alloc _)) | (with_reducible exact C3.on (C3.set (C3.on HC.out F2.out) hne1 _ _ _ _ _ _ _ _ _) ((Fr.refl nob _).alloc _)))
          ((go_at_call 18; refine (IH.out x _ _ hz hz2 (HX.out.on F0.out.drew)).mono ?_; rintro e w2 ⟨cs, rfl, hrx, f2⟩; obtain ⟨k', s', ps', mn', mx', nu', a', c', hx0, rfl, hxx⟩ := hrx.open'; have hr2 := f2.heap (heap_alloc_lt _ (heap_alloc_new _ _)) (fun x => x); have HR2 := Lib.hid hr2; obtain ⟨z0, z1, z2, z3, z4, z5, z6, z7, z8⟩ := C9.of hr2; obtain ⟨q0, q1, q2, q3, q4, q5, q6, q7, q8⟩ := there9 hr2; have hlt2 := lt_heap hr2; have hne2 : ¬ w.heap.size = w2.heap.size := (by omega); have hne1 : ¬ w.heap.size + 1 = w.heap.size := (by omega); have HRX := Lib.hid hrx; have F2 := Lib.hid f2; clear hr2 hrx f2 hxx hx0))
        all_goals
          go_wp2
          (try simp only [Exit.inBlock, Exit.then])
          refine bodyPost_ret (results_T (k := 4) (s := S4.zero) (v := .slice (some ⟨w2.heap.size, 0, none⟩) 1 1) (mn := mn) (mx := mx) (nu := 0) rfl rfl (heap_alloc_lt _ (setNine_heap HR2.out _ _ _ _ _ _ _ _ _))) rfl ⟨_, rfl, ?_, (setNine_fr (F0.out.drew.trans' F2.out) (Nat.le_refl _) _ _ _ _ _ _ _ _ _).alloc _⟩
          rw [Nd.rf]
          exact RT_mk.2 ⟨_, rfl, ST.one (RT.keep (setNine_one _ _ _ _ _ _ _ _ _) (fun k hk x => by unfold Old; subst x; simp; omega) (fun k hk x => by unfold Old at x ⊢; simp; omega) _ _ HRX.out) (fun k x => by unfold Old at x; rw [setNine_size]; omega) _ (by rw [setNine_size])⟩
      · have F0 := Lib.hid (((Fr.refl nob w).alloc (.cells #[.int .i64 0, .int .u64 0, .int .u64 0, .int .u64 0, .int .u64 0, .slice none 0 0, .int .i64 0, .int .i64 0, .int .i64 0] 51)).alloc (.cells #[(.iface ix zx), .int .i64 mn, .int .i64 mx] 32))
        have HC := Lib.hid (C3.on (C3.of (heap_alloc_new' (w.alloc (.cells #[.int .i64 0, .int .u64 0, .int .u64 0, .int .u64 0, .int .u64 0, .slice none 0 0, .int .i64 0, .int .i64 0, .int .i64 0] 51)) (.cells #[(.iface ix zx), .int .i64 mn, .int .i64 mx] 32) (w.heap.size + 1) (by simp))) ((Fr.refl nob _).drew))
        go_enter Tryd.func18, Tryd.ntmps18
        go_wp2_with fail
        go_region_held3 (fun w' => C3 w' (w.heap.size + 1) (.iface ix zx) (.int .i64 mn) (.int .i64 mx))
          (first | (with_reducible exact HC.out) | (with_reducible exact C3.on HC.out F2.out) | (with_reducible exact C3.on HC.out (F2.out.alloc _)) | (with_reducible exact C3.on (C3.set (C3.on HC.out F2.out) hne1 _ _ _ _ _ _ _ _ _) ((Fr.refl nob _).alloc _)))
          ((go_at_call 18; refine (IH.out x _ _ hz hz2 (HX.out.on F0.out.drew)).mono ?_; rintro e w2 ⟨cs, rfl, hrx, f2⟩; obtain ⟨k', s', ps', mn', mx', nu', a', c', hx0, rfl, hxx⟩ := hrx.open'; have hr2 := f2.heap (heap_alloc_lt _ (heap_alloc_new _ _)) (fun x => x); have HR2 := Lib.hid hr2; obtain ⟨z0, z1, z2, z3, z4, z5, z6, z7, z8⟩ := C9.of hr2; obtain ⟨q0, q1, q2, q3, q4, q5, q6, q7, q8⟩ := there9 hr2; have hlt2 := lt_heap hr2; have hne2 : ¬ w.heap.size = w2.heap.size := (by omega); have hne1 : ¬ w.heap.size + 1 = w.heap.size := (by omega); have HRX := Lib.hid hrx; have F2 := Lib.hid f2; clear hr2 hrx f2 hxx hx0))
        all_goals
          go_wp2
          (try simp only [Exit.inBlock, Exit.then])
          refine bodyPost_ret (results_T (k := 4) (s := S4.zero) (v := .slice (some ⟨w2.heap.size, 0, none⟩) 1 1) (mn := mn) (mx := mx) (nu := 0) rfl rfl (heap_alloc_lt _ (setNine_heap HR2.out _ _ _ _ _ _ _ _ _))) rfl ⟨_, rfl, ?_, (setNine_fr (F0.out.drew.trans' F2.out) (Nat.le_refl _) _ _ _ _ _ _ _ _ _).alloc _⟩
          rw [Nd.rf]
          exact RT_mk.2 ⟨_, rfl, ST.one (RT.keep (setNine_one _ _ _ _ _ _ _ _ _) (fun k hk x => by unfold Old; subst x; simp; omega) (fun k hk x => by unfold Old at x ⊢; simp; omega) _ _ HRX.out) (fun k x => by unfold Old at x; rw [setNine_size]; omega) _ (by rw [setNine_size])⟩
    | group gn x =>
      obtain ⟨u, rfl, hx⟩ := hk
      have hsh := hx.shape
      have HX := Lib.hid hx; clear hx
      have hz : x.size ≤ m := by simp only [Nd.size] at hm; omega
      have hz2 : x.size ≤ 3000000 := by simp only [Nd.size] at hn; omega
      rcases hsh with rfl | ⟨ix, zx, rfl⟩
      · have F0 := Lib.hid (((Fr.refl nob w).alloc (.cells #[.int .i64 0, .int .u64 0, .int .u64 0, .int .u64 0, .int .u64 0, .slice none 0 0, .int .i64 0, .int .i64 0, .int .i64 0] 51)).alloc (.cells #[.int .i64 gn, .nilIface] 43))
        have HC := Lib.hid (C2.on (C2.of (heap_alloc_new' (w.alloc (.cells #[.int .i64 0, .int .u64 0, .int .u64 0, .int .u64 0, .int .u64 0, .slice none 0 0, .int .i64 0, .int .i64 0, .int .i64 0] 51)) (.cells #[.int .i64 gn, .nilIface] 43) (w.heap.size + 1) (by simp))) ((Fr.refl nob _).drew))
        go_enter Tryd.func18, Tryd.ntmps18
        go_wp2_with fail
        go_region_held3 (fun w' => C2 w' (w.heap.size + 1) (.int .i64 gn) .nilIface)
          (first | (with_reducible exact HC.out) | (with_reducible exact C2.on HC.out F2.out) | (with_reducible exact C2.on HC.out (F2.out.alloc _)) | (with_reducible exact C2.on (C2.set (C2.on HC.out F2.out) hne1 _ _ _ _ _ _ _ _ _) ((Fr.refl nob _).alloc _)))
          ((go_at_call 18; refine (IH.out x _ _ hz hz2 (HX.out.on F0.out.drew)).mono ?_; rintro e w2 ⟨cs, rfl, hrx, f2⟩; obtain ⟨k', s', ps', mn', mx', nu', a', c', hx0, rfl, hxx⟩ := hrx.open'; have hr2 := f2.heap (heap_alloc_lt _ (heap_alloc_new _ _)) (fun x => x); have HR2 := Lib.hid hr2; obtain ⟨z0, z1, z2, z3, z4, z5, z6, z7, z8⟩ := C9.of hr2; obtain ⟨q0, q1, q2, q3, q4, q5, q6, q7, q8⟩ := there9 hr2; have hlt2 := lt_heap hr2; have hne2 : ¬ w.heap.size = w2.heap.size := (by omega); have hne1 : ¬ w.heap.size + 1 = w.heap.size := (by omega); have HRX := Lib.hid hrx; have F2 := Lib.hid f2; clear hr2 hrx f2 hxx hx0))
        all_goals
          go_wp2
          (try simp only [Exit.inBlock, Exit.then])
          refine bodyPost_ret (results_T (k := 5) (s := S4.zero) (v := .slice (some ⟨w2.heap.size, 0, none⟩) 1 1) (mn := 0) (mx := 0) (nu := gn) rfl rfl (heap_alloc_lt _ (setNine_heap HR2.out _ _ _ _ _ _ _ _ _))) rfl ⟨_, rfl, ?_, (setNine_fr (F0.out.drew.trans' F2.out) (Nat.le_refl _) _ _ _ _ _ _ _ _ _).alloc _⟩
          rw [Nd.rf]
          exact RT_mk.2 ⟨_, rfl, ST.one (RT.keep (setNine_one _ _ _ _ _ _ _ _ _) (fun k hk x => by unfold Old; subst x; simp; omega) (fun k hk x => by unfold Old at x ⊢; simp; omega) _ _ HRX.out) (fun k x => by unfold Old at x; rw [setNine_size]; omega) _ (by rw [setNine_size])⟩
      · have F0 := Lib.hid (((Fr.refl nob w).alloc (.cells #[.int .i64 0, .int .u64 0, .int .u64 0, .int .u64 0, .int .u64 0, .slice none 0 0, .int .i64 0, .int .i64 0, .int .i64 0] 51)).alloc (.cells #[.int .i64 gn, (.iface ix zx)] 43))
        have HC := Lib.hid (C2.on (C2.of (heap_alloc_new' (w.alloc (.cells #[.int .i64 0, .int .u64 0, .int .u64 0, .int .u64 0, .int .u64 0, .slice none 0 0, .int .i64 0, .int .i64 0, .int .i64 0] 51)) (.cells #[.int .i64 gn, (.iface ix zx)] 43) (w.heap.size + 1) (by simp))) ((Fr.refl nob _).drew))
        go_enter Tryd.func18, Tryd.ntmps18
        go_wp2_with fail
        go_region_held3 (fun w' => C2 w' (w.heap.size + 1) (.int .i64 gn) (.iface ix zx))
          (first | (with_reducible exact HC.out) | (with_reducible exact C2.on HC.out F2.out) | (with_reducible exact C2.on HC.out (F2.out.alloc _)) | (with_reducible exact C2.on (C2.set (C2.on HC.out F2.out) hne1 _ _ _ _ _ _ _ _ _) ((Fr.refl nob _).alloc _)))
          ((go_at_call 18; refine (IH.out x _ _ hz hz2 (HX.out.on F0.out.drew)).mono ?_; rintro e w2 ⟨cs, rfl, hrx, f2⟩; obtain ⟨k', s', ps', mn', mx', nu', a', c', hx0, rfl, hxx⟩ := hrx.open'; have hr2 := f2.heap (heap_alloc_lt _ (heap_alloc_new _ _)) (fun x => x); have HR2 := Lib.hid hr2; obtain ⟨z0, z1, z2, z3, z4, z5, z6, z7, z8⟩ := C9.of hr2; obtain ⟨q0, q1, q2, q3, q4, q5, q6, q7, q8⟩ := there9 hr2; have hlt2 := lt_heap hr2; have hne2 : ¬ w.heap.size = w2.heap.size := (by omega); have hne1 : ¬ w.heap.size + 1 = w.heap.size := (by omega); have HRX := Lib.hid hrx; have F2 := Lib.hid f2; clear hr2 hrx f2 hxx hx0))
        all_goals
          go_wp2
          (try simp only [Exit.inBlock, Exit.then])
          refine bodyPost_ret (results_T (k := 5) (s := S4.zero) (v := .slice (some ⟨w2.heap.size, 0, none⟩) 1 1) (mn := 0) (mx := 0) (nu := gn) rfl rfl (heap_alloc_lt _ (setNine_heap HR2.out _ _ _ _ _ _ _ _ _))) rfl ⟨_, rfl, ?_, (setNine_fr (F0.out.drew.trans' F2.out) (Nat.le_refl _) _ _ _ _ _ _ _ _ _).alloc _⟩
          rw [Nd.rf]
          exact RT_mk.2 ⟨_, rfl, ST.one (RT.keep (setNine_one _ _ _ _ _ _ _ _ _) (fun k hk x => by unfold Old; subst x; simp; omega) (fun k hk x => by unfold Old at x ⊢; simp; omega) _ _ HRX.out) (fun k x => by unfold Old at x; rw [setNine_size]; omega) _ (by rw [setNine_size])⟩


/-- Is a node the document's? -/
def IsT (n : Nd) (t : T) (w : World) (e : Ending) (w' : World) : Prop := ∃ r : Bool, e = .returned (.bool r) ∧ (r = true ↔ n.norm = t.nd) ∧ Fr nob w w'

set_option maxRecDepth 100000 in
set_option maxHeartbeats 2000000 in
theorem is_any (n : Nd) (t : T) (v : Value) (cs : List Value) (w : World) (hn : n.size ≤ 3000000) (ht : t.nd.size ≤ 3000000) (hk : t.known = true) (h : RN nob w n v) (h' : RT nob w t cs) :
    Calls Tryd.prog 16 #[v, .agg cs.toArray] w (IsT n t w) := by
  obtain ⟨kd, s, ps, mn, mx, nu, a, c, _, rfl, hs⟩ := h'.open'
  have HN := Lib.hid h; have HT := Lib.hid h'; have HK := Lib.hid hk; clear h h' hs hk
  have HC := Lib.hid (C9.on (C9.of (heap_alloc_new w (.cells #[.int .i64 kd, .int .u64 s.a, .int .u64 s.b, .int .u64 s.c, .int .u64 s.d, .slice a ps.length c, .int .i64 mn, .int .i64 mx, .int .i64 nu] 51))) ((Fr.refl nob _).drew))
  go_enter Tryd.func16, Tryd.ntmps16
  go_wp2_with fail
  go_region_held3 (fun w' => C9 w' w.heap.size (.int .i64 kd) (.int .u64 s.a) (.int .u64 s.b) (.int .u64 s.c) (.int .u64 s.d) (.slice a ps.length c) (.int .i64 mn) (.int .i64 mx) (.int .i64 nu))
    (first | (with_reducible exact HC.out) | (with_reducible exact C9.on HC.out F2.out) | (with_reducible exact C9.on HC.out (F2.out.trans' F3.out)))
    (first | (go_at_call 18; refine (ref_any n.size n _ _ (Nat.le_refl _) hn (HN.out.on ((Fr.refl _ _).alloc _).drew)).mono ?_; rintro e w2 ⟨cr, rfl, hr, f2⟩; obtain ⟨k', s', ps', mn', mx', nu', a', c', hx0, rfl, hxx⟩ := hr.open'; have HR := Lib.hid hr; have F2 := Lib.hid f2; clear hr f2 hxx hx0) | (go_at_call 29; refine (same_T n.rf.nd.size n.rf t _ _ _ (Nat.le_refl _) (by rw [Nd.rf_nd, Nd.norm_size]; exact hn) ht (Nd.rf_known n) HK.out (RT.keep (Fr.refl nob _) (fun _ _ x => x.elim) (fun _ _ x => x.elim) _ _ HR.out) (HT.out.on (((Fr.refl nob w).alloc _).drew.trans' F2.out))).mono ?_; rintro e w3 ⟨r, rfl, hr3, f3⟩; have HR3 := Lib.hid hr3; have F3 := Lib.hid f3; clear hr3 f3))
  all_goals
    go_wp2
    go_ret
    exact ⟨r, rfl, by rw [← Nd.rf_nd]; exact HR3.out, (((Fr.refl nob w).alloc _).drew.trans' F2.out).trans' F3.out⟩

end Go.Proofs.YtpcpmjaphjkphaaDoor

/-
  Walks: Join, Choose of the document.
-/
namespace Go.Proofs.YtpcpmjaphjkphaaDoor
open Go.RowKit

/-- What a part brings to a Cat; to an Alt. -/
def T.partT (t : T) : List T := if t.kind = 0 then [] else if t.kind = 2 then t.parts else [t]
def T.armT (t : T) : List T := if t.kind = 3 then t.parts else [t]
def partsT : List T → List T
  | [] => []
  | t :: ts => t.partT ++ partsT ts
def armsT : List T → List T
  | [] => []
  | t :: ts => t.armT ++ armsT ts
def onlyT (k : Int) : List T → T
  | [] => T.zero
  | [x] => x
  | x :: y :: l => .mk k S4.zero (x :: y :: l) 0 0 0
def joinT (l : List T) : T := onlyT 2 (partsT l)
def chooseT (l : List T) : T := onlyT 3 (armsT l)

theorem partsT_append (l m : List T) : partsT (l ++ m) = partsT l ++ partsT m := by
  induction l with
  | nil => rfl
  | cons t ts ih => simp only [List.cons_append, partsT, ih, List.append_assoc]
theorem armsT_append (l m : List T) : armsT (l ++ m) = armsT l ++ armsT m := by
  induction l with
  | nil => rfl
  | cons t ts ih => simp only [List.cons_append, armsT, ih, List.append_assoc]
theorem partsT_take {l : List T} {k : Nat} (h : k < l.length) : partsT (l.take (k + 1)) = partsT (l.take k) ++ l[k].partT := by
  rw [List.take_succ_eq_append_getElem h, partsT_append]; simp [partsT]
theorem armsT_take {l : List T} {k : Nat} (h : k < l.length) : armsT (l.take (k + 1)) = armsT (l.take k) ++ l[k].armT := by
  rw [List.take_succ_eq_append_getElem h, armsT_append]; simp [armsT]
theorem T.partT_bulk (t : T) : T.bulks t.partT ≤ t.bulk := by
  have := t.bulk_parts
  unfold T.partT; split
  · simp [T.bulks]
  split
  · omega
  · simp [T.bulks]
theorem T.armT_bulk (t : T) : T.bulks t.armT ≤ t.bulk := by
  have := t.bulk_parts
  unfold T.armT; split
  · omega
  · simp [T.bulks]
theorem partsT_bulk (l : List T) : T.bulks (partsT l) ≤ T.bulks l := by
  induction l with
  | nil => simp [partsT]
  | cons t ts ih => have := t.partT_bulk; simp only [partsT, T.bulks, T.bulks_append]; omega
theorem armsT_bulk (l : List T) : T.bulks (armsT l) ≤ T.bulks l := by
  induction l with
  | nil => simp [armsT]
  | cons t ts ih => have := t.armT_bulk; simp only [armsT, T.bulks, T.bulks_append]; omega

/-- The block of a result. -/
abbrev SRb (w : World) : Nat → Prop := fun k => k = w.heap.size

theorem late_ST {w wr : World} {g : Option Nat} {l : List T} {u : Value} (h : ST nob w l u) (f : Fr nob w wr) (hg : ∀ j, g = some j → w.heap.size < j) : ST (LS2 (SRb w) g) wr l u :=
  h.keep f (fun _ _ x => x) (fun k hk x => by
    rcases x with x | x
    · unfold SRb at x; omega
    · have := hg k x; omega)
theorem late_RT {w wr : World} {g : Option Nat} {t : T} {cs : List Value} (h : RT nob w t cs) (f : Fr nob w wr) (hg : ∀ j, g = some j → w.heap.size < j) : RT (LS2 (SRb w) g) wr t cs :=
  RT.keep f (fun _ _ x => x) (fun k hk x => by
    rcases x with x | x
    · unfold SRb at x; omega
    · have := hg k x; omega) _ _ h

set_option maxRecDepth 100000 in
set_option maxHeartbeats 2000000 in
theorem chooseT_any (l : List T) (u : Value) (w : World) (hl : T.bulks l ≤ 3000000) (h : ST nob w l u) :
    Calls Tryd.prog 17 #[u] w fun e w' => ∃ cs, e = .returned (.agg cs.toArray) ∧ RT nob w' (chooseT l) cs ∧ Fr nob w w' := by
  obtain ⟨a, c, rfl⟩ := h.shape
  have H := Lib.hid h; clear h
  have hll := T.length_le l
  have hpl := Lib.hid (Nat.le_trans (T.length_le (armsT l)) (armsT_bulk l))
  go_enter Tryd.func17, Tryd.ntmps17
  go_wp2_with fail
  go_loopw [3, 7] (fun s i wr => ∃ (k : Nat) (g : Option Nat), i = .int .i64 k ∧ k ≤ l.length ∧ OwnT (SRb w) wr (armsT (l.take k)) s g ∧ Fr nob (w.alloc (.cells #[.int .i64 0, .int .u64 0, .int .u64 0, .int .u64 0, .int .u64 0, .slice none 0 0, .int .i64 0, .int .i64 0, .int .i64 0] 51)) wr ∧ ∀ j, g = some j → w.heap.size < j) (fun _ i _ => l.length - (intOf i).toNat)
  case atStart => exact ⟨0, none, rfl, Nat.zero_le _, OwnT.nil _ _, Fr.refl _ _, fun _ h => by cases h⟩
  case round =>
    obtain ⟨k, g, rfl, hk, ho, fr, hg⟩ := hrel
    obtain ⟨av, cv, rfl⟩ := ho.shape
    have HO := Lib.hid ho; have FR := Lib.hid fr; have HG := Lib.hid hg
    have hlw := fr.size
    simp only [World.size_alloc] at hlw
    clear ho fr hg
    by_cases hlt : k < l.length
    · obtain ⟨q, off, cap, cx, he, hx, hc, hgs⟩ := H.out.get hlt
      injection he with e1 e2 e3
      subst e1; subst e3
      have hpt := Lib.hid (armsT_take hlt)
      have hlen' := Nat.le_trans (T.length_le (armsT (l.take (k + 1)))) (Nat.le_trans (armsT_bulk _) (T.bulks_take_le l (k + 1)))
      obtain ⟨x, hxe⟩ : ∃ x, l[k] = x := ⟨_, rfl⟩
      rw [hxe] at hx hpt
      obtain ⟨k', s', ps', mn', mx', nu', a', c', hx0, rfl, hxx⟩ := hx.open'
      obtain ⟨d0, d1, d2, d3, d4, d5, d6, d7, d8⟩ := (hc.fr (((Fr.refl nob w).alloc _).trans' FR.out) (fun x => x)).nine
      rw [hpt.out, List.length_append] at hlen'
      have HX0 := Lib.hid hx; have HXS := Lib.hid hxx; clear hx hxx e2 hc hxe
      by_cases k3 : k' = 3
      · have hpe : x.armT = ps' := by rw [hx0]; simp [T.armT, T.kind, T.parts, k3]
        rw [hpe] at hpt hlen'
        have hlen : (armsT (l.take k)).length + ps'.length ≤ 3000000 := by omega
        subst k3
        clear hpe hlen'
        go_wp2_with (at_builtin; refine wpList_append_t (S := SRb w) rfl (.tmp 16) (.tmp 21) rfl (armsT (l.take k)) ps' _ _ g (by rfl) (HO.out.on (Fr.refl _ _)) (by rfl) (late_ST HXS.out (((Fr.refl nob w).alloc _).trans' FR.out) HG.out) (fun k hk => by unfold SRb at hk; omega) hlen ?_; intro v' w3 g' ho3 hf3 hg3; obtain ⟨av', cv', he3⟩ := ho3.shape; simp only [List.length_append, List.length_singleton] at he3; subst he3; have HO3 := Lib.hid ho3; have HF3 := Lib.hid hf3; have HG3 := Lib.hid hg3; clear ho3 hf3 hg3)
        go_roundw
        case rel => exact ⟨k + 1, g', by go_num, by omega, by rw [hpt.out]; exact HO3.out, FR.out.trans HF3.out (fun i hi x => by have := HG.out i x; simp at hi; omega), fun j hj => by
            rcases HG3.out j hj with h | h
            · exact HG.out j h
            · first | omega | (simp only [World.size_alloc] at h; omega)⟩
        case measure => simp [intOf]; omega
      have k3' : (k' == 3) = false := by simpa using k3
      have hpe : x.armT = [x] := by rw [hx0]; simp [T.armT, T.kind, k3]
      rw [hpe] at hpt hlen'
      have hlen : (armsT (l.take k)).length + [x].length ≤ 3000000 := by omega
      clear hpe hlen' hx0 k3
      go_wp2_with (at_builtin; refine wpList_append_t (S := SRb w) rfl (.tmp 23) (.tmp 28) rfl (armsT (l.take k)) [x] _ _ g (by rfl) (HO.out.on ((Fr.refl _ _).alloc _)) (by rfl) (ST.one (late_RT HX0.out (((Fr.refl nob w).alloc _).trans' FR.out) HG.out) (fun k hk => by rcases hk with hk | hk; (unfold SRb at hk; omega); exact HO.out.lt k hk) _ rfl) (fun k hk => by unfold SRb at hk; simp; omega) hlen ?_; intro v' w3 g' ho3 hf3 hg3; obtain ⟨av', cv', he3⟩ := ho3.shape; simp only [List.length_append, List.length_singleton] at he3; subst he3; have HO3 := Lib.hid ho3; have HF3 := Lib.hid hf3; have HG3 := Lib.hid hg3; clear ho3 hf3 hg3)
      go_roundw
      case rel => exact ⟨k + 1, g', by go_num, by omega, by rw [hpt.out]; exact HO3.out, (FR.out.alloc _).trans HF3.out (fun i hi x => by have := HG.out i x; simp at hi; omega), fun j hj => by
          rcases HG3.out j hj with h | h
          · exact HG.out j h
          · first | omega | (simp only [World.size_alloc] at h; omega)⟩
      case measure => simp [intOf]; omega

    · obtain rfl : k = l.length := by omega
      have hT := List.take_of_length_le (l := l) (Nat.le_refl _)
      have hO := HO.out
      rw [hT] at hO ⊢
      have HST := Lib.hid hO.st
      have hr := FR.out.heap (heap_alloc_new _ _) (fun x => x)
      obtain ⟨z0, z1, z2, z3, z4, z5, z6, z7, z8⟩ := C9.of hr
      obtain ⟨q0, q1, q2, q3, q4, q5, q6, q7, q8⟩ := there9 hr
      have HR := Lib.hid hr
      have FW := Lib.hid (((Fr.refl nob w).alloc _).trans' FR.out)
      obtain ⟨ps, hps⟩ : ∃ ps, armsT l = ps := ⟨_, rfl⟩
      rw [hps] at HST hpl ⊢
      have HJ := Lib.hid (show chooseT l = onlyT 3 ps by unfold chooseT; rw [hps])
      clear hT hO hr HO hps
      match ps with
      | [] =>
        go_wp2
        (try simp only [Exit.inBlock, Exit.then])
        refine bodyPost_ret (results_T (k := 0) (s := S4.zero) (v := .slice none 0 0) (mn := 0) (mx := 0) (nu := 0) rfl rfl (setNine_heap HR.out _ _ _ _ _ _ _ _ _)) rfl ⟨_, rfl, ?_, setNine_fr FW.out (Nat.le_refl _) _ _ _ _ _ _ _ _ _⟩
        rw [HJ.out]
        exact RT_mk.2 ⟨_, rfl, .inl ⟨⟨none, 0, rfl⟩, rfl⟩⟩
      | [x] =>
        obtain ⟨q, off, cap, cx, he, hx, hc, hgs⟩ := HST.out.get (k := 0) (by simp)
        injection he with e1 e2 e3
        subst e1; subst e3
        have hx' : RT (SRb w) wr x cx := hx
        obtain ⟨k', s', ps', mn', mx', nu', a', c', hx0, rfl, hxx⟩ := hx'.open'
        simp only [Nat.zero_mul, Nat.add_zero] at hc
        obtain ⟨d0, d1, d2, d3, d4, d5, d6, d7, d8⟩ := hc.nine
        have HX := Lib.hid hx'; clear hx hx' hxx hc e2 hx0
        simp only [List.length_cons, List.length_nil, Nat.zero_add]
        go_wp2
        (try simp only [Exit.inBlock, Exit.then])
        refine bodyPost_ret (results_T (k := k') (s := s') (v := .slice a' ps'.length c') (mn := mn') (mx := mx') (nu := nu') rfl rfl (setNine_heap HR.out _ _ _ _ _ _ _ _ _)) rfl ⟨_, rfl, ?_, setNine_fr FW.out (Nat.le_refl _) _ _ _ _ _ _ _ _ _⟩
        rw [HJ.out]
        exact RT.keep (setNine_one _ _ _ _ _ _ _ _ _) (fun k hk x => x) (fun _ _ x => x.elim) _ _ HX.out
      | x :: y :: r =>
        have hpl2 := hpl.out
        obtain ⟨n, hn⟩ : ∃ n, (x :: y :: r).length = n := ⟨_, rfl⟩
        have hn0 : ¬ (n : Int) = 0 := by rw [← hn]; simp; omega
        have hn1 : ¬ (n : Int) = 1 := by rw [← hn]; simp; omega
        have HN := Lib.hid hn
        rw [hn] at hpl2 ⊢
        clear hn
        go_wp2
        (try simp only [Exit.inBlock, Exit.then])
        refine bodyPost_ret (results_T (k := 3) (s := S4.zero) (v := .slice av n cv) (mn := 0) (mx := 0) (nu := 0) rfl rfl (setNine_heap HR.out _ _ _ _ _ _ _ _ _)) rfl ⟨_, rfl, ?_, setNine_fr FW.out (Nat.le_refl _) _ _ _ _ _ _ _ _ _⟩
        rw [HJ.out]
        refine RT_mk.2 ⟨_, rfl, ?_⟩
        have hs := HST.out
        rw [HN.out] at hs
        exact hs.keep (setNine_one _ _ _ _ _ _ _ _ _) (fun k hk x => x) (fun _ _ x => x.elim)

end Go.Proofs.YtpcpmjaphjkphaaDoor
