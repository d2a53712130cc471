/-
  The spans of a set: plain; walks of both sides.
-/
import Derived.Test.YtmoiiidfhkfdgaaDoorSetLaw
import Derived.Test.YtmoiiidfhkfdgaaDoorQuietTail
import Derived.Laws.OwnMore
namespace Go.Proofs.YtmoiiidfhkfdgaaDoor
open Go.RowKit

def opn (p : Nat → Bool) : Nat → Bool
  | 0 => false
  | j + 1 => p j
def ext (l : List (Nat × Nat)) (k : Nat) : List (Nat × Nat) := match l.getLast? with
  | some x => l.dropLast ++ [(x.1, k)]
  | none => l
/-- The longest runs below k. -/
def spl (p : Nat → Bool) : Nat → List (Nat × Nat)
  | 0 => []
  | k + 1 => if p k then (if opn p k then ext (spl p k) k else spl p k ++ [(k, k)]) else spl p k

theorem ext_snoc (l : List (Nat × Nat)) (a b k : Nat) : ext (l ++ [(a, b)]) k = l ++ [(a, k)] := by simp [ext]
theorem spl_open {p : Nat → Bool} {k : Nat} (h : opn p k = true) : ∃ l0 a, spl p k = l0 ++ [(a, k - 1)] := by
  induction k with
  | zero => cases h
  | succ j ih =>
    have hp : p j = true := h
    rw [spl, if_pos hp]
    split
    · next ho =>
      obtain ⟨l0, a, e⟩ := ih ho
      exact ⟨l0, a, by rw [e, ext_snoc]; rfl⟩
    · exact ⟨_, j, rfl⟩
theorem spl_no {p : Nat → Bool} {k : Nat} (h : p k = false) : spl p (k + 1) = spl p k := by rw [spl, h]; rfl
theorem spl_new {p : Nat → Bool} {k : Nat} (h : p k = true) (ho : opn p k = false) : spl p (k + 1) = spl p k ++ [(k, k)] := by rw [spl, h, ho]; rfl
theorem spl_ext {p : Nat → Bool} {k : Nat} (h : p k = true) (ho : opn p k = true) {l0 : List (Nat × Nat)} {a : Nat} (e : spl p k = l0 ++ [(a, k - 1)]) : spl p (k + 1) = l0 ++ [(a, k)] := by
  rw [spl, h, ho, e]; exact ext_snoc _ _ _ _

theorem spl_len (p : Nat → Bool) : ∀ k, (spl p k).length ≤ k
  | 0 => Nat.le_refl _
  | k + 1 => by
    have ih := spl_len p k
    cases hp : p k with
    | false => rw [spl_no hp]; omega
    | true =>
      cases ho : opn p k with
      | false => rw [spl_new hp ho, List.length_append]; simp; omega
      | true =>
        obtain ⟨l0, a, e0⟩ := spl_open ho
        rw [spl_ext hp ho e0]
        rw [e0] at ih
        simp at ih ⊢; omega
structure SpGood (p : Nat → Bool) (k : Nat) (l : List (Nat × Nat)) : Prop where
  in_ : ∀ x ∈ l, x.1 ≤ x.2 ∧ x.2 < k
  gap : l.Pairwise fun x y => x.2 + 1 < y.1
  cov : ∀ e, e < k → (p e = true ↔ ∃ x ∈ l, x.1 ≤ e ∧ e ≤ x.2)
  far : opn p k = false → ∀ x ∈ l, x.2 + 1 < k

theorem spl_good (p : Nat → Bool) : ∀ k, SpGood p k (spl p k)
  | 0 => ⟨fun x h => by simp [spl] at h, by simp [spl], fun e h => by omega, fun _ x h => by simp [spl] at h⟩
  | k + 1 => by
    have ih := spl_good p k
    cases hp : p k with
    | false =>
      rw [spl_no hp]
      refine ⟨fun x hx => ⟨(ih.in_ x hx).1, by have := (ih.in_ x hx).2; omega⟩, ih.gap, fun e he => ?_, fun _ x hx => by have := (ih.in_ x hx).2; omega⟩
      by_cases h : e < k
      · exact ih.cov e h
      · obtain rfl : e = k := by omega
        rw [hp]
        refine ⟨fun h => (by cases h), fun ⟨x, hx, h1, h2⟩ => ?_⟩
        have := (ih.in_ x hx).2; omega
    | true =>
      cases ho : opn p k with
      | false =>
        rw [spl_new hp ho]
        refine ⟨fun x hx => ?_, ?_, fun e he => ?_, fun h => ?_⟩
        · rcases List.mem_append.1 hx with hx | hx
          · exact ⟨(ih.in_ x hx).1, by have := (ih.in_ x hx).2; omega⟩
          · simp at hx; subst hx; exact ⟨Nat.le_refl _, Nat.lt_succ_self _⟩
        · rw [List.pairwise_append]
          refine ⟨ih.gap, by simp, fun x hx y hy => ?_⟩
          simp at hy; subst hy; exact ih.far ho x hx
        · by_cases h : e < k
          · rw [ih.cov e h]
            refine ⟨fun ⟨x, hx, h1⟩ => ⟨x, List.mem_append.2 (.inl hx), h1⟩, fun ⟨x, hx, h1, h2⟩ => ?_⟩
            rcases List.mem_append.1 hx with hx | hx
            · exact ⟨x, hx, h1, h2⟩
            · simp at hx; subst hx; simp at h1; omega
          · obtain rfl : e = k := by omega
            exact ⟨fun _ => ⟨(e, e), by simp, Nat.le_refl _, Nat.le_refl _⟩, fun _ => hp⟩
        · have h' : p k = false := h
          rw [hp] at h'; cases h'
      | true =>
        obtain ⟨l0, a, e0⟩ := spl_open ho
        rw [spl_ext hp ho e0]
        rw [e0] at ih
        have hk : 0 < k := by cases k with | zero => cases ho | succ j => omega
        have ha := ih.in_ (a, k - 1) (by simp)
        simp only at ha
        refine ⟨fun x hx => ?_, ?_, fun e he => ?_, fun h => ?_⟩
        · rcases List.mem_append.1 hx with hx | hx
          · have := ih.in_ x (List.mem_append.2 (.inl hx)); omega
          · simp at hx; subst hx; simp only; omega
        · have hg := ih.gap
          rw [List.pairwise_append] at hg ⊢
          refine ⟨hg.1, by simp, fun x hx y hy => ?_⟩
          simp at hy; subst hy
          exact hg.2.2 x hx (a, k - 1) (by simp)
        · by_cases h : e < k
          · rw [ih.cov e h]
            constructor
            · rintro ⟨x, hx, h1, h2⟩
              rcases List.mem_append.1 hx with hx | hx
              · exact ⟨x, List.mem_append.2 (.inl hx), h1, h2⟩
              · simp at hx; subst hx; exact ⟨(a, k), by simp, h1, by simp only; omega⟩
            · rintro ⟨x, hx, h1, h2⟩
              rcases List.mem_append.1 hx with hx | hx
              · exact ⟨x, List.mem_append.2 (.inl hx), h1, h2⟩
              · simp at hx; subst hx; exact ⟨(a, k - 1), by simp, h1, by simp only; omega⟩
          · obtain rfl : e = k := by omega
            exact ⟨fun _ => ⟨(a, e), by simp, by simp only; omega, Nat.le_refl _⟩, fun _ => hp⟩
        · have h' : p k = false := h
          rw [hp] at h'; cases h'

/-- Spans as cells. -/
def spC (l : List (Nat × Nat)) : List Value := l.flatMap fun x => [.int .u8 (x.1 : Int), .int .u8 (x.2 : Int)]
theorem spC_append (a b : List (Nat × Nat)) : spC (a ++ b) = spC a ++ spC b := by simp [spC]
theorem spC_length (l : List (Nat × Nat)) : (spC l).length = 2 * l.length := by
  induction l with
  | nil => rfl
  | cons x l ih => have : spC (x :: l) = [.int .u8 (x.1 : Int), .int .u8 (x.2 : Int)] ++ spC l := rfl
                   rw [this, List.length_append, ih, List.length_cons]; simp; omega
theorem spC_set (l : List (Nat × Nat)) (a b c : Nat) : (spC (l ++ [(a, b)])).set (l.length * 2 + 1) (.int .u8 (c : Int)) = spC (l ++ [(a, c)]) := by
  rw [spC_append, spC_append, List.set_append]
  rw [if_neg (by rw [spC_length]; omega), spC_length, show l.length * 2 + 1 - 2 * l.length = 1 by omega]
  rfl
theorem spC_at (l : List (Nat × Nat)) : ∀ (i : Nat) (h : i < l.length), (spC l)[i * 2]? = some (.int .u8 (l[i].1 : Int)) ∧ (spC l)[i * 2 + 1]? = some (.int .u8 (l[i].2 : Int)) := by
  induction l with
  | nil => intro i h; simp at h
  | cons x l ih =>
    intro i h
    have e : spC (x :: l) = .int .u8 (x.1 : Int) :: .int .u8 (x.2 : Int) :: spC l := rfl
    rw [e]
    cases i with
    | zero => exact ⟨rfl, rfl⟩
    | succ j =>
      have := ih j (by simpa using h)
      rw [show (j + 1) * 2 = j * 2 + 1 + 1 by omega]
      simpa using this

theorem info_pair : (Tryd.prog.info? 63).map (fun i => (i.zero, i.size, i.bytes)) = some (some (.agg #[.int .u8 0, .int .u8 0]), 2, 2) := by kernel_rfl

def OwnP (w : World) (v : Value) (l : List (Nat × Nat)) : Prop := w.ownsRow 0 63 2 v l.length (spC l)
theorem OwnP.slc {w : World} {v : Value} {l : List (Nat × Nat)} (h : OwnP w v l) (h0 : l ≠ []) : ∃ g cap, v = .slice (some ⟨g, 0, none⟩) l.length cap ∧ g < w.heap.size := by
  rcases h.2 with ⟨_, hz⟩ | ⟨g, cap, cur, hv, _, hh, _⟩
  · exact absurd (List.length_eq_zero_iff.1 hz) h0
  · exact ⟨g, cap, hv, lt_heap hh⟩
theorem OwnP.on {w w' : World} {v : Value} {l : List (Nat × Nat)} (h : OwnP w v l) {S : Nat → Prop} (f : Fr S w w') (hn : ∀ k, v.ownBlock = some k → ¬ S k) : OwnP w' v l := ownsRow_fr h f hn

def SpV (s : S4) (w : World) (e : Ending) (w' : World) : Prop := ∃ v, e = .returned v ∧ OwnP w' v (spl s.has 256) ∧ Fr nob w w' ∧ ∀ j, v.ownBlock = some j → w.heap.size ≤ j

set_option maxRecDepth 100000 in
set_option maxHeartbeats 2000000 in
theorem spansR_any (s : S4) (w : World) (hs : s.fit) :
    Calls Tryd.prog 31 #[.agg #[.int .u64 s.a, .int .u64 s.b, .int .u64 s.c, .int .u64 s.d]] w (SpV s w) := by
  obtain ⟨i0, hi, hz0, hz1, hz2⟩ := info_parts info_pair
  obtain ⟨w0, hw0⟩ : ∃ w0, w0 = w.alloc (.cells #[.int .u64 s.a, .int .u64 s.b, .int .u64 s.c, .int .u64 s.d] 29) := ⟨_, rfl⟩
  have hb0 : w0.heap[w.heap.size]? = some (.cells #[.int .u64 s.a, .int .u64 s.b, .int .u64 s.c, .int .u64 s.d] 29 (0, 0)) := by rw [hw0]; exact newAt _ _
  have f0 : Fr nob w w0 := by rw [hw0]; exact (Fr.refl _ _).alloc _
  have HS := Lib.hid hs; have HW := Lib.hid hw0
  have HSZ := Lib.hid (show w0.heap.size = w.heap.size + 1 by rw [hw0]; simp)
  clear hs hw0
  go_enter Tryd.func31, Tryd.ntmps31
  go_wp2_with fail
  rw [← HW.out]
  have r0 := rule4 hb0
  have HB0 := Lib.hid hb0; have F0 := Lib.hid f0; clear hb0 f0
  go_loopw [3, 5] (fun v i wr => ∃ k : Nat, i = .int .i64 k ∧ k ≤ 256 ∧ OwnP wr v (spl s.has k) ∧ (∀ j, v.ownBlock = some j → w.heap.size < j) ∧ Fr nob w0 wr) (fun _ i _ => 256 - (intOf i).toNat)
  case atStart => exact ⟨0, rfl, by omega, World.ownsRow_nil _ _ _ _, fun j h => (by cases h), Fr.refl _ _⟩
  case round =>
    obtain ⟨k, rfl, hk, hown, hblk, fr⟩ := hrel
    have HO := Lib.hid hown; have HBK := Lib.hid hblk; clear hown hblk
    by_cases hlt : k < 256
    · have wk : IntKind.u8.wrap (k : Int) = (k : Int) := IntWalk.u8_in _ (by omega)
      cases hp : s.has k with
      | false =>
        have HP := Lib.hid hp
        have HN := Lib.hid (spl_no hp); have HOP := Lib.hid (show opn s.has (k + 1) = false from hp)
        clear hp
        go_wp2_with fail
        refine (hasR_any s k _ HS.out hlt).mono ?_
        rw [HP.out]
        rintro e w2 ⟨rfl, f2⟩
        have HO2 := Lib.hid (HO.out.on f2 (fun _ _ x => x)); have F2 := Lib.hid (fr.trans' f2)
        clear fr f2
        go_wp2
        go_roundw
        case rel => exact ⟨k + 1, by go_num, by omega, by rw [HN.out]; exact HO2.out, HBK.out, F2.out⟩
        case measure => simp [intOf]; omega
      | true =>
        have HP := Lib.hid hp
        cases ho : opn s.has k with
        | false =>
          have HN := Lib.hid (spl_new hp ho); have HOP := Lib.hid (show opn s.has (k + 1) = true from hp)
          have hl : (spl s.has k).length ≤ 256 := by have := spl_len s.has k; omega
          have HO1 := Lib.hid ho
          clear hp ho
          have second : ∀ w2 : World, Fr nob wr w2 → Fr nob w0 w2 ∧ w2.ownsRow 0 63 2 u3 (spl s.has k).length (spC (spl s.has k)) := fun w2 f2 => ⟨fr.trans' f2, HO.out.on f2 (fun _ _ x => x)⟩
          have SE := Lib.hid second
          clear second
          cases k with
          | zero =>
            go_wp2_with fail
            refine (hasR_any s 0 _ HS.out hlt).mono ?_
            rw [HP.out]
            rintro e w2 ⟨rfl, f2⟩
            have F2 := Lib.hid (SE.out _ f2).1
            have hown := (SE.out _ f2).2
            clear f2
            go_wp2_with (at_builtin; refine wpList_append_g rfl _ _ 64 rfl 63 i0 (.agg #[.int .u8 0, .int .u8 0]) 2 2 Tryd.underlying64 hi hz0 hz1 hz2 rfl (by decide) _ _ _ rfl (hown.alloc _) ⟨w2.heap.size, 0, none⟩ 1 1 [.int .u8 0, .int .u8 0] rfl rfl ?c1 ?c2 ?c3 ?c4 ?_)
            case c1 =>
              intro j u hj
              match j, hj with
              | 0, hj => simp at hj; subst hj; simp [Addr.add]
              | 1, hj => simp at hj; subst hj; simp [Addr.add]
            case c2 => intro u hu; simp at hu; subst hu; rfl
            case c3 => unfold maxLen; omega
            case c4 => omega
            intro v' w3 hown' hap
            have hf3 : Fr nob w0 w3 := (F2.out.alloc _).trans hap.fr (fun i hi e => by have := HBK.out _ e; have := HSZ.out; omega)
            have hk3 : ∀ j, v'.ownBlock = some j → w.heap.size < j := fun j hj => by
              rcases hap.old j hj with h1 | h1
              · exact HBK.out j h1
              · simp at h1; have := F2.out.size; have := lt_heap HB0.out; omega
            have HF3 := Lib.hid hf3; have HK3 := Lib.hid hk3; have HO3 := Lib.hid hown'
            clear hf3 hk3 hown' hown hap
            go_wp2
            go_roundw
            case rel =>
              refine ⟨0 + 1, by go_num, by omega, ?_, HK3.out, HF3.out⟩
              rw [HN.out]; unfold OwnP; rw [List.length_append, spC_append]; exact HO3.out
            case measure => simp [intOf]
          | succ j =>
            have hj : s.has j = false := HO1.out
            have wj : IntKind.u8.wrap (j : Int) = (j : Int) := IntWalk.u8_in _ (by omega)
            have wj' : IntKind.u8.wrap ((j : Int) + 1) = (j : Int) + 1 := IntWalk.u8_in _ (by omega)
            have HJ := Lib.hid hj; clear hj
            go_wp2_with fail
            refine (hasR_any s (j + 1) _ HS.out hlt).mono ?_
            rw [HP.out]
            rintro e w2 ⟨rfl, f2⟩
            have fr2 := fr.trans' f2
            go_wp2_with fail
            refine (hasR_any s j _ HS.out (by omega)).mono ?_
            rw [HJ.out]
            rintro e w3 ⟨rfl, f3⟩
            have F2 := Lib.hid (SE.out _ (f2.trans' f3)).1
            have hown := (SE.out _ (f2.trans' f3)).2
            clear f2 f3
            go_wp2_with (at_builtin; refine wpList_append_g rfl _ _ 64 rfl 63 i0 (.agg #[.int .u8 0, .int .u8 0]) 2 2 Tryd.underlying64 hi hz0 hz1 hz2 rfl (by decide) _ _ _ rfl (hown.alloc _) ⟨w3.heap.size, 0, none⟩ 1 1 [.int .u8 ((j : Int) + 1), .int .u8 ((j : Int) + 1)] rfl rfl ?e1 ?e2 ?e3 ?e4 ?_)
            case e1 =>
              intro j u hj
              match j, hj with
              | 0, hj => simp at hj; subst hj; simp [Addr.add]
              | 1, hj => simp at hj; subst hj; simp [Addr.add]
            case e2 => intro u hu; simp at hu; subst hu; rfl
            case e3 => unfold maxLen; omega
            case e4 => omega
            intro v' w4 hown' hap
            have hf3 : Fr nob w0 w4 := (F2.out.alloc _).trans hap.fr (fun i hi e => by have := HBK.out _ e; have := HSZ.out; omega)
            have hk3 : ∀ j, v'.ownBlock = some j → w.heap.size < j := fun j hj => by
              rcases hap.old j hj with h1 | h1
              · exact HBK.out j h1
              · simp at h1; have := F2.out.size; have := lt_heap HB0.out; omega
            have HF3 := Lib.hid hf3; have HK3 := Lib.hid hk3; have HO3 := Lib.hid hown'
            clear hf3 hk3 hown' hown hap
            go_wp2
            go_roundw
            case rel =>
              refine ⟨j + 1 + 1, by go_num, by omega, ?_, HK3.out, HF3.out⟩
              rw [HN.out]; unfold OwnP; rw [List.length_append, spC_append]; exact HO3.out
            case measure => simp [intOf]; omega
        | true =>
          obtain ⟨l0, a, e0⟩ := spl_open ho
          have HN := Lib.hid (spl_ext hp ho e0); have HOP := Lib.hid (show opn s.has (k + 1) = true from hp)
          have hl : (spl s.has k).length ≤ 256 := by have := spl_len s.has k; omega
          have hown0 := HO.out
          rw [e0] at hown0 hl
          obtain ⟨g, cap, hv, hg⟩ := hown0.slc (by simp)
          have hgb := HBK.out g (by rw [hv]; rfl)
          subst hv
          have hle : (l0 ++ [(a, k - 1)]).length = l0.length + 1 := by simp
          rw [hle] at hl hown0 ⊢
          obtain ⟨j, rfl⟩ : ∃ j, k = j + 1 := by cases k with | zero => cases ho | succ j => exact ⟨j, rfl⟩
          have hj : s.has j = true := ho
          have wj : IntKind.u8.wrap (j : Int) = (j : Int) := IntWalk.u8_in _ (by omega)
          have wj' : IntKind.u8.wrap ((j : Int) + 1) = (j : Int) + 1 := IntWalk.u8_in _ (by omega)
          have HJ := Lib.hid hj
          clear hp ho hj
          go_wp2_with fail
          refine (hasR_any s (j + 1) _ HS.out hlt).mono ?_
          rw [HP.out]
          rintro e w1 ⟨rfl, f1⟩
          have fr2 := fr.trans' f1
          go_wp2_with fail
          refine (hasR_any s j _ HS.out (by omega)).mono ?_
          rw [HJ.out]
          rintro e w2 ⟨rfl, f2'⟩
          have f2 := f1.trans' f2'
          clear f1 f2'
          have hown : w2.ownsRow 0 63 2 (.slice (some ⟨g, 0, none⟩) (l0.length + 1) cap) (l0.length + 1) (spC (l0 ++ [(a, j + 1 - 1)])) := by have := hown0.on f2 (fun _ _ x => x); unfold OwnP at this; rwa [hle] at this
          have c1 := hown.cellAt (l0.length * 2 + 1) (by omega)
          have c2 := hown.frozenAt (l0.length * 2 + 1)
          have c3 := (spC_at (l0 ++ [(a, j + 1 - 1)]) l0.length (by simp)).2
          rw [c3] at c1
          have F2 := Lib.hid (fr.trans' f2)
          have HOW := Lib.hid hown
          clear fr f2 hown hown0 c3 hle
          go_wp2_with fail
          have hst := HOW.out.stored (l0.length * 2 + 1) (.int .u8 ((j + 1 : Nat) : Int))
          rw [spC_set] at hst
          have HST := Lib.hid hst.1
          clear hst c1 c2
          go_roundw
          case rel =>
            refine ⟨j + 1 + 1, by go_num, by omega, ?_, fun j hj => ?_, F2.out.setCell (p := ⟨g, l0.length * 2 + 1, none⟩) (fun h => by have := HSZ.out; simp only at h; omega) _⟩
            · rw [HN.out]; unfold OwnP; rw [List.length_append]; exact HST.out
            · obtain rfl : g = j := by injection hj
              exact hgb
          case measure => simp [intOf]; omega
    · obtain rfl : k = 256 := by omega
      go_wp2
      go_ret
      exact ⟨_, rfl, HO.out, F0.out.trans' fr, fun j hj => by have := HBK.out j hj; omega⟩


end Go.Proofs.YtmoiiidfhkfdgaaDoor
