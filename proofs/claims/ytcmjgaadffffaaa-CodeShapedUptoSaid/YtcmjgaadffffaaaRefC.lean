/-
  Walks over the document's nodes: Of, Kids.
-/
import Derived.Test.YtcmjgaadffffaaaRefB
namespace Go.Proofs.Ytcmjgaadffffaaa
open Go.RowKit

/-- The nine cells of a node. -/
def nine (k : Int) (s : S4) (v : Value) (mn mx nu : Int) : List Value := [.int .i64 k, .int .u64 s.a, .int .u64 s.b, .int .u64 s.c, .int .u64 s.d, v, .int .i64 mn, .int .i64 mx, .int .i64 nu]

theorem cell9 {w : World} {b : Nat} {k : Int} {s : S4} {v : Value} {mn mx nu : Int} {T : TypeId} (h : w.heap[b]? = some (.cells (nine k s v mn mx nu).toArray T (0, 0))) : At w b 0 (nine k s v mn mx nu) := by
  intro j u hj
  exact cell_at h (by simpa using hj)

/-- A node that is handed back out of a variable. -/
theorem results_T {fn : Func} {p : Tmp} (h : fn.results = #[.cell p 27]) {tmps : Array Value} {r : Nat} (ht : tmps.getD p undef = .pointer (some ⟨r, 0, none⟩)) {W : World} {k : Int} {s : S4} {v : Value} {mn mx nu : Int}
    (hb : W.heap[r]? = some (.cells (nine k s v mn mx nu).toArray 27 (0, 0))) : (results fn tmps).run Try.prog W = .ok (.agg (nine k s v mn mx nu).toArray) W := by
  obtain ⟨c0, c1, c2, c3, c4, c5, c6, c7, c8⟩ := (cell9 hb).nine
  simp only [Nat.zero_add] at c1 c2 c3 c4 c5 c6 c7 c8
  have ht' : tmps[p]?.getD undef = .pointer (some ⟨r, 0, none⟩) := by rw [← ht]; simp
  simp only [results, h]
  simp [ht', go_sem, c0, c1, c2, c3, c4, c5, c6, c7, c8, nine]


set_option maxRecDepth 100000 in
set_option maxHeartbeats 1000000 in
theorem of_T (t : T) (cs : List Value) (w : World) (h : RT nob w t cs) :
    Calls Try.prog 26 #[.agg cs.toArray] w fun e w' => ∃ cs', e = .returned (.agg cs'.toArray) ∧ RT nob w' t.of cs' ∧ Fr nob w w' := by
  obtain ⟨kd, s, ps, mn, mx, nu, a, c, rfl, rfl, hs⟩ := h.open'
  have H := Lib.hid hs; clear h hs
  cases ps with
  | nil =>
    have H0 := H.out
    go_enter Try.func26, Try.ntmps26
    go_wp2
    (try simp only [Exit.inBlock, Exit.then])
    refine bodyPost_ret (results_T (k := 0) (s := S4.zero) (v := .slice none 0 0) (mn := 0) (mx := 0) (nu := 0) rfl rfl (heap_alloc_new' _ _ _ (by simp))) rfl ⟨_, rfl, ?_, ((Fr.refl _ _).alloc _).alloc _⟩
    show RT nob _ T.zero _
    unfold T.zero
    rw [RT_mk]
    exact ⟨_, rfl, .inl ⟨⟨none, 0, rfl⟩, rfl⟩⟩
  | cons x r =>
    obtain ⟨g, off, cap, cx, he, hx, hc, hgs⟩ := H.out.get (k := 0) (by simp)
    injection he with e1 e2 e3
    subst e1; subst e3
    have hx' : RT nob w x cx := hx
    obtain ⟨k', s', ps', mn', mx', nu', a', c', hxe, rfl, hxs⟩ := hx'.open'
    simp only [Nat.zero_mul, Nat.add_zero] at hc
    obtain ⟨d0, d1, d2, d3, d4, d5, d6, d7, d8⟩ := hc.nine
    have HX := Lib.hid hx'
    clear hx hx' hxs hc e2
    obtain ⟨len, hlen⟩ : ∃ len, (x :: r).length = len := ⟨_, rfl⟩
    have hl0 : 0 < len := by rw [← hlen]; simp
    rw [hlen]
    clear hlen
    go_enter Try.func26, Try.ntmps26
    go_wp2
    (try simp only [Exit.inBlock, Exit.then])
    refine bodyPost_ret (results_T (k := k') (s := s') (v := .slice a' ps'.length c') (mn := mn') (mx := mx') (nu := nu') rfl rfl (heap_alloc_new' _ _ _ (by simp))) rfl ⟨_, rfl, ?_, ((Fr.refl _ _).alloc _).alloc _⟩
    exact HX.out.on (((Fr.refl _ _).alloc _).alloc _)

/-- One node in a block of its own. -/
theorem ST.one {S : Nat → Prop} {w : World} {t : T} {cs : List Value} {b : Nat} (h : RT S w t cs) (hS : ∀ k, S k → k < w.heap.size) (e : TypeId) (hb : b = w.heap.size) : ST S (w.alloc (.cells cs.toArray e)) [t] (.slice (some ⟨b, 0, none⟩) 1 1) := by
  subst hb
  refine .inr ⟨_, _, _, rfl, by simp, ?_⟩
  rw [RTs]
  exact ⟨fun x => by have := hS _ x; omega, by simp, ⟨cs, h.on ((Fr.refl _ _).alloc _), by have := At.new w cs.toArray e rfl; simpa using this⟩, by rw [RTs]; trivial⟩

set_option maxRecDepth 100000 in
set_option maxHeartbeats 1000000 in
theorem kids_T (t : T) (cs : List Value) (w : World) (h : RT nob w t cs) :
    Calls Try.prog 19 #[.agg cs.toArray] w fun e w' => ∃ u, e = .returned u ∧ ST nob w' t.kids u ∧ Fr nob w w' := by
  obtain ⟨kd, s, ps, mn, mx, nu, a, c, ht, rfl, hs⟩ := h.open'
  have H := Lib.hid hs; have HT := Lib.hid h; clear h hs
  by_cases h2 : kd = 2
  · have hk : t.kids = ps := by rw [ht]; simp [T.kids, T.kind, T.parts, h2]
    rw [hk]; subst h2
    clear ht hk
    go_enter Try.func19, Try.ntmps19
    go_wp2
    go_ret
    exact ⟨_, rfl, H.out.on ((Fr.refl _ _).alloc _), (Fr.refl _ _).alloc _⟩
  by_cases h3 : kd = 3
  · have hk : t.kids = ps := by rw [ht]; simp [T.kids, T.kind, T.parts, h3]
    rw [hk]; subst h3
    clear ht hk
    go_enter Try.func19, Try.ntmps19
    go_wp2
    go_ret
    exact ⟨_, rfl, H.out.on ((Fr.refl _ _).alloc _), (Fr.refl _ _).alloc _⟩
  by_cases h45 : kd = 4 ∨ kd = 5
  · have hk : t.kids = [t.of] := by rw [ht]; simp [T.kids, T.kind, h2, h3, h45]
    rw [hk]
    clear ht hk
    rcases h45 with rfl | rfl
    all_goals
      go_enter Try.func19, Try.ntmps19
      go_wp2_with fail
      refine (of_T t _ _ (HT.out.on ((Fr.refl _ _).alloc _))).mono ?_
      rintro e w1 ⟨cs', rfl, hr, f1⟩
      obtain ⟨k', s', ps', mn', mx', nu', a', c', hxe, rfl, hxs⟩ := hr.open'
      have HR := Lib.hid hr; have F1 := Lib.hid f1; clear hr f1 hxs hxe
      go_wp2
      go_ret
      exact ⟨_, rfl, ST.one HR.out (fun _ x => x.elim) _ rfl, (((Fr.refl _ _).alloc _).trans' F1.out).alloc _⟩
  · have hk : t.kids = [] := by rw [ht]; simp [T.kids, T.kind, h2, h3, h45]
    rw [hk]
    have h4 : kd ≠ 4 := fun e => h45 (.inl e)
    have h5 : kd ≠ 5 := fun e => h45 (.inr e)
    clear ht hk h45
    go_enter Try.func19, Try.ntmps19
    go_wp2
    go_ret
    exact ⟨_, rfl, .inl ⟨⟨none, 0, rfl⟩, rfl⟩, (Fr.refl _ _).alloc _⟩

end Go.Proofs.Ytcmjgaadffffaaa
