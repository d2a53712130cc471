/-
  Merged texts of this claim: RefC, TreeL, BreR, BreQ, BreS, Door, DoorB, Claim, ClaimB.
-/
import Derived.Outline
import Derived.Defers
import Derived.Recover
import Derived.Laws.Pointers
import Derived.Test.YtpcpmjaphjkphaaDoorRows
import Derived.ProofKit
import Derived.LaidMore
import Derived.OpenShut
import Derived.Stop.Joined
import Derived.Lib.LaidTab
import Derived.Shelf.Vars
import Derived.ChangeSame
import Derived.ChangeOld
import Derived.Below
import Derived.Carry
import Derived.ShutString
import Derived.Test.YtpcpmjaphjkphaaDoorM01
import Derived.Test.YtpcpmjaphjkphaaDoorM03
import Derived.Test.YtpcpmjaphjkphaaDoorM04
import Derived.Test.YtpcpmjaphjkphaaDoorM08
import Derived.Test.YtpcpmjaphjkphaaDoorM10
import Derived.Test.YtpcpmjaphjkphaaDoorM12

/-
  Walks over the document's nodes: Of, Kids.
-/
namespace Go.Proofs.YtpcpmjaphjkphaaDoor
open Go.RowKit

/-- The nine cells of a node. -/
def nine (k : Int) (s : S4) (v : Value) (mn mx nu : Int) : List Value := [.int .i64 k, .int .u64 s.a, .int .u64 s.b, .int .u64 s.c, .int .u64 s.d, v, .int .i64 mn, .int .i64 mx, .int .i64 nu]

theorem cell9 {w : World} {b : Nat} {k : Int} {s : S4} {v : Value} {mn mx nu : Int} {T : TypeId} (h : w.heap[b]? = some (.cells (nine k s v mn mx nu).toArray T (0, 0))) : At w b 0 (nine k s v mn mx nu) := by
  intro j u hj
  exact cell_at h (by simpa using hj)

/-- A node that is handed back out of a variable. -/
theorem results_T {fn : Func} {p : Tmp} (h : fn.results = #[.cell p 51]) {tmps : Array Value} {r : Nat} (ht : tmps.getD p undef = .pointer (some ⟨r, 0, none⟩)) {W : World} {k : Int} {s : S4} {v : Value} {mn mx nu : Int}
    (hb : W.heap[r]? = some (.cells (nine k s v mn mx nu).toArray 51 (0, 0))) : (results fn tmps).run Tryd.prog W = .ok (.agg (nine k s v mn mx nu).toArray) W := by
  obtain ⟨c0, c1, c2, c3, c4, c5, c6, c7, c8⟩ := (cell9 hb).nine
  simp only [Nat.zero_add] at c1 c2 c3 c4 c5 c6 c7 c8
  have ht' : tmps[p]?.getD undef = .pointer (some ⟨r, 0, none⟩) := by rw [← ht]; simp
  simp only [results, h]
  simp [ht', go_sem, c0, c1, c2, c3, c4, c5, c6, c7, c8, nine]


set_option maxRecDepth 100000 in
set_option maxHeartbeats 1000000 in
theorem of_T (t : T) (cs : List Value) (w : World) (h : RT nob w t cs) :
    Calls Tryd.prog 71 #[.agg cs.toArray] w fun e w' => ∃ cs', e = .returned (.agg cs'.toArray) ∧ RT nob w' t.of cs' ∧ Fr nob w w' := by
  obtain ⟨kd, s, ps, mn, mx, nu, a, c, rfl, rfl, hs⟩ := h.open'
  have H := Lib.hid hs; clear h hs
  cases ps with
  | nil =>
    have H0 := H.out
    go_enter Tryd.func71, Tryd.ntmps71
    go_wp2
    (try simp only [Exit.inBlock, Exit.then])
    refine bodyPost_ret (results_T (k := 0) (s := S4.zero) (v := .slice none 0 0) (mn := 0) (mx := 0) (nu := 0) rfl rfl (heap_alloc_new' _ _ _ (by simp))) rfl ⟨_, rfl, ?_, ((Fr.refl _ _).alloc _).alloc _⟩
    show RT nob _ T.zero _
    unfold T.zero
    rw [RT_mk]
    exact ⟨_, rfl, .inl ⟨⟨none, 0, rfl⟩, rfl⟩⟩
  | cons x r =>
    obtain ⟨g, off, cap, cx, he, hx, hc, hgs⟩ := H.out.get (k := 0) (by simp)
    injection he with e1 e2 e3
    subst e1; subst e3
    have hx' : RT nob w x cx := hx
    obtain ⟨k', s', ps', mn', mx', nu', a', c', hxe, rfl, hxs⟩ := hx'.open'
    simp only [Nat.zero_mul, Nat.add_zero] at hc
    obtain ⟨d0, d1, d2, d3, d4, d5, d6, d7, d8⟩ := hc.nine
    have HX := Lib.hid hx'
    clear hx hx' hxs hc e2
    obtain ⟨len, hlen⟩ : ∃ len, (x :: r).length = len := ⟨_, rfl⟩
    have hl0 : 0 < len := by rw [← hlen]; simp
    rw [hlen]
    clear hlen
    go_enter Tryd.func71, Tryd.ntmps71
    go_wp2
    (try simp only [Exit.inBlock, Exit.then])
    refine bodyPost_ret (results_T (k := k') (s := s') (v := .slice a' ps'.length c') (mn := mn') (mx := mx') (nu := nu') rfl rfl (heap_alloc_new' _ _ _ (by simp))) rfl ⟨_, rfl, ?_, ((Fr.refl _ _).alloc _).alloc _⟩
    exact HX.out.on (((Fr.refl _ _).alloc _).alloc _)

/-- One node in a block of its own. -/
theorem ST.one {S : Nat → Prop} {w : World} {t : T} {cs : List Value} {b : Nat} (h : RT S w t cs) (hS : ∀ k, S k → k < w.heap.size) (e : TypeId) (hb : b = w.heap.size) : ST S (w.alloc (.cells cs.toArray e)) [t] (.slice (some ⟨b, 0, none⟩) 1 1) := by
  subst hb
  refine .inr ⟨_, _, _, rfl, by simp, ?_⟩
  rw [RTs]
  exact ⟨fun x => by have := hS _ x; omega, by simp, ⟨cs, h.on ((Fr.refl _ _).alloc _), by have := At.new w cs.toArray e rfl; simpa using this⟩, by rw [RTs]; trivial⟩

set_option maxRecDepth 100000 in
set_option maxHeartbeats 1000000 in
theorem kids_T (t : T) (cs : List Value) (w : World) (h : RT nob w t cs) :
    Calls Tryd.prog 42 #[.agg cs.toArray] w fun e w' => ∃ u, e = .returned u ∧ ST nob w' t.kids u ∧ Fr nob w w' := by
  obtain ⟨kd, s, ps, mn, mx, nu, a, c, ht, rfl, hs⟩ := h.open'
  have H := Lib.hid hs; have HT := Lib.hid h; clear h hs
  by_cases h2 : kd = 2
  · have hk : t.kids = ps := by rw [ht]; simp [T.kids, T.kind, T.parts, h2]
    rw [hk]; subst h2
    clear ht hk
    go_enter Tryd.func42, Tryd.ntmps42
    go_wp2
    go_ret
    exact ⟨_, rfl, H.out.on ((Fr.refl _ _).alloc _), (Fr.refl _ _).alloc _⟩
  by_cases h3 : kd = 3
  · have hk : t.kids = ps := by rw [ht]; simp [T.kids, T.kind, T.parts, h3]
    rw [hk]; subst h3
    clear ht hk
    go_enter Tryd.func42, Tryd.ntmps42
    go_wp2
    go_ret
    exact ⟨_, rfl, H.out.on ((Fr.refl _ _).alloc _), (Fr.refl _ _).alloc _⟩
  by_cases h45 : kd = 4 ∨ kd = 5
  · have hk : t.kids = [t.of] := by rw [ht]; simp [T.kids, T.kind, h2, h3, h45]
    rw [hk]
    clear ht hk
    rcases h45 with rfl | rfl
    all_goals
      go_enter Tryd.func42, Tryd.ntmps42
      go_wp2_with fail
      refine (of_T t _ _ (HT.out.on ((Fr.refl _ _).alloc _))).mono ?_
      rintro e w1 ⟨cs', rfl, hr, f1⟩
      obtain ⟨k', s', ps', mn', mx', nu', a', c', hxe, rfl, hxs⟩ := hr.open'
      have HR := Lib.hid hr; have F1 := Lib.hid f1; clear hr f1 hxs hxe
      go_wp2
      go_ret
      exact ⟨_, rfl, ST.one HR.out (fun _ x => x.elim) _ rfl, (((Fr.refl _ _).alloc _).trans' F1.out).alloc _⟩
  · have hk : t.kids = [] := by rw [ht]; simp [T.kids, T.kind, h2, h3, h45]
    rw [hk]
    have h4 : kd ≠ 4 := fun e => h45 (.inl e)
    have h5 : kd ≠ 5 := fun e => h45 (.inr e)
    clear ht hk h45
    go_enter Tryd.func42, Tryd.ntmps42
    go_wp2
    go_ret
    exact ⟨_, rfl, .inl ⟨⟨none, 0, rfl⟩, rfl⟩, (Fr.refl _ _).alloc _⟩

end Go.Proofs.YtpcpmjaphjkphaaDoor

/-
  Walks: SetOf (it returns, or it panics), caught: its panic is recovered.
-/
namespace Go.Proofs.YtpcpmjaphjkphaaDoor
open Go.RowKit

theorem run_assert_ok {P : Program} {x a : TypeId} {fs : Array Field} (h : P.underlying a = some (.struct fs)) (v : Value) (w : World) :
    (Instr.typeAssert (.iface a v) x a false).run P w = .ok v w := by
  simp [Instr.typeAssert, run_underlying h]
theorem as_ok_One (v : Value) (w : World) : (Instr.typeAssert (.iface 75 v) 26 75 false).run Tryd.prog w = .ok v w := run_assert_ok Tryd.underlying75 v w
attribute [go_sem] as_ok_One

theorem tae : ∃ e, Tryd.prog.underlying Tryd.prog.rt.typeAssertionError = some (.pointer e) := by
  have h : (match Tryd.prog.underlying Tryd.prog.rt.typeAssertionError with | some (.pointer _) => true | _ => false) = true := by kernel_rfl
  split at h
  · rename_i e he; exact ⟨_, he⟩
  · cases h

/-- The assertion that fails: it panics, with some error; what lay there is as it was. -/
theorem assert_panics {v : Value} (h : v = .nilIface ∨ ∃ i x, v = .iface i x ∧ i ≠ 75) (w : World) :
    ∃ i p w', (Instr.typeAssert v 26 75 false).run Tryd.prog w = .halt (.panic (.iface i p)) w' ∧ Fr nob w w' := by
  have hu := Tryd.underlying75
  obtain ⟨e, he⟩ := tae
  have rp : ∀ i c a m, ∃ p w', (runtimePanic (α := Value) (.typeAssertion i c a m)).run Tryd.prog w = .halt (.panic (.iface Tryd.prog.rt.typeAssertionError p)) w' ∧ Fr nob w w' := by
    intro i c a m
    unfold runtimePanic
    simp only [Sem.run_bind, run_program, Result.andThen_ok, elemOf, run_underlying he, Sem.run_pure]
    exact ⟨_, _, rfl, (Fr.refl _ _).alloc _⟩
  rcases h with rfl | ⟨i, x, rfl, hi⟩
  · obtain ⟨p, w', h1, h2⟩ := rp (some 26) none 75 ""
    exact ⟨Tryd.prog.rt.typeAssertionError, p, w', by simp [Instr.typeAssert, run_underlying hu, h1], h2⟩
  · obtain ⟨p, w', h1, h2⟩ := rp (some 26) (some i) 75 ""
    exact ⟨Tryd.prog.rt.typeAssertionError, p, w', by simp [Instr.typeAssert, run_underlying hu, hi, h1], h2⟩

theorem makeFunc_run (fn : Fn) (first cap : Array Value) (w : World) : (Instr.makeFunc fn first cap).run Tryd.prog w = .ok (.func fn first cap) w := rfl

end Go.Proofs.YtpcpmjaphjkphaaDoor

/-
  Walk of package bre: Parse.
-/
namespace Go.Proofs.YtpcpmjaphjkphaaDoor
open Go.RowKit

/-- The four variables of Parse's results. -/
structure Four (w : World) (b0 b1 b2 b3 : Nat) (v0 v1 v2 v3 : Value) : Prop where
  h0 : w.heap[b0]? = some (.cells #[v0] 26 (0, 0))
  h1 : w.heap[b1]? = some (.cells #[v1] 27 (0, 0))
  h2 : w.heap[b2]? = some (.cells #[v2] 3 (0, 0))
  h3 : w.heap[b3]? = some (.cells #[v3] 28 (0, 0))
  n01 : b0 ≠ b1
  n02 : b0 ≠ b2
  n03 : b0 ≠ b3
  n12 : b1 ≠ b2
  n13 : b1 ≠ b3
  n23 : b2 ≠ b3

theorem Four.drew {w : World} {b0 b1 b2 b3 : Nat} {v0 v1 v2 v3 : Value} (h : Four w b0 b1 b2 b3 v0 v1 v2 v3) : Four w.drew b0 b1 b2 b3 v0 v1 v2 v3 :=
  ⟨h.h0, h.h1, h.h2, h.h3, h.n01, h.n02, h.n03, h.n12, h.n13, h.n23⟩
theorem four_set {w : World} {b0 b1 b2 b3 : Nat} {v0 v1 v2 v3 : Value} (h : Four w b0 b1 b2 b3 v0 v1 v2 v3) (u0 u1 u2 u3 : Value) :
    Four ((((w.setCell ⟨b0, 0, none⟩ u0).setCell ⟨b1, 0, none⟩ u1).setCell ⟨b2, 0, none⟩ u2).setCell ⟨b3, 0, none⟩ u3) b0 b1 b2 b3 u0 u1 u2 u3 ∧
      Fr (fun k => k = b0 ∨ k = b1 ∨ k = b2 ∨ k = b3) w ((((w.setCell ⟨b0, 0, none⟩ u0).setCell ⟨b1, 0, none⟩ u1).setCell ⟨b2, 0, none⟩ u2).setCell ⟨b3, 0, none⟩ u3) := by
  obtain ⟨h0, h1, h2, h3, n01, n02, n03, n12, n13, n23⟩ := h
  have k0 := heap_setCell_ne (p := ⟨b3, 0, none⟩) (heap_setCell_ne (p := ⟨b2, 0, none⟩) (heap_setCell_ne (p := ⟨b1, 0, none⟩) (heap_setCell_at h0 0 u0) n01 u1) n02 u2) n03 u3
  have k1 := heap_setCell_ne (p := ⟨b3, 0, none⟩) (heap_setCell_ne (p := ⟨b2, 0, none⟩) (heap_setCell_at (heap_setCell_ne (p := ⟨b0, 0, none⟩) h1 (Ne.symm n01) u0) 0 u1) n12 u2) n13 u3
  have k2 := heap_setCell_ne (p := ⟨b3, 0, none⟩) (heap_setCell_at (heap_setCell_ne (p := ⟨b1, 0, none⟩) (heap_setCell_ne (p := ⟨b0, 0, none⟩) h2 (Ne.symm n02) u0) (Ne.symm n12) u1) 0 u2) n23 u3
  have k3 := heap_setCell_at (heap_setCell_ne (p := ⟨b2, 0, none⟩) (heap_setCell_ne (p := ⟨b1, 0, none⟩) (heap_setCell_ne (p := ⟨b0, 0, none⟩) h3 (Ne.symm n03) u0) (Ne.symm n13) u1) (Ne.symm n23) u2) 0 u3
  refine ⟨⟨k0, k1, k2, k3, n01, n02, n03, n12, n13, n23⟩, ?_⟩
  exact ((((Fr.refl (fun k => k = b0 ∨ k = b1 ∨ k = b2 ∨ k = b3) w).setCell (p := ⟨b0, 0, none⟩) (fun _ => .inl rfl) u0).setCell (p := ⟨b1, 0, none⟩) (fun _ => .inr (.inl rfl)) u1).setCell (p := ⟨b2, 0, none⟩) (fun _ => .inr (.inr (.inl rfl))) u2).setCell (p := ⟨b3, 0, none⟩) (fun _ => .inr (.inr (.inr rfl))) u3
abbrev CQ (w : World) (b : Nat) (v0 v1 : Value) : Prop := w.cell? ⟨b, 0, none⟩ = some v0 ∧ w.cell? ⟨b, 1, none⟩ = some v1
theorem CQ.drew {w : World} {b : Nat} {v0 v1 : Value} (h : CQ w b v0 v1) : CQ w.drew b v0 v1 := h
theorem CQ.set {w : World} {b c j : Nat} {v0 v1 : Value} (h : CQ w b v0 v1) (hn : c ≠ b) (u : Value) : CQ (w.setCell ⟨c, j, none⟩ u) b v0 v1 := ⟨cell_ne h.1 hn, cell_ne h.2 hn⟩

theorem pcatch_idle (p0 p1 p2 p3 : Value) (w : World) :
    CallsD Tryd.prog 24 #[p0, p1, p2, p3] .returning w fun e u' w' => e = .returned (.tuple #[]) ∧ u' = .returning ∧ w' = w := by
  refine callsD_of_wpS Tryd.func24 rfl fun c₀ cs hu => ?_
  apply wpS_seq
  apply wpS_region
  simp [wpOpsS, go_sem, recoverD, hu, Tryd.ntmps24, Exit.thenS]
  refine wpS_of_wp ?_
  go_wp2
  cases c₀
  simp_all [bodyPostS, results, Tryd.results24]
set_option maxRecDepth 100000 in
set_option maxHeartbeats 1000000 in
theorem pcatch_panicking (b0 b1 b2 b3 : Nat) (v0 v1 v2 v3 : Value) (z : Int) (p : Nat) (older : List PanicEntry) (w : World) (h : Four w b0 b1 b2 b3 v0 v1 v2 v3) :
    CallsD Tryd.prog 24 #[.pointer (some ⟨b0, 0, none⟩), .pointer (some ⟨b1, 0, none⟩), .pointer (some ⟨b2, 0, none⟩), .pointer (some ⟨b3, 0, none⟩)] (.panicking ({ v := .iface 68 (.agg #[.int .i64 z, .int .i64 (p : Nat)]), recovered := false } :: older)) w fun e u' w' =>
      e = .returned (.tuple #[]) ∧ u' = .panicking ({ v := .iface 68 (.agg #[.int .i64 z, .int .i64 (p : Nat)]), recovered := true } :: older) ∧ Four w' b0 b1 b2 b3 .nilIface (.slice none 0 0) (.int .i64 (p : Nat)) (.int .i64 z) ∧ Fr (fun k => k = b0 ∨ k = b1 ∨ k = b2 ∨ k = b3) w w' := by
  refine callsD_of_wpS Tryd.func24 rfl fun c₀ cs hu => ?_
  apply wpS_seq
  apply wpS_region
  simp [wpOpsS, go_sem, recoverD, hu, Tryd.ntmps24, Exit.thenS]
  obtain ⟨h0, h1, h2, h3, n01, n02, n03, n12, n13, n23⟩ := h
  have c0 := cell_at (j := 0) (v := v0) h0 rfl; have c1 := cell_at (j := 0) (v := v1) h1 rfl; have c2 := cell_at (j := 0) (v := v2) h2 rfl; have c3 := cell_at (j := 0) (v := v3) h3 rfl
  have d0 := unfrozen_at h0 0; have d1 := unfrozen_at h1 0; have d2 := unfrozen_at h2 0; have d3 := unfrozen_at h3 0
  have l0 := lt_heap h0; have l1 := lt_heap h1; have l2 := lt_heap h2; have l3 := lt_heap h3
  have has := fun (x : TypeId) (v : Value) (w : World) => run_assert_ok (P := Tryd.prog) (x := x) Tryd.underlying68 v w
  have hz := newAt0 w (.cells #[.int .i64 z, .int .i64 (p : Nat)] 68)
  obtain ⟨wA, hwA⟩ : ∃ wA, wA = w.alloc (.cells #[.int .i64 z, .int .i64 (p : Nat)] 68) := ⟨_, rfl⟩
  have hfA : Fr nob w wA := by rw [hwA]; exact (Fr.refl nob w).alloc _
  rw [← hwA] at hz
  obtain ⟨c, hc⟩ : ∃ c, c = w.heap.size := ⟨_, rfl⟩
  rw [← hc] at hz
  have hcq : CQ wA c (.int .i64 z) (.int .i64 (p : Nat)) := ⟨cell_at hz rfl, cell_at hz rfl⟩
  have e0 := hcq.1; have e1 := hcq.2
  have HQ := Lib.hid hcq; have HQd := Lib.hid (CQ.drew hcq)
  have m0 : b0 ≠ c := by omega
  have m1 : b1 ≠ c := by omega
  have m2 : b2 ≠ c := by omega
  have m3 : b3 ≠ c := by omega
  have H0 := Lib.hid (hfA.heap h0 (fun x => x)); have H1 := Lib.hid (hfA.heap h1 (fun x => x)); have H2 := Lib.hid (hfA.heap h2 (fun x => x)); have H3 := Lib.hid (hfA.heap h3 (fun x => x))
  have HA := Lib.hid hfA; have HWA := Lib.hid hwA; have HCC := Lib.hid hc
  clear h0 h1 h2 h3 hz hcq hfA c0 c1 c2 c3 d0 d1 d2 d3
  have c0 := cell_at (j := 0) (v := v0) H0.out rfl; have c1 := cell_at (j := 0) (v := v1) H1.out rfl; have c2 := cell_at (j := 0) (v := v2) H2.out rfl; have c3 := cell_at (j := 0) (v := v3) H3.out rfl
  have d0 := unfrozen_at H0.out 0; have d1 := unfrozen_at H1.out 0; have d2 := unfrozen_at H2.out 0; have d3 := unfrozen_at H3.out 0
  clear hwA hc
  refine wpS_of_wp ?_
  go_wp2_with (rw [← HWA.out, ← HCC.out])
  go_region_held3 (fun w' => CQ w' c (.int .i64 z) (.int .i64 (p : Nat))) (repeat (first | (with_reducible exact HQ.out) | (with_reducible exact HQd.out) | (with_reducible refine CQ.set ?_ (by assumption) _) | (with_reducible refine CQ.drew ?_))) (fail)
  all_goals
    go_wp2
    have hR := four_set (w := wA) ⟨H0.out, H1.out, H2.out, H3.out, n01, n02, n03, n12, n13, n23⟩ .nilIface (.slice none 0 0) (.int .i64 (p : Nat)) (.int .i64 z)
    have HR := Lib.hid hR
    clear hR
    simp [bodyPostS, results, Tryd.results24]
    exact ⟨HR.out.1.drew, (HA.out.any.trans HR.out.2 (fun _ _ x => x)).drew⟩

theorem four_new (w : World) (v0 v1 v2 v3 : Value) : Four ((((w.alloc (.cells #[v0] 26)).alloc (.cells #[v1] 27)).alloc (.cells #[v2] 3)).alloc (.cells #[v3] 28)) w.heap.size (w.heap.size + 1) (w.heap.size + 1 + 1) (w.heap.size + 1 + 1 + 1) v0 v1 v2 v3 :=
  ⟨heap_alloc_lt _ (heap_alloc_lt _ (heap_alloc_lt _ (newAt0 w _))), heap_alloc_lt _ (heap_alloc_lt _ (heap_alloc_new' _ _ _ (by simp))), heap_alloc_lt _ (heap_alloc_new' _ _ _ (by simp)), heap_alloc_new' _ _ _ (by simp), by omega, by omega, by omega, by omega, by omega, by omega⟩
theorem four_fr {X : Nat → Prop} {w w' : World} {b0 b1 b2 b3 : Nat} {v0 v1 v2 v3 : Value} (h : Four w b0 b1 b2 b3 v0 v1 v2 v3) (f : Fr X w w') (hX : ∀ k, (k = b0 ∨ k = b1 ∨ k = b2 ∨ k = b3) → ¬ X k) : Four w' b0 b1 b2 b3 v0 v1 v2 v3 :=
  ⟨f.heap h.h0 (hX _ (.inl rfl)), f.heap h.h1 (hX _ (.inr (.inl rfl))), f.heap h.h2 (hX _ (.inr (.inr (.inl rfl)))), f.heap h.h3 (hX _ (.inr (.inr (.inr rfl)))), h.n01, h.n02, h.n03, h.n12, h.n13, h.n23⟩
abbrev PQ (w : World) (b c : Nat) (v0 v4 : Value) : Prop := w.cell? ⟨b, 0, none⟩ = some v0 ∧ w.cell? ⟨c, 4, none⟩ = some v4
theorem PQ.drew {w : World} {b c : Nat} {v0 v4 : Value} (h : PQ w b c v0 v4) : PQ w.drew b c v0 v4 := h
theorem PQ.set {w : World} {b c k j : Nat} {v0 v4 : Value} (h : PQ w b c v0 v4) (hb : k ≠ b) (hc : k ≠ c) (u : Value) : PQ (w.setCell ⟨k, j, none⟩ u) b c v0 v4 := ⟨cell_ne h.1 hb, cell_ne h.2 hc⟩
theorem PQ.same {w : World} {b c : Nat} {v0 v4 : Value} (h : PQ w b c v0 v4) (hc : b ≠ c) : PQ (w.setCell ⟨b, 0, none⟩ v0) b c v0 v4 := ⟨World.cell?_setCell_same' _ _ _ (by rw [h.1]; rfl), cell_ne h.2 hc⟩
def BreAns (R : Out Nd) (w : World) (e : Ending) (w' : World) : Prop := Fr nob w w' ∧ match R with
  | .inl (z, p) => e = .returned (.tuple #[.nilIface, .slice none 0 0, .int .i64 (p : Nat), .int .i64 z])
  | .inr (t, s) => ∃ i y mv, e = .returned (.tuple #[.iface i y, mv, .int .i64 0, .int .i64 0]) ∧ RN nob w' t (.iface i y) ∧ OwM w' s.marks mv

set_option maxRecDepth 100000 in
set_option maxHeartbeats 1000000 in
theorem bre_parse (l : List UInt8) (w : World) (hl : l.length ≤ 100000) (hE : Env w) :
    Calls Tryd.prog 9 #[.string ⟨l.toArray⟩] w (BreAns (parseS prg l) w) := by
  have hmf := makeFunc_run
  by_cases h250 : 250 < l.length
  · have hlI : (250 : Int) < (l.length : Int) := by omega
    unfold parseS
    rw [if_pos h250]
    go_enter_defers Tryd.func9, Tryd.ntmps9
    go_wp2
    have hF := four_new w .nilIface (.slice none 0 0) (.int .i64 250) (.int .i64 3)
    have k0 := cell_at (j := 0) (v := .nilIface) hF.h0 rfl; have k1 := cell_at (j := 0) (v := .slice none 0 0) hF.h1 rfl; have k2 := cell_at (j := 0) (v := .int .i64 250) hF.h2 rfl; have k3 := cell_at (j := 0) (v := .int .i64 3) hF.h3 rfl
    have FW := Lib.hid (((((Fr.refl nob w).alloc (.cells #[.nilIface] 26)).alloc (.cells #[.slice none 0 0] 27)).alloc (.cells #[.int .i64 250] 3)).alloc (.cells #[.int .i64 3] 28))
    simp [bodyPostD, Leaves, settle, results, Tryd.results9, go_sem, BreAns]
    exact FW.out
  · have hlI : ¬ (250 : Int) < (l.length : Int) := by omega
    unfold parseS
    rw [if_neg h250]
    obtain ⟨F, hF⟩ : ∃ F, chS prg l 12 ⟨0, 0, [], []⟩ = F := ⟨_, rfl⟩
    rw [hF]
    obtain ⟨w4, hw4⟩ : ∃ w4, w4 = (((w.alloc (.cells #[.nilIface] 26)).alloc (.cells #[.slice none 0 0] 27)).alloc (.cells #[.int .i64 0] 3)).alloc (.cells #[.int .i64 0] 28) := ⟨_, rfl⟩
    have hs4 : w4.heap.size = w.heap.size + 1 + 1 + 1 + 1 := by rw [hw4]; simp
    have hf4 : Fr nob w w4 := by rw [hw4]; exact (((((Fr.refl nob w).alloc _).alloc _).alloc _).alloc _)
    have h4 : Four w4 w.heap.size (w.heap.size + 1) (w.heap.size + 1 + 1) (w.heap.size + 1 + 1 + 1) .nilIface (.slice none 0 0) (.int .i64 0) (.int .i64 0) := by rw [hw4]; exact four_new w _ _ _ _
    obtain ⟨w5, hw5⟩ : ∃ w5, w5 = w4.alloc (.cells #[.string ⟨l.toArray⟩, .int .i64 0, .int .i64 0, .slice none 0 0, .slice none 0 0] 72) := ⟨_, rfl⟩
    have hf45 : Fr nob w4 w5 := by rw [hw5]; exact (Fr.refl nob w4).alloc _
    have hs5 : w5.heap.size = w4.heap.size + 1 := by rw [hw5]; simp
    obtain ⟨b, hb⟩ : ∃ b, b = w4.heap.size := ⟨_, rfl⟩
    have hB : Br b l ⟨0, 0, [], []⟩ (fun k => k = b) (.slice none 0 0) (.slice none 0 0) w5 :=
      ⟨by rw [hw5, hb]; exact newAt0 w4 _, World.ownsRow_nil _ _ _ _, World.ownsRow_nil _ _ _ _, fun _ h => (by cases h), fun _ h => (by cases h), fun _ h => (by cases h), rfl⟩
    have hO : ∀ k, (w.heap.size ≤ k ∧ k < b) → k < w5.heap.size := fun k hk => by omega
    have hch := br_chAt l w hl hE 12 0 rfl b ⟨0, 0, [], []⟩ (fun k => k = b) (fun k => w.heap.size ≤ k ∧ k < b) w5 hO ⟨Nat.zero_le _, Nat.le_refl _, Nat.le_refl _, Nat.le_refl _⟩ ⟨hf4.trans' hf45, fun k hk => by subst hk; omega, fun k hk => by subst hk; omega⟩ ⟨_, _, hB⟩
    rw [hF] at hch
    have h5 := four_fr (X := nob) h4 hf45 (fun _ _ x => x)
    have hHS : b = w.heap.size + 1 + 1 + 1 + 1 := by omega
    rw [show ((0 : Nat) : Int) = 0 from rfl] at hch
    subst hHS
    have HCH := Lib.hid hch; have H5 := Lib.hid h5; have HW4 := Lib.hid hw4; have HW5 := Lib.hid hw5; have HF5 := Lib.hid (hf4.trans' hf45); have HS5 := Lib.hid (show w5.heap.size = w.heap.size + 5 by omega)
    have hmk : ∀ s6 S6 w6, Rdg (w.heap.size + 1 + 1 + 1 + 1) l s6 S6 w6 → Rdg (w.heap.size + 1 + 1 + 1 + 1) l s6 S6 w6 := fun _ _ _ h => h
    clear hch h5 h4 hw4 hw5 hB hO hF hb hs4 hf4 hf45 hE hs5 hmk
    go_enter_defers Tryd.func9, Tryd.ntmps9
    go_wp2_with (rw [← HW4.out, ← HW5.out])
    refine (HCH.out).mono ?_
    cases F with
    | inl q =>
      obtain ⟨z, p⟩ := q
      rintro e w6 ⟨rfl, S6, t6⟩
      have h6 := four_fr H5.out t6.fr (fun k hk x => by have x : k = w.heap.size + 1 + 1 + 1 + 1 := x; omega)
      have F6 : Fr nob w w6 := HF5.out.trans t6.fr (fun i hi x => by have x : i = w.heap.size + 1 + 1 + 1 + 1 := x; omega)
      refine leaves_cons (f := 24) (args := #[.pointer (some ⟨w.heap.size, 0, none⟩), .pointer (some ⟨w.heap.size + 1, 0, none⟩), .pointer (some ⟨w.heap.size + 1 + 1, 0, none⟩), .pointer (some ⟨w.heap.size + 1 + 1 + 1, 0, none⟩)]) (by simp) (by simp [go_sem]) ?_
      refine (pcatch_panicking _ _ _ _ _ _ _ _ z p [] _ h6).mono ?_
      rintro e u' w7 ⟨rfl, rfl, h7, f7⟩
      have k0 := cell_at (j := 0) (v := .nilIface) h7.h0 rfl; have k1 := cell_at (j := 0) (v := .slice none 0 0) h7.h1 rfl; have k2 := cell_at (j := 0) (v := .int .i64 (p : Nat)) h7.h2 rfl; have k3 := cell_at (j := 0) (v := .int .i64 z) h7.h3 rfl
      have FW := Lib.hid (show Fr nob w w7 from F6.trans f7 (fun i hi x => by omega))
      clear h7 f7 F6 h6 t6
      simp [Leaves, settle, results, Tryd.results9, go_sem, BreAns, k0, k1, k2, k3]
      exact FW.out
    | inr q =>
      obtain ⟨t, s⟩ := q
      rintro e w6 ⟨i, y, S6, rfl, rn6, ⟨cv, mv, hB6⟩, t6⟩
      have h6 := four_fr H5.out t6.fr (fun k hk x => by have x : k = w.heap.size + 1 + 1 + 1 + 1 := x; omega)
      have F6 : Fr nob w w6 := HF5.out.trans t6.fr (fun i hi x => by have x : i = w.heap.size + 1 + 1 + 1 + 1 := x; omega)
      obtain ⟨w7, hw7⟩ : ∃ w7, w7 = w6.setCell ⟨w.heap.size, 0, none⟩ (.iface i y) := ⟨_, rfl⟩
      have c0 := cell_at (j := 0) (v := .nilIface) h6.h0 rfl
      have d0 := unfrozen_at h6.h0 0
      have h7 : Four w7 w.heap.size (w.heap.size + 1) (w.heap.size + 1 + 1) (w.heap.size + 1 + 1 + 1) (.iface i y) (.slice none 0 0) (.int .i64 0) (.int .i64 0) := by
        rw [hw7]
        exact ⟨heap_setCell_at h6.h0 0 _, heap_setCell_ne h6.h1 (Ne.symm h6.n01) _, heap_setCell_ne h6.h2 (Ne.symm h6.n02) _, heap_setCell_ne h6.h3 (Ne.symm h6.n03) _, h6.n01, h6.n02, h6.n03, h6.n12, h6.n13, h6.n23⟩
      have f67 : Fr (fun k => k = w.heap.size) w6 w7 := by rw [hw7]; exact (Fr.refl (fun k => k = w.heap.size) w6).setCell (p := ⟨w.heap.size, 0, none⟩) (fun _ => rfl) _
      have e4 : w7.cell? ⟨w.heap.size + 1 + 1 + 1 + 1, 4, none⟩ = some mv := f67.cell (cell_at hB6.blk rfl) (fun x => by simp only at x; omega)
      have c7 := cell_at (j := 0) (v := .iface i y) h7.h0 rfl; have c71 := cell_at (j := 0) (v := .slice none 0 0) h7.h1 rfl; have c72 := cell_at (j := 0) (v := .int .i64 0) h7.h2 rfl; have c73 := cell_at (j := 0) (v := .int .i64 0) h7.h3 rfl
      have d7 := unfrozen_at h7.h0 0; have d71 := unfrozen_at h7.h1 0; have d72 := unfrozen_at h7.h2 0; have d73 := unfrozen_at h7.h3 0
      obtain ⟨am, cm, hmv⟩ := ownsRow_slice hB6.ma
      subst hmv
      have hpq : PQ w7 w.heap.size (w.heap.size + 1 + 1 + 1 + 1) (.iface i y) (.slice am s.marks.length cm) := ⟨c7, e4⟩
      have HQ := Lib.hid hpq; have HQd := Lib.hid (PQ.drew hpq)
      have HW7 := Lib.hid hw7; have H7 := Lib.hid h7
      have RN6 := Lib.hid rn6; have T6 := Lib.hid t6; have F6 := Lib.hid F6; have F67 := Lib.hid f67; have HB6 := Lib.hid hB6
      clear hw7 h7 h6 rn6 t6 f67 hB6 hpq
      go_wp2_with (rw [← HW7.out])
      go_region_held3 (fun w' => PQ w' w.heap.size (w.heap.size + 1 + 1 + 1 + 1) (.iface i y) (.slice am s.marks.length cm)) (repeat (first | (with_reducible exact HQ.out) | (with_reducible exact HQd.out) | (with_reducible refine PQ.same ?_ (by omega)) | (with_reducible refine PQ.set ?_ (by omega) (by omega) _) | (with_reducible refine PQ.drew ?_))) (fail)
      all_goals
        obtain ⟨w8, hw8⟩ : ∃ w8, w8 = ((((w7.setCell ⟨w.heap.size, 0, none⟩ (.iface i y)).setCell ⟨w.heap.size + 1, 0, none⟩ (.slice am s.marks.length cm)).setCell ⟨w.heap.size + 1 + 1, 0, none⟩ (.int .i64 0)).setCell ⟨w.heap.size + 1 + 1 + 1, 0, none⟩ (.int .i64 0)).drew := ⟨_, rfl⟩
        rw [← hw8]
        have hR := four_set H7.out (.iface i y) (.slice am s.marks.length cm) (.int .i64 0) (.int .i64 0)
        have h8 : Four w8 w.heap.size (w.heap.size + 1) (w.heap.size + 1 + 1) (w.heap.size + 1 + 1 + 1) (.iface i y) (.slice am s.marks.length cm) (.int .i64 0) (.int .i64 0) := by rw [hw8]; exact hR.1.drew
        have f8 : Fr (fun k => k = w.heap.size ∨ k = w.heap.size + 1 ∨ k = w.heap.size + 1 + 1 ∨ k = w.heap.size + 1 + 1 + 1) w6 w8 := by rw [hw8]; exact ((F67.out.mono (fun _ _ x => .inl x)).trans hR.2 (fun _ _ x => x)).drew
        have hrn : RN nob w8 t (.iface i y) := RN.keep f8 (fun k _ x => .inr (by show w.heap.size ≤ k ∧ k < _; omega)) (fun _ _ x => x.elim) _ _ RN6.out
        have hma : OwM w8 s.marks (.slice am s.marks.length cm) := ownsRow_fr HB6.out.ma f8 (fun k hk x => by
          have h1 := HB6.out.nm k hk
          have h2 := HS5.out
          have h3 : k = w.heap.size + 1 + 1 + 1 + 1 := T6.out.old k (by omega) h1.2
          omega)
        have hfr : Fr nob w w8 := F6.out.trans f8 (fun i hi x => by omega)
        have k0 := cell_at (j := 0) (v := .iface i y) h8.h0 rfl; have k1 := cell_at (j := 0) (v := .slice am s.marks.length cm) h8.h1 rfl; have k2 := cell_at (j := 0) (v := .int .i64 0) h8.h2 rfl; have k3 := cell_at (j := 0) (v := .int .i64 0) h8.h3 rfl
        have HA := Lib.hid (show BreAns (.inr (t, s)) w (.returned (.tuple #[.iface i y, .slice am s.marks.length cm, .int .i64 0, .int .i64 0])) w8 from ⟨hfr, _, _, _, rfl, hrn, hma⟩)
        clear hR h8 f8 hrn hma hfr hw8 c0 d0 c7 c71 c72 c73 d7 d71 d72 d73
        go_wp2
        refine leaves_cons (f := 24) (args := #[.pointer (some ⟨w.heap.size, 0, none⟩), .pointer (some ⟨w.heap.size + 1, 0, none⟩), .pointer (some ⟨w.heap.size + 1 + 1, 0, none⟩), .pointer (some ⟨w.heap.size + 1 + 1 + 1, 0, none⟩)]) (by simp) (by simp [go_sem]) ?_
        refine (pcatch_idle _ _ _ _ _).mono ?_
        rintro e u' w9 ⟨rfl, rfl, rfl⟩
        simp [Leaves, settle, results, Tryd.results9, go_sem, k0, k1, k2, k3]
        exact HA.out
end Go.Proofs.YtpcpmjaphjkphaaDoor

/-
  A basic regex in plain words: bytes told one behind the other. No walk.
-/
namespace Go.Proofs.YtpcpmjaphjkphaaDoor
open Go.RowKit

/-- How a byte is told. -/
def Tel (b : UInt8) (u : List UInt8) : Prop :=
  (u = [b] ∧ b ≠ 92 ∧ b ≠ 91 ∧ b ≠ 46 ∧ b ≠ 36 ∧ b ≠ 42 ∧ b ≠ 94) ∨ ∃ x, u = [92, x] ∧ x ≠ 40 ∧ x ≠ 41 ∧ x ≠ 123 ∧ x ≠ 124 ∧ x ≠ 43 ∧ x ≠ 63 ∧ ¬ (49 ≤ x.toNat ∧ x.toNat ≤ 57) ∧ escB x = some (spn b.toNat b.toNat, false)
def telT : List (UInt8 × List UInt8) → List UInt8
  | [] => []
  | x :: r => x.2 ++ telT r
def telN (ts : List (UInt8 × List UInt8)) : List Nd := ts.map fun x => .one (spn x.1.toNat x.1.toNat)

theorem Tel.pre {b : UInt8} {u : List UInt8} (h : Tel b u) (r : List UInt8) : ([92, 43] : List UInt8).isPrefixOf (u ++ r) = false ∧ ([92, 63] : List UInt8).isPrefixOf (u ++ r) = false ∧ ([92, 123] : List UInt8).isPrefixOf (u ++ r) = false ∧
    ([92, 124] : List UInt8).isPrefixOf (u ++ r) = false ∧ ([92, 41] : List UInt8).isPrefixOf (u ++ r) = false ∧ ([92, 40] : List UInt8).isPrefixOf (u ++ r) = false ∧ ([42] : List UInt8).isPrefixOf (u ++ r) = false ∧ ([36] : List UInt8).isPrefixOf (u ++ r) = false ∧ ([94] : List UInt8).isPrefixOf (u ++ r) = false := by
  rcases h with ⟨rfl, h1, h2, h3, h4, h5, h6⟩ | ⟨x, rfl, h1, h2, h3, h4, h5, h6, _⟩
  · simp [List.isPrefixOf, Ne.symm h1, Ne.symm h4, Ne.symm h5, Ne.symm h6]
  · simp [List.isPrefixOf, Ne.symm h1, Ne.symm h2, Ne.symm h3, Ne.symm h4, Ne.symm h5, Ne.symm h6]
theorem telT_pre {ts : List (UInt8 × List UInt8)} (h : ∀ x ∈ ts, Tel x.1 x.2) : ([92, 43] : List UInt8).isPrefixOf (telT ts) = false ∧ ([92, 63] : List UInt8).isPrefixOf (telT ts) = false ∧ ([92, 123] : List UInt8).isPrefixOf (telT ts) = false ∧
    ([92, 124] : List UInt8).isPrefixOf (telT ts) = false ∧ ([92, 41] : List UInt8).isPrefixOf (telT ts) = false ∧ ([92, 40] : List UInt8).isPrefixOf (telT ts) = false ∧ ([42] : List UInt8).isPrefixOf (telT ts) = false ∧ ([36] : List UInt8).isPrefixOf (telT ts) = false ∧ ([94] : List UInt8).isPrefixOf (telT ts) = false := by
  cases ts with
  | nil => simp [telT, List.isPrefixOf]
  | cons x r => exact (h x (by simp)).pre (telT r)

theorem get_of_drop {l : List UInt8} {k : Nat} {a : UInt8} {r : List UInt8} (h : l.drop k = a :: r) : ∃ hk : k < l.length, l[k] = a ∧ l.drop (k + 1) = r := by
  have hk : k < l.length := by
    by_cases hk : k < l.length
    · exact hk
    · rw [List.drop_eq_nil_of_le (by omega)] at h; cases h
  rw [List.drop_eq_getElem_cons hk] at h
  injection h with h1 h2
  exact ⟨hk, h1, h2⟩

theorem tel_atom {l : List UInt8} {C : Option (RxS → Out Nd)} {s : RxS} {b : UInt8} {u r : List UInt8} (h : Tel b u) (hd : l.drop s.at_ = u ++ r) : ∃ hk : s.at_ < l.length, atomS prg l C s l[s.at_] = .inr (.one (spn b.toNat b.toNat), s.go u.length) := by
  have hp := h.pre r
  rcases h with ⟨rfl, h1, h2, h3, h4, h5, h6⟩ | ⟨x, rfl, h1, h2, h3, h4, h5, h6, h7, h8⟩
  · obtain ⟨hk, hb, _⟩ := get_of_drop hd
    refine ⟨hk, ?_⟩
    unfold atomS
    rw [hb, if_neg h1, if_neg h2, if_neg h3]
    rfl
  · obtain ⟨hk, hb, hd2⟩ := get_of_drop (r := x :: r) hd
    obtain ⟨hk2, hx, _⟩ := get_of_drop hd2
    refine ⟨hk, ?_⟩
    unfold atomS
    rw [if_pos hb]
    unfold escS
    rw [List.getElem?_eq_getElem hk2, hx]
    simp only
    unfold ahd
    rw [hd, if_neg (by rw [hp.2.2.2.2.2.1]; decide), if_neg (by rw [hp.2.2.2.2.1]; decide), if_neg h7, h8]
    rfl

theorem RxS.go_go (s : RxS) (a b : Nat) : (s.go a).go b = s.go (a + b) := by simp [RxS.go, Nat.add_assoc]

theorem brS_tells {l : List UInt8} {C : Option (RxS → Out Nd)} {inner : Bool} : ∀ (ts : List (UInt8 × List UInt8)) (n : Nat) (front : Bool) (s : RxS) (ps : List Nd), (∀ x ∈ ts, Tel x.1 x.2) → s.at_ ≤ l.length → l.drop s.at_ = telT ts → l.length < n + s.at_ →
    brS prg l C inner n front s ps = .inr (joined (ps ++ telN ts), s.to l.length)
  | [], n, front, s, ps, ht, ha, hd, hn => by
    have hle : l.length ≤ s.at_ := by have := congrArg List.length hd; simp [telT] at this; omega
    obtain ⟨m, rfl⟩ : ∃ m, n = m + 1 := ⟨n - 1, by omega⟩
    rw [brS_over hle]
    have : s.to l.length = s := by unfold RxS.to; cases s; simp at *; omega
    rw [this]; simp [telN]
  | (b, u) :: ts, n, front, s, ps, ht, ha, hd, hn => by
    obtain ⟨m, rfl⟩ : ∃ m, n = m + 1 := ⟨n - 1, by omega⟩
    have hp := telT_pre ht
    have hT := ht (b, u) (by simp)
    have ht' : ∀ x ∈ ts, Tel x.1 x.2 := fun x hx => ht x (by simp [hx])
    have hp' := telT_pre ht'
    obtain ⟨hk, hat⟩ := tel_atom (C := C) (s := s) hT (r := telT ts) hd
    have hd' : l.drop (s.go u.length).at_ = telT ts := by
      show l.drop (s.at_ + u.length) = _
      rw [← List.drop_drop, hd, telT, List.drop_left']; rfl
    have hu : 1 ≤ u.length := by rcases hT with ⟨e, _⟩ | ⟨x, e, _⟩ <;> (simp only at e; subst e; simp)
    have hle : s.at_ + u.length ≤ l.length := by
      have := congrArg List.length hd; simp [telT] at this; omega
    have hrnd : rndS l C s l[s.at_] = .inr (.one (spn b.toNat b.toNat), s.go u.length) := by
      unfold rndS
      rw [hat]
      simp only
      refine repS_end ?_ ?_ ?_ ?_
      · unfold ahd; rw [hd']; exact hp'.1
      · unfold ahd; rw [hd']; exact hp'.2.1
      · unfold ahd; rw [hd']; exact hp'.2.2.1
      · unfold ahd; rw [hd']; exact hp'.2.2.2.2.2.2.1
    rw [brS_go hk ?_ ?_ ?_, hrnd]
    · simp only
      rw [brS_tells ts m false (s.go u.length) _ ht' hle hd' (by show _ < m + (s.at_ + u.length); omega)]
      simp [telN, RxS.go, RxS.to]
    · unfold ahd; rw [hd, hp.2.2.2.1, hp.2.2.2.2.1]; simp
    · unfold ahd; rw [hd, hp.2.2.1, hp.1, hp.2.1]; simp
    · unfold ahd; rw [hd, hp.2.2.2.2.2.2.2.1]; rfl

theorem telN_parts (ts : List (UInt8 × List UInt8)) : parts (telN ts) = telN ts := by
  induction ts with
  | nil => rfl
  | cons x r ih => show Nd.part _ ++ parts (telN r) = _; rw [ih]; rfl
theorem chosen_joined_tel {ts : List (UInt8 × List UInt8)} (h : ts ≠ []) : chosen [joined (telN ts)] = joined (telN ts) := by
  unfold joined
  rw [telN_parts]
  match ts, h with
  | [x], _ => rfl
  | x :: y :: r, _ => rfl

theorem parse_tells (ts : List (UInt8 × List UInt8)) (h : ∀ x ∈ ts, Tel x.1 x.2) (hne : ts ≠ []) (hl : (telT ts).length ≤ 250) : parseS prg (telT ts) = .inr (joined (telN ts), ⟨(telT ts).length, 0, [], []⟩) := by
  have hp := telT_pre h
  unfold parseS
  rw [if_neg (by omega), chS]
  unfold choiceS branchS
  rw [if_neg (by unfold ahd; simp only [List.drop_zero]; rw [hp.2.2.2.2.2.2.2.2]; decide)]
  rw [brS_tells ts _ _ _ _ h (by simp) (by simp) (by simp)]
  simp only
  rw [chLoop, if_neg (by
    unfold ahd
    rw [List.drop_eq_nil_of_le (by simp [RxS.to])]
    decide)]
  rw [List.nil_append]
  show Sum.inr (chosen [joined (telN ts)], _) = _
  rw [chosen_joined_tel hne]
  rfl

theorem punct_has : punctS.has 92 = true ∧ punctS.has 91 = true ∧ punctS.has 46 = true ∧ punctS.has 36 = true ∧ punctS.has 42 = true ∧ punctS.has 94 = true := by decide +kernel
theorem punct_letters : punctS.has 110 = false ∧ punctS.has 116 = false ∧ punctS.has 119 = false ∧ punctS.has 87 = false ∧ punctS.has 115 = false ∧ punctS.has 83 = false ∧ punctS.has 10 = false := by decide +kernel
theorem punct_digits : ∀ n, n < 58 → 49 ≤ n → punctS.has n = false := by decide +kernel

theorem tel_plain {b : UInt8} (h : punctS.has b.toNat = false) : Tel b [b] := by
  obtain ⟨h1, h2, h3, h4, h5, h6⟩ := punct_has
  refine .inl ⟨rfl, ?_, ?_, ?_, ?_, ?_, ?_⟩ <;> (rintro rfl; first | (rw [show (92 : UInt8).toNat = 92 from rfl, h1] at h; cases h) | (rw [show (91 : UInt8).toNat = 91 from rfl, h2] at h; cases h) | (rw [show (46 : UInt8).toNat = 46 from rfl, h3] at h; cases h) | (rw [show (36 : UInt8).toNat = 36 from rfl, h4] at h; cases h) | (rw [show (42 : UInt8).toNat = 42 from rfl, h5] at h; cases h) | (rw [show (94 : UInt8).toNat = 94 from rfl, h6] at h; cases h))

/-- How Quoted tells a byte in a basic regex. -/
def quoB (b : UInt8) : List UInt8 :=
  if b = 10 then [92, 110]
  else if b = 40 ∨ b = 41 ∨ b = 123 ∨ b = 124 ∨ b = 43 ∨ b = 63 then [b]
  else if punctS.has b.toNat then [92, b] else [b]
theorem escB_punct {b : UInt8} (h : punctS.has b.toNat = true) : escB b = some (spn b.toNat b.toNat, false) := by
  obtain ⟨h1, h2, h3, h4, h5, h6, _⟩ := punct_letters
  unfold escB
  have e (x : UInt8) (n : Nat) (hx : x.toNat = n) (hn : punctS.has n = false) : b ≠ x := by rintro rfl; rw [hx, hn] at h; cases h
  rw [if_neg (e 110 110 rfl h1), if_neg (e 116 116 rfl h2), if_neg (e 119 119 rfl h3), if_neg (e 87 87 rfl h4), if_neg (e 115 115 rfl h5), if_neg (e 83 83 rfl h6), if_pos h]
theorem tel_quoB (b : UInt8) : Tel b (quoB b) := by
  unfold quoB
  split
  · next h => subst h; exact .inr ⟨110, rfl, by decide, by decide, by decide, by decide, by decide, by decide, by decide, rfl⟩
  · split
    · next h =>
      refine .inl ⟨rfl, ?_⟩
      rcases h with rfl | rfl | rfl | rfl | rfl | rfl <;> decide
    · next h =>
      simp only [not_or] at h
      split
      · next hp =>
        refine .inr ⟨b, rfl, h.1, h.2.1, h.2.2.1, h.2.2.2.1, h.2.2.2.2.1, h.2.2.2.2.2, ?_, escB_punct hp⟩
        rintro ⟨k1, k2⟩
        rw [punct_digits b.toNat (by omega) k1] at hp; cases hp
      · next hp => exact tel_plain (by simpa using hp)
end Go.Proofs.YtpcpmjaphjkphaaDoor

/-
  Chapter 4: the fixed fact; Bytes.
-/
namespace Go.Proofs.YtpcpmjaphjkphaaDoor
open Go.RowKit

theorem awake4_a : ∃ s, parseS prg [97, 42, 92, 40, 98, 92, 41, 92, 49] = .inr (.cat [.rep (.one (spn 97 97)) 0 (-1), .group 1 (.one (spn 98 98)), .back 1], s) ∧ s.marks = [] := ⟨⟨9, 1, [1], []⟩, by kernel_rfl, rfl⟩
theorem awake4_b : ∃ s, parseS prg [42, 97] = .inr (.cat [.one (spn 42 42), .one (spn 97 97)], s) ∧ s.marks = [] := ⟨⟨2, 0, [], []⟩, by kernel_rfl, rfl⟩

set_option maxRecDepth 100000 in
set_option maxHeartbeats 1000000 in
theorem awake4_any (w : World) (hE : Env w) : Calls Tryd.prog 7 #[] w fun e w' => e = .returned (.bool true) ∧ Fr nob w w' := by
  obtain ⟨s1, p1, m1⟩ := awake4_a
  obtain ⟨s2, p2, m2⟩ := awake4_b
  have P1 := Lib.hid (bre_parse [97, 42, 92, 40, 98, 92, 41, 92, 49] w (by decide) hE)
  rw [p1] at P1
  have HE := Lib.hid hE; have M1 := Lib.hid m1; have M2 := Lib.hid m2; have HP2 := Lib.hid p2
  clear p1 p2 m1 m2 hE
  go_enter Tryd.func7, Tryd.ntmps7
  go_wp2_with fail
  refine P1.out.mono ?_
  rintro e w1 ⟨f1, i, y, mv, rfl, rn, ma⟩
  obtain ⟨u, hu, sn⟩ := RN_cat.1 rn
  obtain ⟨a, c, hs⟩ := sn.shape
  subst hs
  injection hu with hi hy
  subst hi; subst hy
  rw [M1.out] at ma
  obtain ⟨am, cm, hm⟩ := ownsRow_slice ma
  subst hm
  have RN1 := Lib.hid rn; have F1 := Lib.hid f1
  clear rn f1 ma sn
  have P2 := Lib.hid (fun (w' : World) (f : Fr nob w1 w') => bre_parse [42, 97] w' (by decide) ((HE.out.on F1.out).on f))
  rw [HP2.out] at P2
  have hbw := newAt0 w1 (.cells #[.slice a 3 c] 65)
  have HBW := Lib.hid hbw; clear hbw
  go_wp2_with fail
  refine (P2.out _ ((Fr.refl nob w1).alloc _)).mono ?_
  rintro e w2 ⟨f2, i2, y2, mv2, rfl, rn2, ma2⟩
  rw [M2.out] at ma2
  obtain ⟨am2, cm2, hm2⟩ := ownsRow_slice ma2
  subst hm2
  have hb2 := f2.heap HBW.out (fun x => x)
  have k0 := cell_at (j := 0) (v := .slice a 3 c) hb2 rfl
  have RN2 := Lib.hid rn2; have F2 := Lib.hid (((Fr.refl nob w1).alloc (.cells #[.slice a 3 c] 65)).trans' f2)
  have HB := Lib.hid (fun (w' : World) (h : RN nob w' (.cat [.rep (.one (spn 97 97)) 0 (-1), .group 1 (.one (spn 98 98)), .back 1]) (.iface 65 (.agg #[.slice a 3 c]))) => backs_any 3000000 _ _ w' (by simp [Nd.size, Nd.sizes]) (by simp [Nd.size, Nd.sizes]) h)
  rw [show Nd.backs (.cat [.rep (.one (spn 97 97)) 0 (-1), .group 1 (.one (spn 98 98)), .back 1]) = true from rfl] at HB
  have HZ := Lib.hid (fun (w' : World) (h : RN nob w' (.cat [.one (spn 42 42), .one (spn 97 97)]) (.iface i2 y2)) => size_any 3000000 _ _ w' (by simp [Nd.size, Nd.sizes]) (by simp [Nd.size, Nd.sizes]) h)
  rw [show Nd.size (.cat [.one (spn 42 42), .one (spn 97 97)]) = 3 from rfl] at HZ
  clear hb2 rn2 f2 ma2
  go_wp2_with fail
  refine (HB.out _ (RN1.out.on F2.out)).mono ?_
  rintro e w3 ⟨rfl, f3⟩
  have F3 := Lib.hid f3; clear f3
  go_wp2_with fail
  refine (HZ.out _ (RN2.out.on F3.out)).mono ?_
  rintro e w4 ⟨rfl, f4⟩
  have F4 := Lib.hid f4; clear f4
  go_wp2
  go_ret
  exact ⟨rfl, ((F1.out.trans' F2.out).trans' F3.out).trans' F4.out⟩

/-- Bytes, each as a node. -/
def ones (l : List UInt8) : List Nd := l.map fun b => .one (spn b.toNat b.toNat)
theorem ones_take {l : List UInt8} {k : Nat} (h : k < l.length) : ones (l.take (k + 1)) = ones (l.take k) ++ [.one (spn l[k].toNat l[k].toNat)] := by
  unfold ones; rw [List.take_succ_eq_append_getElem h, List.map_append]; rfl
theorem ones_length (l : List UInt8) : (ones l).length = l.length := by simp [ones]
theorem ones_size (l : List UInt8) : Nd.sizes (ones l) = l.length := by
  induction l with
  | nil => rfl
  | cons a r ih => show 1 + Nd.sizes (ones r) = _; rw [ih, List.length_cons]; omega
theorem telN_ones (ts : List (UInt8 × List UInt8)) : telN ts = ones (ts.map (·.1)) := by unfold telN ones; rw [List.map_map]; rfl

set_option maxRecDepth 100000 in
set_option maxHeartbeats 1000000 in
theorem bytes_any (n : Nd) (i : TypeId) (y : Value) (l : List UInt8) (u : Value) (w : World) (hl : l.length ≤ 100000) (hz : n.size ≤ 3000000) (hn : RN nob w n (.iface i y)) (hu : SB w l u) :
    Calls Tryd.prog 21 #[.iface i y, u] w fun e w' => ∃ r : Bool, e = .returned (.bool r) ∧ (r = true ↔ n.norm = (joined (ones l)).norm) ∧ Fr nob w w' := by
  obtain ⟨ua, uc, hus⟩ := hu.shape
  have HU := Lib.hid hu; have HN := Lib.hid hn; clear hu hn
  subst hus
  go_enter Tryd.func21, Tryd.ntmps21
  go_wp2_with fail
  go_loopw [5, 10] (fun v5 j wr => ∃ k : Nat, j = .int .i64 k ∧ k ≤ l.length ∧ Pts nob nob w wr (ones (l.take k)) v5 ∧ Fr nob w wr) (fun _ j _ => l.length - (intOf j).toNat)
  case atStart => exact ⟨0, rfl, Nat.zero_le _, Pts.nil _ _ _ _, Fr.refl _ _⟩
  case round =>
    obtain ⟨k, rfl, hk, hp, fr⟩ := hrel
    obtain ⟨av, cv, hv⟩ := hp.shape
    rw [ones_length, List.length_take, Nat.min_eq_left hk] at hv
    subst hv
    obtain ⟨v5, hv5⟩ : ∃ v5, v5 = Value.slice av k cv := ⟨_, rfl⟩
    have HV5 := Lib.hid hv5
    have HP := Lib.hid (show Pts nob nob w wr (ones (l.take k)) v5 from hv5 ▸ hp); have FR := Lib.hid fr
    by_cases hlt : k < l.length
    · obtain ⟨q, off, cap, he, hc⟩ := HU.out.get fr hlt
      injection he with e1 e2 e3
      subst e1; subst e3
      clear hp fr hv5
      obtain ⟨x, hx⟩ : ∃ x, l[k] = x := ⟨_, rfl⟩
      have HT := Lib.hid (ones_take hlt)
      rw [hx] at hc HT
      have ho := of_one x wr 5
      obtain ⟨c, hcc⟩ : ∃ c, spn x.toNat x.toNat = c := ⟨_, rfl⟩
      rw [hcc] at ho HT
      have HO := Lib.hid ho
      clear ho hcc hx e2
      go_wp2_with fail
      refine HO.out.mono ?_
      rintro e w2 ⟨rfl, f2⟩
      have F2 := Lib.hid (((Fr.refl nob wr).alloc _).trans' f2); clear f2
      have HP2 := Lib.hid (HP.out.on F2.out)
      have HWS := Lib.hid (Nat.le_trans FR.out.size F2.out.size)
      have hpl : (ones (l.take k)).length ≤ 2000000 := by rw [ones_length, List.length_take]; omega
      go_wp2_with (at_builtin; refine wpList_append_pts (W := w) (S := nob) (O := nob) rfl (.tmp 14) (.tmp 20) rfl (ones (l.take k)) (.one c) v5 _ _ _ (by rw [HV5.out]; rfl) HP2.out (fun _ x => x.elim) (fun _ x => x.elim) HWS.out rfl (by rfl) (by rw [RN]; rfl) hpl ?_; intro va wa hpa offa; rw [← HT.out] at hpa; obtain ⟨aa, ca, hea⟩ := hpa.shape; rw [ones_length, List.length_take, Nat.min_eq_left (by omega)] at hea; subst hea; have HPA := Lib.hid hpa; have HOA := Lib.hid offa; clear hpa offa)
      go_roundw
      case rel => exact ⟨k + 1, by go_num, by omega, HPA.out, (((Stp.refl nob w).trans (Stp.of (FR.out.trans' F2.out))).off HOA.out).fr⟩
      case measure => simp [intOf]; omega
    · obtain rfl : k = l.length := by omega
      have hp' := hp
      rw [List.take_of_length_le (Nat.le_refl _)] at hp'
      have hsn : SN nob wr (ones l) (.slice av l.length cv) := (hp'.sn (fun _ x => x.elim)).weak
      have HJ := Lib.hid (join_any (ones l) _ wr (by rw [ones_size]; omega) hsn)
      have hjz : (joined (ones l)).size ≤ 3000000 := by have := joined_le (ones l); rw [ones_size] at this; omega
      clear hp hp' hsn fr hv5
      go_wp2_with fail
      refine HJ.out.mono ?_
      rintro e w2 ⟨r, rfl, hr, f2⟩
      obtain ⟨ir, yr, rfl⟩ := hr.some (by
        have : (joined (ones l)).brn := joined_brn (fun t ht => by unfold ones at ht; obtain ⟨b, _, rfl⟩ := List.mem_map.1 ht; rfl)
        exact brn_nil this)
      have HS := Lib.hid (same_any 3000000 n (joined (ones l)) (.iface i y) (.iface ir yr) w2 hz hz hjz (HN.out.on (FR.out.trans' f2)) hr)
      have F2 := Lib.hid (FR.out.trans' f2)
      clear hr f2
      go_wp2_with fail
      refine HS.out.mono ?_
      rintro e w3 ⟨r, rfl, hr, f3⟩
      have HR := Lib.hid hr; have F3 := Lib.hid (F2.out.trans' f3); clear hr f3
      go_wp2
      go_ret
      exact ⟨r, rfl, HR.out, F3.out⟩
end Go.Proofs.YtpcpmjaphjkphaaDoor

/-
  The table of math/bits out of a row's condition; a world in which it lies.
-/
namespace Go.Proofs.YtpcpmjaphjkphaaDoor
open Go.ChangeShapes Go.WideShapes Go.ChangeAt Go.RowKit

namespace door
theorem own : ownKnob Tryd.prog.godebug = none := by kernel_rfl
theorem laidOut : laidOutB Tryd.prog = true := by kernel_rfl
theorem gTab : Tryd.prog.globalNamed "math/bits.deBruijn64tab" = some 0 := by kernel_rfl
theorem tTab : (Tryd.prog.globals[0]?).map (·.type) = some 144 := by kernel_rfl
abbrev list1 : List (String × DataW Unit) := [("math/bits.deBruijn64tab", Rows.laid_math_bits_deBruijn64tab)]
theorem list_eq : list1 = [("math/bits.deBruijn64tab", Lib.tabData .u8 (Lib.deBruijn64tab.map Int.ofNat))] := by kernel_rfl
theorem tab_len : (Lib.deBruijn64tab.map Int.ofNat).length = 64 := by decide

/-- The door's own heap meets the condition. -/
theorem met (os : Os) (args : Array Value) : laidMetH Tryd.prog list1 ((World.doorLaid Tryd.prog 14 os).forCall (fun _ _ => 0) ⟨#[], args, []⟩).memory :=
  laidMetH_of_parts3 (fuel := 8) (laidMet_of_run' 8 (by kernel_rfl) (by kernel_rfl)) (by kernel_rfl) (by kernel_rfl)

/-- What the condition gives a walk. -/
theorem tab {W : World} (h : laidMetH Tryd.prog list1 W) : Tab W := by
  rw [MakeChecks.laidMetH_plain _ _ _ (by kernel_rfl), list_eq] at h
  have ht := Lib.tabIs_of_head (P := Tryd.prog) (W := W) (t := 144) (e := 5) (n := 64) gTab tTab Tryd.underlying144 Tryd.underlying5 (by kernel_rfl) (by kernel_rfl) h
  intro j hj
  have hc := ht.cell gTab j (by rw [tab_len]; exact hj)
  rw [hc]
  congr 2
  have hl : j < Lib.deBruijn64tab.length := by have := tab_len; simp at this; omega
  simp [hl]
end door

end Go.Proofs.YtpcpmjaphjkphaaDoor

/-
  A law's row that lists laid variables, with the world's shape for the walk; what the library's variables hold then.
-/
namespace Go.Proofs.YtpcpmjaphjkphaaDoor
open Go.ChangeShapes Go.WideShapes Go.ChangeAt Go.RowKit
variable {H : Type} {enc : TypeId × Value → H}

theorem returns_door {a : Assume} {C : Checked} {os : Os} {f : FuncId} {fn : Func} {s : ChangeSpec} {conds : List PathCond} {apart fresh handsOn again : Bool} {X : World → Array Value → Prop}
    (hX : ∀ (w w' : World) (args : Array Value), w.heap = w'.heap → X w args → X w' args)
    (own : ownKnob C.prog.godebug = none) (started : os.Started) (noInit : C.prog.inits.idxOf? f = none) (hfn : C.prog.funcs[f]? = some fn)
    (witness : ∃ (w : World) (tape : Tape) (i : Input), w.os = os ∧ (w.forCall tape i).Shaped C.prog ∧ i.vars = [] ∧ Input.okWide C.prog (w.forCall tape i) .any w.heap.size f i ∧
      ((s.pre enc C.prog fn conds apart (w.forCall tape i).memory i.args ∧ X (w.forCall tape i).memory i.args) ∧ sizedMet enc C.prog fn (OpenSpec.ofChange s) apart (w.forCall tape i).memory i.args) ∧ a.holds C.prog (lone (Frame.enter C.prog f i.args .normal) [] (w.forCall tape i)))
    (contract : ∀ (W : World) (base : Nat) (args : Array Value) (ds gs : List (DataW H)) (before : List MemPlace),
      (∀ (j : Nat) t v, fn.params[j]? = some t → args[j]? = some v → Value.okWide C.prog W .any base t v) →
      DataW.Whole enc C.prog fn.params.toList s.vars apart W args.toList ds gs before →
      (DataW.weightsEach C.prog (fn.params.toList ++ s.plain.varTypes C.prog) (ds ++ gs)).all (· ≤ reachBytes) = true → X W args → W.ShapedOpen C.prog →
      Calls C.prog f args W fun e W' => ∃ v, e = .returned v ∧ s.post enc C.prog fn apart fresh handsOn again W args v W') :
    ReturnsInHanded a C os f .any (fun w args => (s.pre enc C.prog fn conds apart w args ∧ X w args) ∧ sizedMet enc C.prog fn (OpenSpec.ofChange s) apart w args) (s.post enc C.prog fn apart fresh handsOn again) := by
  refine returnsInHanded_of_calls own started noInit witness ?_
  intro w tape i _ hsh _ hok hpre _
  obtain ⟨_, _, _, fn', hfn', _, _, _, _, hval⟩ := hok
  obtain rfl : fn' = fn := Option.some.inj (hfn'.symm.trans hfn)
  obtain ⟨⟨⟨ds, gs, before, hw, _⟩, hx⟩, hz⟩ := hpre
  refine (contract (w.forCall tape i) w.heap.size i.args ds gs before hval (DataW.Whole.of_heap (w' := w.forCall tape i) (by rfl) hw) (hz.weights hw) (hX _ _ _ (by rfl) hx) hsh).mono fun e W' ⟨v, he, hp⟩ => ?_
  subst he
  exact ChangeSpec.post_blind hp

theorem door.env {W : World} (h : laidMetH Tryd.prog door.list1 W) (hs : W.ShapedOpen Tryd.prog) : Env W :=
  ⟨door.tab h, cell_of_shapedOpen_int (zero := #[.int .i64 0]) (t := 3) (k := .i64) hs (of_decide_eq_true (by kernel_rfl)) (by kernel_rfl) rfl (by kernel_rfl) (by kernel_rfl) Tryd.underlying3⟩

end Go.Proofs.YtpcpmjaphjkphaaDoor

/-
  A law's last step, for arguments of whatever types: the call returned true and below the old heap's size nothing has turned.
-/
namespace Go.Proofs.YtpcpmjaphjkphaaDoor
open Go.ChangeShapes Go.WideShapes Go.ChangeAt Go.RowKit

section
variable {H : Type} {enc : TypeId × Value → H} {P : Program}

theorem trodAll_stays (hl : laidOutB P = true) {W W' : World} {sp : Nat → Bool} (hb : Below W.heap.size W W') : ∀ (ts : List TypeId) (vs : List Value) (ds : List (DataW H)) (ps : List MemPlace),
    (∀ t ∈ ts, P.readableRec t = true ∧ t < P.types.size) → DataW.TrodAll enc P W 0 (fun _ => true) true ts vs ds ps → (∀ x ∈ ps, x.block < W.heap.size) → (∀ x ∈ ps, sp x.block = true) →
    DataW.TrodAll enc P W' 0 sp true ts vs ds ps
  | [], [], [], ps, _, h, _, _ => h
  | t :: ts, v :: vs, d :: ds, ps, hr, ⟨p, q, h1, h2, e⟩, hlt, hsp => by
    subst e
    refine ⟨p, q, ?_, ?_, rfl⟩
    · exact WideElems.Trod_stays hl (hr t (by simp)).1 (hr t (by simp)).2 h1 (fun x hx => hb.same (hlt x (by simp [hx]))) (fun x hx => hsp x (by simp [hx]))
    · exact trodAll_stays hl hb ts vs ds q (fun t ht => hr t (by simp [ht])) h2 (fun x hx => hlt x (by simp [hx])) (fun x hx => hsp x (by simp [hx]))
  | [], [], _ :: _, _, _, h, _, _ => h.elim
  | [], _ :: _, _, _, _, h, _, _ => h.elim
  | _ :: _, [], _, _, _, h, _, _ => h.elim
  | _ :: _, _ :: _, [], _, _, h, _, _ => h.elim

theorem okWide_array' {n : Nat} {e t : TypeId} {w : World} {r : Reach} {b : Nat} {v : Value} (ht : P.underlying t = some (.array n e)) (h : Value.okWide P w r b t v) : ∃ cs, v = .agg cs ∧ cs.size = P.cellsOf t := by
  simp only [Value.okWide, ht] at h
  obtain ⟨cs, h1, h2, _⟩ := h
  exact ⟨cs, h1, h2⟩

theorem ints_of_trod {w : World} {base : Nat} {spare : Nat → Bool} {held : Bool} {m : Nat} {k : IntKind} {e : TypeId} (he : P.underlying e = some (.int k)) : ∀ (cs : List Value) (xs : List (DataW H × List MemPlace)),
    cs.length = xs.length → (∀ i, i < xs.length → DataW.trod enc P w base spare held m e ((cs.drop i).take 1) = xs[i]?) → ∃ zs : List Int, cs = zs.map (Value.int k) ∧ ∀ z ∈ zs, (Lit.int k z).wf = true
  | [], _, _, _ => ⟨[], rfl, by simp⟩
  | c :: cs, [], h, _ => by simp at h
  | c :: cs, x :: xs, hl, h => by
    obtain ⟨zs, hz, hw⟩ := ints_of_trod he cs xs (by simpa using hl) (fun i hi => by simpa using h (i + 1) (by simp; omega))
    have h0 := h 0 (by simp)
    simp only [List.drop_zero, List.take_succ_cons, List.take_zero, List.getElem?_cons_zero] at h0
    obtain ⟨z, hc, _, wz⟩ := DataW.trod_int he h0
    simp only [List.cons.injEq, and_true] at hc
    refine ⟨z :: zs, by simp [hc, hz], ?_⟩
    intro y hy
    rcases List.mem_cons.1 hy with rfl | hy
    · exact wz
    · exact hw y hy

theorem list2_of {α : Type} {zs : List α} (h : zs.length = 2) : ∃ a b, zs = [a, b] := by
  match zs, h with
  | [a, b], _ => exact ⟨a, b, rfl⟩
theorem list4_of {α : Type} {zs : List α} (h : zs.length = 4) : ∃ a b c d, zs = [a, b, c, d] := by
  match zs, h with
  | [a, b, c, d], _ => exact ⟨a, b, c, d, rfl⟩

/-- An array of integers, by value. -/
theorem open_iarr {n : Nat} {e t : TypeId} {k : IntKind} {w w' : World} {r : Reach} {b base : Nat} {spare : Nat → Bool} {held : Bool} {v : Value} {d : DataW H} {p : List MemPlace}
    (ht : P.underlying t = some (.array n e)) (he : P.underlying e = some (.int k)) (hc : P.cellsOf e = 1) (hct : P.cellsOf t = n) (hv : Value.okWide P w r b t v) (h : DataW.Trod enc P w' base spare held t v d p) :
    ∃ zs : List Int, zs.length = n ∧ v = .agg (zs.map (Value.int k)).toArray ∧ ∀ z ∈ zs, (Lit.int k z).wf = true := by
  obtain ⟨cs, rfl, hsz⟩ := okWide_array' ht hv
  obtain ⟨fuel, hf⟩ := h
  obtain ⟨xs, m, _, _, hl, hn, hx⟩ := DataW.trod_array ht hf
  rw [hc] at hx
  have hl' : (Value.agg cs).cells.toList.length = n := by rw [hl, hct]
  obtain ⟨zs, hz, hw⟩ := ints_of_trod he (Value.agg cs).cells.toList xs (by rw [hl', hn]) (fun i hi => by simpa using hx i (by omega))
  have hzl : zs.length = n := by have := congrArg List.length hz; rw [hl', List.length_map] at this; exact this.symm
  refine ⟨zs, hzl, ?_, hw⟩
  have hcs : cs.toList = zs.map (Value.int k) := hz
  rw [← hcs]

/-- The last step of a law. -/
theorem law_post {f : Func} {s : ChangeSpec} {apart fresh handsOn again : Bool} {W W' : World} {args : Array Value} {ds gs : List (DataW H)} {before : List MemPlace} {tb : TypeId}
    (hvars : s.vars = []) (hres : f.resultTypes = #[tb]) (htb : P.underlying tb = some .bool) (hl : laidOutB P = true) (hrd : ∀ t ∈ f.params.toList, P.readableRec t = true ∧ t < P.types.size)
    (hsp : s.fn H (ds ++ gs) = { results := [.lit (.bool true)], args := ds })
    (hW : DataW.Whole enc P f.params.toList s.vars apart W args.toList ds gs before) (hb : Below W.heap.size W W') :
    s.post enc P f apart fresh handsOn again W args (.bool true) W' := by
  have hlt : ∀ p ∈ before, p.block < W.heap.size := fun p hp => hW.lt p hp
  have hold : ∀ p ∈ before, (fun b => decide (b < W.heap.size)) p.block = true := fun p hp => by simpa using hlt p hp
  have hres0 : ∀ (b : Nat) (sp : Nat → Bool) (hd : Bool), DataW.TrodAll enc P W' b sp hd f.resultTypes.toList ((Value.bool true).resultList f.resultTypes.size) (s.fn H (ds ++ gs)).results [] := by
    intro b sp hd; rw [hsp, hres]; exact trodAll_cons_mk (shut_bool htb _) trodAll_mk0
  obtain ⟨p, q, hA, hV, hpq, hz, hn⟩ := hW
  have hW : DataW.Whole enc P f.params.toList s.vars apart W args.toList ds gs before := ⟨p, q, hA, hV, hpq, hz, hn⟩
  have hV' := hV
  rw [hvars] at hV'
  obtain ⟨rfl, rfl⟩ := trodVars_none hV'
  simp only [List.append_nil] at hpq hsp hres0
  subst hpq
  have hargs : ∀ sp : Nat → Bool, (∀ x ∈ before, sp x.block = true) → DataW.TrodAll enc P W' 0 sp true f.params.toList args.toList (s.fn H (ds ++ [])).args before := by
    intro sp h; simp only [List.append_nil]; rw [hsp]; exact trodAll_stays hl hb _ _ _ _ hrd hA hlt h
  have hvs : ∀ sp : Nat → Bool, DataW.TrodVars enc P W' sp s.vars (s.fn H (ds ++ [])).vars [] := by
    intro sp; simp only [List.append_nil]; rw [hvars, hsp]; rfl
  refine ⟨ds, [], before, [], before, [], hW, by simpa using hres0 _ _ _, hargs _ hold, hvs _, World.keptBut_mono (fun x hx => ⟨hx, .inr (.inl hx)⟩) (hb.frame (· ∈ before)), fun _ => ?_⟩
  refine ⟨ok_one hres rfl (okWide_bool_mk htb _), (s.fn H (ds ++ [])).results ++ (s.fn H (ds ++ [])).args, [], before, ⟨[] ++ before, [], ?_, ?_, by simp, ?_, ?_⟩, ?_⟩
  · exact trodAll_append (hargs _ (fun _ _ => rfl)) (by simpa using hres0 _ _ _)
  · rw [hvars]; rfl
  · intro b off hp
    rw [hb.frozen (hlt _ hp)]
    exact hz b off hp
  · intro ha; exact hn ha
  · intro x hx _; exact hx
end

end Go.Proofs.YtpcpmjaphjkphaaDoor

/-
  A slice of bytes among a law's arguments.
-/
namespace Go.Proofs.YtpcpmjaphjkphaaDoor
open Go.ChangeShapes Go.WideShapes Go.ChangeAt Go.RowKit

section
variable {H : Type} {enc : TypeId × Value → H} {P : Program}

theorem byte_of_wf {n : Int} (h : (Lit.int .u8 n).wf = true) : ((UInt8.ofNat n.toNat).toNat : Int) = n := by
  simp [Lit.wf, IntKind.min, IntKind.max, IntKind.signed, IntKind.bits] at h
  have h2 : n.toNat < 256 := by omega
  simp [UInt8.toNat_ofNat']; omega

theorem open_bytes {t e : TypeId} {w : World} {r : Reach} {b base : Nat} {spare : Nat → Bool} {held : Bool} {v : Value} {d : DataW H} {p : List MemPlace}
    (ht : P.underlying t = some (.slice e)) (he : P.underlying e = some (.int .u8)) (hc : P.cellsOf e = 1) (hv : Value.okWide P w r b t v) (h : DataW.Trod enc P w base spare held t v d p) :
    ∃ l : List UInt8, l.length ≤ maxLen ∧ SB w l v := by
  obtain ⟨a0, len, cap, rfl⟩ := okWide_slice ht hv
  obtain ⟨fuel, hf⟩ := h
  rcases open_ints ht he hc hf with ⟨hcs, _⟩ | ⟨a, len', cap', zs, hcs, _, hl, hm, hz, _, hcell, hwz⟩
  · simp only [Value.cells, List.cons.injEq, and_true] at hcs
    injection hcs with e1 e2 e3
    subst e1; subst e2; subst e3
    exact ⟨[], Nat.zero_le _, .inl ⟨rfl, _, _, rfl⟩⟩
  · simp only [Value.cells, List.cons.injEq, and_true] at hcs
    injection hcs with e1 e2 e3
    subst e1; subst e2; subst e3
    have hlz : len ≤ zs.length := by rw [hz]; split <;> omega
    by_cases h0 : len = 0
    · subst h0; exact ⟨[], Nat.zero_le _, .inl ⟨rfl, _, _, rfl⟩⟩
    · obtain ⟨g, off, rfl, hcc⟩ := ints_at hcell (by omega)
      refine ⟨(zs.take len).map fun n => UInt8.ofNat n.toNat, by simp; omega, .inr ⟨g, off, cap, by simp [Nat.min_eq_left hlz], ?_, ?_⟩⟩
      · exact World.block_lt_of_cell? w _ (hcc 0 (by omega))
      · intro j x hj
        have hjl : j < len := by
          have := (List.getElem?_eq_some_iff.1 hj).1
          simp at this; omega
        rw [hcc j (by omega)]
        have hx : x = UInt8.ofNat (zs.getD j 0).toNat := by
          have hjz : j < zs.length := by omega
          simp [hjl, hjz] at hj ⊢
          exact hj.symm
        rw [hx, byte_of_wf]
        apply hwz
        have hjz : j < zs.length := by omega
        simp [hjz]
end

end Go.Proofs.YtpcpmjaphjkphaaDoor
