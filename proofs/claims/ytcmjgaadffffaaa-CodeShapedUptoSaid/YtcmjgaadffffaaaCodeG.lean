/-
  Walks of package code: Compile.
-/
import Derived.Test.YtcmjgaadffffaaaCodeF
import Derived.Test.YtcmjgaadffffaaaTreeK
import Derived.Test.YtcmjgaadffffaaaOctetB
namespace Go.Proofs.Ytcmjgaadffffaaa
open Go.RowKit

/-- The program of a node. -/
def Nd.comp0 (n : Nd) : Bd := (⟨[], n.groups, 0, false, false⟩ : Bd).put (mkI 3 0 0)
def Nd.comp (n : Nd) : Bd := ((n.lay n.comp0).put (mkI 3 1 0)).put (mkI 9 0 0)
abbrev progV (sl : Value) (s : Bd) : Value := .agg #[sl, .int .i64 s.groups, .int .i64 s.loops, .bool s.backs]
def Bd.zero : Bd := ⟨[], 0, 0, false, false⟩
/-- A program that lies by itself. -/
def ProgIs (w0 w : World) (s : Bd) (sl : Value) : Prop := w.ownsRow 0 43 7 sl s.ins.length (insC s.ins) ∧ (∀ k, sl.ownBlock = some k → w0.heap.size ≤ k)
/-- What Compile answers. -/
def CompAns (n : Nd) (w : World) (e : Ending) (w' : World) : Prop := Fr nob w w' ∧
  ((n.right = false ∧ e = .returned (.tuple #[progV (.slice none 0 0) Bd.zero, .int .i64 2])) ∨
   (n.right = true ∧ n.comp.full = true ∧ e = .returned (.tuple #[progV (.slice none 0 0) Bd.zero, .int .i64 3])) ∨
   (n.right = true ∧ n.comp.full = false ∧ ∃ sl, e = .returned (.tuple #[progV sl n.comp, .int .i64 0]) ∧ ProgIs w w' n.comp sl))

theorem results_P {fn : Func} {p q : Tmp} (h : fn.results = #[.cell p 32, .tmp q]) {tmps : Array Value} {b : Nat} (ht : tmps.getD p undef = .pointer (some ⟨b, 0, none⟩)) {u : Value} (hq : tmps.getD q undef = u) {W : World} {sl : Value} {s : Bd}
    (hb : W.heap[b]? = some (.cells #[sl, .int .i64 s.groups, .int .i64 s.loops, .bool s.backs] 32 (0, 0))) : (results fn tmps).run Try.prog W = .ok (.tuple #[progV sl s, u]) W := by
  have c0 := cell_at (j := 0) (v := sl) hb rfl
  have c1 := cell_at (j := 1) (v := .int .i64 s.groups) hb rfl
  have c2 := cell_at (j := 2) (v := .int .i64 s.loops) hb rfl
  have c3 := cell_at (j := 3) (v := .bool s.backs) hb rfl
  have ht' : tmps[p]?.getD undef = .pointer (some ⟨b, 0, none⟩) := by rw [← ht]; simp
  have hq' : tmps[q]?.getD undef = u := by rw [← hq]; simp
  simp only [results, h]
  simp [ht', hq', go_sem, c0, c1, c2, c3]

mutual
/-- What is right can be laid. -/
theorem look_fine : ∀ (n : Nd) (o : Int) (c : List Int) (x : Int × List Int), n.look o c = some x → 0 ≤ o → o + n.size ≤ 3000001 → n.fine
  | .cat l, o, c, x, h, h0, hb => by
    rw [Nd.fine]; rw [Nd.look] at h; split at h
    · exact looks_fine l o c x h h0 (by simp only [Nd.size] at hb; omega)
    · cases h
  | .alt l, o, c, x, h, h0, hb => by
    rw [Nd.fine]; rw [Nd.look] at h; split at h
    · next hc =>
      refine ⟨fun e => ?_, looks_fine l o c x h h0 (by simp only [Nd.size] at hb; omega)⟩
      subst e; simp at hc
    · cases h
  | .rep y mn mx, o, c, x, h, h0, hb => by
    rw [Nd.fine]; rw [Nd.look] at h; split at h
    · next hc =>
      unfold repOk at hc
      simp only [Bool.and_eq_true, Bool.or_eq_true, decide_eq_true_eq, beq_iff_eq] at hc
      exact ⟨by omega, by omega, look_fine y o c x h h0 (by simp only [Nd.size] at hb; omega)⟩
    · cases h
  | .group k y, o, c, x, h, h0, hb => by
    rw [Nd.fine]; rw [Nd.look] at h; split at h
    · next hc =>
      simp only [beq_iff_eq] at hc
      simp only [Nd.size] at hb
      split at h
      · cases h
      · next a b e => exact ⟨by omega, look_fine y (o + 1) c _ e (by omega) (by omega)⟩
    · cases h
  | .back _, _, _, _, _, _, _ => by simp only [Nd.fine]
  | .nil, _, _, _, _, _, _ => by simp only [Nd.fine]
  | .empty, _, _, _, _, _, _ => by simp only [Nd.fine]
  | .one _, _, _, _, _, _, _ => by simp only [Nd.fine]
  | .start, _, _, _, _, _, _ => by simp only [Nd.fine]
  | .fin, _, _, _, _, _, _ => by simp only [Nd.fine]
theorem looks_fine : ∀ (l : List Nd) (o : Int) (c : List Int) (x : Int × List Int), Nd.looks l o c = some x → 0 ≤ o → o + Nd.sizes l ≤ 3000000 → Nd.fines l
  | [], _, _, _, _, _, _ => by rw [Nd.fines]; trivial
  | t :: ts, o, c, x, h, h0, hb => by
    rw [Nd.fines]
    simp only [Nd.looks] at h
    simp only [Nd.sizes] at hb
    split at h
    · cases h
    · next a b e =>
      have hl := Nd.look_le t o c a b e
      exact ⟨look_fine t o c _ e h0 (by omega), looks_fine ts a b x h (by omega) (by omega)⟩
end
theorem right_fine {n : Nd} (h : n.right = true) (hn : n.size ≤ 3000000) : n.fine := by
  unfold Nd.right at h
  cases hq : n.look 0 [] with
  | none => rw [hq] at h; cases h
  | some x => exact look_fine n 0 [] x hq (Int.le_refl _) (by omega)

theorem comp0_ok (n : Nd) : n.comp0.ok := ⟨by simp [Nd.comp0, Bd.put], by simp [Nd.comp0, Bd.put]⟩

set_option maxRecDepth 100000 in
set_option maxHeartbeats 2000000 in
theorem compile_any (n : Nd) (v : Value) (w : World) (hn : n.size ≤ 3000000) (h : RN nob w n v) :
    Calls Try.prog 8 #[v] w (CompAns n w) := by
  obtain ⟨w0, hw0⟩ : ∃ w0, w0 = w.alloc (.cells #[.slice none 0 0, .int .i64 0, .int .i64 0, .bool false] 32) := ⟨_, rfl⟩
  have f0 : Fr nob w w0 := by rw [hw0]; exact (Fr.refl _ _).alloc _
  have hb0 : w0.heap[w.heap.size]? = some (.cells #[.slice none 0 0, .int .i64 0, .int .i64 0, .bool false] 32 (0, 0)) := by rw [hw0]; exact newAtB _ _
  have hsh := h.shape
  have R := Lib.hid (right_of n v w0 hn (h.on f0))
  have HX := Lib.hid (h.on f0); have F0 := Lib.hid f0; have HB := Lib.hid hb0; have HW := Lib.hid hw0
  have rz : ∀ w', Fr nob w0 w' → (w'.cell? ⟨w.heap.size, 0, none⟩ = some (.slice none 0 0) ∧ w'.cell? ⟨w.heap.size, 1, none⟩ = some (.int .i64 0) ∧ w'.cell? ⟨w.heap.size, 2, none⟩ = some (.int .i64 0) ∧ w'.cell? ⟨w.heap.size, 3, none⟩ = some (.bool false)) ∧
      (w'.frozen? ⟨w.heap.size, 0, none⟩ = false ∧ w'.frozen? ⟨w.heap.size, 1, none⟩ = false ∧ w'.frozen? ⟨w.heap.size, 2, none⟩ = false ∧ w'.frozen? ⟨w.heap.size, 3, none⟩ = false) := fun w' f => by
    have hb := f.heap hb0 (fun x => x)
    exact ⟨⟨cell_at hb rfl, cell_at hb rfl, cell_at hb rfl, cell_at hb rfl⟩, unfrozen_at hb _, unfrozen_at hb _, unfrozen_at hb _, unfrozen_at hb _⟩
  have RZ := Lib.hid rz
  have hlt := lt_heap hb0
  clear h f0 hb0 hw0 rz
  go_enter Try.func8, Try.ntmps8
  go_wp2_with (rw [← HW.out])
  refine R.out.mono ?_
  clear R
  cases hr : n.right with
  | false =>
    rintro e w1 ⟨rfl, f1⟩
    obtain ⟨⟨c0, c1, c2, c3⟩, d0, d1, d2, d3⟩ := RZ.out w1 f1
    have HR := Lib.hid hr
    go_wp2
    (try simp only [Exit.inBlock, Exit.then])
    refine bodyPost_ret (results_P (s := Bd.zero) (sl := .slice none 0 0) (by rfl) (by rfl) (by rfl) (setFour_heap (f1.heap HB.out (fun x => x)) _ _ _ _)) rfl ⟨setFour_fr (F0.out.trans' f1) (Nat.le_refl _) _ _ _ _, .inl ⟨HR.out, rfl⟩⟩
  | true =>
    rintro e w1 ⟨rfl, f1⟩
    have HR := Lib.hid hr
    have HF := Lib.hid (right_fine hr hn)
    have FR1 := Lib.hid f1
    clear hr f1
    go_wp2_with fail
    refine (groups_any n.size n v w1 (Nat.le_refl _) hn (HX.out.on FR1.out)).mono ?_
    rintro e w2 ⟨rfl, f2⟩
    have FR2 := Lib.hid (FR1.out.trans' f2)
    obtain ⟨w3, hw3⟩ : ∃ w3, w3 = w2.alloc (.cells #[.slice none 0 0, .int .i64 n.groups, .int .i64 0, .bool false, .bool false] 58) := ⟨_, rfl⟩
    have f3 : Fr nob w0 w3 := by rw [hw3]; exact FR2.out.alloc _
    have B3 : BAt w2.heap.size ⟨[], n.groups, 0, false, false⟩ none w3 := ⟨.slice none 0 0, by rw [hw3]; exact newAtB _ _, World.ownsRow_nil _ _ _ _, rfl, by simp⟩
    have hbl : w0.heap.size ≤ w2.heap.size := FR2.out.size
    have HW3 := Lib.hid hw3; have F3 := Lib.hid f3; have HB3 := Lib.hid B3
    clear f2 hw3 f3 B3
    go_wp2_with (rw [← HW3.out])
    refine (put_any w2.heap.size _ none (mkI 3 0 0) w3 HB3.out).mono ?_
    rintro e w4 ⟨rfl, g4, B4, f4, h4⟩
    have HB4 := Lib.hid (show BAt w2.heap.size n.comp0 g4 w4 from B4)
    have HX4 := Lib.hid (RN.keep f4 (S := LS w2.heap.size none) (S' := LS w2.heap.size g4) (fun _ _ x => x) (LS.late h4) n v (RN.keep (S := nob) (S' := LS w2.heap.size none) F3.out (fun _ _ x => x.elim) (fun k hk hl => by
      rcases hl with rfl | hl
      · omega
      · cases hl) n v HX.out))
    have F4 := Lib.hid f4; have H4 := Lib.hid h4
    clear B4 f4 h4
    go_wp2_with fail
    refine (node_all n.size n (Nat.le_refl _) hn HF.out v w4 w2.heap.size n.comp0 g4 (comp0_ok n) HB4.out HX4.out).mono ?_
    rintro e w5 ⟨rfl, g5, B5, f5, h5⟩
    have HB5 := Lib.hid B5
    have F5 := Lib.hid (F4.out.trans f5 (LS.late H4.out))
    have H5 := Lib.hid (show ∀ j, g5 = some j → w3.heap.size ≤ j from fun j hj => by
      rcases h5 j hj with h | h
      · rcases H4.out j h with h | h
        · cases h
        · exact h
      · have := F4.out.size; omega)
    have ok5 := Lib.hid ((up_lay n _ (comp0_ok n)).ok (comp0_ok n))
    obtain ⟨s5, hs5⟩ : ∃ s5, n.lay n.comp0 = s5 := ⟨_, rfl⟩
    have HC := Lib.hid (show n.comp = (s5.put (mkI 3 1 0)).put (mkI 9 0 0) by rw [← hs5]; rfl)
    rw [hs5] at HB5 ok5
    clear B5 f5 h5 hs5
    go_wp2_with fail
    refine (put_any w2.heap.size s5 g5 (mkI 3 1 0) w5 HB5.out).mono ?_
    rintro e w6 ⟨rfl, g6, B6, f6, h6⟩
    have HB6 := Lib.hid B6
    have hl5 : ∀ j, g5 = some j → none = some j ∨ w3.heap.size ≤ j := fun j hj => .inr (H5.out j hj)
    have F6 := Lib.hid (F5.out.trans f6 (LS.late hl5))
    have H6 := Lib.hid (show ∀ j, g6 = some j → w3.heap.size ≤ j from fun j hj => by
      rcases h6 j hj with h | h
      · exact H5.out j h
      · have := F5.out.size; omega)
    clear B6 f6 h6 hl5
    go_wp2_with fail
    refine (put_any w2.heap.size _ g6 (mkI 9 0 0) w6 HB6.out).mono ?_
    rintro e w7 ⟨rfl, g7, B7, f7, h7⟩
    have hl6 : ∀ j, g6 = some j → none = some j ∨ w3.heap.size ≤ j := fun j hj => .inr (H6.out j hj)
    have F7 := F6.out.trans f7 (LS.late hl6)
    have H7 := Lib.hid (show ∀ j, g7 = some j → w3.heap.size ≤ j from fun j hj => by
      rcases h7 j hj with h | h
      · exact H6.out j h
      · have := F6.out.size; omega)
    rw [← HC.out] at B7
    have FW := Lib.hid (show Fr nob w0 w7 from F3.out.trans F7 (fun i hi hl => by
      rcases hl with rfl | hl
      · omega
      · cases hl))
    obtain ⟨sl, hb7, hown, hg, hne⟩ := B7
    have rb := ruleB hb7
    obtain ⟨sa, sc, rfl⟩ := ownsRow_slice hown
    have HOWN := Lib.hid hown; have HG := Lib.hid hg
    obtain ⟨⟨c0, c1, c2, c3⟩, d0, d1, d2, d3⟩ := RZ.out w7 FW.out
    clear f7 h7 hl6 F7 hb7 hown hg
    cases hfull : n.comp.full with
    | true =>
      rw [hfull] at rb
      have HFU := Lib.hid hfull
      clear hfull
      go_wp2
      (try simp only [Exit.inBlock, Exit.then])
      refine bodyPost_ret (results_P (s := Bd.zero) (sl := .slice none 0 0) (by rfl) (by rfl) (by rfl) (setFour_heap (FW.out.heap HB.out (fun x => x)) _ _ _ _)) rfl ⟨setFour_fr (F0.out.trans' FW.out) (Nat.le_refl _) _ _ _ _, .inr (.inl ⟨HR.out, HFU.out, rfl⟩)⟩
    | false =>
      rw [hfull] at rb
      have HFU := Lib.hid hfull
      clear hfull
      obtain ⟨C, hC⟩ : ∃ C, n.comp = C := ⟨_, rfl⟩
      have HCC := Lib.hid hC
      rw [hC] at rb HOWN HFU
      clear hC
      go_wp2
      (try simp only [Exit.inBlock, Exit.then])
      refine bodyPost_ret (results_P (s := C) (sl := .slice sa C.ins.length sc) (by rfl) (by rfl) (by rfl) (setFour_heap (FW.out.heap HB.out (fun x => x)) _ _ _ _)) rfl ⟨setFour_fr (F0.out.trans' FW.out) (Nat.le_refl _) _ _ _ _, .inr (.inr ⟨HR.out, by rw [HCC.out]; exact HFU.out, .slice sa C.ins.length sc, by rw [HCC.out]; rfl, ?_, fun k hk => ?_⟩)⟩
      · rw [HCC.out]
        have h : ∀ (x : World) (j : Nat) (v : Value), Fr (fun k => k = w.heap.size) w7 x → Fr (fun k => k = w.heap.size) w7 (x.setCell ⟨w.heap.size, j, none⟩ v) := fun x j v hx => hx.setCell (p := ⟨w.heap.size, j, none⟩) (fun _ => rfl) v
        refine ownsRow_fr HOWN.out (h _ _ _ (h _ _ _ (h _ _ _ (h _ _ _ (Fr.refl _ _))))) (fun k hk e => ?_)
        have := H7.out k (HG.out.symm.trans (by rw [← HCC.out] at hk; exact hk))
        have := F3.out.size
        omega
      · have := H7.out k (HG.out.symm.trans (by rw [← HCC.out] at hk; exact hk))
        have := F3.out.size; have := F0.out.size
        omega

end Go.Proofs.Ytcmjgaadffffaaa
