/-
  Merged texts of this claim: BrkM, BrkI.
-/
import Derived.Deep.DeepCutAuto
import Derived.Deep.RegionWith
import Derived.Test.YtepeomphikhbkaaGreatDoorM13
import Derived.Test.YtepeomphikhbkaaGreatDoorM14

/-
  Walks of the document's Parse. Printed by tools/rparse02.py.
-/
namespace Go.Proofs.YtepeomphikhbkaaGreatDoor
open Go.RowKit

theorem stop_seq {P : Program} {Q : Exit → Act → World → Prop} {a : Act} {w : World} {ops : Array Oper} {b : Bool} {c : Code} (n : Nat) (h : ∀ X : Prop, Hid (((Code.region n ops b).seq c).wp P Q a w → X) → X) : ((Code.region n ops b).seq c).wp P Q a w := h _ (Lib.hid id)
abbrev AtR (w : World) (b : Nat) (s : S4) : Prop := w.heap[b]? = some (.cells #[.int .u64 s.a, .int .u64 s.b, .int .u64 s.c, .int .u64 s.d] 31 (0, 0))
def RS (l : List UInt8) (F : (Int × Nat) ⊕ (S4 × Nat)) (fst : Bool) (n k : Nat) (acc : S4) : Prop :=
  if fst then acc = S4.zero ∧ n = l.length + 2 ∧ lopF l (l.length + 1) (prt l k) = F else lop l n k acc = F
theorem orF_zero {l : List UInt8} {k : Nat} : orF S4.zero (prt l k) = prt l k := by
  cases h : prt l k with
  | inl z => rfl
  | inr x => have := (prt_next h).2.2; simp only [orF]; rw [zero_or this]
theorem RS.go {l : List UInt8} {F : (Int × Nat) ⊕ (S4 × Nat)} {fst : Bool} {m k : Nat} {acc : S4} (h : RS l F fst (m + 1) k acc) (hg : fst = true ∨ l[k]? ≠ some 93) : lopF l m (orF acc (prt l k)) = F := by
  unfold RS at h
  cases fst with
  | true =>
    simp only [if_true] at h
    obtain ⟨rfl, h1, h2⟩ := h
    obtain rfl : m = l.length + 1 := by omega
    rw [orF_zero]; exact h2
  | false =>
    rw [if_neg (by simp)] at h
    rw [← h]
    exact (lop_go (hg.resolve_left (by simp))).symm
theorem RS.halt {l : List UInt8} {F : (Int × Nat) ⊕ (S4 × Nat)} {m k : Nat} {acc : S4} (h : RS l F false (m + 1) k acc) (hg : l[k]? = some 93) : F = .inr (acc, k) := by
  unfold RS at h
  rw [if_neg (by simp)] at h
  rw [← h]; exact lop_end hg
theorem itmN_err {l : List UInt8} {a : Nat} {k : UInt8} {z : Int × Nat} (h : itmN l a k = .inl z) : z.1 ≠ 0 := by
  unfold itmN at h
  split at h
  · injection h with h; subst h; simp
  · split at h
    · split at h
      · injection h with h; subst h; simp
      · cases h
    · split at h
      · cases h
      · injection h with h; subst h; simp
theorem itm_err {l : List UInt8} {a : Nat} {z : Int × Nat} (h : itm l a = .inl z) : z.1 ≠ 0 := by
  unfold itm at h
  split at h
  · injection h with h; subst h; simp
  · split at h
    · cases h
    · split at h
      · exact itmN_err h
      · cases h
theorem RS.next {l : List UInt8} {F : (Int × Nat) ⊕ (S4 × Nat)} {m k p : Nat} {acc s : S4} (h : lopF l m (orF acc (prt l k)) = F) (hn : lopN l m (orF acc (prt l k))) (hp : prt l k = .inr (s, p)) :
    RS l F false m p (acc.or s) ∧ p ≤ l.length ∧ l.length < m + p := by
  rw [hp] at h hn
  refine ⟨?_, hn _ rfl⟩
  unfold RS
  rw [if_neg (by simp)]
  exact h
theorem RS.bad {l : List UInt8} {F : (Int × Nat) ⊕ (S4 × Nat)} {m k : Nat} {acc : S4} {z : Int × Nat} (h : lopF l m (orF acc (prt l k)) = F) (hp : prt l k = .inl z) : F = .inl z := by
  rw [← h, hp]; rfl
theorem rng_yes {l : List UInt8} {k : Nat} (h : rng l k = true) : ∃ h : k + 1 < l.length, l[k] = 45 ∧ l[k + 1] ≠ 93 := by
  unfold rng at h
  simp only [Bool.and_eq_true, decide_eq_true_eq, beq_iff_eq, Bool.not_eq_true', beq_eq_false_iff_ne] at h
  obtain ⟨⟨h1, h2⟩, h3⟩ := h
  exact ⟨h1, (List.getElem?_eq_some_iff.1 h2).2, fun e => h3 (by rw [List.getElem?_eq_getElem h1, e])⟩
theorem rng_no {l : List UInt8} {k : Nat} (h : rng l k = false) : l.length ≤ k + 1 ∨ (∃ h : k + 1 < l.length, l[k] ≠ 45) ∨ ∃ h : k + 1 < l.length, l[k] = 45 ∧ l[k + 1] = 93 := by
  by_cases h1 : k + 1 < l.length
  · by_cases h2 : l[k] = 45
    · by_cases h3 : l[k + 1] = 93
      · exact .inr (.inr ⟨h1, h2, h3⟩)
      · exfalso
        unfold rng at h
        rw [List.getElem?_eq_getElem h1, List.getElem?_eq_getElem (by omega : k < l.length)] at h
        simp [h1, h2, h3] at h
    · exact .inr (.inl ⟨h1, h2⟩)
  · exact .inl (by omega)
def PAns (R : (Int × Nat) ⊕ (S4 × Nat)) (w : World) (e : Ending) (w' : World) : Prop := e = .returned (prsV R) ∧ Fr nob w w'
abbrev RInv (l : List UInt8) (w : World) (F : (Int × Nat) ⊕ (S4 × Nat)) (n : Nat) (v1 v10 : Value) (wr : World) : Prop :=
  ∃ (k : Nat) (acc : S4) (fst : Bool), v1 = .int .i64 k ∧ v10 = .bool fst ∧ AtR wr (w.heap.size + 1) acc ∧ AtR wr w.heap.size S4.zero ∧ AtR wr (w.heap.size + 2) S4.zero ∧ Fr nob w wr ∧ acc.fit ∧ k ≤ l.length ∧ l.length < n + k ∧ RS l F fst n k acc

end Go.Proofs.YtepeomphikhbkaaGreatDoor

/-
  Walks of package bracket: Parse. Printed by tools/parse02.py.
-/
namespace Go.Proofs.YtepeomphikhbkaaGreatDoor
open Go.RowKit

abbrev PInv (l : List UInt8) (w0 : World) (b r4 r9 : Nat) (F : (Int × Nat) ⊕ (S4 × Nat)) (n : Nat) (wr : World) : Prop :=
  ∃ R s, PtEnd b l 0 s R wr ∧ At4 wr r9 s ∧ At4 wr r4 S4.zero ∧ Fr nob w0 wr ∧ lopF l n R = F ∧ lopN l n R

set_option maxRecDepth 100000 in
set_option maxHeartbeats 8000000 in
theorem parse_any (l : List UInt8) (a : Nat) (w : World) (hl : l.length ≤ 100000) (ha : a ≤ l.length) (hE : Env w) :
    Calls Tryz.prog 70 #[.string ⟨l.toArray⟩, .int .i64 a] w fun e w' => e = .returned (prsV (prs l a)) ∧ Fr nob w w' := by
  obtain ⟨w0, hw0⟩ : ∃ w0, w0 = (w.alloc (.cells #[.int .u64 0, .int .u64 0, .int .u64 0, .int .u64 0] 85)).alloc (.cells #[.string ⟨l.toArray⟩, .int .i64 a, .int .i64 0, .int .i64 0] 151) := ⟨_, rfl⟩
  have f0 : Fr nob w w0 := by rw [hw0]; exact ((Fr.refl _ _).alloc _).alloc _
  have hw2 := hE.1
  have hz0 : w0.heap[w.heap.size]? = some (.cells #[.int .u64 0, .int .u64 0, .int .u64 0, .int .u64 0] 85 (0, 0)) := by rw [hw0]; exact heap_alloc_lt _ (newAt _ _)
  have hr0 : Rd w0 (w.heap.size + 1) l a 0 0 := by
    rw [hw0]; unfold Rd
    have := newAt (w.alloc (.cells #[.int .u64 0, .int .u64 0, .int .u64 0, .int .u64 0] 85)) (.cells #[.string ⟨l.toArray⟩, .int .i64 a, .int .i64 0, .int .i64 0] 151)
    simpa using this
  have hb2 : 2 ≤ w.heap.size + 1 := Env.big hE
  have hE0 := hE.on f0
  obtain ⟨b, hb⟩ : ∃ b, w.heap.size + 1 = b := ⟨_, rfl⟩
  rw [hb] at hr0 hb2
  have rr0 := rule4 hr0
  have hal : (a : Int) ≤ l.length := by omega
  have ha0 : (0 : Int) ≤ a := by omega
  obtain ⟨d0, hd0⟩ : ∃ d, [94].isPrefixOf (l.drop a) = d := ⟨_, rfl⟩
  have hc0 : ∀ w', Fr nob w0 w' → _ := fun w' f => ahead_any b l [94] a 0 0 w' (by omega) (by simp) ha (hr0.on f)
  rw [hd0] at hc0
  have C0 := Lib.hid hc0; have HR0 := Lib.hid hr0; have HZ0 := Lib.hid hz0; have FW0 := Lib.hid f0; have HE0 := Lib.hid hE0; have HW0 := Lib.hid hw0; have HBB := Lib.hid hb
  have hbs : w.heap.size < b := by omega
  clear hc0 hr0 hz0 f0 hE0 hw0 hE hb hw2
  cases d0 with
  | true =>
    have HD0 := Lib.hid hd0; clear hd0
    go_enter Tryz.func70, Tryz.ntmps70
    go_wp2_with fail
    rw [← HW0.out]
    simp only [HBB.out]
    refine (C0.out w0 (Fr.refl _ _)).mono ?_
    rintro e w1 ⟨rfl, f1⟩
    have HR1 := Lib.hid (HR0.out.on f1); have HZ1 := Lib.hid (f1.heap HZ0.out (fun x => x)); have FW1 := Lib.hid (FW0.out.trans' f1); have HE1 := Lib.hid (HE0.out.on f1)
    clear f1
    have hlt : a + 1 ≤ l.length := by
      have := (List.getElem?_eq_some_iff.1 (pre1.1 HD0.out)).1
      omega
    have rr1 := rule4 HR1.out
    obtain ⟨w2, hw2⟩ : ∃ w2, w2 = w1.setCell ⟨b, 1, none⟩ (.int .i64 ((a : Int) + 1)) := ⟨_, rfl⟩
    have HR2 := Lib.hid (show Rd w2 b l ((a + 1 : Nat) : Int) 0 0 by
      rw [hw2, show ((a + 1 : Nat) : Int) = (a : Int) + 1 by omega]; exact heap_setCell_at HR1.out 1 _)
    have HZ2 := Lib.hid (show w2.heap[w.heap.size]? = some (.cells #[.int .u64 0, .int .u64 0, .int .u64 0, .int .u64 0] 85 (0, 0)) by rw [hw2]; exact heap_setCell_ne HZ1.out (by simp only; omega) _)
    have FW2 := Lib.hid (show Fr nob w w2 by rw [hw2]; exact Fr.setCell (p := ⟨b, 1, none⟩) FW1.out (fun h => absurd h (by simp only; omega)) _)
    have HE2 := Lib.hid (show Env w2 by rw [hw2]; exact HE1.out.on2 (Fr.setCell (S := fun k => k = b) (p := ⟨b, 1, none⟩) (Fr.refl _ _) (fun _ => rfl) _) hb2)
    have HW2 := Lib.hid hw2
    clear hw2
    go_wp2_with fail
    rw [← HW2.out]
    refine (part_any b l (a + 1) 0 w2 hl hlt hb2 HE2.out HR2.out).mono ?_
    rintro e w3 ⟨s, rfl, hs, f3, hend⟩
    have hz3 := f3.heap HZ2.out (fun e => by omega)
    obtain ⟨w4, hw4⟩ : ∃ w4, w4 = w3.alloc (.cells #[.int .u64 s.a, .int .u64 s.b, .int .u64 s.c, .int .u64 s.d] 85) := ⟨_, rfl⟩
    have f34 : Fr nob w3 w4 := by rw [hw4]; exact (Fr.refl _ _).alloc _
    have hbw2 := lt_heap HR2.out
    have hz4 := f34.heap hz3 (fun x => x)
    have hlz4 := lt_heap hz3
    obtain ⟨r9, hr9⟩ : ∃ r, w3.heap.size = r := ⟨_, rfl⟩
    have h94 : At4 w4 r9 s := by rw [hw4, ← hr9]; exact newAt _ _
    have hb9 : b < r9 := by rw [← hr9]; exact Nat.lt_of_lt_of_le hbw2 f3.size
    have F4 := Lib.hid ((FW2.out.trans f3 (fun i hi e => by omega)).trans' f34)
    have HE4 := Lib.hid ((HE2.out.on2 f3 hb2).on f34)
    have hend4 := hend.to (w' := w4) (fun x r q h => h.on f34)
    have hF : prs l a = prsNot _ (lopF l (l.length + 1) (prt l (a + 1))) := prs_yes HD0.out
    have hN0 : lopN l (l.length + 1) (prt l (a + 1)) := fun x hx => by
      have := prt_next hx; exact ⟨this.2.1, by omega⟩
    obtain ⟨F, hFF⟩ : ∃ F, lopF l (l.length + 1) (prt l (a + 1)) = F := ⟨_, rfl⟩
    rw [hFF] at hF
    have HF := Lib.hid hF; have HW4 := Lib.hid hw4
    have HI := Lib.hid (show PInv l w b w.heap.size r9 F (l.length + 1) w4 from ⟨_, s, hend4, h94, hz4, F4.out, hFF, hN0⟩)
    have H9 := Lib.hid hr9
    clear hz3 hw4 f34 hz4 h94 hend hend4 hF hN0 hFF hr9 hs f3
    go_wp2_with fail
    rw [← HW4.out]
    simp only [H9.out]
    go_loopg [] (l.length + 1) (fun n wr => PInv l w b w.heap.size r9 F n wr ∧ Env wr)
    case atStart => exact ⟨HI.out, HE4.out⟩
    case round =>
      obtain ⟨⟨R, o, hend, h9, hz, hfr, hF, hN⟩, hEr⟩ := hrel
      have rz := rule4 hz
      have rq9 := rule4 h9
      have HEND := Lib.hid hend; have HZ := Lib.hid hz; have HH9 := Lib.hid h9; have HFR := Lib.hid hfr; have HER := Lib.hid hEr
      clear hend hz h9 hfr hEr
      have HF0 := Lib.hid hF; clear hF
      cases R with
      | inl z =>
        obtain ⟨a', h1, h2, h3⟩ := HEND.out
        have rr := rule4 h3
        have t1 : (z.1 == 0) = false := by simpa using h2
        have t2 : (z.1 != 0) = true := by simpa using h2
        have HFz := Lib.hid (HF0.out.symm : F = .inl z)
        have HRz := Lib.hid h3
        clear h1 h2 h3 hN
        have hne : w.heap.size ≠ b := by omega
        have HQ := Lib.hid (show RQ wr b (.int .i64 z.1) (.int .i64 z.2) from ⟨cell_at HRz.out rfl, cell_at HRz.out rfl⟩)
        have HQd := Lib.hid (show RQ wr.drew b (.int .i64 z.1) (.int .i64 z.2) from ⟨cell_at HRz.out rfl, cell_at HRz.out rfl⟩)
        have HZd := Lib.hid (show At4 wr.drew w.heap.size S4.zero from HZ.out)
        have FRd := Lib.hid HFR.out.drew
        go_wp2_with fail
        go_region_held3 (fun w' => RQ w' b (.int .i64 z.1) (.int .i64 z.2)) (repeat (first | (with_reducible exact HQ.out) | (with_reducible exact HQd.out) | (with_reducible refine RQ.set ?_ hne _) | (with_reducible refine RQ.drew ?_))) (fail)
        all_goals
          go_wp2
          (try simp only [Exit.inBlock, Exit.then])
          refine bodyPost_ret (results_set3 (s := S4.zero) rfl rfl rfl rfl (setFour_heap HZd.out _ _ _ _)) rfl ⟨?_, setFour_frS FRd.out (Nat.le_refl _) _ _ _ _⟩
          rw [HF.out, HFz.out]; rfl
      | inr x =>
        obtain ⟨o1, n0⟩ := x
        obtain ⟨hso, h3⟩ := HEND.out
        simp only at hso
        subst hso
        obtain ⟨hn0, hng⟩ := hN _ rfl
        simp only at hn0 hng h3 rq9
        obtain ⟨m, rfl⟩ : ∃ m, gk = m + 1 := ⟨gk - 1, by omega⟩
        have rr := rule4 h3
        have hnl : (n0 : Int) ≤ l.length := by omega
        have hn00 : (0 : Int) ≤ n0 := by omega
        have hwr : IntKind.i64.wrap ((n0 : Int) + 1) = (n0 : Int) + 1 := IntWalk.i64_in _ (by omega)
        obtain ⟨D, hD⟩ : ∃ d, [93].isPrefixOf (l.drop n0) = d := ⟨_, rfl⟩
        have hc1 := ahead_any b l [93] n0 0 0 wr (by omega) (by simp) hn0 h3
        rw [hD] at hc1
        have C1 := Lib.hid hc1; have HR := Lib.hid h3; have HD := Lib.hid hD
        clear hc1 h3 hD hN HEND
        cases D with
        | true =>
          have HFy := Lib.hid (show F = .inr (o, n0) by rw [← HF0.out]; exact lop_end (pre1.1 HD.out))
          go_wp2_with fail
          refine C1.out.mono ?_
          rintro e w5 ⟨rfl, f5⟩
          have HR5 := Lib.hid (HR.out.on f5); have HZ5 := Lib.hid (f5.heap HZ.out (fun x => x)); have H95 := Lib.hid (f5.heap HH9.out (fun x => x)); have F5 := Lib.hid (HFR.out.trans' f5)
          go_wp2_with fail
          refine (not_lit o w5).mono ?_
          obtain ⟨N, hNo⟩ : ∃ N, o.not = N := ⟨_, rfl⟩
          rw [hNo]
          rintro e w6 ⟨rfl, f6⟩
          obtain ⟨w7, hw7⟩ : ∃ w7, w7 = (((w6.setCell ⟨r9, 0, none⟩ (.int .u64 N.a)).setCell ⟨r9, 1, none⟩ (.int .u64 N.b)).setCell ⟨r9, 2, none⟩ (.int .u64 N.c)).setCell ⟨r9, 3, none⟩ (.int .u64 N.d) := ⟨_, rfl⟩
          have h97 : At4 w7 r9 N := by rw [hw7]; exact setFour_heap (f6.heap H95.out (fun x => x)) _ _ _ _
          have hr7 : Rd w7 b l n0 0 0 := by rw [hw7]; exact setFour_old (HR5.out.on f6) (by omega) _ _ _ _
          have hz7 : At4 w7 w.heap.size S4.zero := by rw [hw7]; exact setFour_old (f6.heap HZ5.out (fun x => x)) (by omega) _ _ _ _
          have F7 := Lib.hid (show Fr nob w w7 by rw [hw7]; exact setFour_frS (F5.out.trans' f6) (by omega) _ _ _ _)
          have HNo := Lib.hid hNo
          have HW7 := Lib.hid hw7
          have rn6 := rule4 (f6.heap H95.out (fun x => x))
          clear hNo hw7
          go_wp2_with fail
          rw [← HW7.out]
          have rr7 := rule4 hr7
          have rn7 := rule4 h97
          have rz7 := rule4 hz7
          have HZ7 := Lib.hid hz7; have HR7 := Lib.hid hr7; have H97 := Lib.hid h97
          clear hr7 h97 hz7
          have hne : w.heap.size ≠ b := by omega
          have hne9 : w.heap.size ≠ r9 := by omega
          have HQ7 := Lib.hid (show RA w7 b (.int .i64 n0) r9 N from ⟨cell_at HR7.out rfl, Q4.of H97.out⟩)
          have HQ7d := Lib.hid (show RA (World.drew w7) b (.int .i64 n0) r9 N from ⟨cell_at HR7.out rfl, Q4.of H97.out⟩)
          have HZd := Lib.hid (show At4 (World.drew w7) w.heap.size S4.zero from HZ7.out)
          have FRd := Lib.hid (Fr.drew F7.out)
          go_region_held3 (fun w' => RA w' b (.int .i64 n0) r9 N) (repeat (first | (with_reducible exact HQ7.out) | (with_reducible exact HQ7d.out) | (with_reducible refine RA.set ?_ hne hne9 _) | (with_reducible refine RA.drew ?_))) (fail)
          all_goals
            go_wp2
            (try simp only [Exit.inBlock, Exit.then])
            refine bodyPost_ret (results_set3 (s := N) rfl rfl rfl rfl (setFour_heap HZd.out _ _ _ _)) rfl ⟨?_, setFour_frS FRd.out (Nat.le_refl _) _ _ _ _⟩
            rw [HF.out, HFy.out]
            rw [← HNo.out]; rfl
        | false =>
          have hne : l[n0]? ≠ some 93 := fun e => by rw [pre1.2 e] at HD; exact absurd HD.out (by simp)
          have HFn := Lib.hid (show lopF l m (orF o (prt l n0)) = F by rw [← HF0.out]; exact (lop_go hne).symm)
          have HNn := Lib.hid (show lopN l m (orF o (prt l n0)) from lopN_go (by omega))
          clear hne
          go_wp2_with fail
          refine C1.out.mono ?_
          rintro e w5 ⟨rfl, f5⟩
          have HR5 := Lib.hid (HR.out.on f5.drew); have HZ5 := Lib.hid (f5.drew.heap HZ.out (fun x => x)); have H95 := Lib.hid (f5.drew.heap HH9.out (fun x => x)); have F5 := Lib.hid (HFR.out.trans' f5.drew); have HE5 := Lib.hid (HER.out.on f5.drew)
          have HQ5 := Lib.hid (Q4.of (f5.heap HH9.out (fun x => x))); have HQ5d := Lib.hid (Q4.of H95.out)
          go_wp2_with fail
          go_region_with (first | (go_at_call 88; (refine (part_any b l n0 0 w5.drew hl hn0 hb2 HE5.out HR5.out).mono ?_); rintro e w6 ⟨s', rfl, hs', f6, hend6⟩; have H96 := Lib.hid (f6.heap H95.out (fun e => by omega)); have HQ6 := Lib.hid (Q4.of H96.out); have HZ6 := Lib.hid (f6.heap HZ5.out (fun e => by omega)); have HE6 := Lib.hid (HE5.out.on2 f6 hb2); have F6 := Lib.hid (F5.out.trans f6 (fun i hi e => by omega)); have HEND6 := Lib.hid (hend6.or (t := o)); have rn6 := rule4 H96.out; clear f6 hend6) | (go_at_call 89; (refine (or_lit o s' w6).mono ?_); obtain ⟨N, hNo⟩ : ∃ N, o.or s' = N := ⟨_, rfl⟩; rw [hNo] at HEND6 ⊢; rintro e w7 ⟨rfl, f7⟩; have H97 := Lib.hid (f7.heap H96.out (fun x => x)); have HQ7 := Lib.hid (Q4.of H97.out); have HZ7 := Lib.hid (f7.heap HZ6.out (fun x => x)); have HE7 := Lib.hid (HE6.out.on f7); have F7 := Lib.hid (F6.out.trans' f7); have HEND7 := Lib.hid (HEND6.out.to (w' := w7) (fun x r q h => h.on f7)); have rn7 := rule4 H97.out; clear f7))
          all_goals
            have hfin := HFn.out
            have hfn := HNn.out
            obtain ⟨w8, hw8⟩ : ∃ w8, w8 = (((w7.setCell ⟨r9, 0, none⟩ (.int .u64 N.a)).setCell ⟨r9, 1, none⟩ (.int .u64 N.b)).setCell ⟨r9, 2, none⟩ (.int .u64 N.c)).setCell ⟨r9, 3, none⟩ (.int .u64 N.d) := ⟨_, rfl⟩
            have HI8 := Lib.hid (show PInv l w b w.heap.size r9 F m w8 ∧ Env w8 by
              rw [hw8]
              refine ⟨⟨_, N, HEND7.out.to (fun x r q h => setFour_old h (by omega) _ _ _ _), setFour_heap H97.out _ _ _ _, setFour_old HZ7.out (by omega) _ _ _ _, setFour_frS F7.out (by omega) _ _ _ _, hfin, hfn⟩, HE7.out.on2 (setFour_one _ _ _ _ _ _) (by omega)⟩)
            have HW8 := Lib.hid hw8
            clear hw8 hfin hfn
            go_wp2_with fail
            rw [← HW8.out]
            go_roundg m
            case measure => omega
            case rel => exact HI8.out
  | false =>
    have HD0 := Lib.hid hd0; clear hd0
    go_enter Tryz.func70, Tryz.ntmps70
    go_wp2_with fail
    rw [← HW0.out]
    simp only [HBB.out]
    refine (C0.out w0 (Fr.refl _ _)).mono ?_
    rintro e w1 ⟨rfl, f1⟩
    have HR1 := Lib.hid (HR0.out.on f1); have HZ1 := Lib.hid (f1.heap HZ0.out (fun x => x)); have FW1 := Lib.hid (FW0.out.trans' f1); have HE1 := Lib.hid (HE0.out.on f1)
    clear f1
    obtain ⟨w2, hw2⟩ : ∃ w2, w2 = w1 := ⟨_, rfl⟩
    rw [← hw2] at HR1 HZ1 FW1 HE1
    have HR2 := HR1; have HZ2 := HZ1; have FW2 := FW1; have HE2 := HE1
    go_wp2_with fail
    rw [← hw2]
    clear hw2
    refine (part_any b l (a) 0 w2 hl ha hb2 HE2.out HR2.out).mono ?_
    rintro e w3 ⟨s, rfl, hs, f3, hend⟩
    have hz3 := f3.heap HZ2.out (fun e => by omega)
    obtain ⟨w4, hw4⟩ : ∃ w4, w4 = w3.alloc (.cells #[.int .u64 s.a, .int .u64 s.b, .int .u64 s.c, .int .u64 s.d] 85) := ⟨_, rfl⟩
    have f34 : Fr nob w3 w4 := by rw [hw4]; exact (Fr.refl _ _).alloc _
    have hbw2 := lt_heap HR2.out
    have hz4 := f34.heap hz3 (fun x => x)
    have hlz4 := lt_heap hz3
    obtain ⟨r9, hr9⟩ : ∃ r, w3.heap.size = r := ⟨_, rfl⟩
    have h94 : At4 w4 r9 s := by rw [hw4, ← hr9]; exact newAt _ _
    have hb9 : b < r9 := by rw [← hr9]; exact Nat.lt_of_lt_of_le hbw2 f3.size
    have F4 := Lib.hid ((FW2.out.trans f3 (fun i hi e => by omega)).trans' f34)
    have HE4 := Lib.hid ((HE2.out.on2 f3 hb2).on f34)
    have hend4 := hend.to (w' := w4) (fun x r q h => h.on f34)
    have hF : prs l a = prsNot _ (lopF l (l.length + 1) (prt l (a))) := prs_no HD0.out
    have hN0 : lopN l (l.length + 1) (prt l (a)) := fun x hx => by
      have := prt_next hx; exact ⟨this.2.1, by omega⟩
    obtain ⟨F, hFF⟩ : ∃ F, lopF l (l.length + 1) (prt l (a)) = F := ⟨_, rfl⟩
    rw [hFF] at hF
    have HF := Lib.hid hF; have HW4 := Lib.hid hw4
    have HI := Lib.hid (show PInv l w b w.heap.size r9 F (l.length + 1) w4 from ⟨_, s, hend4, h94, hz4, F4.out, hFF, hN0⟩)
    have H9 := Lib.hid hr9
    clear hz3 hw4 f34 hz4 h94 hend hend4 hF hN0 hFF hr9 hs f3
    go_wp2_with fail
    rw [← HW4.out]
    simp only [H9.out]
    go_loopg [] (l.length + 1) (fun n wr => PInv l w b w.heap.size r9 F n wr ∧ Env wr)
    case atStart => exact ⟨HI.out, HE4.out⟩
    case round =>
      obtain ⟨⟨R, o, hend, h9, hz, hfr, hF, hN⟩, hEr⟩ := hrel
      have rz := rule4 hz
      have rq9 := rule4 h9
      have HEND := Lib.hid hend; have HZ := Lib.hid hz; have HH9 := Lib.hid h9; have HFR := Lib.hid hfr; have HER := Lib.hid hEr
      clear hend hz h9 hfr hEr
      have HF0 := Lib.hid hF; clear hF
      cases R with
      | inl z =>
        obtain ⟨a', h1, h2, h3⟩ := HEND.out
        have rr := rule4 h3
        have t1 : (z.1 == 0) = false := by simpa using h2
        have t2 : (z.1 != 0) = true := by simpa using h2
        have HFz := Lib.hid (HF0.out.symm : F = .inl z)
        have HRz := Lib.hid h3
        clear h1 h2 h3 hN
        have hne : w.heap.size ≠ b := by omega
        have HQ := Lib.hid (show RQ wr b (.int .i64 z.1) (.int .i64 z.2) from ⟨cell_at HRz.out rfl, cell_at HRz.out rfl⟩)
        have HQd := Lib.hid (show RQ wr.drew b (.int .i64 z.1) (.int .i64 z.2) from ⟨cell_at HRz.out rfl, cell_at HRz.out rfl⟩)
        have HZd := Lib.hid (show At4 wr.drew w.heap.size S4.zero from HZ.out)
        have FRd := Lib.hid HFR.out.drew
        go_wp2_with fail
        go_region_held3 (fun w' => RQ w' b (.int .i64 z.1) (.int .i64 z.2)) (repeat (first | (with_reducible exact HQ.out) | (with_reducible exact HQd.out) | (with_reducible refine RQ.set ?_ hne _) | (with_reducible refine RQ.drew ?_))) (fail)
        all_goals
          go_wp2
          (try simp only [Exit.inBlock, Exit.then])
          refine bodyPost_ret (results_set3 (s := S4.zero) rfl rfl rfl rfl (setFour_heap HZd.out _ _ _ _)) rfl ⟨?_, setFour_frS FRd.out (Nat.le_refl _) _ _ _ _⟩
          rw [HF.out, HFz.out]; rfl
      | inr x =>
        obtain ⟨o1, n0⟩ := x
        obtain ⟨hso, h3⟩ := HEND.out
        simp only at hso
        subst hso
        obtain ⟨hn0, hng⟩ := hN _ rfl
        simp only at hn0 hng h3 rq9
        obtain ⟨m, rfl⟩ : ∃ m, gk = m + 1 := ⟨gk - 1, by omega⟩
        have rr := rule4 h3
        have hnl : (n0 : Int) ≤ l.length := by omega
        have hn00 : (0 : Int) ≤ n0 := by omega
        have hwr : IntKind.i64.wrap ((n0 : Int) + 1) = (n0 : Int) + 1 := IntWalk.i64_in _ (by omega)
        obtain ⟨D, hD⟩ : ∃ d, [93].isPrefixOf (l.drop n0) = d := ⟨_, rfl⟩
        have hc1 := ahead_any b l [93] n0 0 0 wr (by omega) (by simp) hn0 h3
        rw [hD] at hc1
        have C1 := Lib.hid hc1; have HR := Lib.hid h3; have HD := Lib.hid hD
        clear hc1 h3 hD hN HEND
        cases D with
        | true =>
          have HFy := Lib.hid (show F = .inr (o, n0) by rw [← HF0.out]; exact lop_end (pre1.1 HD.out))
          go_wp2_with fail
          refine C1.out.mono ?_
          rintro e w5 ⟨rfl, f5⟩
          have HR5 := Lib.hid (HR.out.on f5); have HZ5 := Lib.hid (f5.heap HZ.out (fun x => x)); have H95 := Lib.hid (f5.heap HH9.out (fun x => x)); have F5 := Lib.hid (HFR.out.trans' f5)
          go_wp2_with fail
          have rr7 := rule4 HR5.out
          have rn7 := rule4 H95.out
          have rz7 := rule4 HZ5.out
          have HZ7 := HZ5; have F7 := F5; have HR7 := HR5; have H97 := H95
          have hne : w.heap.size ≠ b := by omega
          have hne9 : w.heap.size ≠ r9 := by omega
          have HQ7 := Lib.hid (show RA w5 b (.int .i64 n0) r9 o from ⟨cell_at HR7.out rfl, Q4.of H97.out⟩)
          have HQ7d := Lib.hid (show RA (World.drew w5) b (.int .i64 n0) r9 o from ⟨cell_at HR7.out rfl, Q4.of H97.out⟩)
          have HZd := Lib.hid (show At4 (World.drew w5) w.heap.size S4.zero from HZ7.out)
          have FRd := Lib.hid (Fr.drew F7.out)
          go_region_held3 (fun w' => RA w' b (.int .i64 n0) r9 o) (repeat (first | (with_reducible exact HQ7.out) | (with_reducible exact HQ7d.out) | (with_reducible refine RA.set ?_ hne hne9 _) | (with_reducible refine RA.drew ?_))) (fail)
          all_goals
            go_wp2
            (try simp only [Exit.inBlock, Exit.then])
            refine bodyPost_ret (results_set3 (s := o) rfl rfl rfl rfl (setFour_heap HZd.out _ _ _ _)) rfl ⟨?_, setFour_frS FRd.out (Nat.le_refl _) _ _ _ _⟩
            rw [HF.out, HFy.out]
            rfl
        | false =>
          have hne : l[n0]? ≠ some 93 := fun e => by rw [pre1.2 e] at HD; exact absurd HD.out (by simp)
          have HFn := Lib.hid (show lopF l m (orF o (prt l n0)) = F by rw [← HF0.out]; exact (lop_go hne).symm)
          have HNn := Lib.hid (show lopN l m (orF o (prt l n0)) from lopN_go (by omega))
          clear hne
          go_wp2_with fail
          refine C1.out.mono ?_
          rintro e w5 ⟨rfl, f5⟩
          have HR5 := Lib.hid (HR.out.on f5.drew); have HZ5 := Lib.hid (f5.drew.heap HZ.out (fun x => x)); have H95 := Lib.hid (f5.drew.heap HH9.out (fun x => x)); have F5 := Lib.hid (HFR.out.trans' f5.drew); have HE5 := Lib.hid (HER.out.on f5.drew)
          have HQ5 := Lib.hid (Q4.of (f5.heap HH9.out (fun x => x))); have HQ5d := Lib.hid (Q4.of H95.out)
          go_wp2_with fail
          go_region_with (first | (go_at_call 88; (refine (part_any b l n0 0 w5.drew hl hn0 hb2 HE5.out HR5.out).mono ?_); rintro e w6 ⟨s', rfl, hs', f6, hend6⟩; have H96 := Lib.hid (f6.heap H95.out (fun e => by omega)); have HQ6 := Lib.hid (Q4.of H96.out); have HZ6 := Lib.hid (f6.heap HZ5.out (fun e => by omega)); have HE6 := Lib.hid (HE5.out.on2 f6 hb2); have F6 := Lib.hid (F5.out.trans f6 (fun i hi e => by omega)); have HEND6 := Lib.hid (hend6.or (t := o)); have rn6 := rule4 H96.out; clear f6 hend6) | (go_at_call 89; (refine (or_lit o s' w6).mono ?_); obtain ⟨N, hNo⟩ : ∃ N, o.or s' = N := ⟨_, rfl⟩; rw [hNo] at HEND6 ⊢; rintro e w7 ⟨rfl, f7⟩; have H97 := Lib.hid (f7.heap H96.out (fun x => x)); have HQ7 := Lib.hid (Q4.of H97.out); have HZ7 := Lib.hid (f7.heap HZ6.out (fun x => x)); have HE7 := Lib.hid (HE6.out.on f7); have F7 := Lib.hid (F6.out.trans' f7); have HEND7 := Lib.hid (HEND6.out.to (w' := w7) (fun x r q h => h.on f7)); have rn7 := rule4 H97.out; clear f7))
          all_goals
            have hfin := HFn.out
            have hfn := HNn.out
            obtain ⟨w8, hw8⟩ : ∃ w8, w8 = (((w7.setCell ⟨r9, 0, none⟩ (.int .u64 N.a)).setCell ⟨r9, 1, none⟩ (.int .u64 N.b)).setCell ⟨r9, 2, none⟩ (.int .u64 N.c)).setCell ⟨r9, 3, none⟩ (.int .u64 N.d) := ⟨_, rfl⟩
            have HI8 := Lib.hid (show PInv l w b w.heap.size r9 F m w8 ∧ Env w8 by
              rw [hw8]
              refine ⟨⟨_, N, HEND7.out.to (fun x r q h => setFour_old h (by omega) _ _ _ _), setFour_heap H97.out _ _ _ _, setFour_old HZ7.out (by omega) _ _ _ _, setFour_frS F7.out (by omega) _ _ _ _, hfin, hfn⟩, HE7.out.on2 (setFour_one _ _ _ _ _ _) (by omega)⟩)
            have HW8 := Lib.hid hw8
            clear hw8 hfin hfn
            go_wp2_with fail
            rw [← HW8.out]
            go_roundg m
            case measure => omega
            case rel => exact HI8.out

end Go.Proofs.YtepeomphikhbkaaGreatDoor
