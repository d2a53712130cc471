/-
  Merged texts of this claim: ShowP.
-/
import Derived.Test.YtlchaocpejfikaaGreatDoorM13

/-
  The document's answer for package show: Set.
-/
namespace Go.Proofs.YtlchaocpejfikaaGreatDoor
open Go.RowKit

theorem one_some {s : S4} (hs : s.fit) (h : s.len = 1) : ∃ x r, spl s.has 256 = x :: r := by
  cases hp : spl s.has 256 with
  | cons x r => exact ⟨x, r, rfl⟩
  | nil =>
    rcases least_nil' hs hp with ⟨_, _, rfl⟩ | ⟨h', _⟩
    · exact absurd h (by decide +kernel)
    · cases h'
set_option maxRecDepth 100000 in
set_option maxHeartbeats 4000000 in
theorem ref_set1 (s : S4) (w : World) (hs : s.fit) (h1 : s.len = 1) :
    Calls Tryz.prog 10 #[setV s] w fun e w' => e = .returned (.string ⟨(sngT (lowS s)).toArray⟩) ∧ Fr nob w w' := by
  obtain ⟨w1, hw1⟩ : ∃ w1, w1 = w.alloc (.cells #[.int .u64 s.a, .int .u64 s.b, .int .u64 s.c, .int .u64 s.d] 24) := ⟨_, rfl⟩
  have f01 : Fr nob w w1 := by rw [hw1]; exact (Fr.refl _ _).alloc _
  have hb1 : w1.heap[w.heap.size]? = some (.cells #[.int .u64 s.a, .int .u64 s.b, .int .u64 s.c, .int .u64 s.d] 24 (0, 0)) := by rw [hw1]; exact newAt _ _
  have r1 := rule4 hb1
  have hl := lenR_lit6 s w1 hs
  rw [h1] at hl
  have hl' : Calls Tryz.prog 26 #[setV s] w1 fun e w' => e = .returned (.int .i64 1) ∧ Fr nob w1 w' := hl
  have HL := Lib.hid hl'
  have HSP := Lib.hid (fun w' => spansR_lit6 s w' hs)
  obtain ⟨x, r, hp⟩ := one_some hs h1
  have hlow : lowS s = x.1 := by unfold lowS; rw [hp]
  have hlt : x.1 < 256 := hlow ▸ lowS_lt s
  rw [hlow]
  have HPU := Lib.hid (ref_punct x.1)
  have HTX := Lib.hid (fun w' => ref_text x.1 w' hlt)
  have HP := Lib.hid hp
  have HF := Lib.hid f01; have HW1 := Lib.hid hw1; have HB1 := Lib.hid hb1
  obtain ⟨p, hxp⟩ : ∃ p, x.1 = p := ⟨_, rfl⟩
  have HXP := Lib.hid hxp
  rw [hxp] at hlt HPU HTX ⊢
  clear hl hl' hs h1 hp hlow f01 hw1 hb1 hxp
  have t92 : [p.toUInt8].length ≤ 5 := by simp
  unfold sngT
  by_cases h10 : p = 10
  · have q1 : ((p : Int) == 10) = true := by subst h10; rfl
    rw [if_pos h10]
    clear h10 HPU HTX
    go_enter Tryz.func10, Tryz.ntmps10
    go_wp2_with (rw [← HW1.out])
    refine HL.out.mono ?_
    rintro e w2 ⟨rfl, f2⟩
    have F2 := Lib.hid f2; clear f2
    have r2 := rule4 (F2.out.heap HB1.out (fun x => x))
    go_wp2_with fail
    refine (HSP.out w2).mono ?_
    rintro e w3 ⟨v0, rfl, o0, f3, n0⟩
    have F3 := Lib.hid (F2.out.trans' f3)
    rw [HP.out] at o0
    obtain ⟨g, cap, rfl, hc0, _⟩ := o0.get (k := 0) (by simp)
    have hc : w3.cell? ⟨g, 0, none⟩ = some (.int .u8 (p : Int)) := by rw [← HXP.out]; exact hc0
    have hln : 1 ≤ (x :: r).length := by simp
    clear o0 hc0 f3 n0
    go_wp2
    go_ret
    exact ⟨rfl, HF.out.trans' F3.out⟩
  · have q1 : ((p : Int) == 10) = false := by simp; omega
    rw [if_neg h10]
    have hpu := fun w' => HPU.out w' hlt
    cases hc : punctS.has p with
    | true =>
      rw [hc] at hpu
      rw [if_pos rfl]
      have HQ := Lib.hid hpu
      have ar : ∀ w', (Op.stringOp .add ⟨#[92]⟩ ⟨[p.toUInt8].toArray⟩).run Tryz.prog w' = .ok (.string ⟨[92, p.toUInt8].toArray⟩) w' := fun w' => run_string_add_lists w' [92] [p.toUInt8] (by decide) (by simp)
      clear hpu hc h10 HPU
      go_enter Tryz.func10, Tryz.ntmps10
      go_wp2_with (rw [← HW1.out])
      refine HL.out.mono ?_
      rintro e w2 ⟨rfl, f2⟩
      have F2 := Lib.hid f2; clear f2
      have r2 := rule4 (F2.out.heap HB1.out (fun x => x))
      go_wp2_with fail
      refine (HSP.out w2).mono ?_
      rintro e w3 ⟨v0, rfl, o0, f3, n0⟩
      have F3 := Lib.hid (F2.out.trans' f3)
      rw [HP.out] at o0
      obtain ⟨g, cap, rfl, hc0, _⟩ := o0.get (k := 0) (by simp)
      have hc : w3.cell? ⟨g, 0, none⟩ = some (.int .u8 (p : Int)) := by rw [← HXP.out]; exact hc0
      have hln : 1 ≤ (x :: r).length := by simp
      clear o0 hc0 f3 n0
      go_wp2_with fail
      refine (HQ.out _).mono ?_
      rintro e w4 ⟨rfl, f4⟩
      have F4 := Lib.hid (F3.out.trans' f4); clear f4
      go_wp2_with fail
      refine (HTX.out _).mono ?_
      rintro e w5 ⟨rfl, f5⟩
      have F5 := Lib.hid (F4.out.trans' f5); clear f5
      go_wp2
      go_ret
      exact ⟨rfl, HF.out.trans' F5.out⟩
    | false =>
      rw [hc] at hpu
      rw [if_neg (by decide)]
      have HQ := Lib.hid hpu
      clear hpu hc h10 HPU
      go_enter Tryz.func10, Tryz.ntmps10
      go_wp2_with (rw [← HW1.out])
      refine HL.out.mono ?_
      rintro e w2 ⟨rfl, f2⟩
      have F2 := Lib.hid f2; clear f2
      have r2 := rule4 (F2.out.heap HB1.out (fun x => x))
      go_wp2_with fail
      refine (HSP.out w2).mono ?_
      rintro e w3 ⟨v0, rfl, o0, f3, n0⟩
      have F3 := Lib.hid (F2.out.trans' f3)
      rw [HP.out] at o0
      obtain ⟨g, cap, rfl, hc0, _⟩ := o0.get (k := 0) (by simp)
      have hc : w3.cell? ⟨g, 0, none⟩ = some (.int .u8 (p : Int)) := by rw [← HXP.out]; exact hc0
      have hln : 1 ≤ (x :: r).length := by simp
      clear o0 hc0 f3 n0
      go_wp2_with fail
      refine (HQ.out _).mono ?_
      rintro e w4 ⟨rfl, f4⟩
      have F4 := Lib.hid (F3.out.trans' f4); clear f4
      go_wp2_with fail
      refine (HTX.out _).mono ?_
      rintro e w5 ⟨rfl, f5⟩
      have F5 := Lib.hid (F4.out.trans' f5); clear f5
      go_wp2
      go_ret
      exact ⟨rfl, HF.out.trans' F5.out⟩
set_option maxRecDepth 100000 in
theorem ref_set256 (s : S4) (w : World) (hs : s.fit) (h : s.len = 256) :
    Calls Tryz.prog 10 #[setV s] w fun e w' => e = .returned (.string ⟨[46].toArray⟩) ∧ Fr nob w w' := by
  obtain ⟨w1, hw1⟩ : ∃ w1, w1 = w.alloc (.cells #[.int .u64 s.a, .int .u64 s.b, .int .u64 s.c, .int .u64 s.d] 24) := ⟨_, rfl⟩
  have f01 : Fr nob w w1 := by rw [hw1]; exact (Fr.refl _ _).alloc _
  have hb1 : w1.heap[w.heap.size]? = some (.cells #[.int .u64 s.a, .int .u64 s.b, .int .u64 s.c, .int .u64 s.d] 24 (0, 0)) := by rw [hw1]; exact newAt _ _
  have r1 := rule4 hb1
  have hl := lenR_lit6 s w1 hs
  rw [h] at hl
  have hl' : Calls Tryz.prog 26 #[setV s] w1 fun e w' => e = .returned (.int .i64 256) ∧ Fr nob w1 w' := hl
  have HL := Lib.hid hl'; have HF := Lib.hid f01; have HW1 := Lib.hid hw1
  clear hl hl' hs h f01 hw1 hb1
  go_enter Tryz.func10, Tryz.ntmps10
  go_wp2_with (rw [← HW1.out])
  refine HL.out.mono ?_
  rintro e w2 ⟨rfl, f2⟩
  have F2 := Lib.hid f2; clear f2
  go_wp2
  go_ret
  exact ⟨rfl, HF.out.trans' F2.out⟩
theorem ref_Set (s : S4) (w : World) (hs : s.fit) :
    Calls Tryz.prog 10 #[setV s] w fun e w' => e = .returned (.string ⟨(setT s).toArray⟩) ∧ Fr nob w w' := by
  by_cases h256 : s.len = 256
  · unfold setT; rw [if_pos h256]; exact ref_set256 s w hs h256
  · by_cases h1 : s.len = 1
    · unfold setT; rw [if_neg h256, if_pos h1]; exact ref_set1 s w hs h1
    · exact ref_setB s w hs h256 h1
end Go.Proofs.YtlchaocpejfikaaGreatDoor
