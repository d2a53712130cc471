/-
  Merged texts of this claim: ShowT, BreA, BreB, BreC.
-/
import Derived.Test.YtlchaocpejfikaaGreatDoorM11
import Derived.Test.YtlchaocpejfikaaGreatDoorM14
import Derived.Test.YtlchaocpejfikaaGreatDoorM16
import Derived.Test.YtlchaocpejfikaaGreatDoorM18
import Derived.Test.YtlchaocpejfikaaGreatDoorM20
import Derived.Test.YtlchaocpejfikaaGreatDoorM21
import Derived.Test.YtlchaocpejfikaaGreatDoorM23

/-
  The document's answer for package show: ere, Ere.
-/
namespace Go.Proofs.YtlchaocpejfikaaGreatDoor
open Go.RowKit

set_option maxRecDepth 100000 in
set_option maxHeartbeats 1000000 in
/-- What a node is of, told by its cells alone. -/
theorem of_Tf (t : T) (cs : List Value) (w : World) (h : RT nob w t cs) :
    ∃ cs', RT nob w t.of cs' ∧ ∀ w', Fr nob w w' → Calls Tryz.prog 62 #[.agg cs.toArray] w' fun e w'' => e = .returned (.agg cs'.toArray) ∧ Fr nob w' w'' := by
  obtain ⟨kd, s, ps, mn, mx, nu, a, c, rfl, rfl, hs⟩ := h.open'
  have H := Lib.hid hs; clear h hs
  cases ps with
  | nil =>
    refine ⟨_, RT_mk.2 ⟨_, rfl, .inl ⟨⟨none, 0, rfl⟩, rfl⟩⟩, fun w' fw => ?_⟩
    go_enter Tryz.func62, Tryz.ntmps62
    go_wp2
    (try simp only [Exit.inBlock, Exit.then])
    refine bodyPost_ret (results_T (k := 0) (s := S4.zero) (v := .slice none 0 0) (mn := 0) (mx := 0) (nu := 0) rfl rfl (heap_alloc_new' _ _ _ (by simp))) rfl ⟨rfl, ((Fr.refl _ _).alloc _).alloc _⟩
  | cons x r =>
    obtain ⟨g, off, cap, cx, he, hx, hc, hgs⟩ := H.out.get (k := 0) (by simp)
    injection he with e1 e2 e3
    subst e1; subst e3
    have hx' : RT nob w x cx := hx
    obtain ⟨k', s', ps', mn', mx', nu', a', c', hxe, rfl, hxs⟩ := hx'.open'
    simp only [Nat.zero_mul, Nat.add_zero] at hc
    refine ⟨_, hx', fun w' fw => ?_⟩
    obtain ⟨d0, d1, d2, d3, d4, d5, d6, d7, d8⟩ := (hc.fr fw (fun x => x)).nine
    have hgs' : g < w'.heap.size := Nat.lt_of_lt_of_le hgs fw.size
    clear hx hx' hxs hc e2 hgs
    obtain ⟨len, hlen⟩ : ∃ len, (x :: r).length = len := ⟨_, rfl⟩
    have hl0 : 0 < len := by rw [← hlen]; simp
    rw [hlen]
    clear hlen
    go_enter Tryz.func62, Tryz.ntmps62
    go_wp2
    (try simp only [Exit.inBlock, Exit.then])
    refine bodyPost_ret (results_T (k := k') (s := s') (v := .slice a' ps'.length c') (mn := mn') (mx := mx') (nu := nu') rfl rfl (heap_alloc_new' _ _ _ (by simp))) rfl ⟨rfl, ((Fr.refl _ _).alloc _).alloc _⟩

theorem T.nd_of (t : T) : t.of.nd = T.nd1 t.parts := by
  cases t with
  | mk k s ps mn mx nu => cases ps with
    | nil => rfl
    | cons x r => rfl

set_option maxRecDepth 100000 in
set_option maxHeartbeats 8000000 in
theorem ref_ere (m : Nat) : ∀ (t : T) (cs : List Value) (w : World), t.nd.size ≤ m → t.nd.size ≤ 2000 → t.nd.shw → RT nob w t cs →
    Calls Tryz.prog 39 #[.agg cs.toArray] w fun e w' => e = .returned (.string ⟨t.nd.txt.toArray⟩) ∧ Fr nob w w' := by
  induction m with
  | zero => intro t cs w h; have := t.nd.size_pos; omega
  | succ m ih =>
    intro t cs w hm hb hsh h
    obtain ⟨ofc, hofc, hofw⟩ := of_Tf t cs w h
    obtain ⟨kd, s, ps, mn, mx, nu, a, c, ht, rfl, hs⟩ := h.open'
    subst ht
    obtain ⟨w1, hw1⟩ : ∃ w1, w1 = w.alloc (.cells #[.int .i64 kd, .int .u64 s.a, .int .u64 s.b, .int .u64 s.c, .int .u64 s.d, .slice a ps.length c, .int .i64 mn, .int .i64 mx, .int .i64 nu] 32) := ⟨_, rfl⟩
    have f1 : Fr nob w w1 := by rw [hw1]; exact (Fr.refl _ _).alloc _
    have hb1 : w1.heap[w.heap.size]? = some (.cells #[.int .i64 kd, .int .u64 s.a, .int .u64 s.b, .int .u64 s.c, .int .u64 s.d, .slice a ps.length c, .int .i64 mn, .int .i64 mx, .int .i64 nu] 32 (0, 0)) := by rw [hw1]; exact newAt _ _
    have F1 := Lib.hid f1; have HW1 := Lib.hid hw1; have HB1 := Lib.hid hb1
    have HOF := Lib.hid hofw; have HOC := Lib.hid hofc; have IH := Lib.hid ih; have HS := Lib.hid hs
    clear hofc hofw ih hs f1 hw1 hb1 h
    by_cases k1 : kd = 1
    · subst k1
      have hn : (T.mk 1 s ps mn mx nu).nd = .one s := by simp [T.nd]
      rw [hn] at hsh ⊢
      have HSET := Lib.hid (fun w' => ref_Set s w' hsh)
      have htx : (Nd.one s).txt = setT s := by rw [Nd.txt]
      rw [htx]
      obtain ⟨d0, d1, d2, d3, d4, _⟩ := C9.of HB1.out
      clear hm hb hn hsh htx
      go_enter Tryz.func39, Tryz.ntmps39
      go_wp2_with (rw [← HW1.out])
      refine (HSET.out _).mono ?_
      rintro e w2 ⟨rfl, f2⟩
      have F2 := Lib.hid f2; clear f2
      go_wp2
      go_ret
      exact ⟨rfl, F1.out.trans' F2.out⟩
    by_cases k2 : kd = 2
    · subst k2
      have hn : (T.mk 2 s ps mn mx nu).nd = .cat (T.nds ps) := by simp [T.nd]
      rw [hn] at hsh hm hb ⊢
      rw [Nd.shw] at hsh
      have hm : Nd.sizes (T.nds ps) ≤ m := by rw [Nd.size] at hm; omega
      have hb : Nd.sizes (T.nds ps) ≤ 2000 := by rw [Nd.size] at hb; omega
      have htx : (Nd.cat (T.nds ps)).txt = Nd.txts (T.nds ps) := by rw [Nd.txt]
      rw [htx]
      have hlen := T.nds_length ps
      have hpl : ps.length ≤ 100000 := by have := Nd.length_le (T.nds ps); omega
      have hbd : ∀ k, (Nd.txts ((T.nds ps).take k)).length ≤ 6000000 := fun k => by
        have h1 := Nd.txts_le _ (Nd.shws_take hsh k)
        have h2 := Nd.sizes_take_le (T.nds ps) k
        omega
      have hel : ∀ k (h : k < ps.length), ps[k].nd.size ≤ m ∧ ps[k].nd.size ≤ 2000 ∧ ps[k].nd.shw ∧ ps[k].nd ∈ T.nds ps := fun k h => by
        have hmem : ps[k].nd ∈ T.nds ps := by rw [T.nds_eq]; exact List.mem_map_of_mem (List.getElem_mem h)
        have := Nd.kid_lt (n := Nd.cat (T.nds ps)) hmem
        rw [Nd.size] at this
        exact ⟨by omega, by omega, Nd.shws_mem hsh _ hmem, hmem⟩
      have hxt : ∀ k (h : k < ps.length), ps[k].nd.txt.length ≤ 6000000 := fun k h => by
        have := Nd.txt_le _ (hel k h).2.2.1
        have := (hel k h).2.1
        omega
      have hnx : ∀ k (h : k < ps.length), Nd.txts ((T.nds ps).take (k + 1)) = Nd.txts ((T.nds ps).take k) ++ ps[k].nd.txt := fun k h => by
        rw [Nd.txts_take (by omega)]
        simp [T.nds_eq]
      have hall : Nd.txts ((T.nds ps).take ps.length) = Nd.txts (T.nds ps) := by rw [List.take_of_length_le (by omega)]
      have HBD := Lib.hid hbd; have HEL := Lib.hid hel; have HXT := Lib.hid hxt; have HNX := Lib.hid hnx; have HALL := Lib.hid hall
      obtain ⟨d0, d1, d2, d3, d4, d5, _⟩ := C9.of HB1.out
      clear hn hsh htx hbd hlen hm hb hel hxt hnx hall
      go_enter Tryz.func39, Tryz.ntmps39
      go_wp2_with (rw [← HW1.out])
      go_loopw [3, 18] (fun s i wr => ∃ (k : Nat), i = .int .i64 k ∧ k ≤ ps.length ∧ s = .string ⟨(Nd.txts ((T.nds ps).take k)).toArray⟩ ∧ Fr nob w1 wr) (fun _ i _ => ps.length - (intOf i).toNat)
      case atStart => exact ⟨0, rfl, Nat.zero_le _, by rw [List.take_zero]; rfl, Fr.refl _ _⟩
      case round =>
        obtain ⟨k, rfl, hk, rfl, fr⟩ := hrel
        have hA := HBD.out k
        have hB := HBD.out (k + 1)
        obtain ⟨e0, e1, e2, e3, e4, e5, _⟩ := C9.of (fr.heap HB1.out (fun x => x))
        have FR := Lib.hid fr
        clear fr d0 d1 d2 d3 d4 d5
        by_cases hlt : k < ps.length
        · obtain ⟨q, off, cap, cx, he, hx, hc, hgs⟩ := (HS.out.on (F1.out.trans' FR.out)).get hlt
          injection he with he1 he2 he3
          subst he1; subst he3
          have hE := HEL.out k hlt
          have hX := HXT.out k hlt
          have hN := HNX.out k hlt
          obtain ⟨x, hxe⟩ : ∃ x, ps[k] = x := ⟨_, rfl⟩
          rw [hxe] at hx hE hX hN
          obtain ⟨k', s', ps', mn', mx', nu', a', c', hx0, rfl, hxx⟩ := hx.open'
          obtain ⟨g0, g1, g2, g3, g4, g5, g6, g7, g8⟩ := hc.nine
          obtain ⟨A, hAe⟩ : ∃ A, Nd.txts ((T.nds ps).take k) = A := ⟨_, rfl⟩
          obtain ⟨B, hBe⟩ : ∃ B, Nd.txts ((T.nds ps).take (k + 1)) = B := ⟨_, rfl⟩
          obtain ⟨X, hXe⟩ : ∃ X, x.nd.txt = X := ⟨_, rfl⟩
          have HIX := Lib.hid (IH.out x _ wr hE.1 hE.2.1 hE.2.2.1 hx)
          rw [hXe] at HIX hX hN
          rw [hAe] at hA hN ⊢
          rw [hBe] at hB hN
          have HBE := Lib.hid hBe
          clear hE hx hxx hx0 hc hxe hAe hBe hXe he2
          have ar : ∀ w', (Op.stringOp .add ⟨A.toArray⟩ ⟨X.toArray⟩).run Tryz.prog w' = .ok (.string ⟨B.toArray⟩) w' := fun w' => by rw [hN]; exact run_string_add_lists w' A X (by omega) (by omega)
          clear hN
          by_cases hk0 : (0 : Int) < (k : Int)
          all_goals
            go_wp2_with fail
            refine HIX.out.mono ?_
            rintro e w2 ⟨rfl, f2⟩
            have F2 := Lib.hid f2; clear f2
            go_wp2
            go_roundw
            case rel => exact ⟨k + 1, by go_num, by omega, by rw [HBE.out], FR.out.trans' F2.out⟩
            case measure => simp [intOf]; omega
        · obtain rfl : k = ps.length := by omega
          go_wp2
          go_ret
          exact ⟨by rw [HALL.out]; rfl, F1.out.trans' FR.out⟩
    by_cases k3 : kd = 3
    · subst k3
      have hn : (T.mk 3 s ps mn mx nu).nd = .alt (T.nds ps) := by simp [T.nd]
      rw [hn] at hsh hm hb ⊢
      rw [Nd.shw] at hsh
      have hm : Nd.sizes (T.nds ps) ≤ m := by rw [Nd.size] at hm; omega
      have hb : Nd.sizes (T.nds ps) ≤ 2000 := by rw [Nd.size] at hb; omega
      have htx : (Nd.alt (T.nds ps)).txt = Nd.txta (T.nds ps) := by rw [Nd.txt]
      rw [htx]
      have hlen := T.nds_length ps
      have hpl : ps.length ≤ 100000 := by have := Nd.length_le (T.nds ps); omega
      have hbd : ∀ k, (Nd.txta ((T.nds ps).take k)).length ≤ 6000000 := fun k => by
        have h1 := Nd.txta_le _ (Nd.shws_take hsh k)
        have h2 := Nd.sizes_take_le (T.nds ps) k
        omega
      have hel : ∀ k (h : k < ps.length), ps[k].nd.size ≤ m ∧ ps[k].nd.size ≤ 2000 ∧ ps[k].nd.shw ∧ ps[k].nd ∈ T.nds ps := fun k h => by
        have hmem : ps[k].nd ∈ T.nds ps := by rw [T.nds_eq]; exact List.mem_map_of_mem (List.getElem_mem h)
        have := Nd.kid_lt (n := Nd.cat (T.nds ps)) hmem
        rw [Nd.size] at this
        exact ⟨by omega, by omega, Nd.shws_mem hsh _ hmem, hmem⟩
      have hxt : ∀ k (h : k < ps.length), ps[k].nd.txt.length ≤ 6000000 := fun k h => by
        have := Nd.txt_le _ (hel k h).2.2.1
        have := (hel k h).2.1
        omega
      have hnx : ∀ k (h : k < ps.length), Nd.txta ((T.nds ps).take (k + 1)) = Nd.txta ((T.nds ps).take k) ++ ((if k = 0 then [] else [124]) ++ ps[k].nd.txt) := fun k h => by
        rw [Nd.txta_take (by omega)]
        simp [T.nds_eq]
      have hall : Nd.txta ((T.nds ps).take ps.length) = Nd.txta (T.nds ps) := by rw [List.take_of_length_le (by omega)]
      have HBD := Lib.hid hbd; have HEL := Lib.hid hel; have HXT := Lib.hid hxt; have HNX := Lib.hid hnx; have HALL := Lib.hid hall
      obtain ⟨d0, d1, d2, d3, d4, d5, _⟩ := C9.of HB1.out
      clear hn hsh htx hbd hlen hm hb hel hxt hnx hall
      go_enter Tryz.func39, Tryz.ntmps39
      go_wp2_with (rw [← HW1.out])
      go_loopw [3, 18] (fun s i wr => ∃ (k : Nat), i = .int .i64 k ∧ k ≤ ps.length ∧ s = .string ⟨(Nd.txta ((T.nds ps).take k)).toArray⟩ ∧ Fr nob w1 wr) (fun _ i _ => ps.length - (intOf i).toNat)
      case atStart => exact ⟨0, rfl, Nat.zero_le _, by rw [List.take_zero]; rfl, Fr.refl _ _⟩
      case round =>
        obtain ⟨k, rfl, hk, rfl, fr⟩ := hrel
        have hA := HBD.out k
        have hB := HBD.out (k + 1)
        obtain ⟨e0, e1, e2, e3, e4, e5, _⟩ := C9.of (fr.heap HB1.out (fun x => x))
        have FR := Lib.hid fr
        clear fr d0 d1 d2 d3 d4 d5
        by_cases hlt : k < ps.length
        · obtain ⟨q, off, cap, cx, he, hx, hc, hgs⟩ := (HS.out.on (F1.out.trans' FR.out)).get hlt
          injection he with he1 he2 he3
          subst he1; subst he3
          have hE := HEL.out k hlt
          have hX := HXT.out k hlt
          have hN := HNX.out k hlt
          obtain ⟨x, hxe⟩ : ∃ x, ps[k] = x := ⟨_, rfl⟩
          rw [hxe] at hx hE hX hN
          obtain ⟨k', s', ps', mn', mx', nu', a', c', hx0, rfl, hxx⟩ := hx.open'
          obtain ⟨g0, g1, g2, g3, g4, g5, g6, g7, g8⟩ := hc.nine
          obtain ⟨A, hAe⟩ : ∃ A, Nd.txta ((T.nds ps).take k) = A := ⟨_, rfl⟩
          obtain ⟨B, hBe⟩ : ∃ B, Nd.txta ((T.nds ps).take (k + 1)) = B := ⟨_, rfl⟩
          obtain ⟨X, hXe⟩ : ∃ X, x.nd.txt = X := ⟨_, rfl⟩
          have HIX := Lib.hid (IH.out x _ wr hE.1 hE.2.1 hE.2.2.1 hx)
          rw [hXe] at HIX hX hN
          rw [hAe] at hA hN ⊢
          rw [hBe] at hB hN
          have HBE := Lib.hid hBe
          clear hE hx hxx hx0 hc hxe hAe hBe hXe he2
          by_cases hk0 : (0 : Int) < (k : Int)
          · obtain ⟨C, hCe⟩ : ∃ C, A ++ [124] = C := ⟨_, rfl⟩
            have hCl : C.length ≤ 6000001 := by rw [← hCe]; simp; omega
            rw [if_neg (by omega), ← List.append_assoc, hCe] at hN
            have ar0 : ∀ w', (Op.stringOp .add ⟨A.toArray⟩ ⟨#[124]⟩).run Tryz.prog w' = .ok (.string ⟨C.toArray⟩) w' := fun w' => by rw [← hCe]; exact run_string_add_lists w' A [124] (by omega) (by decide)
            have ar : ∀ w', (Op.stringOp .add ⟨C.toArray⟩ ⟨X.toArray⟩).run Tryz.prog w' = .ok (.string ⟨B.toArray⟩) w' := fun w' => by rw [hN]; exact run_string_add_lists w' C X (by omega) (by omega)
            clear hN hCe
            go_wp2_with fail
            refine HIX.out.mono ?_
            rintro e w2 ⟨rfl, f2⟩
            have F2 := Lib.hid f2; clear f2
            go_wp2
            go_roundw
            case rel => exact ⟨k + 1, by go_num, by omega, by rw [HBE.out], FR.out.trans' F2.out⟩
            case measure => simp [intOf]; omega
          · rw [if_pos (by omega), List.nil_append] at hN
            have ar : ∀ w', (Op.stringOp .add ⟨A.toArray⟩ ⟨X.toArray⟩).run Tryz.prog w' = .ok (.string ⟨B.toArray⟩) w' := fun w' => by rw [hN]; exact run_string_add_lists w' A X (by omega) (by omega)
            clear hN
            go_wp2_with fail
            refine HIX.out.mono ?_
            rintro e w2 ⟨rfl, f2⟩
            have F2 := Lib.hid f2; clear f2
            go_wp2
            go_roundw
            case rel => exact ⟨k + 1, by go_num, by omega, by rw [HBE.out], FR.out.trans' F2.out⟩
            case measure => simp [intOf]; omega
        · obtain rfl : k = ps.length := by omega
          go_wp2
          go_ret
          exact ⟨by rw [HALL.out]; rfl, F1.out.trans' FR.out⟩
    by_cases k4 : kd = 4
    · subst k4
      have hn : (T.mk 4 s ps mn mx nu).nd = .rep (T.nd1 ps) mn mx := by simp [T.nd]
      have hof := T.nd_of (T.mk 4 s ps mn mx nu)
      rw [show T.parts (T.mk 4 s ps mn mx nu) = ps from rfl] at hof
      rw [hn] at hsh hm hb ⊢
      rw [Nd.shw] at hsh
      rw [Nd.size] at hm hb
      rw [← hof] at hsh hm hb ⊢
      have htx : (Nd.rep (T.of (T.mk 4 s ps mn mx nu)).nd mn mx).txt = (T.of (T.mk 4 s ps mn mx nu)).nd.txt ++ timesT mn mx := by rw [Nd.txt]
      rw [htx]
      obtain ⟨x, hxe⟩ : ∃ x, T.of (T.mk 4 s ps mn mx nu) = x := ⟨_, rfl⟩
      rw [hxe] at hsh hm hb HOC ⊢
      have hxl := Nd.txt_le _ hsh.1
      have htl := timesT_le hsh.2
      have HE := Lib.hid (fun w' (f : Fr nob w w') => IH.out x _ w' (by omega) (by omega) hsh.1 (HOC.out.on f))
      have HT := Lib.hid (fun w' => ref_times mn mx w' hsh.2)
      obtain ⟨X, hXe⟩ : ∃ X, x.nd.txt = X := ⟨_, rfl⟩
      obtain ⟨Y, hYe⟩ : ∃ Y, timesT mn mx = Y := ⟨_, rfl⟩
      rw [hXe] at HE hxl ⊢
      rw [hYe] at HT htl ⊢
      have ar : ∀ w', (Op.stringOp .add ⟨X.toArray⟩ ⟨Y.toArray⟩).run Tryz.prog w' = .ok (.string ⟨(X ++ Y).toArray⟩) w' := fun w' => run_string_add_lists w' X Y (by omega) (by omega)
      obtain ⟨Z, hZe⟩ : ∃ Z, X ++ Y = Z := ⟨_, rfl⟩
      rw [hZe] at ar ⊢
      obtain ⟨d0, d1, d2, d3, d4, d5, d6, d7, d8⟩ := C9.of HB1.out
      have e0 := cell_keptv d0; have e1 := cell_keptv d1; have e2 := cell_keptv d2; have e3 := cell_keptv d3; have e4 := cell_keptv d4; have e5 := cell_keptv d5; have e6 := cell_keptv d6; have e7 := cell_keptv d7; have e8 := cell_keptv d8
      clear hn hof hsh hm hb htx hxe hXe hYe hZe
      go_enter Tryz.func39, Tryz.ntmps39
      go_wp2_with (rw [← HW1.out])
      refine region_fr 7 (by kernel_rfl) (by kernel_rfl) ?_
      simp only [List.take_succ_cons, List.take_zero, List.drop_succ_cons, List.drop_zero]
      repeat (quiet_step (first | (with_reducible exact calls_fr (HOF.out _ (Fr.trans' F1.out (grown_fr _ _ _)))) | (with_reducible exact calls_fr (HE.out _ (Fr.trans' F1.out (grown_fr _ _ _))))))
      refine wpQuiet_nil ?_
      intro w3 f3
      have F3 := Lib.hid (F1.out.trans' f3); clear f3 e0 e1 e2 e3 e4 e5 e6 e7 e8
      go_wp2_with fail
      refine (HT.out _).mono ?_
      rintro e w4 ⟨rfl, f4⟩
      have F4 := Lib.hid (F3.out.trans' f4); clear f4
      go_wp2
      go_ret
      exact ⟨rfl, F4.out⟩
    by_cases k5 : kd = 5
    · subst k5
      have hn : (T.mk 5 s ps mn mx nu).nd = .group nu (T.nd1 ps) := by simp [T.nd]
      have hof := T.nd_of (T.mk 5 s ps mn mx nu)
      rw [show T.parts (T.mk 5 s ps mn mx nu) = ps from rfl] at hof
      rw [hn] at hsh hm hb ⊢
      rw [Nd.shw] at hsh
      rw [Nd.size] at hm hb
      rw [← hof] at hsh hm hb ⊢
      have htx : (Nd.group nu (T.of (T.mk 5 s ps mn mx nu)).nd).txt = [40] ++ ((T.of (T.mk 5 s ps mn mx nu)).nd.txt ++ [41]) := by rw [Nd.txt]
      rw [htx]
      obtain ⟨x, hxe⟩ : ∃ x, T.of (T.mk 5 s ps mn mx nu) = x := ⟨_, rfl⟩
      rw [hxe] at hsh hm hb HOC ⊢
      have hxl := Nd.txt_le _ hsh
      have HE := Lib.hid (fun w' (f : Fr nob w w') => IH.out x _ w' (by omega) (by omega) hsh (HOC.out.on f))
      obtain ⟨X, hXe⟩ : ∃ X, x.nd.txt = X := ⟨_, rfl⟩
      rw [hXe] at HE hxl ⊢
      obtain ⟨Y, hYe⟩ : ∃ Y, [40] ++ X = Y := ⟨_, rfl⟩
      have hYl : Y.length ≤ 6000001 := by rw [← hYe]; simp; omega
      have ar0 : ∀ w', (Op.stringOp .add ⟨#[40]⟩ ⟨X.toArray⟩).run Tryz.prog w' = .ok (.string ⟨Y.toArray⟩) w' := fun w' => by rw [← hYe]; exact run_string_add_lists w' [40] X (by decide) (by omega)
      rw [← List.append_assoc, hYe]
      have ar : ∀ w', (Op.stringOp .add ⟨Y.toArray⟩ ⟨#[41]⟩).run Tryz.prog w' = .ok (.string ⟨(Y ++ [41]).toArray⟩) w' := fun w' => run_string_add_lists w' Y [41] (by omega) (by decide)
      obtain ⟨Z, hZe⟩ : ∃ Z, Y ++ [41] = Z := ⟨_, rfl⟩
      rw [hZe] at ar ⊢
      obtain ⟨d0, d1, d2, d3, d4, d5, d6, d7, d8⟩ := C9.of HB1.out
      clear hn hof hsh hm hb htx hxe hXe hYe hZe
      go_enter Tryz.func39, Tryz.ntmps39
      go_wp2_with (rw [← HW1.out])
      refine (HOF.out _ F1.out).mono ?_
      rintro e w2 ⟨rfl, f2⟩
      have F2 := Lib.hid (F1.out.trans' f2); clear f2 d0 d1 d2 d3 d4 d5 d6 d7 d8
      go_wp2_with fail
      refine (HE.out _ F2.out).mono ?_
      rintro e w3 ⟨rfl, f3⟩
      have F3 := Lib.hid (F2.out.trans' f3); clear f3
      go_wp2
      go_ret
      exact ⟨rfl, F3.out⟩
    by_cases k6 : kd = 6
    · subst k6
      have hn : (T.mk 6 s ps mn mx nu).nd = .back nu := by simp [T.nd]
      rw [hn] at hsh ⊢
      rw [Nd.shw] at hsh
      obtain ⟨n, rfl⟩ : ∃ n : Nat, nu = n := ⟨nu.toNat, by omega⟩
      have htx : (Nd.back (n : Int)).txt = [92] ++ Lib.decDigits n := by rw [Nd.txt, Int.toNat_natCast]
      rw [htx]
      have HD := Lib.hid (fun w' => ref_digits n w' (by omega))
      have hdl := dec_len n (by omega)
      obtain ⟨D, hD⟩ : ∃ D, Lib.decDigits n = D := ⟨_, rfl⟩
      rw [hD] at HD hdl ⊢
      have ar : ∀ w', (Op.stringOp .add ⟨#[92]⟩ ⟨D.toArray⟩).run Tryz.prog w' = .ok (.string ⟨([92] ++ D).toArray⟩) w' := fun w' => run_string_add_lists w' [92] D (by decide) (by omega)
      obtain ⟨d0, d1, d2, d3, d4, d5, d6, d7, d8⟩ := C9.of HB1.out
      clear hn hsh htx hm hb hD
      go_enter Tryz.func39, Tryz.ntmps39
      go_wp2_with (rw [← HW1.out])
      refine (HD.out _).mono ?_
      rintro e w2 ⟨rfl, f2⟩
      have F2 := Lib.hid (F1.out.trans' f2); clear f2 d0 d1 d2 d3 d4 d5 d6 d7 d8
      go_wp2
      go_ret
      exact ⟨rfl, F2.out⟩
    by_cases k7 : kd = 7
    · subst k7
      have hn : (T.mk 7 s ps mn mx nu).nd.txt = [94] := by simp [T.nd, Nd.txt]
      rw [hn]
      obtain ⟨d0, _⟩ := C9.of HB1.out
      clear hn hsh hm hb
      go_enter Tryz.func39, Tryz.ntmps39
      go_wp2_with (rw [← HW1.out])
      go_ret
      exact ⟨rfl, F1.out⟩
    by_cases k8 : kd = 8
    · subst k8
      have hn : (T.mk 8 s ps mn mx nu).nd.txt = [36] := by simp [T.nd, Nd.txt]
      rw [hn]
      obtain ⟨d0, _⟩ := C9.of HB1.out
      clear hn hsh hm hb
      go_enter Tryz.func39, Tryz.ntmps39
      go_wp2_with (rw [← HW1.out])
      go_ret
      exact ⟨rfl, F1.out⟩
    have hn : (T.mk kd s ps mn mx nu).nd.txt = [] := by simp [T.nd, k1, k2, k3, k4, k5, k6, k7, k8, Nd.txt]
    rw [hn]
    obtain ⟨d0, _⟩ := C9.of HB1.out
    clear hn hsh hm hb
    go_enter Tryz.func39, Tryz.ntmps39
    go_wp2_with (rw [← HW1.out])
    go_ret
    exact ⟨rfl, F1.out⟩

set_option maxRecDepth 100000 in
set_option maxHeartbeats 1000000 in
theorem ref_Ere (t : T) (cs : List Value) (w : World) (hb : t.nd.size ≤ 2000) (hk : t.known = true) (hsh : t.nd.right = true → t.nd.shw) (h : RT nob w t cs) :
    Calls Tryz.prog 14 #[.agg cs.toArray] w fun e w' => e = .returned (.string ⟨(if t.nd.right then t.nd.txt else []).toArray⟩) ∧ Fr nob w w' := by
  obtain ⟨kd, s, ps, mn, mx, nu, a, c, ht, rfl, hs⟩ := h.open'
  obtain ⟨w1, hw1⟩ : ∃ w1, w1 = w.alloc (.cells #[.int .i64 kd, .int .u64 s.a, .int .u64 s.b, .int .u64 s.c, .int .u64 s.d, .slice a ps.length c, .int .i64 mn, .int .i64 mx, .int .i64 nu] 32) := ⟨_, rfl⟩
  have f1 : Fr nob w w1 := by rw [hw1]; exact (Fr.refl _ _).alloc _
  have hb1 : w1.heap[w.heap.size]? = some (.cells #[.int .i64 kd, .int .u64 s.a, .int .u64 s.b, .int .u64 s.c, .int .u64 s.d, .slice a ps.length c, .int .i64 mn, .int .i64 mx, .int .i64 nu] 32 (0, 0)) := by rw [hw1]; exact newAt _ _
  have F1 := Lib.hid f1; have HW1 := Lib.hid hw1; have HB1 := Lib.hid hb1
  have HR := Lib.hid (right_ref t _ w1 (by omega) hk (h.on f1))
  have HE := Lib.hid (fun (hr : t.nd.right = true) w' (f : Fr nob w w') => ref_ere t.nd.size t _ w' (Nat.le_refl _) hb (hsh hr) (h.on f))
  obtain ⟨d0, d1, d2, d3, d4, d5, d6, d7, d8⟩ := C9.of hb1
  clear ht hs h hk hb f1 hw1 hb1 hsh
  cases hr : t.nd.right with
  | false =>
    rw [hr] at HR
    rw [if_neg (by decide)]
    clear HE hr
    go_enter Tryz.func14, Tryz.ntmps14
    go_wp2_with (rw [← HW1.out])
    refine HR.out.mono ?_
    rintro e w2 ⟨rfl, f2⟩
    have F2 := Lib.hid (F1.out.trans' f2); clear f2
    go_wp2
    go_ret
    exact ⟨rfl, F2.out⟩
  | true =>
    have HE' := Lib.hid (HE.out hr)
    rw [hr] at HR
    rw [if_pos rfl]
    clear HE hr
    go_enter Tryz.func14, Tryz.ntmps14
    go_wp2_with (rw [← HW1.out])
    refine HR.out.mono ?_
    rintro e w2 ⟨rfl, f2⟩
    obtain ⟨e0, e1, e2, e3, e4, e5, e6, e7, e8⟩ := C9.of (f2.heap HB1.out (fun x => x))
    have F2 := Lib.hid (F1.out.trans' f2); clear f2 d0 d1 d2 d3 d4 d5 d6 d7 d8
    go_wp2_with fail
    refine (HE'.out _ F2.out).mono ?_
    rintro e w3 ⟨rfl, f3⟩
    have F3 := Lib.hid (F2.out.trans' f3); clear f3
    go_wp2
    go_ret
    exact ⟨rfl, F3.out⟩
end Go.Proofs.YtlchaocpejfikaaGreatDoor

/-
  The reader of package bre in memory; walks of ahead, over, take, last.
-/
namespace Go.Proofs.YtlchaocpejfikaaGreatDoor
open Go.RowKit

/-- The groups closed, as a call's own slice of ints; the marks, of two cells each. -/
def mkC (l : List (Nat × List UInt8)) : List Value := l.flatMap fun m => [.int .i64 (m.1 : Nat), .string ⟨m.2.toArray⟩]
def OwC (w : World) (l : List Nat) (v : Value) : Prop := w.ownsRow 0 3 1 v l.length (l.map fun (n : Nat) => Value.int .i64 n)
def OwM (w : World) (l : List (Nat × List UInt8)) (v : Value) : Prop := w.ownsRow 0 147 2 v l.length (mkC l)

/-- The blocks that a reading turns: the reader's, its two rows'. -/
structure Br (b : Nat) (l : List UInt8) (s : RxS) (S : Nat → Prop) (cv mv : Value) (w : World) : Prop where
  blk : w.heap[b]? = some (.cells #[.string ⟨l.toArray⟩, .int .i64 s.at_, .int .i64 s.opened, cv, mv] 103 (0, 0))
  cl : OwC w s.closed cv
  ma : OwM w s.marks mv
  nc : ∀ k, cv.ownBlock = some k → k ≠ b ∧ S k
  nm : ∀ k, mv.ownBlock = some k → k ≠ b ∧ S k
  ne : ∀ k, cv.ownBlock = some k → mv.ownBlock ≠ some k
  me : S b
def Rdg (b : Nat) (l : List UInt8) (s : RxS) (S : Nat → Prop) (w : World) : Prop := ∃ cv mv, Br b l s S cv mv w

/-- From one world, with the blocks that may turn, to a later one. -/
structure Stp (S : Nat → Prop) (w : World) (S' : Nat → Prop) (w' : World) : Prop where
  fr : Fr S w w'
  old : ∀ k, k < w.heap.size → S' k → S k
  lt : (∀ k, S k → k < w.heap.size) → ∀ k, S' k → k < w'.heap.size
theorem Stp.refl (S : Nat → Prop) (w : World) : Stp S w S w := ⟨Fr.refl _ _, fun _ _ h => h, fun h => h⟩
theorem Stp.trans {S S' S'' : Nat → Prop} {w w' w'' : World} (h : Stp S w S' w') (k : Stp S' w' S'' w'') : Stp S w S'' w'' :=
  ⟨h.fr.trans k.fr (fun i hi x => h.old i hi x), fun i hi x => h.old i hi (k.old i (Nat.lt_of_lt_of_le hi h.fr.size) x), fun hl => k.lt (h.lt hl)⟩
theorem Stp.of {S : Nat → Prop} {w w' : World} (h : Fr nob w w') : Stp S w S w' := ⟨h.any, fun _ _ x => x, fun hl k hk => Nat.lt_of_lt_of_le (hl k hk) h.size⟩
/-- Blocks that may turn, and others that a tree does not touch. -/
def SO (S O : Nat → Prop) : Nat → Prop := fun k => S k ∨ O k
theorem Stp.rn {S S' O : Nat → Prop} {w w' : World} (h : Stp S w S' w') {t : Nd} {v : Value} (k : RN (SO S O) w t v) : RN (SO S' O) w' t v := RN.keep h.fr (fun _ _ x => .inl x) (fun i hi x => x.elim (fun y => .inl (h.old i hi y)) .inr) t v k
theorem Stp.from {S S' : Nat → Prop} {W w w' : World} (h : Stp S w S' w') (f : Fr nob W w) (hS : ∀ k, S k → W.heap.size ≤ k) : Fr nob W w' :=
  f.trans h.fr (fun i hi x => by have := hS i x; omega)

theorem Br.on {b : Nat} {l : List UInt8} {s : RxS} {S : Nat → Prop} {cv mv : Value} {w w' : World} (h : Br b l s S cv mv w) (f : Fr nob w w') : Br b l s S cv mv w' :=
  ⟨f.heap h.blk (fun x => x), ownsRow_fr h.cl f (fun _ _ x => x), ownsRow_fr h.ma f (fun _ _ x => x), h.nc, h.nm, h.ne, h.me⟩
theorem Rdg.on {b : Nat} {l : List UInt8} {s : RxS} {S : Nat → Prop} {w w' : World} (h : Rdg b l s S w) (f : Fr nob w w') : Rdg b l s S w' := by
  obtain ⟨cv, mv, h⟩ := h; exact ⟨cv, mv, h.on f⟩

/-- A cell of the reader turned. -/
theorem Br.turned {b : Nat} {l : List UInt8} {s : RxS} {S : Nat → Prop} {cv mv : Value} {w : World} (h : Br b l s S cv mv w) (j : Nat) (u : Value) (s' : RxS)
    (hj : (#[.string ⟨l.toArray⟩, .int .i64 s.at_, .int .i64 s.opened, cv, mv] : Array Value).setIfInBounds j u = #[.string ⟨l.toArray⟩, .int .i64 s'.at_, .int .i64 s'.opened, cv, mv]) (hc : s'.closed = s.closed) (hm : s'.marks = s.marks) :
    Br b l s' S cv mv (w.setCell ⟨b, j, none⟩ u) := by
  have hf := (Fr.refl (fun k => k = b) w).setCell (p := ⟨b, j, none⟩) (fun _ => rfl) u
  have hb := heap_setCell_at h.blk j u
  rw [hj] at hb
  exact ⟨hb, by rw [hc]; exact ownsRow_fr h.cl hf (fun k hk e => (h.nc k hk).1 e), by rw [hm]; exact ownsRow_fr h.ma hf (fun k hk e => (h.nm k hk).1 e), h.nc, h.nm, h.ne, h.me⟩
theorem Br.stp {b : Nat} {l : List UInt8} {s : RxS} {S : Nat → Prop} {cv mv : Value} {w : World} (h : Br b l s S cv mv w) (j : Nat) (u : Value) : Stp S w S (w.setCell ⟨b, j, none⟩ u) :=
  ⟨(Fr.refl S w).setCell (p := ⟨b, j, none⟩) (fun _ => h.me) u, fun _ _ x => x, fun hl k hk => by have := hl k hk; simpa [World.setCell] using this⟩

set_option maxRecDepth 100000 in
theorem br_ahead (b : Nat) (l t : List UInt8) (s : RxS) (S : Nat → Prop) (w : World) (hl : l.length ≤ 1000000) (ht : t.length ≤ 1000000) (ha : s.at_ ≤ l.length) (h : Rdg b l s S w) :
    Calls Tryz.prog 69 #[.pointer (some ⟨b, 0, none⟩), .string ⟨t.toArray⟩] w fun x w' => x = .returned (.bool (ahd l s.at_ t)) ∧ Fr nob w w' := by
  obtain ⟨cv, mv, h⟩ := h
  have rr := rule5 h.blk
  clear h
  have hal : (s.at_ : Int) ≤ l.length := by omega
  have hP := fun w : World => strings_HasPrefix (l.drop s.at_) t w (by simp; omega) (by omega)
  have HPP := Lib.hid hP; clear hP
  go_enter Tryz.func69, Tryz.ntmps69
  go_wp2_with fail
  refine region_fr 10 (by kernel_rfl) (by kernel_rfl) ?_
  simp only [List.take_succ_cons, List.take_zero, List.drop_succ_cons, List.drop_zero]
  repeat (quiet_step (fail))
  refine wpQuiet_nil ?_
  intro wC fC
  go_wp2_with fail
  refine (HPP.out _).mono ?_
  rintro e w2 ⟨rfl, rfl⟩
  go_wp2
  go_ret
  exact ⟨rfl, fC⟩

set_option maxRecDepth 100000 in
theorem br_over (b : Nat) (l : List UInt8) (s : RxS) (S : Nat → Prop) (w : World) (hl : l.length ≤ 1000000) (h : Rdg b l s S w) :
    Calls Tryz.prog 92 #[.pointer (some ⟨b, 0, none⟩)] w fun x w' => x = .returned (.bool (decide (l.length ≤ s.at_))) ∧ Fr nob w w' := by
  obtain ⟨cv, mv, h⟩ := h
  have rr := rule5 h.blk
  clear h
  have hd : decide ((l.length : Int) ≤ (s.at_ : Int)) = decide (l.length ≤ s.at_) := by simp
  go_enter Tryz.func92, Tryz.ntmps92
  go_wp2_with fail
  refine region_fr 9 (by kernel_rfl) (by kernel_rfl) ?_
  simp only [List.take_succ_cons, List.take_zero, List.drop_succ_cons, List.drop_zero]
  repeat (quiet_step (fail))
  refine wpQuiet_nil ?_
  intro wC fC
  go_wp2
  go_ret
  exact ⟨ret_bool (by simp), fC⟩

set_option maxRecDepth 100000 in
theorem br_last (b : Nat) (l : List UInt8) (s : RxS) (S : Nat → Prop) (w : World) (hl : l.length ≤ 1000000) (ha : s.at_ < l.length) (h : Rdg b l s S w) :
    Calls Tryz.prog 94 #[.pointer (some ⟨b, 0, none⟩)] w fun x w' => x = .returned (.bool (lastS l s.at_)) ∧ Fr nob w w' := by
  obtain ⟨cv, mv, h⟩ := h
  have rr := rule5 h.blk
  clear h
  have hal : (s.at_ : Int) + 1 ≤ l.length := by omega
  have hw : IntKind.i64.wrap ((s.at_ : Int) + 1) = s.at_ + 1 := IntWalk.i64_in _ (by omega)
  obtain ⟨R, hR⟩ : ∃ R, l.drop (s.at_ + 1) = R := ⟨_, rfl⟩
  have hRl : R.length ≤ 1000000 := by rw [← hR, List.length_drop]; omega
  have hS1 := fun w : World => strings_HasPrefix R [92, 41] w (by omega) (by decide)
  have hS2 := fun w : World => strings_HasPrefix R [92, 124] w (by omega) (by decide)
  have HS1 := Lib.hid hS1; have HS2 := Lib.hid hS2; clear hS1 hS2
  unfold lastS ahd
  rw [hR]
  go_enter Tryz.func94, Tryz.ntmps94
  go_wp2_with fail
  refine region_fr 9 (by kernel_rfl) (by kernel_rfl) ?_
  simp only [List.take_succ_cons, List.take_zero, List.drop_succ_cons, List.drop_zero]
  repeat (quiet_step (fail))
  refine wpQuiet_nil ?_
  intro wC fC
  obtain ⟨p1, h1⟩ : ∃ p, ([92, 41] : List UInt8).isPrefixOf R = p := ⟨_, rfl⟩
  obtain ⟨p2, h2⟩ : ∃ p, ([92, 124] : List UInt8).isPrefixOf R = p := ⟨_, rfl⟩
  rw [h1] at HS1
  rw [h2] at HS2
  have hpost : (R.isEmpty || ([92, 41] : List UInt8).isPrefixOf R || ([92, 124] : List UInt8).isPrefixOf R) = (R.isEmpty || p1 || p2) := by rw [h1, h2]
  have HPO := Lib.hid hpost
  clear h1 h2 hpost
  cases hE : R.isEmpty <;> cases p1 <;> cases p2
  all_goals
    rw [hE] at HPO
    go_wp2_with (first | (go_at_call 97; refine (HS1.out _).mono ?_; rintro e w' ⟨rfl, rfl⟩) | (go_at_call 97; refine (HS2.out _).mono ?_; rintro e w' ⟨rfl, rfl⟩))
    go_ret
    exact ⟨ret_bool (by rw [hE]; exact HPO.out.symm), fC⟩

set_option maxRecDepth 100000 in
theorem br_take (b : Nat) (l t : List UInt8) (s : RxS) (S : Nat → Prop) (w : World) (hl : l.length ≤ 100000) (ht : t.length ≤ 1000) (ha : s.at_ ≤ l.length) (h : Rdg b l s S w) :
    Calls Tryz.prog 91 #[.pointer (some ⟨b, 0, none⟩), .string ⟨t.toArray⟩] w fun x w' => x = .returned (.bool (ahd l s.at_ t)) ∧ Rdg b l (if ahd l s.at_ t then s.go t.length else s) S w' ∧ Stp S w S w' := by
  have hA := br_ahead b l t s S w (by omega) (by omega) ha h
  obtain ⟨cv, mv, h⟩ := h
  obtain ⟨c, hc⟩ : ∃ c, ahd l s.at_ t = c := ⟨_, rfl⟩
  rw [hc] at hA ⊢
  have HB := Lib.hid h; clear h
  go_enter Tryz.func91, Tryz.ntmps91
  go_wp2_with fail
  refine hA.mono ?_
  rintro e w1 ⟨rfl, f1⟩
  have hB1 := HB.out.on f1
  obtain ⟨⟨c0, c1, c2, c3, c4⟩, d0, d1, d2, d3, d4⟩ := rule5 hB1.blk _ (Fr.refl _ _)
  have HB1 := Lib.hid hB1; have F1 := Lib.hid f1; clear hB1 f1
  cases c with
  | false =>
    go_wp2
    go_ret
    exact ⟨rfl, ⟨cv, mv, HB1.out⟩, Stp.of F1.out⟩
  | true =>
    go_wp2
    go_ret
    exact ⟨rfl, ⟨cv, mv, HB1.out.turned 1 _ (s.go t.length) (by simp [RxS.go]) rfl rfl⟩, (Stp.of F1.out).trans (HB1.out.stp 1 _)⟩
end Go.Proofs.YtlchaocpejfikaaGreatDoor

/-
  Walks of package bre: fail, number, mark.
-/
namespace Go.Proofs.YtlchaocpejfikaaGreatDoor
open Go.RowKit

/-- What is thrown. -/
def thrown (e : Int) (p : Nat) : List PanicEntry := [{ v := .iface 100 (.agg #[.int .i64 e, .int .i64 (p : Nat)]), recovered := false }]

theorem br_fail (e : Int) (p : Nat) (w : World) :
    Calls Tryz.prog 93 #[.int .i64 e, .int .i64 (p : Nat)] w fun x w' => x = .panicked (thrown e p) ∧ w = w' := by
  go_enter Tryz.func93, Tryz.ntmps93
  go_wp2
  exact ⟨rfl, rfl, rfl⟩

theorem num3_out {l : List UInt8} {k c n : Nat} (h : l.length ≤ k) : num3 (l.drop k) c n = (n, c) := by
  rw [List.drop_eq_nil_of_le h]; rfl
theorem num3_no {l : List UInt8} {k c n : Nat} (h : k < l.length) (hd : ¬ (48 ≤ l[k].toNat ∧ l[k].toNat ≤ 57 ∧ c ≠ 3)) : num3 (l.drop k) c n = (n, c) := by
  rw [List.drop_eq_getElem_cons h, num3, if_neg hd]
theorem num3_more {l : List UInt8} {k c n : Nat} (h : k < l.length) (hd : 48 ≤ l[k].toNat ∧ l[k].toNat ≤ 57 ∧ c ≠ 3) : num3 (l.drop k) c n = num3 (l.drop (k + 1)) (c + 1) (n * 10 + (l[k].toNat - 48)) := by
  rw [List.drop_eq_getElem_cons h, num3, if_pos hd]
theorem num3_le : ∀ (r : List UInt8) (c n : Nat), c ≤ 3 → n < 10 ^ c → (num3 r c n).2 ≤ 3 ∧ (num3 r c n).1 < 10 ^ (num3 r c n).2 ∧ c ≤ (num3 r c n).2 ∧ (num3 r c n).2 ≤ c + r.length
  | [], c, n, h, hn => ⟨h, hn, Nat.le_refl _, by simp [num3]⟩
  | x :: r, c, n, h, hn => by
    rw [num3]
    split
    · next hd =>
      have hn2 : n * 10 + (x.toNat - 48) < 10 ^ (c + 1) := by rw [Nat.pow_succ]; omega
      have ih := num3_le r (c + 1) (n * 10 + (x.toNat - 48)) (by omega) hn2
      refine ⟨ih.1, ih.2.1, by omega, ?_⟩
      have := ih.2.2.2; rw [List.length_cons]; omega
    · exact ⟨h, hn, Nat.le_refl _, by simp⟩

theorem fr_iterB {S : Nat → Prop} {a w : World} (h : Fr S a w) (s : ByteArray) (p : Nat) : Fr S a (w.iter s p) := h.alloc _
def p10 (c : Nat) : Nat := 10 ^ c
theorem p10_succ (c : Nat) : p10 (c + 1) = p10 c * 10 := by unfold p10; rw [Nat.pow_succ]
theorem p10_le {c : Nat} (h : c ≤ 3) : p10 c ≤ 1000 := by unfold p10; exact Nat.le_trans (Nat.pow_le_pow_right (by omega) h) (by omega)

set_option maxRecDepth 100000 in
set_option maxHeartbeats 1000000 in
theorem br_number (b : Nat) (l : List UInt8) (s : RxS) (S : Nat → Prop) (w : World) (hl : l.length ≤ 100000) (ha : s.at_ ≤ l.length) (h : Rdg b l s S w) :
    Calls Tryz.prog 133 #[.pointer (some ⟨b, 0, none⟩)] w fun x w' =>
      x = .returned (.tuple #[.int .i64 (num3 (l.drop s.at_) 0 0).1, .bool (decide (0 < (num3 (l.drop s.at_) 0 0).2))]) ∧ Rdg b l (s.go (num3 (l.drop s.at_) 0 0).2) S w' ∧ Stp S w S w' := by
  obtain ⟨cv, mv, h⟩ := h
  have rr := rule5 h.blk
  have HB := Lib.hid h; clear h
  have hal : (s.at_ : Int) ≤ l.length := by omega
  obtain ⟨F, hF⟩ : ∃ F, num3 (l.drop s.at_) 0 0 = F := ⟨_, rfl⟩
  rw [hF]
  have HF := Lib.hid hF; clear hF
  go_enter Tryz.func133, Tryz.ntmps133
  go_wp2_with fail
  refine region_fr 8 (by kernel_rfl) (by kernel_rfl) ?_
  simp only [List.take_succ_cons, List.take_zero, List.drop_succ_cons, List.drop_zero]
  repeat (quiet_step (fail))
  refine wpQuiet_nil ?_
  intro wC fC
  have rc : ∀ (q : ByteArray) (p : Nat), (wC.iter q p).cell? ⟨b, 1, none⟩ = some (.int .i64 s.at_) ∧ (wC.iter q p).frozen? ⟨b, 1, none⟩ = false := fun q p => by
    obtain ⟨⟨_, c1, _⟩, _, d1, _⟩ := rr _ (fr_iterB fC q p)
    exact ⟨c1, d1⟩
  have HB1 := Lib.hid (fun (q : ByteArray) (p : Nat) => HB.out.on (fr_iterB fC q p))
  have FC := Lib.hid fC
  clear rr fC
  go_wp2_with fail
  go_loopw [4, 5] (fun n c wr => ∃ m k : Nat, n = .int .i64 m ∧ c = .int .i64 k ∧ wr = wC.iter ⟨(l.drop s.at_).toArray⟩ k ∧ k ≤ 3 ∧ s.at_ + k ≤ l.length ∧ m < p10 k ∧ num3 (l.drop (s.at_ + k)) k m = F) (fun _ c _ => 4 - (intOf c).toNat)
  case atStart => exact ⟨0, 0, rfl, rfl, rfl, by omega, by omega, by decide, HF.out⟩
  case round =>
    obtain ⟨m, k, rfl, rfl, rfl, hk, hle, hm, hb⟩ := hrel
    have fin : ∀ p, F = (m, k) → Rdg b l (s.go F.2) S ((wC.iter ⟨(l.drop s.at_).toArray⟩ p).setCell ⟨b, 1, none⟩ (.int .i64 ((s.at_ : Int) + k))) ∧ Stp S w S ((wC.iter ⟨(l.drop s.at_).toArray⟩ p).setCell ⟨b, 1, none⟩ (.int .i64 ((s.at_ : Int) + k))) := fun p hF => by
      subst hF
      have h1 := HB1.out ⟨(l.drop s.at_).toArray⟩ p
      exact ⟨⟨cv, mv, h1.turned 1 _ (s.go k) (by simp [RxS.go]) rfl rfl⟩, (Stp.of (fr_iterB FC.out _ p)).trans (h1.stp 1 _)⟩
    have FIN := Lib.hid fin; clear fin
    have hp := p10_le hk
    by_cases hlt : s.at_ + k < l.length
    · have hk2 : k < (l.drop s.at_).length := by rw [List.length_drop]; omega
      have hk3 : k < (ByteArray.mk (l.drop s.at_).toArray).size := by rw [bsize]; exact hk2
      have hget : (ByteArray.mk (l.drop s.at_).toArray)[k]'hk3 = l[s.at_ + k] := by rw [bget]; exact List.getElem_drop
      by_cases hd : 48 ≤ l[s.at_ + k].toNat ∧ l[s.at_ + k].toNat ≤ 57
      · obtain ⟨hd1, hd2⟩ := hd
        obtain ⟨x, hx⟩ : ∃ x, l[s.at_ + k] = x := ⟨_, rfl⟩
        have hnx : ∀ ty, (Instr.next (.pointer (some ⟨wC.heap.size, 0, none⟩)) true ty).run Tryz.prog (wC.iter ⟨(l.drop s.at_).toArray⟩ k) = .ok (.tuple #[.bool true, .int .i64 k, .int .i32 x.toNat]) (wC.iter ⟨(l.drop s.at_).toArray⟩ (k + 1)) := fun ty => by
          rw [run_next_ascii wC _ k ty hk3 (by rw [hget]; omega), hget, hx]
        by_cases h3 : k = 3
        · subst h3
          rw [num3_no hlt (fun h => h.2.2 rfl)] at hb
          rw [hx] at hd1 hd2
          have t1 : decide ((0 : Int) < 3) = true := rfl
          have hF := FIN.out 4 hb.symm
          subst hb
          have HFN := Lib.hid hF
          obtain ⟨rc1, rc2⟩ := rc ⟨(l.drop s.at_).toArray⟩ 4
          clear hk2 hk3 hget hm hF rc hx
          go_wp2
          go_ret2
          exact ⟨rfl, HFN.out⟩
        · have h3' : ((k : Int) == 3) = false := by simp; omega
          rw [num3_more hlt ⟨hd1, hd2, h3⟩] at hb
          rw [hx] at hd1 hd2 hb
          have hps := p10_succ k
          have HX := Lib.hid hb; have HP := Lib.hid hps
          have hk4 : k ≤ 2 := by omega
          have hm2 : m < 1000 := by omega
          clear hb hk2 hk3 hget h3 hps hx rc
          go_wp2
          go_roundw
          case rel => exact ⟨m * 10 + (x.toNat - 48), k + 1, by go_num, by go_num, rfl, by omega, by omega, by rw [HP.out]; omega, HX.out⟩
          case measure => simp [intOf]; omega
      · rw [num3_no hlt (fun h => hd ⟨h.1, h.2.1⟩)] at hb
        obtain ⟨r, p, hr, hnx⟩ : ∃ (r : Int) (p : Nat), (r < 48 ∨ (48 ≤ r ∧ 57 < r)) ∧ ∀ ty, (Instr.next (.pointer (some ⟨wC.heap.size, 0, none⟩)) true ty).run Tryz.prog (wC.iter ⟨(l.drop s.at_).toArray⟩ k) = .ok (.tuple #[.bool true, .int .i64 k, .int .i32 r]) (wC.iter ⟨(l.drop s.at_).toArray⟩ p) := by
          by_cases ha : l[s.at_ + k].toNat < 128
          · exact ⟨l[s.at_ + k].toNat, k + 1, by omega, fun ty => by rw [run_next_ascii wC _ k ty hk3 (by rw [hget]; exact ha), hget]⟩
          · have hh := decode_high (ByteArray.mk (l.drop s.at_).toArray) k hk3 (by rw [hget]; omega)
            exact ⟨_, _, by omega, fun ty => run_next_any wC _ k ty hk3⟩
        have hF := FIN.out p hb.symm
        subst hb
        have HFN := Lib.hid hF
        obtain ⟨rc1, rc2⟩ := rc ⟨(l.drop s.at_).toArray⟩ p
        clear hk2 hk3 hget hd hm hF rc
        rcases hr with hr | ⟨hr1, hr2⟩
        all_goals
          go_wp2
          go_ret2
          exact ⟨by simp, HFN.out⟩
    · rw [num3_out (by omega)] at hb
      have hnx : ∀ ty, (Instr.next (.pointer (some ⟨wC.heap.size, 0, none⟩)) true ty).run Tryz.prog (wC.iter ⟨(l.drop s.at_).toArray⟩ k) = .ok (.tuple #[.bool false]) (wC.iter ⟨(l.drop s.at_).toArray⟩ k) := fun ty => run_next_end wC _ k ty (by rw [bsize, List.length_drop]; omega)
      have hF := FIN.out k hb.symm
      subst hb
      have HFN := Lib.hid hF
      obtain ⟨rc1, rc2⟩ := rc ⟨(l.drop s.at_).toArray⟩ k
      clear hm hF rc
      go_wp2
      go_ret2
      exact ⟨by simp, HFN.out⟩
end Go.Proofs.YtlchaocpejfikaaGreatDoor

/-
  Walks of package bre: mark, and a group closed.
-/
namespace Go.Proofs.YtlchaocpejfikaaGreatDoor
open Go.RowKit

theorem own_lt {w : World} {e : TypeId} {size n : Nat} {v : Value} {xs : List Value} (h : w.ownsRow 0 e size v n xs) : ∀ k, v.ownBlock = some k → k < w.heap.size := by
  intro k hk
  rcases h.2 with ⟨rfl, _⟩ | ⟨r, cap, cur, rfl, _, hr, _⟩
  · cases hk
  · injection hk with hk; subst hk; exact lt_heap hr
theorem newAt0 (w : World) (A : Obj) : (w.alloc A).heap[w.heap.size]? = some A := by unfold World.alloc; exact Array.getElem?_push_size
theorem info_mark : (Tryz.prog.info? 147).map (fun i => (i.zero, i.size, i.bytes)) = some (some (.agg #[.int .i64 0, .string ByteArray.empty]), 2, 24) := by kernel_rfl
theorem mkC_append (l : List (Nat × List UInt8)) (k : Nat) (t : List UInt8) : mkC (l ++ [(k, t)]) = mkC l ++ [.int .i64 k, .string ⟨t.toArray⟩] := by simp [mkC]

def Plus (S : Nat → Prop) (v : Value) : Nat → Prop := fun k => S k ∨ v.ownBlock = some k

section
variable {b : Nat} {l : List UInt8} {s : RxS} {S : Nat → Prop} {cv mv v' : Value} {w W0 w3 : World}
theorem Br.pushM (h : Br b l s S cv mv w) (f : Fr nob w W0) (hap : Appd 1 mv v' W0 w3) {t : List UInt8}
    (hown : w3.ownsRow 0 147 2 v' (s.marks.length + 1) (mkC s.marks ++ [.int .i64 s.at_, .string ⟨t.toArray⟩])) :
    (w3.cell? ⟨b, 4, none⟩ = some mv ∧ w3.frozen? ⟨b, 4, none⟩ = false) ∧ Rdg b l (s.mark t) (Plus S v') (w3.setCell ⟨b, 4, none⟩ v') ∧ Stp S w (Plus S v') (w3.setCell ⟨b, 4, none⟩ v') := by
  have h0 := h.on f
  have hblk := hap.fr.heap h0.blk (fun e => (h.nm b e).1 rfl)
  have hsz := f.size
  have hb := lt_heap h.blk
  have hcl := ownsRow_fr h0.cl hap.fr (fun k hk e => h.ne k hk e)
  have hst := (Fr.refl (fun k => k = b) w3).setCell (p := ⟨b, 4, none⟩) (fun _ => rfl) v'
  have hnb : v'.ownBlock ≠ some b := fun e => by
    rcases hap.old b e with h1 | h1
    · exact (h.nm b h1).1 rfl
    · omega
  refine ⟨⟨cell_at hblk rfl, unfrozen_at hblk 4⟩, ⟨cv, v', by have := heap_setCell_at hblk 4 v'; simpa [RxS.mark] using this, ownsRow_fr hcl hst (fun k hk e => (h.nc k hk).1 e), ?_, fun k hk => ⟨(h.nc k hk).1, .inl (h.nc k hk).2⟩, fun k hk => ⟨fun e => hnb (by rw [← e]; exact hk), .inr hk⟩, ?_, .inl h.me⟩, ?_, ?_, ?_⟩
  · have := ownsRow_fr hown hst (fun k hk e => hnb (by rw [← e]; exact hk))
    unfold OwM
    simp only [RxS.mark, List.length_append, List.length_singleton, mkC_append]
    exact this
  · intro k hk e
    rcases hap.old k e with h1 | h1
    · exact h.ne k hk h1
    · have := own_lt h.cl k hk; omega
  · exact (f.any.trans (hap.fr.mono (T := S) fun k _ hk => (h.nm k hk).2) (fun _ _ x => x)).setCell (p := ⟨b, 4, none⟩) (fun _ => h.me) v'
  · intro k hk hx
    rcases hx with hx | hx
    · exact hx
    · rcases hap.old k hx with h1 | h1
      · exact (h.nm k h1).2
      · omega
  · intro hl k hk
    have hz : (w3.setCell ⟨b, 4, none⟩ v').heap.size = w3.heap.size := by simp [World.setCell]
    rw [hz]
    rcases hk with hk | hk
    · have := hl k hk; have := hap.fr.size; omega
    · exact own_lt hown k hk

theorem Br.pushC (h : Br b l s S cv mv w) (f : Fr nob w W0) (hap : Appd 1 cv v' W0 w3) {n : Nat}
    (hown : w3.ownsRow 0 3 1 v' (s.closed.length + 1) ((s.closed.map fun (n : Nat) => Value.int .i64 n) ++ [.int .i64 n])) :
    (w3.cell? ⟨b, 3, none⟩ = some cv ∧ w3.frozen? ⟨b, 3, none⟩ = false) ∧ Rdg b l { s with closed := s.closed ++ [n] } (Plus S v') (w3.setCell ⟨b, 3, none⟩ v') ∧ Stp S w (Plus S v') (w3.setCell ⟨b, 3, none⟩ v') := by
  have h0 := h.on f
  have hblk := hap.fr.heap h0.blk (fun e => (h.nc b e).1 rfl)
  have hsz := f.size
  have hb := lt_heap h.blk
  have hml := ownsRow_fr h0.ma hap.fr (fun k hk e => h.ne k e hk)
  have hst := (Fr.refl (fun k => k = b) w3).setCell (p := ⟨b, 3, none⟩) (fun _ => rfl) v'
  have hnb : v'.ownBlock ≠ some b := fun e => by
    rcases hap.old b e with h1 | h1
    · exact (h.nc b h1).1 rfl
    · omega
  refine ⟨⟨cell_at hblk rfl, unfrozen_at hblk 3⟩, ⟨v', mv, by have := heap_setCell_at hblk 3 v'; simpa using this, ?_, ownsRow_fr hml hst (fun k hk e => (h.nm k hk).1 e), fun k hk => ⟨fun e => hnb (by rw [← e]; exact hk), .inr hk⟩, fun k hk => ⟨(h.nm k hk).1, .inl (h.nm k hk).2⟩, ?_, .inl h.me⟩, ?_, ?_, ?_⟩
  · have := ownsRow_fr hown hst (fun k hk e => hnb (by rw [← e]; exact hk))
    unfold OwC
    simp only [List.length_append, List.length_singleton, List.map_append, List.map_cons, List.map_nil]
    exact this
  · intro k hk e
    rcases hap.old k hk with h1 | h1
    · exact h.ne k h1 e
    · have := own_lt h.ma k e; omega
  · exact (f.any.trans (hap.fr.mono (T := S) fun k _ hk => (h.nc k hk).2) (fun _ _ x => x)).setCell (p := ⟨b, 3, none⟩) (fun _ => h.me) v'
  · intro k hk hx
    rcases hx with hx | hx
    · exact hx
    · rcases hap.old k hx with h1 | h1
      · exact (h.nc k h1).2
      · omega
  · intro hl k hk
    have hz : (w3.setCell ⟨b, 3, none⟩ v').heap.size = w3.heap.size := by simp [World.setCell]
    rw [hz]
    rcases hk with hk | hk
    · have := hl k hk; have := hap.fr.size; omega
    · exact own_lt hown k hk
end

theorem mk_news {w : World} {g k : Nat} {t : List UInt8} {T : TypeId} {fr : Nat × Nat} (h : w.heap[g]? = some (.cells #[.int .i64 k, .string ⟨t.toArray⟩] T fr)) :
    ∀ j u, ([.int .i64 k, .string ⟨t.toArray⟩] : List Value)[j]? = some u → w.cell? ((⟨g, 0, none⟩ : Addr).add j) = some u := by
  intro j u hj
  match j, hj with
  | 0, hj => simp at hj; subst hj; exact cell_at h rfl
  | 1, hj => simp at hj; subst hj; exact cell_at h rfl
theorem mk_one {k : Nat} {t : List UInt8} : ∀ u ∈ ([.int .i64 k, .string ⟨t.toArray⟩] : List Value), u.oneCell' = true := by
  intro u hu
  simp only [List.mem_cons, List.not_mem_nil, or_false] at hu
  rcases hu with rfl | rfl <;> rfl

set_option maxRecDepth 100000 in
set_option maxHeartbeats 2000000 in
theorem br_mark (b : Nat) (l t : List UInt8) (s : RxS) (S : Nat → Prop) (w : World) (hm : s.marks.length ≤ 100000) (h : Rdg b l s S w) :
    Calls Tryz.prog 70 #[.pointer (some ⟨b, 0, none⟩), .string ⟨t.toArray⟩] w fun x w' => x = .returned (.tuple #[]) ∧ ∃ S', Rdg b l (s.mark t) S' w' ∧ Stp S w S' w' := by
  obtain ⟨cv, mv, h⟩ := h
  obtain ⟨a, c, rfl⟩ := ownsRow_slice h.ma
  have rb := rule5 h.blk
  obtain ⟨i0, hi, hz0, hz1, hz2⟩ := info_parts info_mark
  have HB := Lib.hid h; clear h
  go_enter Tryz.func70, Tryz.ntmps70
  go_wp2_with fail
  go_region_law (refine step_append_g rfl (.tmp 8) (.tmp 15) 43 rfl 147 i0 (.agg #[.int .i64 0, .string ByteArray.empty]) 2 24 Tryz.underlying43 hi hz0 hz1 hz2 rfl (by decide) (.slice a s.marks.length c) s.marks.length (mkC s.marks) (by rfl) (by first | exact ownsRow_fr HB.out.ma (((Fr.refl nob w).alloc _).drew) (fun _ _ x => x) | exact ownsRow_fr HB.out.ma (((Fr.refl nob w).drew).alloc _) (fun _ _ x => x)) ⟨w.heap.size, 0, none⟩ 1 1 [.int .i64 s.at_, .string ⟨t.toArray⟩] (by rfl) rfl (by first | exact mk_news (newAt0 w _) | exact mk_news (newAt0 w.drew _)) mk_one (by unfold maxLen; omega) (by omega) ?_; intro v' w3 hown' hap; obtain ⟨av, cv', rfl⟩ := ownsRow_slice hown'; obtain ⟨⟨pc, pf⟩, q1, q2⟩ := (by first | exact HB.out.pushM (((Fr.refl nob w).alloc _).drew) hap hown' | exact HB.out.pushM (((Fr.refl nob w).drew).alloc _) hap hown'); have HQ := Lib.hid q1; have HR := Lib.hid q2; clear hown' hap q1 q2)
  all_goals
    go_wp2
    go_end0
    exact ⟨rfl, _, HQ.out, HR.out⟩
end Go.Proofs.YtlchaocpejfikaaGreatDoor
