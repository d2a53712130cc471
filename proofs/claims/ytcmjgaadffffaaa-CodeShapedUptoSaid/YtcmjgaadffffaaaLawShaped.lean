/-
  CodeShaped: each instruction leads to one that is there; each slot and loop is one of the program's; it ends with the one Match; each loop's Round stands behind its Enter. Where what the law reads is of bulk at most 1048576.
-/
import Derived.Test.YtcmjgaadffffaaaCodeK
import Derived.Test.YtcmjgaadffffaaaClaim
import Derived.Test.YtcmjgaadffffaaaRows
namespace Go.Proofs.Ytcmjgaadffffaaa
open Go.RowKit Go.Maps

theorem lawI : Keyed Try.prog 3 := int_keyed Try.underlying3
theorem zeroI (w : World) : (zeroValue 3).run Try.prog w = .ok (.int .i64 0) w := by kernel_rfl
theorem keyI {k : Int} (h : (Lit.int .i64 k).wf = true) : keyOf Try.prog 3 (.int .i64 k) = some (.int .i64 k) := keyOf_int_mk Try.underlying3 h
theorem wf_small {k : Int} (h : 0 ≤ k ∧ k ≤ 3000) : (Lit.int .i64 k).wf = true := by
  have : (Lit.int .i64 (wrap64 k)).wf = true := wrap64_wf k
  rwa [show wrap64 k = k by unfold wrap64; omega] at this
theorem cnt_take_succ {l : List Ins} {k : Nat} (h : k < l.length) : cnt (l.take (k + 1)) = cnt (l.take k) + if l[k].op = 7 then 1 else 0 := by
  rw [List.take_succ_eq_append_getElem h, cnt_append, cnt_one]
abbrev C49 (w : World) (p b : Nat) (p0 p1 p2 p3 v0 v1 v2 v3 v4 v5 v6 v7 v8 : Value) : Prop := (w.cell? ⟨p, 0, none⟩ = some p0 ∧ w.cell? ⟨p, 1, none⟩ = some p1 ∧ w.cell? ⟨p, 2, none⟩ = some p2 ∧ w.cell? ⟨p, 3, none⟩ = some p3) ∧ C9 w b v0 v1 v2 v3 v4 v5 v6 v7 v8
theorem C49.on {w w' : World} {p b : Nat} {p0 p1 p2 p3 v0 v1 v2 v3 v4 v5 v6 v7 v8 : Value} (h : C49 w p b p0 p1 p2 p3 v0 v1 v2 v3 v4 v5 v6 v7 v8) (f : Fr nob w w') : C49 w' p b p0 p1 p2 p3 v0 v1 v2 v3 v4 v5 v6 v7 v8 :=
  ⟨⟨f.cell h.1.1 (fun x => x), f.cell h.1.2.1 (fun x => x), f.cell h.1.2.2.1 (fun x => x), f.cell h.1.2.2.2 (fun x => x)⟩, C9.on h.2 f⟩
def ShInv (L : List Ins) (B : Nat) (w0 : World) (i : Value) (wr : World) : Prop := ∃ k : Nat, i = .int .i64 k ∧ k ≤ L.length ∧ wr.ownsMap Try.prog 3 (plainElem (H := Unit) Try.prog 3) B k (ents (cnt (L.take k))) ∧ Fr nob w0 wr

set_option maxRecDepth 100000 in
set_option maxHeartbeats 4000000 in
theorem lawShaped (t : T) (ct : List Value) (w : World) (hb : t.bulk ≤ 1048576) (ht : RT nob w t ct) :
    Calls Try.prog 3 #[.agg ct.toArray] w fun e w' => e = .returned (.bool true) ∧ Fr nob w w' := by
  obtain ⟨kd, s, ps, mn, mx, nu, ua, uc, _, rfl, _⟩ := ht.open'
  have HT := Lib.hid ht; clear ht
  obtain ⟨w0, hw0⟩ : ∃ w0, w0 = w.alloc (.cells #[.int .i64 kd, .int .u64 s.a, .int .u64 s.b, .int .u64 s.c, .int .u64 s.d, .slice ua ps.length uc, .int .i64 mn, .int .i64 mx, .int .i64 nu] 27) := ⟨_, rfl⟩
  have f0 : Fr nob w w0 := by rw [hw0]; exact (Fr.refl _ _).alloc _
  have hb0 : w0.heap[w.heap.size]? = some (.cells #[.int .i64 kd, .int .u64 s.a, .int .u64 s.b, .int .u64 s.c, .int .u64 s.d, .slice ua ps.length uc, .int .i64 mn, .int .i64 mx, .int .i64 nu] 27 (0, 0)) := by rw [hw0]; exact newAtB _ _
  have F0 := Lib.hid f0; have HB0 := Lib.hid hb0; have HW0 := Lib.hid hw0
  clear f0 hb0 hw0
  go_enter Try.func3, Try.ntmps3
  go_wp2_with (rw [← HW0.out])
  try rw [← HW0.out]
  refine (awake07_any _).mono ?_
  rintro e w1 ⟨rfl, f1⟩
  have F1 := Lib.hid (F0.out.trans' f1); have HB1 := Lib.hid (f1.heap HB0.out (fun x => x))
  obtain ⟨x0, x1, x2, x3, x4, x5, x6, x7, x8⟩ := C9.of HB1.out
  clear f1
  go_wp2_with fail
  refine (few_any t 100 _ _ (by omega) (HT.out.on F1.out)).mono ?_
  rintro e w2 ⟨rfl, f2⟩
  have F2 := Lib.hid (F1.out.trans' f2); have HB2 := Lib.hid (f2.heap HB1.out (fun x => x)); clear f2 x0 x1 x2 x3 x4 x5 x6 x7 x8
  cases hfa : t.few 100 with
  | false =>
    clear hfa
    go_wp2_with fail
    refine (awake07_any _).mono ?_
    rintro e w3 ⟨rfl, f3⟩
    go_wp2
    go_ret
    exact ⟨rfl, F2.out.trans' f3⟩
  | true =>
    have HK := Lib.hid (T.few_known hfa)
    have hbk := T.few_bulk hfa
    have hnz := T.nd_size t
    have hz2 : t.nd.size ≤ 200 := by omega
    have hz : t.nd.size ≤ 3000000 := by omega
    clear hfa hbk hnz
    obtain ⟨x0, x1, x2, x3, x4, x5, x6, x7, x8⟩ := C9.of HB2.out
    go_wp2_with fail
    refine (real_any _ t _ _ (Nat.le_refl _) hz (HT.out.on F2.out)).mono ?_
    rintro e w3 ⟨v, rfl, r3, f3⟩
    have hsh := r3.shape
    have HN := Lib.hid r3.any; have F3 := Lib.hid (F2.out.trans' f3); have HB3 := Lib.hid (f3.heap HB2.out (fun x => x)); clear r3 f3 x0 x1 x2 x3 x4 x5 x6 x7 x8
    go_wp2_with fail
    refine (compile_any t.nd v w3 hz HN.out).mono ?_
    rintro e w4 ⟨f4, h⟩
    have F4 := Lib.hid (F3.out.trans' f4); have HB4 := Lib.hid (f4.heap HB3.out (fun x => x)); clear f4
    rcases h with ⟨h, rfl⟩ | ⟨_, h, rfl⟩ | ⟨hr, h, sl, rfl, hp⟩
    · clear h
      go_wp2
      go_ret
      exact ⟨rfl, F4.out.alloc _⟩
    · clear h
      go_wp2
      go_ret
      exact ⟨rfl, F4.out.alloc _⟩
    · obtain ⟨l1, l2, l3, l4, l5⟩ := comp_shape hr h
      obtain ⟨g, cp, rfl, _, hgs, hcell⟩ := prog_get hp (by omega)
      obtain ⟨C, hC⟩ : ∃ C, t.nd.comp = C := ⟨_, rfl⟩
      have hz3 := groupsn_le t.nd
      rw [hC] at l1 l2 l3 l4 l5 hcell ⊢
      obtain ⟨G, hG⟩ : ∃ G, t.nd.groups = G := ⟨_, rfl⟩
      rw [hG] at l4 l5 hz3
      obtain ⟨L, hL⟩ : ∃ L, C.ins = L := ⟨_, rfl⟩
      rw [hL] at l1 l2 l3 l5 hcell ⊢
      obtain ⟨GR, hGR⟩ : ∃ GR, C.groups = GR := ⟨_, rfl⟩
      obtain ⟨LP, hLP⟩ : ∃ LP, C.loops = LP := ⟨_, rfl⟩
      obtain ⟨BK, hBK⟩ : ∃ BK, C.backs = BK := ⟨_, rfl⟩
      rw [show progV (.slice (some ⟨g, 0, none⟩) L.length cp) C = .agg #[.slice (some ⟨g, 0, none⟩) L.length cp, .int .i64 GR, .int .i64 LP, .bool BK] by rw [← hGR, ← hLP, ← hBK]]
      rw [hGR] at l4
      rw [hLP] at l3
      rw [hBK] at l5
      subst l4
      subst l3
      have HGG := Lib.hid hG
      have HL5 := Lib.hid l5; have HCELL := Lib.hid hcell
      obtain ⟨w5, hw5⟩ : ∃ w5, w5 = w4.alloc (.cells #[.slice (some ⟨g, 0, none⟩) L.length cp, .int .i64 (G : Nat), .int .i64 (cnt L : Nat), .bool BK] 32) := ⟨_, rfl⟩
      have hp5 : w5.heap[w4.heap.size]? = some (.cells #[.slice (some ⟨g, 0, none⟩) L.length cp, .int .i64 (G : Nat), .int .i64 (cnt L : Nat), .bool BK] 32 (0, 0)) := by rw [hw5]; exact newAtB _ _
      have f5 : Fr nob w4 w5 := by rw [hw5]; exact (Fr.refl _ _).alloc _
      have rp := rulep hp5
      have F5 := Lib.hid (F4.out.trans' f5); have HB5 := Lib.hid (f5.heap HB4.out (fun x => x)); have HP5 := Lib.hid hp5; have FF5 := Lib.hid f5; have HW5 := Lib.hid hw5
      have hln : (L.length : Int) ≤ 3000 := by omega
      have hln1 : (1 : Int) ≤ L.length := by omega
      have q1 : IntKind.i64.wrap ((L.length : Int) - 1) = (L.length : Int) - 1 := IntWalk.i64_in _ (by omega)
      have hGb : (G : Int) ≤ 3000000 := by omega
      have q2 : IntKind.i64.wrap (2 * (G : Int)) = 2 * (G : Int) := IntWalk.i64_in _ (by omega)
      have q3 : IntKind.i64.wrap (2 * (G : Int) + 1) = 2 * (G : Int) + 1 := IntWalk.i64_in _ (by omega)
      have hmm := @run_makeMap Try.prog
      clear hp hr h l5 hcell hC hG hL hGR hLP hBK f5 hp5 hw5 hgs
      go_wp2_with (rw [← HW5.out])
      obtain ⟨B, hB⟩ : ∃ B, w5.heap.size = B := ⟨_, rfl⟩
      have HI0 := Lib.hid (show ShInv L B w5 (.int .i64 0) (w5.alloc (.map #[] 0)) from ⟨0, rfl, Nat.zero_le _, by rw [← hB]; exact World.ownsMap_made _ _ _ _, (Fr.refl _ _).alloc _⟩)
      have HBS := Lib.hid hB
      rw [hB]
      clear hB
      go_loopw [33] (fun i wr => ShInv L B w5 i wr) (fun i _ => L.length - (intOf i).toNat)
      case atStart => exact HI0.out
      case round =>
        clear HI0
        obtain ⟨k, rfl, hk, hm, hfr⟩ := hrel
        have HM := Lib.hid hm; have HFR := Lib.hid hfr
        have hk30 : (k : Int) ≤ 3000 := by omega
        have rpr := rulep (hfr.heap HP5.out (fun x => x))
        clear hm
        by_cases hlt : k < L.length
        · have hcs := cnt_take_succ hlt
          have hok := HL5.out k L[k] (List.getElem?_eq_getElem hlt)
          have hc7 := HCELL.out wr (FF5.out.trans' hfr) k L[k] (List.getElem?_eq_getElem hlt)
          obtain ⟨⟨op, st, xx, yy⟩, hx⟩ : ∃ x, L[k] = x := ⟨_, rfl⟩
          rw [hx] at hcs hok hc7
          unfold InsAt at hc7
          obtain ⟨c0, c1, c2, c3, c4, c5, c6⟩ := hc7
          simp only at hcs c0 c1 c2 c3 c4 c5 c6
          have HCS := Lib.hid hcs
          have hcl : cnt (L.take k) ≤ k := by have := cnt_le (L.take k); have := List.length_take_le k L; omega
          have hbox : ∀ o, (wr.alloc o).heap[wr.heap.size]? = some o := fun o => newAtB wr o
          clear hx hcs hfr
          unfold OkAt Good at hok
          simp only at hok
          rcases hok with ⟨hl, rfl⟩ | ⟨hl, hg⟩
          · have t1 : ((k : Int) == (L.length : Int) - 1) = true := by rw [beq_iff_eq]; omega
            clear hl
            go_wp2
            go_roundw
            case rel => exact ⟨k + 1, by go_num, by omega, by rw [HCS.out]; exact (HM.out.alloc _).mono (by omega), HFR.out.alloc _⟩
            case measure => simp [intOf]; omega
          · have t1 : ((k : Int) == (L.length : Int) - 1) = false := by rw [beq_eq_false_iff_ne]; omega
            rcases hg with (rfl | rfl | rfl) | ⟨rfl, g1, g2, g3⟩ | ⟨rfl, g1, g2, g3⟩ | ⟨rfl, g1, g2⟩ | ⟨rfl, g1, g2, g3⟩ | ⟨rfl, g1⟩ | ⟨rfl, g1, g2⟩
            · clear hl
              go_wp2
              go_roundw
              case rel => exact ⟨k + 1, by go_num, by omega, by rw [HCS.out]; exact (HM.out.alloc _).mono (by omega), HFR.out.alloc _⟩
              case measure => simp [intOf]; omega
            · clear hl
              go_wp2
              go_roundw
              case rel => exact ⟨k + 1, by go_num, by omega, by rw [HCS.out]; exact (HM.out.alloc _).mono (by omega), HFR.out.alloc _⟩
              case measure => simp [intOf]; omega
            · clear hl
              go_wp2
              go_roundw
              case rel => exact ⟨k + 1, by go_num, by omega, by rw [HCS.out]; exact (HM.out.alloc _).mono (by omega), HFR.out.alloc _⟩
              case measure => simp [intOf]; omega
            · subst g1
              have u1 : ((k : Int) + 1 != (k : Int) + 1) = false := by simp
              have u2 : ¬ yy ≤ (k : Int) := by omega
              have u3 : ¬ (L.length : Int) ≤ yy := by omega
              have u4 : IntKind.i64.wrap ((k : Int) + 1) = (k : Int) + 1 := IntWalk.i64_in _ (by omega)
              clear hl g2 g3
              go_wp2
              go_roundw
              case rel => exact ⟨k + 1, by go_num, by omega, by rw [HCS.out]; exact (HM.out.alloc _).mono (by omega), HFR.out.alloc _⟩
              case measure => simp [intOf]; omega
            · have u1 : ¬ xx < 0 := by omega
              have u2 : ¬ (L.length : Int) ≤ xx := by omega
              have u3 : (xx == (k : Int)) = false := by rw [beq_eq_false_iff_ne]; exact g3
              clear hl g1 g2 g3
              go_wp2
              go_roundw
              case rel => exact ⟨k + 1, by go_num, by omega, by rw [HCS.out]; exact (HM.out.alloc _).mono (by omega), HFR.out.alloc _⟩
              case measure => simp [intOf]; omega
            · have u1 : ¬ xx < 0 := by omega
              have u2 : ¬ 2 * (G : Int) + 1 < xx := by omega
              clear hl g1 g2
              go_wp2
              go_roundw
              case rel => exact ⟨k + 1, by go_num, by omega, by rw [HCS.out]; exact (HM.out.alloc _).mono (by omega), HFR.out.alloc _⟩
              case measure => simp [intOf]; omega
            · have u1 : ¬ xx < 1 := by omega
              have u2 : ¬ (G : Int) < xx := by omega
              subst g3
              clear hl g1 g2
              go_wp2
              go_roundw
              case rel => exact ⟨k + 1, by go_num, by omega, by rw [HCS.out]; exact (HM.out.alloc _).mono (by omega), HFR.out.alloc _⟩
              case measure => simp [intOf]; omega
            · subst g1
              obtain ⟨c, hc⟩ : ∃ c, cnt (L.take k) = c := ⟨_, rfl⟩
              rw [hc] at hcl HM HCS c5
              have HC := Lib.hid hc
              clear hc hl
              have hkey := keyI (k := (c : Int)) (wf_small (by omega))
              have HBR := Lib.hid HM.out.lt
              have q5 : IntKind.i64.wrap (c : Int) = c := IntWalk.i64_in _ (by omega)
              have q6 : IntKind.i64.wrap ((c : Int) + 1 - 1) = c := by rw [Int.add_sub_cancel]; exact q5
              have q7 : ((c : Int) != (c : Int)) = false := by simp
              go_wp2_with (first | (at_lookup; refine wpList_lookup_own_int _ rfl _ _ 39 rfl 3 3 .i64 lawI Try.underlying39 Try.underlying3 (zeroI _) B k _ rfl (HM.out.alloc _) _ _ rfl hkey ?_; intro z hat hwz; obtain rfl : z = 0 := (by rw [ents_at, if_neg (by omega)] at hat; injection hat with hat; injection hat with _ hat; exact hat.symm); clear hat hwz) | (at_mapUpdate; refine wpList_mapUpdate_own _ rfl _ _ _ 39 rfl 3 3 lawI Try.underlying39 _ B k _ rfl (HM.out.alloc _) (by unfold maxLen; omega) _ _ _ rfl rfl hkey _ [] (plainElem_int Try.underlying3 (wf_small (k := 1) (by omega))) ?_; intro w6 hown6 hgrow6; have fr6 := (Fr.refl (fun k => k = B) _).grown hgrow6 (fun k hk _ => by injection hk with hk; exact hk.symm); have bx := cell_at (j := 5) (v := .int .i64 (c : Int)) (fr6.heap (newAtB wr _) (fun e => by have := HBR.out; omega)) rfl; have HO6 := Lib.hid hown6; have FR6 := Lib.hid fr6; clear hown6 hgrow6 fr6) | (at_len; refine wpList_len_own _ rfl _ 39 rfl 3 3 Try.underlying39 _ B (k + 1) _ rfl HO6.out ?_; rw [show Maps.size ((ents c).put (.int .i64 (c : Int)) (.lit (.int .i64 1))) = c + 1 from ents_size (c + 1)]))
              go_roundw
              case rel => exact ⟨k + 1, by go_num, by omega, by rw [HCS.out]; exact HO6.out, (HFR.out.alloc _).trans FR6.out (fun i hi e => by have := HBS.out; omega)⟩
              case measure => simp [intOf]; omega
            · obtain ⟨c, hc⟩ : ∃ c, cnt (L.take k) = c := ⟨_, rfl⟩
              rw [hc] at hcl HM HCS g2
              have HC := Lib.hid hc
              clear hc hl
              have hkey := keyI (k := xx) (wf_small (by omega))
              have q7 : ((1 : Int) != 1) = false := by simp
              go_wp2_with (at_lookup; refine wpList_lookup_own_int _ rfl _ _ 39 rfl 3 3 .i64 lawI Try.underlying39 Try.underlying3 (zeroI _) B k _ rfl (HM.out.alloc _) _ _ rfl hkey ?_; intro z hat hwz; obtain rfl : z = 1 := (by rw [ents_at, if_pos (by omega)] at hat; injection hat with hat; injection hat with _ hat; exact hat.symm); clear hat hwz)
              go_roundw
              case rel => exact ⟨k + 1, by go_num, by omega, by rw [HCS.out]; exact (HM.out.alloc _).mono (by omega), HFR.out.alloc _⟩
              case measure => simp [intOf]; omega
        · obtain rfl : k = L.length := by omega
          have hT := List.take_of_length_le (l := L) (Nat.le_refl L.length)
          rw [hT] at HM
          clear hT
          have hlen := fun ty w' (f : Fr nob wr w') => (show (Builtin.len_ #[39] ty #[.map (some B)]).run Try.prog w' = .ok (.int .i64 (cnt L : Nat)) w' by
            have h : w'.ownsMap Try.prog 3 (plainElem (H := Unit) Try.prog 3) B L.length (ents (cnt L)) := by
              obtain ⟨es, clock, hb, F, hs, hD⟩ := HM.out
              exact ⟨es, clock, f.heap hb (fun x => x), F, hs, hD⟩
            have := h.len Try.underlying39 ty
            rw [ents_size] at this
            exact this)
          have HX := Lib.hid (hfr.heap HB5.out (fun x => x))
          have HC := Lib.hid (show C49 (World.drew wr) w4.heap.size w.heap.size (.slice (some ⟨g, 0, none⟩) L.length cp) (.int .i64 (G : Nat)) (.int .i64 (cnt L : Nat)) (.bool BK) (.int .i64 kd) (.int .u64 s.a) (.int .u64 s.b) (.int .u64 s.c) (.int .u64 s.d) (.slice ua ps.length uc) (.int .i64 mn) (.int .i64 mx) (.int .i64 nu) from ⟨rpr _ ((Fr.refl nob wr).drew), C9.of HX.out⟩)
          have HS := Lib.hid (fun w' (f : Fr nob (World.drew wr) w') => (show C49 w' w4.heap.size w.heap.size (.slice (some ⟨g, 0, none⟩) L.length cp) (.int .i64 (G : Nat)) (.int .i64 (cnt L : Nat)) (.bool BK) (.int .i64 kd) (.int .u64 s.a) (.int .u64 s.b) (.int .u64 s.c) (.int .u64 s.d) (.slice ua ps.length uc) (.int .i64 mn) (.int .i64 mx) (.int .i64 nu) ∧ ∀ ty, (Builtin.len_ #[39] ty #[.map (some B)]).run Try.prog w' = .ok (.int .i64 (cnt L : Nat)) w' from ⟨C49.on HC.out f, fun ty => hlen ty w' (((Fr.refl nob wr).drew).trans' f)⟩))
          have FD := Lib.hid ((F5.out.trans' HFR.out).drew)
          have t1 : ((cnt L : Int) == (cnt L : Int)) = true := by simp
          have t2 : ((G : Int) == (G : Int)) = true := by simp
          clear hfr hlen
          go_wp2_with fail
          go_region_held3 (fun w' => C49 w' w4.heap.size w.heap.size (.slice (some ⟨g, 0, none⟩) L.length cp) (.int .i64 (G : Nat)) (.int .i64 (cnt L : Nat)) (.bool BK) (.int .i64 kd) (.int .u64 s.a) (.int .u64 s.b) (.int .u64 s.c) (.int .u64 s.d) (.slice ua ps.length uc) (.int .i64 mn) (.int .i64 mx) (.int .i64 nu) ∧ ∀ ty, (Builtin.len_ #[39] ty #[.map (some B)]).run Try.prog w' = .ok (.int .i64 (cnt L : Nat)) w') (first | (with_reducible exact HS.out _ (Fr.refl _ _)) | (with_reducible exact HS.out _ G1.out) | (with_reducible exact HS.out _ G2.out)) (first | (go_at_call 9; (with_reducible refine (real_any _ t _ _ (Nat.le_refl _) hz (HT.out.on FD.out)).mono ?_); rintro e g1 ⟨v1, rfl, r1, f1⟩; have HN1 := Lib.hid r1.any; have G1 := Lib.hid f1; clear r1 f1) | (go_at_call 10; (with_reducible refine (groups_any _ t.nd _ _ (Nat.le_refl _) hz HN1.out).mono ?_); rintro e g2 ⟨he, f2⟩; rw [HGG.out] at he; subst he; have G2 := Lib.hid (G1.out.trans' f2); clear f2))
          all_goals
            go_wp2
            go_ret
            exact ⟨rfl, FD.out.trans' G2.out⟩

namespace codeShaped
open Go.ChangeShapes Go.WideShapes Go.ChangeAt Go.RowKit

theorem own : ownKnob Try.prog.godebug = none := by kernel_rfl
theorem laidOut : laidOutB Try.prog = true := by kernel_rfl

theorem readable : ∀ t ∈ Try.f3.params.toList, Try.prog.readableRec t = true ∧ t < Try.prog.types.size := by
  rw [Try.params3]
  intro t ht
  simp only [List.mem_cons, List.not_mem_nil, or_false] at ht
  rcases ht with rfl
  all_goals exact ⟨by kernel_rfl, of_decide_eq_true (by kernel_rfl)⟩

theorem contract (H : Type) (enc : TypeId × Value → H) (W : World) (base : Nat) (args : Array Value) (ds gs : List (DataW H)) (before : List MemPlace)
    (hval : ∀ (j : Nat) t v, Try.f3.params[j]? = some t → args[j]? = some v → Value.okWide Try.prog W .any base t v)
    (hW : DataW.Whole enc Try.prog Try.f3.params.toList Rows.codeShapedSpec.vars false W args.toList ds gs before) (hk : Rows.uptoSmall H (ds ++ gs) = true) :
    Calls Try.prog 3 args W fun e W' => ∃ v, e = .returned v ∧ Rows.codeShapedSpec.post enc Try.prog Try.f3 false true false false W args v W' := by
  have hW' := hW
  obtain ⟨p, q, hA0, hV, rfl, hfz, hnd⟩ := hW
  have hA : DataW.TrodAll enc Try.prog W 0 (fun _ => true) true Try.f3.params.toList args.toList ds p := hA0
  rw [Try.params3] at hA hval
  obtain ⟨v0, vs0, d0, ds0, p0, q0, hargs, rfl, rfl, h0, r0⟩ := trodAll_cons hA
  obtain ⟨rfl, rfl, rfl⟩ := trodAll_nil r0
  obtain rfl : args = #[v0] := by cases args; simp_all
  obtain ⟨rfl, rfl⟩ := trodVars_none hV
  have hb := of_decide_eq_true hk
  simp only [List.append_nil, Rows.uptoBulkAll, Nat.add_zero] at hb
  obtain ⟨t0, c0, rfl, e0, w0, b0⟩ := open_T (hval 0 27 v0 rfl rfl) h0
  refine (lawShaped t0 c0 W (by omega) e0).mono fun e W' ⟨he, hg⟩ => ?_
  subst he
  exact ⟨_, rfl, law_post rfl (by kernel_rfl) Try.underlying4 laidOut readable rfl hW' hg.below⟩

set_option maxRecDepth 100000 in
theorem lifted (os : Os) (started : os.Started) (H : Type) (enc : TypeId × Value → H) (F : Stop.Interp) :
    ReturnsInHanded {} Try.checked os 3 .any ((Rows.OpenSpec.upto Rows.codeShapedSpec).pre6 enc Try.prog Try.f3 Rows.codeShapedUptoRow.domain false) (((Rows.OpenSpec.upto Rows.codeShapedSpec).at F).post enc Try.prog Try.f3 false true false false) := by
  refine returnsInHanded_of_cond (C := Try.checked) (s := Rows.OpenSpec.upto Rows.codeShapedSpec) (k := Rows.uptoSmall) rfl own started (by kernel_rfl) Try.func3
    (OpenSpec.witness (enc := enc) (C := Try.checked) (s := Rows.OpenSpec.upto Rows.codeShapedSpec) (k := Rows.uptoSmall) rfl false ⟨#[], #[.agg #[.int .i64 0, .int .u64 0, .int .u64 0, .int .u64 0, .int .u64 0, .slice none 0 0, .int .i64 0, .int .i64 0, .int .i64 0]], []⟩ 8 (by kernel_rfl) (by kernel_rfl) (by kernel_rfl)
      (x := ([.agg [.lit (.int .i64 0), .agg [.lit (.int .u64 0), .lit (.int .u64 0), .lit (.int .u64 0), .lit (.int .u64 0)], .nil, .lit (.int .i64 0), .lit (.int .i64 0), .lit (.int .i64 0)]], [], [])) (by kernel_rfl) rfl (by kernel_rfl)) ?_
  intro W base args ds gs before hval hW _ hk _
  exact contract H enc W base args ds gs before hval hW hk

theorem over : Rows.codeShapedUptoRow.holds Try.pinned (Rows.OpenSpec.upto Rows.codeShapedSpec) :=
  OpenClaim.holds_of_cond 3 Try.f3 rfl rfl rfl rfl rfl rfl rfl ⟨rfl, rfl, rfl, rfl, rfl⟩ rfl rfl rfl rfl rfl (by kernel_rfl) Try.func3 (by kernel_rfl)
    (of_decide_eq_true (by kernel_rfl)) (by unfold Func.isWrapper; first | (rw [if_pos (by decide +kernel)]; kernel_rfl) | (rw [if_neg (by decide +kernel)]; exact ⟨rfl, rfl⟩))
    (fun os started H enc _ F => lifted os started H enc F)

/-- THE STATEMENT. -/
theorem proved : Rows.CodeShapedUptoSaid := over
#print axioms proved
end codeShaped

end Go.Proofs.Ytcmjgaadffffaaa
