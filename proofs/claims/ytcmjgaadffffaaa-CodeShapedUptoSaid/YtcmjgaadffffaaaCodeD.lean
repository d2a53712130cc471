/-
  Walks of package code: alt.
-/
import Derived.Test.YtcmjgaadffffaaaCodeC
namespace Go.Proofs.Ytcmjgaadffffaaa
open Go.RowKit

theorem info_intC : (Try.prog.info? 3).map (fun i => (i.zero, i.size, i.bytes)) = some (some (.int .i64 0), 1, 8) := by kernel_rfl

/-- The first loop of alt, at a branch. -/
def AltInv (l : List Nd) (F : Bd × List Int) (b : Nat) (g : Option Nat) (w0 : World) (jv i : Value) (wr : World) : Prop :=
  ∃ (k : Nat) (sk : Bd) (js : List Int) (gk : Option Nat), i = .int .i64 k ∧ k < l.length ∧ Nd.layAlt (l.drop k) sk js = F ∧ sk.ok ∧ (∀ j ∈ js, 0 ≤ j ∧ j < sk.ins.length) ∧ js.length = k ∧ OwnI wr js jv ∧ Off b gk w0.heap.size jv wr ∧
    BAt b sk gk wr ∧ Fr (LS b g) w0 wr ∧ (∀ j, gk = some j → g = some j ∨ w0.heap.size ≤ j)
/-- The second. -/
def JmpInv (js : List Int) (F : Bd) (b : Nat) (g : Option Nat) (w0 : World) (jv i : Value) (wr : World) : Prop :=
  ∃ (k : Nat) (sk : Bd) (gk : Option Nat), i = .int .i64 k ∧ k ≤ js.length ∧ Bd.setXs (js.drop k) sk = F ∧ sk.ok ∧ (∀ j ∈ js, 0 ≤ j ∧ j < sk.ins.length) ∧ OwnI wr js jv ∧ Off b gk w0.heap.size jv wr ∧
    BAt b sk gk wr ∧ Fr (LS b g) w0 wr ∧ (∀ j, gk = some j → g = some j ∨ w0.heap.size ≤ j)

set_option maxRecDepth 100000 in
set_option maxHeartbeats 2000000 in
theorem alt_any' (l : List Nd) (hN : ∀ n ∈ l, NodeOk n) (h0 : 0 < l.length) (hll : l.length ≤ 3000000) (u : Value) (w : World) (b : Nat) (s : Bd) (g : Option Nat) (hs : s.ok) (h : BAt b s g w) (hu : SN (LS b g) w l u) :
    Calls Try.prog 24 #[.pointer (some ⟨b, 0, none⟩), .agg #[u]] w fun e w' => e = .returned (.tuple #[]) ∧ Laid b (Bd.setXs (Nd.layAlt l s []).2 (Nd.layAlt l s []).1) g w w' := by
  obtain ⟨gu, off, cap, rfl⟩ : ∃ gu off cap, u = .slice (some ⟨gu, off, none⟩) l.length cap := by
    rcases hu with ⟨_, rfl⟩ | ⟨gu, off, cap, rfl, _⟩
    · simp at h0
    · exact ⟨_, _, _, rfl⟩
  have hcap : l.length ≤ cap := by
    rcases hu with ⟨_, rfl⟩ | ⟨_, _, _, he, hc, _⟩
    · simp at h0
    · injection he with e1 e2 e3; omega
  obtain ⟨F, hF⟩ : ∃ F, Nd.layAlt l s [] = F := ⟨_, rfl⟩
  rw [hF]
  obtain ⟨R, hR⟩ : ∃ R, Bd.setXs F.2 F.1 = R := ⟨_, rfl⟩
  rw [hR]
  have HR := Lib.hid hR; clear hR
  have hw1 : IntKind.i64.wrap ((l.length : Int) - 1) = (l.length : Int) - 1 := IntWalk.i64_in _ (by omega)
  have q1 : (0 : Int) ≤ (l.length : Int) - 1 := by omega
  have q2 : ((l.length : Int) - 1).toNat = l.length - 1 := by omega
  have q3 : (l.length : Int) - 1 ≤ cap := by omega
  have q4 : ((l.length - 1 : Nat) : Int) = (l.length : Int) - 1 := by omega
  have q5 : (1 : Int) ≤ l.length := by omega
  obtain ⟨w1, hw1'⟩ : ∃ w1, w1 = w.alloc (.cells #[.slice (some ⟨gu, off, none⟩) l.length cap] 65) := ⟨_, rfl⟩
  have f1 : Fr nob w w1 := by rw [hw1']; exact (Fr.refl _ _).alloc _
  have hx1 : w1.heap[w.heap.size]? = some (.cells #[.slice (some ⟨gu, off, none⟩) l.length cap] 65 (0, 0)) := by rw [hw1']; exact newAtB _ _
  have hA0 := Lib.hid (show AltInv l F b g w1 (.slice none 0 0) (.int .i64 0) w1 from
    ⟨0, s, [], g, rfl, h0, hF, hs, (fun _ h => by cases h), rfl, World.ownsRow_nil _ _ _ _, Off.nil, h.on f1, Fr.refl _ _, fun _ h => .inl h⟩)
  have cx := cell_at (j := 0) (v := .slice (some ⟨gu, off, none⟩) l.length cap) hx1 rfl
  have HU := Lib.hid (hu.on f1)
  have HLS := Lib.hid h.ls
  have HX := Lib.hid hx1; have F1 := Lib.hid f1; have HW1 := Lib.hid hw1'
  have hlt0 := lt_heap hx1
  clear hw1' hx1 f1 hF h hu
  go_enter Try.func24, Try.ntmps24
  go_wp2_with (rw [← HW1.out])
  obtain ⟨i0, hi, hz0, hz1, hz2⟩ := info_parts info_intC
  have HN := Lib.hid hN; clear hN
  go_loopw [4, 20] (fun jv i wr => AltInv l F b g w1 jv i wr) (fun _ i _ => l.length - (intOf i).toNat)
  case atStart => exact hA0.out
  case round =>
    obtain ⟨k, sk, js, gk, rfl, hk, hF, hsk, hjs, hjl, hj, ho, hB, hf, hg⟩ := hrel
    have hS := HU.out.keep hf (S' := LS b gk) (fun _ _ x => x) (LS.late hg)
    have HF := Lib.hid hF; have HSK := Lib.hid hsk; have HJS := Lib.hid hjs; have HJL := Lib.hid hjl; have HJ := Lib.hid hj; have HO := Lib.hid ho; have HB := Lib.hid hB; have HS := Lib.hid hS; have HFR := Lib.hid hf; have HG := Lib.hid hg
    obtain ⟨q, off', cap', x, he, hx, hc⟩ := hS.get hk
    injection he with e1 e2 e3
    injection e1 with e1
    injection e1 with e4 e5
    subst e4; subst e5; subst e3
    have HX1 := Lib.hid hx
    have hxsh := hx.shape
    clear hF hjs hjl hj ho hB hS hf hg e2 hx hA0
    by_cases hlt : k + 1 < l.length
    · have hltI : (k : Int) < (l.length : Int) - 1 := by omega
      have hdr : l.drop k = l[k] :: l[k + 1] :: l.drop (k + 2) := by rw [List.drop_eq_getElem_cons hk, List.drop_eq_getElem_cons hlt]
      have hdr1 : l.drop (k + 1) = l[k + 1] :: l.drop (k + 2) := List.drop_eq_getElem_cons hlt
      have hF2 := HF.out
      rw [hdr, Nd.layAlt, ← hdr1] at hF2
      have HF2 := Lib.hid hF2
      have HNk := Lib.hid (HN.out l[k] (List.getElem_mem hk))
      clear hdr hdr1 hF2 HF
      obtain ⟨y, hy⟩ : ∃ y, l[k] = y := ⟨_, rfl⟩
      rw [hy] at HF2 HNk HX1
      clear hy
      have ok1 := Lib.hid ((up_split hsk).ok hsk)
      have A0 := at_lt hsk (mkI 1 (sk.ins.length + 1) 0)
      have HA := Lib.hid A0; clear A0
      go_wp2_with fail
      refine (split_any b sk gk _ hsk.hi HB.out).mono ?_
      rintro e w2 ⟨rfl, g2, B2, f2, h2⟩
      have X2 := Lib.hid (RN.keep f2 (S := LS b gk) (S' := LS b g2) (fun _ _ x => x) (LS.late h2) y x HX1.out)
      have HB2 := Lib.hid B2; have F2 := Lib.hid f2; have H2 := Lib.hid h2
      clear B2 f2 h2
      obtain ⟨A, hA⟩ : ∃ A, sk.at = A := ⟨_, rfl⟩
      rw [hA] at HF2 HA ⊢
      clear hA
      go_wp2_with fail
      refine (HNk.out x w2 b _ g2 ok1.out HB2.out X2.out).mono ?_
      rintro e w3 ⟨rfl, g3, B3, f3, h3⟩
      have HB3 := Lib.hid B3; have F3 := Lib.hid f3; have H3 := Lib.hid h3
      clear B3 f3 h3
      have up2 := Lib.hid (up_lay y _ ok1.out)
      have ok2 := Lib.hid (up2.out.ok ok1.out)
      obtain ⟨s2, hs2⟩ : ∃ s2, y.lay sk.split = s2 := ⟨_, rfl⟩
      have hsp : (sk.put (mkI 1 (sk.ins.length + 1) 0)) = sk.split := rfl
      rw [hs2] at HF2 up2 ok2
      have HB3' := Lib.hid (show BAt b s2 g3 w3 by rw [← hs2]; exact HB3.out)
      clear hs2 hsp HB3
      go_wp2_with fail
      refine (put_any b s2 g3 (mkI 2 0 0) w3 HB3'.out).mono ?_
      rintro e w4 ⟨rfl, g4, B4, f4, h4⟩
      have up3 := Lib.hid (up_put ok2.out (mkI 2 0 0))
      have ok3 := Lib.hid (up3.out.ok ok2.out)
      have HA2 := Lib.hid (at_lt ok2.out (mkI 2 0 0))
      obtain ⟨s3, hs3⟩ : ∃ s3, s2.put (mkI 2 0 0) = s3 := ⟨_, rfl⟩
      rw [hs3] at HF2 up3 ok3 B4 HA2
      clear hs3
      obtain ⟨J, hJ⟩ : ∃ J, s2.at = J := ⟨_, rfl⟩
      rw [hJ] at HF2 HA2 ⊢
      clear hJ
      have hl4 : ∀ j, g4 = some j → gk = some j ∨ wr.heap.size ≤ j := fun j hj => by
        rcases h4 j hj with h | h
        · rcases H3.out j h with h | h
          · exact H2.out j h
          · have := F2.out.size; exact .inr (by omega)
        · have := F2.out.size; have := F3.out.size; exact .inr (by omega)
      have f14 : Fr (LS b gk) wr w4 := (F2.out.trans F3.out (LS.late H2.out)).trans f4 (LS.late fun j hj => by
        rcases H3.out j hj with h | h
        · exact H2.out j h
        · have := F2.out.size; exact .inr (by omega))
      have j4 : OwnI w4 js u4 := HJ.out.keep f14 (fun j hj => (HO.out.nb j hj).1)
      have o4 : Off b g4 w1.heap.size u4 w4 := HO.out.on f14.size hl4
      have HB4 := Lib.hid B4; have F14 := Lib.hid f14; have HL4 := Lib.hid hl4; have HJ4 := Lib.hid j4; have HO4 := Lib.hid o4
      clear B4 f4 h4 f14 hl4 j4 o4
      go_wp2_with (at_builtin; refine wpList_append_g rfl _ _ 78 rfl 3 i0 (.int .i64 0) 1 8 Try.underlying78 hi hz0 hz1 hz2 rfl (by decide) _ _ _ rfl (World.ownsRow.alloc HJ4.out _) ⟨w4.heap.size, 0, none⟩ 1 1 [.int .i64 J] rfl rfl ?c1 ?c2 ?c3 ?c4 ?_)
      case c1 => intro j u hj; match j, hj with | 0, hj => simp at hj; subst hj; simp [Addr.add]
      case c2 => intro u hu; simp at hu; subst hu; rfl
      case c3 => have := HJL.out; unfold maxLen; omega
      case c4 => have := HJL.out; omega
      intro jv' w5 hown' hap
      have hsz4 : w1.heap.size ≤ w4.heap.size := by have := HFR.out.size; have := F14.out.size; omega
      obtain ⟨j5, o5, B5, fr5⟩ := Off.push HO4.out HB4.out hsz4 ((Fr.refl nob w4).alloc _) hap hown'
      have f5 := fr5 w1 (LS b g) hsz4 (Nat.le_refl _) (HFR.out.trans F14.out (LS.late HG.out))
      have hA1 : 0 ≤ A ∧ A < s3.ins.length := by have := HA.out; have := up2.out.le; have := up3.out.le; refine ⟨HA.out.1, ?_⟩; have h := HA.out.2; have e : (sk.put (mkI 1 (sk.ins.length + 1) 0)).ins.length ≤ s2.ins.length := up2.out.le; omega
      obtain ⟨gb, c, hP⟩ := patchY B5 A hA1.1 hA1.2
      have up4 := Lib.hid (up_setY ok3.out A)
      have hHd := hP.head
      have HP := Lib.hid hP; have HB5 := Lib.hid B5; have HJ5 := Lib.hid j5; have HO5 := Lib.hid o5; have F5 := Lib.hid f5
      have hA2 := hA1.1; have hA3 := hA1.2
      have hl3 : (s3.ins.length : Int) ≤ 3000 := by have := ok3.out.hi; omega
      clear hown' hap j5 o5 B5 fr5 f5 hP hA1
      go_wp2_with fail
      refine region_fr 8 (by kernel_rfl) (by kernel_rfl) ?_
      simp only [List.take_succ_cons, List.take_zero, List.drop_succ_cons, List.drop_zero]
      repeat (go_big_quiet_step ((with_reducible exact calls_same (next_any b s3 g4 _ (HB5.out.on (grown_fr _ _ _))))))
      refine wpQuiet_nil ?_
      intro wC fC
      obtain ⟨⟨xc, hc1⟩, hc2⟩ := HP.out.cell wC fC
      obtain ⟨g6, B6, f6, h6⟩ := HP.out.done wC fC
      have HB6 := Lib.hid B6; have F6 := Lib.hid f6; have H6 := Lib.hid h6
      clear B6 f6 h6
      go_wp2
      go_roundw
      case rel =>
        have hl4 : ∀ j, g4 = some j → g = some j ∨ w1.heap.size ≤ j := fun j hj => by
          rcases HL4.out j hj with h | h
          · exact HG.out j h
          · have := HFR.out.size; exact .inr (by omega)
        refine ⟨k + 1, _, js ++ [J], g6, by go_num, hlt, HF2.out, up4.out.ok ok3.out, fun j hj => ?_, by simp [HJL.out], HJ5.out.keep F6.out (fun j hj => (HO5.out.nb j hj).1), HO5.out.on F6.out.size H6.out, HB6.out, F5.out.trans F6.out (LS.late hl4), fun j hj => ?_⟩
        · have e4 := up4.out.le
          rcases List.mem_append.1 hj with hj | hj
          · have h1 := HJS.out j hj
            have h2 := HA.out; have h3 := up2.out.le; have h4 := up3.out.le; have h5 := (up_split hsk).le
            refine ⟨h1.1, ?_⟩
            omega
          · have e : j = J := by simpa using hj
            subst e
            have := HA2.out
            omega
        · rcases H6.out j hj with h | h
          · exact hl4 j h
          · have := F5.out.size; exact .inr (by omega)
      case measure => simp [intOf]; omega
    · have hltI : ¬ (k : Int) < (l.length : Int) - 1 := by omega
      have hke : l.length - 1 = k := by omega
      have hdr : l.drop k = [l[k]] := by rw [List.drop_eq_getElem_cons hk, List.drop_eq_nil_of_le (by omega)]
      have hF2 := HF.out
      rw [hdr, Nd.layAlt] at hF2
      have HNk := Lib.hid (HN.out l[k] (List.getElem_mem hk))
      have q6 : (l.length : Int) - 1 < l.length := by omega
      clear hdr HF
      obtain ⟨y, hy⟩ : ∃ y, l[k] = y := ⟨_, rfl⟩
      rw [hy] at hF2 HNk HX1
      clear hy
      have hR2 := HR.out
      rw [← hF2] at hR2
      simp only at hR2
      have cxr := cell_at (j := 0) (v := .slice (some ⟨gu, off, none⟩) l.length cap) (HFR.out.heap HX.out (fun e => Nat.lt_irrefl _ (HLS.out _ e))) rfl
      obtain ⟨aj, cj, rfl⟩ := ownsRow_slice HJ.out
      clear hF2
      go_wp2_with fail
      refine (HNk.out x wr b sk gk hsk HB.out HX1.out).mono ?_
      rintro e w2 ⟨rfl, g2, B2, f2, h2⟩
      have up1 := Lib.hid (up_lay y sk hsk)
      obtain ⟨s2, hs2⟩ : ∃ s2, y.lay sk = s2 := ⟨_, rfl⟩
      rw [hs2] at up1 B2 hR2
      have hI := Lib.hid (show JmpInv js R b g w1 (.slice aj js.length cj) (.int .i64 0) w2 from
        ⟨0, s2, g2, rfl, Nat.zero_le _, hR2, up1.out.ok hsk, (fun j hj => by have := HJS.out j hj; have := up1.out.le; omega), HJ.out.keep f2 (fun j hj => (HO.out.nb j hj).1), HO.out.on f2.size h2, B2, HFR.out.trans f2 (LS.late HG.out), fun j hj => by
          rcases h2 j hj with h | h
          · exact HG.out j h
          · have := HFR.out.size; exact .inr (by omega)⟩)
      clear hs2 hR2 B2 f2 h2
      have hjl : js.length ≤ 3000000 := by have := HJL.out; omega
      go_wp2_with fail
      go_loopw [55] (fun i wr => JmpInv js R b g w1 (.slice aj js.length cj) i wr) (fun i _ => js.length - (intOf i).toNat)
      case atStart => exact hI.out
      case round =>
        clear HFR HB HX1 HJ HO HG HJS HSK HJL hI
        obtain ⟨i, sk', gk', rfl, hi', hF', hsk', hjs', hj', ho', hB', hf', hg'⟩ := hrel
        have HF := Lib.hid hF'; have HJS := Lib.hid hjs'; have HJ := Lib.hid hj'; have HO := Lib.hid ho'; have HB := Lib.hid hB'; have HFR := Lib.hid hf'; have HG := Lib.hid hg'
        clear hF' hjs' hj' ho' hB' hf' hg'
        by_cases hlt' : i < js.length
        · obtain ⟨gj, cj', he, hc'⟩ := HJ.out.get hlt'
          injection he with e1 e2 e3
          subst e1; subst e3
          clear e2
          have hA1 := HJS.out js[i] (List.getElem_mem hlt')
          have hF3 := HF.out
          rw [List.drop_eq_getElem_cons hlt', Bd.setXs] at hF3
          obtain ⟨A, hA⟩ : ∃ A, js[i] = A := ⟨_, rfl⟩
          rw [hA] at hF3 hA1 hc'
          have HF3 := Lib.hid hF3
          obtain ⟨gb, c, hP⟩ := patchX HB.out A hA1.1 hA1.2
          have up4 := Lib.hid (up_setX hsk' A)
          have hHd := hP.head
          have HP := Lib.hid hP
          have hA2 := hA1.1; have hA3 := hA1.2
          have hl3 : (sk'.ins.length : Int) ≤ 3000 := by have := hsk'.hi; omega
          clear hA hF3 hP hA1 HF
          go_wp2_with fail
          refine region_fr 8 (by kernel_rfl) (by kernel_rfl) ?_
          simp only [List.take_succ_cons, List.take_zero, List.drop_succ_cons, List.drop_zero]
          repeat (go_big_quiet_step ((with_reducible exact calls_same (next_any b sk' gk' _ (HB.out.on (grown_fr _ _ _))))))
          refine wpQuiet_nil ?_
          intro wC fC
          obtain ⟨⟨xc, hc1⟩, hc2⟩ := HP.out.cell wC fC
          obtain ⟨g6, B6, f6, h6⟩ := HP.out.done wC fC
          have HB6 := Lib.hid B6; have F6 := Lib.hid f6; have H6 := Lib.hid h6
          clear B6 f6 h6
          go_wp2
          go_roundw
          case rel =>
            refine ⟨i + 1, _, g6, by go_num, by omega, HF3.out, up4.out.ok hsk', fun j hj => ?_, HJ.out.keep F6.out (fun j hj => (HO.out.nb j hj).1), HO.out.on F6.out.size H6.out, HB6.out, HFR.out.trans F6.out (LS.late HG.out), fun j hj => ?_⟩
            · have := HJS.out j hj; have := up4.out.le; omega
            · rcases H6.out j hj with h | h
              · exact HG.out j h
              · have := HFR.out.size; exact .inr (by omega)
          case measure => simp [intOf]; omega
        · obtain rfl : i = js.length := by omega
          have hF3 := HF.out
          rw [List.drop_length, Bd.setXs] at hF3
          subst hF3
          go_wp2
          go_end0
          exact ⟨rfl, Laid.pre F1.out ⟨gk', HB.out, HFR.out, HG.out⟩⟩

end Go.Proofs.Ytcmjgaadffffaaa
