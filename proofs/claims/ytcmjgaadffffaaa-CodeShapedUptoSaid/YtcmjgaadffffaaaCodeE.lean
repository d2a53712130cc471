/-
  Walks of package code: rep.
-/
import Derived.Test.YtcmjgaadffffaaaCodeD
namespace Go.Proofs.Ytcmjgaadffffaaa
open Go.RowKit

theorem BAt.flag {b : Nat} {s : Bd} {g : Option Nat} {w : World} (h : BAt b s g w) : ∀ w', Fr nob w w' → w'.cell? ⟨b, 4, none⟩ = some (.bool s.full) := fun w' f => by
  obtain ⟨v, hb, _⟩ := h; exact cell_at (f.heap hb (fun x => x)) rfl
theorem Laid.step {b : Nat} {s t : Bd} {g : Option Nat} {w w1 w2 : World} (h : Laid b s g w w1) (k : ∀ g1, BAt b s g1 w1 → Laid b t g1 w1 w2) : Laid b t g w w2 := by
  obtain ⟨g1, hB, f, hg⟩ := h
  exact Laid.trans f hg (k g1 hB)
/-- What the two loops of rep come to, one round on. -/
theorem repMin_go {f : Bd → Bd} {n : Nat} {s F : Bd} (h : repMin f (n + 1) s = F) (hne : (f s).ins.length ≠ s.ins.length) : repMin f n (f s) = F := by rw [repMin, if_neg hne] at h; exact h
theorem repMin_stop {f : Bd → Bd} {n : Nat} {s F : Bd} (h : repMin f (n + 1) s = F) (he : (f s).ins.length = s.ins.length) : f s = F := by rw [repMin, if_pos he] at h; exact h
theorem repOpt_js {f : Bd → Bd} (hf : UpF f) : ∀ (n : Nat) (s : Bd) (sp : List Int), s.ok → (∀ j ∈ sp, 0 ≤ j ∧ j < s.ins.length) → ∀ j ∈ (repOpt f n s sp).2, 0 ≤ j ∧ j < (repOpt f n s sp).1.ins.length
  | 0, s, sp, _, h => by rw [repOpt]; exact h
  | n + 1, s, sp, hs, h => by
    rw [repOpt]
    split
    · exact h
    · have h1 := up_split hs
      have h2 := h1.trans (up_round hf (h1.ok hs))
      refine repOpt_js hf n _ _ (h2.ok hs) fun j hj => ?_
      rcases List.mem_append.1 hj with hj | hj
      · have := h j hj; have := h2.le; omega
      · have e : j = s.at := by simpa using hj
        have := at_lt hs (mkI 1 (s.ins.length + 1) 0)
        have h3 := (up_round hf (h1.ok hs)).le
        have : (s.put (mkI 1 (s.ins.length + 1) 0)).ins.length ≤ (roundF f s.split).ins.length := h3
        subst e; omega

def MinInv (f : Bd → Bd) (n : Nat) (F : Bd) (b : Nat) (g : Option Nat) (w0 : World) (i : Value) (wr : World) : Prop :=
  ∃ (k : Nat) (sk : Bd) (gk : Option Nat), i = .int .i64 k ∧ k ≤ n ∧ repMin f (n - k) sk = F ∧ sk.ok ∧ BAt b sk gk wr ∧ Fr (LS b g) w0 wr ∧ (∀ j, gk = some j → g = some j ∨ w0.heap.size ≤ j)
def OptInv (f : Bd → Bd) (n : Nat) (mn : Int) (F : Bd × List Int) (b : Nat) (g : Option Nat) (w0 : World) (jv i : Value) (wr : World) : Prop :=
  ∃ (k : Nat) (sk : Bd) (sp : List Int) (gk : Option Nat), i = .int .i64 (mn + k) ∧ k ≤ n ∧ sp.length = k ∧ repOpt f (n - k) sk sp = F ∧ sk.ok ∧ OwnI wr sp jv ∧ Off b gk w0.heap.size jv wr ∧ BAt b sk gk wr ∧ Fr (LS b g) w0 wr ∧ (∀ j, gk = some j → g = some j ∨ w0.heap.size ≤ j)
def OptCut (F : Bd × List Int) (n : Nat) (b : Nat) (g : Option Nat) (w0 : World) (jv : Value) (wr : World) : Prop :=
  ∃ gk, F.2.length ≤ n ∧ OwnI wr F.2 jv ∧ Off b gk w0.heap.size jv wr ∧ BAt b F.1 gk wr ∧ Fr (LS b g) w0 wr ∧ (∀ j, gk = some j → g = some j ∨ w0.heap.size ≤ j)
def PatInv (js : List Int) (F : Bd) (b : Nat) (g : Option Nat) (w0 : World) (jv i : Value) (wr : World) : Prop :=
  ∃ (k : Nat) (sk : Bd) (gk : Option Nat), i = .int .i64 k ∧ k ≤ js.length ∧ Bd.setYs (js.drop k) sk = F ∧ sk.ok ∧ (∀ j ∈ js, 0 ≤ j ∧ j < sk.ins.length) ∧ OwnI wr js jv ∧ Off b gk w0.heap.size jv wr ∧
    BAt b sk gk wr ∧ Fr (LS b g) w0 wr ∧ (∀ j, gk = some j → g = some j ∨ w0.heap.size ≤ j)

set_option maxRecDepth 100000 in
set_option maxHeartbeats 4000000 in
theorem rep_any' (x : Nd) (hN : NodeOk x) (mn mx : Int) (hmn : -1000000 ≤ mn ∧ mn ≤ 1000000) (hmx : -1000000 ≤ mx ∧ mx ≤ 1000000) (u : Value) (w : World) (b : Nat) (s : Bd) (g : Option Nat) (hs : s.ok) (h : BAt b s g w) (hx : RN (LS b g) w x u) :
    Calls Try.prog 25 #[.pointer (some ⟨b, 0, none⟩), .agg #[u, .int .i64 mn, .int .i64 mx]] w fun e w' => e = .returned (.tuple #[]) ∧ Laid b (repF x.lay mn mx s) g w w' := by
  have hf := Lib.hid (show UpF x.lay from up_lay x)
  obtain ⟨w1, hw1⟩ : ∃ w1, w1 = w.alloc (.cells #[u, .int .i64 mn, .int .i64 mx] 50) := ⟨_, rfl⟩
  have f1 : Fr nob w w1 := by rw [hw1]; exact (Fr.refl _ _).alloc _
  have hb1 : w1.heap[w.heap.size]? = some (.cells #[u, .int .i64 mn, .int .i64 mx] 50 (0, 0)) := by rw [hw1]; exact newAtB _ _
  have hus := hx.shape
  -- the box in any later world
  have hbox : ∀ w', Fr (LS b g) w1 w' → w'.cell? ⟨w.heap.size, 0, none⟩ = some u ∧ w'.cell? ⟨w.heap.size, 1, none⟩ = some (.int .i64 mn) ∧ w'.cell? ⟨w.heap.size, 2, none⟩ = some (.int .i64 mx) := fun w' f => by
    have hb := f.heap hb1 (fun e => Nat.lt_irrefl _ (h.ls _ e))
    exact ⟨cell_at hb rfl, cell_at hb rfl, cell_at hb rfl⟩
  have hnode : ∀ w' g', Fr (LS b g) w1 w' → (∀ j, g' = some j → g = some j ∨ w1.heap.size ≤ j) → RN (LS b g') w' x u := fun w' g' f hg => RN.keep f (S := LS b g) (S' := LS b g') (fun _ _ x => x) (LS.late hg) x u (hx.on f1)
  obtain ⟨c0, c1, c2⟩ := hbox w1 (Fr.refl _ _)
  have HBOX := Lib.hid hbox; have HND := Lib.hid hnode; have F1 := Lib.hid f1; have HW1 := Lib.hid hw1; have HN := Lib.hid hN; have HB0 := Lib.hid (h.on f1)
  obtain ⟨F, hF⟩ : ∃ F, repF x.lay mn mx s = F := ⟨_, rfl⟩
  rw [hF]
  have HF := Lib.hid hF
  obtain ⟨M, hM⟩ : ∃ M, repMin x.lay mn.toNat s = M := ⟨_, rfl⟩
  have HM := Lib.hid hM
  have okM := Lib.hid (by rw [← hM]; exact (up_repMin hf.out mn.toNat hs).ok hs : M.ok)
  have hm1 : 0 ≤ mn ∨ mn < 0 := by omega
  clear hbox hnode f1 hw1 hb1 hN h hx hF hM
  go_enter Try.func25, Try.ntmps25
  go_upto_block 0 with (rw [← HW1.out])
  try rw [← HW1.out]
  go_cut [] (fun w' => Laid b M g w1 w')
  case first =>
    go_wp2_with fail
    go_loopw [12] (fun i wr => MinInv x.lay mn.toNat M b g w1 i wr) (fun i _ => mn.toNat - (intOf i).toNat)
    case atStart => exact ⟨0, s, g, rfl, Nat.zero_le _, HM.out, hs, HB0.out, Fr.refl _ _, fun _ h => .inl h⟩
    case round =>
      obtain ⟨k, sk, gk, rfl, hk, hF, hsk, hB, hfr, hg⟩ := hrel
      have HFK := Lib.hid hF; have HB := Lib.hid hB; have HFR := Lib.hid hfr; have HG := Lib.hid hg
      clear hF hB hfr hg c0 c1 c2
      by_cases hlt : (k : Int) < mn
      · obtain ⟨m, hm⟩ : ∃ m, mn.toNat - k = m + 1 := ⟨mn.toNat - k - 1, by omega⟩
        have hF2 := HFK.out
        rw [hm] at hF2
        have HF2 := Lib.hid hF2
        have HX := Lib.hid (HND.out wr gk HFR.out HG.out)
        obtain ⟨c0, c1, c2⟩ := HBOX.out wr HFR.out
        have hkm : (k : Int) ≤ 1000000 := by omega
        clear hF2 HFK
        go_wp2_with fail
        refine (next_any b sk gk wr HB.out).mono ?_
        rintro e w2 ⟨rfl, rfl⟩
        go_wp2_with fail
        refine (HN.out u wr b sk gk hsk HB.out HX.out).mono ?_
        rintro e w2 ⟨rfl, g2, B2, f2, h2⟩
        have HB2 := Lib.hid B2; have F2 := Lib.hid (HFR.out.trans f2 (LS.late HG.out)); have H2 := Lib.hid (show ∀ j, g2 = some j → g = some j ∨ w1.heap.size ≤ j from fun j hj => by
          rcases h2 j hj with h | h
          · exact HG.out j h
          · have := HFR.out.size; exact .inr (by omega))
        have ok2 := Lib.hid ((hf.out sk hsk).ok hsk)
        clear B2 f2 h2 c0 c1 c2
        go_wp2_with fail
        refine (next_any b _ g2 w2 HB2.out).mono ?_
        rintro e w3 ⟨rfl, rfl⟩
        by_cases hst : (x.lay sk).ins.length = sk.ins.length
        · have hR := Lib.hid (repMin_stop HF2.out hst)
          have q1 : (((x.lay sk).ins.length : Int) == (sk.ins.length : Int)) = true := by rw [hst]; simp
          clear hst
          go_wp2
          go_meet
          case rel => rw [← hR.out]; exact ⟨g2, HB2.out, F2.out, H2.out⟩
        · have hR := Lib.hid (repMin_go HF2.out hst)
          have q1 : (((x.lay sk).ins.length : Int) == (sk.ins.length : Int)) = false := by rw [beq_eq_false_iff_ne]; omega
          clear hst
          go_wp2
          go_roundw
          case rel => exact ⟨k + 1, _, g2, by go_num, by omega, by rw [show mn.toNat - (k + 1) = m by omega]; exact hR.out, ok2.out, HB2.out, F2.out, H2.out⟩
          case measure => simp [intOf]; omega
      · have hF2 := HFK.out
        rw [show mn.toNat - k = 0 by omega, repMin] at hF2
        subst hF2
        obtain ⟨c0, c1, c2⟩ := HBOX.out wr HFR.out
        go_wp2
        go_meet
        case rel => exact ⟨gk, HB.out, HFR.out, HG.out⟩
  case rest =>
    obtain ⟨gm, B, f, hg⟩ := hcut
    have HB := Lib.hid B; have HFR := Lib.hid f; have HG := Lib.hid hg
    obtain ⟨c0, c1, c2⟩ := HBOX.out wc f
    have HX := Lib.hid (HND.out wc gm f hg)
    clear B f hg HB0
    by_cases hneg : mx < 0
    · have ok1 := Lib.hid ((up_split okM.out).ok okM.out)
      have hA := at_lt okM.out (mkI 1 (M.ins.length + 1) 0)
      have hF2 := HF.out
      unfold repF at hF2
      simp only [if_pos hneg, HM.out] at hF2
      have HF2 := Lib.hid hF2; have HA := Lib.hid hA
      clear hF2 hA HF
      go_wp2_with fail
      refine (split_any b M gm wc okM.out.hi HB.out).mono ?_
      rintro e w2 ⟨rfl, g2, B2, f2, h2⟩
      have F2 := Lib.hid (HFR.out.trans f2 (LS.late HG.out))
      have G2 := Lib.hid (show ∀ j, g2 = some j → g = some j ∨ w1.heap.size ≤ j from fun j hj => by
        rcases h2 j hj with h | h
        · exact HG.out j h
        · have := HFR.out.size; exact .inr (by omega))
      have HB2 := Lib.hid B2
      obtain ⟨A, hA⟩ : ∃ A, M.at = A := ⟨_, rfl⟩
      rw [hA] at HF2 HA ⊢
      obtain ⟨c0', c1', c2'⟩ := HBOX.out w2 F2.out
      have HX2 := Lib.hid (HND.out w2 g2 F2.out G2.out)
      clear hA B2 f2 h2 c0 c1 c2
      go_wp2_with fail
      refine (round_any x HN.out u w2 b _ g2 ok1.out HB2.out HX2.out).mono ?_
      rintro e w3 ⟨rfl, g3, B3, f3, h3⟩
      have up3 := Lib.hid (up_round hf.out ok1.out)
      have ok3 := Lib.hid (up3.out.ok ok1.out)
      have F3 := Lib.hid (F2.out.trans f3 (LS.late G2.out))
      have G3 := Lib.hid (show ∀ j, g3 = some j → g = some j ∨ w1.heap.size ≤ j from fun j hj => by
        rcases h3 j hj with h | h
        · exact G2.out j h
        · have := F2.out.size; exact .inr (by omega))
      have B3' : BAt b (roundF x.lay M.split) g3 w3 := B3
      have HB3 := Lib.hid B3'
      obtain ⟨s3, hs3⟩ : ∃ s3, roundF x.lay M.split = s3 := ⟨_, rfl⟩
      rw [hs3] at HF2 up3 ok3 HB3
      clear hs3 B3 B3' f3 h3 c0' c1' c2'
      go_wp2_with fail
      refine (put_any b s3 g3 (mkI 2 A 0) w3 HB3.out).mono ?_
      rintro e w4 ⟨rfl, g4, B4, f4, h4⟩
      have up4 := Lib.hid (up_put ok3.out (mkI 2 A 0))
      have ok4 := Lib.hid (up4.out.ok ok3.out)
      have F4 := Lib.hid (F3.out.trans f4 (LS.late G3.out))
      have G4 := Lib.hid (show ∀ j, g4 = some j → g = some j ∨ w1.heap.size ≤ j from fun j hj => by
        rcases h4 j hj with h | h
        · exact G3.out j h
        · have := F3.out.size; exact .inr (by omega))
      have HB4 := Lib.hid B4
      obtain ⟨s4, hs4⟩ : ∃ s4, s3.put (mkI 2 A 0) = s4 := ⟨_, rfl⟩
      rw [hs4] at HF2 up4 ok4 HB4
      have hA2 := HA.out.1
      have hA3 : A < s4.ins.length := by
        have h1 := HA.out.2; have h2 := up3.out.le; have h3 := up4.out.le
        have h4 : (M.put (mkI 1 (M.ins.length + 1) 0)).ins.length ≤ s3.ins.length := h2
        omega
      obtain ⟨gb, c, hP⟩ := patchY HB4.out A hA2 hA3
      have hHd := hP.head
      have HP := Lib.hid hP
      have hl3 : (s4.ins.length : Int) ≤ 3000 := by have := ok4.out.hi; omega
      clear hs4 B4 f4 h4 hP
      go_wp2_with fail
      refine region_fr 8 (by kernel_rfl) (by kernel_rfl) ?_
      simp only [List.take_succ_cons, List.take_zero, List.drop_succ_cons, List.drop_zero]
      repeat (go_big_quiet_step ((with_reducible exact calls_same (next_any b s4 g4 _ (HB4.out.on (grown_fr _ _ _))))))
      refine wpQuiet_nil ?_
      intro wC fC
      obtain ⟨⟨xc, hc1⟩, hc2⟩ := HP.out.cell wC fC
      have HL := Lib.hid (HP.out.done wC fC)
      go_wp2
      (try simp only [Exit.inBlock, Exit.then])
      refine bodyPost_ret (v := .tuple #[]) (by simp [results, Try.results25, go_sem]) rfl ⟨rfl, ?_⟩
      rw [← HF2.out]
      exact Laid.pre F1.out (Laid.trans F4.out G4.out HL.out)
    · have hnn : ¬ mx < 0 := hneg
      have hF2 := HF.out
      unfold repF at hF2
      simp only [if_neg hneg, HM.out] at hF2
      obtain ⟨FO, hFO⟩ : ∃ FO, repOpt x.lay (mx - mn).toNat M [] = FO := ⟨_, rfl⟩
      have hjs := repOpt_js hf.out (mx - mn).toNat M [] okM.out (fun _ h => by cases h)
      have okO := (up_repOpt hf.out (mx - mn).toNat [] okM.out).ok okM.out
      rw [hFO] at hF2 hjs okO
      have HF2 := Lib.hid hF2; have HFO := Lib.hid hFO; have HJS := Lib.hid hjs; have OKO := Lib.hid okO
      clear hF2 hFO hjs okO HF hneg
      obtain ⟨i0, hi, hz0, hz1, hz2⟩ := info_parts info_intC
      go_upto_block 2 with (fail)
      go_cut [6] (fun jv w' => OptCut FO 2000000 b g w1 jv w')
      case first =>
        go_wp2_with fail
        go_loopw [6, 7] (fun jv i wr => OptInv x.lay (mx - mn).toNat mn FO b g w1 jv i wr) (fun _ i _ => (mx - intOf i).toNat)
        case atStart => exact ⟨0, M, [], gm, by go_num, Nat.zero_le _, rfl, HFO.out, okM.out, World.ownsRow_nil _ _ _ _, Off.nil, HB.out, HFR.out, HG.out⟩
        case round =>
          clear HB HFR HG c0 c1 c2 HX
          obtain ⟨k, sk, sp, gk, rfl, hk, hjl, hF, hsk, hj, ho, hB, hfr, hg⟩ := hrel
          have HFK := Lib.hid hF; have HB := Lib.hid hB; have HFR := Lib.hid hfr; have HG := Lib.hid hg; have HJ := Lib.hid hj; have HO := Lib.hid ho; have HJL := Lib.hid hjl
          obtain ⟨c0, c1, c2⟩ := HBOX.out wr hfr
          have hfl := hB.flag
          clear hF hB hfr hg hj ho hjl
          by_cases hlt : mn + (k : Int) < mx
          · obtain ⟨m, hm⟩ : ∃ m, (mx - mn).toNat - k = m + 1 := ⟨(mx - mn).toNat - k - 1, by omega⟩
            have hF2 := HFK.out
            rw [hm, repOpt] at hF2
            cases hfu : sk.full with
            | true =>
              rw [if_pos hfu] at hF2
              rw [hfu] at hfl
              subst hF2
              go_wp2
              go_meet
              case rel => exact ⟨gk, by have := HJL.out; simp only; omega, HJ.out, HO.out, HB.out, HFR.out, HG.out⟩
            | false =>
              rw [if_neg (by rw [hfu]; simp)] at hF2
              rw [hfu] at hfl
              have HF3 := Lib.hid hF2
              have HX := Lib.hid (HND.out wr gk HFR.out HG.out)
              have ok1 := Lib.hid ((up_split hsk).ok hsk)
              have HA := Lib.hid (at_lt hsk (mkI 1 (sk.ins.length + 1) 0))
              have hmw : IntKind.i64.wrap (mn + (k : Int) + 1) = mn + (k : Int) + 1 := IntWalk.i64_in _ (by omega)
              have hkb : k ≤ 2000000 := by omega
              clear hF2 HFK hfu
              go_wp2_with fail
              refine (split_any b sk gk _ hsk.hi HB.out).mono ?_
              rintro e w2 ⟨rfl, g2, B2, f2, h2⟩
              have J2 := HJ.out.keep f2 (fun j hj => (HO.out.nb j hj).1)
              have O2 := HO.out.on f2.size h2
              have F2 := Lib.hid (HFR.out.trans f2 (LS.late HG.out))
              have G2 := Lib.hid (show ∀ j, g2 = some j → g = some j ∨ w1.heap.size ≤ j from fun j hj => by
                rcases h2 j hj with h | h
                · exact HG.out j h
                · have := HFR.out.size; exact .inr (by omega))
              have HB2 := Lib.hid B2; have HJ2 := Lib.hid J2; have HO2 := Lib.hid O2
              obtain ⟨A, hA⟩ : ∃ A, sk.at = A := ⟨_, rfl⟩
              rw [hA] at HF3 HA ⊢
              have hl : sp.length ≤ 2000000 := by have := HJL.out; omega
              clear hA B2 f2 h2 J2 O2 hfl c0 c1 c2
              go_wp2_with (at_builtin; refine wpList_append_g rfl _ _ 78 rfl 3 i0 (.int .i64 0) 1 8 Try.underlying78 hi hz0 hz1 hz2 rfl (by decide) _ _ _ rfl (World.ownsRow.alloc HJ2.out _) ⟨w2.heap.size, 0, none⟩ 1 1 [.int .i64 A] rfl rfl ?c1 ?c2 ?c3 ?c4 ?_)
              case c1 => intro j u hj; match j, hj with | 0, hj => simp at hj; subst hj; simp [Addr.add]
              case c2 => intro u hu; simp at hu; subst hu; rfl
              case c3 => unfold maxLen; omega
              case c4 => omega
              intro jv' w3 hown' hap
              have hsz2 := F2.out.size
              obtain ⟨j3, o3, B3, fr3⟩ := Off.push HO2.out HB2.out hsz2 ((Fr.refl nob w2).alloc _) hap hown'
              have f3 := fr3 w1 (LS b g) hsz2 (Nat.le_refl _) F2.out
              obtain ⟨c0, c1, c2⟩ := HBOX.out w3 f3
              have HX3 := Lib.hid (HND.out w3 g2 f3 G2.out)
              have HJ3 := Lib.hid j3; have HO3 := Lib.hid o3; have HB3 := Lib.hid B3; have F3 := Lib.hid f3
              clear hown' hap j3 o3 B3 fr3 f3 HX
              go_wp2_with fail
              refine (round_any x HN.out u w3 b _ g2 ok1.out HB3.out HX3.out).mono ?_
              rintro e w4 ⟨rfl, g4, B4, f4, h4⟩
              have up4 := Lib.hid (up_round hf.out ok1.out)
              have F4 := Lib.hid (F3.out.trans f4 (LS.late G2.out))
              have G4 := Lib.hid (show ∀ j, g4 = some j → g = some j ∨ w1.heap.size ≤ j from fun j hj => by
                rcases h4 j hj with h | h
                · exact G2.out j h
                · have := F3.out.size; exact .inr (by omega))
              have J4 := Lib.hid (HJ3.out.keep f4 (fun j hj => (HO3.out.nb j hj).1))
              have O4 := Lib.hid (HO3.out.on f4.size h4)
              have B4' : BAt b (roundF x.lay sk.split) g4 w4 := B4
              have HB4 := Lib.hid B4'
              clear B4 B4' f4 h4 c0 c1 c2
              go_wp2
              go_roundw
              case rel => exact ⟨k + 1, _, sp ++ [A], g4, by go_num, by omega, by simp [HJL.out], by rw [show (mx - mn).toNat - (k + 1) = m by omega]; exact HF3.out, up4.out.ok ok1.out, J4.out, O4.out, HB4.out, F4.out, G4.out⟩
              case measure => simp [intOf]; omega
          · have hF2 := HFK.out
            rw [show (mx - mn).toNat - k = 0 by omega, repOpt] at hF2
            subst hF2
            go_wp2
            go_meet
            case rel => exact ⟨gk, by have := HJL.out; simp only; omega, HJ.out, HO.out, HB.out, HFR.out, HG.out⟩
      case rest =>
        clear HB HFR HG c0 c1 c2 HX
        obtain ⟨gk, hl, hj, ho, hB, hfr, hg⟩ := hcut
        obtain ⟨Fs, js⟩ := FO
        simp only at hl hj ho hB
        have hF3 := HF2.out
        simp only at hF3
        obtain ⟨aj, cj, rfl⟩ := ownsRow_slice hj
        have hI := Lib.hid (show PatInv js F b g w1 (.slice aj js.length cj) (.int .i64 0) wc from ⟨0, Fs, gk, rfl, Nat.zero_le _, hF3, OKO.out, HJS.out, hj, ho, hB, hfr, hg⟩)
        clear hj ho hB hfr hg hF3
        go_wp2_with fail
        go_loopw [74] (fun i wr => PatInv js F b g w1 (.slice aj js.length cj) i wr) (fun i _ => js.length - (intOf i).toNat)
        case atStart => exact hI.out
        case round =>
          clear hI
          obtain ⟨i, sk', gk', rfl, hi', hF', hsk', hjs', hj', ho', hB', hf', hg'⟩ := hrel
          have HF := Lib.hid hF'; have HJS := Lib.hid hjs'; have HJ := Lib.hid hj'; have HO := Lib.hid ho'; have HB := Lib.hid hB'; have HFR := Lib.hid hf'; have HG := Lib.hid hg'
          clear hF' hjs' hj' ho' hB' hf' hg'
          by_cases hlt' : i < js.length
          · obtain ⟨gj, cj', he, hc'⟩ := HJ.out.get hlt'
            injection he with e1 e2 e3
            subst e1; subst e3
            clear e2
            have hA1 := HJS.out js[i] (List.getElem_mem hlt')
            have hF3 := HF.out
            rw [List.drop_eq_getElem_cons hlt', Bd.setYs] at hF3
            obtain ⟨A, hA⟩ : ∃ A, js[i] = A := ⟨_, rfl⟩
            rw [hA] at hF3 hA1 hc'
            have HF3 := Lib.hid hF3
            obtain ⟨gb, c, hP⟩ := patchY HB.out A hA1.1 hA1.2
            have up4 := Lib.hid (up_setY hsk' A)
            have hHd := hP.head
            have HP := Lib.hid hP
            have hA2 := hA1.1; have hA3 := hA1.2
            have hl3 : (sk'.ins.length : Int) ≤ 3000 := by have := hsk'.hi; omega
            clear hA hF3 hP hA1 HF
            go_wp2_with fail
            refine region_fr 8 (by kernel_rfl) (by kernel_rfl) ?_
            simp only [List.take_succ_cons, List.take_zero, List.drop_succ_cons, List.drop_zero]
            repeat (go_big_quiet_step ((with_reducible exact calls_same (next_any b sk' gk' _ (HB.out.on (grown_fr _ _ _))))))
            refine wpQuiet_nil ?_
            intro wC fC
            obtain ⟨⟨xc, hc1⟩, hc2⟩ := HP.out.cell wC fC
            obtain ⟨g6, B6, f6, h6⟩ := HP.out.done wC fC
            have HB6 := Lib.hid B6; have F6 := Lib.hid f6; have H6 := Lib.hid h6
            clear B6 f6 h6
            go_wp2
            go_roundw
            case rel =>
              refine ⟨i + 1, _, g6, by go_num, by omega, HF3.out, up4.out.ok hsk', fun j hj => ?_, HJ.out.keep F6.out (fun j hj => (HO.out.nb j hj).1), HO.out.on F6.out.size H6.out, HB6.out, HFR.out.trans F6.out (LS.late HG.out), fun j hj => ?_⟩
              · have := HJS.out j hj; have := up4.out.le; omega
              · rcases H6.out j hj with h | h
                · exact HG.out j h
                · have := HFR.out.size; exact .inr (by omega)
            case measure => simp [intOf]; omega
          · obtain rfl : i = js.length := by omega
            have hF3 := HF.out
            rw [List.drop_length, Bd.setYs] at hF3
            subst hF3
            go_wp2
            go_end0
            exact ⟨rfl, Laid.pre F1.out ⟨gk', HB.out, HFR.out, HG.out⟩⟩

end Go.Proofs.Ytcmjgaadffffaaa
