/-
  Merged texts of this claim: EreJ, RdM.
-/
import Derived.Test.YtmoeboknelnaoaaGreatDoorM02
import Derived.Test.YtmoeboknelnaoaaGreatDoorM16
import Derived.Test.YtmoeboknelnaoaaGreatDoorM25

/-
  Walks of package ere: signs, Parse.
-/
namespace Go.Proofs.YtmoeboknelnaoaaGreatDoor
open Go.RowKit

theorem info_i32 : (Tryz.prog.info? 21).map (fun i => (i.zero, i.size, i.bytes)) = some (some (.int .i32 0), 1, 4) := by kernel_rfl
theorem runes_append (a b : List UInt8) : runes (a ++ b) = runes a ++ runes b := by simp [runes]
/-- The loop's relation. -/
def SgRel (l x : List UInt8) (w : World) (it n : Nat) (v : Value) (wr : World) : Prop :=
  ∃ k : Nat, k ≤ l.length ∧ l.length < n + k ∧ wr.heap[it]? = some (.stringIter ⟨x.toArray⟩ (wide (l.take k)).length) ∧ wr.ownsRow 0 21 1 v k (runes (l.take k)) ∧ (∀ j, v.ownBlock = some j → it < j) ∧ Fr nob w wr

set_option maxRecDepth 100000 in
set_option maxHeartbeats 1000000 in
theorem er_signs (l : List UInt8) (w : World) (hl : l.length ≤ 100000) :
    Calls Tryz.prog 86 #[.string ⟨l.toArray⟩] w fun e w' => ∃ v, e = .returned v ∧ w'.ownsRow 0 21 1 v l.length (runes l) ∧ (∀ j, v.ownBlock = some j → w.heap.size ≤ j) ∧ Fr nob w w' := by
  obtain ⟨i0, hi, hz0, hz1, hz2⟩ := info_parts info_i32
  have hW := wide_any l w (by omega)
  obtain ⟨x, hx⟩ : ∃ x, wide l = x := ⟨_, rfl⟩
  rw [hx] at hW
  have HX := Lib.hid hx; have HWI := Lib.hid hW; clear hx hW
  go_enter Tryz.func86, Tryz.ntmps86
  go_wp2_with fail
  with_reducible refine HWI.out.mono ?_
  rintro e w3 ⟨rfl, f3⟩
  have F := Lib.hid f3; clear f3
  go_wp2_with fail
  go_loopg [3] (l.length + 1) (fun n v wr => SgRel l x w w3.heap.size n v wr)
  case atStart => exact ⟨0, Nat.zero_le _, by omega, heap_alloc_new _ _, World.ownsRow_nil _ _ _ _, fun j h => (by cases h), F.out.alloc _⟩
  case round =>
    obtain ⟨k, hk, hn, hit, hown, hblk, hfr⟩ := hrel
    obtain ⟨m, rfl⟩ : ∃ m, gk = m + 1 := ⟨gk - 1, by omega⟩
    obtain ⟨av, cv, rfl⟩ := ownsRow_slice hown
    have HI := Lib.hid hit; have HO := Lib.hid hown; have HBK := Lib.hid hblk; have HFR := Lib.hid hfr; clear hit hown hblk hfr
    by_cases hlt : k < l.length
    · have hat : (wide (l.take k)).length < x.length := by rw [← HX.out]; exact wide_at hlt
      have hnx : ∀ ty, (Instr.next (.pointer (some ⟨w3.heap.size, 0, none⟩)) true ty).run Tryz.prog wr = .ok (.tuple #[.bool true, .int .i64 ((wide (l.take k)).length : Nat), .int .i32 (l[k].toNat : Nat)]) (wr.iterAt w3.heap.size ⟨x.toArray⟩ (wide (l.take (k + 1))).length) := by
        intro ty
        have := Lib.run_next_any_at (P := Tryz.prog) wr w3.heap.size ⟨x.toArray⟩ (wide (l.take k)).length ty HI.out (by rw [bsize]; exact hat)
        rw [decode_yes hat (by rw [← HX.out]; exact nar1_at hlt)] at this
        rw [wide_take hlt, List.length_append]; exact this
      have hi1 := Lib.iterAt_heap wr w3.heap.size ⟨x.toArray⟩ _ (wide (l.take (k + 1))).length HI.out
      have hlw : w.heap.size ≤ w3.heap.size := F.out.size
      have hfi := fr_iterAt wr w3.heap.size ⟨x.toArray⟩ (wide (l.take (k + 1))).length
      have hf1 : Fr nob w (wr.iterAt w3.heap.size ⟨x.toArray⟩ (wide (l.take (k + 1))).length) := HFR.out.trans hfi (fun i hi e => by omega)
      have hown1 := ownsRow_fr HO.out hfi (fun j hj e => by have := HBK.out j hj; omega)
      obtain ⟨w4, hw⟩ : ∃ w4, wr.iterAt w3.heap.size ⟨x.toArray⟩ (wide (l.take (k + 1))).length = w4 := ⟨_, rfl⟩
      rw [hw] at hnx hi1 hf1 hown1
      obtain ⟨c, hc⟩ : ∃ c, l[k] = c := ⟨_, rfl⟩
      rw [hc] at hnx
      have hT : runes (l.take (k + 1)) = runes (l.take k) ++ [.int .i32 (c.toNat : Int)] := by rw [List.take_succ_eq_append_getElem hlt, runes_append, hc]; rfl
      have HI1 := Lib.hid hi1; have HF1 := Lib.hid hf1; have HO1 := Lib.hid hown1; have HT := Lib.hid hT
      clear hw hi1 hf1 hat hfi hown1 hT hc
      go_wp2_with (at_builtin; refine wpList_append_g rfl _ _ 176 rfl 21 i0 (.int .i32 0) 1 4 Tryz.underlying176 hi hz0 hz1 hz2 rfl (by decide) _ _ _ rfl (ownsRow_fr HO1.out ((Fr.refl nob w4).alloc _) (fun _ _ x => x)) ⟨w4.heap.size, 0, none⟩ 1 1 [.int .i32 (c.toNat : Int)] rfl rfl ?c1 ?c2 ?c3 ?c4 ?_)
      case c1 => intro j u hj; match j, hj with | 0, hj => simp at hj; subst hj; simp [Addr.add]
      case c2 => intro u hu; simp at hu; subst hu; rfl
      case c3 => unfold maxLen; omega
      case c4 => omega
      intro v' w5 hown' hap
      obtain ⟨av', cv', rfl⟩ := ownsRow_slice hown'
      have hlw5 : w3.heap.size < w4.heap.size := lt_heap HI1.out
      have hi5 := hap.fr.heap (heap_alloc_lt (.cells #[.int .i32 (c.toNat : Int)] 21) HI1.out) (fun e => by have := HBK.out _ e; omega)
      have hf5 : Fr nob w w5 := (HF1.out.alloc _).trans hap.fr (fun i hi e => by have := HBK.out _ e; omega)
      have hb5 : ∀ j, (Value.slice av' (k + 1) cv').ownBlock = some j → w3.heap.size < j := fun j hj => by
        rcases hap.old j hj with h1 | h1
        · exact HBK.out j h1
        · simp at h1; omega
      have HI5 := Lib.hid hi5; have HF5 := Lib.hid hf5; have HB5 := Lib.hid hb5; have HO5 := Lib.hid hown'
      clear hi5 hf5 hb5 hown' hap hnx
      go_wp2
      go_roundg m
      case measure => omega
      case rel => exact ⟨k + 1, by omega, by omega, HI5.out, by rw [HT.out]; exact HO5.out, HB5.out, HF5.out⟩
    · obtain rfl : k = l.length := by omega
      have hT : (wide (l.take l.length)).length = x.length := by rw [List.take_of_length_le (Nat.le_refl _), HX.out]
      have hnx : ∀ ty, (Instr.next (.pointer (some ⟨w3.heap.size, 0, none⟩)) true ty).run Tryz.prog wr = .ok (.tuple #[.bool false]) wr := by
        intro ty
        exact Lib.run_next_end_at (P := Tryz.prog) wr w3.heap.size ⟨x.toArray⟩ _ ty HI.out (by rw [bsize, hT]; omega)
      clear hT
      go_wp2
      go_ret
      refine ⟨_, rfl, ?_, ?_, HFR.out⟩
      · have := HO.out; rwa [List.take_of_length_le (Nat.le_refl _)] at this
      · intro j hj; have := HBK.out j hj; have := F.out.size; omega

/-- .. told with what is new: no block of the tree or the marks was there before. -/
def EreAnsO (R : Out Nd) (w : World) (e : Ending) (w' : World) : Prop := Fr nob w w' ∧ match R with
  | .inl (z, p) => e = .returned (.tuple #[.nilIface, .slice none 0 0, .int .i64 (p : Nat), .int .i64 z])
  | .inr (t, s) => ∃ r mv, e = .returned (.tuple #[r, mv, .int .i64 0, .int .i64 0]) ∧ RN (fun k => k < w.heap.size) w' t r ∧ OwM w' s.marks mv ∧ ∀ k, mv.ownBlock = some k → w.heap.size ≤ k

set_option maxRecDepth 100000 in
set_option maxHeartbeats 1000000 in
theorem ere_parseO (l : List UInt8) (w : World) (hl : l.length ≤ 100000) (hE : Env w) :
    Calls Tryz.prog 74 #[.string ⟨l.toArray⟩] w (EreAnsO (parseD prg true l) w) := by
  unfold parseD
  by_cases h250 : 250 < l.length
  · have hlI : (250 : Int) < (l.length : Int) := by omega
    rw [if_pos h250]
    go_enter Tryz.func74, Tryz.ntmps74
    go_wp2
    exact bodyPost_ret (results_tmp4 rfl _ _ _) rfl ⟨Fr.refl _ _, rfl⟩
  · have hlI : ¬ (250 : Int) < (l.length : Int) := by omega
    rw [if_neg h250]
    obtain ⟨D, hD⟩ : ∃ D, chD prg true l 12 ⟨0, 0, [], []⟩ = D := ⟨_, rfl⟩
    rw [hD]
    have hRl := chX_D (l := l) 12 ⟨0, 0, [], []⟩
    rw [hD] at hRl
    have hS := er_signs l w hl
    have HS := Lib.hid hS; have HRL := Lib.hid hRl
    clear hS hRl hD h250
    go_enter Tryz.func74, Tryz.ntmps74
    go_wp2_with fail
    with_reducible refine HS.out.mono ?_
    rintro e w1 ⟨sv, rfl, hown, hblk, f1⟩
    obtain ⟨av, cv, rfl⟩ := ownsRow_slice hown
    have hmk : ∀ W, (Instr.makeMap 178 none).run Tryz.prog W = .ok (.map (some W.heap.size)) (W.alloc (.map #[] 0)) := fun W => by simp [Instr.makeMap, Result.andThen]
    obtain ⟨m, hm⟩ : ∃ m, w1.heap.size = m := ⟨_, rfl⟩
    obtain ⟨w3, hw3⟩ : ∃ w3, w3 = (w1.alloc (.map #[] 0)).alloc (.cells #[.string ⟨l.toArray⟩, .slice av l.length cv, .int .i64 0, .int .i64 0, .map (some w1.heap.size), .slice none 0 0, .int .i64 0, .int .i64 0] 180) := ⟨_, rfl⟩
    have hs3 : w3.heap.size = w1.heap.size + 2 := by rw [hw3]; simp
    have hf13 : Fr nob w1 w3 := by rw [hw3]; exact ((Fr.refl nob w1).alloc _).alloc _
    have hE3 : Er (w1.heap.size + 1) l ⟨⟨0, 0, [], []⟩, none⟩ (fun k => k = w1.heap.size + 1 ∨ k = w1.heap.size) (.slice av l.length cv) w1.heap.size (.slice none 0 0) w3 := by
      refine ⟨by rw [hw3]; exact heap_alloc_new' _ _ _ (by simp), ownsRow_fr hown hf13 (fun _ _ x => x), IMap.new (by rw [hw3]; exact heap_alloc_lt _ (newAt0 w1 _)), World.ownsRow_nil _ _ _ _, fun _ h => (by cases h), by omega, fun k hk => ?_, .inl rfl, .inr rfl, fun z h => (by cases h)⟩
      have := own_lt hown k hk
      exact ⟨by omega, by omega⟩
    have hWd : Wd w (fun k => k = w1.heap.size + 1 ∨ k = w1.heap.size) w3 := ⟨f1.trans' hf13, fun k hk => by have := f1.size; omega, fun k hk => by omega⟩
    have hch := er_chAt l w hl hE 12 0 rfl (w1.heap.size + 1) ⟨⟨0, 0, [], []⟩, none⟩ (fun k => k = w1.heap.size + 1 ∨ k = w1.heap.size) (fun k => k < w.heap.size) w3 (fun k (hk : k < w.heap.size) => by have := f1.size; omega) ⟨Nat.zero_le _, Nat.le_refl _, Nat.le_refl _, Nat.le_refl _⟩ hWd ⟨_, _, _, hE3⟩
    rw [show ((0 : Nat) : Int) = 0 from rfl] at hch
    have HCH := Lib.hid hch; have H3 := Lib.hid hw3; have F3 := Lib.hid (f1.trans' hf13); have HSZ := Lib.hid f1.size
    clear hch hw3 hE3 hWd hf13 hown hblk f1 hm hs3
    go_wp2_with (rw [← H3.out])
    with_reducible refine HCH.out.mono ?_
    rintro e w4 ⟨v4, S4', rfl, rn4, ⟨sv4, m4, mv4, e4⟩, t4⟩
    have rr := rule8 e4.blk
    have hfr : Fr nob w w4 := F3.out.trans t4.fr (fun i hi x => by have := HSZ.out; rcases x with x | x <;> omega)
    cases D with
    | inl z =>
      obtain ⟨z, p⟩ := z
      obtain ⟨hx, _⟩ : (chX l 12 ⟨⟨0, 0, [], []⟩, none⟩).2.x = some (z, p) ∧ _ := HRL.out
      have hz := e4.ok _ hx
      have hz : z ≠ 0 := hz
      rw [hx] at rr
      have hz' : ((z : Int) != 0) = true := by simpa using hz
      have HFR := Lib.hid hfr
      clear hx e4 t4 rn4 hfr
      have rr0 := rr w4 (Fr.refl nob w4)
      unfold eX pX at rr rr0
      go_wp2_with fail
      refine region_fr 11 (by kernel_rfl) (by kernel_rfl) ?_
      simp only [List.take_succ_cons, List.take_zero, List.drop_succ_cons, List.drop_zero]
      repeat (quiet_step (fail))
      refine wpQuiet_nil ?_
      intro w5 f5
      go_wp2
      exact bodyPost_ret (results_tmp4 rfl _ _ _) rfl ⟨HFR.out.trans' f5, rfl⟩
    | inr q =>
      obtain ⟨t, s⟩ := q
      have hx : chX l 12 ⟨⟨0, 0, [], []⟩, none⟩ = (t, ⟨s, none⟩) := HRL.out
      rw [hx] at rr rn4 e4
      have hma := e4.ma
      obtain ⟨am, cm, hmv⟩ := ownsRow_slice hma
      subst hmv
      have HFR := Lib.hid hfr; have HMA := Lib.hid hma; have RN4 := Lib.hid (RN.keep (Fr.refl nob w4) (fun _ _ x => x.elim) (fun _ _ x => .inr x) _ _ rn4 : RN (fun k => k < w.heap.size) w4 t v4)
      have HNW := Lib.hid (show ∀ k, (Value.slice am s.marks.length cm).ownBlock = some k → w.heap.size ≤ k from fun k hk => by
        have h1 := e4.nm k hk
        have h2 := HSZ.out
        by_cases hlt : k < w3.heap.size
        · rcases t4.old k hlt h1.2.2 with x | x <;> omega
        · have := F3.out.size; omega)
      clear hx e4 t4 rn4 hfr hma
      have rr0 := rr w4 (Fr.refl nob w4)
      unfold eX pX at rr rr0
      go_wp2_with fail
      refine region_fr 6 (by kernel_rfl) (by kernel_rfl) ?_
      simp only [List.take_succ_cons, List.take_zero, List.drop_succ_cons, List.drop_zero]
      repeat (quiet_step (fail))
      refine wpQuiet_nil ?_
      intro w5 f5
      go_wp2
      exact bodyPost_ret (results_tmp4 rfl _ _ _) rfl ⟨HFR.out.trans' f5, v4, _, rfl, RN4.out.on f5, ownsRow_fr HMA.out f5 (fun _ _ x => x), HNW.out⟩
end Go.Proofs.YtmoeboknelnaoaaGreatDoor

/-
  The marks of a regex of either kind lie within it. No walk.
-/
namespace Go.Proofs.YtmoeboknelnaoaaGreatDoor
open Go.RowKit

def MkIn (l : List UInt8) (s : RxS) : Prop := ∀ m ∈ s.marks, m.1 ≤ l.length
theorem MkIn.mk {l : List UInt8} {s : RxS} (h : MkIn l s) (hs : s.at_ ≤ l.length) (t : List UInt8) : MkIn l (s.mark t) := fun m hm => by
  rcases List.mem_append.1 hm with hm | hm
  · exact h m hm
  · rw [List.mem_singleton.1 hm]; exact hs
theorem MkIn.mk2 {l : List UInt8} {s : RxS} {ere : Bool} (h : MkIn l s) (hs : s.at_ ≤ l.length) (t : List UInt8) (k : Nat) : MkIn l ((if ere then s else s.mark t).go k) := by
  cases ere
  · exact h.mk hs t
  · exact h
theorem repD_mk {ere : Bool} {l : List UInt8} : ∀ (n : Nat) (s : RxS) (t : Nd) (t' : Nd) (s' : RxS), Sane l s → MkIn l s → repD prg ere l n s t = .inr (t', s') → MkIn l s'
  | 0, s, t, t', s', hs, hm, h => by
    rw [repD] at h; injection h with h; injection h with h1 h2; subst h1; subst h2; exact hm
  | n + 1, s, t, t', s', hs, hm, h => by
    rw [repD] at h
    split at h
    · next e =>
      have hle : s.at_ + 1 ≤ l.length := sgn_fit (eq_of_beq e) (by decide)
      exact repD_mk n (s.go 1) _ _ _ (hs.go (n := 1) hle) hm h
    · split at h
      · next e => exact repD_mk n _ _ _ _ (hs.mk2 _ (sgn_op e)) (hm.mk2 hs.le _ _) h
      · split at h
        · next e => exact repD_mk n _ _ _ _ (hs.mk2 _ (sgn_op e)) (hm.mk2 hs.le _ _) h
        · split at h
          · cases hi : ditv l ere (s.at_ + (opB ere 123).length) with
            | none => rw [hi] at h; cases h
            | some y =>
              obtain ⟨m, x, j⟩ := y
              rw [hi] at h
              obtain ⟨j1, j2⟩ := ditv_in hi
              exact repD_mk n (s.to j) _ _ _ (hs.to (n := j) (by omega) j2) hm h
          · injection h with h; injection h with h1 h2; subst h1; subst h2; exact hm
def MarksE (l : List UInt8) (f : RxS → Out Nd) : Prop := ∀ s, Sane l s → MkIn l s → ∀ t s', f s = .inr (t, s') → MkIn l s'
section
variable {ere : Bool} {l : List UInt8} {C : Option (RxS → Out Nd)} (hC : ∀ f, C = some f → KeptE l f) (hM : ∀ f, C = some f → MarksE l f)
include hM
theorem atomD_mk {s s' : RxS} {t : Nd} (hs : Sane l s) (hm : MkIn l s) (h : atomD prg ere l C s = .inr (t, s')) : MkIn l s' := by
  unfold atomD at h
  split at h
  · next e =>
    unfold groupD at h
    cases C with
    | none => cases h
    | some f =>
      simp only at h
      cases hf : f { s.go (opB ere 40).length with opened := s.opened + 1 } with
      | inl e => rw [hf] at h; cases h
      | inr z =>
        obtain ⟨t1, s1⟩ := z
        rw [hf] at h
        simp only at h
        have := hs.op
        have hg := hs.go (sgn_op e)
        have ho := opB_size ere 40
        have k1 := hM f rfl { s.go (opB ere 40).length with opened := s.opened + 1 } ⟨hg.le, hg.mr, hg.cl, by show s.opened + 1 ≤ s.at_ + _; omega⟩ hm t1 s1 hf
        split at h
        · injection h with h; injection h with h1 h2; subst h1; subst h2
          exact k1
        · cases h
  · split at h
    · cases h
    · split at h
      · cases hp : prs l (s.at_ + 1) with
        | inl z => rw [hp] at h; cases h
        | inr y =>
          rw [hp] at h
          injection h with h; injection h with h2 h3; subst h2; subst h3
          exact hm
      · split at h
        · injection h with h; injection h with h2 h3; subst h2; subst h3
          exact hm
        · split at h
          · cases h
          · split at h
            · cases h
            · injection h with h; injection h with h2 h3; subst h2; subst h3
              exact hm
            · next b r e =>
              unfold escD at h
              split at h
              · split at h
                · injection h with h; injection h with h2 h3; subst h2; subst h3
                  cases ere
                  · exact hm
                  · exact hm.mk hs.le _
                · cases h
              · split at h
                · cases h
                · next c m _ =>
                  injection h with h; injection h with h2 h3; subst h2; subst h3
                  cases m
                  · exact hm
                  · exact hm.mk hs.le _
include hC
theorem brD_mk {inner : Bool} : ∀ (n : Nat) (first front : Bool) (s : RxS) (ps : List Nd) (t : Nd) (s' : RxS), Sane l s → MkIn l s → brD prg ere l C inner n first front s ps = .inr (t, s') → MkIn l s'
  | 0, first, front, s, ps, t, s', hs, hm, h => by
    rw [brD] at h; injection h with h; injection h with h1 h2; subst h1; subst h2; exact hm
  | n + 1, first, front, s, ps, t, s', hs, hm, h => by
    rw [brD] at h
    split at h
    · injection h with h; injection h with h1 h2; subst h1; subst h2; exact hm
    · split at h
      · next e =>
        have e1 : (sgn l s.at_ == [94]) = true := by simp only [Bool.and_eq_true] at e; exact e.1
        have hle : s.at_ + 1 ≤ l.length := sgn_fit (eq_of_beq e1) (by decide)
        exact brD_mk n _ _ (s.go 1) _ _ _ (hs.go (n := 1) hle) hm h
      · split at h
        · next e =>
          have e1 : (sgn l s.at_ == [36]) = true := by simp only [Bool.and_eq_true] at e; exact e.1
          have hle : s.at_ + 1 ≤ l.length := sgn_fit (eq_of_beq e1) (by decide)
          exact brD_mk n _ _ (s.go 1) _ _ _ (hs.go (n := 1) hle) hm h
        · split at h
          · cases h
          · split at h
            · cases h
            · next t1 s1 e1 =>
              split at h
              · cases h
              · next t2 s2 e2 =>
                have a1 := (atomD_kept hC hs e1).1
                have b1 := (repD_kept _ _ _ _ _ a1 e2).1
                exact brD_mk n _ _ _ _ _ _ b1 (repD_mk _ _ _ _ _ a1 (atomD_mk hM hs hm e1) e2) h
theorem loopD_mk {inner : Bool} : ∀ (n : Nat) (s : RxS) (ts : List Nd) (t : Nd) (s' : RxS), Sane l s → MkIn l s → chLoopD prg ere l C inner n s ts = .inr (t, s') → MkIn l s'
  | 0, s, ts, t, s', hs, hm, h => by
    rw [chLoopD] at h; injection h with h; injection h with h1 h2; subst h1; subst h2; exact hm
  | n + 1, s, ts, t, s', hs, hm, h => by
    rw [chLoopD] at h
    split at h
    · next e =>
      split at h
      · cases h
      · next t1 s1 e1 =>
        have hs1 := hs.mk2 (ere := ere) [92, 124] (sgn_op e)
        have a1 := (branchD_kept hC hs1 e1).1
        exact loopD_mk n _ _ _ _ a1 (brD_mk hC hM _ _ _ _ _ _ _ hs1 (hm.mk2 hs.le _ _) e1) h
    · injection h with h; injection h with h1 h2; subst h1; subst h2; exact hm
theorem choiceD_mk {inner : Bool} : MarksE l (choiceD prg ere l C inner) := by
  intro s hs hm t s' h
  unfold choiceD at h
  split at h
  · cases h
  · next t1 s1 e1 => exact loopD_mk hC hM _ _ _ _ _ (branchD_kept hC hs e1).1 (brD_mk hC hM _ _ _ _ _ _ _ hs hm e1) h
end
theorem chD_mk {ere : Bool} {l : List UInt8} : ∀ n, MarksE l (chD prg ere l n)
  | 0 => by rw [chD]; exact choiceD_mk (fun f hf => by cases hf) (fun f hf => by cases hf)
  | n + 1 => by rw [chD]; exact choiceD_mk (fun f hf => by injection hf with hf; subst hf; exact chD_kept n) (fun f hf => by injection hf with hf; subst hf; exact chD_mk n)
/-- Where the marks stand, and how many there are. -/
theorem parseD_marks {ere : Bool} {l : List UInt8} {t : Nd} {s : RxS} (h : parseD prg ere l = .inr (t, s)) : (∀ m ∈ s.marks, m.1 ≤ l.length) ∧ s.marks.length ≤ l.length ∧ t.size ≤ 2 * l.length + 2 := by
  unfold parseD at h
  split at h
  · cases h
  · have hs : Sane l ⟨0, 0, [], []⟩ := ⟨Nat.zero_le _, Nat.zero_le _, Nat.zero_le _, Nat.zero_le _⟩
    obtain ⟨k1, k2, k3⟩ := chD_kept 12 _ hs _ _ h
    have := k1.le; have := k1.mr
    simp only at k3
    exact ⟨chD_mk 12 _ hs (fun m hm => by cases hm) _ _ h, by omega, by omega⟩
end Go.Proofs.YtmoeboknelnaoaaGreatDoor
