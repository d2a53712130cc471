/-
  Walk of piece.Lines.
-/
import Derived.Test.YthdcpjmjdbldiaaDoorPieceE
namespace Go.Proofs.YthdcpjmjdbldiaaDoor
open Go.RowKit

/-- A text's lines: the text so far, the place; 'n': how many steps are allowed. -/
def ln (l : List UInt8) : Nat → Nat → List UInt8 → List UInt8 × Nat × Int
  | 0, _, _ => ([], 0, 0)
  | n + 1, k, out =>
    match l[k]? with
    | none => (out ++ [10], min (k + 1) l.length, 0)
    | some c =>
      if c = 10 then (out ++ [10], min (k + 1) l.length, 0)
      else if c = 92 then (match l[k + 1]? with | none => ([], k, 11) | some x => ln l n (k + 2) (out ++ [x]))
      else ln l n (k + 1) (out ++ [c])

theorem ln_none {l : List UInt8} {n k : Nat} {out : List UInt8} (h : l.length ≤ k) : ln l (n + 1) k out = (out ++ [10], min (k + 1) l.length, 0) := by rw [ln, List.getElem?_eq_none h]
theorem ln_nl {l : List UInt8} {n k : Nat} {out : List UInt8} (h : k < l.length) (e : l[k] = 10) : ln l (n + 1) k out = (out ++ [10], min (k + 1) l.length, 0) := by
  rw [ln, List.getElem?_eq_getElem h]; simp [e]
theorem ln_tail {l : List UInt8} {n k : Nat} {out : List UInt8} (h : k < l.length) (e : l[k] = 92) (h2 : l.length ≤ k + 1) : ln l (n + 1) k out = ([], k, 11) := by
  rw [ln, List.getElem?_eq_getElem h, List.getElem?_eq_none h2]; simp [e]
theorem ln_esc {l : List UInt8} {n k : Nat} {out : List UInt8} (h : k < l.length) (e : l[k] = 92) (h2 : k + 1 < l.length) : ln l (n + 1) k out = ln l n (k + 2) (out ++ [l[k + 1]]) := by
  rw [ln, List.getElem?_eq_getElem h, List.getElem?_eq_getElem h2]; simp [e]
theorem ln_one {l : List UInt8} {n k : Nat} {out : List UInt8} (h : k < l.length) (e : l[k] ≠ 10) (e2 : l[k] ≠ 92) : ln l (n + 1) k out = ln l n (k + 1) (out ++ [l[k]]) := by
  rw [ln, List.getElem?_eq_getElem h]; simp only; rw [if_neg e, if_neg e2]

/-- The loop's relation. -/
def LnRel (l : List UInt8) (F : List UInt8 × Nat × Int) (w : World) (n : Nat) (at_ : Value) (wr : World) : Prop :=
  ∃ (k : Nat) (out : List UInt8) (g : Option Nat), at_ = .int .i64 k ∧ l.length < n + k ∧ k ≤ l.length ∧ out.length ≤ k ∧ Bb w.heap.size out g wr ∧ Fr nob w wr ∧ (∀ j, g = some j → w.heap.size ≤ j) ∧ ln l n k out = F

set_option maxRecDepth 100000 in
set_option maxHeartbeats 2000000 in
theorem lines_any (l : List UInt8) (at_ : Nat) (w : World) (hs : l.length ≤ 100000) (hat : at_ ≤ l.length) :
    Calls Tryd.prog 11 #[.string ⟨l.toArray⟩, .int .i64 at_] w fun e w' =>
      e = .returned (.tuple #[.string ⟨(ln l (l.length + 1) at_ []).1.toArray⟩, .int .i64 (ln l (l.length + 1) at_ []).2.1, .int .i64 (ln l (l.length + 1) at_ []).2.2]) ∧ Fr nob w w' := by
  obtain ⟨F, hF⟩ : ∃ F, ln l (l.length + 1) at_ [] = F := ⟨_, rfl⟩
  rw [hF]
  have HF := Lib.hid hF; clear hF
  have ho : (decide ((at_ : Int) < 0) || decide ((l.length : Int) < at_)) = false := by simp; omega
  have HO := Lib.hid ho; clear ho
  go_enter Tryd.func11, Tryd.ntmps11
  go_wp2_with (go_at_call 16; refine (over_any _ _ w (by omega)).mono ?_; rw [HO.out]; rintro e w' ⟨rfl, rfl⟩)
  go_loopg [1] (l.length + 1) (fun n a wr => LnRel l F w n a wr)
  case atStart => exact ⟨at_, [], none, rfl, by omega, hat, Nat.zero_le _, Bb.new _, (Fr.refl _ _).alloc _, fun _ h => (by cases h), HF.out⟩
  case round =>
    obtain ⟨k, out, g, rfl, hn, hk, hout, hr, hfr, hg, hb⟩ := hrel
    obtain ⟨m, rfl⟩ : ∃ m, gk = m + 1 := ⟨gk - 1, by omega⟩
    have HR := Lib.hid hr; clear hr
    have HFR := Lib.hid hfr; clear hfr
    have HG := Lib.hid hg; clear hg
    by_cases hlt : k < l.length
    · by_cases h10 : l[k] = 10
      · rw [ln_nl hlt h10] at hb
        subst hb
        have t1 : ((l[k].toNat : Int) != 10) = false := tn_eq (b := 10) h10
        clear h10
        go_wp2_with fail
        refine (bb_writeByte _ out 10 g _ (by omega) HR.out (by omega)).mono ?_
        rintro e w1 ⟨rfl, g1, h1, hf1, hg1⟩
        have HB1 := Lib.hid h1; have HF1 := Lib.hid (keep_new (g' := none) (Nat.le_refl _) HFR.out HG.out hf1); have HG1 := Lib.hid (new_blk HFR.out HG.out hg1); clear h1 hf1 hg1
        go_wp2_with fail
        refine (bb_string _ _ g1 _ HB1.out).mono ?_
        rintro e w2 ⟨rfl, hf2⟩
        have HF2 := Lib.hid hf2; clear hf2
        go_wp2
        go_ret3
        exact ⟨by simp; try omega, HF1.out.trans HF2.out (fun i hi h => by have := HG1.out i h.symm; omega)⟩
      · have t1 : ((l[k].toNat : Int) != 10) = true := tn_ne (b := 10) h10
        by_cases h92 : l[k] = 92
        · have t2 : ((l[k].toNat : Int) == 92) = true := by rw [h92]; rfl
          by_cases hend : k + 1 < l.length
          · rw [ln_esc hlt h92 hend] at hb
            have t3 : ((k : Int) + 1 == l.length) = false := by simp; omega
            have hbd := toNat_bd l[k + 1]
            have hbk := Lib.hid (toNat_back l[k + 1])
            have HB := Lib.hid hb; clear hb h92 h10
            have hlt' : (k : Int) + 1 < l.length := by omega
            go_wp2_with fail
            refine (bb_writeByte _ out _ g _ hbd HR.out (by omega)).mono ?_
            rintro e w1 ⟨rfl, g1, h1, hf1, hg1⟩
            rw [hbk.out] at h1
            go_wp2
            go_roundg m
            case measure => omega
            case rel => exact ⟨k + 2, _, g1, by go_num, by omega, by omega, len1' hout, h1, keep_new (g' := none) (Nat.le_refl _) HFR.out HG.out hf1, new_blk HFR.out HG.out hg1, HB.out⟩
          · rw [ln_tail hlt h92 (by omega)] at hb
            subst hb
            have t3 : ((k : Int) + 1 == l.length) = true := by simp; omega
            clear h10 h92
            go_wp2
            go_ret3
            exact ⟨by simp, HFR.out⟩
        · have t2 : ((l[k].toNat : Int) == 92) = false := tb_ne h92
          rw [ln_one hlt h10 h92] at hb
          have hbd := toNat_bd l[k]
          have hbk := Lib.hid (toNat_back l[k])
          have HB := Lib.hid hb; clear hb h92 h10
          go_wp2_with fail
          refine (bb_writeByte _ out _ g _ hbd HR.out (by omega)).mono ?_
          rintro e w1 ⟨rfl, g1, h1, hf1, hg1⟩
          rw [hbk.out] at h1
          go_wp2
          go_roundg m
          case measure => omega
          case rel => exact ⟨k + 1, _, g1, by go_num, by omega, by omega, len1 hout, h1, keep_new (g' := none) (Nat.le_refl _) HFR.out HG.out hf1, new_blk HFR.out HG.out hg1, HB.out⟩
    · rw [ln_none (by omega)] at hb
      subst hb
      go_wp2_with fail
      refine (bb_writeByte _ out 10 g _ (by omega) HR.out (by omega)).mono ?_
      rintro e w1 ⟨rfl, g1, h1, hf1, hg1⟩
      have HB1 := Lib.hid h1; have HF1 := Lib.hid (keep_new (g' := none) (Nat.le_refl _) HFR.out HG.out hf1); have HG1 := Lib.hid (new_blk HFR.out HG.out hg1); clear h1 hf1 hg1
      go_wp2_with fail
      refine (bb_string _ _ g1 _ HB1.out).mono ?_
      rintro e w2 ⟨rfl, hf2⟩
      have HF2 := Lib.hid hf2; clear hf2
      go_wp2
      go_ret3
      exact ⟨by simp; try omega, HF1.out.trans HF2.out (fun i hi h => by have := HG1.out i h.symm; omega)⟩

end Go.Proofs.YthdcpjmjdbldiaaDoor
