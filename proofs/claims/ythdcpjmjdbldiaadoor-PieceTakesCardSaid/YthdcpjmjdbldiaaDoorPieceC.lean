/-
  Walks of piece.Between and of the document's.
-/
import Derived.Test.YthdcpjmjdbldiaaDoorPieceB
import Derived.Deep.RegionWith
import Derived.Deep.LoopGhost
import Derived.Deep.RegionHeld3
namespace Go.Proofs.YthdcpjmjdbldiaaDoor
open Go.RowKit

/-- What stands between delimiters, from a place on: the text, the place, the error's number; 'n': how many steps are allowed. -/
def bt (l : List UInt8) (d : UInt8) (rx : Bool) : Nat → Nat → List UInt8 → List UInt8 × Nat × Int
  | 0, _, _ => ([], 0, 0)
  | n + 1, k, out =>
    match l[k]? with
    | none => ([], l.length, 5)
    | some c =>
      if c = d then (out, k + 1, 0)
      else if c = 92 then (if (esc l d rx k out).1 = 0 then bt l d rx n (esc l d rx k out).2.1 (esc l d rx k out).2.2 else ([], (esc l d rx k out).2.1, (esc l d rx k out).1))
      else
        let m := if c = 91 ∧ rx = true then brE l k - k else 1
        let i := Lib.indexByte ((l.drop k).take m) 10
        if i < 0 then bt l d rx n (k + m) (out ++ (l.drop k).take m) else ([], k + i.toNat, 2)

theorem over_any (l : List UInt8) (at_ : Int) (w : World) (hs : l.length ≤ 1000000) :
    Calls Tryd.prog 16 #[.string ⟨l.toArray⟩, .int .i64 at_] w fun e w' => e = .returned (.bool (decide (at_ < 0) || decide ((l.length : Int) < at_))) ∧ w = w' := by
  go_enter Tryd.func16, Tryd.ntmps16
  go_wp2
  all_goals go_ret
  all_goals simp_all
theorem refOver_any (l : List UInt8) (at_ : Int) (w : World) (hs : l.length ≤ 1000000) :
    Calls Tryd.prog 17 #[.string ⟨l.toArray⟩, .int .i64 at_] w fun e w' => e = .returned (.bool (decide (at_ < 0) || decide ((l.length : Int) < at_))) ∧ w = w' := by
  go_enter Tryd.func17, Tryd.ntmps17
  go_wp2
  all_goals go_ret
  all_goals simp_all

theorem between_over (l : List UInt8) (at_ : Int) (d : Int) (rx : Bool) (w : World) (hs : l.length ≤ 1000000) (h : (decide (at_ < 0) || decide ((l.length : Int) < at_)) = true) :
    Calls Tryd.prog 15 #[.string ⟨l.toArray⟩, .int .i64 at_, .int .u8 d, .bool rx] w fun e w' => e = .returned (.tuple #[.string ⟨#[]⟩, .int .i64 0, .int .i64 1]) ∧ w = w' := by
  have H := Lib.hid h; clear h
  go_enter Tryd.func15, Tryd.ntmps15
  go_wp2_with (go_at_call 16; refine (over_any _ _ w hs).mono ?_; rw [H.out]; rintro e w' ⟨rfl, rfl⟩)
  go_ret3
  exact ⟨rfl, rfl⟩

theorem rdr_new (w : World) (l : List UInt8) (k : Nat) : Rdr w.heap.size l k [] none (w.alloc (.cells #[.string ⟨l.toArray⟩, .int .i64 k, .pointer none, .slice none 0 0] 51)) :=
  ⟨_, ⟨heap_alloc_new w _, by simp, .inl rfl, .slice none 0 0, rfl, World.ownsRow_nil _ _ _ _, rfl, by simp, fun _ => rfl⟩, rfl, rfl, rfl⟩

theorem rdr_string (b : Nat) (s : List UInt8) (at_ : Nat) (out : List UInt8) (g : Option Nat) (w : World) (h : Rdr b s at_ out g w) :
    Calls Tryd.prog 21 #[.pointer (some ⟨b, 2, none⟩)] w fun e w' => e = .returned (.string ⟨out.toArray⟩) ∧ w'.cell? ⟨b, 1, none⟩ = some (.int .i64 at_) ∧ Fr (fun k => some k = g) w w' := by
  obtain ⟨cs, hb, hs, h0, h1⟩ := h
  refine (string_any _ b 2 cs out g w hb).mono ?_
  rintro e w' ⟨rfl, hf⟩
  obtain ⟨hbk, _, _, v, _, _, _, hne, _⟩ := hb
  exact ⟨rfl, cell_at (hf.heap hbk (fun e => hne e.symm)) h1, hf⟩

theorem esc_ok {l : List UInt8} {d : UInt8} {rx : Bool} {k : Nat} {out : List UInt8} (h : (esc l d rx k out).1 = 0) :
    (esc l d rx k out).2.1 = k + 2 ∧ k + 2 ≤ l.length ∧ (esc l d rx k out).2.2.length ≤ out.length + 2 := by
  revert h; unfold esc
  cases hx : l[k + 1]? with
  | none => simp
  | some x =>
    have hlt := (List.getElem?_eq_some_iff.1 hx).1
    simp only
    split
    · intro _; refine ⟨rfl, by omega, by simp⟩
    · split
      · intro h; simp at h
      · intro _; refine ⟨rfl, by omega, by simp⟩

/-- The loop's relation. -/
def BtRel (l : List UInt8) (d : UInt8) (rx : Bool) (F : List UInt8 × Nat × Int) (w : World) (n : Nat) (wr : World) : Prop :=
  ∃ (k : Nat) (out : List UInt8) (g : Option Nat), l.length < n + k ∧ k ≤ l.length ∧ out.length ≤ k ∧ Rdr w.heap.size l k out g wr ∧ Fr nob w wr ∧ (∀ j, g = some j → w.heap.size ≤ j) ∧ bt l d rx n k out = F

theorem bt_none {l : List UInt8} {d : UInt8} {rx : Bool} {n k : Nat} {out : List UInt8} (h : l.length ≤ k) : bt l d rx (n + 1) k out = ([], l.length, 5) := by
  rw [bt, List.getElem?_eq_none h]
theorem bt_end {l : List UInt8} {d : UInt8} {rx : Bool} {n k : Nat} {out : List UInt8} (h : k < l.length) (e : l[k] = d) : bt l d rx (n + 1) k out = (out, k + 1, 0) := by
  rw [bt, List.getElem?_eq_getElem h]; simp [e]
theorem bt_esc {l : List UInt8} {d : UInt8} {rx : Bool} {n k : Nat} {out : List UInt8} (h : k < l.length) (e : l[k] ≠ d) (e2 : l[k] = 92) :
    bt l d rx (n + 1) k out = (if (esc l d rx k out).1 = 0 then bt l d rx n (esc l d rx k out).2.1 (esc l d rx k out).2.2 else ([], (esc l d rx k out).2.1, (esc l d rx k out).1)) := by
  rw [bt, List.getElem?_eq_getElem h]; simp only; rw [if_neg e, if_pos e2]
theorem bt_copy {l : List UInt8} {d : UInt8} {rx : Bool} {n k m : Nat} {out : List UInt8} (h : k < l.length) (e : l[k] ≠ d) (e2 : l[k] ≠ 92) (hm : (if l[k] = 91 ∧ rx = true then brE l k - k else 1) = m) :
    bt l d rx (n + 1) k out = (if Lib.indexByte ((l.drop k).take m) 10 < 0 then bt l d rx n (k + m) (out ++ (l.drop k).take m) else ([], k + (Lib.indexByte ((l.drop k).take m) 10).toNat, 2)) := by
  rw [bt, List.getElem?_eq_getElem h]; simp only; rw [if_neg e, if_neg e2, hm]

set_option maxHeartbeats 2000000 in
theorem between_any (l : List UInt8) (at_ : Nat) (d : UInt8) (rx : Bool) (w : World) (hs : l.length ≤ 100000) (hat : at_ ≤ l.length) :
    Calls Tryd.prog 15 #[.string ⟨l.toArray⟩, .int .i64 at_, .int .u8 d.toNat, .bool rx] w fun e w' =>
      e = .returned (.tuple #[.string ⟨(bt l d rx (l.length + 1) at_ []).1.toArray⟩, .int .i64 (bt l d rx (l.length + 1) at_ []).2.1, .int .i64 (bt l d rx (l.length + 1) at_ []).2.2]) ∧ Fr nob w w' := by
  obtain ⟨F, hF⟩ : ∃ F, bt l d rx (l.length + 1) at_ [] = F := ⟨_, rfl⟩
  rw [hF]
  have HF := Lib.hid hF; clear hF
  have ho : (decide ((at_ : Int) < 0) || decide ((l.length : Int) < at_)) = false := by simp; omega
  have HO := Lib.hid ho; clear ho
  go_enter Tryd.func15, Tryd.ntmps15
  go_wp2_with (go_at_call 16; refine (over_any _ _ w (by omega)).mono ?_; rw [HO.out]; rintro e w' ⟨rfl, rfl⟩)
  go_loopg [12] (l.length + 1) (fun n _ wr => BtRel l d rx F w n wr)
  case atStart => exact ⟨at_, [], none, by omega, hat, Nat.zero_le _, rdr_new _ _ _, (Fr.refl _ _).alloc _, fun _ h => (by cases h), HF.out⟩
  case round =>
    obtain ⟨k, out, g, hn, hk, hout, hr, hfr, hg, hb⟩ := hrel
    obtain ⟨m, rfl⟩ : ∃ m, gk = m + 1 := ⟨gk - 1, by omega⟩
    have c0 := hr.cell0; have c1 := hr.cell1
    have HR := Lib.hid hr; clear hr
    have HFR := Lib.hid hfr; clear hfr
    have HG := Lib.hid hg; clear hg
    by_cases hlt : k < l.length
    · by_cases hd : l[k] = d
      · rw [bt_end hlt hd] at hb
        subst hb
        have t1 := tb_eq hd
        have hw : IntKind.i64.wrap ((k : Int) + 1) = k + 1 := IntWalk.i64_in _ (by omega)
        clear hd
        go_wp2_with fail
        go_region_with (go_at_call 21; refine (rdr_string _ l k out g _ (by exact HR.out)).mono ?_; rintro e w1 ⟨rfl, d1, hf1⟩; have HF1 := Lib.hid hf1; clear hf1)
        all_goals
          go_wp2
          go_ret3
          exact ⟨rfl, HFR.out.drew.trans HF1.out (fun i hi h => by have := HG.out i h.symm; omega)⟩
      · have t1 := tb_ne hd
        by_cases h92 : l[k] = 92
        · rw [bt_esc hlt hd h92] at hb
          have t2 : ((l[k].toNat : Int) == 92) = true := by rw [h92]; rfl
          have HB := Lib.hid hb; clear hb hd h92
          go_wp2_with (go_at_call 24; refine (escape_any _ l k out d rx g _ HR.out (by omega) (by omega) hlt).mono ?_; rintro e w1 ⟨rfl, g1, hr1, hf1, hg1⟩)
          · have hne : ((esc l d rx k out).1 != 0) = true := by assumption
            have hb := HB.out
            rw [if_neg (by simpa using hne)] at hb
            subst hb
            have d1 := hr1.cell1
            have HF1 := Lib.hid hf1; clear hf1
            have HR1 := Lib.hid hr1; clear hr1
            have HG1 := Lib.hid hg1; clear hg1
            go_quiet (fail)
            go_wp2
            go_ret3
            exact ⟨rfl, (HFR.out.trans HF1.out (fun i hi h => by rcases h with h | h; omega; have := HG.out i h.symm; omega)).drewN _⟩
          · have heq : (esc l d rx k out).1 = 0 := by have : ((esc l d rx k out).1 != 0) = false := by assumption
                                                      simpa using this
            obtain ⟨e1, e2, e3⟩ := esc_ok heq
            have hb := HB.out
            rw [if_pos heq] at hb
            have hsz := HFR.out.size
            clear heq
            go_roundg m
            case measure => omega
            case rel => exact ⟨_, _, g1, by omega, by omega, by omega, hr1, HFR.out.trans hf1 (fun i hi h => by rcases h with h | h; omega; have := HG.out i h.symm; omega), fun j hj => by rcases hg1 j hj with h | h; exact HG.out j h.symm; omega, hb⟩
        · have t2 : ((l[k].toNat : Int) == 92) = false := tb_ne h92
          by_cases h91 : l[k] = 91 ∧ rx = true
          · obtain ⟨h91, rfl⟩ := h91
            have t3 : ((l[k].toNat : Int) == 91) = true := by rw [h91]; rfl
            have hm : (if l[k] = 91 ∧ true = true then brE l k - k else 1) = brE (l.drop k) 0 := by rw [if_pos ⟨h91, rfl⟩, ← brE_drop (by omega)]; omega
            rw [bt_copy hlt hd h92 hm] at hb
            have hle : k + brE (l.drop k) 0 ≤ l.length := by rw [brE_drop (by omega)]; unfold brE; omega
            have hge : 1 ≤ brE (l.drop k) 0 := by unfold brE; simp only [List.length_drop]; omega
            have HB := Lib.hid hb; clear hb hm hd h92 h91
            obtain ⟨q, hq⟩ : ∃ q, brE (l.drop k) 0 = q := ⟨_, rfl⟩
            have HQ := Lib.hid hq; clear hq
            rw [HQ.out] at hle hge HB
            by_cases hi : Lib.indexByte ((l.drop k).take q) 10 < 0
            · have hb := HB.out
              rw [if_pos hi] at hb
              have HI := Lib.hid hi; clear hi
              go_wp2_with (go_at_call 25; refine (bracket_any (l.drop k) _ (by simp; omega) (by simp; omega)).mono ?_; rw [HQ.out]; rintro e w' ⟨rfl, rfl⟩)
              go_wp2_with (go_at_call 26; refine (copy_yes _ l k q out g _ (by exact HR.out) (by omega) (by omega) hle HI.out).mono ?_; rintro e w1 ⟨rfl, g1, hr1, hf1, hg1⟩)
              have hsz := HFR.out.size
              have hl := List.length_take_le q (l.drop k)
              go_roundg m
              case measure => omega
              case rel => exact ⟨_, _, g1, by omega, by omega, by rw [List.length_append]; omega, hr1, HFR.out.trans hf1 (fun i hi h => by rcases h with h | h; omega; have := HG.out i h.symm; omega), fun j hj => by rcases hg1 j hj with h | h; exact HG.out j h.symm; omega, hb⟩
            · have hb := HB.out
              rw [if_neg hi] at hb
              obtain ⟨i, hi2⟩ : ∃ i : Nat, Lib.indexByte ((l.drop k).take q) 10 = i := ⟨_, (Int.toNat_of_nonneg (by omega)).symm⟩
              rw [hi2, Int.toNat_natCast] at hb
              subst hb
              have HI := Lib.hid hi2; clear hi hi2
              go_wp2_with (go_at_call 25; refine (bracket_any (l.drop k) _ (by simp; omega) (by simp; omega)).mono ?_; rw [HQ.out]; rintro e w' ⟨rfl, rfl⟩)
              go_wp2_with (go_at_call 26; refine (copy_no _ l k q out g _ (by exact HR.out) (by omega) hle i HI.out).mono ?_; rintro e w1 ⟨rfl, g1, hr1, hf1, hg1⟩)
              have d1 := hr1.cell1
              have HF1 := Lib.hid hf1; clear hf1
              have HR1 := Lib.hid hr1; clear hr1
              have HG1 := Lib.hid hg1; clear hg1
              go_quiet (fail)
              go_wp2
              go_ret3
              exact ⟨rfl, (HFR.out.trans HF1.out (fun i hi h => by rcases h with h | h; omega; have := HG.out i h.symm; omega)).drewN _⟩
          · rw [bt_copy hlt hd h92 (if_neg h91)] at hb
            have t3 : ((l[k].toNat : Int) == 91) = false ∨ (((l[k].toNat : Int) == 91) = true ∧ rx = false) := by
              by_cases h10 : l[k] = 91
              · right; exact ⟨by rw [h10]; rfl, rx_no h10 h91⟩
              · left; exact tb_ne h10
            have HB := Lib.hid hb; clear hb hd h92 h91
            obtain ⟨q, hq⟩ : ∃ q : Nat, q = 1 := ⟨1, rfl⟩
            have hle : k + 1 ≤ l.length := by omega
            rcases t3 with t3 | ⟨t3, rfl⟩
            all_goals
              by_cases hi : Lib.indexByte ((l.drop k).take 1) 10 < 0
              · have hb := HB.out
                rw [if_pos hi] at hb
                have HI := Lib.hid hi; clear hi
                go_wp2_with (go_at_call 26; refine (copy_yes _ l k 1 out g _ (by exact HR.out) (by omega) (by omega) hle HI.out).mono ?_; rintro e w1 ⟨rfl, g1, hr1, hf1, hg1⟩)
                have hsz := HFR.out.size
                have hl := List.length_take_le 1 (l.drop k)
                go_roundg m
                case measure => omega
                case rel => exact ⟨_, _, g1, by omega, by omega, by rw [List.length_append]; omega, hr1, HFR.out.trans hf1 (fun i hi h => by rcases h with h | h; omega; have := HG.out i h.symm; omega), fun j hj => by rcases hg1 j hj with h | h; exact HG.out j h.symm; omega, hb⟩
              · have hb := HB.out
                rw [if_neg hi] at hb
                obtain ⟨i, hi2⟩ : ∃ i : Nat, Lib.indexByte ((l.drop k).take 1) 10 = i := ⟨_, (Int.toNat_of_nonneg (by omega)).symm⟩
                rw [hi2, Int.toNat_natCast] at hb
                subst hb
                have HI := Lib.hid hi2; clear hi hi2
                go_wp2_with (go_at_call 26; refine (copy_no _ l k 1 out g _ (by exact HR.out) (by omega) hle i HI.out).mono ?_; rintro e w1 ⟨rfl, g1, hr1, hf1, hg1⟩)
                have d1 := hr1.cell1
                have HF1 := Lib.hid hf1; clear hf1
                have HR1 := Lib.hid hr1; clear hr1
                have HG1 := Lib.hid hg1; clear hg1
                go_quiet (fail)
                go_wp2
                go_ret3
                exact ⟨rfl, (HFR.out.trans HF1.out (fun i hi h => by rcases h with h | h; omega; have := HG.out i h.symm; omega)).drewN _⟩
    · rw [bt_none (by omega)] at hb
      subst hb
      go_wp2
      go_ret3
      exact ⟨rfl, HFR.out⟩

end Go.Proofs.YthdcpjmjdbldiaaDoor
