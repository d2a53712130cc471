/-
  Walks of the document's Number, Lines, Blanks and Space.
-/
import Derived.Test.YthdcpjmjdbldiaaDoorPieceI
namespace Go.Proofs.YthdcpjmjdbldiaaDoor
open Go.RowKit

set_option maxHeartbeats 1000000 in
theorem number_over (l : List UInt8) (at_ : Int) (w : World) (hs : l.length ≤ 1000000) (h : (decide (at_ < 0) || decide ((l.length : Int) < at_)) = true) :
    Calls Tryd.prog 5 #[.string ⟨l.toArray⟩, .int .i64 at_] w fun e w' => e = .returned (.tuple #[.int .i64 0, .int .i64 0, .int .i64 1]) ∧ w = w' := by
  have H := Lib.hid h; clear h
  go_enter Tryd.func5, Tryd.ntmps5
  go_wp2_with (go_at_call 16; refine (over_any _ _ w hs).mono ?_; rw [H.out]; rintro e w' ⟨rfl, rfl⟩)
  go_ret3
  exact ⟨rfl, rfl⟩
theorem refNumber_over (l : List UInt8) (at_ : Int) (w : World) (hs : l.length ≤ 1000000) (h : (decide (at_ < 0) || decide ((l.length : Int) < at_)) = true) :
    Calls Tryd.prog 6 #[.string ⟨l.toArray⟩, .int .i64 at_] w fun e w' => e = .returned (.tuple #[.int .i64 0, .int .i64 0, .int .i64 1]) ∧ w = w' := by
  have H := Lib.hid h; clear h
  go_enter Tryd.func6, Tryd.ntmps6
  go_wp2_with (go_at_call 17; refine (refOver_any _ _ w hs).mono ?_; rw [H.out]; rintro e w' ⟨rfl, rfl⟩)
  go_ret3
  exact ⟨rfl, rfl⟩
theorem lines_over (l : List UInt8) (at_ : Int) (w : World) (hs : l.length ≤ 1000000) (h : (decide (at_ < 0) || decide ((l.length : Int) < at_)) = true) :
    Calls Tryd.prog 11 #[.string ⟨l.toArray⟩, .int .i64 at_] w fun e w' => e = .returned (.tuple #[.string ⟨#[]⟩, .int .i64 0, .int .i64 1]) ∧ w = w' := by
  have H := Lib.hid h; clear h
  go_enter Tryd.func11, Tryd.ntmps11
  go_wp2_with (go_at_call 16; refine (over_any _ _ w hs).mono ?_; rw [H.out]; rintro e w' ⟨rfl, rfl⟩)
  go_ret3
  exact ⟨rfl, rfl⟩
theorem refLines_over (l : List UInt8) (at_ : Int) (w : World) (hs : l.length ≤ 1000000) (h : (decide (at_ < 0) || decide ((l.length : Int) < at_)) = true) :
    Calls Tryd.prog 12 #[.string ⟨l.toArray⟩, .int .i64 at_] w fun e w' => e = .returned (.tuple #[.string ⟨#[]⟩, .int .i64 0, .int .i64 1]) ∧ w = w' := by
  have H := Lib.hid h; clear h
  go_enter Tryd.func12, Tryd.ntmps12
  go_wp2_with (go_at_call 17; refine (refOver_any _ _ w hs).mono ?_; rw [H.out]; rintro e w' ⟨rfl, rfl⟩)
  go_ret3
  exact ⟨rfl, rfl⟩
theorem name_over (l : List UInt8) (at_ : Int) (label : Bool) (w : World) (hs : l.length ≤ 1000000) (h : (decide (at_ < 0) || decide ((l.length : Int) < at_)) = true) :
    Calls Tryd.prog 13 #[.string ⟨l.toArray⟩, .int .i64 at_, .bool label] w fun e w' => e = .returned (.tuple #[.string ⟨#[]⟩, .int .i64 0, .int .i64 1]) ∧ w = w' := by
  have H := Lib.hid h; clear h
  go_enter Tryd.func13, Tryd.ntmps13
  go_wp2_with (go_at_call 16; refine (over_any _ _ w hs).mono ?_; rw [H.out]; rintro e w' ⟨rfl, rfl⟩)
  go_ret3
  exact ⟨rfl, rfl⟩
theorem refName_over (l : List UInt8) (at_ : Int) (label : Bool) (w : World) (hs : l.length ≤ 1000000) (h : (decide (at_ < 0) || decide ((l.length : Int) < at_)) = true) :
    Calls Tryd.prog 14 #[.string ⟨l.toArray⟩, .int .i64 at_, .bool label] w fun e w' => e = .returned (.tuple #[.string ⟨#[]⟩, .int .i64 0, .int .i64 1]) ∧ w = w' := by
  have H := Lib.hid h; clear h
  go_enter Tryd.func14, Tryd.ntmps14
  go_wp2_with (go_at_call 17; refine (refOver_any _ _ w hs).mono ?_; rw [H.out]; rintro e w' ⟨rfl, rfl⟩)
  go_ret3
  exact ⟨rfl, rfl⟩

set_option maxRecDepth 100000 in
set_option maxHeartbeats 2000000 in
theorem refNumber_any (l : List UInt8) (at_ : Nat) (w : World) (hs : l.length ≤ 100000) (hat : at_ ≤ l.length) :
    Calls Tryd.prog 6 #[.string ⟨l.toArray⟩, .int .i64 at_] w fun e w' =>
      e = .returned (.tuple #[.int .i64 (nm at_ (l.drop at_) 0 0).1, .int .i64 (nm at_ (l.drop at_) 0 0).2.1, .int .i64 (nm at_ (l.drop at_) 0 0).2.2]) ∧ w = w' := by
  obtain ⟨F, hF⟩ : ∃ F, nm at_ (l.drop at_) 0 0 = F := ⟨_, rfl⟩
  rw [hF]
  have HF := Lib.hid hF; clear hF
  have ho : (decide ((at_ : Int) < 0) || decide ((l.length : Int) < at_)) = false := by simp; omega
  have HO := Lib.hid ho; clear ho
  go_enter Tryd.func6, Tryd.ntmps6
  go_wp2_with (go_at_call 17; refine (refOver_any _ _ w (by omega)).mono ?_; rw [HO.out]; rintro e w' ⟨rfl, rfl⟩)
  go_loop [7, 8] (fun n k => ∃ (m c : Nat), n = .int .i64 m ∧ k = .int .i64 ((at_ : Int) + c) ∧ c ≤ 9 ∧ at_ + c ≤ l.length ∧ m < pow10 c ∧ nm at_ (l.drop (at_ + c)) m c = F) (fun _ k => l.length - (intOf k).toNat)
  case atStart => exact ⟨0, 0, rfl, by simp, by omega, by omega, by decide, HF.out⟩
  case round =>
    obtain ⟨m, c, rfl, rfl, hc9, hle, hm, hb⟩ := hrel
    have hp := pow10_le hc9
    by_cases hlt : at_ + c < l.length
    · have hlt' : (at_ : Int) + c < l.length := by omega
      obtain ⟨x, hx⟩ : ∃ x, l[at_ + c] = x := ⟨_, rfl⟩
      by_cases hd : 48 ≤ l[at_ + c].toNat ∧ l[at_ + c].toNat ≤ 57
      · have hd1 := hd.1
        have hd2 := hd.2
        by_cases h9 : c = 9
        · subst h9
          rw [nm_long hlt hd] at hb
          subst hb
          rw [hx] at hd1 hd2
          have t1 : ((at_ : Int) + 9 - at_ == 9) = true := by rw [beq_iff_eq]; omega
          clear hm hd
          go_wp2
          go_ret3
          exact ⟨rfl, rfl⟩
        · rw [nm_more hlt hd h9] at hb
          have t1 : ((c : Int) == 9) = false := by simp; omega
          have hps := pow10_succ c
          have HB := Lib.hid hb; have HP := Lib.hid hps
          rw [hx] at hd1 hd2 HB
          have hw8 : IntKind.u8.wrap ((x.toNat : Int) - 48) = x.toNat - 48 := IntWalk.u8_in _ (by omega)
          have hm2 : m < 1000000000 := by omega
          have hc8 : c ≤ 8 := by omega
          clear hd hb h9 hps
          go_wp2
          go_round
          case rel => exact ⟨m * 10 + (x.toNat - 48), c + 1, by go_num, by go_num, by omega, by omega, by rw [HP.out]; omega, HB.out⟩
          case measure => simp [intOf]; omega
      · rw [nm_no hlt hd] at hb
        rw [hx] at hd
        have hd' : x.toNat < 48 ∨ (48 ≤ x.toNat ∧ 57 < x.toNat) := by omega
        clear hd hm
        by_cases h0 : c = 0
        · subst h0
          rw [if_pos rfl] at hb
          subst hb
          have t1 : ((at_ : Int) + ((0 : Nat) : Int) == at_) = true := by simp
          have hlt0 : at_ < l.length := by omega
          have hx0 : l[at_] = x := by simpa using hx
          rcases hd' with hd' | ⟨hd1, hd2⟩
          all_goals
            go_wp2
            go_ret3
            exact ⟨rfl, rfl⟩
        · rw [if_neg h0] at hb
          subst hb
          have t1 : ((at_ : Int) + c == at_) = false := by simp; omega
          rcases hd' with hd' | ⟨hd1, hd2⟩
          all_goals
            go_wp2
            go_ret3
            exact ⟨by simp, rfl⟩
    · rw [nm_out (by omega)] at hb
      have hlt' : ¬ (at_ : Int) + c < l.length := by omega
      clear hm
      by_cases h0 : c = 0
      · subst h0
        rw [if_pos rfl] at hb
        subst hb
        go_wp2
        go_ret3
        exact ⟨rfl, rfl⟩
      · rw [if_neg h0] at hb
        subst hb
        have t1 : ((at_ : Int) + c == at_) = false := by simp; omega
        go_wp2
        go_ret3
        exact ⟨by simp, rfl⟩

set_option maxRecDepth 100000 in
set_option maxHeartbeats 2000000 in
theorem refLines_any (l : List UInt8) (at_ : Nat) (w : World) (hs : l.length ≤ 100000) (hat : at_ ≤ l.length) :
    Calls Tryd.prog 12 #[.string ⟨l.toArray⟩, .int .i64 at_] w fun e w' =>
      e = .returned (.tuple #[.string ⟨(ln l (l.length + 1) at_ []).1.toArray⟩, .int .i64 (ln l (l.length + 1) at_ []).2.1, .int .i64 (ln l (l.length + 1) at_ []).2.2]) ∧ w = w' := by
  obtain ⟨F, hF⟩ : ∃ F, ln l (l.length + 1) at_ [] = F := ⟨_, rfl⟩
  rw [hF]
  have HF := Lib.hid hF; clear hF
  have ho : (decide ((at_ : Int) < 0) || decide ((l.length : Int) < at_)) = false := by simp; omega
  have HO := Lib.hid ho; clear ho
  go_enter Tryd.func12, Tryd.ntmps12
  go_wp2_with (go_at_call 17; refine (refOver_any _ _ w (by omega)).mono ?_; rw [HO.out]; rintro e w' ⟨rfl, rfl⟩)
  go_loopg [1, 7] (l.length + 1) (fun n a o wr => w = wr ∧ ∃ (k : Nat) (out : List UInt8), a = .int .i64 k ∧ o = .string ⟨out.toArray⟩ ∧ l.length < n + k ∧ k ≤ l.length ∧ out.length ≤ k ∧ ln l n k out = F)
  case atStart => exact ⟨rfl, at_, [], rfl, rfl, by omega, hat, by simp, HF.out⟩
  case round =>
    obtain ⟨rfl, k, out, rfl, rfl, hn, hk, hout, hb⟩ := hrel
    obtain ⟨m, rfl⟩ : ∃ m, gk = m + 1 := ⟨gk - 1, by omega⟩
    by_cases hlt : k < l.length
    · by_cases h10 : l[k] = 10
      · rw [ln_nl hlt h10] at hb
        subst hb
        have t1 : ((l[k].toNat : Int) != 10) = false := tn_eq (b := 10) h10
        clear h10
        go_wp2
        go_ret3
        exact ⟨by simp; try omega, rfl⟩
      · have t1 : ((l[k].toNat : Int) != 10) = true := tn_ne (b := 10) h10
        by_cases h92 : l[k] = 92
        · have t2 : ((l[k].toNat : Int) == 92) = true := by rw [h92]; rfl
          by_cases hend : k + 1 < l.length
          · rw [ln_esc hlt h92 hend] at hb
            have t3 : ((k : Int) + 1 == l.length) = false := by simp; omega
            have hsl := run_slice_one (P := Tryd.prog) l (k := k + 1) (lo := (k : Int) + 1) (hi := (k : Int) + 1 + 1) Tryd.underlying9 hend (by omega) (by omega)
            have hlt' : (k : Int) + 1 < l.length := by omega
            clear h92 h10
            go_wp2
            go_roundg m
            case measure => omega
            case rel => exact ⟨rfl, k + 2, out ++ [l[k + 1]], by go_num, rfl, by omega, by omega, len1' hout, hb⟩
          · rw [ln_tail hlt h92 (by omega)] at hb
            subst hb
            have t3 : ((k : Int) + 1 == l.length) = true := by simp; omega
            clear h92 h10
            go_wp2
            go_ret3
            exact ⟨by simp, rfl⟩
        · have t2 : ((l[k].toNat : Int) == 92) = false := tb_ne h92
          rw [ln_one hlt h10 h92] at hb
          have hsl := run_slice_one (P := Tryd.prog) l (k := k) (lo := (k : Int)) (hi := (k : Int) + 1) Tryd.underlying9 hlt (by omega) (by omega)
          clear h92 h10
          go_wp2
          go_roundg m
          case measure => omega
          case rel => exact ⟨rfl, k + 1, out ++ [l[k]], by go_num, rfl, by omega, by omega, len1 hout, hb⟩
    · rw [ln_none (by omega)] at hb
      subst hb
      go_wp2
      go_ret3
      exact ⟨by simp; try omega, rfl⟩

theorem bhd_yes {l cs : List UInt8} {k : Nat} (h : k < l.length) (e : cs.contains l[k] = true) : bhd l cs k = bhd l cs (k + 1) := by
  unfold bhd
  rw [tl_yes (m := l.drop k) (by rw [List.length_drop]; omega) (by simpa using e), List.drop_drop]
theorem bhd_no {l cs : List UInt8} {k : Nat} (h : k < l.length) (e : cs.contains l[k] = false) : bhd l cs k = k := by
  unfold bhd
  rw [tl_no (m := l.drop k) (by rw [List.length_drop]; omega) (by simpa using e), List.length_drop]; omega
theorem bhd_end {l cs : List UInt8} : bhd l cs l.length = l.length := by
  unfold bhd; rw [List.drop_length]; simp [tl]
theorem contains_take {cs : List UInt8} {i : Nat} (h : i < cs.length) (x : UInt8) : (cs.take (i + 1)).contains x = ((cs.take i).contains x || (cs[i] == x)) := by
  rw [← List.take_append_getElem h, List.contains_append, List.contains_cons, List.contains_nil, Bool.or_false, Bool.beq_comm]

set_option maxRecDepth 100000 in
set_option maxHeartbeats 2000000 in
theorem refBehind_any (l : List UInt8) (at_ : Int) (CS : List UInt8) (w : World) (hs : l.length ≤ 1000000) (hcs : CS.length ≤ 1000) :
    Calls Tryd.prog 19 #[.string ⟨l.toArray⟩, .int .i64 at_, .string ⟨CS.toArray⟩] w fun e w' =>
      e = .returned (.int .i64 (if at_ < 0 ∨ (l.length : Int) < at_ then 0 else (bhd l CS at_.toNat : Nat))) ∧ Fr nob w w' := by
  by_cases ho : at_ < 0 ∨ (l.length : Int) < at_
  · have ho1 : (decide (at_ < 0) || decide ((l.length : Int) < at_)) = true := by simpa using ho
    rw [if_pos ho]
    have HO := Lib.hid ho1; clear ho1 ho
    go_enter Tryd.func19, Tryd.ntmps19
    go_wp2_with (go_at_call 17; refine (refOver_any _ _ w (by omega)).mono ?_; rw [HO.out]; rintro e w' ⟨rfl, rfl⟩)
    go_ret
    exact ⟨rfl, Fr.refl _ _⟩
  · obtain ⟨a, rfl⟩ : ∃ a : Nat, at_ = a := ⟨at_.toNat, by omega⟩
    have ha : a ≤ l.length := by omega
    have ho1 : (decide ((a : Int) < 0) || decide ((l.length : Int) < a)) = false := by simp; omega
    rw [if_neg ho]
    have HO := Lib.hid ho1; clear ho1 ho
    obtain ⟨F, hF⟩ : ∃ F, bhd l CS ((a : Int)).toNat = F := ⟨_, rfl⟩
    rw [hF]
    rw [Int.toNat_natCast] at hF
    have HF := Lib.hid hF; clear hF
    go_enter Tryd.func19, Tryd.ntmps19
    go_wp2_with (go_at_call 17; refine (refOver_any _ _ w (by omega)).mono ?_; rw [HO.out]; rintro e w' ⟨rfl, rfl⟩)
    go_loopw [1] (fun v wr => ∃ k : Nat, v = .int .i64 k ∧ k ≤ l.length ∧ Fr nob w wr ∧ bhd l CS k = F) (fun v _ => l.length - (intOf v).toNat)
    case atStart => exact ⟨a, rfl, ha, Fr.refl _ _, HF.out⟩
    case round =>
      obtain ⟨k, rfl, hk, hf, hb⟩ := hrel
      have HB := Lib.hid hb; have HR := Lib.hid hf; clear hb hf
      by_cases hlt : k < l.length
      · obtain ⟨x, hx⟩ : ∃ x, l[k] = x := ⟨_, rfl⟩
        go_wp2_with fail
        go_loopw [7, 18] (fun f v wr2 => ∃ i : Nat, v = .int .i64 i ∧ i ≤ CS.length ∧ f = .bool ((CS.take i).contains x) ∧ Fr nob w wr2) (fun _ v _ => CS.length - (intOf v).toNat)
        case atStart => exact ⟨0, rfl, Nat.zero_le _, rfl, HR.out⟩
        case round =>
          obtain ⟨i, rfl, hi, rfl, hf2⟩ := hrel
          have HR2 := Lib.hid hf2; clear hf2
          by_cases hil : i < CS.length
          · have hct := contains_take hil x
            have HCT := Lib.hid hct; clear hct
            cases hc : (CS.take i).contains x with
            | true =>
              rw [hc, Bool.true_or] at HCT
              go_wp2_with fail
              refine region_fr 8 (by kernel_rfl) (by kernel_rfl) ?_
              simp only [List.take_succ_cons, List.take_zero, List.drop_succ_cons, List.drop_zero]
              repeat (quiet_step (fail))
              refine wpQuiet_nil ?_
              intro wC fC
              go_wp2
              go_roundw
              case rel => exact ⟨i + 1, by go_num, by omega, by rw [HCT.out], HR2.out.trans' fC⟩
              case measure => simp [intOf]; omega
            | false =>
              rw [hc, Bool.false_or] at HCT
              obtain ⟨y, hy⟩ : ∃ y, CS[i] = y := ⟨_, rfl⟩
              rw [hy] at HCT
              cases hq : y == x with
              | true =>
                rw [hq] at HCT
                have t1 : ((y.toNat : Int) == x.toNat) = true := tb_eq (beq_iff_eq.1 hq)
                clear hq
                go_wp2_with fail
                refine region_fr 8 (by kernel_rfl) (by kernel_rfl) ?_
                simp only [List.take_succ_cons, List.take_zero, List.drop_succ_cons, List.drop_zero]
                repeat (quiet_step (fail))
                refine wpQuiet_nil ?_
                intro wC fC
                go_wp2
                go_roundw
                case rel => exact ⟨i + 1, by go_num, by omega, by rw [HCT.out], HR2.out.trans' fC⟩
                case measure => simp [intOf]; omega
              | false =>
                rw [hq] at HCT
                have t1 : ((y.toNat : Int) == x.toNat) = false := tb_ne (beq_eq_false_iff_ne.1 hq)
                clear hq
                go_wp2_with fail
                refine region_fr 8 (by kernel_rfl) (by kernel_rfl) ?_
                simp only [List.take_succ_cons, List.take_zero, List.drop_succ_cons, List.drop_zero]
                repeat (quiet_step (fail))
                refine wpQuiet_nil ?_
                intro wC fC
                go_wp2
                go_roundw
                case rel => exact ⟨i + 1, by go_num, by omega, by rw [HCT.out], HR2.out.trans' fC⟩
                case measure => simp [intOf]; omega
          · obtain rfl : i = CS.length := by omega
            rw [List.take_length]
            cases hc : CS.contains x with
            | true =>
              have hb := HB.out
              rw [bhd_yes hlt (by rw [hx]; exact hc)] at hb
              have HB2 := Lib.hid hb; clear hb hc
              go_wp2
              go_roundw
              case rel => exact ⟨k + 1, by go_num, by omega, HR2.out, HB2.out⟩
              case measure => simp [intOf]; omega
            | false =>
              have hb := HB.out
              rw [bhd_no hlt (by rw [hx]; exact hc)] at hb
              subst hb
              clear hc
              go_wp2
              go_ret
              exact ⟨rfl, HR2.out⟩
      · obtain rfl : k = l.length := by omega
        go_wp2
        go_ret
        exact ⟨ret_int (by rw [← HB.out, bhd_end]), HR.out⟩
end Go.Proofs.YthdcpjmjdbldiaaDoor
