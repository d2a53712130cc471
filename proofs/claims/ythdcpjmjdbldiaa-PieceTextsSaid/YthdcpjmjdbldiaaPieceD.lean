/-
  Walk of the document's Between: it answers what 'bt' says.
-/
import Derived.Test.YthdcpjmjdbldiaaPieceC
namespace Go.Proofs.Ythdcpjmjdbldiaa
open Go.RowKit

theorem len1 {o : List UInt8} {k : Nat} {a : UInt8} (h : o.length ≤ k) : (o ++ [a]).length ≤ k + 1 := by simp; omega
theorem len1' {o : List UInt8} {k : Nat} {a : UInt8} (h : o.length ≤ k) : (o ++ [a]).length ≤ k + 2 := by simp; omega
theorem len2 {o : List UInt8} {k : Nat} {a b : UInt8} (h : o.length ≤ k) : (o ++ [a, b]).length ≤ k + 2 := by simp; omega
theorem str_app {o : List UInt8} {a b : UInt8} : Value.string ⟨(o ++ [a] ++ [b]).toArray⟩ = Value.string ⟨(o ++ [a, b]).toArray⟩ := by simp
theorem bt_one {l : List UInt8} {d : UInt8} {rx : Bool} {n k : Nat} {out : List UInt8} (h : k < l.length) (e : l[k] ≠ d) (e2 : l[k] ≠ 92) (e3 : ¬ (l[k] = 91 ∧ rx = true)) (e4 : l[k] ≠ 10) :
    bt l d rx (n + 1) k out = bt l d rx n (k + 1) (out ++ [l[k]]) := by
  rw [bt_copy h e e2 (if_neg e3), take_one h]
  have hx : (l[k] == 10) = false := by simpa using e4
  rw [if_pos (by simp [Lib.indexByte, hx])]
theorem bt_nl {l : List UInt8} {d : UInt8} {rx : Bool} {n k : Nat} {out : List UInt8} (h : k < l.length) (e : l[k] ≠ d) (e4 : l[k] = 10) :
    bt l d rx (n + 1) k out = ([], k, 2) := by
  rw [bt_copy h e (by rw [e4]; decide) (if_neg (by rw [e4]; simp)), take_one h, e4]
  simp [Lib.indexByte]

/-- The loop's relation. -/
def RbRel (l : List UInt8) (d : UInt8) (rx : Bool) (F : List UInt8 × Nat × Int) (n : Nat) (at_ out : Value) : Prop :=
  ∃ (k : Nat) (o : List UInt8), l.length < n + k ∧ k ≤ l.length ∧ o.length ≤ k ∧ at_ = .int .i64 k ∧ out = .string ⟨o.toArray⟩ ∧ bt l d rx n k o = F

set_option maxRecDepth 100000 in
set_option maxHeartbeats 2000000 in
theorem refBetween_any (l : List UInt8) (at_ : Nat) (d : UInt8) (rx : Bool) (w : World) (hs : l.length ≤ 100000) (hat : at_ ≤ l.length) :
    Calls Try.prog 9 #[.string ⟨l.toArray⟩, .int .i64 at_, .int .u8 d.toNat, .bool rx] w fun e w' =>
      e = .returned (.tuple #[.string ⟨(bt l d rx (l.length + 1) at_ []).1.toArray⟩, .int .i64 (bt l d rx (l.length + 1) at_ []).2.1, .int .i64 (bt l d rx (l.length + 1) at_ []).2.2]) ∧ w = w' := by
  obtain ⟨F, hF⟩ : ∃ F, bt l d rx (l.length + 1) at_ [] = F := ⟨_, rfl⟩
  rw [hF]
  have HF := Lib.hid hF; clear hF
  have ho : (decide ((at_ : Int) < 0) || decide ((l.length : Int) < at_)) = false := by simp; omega
  have HO := Lib.hid ho; clear ho
  go_enter Try.func9, Try.ntmps9
  go_wp2_with (go_at_call 17; refine (refOver_any _ _ w (by omega)).mono ?_; rw [HO.out]; rintro e w' ⟨rfl, rfl⟩)
  go_loopg [1, 11] (l.length + 1) (fun n a o wr => w = wr ∧ RbRel l d rx F n a o)
  case atStart => exact ⟨rfl, at_, [], by omega, hat, by simp, rfl, rfl, HF.out⟩
  case round =>
    obtain ⟨rfl, k, out, hn, hk, hout, rfl, rfl, hb⟩ := hrel
    obtain ⟨m, rfl⟩ : ∃ m, gk = m + 1 := ⟨gk - 1, by omega⟩
    by_cases hlt : k < l.length
    · by_cases hd : l[k] = d
      · rw [bt_end hlt hd] at hb
        subst hb
        have t1 := tb_eq hd
        clear hd
        go_wp2
        go_ret3
        exact ⟨rfl, rfl⟩
      · have t1 := tb_ne hd
        by_cases h10 : l[k] = 10
        · rw [bt_nl hlt hd h10] at hb
          subst hb
          have t2 : ((l[k].toNat : Int) == 10) = true := by rw [h10]; rfl
          clear hd h10
          go_wp2
          go_ret3
          exact ⟨rfl, rfl⟩
        · have t2 : ((l[k].toNat : Int) == 10) = false := tb_ne h10
          by_cases h92 : l[k] = 92
          · rw [bt_esc hlt hd h92] at hb
            have t3 : ((l[k].toNat : Int) == 92) = true := by rw [h92]; rfl
            clear hd h10 h92
            by_cases hend : k + 1 = l.length
            · have hE : esc l d rx k out = (5, l.length, out) := by unfold esc; rw [List.getElem?_eq_none (by omega)]
              rw [hE] at hb
              simp only at hb
              rw [if_neg (by decide)] at hb
              subst hb
              clear hE
              have t4 : ((k : Int) + 1 == l.length) = true := by simp; omega
              clear hend
              go_wp2
              go_ret3
              exact ⟨rfl, rfl⟩
            · have hlt2 : k + 1 < l.length := by omega
              have hx : l[k + 1]? = some l[k + 1] := List.getElem?_eq_getElem hlt2
              have t4 : ((k : Int) + 1 == l.length) = false := by simp; omega
              have hlt' : (k : Int) + 1 < l.length := by omega
              have hsl := run_slice_one (P := Try.prog) l (k := k + 1) (lo := (k : Int) + 1) (hi := (k : Int) + 2) Try.underlying9 hlt2 (by omega) (by omega)
              by_cases hd : l[k + 1] = d
              · have hE : esc l d rx k out = (0, k + 2, out ++ [l[k + 1]]) := by unfold esc; rw [hx]; simp only [hd, if_true]
                rw [hE] at hb
                simp only at hb
                rw [if_pos trivial] at hb
                have t5 : ((l[k + 1].toNat : Int) != d.toNat) = false := tn_eq hd
                have t6 : ((l[k + 1].toNat : Int) == 10) = false ∨ (((l[k + 1].toNat : Int) == 10) = true ∧ rx = false) ∨ (((l[k + 1].toNat : Int) == 10) = true ∧ rx = true ∧ ((d.toNat : Int) != 10) = false) := by
                  by_cases h1 : l[k + 1] = 10
                  · right
                    have e1 : ((l[k + 1].toNat : Int) == 10) = true := by rw [h1]; rfl
                    cases rx
                    · exact .inl ⟨e1, rfl⟩
                    · exact .inr ⟨e1, rfl, by rw [← hd, h1]; rfl⟩
                  · left; exact tb_ne h1
                clear hd hE hx
                rcases t6 with t6 | ⟨t6, rfl⟩ | ⟨t6, rfl, t7⟩
                all_goals
                  go_wp2
                  go_roundg m
                  case measure => omega
                  case rel => exact ⟨rfl, k + 2, out ++ [l[k + 1]], by omega, by omega, len1' hout, by go_num, rfl, hb⟩
              · have t5 : ((l[k + 1].toNat : Int) != d.toNat) = true := tn_ne hd
                by_cases hn1 : l[k + 1] = 10 ∧ rx = true
                · obtain ⟨h1, rfl⟩ := hn1
                  have hE : esc l d true k out = (2, k + 1, out) := by unfold esc; rw [hx]; simp only [hd, h1, if_false, and_self, if_true]; rw [if_neg (by rw [← h1]; exact hd)]
                  rw [hE] at hb
                  simp only at hb
                  rw [if_neg (by decide)] at hb
                  subst hb
                  have t6 : ((l[k + 1].toNat : Int) == 10) = true := by rw [h1]; rfl
                  have t7 : ((d.toNat : Int) != 10) = true := tn_ne (a := d) (b := 10) (by rw [← h1]; exact fun e => hd e.symm)
                  clear hd hE hx h1
                  go_wp2
                  go_ret3
                  exact ⟨rfl, rfl⟩
                · have hE : esc l d rx k out = (0, k + 2, out ++ [92, l[k + 1]]) := by unfold esc; rw [hx]; simp only [hd, if_false, hn1]
                  rw [hE] at hb
                  simp only at hb
                  rw [if_pos trivial] at hb
                  have t6 : ((l[k + 1].toNat : Int) == 10) = false ∨ (((l[k + 1].toNat : Int) == 10) = true ∧ rx = false) := by
                    by_cases h1 : l[k + 1] = 10
                    · right; exact ⟨by rw [h1]; rfl, by exact rx_no h1 hn1⟩
                    · left; exact tb_ne h1
                  clear hd hE hx hn1
                  rcases t6 with t6 | ⟨t6, rfl⟩
                  all_goals
                    go_wp2
                    go_roundg m
                    case measure => omega
                    case rel => exact ⟨rfl, k + 2, out ++ [92, l[k + 1]], by omega, by omega, len2 hout, by go_num, by first | rfl | exact str_app, hb⟩
          · have t3 : ((l[k].toNat : Int) == 92) = false := tb_ne h92
            by_cases h91 : l[k] = 91 ∧ rx = true
            · obtain ⟨h91, rfl⟩ := h91
              have t4 : ((l[k].toNat : Int) == 91) = true := by rw [h91]; rfl
              obtain ⟨q, hq⟩ : ∃ q, brE l k = k + q := ⟨brE l k - k, by have := @nxt_ge l 93 (adv l 93 (adv l 94 (k + 1))); have h1 := @adv_ge l 93 (adv l 94 (k + 1)); have h2 := @adv_ge l 94 (k + 1); unfold brE; omega⟩
              have hm : (if l[k] = 91 ∧ true = true then brE l k - k else 1) = q := by rw [if_pos ⟨h91, rfl⟩]; omega
              rw [bt_copy hlt hd h92 hm] at hb
              have hle : k + q ≤ l.length := by rw [← hq]; unfold brE; omega
              have hge : 1 ≤ q := by have := @nxt_ge l 93 (adv l 93 (adv l 94 (k + 1))); have h1 := @adv_ge l 93 (adv l 94 (k + 1)); have h2 := @adv_ge l 94 (k + 1); unfold brE at hq; omega
              have hwin := Lib.hid (indexByte_win (c := 10) hle)
              have hsl := run_slice_bs (P := Try.prog) l (lo := k) (hi := (k : Int) + q) Try.underlying9 (by omega) (by omega) (by omega)
              have HQ := Lib.hid hq; clear hq hm hd h10 h92 h91
              have HB := Lib.hid hb; clear hb
              go_wp2_with (go_at_call 18; refine (refBracket_any l k _ (by omega) hlt).mono ?_; rw [HQ.out]; rintro e w' ⟨rfl, rfl⟩)
              go_loop [14] (fun j => ∃ i : Nat, k ≤ i ∧ i ≤ k + q ∧ nxt l 10 i = nxt l 10 k ∧ j = .int .i64 i) (fun j => k + q - (intOf j).toNat)
              case atStart => exact ⟨k, by omega, by omega, rfl, rfl⟩
              case round =>
                obtain ⟨i, hki, hiq, hnx, rfl⟩ := hrel
                have HN := Lib.hid hnx; clear hnx
                by_cases hi : i < k + q
                · have hil : i < l.length := by omega
                  have hi' : (i : Int) < (k : Int) + q := by omega
                  by_cases h10 : l[i] = 10
                  · have t5 : ((l[i].toNat : Int) == 10) = true := by rw [h10]; rfl
                    have hn1 : nxt l 10 i = i := nxt_hit (by rw [List.getElem?_eq_getElem hil, h10])
                    have hb := HB.out
                    rw [hwin.out, ← HN.out, hn1, if_pos hi, if_neg (by omega)] at hb
                    have he : k + ((i : Int) - k).toNat = i := by omega
                    rw [he] at hb
                    subst hb
                    clear h10 he hn1
                    go_wp2
                    go_ret3
                    exact ⟨rfl, rfl⟩
                  · have t5 : ((l[i].toNat : Int) == 10) = false := tb_ne h10
                    have hn1 : nxt l 10 i = nxt l 10 (i + 1) := nxt_miss hil (by rw [List.getElem?_eq_getElem hil]; simpa using h10)
                    have HN1 := Lib.hid hn1; clear hn1 h10
                    go_wp2
                    go_round
                    case rel => exact ⟨i + 1, by omega, by omega, by rw [← HN1.out]; exact HN.out, by go_num⟩
                    case measure => simp [intOf]; omega
                · obtain rfl : i = k + q := by omega
                  have hg := @nxt_ge l 10 (k + q)
                  have hb := HB.out
                  have hneg : Lib.indexByte (List.take q (List.drop k l)) 10 = -1 := by rw [hwin.out, ← HN.out, if_neg (by omega)]
                  rw [hneg, if_pos (by decide)] at hb
                  have hl := List.length_take_le q (l.drop k)
                  have hi' : ¬ ((k : Int) + q) < (k : Int) + q := by omega
                  clear hi hg
                  go_wp2
                  go_roundg m
                  case measure => omega
                  case rel => exact ⟨rfl, k + q, out ++ (l.drop k).take q, by omega, by omega, by rw [List.length_append]; omega, by go_num, rfl, hb⟩
            · rw [bt_one hlt hd h92 h91 h10] at hb
              have t4 : ((l[k].toNat : Int) == 91) = false ∨ (((l[k].toNat : Int) == 91) = true ∧ rx = false) := by
                by_cases h1 : l[k] = 91
                · right; exact ⟨by rw [h1]; rfl, rx_no h1 h91⟩
                · left; exact tb_ne h1
              have hsl := run_slice_one (P := Try.prog) l (k := k) (lo := (k : Int)) (hi := (k : Int) + 1) Try.underlying9 hlt rfl rfl
              clear hd h10 h92 h91
              rcases t4 with t4 | ⟨t4, rfl⟩
              all_goals
                go_wp2
                go_roundg m
                case measure => omega
                case rel => exact ⟨rfl, k + 1, out ++ [l[k]], by omega, by omega, len1 hout, by go_num, rfl, hb⟩
    · rw [bt_none (by omega)] at hb
      subst hb
      go_wp2
      go_ret3
      exact ⟨rfl, rfl⟩

end Go.Proofs.Ythdcpjmjdbldiaa
