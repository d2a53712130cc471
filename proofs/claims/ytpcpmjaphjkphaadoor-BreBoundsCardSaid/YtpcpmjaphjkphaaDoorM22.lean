/-
  Merged texts of this claim: BreT, BreU.
-/
import Derived.Test.YtpcpmjaphjkphaaDoorM03
import Derived.Test.YtpcpmjaphjkphaaDoorM09
import Derived.Test.YtpcpmjaphjkphaaDoorM10
import Derived.Test.YtpcpmjaphjkphaaDoorM18

/-
  Chapter 4: Quoted; digits.
-/
namespace Go.Proofs.YtpcpmjaphjkphaaDoor
open Go.RowKit

theorem hasR_lit4 (s : S4) (d : Nat) (w : World) (hs : s.fit) (hd : d < 256) : Calls Tryd.prog 32 #[setV s, .int .u8 d] w fun e w' => e = .returned (.bool (s.has d)) ∧ Fr nob w w' := hasR_any s d w hs hd
/-- How Quoted tells a byte. -/
def quo (ere : Bool) (b : UInt8) : List UInt8 :=
  if b = 10 then [92, 110]
  else if ere = false ∧ (b = 40 ∨ b = 41 ∨ b = 123 ∨ b = 124 ∨ b = 43 ∨ b = 63) then [b]
  else if punctS.has b.toNat then [92, b] else [b]
theorem quo_bre (b : UInt8) : quo false b = quoB b := by unfold quo quoB; simp
def quoT (ere : Bool) (l : List UInt8) : List UInt8 := telT (l.map fun b => (b, quo ere b))
theorem telT_append (a b : List (UInt8 × List UInt8)) : telT (a ++ b) = telT a ++ telT b := by
  induction a with
  | nil => rfl
  | cons x r ih => show x.2 ++ telT (r ++ b) = _; rw [ih, ← List.append_assoc]; rfl
theorem quoT_take {ere : Bool} {l : List UInt8} {k : Nat} (h : k < l.length) : quoT ere (l.take (k + 1)) = quoT ere (l.take k) ++ quo ere l[k] := by
  unfold quoT
  rw [List.take_succ_eq_append_getElem h, List.map_append, telT_append]
  simp [telT]
theorem quo_le (ere : Bool) (b : UInt8) : (quo ere b).length ≤ 2 := by
  unfold quo
  split
  · exact Nat.le_refl _
  · split
    · simp
    · split <;> simp
theorem quoT_le (ere : Bool) (l : List UInt8) : (quoT ere l).length ≤ 2 * l.length := by
  induction l with
  | nil => simp [quoT, telT]
  | cons b r ih =>
    have h1 : quoT ere (b :: r) = quo ere b ++ quoT ere r := rfl
    have := quo_le ere b
    rw [h1, List.length_append, List.length_cons]; omega

set_option maxRecDepth 100000 in
set_option maxHeartbeats 2000000 in
theorem quoted_any (ere : Bool) (l : List UInt8) (u : Value) (w : World) (hl : l.length ≤ 100000) (hu : SB w l u) :
    Calls Tryd.prog 20 #[u, .bool ere] w fun e w' => e = .returned (.string ⟨(quoT ere l).toArray⟩) ∧ Fr nob w w' := by
  obtain ⟨ua, uc, hus⟩ := hu.shape
  have HU := Lib.hid hu; clear hu
  subst hus
  have hcv := run_conv_one (P := Tryd.prog) Tryd.underlying56 Tryd.underlying5 Tryd.underlying9
  have hcv2 := run_conv_two (P := Tryd.prog) Tryd.underlying56 Tryd.underlying5 Tryd.underlying9 92
  rw [show ((UInt8.toNat 92 : Nat) : Int) = 92 from rfl] at hcv2
  have hc := classR_lit ⟨#[112, 117, 110, 99, 116]⟩ _ rfl w
  rw [show clsSet (clsOf ⟨#[112, 117, 110, 99, 116]⟩) = punctS from rfl] at hc
  have hfit : punctS.fit := fit_clsSet _
  have hh := fun (b : UInt8) w => hasR_lit4 punctS b.toNat w hfit b.toNat_lt
  have hq : ∀ b, quo ere b = (if b = 10 then [92, 110] else if ere = false ∧ (b = 40 ∨ b = 41 ∨ b = 123 ∨ b = 124 ∨ b = 43 ∨ b = 63) then [b] else if punctS.has b.toNat then [92, b] else [b]) := fun b => rfl
  obtain ⟨S, hS⟩ : ∃ S, punctS = S := ⟨_, rfl⟩
  rw [hS] at hc hh
  simp only [hS] at hq
  have HC := Lib.hid hc; have HH := Lib.hid hh; have HQ := Lib.hid hq
  clear hc hh hfit hS hq
  go_enter Tryd.func20, Tryd.ntmps20
  go_wp2_with fail
  refine HC.out.mono ?_
  rintro e w2 ⟨rfl, f2⟩
  have hb0 := heap_alloc_new w2 (.cells #[.int .u64 S.a, .int .u64 S.b, .int .u64 S.c, .int .u64 S.d] 48)
  have F2 := Lib.hid (f2.alloc (.cells #[.int .u64 S.a, .int .u64 S.b, .int .u64 S.c, .int .u64 S.d] 48))
  have HB0 := Lib.hid hb0
  clear f2 hb0
  go_wp2_with fail
  go_loopw [7, 16] (fun v i wr => ∃ k : Nat, i = .int .i64 k ∧ k ≤ l.length ∧ v = .string ⟨(quoT ere (l.take k)).toArray⟩ ∧ wr.heap[w2.heap.size]? = some (.cells #[.int .u64 S.a, .int .u64 S.b, .int .u64 S.c, .int .u64 S.d] 48 (0, 0)) ∧ Fr nob w wr) (fun _ i _ => l.length - (intOf i).toNat)
  case atStart => exact ⟨0, rfl, Nat.zero_le _, rfl, HB0.out, F2.out⟩
  case round =>
    obtain ⟨k, rfl, hk, rfl, hb, fr⟩ := hrel
    have HB := Lib.hid hb; have HFR := Lib.hid fr
    clear hb fr
    by_cases hlt : k < l.length
    · obtain ⟨q, off, cap, he, hc⟩ := HU.out.get HFR.out hlt
      injection he with e1 e2 e3
      subst e1; subst e3
      have HT := Lib.hid (quoT_take (ere := ere) hlt)
      obtain ⟨x, hx⟩ : ∃ x, l[k] = x := ⟨_, rfl⟩
      rw [hx] at hc HT
      rw [HQ.out x] at HT
      have hle : (quoT ere (l.take k)).length ≤ 200000 := by have := quoT_le ere (l.take k); rw [List.length_take] at this; omega
      obtain ⟨out, ho⟩ : ∃ out, quoT ere (l.take k) = out := ⟨_, rfl⟩
      rw [ho] at HT hle ⊢
      have rr := rule4 HB.out
      clear e2 hx ho
      by_cases h10 : x = 10
      · have t1 : ((x.toNat : Int) == 10) = true := tb_eq (b := 10) h10
        rw [if_pos h10] at HT
        clear h10 rr
        go_wp2
        go_roundw
        case rel => exact ⟨k + 1, by go_num, by omega, by rw [HT.out], HB.out, HFR.out⟩
        case measure => simp [intOf]; omega
      · have t1 : ((x.toNat : Int) == 10) = false := tb_ne (b := 10) h10
        rw [if_neg h10] at HT
        by_cases hs : ere = false ∧ (x = 40 ∨ x = 41 ∨ x = 123 ∨ x = 124 ∨ x = 43 ∨ x = 63)
        · rw [if_pos hs] at HT
          obtain ⟨rfl, hs⟩ := hs
          rcases hs with rfl | rfl | rfl | rfl | rfl | rfl
          · have hcx := hcv 40
            rw [show ((UInt8.toNat 40 : Nat) : Int) = 40 from rfl] at hcx
            clear hcv hcv2 rr h10 t1
            go_wp2
            go_roundw
            case rel => exact ⟨k + 1, by go_num, by omega, by rw [HT.out], heap_alloc_lt _ HB.out, HFR.out.alloc _⟩
            case measure => simp [intOf]; omega
          · have hcx := hcv 41
            rw [show ((UInt8.toNat 41 : Nat) : Int) = 41 from rfl] at hcx
            clear hcv hcv2 rr h10 t1
            go_wp2
            go_roundw
            case rel => exact ⟨k + 1, by go_num, by omega, by rw [HT.out], heap_alloc_lt _ HB.out, HFR.out.alloc _⟩
            case measure => simp [intOf]; omega
          · have hcx := hcv 123
            rw [show ((UInt8.toNat 123 : Nat) : Int) = 123 from rfl] at hcx
            clear hcv hcv2 rr h10 t1
            go_wp2
            go_roundw
            case rel => exact ⟨k + 1, by go_num, by omega, by rw [HT.out], heap_alloc_lt _ HB.out, HFR.out.alloc _⟩
            case measure => simp [intOf]; omega
          · have hcx := hcv 124
            rw [show ((UInt8.toNat 124 : Nat) : Int) = 124 from rfl] at hcx
            clear hcv hcv2 rr h10 t1
            go_wp2
            go_roundw
            case rel => exact ⟨k + 1, by go_num, by omega, by rw [HT.out], heap_alloc_lt _ HB.out, HFR.out.alloc _⟩
            case measure => simp [intOf]; omega
          · have hcx := hcv 43
            rw [show ((UInt8.toNat 43 : Nat) : Int) = 43 from rfl] at hcx
            clear hcv hcv2 rr h10 t1
            go_wp2
            go_roundw
            case rel => exact ⟨k + 1, by go_num, by omega, by rw [HT.out], heap_alloc_lt _ HB.out, HFR.out.alloc _⟩
            case measure => simp [intOf]; omega
          · have hcx := hcv 63
            rw [show ((UInt8.toNat 63 : Nat) : Int) = 63 from rfl] at hcx
            clear hcv hcv2 rr h10 t1
            go_wp2
            go_roundw
            case rel => exact ⟨k + 1, by go_num, by omega, by rw [HT.out], heap_alloc_lt _ HB.out, HFR.out.alloc _⟩
            case measure => simp [intOf]; omega
        · rw [if_neg hs] at HT
          have hx2 := HH.out x wr
          obtain ⟨r, hr⟩ : ∃ r, S.has x.toNat = r := ⟨_, rfl⟩
          rw [hr] at HT hx2
          have HX := Lib.hid hx2
          have hcx := hcv x; have hcx2 := hcv2 x
          clear hx2 hr hcv hcv2 h10
          have hsp : ere = true ∨ (ere = false ∧ x ≠ 40 ∧ x ≠ 41 ∧ x ≠ 123 ∧ x ≠ 124 ∧ x ≠ 43 ∧ x ≠ 63) := by
            cases ere with
            | true => exact .inl rfl
            | false => simp only [true_and, not_or] at hs; exact .inr ⟨rfl, hs.1, hs.2.1, hs.2.2.1, hs.2.2.2.1, hs.2.2.2.2.1, hs.2.2.2.2.2⟩
          clear hs
          have key : ∃ b2 b3 b4 b5 b6 b7 : Bool, ((x.toNat : Int) == 40) = b2 ∧ ((x.toNat : Int) == 41) = b3 ∧ ((x.toNat : Int) == 123) = b4 ∧ ((x.toNat : Int) == 124) = b5 ∧ ((x.toNat : Int) == 43) = b6 ∧ ((x.toNat : Int) == 63) = b7 ∧ (ere = false → b2 = false ∧ b3 = false ∧ b4 = false ∧ b5 = false ∧ b6 = false ∧ b7 = false) := by
            refine ⟨_, _, _, _, _, _, rfl, rfl, rfl, rfl, rfl, rfl, fun he => ?_⟩
            rcases hsp with h | ⟨_, h1, h2, h3, h4, h5, h6⟩
            · rw [h] at he; cases he
            · exact ⟨tb_ne (b := 40) h1, tb_ne (b := 41) h2, tb_ne (b := 123) h3, tb_ne (b := 124) h4, tb_ne (b := 43) h5, tb_ne (b := 63) h6⟩
          obtain ⟨b2, b3, b4, b5, b6, b7, t2, t3, t4, t5, t6, t7, hk0⟩ := key
          clear hsp
          cases ere
          case' false => obtain ⟨rfl, rfl, rfl, rfl, rfl, rfl⟩ := hk0 rfl
          all_goals
            clear hk0
            cases r
            all_goals
              go_wp2_with fail
              refine HX.out.mono ?_
              rintro e w3 ⟨rfl, f3⟩
              have F3 := Lib.hid f3; clear f3 rr
              go_wp2
              go_roundw
              case rel => exact ⟨k + 1, by go_num, by omega, by rw [HT.out]; rfl, heap_alloc_lt _ (F3.out.heap HB.out (fun x => x)), (HFR.out.trans' F3.out).alloc _⟩
              case measure => simp [intOf]; omega
    · obtain rfl : k = l.length := by omega
      have hT := List.take_of_length_le (l := l) (Nat.le_refl _)
      rw [hT]
      go_wp2
      go_ret
      exact ⟨rfl, HFR.out⟩
end Go.Proofs.YtpcpmjaphjkphaaDoor

/-
  Chapter 4: digits; an interval in a text.
-/
namespace Go.Proofs.YtpcpmjaphjkphaaDoor
open Go.RowKit

def dig (d : Nat) : UInt8 := UInt8.ofNat (48 + d)
theorem dig_nat {d : Nat} (h : d < 10) : (dig d).toNat = 48 + d := by unfold dig; rw [UInt8.toNat_ofNat']; omega
/-- A number's digits. -/
def dgF : Nat → Nat → List UInt8
  | 0, _ => []
  | f + 1, n => if n < 10 then [dig n] else dgF f (n / 10) ++ [dig (n % 10)]
theorem dgF_more : ∀ (f g n : Nat), n < 10 ^ f → n < 10 ^ g → 1 ≤ f → 1 ≤ g → dgF f n = dgF g n
  | 0, _, _, _, _, h, _ => by omega
  | _, 0, _, _, _, _, h => by omega
  | f + 1, g + 1, n, h1, h2, _, _ => by
    rw [dgF, dgF]
    split
    · rfl
    · next hn =>
      have hf : 1 ≤ f := by cases f with | zero => simp at h1; omega | succ f => omega
      have hg : 1 ≤ g := by cases g with | zero => simp at h2; omega | succ g => omega
      rw [dgF_more f g (n / 10) (by rw [Nat.pow_succ] at h1; omega) (by rw [Nat.pow_succ] at h2; omega) hf hg]
def dg (n : Nat) : List UInt8 := dgF 5 n
theorem dg_one {n : Nat} (h : n < 10) : dg n = [dig n] := by unfold dg; rw [dgF, if_pos h]
theorem dg_more {n : Nat} (h : ¬ n < 10) (h2 : n < 100000) : dg n = dg (n / 10) ++ [dig (n % 10)] := by
  unfold dg
  rw [show dgF 5 n = if n < 10 then [dig n] else dgF 4 (n / 10) ++ [dig (n % 10)] from rfl, if_neg h]
  rw [dgF_more 4 5 (n / 10) (by omega) (by omega) (by omega) (by omega)]
theorem dg_two {n : Nat} (h1 : 10 ≤ n) (h2 : n < 100) : dg n = [dig (n / 10), dig (n % 10)] := by
  rw [dg_more (by omega) (by omega), dg_one (by omega)]; rfl
theorem dg_three {n : Nat} (h1 : 100 ≤ n) (h2 : n < 1000) : dg n = [dig (n / 10 / 10), dig (n / 10 % 10), dig (n % 10)] := by
  rw [dg_more (by omega) (by omega), dg_two (by omega) (by omega)]; rfl
theorem dg_four {n : Nat} (h1 : 1000 ≤ n) (h2 : n < 10000) : dg n = [dig (n / 10 / 10 / 10), dig (n / 10 / 10 % 10), dig (n / 10 % 10), dig (n % 10)] := by
  rw [dg_more (by omega) (by omega), dg_three (by omega) (by omega)]; rfl
theorem dg_five {n : Nat} (h1 : 10000 ≤ n) (h2 : n < 100000) : dg n = [dig (n / 10 / 10 / 10 / 10), dig (n / 10 / 10 / 10 % 10), dig (n / 10 / 10 % 10), dig (n / 10 % 10), dig (n % 10)] := by
  rw [dg_more (by omega) (by omega), dg_four (by omega) (by omega)]; rfl
theorem dg_len {n : Nat} (h : n < 100000) : 1 ≤ (dg n).length ∧ (dg n).length ≤ 5 := by
  by_cases h1 : n < 10
  · rw [dg_one h1]; simp
  · by_cases h2 : n < 100
    · rw [dg_two (by omega) h2]; simp
    · by_cases h3 : n < 1000
      · rw [dg_three (by omega) h3]; simp
      · by_cases h4 : n < 10000
        · rw [dg_four (by omega) h4]; simp
        · rw [dg_five (by omega) h]; simp

set_option maxRecDepth 100000 in
theorem digits_any (m : Nat) : ∀ (n : Nat) (w : World), n ≤ m → n < 100000 → Calls Tryd.prog 8 #[.int .i64 n] w fun e w' => e = .returned (.string ⟨(dg n).toArray⟩) ∧ w = w' := by
  induction m with
  | zero =>
    intro n w h h2
    obtain rfl : n = 0 := by omega
    go_enter Tryd.func8, Tryd.ntmps8
    go_wp2
    go_ret
    exact ⟨rfl, rfl⟩
  | succ m ih =>
    intro n w h h2
    by_cases h10 : n < 10
    · have h10' : (n : Int) < 10 := by omega
      have hn1 : (n : Int) + 1 ≤ 10 := by omega
      have hsl := run_slice_bs (P := Tryd.prog) [48, 49, 50, 51, 52, 53, 54, 55, 56, 57] (lo := (n : Int)) (hi := (n : Int) + 1) Tryd.underlying9 (by omega) (by omega) (by simp; omega)
      have he : List.take (((n : Int) + 1).toNat - (n : Int).toNat) (List.drop (n : Int).toNat [48, 49, 50, 51, 52, 53, 54, 55, 56, 57]) = dg n := by
        rw [dg_one h10, show (n : Int).toNat = n from by omega, show ((n : Int) + 1).toNat - n = 1 from by omega]
        match n, h10 with
        | 0, _ | 1, _ | 2, _ | 3, _ | 4, _ | 5, _ | 6, _ | 7, _ | 8, _ | 9, _ => rfl
      rw [he] at hsl
      have HI := Lib.hid ih; clear ih he
      go_enter Tryd.func8, Tryd.ntmps8
      go_wp2
      go_ret
      exact ⟨rfl, rfl⟩
    · have h10' : ¬ (n : Int) < 10 := by omega
      have hd : (n : Int).tdiv 10 = ((n / 10 : Nat) : Int) := by rw [Int.tdiv_eq_ediv_of_nonneg (by omega)]; rfl
      have hm : (n : Int).tmod 10 = ((n % 10 : Nat) : Int) := by rw [Int.tmod_eq_emod_of_nonneg (by omega)]; rfl
      have i1 := Lib.hid (ih (n / 10) w (by omega) (by omega))
      have i2 := Lib.hid (ih (n % 10) w (by omega) (by omega))
      have hdg := Lib.hid (dg_more h10 h2)
      have l1 := (dg_len (n := n / 10) (by omega)).2
      have l2 := (dg_len (n := n % 10) (by omega)).2
      have hone := Lib.hid (dg_one (n := n % 10) (by omega))
      clear ih
      go_enter Tryd.func8, Tryd.ntmps8
      go_wp2_with fail
      first | rw [hd] | skip
      refine i1.out.mono ?_
      rintro e w1 ⟨rfl, rfl⟩
      go_wp2_with fail
      first | rw [hm] | skip
      refine i2.out.mono ?_
      rintro e w1 ⟨rfl, rfl⟩
      go_wp2
      go_ret
      exact ⟨(show Ending.returned (.string ⟨(dg (n / 10) ++ dg (n % 10)).toArray⟩) = _ from by rw [hdg.out, ← hone.out]), rfl⟩

/-! ### Reading digits -/
theorem num3_dig {d c n : Nat} {r : List UInt8} (hd : d < 10) : num3 (dig d :: r) c n = if c ≠ 3 then num3 r (c + 1) (n * 10 + d) else (n, c) := by
  rw [num3, dig_nat hd]
  by_cases hc : c = 3
  · rw [if_neg (fun h => h.2.2 hc), if_neg (by simpa using hc)]
  · rw [if_pos ⟨by omega, by omega, hc⟩, if_pos hc]; congr 1; omega
def noDig (r : List UInt8) : Prop := ∀ c n, num3 r c n = (n, c)
theorem noDig_44 (r : List UInt8) : noDig (44 :: r) := fun c n => by rw [num3, if_neg (fun h => by have := h.1; simp at this)]
theorem noDig_92 (r : List UInt8) : noDig (92 :: r) := fun c n => by rw [num3, if_neg (fun h => by have := h.2.1; simp at this)]
theorem num3_dg {n : Nat} (h : n < 1000) {r : List UInt8} (hr : noDig r) : num3 (dg n ++ r) 0 0 = (n, (dg n).length) := by
  by_cases h1 : n < 10
  · rw [dg_one h1]
    simp only [List.cons_append, List.nil_append]
    rw [num3_dig h1, if_pos (by decide), hr]; simp
  · by_cases h2 : n < 100
    · rw [dg_two (by omega) h2]
      simp only [List.cons_append, List.nil_append]
      rw [num3_dig (by omega), if_pos (by decide), num3_dig (by omega), if_pos (by decide), hr]; simp; omega
    · rw [dg_three (by omega) h]
      simp only [List.cons_append, List.nil_append]
      rw [num3_dig (by omega), if_pos (by decide), num3_dig (by omega), if_pos (by decide), num3_dig (by omega), if_pos (by decide), hr]; simp; omega
theorem num3_big {n : Nat} (h : 1000 ≤ n) (h2 : n < 100000) (r : List UInt8) : ∃ x d q, num3 (dg n ++ r) 0 0 = (x, 3) ∧ (dg n ++ r).drop 3 = dig d :: q ∧ d < 10 := by
  by_cases h4 : n < 10000
  · rw [dg_four h h4]
    simp only [List.cons_append, List.nil_append]
    rw [num3_dig (by omega), if_pos (by decide), num3_dig (by omega), if_pos (by decide), num3_dig (by omega), if_pos (by decide), num3_dig (by omega), if_neg (by decide)]
    exact ⟨_, _, _, rfl, rfl, by omega⟩
  · rw [dg_five (by omega) h2]
    simp only [List.cons_append, List.nil_append]
    rw [num3_dig (by omega), if_pos (by decide), num3_dig (by omega), if_pos (by decide), num3_dig (by omega), if_pos (by decide), num3_dig (by omega), if_neg (by decide)]
    exact ⟨_, _, _, rfl, rfl, by omega⟩
theorem dig_ne {d : Nat} (h : d < 10) (x : UInt8) (hx : x.toNat < 48 ∨ 57 < x.toNat) : dig d ≠ x := fun e => by have := dig_nat h; rw [e] at this; omega

/-- What stands behind a\{. -/
def bndT (m n how : Nat) : List UInt8 := dg m ++ ((if how = 1 then [44] else if how = 2 then 44 :: dg n else []) ++ [92, 125])
def mxT (m n how : Nat) : Int := if how = 1 then -1 else if how = 2 then n else m

theorem ahd_dig {l : List UInt8} {k d : Nat} {q : List UInt8} (hd : d < 10) (h : l.drop k = dig d :: q) : ahd l k [44] = false ∧ ahd l k [92, 125] = false := by
  have h1 := dig_ne hd 44 (by decide)
  have h2 := dig_ne hd 92 (by decide)
  unfold ahd
  rw [h]
  simp [List.isPrefixOf, Ne.symm h1, Ne.symm h2]
theorem drop_add {l a b : List UInt8} {k : Nat} (h : l.drop k = a ++ b) : l.drop (k + a.length) = b := by
  rw [← List.drop_drop, h, List.drop_left']; rfl

theorem itvB_bnd {l : List UInt8} {k m n how : Nat} (hk : k ≤ l.length) (hd : l.drop k = bndT m n how) (hm : m < 65536) (hn : n < 65536) :
    itvB l k = if 255 < m ∨ 255 < mxT m n how ∨ (0 ≤ mxT m n how ∧ mxT m n how < m) then none else some ((m : Int), mxT m n how, l.length) := by
  have hlen : l.length = k + (bndT m n how).length := by rw [← hd, List.length_drop]; omega
  by_cases hb : 1000 ≤ m
  · obtain ⟨x, d, q, h1, h2, h3⟩ := num3_big hb (by omega) ((if how = 1 then [44] else if how = 2 then 44 :: dg n else []) ++ [92, 125])
    have hd3 : l.drop (k + 3) = dig d :: q := by rw [← List.drop_drop, hd]; exact h2
    obtain ⟨a1, a2⟩ := ahd_dig h3 hd3
    have E1 : num3 (l.drop k) 0 0 = (x, 3) := by rw [hd]; exact h1
    rw [itvB_one E1 (by decide) a1, if_pos (.inl a2), if_pos (.inl (by omega))]
  · have hl1 := dg_len (n := m) (by omega)
    by_cases hw : how = 1
    · subst hw
      have hd0 : l.drop k = dg m ++ [44, 92, 125] := hd
      have e1 := num3_dg (n := m) (by omega) (noDig_44 [92, 125])
      have d1 := drop_add hd0
      have d2 : l.drop (k + (dg m).length + 1) = [92, 125] := by rw [← List.drop_drop, d1]; rfl
      have E1 : num3 (l.drop k) 0 0 = (m, (dg m).length) := by rw [hd0]; exact e1
      have E2 : num3 (l.drop (k + (dg m).length + 1)) 0 0 = (0, 0) := by rw [d2]; exact noDig_92 [125] 0 0
      rw [itvB_open E1 (by omega) (by unfold ahd; rw [d1]; rfl) E2]
      have ha : ahd l (k + (dg m).length + 1) [92, 125] = true := by unfold ahd; rw [d2]; rfl
      rw [ha]
      have hmx : mxT m n 1 = -1 := rfl
      have hL : (bndT m n 1).length = (dg m).length + 3 := by unfold bndT; simp
      rw [hmx]
      by_cases h255 : 255 < m
      · rw [if_pos (.inr h255), if_pos (.inl h255)]
      · rw [if_neg (by simpa using h255), if_neg (by omega)]
        rw [hlen, hL]; rfl
    · by_cases hw2 : how = 2
      · subst hw2
        have hd0 : l.drop k = dg m ++ (44 :: (dg n ++ [92, 125])) := hd
        have e1 := num3_dg (n := m) (by omega) (noDig_44 (dg n ++ [92, 125]))
        have d1 := drop_add hd0
        have d2 : l.drop (k + (dg m).length + 1) = dg n ++ [92, 125] := by rw [← List.drop_drop, d1]; rfl
        have hmx : mxT m n 2 = n := rfl
        have E1 : num3 (l.drop k) 0 0 = (m, (dg m).length) := by rw [hd0]; exact e1
        rw [hmx]
        by_cases hnb : 1000 ≤ n
        · obtain ⟨x, d, q, h1, h2, h3⟩ := num3_big hnb (by omega) [92, 125]
          have hd3 : l.drop (k + (dg m).length + 1 + 3) = dig d :: q := by rw [← List.drop_drop, d2]; exact h2
          obtain ⟨a1, a2⟩ := ahd_dig h3 hd3
          have E2 : num3 (l.drop (k + (dg m).length + 1)) 0 0 = (x, 3) := by rw [d2]; exact h1
          rw [itvB_two E1 (by omega) (by unfold ahd; rw [d1]; rfl) E2 (by decide), if_pos (.inl a2), if_pos (.inr (.inl (by omega)))]
        · have hl2 := dg_len (n := n) (by omega)
          have d3 := drop_add d2
          have E2 : num3 (l.drop (k + (dg m).length + 1)) 0 0 = (n, (dg n).length) := by rw [d2]; exact num3_dg (by omega) (noDig_92 [125])
          rw [itvB_two E1 (by omega) (by unfold ahd; rw [d1]; rfl) E2 (by omega)]
          have ha : ahd l (k + (dg m).length + 1 + (dg n).length) [92, 125] = true := by unfold ahd; rw [d3]; rfl
          rw [ha]
          have hL : (bndT m n 2).length = (dg m).length + ((dg n).length + 3) := by unfold bndT; simp
          by_cases hx : 255 < m ∨ 255 < n ∨ n < m
          · rw [if_pos (.inr hx), if_pos (by omega)]
          · rw [if_neg (by simpa using hx), if_neg (by omega)]
            rw [hlen, hL]; congr 3; omega
      · have hd0 : l.drop k = dg m ++ [92, 125] := by rw [hd]; unfold bndT; rw [if_neg hw, if_neg hw2]; rfl
        have e1 := num3_dg (n := m) (by omega) (noDig_92 [125])
        have d1 := drop_add hd0
        have hmx : mxT m n how = m := by unfold mxT; rw [if_neg hw, if_neg hw2]
        have E1 : num3 (l.drop k) 0 0 = (m, (dg m).length) := by rw [hd0]; exact e1
        rw [itvB_one E1 (by omega) (by unfold ahd; rw [d1]; rfl), hmx]
        have ha : ahd l (k + (dg m).length) [92, 125] = true := by unfold ahd; rw [d1]; rfl
        rw [ha]
        have hL : (bndT m n how).length = (dg m).length + 2 := by unfold bndT; rw [if_neg hw, if_neg hw2]; simp
        by_cases h255 : 255 < m
        · rw [if_pos (.inr h255), if_pos (.inl h255)]
        · rw [if_neg (by simpa using h255), if_neg (by omega)]
          rw [hlen, hL]; rfl

theorem chLoop_end0 {l : List UInt8} {C : Option (RxS → Out Nd)} {inner : Bool} {n : Nat} {s : RxS} {ts : List Nd} (h : ahd l s.at_ [92, 124] = false) : chLoop prg l C inner (n + 1) s ts = .inr (chosen ts, s) := by
  rw [chLoop, if_neg (by rw [h]; decide)]; rfl
/-- The text a\{..\}. -/
def bndL (m n how : Nat) : List UInt8 := 97 :: 92 :: 123 :: bndT m n how
theorem bndL_len {m n how : Nat} (hm : m < 65536) (hn : n < 65536) : (bndL m n how).length ≤ 20 ∧ 4 ≤ (bndL m n how).length := by
  have h1 := dg_len (n := m) (by omega)
  have h2 := dg_len (n := n) (by omega)
  unfold bndL bndT
  simp only [List.length_cons, List.length_append, List.length_nil]
  split
  · simp; omega
  · split
    · simp; omega
    · simp; omega
theorem bnd_parse (m n how : Nat) (hm : m < 65536) (hn : n < 65536) : parseS prg (bndL m n how) =
    if 255 < m ∨ 255 < mxT m n how ∨ (0 ≤ mxT m n how ∧ mxT m n how < m) then .inl (7, 1) else .inr (.rep (.one (spn 97 97)) m (mxT m n how), ⟨(bndL m n how).length, 0, [], []⟩) := by
  obtain ⟨hL, hL4⟩ := bndL_len (how := how) hm hn
  obtain ⟨l, hl⟩ : ∃ l, bndL m n how = l := ⟨_, rfl⟩
  have hd0 : l = 97 :: 92 :: 123 :: bndT m n how := hl.symm
  have hd1 : l.drop 1 = 92 :: 123 :: bndT m n how := by rw [hd0]; rfl
  have hd3 : l.drop 3 = bndT m n how := by rw [hd0]; rfl
  rw [hl] at hL hL4 ⊢
  have hI := itvB_bnd (k := 3) (by omega) hd3 hm hn
  have ha : 0 < l.length := by omega
  have hg : l[0] = 97 := by simp [hd0]
  have hp : ∀ (x : UInt8) (r : List UInt8), x ≠ 97 → ahd l 0 (x :: r) = false := fun x r hx => by unfold ahd; rw [List.drop_zero, hd0]; simp [List.isPrefixOf, hx]
  have hq : ∀ (x : UInt8), x ≠ 123 → ahd l 1 [92, x] = false := fun x hx => by unfold ahd; rw [hd1]; simp [List.isPrefixOf, hx]
  have hend : ∀ (x : UInt8) (r : List UInt8), ahd l l.length (x :: r) = false := fun x r => by unfold ahd; rw [List.drop_eq_nil_of_le (by omega)]; rfl
  unfold parseS
  rw [if_neg (by omega), chS]
  unfold choiceS branchS
  rw [if_neg (by rw [hp 94 [] (by decide)]; decide)]
  obtain ⟨f, hf⟩ : ∃ f, l.length = f + 1 := ⟨l.length - 1, by omega⟩
  rw [brS_go ha (by rw [hp 92 _ (by decide), hp 92 _ (by decide)]; rfl) (by rw [hp 92 _ (by decide), hp 92 _ (by decide), hp 92 _ (by decide)]; rfl) (by rw [hp 36 _ (by decide)]; rfl)]
  have hat : atomS prg l (some (chS prg l 11)) ⟨0, 0, [], []⟩ (l[0]) = .inr (.one (spn 97 97), ⟨1, 0, [], []⟩) := by rw [hg]; rfl
  have hrn : rndS l (some (chS prg l 11)) ⟨0, 0, [], []⟩ (l[0]) = repS prg l (l.length + 1) ⟨1, 0, [], []⟩ (.one (spn 97 97)) := by unfold rndS; rw [hat]
  rw [hrn]
  have e1 : ahd l 1 [92, 43] = false := hq 43 (by decide)
  have e2 : ahd l 1 [92, 63] = false := hq 63 (by decide)
  have e3 : ahd l 1 [92, 123] = true := by unfold ahd; rw [hd1]; simp [List.isPrefixOf]
  by_cases hbad : 255 < m ∨ 255 < mxT m n how ∨ (0 ≤ mxT m n how ∧ mxT m n how < m)
  · rw [if_pos hbad] at hI
    rw [if_pos hbad, repS_bad (s := ⟨1, 0, [], []⟩) e1 e2 e3 hI]
  · rw [if_neg hbad] at hI
    rw [if_neg hbad, repS_bound (s := ⟨1, 0, [], []⟩) e1 e2 e3 hI, hf]
    rw [hf] at hend
    rw [repS_end (s := RxS.to ⟨1, 0, [], []⟩ (f + 1)) (hend _ _) (hend _ _) (hend _ _) (hend _ _)]
    simp only
    rw [brS_over (s := RxS.to ⟨1, 0, [], []⟩ (f + 1)) (by rw [hf]; exact Nat.le_refl _)]
    simp only
    rw [chLoop_end0 (s := RxS.to ⟨1, 0, [], []⟩ (f + 1)) (hend _ _)]
    rfl
end Go.Proofs.YtpcpmjaphjkphaaDoor
