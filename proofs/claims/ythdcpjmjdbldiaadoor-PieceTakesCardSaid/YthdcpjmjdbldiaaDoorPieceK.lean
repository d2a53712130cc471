/-
  Walk of the document's Name.
-/
import Derived.Test.YthdcpjmjdbldiaaDoorPieceJ
namespace Go.Proofs.YthdcpjmjdbldiaaDoor
open Go.RowKit

theorem refBlanks_any (l : List UInt8) (at_ : Int) (w : World) (hs : l.length ≤ 1000000) :
    Calls Tryd.prog 8 #[.string ⟨l.toArray⟩, .int .i64 at_] w fun e w' =>
      e = .returned (.int .i64 (if at_ < 0 ∨ (l.length : Int) < at_ then 0 else (bhd l [32, 9] at_.toNat : Nat))) ∧ Fr nob w w' := by
  go_enter Tryd.func8, Tryd.ntmps8
  go_wp2_with (go_at_call 19; refine (refBehind_any l at_ [32, 9] w hs (by decide)).mono ?_; rintro e w' ⟨rfl, hf⟩)
  all_goals
    go_ret
    exact ⟨rfl, hf⟩

theorem refSpace_any (l : List UInt8) (at_ : Int) (w : World) (hs : l.length ≤ 1000000) :
    Calls Tryd.prog 10 #[.string ⟨l.toArray⟩, .int .i64 at_] w fun e w' =>
      e = .returned (.int .i64 (if at_ < 0 ∨ (l.length : Int) < at_ then 0 else (bhd l [32, 9, 10, 59] at_.toNat : Nat))) ∧ Fr nob w w' := by
  go_enter Tryd.func10, Tryd.ntmps10
  go_wp2_with (go_at_call 19; refine (refBehind_any l at_ [32, 9, 10, 59] w hs (by decide)).mono ?_; rintro e w' ⟨rfl, hf⟩)
  all_goals
    go_ret
    exact ⟨rfl, hf⟩

/-- The place of a name's end, seen from a place. -/
def eo (l : List UInt8) (label : Bool) (e : Nat) : Nat := e + (upTo (l.drop e) label).length
theorem eo_next {l : List UInt8} {label : Bool} {e : Nat} (h : e < l.length) (hc : (ends label).contains l[e] = false) : eo l label e = eo l label (e + 1) := by
  unfold eo upTo
  rw [List.drop_eq_getElem_cons h, List.takeWhile_cons, hc]
  simp only [Bool.not_false, if_true, List.length_cons]; omega
theorem eo_stop {l : List UInt8} {label : Bool} {e : Nat} (h : e < l.length) (hc : (ends label).contains l[e] = true) : eo l label e = e := by
  unfold eo upTo
  rw [List.drop_eq_getElem_cons h, List.takeWhile_cons, hc]
  rfl
theorem eo_end {l : List UInt8} {label : Bool} : eo l label l.length = l.length := by
  unfold eo upTo
  rw [List.drop_length]; rfl

theorem tl_take (cs : List UInt8) : ∀ (m : List UInt8) (n : Nat), tl (m.take n) cs = (m.drop (m.length - (tl m cs).length)).take (n - (m.length - (tl m cs).length))
  | [], n => by simp [tl]
  | x :: r, 0 => by simp [tl]
  | x :: r, n + 1 => by
    have ih := tl_take cs r n
    have hl := tl_le r cs
    cases h : cs.contains x with
    | true =>
      have e1 : tl (x :: r) cs = tl r cs := by unfold tl; rw [List.dropWhile_cons, if_pos h]
      have e2 : tl ((x :: r).take (n + 1)) cs = tl (r.take n) cs := by unfold tl; rw [List.take_succ_cons, List.dropWhile_cons, if_pos h]
      rw [e1, e2, ih]
      have e3 : (x :: r).length - (tl r cs).length = (r.length - (tl r cs).length) + 1 := by rw [List.length_cons]; omega
      rw [e3, List.drop_succ_cons]
      congr 1; omega
    | false =>
      have hn : ¬ (cs.contains x = true) := by rw [h]; decide
      have e1 : tl (x :: r) cs = x :: r := by unfold tl; rw [List.dropWhile_cons, if_neg hn]
      have e2 : tl ((x :: r).take (n + 1)) cs = (x :: r).take (n + 1) := by unfold tl; rw [List.take_succ_cons, List.dropWhile_cons, if_neg hn]
      rw [e1, e2, Nat.sub_self]
      simp

theorem tr_snoc (m cs : List UInt8) (y : UInt8) : tr (m ++ [y]) cs = if cs.contains y then tr m cs else m ++ [y] := by
  unfold tr
  rw [List.reverse_append, List.reverse_singleton, List.singleton_append, List.dropWhile_cons]
  split
  · rfl
  · rw [List.reverse_cons, List.reverse_reverse]
theorem tl_snoc (m cs : List UInt8) (y : UInt8) : tl (m ++ [y]) cs = if (tl m cs).isEmpty then tl [y] cs else tl m cs ++ [y] := by
  unfold tl
  rw [List.dropWhile_append]

theorem tr_tl (cs : List UInt8) : ∀ m : List UInt8, tr (tl m.reverse cs) cs = tl (tr m.reverse cs) cs
  | [] => rfl
  | y :: m => by
    have ih := tr_tl cs m
    rw [List.reverse_cons, tr_snoc, tl_snoc]
    cases h : cs.contains y with
    | true =>
      rw [if_pos rfl, ← ih]
      cases he : tl m.reverse cs with
      | nil =>
        have : tl [y] cs = [] := by unfold tl; rw [List.dropWhile_cons, if_pos h]; rfl
        simp [this]
      | cons a b =>
        rw [show (a :: b : List UInt8).isEmpty = false from rfl]
        rw [if_neg (by decide), tr_snoc, if_pos h]
    | false =>
      have hn : ¬ (cs.contains y = true) := by rw [h]; decide
      simp only [Bool.false_eq_true, if_false]
      rw [tl_snoc]
      cases he : tl m.reverse cs with
      | nil =>
        have h1 : tl [y] cs = [y] := by unfold tl; rw [List.dropWhile_cons, if_neg hn]
        rw [show ([] : List UInt8).isEmpty = true from rfl, if_pos rfl, h1]
        have := tr_snoc [] cs y
        rw [List.nil_append, if_neg hn] at this
        exact this
      | cons a b =>
        rw [show (a :: b : List UInt8).isEmpty = false from rfl]
        rw [if_neg (by decide), tr_snoc, if_neg hn]
theorem blanked_eq (m : List UInt8) : blanked m = tr (tl m [32, 9]) [32, 9] := by
  have := tr_tl [32, 9] m.reverse
  rw [List.reverse_reverse] at this
  exact this.symm

/-- Where a name begins. -/
def fro (l : List UInt8) (label : Bool) (k : Nat) : Nat := min (bhd l [32, 9] k) (eo l label k)
theorem fro_is {l : List UInt8} {label : Bool} {k : Nat} (hk : k ≤ l.length) : (l.drop (fro l label k)).take (eo l label k - fro l label k) = tl (upTo (l.drop k) label) [32, 9] := by
  have h := tl_take [32, 9] (l.drop k) (upTo (l.drop k) label).length
  rw [upTo_take] at h
  rw [h, List.drop_drop]
  have hl := tl_le (l.drop k) [32, 9]
  rw [List.length_drop] at hl ⊢
  unfold fro eo bhd
  generalize (tl (l.drop k) [32, 9]).length = T at *
  generalize (upTo (l.drop k) label).length = n at *
  by_cases hb : l.length - T ≤ k + n
  · rw [Nat.min_eq_left hb]
    congr 1
    · omega
    · congr 1; omega
  · rw [Nat.min_eq_right (by omega)]
    rw [show k + n - (k + n) = 0 by omega, show n - (l.length - k - T) = 0 by omega]
    rfl
theorem fro_le {l : List UInt8} {label : Bool} {k : Nat} : fro l label k ≤ eo l label k := Nat.min_le_right _ _
theorem eo_le {l : List UInt8} {label : Bool} {k : Nat} (hk : k ≤ l.length) : eo l label k ≤ l.length := by
  have := upTo_le (l.drop k) label
  rw [List.length_drop] at this
  unfold eo; omega

/-- What is left between a name's beginning and a place, blanks taken off its end. -/
def nb (l : List UInt8) (f t : Nat) : List UInt8 := tr ((l.drop f).take (t - f)) [32, 9]
theorem mid_len {l : List UInt8} {f t : Nat} (h : t ≤ l.length) : ((l.drop f).take (t - f)).length = t - f := by
  rw [List.length_take, List.length_drop]; omega
theorem mid_last {l : List UInt8} {f t : Nat} (h : t ≤ l.length) (hf : f < t) : ((l.drop f).take (t - f))[t - f - 1]'(by rw [mid_len h]; omega) = l[t - 1] := by
  rw [List.getElem_take, List.getElem_drop]
  congr 1; omega
theorem nb_yes {l : List UInt8} {f t : Nat} (h : t ≤ l.length) (hf : f < t) (e : ([32, 9] : List UInt8).contains l[t - 1] = true) : nb l f t = nb l f (t - 1) := by
  unfold nb
  rw [tr_yes (k := t - f - 1) (by rw [mid_len h]; omega) (by rw [mid_last h hf]; exact e), List.take_take]
  congr 2; omega
theorem nb_no {l : List UInt8} {f t : Nat} (h : t ≤ l.length) (hf : f < t) (e : ([32, 9] : List UInt8).contains l[t - 1] = false) : nb l f t = (l.drop f).take (t - f) := by
  unfold nb
  rw [tr_no (k := t - f - 1) (by rw [mid_len h]; omega) (by rw [mid_last h hf]; exact e)]
theorem nb_yes' {l : List UInt8} {f q : Nat} (h : q < l.length) (hf : f < q + 1) (e : ([32, 9] : List UInt8).contains l[q] = true) : nb l f (q + 1) = nb l f q := nb_yes (t := q + 1) h hf e
theorem nb_no' {l : List UInt8} {f q : Nat} (h : q < l.length) (hf : f < q + 1) (e : ([32, 9] : List UInt8).contains l[q] = false) : nb l f (q + 1) = (l.drop f).take (q + 1 - f) := nb_no (t := q + 1) h hf e
theorem nb_end {l : List UInt8} {f : Nat} : nb l f f = [] := by
  unfold nb; rw [Nat.sub_self]; rfl
theorem nb_is {l : List UInt8} {label : Bool} {k : Nat} (hk : k ≤ l.length) : nb l (fro l label k) (eo l label k) = blanked (upTo (l.drop k) label) := by
  unfold nb
  rw [fro_is hk, blanked_eq]

theorem ends_in {label : Bool} {x : UInt8} (h : (ends label).contains x = true) : x = 10 ∨ (x = 59 ∧ label = true) := by
  cases label <;> simpa [ends] using h
theorem ends_out {label : Bool} {x : UInt8} (h : (ends label).contains x = false) : x ≠ 10 ∧ (x ≠ 59 ∨ label = false) := by
  cases label <;> simpa [ends] using h
theorem blank_in {x : UInt8} (h : ([32, 9] : List UInt8).contains x = true) : x = 32 ∨ x = 9 := by simpa using h
theorem blank_out {x : UInt8} (h : ([32, 9] : List UInt8).contains x = false) : x ≠ 32 ∧ x ≠ 9 := by simpa using h

set_option maxRecDepth 100000 in
set_option maxHeartbeats 2000000 in
theorem refName_any (l : List UInt8) (k : Nat) (label : Bool) (w : World) (hs : l.length ≤ 100000) (hk : k ≤ l.length) :
    Calls Tryd.prog 14 #[.string ⟨l.toArray⟩, .int .i64 k, .bool label] w fun e w' =>
      e = .returned (.tuple #[.string ⟨(nam l k label).1.toArray⟩, .int .i64 (nam l k label).2.1, .int .i64 (nam l k label).2.2]) ∧ Fr nob w w' := by
  have hN := @nb_is l label k hk
  have hnn := @nam_none l k label
  have hnl := @nam_long l k label
  have hni := @nam_is l k label
  rw [← hN] at hnn hnl hni
  rw [show k + (upTo (l.drop k) label).length = eo l label k from rfl] at hni
  have hE := @eo_le l label k hk
  have hfe := @fro_le l label k
  have hB : ∀ w, Calls Tryd.prog 8 #[.string ⟨l.toArray⟩, .int .i64 k] w fun e w' => e = .returned (.int .i64 (bhd l [32, 9] k : Nat)) ∧ Fr nob w w' := fun w => by
    have := refBlanks_any l k w (by omega)
    rw [if_neg (by omega), Int.toNat_natCast] at this
    exact this
  have hmin : ((min (bhd l [32, 9] k) (eo l label k) : Nat)) = fro l label k := rfl
  clear hN
  obtain ⟨B, hBB⟩ : ∃ B, bhd l [32, 9] k = B := ⟨_, rfl⟩
  obtain ⟨E, hEE⟩ : ∃ E, eo l label k = E := ⟨_, rfl⟩
  obtain ⟨A, hAA⟩ : ∃ A, fro l label k = A := ⟨_, rfl⟩
  obtain ⟨F, hF⟩ : ∃ F, nam l k label = F := ⟨_, rfl⟩
  rw [hBB] at hB hmin
  rw [hEE] at hnn hnl hni hE hfe hmin
  rw [hAA] at hnn hnl hni hfe hmin
  rw [hF] at hnn hnl hni
  rw [hF]
  have HEE := Lib.hid hEE
  clear hBB hEE hAA hF
  obtain ⟨N, hNN⟩ : ∃ N, nb l A E = N := ⟨_, rfl⟩
  rw [hNN] at hnn hnl hni
  have HNN := Lib.hid hNN
  clear hNN
  have ho : (decide ((k : Int) < 0) || decide ((l.length : Int) < k)) = false := by simp; omega
  have HO := Lib.hid ho; clear ho
  have HB := Lib.hid hB; have HMIN := Lib.hid hmin; have HNNN := Lib.hid hnn; have HNL := Lib.hid hnl; have HNI := Lib.hid hni
  clear hB hnn hnl hni hmin
  go_enter Tryd.func14, Tryd.ntmps14
  go_wp2_with (go_at_call 17; refine (refOver_any _ _ w (by omega)).mono ?_; rw [HO.out]; rintro e w' ⟨rfl, rfl⟩)
  go_loop [9] (fun v => ∃ e : Nat, v = .int .i64 e ∧ e ≤ l.length ∧ eo l label e = E) (fun v => l.length - (intOf v).toNat)
  case atStart => exact ⟨k, rfl, hk, HEE.out⟩
  case round =>
    obtain ⟨e, rfl, he, hee⟩ := hrel
    have go : ∀ (hq : e < l.length) (hc : (ends label).contains l[e] = false), eo l label (e + 1) = E := fun hq hc => by rw [← eo_next hq hc]; exact hee
    by_cases hlt : e < l.length
    · cases hc : (ends label).contains l[e] with
      | false =>
        have HG := Lib.hid (go hlt hc)
        obtain ⟨n1, n2⟩ := ends_out hc
        have t1 : ((l[e].toNat : Int) != 10) = true := tn_ne (b := 10) n1
        have t2 : ((l[e].toNat : Int) == 59) = false ∨ label = false := n2.imp (fun h => tb_ne (b := 59) h) id
        clear go hc n1 n2 hee
        rcases t2 with t2 | rfl
        · cases label
          all_goals
            go_wp2
            go_round
            case rel => exact ⟨e + 1, by go_num, by omega, HG.out⟩
            case measure => simp [intOf]; omega
        · go_wp2
          go_round
          case rel => exact ⟨e + 1, by go_num, by omega, HG.out⟩
          case measure => simp [intOf]; omega
      | true =>
        rw [eo_stop hlt hc] at hee
        subst hee
        clear go
        rcases ends_in hc with h10 | ⟨h59, rfl⟩
        · have t1 : ((l[e].toNat : Int) != 10) = false := tn_eq (b := 10) h10
          clear hc h10
          have hmn : min (B : Int) e = A := by rw [← HMIN.out]; omega
          go_wp2_with (go_at_call 8; refine (HB.out _).mono ?_; rintro e2 w1 ⟨rfl, hf⟩; have HF1 := Lib.hid hf; clear hf)
          clear hmn
          go_loop [11] (fun v => ∃ t : Nat, v = .int .i64 t ∧ A ≤ t ∧ t ≤ e ∧ nb l A t = N) (fun v => (intOf v).toNat)
          case atStart => exact ⟨e, rfl, hfe, Nat.le_refl _, HNN.out⟩
          case round =>
            obtain ⟨t, rfl, hAt, hte, hnb⟩ := hrel
            by_cases hlt2 : A < t
            · obtain ⟨q, rfl⟩ : ∃ q, t = q + 1 := ⟨t - 1, by omega⟩
              have hq : q < l.length := by omega
              obtain ⟨y, hy⟩ : ∃ y, l[q] = y := ⟨_, rfl⟩
              cases hcy : ([32, 9] : List UInt8).contains y with
              | true =>
                rw [nb_yes' hq hlt2 (by rw [hy]; exact hcy)] at hnb
                have HX := Lib.hid hnb
                rcases blank_in hcy with rfl | rfl
                all_goals
                  clear hcy hnb
                  go_wp2
                  go_round
                  case rel => exact ⟨q, by go_num, by omega, by omega, HX.out⟩
                  case measure => simp [intOf]
              | false =>
                rw [nb_no' hq hlt2 (by rw [hy]; exact hcy)] at hnb
                obtain ⟨m1, m2⟩ := blank_out hcy
                have t3 : ((y.toNat : Int) == 32) = false := tb_ne (b := 32) m1
                have t4 : ((y.toNat : Int) == 9) = false := tb_ne (b := 9) m2
                have t5 : ((q : Int) + 1 == A) = false := by simp; omega
                have hNl : N.length = q + 1 - A := by rw [← hnb]; exact mid_len (by omega)
                have hN0 : N ≠ [] := fun h => by rw [h] at hNl; simp at hNl; omega
                have hsl := run_slice_bs (P := Tryd.prog) l (lo := (A : Int)) (hi := (q : Int) + 1) Tryd.underlying9 (by omega) (by omega) (by omega)
                have hsn : List.take (((q : Int) + 1).toNat - ((A : Int)).toNat) (List.drop ((A : Int)).toNat l) = N := by rw [← hnb]; congr 1
                rw [hsn] at hsl
                by_cases h40 : 40 < N.length
                · have hF := HNL.out h40
                  subst hF
                  have t6 : (40 : Int) < (q : Int) + 1 - A := by omega
                  clear hnb m1 m2 hcy hsn
                  go_wp2
                  go_ret3
                  exact ⟨rfl, HF1.out⟩
                · have hF := HNI.out hN0 h40
                  subst hF
                  have t6 : ¬ (40 : Int) < (q : Int) + 1 - A := by omega
                  clear hnb m1 m2 hcy hsn
                  go_wp2
                  go_ret3
                  exact ⟨rfl, HF1.out⟩
            · obtain rfl : t = A := by omega
              rw [nb_end] at hnb
              have hF := HNNN.out hnb.symm
              subst hF
              clear hnb
              go_wp2
              go_ret3
              exact ⟨rfl, HF1.out⟩
        · have t1 : ((l[e].toNat : Int) != 10) = true := by rw [h59]; rfl
          have t2 : ((l[e].toNat : Int) == 59) = true := tb_eq (b := 59) h59
          clear hc h59
          have hmn : min (B : Int) e = A := by rw [← HMIN.out]; omega
          go_wp2_with (go_at_call 8; refine (HB.out _).mono ?_; rintro e2 w1 ⟨rfl, hf⟩; have HF1 := Lib.hid hf; clear hf)
          clear hmn
          go_loop [11] (fun v => ∃ t : Nat, v = .int .i64 t ∧ A ≤ t ∧ t ≤ e ∧ nb l A t = N) (fun v => (intOf v).toNat)
          case atStart => exact ⟨e, rfl, hfe, Nat.le_refl _, HNN.out⟩
          case round =>
            obtain ⟨t, rfl, hAt, hte, hnb⟩ := hrel
            by_cases hlt2 : A < t
            · obtain ⟨q, rfl⟩ : ∃ q, t = q + 1 := ⟨t - 1, by omega⟩
              have hq : q < l.length := by omega
              obtain ⟨y, hy⟩ : ∃ y, l[q] = y := ⟨_, rfl⟩
              cases hcy : ([32, 9] : List UInt8).contains y with
              | true =>
                rw [nb_yes' hq hlt2 (by rw [hy]; exact hcy)] at hnb
                have HX := Lib.hid hnb
                rcases blank_in hcy with rfl | rfl
                all_goals
                  clear hcy hnb
                  go_wp2
                  go_round
                  case rel => exact ⟨q, by go_num, by omega, by omega, HX.out⟩
                  case measure => simp [intOf]
              | false =>
                rw [nb_no' hq hlt2 (by rw [hy]; exact hcy)] at hnb
                obtain ⟨m1, m2⟩ := blank_out hcy
                have t3 : ((y.toNat : Int) == 32) = false := tb_ne (b := 32) m1
                have t4 : ((y.toNat : Int) == 9) = false := tb_ne (b := 9) m2
                have t5 : ((q : Int) + 1 == A) = false := by simp; omega
                have hNl : N.length = q + 1 - A := by rw [← hnb]; exact mid_len (by omega)
                have hN0 : N ≠ [] := fun h => by rw [h] at hNl; simp at hNl; omega
                have hsl := run_slice_bs (P := Tryd.prog) l (lo := (A : Int)) (hi := (q : Int) + 1) Tryd.underlying9 (by omega) (by omega) (by omega)
                have hsn : List.take (((q : Int) + 1).toNat - ((A : Int)).toNat) (List.drop ((A : Int)).toNat l) = N := by rw [← hnb]; congr 1
                rw [hsn] at hsl
                by_cases h40 : 40 < N.length
                · have hF := HNL.out h40
                  subst hF
                  have t6 : (40 : Int) < (q : Int) + 1 - A := by omega
                  clear hnb m1 m2 hcy hsn
                  go_wp2
                  go_ret3
                  exact ⟨rfl, HF1.out⟩
                · have hF := HNI.out hN0 h40
                  subst hF
                  have t6 : ¬ (40 : Int) < (q : Int) + 1 - A := by omega
                  clear hnb m1 m2 hcy hsn
                  go_wp2
                  go_ret3
                  exact ⟨rfl, HF1.out⟩
            · obtain rfl : t = A := by omega
              rw [nb_end] at hnb
              have hF := HNNN.out hnb.symm
              subst hF
              clear hnb
              go_wp2
              go_ret3
              exact ⟨rfl, HF1.out⟩
    · obtain rfl : e = l.length := by omega
      rw [eo_end] at hee
      subst hee
      clear go
      have hmn : min (B : Int) l.length = A := by rw [← HMIN.out]; omega
      go_wp2_with (go_at_call 8; refine (HB.out _).mono ?_; rintro e2 w1 ⟨rfl, hf⟩; have HF1 := Lib.hid hf; clear hf)
      clear hmn
      go_loop [11] (fun v => ∃ t : Nat, v = .int .i64 t ∧ A ≤ t ∧ t ≤ l.length ∧ nb l A t = N) (fun v => (intOf v).toNat)
      case atStart => exact ⟨l.length, rfl, hfe, Nat.le_refl _, HNN.out⟩
      case round =>
        obtain ⟨t, rfl, hAt, hte, hnb⟩ := hrel
        by_cases hlt2 : A < t
        · obtain ⟨q, rfl⟩ : ∃ q, t = q + 1 := ⟨t - 1, by omega⟩
          have hq : q < l.length := by omega
          obtain ⟨y, hy⟩ : ∃ y, l[q] = y := ⟨_, rfl⟩
          cases hcy : ([32, 9] : List UInt8).contains y with
          | true =>
            rw [nb_yes' hq hlt2 (by rw [hy]; exact hcy)] at hnb
            have HX := Lib.hid hnb
            rcases blank_in hcy with rfl | rfl
            all_goals
              clear hcy hnb
              go_wp2
              go_round
              case rel => exact ⟨q, by go_num, by omega, by omega, HX.out⟩
              case measure => simp [intOf]
          | false =>
            rw [nb_no' hq hlt2 (by rw [hy]; exact hcy)] at hnb
            obtain ⟨m1, m2⟩ := blank_out hcy
            have t3 : ((y.toNat : Int) == 32) = false := tb_ne (b := 32) m1
            have t4 : ((y.toNat : Int) == 9) = false := tb_ne (b := 9) m2
            have t5 : ((q : Int) + 1 == A) = false := by simp; omega
            have hNl : N.length = q + 1 - A := by rw [← hnb]; exact mid_len (by omega)
            have hN0 : N ≠ [] := fun h => by rw [h] at hNl; simp at hNl; omega
            have hsl := run_slice_bs (P := Tryd.prog) l (lo := (A : Int)) (hi := (q : Int) + 1) Tryd.underlying9 (by omega) (by omega) (by omega)
            have hsn : List.take (((q : Int) + 1).toNat - ((A : Int)).toNat) (List.drop ((A : Int)).toNat l) = N := by rw [← hnb]; congr 1
            rw [hsn] at hsl
            by_cases h40 : 40 < N.length
            · have hF := HNL.out h40
              subst hF
              have t6 : (40 : Int) < (q : Int) + 1 - A := by omega
              clear hnb m1 m2 hcy hsn
              go_wp2
              go_ret3
              exact ⟨rfl, HF1.out⟩
            · have hF := HNI.out hN0 h40
              subst hF
              have t6 : ¬ (40 : Int) < (q : Int) + 1 - A := by omega
              clear hnb m1 m2 hcy hsn
              go_wp2
              go_ret3
              exact ⟨rfl, HF1.out⟩
        · obtain rfl : t = A := by omega
          rw [nb_end] at hnb
          have hF := HNNN.out hnb.symm
          subst hF
          clear hnb
          go_wp2
          go_ret3
          exact ⟨rfl, HF1.out⟩
end Go.Proofs.YthdcpjmjdbldiaaDoor
