/-
  BracketItems: single bytes, each between [. and .] , are just these. For every input; the tables of the library lie as start-up lays them (tied).
-/
import Derived.Test.YtmoiiidfhkfdgaaDoorBrkQ
import Derived.Test.YtmoiiidfhkfdgaaDoorBrkR
import Derived.Test.YtmoiiidfhkfdgaaDoorDoorB
import Derived.Test.YtmoiiidfhkfdgaaDoorClaimB
import Derived.Test.YtmoiiidfhkfdgaaDoorCards
import Derived.Test.YtmoiiidfhkfdgaaDoorTie
namespace Go.Proofs.YtmoiiidfhkfdgaaDoor
open Go.RowKit

theorem brks_snoc (l : List UInt8) (c : UInt8) : brks (l ++ [c]) = brks l ++ [91, 46, c, 46, 93] := by simp [brks, brk]
theorem puts_snoc (l : List UInt8) (c : UInt8) : ∀ s : S4, s.puts (l ++ [c]) = (s.puts l).put c.toNat := by
  induction l with
  | nil => intro s; rfl
  | cons x l ih => intro s; exact ih _
theorem withR_lit (s : S4) (c : UInt8) (w : World) : Calls Tryd.prog 12 #[setV s, .int .u8 (c.toNat : Int)] w fun e w' => e = .returned (setV (s.put c.toNat)) ∧ Fr nob w w' := withR_any s c.toNat w c.toNat_lt
/-- What the loop has made of the first k bytes. -/
def ITInv (pre l : List UInt8) (w : World) (r : Nat) (s i : Value) (wr : World) : Prop := ∃ k : Nat, k ≤ l.length ∧ i = .int .i64 k ∧ s = .string ⟨(pre ++ brks (l.take k)).toArray⟩ ∧
  wr.heap[r]? = some (.cells #[.int .u64 (S4.zero.puts (l.take k)).a, .int .u64 (S4.zero.puts (l.take k)).b, .int .u64 (S4.zero.puts (l.take k)).c, .int .u64 (S4.zero.puts (l.take k)).d] 29 (0, 0)) ∧ Fr nob w wr

set_option maxRecDepth 100000 in
set_option maxHeartbeats 2000000 in
theorem lawItems (l : List UInt8) (v : Value) (nt : Bool) (w : World) (hl : l.length ≤ 9223372036854775807) (hv : SB w l v) (hE : Env w) :
    Calls Tryd.prog 6 #[v, .bool nt] w fun e w' => e = .returned (.bool true) ∧ Fr nob w w' := by
  have HE := Lib.hid hE; clear hE
  obtain ⟨va, vc, rfl⟩ := hv.shape
  have HV := Lib.hid hv; clear hv
  by_cases h0 : l.length = 0
  · have h0' : ((l.length : Int) == 0) = true := by rw [h0]; rfl
    go_enter Tryd.func6, Tryd.ntmps6
    go_wp2_with fail
    refine (awake2_any _ HE.out).mono ?_
    rintro e w1 ⟨rfl, f1⟩
    go_wp2_with fail
    refine (awake2_any _ (HE.out.on f1)).mono ?_
    rintro e w2 ⟨rfl, f2⟩
    go_wp2
    go_ret
    exact ⟨rfl, f1.trans' f2⟩
  by_cases hlen : l.length ≤ 60
  · have h60 : ¬ (60 : Int) < l.length := by omega
    have h0' : ((l.length : Int) == 0) = false := by rw [beq_eq_false_iff_ne]; omega
    have hne : l ≠ [] := fun e => h0 (by rw [e]; rfl)
    have HNE := Lib.hid hne
    have HCV := Lib.hid (run_conv_one (P := Tryd.prog) Tryd.underlying36 Tryd.underlying5 Tryd.underlying9)
    clear hne hl
    cases nt
    · go_enter Tryd.func6, Tryd.ntmps6
      go_wp2_with fail
      refine (awake2_any _ HE.out).mono ?_
      rintro e w1 ⟨rfl, f1⟩
      have F1 := Lib.hid f1; clear f1
      go_wp2_with fail
      obtain ⟨w2, hw2⟩ : ∃ w2, w2 = w1.alloc (.cells #[.int .u64 0, .int .u64 0, .int .u64 0, .int .u64 0] 29) := ⟨_, rfl⟩
      have F2 := Lib.hid (show Fr nob w w2 by rw [hw2]; exact F1.out.alloc _)
      have hb2 : w2.heap[w1.heap.size]? = some (.cells #[.int .u64 S4.zero.a, .int .u64 S4.zero.b, .int .u64 S4.zero.c, .int .u64 S4.zero.d] 29 (0, 0)) := by rw [hw2]; exact newAt _ _
      have hi0 := Lib.hid (show ITInv [] l w w1.heap.size (.string ⟨[].toArray⟩) (.int .i64 0) w2 from ⟨0, Nat.zero_le _, rfl, by simp [brks], hb2, F2.out⟩)
      rw [← hw2]
      clear hb2 hw2
      go_loopw [5, 29] (fun s i wr => ITInv [] l w w1.heap.size s i wr) (fun _ i _ => l.length - (intOf i).toNat)
      case atStart => exact hi0.out
      case round =>
        obtain ⟨k, hk, rfl, rfl, hb, hf⟩ := hrel
        have HB := Lib.hid hb; have HF := Lib.hid hf; clear hb hf
        have hlt1 := F1.out.size
        by_cases hlt : k < l.length
        · obtain ⟨g, off, cap, he, hc⟩ := HV.out.get HF.out hlt
          injection he with e1 e2 e3
          subst e1; subst e3
          clear e2
          have HSN := Lib.hid (List.take_succ_eq_append_getElem hlt)
          obtain ⟨x, hx⟩ : ∃ x, l[k] = x := ⟨_, rfl⟩
          rw [hx] at hc HSN
          clear hx
          have hcv := HCV.out x
          have hbl : ([] ++ brks (l.take k)).length ≤ 400 := by rw [List.length_append, brks_len, List.length_take]; simp only [List.length_cons, List.length_nil]; omega
          obtain ⟨S, hS⟩ : ∃ S, S4.zero.puts (l.take k) = S := ⟨_, rfl⟩
          rw [hS] at HB
          obtain ⟨B, hB⟩ : ∃ B, [] ++ brks (l.take k) = B := ⟨_, rfl⟩
          rw [hB] at hbl ⊢
          have HS := Lib.hid (show S4.zero.puts (l.take (k + 1)) = S.put x.toNat by rw [HSN.out, puts_snoc, hS])
          have HBB := Lib.hid (show [] ++ brks (l.take (k + 1)) = B ++ [91, 46, x, 46, 93] by rw [HSN.out, brks_snoc, ← hB, List.append_assoc])
          clear hS hB
          have rz := rule4 HB.out
          go_wp2_with fail
          refine (withR_lit S x _).mono ?_
          obtain ⟨N, hN⟩ : ∃ N, S.put x.toNat = N := ⟨_, rfl⟩
          rw [hN] at HS ⊢
          clear hN
          rintro e w3 ⟨rfl, f3⟩
          have HB3 := Lib.hid ((((Fr.refl nob wr).alloc _).trans' f3).heap HB.out (fun x => x))
          have rz3 := rule4 HB3.out
          have F3 := Lib.hid (HF.out.trans' (((Fr.refl nob wr).alloc _).trans' f3))
          clear f3 rz
          go_wp2
          go_roundw
          case rel =>
            refine ⟨k + 1, by omega, by go_num, by rw [HBB.out], by rw [HS.out]; exact setFour_heap HB3.out _ _ _ _, setFour_frS F3.out (by omega) _ _ _ _⟩
          case measure => simp [intOf]; omega
        · obtain rfl : k = l.length := by omega
          have hT := List.take_of_length_le (l := l) (Nat.le_refl l.length)
          rw [hT] at HB ⊢
          have hbl : ([] ++ brks l).length = 5 * l.length + 0 := by rw [List.length_append, brks_len]; simp only [List.length_cons, List.length_nil]; omega
          obtain ⟨S, hS⟩ : ∃ S, S4.zero.puts l = S := ⟨_, rfl⟩
          have hpz : prs (([] ++ brks l) ++ [93]) 0 = .inr (S, 5 * l.length + 0 + 1) := by rw [← hS]; exact prs_brks l HNE.out
          rw [hS] at HB
          obtain ⟨B, hB⟩ : ∃ B, [] ++ brks l = B := ⟨_, rfl⟩
          rw [hB] at hpz hbl ⊢
          obtain ⟨Q, hQ⟩ : ∃ Q : Int, ((5 * l.length + 0 + 1 : Nat) : Int) = Q := ⟨_, rfl⟩
          have c1 := fun w (h : Env w) => parse_all (B ++ [93]) 0 w (by simp; omega) h
          rw [show prz (B ++ [93]) 0 = prs (B ++ [93]) 0 from prz_in (a := 0) (Nat.zero_le _), hpz, show prsV (.inr (S, 5 * l.length + 0 + 1)) = .tuple #[setV S, .int .i64 (5 * l.length + 0 + 1 : Nat), .int .i64 0] from rfl, hQ] at c1
          have hQe : (Q == (B.length : Int) + 1) = true := by rw [beq_iff_eq]; omega
          have rz := rule4 HB.out
          have hBl : (B.length : Int) ≤ 400 := by omega
          have hBn : B.length ≤ 400 := by omega
          have C1 := Lib.hid c1
          clear c1 hpz hQ hB hS hbl
          have hse := S4.same_refl S
          go_wp2_with fail
          refine (C1.out wr (HE.out.on HF.out)).mono ?_
          rintro e w5 ⟨rfl, f5⟩
          have rz5 := rule4 (f5.heap HB.out (fun x => x))
          go_wp2
          go_ret
          exact ⟨by simp [hQe], (HF.out.trans' f5).alloc _⟩
    · go_enter Tryd.func6, Tryd.ntmps6
      go_wp2_with fail
      refine (awake2_any _ HE.out).mono ?_
      rintro e w1 ⟨rfl, f1⟩
      have F1 := Lib.hid f1; clear f1
      go_wp2_with fail
      obtain ⟨w2, hw2⟩ : ∃ w2, w2 = w1.alloc (.cells #[.int .u64 0, .int .u64 0, .int .u64 0, .int .u64 0] 29) := ⟨_, rfl⟩
      have F2 := Lib.hid (show Fr nob w w2 by rw [hw2]; exact F1.out.alloc _)
      have hb2 : w2.heap[w1.heap.size]? = some (.cells #[.int .u64 S4.zero.a, .int .u64 S4.zero.b, .int .u64 S4.zero.c, .int .u64 S4.zero.d] 29 (0, 0)) := by rw [hw2]; exact newAt _ _
      have hi0 := Lib.hid (show ITInv [94] l w w1.heap.size (.string ⟨[94].toArray⟩) (.int .i64 0) w2 from ⟨0, Nat.zero_le _, rfl, by simp [brks], hb2, F2.out⟩)
      rw [← hw2]
      clear hb2 hw2
      go_loopw [5, 29] (fun s i wr => ITInv [94] l w w1.heap.size s i wr) (fun _ i _ => l.length - (intOf i).toNat)
      case atStart => exact hi0.out
      case round =>
        obtain ⟨k, hk, rfl, rfl, hb, hf⟩ := hrel
        have HB := Lib.hid hb; have HF := Lib.hid hf; clear hb hf
        have hlt1 := F1.out.size
        by_cases hlt : k < l.length
        · obtain ⟨g, off, cap, he, hc⟩ := HV.out.get HF.out hlt
          injection he with e1 e2 e3
          subst e1; subst e3
          clear e2
          have HSN := Lib.hid (List.take_succ_eq_append_getElem hlt)
          obtain ⟨x, hx⟩ : ∃ x, l[k] = x := ⟨_, rfl⟩
          rw [hx] at hc HSN
          clear hx
          have hcv := HCV.out x
          have hbl : ([94] ++ brks (l.take k)).length ≤ 400 := by rw [List.length_append, brks_len, List.length_take]; simp only [List.length_cons, List.length_nil]; omega
          obtain ⟨S, hS⟩ : ∃ S, S4.zero.puts (l.take k) = S := ⟨_, rfl⟩
          rw [hS] at HB
          obtain ⟨B, hB⟩ : ∃ B, [94] ++ brks (l.take k) = B := ⟨_, rfl⟩
          rw [hB] at hbl ⊢
          have HS := Lib.hid (show S4.zero.puts (l.take (k + 1)) = S.put x.toNat by rw [HSN.out, puts_snoc, hS])
          have HBB := Lib.hid (show [94] ++ brks (l.take (k + 1)) = B ++ [91, 46, x, 46, 93] by rw [HSN.out, brks_snoc, ← hB, List.append_assoc])
          clear hS hB
          have rz := rule4 HB.out
          go_wp2_with fail
          refine (withR_lit S x _).mono ?_
          obtain ⟨N, hN⟩ : ∃ N, S.put x.toNat = N := ⟨_, rfl⟩
          rw [hN] at HS ⊢
          clear hN
          rintro e w3 ⟨rfl, f3⟩
          have HB3 := Lib.hid ((((Fr.refl nob wr).alloc _).trans' f3).heap HB.out (fun x => x))
          have rz3 := rule4 HB3.out
          have F3 := Lib.hid (HF.out.trans' (((Fr.refl nob wr).alloc _).trans' f3))
          clear f3 rz
          go_wp2
          go_roundw
          case rel =>
            refine ⟨k + 1, by omega, by go_num, by rw [HBB.out], by rw [HS.out]; exact setFour_heap HB3.out _ _ _ _, setFour_frS F3.out (by omega) _ _ _ _⟩
          case measure => simp [intOf]; omega
        · obtain rfl : k = l.length := by omega
          have hT := List.take_of_length_le (l := l) (Nat.le_refl l.length)
          rw [hT] at HB ⊢
          have hbl : ([94] ++ brks l).length = 5 * l.length + 1 := by rw [List.length_append, brks_len]; simp only [List.length_cons, List.length_nil]; omega
          obtain ⟨S, hS⟩ : ∃ S, S4.zero.puts l = S := ⟨_, rfl⟩
          have hpz : prs (([94] ++ brks l) ++ [93]) 0 = .inr (S.not, 5 * l.length + 1 + 1) := by rw [← hS]; exact prs_nbrks l HNE.out
          rw [hS] at HB
          obtain ⟨B, hB⟩ : ∃ B, [94] ++ brks l = B := ⟨_, rfl⟩
          rw [hB] at hpz hbl ⊢
          obtain ⟨Q, hQ⟩ : ∃ Q : Int, ((5 * l.length + 1 + 1 : Nat) : Int) = Q := ⟨_, rfl⟩
          have c1 := fun w (h : Env w) => parse_all (B ++ [93]) 0 w (by simp; omega) h
          rw [show prz (B ++ [93]) 0 = prs (B ++ [93]) 0 from prz_in (a := 0) (Nat.zero_le _), hpz, show prsV (.inr (S.not, 5 * l.length + 1 + 1)) = .tuple #[setV S.not, .int .i64 (5 * l.length + 1 + 1 : Nat), .int .i64 0] from rfl, hQ] at c1
          have hQe : (Q == (B.length : Int) + 1) = true := by rw [beq_iff_eq]; omega
          have rz := rule4 HB.out
          have hBl : (B.length : Int) ≤ 400 := by omega
          have hBn : B.length ≤ 400 := by omega
          have C1 := Lib.hid c1
          clear c1 hpz hQ hB hS hbl
          go_wp2_with fail
          refine (notR_lit S wr).mono ?_
          obtain ⟨N, hN⟩ : ∃ N, S.not = N := ⟨_, rfl⟩
          rw [hN] at C1 ⊢
          clear hN
          have hse := S4.same_refl N
          rintro e w4 ⟨rfl, f4⟩
          have hb4 := f4.heap HB.out (fun x => x)
          have rz4 := rule4 hb4
          obtain ⟨w5, hw5⟩ : ∃ w5, w5 = (((w4.setCell ⟨w1.heap.size, 0, none⟩ (.int .u64 N.a)).setCell ⟨w1.heap.size, 1, none⟩ (.int .u64 N.b)).setCell ⟨w1.heap.size, 2, none⟩ (.int .u64 N.c)).setCell ⟨w1.heap.size, 3, none⟩ (.int .u64 N.d) := ⟨_, rfl⟩
          have HB5 := Lib.hid (show w5.heap[w1.heap.size]? = some (.cells #[.int .u64 N.a, .int .u64 N.b, .int .u64 N.c, .int .u64 N.d] 29 (0, 0)) by rw [hw5]; exact setFour_heap hb4 _ _ _ _)
          have F5 := Lib.hid (show Fr nob w w5 by rw [hw5]; exact setFour_frS (HF.out.trans' f4) (by omega) _ _ _ _)
          have HW5 := Lib.hid hw5
          clear hb4 hw5 f4
          go_wp2_with (rw [← HW5.out])
          refine (C1.out w5 (HE.out.on F5.out)).mono ?_
          rintro e w6 ⟨rfl, f6⟩
          have rz6 := rule4 (f6.heap HB5.out (fun x => x))
          go_wp2
          go_ret
          exact ⟨by simp [hQe], (F5.out.trans' f6).alloc _⟩
  · have h60 : (60 : Int) < l.length := by omega
    have h0' : ((l.length : Int) == 0) = false := by rw [beq_eq_false_iff_ne]; omega
    go_enter Tryd.func6, Tryd.ntmps6
    go_wp2_with fail
    refine (awake2_any _ HE.out).mono ?_
    rintro e w1 ⟨rfl, f1⟩
    go_wp2_with fail
    refine (awake2_any _ (HE.out.on f1)).mono ?_
    rintro e w2 ⟨rfl, f2⟩
    go_wp2
    go_ret
    exact ⟨rfl, f1.trans' f2⟩

namespace bracketItems
open Go.ChangeShapes Go.WideShapes Go.ChangeAt Go.RowKit
open Go.ChangeMaps (open_string shut_string)

theorem readable : ∀ t ∈ Tryd.f6.params.toList, Tryd.prog.readableRec t = true ∧ t < Tryd.prog.types.size := by
  rw [Tryd.params6]
  intro t ht
  simp only [List.mem_cons, List.not_mem_nil, or_false] at ht
  rcases ht with rfl | rfl
  all_goals exact ⟨by kernel_rfl, of_decide_eq_true (by kernel_rfl)⟩

set_option maxRecDepth 100000 in
theorem lifted (os : Os) (started : os.Started) (H : Type) (enc : TypeId × Value → H) :
    ReturnsInHanded {} Tryd.checked os 6 .any (fun w args => (Rows.bracketItemsSpec.pre enc Tryd.prog Tryd.f6 [] false w args ∧ laidMetH Tryd.prog door.list1 w) ∧ sizedMet enc Tryd.prog Tryd.f6 (OpenSpec.ofChange Rows.bracketItemsSpec) false w args)
      (Rows.bracketItemsSpec.post enc Tryd.prog Tryd.f6 false true false false) := by
  refine returns_door (C := Tryd.checked) (X := fun w _ => laidMetH Tryd.prog door.list1 w) (fun _ _ _ hh h => h.of_heap hh) door.own started (by kernel_rfl) Tryd.func6
    (ChangeSpec.witness_shaped (enc := enc) (C := Tryd.checked) (os := os) (X := fun w _ => laidMetH Tryd.prog door.list1 w) false (World.doorLaid Tryd.prog 14 os) #[.slice none 0 0, .bool false] 8 rfl (World.shaped_of_RefB (by kernel_rfl) (by kernel_rfl)) (by kernel_rfl) (by kernel_rfl) (by kernel_rfl) (door.met os _)) ?_
  intro W base args ds gs before hval0 hW _ hL hsh
  have hval : ∀ (j : Nat) t v, Tryd.f6.params[j]? = some t → args[j]? = some v → Value.okWide Tryd.prog W .any base t v := hval0
  have hW' : DataW.Whole enc Tryd.prog Tryd.f6.params.toList Rows.bracketItemsSpec.vars false W args.toList ds gs before := hW
  obtain ⟨p, q, hA0, hV, rfl, hfz, hnd⟩ := hW
  have hA : DataW.TrodAll enc Tryd.prog W 0 (fun _ => true) true Tryd.f6.params.toList args.toList ds p := hA0
  rw [Tryd.params6] at hA hval
  obtain ⟨v0, vs0, d0, ds0, p0, q0, hargs, rfl, rfl, h0, r0⟩ := trodAll_cons hA
  obtain ⟨v1, vs1, d1, ds1, p1, q1, rfl, rfl, rfl, h1, r1⟩ := trodAll_cons r0
  obtain ⟨rfl, rfl, rfl⟩ := trodAll_nil r1
  obtain rfl : args = #[v0, v1] := by cases args; simp_all
  obtain ⟨rfl, rfl⟩ := trodVars_none hV
  obtain ⟨l0, wl0, sb0⟩ := open_bytes Tryd.underlying36 Tryd.underlying5 (by kernel_rfl) (hval 0 36 v0 rfl rfl) h0
  obtain ⟨b1, rfl, _, _⟩ := open_bool Tryd.underlying4 (hval 1 4 v1 rfl rfl) h1
  refine (show Calls Tryd.prog 6 #[v0, .bool b1] W _ from ?_).mono fun e W' h => h
  refine (lawItems l0 v0 b1 W wl0 sb0 (door.env hL hsh)).mono fun e W' ⟨he, hg⟩ => ?_
  subst he
  exact ⟨_, rfl, law_post rfl (by kernel_rfl) Tryd.underlying4 door.laidOut readable rfl hW' hg.below⟩

theorem over : Rows.bracketItemsRow.holds Tryd.pinned (OpenSpec.ofChange Rows.bracketItemsSpec) :=
  OpenClaim.holds_of_wide 6 Tryd.f6 rfl rfl rfl rfl rfl rfl rfl ⟨rfl, rfl, rfl, rfl, rfl⟩ rfl rfl rfl rfl rfl (by kernel_rfl) Tryd.func6 (by kernel_rfl)
    (of_decide_eq_true (by kernel_rfl)) (by unfold Func.isWrapper; first | (rw [if_pos (by decide +kernel)]; kernel_rfl) | (rw [if_neg (by decide +kernel)]; exact ⟨rfl, rfl⟩))
    (fun os started H enc _ => lifted os started H enc)

/-- THE STATEMENT: the tied card. -/
theorem proved : Rows.BracketItemsCardSaid :=
  Claim7.holds_tied_plain_at .later [] [.data] true _ false over (fun _ h => by cases h) (by kernel_rfl) (fun _ h => by cases h) bracketItems_row_tie rfl ⟨rfl, rfl⟩ (by kernel_rfl) rfl
    (fun f fn hf hfn => by
      obtain rfl : f = 6 := (Option.some.inj ((show Tryd.prog.funcNamed "placket/placketlaw02.BracketItems" = some 6 by kernel_rfl).symm.trans hf)).symm
      obtain rfl : fn = Tryd.f6 := (Option.some.inj (Tryd.func6.symm.trans hfn)).symm
      exact ⟨by kernel_rfl, fun j t ht => by
        rw [Tryd.params6] at ht
        have hm : t ∈ [36, 4] := by
          have := Array.mem_of_getElem? ht
          simpa using this
        exact List.all_eq_true.1 (show ([36, 4] : List TypeId).all (fun t => !Tryd.prog.wantsStandIn t) = true by kernel_rfl) t hm |> fun h => by show Tryd.prog.wantsStandIn t = false; simpa using h⟩)
    (by kernel_rfl)
#print axioms proved
end bracketItems

end Go.Proofs.YtmoiiidfhkfdgaaDoor
