/-
  BracketRanges: two bytes, each between [. and .] , with a - between, are all bytes from the one to the other; or, if there are none, an error at the first. For every input; the tables of the library lie as start-up lays them (tied).
-/
import Derived.Test.YtmoiiidfhkfdgaaDoorBrkQ
import Derived.Test.YtmoiiidfhkfdgaaDoorBrkR
import Derived.Test.YtmoiiidfhkfdgaaDoorDoorB
import Derived.Test.YtmoiiidfhkfdgaaDoorClaimB
import Derived.Test.YtmoiiidfhkfdgaaDoorCards
import Derived.Test.YtmoiiidfhkfdgaaDoorTie
namespace Go.Proofs.YtmoiiidfhkfdgaaDoor
open Go.RowKit

theorem prz_two (a b : UInt8) : prz [91, 46, a, 46, 93, 45, 91, 46, b, 46, 93, 93] 0 = if a.toNat ≤ b.toNat then .inr (spn a.toNat b.toNat, 12) else .inl (1, 0) := by
  rw [← prs_two a b, show prz [91, 46, a, 46, 93, 45, 91, 46, b, 46, 93, 93] 0 = prs [91, 46, a, 46, 93, 45, 91, 46, b, 46, 93, 93] 0 from prz_in (a := 0) (Nat.zero_le _)]; rfl

set_option maxRecDepth 100000 in
set_option maxHeartbeats 2000000 in
theorem lawRanges (a b : UInt8) (w : World) (hE : Env w) :
    Calls Tryd.prog 7 #[.int .u8 a.toNat, .int .u8 b.toNat] w fun e w' => e = .returned (.bool true) ∧ Fr nob w w' := by
  have HE := Lib.hid hE; clear hE
  have hcv := run_conv_one (P := Tryd.prog) Tryd.underlying36 Tryd.underlying5 Tryd.underlying9
  have hcv2 : ∀ W : World, (convert 36 9 (.slice (some ⟨W.heap.size + 1, 0, none⟩) 1 1)).run Tryd.prog ((W.alloc (.cells #[.int .u8 (a.toNat : Int)] 5)).alloc (.cells #[.int .u8 (b.toNat : Int)] 5)) = .ok (.string ⟨#[b]⟩) ((W.alloc (.cells #[.int .u8 (a.toNat : Int)] 5)).alloc (.cells #[.int .u8 (b.toNat : Int)] 5)) := fun W => by
    have h := hcv b (W.alloc (.cells #[.int .u8 (a.toNat : Int)] 5))
    rwa [show (W.alloc (.cells #[.int .u8 (a.toNat : Int)] 5)).heap.size = W.heap.size + 1 by simp] at h
  have c1 := fun w (h : Env w) => parse_all [91, 46, a, 46, 93, 45, 91, 46, b, 46, 93, 93] 0 w (by simp) h
  rw [prz_two] at c1
  by_cases hab : a.toNat ≤ b.toNat
  · rw [if_pos hab] at c1
    have hn : ¬ (b.toNat : Int) < (a.toNat : Int) := by omega
    have c2 := fun w => span_lit a.toNat b.toNat w a.toNat_lt b.toNat_lt
    obtain ⟨S, hS⟩ : ∃ S, spn a.toNat b.toNat = S := ⟨_, rfl⟩
    rw [hS] at c1 c2
    rw [show prsV (.inr (S, 12)) = .tuple #[setV S, .int .i64 12, .int .i64 0] from rfl] at c1
    have hse := S4.same_refl S
    have C1 := Lib.hid c1; have C2 := Lib.hid c2
    clear c1 c2 hS hab
    go_enter Tryd.func7, Tryd.ntmps7
    go_wp2_with fail
    refine (awake2_any _ HE.out).mono ?_
    rintro e w1 ⟨rfl, f1⟩
    go_wp2_with fail
    refine (C1.out _ (((HE.out.on f1).on ((Fr.refl _ _).alloc _)).on ((Fr.refl _ _).alloc _))).mono ?_
    rintro e w3 ⟨rfl, f3⟩
    obtain ⟨w4, hw4⟩ : ∃ w4, w4 = w3.alloc (.cells #[.int .u64 S.a, .int .u64 S.b, .int .u64 S.c, .int .u64 S.d] 25) := ⟨_, rfl⟩
    have r1 := rule4 (show w4.heap[w3.heap.size]? = _ by rw [hw4]; exact newAt _ _)
    have F4 := Lib.hid (show Fr nob w w4 by rw [hw4]; exact (f1.trans' ((((Fr.refl _ _).alloc _).alloc _).trans' f3)).alloc _)
    have HW4 := Lib.hid hw4
    clear f1 f3 hw4
    go_wp2_with fail
    rw [← HW4.out]
    refine region_fr 13 (by kernel_rfl) (by kernel_rfl) ?_
    simp only [List.take_succ_cons, List.take_zero, List.drop_succ_cons, List.drop_zero]
    repeat (go_big_quiet_step ((with_reducible exact calls_fr (C2.out _))))
    refine wpQuiet_nil ?_
    intro wC fC
    go_wp2
    go_ret
    exact ⟨by simp, F4.out.trans' fC⟩
  · rw [if_neg hab] at c1
    have hn : (b.toNat : Int) < (a.toNat : Int) := by omega
    rw [show prsV (.inl (1, 0)) = .tuple #[setV S4.zero, .int .i64 0, .int .i64 1] from rfl] at c1
    have hse : S4.same ⟨S4.zero.a, S4.zero.b, S4.zero.c, S4.zero.d⟩ ⟨0, 0, 0, 0⟩ = true := by decide
    have C1 := Lib.hid c1
    clear c1 hab
    go_enter Tryd.func7, Tryd.ntmps7
    go_wp2_with fail
    refine (awake2_any _ HE.out).mono ?_
    rintro e w1 ⟨rfl, f1⟩
    go_wp2_with fail
    refine (C1.out _ (((HE.out.on f1).on ((Fr.refl _ _).alloc _)).on ((Fr.refl _ _).alloc _))).mono ?_
    rintro e w3 ⟨rfl, f3⟩
    go_wp2
    go_ret
    exact ⟨by simp [hse], (f1.trans' ((((Fr.refl _ _).alloc _).alloc _).trans' f3)).alloc _⟩

namespace bracketRanges
open Go.ChangeShapes Go.WideShapes Go.ChangeAt Go.RowKit
open Go.ChangeMaps (open_string shut_string)

theorem readable : ∀ t ∈ Tryd.f7.params.toList, Tryd.prog.readableRec t = true ∧ t < Tryd.prog.types.size := by
  rw [Tryd.params7]
  intro t ht
  simp only [List.mem_cons, List.not_mem_nil, or_false] at ht
  rcases ht with rfl | rfl
  all_goals exact ⟨by kernel_rfl, of_decide_eq_true (by kernel_rfl)⟩

set_option maxRecDepth 100000 in
theorem lifted (os : Os) (started : os.Started) (H : Type) (enc : TypeId × Value → H) :
    ReturnsInHanded {} Tryd.checked os 7 .any (fun w args => (Rows.bracketRangesSpec.pre enc Tryd.prog Tryd.f7 [] false w args ∧ laidMetH Tryd.prog door.list1 w) ∧ sizedMet enc Tryd.prog Tryd.f7 (OpenSpec.ofChange Rows.bracketRangesSpec) false w args)
      (Rows.bracketRangesSpec.post enc Tryd.prog Tryd.f7 false true false false) := by
  refine returns_door (C := Tryd.checked) (X := fun w _ => laidMetH Tryd.prog door.list1 w) (fun _ _ _ hh h => h.of_heap hh) door.own started (by kernel_rfl) Tryd.func7
    (ChangeSpec.witness_shaped (enc := enc) (C := Tryd.checked) (os := os) (X := fun w _ => laidMetH Tryd.prog door.list1 w) false (World.doorLaid Tryd.prog 14 os) #[.int .u8 0, .int .u8 0] 8 rfl (World.shaped_of_RefB (by kernel_rfl) (by kernel_rfl)) (by kernel_rfl) (by kernel_rfl) (by kernel_rfl) (door.met os _)) ?_
  intro W base args ds gs before hval0 hW _ hL hsh
  have hval : ∀ (j : Nat) t v, Tryd.f7.params[j]? = some t → args[j]? = some v → Value.okWide Tryd.prog W .any base t v := hval0
  have hW' : DataW.Whole enc Tryd.prog Tryd.f7.params.toList Rows.bracketRangesSpec.vars false W args.toList ds gs before := hW
  obtain ⟨p, q, hA0, hV, rfl, hfz, hnd⟩ := hW
  have hA : DataW.TrodAll enc Tryd.prog W 0 (fun _ => true) true Tryd.f7.params.toList args.toList ds p := hA0
  rw [Tryd.params7] at hA hval
  obtain ⟨v0, vs0, d0, ds0, p0, q0, hargs, rfl, rfl, h0, r0⟩ := trodAll_cons hA
  obtain ⟨v1, vs1, d1, ds1, p1, q1, rfl, rfl, rfl, h1, r1⟩ := trodAll_cons r0
  obtain ⟨rfl, rfl, rfl⟩ := trodAll_nil r1
  obtain rfl : args = #[v0, v1] := by cases args; simp_all
  obtain ⟨rfl, rfl⟩ := trodVars_none hV
  obtain ⟨x0, rfl, _, _, wx0⟩ := open_int Tryd.underlying5 (hval 0 5 v0 rfl rfl) h0
  obtain ⟨c0, hc0⟩ : ∃ c : UInt8, (c.toNat : Int) = x0 := ⟨_, byte_of_wf wx0⟩
  subst hc0
  obtain ⟨x1, rfl, _, _, wx1⟩ := open_int Tryd.underlying5 (hval 1 5 v1 rfl rfl) h1
  obtain ⟨c1, hc1⟩ : ∃ c : UInt8, (c.toNat : Int) = x1 := ⟨_, byte_of_wf wx1⟩
  subst hc1
  refine (show Calls Tryd.prog 7 #[.int .u8 (c0.toNat : Int), .int .u8 (c1.toNat : Int)] W _ from ?_).mono fun e W' h => h
  refine (lawRanges c0 c1 W (door.env hL hsh)).mono fun e W' ⟨he, hg⟩ => ?_
  subst he
  exact ⟨_, rfl, law_post rfl (by kernel_rfl) Tryd.underlying4 door.laidOut readable rfl hW' hg.below⟩

theorem over : Rows.bracketRangesRow.holds Tryd.pinned (OpenSpec.ofChange Rows.bracketRangesSpec) :=
  OpenClaim.holds_of_wide 7 Tryd.f7 rfl rfl rfl rfl rfl rfl rfl ⟨rfl, rfl, rfl, rfl, rfl⟩ rfl rfl rfl rfl rfl (by kernel_rfl) Tryd.func7 (by kernel_rfl)
    (of_decide_eq_true (by kernel_rfl)) (by unfold Func.isWrapper; first | (rw [if_pos (by decide +kernel)]; kernel_rfl) | (rw [if_neg (by decide +kernel)]; exact ⟨rfl, rfl⟩))
    (fun os started H enc _ => lifted os started H enc)

/-- THE STATEMENT: the tied card. -/
theorem proved : Rows.BracketRangesCardSaid :=
  Claim7.holds_tied_plain_at .later [] [.data] true _ false over (fun _ h => by cases h) (by kernel_rfl) (fun _ h => by cases h) bracketRanges_row_tie rfl ⟨rfl, rfl⟩ (by kernel_rfl) rfl
    (fun f fn hf hfn => by
      obtain rfl : f = 7 := (Option.some.inj ((show Tryd.prog.funcNamed "placket/placketlaw02.BracketRanges" = some 7 by kernel_rfl).symm.trans hf)).symm
      obtain rfl : fn = Tryd.f7 := (Option.some.inj (Tryd.func7.symm.trans hfn)).symm
      exact ⟨by kernel_rfl, fun j t ht => by
        rw [Tryd.params7] at ht
        have hm : t ∈ [5, 5] := by
          have := Array.mem_of_getElem? ht
          simpa using this
        exact List.all_eq_true.1 (show ([5, 5] : List TypeId).all (fun t => !Tryd.prog.wantsStandIn t) = true by kernel_rfl) t hm |> fun h => by show Tryd.prog.wantsStandIn t = false; simpa using h⟩)
    (by kernel_rfl)
#print axioms proved
end bracketRanges

end Go.Proofs.YtmoiiidfhkfdgaaDoor
