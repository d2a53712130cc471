/-
  BracketBehind: what stands ahead of the place, or behind the closing bracket, changes nothing. For every input; the tables of the library lie as start-up lays them (tied).
-/
import Derived.Test.YtmoiiidfhkfdgaaDoorBrkQ
import Derived.Test.YtmoiiidfhkfdgaaDoorBrkR
import Derived.Test.YtmoiiidfhkfdgaaDoorDoorB
import Derived.Test.YtmoiiidfhkfdgaaDoorClaimB
import Derived.Test.YtmoiiidfhkfdgaaDoorCards
import Derived.Test.YtmoiiidfhkfdgaaDoorTie
import Derived.Test.YtmoiiidfhkfdgaaDoorLawNots
namespace Go.Proofs.YtmoiiidfhkfdgaaDoor
open Go.RowKit

set_option maxRecDepth 100000 in
set_option maxHeartbeats 2000000 in
theorem lawBehind (p s t : List UInt8) (w : World) (hp : p.length ≤ 9223372036854775807) (hs : s.length ≤ 9223372036854775807) (ht : t.length ≤ 9223372036854775807) (hE : Env w) :
    Calls Tryd.prog 5 #[.string ⟨p.toArray⟩, .string ⟨s.toArray⟩, .string ⟨t.toArray⟩] w fun e w' => e = .returned (.bool true) ∧ Fr nob w w' := by
  have HE := Lib.hid hE; clear hE
  by_cases h1 : p.length ≤ 100
  · have h1' : ¬ (100 : Int) < p.length := by omega
    by_cases h2 : s.length ≤ 200
    · have h2' : ¬ (200 : Int) < s.length := by omega
      by_cases h3 : t.length ≤ 100
      · have h3' : ¬ (100 : Int) < t.length := by omega
        have c1 := fun w (h : Env w) => parse_all s 0 w (by omega) h
        rw [show prz s 0 = prs s 0 from prz_in (a := 0) (Nat.zero_le _)] at c1
        cases hP : prs s 0 with
        | inl z =>
          rw [hP, show prsV (.inl z) = .tuple #[setV S4.zero, .int .i64 z.2, .int .i64 z.1] from rfl] at c1
          have hz := prs_err hP
          have v1 : (z.1 != 0) = true := by simpa using hz
          have C1 := Lib.hid c1
          clear c1 hP hz
          go_enter Tryd.func5, Tryd.ntmps5
          go_wp2_with fail
          refine (awake2_any _ HE.out).mono ?_
          rintro e w1 ⟨rfl, f1⟩
          go_wp2_with fail
          refine (C1.out _ (HE.out.on f1)).mono ?_
          rintro e w2 ⟨rfl, f2⟩
          go_wp2
          go_ret
          exact ⟨rfl, f1.trans' (f2.alloc _)⟩
        | inr y =>
          have hin := prs_in hP
          have ham := prs_amid (p := p) (t := t) hP
          rw [List.append_assoc] at ham
          have c2 := fun w (h : Env w) => parse_all (p ++ (s ++ t)) p.length w (by simp; omega) h
          rw [prz_in (by simp), ham] at c2
          obtain ⟨S, P⟩ := y
          simp only at hin c2
          rw [hP, show prsV (.inr (S, P)) = .tuple #[setV S, .int .i64 P, .int .i64 0] from rfl] at c1
          rw [show prsV (.inr (S, p.length + P)) = .tuple #[setV S, .int .i64 (p.length + P : Nat), .int .i64 0] from rfl] at c2
          obtain ⟨Q, hQ⟩ : ∃ Q : Int, ((p.length + P : Nat) : Int) = Q := ⟨_, rfl⟩
          rw [hQ] at c2
          have hPl : (P : Int) ≤ 200 := by have := hin.2; omega
          have hwp : IntKind.i64.wrap ((P : Int) + p.length) = (P : Int) + p.length := IntWalk.i64_in _ (by omega)
          have hQe : (Q == (P : Int) + p.length) = true := by simp; omega
          have hse := S4.same_refl S
          have hll : (p ++ s).length ≤ 300 := by simp; omega
          have hll2 : (p ++ (s ++ t)).length ≤ 400 := by simp; omega
          have C1 := Lib.hid c1; have C2 := Lib.hid c2
          clear c1 c2 hP hin ham hQ
          go_enter Tryd.func5, Tryd.ntmps5
          go_wp2_with fail
          refine (awake2_any _ HE.out).mono ?_
          rintro e w1 ⟨rfl, f1⟩
          go_wp2_with fail
          refine (C1.out _ (HE.out.on f1)).mono ?_
          rintro e w2 ⟨rfl, f2⟩
          go_wp2_with fail
          refine (C2.out _ ((((HE.out.on f1)).on f2).on ((Fr.refl _ _).alloc _))).mono ?_
          rintro e w3 ⟨rfl, f3⟩
          have hb := f3.heap (heap_alloc_new w2 (.cells #[.int .u64 S.a, .int .u64 S.b, .int .u64 S.c, .int .u64 S.d] 25)) (fun x => x)
          have r0 := rule4 hb _ (Fr.refl _ _)
          have hlt := lt_heap hb
          clear hb
          go_wp2
          go_ret
          exact ⟨by simp, f1.trans' (f2.trans' (((Fr.refl _ _).alloc _).trans' (f3.alloc _)))⟩
      · have h3' : (100 : Int) < t.length := by omega
        go_enter Tryd.func5, Tryd.ntmps5
        go_wp2_with fail
        refine (awake2_any _ HE.out).mono ?_
        rintro e w1 ⟨rfl, f1⟩
        go_wp2_with fail
        refine (awake2_any _ (HE.out.on f1)).mono ?_
        rintro e w2 ⟨rfl, f2⟩
        go_wp2
        go_ret
        exact ⟨rfl, f1.trans' f2⟩
    · have h2' : (200 : Int) < s.length := by omega
      go_enter Tryd.func5, Tryd.ntmps5
      go_wp2_with fail
      refine (awake2_any _ HE.out).mono ?_
      rintro e w1 ⟨rfl, f1⟩
      go_wp2_with fail
      refine (awake2_any _ (HE.out.on f1)).mono ?_
      rintro e w2 ⟨rfl, f2⟩
      go_wp2
      go_ret
      exact ⟨rfl, f1.trans' f2⟩
  · have h1' : (100 : Int) < p.length := by omega
    go_enter Tryd.func5, Tryd.ntmps5
    go_wp2_with fail
    refine (awake2_any _ HE.out).mono ?_
    rintro e w1 ⟨rfl, f1⟩
    go_wp2_with fail
    refine (awake2_any _ (HE.out.on f1)).mono ?_
    rintro e w2 ⟨rfl, f2⟩
    go_wp2
    go_ret
    exact ⟨rfl, f1.trans' f2⟩

namespace bracketBehind
open Go.ChangeShapes Go.WideShapes Go.ChangeAt Go.RowKit
open Go.ChangeMaps (open_string shut_string)

theorem readable : ∀ t ∈ Tryd.f5.params.toList, Tryd.prog.readableRec t = true ∧ t < Tryd.prog.types.size := by
  rw [Tryd.params5]
  intro t ht
  simp only [List.mem_cons, List.not_mem_nil, or_false] at ht
  rcases ht with rfl | rfl | rfl
  all_goals exact ⟨by kernel_rfl, of_decide_eq_true (by kernel_rfl)⟩

set_option maxRecDepth 100000 in
theorem lifted (os : Os) (started : os.Started) (H : Type) (enc : TypeId × Value → H) :
    ReturnsInHanded {} Tryd.checked os 5 .any (fun w args => (Rows.bracketBehindSpec.pre enc Tryd.prog Tryd.f5 [] false w args ∧ laidMetH Tryd.prog door.list1 w) ∧ sizedMet enc Tryd.prog Tryd.f5 (OpenSpec.ofChange Rows.bracketBehindSpec) false w args)
      (Rows.bracketBehindSpec.post enc Tryd.prog Tryd.f5 false true false false) := by
  refine returns_door (C := Tryd.checked) (X := fun w _ => laidMetH Tryd.prog door.list1 w) (fun _ _ _ hh h => h.of_heap hh) door.own started (by kernel_rfl) Tryd.func5
    (ChangeSpec.witness_shaped (enc := enc) (C := Tryd.checked) (os := os) (X := fun w _ => laidMetH Tryd.prog door.list1 w) false (World.doorLaid Tryd.prog 14 os) #[.string ByteArray.empty, .string ByteArray.empty, .string ByteArray.empty] 8 rfl (World.shaped_of_RefB (by kernel_rfl) (by kernel_rfl)) (by kernel_rfl) (by kernel_rfl) (by kernel_rfl) (door.met os _)) ?_
  intro W base args ds gs before hval0 hW _ hL hsh
  have hval : ∀ (j : Nat) t v, Tryd.f5.params[j]? = some t → args[j]? = some v → Value.okWide Tryd.prog W .any base t v := hval0
  have hW' : DataW.Whole enc Tryd.prog Tryd.f5.params.toList Rows.bracketBehindSpec.vars false W args.toList ds gs before := hW
  obtain ⟨p, q, hA0, hV, rfl, hfz, hnd⟩ := hW
  have hA : DataW.TrodAll enc Tryd.prog W 0 (fun _ => true) true Tryd.f5.params.toList args.toList ds p := hA0
  rw [Tryd.params5] at hA hval
  obtain ⟨v0, vs0, d0, ds0, p0, q0, hargs, rfl, rfl, h0, r0⟩ := trodAll_cons hA
  obtain ⟨v1, vs1, d1, ds1, p1, q1, rfl, rfl, rfl, h1, r1⟩ := trodAll_cons r0
  obtain ⟨v2, vs2, d2, ds2, p2, q2, rfl, rfl, rfl, h2, r2⟩ := trodAll_cons r1
  obtain ⟨rfl, rfl, rfl⟩ := trodAll_nil r2
  obtain rfl : args = #[v0, v1, v2] := by cases args; simp_all
  obtain ⟨rfl, rfl⟩ := trodVars_none hV
  obtain ⟨s0, rfl, _, _, ws0⟩ := open_string Tryd.underlying9 (hval 0 9 v0 rfl rfl) h0
  obtain ⟨s1, rfl, _, _, ws1⟩ := open_string Tryd.underlying9 (hval 1 9 v1 rfl rfl) h1
  obtain ⟨s2, rfl, _, _, ws2⟩ := open_string Tryd.underlying9 (hval 2 9 v2 rfl rfl) h2
  have hs0 : s0 = ⟨s0.data.toList.toArray⟩ := by simp
  have hs1 : s1 = ⟨s1.data.toList.toArray⟩ := by simp
  have hs2 : s2 = ⟨s2.data.toList.toArray⟩ := by simp
  refine (show Calls Tryd.prog 5 #[.string s0, .string s1, .string s2] W _ from ?_).mono fun e W' h => h
  rw [hs0]
  rw [hs1]
  rw [hs2]
  refine (lawBehind s0.data.toList s1.data.toList s2.data.toList W (by unfold maxLen at ws0; exact ws0) (by unfold maxLen at ws1; exact ws1) (by unfold maxLen at ws2; exact ws2) (door.env hL hsh)).mono fun e W' ⟨he, hg⟩ => ?_
  subst he
  exact ⟨_, rfl, law_post rfl (by kernel_rfl) Tryd.underlying4 door.laidOut readable rfl hW' hg.below⟩

theorem over : Rows.bracketBehindRow.holds Tryd.pinned (OpenSpec.ofChange Rows.bracketBehindSpec) :=
  OpenClaim.holds_of_wide 5 Tryd.f5 rfl rfl rfl rfl rfl rfl rfl ⟨rfl, rfl, rfl, rfl, rfl⟩ rfl rfl rfl rfl rfl (by kernel_rfl) Tryd.func5 (by kernel_rfl)
    (of_decide_eq_true (by kernel_rfl)) (by unfold Func.isWrapper; first | (rw [if_pos (by decide +kernel)]; kernel_rfl) | (rw [if_neg (by decide +kernel)]; exact ⟨rfl, rfl⟩))
    (fun os started H enc _ => lifted os started H enc)

/-- THE STATEMENT: the tied card. -/
theorem proved : Rows.BracketBehindCardSaid :=
  Claim7.holds_tied_plain_at .later [] [.data] true _ false over (fun _ h => by cases h) (by kernel_rfl) (fun _ h => by cases h) bracketBehind_row_tie rfl ⟨rfl, rfl⟩ (by kernel_rfl) rfl
    (fun f fn hf hfn => by
      obtain rfl : f = 5 := (Option.some.inj ((show Tryd.prog.funcNamed "placket/placketlaw02.BracketBehind" = some 5 by kernel_rfl).symm.trans hf)).symm
      obtain rfl : fn = Tryd.f5 := (Option.some.inj (Tryd.func5.symm.trans hfn)).symm
      exact ⟨by kernel_rfl, fun j t ht => by
        rw [Tryd.params5] at ht
        have hm : t ∈ [9, 9, 9] := by
          have := Array.mem_of_getElem? ht
          simpa using this
        exact List.all_eq_true.1 (show ([9, 9, 9] : List TypeId).all (fun t => !Tryd.prog.wantsStandIn t) = true by kernel_rfl) t hm |> fun h => by show Tryd.prog.wantsStandIn t = false; simpa using h⟩)
    (by kernel_rfl)
#print axioms proved
end bracketBehind

end Go.Proofs.YtmoiiidfhkfdgaaDoor
