/-
  BracketNots: what stands behind ^ has just the other bytes, one place further on. For every input; the tables of the library lie as start-up lays them (tied).
-/
import Derived.Test.YtmoiiidfhkfdgaaDoorBrkQ
import Derived.Test.YtmoiiidfhkfdgaaDoorBrkR
import Derived.Test.YtmoiiidfhkfdgaaDoorDoorB
import Derived.Test.YtmoiiidfhkfdgaaDoorClaimB
import Derived.Test.YtmoiiidfhkfdgaaDoorCards
import Derived.Test.YtmoiiidfhkfdgaaDoorTie
namespace Go.Proofs.YtmoiiidfhkfdgaaDoor
open Go.RowKit

theorem prt_err {l : List UInt8} {a : Nat} {z : Int × Nat} (h : prt l a = .inl z) : z.1 ≠ 0 := by
  unfold prt at h
  split at h
  · next e he => injection h with h; subst h; exact itm_err he
  · split at h
    · split at h
      · next e he => injection h with h; subst h; exact itm_err he
      · split at h
        · split at h
          · cases h
          · injection h with h; subst h; simp
        · injection h with h; subst h; simp
    · cases h
theorem lop_err {l : List UInt8} : ∀ {n a : Nat} {o : S4} {z : Int × Nat}, a ≤ l.length → l.length < n + a → lop l n a o = .inl z → z.1 ≠ 0
  | 0, a, _, _, h, h', _ => by omega
  | n + 1, a, o, z, h, h', hz => by
    rw [lop] at hz
    split at hz
    · cases hz
    · cases hp : prt l a with
      | inl y => rw [hp] at hz; injection hz with hz; subst hz; exact prt_err hp
      | inr x => rw [hp] at hz; have := prt_next hp; exact lop_err this.2.1 (by omega) hz
theorem prs_err {l : List UInt8} {a : Nat} {z : Int × Nat} (h : prs l a = .inl z) : z.1 ≠ 0 := by
  have key : ∀ b d, ends d (bod l b) = .inl z → z.1 ≠ 0 := by
    intro b d hb
    unfold bod at hb
    cases hp : prt l b with
    | inl y => rw [hp] at hb; injection hb with hb; subst hb; exact prt_err hp
    | inr x =>
      rw [hp] at hb
      simp only at hb
      cases hq : lop l (l.length + 1) x.2 x.1 with
      | inl y => rw [hq] at hb; injection hb with hb; subst hb; have := prt_next hp; exact lop_err this.2.1 (by omega) hq
      | inr y => rw [hq] at hb; cases hb
  by_cases hc : l[a]? = some 94
  · rw [prs_t hc] at h; exact key _ _ h
  · rw [prs_f hc] at h; exact key _ _ h
theorem prs_in {l : List UInt8} {a : Nat} {y : S4 × Nat} (h : prs l a = .inr y) : y.1.fit ∧ y.2 ≤ l.length := by
  have key : ∀ b d, ends d (bod l b) = .inr y → y.1.fit ∧ y.2 ≤ l.length := by
    intro b d hb
    unfold bod at hb
    cases hp : prt l b with
    | inl z => rw [hp] at hb; cases hb
    | inr x =>
      rw [hp] at hb
      simp only at hb
      cases hq : lop l (l.length + 1) x.2 x.1 with
      | inl z => rw [hq] at hb; cases hb
      | inr z =>
        rw [hq] at hb; injection hb with hb; subst hb
        have h1 := prt_next hp
        have h2 := lop_next h1.2.2 hq
        refine ⟨?_, by simp only; omega⟩
        cases d
        · exact h2.2.2
        · exact fit_not _
  by_cases hc : l[a]? = some 94
  · rw [prs_t hc] at h; exact key _ _ h
  · rw [prs_f hc] at h; exact key _ _ h

set_option maxRecDepth 100000 in
set_option maxHeartbeats 2000000 in
theorem lawNots (l : List UInt8) (w : World) (hl : l.length ≤ 9223372036854775807) (hE : Env w) :
    Calls Tryd.prog 4 #[.string ⟨l.toArray⟩] w fun e w' => e = .returned (.bool true) ∧ Fr nob w w' := by
  have HE := Lib.hid hE; clear hE
  by_cases hlen : l.length ≤ 300
  · have h300 : ¬ (300 : Int) < l.length := by omega
    cases l with
    | nil =>
      clear hl hlen
      go_enter Tryd.func4, Tryd.ntmps4
      go_wp2_with fail
      refine (awake2_any _ HE.out).mono ?_
      rintro e w1 ⟨rfl, f1⟩
      go_wp2_with fail
      refine (awake2_any _ (HE.out.on f1)).mono ?_
      rintro e w2 ⟨rfl, f2⟩
      go_wp2
      go_ret
      exact ⟨rfl, f1.trans' f2⟩
    | cons c t =>
      by_cases hc : c = 94
      · have u1 : ((c.toNat : Int) == 94) = true := tb_eq hc
        clear hc
        go_enter Tryd.func4, Tryd.ntmps4
        go_wp2_with fail
        refine (awake2_any _ HE.out).mono ?_
        rintro e w1 ⟨rfl, f1⟩
        go_wp2_with fail
        refine (awake2_any _ (HE.out.on f1)).mono ?_
        rintro e w2 ⟨rfl, f2⟩
        go_wp2
        go_ret
        exact ⟨rfl, f1.trans' f2⟩
      · have u1 : ((c.toNat : Int) == 94) = false := tb_ne hc
        have hp2 := prs_not (l := c :: t) (by simpa using hc)
        clear hc
        have c1 := fun w (h : Env w) => parse_all (c :: t) 0 w (by omega) h
        have c2 := fun w (h : Env w) => parse_all (94 :: c :: t) 0 w (by simp at hlen ⊢; omega) h
        rw [show prz (c :: t) 0 = prs (c :: t) 0 from prz_in (a := 0) (Nat.zero_le _)] at c1
        rw [show prz (94 :: c :: t) 0 = prs (94 :: c :: t) 0 from prz_in (a := 0) (Nat.zero_le _), hp2] at c2
        clear hp2
        have hlt : (t.length : Int) + 1 ≤ 300 := by simp at hlen; omega
        cases hP : prs (c :: t) 0 with
        | inl z =>
          rw [hP] at c1 c2
          have hz := prs_err hP
          have v1 : (z.1 != 0) = true := by simpa using hz
          have v2 : (z.1 != z.1) = false := by simp
          rw [show prsV (.inl z) = .tuple #[setV S4.zero, .int .i64 z.2, .int .i64 z.1] from rfl] at c1
          simp only at c2
          rw [show prsV (.inl (z.1, z.2 + 1)) = .tuple #[setV S4.zero, .int .i64 (z.2 + 1 : Nat), .int .i64 z.1] from rfl] at c2
          have C1 := Lib.hid c1; have C2 := Lib.hid c2
          clear c1 c2 hP hz
          go_enter Tryd.func4, Tryd.ntmps4
          go_wp2_with fail
          refine (awake2_any _ HE.out).mono ?_
          rintro e w1 ⟨rfl, f1⟩
          go_wp2_with fail
          refine (C1.out _ (HE.out.on f1)).mono ?_
          rintro e w2 ⟨rfl, f2⟩
          go_wp2_with fail
          refine (C2.out _ ((((HE.out.on f1)).on f2).on ((Fr.refl _ _).alloc _))).mono ?_
          rintro e w3 ⟨rfl, f3⟩
          have F3 := Lib.hid (f1.trans' (f2.trans' (((Fr.refl _ _).alloc _).trans' f3)))
          clear f1 f2 f3
          go_wp2_with fail
          refine region_fr 11 (by kernel_rfl) (by kernel_rfl) ?_
          simp only [List.take_succ_cons, List.take_zero, List.drop_succ_cons, List.drop_zero]
          repeat (go_big_quiet_step (fail))
          refine wpQuiet_nil ?_
          intro wC fC
          go_wp2
          go_ret
          exact ⟨rfl, F3.out.trans' (((Fr.refl _ _).alloc _).trans' fC)⟩
        | inr y =>
          rw [hP] at c1 c2
          have hin := prs_in hP
          obtain ⟨S, P⟩ := y
          simp only at hin c1 c2
          rw [show prsV (.inr (S, P)) = .tuple #[setV S, .int .i64 P, .int .i64 0] from rfl] at c1
          obtain ⟨N, hN⟩ : ∃ N, S.not = N := ⟨_, rfl⟩
          have hNN : N.not = S := by rw [← hN]; exact S4.not_not hin.1
          rw [hN] at c2
          rw [show prsV (.inr (N, P + 1)) = .tuple #[setV N, .int .i64 (P + 1 : Nat), .int .i64 0] from rfl] at c2
          have hPl : (P : Int) ≤ 300 := by have := hin.2; simp at this; omega
          have hwp : IntKind.i64.wrap ((P : Int) + 1) = (P : Int) + 1 := IntWalk.i64_in _ (by omega)
          have hse := S4.same_refl S
          have c3 := fun w => not_lit N w
          rw [hNN] at c3
          have C1 := Lib.hid c1; have C2 := Lib.hid c2; have C3 := Lib.hid c3
          clear c1 c2 c3 hP hin hN hNN
          go_enter Tryd.func4, Tryd.ntmps4
          go_wp2_with fail
          refine (awake2_any _ HE.out).mono ?_
          rintro e w1 ⟨rfl, f1⟩
          go_wp2_with fail
          refine (C1.out _ (HE.out.on f1)).mono ?_
          rintro e w2 ⟨rfl, f2⟩
          go_wp2_with fail
          refine (C2.out _ ((((HE.out.on f1)).on f2).on ((Fr.refl _ _).alloc _))).mono ?_
          rintro e w3 ⟨rfl, f3⟩
          have hb := f3.heap (heap_alloc_new w2 (.cells #[.int .u64 S.a, .int .u64 S.b, .int .u64 S.c, .int .u64 S.d] 25)) (fun x => x)
          obtain ⟨w4, hw4⟩ : ∃ w4, w4 = w3.alloc (.cells #[.int .u64 N.a, .int .u64 N.b, .int .u64 N.c, .int .u64 N.d] 25) := ⟨_, rfl⟩
          have f4 : Fr nob w3 w4 := by rw [hw4]; exact (Fr.refl _ _).alloc _
          have r0 := rule4 (f4.heap hb (fun x => x))
          have r1 := rule4 (show w4.heap[w3.heap.size]? = _ by rw [hw4]; exact newAt _ _)
          have F4 := Lib.hid ((f1.trans' (f2.trans' (((Fr.refl _ _).alloc _).trans' f3))).trans' f4)
          have HW4 := Lib.hid hw4
          clear hb f1 f2 f3 f4 hw4
          go_wp2_with fail
          rw [← HW4.out]
          refine region_fr 11 (by kernel_rfl) (by kernel_rfl) ?_
          simp only [List.take_succ_cons, List.take_zero, List.drop_succ_cons, List.drop_zero]
          repeat (go_big_quiet_step ((with_reducible exact calls_fr (C3.out _))))
          refine wpQuiet_nil ?_
          intro wC fC
          go_wp2
          go_ret
          exact ⟨by simp, F4.out.trans' fC⟩
  · have h300 : (300 : Int) < l.length := by omega
    go_enter Tryd.func4, Tryd.ntmps4
    go_wp2_with fail
    refine (awake2_any _ HE.out).mono ?_
    rintro e w1 ⟨rfl, f1⟩
    go_wp2_with fail
    refine (awake2_any _ (HE.out.on f1)).mono ?_
    rintro e w2 ⟨rfl, f2⟩
    go_wp2
    go_ret
    exact ⟨rfl, f1.trans' f2⟩

namespace bracketNots
open Go.ChangeShapes Go.WideShapes Go.ChangeAt Go.RowKit
open Go.ChangeMaps (open_string shut_string)

theorem readable : ∀ t ∈ Tryd.f4.params.toList, Tryd.prog.readableRec t = true ∧ t < Tryd.prog.types.size := by
  rw [Tryd.params4]
  intro t ht
  simp only [List.mem_cons, List.not_mem_nil, or_false] at ht
  subst ht
  exact ⟨by kernel_rfl, of_decide_eq_true (by kernel_rfl)⟩

set_option maxRecDepth 100000 in
theorem lifted (os : Os) (started : os.Started) (H : Type) (enc : TypeId × Value → H) :
    ReturnsInHanded {} Tryd.checked os 4 .any (fun w args => (Rows.bracketNotsSpec.pre enc Tryd.prog Tryd.f4 [] false w args ∧ laidMetH Tryd.prog door.list1 w) ∧ sizedMet enc Tryd.prog Tryd.f4 (OpenSpec.ofChange Rows.bracketNotsSpec) false w args)
      (Rows.bracketNotsSpec.post enc Tryd.prog Tryd.f4 false true false false) := by
  refine returns_door (C := Tryd.checked) (X := fun w _ => laidMetH Tryd.prog door.list1 w) (fun _ _ _ hh h => h.of_heap hh) door.own started (by kernel_rfl) Tryd.func4
    (ChangeSpec.witness_shaped (enc := enc) (C := Tryd.checked) (os := os) (X := fun w _ => laidMetH Tryd.prog door.list1 w) false (World.doorLaid Tryd.prog 14 os) #[.string ByteArray.empty] 8 rfl (World.shaped_of_RefB (by kernel_rfl) (by kernel_rfl)) (by kernel_rfl) (by kernel_rfl) (by kernel_rfl) (door.met os _)) ?_
  intro W base args ds gs before hval0 hW _ hL hsh
  have hval : ∀ (j : Nat) t v, Tryd.f4.params[j]? = some t → args[j]? = some v → Value.okWide Tryd.prog W .any base t v := hval0
  have hW' : DataW.Whole enc Tryd.prog Tryd.f4.params.toList Rows.bracketNotsSpec.vars false W args.toList ds gs before := hW
  obtain ⟨p, q, hA0, hV, rfl, hfz, hnd⟩ := hW
  have hA : DataW.TrodAll enc Tryd.prog W 0 (fun _ => true) true Tryd.f4.params.toList args.toList ds p := hA0
  rw [Tryd.params4] at hA hval
  obtain ⟨v0, vs0, d0, ds0, p0, q0, hargs, rfl, rfl, h0, r0⟩ := trodAll_cons hA
  obtain ⟨rfl, rfl, rfl⟩ := trodAll_nil r0
  obtain rfl : args = #[v0] := by cases args; simp_all
  obtain ⟨rfl, rfl⟩ := trodVars_none hV
  obtain ⟨s0, rfl, _, _, ws0⟩ := open_string Tryd.underlying9 (hval 0 9 v0 rfl rfl) h0
  have hs0 : s0 = ⟨s0.data.toList.toArray⟩ := by simp
  refine (show Calls Tryd.prog 4 #[.string s0] W _ from ?_).mono fun e W' h => h
  rw [hs0]
  refine (lawNots s0.data.toList W (by unfold maxLen at ws0; exact ws0) (door.env hL hsh)).mono fun e W' ⟨he, hg⟩ => ?_
  subst he
  exact ⟨_, rfl, law_post rfl (by kernel_rfl) Tryd.underlying4 door.laidOut readable rfl hW' hg.below⟩

theorem over : Rows.bracketNotsRow.holds Tryd.pinned (OpenSpec.ofChange Rows.bracketNotsSpec) :=
  OpenClaim.holds_of_wide 4 Tryd.f4 rfl rfl rfl rfl rfl rfl rfl ⟨rfl, rfl, rfl, rfl, rfl⟩ rfl rfl rfl rfl rfl (by kernel_rfl) Tryd.func4 (by kernel_rfl)
    (of_decide_eq_true (by kernel_rfl)) (by unfold Func.isWrapper; first | (rw [if_pos (by decide +kernel)]; kernel_rfl) | (rw [if_neg (by decide +kernel)]; exact ⟨rfl, rfl⟩))
    (fun os started H enc _ => lifted os started H enc)

/-- THE STATEMENT: the tied card. -/
theorem proved : Rows.BracketNotsCardSaid :=
  Claim7.holds_tied_plain_at .later [] [.data] true _ false over (fun _ h => by cases h) (by kernel_rfl) (fun _ h => by cases h) bracketNots_row_tie rfl ⟨rfl, rfl⟩ (by kernel_rfl) rfl
    (fun f fn hf hfn => by
      obtain rfl : f = 4 := (Option.some.inj ((show Tryd.prog.funcNamed "placket/placketlaw02.BracketNots" = some 4 by kernel_rfl).symm.trans hf)).symm
      obtain rfl : fn = Tryd.f4 := (Option.some.inj (Tryd.func4.symm.trans hfn)).symm
      exact ⟨by kernel_rfl, fun j t ht => by
        rw [Tryd.params4] at ht
        have hm : t ∈ [9] := by
          have := Array.mem_of_getElem? ht
          simpa using this
        exact List.all_eq_true.1 (show ([9] : List TypeId).all (fun t => !Tryd.prog.wantsStandIn t) = true by kernel_rfl) t hm |> fun h => by show Tryd.prog.wantsStandIn t = false; simpa using h⟩)
    (by kernel_rfl)
#print axioms proved
end bracketNots

end Go.Proofs.YtmoiiidfhkfdgaaDoor
