/-
  EreTurned: a regex of letters, groups, bars, and repetitions, written in both ways, has one tree. For every input; the tables of the library lie as start-up lays them (tied).
-/
import Derived.Test.YtepeomphikhbkaaGreatDoorCards
import Derived.Test.YtepeomphikhbkaaGreatDoorTie
import Derived.Test.YtepeomphikhbkaaGreatDoorM04
import Derived.Test.YtepeomphikhbkaaGreatDoorM17
import Derived.Test.YtepeomphikhbkaaGreatDoorM21
import Derived.Test.YtepeomphikhbkaaGreatDoorM30
import Derived.Test.YtepeomphikhbkaaGreatDoorM36
import Derived.Test.YtepeomphikhbkaaGreatDoorM42
import Derived.Test.YtepeomphikhbkaaGreatDoorM43

namespace Go.Proofs.YtepeomphikhbkaaGreatDoor
open Go.RowKit

/-- The signs so far, and where they stand. -/
def TkAt (k : Nat) (v3 v4 v5 v6 : Value) : Prop := ∃ T d f, TInv k T d f ∧ v3 = .string ⟨(txs false T).toArray⟩ ∧ v4 = .string ⟨(txs true T).toArray⟩ ∧ v5 = .int .i64 (d : Nat) ∧ v6 = .bool f

set_option maxRecDepth 100000 in
set_option maxHeartbeats 4000000 in
theorem lawEreTurned (l : List UInt8) (u : Value) (w : World) (hl : l.length ≤ maxLen) (hu : SB w l u) (hE : Env w) :
    Calls Tryz.prog 4 #[u] w fun e w' => e = .returned (.bool true) ∧ Fr nob w w' := by
  unfold maxLen at hl
  obtain ⟨ua, uc, hus⟩ := hu.shape
  have HU := Lib.hid hu; have HE := Lib.hid hE; clear hu hE
  subst hus
  have HA1 := Lib.hid (awake5_any w HE.out)
  by_cases h40 : 40 < l.length
  · have h1 : (40 : Int) < l.length := by omega
    go_enter Tryz.func4, Tryz.ntmps4
    go_wp2_with fail
    refine HA1.out.mono ?_
    rintro e w1 ⟨rfl, f1⟩
    have F1 := Lib.hid f1; clear f1
    go_wp2_with fail
    refine (awake5_any w1 (HE.out.on F1.out)).mono ?_
    rintro e w2 ⟨rfl, f2⟩
    have F2 := Lib.hid (F1.out.trans' f2); clear f2
    go_wp2
    go_ret
    exact ⟨rfl, F2.out⟩
  have h1 : ¬ (40 : Int) < l.length := by omega
  have hla : l.length ≤ 40 := by omega
  have HLA := Lib.hid hla
  clear h40 hl hla
  go_enter Tryz.func4, Tryz.ntmps4
  go_wp2_with fail
  refine HA1.out.mono ?_
  rintro e w1 ⟨rfl, f1⟩
  have F1 := Lib.hid f1; clear f1
  go_wp2_with fail
  go_loopw [3, 4, 5, 6, 29] (fun v3 v4 v5 v6 i wr => ∃ k : Nat, i = .int .i64 k ∧ k ≤ l.length ∧ TkAt k v3 v4 v5 v6 ∧ Fr nob w wr) (fun _ _ _ _ i _ => l.length - (intOf i).toNat)
  case atStart => exact ⟨0, rfl, Nat.zero_le _, ⟨[], 0, true, .start, rfl, rfl, rfl, rfl⟩, F1.out⟩
  case round =>
    obtain ⟨k, rfl, hk, ⟨T, d, f, ti, rfl, rfl, rfl, rfl⟩, fr⟩ := hrel
    have FR := Lib.hid fr; clear fr
    by_cases hlt : k < l.length
    · obtain ⟨q, off, cap, he, hc⟩ := HU.out.get FR.out hlt
      injection he with e1 e2 e3
      subst e1; subst e3
      clear e2
      obtain ⟨x, hx⟩ : ∃ x, l[k] = x := ⟨_, rfl⟩
      rw [hx] at hc
      have ha := ti.sz false
      have hb := ti.sz true
      have hd12 := ti.dl
      have hk40 := HLA.out
      have TI := Lib.hid ti
      obtain ⟨A, hA⟩ : ∃ A, txs false T = A := ⟨_, rfl⟩
      obtain ⟨B, hB⟩ : ∃ B, txs true T = B := ⟨_, rfl⟩
      have HAB := Lib.hid (And.intro hA hB)
      rw [hA] at ha ⊢
      rw [hB] at hb ⊢
      have hla : A.length ≤ 280 := by omega
      have hlb : B.length ≤ 280 := by omega
      clear hx ti hA hB ha hb
      have hx10 : x.toNat % 10 < 10 := Nat.mod_lt _ (by omega)
      have hr : (x.toNat : Int) % 10 = ((x.toNat % 10 : Nat) : Int) := by omega
      obtain ⟨m, hm⟩ : ∃ m, x.toNat % 10 = m := ⟨_, rfl⟩
      rw [hm] at hr hx10
      clear hm
      rcases (show m = 0 ∨ m = 1 ∨ m = 2 ∨ m = 3 ∨ m = 4 ∨ m = 5 ∨ m = 6 ∨ m = 7 ∨ m = 8 ∨ m = 9 by omega) with rfl | rfl | rfl | rfl | rfl | rfl | rfl | rfl | rfl | rfl
      · go_wp2
        go_roundw
        case rel => exact ⟨k + 1, by go_num, by omega, ⟨T ++ [(.ch 97)], d, false, TI.out.add (.ch 97) hd12 (fun r h => ⟨by simp, h⟩), by rw [txs_snoc, HAB.out.1]; rfl, by rw [txs_snoc, HAB.out.2]; rfl, rfl, rfl⟩, by first | exact FR.out | exact FR.out.drew | exact FR.out.drew.drew⟩
        case measure => simp [intOf]; omega
      · go_wp2
        go_roundw
        case rel => exact ⟨k + 1, by go_num, by omega, ⟨T ++ [(.ch 97)], d, false, TI.out.add (.ch 97) hd12 (fun r h => ⟨by simp, h⟩), by rw [txs_snoc, HAB.out.1]; rfl, by rw [txs_snoc, HAB.out.2]; rfl, rfl, rfl⟩, by first | exact FR.out | exact FR.out.drew | exact FR.out.drew.drew⟩
        case measure => simp [intOf]; omega
      · go_wp2
        go_roundw
        case rel => exact ⟨k + 1, by go_num, by omega, ⟨T ++ [(.ch 98)], d, false, TI.out.add (.ch 98) hd12 (fun r h => ⟨by simp, h⟩), by rw [txs_snoc, HAB.out.1]; rfl, by rw [txs_snoc, HAB.out.2]; rfl, rfl, rfl⟩, by first | exact FR.out | exact FR.out.drew | exact FR.out.drew.drew⟩
        case measure => simp [intOf]; omega
      · by_cases hc : d < 12
        · have hcI : (d : Int) < 12 := by omega
          go_wp2
          go_roundw
          case rel => exact ⟨k + 1, by go_num, by omega, ⟨T ++ [.opn], (d + 1), true, TI.out.add .opn (by omega) (fun r h => ⟨hc, h⟩), by rw [txs_snoc, HAB.out.1]; rfl, by rw [txs_snoc, HAB.out.2]; rfl, by go_num, rfl⟩, by first | exact FR.out | exact FR.out.drew | exact FR.out.drew.drew⟩
          case measure => simp [intOf]; omega
        · have hcI : ¬ (d : Int) < 12 := by omega
          go_wp2
          go_roundw
          case rel => exact ⟨k + 1, by go_num, by omega, ⟨T, d, f, TI.out.skip, by rw [HAB.out.1], by rw [HAB.out.2], rfl, rfl⟩, by first | exact FR.out | exact FR.out.drew | exact FR.out.drew.drew⟩
          case measure => simp [intOf]; omega
      · by_cases hc : 0 < d
        · have hcI : (0 : Int) < (d : Int) := by omega
          go_wp2
          go_roundw
          case rel => exact ⟨k + 1, by go_num, by omega, ⟨T ++ [.cls], (d - 1), false, TI.out.add .cls (by omega) (fun r h => ⟨hc, h⟩), by rw [txs_snoc, HAB.out.1]; rfl, by rw [txs_snoc, HAB.out.2]; rfl, by go_num, rfl⟩, by first | exact FR.out | exact FR.out.drew | exact FR.out.drew.drew⟩
          case measure => simp [intOf]; omega
        · have hcI : ¬ (0 : Int) < (d : Int) := by omega
          go_wp2
          go_roundw
          case rel => exact ⟨k + 1, by go_num, by omega, ⟨T, d, f, TI.out.skip, by rw [HAB.out.1], by rw [HAB.out.2], rfl, rfl⟩, by first | exact FR.out | exact FR.out.drew | exact FR.out.drew.drew⟩
          case measure => simp [intOf]; omega
      · go_wp2
        go_roundw
        case rel => exact ⟨k + 1, by go_num, by omega, ⟨T ++ [.bar], d, true, TI.out.add .bar hd12 (fun r h => h), by rw [txs_snoc, HAB.out.1]; rfl, by rw [txs_snoc, HAB.out.2]; rfl, rfl, rfl⟩, by first | exact FR.out | exact FR.out.drew | exact FR.out.drew.drew⟩
        case measure => simp [intOf]; omega
      · cases f with
        | false =>
            go_wp2
            go_roundw
            case rel => exact ⟨k + 1, by go_num, by omega, ⟨T ++ [.star], d, false, TI.out.add .star hd12 (fun r h => ⟨rfl, h⟩), by rw [txs_snoc, HAB.out.1]; rfl, by rw [txs_snoc, HAB.out.2]; rfl, rfl, rfl⟩, by first | exact FR.out | exact FR.out.drew | exact FR.out.drew.drew⟩
            case measure => simp [intOf]; omega
        | true =>
            go_wp2
            go_roundw
            case rel => exact ⟨k + 1, by go_num, by omega, ⟨T, d, true, TI.out.skip, by rw [HAB.out.1], by rw [HAB.out.2], rfl, rfl⟩, by first | exact FR.out | exact FR.out.drew | exact FR.out.drew.drew⟩
            case measure => simp [intOf]; omega
      · cases f with
        | false =>
            go_wp2
            go_roundw
            case rel => exact ⟨k + 1, by go_num, by omega, ⟨T ++ [.plus], d, false, TI.out.add .plus hd12 (fun r h => ⟨rfl, h⟩), by rw [txs_snoc, HAB.out.1]; rfl, by rw [txs_snoc, HAB.out.2]; rfl, rfl, rfl⟩, by first | exact FR.out | exact FR.out.drew | exact FR.out.drew.drew⟩
            case measure => simp [intOf]; omega
        | true =>
            go_wp2
            go_roundw
            case rel => exact ⟨k + 1, by go_num, by omega, ⟨T, d, true, TI.out.skip, by rw [HAB.out.1], by rw [HAB.out.2], rfl, rfl⟩, by first | exact FR.out | exact FR.out.drew | exact FR.out.drew.drew⟩
            case measure => simp [intOf]; omega
      · cases f with
        | false =>
            go_wp2
            go_roundw
            case rel => exact ⟨k + 1, by go_num, by omega, ⟨T ++ [.itv], d, false, TI.out.add .itv hd12 (fun r h => ⟨rfl, h⟩), by rw [txs_snoc, HAB.out.1]; rfl, by rw [txs_snoc, HAB.out.2]; rfl, rfl, rfl⟩, by first | exact FR.out | exact FR.out.drew | exact FR.out.drew.drew⟩
            case measure => simp [intOf]; omega
        | true =>
            go_wp2
            go_roundw
            case rel => exact ⟨k + 1, by go_num, by omega, ⟨T, d, true, TI.out.skip, by rw [HAB.out.1], by rw [HAB.out.2], rfl, rfl⟩, by first | exact FR.out | exact FR.out.drew | exact FR.out.drew.drew⟩
            case measure => simp [intOf]; omega
      · go_wp2
        go_roundw
        case rel => exact ⟨k + 1, by go_num, by omega, ⟨T ++ [(.ch 46)], d, false, TI.out.add (.ch 46) hd12 (fun r h => ⟨by simp, h⟩), by rw [txs_snoc, HAB.out.1]; rfl, by rw [txs_snoc, HAB.out.2]; rfl, rfl, rfl⟩, by first | exact FR.out | exact FR.out.drew | exact FR.out.drew.drew⟩
        case measure => simp [intOf]; omega
    · obtain rfl : k = l.length := by omega
      have hk40 := HLA.out
      have hd12 := ti.dl
      have hsa := fun i => cls_size false T i
      have hsb := fun i => cls_size true T i
      have ha := ti.sz false
      have hb := ti.sz true
      have HSA := Lib.hid hsa; have HSB := Lib.hid hsb; have HA := Lib.hid ha; have HB := Lib.hid hb; have TI := Lib.hid ti
      clear hsa hsb ha hb ti
      go_wp2_with fail
      go_loopw [3, 4, 74] (fun v3 v4 j wr => ∃ i : Nat, j = .int .i64 i ∧ i ≤ d ∧ v3 = .string ⟨(txs false (T ++ List.replicate i .cls)).toArray⟩ ∧ v4 = .string ⟨(txs true (T ++ List.replicate i .cls)).toArray⟩ ∧ Fr nob w wr) (fun _ _ j _ => d - (intOf j).toNat)
      case atStart => exact ⟨0, rfl, Nat.zero_le _, by simp, by simp, FR.out⟩
      case round =>
        obtain ⟨i, rfl, hi, rfl, rfl, fr⟩ := hrel
        have FR2 := Lib.hid fr; clear fr
        have hla : (txs false (T ++ List.replicate i .cls)).length ≤ 400 := by have := HSA.out i; have := HA.out; omega
        have hlb : (txs true (T ++ List.replicate i .cls)).length ≤ 400 := by have := HSB.out i; have := HB.out; omega
        obtain ⟨A, hA⟩ : ∃ A, txs false (T ++ List.replicate i .cls) = A := ⟨_, rfl⟩
        obtain ⟨B, hB⟩ : ∃ B, txs true (T ++ List.replicate i .cls) = B := ⟨_, rfl⟩
        have HAB := Lib.hid (And.intro hA hB)
        rw [hA] at hla ⊢
        rw [hB] at hlb ⊢
        clear hA hB
        by_cases hlt2 : i < d
        · go_wp2
          go_roundw
          case rel => exact ⟨i + 1, by go_num, by omega, by rw [cls_snoc, txs_snoc, HAB.out.1]; rfl, by rw [cls_snoc, txs_snoc, HAB.out.2]; rfl, by first | exact FR2.out | exact FR2.out.drew | exact FR2.out.drew.drew⟩
          case measure => simp [intOf]; omega
        · obtain rfl : i = d := by omega
          have hwf := TI.out.wf _ (wf_cls i f)
          obtain ⟨t, htk⟩ := tok_parse hwf
          have hab := txs_le (T ++ List.replicate i .cls)
          rw [HAB.out.1, HAB.out.2] at hab
          by_cases h250 : 250 < A.length
          · have h250I : (250 : Int) < A.length := by omega
            clear htk hwf
            go_wp2
            go_ret
            exact ⟨rfl, by first | exact FR2.out | exact FR2.out.drew⟩
          · have h250I : ¬ (250 : Int) < A.length := by omega
            obtain ⟨s1, hp1, _⟩ := htk false (by rw [HAB.out.1]; omega)
            obtain ⟨s2, hp2, hm2⟩ := htk true (by rw [HAB.out.2]; omega)
            rw [HAB.out.1, parse_bre] at hp1
            rw [HAB.out.2] at hp2
            obtain ⟨zt, _, _⟩ := parse_size hp1
            have HZT := Lib.hid zt
            have HBP := Lib.hid (fun w' (f : Fr nob w w') => by have := bre_parse A w' (by omega) (HE.out.on f); rw [hp1] at this; exact this)
            have HEP := Lib.hid (fun w' (f : Fr nob w w') => by have := ere_parse B w' (by omega) (HE.out.on f); rw [hp2] at this; exact this)
            have HM2 := Lib.hid (hm2 rfl)
            clear htk hwf hp1 hp2 hm2 zt
            go_wp2_with fail
            refine (HBP.out _ FR2.out).mono ?_
            rintro e w2 ⟨f2, i1, y1, mv1, rfl, rn1, ma1⟩
            have F2 := Lib.hid (FR2.out.trans' f2); have RN1 := Lib.hid rn1; clear f2 rn1 ma1
            go_wp2_with fail
            refine (HEP.out _ F2.out).mono ?_
            rintro e w3 ⟨f3, r2, mv2, rfl, rn2, ma2⟩
            obtain ⟨am2, cm2, hm2⟩ := ownsRow_slice ma2
            rw [HM2.out] at hm2
            subst hm2
            have F3 := Lib.hid (F2.out.trans' f3); have RN1' := Lib.hid (RN1.out.on f3); have RN2 := Lib.hid rn2; clear f3 rn2 ma2
            go_wp2_with fail
            refine (same_any t.size t t _ _ w3 (Nat.le_refl _) (by have := HZT.out; omega) (by have := HZT.out; omega) RN1'.out RN2.out).mono ?_
            rintro e w4 ⟨r, rfl, hr, f4⟩
            obtain rfl : r = true := hr.2 rfl
            have F4 := Lib.hid (F3.out.trans' f4); clear f4
            go_wp2
            go_ret
            exact ⟨rfl, F4.out⟩

namespace ereTurned
open Go.ChangeShapes Go.WideShapes Go.ChangeAt Go.RowKit
open Go.ChangeMaps (open_string shut_string)

theorem readable : ∀ t ∈ Tryz.f4.params.toList, Tryz.prog.readableRec t = true ∧ t < Tryz.prog.types.size := by
  rw [Tryz.params4]
  intro t ht
  simp only [List.mem_cons, List.not_mem_nil, or_false] at ht
  subst ht
  exact ⟨by kernel_rfl, of_decide_eq_true (by kernel_rfl)⟩

set_option maxRecDepth 100000 in
theorem lifted (os : Os) (started : os.Started) (H : Type) (enc : TypeId × Value → H) :
    ReturnsInHanded {} Tryz.checked os 4 .any (fun w args => (Rows.ereTurnedSpec.pre enc Tryz.prog Tryz.f4 [] false w args ∧ laidMetH Tryz.prog door.list1 w) ∧ sizedMet enc Tryz.prog Tryz.f4 (OpenSpec.ofChange Rows.ereTurnedSpec) false w args)
      (Rows.ereTurnedSpec.post enc Tryz.prog Tryz.f4 false true false false) := by
  refine returns_door (C := Tryz.checked) (X := fun w _ => laidMetH Tryz.prog door.list1 w) (fun _ _ _ hh h => h.of_heap hh) door.own started (by kernel_rfl) Tryz.func4
    (ChangeSpec.witness_shaped (enc := enc) (C := Tryz.checked) (os := os) (X := fun w _ => laidMetH Tryz.prog door.list1 w) false (World.doorLaid Tryz.prog 14 os) #[.slice none 0 0] 8 rfl (World.shaped_of_RefB (by kernel_rfl) (by kernel_rfl)) (by kernel_rfl) (by kernel_rfl) (by kernel_rfl) (door.met os _)) ?_
  intro W base args ds gs before hval0 hW _ hL hsh
  have hval : ∀ (j : Nat) t v, Tryz.f4.params[j]? = some t → args[j]? = some v → Value.okWide Tryz.prog W .any base t v := hval0
  have hW' : DataW.Whole enc Tryz.prog Tryz.f4.params.toList Rows.ereTurnedSpec.vars false W args.toList ds gs before := hW
  obtain ⟨p, q, hA0, hV, rfl, hfz, hnd⟩ := hW
  have hA : DataW.TrodAll enc Tryz.prog W 0 (fun _ => true) true Tryz.f4.params.toList args.toList ds p := hA0
  rw [Tryz.params4] at hA hval
  obtain ⟨v0, vs0, d0, ds0, p0, q0, hargs, rfl, rfl, h0, r0⟩ := trodAll_cons hA
  obtain ⟨rfl, rfl, rfl⟩ := trodAll_nil r0
  obtain rfl : args = #[v0] := by cases args; simp_all
  obtain ⟨rfl, rfl⟩ := trodVars_none hV
  obtain ⟨l0, wl0, sb0⟩ := open_bytes Tryz.underlying42 Tryz.underlying5 (by kernel_rfl) (hval 0 42 v0 rfl rfl) h0
  refine (show Calls Tryz.prog 4 #[v0] W _ from ?_).mono fun e W' h => h
  refine (lawEreTurned l0 v0 W wl0 sb0 (door.env hL hsh)).mono fun e W' ⟨he, hg⟩ => ?_
  subst he
  exact ⟨_, rfl, law_post rfl (by kernel_rfl) Tryz.underlying4 door.laidOut readable rfl hW' hg.below⟩

theorem over : Rows.ereTurnedRow.holds Tryz.pinned (OpenSpec.ofChange Rows.ereTurnedSpec) :=
  OpenClaim.holds_of_wide 4 Tryz.f4 rfl rfl rfl rfl rfl rfl rfl ⟨rfl, rfl, rfl, rfl, rfl⟩ rfl rfl rfl rfl rfl (by kernel_rfl) Tryz.func4 (by kernel_rfl)
    (of_decide_eq_true (by kernel_rfl)) (by unfold Func.isWrapper; first | (rw [if_pos (by decide +kernel)]; kernel_rfl) | (rw [if_neg (by decide +kernel)]; exact ⟨rfl, rfl⟩))
    (fun os started H enc _ => lifted os started H enc)

/-- THE STATEMENT: the tied card. -/
theorem proved : Rows.EreTurnedCardSaid :=
  Claim7.holds_tied_plain_at .later [] [.data] true _ true over (fun _ h => by cases h) (by kernel_rfl) (fun _ h => by cases h) ereTurned_row_tie rfl ⟨rfl, rfl⟩ (by kernel_rfl) rfl
    (fun f fn hf hfn => by
      obtain rfl : f = 4 := (Option.some.inj ((show Tryz.prog.funcNamed "placket/placketlaw05.EreTurned" = some 4 by kernel_rfl).symm.trans hf)).symm
      obtain rfl : fn = Tryz.f4 := (Option.some.inj (Tryz.func4.symm.trans hfn)).symm
      exact ⟨by kernel_rfl, fun j t ht => by
        rw [Tryz.params4] at ht
        have hm : t ∈ [42] := by
          have := Array.mem_of_getElem? ht
          simpa using this
        exact List.all_eq_true.1 (show ([42] : List TypeId).all (fun t => !Tryz.prog.wantsStandIn t) = true by kernel_rfl) t hm |> fun h => by show Tryz.prog.wantsStandIn t = false; simpa using h⟩)
    (by kernel_rfl)
#print axioms proved
end ereTurned

end Go.Proofs.YtepeomphikhbkaaGreatDoor
