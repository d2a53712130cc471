/-
  BrePlain: bytes that are none of punct, nor the byte A, are themselves, without a mark, whatever they are. For every input; the tables of the library lie as start-up lays them (tied).
-/
import Derived.Test.YtpcpmjaphjkphaaDoorCards
import Derived.Test.YtpcpmjaphjkphaaDoorTie
import Derived.Test.YtpcpmjaphjkphaaDoorM11
import Derived.Test.YtpcpmjaphjkphaaDoorM20
import Derived.Test.YtpcpmjaphjkphaaDoorM21

namespace Go.Proofs.YtpcpmjaphjkphaaDoor
open Go.RowKit

theorem sb_conv {w : World} {l : List UInt8} {u : Value} (h : SB w l u) (hne : l ≠ []) : (convert 56 9 u).run Tryd.prog w = .ok (.string ⟨l.toArray⟩) w := by
  rcases h with ⟨rfl, _⟩ | ⟨g, off, cap, rfl, _, h⟩
  · exact (hne rfl).elim
  · refine run_conv_bytes Tryd.underlying56 Tryd.underlying5 Tryd.underlying9 ⟨g, off, none⟩ cap l w ?_
    intro j v hj
    unfold bcells bcell at hj
    rw [List.getElem?_map] at hj
    cases hx : l[j]? with
    | none => rw [hx] at hj; cases hj
    | some x =>
      rw [hx] at hj
      injection hj with hj; subst hj
      have := h j x hx
      by_cases hj0 : j = 0
      · subst hj0; simpa [Addr.add] using this
      · simpa [Addr.add, hj0] using this
theorem telT_plain (l : List UInt8) : telT (l.map fun b => (b, [b])) = l := by
  induction l with
  | nil => rfl
  | cons a r ih => show a :: telT _ = _; rw [ih]
theorem plain_parse {l : List UInt8} (hne : l ≠ []) (hl : l.length ≤ 250) (h : ∀ b ∈ l, punctS.has b.toNat = false) : parseS prg l = .inr (joined (ones l), ⟨l.length, 0, [], []⟩) := by
  have := parse_tells (l.map fun b => (b, [b])) (fun x hx => by obtain ⟨b, hb, rfl⟩ := List.mem_map.1 hx; exact tel_plain (h b hb)) (by simpa using hne) (by rw [telT_plain]; exact hl)
  rw [telT_plain, telN_ones, List.map_map] at this
  rw [this]
  simp [Function.comp_def]

set_option maxRecDepth 100000 in
set_option maxHeartbeats 2000000 in
theorem lawBrePlain (l : List UInt8) (u : Value) (w : World) (hl : l.length ≤ maxLen) (hu : SB w l u) (hE : Env w) :
    Calls Tryd.prog 6 #[u] w fun e w' => e = .returned (.bool true) ∧ Fr nob w w' := by
  unfold maxLen at hl
  obtain ⟨ua, uc, hus⟩ := hu.shape
  have HU := Lib.hid hu; have HE := Lib.hid hE; clear hu hE
  subst hus
  have HA1 := Lib.hid (awake4_any w HE.out)
  by_cases h0 : l.length = 0
  · rw [h0] at HU ⊢
    clear hl
    go_enter Tryd.func6, Tryd.ntmps6
    go_wp2_with fail
    refine HA1.out.mono ?_
    rintro e w1 ⟨rfl, f1⟩
    have F1 := Lib.hid f1; clear f1
    go_wp2_with fail
    refine (awake4_any w1 (HE.out.on F1.out)).mono ?_
    rintro e w2 ⟨rfl, f2⟩
    have F2 := Lib.hid (F1.out.trans' f2); clear f2
    go_wp2
    go_ret
    exact ⟨rfl, F2.out⟩
  · have h0' : ((l.length : Int) == 0) = false := by simp only [beq_eq_false_iff_ne, ne_eq]; omega
    have h0'' : ¬ (l.length : Int) = 0 := by omega
    by_cases h100 : 100 < l.length
    · have h1 : (100 : Int) < l.length := by omega
      go_enter Tryd.func6, Tryd.ntmps6
      go_wp2_with fail
      refine HA1.out.mono ?_
      rintro e w1 ⟨rfl, f1⟩
      have F1 := Lib.hid f1; clear f1
      go_wp2_with fail
      refine (awake4_any w1 (HE.out.on F1.out)).mono ?_
      rintro e w2 ⟨rfl, f2⟩
      have F2 := Lib.hid (F1.out.trans' f2); clear f2
      go_wp2
      go_ret
      exact ⟨rfl, F2.out⟩
    · have h1 : ¬ (100 : Int) < l.length := by omega
      go_enter Tryd.func6, Tryd.ntmps6
      go_wp2_with fail
      refine HA1.out.mono ?_
      rintro e w1 ⟨rfl, f1⟩
      have F1 := Lib.hid f1; clear f1
      have hc := class_lit ⟨#[112, 117, 110, 99, 116]⟩ _ rfl w1
      rw [show clsSet (clsOf ⟨#[112, 117, 110, 99, 116]⟩) = punctS from rfl] at hc
      have hfit : punctS.fit := fit_clsSet _
      have hh := fun (b : UInt8) w => has_lit punctS b.toNat w hfit b.toNat_lt
      have HPP := Lib.hid (plain_parse (l := l) (by rintro rfl; simp at h0) (by omega))
      obtain ⟨S, hS⟩ : ∃ S, punctS = S := ⟨_, rfl⟩
      rw [hS] at hc hh HPP
      have HC := Lib.hid hc; have HH := Lib.hid hh
      clear hc hh hfit hS
      go_wp2_with fail
      refine HC.out.mono ?_
      rintro e w2 ⟨rfl, f2⟩
      have hb0 := heap_alloc_new w2 (.cells #[.int .u64 S.a, .int .u64 S.b, .int .u64 S.c, .int .u64 S.d] 37)
      have F2 := Lib.hid (F1.out.trans' (f2.alloc (.cells #[.int .u64 S.a, .int .u64 S.b, .int .u64 S.c, .int .u64 S.d] 37)))
      have HB0 := Lib.hid hb0
      clear f2 hb0
      go_wp2_with fail
      go_loopw [30] (fun i wr => ∃ k : Nat, i = .int .i64 k ∧ k ≤ l.length ∧ (∀ j, j < k → ∀ b, l[j]? = some b → S.has b.toNat = false) ∧ wr.heap[w2.heap.size]? = some (.cells #[.int .u64 S.a, .int .u64 S.b, .int .u64 S.c, .int .u64 S.d] 37 (0, 0)) ∧ Fr nob w wr) (fun i _ => l.length - (intOf i).toNat)
      case atStart => exact ⟨0, rfl, Nat.zero_le _, fun j hj => by omega, HB0.out, F2.out⟩
      case round =>
        obtain ⟨k, rfl, hk, hall, hb, fr⟩ := hrel
        have HAL := Lib.hid hall; have HB := Lib.hid hb; have HFR := Lib.hid fr
        clear hall hb fr
        by_cases hlt : k < l.length
        · obtain ⟨q, off, cap, he, hc⟩ := HU.out.get HFR.out hlt
          injection he with e1 e2 e3
          subst e1; subst e3
          have hlk : l[k]? = some l[k] := List.getElem?_eq_getElem hlt
          obtain ⟨x, hx⟩ : ∃ x, l[k] = x := ⟨_, rfl⟩
          rw [hx] at hc hlk
          have rr := rule4 HB.out
          clear e2 hx
          go_wp2_with fail
          obtain ⟨r, hr⟩ : ∃ r, S.has x.toNat = r := ⟨_, rfl⟩
          have hx2 := HH.out x wr
          rw [hr] at hx2
          refine hx2.mono ?_
          rintro e w3 ⟨rfl, f3⟩
          have F3 := Lib.hid f3; have HR := Lib.hid hr; have HLK := Lib.hid hlk; clear f3 rr hr hlk hx2
          cases r with
          | true =>
            go_wp2
            go_ret
            exact ⟨rfl, HFR.out.trans' F3.out⟩
          | false =>
            go_wp2
            go_roundw
            case rel =>
              refine ⟨k + 1, by go_num, by omega, fun j hj b hb => ?_, F3.out.heap HB.out (fun x => x), HFR.out.trans' F3.out⟩
              rcases Nat.lt_or_eq_of_le (Nat.lt_succ_iff.1 hj) with hj | rfl
              · exact HAL.out j hj b hb
              · rw [HLK.out] at hb; injection hb with hb; subst hb; exact HR.out
            case measure => simp [intOf]; omega
        · obtain rfl : k = l.length := by omega
          have hpl := HPP.out (fun b hb => by obtain ⟨j, hj, rfl⟩ := List.getElem_of_mem hb; exact HAL.out j hj _ (List.getElem?_eq_getElem hj))
          have hcv := sb_conv (HU.out.on HFR.out) (by rintro rfl; simp at h0)
          have hP := bre_parse l wr (by omega) (HE.out.on HFR.out)
          rw [hpl] at hP
          have HP := Lib.hid hP; have HJ := Lib.hid (show (joined (ones l)).size ≤ 3000000 by have := joined_le (ones l); rw [ones_size] at this; omega)
          have HBY := Lib.hid (fun i y w' => bytes_any (joined (ones l)) i y l (.slice ua l.length uc) w' (by omega) (by have := joined_le (ones l); rw [ones_size] at this; omega))
          obtain ⟨J, hJ⟩ : ∃ J, joined (ones l) = J := ⟨_, rfl⟩
          rw [hJ] at HP HBY
          clear hP hpl HAL HPP HB hJ HJ
          go_wp2_with fail
          refine HP.out.mono ?_
          rintro e w3 ⟨f3, i, y, mv, rfl, rn, ma⟩
          obtain ⟨am, cm, hm⟩ := ownsRow_slice ma
          subst hm
          have HX := Lib.hid (HBY.out i y w3 rn ((HU.out.on HFR.out).on f3))
          have F3 := Lib.hid (HFR.out.trans' f3)
          clear rn ma f3 hcv
          go_wp2_with fail
          refine HX.out.mono ?_
          rintro e w4 ⟨r, rfl, hr, f4⟩
          obtain rfl : r = true := hr.2 (by first | trivial | rfl)
          have F4 := Lib.hid (F3.out.trans' f4); clear f4 hr
          go_wp2
          go_ret
          exact ⟨rfl, F4.out⟩

namespace brePlain
open Go.ChangeShapes Go.WideShapes Go.ChangeAt Go.RowKit
open Go.ChangeMaps (open_string shut_string)

theorem readable : ∀ t ∈ Tryd.f6.params.toList, Tryd.prog.readableRec t = true ∧ t < Tryd.prog.types.size := by
  rw [Tryd.params6]
  intro t ht
  simp only [List.mem_cons, List.not_mem_nil, or_false] at ht
  subst ht
  exact ⟨by kernel_rfl, of_decide_eq_true (by kernel_rfl)⟩

set_option maxRecDepth 100000 in
theorem lifted (os : Os) (started : os.Started) (H : Type) (enc : TypeId × Value → H) :
    ReturnsInHanded {} Tryd.checked os 6 .any (fun w args => (Rows.brePlainSpec.pre enc Tryd.prog Tryd.f6 [] false w args ∧ laidMetH Tryd.prog door.list1 w) ∧ sizedMet enc Tryd.prog Tryd.f6 (OpenSpec.ofChange Rows.brePlainSpec) false w args)
      (Rows.brePlainSpec.post enc Tryd.prog Tryd.f6 false true false false) := by
  refine returns_door (C := Tryd.checked) (X := fun w _ => laidMetH Tryd.prog door.list1 w) (fun _ _ _ hh h => h.of_heap hh) door.own started (by kernel_rfl) Tryd.func6
    (ChangeSpec.witness_shaped (enc := enc) (C := Tryd.checked) (os := os) (X := fun w _ => laidMetH Tryd.prog door.list1 w) false (World.doorLaid Tryd.prog 14 os) #[.slice none 0 0] 8 rfl (World.shaped_of_RefB (by kernel_rfl) (by kernel_rfl)) (by kernel_rfl) (by kernel_rfl) (by kernel_rfl) (door.met os _)) ?_
  intro W base args ds gs before hval0 hW _ hL hsh
  have hval : ∀ (j : Nat) t v, Tryd.f6.params[j]? = some t → args[j]? = some v → Value.okWide Tryd.prog W .any base t v := hval0
  have hW' : DataW.Whole enc Tryd.prog Tryd.f6.params.toList Rows.brePlainSpec.vars false W args.toList ds gs before := hW
  obtain ⟨p, q, hA0, hV, rfl, hfz, hnd⟩ := hW
  have hA : DataW.TrodAll enc Tryd.prog W 0 (fun _ => true) true Tryd.f6.params.toList args.toList ds p := hA0
  rw [Tryd.params6] at hA hval
  obtain ⟨v0, vs0, d0, ds0, p0, q0, hargs, rfl, rfl, h0, r0⟩ := trodAll_cons hA
  obtain ⟨rfl, rfl, rfl⟩ := trodAll_nil r0
  obtain rfl : args = #[v0] := by cases args; simp_all
  obtain ⟨rfl, rfl⟩ := trodVars_none hV
  obtain ⟨l0, wl0, sb0⟩ := open_bytes Tryd.underlying56 Tryd.underlying5 (by kernel_rfl) (hval 0 56 v0 rfl rfl) h0
  refine (show Calls Tryd.prog 6 #[v0] W _ from ?_).mono fun e W' h => h
  refine (lawBrePlain l0 v0 W wl0 sb0 (door.env hL hsh)).mono fun e W' ⟨he, hg⟩ => ?_
  subst he
  exact ⟨_, rfl, law_post rfl (by kernel_rfl) Tryd.underlying4 door.laidOut readable rfl hW' hg.below⟩

theorem over : Rows.brePlainRow.holds Tryd.pinned (OpenSpec.ofChange Rows.brePlainSpec) :=
  OpenClaim.holds_of_wide 6 Tryd.f6 rfl rfl rfl rfl rfl rfl rfl ⟨rfl, rfl, rfl, rfl, rfl⟩ rfl rfl rfl rfl rfl (by kernel_rfl) Tryd.func6 (by kernel_rfl)
    (of_decide_eq_true (by kernel_rfl)) (by unfold Func.isWrapper; first | (rw [if_pos (by decide +kernel)]; kernel_rfl) | (rw [if_neg (by decide +kernel)]; exact ⟨rfl, rfl⟩))
    (fun os started H enc _ => lifted os started H enc)

/-- THE STATEMENT: the tied card. -/
theorem proved : Rows.BrePlainCardSaid :=
  Claim7.holds_tied_plain_at .later [] [.data] true _ true over (fun _ h => by cases h) (by kernel_rfl) (fun _ h => by cases h) brePlain_row_tie rfl ⟨rfl, rfl⟩ (by kernel_rfl) rfl
    (fun f fn hf hfn => by
      obtain rfl : f = 6 := (Option.some.inj ((show Tryd.prog.funcNamed "placket/placketlaw04.BrePlain" = some 6 by kernel_rfl).symm.trans hf)).symm
      obtain rfl : fn = Tryd.f6 := (Option.some.inj (Tryd.func6.symm.trans hfn)).symm
      exact ⟨by kernel_rfl, fun j t ht => by
        rw [Tryd.params6] at ht
        have hm : t ∈ [56] := by
          have := Array.mem_of_getElem? ht
          simpa using this
        exact List.all_eq_true.1 (show ([56] : List TypeId).all (fun t => !Tryd.prog.wantsStandIn t) = true by kernel_rfl) t hm |> fun h => by show Tryd.prog.wantsStandIn t = false; simpa using h⟩)
    (by kernel_rfl)
#print axioms proved
end brePlain

end Go.Proofs.YtpcpmjaphjkphaaDoor
