/-
  OctetOnce: the set of any bytes has just these, however often and in whatever order they are told. For every input; no condition.
-/
import Derived.Test.YthkleolkkgichaaLawLaws
namespace Go.Proofs.Ythkleolkkgichaa
open Go.RowKit

def anyTo (l : List UInt8) (c : UInt8) (k : Nat) : Bool := (l.take k).any fun x => decide (x.toNat = c.toNat)
theorem anyTo_succ {l : List UInt8} {c : UInt8} {k : Nat} (h : k < l.length) : anyTo l c (k + 1) = (anyTo l c k || decide (l[k].toNat = c.toNat)) := by
  unfold anyTo; rw [List.take_succ_eq_append_getElem h, List.any_append]; simp
theorem rev_take {l : List UInt8} {k : Nat} (h : k < l.length) : l.reverse.take (k + 1) = l.reverse.take k ++ [l[l.length - 1 - k]'(by omega)] := by
  rw [List.take_succ_eq_append_getElem (by simpa using h), List.getElem_reverse]
theorem SB_own {w : World} {l : List UInt8} {v : Value} (h : w.ownsRow 0 5 1 v l.length (bcells l)) : SB w l v := by
  rcases h.2 with ⟨hv, hz⟩ | ⟨g, cap, cur, hv, r⟩
  · have : l = [] := by simpa using hz
    subst this; exact .inl ⟨rfl, _, _, hv⟩
  · refine .inr ⟨g, 0, cap, hv, lt_heap r.2.1, fun j x hj => ?_⟩
    have := h.cells (g := g) (by rw [hv]; rfl) j (bcell x) (by simp [bcells, hj])
    have e : (⟨g, 0, none⟩ : Addr).add j = ⟨g, 0 + j, none⟩ := by cases j <;> simp [Addr.add]
    rw [e] at this; exact this

set_option maxRecDepth 100000 in
set_option maxHeartbeats 2000000 in
theorem lawOnce (l : List UInt8) (u : Value) (c : UInt8) (w : World) (hl : l.length ≤ maxLen) (hu : SB w l u) :
    Calls Try.prog 6 #[u, .int .u8 (c.toNat : Int)] w fun e w' => e = .returned (.bool true) ∧ Fr nob w w' := by
  unfold maxLen at hl
  obtain ⟨ua, uc, hus⟩ := hu.shape
  have HU := Lib.hid hu; clear hu
  subst hus
  by_cases hlen : l.length ≤ 300
  · have h50 : ¬ (300 : Int) < l.length := by omega
    obtain ⟨i0, hi, hz0, hz1, hz2⟩ := info_parts info_u8
    go_enter Try.func6, Try.ntmps6
    go_wp2_with fail
    refine (awake1_any _).mono ?_
    rintro e w1 ⟨rfl, f1⟩
    go_wp2_with fail
    refine (of_lit l _ _ (by omega) (HU.out.on f1)).mono ?_
    obtain ⟨S, hS⟩ : ∃ S, S4.zero.puts l = S := ⟨_, rfl⟩
    have hSf : S.fit := by rw [← hS]; exact fit_puts _ fit_zero
    rw [hS]
    have HS := Lib.hid hS; clear hS
    rintro e w2 ⟨rfl, f2⟩
    go_wp2_with fail
    have hb0 := heap_alloc_new w2 (.cells #[.int .u64 S.a, .int .u64 S.b, .int .u64 S.c, .int .u64 S.d] 25)
    have F2 := Lib.hid (f1.trans' (f2.alloc (.cells #[.int .u64 S.a, .int .u64 S.b, .int .u64 S.c, .int .u64 S.d] 25)))
    have HB0 := Lib.hid hb0
    clear f1 f2 hb0
    have HA0 := Lib.hid (show anyTo l c 0 = false by simp [anyTo])
    go_loopw [6, 7, 21] (fun v6 v7 i wr => ∃ k : Nat, i = .int .i64 k ∧ k ≤ l.length ∧ v6 = .bool (anyTo l c k) ∧ wr.ownsRow 0 5 1 v7 k (bcells (l.reverse.take k)) ∧ (∀ j, v7.ownBlock = some j → w2.heap.size < j) ∧ wr.heap[w2.heap.size]? = some (.cells #[.int .u64 S.a, .int .u64 S.b, .int .u64 S.c, .int .u64 S.d] 25 (0, 0)) ∧ Fr nob w wr) (fun _ _ i _ => l.length - (intOf i).toNat)
    case atStart => exact ⟨0, rfl, Nat.zero_le _, by rw [HA0.out], World.ownsRow_nil _ _ _ _, fun j h => (by cases h), HB0.out, F2.out⟩
    case round =>
      obtain ⟨k, rfl, hk, rfl, hown, hblk, hb, fr⟩ := hrel
      have HO := Lib.hid hown; have HBK := Lib.hid hblk; have HB := Lib.hid hb; have HFR := Lib.hid fr
      clear hown hblk hb fr
      by_cases hlt : k < l.length
      · obtain ⟨q, off, cap, he, hc⟩ := HU.out.get HFR.out hlt
        obtain ⟨q', off', cap', he', hc'⟩ := HU.out.get HFR.out (show l.length - 1 - k < l.length by omega)
        rw [he] at he'
        injection he with e1 e2 e3
        injection he' with e4 e5 e6
        injection e4 with e4
        injection e4 with e7 e8
        subst e1; subst e3; subst e7; subst e8
        clear e2 e5 e6
        have hrt := Lib.hid (rev_take hlt)
        have hsu := anyTo_succ (c := c) hlt
        have hbd := toNat_bd l[k]
        have hbd2 := toNat_bd (l[l.length - 1 - k]'(by omega))
        obtain ⟨x, hx⟩ : ∃ x, l[k] = x := ⟨_, rfl⟩
        obtain ⟨y, hy⟩ : ∃ y, l[l.length - 1 - k]'(by omega) = y := ⟨_, rfl⟩
        rw [hx] at hc hsu hbd
        rw [hy] at hc' hrt hbd2
        clear hx hy
        have hwl : w2.heap.size < wr.heap.size := lt_heap HB.out
        cases h0 : anyTo l c k with
        | true =>
          have HN := Lib.hid (show anyTo l c (k + 1) = true by rw [hsu, h0]; rfl)
          clear hsu h0
          go_wp2_with (at_builtin; refine wpList_append_g rfl _ _ 35 rfl 5 i0 (.int .u8 0) 1 1 Try.underlying35 hi hz0 hz1 hz2 rfl (by decide) _ _ _ rfl (HO.out.alloc _) ⟨wr.heap.size, 0, none⟩ 1 1 [.int .u8 (y.toNat : Int)] rfl rfl ?c1a ?c2a ?c3a ?c4a ?_)
          case c2a => rfl
          case c3a => unfold maxLen; omega
          case c4a => omega
          intro v' w3 hown' hap
          have hb2 := hap.fr.heap (heap_alloc_lt (.cells #[.int .u8 (y.toNat : Int)] 5) HB.out) (fun e => by have := HBK.out _ e; omega)
          have hf2 : Fr nob w w3 := (HFR.out.alloc _).trans hap.fr (fun i hi e => by have := HBK.out _ e; have := F2.out.size; simp at this; omega)
          have hk2 : ∀ j, v'.ownBlock = some j → w2.heap.size < j := fun j hj => by
            rcases hap.old j hj with h1 | h1
            · exact HBK.out j h1
            · simp at h1; omega
          have HB2 := Lib.hid hb2; have HF2 := Lib.hid hf2; have HK2 := Lib.hid hk2; have HO2 := Lib.hid hown'
          clear hb2 hf2 hk2 hown' hap
          go_wp2
          go_roundw
          case rel =>
            refine ⟨k + 1, by go_num, by omega, by rw [HN.out], ?_, HK2.out, HB2.out, HF2.out⟩
            rw [hrt.out, bcells_append]; exact HO2.out
          case measure => simp [intOf]; omega
        | false =>
          by_cases hxc : x.toNat = c.toNat
          · have HN := Lib.hid (show anyTo l c (k + 1) = true by rw [hsu, h0]; simp [hxc])
            have tt : ((x.toNat : Int) == (c.toNat : Int)) = true := by simp; omega
            clear hsu h0 hxc
            go_wp2_with (at_builtin; refine wpList_append_g rfl _ _ 35 rfl 5 i0 (.int .u8 0) 1 1 Try.underlying35 hi hz0 hz1 hz2 rfl (by decide) _ _ _ rfl (HO.out.alloc _) ⟨wr.heap.size, 0, none⟩ 1 1 [.int .u8 (y.toNat : Int)] rfl rfl ?c1b ?c2b ?c3b ?c4b ?_)
            case c2b => rfl
            case c3b => unfold maxLen; omega
            case c4b => omega
            intro v' w3 hown' hap
            have hb2 := hap.fr.heap (heap_alloc_lt (.cells #[.int .u8 (y.toNat : Int)] 5) HB.out) (fun e => by have := HBK.out _ e; omega)
            have hf2 : Fr nob w w3 := (HFR.out.alloc _).trans hap.fr (fun i hi e => by have := HBK.out _ e; have := F2.out.size; simp at this; omega)
            have hk2 : ∀ j, v'.ownBlock = some j → w2.heap.size < j := fun j hj => by
              rcases hap.old j hj with h1 | h1
              · exact HBK.out j h1
              · simp at h1; omega
            have HB2 := Lib.hid hb2; have HF2 := Lib.hid hf2; have HK2 := Lib.hid hk2; have HO2 := Lib.hid hown'
            clear hb2 hf2 hk2 hown' hap
            go_wp2
            go_roundw
            case rel =>
              refine ⟨k + 1, by go_num, by omega, by rw [HN.out], ?_, HK2.out, HB2.out, HF2.out⟩
              rw [hrt.out, bcells_append]; exact HO2.out
            case measure => simp [intOf]; omega
          · have HN := Lib.hid (show anyTo l c (k + 1) = false by rw [hsu, h0]; simp [hxc])
            have tt : ((x.toNat : Int) == (c.toNat : Int)) = false := by simp; omega
            clear hsu h0 hxc
            go_wp2_with (at_builtin; refine wpList_append_g rfl _ _ 35 rfl 5 i0 (.int .u8 0) 1 1 Try.underlying35 hi hz0 hz1 hz2 rfl (by decide) _ _ _ rfl (HO.out.alloc _) ⟨wr.heap.size, 0, none⟩ 1 1 [.int .u8 (y.toNat : Int)] rfl rfl ?c1d ?c2d ?c3d ?c4d ?_)
            case c2d => rfl
            case c3d => unfold maxLen; omega
            case c4d => omega
            intro v' w3 hown' hap
            have hb2 := hap.fr.heap (heap_alloc_lt (.cells #[.int .u8 (y.toNat : Int)] 5) HB.out) (fun e => by have := HBK.out _ e; omega)
            have hf2 : Fr nob w w3 := (HFR.out.alloc _).trans hap.fr (fun i hi e => by have := HBK.out _ e; have := F2.out.size; simp at this; omega)
            have hk2 : ∀ j, v'.ownBlock = some j → w2.heap.size < j := fun j hj => by
              rcases hap.old j hj with h1 | h1
              · exact HBK.out j h1
              · simp at h1; omega
            have HB2 := Lib.hid hb2; have HF2 := Lib.hid hf2; have HK2 := Lib.hid hk2; have HO2 := Lib.hid hown'
            clear hb2 hf2 hk2 hown' hap
            go_wp2
            go_roundw
            case rel =>
              refine ⟨k + 1, by go_num, by omega, by rw [HN.out], ?_, HK2.out, HB2.out, HF2.out⟩
              rw [hrt.out, bcells_append]; exact HO2.out
            case measure => simp [intOf]; omega
      · obtain rfl : k = l.length := by omega
        have hT : l.reverse.take l.length = l.reverse := List.take_of_length_le (by simp)
        have hA : anyTo l c l.length = S.has c.toNat := by
          rw [← HS.out, has_puts _ _ c.toNat_lt, has_zero]; unfold anyTo; rw [List.take_of_length_le (Nat.le_refl _)]; simp
        have hsb : SB wr l.reverse u7 := SB_own (by have := HO.out; rw [hT] at this; simpa using this)
        obtain ⟨ba, bc, hbs⟩ := hsb.shape
        rw [List.length_reverse] at hbs
        subst hbs
        have r5 := rule4 HB.out
        have l5 := lt_heap HB.out
        rw [hA]
        obtain ⟨b, hb⟩ : ∃ b, S.has c.toNat = b := ⟨_, rfl⟩
        obtain ⟨n1, hn1⟩ : ∃ x, S.not = x := ⟨_, rfl⟩
        have fn : n1.fit := by rw [← hn1]; exact fit_not _
        have e1 : n1.not = S := by rw [← hn1]; exact S4.not_not hSf
        have e2 : S.and n1 = S4.zero := by rw [← hn1]; exact S4.and_not S
        have e3 : n1.has c.toNat = !b := by rw [← hn1, has_not, hb]
        have e4 : S4.zero.puts l.reverse = S := by rw [puts_reverse]; exact HS.out
        have c1 := fun w => has_lit S c.toNat w hSf c.toNat_lt; rw [hb] at c1
        have c2 := fun w (f : Fr nob wr w) => of_lit l.reverse _ w (by simp; omega) (hsb.on f); rw [e4] at c2
        have c3 := fun w => not_lit S w; rw [hn1] at c3
        have c4 := fun w => has_lit n1 c.toNat w fn c.toNat_lt; rw [e3] at c4
        have c5 := fun w => not_lit n1 w; rw [e1] at c5
        have c6 : ∀ w, Calls Try.prog 19 #[setV S, setV n1] w fun e w' => e = .returned (.agg #[.int .u64 0, .int .u64 0, .int .u64 0, .int .u64 0]) ∧ Fr nob w w' := fun w => by have := and_lit S n1 w; rw [e2] at this; exact this
        have C1 := Lib.hid c1; have C2 := Lib.hid c2; have C3 := Lib.hid c3; have C4 := Lib.hid c4; have C5 := Lib.hid c5; have C6 := Lib.hid c6
        have t3 := same_mk
        have HSB := Lib.hid hsb
        rw [hb]
        clear hT hA hb hn1 fn e1 e2 e3 e4 c1 c2 c3 c4 c5 c6 hsb hSf HA0 HB0
        cases b
        all_goals
          go_wp2_with fail
          refine region_fr 34 (by kernel_rfl) (by kernel_rfl) ?_
          simp only [List.take_succ_cons, List.take_zero, List.drop_succ_cons, List.drop_zero]
          repeat (quiet_step ((first | (with_reducible exact calls_fr (C1.out _)) | (with_reducible exact calls_fr (C2.out _ (grown_fr _ _ _))) | (with_reducible exact calls_fr (C3.out _)) | (with_reducible exact calls_fr (C4.out _)) | (with_reducible exact calls_fr (C5.out _)) | (with_reducible exact calls_fr (C6.out _)))))
          refine wpQuiet_nil ?_
          intro wC fC
          go_wp2
          go_ret
          exact ⟨rfl, HFR.out.trans' fC⟩
  · have h50 : (300 : Int) < l.length := by omega
    go_enter Try.func6, Try.ntmps6
    go_wp2_with fail
    refine (awake1_any _).mono ?_
    rintro e w1 ⟨rfl, f1⟩
    go_wp2_with fail
    refine (awake1_any _).mono ?_
    rintro e w2 ⟨rfl, f2⟩
    go_wp2
    go_ret
    exact ⟨rfl, f1.trans' f2⟩

namespace octetOnce
open Go.ChangeShapes Go.WideShapes Go.ChangeAt Go.RowKit
open Go.ChangeMaps (open_string shut_string)

theorem own : ownKnob Try.prog.godebug = none := by kernel_rfl
theorem laidOut : laidOutB Try.prog = true := by kernel_rfl

theorem readable : ∀ t ∈ Try.f6.params.toList, Try.prog.readableRec t = true ∧ t < Try.prog.types.size := by
  rw [Try.params6]
  intro t ht
  simp only [List.mem_cons, List.not_mem_nil, or_false] at ht
  rcases ht with rfl | rfl
  all_goals exact ⟨by kernel_rfl, of_decide_eq_true (by kernel_rfl)⟩

set_option maxRecDepth 100000 in
theorem lifted (os : Os) (started : os.Started) (H : Type) (enc : TypeId × Value → H) :
    ReturnsInHanded {} Try.checked os 6 .any (Rows.octetOnceSpec.pre6 enc Try.prog Try.f6 Rows.octetOnceRow.domain false) (Rows.octetOnceSpec.post enc Try.prog Try.f6 false true false false) := by
  refine returnsInHanded_of_change (C := Try.checked) own started (by kernel_rfl) Try.func6
    (ChangeSpec.witness6 (enc := enc) (C := Try.checked) false ⟨#[], #[.slice none 0 0, .int .u8 0], []⟩ 8 (by kernel_rfl) (by kernel_rfl) (by kernel_rfl) (by kernel_rfl)) ?_
  intro W base args ds gs before hval0 hW hcnd _
  have hval : ∀ (j : Nat) t v, Try.f6.params[j]? = some t → args[j]? = some v → Value.okWide Try.prog W .any base t v := hval0
  have hW' : DataW.Whole enc Try.prog Try.f6.params.toList Rows.octetOnceSpec.vars false W args.toList ds gs before := hW
  obtain ⟨p, q, hA0, hV, rfl, hfz, hnd⟩ := hW
  have hA : DataW.TrodAll enc Try.prog W 0 (fun _ => true) true Try.f6.params.toList args.toList ds p := hA0
  rw [Try.params6] at hA hval
  obtain ⟨v0, vs0, d0, ds0, p0, q0, hargs, rfl, rfl, h0, r0⟩ := trodAll_cons hA
  obtain ⟨v1, vs1, d1, ds1, p1, q1, rfl, rfl, rfl, h1, r1⟩ := trodAll_cons r0
  obtain ⟨rfl, rfl, rfl⟩ := trodAll_nil r1
  obtain rfl : args = #[v0, v1] := by cases args; simp_all
  obtain ⟨rfl, rfl⟩ := trodVars_none hV
  obtain ⟨l0, wl0, sb0⟩ := open_bytes Try.underlying35 Try.underlying5 (by kernel_rfl) (hval 0 35 v0 rfl rfl) h0
  obtain ⟨x1, rfl, _, _, wx1⟩ := open_int Try.underlying5 (hval 1 5 v1 rfl rfl) h1
  obtain ⟨c1, hc1⟩ : ∃ c : UInt8, (c.toNat : Int) = x1 := ⟨_, byte_of_wf wx1⟩
  subst hc1
  refine (show Calls Try.prog 6 #[v0, .int .u8 (c1.toNat : Int)] W _ from ?_).mono fun e W' h => h
  refine (lawOnce l0 v0 c1 W wl0 sb0).mono fun e W' ⟨he, hg⟩ => ?_
  subst he
  exact ⟨_, rfl, law_post rfl (by kernel_rfl) Try.underlying4 laidOut readable rfl hW' hg.below⟩

theorem over : Rows.octetOnceRow.holds Try.pinned (OpenSpec.ofChange Rows.octetOnceSpec) :=
  OpenClaim.holds_of_wide 6 Try.f6 rfl rfl rfl rfl rfl rfl rfl ⟨rfl, rfl, rfl, rfl, rfl⟩ rfl rfl rfl rfl rfl (by kernel_rfl) Try.func6 (by kernel_rfl)
    (of_decide_eq_true (by kernel_rfl)) (by unfold Func.isWrapper; first | (rw [if_pos (by decide +kernel)]; kernel_rfl) | (rw [if_neg (by decide +kernel)]; exact ⟨rfl, rfl⟩))
    (fun os started H enc _ => lifted os started H enc)

/-- THE STATEMENT. -/
theorem proved : Rows.OctetOnceSaid := over
#print axioms proved
end octetOnce

end Go.Proofs.Ythkleolkkgichaa
