/-
  TreeJoins: any parts joined, and chosen among, are the document's; they stay as they were. Where what the law reads is of bulk at most 1048576.
-/
import Derived.Test.YticeknkikflmkaaLawPlain
namespace Go.Proofs.Yticeknkikflmkaa
open Go.RowKit
attribute [local go_sem ↓] Go.wp_at_zero Go.wp_at_succ

set_option maxRecDepth 100000 in
set_option maxHeartbeats 8000000 in
theorem lawJoins (l : List T) (u : Value) (w : World) (hb : T.bulks l ≤ 1048576) (h : ST nob w l u) :
    Calls Try.prog 4 #[u] w fun e w' => e = .returned (.bool true) ∧ Fr nob w w' := by
  obtain ⟨a, c, rfl⟩ := h.shape
  have H := Lib.hid h; clear h
  have hll := T.length_le l
  have hsz := Lib.hid (T.nds_size l)
  by_cases h30 : (30 : Int) < l.length
  · go_enter Try.func4, Try.ntmps4
    go_wp2_with fail
    refine (awake_any _).mono ?_
    rintro e w1 ⟨rfl, f1⟩
    go_wp2_with fail
    refine (awake_any _).mono ?_
    rintro e w2 ⟨rfl, f2⟩
    go_wp2
    go_ret
    exact ⟨rfl, f1.trans' f2⟩
  go_enter Try.func4, Try.ntmps4
  go_wp2_with fail
  refine (awake_any _).mono ?_
  rintro e w1 ⟨rfl, f1⟩
  have F1 := Lib.hid f1; clear f1
  go_wp2_with fail
  refine (few_any (.mk 0 S4.zero l 0 0 0) 200 [.int .i64 0, .int .u64 0, .int .u64 0, .int .u64 0, .int .u64 0, .slice a l.length c, .int .i64 0, .int .i64 0, .int .i64 0] _ (by simp only [T.bulk]; omega) (RT_mk.2 ⟨_, rfl, H.out.on F1.out⟩)).mono ?_
  rintro e w2 ⟨rfl, f2⟩
  have F2 := Lib.hid (F1.out.trans' f2); clear f2
  cases hfa : (T.mk 0 S4.zero l 0 0 0).few 200 with
  | false =>
    clear hfa
    go_wp2_with fail
    refine (awake_any _).mono ?_
    rintro e w3 ⟨rfl, f3⟩
    go_wp2
    go_ret
    exact ⟨rfl, F2.out.trans' f3⟩
  | true =>
    have HK := Lib.hid (T.known_kd (T.few_known hfa)).2
    clear hfa
    have HJ := Lib.hid (show (joined (T.nds l)).norm = (joinT l).nd by rw [joined_nd HK.out, T.nd_norm])
    have HCH := Lib.hid (show (chosen (T.nds l)).norm = (chooseT l).nd by rw [chosen_nd HK.out, T.nd_norm])
    have HJK := Lib.hid (show (joinT l).known = true from onlyT_known (by omega) (partsT_known HK.out))
    have HCK := Lib.hid (show (chooseT l).known = true from onlyT_known (by omega) (armsT_known HK.out))
    have hjs := joined_size (T.nds l)
    have hcs := chosen_size (T.nds l)
    have hj1 : (joined (T.nds l)).size ≤ 3000000 := by have := hsz.out; omega
    have hc1 : (chosen (T.nds l)).size ≤ 3000000 := by have := hsz.out; omega
    have hj2 : (joinT l).nd.size ≤ 3000000 := by rw [← joined_nd HK.out]; exact hj1
    have hc2 : (chooseT l).nd.size ≤ 3000000 := by rw [← chosen_nd HK.out]; exact hc1
    clear hjs hcs
    go_wp2_with fail
    go_loopw [3, 24] (fun s i wr => ∃ (k : Nat) (g : Option Nat), i = .int .i64 k ∧ k ≤ l.length ∧ OwnS (Old w2) wr (T.nds (l.take k)) s g ∧ Fr nob w2 wr ∧ ∀ j, g = some j → w2.heap.size ≤ j) (fun _ i _ => l.length - (intOf i).toNat)
    case atStart => exact ⟨0, none, rfl, Nat.zero_le _, OwnS.nil _ _, Fr.refl _ _, fun _ h => by cases h⟩
    case round =>
      obtain ⟨k, g, rfl, hk, ho, fr, hg⟩ := hrel
      obtain ⟨av, cv, rfl⟩ := ho.shape
      have HO := Lib.hid ho; have FR := Lib.hid fr; have HG := Lib.hid hg
      have hlw := fr.size
      clear ho fr hg
      by_cases hlt : k < l.length
      · obtain ⟨q, off, cap, cx, he, hx, hc, hgs⟩ := (H.out.on (F2.out.trans' FR.out)).get hlt
        injection he with e1 e2 e3
        subst e1; subst e3
        have hnt := Lib.hid (T.nds_take hlt)
        have hxs : l[k].nd.size ≤ 3000000 := by have := T.nd_size l[k]; have := T.bulks_mem (List.getElem_mem hlt); omega
        have hnl : (T.nds (l.take k)).length ≤ 3000000 := by rw [T.nds_length, List.length_take]; omega
        obtain ⟨x, hxe⟩ : ∃ x, l[k] = x := ⟨_, rfl⟩
        rw [hxe] at hx hxs hnt
        obtain ⟨k', s', ps', mn', mx', nu', a', c', hx0, rfl, hxx⟩ := hx.open'
        obtain ⟨d0, d1, d2, d3, d4, d5, d6, d7, d8⟩ := hc.nine
        have HX := Lib.hid hx; clear hx hxx hx0 e2 hc hxe
        go_wp2_with fail
        refine (real_any _ x _ _ (Nat.le_refl _) hxs (HX.out.on ((Fr.refl _ _).alloc _))).mono ?_
        rintro e w3 ⟨y, rfl, hy, f3⟩
        obtain ⟨iy, zy, rfl⟩ := T.nd_iface hy
        have HY := Lib.hid hy; have hl3 := f3.size; have F3 := Lib.hid f3; clear hy f3
        simp only [World.size_alloc] at hl3
        have hS := Lib.hid (fun X => fun k (hk : Old w2 k) => (by unfold Old at hk; simp only [World.size_alloc]; omega : k < (w3.alloc X).heap.size))
        have HYK := Lib.hid (fun X => RN.keep (S' := LS2 (Old w2) g) ((Fr.refl nob w3).alloc X) (fun _ _ x => x.elim) (fun k hk x => by
          unfold Old
          rcases x with x | x
          · unfold Old at x; simp; omega
          · have := HO.out.lt k x; simp; omega) _ _ HY.out)
        go_wp2_with (at_builtin; refine wpList_append_own1 (S := Old w2) rfl (.tmp 28) (.tmp 31) rfl (T.nds (l.take k)) x.nd _ _ w3.heap.size g (by rfl) (HO.out.on (((Fr.refl _ _).alloc _).trans' (F3.out.alloc _))) (by rfl) (HYK.out _) (by simp) (hS.out _) hnl ?_; intro v' w4 g' ho3 hf3 hg3; obtain ⟨av', cv', he3⟩ := ho3.shape; simp only [List.length_append, List.length_singleton] at he3; subst he3; have HO3 := Lib.hid ho3; have HF3 := Lib.hid hf3; have HG3 := Lib.hid hg3; clear ho3 hf3 hg3)
        go_roundw
        case rel => exact ⟨k + 1, g', by go_num, by omega, by rw [hnt.out]; exact HO3.out, (((FR.out.alloc _).trans' F3.out).alloc _).trans HF3.out (fun i hi x => by have := HG.out i x; omega), fun j hj => by
            rcases HG3.out j hj with h | h
            · exact HG.out j h
            · simp only [World.size_alloc] at h; omega⟩
        case measure => simp [intOf]; omega
      · obtain rfl : k = l.length := by omega
        have hT := List.take_of_length_le (l := l) (Nat.le_refl _)
        have hO := HO.out
        rw [hT] at hO ⊢
        have HO' := Lib.hid hO
        have HNL := Lib.hid (T.nds_length l)
        have FW := Lib.hid (F2.out.trans' FR.out)
        have hns : Nd.sizes (T.nds l) ≤ 3000000 := by have := hsz.out; omega
        clear hT hO HO
        obtain ⟨n, hn⟩ : ∃ n, (T.nds l).length = n := ⟨_, rfl⟩
        have HNN := Lib.hid (show n = l.length by rw [← hn]; exact HNL.out)
        rw [hn]
        have HSN := Lib.hid (show SN nob wr (T.nds l) (.slice av n cv) by rw [← hn]; exact HO'.out.sn.weak)
        have HOO := Lib.hid (show OwnS (Old w2) wr (T.nds l) (.slice av n cv) g by rw [← hn]; exact HO'.out)
        have HLN := Lib.hid hn
        clear hn HO'
        go_wp2_with fail
        refine (join_any (T.nds l) _ _ hns HSN.out).mono ?_
        rintro e v1 ⟨r1, rfl, hr1, f1⟩
        have R1 := Lib.hid hr1; have G1 := Lib.hid f1; clear hr1 f1
        go_wp2_with fail
        refine (joinT_any l _ _ (by omega) (H.out.on (FW.out.trans' G1.out))).mono ?_
        rintro e v2 ⟨c2, rfl, hr2, f2⟩
        have R2 := Lib.hid hr2; have G2 := Lib.hid (G1.out.trans' f2); have G12 := Lib.hid f2; clear hr2 f2
        go_wp2_with fail
        refine (is_any (joined (T.nds l)) (joinT l) _ _ _ hj1 hj2 HJK.out (R1.out.on G12.out) R2.out).mono ?_
        rintro e v3 ⟨r, rfl, hr, f3⟩
        obtain rfl := hr.2 HJ.out
        have G3 := Lib.hid (G2.out.trans' f3); clear hr f3
        go_wp2_with fail
        refine (choose_any (T.nds l) _ _ hns (HSN.out.on G3.out)).mono ?_
        rintro e v4 ⟨r4, rfl, hr4, f4⟩
        have R4 := Lib.hid hr4; have G4 := Lib.hid (G3.out.trans' f4); clear hr4 f4
        go_wp2_with fail
        refine (chooseT_any l _ _ (by omega) (H.out.on (FW.out.trans' G4.out))).mono ?_
        rintro e v5 ⟨c5, rfl, hr5, f5⟩
        have R5 := Lib.hid hr5; have G5 := Lib.hid (G4.out.trans' f5); have G45 := Lib.hid f5; clear hr5 f5
        go_wp2_with fail
        refine (is_any (chosen (T.nds l)) (chooseT l) _ _ _ hc1 hc2 HCK.out (R4.out.on G45.out) R5.out).mono ?_
        rintro e v6 ⟨r, rfl, hr, f6⟩
        obtain rfl := hr.2 HCH.out
        have G6 := Lib.hid (G5.out.trans' f6); clear hr f6
        go_wp2_with fail
        go_loopw [50] (fun i wr => ∃ (k : Nat), i = .int .i64 k ∧ k ≤ l.length ∧ Fr nob v6 wr) (fun i _ => l.length - (intOf i).toNat)
        case atStart => exact ⟨0, rfl, Nat.zero_le _, Fr.refl _ _⟩
        case round =>
          obtain ⟨k, rfl, hk, fs⟩ := hrel
          have FS := Lib.hid fs; clear fs
          by_cases hlt : k < l.length
          · obtain ⟨q, off, cap, cx, he, hx, hc, hgs⟩ := (H.out.on (FW.out.trans' (G6.out.trans' FS.out))).get hlt
            obtain ⟨q', off', cap', y, he', hy, hcy⟩ := (HSN.out.on (G6.out.trans' FS.out)).get (k := k) (by have := HLN.out; have := HNN.out; omega)
            rw [HLN.out] at he'
            injection he with e1 e2 e3
            injection he' with e1' e2' e3'
            subst e1 e3 e1' e3'
            have hxs : l[k].nd.size ≤ 3000000 := by have := T.nd_size l[k]; have := T.bulks_mem (List.getElem_mem hlt); omega
            have hkn : k < n := by have := HNN.out; omega
            have hxk := T.knowns_mem HK.out (List.getElem_mem hlt)
            have hyn : (T.nds l)[k]'(by have := HLN.out; have := HNN.out; omega) = l[k].nd := by simp only [T.nds_eq, List.getElem_map]
            rw [hyn] at hy
            obtain ⟨x, hxe⟩ : ∃ x, l[k] = x := ⟨_, rfl⟩
            rw [hxe] at hx hxs hxk hy
            obtain ⟨k', s', ps', mn', mx', nu', a', c', hx0, rfl, hxx⟩ := hx.open'
            obtain ⟨d0, d1, d2, d3, d4, d5, d6, d7, d8⟩ := hc.nine
            obtain ⟨iy, zy, rfl⟩ := T.nd_iface hy
            have HX := Lib.hid hx; have HY := Lib.hid hy; have HXK := Lib.hid hxk; clear hx hxx hx0 e2 e2' hc hxe hy hxk hyn
            have q1 : (0 : Int) ≤ k := by omega
            have q2 : (k : Int) < n := by omega
            have q3 : (k : Int) < l.length := by omega
            have HC := Lib.hid (And.intro (((Fr.refl nob wr).alloc (.cells #[.int .i64 k', .int .u64 s'.a, .int .u64 s'.b, .int .u64 s'.c, .int .u64 s'.d, .slice a' ps'.length c', .int .i64 mn', .int .i64 mx', .int .i64 nu'] 27)).drew.cell hcy (fun x => x)) (C9.on (C9.of (heap_alloc_new wr (.cells #[.int .i64 k', .int .u64 s'.a, .int .u64 s'.b, .int .u64 s'.c, .int .u64 s'.d, .slice a' ps'.length c', .int .i64 mn', .int .i64 mx', .int .i64 nu'] 27))) ((Fr.refl nob _).drew)))
            go_wp2_with fail
            go_region_held3 (fun w' => w'.cell? ⟨q', off' + k, none⟩ = some (.iface iy zy) ∧ C9 w' wr.heap.size (.int .i64 k') (.int .u64 s'.a) (.int .u64 s'.b) (.int .u64 s'.c) (.int .u64 s'.d) (.slice a' ps'.length c') (.int .i64 mn') (.int .i64 mx') (.int .i64 nu'))
              (first | (with_reducible exact HC.out) | (with_reducible exact ⟨G7.out.cell HC.out.1 (fun x => x), C9.on HC.out.2 G7.out⟩))
              ((go_at_call 13; (with_reducible refine (is_any x.nd x _ _ _ hxs hxs HXK.out (HY.out.on ((Fr.refl _ _).alloc _).drew) (HX.out.on ((Fr.refl _ _).alloc _).drew)).mono ?_); rintro e v7 ⟨r, rfl, hr, f7⟩; obtain rfl := hr.2 (T.nd_norm x); have G7 := Lib.hid f7; clear hr f7))
            go_wp2
            go_roundw
            case rel => exact ⟨k + 1, by go_num, by omega, (FS.out.alloc _).drew.trans' G7.out⟩
            case measure => simp [intOf]; omega
          · obtain rfl : k = l.length := by omega
            have hws := (G6.out.trans' FS.out).size
            have HNIL := Lib.hid (fun X => (show RN (LS2 (Old w2) g) (wr.alloc X) .nil .nilIface by rw [RN]))
            have hS := Lib.hid (fun X => fun k (hk : Old w2 k) => (by unfold Old at hk; simp only [World.size_alloc]; omega : k < (wr.alloc X).heap.size))
            have hnl : (T.nds l).length ≤ 3000000 := by have := HLN.out; have := HNN.out; omega
            go_wp2_with (at_builtin; refine wpList_append_own1 (S := Old w2) rfl (.tmp 63) (.tmp 64) rfl (T.nds l) .nil _ _ wr.heap.size g (by rfl) (HOO.out.on ((G6.out.trans' FS.out).alloc _)) (by rfl) (HNIL.out _) (by simp) (hS.out _) hnl ?_; intro v' w4 g' ho3 hf3 hg3; have HO3 := Lib.hid (show SN nob w4 (T.nds l ++ [.nil]) v' from ho3.sn.weak); have G8 := Lib.hid ((((FW.out.trans' G6.out).trans' FS.out).alloc _).trans hf3 (fun i hi x => by have := HG.out i x; have := F2.out.size; omega)); obtain ⟨av', cv', he3⟩ := ho3.shape; simp only [List.length_append, List.length_singleton, HLN.out] at he3; subst he3; clear ho3 hg3 hf3)
            refine (join_any (T.nds l ++ [.nil]) _ _ (by rw [Nd.sizes_append]; simp [Nd.sizes, Nd.size]; have := hsz.out; omega) HO3.out).mono ?_
            rw [joined_nil]
            rintro e v8 ⟨r8, rfl, hr8, f8⟩
            have R8 := Lib.hid hr8; have G9 := Lib.hid (G8.out.trans' f8); clear hr8 f8
            go_wp2_with fail
            refine (joinT_any l _ _ (by omega) (H.out.on G9.out)).mono ?_
            rintro e v9 ⟨c9, rfl, hr9, f9⟩
            have R9 := Lib.hid hr9; have G10 := Lib.hid (G9.out.trans' f9); have G90 := Lib.hid f9; clear hr9 f9
            go_wp2_with fail
            refine (is_any (joined (T.nds l)) (joinT l) _ _ _ hj1 hj2 HJK.out (R8.out.on G90.out) R9.out).mono ?_
            rintro e v10 ⟨r, rfl, hr, f10⟩
            obtain rfl := hr.2 HJ.out
            have G11 := Lib.hid (G10.out.trans' f10); clear hr f10
            go_wp2
            go_ret
            exact ⟨rfl, G11.out⟩

namespace treeJoins
open Go.ChangeShapes Go.WideShapes Go.ChangeAt Go.RowKit

theorem own : ownKnob Try.prog.godebug = none := by kernel_rfl
theorem laidOut : laidOutB Try.prog = true := by kernel_rfl

theorem readable : ∀ t ∈ Try.f4.params.toList, Try.prog.readableRec t = true ∧ t < Try.prog.types.size := by
  rw [Try.params4]
  intro t ht
  simp only [List.mem_cons, List.not_mem_nil, or_false] at ht
  rcases ht with rfl
  all_goals exact ⟨by kernel_rfl, of_decide_eq_true (by kernel_rfl)⟩

theorem contract (H : Type) (enc : TypeId × Value → H) (W : World) (base : Nat) (args : Array Value) (ds gs : List (DataW H)) (before : List MemPlace)
    (hval : ∀ (j : Nat) t v, Try.f4.params[j]? = some t → args[j]? = some v → Value.okWide Try.prog W .any base t v)
    (hW : DataW.Whole enc Try.prog Try.f4.params.toList Rows.treeJoinsSpec.vars false W args.toList ds gs before) (hk : Rows.uptoSmall H (ds ++ gs) = true) :
    Calls Try.prog 4 args W fun e W' => ∃ v, e = .returned v ∧ Rows.treeJoinsSpec.post enc Try.prog Try.f4 false true false false W args v W' := by
  have hW' := hW
  obtain ⟨p, q, hA0, hV, rfl, hfz, hnd⟩ := hW
  have hA : DataW.TrodAll enc Try.prog W 0 (fun _ => true) true Try.f4.params.toList args.toList ds p := hA0
  rw [Try.params4] at hA hval
  obtain ⟨v0, vs0, d0, ds0, p0, q0, hargs, rfl, rfl, h0, r0⟩ := trodAll_cons hA
  obtain ⟨rfl, rfl, rfl⟩ := trodAll_nil r0
  obtain rfl : args = #[v0] := by cases args; simp_all
  obtain ⟨rfl, rfl⟩ := trodVars_none hV
  have hb := of_decide_eq_true hk
  simp only [List.append_nil, Rows.uptoBulkAll, Nat.add_zero] at hb
  obtain ⟨t0, e0, w0, b0⟩ := open_Ts (hval 0 25 v0 rfl rfl) h0
  refine (lawJoins t0 v0 W (by omega) e0).mono fun e W' ⟨he, hg⟩ => ?_
  subst he
  exact ⟨_, rfl, law_post rfl (by kernel_rfl) Try.underlying4 laidOut readable rfl hW' hg.below⟩

set_option maxRecDepth 100000 in
theorem lifted (os : Os) (started : os.Started) (H : Type) (enc : TypeId × Value → H) (F : Stop.Interp) :
    ReturnsInHanded {} Try.checked os 4 .any ((Rows.OpenSpec.upto Rows.treeJoinsSpec).pre6 enc Try.prog Try.f4 Rows.treeJoinsUptoRow.domain false) (((Rows.OpenSpec.upto Rows.treeJoinsSpec).at F).post enc Try.prog Try.f4 false true false false) := by
  refine returnsInHanded_of_cond (C := Try.checked) (s := Rows.OpenSpec.upto Rows.treeJoinsSpec) (k := Rows.uptoSmall) rfl own started (by kernel_rfl) Try.func4
    (OpenSpec.witness (enc := enc) (C := Try.checked) (s := Rows.OpenSpec.upto Rows.treeJoinsSpec) (k := Rows.uptoSmall) rfl false ⟨#[], #[.slice none 0 0], []⟩ 8 (by kernel_rfl) (by kernel_rfl) (by kernel_rfl)
      (x := ([.nil], [], [])) (by kernel_rfl) rfl (by kernel_rfl)) ?_
  intro W base args ds gs before hval hW _ hk _
  exact contract H enc W base args ds gs before hval hW hk

theorem over : Rows.treeJoinsUptoRow.holds Try.pinned (Rows.OpenSpec.upto Rows.treeJoinsSpec) :=
  OpenClaim.holds_of_cond 4 Try.f4 rfl rfl rfl rfl rfl rfl rfl ⟨rfl, rfl, rfl, rfl, rfl⟩ rfl rfl rfl rfl rfl (by kernel_rfl) Try.func4 (by kernel_rfl)
    (of_decide_eq_true (by kernel_rfl)) (by unfold Func.isWrapper; first | (rw [if_pos (by decide +kernel)]; kernel_rfl) | (rw [if_neg (by decide +kernel)]; exact ⟨rfl, rfl⟩))
    (fun os started H enc _ F => lifted os started H enc F)

/-- THE STATEMENT. -/
theorem proved : Rows.TreeJoinsUptoSaid := over
#print axioms proved
end treeJoins

end Go.Proofs.Yticeknkikflmkaa
