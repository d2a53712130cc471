/-
  Merged texts of this claim: EreJ, BreT, BreV.
-/
import Derived.Test.YtepeomphikhbkaaDoorM05
import Derived.Test.YtepeomphikhbkaaDoorM11
import Derived.Test.YtepeomphikhbkaaDoorM12
import Derived.Test.YtepeomphikhbkaaDoorM13
import Derived.Test.YtepeomphikhbkaaDoorM16
import Derived.Test.YtepeomphikhbkaaDoorM19
import Derived.Test.YtepeomphikhbkaaDoorM30

/-
  Walks of package ere: signs, Parse.
-/
namespace Go.Proofs.YtepeomphikhbkaaDoor
open Go.RowKit

theorem info_i32 : (Tryd.prog.info? 21).map (fun i => (i.zero, i.size, i.bytes)) = some (some (.int .i32 0), 1, 4) := by kernel_rfl
theorem runes_append (a b : List UInt8) : runes (a ++ b) = runes a ++ runes b := by simp [runes]
theorem runes_len (a : List UInt8) : (runes a).length = a.length := by simp [runes]
/-- The loop's relation. -/
def SgRel (l x : List UInt8) (w : World) (it n : Nat) (v : Value) (wr : World) : Prop :=
  ∃ k : Nat, k ≤ l.length ∧ l.length < n + k ∧ wr.heap[it]? = some (.stringIter ⟨x.toArray⟩ (wide (l.take k)).length) ∧ wr.ownsRow 0 21 1 v k (runes (l.take k)) ∧ (∀ j, v.ownBlock = some j → it < j) ∧ Fr nob w wr

set_option maxRecDepth 100000 in
set_option maxHeartbeats 1000000 in
theorem er_signs (l : List UInt8) (w : World) (hl : l.length ≤ 100000) :
    Calls Tryd.prog 13 #[.string ⟨l.toArray⟩] w fun e w' => ∃ v, e = .returned v ∧ w'.ownsRow 0 21 1 v l.length (runes l) ∧ (∀ j, v.ownBlock = some j → w.heap.size ≤ j) ∧ Fr nob w w' := by
  obtain ⟨i0, hi, hz0, hz1, hz2⟩ := info_parts info_i32
  have hW := wide_any l w (by omega)
  obtain ⟨x, hx⟩ : ∃ x, wide l = x := ⟨_, rfl⟩
  rw [hx] at hW
  have HX := Lib.hid hx; have HWI := Lib.hid hW; clear hx hW
  go_enter Tryd.func13, Tryd.ntmps13
  go_wp2_with fail
  with_reducible refine HWI.out.mono ?_
  rintro e w3 ⟨rfl, f3⟩
  have F := Lib.hid f3; clear f3
  go_wp2_with fail
  go_loopg [3] (l.length + 1) (fun n v wr => SgRel l x w w3.heap.size n v wr)
  case atStart => exact ⟨0, Nat.zero_le _, by omega, heap_alloc_new _ _, World.ownsRow_nil _ _ _ _, fun j h => (by cases h), F.out.alloc _⟩
  case round =>
    obtain ⟨k, hk, hn, hit, hown, hblk, hfr⟩ := hrel
    obtain ⟨m, rfl⟩ : ∃ m, gk = m + 1 := ⟨gk - 1, by omega⟩
    obtain ⟨av, cv, rfl⟩ := ownsRow_slice hown
    have HI := Lib.hid hit; have HO := Lib.hid hown; have HBK := Lib.hid hblk; have HFR := Lib.hid hfr; clear hit hown hblk hfr
    by_cases hlt : k < l.length
    · have hat : (wide (l.take k)).length < x.length := by rw [← HX.out]; exact wide_at hlt
      have hnx : ∀ ty, (Instr.next (.pointer (some ⟨w3.heap.size, 0, none⟩)) true ty).run Tryd.prog wr = .ok (.tuple #[.bool true, .int .i64 ((wide (l.take k)).length : Nat), .int .i32 (l[k].toNat : Nat)]) (wr.iterAt w3.heap.size ⟨x.toArray⟩ (wide (l.take (k + 1))).length) := by
        intro ty
        have := Lib.run_next_any_at (P := Tryd.prog) wr w3.heap.size ⟨x.toArray⟩ (wide (l.take k)).length ty HI.out (by rw [bsize]; exact hat)
        rw [decode_yes hat (by rw [← HX.out]; exact nar1_at hlt)] at this
        rw [wide_take hlt, List.length_append]; exact this
      have hi1 := Lib.iterAt_heap wr w3.heap.size ⟨x.toArray⟩ _ (wide (l.take (k + 1))).length HI.out
      have hlw : w.heap.size ≤ w3.heap.size := F.out.size
      have hfi := fr_iterAt wr w3.heap.size ⟨x.toArray⟩ (wide (l.take (k + 1))).length
      have hf1 : Fr nob w (wr.iterAt w3.heap.size ⟨x.toArray⟩ (wide (l.take (k + 1))).length) := HFR.out.trans hfi (fun i hi e => by omega)
      have hown1 := ownsRow_fr HO.out hfi (fun j hj e => by have := HBK.out j hj; omega)
      obtain ⟨w4, hw⟩ : ∃ w4, wr.iterAt w3.heap.size ⟨x.toArray⟩ (wide (l.take (k + 1))).length = w4 := ⟨_, rfl⟩
      rw [hw] at hnx hi1 hf1 hown1
      obtain ⟨c, hc⟩ : ∃ c, l[k] = c := ⟨_, rfl⟩
      rw [hc] at hnx
      have hT : runes (l.take (k + 1)) = runes (l.take k) ++ [.int .i32 (c.toNat : Int)] := by rw [List.take_succ_eq_append_getElem hlt, runes_append, hc]; rfl
      have HI1 := Lib.hid hi1; have HF1 := Lib.hid hf1; have HO1 := Lib.hid hown1; have HT := Lib.hid hT
      clear hw hi1 hf1 hat hfi hown1 hT hc
      go_wp2_with (at_builtin; refine wpList_append_g rfl _ _ 44 rfl 21 i0 (.int .i32 0) 1 4 Tryd.underlying44 hi hz0 hz1 hz2 rfl (by decide) _ _ _ rfl (ownsRow_fr HO1.out ((Fr.refl nob w4).alloc _) (fun _ _ x => x)) ⟨w4.heap.size, 0, none⟩ 1 1 [.int .i32 (c.toNat : Int)] rfl rfl ?c1 ?c2 ?c3 ?c4 ?_)
      case c1 => intro j u hj; match j, hj with | 0, hj => simp at hj; subst hj; simp [Addr.add]
      case c2 => intro u hu; simp at hu; subst hu; rfl
      case c3 => unfold maxLen; omega
      case c4 => omega
      intro v' w5 hown' hap
      obtain ⟨av', cv', rfl⟩ := ownsRow_slice hown'
      have hlw5 : w3.heap.size < w4.heap.size := lt_heap HI1.out
      have hi5 := hap.fr.heap (heap_alloc_lt (.cells #[.int .i32 (c.toNat : Int)] 21) HI1.out) (fun e => by have := HBK.out _ e; omega)
      have hf5 : Fr nob w w5 := (HF1.out.alloc _).trans hap.fr (fun i hi e => by have := HBK.out _ e; omega)
      have hb5 : ∀ j, (Value.slice av' (k + 1) cv').ownBlock = some j → w3.heap.size < j := fun j hj => by
        rcases hap.old j hj with h1 | h1
        · exact HBK.out j h1
        · simp at h1; omega
      have HI5 := Lib.hid hi5; have HF5 := Lib.hid hf5; have HB5 := Lib.hid hb5; have HO5 := Lib.hid hown'
      clear hi5 hf5 hb5 hown' hap hnx
      go_wp2
      go_roundg m
      case measure => omega
      case rel => exact ⟨k + 1, by omega, by omega, HI5.out, by rw [HT.out]; exact HO5.out, HB5.out, HF5.out⟩
    · obtain rfl : k = l.length := by omega
      have hT : (wide (l.take l.length)).length = x.length := by rw [List.take_of_length_le (Nat.le_refl _), HX.out]
      have hnx : ∀ ty, (Instr.next (.pointer (some ⟨w3.heap.size, 0, none⟩)) true ty).run Tryd.prog wr = .ok (.tuple #[.bool false]) wr := by
        intro ty
        exact Lib.run_next_end_at (P := Tryd.prog) wr w3.heap.size ⟨x.toArray⟩ _ ty HI.out (by rw [bsize, hT]; omega)
      clear hT
      go_wp2
      go_ret
      refine ⟨_, rfl, ?_, ?_, HFR.out⟩
      · have := HO.out; rwa [List.take_of_length_le (Nat.le_refl _)] at this
      · intro j hj; have := HBK.out j hj; have := F.out.size; omega

/-- What Parse hands back. -/
def EreAns (R : Out Nd) (w : World) (e : Ending) (w' : World) : Prop := Fr nob w w' ∧ match R with
  | .inl (z, p) => e = .returned (.tuple #[.nilIface, .slice none 0 0, .int .i64 (p : Nat), .int .i64 z])
  | .inr (t, s) => ∃ r mv, e = .returned (.tuple #[r, mv, .int .i64 0, .int .i64 0]) ∧ RN nob w' t r ∧ OwM w' s.marks mv

set_option maxRecDepth 100000 in
set_option maxHeartbeats 1000000 in
theorem ere_parse (l : List UInt8) (w : World) (hl : l.length ≤ 100000) (hE : Env w) :
    Calls Tryd.prog 6 #[.string ⟨l.toArray⟩] w (EreAns (parseD prg true l) w) := by
  unfold parseD
  by_cases h250 : 250 < l.length
  · have hlI : (250 : Int) < (l.length : Int) := by omega
    rw [if_pos h250]
    go_enter Tryd.func6, Tryd.ntmps6
    go_wp2
    exact bodyPost_ret (results_tmp4 rfl _ _ _) rfl ⟨Fr.refl _ _, rfl⟩
  · have hlI : ¬ (250 : Int) < (l.length : Int) := by omega
    rw [if_neg h250]
    obtain ⟨D, hD⟩ : ∃ D, chD prg true l 12 ⟨0, 0, [], []⟩ = D := ⟨_, rfl⟩
    rw [hD]
    have hRl := chX_D (l := l) 12 ⟨0, 0, [], []⟩
    rw [hD] at hRl
    have hS := er_signs l w hl
    have HS := Lib.hid hS; have HRL := Lib.hid hRl
    clear hS hRl hD h250
    go_enter Tryd.func6, Tryd.ntmps6
    go_wp2_with fail
    with_reducible refine HS.out.mono ?_
    rintro e w1 ⟨sv, rfl, hown, hblk, f1⟩
    obtain ⟨av, cv, rfl⟩ := ownsRow_slice hown
    have hmk : ∀ W, (Instr.makeMap 46 none).run Tryd.prog W = .ok (.map (some W.heap.size)) (W.alloc (.map #[] 0)) := fun W => by simp [Instr.makeMap, Result.andThen]
    obtain ⟨m, hm⟩ : ∃ m, w1.heap.size = m := ⟨_, rfl⟩
    obtain ⟨w3, hw3⟩ : ∃ w3, w3 = (w1.alloc (.map #[] 0)).alloc (.cells #[.string ⟨l.toArray⟩, .slice av l.length cv, .int .i64 0, .int .i64 0, .map (some w1.heap.size), .slice none 0 0, .int .i64 0, .int .i64 0] 48) := ⟨_, rfl⟩
    have hs3 : w3.heap.size = w1.heap.size + 2 := by rw [hw3]; simp
    have hf13 : Fr nob w1 w3 := by rw [hw3]; exact ((Fr.refl nob w1).alloc _).alloc _
    have hE3 : Er (w1.heap.size + 1) l ⟨⟨0, 0, [], []⟩, none⟩ (fun k => k = w1.heap.size + 1 ∨ k = w1.heap.size) (.slice av l.length cv) w1.heap.size (.slice none 0 0) w3 := by
      refine ⟨by rw [hw3]; exact heap_alloc_new' _ _ _ (by simp), ownsRow_fr hown hf13 (fun _ _ x => x), IMap.new (by rw [hw3]; exact heap_alloc_lt _ (newAt0 w1 _)), World.ownsRow_nil _ _ _ _, fun _ h => (by cases h), by omega, fun k hk => ?_, .inl rfl, .inr rfl, fun z h => (by cases h)⟩
      have := own_lt hown k hk
      exact ⟨by omega, by omega⟩
    have hWd : Wd w (fun k => k = w1.heap.size + 1 ∨ k = w1.heap.size) w3 := ⟨f1.trans' hf13, fun k hk => by have := f1.size; omega, fun k hk => by omega⟩
    have hch := er_chAt l w hl hE 12 0 rfl (w1.heap.size + 1) ⟨⟨0, 0, [], []⟩, none⟩ (fun k => k = w1.heap.size + 1 ∨ k = w1.heap.size) (fun _ => False) w3 (fun _ h => h.elim) ⟨Nat.zero_le _, Nat.le_refl _, Nat.le_refl _, Nat.le_refl _⟩ hWd ⟨_, _, _, hE3⟩
    rw [show ((0 : Nat) : Int) = 0 from rfl] at hch
    have HCH := Lib.hid hch; have H3 := Lib.hid hw3; have F3 := Lib.hid (f1.trans' hf13); have HSZ := Lib.hid f1.size
    clear hch hw3 hE3 hWd hf13 hown hblk f1 hm hs3
    go_wp2_with (rw [← H3.out])
    with_reducible refine HCH.out.mono ?_
    rintro e w4 ⟨v4, S4', rfl, rn4, ⟨sv4, m4, mv4, e4⟩, t4⟩
    have rr := rule8 e4.blk
    have hfr : Fr nob w w4 := F3.out.trans t4.fr (fun i hi x => by have := HSZ.out; rcases x with x | x <;> omega)
    cases D with
    | inl z =>
      obtain ⟨z, p⟩ := z
      obtain ⟨hx, _⟩ : (chX l 12 ⟨⟨0, 0, [], []⟩, none⟩).2.x = some (z, p) ∧ _ := HRL.out
      have hz := e4.ok _ hx
      have hz : z ≠ 0 := hz
      rw [hx] at rr
      have hz' : ((z : Int) != 0) = true := by simpa using hz
      have HFR := Lib.hid hfr
      clear hx e4 t4 rn4 hfr
      have rr0 := rr w4 (Fr.refl nob w4)
      unfold eX pX at rr rr0
      go_wp2_with fail
      refine region_fr 11 (by kernel_rfl) (by kernel_rfl) ?_
      simp only [List.take_succ_cons, List.take_zero, List.drop_succ_cons, List.drop_zero]
      repeat (quiet_step (fail))
      refine wpQuiet_nil ?_
      intro w5 f5
      go_wp2
      exact bodyPost_ret (results_tmp4 rfl _ _ _) rfl ⟨HFR.out.trans' f5, rfl⟩
    | inr q =>
      obtain ⟨t, s⟩ := q
      have hx : chX l 12 ⟨⟨0, 0, [], []⟩, none⟩ = (t, ⟨s, none⟩) := HRL.out
      rw [hx] at rr rn4 e4
      have hma := e4.ma
      obtain ⟨am, cm, hmv⟩ := ownsRow_slice hma
      subst hmv
      have HFR := Lib.hid hfr; have HMA := Lib.hid hma; have RN4 := Lib.hid (RN.keep (Fr.refl nob w4) (fun _ _ x => x.elim) (fun _ _ x => x.elim) _ _ rn4 : RN nob w4 t v4)
      clear hx e4 t4 rn4 hfr hma
      have rr0 := rr w4 (Fr.refl nob w4)
      unfold eX pX at rr rr0
      go_wp2_with fail
      refine region_fr 6 (by kernel_rfl) (by kernel_rfl) ?_
      simp only [List.take_succ_cons, List.take_zero, List.drop_succ_cons, List.drop_zero]
      repeat (quiet_step (fail))
      refine wpQuiet_nil ?_
      intro w5 f5
      go_wp2
      exact bodyPost_ret (results_tmp4 rfl _ _ _) rfl ⟨HFR.out.trans' f5, v4, _, rfl, RN4.out.on f5, ownsRow_fr HMA.out f5 (fun _ _ x => x)⟩
end Go.Proofs.YtepeomphikhbkaaDoor

/-
  Chapter 4: Quoted; digits.
-/
namespace Go.Proofs.YtepeomphikhbkaaDoor
open Go.RowKit

theorem hasR_lit4 (s : S4) (d : Nat) (w : World) (hs : s.fit) (hd : d < 256) : Calls Tryd.prog 18 #[setV s, .int .u8 d] w fun e w' => e = .returned (.bool (s.has d)) ∧ Fr nob w w' := hasR_any s d w hs hd
/-- How Quoted tells a byte. -/
def quo (ere : Bool) (b : UInt8) : List UInt8 :=
  if b = 10 then [92, 110]
  else if ere = false ∧ (b = 40 ∨ b = 41 ∨ b = 123 ∨ b = 124 ∨ b = 43 ∨ b = 63) then [b]
  else if punctS.has b.toNat then [92, b] else [b]
theorem quo_bre (b : UInt8) : quo false b = quoB b := by unfold quo quoB; simp
def quoT (ere : Bool) (l : List UInt8) : List UInt8 := telT (l.map fun b => (b, quo ere b))
theorem telT_append (a b : List (UInt8 × List UInt8)) : telT (a ++ b) = telT a ++ telT b := by
  induction a with
  | nil => rfl
  | cons x r ih => show x.2 ++ telT (r ++ b) = _; rw [ih, ← List.append_assoc]; rfl
theorem quoT_take {ere : Bool} {l : List UInt8} {k : Nat} (h : k < l.length) : quoT ere (l.take (k + 1)) = quoT ere (l.take k) ++ quo ere l[k] := by
  unfold quoT
  rw [List.take_succ_eq_append_getElem h, List.map_append, telT_append]
  simp [telT]
theorem quo_le (ere : Bool) (b : UInt8) : (quo ere b).length ≤ 2 := by
  unfold quo
  split
  · exact Nat.le_refl _
  · split
    · simp
    · split <;> simp
theorem quoT_le (ere : Bool) (l : List UInt8) : (quoT ere l).length ≤ 2 * l.length := by
  induction l with
  | nil => simp [quoT, telT]
  | cons b r ih =>
    have h1 : quoT ere (b :: r) = quo ere b ++ quoT ere r := rfl
    have := quo_le ere b
    rw [h1, List.length_append, List.length_cons]; omega

set_option maxRecDepth 100000 in
set_option maxHeartbeats 2000000 in
theorem quoted_any (ere : Bool) (l : List UInt8) (u : Value) (w : World) (hl : l.length ≤ 100000) (hu : SB w l u) :
    Calls Tryd.prog 11 #[u, .bool ere] w fun e w' => e = .returned (.string ⟨(quoT ere l).toArray⟩) ∧ Fr nob w w' := by
  obtain ⟨ua, uc, hus⟩ := hu.shape
  have HU := Lib.hid hu; clear hu
  subst hus
  have hcv := run_conv_one (P := Tryd.prog) Tryd.underlying39 Tryd.underlying5 Tryd.underlying9
  have hcv2 := run_conv_two (P := Tryd.prog) Tryd.underlying39 Tryd.underlying5 Tryd.underlying9 92
  rw [show ((UInt8.toNat 92 : Nat) : Int) = 92 from rfl] at hcv2
  have hc := classR_lit ⟨#[112, 117, 110, 99, 116]⟩ _ rfl w
  rw [show clsSet (clsOf ⟨#[112, 117, 110, 99, 116]⟩) = punctS from rfl] at hc
  have hfit : punctS.fit := fit_clsSet _
  have hh := fun (b : UInt8) w => hasR_lit4 punctS b.toNat w hfit b.toNat_lt
  have hq : ∀ b, quo ere b = (if b = 10 then [92, 110] else if ere = false ∧ (b = 40 ∨ b = 41 ∨ b = 123 ∨ b = 124 ∨ b = 43 ∨ b = 63) then [b] else if punctS.has b.toNat then [92, b] else [b]) := fun b => rfl
  obtain ⟨S, hS⟩ : ∃ S, punctS = S := ⟨_, rfl⟩
  rw [hS] at hc hh
  simp only [hS] at hq
  have HC := Lib.hid hc; have HH := Lib.hid hh; have HQ := Lib.hid hq
  clear hc hh hfit hS hq
  go_enter Tryd.func11, Tryd.ntmps11
  go_wp2_with fail
  refine HC.out.mono ?_
  rintro e w2 ⟨rfl, f2⟩
  have hb0 := heap_alloc_new w2 (.cells #[.int .u64 S.a, .int .u64 S.b, .int .u64 S.c, .int .u64 S.d] 57)
  have F2 := Lib.hid (f2.alloc (.cells #[.int .u64 S.a, .int .u64 S.b, .int .u64 S.c, .int .u64 S.d] 57))
  have HB0 := Lib.hid hb0
  clear f2 hb0
  go_wp2_with fail
  go_loopw [7, 16] (fun v i wr => ∃ k : Nat, i = .int .i64 k ∧ k ≤ l.length ∧ v = .string ⟨(quoT ere (l.take k)).toArray⟩ ∧ wr.heap[w2.heap.size]? = some (.cells #[.int .u64 S.a, .int .u64 S.b, .int .u64 S.c, .int .u64 S.d] 57 (0, 0)) ∧ Fr nob w wr) (fun _ i _ => l.length - (intOf i).toNat)
  case atStart => exact ⟨0, rfl, Nat.zero_le _, rfl, HB0.out, F2.out⟩
  case round =>
    obtain ⟨k, rfl, hk, rfl, hb, fr⟩ := hrel
    have HB := Lib.hid hb; have HFR := Lib.hid fr
    clear hb fr
    by_cases hlt : k < l.length
    · obtain ⟨q, off, cap, he, hc⟩ := HU.out.get HFR.out hlt
      injection he with e1 e2 e3
      subst e1; subst e3
      have HT := Lib.hid (quoT_take (ere := ere) hlt)
      obtain ⟨x, hx⟩ : ∃ x, l[k] = x := ⟨_, rfl⟩
      rw [hx] at hc HT
      rw [HQ.out x] at HT
      have hle : (quoT ere (l.take k)).length ≤ 200000 := by have := quoT_le ere (l.take k); rw [List.length_take] at this; omega
      obtain ⟨out, ho⟩ : ∃ out, quoT ere (l.take k) = out := ⟨_, rfl⟩
      rw [ho] at HT hle ⊢
      have rr := rule4 HB.out
      clear e2 hx ho
      by_cases h10 : x = 10
      · have t1 : ((x.toNat : Int) == 10) = true := tb_eq (b := 10) h10
        rw [if_pos h10] at HT
        clear h10 rr
        go_wp2
        go_roundw
        case rel => exact ⟨k + 1, by go_num, by omega, by rw [HT.out], HB.out, HFR.out⟩
        case measure => simp [intOf]; omega
      · have t1 : ((x.toNat : Int) == 10) = false := tb_ne (b := 10) h10
        rw [if_neg h10] at HT
        by_cases hs : ere = false ∧ (x = 40 ∨ x = 41 ∨ x = 123 ∨ x = 124 ∨ x = 43 ∨ x = 63)
        · rw [if_pos hs] at HT
          obtain ⟨rfl, hs⟩ := hs
          rcases hs with rfl | rfl | rfl | rfl | rfl | rfl
          · have hcx := hcv 40
            rw [show ((UInt8.toNat 40 : Nat) : Int) = 40 from rfl] at hcx
            clear hcv hcv2 rr h10 t1
            go_wp2
            go_roundw
            case rel => exact ⟨k + 1, by go_num, by omega, by rw [HT.out], heap_alloc_lt _ HB.out, HFR.out.alloc _⟩
            case measure => simp [intOf]; omega
          · have hcx := hcv 41
            rw [show ((UInt8.toNat 41 : Nat) : Int) = 41 from rfl] at hcx
            clear hcv hcv2 rr h10 t1
            go_wp2
            go_roundw
            case rel => exact ⟨k + 1, by go_num, by omega, by rw [HT.out], heap_alloc_lt _ HB.out, HFR.out.alloc _⟩
            case measure => simp [intOf]; omega
          · have hcx := hcv 123
            rw [show ((UInt8.toNat 123 : Nat) : Int) = 123 from rfl] at hcx
            clear hcv hcv2 rr h10 t1
            go_wp2
            go_roundw
            case rel => exact ⟨k + 1, by go_num, by omega, by rw [HT.out], heap_alloc_lt _ HB.out, HFR.out.alloc _⟩
            case measure => simp [intOf]; omega
          · have hcx := hcv 124
            rw [show ((UInt8.toNat 124 : Nat) : Int) = 124 from rfl] at hcx
            clear hcv hcv2 rr h10 t1
            go_wp2
            go_roundw
            case rel => exact ⟨k + 1, by go_num, by omega, by rw [HT.out], heap_alloc_lt _ HB.out, HFR.out.alloc _⟩
            case measure => simp [intOf]; omega
          · have hcx := hcv 43
            rw [show ((UInt8.toNat 43 : Nat) : Int) = 43 from rfl] at hcx
            clear hcv hcv2 rr h10 t1
            go_wp2
            go_roundw
            case rel => exact ⟨k + 1, by go_num, by omega, by rw [HT.out], heap_alloc_lt _ HB.out, HFR.out.alloc _⟩
            case measure => simp [intOf]; omega
          · have hcx := hcv 63
            rw [show ((UInt8.toNat 63 : Nat) : Int) = 63 from rfl] at hcx
            clear hcv hcv2 rr h10 t1
            go_wp2
            go_roundw
            case rel => exact ⟨k + 1, by go_num, by omega, by rw [HT.out], heap_alloc_lt _ HB.out, HFR.out.alloc _⟩
            case measure => simp [intOf]; omega
        · rw [if_neg hs] at HT
          have hx2 := HH.out x wr
          obtain ⟨r, hr⟩ : ∃ r, S.has x.toNat = r := ⟨_, rfl⟩
          rw [hr] at HT hx2
          have HX := Lib.hid hx2
          have hcx := hcv x; have hcx2 := hcv2 x
          clear hx2 hr hcv hcv2 h10
          have hsp : ere = true ∨ (ere = false ∧ x ≠ 40 ∧ x ≠ 41 ∧ x ≠ 123 ∧ x ≠ 124 ∧ x ≠ 43 ∧ x ≠ 63) := by
            cases ere with
            | true => exact .inl rfl
            | false => simp only [true_and, not_or] at hs; exact .inr ⟨rfl, hs.1, hs.2.1, hs.2.2.1, hs.2.2.2.1, hs.2.2.2.2.1, hs.2.2.2.2.2⟩
          clear hs
          have key : ∃ b2 b3 b4 b5 b6 b7 : Bool, ((x.toNat : Int) == 40) = b2 ∧ ((x.toNat : Int) == 41) = b3 ∧ ((x.toNat : Int) == 123) = b4 ∧ ((x.toNat : Int) == 124) = b5 ∧ ((x.toNat : Int) == 43) = b6 ∧ ((x.toNat : Int) == 63) = b7 ∧ (ere = false → b2 = false ∧ b3 = false ∧ b4 = false ∧ b5 = false ∧ b6 = false ∧ b7 = false) := by
            refine ⟨_, _, _, _, _, _, rfl, rfl, rfl, rfl, rfl, rfl, fun he => ?_⟩
            rcases hsp with h | ⟨_, h1, h2, h3, h4, h5, h6⟩
            · rw [h] at he; cases he
            · exact ⟨tb_ne (b := 40) h1, tb_ne (b := 41) h2, tb_ne (b := 123) h3, tb_ne (b := 124) h4, tb_ne (b := 43) h5, tb_ne (b := 63) h6⟩
          obtain ⟨b2, b3, b4, b5, b6, b7, t2, t3, t4, t5, t6, t7, hk0⟩ := key
          clear hsp
          cases ere
          case' false => obtain ⟨rfl, rfl, rfl, rfl, rfl, rfl⟩ := hk0 rfl
          all_goals
            clear hk0
            cases r
            all_goals
              go_wp2_with fail
              refine HX.out.mono ?_
              rintro e w3 ⟨rfl, f3⟩
              have F3 := Lib.hid f3; clear f3 rr
              go_wp2
              go_roundw
              case rel => exact ⟨k + 1, by go_num, by omega, by rw [HT.out]; rfl, heap_alloc_lt _ (F3.out.heap HB.out (fun x => x)), (HFR.out.trans' F3.out).alloc _⟩
              case measure => simp [intOf]; omega
    · obtain rfl : k = l.length := by omega
      have hT := List.take_of_length_le (l := l) (Nat.le_refl _)
      rw [hT]
      go_wp2
      go_ret
      exact ⟨rfl, HFR.out⟩
end Go.Proofs.YtepeomphikhbkaaDoor

/-
  A basic regex in plain words: a regex within a text. No walk.
-/
namespace Go.Proofs.YtepeomphikhbkaaDoor
open Go.RowKit

/-! ### Groups of greater numbers -/
mutual
def Nd.turn (o : Int) : Nd → Nd
  | .cat l => .cat (Nd.turns o l)
  | .alt l => .alt (Nd.turns o l)
  | .rep x a b => .rep (x.turn o) a b
  | .group n x => .group (n + o) (x.turn o)
  | .nil => .nil
  | .empty => .empty
  | .one s => .one s
  | .back n => .back n
  | .start => .start
  | .fin => .fin
def Nd.turns (o : Int) : List Nd → List Nd
  | [] => []
  | t :: ts => t.turn o :: Nd.turns o ts
end
theorem Nd.turns_eq (o : Int) (l : List Nd) : Nd.turns o l = l.map (Nd.turn o) := by
  induction l with
  | nil => rfl
  | cons t ts ih => simp only [Nd.turns, List.map_cons, ih]
theorem Nd.turns_append (o : Int) (l m : List Nd) : Nd.turns o (l ++ m) = Nd.turns o l ++ Nd.turns o m := by simp only [Nd.turns_eq, List.map_append]
theorem Nd.turns_length (o : Int) (l : List Nd) : (Nd.turns o l).length = l.length := by simp only [Nd.turns_eq, List.length_map]
theorem unit_turn (o : Int) (t : Nd) : (t.turn o).unit = t.unit := by cases t <;> rfl
theorem units_turns {o : Int} {ps : List Nd} (h : units ps) : units (Nd.turns o ps) := fun x hx => by
  rw [Nd.turns_eq] at hx
  obtain ⟨y, hy, rfl⟩ := List.mem_map.1 hx
  rw [unit_turn]; exact h y hy
theorem brn_turn {o : Int} {t : Nd} (h : t.brn) : (t.turn o).brn := by
  cases t with
  | cat l => exact ⟨by rw [Nd.turns_length]; exact h.1, units_turns h.2⟩
  | nil => cases h
  | alt l => cases h
  | empty => trivial
  | _ => exact h
theorem brns_turns {o : Int} {ts : List Nd} (h : brns ts) : brns (Nd.turns o ts) := fun x hx => by
  rw [Nd.turns_eq] at hx
  obtain ⟨y, hy, rfl⟩ := List.mem_map.1 hx
  exact brn_turn (h y hy)
theorem joined_units {ps : List Nd} (h : units ps) : joined ps = onlyOf ps (.cat ps) := by unfold joined; rw [units_parts h]
theorem joined_turn {o : Int} {ps : List Nd} (h : units ps) : joined (Nd.turns o ps) = (joined ps).turn o := by
  rw [joined_units h, joined_units (units_turns h)]
  match ps with
  | [] => rfl
  | [x] => rfl
  | x :: y :: r => rfl
theorem chosen_turn {o : Int} {ts : List Nd} (h : brns ts) : chosen (Nd.turns o ts) = (chosen ts).turn o := by
  rw [chosen_brns h, chosen_brns (brns_turns h)]
  match ts with
  | [] => rfl
  | [x] => rfl
  | x :: y :: r => rfl
theorem joined_backs {ps : List Nd} (h : units ps) : (joined ps).backs = Nd.backss ps := by
  rw [joined_units h]
  match ps with
  | [] => rfl
  | [x] => simp [onlyOf, Nd.backss]
  | x :: y :: r => rfl
theorem joined_deep {ps : List Nd} (h : units ps) : (joined ps).deep = Nd.deeps ps := by
  rw [joined_units h]
  match ps with
  | [] => rfl
  | [x] => simp [onlyOf, Nd.deeps]
  | x :: y :: r => rfl
theorem joined_groups {ps : List Nd} (h : units ps) : (joined ps).groups = Nd.groupss ps := by
  rw [joined_units h]
  match ps with
  | [] => rfl
  | [x] => simp [onlyOf, Nd.groupss]
  | x :: y :: r => rfl
theorem chosen_backs {ts : List Nd} (h : brns ts) : (chosen ts).backs = Nd.backss ts := by
  rw [chosen_brns h]
  match ts with
  | [] => rfl
  | [x] => simp [onlyOf, Nd.backss]
  | x :: y :: r => rfl
theorem chosen_deep {ts : List Nd} (h : brns ts) : (chosen ts).deep = Nd.deeps ts := by
  rw [chosen_brns h]
  match ts with
  | [] => rfl
  | [x] => simp [onlyOf, Nd.deeps]
  | x :: y :: r => rfl
theorem chosen_groups {ts : List Nd} (h : brns ts) : (chosen ts).groups = Nd.groupss ts := by
  rw [chosen_brns h]
  match ts with
  | [] => rfl
  | [x] => simp [onlyOf, Nd.groupss]
  | x :: y :: r => rfl
theorem backss_snoc (ps : List Nd) (t : Nd) : Nd.backss (ps ++ [t]) = (Nd.backss ps || t.backs) := by
  simp only [Nd.backss_eq, List.any_append, List.any_cons, List.any_nil, Bool.or_false]
theorem deeps_snoc (ps : List Nd) (t : Nd) : Nd.deeps (ps ++ [t]) = max (Nd.deeps ps) t.deep := by
  rw [Nd.deeps_append]; simp [Nd.deeps]
theorem groupss_snoc (ps : List Nd) (t : Nd) : Nd.groupss (ps ++ [t]) = Nd.groupss ps + t.groups := by
  rw [Nd.groupss_append]; simp [Nd.groupss]

/-! ### A text within another -/
/-- What may stand behind. -/
def Tail (q : List UInt8) : Prop := q = [] ∨ (∃ r, q = 92 :: 41 :: r) ∨ ∃ r, q = 92 :: 124 :: r
/-- The state, within the other text. -/
def RxS.sh (P o : Nat) (c0 : List Nat) (m0 : List (Nat × List UInt8)) (s : RxS) : RxS :=
  ⟨P + s.at_, s.opened + o, c0 ++ s.closed.map (· + o), m0 ++ s.marks.map fun m => (P + m.1, m.2)⟩
section
variable {P o : Nat} {c0 : List Nat} {m0 : List (Nat × List UInt8)} (s : RxS)
theorem sh_go (n : Nat) : (s.go n).sh P o c0 m0 = (s.sh P o c0 m0).go n := by simp [RxS.sh, RxS.go, Nat.add_assoc]
theorem sh_to (n : Nat) : (s.to n).sh P o c0 m0 = (s.sh P o c0 m0).to (P + n) := by simp [RxS.sh, RxS.to]
theorem sh_mark (t : List UInt8) : (s.mark t).sh P o c0 m0 = (s.sh P o c0 m0).mark t := by simp [RxS.sh, RxS.mark]
theorem sh_at : (s.sh P o c0 m0).at_ = P + s.at_ := rfl
end
section
variable {p l q : List UInt8}
theorem cx_drop {k : Nat} (hk : k ≤ l.length) : (p ++ (l ++ q)).drop (p.length + k) = l.drop k ++ q := by
  rw [drop_sh, List.drop_append_of_le_length hk]
theorem cx_ahd1 (hq : Tail q) {k : Nat} {c : UInt8} (hk : k ≤ l.length) (hc : c ≠ 92) : ahd (p ++ (l ++ q)) (p.length + k) [c] = ahd l k [c] := by
  unfold ahd
  rw [cx_drop hk]
  cases l.drop k with
  | nil => rcases hq with rfl | ⟨r, rfl⟩ | ⟨r, rfl⟩ <;> simp [List.isPrefixOf, hc]
  | cons a r => simp [List.isPrefixOf]
theorem cx_ahd2 (hq : Tail q) {k : Nat} {c : UInt8} (hk : k ≤ l.length) (hc : c ≠ 92) (h : k < l.length ∨ (c ≠ 41 ∧ c ≠ 124)) : ahd (p ++ (l ++ q)) (p.length + k) [92, c] = ahd l k [92, c] := by
  unfold ahd
  rw [cx_drop hk]
  cases hd : l.drop k with
  | nil =>
    have : ¬ k < l.length := fun hlt => by rw [List.drop_eq_getElem_cons hlt] at hd; cases hd
    obtain ⟨h1, h2⟩ := h.resolve_left this
    rcases hq with rfl | ⟨r, rfl⟩ | ⟨r, rfl⟩ <;> simp [List.isPrefixOf, h1, h2]
  | cons a r =>
    cases r with
    | nil => rcases hq with rfl | ⟨r, rfl⟩ | ⟨r, rfl⟩ <;> simp [List.isPrefixOf, hc]
    | cons b r => simp [List.isPrefixOf]
theorem cx_get {k : Nat} (hk : k < l.length) : (p ++ (l ++ q))[p.length + k]? = some l[k] := by
  rw [get_sh, List.getElem?_append_left hk, List.getElem?_eq_getElem hk]
theorem cx_last (hq : Tail q) {k : Nat} (hk : k < l.length) : lastS (p ++ (l ++ q)) (p.length + k) = lastS l k := by
  unfold lastS
  rw [show p.length + k + 1 = p.length + (k + 1) from by omega]
  by_cases h1 : k + 1 < l.length
  · rw [cx_ahd2 hq (Nat.le_of_lt h1) (by decide) (.inl h1), cx_ahd2 hq (Nat.le_of_lt h1) (by decide) (.inl h1), cx_drop (Nat.le_of_lt h1)]
    have : (l.drop (k + 1)).isEmpty = false := by rw [List.drop_eq_getElem_cons h1]; rfl
    rw [List.drop_eq_getElem_cons h1]; rfl
  · have he : l.drop (k + 1) = [] := List.drop_eq_nil_of_le (by omega)
    unfold ahd
    rw [cx_drop (by omega), he]
    rcases hq with rfl | ⟨r, rfl⟩ | ⟨r, rfl⟩ <;> simp [List.isPrefixOf]
theorem cx_num (hq : Tail q) : ∀ (r : List UInt8) (c n : Nat), num3 (r ++ q) c n = num3 r c n
  | [], c, n => by
    rcases hq with rfl | ⟨r, rfl⟩ | ⟨r, rfl⟩
    · rfl
    · rw [List.nil_append]; show num3 (92 :: _) c n = (n, c); rw [num3, if_neg (fun h => by have := h.2.1; simp at this)]
    · rw [List.nil_append]; show num3 (92 :: _) c n = (n, c); rw [num3, if_neg (fun h => by have := h.2.1; simp at this)]
  | x :: r, c, n => by
    rw [List.cons_append, num3, num3]
    split
    · exact cx_num hq r _ _
    · rfl
theorem cx_itv (hq : Tail q) {m0 x0 : Int} {j : Nat} {k' : Nat} (hk : k' ≤ l.length) (h : itvB l k' = some (m0, x0, j)) : itvB (p ++ (l ++ q)) (p.length + k') = some (m0, x0, p.length + j) := by
  obtain ⟨m, c, hM⟩ : ∃ m c, num3 (l.drop k') 0 0 = (m, c) := ⟨_, _, rfl⟩
  have hb := num3_bd l k' hk
  rw [hM] at hb
  have hb3 : k' + c ≤ l.length := hb.2.2
  have hM' : num3 ((p ++ (l ++ q)).drop (p.length + k')) 0 0 = (m, c) := by rw [cx_drop hk, cx_num hq, hM]
  by_cases hc : c = 0
  · subst hc; rw [itvB_zero hM] at h; cases h
  · have a1 : ahd (p ++ (l ++ q)) (p.length + k' + c) [44] = ahd l (k' + c) [44] := by rw [Nat.add_assoc]; exact cx_ahd1 hq hb3 (by decide)
    cases ha : ahd l (k' + c) [44] with
    | false =>
      rw [ha] at a1
      have a2 : ahd (p ++ (l ++ q)) (p.length + k' + c) [92, 125] = ahd l (k' + c) [92, 125] := by rw [Nat.add_assoc]; exact cx_ahd2 hq hb3 (by decide) (.inr (by decide))
      rw [itvB_one hM hc ha] at h
      rw [itvB_one hM' hc a1, a2]
      split at h
      · cases h
      · next hn => rw [if_neg hn]; injection h with h; injection h with h1 h2; injection h2 with h2 h3; subst h1; subst h2; subst h3; simp only [Nat.add_assoc]
    | true =>
      rw [ha] at a1
      have hle := ahd_le ha (by decide)
      simp only [List.length_singleton] at hle
      obtain ⟨y, d, hX⟩ : ∃ y d, num3 (l.drop (k' + c + 1)) 0 0 = (y, d) := ⟨_, _, rfl⟩
      have hb2 := num3_bd l (k' + c + 1) hle
      rw [hX] at hb2
      have hb4 : k' + c + 1 + d ≤ l.length := hb2.2.2
      have hX' : num3 ((p ++ (l ++ q)).drop (p.length + k' + c + 1)) 0 0 = (y, d) := by rw [show p.length + k' + c + 1 = p.length + (k' + c + 1) from by omega, cx_drop hle, cx_num hq, hX]
      by_cases hd : d = 0
      · subst hd
        have a2 : ahd (p ++ (l ++ q)) (p.length + k' + c + 1) [92, 125] = ahd l (k' + c + 1) [92, 125] := by rw [show p.length + k' + c + 1 = p.length + (k' + c + 1) from by omega]; exact cx_ahd2 hq hle (by decide) (.inr (by decide))
        rw [itvB_open hM hc ha hX] at h
        rw [itvB_open hM' hc a1 hX', a2]
        split at h
        · cases h
        · next hn => rw [if_neg hn]; injection h with h; injection h with h1 h2; injection h2 with h2 h3; subst h1; subst h2; subst h3; simp only [Nat.add_assoc]
      · have a2 : ahd (p ++ (l ++ q)) (p.length + k' + c + 1 + d) [92, 125] = ahd l (k' + c + 1 + d) [92, 125] := by rw [show p.length + k' + c + 1 + d = p.length + (k' + c + 1 + d) from by omega]; exact cx_ahd2 hq hb4 (by decide) (.inr (by decide))
        rw [itvB_two hM hc ha hX hd] at h
        rw [itvB_two hM' hc a1 hX' hd, a2]
        split at h
        · cases h
        · next hn => rw [if_neg hn]; injection h with h; injection h with h1 h2; injection h2 with h2 h3; subst h1; subst h2; subst h3; simp only [Nat.add_assoc]
theorem cx_prs {k : Nat} {c : S4} {j : Nat} (h : prs l k = .inr (c, j)) : prs (p ++ (l ++ q)) (p.length + k) = .inr (c, p.length + j) := by
  rw [prs_sh, prs_app q h]; rfl
end
end Go.Proofs.YtepeomphikhbkaaDoor
