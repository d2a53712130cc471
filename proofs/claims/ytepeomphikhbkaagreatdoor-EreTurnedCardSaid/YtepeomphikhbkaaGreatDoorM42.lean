/-
  Merged texts of this claim: EreJ, BreT, EreX.
-/
import Derived.Test.YtepeomphikhbkaaGreatDoorM05
import Derived.Test.YtepeomphikhbkaaGreatDoorM11
import Derived.Test.YtepeomphikhbkaaGreatDoorM12
import Derived.Test.YtepeomphikhbkaaGreatDoorM14
import Derived.Test.YtepeomphikhbkaaGreatDoorM17
import Derived.Test.YtepeomphikhbkaaGreatDoorM23
import Derived.Test.YtepeomphikhbkaaGreatDoorM27
import Derived.Test.YtepeomphikhbkaaGreatDoorM41

/-
  Walks of package ere: signs, Parse.
-/
namespace Go.Proofs.YtepeomphikhbkaaGreatDoor
open Go.RowKit

theorem info_i32 : (Tryz.prog.info? 21).map (fun i => (i.zero, i.size, i.bytes)) = some (some (.int .i32 0), 1, 4) := by kernel_rfl
theorem runes_append (a b : List UInt8) : runes (a ++ b) = runes a ++ runes b := by simp [runes]
theorem runes_len (a : List UInt8) : (runes a).length = a.length := by simp [runes]
/-- The loop's relation. -/
def SgRel (l x : List UInt8) (w : World) (it n : Nat) (v : Value) (wr : World) : Prop :=
  ∃ k : Nat, k ≤ l.length ∧ l.length < n + k ∧ wr.heap[it]? = some (.stringIter ⟨x.toArray⟩ (wide (l.take k)).length) ∧ wr.ownsRow 0 21 1 v k (runes (l.take k)) ∧ (∀ j, v.ownBlock = some j → it < j) ∧ Fr nob w wr

set_option maxRecDepth 100000 in
set_option maxHeartbeats 1000000 in
theorem er_signs (l : List UInt8) (w : World) (hl : l.length ≤ 100000) :
    Calls Tryz.prog 14 #[.string ⟨l.toArray⟩] w fun e w' => ∃ v, e = .returned v ∧ w'.ownsRow 0 21 1 v l.length (runes l) ∧ (∀ j, v.ownBlock = some j → w.heap.size ≤ j) ∧ Fr nob w w' := by
  obtain ⟨i0, hi, hz0, hz1, hz2⟩ := info_parts info_i32
  have hW := wide_any l w (by omega)
  obtain ⟨x, hx⟩ : ∃ x, wide l = x := ⟨_, rfl⟩
  rw [hx] at hW
  have HX := Lib.hid hx; have HWI := Lib.hid hW; clear hx hW
  go_enter Tryz.func14, Tryz.ntmps14
  go_wp2_with fail
  with_reducible refine HWI.out.mono ?_
  rintro e w3 ⟨rfl, f3⟩
  have F := Lib.hid f3; clear f3
  go_wp2_with fail
  go_loopg [3] (l.length + 1) (fun n v wr => SgRel l x w w3.heap.size n v wr)
  case atStart => exact ⟨0, Nat.zero_le _, by omega, heap_alloc_new _ _, World.ownsRow_nil _ _ _ _, fun j h => (by cases h), F.out.alloc _⟩
  case round =>
    obtain ⟨k, hk, hn, hit, hown, hblk, hfr⟩ := hrel
    obtain ⟨m, rfl⟩ : ∃ m, gk = m + 1 := ⟨gk - 1, by omega⟩
    obtain ⟨av, cv, rfl⟩ := ownsRow_slice hown
    have HI := Lib.hid hit; have HO := Lib.hid hown; have HBK := Lib.hid hblk; have HFR := Lib.hid hfr; clear hit hown hblk hfr
    by_cases hlt : k < l.length
    · have hat : (wide (l.take k)).length < x.length := by rw [← HX.out]; exact wide_at hlt
      have hnx : ∀ ty, (Instr.next (.pointer (some ⟨w3.heap.size, 0, none⟩)) true ty).run Tryz.prog wr = .ok (.tuple #[.bool true, .int .i64 ((wide (l.take k)).length : Nat), .int .i32 (l[k].toNat : Nat)]) (wr.iterAt w3.heap.size ⟨x.toArray⟩ (wide (l.take (k + 1))).length) := by
        intro ty
        have := Lib.run_next_any_at (P := Tryz.prog) wr w3.heap.size ⟨x.toArray⟩ (wide (l.take k)).length ty HI.out (by rw [bsize]; exact hat)
        rw [decode_yes hat (by rw [← HX.out]; exact nar1_at hlt)] at this
        rw [wide_take hlt, List.length_append]; exact this
      have hi1 := Lib.iterAt_heap wr w3.heap.size ⟨x.toArray⟩ _ (wide (l.take (k + 1))).length HI.out
      have hlw : w.heap.size ≤ w3.heap.size := F.out.size
      have hfi := fr_iterAt wr w3.heap.size ⟨x.toArray⟩ (wide (l.take (k + 1))).length
      have hf1 : Fr nob w (wr.iterAt w3.heap.size ⟨x.toArray⟩ (wide (l.take (k + 1))).length) := HFR.out.trans hfi (fun i hi e => by omega)
      have hown1 := ownsRow_fr HO.out hfi (fun j hj e => by have := HBK.out j hj; omega)
      obtain ⟨w4, hw⟩ : ∃ w4, wr.iterAt w3.heap.size ⟨x.toArray⟩ (wide (l.take (k + 1))).length = w4 := ⟨_, rfl⟩
      rw [hw] at hnx hi1 hf1 hown1
      obtain ⟨c, hc⟩ : ∃ c, l[k] = c := ⟨_, rfl⟩
      rw [hc] at hnx
      have hT : runes (l.take (k + 1)) = runes (l.take k) ++ [.int .i32 (c.toNat : Int)] := by rw [List.take_succ_eq_append_getElem hlt, runes_append, hc]; rfl
      have HI1 := Lib.hid hi1; have HF1 := Lib.hid hf1; have HO1 := Lib.hid hown1; have HT := Lib.hid hT
      clear hw hi1 hf1 hat hfi hown1 hT hc
      go_wp2_with (at_builtin; refine wpList_append_g rfl _ _ 51 rfl 21 i0 (.int .i32 0) 1 4 Tryz.underlying51 hi hz0 hz1 hz2 rfl (by decide) _ _ _ rfl (ownsRow_fr HO1.out ((Fr.refl nob w4).alloc _) (fun _ _ x => x)) ⟨w4.heap.size, 0, none⟩ 1 1 [.int .i32 (c.toNat : Int)] rfl rfl ?c1 ?c2 ?c3 ?c4 ?_)
      case c1 => intro j u hj; match j, hj with | 0, hj => simp at hj; subst hj; simp [Addr.add]
      case c2 => intro u hu; simp at hu; subst hu; rfl
      case c3 => unfold maxLen; omega
      case c4 => omega
      intro v' w5 hown' hap
      obtain ⟨av', cv', rfl⟩ := ownsRow_slice hown'
      have hlw5 : w3.heap.size < w4.heap.size := lt_heap HI1.out
      have hi5 := hap.fr.heap (heap_alloc_lt (.cells #[.int .i32 (c.toNat : Int)] 21) HI1.out) (fun e => by have := HBK.out _ e; omega)
      have hf5 : Fr nob w w5 := (HF1.out.alloc _).trans hap.fr (fun i hi e => by have := HBK.out _ e; omega)
      have hb5 : ∀ j, (Value.slice av' (k + 1) cv').ownBlock = some j → w3.heap.size < j := fun j hj => by
        rcases hap.old j hj with h1 | h1
        · exact HBK.out j h1
        · simp at h1; omega
      have HI5 := Lib.hid hi5; have HF5 := Lib.hid hf5; have HB5 := Lib.hid hb5; have HO5 := Lib.hid hown'
      clear hi5 hf5 hb5 hown' hap hnx
      go_wp2
      go_roundg m
      case measure => omega
      case rel => exact ⟨k + 1, by omega, by omega, HI5.out, by rw [HT.out]; exact HO5.out, HB5.out, HF5.out⟩
    · obtain rfl : k = l.length := by omega
      have hT : (wide (l.take l.length)).length = x.length := by rw [List.take_of_length_le (Nat.le_refl _), HX.out]
      have hnx : ∀ ty, (Instr.next (.pointer (some ⟨w3.heap.size, 0, none⟩)) true ty).run Tryz.prog wr = .ok (.tuple #[.bool false]) wr := by
        intro ty
        exact Lib.run_next_end_at (P := Tryz.prog) wr w3.heap.size ⟨x.toArray⟩ _ ty HI.out (by rw [bsize, hT]; omega)
      clear hT
      go_wp2
      go_ret
      refine ⟨_, rfl, ?_, ?_, HFR.out⟩
      · have := HO.out; rwa [List.take_of_length_le (Nat.le_refl _)] at this
      · intro j hj; have := HBK.out j hj; have := F.out.size; omega

/-- What Parse hands back. -/
def EreAns (R : Out Nd) (w : World) (e : Ending) (w' : World) : Prop := Fr nob w w' ∧ match R with
  | .inl (z, p) => e = .returned (.tuple #[.nilIface, .slice none 0 0, .int .i64 (p : Nat), .int .i64 z])
  | .inr (t, s) => ∃ r mv, e = .returned (.tuple #[r, mv, .int .i64 0, .int .i64 0]) ∧ RN nob w' t r ∧ OwM w' s.marks mv

set_option maxRecDepth 100000 in
set_option maxHeartbeats 1000000 in
theorem ere_parse (l : List UInt8) (w : World) (hl : l.length ≤ 100000) (hE : Env w) :
    Calls Tryz.prog 6 #[.string ⟨l.toArray⟩] w (EreAns (parseD prg true l) w) := by
  unfold parseD
  by_cases h250 : 250 < l.length
  · have hlI : (250 : Int) < (l.length : Int) := by omega
    rw [if_pos h250]
    go_enter Tryz.func6, Tryz.ntmps6
    go_wp2
    exact bodyPost_ret (results_tmp4 rfl _ _ _) rfl ⟨Fr.refl _ _, rfl⟩
  · have hlI : ¬ (250 : Int) < (l.length : Int) := by omega
    rw [if_neg h250]
    obtain ⟨D, hD⟩ : ∃ D, chD prg true l 12 ⟨0, 0, [], []⟩ = D := ⟨_, rfl⟩
    rw [hD]
    have hRl := chX_D (l := l) 12 ⟨0, 0, [], []⟩
    rw [hD] at hRl
    have hS := er_signs l w hl
    have HS := Lib.hid hS; have HRL := Lib.hid hRl
    clear hS hRl hD h250
    go_enter Tryz.func6, Tryz.ntmps6
    go_wp2_with fail
    with_reducible refine HS.out.mono ?_
    rintro e w1 ⟨sv, rfl, hown, hblk, f1⟩
    obtain ⟨av, cv, rfl⟩ := ownsRow_slice hown
    have hmk : ∀ W, (Instr.makeMap 53 none).run Tryz.prog W = .ok (.map (some W.heap.size)) (W.alloc (.map #[] 0)) := fun W => by simp [Instr.makeMap, Result.andThen]
    obtain ⟨m, hm⟩ : ∃ m, w1.heap.size = m := ⟨_, rfl⟩
    obtain ⟨w3, hw3⟩ : ∃ w3, w3 = (w1.alloc (.map #[] 0)).alloc (.cells #[.string ⟨l.toArray⟩, .slice av l.length cv, .int .i64 0, .int .i64 0, .map (some w1.heap.size), .slice none 0 0, .int .i64 0, .int .i64 0] 55) := ⟨_, rfl⟩
    have hs3 : w3.heap.size = w1.heap.size + 2 := by rw [hw3]; simp
    have hf13 : Fr nob w1 w3 := by rw [hw3]; exact ((Fr.refl nob w1).alloc _).alloc _
    have hE3 : Er (w1.heap.size + 1) l ⟨⟨0, 0, [], []⟩, none⟩ (fun k => k = w1.heap.size + 1 ∨ k = w1.heap.size) (.slice av l.length cv) w1.heap.size (.slice none 0 0) w3 := by
      refine ⟨by rw [hw3]; exact heap_alloc_new' _ _ _ (by simp), ownsRow_fr hown hf13 (fun _ _ x => x), IMap.new (by rw [hw3]; exact heap_alloc_lt _ (newAt0 w1 _)), World.ownsRow_nil _ _ _ _, fun _ h => (by cases h), by omega, fun k hk => ?_, .inl rfl, .inr rfl, fun z h => (by cases h)⟩
      have := own_lt hown k hk
      exact ⟨by omega, by omega⟩
    have hWd : Wd w (fun k => k = w1.heap.size + 1 ∨ k = w1.heap.size) w3 := ⟨f1.trans' hf13, fun k hk => by have := f1.size; omega, fun k hk => by omega⟩
    have hch := er_chAt l w hl hE 12 0 rfl (w1.heap.size + 1) ⟨⟨0, 0, [], []⟩, none⟩ (fun k => k = w1.heap.size + 1 ∨ k = w1.heap.size) (fun _ => False) w3 (fun _ h => h.elim) ⟨Nat.zero_le _, Nat.le_refl _, Nat.le_refl _, Nat.le_refl _⟩ hWd ⟨_, _, _, hE3⟩
    rw [show ((0 : Nat) : Int) = 0 from rfl] at hch
    have HCH := Lib.hid hch; have H3 := Lib.hid hw3; have F3 := Lib.hid (f1.trans' hf13); have HSZ := Lib.hid f1.size
    clear hch hw3 hE3 hWd hf13 hown hblk f1 hm hs3
    go_wp2_with (rw [← H3.out])
    with_reducible refine HCH.out.mono ?_
    rintro e w4 ⟨v4, S4', rfl, rn4, ⟨sv4, m4, mv4, e4⟩, t4⟩
    have rr := rule8 e4.blk
    have hfr : Fr nob w w4 := F3.out.trans t4.fr (fun i hi x => by have := HSZ.out; rcases x with x | x <;> omega)
    cases D with
    | inl z =>
      obtain ⟨z, p⟩ := z
      obtain ⟨hx, _⟩ : (chX l 12 ⟨⟨0, 0, [], []⟩, none⟩).2.x = some (z, p) ∧ _ := HRL.out
      have hz := e4.ok _ hx
      have hz : z ≠ 0 := hz
      rw [hx] at rr
      have hz' : ((z : Int) != 0) = true := by simpa using hz
      have HFR := Lib.hid hfr
      clear hx e4 t4 rn4 hfr
      have rr0 := rr w4 (Fr.refl nob w4)
      unfold eX pX at rr rr0
      go_wp2_with fail
      refine region_fr 11 (by kernel_rfl) (by kernel_rfl) ?_
      simp only [List.take_succ_cons, List.take_zero, List.drop_succ_cons, List.drop_zero]
      repeat (quiet_step (fail))
      refine wpQuiet_nil ?_
      intro w5 f5
      go_wp2
      exact bodyPost_ret (results_tmp4 rfl _ _ _) rfl ⟨HFR.out.trans' f5, rfl⟩
    | inr q =>
      obtain ⟨t, s⟩ := q
      have hx : chX l 12 ⟨⟨0, 0, [], []⟩, none⟩ = (t, ⟨s, none⟩) := HRL.out
      rw [hx] at rr rn4 e4
      have hma := e4.ma
      obtain ⟨am, cm, hmv⟩ := ownsRow_slice hma
      subst hmv
      have HFR := Lib.hid hfr; have HMA := Lib.hid hma; have RN4 := Lib.hid (RN.keep (Fr.refl nob w4) (fun _ _ x => x.elim) (fun _ _ x => x.elim) _ _ rn4 : RN nob w4 t v4)
      clear hx e4 t4 rn4 hfr hma
      have rr0 := rr w4 (Fr.refl nob w4)
      unfold eX pX at rr rr0
      go_wp2_with fail
      refine region_fr 6 (by kernel_rfl) (by kernel_rfl) ?_
      simp only [List.take_succ_cons, List.take_zero, List.drop_succ_cons, List.drop_zero]
      repeat (quiet_step (fail))
      refine wpQuiet_nil ?_
      intro w5 f5
      go_wp2
      exact bodyPost_ret (results_tmp4 rfl _ _ _) rfl ⟨HFR.out.trans' f5, v4, _, rfl, RN4.out.on f5, ownsRow_fr HMA.out f5 (fun _ _ x => x)⟩
end Go.Proofs.YtepeomphikhbkaaGreatDoor

/-
  Chapter 4: Quoted; digits.
-/
namespace Go.Proofs.YtepeomphikhbkaaGreatDoor
open Go.RowKit

theorem hasR_lit4 (s : S4) (d : Nat) (w : World) (hs : s.fit) (hd : d < 256) : Calls Tryz.prog 111 #[setV s, .int .u8 d] w fun e w' => e = .returned (.bool (s.has d)) ∧ Fr nob w w' := hasR_any s d w hs hd
/-- How Quoted tells a byte. -/
def quo (ere : Bool) (b : UInt8) : List UInt8 :=
  if b = 10 then [92, 110]
  else if ere = false ∧ (b = 40 ∨ b = 41 ∨ b = 123 ∨ b = 124 ∨ b = 43 ∨ b = 63) then [b]
  else if punctS.has b.toNat then [92, b] else [b]
theorem quo_bre (b : UInt8) : quo false b = quoB b := by unfold quo quoB; simp
def quoT (ere : Bool) (l : List UInt8) : List UInt8 := telT (l.map fun b => (b, quo ere b))
theorem telT_append (a b : List (UInt8 × List UInt8)) : telT (a ++ b) = telT a ++ telT b := by
  induction a with
  | nil => rfl
  | cons x r ih => show x.2 ++ telT (r ++ b) = _; rw [ih, ← List.append_assoc]; rfl
theorem quoT_take {ere : Bool} {l : List UInt8} {k : Nat} (h : k < l.length) : quoT ere (l.take (k + 1)) = quoT ere (l.take k) ++ quo ere l[k] := by
  unfold quoT
  rw [List.take_succ_eq_append_getElem h, List.map_append, telT_append]
  simp [telT]
theorem quo_le (ere : Bool) (b : UInt8) : (quo ere b).length ≤ 2 := by
  unfold quo
  split
  · exact Nat.le_refl _
  · split
    · simp
    · split <;> simp
theorem quoT_le (ere : Bool) (l : List UInt8) : (quoT ere l).length ≤ 2 * l.length := by
  induction l with
  | nil => simp [quoT, telT]
  | cons b r ih =>
    have h1 : quoT ere (b :: r) = quo ere b ++ quoT ere r := rfl
    have := quo_le ere b
    rw [h1, List.length_append, List.length_cons]; omega

end Go.Proofs.YtepeomphikhbkaaGreatDoor

/-
  A regex of letters, groups, bars, and repetitions, by its signs: read alike, whichever way it is written. No walk.
-/
namespace Go.Proofs.YtepeomphikhbkaaGreatDoor
open Go.RowKit

/-- A sign of such a regex. -/
inductive Tok where
  | ch (c : UInt8)
  | opn
  | cls
  | bar
  | star
  | plus
  | itv
def Tok.tx (ere : Bool) : Tok → List UInt8
  | .ch c => [c]
  | .opn => opB ere 40
  | .cls => opB ere 41
  | .bar => opB ere 124
  | .star => [42]
  | .plus => opB ere 43
  | .itv => opB ere 123 ++ ([50, 44, 51] ++ opB ere 125)
def Tok.sg (ere : Bool) : Tok → List UInt8
  | .itv => opB ere 123
  | t => t.tx ere
def txs (ere : Bool) : List Tok → List UInt8
  | [] => []
  | t :: r => t.tx ere ++ txs ere r
/-- Whole, from a depth on; 'f': nothing stands ahead that can be repeated. -/
def wfT : Nat → Bool → List Tok → Prop
  | d, _, [] => d = 0
  | d, _, .ch c :: r => (c = 97 ∨ c = 98 ∨ c = 46) ∧ wfT d false r
  | d, _, .opn :: r => d < 12 ∧ wfT (d + 1) true r
  | d, _, .cls :: r => 0 < d ∧ wfT (d - 1) false r
  | d, _, .bar :: r => wfT d true r
  | d, f, .star :: r => f = false ∧ wfT d f r
  | d, f, .plus :: r => f = false ∧ wfT d f r
  | d, f, .itv :: r => f = false ∧ wfT d f r

def sg1 : List UInt8 → List UInt8
  | [] => []
  | b :: r => if b = 92 then (match r with | [] => [92] | c :: _ => [92, c]) else [b]
theorem sgn_drop {l D : List UInt8} {k : Nat} (h : l.drop k = D) : sgn l k = sg1 D := by
  subst h
  unfold sgn sg1
  by_cases hk : k < l.length
  · rw [List.getElem?_eq_getElem hk, List.drop_eq_getElem_cons hk]
    simp only
    split
    · by_cases hk2 : k + 1 < l.length
      · rw [List.getElem?_eq_getElem hk2, List.drop_eq_getElem_cons hk2]
      · rw [List.getElem?_eq_none (by omega), List.drop_eq_nil_of_le (by omega)]
    · rfl
  · rw [List.getElem?_eq_none (by omega), List.drop_eq_nil_of_le (by omega)]
structure AtK (l : List UInt8) (ere : Bool) (s : RxS) (r : List Tok) (o : Nat) : Prop where
  dr : l.drop s.at_ = txs ere r
  le : s.at_ ≤ l.length
  op : s.opened = o
  nm : ere = true → s.marks = []
theorem tx_pos (ere : Bool) (t : Tok) : 1 ≤ (t.tx ere).length := by cases t <;> cases ere <;> simp [Tok.tx, opB]
theorem txs_len (ere : Bool) : ∀ r : List Tok, r.length ≤ (txs ere r).length
  | [] => Nat.le_refl _
  | t :: r => by have := txs_len ere r; have := tx_pos ere t; simp only [txs, List.length_append, List.length_cons]; omega
section
variable {l : List UInt8} {ere : Bool} {s : RxS} {t : Tok} {r : List Tok} {o : Nat}
theorem AtK.len (h : AtK l ere s r o) : (txs ere r).length + s.at_ = l.length := by
  have h1 := congrArg List.length h.dr
  have := h.le
  rw [List.length_drop] at h1
  omega
theorem AtK.len' (h : AtK l ere s r o) : r.length ≤ l.length := by have := h.len; have := txs_len ere r; omega
theorem AtK.go (h : AtK l ere s (t :: r) o) {n : Nat} (hn : n = (t.tx ere).length) : AtK l ere (s.go n) r o := by
  subst hn
  have hl := h.len
  simp only [txs, List.length_append] at hl
  refine ⟨?_, by show s.at_ + _ ≤ _; omega, h.op, h.nm⟩
  show l.drop (s.at_ + _) = _
  rw [← List.drop_drop, h.dr, txs, List.drop_left']
  rfl
theorem AtK.mkd (h : AtK l ere s r o) (x : List UInt8) : AtK l ere (if ere then s else s.mark x) r o := by
  cases ere
  · exact ⟨h.dr, h.le, h.op, fun e => by cases e⟩
  · exact h
theorem AtK.sgn (h : AtK l ere s (t :: r) o) (hc : ∀ c, t = .ch c → c ≠ 92) : sgn l s.at_ = t.sg ere := by
  rw [sgn_drop h.dr, txs]
  cases t with
  | ch c => show (if c = 92 then _ else [c]) = [c]; rw [if_neg (hc c rfl)]
  | _ => cases ere <;> rfl
theorem AtK.nil (h : AtK l ere s [] o) : Go.Proofs.YtepeomphikhbkaaGreatDoor.sgn l s.at_ = [] := by rw [sgn_drop h.dr]; rfl
theorem itv_at (h : AtK l ere s (.itv :: r) o) : ditv l ere (s.at_ + (opB ere 123).length) = some (2, 3, s.at_ + (Tok.itv.tx ere).length) := by
  have hd := h.dr
  rw [txs, Tok.tx, List.append_assoc] at hd
  have h1 : l.drop (s.at_ + (opB ere 123).length) = 50 :: 44 :: 51 :: (opB ere 125 ++ txs ere r) := by
    rw [← List.drop_drop, hd, List.drop_left' rfl, List.append_assoc]; rfl
  have hl : (Tok.itv.tx ere).length = (opB ere 123).length + (3 + (opB ere 125).length) := by simp [Tok.tx]; omega
  rw [hl, ← Nat.add_assoc]
  generalize s.at_ + (opB ere 123).length = k at h1 ⊢
  have h2 : l.drop (k + 1) = 44 :: 51 :: (opB ere 125 ++ txs ere r) := by rw [← List.drop_drop, h1]; rfl
  have h3 : l.drop (k + 1 + 1) = 51 :: (opB ere 125 ++ txs ere r) := by rw [← List.drop_drop, h2]; rfl
  have h4 : l.drop (k + 1 + 1 + 1) = opB ere 125 ++ txs ere r := by rw [← List.drop_drop, h3]; rfl
  have e1 : num3 (50 :: 44 :: 51 :: (opB ere 125 ++ txs ere r)) 0 0 = (2, 1) := by rw [num3, num3]; rfl
  have e2 : num3 (51 :: (opB ere 125 ++ txs ere r)) 0 0 = (3, 1) := by cases ere <;> (simp only [opB, if_true, Bool.false_eq_true, if_false, List.cons_append, List.nil_append]; rw [num3, num3]; rfl)
  have e3 : ahd l (k + 1) [44] = true := by unfold ahd; rw [h2]; rfl
  have e4 : ahd l (k + 1 + 1 + 1) (opB ere 125) = true := by unfold ahd; rw [h4]; cases ere <;> rfl
  unfold ditv dnum
  simp only [h1, e1, h3, e2, e3, e4, if_true, show ¬ (255 : Nat) < 2 by decide, show ¬ (255 : Nat) < 3 by decide, if_false, show ¬ (1 : Nat) = 0 by decide, show (0 : Nat) < 1 by decide]
  rw [if_neg (by simp)]
  congr 3
  omega
end

theorem tok_rep {o : Nat} : ∀ (r : List Tok) (d : Nat) (t : Nd), wfT d false r → ∃ (t' : Nd) (r' : List Tok), wfT d true r' ∧ r'.length ≤ r.length ∧ ∀ (ere : Bool) (l : List UInt8) (s : RxS) (n : Nat), AtK l ere s r o → r.length < n → ∃ s', AtK l ere s' r' o ∧ repD prg ere l n s t = .inr (t', s')
  | [], d, t, h => ⟨t, [], h, Nat.le_refl _, fun ere l s n ha hn => by
      obtain ⟨m, rfl⟩ : ∃ m, n = m + 1 := ⟨n - 1, by simp at hn; omega⟩
      refine ⟨s, ha, ?_⟩
      rw [repD, ha.nil]
      cases ere <;> rfl⟩
  | .ch c :: r, d, t, h => ⟨t, .ch c :: r, h, Nat.le_refl _, fun ere l s n ha hn => by
      obtain ⟨m, rfl⟩ : ∃ m, n = m + 1 := ⟨n - 1, by omega⟩
      refine ⟨s, ha, ?_⟩
      have hc := h.1
      rw [repD, ha.sgn (fun c' e => by injection e with e; subst e; rcases hc with rfl | rfl | rfl <;> decide)]
      rcases hc with rfl | rfl | rfl <;> cases ere <;> rfl⟩
  | .opn :: r, d, t, h => ⟨t, .opn :: r, h, Nat.le_refl _, fun ere l s n ha hn => by
      obtain ⟨m, rfl⟩ : ∃ m, n = m + 1 := ⟨n - 1, by omega⟩
      refine ⟨s, ha, ?_⟩
      rw [repD, ha.sgn (fun c' e => by cases e)]
      cases ere <;> rfl⟩
  | .cls :: r, d, t, h => ⟨t, .cls :: r, h, Nat.le_refl _, fun ere l s n ha hn => by
      obtain ⟨m, rfl⟩ : ∃ m, n = m + 1 := ⟨n - 1, by omega⟩
      refine ⟨s, ha, ?_⟩
      rw [repD, ha.sgn (fun c' e => by cases e)]
      cases ere <;> rfl⟩
  | .bar :: r, d, t, h => ⟨t, .bar :: r, h, Nat.le_refl _, fun ere l s n ha hn => by
      obtain ⟨m, rfl⟩ : ∃ m, n = m + 1 := ⟨n - 1, by omega⟩
      refine ⟨s, ha, ?_⟩
      rw [repD, ha.sgn (fun c' e => by cases e)]
      cases ere <;> rfl⟩
  | .star :: r, d, t, h => by
      obtain ⟨t', r', h1, h2, h3⟩ := tok_rep (o := o) r d (prg.rep t 0 (-1)) h.2
      refine ⟨t', r', h1, Nat.le_succ_of_le h2, fun ere l s n ha hn => ?_⟩
      obtain ⟨m, rfl⟩ : ∃ m, n = m + 1 := ⟨n - 1, by omega⟩
      obtain ⟨s', a', e⟩ := h3 ere l (s.go 1) m (ha.go rfl) (by simp at hn; omega)
      refine ⟨s', a', ?_⟩
      rw [repD, ha.sgn (fun c' e => by cases e), ← e]
      cases ere <;> rfl
  | .plus :: r, d, t, h => by
      obtain ⟨t', r', h1, h2, h3⟩ := tok_rep (o := o) r d (prg.rep t 1 (-1)) h.2
      refine ⟨t', r', h1, Nat.le_succ_of_le h2, fun ere l s n ha hn => ?_⟩
      obtain ⟨m, rfl⟩ : ∃ m, n = m + 1 := ⟨n - 1, by omega⟩
      obtain ⟨s', a', e⟩ := h3 ere l ((if ere then s else s.mark [92, 43]).go (opB ere 43).length) m ((ha.mkd _).go rfl) (by simp at hn; omega)
      refine ⟨s', a', ?_⟩
      rw [repD, ha.sgn (fun c' e => by cases e), ← e]
      cases ere <;> rfl
  | .itv :: r, d, t, h => by
      obtain ⟨t', r', h1, h2, h3⟩ := tok_rep (o := o) r d (prg.rep t 2 3) h.2
      refine ⟨t', r', h1, Nat.le_succ_of_le h2, fun ere l s n ha hn => ?_⟩
      obtain ⟨m, rfl⟩ : ∃ m, n = m + 1 := ⟨n - 1, by omega⟩
      obtain ⟨s', a', e⟩ := h3 ere l (s.to (s.at_ + (Tok.itv.tx ere).length)) m (ha.go rfl) (by simp at hn; omega)
      refine ⟨s', a', ?_⟩
      rw [repD, ha.sgn (fun c' e => by cases e), itv_at ha, ← e]
      cases ere <;> rfl

/-- What reads a group's inside, so many levels being left. -/
def levD (ere : Bool) (l : List UInt8) : Nat → Option (RxS → Out Nd)
  | 0 => none
  | n + 1 => some (chD prg ere l n)
theorem chD_levD (ere : Bool) (l : List UInt8) (n : Nat) : chD prg ere l n = choiceD prg ere l (levD ere l n) (decide (n < 12)) := by
  cases n with
  | zero => funext s; rw [chD]; rfl
  | succ n => funext s; rw [chD]; rfl
/-- A reading that is alike either way. -/
def Alike (f : Bool → List UInt8 → RxS → Out Nd) (r : List Tok) (o : Nat) (t : Nd) (r' : List Tok) (o' : Nat) : Prop := ∀ (ere : Bool) (l : List UInt8) (s : RxS), AtK l ere s r o → ∃ s', AtK l ere s' r' o' ∧ f ere l s = .inr (t, s')
def EndT (r : List Tok) : Prop := r = [] ∨ ∃ q, r = .bar :: q ∨ r = .cls :: q
theorem tok_branch {d m K : Nat} (hdm : d + m = 12) (hsub : ∀ m', m = m' + 1 → ∀ (r : List Tok) (o : Nat), r.length < K → wfT (d + 1) true r → ∃ t r' o', wfT (d + 1) true (.cls :: r') ∧ r'.length < r.length ∧ Alike (fun ere l => chD prg ere l m') r o t (.cls :: r') o') :
    ∀ (k : Nat) (r : List Tok) (o : Nat) (ps : List Nd), r.length < k → r.length ≤ K → wfT d true r → ∃ t r' o', wfT d true r' ∧ EndT r' ∧ r'.length ≤ r.length ∧ ∀ (first front : Bool) (n : Nat), r.length < n → Alike (fun ere l s => brD prg ere l (levD ere l m) (decide (m < 12)) n first front s ps) r o t r' o' := by
  intro k
  induction k with
  | zero => intro r o ps hk; omega
  | succ k ih =>
  intro r o ps hk hK h
  match r, h with
  | [], h =>
    refine ⟨prg.join ps, [], o, h, .inl rfl, Nat.le_refl _, fun first front n hn ere l s ha => ⟨s, ha, ?_⟩⟩
    obtain ⟨n, rfl⟩ : ∃ m, n = m + 1 := ⟨n - 1, by omega⟩
    show brD prg ere l _ _ (n + 1) first front s ps = _
    rw [brD, ha.nil]
    rfl
  | .bar :: q, h =>
    refine ⟨prg.join ps, .bar :: q, o, h, .inr ⟨q, .inl rfl⟩, Nat.le_refl _, fun first front n hn ere l s ha => ⟨s, ha, ?_⟩⟩
    obtain ⟨n, rfl⟩ : ∃ m, n = m + 1 := ⟨n - 1, by omega⟩
    show brD prg ere l _ _ (n + 1) first front s ps = _
    rw [brD, ha.sgn (fun c' e => by cases e)]
    cases ere <;> rfl
  | .cls :: q, h =>
    refine ⟨prg.join ps, .cls :: q, o, h, .inr ⟨q, .inr rfl⟩, Nat.le_refl _, fun first front n hn ere l s ha => ⟨s, ha, ?_⟩⟩
    obtain ⟨n, rfl⟩ : ∃ m, n = m + 1 := ⟨n - 1, by omega⟩
    show brD prg ere l _ _ (n + 1) first front s ps = _
    rw [brD, ha.sgn (fun c' e => by cases e), decide_eq_true (show m < 12 by have := h.1; omega)]
    cases ere <;> rfl
  | .ch c :: q, h =>
    obtain ⟨hc, hq⟩ := h
    obtain ⟨t1, r1, w1, l1, h1⟩ := tok_rep (o := o) q d (if c = 46 then prg.one (spn 0 255) else prg.one (spn c.toNat c.toNat)) hq
    simp only [List.length_cons] at hk hK
    obtain ⟨t, r', o', w2, e2, l2, h2⟩ := ih r1 o (ps ++ [t1]) (by omega) (by omega) w1
    refine ⟨t, r', o', w2, e2, by simp; omega, fun first front n hn ere l s ha => ?_⟩
    simp only [List.length_cons] at hn
    obtain ⟨n, rfl⟩ : ∃ m, n = m + 1 := ⟨n - 1, by omega⟩
    obtain ⟨s1, a1, e1⟩ := h1 ere l (s.go 1) (l.length + 1) (ha.go rfl) (by have := ha.len'; simp at this; omega)
    obtain ⟨s2, a2, e3⟩ := h2 false false n (by omega) ere l s1 a1
    refine ⟨s2, a2, ?_⟩
    show brD prg ere l _ _ (n + 1) first front s ps = _
    have hat : atomD prg ere l (levD ere l m) s = .inr (if c = 46 then prg.one (spn 0 255) else prg.one (spn c.toNat c.toNat), s.go 1) := by
      unfold atomD
      rw [ha.sgn (fun c' e => by injection e with e; subst e; rcases hc with rfl | rfl | rfl <;> decide)]
      rcases hc with rfl | rfl | rfl <;> cases ere <;> rfl
    rw [brD, hat]
    simp only
    rw [e1]
    simp only
    rw [show brD prg ere l (levD ere l m) (decide (m < 12)) n false false s1 (ps ++ [t1]) = _ from e3]
    rw [ha.sgn (fun c' e => by injection e with e; subst e; rcases hc with rfl | rfl | rfl <;> decide)]
    rcases hc with rfl | rfl | rfl <;> cases ere <;> cases first <;> cases front <;> rfl
  | .opn :: q, h =>
    obtain ⟨hd, hq⟩ := h
    obtain ⟨m', rfl⟩ : ∃ m', m = m' + 1 := ⟨m - 1, by omega⟩
    simp only [List.length_cons] at hk hK
    obtain ⟨tg, rg, og, wg, lg, hg⟩ := hsub m' rfl q (o + 1) (by omega) hq
    obtain ⟨t1, r1, w1, l1, h1⟩ := tok_rep (o := og) rg d (prg.group ((o + 1 : Nat) : Int) tg) wg.2
    obtain ⟨t, r', o', w2, e2, l2, h2⟩ := ih r1 og (ps ++ [t1]) (by omega) (by omega) w1
    refine ⟨t, r', o', w2, e2, by simp; omega, fun first front n hn ere l s ha => ?_⟩
    simp only [List.length_cons] at hn
    obtain ⟨n, rfl⟩ : ∃ m, n = m + 1 := ⟨n - 1, by omega⟩
    have ha' : AtK l ere { s.go (opB ere 40).length with opened := s.opened + 1 } q (o + 1) := by
      have := ha.go (n := (opB ere 40).length) rfl
      exact ⟨this.dr, this.le, by rw [← ha.op], this.nm⟩
    obtain ⟨s0, a0, e0⟩ := hg ere l _ ha'
    have a0' : AtK l ere { s0.go (opB ere 40).length with closed := s0.closed ++ [s.opened + 1] } rg og := by
      have := a0.go (n := (opB ere 40).length) (by cases ere <;> rfl)
      exact ⟨this.dr, this.le, this.op, this.nm⟩
    obtain ⟨s1, a1, e1⟩ := h1 ere l _ (l.length + 1) a0' (by have := a0'.len'; omega)
    obtain ⟨s2, a2, e3⟩ := h2 false false n (by omega) ere l s1 a1
    refine ⟨s2, a2, ?_⟩
    show brD prg ere l _ _ (n + 1) first front s ps = _
    have hat : atomD prg ere l (levD ere l (m' + 1)) s = .inr (prg.group ((o + 1 : Nat) : Int) tg, { s0.go (opB ere 40).length with closed := s0.closed ++ [s.opened + 1] }) := by
      unfold atomD
      rw [ha.sgn (fun c' e => by cases e)]
      rw [show (Tok.opn.sg ere == opB ere 40) = true by cases ere <;> rfl, if_pos rfl]
      unfold groupD levD
      simp only
      rw [show chD prg ere l m' _ = _ from e0]
      simp only
      rw [a0.sgn (fun c' e => by cases e), show (Tok.cls.sg ere == opB ere 41) = true by cases ere <;> rfl, if_pos rfl, ha.op]
    rw [brD, hat]
    simp only
    rw [e1]
    simp only
    rw [show brD prg ere l (levD ere l (m' + 1)) (decide (m' + 1 < 12)) n false false s1 (ps ++ [t1]) = _ from e3]
    rw [ha.sgn (fun c' e => by cases e)]
    cases ere <;> cases first <;> cases front <;> rfl
theorem tok_branch' {d m K : Nat} (hdm : d + m = 12) (hsub : ∀ m', m = m' + 1 → ∀ (r : List Tok) (o : Nat), r.length < K → wfT (d + 1) true r → ∃ t r' o', wfT (d + 1) true (.cls :: r') ∧ r'.length < r.length ∧ Alike (fun ere l => chD prg ere l m') r o t (.cls :: r') o')
    (r : List Tok) (o : Nat) (hK : r.length ≤ K) (h : wfT d true r) : ∃ t r' o', wfT d true r' ∧ EndT r' ∧ r'.length ≤ r.length ∧ Alike (fun ere l s => branchD prg ere l (levD ere l m) (decide (m < 12)) s) r o t r' o' := by
  obtain ⟨t, r', o', w, e, hl, h⟩ := tok_branch hdm hsub (r.length + 1) r o [] (by omega) hK h
  refine ⟨t, r', o', w, e, hl, fun ere l s ha => ?_⟩
  show ∃ s', _ ∧ branchD prg ere l _ _ s = _
  unfold branchD
  exact h true true _ (by have := ha.len'; split <;> omega) ere l s ha
theorem tok_loop {d m K : Nat} (hdm : d + m = 12) (hsub : ∀ m', m = m' + 1 → ∀ (r : List Tok) (o : Nat), r.length < K → wfT (d + 1) true r → ∃ t r' o', wfT (d + 1) true (.cls :: r') ∧ r'.length < r.length ∧ Alike (fun ere l => chD prg ere l m') r o t (.cls :: r') o') :
    ∀ (k : Nat) (r : List Tok) (o : Nat) (ts : List Nd), r.length < k → r.length ≤ K → wfT d true r → EndT r → ∃ t r' o', wfT d true r' ∧ (r' = [] ∨ ∃ q, r' = .cls :: q) ∧ r'.length ≤ r.length ∧ ∀ n, r.length < n → Alike (fun ere l s => chLoopD prg ere l (levD ere l m) (decide (m < 12)) n s ts) r o t r' o' := by
  intro k
  induction k with
  | zero => intro r o ps hk; omega
  | succ k ih =>
  intro r o ts hk hK h he
  match r, h, he with
  | [], h, _ =>
    refine ⟨prg.choose ts, [], o, h, .inl rfl, Nat.le_refl _, fun n hn ere l s ha => ⟨s, ha, ?_⟩⟩
    obtain ⟨n, rfl⟩ : ∃ m, n = m + 1 := ⟨n - 1, by omega⟩
    show chLoopD prg ere l _ _ (n + 1) s ts = _
    rw [chLoopD, ha.nil]
    cases ere <;> rfl
  | .cls :: q, h, _ =>
    refine ⟨prg.choose ts, .cls :: q, o, h, .inr ⟨q, rfl⟩, Nat.le_refl _, fun n hn ere l s ha => ⟨s, ha, ?_⟩⟩
    obtain ⟨n, rfl⟩ : ∃ m, n = m + 1 := ⟨n - 1, by omega⟩
    show chLoopD prg ere l _ _ (n + 1) s ts = _
    rw [chLoopD, ha.sgn (fun c' e => by cases e)]
    cases ere <;> rfl
  | .bar :: q, h, _ =>
    simp only [List.length_cons] at hk hK
    obtain ⟨t1, r1, o1, w1, e1, l1, h1⟩ := tok_branch' hdm hsub q o (by omega) h
    obtain ⟨t, r', o', w2, e2, l2, h2⟩ := ih r1 o1 (ts ++ [t1]) (by omega) (by omega) w1 e1
    refine ⟨t, r', o', w2, e2, by simp; omega, fun n hn ere l s ha => ?_⟩
    simp only [List.length_cons] at hn
    obtain ⟨n, rfl⟩ : ∃ m, n = m + 1 := ⟨n - 1, by omega⟩
    obtain ⟨s1, a1, e3⟩ := h1 ere l ((if ere then s else s.mark [92, 124]).go (opB ere 124).length) ((ha.mkd _).go rfl)
    obtain ⟨s2, a2, e4⟩ := h2 n (by omega) ere l s1 a1
    refine ⟨s2, a2, ?_⟩
    show chLoopD prg ere l _ _ (n + 1) s ts = _
    rw [chLoopD, ha.sgn (fun c' e => by cases e), show (Tok.bar.sg ere == opB ere 124) = true by cases ere <;> rfl, if_pos rfl]
    rw [show branchD prg ere l _ _ _ = _ from e3]
    exact e4
theorem tok_choice : ∀ (K d m : Nat) (r : List Tok) (o : Nat), d + m = 12 → r.length < K → wfT d true r → ∃ t r' o', wfT d true r' ∧ (r' = [] ∨ ∃ q, r' = .cls :: q) ∧ r'.length ≤ r.length ∧ Alike (fun ere l => chD prg ere l m) r o t r' o' := by
  intro K
  induction K with
  | zero => intro d m r o _ h; omega
  | succ K ih =>
  intro d m r o hdm hK h
  have hsub : ∀ m', m = m' + 1 → ∀ (r : List Tok) (o : Nat), r.length < K → wfT (d + 1) true r → ∃ t r' o', wfT (d + 1) true (.cls :: r') ∧ r'.length < r.length ∧ Alike (fun ere l => chD prg ere l m') r o t (.cls :: r') o' := by
    intro m' hm r o hr hw
    obtain ⟨t, r', o', w, e, hl, ha⟩ := ih (d + 1) m' r o (by omega) hr hw
    rcases e with rfl | ⟨q, rfl⟩
    · exact absurd w (by simp [wfT])
    · exact ⟨t, q, o', w, by simp at hl; omega, ha⟩
  obtain ⟨t1, r1, o1, w1, e1, l1, h1⟩ := tok_branch' hdm hsub r o (by omega) h
  obtain ⟨t, r', o', w2, e2, l2, h2⟩ := tok_loop hdm hsub (r1.length + 1) r1 o1 [t1] (by omega) (by omega) w1 e1
  refine ⟨t, r', o', w2, e2, by omega, fun ere l s ha => ?_⟩
  obtain ⟨s1, a1, e3⟩ := h1 ere l s ha
  obtain ⟨s2, a2, e4⟩ := h2 (l.length + 1) (by have := ha.len'; omega) ere l s1 a1
  refine ⟨s2, a2, ?_⟩
  show chD prg ere l m s = _
  rw [chD_levD]
  unfold choiceD
  rw [show branchD prg ere l _ _ _ = _ from e3]
  exact e4
/-- A whole one has one tree, whichever way it is written. -/
theorem tok_parse {r : List Tok} (h : wfT 0 true r) : ∃ t, ∀ ere, (txs ere r).length ≤ 250 → ∃ s, parseD prg ere (txs ere r) = .inr (t, s) ∧ (ere = true → s.marks = []) := by
  obtain ⟨t, r', o', w, e, hl, ha⟩ := tok_choice (r.length + 1) 0 12 r 0 (by omega) (by omega) h
  refine ⟨t, fun ere h250 => ?_⟩
  obtain ⟨s, a, e⟩ := ha ere (txs ere r) ⟨0, 0, [], []⟩ ⟨rfl, Nat.zero_le _, rfl, fun _ => rfl⟩
  refine ⟨s, ?_, a.nm⟩
  unfold parseD
  rw [if_neg (by omega)]
  exact e

/-! ### The signs, one behind the other, as they are told -/
theorem txs_append (ere : Bool) : ∀ r q : List Tok, txs ere (r ++ q) = txs ere r ++ txs ere q
  | [], _ => rfl
  | t :: r, q => by simp only [List.cons_append, txs, txs_append ere r q, List.append_assoc]
theorem txs_snoc (ere : Bool) (r : List Tok) (t : Tok) : txs ere (r ++ [t]) = txs ere r ++ t.tx ere := by rw [txs_append]; simp [txs]
theorem txs_le : ∀ r : List Tok, (txs true r).length ≤ (txs false r).length
  | [] => Nat.le_refl _
  | t :: r => by have := txs_le r; simp only [txs, List.length_append]; have : (t.tx true).length ≤ (t.tx false).length := by cases t <;> simp [Tok.tx, opB]
                 omega
theorem tx_max (ere : Bool) (t : Tok) : (t.tx ere).length ≤ 7 := by cases t <;> cases ere <;> simp [Tok.tx, opB]
structure TInv (k : Nat) (T : List Tok) (d : Nat) (f : Bool) : Prop where
  dl : d ≤ 12
  wf : ∀ r, wfT d f r → wfT 0 true (T ++ r)
  sz : ∀ ere, (txs ere T).length ≤ 7 * k
theorem TInv.start : TInv 0 [] 0 true := ⟨by omega, fun _ h => h, fun _ => Nat.le_refl _⟩
theorem TInv.skip {k : Nat} {T : List Tok} {d : Nat} {f : Bool} (h : TInv k T d f) : TInv (k + 1) T d f := ⟨h.dl, h.wf, fun ere => by have := h.sz ere; omega⟩
theorem TInv.add {k : Nat} {T : List Tok} {d : Nat} {f : Bool} (h : TInv k T d f) (t : Tok) {d' : Nat} {f' : Bool} (hd : d' ≤ 12) (hw : ∀ r, wfT d' f' r → wfT d f (t :: r)) : TInv (k + 1) (T ++ [t]) d' f' :=
  ⟨hd, fun r hr => by rw [List.append_assoc]; exact h.wf _ (hw r hr), fun ere => by rw [txs_snoc, List.length_append]; have := h.sz ere; have := tx_max ere t; omega⟩
theorem wf_cls : ∀ (d : Nat) (f : Bool), wfT d f (List.replicate d .cls)
  | 0, _ => rfl
  | d + 1, _ => ⟨Nat.succ_pos d, wf_cls d false⟩
theorem cls_snoc (T : List Tok) (j : Nat) : T ++ List.replicate (j + 1) .cls = (T ++ List.replicate j .cls) ++ [.cls] := by rw [List.replicate_succ', List.append_assoc]
theorem cls_size (ere : Bool) (T : List Tok) (j : Nat) : (txs ere (T ++ List.replicate j .cls)).length ≤ (txs ere T).length + 2 * j := by
  induction j with
  | zero => simp
  | succ j ih => rw [cls_snoc, txs_snoc, List.length_append]; have : (Tok.cls.tx ere).length ≤ 2 := by cases ere <;> simp [Tok.tx, opB]
                 omega
end Go.Proofs.YtepeomphikhbkaaGreatDoor
