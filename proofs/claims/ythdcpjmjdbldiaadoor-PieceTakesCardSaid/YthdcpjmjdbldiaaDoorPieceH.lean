/-
  Walk of strings.IndexAny at the two sets of ends that a name has, in any text.
-/
import Derived.Test.YthdcpjmjdbldiaaDoorPieceG
import Derived.Lib.OthersKept
import Derived.WalkMore
import Derived.Test.YthdcpjmjdbldiaaDoorQuietTail
namespace Go.Proofs.YthdcpjmjdbldiaaDoor
open Go.RowKit

theorem valid_of {r : Int} (h : Lib.validRune r = true) : Utf8.valid r = true := by
  simp only [Lib.validRune, decide_eq_true_eq] at h
  simp only [Utf8.valid, Bool.or_eq_true, Bool.and_eq_true, decide_eq_true_eq]
  omega

abbrev ends2 : ByteArray := ⟨#[10, 59]⟩

set_option maxHeartbeats 2000000 in
set_option maxRecDepth 100000 in
theorem indexRune_high (r : Int) (w : World) (h : 128 ≤ r) (hm : r ≤ 2147483647) :
    Calls Tryd.prog 29 #[.string ⟨#[10, 59]⟩, .int .i32 r] w fun e w' => e = .returned (.int .i64 (-1)) ∧ Fr nob w w' := by
  have h0 : ¬ r < 128 := by omega
  by_cases he : r = 65533
  · subst he
    go_enter Tryd.func29, Tryd.ntmps29
    go_wp2_with fail
    go_loopw [5] (fun _ wr => ∃ k : Nat, k ≤ 2 ∧ wr = w.iter ⟨#[10, 59]⟩ k) (fun _ wr => 2 - wr.iterPos w.heap.size)
    case atStart => exact ⟨0, by omega, rfl⟩
    case round =>
      obtain ⟨k, hk, rfl⟩ := hrel
      by_cases hk2 : k = 2
      · subst hk2
        have hnx : ∀ ty, (Instr.next (.pointer (some ⟨w.heap.size, 0, none⟩)) true ty).run Tryd.prog (w.iter ⟨#[10, 59]⟩ 2) = .ok (.tuple #[.bool false]) (w.iter ⟨#[10, 59]⟩ 2) := fun ty => run_next_end w _ 2 ty (by decide)
        go_wp2
        go_ret
        exact ⟨rfl, fr_iter (Fr.refl _ _) _ _⟩
      · have hlt : k < (ByteArray.mk #[10, 59]).size := by show k < 2; omega
        obtain ⟨x, hx, hxl⟩ : ∃ x : Nat, x = ((ByteArray.mk #[10, 59])[k]'hlt).toNat ∧ x < 128 := ⟨_, rfl, by
          match k, hlt with
          | 0, _ => show (UInt8.toNat 10) < 128; decide
          | 1, _ => show (UInt8.toNat 59) < 128; decide⟩
        have hnx : ∀ ty, (Instr.next (.pointer (some ⟨w.heap.size, 0, none⟩)) true ty).run Tryd.prog (w.iter ⟨#[10, 59]⟩ k) = .ok (.tuple #[.bool true, .int .i64 k, .int .i32 x]) (w.iter ⟨#[10, 59]⟩ (k + 1)) := fun ty => by
          rw [run_next_ascii w _ k ty hlt (by omega), hx]
        have hx2 : ((x : Int) == 65533) = false := by simp; omega
        clear hx
        go_wp2
        go_roundw
        case rel => exact ⟨k + 1, by omega, rfl⟩
        case measure => simp; omega
  · have he2 : (r == 65533) = false := by simpa using he
    cases hv : Lib.validRune r with
    | false =>
      go_enter Tryd.func29, Tryd.ntmps29
      go_wp2_with (go_at_call 43; refine (Tryd.utf8_ValidRune _ _).mono ?_; rw [hv]; rintro e w' ⟨rfl, rfl⟩)
      go_ret
      exact ⟨rfl, Fr.refl _ _⟩
    | true =>
      obtain ⟨f1, f2, f3⟩ := encode_facts r (valid_of hv) h
      obtain ⟨E, hE⟩ : ∃ E, Utf8.encode r = E := ⟨_, rfl⟩
      rw [hE] at f1 f2 f3
      have hcv : ∀ w, (convert 21 9 (.int .i32 r)).run Tryd.prog w = .ok (.string E) w := fun w => by rw [run_convert_int_string w _ _ _ _ (by kernel_rfl) (by kernel_rfl), hE]
      have hsl : ∀ w, (Instr.slice 9 (.string ⟨#[10, 59]⟩) (some (.int .i64 2)) none none).run Tryd.prog w = .ok (.string ⟨#[]⟩) w := fun w => by rfl
      by_cases hz : E.size = 2
      · have hl : 1 < E.size := by omega
        have f4 : 128 ≤ (E[1]'hl).toNat := by have := f3 (by omega); simpa [hz] using this
        have f5 : ((59 : Int) != ((E[1]'hl).toNat : Int)) = true := by simp; omega
        clear f3 he
        go_enter Tryd.func29, Tryd.ntmps29
        go_wp2_with (go_at_call 43; refine (Tryd.utf8_ValidRune _ _).mono ?_; rw [hv]; rintro e w' ⟨rfl, rfl⟩)
        go_step3
        go_wp2_with fail
        go_loop [9] (fun i => i = .int .i64 1) (fun _ => 0)
        case atStart => go_num
        case round =>
          subst hrel
          go_wp2_with fail
          go_step3
          go_wp2_with fail
          go_quiet (fail)
          go_wp2_with fail
          have hw2 : IntKind.i64.wrap 2 = 2 := by decide
          refine region_fr 7 (by kernel_rfl) (by kernel_rfl) ?_
          simp only [List.take_succ_cons, List.take_zero, List.drop_succ_cons, List.drop_zero]
          repeat (quiet_step (fail))
          refine wpQuiet_nil ?_
          intro wC fC
          go_wp2_with (go_at_call 40; refine (strings_IndexByte [] _ _).mono ?_; rintro e w' ⟨rfl, rfl⟩)
          rw [Exit.noGoto_ret]
          repeat (change Exit.noGoto _ Exit.ret _ _; rw [Exit.noGoto_ret])
          go_ret
          exact ⟨rfl, ((Fr.refl _ _).drewN nq).trans' fC⟩
      · have hl : ¬ (E.size : Int) - 1 < 2 := by omega
        clear f3 he
        go_enter Tryd.func29, Tryd.ntmps29
        go_wp2_with (go_at_call 43; refine (Tryd.utf8_ValidRune _ _).mono ?_; rw [hv]; rintro e w' ⟨rfl, rfl⟩)
        go_wp2_with fail
        go_step3
        go_wp2_with fail
        go_loop [9] (fun i => i = .int .i64 ((E.size : Int) - 1)) (fun _ => 0)
        case atStart => go_num
        case round =>
          subst hrel
          go_wp2
          go_ret
          exact ⟨rfl, Fr.refl _ _⟩

/-- A rune that begins with a byte beyond ASCII takes only such bytes. -/
theorem decode_skip (s : ByteArray) (p : Nat) (h : p < s.size) (ha : 128 ≤ (s[p]'h).toNat) : ∀ j, j < (Utf8.decode s p).2 → ∃ hj : p + j < s.size, 128 ≤ (s[p + j]'hj).toNat := by
  have hn : ¬ (s[p]'h).toNat < 128 := by omega
  have h0 : ∃ hj : p + 0 < s.size, 128 ≤ (s[p + 0]'hj).toNat := ⟨h, ha⟩
  have hk : ∀ k, (decide (p + k < s.size) && (s.get! (p + k)).toNat / 64 == 2) = true → ∃ hj : p + k < s.size, 128 ≤ (s[p + k]'hj).toNat := by
    intro k hk
    rw [Bool.and_eq_true, decide_eq_true_eq, beq_iff_eq] at hk
    refine ⟨hk.1, ?_⟩
    have e : s.get! (p + k) = s[p + k]'hk.1 := get_at s (p + k) hk.1
    rw [← e]
    omega
  simp only [Utf8.decode, get_at s p h, hn, if_false]
  intro j
  split
  · next c =>
    rw [Bool.and_eq_true] at c
    split
    · intro hj
      match j, hj with
      | 0, _ => exact h0
      | 1, _ => exact hk 1 c.2
    · intro hj
      obtain rfl : j = 0 := by omega
      exact h0
  · split
    · next c =>
      rw [Bool.and_eq_true, Bool.and_eq_true] at c
      split
      · intro hj
        match j, hj with
        | 0, _ => exact h0
        | 1, _ => exact hk 1 c.1.2
        | 2, _ => exact hk 2 c.2
      · intro hj
        obtain rfl : j = 0 := by omega
        exact h0
    · split
      · next c =>
        rw [Bool.and_eq_true, Bool.and_eq_true, Bool.and_eq_true] at c
        split
        · intro hj
          match j, hj with
          | 0, _ => exact h0
          | 1, _ => exact hk 1 c.1.1.2
          | 2, _ => exact hk 2 c.1.2
          | 3, _ => exact hk 3 c.2
        · intro hj
          obtain rfl : j = 0 := by omega
          exact h0
      · intro hj
        obtain rfl : j = 0 := by omega
        exact h0

theorem iterPos_of {w : World} {k p : Nat} {s : ByteArray} (h : w.heap[k]? = some (.stringIter s p)) : w.iterPos k = p := by unfold World.iterPos; rw [h]
theorem fr_iterAt {S : Nat → Prop} {a w : World} (h : Fr S a w) {k : Nat} (hk : a.heap.size ≤ k) (s : ByteArray) (p : Nat) : Fr S a (w.iterAt k s p) :=
  ⟨h.os, h.tape, h.output, by show a.heap.size ≤ (w.heap.setIfInBounds k _).size; rw [Array.size_setIfInBounds]; exact h.size, fun i hi hs => by
    show (w.heap.setIfInBounds k _)[i]? = _
    rw [Array.getElem?_setIfInBounds_ne (by omega)]
    exact h.block i hi hs⟩

theorem noAny_high {l cs : List UInt8} {p d : Nat} (hc : ∀ b, b ∈ cs → b.toNat < 128) (h : Lib.NoAny l cs p) (hs : ∀ j, j < d → ∃ hj : p + j < l.length, 128 ≤ (l[p + j]'hj).toNat) : Lib.NoAny l cs (p + d) := by
  intro j b hj hb
  by_cases hp : j < p
  · exact h j b hp hb
  · obtain ⟨hq, hx⟩ := hs (j - p) (by omega)
    have e : p + (j - p) = j := by omega
    simp only [e] at hq hx
    rw [List.getElem?_eq_getElem hq] at hb
    injection hb with hb
    rw [Bool.eq_false_iff]
    intro hcon
    have := hc b (List.contains_iff_mem.1 hcon)
    rw [← hb] at this
    omega

set_option maxRecDepth 100000 in
set_option maxHeartbeats 2000000 in
theorem indexAny_short (l : List UInt8) (w : World) (hl : l.length ≤ 8) :
    Calls Tryd.prog 22 #[.string ⟨l.toArray⟩, .string ⟨#[10, 59]⟩] w fun e w' => e = .returned (.int .i64 (Lib.indexAny l [10, 59])) ∧ Fr nob w w' := by
  have h8 : decide ((8 : Int) < (l.length : Int)) = false := decide_eq_false (by omega)
  go_enter Tryd.func22, Tryd.ntmps22
  go_wp2_with (go_at_call 30; refine (Tryd.strings_shouldUseASCIISet _ _).mono ?_; rintro e w' ⟨rfl, hw⟩; rw [hw, h8])
  go_loopw [9] (fun _ wr => ∃ p : Nat, p ≤ l.length ∧ wr.heap[w.heap.size]? = some (.stringIter ⟨l.toArray⟩ p) ∧ Fr nob w wr ∧ Lib.NoAny l [10, 59] p) (fun _ wr => l.length - wr.iterPos w.heap.size)
  case atStart =>
    subst hw
    exact ⟨0, by omega, World.iter_heap _ _ _, (Fr.refl _ _).alloc _, Lib.NoAny.zero _ _⟩
  case round =>
    subst hw
    obtain ⟨p, hp, hi, hf, hno⟩ := hrel
    have HI := Lib.hid hi; have HF := Lib.hid hf; have HN := Lib.hid hno; clear hi hf hno
    by_cases hlt : p < l.length
    · have hk3 : p < (ByteArray.mk l.toArray).size := by rw [bsize]; exact hlt
      have hget : (ByteArray.mk l.toArray)[p]'hk3 = l[p] := bget _ _ _
      have hm : wr.iterPos w'.heap.size = p := iterPos_of HI.out
      by_cases ha : l[p].toNat < 128
      · have hnx : ∀ ty, (Instr.next (.pointer (some ⟨w'.heap.size, 0, none⟩)) true ty).run Tryd.prog wr = .ok (.tuple #[.bool true, .int .i64 p, .int .i32 l[p].toNat]) (wr.iterAt w'.heap.size ⟨l.toArray⟩ (p + 1)) := fun ty => by
          rw [Lib.run_next_ascii_at wr _ _ p ty HI.out hk3 (by rw [hget]; exact ha), hget]
        have hI2 := Lib.iterAt_heap wr w'.heap.size ⟨l.toArray⟩ p (p + 1) HI.out
        have hF2 := fr_iterAt HF.out (Nat.le_refl _) ⟨l.toArray⟩ (p + 1)
        obtain ⟨x, hx⟩ : ∃ x, l[p] = x := ⟨_, rfl⟩
        have HX := Lib.hid (show l[p]? = some x by rw [List.getElem?_eq_getElem hlt, hx])
        rw [hx] at hnx ha
        have HI2 := Lib.hid hI2; have HF2 := Lib.hid hF2; clear hI2 hF2 hk3 hget hx
        have hix := Lib.contains_iff_indexByte [10, 59] x
        cases hc : ([10, 59] : List UInt8).contains x with
        | true =>
          rw [hc] at hix
          have hge : ¬ Lib.indexByte [10, 59] x < 0 := by have := of_decide_eq_true hix.symm; omega
          have HC := Lib.hid hc; clear hc hix
          go_wp2_with (go_at_call 29; refine (Tryd.strings_IndexRune_ascii ⟨#[10, 59]⟩ _ _ (by omega) (by omega)).mono ?_; rintro e w2 ⟨rfl, rfl⟩; rw [show Lib.indexByte (ByteArray.mk #[10, 59]).data.toList (((x.toNat : Int)).toNat.toUInt8) = Lib.indexByte [10, 59] x by simp])
          go_ret
          exact ⟨by rw [Lib.indexAny_hit HN.out HX.out HC.out]; rfl, HF2.out⟩
        | false =>
          rw [hc] at hix
          have hge : Lib.indexByte [10, 59] x < 0 := by have := of_decide_eq_false hix.symm; omega
          have HC := Lib.hid hc; clear hc hix
          go_wp2_with (go_at_call 29; refine (Tryd.strings_IndexRune_ascii ⟨#[10, 59]⟩ _ _ (by omega) (by omega)).mono ?_; rintro e w2 ⟨rfl, rfl⟩; rw [show Lib.indexByte (ByteArray.mk #[10, 59]).data.toList (((x.toNat : Int)).toNat.toUInt8) = Lib.indexByte [10, 59] x by simp])
          go_roundw
          case rel => exact ⟨p + 1, by omega, HI2.out, HF2.out, HN.out.succ HX.out HC.out⟩
          case measure => rw [hm, iterPos_of HI2.out]; omega
      · have hh := decode_high (ByteArray.mk l.toArray) p hk3 (by rw [hget]; omega)
        have hs := decode_skip (ByteArray.mk l.toArray) p hk3 (by rw [hget]; omega)
        have hle := decode_le (ByteArray.mk l.toArray) p
        obtain ⟨r, hr⟩ : ∃ r, (Utf8.decode ⟨l.toArray⟩ p).1 = r := ⟨_, rfl⟩
        obtain ⟨d, hd⟩ : ∃ d, (Utf8.decode ⟨l.toArray⟩ p).2 = d := ⟨_, rfl⟩
        have hnx : ∀ ty, (Instr.next (.pointer (some ⟨w'.heap.size, 0, none⟩)) true ty).run Tryd.prog wr = .ok (.tuple #[.bool true, .int .i64 p, .int .i32 r]) (wr.iterAt w'.heap.size ⟨l.toArray⟩ (p + d)) := fun ty => by
          rw [Lib.run_next_any_at wr _ _ p ty HI.out hk3, hr, hd]
        rw [hr] at hh hle
        rw [hd] at hh hs
        have hpd : p + d ≤ l.length := by
          obtain ⟨hj, _⟩ := hs (d - 1) (by omega)
          rw [bsize] at hj
          omega
        have HN2 := Lib.hid (noAny_high (cs := [10, 59]) (by decide) HN.out (fun j hj => by obtain ⟨h1, h2⟩ := hs j hj; exact ⟨by rw [bsize] at h1; exact h1, h2⟩))
        have hI2 := Lib.iterAt_heap wr w'.heap.size ⟨l.toArray⟩ p (p + d) HI.out
        have hF2 := fr_iterAt HF.out (Nat.le_refl _) ⟨l.toArray⟩ (p + d)
        have HI2 := Lib.hid hI2; have HF2 := Lib.hid hF2; clear hI2 hF2 hk3 hget hr hd hs ha
        go_wp2_with (go_at_call 29; refine (indexRune_high _ _ (by omega) (by omega)).mono ?_; rintro e w2 ⟨rfl, f2⟩)
        go_roundw
        case rel => exact ⟨p + d, hpd, f2.heap HI2.out (fun x => x), HF2.out.trans' f2, HN2.out⟩
        case measure => rw [hm, iterPos_of (f2.heap HI2.out (fun x => x))]; omega
    · obtain rfl : p = l.length := by omega
      have hnx : ∀ ty, (Instr.next (.pointer (some ⟨w'.heap.size, 0, none⟩)) true ty).run Tryd.prog wr = .ok (.tuple #[.bool false]) wr := fun ty => Lib.run_next_end_at wr _ _ _ ty HI.out (by rw [bsize]; omega)
      go_wp2
      go_ret
      exact ⟨by rw [Lib.indexAny_none HN.out]; rfl, HF.out⟩

/-- strings.IndexAny, at the ends that a name has: in any text. -/
theorem indexAny_ends (l : List UInt8) (label : Bool) (w : World) (hl : l.length ≤ 1000000) :
    Calls Tryd.prog 22 #[.string ⟨l.toArray⟩, .string (if label then ⟨#[10, 59]⟩ else ⟨#[10]⟩)] w fun e w' => e = .returned (.int .i64 (Lib.indexAny l (if label then [10, 59] else [10]))) ∧ Fr nob w w' := by
  cases label with
  | false =>
    refine (Tryd.strings_IndexAny_one ⟨l.toArray⟩ ⟨#[10]⟩ w rfl (fun j b h => ?_)).mono ?_
    · match j, h with
      | 0, h => cases h; decide
    · rintro e w' ⟨rfl, rfl⟩
      exact ⟨rfl, Fr.refl _ _⟩
  | true =>
    by_cases h8 : l.length ≤ 8
    · exact indexAny_short l w h8
    · refine (Tryd.strings_IndexAny_long (fun w => by rw [zset]) ⟨l.toArray⟩ ⟨#[10, 59]⟩ w (by decide) (by rw [bsize]; omega) (by rw [bsize]; omega) (by decide) (fun j b h => ?_)).mono ?_
      · match j, h with
        | 0, h => cases h; decide
        | 1, h => cases h; decide
      · rintro e w' ⟨rfl, rfl⟩
        exact ⟨rfl, twoSets_fr [10, 59] w⟩
end Go.Proofs.YthdcpjmjdbldiaaDoor
