/-
  Merged texts of this claim: Bytes, Narrow, BldRune, OctetW, OctetX.
-/
import Derived.Lib.Bytealg
import Derived.Laws.RangeAny
import Derived.Lib.OthersKept
import Derived.Deep.LoopGhost
import Derived.Test.YtmoeboknelnaoaaGreatDoorM01

/-
  Bytes of texts in plain words: places of bytes, and how the walk spells a byte and a test of one.
-/
namespace Go.Proofs.YtmoeboknelnaoaaGreatDoor
open Go.RowKit

theorem bsize (l : List UInt8) : (ByteArray.mk l.toArray).size = l.length := by simp [ByteArray.size]
theorem bget (l : List UInt8) (i : Nat) (h : i < (ByteArray.mk l.toArray).size) : (ByteArray.mk l.toArray)[i]'h = l[i]'(by rw [bsize] at h; exact h) := rfl
theorem bext (l : List UInt8) (a b : Nat) : (ByteArray.mk l.toArray).extract a b = ⟨((l.drop a).take (b - a)).toArray⟩ := by
  apply ByteArray.ext
  rw [ByteArray.data_extract]
  apply Array.ext'
  simp [List.extract_eq_take_drop]
theorem btol (l : List UInt8) : (ByteArray.mk l.toArray).toList = l := by simp
theorem bapp (l m : List UInt8) : (ByteArray.mk l.toArray) ++ (ByteArray.mk m.toArray) = ⟨(l ++ m).toArray⟩ := by
  apply ByteArray.ext
  simp
theorem bextE (l : List UInt8) (a : Nat) : (ByteArray.mk l.toArray).extract a l.length = ⟨(l.drop a).toArray⟩ := by
  rw [bext, List.take_of_length_le (by simp)]
attribute [go_sem] bget btol bapp bextE
theorem run_slice_bs {P : Program} {t : TypeId} (l : List UInt8) {lo hi : Int} (h : P.underlying t = some .string) (h0 : 0 ≤ lo) (h1 : lo ≤ hi) (h2 : hi ≤ l.length) (w : World) :
    (Instr.slice t (.string ⟨l.toArray⟩) (some (.int .i64 lo)) (some (.int .i64 hi)) none).run P w = .ok (.string ⟨((l.drop lo.toNat).take (hi.toNat - lo.toNat)).toArray⟩) w := by
  rw [run_slice_string (P := P) w t (ByteArray.mk l.toArray) .i64 .i64 lo hi h h0 h1 (by rw [bsize]; exact h2), bext]
theorem tb_eq {a b : UInt8} (h : a = b) : (((a.toNat : Int)) == (b.toNat : Int)) = true := by rw [h]; simp
theorem tb_ne {a b : UInt8} (h : a ≠ b) : (((a.toNat : Int)) == (b.toNat : Int)) = false := by
  rw [beq_eq_false_iff_ne]; intro e; exact h (UInt8.toNat.inj (Int.ofNat.inj e))
theorem rx_no {c d : UInt8} {rx : Bool} (h : c = d) (hn : ¬ (c = d ∧ rx = true)) : rx = false := by cases rx <;> simp_all
theorem toNat_bd (a : UInt8) : (0 : Int) ≤ a.toNat ∧ (a.toNat : Int) ≤ 255 := by have := a.toNat_lt; omega
theorem toNat_back (a : UInt8) : ((a.toNat : Int)).toNat.toUInt8 = a := by simp
theorem take_one {l : List UInt8} {k : Nat} (h : k < l.length) : (l.drop k).take 1 = [l[k]] := by
  rw [List.drop_eq_getElem_cons h]; rfl
theorem prefix_take {l p : List UInt8} (h : p.length ≤ l.length) : (l.take p.length == p) = p.isPrefixOf l := by
  rw [Bool.eq_iff_iff, beq_iff_eq, List.isPrefixOf_iff_prefix, List.prefix_iff_eq_take]
  exact eq_comm
theorem prefix_long {l p : List UInt8} (h : ¬ p.length ≤ l.length) : false = p.isPrefixOf l := by
  symm; rw [Bool.eq_false_iff]; intro e; rw [List.isPrefixOf_iff_prefix] at e
  exact h e.length_le

def nxt (l : List UInt8) (c : UInt8) (k : Nat) : Nat := k + (l.drop k).idxOf c

theorem nxt_le {l : List UInt8} {c : UInt8} {k : Nat} (h : k ≤ l.length) : nxt l c k ≤ l.length := by
  have := List.idxOf_le_length (a := c) (l := l.drop k); simp [nxt] at *; omega



def adv (l : List UInt8) (c : UInt8) (k : Nat) : Nat := if l[k]? = some c then k + 1 else k
theorem adv_le {l : List UInt8} {k : Nat} {c : UInt8} (h : k ≤ l.length) : adv l c k ≤ l.length := by
  unfold adv; split
  · next e => have := (List.getElem?_eq_some_iff.1 e).1; omega
  · exact h
def brE (l : List UInt8) (at_ : Nat) : Nat := min (nxt l 93 (adv l 93 (adv l 94 (at_ + 1))) + 1) l.length


theorem pre1 {l : List UInt8} {c : UInt8} {k : Nat} : ([c].isPrefixOf (l.drop k) = true) ↔ l[k]? = some c := by
  rw [← List.head?_drop]
  generalize l.drop k = m
  cases m with
  | nil => simp [List.isPrefixOf]
  | cons x m => simp only [List.isPrefixOf, Bool.and_true, beq_iff_eq, List.head?_cons, Option.some.injEq]; exact eq_comm
theorem adv_py {l : List UInt8} {c : UInt8} {k : Nat} (e : [c].isPrefixOf (l.drop k) = true) : adv l c k = k + 1 := if_pos (pre1.1 e)
theorem adv_pn {l : List UInt8} {c : UInt8} {k : Nat} (e : [c].isPrefixOf (l.drop k) = false) : adv l c k = k := if_neg (fun h => by rw [pre1.2 h] at e; cases e)
theorem nxt_ge {l : List UInt8} {c : UInt8} {k : Nat} : k ≤ nxt l c k := by unfold nxt; omega

theorem indexByte_idx (l : List UInt8) (c : UInt8) : Lib.indexByte l c = if l.idxOf c < l.length then (l.idxOf c : Int) else -1 := by
  induction l with
  | nil => simp [Lib.indexByte]
  | cons b l ih =>
    rw [Lib.indexByte, List.idxOf_cons]
    by_cases h : (b == c) = true
    · simp [h]
    · rw [if_neg h, ih]
      simp only [h, Bool.false_eq_true, if_false, cond_false, List.length_cons]
      have := List.idxOf_le_length (a := c) (l := l)
      by_cases h2 : l.idxOf c < l.length
      · rw [if_pos h2, if_neg (by simp), if_pos (by omega)]; omega
      · rw [if_neg h2, if_pos (by rfl), if_neg (by omega)]

theorem indexByte_bd (l : List UInt8) (c : UInt8) : -1 ≤ Lib.indexByte l c ∧ Lib.indexByte l c ≤ l.length := by
  rw [indexByte_idx]
  have := List.idxOf_le_length (a := c) (l := l)
  split <;> omega
theorem indexByte_nxt {l : List UInt8} {c : UInt8} {k : Nat} (h : k ≤ l.length) : Lib.indexByte (l.drop k) c = if nxt l c k < l.length then (nxt l c k : Int) - k else -1 := by
  rw [indexByte_idx]; unfold nxt
  have := List.idxOf_le_length (a := c) (l := l.drop k)
  simp only [List.length_drop] at *
  by_cases h2 : (l.drop k).idxOf c < l.length - k
  · rw [if_pos h2, if_pos (by omega)]; omega
  · rw [if_neg h2, if_neg (by omega)]

theorem adv_ge {l : List UInt8} {c : UInt8} {k : Nat} : k ≤ adv l c k := by unfold adv; split <;> omega
theorem adv_drop {l : List UInt8} {c : UInt8} {a k : Nat} : a + adv (l.drop a) c k = adv l c (a + k) := by
  unfold adv; rw [List.getElem?_drop]; split <;> omega
theorem nxt_drop {l : List UInt8} {c : UInt8} {a k : Nat} : a + nxt (l.drop a) c k = nxt l c (a + k) := by
  unfold nxt; rw [List.drop_drop]; omega
theorem brE_drop {l : List UInt8} {a : Nat} (h : a ≤ l.length) : a + brE (l.drop a) 0 = brE l a := by
  unfold brE
  rw [← adv_drop (l := l) (c := 94) (a := a) (k := 1), ← adv_drop (l := l) (c := 93) (a := a), ← nxt_drop (l := l) (c := 93) (a := a)]
  simp only [List.length_drop, Nat.zero_add]
  omega

theorem fold_push (bs : List UInt8) : ∀ s : ByteArray, (bs.map fun b => (b.toNat : Int)).foldl (fun (r : ByteArray) n => r.push (UInt8.ofNat n.toNat)) s = ⟨s.data ++ bs.toArray⟩ := by
  induction bs with
  | nil => intro s; apply ByteArray.ext; simp
  | cons b bs ih =>
    intro s
    rw [List.map_cons, List.foldl_cons, ih]
    apply ByteArray.ext
    show (s.data.push _) ++ bs.toArray = _
    simp
theorem run_conv_bytes {P : Program} {src dst e : TypeId} (hs : P.underlying src = some (.slice e)) (he : P.underlying e = some (.int .u8)) (hd : P.underlying dst = some .string) (a : Addr) (cap : Nat) (bs : List UInt8) (W : World)
    (hc : ∀ j v, (bcells bs)[j]? = some v → W.cell? (a.add j) = some v) :
    (convert src dst (.slice (some a) bs.length cap)).run P W = .ok (.string ⟨bs.toArray⟩) W := by
  have hl := run_loadCells_list (P := P) W a (bcells bs) hc
  rw [bcells_length] at hl
  rw [run_convert_bytes_string _ src dst e _ _ _ hs he hd, run_bytesToString (ns := bs.map fun b => (b.toNat : Int)), fold_push]
  · show Result.ok (Value.string ⟨(#[] : Array UInt8) ++ bs.toArray⟩) W = _
    simp
  · rw [hl]; simp [bcells, bcell, List.map_map, Function.comp_def]
theorem run_conv_two {P : Program} {src dst e : TypeId} (hs : P.underlying src = some (.slice e)) (he : P.underlying e = some (.int .u8)) (hd : P.underlying dst = some .string) (d d' : UInt8) (W : World) :
    (convert src dst (.slice (some ⟨W.heap.size, 0, none⟩) 2 2)).run P (W.alloc (.cells #[.int .u8 d.toNat, .int .u8 d'.toNat] e)) = .ok (.string ⟨#[d, d']⟩) (W.alloc (.cells #[.int .u8 d.toNat, .int .u8 d'.toNat] e)) := by
  refine run_conv_bytes hs he hd _ 2 [d, d'] _ ?_
  intro j v hj
  match j, hj with
  | 0, hj => simp [bcells, bcell] at hj; subst hj; simp [Addr.add, World.cell?_alloc_new]
  | 1, hj => simp [bcells, bcell] at hj; subst hj; simp [Addr.add, World.cell?_alloc_new]

end Go.Proofs.YtmoeboknelnaoaaGreatDoor

/-
  Bytes as signs, and back: plain.
-/
namespace Go.Proofs.YtmoeboknelnaoaaGreatDoor

/-- The bytes of a sign below 256. -/
def wide1 (c : UInt8) : List UInt8 := if c.toNat < 128 then [c] else [(192 + c.toNat / 64).toUInt8, (128 + c.toNat % 64).toUInt8]
def wide : List UInt8 → List UInt8
  | [] => []
  | c :: r => wide1 c ++ wide r

/-- The sign at a place, and how many bytes it has; none: it is none of the 256. -/
def nar1 (l : List UInt8) (k : Nat) : Option (UInt8 × Nat) :=
  let b := (l[k]?.getD 0).toNat
  let c := (l[k + 1]?.getD 0).toNat
  if b < 128 then some (b.toUInt8, 1)
  else if (b = 194 ∨ b = 195) ∧ k + 1 < l.length ∧ 128 ≤ c ∧ c < 192 then some (((b - 192) * 64 + c - 128).toUInt8, 2)
  else none
theorem wide1_len (c : UInt8) : 1 ≤ (wide1 c).length ∧ (wide1 c).length ≤ 2 := by unfold wide1; split <;> simp
theorem wide_append (a b : List UInt8) : wide (a ++ b) = wide a ++ wide b := by
  induction a with
  | nil => rfl
  | cons c r ih => simp only [List.cons_append, wide, ih, List.append_assoc]
theorem wide_take {l : List UInt8} {k : Nat} (h : k < l.length) : wide (l.take (k + 1)) = wide (l.take k) ++ wide1 l[k] := by
  rw [List.take_succ_eq_append_getElem h, wide_append]; simp [wide]
theorem wide_split {l : List UInt8} {k : Nat} (h : k < l.length) : wide l = wide (l.take k) ++ (wide1 l[k] ++ wide (l.drop (k + 1))) := by
  conv => lhs; rw [← List.take_append_drop k l, wide_append, List.drop_eq_getElem_cons h]
  rfl
theorem wide_le (l : List UInt8) : (wide l).length ≤ 2 * l.length ∧ l.length ≤ (wide l).length := by
  induction l with
  | nil => simp [wide]
  | cons c r ih => have := wide1_len c; simp only [wide, List.length_append, List.length_cons]; omega

theorem nar1_wide (p q : List UInt8) (c : UInt8) : nar1 (p ++ (wide1 c ++ q)) p.length = some (c, (wide1 c).length) := by
  have hc := c.toNat_lt
  unfold wide1
  split
  · next h => simp [nar1, h]
  · next h =>
    have e1 : (192 + c.toNat / 64).toUInt8.toNat = 192 + c.toNat / 64 := by simp; omega
    have e2 : (128 + c.toNat % 64).toUInt8.toNat = 128 + c.toNat % 64 := by simp; omega
    unfold nar1
    have g0 : (p ++ ([(192 + c.toNat / 64).toUInt8, (128 + c.toNat % 64).toUInt8] ++ q))[p.length]? = some (192 + c.toNat / 64).toUInt8 := by
      rw [List.getElem?_append_right (Nat.le_refl _), Nat.sub_self]; rfl
    have g1 : (p ++ ([(192 + c.toNat / 64).toUInt8, (128 + c.toNat % 64).toUInt8] ++ q))[p.length + 1]? = some (128 + c.toNat % 64).toUInt8 := by
      rw [List.getElem?_append_right (by omega), show p.length + 1 - p.length = 1 by omega]; rfl
    rw [g0, g1]
    simp only [Option.getD_some, e1, e2]
    rw [if_neg (by omega), if_pos ⟨by omega, by simp, by omega, by omega⟩]
    have : (192 + c.toNat / 64 - 192) * 64 + (128 + c.toNat % 64) - 128 = c.toNat := by omega
    rw [this]
    simp
theorem nar1_at {l : List UInt8} {k : Nat} (h : k < l.length) : nar1 (wide l) (wide (l.take k)).length = some (l[k], (wide1 l[k]).length) := by
  rw [wide_split h]; exact nar1_wide _ _ _
theorem wide_at {l : List UInt8} {k : Nat} (h : k < l.length) : (wide (l.take k)).length < (wide l).length := by
  conv => rhs; rw [wide_split h]
  have := wide1_len l[k]
  simp only [List.length_append]; omega
theorem bget_at (l : List UInt8) (i : Nat) : ((ByteArray.mk l.toArray).get! i) = l[i]?.getD 0 := by
  show (l.toArray)[i]! = _
  rw [getElem!_def]; simp
  cases l[i]? <;> rfl

/-- What a range over a string tells of a place. -/
theorem decode_yes {l : List UInt8} {k m : Nat} {c : UInt8} (h : k < l.length) (e : nar1 l k = some (c, m)) : Utf8.decode ⟨l.toArray⟩ k = (c.toNat, m) := by
  unfold nar1 at e
  unfold Utf8.decode
  simp only [bget_at, bsize, Nat.add_zero] at e ⊢
  have hb := (l[k]?.getD 0).toNat_lt
  have hc := (l[k + 1]?.getD 0).toNat_lt
  generalize (l[k]?.getD 0).toNat = b at *
  generalize (l[k + 1]?.getD 0).toNat = d at *
  split at e
  · next hlt =>
    rw [if_pos hlt]
    injection e with e; injection e with e1 e2
    subst e1; subst e2
    simp; omega
  · next hge =>
    rw [if_neg hge]
    split at e
    · next hx =>
      injection e with e; injection e with e1 e2
      subst e1; subst e2
      have q1 : (b / 32 == 6) = true := by simp; omega
      have q2 : (d / 64 == 2) = true := by simp; omega
      have q3 : decide (k + 1 < l.length) = true := by simp; omega
      simp only [q1, q2, q3, Bool.and_self, if_true]
      rw [if_pos (by omega)]
      simp; omega
    · cases e
end Go.Proofs.YtmoeboknelnaoaaGreatDoor

/-
  utf8.AppendRune and (*strings.Builder).WriteRune at a sign below 256.
-/
namespace Go.Proofs.YtmoeboknelnaoaaGreatDoor
open Go.RowKit

set_option maxRecDepth 100000 in
set_option maxHeartbeats 1000000 in
theorem appendRune_any (v : Value) (n : Nat) (xs : List Value) (c : UInt8) (w : World) (hown : w.ownsRow 0 5 1 v n xs) (hn : n + 2 ≤ 140737488355328) :
    Calls Tryz.prog 139 #[v, .int .i32 (c.toNat : Int)] w fun e w' => ∃ v', e = .returned v' ∧ w'.ownsRow 0 5 1 v' (n + (wide1 c).length) (xs ++ bcells (wide1 c)) ∧
      Fr (fun k => v.ownBlock = some k) w w' ∧ (∀ k, v'.ownBlock = some k → v.ownBlock = some k ∨ w.heap.size ≤ k) ∧ v' ≠ .slice none 0 0 := by
  obtain ⟨i0, hi, hz0, hz1, hz2⟩ := info_parts info_u8
  by_cases h : c.toNat < 128
  · have hw := Lib.hid (show wide1 c = [c] by unfold wide1; rw [if_pos h])
    have h' : (c.toNat : Int) ≤ 127 := by omega
    go_enter Tryz.func139, Tryz.ntmps139
    go_wp2_with (at_builtin; refine wpList_append_g rfl _ _ 59 rfl 5 i0 (.int .u8 0) 1 1 Tryz.underlying59 hi hz0 hz1 hz2 rfl (by decide) _ _ _ rfl (hown.alloc _) ⟨w.heap.size, 0, none⟩ 1 1 [.int .u8 (c.toNat : Int)] rfl rfl ?c1 ?c2 ?c3 ?c4 ?_)
    case c1 =>
      intro j u hj
      match j, hj with
      | 0, hj => simp at hj; subst hj; simp [Addr.add]
    case c2 => intro u hu; simp at hu; subst hu; rfl
    case c3 => unfold maxLen; omega
    case c4 => omega
    intro v' w2 hown' hap
    have HO := Lib.hid hown'; have HA := Lib.hid hap; clear hown' hap
    go_wp2
    go_ret
    refine ⟨v', rfl, ?_, ((Fr.refl (fun k => v.ownBlock = some k) w).alloc _).trans' HA.out.fr, ?_, fun e => by have := HA.out.nil.1 e; omega⟩
    · rw [hw.out]; exact HO.out
    · intro k hk
      rcases HA.out.old k hk with h1 | h1
      · exact .inl h1
      · simp at h1; exact .inr (by omega)
  · have hw := Lib.hid (show wide1 c = [(192 + c.toNat / 64).toUInt8, (128 + c.toNat % 64).toUInt8] by unfold wide1; rw [if_neg h])
    have hlt := c.toNat_lt
    have h' : (128 : Int) ≤ (c.toNat : Int) := by omega
    have h2 : (c.toNat : Int) ≤ 255 := by omega
    have q1 : 192 + (c.toNat : Int) / 64 = ((192 + c.toNat / 64).toUInt8.toNat : Int) := by simp; omega
    have q2 : 128 + (c.toNat : Int) % 64 = ((128 + c.toNat % 64).toUInt8.toNat : Int) := by simp; omega
    obtain ⟨x1, hx1⟩ : ∃ x, (192 + c.toNat / 64).toUInt8 = x := ⟨_, rfl⟩
    obtain ⟨x2, hx2⟩ : ∃ x, (128 + c.toNat % 64).toUInt8 = x := ⟨_, rfl⟩
    rw [hx1] at q1 hw; rw [hx2] at q2 hw
    have Q1 := Lib.hid q1; have Q2 := Lib.hid q2
    clear hx1 hx2 q1 q2
    go_enter Tryz.func139, Tryz.ntmps139
    go_wp2_with fail
    have HOWN := Lib.hid hown; clear hown
    refine (show Calls Tryz.prog 154 #[v, .int .i32 (c.toNat : Int)] w fun e w' => ∃ v', e = .returned v' ∧ w'.ownsRow 0 5 1 v' (n + 2) (xs ++ bcells [x1, x2]) ∧
      Fr (fun k => v.ownBlock = some k) w w' ∧ (∀ k, v'.ownBlock = some k → v.ownBlock = some k ∨ w.heap.size ≤ k) ∧ v' ≠ .slice none 0 0 from ?_).mono ?_
    · go_enter Tryz.func154, Tryz.ntmps154
      go_wp2_with (at_builtin; refine wpList_append_g rfl _ _ 59 rfl 5 i0 (.int .u8 0) 1 1 Tryz.underlying59 hi hz0 hz1 hz2 rfl (by decide) _ _ _ rfl (HOWN.out.alloc _) ⟨w.heap.size, 0, none⟩ 2 2 [.int .u8 (x1.toNat : Int), .int .u8 (x2.toNat : Int)] rfl rfl ?d1 ?d2 ?d3 ?d4 ?_)
      case d1 =>
        intro j u hj
        match j, hj with
        | 0, hj => simp at hj; subst hj; simp [Addr.add]; exact Q1.out
        | 1, hj => simp at hj; subst hj; simp [Addr.add]; exact Q2.out
      case d2 => intro u hu; simp at hu; rcases hu with rfl | rfl <;> rfl
      case d3 => unfold maxLen; omega
      case d4 => omega
      intro v' w2 hown' hap
      have HO := Lib.hid hown'; have HA := Lib.hid hap; clear hown' hap
      go_wp2
      go_ret
      refine ⟨v', rfl, HO.out, ((Fr.refl (fun k => v.ownBlock = some k) w).alloc _).trans' HA.out.fr, ?_, fun e => by have := HA.out.nil.1 e; omega⟩
      intro k hk
      rcases HA.out.old k hk with h1 | h1
      · exact .inl h1
      · simp at h1; exact .inr (by omega)
    · rintro e w2 ⟨v', rfl, hr⟩
      have HR := Lib.hid hr; clear hr
      go_wp2
      go_ret
      exact ⟨v', rfl, by rw [hw.out]; exact HR.out.1, HR.out.2⟩

set_option maxRecDepth 100000 in
set_option maxHeartbeats 1000000 in
theorem writeRune_any (T : TypeId) (b o : Nat) (cs : Array Value) (bs : List UInt8) (g : Option Nat) (c : UInt8) (w : World) (h : BldAt 5 T b o cs bs g w) (hl : BldIn T cs.size o) (hlen : bs.length ≤ 140737488355326) :
    Calls Tryz.prog 117 #[.pointer (some ⟨b, o, none⟩), .int .i32 (c.toNat : Int)] w fun e w' => (∃ r, e = .returned r) ∧
      ∃ v', BldAt 5 T b o (bldCells cs b o v') (bs ++ wide1 c) v'.ownBlock w' ∧ Fr (fun k => k = b ∨ some k = g) w w' ∧ (∀ k, v'.ownBlock = some k → some k = g ∨ w.heap.size ≤ k) := by
  have HL := Lib.hid hl; clear hl
  go_enter Tryz.func117, Tryz.ntmps117
  go_wp2_with (go_at_call 98; refine (copyCheck_any T b o cs bs g _ h HL.out).mono ?_)
  rintro e w1 ⟨rfl, h1, hf1⟩
  obtain ⟨hb, ho, hp, v, hv, hown, hg, hne, hni⟩ := h1
  have c1 : w1.cell? ⟨b, o + 1, none⟩ = some v := cell_at hb hv
  obtain ⟨va, vc, rfl⟩ := ownsRow_slice hown
  have HB := Lib.hid hb; have HO := Lib.hid ho; have HV := Lib.hid hv; have HG := Lib.hid hg; have HN := Lib.hid hne; have HP := Lib.hid hp; have HI := Lib.hid hni; have HOWN := Lib.hid hown
  clear hb ho hv hg hne hp hni hown
  go_wp2_with fail
  refine (appendRune_any _ _ _ c _ HOWN.out (by omega)).mono ?_
  rintro e w2 ⟨v', rfl, hown', hfr', hold', hnn⟩
  have hb := HB.out
  have hgb := HG.out; have hnb := HN.out
  have hb2 : w2.heap[b]? = some (.cells (cs.setIfInBounds o (.pointer (some ⟨b, o, none⟩))) T (0, 0)) :=
    hfr'.heap hb (fun e => hnb (by rw [← hgb, e]))
  have d1 : w2.cell? ⟨b, o + 1, none⟩ = some (.slice va bs.length vc) := cell_at hb2 HV.out
  have f1 : w2.frozen? ⟨b, o + 1, none⟩ = false := unfrozen_at hb2 _
  have hlt := lt_heap hb
  have hne' : v'.ownBlock ≠ some b := by
    intro e
    rcases hold' b e with h | h
    · exact hnb (by rw [← hgb, h])
    · omega
  have hnew : ∀ k, v'.ownBlock = some k → some k = g ∨ w.heap.size ≤ k := by
    intro k hk
    have := hf1.size
    rcases hold' k hk with h | h
    · exact .inl (by rw [← hgb, h])
    · exact .inr (by omega)
  have hrow : w2.ownsRow 0 5 1 v' (bs ++ wide1 c).length (bcells (bs ++ wide1 c)) := by
    rw [bcells_append, List.length_append]
    exact hown'
  have hfr : Fr (fun k => k = b ∨ some k = g) w w2 := by
    refine (hf1.mono (fun _ _ h => Or.inl h)).trans hfr' (fun k _ h => Or.inr ?_)
    rw [← hgb, h]
  have hni' : bs ++ wide1 c = [] → v' = .slice none 0 0 := fun h => by
    rw [List.append_eq_nil_iff] at h
    have := h.2
    unfold wide1 at this
    split at this <;> simp at this
  obtain ⟨ga, gc, hvs⟩ := ownsRow_slice hrow
  have HNI := Lib.hid hni'; clear hni'
  have HB2 := Lib.hid hb2; have HNE := Lib.hid hne'; have HNEW := Lib.hid hnew; have HROW := Lib.hid hrow; have HFR := Lib.hid hfr
  clear hb hb2 hgb hnb hne' hnew hrow hown' hfr hfr' hold' hnn
  subst hvs
  have hwl : (wide1 c).length ≤ 2 := by unfold wide1; split <;> simp
  have hle : (bs ++ wide1 c).length = bs.length + (wide1 c).length := List.length_append
  obtain ⟨m, hm⟩ : ∃ m, (bs ++ wide1 c).length = m := ⟨_, rfl⟩
  rw [hm] at HNI HNE HNEW HROW ⊢
  have hm2 : bs.length ≤ m := by omega
  have hm3 : m ≤ 140737488355328 := by omega
  have HM := Lib.hid hm
  clear hwl hle hm
  go_wp2
  go_ret2
  have ho := HO.out
  refine ⟨⟨_, rfl⟩, _, ⟨heap_setCell_at HB2.out _ _, ?_, .inr ?_, _, set_at ho, ?_, rfl, HNE.out, HNI.out⟩, ?_, HNEW.out⟩
  · rw [bldCells_size]; simpa using ho
  · unfold bldCells; rw [set_set_ne (by omega)]; exact set_at (by simp at ho; omega)
  · rw [HM.out]; exact ownsRow_fr HROW.out ((Fr.refl (fun k => k = b) w2).setCell (p := ⟨b, o + 1, none⟩) (fun _ => rfl) _) (fun k hk e => HNE.out (by rw [hk, e]))
  · exact HFR.out.setCell (p := ⟨b, o + 1, none⟩) (fun _ => Or.inl rfl) _

theorem bb_writeRune (b : Nat) (out : List UInt8) (c : UInt8) (g : Option Nat) (w : World) (h : Bb b out g w) (hlen : out.length ≤ 140737488355326) :
    Calls Tryz.prog 117 #[.pointer (some ⟨b, 0, none⟩), .int .i32 (c.toNat : Int)] w fun e w' => (∃ r, e = .returned r) ∧
      ∃ g', Bb b (out ++ wide1 c) g' w' ∧ Fr (fun k => k = b ∨ some k = g) w w' ∧ (∀ k, g' = some k → some k = g ∨ w.heap.size ≤ k) := by
  obtain ⟨cs, hb, hs⟩ := h
  refine (writeRune_any _ b 0 cs out g c w hb (bldIn_own hs) hlen).mono ?_
  rintro e w' ⟨he, v', hb', hf, hn⟩
  exact ⟨he, _, ⟨_, hb', by rw [bldCells_size]; exact hs⟩, hf, hn⟩

end Go.Proofs.YtmoeboknelnaoaaGreatDoor

/-
  Walks: Wide of both sides.
-/
namespace Go.Proofs.YtmoeboknelnaoaaGreatDoor
open Go.RowKit

set_option maxRecDepth 100000 in
set_option maxHeartbeats 1000000 in
theorem wide_any (l : List UInt8) (w : World) (hl : l.length ≤ 1000000) :
    Calls Tryz.prog 101 #[.string ⟨l.toArray⟩] w fun e w' => e = .returned (.string ⟨(wide l).toArray⟩) ∧ Fr nob w w' := by
  go_enter Tryz.func101, Tryz.ntmps101
  go_wp2_with fail
  go_loopw [7] (fun i wr => ∃ (k : Nat) (g : Option Nat), i = .int .i64 k ∧ k ≤ l.length ∧ Bb w.heap.size (wide (l.take k)) g wr ∧ Fr nob w wr ∧ (∀ j, g = some j → w.heap.size ≤ j)) (fun i _ => l.length - (intOf i).toNat)
  case atStart => exact ⟨0, none, rfl, Nat.zero_le _, Bb.new _, (Fr.refl _ _).alloc _, fun _ h => (by cases h)⟩
  case round =>
    obtain ⟨k, g, rfl, hk, hr, hfr, hg⟩ := hrel
    have HR := Lib.hid hr; have HFR := Lib.hid hfr; have HG := Lib.hid hg; clear hr hfr hg
    by_cases hlt : k < l.length
    · have hlen : (wide (l.take k)).length ≤ 2000000 := by have := (wide_le (l.take k)).1; have := List.length_take_le k l; omega
      have HT := Lib.hid (wide_take hlt)
      have hbd := toNat_bd l[k]
      go_wp2_with fail
      refine (bb_writeRune _ _ l[k] g _ HR.out (by omega)).mono ?_
      rintro e w1 ⟨⟨r, rfl⟩, g1, h1, hf1, hg1⟩
      have HB1 := Lib.hid h1; have HF1 := Lib.hid (keep_new (g' := none) (Nat.le_refl _) HFR.out HG.out hf1); have HG1 := Lib.hid (new_blk HFR.out HG.out hg1); clear h1 hf1 hg1
      go_wp2
      go_roundw
      case rel => exact ⟨k + 1, g1, by go_num, by omega, by rw [HT.out]; exact HB1.out, HF1.out, HG1.out⟩
      case measure => simp [intOf]; omega
    · obtain rfl : k = l.length := by omega
      have HT := Lib.hid (List.take_of_length_le (l := l) (Nat.le_refl _))
      go_wp2_with fail
      refine (bb_string _ _ g _ HR.out).mono ?_
      rw [HT.out]
      rintro e w2 ⟨rfl, hf2⟩
      have HF2 := Lib.hid hf2; clear hf2
      go_wp2
      go_ret
      exact ⟨rfl, HFR.out.trans HF2.out (fun i hi h => by have := HG.out i h.symm; omega)⟩

end Go.Proofs.YtmoeboknelnaoaaGreatDoor

/-
  Walks: Narrow of both sides.
-/
namespace Go.Proofs.YtmoeboknelnaoaaGreatDoor
open Go.RowKit

theorem fr_iterAt (w : World) (k : Nat) (s : ByteArray) (p : Nat) : Fr (fun j => j = k) w (w.iterAt k s p) :=
  ⟨rfl, rfl, rfl, by rw [Lib.iterAt_size]; exact Nat.le_refl _, fun i _ hi => Lib.iterAt_other w k i s p hi⟩

end Go.Proofs.YtmoeboknelnaoaaGreatDoor
