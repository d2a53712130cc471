/-
  Merged texts of this claim: BldRune, OctetW, OctetX.
-/
import Derived.Lib.OthersKept
import Derived.Deep.LoopGhost
import Derived.Test.YtepeomphikhbkaaGreatDoorM02
import Derived.Test.YtepeomphikhbkaaGreatDoorM04

/-
  utf8.AppendRune and (*strings.Builder).WriteRune at a sign below 256.
-/
namespace Go.Proofs.YtepeomphikhbkaaGreatDoor
open Go.RowKit

set_option maxRecDepth 100000 in
set_option maxHeartbeats 1000000 in
theorem appendRune_any (v : Value) (n : Nat) (xs : List Value) (c : UInt8) (w : World) (hown : w.ownsRow 0 5 1 v n xs) (hn : n + 2 ≤ 140737488355328) :
    Calls Tryz.prog 65 #[v, .int .i32 (c.toNat : Int)] w fun e w' => ∃ v', e = .returned v' ∧ w'.ownsRow 0 5 1 v' (n + (wide1 c).length) (xs ++ bcells (wide1 c)) ∧
      Fr (fun k => v.ownBlock = some k) w w' ∧ (∀ k, v'.ownBlock = some k → v.ownBlock = some k ∨ w.heap.size ≤ k) ∧ v' ≠ .slice none 0 0 := by
  obtain ⟨i0, hi, hz0, hz1, hz2⟩ := info_parts info_u8
  by_cases h : c.toNat < 128
  · have hw := Lib.hid (show wide1 c = [c] by unfold wide1; rw [if_pos h])
    have h' : (c.toNat : Int) ≤ 127 := by omega
    go_enter Tryz.func65, Tryz.ntmps65
    go_wp2_with (at_builtin; refine wpList_append_g rfl _ _ 42 rfl 5 i0 (.int .u8 0) 1 1 Tryz.underlying42 hi hz0 hz1 hz2 rfl (by decide) _ _ _ rfl (hown.alloc _) ⟨w.heap.size, 0, none⟩ 1 1 [.int .u8 (c.toNat : Int)] rfl rfl ?c1 ?c2 ?c3 ?c4 ?_)
    case c1 =>
      intro j u hj
      match j, hj with
      | 0, hj => simp at hj; subst hj; simp [Addr.add]
    case c2 => intro u hu; simp at hu; subst hu; rfl
    case c3 => unfold maxLen; omega
    case c4 => omega
    intro v' w2 hown' hap
    have HO := Lib.hid hown'; have HA := Lib.hid hap; clear hown' hap
    go_wp2
    go_ret
    refine ⟨v', rfl, ?_, ((Fr.refl (fun k => v.ownBlock = some k) w).alloc _).trans' HA.out.fr, ?_, fun e => by have := HA.out.nil.1 e; omega⟩
    · rw [hw.out]; exact HO.out
    · intro k hk
      rcases HA.out.old k hk with h1 | h1
      · exact .inl h1
      · simp at h1; exact .inr (by omega)
  · have hw := Lib.hid (show wide1 c = [(192 + c.toNat / 64).toUInt8, (128 + c.toNat % 64).toUInt8] by unfold wide1; rw [if_neg h])
    have hlt := c.toNat_lt
    have h' : (128 : Int) ≤ (c.toNat : Int) := by omega
    have h2 : (c.toNat : Int) ≤ 255 := by omega
    have q1 : 192 + (c.toNat : Int) / 64 = ((192 + c.toNat / 64).toUInt8.toNat : Int) := by simp; omega
    have q2 : 128 + (c.toNat : Int) % 64 = ((128 + c.toNat % 64).toUInt8.toNat : Int) := by simp; omega
    obtain ⟨x1, hx1⟩ : ∃ x, (192 + c.toNat / 64).toUInt8 = x := ⟨_, rfl⟩
    obtain ⟨x2, hx2⟩ : ∃ x, (128 + c.toNat % 64).toUInt8 = x := ⟨_, rfl⟩
    rw [hx1] at q1 hw; rw [hx2] at q2 hw
    have Q1 := Lib.hid q1; have Q2 := Lib.hid q2
    clear hx1 hx2 q1 q2
    go_enter Tryz.func65, Tryz.ntmps65
    go_wp2_with fail
    have HOWN := Lib.hid hown; clear hown
    refine (show Calls Tryz.prog 84 #[v, .int .i32 (c.toNat : Int)] w fun e w' => ∃ v', e = .returned v' ∧ w'.ownsRow 0 5 1 v' (n + 2) (xs ++ bcells [x1, x2]) ∧
      Fr (fun k => v.ownBlock = some k) w w' ∧ (∀ k, v'.ownBlock = some k → v.ownBlock = some k ∨ w.heap.size ≤ k) ∧ v' ≠ .slice none 0 0 from ?_).mono ?_
    · go_enter Tryz.func84, Tryz.ntmps84
      go_wp2_with (at_builtin; refine wpList_append_g rfl _ _ 42 rfl 5 i0 (.int .u8 0) 1 1 Tryz.underlying42 hi hz0 hz1 hz2 rfl (by decide) _ _ _ rfl (HOWN.out.alloc _) ⟨w.heap.size, 0, none⟩ 2 2 [.int .u8 (x1.toNat : Int), .int .u8 (x2.toNat : Int)] rfl rfl ?d1 ?d2 ?d3 ?d4 ?_)
      case d1 =>
        intro j u hj
        match j, hj with
        | 0, hj => simp at hj; subst hj; simp [Addr.add]; exact Q1.out
        | 1, hj => simp at hj; subst hj; simp [Addr.add]; exact Q2.out
      case d2 => intro u hu; simp at hu; rcases hu with rfl | rfl <;> rfl
      case d3 => unfold maxLen; omega
      case d4 => omega
      intro v' w2 hown' hap
      have HO := Lib.hid hown'; have HA := Lib.hid hap; clear hown' hap
      go_wp2
      go_ret
      refine ⟨v', rfl, HO.out, ((Fr.refl (fun k => v.ownBlock = some k) w).alloc _).trans' HA.out.fr, ?_, fun e => by have := HA.out.nil.1 e; omega⟩
      intro k hk
      rcases HA.out.old k hk with h1 | h1
      · exact .inl h1
      · simp at h1; exact .inr (by omega)
    · rintro e w2 ⟨v', rfl, hr⟩
      have HR := Lib.hid hr; clear hr
      go_wp2
      go_ret
      exact ⟨v', rfl, by rw [hw.out]; exact HR.out.1, HR.out.2⟩

set_option maxRecDepth 100000 in
set_option maxHeartbeats 1000000 in
theorem writeRune_any (T : TypeId) (b o : Nat) (cs : Array Value) (bs : List UInt8) (g : Option Nat) (c : UInt8) (w : World) (h : BldAt 5 T b o cs bs g w) (hl : BldIn T cs.size o) (hlen : bs.length ≤ 140737488355326) :
    Calls Tryz.prog 38 #[.pointer (some ⟨b, o, none⟩), .int .i32 (c.toNat : Int)] w fun e w' => (∃ r, e = .returned r) ∧
      ∃ v', BldAt 5 T b o (bldCells cs b o v') (bs ++ wide1 c) v'.ownBlock w' ∧ Fr (fun k => k = b ∨ some k = g) w w' ∧ (∀ k, v'.ownBlock = some k → some k = g ∨ w.heap.size ≤ k) := by
  have HL := Lib.hid hl; clear hl
  go_enter Tryz.func38, Tryz.ntmps38
  go_wp2_with (go_at_call 64; refine (copyCheck_any T b o cs bs g _ h HL.out).mono ?_)
  rintro e w1 ⟨rfl, h1, hf1⟩
  obtain ⟨hb, ho, hp, v, hv, hown, hg, hne, hni⟩ := h1
  have c1 : w1.cell? ⟨b, o + 1, none⟩ = some v := cell_at hb hv
  obtain ⟨va, vc, rfl⟩ := ownsRow_slice hown
  have HB := Lib.hid hb; have HO := Lib.hid ho; have HV := Lib.hid hv; have HG := Lib.hid hg; have HN := Lib.hid hne; have HP := Lib.hid hp; have HI := Lib.hid hni; have HOWN := Lib.hid hown
  clear hb ho hv hg hne hp hni hown
  go_wp2_with fail
  refine (appendRune_any _ _ _ c _ HOWN.out (by omega)).mono ?_
  rintro e w2 ⟨v', rfl, hown', hfr', hold', hnn⟩
  have hb := HB.out
  have hgb := HG.out; have hnb := HN.out
  have hb2 : w2.heap[b]? = some (.cells (cs.setIfInBounds o (.pointer (some ⟨b, o, none⟩))) T (0, 0)) :=
    hfr'.heap hb (fun e => hnb (by rw [← hgb, e]))
  have d1 : w2.cell? ⟨b, o + 1, none⟩ = some (.slice va bs.length vc) := cell_at hb2 HV.out
  have f1 : w2.frozen? ⟨b, o + 1, none⟩ = false := unfrozen_at hb2 _
  have hlt := lt_heap hb
  have hne' : v'.ownBlock ≠ some b := by
    intro e
    rcases hold' b e with h | h
    · exact hnb (by rw [← hgb, h])
    · omega
  have hnew : ∀ k, v'.ownBlock = some k → some k = g ∨ w.heap.size ≤ k := by
    intro k hk
    have := hf1.size
    rcases hold' k hk with h | h
    · exact .inl (by rw [← hgb, h])
    · exact .inr (by omega)
  have hrow : w2.ownsRow 0 5 1 v' (bs ++ wide1 c).length (bcells (bs ++ wide1 c)) := by
    rw [bcells_append, List.length_append]
    exact hown'
  have hfr : Fr (fun k => k = b ∨ some k = g) w w2 := by
    refine (hf1.mono (fun _ _ h => Or.inl h)).trans hfr' (fun k _ h => Or.inr ?_)
    rw [← hgb, h]
  have hni' : bs ++ wide1 c = [] → v' = .slice none 0 0 := fun h => by
    rw [List.append_eq_nil_iff] at h
    have := h.2
    unfold wide1 at this
    split at this <;> simp at this
  obtain ⟨ga, gc, hvs⟩ := ownsRow_slice hrow
  have HNI := Lib.hid hni'; clear hni'
  have HB2 := Lib.hid hb2; have HNE := Lib.hid hne'; have HNEW := Lib.hid hnew; have HROW := Lib.hid hrow; have HFR := Lib.hid hfr
  clear hb hb2 hgb hnb hne' hnew hrow hown' hfr hfr' hold' hnn
  subst hvs
  have hwl : (wide1 c).length ≤ 2 := by unfold wide1; split <;> simp
  have hle : (bs ++ wide1 c).length = bs.length + (wide1 c).length := List.length_append
  obtain ⟨m, hm⟩ : ∃ m, (bs ++ wide1 c).length = m := ⟨_, rfl⟩
  rw [hm] at HNI HNE HNEW HROW ⊢
  have hm2 : bs.length ≤ m := by omega
  have hm3 : m ≤ 140737488355328 := by omega
  have HM := Lib.hid hm
  clear hwl hle hm
  go_wp2
  go_ret2
  have ho := HO.out
  refine ⟨⟨_, rfl⟩, _, ⟨heap_setCell_at HB2.out _ _, ?_, .inr ?_, _, set_at ho, ?_, rfl, HNE.out, HNI.out⟩, ?_, HNEW.out⟩
  · rw [bldCells_size]; simpa using ho
  · unfold bldCells; rw [set_set_ne (by omega)]; exact set_at (by simp at ho; omega)
  · rw [HM.out]; exact ownsRow_fr HROW.out ((Fr.refl (fun k => k = b) w2).setCell (p := ⟨b, o + 1, none⟩) (fun _ => rfl) _) (fun k hk e => HNE.out (by rw [hk, e]))
  · exact HFR.out.setCell (p := ⟨b, o + 1, none⟩) (fun _ => Or.inl rfl) _

theorem bb_writeRune (b : Nat) (out : List UInt8) (c : UInt8) (g : Option Nat) (w : World) (h : Bb b out g w) (hlen : out.length ≤ 140737488355326) :
    Calls Tryz.prog 38 #[.pointer (some ⟨b, 0, none⟩), .int .i32 (c.toNat : Int)] w fun e w' => (∃ r, e = .returned r) ∧
      ∃ g', Bb b (out ++ wide1 c) g' w' ∧ Fr (fun k => k = b ∨ some k = g) w w' ∧ (∀ k, g' = some k → some k = g ∨ w.heap.size ≤ k) := by
  obtain ⟨cs, hb, hs⟩ := h
  refine (writeRune_any _ b 0 cs out g c w hb (bldIn_own hs) hlen).mono ?_
  rintro e w' ⟨he, v', hb', hf, hn⟩
  exact ⟨he, _, ⟨_, hb', by rw [bldCells_size]; exact hs⟩, hf, hn⟩

end Go.Proofs.YtepeomphikhbkaaGreatDoor

/-
  Walks: Wide of both sides.
-/
namespace Go.Proofs.YtepeomphikhbkaaGreatDoor
open Go.RowKit

set_option maxRecDepth 100000 in
set_option maxHeartbeats 1000000 in
theorem wide_any (l : List UInt8) (w : World) (hl : l.length ≤ 1000000) :
    Calls Tryz.prog 25 #[.string ⟨l.toArray⟩] w fun e w' => e = .returned (.string ⟨(wide l).toArray⟩) ∧ Fr nob w w' := by
  go_enter Tryz.func25, Tryz.ntmps25
  go_wp2_with fail
  go_loopw [7] (fun i wr => ∃ (k : Nat) (g : Option Nat), i = .int .i64 k ∧ k ≤ l.length ∧ Bb w.heap.size (wide (l.take k)) g wr ∧ Fr nob w wr ∧ (∀ j, g = some j → w.heap.size ≤ j)) (fun i _ => l.length - (intOf i).toNat)
  case atStart => exact ⟨0, none, rfl, Nat.zero_le _, Bb.new _, (Fr.refl _ _).alloc _, fun _ h => (by cases h)⟩
  case round =>
    obtain ⟨k, g, rfl, hk, hr, hfr, hg⟩ := hrel
    have HR := Lib.hid hr; have HFR := Lib.hid hfr; have HG := Lib.hid hg; clear hr hfr hg
    by_cases hlt : k < l.length
    · have hlen : (wide (l.take k)).length ≤ 2000000 := by have := (wide_le (l.take k)).1; have := List.length_take_le k l; omega
      have HT := Lib.hid (wide_take hlt)
      have hbd := toNat_bd l[k]
      go_wp2_with fail
      refine (bb_writeRune _ _ l[k] g _ HR.out (by omega)).mono ?_
      rintro e w1 ⟨⟨r, rfl⟩, g1, h1, hf1, hg1⟩
      have HB1 := Lib.hid h1; have HF1 := Lib.hid (keep_new (g' := none) (Nat.le_refl _) HFR.out HG.out hf1); have HG1 := Lib.hid (new_blk HFR.out HG.out hg1); clear h1 hf1 hg1
      go_wp2
      go_roundw
      case rel => exact ⟨k + 1, g1, by go_num, by omega, by rw [HT.out]; exact HB1.out, HF1.out, HG1.out⟩
      case measure => simp [intOf]; omega
    · obtain rfl : k = l.length := by omega
      have HT := Lib.hid (List.take_of_length_le (l := l) (Nat.le_refl _))
      go_wp2_with fail
      refine (bb_string _ _ g _ HR.out).mono ?_
      rw [HT.out]
      rintro e w2 ⟨rfl, hf2⟩
      have HF2 := Lib.hid hf2; clear hf2
      go_wp2
      go_ret
      exact ⟨rfl, HFR.out.trans HF2.out (fun i hi h => by have := HG.out i h.symm; omega)⟩

end Go.Proofs.YtepeomphikhbkaaGreatDoor

/-
  Walks: Narrow of both sides.
-/
namespace Go.Proofs.YtepeomphikhbkaaGreatDoor
open Go.RowKit

theorem fr_iterAt (w : World) (k : Nat) (s : ByteArray) (p : Nat) : Fr (fun j => j = k) w (w.iterAt k s p) :=
  ⟨rfl, rfl, rfl, by rw [Lib.iterAt_size]; exact Nat.le_refl _, fun i _ hi => Lib.iterAt_other w k i s p hi⟩

/-- The loop's relation. -/
def NarRel (l : List UInt8) (F : Option (List UInt8)) (w : World) (n : Nat) (v : Value) (wr : World) : Prop :=
  ∃ (k : Nat) (out : List UInt8), wr.heap[w.heap.size]? = some (.stringIter ⟨l.toArray⟩ k) ∧ wr.ownsRow 0 5 1 v out.length (bcells out) ∧ (∀ j, v.ownBlock = some j → w.heap.size < j) ∧ (out = [] → v = .slice none 0 0) ∧ Fr nob w wr ∧
    out.length ≤ k ∧ k ≤ l.length ∧ l.length < n + k ∧ nar l n k out = F

theorem conv_nil (w : World) : (convert 42 9 (.slice none 0 0)).run Tryz.prog w = .ok (.string ⟨#[]⟩) w := by kernel_rfl

def narV (F : Option (List UInt8)) : Value := .tuple #[.string ⟨(F.getD []).toArray⟩, .bool F.isSome]

end Go.Proofs.YtepeomphikhbkaaGreatDoor
