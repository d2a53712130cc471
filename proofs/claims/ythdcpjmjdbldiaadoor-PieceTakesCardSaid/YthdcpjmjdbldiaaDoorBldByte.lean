/-
  strings.Builder: WriteByte.
-/
import Derived.Test.YthdcpjmjdbldiaaDoorBld
namespace Go.Proofs.YthdcpjmjdbldiaaDoor
open Go.RowKit

set_option maxRecDepth 100000 in
set_option maxHeartbeats 1000000 in
theorem writeByte_any (T : TypeId) (b o : Nat) (cs : Array Value) (bs : List UInt8) (g : Option Nat) (c : Int) (w : World) (hc : 0 ≤ c ∧ c ≤ 255) (h : BldAt 5 T b o cs bs g w) (hl : BldIn T cs.size o) (hlen : bs.length ≤ 140737488355327) :
    Calls Tryd.prog 20 #[.pointer (some ⟨b, o, none⟩), .int .u8 c] w fun e w' => e = .returned .nilIface ∧
      ∃ v', BldAt 5 T b o (bldCells cs b o v') (bs ++ [c.toNat.toUInt8]) v'.ownBlock w' ∧ Fr (fun k => k = b ∨ some k = g) w w' ∧ (∀ k, v'.ownBlock = some k → some k = g ∨ w.heap.size ≤ k) := by
  obtain ⟨i0, hi, hz0, hz1, hz2⟩ := info_parts info_u8
  have hcv : bcell c.toNat.toUInt8 = .int .u8 c := by
    unfold bcell; congr 1; simp; omega
  have HC := Lib.hid hcv; clear hcv
  have HL := Lib.hid hl; clear hl
  go_enter Tryd.func20, Tryd.ntmps20
  go_wp2_with (go_at_call 28; refine (copyCheck_any T b o cs bs g _ h HL.out).mono ?_)
  rintro e w1 ⟨rfl, h1, hf1⟩
  obtain ⟨hb, ho, hp, v, hv, hown, hg, hne, hni⟩ := h1
  have c1 : w1.cell? ⟨b, o + 1, none⟩ = some v := cell_at hb hv
  have HB := Lib.hid hb; have HO := Lib.hid ho; have HV := Lib.hid hv; have HG := Lib.hid hg; have HN := Lib.hid hne; have HP := Lib.hid hp; have HI := Lib.hid hni
  clear hb ho hv hg hne hp hni
  go_wp2_with (at_builtin; refine wpList_append_g rfl _ _ 40 rfl 5 i0 (.int .u8 0) 1 1 Tryd.underlying40 hi hz0 hz1 hz2 rfl (by decide) _ _ _ rfl (hown.alloc _) ⟨w1.heap.size, 0, none⟩ 1 1 [.int .u8 c] rfl rfl ?c1 ?c2 ?c3 ?c4 ?_)
  case c1 =>
    intro j u hj
    match j, hj with
    | 0, hj => simp at hj; subst hj; simp [Addr.add]
  case c2 => intro u hu; simp at hu; subst hu; rfl
  case c3 => unfold maxLen; omega
  case c4 => omega
  intro v' w2 hown' hap
  have hb := HB.out; have hlt : b < w1.heap.size := lt_heap hb
  have hgb := HG.out; have hnb := HN.out
  have hb2 : w2.heap[b]? = some (.cells (cs.setIfInBounds o (.pointer (some ⟨b, o, none⟩))) T (0, 0)) :=
    hap.fr.heap (heap_alloc_lt _ hb) (fun e => hnb (by rw [← hgb, e]))
  have d1 : w2.cell? ⟨b, o + 1, none⟩ = some v := cell_at hb2 HV.out
  have f1 : w2.frozen? ⟨b, o + 1, none⟩ = false := unfrozen_at hb2 _
  have hlen2 : w1.heap.size + 1 ≤ w2.heap.size := by simpa using hap.fr.size
  have hne' : v'.ownBlock ≠ some b := by
    intro e
    rcases hap.old b e with h | h
    · exact hnb (by rw [← hgb, h])
    · simp at h; omega
  have hnew : ∀ k, v'.ownBlock = some k → some k = g ∨ w.heap.size ≤ k := by
    intro k hk
    have := hf1.size
    rcases hap.old k hk with h | h
    · exact .inl (by rw [← hgb, h])
    · simp at h; exact .inr (by omega)
  have hrow : w2.ownsRow 0 5 1 v' (bs ++ [c.toNat.toUInt8]).length (bcells (bs ++ [c.toNat.toUInt8])) := by
    rw [bcells_append, List.length_append]
    have hc1 : bcells [c.toNat.toUInt8] = [.int .u8 c] := by rw [← HC.out]; rfl
    rw [hc1]; exact hown'
  have hni' : bs ++ [c.toNat.toUInt8] = [] → v' = .slice none 0 0 := fun h => by simp at h
  have hfr : Fr (fun k => k = b ∨ some k = g) w w2 := by
    refine (hf1.mono (fun _ _ h => Or.inl h)).trans (((Fr.refl (fun k => v.ownBlock = some k) w1).alloc _).trans' hap.fr) (fun k _ h => Or.inr ?_)
    rw [← hgb, h]
  obtain ⟨ga, gn, gc, hvs⟩ := ownsRow_slice' hrow
  have HNI := Lib.hid hni'; clear hni'
  have HB2 := Lib.hid hb2; have HNE := Lib.hid hne'; have HNEW := Lib.hid hnew; have HROW := Lib.hid hrow; have HFR := Lib.hid hfr
  clear hb hb2 hgb hnb hne' hnew hrow hown' hfr
  subst hvs
  go_wp2
  go_ret
  have ho := HO.out
  refine ⟨rfl, _, ⟨heap_setCell_at HB2.out _ _, ?_, .inr ?_, _, set_at ho, ?_, rfl, HNE.out, HNI.out⟩, ?_, HNEW.out⟩
  · rw [bldCells_size]; simpa using ho
  · unfold bldCells; rw [set_set_ne (by omega)]; exact set_at (by simp at ho; omega)
  · exact ownsRow_fr HROW.out ((Fr.refl (fun k => k = b) w2).setCell (p := ⟨b, o + 1, none⟩) (fun _ => rfl) _) (fun k hk e => HNE.out (by rw [hk, e]))
  · exact HFR.out.setCell (p := ⟨b, o + 1, none⟩) (fun _ => Or.inl rfl) _


theorem bb_writeByte (b : Nat) (out : List UInt8) (c : Int) (g : Option Nat) (w : World) (hc : 0 ≤ c ∧ c ≤ 255) (h : Bb b out g w) (hlen : out.length ≤ 140737488355327) :
    Calls Tryd.prog 20 #[.pointer (some ⟨b, 0, none⟩), .int .u8 c] w fun e w' => e = .returned .nilIface ∧
      ∃ g', Bb b (out ++ [c.toNat.toUInt8]) g' w' ∧ Fr (fun k => k = b ∨ some k = g) w w' ∧ (∀ k, g' = some k → some k = g ∨ w.heap.size ≤ k) := by
  obtain ⟨cs, hb, hs⟩ := h
  refine (writeByte_any _ b 0 cs out g c w hc hb (bldIn_own hs) hlen).mono ?_
  rintro e w' ⟨rfl, v', hb', hf, hn⟩
  exact ⟨rfl, _, ⟨_, hb', by rw [bldCells_size]; exact hs⟩, hf, hn⟩

end Go.Proofs.YthdcpjmjdbldiaaDoor
