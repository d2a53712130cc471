/-
  strings.Builder's methods at a builder that lies anywhere in a block: what each does.
-/
import Derived.Test.YthdcpjmjdbldiaaBase
import Derived.Test.YthdcpjmjdbldiaaChecked
import Derived.WalkKit
import Derived.Laws.Externs
import Derived.Laws.IdiomCopy
import Derived.Shelf.Lays
import Derived.Shelf.RegionOpenPlain
import Derived.Lib.UnsafeStr
import Derived.StillTailTactics
namespace Go.Proofs.Ythdcpjmjdbldiaa
open Go.RowKit

def bldT : TypeId := 42
def u8T : TypeId := 5

theorem info_bld : (Try.prog.info? 42).map (·.size) = some 2 := by kernel_rfl
theorem info_u8 : (Try.prog.info? 5).map (fun i => (i.zero, i.size, i.bytes)) = some (some (.int .u8 0), 1, 1) := by kernel_rfl

/-- Where a type's lay-out has a Builder at a place. -/
def BldIn (T : TypeId) (n o : Nat) : Prop := liesAt Try.prog Try.prog.depth T (n / Try.prog.cellsOf T) o 42 1 = true

set_option maxRecDepth 100000 in
set_option maxHeartbeats 1000000 in
theorem copyCheck_any (T : TypeId) (b o : Nat) (cs : Array Value) (bs : List UInt8) (g : Option Nat) (w : World) (h : BldAt 5 T b o cs bs g w) (hl : BldIn T cs.size o) :
    Calls Try.prog 23 #[.pointer (some ⟨b, o, none⟩)] w fun e w' => e = .returned (.tuple #[]) ∧
      BldAt 5 T b o (cs.setIfInBounds o (.pointer (some ⟨b, o, none⟩))) bs g w' ∧ Fr (fun k => k = b) w w' := by
  obtain ⟨hb, ho, hp, v, hv, hown, hg, hne, hni⟩ := h
  obtain ⟨j, hj, hjs⟩ := Option.map_eq_some_iff.1 info_bld
  have hsh : w.shape? b = some (T, cs.size) := by simp [World.shape?, hb]
  have hfz : w.frozen? ⟨b, o, none⟩ = false := unfrozen_at hb o
  rcases hp with hp | hp
  · have h0 := cell_at hb hp
    have HB := Lib.hid hb; have HO := Lib.hid ho; have HV := Lib.hid hv; have HW := Lib.hid hown; have HG := Lib.hid hg; have HN := Lib.hid hne; have HP := Lib.hid hp; have HL := Lib.hid hl; have HJ := Lib.hid hjs; have HS := Lib.hid hsh; have HI := Lib.hid hni
    clear hb ho hv hown hg hne hp hl hjs hsh hni
    go_enter Try.func23, Try.ntmps23
    go_wp2
    rw [Lib.run_to_unsafe w ⟨b, o, none⟩ Try.underlying40 Try.underlying59 hj (by rw [HJ.out]; decide) HS.out (Nat.lt_of_succ_lt HO.out)]
    simp only [Result.andThen]
    rw [Oper.upon_value]
    go_wp2
    rw [run_callFunc_extern Try.func26 (by kernel_rfl) (by kernel_rfl) (by kernel_rfl) (e := Extern.AbiNoEscape.same) (by kernel_rfl)]
    rw [Lib.run_noEscape]
    simp only [Result.andThen]
    rw [Oper.upon_value]
    go_wp2
    rw [Lib.run_from_unsafe w ⟨b, o, none⟩ Try.underlying59 Try.underlying40 hj HS.out HL.out]
    simp only [Result.andThen]
    rw [Oper.upon_value]
    go_wp2
    go_end0
    have ho := HO.out
    refine ⟨rfl, ⟨heap_setCell_at HB.out o _, by simpa using ho, .inr (by rw [Array.getElem?_setIfInBounds, if_pos rfl, if_pos (by omega)]), v, ?_, ?_, HG.out, HN.out, HI.out⟩, (Fr.refl (fun k => k = b) w).setCell (p := ⟨b, o, none⟩) (fun _ => rfl) _⟩
    · rw [Array.getElem?_setIfInBounds, if_neg (by omega)]; exact HV.out
    · have hn := HN.out
      exact ownsRow_fr HW.out ((Fr.refl (fun k => k = b) w).setCell (p := ⟨b, o, none⟩) (fun _ => rfl) _) (fun k hk e => hn (by rw [← HG.out, hk, e]))
  · have h0 := cell_at hb hp
    have HB := Lib.hid hb; have HO := Lib.hid ho; have HV := Lib.hid hv; have HW := Lib.hid hown; have HG := Lib.hid hg; have HN := Lib.hid hne; have HP := Lib.hid hp; have HL := Lib.hid hl; have HJ := Lib.hid hjs; have HS := Lib.hid hsh; have HI := Lib.hid hni
    clear hb ho hv hown hg hne hp hl hjs hsh hni
    go_enter Try.func23, Try.ntmps23
    go_wp2
    rw [Lib.run_neq_ptr_same w _ Try.underlying40 hj]
    go_wp2
    go_end0
    have hcs : cs.setIfInBounds o (.pointer (some ⟨b, o, none⟩)) = cs := by
      apply Array.ext_getElem?
      intro i
      rw [Array.getElem?_setIfInBounds]
      have ho := HO.out
      split
      · subst_vars; rw [if_pos (by omega)]; exact HP.out.symm
      · rfl
    rw [hcs]
    exact ⟨rfl, ⟨HB.out, HO.out, .inr HP.out, v, HV.out, HW.out, HG.out, HN.out, HI.out⟩, Fr.refl _ _⟩


theorem set_set_ne {cs : Array Value} {o i : Nat} {p : Value} (h : i ≠ o) : (cs.setIfInBounds o p)[i]? = cs[i]? := by
  rw [Array.getElem?_setIfInBounds, if_neg (fun e => h e.symm)]

theorem set_at {cs : Array Value} {o : Nat} {p : Value} (h : o < cs.size) : (cs.setIfInBounds o p)[o]? = some p := by
  rw [Array.getElem?_setIfInBounds, if_pos rfl, if_pos h]

/-- What a Builder's cells are behind a write. -/
def bldCells (cs : Array Value) (b o : Nat) (v : Value) : Array Value := (cs.setIfInBounds o (.pointer (some ⟨b, o, none⟩))).setIfInBounds (o + 1) v

theorem bldCells_size (cs : Array Value) (b o : Nat) (v : Value) : (bldCells cs b o v).size = cs.size := by simp [bldCells]

theorem bldCells_ne (cs : Array Value) (b o : Nat) (v : Value) {i : Nat} (h : i ≠ o) (h' : i ≠ o + 1) : (bldCells cs b o v)[i]? = cs[i]? := by
  unfold bldCells; rw [set_set_ne h', set_set_ne h]

set_option maxRecDepth 100000 in
set_option maxHeartbeats 1000000 in
theorem writeByte_any (T : TypeId) (b o : Nat) (cs : Array Value) (bs : List UInt8) (g : Option Nat) (c : Int) (w : World) (hc : 0 ≤ c ∧ c ≤ 255) (h : BldAt 5 T b o cs bs g w) (hl : BldIn T cs.size o) (hlen : bs.length ≤ 140737488355327) :
    Calls Try.prog 19 #[.pointer (some ⟨b, o, none⟩), .int .u8 c] w fun e w' => e = .returned .nilIface ∧
      ∃ v', BldAt 5 T b o (bldCells cs b o v') (bs ++ [c.toNat.toUInt8]) v'.ownBlock w' ∧ Fr (fun k => k = b ∨ some k = g) w w' ∧ (∀ k, v'.ownBlock = some k → some k = g ∨ w.heap.size ≤ k) := by
  obtain ⟨i0, hi, hz0, hz1, hz2⟩ := info_parts info_u8
  have hcv : bcell c.toNat.toUInt8 = .int .u8 c := by
    unfold bcell; congr 1; simp; omega
  have HC := Lib.hid hcv; clear hcv
  have HL := Lib.hid hl; clear hl
  go_enter Try.func19, Try.ntmps19
  go_wp2_with (go_at_call 23; refine (copyCheck_any T b o cs bs g _ h HL.out).mono ?_)
  rintro e w1 ⟨rfl, h1, hf1⟩
  obtain ⟨hb, ho, hp, v, hv, hown, hg, hne, hni⟩ := h1
  have c1 : w1.cell? ⟨b, o + 1, none⟩ = some v := cell_at hb hv
  have HB := Lib.hid hb; have HO := Lib.hid ho; have HV := Lib.hid hv; have HG := Lib.hid hg; have HN := Lib.hid hne; have HP := Lib.hid hp; have HI := Lib.hid hni
  clear hb ho hv hg hne hp hni
  go_wp2_with (at_builtin; refine wpList_append_g rfl _ _ 30 rfl 5 i0 (.int .u8 0) 1 1 Try.underlying30 hi hz0 hz1 hz2 rfl (by decide) _ _ _ rfl (hown.alloc _) ⟨w1.heap.size, 0, none⟩ 1 1 [.int .u8 c] rfl rfl ?c1 ?c2 ?c3 ?c4 ?_)
  case c1 =>
    intro j u hj
    match j, hj with
    | 0, hj => simp at hj; subst hj; simp [Addr.add]
  case c2 => intro u hu; simp at hu; subst hu; rfl
  case c3 => unfold maxLen; omega
  case c4 => omega
  intro v' w2 hown' hap
  have hb := HB.out; have hlt : b < w1.heap.size := lt_heap hb
  have hgb := HG.out; have hnb := HN.out
  have hb2 : w2.heap[b]? = some (.cells (cs.setIfInBounds o (.pointer (some ⟨b, o, none⟩))) T (0, 0)) :=
    hap.fr.heap (heap_alloc_lt _ hb) (fun e => hnb (by rw [← hgb, e]))
  have d1 : w2.cell? ⟨b, o + 1, none⟩ = some v := cell_at hb2 HV.out
  have f1 : w2.frozen? ⟨b, o + 1, none⟩ = false := unfrozen_at hb2 _
  have hlen2 : w1.heap.size + 1 ≤ w2.heap.size := by simpa using hap.fr.size
  have hne' : v'.ownBlock ≠ some b := by
    intro e
    rcases hap.old b e with h | h
    · exact hnb (by rw [← hgb, h])
    · simp at h; omega
  have hnew : ∀ k, v'.ownBlock = some k → some k = g ∨ w.heap.size ≤ k := by
    intro k hk
    have := hf1.size
    rcases hap.old k hk with h | h
    · exact .inl (by rw [← hgb, h])
    · simp at h; exact .inr (by omega)
  have hrow : w2.ownsRow 0 5 1 v' (bs ++ [c.toNat.toUInt8]).length (bcells (bs ++ [c.toNat.toUInt8])) := by
    rw [bcells_append, List.length_append]
    have hc1 : bcells [c.toNat.toUInt8] = [.int .u8 c] := by rw [← HC.out]; rfl
    rw [hc1]; exact hown'
  have hni' : bs ++ [c.toNat.toUInt8] = [] → v' = .slice none 0 0 := fun h => by simp at h
  have hfr : Fr (fun k => k = b ∨ some k = g) w w2 := by
    refine (hf1.mono (fun _ _ h => Or.inl h)).trans (((Fr.refl (fun k => v.ownBlock = some k) w1).alloc _).trans' hap.fr) (fun k _ h => Or.inr ?_)
    rw [← hgb, h]
  obtain ⟨ga, gn, gc, hvs⟩ := ownsRow_slice' hrow
  have HNI := Lib.hid hni'; clear hni'
  have HB2 := Lib.hid hb2; have HNE := Lib.hid hne'; have HNEW := Lib.hid hnew; have HROW := Lib.hid hrow; have HFR := Lib.hid hfr
  clear hb hb2 hgb hnb hne' hnew hrow hown' hfr
  subst hvs
  go_wp2
  go_ret
  have ho := HO.out
  refine ⟨rfl, _, ⟨heap_setCell_at HB2.out _ _, ?_, .inr ?_, _, set_at ho, ?_, rfl, HNE.out, HNI.out⟩, ?_, HNEW.out⟩
  · rw [bldCells_size]; simpa using ho
  · unfold bldCells; rw [set_set_ne (by omega)]; exact set_at (by simp at ho; omega)
  · exact ownsRow_fr HROW.out ((Fr.refl (fun k => k = b) w2).setCell (p := ⟨b, o + 1, none⟩) (fun _ => rfl) _) (fun k hk e => HNE.out (by rw [hk, e]))
  · exact HFR.out.setCell (p := ⟨b, o + 1, none⟩) (fun _ => Or.inl rfl) _


theorem strCells_mk (l : List UInt8) : Lib.strCells ⟨l.toArray⟩ = bcells l := rfl

set_option maxRecDepth 100000 in
set_option maxHeartbeats 1000000 in
theorem writeString_any (T : TypeId) (b o : Nat) (cs : Array Value) (bs : List UInt8) (g : Option Nat) (l : List UInt8) (w : World) (h : BldAt 5 T b o cs bs g w) (hl : BldIn T cs.size o) (hlen : bs.length + l.length ≤ 140737488355328) :
    Calls Try.prog 22 #[.pointer (some ⟨b, o, none⟩), .string ⟨l.toArray⟩] w fun e w' => e = .returned (.tuple #[.int .i64 l.length, .nilIface]) ∧
      ∃ v', BldAt 5 T b o (bldCells cs b o v') (bs ++ l) v'.ownBlock w' ∧ Fr (fun k => k = b ∨ some k = g) w w' ∧ (∀ k, v'.ownBlock = some k → some k = g ∨ w.heap.size ≤ k) := by
  obtain ⟨i0, hi, hz0, hz1, hz2⟩ := info_parts info_u8
  have HL := Lib.hid hl; clear hl
  go_enter Try.func22, Try.ntmps22
  go_wp2_with (go_at_call 23; refine (copyCheck_any T b o cs bs g _ h HL.out).mono ?_)
  rintro e w1 ⟨rfl, h1, hf1⟩
  obtain ⟨hb, ho, hp, v, hv, hown, hg, hne, hni⟩ := h1
  have c1 : w1.cell? ⟨b, o + 1, none⟩ = some v := cell_at hb hv
  have HB := Lib.hid hb; have HO := Lib.hid ho; have HV := Lib.hid hv; have HG := Lib.hid hg; have HN := Lib.hid hne; have HP := Lib.hid hp; have HI := Lib.hid hni
  clear hb ho hv hg hne hp hni
  go_wp2_with (at_builtin; refine wpList_append_gs rfl _ _ 30 9 rfl 5 i0 Try.underlying30 Try.underlying9 hi hz0 hz1 hz2 _ _ _ rfl hown ⟨l.toArray⟩ rfl ?c3 ?c4 ?_)
  case c3 => unfold maxLen; show bs.length + l.toArray.size ≤ _; simp; omega
  case c4 => show bs.length + l.toArray.size ≤ _; simp; omega
  intro v' w2 hown' hap
  have hb := HB.out
  have hgb := HG.out; have hnb := HN.out
  have hb2 : w2.heap[b]? = some (.cells (cs.setIfInBounds o (.pointer (some ⟨b, o, none⟩))) T (0, 0)) :=
    hap.fr.heap hb (fun e => hnb (by rw [← hgb, e]))
  have d1 : w2.cell? ⟨b, o + 1, none⟩ = some v := cell_at hb2 HV.out
  have f1 : w2.frozen? ⟨b, o + 1, none⟩ = false := unfrozen_at hb2 _
  have hlt := lt_heap hb
  have hne' : v'.ownBlock ≠ some b := by
    intro e
    rcases hap.old b e with h | h
    · exact hnb (by rw [← hgb, h])
    · omega
  have hnew : ∀ k, v'.ownBlock = some k → some k = g ∨ w.heap.size ≤ k := by
    intro k hk
    have := hf1.size
    rcases hap.old k hk with h | h
    · exact .inl (by rw [← hgb, h])
    · exact .inr (by omega)
  have hrow : w2.ownsRow 0 5 1 v' (bs ++ l).length (bcells (bs ++ l)) := by
    rw [bcells_append, List.length_append]
    exact hown'
  have hni' : bs ++ l = [] → v' = .slice none 0 0 := fun h => by
    rw [List.append_eq_nil_iff] at h
    exact hap.nil.2 ⟨HI.out h.1, by show l.toArray.size = 0; simp [h.2]⟩
  have hfr : Fr (fun k => k = b ∨ some k = g) w w2 := by
    refine (hf1.mono (fun _ _ h => Or.inl h)).trans hap.fr (fun k _ h => Or.inr ?_)
    rw [← hgb, h]
  obtain ⟨ga, gn, gc, hvs⟩ := ownsRow_slice' hrow
  have HNI := Lib.hid hni'; clear hni'
  have HB2 := Lib.hid hb2; have HNE := Lib.hid hne'; have HNEW := Lib.hid hnew; have HROW := Lib.hid hrow; have HFR := Lib.hid hfr
  clear hb hb2 hgb hnb hne' hnew hrow hown' hfr
  subst hvs
  go_wp2
  go_ret2
  have ho := HO.out
  refine ⟨by simp, _, ⟨heap_setCell_at HB2.out _ _, ?_, .inr ?_, _, set_at ho, ?_, rfl, HNE.out, HNI.out⟩, ?_, HNEW.out⟩
  · rw [bldCells_size]; simpa using ho
  · unfold bldCells; rw [set_set_ne (by omega)]; exact set_at (by simp at ho; omega)
  · exact ownsRow_fr HROW.out ((Fr.refl (fun k => k = b) w2).setCell (p := ⟨b, o + 1, none⟩) (fun _ => rfl) _) (fun k hk e => HNE.out (by rw [hk, e]))
  · exact HFR.out.setCell (p := ⟨b, o + 1, none⟩) (fun _ => Or.inl rfl) _

theorem fr_freeze {S : Nat → Prop} {a w : World} (h : Fr S a w) {p : Addr} (hp : p.block < a.heap.size → S p.block) (n : Nat) : Fr S a (w.freeze p n) := by
  refine h.trans (T := fun k => k = p.block) ?_ (fun i hi e => by subst e; exact hp hi)
  unfold World.freeze
  split
  · exact Fr.refl _ _
  · refine ⟨rfl, rfl, rfl, by simp, fun k _ hk => ?_⟩
    simp only [Array.getElem?_modify]
    rw [if_neg (fun e => hk e.symm)]

set_option maxRecDepth 100000 in
set_option maxHeartbeats 1000000 in
theorem string_some (T : TypeId) (b o : Nat) (cs : Array Value) (bs : List UInt8) (g : Option Nat) (w : World) (h : BldAt 5 T b o cs bs g w) (h0 : bs ≠ []) :
    Calls Try.prog 13 #[.pointer (some ⟨b, o, none⟩)] w fun e w' => e = .returned (.string ⟨bs.toArray⟩) ∧ Fr (fun k => some k = g) w w' := by
  obtain ⟨hb, ho, hp, v, hv, hown, hg, hne, _⟩ := h
  have hl0 : bs.length ≠ 0 := by simpa using h0
  obtain ⟨gb, cap, cur, rfl, _, hgh, hnc, hcm, hcs, htake⟩ : ∃ g cap cur, v = .slice (some ⟨g, 0, none⟩) bs.length cap ∧ 0 ≤ g ∧ w.heap[g]? = some (.cells cur 5 (0, 0)) ∧ bs.length ≤ cap ∧ cap ≤ maxLen ∧ cur.size = cap * 1 ∧ cur.toList.take (bs.length * 1) = bcells bs := by
    rcases hown.2 with ⟨_, hz⟩ | ⟨g, cap, cur, hv, r⟩
    · exact absurd hz hl0
    · exact ⟨g, cap, cur, hv, r⟩
  have c1 : w.drew.cell? ⟨b, o + 1, none⟩ = some (.slice (some ⟨gb, 0, none⟩) bs.length cap) := cell_at (w := w.drew) hb hv
  have hSD : (Builtin.unsafeSliceData_ #[30] 53 #[.slice (some ⟨gb, 0, none⟩) bs.length cap]).run Try.prog w.drew = .ok (.pointer (some ⟨gb, 0, none⟩)) w.drew :=
    Lib.run_unsafeSliceData_row _ _ _ _ _ _ (by omega)
  have hUS : (Builtin.unsafeString_ #[53, 3] 9 #[.pointer (some ⟨gb, 0, none⟩), .int .i64 bs.length]).run Try.prog w.drew = .ok (.string ⟨bs.toArray⟩) (w.drew.freeze ⟨gb, 0, none⟩ bs.length) := by
    refine Lib.run_unsafeString_row w.drew 53 3 9 5 Try.underlying53 (by kernel_rfl) gb cur.size (by have hg' : w.drew.heap[gb]? = some (.cells cur 5 (0, 0)) := hgh; simp [World.shape?, hg']) bs h0 (by omega) (by unfold maxLen at hcm; omega) ?_
    intro j x hx
    have := hown.cells (g := gb) rfl j (.int .u8 x.toNat) (by simp [bcells, bcell, hx])
    exact this
  have HG := Lib.hid hg; have HB := Lib.hid hb
  clear hb ho hp hv hown hg hne hgh hnc hcm hcs htake hl0 h0
  go_enter Try.func13, Try.ntmps13
  go_wp2
  go_still_tail 10, (by kernel_rfl)
  change wpList _ _ _ _ _ w.drew
  all_goals (go_wp2; go_ret; exact ⟨rfl, fr_freeze (Fr.refl _ w).drew (p := ⟨gb, 0, none⟩) (fun _ => HG.out) _⟩)


set_option maxRecDepth 100000 in
set_option maxHeartbeats 1000000 in
theorem string_none (T : TypeId) (b o : Nat) (cs : Array Value) (g : Option Nat) (w : World) (h : BldAt 5 T b o cs [] g w) :
    Calls Try.prog 13 #[.pointer (some ⟨b, o, none⟩)] w fun e w' => e = .returned (.string ⟨#[]⟩) ∧ Fr (fun k => some k = g) w w' := by
  obtain ⟨hb, ho, hp, v, hv, hown, hg, hne, hn⟩ := h
  have hnil := hn rfl; subst hnil
  have c1 : w.drew.cell? ⟨b, o + 1, none⟩ = some (.slice none 0 0) := cell_at (w := w.drew) hb hv
  have hSD : (Builtin.unsafeSliceData_ #[30] 53 #[.slice none 0 0]).run Try.prog w.drew = .ok (.pointer none) w.drew := rfl
  have hUS : (Builtin.unsafeString_ #[53, 3] 9 #[.pointer none, .int .i64 0]).run Try.prog w.drew = .ok (.string .empty) w.drew := Lib.run_unsafeString_none w.drew _ _ _ none
  clear hb ho hp hv hown hg hne hn
  go_enter Try.func13, Try.ntmps13
  go_wp2
  go_still_tail 10, (by kernel_rfl)
  change wpList _ _ _ _ _ w.drew
  all_goals (go_wp2; go_ret; exact ⟨rfl, (Fr.refl _ w).drew⟩)

/-- (*strings.Builder).String: the bytes. -/
theorem string_any (T : TypeId) (b o : Nat) (cs : Array Value) (bs : List UInt8) (g : Option Nat) (w : World) (h : BldAt 5 T b o cs bs g w) :
    Calls Try.prog 13 #[.pointer (some ⟨b, o, none⟩)] w fun e w' => e = .returned (.string ⟨bs.toArray⟩) ∧ Fr (fun k => some k = g) w w' := by
  by_cases h0 : bs = []
  · subst h0; exact string_none T b o cs g w h
  · exact string_some T b o cs bs g w h h0

end Go.Proofs.Ythdcpjmjdbldiaa
