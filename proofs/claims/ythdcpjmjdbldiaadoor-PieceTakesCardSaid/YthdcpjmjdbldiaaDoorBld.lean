/-
  strings.Builder's methods at a builder that lies anywhere in a block: what each does.
-/
import Derived.Test.YthdcpjmjdbldiaaDoorBase
import Derived.Test.YthdcpjmjdbldiaaDoorChecked
import Derived.WalkKit
import Derived.Laws.Externs
import Derived.Laws.IdiomCopy
import Derived.Shelf.Lays
import Derived.Shelf.RegionOpenPlain
import Derived.Lib.UnsafeStr
import Derived.StillTailTactics
namespace Go.Proofs.YthdcpjmjdbldiaaDoor
open Go.RowKit

def bldT : TypeId := 42
def u8T : TypeId := 5

theorem info_bld : (Tryd.prog.info? 42).map (·.size) = some 2 := by kernel_rfl
theorem info_u8 : (Tryd.prog.info? 5).map (fun i => (i.zero, i.size, i.bytes)) = some (some (.int .u8 0), 1, 1) := by kernel_rfl

/-- Where a type's lay-out has a Builder at a place. -/
def BldIn (T : TypeId) (n o : Nat) : Prop := liesAt Tryd.prog Tryd.prog.depth T (n / Tryd.prog.cellsOf T) o 42 1 = true

set_option maxRecDepth 100000 in
set_option maxHeartbeats 1000000 in
theorem copyCheck_any (T : TypeId) (b o : Nat) (cs : Array Value) (bs : List UInt8) (g : Option Nat) (w : World) (h : BldAt 5 T b o cs bs g w) (hl : BldIn T cs.size o) :
    Calls Tryd.prog 28 #[.pointer (some ⟨b, o, none⟩)] w fun e w' => e = .returned (.tuple #[]) ∧
      BldAt 5 T b o (cs.setIfInBounds o (.pointer (some ⟨b, o, none⟩))) bs g w' ∧ Fr (fun k => k = b) w w' := by
  obtain ⟨hb, ho, hp, v, hv, hown, hg, hne, hni⟩ := h
  obtain ⟨j, hj, hjs⟩ := Option.map_eq_some_iff.1 info_bld
  have hsh : w.shape? b = some (T, cs.size) := by simp [World.shape?, hb]
  have hfz : w.frozen? ⟨b, o, none⟩ = false := unfrozen_at hb o
  rcases hp with hp | hp
  · have h0 := cell_at hb hp
    have HB := Lib.hid hb; have HO := Lib.hid ho; have HV := Lib.hid hv; have HW := Lib.hid hown; have HG := Lib.hid hg; have HN := Lib.hid hne; have HP := Lib.hid hp; have HL := Lib.hid hl; have HJ := Lib.hid hjs; have HS := Lib.hid hsh; have HI := Lib.hid hni
    clear hb ho hv hown hg hne hp hl hjs hsh hni
    go_enter Tryd.func28, Tryd.ntmps28
    go_wp2
    rw [Lib.run_to_unsafe w ⟨b, o, none⟩ Tryd.underlying39 Tryd.underlying70 hj (by rw [HJ.out]; decide) HS.out (Nat.lt_of_succ_lt HO.out)]
    simp only [Result.andThen]
    rw [Oper.upon_value]
    go_wp2
    rw [run_callFunc_extern Tryd.func42 (by kernel_rfl) (by kernel_rfl) (by kernel_rfl) (e := Extern.AbiNoEscape.same) (by kernel_rfl)]
    rw [Lib.run_noEscape]
    simp only [Result.andThen]
    rw [Oper.upon_value]
    go_wp2
    rw [Lib.run_from_unsafe w ⟨b, o, none⟩ Tryd.underlying70 Tryd.underlying39 hj HS.out HL.out]
    simp only [Result.andThen]
    rw [Oper.upon_value]
    go_wp2
    go_end0
    have ho := HO.out
    refine ⟨rfl, ⟨heap_setCell_at HB.out o _, by simpa using ho, .inr (by rw [Array.getElem?_setIfInBounds, if_pos rfl, if_pos (by omega)]), v, ?_, ?_, HG.out, HN.out, HI.out⟩, (Fr.refl (fun k => k = b) w).setCell (p := ⟨b, o, none⟩) (fun _ => rfl) _⟩
    · rw [Array.getElem?_setIfInBounds, if_neg (by omega)]; exact HV.out
    · have hn := HN.out
      exact ownsRow_fr HW.out ((Fr.refl (fun k => k = b) w).setCell (p := ⟨b, o, none⟩) (fun _ => rfl) _) (fun k hk e => hn (by rw [← HG.out, hk, e]))
  · have h0 := cell_at hb hp
    have HB := Lib.hid hb; have HO := Lib.hid ho; have HV := Lib.hid hv; have HW := Lib.hid hown; have HG := Lib.hid hg; have HN := Lib.hid hne; have HP := Lib.hid hp; have HL := Lib.hid hl; have HJ := Lib.hid hjs; have HS := Lib.hid hsh; have HI := Lib.hid hni
    clear hb ho hv hown hg hne hp hl hjs hsh hni
    go_enter Tryd.func28, Tryd.ntmps28
    go_wp2
    rw [Lib.run_neq_ptr_same w _ Tryd.underlying39 hj]
    go_wp2
    go_end0
    have hcs : cs.setIfInBounds o (.pointer (some ⟨b, o, none⟩)) = cs := by
      apply Array.ext_getElem?
      intro i
      rw [Array.getElem?_setIfInBounds]
      have ho := HO.out
      split
      · subst_vars; rw [if_pos (by omega)]; exact HP.out.symm
      · rfl
    rw [hcs]
    exact ⟨rfl, ⟨HB.out, HO.out, .inr HP.out, v, HV.out, HW.out, HG.out, HN.out, HI.out⟩, Fr.refl _ _⟩


theorem set_set_ne {cs : Array Value} {o i : Nat} {p : Value} (h : i ≠ o) : (cs.setIfInBounds o p)[i]? = cs[i]? := by
  rw [Array.getElem?_setIfInBounds, if_neg (fun e => h e.symm)]

theorem set_at {cs : Array Value} {o : Nat} {p : Value} (h : o < cs.size) : (cs.setIfInBounds o p)[o]? = some p := by
  rw [Array.getElem?_setIfInBounds, if_pos rfl, if_pos h]

/-- What a Builder's cells are behind a write. -/
def bldCells (cs : Array Value) (b o : Nat) (v : Value) : Array Value := (cs.setIfInBounds o (.pointer (some ⟨b, o, none⟩))).setIfInBounds (o + 1) v

theorem bldCells_size (cs : Array Value) (b o : Nat) (v : Value) : (bldCells cs b o v).size = cs.size := by simp [bldCells]

theorem bldCells_ne (cs : Array Value) (b o : Nat) (v : Value) {i : Nat} (h : i ≠ o) (h' : i ≠ o + 1) : (bldCells cs b o v)[i]? = cs[i]? := by
  unfold bldCells; rw [set_set_ne h', set_set_ne h]

theorem fr_freeze {S : Nat → Prop} {a w : World} (h : Fr S a w) {p : Addr} (hp : p.block < a.heap.size → S p.block) (n : Nat) : Fr S a (w.freeze p n) := by
  refine h.trans (T := fun k => k = p.block) ?_ (fun i hi e => by subst e; exact hp hi)
  unfold World.freeze
  split
  · exact Fr.refl _ _
  · refine ⟨rfl, rfl, rfl, by simp, fun k _ hk => ?_⟩
    simp only [Array.getElem?_modify]
    rw [if_neg (fun e => hk e.symm)]

set_option maxRecDepth 100000 in
set_option maxHeartbeats 1000000 in
theorem string_some (T : TypeId) (b o : Nat) (cs : Array Value) (bs : List UInt8) (g : Option Nat) (w : World) (h : BldAt 5 T b o cs bs g w) (h0 : bs ≠ []) :
    Calls Tryd.prog 21 #[.pointer (some ⟨b, o, none⟩)] w fun e w' => e = .returned (.string ⟨bs.toArray⟩) ∧ Fr (fun k => some k = g) w w' := by
  obtain ⟨hb, ho, hp, v, hv, hown, hg, hne, _⟩ := h
  have hl0 : bs.length ≠ 0 := by simpa using h0
  obtain ⟨gb, cap, cur, rfl, _, hgh, hnc, hcm, hcs, htake⟩ : ∃ g cap cur, v = .slice (some ⟨g, 0, none⟩) bs.length cap ∧ 0 ≤ g ∧ w.heap[g]? = some (.cells cur 5 (0, 0)) ∧ bs.length ≤ cap ∧ cap ≤ maxLen ∧ cur.size = cap * 1 ∧ cur.toList.take (bs.length * 1) = bcells bs := by
    rcases hown.2 with ⟨_, hz⟩ | ⟨g, cap, cur, hv, r⟩
    · exact absurd hz hl0
    · exact ⟨g, cap, cur, hv, r⟩
  have c1 : w.drew.cell? ⟨b, o + 1, none⟩ = some (.slice (some ⟨gb, 0, none⟩) bs.length cap) := cell_at (w := w.drew) hb hv
  have hSD : (Builtin.unsafeSliceData_ #[40] 55 #[.slice (some ⟨gb, 0, none⟩) bs.length cap]).run Tryd.prog w.drew = .ok (.pointer (some ⟨gb, 0, none⟩)) w.drew :=
    Lib.run_unsafeSliceData_row _ _ _ _ _ _ (by omega)
  have hUS : (Builtin.unsafeString_ #[55, 3] 9 #[.pointer (some ⟨gb, 0, none⟩), .int .i64 bs.length]).run Tryd.prog w.drew = .ok (.string ⟨bs.toArray⟩) (w.drew.freeze ⟨gb, 0, none⟩ bs.length) := by
    refine Lib.run_unsafeString_row w.drew 55 3 9 5 Tryd.underlying55 (by kernel_rfl) gb cur.size (by have hg' : w.drew.heap[gb]? = some (.cells cur 5 (0, 0)) := hgh; simp [World.shape?, hg']) bs h0 (by omega) (by unfold maxLen at hcm; omega) ?_
    intro j x hx
    have := hown.cells (g := gb) rfl j (.int .u8 x.toNat) (by simp [bcells, bcell, hx])
    exact this
  have HG := Lib.hid hg; have HB := Lib.hid hb
  clear hb ho hp hv hown hg hne hgh hnc hcm hcs htake hl0 h0
  go_enter Tryd.func21, Tryd.ntmps21
  go_wp2
  go_still_tail 10, (by kernel_rfl)
  change wpList _ _ _ _ _ w.drew
  all_goals (go_wp2; go_ret; exact ⟨rfl, fr_freeze (Fr.refl _ w).drew (p := ⟨gb, 0, none⟩) (fun _ => HG.out) _⟩)


set_option maxRecDepth 100000 in
set_option maxHeartbeats 1000000 in
theorem string_none (T : TypeId) (b o : Nat) (cs : Array Value) (g : Option Nat) (w : World) (h : BldAt 5 T b o cs [] g w) :
    Calls Tryd.prog 21 #[.pointer (some ⟨b, o, none⟩)] w fun e w' => e = .returned (.string ⟨#[]⟩) ∧ Fr (fun k => some k = g) w w' := by
  obtain ⟨hb, ho, hp, v, hv, hown, hg, hne, hn⟩ := h
  have hnil := hn rfl; subst hnil
  have c1 : w.drew.cell? ⟨b, o + 1, none⟩ = some (.slice none 0 0) := cell_at (w := w.drew) hb hv
  have hSD : (Builtin.unsafeSliceData_ #[40] 55 #[.slice none 0 0]).run Tryd.prog w.drew = .ok (.pointer none) w.drew := rfl
  have hUS : (Builtin.unsafeString_ #[55, 3] 9 #[.pointer none, .int .i64 0]).run Tryd.prog w.drew = .ok (.string .empty) w.drew := Lib.run_unsafeString_none w.drew _ _ _ none
  clear hb ho hp hv hown hg hne hn
  go_enter Tryd.func21, Tryd.ntmps21
  go_wp2
  go_still_tail 10, (by kernel_rfl)
  change wpList _ _ _ _ _ w.drew
  all_goals (go_wp2; go_ret; exact ⟨rfl, (Fr.refl _ w).drew⟩)

/-- (*strings.Builder).String: the bytes. -/
theorem string_any (T : TypeId) (b o : Nat) (cs : Array Value) (bs : List UInt8) (g : Option Nat) (w : World) (h : BldAt 5 T b o cs bs g w) :
    Calls Tryd.prog 21 #[.pointer (some ⟨b, o, none⟩)] w fun e w' => e = .returned (.string ⟨bs.toArray⟩) ∧ Fr (fun k => some k = g) w w' := by
  by_cases h0 : bs = []
  · subst h0; exact string_none T b o cs g w h
  · exact string_some T b o cs bs g w h h0

/-- A strings.Builder in a block of its own. -/
def Bb (b : Nat) (out : List UInt8) (g : Option Nat) (w : World) : Prop := ∃ cs, BldAt 5 42 b 0 cs out g w ∧ cs.size = 2

theorem Bb.new (w : World) : Bb w.heap.size [] none (w.alloc (.cells #[.pointer none, .slice none 0 0] 42)) :=
  ⟨_, ⟨heap_alloc_new w _, by simp, .inl rfl, .slice none 0 0, rfl, World.ownsRow_nil _ _ _ _, rfl, by simp, fun _ => rfl⟩, rfl⟩
theorem bldIn_own {n : Nat} (h : n = 2) : BldIn 42 n 0 := by subst h; unfold BldIn; kernel_rfl

theorem bb_string (b : Nat) (out : List UInt8) (g : Option Nat) (w : World) (h : Bb b out g w) :
    Calls Tryd.prog 21 #[.pointer (some ⟨b, 0, none⟩)] w fun e w' => e = .returned (.string ⟨out.toArray⟩) ∧ Fr (fun k => some k = g) w w' := by
  obtain ⟨cs, hb, hs⟩ := h
  exact string_any _ b 0 cs out g w hb

theorem keep_new {b : Nat} {g g' : Option Nat} {w wr w1 : World} (hb : w.heap.size ≤ b) (hf : Fr nob w wr) (hg : ∀ j, g = some j → w.heap.size ≤ j) (hf1 : Fr (fun k => k = b ∨ some k = g) wr w1) : Fr nob w w1 :=
  hf.trans hf1 (fun i hi h => by rcases h with h | h; omega; have := hg i h.symm; omega)
theorem new_blk {g g' : Option Nat} {w wr : World} (hf : Fr nob w wr) (hg : ∀ j, g = some j → w.heap.size ≤ j) (hg1 : ∀ k, g' = some k → some k = g ∨ wr.heap.size ≤ k) : ∀ j, g' = some j → w.heap.size ≤ j := fun j hj => by
  have := hf.size
  rcases hg1 j hj with h | h
  · exact hg j h.symm
  · omega

end Go.Proofs.YthdcpjmjdbldiaaDoor
