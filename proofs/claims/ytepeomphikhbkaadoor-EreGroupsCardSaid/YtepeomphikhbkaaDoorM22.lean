/-
  Merged texts of this claim: BreR, BreS.
-/
import Derived.Defers
import Derived.Recover
import Derived.Test.YtepeomphikhbkaaDoorM19
import Derived.Test.YtepeomphikhbkaaDoorM21

/-
  Walk of package bre: Parse.
-/
namespace Go.Proofs.YtepeomphikhbkaaDoor
open Go.RowKit

/-- The four variables of Parse's results. -/
structure Four (w : World) (b0 b1 b2 b3 : Nat) (v0 v1 v2 v3 : Value) : Prop where
  h0 : w.heap[b0]? = some (.cells #[v0] 24 (0, 0))
  h1 : w.heap[b1]? = some (.cells #[v1] 25 (0, 0))
  h2 : w.heap[b2]? = some (.cells #[v2] 3 (0, 0))
  h3 : w.heap[b3]? = some (.cells #[v3] 26 (0, 0))
  n01 : b0 ≠ b1
  n02 : b0 ≠ b2
  n03 : b0 ≠ b3
  n12 : b1 ≠ b2
  n13 : b1 ≠ b3
  n23 : b2 ≠ b3

theorem Four.drew {w : World} {b0 b1 b2 b3 : Nat} {v0 v1 v2 v3 : Value} (h : Four w b0 b1 b2 b3 v0 v1 v2 v3) : Four w.drew b0 b1 b2 b3 v0 v1 v2 v3 :=
  ⟨h.h0, h.h1, h.h2, h.h3, h.n01, h.n02, h.n03, h.n12, h.n13, h.n23⟩
theorem four_set {w : World} {b0 b1 b2 b3 : Nat} {v0 v1 v2 v3 : Value} (h : Four w b0 b1 b2 b3 v0 v1 v2 v3) (u0 u1 u2 u3 : Value) :
    Four ((((w.setCell ⟨b0, 0, none⟩ u0).setCell ⟨b1, 0, none⟩ u1).setCell ⟨b2, 0, none⟩ u2).setCell ⟨b3, 0, none⟩ u3) b0 b1 b2 b3 u0 u1 u2 u3 ∧
      Fr (fun k => k = b0 ∨ k = b1 ∨ k = b2 ∨ k = b3) w ((((w.setCell ⟨b0, 0, none⟩ u0).setCell ⟨b1, 0, none⟩ u1).setCell ⟨b2, 0, none⟩ u2).setCell ⟨b3, 0, none⟩ u3) := by
  obtain ⟨h0, h1, h2, h3, n01, n02, n03, n12, n13, n23⟩ := h
  have k0 := heap_setCell_ne (p := ⟨b3, 0, none⟩) (heap_setCell_ne (p := ⟨b2, 0, none⟩) (heap_setCell_ne (p := ⟨b1, 0, none⟩) (heap_setCell_at h0 0 u0) n01 u1) n02 u2) n03 u3
  have k1 := heap_setCell_ne (p := ⟨b3, 0, none⟩) (heap_setCell_ne (p := ⟨b2, 0, none⟩) (heap_setCell_at (heap_setCell_ne (p := ⟨b0, 0, none⟩) h1 (Ne.symm n01) u0) 0 u1) n12 u2) n13 u3
  have k2 := heap_setCell_ne (p := ⟨b3, 0, none⟩) (heap_setCell_at (heap_setCell_ne (p := ⟨b1, 0, none⟩) (heap_setCell_ne (p := ⟨b0, 0, none⟩) h2 (Ne.symm n02) u0) (Ne.symm n12) u1) 0 u2) n23 u3
  have k3 := heap_setCell_at (heap_setCell_ne (p := ⟨b2, 0, none⟩) (heap_setCell_ne (p := ⟨b1, 0, none⟩) (heap_setCell_ne (p := ⟨b0, 0, none⟩) h3 (Ne.symm n03) u0) (Ne.symm n13) u1) (Ne.symm n23) u2) 0 u3
  refine ⟨⟨k0, k1, k2, k3, n01, n02, n03, n12, n13, n23⟩, ?_⟩
  exact ((((Fr.refl (fun k => k = b0 ∨ k = b1 ∨ k = b2 ∨ k = b3) w).setCell (p := ⟨b0, 0, none⟩) (fun _ => .inl rfl) u0).setCell (p := ⟨b1, 0, none⟩) (fun _ => .inr (.inl rfl)) u1).setCell (p := ⟨b2, 0, none⟩) (fun _ => .inr (.inr (.inl rfl))) u2).setCell (p := ⟨b3, 0, none⟩) (fun _ => .inr (.inr (.inr rfl))) u3
abbrev CQ (w : World) (b : Nat) (v0 v1 : Value) : Prop := w.cell? ⟨b, 0, none⟩ = some v0 ∧ w.cell? ⟨b, 1, none⟩ = some v1
theorem CQ.drew {w : World} {b : Nat} {v0 v1 : Value} (h : CQ w b v0 v1) : CQ w.drew b v0 v1 := h
theorem CQ.set {w : World} {b c j : Nat} {v0 v1 : Value} (h : CQ w b v0 v1) (hn : c ≠ b) (u : Value) : CQ (w.setCell ⟨c, j, none⟩ u) b v0 v1 := ⟨cell_ne h.1 hn, cell_ne h.2 hn⟩

theorem four_new (w : World) (v0 v1 v2 v3 : Value) : Four ((((w.alloc (.cells #[v0] 24)).alloc (.cells #[v1] 25)).alloc (.cells #[v2] 3)).alloc (.cells #[v3] 26)) w.heap.size (w.heap.size + 1) (w.heap.size + 1 + 1) (w.heap.size + 1 + 1 + 1) v0 v1 v2 v3 :=
  ⟨heap_alloc_lt _ (heap_alloc_lt _ (heap_alloc_lt _ (newAt0 w _))), heap_alloc_lt _ (heap_alloc_lt _ (heap_alloc_new' _ _ _ (by simp))), heap_alloc_lt _ (heap_alloc_new' _ _ _ (by simp)), heap_alloc_new' _ _ _ (by simp), by omega, by omega, by omega, by omega, by omega, by omega⟩
theorem four_fr {X : Nat → Prop} {w w' : World} {b0 b1 b2 b3 : Nat} {v0 v1 v2 v3 : Value} (h : Four w b0 b1 b2 b3 v0 v1 v2 v3) (f : Fr X w w') (hX : ∀ k, (k = b0 ∨ k = b1 ∨ k = b2 ∨ k = b3) → ¬ X k) : Four w' b0 b1 b2 b3 v0 v1 v2 v3 :=
  ⟨f.heap h.h0 (hX _ (.inl rfl)), f.heap h.h1 (hX _ (.inr (.inl rfl))), f.heap h.h2 (hX _ (.inr (.inr (.inl rfl)))), f.heap h.h3 (hX _ (.inr (.inr (.inr rfl)))), h.n01, h.n02, h.n03, h.n12, h.n13, h.n23⟩
abbrev PQ (w : World) (b c : Nat) (v0 v4 : Value) : Prop := w.cell? ⟨b, 0, none⟩ = some v0 ∧ w.cell? ⟨c, 4, none⟩ = some v4
theorem PQ.drew {w : World} {b c : Nat} {v0 v4 : Value} (h : PQ w b c v0 v4) : PQ w.drew b c v0 v4 := h
theorem PQ.set {w : World} {b c k j : Nat} {v0 v4 : Value} (h : PQ w b c v0 v4) (hb : k ≠ b) (hc : k ≠ c) (u : Value) : PQ (w.setCell ⟨k, j, none⟩ u) b c v0 v4 := ⟨cell_ne h.1 hb, cell_ne h.2 hc⟩
theorem PQ.same {w : World} {b c : Nat} {v0 v4 : Value} (h : PQ w b c v0 v4) (hc : b ≠ c) : PQ (w.setCell ⟨b, 0, none⟩ v0) b c v0 v4 := ⟨World.cell?_setCell_same' _ _ _ (by rw [h.1]; rfl), cell_ne h.2 hc⟩
def BreAns (R : Out Nd) (w : World) (e : Ending) (w' : World) : Prop := Fr nob w w' ∧ match R with
  | .inl (z, p) => e = .returned (.tuple #[.nilIface, .slice none 0 0, .int .i64 (p : Nat), .int .i64 z])
  | .inr (t, s) => ∃ i y mv, e = .returned (.tuple #[.iface i y, mv, .int .i64 0, .int .i64 0]) ∧ RN nob w' t (.iface i y) ∧ OwM w' s.marks mv

end Go.Proofs.YtepeomphikhbkaaDoor

/-
  Chapter 4: the fixed fact; Bytes.
-/
namespace Go.Proofs.YtepeomphikhbkaaDoor
open Go.RowKit

theorem awake4_a : ∃ s, parseS prg [97, 42, 92, 40, 98, 92, 41, 92, 49] = .inr (.cat [.rep (.one (spn 97 97)) 0 (-1), .group 1 (.one (spn 98 98)), .back 1], s) ∧ s.marks = [] := ⟨⟨9, 1, [1], []⟩, by kernel_rfl, rfl⟩
theorem awake4_b : ∃ s, parseS prg [42, 97] = .inr (.cat [.one (spn 42 42), .one (spn 97 97)], s) ∧ s.marks = [] := ⟨⟨2, 0, [], []⟩, by kernel_rfl, rfl⟩

/-- Bytes, each as a node. -/
def ones (l : List UInt8) : List Nd := l.map fun b => .one (spn b.toNat b.toNat)
theorem ones_take {l : List UInt8} {k : Nat} (h : k < l.length) : ones (l.take (k + 1)) = ones (l.take k) ++ [.one (spn l[k].toNat l[k].toNat)] := by
  unfold ones; rw [List.take_succ_eq_append_getElem h, List.map_append]; rfl
theorem ones_length (l : List UInt8) : (ones l).length = l.length := by simp [ones]
theorem ones_size (l : List UInt8) : Nd.sizes (ones l) = l.length := by
  induction l with
  | nil => rfl
  | cons a r ih => show 1 + Nd.sizes (ones r) = _; rw [ih, List.length_cons]; omega
theorem telN_ones (ts : List (UInt8 × List UInt8)) : telN ts = ones (ts.map (·.1)) := by unfold telN ones; rw [List.map_map]; rfl

set_option maxRecDepth 100000 in
set_option maxHeartbeats 1000000 in
theorem bytes_any (n : Nd) (i : TypeId) (y : Value) (l : List UInt8) (u : Value) (w : World) (hl : l.length ≤ 100000) (hz : n.size ≤ 3000000) (hn : RN nob w n (.iface i y)) (hu : SB w l u) :
    Calls Tryd.prog 12 #[.iface i y, u] w fun e w' => ∃ r : Bool, e = .returned (.bool r) ∧ (r = true ↔ n.norm = (joined (ones l)).norm) ∧ Fr nob w w' := by
  obtain ⟨ua, uc, hus⟩ := hu.shape
  have HU := Lib.hid hu; have HN := Lib.hid hn; clear hu hn
  subst hus
  go_enter Tryd.func12, Tryd.ntmps12
  go_wp2_with fail
  go_loopw [5, 10] (fun v5 j wr => ∃ k : Nat, j = .int .i64 k ∧ k ≤ l.length ∧ Pts nob nob w wr (ones (l.take k)) v5 ∧ Fr nob w wr) (fun _ j _ => l.length - (intOf j).toNat)
  case atStart => exact ⟨0, rfl, Nat.zero_le _, Pts.nil _ _ _ _, Fr.refl _ _⟩
  case round =>
    obtain ⟨k, rfl, hk, hp, fr⟩ := hrel
    obtain ⟨av, cv, hv⟩ := hp.shape
    rw [ones_length, List.length_take, Nat.min_eq_left hk] at hv
    subst hv
    obtain ⟨v5, hv5⟩ : ∃ v5, v5 = Value.slice av k cv := ⟨_, rfl⟩
    have HV5 := Lib.hid hv5
    have HP := Lib.hid (show Pts nob nob w wr (ones (l.take k)) v5 from hv5 ▸ hp); have FR := Lib.hid fr
    by_cases hlt : k < l.length
    · obtain ⟨q, off, cap, he, hc⟩ := HU.out.get fr hlt
      injection he with e1 e2 e3
      subst e1; subst e3
      clear hp fr hv5
      obtain ⟨x, hx⟩ : ∃ x, l[k] = x := ⟨_, rfl⟩
      have HT := Lib.hid (ones_take hlt)
      rw [hx] at hc HT
      have ho := of_one x wr 5
      obtain ⟨c, hcc⟩ : ∃ c, spn x.toNat x.toNat = c := ⟨_, rfl⟩
      rw [hcc] at ho HT
      have HO := Lib.hid ho
      clear ho hcc hx e2
      go_wp2_with fail
      refine HO.out.mono ?_
      rintro e w2 ⟨rfl, f2⟩
      have F2 := Lib.hid (((Fr.refl nob wr).alloc _).trans' f2); clear f2
      have HP2 := Lib.hid (HP.out.on F2.out)
      have HWS := Lib.hid (Nat.le_trans FR.out.size F2.out.size)
      have hpl : (ones (l.take k)).length ≤ 2000000 := by rw [ones_length, List.length_take]; omega
      go_wp2_with (at_builtin; refine wpList_append_pts (W := w) (S := nob) (O := nob) rfl (.tmp 14) (.tmp 20) rfl (ones (l.take k)) (.one c) v5 _ _ _ (by rw [HV5.out]; rfl) HP2.out (fun _ x => x.elim) (fun _ x => x.elim) HWS.out rfl (by rfl) (by rw [RN]; rfl) hpl ?_; intro va wa hpa offa; rw [← HT.out] at hpa; obtain ⟨aa, ca, hea⟩ := hpa.shape; rw [ones_length, List.length_take, Nat.min_eq_left (by omega)] at hea; subst hea; have HPA := Lib.hid hpa; have HOA := Lib.hid offa; clear hpa offa)
      go_roundw
      case rel => exact ⟨k + 1, by go_num, by omega, HPA.out, (((Stp.refl nob w).trans (Stp.of (FR.out.trans' F2.out))).off HOA.out).fr⟩
      case measure => simp [intOf]; omega
    · obtain rfl : k = l.length := by omega
      have hp' := hp
      rw [List.take_of_length_le (Nat.le_refl _)] at hp'
      have hsn : SN nob wr (ones l) (.slice av l.length cv) := (hp'.sn (fun _ x => x.elim)).weak
      have HJ := Lib.hid (join_any (ones l) _ wr (by rw [ones_size]; omega) hsn)
      have hjz : (joined (ones l)).size ≤ 3000000 := by have := joined_le (ones l); rw [ones_size] at this; omega
      clear hp hp' hsn fr hv5
      go_wp2_with fail
      refine HJ.out.mono ?_
      rintro e w2 ⟨r, rfl, hr, f2⟩
      obtain ⟨ir, yr, rfl⟩ := hr.some (by
        have : (joined (ones l)).brn := joined_brn (fun t ht => by unfold ones at ht; obtain ⟨b, _, rfl⟩ := List.mem_map.1 ht; rfl)
        exact brn_nil this)
      have HS := Lib.hid (same_any 3000000 n (joined (ones l)) (.iface i y) (.iface ir yr) w2 hz hz hjz (HN.out.on (FR.out.trans' f2)) hr)
      have F2 := Lib.hid (FR.out.trans' f2)
      clear hr f2
      go_wp2_with fail
      refine HS.out.mono ?_
      rintro e w3 ⟨r, rfl, hr, f3⟩
      have HR := Lib.hid hr; have F3 := Lib.hid (F2.out.trans' f3); clear hr f3
      go_wp2
      go_ret
      exact ⟨r, rfl, HR.out, F3.out⟩
end Go.Proofs.YtepeomphikhbkaaDoor
