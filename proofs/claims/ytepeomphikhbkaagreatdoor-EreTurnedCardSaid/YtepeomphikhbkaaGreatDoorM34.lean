/-
  Merged texts of this claim: RefI.
-/
import Derived.Deep.DrawnRows
import Derived.Test.YtepeomphikhbkaaGreatDoorM33

/-
  Walks: list, Ref: the program's node as the document's.
-/
namespace Go.Proofs.YtepeomphikhbkaaGreatDoor
open Go.RowKit
attribute [local go_sem ↓] Go.wp_at_zero Go.wp_at_succ

/-- What Ref answers. -/
def RefIs (n : Nd) (w : World) (e : Ending) (w' : World) : Prop := ∃ cs, e = .returned (.agg cs.toArray) ∧ RT (Old w) w' n.rf cs ∧ Fr nob w w'

theorem new_of' {w wr w2 : World} {g : Option Nat} (h2 : w.heap.size ≤ wr.heap.size) (hg : ∀ k, g = some k → k < wr.heap.size) :
    ∀ k, k < w2.heap.size → LS2 (Old w) g k → Old wr k := by
  intro k _ hk
  unfold Old
  rcases hk with hk | hk
  · unfold Old at hk; omega
  · exact hg k hk

set_option maxRecDepth 100000 in
set_option maxHeartbeats 1000000 in
theorem list_any (l : List Nd) (u : Value) (w : World) (hl : Nd.sizes l ≤ 3000000) (hc : ∀ n ∈ l, ∀ (v : Value) (w : World), RN nob w n v → Calls Tryz.prog 18 #[v] w (RefIs n w)) (h : SN nob w l u) :
    Calls Tryz.prog 31 #[u] w fun e w' => ∃ v, e = .returned v ∧ ST (Old w) w' (Nd.rfs l) v ∧ Fr nob w w' := by
  obtain ⟨a, c, rfl⟩ := h.shape
  have H := Lib.hid h; have HC := Lib.hid hc; clear h hc
  have hll := Nd.length_le l
  go_enter Tryz.func31, Tryz.ntmps31
  go_wp2_with fail
  go_loopw [3, 8] (fun s i wr => ∃ (k : Nat) (g : Option Nat), i = .int .i64 k ∧ k ≤ l.length ∧ OwnT (Old w) wr (Nd.rfs (l.take k)) s g ∧ Fr nob w wr ∧ ∀ j, g = some j → w.heap.size ≤ j) (fun _ i _ => l.length - (intOf i).toNat)
  case atStart => exact ⟨0, none, rfl, Nat.zero_le _, OwnT.nil _ _, Fr.refl _ _, fun _ h => by cases h⟩
  case round =>
    obtain ⟨k, g, rfl, hk, ho, fr, hg⟩ := hrel
    obtain ⟨av, cv, rfl⟩ := ho.shape
    have HO := Lib.hid ho; have FR := Lib.hid fr; have HG := Lib.hid hg
    have hlw := fr.size
    clear ho fr hg
    by_cases hlt : k < l.length
    · obtain ⟨q, off, cap, x, he, hx, hcx⟩ := (H.out.on FR.out).get hlt
      injection he with e1 e2 e3
      subst e1; subst e3
      have hnt := Lib.hid (Nd.rfs_take hlt)
      have hnl : (Nd.rfs (l.take k)).length + [l[k].rf].length ≤ 3000000 := by rw [Nd.rfs_length, List.length_take]; simp; omega
      have hcc := Lib.hid (HC.out l[k] (List.getElem_mem hlt))
      have HX := Lib.hid hx
      obtain ⟨n, hn⟩ : ∃ n, l[k] = n := ⟨_, rfl⟩
      rw [hn] at hnt hcc HX hnl
      clear hx e2 hn
      go_wp2_with fail
      refine (hcc.out x _ HX.out).mono ?_
      rintro e w2 ⟨cs, rfl, hr, f2⟩
      obtain ⟨k', s', ps', mn', mx', nu', a', c', hx0, rfl, hxx⟩ := hr.open'
      have hl2 := f2.size
      have HR := Lib.hid hr; have F2 := Lib.hid f2; clear hr f2 hx0 hxx
      have hS := Lib.hid (fun X => fun k (hk : Old w k) => (by unfold Old at hk; simp only [World.size_alloc]; omega : k < (w2.alloc X).heap.size))
      have HST := Lib.hid (ST.one (S := LS2 (Old w) g) (RT.keep (Fr.refl nob w2) (fun _ _ x => x.elim) (new_of' hlw HO.out.lt) _ _ HR.out) (fun k hk => by
        rcases hk with hk | hk
        · unfold Old at hk; omega
        · have := HO.out.lt k hk; omega) 34 rfl)
      go_wp2_with (at_builtin; refine wpList_append_t (S := Old w) rfl (.tmp 12) (.tmp 15) rfl (Nd.rfs (l.take k)) [n.rf] _ _ g (by rfl) (HO.out.on (F2.out.alloc _)) (by rfl) HST.out (hS.out _) hnl ?_; intro v' w3 g' ho3 hf3 hg3; obtain ⟨av', cv', he3⟩ := ho3.shape; simp only [List.length_append, List.length_singleton] at he3; subst he3; have HO3 := Lib.hid ho3; have HF3 := Lib.hid hf3; have HG3 := Lib.hid hg3; clear ho3 hf3 hg3)
      go_roundw
      case rel => exact ⟨k + 1, g', by go_num, by omega, by rw [hnt.out]; exact HO3.out, ((FR.out.trans' F2.out).alloc _).trans HF3.out (fun i hi x => by have := HG.out i x; omega), fun j hj => by
            rcases HG3.out j hj with h | h
            · exact HG.out j h
            · simp only [World.size_alloc] at h; omega⟩
      case measure => simp [intOf]; omega
    · obtain rfl : k = l.length := by omega
      have hT := Lib.hid (List.take_of_length_le (l := l) (Nat.le_refl _))
      have hO := HO.out
      rw [hT.out] at hO
      have HST := Lib.hid hO.st
      clear hO
      go_wp2
      go_ret
      exact ⟨_, rfl, by have := HST.out; rw [hT.out]; exact this, FR.out⟩

/-- Nine cells stored anew. -/
abbrev setNine (w : World) (b : Nat) (v0 v1 v2 v3 v4 v5 v6 v7 v8 : Value) : World :=
  ((((((((w.setCell ⟨b, 0, none⟩ v0).setCell ⟨b, 1, none⟩ v1).setCell ⟨b, 2, none⟩ v2).setCell ⟨b, 3, none⟩ v3).setCell ⟨b, 4, none⟩ v4).setCell ⟨b, 5, none⟩ v5).setCell ⟨b, 6, none⟩ v6).setCell ⟨b, 7, none⟩ v7).setCell ⟨b, 8, none⟩ v8
theorem setNine_heap {w : World} {b : Nat} {a0 a1 a2 a3 a4 a5 a6 a7 a8 : Value} {T : TypeId} {fr : Nat × Nat} (h : w.heap[b]? = some (.cells #[a0, a1, a2, a3, a4, a5, a6, a7, a8] T fr)) (v0 v1 v2 v3 v4 v5 v6 v7 v8 : Value) :
    (setNine w b v0 v1 v2 v3 v4 v5 v6 v7 v8).heap[b]? = some (.cells #[v0, v1, v2, v3, v4, v5, v6, v7, v8] T fr) := by
  have h0 : (w.setCell ⟨b, 0, none⟩ v0).heap[b]? = some (.cells #[v0, a1, a2, a3, a4, a5, a6, a7, a8] T fr) := heap_setCell_at h 0 v0
  have h1 : ((w.setCell ⟨b, 0, none⟩ v0).setCell ⟨b, 1, none⟩ v1).heap[b]? = some (.cells #[v0, v1, a2, a3, a4, a5, a6, a7, a8] T fr) := heap_setCell_at h0 1 v1
  have h2 : (((w.setCell ⟨b, 0, none⟩ v0).setCell ⟨b, 1, none⟩ v1).setCell ⟨b, 2, none⟩ v2).heap[b]? = some (.cells #[v0, v1, v2, a3, a4, a5, a6, a7, a8] T fr) := heap_setCell_at h1 2 v2
  have h3 : ((((w.setCell ⟨b, 0, none⟩ v0).setCell ⟨b, 1, none⟩ v1).setCell ⟨b, 2, none⟩ v2).setCell ⟨b, 3, none⟩ v3).heap[b]? = some (.cells #[v0, v1, v2, v3, a4, a5, a6, a7, a8] T fr) := heap_setCell_at h2 3 v3
  have h4 : (((((w.setCell ⟨b, 0, none⟩ v0).setCell ⟨b, 1, none⟩ v1).setCell ⟨b, 2, none⟩ v2).setCell ⟨b, 3, none⟩ v3).setCell ⟨b, 4, none⟩ v4).heap[b]? = some (.cells #[v0, v1, v2, v3, v4, a5, a6, a7, a8] T fr) := heap_setCell_at h3 4 v4
  have h5 : ((((((w.setCell ⟨b, 0, none⟩ v0).setCell ⟨b, 1, none⟩ v1).setCell ⟨b, 2, none⟩ v2).setCell ⟨b, 3, none⟩ v3).setCell ⟨b, 4, none⟩ v4).setCell ⟨b, 5, none⟩ v5).heap[b]? = some (.cells #[v0, v1, v2, v3, v4, v5, a6, a7, a8] T fr) := heap_setCell_at h4 5 v5
  have h6 : (((((((w.setCell ⟨b, 0, none⟩ v0).setCell ⟨b, 1, none⟩ v1).setCell ⟨b, 2, none⟩ v2).setCell ⟨b, 3, none⟩ v3).setCell ⟨b, 4, none⟩ v4).setCell ⟨b, 5, none⟩ v5).setCell ⟨b, 6, none⟩ v6).heap[b]? = some (.cells #[v0, v1, v2, v3, v4, v5, v6, a7, a8] T fr) := heap_setCell_at h5 6 v6
  have h7 : ((((((((w.setCell ⟨b, 0, none⟩ v0).setCell ⟨b, 1, none⟩ v1).setCell ⟨b, 2, none⟩ v2).setCell ⟨b, 3, none⟩ v3).setCell ⟨b, 4, none⟩ v4).setCell ⟨b, 5, none⟩ v5).setCell ⟨b, 6, none⟩ v6).setCell ⟨b, 7, none⟩ v7).heap[b]? = some (.cells #[v0, v1, v2, v3, v4, v5, v6, v7, a8] T fr) := heap_setCell_at h6 7 v7
  have h8 : (((((((((w.setCell ⟨b, 0, none⟩ v0).setCell ⟨b, 1, none⟩ v1).setCell ⟨b, 2, none⟩ v2).setCell ⟨b, 3, none⟩ v3).setCell ⟨b, 4, none⟩ v4).setCell ⟨b, 5, none⟩ v5).setCell ⟨b, 6, none⟩ v6).setCell ⟨b, 7, none⟩ v7).setCell ⟨b, 8, none⟩ v8).heap[b]? = some (.cells #[v0, v1, v2, v3, v4, v5, v6, v7, v8] T fr) := heap_setCell_at h7 8 v8
  exact h8
theorem setNine_fr {w a : World} {b : Nat} (f : Fr nob a w) (hb : a.heap.size ≤ b) (v0 v1 v2 v3 v4 v5 v6 v7 v8 : Value) : Fr nob a (setNine w b v0 v1 v2 v3 v4 v5 v6 v7 v8) := by
  have h : ∀ (x : World) (j : Nat) (v : Value), Fr nob a x → Fr nob a (x.setCell ⟨b, j, none⟩ v) := fun x j v hx => hx.setCell (p := ⟨b, j, none⟩) (fun h => absurd h (Nat.not_lt.2 hb)) v
  exact h _ _ _ (h _ _ _ (h _ _ _ (h _ _ _ (h _ _ _ (h _ _ _ (h _ _ _ (h _ _ _ (h _ _ _ f))))))))
theorem setNine_one {w : World} {b : Nat} (v0 v1 v2 v3 v4 v5 v6 v7 v8 : Value) : Fr (fun k => k = b) w (setNine w b v0 v1 v2 v3 v4 v5 v6 v7 v8) := by
  have h : ∀ (x : World) (j : Nat) (v : Value), Fr (fun k => k = b) w x → Fr (fun k => k = b) w (x.setCell ⟨b, j, none⟩ v) := fun x j v hx => hx.setCell (p := ⟨b, j, none⟩) (fun _ => rfl) v
  exact h _ _ _ (h _ _ _ (h _ _ _ (h _ _ _ (h _ _ _ (h _ _ _ (h _ _ _ (h _ _ _ (h _ _ _ (Fr.refl _ w)))))))))

theorem setNine_size {w : World} {b : Nat} (v0 v1 v2 v3 v4 v5 v6 v7 v8 : Value) : (setNine w b v0 v1 v2 v3 v4 v5 v6 v7 v8).heap.size = w.heap.size := by
  simp [World.setCell]

/-- Nine cells that are there and may be written. -/
theorem there9 {w : World} {b : Nat} {a0 a1 a2 a3 a4 a5 a6 a7 a8 : Value} {T : TypeId} (h : w.heap[b]? = some (.cells #[a0, a1, a2, a3, a4, a5, a6, a7, a8] T (0, 0))) :
    (w.frozen? ⟨b, 0, none⟩ = false ∧ w.frozen? ⟨b, 1, none⟩ = false ∧ w.frozen? ⟨b, 2, none⟩ = false ∧ w.frozen? ⟨b, 3, none⟩ = false ∧ w.frozen? ⟨b, 4, none⟩ = false ∧ w.frozen? ⟨b, 5, none⟩ = false ∧ w.frozen? ⟨b, 6, none⟩ = false ∧ w.frozen? ⟨b, 7, none⟩ = false ∧ w.frozen? ⟨b, 8, none⟩ = false) :=
  ⟨unfrozen_at h _, unfrozen_at h _, unfrozen_at h _, unfrozen_at h _, unfrozen_at h _, unfrozen_at h _, unfrozen_at h _, unfrozen_at h _, unfrozen_at h _⟩

/-- Three cells; two. -/
abbrev C3 (w : World) (b : Nat) (v0 v1 v2 : Value) : Prop := w.cell? ⟨b, 0, none⟩ = some v0 ∧ w.cell? ⟨b, 1, none⟩ = some v1 ∧ w.cell? ⟨b, 2, none⟩ = some v2
abbrev C2 (w : World) (b : Nat) (v0 v1 : Value) : Prop := w.cell? ⟨b, 0, none⟩ = some v0 ∧ w.cell? ⟨b, 1, none⟩ = some v1
theorem C3.on {w w' : World} {b : Nat} {v0 v1 v2 : Value} (h : C3 w b v0 v1 v2) (f : Fr nob w w') : C3 w' b v0 v1 v2 := ⟨f.cell h.1 (fun x => x), f.cell h.2.1 (fun x => x), f.cell h.2.2 (fun x => x)⟩
theorem C2.on {w w' : World} {b : Nat} {v0 v1 : Value} (h : C2 w b v0 v1) (f : Fr nob w w') : C2 w' b v0 v1 := ⟨f.cell h.1 (fun x => x), f.cell h.2 (fun x => x)⟩
theorem C3.set {w : World} {b c : Nat} {v0 v1 v2 : Value} (h : C3 w b v0 v1 v2) (hn : ¬ b = c) (u0 u1 u2 u3 u4 u5 u6 u7 u8 : Value) : C3 (setNine w c u0 u1 u2 u3 u4 u5 u6 u7 u8) b v0 v1 v2 :=
  ⟨Fr.cell (setNine_one u0 u1 u2 u3 u4 u5 u6 u7 u8) h.1 hn, Fr.cell (setNine_one u0 u1 u2 u3 u4 u5 u6 u7 u8) h.2.1 hn, Fr.cell (setNine_one u0 u1 u2 u3 u4 u5 u6 u7 u8) h.2.2 hn⟩
theorem C2.set {w : World} {b c : Nat} {v0 v1 : Value} (h : C2 w b v0 v1) (hn : ¬ b = c) (u0 u1 u2 u3 u4 u5 u6 u7 u8 : Value) : C2 (setNine w c u0 u1 u2 u3 u4 u5 u6 u7 u8) b v0 v1 :=
  ⟨Fr.cell (setNine_one u0 u1 u2 u3 u4 u5 u6 u7 u8) h.1 hn, Fr.cell (setNine_one u0 u1 u2 u3 u4 u5 u6 u7 u8) h.2 hn⟩
theorem C3.of {w : World} {b : Nat} {v0 v1 v2 : Value} {T : TypeId} {fr : Nat × Nat} (h : w.heap[b]? = some (.cells #[v0, v1, v2] T fr)) : C3 w b v0 v1 v2 := ⟨cell_at h rfl, cell_at h rfl, cell_at h rfl⟩
theorem C2.of {w : World} {b : Nat} {v0 v1 : Value} {T : TypeId} {fr : Nat × Nat} (h : w.heap[b]? = some (.cells #[v0, v1] T fr)) : C2 w b v0 v1 := ⟨cell_at h rfl, cell_at h rfl⟩

set_option maxRecDepth 100000 in
set_option maxHeartbeats 2000000 in
theorem ref_any (m : Nat) : ∀ (n : Nd) (v : Value) (w : World), n.size ≤ m → n.size ≤ 3000000 → RN nob w n v →
    Calls Tryz.prog 18 #[v] w (RefIs n w) := by
  induction m with
  | zero => intro n v w h; have := n.size_pos; omega
  | succ m ih =>
    intro n v w hm hn h
    have IH := Lib.hid ih; clear ih
    have hk := h.kind
    have H := Lib.hid h; clear h
    cases n with
    | nil =>
      obtain rfl := hk
      go_enter Tryz.func18, Tryz.ntmps18
      go_wp2
      (try simp only [Exit.inBlock, Exit.then])
      refine bodyPost_ret (results_T (k := 0) (s := S4.zero) (v := .slice none 0 0) (mn := 0) (mx := 0) (nu := 0) rfl rfl (heap_alloc_new' _ _ _ (by simp))) rfl ⟨_, rfl, ?_, (Fr.refl _ _).alloc _⟩
      rw [Nd.rf]; unfold T.zero
      exact RT_mk.2 ⟨_, rfl, .inl ⟨⟨none, 0, rfl⟩, rfl⟩⟩
    | empty =>
      obtain rfl := hk
      go_enter Tryz.func18, Tryz.ntmps18
      go_wp2
      (try simp only [Exit.inBlock, Exit.then])
      refine bodyPost_ret (results_T (k := 0) (s := S4.zero) (v := .slice none 0 0) (mn := 0) (mx := 0) (nu := 0) rfl rfl (heap_alloc_new' _ _ _ (by simp))) rfl ⟨_, rfl, ?_, (Fr.refl _ _).alloc _⟩
      rw [Nd.rf]; unfold T.zero
      exact RT_mk.2 ⟨_, rfl, .inl ⟨⟨none, 0, rfl⟩, rfl⟩⟩
    | one s =>
      obtain rfl := hk
      rw [S4.cells_eq]
      go_enter Tryz.func18, Tryz.ntmps18
      go_wp2
      (try simp only [Exit.inBlock, Exit.then])
      refine bodyPost_ret (results_T (k := 1) (s := s) (v := .slice none 0 0) (mn := 0) (mx := 0) (nu := 0) rfl rfl (heap_alloc_lt _ (heap_alloc_new' _ _ _ (by simp)))) rfl ⟨_, rfl, ?_, ((Fr.refl _ _).alloc _).alloc _⟩
      rw [Nd.rf]
      exact RT_mk.2 ⟨_, rfl, .inl ⟨⟨none, 0, rfl⟩, rfl⟩⟩
    | back n =>
      obtain rfl := hk
      go_enter Tryz.func18, Tryz.ntmps18
      go_wp2
      (try simp only [Exit.inBlock, Exit.then])
      refine bodyPost_ret (results_T (k := 6) (s := S4.zero) (v := .slice none 0 0) (mn := 0) (mx := 0) (nu := n) rfl rfl (heap_alloc_lt _ (heap_alloc_new' _ _ _ (by simp)))) rfl ⟨_, rfl, ?_, ((Fr.refl _ _).alloc _).alloc _⟩
      rw [Nd.rf]
      exact RT_mk.2 ⟨_, rfl, .inl ⟨⟨none, 0, rfl⟩, rfl⟩⟩
    | start =>
      obtain rfl := hk
      go_enter Tryz.func18, Tryz.ntmps18
      go_wp2
      (try simp only [Exit.inBlock, Exit.then])
      refine bodyPost_ret (results_T (k := 7) (s := S4.zero) (v := .slice none 0 0) (mn := 0) (mx := 0) (nu := 0) rfl rfl (heap_alloc_lt _ (heap_alloc_new' _ _ _ (by simp)))) rfl ⟨_, rfl, ?_, ((Fr.refl _ _).alloc _).alloc _⟩
      rw [Nd.rf]
      exact RT_mk.2 ⟨_, rfl, .inl ⟨⟨none, 0, rfl⟩, rfl⟩⟩
    | fin =>
      obtain rfl := hk
      go_enter Tryz.func18, Tryz.ntmps18
      go_wp2
      (try simp only [Exit.inBlock, Exit.then])
      refine bodyPost_ret (results_T (k := 8) (s := S4.zero) (v := .slice none 0 0) (mn := 0) (mx := 0) (nu := 0) rfl rfl (heap_alloc_lt _ (heap_alloc_new' _ _ _ (by simp)))) rfl ⟨_, rfl, ?_, ((Fr.refl _ _).alloc _).alloc _⟩
      rw [Nd.rf]
      exact RT_mk.2 ⟨_, rfl, .inl ⟨⟨none, 0, rfl⟩, rfl⟩⟩
    | cat l =>
      obtain ⟨a, c, rfl, hs⟩ := hk
      have HS := Lib.hid hs; clear hs
      have hz : Nd.sizes l ≤ m := by simp only [Nd.size] at hm; omega
      have hz2 : Nd.sizes l ≤ 3000000 := by simp only [Nd.size] at hn; omega
      go_enter Tryz.func18, Tryz.ntmps18
      go_wp2_with fail
      refine (list_any l _ _ hz2 (fun x hx v w hv => IH.out x v w (Nat.le_trans (Nd.sizes_mem hx) hz) (Nat.le_trans (Nd.sizes_mem hx) hz2) hv) (HS.out.on (((Fr.refl _ _).alloc _).alloc _))).mono ?_
      rintro e w2 ⟨u, rfl, hu, f2⟩
      obtain ⟨au, cu, rfl⟩ := hu.shape
      have hr := f2.heap (heap_alloc_lt _ (heap_alloc_new _ _)) (fun x => x)
      obtain ⟨z0, z1, z2, z3, z4, z5, z6, z7, z8⟩ := C9.of hr
      obtain ⟨q0, q1, q2, q3, q4, q5, q6, q7, q8⟩ := there9 hr
      have HR := Lib.hid hr; have HU := Lib.hid hu; have F2 := Lib.hid f2
      clear hr hu f2
      go_wp2
      (try simp only [Exit.inBlock, Exit.then])
      refine bodyPost_ret (results_T (k := 2) (s := S4.zero) (v := .slice au (Nd.rfs l).length cu) (mn := 0) (mx := 0) (nu := 0) rfl rfl (setNine_heap HR.out _ _ _ _ _ _ _ _ _)) rfl ⟨_, rfl, ?_, setNine_fr ((((Fr.refl _ _).alloc _).alloc _).trans' F2.out) (Nat.le_refl _) _ _ _ _ _ _ _ _ _⟩
      rw [Nd.rf]
      exact RT_mk.2 ⟨_, rfl, HU.out.keep (setNine_one _ _ _ _ _ _ _ _ _) (fun k hk x => by unfold Old; subst x; simp; omega) (fun k hk x => by unfold Old at x ⊢; simp; omega)⟩
    | alt l =>
      obtain ⟨a, c, rfl, hs⟩ := hk
      have HS := Lib.hid hs; clear hs
      have hz : Nd.sizes l ≤ m := by simp only [Nd.size] at hm; omega
      have hz2 : Nd.sizes l ≤ 3000000 := by simp only [Nd.size] at hn; omega
      go_enter Tryz.func18, Tryz.ntmps18
      go_wp2_with fail
      refine (list_any l _ _ hz2 (fun x hx v w hv => IH.out x v w (Nat.le_trans (Nd.sizes_mem hx) hz) (Nat.le_trans (Nd.sizes_mem hx) hz2) hv) (HS.out.on (((Fr.refl _ _).alloc _).alloc _))).mono ?_
      rintro e w2 ⟨u, rfl, hu, f2⟩
      obtain ⟨au, cu, rfl⟩ := hu.shape
      have hr := f2.heap (heap_alloc_lt _ (heap_alloc_new _ _)) (fun x => x)
      obtain ⟨z0, z1, z2, z3, z4, z5, z6, z7, z8⟩ := C9.of hr
      obtain ⟨q0, q1, q2, q3, q4, q5, q6, q7, q8⟩ := there9 hr
      have HR := Lib.hid hr; have HU := Lib.hid hu; have F2 := Lib.hid f2
      clear hr hu f2
      go_wp2
      (try simp only [Exit.inBlock, Exit.then])
      refine bodyPost_ret (results_T (k := 3) (s := S4.zero) (v := .slice au (Nd.rfs l).length cu) (mn := 0) (mx := 0) (nu := 0) rfl rfl (setNine_heap HR.out _ _ _ _ _ _ _ _ _)) rfl ⟨_, rfl, ?_, setNine_fr ((((Fr.refl _ _).alloc _).alloc _).trans' F2.out) (Nat.le_refl _) _ _ _ _ _ _ _ _ _⟩
      rw [Nd.rf]
      exact RT_mk.2 ⟨_, rfl, HU.out.keep (setNine_one _ _ _ _ _ _ _ _ _) (fun k hk x => by unfold Old; subst x; simp; omega) (fun k hk x => by unfold Old at x ⊢; simp; omega)⟩
    | rep x mn mx =>
      obtain ⟨u, rfl, hx⟩ := hk
      have hsh := hx.shape
      have HX := Lib.hid hx; clear hx
      have hz : x.size ≤ m := by simp only [Nd.size] at hm; omega
      have hz2 : x.size ≤ 3000000 := by simp only [Nd.size] at hn; omega
      rcases hsh with rfl | ⟨ix, zx, rfl⟩
      · have F0 := Lib.hid (((Fr.refl nob w).alloc (.cells #[.int .i64 0, .int .u64 0, .int .u64 0, .int .u64 0, .int .u64 0, .slice none 0 0, .int .i64 0, .int .i64 0, .int .i64 0] 34)).alloc (.cells #[.nilIface, .int .i64 mn, .int .i64 mx] 91))
        have HC := Lib.hid (C3.on (C3.of (heap_alloc_new' (w.alloc (.cells #[.int .i64 0, .int .u64 0, .int .u64 0, .int .u64 0, .int .u64 0, .slice none 0 0, .int .i64 0, .int .i64 0, .int .i64 0] 34)) (.cells #[.nilIface, .int .i64 mn, .int .i64 mx] 91) (w.heap.size + 1) (by simp))) ((Fr.refl nob _).drew))
        go_enter Tryz.func18, Tryz.ntmps18
        go_wp2_with fail
        go_region_held3 (fun w' => C3 w' (w.heap.size + 1) .nilIface (.int .i64 mn) (.int .i64 mx))
          (first | (with_reducible exact HC.out) | (with_reducible exact C3.on HC.out F2.out) | (with_reducible exact C3.on HC.out (F2.out.alloc _)) | (with_reducible exact C3.on (C3.set (C3.on HC.out F2.out) hne1 _ _ _ _ _ _ _ _ _) ((Fr.refl nob _).alloc _)))
          ((go_at_call 18; refine (IH.out x _ _ hz hz2 (HX.out.on F0.out.drew)).mono ?_; rintro e w2 ⟨cs, rfl, hrx, f2⟩; obtain ⟨k', s', ps', mn', mx', nu', a', c', hx0, rfl, hxx⟩ := hrx.open'; have hr2 := f2.heap (heap_alloc_lt _ (heap_alloc_new _ _)) (fun x => x); have HR2 := Lib.hid hr2; obtain ⟨z0, z1, z2, z3, z4, z5, z6, z7, z8⟩ := C9.of hr2; obtain ⟨q0, q1, q2, q3, q4, q5, q6, q7, q8⟩ := there9 hr2; have hlt2 := lt_heap hr2; have hne2 : ¬ w.heap.size = w2.heap.size := (by omega); have hne1 : ¬ w.heap.size + 1 = w.heap.size := (by omega); have HRX := Lib.hid hrx; have F2 := Lib.hid f2; clear hr2 hrx f2 hxx hx0))
        all_goals
          go_wp2
          (try simp only [Exit.inBlock, Exit.then])
          refine bodyPost_ret (results_T (k := 4) (s := S4.zero) (v := .slice (some ⟨w2.heap.size, 0, none⟩) 1 1) (mn := mn) (mx := mx) (nu := 0) rfl rfl (heap_alloc_lt _ (setNine_heap HR2.out _ _ _ _ _ _ _ _ _))) rfl ⟨_, rfl, ?_, (setNine_fr (F0.out.drew.trans' F2.out) (Nat.le_refl _) _ _ _ _ _ _ _ _ _).alloc _⟩
          rw [Nd.rf]
          exact RT_mk.2 ⟨_, rfl, ST.one (RT.keep (setNine_one _ _ _ _ _ _ _ _ _) (fun k hk x => by unfold Old; subst x; simp; omega) (fun k hk x => by unfold Old at x ⊢; simp; omega) _ _ HRX.out) (fun k x => by unfold Old at x; rw [setNine_size]; omega) _ (by rw [setNine_size])⟩
      · have F0 := Lib.hid (((Fr.refl nob w).alloc (.cells #[.int .i64 0, .int .u64 0, .int .u64 0, .int .u64 0, .int .u64 0, .slice none 0 0, .int .i64 0, .int .i64 0, .int .i64 0] 34)).alloc (.cells #[(.iface ix zx), .int .i64 mn, .int .i64 mx] 91))
        have HC := Lib.hid (C3.on (C3.of (heap_alloc_new' (w.alloc (.cells #[.int .i64 0, .int .u64 0, .int .u64 0, .int .u64 0, .int .u64 0, .slice none 0 0, .int .i64 0, .int .i64 0, .int .i64 0] 34)) (.cells #[(.iface ix zx), .int .i64 mn, .int .i64 mx] 91) (w.heap.size + 1) (by simp))) ((Fr.refl nob _).drew))
        go_enter Tryz.func18, Tryz.ntmps18
        go_wp2_with fail
        go_region_held3 (fun w' => C3 w' (w.heap.size + 1) (.iface ix zx) (.int .i64 mn) (.int .i64 mx))
          (first | (with_reducible exact HC.out) | (with_reducible exact C3.on HC.out F2.out) | (with_reducible exact C3.on HC.out (F2.out.alloc _)) | (with_reducible exact C3.on (C3.set (C3.on HC.out F2.out) hne1 _ _ _ _ _ _ _ _ _) ((Fr.refl nob _).alloc _)))
          ((go_at_call 18; refine (IH.out x _ _ hz hz2 (HX.out.on F0.out.drew)).mono ?_; rintro e w2 ⟨cs, rfl, hrx, f2⟩; obtain ⟨k', s', ps', mn', mx', nu', a', c', hx0, rfl, hxx⟩ := hrx.open'; have hr2 := f2.heap (heap_alloc_lt _ (heap_alloc_new _ _)) (fun x => x); have HR2 := Lib.hid hr2; obtain ⟨z0, z1, z2, z3, z4, z5, z6, z7, z8⟩ := C9.of hr2; obtain ⟨q0, q1, q2, q3, q4, q5, q6, q7, q8⟩ := there9 hr2; have hlt2 := lt_heap hr2; have hne2 : ¬ w.heap.size = w2.heap.size := (by omega); have hne1 : ¬ w.heap.size + 1 = w.heap.size := (by omega); have HRX := Lib.hid hrx; have F2 := Lib.hid f2; clear hr2 hrx f2 hxx hx0))
        all_goals
          go_wp2
          (try simp only [Exit.inBlock, Exit.then])
          refine bodyPost_ret (results_T (k := 4) (s := S4.zero) (v := .slice (some ⟨w2.heap.size, 0, none⟩) 1 1) (mn := mn) (mx := mx) (nu := 0) rfl rfl (heap_alloc_lt _ (setNine_heap HR2.out _ _ _ _ _ _ _ _ _))) rfl ⟨_, rfl, ?_, (setNine_fr (F0.out.drew.trans' F2.out) (Nat.le_refl _) _ _ _ _ _ _ _ _ _).alloc _⟩
          rw [Nd.rf]
          exact RT_mk.2 ⟨_, rfl, ST.one (RT.keep (setNine_one _ _ _ _ _ _ _ _ _) (fun k hk x => by unfold Old; subst x; simp; omega) (fun k hk x => by unfold Old at x ⊢; simp; omega) _ _ HRX.out) (fun k x => by unfold Old at x; rw [setNine_size]; omega) _ (by rw [setNine_size])⟩
    | group gn x =>
      obtain ⟨u, rfl, hx⟩ := hk
      have hsh := hx.shape
      have HX := Lib.hid hx; clear hx
      have hz : x.size ≤ m := by simp only [Nd.size] at hm; omega
      have hz2 : x.size ≤ 3000000 := by simp only [Nd.size] at hn; omega
      rcases hsh with rfl | ⟨ix, zx, rfl⟩
      · have F0 := Lib.hid (((Fr.refl nob w).alloc (.cells #[.int .i64 0, .int .u64 0, .int .u64 0, .int .u64 0, .int .u64 0, .slice none 0 0, .int .i64 0, .int .i64 0, .int .i64 0] 34)).alloc (.cells #[.int .i64 gn, .nilIface] 75))
        have HC := Lib.hid (C2.on (C2.of (heap_alloc_new' (w.alloc (.cells #[.int .i64 0, .int .u64 0, .int .u64 0, .int .u64 0, .int .u64 0, .slice none 0 0, .int .i64 0, .int .i64 0, .int .i64 0] 34)) (.cells #[.int .i64 gn, .nilIface] 75) (w.heap.size + 1) (by simp))) ((Fr.refl nob _).drew))
        go_enter Tryz.func18, Tryz.ntmps18
        go_wp2_with fail
        go_region_held3 (fun w' => C2 w' (w.heap.size + 1) (.int .i64 gn) .nilIface)
          (first | (with_reducible exact HC.out) | (with_reducible exact C2.on HC.out F2.out) | (with_reducible exact C2.on HC.out (F2.out.alloc _)) | (with_reducible exact C2.on (C2.set (C2.on HC.out F2.out) hne1 _ _ _ _ _ _ _ _ _) ((Fr.refl nob _).alloc _)))
          ((go_at_call 18; refine (IH.out x _ _ hz hz2 (HX.out.on F0.out.drew)).mono ?_; rintro e w2 ⟨cs, rfl, hrx, f2⟩; obtain ⟨k', s', ps', mn', mx', nu', a', c', hx0, rfl, hxx⟩ := hrx.open'; have hr2 := f2.heap (heap_alloc_lt _ (heap_alloc_new _ _)) (fun x => x); have HR2 := Lib.hid hr2; obtain ⟨z0, z1, z2, z3, z4, z5, z6, z7, z8⟩ := C9.of hr2; obtain ⟨q0, q1, q2, q3, q4, q5, q6, q7, q8⟩ := there9 hr2; have hlt2 := lt_heap hr2; have hne2 : ¬ w.heap.size = w2.heap.size := (by omega); have hne1 : ¬ w.heap.size + 1 = w.heap.size := (by omega); have HRX := Lib.hid hrx; have F2 := Lib.hid f2; clear hr2 hrx f2 hxx hx0))
        all_goals
          go_wp2
          (try simp only [Exit.inBlock, Exit.then])
          refine bodyPost_ret (results_T (k := 5) (s := S4.zero) (v := .slice (some ⟨w2.heap.size, 0, none⟩) 1 1) (mn := 0) (mx := 0) (nu := gn) rfl rfl (heap_alloc_lt _ (setNine_heap HR2.out _ _ _ _ _ _ _ _ _))) rfl ⟨_, rfl, ?_, (setNine_fr (F0.out.drew.trans' F2.out) (Nat.le_refl _) _ _ _ _ _ _ _ _ _).alloc _⟩
          rw [Nd.rf]
          exact RT_mk.2 ⟨_, rfl, ST.one (RT.keep (setNine_one _ _ _ _ _ _ _ _ _) (fun k hk x => by unfold Old; subst x; simp; omega) (fun k hk x => by unfold Old at x ⊢; simp; omega) _ _ HRX.out) (fun k x => by unfold Old at x; rw [setNine_size]; omega) _ (by rw [setNine_size])⟩
      · have F0 := Lib.hid (((Fr.refl nob w).alloc (.cells #[.int .i64 0, .int .u64 0, .int .u64 0, .int .u64 0, .int .u64 0, .slice none 0 0, .int .i64 0, .int .i64 0, .int .i64 0] 34)).alloc (.cells #[.int .i64 gn, (.iface ix zx)] 75))
        have HC := Lib.hid (C2.on (C2.of (heap_alloc_new' (w.alloc (.cells #[.int .i64 0, .int .u64 0, .int .u64 0, .int .u64 0, .int .u64 0, .slice none 0 0, .int .i64 0, .int .i64 0, .int .i64 0] 34)) (.cells #[.int .i64 gn, (.iface ix zx)] 75) (w.heap.size + 1) (by simp))) ((Fr.refl nob _).drew))
        go_enter Tryz.func18, Tryz.ntmps18
        go_wp2_with fail
        go_region_held3 (fun w' => C2 w' (w.heap.size + 1) (.int .i64 gn) (.iface ix zx))
          (first | (with_reducible exact HC.out) | (with_reducible exact C2.on HC.out F2.out) | (with_reducible exact C2.on HC.out (F2.out.alloc _)) | (with_reducible exact C2.on (C2.set (C2.on HC.out F2.out) hne1 _ _ _ _ _ _ _ _ _) ((Fr.refl nob _).alloc _)))
          ((go_at_call 18; refine (IH.out x _ _ hz hz2 (HX.out.on F0.out.drew)).mono ?_; rintro e w2 ⟨cs, rfl, hrx, f2⟩; obtain ⟨k', s', ps', mn', mx', nu', a', c', hx0, rfl, hxx⟩ := hrx.open'; have hr2 := f2.heap (heap_alloc_lt _ (heap_alloc_new _ _)) (fun x => x); have HR2 := Lib.hid hr2; obtain ⟨z0, z1, z2, z3, z4, z5, z6, z7, z8⟩ := C9.of hr2; obtain ⟨q0, q1, q2, q3, q4, q5, q6, q7, q8⟩ := there9 hr2; have hlt2 := lt_heap hr2; have hne2 : ¬ w.heap.size = w2.heap.size := (by omega); have hne1 : ¬ w.heap.size + 1 = w.heap.size := (by omega); have HRX := Lib.hid hrx; have F2 := Lib.hid f2; clear hr2 hrx f2 hxx hx0))
        all_goals
          go_wp2
          (try simp only [Exit.inBlock, Exit.then])
          refine bodyPost_ret (results_T (k := 5) (s := S4.zero) (v := .slice (some ⟨w2.heap.size, 0, none⟩) 1 1) (mn := 0) (mx := 0) (nu := gn) rfl rfl (heap_alloc_lt _ (setNine_heap HR2.out _ _ _ _ _ _ _ _ _))) rfl ⟨_, rfl, ?_, (setNine_fr (F0.out.drew.trans' F2.out) (Nat.le_refl _) _ _ _ _ _ _ _ _ _).alloc _⟩
          rw [Nd.rf]
          exact RT_mk.2 ⟨_, rfl, ST.one (RT.keep (setNine_one _ _ _ _ _ _ _ _ _) (fun k hk x => by unfold Old; subst x; simp; omega) (fun k hk x => by unfold Old at x ⊢; simp; omega) _ _ HRX.out) (fun k x => by unfold Old at x; rw [setNine_size]; omega) _ (by rw [setNine_size])⟩


/-- Is a node the document's? -/
def IsT (n : Nd) (t : T) (w : World) (e : Ending) (w' : World) : Prop := ∃ r : Bool, e = .returned (.bool r) ∧ (r = true ↔ n.norm = t.nd) ∧ Fr nob w w'

set_option maxRecDepth 100000 in
set_option maxHeartbeats 2000000 in
theorem is_any (n : Nd) (t : T) (v : Value) (cs : List Value) (w : World) (hn : n.size ≤ 3000000) (ht : t.nd.size ≤ 3000000) (hk : t.known = true) (h : RN nob w n v) (h' : RT nob w t cs) :
    Calls Tryz.prog 9 #[v, .agg cs.toArray] w (IsT n t w) := by
  obtain ⟨kd, s, ps, mn, mx, nu, a, c, _, rfl, hs⟩ := h'.open'
  have HN := Lib.hid h; have HT := Lib.hid h'; have HK := Lib.hid hk; clear h h' hs hk
  have HC := Lib.hid (C9.on (C9.of (heap_alloc_new w (.cells #[.int .i64 kd, .int .u64 s.a, .int .u64 s.b, .int .u64 s.c, .int .u64 s.d, .slice a ps.length c, .int .i64 mn, .int .i64 mx, .int .i64 nu] 34))) ((Fr.refl nob _).drew))
  go_enter Tryz.func9, Tryz.ntmps9
  go_wp2_with fail
  go_region_held3 (fun w' => C9 w' w.heap.size (.int .i64 kd) (.int .u64 s.a) (.int .u64 s.b) (.int .u64 s.c) (.int .u64 s.d) (.slice a ps.length c) (.int .i64 mn) (.int .i64 mx) (.int .i64 nu))
    (first | (with_reducible exact HC.out) | (with_reducible exact C9.on HC.out F2.out) | (with_reducible exact C9.on HC.out (F2.out.trans' F3.out)))
    (first | (go_at_call 18; refine (ref_any n.size n _ _ (Nat.le_refl _) hn (HN.out.on ((Fr.refl _ _).alloc _).drew)).mono ?_; rintro e w2 ⟨cr, rfl, hr, f2⟩; obtain ⟨k', s', ps', mn', mx', nu', a', c', hx0, rfl, hxx⟩ := hr.open'; have HR := Lib.hid hr; have F2 := Lib.hid f2; clear hr f2 hxx hx0) | (go_at_call 17; refine (same_T n.rf.nd.size n.rf t _ _ _ (Nat.le_refl _) (by rw [Nd.rf_nd, Nd.norm_size]; exact hn) ht (Nd.rf_known n) HK.out (RT.keep (Fr.refl nob _) (fun _ _ x => x.elim) (fun _ _ x => x.elim) _ _ HR.out) (HT.out.on (((Fr.refl nob w).alloc _).drew.trans' F2.out))).mono ?_; rintro e w3 ⟨r, rfl, hr3, f3⟩; have HR3 := Lib.hid hr3; have F3 := Lib.hid f3; clear hr3 f3))
  all_goals
    go_wp2
    go_ret
    exact ⟨r, rfl, by rw [← Nd.rf_nd]; exact HR3.out, (((Fr.refl nob w).alloc _).drew.trans' F2.out).trans' F3.out⟩

end Go.Proofs.YtepeomphikhbkaaGreatDoor
