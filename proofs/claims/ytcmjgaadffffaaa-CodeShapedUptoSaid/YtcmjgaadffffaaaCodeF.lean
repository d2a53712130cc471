/-
  Walks of package code: node, by recursion.
-/
import Derived.Test.YtcmjgaadffffaaaCodeE
namespace Go.Proofs.Ytcmjgaadffffaaa
open Go.RowKit

mutual
/-- A tree that the program can lay: no empty Alt, no numbers beyond reach. -/
def Nd.fine : Nd → Prop
  | .cat l => Nd.fines l
  | .alt l => l ≠ [] ∧ Nd.fines l
  | .rep x mn mx => (-1000000 ≤ mn ∧ mn ≤ 1000000) ∧ (-1000000 ≤ mx ∧ mx ≤ 1000000) ∧ x.fine
  | .group k x => (-4000000 ≤ k ∧ k ≤ 4000000) ∧ x.fine
  | _ => True
def Nd.fines : List Nd → Prop
  | [] => True
  | t :: ts => t.fine ∧ Nd.fines ts
end
theorem fines_mem {l : List Nd} (h : Nd.fines l) : ∀ t ∈ l, t.fine := by
  induction l with
  | nil => intro t ht; cases ht
  | cons a l ih =>
    rw [Nd.fines] at h
    intro t ht
    rcases List.mem_cons.1 ht with rfl | ht
    · exact h.1
    · exact ih h.2 t ht
theorem lay_full {s : Bd} (h : s.full = true) (n : Nd) : n.lay s = s := by
  cases n <;> rw [Nd.lay] <;> simp [h]
theorem backs_at {b : Nat} {s : Bd} {g : Option Nat} {w : World} (h : BAt b s g w) : Laid b { s with backs := true } g w (w.setCell ⟨b, 3, none⟩ (.bool true)) := by
  obtain ⟨v, hb, hown, hg, hne⟩ := h
  refine ⟨g, ⟨v, by exact heap_setCell_at hb 3 _, ?_, hg, hne⟩, (Fr.refl (LS b g) w).setCell (p := ⟨b, 3, none⟩) (fun _ => .inl rfl) _, fun _ h => .inl h⟩
  exact ownsRow_fr hown ((Fr.refl (fun k => k = b) w).setCell (p := ⟨b, 3, none⟩) (fun _ => rfl) _) (fun k hk e => hne (by rw [← hg, hk, e]))
theorem BAt.cells {b : Nat} {s : Bd} {g : Option Nat} {w : World} (h : BAt b s g w) : ∀ w', Fr nob w w' → ∃ v, (w'.cell? ⟨b, 3, none⟩ = some v ∧ w'.frozen? ⟨b, 3, none⟩ = false) := fun w' f => by
  obtain ⟨v, hb, _⟩ := h; exact ⟨_, cell_at (f.heap hb (fun x => x)) rfl, unfrozen_at (f.heap hb (fun x => x)) 3⟩
/-- The first loop of Cat. -/
def CatInv (l : List Nd) (F : Bd) (b : Nat) (g : Option Nat) (w0 : World) (i : Value) (wr : World) : Prop :=
  ∃ (k : Nat) (sk : Bd) (gk : Option Nat), i = .int .i64 k ∧ k ≤ l.length ∧ Nd.lays (l.drop k) sk = F ∧ sk.ok ∧ BAt b sk gk wr ∧ Fr (LS b g) w0 wr ∧ (∀ j, gk = some j → g = some j ∨ w0.heap.size ≤ j)

abbrev NodeAns (n : Nd) (v : Value) (w : World) (b : Nat) (s : Bd) (g : Option Nat) : Prop :=
  Calls Try.prog 18 #[.pointer (some ⟨b, 0, none⟩), v] w fun e w' => e = .returned (.tuple #[]) ∧ Laid b (n.lay s) g w w'

section
variable (b : Nat) (s : Bd) (g : Option Nat) (w : World) (hs : s.ok) (h : BAt b s g w)
include h
theorem node_full (n : Nd) (v : Value) (hf : s.full = true) : NodeAns n v w b s g := by
  unfold NodeAns
  rw [lay_full hf]
  have H := Lib.hid h
  have hfl := h.flag w (Fr.refl _ _)
  rw [hf] at hfl
  clear h hf
  go_enter Try.func18, Try.ntmps18
  go_wp2
  (try simp only [Exit.inBlock, Exit.then])
  refine bodyPost_ret (v := .tuple #[]) (by simp [results, Try.results18, go_sem]) rfl ⟨rfl, ?_⟩
  exact Laid.refl H.out (Fr.refl _ _)

theorem node_none (n : Nd) (v : Value) (hf : s.full = false) (hl : n.lay s = s) (hv : v = .nilIface ∨ ∃ i x, v = .iface i x ∧ i ≠ 48 ∧ i ≠ 71 ∧ i ≠ 72 ∧ i ≠ 69 ∧ i ≠ 64 ∧ i ≠ 65 ∧ i ≠ 67 ∧ i ≠ 50) : NodeAns n v w b s g := by
  unfold NodeAns
  rw [hl]
  have H := Lib.hid h
  have hfl := h.flag w (Fr.refl _ _)
  rw [hf] at hfl
  clear h hf hl
  rcases hv with rfl | ⟨i, x, rfl, h1, h2, h3, h4, h5, h6, h7, h8⟩
  all_goals
    go_enter Try.func18, Try.ntmps18
    go_wp2
    go_end0
    exact ⟨rfl, Laid.refl H.out (Fr.refl _ _)⟩

theorem node_one (c : S4) (hf : s.full = false) : NodeAns (.one c) (.iface 48 (.agg c.cells.toArray)) w b s g := by
  unfold NodeAns
  rw [show (Nd.one c).lay s = s.put ⟨0, c, 0, 0⟩ by rw [Nd.lay, if_neg (by rw [hf]; simp)]]
  have H := Lib.hid (h.on ((Fr.refl nob w).alloc (.cells #[.int .u64 c.a, .int .u64 c.b, .int .u64 c.c, .int .u64 c.d] 48)))
  have hfl := h.flag w (Fr.refl _ _)
  rw [hf] at hfl
  clear h hf
  rw [show (Value.agg c.cells.toArray) = .agg #[.int .u64 c.a, .int .u64 c.b, .int .u64 c.c, .int .u64 c.d] from rfl]
  go_enter Try.func18, Try.ntmps18
  go_wp2_with fail
  refine (put_any b s g ⟨0, c, 0, 0⟩ _ H.out).mono ?_
  rintro e w1 ⟨rfl, h1⟩
  have H1 := Lib.hid h1; clear h1
  go_wp2
  go_end0
  exact ⟨rfl, Laid.pre ((Fr.refl _ _).alloc _) H1.out⟩
theorem node_start (hf : s.full = false) : NodeAns .start (.iface 71 (.agg #[])) w b s g := by
  unfold NodeAns
  rw [show Nd.start.lay s = s.put (mkI 5 0 0) by rw [Nd.lay, if_neg (by rw [hf]; simp)]]
  have H := Lib.hid (h.on ((Fr.refl nob w).alloc (.cells #[] 71)))
  have hfl := h.flag w (Fr.refl _ _)
  rw [hf] at hfl
  clear h hf
  go_enter Try.func18, Try.ntmps18
  go_wp2_with fail
  refine (put_any b s g (mkI 5 0 0) _ H.out).mono ?_
  rintro e w1 ⟨rfl, h1⟩
  have H1 := Lib.hid h1; clear h1
  go_wp2
  go_end0
  exact ⟨rfl, Laid.pre ((Fr.refl _ _).alloc _) H1.out⟩
theorem node_fin (hf : s.full = false) : NodeAns .fin (.iface 72 (.agg #[])) w b s g := by
  unfold NodeAns
  rw [show Nd.fin.lay s = s.put (mkI 6 0 0) by rw [Nd.lay, if_neg (by rw [hf]; simp)]]
  have H := Lib.hid (h.on ((Fr.refl nob w).alloc (.cells #[] 72)))
  have hfl := h.flag w (Fr.refl _ _)
  rw [hf] at hfl
  clear h hf
  go_enter Try.func18, Try.ntmps18
  go_wp2_with fail
  refine (put_any b s g (mkI 6 0 0) _ H.out).mono ?_
  rintro e w1 ⟨rfl, h1⟩
  have H1 := Lib.hid h1; clear h1
  go_wp2
  go_end0
  exact ⟨rfl, Laid.pre ((Fr.refl _ _).alloc _) H1.out⟩
theorem node_back (k : Int) (hf : s.full = false) : NodeAns (.back k) (.iface 69 (.agg #[.int .i64 k])) w b s g := by
  unfold NodeAns
  rw [show (Nd.back k).lay s = { s.put (mkI 4 k 0) with backs := true } by rw [Nd.lay, if_neg (by rw [hf]; simp)]]
  have H := Lib.hid (h.on ((Fr.refl nob w).alloc (.cells #[.int .i64 k] 69)))
  have hfl := h.flag w (Fr.refl _ _)
  rw [hf] at hfl
  clear h hf
  go_enter Try.func18, Try.ntmps18
  go_wp2_with fail
  refine (put_any b s g (mkI 4 k 0) _ H.out).mono ?_
  rintro e w1 ⟨rfl, g1, B1, f1, h1⟩
  have L := Lib.hid (Laid.trans f1 h1 (backs_at B1))
  obtain ⟨xv, x1, x2⟩ := B1.cells w1 (Fr.refl _ _)
  clear B1 f1 h1
  go_wp2
  go_end0
  exact ⟨rfl, Laid.pre ((Fr.refl _ _).alloc _) L.out⟩
theorem node_cat (l : List Nd) (u : Value) (hf : s.full = false) (hN : ∀ n ∈ l, NodeOk n) (hll : l.length ≤ 3000000) (hs : s.ok) (hu : SN (LS b g) w l u) : NodeAns (.cat l) (.iface 64 (.agg #[u])) w b s g := by
  unfold NodeAns
  obtain ⟨F, hF⟩ : ∃ F, Nd.lays l s = F := ⟨_, rfl⟩
  rw [show (Nd.cat l).lay s = F by rw [Nd.lay, if_neg (by rw [hf]; simp)]; exact hF]
  obtain ⟨ua, uc, rfl⟩ := hu.shape
  have f1 : Fr nob w (w.alloc (.cells #[.slice ua l.length uc] 64)) := (Fr.refl _ _).alloc _
  obtain ⟨w1, hw1⟩ : ∃ w1, w1 = w.alloc (.cells #[.slice ua l.length uc] 64) := ⟨_, rfl⟩
  rw [← hw1] at f1
  have HU := Lib.hid (hu.on f1); have HB := Lib.hid (h.on f1); have F1 := Lib.hid f1; have HW := Lib.hid hw1; have HN := Lib.hid hN; have HF := Lib.hid hF
  have hfl := h.flag w (Fr.refl _ _)
  rw [hf] at hfl
  clear h hf hu f1 hw1 hN hF
  go_enter Try.func18, Try.ntmps18
  go_wp2_with fail
  rw [← HW.out]
  go_loopw [57] (fun i wr => CatInv l F b g w1 i wr) (fun i _ => l.length - (intOf i).toNat)
  case atStart => exact ⟨0, s, g, rfl, Nat.zero_le _, HF.out, hs, HB.out, Fr.refl _ _, fun _ h => .inl h⟩
  case round =>
    obtain ⟨k, sk, gk, rfl, hk, hF, hsk, hB, hfr, hg⟩ := hrel
    have hS := HU.out.keep hfr (S' := LS b gk) (fun _ _ x => x) (LS.late hg)
    have HFK := Lib.hid hF; have HBk := Lib.hid hB; have HFR := Lib.hid hfr; have HG := Lib.hid hg
    clear hF hB hfr hg
    by_cases hlt : k < l.length
    · obtain ⟨q, off', cap', x, he, hx, hc⟩ := hS.get hlt
      injection he with e1 e2 e3
      subst e1; subst e3
      clear e2
      have hF2 := HFK.out
      rw [List.drop_eq_getElem_cons hlt, Nd.lays] at hF2
      have HF2 := Lib.hid hF2; have HX := Lib.hid hx
      have HNk := Lib.hid (HN.out l[k] (List.getElem_mem hlt))
      have up1 := Lib.hid (up_lay l[k] sk hsk)
      have hxs := hx.shape
      clear hF2 HFK hx hS
      go_wp2_with fail
      refine (HNk.out x wr b sk gk hsk HBk.out HX.out).mono ?_
      rintro e w2 ⟨rfl, g2, B2, f2, h2⟩
      have HB2 := Lib.hid B2; have F2 := Lib.hid f2; have H2 := Lib.hid h2
      clear B2 f2 h2
      go_wp2
      go_roundw
      case rel => exact ⟨k + 1, _, g2, by go_num, by omega, HF2.out, up1.out.ok hsk, HB2.out, HFR.out.trans F2.out (LS.late HG.out), fun j hj => by
        rcases H2.out j hj with h | h
        · exact HG.out j h
        · have := HFR.out.size; exact .inr (by omega)⟩
      case measure => simp [intOf]; omega
    · obtain rfl : k = l.length := by omega
      have hF2 := HFK.out
      rw [List.drop_length, Nd.lays] at hF2
      subst hF2
      go_wp2
      go_end0
      exact ⟨rfl, Laid.pre F1.out ⟨gk, HBk.out, HFR.out, HG.out⟩⟩
theorem node_alt (l : List Nd) (u : Value) (hf : s.full = false) (hN : ∀ n ∈ l, NodeOk n) (h0 : 0 < l.length) (hll : l.length ≤ 3000000) (hs : s.ok) (hu : SN (LS b g) w l u) : NodeAns (.alt l) (.iface 65 (.agg #[u])) w b s g := by
  unfold NodeAns
  obtain ⟨F, hF⟩ : ∃ F, Bd.setXs (Nd.layAlt l s []).2 (Nd.layAlt l s []).1 = F := ⟨_, rfl⟩
  rw [show (Nd.alt l).lay s = F by rw [Nd.lay, if_neg (by rw [hf]; simp)]; exact hF]
  have f1 : Fr nob w (w.alloc (.cells #[u] 65)) := (Fr.refl _ _).alloc _
  have C := Lib.hid (alt_any' l hN h0 hll u _ b s g hs (h.on f1) (hu.on f1))
  rw [hF] at C
  have hfl := h.flag w (Fr.refl _ _)
  rw [hf] at hfl
  have hsh := hu.shape
  clear h hf hu f1 hN hF
  obtain ⟨ua, uc, rfl⟩ := hsh
  go_enter Try.func18, Try.ntmps18
  go_wp2_with fail
  refine C.out.mono ?_
  rintro e w1 ⟨rfl, h1⟩
  have H1 := Lib.hid h1; clear h1
  go_wp2
  go_end0
  exact ⟨rfl, Laid.pre ((Fr.refl _ _).alloc _) H1.out⟩
theorem node_rep (x : Nd) (mn mx : Int) (u : Value) (hf : s.full = false) (hN : NodeOk x) (hmn : -1000000 ≤ mn ∧ mn ≤ 1000000) (hmx : -1000000 ≤ mx ∧ mx ≤ 1000000) (hs : s.ok) (hx : RN (LS b g) w x u) : NodeAns (.rep x mn mx) (.iface 50 (.agg #[u, .int .i64 mn, .int .i64 mx])) w b s g := by
  unfold NodeAns
  obtain ⟨F, hF⟩ : ∃ F, repF x.lay mn mx s = F := ⟨_, rfl⟩
  rw [show (Nd.rep x mn mx).lay s = F by rw [Nd.lay, if_neg (by rw [hf]; simp)]; exact hF]
  have f1 : Fr nob w (w.alloc (.cells #[u, .int .i64 mn, .int .i64 mx] 50)) := (Fr.refl _ _).alloc _
  have C := Lib.hid (rep_any' x hN mn mx hmn hmx u _ b s g hs (h.on f1) (hx.on f1))
  rw [hF] at C
  have hfl := h.flag w (Fr.refl _ _)
  rw [hf] at hfl
  have hsh := hx.shape
  clear h hf hx f1 hN hF
  rcases hsh with rfl | ⟨iu, xu, rfl⟩
  all_goals
    go_enter Try.func18, Try.ntmps18
    go_wp2_with fail
    refine C.out.mono ?_
    rintro e w1 ⟨rfl, h1⟩
    have H1 := Lib.hid h1; clear h1
    go_wp2
    go_end0
    exact ⟨rfl, Laid.pre ((Fr.refl _ _).alloc _) H1.out⟩
theorem node_group (k : Int) (x : Nd) (u : Value) (hf : s.full = false) (hN : NodeOk x) (hk : -4000000 ≤ k ∧ k ≤ 4000000) (hs : s.ok) (hx : RN (LS b g) w x u) : NodeAns (.group k x) (.iface 67 (.agg #[.int .i64 k, u])) w b s g := by
  unfold NodeAns
  obtain ⟨F, hF⟩ : ∃ F, (x.lay (s.put (mkI 3 (2 * k) 0))).put (mkI 3 (2 * k + 1) 0) = F := ⟨_, rfl⟩
  rw [show (Nd.group k x).lay s = F by rw [Nd.lay, if_neg (by rw [hf]; simp)]; exact hF]
  have hk2 : IntKind.i64.wrap (2 * k) = 2 * k := IntWalk.i64_in _ (by omega)
  have hk3 : IntKind.i64.wrap (2 * k + 1) = 2 * k + 1 := IntWalk.i64_in _ (by omega)
  obtain ⟨w1, hw1⟩ : ∃ w1, w1 = w.alloc (.cells #[.int .i64 k, u] 67) := ⟨_, rfl⟩
  have f1 : Fr nob w w1 := by rw [hw1]; exact (Fr.refl _ _).alloc _
  have hb1 : w1.heap[w.heap.size]? = some (.cells #[.int .i64 k, u] 67 (0, 0)) := by rw [hw1]; exact newAtB _ _
  have hbox : ∀ w', Fr (LS b g) w1 w' → w'.cell? ⟨w.heap.size, 0, none⟩ = some (.int .i64 k) ∧ w'.cell? ⟨w.heap.size, 1, none⟩ = some u := fun w' f => by
    have hb := f.heap hb1 (fun e => Nat.lt_irrefl _ (h.ls _ e))
    exact ⟨cell_at hb rfl, cell_at hb rfl⟩
  have HBOX := Lib.hid hbox; have HB := Lib.hid (h.on f1); have HX := Lib.hid (hx.on f1); have F1 := Lib.hid f1; have HW := Lib.hid hw1; have HF := Lib.hid hF
  have hfl := h.flag w (Fr.refl _ _)
  rw [hf] at hfl
  have hsh := hx.shape
  obtain ⟨c0, c1⟩ := hbox w1 (Fr.refl _ _)
  clear h hf hx f1 hw1 hb1 hbox hF
  have fin : ∀ (K : Prop), (∀ (_ : u = .nilIface ∨ ∃ i x, u = .iface i x), K) → K := fun K hK => hK hsh
  clear fin
  rcases hsh with rfl | ⟨iu, xu, rfl⟩
  all_goals
    go_enter Try.func18, Try.ntmps18
    go_wp2_with (rw [← HW.out])
    refine (put_any b s g (mkI 3 (2 * k) 0) w1 HB.out).mono ?_
    rintro e w2 ⟨rfl, g2, B2, f2, h2⟩
    have HB2 := Lib.hid B2; have F2 := Lib.hid f2; have H2 := Lib.hid h2
    have ok2 := Lib.hid ((up_put hs (mkI 3 (2 * k) 0)).ok hs)
    have HX2 := Lib.hid (RN.keep f2 (S := LS b g) (S' := LS b g2) (fun _ _ x => x) (LS.late h2) x _ HX.out)
    obtain ⟨c0', c1'⟩ := HBOX.out w2 f2
    obtain ⟨s2, hs2⟩ : ∃ s2, s.put (mkI 3 (2 * k) 0) = s2 := ⟨_, rfl⟩
    have HF2 := HF.out
    rw [hs2] at HF2 ok2 HB2
    have HF3 := Lib.hid HF2
    clear B2 f2 h2 hs2 c0 c1 HF2 hfl
    go_wp2_with fail
    refine (hN _ w2 b s2 g2 ok2.out HB2.out HX2.out).mono ?_
    rintro e w3 ⟨rfl, g3, B3, f3, h3⟩
    have HB3 := Lib.hid B3; have F3 := Lib.hid (F2.out.trans f3 (LS.late H2.out)); have H3 := Lib.hid (show ∀ j, g3 = some j → g = some j ∨ w1.heap.size ≤ j from fun j hj => by
      rcases h3 j hj with h | h
      · exact H2.out j h
      · have := F2.out.size; exact .inr (by omega))
    obtain ⟨c0, c1⟩ := HBOX.out w3 F3.out
    clear B3 f3 h3 c0' c1'
    go_wp2_with fail
    refine (put_any b _ g3 (mkI 3 (2 * k + 1) 0) w3 HB3.out).mono ?_
    rintro e w4 ⟨rfl, h4⟩
    have H4 := Lib.hid h4; clear h4
    go_wp2
    go_end0
    rw [← HF3.out]
    exact ⟨rfl, Laid.pre F1.out (Laid.trans F3.out H3.out H4.out)⟩
end

theorem node_all (m : Nat) : ∀ n : Nd, n.size ≤ m → n.size ≤ 3000000 → n.fine → NodeOk n := by
  induction m with
  | zero => intro n h; have := n.size_pos; omega
  | succ m ih =>
    intro n hm hn hfi v w b s g hs h hv
    cases hfu : s.full with
    | true => exact node_full b s g w h n v hfu
    | false =>
      cases n with
      | nil => exact node_none b s g w h .nil v hfu (by rw [Nd.lay]) (.inl hv.kind)
      | empty => exact node_none b s g w h .empty v hfu (by rw [Nd.lay]) (.inr ⟨_, _, hv.kind, by decide, by decide, by decide, by decide, by decide, by decide, by decide, by decide⟩)
      | one c => obtain rfl := hv.kind; exact node_one b s g w h c hfu
      | start => obtain rfl := hv.kind; exact node_start b s g w h hfu
      | fin => obtain rfl := hv.kind; exact node_fin b s g w h hfu
      | back k => obtain rfl := hv.kind; exact node_back b s g w h k hfu
      | cat l =>
        obtain ⟨u, rfl, hu⟩ := RN_cat.1 hv
        rw [Nd.fine] at hfi
        simp only [Nd.size] at hm hn
        have := Nd.length_le l
        exact node_cat b s g w h l u hfu (fun t ht => ih t (by have := Nd.sizes_mem ht; omega) (by have := Nd.sizes_mem ht; omega) (fines_mem hfi t ht)) (by omega) hs hu
      | alt l =>
        obtain ⟨u, rfl, hu⟩ := RN_alt.1 hv
        rw [Nd.fine] at hfi
        simp only [Nd.size] at hm hn
        have := Nd.length_le l
        exact node_alt b s g w h l u hfu (fun t ht => ih t (by have := Nd.sizes_mem ht; omega) (by have := Nd.sizes_mem ht; omega) (fines_mem hfi.2 t ht)) (List.length_pos_iff.2 hfi.1) (by omega) hs hu
      | rep x mn mx =>
        rw [RN] at hv
        obtain ⟨u, rfl, hx⟩ := hv
        rw [Nd.fine] at hfi
        simp only [Nd.size] at hm hn
        exact node_rep b s g w h x mn mx u hfu (ih x (by omega) (by omega) hfi.2.2) hfi.1 hfi.2.1 hs hx
      | group k x =>
        rw [RN] at hv
        obtain ⟨u, rfl, hx⟩ := hv
        rw [Nd.fine] at hfi
        simp only [Nd.size] at hm hn
        exact node_group b s g w h k x u hfu (ih x (by omega) (by omega) hfi.2) hfi.1 hs hx

end Go.Proofs.Ytcmjgaadffffaaa
