/-
  Merged texts of this claim: LawT.
-/
import Derived.Test.YtlchaocpejfikaaGreatDoorRows
import Derived.JoinedCond
import Derived.Test.YtlchaocpejfikaaGreatDoorM03
import Derived.Test.YtlchaocpejfikaaGreatDoorM19

/-
  The document's nodes as arguments: what a reading says of the cells; the bound of a reading; no walk.
-/
namespace Go.Proofs.YtlchaocpejfikaaGreatDoor
open Go.RowKit

def S4.wf (s : S4) : Prop := (Lit.int .u64 s.a).wf = true ∧ (Lit.int .u64 s.b).wf = true ∧ (Lit.int .u64 s.c).wf = true ∧ (Lit.int .u64 s.d).wf = true
mutual
/-- Do all numbers fit? -/
def T.wf : T → Prop
  | .mk k s ps mn mx nu => s.wf ∧ (Lit.int .i64 k).wf = true ∧ (Lit.int .i64 mn).wf = true ∧ (Lit.int .i64 mx).wf = true ∧ (Lit.int .i64 nu).wf = true ∧ T.wfs ps
def T.wfs : List T → Prop
  | [] => True
  | t :: ts => t.wf ∧ T.wfs ts
end

section
variable {H : Type} {enc : TypeId × Value → H} {W : World} {base : Nat} {spare : Nat → Bool} {held : Bool}

theorem bulk_one (d : DataW H) : 1 ≤ Rows.uptoBulk d := by
  cases d with
  | lit l => cases l <;> simp [Rows.uptoBulk]
  | nil => simp [Rows.uptoBulk]
  | ptr d => simp [Rows.uptoBulk]
  | slice elems spare => simp [Rows.uptoBulk]
  | agg parts => simp [Rows.uptoBulk]
  | iface t d => simp [Rows.uptoBulk]
  | map entries => simp [Rows.uptoBulk]
  | held h => simp [Rows.uptoBulk]

/-- What a reading of a node says, read with so much fuel. -/
def TrodT (enc : TypeId × Value → H) (W : World) (base : Nat) (spare : Nat → Bool) (held : Bool) (fuel : Nat) : Prop := ∀ (cs : List Value) (x : DataW H × List MemPlace),
  DataW.trod enc Tryz.prog W base spare held fuel 32 cs = some x → cs.length = 9 ∧ ∃ t, RT nob W t cs ∧ t.wf ∧ t.bulk ≤ Rows.uptoBulk x.1

theorem cells_at {w : World} {g off n : Nat} {cs : List Value} (h : w.cells? base ⟨g, off, none⟩ n = some cs) : At w g off cs := by
  obtain ⟨_, hl, hi⟩ := World.cells?_some h
  intro j v hj
  have hjl : j < n := by rw [← hl]; exact (List.getElem?_eq_some_iff.1 hj).1
  have := hi j hjl
  rw [hj] at this
  by_cases h0 : j = 0
  · subst h0; simpa [Addr.add] using this
  · simpa [Addr.add, h0] using this

theorem rows_T {m : Nat} (hT : TrodT enc W base spare held m) (g : Nat) : ∀ (elems : List (DataW H × List MemPlace)) (off : Nat),
    (∀ i, i < elems.length → (W.cells? base ⟨g, off + i * 9, none⟩ 9).bind (DataW.trod enc Tryz.prog W base spare held m 32) = elems[i]?) →
    ∃ ts, ts.length = elems.length ∧ RTs nob W ts g off ∧ T.wfs ts ∧ T.bulks ts ≤ Rows.uptoBulkAll (elems.map (·.1))
  | [], _, _ => ⟨[], rfl, by rw [RTs]; trivial, by rw [T.wfs]; trivial, by simp [T.bulks]⟩
  | x :: xs, off, h => by
    have h0 := h 0 (by simp)
    simp only [Nat.zero_mul, Nat.add_zero, List.getElem?_cons_zero, Option.bind_eq_some_iff] at h0
    obtain ⟨cs, hc, hx⟩ := h0
    obtain ⟨hl, t, ht, hw, hb⟩ := hT cs x hx
    obtain ⟨ts, h1, h2, h3, h4⟩ := rows_T hT g xs (off + 9) (fun i hi => by
      have := h (i + 1) (by simpa using hi)
      rwa [show off + (i + 1) * 9 = off + 9 + i * 9 by omega] at this)
    have hlt := World.cells?_block hc (by decide)
    refine ⟨t :: ts, by simp [h1], ?_, ?_, ?_⟩
    · rw [RTs]; exact ⟨fun x => x, hlt, ⟨cs, ht, cells_at hc⟩, h2⟩
    · rw [T.wfs]; exact ⟨hw, h3⟩
    · simp only [T.bulks, List.map_cons, Rows.uptoBulkAll]; omega

theorem cellsT : Tryz.prog.cellsOf 32 = 9 := by kernel_rfl

/-- A slice of nodes. -/
theorem slice_T {fuel : Nat} {cs : List Value} {x : DataW H × List MemPlace} {ty : TypeId} (hty : Tryz.prog.underlying ty = some (.slice 32)) (hT : ∀ m, m < fuel → TrodT enc W base spare held m)
    (h : DataW.trod enc Tryz.prog W base spare held fuel ty cs = some x) : ∃ u l, cs = [u] ∧ ST nob W l u ∧ T.wfs l ∧ T.bulks l ≤ Rows.uptoBulk x.1 := by
  rcases DataW.trod_slice hty h with ⟨rfl, rfl⟩ | ⟨a, len, cap, elems, rest, n, rfl, rfl, rfl, hb, hlc, hcm, hel, he, _⟩
  · exact ⟨_, [], rfl, .inl ⟨⟨none, 0, rfl⟩, rfl⟩, by rw [T.wfs]; trivial, by simp [T.bulks]⟩
  · rw [cellsT] at he
    subst hel
    by_cases hz : elems.length = 0
    · exact ⟨_, [], rfl, .inl ⟨⟨some a, cap, by rw [hz]⟩, rfl⟩, by rw [T.wfs]; trivial, by simp [T.bulks]⟩
    · have h0 := he 0 (by omega)
      have hs : a.spot = none := by
        simp only [Nat.zero_mul] at h0
        rw [List.getElem?_eq_getElem (by omega)] at h0
        simp only [Option.bind_eq_some_iff] at h0
        obtain ⟨cs, hc, _⟩ := h0
        obtain ⟨_, hl, hi⟩ := World.cells?_some hc
        have h1 := hi 0 (by decide)
        rw [List.getElem?_eq_getElem (by omega)] at h1
        have h2 : ((a.add 0).add 0).spot = a.spot := by simp [Addr.add]
        rw [← h2]
        unfold World.cell? at h1
        split at h1
        · split at h1
          · cases h1
          · rename_i hn; simpa using hn
        · cases h1
      obtain ⟨g, off, sp⟩ := a
      have hs : sp = none := hs
      subst hs
      obtain ⟨ts, h1, h2, h3, h4⟩ := rows_T (hT n (by omega)) g elems off (fun i hi => by
        have := he i hi
        by_cases h0 : i * 9 = 0
        · simpa [Addr.add, h0] using this
        · simpa [Addr.add, h0] using this)
      exact ⟨_, ts, rfl, .inr ⟨g, off, cap, by rw [h1], by omega, h2⟩, h3, by simp only [Rows.uptoBulk]; omega⟩

set_option maxRecDepth 100000 in
theorem trod_T : ∀ (fuel : Nat), TrodT enc W base spare held fuel := by
  intro fuel
  induction fuel using Nat.strongRecOn with
  | _ fuel ih =>
    intro cs x h
    obtain ⟨xs, n, rfl, rfl, hl, hlen, hf⟩ := DataW.trod_struct Tryz.underlying32 h
    rw [cellsT] at hl
    refine ⟨hl, ?_⟩
    have ci : Tryz.prog.cellsOf 3 = 1 := by kernel_rfl
    have cs4 : Tryz.prog.cellsOf 24 = 4 := by kernel_rfl
    have csl : Tryz.prog.cellsOf 30 = 1 := by kernel_rfl
    have cu : Tryz.prog.cellsOf 22 = 1 := by kernel_rfl
    match cs, hl, xs, hlen with
    | [c0, c1, c2, c3, c4, c5, c6, c7, c8], _, [y0, y1, y2, y3, y4, y5], _ =>
      have f0 : DataW.trod enc Tryz.prog W base spare held n 3 (([c0, c1, c2, c3, c4, c5, c6, c7, c8].drop 0).take (Tryz.prog.cellsOf 3)) = some y0 := hf 0 _ rfl
      have f1 : DataW.trod enc Tryz.prog W base spare held n 24 (([c0, c1, c2, c3, c4, c5, c6, c7, c8].drop 1).take (Tryz.prog.cellsOf 24)) = some y1 := hf 1 _ rfl
      have f2 : DataW.trod enc Tryz.prog W base spare held n 30 (([c0, c1, c2, c3, c4, c5, c6, c7, c8].drop 5).take (Tryz.prog.cellsOf 30)) = some y2 := hf 2 _ rfl
      have f3 : DataW.trod enc Tryz.prog W base spare held n 3 (([c0, c1, c2, c3, c4, c5, c6, c7, c8].drop 6).take (Tryz.prog.cellsOf 3)) = some y3 := hf 3 _ rfl
      have f4 : DataW.trod enc Tryz.prog W base spare held n 3 (([c0, c1, c2, c3, c4, c5, c6, c7, c8].drop 7).take (Tryz.prog.cellsOf 3)) = some y4 := hf 4 _ rfl
      have f5 : DataW.trod enc Tryz.prog W base spare held n 3 (([c0, c1, c2, c3, c4, c5, c6, c7, c8].drop 8).take (Tryz.prog.cellsOf 3)) = some y5 := hf 5 _ rfl
      simp only [ci, cs4, csl, List.drop_zero, List.drop_succ_cons, List.take_succ_cons, List.take_zero] at f0 f1 f2 f3 f4 f5
      obtain ⟨k, e0, _, w0⟩ := DataW.trod_int Tryz.underlying3 f0
      obtain ⟨mn, e3, _, w3⟩ := DataW.trod_int Tryz.underlying3 f3
      obtain ⟨mx, e4, _, w4⟩ := DataW.trod_int Tryz.underlying3 f4
      obtain ⟨nu, e5, _, w5⟩ := DataW.trod_int Tryz.underlying3 f5
      obtain ⟨zs, m, _, _, _, hzl, hz⟩ := DataW.trod_array Tryz.underlying24 f1
      rw [cu] at hz
      obtain ⟨is, his, hw⟩ := ints_of_trod Tryz.underlying22 [c1, c2, c3, c4] zs (by rw [hzl]; rfl) (fun i hi => by simpa using hz i (by omega))
      obtain ⟨a, b, c, d, rfl⟩ := list4_of (zs := is) (by have := congrArg List.length his; simpa using this.symm)
      obtain ⟨u, l, e2, hst, hwf, hbl⟩ := slice_T Tryz.underlying30 (fun m hm => ih m (by omega)) f2
      simp only [List.cons.injEq, and_true, List.map_cons, List.map_nil] at e0 e2 e3 e4 e5 his
      obtain ⟨i1, i2, i3, i4⟩ := his
      subst e0 e2 e3 e4 e5 i1 i2 i3 i4
      refine ⟨.mk k ⟨a, b, c, d⟩ l mn mx nu, RT_mk.2 ⟨_, rfl, hst⟩, ?_, ?_⟩
      · rw [T.wf]
        exact ⟨⟨hw _ (by simp), hw _ (by simp), hw _ (by simp), hw _ (by simp)⟩, w0, w3, w4, w5, hwf⟩
      · have := bulk_one y0.1
        simp only [T.bulk, List.map_cons, List.map_nil, Rows.uptoBulk, Rows.uptoBulkAll]; omega

set_option maxRecDepth 100000 in
/-- A node as an argument. -/
theorem open_T {w : World} {r : Reach} {b : Nat} {v : Value} {d : DataW H} {p : List MemPlace} (hv : Value.okWide Tryz.prog w r b 32 v) (h : DataW.Trod enc Tryz.prog W base spare held 32 v d p) :
    ∃ t cs, v = .agg cs.toArray ∧ RT nob W t cs ∧ t.wf ∧ t.bulk ≤ Rows.uptoBulk d := by
  simp only [Value.okWide, Tryz.underlying32] at hv
  obtain ⟨cs, rfl, _, _⟩ := hv
  obtain ⟨fuel, hf⟩ := h
  obtain ⟨_, t, h1, h2, h3⟩ := trod_T fuel _ _ hf
  exact ⟨t, cs.toList, by simp, h1, h2, h3⟩

set_option maxRecDepth 100000 in
/-- Nodes as an argument. -/
theorem open_Ts {w : World} {r : Reach} {b : Nat} {v : Value} {d : DataW H} {p : List MemPlace} (hv : Value.okWide Tryz.prog w r b 30 v) (h : DataW.Trod enc Tryz.prog W base spare held 30 v d p) :
    ∃ l, ST nob W l v ∧ T.wfs l ∧ T.bulks l ≤ Rows.uptoBulk d := by
  obtain ⟨fuel, hf⟩ := h
  obtain ⟨u, l, h1, h2, h3, h4⟩ := slice_T Tryz.underlying30 (fun m _ => trod_T m) hf
  have hvc : v.cells.toList = [u] := h1
  have : v = u := by
    rcases h2 with ⟨⟨a, c, rfl⟩, _⟩ | ⟨g, off, cap, rfl, _⟩
    all_goals
      cases v <;> first | (simp [Value.cells] at hvc; done) | (simpa [Value.cells] using hvc) | skip
    all_goals simp_all [Value.okWide, Tryz.underlying30, Cell.okWide, Cell.ok]
  subst this
  exact ⟨l, h2, h3, h4⟩
end

end Go.Proofs.YtlchaocpejfikaaGreatDoor
