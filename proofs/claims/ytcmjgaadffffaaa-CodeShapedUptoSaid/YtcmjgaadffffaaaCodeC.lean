/-
  Walks of package code: what leads elsewhere later; alt.
-/
import Derived.Test.YtcmjgaadffffaaaCodeB
namespace Go.Proofs.Ytcmjgaadffffaaa
open Go.RowKit

theorem insC_set (l : List Ins) (k j : Nat) (hk : k < l.length) (hj : j < 7) (f : Ins → Ins) (u : Value) (hf : (f l[k]).cells = l[k].cells.set j u) : insC (l.modify k f) = (insC l).set (k * 7 + j) u := by
  induction l generalizing k with
  | nil => simp at hk
  | cons i l ih =>
    cases k with
    | zero =>
      rw [List.modify_zero_cons, insC, insC, List.flatMap_cons, List.flatMap_cons, List.set_append_left _ _ (by simp [Ins.cells, S4.cells]; omega)]
      simp only [Nat.zero_mul, Nat.zero_add]
      rw [show (f i).cells = i.cells.set j u from hf]
    | succ k =>
      rw [List.modify_succ_cons, insC, insC, List.flatMap_cons, List.flatMap_cons]
      rw [List.set_append_right _ _ (by simp [Ins.cells, S4.cells]; omega)]
      congr 1
      rw [show (k + 1) * 7 + j - i.cells.length = k * 7 + j by simp [Ins.cells, S4.cells]; omega]
      exact ih k (by simpa using hk) (by simpa using hf)
theorem insC_get (l : List Ins) (k j : Nat) (hk : k < l.length) (hj : j < 7) : (insC l)[k * 7 + j]? = l[k].cells[j]? := by
  induction l generalizing k with
  | nil => simp at hk
  | cons i l ih =>
    rw [insC, List.flatMap_cons]
    cases k with
    | zero => rw [List.getElem?_append_left (by simp [Ins.cells, S4.cells]; omega)]; simp
    | succ k =>
      rw [List.getElem?_append_right (by simp [Ins.cells, S4.cells]; omega), show (k + 1) * 7 + j - i.cells.length = k * 7 + j by simp [Ins.cells, S4.cells]; omega]
      exact ih k (by simpa using hk)

/-- What a store into an instruction leaves. -/
structure Patch (b : Nat) (s t : Bd) (g : Option Nat) (w : World) (gb c k : Nat) : Prop where
  head : ∀ w', Fr nob w w' → w'.cell? ⟨b, 0, none⟩ = some (.slice (some ⟨gb, 0, none⟩) s.ins.length c)
  cell : ∀ w', Fr nob w w' → (∃ x, w'.cell? ⟨gb, k, none⟩ = some x) ∧ w'.frozen? ⟨gb, k, none⟩ = false
  done : ∀ w', Fr nob w w' → Laid b t g w (w'.setCell ⟨gb, k, none⟩ (.int .i64 s.ins.length))

theorem patch {b : Nat} {s : Bd} {g : Option Nat} {w : World} (h : BAt b s g w) (i j : Nat) (hi : i < s.ins.length) (hj : j < 7) (f : Ins → Ins) (hf : ∀ x : Ins, (f x).cells = x.cells.set j (.int .i64 s.ins.length)) :
    ∃ gb c, Patch b s { s with ins := s.ins.modify i f } g w gb c (i * 7 + j) := by
  obtain ⟨v, hb, hown, hg, hne⟩ := h
  obtain ⟨gb, c, rfl⟩ : ∃ gb c, v = .slice (some ⟨gb, 0, none⟩) s.ins.length c := by
    rcases hown.2 with ⟨_, h0⟩ | ⟨gb, c, _, h, _⟩
    · omega
    · exact ⟨gb, c, h⟩
  have hg' : g = some gb := by rw [← hg]; rfl
  subst hg'
  have hgb : gb ≠ b := fun e => hne (by rw [e])
  refine ⟨gb, c, ⟨fun w' f' => cell_at (f'.heap hb (fun x => x)) rfl, fun w' f' => ?_, fun w' f' => ?_⟩⟩
  · have ho := ownsRow_fr hown f' (fun _ _ x => x)
    refine ⟨?_, ho.frozenAt _⟩
    rw [ho.cellAt _ (by omega), insC_get _ _ _ hi hj]
    exact ⟨_, List.getElem?_eq_getElem (by simp [Ins.cells, S4.cells]; omega)⟩
  · have ho := ownsRow_fr hown f' (fun _ _ x => x)
    have hb' := f'.heap hb (fun x => x)
    refine ⟨some gb, ⟨_, heap_setCell_ne hb' (Ne.symm hgb) _, ?_, rfl, hne⟩, f'.any.trans' ((Fr.refl (LS b (some gb)) w').setCell (p := ⟨gb, i * 7 + j, none⟩) (fun _ => .inr rfl) _), fun _ h => .inl h⟩
    have := (ho.stored (i * 7 + j) (.int .i64 s.ins.length)).1
    simp only [List.length_modify]
    rw [insC_set s.ins i j hi hj f _ (hf _)]
    exact this
theorem patchY {b : Nat} {s : Bd} {g : Option Nat} {w : World} (h : BAt b s g w) (i : Int) (h0 : 0 ≤ i) (hi : i < s.ins.length) : ∃ gb c, Patch b s (s.setY i) g w gb c (i.toNat * 7 + 6) :=
  patch h i.toNat 6 (by omega) (by omega) (fun x => { x with y := s.ins.length }) (fun x => rfl)
theorem patchX {b : Nat} {s : Bd} {g : Option Nat} {w : World} (h : BAt b s g w) (i : Int) (h0 : 0 ≤ i) (hi : i < s.ins.length) : ∃ gb c, Patch b s (s.setX i) g w gb c (i.toNat * 7 + 5) :=
  patch h i.toNat 5 (by omega) (by omega) (fun x => { x with x := s.ins.length }) (fun x => rfl)

theorem BAt.keep {S : Nat → Prop} {b : Nat} {s : Bd} {g : Option Nat} {w w' : World} (h : BAt b s g w) (f : Fr S w w') (hS : ∀ k, LS b g k → ¬ S k) : BAt b s g w' := by
  obtain ⟨v, hb, hown, hg, hne⟩ := h
  exact ⟨v, f.heap hb (hS b (.inl rfl)), ownsRow_fr hown f (fun k hk => hS k (.inr (by rw [← hg, hk]))), hg, hne⟩
/-- A call's own slice of ints. -/
def OwnI (w : World) (l : List Int) (v : Value) : Prop := w.ownsRow 0 3 1 v l.length (l.map (Value.int .i64))
theorem OwnI.keep {S : Nat → Prop} {w w' : World} {l : List Int} {v : Value} (h : OwnI w l v) (f : Fr S w w') (hn : ∀ k, v.ownBlock = some k → ¬ S k) : OwnI w' l v := ownsRow_fr h f hn
theorem OwnI.get {w : World} {l : List Int} {v : Value} (h : OwnI w l v) {k : Nat} (hk : k < l.length) : ∃ gj c, v = .slice (some ⟨gj, 0, none⟩) l.length c ∧ w.cell? ⟨gj, k, none⟩ = some (.int .i64 l[k]) := by
  unfold OwnI at h
  rcases h.2 with ⟨_, h0⟩ | ⟨gb, c, _, rfl, _⟩
  · omega
  · refine ⟨gb, c, rfl, ?_⟩
    rw [h.cellAt k (by omega)]
    simp [List.getElem?_eq_getElem hk]
/-- The jumps lie apart from the builder. -/
structure Off (b : Nat) (g : Option Nat) (lo : Nat) (v : Value) (w : World) : Prop where
  nb : ∀ k, v.ownBlock = some k → ¬ LS b g k ∧ lo ≤ k ∧ k < w.heap.size
theorem Off.nil {b : Nat} {g : Option Nat} {lo : Nat} {w : World} : Off b g lo (.slice none 0 0) w := ⟨fun k h => by cases h⟩
theorem Off.on {b : Nat} {g g' : Option Nat} {lo : Nat} {v : Value} {w w' : World} (h : Off b g lo v w) (hs : w.heap.size ≤ w'.heap.size) (hg : ∀ k, g' = some k → g = some k ∨ w.heap.size ≤ k) : Off b g' lo v w' :=
  ⟨fun k hk => by
    obtain ⟨h1, h2, h3⟩ := h.nb k hk
    exact ⟨fun hl => h1 (LS.late hg k h3 hl), h2, by omega⟩⟩
/-- append to the jumps. -/
theorem Off.push {b : Nat} {s : Bd} {g : Option Nat} {lo : Nat} {v v' : Value} {w W w' : World} {l : List Int} {J : Int} (ho : Off b g lo v w) (hB : BAt b s g w) (hlo : lo ≤ w.heap.size) (f : Fr nob w W) (hap : Appd 1 v v' W w')
    (hown : w'.ownsRow 0 3 1 v' (l.length + 1) (l.map (Value.int .i64) ++ [.int .i64 J])) :
    OwnI w' (l ++ [J]) v' ∧ Off b g lo v' w' ∧ BAt b s g w' ∧ (∀ w0 S, lo ≤ w.heap.size → w0.heap.size ≤ lo → Fr S w0 w → Fr S w0 w') := by
  refine ⟨?_, ⟨fun k hk => ?_⟩, ?_, fun w0 S h1 h2 h3 => ?_⟩
  · unfold OwnI
    simpa using hown
  · have hlt := (hown.lt k hk).2
    rcases hap.blk with e | e
    · rw [e] at hk
      obtain ⟨h1, h2, _⟩ := ho.nb k hk
      exact ⟨h1, h2, hlt⟩
    · rw [e] at hk
      injection hk with hk
      have := f.size
      refine ⟨fun hl => ?_, by omega, hlt⟩
      have := hB.ls k hl
      omega
  · refine BAt.keep (hB.on f) hap.fr fun k hl hk => ?_
    exact (ho.nb k hk).1 hl
  · refine (h3.trans' f.any).trans hap.fr fun i hi hk => ?_
    have := (ho.nb i hk).2.1
    omega
theorem layAlt_js : ∀ (l : List Nd) (s : Bd) (js : List Int), s.ok → (∀ j ∈ js, 0 ≤ j ∧ j < s.ins.length) → ∀ j ∈ (Nd.layAlt l s js).2, 0 ≤ j ∧ j < (Nd.layAlt l s js).1.ins.length
  | [], s, js, _, h => by rw [Nd.layAlt]; exact h
  | [t], s, js, hs, h => by
    rw [Nd.layAlt]
    intro j hj
    have := h j hj; have := (up_lay t s hs).le
    show 0 ≤ j ∧ j < ((t.lay s).ins.length : Int)
    omega
  | t :: u :: ts, s, js, hs, h => by
    rw [Nd.layAlt]
    have h1 := up_split hs
    have h2 := h1.trans (up_lay t _ (h1.ok hs))
    have h3 := h2.trans (up_put (h2.ok hs) (mkI 2 0 0))
    have h4 := h3.trans (up_setY (h3.ok hs) s.at)
    refine layAlt_js (u :: ts) _ _ (h4.ok hs) fun j hj => ?_
    rcases List.mem_append.1 hj with hj | hj
    · have := h j hj; have := h4.le; omega
    · have e : j = (t.lay s.split).at := by simpa using hj
      have := at_lt (h2.ok hs) (mkI 2 0 0)
      have := (up_setY (h3.ok hs) s.at).le
      subst e; omega

end Go.Proofs.Ytcmjgaadffffaaa
