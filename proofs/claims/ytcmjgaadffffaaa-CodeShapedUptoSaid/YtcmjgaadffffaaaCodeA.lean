/-
  Programs in plain words: instructions, a builder, how they lie in memory; put, next, split.
-/
import Derived.Test.YtcmjgaadffffaaaTreeE
import Derived.Test.YtcmjgaadffffaaaOctetA
import Derived.Laws.OwnMore
namespace Go.Proofs.Ytcmjgaadffffaaa
open Go.RowKit

/-- An instruction. -/
structure Ins where
  op : Int
  set : S4
  x : Int
  y : Int
  deriving DecidableEq
def Ins.cells (i : Ins) : List Value := .int .i64 i.op :: (i.set.cells ++ [.int .i64 i.x, .int .i64 i.y])
def insC (l : List Ins) : List Value := l.flatMap Ins.cells
/-- An instruction without a set. -/
def mkI (op x y : Int) : Ins := ⟨op, ⟨0, 0, 0, 0⟩, x, y⟩
abbrev insV (i : Ins) : Value := .agg #[.int .i64 i.op, .int .u64 i.set.a, .int .u64 i.set.b, .int .u64 i.set.c, .int .u64 i.set.d, .int .i64 i.x, .int .i64 i.y]
theorem insC_len (l : List Ins) : (insC l).length = l.length * 7 := by
  induction l with
  | nil => rfl
  | cons i l ih => rw [insC, List.flatMap_cons, List.length_append, ← insC, ih]; simp [Ins.cells, S4.cells]; omega
theorem insC_append (l m : List Ins) : insC (l ++ m) = insC l ++ insC m := List.flatMap_append
theorem insC_one (i : Ins) : insC [i] = i.cells := by simp [insC]

/-- A builder. -/
structure Bd where
  ins : List Ins
  groups : Int
  loops : Int
  backs : Bool
  full : Bool
def Bd.room (b : Bd) : Bool := decide (b.ins.length < 3000)
def Bd.put (b : Bd) (i : Ins) : Bd := if b.ins.length < 3000 then { b with ins := b.ins ++ [i] } else { b with full := true }
/-- The number of what is put. -/
def Bd.at (b : Bd) : Int := if b.ins.length < 3000 then b.ins.length else 0
abbrev bdC (v : Value) (b : Bd) : Array Value := #[v, .int .i64 b.groups, .int .i64 b.loops, .bool b.backs, .bool b.full]

/-- A builder that lies in block b, its instructions in block g. -/
def BAt (b : Nat) (s : Bd) (g : Option Nat) (w : World) : Prop :=
  ∃ v, w.heap[b]? = some (.cells (bdC v s) 58 (0, 0)) ∧ w.ownsRow 0 43 7 v s.ins.length (insC s.ins) ∧ v.ownBlock = g ∧ g ≠ some b
/-- Behind a call that writes to a builder. -/
def Laid (b : Nat) (s : Bd) (g : Option Nat) (w w' : World) : Prop := ∃ g', BAt b s g' w' ∧ Fr (LS b g) w w' ∧ ∀ k, g' = some k → g = some k ∨ w.heap.size ≤ k

theorem BAt.lt {b : Nat} {s : Bd} {g : Option Nat} {w : World} (h : BAt b s g w) : b < w.heap.size := by obtain ⟨v, hb, _⟩ := h; exact lt_heap hb
theorem BAt.on {b : Nat} {s : Bd} {g : Option Nat} {w w' : World} (h : BAt b s g w) (hf : Fr nob w w') : BAt b s g w' := by
  obtain ⟨v, hb, hown, hg, hne⟩ := h
  exact ⟨v, hf.heap hb (fun x => x), ownsRow_fr hown hf (fun _ _ x => x), hg, hne⟩
theorem BAt.ls {b : Nat} {s : Bd} {g : Option Nat} {w : World} (h : BAt b s g w) : ∀ k, LS b g k → k < w.heap.size := by
  intro k hk
  rcases hk with rfl | hk
  · exact h.lt
  · obtain ⟨v, _, hown, hg, _⟩ := h
    rcases hown.2 with ⟨rfl, _⟩ | ⟨r, cap, cur, rfl, _, hr, _⟩
    · rw [hk] at hg; cases hg
    · rw [hk] at hg; injection hg with hg; subst hg; exact lt_heap hr
theorem Laid.refl {b : Nat} {s : Bd} {g : Option Nat} {w w' : World} (h : BAt b s g w') (f : Fr nob w w') : Laid b s g w w' := ⟨g, h, f.any, fun _ h => .inl h⟩
/-- One such call behind the other. -/
theorem Laid.trans {b : Nat} {s : Bd} {g g1 : Option Nat} {w w1 w2 : World} (f : Fr (LS b g) w w1) (hg : ∀ k, g1 = some k → g = some k ∨ w.heap.size ≤ k) (h : Laid b s g1 w1 w2) : Laid b s g w w2 := by
  obtain ⟨g2, hB, f2, h2⟩ := h
  refine ⟨g2, hB, f.trans f2 (LS.late hg), fun k hk => ?_⟩
  rcases h2 k hk with h | h
  · exact hg k h
  · have := f.size; exact .inr (by omega)
theorem Laid.pre {b : Nat} {s : Bd} {g : Option Nat} {w w1 w2 : World} (f : Fr nob w w1) (h : Laid b s g w1 w2) : Laid b s g w w2 := h.trans f.any (fun _ h => .inl h)
theorem Laid.post {b : Nat} {s : Bd} {g : Option Nat} {w w1 w2 : World} (h : Laid b s g w w1) (f : Fr nob w1 w2) : Laid b s g w w2 := by
  obtain ⟨g', hB, f1, hg⟩ := h
  exact ⟨g', hB.on f, f1.trans' f.any, hg⟩
/-- Nodes that lie elsewhere stay. -/
theorem LS.sub {b : Nat} {g g' : Option Nat} {w : World} (h : ∀ k, g' = some k → g = some k ∨ w.heap.size ≤ k) : ∀ k, k < w.heap.size → LS b g' k → LS b g k := LS.late h

theorem ruleB {w : World} {b : Nat} {v0 v1 v2 v3 v4 : Value} {T : TypeId} (h : w.heap[b]? = some (.cells #[v0, v1, v2, v3, v4] T (0, 0))) : ∀ w', Fr nob w w' →
    (w'.cell? ⟨b, 0, none⟩ = some v0 ∧ w'.cell? ⟨b, 1, none⟩ = some v1 ∧ w'.cell? ⟨b, 2, none⟩ = some v2 ∧ w'.cell? ⟨b, 3, none⟩ = some v3 ∧ w'.cell? ⟨b, 4, none⟩ = some v4) ∧
    (w'.frozen? ⟨b, 0, none⟩ = false ∧ w'.frozen? ⟨b, 1, none⟩ = false ∧ w'.frozen? ⟨b, 2, none⟩ = false ∧ w'.frozen? ⟨b, 3, none⟩ = false ∧ w'.frozen? ⟨b, 4, none⟩ = false) := fun _ f => by
  have h' := f.heap h (fun x => x)
  exact ⟨⟨cell_at h' rfl, cell_at h' rfl, cell_at h' rfl, cell_at h' rfl, cell_at h' rfl⟩, unfrozen_at h' _, unfrozen_at h' _, unfrozen_at h' _, unfrozen_at h' _, unfrozen_at h' _⟩
theorem frB_drew_iff (a w : World) : Fr nob a w.drew = Fr nob a w := propext ⟨Fr.undrew, Fr.drew⟩
attribute [go_sem] Fr.refl frB_drew_iff Fr.alloc
theorem newAtB (w : World) (A : Obj) : (w.alloc A).heap[w.heap.size]? = some A := by unfold World.alloc; exact Array.getElem?_push_size

theorem info_inst : (Try.prog.info? 43).map (fun i => (i.zero, i.size, i.bytes)) = some (some (.agg #[.int .i64 0, .int .u64 0, .int .u64 0, .int .u64 0, .int .u64 0, .int .i64 0, .int .i64 0]), 7, 56) := by kernel_rfl

/-- next. -/
theorem next_any (b : Nat) (s : Bd) (g : Option Nat) (w : World) (h : BAt b s g w) :
    Calls Try.prog 29 #[.pointer (some ⟨b, 0, none⟩)] w fun e w' => e = .returned (.int .i64 s.ins.length) ∧ w = w' := by
  obtain ⟨v, hb, hown, hg, hne⟩ := h
  obtain ⟨a, c, rfl⟩ := ownsRow_slice hown
  have rz := ruleB hb
  clear hb hown hg
  go_enter Try.func29, Try.ntmps29
  go_wp2
  go_ret
  exact ⟨rfl, rfl⟩

/-- put, where there is no room. -/
theorem put_full (b : Nat) (s : Bd) (g : Option Nat) (i : Ins) (w : World) (hn : ¬ s.ins.length < 3000) (h : BAt b s g w) :
    Calls Try.prog 17 #[.pointer (some ⟨b, 0, none⟩), insV i] w fun e w' => e = .returned (.int .i64 0) ∧ Laid b { s with full := true } g w w' := by
  obtain ⟨v, hb, hown, hg, hne⟩ := h
  obtain ⟨a, c, rfl⟩ := ownsRow_slice hown
  have rz := ruleB hb
  have hn' : (3000 : Int) ≤ s.ins.length := by omega
  obtain ⟨w1, hw1⟩ : ∃ w1, w1 = w.alloc (.cells #[.int .i64 i.op, .int .u64 i.set.a, .int .u64 i.set.b, .int .u64 i.set.c, .int .u64 i.set.d, .int .i64 i.x, .int .i64 i.y] 43) := ⟨_, rfl⟩
  have f1 : Fr nob w w1 := by rw [hw1]; exact (Fr.refl _ _).alloc _
  have HB := Lib.hid hb; have HO := Lib.hid hown; have HG := Lib.hid hg; have F1 := Lib.hid f1; have HW := Lib.hid hw1
  clear hb hown hg f1 hw1
  go_enter Try.func17, Try.ntmps17
  go_wp2
  go_ret
  rw [← HW.out]
  have hb1 := F1.out.heap HB.out (fun x => x)
  have hf : Fr (LS b g) w1 (w1.setCell ⟨b, 4, none⟩ (.bool true)) := (Fr.refl (LS b g) w1).setCell (p := ⟨b, 4, none⟩) (fun _ => .inl rfl) _
  refine ⟨rfl, g, ⟨.slice a s.ins.length c, by have := heap_setCell_at hb1 4 (.bool true); simpa using this, ?_, HG.out, hne⟩, F1.out.any.trans' hf, fun _ h => .inl h⟩
  exact ownsRow_fr (ownsRow_fr HO.out F1.out (fun _ _ x => x)) ((Fr.refl (fun k => k = b) w1).setCell (p := ⟨b, 4, none⟩) (fun _ => rfl) _) (fun k hk e => hne (by rw [← HG.out, hk, e]))

theorem step_append_i {P : Program} {ops : Array Oper} {o : Oper} {a : Act} {w : World} {K : Act → World → Prop} {Q : Exit → Act → World → Prop} {E : Prop}
    (hg : o.guard = none) (s x : Operand) (t : TypeId) (hop : o.op = Op.call { callee := Callee.builtin Builtin.append, args := #[s, x], argTypes := #[t, t] })
    (e : TypeId) (i : TypeInfo) (z : Value) (size bytes : Nat) (ht : P.underlying t = some (.slice e)) (hi : P.info? e = some i) (hz : i.zero = some z)
    (hsize : i.size = size) (hby : i.bytes = bytes) (hzs : z.cells.size = size) (hsz : 0 < size)
    (v : Value) (n : Nat) (xs : List Value) (hs : a.eval s = v) (hown : w.ownsRow 0 e size v n xs)
    (ad : Addr) (m c : Nat) (news : List Value) (hx : a.eval x = .slice (some ad) m c) (hl : news.length = m * size) (hnews : ∀ j u, news[j]? = some u → w.cell? (ad.add j) = some u) (h1 : ∀ u ∈ news, u.oneCell' = true)
    (h63 : n + m ≤ maxLen) (hbytes : (n + m) * bytes ≤ 140737488355328)
    (hK : ∀ v' w', w'.ownsRow 0 e size v' (n + m) (xs ++ news) → Appd m v v' w w' → K (a.put o.dst v') w') :
    if Region.wanted o (yielded ops a.tmps) = true then Oper.wp P o a w K Q else E := step_append_g hg s x t hop e i z size bytes ht hi hz hsize hby hzs hsz v n xs hs hown ad m c news hx hl hnews h1 h63 hbytes hK

theorem ins_news {w : World} {g : Nat} {i : Ins} {T : TypeId} {fr : Nat × Nat} (h : w.heap[g]? = some (.cells #[.int .i64 i.op, .int .u64 i.set.a, .int .u64 i.set.b, .int .u64 i.set.c, .int .u64 i.set.d, .int .i64 i.x, .int .i64 i.y] T fr)) :
    ∀ j u, i.cells[j]? = some u → w.cell? ((⟨g, 0, none⟩ : Addr).add j) = some u := by
  intro j u hj
  have hb : w.cell? ⟨g, j, none⟩ = some u := cell_at h (by
    have : (#[Value.int .i64 i.op, .int .u64 i.set.a, .int .u64 i.set.b, .int .u64 i.set.c, .int .u64 i.set.d, .int .i64 i.x, .int .i64 i.y] : Array Value) = i.cells.toArray := rfl
    rw [this]; simpa using hj)
  cases j with
  | zero => exact hb
  | succ j => simpa [Addr.add] using hb
theorem ins_one {i : Ins} : ∀ u ∈ i.cells, u.oneCell' = true := by
  intro u hu
  simp only [Ins.cells, S4.cells, List.cons_append, List.nil_append, List.mem_cons, List.not_mem_nil, or_false] at hu
  rcases hu with rfl | rfl | rfl | rfl | rfl | rfl | rfl <;> rfl

section
variable {b : Nat} {s : Bd} {g : Option Nat} {w W0 w3 : World} {v v' : Value} {i : Ins}
theorem putB_cells (hbk : w.heap[b]? = some (.cells (bdC v s) 58 (0, 0))) (hg : v.ownBlock = g) (hne : g ≠ some b) (f : Fr nob w W0) (hap : Appd 1 v v' W0 w3) :
    w3.heap[b]? = some (.cells (bdC v s) 58 (0, 0)) ∧ w3.cell? ⟨b, 0, none⟩ = some v ∧ w3.frozen? ⟨b, 0, none⟩ = false := by
  have h := hap.fr.heap (f.heap hbk (fun x => x)) (fun e => hne (by rw [← hg, e]))
  exact ⟨h, cell_at h rfl, unfrozen_at h 0⟩
theorem putB (hbk : w.heap[b]? = some (.cells (bdC v s) 58 (0, 0))) (hg : v.ownBlock = g) (hne : g ≠ some b) (f : Fr nob w W0) (hap : Appd 1 v v' W0 w3)
    (hown : w3.ownsRow 0 43 7 v' (s.ins.length + 1) (insC s.ins ++ i.cells)) : Laid b { s with ins := s.ins ++ [i] } g w (w3.setCell ⟨b, 0, none⟩ v') := by
  obtain ⟨h3, _⟩ := putB_cells hbk hg hne f hap
  have hlt := lt_heap hbk
  have hsz := f.size
  have hold : ∀ j, v'.ownBlock = some j → g = some j ∨ w.heap.size ≤ j := by
    intro j hj
    rcases hap.old j hj with h | h
    · exact .inl (by rw [← hg, h])
    · exact .inr (by omega)
  have hne' : v'.ownBlock ≠ some b := by
    intro e
    rcases hold b e with h | h
    · exact hne h
    · omega
  refine ⟨v'.ownBlock, ⟨v', by have := heap_setCell_at h3 0 v'; simpa using this, ?_, rfl, hne'⟩, ?_, hold⟩
  · have := ownsRow_fr hown ((Fr.refl (fun k => k = b) w3).setCell (p := ⟨b, 0, none⟩) (fun _ => rfl) v') (fun k hk e => hne' (by rw [hk, e]))
    rw [insC_append, insC_one]
    simpa using this
  · exact (f.any.trans (hap.fr.mono (T := LS b g) fun k _ hk => .inr (by rw [← hg, hk])) (fun _ _ x => x)).setCell (p := ⟨b, 0, none⟩) (fun _ => .inl rfl) v'
end

set_option maxRecDepth 100000 in
set_option maxHeartbeats 1000000 in
/-- put, where there is room. -/
theorem put_ok (b : Nat) (s : Bd) (g : Option Nat) (i : Ins) (w : World) (hn : s.ins.length < 3000) (h : BAt b s g w) :
    Calls Try.prog 17 #[.pointer (some ⟨b, 0, none⟩), insV i] w fun e w' => e = .returned (.int .i64 s.ins.length) ∧ Laid b { s with ins := s.ins ++ [i] } g w w' := by
  obtain ⟨v, hb, hown, hg, hne⟩ := h
  obtain ⟨a, c, rfl⟩ := ownsRow_slice hown
  have hn' : ¬ (3000 : Int) ≤ s.ins.length := by omega
  have hw7 : IntKind.i64.wrap ((s.ins.length : Int) + 1 - 1) = s.ins.length := by rw [Int.add_sub_cancel]; exact IntWalk.i64_in _ (by omega)
  obtain ⟨w1, hw1⟩ : ∃ w1, w1 = w.alloc (.cells #[.int .i64 i.op, .int .u64 i.set.a, .int .u64 i.set.b, .int .u64 i.set.c, .int .u64 i.set.d, .int .i64 i.x, .int .i64 i.y] 43) := ⟨_, rfl⟩
  have f1 : Fr nob w w1 := by rw [hw1]; exact (Fr.refl _ _).alloc _
  have hi1 : w1.heap[w.heap.size]? = some (.cells #[.int .i64 i.op, .int .u64 i.set.a, .int .u64 i.set.b, .int .u64 i.set.c, .int .u64 i.set.d, .int .i64 i.x, .int .i64 i.y] 43 (0, 0)) := by rw [hw1]; exact newAtB _ _
  have hb1 := f1.heap hb (fun x => x)
  have ho1 := ownsRow_fr hown f1 (fun _ _ x => x)
  obtain ⟨i0, hi, hz0, hz1, hz2⟩ := info_parts info_inst
  have F1 := Lib.hid f1; have HW := Lib.hid hw1; have HB := Lib.hid hb1; have HO := Lib.hid ho1; have HG := Lib.hid hg
  have rb := ruleB hb
  clear f1 hw1 hb hown hg ho1
  go_enter Try.func17, Try.ntmps17
  go_wp2_with fail
  rw [← HW.out]
  have ri : ∀ w', Fr nob w1 w' → (w'.cell? ⟨w.heap.size, 0, none⟩ = some (.int .i64 i.op) ∧ w'.cell? ⟨w.heap.size, 1, none⟩ = some (.int .u64 i.set.a) ∧ w'.cell? ⟨w.heap.size, 2, none⟩ = some (.int .u64 i.set.b) ∧ w'.cell? ⟨w.heap.size, 3, none⟩ = some (.int .u64 i.set.c) ∧ w'.cell? ⟨w.heap.size, 4, none⟩ = some (.int .u64 i.set.d) ∧ w'.cell? ⟨w.heap.size, 5, none⟩ = some (.int .i64 i.x) ∧ w'.cell? ⟨w.heap.size, 6, none⟩ = some (.int .i64 i.y)) := fun w' f => by
    have h := f.heap hi1 (fun x => x)
    exact ⟨cell_at h rfl, cell_at h rfl, cell_at h rfl, cell_at h rfl, cell_at h rfl, cell_at h rfl, cell_at h rfl⟩
  have rb1 := ruleB hb1
  clear rb hi1 hb1
  go_region_law (refine step_append_i rfl (.tmp 20) (.tmp 22) 30 rfl 43 i0 (.agg #[.int .i64 0, .int .u64 0, .int .u64 0, .int .u64 0, .int .u64 0, .int .i64 0, .int .i64 0]) 7 56 Try.underlying30 hi hz0 hz1 hz2 rfl (by decide) (.slice a s.ins.length c) s.ins.length (insC s.ins) (by rfl) (by first | exact ownsRow_fr HO.out (((Fr.refl nob w1).alloc _).drew) (fun _ _ x => x) | exact ownsRow_fr HO.out (((Fr.refl nob w1).drew).alloc _) (fun _ _ x => x)) ⟨w1.heap.size, 0, none⟩ 1 1 i.cells (by rfl) rfl (by first | exact ins_news (newAtB w1 _) | exact ins_news (newAtB w1.drew _)) ins_one (by unfold maxLen; omega) (by omega) ?_; intro v' w3 hown' hap; obtain ⟨av, cv, rfl⟩ := ownsRow_slice hown'; have hpush := (by first | exact Lib.hid (putB HB.out HG.out hne (((Fr.refl nob w1).alloc _).drew) hap hown') | exact Lib.hid (putB HB.out HG.out hne (((Fr.refl nob w1).drew).alloc _) hap hown')); obtain ⟨_, pc, pf⟩ := (by first | exact putB_cells HB.out HG.out hne (((Fr.refl nob w1).alloc _).drew) hap | exact putB_cells HB.out HG.out hne (((Fr.refl nob w1).drew).alloc _) hap); clear hown' hap)
  all_goals
    go_wp2
    go_ret
    exact ⟨ret_int (by omega), hpush.out.pre F1.out⟩

theorem put_any (b : Nat) (s : Bd) (g : Option Nat) (i : Ins) (w : World) (h : BAt b s g w) :
    Calls Try.prog 17 #[.pointer (some ⟨b, 0, none⟩), insV i] w fun e w' => e = .returned (.int .i64 s.at) ∧ Laid b (s.put i) g w w' := by
  unfold Bd.put Bd.at
  by_cases hn : s.ins.length < 3000
  · simp only [if_pos hn]; exact put_ok b s g i w hn h
  · simp only [if_neg hn]; exact put_full b s g i w hn h

/-- split. -/
theorem split_any (b : Nat) (s : Bd) (g : Option Nat) (w : World) (hs : s.ins.length ≤ 3000) (h : BAt b s g w) :
    Calls Try.prog 28 #[.pointer (some ⟨b, 0, none⟩)] w fun e w' => e = .returned (.int .i64 s.at) ∧ Laid b (s.put (mkI 1 (s.ins.length + 1) 0)) g w w' := by
  have hwr : IntKind.i64.wrap ((s.ins.length : Int) + 1) = (s.ins.length : Int) + 1 := IntWalk.i64_in _ (by omega)
  have H := Lib.hid h; clear h
  go_enter Try.func28, Try.ntmps28
  go_wp2_with fail
  refine (next_any b s g w H.out).mono ?_
  rintro e w1 ⟨rfl, rfl⟩
  go_wp2_with fail
  refine (put_any b s g (mkI 1 (s.ins.length + 1) 0) w H.out).mono ?_
  rintro e w1 ⟨rfl, h1⟩
  have H1 := Lib.hid h1; clear h1
  go_wp2
  go_ret
  exact ⟨rfl, H1.out⟩

end Go.Proofs.Ytcmjgaadffffaaa
