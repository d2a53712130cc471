/-
  Merged texts of this claim: CmdK.
-/
import Derived.Test.YtkfddjopbocpkaaGreatDoorM28
import Derived.Test.YtkfddjopbocpkaaGreatDoorM29

set_option linter.unusedVariables false
set_option linter.unusedSimpArgs false
/-
  Walk of package cmd: command. (Printed by tools/cmdk.py.)
-/
namespace Go.Proofs.YtkfddjopbocpkaaGreatDoor
open Go.RowKit

theorem fr_setRow (w : World) (g : Nat) (cs : Array Value) : Fr (fun k => k = g) w (w.setRow g cs) := ⟨rfl, rfl, rfl, by simp, fun k _ hk => setRow_other w g k cs hk⟩
set_option maxRecDepth 100000 in
theorem info_C : (Tryz.prog.info? 35).map (·.size) = some 20 := by kernel_rfl
set_option maxRecDepth 100000 in
theorem results_C20 {fn : Func} {p : Tmp} (h : fn.results = #[.cell p 35]) {tmps : Array Value} {r : Nat} (ht : tmps.getD p undef = .pointer (some ⟨r, 0, none⟩)) {W : World} {a0 a1 a2 a3 a4 a5 a6 a7 a8 a9 a10 a11 a12 a13 a14 a15 a16 a17 a18 a19 : Value}
    (hb : W.heap[r]? = some (.cells #[a0, a1, a2, a3, a4, a5, a6, a7, a8, a9, a10, a11, a12, a13, a14, a15, a16, a17, a18, a19] 35 (0, 0))) : (results fn tmps).run Tryz.prog W = .ok (.agg #[a0, a1, a2, a3, a4, a5, a6, a7, a8, a9, a10, a11, a12, a13, a14, a15, a16, a17, a18, a19]) W := by
  exact results_cell_row h tmps W r _ _ _ _ ht hb Tryz.underlying35 rfl info_C
def A3 (O : Nat → Prop) (r c : Nat) : Nat → Prop := fun k => O k ∨ (k = r ∨ k = r + 1 ∨ k = c)
abbrev gcell (g : GV) (U1 U2 : Value) : Array Value := #[.int .i64 g.a.kind, .int .i64 g.a.line, .string ⟨g.a.text.toArray⟩, U1, .int .i64 g.b.kind, .int .i64 g.b.line, .string ⟨g.b.text.toArray⟩, U2, .bool g.no]
def CmAns (b : Nat) (l : List UInt8) (x : Bool) (S O : Nat → Prop) (w : World) (R : CV × AdS) (r : Ending) (w' : World) : Prop :=
  ∃ u1 u2 u pv S', r = .returned (.agg (cmd20 R.1.at_ (.int .i64 R.1.guard.a.kind) (.int .i64 R.1.guard.a.line) (.string ⟨R.1.guard.a.text.toArray⟩) u1 (.int .i64 R.1.guard.b.kind) (.int .i64 R.1.guard.b.line) (.string ⟨R.1.guard.b.text.toArray⟩) u2 (.bool R.1.guard.no) R.1.name R.1.arg R.1.sub u pv R.1.table)) ∧
    RN (SO S' O) w' R.1.guard.a.tree u1 ∧ RN (SO S' O) w' R.1.guard.b.tree u2 ∧ RN (SO S' O) w' R.1.sub.tree u ∧ PrO (SO S' O) w' R.1.sub.parts pv ∧ CRd b l x R.2 S' w' ∧ Stp S w S' w'
theorem run_store1 {w : World} {b j : Nat} {i : Int} (hc : (w.cell? ⟨b, j, none⟩).isSome = true) (hf : w.frozen? ⟨b, j, none⟩ = false) :
    Sem.run Tryz.prog (storeVar 3 ⟨b, j, none⟩ (.int .i64 i)) w = .ok () (w.setCell ⟨b, j, none⟩ (.int .i64 i)) := by
  obtain ⟨old, ho⟩ := Option.isSome_iff_exists.1 hc
  have hc1 : (Value.int IntKind.i64 i).cells = #[.int .i64 i] := rfl
  have hi : (Tryz.prog.info? 3).map (·.size) = some 1 := by kernel_rfl
  cases hq : Tryz.prog.info? 3 with
  | none => rw [hq] at hi; cases hi
  | some q =>
    have hs : q.size = 1 := by simpa [hq] using hi
    simp [storeVar, sizeOf, typeInfo, hq, hc1, hs, go_sem, ho, hf]
attribute [go_sem] run_store1
attribute [-go_sem] storeVar
@[go_sem high] theorem run_storeC_new {w : World} (c0 : Int) (k1 n1 : Int) (t1 : ByteArray) (u1 : Value) (k2 n2 : Int) (t2 : ByteArray) (u2 : Value) (no : Bool) (nm : Int) (ar st fi tb : ByteArray) (o1 : u1.oneCell' = true) (o2 : u2.oneCell' = true) :
    Sem.run Tryz.prog (storeVar 35 ⟨w.heap.size, 0, none⟩ (.agg #[.int .i64 c0, .int .i64 k1, .int .i64 n1, .string t1, u1, .int .i64 k2, .int .i64 n2, .string t2, u2, .bool no, .int .u8 nm, .string ar, .string st, .nilIface, .slice none 0 0, .int .i64 0, .bool false, .bool false, .string fi, .string tb])) (w.alloc (.cells #[.int .i64 0, .int .i64 0, .int .i64 0, .string ⟨#[]⟩, .nilIface, .int .i64 0, .int .i64 0, .string ⟨#[]⟩, .nilIface, .bool false, .int .u8 0, .string ⟨#[]⟩, .string ⟨#[]⟩, .nilIface, .slice none 0 0, .int .i64 0, .bool false, .bool false, .string ⟨#[]⟩, .string ⟨#[]⟩] 35)) =
      .ok () ((w.alloc (.cells #[.int .i64 0, .int .i64 0, .int .i64 0, .string ⟨#[]⟩, .nilIface, .int .i64 0, .int .i64 0, .string ⟨#[]⟩, .nilIface, .bool false, .int .u8 0, .string ⟨#[]⟩, .string ⟨#[]⟩, .nilIface, .slice none 0 0, .int .i64 0, .bool false, .bool false, .string ⟨#[]⟩, .string ⟨#[]⟩] 35)).setRow w.heap.size #[.int .i64 c0, .int .i64 k1, .int .i64 n1, .string t1, u1, .int .i64 k2, .int .i64 n2, .string t2, u2, .bool no, .int .u8 nm, .string ar, .string st, .nilIface, .slice none 0 0, .int .i64 0, .bool false, .bool false, .string fi, .string tb]) :=
  run_storeVar_row _ _ 35 _ _ _ (newAt _ _) info_C rfl (Array.all_eq_true_iff_forall_mem.2 (by intro v hv; simp only [List.mem_toArray, List.mem_cons, List.not_mem_nil, or_false] at hv; rcases hv with h | h | h | h | h | h | h | h | h | h | h | h | h | h | h | h | h | h | h | h <;> (subst h; first | rfl | assumption)))
@[go_sem high] theorem run_storeC_newD {w : World} (c0 : Int) (k1 n1 : Int) (t1 : ByteArray) (u1 : Value) (k2 n2 : Int) (t2 : ByteArray) (u2 : Value) (no : Bool) (nm : Int) (ar st fi tb : ByteArray) (o1 : u1.oneCell' = true) (o2 : u2.oneCell' = true) :
    Sem.run Tryz.prog (storeVar 35 ⟨w.heap.size, 0, none⟩ (.agg #[.int .i64 c0, .int .i64 k1, .int .i64 n1, .string t1, u1, .int .i64 k2, .int .i64 n2, .string t2, u2, .bool no, .int .u8 nm, .string ar, .string st, .nilIface, .slice none 0 0, .int .i64 0, .bool false, .bool false, .string fi, .string tb])) (w.alloc (.cells #[.int .i64 0, .int .i64 0, .int .i64 0, .string ⟨#[]⟩, .nilIface, .int .i64 0, .int .i64 0, .string ⟨#[]⟩, .nilIface, .bool false, .int .u8 0, .string ⟨#[]⟩, .string ⟨#[]⟩, .nilIface, .slice none 0 0, .int .i64 0, .bool false, .bool false, .string ⟨#[]⟩, .string ⟨#[]⟩] 35)).drew =
      .ok () ((w.alloc (.cells #[.int .i64 0, .int .i64 0, .int .i64 0, .string ⟨#[]⟩, .nilIface, .int .i64 0, .int .i64 0, .string ⟨#[]⟩, .nilIface, .bool false, .int .u8 0, .string ⟨#[]⟩, .string ⟨#[]⟩, .nilIface, .slice none 0 0, .int .i64 0, .bool false, .bool false, .string ⟨#[]⟩, .string ⟨#[]⟩] 35)).drew.setRow w.heap.size #[.int .i64 c0, .int .i64 k1, .int .i64 n1, .string t1, u1, .int .i64 k2, .int .i64 n2, .string t2, u2, .bool no, .int .u8 nm, .string ar, .string st, .nilIface, .slice none 0 0, .int .i64 0, .bool false, .bool false, .string fi, .string tb]) :=
  run_storeVar_row _ _ 35 _ _ _ (heap_drew (newAt _ _)) info_C rfl (Array.all_eq_true_iff_forall_mem.2 (by intro v hv; simp only [List.mem_toArray, List.mem_cons, List.not_mem_nil, or_false] at hv; rcases hv with h | h | h | h | h | h | h | h | h | h | h | h | h | h | h | h | h | h | h | h <;> (subst h; first | rfl | assumption)))
@[go_sem high] theorem run_storeC_newE {w : World} (c0 : Int) (k1 n1 : Int) (t1 : ByteArray) (u1 : Value) (k2 n2 : Int) (t2 : ByteArray) (u2 : Value) (no : Bool) (nm : Int) (ar st fi tb : ByteArray) (o1 : u1.oneCell' = true) (o2 : u2.oneCell' = true) :
    Sem.run Tryz.prog (storeVar 35 ⟨w.heap.size, 0, none⟩ (.agg #[.int .i64 c0, .int .i64 k1, .int .i64 n1, .string t1, u1, .int .i64 k2, .int .i64 n2, .string t2, u2, .bool no, .int .u8 nm, .string ar, .string st, .nilIface, .slice none 0 0, .int .i64 0, .bool false, .bool false, .string fi, .string tb])) (w.drew.alloc (.cells #[.int .i64 0, .int .i64 0, .int .i64 0, .string ⟨#[]⟩, .nilIface, .int .i64 0, .int .i64 0, .string ⟨#[]⟩, .nilIface, .bool false, .int .u8 0, .string ⟨#[]⟩, .string ⟨#[]⟩, .nilIface, .slice none 0 0, .int .i64 0, .bool false, .bool false, .string ⟨#[]⟩, .string ⟨#[]⟩] 35)) =
      .ok () ((w.drew.alloc (.cells #[.int .i64 0, .int .i64 0, .int .i64 0, .string ⟨#[]⟩, .nilIface, .int .i64 0, .int .i64 0, .string ⟨#[]⟩, .nilIface, .bool false, .int .u8 0, .string ⟨#[]⟩, .string ⟨#[]⟩, .nilIface, .slice none 0 0, .int .i64 0, .bool false, .bool false, .string ⟨#[]⟩, .string ⟨#[]⟩] 35)).setRow w.heap.size #[.int .i64 c0, .int .i64 k1, .int .i64 n1, .string t1, u1, .int .i64 k2, .int .i64 n2, .string t2, u2, .bool no, .int .u8 nm, .string ar, .string st, .nilIface, .slice none 0 0, .int .i64 0, .bool false, .bool false, .string fi, .string tb]) :=
  run_storeVar_row _ _ 35 _ _ _ (newAt _ _) info_C rfl (Array.all_eq_true_iff_forall_mem.2 (by intro v hv; simp only [List.mem_toArray, List.mem_cons, List.not_mem_nil, or_false] at hv; rcases hv with h | h | h | h | h | h | h | h | h | h | h | h | h | h | h | h | h | h | h | h <;> (subst h; first | rfl | assumption)))
theorem cell_alloc {w : World} {p : Addr} {v : Value} (h : w.cell? p = some v) (o : Obj) : (w.alloc o).cell? p = some v := (Fr.refl nob w |>.alloc o).cell h (fun x => x)
theorem BC.row {w : World} {b c k : Nat} {v0 v1 v2 v3 v4 u0 u1 u2 u3 u4 u5 u6 u7 u8 : Value} (h : B5 w b v0 v1 v2 v3 v4 ∧ C9 w c u0 u1 u2 u3 u4 u5 u6 u7 u8) (hb : k ≠ b) (hc : k ≠ c) (cs : Array Value) : B5 (w.setRow k cs) b v0 v1 v2 v3 v4 ∧ C9 (w.setRow k cs) c u0 u1 u2 u3 u4 u5 u6 u7 u8 := by
  obtain ⟨⟨a0, a1, a2, a3, a4⟩, c0, c1, c2, c3, c4, c5, c6, c7, c8⟩ := h
  have f := fr_setRow w k cs
  have nb : ∀ {j : Nat} {v : Value}, w.cell? ⟨b, j, none⟩ = some v → (w.setRow k cs).cell? ⟨b, j, none⟩ = some v := fun q => f.cell q (fun e => hb e.symm)
  have nc : ∀ {j : Nat} {v : Value}, w.cell? ⟨c, j, none⟩ = some v → (w.setRow k cs).cell? ⟨c, j, none⟩ = some v := fun q => f.cell q (fun e => hc e.symm)
  exact ⟨⟨nb a0, nb a1, nb a2, nb a3, nb a4⟩, nc c0, nc c1, nc c2, nc c3, nc c4, nc c5, nc c6, nc c7, nc c8⟩
theorem BC.alloc {w : World} {b c : Nat} {v0 v1 v2 v3 v4 u0 u1 u2 u3 u4 u5 u6 u7 u8 : Value} (h : B5 w b v0 v1 v2 v3 v4 ∧ C9 w c u0 u1 u2 u3 u4 u5 u6 u7 u8) (o : Obj) : B5 (w.alloc o) b v0 v1 v2 v3 v4 ∧ C9 (w.alloc o) c u0 u1 u2 u3 u4 u5 u6 u7 u8 := by
  obtain ⟨⟨a0, a1, a2, a3, a4⟩, c0, c1, c2, c3, c4, c5, c6, c7, c8⟩ := h
  exact ⟨⟨cell_alloc a0 o, cell_alloc a1 o, cell_alloc a2 o, cell_alloc a3 o, cell_alloc a4 o⟩, cell_alloc c0 o, cell_alloc c1 o, cell_alloc c2 o, cell_alloc c3 o, cell_alloc c4 o, cell_alloc c5 o, cell_alloc c6 o, cell_alloc c7 o, cell_alloc c8 o⟩

theorem Stp.drop {S S1 S2 : Nat → Prop} {w w7 w8 : World} {c : Nat} (h : Stp S w S1 w7) (k : Stp (GS S1 c) w7 (GS S2 c) w8) (hc : w.heap.size ≤ c) (hc7 : c < w7.heap.size) : Stp S w S2 w8 := by
  have h1 := h.fr.size
  refine ⟨h.fr.trans k.fr (fun i hi e => ?_), fun i hi e => ?_, fun q i e => ?_⟩
  · rcases e with e | e
    · exact h.old i hi e
    · have e : i = c := e
      omega
  · rcases k.old i (by omega) (.inl e) with e | e
    · exact h.old i hi e
    · have e : i = c := e
      omega
  · refine k.lt (fun j e => ?_) i (.inl e)
    rcases e with e | e
    · exact h.lt q j e
    · have e : j = c := e
      omega
theorem Stp.row {S S1 : Nat → Prop} {w w9 : World} {g : Nat} (h : Stp S w S1 w9) (hg : w.heap.size ≤ g) (cs : Array Value) : Stp S w S1 (w9.setRow g cs) :=
  ⟨h.fr.trans (fr_setRow w9 g cs) (fun i hi e => by have e : i = g := e; omega), h.old, fun q k hk => by have := h.lt q k hk; have := (fr_setRow w9 g cs).size; omega⟩
def endR (l : List UInt8) (R : Bool × CV × AdS) : CV × AdS := if R.1 = true ∧ R.2.2.e = 0 then (R.2.1, endC l R.2.2) else (R.2.1, R.2.2)
theorem cm_close {b : Nat} {l : List UInt8} {x : Bool} {S S1 S2 S3 O : Nat → Prop} {w w7 w8 w9 : World} {c : Nat} {s9 : AdS} {t1 t2 t : Nd} {ps : List Prt} {u1 u2 u pv : Value}
    (ST7 : Stp S w S1 w7) (st8 : Stp (GS S1 c) w7 (GS S2 c) w8) (hc : w.heap.size + 1 < c) (hc7 : c < w7.heap.size) (hn : ¬ S1 (w.heap.size + 1)) (st9 : Stp S2 w8 S3 w9)
    (rn1 : RN (SO S O) w t1 u1) (rn2 : RN (SO S O) w t2 u2) (rn8 : RN (SO S2 (A3 O w.heap.size c)) w8 t u) (po8 : PrO (SO S2 (A3 O w.heap.size c)) w8 ps pv) (h9 : CRd b l x s9 S3 w9) (cs : Array Value) :
    RN (SO S3 O) (w9.setRow (w.heap.size + 1) cs) t1 u1 ∧ RN (SO S3 O) (w9.setRow (w.heap.size + 1) cs) t2 u2 ∧ RN (SO S3 O) (w9.setRow (w.heap.size + 1) cs) t u ∧ PrO (SO S3 O) (w9.setRow (w.heap.size + 1) cs) ps pv ∧
    CRd b l x s9 S3 (w9.setRow (w.heap.size + 1) cs) ∧ Stp S w S3 (w9.setRow (w.heap.size + 1) cs) := by
  have z7 := st8.fr.size
  have hn2 : ¬ S2 (w.heap.size + 1) := fun e => by
    rcases st8.old _ (by omega) (.inl e) with e | e
    · exact hn e
    · have e : w.heap.size + 1 = c := e
      omega
  have hn3 : ¬ S3 (w.heap.size + 1) := fun e => hn2 (st9.old _ (by omega) e)
  have STF := ((ST7.drop st8 (by omega) hc7).trans st9).row (g := w.heap.size + 1) (by omega) cs
  have f := fr_setRow w9 (w.heap.size + 1) cs
  have hX : ∀ k, (fun k => k = w.heap.size + 1) k → SO S3 (A3 O w.heap.size c) k := fun k hk => .inr (.inr (.inr (.inl hk)))
  have hS : ∀ k, SO S3 O k → SO S3 (A3 O w.heap.size c) k := fun k hk => hk.elim .inl (fun e => .inr (.inl e))
  refine ⟨STF.rn rn1, STF.rn rn2, RN.keep f (fun k _ hk => hX k hk) (fun k _ hk => hS k hk) _ _ (st9.rn rn8), ?_, h9.keep f (fun k hk => by have hk : k = w.heap.size + 1 := hk; rw [hk]; exact hn3), STF⟩
  exact (po8.keep (S' := SO S3 (A3 O w.heap.size c)) st9.fr (fun _ hk => .inl hk) (fun k hk e => e.elim (fun e => .inl (st9.old k hk e)) .inr)).keep f hX (fun k _ hk => hS k hk)
set_option maxRecDepth 100000 in
set_option maxHeartbeats 4000000 in
theorem cmd_over0 {u1 u2 : Value} (o1 : u1.oneCell' = true) (o2 : u2.oneCell' = true) (b : Nat) (l : List UInt8) (x : Bool) (s : AdS) (S O : Nat → Prop) (g : GV) (w : World) (hl : l.length ≤ 99000) (ha : s.at_ ≤ l.length) (hm : s.marks.length ≤ 90000) (hS : ∀ k, S k → k < w.heap.size) (hO : ∀ k, O k → k < w.heap.size) (W0 : World) (hE : Env W0) (hW : Fr nob W0 w) (hSW : ∀ k, S k → W0.heap.size ≤ k) (h : CRd b l x s S w) (ho : l.length ≤ s.at_) :
    Calls Tryz.prog 30 #[.pointer (some ⟨b, 0, none⟩), .agg (gcell g u1 u2)] w (CmAns b l x S O w (CV.zero, failC s 5 l.length)) := by
  obtain ⟨w1, hw1⟩ : ∃ w1, w1 = w.alloc (.cells #[.int .i64 g.a.kind, .int .i64 g.a.line, .string ⟨g.a.text.toArray⟩, u1, .int .i64 g.b.kind, .int .i64 g.b.line, .string ⟨g.b.text.toArray⟩, u2, .bool g.no] 30) := ⟨_, rfl⟩
  have f1 : Fr nob w w1 := by rw [hw1]; exact (Fr.refl _ _).alloc _
  have hs1 : w1.heap.size = w.heap.size + 1 := by rw [hw1]; simp
  obtain ⟨w2, hw2⟩ : ∃ w2, w2 = w1.alloc (.cells #[.int .i64 0, .int .i64 0, .int .i64 0, .string ⟨#[]⟩, .nilIface, .int .i64 0, .int .i64 0, .string ⟨#[]⟩, .nilIface, .bool false, .int .u8 0, .string ⟨#[]⟩, .string ⟨#[]⟩, .nilIface, .slice none 0 0, .int .i64 0, .bool false, .bool false, .string ⟨#[]⟩, .string ⟨#[]⟩] 35) := ⟨_, rfl⟩
  have f2 : Fr nob w w2 := by rw [hw2]; exact f1.alloc _
  have hs2 : w2.heap.size = w.heap.size + 2 := by rw [hw2]; simp; omega
  have hz1 : w2.heap[w.heap.size]? = some (.cells #[.int .i64 g.a.kind, .int .i64 g.a.line, .string ⟨g.a.text.toArray⟩, u1, .int .i64 g.b.kind, .int .i64 g.b.line, .string ⟨g.b.text.toArray⟩, u2, .bool g.no] 30 (0, 0)) := by rw [hw2]; exact heap_alloc_lt _ (by rw [hw1]; exact newAt _ _)
  have hz2 : w2.heap[w.heap.size + 1]? = some (.cells #[.int .i64 0, .int .i64 0, .int .i64 0, .string ⟨#[]⟩, .nilIface, .int .i64 0, .int .i64 0, .string ⟨#[]⟩, .nilIface, .bool false, .int .u8 0, .string ⟨#[]⟩, .string ⟨#[]⟩, .nilIface, .slice none 0 0, .int .i64 0, .bool false, .bool false, .string ⟨#[]⟩, .string ⟨#[]⟩] 35 (0, 0)) := by rw [hw2]; exact heap_alloc_new' _ _ _ hs1.symm
  have hn1 : ¬ S w.heap.size := fun e => absurd (hS _ e) (by omega)
  have hn2 : ¬ S (w.heap.size + 1) := fun e => absurd (hS _ e) (by omega)
  have HW1 := Lib.hid hw1; have HW2 := Lib.hid hw2; have HS1 := Lib.hid hs1; have HS2 := Lib.hid hs2; have F2 := Lib.hid f2; have Z1 := Lib.hid hz1; have Z2 := Lib.hid hz2; have N1 := Lib.hid hn1; have N2 := Lib.hid hn2; have H2 := Lib.hid (h.on f2)
  clear hw1 hw2 hs1 hs2 f1 f2 hz1 hz2 hn1 hn2
  have HO := Lib.hid (cm_over b l x s S w2 (by omega) H2.out)
  rw [show decide (l.length ≤ s.at_) = true from decide_eq_true ho] at HO
  obtain ⟨mv, hm2⟩ := H2.out
  have rr := rule5 hm2.blk
  have HM := Lib.hid hm2
  clear hm2
  go_enter Tryz.func30, Tryz.ntmps30
  go_wp2_with (first | rw [← HW1.out] | rw [HS1.out] | rw [← HW2.out])
  refine HO.out.mono ?_
  rintro z w3 ⟨rfl, f3⟩
  have H3 := Lib.hid (H2.out.on f3); have F3 := Lib.hid (F2.out.trans' f3); have Z23 := Lib.hid (f3.heap Z2.out (fun x => x))
  have r3 := rr _ f3
  clear f3 rr
  go_wp2_with fail
  refine (cm_fail b l x s S 5 l.length w3 H3.out).mono ?_
  rintro z w4 ⟨rfl, h4, st4⟩
  have z4 := st4.fr.heap Z23.out N2.out
  have H4 := Lib.hid h4; have ST4 := Lib.hid ((Stp.of F3.out).trans st4); have Z4 := Lib.hid z4
  clear h4 st4 z4 r3
  go_wp2_with (refine wpList_store_row rfl 35 _ _ rfl (w.heap.size + 1) #[.int .i64 0, .int .i64 0, .int .i64 0, .string ⟨#[]⟩, .nilIface, .int .i64 0, .int .i64 0, .string ⟨#[]⟩, .nilIface, .bool false, .int .u8 0, .string ⟨#[]⟩, .string ⟨#[]⟩, .nilIface, .slice none 0 0, .int .i64 0, .bool false, .bool false, .string ⟨#[]⟩, .string ⟨#[]⟩] rfl rfl 35 _ Z4.out info_C rfl (by kernel_rfl) ?_)
  rw [setRow_self _ _ _ _ _ Z4.out]
  (try simp only [Exit.inBlock, Exit.then])
  refine bodyPost_ret (results_C20 rfl rfl Z4.out) rfl ⟨.nilIface, .nilIface, .nilIface, .slice none 0 0, S, rfl, ?_, ?_, ?_, PrO.nil _ _, H4.out, ST4.out⟩
  all_goals rfl
set_option maxRecDepth 100000 in
set_option maxHeartbeats 4000000 in
theorem cmd_neg0 {u1 u2 : Value} (o1 : u1.oneCell' = true) (o2 : u2.oneCell' = true) (b : Nat) (l : List UInt8) (x : Bool) (s : AdS) (S O : Nat → Prop) (g : GV) (w : World) (hl : l.length ≤ 99000) (ha : s.at_ ≤ l.length) (hm : s.marks.length ≤ 90000) (hS : ∀ k, S k → k < w.heap.size) (hO : ∀ k, O k → k < w.heap.size) (W0 : World) (hE : Env W0) (hW : Fr nob W0 w) (hSW : ∀ k, S k → W0.heap.size ≤ k) (h : CRd b l x s S w) (ho : s.at_ < l.length) (n : UInt8) (hn : l[s.at_] = n) (he : s.e = 0) (rn1 : RN (SO S O) w g.a.tree u1) (rn2 : RN (SO S O) w g.b.tree u2) (c1 : addrsC n < 0) :
    Calls Tryz.prog 30 #[.pointer (some ⟨b, 0, none⟩), .agg (gcell g u1 u2)] w (CmAns b l x S O w (CV.zero, failC s 13 s.at_)) := by
  obtain ⟨w1, hw1⟩ : ∃ w1, w1 = w.alloc (.cells #[.int .i64 g.a.kind, .int .i64 g.a.line, .string ⟨g.a.text.toArray⟩, u1, .int .i64 g.b.kind, .int .i64 g.b.line, .string ⟨g.b.text.toArray⟩, u2, .bool g.no] 30) := ⟨_, rfl⟩
  have f1 : Fr nob w w1 := by rw [hw1]; exact (Fr.refl _ _).alloc _
  have hs1 : w1.heap.size = w.heap.size + 1 := by rw [hw1]; simp
  obtain ⟨w2, hw2⟩ : ∃ w2, w2 = w1.alloc (.cells #[.int .i64 0, .int .i64 0, .int .i64 0, .string ⟨#[]⟩, .nilIface, .int .i64 0, .int .i64 0, .string ⟨#[]⟩, .nilIface, .bool false, .int .u8 0, .string ⟨#[]⟩, .string ⟨#[]⟩, .nilIface, .slice none 0 0, .int .i64 0, .bool false, .bool false, .string ⟨#[]⟩, .string ⟨#[]⟩] 35) := ⟨_, rfl⟩
  have f2 : Fr nob w w2 := by rw [hw2]; exact f1.alloc _
  have hs2 : w2.heap.size = w.heap.size + 2 := by rw [hw2]; simp; omega
  have hz1 : w2.heap[w.heap.size]? = some (.cells #[.int .i64 g.a.kind, .int .i64 g.a.line, .string ⟨g.a.text.toArray⟩, u1, .int .i64 g.b.kind, .int .i64 g.b.line, .string ⟨g.b.text.toArray⟩, u2, .bool g.no] 30 (0, 0)) := by rw [hw2]; exact heap_alloc_lt _ (by rw [hw1]; exact newAt _ _)
  have hz2 : w2.heap[w.heap.size + 1]? = some (.cells #[.int .i64 0, .int .i64 0, .int .i64 0, .string ⟨#[]⟩, .nilIface, .int .i64 0, .int .i64 0, .string ⟨#[]⟩, .nilIface, .bool false, .int .u8 0, .string ⟨#[]⟩, .string ⟨#[]⟩, .nilIface, .slice none 0 0, .int .i64 0, .bool false, .bool false, .string ⟨#[]⟩, .string ⟨#[]⟩] 35 (0, 0)) := by rw [hw2]; exact heap_alloc_new' _ _ _ hs1.symm
  have hn1 : ¬ S w.heap.size := fun e => absurd (hS _ e) (by omega)
  have hn2 : ¬ S (w.heap.size + 1) := fun e => absurd (hS _ e) (by omega)
  have HW1 := Lib.hid hw1; have HW2 := Lib.hid hw2; have HS1 := Lib.hid hs1; have HS2 := Lib.hid hs2; have F2 := Lib.hid f2; have Z1 := Lib.hid hz1; have Z2 := Lib.hid hz2; have N1 := Lib.hid hn1; have N2 := Lib.hid hn2; have H2 := Lib.hid (h.on f2)
  clear hw1 hw2 hs1 hs2 f1 f2 hz1 hz2 hn1 hn2
  have HO := Lib.hid (cm_over b l x s S w2 (by omega) H2.out)
  rw [show decide (l.length ≤ s.at_) = false from decide_eq_false (by omega)] at HO
  have hoi : (s.at_ : Int) < l.length := by omega
  have hlti : (l.length : Int) ≤ 99000 := by omega
  go_enter Tryz.func30, Tryz.ntmps30
  go_wp2_with (first | rw [← HW1.out] | rw [HS1.out] | rw [← HW2.out])
  refine HO.out.mono ?_
  rintro z w3 ⟨rfl, f3⟩
  have H3 := Lib.hid (H2.out.on f3); have F3 := Lib.hid (F2.out.trans' f3); have Z23 := Lib.hid (f3.heap Z2.out (fun x => x)); have Z13 := Lib.hid (f3.heap Z1.out (fun x => x))
  obtain ⟨mv, hm3⟩ := H3.out
  have HQ := Lib.hid (And.intro (B5.of hm3.blk) (C9.of Z13.out)); have HQd := Lib.hid (BC.drew (And.intro (B5.of hm3.blk) (C9.of Z13.out)))
  have hb3 := lt_heap hm3.blk; have hc3 := lt_heap Z13.out
  clear f3 hm3
  have e1 := run_storeC_new (w := w3) (s.at_ : Nat) g.a.kind g.a.line ⟨g.a.text.toArray⟩ u1 g.b.kind g.b.line ⟨g.b.text.toArray⟩ u2 g.no (n.toNat : Nat) ⟨#[]⟩ ⟨#[]⟩ ⟨#[]⟩ ⟨#[]⟩ o1 o2
  have e2 := run_storeC_newD (w := w3) (s.at_ : Nat) g.a.kind g.a.line ⟨g.a.text.toArray⟩ u1 g.b.kind g.b.line ⟨g.b.text.toArray⟩ u2 g.no (n.toNat : Nat) ⟨#[]⟩ ⟨#[]⟩ ⟨#[]⟩ ⟨#[]⟩ o1 o2
  have e3 := run_storeC_newE (w := w3) (s.at_ : Nat) g.a.kind g.a.line ⟨g.a.text.toArray⟩ u1 g.b.kind g.b.line ⟨g.b.text.toArray⟩ u2 g.no (n.toNat : Nat) ⟨#[]⟩ ⟨#[]⟩ ⟨#[]⟩ ⟨#[]⟩ o1 o2
  go_wp2_with fail
  go_region_held3 (fun w' => B5 w' b (.string ⟨l.toArray⟩) (.int .i64 (s.at_ : Nat)) (.bool x) mv (.int .i64 s.e) ∧ C9 w' w.heap.size (.int .i64 g.a.kind) (.int .i64 g.a.line) (.string ⟨g.a.text.toArray⟩) u1 (.int .i64 g.b.kind) (.int .i64 g.b.line) (.string ⟨g.b.text.toArray⟩) u2 (.bool g.no)) (repeat (first | (with_reducible exact HQ.out) | (with_reducible exact HQd.out) | (with_reducible refine BC.drew ?_) | (with_reducible refine BC.alloc ?_ _) | (with_reducible refine BC.row ?_ (by omega) (by omega) _))) (first | (rw [hn]) | (rw [e1]) | (rw [e2]) | (rw [e3]))
  all_goals
    obtain ⟨w4, hw4⟩ : ∃ w4, w4 = (w3.alloc (.cells #[.int .i64 0, .int .i64 0, .int .i64 0, .string ⟨#[]⟩, .nilIface, .int .i64 0, .int .i64 0, .string ⟨#[]⟩, .nilIface, .bool false, .int .u8 0, .string ⟨#[]⟩, .string ⟨#[]⟩, .nilIface, .slice none 0 0, .int .i64 0, .bool false, .bool false, .string ⟨#[]⟩, .string ⟨#[]⟩] 35)).drew.setRow w3.heap.size #[.int .i64 (s.at_ : Nat), .int .i64 g.a.kind, .int .i64 g.a.line, .string ⟨g.a.text.toArray⟩, u1, .int .i64 g.b.kind, .int .i64 g.b.line, .string ⟨g.b.text.toArray⟩, u2, .bool g.no, .int .u8 (n.toNat : Nat), .string ⟨#[]⟩, .string ⟨#[]⟩, .nilIface, .slice none 0 0, .int .i64 0, .bool false, .bool false, .string ⟨#[]⟩, .string ⟨#[]⟩] := ⟨_, rfl⟩
    rw [← hw4]
    have hz4 : w4.heap[w3.heap.size]? = some (.cells (cmd20 s.at_ (.int .i64 g.a.kind) (.int .i64 g.a.line) (.string ⟨g.a.text.toArray⟩) u1 (.int .i64 g.b.kind) (.int .i64 g.b.line) (.string ⟨g.b.text.toArray⟩) u2 (.bool g.no) n [] SV.zero .nilIface (.slice none 0 0) []) 35 (0, 0)) := by rw [hw4]; exact setRow_heap _ _ _ _ _ _ (heap_drew (newAt _ _))
    have f4 : Fr nob w3 w4 := by rw [hw4]; exact (((Fr.refl nob w3).alloc _).drew).trans (fr_setRow _ _ _) (fun i hi e => by have e : i = w3.heap.size := e; omega)
    have Z4 := Lib.hid hz4; have F4 := Lib.hid f4; have H4 := Lib.hid (H3.out.on f4); have Z14 := Lib.hid (f4.heap Z13.out (fun x => x)); have Z24 := Lib.hid (f4.heap Z23.out (fun x => x))
    have rg := rule20 hz4 _ (Fr.refl _ _)
    have HAD := Lib.hid (fun w' => cm_addrs n w')
    clear hw4 hz4 f4 e1 e2 e3
    go_wp2_with fail
    refine (HAD.out w4).mono ?_
    rintro z w5 ⟨rfl, f5⟩
    have F5 := Lib.hid (F3.out.trans' (F4.out.trans' f5)); have Z5 := Lib.hid (f5.heap Z4.out (fun x => x)); have Z15 := Lib.hid (f5.heap Z14.out (fun x => x)); have Z25 := Lib.hid (f5.heap Z24.out (fun x => x)); have H5 := Lib.hid (H4.out.on f5)
    obtain ⟨mv5, hm5⟩ := H5.out
    have r5 := rule5 hm5.blk _ (Fr.refl _ _)
    have rg5 := rule20 Z5.out _ (Fr.refl _ _)
    clear f5 rg hm5
    go_wp2_with fail
    refine (cm_fail b l x s S 13 s.at_ w5 H5.out).mono ?_
    rintro z w6 ⟨rfl, h6, st6⟩
    have hq : ((failC s 13 s.at_).e == 0) = false := by rw [failC_yes he]; rfl
    have z6 := st6.fr.heap Z25.out N2.out
    have H6 := Lib.hid h6; have ST6 := Lib.hid ((Stp.of F5.out).trans st6); have Z6 := Lib.hid z6
    clear h6 st6 z6
    go_wp2_with fail
    refine (cm_ok b l x _ S w6 H6.out).mono ?_
    rintro z w7 ⟨rfl, f7⟩
    rw [hq]
    have H7 := Lib.hid (H6.out.on f7); have ST7 := Lib.hid (ST6.out.trans (Stp.of f7)); have Z7 := Lib.hid (f7.heap Z6.out (fun x => x))
    clear f7
    go_wp2_with (refine wpList_store_row rfl 35 _ _ rfl (w.heap.size + 1) #[.int .i64 0, .int .i64 0, .int .i64 0, .string ⟨#[]⟩, .nilIface, .int .i64 0, .int .i64 0, .string ⟨#[]⟩, .nilIface, .bool false, .int .u8 0, .string ⟨#[]⟩, .string ⟨#[]⟩, .nilIface, .slice none 0 0, .int .i64 0, .bool false, .bool false, .string ⟨#[]⟩, .string ⟨#[]⟩] rfl rfl 35 _ Z7.out info_C rfl (by kernel_rfl) ?_)
    rw [setRow_self _ _ _ _ _ Z7.out]
    (try simp only [Exit.inBlock, Exit.then])
    refine bodyPost_ret (results_C20 rfl rfl Z7.out) rfl ⟨.nilIface, .nilIface, .nilIface, .slice none 0 0, S, rfl, ?_, ?_, ?_, PrO.nil _ _, H7.out, ST7.out⟩
    all_goals rfl
set_option maxRecDepth 100000 in
set_option maxHeartbeats 4000000 in
theorem cmd_told0 {u1 u2 : Value} (o1 : u1.oneCell' = true) (o2 : u2.oneCell' = true) (b : Nat) (l : List UInt8) (x : Bool) (s : AdS) (S O : Nat → Prop) (g : GV) (w : World) (hl : l.length ≤ 99000) (ha : s.at_ ≤ l.length) (hm : s.marks.length ≤ 90000) (hS : ∀ k, S k → k < w.heap.size) (hO : ∀ k, O k → k < w.heap.size) (W0 : World) (hE : Env W0) (hW : Fr nob W0 w) (hSW : ∀ k, S k → W0.heap.size ≤ k) (h : CRd b l x s S w) (ho : s.at_ < l.length) (n : UInt8) (hn : l[s.at_] = n) (he : s.e = 0) (rn1 : RN (SO S O) w g.a.tree u1) (rn2 : RN (SO S O) w g.b.tree u2) (c1 : ¬ addrsC n < 0) (c2 : addrsC n < toldC g) :
    Calls Tryz.prog 30 #[.pointer (some ⟨b, 0, none⟩), .agg (gcell g u1 u2)] w (CmAns b l x S O w (CV.zero, failC s 19 s.at_)) := by
  obtain ⟨w1, hw1⟩ : ∃ w1, w1 = w.alloc (.cells #[.int .i64 g.a.kind, .int .i64 g.a.line, .string ⟨g.a.text.toArray⟩, u1, .int .i64 g.b.kind, .int .i64 g.b.line, .string ⟨g.b.text.toArray⟩, u2, .bool g.no] 30) := ⟨_, rfl⟩
  have f1 : Fr nob w w1 := by rw [hw1]; exact (Fr.refl _ _).alloc _
  have hs1 : w1.heap.size = w.heap.size + 1 := by rw [hw1]; simp
  obtain ⟨w2, hw2⟩ : ∃ w2, w2 = w1.alloc (.cells #[.int .i64 0, .int .i64 0, .int .i64 0, .string ⟨#[]⟩, .nilIface, .int .i64 0, .int .i64 0, .string ⟨#[]⟩, .nilIface, .bool false, .int .u8 0, .string ⟨#[]⟩, .string ⟨#[]⟩, .nilIface, .slice none 0 0, .int .i64 0, .bool false, .bool false, .string ⟨#[]⟩, .string ⟨#[]⟩] 35) := ⟨_, rfl⟩
  have f2 : Fr nob w w2 := by rw [hw2]; exact f1.alloc _
  have hs2 : w2.heap.size = w.heap.size + 2 := by rw [hw2]; simp; omega
  have hz1 : w2.heap[w.heap.size]? = some (.cells #[.int .i64 g.a.kind, .int .i64 g.a.line, .string ⟨g.a.text.toArray⟩, u1, .int .i64 g.b.kind, .int .i64 g.b.line, .string ⟨g.b.text.toArray⟩, u2, .bool g.no] 30 (0, 0)) := by rw [hw2]; exact heap_alloc_lt _ (by rw [hw1]; exact newAt _ _)
  have hz2 : w2.heap[w.heap.size + 1]? = some (.cells #[.int .i64 0, .int .i64 0, .int .i64 0, .string ⟨#[]⟩, .nilIface, .int .i64 0, .int .i64 0, .string ⟨#[]⟩, .nilIface, .bool false, .int .u8 0, .string ⟨#[]⟩, .string ⟨#[]⟩, .nilIface, .slice none 0 0, .int .i64 0, .bool false, .bool false, .string ⟨#[]⟩, .string ⟨#[]⟩] 35 (0, 0)) := by rw [hw2]; exact heap_alloc_new' _ _ _ hs1.symm
  have hn1 : ¬ S w.heap.size := fun e => absurd (hS _ e) (by omega)
  have hn2 : ¬ S (w.heap.size + 1) := fun e => absurd (hS _ e) (by omega)
  have HW1 := Lib.hid hw1; have HW2 := Lib.hid hw2; have HS1 := Lib.hid hs1; have HS2 := Lib.hid hs2; have F2 := Lib.hid f2; have Z1 := Lib.hid hz1; have Z2 := Lib.hid hz2; have N1 := Lib.hid hn1; have N2 := Lib.hid hn2; have H2 := Lib.hid (h.on f2)
  clear hw1 hw2 hs1 hs2 f1 f2 hz1 hz2 hn1 hn2
  have HO := Lib.hid (cm_over b l x s S w2 (by omega) H2.out)
  rw [show decide (l.length ≤ s.at_) = false from decide_eq_false (by omega)] at HO
  have hoi : (s.at_ : Int) < l.length := by omega
  have hlti : (l.length : Int) ≤ 99000 := by omega
  go_enter Tryz.func30, Tryz.ntmps30
  go_wp2_with (first | rw [← HW1.out] | rw [HS1.out] | rw [← HW2.out])
  refine HO.out.mono ?_
  rintro z w3 ⟨rfl, f3⟩
  have H3 := Lib.hid (H2.out.on f3); have F3 := Lib.hid (F2.out.trans' f3); have Z23 := Lib.hid (f3.heap Z2.out (fun x => x)); have Z13 := Lib.hid (f3.heap Z1.out (fun x => x))
  obtain ⟨mv, hm3⟩ := H3.out
  have HQ := Lib.hid (And.intro (B5.of hm3.blk) (C9.of Z13.out)); have HQd := Lib.hid (BC.drew (And.intro (B5.of hm3.blk) (C9.of Z13.out)))
  have hb3 := lt_heap hm3.blk; have hc3 := lt_heap Z13.out
  clear f3 hm3
  have e1 := run_storeC_new (w := w3) (s.at_ : Nat) g.a.kind g.a.line ⟨g.a.text.toArray⟩ u1 g.b.kind g.b.line ⟨g.b.text.toArray⟩ u2 g.no (n.toNat : Nat) ⟨#[]⟩ ⟨#[]⟩ ⟨#[]⟩ ⟨#[]⟩ o1 o2
  have e2 := run_storeC_newD (w := w3) (s.at_ : Nat) g.a.kind g.a.line ⟨g.a.text.toArray⟩ u1 g.b.kind g.b.line ⟨g.b.text.toArray⟩ u2 g.no (n.toNat : Nat) ⟨#[]⟩ ⟨#[]⟩ ⟨#[]⟩ ⟨#[]⟩ o1 o2
  have e3 := run_storeC_newE (w := w3) (s.at_ : Nat) g.a.kind g.a.line ⟨g.a.text.toArray⟩ u1 g.b.kind g.b.line ⟨g.b.text.toArray⟩ u2 g.no (n.toNat : Nat) ⟨#[]⟩ ⟨#[]⟩ ⟨#[]⟩ ⟨#[]⟩ o1 o2
  go_wp2_with fail
  go_region_held3 (fun w' => B5 w' b (.string ⟨l.toArray⟩) (.int .i64 (s.at_ : Nat)) (.bool x) mv (.int .i64 s.e) ∧ C9 w' w.heap.size (.int .i64 g.a.kind) (.int .i64 g.a.line) (.string ⟨g.a.text.toArray⟩) u1 (.int .i64 g.b.kind) (.int .i64 g.b.line) (.string ⟨g.b.text.toArray⟩) u2 (.bool g.no)) (repeat (first | (with_reducible exact HQ.out) | (with_reducible exact HQd.out) | (with_reducible refine BC.drew ?_) | (with_reducible refine BC.alloc ?_ _) | (with_reducible refine BC.row ?_ (by omega) (by omega) _))) (first | (rw [hn]) | (rw [e1]) | (rw [e2]) | (rw [e3]))
  all_goals
    obtain ⟨w4, hw4⟩ : ∃ w4, w4 = (w3.alloc (.cells #[.int .i64 0, .int .i64 0, .int .i64 0, .string ⟨#[]⟩, .nilIface, .int .i64 0, .int .i64 0, .string ⟨#[]⟩, .nilIface, .bool false, .int .u8 0, .string ⟨#[]⟩, .string ⟨#[]⟩, .nilIface, .slice none 0 0, .int .i64 0, .bool false, .bool false, .string ⟨#[]⟩, .string ⟨#[]⟩] 35)).drew.setRow w3.heap.size #[.int .i64 (s.at_ : Nat), .int .i64 g.a.kind, .int .i64 g.a.line, .string ⟨g.a.text.toArray⟩, u1, .int .i64 g.b.kind, .int .i64 g.b.line, .string ⟨g.b.text.toArray⟩, u2, .bool g.no, .int .u8 (n.toNat : Nat), .string ⟨#[]⟩, .string ⟨#[]⟩, .nilIface, .slice none 0 0, .int .i64 0, .bool false, .bool false, .string ⟨#[]⟩, .string ⟨#[]⟩] := ⟨_, rfl⟩
    rw [← hw4]
    have hz4 : w4.heap[w3.heap.size]? = some (.cells (cmd20 s.at_ (.int .i64 g.a.kind) (.int .i64 g.a.line) (.string ⟨g.a.text.toArray⟩) u1 (.int .i64 g.b.kind) (.int .i64 g.b.line) (.string ⟨g.b.text.toArray⟩) u2 (.bool g.no) n [] SV.zero .nilIface (.slice none 0 0) []) 35 (0, 0)) := by rw [hw4]; exact setRow_heap _ _ _ _ _ _ (heap_drew (newAt _ _))
    have f4 : Fr nob w3 w4 := by rw [hw4]; exact (((Fr.refl nob w3).alloc _).drew).trans (fr_setRow _ _ _) (fun i hi e => by have e : i = w3.heap.size := e; omega)
    have Z4 := Lib.hid hz4; have F4 := Lib.hid f4; have H4 := Lib.hid (H3.out.on f4); have Z14 := Lib.hid (f4.heap Z13.out (fun x => x)); have Z24 := Lib.hid (f4.heap Z23.out (fun x => x))
    have rg := rule20 hz4 _ (Fr.refl _ _)
    have HAD := Lib.hid (fun w' => cm_addrs n w')
    clear hw4 hz4 f4 e1 e2 e3
    go_wp2_with fail
    refine (HAD.out w4).mono ?_
    rintro z w5 ⟨rfl, f5⟩
    have F5 := Lib.hid (F3.out.trans' (F4.out.trans' f5)); have Z5 := Lib.hid (f5.heap Z4.out (fun x => x)); have Z15 := Lib.hid (f5.heap Z14.out (fun x => x)); have Z25 := Lib.hid (f5.heap Z24.out (fun x => x)); have H5 := Lib.hid (H4.out.on f5)
    obtain ⟨mv5, hm5⟩ := H5.out
    have r5 := rule5 hm5.blk _ (Fr.refl _ _)
    have rg5 := rule20 Z5.out _ (Fr.refl _ _)
    clear f5 rg hm5
    have r9 := rule9 Z15.out _ (Fr.refl _ _)
    have HTD := Lib.hid (cm_told g (.agg (gcell g u1 u2)) w5 ⟨u1, u2, rfl, RN.keep F5.out (fun _ _ x => x.elim) (fun _ _ x => x.elim) _ _ rn1, RN.keep F5.out (fun _ _ x => x.elim) (fun _ _ x => x.elim) _ _ rn2⟩)
    go_wp2_with fail
    refine HTD.out.mono ?_
    rintro z w5b ⟨rfl, f5b⟩
    have F5b := Lib.hid (F5.out.trans' f5b); have Z25b := Lib.hid (f5b.heap Z25.out (fun x => x)); have H5b := Lib.hid (H5.out.on f5b)
    obtain ⟨mv5b, hm5b⟩ := H5b.out
    have r5b := rule5 hm5b.blk _ (Fr.refl _ _)
    clear f5b hm5b r5 r9
    go_wp2_with fail
    refine (cm_fail b l x s S 19 s.at_ w5b H5b.out).mono ?_
    rintro z w6 ⟨rfl, h6, st6⟩
    have hq : ((failC s 19 s.at_).e == 0) = false := by rw [failC_yes he]; rfl
    have z6 := st6.fr.heap Z25b.out N2.out
    have H6 := Lib.hid h6; have ST6 := Lib.hid ((Stp.of F5b.out).trans st6); have Z6 := Lib.hid z6
    clear h6 st6 z6
    go_wp2_with fail
    refine (cm_ok b l x _ S w6 H6.out).mono ?_
    rintro z w7 ⟨rfl, f7⟩
    rw [hq]
    have H7 := Lib.hid (H6.out.on f7); have ST7 := Lib.hid (ST6.out.trans (Stp.of f7)); have Z7 := Lib.hid (f7.heap Z6.out (fun x => x))
    clear f7
    go_wp2_with (refine wpList_store_row rfl 35 _ _ rfl (w.heap.size + 1) #[.int .i64 0, .int .i64 0, .int .i64 0, .string ⟨#[]⟩, .nilIface, .int .i64 0, .int .i64 0, .string ⟨#[]⟩, .nilIface, .bool false, .int .u8 0, .string ⟨#[]⟩, .string ⟨#[]⟩, .nilIface, .slice none 0 0, .int .i64 0, .bool false, .bool false, .string ⟨#[]⟩, .string ⟨#[]⟩] rfl rfl 35 _ Z7.out info_C rfl (by kernel_rfl) ?_)
    rw [setRow_self _ _ _ _ _ Z7.out]
    (try simp only [Exit.inBlock, Exit.then])
    refine bodyPost_ret (results_C20 rfl rfl Z7.out) rfl ⟨.nilIface, .nilIface, .nilIface, .slice none 0 0, S, rfl, ?_, ?_, ?_, PrO.nil _ _, H7.out, ST7.out⟩
    all_goals rfl
set_option maxRecDepth 100000 in
set_option maxHeartbeats 4000000 in
theorem cmd_plain0 {u1 u2 : Value} (o1 : u1.oneCell' = true) (o2 : u2.oneCell' = true) (b : Nat) (l : List UInt8) (x : BF) (s : AdS) (S O : Nat → Prop) (g : GV) (w : World) (hl : l.length ≤ 99000) (ha : s.at_ ≤ l.length) (hm : s.marks.length ≤ 90000) (hS : ∀ k, S k → k < w.heap.size) (hO : ∀ k, O k → k < w.heap.size) (W0 : World) (hE : Env W0) (hW : Fr nob W0 w) (hSW : ∀ k, S k → W0.heap.size ≤ k) (h : CRd b l x s S w) (ho : s.at_ < l.length) (n : UInt8) (hn : l[s.at_] = n) (he : s.e = 0) (rn1 : RN (SO S O) w g.a.tree u1) (rn2 : RN (SO S O) w g.b.tree u2) (c1 : ¬ addrsC n < 0) (c2 : ¬ addrsC n < toldC g) (c3 : ([81, 84, 122] : List UInt8).contains n = false) :
    Calls Tryz.prog 30 #[.pointer (some ⟨b, 0, none⟩), .agg (gcell g u1 u2)] w (CmAns b l x S O w (endR l (argsC x l (cv0 s.at_ g n) (s.to (s.at_ + 1))))) := by
  have HI := Lib.hid (fun w' => strings_IndexByte [81, 84, 122] (n.toNat : Int) w')
  rw [show ((n.toNat : Int)).toNat.toUInt8 = n from toNat_back _] at HI
  have hz0 := index_contains [81, 84, 122] n
  rw [c3] at hz0
  obtain ⟨zi, hz⟩ : ∃ z, Lib.indexByte [81, 84, 122] n = z := ⟨_, rfl⟩
  rw [hz] at HI hz0
  have hz1 : ¬ 0 ≤ zi := by simpa using hz0
  clear hz hz0
  obtain ⟨w1, hw1⟩ : ∃ w1, w1 = w.alloc (.cells #[.int .i64 g.a.kind, .int .i64 g.a.line, .string ⟨g.a.text.toArray⟩, u1, .int .i64 g.b.kind, .int .i64 g.b.line, .string ⟨g.b.text.toArray⟩, u2, .bool g.no] 30) := ⟨_, rfl⟩
  have f1 : Fr nob w w1 := by rw [hw1]; exact (Fr.refl _ _).alloc _
  have hs1 : w1.heap.size = w.heap.size + 1 := by rw [hw1]; simp
  obtain ⟨w2, hw2⟩ : ∃ w2, w2 = w1.alloc (.cells #[.int .i64 0, .int .i64 0, .int .i64 0, .string ⟨#[]⟩, .nilIface, .int .i64 0, .int .i64 0, .string ⟨#[]⟩, .nilIface, .bool false, .int .u8 0, .string ⟨#[]⟩, .string ⟨#[]⟩, .nilIface, .slice none 0 0, .int .i64 0, .bool false, .bool false, .string ⟨#[]⟩, .string ⟨#[]⟩] 35) := ⟨_, rfl⟩
  have f2 : Fr nob w w2 := by rw [hw2]; exact f1.alloc _
  have hs2 : w2.heap.size = w.heap.size + 2 := by rw [hw2]; simp; omega
  have hz1 : w2.heap[w.heap.size]? = some (.cells #[.int .i64 g.a.kind, .int .i64 g.a.line, .string ⟨g.a.text.toArray⟩, u1, .int .i64 g.b.kind, .int .i64 g.b.line, .string ⟨g.b.text.toArray⟩, u2, .bool g.no] 30 (0, 0)) := by rw [hw2]; exact heap_alloc_lt _ (by rw [hw1]; exact newAt _ _)
  have hz2 : w2.heap[w.heap.size + 1]? = some (.cells #[.int .i64 0, .int .i64 0, .int .i64 0, .string ⟨#[]⟩, .nilIface, .int .i64 0, .int .i64 0, .string ⟨#[]⟩, .nilIface, .bool false, .int .u8 0, .string ⟨#[]⟩, .string ⟨#[]⟩, .nilIface, .slice none 0 0, .int .i64 0, .bool false, .bool false, .string ⟨#[]⟩, .string ⟨#[]⟩] 35 (0, 0)) := by rw [hw2]; exact heap_alloc_new' _ _ _ hs1.symm
  have hn1 : ¬ S w.heap.size := fun e => absurd (hS _ e) (by omega)
  have hn2 : ¬ S (w.heap.size + 1) := fun e => absurd (hS _ e) (by omega)
  have HW1 := Lib.hid hw1; have HW2 := Lib.hid hw2; have HS1 := Lib.hid hs1; have HS2 := Lib.hid hs2; have F2 := Lib.hid f2; have Z1 := Lib.hid hz1; have Z2 := Lib.hid hz2; have N1 := Lib.hid hn1; have N2 := Lib.hid hn2; have H2 := Lib.hid (h.on f2)
  clear hw1 hw2 hs1 hs2 f1 f2 hz1 hz2 hn1 hn2
  have HO := Lib.hid (cm_over b l x s S w2 (by omega) H2.out)
  rw [show decide (l.length ≤ s.at_) = false from decide_eq_false (by omega)] at HO
  have hoi : (s.at_ : Int) < l.length := by omega
  have hlti : (l.length : Int) ≤ 99000 := by omega
  go_enter Tryz.func30, Tryz.ntmps30
  go_wp2_with (first | rw [← HW1.out] | rw [HS1.out] | rw [← HW2.out])
  refine HO.out.mono ?_
  rintro z w3 ⟨rfl, f3⟩
  have H3 := Lib.hid (H2.out.on f3); have F3 := Lib.hid (F2.out.trans' f3); have Z23 := Lib.hid (f3.heap Z2.out (fun x => x)); have Z13 := Lib.hid (f3.heap Z1.out (fun x => x))
  obtain ⟨mv, hm3⟩ := H3.out
  have HQ := Lib.hid (And.intro (B5.of hm3.blk) (C9.of Z13.out)); have HQd := Lib.hid (BC.drew (And.intro (B5.of hm3.blk) (C9.of Z13.out)))
  have hb3 := lt_heap hm3.blk; have hc3 := lt_heap Z13.out
  clear f3 hm3
  have e1 := run_storeC_new (w := w3) (s.at_ : Nat) g.a.kind g.a.line ⟨g.a.text.toArray⟩ u1 g.b.kind g.b.line ⟨g.b.text.toArray⟩ u2 g.no (n.toNat : Nat) ⟨#[]⟩ ⟨#[]⟩ ⟨#[]⟩ ⟨#[]⟩ o1 o2
  have e2 := run_storeC_newD (w := w3) (s.at_ : Nat) g.a.kind g.a.line ⟨g.a.text.toArray⟩ u1 g.b.kind g.b.line ⟨g.b.text.toArray⟩ u2 g.no (n.toNat : Nat) ⟨#[]⟩ ⟨#[]⟩ ⟨#[]⟩ ⟨#[]⟩ o1 o2
  have e3 := run_storeC_newE (w := w3) (s.at_ : Nat) g.a.kind g.a.line ⟨g.a.text.toArray⟩ u1 g.b.kind g.b.line ⟨g.b.text.toArray⟩ u2 g.no (n.toNat : Nat) ⟨#[]⟩ ⟨#[]⟩ ⟨#[]⟩ ⟨#[]⟩ o1 o2
  go_wp2_with fail
  go_region_held3 (fun w' => B5 w' b (.string ⟨l.toArray⟩) (.int .i64 (s.at_ : Nat)) (.bool x) mv (.int .i64 s.e) ∧ C9 w' w.heap.size (.int .i64 g.a.kind) (.int .i64 g.a.line) (.string ⟨g.a.text.toArray⟩) u1 (.int .i64 g.b.kind) (.int .i64 g.b.line) (.string ⟨g.b.text.toArray⟩) u2 (.bool g.no)) (repeat (first | (with_reducible exact HQ.out) | (with_reducible exact HQd.out) | (with_reducible refine BC.drew ?_) | (with_reducible refine BC.alloc ?_ _) | (with_reducible refine BC.row ?_ (by omega) (by omega) _))) (first | (rw [hn]) | (rw [e1]) | (rw [e2]) | (rw [e3]))
  all_goals
    obtain ⟨w4, hw4⟩ : ∃ w4, w4 = (w3.alloc (.cells #[.int .i64 0, .int .i64 0, .int .i64 0, .string ⟨#[]⟩, .nilIface, .int .i64 0, .int .i64 0, .string ⟨#[]⟩, .nilIface, .bool false, .int .u8 0, .string ⟨#[]⟩, .string ⟨#[]⟩, .nilIface, .slice none 0 0, .int .i64 0, .bool false, .bool false, .string ⟨#[]⟩, .string ⟨#[]⟩] 35)).drew.setRow w3.heap.size #[.int .i64 (s.at_ : Nat), .int .i64 g.a.kind, .int .i64 g.a.line, .string ⟨g.a.text.toArray⟩, u1, .int .i64 g.b.kind, .int .i64 g.b.line, .string ⟨g.b.text.toArray⟩, u2, .bool g.no, .int .u8 (n.toNat : Nat), .string ⟨#[]⟩, .string ⟨#[]⟩, .nilIface, .slice none 0 0, .int .i64 0, .bool false, .bool false, .string ⟨#[]⟩, .string ⟨#[]⟩] := ⟨_, rfl⟩
    rw [← hw4]
    have hz4 : w4.heap[w3.heap.size]? = some (.cells (cmd20 s.at_ (.int .i64 g.a.kind) (.int .i64 g.a.line) (.string ⟨g.a.text.toArray⟩) u1 (.int .i64 g.b.kind) (.int .i64 g.b.line) (.string ⟨g.b.text.toArray⟩) u2 (.bool g.no) n [] SV.zero .nilIface (.slice none 0 0) []) 35 (0, 0)) := by rw [hw4]; exact setRow_heap _ _ _ _ _ _ (heap_drew (newAt _ _))
    have f4 : Fr nob w3 w4 := by rw [hw4]; exact (((Fr.refl nob w3).alloc _).drew).trans (fr_setRow _ _ _) (fun i hi e => by have e : i = w3.heap.size := e; omega)
    have Z4 := Lib.hid hz4; have F4 := Lib.hid f4; have H4 := Lib.hid (H3.out.on f4); have Z14 := Lib.hid (f4.heap Z13.out (fun x => x)); have Z24 := Lib.hid (f4.heap Z23.out (fun x => x))
    have rg := rule20 hz4 _ (Fr.refl _ _)
    have HAD := Lib.hid (fun w' => cm_addrs n w')
    clear hw4 hz4 f4 e1 e2 e3
    go_wp2_with fail
    refine (HAD.out w4).mono ?_
    rintro z w5 ⟨rfl, f5⟩
    have F5 := Lib.hid (F3.out.trans' (F4.out.trans' f5)); have Z5 := Lib.hid (f5.heap Z4.out (fun x => x)); have Z15 := Lib.hid (f5.heap Z14.out (fun x => x)); have Z25 := Lib.hid (f5.heap Z24.out (fun x => x)); have H5 := Lib.hid (H4.out.on f5)
    obtain ⟨mv5, hm5⟩ := H5.out
    have r5 := rule5 hm5.blk _ (Fr.refl _ _)
    have rg5 := rule20 Z5.out _ (Fr.refl _ _)
    clear f5 rg hm5
    have r9 := rule9 Z15.out _ (Fr.refl _ _)
    have HTD := Lib.hid (cm_told g (.agg (gcell g u1 u2)) w5 ⟨u1, u2, rfl, RN.keep F5.out (fun _ _ x => x.elim) (fun _ _ x => x.elim) _ _ rn1, RN.keep F5.out (fun _ _ x => x.elim) (fun _ _ x => x.elim) _ _ rn2⟩)
    go_wp2_with fail
    refine HTD.out.mono ?_
    rintro z w5b ⟨rfl, f5b⟩
    have F5b := Lib.hid (F5.out.trans' f5b); have Z25b := Lib.hid (f5b.heap Z25.out (fun x => x)); have Z5b := Lib.hid (f5b.heap Z5.out (fun x => x)); have H5b := Lib.hid (H5.out.on f5b)
    obtain ⟨mv5b, hm5b⟩ := H5b.out
    have r5b := rule5 hm5b.blk _ (Fr.refl _ _)
    have rr5 := rule5 hm5b.blk
    have rg5b := rule20 Z5b.out _ (Fr.refl _ _)
    have HC1 := Lib.hid (show w.heap.size + 1 < w3.heap.size by have h1 := HS2.out; have h2 := lt_heap Z23.out; have h3 := lt_heap Z13.out; have h4 := F3.out.size; omega)
    have HBC := Lib.hid (show b ≠ w3.heap.size by have := hS b hm5b.me; have := HC1.out; omega)
    have HBZ := Lib.hid (show b ≠ w.heap.size + 1 by have := hS b hm5b.me; omega)
    clear f5b hm5b r5 r9 rg5
    clear rr5
    have HIX := Lib.hid HI.out
    go_wp2_with fail
    refine (HIX.out w5b).mono ?_
    rintro z5 w5c ⟨rfl, rfl⟩
    have H6 := Lib.hid H5b.out; have ST6 := Lib.hid (Stp.of F5b.out : Stp S w S w5b); have Z26 := Lib.hid Z25b.out; have Z6 := Lib.hid Z5b.out
    have HN1 := Lib.hid N2.out
    have HNC := Lib.hid (show ¬ S w3.heap.size from fun e => by have := hS _ e; have := HC1.out; omega)
    have HE1 := Lib.hid (show (s.e == 0) = true by rw [he]; rfl)
    have HMK := Lib.hid (show (s.to (s.at_ + 1)).marks.length ≤ 100000 by show s.marks.length ≤ 100000; omega)
    clear r5b rg5b
    go_wp2_with fail
    refine (cm_ok b l x _ S w5b H6.out).mono ?_
    rintro z w7a ⟨rfl, f7a⟩
    rw [HE1.out]
    have h7a := H6.out.on f7a
    obtain ⟨mv7, hm7⟩ := h7a
    have r7 := rule5 hm7.blk _ (Fr.refl _ _)
    (try simp only [markC] at r7)
    have h7 := hm7.turned 1 (.int .i64 ((s.at_ : Int) + 1)) (s.to (s.at_ + 1)) (by simp [AdS.to, markC]) rfl
    have st7 := (ST6.out.trans (Stp.of f7a)).trans (hm7.stp 1 (.int .i64 ((s.at_ : Int) + 1)))
    have g7 := ((Fr.refl (fun k => k = b) w7a).setCell (p := ⟨b, 1, none⟩) (fun _ => rfl) (.int .i64 ((s.at_ : Int) + 1))).heap (f7a.heap Z6.out (fun x => x)) (fun e => HBC.out (show b = w3.heap.size from (show w3.heap.size = b from e).symm))
    have z7 := ((Fr.refl (fun k => k = b) w7a).setCell (p := ⟨b, 1, none⟩) (fun _ => rfl) (.int .i64 ((s.at_ : Int) + 1))).heap (f7a.heap Z26.out (fun x => x)) (fun e => HBZ.out (show b = w.heap.size + 1 from (show w.heap.size + 1 = b from e).symm))
    obtain ⟨w7, hw7⟩ : ∃ w7, w7 = w7a.setCell ⟨b, 1, none⟩ (.int .i64 ((s.at_ : Int) + 1)) := ⟨_, rfl⟩
    rw [← hw7] at h7 st7 g7 z7
    have hgA : A3 O w.heap.size w3.heap.size w3.heap.size := .inr (.inr (.inr rfl))
    have hOA : ∀ k, A3 O w.heap.size w3.heap.size k → k < w7.heap.size := fun k hk => by
      have h1 := lt_heap g7
      have h2 := HC1.out
      have h3 := st7.fr.size
      rcases hk with hk | hk | hk | hk
      · have := hO k hk; omega
      all_goals omega
    have HAR := Lib.hid (cm_args b w3.heap.size l x S (A3 O w.heap.size w3.heap.size) s.at_ g _ _ _ _ _ _ _ _ _ n (s.to (s.at_ + 1)) w7 hl (by show s.at_ + 1 ≤ l.length; omega) HMK.out (st7.lt hS) hOA hgA HNC.out W0 hE (Stp.from st7 hW hSW) (fun k hk => by
      by_cases hko : k < w.heap.size
      · exact hSW k (st7.old k hko hk)
      · have := hW.size; omega) g7 ⟨_, h7⟩)
    have HHW7 := Lib.hid hw7; have ST7 := Lib.hid st7; have Z7 := Lib.hid z7; have HC7 := Lib.hid (lt_heap g7)
    clear hw7 st7 z7 g7 h7 f7a hm7 hgA hOA
    obtain ⟨R, hR⟩ : ∃ R, argsC x l (cv0 s.at_ g n) (s.to (s.at_ + 1)) = R := ⟨_, rfl⟩
    have hK := argsC_keep x l (cv0 s.at_ g n) (s.to (s.at_ + 1))
    have hin := argsC_in x (cv0 s.at_ g n) (s := s.to (s.at_ + 1)) (l := l) (by show s.at_ + 1 ≤ l.length; omega)
    have hmk := argsC_mk x (cv0 s.at_ g n) (s := s.to (s.at_ + 1)) (l := l) (N := 100000) (by show s.at_ + 1 ≤ l.length; omega) HMK.out
    rw [hR] at HAR hK hin hmk
    have HR9 := Lib.hid hR
    obtain ⟨rb, ⟨ca, cg, cn, arg_, sub_, tab_⟩, rs⟩ := R
    obtain ⟨k1, k2, k3⟩ := hK
    simp only at k1 k2 k3 hin hmk
    have k1 := k1.symm; have k2 := k2.symm; have k3 := k3.symm
    subst k1; subst k2; subst k3
    clear hR
    go_wp2_with (rw [← HHW7.out])
    refine HAR.out.mono ?_
    rintro z w8 ⟨u, pv, S2, rfl, g8, rn8, po8, h8, st8, n8⟩
    simp only at g8 rn8 po8 h8
    have hz8 := st8.fr.heap Z7.out (fun e => e.elim HN1.out (fun e => by have e : w.heap.size + 1 = w3.heap.size := e; have := HC1.out; omega))
    have hn2 : ¬ S2 (w.heap.size + 1) := fun e => by
      rcases st8.old _ (by have := HC7.out; have := HC1.out; omega) (.inl e) with e | e
      · exact HN1.out e
      · have e : w.heap.size + 1 = w3.heap.size := e
        have := HC1.out; omega
    have hop : pv.oneCell' = true := by obtain ⟨a9, c9, rfl⟩ := ownsRow_slice po8.1; rfl
    have hou : u.oneCell' = true := by rcases rn8.shape with rfl | ⟨i9, y9, rfl⟩ <;> rfl
    have G8 := Lib.hid g8; have RN8 := Lib.hid rn8; have PO8 := Lib.hid po8; have H8 := Lib.hid h8; have ST8 := Lib.hid st8; have N8 := Lib.hid n8; have Z8 := Lib.hid hz8; have N28 := Lib.hid hn2; have HIN := Lib.hid hin; have HMK2 := Lib.hid hmk
    clear g8 rn8 po8 h8 st8 n8 hz8 hn2 r7 hin hmk
    cases rb with
    | false =>
      have hRR : endR l (false, ⟨s.at_, g, n, arg_, sub_, tab_⟩, rs) = (⟨s.at_, g, n, arg_, sub_, tab_⟩, rs) := if_neg (fun h => by cases h.1)
      have GF := Lib.hid G8.out; have ZF := Lib.hid Z8.out
      go_wp2_with (first | refine wpList_load_row rfl 35 _ rfl w3.heap.size rfl 35 (cmd20 s.at_ (.int .i64 g.a.kind) (.int .i64 g.a.line) (.string ⟨g.a.text.toArray⟩) u1 (.int .i64 g.b.kind) (.int .i64 g.b.line) (.string ⟨g.b.text.toArray⟩) u2 (.bool g.no) n arg_ sub_ u pv tab_) (0, 0) _ GF.out Tryz.underlying35 rfl info_C ?_ | refine wpList_store_row rfl 35 _ _ rfl (w.heap.size + 1) (cmd20 s.at_ (.int .i64 g.a.kind) (.int .i64 g.a.line) (.string ⟨g.a.text.toArray⟩) u1 (.int .i64 g.b.kind) (.int .i64 g.b.line) (.string ⟨g.b.text.toArray⟩) u2 (.bool g.no) n arg_ sub_ u pv tab_) rfl rfl 35 _ ZF.out info_C rfl (Array.all_eq_true_iff_forall_mem.2 (by intro v hv; simp only [List.mem_toArray, List.mem_cons, List.not_mem_nil, or_false] at hv; rcases hv with h | h | h | h | h | h | h | h | h | h | h | h | h | h | h | h | h | h | h | h <;> (subst h; first | rfl | assumption))) ?_)
      (try simp only [Exit.inBlock, Exit.then])
      rw [HR9.out, hRR]
      obtain ⟨q1, q2, q3, q4, q5, q6⟩ := cm_close ST7.out ST8.out HC1.out HC7.out HN1.out (Stp.refl _ _) rn1 rn2 RN8.out PO8.out H8.out (cmd20 s.at_ (.int .i64 g.a.kind) (.int .i64 g.a.line) (.string ⟨g.a.text.toArray⟩) u1 (.int .i64 g.b.kind) (.int .i64 g.b.line) (.string ⟨g.b.text.toArray⟩) u2 (.bool g.no) n arg_ sub_ u pv tab_)
      refine bodyPost_ret (results_C20 rfl rfl (setRow_heap _ _ _ _ _ _ ZF.out)) rfl ⟨u1, u2, u, pv, S2, rfl, q1, q2, q3, q4, q5, q6⟩
    | true =>
      by_cases he9 : rs.e = 0
      · have e9 : (rs.e == 0) = true := by simpa using he9
        have hRR : endR l (true, ⟨s.at_, g, n, arg_, sub_, tab_⟩, rs) = (⟨s.at_, g, n, arg_, sub_, tab_⟩, endC l rs) := if_pos ⟨rfl, he9⟩
        go_wp2_with fail
        refine (cm_ok b l x _ S2 w8 H8.out).mono ?_
        rintro z w8a ⟨rfl, f8a⟩
        rw [e9]
        have H8a := Lib.hid (H8.out.on f8a); have F8a := Lib.hid f8a
        clear f8a
        go_wp2_with fail
        refine (cm_end b l x rs S2 w8a hl HIN.out (by have := HMK2.out; omega) H8a.out).mono ?_
        rintro z w9 ⟨rfl, S3, h9, st9⟩
        have H9 := Lib.hid h9; have ST9 := Lib.hid ((Stp.of F8a.out).trans st9)
        have GF := Lib.hid (st9.fr.heap (F8a.out.heap G8.out (fun x => x)) N8.out); have ZF := Lib.hid (st9.fr.heap (F8a.out.heap Z8.out (fun x => x)) N28.out)
        clear h9 st9
        go_wp2_with (first | refine wpList_load_row rfl 35 _ rfl w3.heap.size rfl 35 (cmd20 s.at_ (.int .i64 g.a.kind) (.int .i64 g.a.line) (.string ⟨g.a.text.toArray⟩) u1 (.int .i64 g.b.kind) (.int .i64 g.b.line) (.string ⟨g.b.text.toArray⟩) u2 (.bool g.no) n arg_ sub_ u pv tab_) (0, 0) _ GF.out Tryz.underlying35 rfl info_C ?_ | refine wpList_store_row rfl 35 _ _ rfl (w.heap.size + 1) (cmd20 s.at_ (.int .i64 g.a.kind) (.int .i64 g.a.line) (.string ⟨g.a.text.toArray⟩) u1 (.int .i64 g.b.kind) (.int .i64 g.b.line) (.string ⟨g.b.text.toArray⟩) u2 (.bool g.no) n arg_ sub_ u pv tab_) rfl rfl 35 _ ZF.out info_C rfl (Array.all_eq_true_iff_forall_mem.2 (by intro v hv; simp only [List.mem_toArray, List.mem_cons, List.not_mem_nil, or_false] at hv; rcases hv with h | h | h | h | h | h | h | h | h | h | h | h | h | h | h | h | h | h | h | h <;> (subst h; first | rfl | assumption))) ?_)
        (try simp only [Exit.inBlock, Exit.then])
        rw [HR9.out, hRR]
        obtain ⟨q1, q2, q3, q4, q5, q6⟩ := cm_close ST7.out ST8.out HC1.out HC7.out HN1.out ST9.out rn1 rn2 RN8.out PO8.out H9.out (cmd20 s.at_ (.int .i64 g.a.kind) (.int .i64 g.a.line) (.string ⟨g.a.text.toArray⟩) u1 (.int .i64 g.b.kind) (.int .i64 g.b.line) (.string ⟨g.b.text.toArray⟩) u2 (.bool g.no) n arg_ sub_ u pv tab_)
        refine bodyPost_ret (results_C20 rfl rfl (setRow_heap _ _ _ _ _ _ ZF.out)) rfl ⟨u1, u2, u, pv, S3, rfl, q1, q2, q3, q4, q5, q6⟩
      · have e9 : (rs.e == 0) = false := by simpa using he9
        have hRR : endR l (true, ⟨s.at_, g, n, arg_, sub_, tab_⟩, rs) = (⟨s.at_, g, n, arg_, sub_, tab_⟩, rs) := if_neg (fun h => he9 h.2)
        go_wp2_with fail
        refine (cm_ok b l x _ S2 w8 H8.out).mono ?_
        rintro z w8a ⟨rfl, f8a⟩
        rw [e9]
        have H8a := Lib.hid (H8.out.on f8a); have ST9 := Lib.hid (Stp.of f8a : Stp S2 w8 S2 w8a)
        have GF := Lib.hid (f8a.heap G8.out (fun x => x)); have ZF := Lib.hid (f8a.heap Z8.out (fun x => x))
        clear f8a
        go_wp2_with (first | refine wpList_load_row rfl 35 _ rfl w3.heap.size rfl 35 (cmd20 s.at_ (.int .i64 g.a.kind) (.int .i64 g.a.line) (.string ⟨g.a.text.toArray⟩) u1 (.int .i64 g.b.kind) (.int .i64 g.b.line) (.string ⟨g.b.text.toArray⟩) u2 (.bool g.no) n arg_ sub_ u pv tab_) (0, 0) _ GF.out Tryz.underlying35 rfl info_C ?_ | refine wpList_store_row rfl 35 _ _ rfl (w.heap.size + 1) (cmd20 s.at_ (.int .i64 g.a.kind) (.int .i64 g.a.line) (.string ⟨g.a.text.toArray⟩) u1 (.int .i64 g.b.kind) (.int .i64 g.b.line) (.string ⟨g.b.text.toArray⟩) u2 (.bool g.no) n arg_ sub_ u pv tab_) rfl rfl 35 _ ZF.out info_C rfl (Array.all_eq_true_iff_forall_mem.2 (by intro v hv; simp only [List.mem_toArray, List.mem_cons, List.not_mem_nil, or_false] at hv; rcases hv with h | h | h | h | h | h | h | h | h | h | h | h | h | h | h | h | h | h | h | h <;> (subst h; first | rfl | assumption))) ?_)
        (try simp only [Exit.inBlock, Exit.then])
        rw [HR9.out, hRR]
        obtain ⟨q1, q2, q3, q4, q5, q6⟩ := cm_close ST7.out ST8.out HC1.out HC7.out HN1.out ST9.out rn1 rn2 RN8.out PO8.out H8a.out (cmd20 s.at_ (.int .i64 g.a.kind) (.int .i64 g.a.line) (.string ⟨g.a.text.toArray⟩) u1 (.int .i64 g.b.kind) (.int .i64 g.b.line) (.string ⟨g.b.text.toArray⟩) u2 (.bool g.no) n arg_ sub_ u pv tab_)
        refine bodyPost_ret (results_C20 rfl rfl (setRow_heap _ _ _ _ _ _ ZF.out)) rfl ⟨u1, u2, u, pv, S2, rfl, q1, q2, q3, q4, q5, q6⟩
set_option maxRecDepth 100000 in
set_option maxHeartbeats 4000000 in
theorem cmd_mark0 {u1 u2 : Value} (o1 : u1.oneCell' = true) (o2 : u2.oneCell' = true) (b : Nat) (l : List UInt8) (x : BF) (s : AdS) (S O : Nat → Prop) (g : GV) (w : World) (hl : l.length ≤ 99000) (ha : s.at_ ≤ l.length) (hm : s.marks.length ≤ 90000) (hS : ∀ k, S k → k < w.heap.size) (hO : ∀ k, O k → k < w.heap.size) (W0 : World) (hE : Env W0) (hW : Fr nob W0 w) (hSW : ∀ k, S k → W0.heap.size ≤ k) (h : CRd b l x s S w) (ho : s.at_ < l.length) (n : UInt8) (hn : l[s.at_] = n) (he : s.e = 0) (rn1 : RN (SO S O) w g.a.tree u1) (rn2 : RN (SO S O) w g.b.tree u2) (c1 : ¬ addrsC n < 0) (c2 : ¬ addrsC n < toldC g) (c3 : ([81, 84, 122] : List UInt8).contains n = true) :
    Calls Tryz.prog 30 #[.pointer (some ⟨b, 0, none⟩), .agg (gcell g u1 u2)] w (CmAns b l x S O w (endR l (argsC x l (cv0 s.at_ g n) ((markC s s.at_ [n]).to (s.at_ + 1))))) := by
  have HI := Lib.hid (fun w' => strings_IndexByte [81, 84, 122] (n.toNat : Int) w')
  rw [show ((n.toNat : Int)).toNat.toUInt8 = n from toNat_back _] at HI
  have hz0 := index_contains [81, 84, 122] n
  rw [c3] at hz0
  obtain ⟨zi, hz⟩ : ∃ z, Lib.indexByte [81, 84, 122] n = z := ⟨_, rfl⟩
  rw [hz] at HI hz0
  have hz1 : 0 ≤ zi := by simpa using hz0
  clear hz hz0
  obtain ⟨w1, hw1⟩ : ∃ w1, w1 = w.alloc (.cells #[.int .i64 g.a.kind, .int .i64 g.a.line, .string ⟨g.a.text.toArray⟩, u1, .int .i64 g.b.kind, .int .i64 g.b.line, .string ⟨g.b.text.toArray⟩, u2, .bool g.no] 30) := ⟨_, rfl⟩
  have f1 : Fr nob w w1 := by rw [hw1]; exact (Fr.refl _ _).alloc _
  have hs1 : w1.heap.size = w.heap.size + 1 := by rw [hw1]; simp
  obtain ⟨w2, hw2⟩ : ∃ w2, w2 = w1.alloc (.cells #[.int .i64 0, .int .i64 0, .int .i64 0, .string ⟨#[]⟩, .nilIface, .int .i64 0, .int .i64 0, .string ⟨#[]⟩, .nilIface, .bool false, .int .u8 0, .string ⟨#[]⟩, .string ⟨#[]⟩, .nilIface, .slice none 0 0, .int .i64 0, .bool false, .bool false, .string ⟨#[]⟩, .string ⟨#[]⟩] 35) := ⟨_, rfl⟩
  have f2 : Fr nob w w2 := by rw [hw2]; exact f1.alloc _
  have hs2 : w2.heap.size = w.heap.size + 2 := by rw [hw2]; simp; omega
  have hz1 : w2.heap[w.heap.size]? = some (.cells #[.int .i64 g.a.kind, .int .i64 g.a.line, .string ⟨g.a.text.toArray⟩, u1, .int .i64 g.b.kind, .int .i64 g.b.line, .string ⟨g.b.text.toArray⟩, u2, .bool g.no] 30 (0, 0)) := by rw [hw2]; exact heap_alloc_lt _ (by rw [hw1]; exact newAt _ _)
  have hz2 : w2.heap[w.heap.size + 1]? = some (.cells #[.int .i64 0, .int .i64 0, .int .i64 0, .string ⟨#[]⟩, .nilIface, .int .i64 0, .int .i64 0, .string ⟨#[]⟩, .nilIface, .bool false, .int .u8 0, .string ⟨#[]⟩, .string ⟨#[]⟩, .nilIface, .slice none 0 0, .int .i64 0, .bool false, .bool false, .string ⟨#[]⟩, .string ⟨#[]⟩] 35 (0, 0)) := by rw [hw2]; exact heap_alloc_new' _ _ _ hs1.symm
  have hn1 : ¬ S w.heap.size := fun e => absurd (hS _ e) (by omega)
  have hn2 : ¬ S (w.heap.size + 1) := fun e => absurd (hS _ e) (by omega)
  have HW1 := Lib.hid hw1; have HW2 := Lib.hid hw2; have HS1 := Lib.hid hs1; have HS2 := Lib.hid hs2; have F2 := Lib.hid f2; have Z1 := Lib.hid hz1; have Z2 := Lib.hid hz2; have N1 := Lib.hid hn1; have N2 := Lib.hid hn2; have H2 := Lib.hid (h.on f2)
  clear hw1 hw2 hs1 hs2 f1 f2 hz1 hz2 hn1 hn2
  have HO := Lib.hid (cm_over b l x s S w2 (by omega) H2.out)
  rw [show decide (l.length ≤ s.at_) = false from decide_eq_false (by omega)] at HO
  have hoi : (s.at_ : Int) < l.length := by omega
  have hlti : (l.length : Int) ≤ 99000 := by omega
  go_enter Tryz.func30, Tryz.ntmps30
  go_wp2_with (first | rw [← HW1.out] | rw [HS1.out] | rw [← HW2.out])
  refine HO.out.mono ?_
  rintro z w3 ⟨rfl, f3⟩
  have H3 := Lib.hid (H2.out.on f3); have F3 := Lib.hid (F2.out.trans' f3); have Z23 := Lib.hid (f3.heap Z2.out (fun x => x)); have Z13 := Lib.hid (f3.heap Z1.out (fun x => x))
  obtain ⟨mv, hm3⟩ := H3.out
  have HQ := Lib.hid (And.intro (B5.of hm3.blk) (C9.of Z13.out)); have HQd := Lib.hid (BC.drew (And.intro (B5.of hm3.blk) (C9.of Z13.out)))
  have hb3 := lt_heap hm3.blk; have hc3 := lt_heap Z13.out
  clear f3 hm3
  have e1 := run_storeC_new (w := w3) (s.at_ : Nat) g.a.kind g.a.line ⟨g.a.text.toArray⟩ u1 g.b.kind g.b.line ⟨g.b.text.toArray⟩ u2 g.no (n.toNat : Nat) ⟨#[]⟩ ⟨#[]⟩ ⟨#[]⟩ ⟨#[]⟩ o1 o2
  have e2 := run_storeC_newD (w := w3) (s.at_ : Nat) g.a.kind g.a.line ⟨g.a.text.toArray⟩ u1 g.b.kind g.b.line ⟨g.b.text.toArray⟩ u2 g.no (n.toNat : Nat) ⟨#[]⟩ ⟨#[]⟩ ⟨#[]⟩ ⟨#[]⟩ o1 o2
  have e3 := run_storeC_newE (w := w3) (s.at_ : Nat) g.a.kind g.a.line ⟨g.a.text.toArray⟩ u1 g.b.kind g.b.line ⟨g.b.text.toArray⟩ u2 g.no (n.toNat : Nat) ⟨#[]⟩ ⟨#[]⟩ ⟨#[]⟩ ⟨#[]⟩ o1 o2
  go_wp2_with fail
  go_region_held3 (fun w' => B5 w' b (.string ⟨l.toArray⟩) (.int .i64 (s.at_ : Nat)) (.bool x) mv (.int .i64 s.e) ∧ C9 w' w.heap.size (.int .i64 g.a.kind) (.int .i64 g.a.line) (.string ⟨g.a.text.toArray⟩) u1 (.int .i64 g.b.kind) (.int .i64 g.b.line) (.string ⟨g.b.text.toArray⟩) u2 (.bool g.no)) (repeat (first | (with_reducible exact HQ.out) | (with_reducible exact HQd.out) | (with_reducible refine BC.drew ?_) | (with_reducible refine BC.alloc ?_ _) | (with_reducible refine BC.row ?_ (by omega) (by omega) _))) (first | (rw [hn]) | (rw [e1]) | (rw [e2]) | (rw [e3]))
  all_goals
    obtain ⟨w4, hw4⟩ : ∃ w4, w4 = (w3.alloc (.cells #[.int .i64 0, .int .i64 0, .int .i64 0, .string ⟨#[]⟩, .nilIface, .int .i64 0, .int .i64 0, .string ⟨#[]⟩, .nilIface, .bool false, .int .u8 0, .string ⟨#[]⟩, .string ⟨#[]⟩, .nilIface, .slice none 0 0, .int .i64 0, .bool false, .bool false, .string ⟨#[]⟩, .string ⟨#[]⟩] 35)).drew.setRow w3.heap.size #[.int .i64 (s.at_ : Nat), .int .i64 g.a.kind, .int .i64 g.a.line, .string ⟨g.a.text.toArray⟩, u1, .int .i64 g.b.kind, .int .i64 g.b.line, .string ⟨g.b.text.toArray⟩, u2, .bool g.no, .int .u8 (n.toNat : Nat), .string ⟨#[]⟩, .string ⟨#[]⟩, .nilIface, .slice none 0 0, .int .i64 0, .bool false, .bool false, .string ⟨#[]⟩, .string ⟨#[]⟩] := ⟨_, rfl⟩
    rw [← hw4]
    have hz4 : w4.heap[w3.heap.size]? = some (.cells (cmd20 s.at_ (.int .i64 g.a.kind) (.int .i64 g.a.line) (.string ⟨g.a.text.toArray⟩) u1 (.int .i64 g.b.kind) (.int .i64 g.b.line) (.string ⟨g.b.text.toArray⟩) u2 (.bool g.no) n [] SV.zero .nilIface (.slice none 0 0) []) 35 (0, 0)) := by rw [hw4]; exact setRow_heap _ _ _ _ _ _ (heap_drew (newAt _ _))
    have f4 : Fr nob w3 w4 := by rw [hw4]; exact (((Fr.refl nob w3).alloc _).drew).trans (fr_setRow _ _ _) (fun i hi e => by have e : i = w3.heap.size := e; omega)
    have Z4 := Lib.hid hz4; have F4 := Lib.hid f4; have H4 := Lib.hid (H3.out.on f4); have Z14 := Lib.hid (f4.heap Z13.out (fun x => x)); have Z24 := Lib.hid (f4.heap Z23.out (fun x => x))
    have rg := rule20 hz4 _ (Fr.refl _ _)
    have HAD := Lib.hid (fun w' => cm_addrs n w')
    clear hw4 hz4 f4 e1 e2 e3
    go_wp2_with fail
    refine (HAD.out w4).mono ?_
    rintro z w5 ⟨rfl, f5⟩
    have F5 := Lib.hid (F3.out.trans' (F4.out.trans' f5)); have Z5 := Lib.hid (f5.heap Z4.out (fun x => x)); have Z15 := Lib.hid (f5.heap Z14.out (fun x => x)); have Z25 := Lib.hid (f5.heap Z24.out (fun x => x)); have H5 := Lib.hid (H4.out.on f5)
    obtain ⟨mv5, hm5⟩ := H5.out
    have r5 := rule5 hm5.blk _ (Fr.refl _ _)
    have rg5 := rule20 Z5.out _ (Fr.refl _ _)
    clear f5 rg hm5
    have r9 := rule9 Z15.out _ (Fr.refl _ _)
    have HTD := Lib.hid (cm_told g (.agg (gcell g u1 u2)) w5 ⟨u1, u2, rfl, RN.keep F5.out (fun _ _ x => x.elim) (fun _ _ x => x.elim) _ _ rn1, RN.keep F5.out (fun _ _ x => x.elim) (fun _ _ x => x.elim) _ _ rn2⟩)
    go_wp2_with fail
    refine HTD.out.mono ?_
    rintro z w5b ⟨rfl, f5b⟩
    have F5b := Lib.hid (F5.out.trans' f5b); have Z25b := Lib.hid (f5b.heap Z25.out (fun x => x)); have Z5b := Lib.hid (f5b.heap Z5.out (fun x => x)); have H5b := Lib.hid (H5.out.on f5b)
    obtain ⟨mv5b, hm5b⟩ := H5b.out
    have r5b := rule5 hm5b.blk _ (Fr.refl _ _)
    have rr5 := rule5 hm5b.blk
    have rg5b := rule20 Z5b.out _ (Fr.refl _ _)
    have HC1 := Lib.hid (show w.heap.size + 1 < w3.heap.size by have h1 := HS2.out; have h2 := lt_heap Z23.out; have h3 := lt_heap Z13.out; have h4 := F3.out.size; omega)
    have HBC := Lib.hid (show b ≠ w3.heap.size by have := hS b hm5b.me; have := HC1.out; omega)
    have HBZ := Lib.hid (show b ≠ w.heap.size + 1 by have := hS b hm5b.me; omega)
    clear f5b hm5b r5 r9 rg5
    have HIX := Lib.hid HI.out
    go_wp2_with fail
    refine (HIX.out w5b).mono ?_
    rintro z5 w5c ⟨rfl, rfl⟩
    clear rg5b r5b
    go_wp2_with fail
    have hsl : ∀ W : World, (Instr.slice 9 (.string ⟨l.toArray⟩) (some (.int .i64 (s.at_ : Int))) (some (.int .i64 ((s.at_ : Int) + 1))) none).run Tryz.prog W = .ok (.string ⟨#[n]⟩) W := fun W => by
      rw [run_slice_bs l Tryz.underlying9 (by omega) (by omega) (by omega) W, show ((s.at_ : Int) + 1).toNat - (s.at_ : Int).toNat = 1 by omega, show ((s.at_ : Int)).toNat = s.at_ by omega, take_one ho, hn]
    refine region_fr 19 (by kernel_rfl) (by kernel_rfl) ?_
    simp only [List.take_succ_cons, List.take_zero, List.drop_succ_cons, List.drop_zero]
    repeat (go_big_quiet_step (fail))
    refine wpQuiet_nil ?_
    intro wC fC
    have HCf := Lib.hid (H5b.out.on fC)
    have HFC := Lib.hid (F5b.out.trans' fC)
    have ZC2 := Lib.hid (fC.heap Z25b.out (fun x => x)); have ZC5 := Lib.hid (fC.heap Z5b.out (fun x => x))
    clear fC rr5 hsl
    go_wp2_with fail
    refine (cm_mark b l x s S s.at_ [n] wC (by omega) HCf.out).mono ?_
    rintro z w6 ⟨rfl, S1, h6, st6⟩
    have hc5 := HC1.out
    have hnC : ¬ S w3.heap.size := fun e => by have := hS _ e; omega
    have hn1 : ¬ S1 (w.heap.size + 1) := fun e => N2.out (st6.old _ (lt_heap ZC2.out) e)
    have hnc : ¬ S1 w3.heap.size := fun e => hnC (st6.old _ (lt_heap ZC5.out) e)
    have Z26 := Lib.hid (st6.fr.heap ZC2.out N2.out); have Z6 := Lib.hid (st6.fr.heap ZC5.out hnC)
    have H6 := Lib.hid h6; have ST6 := Lib.hid ((Stp.of HFC.out).trans st6)
    have HN1 := Lib.hid hn1; have HNC := Lib.hid hnc
    have HE1 := Lib.hid (show ((markC s s.at_ [n]).e == 0) = true by show (s.e == 0) = true; rw [he]; rfl)
    have HMK := Lib.hid (show ((markC s s.at_ [n]).to (s.at_ + 1)).marks.length ≤ 100000 by show (s.marks ++ [_]).length ≤ 100000; rw [List.length_append]; simp; omega)
    clear h6 st6 hn1 hnc hnC hc5
    go_wp2_with fail
    refine (cm_ok b l x _ S1 w6 H6.out).mono ?_
    rintro z w7a ⟨rfl, f7a⟩
    rw [HE1.out]
    have h7a := H6.out.on f7a
    obtain ⟨mv7, hm7⟩ := h7a
    have r7 := rule5 hm7.blk _ (Fr.refl _ _)
    (try simp only [markC] at r7)
    have h7 := hm7.turned 1 (.int .i64 ((s.at_ : Int) + 1)) ((markC s s.at_ [n]).to (s.at_ + 1)) (by simp [AdS.to, markC]) rfl
    have st7 := (ST6.out.trans (Stp.of f7a)).trans (hm7.stp 1 (.int .i64 ((s.at_ : Int) + 1)))
    have g7 := ((Fr.refl (fun k => k = b) w7a).setCell (p := ⟨b, 1, none⟩) (fun _ => rfl) (.int .i64 ((s.at_ : Int) + 1))).heap (f7a.heap Z6.out (fun x => x)) (fun e => HBC.out (show b = w3.heap.size from (show w3.heap.size = b from e).symm))
    have z7 := ((Fr.refl (fun k => k = b) w7a).setCell (p := ⟨b, 1, none⟩) (fun _ => rfl) (.int .i64 ((s.at_ : Int) + 1))).heap (f7a.heap Z26.out (fun x => x)) (fun e => HBZ.out (show b = w.heap.size + 1 from (show w.heap.size + 1 = b from e).symm))
    obtain ⟨w7, hw7⟩ : ∃ w7, w7 = w7a.setCell ⟨b, 1, none⟩ (.int .i64 ((s.at_ : Int) + 1)) := ⟨_, rfl⟩
    rw [← hw7] at h7 st7 g7 z7
    have hgA : A3 O w.heap.size w3.heap.size w3.heap.size := .inr (.inr (.inr rfl))
    have hOA : ∀ k, A3 O w.heap.size w3.heap.size k → k < w7.heap.size := fun k hk => by
      have h1 := lt_heap g7
      have h2 := HC1.out
      have h3 := st7.fr.size
      rcases hk with hk | hk | hk | hk
      · have := hO k hk; omega
      all_goals omega
    have HAR := Lib.hid (cm_args b w3.heap.size l x S1 (A3 O w.heap.size w3.heap.size) s.at_ g _ _ _ _ _ _ _ _ _ n ((markC s s.at_ [n]).to (s.at_ + 1)) w7 hl (by show s.at_ + 1 ≤ l.length; omega) HMK.out (st7.lt hS) hOA hgA HNC.out W0 hE (Stp.from st7 hW hSW) (fun k hk => by
      by_cases hko : k < w.heap.size
      · exact hSW k (st7.old k hko hk)
      · have := hW.size; omega) g7 ⟨_, h7⟩)
    have HHW7 := Lib.hid hw7; have ST7 := Lib.hid st7; have Z7 := Lib.hid z7; have HC7 := Lib.hid (lt_heap g7)
    clear hw7 st7 z7 g7 h7 f7a hm7 hgA hOA
    obtain ⟨R, hR⟩ : ∃ R, argsC x l (cv0 s.at_ g n) ((markC s s.at_ [n]).to (s.at_ + 1)) = R := ⟨_, rfl⟩
    have hK := argsC_keep x l (cv0 s.at_ g n) ((markC s s.at_ [n]).to (s.at_ + 1))
    have hin := argsC_in x (cv0 s.at_ g n) (s := (markC s s.at_ [n]).to (s.at_ + 1)) (l := l) (by show s.at_ + 1 ≤ l.length; omega)
    have hmk := argsC_mk x (cv0 s.at_ g n) (s := (markC s s.at_ [n]).to (s.at_ + 1)) (l := l) (N := 100000) (by show s.at_ + 1 ≤ l.length; omega) HMK.out
    rw [hR] at HAR hK hin hmk
    have HR9 := Lib.hid hR
    obtain ⟨rb, ⟨ca, cg, cn, arg_, sub_, tab_⟩, rs⟩ := R
    obtain ⟨k1, k2, k3⟩ := hK
    simp only at k1 k2 k3 hin hmk
    have k1 := k1.symm; have k2 := k2.symm; have k3 := k3.symm
    subst k1; subst k2; subst k3
    clear hR
    go_wp2_with (rw [← HHW7.out])
    refine HAR.out.mono ?_
    rintro z w8 ⟨u, pv, S2, rfl, g8, rn8, po8, h8, st8, n8⟩
    simp only at g8 rn8 po8 h8
    have hz8 := st8.fr.heap Z7.out (fun e => e.elim HN1.out (fun e => by have e : w.heap.size + 1 = w3.heap.size := e; have := HC1.out; omega))
    have hn2 : ¬ S2 (w.heap.size + 1) := fun e => by
      rcases st8.old _ (by have := HC7.out; have := HC1.out; omega) (.inl e) with e | e
      · exact HN1.out e
      · have e : w.heap.size + 1 = w3.heap.size := e
        have := HC1.out; omega
    have hop : pv.oneCell' = true := by obtain ⟨a9, c9, rfl⟩ := ownsRow_slice po8.1; rfl
    have hou : u.oneCell' = true := by rcases rn8.shape with rfl | ⟨i9, y9, rfl⟩ <;> rfl
    have G8 := Lib.hid g8; have RN8 := Lib.hid rn8; have PO8 := Lib.hid po8; have H8 := Lib.hid h8; have ST8 := Lib.hid st8; have N8 := Lib.hid n8; have Z8 := Lib.hid hz8; have N28 := Lib.hid hn2; have HIN := Lib.hid hin; have HMK2 := Lib.hid hmk
    clear g8 rn8 po8 h8 st8 n8 hz8 hn2 r7 hin hmk
    cases rb with
    | false =>
      have hRR : endR l (false, ⟨s.at_, g, n, arg_, sub_, tab_⟩, rs) = (⟨s.at_, g, n, arg_, sub_, tab_⟩, rs) := if_neg (fun h => by cases h.1)
      have GF := Lib.hid G8.out; have ZF := Lib.hid Z8.out
      go_wp2_with (first | refine wpList_load_row rfl 35 _ rfl w3.heap.size rfl 35 (cmd20 s.at_ (.int .i64 g.a.kind) (.int .i64 g.a.line) (.string ⟨g.a.text.toArray⟩) u1 (.int .i64 g.b.kind) (.int .i64 g.b.line) (.string ⟨g.b.text.toArray⟩) u2 (.bool g.no) n arg_ sub_ u pv tab_) (0, 0) _ GF.out Tryz.underlying35 rfl info_C ?_ | refine wpList_store_row rfl 35 _ _ rfl (w.heap.size + 1) (cmd20 s.at_ (.int .i64 g.a.kind) (.int .i64 g.a.line) (.string ⟨g.a.text.toArray⟩) u1 (.int .i64 g.b.kind) (.int .i64 g.b.line) (.string ⟨g.b.text.toArray⟩) u2 (.bool g.no) n arg_ sub_ u pv tab_) rfl rfl 35 _ ZF.out info_C rfl (Array.all_eq_true_iff_forall_mem.2 (by intro v hv; simp only [List.mem_toArray, List.mem_cons, List.not_mem_nil, or_false] at hv; rcases hv with h | h | h | h | h | h | h | h | h | h | h | h | h | h | h | h | h | h | h | h <;> (subst h; first | rfl | assumption))) ?_)
      (try simp only [Exit.inBlock, Exit.then])
      rw [HR9.out, hRR]
      obtain ⟨q1, q2, q3, q4, q5, q6⟩ := cm_close ST7.out ST8.out HC1.out HC7.out HN1.out (Stp.refl _ _) rn1 rn2 RN8.out PO8.out H8.out (cmd20 s.at_ (.int .i64 g.a.kind) (.int .i64 g.a.line) (.string ⟨g.a.text.toArray⟩) u1 (.int .i64 g.b.kind) (.int .i64 g.b.line) (.string ⟨g.b.text.toArray⟩) u2 (.bool g.no) n arg_ sub_ u pv tab_)
      refine bodyPost_ret (results_C20 rfl rfl (setRow_heap _ _ _ _ _ _ ZF.out)) rfl ⟨u1, u2, u, pv, S2, rfl, q1, q2, q3, q4, q5, q6⟩
    | true =>
      by_cases he9 : rs.e = 0
      · have e9 : (rs.e == 0) = true := by simpa using he9
        have hRR : endR l (true, ⟨s.at_, g, n, arg_, sub_, tab_⟩, rs) = (⟨s.at_, g, n, arg_, sub_, tab_⟩, endC l rs) := if_pos ⟨rfl, he9⟩
        go_wp2_with fail
        refine (cm_ok b l x _ S2 w8 H8.out).mono ?_
        rintro z w8a ⟨rfl, f8a⟩
        rw [e9]
        have H8a := Lib.hid (H8.out.on f8a); have F8a := Lib.hid f8a
        clear f8a
        go_wp2_with fail
        refine (cm_end b l x rs S2 w8a hl HIN.out (by have := HMK2.out; omega) H8a.out).mono ?_
        rintro z w9 ⟨rfl, S3, h9, st9⟩
        have H9 := Lib.hid h9; have ST9 := Lib.hid ((Stp.of F8a.out).trans st9)
        have GF := Lib.hid (st9.fr.heap (F8a.out.heap G8.out (fun x => x)) N8.out); have ZF := Lib.hid (st9.fr.heap (F8a.out.heap Z8.out (fun x => x)) N28.out)
        clear h9 st9
        go_wp2_with (first | refine wpList_load_row rfl 35 _ rfl w3.heap.size rfl 35 (cmd20 s.at_ (.int .i64 g.a.kind) (.int .i64 g.a.line) (.string ⟨g.a.text.toArray⟩) u1 (.int .i64 g.b.kind) (.int .i64 g.b.line) (.string ⟨g.b.text.toArray⟩) u2 (.bool g.no) n arg_ sub_ u pv tab_) (0, 0) _ GF.out Tryz.underlying35 rfl info_C ?_ | refine wpList_store_row rfl 35 _ _ rfl (w.heap.size + 1) (cmd20 s.at_ (.int .i64 g.a.kind) (.int .i64 g.a.line) (.string ⟨g.a.text.toArray⟩) u1 (.int .i64 g.b.kind) (.int .i64 g.b.line) (.string ⟨g.b.text.toArray⟩) u2 (.bool g.no) n arg_ sub_ u pv tab_) rfl rfl 35 _ ZF.out info_C rfl (Array.all_eq_true_iff_forall_mem.2 (by intro v hv; simp only [List.mem_toArray, List.mem_cons, List.not_mem_nil, or_false] at hv; rcases hv with h | h | h | h | h | h | h | h | h | h | h | h | h | h | h | h | h | h | h | h <;> (subst h; first | rfl | assumption))) ?_)
        (try simp only [Exit.inBlock, Exit.then])
        rw [HR9.out, hRR]
        obtain ⟨q1, q2, q3, q4, q5, q6⟩ := cm_close ST7.out ST8.out HC1.out HC7.out HN1.out ST9.out rn1 rn2 RN8.out PO8.out H9.out (cmd20 s.at_ (.int .i64 g.a.kind) (.int .i64 g.a.line) (.string ⟨g.a.text.toArray⟩) u1 (.int .i64 g.b.kind) (.int .i64 g.b.line) (.string ⟨g.b.text.toArray⟩) u2 (.bool g.no) n arg_ sub_ u pv tab_)
        refine bodyPost_ret (results_C20 rfl rfl (setRow_heap _ _ _ _ _ _ ZF.out)) rfl ⟨u1, u2, u, pv, S3, rfl, q1, q2, q3, q4, q5, q6⟩
      · have e9 : (rs.e == 0) = false := by simpa using he9
        have hRR : endR l (true, ⟨s.at_, g, n, arg_, sub_, tab_⟩, rs) = (⟨s.at_, g, n, arg_, sub_, tab_⟩, rs) := if_neg (fun h => he9 h.2)
        go_wp2_with fail
        refine (cm_ok b l x _ S2 w8 H8.out).mono ?_
        rintro z w8a ⟨rfl, f8a⟩
        rw [e9]
        have H8a := Lib.hid (H8.out.on f8a); have ST9 := Lib.hid (Stp.of f8a : Stp S2 w8 S2 w8a)
        have GF := Lib.hid (f8a.heap G8.out (fun x => x)); have ZF := Lib.hid (f8a.heap Z8.out (fun x => x))
        clear f8a
        go_wp2_with (first | refine wpList_load_row rfl 35 _ rfl w3.heap.size rfl 35 (cmd20 s.at_ (.int .i64 g.a.kind) (.int .i64 g.a.line) (.string ⟨g.a.text.toArray⟩) u1 (.int .i64 g.b.kind) (.int .i64 g.b.line) (.string ⟨g.b.text.toArray⟩) u2 (.bool g.no) n arg_ sub_ u pv tab_) (0, 0) _ GF.out Tryz.underlying35 rfl info_C ?_ | refine wpList_store_row rfl 35 _ _ rfl (w.heap.size + 1) (cmd20 s.at_ (.int .i64 g.a.kind) (.int .i64 g.a.line) (.string ⟨g.a.text.toArray⟩) u1 (.int .i64 g.b.kind) (.int .i64 g.b.line) (.string ⟨g.b.text.toArray⟩) u2 (.bool g.no) n arg_ sub_ u pv tab_) rfl rfl 35 _ ZF.out info_C rfl (Array.all_eq_true_iff_forall_mem.2 (by intro v hv; simp only [List.mem_toArray, List.mem_cons, List.not_mem_nil, or_false] at hv; rcases hv with h | h | h | h | h | h | h | h | h | h | h | h | h | h | h | h | h | h | h | h <;> (subst h; first | rfl | assumption))) ?_)
        (try simp only [Exit.inBlock, Exit.then])
        rw [HR9.out, hRR]
        obtain ⟨q1, q2, q3, q4, q5, q6⟩ := cm_close ST7.out ST8.out HC1.out HC7.out HN1.out ST9.out rn1 rn2 RN8.out PO8.out H8a.out (cmd20 s.at_ (.int .i64 g.a.kind) (.int .i64 g.a.line) (.string ⟨g.a.text.toArray⟩) u1 (.int .i64 g.b.kind) (.int .i64 g.b.line) (.string ⟨g.b.text.toArray⟩) u2 (.bool g.no) n arg_ sub_ u pv tab_)
        refine bodyPost_ret (results_C20 rfl rfl (setRow_heap _ _ _ _ _ _ ZF.out)) rfl ⟨u1, u2, u, pv, S2, rfl, q1, q2, q3, q4, q5, q6⟩
end Go.Proofs.YtkfddjopbocpkaaGreatDoor
