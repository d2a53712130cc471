/-
  Merged texts of this claim: Base, Bld, BldStr, BldByte, Sets, Claim.
-/
import Derived.WalkKit
import Derived.Lib.AppendStr
import Derived.Lib.Builder
import Derived.Lib.Hide
import Derived.Deep.QuietTactic
import Derived.BigQuiet
import Derived.Deep.LoopGhost
import Derived.Deep.DeepCutAuto
import Derived.Deep.CutBlock
import Derived.Deep.RegionHeld3
import Derived.Lib.OthersKept
import Derived.RegionTactic
import Derived.ChangeAlike
import Derived.Test.YtlchaocpejfikaaGreatDoorChecked
import Derived.Laws.Externs
import Derived.Laws.IdiomCopy
import Derived.Shelf.Lays
import Derived.Shelf.RegionOpenPlain
import Derived.Lib.UnsafeStr
import Derived.StillTailTactics
import Derived.ProofKit
import Derived.ChangeSame
import Derived.ChangeOld
import Derived.Below
import Derived.Carry
import Derived.OpenShut
import Derived.ShutString

/-
  Plain words for what a call does to memory: 'Fr S w w'' (blocks outside S are as they were), with the steps of a walk; rows of bytes. No program in sight.
-/
namespace Go.Proofs.YtlchaocpejfikaaGreatDoor
open Go.RowKit

/-- Blocks that were there and are not in S are as they were; the streams are as they were. -/
structure Fr (S : Nat → Prop) (w w' : World) : Prop where
  os : w'.os = w.os
  tape : w'.tape = w.tape
  output : w'.output = w.output
  size : w.heap.size ≤ w'.heap.size
  block : ∀ k, k < w.heap.size → ¬ S k → w'.heap[k]? = w.heap[k]?

def nob : Nat → Prop := fun _ => False

theorem Fr.refl (S : Nat → Prop) (w : World) : Fr S w w := ⟨rfl, rfl, rfl, Nat.le_refl _, fun _ _ _ => rfl⟩

theorem Fr.mono {S T : Nat → Prop} {w w' : World} (h : Fr S w w') (hs : ∀ k, k < w.heap.size → S k → T k) : Fr T w w' :=
  ⟨h.os, h.tape, h.output, h.size, fun k hk hn => h.block k hk (fun hS => hn (hs k hk hS))⟩

theorem Fr.trans {S T : Nat → Prop} {a b c : World} (h : Fr S a b) (k : Fr T b c) (hs : ∀ i, i < a.heap.size → T i → S i) : Fr S a c :=
  ⟨k.os.trans h.os, k.tape.trans h.tape, k.output.trans h.output, Nat.le_trans h.size k.size, fun i hi hn =>
    (k.block i (Nat.lt_of_lt_of_le hi h.size) (fun hT => hn (hs i hi hT))).trans (h.block i hi hn)⟩

theorem Fr.trans' {S : Nat → Prop} {a b c : World} (h : Fr S a b) (k : Fr S b c) : Fr S a c := h.trans k fun _ _ h => h

theorem Fr.drew {S : Nat → Prop} {a w : World} (h : Fr S a w) : Fr S a w.drew := ⟨h.os, h.tape, h.output, h.size, h.block⟩

theorem Fr.drewN {S : Nat → Prop} {a w : World} (h : Fr S a w) (n : Nat) : Fr S a (w.drewN n) := ⟨h.os, h.tape, h.output, h.size, h.block⟩

theorem Fr.undrew {S : Nat → Prop} {a w : World} (h : Fr S a w.drew) : Fr S a w := ⟨h.os, h.tape, h.output, h.size, h.block⟩

theorem Fr.alloc {S : Nat → Prop} {a w : World} (h : Fr S a w) (o : Obj) : Fr S a (w.alloc o) :=
  h.trans (T := nob) ⟨rfl, rfl, rfl, by simp, fun k hk _ => Below.heap_alloc _ _ _ hk⟩ (fun _ _ h => h.elim)

theorem Fr.setCell {S : Nat → Prop} {a w : World} (h : Fr S a w) {p : Addr} (hp : p.block < a.heap.size → S p.block) (u : Value) : Fr S a (w.setCell p u) :=
  h.trans (T := fun k => k = p.block) ⟨rfl, rfl, rfl, by simp [World.setCell], fun k _ hk => Below.heap_setCell _ _ _ _ hk⟩ (fun i hi e => by subst e; exact hp hi)

theorem Fr.grown {S : Nat → Prop} {a w w' : World} {row : Option Nat} (h : Fr S a w) (hg : w.grownBy w' row) (hr : ∀ k, row = some k → k < a.heap.size → S k) : Fr S a w' :=
  h.trans (T := fun k => row = some k) ⟨hg.os, hg.tape, hg.output, hg.size, fun k hk hn => hg.block k hk (fun e => hn e.symm)⟩ (fun i hi e => hr i e hi)

theorem Fr.below {w w' : World} (h : Fr nob w w') : Below w.heap.size w w' := ⟨h.os, h.tape, h.output, h.size, fun k hk => h.block k hk (fun x => x)⟩

theorem Fr.ofBelow {w w' : World} (h : Below w.heap.size w w') : Fr nob w w' := ⟨h.os, h.tape, h.output, h.size, fun k hk _ => h.block k hk⟩

theorem Fr.any {S : Nat → Prop} {w w' : World} (h : Fr nob w w') : Fr S w w' := h.mono (fun _ _ x => x.elim)

/-- Whatever touches only blocks that were not there yet touches nothing. -/
theorem Fr.fresh {S : Nat → Prop} {w w' : World} (h : Fr S w w') (hS : ∀ k, k < w.heap.size → ¬ S k) : Fr nob w w' := h.mono fun k hk hs => (hS k hk hs).elim

theorem Fr.heap {S : Nat → Prop} {w w' : World} (h : Fr S w w') {k : Nat} {o : Obj} (hk : w.heap[k]? = some o) (hn : ¬ S k) : w'.heap[k]? = some o := by
  rw [h.block k (Array.getElem?_eq_some_iff.1 hk).1 hn]; exact hk

theorem lt_heap {w : World} {k : Nat} {o : Obj} (hk : w.heap[k]? = some o) : k < w.heap.size := (Array.getElem?_eq_some_iff.1 hk).1

theorem Fr.cell {S : Nat → Prop} {w w' : World} (h : Fr S w w') {p : Addr} {v : Value} (hc : w.cell? p = some v) (hn : ¬ S p.block) : w'.cell? p = some v :=
  (World.cell?_of_block (h.block p.block (World.block_lt_of_cell? w p hc) hn)).trans hc

theorem ownsRow_fr {S : Nat → Prop} {w w' : World} {base : Nat} {e : TypeId} {size : Nat} {v : Value} {n : Nat} {xs : List Value} (h : w.ownsRow base e size v n xs) (hf : Fr S w w') (hn : ∀ k, v.ownBlock = some k → ¬ S k) : w'.ownsRow base e size v n xs := by
  refine ⟨h.1, ?_⟩
  rcases h.2 with hn' | ⟨g, cap, cur, rfl, hb, hg, rest⟩
  · exact .inl hn'
  · exact .inr ⟨g, cap, cur, rfl, hb, hf.heap hg (hn g rfl), rest⟩

theorem cell_at {w : World} {b : Nat} {cs : Array Value} {T : TypeId} {fr : Nat × Nat} {v : Value} {j : Nat} (hb : w.heap[b]? = some (.cells cs T fr)) (hj : cs[j]? = some v) : w.cell? ⟨b, j, none⟩ = some v := by
  simp [World.cell?, hb, hj]

theorem unfrozen_at {w : World} {b : Nat} {cs : Array Value} {T : TypeId} (hb : w.heap[b]? = some (.cells cs T (0, 0))) (j : Nat) : w.frozen? ⟨b, j, none⟩ = false := by
  simp [World.frozen?, hb]

theorem heap_setCell_at {w : World} {b : Nat} {cs : Array Value} {T : TypeId} {fr : Nat × Nat} (hb : w.heap[b]? = some (.cells cs T fr)) (j : Nat) (v : Value) :
    (w.setCell ⟨b, j, none⟩ v).heap[b]? = some (.cells (cs.setIfInBounds j v) T fr) := by
  simp [World.setCell, Array.getElem?_modify, hb]

theorem heap_setCell_ne {w : World} {k : Nat} {p : Addr} {o : Obj} (hk : w.heap[k]? = some o) (hne : k ≠ p.block) (v : Value) : (w.setCell p v).heap[k]? = some o := by
  rw [Below.heap_setCell _ _ _ _ hne]; exact hk

theorem ret_int {k : IntKind} {a b : Int} (h : a = b) : Ending.returned (.int k a) = .returned (.int k b) := by rw [h]
theorem ret_bool {a b : Bool} (h : a = b) : Ending.returned (.bool a) = .returned (.bool b) := by rw [h]

/-- A byte as a cell; bytes as cells. -/
def bcell (c : UInt8) : Value := .int .u8 (c.toNat : Int)
def bcells (l : List UInt8) : List Value := l.map bcell

theorem bcells_append (a b : List UInt8) : bcells (a ++ b) = bcells a ++ bcells b := List.map_append

theorem bcells_length (a : List UInt8) : (bcells a).length = a.length := List.length_map _

/-- A strings.Builder that lies at place 'o' of block 'b' (whose cells are 'cs', of type 'T'): what it holds; 'g': the block of its row of bytes. 'e': the number of uint8. -/
def BldAt (e T : TypeId) (b o : Nat) (cs : Array Value) (bs : List UInt8) (g : Option Nat) (w : World) : Prop :=
  w.heap[b]? = some (.cells cs T (0, 0)) ∧ o + 1 < cs.size ∧ (cs[o]? = some (.pointer none) ∨ cs[o]? = some (.pointer (some ⟨b, o, none⟩))) ∧
    ∃ v, cs[o + 1]? = some v ∧ w.ownsRow 0 e 1 v bs.length (bcells bs) ∧ v.ownBlock = g ∧ g ≠ some b ∧ (bs = [] → v = .slice none 0 0)


/-! ### append: where the new row lies -/

/-- Behind an append onto 'v' (in world w) that gave v' in w'. -/
structure Appd (m : Nat) (v v' : Value) (w w' : World) : Prop where
  fr : Fr (fun k => v.ownBlock = some k) w w'
  blk : v'.ownBlock = v.ownBlock ∨ v'.ownBlock = some w.heap.size
  nil : v' = .slice none 0 0 ↔ v = .slice none 0 0 ∧ m = 0

theorem Appd.old {m : Nat} {v v' : Value} {w w' : World} (h : Appd m v v' w w') : ∀ k, v'.ownBlock = some k → v.ownBlock = some k ∨ w.heap.size ≤ k := by
  intro k hk
  rcases h.blk with e | e
  · exact .inl (by rw [← e]; exact hk)
  · rw [e] at hk; injection hk with hk; exact .inr (by omega)

section
variable {P : Program} (w : World)

theorem run_append_g (t ty e : TypeId) (i : TypeInfo) (z : Value) (size bytes : Nat) (ht : P.underlying t = some (.slice e)) (hi : P.info? e = some i) (hz : i.zero = some z)
    (hsize : i.size = size) (hby : i.bytes = bytes) (hzs : z.cells.size = size) (hsz : 0 < size)
    (v : Value) (n : Nat) (xs : List Value) (hown : w.ownsRow 0 e size v n xs)
    (a : Addr) (m c : Nat) (news : List Value) (hl : news.length = m * size) (hnews : ∀ j u, news[j]? = some u → w.cell? (a.add j) = some u) (h1 : ∀ u ∈ news, u.oneCell' = true)
    (h63 : n + m ≤ maxLen) (hbytes : (n + m) * bytes ≤ 140737488355328) :
    ∃ v' w', (Builtin.append_ #[t, t] ty #[v, .slice (some a) m c]).run P w = .ok v' w' ∧ w'.ownsRow 0 e size v' (n + m) (xs ++ news) ∧ Appd m v v' w w' := by
  obtain ⟨v', w', hr, hown', hg, hnil⟩ := run_append_own (P := P) w 0 t ty e i z size bytes ht hi hz hsize hby hzs hsz v n xs hown a m c news hl hnews h1 h63 hbytes (Nat.zero_le _)
  refine ⟨v', w', hr, hown', (Fr.refl _ w).grown hg (fun k hk _ => hk), ?_, hnil⟩
  have hsmall : n + m ≤ 9223372036854775807 := by simp only [maxLen] at h63; omega
  rcases hown.2 with ⟨rfl, rfl⟩ | ⟨g, cap, cur, rfl, hbg, hgh, hnc, hcm, hcs, htake⟩
  · by_cases hm : m = 0
    · have := hnil.2 ⟨rfl, hm⟩; subst this; exact .inl rfl
    · have hr' := run_append_nil (P := P) w t ty e i z ht hi hz a m c news (by rw [hl, hsize]) hnews (by omega) (by omega) (by rw [hby]; simp only [Nat.zero_add] at hbytes; omega)
      rw [hr'] at hr; injection hr with h1 h2; subst h1; exact .inr rfl
  · by_cases hroom : n + m ≤ cap
    · have hr' := run_append_room (P := P) w t ty e i ht hi g n cap cur hgh a m c news (by rw [hl, hsize]) hnews h1 hroom (by rw [hl, hcs, hsize, ← Nat.add_mul]; exact Nat.mul_le_mul_right _ hroom)
      rw [hr'] at hr; injection hr with h1 h2; subst h1; exact .inl rfl
    · have holds : ∀ j u, xs[j]? = some u → w.cell? ((⟨g, 0, none⟩ : Addr).add j) = some u := hown.cells (g := g) rfl
      have hr' := run_append_grow (P := P) w t ty e i z ht hi hz ⟨g, 0, none⟩ n cap xs (by rw [hsize]; exact hown.1) holds a m c news (by rw [hl, hsize]) hnews (by omega) (by omega) (by rw [hby]; exact growslice_fits (by omega) hbytes)
      rw [hr'] at hr; injection hr with h1 h2; subst h1; exact .inr rfl

theorem wpList_append_g {w : World} {ops : Array Oper} {rest : List Oper} {o : Oper} {a : Act} {Q : Exit → Act → World → Prop} (hgd : o.guard = none) (s x : Operand) (t : TypeId)
    (ho : o.op = .call { callee := .builtin .append, args := #[s, x], argTypes := #[t, t] })
    (e : TypeId) (i : TypeInfo) (z : Value) (size bytes : Nat) (ht : P.underlying t = some (.slice e)) (hi : P.info? e = some i) (hz : i.zero = some z)
    (hsize : i.size = size) (hby : i.bytes = bytes) (hzs : z.cells.size = size) (hsz : 0 < size)
    (v : Value) (n : Nat) (xs : List Value) (hs : a.eval s = v) (hown : w.ownsRow 0 e size v n xs)
    (ad : Addr) (m c : Nat) (news : List Value) (hx : a.eval x = .slice (some ad) m c) (hl : news.length = m * size) (hnews : ∀ j u, news[j]? = some u → w.cell? (ad.add j) = some u) (h1 : ∀ u ∈ news, u.oneCell' = true)
    (h63 : n + m ≤ maxLen) (hbytes : (n + m) * bytes ≤ 140737488355328)
    (h : ∀ v' w', w'.ownsRow 0 e size v' (n + m) (xs ++ news) → Appd m v v' w w' → wpList P ops Q rest (a.put o.dst v') w') : wpList P ops Q (o :: rest) a w := by
  refine wpList_plain hgd fun K hK => ?_
  obtain ⟨v', w', hr, h2, h3⟩ := run_append_g (P := P) w t o.type e i z size bytes ht hi hz hsize hby hzs hsz v n xs hown ad m c news hl hnews h1 h63 hbytes
  unfold Oper.wp execOp
  simp only [ho, resolve, invoke, builtin, Sem.run_bind, Sem.run_pure, Result.andThen_ok, List.map_toArray, List.map_cons, List.map_nil, hs, hx, hr]
  exact hK _ _ (h v' w' h2 h3)

theorem run_append_gs (t u ty e : TypeId) (i : TypeInfo) (ht : P.underlying t = some (.slice e)) (hu : P.underlying u = some .string) (hi : P.info? e = some i) (hz : i.zero = some (.int .u8 0))
    (hsize : i.size = 1) (hby : i.bytes = 1)
    (v : Value) (n : Nat) (xs : List Value) (hown : w.ownsRow 0 e 1 v n xs) (s : ByteArray)
    (h63 : n + s.size ≤ maxLen) (hbytes : n + s.size ≤ 140737488355328) :
    ∃ v' w', (Builtin.append_ #[t, u] ty #[v, .string s]).run P w = .ok v' w' ∧ w'.ownsRow 0 e 1 v' (n + s.size) (xs ++ Lib.strCells s) ∧ Appd s.size v v' w w' := by
  obtain ⟨v', w', hr, hown', hg, hnil⟩ := Lib.run_append_own_string (P := P) w 0 t u ty e i ht hu hi hz hsize hby v n xs hown s h63 hbytes (Nat.zero_le _)
  refine ⟨v', w', hr, hown', (Fr.refl _ w).grown hg (fun k hk _ => hk), ?_, hnil⟩
  have hsmall : n + s.size ≤ 9223372036854775807 := by simp only [maxLen] at h63; omega
  have hxl : xs.length = n := by simpa using hown.1
  rcases hown.2 with ⟨rfl, rfl⟩ | ⟨g, cap, cur, rfl, hbg, hgh, hnc, hcm, hcs, htake⟩
  · by_cases hm : s.size = 0
    · have := hnil.2 ⟨rfl, hm⟩; subst this; exact .inl rfl
    · have hr' := run_append_nil_string (P := P) w t u ty e i (.int .u8 0) ht hu hi hz s (by omega) (by omega) (by rw [hby]; omega)
      rw [hr'] at hr; injection hr with h1 h2; subst h1; exact .inr rfl
  · by_cases hroom : n + s.size ≤ cap
    · have hcs' : cur.size = cap := by simpa using hcs
      have hr' := Lib.run_append_room_string (P := P) w t u ty e i ht hu hi hsize g n cap cur hgh s hroom (by omega)
      rw [hr'] at hr; injection hr with h1 h2; subst h1; exact .inl rfl
    · have holds : ∀ j u, xs[j]? = some u → w.cell? ((⟨g, 0, none⟩ : Addr).add j) = some u := hown.cells (g := g) rfl
      have hr' := Lib.run_append_grow_string (P := P) w t u ty e i (.int .u8 0) ht hu hi hz ⟨g, 0, none⟩ n cap xs (by rw [hsize]; simpa using hxl) holds s (by omega) (by omega) (by rw [hby]; exact growslice_fits (by omega) (by omega))
      rw [hr'] at hr; injection hr with h1 h2; subst h1; exact .inr rfl

theorem wpList_append_gs {w : World} {ops : Array Oper} {rest : List Oper} {o : Oper} {a : Act} {Q : Exit → Act → World → Prop} (hgd : o.guard = none) (sl x : Operand) (t u : TypeId)
    (ho : o.op = .call { callee := .builtin .append, args := #[sl, x], argTypes := #[t, u] })
    (e : TypeId) (i : TypeInfo) (ht : P.underlying t = some (.slice e)) (hu : P.underlying u = some .string) (hi : P.info? e = some i) (hz : i.zero = some (.int .u8 0))
    (hsize : i.size = 1) (hby : i.bytes = 1)
    (v : Value) (n : Nat) (xs : List Value) (hs : a.eval sl = v) (hown : w.ownsRow 0 e 1 v n xs) (s : ByteArray) (hx : a.eval x = .string s)
    (h63 : n + s.size ≤ maxLen) (hbytes : n + s.size ≤ 140737488355328)
    (h : ∀ v' w', w'.ownsRow 0 e 1 v' (n + s.size) (xs ++ Lib.strCells s) → Appd s.size v v' w w' → wpList P ops Q rest (a.put o.dst v') w') : wpList P ops Q (o :: rest) a w := by
  refine wpList_plain hgd fun K hK => ?_
  obtain ⟨v', w', hr, h2, h3⟩ := run_append_gs (P := P) w t u o.type e i ht hu hi hz hsize hby v n xs hown s h63 hbytes
  unfold Oper.wp execOp
  simp only [ho, resolve, invoke, builtin, Sem.run_bind, Sem.run_pure, Result.andThen_ok, List.map_toArray, List.map_cons, List.map_nil, hs, hx, hr]
  exact hK _ _ (h v' w' h2 h3)
end

theorem ownsRow_slice' {w : World} {base : Nat} {e : TypeId} {size : Nat} {v : Value} {n : Nat} {xs : List Value} (h : w.ownsRow base e size v n xs) : ∃ a n' cap, v = .slice a n' cap := by
  rcases h.2 with ⟨rfl, rfl⟩ | ⟨g, cap, cur, rfl, _⟩
  · exact ⟨_, _, _, rfl⟩
  · exact ⟨_, _, _, rfl⟩

theorem heap_alloc_lt {w : World} {k : Nat} {o : Obj} (o' : Obj) (hk : w.heap[k]? = some o) : (w.alloc o').heap[k]? = some o := by
  rw [Below.heap_alloc w o' k (lt_heap hk)]; exact hk

theorem ownsRow_slice {w : World} {base : Nat} {e : TypeId} {size : Nat} {v : Value} {n : Nat} {xs : List Value} (h : w.ownsRow base e size v n xs) : ∃ a cap, v = .slice a n cap := by
  rcases h.2 with ⟨rfl, rfl⟩ | ⟨g, cap, cur, rfl, _⟩
  · exact ⟨_, _, rfl⟩
  · exact ⟨_, _, rfl⟩

end Go.Proofs.YtlchaocpejfikaaGreatDoor

/-
  strings.Builder's methods at a builder that lies anywhere in a block: what each does.
-/
namespace Go.Proofs.YtlchaocpejfikaaGreatDoor
open Go.RowKit

def bldT : TypeId := 54
def u8T : TypeId := 5

theorem info_bld : (Tryz.prog.info? 54).map (·.size) = some 2 := by kernel_rfl
theorem info_u8 : (Tryz.prog.info? 5).map (fun i => (i.zero, i.size, i.bytes)) = some (some (.int .u8 0), 1, 1) := by kernel_rfl

/-- Where a type's lay-out has a Builder at a place. -/
def BldIn (T : TypeId) (n o : Nat) : Prop := liesAt Tryz.prog Tryz.prog.depth T (n / Tryz.prog.cellsOf T) o 54 1 = true

set_option maxRecDepth 100000 in
set_option maxHeartbeats 1000000 in
theorem copyCheck_any (T : TypeId) (b o : Nat) (cs : Array Value) (bs : List UInt8) (g : Option Nat) (w : World) (h : BldAt 5 T b o cs bs g w) (hl : BldIn T cs.size o) :
    Calls Tryz.prog 76 #[.pointer (some ⟨b, o, none⟩)] w fun e w' => e = .returned (.tuple #[]) ∧
      BldAt 5 T b o (cs.setIfInBounds o (.pointer (some ⟨b, o, none⟩))) bs g w' ∧ Fr (fun k => k = b) w w' := by
  obtain ⟨hb, ho, hp, v, hv, hown, hg, hne, hni⟩ := h
  obtain ⟨j, hj, hjs⟩ := Option.map_eq_some_iff.1 info_bld
  have hsh : w.shape? b = some (T, cs.size) := by simp [World.shape?, hb]
  have hfz : w.frozen? ⟨b, o, none⟩ = false := unfrozen_at hb o
  rcases hp with hp | hp
  · have h0 := cell_at hb hp
    have HB := Lib.hid hb; have HO := Lib.hid ho; have HV := Lib.hid hv; have HW := Lib.hid hown; have HG := Lib.hid hg; have HN := Lib.hid hne; have HP := Lib.hid hp; have HL := Lib.hid hl; have HJ := Lib.hid hjs; have HS := Lib.hid hsh; have HI := Lib.hid hni
    clear hb ho hv hown hg hne hp hl hjs hsh hni
    go_enter Tryz.func76, Tryz.ntmps76
    go_wp2
    rw [Lib.run_to_unsafe w ⟨b, o, none⟩ Tryz.underlying51 Tryz.underlying156 hj (by rw [HJ.out]; decide) HS.out (Nat.lt_of_succ_lt HO.out)]
    simp only [Result.andThen]
    rw [Oper.upon_value]
    go_wp2
    rw [run_callFunc_extern Tryz.func99 (by kernel_rfl) (by kernel_rfl) (by kernel_rfl) (e := Extern.AbiNoEscape.same) (by kernel_rfl)]
    rw [Lib.run_noEscape]
    simp only [Result.andThen]
    rw [Oper.upon_value]
    go_wp2
    rw [Lib.run_from_unsafe w ⟨b, o, none⟩ Tryz.underlying156 Tryz.underlying51 hj HS.out HL.out]
    simp only [Result.andThen]
    rw [Oper.upon_value]
    go_wp2
    go_end0
    have ho := HO.out
    refine ⟨rfl, ⟨heap_setCell_at HB.out o _, by simpa using ho, .inr (by rw [Array.getElem?_setIfInBounds, if_pos rfl, if_pos (by omega)]), v, ?_, ?_, HG.out, HN.out, HI.out⟩, (Fr.refl (fun k => k = b) w).setCell (p := ⟨b, o, none⟩) (fun _ => rfl) _⟩
    · rw [Array.getElem?_setIfInBounds, if_neg (by omega)]; exact HV.out
    · have hn := HN.out
      exact ownsRow_fr HW.out ((Fr.refl (fun k => k = b) w).setCell (p := ⟨b, o, none⟩) (fun _ => rfl) _) (fun k hk e => hn (by rw [← HG.out, hk, e]))
  · have h0 := cell_at hb hp
    have HB := Lib.hid hb; have HO := Lib.hid ho; have HV := Lib.hid hv; have HW := Lib.hid hown; have HG := Lib.hid hg; have HN := Lib.hid hne; have HP := Lib.hid hp; have HL := Lib.hid hl; have HJ := Lib.hid hjs; have HS := Lib.hid hsh; have HI := Lib.hid hni
    clear hb ho hv hown hg hne hp hl hjs hsh hni
    go_enter Tryz.func76, Tryz.ntmps76
    go_wp2
    rw [Lib.run_neq_ptr_same w _ Tryz.underlying51 hj]
    go_wp2
    go_end0
    have hcs : cs.setIfInBounds o (.pointer (some ⟨b, o, none⟩)) = cs := by
      apply Array.ext_getElem?
      intro i
      rw [Array.getElem?_setIfInBounds]
      have ho := HO.out
      split
      · subst_vars; rw [if_pos (by omega)]; exact HP.out.symm
      · rfl
    rw [hcs]
    exact ⟨rfl, ⟨HB.out, HO.out, .inr HP.out, v, HV.out, HW.out, HG.out, HN.out, HI.out⟩, Fr.refl _ _⟩


theorem set_set_ne {cs : Array Value} {o i : Nat} {p : Value} (h : i ≠ o) : (cs.setIfInBounds o p)[i]? = cs[i]? := by
  rw [Array.getElem?_setIfInBounds, if_neg (fun e => h e.symm)]

theorem set_at {cs : Array Value} {o : Nat} {p : Value} (h : o < cs.size) : (cs.setIfInBounds o p)[o]? = some p := by
  rw [Array.getElem?_setIfInBounds, if_pos rfl, if_pos h]

/-- What a Builder's cells are behind a write. -/
def bldCells (cs : Array Value) (b o : Nat) (v : Value) : Array Value := (cs.setIfInBounds o (.pointer (some ⟨b, o, none⟩))).setIfInBounds (o + 1) v

theorem bldCells_size (cs : Array Value) (b o : Nat) (v : Value) : (bldCells cs b o v).size = cs.size := by simp [bldCells]

theorem bldCells_ne (cs : Array Value) (b o : Nat) (v : Value) {i : Nat} (h : i ≠ o) (h' : i ≠ o + 1) : (bldCells cs b o v)[i]? = cs[i]? := by
  unfold bldCells; rw [set_set_ne h', set_set_ne h]

theorem fr_freeze {S : Nat → Prop} {a w : World} (h : Fr S a w) {p : Addr} (hp : p.block < a.heap.size → S p.block) (n : Nat) : Fr S a (w.freeze p n) := by
  refine h.trans (T := fun k => k = p.block) ?_ (fun i hi e => by subst e; exact hp hi)
  unfold World.freeze
  split
  · exact Fr.refl _ _
  · refine ⟨rfl, rfl, rfl, by simp, fun k _ hk => ?_⟩
    simp only [Array.getElem?_modify]
    rw [if_neg (fun e => hk e.symm)]

set_option maxRecDepth 100000 in
set_option maxHeartbeats 1000000 in
theorem string_some (T : TypeId) (b o : Nat) (cs : Array Value) (bs : List UInt8) (g : Option Nat) (w : World) (h : BldAt 5 T b o cs bs g w) (h0 : bs ≠ []) :
    Calls Tryz.prog 25 #[.pointer (some ⟨b, o, none⟩)] w fun e w' => e = .returned (.string ⟨bs.toArray⟩) ∧ Fr (fun k => some k = g) w w' := by
  obtain ⟨hb, ho, hp, v, hv, hown, hg, hne, _⟩ := h
  have hl0 : bs.length ≠ 0 := by simpa using h0
  obtain ⟨gb, cap, cur, rfl, _, hgh, hnc, hcm, hcs, htake⟩ : ∃ g cap cur, v = .slice (some ⟨g, 0, none⟩) bs.length cap ∧ 0 ≤ g ∧ w.heap[g]? = some (.cells cur 5 (0, 0)) ∧ bs.length ≤ cap ∧ cap ≤ maxLen ∧ cur.size = cap * 1 ∧ cur.toList.take (bs.length * 1) = bcells bs := by
    rcases hown.2 with ⟨_, hz⟩ | ⟨g, cap, cur, hv, r⟩
    · exact absurd hz hl0
    · exact ⟨g, cap, cur, hv, r⟩
  have c1 : w.drew.cell? ⟨b, o + 1, none⟩ = some (.slice (some ⟨gb, 0, none⟩) bs.length cap) := cell_at (w := w.drew) hb hv
  have hSD : (Builtin.unsafeSliceData_ #[52] 116 #[.slice (some ⟨gb, 0, none⟩) bs.length cap]).run Tryz.prog w.drew = .ok (.pointer (some ⟨gb, 0, none⟩)) w.drew :=
    Lib.run_unsafeSliceData_row _ _ _ _ _ _ (by omega)
  have hUS : (Builtin.unsafeString_ #[116, 3] 9 #[.pointer (some ⟨gb, 0, none⟩), .int .i64 bs.length]).run Tryz.prog w.drew = .ok (.string ⟨bs.toArray⟩) (w.drew.freeze ⟨gb, 0, none⟩ bs.length) := by
    refine Lib.run_unsafeString_row w.drew 116 3 9 5 Tryz.underlying116 (by kernel_rfl) gb cur.size (by have hg' : w.drew.heap[gb]? = some (.cells cur 5 (0, 0)) := hgh; simp [World.shape?, hg']) bs h0 (by omega) (by unfold maxLen at hcm; omega) ?_
    intro j x hx
    have := hown.cells (g := gb) rfl j (.int .u8 x.toNat) (by simp [bcells, bcell, hx])
    exact this
  have HG := Lib.hid hg; have HB := Lib.hid hb
  clear hb ho hp hv hown hg hne hgh hnc hcm hcs htake hl0 h0
  go_enter Tryz.func25, Tryz.ntmps25
  go_wp2
  go_still_tail 10, (by kernel_rfl)
  change wpList _ _ _ _ _ w.drew
  all_goals (go_wp2; go_ret; exact ⟨rfl, fr_freeze (Fr.refl _ w).drew (p := ⟨gb, 0, none⟩) (fun _ => HG.out) _⟩)


set_option maxRecDepth 100000 in
set_option maxHeartbeats 1000000 in
theorem string_none (T : TypeId) (b o : Nat) (cs : Array Value) (g : Option Nat) (w : World) (h : BldAt 5 T b o cs [] g w) :
    Calls Tryz.prog 25 #[.pointer (some ⟨b, o, none⟩)] w fun e w' => e = .returned (.string ⟨#[]⟩) ∧ Fr (fun k => some k = g) w w' := by
  obtain ⟨hb, ho, hp, v, hv, hown, hg, hne, hn⟩ := h
  have hnil := hn rfl; subst hnil
  have c1 : w.drew.cell? ⟨b, o + 1, none⟩ = some (.slice none 0 0) := cell_at (w := w.drew) hb hv
  have hSD : (Builtin.unsafeSliceData_ #[52] 116 #[.slice none 0 0]).run Tryz.prog w.drew = .ok (.pointer none) w.drew := rfl
  have hUS : (Builtin.unsafeString_ #[116, 3] 9 #[.pointer none, .int .i64 0]).run Tryz.prog w.drew = .ok (.string .empty) w.drew := Lib.run_unsafeString_none w.drew _ _ _ none
  clear hb ho hp hv hown hg hne hn
  go_enter Tryz.func25, Tryz.ntmps25
  go_wp2
  go_still_tail 10, (by kernel_rfl)
  change wpList _ _ _ _ _ w.drew
  all_goals (go_wp2; go_ret; exact ⟨rfl, (Fr.refl _ w).drew⟩)

/-- (*strings.Builder).String: the bytes. -/
theorem string_any (T : TypeId) (b o : Nat) (cs : Array Value) (bs : List UInt8) (g : Option Nat) (w : World) (h : BldAt 5 T b o cs bs g w) :
    Calls Tryz.prog 25 #[.pointer (some ⟨b, o, none⟩)] w fun e w' => e = .returned (.string ⟨bs.toArray⟩) ∧ Fr (fun k => some k = g) w w' := by
  by_cases h0 : bs = []
  · subst h0; exact string_none T b o cs g w h
  · exact string_some T b o cs bs g w h h0

/-- A strings.Builder in a block of its own. -/
def Bb (b : Nat) (out : List UInt8) (g : Option Nat) (w : World) : Prop := ∃ cs, BldAt 5 54 b 0 cs out g w ∧ cs.size = 2

theorem Bb.new (w : World) : Bb w.heap.size [] none (w.alloc (.cells #[.pointer none, .slice none 0 0] 54)) :=
  ⟨_, ⟨heap_alloc_new w _, by simp, .inl rfl, .slice none 0 0, rfl, World.ownsRow_nil _ _ _ _, rfl, by simp, fun _ => rfl⟩, rfl⟩
theorem bldIn_own {n : Nat} (h : n = 2) : BldIn 54 n 0 := by subst h; unfold BldIn; kernel_rfl

theorem bb_string (b : Nat) (out : List UInt8) (g : Option Nat) (w : World) (h : Bb b out g w) :
    Calls Tryz.prog 25 #[.pointer (some ⟨b, 0, none⟩)] w fun e w' => e = .returned (.string ⟨out.toArray⟩) ∧ Fr (fun k => some k = g) w w' := by
  obtain ⟨cs, hb, hs⟩ := h
  exact string_any _ b 0 cs out g w hb

theorem keep_new {b : Nat} {g g' : Option Nat} {w wr w1 : World} (hb : w.heap.size ≤ b) (hf : Fr nob w wr) (hg : ∀ j, g = some j → w.heap.size ≤ j) (hf1 : Fr (fun k => k = b ∨ some k = g) wr w1) : Fr nob w w1 :=
  hf.trans hf1 (fun i hi h => by rcases h with h | h; omega; have := hg i h.symm; omega)
theorem new_blk {g g' : Option Nat} {w wr : World} (hf : Fr nob w wr) (hg : ∀ j, g = some j → w.heap.size ≤ j) (hg1 : ∀ k, g' = some k → some k = g ∨ wr.heap.size ≤ k) : ∀ j, g' = some j → w.heap.size ≤ j := fun j hj => by
  have := hf.size
  rcases hg1 j hj with h | h
  · exact hg j h.symm
  · omega

end Go.Proofs.YtlchaocpejfikaaGreatDoor

/-
  strings.Builder: WriteString.
-/
namespace Go.Proofs.YtlchaocpejfikaaGreatDoor
open Go.RowKit

theorem strCells_mk (l : List UInt8) : Lib.strCells ⟨l.toArray⟩ = bcells l := rfl

set_option maxRecDepth 100000 in
set_option maxHeartbeats 1000000 in
theorem writeString_any (T : TypeId) (b o : Nat) (cs : Array Value) (bs : List UInt8) (g : Option Nat) (l : List UInt8) (w : World) (h : BldAt 5 T b o cs bs g w) (hl : BldIn T cs.size o) (hlen : bs.length + l.length ≤ 140737488355328) :
    Calls Tryz.prog 60 #[.pointer (some ⟨b, o, none⟩), .string ⟨l.toArray⟩] w fun e w' => e = .returned (.tuple #[.int .i64 l.length, .nilIface]) ∧
      ∃ v', BldAt 5 T b o (bldCells cs b o v') (bs ++ l) v'.ownBlock w' ∧ Fr (fun k => k = b ∨ some k = g) w w' ∧ (∀ k, v'.ownBlock = some k → some k = g ∨ w.heap.size ≤ k) := by
  obtain ⟨i0, hi, hz0, hz1, hz2⟩ := info_parts info_u8
  have HL := Lib.hid hl; clear hl
  go_enter Tryz.func60, Tryz.ntmps60
  go_wp2_with (go_at_call 76; refine (copyCheck_any T b o cs bs g _ h HL.out).mono ?_)
  rintro e w1 ⟨rfl, h1, hf1⟩
  obtain ⟨hb, ho, hp, v, hv, hown, hg, hne, hni⟩ := h1
  have c1 : w1.cell? ⟨b, o + 1, none⟩ = some v := cell_at hb hv
  have HB := Lib.hid hb; have HO := Lib.hid ho; have HV := Lib.hid hv; have HG := Lib.hid hg; have HN := Lib.hid hne; have HP := Lib.hid hp; have HI := Lib.hid hni
  clear hb ho hv hg hne hp hni
  go_wp2_with (at_builtin; refine wpList_append_gs rfl _ _ 52 9 rfl 5 i0 Tryz.underlying52 Tryz.underlying9 hi hz0 hz1 hz2 _ _ _ rfl hown ⟨l.toArray⟩ rfl ?c3 ?c4 ?_)
  case c3 => unfold maxLen; show bs.length + l.toArray.size ≤ _; simp; omega
  case c4 => show bs.length + l.toArray.size ≤ _; simp; omega
  intro v' w2 hown' hap
  have hb := HB.out
  have hgb := HG.out; have hnb := HN.out
  have hb2 : w2.heap[b]? = some (.cells (cs.setIfInBounds o (.pointer (some ⟨b, o, none⟩))) T (0, 0)) :=
    hap.fr.heap hb (fun e => hnb (by rw [← hgb, e]))
  have d1 : w2.cell? ⟨b, o + 1, none⟩ = some v := cell_at hb2 HV.out
  have f1 : w2.frozen? ⟨b, o + 1, none⟩ = false := unfrozen_at hb2 _
  have hlt := lt_heap hb
  have hne' : v'.ownBlock ≠ some b := by
    intro e
    rcases hap.old b e with h | h
    · exact hnb (by rw [← hgb, h])
    · omega
  have hnew : ∀ k, v'.ownBlock = some k → some k = g ∨ w.heap.size ≤ k := by
    intro k hk
    have := hf1.size
    rcases hap.old k hk with h | h
    · exact .inl (by rw [← hgb, h])
    · exact .inr (by omega)
  have hrow : w2.ownsRow 0 5 1 v' (bs ++ l).length (bcells (bs ++ l)) := by
    rw [bcells_append, List.length_append]
    exact hown'
  have hni' : bs ++ l = [] → v' = .slice none 0 0 := fun h => by
    rw [List.append_eq_nil_iff] at h
    exact hap.nil.2 ⟨HI.out h.1, by show l.toArray.size = 0; simp [h.2]⟩
  have hfr : Fr (fun k => k = b ∨ some k = g) w w2 := by
    refine (hf1.mono (fun _ _ h => Or.inl h)).trans hap.fr (fun k _ h => Or.inr ?_)
    rw [← hgb, h]
  obtain ⟨ga, gn, gc, hvs⟩ := ownsRow_slice' hrow
  have HNI := Lib.hid hni'; clear hni'
  have HB2 := Lib.hid hb2; have HNE := Lib.hid hne'; have HNEW := Lib.hid hnew; have HROW := Lib.hid hrow; have HFR := Lib.hid hfr
  clear hb hb2 hgb hnb hne' hnew hrow hown' hfr
  subst hvs
  go_wp2
  go_ret2
  have ho := HO.out
  refine ⟨by simp, _, ⟨heap_setCell_at HB2.out _ _, ?_, .inr ?_, _, set_at ho, ?_, rfl, HNE.out, HNI.out⟩, ?_, HNEW.out⟩
  · rw [bldCells_size]; simpa using ho
  · unfold bldCells; rw [set_set_ne (by omega)]; exact set_at (by simp at ho; omega)
  · exact ownsRow_fr HROW.out ((Fr.refl (fun k => k = b) w2).setCell (p := ⟨b, o + 1, none⟩) (fun _ => rfl) _) (fun k hk e => HNE.out (by rw [hk, e]))
  · exact HFR.out.setCell (p := ⟨b, o + 1, none⟩) (fun _ => Or.inl rfl) _

end Go.Proofs.YtlchaocpejfikaaGreatDoor

/-
  strings.Builder: WriteByte.
-/
namespace Go.Proofs.YtlchaocpejfikaaGreatDoor
open Go.RowKit

set_option maxRecDepth 100000 in
set_option maxHeartbeats 1000000 in
theorem writeByte_any (T : TypeId) (b o : Nat) (cs : Array Value) (bs : List UInt8) (g : Option Nat) (c : Int) (w : World) (hc : 0 ≤ c ∧ c ≤ 255) (h : BldAt 5 T b o cs bs g w) (hl : BldIn T cs.size o) (hlen : bs.length ≤ 140737488355327) :
    Calls Tryz.prog 51 #[.pointer (some ⟨b, o, none⟩), .int .u8 c] w fun e w' => e = .returned .nilIface ∧
      ∃ v', BldAt 5 T b o (bldCells cs b o v') (bs ++ [c.toNat.toUInt8]) v'.ownBlock w' ∧ Fr (fun k => k = b ∨ some k = g) w w' ∧ (∀ k, v'.ownBlock = some k → some k = g ∨ w.heap.size ≤ k) := by
  obtain ⟨i0, hi, hz0, hz1, hz2⟩ := info_parts info_u8
  have hcv : bcell c.toNat.toUInt8 = .int .u8 c := by
    unfold bcell; congr 1; simp; omega
  have HC := Lib.hid hcv; clear hcv
  have HL := Lib.hid hl; clear hl
  go_enter Tryz.func51, Tryz.ntmps51
  go_wp2_with (go_at_call 76; refine (copyCheck_any T b o cs bs g _ h HL.out).mono ?_)
  rintro e w1 ⟨rfl, h1, hf1⟩
  obtain ⟨hb, ho, hp, v, hv, hown, hg, hne, hni⟩ := h1
  have c1 : w1.cell? ⟨b, o + 1, none⟩ = some v := cell_at hb hv
  have HB := Lib.hid hb; have HO := Lib.hid ho; have HV := Lib.hid hv; have HG := Lib.hid hg; have HN := Lib.hid hne; have HP := Lib.hid hp; have HI := Lib.hid hni
  clear hb ho hv hg hne hp hni
  go_wp2_with (at_builtin; refine wpList_append_g rfl _ _ 52 rfl 5 i0 (.int .u8 0) 1 1 Tryz.underlying52 hi hz0 hz1 hz2 rfl (by decide) _ _ _ rfl (hown.alloc _) ⟨w1.heap.size, 0, none⟩ 1 1 [.int .u8 c] rfl rfl ?c1 ?c2 ?c3 ?c4 ?_)
  case c1 =>
    intro j u hj
    match j, hj with
    | 0, hj => simp at hj; subst hj; simp [Addr.add]
  case c2 => intro u hu; simp at hu; subst hu; rfl
  case c3 => unfold maxLen; omega
  case c4 => omega
  intro v' w2 hown' hap
  have hb := HB.out; have hlt : b < w1.heap.size := lt_heap hb
  have hgb := HG.out; have hnb := HN.out
  have hb2 : w2.heap[b]? = some (.cells (cs.setIfInBounds o (.pointer (some ⟨b, o, none⟩))) T (0, 0)) :=
    hap.fr.heap (heap_alloc_lt _ hb) (fun e => hnb (by rw [← hgb, e]))
  have d1 : w2.cell? ⟨b, o + 1, none⟩ = some v := cell_at hb2 HV.out
  have f1 : w2.frozen? ⟨b, o + 1, none⟩ = false := unfrozen_at hb2 _
  have hlen2 : w1.heap.size + 1 ≤ w2.heap.size := by simpa using hap.fr.size
  have hne' : v'.ownBlock ≠ some b := by
    intro e
    rcases hap.old b e with h | h
    · exact hnb (by rw [← hgb, h])
    · simp at h; omega
  have hnew : ∀ k, v'.ownBlock = some k → some k = g ∨ w.heap.size ≤ k := by
    intro k hk
    have := hf1.size
    rcases hap.old k hk with h | h
    · exact .inl (by rw [← hgb, h])
    · simp at h; exact .inr (by omega)
  have hrow : w2.ownsRow 0 5 1 v' (bs ++ [c.toNat.toUInt8]).length (bcells (bs ++ [c.toNat.toUInt8])) := by
    rw [bcells_append, List.length_append]
    have hc1 : bcells [c.toNat.toUInt8] = [.int .u8 c] := by rw [← HC.out]; rfl
    rw [hc1]; exact hown'
  have hni' : bs ++ [c.toNat.toUInt8] = [] → v' = .slice none 0 0 := fun h => by simp at h
  have hfr : Fr (fun k => k = b ∨ some k = g) w w2 := by
    refine (hf1.mono (fun _ _ h => Or.inl h)).trans (((Fr.refl (fun k => v.ownBlock = some k) w1).alloc _).trans' hap.fr) (fun k _ h => Or.inr ?_)
    rw [← hgb, h]
  obtain ⟨ga, gn, gc, hvs⟩ := ownsRow_slice' hrow
  have HNI := Lib.hid hni'; clear hni'
  have HB2 := Lib.hid hb2; have HNE := Lib.hid hne'; have HNEW := Lib.hid hnew; have HROW := Lib.hid hrow; have HFR := Lib.hid hfr
  clear hb hb2 hgb hnb hne' hnew hrow hown' hfr
  subst hvs
  go_wp2
  go_ret
  have ho := HO.out
  refine ⟨rfl, _, ⟨heap_setCell_at HB2.out _ _, ?_, .inr ?_, _, set_at ho, ?_, rfl, HNE.out, HNI.out⟩, ?_, HNEW.out⟩
  · rw [bldCells_size]; simpa using ho
  · unfold bldCells; rw [set_set_ne (by omega)]; exact set_at (by simp at ho; omega)
  · exact ownsRow_fr HROW.out ((Fr.refl (fun k => k = b) w2).setCell (p := ⟨b, o + 1, none⟩) (fun _ => rfl) _) (fun k hk e => HNE.out (by rw [hk, e]))
  · exact HFR.out.setCell (p := ⟨b, o + 1, none⟩) (fun _ => Or.inl rfl) _


theorem bb_writeByte (b : Nat) (out : List UInt8) (c : Int) (g : Option Nat) (w : World) (hc : 0 ≤ c ∧ c ≤ 255) (h : Bb b out g w) (hlen : out.length ≤ 140737488355327) :
    Calls Tryz.prog 51 #[.pointer (some ⟨b, 0, none⟩), .int .u8 c] w fun e w' => e = .returned .nilIface ∧
      ∃ g', Bb b (out ++ [c.toNat.toUInt8]) g' w' ∧ Fr (fun k => k = b ∨ some k = g) w w' ∧ (∀ k, g' = some k → some k = g ∨ w.heap.size ≤ k) := by
  obtain ⟨cs, hb, hs⟩ := h
  refine (writeByte_any _ b 0 cs out g c w hc hb (bldIn_own hs) hlen).mono ?_
  rintro e w' ⟨rfl, v', hb', hf, hn⟩
  exact ⟨rfl, _, ⟨_, hb', by rw [bldCells_size]; exact hs⟩, hf, hn⟩

end Go.Proofs.YtlchaocpejfikaaGreatDoor

/-
  A set of bytes: four words. No walk.
-/
namespace Go.Proofs.YtlchaocpejfikaaGreatDoor
open Go.RowKit

/-- A set of bytes: four words. -/
structure S4 where
  a : Int
  b : Int
  c : Int
  d : Int
  deriving DecidableEq

def S4.cells (s : S4) : List Value := [.int .u64 s.a, .int .u64 s.b, .int .u64 s.c, .int .u64 s.d]

end Go.Proofs.YtlchaocpejfikaaGreatDoor

/-
  A law's last step, for arguments of whatever types: the call returned true and below the old heap's size nothing has turned.
-/
namespace Go.Proofs.YtlchaocpejfikaaGreatDoor
open Go.ChangeShapes Go.WideShapes Go.ChangeAt Go.RowKit

section
variable {H : Type} {enc : TypeId × Value → H} {P : Program}

theorem trodAll_stays (hl : laidOutB P = true) {W W' : World} {sp : Nat → Bool} (hb : Below W.heap.size W W') : ∀ (ts : List TypeId) (vs : List Value) (ds : List (DataW H)) (ps : List MemPlace),
    (∀ t ∈ ts, P.readableRec t = true ∧ t < P.types.size) → DataW.TrodAll enc P W 0 (fun _ => true) true ts vs ds ps → (∀ x ∈ ps, x.block < W.heap.size) → (∀ x ∈ ps, sp x.block = true) →
    DataW.TrodAll enc P W' 0 sp true ts vs ds ps
  | [], [], [], ps, _, h, _, _ => h
  | t :: ts, v :: vs, d :: ds, ps, hr, ⟨p, q, h1, h2, e⟩, hlt, hsp => by
    subst e
    refine ⟨p, q, ?_, ?_, rfl⟩
    · exact WideElems.Trod_stays hl (hr t (by simp)).1 (hr t (by simp)).2 h1 (fun x hx => hb.same (hlt x (by simp [hx]))) (fun x hx => hsp x (by simp [hx]))
    · exact trodAll_stays hl hb ts vs ds q (fun t ht => hr t (by simp [ht])) h2 (fun x hx => hlt x (by simp [hx])) (fun x hx => hsp x (by simp [hx]))
  | [], [], _ :: _, _, _, h, _, _ => h.elim
  | [], _ :: _, _, _, _, h, _, _ => h.elim
  | _ :: _, [], _, _, _, h, _, _ => h.elim
  | _ :: _, _ :: _, [], _, _, h, _, _ => h.elim

theorem okWide_array' {n : Nat} {e t : TypeId} {w : World} {r : Reach} {b : Nat} {v : Value} (ht : P.underlying t = some (.array n e)) (h : Value.okWide P w r b t v) : ∃ cs, v = .agg cs ∧ cs.size = P.cellsOf t := by
  simp only [Value.okWide, ht] at h
  obtain ⟨cs, h1, h2, _⟩ := h
  exact ⟨cs, h1, h2⟩

theorem ints_of_trod {w : World} {base : Nat} {spare : Nat → Bool} {held : Bool} {m : Nat} {k : IntKind} {e : TypeId} (he : P.underlying e = some (.int k)) : ∀ (cs : List Value) (xs : List (DataW H × List MemPlace)),
    cs.length = xs.length → (∀ i, i < xs.length → DataW.trod enc P w base spare held m e ((cs.drop i).take 1) = xs[i]?) → ∃ zs : List Int, cs = zs.map (Value.int k) ∧ ∀ z ∈ zs, (Lit.int k z).wf = true
  | [], _, _, _ => ⟨[], rfl, by simp⟩
  | c :: cs, [], h, _ => by simp at h
  | c :: cs, x :: xs, hl, h => by
    obtain ⟨zs, hz, hw⟩ := ints_of_trod he cs xs (by simpa using hl) (fun i hi => by simpa using h (i + 1) (by simp; omega))
    have h0 := h 0 (by simp)
    simp only [List.drop_zero, List.take_succ_cons, List.take_zero, List.getElem?_cons_zero] at h0
    obtain ⟨z, hc, _, wz⟩ := DataW.trod_int he h0
    simp only [List.cons.injEq, and_true] at hc
    refine ⟨z :: zs, by simp [hc, hz], ?_⟩
    intro y hy
    rcases List.mem_cons.1 hy with rfl | hy
    · exact wz
    · exact hw y hy

theorem list2_of {α : Type} {zs : List α} (h : zs.length = 2) : ∃ a b, zs = [a, b] := by
  match zs, h with
  | [a, b], _ => exact ⟨a, b, rfl⟩
theorem list4_of {α : Type} {zs : List α} (h : zs.length = 4) : ∃ a b c d, zs = [a, b, c, d] := by
  match zs, h with
  | [a, b, c, d], _ => exact ⟨a, b, c, d, rfl⟩

/-- An array of integers, by value. -/
theorem open_iarr {n : Nat} {e t : TypeId} {k : IntKind} {w w' : World} {r : Reach} {b base : Nat} {spare : Nat → Bool} {held : Bool} {v : Value} {d : DataW H} {p : List MemPlace}
    (ht : P.underlying t = some (.array n e)) (he : P.underlying e = some (.int k)) (hc : P.cellsOf e = 1) (hct : P.cellsOf t = n) (hv : Value.okWide P w r b t v) (h : DataW.Trod enc P w' base spare held t v d p) :
    ∃ zs : List Int, zs.length = n ∧ v = .agg (zs.map (Value.int k)).toArray ∧ ∀ z ∈ zs, (Lit.int k z).wf = true := by
  obtain ⟨cs, rfl, hsz⟩ := okWide_array' ht hv
  obtain ⟨fuel, hf⟩ := h
  obtain ⟨xs, m, _, _, hl, hn, hx⟩ := DataW.trod_array ht hf
  rw [hc] at hx
  have hl' : (Value.agg cs).cells.toList.length = n := by rw [hl, hct]
  obtain ⟨zs, hz, hw⟩ := ints_of_trod he (Value.agg cs).cells.toList xs (by rw [hl', hn]) (fun i hi => by simpa using hx i (by omega))
  have hzl : zs.length = n := by have := congrArg List.length hz; rw [hl', List.length_map] at this; exact this.symm
  refine ⟨zs, hzl, ?_, hw⟩
  have hcs : cs.toList = zs.map (Value.int k) := hz
  rw [← hcs]

/-- The last step of a law. -/
theorem law_post {f : Func} {s : ChangeSpec} {apart fresh handsOn again : Bool} {W W' : World} {args : Array Value} {ds gs : List (DataW H)} {before : List MemPlace} {tb : TypeId}
    (hvars : s.vars = []) (hres : f.resultTypes = #[tb]) (htb : P.underlying tb = some .bool) (hl : laidOutB P = true) (hrd : ∀ t ∈ f.params.toList, P.readableRec t = true ∧ t < P.types.size)
    (hsp : s.fn H (ds ++ gs) = { results := [.lit (.bool true)], args := ds })
    (hW : DataW.Whole enc P f.params.toList s.vars apart W args.toList ds gs before) (hb : Below W.heap.size W W') :
    s.post enc P f apart fresh handsOn again W args (.bool true) W' := by
  have hlt : ∀ p ∈ before, p.block < W.heap.size := fun p hp => hW.lt p hp
  have hold : ∀ p ∈ before, (fun b => decide (b < W.heap.size)) p.block = true := fun p hp => by simpa using hlt p hp
  have hres0 : ∀ (b : Nat) (sp : Nat → Bool) (hd : Bool), DataW.TrodAll enc P W' b sp hd f.resultTypes.toList ((Value.bool true).resultList f.resultTypes.size) (s.fn H (ds ++ gs)).results [] := by
    intro b sp hd; rw [hsp, hres]; exact trodAll_cons_mk (shut_bool htb _) trodAll_mk0
  obtain ⟨p, q, hA, hV, hpq, hz, hn⟩ := hW
  have hW : DataW.Whole enc P f.params.toList s.vars apart W args.toList ds gs before := ⟨p, q, hA, hV, hpq, hz, hn⟩
  have hV' := hV
  rw [hvars] at hV'
  obtain ⟨rfl, rfl⟩ := trodVars_none hV'
  simp only [List.append_nil] at hpq hsp hres0
  subst hpq
  have hargs : ∀ sp : Nat → Bool, (∀ x ∈ before, sp x.block = true) → DataW.TrodAll enc P W' 0 sp true f.params.toList args.toList (s.fn H (ds ++ [])).args before := by
    intro sp h; simp only [List.append_nil]; rw [hsp]; exact trodAll_stays hl hb _ _ _ _ hrd hA hlt h
  have hvs : ∀ sp : Nat → Bool, DataW.TrodVars enc P W' sp s.vars (s.fn H (ds ++ [])).vars [] := by
    intro sp; simp only [List.append_nil]; rw [hvars, hsp]; rfl
  refine ⟨ds, [], before, [], before, [], hW, by simpa using hres0 _ _ _, hargs _ hold, hvs _, World.keptBut_mono (fun x hx => ⟨hx, .inr (.inl hx)⟩) (hb.frame (· ∈ before)), fun _ => ?_⟩
  refine ⟨ok_one hres rfl (okWide_bool_mk htb _), (s.fn H (ds ++ [])).results ++ (s.fn H (ds ++ [])).args, [], before, ⟨[] ++ before, [], ?_, ?_, by simp, ?_, ?_⟩, ?_⟩
  · exact trodAll_append (hargs _ (fun _ _ => rfl)) (by simpa using hres0 _ _ _)
  · rw [hvars]; rfl
  · intro b off hp
    rw [hb.frozen (hlt _ hp)]
    exact hz b off hp
  · intro ha; exact hn ha
  · intro x hx _; exact hx
end

end Go.Proofs.YtlchaocpejfikaaGreatDoor
