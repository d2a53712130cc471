/-
  Merged texts of this claim: ShowA, ShowB, ShowC, BrkJ, ShowL, ShowM, ShowN.
-/
import Derived.Defers
import Derived.Test.YtlchaocpejfikaaGreatDoorM01
import Derived.Test.YtlchaocpejfikaaGreatDoorM02
import Derived.Test.YtlchaocpejfikaaGreatDoorM05
import Derived.Test.YtlchaocpejfikaaGreatDoorM09
import Derived.Test.YtlchaocpejfikaaGreatDoorM10
import Derived.Test.YtlchaocpejfikaaGreatDoorM12

/-
  Package show: a text that grows (a strings.Builder in a struct); a byte as a regex, and in brackets.
-/
namespace Go.Proofs.YtlchaocpejfikaaGreatDoor
open Go.RowKit

/-- The text at a block: what it holds. -/
def TxB (b : Nat) (out : List UInt8) (g : Option Nat) (w : World) : Prop := ∃ cs, BldAt 5 56 b 0 cs out g w ∧ cs.size = 2
theorem TxB.new (w : World) : TxB w.heap.size [] none (w.alloc (.cells #[.pointer none, .slice none 0 0] 56)) :=
  ⟨_, ⟨heap_alloc_new w _, by simp, .inl rfl, .slice none 0 0, rfl, World.ownsRow_nil _ _ _ _, rfl, by simp, fun _ => rfl⟩, rfl⟩
theorem bldIn_text {n : Nat} (h : n = 2) : BldIn 56 n 0 := by subst h; unfold BldIn; kernel_rfl
/-- A text that grows beside blocks that stay: those that were there (W0), and K. -/
structure TxW (W0 : World) (K : Nat → Prop) (b : Nat) (out : List UInt8) (w : World) : Prop where
  fr : Fr nob W0 w
  tx : ∃ g, TxB b out g w ∧ ∀ k, (k < W0.heap.size ∨ K k) → k ≠ b ∧ some k ≠ g ∧ k < w.heap.size
/-- What a step may turn. -/
def Txn (W0 : World) (K : Nat → Prop) (k : Nat) : Prop := ¬ (k < W0.heap.size ∨ K k)
def TxA (W0 : World) (K : Nat → Prop) (b : Nat) (out : List UInt8) (w : World) (v : Value) (e : Ending) (w' : World) : Prop := e = .returned v ∧ TxW W0 K b out w' ∧ Fr (Txn W0 K) w w'
section
variable {W0 w w' : World} {K : Nat → Prop} {b : Nat} {out : List UInt8}
theorem TxB.on {g : Option Nat} {S : Nat → Prop} (h : TxB b out g w) (f : Fr S w w') (h1 : ¬ S b) (h2 : ∀ k, g = some k → ¬ S k) : TxB b out g w' := by
  obtain ⟨cs, ⟨hb, ho, hp, v, hv, hown, hg, hne, hni⟩, hs⟩ := h
  exact ⟨cs, ⟨f.heap hb h1, ho, hp, v, hv, ownsRow_fr hown f (fun k hk => h2 k (hg ▸ hk)), hg, hne, hni⟩, hs⟩
/-- Other steps leave it as it is. -/
theorem TxW.on {S : Nat → Prop} (h : TxW W0 K b out w) (f : Fr S w w') (hS : ∀ k, S k → K k ∧ W0.heap.size ≤ k) : TxW W0 K b out w' := by
  obtain ⟨fr, g, ht, hk⟩ := h
  refine ⟨fr.trans f (fun i hi x => by have := (hS i x).2; omega), g, ht.on f (fun x => (hk b (.inr (hS b x).1)).1 rfl) (fun k e x => (hk k (.inr (hS k x).1)).2.1 e.symm), fun k h => ?_⟩
  obtain ⟨h1, h2, h3⟩ := hk k h
  exact ⟨h1, h2, Nat.lt_of_lt_of_le h3 f.size⟩
theorem TxW.quiet (h : TxW W0 K b out w) (f : Fr nob w w') : TxW W0 K b out w' := h.on f (fun _ x => x.elim)
/-- A new block that stays. -/
theorem TxW.alloc (h : TxW W0 K b out w) (o : Obj) (hb : b < w.heap.size) : TxW W0 (fun k => K k ∨ k = w.heap.size) b out (w.alloc o) := by
  obtain ⟨fr, g, ht, hk⟩ := h
  have hg : ∀ k, g = some k → k < w.heap.size := by
    intro k e
    obtain ⟨cs, ⟨_, _, _, v, _, hown, hgv, _⟩, _⟩ := ht
    subst e
    rcases hown.2 with ⟨rfl, _⟩ | ⟨q, cap, cur, rfl, _, hh, _⟩
    · cases hgv
    · injection hgv with e; subst e; exact lt_heap hh
  refine ⟨fr.alloc o, g, ht.on ((Fr.refl nob w).alloc o) (fun x => x) (fun _ _ x => x), fun k hk' => ?_⟩
  have hsz : (w.alloc o).heap.size = w.heap.size + 1 := by simp
  rw [hsz]
  rcases hk' with h | h | rfl
  · obtain ⟨h1, h2, h3⟩ := hk k (.inl h); exact ⟨h1, h2, by omega⟩
  · obtain ⟨h1, h2, h3⟩ := hk k (.inr h); exact ⟨h1, h2, by omega⟩
  · exact ⟨by omega, fun e => by have := hg _ e.symm; omega, by omega⟩
theorem TxW.less {K' : Nat → Prop} (h : TxW W0 K b out w) (hK : ∀ k, K' k → K k) : TxW W0 K' b out w :=
  ⟨h.fr, let ⟨g, ht, hk⟩ := h.tx; ⟨g, ht, fun k x => hk k (x.imp id (hK k))⟩⟩
theorem TxW.lt (h : TxW W0 K b out w) : b < w.heap.size := by
  obtain ⟨_, _, ⟨_, ⟨hb, _⟩, _⟩, _⟩ := h
  exact lt_heap hb

theorem tx_byte (c : Int) (x : UInt8) (hc : 0 ≤ c ∧ c ≤ 255) (hx : c.toNat.toUInt8 = x) (h : TxW W0 K b out w) (hlen : out.length ≤ 140737488355327) :
    Calls Tryz.prog 51 #[.pointer (some ⟨b, 0, none⟩), .int .u8 c] w (TxA W0 K b (out ++ [x]) w .nilIface) := by
  obtain ⟨fr, g, ⟨cs, hb, hs⟩, hk⟩ := h
  refine (writeByte_any _ b 0 cs out g c w hc hb (bldIn_text hs) hlen).mono ?_
  rintro e w' ⟨rfl, v', hb', hf, hn⟩
  subst hx
  refine ⟨rfl, ⟨fr.trans hf (fun i hi x => ?_), _, ⟨_, hb', by rw [bldCells_size]; exact hs⟩, fun k hk' => ?_⟩, hf.mono (fun k _ x => ?_)⟩
  · rcases x with x | x
    · exact (hk i (.inl hi)).1 x
    · exact (hk i (.inl hi)).2.1 x
  · obtain ⟨h1, h2, h3⟩ := hk k hk'
    refine ⟨h1, fun e => ?_, Nat.lt_of_lt_of_le h3 hf.size⟩
    rcases hn k e.symm with x | x
    · exact h2 x
    · omega
  · intro hk'
    rcases x with x | x
    · exact (hk k hk').1 x
    · exact (hk k hk').2.1 x
theorem tx_str (l : List UInt8) (h : TxW W0 K b out w) (hlen : out.length + l.length ≤ 140737488355328) :
    Calls Tryz.prog 60 #[.pointer (some ⟨b, 0, none⟩), .string ⟨l.toArray⟩] w (TxA W0 K b (out ++ l) w (.tuple #[.int .i64 l.length, .nilIface])) := by
  obtain ⟨fr, g, ⟨cs, hb, hs⟩, hk⟩ := h
  refine (writeString_any _ b 0 cs out g l w hb (bldIn_text hs) hlen).mono ?_
  rintro e w' ⟨rfl, v', hb', hf, hn⟩
  refine ⟨rfl, ⟨fr.trans hf (fun i hi x => ?_), _, ⟨_, hb', by rw [bldCells_size]; exact hs⟩, fun k hk' => ?_⟩, hf.mono (fun k _ x => ?_)⟩
  · rcases x with x | x
    · exact (hk i (.inl hi)).1 x
    · exact (hk i (.inl hi)).2.1 x
  · obtain ⟨h1, h2, h3⟩ := hk k hk'
    refine ⟨h1, fun e => ?_, Nat.lt_of_lt_of_le h3 hf.size⟩
    rcases hn k e.symm with x | x
    · exact h2 x
    · omega
  · intro hk'
    rcases x with x | x
    · exact (hk k hk').1 x
    · exact (hk k hk').2.1 x
end

/-- A byte as a regex; in brackets. -/
def sngT (n : Nat) : List UInt8 := if n = 10 then [92, 110] else if punctS.has n then [92, n.toUInt8] else [n.toUInt8]
def insT (n : Nat) : List UInt8 := if punctS.has n then [91, 46, n.toUInt8, 46, 93] else [n.toUInt8]

set_option maxRecDepth 100000 in
theorem show_punct (n : Nat) (w : World) (hn : n < 256) :
    Calls Tryz.prog 77 #[.int .u8 (n : Int)] w fun e w' => e = .returned (.bool (punctS.has n)) ∧ Fr nob w w' := by
  have hc := class_lit ⟨#[112, 117, 110, 99, 116]⟩ _ rfl w
  rw [show clsSet (clsOf ⟨#[112, 117, 110, 99, 116]⟩) = punctS from rfl] at hc
  have hfit : punctS.fit := fit_clsSet _
  have hh := fun w => has_lit punctS n w hfit hn
  obtain ⟨S, hS⟩ : ∃ S, punctS = S := ⟨_, rfl⟩
  rw [hS] at hc
  simp only [hS] at hh ⊢
  have HC := Lib.hid hc; have HH := Lib.hid hh
  clear hc hh hfit hS
  go_enter Tryz.func77, Tryz.ntmps77
  go_wp2_with fail
  refine HC.out.mono ?_
  rintro e w2 ⟨rfl, f2⟩
  have hb0 := rule4 (heap_alloc_new w2 (.cells #[.int .u64 S.a, .int .u64 S.b, .int .u64 S.c, .int .u64 S.d] 27))
  have F2 := Lib.hid (f2.alloc (.cells #[.int .u64 S.a, .int .u64 S.b, .int .u64 S.c, .int .u64 S.d] 27))
  clear f2
  go_wp2_with fail
  refine (HH.out _).mono ?_
  rintro e w3 ⟨rfl, f3⟩
  have F3 := Lib.hid (F2.out.trans' f3); clear f3
  go_wp2
  go_ret
  exact ⟨rfl, F3.out⟩
end Go.Proofs.YtlchaocpejfikaaGreatDoor

/-
  Package show: single, inside.
-/
namespace Go.Proofs.YtlchaocpejfikaaGreatDoor
open Go.RowKit

theorem Fr.toTx {W0 w w' : World} {K : Nat → Prop} (f : Fr nob w w') : Fr (Txn W0 K) w w' := f.mono (fun _ _ x => x.elim)
/-- A method of two results that nobody asks for, deferred. -/
theorem tx_strD {W0 : World} {K : Nat → Prop} {b : Nat} {out : List UInt8} (l : List UInt8) (u : FrameMode) (w : World) (h : TxW W0 K b out w) (hlen : out.length + l.length ≤ 140737488355328) :
    CallsD Tryz.prog 60 #[.pointer (some ⟨b, 0, none⟩), .string ⟨l.toArray⟩] u w fun e u' w' => u' = u ∧ TxA W0 K b (out ++ l) w (.tuple #[.int .i64 l.length, .nilIface]) e w' := by
  obtain ⟨fr, g, ⟨cs, hb, hs⟩, hk⟩ := h
  refine (writeString_d _ b 0 cs out g l u w hb (bldIn_text hs) hlen).mono ?_
  rintro e u' w' ⟨rfl, rfl, v', hb', hf, hn⟩
  refine ⟨rfl, rfl, ⟨fr.trans hf (fun i hi x => ?_), _, ⟨_, hb', by rw [bldCells_size]; exact hs⟩, fun k hk' => ?_⟩, hf.mono (fun k _ x => ?_)⟩
  · rcases x with x | x
    · exact (hk i (.inl hi)).1 x
    · exact (hk i (.inl hi)).2.1 x
  · obtain ⟨h1, h2, h3⟩ := hk k hk'
    refine ⟨h1, fun e => ?_, Nat.lt_of_lt_of_le h3 hf.size⟩
    rcases hn k e.symm with x | x
    · exact h2 x
    · omega
  · intro hk'
    rcases x with x | x
    · exact (hk k hk').1 x
    · exact (hk k hk').2.1 x

section
variable {W0 w : World} {K : Nat → Prop} {b : Nat} {out : List UInt8}
set_option maxRecDepth 100000 in
set_option maxHeartbeats 1000000 in
theorem show_single (n : Nat) (hn : n < 256) (h : TxW W0 K b out w) (hlen : out.length ≤ 100000000000000) :
    Calls Tryz.prog 52 #[.pointer (some ⟨b, 0, none⟩), .int .u8 (n : Int)] w (TxA W0 K b (out ++ sngT n) w (.tuple #[])) := by
  have hp := show_punct n w hn
  have HT := Lib.hid h; have HP := Lib.hid hp
  clear h hp
  unfold sngT
  by_cases h10 : n = 10
  · have t1 : ((n : Int) == 10) = true := by subst h10; rfl
    rw [if_pos h10]
    clear h10
    go_enter Tryz.func52, Tryz.ntmps52
    go_wp2_with fail
    refine (tx_str [92, 110] HT.out (by simp; omega)).mono ?_
    rintro e w1 ⟨rfl, h1, f1⟩
    have H1 := Lib.hid h1; have F1 := Lib.hid f1; clear h1 f1
    go_wp2
    exact bodyPost_ret (results_none rfl _ _ _) rfl ⟨rfl, H1.out, F1.out⟩
  · have t1 : ((n : Int) == 10) = false := by simp; omega
    rw [if_neg h10]
    cases hc : punctS.has n with
    | true =>
      rw [if_pos rfl]
      rw [hc] at HP
      clear hc
      go_enter Tryz.func52, Tryz.ntmps52
      go_wp2_with fail
      refine HP.out.mono ?_
      rintro e w1 ⟨rfl, f1⟩
      have H1 := Lib.hid (HT.out.quiet f1); have F1 := Lib.hid (Fr.toTx (W0 := W0) (K := K) f1); clear f1
      go_wp2_with fail
      refine (tx_byte 92 92 (by decide) rfl H1.out (by omega)).mono ?_
      rintro e w2 ⟨rfl, h2, f2⟩
      have H2 := Lib.hid h2; have F2 := Lib.hid (F1.out.trans f2 (fun i _ x => x)); clear h2 f2
      go_wp2_with fail
      refine (tx_byte n n.toUInt8 (by omega) rfl H2.out (by simp; omega)).mono ?_
      rintro e w3 ⟨rfl, h3, f3⟩
      have H3 := Lib.hid h3; have F3 := Lib.hid (F2.out.trans f3 (fun i _ x => x)); clear h3 f3
      go_wp2
      go_end0
      refine ⟨rfl, ?_, F3.out⟩
      have := H3.out
      rw [List.append_assoc] at this
      exact this
    | false =>
      rw [if_neg (by decide)]
      rw [hc] at HP
      clear hc
      go_enter Tryz.func52, Tryz.ntmps52
      go_wp2_with fail
      refine HP.out.mono ?_
      rintro e w1 ⟨rfl, f1⟩
      have H1 := Lib.hid (HT.out.quiet f1); have F1 := Lib.hid (Fr.toTx (W0 := W0) (K := K) f1); clear f1
      go_wp2_with fail
      refine (tx_byte n n.toUInt8 (by omega) rfl H1.out (by omega)).mono ?_
      rintro e w3 ⟨rfl, h3, f3⟩
      have H3 := Lib.hid h3; have F3 := Lib.hid (F1.out.trans f3 (fun i _ x => x)); clear h3 f3
      go_wp2
      go_end0
      exact ⟨rfl, H3.out, F3.out⟩

set_option maxRecDepth 100000 in
set_option maxHeartbeats 1000000 in
theorem show_inside (n : Nat) (hn : n < 256) (h : TxW W0 K b out w) (hlen : out.length ≤ 100000000000000) :
    Calls Tryz.prog 56 #[.pointer (some ⟨b, 0, none⟩), .int .u8 (n : Int)] w (TxA W0 K b (out ++ insT n) w (.tuple #[])) := by
  have hp := show_punct n w hn
  have HT := Lib.hid h; have HP := Lib.hid hp
  clear h hp
  unfold insT
  cases hc : punctS.has n with
  | true =>
    rw [if_pos rfl]
    rw [hc] at HP
    clear hc
    go_enter_defers Tryz.func56, Tryz.ntmps56
    go_wp2_with fail
    refine HP.out.mono ?_
    rintro e w1 ⟨rfl, f1⟩
    have H1 := Lib.hid (HT.out.quiet f1); have F1 := Lib.hid (Fr.toTx (W0 := W0) (K := K) f1); clear f1
    go_wp2_with fail
    refine (tx_str [91, 46] H1.out (by simp; omega)).mono ?_
    rintro e w2 ⟨rfl, h2, f2⟩
    have H2 := Lib.hid h2; have F2 := Lib.hid (F1.out.trans f2 (fun i _ x => x)); clear h2 f2
    go_wp2_with fail
    refine (tx_byte n n.toUInt8 (by omega) rfl H2.out (by simp; omega)).mono ?_
    rintro e w3 ⟨rfl, h3, f3⟩
    have H3 := Lib.hid h3; have F3 := Lib.hid (F2.out.trans f3 (fun i _ x => x)); clear h3 f3
    go_wp2
    refine leaves_cons (f := 60) (args := #[.pointer (some ⟨b, 0, none⟩), .string ⟨#[46, 93]⟩]) (by simp) (by simp [go_sem]) ?_
    refine (tx_strD [46, 93] _ _ H3.out (by simp; omega)).mono ?_
    rintro e u' w4 ⟨rfl, rfl, h4, f4⟩
    refine ⟨_, results_none rfl _ _ _, rfl, ?_, F3.out.trans f4 (fun i _ x => x)⟩
    rw [List.append_assoc, List.append_assoc] at h4
    exact h4
  | false =>
    rw [if_neg (by decide)]
    rw [hc] at HP
    clear hc
    go_enter_defers Tryz.func56, Tryz.ntmps56
    go_wp2_with fail
    refine HP.out.mono ?_
    rintro e w1 ⟨rfl, f1⟩
    have H1 := Lib.hid (HT.out.quiet f1); have F1 := Lib.hid (Fr.toTx (W0 := W0) (K := K) f1); clear f1
    go_wp2_with fail
    refine (tx_byte n n.toUInt8 (by omega) rfl H1.out (by omega)).mono ?_
    rintro e w3 ⟨rfl, h3, f3⟩
    have H3 := Lib.hid h3; have F3 := Lib.hid (F1.out.trans f3 (fun i _ x => x)); clear h3 f3
    go_wp2
    exact ⟨_, results_none rfl _ _ _, rfl, H3.out, F3.out⟩
end
end Go.Proofs.YtlchaocpejfikaaGreatDoor

/-
  Package show: is a span's end the byte A; the text of a set, in plain words.
-/
namespace Go.Proofs.YtlchaocpejfikaaGreatDoor
open Go.RowKit

theorem least_nil' {s : S4} (hs : s.fit) (h : spl s.has 256 = []) : LeastIs s 0 false := by
  have g := spl_good s.has 256
  rw [h] at g
  refine .inl ⟨rfl, rfl, S4.ext_has hs fit_zero fun e he => ?_⟩
  rw [has_zero]
  have := g.cov e he
  cases hp : s.has e with
  | false => rfl
  | true => obtain ⟨x, hx, _⟩ := this.1 hp; cases hx
theorem least_first' {s : S4} {x : Nat × Nat} {r : List (Nat × Nat)} (h : spl s.has 256 = x :: r) : LeastIs s x.1 true := by
  have g := spl_good s.has 256
  rw [h] at g
  have hx := g.in_ x (by simp)
  refine .inr ⟨rfl, by omega, (g.cov x.1 (by omega)).2 ⟨x, by simp, Nat.le_refl _, hx.1⟩, fun e he => ?_⟩
  cases hp : s.has e with
  | false => rfl
  | true =>
    obtain ⟨y, hy, h1, h2⟩ := (g.cov e (by omega)).1 hp
    rcases List.mem_cons.1 hy with rfl | hy
    · omega
    · have := (List.pairwise_cons.1 g.gap).1 y hy
      omega
/-- The least byte; 0, if there is none. -/
def lowS (s : S4) : Nat := match spl s.has 256 with
  | [] => 0
  | x :: _ => x.1
theorem LeastIs.lowS {s : S4} {d : Nat} {b : Bool} (hs : s.fit) (h : LeastIs s d b) : d = lowS s := by
  unfold Go.Proofs.YtlchaocpejfikaaGreatDoor.lowS
  cases hp : spl s.has 256 with
  | nil => exact (h.uniq (least_nil' hs hp)).1
  | cons x r => exact (h.uniq (least_first' hp)).1
theorem lowS_lt (s : S4) : lowS s < 256 := by
  unfold lowS
  have g := spl_good s.has 256
  cases hp : spl s.has 256 with
  | nil => simp
  | cons x r => rw [hp] at g; have := g.in_ x (by simp); show x.1 < 256; omega
def endB (L : List (Nat × Nat)) : Bool := L.any fun x => x.1 == 10 || x.2 == 10
def spnT (x : Nat × Nat) : List UInt8 := insT x.1 ++ (if x.1 = x.2 then [] else 45 :: insT x.2)
def spsT : List (Nat × Nat) → List UInt8
  | [] => []
  | x :: r => spnT x ++ spsT r
/-- A set as a text, in brackets: 's' or the others. -/
def brkT (o : Bool) (s : S4) : List UInt8 := 91 :: ((if o then [94] else []) ++ (spsT (spl s.has 256) ++ [93]))
def setT (s : S4) : List UInt8 :=
  if s.len = 256 then [46] else if s.len = 1 then sngT (lowS s)
  else
    let o := decide (128 < s.len ∨ s.len = 0)
    let s1 := if o then s.not else s
    let e := endB (spl s1.has 256)
    brkT (o != e) (if e then s1.not else s1)
theorem insT_le (n : Nat) : (insT n).length ≤ 5 := by unfold insT; split <;> simp
theorem sngT_le (n : Nat) : (sngT n).length ≤ 2 := by unfold sngT; split; simp; split <;> simp
theorem spnT_le (x : Nat × Nat) : (spnT x).length ≤ 11 := by
  unfold spnT
  have := insT_le x.1; have := insT_le x.2
  rw [List.length_append]
  split
  · simp; omega
  · simp; omega
theorem spsT_le : ∀ L : List (Nat × Nat), (spsT L).length ≤ 11 * L.length
  | [] => Nat.le_refl _
  | x :: r => by have := spsT_le r; have := spnT_le x; simp only [spsT, List.length_append, List.length_cons]; omega
theorem spsT_append : ∀ L M : List (Nat × Nat), spsT (L ++ M) = spsT L ++ spsT M
  | [], _ => rfl
  | x :: r, M => by simp only [List.cons_append, spsT, spsT_append r M, List.append_assoc]
theorem spsT_take {L : List (Nat × Nat)} {k : Nat} (h : k < L.length) : spsT (L.take (k + 1)) = spsT (L.take k) ++ spnT L[k] := by
  rw [List.take_succ_eq_append_getElem h, spsT_append]; simp [spsT]
theorem brkT_le (o : Bool) (s : S4) : (brkT o s).length ≤ 2819 := by
  have := spsT_le (spl s.has 256); have := spl_len s.has 256
  unfold brkT
  cases o <;> simp <;> omega
theorem setT_le (s : S4) : (setT s).length ≤ 2819 := by
  unfold setT
  split
  · simp
  · split
    · have := sngT_le (lowS s); omega
    · exact brkT_le _ _

theorem OwnP.get {w : World} {v : Value} {L : List (Nat × Nat)} (h : OwnP w v L) {k : Nat} (hk : k < L.length) : ∃ g cap, v = .slice (some ⟨g, 0, none⟩) L.length cap ∧
    w.cell? ⟨g, k * 2, none⟩ = some (.int .u8 (L[k].1 : Int)) ∧ w.cell? ⟨g, k * 2 + 1, none⟩ = some (.int .u8 (L[k].2 : Int)) := by
  have hne : L ≠ [] := fun e => by rw [e] at hk; simp at hk
  obtain ⟨g, cap, rfl, hg⟩ := h.slc hne
  have hl := spC_length L
  unfold OwnP at h
  exact ⟨g, cap, rfl, (h.cellAt (k * 2) (by omega)).trans (spC_at L k hk).1, (h.cellAt (k * 2 + 1) (by omega)).trans (spC_at L k hk).2⟩

set_option maxRecDepth 100000 in
theorem ended1_any (a b : Nat) (w : World) (ha : a < 256) (hb : b < 256) :
    Calls Tryz.prog 79 #[.agg #[.int .u8 (a : Int), .int .u8 (b : Int)]] w fun e w' => e = .returned (.bool (a == 10 || b == 10)) ∧ Fr nob w w' := by
  have hf := (Fr.refl nob w).alloc (.cells #[.int .u8 (a : Int), .int .u8 (b : Int)] 62)
  have hz := heap_alloc_new w (.cells #[.int .u8 (a : Int), .int .u8 (b : Int)] 62)
  have k0 := cell_at (j := 0) (v := .int .u8 (a : Int)) hz rfl
  have k1 := cell_at (j := 1) (v := .int .u8 (b : Int)) hz rfl
  have HF := Lib.hid hf
  clear hf hz
  have ea : ((a : Int) == 10) = (a == 10) := by rw [Bool.eq_iff_iff]; simp; omega
  have eb : ((b : Int) == 10) = (b == 10) := by rw [Bool.eq_iff_iff]; simp; omega
  cases h1 : (a == 10) with
  | true =>
    rw [h1] at ea
    go_enter Tryz.func79, Tryz.ntmps79
    go_wp2
    go_ret
    exact ⟨rfl, HF.out⟩
  | false =>
    rw [h1] at ea
    cases h2 : (b == 10) with
    | true =>
      rw [h2] at eb
      go_enter Tryz.func79, Tryz.ntmps79
      go_wp2
      go_ret
      exact ⟨rfl, HF.out⟩
    | false =>
      rw [h2] at eb
      go_enter Tryz.func79, Tryz.ntmps79
      go_wp2
      go_ret
      exact ⟨rfl, HF.out⟩

set_option maxRecDepth 100000 in
set_option maxHeartbeats 1000000 in
theorem indexP_any (L : List (Nat × Nat)) (u : Value) (w : World) (hl : L.length ≤ 256) (hL : ∀ x ∈ L, x.1 < 256 ∧ x.2 < 256) (h : OwnP w u L) :
    Calls Tryz.prog 101 #[u, .func (.func 79) #[] #[]] w fun e w' => (∃ i : Int, e = .returned (.int .i64 i) ∧ (decide (0 ≤ i)) = endB L) ∧ Fr nob w w' := by
  obtain ⟨a, c, rfl⟩ := ownsRow_slice (show w.ownsRow 0 62 2 u L.length (spC L) from h)
  have H := Lib.hid h; clear h
  have HL := Lib.hid hL; clear hL
  go_enter Tryz.func101, Tryz.ntmps101
  go_wp2_with fail
  go_loopw [8] (fun i wr => ∃ k : Nat, i = .int .i64 k ∧ k ≤ L.length ∧ endB (L.take k) = false ∧ Fr nob w wr) (fun i _ => L.length - (intOf i).toNat)
  case atStart => exact ⟨0, rfl, Nat.zero_le _, rfl, Fr.refl _ _⟩
  case round =>
    obtain ⟨k, rfl, hk, hn, fr⟩ := hrel
    have HR := Lib.hid (H.out.on fr (fun _ _ x => x)); have FR := Lib.hid fr; have HN := Lib.hid hn; clear fr hn
    by_cases hlt : k < L.length
    · obtain ⟨g, cap, he, hc0, hc1⟩ := HR.out.get hlt
      injection he with e1 e2 e3
      subst e1; subst e3
      clear e2
      have hts := Lib.hid (List.take_succ_eq_append_getElem hlt)
      have hany : endB (L.take (k + 1)) = (L[k].1 == 10 || L[k].2 == 10) := by unfold endB; rw [hts.out, List.any_append, show (L.take k).any _ = false from HN.out]; simp
      have hmem : ((L[k].1 == 10 || L[k].2 == 10) = true) → endB L = true := fun h => List.any_eq_true.2 ⟨_, List.getElem_mem hlt, h⟩
      have hb := HL.out L[k] (List.getElem_mem hlt)
      have HA := Lib.hid hany; have HM := Lib.hid hmem; clear hany hmem
      obtain ⟨⟨p, q⟩, hpq⟩ : ∃ x, L[k] = x := ⟨_, rfl⟩
      rw [hpq] at hc0 hc1 HA HM hb
      simp only at hc0 hc1 HA HM hb
      have HE := Lib.hid (fun w => ended1_any p q w hb.1 hb.2)
      clear hpq
      go_wp2_with fail
      refine (HE.out _).mono ?_
      rintro e w2 ⟨rfl, f2⟩
      have F2 := Lib.hid f2; clear f2
      cases hpk : (p == 10 || q == 10) with
      | true =>
        have HALL := Lib.hid (HM.out hpk)
        clear hpk
        go_wp2
        go_ret
        exact ⟨⟨k, rfl, by rw [HALL.out]; simp⟩, FR.out.trans' F2.out⟩
      | false =>
        have HA2 := Lib.hid (HA.out.trans hpk)
        clear hpk
        go_wp2
        go_roundw
        case rel => exact ⟨k + 1, by go_num, by omega, HA2.out, FR.out.trans' F2.out⟩
        case measure => simp [intOf]; omega
    · obtain rfl : k = L.length := by omega
      have hT := Lib.hid (List.take_of_length_le (l := L) (Nat.le_refl _))
      go_wp2
      go_ret
      exact ⟨⟨-1, rfl, by have := HN.out; rw [hT.out] at this; rw [this]; decide⟩, FR.out⟩

set_option maxRecDepth 100000 in
theorem ended_any (L : List (Nat × Nat)) (u : Value) (w : World) (hl : L.length ≤ 256) (hL : ∀ x ∈ L, x.1 < 256 ∧ x.2 < 256) (h : OwnP w u L) :
    Calls Tryz.prog 54 #[u] w fun e w' => e = .returned (.bool (endB L)) ∧ Fr nob w w' := by
  have HI := Lib.hid (indexP_any L u w hl hL h)
  clear h
  go_enter Tryz.func54, Tryz.ntmps54
  go_wp2_with fail
  refine (show Calls Tryz.prog 78 #[u, .func (.func 79) #[] #[]] w fun e w' => e = .returned (.bool (endB L)) ∧ Fr nob w w' from ?_).mono ?_
  · go_enter Tryz.func78, Tryz.ntmps78
    go_wp2_with fail
    refine HI.out.mono ?_
    rintro e w1 ⟨⟨i, rfl, hi⟩, f1⟩
    have F1 := Lib.hid f1; have HI := Lib.hid hi; clear f1 hi
    go_wp2
    go_ret
    exact ⟨by rw [← HI.out]; rfl, F1.out⟩
  · rintro e w1 ⟨rfl, f1⟩
    have F1 := Lib.hid f1; clear f1
    go_wp2
    go_ret
    exact ⟨rfl, F1.out⟩
end Go.Proofs.YtlchaocpejfikaaGreatDoor

/-
  Walks of the document's bracket expressions: item. Printed by tools/ref02.py.
-/
namespace Go.Proofs.YtlchaocpejfikaaGreatDoor
open Go.RowKit

def ritV : (Int × Nat) ⊕ It → Value
  | .inl z => .tuple #[setV S4.zero, .bool false, .int .i64 0, .int .i64 z.1, .int .i64 z.2]
  | .inr x => .tuple #[setV x.set, .bool x.one.isSome, .int .i64 x.next, .int .i64 0, .int .i64 0]

theorem results_set5 {fn : Func} {p q r s' t' : Tmp} (h : fn.results = #[.cell p 24, .tmp q, .tmp r, .tmp s', .tmp t']) {tmps : Array Value} {b : Nat} (ht : tmps.getD p undef = .pointer (some ⟨b, 0, none⟩)) {u v x y : Value} (hq : tmps.getD q undef = u) (hr : tmps.getD r undef = v) (hs : tmps.getD s' undef = x) (hu : tmps.getD t' undef = y) {W : World} {s : S4}
    (hb : W.heap[b]? = some (.cells #[.int .u64 s.a, .int .u64 s.b, .int .u64 s.c, .int .u64 s.d] 24 (0, 0))) : (results fn tmps).run Tryz.prog W = .ok (.tuple #[setV s, u, v, x, y]) W := by
  have c0 := cell_at (j := 0) (v := .int .u64 s.a) hb rfl
  have c1 := cell_at (j := 1) (v := .int .u64 s.b) hb rfl
  have c2 := cell_at (j := 2) (v := .int .u64 s.c) hb rfl
  have c3 := cell_at (j := 3) (v := .int .u64 s.d) hb rfl
  have ht' : tmps[p]?.getD undef = .pointer (some ⟨b, 0, none⟩) := by rw [← ht]; simp
  have hq' : tmps[q]?.getD undef = u := by rw [← hq]; simp
  have hr' : tmps[r]?.getD undef = v := by rw [← hr]; simp
  have hs' : tmps[s']?.getD undef = x := by rw [← hs]; simp
  have hu' : tmps[t']?.getD undef = y := by rw [← hu]; simp
  simp only [results, h]
  simp [ht', hq', hr', hs', hu', go_sem, c0, c1, c2, c3]
theorem classR_lit (s : ByteArray) (o : Option (Int → Bool)) (ho : clsOf s = o) (w : World) : Calls Tryz.prog 57 #[.string s] w fun e w' => e = .returned (.tuple #[setV (clsSet o), .bool o.isSome]) ∧ Fr nob w w' := by
  subst ho; exact refClass_any s w

def RItAns (R : (Int × Nat) ⊕ It) (w : World) (e : Ending) (w' : World) : Prop := e = .returned (ritV R) ∧ Fr nob w w'
end Go.Proofs.YtlchaocpejfikaaGreatDoor

/-
  The document's answer for package show: punct, text, end.
-/
namespace Go.Proofs.YtlchaocpejfikaaGreatDoor
open Go.RowKit

theorem hasR_lit6 (s : S4) (d : Nat) (w : World) (hs : s.fit) (hd : d < 256) : Calls Tryz.prog 30 #[setV s, .int .u8 d] w fun e w' => e = .returned (.bool (s.has d)) ∧ Fr nob w w' := hasR_any s d w hs hd
set_option maxRecDepth 100000 in
theorem ref_punct (n : Nat) (w : World) (hn : n < 256) :
    Calls Tryz.prog 28 #[.int .u8 (n : Int)] w fun e w' => e = .returned (.bool (punctS.has n)) ∧ Fr nob w w' := by
  have hc := classR_lit ⟨#[112, 117, 110, 99, 116]⟩ _ rfl w
  rw [show clsSet (clsOf ⟨#[112, 117, 110, 99, 116]⟩) = punctS from rfl] at hc
  have hfit : punctS.fit := fit_clsSet _
  have hh := fun w => hasR_lit6 punctS n w hfit hn
  obtain ⟨S, hS⟩ : ∃ S, punctS = S := ⟨_, rfl⟩
  rw [hS] at hc
  simp only [hS] at hh ⊢
  have HC := Lib.hid hc; have HH := Lib.hid hh
  clear hc hh hfit hS
  go_enter Tryz.func28, Tryz.ntmps28
  go_wp2_with fail
  refine HC.out.mono ?_
  rintro e w2 ⟨rfl, f2⟩
  have hb0 := rule4 (heap_alloc_new w2 (.cells #[.int .u64 S.a, .int .u64 S.b, .int .u64 S.c, .int .u64 S.d] 24))
  have F2 := Lib.hid (f2.alloc (.cells #[.int .u64 S.a, .int .u64 S.b, .int .u64 S.c, .int .u64 S.d] 24))
  clear f2
  go_wp2_with fail
  refine (HH.out _).mono ?_
  rintro e w3 ⟨rfl, f3⟩
  have F3 := Lib.hid (F2.out.trans' f3); clear f3
  go_wp2
  go_ret
  exact ⟨rfl, F3.out⟩
set_option maxRecDepth 100000 in
theorem ref_text (n : Nat) (w : World) (hn : n < 256) :
    Calls Tryz.prog 29 #[.int .u8 (n : Int)] w fun e w' => e = .returned (.string ⟨[n.toUInt8].toArray⟩) ∧ Fr nob w w' := by
  have hcv := run_conv_one (P := Tryz.prog) Tryz.underlying52 Tryz.underlying5 Tryz.underlying9 n.toUInt8
  have hnn : ((n.toUInt8.toNat : Nat) : Int) = (n : Int) := by rw [show n.toUInt8.toNat = n from by simp; omega]
  rw [hnn] at hcv
  go_enter Tryz.func29, Tryz.ntmps29
  go_wp2
  go_ret
  exact ⟨rfl, (Fr.refl nob w).alloc _⟩
set_option maxRecDepth 100000 in
theorem ref_end (n : Nat) (w : World) (hn : n < 256) :
    Calls Tryz.prog 33 #[.int .u8 (n : Int)] w fun e w' => e = .returned (.string ⟨(insT n).toArray⟩) ∧ Fr nob w w' := by
  have HP := Lib.hid (ref_punct n w hn)
  have HT := Lib.hid (fun w' => ref_text n w' hn)
  unfold insT
  cases hc : punctS.has n with
  | true =>
    rw [hc] at HP
    rw [if_pos rfl]
    clear hc
    go_enter Tryz.func33, Tryz.ntmps33
    go_wp2_with fail
    refine HP.out.mono ?_
    rintro e w2 ⟨rfl, f2⟩
    have F2 := Lib.hid f2; clear f2
    go_wp2_with fail
    refine (HT.out _).mono ?_
    rintro e w3 ⟨rfl, f3⟩
    have F3 := Lib.hid (F2.out.trans' f3); clear f3
    go_wp2
    go_ret
    exact ⟨rfl, F3.out⟩
  | false =>
    rw [hc] at HP
    rw [if_neg (by decide)]
    clear hc
    go_enter Tryz.func33, Tryz.ntmps33
    go_wp2_with fail
    refine HP.out.mono ?_
    rintro e w2 ⟨rfl, f2⟩
    have F2 := Lib.hid f2; clear f2
    go_wp2_with fail
    refine (HT.out _).mono ?_
    rintro e w3 ⟨rfl, f3⟩
    have F3 := Lib.hid (F2.out.trans' f3); clear f3
    go_wp2
    go_ret
    exact ⟨rfl, F3.out⟩
end Go.Proofs.YtlchaocpejfikaaGreatDoor

/-
  The document's answer for package show: ends.
-/
namespace Go.Proofs.YtlchaocpejfikaaGreatDoor
open Go.RowKit

def endsB (s : S4) : Bool := (s.has 9 != s.has 10) || (s.has 11 != s.has 10)
set_option maxRecDepth 100000 in
set_option maxHeartbeats 4000000 in
theorem ref_ends (s : S4) (w : World) (hs : s.fit) :
    Calls Tryz.prog 31 #[setV s] w fun e w' => e = .returned (.bool (endsB s)) ∧ Fr nob w w' := by
  obtain ⟨w1, hw1⟩ : ∃ w1, w1 = w.alloc (.cells #[.int .u64 s.a, .int .u64 s.b, .int .u64 s.c, .int .u64 s.d] 24) := ⟨_, rfl⟩
  have hz1 : w1.heap[w.heap.size]? = some (.cells #[.int .u64 s.a, .int .u64 s.b, .int .u64 s.c, .int .u64 s.d] 24 (0, 0)) := by rw [hw1]; exact newAt _ _
  have f1 : Fr nob w w1 := by rw [hw1]; exact (Fr.refl _ _).alloc _
  have hh := fun d (hd : d < 256) w' => hasR_lit6 s d w' hs hd
  have h9 := Lib.hid (hh 9 (by decide)); have h10 := Lib.hid (hh 10 (by decide)); have h11 := Lib.hid (hh 11 (by decide))
  have r1 := rule4 hz1
  have rk := fun d os => rule4 hz1 _ (grown_fr w1 d os)
  have HW1 := Lib.hid hw1; have F1 := Lib.hid f1; have HZ := Lib.hid hz1
  unfold endsB
  obtain ⟨x9, hx9⟩ : ∃ x, s.has 9 = x := ⟨_, rfl⟩
  obtain ⟨x10, hx10⟩ : ∃ x, s.has 10 = x := ⟨_, rfl⟩
  obtain ⟨x11, hx11⟩ : ∃ x, s.has 11 = x := ⟨_, rfl⟩
  rw [hx9] at h9 ⊢
  rw [hx10] at h10 ⊢
  rw [hx11] at h11 ⊢
  clear hh hx9 hx10 hx11 hw1 f1 hz1 hs
  have g9 : ∀ w', Calls Tryz.prog 30 #[.agg #[.int .u64 s.a, .int .u64 s.b, .int .u64 s.c, .int .u64 s.d], .int .u8 9] w' fun e w'' => e = .returned (.bool x9) ∧ Fr nob w' w'' := h9.out
  have g10 : ∀ w', Calls Tryz.prog 30 #[.agg #[.int .u64 s.a, .int .u64 s.b, .int .u64 s.c, .int .u64 s.d], .int .u8 10] w' fun e w'' => e = .returned (.bool x10) ∧ Fr nob w' w'' := h10.out
  have g11 : ∀ w', Calls Tryz.prog 30 #[.agg #[.int .u64 s.a, .int .u64 s.b, .int .u64 s.c, .int .u64 s.d], .int .u8 11] w' fun e w'' => e = .returned (.bool x11) ∧ Fr nob w' w'' := h11.out
  have G9 := Lib.hid g9; have G10 := Lib.hid g10; have G11 := Lib.hid g11
  clear g9 g10 g11 h9 h10 h11
  rw [show (x9 != x10) = (!(x9 == x10)) from rfl]
  cases hne : (!(x9 == x10)) with
  | true =>
    rw [Bool.true_or]
    go_enter Tryz.func31, Tryz.ntmps31
    go_wp2_with (rw [← HW1.out])
    refine region_fr 9 (by kernel_rfl) (by kernel_rfl) ?_
    simp only [List.take_succ_cons, List.take_zero, List.drop_succ_cons, List.drop_zero]
    repeat (quiet_step (first | (with_reducible exact calls_fr (G9.out _)) | (with_reducible exact calls_fr (G10.out _)) | (with_reducible exact calls_fr (G11.out _))))
    refine wpQuiet_nil ?_
    intro w2 f2
    have F2 := Lib.hid (F1.out.trans' f2); clear f2
    go_wp2
    go_ret
    exact ⟨rfl, F2.out⟩
  | false =>
    rw [Bool.false_or]
    go_enter Tryz.func31, Tryz.ntmps31
    go_wp2_with (rw [← HW1.out])
    refine region_fr 9 (by kernel_rfl) (by kernel_rfl) ?_
    simp only [List.take_succ_cons, List.take_zero, List.drop_succ_cons, List.drop_zero]
    repeat (quiet_step (first | (with_reducible exact calls_fr (G9.out _)) | (with_reducible exact calls_fr (G10.out _)) | (with_reducible exact calls_fr (G11.out _))))
    refine wpQuiet_nil ?_
    intro w2 f2
    have F2 := Lib.hid (F1.out.trans' f2); clear f2
    go_wp2_with fail
    refine (G10.out _).mono ?_
    rintro e w3 ⟨rfl, f3⟩
    have F3 := Lib.hid (F2.out.trans' f3); clear f3
    go_wp2
    go_ret
    exact ⟨rfl, F3.out⟩
end Go.Proofs.YtlchaocpejfikaaGreatDoor

/-
  The document's text of a set is the program's. Plain.
-/
namespace Go.Proofs.YtlchaocpejfikaaGreatDoor
open Go.RowKit

/-- The byte A begins or ends a span: it is in the set, and one beside it isn't. -/
theorem endB_spl (p : Nat → Bool) : endB (spl p 256) = (p 10 && (!p 9 || !p 11)) := by
  have g := spl_good p 256
  rw [Bool.eq_iff_iff]
  unfold endB
  rw [List.any_eq_true]
  constructor
  · rintro ⟨x, hx, h⟩
    have hi := g.in_ x hx
    have hc : ∀ e, x.1 ≤ e → e ≤ x.2 → p e = true := fun e h1 h2 => (g.cov e (by omega)).2 ⟨x, hx, h1, h2⟩
    -- what stands right ahead of a span, or behind it, is in none
    have hno : ∀ e, (e + 1 = x.1 ∨ e = x.2 + 1) → e < 256 → p e = false := fun e he h256 => by
      cases hp : p e with
      | false => rfl
      | true =>
        obtain ⟨y, hy, h1, h2⟩ := (g.cov e h256).1 hp
        obtain ⟨i, hi', rfl⟩ := List.getElem_of_mem hx
        obtain ⟨j, hj, rfl⟩ := List.getElem_of_mem hy
        have hp := List.pairwise_iff_getElem.1 g.gap
        rcases Nat.lt_trichotomy i j with hij | rfl | hij
        · have := hp i j hi' hj hij; omega
        · omega
        · have := hp j i hj hi' hij; have := g.in_ _ hy; omega
    simp only [Bool.or_eq_true, beq_iff_eq] at h
    rw [Bool.and_eq_true, Bool.or_eq_true]
    rcases h with h | h
    · refine ⟨hc 10 (by omega) (by omega), .inl ?_⟩
      rw [hno 9 (by omega) (by omega)]; rfl
    · refine ⟨hc 10 (by omega) (by omega), .inr ?_⟩
      rw [hno 11 (by omega) (by omega)]; rfl
  · intro h
    rw [Bool.and_eq_true, Bool.or_eq_true] at h
    obtain ⟨h10, h⟩ := h
    obtain ⟨x, hx, h1, h2⟩ := (g.cov 10 (by omega)).1 h10
    have hi := g.in_ x hx
    have hc : ∀ e, x.1 ≤ e → e ≤ x.2 → p e = true := fun e h1 h2 => (g.cov e (by omega)).2 ⟨x, hx, h1, h2⟩
    refine ⟨x, hx, ?_⟩
    simp only [Bool.or_eq_true, beq_iff_eq]
    rcases h with h | h
    · left
      by_cases hx1 : x.1 = 10
      · exact hx1
      · rw [hc 9 (by omega) (by omega)] at h; cases h
    · right
      by_cases hx2 : x.2 = 10
      · exact hx2
      · rw [hc 11 (by omega) (by omega)] at h; cases h
/-- What the document tells. -/
theorem setT_ref {s : S4} (hs : s.fit) (h256 : s.len ≠ 256) (h1 : s.len ≠ 1) (o : Bool) (ho : decide (128 < s.len ∨ s.len = 0) = o) :
    setT s = brkT (if ((o != s.has 10) && endsB s) = true then !o else o) (if (if ((o != s.has 10) && endsB s) = true then !o else o) = true then s.not else s) := by
  unfold setT
  rw [if_neg h256, if_neg h1]
  simp only
  rw [ho, endB_spl]
  unfold endsB
  cases o with
  | true =>
    simp only [if_true, has_not]
    cases h9 : s.has 9 <;> cases h10 : s.has 10 <;> cases h11 : s.has 11 <;> simp [S4.not_not hs]
  | false =>
    simp only [Bool.false_eq_true, if_false]
    cases h9 : s.has 9 <;> cases h10 : s.has 10 <;> cases h11 : s.has 11 <;> simp
end Go.Proofs.YtlchaocpejfikaaGreatDoor
