/-
  Merged texts of this claim: OctetA, Words, Popc, BldStrD, Claim, ClaimB.
-/
import Derived.Test.YtlchaocpejfikaaGreatDoorChecked
import Derived.StillTailTactics
import Derived.OpenShut
import Derived.Defers
import Derived.ProofKit
import Derived.ChangeSame
import Derived.ChangeOld
import Derived.Below
import Derived.Carry
import Derived.ShutString
import Derived.Test.YtlchaocpejfikaaGreatDoorM01

/-
  Walks of package octet: add, Of: a set of bytes is four words.
-/
namespace Go.Proofs.YtlchaocpejfikaaGreatDoor
open Go.RowKit

/-- One bit more in a word. -/
def orw (x : Int) (n : Nat) : Int := bits BinOp.or IntKind.u64 x (IntKind.u64.wrap (2 ^ n))
/-- One byte more in a set. -/
def S4.put (s : S4) (d : Nat) : S4 := match d / 64 with
  | 0 => { s with a := orw s.a (d % 64) }
  | 1 => { s with b := orw s.b (d % 64) }
  | 2 => { s with c := orw s.c (d % 64) }
  | _ => { s with d := orw s.d (d % 64) }
def S4.puts (s : S4) : List UInt8 → S4
  | [] => s
  | c :: r => S4.puts (s.put c.toNat) r
def S4.zero : S4 := ⟨0, 0, 0, 0⟩

theorem cellS {w : World} {b : Nat} {s : S4} {T : TypeId} (h : w.heap[b]? = some (.cells s.cells.toArray T (0, 0))) :
    w.cell? ⟨b, 0, none⟩ = some (.int .u64 s.a) ∧ w.cell? ⟨b, 1, none⟩ = some (.int .u64 s.b) ∧ w.cell? ⟨b, 2, none⟩ = some (.int .u64 s.c) ∧ w.cell? ⟨b, 3, none⟩ = some (.int .u64 s.d) ∧
    w.frozen? ⟨b, 0, none⟩ = false ∧ w.frozen? ⟨b, 1, none⟩ = false ∧ w.frozen? ⟨b, 2, none⟩ = false ∧ w.frozen? ⟨b, 3, none⟩ = false :=
  ⟨cell_at h rfl, cell_at h rfl, cell_at h rfl, cell_at h rfl, unfrozen_at h _, unfrozen_at h _, unfrozen_at h _, unfrozen_at h _⟩

set_option maxRecDepth 100000 in
set_option maxHeartbeats 1000000 in
theorem add_any (b : Nat) (s : S4) (d : Nat) (w : World) (hd : d < 256) (h : w.heap[b]? = some (.cells s.cells.toArray 27 (0, 0))) :
    Calls Tryz.prog 48 #[.pointer (some ⟨b, 0, none⟩), .int .u8 d] w fun e w' => e = .returned (.tuple #[]) ∧ w'.heap[b]? = some (.cells (s.put d).cells.toArray 27 (0, 0)) ∧ Fr (fun k => k = b) w w' := by
  obtain ⟨c0, c1, c2, c3, f0, f1, f2, f3⟩ := cellS h
  have hb := lt_heap h
  have H := Lib.hid h; clear h
  have hdiv : Int.tdiv (d : Int) 64 = ((d / 64 : Nat) : Int) := (Int.ofNat_tdiv d 64).symm
  have hmod : Int.tmod (d : Int) 64 = ((d % 64 : Nat) : Int) := (Int.ofNat_tmod d 64).symm
  have hq : d / 64 = 0 ∨ d / 64 = 1 ∨ d / 64 = 2 ∨ d / 64 = 3 := by omega
  have hr : d % 64 < 64 := by omega
  have w0 : IntKind.u8.wrap 0 = 0 := by decide
  have w1 : IntKind.u8.wrap 1 = 1 := by decide
  have w2 : IntKind.u8.wrap 2 = 2 := by decide
  have w3 : IntKind.u8.wrap 3 = 3 := by decide
  have wm : IntKind.u8.wrap ((d % 64 : Nat) : Int) = ((d % 64 : Nat) : Int) := IntWalk.u8_in _ (by omega)
  have wm' : IntKind.u8.wrap ((d : Int) % 64) = ((d % 64 : Nat) : Int) := by rw [show (d : Int) % 64 = ((d % 64 : Nat) : Int) by omega]; exact wm
  go_enter Tryz.func48, Tryz.ntmps48
  go_wp2
  rcases hq with hq | hq | hq | hq
  all_goals
    rw [hq] at hdiv
    go_still_tail 11, (by kernel_rfl)
    change wpList _ _ _ _ _ w.drew
    go_wp2
    go_end0
    refine ⟨rfl, ?_, ((Fr.refl (fun k => k = b) w).setCell (p := ⟨b, _, none⟩) (fun _ => rfl) _).drew⟩
    unfold S4.put
    rw [hq]
    exact heap_setCell_at H.out _ _

theorem S4.cells_eq (s : S4) : s.cells.toArray = #[.int .u64 s.a, .int .u64 s.b, .int .u64 s.c, .int .u64 s.d] := rfl

/-- A slice of bytes: what it reads. -/
def SB (w : World) (l : List UInt8) (u : Value) : Prop := (l = [] ∧ ∃ a c, u = .slice a 0 c) ∨ ∃ g off cap, u = .slice (some ⟨g, off, none⟩) l.length cap ∧ g < w.heap.size ∧ ∀ j x, l[j]? = some x → w.cell? ⟨g, off + j, none⟩ = some (.int .u8 (x.toNat : Int))
theorem SB.shape {w : World} {l : List UInt8} {u : Value} (h : SB w l u) : ∃ a c, u = .slice a l.length c := by
  rcases h with ⟨rfl, a, c, rfl⟩ | ⟨g, off, cap, rfl, _⟩
  · exact ⟨_, _, rfl⟩
  · exact ⟨_, _, rfl⟩
theorem SB.get {w w' : World} {l : List UInt8} {u : Value} (h : SB w l u) (hf : Fr nob w w') {k : Nat} (hk : k < l.length) : ∃ g off cap, u = .slice (some ⟨g, off, none⟩) l.length cap ∧ w'.cell? ⟨g, off + k, none⟩ = some (.int .u8 (l[k].toNat : Int)) := by
  rcases h with ⟨rfl, _⟩ | ⟨g, off, cap, rfl, _, h⟩
  · simp at hk
  · exact ⟨g, off, cap, rfl, hf.cell (h k _ (List.getElem?_eq_getElem hk)) (fun x => x)⟩
theorem SB.on {w w' : World} {l : List UInt8} {u : Value} (h : SB w l u) (hf : Fr nob w w') : SB w' l u := by
  rcases h with h | ⟨g, off, cap, rfl, hg, h⟩
  · exact .inl h
  · exact .inr ⟨g, off, cap, rfl, Nat.lt_of_lt_of_le hg hf.size, fun j x hj => hf.cell (h j x hj) (fun x => x)⟩

theorem puts_append (s : S4) (l m : List UInt8) : s.puts (l ++ m) = (s.puts l).puts m := by
  induction l generalizing s with
  | nil => rfl
  | cons c r ih => exact ih _
theorem puts_take (s : S4) {l : List UInt8} {k : Nat} (h : k < l.length) : s.puts (l.take (k + 1)) = (s.puts (l.take k)).put l[k].toNat := by
  rw [List.take_succ_eq_append_getElem h, puts_append]; rfl
theorem heap_alloc_new (w : World) (o : Obj) : (w.alloc o).heap[w.heap.size]? = some o := by
  unfold World.alloc
  exact Array.getElem?_push_size

theorem heap_alloc_new' (w : World) (o : Obj) (b : Nat) (hb : b = w.heap.size) : (w.alloc o).heap[b]? = some o := by subst hb; exact heap_alloc_new w o

/-- A set that is handed back out of a variable. -/
theorem results_set {fn : Func} {p : Tmp} (h : fn.results = #[.cell p 27]) {tmps : Array Value} {r : Nat} (ht : tmps.getD p undef = .pointer (some ⟨r, 0, none⟩)) {W : World} {s : S4}
    (hb : W.heap[r]? = some (.cells s.cells.toArray 27 (0, 0))) : (results fn tmps).run Tryz.prog W = .ok (.agg s.cells.toArray) W := by
  obtain ⟨c0, c1, c2, c3, _⟩ := cellS hb
  have ht' : tmps[p]?.getD undef = .pointer (some ⟨r, 0, none⟩) := by rw [← ht]; simp
  simp only [results, h]
  simp [ht', go_sem, c0, c1, c2, c3, S4.cells]

set_option maxRecDepth 100000 in
set_option maxHeartbeats 1000000 in
theorem of_any (l : List UInt8) (u : Value) (w : World) (hl : l.length ≤ 9000000000000000000) (h : SB w l u) :
    Calls Tryz.prog 23 #[u] w fun e w' => e = .returned (.agg (S4.zero.puts l).cells.toArray) ∧ Fr nob w w' := by
  obtain ⟨a, c, rfl⟩ := h.shape
  have H := Lib.hid h; clear h
  go_enter Tryz.func23, Tryz.ntmps23
  go_wp2_with fail
  obtain ⟨w0, hw0⟩ : ∃ w0, w0 = ((w.alloc (.cells S4.zero.cells.toArray 27)).alloc (.cells S4.zero.cells.toArray 27)) := ⟨_, rfl⟩
  have f0 : Fr nob w w0 := by rw [hw0]; exact ((Fr.refl _ _).alloc _).alloc _
  have hr0 : w0.heap[w.heap.size]? = some (.cells S4.zero.cells.toArray 27 (0, 0)) := by rw [hw0]; exact heap_alloc_lt _ (heap_alloc_new _ _)
  have hb0 : w0.heap[w.heap.size + 1]? = some (.cells S4.zero.cells.toArray 27 (0, 0)) := by
    rw [hw0]; have := heap_alloc_new (w.alloc (.cells S4.zero.cells.toArray 27)) (.cells S4.zero.cells.toArray 27); simpa using this
  change Code.wp _ _ _ _ ((w.alloc (.cells S4.zero.cells.toArray 27)).alloc (.cells S4.zero.cells.toArray 27))
  rw [← hw0]
  have F0 := Lib.hid f0; have HR0 := Lib.hid hr0; have HB0 := Lib.hid hb0; clear f0 hr0 hb0 hw0
  go_loopw [8] (fun i wr => ∃ k : Nat, i = .int .i64 k ∧ k ≤ l.length ∧ wr.heap[w.heap.size + 1]? = some (.cells (S4.zero.puts (l.take k)).cells.toArray 27 (0, 0)) ∧ Fr (fun k => k = w.heap.size + 1) w0 wr) (fun i _ => l.length - (intOf i).toNat)
  case atStart => exact ⟨0, rfl, Nat.zero_le _, HB0.out, Fr.refl _ _⟩
  case round =>
    obtain ⟨k, rfl, hk, hb, fr⟩ := hrel
    have HB := Lib.hid hb; have FR := Lib.hid fr; clear hb fr
    have FW := Lib.hid (F0.out.trans FR.out (fun i hi x => by omega))
    by_cases hlt : k < l.length
    · obtain ⟨q, off, cap, he, hc⟩ := H.out.get FW.out hlt
      injection he with e1 e2 e3
      subst e1; subst e3
      clear e2
      have hpt := Lib.hid (puts_take S4.zero hlt)
      have hd : l[k].toNat < 256 := l[k].toNat_lt
      go_wp2_with fail
      refine (add_any (w.heap.size + 1) _ l[k].toNat _ hd HB.out).mono ?_
      rintro e w3 ⟨rfl, h3, f3⟩
      have H3 := Lib.hid h3; have F3 := Lib.hid f3; clear h3 f3
      go_wp2
      go_roundw
      case rel => exact ⟨k + 1, by go_num, by omega, by rw [hpt.out]; exact H3.out, FR.out.trans' F3.out⟩
      case measure => simp [intOf]; omega
    · obtain rfl : k = l.length := by omega
      have hT := List.take_of_length_le (l := l) (Nat.le_refl _)
      have hb := HB.out
      rw [hT] at hb
      obtain ⟨c0, c1, c2, c3, _⟩ := cellS hb
      have hr := FR.out.heap HR0.out (fun e => by omega)
      obtain ⟨_, _, _, _, f0, f1, f2, f3⟩ := cellS hr
      have hlr := lt_heap hr; have hlb := lt_heap hb
      have HBB := Lib.hid hb; have HRR := Lib.hid hr; clear hb hr hT
      go_wp2
      (try simp only [Exit.inBlock, Exit.then])
      have hW := heap_setCell_at (heap_setCell_at (heap_setCell_at (heap_setCell_at HRR.out 0 (.int .u64 (S4.zero.puts l).a)) 1 (.int .u64 (S4.zero.puts l).b)) 2 (.int .u64 (S4.zero.puts l).c)) 3 (.int .u64 (S4.zero.puts l).d)
      refine bodyPost_ret (results_set (s := S4.zero.puts l) rfl rfl hW) rfl ⟨rfl, ?_⟩
      exact (((FW.out.setCell (p := ⟨w.heap.size, 0, none⟩) (fun h => absurd h (Nat.lt_irrefl _)) _).setCell (p := ⟨w.heap.size, 1, none⟩) (fun h => absurd h (Nat.lt_irrefl _)) _).setCell (p := ⟨w.heap.size, 2, none⟩) (fun h => absurd h (Nat.lt_irrefl _)) _).setCell (p := ⟨w.heap.size, 3, none⟩) (fun h => absurd h (Nat.lt_irrefl _)) _

end Go.Proofs.YtlchaocpejfikaaGreatDoor

/-
  Words of 64 bits, as numbers and as bits; sets as four words. No walk.
-/
namespace Go.Proofs.YtlchaocpejfikaaGreatDoor
open Go.RowKit

/-- A word's bits. -/
def wd (x : Int) : BitVec 64 := BitVec.ofInt 64 x
/-- A word that fits. -/
def Fit (x : Int) : Prop := 0 ≤ x ∧ x < 18446744073709551616

theorem fit_of_wf {x : Int} (h : (Lit.int .u64 x).wf = true) : Fit x := by
  simp [Lit.wf, IntKind.min, IntKind.max, IntKind.signed, IntKind.bits] at h; exact ⟨h.1, by omega⟩
theorem fit_nat (b : BitVec 64) : Fit (b.toNat : Int) := ⟨by omega, by have := b.isLt; omega⟩
theorem wd_nat (b : BitVec 64) : wd (b.toNat : Int) = b := by unfold wd; simp
theorem wd_val {x : Int} (h : Fit x) : ((wd x).toNat : Int) = x := by
  unfold wd
  rw [BitVec.toNat_ofInt]
  have := h.1; have := h.2
  simp only [Nat.reducePow]
  omega
theorem wd_inj {x y : Int} (hx : Fit x) (hy : Fit y) (h : wd x = wd y) : x = y := by rw [← wd_val hx, ← wd_val hy, h]
theorem wrap_nat (b : BitVec 64) : IntKind.u64.wrap (b.toNat : Int) = (b.toNat : Int) := by
  have := b.isLt
  simp only [IntKind.wrap, IntKind.bits, IntKind.signed]
  simp
  omega
theorem bits_and (x y : Int) : bits .and .u64 x y = ((wd x &&& wd y).toNat : Int) := wrap_nat _
theorem bits_or (x y : Int) : bits .or .u64 x y = ((wd x ||| wd y).toNat : Int) := wrap_nat _
theorem bits_xor (x y : Int) : bits .xor .u64 x y = ((wd x ^^^ wd y).toNat : Int) := wrap_nat _
theorem wd_and (x y : Int) : wd (bits .and .u64 x y) = wd x &&& wd y := by rw [bits_and, wd_nat]
theorem wd_or (x y : Int) : wd (bits .or .u64 x y) = wd x ||| wd y := by rw [bits_or, wd_nat]
theorem fit_bits (op : BinOp) (x y : Int) : Fit (bits op .u64 x y) := fit_of_wf (wf_bits op .u64 x y)
theorem wd_max : wd IntKind.u64.max = BitVec.allOnes 64 := by decide
theorem wd_not (x : Int) : wd (bits .xor .u64 IntKind.u64.max x) = ~~~ wd x := by
  rw [bits_xor, wd_nat, wd_max, BitVec.allOnes_xor]

/-- Is bit n in a word? -/
theorem bit_and {x : Int} (h : Fit x) {n : Nat} (hn : n < 64) : (bits .and .u64 (x / 2 ^ n) 1 == 1) = (wd x).getLsbD n := by
  have hx := wd_val h
  obtain ⟨b, hb⟩ : ∃ b, wd x = b := ⟨_, rfl⟩
  rw [hb] at hx ⊢
  subst hx
  rw [bits_and]
  have hd : ((b.toNat : Int) / 2 ^ n) = (((b >>> n).toNat : Nat) : Int) := by
    rw [BitVec.toNat_ushiftRight, Nat.shiftRight_eq_div_pow]; push_cast; rfl
  rw [hd, wd_nat]
  have h1 : wd 1 = 1#64 := by decide
  rw [h1]
  have h2 : (b >>> n &&& 1#64).toNat = if b.getLsbD n then 1 else 0 := by
    rw [BitVec.toNat_and, BitVec.toNat_ushiftRight]
    simp only [BitVec.toNat_ofNat, Nat.reducePow, Nat.reduceMod]
    rw [Nat.and_one_is_mod, Nat.shiftRight_eq_div_pow, BitVec.getLsbD, Nat.testBit_eq_decide_div_mod_eq]
    split <;> simp_all <;> omega
  rw [h2]
  cases b.getLsbD n <;> simp
theorem bit_mod {x : Int} (h : Fit x) {n : Nat} (hn : n < 64) : ((x / 2 ^ n) % 2 == 1) = (wd x).getLsbD n := by
  have hx := wd_val h
  obtain ⟨b, hb⟩ : ∃ b, wd x = b := ⟨_, rfl⟩
  rw [hb] at hx ⊢
  subst hx
  rw [BitVec.getLsbD, Nat.testBit_eq_decide_div_mod_eq]
  rw [Bool.eq_iff_iff]
  simp only [beq_iff_eq, decide_eq_true_eq]
  have : ((b.toNat : Int) / 2 ^ n) = ((b.toNat / 2 ^ n : Nat) : Int) := by push_cast; rfl
  rw [this]; omega
theorem bit_tmod {x : Int} (h : Fit x) {n : Nat} (hn : n < 64) : ((x / 2 ^ n).tmod 2 == 1) = (wd x).getLsbD n := by
  rw [Int.tmod_eq_emod_of_nonneg (Int.ediv_nonneg h.1 (Int.le_of_lt (Int.pow_pos (by decide)))), bit_mod h hn]

end Go.Proofs.YtlchaocpejfikaaGreatDoor

/-
  How many bits a word has: the sum that math/bits reckons, byte by byte. Plain: no walk.
-/
namespace Go.Proofs.YtlchaocpejfikaaGreatDoor

theorem and_split (p q M c : Nat) (hq : q < 256) (hc : c < 256) : (256 * p + q) &&& (256 * M + c) = 256 * (p &&& M) + (q &&& c) := by
  have h1 : ((256 * p + q) &&& (256 * M + c)) / 256 = p &&& M := by
    have := @Nat.and_div_two_pow (256 * p + q) (256 * M + c) 8
    rw [show (2 : Nat) ^ 8 = 256 from rfl] at this
    rw [this, show (256 * p + q) / 256 = p by omega, show (256 * M + c) / 256 = M by omega]
  have h2 : ((256 * p + q) &&& (256 * M + c)) % 256 = q &&& c := by
    have := @Nat.and_mod_two_pow (256 * p + q) (256 * M + c) 8
    rw [show (2 : Nat) ^ 8 = 256 from rfl] at this
    rw [this, show (256 * p + q) % 256 = q by omega, show (256 * M + c) % 256 = c by omega]
  omega

def pf1 (M x : Nat) : Nat := ((x / 2) &&& M) + (x &&& M)
def pf2 (M x : Nat) : Nat := ((x / 4) &&& M) + (x &&& M)
def pf3 (M x : Nat) : Nat := (x / 16 + x) &&& M

theorem low1 : ∀ (c : Fin 2) (b : Fin 256), (c.val * 128 + b.val / 2) &&& 85 = (b.val / 2) &&& 85 := by decide +kernel
theorem low2 : ∀ (c : Fin 4) (b : Fin 256), (c.val * 64 + b.val / 4) &&& 51 = (b.val / 4) &&& 51 := by decide +kernel
theorem low3 : ∀ (c : Fin 5) (b : Fin 69), (c.val * 16 + (b.val / 16 + b.val)) &&& 15 = (b.val / 16 + b.val) &&& 15 := by decide +kernel

theorem step1 (y b M : Nat) (hb : b < 256) : pf1 (256 * M + 85) (256 * y + b) = 256 * pf1 M y + pf1 85 b := by
  unfold pf1
  have h := low1 ⟨y % 2, by omega⟩ ⟨b, hb⟩
  simp only at h
  rw [show (256 * y + b) / 2 = 256 * (y / 2) + (y % 2 * 128 + b / 2) by omega, and_split _ _ _ _ (by omega) (by decide), and_split _ _ _ _ hb (by decide), h]
  omega
theorem step2 (y b M : Nat) (hb : b < 256) : pf2 (256 * M + 51) (256 * y + b) = 256 * pf2 M y + pf2 51 b := by
  unfold pf2
  have h := low2 ⟨y % 4, by omega⟩ ⟨b, hb⟩
  simp only at h
  rw [show (256 * y + b) / 4 = 256 * (y / 4) + (y % 4 * 64 + b / 4) by omega, and_split _ _ _ _ (by omega) (by decide), and_split _ _ _ _ hb (by decide), h]
  omega
theorem step3 (y b M : Nat) (hb : b < 69) (hy : y % 16 < 5) : pf3 (256 * M + 15) (256 * y + b) = 256 * pf3 M y + pf3 15 b := by
  unfold pf3
  have h := low3 ⟨y % 16, hy⟩ ⟨b, hb⟩
  simp only at h
  rw [show (256 * y + b) / 16 + (256 * y + b) = 256 * (y / 16 + y) + (y % 16 * 16 + (b / 16 + b)) by omega, and_split _ _ _ _ (by omega) (by decide), h]

/-- A byte's bits. -/
def pop8 (b : Nat) : Nat := b % 2 + b / 2 % 2 + b / 4 % 2 + b / 8 % 2 + b / 16 % 2 + b / 32 % 2 + b / 64 % 2 + b / 128 % 2
theorem pop8_eq : ∀ b : Fin 256, pf3 15 (pf2 51 (pf1 85 b.val)) = pop8 b.val := by decide +kernel
theorem pf1_lt : ∀ b : Fin 256, pf1 85 b.val < 256 := by decide +kernel
theorem pf2_lt : ∀ b : Fin 256, pf2 51 (pf1 85 b.val) < 69 := by decide +kernel
theorem pf2_low : ∀ b : Fin 256, pf2 51 (pf1 85 b.val) % 16 < 5 := by decide +kernel
theorem pop8_le : ∀ b : Fin 256, pop8 b.val ≤ 8 := by decide +kernel

/-- Eight bytes as a word. -/
def by8 (b0 b1 b2 b3 b4 b5 b6 b7 : Nat) : Nat := 256 * (256 * (256 * (256 * (256 * (256 * (256 * b7 + b6) + b5) + b4) + b3) + b2) + b1) + b0

theorem pf1_8 {b0 b1 b2 b3 b4 b5 b6 b7 : Nat} (h0 : b0 < 256) (h1 : b1 < 256) (h2 : b2 < 256) (h3 : b3 < 256) (h4 : b4 < 256) (h5 : b5 < 256) (h6 : b6 < 256) :
    pf1 6148914691236517205 (by8 b0 b1 b2 b3 b4 b5 b6 b7) = by8 (pf1 85 b0) (pf1 85 b1) (pf1 85 b2) (pf1 85 b3) (pf1 85 b4) (pf1 85 b5) (pf1 85 b6) (pf1 85 b7) := by
  unfold by8
  rw [show 6148914691236517205 = 256 * (256 * (256 * (256 * (256 * (256 * (256 * 85 + 85) + 85) + 85) + 85) + 85) + 85) + 85 from rfl]
  rw [step1 _ _ _ h0, step1 _ _ _ h1, step1 _ _ _ h2, step1 _ _ _ h3, step1 _ _ _ h4, step1 _ _ _ h5, step1 _ _ _ h6]
theorem pf2_8 {b0 b1 b2 b3 b4 b5 b6 b7 : Nat} (h0 : b0 < 256) (h1 : b1 < 256) (h2 : b2 < 256) (h3 : b3 < 256) (h4 : b4 < 256) (h5 : b5 < 256) (h6 : b6 < 256) :
    pf2 3689348814741910323 (by8 b0 b1 b2 b3 b4 b5 b6 b7) = by8 (pf2 51 b0) (pf2 51 b1) (pf2 51 b2) (pf2 51 b3) (pf2 51 b4) (pf2 51 b5) (pf2 51 b6) (pf2 51 b7) := by
  unfold by8
  rw [show 3689348814741910323 = 256 * (256 * (256 * (256 * (256 * (256 * (256 * 51 + 51) + 51) + 51) + 51) + 51) + 51) + 51 from rfl]
  rw [step2 _ _ _ h0, step2 _ _ _ h1, step2 _ _ _ h2, step2 _ _ _ h3, step2 _ _ _ h4, step2 _ _ _ h5, step2 _ _ _ h6]
theorem mod16 (y b : Nat) : (256 * y + b) % 16 = b % 16 := by omega
theorem pf3_8 {b0 b1 b2 b3 b4 b5 b6 b7 : Nat} (h0 : b0 < 69) (h1 : b1 < 69) (h2 : b2 < 69) (h3 : b3 < 69) (h4 : b4 < 69) (h5 : b5 < 69) (h6 : b6 < 69)
    (g1 : b1 % 16 < 5) (g2 : b2 % 16 < 5) (g3 : b3 % 16 < 5) (g4 : b4 % 16 < 5) (g5 : b5 % 16 < 5) (g6 : b6 % 16 < 5) (g7 : b7 % 16 < 5) :
    pf3 1085102592571150095 (by8 b0 b1 b2 b3 b4 b5 b6 b7) = by8 (pf3 15 b0) (pf3 15 b1) (pf3 15 b2) (pf3 15 b3) (pf3 15 b4) (pf3 15 b5) (pf3 15 b6) (pf3 15 b7) := by
  unfold by8
  rw [show 1085102592571150095 = 256 * (256 * (256 * (256 * (256 * (256 * (256 * 15 + 15) + 15) + 15) + 15) + 15) + 15) + 15 from rfl]
  rw [step3 _ _ _ h0 (by rw [mod16]; exact g1), step3 _ _ _ h1 (by rw [mod16]; exact g2), step3 _ _ _ h2 (by rw [mod16]; exact g3), step3 _ _ _ h3 (by rw [mod16]; exact g4), step3 _ _ _ h4 (by rw [mod16]; exact g5), step3 _ _ _ h5 (by rw [mod16]; exact g6), step3 _ _ _ h6 g7]

/-- The three first steps. -/
def swar3 (x : Nat) : Nat := pf3 1085102592571150095 (pf2 3689348814741910323 (pf1 6148914691236517205 x))
/-- The three last ones. -/
def swar6 (x : Nat) : Nat := ((x + x / 256) + (x + x / 256) / 65536) + ((x + x / 256) + (x + x / 256) / 65536) / 4294967296
/-- A word's bits. -/
def pop (x : Nat) : Nat := pop8 (x % 256) + pop8 (x / 256 % 256) + pop8 (x / 65536 % 256) + pop8 (x / 16777216 % 256) + pop8 (x / 4294967296 % 256) + pop8 (x / 1099511627776 % 256) + pop8 (x / 281474976710656 % 256) + pop8 (x / 72057594037927936 % 256)

theorem by8_of (x : Nat) (h : x < 18446744073709551616) : x = by8 (x % 256) (x / 256 % 256) (x / 65536 % 256) (x / 16777216 % 256) (x / 4294967296 % 256) (x / 1099511627776 % 256) (x / 281474976710656 % 256) (x / 72057594037927936 % 256) := by
  unfold by8; omega
theorem swar3_eq (x : Nat) (h : x < 18446744073709551616) : swar3 x = by8 (pop8 (x % 256)) (pop8 (x / 256 % 256)) (pop8 (x / 65536 % 256)) (pop8 (x / 16777216 % 256)) (pop8 (x / 4294967296 % 256)) (pop8 (x / 1099511627776 % 256)) (pop8 (x / 281474976710656 % 256)) (pop8 (x / 72057594037927936 % 256)) := by
  have hx := by8_of x h
  have l : ∀ n, n % 256 < 256 := fun n => Nat.mod_lt _ (by decide)
  have e : ∀ n, n % 256 = n % 256 → pf3 15 (pf2 51 (pf1 85 (n % 256))) = pop8 (n % 256) := fun n _ => pop8_eq ⟨n % 256, l n⟩
  have a : ∀ n, pf1 85 (n % 256) < 256 := fun n => pf1_lt ⟨n % 256, l n⟩
  have b : ∀ n, pf2 51 (pf1 85 (n % 256)) < 69 := fun n => pf2_lt ⟨n % 256, l n⟩
  have c : ∀ n, pf2 51 (pf1 85 (n % 256)) % 16 < 5 := fun n => pf2_low ⟨n % 256, l n⟩
  unfold swar3
  have h1 := pf1_8 (b7 := x / 72057594037927936 % 256) (l x) (l (x / 256)) (l (x / 65536)) (l (x / 16777216)) (l (x / 4294967296)) (l (x / 1099511627776)) (l (x / 281474976710656))
  have h2 := pf2_8 (b7 := pf1 85 (x / 72057594037927936 % 256)) (a x) (a (x / 256)) (a (x / 65536)) (a (x / 16777216)) (a (x / 4294967296)) (a (x / 1099511627776)) (a (x / 281474976710656))
  have h3 := pf3_8 (b x) (b (x / 256)) (b (x / 65536)) (b (x / 16777216)) (b (x / 4294967296)) (b (x / 1099511627776)) (b (x / 281474976710656)) (c (x / 256)) (c (x / 65536)) (c (x / 16777216)) (c (x / 4294967296)) (c (x / 1099511627776)) (c (x / 281474976710656)) (c (x / 72057594037927936))
  rw [← hx] at h1
  rw [h1, h2, h3, e x rfl, e (x / 256) rfl, e (x / 65536) rfl, e (x / 16777216) rfl, e (x / 4294967296) rfl, e (x / 1099511627776) rfl, e (x / 281474976710656) rfl, e (x / 72057594037927936) rfl]

theorem swar6_eq (c0 c1 c2 c3 c4 c5 c6 c7 : Nat) (h0 : c0 ≤ 8) (h1 : c1 ≤ 8) (h2 : c2 ≤ 8) (h3 : c3 ≤ 8) (h4 : c4 ≤ 8) (h5 : c5 ≤ 8) (h6 : c6 ≤ 8) (h7 : c7 ≤ 8) :
    swar6 (by8 c0 c1 c2 c3 c4 c5 c6 c7) % 128 = c0 + c1 + c2 + c3 + c4 + c5 + c6 + c7 ∧ swar6 (by8 c0 c1 c2 c3 c4 c5 c6 c7) < 9223372036854775808 := by
  have hx : by8 c0 c1 c2 c3 c4 c5 c6 c7 / 256 = by8 c1 c2 c3 c4 c5 c6 c7 0 := by unfold by8; omega
  have hy : by8 c0 c1 c2 c3 c4 c5 c6 c7 + by8 c1 c2 c3 c4 c5 c6 c7 0 = by8 (c0 + c1) (c1 + c2) (c2 + c3) (c3 + c4) (c4 + c5) (c5 + c6) (c6 + c7) c7 := by unfold by8; omega
  have hz : by8 (c0 + c1) (c1 + c2) (c2 + c3) (c3 + c4) (c4 + c5) (c5 + c6) (c6 + c7) c7 / 65536 = by8 (c2 + c3) (c3 + c4) (c4 + c5) (c5 + c6) (c6 + c7) c7 0 0 := by unfold by8; omega
  have hu : by8 (c0 + c1) (c1 + c2) (c2 + c3) (c3 + c4) (c4 + c5) (c5 + c6) (c6 + c7) c7 + by8 (c2 + c3) (c3 + c4) (c4 + c5) (c5 + c6) (c6 + c7) c7 0 0 = by8 (c0 + c1 + (c2 + c3)) (c1 + c2 + (c3 + c4)) (c2 + c3 + (c4 + c5)) (c3 + c4 + (c5 + c6)) (c4 + c5 + (c6 + c7)) (c5 + c6 + c7) (c6 + c7) c7 := by unfold by8; omega
  have hv : by8 (c0 + c1 + (c2 + c3)) (c1 + c2 + (c3 + c4)) (c2 + c3 + (c4 + c5)) (c3 + c4 + (c5 + c6)) (c4 + c5 + (c6 + c7)) (c5 + c6 + c7) (c6 + c7) c7 / 4294967296 = by8 (c4 + c5 + (c6 + c7)) (c5 + c6 + c7) (c6 + c7) c7 0 0 0 0 := by unfold by8; omega
  unfold swar6
  rw [hx, hy, hz, hu, hv]
  unfold by8
  constructor <;> omega

theorem swar_eq (x : Nat) (h : x < 18446744073709551616) : swar6 (swar3 x) % 128 = pop x ∧ swar6 (swar3 x) < 9223372036854775808 := by
  have l : ∀ n, pop8 (n % 256) ≤ 8 := fun n => pop8_le ⟨n % 256, Nat.mod_lt _ (by decide)⟩
  rw [swar3_eq x h]
  exact swar6_eq _ _ _ _ _ _ _ _ (l _) (l _) (l _) (l _) (l _) (l _) (l _) (l _)

end Go.Proofs.YtlchaocpejfikaaGreatDoor

/-
  strings.Builder: WriteString as a deferred call (the walk of BldStr once more, printed from it).
-/
namespace Go.Proofs.YtlchaocpejfikaaGreatDoor
open Go.RowKit

set_option maxRecDepth 100000 in
set_option maxHeartbeats 1000000 in
theorem writeString_d (T : TypeId) (b o : Nat) (cs : Array Value) (bs : List UInt8) (g : Option Nat) (l : List UInt8) (u : FrameMode) (w : World) (h : BldAt 5 T b o cs bs g w) (hl : BldIn T cs.size o) (hlen : bs.length + l.length ≤ 140737488355328) :
    CallsD Tryz.prog 60 #[.pointer (some ⟨b, o, none⟩), .string ⟨l.toArray⟩] u w fun e u' w' => u' = u ∧ e = .returned (.tuple #[.int .i64 l.length, .nilIface]) ∧
      ∃ v', BldAt 5 T b o (bldCells cs b o v') (bs ++ l) v'.ownBlock w' ∧ Fr (fun k => k = b ∨ some k = g) w w' ∧ (∀ k, v'.ownBlock = some k → some k = g ∨ w.heap.size ≤ k) := by
  obtain ⟨i0, hi, hz0, hz1, hz2⟩ := info_parts info_u8
  have HL := Lib.hid hl; clear hl
  go_enter_d Tryz.func60, Tryz.ntmps60
  go_wp2_with (go_at_call 76; refine (copyCheck_any T b o cs bs g _ h HL.out).mono ?_)
  rintro e w1 ⟨rfl, h1, hf1⟩
  obtain ⟨hb, ho, hp, v, hv, hown, hg, hne, hni⟩ := h1
  have c1 : w1.cell? ⟨b, o + 1, none⟩ = some v := cell_at hb hv
  have HB := Lib.hid hb; have HO := Lib.hid ho; have HV := Lib.hid hv; have HG := Lib.hid hg; have HN := Lib.hid hne; have HP := Lib.hid hp; have HI := Lib.hid hni
  clear hb ho hv hg hne hp hni
  go_wp2_with (at_builtin; refine wpList_append_gs rfl _ _ 52 9 rfl 5 i0 Tryz.underlying52 Tryz.underlying9 hi hz0 hz1 hz2 _ _ _ rfl hown ⟨l.toArray⟩ rfl ?c3 ?c4 ?_)
  case c3 => unfold maxLen; show bs.length + l.toArray.size ≤ _; simp; omega
  case c4 => show bs.length + l.toArray.size ≤ _; simp; omega
  intro v' w2 hown' hap
  have hb := HB.out
  have hgb := HG.out; have hnb := HN.out
  have hb2 : w2.heap[b]? = some (.cells (cs.setIfInBounds o (.pointer (some ⟨b, o, none⟩))) T (0, 0)) :=
    hap.fr.heap hb (fun e => hnb (by rw [← hgb, e]))
  have d1 : w2.cell? ⟨b, o + 1, none⟩ = some v := cell_at hb2 HV.out
  have f1 : w2.frozen? ⟨b, o + 1, none⟩ = false := unfrozen_at hb2 _
  have hlt := lt_heap hb
  have hne' : v'.ownBlock ≠ some b := by
    intro e
    rcases hap.old b e with h | h
    · exact hnb (by rw [← hgb, h])
    · omega
  have hnew : ∀ k, v'.ownBlock = some k → some k = g ∨ w.heap.size ≤ k := by
    intro k hk
    have := hf1.size
    rcases hap.old k hk with h | h
    · exact .inl (by rw [← hgb, h])
    · exact .inr (by omega)
  have hrow : w2.ownsRow 0 5 1 v' (bs ++ l).length (bcells (bs ++ l)) := by
    rw [bcells_append, List.length_append]
    exact hown'
  have hni' : bs ++ l = [] → v' = .slice none 0 0 := fun h => by
    rw [List.append_eq_nil_iff] at h
    exact hap.nil.2 ⟨HI.out h.1, by show l.toArray.size = 0; simp [h.2]⟩
  have hfr : Fr (fun k => k = b ∨ some k = g) w w2 := by
    refine (hf1.mono (fun _ _ h => Or.inl h)).trans hap.fr (fun k _ h => Or.inr ?_)
    rw [← hgb, h]
  obtain ⟨ga, gn, gc, hvs⟩ := ownsRow_slice' hrow
  have HNI := Lib.hid hni'; clear hni'
  have HB2 := Lib.hid hb2; have HNE := Lib.hid hne'; have HNEW := Lib.hid hnew; have HROW := Lib.hid hrow; have HFR := Lib.hid hfr
  clear hb hb2 hgb hnb hne' hnew hrow hown' hfr
  subst hvs
  go_wp2
  go_ret2
  have ho := HO.out
  refine ⟨by simp, _, ⟨heap_setCell_at HB2.out _ _, ?_, .inr ?_, _, set_at ho, ?_, rfl, HNE.out, HNI.out⟩, ?_, HNEW.out⟩
  · rw [bldCells_size]; simpa using ho
  · unfold bldCells; rw [set_set_ne (by omega)]; exact set_at (by simp at ho; omega)
  · exact ownsRow_fr HROW.out ((Fr.refl (fun k => k = b) w2).setCell (p := ⟨b, o + 1, none⟩) (fun _ => rfl) _) (fun k hk e => HNE.out (by rw [hk, e]))
  · exact HFR.out.setCell (p := ⟨b, o + 1, none⟩) (fun _ => Or.inl rfl) _
end Go.Proofs.YtlchaocpejfikaaGreatDoor

/-
  A law's last step, for arguments of whatever types: the call returned true and below the old heap's size nothing has turned.
-/
namespace Go.Proofs.YtlchaocpejfikaaGreatDoor
open Go.ChangeShapes Go.WideShapes Go.ChangeAt Go.RowKit

section
variable {H : Type} {enc : TypeId × Value → H} {P : Program}

theorem trodAll_stays (hl : laidOutB P = true) {W W' : World} {sp : Nat → Bool} (hb : Below W.heap.size W W') : ∀ (ts : List TypeId) (vs : List Value) (ds : List (DataW H)) (ps : List MemPlace),
    (∀ t ∈ ts, P.readableRec t = true ∧ t < P.types.size) → DataW.TrodAll enc P W 0 (fun _ => true) true ts vs ds ps → (∀ x ∈ ps, x.block < W.heap.size) → (∀ x ∈ ps, sp x.block = true) →
    DataW.TrodAll enc P W' 0 sp true ts vs ds ps
  | [], [], [], ps, _, h, _, _ => h
  | t :: ts, v :: vs, d :: ds, ps, hr, ⟨p, q, h1, h2, e⟩, hlt, hsp => by
    subst e
    refine ⟨p, q, ?_, ?_, rfl⟩
    · exact WideElems.Trod_stays hl (hr t (by simp)).1 (hr t (by simp)).2 h1 (fun x hx => hb.same (hlt x (by simp [hx]))) (fun x hx => hsp x (by simp [hx]))
    · exact trodAll_stays hl hb ts vs ds q (fun t ht => hr t (by simp [ht])) h2 (fun x hx => hlt x (by simp [hx])) (fun x hx => hsp x (by simp [hx]))
  | [], [], _ :: _, _, _, h, _, _ => h.elim
  | [], _ :: _, _, _, _, h, _, _ => h.elim
  | _ :: _, [], _, _, _, h, _, _ => h.elim
  | _ :: _, _ :: _, [], _, _, h, _, _ => h.elim

theorem okWide_array' {n : Nat} {e t : TypeId} {w : World} {r : Reach} {b : Nat} {v : Value} (ht : P.underlying t = some (.array n e)) (h : Value.okWide P w r b t v) : ∃ cs, v = .agg cs ∧ cs.size = P.cellsOf t := by
  simp only [Value.okWide, ht] at h
  obtain ⟨cs, h1, h2, _⟩ := h
  exact ⟨cs, h1, h2⟩

theorem ints_of_trod {w : World} {base : Nat} {spare : Nat → Bool} {held : Bool} {m : Nat} {k : IntKind} {e : TypeId} (he : P.underlying e = some (.int k)) : ∀ (cs : List Value) (xs : List (DataW H × List MemPlace)),
    cs.length = xs.length → (∀ i, i < xs.length → DataW.trod enc P w base spare held m e ((cs.drop i).take 1) = xs[i]?) → ∃ zs : List Int, cs = zs.map (Value.int k) ∧ ∀ z ∈ zs, (Lit.int k z).wf = true
  | [], _, _, _ => ⟨[], rfl, by simp⟩
  | c :: cs, [], h, _ => by simp at h
  | c :: cs, x :: xs, hl, h => by
    obtain ⟨zs, hz, hw⟩ := ints_of_trod he cs xs (by simpa using hl) (fun i hi => by simpa using h (i + 1) (by simp; omega))
    have h0 := h 0 (by simp)
    simp only [List.drop_zero, List.take_succ_cons, List.take_zero, List.getElem?_cons_zero] at h0
    obtain ⟨z, hc, _, wz⟩ := DataW.trod_int he h0
    simp only [List.cons.injEq, and_true] at hc
    refine ⟨z :: zs, by simp [hc, hz], ?_⟩
    intro y hy
    rcases List.mem_cons.1 hy with rfl | hy
    · exact wz
    · exact hw y hy

theorem list2_of {α : Type} {zs : List α} (h : zs.length = 2) : ∃ a b, zs = [a, b] := by
  match zs, h with
  | [a, b], _ => exact ⟨a, b, rfl⟩
theorem list4_of {α : Type} {zs : List α} (h : zs.length = 4) : ∃ a b c d, zs = [a, b, c, d] := by
  match zs, h with
  | [a, b, c, d], _ => exact ⟨a, b, c, d, rfl⟩

/-- An array of integers, by value. -/
theorem open_iarr {n : Nat} {e t : TypeId} {k : IntKind} {w w' : World} {r : Reach} {b base : Nat} {spare : Nat → Bool} {held : Bool} {v : Value} {d : DataW H} {p : List MemPlace}
    (ht : P.underlying t = some (.array n e)) (he : P.underlying e = some (.int k)) (hc : P.cellsOf e = 1) (hct : P.cellsOf t = n) (hv : Value.okWide P w r b t v) (h : DataW.Trod enc P w' base spare held t v d p) :
    ∃ zs : List Int, zs.length = n ∧ v = .agg (zs.map (Value.int k)).toArray ∧ ∀ z ∈ zs, (Lit.int k z).wf = true := by
  obtain ⟨cs, rfl, hsz⟩ := okWide_array' ht hv
  obtain ⟨fuel, hf⟩ := h
  obtain ⟨xs, m, _, _, hl, hn, hx⟩ := DataW.trod_array ht hf
  rw [hc] at hx
  have hl' : (Value.agg cs).cells.toList.length = n := by rw [hl, hct]
  obtain ⟨zs, hz, hw⟩ := ints_of_trod he (Value.agg cs).cells.toList xs (by rw [hl', hn]) (fun i hi => by simpa using hx i (by omega))
  have hzl : zs.length = n := by have := congrArg List.length hz; rw [hl', List.length_map] at this; exact this.symm
  refine ⟨zs, hzl, ?_, hw⟩
  have hcs : cs.toList = zs.map (Value.int k) := hz
  rw [← hcs]

/-- The last step of a law. -/
theorem law_post {f : Func} {s : ChangeSpec} {apart fresh handsOn again : Bool} {W W' : World} {args : Array Value} {ds gs : List (DataW H)} {before : List MemPlace} {tb : TypeId}
    (hvars : s.vars = []) (hres : f.resultTypes = #[tb]) (htb : P.underlying tb = some .bool) (hl : laidOutB P = true) (hrd : ∀ t ∈ f.params.toList, P.readableRec t = true ∧ t < P.types.size)
    (hsp : s.fn H (ds ++ gs) = { results := [.lit (.bool true)], args := ds })
    (hW : DataW.Whole enc P f.params.toList s.vars apart W args.toList ds gs before) (hb : Below W.heap.size W W') :
    s.post enc P f apart fresh handsOn again W args (.bool true) W' := by
  have hlt : ∀ p ∈ before, p.block < W.heap.size := fun p hp => hW.lt p hp
  have hold : ∀ p ∈ before, (fun b => decide (b < W.heap.size)) p.block = true := fun p hp => by simpa using hlt p hp
  have hres0 : ∀ (b : Nat) (sp : Nat → Bool) (hd : Bool), DataW.TrodAll enc P W' b sp hd f.resultTypes.toList ((Value.bool true).resultList f.resultTypes.size) (s.fn H (ds ++ gs)).results [] := by
    intro b sp hd; rw [hsp, hres]; exact trodAll_cons_mk (shut_bool htb _) trodAll_mk0
  obtain ⟨p, q, hA, hV, hpq, hz, hn⟩ := hW
  have hW : DataW.Whole enc P f.params.toList s.vars apart W args.toList ds gs before := ⟨p, q, hA, hV, hpq, hz, hn⟩
  have hV' := hV
  rw [hvars] at hV'
  obtain ⟨rfl, rfl⟩ := trodVars_none hV'
  simp only [List.append_nil] at hpq hsp hres0
  subst hpq
  have hargs : ∀ sp : Nat → Bool, (∀ x ∈ before, sp x.block = true) → DataW.TrodAll enc P W' 0 sp true f.params.toList args.toList (s.fn H (ds ++ [])).args before := by
    intro sp h; simp only [List.append_nil]; rw [hsp]; exact trodAll_stays hl hb _ _ _ _ hrd hA hlt h
  have hvs : ∀ sp : Nat → Bool, DataW.TrodVars enc P W' sp s.vars (s.fn H (ds ++ [])).vars [] := by
    intro sp; simp only [List.append_nil]; rw [hvars, hsp]; rfl
  refine ⟨ds, [], before, [], before, [], hW, by simpa using hres0 _ _ _, hargs _ hold, hvs _, World.keptBut_mono (fun x hx => ⟨hx, .inr (.inl hx)⟩) (hb.frame (· ∈ before)), fun _ => ?_⟩
  refine ⟨ok_one hres rfl (okWide_bool_mk htb _), (s.fn H (ds ++ [])).results ++ (s.fn H (ds ++ [])).args, [], before, ⟨[] ++ before, [], ?_, ?_, by simp, ?_, ?_⟩, ?_⟩
  · exact trodAll_append (hargs _ (fun _ _ => rfl)) (by simpa using hres0 _ _ _)
  · rw [hvars]; rfl
  · intro b off hp
    rw [hb.frozen (hlt _ hp)]
    exact hz b off hp
  · intro ha; exact hn ha
  · intro x hx _; exact hx
end

end Go.Proofs.YtlchaocpejfikaaGreatDoor

/-
  A slice of bytes among a law's arguments.
-/
namespace Go.Proofs.YtlchaocpejfikaaGreatDoor
open Go.ChangeShapes Go.WideShapes Go.ChangeAt Go.RowKit

section
variable {H : Type} {enc : TypeId × Value → H} {P : Program}

theorem byte_of_wf {n : Int} (h : (Lit.int .u8 n).wf = true) : ((UInt8.ofNat n.toNat).toNat : Int) = n := by
  simp [Lit.wf, IntKind.min, IntKind.max, IntKind.signed, IntKind.bits] at h
  have h2 : n.toNat < 256 := by omega
  simp [UInt8.toNat_ofNat']; omega

theorem open_bytes {t e : TypeId} {w : World} {r : Reach} {b base : Nat} {spare : Nat → Bool} {held : Bool} {v : Value} {d : DataW H} {p : List MemPlace}
    (ht : P.underlying t = some (.slice e)) (he : P.underlying e = some (.int .u8)) (hc : P.cellsOf e = 1) (hv : Value.okWide P w r b t v) (h : DataW.Trod enc P w base spare held t v d p) :
    ∃ l : List UInt8, l.length ≤ maxLen ∧ SB w l v := by
  obtain ⟨a0, len, cap, rfl⟩ := okWide_slice ht hv
  obtain ⟨fuel, hf⟩ := h
  rcases open_ints ht he hc hf with ⟨hcs, _⟩ | ⟨a, len', cap', zs, hcs, _, hl, hm, hz, _, hcell, hwz⟩
  · simp only [Value.cells, List.cons.injEq, and_true] at hcs
    injection hcs with e1 e2 e3
    subst e1; subst e2; subst e3
    exact ⟨[], Nat.zero_le _, .inl ⟨rfl, _, _, rfl⟩⟩
  · simp only [Value.cells, List.cons.injEq, and_true] at hcs
    injection hcs with e1 e2 e3
    subst e1; subst e2; subst e3
    have hlz : len ≤ zs.length := by rw [hz]; split <;> omega
    by_cases h0 : len = 0
    · subst h0; exact ⟨[], Nat.zero_le _, .inl ⟨rfl, _, _, rfl⟩⟩
    · obtain ⟨g, off, rfl, hcc⟩ := ints_at hcell (by omega)
      refine ⟨(zs.take len).map fun n => UInt8.ofNat n.toNat, by simp; omega, .inr ⟨g, off, cap, by simp [Nat.min_eq_left hlz], ?_, ?_⟩⟩
      · exact World.block_lt_of_cell? w _ (hcc 0 (by omega))
      · intro j x hj
        have hjl : j < len := by
          have := (List.getElem?_eq_some_iff.1 hj).1
          simp at this; omega
        rw [hcc j (by omega)]
        have hx : x = UInt8.ofNat (zs.getD j 0).toNat := by
          have hjz : j < zs.length := by omega
          simp [hjl, hjz] at hj ⊢
          exact hj.symm
        rw [hx, byte_of_wf]
        apply hwz
        have hjz : j < zs.length := by omega
        simp [hjz]
end

end Go.Proofs.YtlchaocpejfikaaGreatDoor
