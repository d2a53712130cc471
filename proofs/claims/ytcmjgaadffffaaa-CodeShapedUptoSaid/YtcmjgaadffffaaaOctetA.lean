/-
  Walks of package octet: add, Of: a set of bytes is four words.
-/
import Derived.Test.YtcmjgaadffffaaaSets
import Derived.Test.YtcmjgaadffffaaaChecked
import Derived.StillTailTactics
namespace Go.Proofs.Ytcmjgaadffffaaa
open Go.RowKit

/-- One bit more in a word. -/
def orw (x : Int) (n : Nat) : Int := bits BinOp.or IntKind.u64 x (IntKind.u64.wrap (2 ^ n))
/-- One byte more in a set. -/
def S4.put (s : S4) (d : Nat) : S4 := match d / 64 with
  | 0 => { s with a := orw s.a (d % 64) }
  | 1 => { s with b := orw s.b (d % 64) }
  | 2 => { s with c := orw s.c (d % 64) }
  | _ => { s with d := orw s.d (d % 64) }
def S4.puts (s : S4) : List UInt8 → S4
  | [] => s
  | c :: r => S4.puts (s.put c.toNat) r
def S4.zero : S4 := ⟨0, 0, 0, 0⟩

theorem cellS {w : World} {b : Nat} {s : S4} {T : TypeId} (h : w.heap[b]? = some (.cells s.cells.toArray T (0, 0))) :
    w.cell? ⟨b, 0, none⟩ = some (.int .u64 s.a) ∧ w.cell? ⟨b, 1, none⟩ = some (.int .u64 s.b) ∧ w.cell? ⟨b, 2, none⟩ = some (.int .u64 s.c) ∧ w.cell? ⟨b, 3, none⟩ = some (.int .u64 s.d) ∧
    w.frozen? ⟨b, 0, none⟩ = false ∧ w.frozen? ⟨b, 1, none⟩ = false ∧ w.frozen? ⟨b, 2, none⟩ = false ∧ w.frozen? ⟨b, 3, none⟩ = false :=
  ⟨cell_at h rfl, cell_at h rfl, cell_at h rfl, cell_at h rfl, unfrozen_at h _, unfrozen_at h _, unfrozen_at h _, unfrozen_at h _⟩

set_option maxRecDepth 100000 in
set_option maxHeartbeats 1000000 in
theorem add_any (b : Nat) (s : S4) (d : Nat) (w : World) (hd : d < 256) (h : w.heap[b]? = some (.cells s.cells.toArray 41 (0, 0))) :
    Calls Try.prog 21 #[.pointer (some ⟨b, 0, none⟩), .int .u8 d] w fun e w' => e = .returned (.tuple #[]) ∧ w'.heap[b]? = some (.cells (s.put d).cells.toArray 41 (0, 0)) ∧ Fr (fun k => k = b) w w' := by
  obtain ⟨c0, c1, c2, c3, f0, f1, f2, f3⟩ := cellS h
  have hb := lt_heap h
  have H := Lib.hid h; clear h
  have hdiv : Int.tdiv (d : Int) 64 = ((d / 64 : Nat) : Int) := (Int.ofNat_tdiv d 64).symm
  have hmod : Int.tmod (d : Int) 64 = ((d % 64 : Nat) : Int) := (Int.ofNat_tmod d 64).symm
  have hq : d / 64 = 0 ∨ d / 64 = 1 ∨ d / 64 = 2 ∨ d / 64 = 3 := by omega
  have hr : d % 64 < 64 := by omega
  have w0 : IntKind.u8.wrap 0 = 0 := by decide
  have w1 : IntKind.u8.wrap 1 = 1 := by decide
  have w2 : IntKind.u8.wrap 2 = 2 := by decide
  have w3 : IntKind.u8.wrap 3 = 3 := by decide
  have wm : IntKind.u8.wrap ((d % 64 : Nat) : Int) = ((d % 64 : Nat) : Int) := IntWalk.u8_in _ (by omega)
  have wm' : IntKind.u8.wrap ((d : Int) % 64) = ((d % 64 : Nat) : Int) := by rw [show (d : Int) % 64 = ((d % 64 : Nat) : Int) by omega]; exact wm
  go_enter Try.func21, Try.ntmps21
  go_wp2
  rcases hq with hq | hq | hq | hq
  all_goals
    rw [hq] at hdiv
    go_still_tail 11, (by kernel_rfl)
    change wpList _ _ _ _ _ w.drew
    go_wp2
    go_end0
    refine ⟨rfl, ?_, ((Fr.refl (fun k => k = b) w).setCell (p := ⟨b, _, none⟩) (fun _ => rfl) _).drew⟩
    unfold S4.put
    rw [hq]
    exact heap_setCell_at H.out _ _

theorem S4.cells_eq (s : S4) : s.cells.toArray = #[.int .u64 s.a, .int .u64 s.b, .int .u64 s.c, .int .u64 s.d] := rfl

/-- A slice of bytes: what it reads. -/
def SB (w : World) (l : List UInt8) (u : Value) : Prop := (l = [] ∧ ∃ a c, u = .slice a 0 c) ∨ ∃ g off cap, u = .slice (some ⟨g, off, none⟩) l.length cap ∧ g < w.heap.size ∧ ∀ j x, l[j]? = some x → w.cell? ⟨g, off + j, none⟩ = some (.int .u8 (x.toNat : Int))
theorem SB.shape {w : World} {l : List UInt8} {u : Value} (h : SB w l u) : ∃ a c, u = .slice a l.length c := by
  rcases h with ⟨rfl, a, c, rfl⟩ | ⟨g, off, cap, rfl, _⟩
  · exact ⟨_, _, rfl⟩
  · exact ⟨_, _, rfl⟩
theorem SB.get {w w' : World} {l : List UInt8} {u : Value} (h : SB w l u) (hf : Fr nob w w') {k : Nat} (hk : k < l.length) : ∃ g off cap, u = .slice (some ⟨g, off, none⟩) l.length cap ∧ w'.cell? ⟨g, off + k, none⟩ = some (.int .u8 (l[k].toNat : Int)) := by
  rcases h with ⟨rfl, _⟩ | ⟨g, off, cap, rfl, _, h⟩
  · simp at hk
  · exact ⟨g, off, cap, rfl, hf.cell (h k _ (List.getElem?_eq_getElem hk)) (fun x => x)⟩
theorem SB.on {w w' : World} {l : List UInt8} {u : Value} (h : SB w l u) (hf : Fr nob w w') : SB w' l u := by
  rcases h with h | ⟨g, off, cap, rfl, hg, h⟩
  · exact .inl h
  · exact .inr ⟨g, off, cap, rfl, Nat.lt_of_lt_of_le hg hf.size, fun j x hj => hf.cell (h j x hj) (fun x => x)⟩

theorem puts_append (s : S4) (l m : List UInt8) : s.puts (l ++ m) = (s.puts l).puts m := by
  induction l generalizing s with
  | nil => rfl
  | cons c r ih => exact ih _
theorem puts_take (s : S4) {l : List UInt8} {k : Nat} (h : k < l.length) : s.puts (l.take (k + 1)) = (s.puts (l.take k)).put l[k].toNat := by
  rw [List.take_succ_eq_append_getElem h, puts_append]; rfl
theorem heap_alloc_new (w : World) (o : Obj) : (w.alloc o).heap[w.heap.size]? = some o := by
  unfold World.alloc
  exact Array.getElem?_push_size

theorem heap_alloc_new' (w : World) (o : Obj) (b : Nat) (hb : b = w.heap.size) : (w.alloc o).heap[b]? = some o := by subst hb; exact heap_alloc_new w o

/-- A set that is handed back out of a variable. -/
theorem results_set {fn : Func} {p : Tmp} (h : fn.results = #[.cell p 41]) {tmps : Array Value} {r : Nat} (ht : tmps.getD p undef = .pointer (some ⟨r, 0, none⟩)) {W : World} {s : S4}
    (hb : W.heap[r]? = some (.cells s.cells.toArray 41 (0, 0))) : (results fn tmps).run Try.prog W = .ok (.agg s.cells.toArray) W := by
  obtain ⟨c0, c1, c2, c3, _⟩ := cellS hb
  have ht' : tmps[p]?.getD undef = .pointer (some ⟨r, 0, none⟩) := by rw [← ht]; simp
  simp only [results, h]
  simp [ht', go_sem, c0, c1, c2, c3, S4.cells]

set_option maxRecDepth 100000 in
set_option maxHeartbeats 1000000 in
theorem of_any (l : List UInt8) (u : Value) (w : World) (hl : l.length ≤ 9000000000000000000) (h : SB w l u) :
    Calls Try.prog 11 #[u] w fun e w' => e = .returned (.agg (S4.zero.puts l).cells.toArray) ∧ Fr nob w w' := by
  obtain ⟨a, c, rfl⟩ := h.shape
  have H := Lib.hid h; clear h
  go_enter Try.func11, Try.ntmps11
  go_wp2_with fail
  obtain ⟨w0, hw0⟩ : ∃ w0, w0 = ((w.alloc (.cells S4.zero.cells.toArray 41)).alloc (.cells S4.zero.cells.toArray 41)) := ⟨_, rfl⟩
  have f0 : Fr nob w w0 := by rw [hw0]; exact ((Fr.refl _ _).alloc _).alloc _
  have hr0 : w0.heap[w.heap.size]? = some (.cells S4.zero.cells.toArray 41 (0, 0)) := by rw [hw0]; exact heap_alloc_lt _ (heap_alloc_new _ _)
  have hb0 : w0.heap[w.heap.size + 1]? = some (.cells S4.zero.cells.toArray 41 (0, 0)) := by
    rw [hw0]; have := heap_alloc_new (w.alloc (.cells S4.zero.cells.toArray 41)) (.cells S4.zero.cells.toArray 41); simpa using this
  change Code.wp _ _ _ _ ((w.alloc (.cells S4.zero.cells.toArray 41)).alloc (.cells S4.zero.cells.toArray 41))
  rw [← hw0]
  have F0 := Lib.hid f0; have HR0 := Lib.hid hr0; have HB0 := Lib.hid hb0; clear f0 hr0 hb0 hw0
  go_loopw [8] (fun i wr => ∃ k : Nat, i = .int .i64 k ∧ k ≤ l.length ∧ wr.heap[w.heap.size + 1]? = some (.cells (S4.zero.puts (l.take k)).cells.toArray 41 (0, 0)) ∧ Fr (fun k => k = w.heap.size + 1) w0 wr) (fun i _ => l.length - (intOf i).toNat)
  case atStart => exact ⟨0, rfl, Nat.zero_le _, HB0.out, Fr.refl _ _⟩
  case round =>
    obtain ⟨k, rfl, hk, hb, fr⟩ := hrel
    have HB := Lib.hid hb; have FR := Lib.hid fr; clear hb fr
    have FW := Lib.hid (F0.out.trans FR.out (fun i hi x => by omega))
    by_cases hlt : k < l.length
    · obtain ⟨q, off, cap, he, hc⟩ := H.out.get FW.out hlt
      injection he with e1 e2 e3
      subst e1; subst e3
      clear e2
      have hpt := Lib.hid (puts_take S4.zero hlt)
      have hd : l[k].toNat < 256 := l[k].toNat_lt
      go_wp2_with fail
      refine (add_any (w.heap.size + 1) _ l[k].toNat _ hd HB.out).mono ?_
      rintro e w3 ⟨rfl, h3, f3⟩
      have H3 := Lib.hid h3; have F3 := Lib.hid f3; clear h3 f3
      go_wp2
      go_roundw
      case rel => exact ⟨k + 1, by go_num, by omega, by rw [hpt.out]; exact H3.out, FR.out.trans' F3.out⟩
      case measure => simp [intOf]; omega
    · obtain rfl : k = l.length := by omega
      have hT := List.take_of_length_le (l := l) (Nat.le_refl _)
      have hb := HB.out
      rw [hT] at hb
      obtain ⟨c0, c1, c2, c3, _⟩ := cellS hb
      have hr := FR.out.heap HR0.out (fun e => by omega)
      obtain ⟨_, _, _, _, f0, f1, f2, f3⟩ := cellS hr
      have hlr := lt_heap hr; have hlb := lt_heap hb
      have HBB := Lib.hid hb; have HRR := Lib.hid hr; clear hb hr hT
      go_wp2
      (try simp only [Exit.inBlock, Exit.then])
      have hW := heap_setCell_at (heap_setCell_at (heap_setCell_at (heap_setCell_at HRR.out 0 (.int .u64 (S4.zero.puts l).a)) 1 (.int .u64 (S4.zero.puts l).b)) 2 (.int .u64 (S4.zero.puts l).c)) 3 (.int .u64 (S4.zero.puts l).d)
      refine bodyPost_ret (results_set (s := S4.zero.puts l) rfl rfl hW) rfl ⟨rfl, ?_⟩
      exact (((FW.out.setCell (p := ⟨w.heap.size, 0, none⟩) (fun h => absurd h (Nat.lt_irrefl _)) _).setCell (p := ⟨w.heap.size, 1, none⟩) (fun h => absurd h (Nat.lt_irrefl _)) _).setCell (p := ⟨w.heap.size, 2, none⟩) (fun h => absurd h (Nat.lt_irrefl _)) _).setCell (p := ⟨w.heap.size, 3, none⟩) (fun h => absurd h (Nat.lt_irrefl _)) _

end Go.Proofs.Ytcmjgaadffffaaa
