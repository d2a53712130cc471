/-
  Merged texts of this claim: ShowD, ShowF, BrkJ, ShowL, ShowM, ShowN, BrkK, BrkL, BrkO, BrkM, BrkS, RdP.
-/
import Derived.Test.YtlchaocpejfikaaGreatDoorShelf
import Derived.Deep.DeepCutAuto
import Derived.Test.YtlchaocpejfikaaGreatDoorM05
import Derived.Test.YtlchaocpejfikaaGreatDoorM06
import Derived.Test.YtlchaocpejfikaaGreatDoorM09
import Derived.Test.YtlchaocpejfikaaGreatDoorM10
import Derived.Test.YtlchaocpejfikaaGreatDoorM11
import Derived.Test.YtlchaocpejfikaaGreatDoorM12

/-
  Package show: set; Set.
-/
namespace Go.Proofs.YtlchaocpejfikaaGreatDoor
open Go.RowKit

section
variable {W0 w w' : World} {K : Nat → Prop} {b : Nat} {out : List UInt8}
set_option maxRecDepth 100000 in
set_option maxHeartbeats 4000000 in
theorem show_set (s : S4) (hs : s.fit) (hE : Env W0) (h : TxW W0 K b out w) (hlen : out.length ≤ 10000000000000) :
    Calls Tryz.prog 24 #[.pointer (some ⟨b, 0, none⟩), setV s] w (TxA W0 K b (out ++ setT s) w (.tuple #[])) := by
  have HT := Lib.hid h; have HE := Lib.hid hE
  obtain ⟨q, hq⟩ : ∃ q, q = w.heap.size := ⟨_, rfl⟩
  have hlb : b < w.heap.size := h.lt
  obtain ⟨w1, hw1⟩ : ∃ w1, w1 = w.alloc (.cells #[.int .u64 s.a, .int .u64 s.b, .int .u64 s.c, .int .u64 s.d] 27) := ⟨_, rfl⟩
  have f01 : Fr nob w w1 := by rw [hw1]; exact (Fr.refl _ _).alloc _
  have hb1 : w1.heap[q]? = some (.cells #[.int .u64 s.a, .int .u64 s.b, .int .u64 s.c, .int .u64 s.d] 27 (0, 0)) := by rw [hw1, hq]; exact newAt _ _
  have t1 : TxW W0 (fun k => K k ∨ k = q) b out w1 := h.add f01 (fun k e => by subst e; rw [hw1, hq]; simp)
  have r1 := rule4 hb1
  have hE1 : Env w1 := hE.on (h.fr.trans' f01)
  have HL := Lib.hid (len_lit s w1 hs)
  have HLs := Lib.hid (fun w' (f : Fr nob w1 w') => least_any s w' hs (hE1.on f).1)
  have hfit := Lib.hid hs; have H1 := Lib.hid t1; have F01 := Lib.hid f01; have HW1 := Lib.hid hw1; have HB1 := Lib.hid hb1; have HQ := Lib.hid hq; have HLT := Lib.hid hlb
  have hlow := lowS_lt s
  have hq0 : q = w.heap.size := hq
  clear h hs f01 hw1 t1 hb1 hE1 hE hq hlb
  obtain ⟨n, hn⟩ : ∃ n, s.len = n := ⟨_, rfl⟩
  have hn256 : n ≤ 256 := hn ▸ s.len_le
  rw [hn] at HL
  unfold setT
  rw [hn]
  by_cases h256 : n = 256
  · have c1 : ((n : Int) == 256) = true := by subst h256; rfl
    rw [if_pos h256]
    subst hq0
    clear hn
    go_enter Tryz.func24, Tryz.ntmps24
    go_wp2_with (rw [← HW1.out])
    refine HL.out.mono ?_
    rintro e w2 ⟨rfl, f2⟩
    have F2 := Lib.hid f2; clear f2
    have r2 := rule4 (F2.out.heap HB1.out (fun x => x))
    go_wp2_with fail
    refine (HLs.out _ F2.out).mono ?_
    rintro e w3 ⟨d, bb, rfl, hld, f3⟩
    have F3 := Lib.hid (F2.out.trans' f3); clear f3 hld
    have H3 := Lib.hid (H1.out.quiet F3.out)
    go_wp2_with fail
    refine (tx_byte 46 46 (by decide) rfl H3.out (by omega)).mono ?_
    rintro e w4 ⟨rfl, h4, f4⟩
    have H4 := Lib.hid h4; have F4 := Lib.hid f4; clear h4 f4
    go_wp2
    exact bodyPost_ret (results_none rfl _ _ _) rfl ⟨rfl, H4.out.less (fun k => .inl), (F01.out.trans' F3.out).toTx.trans F4.out (fun i _ x => Txn.less (fun k => .inl) x)⟩
  · have c1 : ((n : Int) == 256) = false := by simp; omega
    rw [if_neg h256]
    by_cases h1 : n = 1
    · have c2 : ((n : Int) == 1) = true := by subst h1; rfl
      rw [if_pos h1]
      subst hq0
      clear hn
      go_enter Tryz.func24, Tryz.ntmps24
      go_wp2_with (rw [← HW1.out])
      refine HL.out.mono ?_
      rintro e w2 ⟨rfl, f2⟩
      have F2 := Lib.hid f2; clear f2
      have r2 := rule4 (F2.out.heap HB1.out (fun x => x))
      go_wp2_with fail
      refine (HLs.out _ F2.out).mono ?_
      rintro e w3 ⟨d, bb, rfl, hld, f3⟩
      obtain rfl := hld.lowS hfit.out
      have F3 := Lib.hid (F2.out.trans' f3); clear f3 hld
      have H3 := Lib.hid (H1.out.quiet F3.out)
      go_wp2_with fail
      refine (show_single (lowS s) hlow H3.out (by omega)).mono ?_
      rintro e w4 ⟨rfl, h4, f4⟩
      have H4 := Lib.hid h4; have F4 := Lib.hid f4; clear h4 f4
      go_wp2
      exact bodyPost_ret (results_none rfl _ _ _) rfl ⟨rfl, H4.out.less (fun k => .inl), (F01.out.trans' F3.out).toTx.trans F4.out (fun i _ x => Txn.less (fun k => .inl) x)⟩
    · rw [if_neg h1]
      have := show_setB s hfit.out HE.out HT.out hlen (by omega) (by omega)
      unfold setT at this
      rw [hn, if_neg h256, if_neg h1] at this
      exact this
/-- show.Set. -/
theorem show_Set (s : S4) (w : World) (hs : s.fit) (hE : Env w) :
    Calls Tryz.prog 9 #[setV s] w fun e w' => e = .returned (.string ⟨(setT s).toArray⟩) ∧ Fr nob w w' := by
  obtain ⟨w1, hw1⟩ : ∃ w1, w1 = w.alloc (.cells #[.int .u64 s.a, .int .u64 s.b, .int .u64 s.c, .int .u64 s.d] 27) := ⟨_, rfl⟩
  obtain ⟨w2, hw2⟩ : ∃ w2, w2 = w1.alloc (.cells #[.pointer none, .slice none 0 0] 56) := ⟨_, rfl⟩
  have hz1 : w1.heap[w.heap.size]? = some (.cells #[.int .u64 s.a, .int .u64 s.b, .int .u64 s.c, .int .u64 s.d] 27 (0, 0)) := by rw [hw1]; exact newAt _ _
  have f1 : Fr nob w w1 := by rw [hw1]; exact (Fr.refl _ _).alloc _
  have f12 : Fr nob w1 w2 := by rw [hw2]; exact (Fr.refl _ _).alloc _
  have hs1 : w1.heap.size = w.heap.size + 1 := by rw [hw1]; simp
  have hB : TxB (w.heap.size + 1) [] none w2 := by rw [hw2, ← hs1]; exact TxB.new w1
  have hT : TxW w (fun _ => False) (w.heap.size + 1) [] w2 := ⟨f1.trans' f12, none, hB, fun k x => by rcases x with x | x; exact ⟨by omega, by simp, Nat.lt_of_lt_of_le x (f1.trans' f12).size⟩; exact x.elim⟩
  have r2 := rule4 (f12.heap hz1 (fun x => x))
  have HT := Lib.hid hT; have HE := Lib.hid hE; have HS := Lib.hid hs; have HW1 := Lib.hid hw1; have HW2 := Lib.hid hw2
  have HSZ := Lib.hid hs1
  clear hT hE hs hw1 hw2 hz1 f1 f12 hB hs1
  go_enter Tryz.func9, Tryz.ntmps9
  go_wp2_with (rw [← HW1.out, ← HW2.out])
  refine (show_set s HS.out HE.out HT.out (by simp)).mono ?_
  rintro e w3 ⟨rfl, h3, f3⟩
  rw [List.nil_append] at h3
  have H3 := Lib.hid h3; clear h3 f3
  obtain ⟨g, ⟨cs, hb, hcs⟩, hk⟩ := H3.out.tx
  have hst := Lib.hid (string_any _ (w.heap.size + 1) 0 cs (setT s) g w3 hb)
  have HG := Lib.hid (show ∀ i, i < w.heap.size → some i ≠ g from fun i hi => (hk i (.inl hi)).2.1)
  clear hb hcs hk
  go_wp2_with fail
  refine hst.out.mono ?_
  rintro e w4 ⟨rfl, f4⟩
  have F4 := Lib.hid (H3.out.fr.trans f4 (fun i hi x => (HG.out i hi x).elim)); clear f4
  go_wp2
  go_ret
  exact ⟨rfl, F4.out⟩
end
end Go.Proofs.YtlchaocpejfikaaGreatDoor

/-
  Package show: numbers as texts.
-/
namespace Go.Proofs.YtlchaocpejfikaaGreatDoor
open Go.RowKit

/-- The library's table of the powers of ten. -/
def P10 (w : World) : Prop := ∃ T fr, w.heap[1]? = some (.cells (Lib.pow10Tab.map fun z => Value.int .u64 z).toArray T fr)
theorem P10.on {w w' : World} (h : P10 w) (f : Fr nob w w') : P10 w' := let ⟨T, fr, h⟩ := h; ⟨T, fr, f.heap h (fun x => x)⟩
theorem P10.tab {w : World} (h : P10 w) : Lib.TabIs Tryz.prog w "internal/strconv.uint64pow10" .u64 Lib.pow10Tab := by
  obtain ⟨T, fr, h⟩ := h
  unfold Lib.TabIs World.var?
  rw [show Tryz.prog.globalNamed "internal/strconv.uint64pow10" = some 1 by kernel_rfl]
  simp only [Option.bind_some]
  rw [h]
theorem fr_drewN {w : World} (k : Nat) : Fr nob w (w.drewN k) := ⟨rfl, rfl, rfl, Nat.le_refl _, fun _ _ _ => rfl⟩
theorem fr_grow {w : World} (os : Array Obj) : Fr nob w (Sort.grow w os) :=
  ⟨rfl, rfl, rfl, by simp [Sort.grow], fun k hk _ => by unfold Sort.grow; simp only; rw [Array.getElem?_append_left hk]⟩
theorem itoa_any (n : Nat) (w : World) (hn : n ≤ 100000) (h : P10 w) :
    Calls Tryz.prog 61 #[.int .i64 (n : Int)] w fun e w' => e = .returned (.string ⟨(Lib.decDigits n).toArray⟩) ∧ Fr nob w w' := by
  refine (Tryz.strconv_Itoa (n : Int) (by omega) (by omega) w h.tab).mono ?_
  rintro e w' ⟨rfl, k, os, rfl⟩
  refine ⟨?_, (fr_drewN k).trans' (fr_grow os)⟩
  unfold Lib.itoa
  rw [if_neg (by omega)]
  rfl
end Go.Proofs.YtlchaocpejfikaaGreatDoor

/-
  Walks of the document's bracket expressions: item. Printed by tools/ref02.py.
-/
namespace Go.Proofs.YtlchaocpejfikaaGreatDoor
open Go.RowKit

def ritV : (Int × Nat) ⊕ It → Value
  | .inl z => .tuple #[setV S4.zero, .bool false, .int .i64 0, .int .i64 z.1, .int .i64 z.2]
  | .inr x => .tuple #[setV x.set, .bool x.one.isSome, .int .i64 x.next, .int .i64 0, .int .i64 0]

theorem results_set5 {fn : Func} {p q r s' t' : Tmp} (h : fn.results = #[.cell p 24, .tmp q, .tmp r, .tmp s', .tmp t']) {tmps : Array Value} {b : Nat} (ht : tmps.getD p undef = .pointer (some ⟨b, 0, none⟩)) {u v x y : Value} (hq : tmps.getD q undef = u) (hr : tmps.getD r undef = v) (hs : tmps.getD s' undef = x) (hu : tmps.getD t' undef = y) {W : World} {s : S4}
    (hb : W.heap[b]? = some (.cells #[.int .u64 s.a, .int .u64 s.b, .int .u64 s.c, .int .u64 s.d] 24 (0, 0))) : (results fn tmps).run Tryz.prog W = .ok (.tuple #[setV s, u, v, x, y]) W := by
  have c0 := cell_at (j := 0) (v := .int .u64 s.a) hb rfl
  have c1 := cell_at (j := 1) (v := .int .u64 s.b) hb rfl
  have c2 := cell_at (j := 2) (v := .int .u64 s.c) hb rfl
  have c3 := cell_at (j := 3) (v := .int .u64 s.d) hb rfl
  have ht' : tmps[p]?.getD undef = .pointer (some ⟨b, 0, none⟩) := by rw [← ht]; simp
  have hq' : tmps[q]?.getD undef = u := by rw [← hq]; simp
  have hr' : tmps[r]?.getD undef = v := by rw [← hr]; simp
  have hs' : tmps[s']?.getD undef = x := by rw [← hs]; simp
  have hu' : tmps[t']?.getD undef = y := by rw [← hu]; simp
  simp only [results, h]
  simp [ht', hq', hr', hs', hu', go_sem, c0, c1, c2, c3]
theorem classR_lit (s : ByteArray) (o : Option (Int → Bool)) (ho : clsOf s = o) (w : World) : Calls Tryz.prog 57 #[.string s] w fun e w' => e = .returned (.tuple #[setV (clsSet o), .bool o.isSome]) ∧ Fr nob w w' := by
  subst ho; exact refClass_any s w

def RItAns (R : (Int × Nat) ⊕ It) (w : World) (e : Ending) (w' : World) : Prop := e = .returned (ritV R) ∧ Fr nob w w'
end Go.Proofs.YtlchaocpejfikaaGreatDoor

/-
  The document's answer for package show: punct, text, end.
-/
namespace Go.Proofs.YtlchaocpejfikaaGreatDoor
open Go.RowKit

theorem hasR_lit6 (s : S4) (d : Nat) (w : World) (hs : s.fit) (hd : d < 256) : Calls Tryz.prog 30 #[setV s, .int .u8 d] w fun e w' => e = .returned (.bool (s.has d)) ∧ Fr nob w w' := hasR_any s d w hs hd
set_option maxRecDepth 100000 in
theorem ref_punct (n : Nat) (w : World) (hn : n < 256) :
    Calls Tryz.prog 28 #[.int .u8 (n : Int)] w fun e w' => e = .returned (.bool (punctS.has n)) ∧ Fr nob w w' := by
  have hc := classR_lit ⟨#[112, 117, 110, 99, 116]⟩ _ rfl w
  rw [show clsSet (clsOf ⟨#[112, 117, 110, 99, 116]⟩) = punctS from rfl] at hc
  have hfit : punctS.fit := fit_clsSet _
  have hh := fun w => hasR_lit6 punctS n w hfit hn
  obtain ⟨S, hS⟩ : ∃ S, punctS = S := ⟨_, rfl⟩
  rw [hS] at hc
  simp only [hS] at hh ⊢
  have HC := Lib.hid hc; have HH := Lib.hid hh
  clear hc hh hfit hS
  go_enter Tryz.func28, Tryz.ntmps28
  go_wp2_with fail
  refine HC.out.mono ?_
  rintro e w2 ⟨rfl, f2⟩
  have hb0 := rule4 (heap_alloc_new w2 (.cells #[.int .u64 S.a, .int .u64 S.b, .int .u64 S.c, .int .u64 S.d] 24))
  have F2 := Lib.hid (f2.alloc (.cells #[.int .u64 S.a, .int .u64 S.b, .int .u64 S.c, .int .u64 S.d] 24))
  clear f2
  go_wp2_with fail
  refine (HH.out _).mono ?_
  rintro e w3 ⟨rfl, f3⟩
  have F3 := Lib.hid (F2.out.trans' f3); clear f3
  go_wp2
  go_ret
  exact ⟨rfl, F3.out⟩
set_option maxRecDepth 100000 in
theorem ref_text (n : Nat) (w : World) (hn : n < 256) :
    Calls Tryz.prog 29 #[.int .u8 (n : Int)] w fun e w' => e = .returned (.string ⟨[n.toUInt8].toArray⟩) ∧ Fr nob w w' := by
  have hcv := run_conv_one (P := Tryz.prog) Tryz.underlying52 Tryz.underlying5 Tryz.underlying9 n.toUInt8
  have hnn : ((n.toUInt8.toNat : Nat) : Int) = (n : Int) := by rw [show n.toUInt8.toNat = n from by simp; omega]
  rw [hnn] at hcv
  go_enter Tryz.func29, Tryz.ntmps29
  go_wp2
  go_ret
  exact ⟨rfl, (Fr.refl nob w).alloc _⟩
set_option maxRecDepth 100000 in
theorem ref_end (n : Nat) (w : World) (hn : n < 256) :
    Calls Tryz.prog 33 #[.int .u8 (n : Int)] w fun e w' => e = .returned (.string ⟨(insT n).toArray⟩) ∧ Fr nob w w' := by
  have HP := Lib.hid (ref_punct n w hn)
  have HT := Lib.hid (fun w' => ref_text n w' hn)
  unfold insT
  cases hc : punctS.has n with
  | true =>
    rw [hc] at HP
    rw [if_pos rfl]
    clear hc
    go_enter Tryz.func33, Tryz.ntmps33
    go_wp2_with fail
    refine HP.out.mono ?_
    rintro e w2 ⟨rfl, f2⟩
    have F2 := Lib.hid f2; clear f2
    go_wp2_with fail
    refine (HT.out _).mono ?_
    rintro e w3 ⟨rfl, f3⟩
    have F3 := Lib.hid (F2.out.trans' f3); clear f3
    go_wp2
    go_ret
    exact ⟨rfl, F3.out⟩
  | false =>
    rw [hc] at HP
    rw [if_neg (by decide)]
    clear hc
    go_enter Tryz.func33, Tryz.ntmps33
    go_wp2_with fail
    refine HP.out.mono ?_
    rintro e w2 ⟨rfl, f2⟩
    have F2 := Lib.hid f2; clear f2
    go_wp2_with fail
    refine (HT.out _).mono ?_
    rintro e w3 ⟨rfl, f3⟩
    have F3 := Lib.hid (F2.out.trans' f3); clear f3
    go_wp2
    go_ret
    exact ⟨rfl, F3.out⟩
end Go.Proofs.YtlchaocpejfikaaGreatDoor

/-
  The document's answer for package show: ends.
-/
namespace Go.Proofs.YtlchaocpejfikaaGreatDoor
open Go.RowKit

def endsB (s : S4) : Bool := (s.has 9 != s.has 10) || (s.has 11 != s.has 10)
set_option maxRecDepth 100000 in
set_option maxHeartbeats 4000000 in
theorem ref_ends (s : S4) (w : World) (hs : s.fit) :
    Calls Tryz.prog 31 #[setV s] w fun e w' => e = .returned (.bool (endsB s)) ∧ Fr nob w w' := by
  obtain ⟨w1, hw1⟩ : ∃ w1, w1 = w.alloc (.cells #[.int .u64 s.a, .int .u64 s.b, .int .u64 s.c, .int .u64 s.d] 24) := ⟨_, rfl⟩
  have hz1 : w1.heap[w.heap.size]? = some (.cells #[.int .u64 s.a, .int .u64 s.b, .int .u64 s.c, .int .u64 s.d] 24 (0, 0)) := by rw [hw1]; exact newAt _ _
  have f1 : Fr nob w w1 := by rw [hw1]; exact (Fr.refl _ _).alloc _
  have hh := fun d (hd : d < 256) w' => hasR_lit6 s d w' hs hd
  have h9 := Lib.hid (hh 9 (by decide)); have h10 := Lib.hid (hh 10 (by decide)); have h11 := Lib.hid (hh 11 (by decide))
  have r1 := rule4 hz1
  have rk := fun d os => rule4 hz1 _ (grown_fr w1 d os)
  have HW1 := Lib.hid hw1; have F1 := Lib.hid f1; have HZ := Lib.hid hz1
  unfold endsB
  obtain ⟨x9, hx9⟩ : ∃ x, s.has 9 = x := ⟨_, rfl⟩
  obtain ⟨x10, hx10⟩ : ∃ x, s.has 10 = x := ⟨_, rfl⟩
  obtain ⟨x11, hx11⟩ : ∃ x, s.has 11 = x := ⟨_, rfl⟩
  rw [hx9] at h9 ⊢
  rw [hx10] at h10 ⊢
  rw [hx11] at h11 ⊢
  clear hh hx9 hx10 hx11 hw1 f1 hz1 hs
  have g9 : ∀ w', Calls Tryz.prog 30 #[.agg #[.int .u64 s.a, .int .u64 s.b, .int .u64 s.c, .int .u64 s.d], .int .u8 9] w' fun e w'' => e = .returned (.bool x9) ∧ Fr nob w' w'' := h9.out
  have g10 : ∀ w', Calls Tryz.prog 30 #[.agg #[.int .u64 s.a, .int .u64 s.b, .int .u64 s.c, .int .u64 s.d], .int .u8 10] w' fun e w'' => e = .returned (.bool x10) ∧ Fr nob w' w'' := h10.out
  have g11 : ∀ w', Calls Tryz.prog 30 #[.agg #[.int .u64 s.a, .int .u64 s.b, .int .u64 s.c, .int .u64 s.d], .int .u8 11] w' fun e w'' => e = .returned (.bool x11) ∧ Fr nob w' w'' := h11.out
  have G9 := Lib.hid g9; have G10 := Lib.hid g10; have G11 := Lib.hid g11
  clear g9 g10 g11 h9 h10 h11
  rw [show (x9 != x10) = (!(x9 == x10)) from rfl]
  cases hne : (!(x9 == x10)) with
  | true =>
    rw [Bool.true_or]
    go_enter Tryz.func31, Tryz.ntmps31
    go_wp2_with (rw [← HW1.out])
    refine region_fr 9 (by kernel_rfl) (by kernel_rfl) ?_
    simp only [List.take_succ_cons, List.take_zero, List.drop_succ_cons, List.drop_zero]
    repeat (quiet_step (first | (with_reducible exact calls_fr (G9.out _)) | (with_reducible exact calls_fr (G10.out _)) | (with_reducible exact calls_fr (G11.out _))))
    refine wpQuiet_nil ?_
    intro w2 f2
    have F2 := Lib.hid (F1.out.trans' f2); clear f2
    go_wp2
    go_ret
    exact ⟨rfl, F2.out⟩
  | false =>
    rw [Bool.false_or]
    go_enter Tryz.func31, Tryz.ntmps31
    go_wp2_with (rw [← HW1.out])
    refine region_fr 9 (by kernel_rfl) (by kernel_rfl) ?_
    simp only [List.take_succ_cons, List.take_zero, List.drop_succ_cons, List.drop_zero]
    repeat (quiet_step (first | (with_reducible exact calls_fr (G9.out _)) | (with_reducible exact calls_fr (G10.out _)) | (with_reducible exact calls_fr (G11.out _))))
    refine wpQuiet_nil ?_
    intro w2 f2
    have F2 := Lib.hid (F1.out.trans' f2); clear f2
    go_wp2_with fail
    refine (G10.out _).mono ?_
    rintro e w3 ⟨rfl, f3⟩
    have F3 := Lib.hid (F2.out.trans' f3); clear f3
    go_wp2
    go_ret
    exact ⟨rfl, F3.out⟩
end Go.Proofs.YtlchaocpejfikaaGreatDoor

/-
  The document's text of a set is the program's. Plain.
-/
namespace Go.Proofs.YtlchaocpejfikaaGreatDoor
open Go.RowKit

/-- The byte A begins or ends a span: it is in the set, and one beside it isn't. -/
theorem endB_spl (p : Nat → Bool) : endB (spl p 256) = (p 10 && (!p 9 || !p 11)) := by
  have g := spl_good p 256
  rw [Bool.eq_iff_iff]
  unfold endB
  rw [List.any_eq_true]
  constructor
  · rintro ⟨x, hx, h⟩
    have hi := g.in_ x hx
    have hc : ∀ e, x.1 ≤ e → e ≤ x.2 → p e = true := fun e h1 h2 => (g.cov e (by omega)).2 ⟨x, hx, h1, h2⟩
    -- what stands right ahead of a span, or behind it, is in none
    have hno : ∀ e, (e + 1 = x.1 ∨ e = x.2 + 1) → e < 256 → p e = false := fun e he h256 => by
      cases hp : p e with
      | false => rfl
      | true =>
        obtain ⟨y, hy, h1, h2⟩ := (g.cov e h256).1 hp
        obtain ⟨i, hi', rfl⟩ := List.getElem_of_mem hx
        obtain ⟨j, hj, rfl⟩ := List.getElem_of_mem hy
        have hp := List.pairwise_iff_getElem.1 g.gap
        rcases Nat.lt_trichotomy i j with hij | rfl | hij
        · have := hp i j hi' hj hij; omega
        · omega
        · have := hp j i hj hi' hij; have := g.in_ _ hy; omega
    simp only [Bool.or_eq_true, beq_iff_eq] at h
    rw [Bool.and_eq_true, Bool.or_eq_true]
    rcases h with h | h
    · refine ⟨hc 10 (by omega) (by omega), .inl ?_⟩
      rw [hno 9 (by omega) (by omega)]; rfl
    · refine ⟨hc 10 (by omega) (by omega), .inr ?_⟩
      rw [hno 11 (by omega) (by omega)]; rfl
  · intro h
    rw [Bool.and_eq_true, Bool.or_eq_true] at h
    obtain ⟨h10, h⟩ := h
    obtain ⟨x, hx, h1, h2⟩ := (g.cov 10 (by omega)).1 h10
    have hi := g.in_ x hx
    have hc : ∀ e, x.1 ≤ e → e ≤ x.2 → p e = true := fun e h1 h2 => (g.cov e (by omega)).2 ⟨x, hx, h1, h2⟩
    refine ⟨x, hx, ?_⟩
    simp only [Bool.or_eq_true, beq_iff_eq]
    rcases h with h | h
    · left
      by_cases hx1 : x.1 = 10
      · exact hx1
      · rw [hc 9 (by omega) (by omega)] at h; cases h
    · right
      by_cases hx2 : x.2 = 10
      · exact hx2
      · rw [hc 11 (by omega) (by omega)] at h; cases h
/-- What the document tells. -/
theorem setT_ref {s : S4} (hs : s.fit) (h256 : s.len ≠ 256) (h1 : s.len ≠ 1) (o : Bool) (ho : decide (128 < s.len ∨ s.len = 0) = o) :
    setT s = brkT (if ((o != s.has 10) && endsB s) = true then !o else o) (if (if ((o != s.has 10) && endsB s) = true then !o else o) = true then s.not else s) := by
  unfold setT
  rw [if_neg h256, if_neg h1]
  simp only
  rw [ho, endB_spl]
  unfold endsB
  cases o with
  | true =>
    simp only [if_true, has_not]
    cases h9 : s.has 9 <;> cases h10 : s.has 10 <;> cases h11 : s.has 11 <;> simp [S4.not_not hs]
  | false =>
    simp only [Bool.false_eq_true, if_false]
    cases h9 : s.has 9 <;> cases h10 : s.has 10 <;> cases h11 : s.has 11 <;> simp
end Go.Proofs.YtlchaocpejfikaaGreatDoor

/-
  Walks of the document's bracket expressions: item, behind a sign. Printed by tools/ref02b.py.
-/
namespace Go.Proofs.YtlchaocpejfikaaGreatDoor
open Go.RowKit

end Go.Proofs.YtlchaocpejfikaaGreatDoor

/-
  Walks of the document's bracket expressions: item, least.
-/
namespace Go.Proofs.YtlchaocpejfikaaGreatDoor
open Go.RowKit

theorem spl_one {p : Nat → Bool} {c : Nat} (hp : ∀ e, e < 256 → p e = decide (e = c)) : ∀ k, k ≤ 256 → spl p k = if c < k then [(c, c)] else []
  | 0, _ => by simp [spl]
  | k + 1, hk => by
    have ih := spl_one hp k (by omega)
    have h1 := hp k (by omega)
    rw [spl, h1]
    by_cases hc : k = c
    · subst hc
      have ho : opn p k = false := by
        cases k with
        | zero => rfl
        | succ j => rw [opn, hp j (by omega)]; simp
      simp [ho, ih]
    · rw [if_neg (by simpa using hc), ih]
      by_cases hlt : c < k
      · rw [if_pos hlt, if_pos (by omega)]
      · rw [if_neg hlt, if_neg (by omega)]
theorem spl_spn {c : Nat} (hc : c < 256) : spl (spn c c).has 256 = [(c, c)] := by
  rw [spl_one (c := c) (fun e he => ?_) 256 (Nat.le_refl _), if_pos hc]
  rw [has_spn _ _ _ hc hc he, Bool.eq_iff_iff]
  simp; omega

end Go.Proofs.YtlchaocpejfikaaGreatDoor

/-
  Walks of both Parses where the place is out of the text.
-/
namespace Go.Proofs.YtlchaocpejfikaaGreatDoor
open Go.RowKit

def OutAns (w : World) (e : Ending) (w' : World) : Prop := e = .returned (.tuple #[setV S4.zero, .int .i64 0, .int .i64 1]) ∧ Fr nob w w'

theorem results_setR3 {fn : Func} {p q r : Tmp} (h : fn.results = #[.cell p 24, .tmp q, .tmp r]) {tmps : Array Value} {b : Nat} (ht : tmps.getD p undef = .pointer (some ⟨b, 0, none⟩)) {u v : Value} (hq : tmps.getD q undef = u) (hr : tmps.getD r undef = v) {W : World} {s : S4}
    (hb : W.heap[b]? = some (.cells #[.int .u64 s.a, .int .u64 s.b, .int .u64 s.c, .int .u64 s.d] 24 (0, 0))) : (results fn tmps).run Tryz.prog W = .ok (.tuple #[setV s, u, v]) W := by
  have c0 := cell_at (j := 0) (v := .int .u64 s.a) hb rfl
  have c1 := cell_at (j := 1) (v := .int .u64 s.b) hb rfl
  have c2 := cell_at (j := 2) (v := .int .u64 s.c) hb rfl
  have c3 := cell_at (j := 3) (v := .int .u64 s.d) hb rfl
  have ht' : tmps[p]?.getD undef = .pointer (some ⟨b, 0, none⟩) := by rw [← ht]; simp
  have hq' : tmps[q]?.getD undef = u := by rw [← hq]; simp
  have hr' : tmps[r]?.getD undef = v := by rw [← hr]; simp
  simp only [results, h]
  simp [ht', hq', hr', go_sem, c0, c1, c2, c3]

set_option maxRecDepth 100000 in
set_option maxHeartbeats 2000000 in
theorem parse_out (l : List UInt8) (a : Int) (w : World) (h : a < 0 ∨ (l.length : Int) < a) :
    Calls Tryz.prog 114 #[.string ⟨l.toArray⟩, .int .i64 a] w (OutAns w) := by
  obtain ⟨w0, hw0⟩ : ∃ w0, w0 = w.alloc (.cells #[.int .u64 0, .int .u64 0, .int .u64 0, .int .u64 0] 27) := ⟨_, rfl⟩
  have hz : w0.heap[w.heap.size]? = some (.cells #[.int .u64 0, .int .u64 0, .int .u64 0, .int .u64 0] 27 (0, 0)) := by rw [hw0]; exact newAt _ _
  have F := Lib.hid (show Fr nob w w0 by rw [hw0]; exact (Fr.refl _ _).alloc _)
  have rz := rule4 hz
  have HZ := Lib.hid hz; have HW := Lib.hid hw0; clear hz hw0
  by_cases h0 : a < 0
  · clear h
    go_enter Tryz.func114, Tryz.ntmps114
    iterate 14 go_step
    rw [← HW.out]
    go_wp2
    (try simp only [Exit.inBlock, Exit.then])
    refine bodyPost_ret (results_set3 (s := S4.zero) (by rfl) (by rfl) (by rfl) (by rfl) (setFour_heap HZ.out _ _ _ _)) rfl ⟨?_, setFour_frS F.out (Nat.le_refl _) _ _ _ _⟩
    rfl
  · have h1 : (l.length : Int) < a := h.resolve_left h0
    clear h
    go_enter Tryz.func114, Tryz.ntmps114
    iterate 14 go_step
    rw [← HW.out]
    go_wp2
    (try simp only [Exit.inBlock, Exit.then])
    refine bodyPost_ret (results_set3 (s := S4.zero) (by rfl) (by rfl) (by rfl) (by rfl) (setFour_heap HZ.out _ _ _ _)) rfl ⟨?_, setFour_frS F.out (Nat.le_refl _) _ _ _ _⟩
    rfl

end Go.Proofs.YtlchaocpejfikaaGreatDoor

/-
  Walks of the document's Parse. Printed by tools/rparse02.py.
-/
namespace Go.Proofs.YtlchaocpejfikaaGreatDoor
open Go.RowKit

theorem stop_seq {P : Program} {Q : Exit → Act → World → Prop} {a : Act} {w : World} {ops : Array Oper} {b : Bool} {c : Code} (n : Nat) (h : ∀ X : Prop, Hid (((Code.region n ops b).seq c).wp P Q a w → X) → X) : ((Code.region n ops b).seq c).wp P Q a w := h _ (Lib.hid id)
abbrev AtR (w : World) (b : Nat) (s : S4) : Prop := w.heap[b]? = some (.cells #[.int .u64 s.a, .int .u64 s.b, .int .u64 s.c, .int .u64 s.d] 24 (0, 0))
def RS (l : List UInt8) (F : (Int × Nat) ⊕ (S4 × Nat)) (fst : Bool) (n k : Nat) (acc : S4) : Prop :=
  if fst then acc = S4.zero ∧ n = l.length + 2 ∧ lopF l (l.length + 1) (prt l k) = F else lop l n k acc = F
theorem orF_zero {l : List UInt8} {k : Nat} : orF S4.zero (prt l k) = prt l k := by
  cases h : prt l k with
  | inl z => rfl
  | inr x => have := (prt_next h).2.2; simp only [orF]; rw [zero_or this]
theorem RS.go {l : List UInt8} {F : (Int × Nat) ⊕ (S4 × Nat)} {fst : Bool} {m k : Nat} {acc : S4} (h : RS l F fst (m + 1) k acc) (hg : fst = true ∨ l[k]? ≠ some 93) : lopF l m (orF acc (prt l k)) = F := by
  unfold RS at h
  cases fst with
  | true =>
    simp only [if_true] at h
    obtain ⟨rfl, h1, h2⟩ := h
    obtain rfl : m = l.length + 1 := by omega
    rw [orF_zero]; exact h2
  | false =>
    rw [if_neg (by simp)] at h
    rw [← h]
    exact (lop_go (hg.resolve_left (by simp))).symm
theorem RS.halt {l : List UInt8} {F : (Int × Nat) ⊕ (S4 × Nat)} {m k : Nat} {acc : S4} (h : RS l F false (m + 1) k acc) (hg : l[k]? = some 93) : F = .inr (acc, k) := by
  unfold RS at h
  rw [if_neg (by simp)] at h
  rw [← h]; exact lop_end hg
theorem itmN_err {l : List UInt8} {a : Nat} {k : UInt8} {z : Int × Nat} (h : itmN l a k = .inl z) : z.1 ≠ 0 := by
  unfold itmN at h
  split at h
  · injection h with h; subst h; simp
  · split at h
    · split at h
      · injection h with h; subst h; simp
      · cases h
    · split at h
      · cases h
      · injection h with h; subst h; simp
theorem itm_err {l : List UInt8} {a : Nat} {z : Int × Nat} (h : itm l a = .inl z) : z.1 ≠ 0 := by
  unfold itm at h
  split at h
  · injection h with h; subst h; simp
  · split at h
    · cases h
    · split at h
      · exact itmN_err h
      · cases h
theorem RS.next {l : List UInt8} {F : (Int × Nat) ⊕ (S4 × Nat)} {m k p : Nat} {acc s : S4} (h : lopF l m (orF acc (prt l k)) = F) (hn : lopN l m (orF acc (prt l k))) (hp : prt l k = .inr (s, p)) :
    RS l F false m p (acc.or s) ∧ p ≤ l.length ∧ l.length < m + p := by
  rw [hp] at h hn
  refine ⟨?_, hn _ rfl⟩
  unfold RS
  rw [if_neg (by simp)]
  exact h
theorem RS.bad {l : List UInt8} {F : (Int × Nat) ⊕ (S4 × Nat)} {m k : Nat} {acc : S4} {z : Int × Nat} (h : lopF l m (orF acc (prt l k)) = F) (hp : prt l k = .inl z) : F = .inl z := by
  rw [← h, hp]; rfl
theorem rng_yes {l : List UInt8} {k : Nat} (h : rng l k = true) : ∃ h : k + 1 < l.length, l[k] = 45 ∧ l[k + 1] ≠ 93 := by
  unfold rng at h
  simp only [Bool.and_eq_true, decide_eq_true_eq, beq_iff_eq, Bool.not_eq_true', beq_eq_false_iff_ne] at h
  obtain ⟨⟨h1, h2⟩, h3⟩ := h
  exact ⟨h1, (List.getElem?_eq_some_iff.1 h2).2, fun e => h3 (by rw [List.getElem?_eq_getElem h1, e])⟩
theorem rng_no {l : List UInt8} {k : Nat} (h : rng l k = false) : l.length ≤ k + 1 ∨ (∃ h : k + 1 < l.length, l[k] ≠ 45) ∨ ∃ h : k + 1 < l.length, l[k] = 45 ∧ l[k + 1] = 93 := by
  by_cases h1 : k + 1 < l.length
  · by_cases h2 : l[k] = 45
    · by_cases h3 : l[k + 1] = 93
      · exact .inr (.inr ⟨h1, h2, h3⟩)
      · exfalso
        unfold rng at h
        rw [List.getElem?_eq_getElem h1, List.getElem?_eq_getElem (by omega : k < l.length)] at h
        simp [h1, h2, h3] at h
    · exact .inr (.inl ⟨h1, h2⟩)
  · exact .inl (by omega)
def PAns (R : (Int × Nat) ⊕ (S4 × Nat)) (w : World) (e : Ending) (w' : World) : Prop := e = .returned (prsV R) ∧ Fr nob w w'
abbrev RInv (l : List UInt8) (w : World) (F : (Int × Nat) ⊕ (S4 × Nat)) (n : Nat) (v1 v10 : Value) (wr : World) : Prop :=
  ∃ (k : Nat) (acc : S4) (fst : Bool), v1 = .int .i64 k ∧ v10 = .bool fst ∧ AtR wr (w.heap.size + 1) acc ∧ AtR wr w.heap.size S4.zero ∧ AtR wr (w.heap.size + 2) S4.zero ∧ Fr nob w wr ∧ acc.fit ∧ k ≤ l.length ∧ l.length < n + k ∧ RS l F fst n k acc

end Go.Proofs.YtlchaocpejfikaaGreatDoor

/-
  Bracket expressions in plain words: an error is never 0; how far Parse goes. No walk.
-/
namespace Go.Proofs.YtlchaocpejfikaaGreatDoor
open Go.RowKit

theorem prt_err {l : List UInt8} {a : Nat} {z : Int × Nat} (h : prt l a = .inl z) : z.1 ≠ 0 := by
  unfold prt at h
  split at h
  · next e he => injection h with h; subst h; exact itm_err he
  · split at h
    · split at h
      · next e he => injection h with h; subst h; exact itm_err he
      · split at h
        · split at h
          · cases h
          · injection h with h; subst h; simp
        · injection h with h; subst h; simp
    · cases h
theorem lop_err {l : List UInt8} : ∀ {n a : Nat} {o : S4} {z : Int × Nat}, a ≤ l.length → l.length < n + a → lop l n a o = .inl z → z.1 ≠ 0
  | 0, a, _, _, h, h', _ => by omega
  | n + 1, a, o, z, h, h', hz => by
    rw [lop] at hz
    split at hz
    · cases hz
    · cases hp : prt l a with
      | inl y => rw [hp] at hz; injection hz with hz; subst hz; exact prt_err hp
      | inr x => rw [hp] at hz; have := prt_next hp; exact lop_err this.2.1 (by omega) hz
theorem prs_err {l : List UInt8} {a : Nat} {z : Int × Nat} (h : prs l a = .inl z) : z.1 ≠ 0 := by
  have key : ∀ b d, ends d (bod l b) = .inl z → z.1 ≠ 0 := by
    intro b d hb
    unfold bod at hb
    cases hp : prt l b with
    | inl y => rw [hp] at hb; injection hb with hb; subst hb; exact prt_err hp
    | inr x =>
      rw [hp] at hb
      simp only at hb
      cases hq : lop l (l.length + 1) x.2 x.1 with
      | inl y => rw [hq] at hb; injection hb with hb; subst hb; have := prt_next hp; exact lop_err this.2.1 (by omega) hq
      | inr y => rw [hq] at hb; cases hb
  by_cases hc : l[a]? = some 94
  · rw [prs_t hc] at h; exact key _ _ h
  · rw [prs_f hc] at h; exact key _ _ h
theorem prs_in {l : List UInt8} {a : Nat} {y : S4 × Nat} (h : prs l a = .inr y) : y.1.fit ∧ a < y.2 ∧ y.2 ≤ l.length := by
  have key : ∀ b d, ends d (bod l b) = .inr y → y.1.fit ∧ b < y.2 ∧ y.2 ≤ l.length := by
    intro b d hb
    unfold bod at hb
    cases hp : prt l b with
    | inl z => rw [hp] at hb; cases hb
    | inr x =>
      rw [hp] at hb
      simp only at hb
      cases hq : lop l (l.length + 1) x.2 x.1 with
      | inl z => rw [hq] at hb; cases hb
      | inr z =>
        rw [hq] at hb; injection hb with hb; subst hb
        have h1 := prt_next hp
        have h2 := lop_next h1.2.2 hq
        refine ⟨?_, by simp only; omega, by simp only; omega⟩
        cases d
        · exact h2.2.2
        · exact fit_not _
  by_cases hc : l[a]? = some 94
  · rw [prs_t hc] at h; have := key _ _ h; exact ⟨this.1, by omega, this.2.2⟩
  · rw [prs_f hc] at h; exact key _ _ h
end Go.Proofs.YtlchaocpejfikaaGreatDoor

/-
  A regex of either kind in plain words, by the signs that stand in it. No walk.
-/
namespace Go.Proofs.YtlchaocpejfikaaGreatDoor
open Go.RowKit

/-- The sign that stands at a place. -/
def sgn (l : List UInt8) (k : Nat) : List UInt8 := match l[k]? with
  | none => []
  | some b => if b = 92 then (match l[k + 1]? with | none => [92] | some c => [92, c]) else [b]
def opB (ere : Bool) (b : UInt8) : List UInt8 := if ere then [b] else [92, b]
def dnum (l : List UInt8) (k : Nat) : Nat × Nat := if 255 < (num3 (l.drop k) 0 0).1 then (0, 0) else num3 (l.drop k) 0 0
def ditv (l : List UInt8) (ere : Bool) (k : Nat) : Option (Int × Int × Nat) :=
  let m := dnum l k
  if m.2 = 0 then none
  else
    let k1 := k + m.2
    let x := dnum l (k1 + 1)
    let n : Int := if ahd l k1 [44] then (if 0 < x.2 then (x.1 : Int) else -1) else m.1
    let k2 := if ahd l k1 [44] then k1 + 1 + (if 0 < x.2 then x.2 else 0) else k1
    if ahd l k2 (opB ere 125) = false ∨ (0 ≤ n ∧ n < m.1) then none else some ((m.1 : Int), n, k2 + (opB ere 125).length)

theorem sgn_out {l : List UInt8} {k : Nat} (h : l.length ≤ k) : sgn l k = [] := by unfold sgn; rw [List.getElem?_eq_none h]
theorem sgn_two {l : List UInt8} {k : Nat} (h : k + 1 < l.length) (hb : l[k] = 92) : sgn l k = [92, l[k + 1]] := by
  unfold sgn; rw [List.getElem?_eq_getElem (by omega : k < l.length)]; simp only; rw [hb, if_pos rfl, List.getElem?_eq_getElem h]
theorem sgn_last {l : List UInt8} {k : Nat} (h : k < l.length) (h2 : l.length ≤ k + 1) : sgn l k = [l[k]] := by
  unfold sgn; rw [List.getElem?_eq_getElem h]; simp only; rw [List.getElem?_eq_none h2]; split
  · next hb => rw [hb]
  · rfl
theorem sgn_one {l : List UInt8} {k : Nat} (h : k < l.length) (hb : l[k] ≠ 92) : sgn l k = [l[k]] := by
  unfold sgn; rw [List.getElem?_eq_getElem h]; simp only; rw [if_neg hb]
theorem sgn_len (l : List UInt8) (k : Nat) : (sgn l k).length ≤ 2 ∧ k + (sgn l k).length ≤ max k l.length := by
  unfold sgn
  cases hk : l[k]? with
  | none => simp; omega
  | some b =>
    have := (List.getElem?_eq_some_iff.1 hk).1
    simp only
    split
    · cases hk2 : l[k + 1]? with
      | none => simp; omega
      | some c => have := (List.getElem?_eq_some_iff.1 hk2).1; simp; omega
    · simp; omega


section
variable {α : Type} (A : Alg α) (ere : Bool) (l : List UInt8)
/-- The repetitions of an atom. -/
def repD : Nat → RxS → α → Out α
  | 0, s, t => .inr (t, s)
  | n + 1, s, t =>
    if sgn l s.at_ == [42] then repD n (s.go 1) (A.rep t 0 (-1))
    else if sgn l s.at_ == opB ere 43 then repD n ((if ere then s else s.mark [92, 43]).go (opB ere 43).length) (A.rep t 1 (-1))
    else if sgn l s.at_ == opB ere 63 then repD n ((if ere then s else s.mark [92, 63]).go (opB ere 63).length) (A.rep t 0 1)
    else if sgn l s.at_ == opB ere 123 then
      match ditv l ere (s.at_ + (opB ere 123).length) with
      | none => .inl (7, s.at_)
      | some (m, x, k) => repD n (s.to k) (A.rep t m x)
    else .inr (t, s)
/-- A backslash, and the byte behind it, that make an atom. -/
def escD (s : RxS) (b : UInt8) : Out α :=
  if 49 ≤ b.toNat ∧ b.toNat ≤ 57 then
    (if s.closed.contains (b.toNat - 48) then .inr (A.back ((b.toNat - 48 : Nat) : Int), (if ere then s.mark [92, b] else s).go 2) else .inl (9, s.at_))
  else
    match escB b with
    | none => .inl (2, s.at_)
    | some (c, m) => .inr (A.one c, (if m then s.mark [92, b] else s).go 2)
/-- A group: 'C' reads what stands in it; none: too deep. -/
def groupD (C : Option (RxS → Out α)) (s : RxS) : Out α :=
  match C with
  | none => .inl (4, s.at_)
  | some f =>
    match f { s.go (opB ere 40).length with opened := s.opened + 1 } with
    | .inl e => .inl e
    | .inr (t, s') =>
      if sgn l s'.at_ == opB ere 41 then .inr (A.group ((s.opened + 1 : Nat) : Int) t, { s'.go (opB ere 40).length with closed := s'.closed ++ [s.opened + 1] })
      else .inl (8, s.at_)
/-- An atom. -/
def atomD (C : Option (RxS → Out α)) (s : RxS) : Out α :=
  if sgn l s.at_ == opB ere 40 then groupD A ere l C s
  else if sgn l s.at_ == opB ere 41 then .inl (8, s.at_)
  else if sgn l s.at_ == [91] then
    match prs l (s.at_ + 1) with
    | .inl (e, p) => .inl (e, p)
    | .inr (c, k) => .inr (A.one c, s.to k)
  else if sgn l s.at_ == [46] then .inr (A.one (spn 0 255), s.go 1)
  else if sgn l s.at_ == [92] then .inl (11, s.at_)
  else
    match sgn l s.at_ with
    | [] => .inl (2, s.at_)
    | [b] => .inr (A.one (spn b.toNat b.toNat), s.go 1)
    | _ :: b :: _ => escD A ere s b
/-- Does a branch end at a place? -/
def endsD (inner : Bool) (k : Nat) : Bool := sgn l k == [] || (sgn l k == opB ere 124 || (sgn l k == opB ere 41 && (inner || !ere)))
/-- A branch's parts, from a place on; 'first': it begins there. -/
def brD (C : Option (RxS → Out α)) (inner : Bool) : Nat → Bool → Bool → RxS → List α → Out α
  | 0, _, _, s, ps => .inr (A.join ps, s)
  | n + 1, first, front, s, ps =>
    if sgn l s.at_ == [] || (sgn l s.at_ == opB ere 124 || (sgn l s.at_ == opB ere 41 && inner)) then .inr (A.join ps, s)
    else if sgn l s.at_ == [94] && (ere || first) then brD C inner n false true (s.go 1) (ps ++ [A.start])
    else if sgn l s.at_ == [36] && (ere || endsD ere l inner (s.at_ + 1)) then brD C inner n false true (s.go 1) (ps ++ [A.fin])
    else if front && (sgn l s.at_ == opB ere 123 || (sgn l s.at_ == opB ere 43 || (sgn l s.at_ == opB ere 63 || (ere && sgn l s.at_ == [42])))) then .inl (10, s.at_)
    else
      match atomD A ere l C s with
      | .inl e => .inl e
      | .inr (t, s1) =>
        match repD A ere l (l.length + 1) s1 t with
        | .inl e => .inl e
        | .inr (t, s2) => brD C inner n false false s2 (ps ++ [t])
def branchD (C : Option (RxS → Out α)) (inner : Bool) (s : RxS) : Out α := brD A ere l C inner (if sgn l s.at_ == [94] then l.length + 2 else l.length + 1) true true s []
/-- Branches, from the second on. -/
def chLoopD (C : Option (RxS → Out α)) (inner : Bool) : Nat → RxS → List α → Out α
  | 0, s, ts => .inr (A.choose ts, s)
  | n + 1, s, ts =>
    if sgn l s.at_ == opB ere 124 then
      match branchD A ere l C inner ((if ere then s else s.mark [92, 124]).go (opB ere 124).length) with
      | .inl e => .inl e
      | .inr (t, s') => chLoopD C inner n s' (ts ++ [t])
    else .inr (A.choose ts, s)
def choiceD (C : Option (RxS → Out α)) (inner : Bool) (s : RxS) : Out α :=
  match branchD A ere l C inner s with
  | .inl e => .inl e
  | .inr (t, s') => chLoopD A ere l C inner (l.length + 1) s' [t]
def chD : Nat → RxS → Out α
  | 0 => choiceD A ere l none true
  | n + 1 => choiceD A ere l (some (chD n)) (decide (n + 1 < 12))
def parseD : Out α := if 250 < l.length then .inl (3, 250) else chD A ere l 12 ⟨0, 0, [], []⟩
end

/-! ### A basic one: the same as by what stands ahead -/
theorem sgn_hd {l : List UInt8} {k : Nat} {c : UInt8} (hc : c ≠ 92) : (sgn l k == [c]) = ahd l k [c] := by
  unfold sgn ahd
  cases h : l[k]? with
  | none => rw [List.drop_eq_nil_of_le (by simpa using h)]; rfl
  | some b =>
    obtain ⟨hk, hb⟩ := List.getElem?_eq_some_iff.1 h
    rw [List.drop_eq_getElem_cons hk, hb]
    by_cases h92 : b = 92
    · subst h92
      have e : ([c].isPrefixOf (92 :: l.drop (k + 1))) = false := by simp [List.isPrefixOf, hc]
      rw [e]
      simp only [if_true]
      cases l[k + 1]? with
      | none => simp [Ne.symm hc]
      | some d => simp
    · simp only [if_neg h92]
      simp [List.isPrefixOf, BEq.comm (a := c)]
theorem sgn_bs {l : List UInt8} {k : Nat} {c : UInt8} : (sgn l k == [92, c]) = ahd l k [92, c] := by
  unfold sgn ahd
  cases h : l[k]? with
  | none => rw [List.drop_eq_nil_of_le (by simpa using h)]; rfl
  | some b =>
    obtain ⟨hk, hb⟩ := List.getElem?_eq_some_iff.1 h
    rw [List.drop_eq_getElem_cons hk, hb]
    by_cases h92 : b = 92
    · subst h92
      simp only [if_true]
      cases h2 : l[k + 1]? with
      | none => rw [List.drop_eq_nil_of_le (by simpa using h2)]; simp [List.isPrefixOf]
      | some d =>
        obtain ⟨hk2, hd⟩ := List.getElem?_eq_some_iff.1 h2
        rw [List.drop_eq_getElem_cons hk2, hd]
        simp [List.isPrefixOf, BEq.comm (a := c)]
    · simp only [if_neg h92]
      simp [List.isPrefixOf, Ne.symm h92]
theorem sgn_nil {l : List UInt8} {k : Nat} : (sgn l k == []) = decide (l.length ≤ k) := by
  by_cases h : l.length ≤ k
  · rw [sgn_out h]; simp [h]
  · have hk : k < l.length := by omega
    unfold sgn
    rw [List.getElem?_eq_getElem hk]
    simp only [h, decide_false]
    split
    · cases l[k + 1]? <;> rfl
    · rfl
section
variable {α : Type} {A : Alg α} {l : List UInt8}
theorem opB_bre (b : UInt8) : opB false b = [92, b] := rfl
theorem opB_ere (b : UInt8) : opB true b = [b] := rfl
theorem num3_pos {r : List UInt8} {x d : Nat} (h : num3 r 0 0 = (x, d)) (hx : 0 < x) : ∃ b t, r = b :: t ∧ 48 ≤ b.toNat ∧ b.toNat ≤ 57 := by
  cases r with
  | nil => rw [num3] at h; injection h with h1 h2; omega
  | cons b t =>
    rw [num3] at h
    split at h
    · next hb => exact ⟨b, t, rfl, hb.1, hb.2.1⟩
    · injection h with h1 h2; omega
theorem num3_ge : ∀ (r : List UInt8) (c n : Nat), c ≤ (num3 r c n).2
  | [], c, n => Nat.le_refl _
  | b :: r, c, n => by
    rw [num3]
    split
    · exact Nat.le_trans (Nat.le_succ c) (num3_ge r (c + 1) _)
    · exact Nat.le_refl _
theorem itv_bre (k : Nat) : ditv l false k = itvB l k := by
  unfold ditv itvB dnum
  simp only [opB_bre]
  obtain ⟨m, c, hm⟩ : ∃ m c, num3 (l.drop k) 0 0 = (m, c) := ⟨_, _, rfl⟩
  rw [hm]
  by_cases h255 : 255 < m
  · simp only [if_pos h255, if_true]
    by_cases hc : c = 0
    · simp [hc]
    · simp [hc, h255]
  · simp only [if_neg h255]
    by_cases hc : c = 0
    · simp [hc]
    · simp only [hc, if_false]
      cases ha : ahd l (k + c) [44] with
      | false =>
        simp only [Bool.false_eq_true, if_false]
        have e1 : ¬ ((0 : Int) ≤ (m : Int) ∧ (m : Int) < (m : Int)) := by omega
        have e2 : ¬ (255 : Int) < (m : Int) := by omega
        simp [e1, e2, h255]
      | true =>
        simp only [if_true]
        obtain ⟨x, d, hx⟩ : ∃ x d, num3 (l.drop (k + c + 1)) 0 0 = (x, d) := ⟨_, _, rfl⟩
        rw [hx]
        have e0 : ¬ (255 : Int) < (m : Int) := by omega
        by_cases h2 : 255 < x
        · obtain ⟨b, t, ht, hb1, hb2⟩ := num3_pos hx (by omega)
          have hn : ahd l (k + c + 1) [92, 125] = false := by
            unfold ahd; rw [ht]; simp only [List.isPrefixOf, Bool.and_eq_false_iff]
            exact .inl (by simp only [beq_eq_false_iff_ne, ne_eq]; rintro rfl; simp at hb2)
          have hd : d ≠ 0 := by
            intro h0; subst h0
            rw [ht, num3, if_pos ⟨hb1, hb2, by decide⟩] at hx
            have := num3_ge t 1 (0 * 10 + (b.toNat - 48))
            rw [hx] at this; simp at this
          have e1 : (255 : Int) < (x : Int) := by omega
          simp [h2, hn, hd, e1]
        · simp only [if_neg h2]
          by_cases hd : d = 0
          · subst hd; simp [h255]
          · have hd' : 0 < d := by omega
            have e1 : ¬ (255 : Int) < (x : Int) := by omega
            simp [hd, hd', h255, h2, e0, e1]
theorem ahd_two {k : Nat} {c d : UInt8} (h : ahd l k [92, c] = true) (hd : d ≠ 92) : ahd l k [d] = false := by
  rw [← sgn_hd hd]
  rw [← sgn_bs] at h
  rw [eq_of_beq h]; simp
theorem ahd_not {k : Nat} {c d : UInt8} (h : ahd l k [92, c] = true) (hd : d ≠ c) : ahd l k [92, d] = false := by
  rw [← sgn_bs] at h ⊢
  rw [eq_of_beq h]; simpa using fun e => hd e.symm
theorem rep_bre : ∀ (n : Nat) (s : RxS) (t : α), repD A false l n s t = repS A l n s t
  | 0, s, t => rfl
  | n + 1, s, t => by
    rw [repD, repS]
    simp only [opB_bre, sgn_bs, sgn_hd (show (42 : UInt8) ≠ 92 by decide), Bool.false_eq_true, if_false, itv_bre, rep_bre n, List.length_cons, List.length_nil]
    cases h1 : ahd l s.at_ [92, 43] with
    | true => simp [ahd_two h1 (show (42 : UInt8) ≠ 92 by decide)]
    | false =>
      cases h2 : ahd l s.at_ [92, 63] with
      | true => simp [ahd_two h2 (show (42 : UInt8) ≠ 92 by decide)]
      | false =>
        cases h3 : ahd l s.at_ [92, 123] with
        | true => simp only [ahd_two h3 (show (42 : UInt8) ≠ 92 by decide), Bool.false_eq_true, if_false, if_true]; rfl
        | false => simp
variable {C : Option (RxS → Out α)}
theorem group_bre (s : RxS) : groupD A false l C s = groupS A l C s.at_ (s.go 2) := by
  unfold groupD groupS
  cases C with
  | none => rfl
  | some f =>
    simp only [opB_bre, sgn_bs, List.length_cons, List.length_nil]
    rfl
theorem atom_bre {s : RxS} {b : UInt8} (h : l[s.at_]? = some b) : atomD A false l C s = atomS A l C s b := by
  obtain ⟨hk, hb⟩ := List.getElem?_eq_some_iff.1 h
  unfold atomD atomS
  by_cases h92 : b = 92
  · subst h92
    simp only [if_true]
    unfold escS
    cases h2 : l[s.at_ + 1]? with
    | none =>
      have hs : sgn l s.at_ = [92] := by unfold sgn; rw [h]; simp only [if_true, h2]
      simp [hs, opB]
    | some d =>
      have hs : sgn l s.at_ = [92, d] := by unfold sgn; rw [h]; simp only [if_true, h2]
      rw [← sgn_bs, ← sgn_bs, hs, group_bre]
      simp only [opB_bre]
      unfold escD
      simp
      rfl
  · have hs : sgn l s.at_ = [b] := by unfold sgn; rw [h]; simp only [if_neg h92]
    rw [hs]
    simp [opB, h92]
    rfl
theorem last_bre {inner : Bool} {k : Nat} : endsD false l inner (k + 1) = lastS l k := by
  unfold endsD lastS
  rw [sgn_nil, opB_bre, opB_bre, sgn_bs, sgn_bs]
  simp only [Bool.not_false, Bool.or_true, Bool.and_true]
  have e : decide (l.length ≤ k + 1) = (l.drop (k + 1)).isEmpty := by
    by_cases h : l.length ≤ k + 1
    · rw [List.drop_eq_nil_of_le h]; simp [h]
    · rw [List.drop_eq_getElem_cons (by omega)]; simp [h]
  rw [e]
  cases (l.drop (k + 1)).isEmpty <;> cases ahd l (k + 1) [92, 124] <;> cases ahd l (k + 1) [92, 41] <;> rfl
/-- Where an end of line stands as an anchor, a branch ends. -/
theorem last_ends {k : Nat} (h : lastS l k = true) : l.length ≤ k + 1 ∨ ahd l (k + 1) [92, 124] = true ∨ ahd l (k + 1) [92, 41] = true := by
  unfold lastS at h
  cases h1 : ahd l (k + 1) [92, 124] with
  | true => exact .inr (.inl rfl)
  | false =>
    cases h2 : ahd l (k + 1) [92, 41] with
    | true => exact .inr (.inr rfl)
    | false =>
      rw [h1, h2] at h
      simp only [Bool.or_false, List.isEmpty_iff, List.drop_eq_nil_iff] at h
      exact .inl h
theorem br_bre {inner : Bool} : ∀ (n : Nat) (fD fS : Bool) (s : RxS) (ps : List α), (fD = fS ∨ l.length ≤ s.at_ ∨ ahd l s.at_ [92, 124] = true ∨ ahd l s.at_ [92, 41] = true) →
    brD A false l C inner n false fD s ps = brS A l C inner n fS s ps
  | 0, fD, fS, s, ps, _ => rfl
  | n + 1, fD, fS, s, ps, hf => by
    rw [brD, brS]
    simp only [opB_bre, sgn_bs, sgn_nil, sgn_hd (show (36 : UInt8) ≠ 92 by decide), Bool.false_or, Bool.and_false, Bool.false_and, Bool.or_false, Bool.false_eq_true, if_false]
    by_cases hk : l.length ≤ s.at_
    · rw [List.getElem?_eq_none hk]; simp [hk]
    · have hlt : s.at_ < l.length := by omega
      rw [List.getElem?_eq_getElem hlt]
      simp only [hk, decide_false, Bool.false_or]
      rw [Bool.and_comm (ahd l s.at_ [92, 41]) inner]
      cases h1 : (ahd l s.at_ [92, 124] || (inner && ahd l s.at_ [92, 41])) with
      | true => simp
      | false =>
        simp only [Bool.false_eq_true, if_false]
        rw [last_bre, atom_bre (b := l[s.at_]) (by rw [List.getElem?_eq_getElem hlt])]
        have e1 : (fD && (ahd l s.at_ [92, 123] || (ahd l s.at_ [92, 43] || ahd l s.at_ [92, 63]))) = (fS && (ahd l s.at_ [92, 123] || (ahd l s.at_ [92, 43] || ahd l s.at_ [92, 63]))) := by
          rcases hf with rfl | h | h | h
          · rfl
          · exact absurd h hk
          · rw [h] at h1; simp at h1
          · rw [ahd_not h (show (123 : UInt8) ≠ 41 by decide), ahd_not h (show (43 : UInt8) ≠ 41 by decide), ahd_not h (show (63 : UInt8) ≠ 41 by decide)]; simp
        cases h2 : (ahd l s.at_ [36] && lastS l s.at_) with
        | true =>
          have h3 : ahd l s.at_ [36] = true ∧ lastS l s.at_ = true := by simpa using h2
          have h4 : (fS && (ahd l s.at_ [92, 123] || (ahd l s.at_ [92, 43] || ahd l s.at_ [92, 63]))) = false := by
            have hx := h3.1
            have q : ∀ c : UInt8, ahd l s.at_ [92, c] = false := fun c => by
              rw [← sgn_hd (by decide)] at hx; rw [← sgn_bs, eq_of_beq hx]; simp
            rw [q, q, q]; simp
          rw [h4]
          simp only [if_true, Bool.false_eq_true, if_false]
          exact br_bre n true false (s.go 1) _ (.inr (last_ends h3.2))
        | false =>
          rw [e1]
          simp only [Bool.false_eq_true, if_false]
          cases h5 : (fS && (ahd l s.at_ [92, 123] || (ahd l s.at_ [92, 43] || ahd l s.at_ [92, 63]))) with
          | true => rfl
          | false =>
            simp only [Bool.false_eq_true, if_false]
            cases atomS A l C s l[s.at_] with
            | inl e => rfl
            | inr y =>
              obtain ⟨t, s1⟩ := y
              simp only [rep_bre]
              cases repS A l (l.length + 1) s1 t with
              | inl e => rfl
              | inr z => exact br_bre n false false _ _ (.inl rfl)
theorem branch_bre {inner : Bool} {s : RxS} : branchD A false l C inner s = branchS A l C inner s := by
  unfold branchD branchS
  rw [sgn_hd (by decide)]
  cases h : ahd l s.at_ [94] with
  | true =>
    simp only [if_true]
    have hlt : ¬ l.length ≤ s.at_ := fun e => by
      unfold ahd at h; rw [List.drop_eq_nil_of_le e] at h; cases h
    have q : ∀ c : UInt8, ahd l s.at_ [92, c] = false := fun c => by
      rw [← sgn_hd (by decide)] at h; rw [← sgn_bs, eq_of_beq h]; simp
    rw [brD]
    simp only [opB_bre, sgn_bs, sgn_nil, sgn_hd (show (94 : UInt8) ≠ 92 by decide), q, h, hlt, decide_false, Bool.false_or, Bool.false_and, Bool.false_eq_true, if_false, Bool.true_and, if_true]
    exact br_bre _ _ _ _ _ (.inl rfl)
  | false =>
    simp only [Bool.false_eq_true, if_false]
    rw [← br_bre (l.length + 1) true true s [] (.inl rfl), brD, brD]
    rw [sgn_hd (show (94 : UInt8) ≠ 92 by decide), h]
    simp
theorem loop_bre {inner : Bool} : ∀ (n : Nat) (s : RxS) (ts : List α), chLoopD A false l C inner n s ts = chLoop A l C inner n s ts
  | 0, s, ts => rfl
  | n + 1, s, ts => by
    rw [chLoopD, chLoop, opB_bre, sgn_bs]
    simp only [Bool.false_eq_true, if_false, List.length_cons, List.length_nil, branch_bre, loop_bre n]
    rfl
theorem choice_bre {inner : Bool} {s : RxS} : choiceD A false l C inner s = choiceS A l C inner s := by
  unfold choiceD choiceS
  simp only [branch_bre, loop_bre]
  rfl
end
theorem ch_bre {α : Type} {A : Alg α} {l : List UInt8} : ∀ (n : Nat), chD A false l n = chS A l n
  | 0 => by funext s; rw [chD, chS, choice_bre]
  | n + 1 => by funext s; rw [chD, chS, choice_bre, ch_bre n]
theorem parse_bre {α : Type} {A : Alg α} {l : List UInt8} : parseD A false l = parseS A l := by
  unfold parseD parseS; rw [ch_bre]
end Go.Proofs.YtlchaocpejfikaaGreatDoor
