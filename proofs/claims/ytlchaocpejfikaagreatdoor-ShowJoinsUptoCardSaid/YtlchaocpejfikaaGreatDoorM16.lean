/-
  Merged texts of this claim: ShowD, ShowF, BrkK, BrkL, BrkO, BrkM, BrkN, BrkI, BrkQ, BrkS, DoorS, DoorT, DoorU.
-/
import Derived.Test.YtlchaocpejfikaaGreatDoorShelf
import Derived.Deep.DeepCutAuto
import Derived.Deep.RegionWith
import Derived.Test.YtlchaocpejfikaaGreatDoorRows
import Derived.ProofKit
import Derived.LaidMore
import Derived.OpenShut
import Derived.Stop.Joined
import Derived.Lib.LaidTab
import Derived.Stop.LaidErr
import Derived.Shelf.Vars
import Derived.JoinedCond
import Derived.Test.YtlchaocpejfikaaGreatDoorM06
import Derived.Test.YtlchaocpejfikaaGreatDoorM09
import Derived.Test.YtlchaocpejfikaaGreatDoorM10
import Derived.Test.YtlchaocpejfikaaGreatDoorM11
import Derived.Test.YtlchaocpejfikaaGreatDoorM12
import Derived.Test.YtlchaocpejfikaaGreatDoorM15

/-
  Package show: set; Set.
-/
namespace Go.Proofs.YtlchaocpejfikaaGreatDoor
open Go.RowKit

section
variable {W0 w w' : World} {K : Nat → Prop} {b : Nat} {out : List UInt8}
set_option maxRecDepth 100000 in
set_option maxHeartbeats 4000000 in
theorem show_set (s : S4) (hs : s.fit) (hE : Env W0) (h : TxW W0 K b out w) (hlen : out.length ≤ 10000000000000) :
    Calls Tryz.prog 24 #[.pointer (some ⟨b, 0, none⟩), setV s] w (TxA W0 K b (out ++ setT s) w (.tuple #[])) := by
  have HT := Lib.hid h; have HE := Lib.hid hE
  obtain ⟨q, hq⟩ : ∃ q, q = w.heap.size := ⟨_, rfl⟩
  have hlb : b < w.heap.size := h.lt
  obtain ⟨w1, hw1⟩ : ∃ w1, w1 = w.alloc (.cells #[.int .u64 s.a, .int .u64 s.b, .int .u64 s.c, .int .u64 s.d] 27) := ⟨_, rfl⟩
  have f01 : Fr nob w w1 := by rw [hw1]; exact (Fr.refl _ _).alloc _
  have hb1 : w1.heap[q]? = some (.cells #[.int .u64 s.a, .int .u64 s.b, .int .u64 s.c, .int .u64 s.d] 27 (0, 0)) := by rw [hw1, hq]; exact newAt _ _
  have t1 : TxW W0 (fun k => K k ∨ k = q) b out w1 := h.add f01 (fun k e => by subst e; rw [hw1, hq]; simp)
  have r1 := rule4 hb1
  have hE1 : Env w1 := hE.on (h.fr.trans' f01)
  have HL := Lib.hid (len_lit s w1 hs)
  have HLs := Lib.hid (fun w' (f : Fr nob w1 w') => least_any s w' hs (hE1.on f).1)
  have hfit := Lib.hid hs; have H1 := Lib.hid t1; have F01 := Lib.hid f01; have HW1 := Lib.hid hw1; have HB1 := Lib.hid hb1; have HQ := Lib.hid hq; have HLT := Lib.hid hlb
  have hlow := lowS_lt s
  have hq0 : q = w.heap.size := hq
  clear h hs f01 hw1 t1 hb1 hE1 hE hq hlb
  obtain ⟨n, hn⟩ : ∃ n, s.len = n := ⟨_, rfl⟩
  have hn256 : n ≤ 256 := hn ▸ s.len_le
  rw [hn] at HL
  unfold setT
  rw [hn]
  by_cases h256 : n = 256
  · have c1 : ((n : Int) == 256) = true := by subst h256; rfl
    rw [if_pos h256]
    subst hq0
    clear hn
    go_enter Tryz.func24, Tryz.ntmps24
    go_wp2_with (rw [← HW1.out])
    refine HL.out.mono ?_
    rintro e w2 ⟨rfl, f2⟩
    have F2 := Lib.hid f2; clear f2
    have r2 := rule4 (F2.out.heap HB1.out (fun x => x))
    go_wp2_with fail
    refine (HLs.out _ F2.out).mono ?_
    rintro e w3 ⟨d, bb, rfl, hld, f3⟩
    have F3 := Lib.hid (F2.out.trans' f3); clear f3 hld
    have H3 := Lib.hid (H1.out.quiet F3.out)
    go_wp2_with fail
    refine (tx_byte 46 46 (by decide) rfl H3.out (by omega)).mono ?_
    rintro e w4 ⟨rfl, h4, f4⟩
    have H4 := Lib.hid h4; have F4 := Lib.hid f4; clear h4 f4
    go_wp2
    exact bodyPost_ret (results_none rfl _ _ _) rfl ⟨rfl, H4.out.less (fun k => .inl), (F01.out.trans' F3.out).toTx.trans F4.out (fun i _ x => Txn.less (fun k => .inl) x)⟩
  · have c1 : ((n : Int) == 256) = false := by simp; omega
    rw [if_neg h256]
    by_cases h1 : n = 1
    · have c2 : ((n : Int) == 1) = true := by subst h1; rfl
      rw [if_pos h1]
      subst hq0
      clear hn
      go_enter Tryz.func24, Tryz.ntmps24
      go_wp2_with (rw [← HW1.out])
      refine HL.out.mono ?_
      rintro e w2 ⟨rfl, f2⟩
      have F2 := Lib.hid f2; clear f2
      have r2 := rule4 (F2.out.heap HB1.out (fun x => x))
      go_wp2_with fail
      refine (HLs.out _ F2.out).mono ?_
      rintro e w3 ⟨d, bb, rfl, hld, f3⟩
      obtain rfl := hld.lowS hfit.out
      have F3 := Lib.hid (F2.out.trans' f3); clear f3 hld
      have H3 := Lib.hid (H1.out.quiet F3.out)
      go_wp2_with fail
      refine (show_single (lowS s) hlow H3.out (by omega)).mono ?_
      rintro e w4 ⟨rfl, h4, f4⟩
      have H4 := Lib.hid h4; have F4 := Lib.hid f4; clear h4 f4
      go_wp2
      exact bodyPost_ret (results_none rfl _ _ _) rfl ⟨rfl, H4.out.less (fun k => .inl), (F01.out.trans' F3.out).toTx.trans F4.out (fun i _ x => Txn.less (fun k => .inl) x)⟩
    · rw [if_neg h1]
      have := show_setB s hfit.out HE.out HT.out hlen (by omega) (by omega)
      unfold setT at this
      rw [hn, if_neg h256, if_neg h1] at this
      exact this
/-- show.Set. -/
theorem show_Set (s : S4) (w : World) (hs : s.fit) (hE : Env w) :
    Calls Tryz.prog 9 #[setV s] w fun e w' => e = .returned (.string ⟨(setT s).toArray⟩) ∧ Fr nob w w' := by
  obtain ⟨w1, hw1⟩ : ∃ w1, w1 = w.alloc (.cells #[.int .u64 s.a, .int .u64 s.b, .int .u64 s.c, .int .u64 s.d] 27) := ⟨_, rfl⟩
  obtain ⟨w2, hw2⟩ : ∃ w2, w2 = w1.alloc (.cells #[.pointer none, .slice none 0 0] 56) := ⟨_, rfl⟩
  have hz1 : w1.heap[w.heap.size]? = some (.cells #[.int .u64 s.a, .int .u64 s.b, .int .u64 s.c, .int .u64 s.d] 27 (0, 0)) := by rw [hw1]; exact newAt _ _
  have f1 : Fr nob w w1 := by rw [hw1]; exact (Fr.refl _ _).alloc _
  have f12 : Fr nob w1 w2 := by rw [hw2]; exact (Fr.refl _ _).alloc _
  have hs1 : w1.heap.size = w.heap.size + 1 := by rw [hw1]; simp
  have hB : TxB (w.heap.size + 1) [] none w2 := by rw [hw2, ← hs1]; exact TxB.new w1
  have hT : TxW w (fun _ => False) (w.heap.size + 1) [] w2 := ⟨f1.trans' f12, none, hB, fun k x => by rcases x with x | x; exact ⟨by omega, by simp, Nat.lt_of_lt_of_le x (f1.trans' f12).size⟩; exact x.elim⟩
  have r2 := rule4 (f12.heap hz1 (fun x => x))
  have HT := Lib.hid hT; have HE := Lib.hid hE; have HS := Lib.hid hs; have HW1 := Lib.hid hw1; have HW2 := Lib.hid hw2
  have HSZ := Lib.hid hs1
  clear hT hE hs hw1 hw2 hz1 f1 f12 hB hs1
  go_enter Tryz.func9, Tryz.ntmps9
  go_wp2_with (rw [← HW1.out, ← HW2.out])
  refine (show_set s HS.out HE.out HT.out (by simp)).mono ?_
  rintro e w3 ⟨rfl, h3, f3⟩
  rw [List.nil_append] at h3
  have H3 := Lib.hid h3; clear h3 f3
  obtain ⟨g, ⟨cs, hb, hcs⟩, hk⟩ := H3.out.tx
  have hst := Lib.hid (string_any _ (w.heap.size + 1) 0 cs (setT s) g w3 hb)
  have HG := Lib.hid (show ∀ i, i < w.heap.size → some i ≠ g from fun i hi => (hk i (.inl hi)).2.1)
  clear hb hcs hk
  go_wp2_with fail
  refine hst.out.mono ?_
  rintro e w4 ⟨rfl, f4⟩
  have F4 := Lib.hid (H3.out.fr.trans f4 (fun i hi x => (HG.out i hi x).elim)); clear f4
  go_wp2
  go_ret
  exact ⟨rfl, F4.out⟩
end
end Go.Proofs.YtlchaocpejfikaaGreatDoor

/-
  Package show: numbers as texts.
-/
namespace Go.Proofs.YtlchaocpejfikaaGreatDoor
open Go.RowKit

/-- The library's table of the powers of ten. -/
def P10 (w : World) : Prop := ∃ T fr, w.heap[1]? = some (.cells (Lib.pow10Tab.map fun z => Value.int .u64 z).toArray T fr)
theorem P10.on {w w' : World} (h : P10 w) (f : Fr nob w w') : P10 w' := let ⟨T, fr, h⟩ := h; ⟨T, fr, f.heap h (fun x => x)⟩
theorem P10.tab {w : World} (h : P10 w) : Lib.TabIs Tryz.prog w "internal/strconv.uint64pow10" .u64 Lib.pow10Tab := by
  obtain ⟨T, fr, h⟩ := h
  unfold Lib.TabIs World.var?
  rw [show Tryz.prog.globalNamed "internal/strconv.uint64pow10" = some 1 by kernel_rfl]
  simp only [Option.bind_some]
  rw [h]
theorem fr_drewN {w : World} (k : Nat) : Fr nob w (w.drewN k) := ⟨rfl, rfl, rfl, Nat.le_refl _, fun _ _ _ => rfl⟩
theorem fr_grow {w : World} (os : Array Obj) : Fr nob w (Sort.grow w os) :=
  ⟨rfl, rfl, rfl, by simp [Sort.grow], fun k hk _ => by unfold Sort.grow; simp only; rw [Array.getElem?_append_left hk]⟩
theorem itoa_any (n : Nat) (w : World) (hn : n ≤ 100000) (h : P10 w) :
    Calls Tryz.prog 61 #[.int .i64 (n : Int)] w fun e w' => e = .returned (.string ⟨(Lib.decDigits n).toArray⟩) ∧ Fr nob w w' := by
  refine (Tryz.strconv_Itoa (n : Int) (by omega) (by omega) w h.tab).mono ?_
  rintro e w' ⟨rfl, k, os, rfl⟩
  refine ⟨?_, (fr_drewN k).trans' (fr_grow os)⟩
  unfold Lib.itoa
  rw [if_neg (by omega)]
  rfl
end Go.Proofs.YtlchaocpejfikaaGreatDoor

/-
  Walks of the document's bracket expressions: item, behind a sign. Printed by tools/ref02b.py.
-/
namespace Go.Proofs.YtlchaocpejfikaaGreatDoor
open Go.RowKit

end Go.Proofs.YtlchaocpejfikaaGreatDoor

/-
  Walks of the document's bracket expressions: item, least.
-/
namespace Go.Proofs.YtlchaocpejfikaaGreatDoor
open Go.RowKit

theorem spl_one {p : Nat → Bool} {c : Nat} (hp : ∀ e, e < 256 → p e = decide (e = c)) : ∀ k, k ≤ 256 → spl p k = if c < k then [(c, c)] else []
  | 0, _ => by simp [spl]
  | k + 1, hk => by
    have ih := spl_one hp k (by omega)
    have h1 := hp k (by omega)
    rw [spl, h1]
    by_cases hc : k = c
    · subst hc
      have ho : opn p k = false := by
        cases k with
        | zero => rfl
        | succ j => rw [opn, hp j (by omega)]; simp
      simp [ho, ih]
    · rw [if_neg (by simpa using hc), ih]
      by_cases hlt : c < k
      · rw [if_pos hlt, if_pos (by omega)]
      · rw [if_neg hlt, if_neg (by omega)]
theorem spl_spn {c : Nat} (hc : c < 256) : spl (spn c c).has 256 = [(c, c)] := by
  rw [spl_one (c := c) (fun e he => ?_) 256 (Nat.le_refl _), if_pos hc]
  rw [has_spn _ _ _ hc hc he, Bool.eq_iff_iff]
  simp; omega

end Go.Proofs.YtlchaocpejfikaaGreatDoor

/-
  Walks of both Parses where the place is out of the text.
-/
namespace Go.Proofs.YtlchaocpejfikaaGreatDoor
open Go.RowKit

def OutAns (w : World) (e : Ending) (w' : World) : Prop := e = .returned (.tuple #[setV S4.zero, .int .i64 0, .int .i64 1]) ∧ Fr nob w w'

theorem results_setR3 {fn : Func} {p q r : Tmp} (h : fn.results = #[.cell p 24, .tmp q, .tmp r]) {tmps : Array Value} {b : Nat} (ht : tmps.getD p undef = .pointer (some ⟨b, 0, none⟩)) {u v : Value} (hq : tmps.getD q undef = u) (hr : tmps.getD r undef = v) {W : World} {s : S4}
    (hb : W.heap[b]? = some (.cells #[.int .u64 s.a, .int .u64 s.b, .int .u64 s.c, .int .u64 s.d] 24 (0, 0))) : (results fn tmps).run Tryz.prog W = .ok (.tuple #[setV s, u, v]) W := by
  have c0 := cell_at (j := 0) (v := .int .u64 s.a) hb rfl
  have c1 := cell_at (j := 1) (v := .int .u64 s.b) hb rfl
  have c2 := cell_at (j := 2) (v := .int .u64 s.c) hb rfl
  have c3 := cell_at (j := 3) (v := .int .u64 s.d) hb rfl
  have ht' : tmps[p]?.getD undef = .pointer (some ⟨b, 0, none⟩) := by rw [← ht]; simp
  have hq' : tmps[q]?.getD undef = u := by rw [← hq]; simp
  have hr' : tmps[r]?.getD undef = v := by rw [← hr]; simp
  simp only [results, h]
  simp [ht', hq', hr', go_sem, c0, c1, c2, c3]

set_option maxRecDepth 100000 in
set_option maxHeartbeats 2000000 in
theorem parse_out (l : List UInt8) (a : Int) (w : World) (h : a < 0 ∨ (l.length : Int) < a) :
    Calls Tryz.prog 114 #[.string ⟨l.toArray⟩, .int .i64 a] w (OutAns w) := by
  obtain ⟨w0, hw0⟩ : ∃ w0, w0 = w.alloc (.cells #[.int .u64 0, .int .u64 0, .int .u64 0, .int .u64 0] 27) := ⟨_, rfl⟩
  have hz : w0.heap[w.heap.size]? = some (.cells #[.int .u64 0, .int .u64 0, .int .u64 0, .int .u64 0] 27 (0, 0)) := by rw [hw0]; exact newAt _ _
  have F := Lib.hid (show Fr nob w w0 by rw [hw0]; exact (Fr.refl _ _).alloc _)
  have rz := rule4 hz
  have HZ := Lib.hid hz; have HW := Lib.hid hw0; clear hz hw0
  by_cases h0 : a < 0
  · clear h
    go_enter Tryz.func114, Tryz.ntmps114
    iterate 14 go_step
    rw [← HW.out]
    go_wp2
    (try simp only [Exit.inBlock, Exit.then])
    refine bodyPost_ret (results_set3 (s := S4.zero) (by rfl) (by rfl) (by rfl) (by rfl) (setFour_heap HZ.out _ _ _ _)) rfl ⟨?_, setFour_frS F.out (Nat.le_refl _) _ _ _ _⟩
    rfl
  · have h1 : (l.length : Int) < a := h.resolve_left h0
    clear h
    go_enter Tryz.func114, Tryz.ntmps114
    iterate 14 go_step
    rw [← HW.out]
    go_wp2
    (try simp only [Exit.inBlock, Exit.then])
    refine bodyPost_ret (results_set3 (s := S4.zero) (by rfl) (by rfl) (by rfl) (by rfl) (setFour_heap HZ.out _ _ _ _)) rfl ⟨?_, setFour_frS F.out (Nat.le_refl _) _ _ _ _⟩
    rfl

end Go.Proofs.YtlchaocpejfikaaGreatDoor

/-
  Walks of the document's Parse. Printed by tools/rparse02.py.
-/
namespace Go.Proofs.YtlchaocpejfikaaGreatDoor
open Go.RowKit

theorem stop_seq {P : Program} {Q : Exit → Act → World → Prop} {a : Act} {w : World} {ops : Array Oper} {b : Bool} {c : Code} (n : Nat) (h : ∀ X : Prop, Hid (((Code.region n ops b).seq c).wp P Q a w → X) → X) : ((Code.region n ops b).seq c).wp P Q a w := h _ (Lib.hid id)
abbrev AtR (w : World) (b : Nat) (s : S4) : Prop := w.heap[b]? = some (.cells #[.int .u64 s.a, .int .u64 s.b, .int .u64 s.c, .int .u64 s.d] 24 (0, 0))
def RS (l : List UInt8) (F : (Int × Nat) ⊕ (S4 × Nat)) (fst : Bool) (n k : Nat) (acc : S4) : Prop :=
  if fst then acc = S4.zero ∧ n = l.length + 2 ∧ lopF l (l.length + 1) (prt l k) = F else lop l n k acc = F
theorem orF_zero {l : List UInt8} {k : Nat} : orF S4.zero (prt l k) = prt l k := by
  cases h : prt l k with
  | inl z => rfl
  | inr x => have := (prt_next h).2.2; simp only [orF]; rw [zero_or this]
theorem RS.go {l : List UInt8} {F : (Int × Nat) ⊕ (S4 × Nat)} {fst : Bool} {m k : Nat} {acc : S4} (h : RS l F fst (m + 1) k acc) (hg : fst = true ∨ l[k]? ≠ some 93) : lopF l m (orF acc (prt l k)) = F := by
  unfold RS at h
  cases fst with
  | true =>
    simp only [if_true] at h
    obtain ⟨rfl, h1, h2⟩ := h
    obtain rfl : m = l.length + 1 := by omega
    rw [orF_zero]; exact h2
  | false =>
    rw [if_neg (by simp)] at h
    rw [← h]
    exact (lop_go (hg.resolve_left (by simp))).symm
theorem RS.halt {l : List UInt8} {F : (Int × Nat) ⊕ (S4 × Nat)} {m k : Nat} {acc : S4} (h : RS l F false (m + 1) k acc) (hg : l[k]? = some 93) : F = .inr (acc, k) := by
  unfold RS at h
  rw [if_neg (by simp)] at h
  rw [← h]; exact lop_end hg
theorem itmN_err {l : List UInt8} {a : Nat} {k : UInt8} {z : Int × Nat} (h : itmN l a k = .inl z) : z.1 ≠ 0 := by
  unfold itmN at h
  split at h
  · injection h with h; subst h; simp
  · split at h
    · split at h
      · injection h with h; subst h; simp
      · cases h
    · split at h
      · cases h
      · injection h with h; subst h; simp
theorem itm_err {l : List UInt8} {a : Nat} {z : Int × Nat} (h : itm l a = .inl z) : z.1 ≠ 0 := by
  unfold itm at h
  split at h
  · injection h with h; subst h; simp
  · split at h
    · cases h
    · split at h
      · exact itmN_err h
      · cases h
theorem RS.next {l : List UInt8} {F : (Int × Nat) ⊕ (S4 × Nat)} {m k p : Nat} {acc s : S4} (h : lopF l m (orF acc (prt l k)) = F) (hn : lopN l m (orF acc (prt l k))) (hp : prt l k = .inr (s, p)) :
    RS l F false m p (acc.or s) ∧ p ≤ l.length ∧ l.length < m + p := by
  rw [hp] at h hn
  refine ⟨?_, hn _ rfl⟩
  unfold RS
  rw [if_neg (by simp)]
  exact h
theorem RS.bad {l : List UInt8} {F : (Int × Nat) ⊕ (S4 × Nat)} {m k : Nat} {acc : S4} {z : Int × Nat} (h : lopF l m (orF acc (prt l k)) = F) (hp : prt l k = .inl z) : F = .inl z := by
  rw [← h, hp]; rfl
theorem rng_yes {l : List UInt8} {k : Nat} (h : rng l k = true) : ∃ h : k + 1 < l.length, l[k] = 45 ∧ l[k + 1] ≠ 93 := by
  unfold rng at h
  simp only [Bool.and_eq_true, decide_eq_true_eq, beq_iff_eq, Bool.not_eq_true', beq_eq_false_iff_ne] at h
  obtain ⟨⟨h1, h2⟩, h3⟩ := h
  exact ⟨h1, (List.getElem?_eq_some_iff.1 h2).2, fun e => h3 (by rw [List.getElem?_eq_getElem h1, e])⟩
theorem rng_no {l : List UInt8} {k : Nat} (h : rng l k = false) : l.length ≤ k + 1 ∨ (∃ h : k + 1 < l.length, l[k] ≠ 45) ∨ ∃ h : k + 1 < l.length, l[k] = 45 ∧ l[k + 1] = 93 := by
  by_cases h1 : k + 1 < l.length
  · by_cases h2 : l[k] = 45
    · by_cases h3 : l[k + 1] = 93
      · exact .inr (.inr ⟨h1, h2, h3⟩)
      · exfalso
        unfold rng at h
        rw [List.getElem?_eq_getElem h1, List.getElem?_eq_getElem (by omega : k < l.length)] at h
        simp [h1, h2, h3] at h
    · exact .inr (.inl ⟨h1, h2⟩)
  · exact .inl (by omega)
def PAns (R : (Int × Nat) ⊕ (S4 × Nat)) (w : World) (e : Ending) (w' : World) : Prop := e = .returned (prsV R) ∧ Fr nob w w'
abbrev RInv (l : List UInt8) (w : World) (F : (Int × Nat) ⊕ (S4 × Nat)) (n : Nat) (v1 v10 : Value) (wr : World) : Prop :=
  ∃ (k : Nat) (acc : S4) (fst : Bool), v1 = .int .i64 k ∧ v10 = .bool fst ∧ AtR wr (w.heap.size + 1) acc ∧ AtR wr w.heap.size S4.zero ∧ AtR wr (w.heap.size + 2) S4.zero ∧ Fr nob w wr ∧ acc.fit ∧ k ≤ l.length ∧ l.length < n + k ∧ RS l F fst n k acc

end Go.Proofs.YtlchaocpejfikaaGreatDoor

/-
  Walks of the document's Parse. Printed by tools/rparse02.py.
-/
namespace Go.Proofs.YtlchaocpejfikaaGreatDoor
open Go.RowKit

end Go.Proofs.YtlchaocpejfikaaGreatDoor

/-
  Walks of package bracket: Parse. Printed by tools/parse02.py.
-/
namespace Go.Proofs.YtlchaocpejfikaaGreatDoor
open Go.RowKit

abbrev PInv (l : List UInt8) (w0 : World) (b r4 r9 : Nat) (F : (Int × Nat) ⊕ (S4 × Nat)) (n : Nat) (wr : World) : Prop :=
  ∃ R s, PtEnd b l 0 s R wr ∧ At4 wr r9 s ∧ At4 wr r4 S4.zero ∧ Fr nob w0 wr ∧ lopF l n R = F ∧ lopN l n R

set_option maxRecDepth 100000 in
set_option maxHeartbeats 8000000 in
theorem parse_any (l : List UInt8) (a : Nat) (w : World) (hl : l.length ≤ 100000) (ha : a ≤ l.length) (hE : Env w) :
    Calls Tryz.prog 114 #[.string ⟨l.toArray⟩, .int .i64 a] w fun e w' => e = .returned (prsV (prs l a)) ∧ Fr nob w w' := by
  obtain ⟨w0, hw0⟩ : ∃ w0, w0 = (w.alloc (.cells #[.int .u64 0, .int .u64 0, .int .u64 0, .int .u64 0] 27)).alloc (.cells #[.string ⟨l.toArray⟩, .int .i64 a, .int .i64 0, .int .i64 0] 187) := ⟨_, rfl⟩
  have f0 : Fr nob w w0 := by rw [hw0]; exact ((Fr.refl _ _).alloc _).alloc _
  have hw2 := hE.1
  have hz0 : w0.heap[w.heap.size]? = some (.cells #[.int .u64 0, .int .u64 0, .int .u64 0, .int .u64 0] 27 (0, 0)) := by rw [hw0]; exact heap_alloc_lt _ (newAt _ _)
  have hr0 : Rd w0 (w.heap.size + 1) l a 0 0 := by
    rw [hw0]; unfold Rd
    have := newAt (w.alloc (.cells #[.int .u64 0, .int .u64 0, .int .u64 0, .int .u64 0] 27)) (.cells #[.string ⟨l.toArray⟩, .int .i64 a, .int .i64 0, .int .i64 0] 187)
    simpa using this
  have hb2 : envB ≤ w.heap.size + 1 := Env.big hE
  have hE0 := hE.on f0
  obtain ⟨b, hb⟩ : ∃ b, w.heap.size + 1 = b := ⟨_, rfl⟩
  rw [hb] at hr0 hb2
  have rr0 := rule4 hr0
  have hal : (a : Int) ≤ l.length := by omega
  have ha0 : (0 : Int) ≤ a := by omega
  obtain ⟨d0, hd0⟩ : ∃ d, [94].isPrefixOf (l.drop a) = d := ⟨_, rfl⟩
  have hc0 : ∀ w', Fr nob w0 w' → _ := fun w' f => ahead_any b l [94] a 0 0 w' (by omega) (by simp) ha (hr0.on f)
  rw [hd0] at hc0
  have C0 := Lib.hid hc0; have HR0 := Lib.hid hr0; have HZ0 := Lib.hid hz0; have FW0 := Lib.hid f0; have HE0 := Lib.hid hE0; have HW0 := Lib.hid hw0; have HBB := Lib.hid hb
  have hbs : w.heap.size < b := by omega
  clear hc0 hr0 hz0 f0 hE0 hw0 hE hb hw2
  cases d0 with
  | true =>
    have HD0 := Lib.hid hd0; clear hd0
    go_enter Tryz.func114, Tryz.ntmps114
    go_wp2_with fail
    rw [← HW0.out]
    simp only [HBB.out]
    refine (C0.out w0 (Fr.refl _ _)).mono ?_
    rintro e w1 ⟨rfl, f1⟩
    have HR1 := Lib.hid (HR0.out.on f1); have HZ1 := Lib.hid (f1.heap HZ0.out (fun x => x)); have FW1 := Lib.hid (FW0.out.trans' f1); have HE1 := Lib.hid (HE0.out.on f1)
    clear f1
    have hlt : a + 1 ≤ l.length := by
      have := (List.getElem?_eq_some_iff.1 (pre1.1 HD0.out)).1
      omega
    have rr1 := rule4 HR1.out
    obtain ⟨w2, hw2⟩ : ∃ w2, w2 = w1.setCell ⟨b, 1, none⟩ (.int .i64 ((a : Int) + 1)) := ⟨_, rfl⟩
    have HR2 := Lib.hid (show Rd w2 b l ((a + 1 : Nat) : Int) 0 0 by
      rw [hw2, show ((a + 1 : Nat) : Int) = (a : Int) + 1 by omega]; exact heap_setCell_at HR1.out 1 _)
    have HZ2 := Lib.hid (show w2.heap[w.heap.size]? = some (.cells #[.int .u64 0, .int .u64 0, .int .u64 0, .int .u64 0] 27 (0, 0)) by rw [hw2]; exact heap_setCell_ne HZ1.out (by simp only; omega) _)
    have FW2 := Lib.hid (show Fr nob w w2 by rw [hw2]; exact Fr.setCell (p := ⟨b, 1, none⟩) FW1.out (fun h => absurd h (by simp only; omega)) _)
    have HE2 := Lib.hid (show Env w2 by rw [hw2]; exact HE1.out.on2 (Fr.setCell (S := fun k => k = b) (p := ⟨b, 1, none⟩) (Fr.refl _ _) (fun _ => rfl) _) hb2)
    have HW2 := Lib.hid hw2
    clear hw2
    go_wp2_with fail
    rw [← HW2.out]
    refine (part_any b l (a + 1) 0 w2 hl hlt hb2 HE2.out HR2.out).mono ?_
    rintro e w3 ⟨s, rfl, hs, f3, hend⟩
    have hz3 := f3.heap HZ2.out (fun e => by omega)
    obtain ⟨w4, hw4⟩ : ∃ w4, w4 = w3.alloc (.cells #[.int .u64 s.a, .int .u64 s.b, .int .u64 s.c, .int .u64 s.d] 27) := ⟨_, rfl⟩
    have f34 : Fr nob w3 w4 := by rw [hw4]; exact (Fr.refl _ _).alloc _
    have hbw2 := lt_heap HR2.out
    have hz4 := f34.heap hz3 (fun x => x)
    have hlz4 := lt_heap hz3
    obtain ⟨r9, hr9⟩ : ∃ r, w3.heap.size = r := ⟨_, rfl⟩
    have h94 : At4 w4 r9 s := by rw [hw4, ← hr9]; exact newAt _ _
    have hb9 : b < r9 := by rw [← hr9]; exact Nat.lt_of_lt_of_le hbw2 f3.size
    have F4 := Lib.hid ((FW2.out.trans f3 (fun i hi e => by omega)).trans' f34)
    have HE4 := Lib.hid ((HE2.out.on2 f3 hb2).on f34)
    have hend4 := hend.to (w' := w4) (fun x r q h => h.on f34)
    have hF : prs l a = prsNot _ (lopF l (l.length + 1) (prt l (a + 1))) := prs_yes HD0.out
    have hN0 : lopN l (l.length + 1) (prt l (a + 1)) := fun x hx => by
      have := prt_next hx; exact ⟨this.2.1, by omega⟩
    obtain ⟨F, hFF⟩ : ∃ F, lopF l (l.length + 1) (prt l (a + 1)) = F := ⟨_, rfl⟩
    rw [hFF] at hF
    have HF := Lib.hid hF; have HW4 := Lib.hid hw4
    have HI := Lib.hid (show PInv l w b w.heap.size r9 F (l.length + 1) w4 from ⟨_, s, hend4, h94, hz4, F4.out, hFF, hN0⟩)
    have H9 := Lib.hid hr9
    clear hz3 hw4 f34 hz4 h94 hend hend4 hF hN0 hFF hr9 hs f3
    go_wp2_with fail
    rw [← HW4.out]
    simp only [H9.out]
    go_loopg [] (l.length + 1) (fun n wr => PInv l w b w.heap.size r9 F n wr ∧ Env wr)
    case atStart => exact ⟨HI.out, HE4.out⟩
    case round =>
      obtain ⟨⟨R, o, hend, h9, hz, hfr, hF, hN⟩, hEr⟩ := hrel
      have rz := rule4 hz
      have rq9 := rule4 h9
      have HEND := Lib.hid hend; have HZ := Lib.hid hz; have HH9 := Lib.hid h9; have HFR := Lib.hid hfr; have HER := Lib.hid hEr
      clear hend hz h9 hfr hEr
      have HF0 := Lib.hid hF; clear hF
      cases R with
      | inl z =>
        obtain ⟨a', h1, h2, h3⟩ := HEND.out
        have rr := rule4 h3
        have t1 : (z.1 == 0) = false := by simpa using h2
        have t2 : (z.1 != 0) = true := by simpa using h2
        have HFz := Lib.hid (HF0.out.symm : F = .inl z)
        have HRz := Lib.hid h3
        clear h1 h2 h3 hN
        have hne : w.heap.size ≠ b := by omega
        have HQ := Lib.hid (show RQ wr b (.int .i64 z.1) (.int .i64 z.2) from ⟨cell_at HRz.out rfl, cell_at HRz.out rfl⟩)
        have HQd := Lib.hid (show RQ wr.drew b (.int .i64 z.1) (.int .i64 z.2) from ⟨cell_at HRz.out rfl, cell_at HRz.out rfl⟩)
        have HZd := Lib.hid (show At4 wr.drew w.heap.size S4.zero from HZ.out)
        have FRd := Lib.hid HFR.out.drew
        go_wp2_with fail
        go_region_held3 (fun w' => RQ w' b (.int .i64 z.1) (.int .i64 z.2)) (repeat (first | (with_reducible exact HQ.out) | (with_reducible exact HQd.out) | (with_reducible refine RQ.set ?_ hne _) | (with_reducible refine RQ.drew ?_))) (fail)
        all_goals
          go_wp2
          (try simp only [Exit.inBlock, Exit.then])
          refine bodyPost_ret (results_set3 (s := S4.zero) rfl rfl rfl rfl (setFour_heap HZd.out _ _ _ _)) rfl ⟨?_, setFour_frS FRd.out (Nat.le_refl _) _ _ _ _⟩
          rw [HF.out, HFz.out]; rfl
      | inr x =>
        obtain ⟨o1, n0⟩ := x
        obtain ⟨hso, h3⟩ := HEND.out
        simp only at hso
        subst hso
        obtain ⟨hn0, hng⟩ := hN _ rfl
        simp only at hn0 hng h3 rq9
        obtain ⟨m, rfl⟩ : ∃ m, gk = m + 1 := ⟨gk - 1, by omega⟩
        have rr := rule4 h3
        have hnl : (n0 : Int) ≤ l.length := by omega
        have hn00 : (0 : Int) ≤ n0 := by omega
        have hwr : IntKind.i64.wrap ((n0 : Int) + 1) = (n0 : Int) + 1 := IntWalk.i64_in _ (by omega)
        obtain ⟨D, hD⟩ : ∃ d, [93].isPrefixOf (l.drop n0) = d := ⟨_, rfl⟩
        have hc1 := ahead_any b l [93] n0 0 0 wr (by omega) (by simp) hn0 h3
        rw [hD] at hc1
        have C1 := Lib.hid hc1; have HR := Lib.hid h3; have HD := Lib.hid hD
        clear hc1 h3 hD hN HEND
        cases D with
        | true =>
          have HFy := Lib.hid (show F = .inr (o, n0) by rw [← HF0.out]; exact lop_end (pre1.1 HD.out))
          go_wp2_with fail
          refine C1.out.mono ?_
          rintro e w5 ⟨rfl, f5⟩
          have HR5 := Lib.hid (HR.out.on f5); have HZ5 := Lib.hid (f5.heap HZ.out (fun x => x)); have H95 := Lib.hid (f5.heap HH9.out (fun x => x)); have F5 := Lib.hid (HFR.out.trans' f5)
          go_wp2_with fail
          refine (not_lit o w5).mono ?_
          obtain ⟨N, hNo⟩ : ∃ N, o.not = N := ⟨_, rfl⟩
          rw [hNo]
          rintro e w6 ⟨rfl, f6⟩
          obtain ⟨w7, hw7⟩ : ∃ w7, w7 = (((w6.setCell ⟨r9, 0, none⟩ (.int .u64 N.a)).setCell ⟨r9, 1, none⟩ (.int .u64 N.b)).setCell ⟨r9, 2, none⟩ (.int .u64 N.c)).setCell ⟨r9, 3, none⟩ (.int .u64 N.d) := ⟨_, rfl⟩
          have h97 : At4 w7 r9 N := by rw [hw7]; exact setFour_heap (f6.heap H95.out (fun x => x)) _ _ _ _
          have hr7 : Rd w7 b l n0 0 0 := by rw [hw7]; exact setFour_old (HR5.out.on f6) (by omega) _ _ _ _
          have hz7 : At4 w7 w.heap.size S4.zero := by rw [hw7]; exact setFour_old (f6.heap HZ5.out (fun x => x)) (by omega) _ _ _ _
          have F7 := Lib.hid (show Fr nob w w7 by rw [hw7]; exact setFour_frS (F5.out.trans' f6) (by omega) _ _ _ _)
          have HNo := Lib.hid hNo
          have HW7 := Lib.hid hw7
          have rn6 := rule4 (f6.heap H95.out (fun x => x))
          clear hNo hw7
          go_wp2_with fail
          rw [← HW7.out]
          have rr7 := rule4 hr7
          have rn7 := rule4 h97
          have rz7 := rule4 hz7
          have HZ7 := Lib.hid hz7; have HR7 := Lib.hid hr7; have H97 := Lib.hid h97
          clear hr7 h97 hz7
          have hne : w.heap.size ≠ b := by omega
          have hne9 : w.heap.size ≠ r9 := by omega
          have HQ7 := Lib.hid (show RA w7 b (.int .i64 n0) r9 N from ⟨cell_at HR7.out rfl, Q4.of H97.out⟩)
          have HQ7d := Lib.hid (show RA (World.drew w7) b (.int .i64 n0) r9 N from ⟨cell_at HR7.out rfl, Q4.of H97.out⟩)
          have HZd := Lib.hid (show At4 (World.drew w7) w.heap.size S4.zero from HZ7.out)
          have FRd := Lib.hid (Fr.drew F7.out)
          go_region_held3 (fun w' => RA w' b (.int .i64 n0) r9 N) (repeat (first | (with_reducible exact HQ7.out) | (with_reducible exact HQ7d.out) | (with_reducible refine RA.set ?_ hne hne9 _) | (with_reducible refine RA.drew ?_))) (fail)
          all_goals
            go_wp2
            (try simp only [Exit.inBlock, Exit.then])
            refine bodyPost_ret (results_set3 (s := N) rfl rfl rfl rfl (setFour_heap HZd.out _ _ _ _)) rfl ⟨?_, setFour_frS FRd.out (Nat.le_refl _) _ _ _ _⟩
            rw [HF.out, HFy.out]
            rw [← HNo.out]; rfl
        | false =>
          have hne : l[n0]? ≠ some 93 := fun e => by rw [pre1.2 e] at HD; exact absurd HD.out (by simp)
          have HFn := Lib.hid (show lopF l m (orF o (prt l n0)) = F by rw [← HF0.out]; exact (lop_go hne).symm)
          have HNn := Lib.hid (show lopN l m (orF o (prt l n0)) from lopN_go (by omega))
          clear hne
          go_wp2_with fail
          refine C1.out.mono ?_
          rintro e w5 ⟨rfl, f5⟩
          have HR5 := Lib.hid (HR.out.on f5.drew); have HZ5 := Lib.hid (f5.drew.heap HZ.out (fun x => x)); have H95 := Lib.hid (f5.drew.heap HH9.out (fun x => x)); have F5 := Lib.hid (HFR.out.trans' f5.drew); have HE5 := Lib.hid (HER.out.on f5.drew)
          have HQ5 := Lib.hid (Q4.of (f5.heap HH9.out (fun x => x))); have HQ5d := Lib.hid (Q4.of H95.out)
          go_wp2_with fail
          go_region_with (first | (go_at_call 131; (refine (part_any b l n0 0 w5.drew hl hn0 hb2 HE5.out HR5.out).mono ?_); rintro e w6 ⟨s', rfl, hs', f6, hend6⟩; have H96 := Lib.hid (f6.heap H95.out (fun e => by omega)); have HQ6 := Lib.hid (Q4.of H96.out); have HZ6 := Lib.hid (f6.heap HZ5.out (fun e => by omega)); have HE6 := Lib.hid (HE5.out.on2 f6 hb2); have F6 := Lib.hid (F5.out.trans f6 (fun i hi e => by omega)); have HEND6 := Lib.hid (hend6.or (t := o)); have rn6 := rule4 H96.out; clear f6 hend6) | (go_at_call 132; (refine (or_lit o s' w6).mono ?_); obtain ⟨N, hNo⟩ : ∃ N, o.or s' = N := ⟨_, rfl⟩; rw [hNo] at HEND6 ⊢; rintro e w7 ⟨rfl, f7⟩; have H97 := Lib.hid (f7.heap H96.out (fun x => x)); have HQ7 := Lib.hid (Q4.of H97.out); have HZ7 := Lib.hid (f7.heap HZ6.out (fun x => x)); have HE7 := Lib.hid (HE6.out.on f7); have F7 := Lib.hid (F6.out.trans' f7); have HEND7 := Lib.hid (HEND6.out.to (w' := w7) (fun x r q h => h.on f7)); have rn7 := rule4 H97.out; clear f7))
          all_goals
            have hfin := HFn.out
            have hfn := HNn.out
            obtain ⟨w8, hw8⟩ : ∃ w8, w8 = (((w7.setCell ⟨r9, 0, none⟩ (.int .u64 N.a)).setCell ⟨r9, 1, none⟩ (.int .u64 N.b)).setCell ⟨r9, 2, none⟩ (.int .u64 N.c)).setCell ⟨r9, 3, none⟩ (.int .u64 N.d) := ⟨_, rfl⟩
            have HI8 := Lib.hid (show PInv l w b w.heap.size r9 F m w8 ∧ Env w8 by
              rw [hw8]
              refine ⟨⟨_, N, HEND7.out.to (fun x r q h => setFour_old h (by omega) _ _ _ _), setFour_heap H97.out _ _ _ _, setFour_old HZ7.out (by omega) _ _ _ _, setFour_frS F7.out (by omega) _ _ _ _, hfin, hfn⟩, HE7.out.on2 (setFour_one _ _ _ _ _ _) (by omega)⟩)
            have HW8 := Lib.hid hw8
            clear hw8 hfin hfn
            go_wp2_with fail
            rw [← HW8.out]
            go_roundg m
            case measure => omega
            case rel => exact HI8.out
  | false =>
    have HD0 := Lib.hid hd0; clear hd0
    go_enter Tryz.func114, Tryz.ntmps114
    go_wp2_with fail
    rw [← HW0.out]
    simp only [HBB.out]
    refine (C0.out w0 (Fr.refl _ _)).mono ?_
    rintro e w1 ⟨rfl, f1⟩
    have HR1 := Lib.hid (HR0.out.on f1); have HZ1 := Lib.hid (f1.heap HZ0.out (fun x => x)); have FW1 := Lib.hid (FW0.out.trans' f1); have HE1 := Lib.hid (HE0.out.on f1)
    clear f1
    obtain ⟨w2, hw2⟩ : ∃ w2, w2 = w1 := ⟨_, rfl⟩
    rw [← hw2] at HR1 HZ1 FW1 HE1
    have HR2 := HR1; have HZ2 := HZ1; have FW2 := FW1; have HE2 := HE1
    go_wp2_with fail
    rw [← hw2]
    clear hw2
    refine (part_any b l (a) 0 w2 hl ha hb2 HE2.out HR2.out).mono ?_
    rintro e w3 ⟨s, rfl, hs, f3, hend⟩
    have hz3 := f3.heap HZ2.out (fun e => by omega)
    obtain ⟨w4, hw4⟩ : ∃ w4, w4 = w3.alloc (.cells #[.int .u64 s.a, .int .u64 s.b, .int .u64 s.c, .int .u64 s.d] 27) := ⟨_, rfl⟩
    have f34 : Fr nob w3 w4 := by rw [hw4]; exact (Fr.refl _ _).alloc _
    have hbw2 := lt_heap HR2.out
    have hz4 := f34.heap hz3 (fun x => x)
    have hlz4 := lt_heap hz3
    obtain ⟨r9, hr9⟩ : ∃ r, w3.heap.size = r := ⟨_, rfl⟩
    have h94 : At4 w4 r9 s := by rw [hw4, ← hr9]; exact newAt _ _
    have hb9 : b < r9 := by rw [← hr9]; exact Nat.lt_of_lt_of_le hbw2 f3.size
    have F4 := Lib.hid ((FW2.out.trans f3 (fun i hi e => by omega)).trans' f34)
    have HE4 := Lib.hid ((HE2.out.on2 f3 hb2).on f34)
    have hend4 := hend.to (w' := w4) (fun x r q h => h.on f34)
    have hF : prs l a = prsNot _ (lopF l (l.length + 1) (prt l (a))) := prs_no HD0.out
    have hN0 : lopN l (l.length + 1) (prt l (a)) := fun x hx => by
      have := prt_next hx; exact ⟨this.2.1, by omega⟩
    obtain ⟨F, hFF⟩ : ∃ F, lopF l (l.length + 1) (prt l (a)) = F := ⟨_, rfl⟩
    rw [hFF] at hF
    have HF := Lib.hid hF; have HW4 := Lib.hid hw4
    have HI := Lib.hid (show PInv l w b w.heap.size r9 F (l.length + 1) w4 from ⟨_, s, hend4, h94, hz4, F4.out, hFF, hN0⟩)
    have H9 := Lib.hid hr9
    clear hz3 hw4 f34 hz4 h94 hend hend4 hF hN0 hFF hr9 hs f3
    go_wp2_with fail
    rw [← HW4.out]
    simp only [H9.out]
    go_loopg [] (l.length + 1) (fun n wr => PInv l w b w.heap.size r9 F n wr ∧ Env wr)
    case atStart => exact ⟨HI.out, HE4.out⟩
    case round =>
      obtain ⟨⟨R, o, hend, h9, hz, hfr, hF, hN⟩, hEr⟩ := hrel
      have rz := rule4 hz
      have rq9 := rule4 h9
      have HEND := Lib.hid hend; have HZ := Lib.hid hz; have HH9 := Lib.hid h9; have HFR := Lib.hid hfr; have HER := Lib.hid hEr
      clear hend hz h9 hfr hEr
      have HF0 := Lib.hid hF; clear hF
      cases R with
      | inl z =>
        obtain ⟨a', h1, h2, h3⟩ := HEND.out
        have rr := rule4 h3
        have t1 : (z.1 == 0) = false := by simpa using h2
        have t2 : (z.1 != 0) = true := by simpa using h2
        have HFz := Lib.hid (HF0.out.symm : F = .inl z)
        have HRz := Lib.hid h3
        clear h1 h2 h3 hN
        have hne : w.heap.size ≠ b := by omega
        have HQ := Lib.hid (show RQ wr b (.int .i64 z.1) (.int .i64 z.2) from ⟨cell_at HRz.out rfl, cell_at HRz.out rfl⟩)
        have HQd := Lib.hid (show RQ wr.drew b (.int .i64 z.1) (.int .i64 z.2) from ⟨cell_at HRz.out rfl, cell_at HRz.out rfl⟩)
        have HZd := Lib.hid (show At4 wr.drew w.heap.size S4.zero from HZ.out)
        have FRd := Lib.hid HFR.out.drew
        go_wp2_with fail
        go_region_held3 (fun w' => RQ w' b (.int .i64 z.1) (.int .i64 z.2)) (repeat (first | (with_reducible exact HQ.out) | (with_reducible exact HQd.out) | (with_reducible refine RQ.set ?_ hne _) | (with_reducible refine RQ.drew ?_))) (fail)
        all_goals
          go_wp2
          (try simp only [Exit.inBlock, Exit.then])
          refine bodyPost_ret (results_set3 (s := S4.zero) rfl rfl rfl rfl (setFour_heap HZd.out _ _ _ _)) rfl ⟨?_, setFour_frS FRd.out (Nat.le_refl _) _ _ _ _⟩
          rw [HF.out, HFz.out]; rfl
      | inr x =>
        obtain ⟨o1, n0⟩ := x
        obtain ⟨hso, h3⟩ := HEND.out
        simp only at hso
        subst hso
        obtain ⟨hn0, hng⟩ := hN _ rfl
        simp only at hn0 hng h3 rq9
        obtain ⟨m, rfl⟩ : ∃ m, gk = m + 1 := ⟨gk - 1, by omega⟩
        have rr := rule4 h3
        have hnl : (n0 : Int) ≤ l.length := by omega
        have hn00 : (0 : Int) ≤ n0 := by omega
        have hwr : IntKind.i64.wrap ((n0 : Int) + 1) = (n0 : Int) + 1 := IntWalk.i64_in _ (by omega)
        obtain ⟨D, hD⟩ : ∃ d, [93].isPrefixOf (l.drop n0) = d := ⟨_, rfl⟩
        have hc1 := ahead_any b l [93] n0 0 0 wr (by omega) (by simp) hn0 h3
        rw [hD] at hc1
        have C1 := Lib.hid hc1; have HR := Lib.hid h3; have HD := Lib.hid hD
        clear hc1 h3 hD hN HEND
        cases D with
        | true =>
          have HFy := Lib.hid (show F = .inr (o, n0) by rw [← HF0.out]; exact lop_end (pre1.1 HD.out))
          go_wp2_with fail
          refine C1.out.mono ?_
          rintro e w5 ⟨rfl, f5⟩
          have HR5 := Lib.hid (HR.out.on f5); have HZ5 := Lib.hid (f5.heap HZ.out (fun x => x)); have H95 := Lib.hid (f5.heap HH9.out (fun x => x)); have F5 := Lib.hid (HFR.out.trans' f5)
          go_wp2_with fail
          have rr7 := rule4 HR5.out
          have rn7 := rule4 H95.out
          have rz7 := rule4 HZ5.out
          have HZ7 := HZ5; have F7 := F5; have HR7 := HR5; have H97 := H95
          have hne : w.heap.size ≠ b := by omega
          have hne9 : w.heap.size ≠ r9 := by omega
          have HQ7 := Lib.hid (show RA w5 b (.int .i64 n0) r9 o from ⟨cell_at HR7.out rfl, Q4.of H97.out⟩)
          have HQ7d := Lib.hid (show RA (World.drew w5) b (.int .i64 n0) r9 o from ⟨cell_at HR7.out rfl, Q4.of H97.out⟩)
          have HZd := Lib.hid (show At4 (World.drew w5) w.heap.size S4.zero from HZ7.out)
          have FRd := Lib.hid (Fr.drew F7.out)
          go_region_held3 (fun w' => RA w' b (.int .i64 n0) r9 o) (repeat (first | (with_reducible exact HQ7.out) | (with_reducible exact HQ7d.out) | (with_reducible refine RA.set ?_ hne hne9 _) | (with_reducible refine RA.drew ?_))) (fail)
          all_goals
            go_wp2
            (try simp only [Exit.inBlock, Exit.then])
            refine bodyPost_ret (results_set3 (s := o) rfl rfl rfl rfl (setFour_heap HZd.out _ _ _ _)) rfl ⟨?_, setFour_frS FRd.out (Nat.le_refl _) _ _ _ _⟩
            rw [HF.out, HFy.out]
            rfl
        | false =>
          have hne : l[n0]? ≠ some 93 := fun e => by rw [pre1.2 e] at HD; exact absurd HD.out (by simp)
          have HFn := Lib.hid (show lopF l m (orF o (prt l n0)) = F by rw [← HF0.out]; exact (lop_go hne).symm)
          have HNn := Lib.hid (show lopN l m (orF o (prt l n0)) from lopN_go (by omega))
          clear hne
          go_wp2_with fail
          refine C1.out.mono ?_
          rintro e w5 ⟨rfl, f5⟩
          have HR5 := Lib.hid (HR.out.on f5.drew); have HZ5 := Lib.hid (f5.drew.heap HZ.out (fun x => x)); have H95 := Lib.hid (f5.drew.heap HH9.out (fun x => x)); have F5 := Lib.hid (HFR.out.trans' f5.drew); have HE5 := Lib.hid (HER.out.on f5.drew)
          have HQ5 := Lib.hid (Q4.of (f5.heap HH9.out (fun x => x))); have HQ5d := Lib.hid (Q4.of H95.out)
          go_wp2_with fail
          go_region_with (first | (go_at_call 131; (refine (part_any b l n0 0 w5.drew hl hn0 hb2 HE5.out HR5.out).mono ?_); rintro e w6 ⟨s', rfl, hs', f6, hend6⟩; have H96 := Lib.hid (f6.heap H95.out (fun e => by omega)); have HQ6 := Lib.hid (Q4.of H96.out); have HZ6 := Lib.hid (f6.heap HZ5.out (fun e => by omega)); have HE6 := Lib.hid (HE5.out.on2 f6 hb2); have F6 := Lib.hid (F5.out.trans f6 (fun i hi e => by omega)); have HEND6 := Lib.hid (hend6.or (t := o)); have rn6 := rule4 H96.out; clear f6 hend6) | (go_at_call 132; (refine (or_lit o s' w6).mono ?_); obtain ⟨N, hNo⟩ : ∃ N, o.or s' = N := ⟨_, rfl⟩; rw [hNo] at HEND6 ⊢; rintro e w7 ⟨rfl, f7⟩; have H97 := Lib.hid (f7.heap H96.out (fun x => x)); have HQ7 := Lib.hid (Q4.of H97.out); have HZ7 := Lib.hid (f7.heap HZ6.out (fun x => x)); have HE7 := Lib.hid (HE6.out.on f7); have F7 := Lib.hid (F6.out.trans' f7); have HEND7 := Lib.hid (HEND6.out.to (w' := w7) (fun x r q h => h.on f7)); have rn7 := rule4 H97.out; clear f7))
          all_goals
            have hfin := HFn.out
            have hfn := HNn.out
            obtain ⟨w8, hw8⟩ : ∃ w8, w8 = (((w7.setCell ⟨r9, 0, none⟩ (.int .u64 N.a)).setCell ⟨r9, 1, none⟩ (.int .u64 N.b)).setCell ⟨r9, 2, none⟩ (.int .u64 N.c)).setCell ⟨r9, 3, none⟩ (.int .u64 N.d) := ⟨_, rfl⟩
            have HI8 := Lib.hid (show PInv l w b w.heap.size r9 F m w8 ∧ Env w8 by
              rw [hw8]
              refine ⟨⟨_, N, HEND7.out.to (fun x r q h => setFour_old h (by omega) _ _ _ _), setFour_heap H97.out _ _ _ _, setFour_old HZ7.out (by omega) _ _ _ _, setFour_frS F7.out (by omega) _ _ _ _, hfin, hfn⟩, HE7.out.on2 (setFour_one _ _ _ _ _ _) (by omega)⟩)
            have HW8 := Lib.hid hw8
            clear hw8 hfin hfn
            go_wp2_with fail
            rw [← HW8.out]
            go_roundg m
            case measure => omega
            case rel => exact HI8.out

end Go.Proofs.YtlchaocpejfikaaGreatDoor

/-
  Both Parses, whatever the place; the fixed fact of chapter 2.
-/
namespace Go.Proofs.YtlchaocpejfikaaGreatDoor
open Go.RowKit

/-- What Parse answers, whatever the place. -/
def prz (l : List UInt8) (a : Int) : (Int × Nat) ⊕ (S4 × Nat) := if a < 0 ∨ (l.length : Int) < a then .inl (1, 0) else prs l a.toNat
theorem prz_out {l : List UInt8} {a : Int} (h : a < 0 ∨ (l.length : Int) < a) : prz l a = .inl (1, 0) := if_pos h
theorem prz_in {l : List UInt8} {a : Nat} (h : a ≤ l.length) : prz l a = prs l a := by unfold prz; rw [if_neg (by omega)]; rfl

theorem parse_all (l : List UInt8) (a : Int) (w : World) (hl : l.length ≤ 100000) (hE : Env w) :
    Calls Tryz.prog 114 #[.string ⟨l.toArray⟩, .int .i64 a] w fun e w' => e = .returned (prsV (prz l a)) ∧ Fr nob w w' := by
  by_cases h : a < 0 ∨ (l.length : Int) < a
  · rw [prz_out h]; exact parse_out l a w h
  · obtain ⟨n, rfl⟩ : ∃ n : Nat, a = n := ⟨a.toNat, by omega⟩
    rw [prz_in (by omega)]
    exact parse_any l n w hl (by omega) hE

theorem prs_awake1 : ∃ N, prs [94, 97, 45, 93] 0 = .inr (N, 4) ∧ N.fit ∧ N.len = 254 ∧ N.has 45 = false := by
  refine ⟨((spn 97 97).or (spn 45 45)).not, by decide +kernel, fit_not _, by decide +kernel, by decide +kernel⟩
theorem prs_awake2 : prs [91, 58, 100, 105, 103, 105, 116, 58, 93, 45, 122, 93] 0 = .inl (1, 0) := by decide +kernel

end Go.Proofs.YtlchaocpejfikaaGreatDoor

/-
  Bracket expressions in plain words: an error is never 0; how far Parse goes. No walk.
-/
namespace Go.Proofs.YtlchaocpejfikaaGreatDoor
open Go.RowKit

theorem prt_err {l : List UInt8} {a : Nat} {z : Int × Nat} (h : prt l a = .inl z) : z.1 ≠ 0 := by
  unfold prt at h
  split at h
  · next e he => injection h with h; subst h; exact itm_err he
  · split at h
    · split at h
      · next e he => injection h with h; subst h; exact itm_err he
      · split at h
        · split at h
          · cases h
          · injection h with h; subst h; simp
        · injection h with h; subst h; simp
    · cases h
theorem lop_err {l : List UInt8} : ∀ {n a : Nat} {o : S4} {z : Int × Nat}, a ≤ l.length → l.length < n + a → lop l n a o = .inl z → z.1 ≠ 0
  | 0, a, _, _, h, h', _ => by omega
  | n + 1, a, o, z, h, h', hz => by
    rw [lop] at hz
    split at hz
    · cases hz
    · cases hp : prt l a with
      | inl y => rw [hp] at hz; injection hz with hz; subst hz; exact prt_err hp
      | inr x => rw [hp] at hz; have := prt_next hp; exact lop_err this.2.1 (by omega) hz
theorem prs_err {l : List UInt8} {a : Nat} {z : Int × Nat} (h : prs l a = .inl z) : z.1 ≠ 0 := by
  have key : ∀ b d, ends d (bod l b) = .inl z → z.1 ≠ 0 := by
    intro b d hb
    unfold bod at hb
    cases hp : prt l b with
    | inl y => rw [hp] at hb; injection hb with hb; subst hb; exact prt_err hp
    | inr x =>
      rw [hp] at hb
      simp only at hb
      cases hq : lop l (l.length + 1) x.2 x.1 with
      | inl y => rw [hq] at hb; injection hb with hb; subst hb; have := prt_next hp; exact lop_err this.2.1 (by omega) hq
      | inr y => rw [hq] at hb; cases hb
  by_cases hc : l[a]? = some 94
  · rw [prs_t hc] at h; exact key _ _ h
  · rw [prs_f hc] at h; exact key _ _ h
theorem prs_in {l : List UInt8} {a : Nat} {y : S4 × Nat} (h : prs l a = .inr y) : y.1.fit ∧ a < y.2 ∧ y.2 ≤ l.length := by
  have key : ∀ b d, ends d (bod l b) = .inr y → y.1.fit ∧ b < y.2 ∧ y.2 ≤ l.length := by
    intro b d hb
    unfold bod at hb
    cases hp : prt l b with
    | inl z => rw [hp] at hb; cases hb
    | inr x =>
      rw [hp] at hb
      simp only at hb
      cases hq : lop l (l.length + 1) x.2 x.1 with
      | inl z => rw [hq] at hb; cases hb
      | inr z =>
        rw [hq] at hb; injection hb with hb; subst hb
        have h1 := prt_next hp
        have h2 := lop_next h1.2.2 hq
        refine ⟨?_, by simp only; omega, by simp only; omega⟩
        cases d
        · exact h2.2.2
        · exact fit_not _
  by_cases hc : l[a]? = some 94
  · rw [prs_t hc] at h; have := key _ _ h; exact ⟨this.1, by omega, this.2.2⟩
  · rw [prs_f hc] at h; exact key _ _ h
end Go.Proofs.YtlchaocpejfikaaGreatDoor

/-
  The three tables of chapter 6's rows out of a row's condition; a world in which they lie. (A seat of three tables: instead of Door.)
-/
namespace Go.Proofs.YtlchaocpejfikaaGreatDoor
open Go.ChangeShapes Go.WideShapes Go.ChangeAt Go.RowKit

namespace door
theorem own : ownKnob Tryz.prog.godebug = none := by kernel_rfl
theorem laidOut : laidOutB Tryz.prog = true := by kernel_rfl
theorem gTab : Tryz.prog.globalNamed "math/bits.deBruijn64tab" = some 0 := by kernel_rfl
theorem tTab : (Tryz.prog.globals[0]?).map (·.type) = some 155 := by kernel_rfl
abbrev list1 : List (String × DataW Unit) := [("math/bits.deBruijn32tab", Rows.laid_math_bits_deBruijn32tab), ("math/bits.deBruijn64tab", Rows.laid_math_bits_deBruijn64tab), ("internal/strconv.uint64pow10", Rows.laid_internal_strconv_uint64pow10)]
theorem d64_eq : (Rows.laid_math_bits_deBruijn64tab : DataW Unit) = Lib.tabData .u8 (Lib.deBruijn64tab.map Int.ofNat) := by kernel_rfl
theorem p10_eq : (Rows.laid_internal_strconv_uint64pow10 : DataW Unit) = Lib.tabData .u64 Lib.pow10Tab := by kernel_rfl
theorem tab_len : (Lib.deBruijn64tab.map Int.ofNat).length = 64 := by decide
theorem met (os : Os) (args : Array Value) : laidMetH Tryz.prog list1 ((World.doorLaid Tryz.prog 14 os).forCall (fun _ _ => 0) ⟨#[], args, []⟩).memory :=
  laidMetH_of_parts3 (fuel := 8) (laidMet_of_run' 8 (by kernel_rfl) (by kernel_rfl)) (by kernel_rfl) (by kernel_rfl)
theorem parts {W : World} (h : laidMetH Tryz.prog list1 W) : Lib.TabIs Tryz.prog W "math/bits.deBruijn64tab" .u8 (Lib.deBruijn64tab.map Int.ofNat) ∧ Lib.TabIs Tryz.prog W "internal/strconv.uint64pow10" .u64 Lib.pow10Tab := by
  rw [MakeChecks.laidMetH_plain _ _ _ (by kernel_rfl)] at h
  unfold list1 at h
  rw [d64_eq, p10_eq] at h
  have h1 := laidMet.tail h
  have h2 := laidMet.tail h1
  exact ⟨Lib.tabIs_of_head (P := Tryz.prog) (W := W) (t := 155) (e := 5) (n := 64) gTab tTab Tryz.underlying155 Tryz.underlying5 (by kernel_rfl) (by kernel_rfl) h1,
    Lib.tabIs_of_head (P := Tryz.prog) (W := W) (g := 1) (t := 197) (e := 22) (n := 20) (by kernel_rfl) (by kernel_rfl) Tryz.underlying197 Tryz.underlying22 (by kernel_rfl) (by kernel_rfl) h2⟩
theorem tab {W : World} (h : laidMetH Tryz.prog list1 W) : Tab W := by
  have ht := (parts h).1
  intro j hj
  have hc := ht.cell gTab j (by rw [tab_len]; exact hj)
  rw [hc]
  congr 2
  have hl : j < Lib.deBruijn64tab.length := by have := tab_len; simp at this; omega
  simp [hl]
theorem p10 {W : World} (h : laidMetH Tryz.prog list1 W) : P10 W := by
  have ht := (parts h).2
  unfold Lib.TabIs World.var? at ht
  rw [show Tryz.prog.globalNamed "internal/strconv.uint64pow10" = some 1 by kernel_rfl] at ht
  simp only [Option.bind_some] at ht
  split at ht
  · next cs T fr e => injection ht with ht; subst ht; exact ⟨T, fr, e⟩
  · cases ht
end door
end Go.Proofs.YtlchaocpejfikaaGreatDoor

/-
  A law's row that lists laid variables, with the world's shape for the walk; what the library's variables hold then.
-/
namespace Go.Proofs.YtlchaocpejfikaaGreatDoor
open Go.ChangeShapes Go.WideShapes Go.ChangeAt Go.RowKit
variable {H : Type} {enc : TypeId × Value → H}

theorem returns_door {a : Assume} {C : Checked} {os : Os} {f : FuncId} {fn : Func} {s : ChangeSpec} {conds : List PathCond} {apart fresh handsOn again : Bool} {X : World → Array Value → Prop}
    (hX : ∀ (w w' : World) (args : Array Value), w.heap = w'.heap → X w args → X w' args)
    (own : ownKnob C.prog.godebug = none) (started : os.Started) (noInit : C.prog.inits.idxOf? f = none) (hfn : C.prog.funcs[f]? = some fn)
    (witness : ∃ (w : World) (tape : Tape) (i : Input), w.os = os ∧ (w.forCall tape i).Shaped C.prog ∧ i.vars = [] ∧ Input.okWide C.prog (w.forCall tape i) .any w.heap.size f i ∧
      ((s.pre enc C.prog fn conds apart (w.forCall tape i).memory i.args ∧ X (w.forCall tape i).memory i.args) ∧ sizedMet enc C.prog fn (OpenSpec.ofChange s) apart (w.forCall tape i).memory i.args) ∧ a.holds C.prog (lone (Frame.enter C.prog f i.args .normal) [] (w.forCall tape i)))
    (contract : ∀ (W : World) (base : Nat) (args : Array Value) (ds gs : List (DataW H)) (before : List MemPlace),
      (∀ (j : Nat) t v, fn.params[j]? = some t → args[j]? = some v → Value.okWide C.prog W .any base t v) →
      DataW.Whole enc C.prog fn.params.toList s.vars apart W args.toList ds gs before →
      (DataW.weightsEach C.prog (fn.params.toList ++ s.plain.varTypes C.prog) (ds ++ gs)).all (· ≤ reachBytes) = true → X W args → W.ShapedOpen C.prog →
      Calls C.prog f args W fun e W' => ∃ v, e = .returned v ∧ s.post enc C.prog fn apart fresh handsOn again W args v W') :
    ReturnsInHanded a C os f .any (fun w args => (s.pre enc C.prog fn conds apart w args ∧ X w args) ∧ sizedMet enc C.prog fn (OpenSpec.ofChange s) apart w args) (s.post enc C.prog fn apart fresh handsOn again) := by
  refine returnsInHanded_of_calls own started noInit witness ?_
  intro w tape i _ hsh _ hok hpre _
  obtain ⟨_, _, _, fn', hfn', _, _, _, _, hval⟩ := hok
  obtain rfl : fn' = fn := Option.some.inj (hfn'.symm.trans hfn)
  obtain ⟨⟨⟨ds, gs, before, hw, _⟩, hx⟩, hz⟩ := hpre
  refine (contract (w.forCall tape i) w.heap.size i.args ds gs before hval (DataW.Whole.of_heap (w' := w.forCall tape i) (by rfl) hw) (hz.weights hw) (hX _ _ _ (by rfl) hx) hsh).mono fun e W' ⟨v, he, hp⟩ => ?_
  subst he
  exact ChangeSpec.post_blind hp

theorem door.env0 {W : World} (h : laidMetH Tryz.prog door.list1 W) (hs : W.ShapedOpen Tryz.prog) : Env W :=
  ⟨door.tab h, cell_of_shapedOpen_int (zero := #[.int .i64 0]) (t := 3) (k := .i64) hs (of_decide_eq_true (by kernel_rfl)) (by kernel_rfl) rfl (by kernel_rfl) (by kernel_rfl) Tryz.underlying3⟩

/-- What a law of chapter 6 is given. -/
def Env6 (w : World) : Prop := Env w ∧ P10 w
theorem door.env {W : World} (h : laidMetH Tryz.prog door.list1 W) (hs : W.ShapedOpen Tryz.prog) : Env6 W := ⟨door.env0 h hs, door.p10 h⟩
end Go.Proofs.YtlchaocpejfikaaGreatDoor

/-
  The second form's rows that list laid variables: the wrap, with the world's shape for the walk.
-/
namespace Go.Proofs.YtlchaocpejfikaaGreatDoor
open Go.ChangeShapes Go.WideShapes Go.ChangeAt Go.RowKit
variable {H : Type} {enc : TypeId × Value → H}

theorem returns_doorU {a : Assume} {C : Checked} {os : Os} {f : FuncId} {fn : Func} {s : OpenSpec} {k : (H : Type) → List (DataW H) → Bool} (hk : s.cond = some k) {F : Stop.Interp} {conds : List PathCond} {apart fresh handsOn again : Bool} {X : World → Array Value → Prop}
    (hX : ∀ (w w' : World) (args : Array Value), w.heap = w'.heap → X w args → X w' args)
    (own : ownKnob C.prog.godebug = none) (started : os.Started) (noInit : C.prog.inits.idxOf? f = none) (hfn : C.prog.funcs[f]? = some fn)
    (witness : ∃ (w : World) (tape : Tape) (i : Input), w.os = os ∧ (w.forCall tape i).Shaped C.prog ∧ i.vars = [] ∧ Input.okWide C.prog (w.forCall tape i) .any w.heap.size f i ∧
      ((s.pre enc C.prog fn conds apart (w.forCall tape i).memory i.args ∧ X (w.forCall tape i).memory i.args) ∧ sizedMet enc C.prog fn s apart (w.forCall tape i).memory i.args) ∧ a.holds C.prog (lone (Frame.enter C.prog f i.args .normal) [] (w.forCall tape i)))
    (contract : ∀ (W : World) (base : Nat) (args : Array Value) (ds gs : List (DataW H)) (before : List MemPlace),
      (∀ (j : Nat) t v, fn.params[j]? = some t → args[j]? = some v → Value.okWide C.prog W .any base t v) →
      DataW.Whole enc C.prog fn.params.toList s.vars apart W args.toList ds gs before →
      k H (ds ++ gs) = true → X W args → W.ShapedOpen C.prog →
      Calls C.prog f args W fun e W' => ∃ v, e = .returned v ∧ (s.at F).post enc C.prog fn apart fresh handsOn again W args v W') :
    ReturnsInHanded a C os f .any (fun w args => (s.pre enc C.prog fn conds apart w args ∧ X w args) ∧ sizedMet enc C.prog fn s apart w args) ((s.at F).post enc C.prog fn apart fresh handsOn again) := by
  refine returnsInHanded_of_calls own started noInit witness ?_
  intro w tape i _ hsh _ hok hpre _
  obtain ⟨_, _, _, fn', hfn', _, _, _, _, hval⟩ := hok
  obtain rfl : fn' = fn := Option.some.inj (hfn'.symm.trans hfn)
  obtain ⟨⟨hp0, hx⟩, _⟩ := hpre
  obtain ⟨ds, gs, before, hw, _, hkk⟩ := (OpenSpec.pre_some hk conds apart _ _).1 hp0
  refine (contract (w.forCall tape i) w.heap.size i.args ds gs before hval (DataW.Whole.of_heap (w' := w.forCall tape i) (by rfl) hw) hkk (hX _ _ _ (by rfl) hx) hsh).mono fun e W' ⟨v, he, hp⟩ => ?_
  subst he
  exact ChangeSpec.post_blind hp

theorem witnessU {C : Checked} {os : Os} {f : FuncId} {fn : Func} {s : OpenSpec} {k : (H : Type) → List (DataW H) → Bool} (hk : s.cond = some k) {conds : List PathCond} {apart : Bool} {X : World → Array Value → Prop} (modest : Bool) (w0 : World) (args : Array Value) (fuel : Nat) (hos : w0.os = os)
    (hsh : (w0.forCall (fun _ _ => 0) ⟨#[], args, []⟩).Shaped C.prog)
    (hok : Input.okWideB C.prog (w0.forCall (fun _ _ => 0) ⟨#[], args, []⟩) f ⟨#[], args, []⟩ = true)
    {x : List (DataW H) × List (DataW H) × List MemPlace} (hx : DataW.whole enc C.prog (w0.forCall (fun _ _ => 0) ⟨#[], args, []⟩).memory fn.params.toList s.vars apart args.toList fuel = some x)
    (hconds : conds.all (PathCond.test C.prog ⟨fn.params.toList, x.1, s.bare.plain.varTypes C.prog, x.2.1⟩) = true) (hkk : k H (x.1 ++ x.2.1) = true)
    (hsz : s.bare.sizedB enc C.prog fn apart (w0.forCall (fun _ _ => 0) ⟨#[], args, []⟩).memory args fuel = true)
    (hX : X (w0.forCall (fun _ _ => 0) ⟨#[], args, []⟩).memory args) :
    ∃ (w : World) (tape : Tape) (i : Input), w.os = os ∧ (w.forCall tape i).Shaped C.prog ∧ i.vars = [] ∧ Input.okWide C.prog (w.forCall tape i) .any w.heap.size f i ∧
      ((s.pre enc C.prog fn conds apart (w.forCall tape i).memory i.args ∧ X (w.forCall tape i).memory i.args) ∧ sizedMet enc C.prog fn s apart (w.forCall tape i).memory i.args) ∧ ({ modest := modest } : Assume).holds C.prog (lone (Frame.enter C.prog f i.args .normal) [] (w.forCall tape i)) :=
  ⟨w0, fun _ _ => 0, ⟨#[], args, []⟩, hos, hsh, (Input.okWide_of_okWideB (base := 0) hok).1, (Input.okWide_of_okWideB hok).2,
    ⟨⟨(OpenSpec.pre_some hk conds apart _ _).2 ⟨x.1, x.2.1, x.2.2, DataW.Whole_of_whole hx, hconds, hkk⟩, hX⟩, sizedMet_of_sizedB hsz⟩, by
    simp only [Assume.holds]
    exact ⟨by simp, by simp, fun _ => Modest.zero, by simp, by simp⟩⟩
end Go.Proofs.YtlchaocpejfikaaGreatDoor
