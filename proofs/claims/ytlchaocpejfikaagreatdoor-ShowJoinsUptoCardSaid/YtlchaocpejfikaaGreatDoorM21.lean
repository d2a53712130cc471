/-
  Merged texts of this claim: ShowH, ShowI, ShowJ, ShowK.
-/
import Derived.Test.YtlchaocpejfikaaGreatDoorM18
import Derived.Test.YtlchaocpejfikaaGreatDoorM19
import Derived.Test.YtlchaocpejfikaaGreatDoorM20

/-
  Package show: a tree as a text, in plain words; node.
-/
namespace Go.Proofs.YtlchaocpejfikaaGreatDoor
open Go.RowKit

mutual
/-- A tree as an extended regex. -/
def Nd.txt : Nd → List UInt8
  | .nil | .empty => []
  | .one s => setT s
  | .cat l => Nd.txts l
  | .alt l => Nd.txta l
  | .rep x mn mx => x.txt ++ timesT mn mx
  | .group _ x => [40] ++ (x.txt ++ [41])
  | .back n => [92] ++ Lib.decDigits n.toNat
  | .start => [94]
  | .fin => [36]
def Nd.txts : List Nd → List UInt8
  | [] => []
  | x :: r => x.txt ++ Nd.txts r
def Nd.txta : List Nd → List UInt8
  | [] => []
  | [x] => x.txt
  | x :: y :: r => x.txt ++ ([124] ++ Nd.txta (y :: r))
end
mutual
/-- What can be told so. -/
def Nd.shw : Nd → Prop
  | .one s => s.fit
  | .cat l | .alt l => Nd.shws l
  | .rep x mn mx => x.shw ∧ repOk true mn mx = true
  | .group _ x => x.shw
  | .back n => 0 ≤ n ∧ n ≤ 100000
  | _ => True
def Nd.shws : List Nd → Prop
  | [] => True
  | x :: r => x.shw ∧ Nd.shws r
end
theorem Nd.shws_mem {l : List Nd} (h : Nd.shws l) : ∀ x ∈ l, x.shw := by
  induction l with
  | nil => intro x hx; cases hx
  | cons a r ih => intro x hx; rcases List.mem_cons.1 hx with rfl | hx; exact h.1; exact ih h.2 x hx
theorem timesT_le {mn mx : Int} (h : repOk true mn mx = true) : (timesT mn mx).length ≤ 15 := by
  unfold repOk at h
  simp only [Bool.true_and, Bool.and_eq_true, Bool.or_eq_true, decide_eq_true_eq, beq_iff_eq] at h
  have h1 := dec_len mn.toNat (by omega)
  have h2 := dec_len mx.toNat (by omega)
  unfold timesT
  split
  · simp
  · split
    · simp
    · split
      · simp
      · split
        · simp; omega
        · split
          · simp; omega
          · simp; omega
mutual
theorem Nd.txt_le : ∀ n : Nd, n.shw → n.txt.length + 1 ≤ 3000 * n.size
  | .nil, _ | .empty, _ => by simp [Nd.txt, Nd.size]
  | .start, _ | .fin, _ => by simp [Nd.txt, Nd.size]
  | .one s, _ => by have := setT_le s; simp only [Nd.txt, Nd.size]; omega
  | .cat l, h => by have := Nd.txts_le l h; simp only [Nd.txt, Nd.size]; omega
  | .alt l, h => by have := Nd.txta_le l h; simp only [Nd.txt, Nd.size]; omega
  | .rep x mn mx, h => by have := Nd.txt_le x h.1; have := timesT_le h.2; simp only [Nd.txt, Nd.size, List.length_append]; omega
  | .group _ x, h => by have := Nd.txt_le x h; simp only [Nd.txt, Nd.size, List.length_append, List.length_singleton]; omega
  | .back n, h => by have := dec_len n.toNat (by have := h.2; omega); simp only [Nd.txt, Nd.size, List.length_append, List.length_singleton]; omega
theorem Nd.txts_le : ∀ l : List Nd, Nd.shws l → (Nd.txts l).length ≤ 3000 * Nd.sizes l
  | [], _ => by simp [Nd.txts]
  | x :: r, h => by have := Nd.txt_le x h.1; have := Nd.txts_le r h.2; simp only [Nd.txts, Nd.sizes, List.length_append]; omega
theorem Nd.txta_le : ∀ l : List Nd, Nd.shws l → (Nd.txta l).length ≤ 3000 * Nd.sizes l
  | [], _ => by simp [Nd.txta]
  | [x], h => by have := Nd.txt_le x h.1; simp only [Nd.txta, Nd.sizes]; omega
  | x :: y :: r, h => by
    have h1 := Nd.txt_le x h.1
    have h2 := Nd.txta_le (y :: r) h.2
    rw [Nd.txta, List.length_append, List.length_append, Nd.sizes]
    simp only [List.length_singleton]
    omega
end
theorem Nd.txts_append : ∀ l m : List Nd, Nd.txts (l ++ m) = Nd.txts l ++ Nd.txts m
  | [], _ => rfl
  | x :: r, m => by simp only [List.cons_append, Nd.txts, Nd.txts_append r m, List.append_assoc]
theorem Nd.txta_snoc : ∀ (l : List Nd) (x : Nd), Nd.txta (l ++ [x]) = Nd.txta l ++ ((if l = [] then [] else [124]) ++ x.txt)
  | [], x => rfl
  | [y], x => rfl
  | y :: z :: r, x => by
    have := Nd.txta_snoc (z :: r) x
    rw [List.cons_append] at this
    rw [List.cons_append, List.cons_append, Nd.txta, this, Nd.txta]
    simp [List.append_assoc]
theorem Nd.txts_take {l : List Nd} {k : Nat} (h : k < l.length) : Nd.txts (l.take (k + 1)) = Nd.txts (l.take k) ++ l[k].txt := by
  rw [List.take_succ_eq_append_getElem h, Nd.txts_append]; simp [Nd.txts]
theorem Nd.txta_take {l : List Nd} {k : Nat} (h : k < l.length) : Nd.txta (l.take (k + 1)) = Nd.txta (l.take k) ++ ((if k = 0 then [] else [124]) ++ l[k].txt) := by
  rw [List.take_succ_eq_append_getElem h, Nd.txta_snoc]
  congr 3
  rw [eq_iff_iff]
  constructor
  · intro e; have := congrArg List.length e; rw [List.length_take, Nat.min_eq_left (Nat.le_of_lt h)] at this; simpa using this
  · rintro rfl; rfl
theorem Nd.shws_take {l : List Nd} (h : Nd.shws l) : ∀ k, Nd.shws (l.take k) := by
  induction l with
  | nil => intro k; simp [Nd.shws]
  | cons a r ih => intro k; cases k with
    | zero => trivial
    | succ k => exact ⟨h.1, ih h.2 k⟩
end Go.Proofs.YtlchaocpejfikaaGreatDoor

/-
  Package show: node, Ere.
-/
namespace Go.Proofs.YtlchaocpejfikaaGreatDoor
open Go.RowKit

/-- The contract of node at a tree. -/
def NdAt (W0 : World) (n : Nd) : Prop := ∀ (K : Nat → Prop) (b : Nat) (out : List UInt8) (w : World) (v : Value), RN nob W0 n v → TxW W0 K b out w → out.length + 3000 * n.size ≤ 10000000000000 →
  Calls Tryz.prog 37 #[.pointer (some ⟨b, 0, none⟩), v] w (TxA W0 K b (out ++ n.txt) w (.tuple #[]))

section
variable {W0 : World} (hE : Env W0) (hP : P10 W0)
include hE
set_option maxRecDepth 100000 in
set_option maxHeartbeats 4000000 in
theorem node_one (s : S4) (hs : s.fit) : NdAt W0 (.one s) := by
  intro K b out w v hv h hlen
  rw [RN] at hv
  obtain rfl : v = .iface 71 (.agg #[.int .u64 s.a, .int .u64 s.b, .int .u64 s.c, .int .u64 s.d]) := hv
  have hd : (Nd.one s).txt = setT s := rfl
  have hsz : (Nd.one s).size = 1 := rfl
  rw [hd]
  rw [hsz] at hlen
  obtain ⟨w1, hw1⟩ : ∃ w1, w1 = w.alloc (.cells #[.int .u64 s.a, .int .u64 s.b, .int .u64 s.c, .int .u64 s.d] 71) := ⟨_, rfl⟩
  have f1 : Fr nob w w1 := by rw [hw1]; exact (Fr.refl _ _).alloc _
  have hb1 : w1.heap[w.heap.size]? = some (.cells #[.int .u64 s.a, .int .u64 s.b, .int .u64 s.c, .int .u64 s.d] 71 (0, 0)) := by rw [hw1]; exact newAt _ _
  have r1 := rule4 hb1
  have H1 := Lib.hid (h.quiet f1); have F1 := Lib.hid f1; have HW1 := Lib.hid hw1; have HE := Lib.hid hE; have HS := Lib.hid hs
  clear h f1 hw1 hb1 hE hs
  go_enter Tryz.func37, Tryz.ntmps37
  go_wp2_with (rw [← HW1.out])
  refine (show_set s HS.out HE.out H1.out (by omega)).mono ?_
  rintro e w2 ⟨rfl, h2, f2⟩
  have H2 := Lib.hid h2; have F2 := Lib.hid f2; clear h2 f2
  go_wp2
  go_end0
  exact ⟨rfl, H2.out, F1.out.toTx.trans F2.out (fun _ _ x => x)⟩
omit hE in
set_option maxRecDepth 100000 in
set_option maxHeartbeats 4000000 in
theorem node_small (n : Nd) (hn : n = .nil ∨ n = .empty ∨ n = .start ∨ n = .fin) : NdAt W0 n := by
  intro K b out w v hv h hlen
  have H := Lib.hid h
  have hl : out.length ≤ 10000000000000 := by omega
  clear h hlen
  rcases hn with rfl | rfl | rfl | rfl
  · rw [RN] at hv; subst hv
    go_enter Tryz.func37, Tryz.ntmps37
    go_wp2
    go_end0
    exact ⟨rfl, by simpa [Nd.txt] using H.out, Fr.refl _ _⟩
  · rw [RN] at hv; subst hv
    go_enter Tryz.func37, Tryz.ntmps37
    go_wp2
    go_end0
    exact ⟨rfl, by simpa [Nd.txt] using H.out, Fr.refl _ _⟩
  · rw [RN] at hv; subst hv
    have HA := Lib.hid (fun o => H.out.quiet ((Fr.refl nob w).alloc o))
    go_enter Tryz.func37, Tryz.ntmps37
    go_wp2_with fail
    refine (tx_byte 94 94 (by decide) rfl (HA.out _) (by omega)).mono ?_
    rintro e w2 ⟨rfl, h2, f2⟩
    have H2 := Lib.hid h2; have F2 := Lib.hid f2; clear h2 f2
    go_wp2
    go_end0
    exact ⟨rfl, H2.out, (((Fr.refl nob w).alloc _).toTx).trans F2.out (fun _ _ x => x)⟩
  · rw [RN] at hv; subst hv
    have HA := Lib.hid (fun o => H.out.quiet ((Fr.refl nob w).alloc o))
    go_enter Tryz.func37, Tryz.ntmps37
    go_wp2_with fail
    refine (tx_byte 36 36 (by decide) rfl (HA.out _) (by omega)).mono ?_
    rintro e w2 ⟨rfl, h2, f2⟩
    have H2 := Lib.hid h2; have F2 := Lib.hid f2; clear h2 f2
    go_wp2
    go_end0
    exact ⟨rfl, H2.out, (((Fr.refl nob w).alloc _).toTx).trans F2.out (fun _ _ x => x)⟩
omit hE in
set_option maxRecDepth 100000 in
set_option maxHeartbeats 4000000 in
theorem node_cat (l : List Nd) (hs : Nd.shws l) (ih : ∀ x ∈ l, NdAt W0 x) : NdAt W0 (.cat l) := by
  intro K b out w v hv h hlen
  obtain ⟨u, rfl, sn⟩ := RN_cat.1 hv
  obtain ⟨a, c, rfl⟩ := sn.shape
  have hd : (Nd.cat l).txt = Nd.txts l := by rw [Nd.txt]
  have hsz : (Nd.cat l).size = 1 + Nd.sizes l := by simp only [Nd.size]
  rw [hd]
  rw [hsz] at hlen
  have hll := Nd.length_le l
  have hbl : l.length ≤ 10000000000000 := by omega
  have HA := Lib.hid (fun o => h.quiet ((Fr.refl nob w).alloc o))
  have SN0 := Lib.hid sn; have IH := Lib.hid ih; have HS := Lib.hid hs; have HLEN := Lib.hid hlen
  have HF := Lib.hid h.fr
  clear h sn ih hs hlen hv
  go_enter Tryz.func37, Tryz.ntmps37
  go_wp2_with fail
  obtain ⟨w1, hw1⟩ : ∃ w1, w1 = w.alloc (.cells #[.slice a l.length c] 73) := ⟨_, rfl⟩
  have HW1 := Lib.hid hw1
  have H1 := Lib.hid (show TxW W0 K b out w1 by rw [hw1]; exact HA.out _)
  have F1 := Lib.hid (show Fr (Txn W0 K) w w1 by rw [hw1]; exact ((Fr.refl nob w).alloc _).toTx)
  clear hw1 HA
  go_wp2_with (rw [← HW1.out])
  go_loopw [30] (fun i wr => ∃ k : Nat, i = .int .i64 k ∧ k ≤ l.length ∧ TxW W0 K b (out ++ Nd.txts (l.take k)) wr ∧ Fr (Txn W0 K) w wr) (fun i _ => l.length - (intOf i).toNat)
  case atStart => exact ⟨0, rfl, Nat.zero_le _, by simpa [Nd.txts] using H1.out, F1.out⟩
  case round =>
    obtain ⟨k, rfl, hk, tx, fr⟩ := hrel
    have HR := Lib.hid tx; have FR := Lib.hid fr; clear tx fr
    by_cases hlt : k < l.length
    · obtain ⟨g, off, cap, x, he, hx, hc⟩ := SN0.out.get hlt
      injection he with e1 e2 e3
      subst e1; subst e3
      have hc' := HR.out.fr.cell hc (fun x => x)
      have htk := Nd.txts_take hlt
      have hle := Nd.txts_le _ (Nd.shws_take HS.out k)
      have hst := Nd.sizes_take hlt
      have hsl := Nd.sizes_take_le l (k + 1)
      have HX := Lib.hid hx; have HTK := Lib.hid htk
      have hnk := IH.out l[k] (List.getElem_mem hlt) K b (out ++ Nd.txts (l.take k)) wr x hx HR.out (by rw [List.length_append]; have := HLEN.out; omega)
      have HNK := Lib.hid hnk
      clear e2 hc hx htk hnk hle hst hsl
      go_wp2_with fail
      refine HNK.out.mono ?_
      rintro e w2 ⟨rfl, h2, f2⟩
      rw [List.append_assoc, ← HTK.out] at h2
      have H2 := Lib.hid h2; have F2 := Lib.hid (FR.out.trans f2 (fun _ _ x => x)); clear h2 f2
      go_wp2
      go_roundw
      case rel => exact ⟨k + 1, by go_num, by omega, H2.out, F2.out⟩
      case measure => simp [intOf]; omega
    · obtain rfl : k = l.length := by omega
      have hT := List.take_of_length_le (l := l) (Nat.le_refl _)
      rw [hT] at HR
      go_wp2
      go_end0
      exact ⟨rfl, HR.out, FR.out⟩
omit hE in
set_option maxRecDepth 100000 in
set_option maxHeartbeats 4000000 in
theorem node_alt (l : List Nd) (hs : Nd.shws l) (ih : ∀ x ∈ l, NdAt W0 x) : NdAt W0 (.alt l) := by
  intro K b out w v hv h hlen
  obtain ⟨u, rfl, sn⟩ := RN_alt.1 hv
  obtain ⟨a, c, rfl⟩ := sn.shape
  have hd : (Nd.alt l).txt = Nd.txta l := by rw [Nd.txt]
  have hsz : (Nd.alt l).size = 1 + Nd.sizes l := by simp only [Nd.size]
  rw [hd]
  rw [hsz] at hlen
  have hll := Nd.length_le l
  have hbl : l.length ≤ 10000000000000 := by omega
  have HA := Lib.hid (fun o => h.quiet ((Fr.refl nob w).alloc o))
  have SN0 := Lib.hid sn; have IH := Lib.hid ih; have HS := Lib.hid hs; have HLEN := Lib.hid hlen
  have HF := Lib.hid h.fr
  clear h sn ih hs hlen hv
  go_enter Tryz.func37, Tryz.ntmps37
  go_wp2_with fail
  obtain ⟨w1, hw1⟩ : ∃ w1, w1 = w.alloc (.cells #[.slice a l.length c] 74) := ⟨_, rfl⟩
  have HW1 := Lib.hid hw1
  have H1 := Lib.hid (show TxW W0 K b out w1 by rw [hw1]; exact HA.out _)
  have F1 := Lib.hid (show Fr (Txn W0 K) w w1 by rw [hw1]; exact ((Fr.refl nob w).alloc _).toTx)
  clear hw1 HA
  go_wp2_with (rw [← HW1.out])
  go_loopw [44] (fun i wr => ∃ k : Nat, i = .int .i64 k ∧ k ≤ l.length ∧ TxW W0 K b (out ++ Nd.txta (l.take k)) wr ∧ Fr (Txn W0 K) w wr) (fun i _ => l.length - (intOf i).toNat)
  case atStart => exact ⟨0, rfl, Nat.zero_le _, by simpa [Nd.txta] using H1.out, F1.out⟩
  case round =>
    obtain ⟨k, rfl, hk, tx, fr⟩ := hrel
    have HR := Lib.hid tx; have FR := Lib.hid fr; clear tx fr
    by_cases hlt : k < l.length
    · obtain ⟨g, off, cap, x, he, hx, hc⟩ := SN0.out.get hlt
      injection he with e1 e2 e3
      subst e1; subst e3
      have hc' := HR.out.fr.cell hc (fun x => x)
      have htk := Nd.txta_take hlt
      have hle := Nd.txta_le _ (Nd.shws_take HS.out k)
      have hst := Nd.sizes_take hlt
      have hsl := Nd.sizes_take_le l (k + 1)
      have hxp := l[k].size_pos
      have HX := Lib.hid hx
      have hnk := fun o w' (h : TxW W0 K b o w') (hl : o.length ≤ out.length + (Nd.txta (l.take k)).length + 1) => IH.out l[k] (List.getElem_mem hlt) K b o w' x hx h (by have := HLEN.out; omega)
      have HNK := Lib.hid hnk
      clear e2 hc hx hnk hst hsl
      by_cases h0 : k = 0
      · have q : ¬ (0 : Int) < (k : Int) := by omega
        rw [if_pos h0, List.nil_append] at htk
        have HTK := Lib.hid htk
        clear htk h0 hle
        go_wp2_with fail
        refine (HNK.out _ _ HR.out (by rw [List.length_append]; omega)).mono ?_
        rintro e w2 ⟨rfl, h2, f2⟩
        rw [List.append_assoc, ← HTK.out] at h2
        have H2 := Lib.hid h2; have F2 := Lib.hid (FR.out.trans f2 (fun _ _ x => x)); clear h2 f2
        go_wp2
        go_roundw
        case rel => exact ⟨k + 1, by go_num, by omega, H2.out, F2.out⟩
        case measure => simp [intOf]; omega
      · have q : (0 : Int) < (k : Int) := by omega
        rw [if_neg h0] at htk
        have HTK := Lib.hid htk
        have hbo : (out ++ Nd.txta (l.take k)).length ≤ 140737488355327 := by rw [List.length_append]; have := HLEN.out; have h1 := Nd.sizes_take_le l k; omega
        clear htk h0 hle
        go_wp2_with fail
        refine (tx_byte 124 124 (by decide) rfl HR.out hbo).mono ?_
        rintro e w2 ⟨rfl, h2, f2⟩
        have H2 := Lib.hid h2; have F2 := Lib.hid (FR.out.trans f2 (fun _ _ x => x)); clear h2 f2
        go_wp2_with fail
        refine (HNK.out _ _ H2.out (by rw [List.length_append, List.length_append]; simp)).mono ?_
        rintro e w3 ⟨rfl, h3, f3⟩
        rw [List.append_assoc, List.append_assoc, ← HTK.out] at h3
        have H3 := Lib.hid h3; have F3 := Lib.hid (F2.out.trans f3 (fun _ _ x => x)); clear h3 f3
        go_wp2
        go_roundw
        case rel => exact ⟨k + 1, by go_num, by omega, H3.out, F3.out⟩
        case measure => simp [intOf]; omega
    · obtain rfl : k = l.length := by omega
      have hT := List.take_of_length_le (l := l) (Nat.le_refl _)
      rw [hT] at HR
      go_wp2
      go_end0
      exact ⟨rfl, HR.out, FR.out⟩
end
end Go.Proofs.YtlchaocpejfikaaGreatDoor

/-
  Package show: node at repetitions, groups, references; Ere.
-/
namespace Go.Proofs.YtlchaocpejfikaaGreatDoor
open Go.RowKit

section
variable {W0 : World}
set_option maxRecDepth 100000 in
set_option maxHeartbeats 4000000 in
theorem node_rep (t : Nd) (mn mx : Int) (hP : P10 W0) (hr : repOk true mn mx = true) (hs : t.shw) (ih : NdAt W0 t) : NdAt W0 (.rep t mn mx) := by
  intro K b out w v hv h hlen
  rw [RN] at hv
  obtain ⟨u, rfl, hu⟩ := hv
  have hd : (Nd.rep t mn mx).txt = t.txt ++ timesT mn mx := by rw [Nd.txt]
  have hsz : (Nd.rep t mn mx).size = 1 + t.size := by simp only [Nd.size]
  rw [hd]
  rw [hsz] at hlen
  have htl := t.txt_le hs
  have hbl : out.length ≤ 10000000000000 := by omega
  have hb2 : out.length + t.txt.length ≤ 9999999999000 := by omega
  obtain ⟨w1, hw1⟩ : ∃ w1, w1 = w.alloc (.cells #[u, .int .i64 mn, .int .i64 mx] 76) := ⟨_, rfl⟩
  have hz1 : w1.heap[w.heap.size]? = some (.cells #[u, .int .i64 mn, .int .i64 mx] 76 (0, 0)) := by rw [hw1]; exact newAt _ _
  have c0 := cell_at (j := 0) (v := u) hz1 rfl
  have H1 := Lib.hid (show TxW W0 (fun k => K k ∨ k = w.heap.size) b out w1 by rw [hw1]; exact h.alloc _ h.lt)
  have F1 := Lib.hid (show Fr (Txn W0 K) w w1 by rw [hw1]; exact ((Fr.refl nob w).alloc _).toTx)
  have HW1 := Lib.hid hw1; have HZ1 := Lib.hid hz1
  have hnk := ih (fun k => K k ∨ k = w.heap.size) b out w1 u hu H1.out (by omega)
  have HNK := Lib.hid hnk; have HP := Lib.hid hP; have HRR := Lib.hid hr
  rcases hu.shape with rfl | ⟨i, x, rfl⟩
  all_goals
    clear h hnk hlen hw1 hz1 hP hr hu ih
    go_enter Tryz.func37, Tryz.ntmps37
    go_wp2_with (rw [← HW1.out])
    refine HNK.out.mono ?_
    rintro e w2 ⟨rfl, h2, f2⟩
    have hz2 := f2.heap HZ1.out (fun x => x (.inr (.inr rfl)))
    have k1 := cell_at (j := 1) (v := .int .i64 mn) hz2 rfl
    have k2 := cell_at (j := 2) (v := .int .i64 mx) hz2 rfl
    have H2 := Lib.hid h2; have F2 := Lib.hid (F1.out.trans f2 (fun _ _ x => Txn.less (fun _ => .inl) x)); clear h2 f2 hz2
    go_wp2_with fail
    refine (show_times mn mx H2.out (by rw [List.length_append]; omega) HP.out HRR.out).mono ?_
    rintro e w3 ⟨rfl, h3, f3⟩
    have H3 := Lib.hid h3; have F3 := Lib.hid (F2.out.trans f3 (fun _ _ x => Txn.less (fun _ => .inl) x)); clear h3 f3
    go_wp2
    go_end0
    refine ⟨rfl, ?_, F3.out⟩
    have := H3.out.less (K' := K) (fun _ => .inl)
    rw [List.append_assoc] at this
    exact this
set_option maxRecDepth 100000 in
set_option maxHeartbeats 4000000 in
theorem node_group (n : Int) (t : Nd) (hs : t.shw) (ih : NdAt W0 t) : NdAt W0 (.group n t) := by
  intro K b out w v hv h hlen
  rw [RN] at hv
  obtain ⟨u, rfl, hu⟩ := hv
  have hd : (Nd.group n t).txt = [40] ++ (t.txt ++ [41]) := by rw [Nd.txt]
  have hsz : (Nd.group n t).size = 1 + t.size := by simp only [Nd.size]
  rw [hd]
  rw [hsz] at hlen
  have htl := t.txt_le hs
  have hbl : out.length ≤ 10000000000000 := by omega
  have hb2 : out.length + t.txt.length ≤ 9999999999000 := by omega
  obtain ⟨w1, hw1⟩ : ∃ w1, w1 = w.alloc (.cells #[.int .i64 n, u] 78) := ⟨_, rfl⟩
  have hz1 : w1.heap[w.heap.size]? = some (.cells #[.int .i64 n, u] 78 (0, 0)) := by rw [hw1]; exact newAt _ _
  have H1 := Lib.hid (show TxW W0 (fun k => K k ∨ k = w.heap.size) b out w1 by rw [hw1]; exact h.alloc _ h.lt)
  have F1 := Lib.hid (show Fr (Txn W0 K) w w1 by rw [hw1]; exact ((Fr.refl nob w).alloc _).toTx)
  have HW1 := Lib.hid hw1; have HZ1 := Lib.hid hz1
  have hnk := fun w' (h' : TxW W0 (fun k => K k ∨ k = w.heap.size) b (out ++ [40]) w') => ih (fun k => K k ∨ k = w.heap.size) b (out ++ [40]) w' u hu h' (by rw [List.length_append]; simp; omega)
  have HNK := Lib.hid hnk
  rcases hu.shape with rfl | ⟨i, x, rfl⟩
  all_goals
    clear h hnk hlen hw1 hz1 hu ih
    go_enter Tryz.func37, Tryz.ntmps37
    go_wp2_with (rw [← HW1.out])
    refine (tx_byte 40 40 (by decide) rfl H1.out (by omega)).mono ?_
    rintro e w2 ⟨rfl, h2, f2⟩
    have hz2 := f2.heap HZ1.out (fun x => x (.inr (.inr rfl)))
    have k1 := cell_at (j := 1) hz2 rfl
    have H2 := Lib.hid h2; have F2 := Lib.hid (F1.out.trans f2 (fun _ _ x => Txn.less (fun _ => .inl) x)); clear h2 f2 hz2
    go_wp2_with fail
    refine (HNK.out w2 H2.out).mono ?_
    rintro e w3 ⟨rfl, h3, f3⟩
    have H3 := Lib.hid h3; have F3 := Lib.hid (F2.out.trans f3 (fun _ _ x => Txn.less (fun _ => .inl) x)); clear h3 f3
    go_wp2_with fail
    refine (tx_byte 41 41 (by decide) rfl H3.out (by simp; omega)).mono ?_
    rintro e w4 ⟨rfl, h4, f4⟩
    have H4 := Lib.hid h4; have F4 := Lib.hid (F3.out.trans f4 (fun _ _ x => Txn.less (fun _ => .inl) x)); clear h4 f4
    go_wp2
    go_end0
    refine ⟨rfl, ?_, F4.out⟩
    have := H4.out.less (K' := K) (fun _ => .inl)
    rw [List.append_assoc, List.append_assoc] at this
    exact this
set_option maxRecDepth 100000 in
set_option maxHeartbeats 4000000 in
theorem node_back (n : Int) (hP : P10 W0) (h0 : 0 ≤ n) (h1 : n ≤ 100000) : NdAt W0 (.back n) := by
  intro K b out w v hv h hlen
  rw [RN] at hv
  subst hv
  obtain ⟨m, rfl⟩ : ∃ m : Nat, (m : Int) = n := ⟨n.toNat, by omega⟩
  have hd : (Nd.back (m : Int)).txt = [92] ++ Lib.decDigits m := by rw [Nd.txt]; rfl
  rw [hd]
  have hbl : out.length ≤ 10000000000000 := by omega
  have hdl := dec_len m (by omega)
  obtain ⟨D, hD⟩ : ∃ D, Lib.decDigits m = D := ⟨_, rfl⟩
  have HI := Lib.hid (fun w' (f : Fr nob W0 w') => itoa_any m w' (by omega) (hP.on f))
  rw [hD] at HI hdl ⊢
  obtain ⟨X, hX⟩ : ∃ X, [92] ++ D = X := ⟨_, rfl⟩
  have hXl : X.length ≤ 7 := by rw [← hX]; simp; omega
  have ar : ∀ w', (Op.stringOp .add ⟨#[92]⟩ ⟨D.toArray⟩).run Tryz.prog w' = .ok (.string ⟨X.toArray⟩) w' := fun w' => by rw [← hX]; exact run_string_add_lists w' [92] D (by decide) (by omega)
  rw [hX]
  obtain ⟨w1, hw1⟩ : ∃ w1, w1 = w.alloc (.cells #[.int .i64 (m : Int)] 80) := ⟨_, rfl⟩
  have hz1 : w1.heap[w.heap.size]? = some (.cells #[.int .i64 (m : Int)] 80 (0, 0)) := by rw [hw1]; exact newAt _ _
  have kv := cell_keptv (cell_at (j := 0) (v := .int .i64 (m : Int)) hz1 rfl)
  have H1 := Lib.hid (show TxW W0 K b out w1 by rw [hw1]; exact h.quiet ((Fr.refl nob w).alloc _))
  have F1 := Lib.hid (show Fr nob w w1 by rw [hw1]; exact (Fr.refl nob w).alloc _)
  have HW1 := Lib.hid hw1
  clear h hlen hw1 hz1 hD hX hP
  go_enter Tryz.func37, Tryz.ntmps37
  go_wp2_with (rw [← HW1.out])
  refine region_fr 7 (by kernel_rfl) (by kernel_rfl) ?_
  simp only [List.take_succ_cons, List.take_zero, List.drop_succ_cons, List.drop_zero]
  repeat (quiet_step ((with_reducible exact calls_fr (HI.out _ (Fr.trans' H1.out.fr (grown_fr _ _ _))))))
  refine wpQuiet_nil ?_
  intro w4 f4
  have H4 := Lib.hid (H1.out.quiet f4); have F4 := Lib.hid (Fr.toTx (W0 := W0) (K := K) (F1.out.trans' f4)); clear f4
  go_wp2_with fail
  refine (tx_str X H4.out (by omega)).mono ?_
  rintro e w5 ⟨rfl, h5, f5⟩
  have H5 := Lib.hid h5; have F5 := Lib.hid (F4.out.trans f5 (fun i _ x => x)); clear h5 f5
  go_wp2
  go_end0
  exact ⟨rfl, H5.out, F5.out⟩
end
theorem node_any {W0 : World} (hE : Env W0) (hP : P10 W0) (m : Nat) : ∀ n : Nd, n.size ≤ m → n.shw → NdAt W0 n := by
  induction m with
  | zero => intro n h; have := n.size_pos; omega
  | succ m ih =>
    intro n hm hs
    match n, hm, hs with
    | .nil, _, _ => exact node_small _ (.inl rfl)
    | .empty, _, _ => exact node_small _ (.inr (.inl rfl))
    | .start, _, _ => exact node_small _ (.inr (.inr (.inl rfl)))
    | .fin, _, _ => exact node_small _ (.inr (.inr (.inr rfl)))
    | .one s, _, hs => exact node_one hE s hs
    | .cat l, hm, hs => exact node_cat l hs (fun x hx => ih x (by have := Nd.kid_lt (n := .cat l) (t := x) hx; omega) (Nd.shws_mem hs x hx))
    | .alt l, hm, hs => exact node_alt l hs (fun x hx => ih x (by have := Nd.kid_lt (n := .alt l) (t := x) hx; omega) (Nd.shws_mem hs x hx))
    | .rep t mn mx, hm, hs => exact node_rep t mn mx hP hs.2 hs.1 (ih t (by simp only [Nd.size] at hm; omega) hs.1)
    | .group n t, hm, hs => exact node_group n t hs (ih t (by simp only [Nd.size] at hm; omega) hs)
    | .back n, _, hs => exact node_back n hP hs.1 hs.2
end Go.Proofs.YtlchaocpejfikaaGreatDoor

/-
  Package show: Ere.
-/
namespace Go.Proofs.YtlchaocpejfikaaGreatDoor
open Go.RowKit

mutual
/-- The sets of a tree are sets. -/
def Nd.fits : Nd → Prop
  | .one s => s.fit
  | .cat l | .alt l => Nd.fitss l
  | .rep x _ _ | .group _ x => x.fits
  | _ => True
def Nd.fitss : List Nd → Prop
  | [] => True
  | x :: r => x.fits ∧ Nd.fitss r
end
theorem repOk_true {a : Bool} {mn mx : Int} (h : repOk a mn mx = true) : repOk true mn mx = true := by
  cases a with
  | true => exact h
  | false => cases h
mutual
theorem Nd.look_shw : ∀ (n : Nd) (o : Int) (c : List Int) (o' : Int) (c' : List Int), n.look o c = some (o', c') → 0 ≤ o → (∀ k ∈ c, 1 ≤ k ∧ k ≤ o) → o + n.size ≤ 100000 → n.fits → n.shw ∧ o ≤ o' ∧ o' ≤ o + n.size ∧ ∀ k ∈ c', 1 ≤ k ∧ k ≤ o'
  | .nil, o, c, o', c', h, h0, hc, hz, hf | .empty, o, c, o', c', h, h0, hc, hz, hf | .start, o, c, o', c', h, h0, hc, hz, hf | .fin, o, c, o', c', h, h0, hc, hz, hf => by
    rw [Nd.look] at h; injection h with h; injection h with h1 h2; subst h1; subst h2
    exact ⟨trivial, Int.le_refl _, by omega, hc⟩
  | .one s, o, c, o', c', h, h0, hc, hz, hf => by
    rw [Nd.look] at h; injection h with h; injection h with h1 h2; subst h1; subst h2
    exact ⟨hf, Int.le_refl _, by omega, hc⟩
  | .cat l, o, c, o', c', h, h0, hc, hz, hf => by
    rw [Nd.look] at h
    split at h
    · simp only [Nd.size] at hz ⊢
      obtain ⟨a1, a2, a3, a4⟩ := Nd.looks_shw l o c o' c' h h0 hc (by omega) hf
      exact ⟨a1, a2, by omega, a4⟩
    · cases h
  | .alt l, o, c, o', c', h, h0, hc, hz, hf => by
    rw [Nd.look] at h
    split at h
    · simp only [Nd.size] at hz ⊢
      obtain ⟨a1, a2, a3, a4⟩ := Nd.looks_shw l o c o' c' h h0 hc (by omega) hf
      exact ⟨a1, a2, by omega, a4⟩
    · cases h
  | .rep x mn mx, o, c, o', c', h, h0, hc, hz, hf => by
    rw [Nd.look] at h
    split at h
    · next hr =>
      simp only [Nd.size] at hz ⊢
      obtain ⟨a1, a2, a3, a4⟩ := Nd.look_shw x o c o' c' h h0 hc (by omega) hf
      exact ⟨⟨a1, repOk_true hr⟩, a2, by omega, a4⟩
    · cases h
  | .group n x, o, c, o', c', h, h0, hc, hz, hf => by
    rw [Nd.look] at h
    split at h
    · next hn =>
      have hn : n = o + 1 := by simpa using hn
      simp only [Nd.size] at hz ⊢
      cases e : x.look (o + 1) c with
      | none => rw [e] at h; cases h
      | some q =>
        obtain ⟨o1, c1⟩ := q
        rw [e] at h
        simp only at h
        injection h with h; injection h with h1 h2; subst h1; subst h2
        obtain ⟨a1, a2, a3, a4⟩ := Nd.look_shw x (o + 1) c o1 c1 e (by omega) (fun k hk => by have := hc k hk; omega) (by omega) hf
        refine ⟨a1, by omega, by omega, fun k hk => ?_⟩
        rcases List.mem_append.1 hk with hk | hk
        · exact a4 k hk
        · simp at hk; omega
    · cases h
  | .back n, o, c, o', c', h, h0, hc, hz, hf => by
    rw [Nd.look] at h
    split at h
    · next hn =>
      injection h with h; injection h with h1 h2; subst h1; subst h2
      have := hc n (by simpa using hn)
      exact ⟨⟨by omega, by simp only [Nd.size] at hz; omega⟩, Int.le_refl _, by omega, hc⟩
    · cases h
theorem Nd.looks_shw : ∀ (l : List Nd) (o : Int) (c : List Int) (o' : Int) (c' : List Int), Nd.looks l o c = some (o', c') → 0 ≤ o → (∀ k ∈ c, 1 ≤ k ∧ k ≤ o) → o + Nd.sizes l ≤ 100000 → Nd.fitss l → Nd.shws l ∧ o ≤ o' ∧ o' ≤ o + Nd.sizes l ∧ ∀ k ∈ c', 1 ≤ k ∧ k ≤ o'
  | [], o, c, o', c', h, h0, hc, hz, hf => by
    rw [Nd.looks] at h; injection h with h; injection h with h1 h2; subst h1; subst h2
    exact ⟨trivial, Int.le_refl _, by simp only [Nd.sizes]; omega, hc⟩
  | x :: r, o, c, o', c', h, h0, hc, hz, hf => by
    rw [Nd.looks] at h
    simp only [Nd.sizes] at hz ⊢
    cases e : x.look o c with
    | none => rw [e] at h; cases h
    | some q =>
      obtain ⟨o1, c1⟩ := q
      rw [e] at h
      simp only at h
      obtain ⟨a1, a2, a3, a4⟩ := Nd.look_shw x o c o1 c1 e h0 hc (by omega) hf.1
      obtain ⟨b1, b2, b3, b4⟩ := Nd.looks_shw r o1 c1 o' c' h (by omega) a4 (by omega) hf.2
      exact ⟨⟨a1, b1⟩, by omega, by omega, b4⟩
end
theorem Nd.right_shw {n : Nd} (h : n.right = true) (hz : n.size ≤ 100000) (hf : n.fits) : n.shw := by
  unfold Nd.right at h
  obtain ⟨⟨o, c⟩, e⟩ := Option.isSome_iff_exists.1 h
  exact (Nd.look_shw n 0 [] o c e (by omega) (fun k hk => by cases hk) (by omega) hf).1

set_option maxRecDepth 100000 in
set_option maxHeartbeats 4000000 in
theorem show_Ere (n : Nd) (v : Value) (w : World) (hE : Env w) (hP : P10 w) (hn : n.size ≤ 3000000) (hv : RN nob w n v) (hs : n.right = true → n.shw) :
    Calls Tryz.prog 12 #[v] w fun e w' => e = .returned (.string ⟨(if n.right then n.txt else []).toArray⟩) ∧ Fr nob w w' := by
  have hr := right_of n v w hn hv
  have HRI := Lib.hid hr; have HE := Lib.hid hE; have HP := Lib.hid hP; have HV := Lib.hid hv
  clear hr hE hP
  rcases hv.shape with rfl | ⟨i, x, rfl⟩
  all_goals
    clear hv
    cases hb : n.right with
    | false =>
      rw [hb] at HRI
      rw [if_neg (by decide)]
      clear hb hs
      go_enter Tryz.func12, Tryz.ntmps12
      go_wp2_with fail
      refine HRI.out.mono ?_
      rintro e w1 ⟨rfl, f1⟩
      have F1 := Lib.hid f1; clear f1
      go_wp2
      go_ret
      exact ⟨rfl, F1.out⟩
    | true =>
      have hs := hs hb
      rw [hb] at HRI
      rw [if_pos rfl]
      have HS := Lib.hid hs
      clear hb hs
      go_enter Tryz.func12, Tryz.ntmps12
      go_wp2_with fail
      refine HRI.out.mono ?_
      rintro e w1 ⟨rfl, f1⟩
      obtain ⟨w2, hw2⟩ : ∃ w2, w2 = w1.alloc (.cells #[.pointer none, .slice none 0 0] 56) := ⟨_, rfl⟩
      have f2 : Fr nob w1 w2 := by rw [hw2]; exact (Fr.refl _ _).alloc _
      have hB : TxB w1.heap.size [] none w2 := by rw [hw2]; exact TxB.new w1
      have hT : TxW w (fun _ => False) w1.heap.size [] w2 := ⟨f1.trans' f2, none, hB, fun k x => by rcases x with x | x; exact ⟨by have := f1.size; omega, by simp, Nat.lt_of_lt_of_le x (f1.trans' f2).size⟩; exact x.elim⟩
      have HN := Lib.hid (node_any HE.out HP.out n.size n (Nat.le_refl _) HS.out (fun _ => False) w1.heap.size [] w2 _ HV.out hT (by simp; omega))
      have HW2 := Lib.hid hw2
      clear hT hB f1 f2 hw2
      go_wp2_with (rw [← HW2.out])
      refine HN.out.mono ?_
      rintro e w3 ⟨rfl, h3, f3⟩
      rw [List.nil_append] at h3
      have H3 := Lib.hid h3; clear h3 f3
      obtain ⟨g, ⟨cs, hb, hcs⟩, hk⟩ := H3.out.tx
      have hst := Lib.hid (string_any _ w1.heap.size 0 cs n.txt g w3 hb)
      have HG := Lib.hid (show ∀ i, i < w.heap.size → some i ≠ g from fun i hi => (hk i (.inl hi)).2.1)
      clear hb hcs hk
      go_wp2_with fail
      refine hst.out.mono ?_
      rintro e w4 ⟨rfl, f4⟩
      have F4 := Lib.hid (H3.out.fr.trans f4 (fun i hi x => (HG.out i hi x).elim)); clear f4
      go_wp2
      go_ret
      exact ⟨rfl, F4.out⟩
end Go.Proofs.YtlchaocpejfikaaGreatDoor
