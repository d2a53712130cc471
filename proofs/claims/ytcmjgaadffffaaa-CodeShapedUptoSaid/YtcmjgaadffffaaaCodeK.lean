/-
  Walks of chapter 7: the fixed fact; instructions.
-/
import Derived.Test.YtcmjgaadffffaaaCodeJ
import Derived.Test.YtcmjgaadffffaaaRefG
import Derived.Test.YtcmjgaadffffaaaRefD
import Derived.Test.YtcmjgaadffffaaaLawT
namespace Go.Proofs.Ytcmjgaadffffaaa
open Go.RowKit

theorem T.few_known {t : T} {m : Int} (h : t.few m = true) : t.known = true := by
  unfold T.few at h; simp only [Bool.and_eq_true] at h; exact h.2
theorem T.few_bulk {t : T} {m : Int} (h : t.few m = true) : (t.bulk : Int) ≤ m := by
  unfold T.few at h; simp only [Bool.and_eq_true, decide_eq_true_eq] at h; exact h.1
theorem RN.any {S : Nat → Prop} {w : World} {n : Nd} {v : Value} (h : RN S w n v) : RN nob w n v := RN.keep (Fr.refl nob _) (fun _ _ x => x.elim) (fun _ _ x => x.elim) _ _ h
mutual
theorem T.nd_size : ∀ t : T, t.nd.size ≤ 2 * t.bulk
  | .mk k s ps mn mx nu => by
    have h1 := T.nds_size ps
    have h2 := T.nd1_size ps
    simp only [T.nd, T.bulk]
    split
    · simp only [Nd.size]; omega
    split
    · simp only [Nd.size]; omega
    split
    · simp only [Nd.size]; omega
    split
    · simp only [Nd.size]; omega
    split
    · simp only [Nd.size]; omega
    split
    · simp only [Nd.size]; omega
    split
    · simp only [Nd.size]; omega
    split
    · simp only [Nd.size]; omega
    · simp only [Nd.size]; omega
theorem T.nds_size : ∀ l : List T, Nd.sizes (T.nds l) ≤ 2 * T.bulks l
  | [] => by simp [T.nds, Nd.sizes]
  | t :: ts => by have := T.nd_size t; have := T.nds_size ts; simp only [T.nds, Nd.sizes, T.bulks]; omega
theorem T.nd1_size : ∀ l : List T, (T.nd1 l).size ≤ 1 + 2 * T.bulks l
  | [] => by simp [T.nd1, Nd.size]
  | t :: ts => by have := T.nd_size t; simp only [T.nd1, T.bulks]; omega
end

/-! ### instructions -/
def Nd.own : Nd → Nat
  | .alt l => 2 * (l.length - 1)
  | .group _ _ => 2
  | .one _ | .start | .fin | .back _ => 1
  | _ => 0
def Nd.isRep : Nd → Bool
  | .rep _ _ _ => true
  | _ => false
theorem iszs_one (x : Nd) : Nd.iszs [x] = x.isz := by
  simp only [Nd.iszs]; cases x.isz <;> simp
theorem isz_kids {n : Nd} (h : n.isRep = false) : n.isz = (Nd.iszs n.kids).map (n.own + ·) := by
  cases n with
  | cat l => simp only [Nd.isz, Nd.kids, Nd.own]; cases Nd.iszs l <;> simp
  | alt l => rfl
  | rep _ _ _ => cases h
  | group k x => simp only [Nd.isz, Nd.kids, Nd.own, iszs_one]
  | _ => rfl
theorem isz_rep {n : Nd} (h : n.isRep = true) : n.isz = none := by cases n <;> first | rfl | cases h
theorem iszs_none {l : List Nd} {k : Nat} (hk : k < l.length) (h : l[k].isz = none) : Nd.iszs l = none := by
  induction l generalizing k with
  | nil => simp at hk
  | cons t ts ih =>
    simp only [Nd.iszs]
    cases k with
    | zero => rw [show t.isz = none from h]
    | succ k => rw [ih (by simpa using hk) (by simpa using h)]; cases t.isz <;> rfl
theorem iszs_snoc : ∀ (l : List Nd) (x : Nd) (a b : Nat), Nd.iszs l = some a → x.isz = some b → Nd.iszs (l ++ [x]) = some (a + b)
  | [], x, a, b, h, h' => by simp only [Nd.iszs] at h; injection h with h; subst h; rw [List.nil_append, iszs_one, h', Nat.zero_add]
  | t :: ts, x, a, b, h, h' => by
    rw [Nd.iszs] at h
    split at h
    · next c d h1 h2 =>
      injection h with h; subst h
      rw [List.cons_append, Nd.iszs, h1, iszs_snoc ts x d b h2 h', Nat.add_assoc]
    · cases h
theorem iszs_take_le {l : List Nd} {k : Nat} {a : Nat} (h : Nd.iszs (l.take k) = some a) : a ≤ 4 * Nd.sizes l := by
  have := iszs_le _ _ h; have := Nd.sizes_take_le l k; omega
theorem own_le (n : Nd) : n.own ≤ 2 * n.size := by
  cases n <;> simp only [Nd.own, Nd.size] <;> try omega
  have := Nd.length_le ‹List Nd›; omega
theorem fine_kids {n : Nd} (h : n.fine) : ∀ t ∈ n.kids, t.fine := by
  cases n with
  | cat l => rw [Nd.fine] at h; exact fines_mem h
  | alt l => rw [Nd.fine] at h; exact fines_mem h.2
  | rep x _ _ => rw [Nd.fine] at h; intro t ht; simp [Nd.kids] at ht; subst ht; exact h.2.2
  | group _ x => rw [Nd.fine] at h; intro t ht; simp [Nd.kids] at ht; subst ht; exact h.2
  | _ => intro t ht; simp [Nd.kids] at ht
def insAns (o : Option Nat) : Value := match o with | some k => .tuple #[.int .i64 k, .bool true] | none => .tuple #[.int .i64 0, .bool false]

set_option maxRecDepth 100000 in
set_option maxHeartbeats 2000000 in
theorem instr_T (m : Nat) : ∀ (t : T) (cs : List Value) (w : World), t.nd.size ≤ m → t.nd.size ≤ 3000000 → t.nd.fine → t.known = true → RT nob w t cs →
    Calls Try.prog 13 #[.agg cs.toArray] w fun e w' => e = .returned (insAns t.nd.isz) ∧ Fr nob w w' := by
  induction m with
  | zero => intro t cs w h; have := t.nd.size_pos; omega
  | succ m ih =>
    intro t cs w hm hb hfi hkn h
    obtain ⟨kd, s, ps, mn, mx, nu, a, c, ht, rfl, hs⟩ := h.open'
    have hk9 : 0 ≤ kd ∧ kd ≤ 8 := by
      rw [ht] at hkn; simp only [T.known, Bool.and_eq_true, Bool.not_eq_true', Bool.or_eq_false_iff, decide_eq_false_iff_not] at hkn; omega
    have hps : kd = 3 → 1 ≤ ps.length := fun e => by
      rw [ht, e] at hfi
      simp [T.nd, Nd.fine] at hfi
      cases ps with
      | nil => exact absurd rfl hfi.1
      | cons _ _ => simp
    have hpl : kd = 3 → ps.length ≤ 3000000 := fun e => by
      have h1 : t.kids.length = ps.length := by rw [ht]; simp [T.kids, T.kind, T.parts, e]
      have h2 := Nd.length_le t.nd.kids; have h3 := t.nd.size_kids; have h4 := t.kids_len; omega
    have IH := Lib.hid ih; have HT := Lib.hid h; have HE := Lib.hid ht; have HFI := Lib.hid hfi; have HKN := Lib.hid hkn
    have hkl : t.kids.length ≤ 3000000 := by have h1 := Nd.length_le t.nd.kids; have h2 := t.nd.size_kids; have h3 := t.kids_len; omega
    have hsk := Lib.hid t.nd.size_kids
    have hol := own_le t.nd
    have hob : t.nd.own ≤ 6000000 := by omega
    obtain ⟨I, hI⟩ : ∃ I, t.nd.isz = I := ⟨_, rfl⟩
    rw [hI]
    have HI := Lib.hid hI
    obtain ⟨O, hO⟩ : ∃ O, t.nd.own = O := ⟨_, rfl⟩
    have HO := Lib.hid hO
    rw [hO] at hob
    obtain ⟨w1, hw1⟩ : ∃ w1, w1 = w.alloc (.cells #[.int .i64 kd, .int .u64 s.a, .int .u64 s.b, .int .u64 s.c, .int .u64 s.d, .slice a ps.length c, .int .i64 mn, .int .i64 mx, .int .i64 nu] 27) := ⟨_, rfl⟩
    have f1 : Fr nob w w1 := by rw [hw1]; exact (Fr.refl _ _).alloc _
    have hb1 : w1.heap[w.heap.size]? = some (.cells #[.int .i64 kd, .int .u64 s.a, .int .u64 s.b, .int .u64 s.c, .int .u64 s.d, .slice a ps.length c, .int .i64 mn, .int .i64 mx, .int .i64 nu] 27 (0, 0)) := by rw [hw1]; exact newAtB _ _
    have HB := Lib.hid hb1; have F1 := Lib.hid f1; have HW := Lib.hid hw1
    clear ih h hs ht hfi hkn hol hI hO hw1
    obtain ⟨x0, x1, x2, x3, x4, x5, x6, x7, x8⟩ := C9.of hb1
    clear hb1 f1
    go_enter Try.func13, Try.ntmps13
    go_upto_block 0 with (rw [← HW.out])
    go_cut [4] (fun v4 w' => v4 = .int .i64 (O : Nat) ∧ w1 = w' ∧ t.nd.isRep = false)
    case first =>
      have nl : ∀ l : List T, (T.nds l).length = l.length := fun l => by
        induction l with
        | nil => rfl
        | cons x l ih => simp [T.nds, ih]
      have hk : kd = 0 ∨ kd = 1 ∨ kd = 2 ∨ kd = 3 ∨ kd = 4 ∨ kd = 5 ∨ kd = 6 ∨ kd = 7 ∨ kd = 8 := by omega
      clear hk9
      rcases hk with rfl | rfl | rfl | rfl | rfl | rfl | rfl | rfl | rfl
      · have ho : O = 0 := by rw [← HO.out, HE.out]; simp [T.nd, Nd.own]
        have hr : t.nd.isRep = false := by rw [HE.out]; simp [T.nd, Nd.isRep]
        have HR := Lib.hid (And.intro ho hr)
        clear ho hr
        go_wp2
        go_meet
        case rel => exact ⟨by rw [HR.out.1]; rfl, rfl, HR.out.2⟩
      · have ho : O = 1 := by rw [← HO.out, HE.out]; simp [T.nd, Nd.own]
        have hr : t.nd.isRep = false := by rw [HE.out]; simp [T.nd, Nd.isRep]
        have HR := Lib.hid (And.intro ho hr)
        clear ho hr
        go_wp2
        go_meet
        case rel => exact ⟨by rw [HR.out.1]; rfl, rfl, HR.out.2⟩
      · have ho : O = 0 := by rw [← HO.out, HE.out]; simp [T.nd, Nd.own]
        have hr : t.nd.isRep = false := by rw [HE.out]; simp [T.nd, Nd.isRep]
        have HR := Lib.hid (And.intro ho hr)
        clear ho hr
        go_wp2
        go_meet
        case rel => exact ⟨by rw [HR.out.1]; rfl, rfl, HR.out.2⟩
      · have hp1 := hps rfl
        have hp2 := hpl rfl
        have ho : (O : Int) = 2 * ((ps.length : Int) - 1) := by rw [← HO.out, HE.out]; simp [T.nd, Nd.own, nl]; omega
        have hr : t.nd.isRep = false := by rw [HE.out]; simp [T.nd, Nd.isRep]
        have HR := Lib.hid (And.intro ho hr)
        have q1 : IntKind.i64.wrap ((ps.length : Int) - 1) = (ps.length : Int) - 1 := IntWalk.i64_in _ (by omega)
        have q2 : IntKind.i64.wrap (2 * ((ps.length : Int) - 1)) = 2 * ((ps.length : Int) - 1) := IntWalk.i64_in _ (by omega)
        clear ho hr
        go_wp2
        go_meet
        case rel => exact ⟨by rw [HR.out.1], rfl, HR.out.2⟩
      · have hr : I = none := by rw [← HI.out, HE.out]; simp [T.nd, Nd.isz]
        have HR := Lib.hid hr
        clear hr
        go_wp2
        go_ret2
        rw [HR.out]
        exact ⟨rfl, F1.out⟩
      · have ho : O = 2 := by rw [← HO.out, HE.out]; simp [T.nd, Nd.own]
        have hr : t.nd.isRep = false := by rw [HE.out]; simp [T.nd, Nd.isRep]
        have HR := Lib.hid (And.intro ho hr)
        clear ho hr
        go_wp2
        go_meet
        case rel => exact ⟨by rw [HR.out.1]; rfl, rfl, HR.out.2⟩
      · have ho : O = 1 := by rw [← HO.out, HE.out]; simp [T.nd, Nd.own]
        have hr : t.nd.isRep = false := by rw [HE.out]; simp [T.nd, Nd.isRep]
        have HR := Lib.hid (And.intro ho hr)
        clear ho hr
        go_wp2
        go_meet
        case rel => exact ⟨by rw [HR.out.1]; rfl, rfl, HR.out.2⟩
      · have ho : O = 1 := by rw [← HO.out, HE.out]; simp [T.nd, Nd.own]
        have hr : t.nd.isRep = false := by rw [HE.out]; simp [T.nd, Nd.isRep]
        have HR := Lib.hid (And.intro ho hr)
        clear ho hr
        go_wp2
        go_meet
        case rel => exact ⟨by rw [HR.out.1]; rfl, rfl, HR.out.2⟩
      · have ho : O = 1 := by rw [← HO.out, HE.out]; simp [T.nd, Nd.own]
        have hr : t.nd.isRep = false := by rw [HE.out]; simp [T.nd, Nd.isRep]
        have HR := Lib.hid (And.intro ho hr)
        clear ho hr
        go_wp2
        go_meet
        case rel => exact ⟨by rw [HR.out.1]; rfl, rfl, HR.out.2⟩
    case rest =>
      obtain ⟨rfl, rfl, hr⟩ := hcut
      have hik := isz_kids hr
      rw [HI.out, HO.out] at hik
      have HIK := Lib.hid hik
      clear hr hik hps hpl
      go_wp2_with fail
      refine (kids_T t _ _ (HT.out.on F1.out)).mono ?_
      rintro e w2 ⟨u, rfl, s1, f2⟩
      obtain ⟨a1, c1, rfl⟩ := s1.shape
      have S1 := Lib.hid s1; have F2 := Lib.hid f2; clear s1 f2 x0 x1 x2 x3 x4 x5 x6 x7 x8
      go_wp2_with fail
      go_loopw [4, 30] (fun v4 i wr => ∃ (k a : Nat), i = .int .i64 k ∧ k ≤ t.kids.length ∧ Nd.iszs (t.nd.kids.take k) = some a ∧ v4 = .int .i64 ((O + a : Nat) : Int) ∧ Fr nob w2 wr) (fun _ i _ => t.kids.length - (intOf i).toNat)
      case atStart => exact ⟨0, 0, rfl, Nat.zero_le _, rfl, rfl, Fr.refl _ _⟩
      case round =>
        obtain ⟨k, acc, rfl, hk, hac, rfl, fr⟩ := hrel
        have FR := Lib.hid fr; have HAC := Lib.hid hac
        have hacl := iszs_take_le hac
        have hacb : acc ≤ 12000000 := by have := hsk.out; omega
        clear fr hac hacl
        by_cases hlt : k < t.kids.length
        · obtain ⟨q, off, cap, cx, he, hx, hc, hgs⟩ := (S1.out.on FR.out).get hlt
          injection he with e1 e2 e3
          subst e1; subst e3
          have hlt' : k < t.nd.kids.length := by have := t.kids_len; omega
          have hka := t.kid_at hlt hlt'
          have hxs : t.kids[k].nd.size < t.nd.size := Nd.kid_lt (by rw [← hka]; exact List.getElem_mem hlt')
          have hxf := fine_kids HFI.out _ (List.getElem_mem hlt')
          have hxk := T.known_kids HKN.out _ (List.getElem_mem hlt)
          have hnn := Lib.hid (show t.kids[k].nd.isz = none → Nd.iszs t.nd.kids = none from fun h => iszs_none hlt' (by rw [hka]; exact h))
          have hsn := Lib.hid (show ∀ b, t.kids[k].nd.isz = some b → Nd.iszs (t.nd.kids.take (k + 1)) = some (acc + b) from fun b h => by
            rw [List.take_succ_eq_append_getElem hlt', hka]; exact iszs_snoc _ _ _ _ HAC.out h)
          rw [hka] at hxf
          obtain ⟨x, hxe⟩ : ∃ x, t.kids[k] = x := ⟨_, rfl⟩
          rw [hxe] at hx hxs hxf hxk hnn hsn
          obtain ⟨k', s', ps', mn', mx', nu', a', c', hx0, rfl, hxx⟩ := hx.open'
          obtain ⟨d0, d1, d2, d3, d4, d5, d6, d7, d8⟩ := hc.nine
          have HX := Lib.hid hx; have HXF := Lib.hid hxf; have HXK := Lib.hid hxk
          clear hx hxx hx0 e2 hc hxe hka hlt' hxf hxk
          go_wp2_with fail
          refine (IH.out x _ _ (by omega) (by omega) HXF.out HXK.out (HX.out.on ((Fr.refl _ _).alloc _))).mono ?_
          cases hxi : x.nd.isz with
          | none =>
            have HN := Lib.hid (show I = none by rw [HIK.out, hnn.out hxi]; rfl)
            clear hxi
            rintro e w3 ⟨rfl, f3⟩
            rw [show insAns none = .tuple #[.int .i64 0, .bool false] from rfl]
            go_wp2
            go_ret2
            rw [HN.out]
            exact ⟨rfl, (F1.out.trans' F2.out).trans' ((FR.out.alloc _).trans' f3)⟩
          | some b =>
            have HS := Lib.hid (hsn.out b hxi)
            have hbb := iszs_take_le HS.out
            have hbl : acc + b ≤ 12000000 := by have := hsk.out; omega
            clear hxi hbb
            rintro e w3 ⟨rfl, f3⟩
            rw [show insAns (some b) = .tuple #[.int .i64 b, .bool true] from rfl]
            have F3 := Lib.hid f3; clear f3
            go_wp2
            go_roundw
            case rel => exact ⟨k + 1, acc + b, by go_num, by omega, HS.out, by go_num, (FR.out.alloc _).trans' F3.out⟩
            case measure => simp [intOf]; omega
        · obtain rfl : k = t.kids.length := by omega
          have hfin : I = some (O + acc) := by
            rw [HIK.out]
            have := HAC.out
            rw [List.take_of_length_le (by have := t.kids_len; omega)] at this
            rw [this]; rfl
          have HFIN := Lib.hid hfin
          clear hfin
          go_wp2
          go_ret2
          rw [HFIN.out]
          exact ⟨rfl, (F1.out.trans' F2.out).trans' FR.out⟩


/-! ### A program as it lies; the fixed fact -/
theorem SB_one (w : World) (c : UInt8) (T : TypeId) : SB (w.alloc (.cells #[.int .u8 (c.toNat : Int)] T)) [c] (.slice (some ⟨w.heap.size, 0, none⟩) 1 1) := by
  refine Or.inr ⟨_, _, _, rfl, by simp, ?_⟩
  intro j x hj
  match j, hj with
  | 0, hj => simp at hj; subst hj; simp [World.cell?_alloc_new]
theorem of_97 (w : World) : Calls Try.prog 11 #[.slice (some ⟨w.heap.size, 0, none⟩) 1 1] (w.alloc (.cells #[.int .u8 97] 5)) fun e w' => ∃ c : S4, e = .returned (.agg #[.int .u64 c.a, .int .u64 c.b, .int .u64 c.c, .int .u64 c.d]) ∧ Fr nob (w.alloc (.cells #[.int .u8 97] 5)) w' :=
  (of_any [97] _ _ (by simp) (SB_one w 97 _)).mono fun _ _ ⟨h, f⟩ => ⟨_, h, f⟩
def InsAt (w : World) (g i : Nat) (x : Ins) : Prop := w.cell? ⟨g, i * 7, none⟩ = some (.int .i64 x.op) ∧ w.cell? ⟨g, i * 7 + 1, none⟩ = some (.int .u64 x.set.a) ∧ w.cell? ⟨g, i * 7 + 2, none⟩ = some (.int .u64 x.set.b) ∧ w.cell? ⟨g, i * 7 + 3, none⟩ = some (.int .u64 x.set.c) ∧
  w.cell? ⟨g, i * 7 + 4, none⟩ = some (.int .u64 x.set.d) ∧ w.cell? ⟨g, i * 7 + 5, none⟩ = some (.int .i64 x.x) ∧ w.cell? ⟨g, i * 7 + 6, none⟩ = some (.int .i64 x.y)
theorem prog_get {w0 w : World} {s : Bd} {sl : Value} (h : ProgIs w0 w s sl) (hn : 0 < s.ins.length) : ∃ g c, sl = .slice (some ⟨g, 0, none⟩) s.ins.length c ∧ w0.heap.size ≤ g ∧ g < w.heap.size ∧
    ∀ w', Fr nob w w' → ∀ i x, s.ins[i]? = some x → InsAt w' g i x := by
  obtain ⟨hown, hg⟩ := h
  obtain ⟨g, c, rfl, hgs⟩ : ∃ g c, sl = .slice (some ⟨g, 0, none⟩) s.ins.length c ∧ g < w.heap.size := by
    rcases hown.2 with ⟨_, h0⟩ | ⟨gb, c, _, h, _, hb, _⟩
    · omega
    · exact ⟨gb, c, h, lt_heap hb⟩
  refine ⟨g, c, rfl, hg g rfl, hgs, fun w' f i x hx => ?_⟩
  have ho := ownsRow_fr hown f (fun _ _ x => x)
  have hi := lt_of_get hx
  have he : s.ins[i] = x := (List.getElem?_eq_some_iff.1 hx).2
  have key : ∀ j, j < 7 → w'.cell? ⟨g, i * 7 + j, none⟩ = x.cells[j]? := fun j hj => by
    rw [ho.cellAt _ (by omega), insC_get _ _ _ hi hj, he]
  exact ⟨key 0 (by omega), key 1 (by omega), key 2 (by omega), key 3 (by omega), key 4 (by omega), key 5 (by omega), key 6 (by omega)⟩

set_option maxRecDepth 100000 in
set_option maxHeartbeats 2000000 in
theorem awake07_any (w : World) : Calls Try.prog 6 #[] w fun e w' => e = .returned (.bool true) ∧ Fr nob w w' := by
  go_enter Try.func6, Try.ntmps6
  go_wp2_with fail
  refine (of_97 w).mono ?_
  rintro e w1 ⟨c, rfl, f1⟩
  go_wp2_with fail
  refine (compile_any (.one c) _ w1 (by simp [Nd.size]) (by rw [RN]; rfl)).mono ?_
  rintro e w2 ⟨f2, h⟩
  have hr : (Nd.one c).right = true := rfl
  have hf : (Nd.one c).comp.full = false := rfl
  rcases h with ⟨h, _⟩ | ⟨_, h, _⟩ | ⟨_, _, sl, rfl, hp⟩
  · rw [hr] at h; cases h
  · rw [hf] at h; cases h
  · have hins : (Nd.one c).comp.ins = [mkI 3 0 0, ⟨0, c, 0, 0⟩, mkI 3 1 0, mkI 9 0 0] := rfl
    obtain ⟨g, cp, rfl, hg, hgs, hcell⟩ := prog_get hp (by rw [hins]; simp)
    rw [hins] at hcell
    rw [show (Nd.one c).comp.ins.length = 4 from rfl]
    obtain ⟨C, hC⟩ : ∃ C, (Nd.one c).comp = C := ⟨_, rfl⟩
    rw [hC]
    have c0 := (hcell _ ((Fr.refl nob w2).alloc (.cells #[.slice (some ⟨g, 0, none⟩) 4 cp, .int .i64 C.groups, .int .i64 C.loops, .bool C.backs] 32)) 0 _ rfl).1
    have c1 := (hcell _ ((Fr.refl nob w2).alloc (.cells #[.slice (some ⟨g, 0, none⟩) 4 cp, .int .i64 C.groups, .int .i64 C.loops, .bool C.backs] 32)) 1 _ rfl).1
    have c3 := (hcell _ ((Fr.refl nob w2).alloc (.cells #[.slice (some ⟨g, 0, none⟩) 4 cp, .int .i64 C.groups, .int .i64 C.loops, .bool C.backs] 32)) 3 _ rfl).1
    simp only [mkI, Nat.reduceMul] at c0 c1 c3
    have F := Lib.hid ((((Fr.refl nob w).alloc _).trans' f1).trans' f2)
    clear hcell hp hr hf hins hC f1 f2 hg hgs
    go_wp2
    go_ret
    exact ⟨rfl, F.out.alloc _⟩

theorem rulep {w : World} {b : Nat} {v0 v1 v2 v3 : Value} {T : TypeId} (h : w.heap[b]? = some (.cells #[v0, v1, v2, v3] T (0, 0))) : ∀ w', Fr nob w w' →
    w'.cell? ⟨b, 0, none⟩ = some v0 ∧ w'.cell? ⟨b, 1, none⟩ = some v1 ∧ w'.cell? ⟨b, 2, none⟩ = some v2 ∧ w'.cell? ⟨b, 3, none⟩ = some v3 := fun _ f => by
  have h' := f.heap h (fun x => x)
  exact ⟨cell_at h' rfl, cell_at h' rfl, cell_at h' rfl, cell_at h' rfl⟩
mutual
theorem groupsn_le : ∀ n : Nd, n.groups ≤ n.size
  | .cat l => by simp only [Nd.groups, Nd.size]; have := groupsn_les l; omega
  | .alt l => by simp only [Nd.groups, Nd.size]; have := groupsn_les l; omega
  | .rep x _ _ => by simp only [Nd.groups, Nd.size]; have := groupsn_le x; omega
  | .group _ x => by simp only [Nd.groups, Nd.size]; have := groupsn_le x; omega
  | .nil => by simp [Nd.groups]
  | .empty => by simp [Nd.groups]
  | .one _ => by simp [Nd.groups]
  | .back _ => by simp [Nd.groups]
  | .start => by simp [Nd.groups]
  | .fin => by simp [Nd.groups]
theorem groupsn_les : ∀ l : List Nd, Nd.groupss l ≤ Nd.sizes l
  | [] => by simp [Nd.groupss]
  | t :: ts => by simp only [Nd.groupss, Nd.sizes]; have := groupsn_le t; have := groupsn_les ts; omega
end

end Go.Proofs.Ytcmjgaadffffaaa
