/-
  PieceNumbers: a number's digits, with noughts ahead or not, up to nine, are read as it, up to what is no digit. For every input; no condition.
-/
import Derived.Test.YthdcpjmjdbldiaaPieceE
import Derived.Test.YthdcpjmjdbldiaaClaim
import Derived.Test.YthdcpjmjdbldiaaRows
namespace Go.Proofs.Ythdcpjmjdbldiaa
open Go.RowKit

def isDig (x : UInt8) : Prop := 48 ≤ x.toNat ∧ x.toNat ≤ 57
def val (n : Nat) (s : List UInt8) : Nat := s.foldl (fun n x => n * 10 + (x.toNat - 48)) n

theorem nm_digits (at_ : Nat) (rest : List UInt8) : ∀ (s : List UInt8) (n c : Nat), (∀ x ∈ s, isDig x) → c + s.length ≤ 9 → nm at_ (s ++ rest) n c = nm at_ rest (val n s) (c + s.length) := by
  intro s
  induction s with
  | nil => intro n c _ _; rfl
  | cons x s ih =>
    intro n c hd hl
    simp only [List.length_cons] at hl
    rw [List.cons_append, nm, if_pos (show 48 ≤ x.toNat ∧ x.toNat ≤ 57 from hd x (by simp)), if_neg (by omega), ih _ _ (fun y hy => hd y (by simp [hy])) (by omega)]
    simp only [List.length_cons, val, List.foldl_cons]
    congr 1; omega

theorem nm_stop (at_ n c : Nat) (rest : List UInt8) (h : ∀ x r, rest = x :: r → ¬ isDig x) (hc : c ≠ 0) : nm at_ rest n c = (n, at_ + c, 0) := by
  cases rest with
  | nil => simp [nm, hc]
  | cons x r => rw [nm, if_neg (show ¬ (48 ≤ x.toNat ∧ x.toNat ≤ 57) from h x r rfl), if_neg hc]

theorem run_slice_oneK {P : Program} {t : TypeId} (kk kk' : IntKind) (l : List UInt8) {k : Nat} {lo hi : Int} (h : P.underlying t = some .string) (hk : k < l.length) (h0 : lo = k) (h1 : hi = k + 1) (w : World) :
    (Instr.slice t (.string ⟨l.toArray⟩) (some (.int kk lo)) (some (.int kk' hi)) none).run P w = .ok (.string ⟨[l[k]].toArray⟩) w := by
  subst h0; subst h1
  rw [run_slice_string (P := P) w t (ByteArray.mk l.toArray) kk kk' k (k + 1) h (by omega) (by omega) (by rw [bsize]; omega), bext, ← take_one hk]
  simp

def digits10 : List UInt8 := [48, 49, 50, 51, 52, 53, 54, 55, 56, 57]
theorem dig10 (i : Nat) (h : i < 10) : ∃ hi : i < digits10.length, digits10[i].toNat = 48 + i := by
  have : ∀ j : Fin 10, digits10[j.1].toNat = 48 + j.1 := by decide
  exact ⟨h, this ⟨i, h⟩⟩

theorem val_zeros (z : Nat) (s : List UInt8) : val 0 (List.replicate z 48 ++ s) = val 0 s := by
  induction z with
  | zero => rfl
  | succ z ih => rw [List.replicate_succ, List.cons_append]; exact ih

/-- The digits so far: together with what is left they make the number. -/
def DgRel (N k : Nat) (s : List UInt8) : Prop := (∀ x ∈ s, isDig x) ∧ s.length ≤ 5 ∧ k < 10 ^ (5 - s.length) ∧ val k s = N

theorem DgRel.step {N k : Nat} {s : List UInt8} (h : DgRel N k s) (hk : 0 < k) (x : UInt8) (hx : x.toNat = 48 + k % 10) : DgRel N (k / 10) (x :: s) := by
  obtain ⟨h1, h2, h3, h4⟩ := h
  have hlt : s.length < 5 := by
    rcases Nat.lt_or_ge s.length 5 with h | h
    · exact h
    · have e : 5 - s.length = 0 := by omega
      rw [e] at h3; omega
  refine ⟨?_, by simp; omega, ?_, ?_⟩
  · intro y hy
    rcases List.mem_cons.1 hy with rfl | hy
    · unfold isDig; omega
    · exact h1 y hy
  · have e : 5 - s.length = (5 - (x :: s).length) + 1 := by simp; omega
    rw [e, Nat.pow_succ] at h3
    omega
  · rw [← h4]; simp only [val, List.foldl_cons, hx]
    congr 1; omega

set_option maxRecDepth 100000 in
set_option maxHeartbeats 2000000 in
theorem lawNumbers (N : Nat) (z : UInt8) (m : List UInt8) (w : World) (hN : N < 4294967296) (hm : m.length ≤ 9223372036854775807) :
    Calls Try.prog 5 #[.int .u32 N, .int .u8 z.toNat, .string ⟨m.toArray⟩] w fun e w' => e = .returned (.bool true) ∧ Fr nob w w' := by
  by_cases hlen : m.length ≤ 50
  · have h50 : ¬ (50 : Int) < m.length := by omega
    have hz := toNat_bd z
    clear hm
    have HLEN := Lib.hid hlen; clear hlen
    go_enter Try.func5, Try.ntmps5
    go_wp2_with fail
    refine (awake_any _).mono ?_
    rintro e w1 ⟨rfl, g1⟩
    have G1 := Lib.hid g1; clear g1
    go_wp2_with fail
    go_loop [7, 8] (fun t i => ∃ (k : Nat) (s : List UInt8), i = .int .u32 k ∧ t = .string ⟨s.toArray⟩ ∧ DgRel (N % 100000) k s) (fun _ i => (intOf i).toNat)
    case atStart => exact ⟨N % 100000, [], by go_num, rfl, by simp, by simp, by simp; omega, rfl⟩
    case round =>
      obtain ⟨k, s, rfl, rfl, hD⟩ := hrel
      have hsl5 := hD.2.1
      have HD := Lib.hid hD; clear hD
      by_cases hk : 0 < k
      · have hk' : (0 : Int) < k := by omega
        have hkb : k < 100000 := Nat.lt_of_lt_of_le HD.out.2.2.1 (by have : 10 ^ (5 - s.length) ≤ 10 ^ 5 := Nat.pow_le_pow_right (by omega) (by omega); omega)
        obtain ⟨hi10, hdg⟩ := dig10 (k % 10) (by omega)
        have hsl := run_slice_oneK (P := Try.prog) .u32 .u32 digits10 (k := k % 10) (lo := (k : Int) % 10) (hi := (k : Int) % 10 + 1) Try.underlying9 hi10 (by omega) (by omega)
        have HDG := Lib.hid hdg; clear hdg
        unfold digits10 at hsl
        go_wp2
        go_round
        case rel => exact ⟨k / 10, digits10[k % 10]'hi10 :: s, by go_num, rfl, HD.out.step hk _ HDG.out⟩
        case measure => simp [intOf]; omega
      · obtain rfl : k = 0 := by omega
        go_wp2_with fail
        go_loop [7, 37] (fun t i => ∃ j : Nat, i = .int .u8 j ∧ j ≤ 1 + z.toNat % 4 ∧ t = .string ⟨(List.replicate j 48 ++ s).toArray⟩) (fun _ i => 1 + z.toNat % 4 - (intOf i).toNat)
        case atStart => exact ⟨0, rfl, by omega, rfl⟩
        case round =>
          obtain ⟨j, rfl, hj, rfl⟩ := hrel
          have hjl : (List.replicate j (48 : UInt8) ++ s).length = j + s.length := by simp
          have hjl2 : (List.replicate j (48 : UInt8) ++ s).length ≤ 100 := by omega
          have HJL := Lib.hid hjl; clear hjl
          by_cases hlt : j < 1 + z.toNat % 4
          · have hlt' : (j : Int) < 1 + (z.toNat : Int) % 4 := by omega
            go_wp2
            go_round
            case rel => exact ⟨j + 1, by go_num, by omega, by rw [List.replicate_succ, List.cons_append]⟩
            case measure => simp [intOf]; omega
          · have hlt' : ¬ (j : Int) < 1 + (z.toNat : Int) % 4 := by omega
            obtain rfl : j = 1 + z.toNat % 4 := by omega
            by_cases hbad : ∃ c r, m = c :: r ∧ isDig c
            · obtain ⟨c, r, rfl, hc1, hc2⟩ := hbad
              have hp : (0 : Int) < (r.length : Int) + 1 := by omega
              go_wp2
              go_ret
              exact ⟨rfl, G1.out⟩
            · have hnb : m = [] ∨ (∃ c r, m = c :: r ∧ (c.toNat : Int) < 48) ∨ (∃ c r, m = c :: r ∧ (48 : Int) ≤ c.toNat ∧ (57 : Int) < c.toNat) := by
                cases m with
                | nil => exact .inl rfl
                | cons c r =>
                  right
                  by_cases h1 : c.toNat < 48
                  · exact .inl ⟨c, r, rfl, by omega⟩
                  · by_cases h2 : c.toNat ≤ 57
                    · exact (hbad ⟨c, r, rfl, by omega, h2⟩).elim
                    · exact .inr ⟨c, r, rfl, by omega, by omega⟩
              have hnum : ∀ l : List UInt8, l = 120 :: (List.replicate (1 + z.toNat % 4) 48 ++ s ++ m) → nm 1 (l.drop 1) 0 0 = (N % 100000, 1 + (List.replicate (1 + z.toNat % 4) (48 : UInt8) ++ s).length, 0) ∧ l.length ≤ 100000 ∧ 1 ≤ l.length := by
                intro l hl
                have hml := HLEN.out
                subst hl
                have hall : ∀ x ∈ List.replicate (1 + z.toNat % 4) (48 : UInt8) ++ s, isDig x := by
                  intro x hx
                  rcases List.mem_append.1 hx with h | h
                  · rw [(List.mem_replicate.1 h).2]; unfold isDig; decide
                  · exact HD.out.1 x h
                refine ⟨?_, ?_, by simp⟩
                · rw [List.drop_succ_cons, List.drop_zero, nm_digits 1 m _ 0 0 hall (by simp; omega), nm_stop]
                  · rw [val_zeros, HD.out.2.2.2]; simp
                  · intro x r he hx; exact hbad ⟨x, r, he, hx⟩
                  · simp
                · simp; omega
              have HNUM := Lib.hid hnum; clear hnum hbad
              rcases hnb with rfl | ⟨c, r, rfl, hc1⟩ | ⟨c, r, rfl, hc1, hc2⟩
              · have h0 : (0 : Nat) ≤ 1 := by omega
                go_wp2_with fail
                obtain ⟨hnm, hl1, hl2⟩ := HNUM.out (120 :: (List.replicate (1 + z.toNat % 4) 48 ++ s)) (by simp)
                refine (number_any (120 :: (List.replicate (1 + z.toNat % 4) 48 ++ s)) 1 _ hl1 hl2).mono ?_
                rw [hnm]
                rintro e w2 ⟨rfl, g2⟩
                have G2 := Lib.hid g2; clear g2 hnm hl1 hl2
                go_wp2
                go_ret
                exact ⟨by simp; try omega, G1.out.trans' G2.out⟩
              · have hp : (0 : Int) < (r.length : Int) + 1 := by omega
                have hrl : r.length ≤ 49 := by have := HLEN.out; simp at this; omega
                go_wp2_with fail
                obtain ⟨hnm, hl1, hl2⟩ := HNUM.out (120 :: (List.replicate (1 + z.toNat % 4) 48 ++ (s ++ c :: r))) (by simp)
                refine (number_any (120 :: (List.replicate (1 + z.toNat % 4) 48 ++ (s ++ c :: r))) 1 _ hl1 hl2).mono ?_
                rw [hnm]
                rintro e w2 ⟨rfl, g2⟩
                have G2 := Lib.hid g2; clear g2 hnm hl1 hl2
                go_wp2
                go_ret
                exact ⟨by simp; try omega, G1.out.trans' G2.out⟩
              · have hp : (0 : Int) < (r.length : Int) + 1 := by omega
                have hrl : r.length ≤ 49 := by have := HLEN.out; simp at this; omega
                go_wp2_with fail
                obtain ⟨hnm, hl1, hl2⟩ := HNUM.out (120 :: (List.replicate (1 + z.toNat % 4) 48 ++ (s ++ c :: r))) (by simp)
                refine (number_any (120 :: (List.replicate (1 + z.toNat % 4) 48 ++ (s ++ c :: r))) 1 _ hl1 hl2).mono ?_
                rw [hnm]
                rintro e w2 ⟨rfl, g2⟩
                have G2 := Lib.hid g2; clear g2 hnm hl1 hl2
                go_wp2
                go_ret
                exact ⟨by simp; try omega, G1.out.trans' G2.out⟩
  · have h50 : (50 : Int) < m.length := by omega
    go_enter Try.func5, Try.ntmps5
    go_wp2_with fail
    refine (awake_any _).mono ?_
    rintro e w1 ⟨rfl, g1⟩
    have G1 := Lib.hid g1; clear g1
    go_wp2_with fail
    refine (awake_any _).mono ?_
    rintro e w2 ⟨rfl, g2⟩
    have G2 := Lib.hid g2; clear g2
    go_wp2
    go_ret
    exact ⟨rfl, G1.out.trans' G2.out⟩


theorem u32_of_wf {d : Int} (h : (Lit.int .u32 d).wf = true) : ∃ n : Nat, d = n ∧ n < 4294967296 := by
  have := bounds_u32 h
  exact ⟨d.toNat, by omega, by omega⟩
theorem byte_of_wf {d : Int} (h : (Lit.int .u8 d).wf = true) : ∃ x : UInt8, d = x.toNat := by
  have := bounds_u8 h
  exact ⟨d.toNat.toUInt8, by simp; omega⟩

namespace pieceNumbers
open Go.ChangeShapes Go.WideShapes Go.ChangeAt Go.RowKit
open Go.ChangeMaps (open_string shut_string)

theorem own : ownKnob Try.prog.godebug = none := by kernel_rfl
theorem laidOut : laidOutB Try.prog = true := by kernel_rfl

theorem readable : ∀ t ∈ Try.f5.params.toList, Try.prog.readableRec t = true ∧ t < Try.prog.types.size := by
  rw [Try.params5]
  intro t ht
  simp only [List.mem_cons, List.not_mem_nil, or_false] at ht
  rcases ht with rfl | rfl | rfl
  · exact ⟨by kernel_rfl, of_decide_eq_true (by kernel_rfl)⟩
  · exact ⟨by kernel_rfl, of_decide_eq_true (by kernel_rfl)⟩
  · exact ⟨by kernel_rfl, of_decide_eq_true (by kernel_rfl)⟩

set_option maxRecDepth 100000 in
theorem lifted (os : Os) (started : os.Started) (H : Type) (enc : TypeId × Value → H) :
    ReturnsInHanded {} Try.checked os 5 .any (Rows.pieceNumbersSpec.pre6 enc Try.prog Try.f5 Rows.pieceNumbersRow.domain false) (Rows.pieceNumbersSpec.post enc Try.prog Try.f5 false true false false) := by
  refine returnsInHanded_of_change (C := Try.checked) own started (by kernel_rfl) Try.func5
    (ChangeSpec.witness6 (enc := enc) (C := Try.checked) false ⟨#[], #[.int .u32 0, .int .u8 0, .string ByteArray.empty], []⟩ 8 (by kernel_rfl) (by kernel_rfl) (by kernel_rfl) (by kernel_rfl)) ?_
  intro W base args ds gs before hval0 hW hcnd _
  have hval : ∀ (j : Nat) t v, Try.f5.params[j]? = some t → args[j]? = some v → Value.okWide Try.prog W .any base t v := hval0
  have hW' : DataW.Whole enc Try.prog Try.f5.params.toList Rows.pieceNumbersSpec.vars false W args.toList ds gs before := hW
  obtain ⟨p, q, hA0, hV, rfl, hfz, hnd⟩ := hW
  have hA : DataW.TrodAll enc Try.prog W 0 (fun _ => true) true Try.f5.params.toList args.toList ds p := hA0
  rw [Try.params5] at hA hval
  obtain ⟨v0, vs0, d0, ds0, p0, q0, hargs, rfl, rfl, h0, r0⟩ := trodAll_cons hA
  obtain ⟨v1, vs1, d1, ds1, p1, q1, rfl, rfl, rfl, h1, r1⟩ := trodAll_cons r0
  obtain ⟨v2, vs2, d2, ds2, p2, q2, rfl, rfl, rfl, h2, r2⟩ := trodAll_cons r1
  obtain ⟨rfl, rfl, rfl⟩ := trodAll_nil r2
  obtain rfl : args = #[v0, v1, v2] := by cases args; simp_all
  obtain ⟨rfl, rfl⟩ := trodVars_none hV
  obtain ⟨n_i, rfl, _, _, wn⟩ := open_int Try.underlying32 (hval 0 32 v0 rfl rfl) h0
  obtain ⟨n, rfl, hn⟩ := u32_of_wf wn
  obtain ⟨z_i, rfl, _, _, w1⟩ := open_int Try.underlying5 (hval 1 5 v1 rfl rfl) h1
  obtain ⟨z, rfl⟩ := byte_of_wf w1
  obtain ⟨s, rfl, _, _, w2⟩ := open_string Try.underlying9 (hval 2 9 v2 rfl rfl) h2
  have e2 : s = ⟨s.data.toList.toArray⟩ := by simp
  refine (show Calls Try.prog 5 #[.int .u32 n, .int .u8 z.toNat, .string s] W _ from ?_).mono fun e W' h => h
  rw [e2]
  refine (lawNumbers n z s.data.toList W hn (by unfold maxLen at w2; exact w2)).mono fun e W' ⟨he, hg⟩ => ?_
  subst he
  exact ⟨_, rfl, law_post rfl (by kernel_rfl) Try.underlying4 laidOut readable rfl hW' hg.below⟩

theorem over : Rows.pieceNumbersRow.holds Try.pinned (OpenSpec.ofChange Rows.pieceNumbersSpec) :=
  OpenClaim.holds_of_wide 5 Try.f5 rfl rfl rfl rfl rfl rfl rfl ⟨rfl, rfl, rfl, rfl, rfl⟩ rfl rfl rfl rfl rfl (by kernel_rfl) Try.func5 (by kernel_rfl)
    (of_decide_eq_true (by kernel_rfl)) (by unfold Func.isWrapper; first | (rw [if_pos (by decide +kernel)]; kernel_rfl) | (rw [if_neg (by decide +kernel)]; exact ⟨rfl, rfl⟩))
    (fun os started H enc _ => lifted os started H enc)

/-- THE STATEMENT. -/
theorem proved : Rows.PieceNumbersSaid := over
#print axioms proved
end pieceNumbers

end Go.Proofs.Ythdcpjmjdbldiaa
