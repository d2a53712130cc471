/-
  PieceQuoted: any bytes but brackets, backslashes, and the byte A, each delimiter behind a backslash, stand between delimiters as they are. For every input; no condition.
-/
import Derived.Test.YthdcpjmjdbldiaaPieceE
import Derived.Test.YthdcpjmjdbldiaaClaim
import Derived.Test.YthdcpjmjdbldiaaRows
namespace Go.Proofs.Ythdcpjmjdbldiaa
open Go.RowKit

def enc1 (d c : UInt8) : List UInt8 := if c = d then [92, c] else [c]
def enc (d : UInt8) (l : List UInt8) : List UInt8 := l.flatMap (enc1 d)
def Fine (d c : UInt8) : Prop := c ≠ 10 ∧ c ≠ 92 ∧ ¬ (c = 91 ∧ d ≠ 91)

theorem enc_snoc (d c : UInt8) (l : List UInt8) : enc d (l ++ [c]) = enc d l ++ enc1 d c := by simp [enc]
theorem enc_len (d : UInt8) (l : List UInt8) : (enc d l).length ≤ 2 * l.length := by
  induction l with
  | nil => simp [enc]
  | cons c l ih =>
    have : enc d (c :: l) = enc1 d c ++ enc d l := by simp [enc]
    rw [this, List.length_append, List.length_cons]
    have : (enc1 d c).length ≤ 2 := by unfold enc1; split <;> simp
    omega

theorem enc_ge (d : UInt8) (l : List UInt8) : l.length ≤ (enc d l).length := by
  induction l with
  | nil => simp
  | cons c l ih =>
    have : enc d (c :: l) = enc1 d c ++ enc d l := by simp [enc]
    rw [this, List.length_append, List.length_cons]
    have : 1 ≤ (enc1 d c).length := by unfold enc1; split <;> simp
    omega

theorem byte_of_wf {d : Int} (h : (Lit.int .u8 d).wf = true) : ∃ x : UInt8, d = x.toNat := by
  have := bounds_u8 h
  exact ⟨d.toNat.toUInt8, by simp; omega⟩

theorem bt_enc (d : UInt8) (rx : Bool) (hd : d ≠ 92) (rest : List UInt8) : ∀ (l pre out : List UInt8) (n : Nat), l.length < n → (∀ c ∈ l, Fine d c) →
    bt (pre ++ (enc d l ++ d :: rest)) d rx n pre.length out = (out ++ l, (pre ++ (enc d l ++ [d])).length, 0) := by
  intro l
  induction l with
  | nil =>
    intro pre out n hn _
    obtain ⟨m, rfl⟩ : ∃ m, n = m + 1 := ⟨n - 1, by omega⟩
    have e0 : enc d [] = [] := rfl
    rw [e0, List.nil_append, List.nil_append]
    rw [bt_end (by simp) (by simp)]
    simp
  | cons c l ih =>
    intro pre out n hn hf
    obtain ⟨m, rfl⟩ : ∃ m, n = m + 1 := ⟨n - 1, by omega⟩
    obtain ⟨h10, h92, h91⟩ := hf c (by simp)
    have e0 : enc d (c :: l) = enc1 d c ++ enc d l := by simp [enc]
    rw [e0]
    by_cases hc : c = d
    · subst hc
      have e1 : enc1 c c = [92, c] := by simp [enc1]
      rw [e1]
      have hx : (pre ++ ([92, c] ++ enc c l ++ c :: rest))[pre.length + 1]? = some c := by
        rw [List.getElem?_append_right (by omega)]; simp
      have hE : esc (pre ++ ([92, c] ++ enc c l ++ c :: rest)) c rx pre.length out = (0, pre.length + 2, out ++ [c]) := by
        unfold esc; rw [hx]; simp
      rw [bt_esc (by simp) (by simp; exact fun e => hd e.symm) (by simp), hE]
      have := ih (pre ++ [92, c]) (out ++ [c]) m (by simp at hn; omega) (fun x hx => hf x (by simp [hx]))
      simp only [List.length_append, List.length_cons, List.length_nil, List.append_assoc, List.cons_append, List.nil_append] at this ⊢
      simp only [if_true]
      rw [this]
    · have e1 : enc1 d c = [c] := by simp [enc1, hc]
      rw [e1]
      have h3 : ¬ (c = 91 ∧ rx = true) := by
        intro h
        by_cases h9 : d = 91
        · exact hc (by rw [h.1, h9])
        · exact h91 ⟨h.1, h9⟩
      have hg : (pre ++ ([c] ++ enc d l ++ d :: rest))[pre.length]'(by simp) = c := by simp
      rw [bt_one (by simp) (by rw [hg]; exact hc) (by rw [hg]; exact h92) (by rw [hg]; exact h3) (by rw [hg]; exact h10), hg]
      have := ih (pre ++ [c]) (out ++ [c]) m (by simp at hn; omega) (fun x hx => hf x (by simp [hx]))
      simp only [List.length_append, List.length_cons, List.length_nil, List.append_assoc, List.cons_append, List.nil_append] at this ⊢
      rw [this]


set_option maxRecDepth 100000 in
set_option maxHeartbeats 2000000 in
theorem lawQuoted (l : List UInt8) (d : UInt8) (rx : Bool) (w : World) (hl : l.length ≤ 9223372036854775807) :
    Calls Try.prog 4 #[.string ⟨l.toArray⟩, .int .u8 d.toNat, .bool rx] w fun e w' => e = .returned (.bool true) ∧ Fr nob w w' := by
  by_cases hq : (200 : Int) < l.length ∨ (¬ (200 : Int) < l.length ∧ ((d.toNat : Int) == 10) = true) ∨ (¬ (200 : Int) < l.length ∧ ((d.toNat : Int) == 10) = false ∧ ((d.toNat : Int) == 92) = true)
  · rcases hq with h1 | ⟨h1, h2⟩ | ⟨h1, h2, h3⟩
    all_goals
      go_enter Try.func4, Try.ntmps4
      go_wp2_with fail
      refine (awake_any _).mono ?_
      rintro e w1 ⟨rfl, g1⟩
      have G1 := Lib.hid g1; clear g1
      go_wp2_with fail
      refine (awake_any _).mono ?_
      rintro e w2 ⟨rfl, g2⟩
      have G2 := Lib.hid g2; clear g2
      go_wp2
      go_ret
      exact ⟨rfl, G1.out.trans' G2.out⟩
  · have hd10 : d ≠ 10 := fun e => hq (by subst e; by_cases h : (200 : Int) < l.length; exact .inl h; exact .inr (.inl ⟨h, rfl⟩))
    have hd92 : d ≠ 92 := fun e => hq (by subst e; by_cases h : (200 : Int) < l.length; exact .inl h; exact .inr (.inr ⟨h, rfl, rfl⟩))
    have hlen : l.length ≤ 200 := by by_cases h : (200 : Int) < l.length; exact (hq (.inl h)).elim; omega
    have t1 : ((d.toNat : Int) == 10) = false := tb_ne hd10
    have t2 : ((d.toNat : Int) == 92) = false := tb_ne hd92
    have h200 : ¬ (200 : Int) < l.length := by omega
    clear hq hl hd10
    have HD := Lib.hid hd92; clear hd92
    go_enter Try.func4, Try.ntmps4
    go_wp2_with fail
    refine (awake_any _).mono ?_
    rintro e w1 ⟨rfl, g1⟩
    have G1 := Lib.hid g1; clear g1
    go_wp2_with fail
    go_loop [7, 31] (fun t i => ∃ k : Nat, k ≤ l.length ∧ i = .int .i64 k ∧ t = .string ⟨(enc d (l.take k)).toArray⟩ ∧ ∀ c ∈ l.take k, Fine d c) (fun _ i => l.length - (intOf i).toNat)
    case atStart => exact ⟨0, Nat.zero_le _, rfl, rfl, by simp⟩
    case round =>
      obtain ⟨k, hk, rfl, rfl, hF⟩ := hrel
      have HF := Lib.hid hF; clear hF
      have hel := enc_len d (l.take k)
      have hel2 : (l.take k).length ≤ k := List.length_take_le _ _
      by_cases hlt : k < l.length
      · have hsl := run_slice_one (P := Try.prog) l (k := k) (lo := (k : Int)) (hi := (k : Int) + 1) Try.underlying9 hlt rfl rfl
        by_cases hbad : Fine d l[k]
        · have hsn := List.take_succ_eq_append_getElem hlt
          have hes : enc d (l.take (k + 1)) = enc d (l.take k) ++ enc1 d l[k] := by rw [hsn, enc_snoc]
          have hF1 : ∀ c ∈ l.take (k + 1), Fine d c := by
            rw [hsn]; intro c hc
            rcases List.mem_append.1 hc with h | h
            · exact HF.out c h
            · simp at h; subst h; exact hbad
          have HF1 := Lib.hid hF1; clear hF1 hsn
          have t3 : ((l[k].toNat : Int) == 10) = false := tb_ne hbad.1
          have t4 : ((l[k].toNat : Int) == 92) = false := tb_ne hbad.2.1
          have t5 : ((l[k].toNat : Int) == 91) = false ∨ (((l[k].toNat : Int) == 91) = true ∧ ((d.toNat : Int) != 91) = false) := by
            by_cases e3 : l[k] = 91
            · right; refine ⟨by rw [e3]; rfl, tn_eq (b := 91) ?_⟩
              exact Classical.byContradiction fun h => hbad.2.2 ⟨e3, h⟩
            · left; exact tb_ne e3
          clear hbad
          by_cases hc : l[k] = d
          · have t6 := tb_eq hc
            have e1 : enc1 d l[k] = [92, l[k]] := by unfold enc1; rw [if_pos hc]
            rw [e1] at hes
            have HES := Lib.hid hes; clear hes e1 hc
            rcases t5 with t5 | ⟨t5, t7⟩
            all_goals
              go_wp2
              go_round
              case rel => exact ⟨k + 1, by omega, by go_num, by rw [HES.out], HF1.out⟩
              case measure => simp [intOf]; omega
          · have t6 := tb_ne hc
            have e1 : enc1 d l[k] = [l[k]] := by unfold enc1; rw [if_neg hc]
            rw [e1] at hes
            have HES := Lib.hid hes; clear hes e1 hc
            rcases t5 with t5 | ⟨t5, t7⟩
            all_goals
              go_wp2
              go_round
              case rel => exact ⟨k + 1, by omega, by go_num, by rw [HES.out], HF1.out⟩
              case measure => simp [intOf]; omega
        · have hb : ((l[k].toNat : Int) == 10) = true ∨ (((l[k].toNat : Int) == 10) = false ∧ ((l[k].toNat : Int) == 92) = true) ∨ (((l[k].toNat : Int) == 10) = false ∧ ((l[k].toNat : Int) == 92) = false ∧ ((l[k].toNat : Int) == 91) = true ∧ ((d.toNat : Int) != 91) = true) := by
            by_cases e1 : l[k] = 10
            · left; rw [e1]; rfl
            · by_cases e2 : l[k] = 92
              · right; left; rw [e2]; exact ⟨rfl, rfl⟩
              · right; right
                by_cases e3 : l[k] = 91 ∧ d ≠ 91
                · exact ⟨tb_ne e1, tb_ne e2, by rw [e3.1]; rfl, tn_ne e3.2⟩
                · exact absurd ⟨e1, e2, e3⟩ hbad
          clear hbad
          rcases hb with t3 | ⟨t3, t4⟩ | ⟨t3, t4, t5, t6⟩
          all_goals
            go_wp2
            go_ret
            exact ⟨rfl, G1.out⟩
      · obtain rfl : k = l.length := by omega
        have hT := List.take_of_length_le (l := l) (Nat.le_refl l.length)
        rw [hT] at hel hel2 HF ⊢
        have hcv := run_conv_one (P := Try.prog) Try.underlying30 Try.underlying5 Try.underlying9 d
        have hll : l.length < (enc d l ++ [d, 114, 101, 115, 116]).length + 1 := by
          have := enc_ge d l
          rw [List.length_append]; omega
        have hbt := bt_enc d rx HD.out [114, 101, 115, 116] l [] [] ((enc d l ++ [d, 114, 101, 115, 116]).length + 1) hll HF.out
        simp only [List.nil_append, List.length_nil] at hbt
        have hsz : (enc d l ++ [d, 114, 101, 115, 116]).length ≤ 100000 := by rw [List.length_append]; simp only [List.length_cons, List.length_nil]; omega
        have HBT := Lib.hid hbt; clear hbt hT hll
        go_wp2_with fail
        refine (between_any (enc d l ++ [d, 114, 101, 115, 116]) 0 d rx _ hsz (Nat.zero_le _)).mono ?_
        rw [HBT.out]
        rintro e w2 ⟨rfl, g2⟩
        have G2 := Lib.hid g2; clear g2 hsz
        go_wp2
        go_ret
        exact ⟨by simp, (G1.out.alloc _).trans' G2.out⟩

namespace pieceQuoted
open Go.ChangeShapes Go.WideShapes Go.ChangeAt Go.RowKit
open Go.ChangeMaps (open_string shut_string)

theorem own : ownKnob Try.prog.godebug = none := by kernel_rfl
theorem laidOut : laidOutB Try.prog = true := by kernel_rfl

theorem readable : ∀ t ∈ Try.f4.params.toList, Try.prog.readableRec t = true ∧ t < Try.prog.types.size := by
  rw [Try.params4]
  intro t ht
  simp only [List.mem_cons, List.not_mem_nil, or_false] at ht
  rcases ht with rfl | rfl | rfl
  · exact ⟨by kernel_rfl, of_decide_eq_true (by kernel_rfl)⟩
  · exact ⟨by kernel_rfl, of_decide_eq_true (by kernel_rfl)⟩
  · exact ⟨by kernel_rfl, of_decide_eq_true (by kernel_rfl)⟩

set_option maxRecDepth 100000 in
theorem lifted (os : Os) (started : os.Started) (H : Type) (enc : TypeId × Value → H) :
    ReturnsInHanded {} Try.checked os 4 .any (Rows.pieceQuotedSpec.pre6 enc Try.prog Try.f4 Rows.pieceQuotedRow.domain false) (Rows.pieceQuotedSpec.post enc Try.prog Try.f4 false true false false) := by
  refine returnsInHanded_of_change (C := Try.checked) own started (by kernel_rfl) Try.func4
    (ChangeSpec.witness6 (enc := enc) (C := Try.checked) false ⟨#[], #[.string ByteArray.empty, .int .u8 0, .bool false], []⟩ 8 (by kernel_rfl) (by kernel_rfl) (by kernel_rfl) (by kernel_rfl)) ?_
  intro W base args ds gs before hval0 hW hcnd _
  have hval : ∀ (j : Nat) t v, Try.f4.params[j]? = some t → args[j]? = some v → Value.okWide Try.prog W .any base t v := hval0
  have hW' : DataW.Whole enc Try.prog Try.f4.params.toList Rows.pieceQuotedSpec.vars false W args.toList ds gs before := hW
  obtain ⟨p, q, hA0, hV, rfl, hfz, hnd⟩ := hW
  have hA : DataW.TrodAll enc Try.prog W 0 (fun _ => true) true Try.f4.params.toList args.toList ds p := hA0
  rw [Try.params4] at hA hval
  obtain ⟨v0, vs0, d0, ds0, p0, q0, hargs, rfl, rfl, h0, r0⟩ := trodAll_cons hA
  obtain ⟨v1, vs1, d1, ds1, p1, q1, rfl, rfl, rfl, h1, r1⟩ := trodAll_cons r0
  obtain ⟨v2, vs2, d2, ds2, p2, q2, rfl, rfl, rfl, h2, r2⟩ := trodAll_cons r1
  obtain ⟨rfl, rfl, rfl⟩ := trodAll_nil r2
  obtain rfl : args = #[v0, v1, v2] := by cases args; simp_all
  obtain ⟨rfl, rfl⟩ := trodVars_none hV
  obtain ⟨s, rfl, _, _, w0⟩ := open_string Try.underlying9 (hval 0 9 v0 rfl rfl) h0
  have e0 : s = ⟨s.data.toList.toArray⟩ := by simp
  obtain ⟨x_i, rfl, _, _, w1⟩ := open_int Try.underlying5 (hval 1 5 v1 rfl rfl) h1
  obtain ⟨x, rfl⟩ := byte_of_wf w1
  obtain ⟨b, rfl, _, _⟩ := open_bool Try.underlying4 (hval 2 4 v2 rfl rfl) h2
  refine (show Calls Try.prog 4 #[.string s, .int .u8 x.toNat, .bool b] W _ from ?_).mono fun e W' h => h
  rw [e0]
  refine (lawQuoted s.data.toList x b W (by unfold maxLen at w0; exact w0)).mono fun e W' ⟨he, hg⟩ => ?_
  subst he
  exact ⟨_, rfl, law_post rfl (by kernel_rfl) Try.underlying4 laidOut readable rfl hW' hg.below⟩

theorem over : Rows.pieceQuotedRow.holds Try.pinned (OpenSpec.ofChange Rows.pieceQuotedSpec) :=
  OpenClaim.holds_of_wide 4 Try.f4 rfl rfl rfl rfl rfl rfl rfl ⟨rfl, rfl, rfl, rfl, rfl⟩ rfl rfl rfl rfl rfl (by kernel_rfl) Try.func4 (by kernel_rfl)
    (of_decide_eq_true (by kernel_rfl)) (by unfold Func.isWrapper; first | (rw [if_pos (by decide +kernel)]; kernel_rfl) | (rw [if_neg (by decide +kernel)]; exact ⟨rfl, rfl⟩))
    (fun os started H enc _ => lifted os started H enc)

/-- THE STATEMENT. -/
theorem proved : Rows.PieceQuotedSaid := over
#print axioms proved
end pieceQuoted

end Go.Proofs.Ythdcpjmjdbldiaa
