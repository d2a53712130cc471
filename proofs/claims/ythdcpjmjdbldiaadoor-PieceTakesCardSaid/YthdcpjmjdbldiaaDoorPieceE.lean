/-
  Walk of piece.Number.
-/
import Derived.Test.YthdcpjmjdbldiaaDoorPieceD
namespace Go.Proofs.YthdcpjmjdbldiaaDoor
open Go.RowKit

/-- A number's digits, read one by one: what is left, the number so far, how many digits. -/
def nm (at_ : Nat) : List UInt8 → Nat → Nat → Nat × Nat × Int
  | [], n, c => if c = 0 then (0, at_, 2) else (n, at_ + c, 0)
  | x :: r, n, c => if 48 ≤ x.toNat ∧ x.toNat ≤ 57 then (if c = 9 then (0, at_, 3) else nm at_ r (n * 10 + (x.toNat - 48)) (c + 1)) else if c = 0 then (0, at_, 2) else (n, at_ + c, 0)

theorem nm_out {at_ : Nat} {l : List UInt8} {k n c : Nat} (h : l.length ≤ k) : nm at_ (l.drop k) n c = if c = 0 then (0, at_, 2) else (n, at_ + c, 0) := by
  rw [List.drop_eq_nil_of_le h]; rfl
theorem nm_no {at_ : Nat} {l : List UInt8} {k n c : Nat} (h : k < l.length) (hd : ¬ (48 ≤ l[k].toNat ∧ l[k].toNat ≤ 57)) : nm at_ (l.drop k) n c = if c = 0 then (0, at_, 2) else (n, at_ + c, 0) := by
  rw [List.drop_eq_getElem_cons h, nm, if_neg hd]
theorem nm_long {at_ : Nat} {l : List UInt8} {k n : Nat} (h : k < l.length) (hd : 48 ≤ l[k].toNat ∧ l[k].toNat ≤ 57) : nm at_ (l.drop k) n 9 = (0, at_, 3) := by
  rw [List.drop_eq_getElem_cons h, nm, if_pos hd, if_pos rfl]
theorem nm_more {at_ : Nat} {l : List UInt8} {k n c : Nat} (h : k < l.length) (hd : 48 ≤ l[k].toNat ∧ l[k].toNat ≤ 57) (hc : c ≠ 9) : nm at_ (l.drop k) n c = nm at_ (l.drop (k + 1)) (n * 10 + (l[k].toNat - 48)) (c + 1) := by
  rw [List.drop_eq_getElem_cons h, nm, if_pos hd, if_neg hc]

theorem fr_iter {S : Nat → Prop} {a w : World} (h : Fr S a w) (s : ByteArray) (p : Nat) : Fr S a (w.iter s p) := h.alloc _

def pow10 (c : Nat) : Nat := 10 ^ c
theorem pow10_succ (c : Nat) : pow10 (c + 1) = pow10 c * 10 := by unfold pow10; rw [Nat.pow_succ]
theorem pow10_le {c : Nat} (h : c ≤ 9) : pow10 c ≤ 1000000000 := by unfold pow10; exact Nat.le_trans (Nat.pow_le_pow_right (by omega) h) (by omega)

/-- The loop's relation. -/
def NmRel (l : List UInt8) (at_ : Nat) (F : Nat × Nat × Int) (w : World) (n c : Value) (wr : World) : Prop :=
  ∃ (m k : Nat), n = .int .i64 m ∧ c = .int .i64 k ∧ wr = w.iter ⟨(l.drop at_).toArray⟩ k ∧ k ≤ 9 ∧ at_ + k ≤ l.length ∧ m < pow10 k ∧ nm at_ (l.drop (at_ + k)) m k = F

set_option maxRecDepth 100000 in
set_option maxHeartbeats 1000000 in
theorem number_any (l : List UInt8) (at_ : Nat) (w : World) (hs : l.length ≤ 100000) (hat : at_ ≤ l.length) :
    Calls Tryd.prog 5 #[.string ⟨l.toArray⟩, .int .i64 at_] w fun e w' =>
      e = .returned (.tuple #[.int .i64 (nm at_ (l.drop at_) 0 0).1, .int .i64 (nm at_ (l.drop at_) 0 0).2.1, .int .i64 (nm at_ (l.drop at_) 0 0).2.2]) ∧ Fr nob w w' := by
  obtain ⟨F, hF⟩ : ∃ F, nm at_ (l.drop at_) 0 0 = F := ⟨_, rfl⟩
  rw [hF]
  have HF := Lib.hid hF; clear hF
  have ho : (decide ((at_ : Int) < 0) || decide ((l.length : Int) < at_)) = false := by simp; omega
  have HO := Lib.hid ho; clear ho
  go_enter Tryd.func5, Tryd.ntmps5
  go_wp2_with (go_at_call 16; refine (over_any _ _ w (by omega)).mono ?_; rw [HO.out]; rintro e w' ⟨rfl, rfl⟩)
  go_loopw [7, 8] (fun n c wr => NmRel l at_ F w n c wr) (fun _ c _ => 10 - (intOf c).toNat)
  case atStart => exact ⟨0, 0, rfl, rfl, rfl, by omega, by omega, by decide, HF.out⟩
  case round =>
    obtain ⟨m, k, rfl, rfl, rfl, hk, hle, hm, hb⟩ := hrel
    by_cases hlt : at_ + k < l.length
    · have hk2 : k < (l.drop at_).length := by rw [List.length_drop]; omega
      have hk3 : k < (ByteArray.mk (l.drop at_).toArray).size := by rw [bsize]; exact hk2
      have hget : (ByteArray.mk (l.drop at_).toArray)[k]'hk3 = l[at_ + k] := by rw [bget]; exact List.getElem_drop
      by_cases hd : 48 ≤ l[at_ + k].toNat ∧ l[at_ + k].toNat ≤ 57
      · obtain ⟨hd1, hd2⟩ := hd
        have hnx : ∀ ty, (Instr.next (.pointer (some ⟨w.heap.size, 0, none⟩)) true ty).run Tryd.prog (w.iter ⟨(l.drop at_).toArray⟩ k) = .ok (.tuple #[.bool true, .int .i64 k, .int .i32 l[at_ + k].toNat]) (w.iter ⟨(l.drop at_).toArray⟩ (k + 1)) := fun ty => by
          rw [run_next_ascii w _ k ty hk3 (by rw [hget]; omega), hget]
        by_cases hc : k = 9
        · subst hc
          rw [nm_long hlt ⟨hd1, hd2⟩] at hb
          subst hb
          clear hk2 hk3 hget hm
          go_wp2
          go_ret3
          exact ⟨rfl, fr_iter (Fr.refl _ _) _ _⟩
        · have hc2 : ((k : Int) == 9) = false := by simp; omega
          rw [nm_more hlt ⟨hd1, hd2⟩ hc] at hb
          have hk8 : k ≤ 8 := by omega
          have hp := pow10_le hk
          have hps := pow10_succ k
          have HB := Lib.hid hb; have HP := Lib.hid hps; clear hb hk2 hk3 hget hc hps
          have hm2 : m < 1000000000 := by omega
          go_wp2
          go_roundw
          case rel => 
            refine ⟨m * 10 + (l[at_ + k].toNat - 48), k + 1, ?_, by go_num, rfl, by omega, by omega, by rw [HP.out]; omega, HB.out⟩
            go_num
          case measure => simp [intOf]; omega
      · rw [nm_no hlt hd] at hb
        obtain ⟨r, p, hr, hnx⟩ : ∃ (r : Int) (p : Nat), (r < 48 ∨ 57 < r) ∧ ∀ ty, (Instr.next (.pointer (some ⟨w.heap.size, 0, none⟩)) true ty).run Tryd.prog (w.iter ⟨(l.drop at_).toArray⟩ k) = .ok (.tuple #[.bool true, .int .i64 k, .int .i32 r]) (w.iter ⟨(l.drop at_).toArray⟩ p) := by
          by_cases ha : l[at_ + k].toNat < 128
          · exact ⟨l[at_ + k].toNat, k + 1, by omega, fun ty => by rw [run_next_ascii w _ k ty hk3 (by rw [hget]; exact ha), hget]⟩
          · have hh := decode_high (ByteArray.mk (l.drop at_).toArray) k hk3 (by rw [hget]; omega)
            exact ⟨_, _, by omega, fun ty => run_next_any w _ k ty hk3⟩
        clear hk2 hk3 hget hd hm
        by_cases hc : k = 0
        · subst hc
          rw [if_pos rfl] at hb
          subst hb
          rcases hr with hr | hr
          · go_wp2
            go_ret3
            exact ⟨rfl, fr_iter (Fr.refl _ _) _ _⟩
          · have hr' : 48 ≤ r := by omega
            go_wp2
            go_ret3
            exact ⟨rfl, fr_iter (Fr.refl _ _) _ _⟩
        · rw [if_neg hc] at hb
          subst hb
          have hc2 : ((k : Int) == 0) = false := by simp; omega
          clear hc
          rcases hr with hr | hr
          · go_wp2
            go_ret3
            exact ⟨by simp, fr_iter (Fr.refl _ _) _ _⟩
          · have hr' : 48 ≤ r := by omega
            go_wp2
            go_ret3
            exact ⟨by simp, fr_iter (Fr.refl _ _) _ _⟩
    · rw [nm_out (by omega)] at hb
      have hnx : ∀ ty, (Instr.next (.pointer (some ⟨w.heap.size, 0, none⟩)) true ty).run Tryd.prog (w.iter ⟨(l.drop at_).toArray⟩ k) = .ok (.tuple #[.bool false]) (w.iter ⟨(l.drop at_).toArray⟩ k) := fun ty => run_next_end w _ k ty (by rw [bsize, List.length_drop]; omega)
      clear hm
      by_cases hc : k = 0
      · subst hc
        rw [if_pos rfl] at hb
        subst hb
        go_wp2
        go_ret3
        exact ⟨rfl, fr_iter (Fr.refl _ _) _ _⟩
      · rw [if_neg hc] at hb
        subst hb
        have hc2 : ((k : Int) == 0) = false := by simp; omega
        clear hc
        go_wp2
        go_ret3
        exact ⟨by simp, fr_iter (Fr.refl _ _) _ _⟩


set_option maxRecDepth 100000 in
theorem awake_any (w : World) : Calls Tryd.prog 4 #[] w fun e w' => e = .returned (.bool true) ∧ Fr nob w w' := by
  have e1 : bt [97, 92, 47, 98, 47, 99] 47 true 7 0 [] = ([97, 47, 98], 5, 0) := by decide +kernel
  have e2 : nm 1 [52, 50, 59] 0 0 = (42, 3, 0) := by decide +kernel
  have E1 := Lib.hid e1; have E2 := Lib.hid e2; clear e1 e2
  go_enter Tryd.func4, Tryd.ntmps4
  go_wp2_with fail
  refine (between_any [97, 92, 47, 98, 47, 99] 0 47 true w (by decide) (by decide)).mono ?_
  rintro e w1 ⟨rfl, h1⟩
  simp only [List.length_cons, List.length_nil, Nat.zero_add, Nat.reduceAdd, E1.out]
  go_wp2_with fail
  refine (number_any [120, 52, 50, 59] 1 w1 (by decide) (by decide)).mono ?_
  rintro e w2 ⟨rfl, h2⟩
  simp only [List.drop_succ_cons, List.drop_zero, E2.out]
  have H1 := Lib.hid h1; have H2 := Lib.hid h2; clear h1 h2
  go_wp2
  go_ret
  exact ⟨rfl, H1.out.trans H2.out (fun _ _ h => h)⟩

end Go.Proofs.YthdcpjmjdbldiaaDoor
