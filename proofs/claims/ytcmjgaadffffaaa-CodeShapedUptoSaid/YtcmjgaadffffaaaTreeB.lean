/-
  Walks: slices.IndexFunc, ContainsFunc over nodes, by a function that is a predicate; slices.Contains over numbers.
-/
import Derived.Test.YtcmjgaadffffaaaTreeA
namespace Go.Proofs.Ytcmjgaadffffaaa
open Go.RowKit

/-- A function of the program that answers a predicate of nodes. -/
def IsPred (f : FuncId) (p : Nd → Bool) (B : Nat) : Prop := ∀ (n : Nd) (v : Value) (w : World), n.size ≤ B → RN nob w n v → Calls Try.prog f #[v] w fun e w' => e = .returned (.bool (p n)) ∧ Fr nob w w'

theorem pred_alt (B : Nat) : IsPred 34 Nd.isAlt B := fun n v w _ h => alt_any nob n v w h

theorem notPlain_any (n : Nd) (v : Value) (w : World) (h : RN nob w n v) : Calls Try.prog 32 #[v] w fun e w' => e = .returned (.bool (!n.plain)) ∧ Fr nob w w' := by
  have H := Lib.hid h; clear h
  go_enter Try.func32, Try.ntmps32
  go_wp2_with fail
  refine (plain_any nob n v w H.out).mono ?_
  rintro e w1 ⟨rfl, rfl⟩
  go_wp2
  go_ret
  exact ⟨rfl, Fr.refl _ _⟩

theorem pred_notPlain (B : Nat) : IsPred 32 (fun n => !n.plain) B := fun n v w _ h => notPlain_any n v w h

set_option maxRecDepth 100000 in
set_option maxHeartbeats 1000000 in
theorem indexFunc_any (f : FuncId) (p : Nd → Bool) (B : Nat) (hp : IsPred f p B) (hdef : ∀ args w, (callFunc f args).run Try.prog w = .ok (.enter f args) w) (l : List Nd) (u : Value) (w : World) (hl : l.length ≤ 3000000) (hB : ∀ n ∈ l, n.size ≤ B) (h : SN nob w l u) :
    Calls Try.prog 37 #[u, .func (.func f) #[] #[]] w fun e w' => (∃ i : Int, e = .returned (.int .i64 i) ∧ (decide (0 ≤ i)) = l.any p) ∧ Fr nob w w' := by
  obtain ⟨a, c, rfl⟩ := h.shape
  have H := Lib.hid h; clear h
  have HP := Lib.hid hp; clear hp
  have HB := Lib.hid hB; clear hB
  go_enter Try.func37, Try.ntmps37
  go_wp2_with fail
  go_loopw [8] (fun i wr => ∃ k : Nat, i = .int .i64 k ∧ k ≤ l.length ∧ (l.take k).any p = false ∧ Fr nob w wr) (fun i _ => l.length - (intOf i).toNat)
  case atStart => exact ⟨0, rfl, Nat.zero_le _, rfl, Fr.refl _ _⟩
  case round =>
    obtain ⟨k, rfl, hk, hn, fr⟩ := hrel
    have HR := Lib.hid (H.out.on fr); have FR := Lib.hid fr; have HN := Lib.hid hn; clear fr hn
    by_cases hlt : k < l.length
    · obtain ⟨g, off, cap, x, he, hx, hc⟩ := HR.out.get hlt
      injection he with e1 e2 e3
      subst e1; subst e3
      have HX := Lib.hid hx; clear hx e2
      have hts := Lib.hid (List.take_succ_eq_append_getElem hlt)
      have hany : (l.take (k + 1)).any p = p l[k] := by rw [hts.out, List.any_append, HN.out]; simp
      have HA := Lib.hid hany; clear hany
      go_wp2_with fail
      refine (HP.out l[k] x _ (HB.out _ (List.getElem_mem hlt)) HX.out).mono ?_
      rintro e w2 ⟨rfl, f2⟩
      have F2 := Lib.hid f2; clear f2
      by_cases hpk : p l[k] = true
      · have hall : l.any p = true := List.any_eq_true.2 ⟨_, List.getElem_mem hlt, hpk⟩
        have HALL := Lib.hid hall; clear hall
        rw [hpk]
        clear hpk
        go_wp2
        go_ret
        exact ⟨⟨k, rfl, by rw [HALL.out]; simp⟩, FR.out.trans' F2.out⟩
      · have hpf : p l[k] = false := by simpa using hpk
        have HA2 := Lib.hid (HA.out.trans hpf); clear hpk
        rw [hpf]
        clear hpf
        go_wp2
        go_roundw
        case rel => exact ⟨k + 1, by go_num, by omega, HA2.out, FR.out.trans' F2.out⟩
        case measure => simp [intOf]; omega
    · obtain rfl : k = l.length := by omega
      have hT := Lib.hid (List.take_of_length_le (l := l) (Nat.le_refl _))
      go_wp2
      go_ret
      exact ⟨⟨-1, rfl, by have := HN.out; rw [hT.out] at this; rw [this]; decide⟩, FR.out⟩


set_option maxRecDepth 100000 in
theorem containsFunc_any (f : FuncId) (p : Nd → Bool) (B : Nat) (hp : IsPred f p B) (hdef : ∀ args w, (callFunc f args).run Try.prog w = .ok (.enter f args) w) (l : List Nd) (u : Value) (w : World) (hl : l.length ≤ 3000000) (hB : ∀ n ∈ l, n.size ≤ B) (h : SN nob w l u) :
    Calls Try.prog 31 #[u, .func (.func f) #[] #[]] w fun e w' => e = .returned (.bool (l.any p)) ∧ Fr nob w w' := by
  have H := Lib.hid h; clear h
  have HP := Lib.hid hp; clear hp
  have HB := Lib.hid hB; clear hB
  have HD := Lib.hid hdef; clear hdef
  go_enter Try.func31, Try.ntmps31
  go_wp2_with fail
  refine (indexFunc_any f p B HP.out HD.out l u w hl HB.out H.out).mono ?_
  rintro e w1 ⟨⟨i, rfl, hi⟩, f1⟩
  have F1 := Lib.hid f1; have HI := Lib.hid hi; clear f1 hi
  go_wp2
  go_ret
  exact ⟨by rw [← HI.out]; rfl, F1.out⟩

/-- A slice of integers, its own or not: what it reads. -/
def SI (w : World) (l : List Int) (u : Value) : Prop := (u = .slice none 0 0 ∧ l = []) ∨ ∃ g off cap, u = .slice (some ⟨g, off, none⟩) l.length cap ∧ ∀ j x, l[j]? = some x → w.cell? ⟨g, off + j, none⟩ = some (.int .i64 x)

theorem SI.shape {w : World} {l : List Int} {u : Value} (h : SI w l u) : ∃ a c, u = .slice a l.length c := by
  rcases h with ⟨rfl, rfl⟩ | ⟨g, off, cap, rfl, _⟩
  · exact ⟨_, _, rfl⟩
  · exact ⟨_, _, rfl⟩
theorem SI.get {w : World} {l : List Int} {u : Value} (h : SI w l u) {k : Nat} (hk : k < l.length) : ∃ g off cap, u = .slice (some ⟨g, off, none⟩) l.length cap ∧ w.cell? ⟨g, off + k, none⟩ = some (.int .i64 l[k]) := by
  rcases h with ⟨_, rfl⟩ | ⟨g, off, cap, rfl, h⟩
  · simp at hk
  · exact ⟨g, off, cap, rfl, h k _ (List.getElem?_eq_getElem hk)⟩

set_option maxRecDepth 100000 in
set_option maxHeartbeats 1000000 in
theorem contains_any (l : List Int) (x : Int) (u : Value) (w : World) (hl : l.length ≤ 3000000) (h : SI w l u) :
    Calls Try.prog 36 #[u, .int .i64 x] w fun e w' => e = .returned (.bool (l.contains x)) ∧ w = w' := by
  obtain ⟨a, c, rfl⟩ := h.shape
  have H := Lib.hid h; clear h
  obtain ⟨r, hr⟩ : ∃ r, l.contains x = r := ⟨_, rfl⟩
  rw [hr]
  have HR := Lib.hid hr; clear hr
  go_enter Try.func36, Try.ntmps36
  go_wp2
  go_loop [8] (fun i => ∃ k : Nat, i = .int .i64 k ∧ k ≤ l.length ∧ (l.take k).contains x = false) (fun i => l.length - (intOf i).toNat)
  case atStart => exact ⟨0, rfl, Nat.zero_le _, rfl⟩
  case round =>
    obtain ⟨k, rfl, hk, hn⟩ := hrel
    have HN := Lib.hid hn; clear hn
    by_cases hlt : k < l.length
    · obtain ⟨g, off, cap, he, hc⟩ := H.out.get hlt
      injection he with e1 e2 e3
      subst e1; subst e3
      have hts := Lib.hid (List.take_succ_eq_append_getElem hlt)
      by_cases hx : x = l[k]
      · have t1 : (x == l[k]) = true := by rw [← hx]; simp
        obtain rfl : r = true := by rw [← HR.out, hx]; simp
        clear hx e2
        go_wp2
        go_ret
        exact ⟨by simp, rfl⟩
      · have t1 : (x == l[k]) = false := by simpa using hx
        have hnn : (l.take (k + 1)).contains x = false := by
          have := HN.out
          rw [hts.out]; simp only [List.contains_eq_mem, decide_eq_false_iff_not, List.mem_append, List.mem_singleton] at *
          intro h; rcases h with h | h; exact this h; exact hx h
        have HNN := Lib.hid hnn; clear hnn hx e2
        go_wp2
        go_round
        case rel => exact ⟨k + 1, by go_num, by omega, HNN.out⟩
        case measure => simp [intOf]; omega
    · obtain rfl : k = l.length := by omega
      have hT := List.take_of_length_le (l := l) (Nat.le_refl _)
      obtain rfl : r = false := by have := HN.out; rw [hT] at this; rw [← HR.out]; exact this
      clear hT
      go_wp2
      go_ret
      exact ⟨by simp, rfl⟩

end Go.Proofs.Ytcmjgaadffffaaa
