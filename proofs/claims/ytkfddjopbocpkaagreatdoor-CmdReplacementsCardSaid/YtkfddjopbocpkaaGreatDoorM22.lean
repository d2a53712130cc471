/-
  Merged texts of this claim: CmdU, CmdX, BreQ, BreT, CmdN, CmdA.
-/
import Derived.Test.YtkfddjopbocpkaaGreatDoorM01
import Derived.Test.YtkfddjopbocpkaaGreatDoorM06
import Derived.Test.YtkfddjopbocpkaaGreatDoorM07
import Derived.Test.YtkfddjopbocpkaaGreatDoorM12
import Derived.Test.YtkfddjopbocpkaaGreatDoorM21

set_option linter.unusedVariables false
set_option linter.unusedSimpArgs false
/-
  For CmdGuards, CmdTables, CmdReplacements: what the law's texts are read as. Plain.
-/
namespace Go.Proofs.YtkfddjopbocpkaaGreatDoor
open Go.RowKit

section
variable {l : List UInt8}
theorem bhd_stay {k : Nat} {cs : List UInt8} (hk : k < l.length) (h : cs.contains (byt l k) = false) : bhd l cs k = k := by
  unfold bhd tl
  rw [byt_in hk] at h
  rw [List.drop_eq_getElem_cons hk, List.dropWhile_cons, h]
  simp only [Bool.false_eq_true, if_false, List.length_cons, List.length_drop]
  omega
theorem guardD_name {x : Bool} {s : AdS} (hlt : s.at_ < l.length) (hn : 0 ≤ addrsC (byt l s.at_)) (he : s.e = 0) : guardD x l s = .inr (GV.zero, s) := by
  obtain ⟨h1, h2, h3, h4, h5, h6, h7, h8, _⟩ := name_not hn
  have hb : bhd l [32, 9] s.at_ = s.at_ := bhd_stay hlt (by simp [h2, h3])
  unfold guardD addrD
  rw [if_neg h1, if_neg h6, if_neg h7, if_neg h8, if_neg (by simp)]
  simp only [AV.zero, if_true]
  unfold notD
  rw [hb, if_neg h5]
  obtain ⟨a, m, e⟩ := s
  obtain rfl : e = 0 := he
  rfl
end

def yT1 (b : UInt8) : List UInt8 := if b = 10 then [92, 110] else if b = 92 ∨ b = 47 then [92, b] else [b]
def yM1 (b : UInt8) : List UInt8 := if b = 10 then [92, 110] else if b = 92 then [92, 92] else [b]
def yT (f : List UInt8) : List UInt8 := f.flatMap yT1
def yM (f : List UInt8) : List UInt8 := f.flatMap yM1
def rT1 (b : UInt8) : List UInt8 := if b = 10 then [92, 110] else if b = 92 ∨ b = 47 ∨ b = 38 then [92, b] else [b]
def rM1 (b : UInt8) : List UInt8 := if b = 10 then [92, 110] else if b = 92 ∨ b = 38 then [92, b] else [b]
def rT (f : List UInt8) : List UInt8 := f.flatMap rT1
def rM (f : List UInt8) : List UInt8 := f.flatMap rM1
theorem bt_pair2 {l r : List UInt8} {k n : Nat} {out : List UInt8} {y : UInt8} (h : l.drop k = 92 :: y :: r) : bt l 47 false (n + 1) k out = bt l 47 false n (k + 2) (out ++ (if y = 47 then [47] else [92, y])) := by
  have h0 : l[k]? = some 92 := by rw [← List.head?_drop, h]; rfl
  have h1 : l[k + 1]? = some y := by
    have := congrArg (fun t => t[1]?) h
    simpa [List.getElem?_drop] using this
  rw [bt, h0]
  simp only
  rw [if_neg (by decide)]
  simp only [if_true]
  have he : esc l 47 false k out = (0, k + 2, out ++ (if y = 47 then [47] else [92, y])) := by
    unfold esc
    rw [h1]
    simp only
    by_cases hy : y = 47
    · rw [if_pos hy, if_pos hy, hy]
    · rw [if_neg hy, if_neg hy, if_neg (by simp)]
  rw [he]
  rfl
theorem bt_byte {l r : List UInt8} {k n : Nat} {out : List UInt8} {y : UInt8} (h : l.drop k = y :: r) (h1 : y ≠ 47) (h2 : y ≠ 92) (h3 : y ≠ 10) : bt l 47 false (n + 1) k out = bt l 47 false n (k + 1) (out ++ [y]) := by
  have h0 : l[k]? = some y := by rw [← List.head?_drop, h]; rfl
  rw [bt, h0]
  simp only
  rw [if_neg h1, if_neg h2]
  simp only [Bool.false_eq_true, and_false, if_false]
  have ht : (l.drop k).take 1 = [y] := by rw [h]; rfl
  rw [ht, if_pos (by simp [Lib.indexByte, h3])]
theorem bt_stop {l r : List UInt8} {k n : Nat} {out : List UInt8} (h : l.drop k = 47 :: r) : bt l 47 false (n + 1) k out = (out, k + 1, 0) := by
  have h0 : l[k]? = some 47 := by rw [← List.head?_drop, h]; rfl
  rw [bt, h0]
  simp
theorem drop_more {l a r : List UInt8} {k : Nat} (h : l.drop k = a ++ r) : l.drop (k + a.length) = r := by rw [← List.drop_drop, h, List.drop_left]
theorem bt_told {l : List UInt8} (T Mf : UInt8 → List UInt8) (hT : ∀ b, (T b = [92, 110] ∧ Mf b = [92, 110]) ∨ (T b = [92, 47] ∧ Mf b = [47]) ∨ (∃ y, y ≠ 47 ∧ T b = [92, y] ∧ Mf b = [92, y]) ∨ (∃ y, y ≠ 47 ∧ y ≠ 92 ∧ y ≠ 10 ∧ T b = [y] ∧ Mf b = [y])) :
    ∀ (f r : List UInt8) (k n : Nat) (out : List UInt8), l.drop k = f.flatMap T ++ 47 :: r → f.length < n → bt l 47 false n k out = (out ++ f.flatMap Mf, k + (f.flatMap T).length + 1, 0)
  | [], r, k, n + 1, out, h, hn => by
    rw [bt_stop h]; simp
  | b :: f, r, k, n + 1, out, h, hn => by
    rw [List.flatMap_cons, List.append_assoc] at h
    have hd := drop_more h
    have ih := bt_told T Mf hT f r (k + (T b).length) n (out ++ Mf b) hd (by simp at hn; omega)
    have hstep : bt l 47 false (n + 1) k out = bt l 47 false n (k + (T b).length) (out ++ Mf b) := by
      rcases hT b with ⟨e1, e2⟩ | ⟨e1, e2⟩ | ⟨y, hy, e1, e2⟩ | ⟨y, hy1, hy2, hy3, e1, e2⟩
      · rw [e1] at h ⊢; rw [e2, bt_pair2 (y := 110) h]; rfl
      · rw [e1] at h ⊢; rw [e2, bt_pair2 (y := 47) h]; rfl
      · rw [e1] at h ⊢; rw [e2, bt_pair2 (y := y) h, if_neg hy]; rfl
      · rw [e1] at h ⊢; rw [e2, bt_byte (y := y) h hy1 hy2 hy3]; rfl
    rw [hstep, ih, List.flatMap_cons, List.flatMap_cons, List.length_append, List.append_assoc]
    congr 2
    omega
  | f, _, _, 0, _, _, hn => by omega
theorem yT_kinds (b : UInt8) : (yT1 b = [92, 110] ∧ yM1 b = [92, 110]) ∨ (yT1 b = [92, 47] ∧ yM1 b = [47]) ∨ (∃ y, y ≠ 47 ∧ yT1 b = [92, y] ∧ yM1 b = [92, y]) ∨ (∃ y, y ≠ 47 ∧ y ≠ 92 ∧ y ≠ 10 ∧ yT1 b = [y] ∧ yM1 b = [y]) := by
  unfold yT1 yM1
  by_cases h1 : b = 10
  · exact .inl ⟨by rw [if_pos h1], by rw [if_pos h1]⟩
  · by_cases h2 : b = 92
    · exact .inr (.inr (.inl ⟨92, by decide, by rw [if_neg h1, if_pos (.inl h2), h2], by rw [if_neg h1, if_pos h2]⟩))
    · by_cases h3 : b = 47
      · exact .inr (.inl ⟨by rw [if_neg h1, if_pos (.inr h3), h3], by rw [if_neg h1, if_neg h2, h3]⟩)
      · exact .inr (.inr (.inr ⟨b, h3, h2, h1, by rw [if_neg h1, if_neg (by simp [h2, h3])], by rw [if_neg h1, if_neg h2]⟩))
theorem rT_kinds (b : UInt8) : (rT1 b = [92, 110] ∧ rM1 b = [92, 110]) ∨ (rT1 b = [92, 47] ∧ rM1 b = [47]) ∨ (∃ y, y ≠ 47 ∧ rT1 b = [92, y] ∧ rM1 b = [92, y]) ∨ (∃ y, y ≠ 47 ∧ y ≠ 92 ∧ y ≠ 10 ∧ rT1 b = [y] ∧ rM1 b = [y]) := by
  unfold rT1 rM1
  by_cases h1 : b = 10
  · exact .inl ⟨by rw [if_pos h1], by rw [if_pos h1]⟩
  · by_cases h2 : b = 92
    · exact .inr (.inr (.inl ⟨92, by decide, by rw [if_neg h1, if_pos (.inl h2), h2], by rw [if_neg h1, if_pos (.inl h2), h2]⟩))
    · by_cases h3 : b = 47
      · exact .inr (.inl ⟨by rw [if_neg h1, if_pos (.inr (.inl h3)), h3], by rw [if_neg h1, if_neg (by subst h3; decide), h3]⟩)
      · by_cases h4 : b = 38
        · exact .inr (.inr (.inl ⟨38, by decide, by rw [if_neg h1, if_pos (.inr (.inr h4)), h4], by rw [if_neg h1, if_pos (.inr h4), h4]⟩))
        · exact .inr (.inr (.inr ⟨b, h3, h2, h1, by rw [if_neg h1, if_neg (by simp [h2, h3, h4])], by rw [if_neg h1, if_neg (by simp [h2, h4])]⟩))
theorem listL_told : ∀ (f out : List UInt8), listL (yM f) false out = (out ++ f, true)
  | [], out => by simp [yM, listL]
  | b :: f, out => by
    have ih := fun o => listL_told f o
    unfold yM at ih ⊢
    rw [List.flatMap_cons]
    by_cases h1 : b = 10
    · subst h1
      show listL (92 :: 110 :: f.flatMap yM1) false out = _
      rw [listL, if_pos ⟨rfl, rfl⟩, listL, if_neg (by simp), if_pos ⟨rfl, rfl⟩, ih]; simp
    · by_cases h2 : b = 92
      · subst h2
        show listL (92 :: 92 :: f.flatMap yM1) false out = _
        rw [listL, if_pos ⟨rfl, rfl⟩, listL, if_neg (by simp), if_neg (by decide), if_neg (by simp), ih]; simp
      · have e : yM1 b = [b] := by unfold yM1; rw [if_neg h1, if_neg h2]
        rw [e]
        show listL (b :: f.flatMap yM1) false out = _
        rw [listL, if_neg (by simp [h2]), if_neg (by simp), if_neg (by simp), ih]; simp
theorem pushT_one (a b : List UInt8) : pushT [(-1, a)] b = [(-1, a ++ b)] := rfl
theorem partsL_told (g : Int) (tail : List UInt8) : ∀ (f : List UInt8) (out : List UInt8), partsL g (rM f ++ tail) false [(-1, out)] = partsL g tail false [(-1, out ++ f)]
  | [], out => by simp [rM]
  | b :: f, out => by
    have ih := fun o => partsL_told g tail f o
    unfold rM at ih ⊢
    rw [List.flatMap_cons, List.append_assoc]
    by_cases h1 : b = 10
    · subst h1
      show partsL g (92 :: 110 :: (f.flatMap rM1 ++ tail)) false _ = _
      rw [partsL, if_pos ⟨rfl, rfl⟩, partsL, if_neg (by simp), if_neg (by simp), if_neg (by simp), if_pos ⟨rfl, rfl⟩, pushT_one, ih]; simp
    · by_cases h2 : b = 92
      · subst h2
        show partsL g (92 :: 92 :: (f.flatMap rM1 ++ tail)) false _ = _
        rw [partsL, if_pos ⟨rfl, rfl⟩, partsL, if_neg (by simp), if_neg (by simp), if_neg (by simp), if_neg (by decide), pushT_one, ih]; simp
      · by_cases h4 : b = 38
        · subst h4
          show partsL g (92 :: 38 :: (f.flatMap rM1 ++ tail)) false _ = _
          rw [partsL, if_pos ⟨rfl, rfl⟩, partsL, if_neg (by simp), if_neg (by simp), if_neg (by simp), if_neg (by decide), pushT_one, ih]; simp
        · have e : rM1 b = [b] := by unfold rM1; rw [if_neg h1, if_neg (by simp [h2, h4])]
          rw [e]
          show partsL g (b :: (f.flatMap rM1 ++ tail)) false _ = _
          rw [partsL, if_neg (by simp [h2]), if_neg (by simp [h4]), if_neg (by simp), if_neg (by simp), pushT_one, ih]; simp
theorem partsL_first (g : Int) (tail : List UInt8) (f : List UInt8) (hf : f ≠ []) : partsL g (rM f ++ tail) false [] = partsL g tail false [(-1, f)] := by
  cases f with
  | nil => exact absurd rfl hf
  | cons b f =>
    have ih := fun o => partsL_told g tail f o
    unfold rM at ih ⊢
    rw [List.flatMap_cons, List.append_assoc]
    have hp : ∀ t, pushT [] t = [(-1, t)] := fun _ => rfl
    by_cases h1 : b = 10
    · subst h1
      show partsL g (92 :: 110 :: (f.flatMap rM1 ++ tail)) false _ = _
      rw [partsL, if_pos ⟨rfl, rfl⟩, partsL, if_neg (by simp), if_neg (by simp), if_neg (by simp), if_pos ⟨rfl, rfl⟩, hp, ih]; simp
    · by_cases h2 : b = 92
      · subst h2
        show partsL g (92 :: 92 :: (f.flatMap rM1 ++ tail)) false _ = _
        rw [partsL, if_pos ⟨rfl, rfl⟩, partsL, if_neg (by simp), if_neg (by simp), if_neg (by simp), if_neg (by decide), hp, ih]; simp
      · by_cases h4 : b = 38
        · subst h4
          show partsL g (92 :: 38 :: (f.flatMap rM1 ++ tail)) false _ = _
          rw [partsL, if_pos ⟨rfl, rfl⟩, partsL, if_neg (by simp), if_neg (by simp), if_neg (by simp), if_neg (by decide), hp, ih]; simp
        · have e : rM1 b = [b] := by unfold rM1; rw [if_neg h1, if_neg (by simp [h2, h4])]
          rw [e]
          show partsL g (b :: (f.flatMap rM1 ++ tail)) false _ = _
          rw [partsL, if_neg (by simp [h2]), if_neg (by simp [h4]), if_neg (by simp), if_neg (by simp), hp, ih]; simp
end Go.Proofs.YtkfddjopbocpkaaGreatDoor

/-
  Package cmd, plain: what a y with two told lists is, and an s with a told replacement. No walk.
-/
namespace Go.Proofs.YtkfddjopbocpkaaGreatDoor
open Go.RowKit

theorem bt_through {l : List UInt8} (T Mf : UInt8 → List UInt8) (hT : ∀ b, (T b = [92, 110] ∧ Mf b = [92, 110]) ∨ (T b = [92, 47] ∧ Mf b = [47]) ∨ (∃ y, y ≠ 47 ∧ T b = [92, y] ∧ Mf b = [92, y]) ∨ (∃ y, y ≠ 47 ∧ y ≠ 92 ∧ y ≠ 10 ∧ T b = [y] ∧ Mf b = [y])) :
    ∀ (f r : List UInt8) (k n : Nat) (out : List UInt8), l.drop k = f.flatMap T ++ r → bt l 47 false (n + f.length) k out = bt l 47 false n (k + (f.flatMap T).length) (out ++ f.flatMap Mf)
  | [], r, k, n, out, h => by simp
  | b :: f, r, k, n, out, h => by
    rw [List.flatMap_cons, List.append_assoc] at h
    have hd := drop_more h
    have ih := bt_through T Mf hT f r (k + (T b).length) n (out ++ Mf b) hd
    have hstep : bt l 47 false (n + f.length + 1) k out = bt l 47 false (n + f.length) (k + (T b).length) (out ++ Mf b) := by
      rcases hT b with ⟨e1, e2⟩ | ⟨e1, e2⟩ | ⟨y, hy, e1, e2⟩ | ⟨y, hy1, hy2, hy3, e1, e2⟩
      · rw [e1] at h ⊢; rw [e2, bt_pair2 (y := 110) h]; rfl
      · rw [e1] at h ⊢; rw [e2, bt_pair2 (y := 47) h]; rfl
      · rw [e1] at h ⊢; rw [e2, bt_pair2 (y := y) h, if_neg hy]; rfl
      · rw [e1] at h ⊢; rw [e2, bt_byte (y := y) h hy1 hy2 hy3]; rfl
    rw [List.length_cons, ← Nat.add_assoc, hstep, ih, List.flatMap_cons, List.flatMap_cons, List.length_append, List.append_assoc, Nat.add_assoc]
theorem endC_end {l : List UInt8} {s : AdS} (h : s.at_ = l.length) : endC l s = s := by
  have hb : bhd l [32, 9] s.at_ = s.at_ := by
    have := bhd_in (l := l) [32, 9] (k := s.at_) (by omega); omega
  unfold endC
  simp only [hb]
  rw [if_pos (.inl (by show l.length ≤ s.at_; omega))]
  rfl
theorem cmdD_start {x : Bool} {l : List UInt8} {n : UInt8} (hl : 0 < l.length) (hb : byt l 0 = n) (hn : 0 ≤ addrsC n) (hm : ¬ (n = 81 ∨ n = 84 ∨ n = 122)) {R : Bool × CV × AdS} (hR : argsC x l ⟨0, GV.zero, n, [], SV.zero, []⟩ ⟨1, [], 0⟩ = R) :
    cmdD x l 0 = (if (if R.1 = true ∧ R.2.2.e = 0 then endC l R.2.2 else R.2.2).e ≠ 0 then .inl ((if R.1 = true ∧ R.2.2.e = 0 then endC l R.2.2 else R.2.2).e, (if R.1 = true ∧ R.2.2.e = 0 then endC l R.2.2 else R.2.2).at_) else .inr (R.2.1, if R.1 = true ∧ R.2.2.e = 0 then endC l R.2.2 else R.2.2)) := by
  have hg := guardD_name (x := x) (l := l) (s := ⟨0, [], 0⟩) hl (by show 0 ≤ addrsC (byt l 0); rw [hb]; exact hn) rfl
  have ht : toldC GV.zero = 0 := rfl
  have hc : cmdC x l GV.zero ⟨0, [], 0⟩ = if R.1 = true ∧ R.2.2.e = 0 then (R.2.1, endC l R.2.2) else (R.2.1, R.2.2) := by
    unfold cmdC
    rw [if_neg (by show ¬ l.length ≤ 0; omega)]
    simp only [hb, ht]
    rw [if_neg (by omega : ¬ addrsC n < 0), if_neg (by omega : ¬ addrsC n < 0), if_neg hm]
    rw [if_neg (fun h => h rfl)]
    have e : ({ CV.zero with at_ := 0, guard := GV.zero, name := n } : CV) = ⟨0, GV.zero, n, [], SV.zero, []⟩ := rfl
    rw [e]
    have e2 : ((⟨0, [], 0⟩ : AdS).to (0 + 1)) = ⟨1, [], 0⟩ := rfl
    rw [e2, hR]
  unfold cmdD
  rw [hg]
  simp only
  rw [hc]
  by_cases h : R.1 = true ∧ R.2.2.e = 0
  · rw [if_pos h, if_pos h]
  · rw [if_neg h, if_neg h]
theorem betw_told {l : List UInt8} (T Mf : UInt8 → List UInt8) (hT : ∀ b, (T b = [92, 110] ∧ Mf b = [92, 110]) ∨ (T b = [92, 47] ∧ Mf b = [47]) ∨ (∃ y, y ≠ 47 ∧ T b = [92, y] ∧ Mf b = [92, y]) ∨ (∃ y, y ≠ 47 ∧ y ≠ 92 ∧ y ≠ 10 ∧ T b = [y] ∧ Mf b = [y])) (f r : List UInt8) (q : AdS) (h : l.drop q.at_ = f.flatMap T ++ 47 :: r) (h0 : q.e = 0) (hf : f.length ≤ l.length) :
    betwC l 47 false q = (f.flatMap Mf, ⟨q.at_ + (f.flatMap T).length + 1, q.marks, 0⟩) := by
  unfold betwC
  rw [if_neg (fun e => e h0), bt_told T Mf hT f r q.at_ (l.length + 1) [] h (by omega)]
  simp only [List.nil_append, movedC, if_pos h0]
def yS (f t : List UInt8) : List UInt8 := 121 :: 47 :: (yT f ++ 47 :: (yT t ++ [47]))
theorem flat_ge (T : UInt8 → List UInt8) (hT : ∀ b, 1 ≤ (T b).length) : ∀ f : List UInt8, f.length ≤ (f.flatMap T).length
  | [] => by simp
  | b :: f => by have := flat_ge T hT f; have := hT b; rw [List.flatMap_cons, List.length_append, List.length_cons]; omega
theorem yT_one (b : UInt8) : 1 ≤ (yT1 b).length ∧ (yT1 b).length ≤ 2 := by unfold yT1; (repeat' split) <;> simp
theorem rT_one (b : UInt8) : 1 ≤ (rT1 b).length ∧ (rT1 b).length ≤ 2 := by unfold rT1; (repeat' split) <;> simp
theorem yS_table (f t : List UInt8) : tableC (yS f t) ⟨1, [], 0⟩ =
    if f.length ≠ t.length then ([], ⟨2 + (yT f).length + 1, [], 18⟩)
    else if (tabL (f.zip t) [] idTab).2 then ((tabL (f.zip t) [] idTab).1, ⟨(yS f t).length, [], 0⟩) else ([], ⟨2 + (yT f).length + 1, [], 15⟩) := by
  have hf := flat_ge yT1 (fun b => (yT_one b).1) f
  have ht := flat_ge yT1 (fun b => (yT_one b).1) t
  have hlen : (yS f t).length = 2 + (yT f).length + 1 + (yT t).length + 1 := by
    unfold yS; simp only [List.length_cons, List.length_append, List.length_nil]; omega
  have hd : delimC (yS f t) ⟨1, [], 0⟩ = (47, ⟨2, [], 0⟩) := by
    unfold delimC
    rw [if_neg (by show ¬ (yS f t).length ≤ 1; omega)]
    rfl
  have hd2 : (yS f t).drop 2 = f.flatMap yT1 ++ 47 :: (yT t ++ [47]) := rfl
  have hd3 : (yS f t).drop (2 + (yT f).length + 1) = t.flatMap yT1 ++ 47 :: [] := by
    have := drop_more (a := f.flatMap yT1 ++ [47]) (r := yT t ++ [47]) (by rw [hd2]; simp)
    rw [List.length_append] at this
    exact this
  have b1 := betw_told yT1 yM1 yT_kinds f (yT t ++ [47]) ⟨2, [], 0⟩ hd2 rfl (by unfold yT at hlen; omega)
  have b2 := betw_told yT1 yM1 yT_kinds t [] ⟨2 + (yT f).length + 1, [], 0⟩ hd3 rfl (by unfold yT at hlen; omega)
  unfold tableC
  simp only [hd]
  rw [b1]
  simp only
  have b2' : betwC (yS f t) 47 false ⟨2 + (f.flatMap yT1).length + 1, [], 0⟩ = (t.flatMap yM1, ⟨2 + (yT f).length + 1 + (t.flatMap yT1).length + 1, [], 0⟩) := b2
  rw [b2']
  simp only
  rw [if_neg (fun h => h rfl)]
  have l1 : listL (f.flatMap yM1) false [] = (f, true) := by have := listL_told f []; simpa [yM] using this
  have l2 : listL (t.flatMap yM1) false [] = (t, true) := by have := listL_told t []; simpa [yM] using this
  rw [l1, l2]
  simp only [Bool.true_eq_false, false_or]
  split
  · rfl
  · split
    · rw [show 2 + (yT f).length + 1 + (t.flatMap yT1).length + 1 = (yS f t).length from by rw [hlen]; rfl]
    · rfl
theorem cmd_table (f t : List UInt8) : cmdD false (yS f t) 0 =
    if f.length ≠ t.length then .inl (18, 2 + (yT f).length + 1)
    else if (tabL (f.zip t) [] idTab).2 then .inr (⟨0, GV.zero, 121, [], SV.zero, (tabL (f.zip t) [] idTab).1⟩, ⟨(yS f t).length, [], 0⟩) else .inl (15, 2 + (yT f).length + 1) := by
  have hR : argsC false (yS f t) ⟨0, GV.zero, 121, [], SV.zero, []⟩ ⟨1, [], 0⟩ = (true, ⟨0, GV.zero, 121, [], SV.zero, (tableC (yS f t) ⟨1, [], 0⟩).1⟩, (tableC (yS f t) ⟨1, [], 0⟩).2) := rfl
  rw [cmdD_start (n := 121) (by unfold yS; simp) rfl (by decide) (by decide) hR, yS_table]
  by_cases h1 : f.length ≠ t.length
  · rw [if_pos h1, if_pos h1]; rfl
  · rw [if_neg h1, if_neg h1]
    by_cases h2 : (tabL (f.zip t) [] idTab).2 = true
    · rw [if_pos h2, if_pos h2]
      simp only [and_self, if_true, endC_end]
      rfl
    · rw [if_neg h2, if_neg h2]; rfl
def wantL (x : UInt8) : List (UInt8 × UInt8) → List UInt8 → UInt8 → Option UInt8
  | [], _, w => some w
  | (a, b) :: r, seen, w => if seen.contains a then none else wantL x r (seen ++ [a]) (if a = x then b else w)
theorem tabL_want (x : UInt8) : ∀ (l : List (UInt8 × UInt8)) (seen out : List UInt8) (w : UInt8), out.length = 256 → out[x.toNat]? = some w →
    (wantL x l seen w = none → (tabL l seen out).2 = false) ∧ (∀ v, wantL x l seen w = some v → (tabL l seen out).2 = true ∧ (tabL l seen out).1.length = 256 ∧ (tabL l seen out).1[x.toNat]? = some v)
  | [], seen, out, w, h1, h2 => by
    constructor
    · intro h; cases h
    · intro v h
      unfold wantL at h; injection h with h; subst h; exact ⟨rfl, h1, h2⟩
  | (a, b) :: r, seen, out, w, h1, h2 => by
    rw [wantL, tabL]
    by_cases hc : seen.contains a = true
    · rw [if_pos hc, if_pos hc]; exact ⟨fun _ => rfl, fun v h => by cases h⟩
    · rw [if_neg hc, if_neg hc]
      refine tabL_want x r (seen ++ [a]) (out.set a.toNat b) (if a = x then b else w) (by rw [List.length_set]; exact h1) ?_
      by_cases hx : a = x
      · subst hx
        rw [if_pos rfl, List.getElem?_set_self (by rw [h1]; exact UInt8.toNat_lt a)]
      · rw [if_neg hx, List.getElem?_set_ne (fun e => hx (UInt8.toNat.inj e))]
        exact h2
theorem idTab_at (x : UInt8) : idTab.length = 256 ∧ idTab[x.toNat]? = some x := by
  have hx : x.toNat < 256 := UInt8.toNat_lt x
  unfold idTab
  refine ⟨by simp, ?_⟩
  rw [List.getElem?_map, List.getElem?_range hx]
  simp
def rS (f : List UInt8) (whole : Bool) : List UInt8 := 115 :: 47 :: 120 :: 47 :: (rT f ++ ((if whole then [38] else []) ++ [47]))
theorem parse_x : ∃ n r, parseD prg false [120] = .inr (n, r) ∧ r.marks = [] ∧ n.groups = 0 := ⟨_, _, rfl, rfl, rfl⟩
theorem rS_sub (f : List UInt8) (whole : Bool) (hf : f ≠ []) : ∃ n, subC false (rS f whole) ⟨1, [], 0⟩ = (⟨[120], n, (-1, f) :: (if whole then [(0, [])] else []), 0, false, false, []⟩, ⟨(rS f whole).length, [], 0⟩) := by
  obtain ⟨n, r, hp, hm, hg⟩ := parse_x
  refine ⟨n, ?_⟩
  have hfl := flat_ge rT1 (fun b => (rT_one b).1) f
  have hlen : (rS f whole).length = 4 + (rT f).length + (if whole then 1 else 0) + 1 := by
    unfold rS; cases whole <;> simp <;> omega
  have hd : delimC (rS f whole) ⟨1, [], 0⟩ = (47, ⟨2, [], 0⟩) := by
    unfold delimC
    rw [if_neg (by show ¬ (rS f whole).length ≤ 1; omega)]
    rfl
  have hb1 : betwC (rS f whole) 47 true ⟨2, [], 0⟩ = ([120], ⟨4, [], 0⟩) := by
    have hb : bt (rS f whole) 47 true ((rS f whole).length + 1) 2 [] = ([120], 4, 0) := by
      obtain ⟨m, hm⟩ : ∃ m, (rS f whole).length = m + 1 := ⟨_, by rw [hlen]⟩
      rw [hm]
      have g2 : (rS f whole)[2]? = some 120 := rfl
      have g3 : (rS f whole)[3]? = some 47 := rfl
      have gd : ((rS f whole).drop 2).take 1 = [120] := rfl
      have hst : bt (rS f whole) 47 true (m + 1 + 1) 2 [] = bt (rS f whole) 47 true (m + 1) 3 [120] := by
        rw [bt, g2]
        simp only
        rw [if_neg (by decide), if_neg (by decide), if_neg (show ¬ ((120 : UInt8) = 91 ∧ True) by decide), gd, if_pos (by decide)]
        rfl
      rw [hst, bt, g3]
      simp
    unfold betwC
    rw [if_neg (fun e => e rfl)]
    simp only [hb]
    rfl
  have hrx : regexC false (rS f whole) 47 ⟨2, [], 0⟩ = (([120], n), ⟨4, [], 0⟩) := by
    unfold regexC
    simp only [hb1]
    rw [if_neg (show ¬ (True ∧ ([120] : List UInt8) = []) by decide), if_neg (fun e => e rfl), hp]
    simp only [hm, List.map_nil, List.append_nil]
  have hd4 : (rS f whole).drop 4 = f.flatMap rT1 ++ ((if whole then [38] else []) ++ [47]) := rfl
  have hbt : bt (rS f whole) 47 false ((rS f whole).length + 1) 4 [] = (rM f ++ (if whole then [38] else []), (rS f whole).length, 0) := by
    obtain ⟨m, hm⟩ : ∃ m, (rS f whole).length + 1 = (m + 2) + f.length := ⟨(rS f whole).length + 1 - 2 - f.length, by unfold rT at hlen; omega⟩
    rw [hm, bt_through rT1 rM1 rT_kinds f _ 4 (m + 2) [] hd4]
    have hd5 := drop_more hd4
    cases whole with
    | false =>
      rw [bt_stop (r := []) hd5]
      refine Prod.ext ?_ (Prod.ext ?_ rfl)
      · simp [rM]
      · show 4 + (f.flatMap rT1).length + 1 = _; rw [hlen]; rfl
    | true =>
      rw [bt_byte (y := 38) (r := [47]) hd5 (by decide) (by decide) (by decide), show 4 + (f.flatMap rT1).length + 1 = 4 + (f.flatMap rT1).length + ([38] : List UInt8).length from rfl, bt_stop (r := []) (drop_more (a := [38]) hd5)]
      refine Prod.ext ?_ (Prod.ext ?_ rfl)
      · simp [rM]
      · show 4 + (f.flatMap rT1).length + 1 + 1 = _; rw [hlen]; rfl
  have hb2 : betwC (rS f whole) 47 false ⟨4, [], 0⟩ = (rM f ++ (if whole then [38] else []), ⟨(rS f whole).length, [], 0⟩) := by
    unfold betwC
    rw [if_neg (fun e => e rfl)]
    simp only [hbt]
    rfl
  have hpt : partsL 0 (rM f ++ (if whole then [38] else [])) false [] = ((-1, f) :: (if whole then [(0, [])] else []), 0) := by
    rw [partsL_first 0 _ f hf]
    cases whole <;> rfl
  have hnx : ∀ c, nextC (rS f whole) ⟨(rS f whole).length, [], 0⟩ c = false := fun c => by unfold nextC; rw [List.getElem?_eq_none (Nat.le_refl _)]
  unfold subC
  simp only [hd]
  rw [if_neg (fun e => e rfl)]
  simp only [hrx, hb2, hg]
  rw [if_neg (fun e => e rfl)]
  rw [show ((0 : Nat) : Int) = 0 from rfl, hpt]
  rw [if_neg (fun e => e rfl), flagsC]
  unfold flagC
  simp only [hnx]
  rfl
theorem cmd_repl (f : List UInt8) (whole : Bool) (hf : f ≠ []) : ∃ n, cmdD false (rS f whole) 0 =
    .inr (⟨0, GV.zero, 115, [], ⟨[120], n, (-1, f) :: (if whole then [(0, [])] else []), 0, false, false, []⟩, []⟩, ⟨(rS f whole).length, [], 0⟩) := by
  obtain ⟨n, hs⟩ := rS_sub f whole hf
  refine ⟨n, ?_⟩
  have hR : argsC false (rS f whole) ⟨0, GV.zero, 115, [], SV.zero, []⟩ ⟨1, [], 0⟩ = (true, ⟨0, GV.zero, 115, [], ⟨[120], n, (-1, f) :: (if whole then [(0, [])] else []), 0, false, false, []⟩, []⟩, ⟨(rS f whole).length, [], 0⟩) := by
    have e : argsC false (rS f whole) ⟨0, GV.zero, 115, [], SV.zero, []⟩ ⟨1, [], 0⟩ = ((subC false (rS f whole) ⟨1, [], 0⟩).1.file == [], ⟨0, GV.zero, 115, [], (subC false (rS f whole) ⟨1, [], 0⟩).1, []⟩, (subC false (rS f whole) ⟨1, [], 0⟩).2) := rfl
    rw [e, hs]
    rfl
  rw [cmdD_start (n := 115) (by unfold rS; simp) rfl (by decide) (by decide) hR]
  simp only [and_self, if_true, endC_end]
  rfl
end Go.Proofs.YtkfddjopbocpkaaGreatDoor

/-
  A basic regex in plain words: bytes told one behind the other. No walk.
-/
namespace Go.Proofs.YtkfddjopbocpkaaGreatDoor
open Go.RowKit

end Go.Proofs.YtkfddjopbocpkaaGreatDoor

/-
  Chapter 4: Quoted; digits.
-/
namespace Go.Proofs.YtkfddjopbocpkaaGreatDoor
open Go.RowKit

end Go.Proofs.YtkfddjopbocpkaaGreatDoor

/-
  Walk of package placketlaw13: told.
-/
namespace Go.Proofs.YtkfddjopbocpkaaGreatDoor
open Go.RowKit

theorem yT_take {l : List UInt8} {k : Nat} (h : k < l.length) : yT (l.take (k + 1)) = yT (l.take k) ++ yT1 l[k] := by
  unfold yT; rw [List.take_succ_eq_append_getElem h, List.flatMap_append]; simp
theorem yT_le : ∀ l : List UInt8, (yT l).length ≤ 2 * l.length
  | [] => by simp [yT]
  | b :: l => by
    have h1 := yT_le l; have h2 := (yT_one b).2
    unfold yT at h1 ⊢
    rw [List.flatMap_cons, List.length_append, List.length_cons]; omega
set_option maxRecDepth 100000 in
set_option maxHeartbeats 2000000 in
theorem told13_any (l : List UInt8) (u : Value) (w : World) (hl : l.length ≤ 100000) (hu : SB w l u) :
    Calls Tryz.prog 15 #[u] w fun e w' => e = .returned (.string ⟨(yT l).toArray⟩) ∧ Fr nob w w' := by
  obtain ⟨ua, uc, hus⟩ := hu.shape
  have HU := Lib.hid hu; clear hu
  subst hus
  have hcv := run_conv_one (P := Tryz.prog) Tryz.underlying22 Tryz.underlying5 Tryz.underlying9
  go_enter Tryz.func15, Tryz.ntmps15
  go_wp2_with fail
  go_loopw [3, 8] (fun v i wr => ∃ k : Nat, i = .int .i64 k ∧ k ≤ l.length ∧ v = .string ⟨(yT (l.take k)).toArray⟩ ∧ Fr nob w wr) (fun _ i _ => l.length - (intOf i).toNat)
  case atStart => exact ⟨0, rfl, Nat.zero_le _, rfl, Fr.refl _ _⟩
  case round =>
    obtain ⟨k, rfl, hk, rfl, fr⟩ := hrel
    have HFR := Lib.hid fr
    clear fr
    by_cases hlt : k < l.length
    · obtain ⟨q, off, cap, he, hc⟩ := HU.out.get HFR.out hlt
      injection he with e1 e2 e3
      subst e1; subst e3
      have HT := Lib.hid (yT_take hlt)
      obtain ⟨x, hx⟩ : ∃ x, l[k] = x := ⟨_, rfl⟩
      rw [hx] at hc HT
      have hle : (yT (l.take k)).length ≤ 200000 := by have := yT_le (l.take k); rw [List.length_take] at this; omega
      obtain ⟨out, ho⟩ : ∃ out, yT (l.take k) = out := ⟨_, rfl⟩
      rw [ho] at HT hle ⊢
      clear e2 hx ho
      unfold yT1 at HT
      by_cases h10 : x = 10
      · have t1 : ((x.toNat : Int) == 10) = true := tb_eq (b := 10) h10
        rw [if_pos h10] at HT
        clear h10 hcv
        go_wp2
        go_roundw
        case rel => exact ⟨k + 1, by go_num, by omega, by rw [HT.out], HFR.out⟩
        case measure => simp [intOf]; omega
      · have t1 : ((x.toNat : Int) == 10) = false := tb_ne (b := 10) h10
        rw [if_neg h10] at HT
        have hcx := hcv x
        by_cases h92 : x = 92
        · subst h92
          rw [if_pos (.inl rfl)] at HT
          rw [show ((UInt8.toNat 92 : Nat) : Int) = 92 from rfl] at hcx
          clear hcv h10 t1
          go_wp2
          go_roundw
          case rel => exact ⟨k + 1, by go_num, by omega, by rw [HT.out], HFR.out.alloc _⟩
          case measure => simp [intOf]; omega
        · have t2 : ((x.toNat : Int) == 92) = false := tb_ne (b := 92) h92
          by_cases h47 : x = 47
          · subst h47
            rw [if_pos (.inr rfl)] at HT
            rw [show ((UInt8.toNat 47 : Nat) : Int) = 47 from rfl] at hcx
            clear hcv h10 h92 t1 t2
            go_wp2
            go_roundw
            case rel => exact ⟨k + 1, by go_num, by omega, by rw [HT.out], HFR.out.alloc _⟩
            case measure => simp [intOf]; omega
          · have t3 : ((x.toNat : Int) == 47) = false := tb_ne (b := 47) h47
            rw [if_neg (by simp [h92, h47])] at HT
            clear hcv h10 h92 h47
            go_wp2
            go_roundw
            case rel => exact ⟨k + 1, by go_num, by omega, by rw [HT.out], HFR.out.alloc _⟩
            case measure => simp [intOf]; omega
    · obtain rfl : k = l.length := by omega
      clear hcv
      go_wp2
      go_ret
      rw [List.take_of_length_le (Nat.le_refl _)]
      exact ⟨rfl, HFR.out⟩
end Go.Proofs.YtkfddjopbocpkaaGreatDoor

/-
  The reader of package cmd in memory; walks of fail, ok, over, next, mark, moved.
-/
namespace Go.Proofs.YtkfddjopbocpkaaGreatDoor
open Go.RowKit

structure Cmr (b : Nat) (l : List UInt8) (x : Bool) (s : AdS) (S : Nat → Prop) (mv : Value) (w : World) : Prop where
  blk : w.heap[b]? = some (.cells #[.string ⟨l.toArray⟩, .int .i64 s.at_, .bool x, mv, .int .i64 s.e] 79 (0, 0))
  ma : OwM w s.marks mv
  nm : ∀ k, mv.ownBlock = some k → k ≠ b ∧ S k
  me : S b
def CRd (b : Nat) (l : List UInt8) (x : Bool) (s : AdS) (S : Nat → Prop) (w : World) : Prop := ∃ mv, Cmr b l x s S mv w
section
variable {b : Nat} {l : List UInt8} {x : Bool} {s : AdS} {S : Nat → Prop} {mv v' : Value} {w w' W0 w3 : World}
theorem Cmr.keep {X : Nat → Prop} (h : Cmr b l x s S mv w) (f : Fr X w w') (hb : ¬ X b) (hm : ∀ k, mv.ownBlock = some k → ¬ X k) : Cmr b l x s S mv w' :=
  ⟨f.heap h.blk hb, ownsRow_fr h.ma f hm, h.nm, h.me⟩
theorem Cmr.on (h : Cmr b l x s S mv w) (f : Fr nob w w') : Cmr b l x s S mv w' := h.keep f (fun x => x) (fun _ _ x => x)
theorem CRd.on (h : CRd b l x s S w) (f : Fr nob w w') : CRd b l x s S w' := by obtain ⟨mv, h⟩ := h; exact ⟨mv, h.on f⟩
theorem CRd.keep {X : Nat → Prop} (h : CRd b l x s S w) (f : Fr X w w') (hX : ∀ k, X k → ¬ S k) : CRd b l x s S w' := by
  obtain ⟨mv, h⟩ := h; exact ⟨mv, h.keep f (fun e => hX _ e h.me) (fun k hk e => hX _ e (h.nm k hk).2)⟩
theorem Cmr.turned (h : Cmr b l x s S mv w) (j : Nat) (u : Value) (s' : AdS)
    (hj : (#[.string ⟨l.toArray⟩, .int .i64 s.at_, .bool x, mv, .int .i64 s.e] : Array Value).setIfInBounds j u = #[.string ⟨l.toArray⟩, .int .i64 s'.at_, .bool x, mv, .int .i64 s'.e]) (hm : s'.marks = s.marks) :
    Cmr b l x s' S mv (w.setCell ⟨b, j, none⟩ u) := by
  have hf := (Fr.refl (fun k => k = b) w).setCell (p := ⟨b, j, none⟩) (fun _ => rfl) u
  have hb := heap_setCell_at h.blk j u
  rw [hj] at hb
  exact ⟨hb, by rw [hm]; exact ownsRow_fr h.ma hf (fun k hk e => (h.nm k hk).1 e), h.nm, h.me⟩
theorem Cmr.stp (h : Cmr b l x s S mv w) (j : Nat) (u : Value) : Stp S w S (w.setCell ⟨b, j, none⟩ u) :=
  ⟨(Fr.refl S w).setCell (p := ⟨b, j, none⟩) (fun _ => h.me) u, fun _ _ x => x, fun hl k hk => by have := hl k hk; simpa [World.setCell] using this⟩
theorem Cmr.push (h : Cmr b l x s S mv w) (f : Fr nob w W0) (hap : Appd 1 mv v' W0 w3) {k : Nat} {t : List UInt8}
    (hown : w3.ownsRow 0 55 2 v' (s.marks.length + 1) (mkC s.marks ++ [.int .i64 k, .string ⟨t.toArray⟩])) :
    (w3.cell? ⟨b, 3, none⟩ = some mv ∧ w3.frozen? ⟨b, 3, none⟩ = false) ∧ Cmr b l x ⟨s.at_, s.marks ++ [(k, t)], s.e⟩ (Plus S v') v' (w3.setCell ⟨b, 3, none⟩ v') ∧ Stp S w (Plus S v') (w3.setCell ⟨b, 3, none⟩ v') := by
  have h0 := h.on f
  have hblk := hap.fr.heap h0.blk (fun e => (h.nm b e).1 rfl)
  have hsz := f.size
  have hb := lt_heap h.blk
  have hst := (Fr.refl (fun k => k = b) w3).setCell (p := ⟨b, 3, none⟩) (fun _ => rfl) v'
  have hnb : v'.ownBlock ≠ some b := fun e => by
    rcases hap.old b e with h1 | h1
    · exact (h.nm b h1).1 rfl
    · omega
  refine ⟨⟨cell_at hblk rfl, unfrozen_at hblk 3⟩, ⟨by have := heap_setCell_at hblk 3 v'; simpa using this, ?_, fun k hk => ⟨fun e => hnb (by rw [← e]; exact hk), .inr hk⟩, .inl h.me⟩, ?_, ?_, ?_⟩
  · have := ownsRow_fr hown hst (fun k hk e => hnb (by rw [← e]; exact hk))
    unfold OwM
    simp only [List.length_append, List.length_singleton, mkC_append]
    exact this
  · exact (f.any.trans (hap.fr.mono (T := S) fun k _ hk => (h.nm k hk).2) (fun _ _ x => x)).setCell (p := ⟨b, 3, none⟩) (fun _ => h.me) v'
  · intro k hk hx
    rcases hx with hx | hx
    · exact hx
    · rcases hap.old k hx with h1 | h1
      · exact (h.nm k h1).2
      · omega
  · intro hl k hk
    have hz : (w3.setCell ⟨b, 3, none⟩ v').heap.size = w3.heap.size := by simp [World.setCell]
    rw [hz]
    rcases hk with hk | hk
    · have := hl k hk; have := hap.fr.size; omega
    · exact own_lt hown k hk
end

set_option maxRecDepth 100000 in
theorem cm_ok (b : Nat) (l : List UInt8) (x : Bool) (s : AdS) (S : Nat → Prop) (w : World) (h : CRd b l x s S w) :
    Calls Tryz.prog 31 #[.pointer (some ⟨b, 0, none⟩)] w fun r w' => r = .returned (.bool (s.e == 0)) ∧ Fr nob w w' := by
  obtain ⟨mv, h⟩ := h
  have rr := rule5 h.blk
  go_enter Tryz.func31, Tryz.ntmps31
  go_wp2
  go_ret
  exact ⟨rfl, Fr.refl _ _⟩

set_option maxRecDepth 100000 in
theorem cm_over (b : Nat) (l : List UInt8) (x : Bool) (s : AdS) (S : Nat → Prop) (w : World) (hl : l.length ≤ 1000000) (h : CRd b l x s S w) :
    Calls Tryz.prog 52 #[.pointer (some ⟨b, 0, none⟩)] w fun r w' => r = .returned (.bool (decide (l.length ≤ s.at_))) ∧ Fr nob w w' := by
  obtain ⟨mv, h⟩ := h
  have rr := rule5 h.blk
  obtain ⟨p, hp⟩ : ∃ p, s.at_ = p := ⟨_, rfl⟩
  rw [hp] at rr ⊢
  clear h hp
  have e : decide (l.length ≤ p) = decide ((l.length : Int) ≤ (p : Int)) := by simp
  rw [e]
  go_enter Tryz.func52, Tryz.ntmps52
  go_wp2_with fail
  refine region_fr 9 (by kernel_rfl) (by kernel_rfl) ?_
  simp only [List.take_succ_cons, List.take_zero, List.drop_succ_cons, List.drop_zero]
  repeat (quiet_step (fail))
  refine wpQuiet_nil ?_
  intro wC fC
  go_wp2
  go_ret
  exact ⟨rfl, fC⟩

theorem failC_yes {s : AdS} {e : Int} {p : Nat} (h : s.e = 0) : failC s e p = ⟨p, s.marks, e⟩ := if_pos h
theorem failC_no {s : AdS} {e : Int} {p : Nat} (h : ¬ s.e = 0) : failC s e p = s := if_neg h
set_option maxRecDepth 100000 in
set_option maxHeartbeats 1000000 in
theorem cm_fail (b : Nat) (l : List UInt8) (x : Bool) (s : AdS) (S : Nat → Prop) (e : Int) (p : Nat) (w : World) (h : CRd b l x s S w) :
    Calls Tryz.prog 53 #[.pointer (some ⟨b, 0, none⟩), .int .i64 e, .int .i64 (p : Nat)] w fun r w' => r = .returned (.tuple #[]) ∧ CRd b l x (failC s e p) S w' ∧ Stp S w S w' := by
  obtain ⟨mv, h⟩ := h
  have r1 := rule5 h.blk _ (Fr.refl _ _)
  by_cases h0 : s.e = 0
  · rw [failC_yes h0]
    have h2 := h.turned 4 (.int .i64 e) ⟨s.at_, s.marks, e⟩ (by simp) rfl
    have h3 := h2.turned 1 (.int .i64 (p : Nat)) ⟨p, s.marks, e⟩ (by simp) rfl
    have st := ((h.stp 4 (.int .i64 e)).trans (h2.stp 1 (.int .i64 (p : Nat))))
    have r2 := rule5 h2.blk _ (Fr.refl _ _)
    have H3 := Lib.hid h3; have ST := Lib.hid st
    clear h h2 h3 st
    rw [h0] at r1
    clear h0
    go_enter Tryz.func53, Tryz.ntmps53
    go_wp2
    go_end0
    exact ⟨rfl, ⟨mv, H3.out⟩, ST.out⟩
  · rw [failC_no h0]
    have h1 : (s.e == 0) = false := by simpa using h0
    have H := Lib.hid h
    clear h
    go_enter Tryz.func53, Tryz.ntmps53
    go_wp2
    go_end0
    exact ⟨rfl, ⟨mv, H.out⟩, Stp.refl _ _⟩

theorem nextC_out {l some : List UInt8} {s : AdS} (h : l.length ≤ s.at_) : nextC l s some = false := by unfold nextC; rw [List.getElem?_eq_none h]
theorem nextC_at {l some : List UInt8} {s : AdS} (h : s.at_ < l.length) : nextC l s some = some.contains l[s.at_] := by unfold nextC; rw [List.getElem?_eq_getElem h]
theorem index_contains (l : List UInt8) (c : UInt8) : decide (0 ≤ Lib.indexByte l c) = l.contains c := by
  rw [indexByte_idx]
  cases h : l.contains c with
  | true =>
    have : l.idxOf c < l.length := List.idxOf_lt_length_of_mem (by simpa using h)
    rw [if_pos this]; simp
  | false =>
    have : ¬ l.idxOf c < l.length := fun hh => by
      have := List.idxOf_lt_length_iff.1 hh
      simp at h; exact h this
    rw [if_neg this]; rfl
set_option maxRecDepth 100000 in
set_option maxHeartbeats 1000000 in
theorem cm_next (b : Nat) (l : List UInt8) (x : Bool) (s : AdS) (S : Nat → Prop) (t : List UInt8) (w : World) (hl : l.length ≤ 1000000) (h : CRd b l x s S w) :
    Calls Tryz.prog 95 #[.pointer (some ⟨b, 0, none⟩), .string ⟨t.toArray⟩] w fun r w' => r = .returned (.bool (nextC l s t)) ∧ Fr nob w w' := by
  have HO := Lib.hid (fun w' (f : Fr nob w w') => cm_over b l x s S w' hl (h.on f))
  obtain ⟨mv, h⟩ := h
  have rr := rule5 h.blk
  obtain ⟨p, hp⟩ : ∃ p, s.at_ = p := ⟨_, rfl⟩
  by_cases hin : p < l.length
  · rw [nextC_at (by rw [hp]; exact hin), ← index_contains]
    have hd : decide (l.length ≤ s.at_) = false := by rw [hp]; simp; exact hin
    rw [hd] at HO
    simp only [hp] at rr ⊢
    have HI := Lib.hid (fun w' => strings_IndexByte t (l[p].toNat : Int) w')
    have hb : ((l[p].toNat : Int)).toNat.toUInt8 = l[p] := toNat_back _
    rw [hb] at HI
    obtain ⟨z, hz⟩ : ∃ z, Lib.indexByte t l[p] = z := ⟨_, rfl⟩
    rw [hz] at HI ⊢
    clear h hp hd hz hb
    go_enter Tryz.func95, Tryz.ntmps95
    go_wp2_with fail
    refine region_fr 14 (by kernel_rfl) (by kernel_rfl) ?_
    simp only [List.take_succ_cons, List.take_zero, List.drop_succ_cons, List.drop_zero]
    repeat (go_big_quiet_step ((with_reducible exact calls_fr (HO.out _ (grown_fr _ _ _)))))
    refine wpQuiet_nil ?_
    intro wC fC
    go_wp2_with (refine (HI.out _).mono ?_; rintro e w' ⟨rfl, rfl⟩)
    go_ret
    exact ⟨rfl, fC⟩
  · rw [nextC_out (by rw [hp]; omega)]
    have hd : decide (l.length ≤ s.at_) = true := by rw [hp]; simp; omega
    rw [hd] at HO
    simp only [hp] at rr ⊢
    clear h hp hd
    go_enter Tryz.func95, Tryz.ntmps95
    go_wp2_with fail
    refine region_fr 14 (by kernel_rfl) (by kernel_rfl) ?_
    simp only [List.take_succ_cons, List.take_zero, List.drop_succ_cons, List.drop_zero]
    repeat (go_big_quiet_step ((with_reducible exact calls_fr (HO.out _ (grown_fr _ _ _)))))
    refine wpQuiet_nil ?_
    intro wC fC
    go_wp2
    go_ret
    exact ⟨rfl, fC⟩

def CAft (b : Nat) (l : List UInt8) (x : Bool) (S : Nat → Prop) (w : World) (s' : AdS) (w' : World) : Prop := ∃ S', CRd b l x s' S' w' ∧ Stp S w S' w'
set_option maxRecDepth 100000 in
set_option maxHeartbeats 2000000 in
theorem cm_mark (b : Nat) (l : List UInt8) (x : Bool) (s : AdS) (S : Nat → Prop) (p : Nat) (t : List UInt8) (w : World) (hm : s.marks.length ≤ 1000000) (h : CRd b l x s S w) :
    Calls Tryz.prog 57 #[.pointer (some ⟨b, 0, none⟩), .int .i64 (p : Nat), .string ⟨t.toArray⟩] w fun r w' => r = .returned (.tuple #[]) ∧ CAft b l x S w (markC s p t) w' := by
  obtain ⟨mv, h⟩ := h
  obtain ⟨a3, c3, rfl⟩ := ownsRow_slice h.ma
  obtain ⟨i0, hi, hz0, hz1, hz2⟩ := info_parts info_mark
  have r1 := rule5 h.blk
  have H := Lib.hid h
  clear h
  go_enter Tryz.func57, Tryz.ntmps57
  go_wp2_with (at_builtin; refine wpList_append_g rfl _ _ 36 rfl 55 i0 (.agg #[.int .i64 0, .string ByteArray.empty]) 2 24 Tryz.underlying36 hi hz0 hz1 hz2 rfl (by decide) _ _ _ rfl (ownsRow_fr H.out.ma ((Fr.refl nob w).alloc _) (fun _ _ x => x)) ⟨w.heap.size, 0, none⟩ 1 1 [.int .i64 (p : Nat), .string ⟨t.toArray⟩] rfl rfl ?c1 ?c2 ?c3 ?c4 ?_)
  case c1 => exact mk_news (t := t) (newAt0 w _)
  case c2 => exact mk_one (t := t)
  case c3 => unfold maxLen; show s.marks.length + 1 ≤ _; omega
  case c4 => show (s.marks.length + 1) * 24 ≤ _; omega
  intro v' w4 hown' hap
  obtain ⟨av, cv4, rfl⟩ := ownsRow_slice hown'
  obtain ⟨⟨pc, pf⟩, h5, st5⟩ := H.out.push ((Fr.refl nob w).alloc _) hap (k := p) (t := t) hown'
  have H5 := Lib.hid h5; have ST5 := Lib.hid st5
  clear hown' hap h5 st5 r1
  go_wp2
  go_end0
  exact ⟨rfl, _, ⟨_, H5.out⟩, ST5.out⟩

theorem movedC_yes {s : AdS} {e : Int} {p : Nat} (h : s.e = 0) : movedC s p e = ⟨p, s.marks, e⟩ := if_pos h
theorem movedC_no {s : AdS} {e : Int} {p : Nat} (h : ¬ s.e = 0) : movedC s p e = s := if_neg h
set_option maxRecDepth 100000 in
set_option maxHeartbeats 1000000 in
theorem cm_moved (b : Nat) (l : List UInt8) (x : Bool) (s : AdS) (S : Nat → Prop) (e : Int) (p : Nat) (w : World) (h : CRd b l x s S w) :
    Calls Tryz.prog 116 #[.pointer (some ⟨b, 0, none⟩), .int .i64 (p : Nat), .int .i64 e] w fun r w' => r = .returned (.bool (s.e == 0 && (movedC s p e).e == 0)) ∧ CRd b l x (movedC s p e) S w' ∧ Stp S w S w' := by
  have HK := Lib.hid (cm_ok b l x s S w h)
  obtain ⟨mv, h⟩ := h
  by_cases h0 : s.e = 0
  · rw [movedC_yes h0]
    have e1 : (s.e == 0) = true := by simpa using h0
    rw [e1] at HK ⊢
    have H := Lib.hid h
    clear h
    go_enter Tryz.func116, Tryz.ntmps116
    go_wp2_with fail
    refine HK.out.mono ?_
    rintro z w1 ⟨rfl, f1⟩
    have h := H.out.on f1
    have r1 := rule5 h.blk _ (Fr.refl _ _)
    have h2 := h.turned 1 (.int .i64 (p : Nat)) ⟨p, s.marks, s.e⟩ (by simp) rfl
    have h3 := h2.turned 4 (.int .i64 e) ⟨p, s.marks, e⟩ (by simp) rfl
    have st := (Stp.of f1).trans ((h.stp 1 (.int .i64 (p : Nat))).trans (h2.stp 4 (.int .i64 e)))
    have r2 := rule5 h2.blk _ (Fr.refl _ _)
    obtain ⟨w2, hw2⟩ : ∃ w2, w2 = (w1.setCell ⟨b, 1, none⟩ (.int .i64 (p : Nat))).setCell ⟨b, 4, none⟩ (.int .i64 e) := ⟨_, rfl⟩
    rw [← hw2] at h3 st
    have HK2 := Lib.hid (cm_ok b l x ⟨p, s.marks, e⟩ S w2 ⟨mv, h3⟩)
    have H3 := Lib.hid h3; have ST := Lib.hid st; have HW2 := Lib.hid hw2
    clear h h2 h3 st hw2 f1
    go_wp2_with (rw [← HW2.out])
    refine HK2.out.mono ?_
    rintro z w3 ⟨rfl, f3⟩
    clear r1 r2
    go_wp2
    go_ret
    exact ⟨rfl, ⟨mv, H3.out.on f3⟩, ST.out.trans (Stp.of f3)⟩
  · rw [movedC_no h0]
    have e1 : (s.e == 0) = false := by simpa using h0
    rw [e1] at HK ⊢
    have H := Lib.hid h
    clear h
    go_enter Tryz.func116, Tryz.ntmps116
    go_wp2_with fail
    refine HK.out.mono ?_
    rintro z w1 ⟨rfl, f1⟩
    go_wp2
    go_ret
    exact ⟨rfl, ⟨mv, H.out.on f1⟩, Stp.of f1⟩
end Go.Proofs.YtkfddjopbocpkaaGreatDoor
