/-
  Walks of package tree: shaped of any node; right; Right. What they answer in plain words: Nd.look.
-/
import Derived.Test.YtcmjgaadffffaaaTreeC
import Derived.Deep.RegionLaw
namespace Go.Proofs.Ytcmjgaadffffaaa
open Go.RowKit

mutual
/-- Is a node, when o groups were opened, and those of c closed? How many, and which, then are. -/
def Nd.look : Nd → Int → List Int → Option (Int × List Int)
  | .cat l, o, c => if (decide (1 < l.length) && !l.any (fun n => !n.plain)) = true then Nd.looks l o c else none
  | .alt l, o, c => if (decide (1 < l.length) && !l.any Nd.isAlt) = true then Nd.looks l o c else none
  | .rep x mn mx, o, c => if repOk x.atom mn mx = true then x.look o c else none
  | .group n x, o, c => if (n == o + 1) = true then (match x.look (o + 1) c with
      | none => none
      | some (o', c') => some (o', c' ++ [n])) else none
  | .back n, o, c => if c.contains n = true then some (o, c) else none
  | .nil, o, c | .empty, o, c | .one _, o, c | .start, o, c | .fin, o, c => some (o, c)
def Nd.looks : List Nd → Int → List Int → Option (Int × List Int)
  | [], o, c => some (o, c)
  | t :: ts, o, c => match t.look o c with
    | none => none
    | some (o', c') => Nd.looks ts o' c'
end

/-- What is closed with a node. -/
def Nd.shut (c : List Int) : Nd → List Int
  | .group n _ => c ++ [n]
  | _ => c

theorem looks_one (x : Nd) (o : Int) (c : List Int) : Nd.looks [x] o c = x.look o c := by
  rw [Nd.looks]
  cases x.look o c with
  | none => rfl
  | some p => simp [Nd.looks]

theorem Nd.look_no {n : Nd} {o : Int} {c : List Int} (h : (n.shaped o c).1 = false) : n.look o c = none := by
  cases n <;> simp only [Nd.shaped] at h <;> first | (simp only [Nd.look]; rw [h]; rfl) | cases h
theorem Nd.look_yes {n : Nd} {o : Int} {c : List Int} (h : (n.shaped o c).1 = true) : n.look o c = (match Nd.looks n.kids (n.shaped o c).2 c with
      | none => none
      | some (o', c') => some (o', n.shut c')) := by
  cases n with
  | cat l => simp only [Nd.shaped] at h; simp only [Nd.look, Nd.kids, Nd.shaped, Nd.shut, h]; cases Nd.looks l o c <;> rfl
  | alt l => simp only [Nd.shaped] at h; simp only [Nd.look, Nd.kids, Nd.shaped, Nd.shut, h]; cases Nd.looks l o c <;> rfl
  | rep x mn mx => simp only [Nd.shaped] at h; simp only [Nd.look, Nd.kids, Nd.shaped, Nd.shut, h, looks_one]; cases x.look o c <;> rfl
  | group k x => simp only [Nd.shaped] at h; simp only [Nd.look, Nd.kids, Nd.shaped, Nd.shut, h, looks_one]; cases x.look (o + 1) c <;> rfl
  | back k => simp only [Nd.shaped] at h; simp only [Nd.look, Nd.kids, Nd.shaped, Nd.shut, h, Nd.looks]; rfl
  | _ => rfl

mutual
theorem Nd.look_le : ∀ (n : Nd) (o : Int) (c : List Int) (o' : Int) (c' : List Int), n.look o c = some (o', c') → o ≤ o' ∧ o' ≤ o + n.size ∧ c'.length ≤ c.length + n.size
  | .cat l, o, c, o', c', h => by
    simp only [Nd.look] at h; split at h
    · have := Nd.looks_le l o c o' c' h; simp only [Nd.size]; omega
    · cases h
  | .alt l, o, c, o', c', h => by
    simp only [Nd.look] at h; split at h
    · have := Nd.looks_le l o c o' c' h; simp only [Nd.size]; omega
    · cases h
  | .rep x _ _, o, c, o', c', h => by
    simp only [Nd.look] at h; split at h
    · have := Nd.look_le x o c o' c' h; simp only [Nd.size]; omega
    · cases h
  | .group n x, o, c, o', c', h => by
    simp only [Nd.look] at h; split at h
    · split at h
      · cases h
      · rename_i a b e
        have := Nd.look_le x (o + 1) c a b e
        injection h with h; injection h with h1 h2; subst h1; subst h2
        simp only [Nd.size, List.length_append, List.length_cons, List.length_nil]; omega
    · cases h
  | .back n, o, c, o', c', h => by
    simp only [Nd.look] at h; split at h
    · injection h with h; injection h with h1 h2; subst h1; subst h2; omega
    · cases h
  | .nil, o, c, o', c', h => by simp only [Nd.look] at h; injection h with h; injection h with h1 h2; subst h1; subst h2; omega
  | .empty, o, c, o', c', h => by simp only [Nd.look] at h; injection h with h; injection h with h1 h2; subst h1; subst h2; omega
  | .one _, o, c, o', c', h => by simp only [Nd.look] at h; injection h with h; injection h with h1 h2; subst h1; subst h2; omega
  | .start, o, c, o', c', h => by simp only [Nd.look] at h; injection h with h; injection h with h1 h2; subst h1; subst h2; omega
  | .fin, o, c, o', c', h => by simp only [Nd.look] at h; injection h with h; injection h with h1 h2; subst h1; subst h2; omega
theorem Nd.looks_le : ∀ (l : List Nd) (o : Int) (c : List Int) (o' : Int) (c' : List Int), Nd.looks l o c = some (o', c') → o ≤ o' ∧ o' ≤ o + Nd.sizes l ∧ c'.length ≤ c.length + Nd.sizes l
  | [], o, c, o', c', h => by simp only [Nd.looks] at h; injection h with h; injection h with h1 h2; subst h1; subst h2; omega
  | t :: ts, o, c, o', c', h => by
    simp only [Nd.looks] at h; split at h
    · cases h
    · rename_i a b e
      have h1 := Nd.look_le t o c a b e
      have h2 := Nd.looks_le ts a b o' c' h
      simp only [Nd.sizes]; omega
end

theorem Nd.shaped_le (n : Nd) (o : Int) (c : List Int) : o ≤ (n.shaped o c).2 ∧ (n.shaped o c).2 ≤ o + 1 := by
  cases n <;> simp only [Nd.shaped] <;> omega

set_option maxRecDepth 100000 in
set_option maxHeartbeats 1000000 in
theorem shaped_any (b : Nat) (o : Int) (c : List Int) (g : Option Nat) (n : Nd) (v : Value) (w : World) (hL : Lk b o c g w) (hz : n.size ≤ 3000000) (h0 : 0 ≤ o) (h1 : o ≤ 3000000) (hc : c.length ≤ 3000000) (h : RN nob w n v) :
    Calls Try.prog 27 #[.pointer (some ⟨b, 0, none⟩), v] w (Shp b o c g n w) := by
  have plainly : ∀ i x, v = .iface i x → i ≠ 64 → i ≠ 65 → i ≠ 50 → i ≠ 67 → i ≠ 69 → n.shaped o c = (true, o) →
      Calls Try.prog 27 #[.pointer (some ⟨b, 0, none⟩), v] w (Shp b o c g n w) := by
    intro i x hv n1 n2 n3 n4 n5 hE
    have HL := Lib.hid hL; have HE := Lib.hid hE; clear hL hE h hz h0 h1 hc
    subst hv
    go_enter Try.func27, Try.ntmps27
    go_wp2_with fail
    go_ret
    unfold Shp
    rw [HE.out]
    exact ⟨rfl, HL.out, Fr.refl _ _⟩
  cases n with
  | cat l => exact shaped_cat b o c g l v w hL (by simp only [Nd.size] at hz; omega) h
  | alt l => exact shaped_alt b o c g l v w hL (by simp only [Nd.size] at hz; omega) h
  | rep x mn mx => exact shaped_rep b o c g x mn mx v w hL h
  | group k x => exact shaped_group b o c g k x v w hL h0 h1 h
  | back k => exact shaped_back b o c g k v w hL hc h
  | nil =>
    obtain rfl := h.kind
    have HL := Lib.hid hL; clear hL h hz h0 h1 hc plainly
    go_enter Try.func27, Try.ntmps27
    go_wp2_with fail
    go_ret
    exact ⟨rfl, HL.out, Fr.refl _ _⟩
  | empty => exact plainly _ _ h.kind (by decide) (by decide) (by decide) (by decide) (by decide) rfl
  | one s => exact plainly _ _ h.kind (by decide) (by decide) (by decide) (by decide) (by decide) rfl
  | start => exact plainly _ _ h.kind (by decide) (by decide) (by decide) (by decide) (by decide) rfl
  | fin => exact plainly _ _ h.kind (by decide) (by decide) (by decide) (by decide) (by decide) rfl

end Go.Proofs.Ytcmjgaadffffaaa
