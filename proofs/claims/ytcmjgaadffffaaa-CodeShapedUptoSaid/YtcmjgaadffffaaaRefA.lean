/-
  The document's nodes: Of, Kids; how much there is of a node, its kinds known; as the program's node.
-/
import Derived.Test.YtcmjgaadffffaaaTreeH
namespace Go.Proofs.Ytcmjgaadffffaaa
open Go.RowKit

def T.kind : T → Int | .mk k _ _ _ _ _ => k
def T.parts : T → List T | .mk _ _ ps _ _ _ => ps
def T.zero : T := .mk 0 S4.zero [] 0 0 0
def T.of (t : T) : T := match t.parts with
  | [] => T.zero
  | x :: _ => x
def T.kids (t : T) : List T := if t.kind = 2 ∨ t.kind = 3 then t.parts else if t.kind = 4 ∨ t.kind = 5 then [t.of] else []

mutual
/-- How much there is of a node. -/
def T.bulk : T → Nat
  | .mk _ _ ps _ _ _ => 1 + T.bulks ps
def T.bulks : List T → Nat
  | [] => 0
  | t :: ts => t.bulk + T.bulks ts
end
mutual
/-- Are all kinds known? -/
def T.known : T → Bool
  | .mk k _ ps _ _ _ => (!(decide (k < 0) || decide (8 < k))) && T.knowns ps
def T.knowns : List T → Bool
  | [] => true
  | t :: ts => t.known && T.knowns ts
end
mutual
/-- The program's node. -/
def T.nd : T → Nd
  | .mk k s ps mn mx nu => if k = 1 then .one s else if k = 2 then .cat (T.nds ps) else if k = 3 then .alt (T.nds ps) else if k = 4 then .rep (T.nd1 ps) mn mx
    else if k = 5 then .group nu (T.nd1 ps) else if k = 6 then .back nu else if k = 7 then .start else if k = 8 then .fin else .empty
def T.nds : List T → List Nd
  | [] => []
  | t :: ts => t.nd :: T.nds ts
def T.nd1 : List T → Nd
  | [] => .empty
  | t :: _ => t.nd
end

theorem T.bulk_pos (t : T) : 1 ≤ t.bulk := by cases t; simp only [T.bulk]; omega
theorem T.bulk_parts (t : T) : t.bulk = 1 + T.bulks t.parts := by cases t; rfl
theorem T.bulks_append (l m : List T) : T.bulks (l ++ m) = T.bulks l + T.bulks m := by
  induction l with
  | nil => simp [T.bulks]
  | cons t ts ih => simp only [List.cons_append, T.bulks, ih]; omega
theorem T.length_le (l : List T) : l.length ≤ T.bulks l := by
  induction l with
  | nil => simp
  | cons t ts ih => have := t.bulk_pos; simp only [List.length_cons, T.bulks]; omega
theorem T.bulks_mem {l : List T} {t : T} (h : t ∈ l) : t.bulk ≤ T.bulks l := by
  induction l with
  | nil => simp at h
  | cons a l ih =>
    simp only [T.bulks]
    rcases List.mem_cons.1 h with rfl | h
    · omega
    · have := ih h; omega
theorem T.bulks_take {l : List T} {k : Nat} (h : k < l.length) : T.bulks (l.take (k + 1)) = T.bulks (l.take k) + l[k].bulk := by
  rw [List.take_succ_eq_append_getElem h, T.bulks_append]; simp [T.bulks]
theorem T.bulks_take_le (l : List T) (k : Nat) : T.bulks (l.take k) ≤ T.bulks l := by
  have := T.bulks_append (l.take k) (l.drop k)
  rw [List.take_append_drop] at this; omega
theorem T.part_lt {t x : T} (h : x ∈ t.parts) : x.bulk < t.bulk := by
  have := T.bulks_mem h; rw [T.bulk_parts t]; omega
theorem T.of_lt (t : T) : t.of.bulk ≤ t.bulk := by
  cases t with
  | mk k s ps mn mx nu =>
    cases ps with
    | nil => simp [T.of, T.parts, T.zero, T.bulk, T.bulks]
    | cons x r => simp only [T.of, T.parts, T.bulk, T.bulks]; omega
theorem T.nds_eq (l : List T) : T.nds l = l.map T.nd := by
  induction l with
  | nil => rfl
  | cons t ts ih => simp only [T.nds, List.map_cons, ih]
theorem T.kids_nd (t : T) : t.nd.kids = t.kids.map T.nd := by
  cases t with
  | mk k s ps mn mx nu =>
    have h1 : T.nd1 ps = (T.of (.mk k s ps mn mx nu)).nd := by cases ps <;> rfl
    simp only [T.nd, T.kids, T.kind, T.parts, h1, T.nds_eq]
    by_cases a1 : k = 1
    · simp [a1, Nd.kids]
    by_cases a2 : k = 2
    · simp [a2, Nd.kids]
    by_cases a3 : k = 3
    · simp [a3, Nd.kids]
    by_cases a4 : k = 4
    · simp [a4, Nd.kids]
    by_cases a5 : k = 5
    · simp [a5, Nd.kids]
    by_cases a6 : k = 6
    · simp [a6, Nd.kids]
    by_cases a7 : k = 7
    · simp [a7, Nd.kids]
    by_cases a8 : k = 8
    · simp [a8, Nd.kids]
    simp [a1, a2, a3, a4, a5, a6, a7, a8, Nd.kids]

/-- The cells of a document's node, named. -/
theorem RT.open' {S : Nat → Prop} {w : World} {t : T} {cs : List Value} (h : RT S w t cs) : ∃ k s ps mn mx nu a c, t = .mk k s ps mn mx nu ∧
    cs = [.int .i64 k, .int .u64 s.a, .int .u64 s.b, .int .u64 s.c, .int .u64 s.d, .slice a ps.length c, .int .i64 mn, .int .i64 mx, .int .i64 nu] ∧ ST S w ps (.slice a ps.length c) := by
  cases t with
  | mk k s ps mn mx nu =>
    rw [RT_mk] at h
    obtain ⟨v, rfl, h⟩ := h
    rcases h with ⟨⟨a, c, rfl⟩, rfl⟩ | ⟨g, off, cap, rfl, hc, h⟩
    · exact ⟨k, s, [], mn, mx, nu, a, c, rfl, rfl, .inl ⟨⟨a, c, rfl⟩, rfl⟩⟩
    · exact ⟨k, s, ps, mn, mx, nu, _, cap, rfl, rfl, .inr ⟨g, off, cap, rfl, hc, h⟩⟩

/-- The k-th of the document's nodes that lie one behind the other. -/
theorem RTs.get {S : Nat → Prop} {w : World} {g : Nat} : ∀ {l : List T} {off : Nat}, RTs S w l g off → ∀ {k : Nat} (hk : k < l.length), ∃ cs, RT S w l[k] cs ∧ At w g (off + k * 9) cs ∧ g < w.heap.size
  | [], _, _, k, hk => by simp at hk
  | t :: ts, off, h, k, hk => by
    rw [RTs] at h; obtain ⟨_, hg, ⟨cs, h1, h2⟩, h⟩ := h
    cases k with
    | zero => exact ⟨cs, h1, by simpa using h2, hg⟩
    | succ k =>
      obtain ⟨cs', h3, h4, h5⟩ := RTs.get h (k := k) (by simpa using hk)
      exact ⟨cs', by simpa using h3, by rwa [show off + (k + 1) * 9 = off + 9 + k * 9 by omega], h5⟩
theorem ST.get {S : Nat → Prop} {w : World} {l : List T} {u : Value} (h : ST S w l u) {k : Nat} (hk : k < l.length) : ∃ g off cap cs, u = .slice (some ⟨g, off, none⟩) l.length cap ∧ RT S w l[k] cs ∧ At w g (off + k * 9) cs ∧ g < w.heap.size := by
  rcases h with ⟨_, rfl⟩ | ⟨g, off, cap, rfl, _, h⟩
  · simp at hk
  · obtain ⟨cs, h1, h2, h3⟩ := h.get hk
    exact ⟨g, off, cap, cs, rfl, h1, h2, h3⟩
theorem ST.shape {S : Nat → Prop} {w : World} {l : List T} {u : Value} (h : ST S w l u) : ∃ a c, u = .slice a l.length c := by
  rcases h with ⟨⟨a, c, rfl⟩, rfl⟩ | ⟨g, off, cap, rfl, _⟩
  · exact ⟨_, _, rfl⟩
  · exact ⟨_, _, rfl⟩

end Go.Proofs.Ytcmjgaadffffaaa
