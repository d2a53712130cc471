/-
  Walks of package tree: Right; Join, Choose. A call's own slice of nodes, and append to it.
-/
import Derived.Test.YtcmjgaadffffaaaTreeE
import Derived.Test.YtcmjgaadffffaaaOctetA
import Derived.Laws.OwnMore
namespace Go.Proofs.Ytcmjgaadffffaaa
open Go.RowKit

/-- Is a tree right? -/
def Nd.right (n : Nd) : Bool := (n.look 0 []).isSome

theorem right_of (n : Nd) (v : Value) (w : World) (hn : n.size ≤ 3000000) (h : RN nob w n v) :
    Calls Try.prog 16 #[v] w fun e w' => e = .returned (.bool n.right) ∧ Fr nob w w' := by
  have H := Lib.hid h; clear h
  go_enter Try.func16, Try.ntmps16
  go_wp2_with fail
  have f1 : Fr nob w (w.alloc (.cells #[.int .i64 0, .slice none 0 0] 83)) := (Fr.refl _ _).alloc _
  have L : Lk w.heap.size 0 [] none (w.alloc (.cells #[.int .i64 0, .slice none 0 0] 83)) :=
    ⟨.slice none 0 0, heap_alloc_new _ _, World.ownsRow_nil _ _ _ _, rfl, by simp⟩
  refine (right_any n.size n v _ w.heap.size 0 [] none (Nat.le_refl _) (by omega) (by omega) (by simpa using hn) L (RN.keep (S' := LS w.heap.size none) f1 (fun _ _ x => x) (fun k hk x => by
    rcases x with rfl | x
    · omega
    · cases x) _ _ H.out)).mono ?_
  rintro e w1 ⟨rfl, f2, _⟩
  have F1 := Lib.hid f1; have F2 := Lib.hid f2; clear f1 f2 L
  go_wp2
  go_ret
  refine ⟨rfl, F1.out.trans F2.out (fun i hi x => ?_)⟩
  rcases x with rfl | x
  · omega
  · cases x

/-- The block of a call's own slice. -/
def LG (g : Option Nat) : Nat → Prop := fun k => g = some k

theorem LG.late {g g' : Option Nat} {w : World} (h : ∀ k, g' = some k → g = some k ∨ w.heap.size ≤ k) : ∀ k, k < w.heap.size → LG g' k → LG g k := by
  intro k hk hl
  rcases h k hl with h | h
  · exact h
  · omega

/-- A call's own slice of nodes. -/
def OwnN (w : World) (l : List Nd) (v : Value) (g : Option Nat) : Prop := ∃ vs, w.ownsRow 0 37 1 v l.length vs ∧ VN (LG g) w l vs ∧ v.ownBlock = g

theorem OwnN.nil (w : World) : OwnN w [] (.slice none 0 0) none := ⟨[], World.ownsRow_nil _ _ _ _, rfl, rfl⟩
theorem OwnN.on {w w' : World} {l : List Nd} {v : Value} {g : Option Nat} (h : OwnN w l v g) (f : Fr nob w w') : OwnN w' l v g := by
  obtain ⟨vs, h1, h2, h3⟩ := h
  exact ⟨vs, ownsRow_fr h1 f (fun _ _ x => x), h2.keep f (fun _ _ x => x.elim) (fun _ _ x => x), h3⟩
theorem OwnN.shape {w : World} {l : List Nd} {v : Value} {g : Option Nat} (h : OwnN w l v g) : ∃ a c, v = .slice a l.length c := by
  obtain ⟨vs, h1, h2, h3⟩ := h; exact ownsRow_slice h1
theorem OwnN.sn {w : World} {l : List Nd} {v : Value} {g : Option Nat} (h : OwnN w l v g) : SN nob w l v := by
  obtain ⟨vs, h1, h2, h3⟩ := h
  exact SN.of_own h1 (h2.keep (S' := nob) (Fr.refl nob w) (fun _ _ x => x.elim) (fun _ _ x => x.elim)) (fun _ _ x => x)

theorem info_node : (Try.prog.info? 37).map (fun i => (i.zero, i.size, i.bytes)) = some (some .nilIface, 1, 16) := by kernel_rfl

/-- Values of nodes are one cell each. -/
theorem VN.cell1 {S : Nat → Prop} {w : World} : ∀ {l : List Nd} {vs : List Value}, VN S w l vs → ∀ u ∈ vs, u.oneCell' = true
  | [], _, h, u, hu => by rw [VN] at h; subst h; cases hu
  | t :: ts, _, h, u, hu => by
    rw [VN] at h; obtain ⟨v, r, rfl, h1, h⟩ := h
    rcases List.mem_cons.1 hu with rfl | hu
    · rcases h1.shape with rfl | ⟨i, x, rfl⟩ <;> rfl
    · exact VN.cell1 h u hu

theorem wpList_append_sn {w : World} {ops : Array Oper} {rest : List Oper} {o : Oper} {a : Act} {Q : Exit → Act → World → Prop} (hgd : o.guard = none) (s x : Operand)
    (ho : o.op = .call { callee := .builtin .append, args := #[s, x], argTypes := #[61, 61] })
    (l m : List Nd) (v ux : Value) (g : Option Nat) (hs : a.eval s = v) (hown : OwnN w l v g) (hx : a.eval x = ux) (hm : SN (LG g) w m ux) (hb : l.length + m.length ≤ 3000000)
    (h : ∀ v' w' g', OwnN w' (l ++ m) v' g' → Fr (LG g) w w' → (∀ k, g' = some k → g = some k ∨ w.heap.size ≤ k) → wpList Try.prog ops Q rest (a.put o.dst v') w') : wpList Try.prog ops Q (o :: rest) a w := by
  obtain ⟨i0, hi, hz0, hz1, hz2⟩ := info_parts info_node
  obtain ⟨vs, h1, h2, h3⟩ := hown
  rcases hm with ⟨rfl, rfl⟩ | ⟨q, off, cap, rfl, _, hm⟩
  · refine wpList_plain hgd fun K hK => ?_
    have hr := run_append_owned_none (P := Try.prog) (w := w) 0 61 o.type 37 i0 1 Try.underlying61 hi v l.length vs h1
    unfold Oper.wp execOp
    simp only [ho, resolve, invoke, builtin, Sem.run_bind, Sem.run_pure, Result.andThen_ok, List.map_toArray, List.map_cons, List.map_nil, hs, hx, hr]
    exact hK _ _ (h v w g (by rw [List.append_nil]; exact ⟨vs, h1, h2, h3⟩) (Fr.refl _ _) (fun k hk => .inl hk))
  · obtain ⟨us, hu, ha⟩ := RNs.vals hm
    have hul := hu.length
    refine wpList_append_g hgd s x _ ho 37 i0 .nilIface 1 16 Try.underlying61 hi hz0 hz1 hz2 rfl (by decide) v l.length vs hs h1 ⟨q, off, none⟩ m.length cap us hx (by omega) (fun j u hj => by have := ha j u hj; by_cases hj0 : j = 0 <;> simpa [Addr.add, hj0] using this) hu.cell1 (by unfold maxLen; omega) (by omega) ?_
    intro v' w' hown' hap
    have hold : ∀ k, v'.ownBlock = some k → g = some k ∨ w.heap.size ≤ k := fun k hk => by
      rcases hap.old k hk with h | h
      · exact .inl (by rw [← h3, h])
      · exact .inr h
    have hfr : Fr (LG g) w w' := hap.fr.mono fun k _ hk => by unfold LG; rw [← h3, hk]
    refine h v' w' v'.ownBlock ⟨vs ++ us, by simpa using hown', (VN.append h2 hu).keep hfr (fun _ _ x => x) (LG.late hold), rfl⟩ hfr hold

/-- What stands for the parts: none, one, or all. -/
def onlyOf (l : List Nd) (n : Nd) : Nd := match l with
  | [] => .empty
  | [x] => x
  | _ => n

end Go.Proofs.Ytcmjgaadffffaaa
