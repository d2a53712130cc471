/-
  Merged texts of this claim: TreeG, TreeH, TreeI, RefA, RefB, RefC.
-/
import Derived.Test.YtlchaocpejfikaaGreatDoorM20

/-
  Walks of package tree: Join, Choose.
-/
namespace Go.Proofs.YtlchaocpejfikaaGreatDoor
open Go.RowKit

/-- What a part brings to a Cat; to an Alt. -/
def Nd.part : Nd → List Nd
  | .nil | .empty => []
  | .cat l => l
  | n => [n]
def Nd.arm : Nd → List Nd
  | .alt l => l
  | n => [n.told]
def parts : List Nd → List Nd
  | [] => []
  | t :: ts => t.part ++ parts ts
def arms : List Nd → List Nd
  | [] => []
  | t :: ts => t.arm ++ arms ts
def joined (l : List Nd) : Nd := onlyOf (parts l) (.cat (parts l))
def chosen (l : List Nd) : Nd := onlyOf (arms l) (.alt (arms l))

theorem Nd.part_sizes (n : Nd) : Nd.sizes n.part ≤ n.size := by
  cases n <;> simp only [Nd.part, Nd.sizes, Nd.size] <;> omega
theorem Nd.arm_sizes (n : Nd) : Nd.sizes n.arm ≤ n.size := by
  cases n <;> simp only [Nd.arm, Nd.told, Nd.sizes, Nd.size] <;> omega
theorem parts_sizes (l : List Nd) : Nd.sizes (parts l) ≤ Nd.sizes l := by
  induction l with
  | nil => simp [parts]
  | cons t ts ih => have := t.part_sizes; simp only [parts, Nd.sizes, Nd.sizes_append]; omega
theorem arms_sizes (l : List Nd) : Nd.sizes (arms l) ≤ Nd.sizes l := by
  induction l with
  | nil => simp [arms]
  | cons t ts ih => have := t.arm_sizes; simp only [arms, Nd.sizes, Nd.sizes_append]; omega
theorem parts_append (l m : List Nd) : parts (l ++ m) = parts l ++ parts m := by
  induction l with
  | nil => rfl
  | cons t ts ih => simp only [List.cons_append, parts, ih, List.append_assoc]
theorem arms_append (l m : List Nd) : arms (l ++ m) = arms l ++ arms m := by
  induction l with
  | nil => rfl
  | cons t ts ih => simp only [List.cons_append, arms, ih, List.append_assoc]
theorem parts_take {l : List Nd} {k : Nat} (h : k < l.length) : parts (l.take (k + 1)) = parts (l.take k) ++ l[k].part := by
  rw [List.take_succ_eq_append_getElem h, parts_append]; simp [parts]
theorem arms_take {l : List Nd} {k : Nat} (h : k < l.length) : arms (l.take (k + 1)) = arms (l.take k) ++ l[k].arm := by
  rw [List.take_succ_eq_append_getElem h, arms_append]; simp [arms]

/-- The slice that Join, Choose build, behind some rounds: it lies behind the world w. -/
def Built (w : World) (l : List Nd) (v : Value) (wr : World) : Prop := ∃ g, OwnN wr l v g ∧ Fr nob w wr ∧ ∀ k, g = some k → w.heap.size ≤ k

theorem Built.nil (w : World) : Built w [] (.slice none 0 0) w := ⟨none, OwnN.nil w, Fr.refl _ _, fun _ h => by cases h⟩
theorem Built.on {w wr w' : World} {l : List Nd} {v : Value} (h : Built w l v wr) (f : Fr nob wr w') : Built w l v w' := by
  obtain ⟨g, h1, h2, h3⟩ := h; exact ⟨g, h1.on f, h2.trans' f, h3⟩
theorem Built.shape {w wr : World} {l : List Nd} {v : Value} (h : Built w l v wr) : ∃ a c, v = .slice a l.length c := by
  obtain ⟨g, h1, h2, h3⟩ := h; exact h1.shape
theorem Built.fr {w wr : World} {l : List Nd} {v : Value} (h : Built w l v wr) : Fr nob w wr := by
  obtain ⟨g, h1, h2, h3⟩ := h; exact h2
theorem Built.sn {w wr : World} {l : List Nd} {v : Value} (h : Built w l v wr) : SN nob wr l v := by
  obtain ⟨g, h1, h2, h3⟩ := h; exact h1.sn

theorem wpList_append_bt {W w : World} {ops : Array Oper} {rest : List Oper} {o : Oper} {a : Act} {Q : Exit → Act → World → Prop} (hgd : o.guard = none) (s x : Operand)
    (ho : o.op = .call { callee := .builtin .append, args := #[s, x], argTypes := #[68, 68] })
    (l m : List Nd) (v ux : Value) (hs : a.eval s = v) (hown : Built W l v w) (hx : a.eval x = ux)
    (hm : ∀ g, (∀ k, g = some k → W.heap.size ≤ k) → OwnN w l v g → SN (LG g) w m ux) (hb : l.length + m.length ≤ 3000000)
    (h : ∀ v' w', Built W (l ++ m) v' w' → wpList Tryz.prog ops Q rest (a.put o.dst v') w') : wpList Tryz.prog ops Q (o :: rest) a w := by
  obtain ⟨g, h1, h2, h3⟩ := hown
  refine wpList_append_sn hgd s x ho l m v ux g hs h1 hx (hm g h3 h1) hb fun v' w' g' q1 q2 q3 => h v' w' ⟨g', q1, ?_, ?_⟩
  · exact h2.trans q2 (fun i hi hg => by have := h3 i hg; omega)
  · intro k hk
    have := h2.size
    rcases q3 k hk with h | h
    · exact h3 k h
    · omega

/-- What lay in W, seen from a world behind, where a slice of the call's own lies. -/
theorem SN.behind {W w : World} {m : List Nd} {u : Value} {g : Option Nat} (h : SN nob W m u) (f : Fr nob W w) (hg : ∀ k, g = some k → W.heap.size ≤ k) : SN (LG g) w m u :=
  h.keep f (fun _ _ x => x) (fun k hk x => by have := hg k x; omega)
theorem RN.behind {W w : World} {m : Nd} {u : Value} {g : Option Nat} (h : RN nob W m u) (f : Fr nob W w) (hg : ∀ k, g = some k → W.heap.size ≤ k) : RN (LG g) w m u :=
  RN.keep f (fun _ _ x => x) (fun k hk x => by have := hg k x; omega) _ _ h
theorem OwnN.lt {w : World} {l : List Nd} {v : Value} {g : Option Nat} (h : OwnN w l v g) : ∀ k, LG g k → k < w.heap.size := by
  intro k hk
  obtain ⟨vs, hown, _, hg⟩ := h
  rcases hown.2 with ⟨rfl, _⟩ | ⟨r, cap, cur, rfl, _, hr, _⟩
  · rw [← hg] at hk; cases hk
  · rw [← hg] at hk; injection hk with hk; subst hk; exact lt_heap hr

theorem OwnN.blk {w : World} {l : List Nd} {v : Value} {g : Option Nat} (h : OwnN w l v g) : v.ownBlock = g := by
  obtain ⟨_, _, _, h⟩ := h; exact h
theorem Built.lt {w wr : World} {l : List Nd} {v : Value} (h : Built w l v wr) : ∀ k, v.ownBlock = some k → k < wr.heap.size := by
  obtain ⟨g, h1, h2, h3⟩ := h
  intro k hk
  rw [h1.blk] at hk
  exact h1.lt k hk

set_option maxRecDepth 100000 in
set_option maxHeartbeats 1000000 in
theorem join_any (l : List Nd) (u : Value) (w : World) (hl : Nd.sizes l ≤ 3000000) (h : SN nob w l u) :
    Calls Tryz.prog 18 #[u] w fun e w' => ∃ r, e = .returned r ∧ RN nob w' (joined l) r ∧ Fr nob w w' := by
  obtain ⟨a, c, rfl⟩ := h.shape
  have H := Lib.hid h; clear h
  have hll := Nd.length_le l
  have hpl := Lib.hid (Nat.le_trans (Nd.length_le (parts l)) (parts_sizes l))
  go_enter Tryz.func18, Tryz.ntmps18
  go_wp2_with fail
  go_loopw [3, 11] (fun s i wr => ∃ k : Nat, i = .int .i64 k ∧ k ≤ l.length ∧ Built w (parts (l.take k)) s wr) (fun _ i _ => l.length - (intOf i).toNat)
  case atStart => exact ⟨0, rfl, Nat.zero_le _, Built.nil w⟩
  case round =>
    obtain ⟨k, rfl, hk, hB⟩ := hrel
    obtain ⟨av, cv, rfl⟩ := hB.shape
    have HB := Lib.hid hB; clear hB
    by_cases hlt : k < l.length
    · obtain ⟨q, off, cap, x, he, hx, hc⟩ := (H.out.on HB.out.fr).get hlt
      obtain ⟨_, _, _, x', he', hx', hc'⟩ := H.out.get hlt
      obtain rfl : x = x' := by
        rw [he] at he'; injection he' with e1 _ _; injection e1 with e1; injection e1 with e1 e2; subst e1; subst e2
        have := HB.out.fr.cell hc' (fun x => x); rw [hc] at this; injection this
      clear he' hc'
      injection he with e1 e2 e3
      subst e1; subst e3
      have HX := Lib.hid hx; have HX0 := Lib.hid hx'; clear hx hx' e2
      have hpt := Lib.hid (parts_take hlt)
      have hsz := Lib.hid (Nat.le_trans (Nd.length_le (parts (l.take (k + 1)))) (Nat.le_trans (parts_sizes _) (Nd.sizes_take_le l (k + 1))))
      go_wp2_with fail
      refine (told_any2 nob l[k] x _ HX.out).mono ?_
      rintro e w2 ⟨y, rfl, hy, hxy, rfl⟩
      obtain ⟨n, hn⟩ : ∃ n, l[k] = n := ⟨_, rfl⟩
      rw [hn] at hy HX HX0 hpt
      clear hn
      have hcase : (n.part = [] ∧ y = .iface 84 (.agg #[])) ∨ (∃ m a c, n.part = m ∧ y = .iface 73 (.agg #[.slice a m.length c]) ∧ SN nob w m (.slice a m.length c)) ∨ (n.part = [n] ∧ ∃ i z, y = .iface i z ∧ i ≠ 84 ∧ i ≠ 73 ∧ x = y) := by
        have hyk := hy.kind
        have hxk := HX0.out.kind
        cases n with
        | nil => exact .inl ⟨rfl, hyk⟩
        | empty => exact .inl ⟨rfl, hyk⟩
        | cat m =>
          obtain ⟨a', c', h2, h3⟩ := hxk
          subst h2
          rcases hxy with h | rfl
          · cases h
          · exact .inr (.inl ⟨m, a', c', rfl, rfl, h3⟩)
        | one s => subst hxk; rcases hxy with h | rfl; cases h; exact .inr (.inr ⟨rfl, _, _, rfl, by decide, by decide, rfl⟩)
        | alt m => obtain ⟨a, c, h1, _⟩ := hxk; subst h1; rcases hxy with h | rfl; cases h; exact .inr (.inr ⟨rfl, _, _, rfl, by decide, by decide, rfl⟩)
        | rep z mn mx => obtain ⟨a, h1, _⟩ := hxk; subst h1; rcases hxy with h | rfl; cases h; exact .inr (.inr ⟨rfl, _, _, rfl, by decide, by decide, rfl⟩)
        | group q z => obtain ⟨a, h1, _⟩ := hxk; subst h1; rcases hxy with h | rfl; cases h; exact .inr (.inr ⟨rfl, _, _, rfl, by decide, by decide, rfl⟩)
        | back q => subst hxk; rcases hxy with h | rfl; cases h; exact .inr (.inr ⟨rfl, _, _, rfl, by decide, by decide, rfl⟩)
        | start => subst hxk; rcases hxy with h | rfl; cases h; exact .inr (.inr ⟨rfl, _, _, rfl, by decide, by decide, rfl⟩)
        | fin => subst hxk; rcases hxy with h | rfl; cases h; exact .inr (.inr ⟨rfl, _, _, rfl, by decide, by decide, rfl⟩)
      clear hy hxy
      rcases hcase with ⟨hp, rfl⟩ | ⟨m, am, cm, hp, rfl, hm⟩ | ⟨hp, iy, z, rfl, n1, n2, rfl⟩
      · rw [hp, List.append_nil] at hpt
        clear hp
        go_wp2
        go_roundw
        case rel => exact ⟨k + 1, by go_num, by omega, by rw [hpt.out]; exact HB.out.on ((Fr.refl _ _).alloc _)⟩
        case measure => simp [intOf]; omega
      · rw [hp] at hpt
        have HM := Lib.hid hm; clear hm hp
        have hlen : (parts (l.take k)).length + m.length ≤ 3000000 := by have h := hsz.out; rw [hpt.out, List.length_append] at h; omega
        go_wp2_with (at_builtin; refine wpList_append_bt rfl (.tmp 27) (.tmp 29) rfl (parts (l.take k)) m _ _ (by rfl) (HB.out.on ((Fr.refl _ _).alloc _)) (by rfl) (fun g hg ho => HM.out.behind (HB.out.fr.trans' ((Fr.refl _ _).alloc _)) hg) hlen ?_; intro v' w3 hb3; obtain ⟨av', cv', he3⟩ := hb3.shape; simp only [List.length_append] at he3; subst he3; have HB3 := Lib.hid hb3; clear hb3)
        go_roundw
        case rel => exact ⟨k + 1, by go_num, by omega, by rw [hpt.out]; exact HB3.out⟩
        case measure => simp [intOf]; omega
      · rw [hp] at hpt
        clear hp
        have hlen : (parts (l.take k)).length + [n].length ≤ 3000000 := by have h := hsz.out; rw [hpt.out, List.length_append] at h; omega
        go_wp2_with (at_builtin; refine wpList_append_bt rfl (.tmp 17) (.tmp 19) rfl (parts (l.take k)) [n] _ _ (by rfl) (HB.out.on ((Fr.refl _ _).alloc _)) (by rfl) (fun g hg ho => SN.one' (HX0.out.behind (HB.out.fr) hg) (fun k hk => HB.out.lt k (by rw [ho.blk]; exact hk)) _ rfl) hlen ?_; intro v' w3 hb3; obtain ⟨av', cv', he3⟩ := hb3.shape; simp only [List.length_append, List.length_singleton] at he3; subst he3; have HB3 := Lib.hid hb3; clear hb3)
        go_roundw
        case rel => exact ⟨k + 1, by go_num, by omega, by rw [hpt.out]; exact HB3.out⟩
        case measure => simp [intOf]; omega
    · obtain rfl : k = l.length := by omega
      have hT := Lib.hid (List.take_of_length_le (l := l) (Nat.le_refl _))
      have hB := HB.out
      rw [hT.out] at hB
      go_wp2_with fail
      refine (only_any (parts l) (.cat (parts l)) _ _ _ (by have := hpl.out; omega) hB.sn (RN_cat.2 ⟨_, rfl, hB.sn⟩)).mono ?_
      rintro e w2 ⟨r, rfl, hr, rfl⟩
      have HR := Lib.hid hr; clear hr
      go_wp2
      go_ret
      exact ⟨_, rfl, HR.out, HB.out.fr⟩

set_option maxRecDepth 100000 in
set_option maxHeartbeats 1000000 in
theorem choose_any (l : List Nd) (u : Value) (w : World) (hl : Nd.sizes l ≤ 3000000) (h : SN nob w l u) :
    Calls Tryz.prog 17 #[u] w fun e w' => ∃ r, e = .returned r ∧ RN nob w' (chosen l) r ∧ Fr nob w w' := by
  obtain ⟨a, c, rfl⟩ := h.shape
  have H := Lib.hid h; clear h
  have hll := Nd.length_le l
  have hpl := Lib.hid (Nat.le_trans (Nd.length_le (arms l)) (arms_sizes l))
  go_enter Tryz.func17, Tryz.ntmps17
  go_wp2_with fail
  go_loopw [3, 10] (fun s i wr => ∃ k : Nat, i = .int .i64 k ∧ k ≤ l.length ∧ Built w (arms (l.take k)) s wr) (fun _ i _ => l.length - (intOf i).toNat)
  case atStart => exact ⟨0, rfl, Nat.zero_le _, Built.nil w⟩
  case round =>
    obtain ⟨k, rfl, hk, hB⟩ := hrel
    obtain ⟨av, cv, rfl⟩ := hB.shape
    have HB := Lib.hid hB; clear hB
    by_cases hlt : k < l.length
    · obtain ⟨q, off, cap, x, he, hx, hc⟩ := (H.out.on HB.out.fr).get hlt
      obtain ⟨_, _, _, x', he', hx', hc'⟩ := H.out.get hlt
      obtain rfl : x = x' := by
        rw [he] at he'; injection he' with e1 _ _; injection e1 with e1; injection e1 with e1 e2; subst e1; subst e2
        have := HB.out.fr.cell hc' (fun x => x); rw [hc] at this; injection this
      clear he' hc'
      injection he with e1 e2 e3
      subst e1; subst e3
      have HX := Lib.hid hx; have HX0 := Lib.hid hx'; clear hx hx' e2
      have hpt := Lib.hid (arms_take hlt)
      have hsz := Lib.hid (Nat.le_trans (Nd.length_le (arms (l.take (k + 1)))) (Nat.le_trans (arms_sizes _) (Nd.sizes_take_le l (k + 1))))
      obtain ⟨n, hn⟩ : ∃ n, l[k] = n := ⟨_, rfl⟩
      rw [hn] at HX HX0 hpt
      clear hn
      have hcase : (∃ m a c, n.arm = m ∧ x = .iface 74 (.agg #[.slice a m.length c]) ∧ SN nob w m (.slice a m.length c)) ∨ (n.arm = [n.told] ∧ (x = .nilIface ∨ ∃ i z, x = .iface i z ∧ i ≠ 74)) := by
        have hxk := HX0.out.kind
        cases n with
        | alt m =>
          obtain ⟨a', c', h2, h3⟩ := hxk
          exact .inl ⟨m, a', c', rfl, h2, h3⟩
        | nil => exact .inr ⟨rfl, .inl hxk⟩
        | cat m => obtain ⟨a, c, h1, _⟩ := hxk; exact .inr ⟨rfl, .inr ⟨_, _, h1, by decide⟩⟩
        | rep z mn mx => obtain ⟨a, h1, _⟩ := hxk; exact .inr ⟨rfl, .inr ⟨_, _, h1, by decide⟩⟩
        | group q z => obtain ⟨a, h1, _⟩ := hxk; exact .inr ⟨rfl, .inr ⟨_, _, h1, by decide⟩⟩
        | _ => exact .inr ⟨rfl, .inr ⟨_, _, hxk, by decide⟩⟩
      rcases hcase with ⟨m, am, cm, hp, rfl, hm⟩ | ⟨hp, hx⟩
      · rw [hp] at hpt
        have HM := Lib.hid hm; clear hm hp
        have hlen : (arms (l.take k)).length + m.length ≤ 3000000 := by have h := hsz.out; rw [hpt.out, List.length_append] at h; omega
        go_wp2_with (at_builtin; refine wpList_append_bt rfl (.tmp 20) (.tmp 22) rfl (arms (l.take k)) m _ _ (by rfl) (HB.out.on ((Fr.refl _ _).alloc _)) (by rfl) (fun g hg ho => HM.out.behind (HB.out.fr.trans' ((Fr.refl _ _).alloc _)) hg) hlen ?_; intro v' w3 hb3; obtain ⟨av', cv', he3⟩ := hb3.shape; simp only [List.length_append] at he3; subst he3; have HB3 := Lib.hid hb3; clear hb3)
        go_roundw
        case rel => exact ⟨k + 1, by go_num, by omega, by rw [hpt.out]; exact HB3.out⟩
        case measure => simp [intOf]; omega
      · rw [hp] at hpt
        clear hp
        have hlen : (arms (l.take k)).length + [n.told].length ≤ 3000000 := by have h := hsz.out; rw [hpt.out, List.length_append] at h; omega
        obtain ⟨g0, o0, f0, l0⟩ := HB.out
        have HXG := Lib.hid (HX0.out.behind f0 l0)
        have hb0 := o0.blk
        have HL0 := Lib.hid l0; have F0 := Lib.hid f0; have O0 := Lib.hid o0; clear l0 f0 o0
        rcases hx with rfl | ⟨ix, zx, rfl, hne⟩
        all_goals
          go_wp2_with fail
          refine (told_any (LG g0) n _ _ (HXG.out.on ((Fr.refl _ _).alloc _))).mono ?_
          rintro e w2 ⟨y, rfl, hy, rfl⟩
          have HY := Lib.hid hy; have hysh := hy.shape; clear hy
          rcases hysh with rfl | ⟨iy, zy, rfl⟩
          all_goals
            go_wp2_with (at_builtin; refine wpList_append_bt rfl (.tmp 24) (.tmp 27) rfl (arms (l.take k)) [n.told] _ _ (by rfl) (HB.out.on (((Fr.refl _ _).alloc _).alloc _)) (by rfl) (fun g hg ho => by have e := hb0.symm.trans ho.blk; subst e; exact SN.one' HY.out (fun k hk => by have := O0.out.lt k hk; simp; omega) _ (by simp)) hlen ?_; intro v' w3 hb3; obtain ⟨av', cv', he3⟩ := hb3.shape; simp only [List.length_append, List.length_singleton] at he3; subst he3; have HB3 := Lib.hid hb3; clear hb3)
            go_roundw
            case rel => exact ⟨k + 1, by go_num, by omega, by rw [hpt.out]; exact HB3.out⟩
            case measure => simp [intOf]; omega
    · obtain rfl : k = l.length := by omega
      have hT := Lib.hid (List.take_of_length_le (l := l) (Nat.le_refl _))
      have hB := HB.out
      rw [hT.out] at hB
      go_wp2_with fail
      refine (only_any (arms l) (.alt (arms l)) _ _ _ (by have := hpl.out; omega) hB.sn (RN_alt.2 ⟨_, rfl, hB.sn⟩)).mono ?_
      rintro e w2 ⟨r, rfl, hr, rfl⟩
      have HR := Lib.hid hr; clear hr
      go_wp2
      go_ret
      exact ⟨_, rfl, HR.out, HB.out.fr⟩

end Go.Proofs.YtlchaocpejfikaaGreatDoor

/-
  Walk of the statements' fixed fact: awake is true.
-/
namespace Go.Proofs.YtlchaocpejfikaaGreatDoor
open Go.RowKit

theorem At.new {b : Nat} (w : World) (cs : Array Value) (T : TypeId) (hb : b = w.heap.size) : At (w.alloc (.cells cs T)) b 0 cs.toList := by
  subst hb
  intro j v hj
  exact cell_at (heap_alloc_new w _) (by simpa using hj)

end Go.Proofs.YtlchaocpejfikaaGreatDoor

/-
  Package tree: a node as it is told (norm); when two are the same; depth, groups, backs. No walk.
-/
namespace Go.Proofs.YtlchaocpejfikaaGreatDoor
open Go.RowKit

mutual
/-- A node, its parts that are not told as Empty. -/
def Nd.norm : Nd → Nd
  | .nil => .empty
  | .empty => .empty
  | .one s => .one s
  | .cat l => .cat (Nd.norms l)
  | .alt l => .alt (Nd.norms l)
  | .rep x a b => .rep x.norm a b
  | .group n x => .group n x.norm
  | .back n => .back n
  | .start => .start
  | .fin => .fin
def Nd.norms : List Nd → List Nd
  | [] => []
  | t :: ts => t.norm :: Nd.norms ts
end
theorem Nd.norms_eq (l : List Nd) : Nd.norms l = l.map Nd.norm := by
  induction l with
  | nil => rfl
  | cons t ts ih => simp only [Nd.norms, List.map_cons, ih]

/-- Are two nodes the same, their parts not looked at? -/
def Nd.head : Nd → Nd → Bool
  | .one s, .one t => decide (s = t)
  | .cat _, .cat _ => true
  | .alt _, .alt _ => true
  | .rep _ a b, .rep _ c d => decide (a = c) && decide (b = d)
  | .group n _, .group m _ => decide (n = m)
  | .back n, .back m => decide (n = m)
  | .start, .start => true
  | .fin, .fin => true
  | .nil, .nil => true
  | .nil, .empty => true
  | .empty, .nil => true
  | .empty, .empty => true
  | _, _ => false

theorem Nd.same_iff (a b : Nd) : a.norm = b.norm ↔ a.head b = true ∧ Nd.norms a.kids = Nd.norms b.kids := by
  cases a <;> cases b <;> simp [Nd.norm, Nd.head, Nd.kids, Nd.norms]
  · constructor
    · rintro ⟨a, b, c⟩; exact ⟨⟨b, c⟩, a⟩
    · rintro ⟨⟨b, c⟩, a⟩; exact ⟨a, b, c⟩

def Nd.isGroup : Nd → Bool
  | .group _ _ => true
  | _ => false
def Nd.isBack : Nd → Bool
  | .back _ => true
  | _ => false
mutual
/-- How many groups are in one another. -/
def Nd.deep : Nd → Nat
  | .cat l => Nd.deeps l
  | .alt l => Nd.deeps l
  | .rep x _ _ => x.deep
  | .group _ x => x.deep + 1
  | .nil | .empty | .one _ | .back _ | .start | .fin => 0
def Nd.deeps : List Nd → Nat
  | [] => 0
  | t :: ts => max t.deep (Nd.deeps ts)
end
mutual
/-- How many groups. -/
def Nd.groups : Nd → Nat
  | .cat l => Nd.groupss l
  | .alt l => Nd.groupss l
  | .rep x _ _ => x.groups
  | .group _ x => x.groups + 1
  | .nil | .empty | .one _ | .back _ | .start | .fin => 0
def Nd.groupss : List Nd → Nat
  | [] => 0
  | t :: ts => t.groups + Nd.groupss ts
end
mutual
/-- Has it a Back? -/
def Nd.backs : Nd → Bool
  | .cat l => Nd.backss l
  | .alt l => Nd.backss l
  | .rep x _ _ => x.backs
  | .group _ x => x.backs
  | .back _ => true
  | .nil | .empty | .one _ | .start | .fin => false
def Nd.backss : List Nd → Bool
  | [] => false
  | t :: ts => t.backs || Nd.backss ts
end
theorem Nd.backss_eq (l : List Nd) : Nd.backss l = l.any Nd.backs := by
  induction l with
  | nil => rfl
  | cons t ts ih => simp only [Nd.backss, List.any_cons, ih]
theorem Nd.deep_kids (n : Nd) : n.deep = Nd.deeps n.kids + (if n.isGroup = true then 1 else 0) := by
  cases n <;> simp [Nd.deep, Nd.kids, Nd.deeps, Nd.isGroup]
theorem Nd.groups_kids (n : Nd) : n.groups = Nd.groupss n.kids + (if n.isGroup = true then 1 else 0) := by
  cases n <;> simp [Nd.groups, Nd.kids, Nd.groupss, Nd.isGroup]
theorem Nd.backs_kids (n : Nd) : n.backs = (n.isBack || Nd.backss n.kids) := by
  cases n <;> simp [Nd.backs, Nd.kids, Nd.backss, Nd.isBack]
theorem Nd.deeps_append (l m : List Nd) : Nd.deeps (l ++ m) = max (Nd.deeps l) (Nd.deeps m) := by
  induction l with
  | nil => simp [Nd.deeps]
  | cons t ts ih => simp only [List.cons_append, Nd.deeps, ih]; omega
theorem Nd.groupss_append (l m : List Nd) : Nd.groupss (l ++ m) = Nd.groupss l + Nd.groupss m := by
  induction l with
  | nil => simp [Nd.groupss]
  | cons t ts ih => simp only [List.cons_append, Nd.groupss, ih]; omega
theorem Nd.deeps_take {l : List Nd} {k : Nat} (h : k < l.length) : Nd.deeps (l.take (k + 1)) = max (Nd.deeps (l.take k)) l[k].deep := by
  rw [List.take_succ_eq_append_getElem h, Nd.deeps_append]; simp [Nd.deeps]
theorem Nd.groupss_take {l : List Nd} {k : Nat} (h : k < l.length) : Nd.groupss (l.take (k + 1)) = Nd.groupss (l.take k) + l[k].groups := by
  rw [List.take_succ_eq_append_getElem h, Nd.groupss_append]; simp [Nd.groupss]
mutual
theorem Nd.deep_le : ∀ n : Nd, n.deep ≤ n.size
  | .cat l => by have := Nd.deeps_le l; simp only [Nd.deep, Nd.size]; omega
  | .alt l => by have := Nd.deeps_le l; simp only [Nd.deep, Nd.size]; omega
  | .rep x _ _ => by have := Nd.deep_le x; simp only [Nd.deep, Nd.size]; omega
  | .group _ x => by have := Nd.deep_le x; simp only [Nd.deep, Nd.size]; omega
  | .nil | .empty | .one _ | .back _ | .start | .fin => by simp [Nd.deep]
theorem Nd.deeps_le : ∀ l : List Nd, Nd.deeps l ≤ Nd.sizes l
  | [] => by simp [Nd.deeps]
  | t :: ts => by have := Nd.deep_le t; have := Nd.deeps_le ts; simp only [Nd.deeps, Nd.sizes]; omega
end
mutual
theorem Nd.groups_le : ∀ n : Nd, n.groups ≤ n.size
  | .cat l => by have := Nd.groupss_le l; simp only [Nd.groups, Nd.size]; omega
  | .alt l => by have := Nd.groupss_le l; simp only [Nd.groups, Nd.size]; omega
  | .rep x _ _ => by have := Nd.groups_le x; simp only [Nd.groups, Nd.size]; omega
  | .group _ x => by have := Nd.groups_le x; simp only [Nd.groups, Nd.size]; omega
  | .nil | .empty | .one _ | .back _ | .start | .fin => by simp [Nd.groups]
theorem Nd.groupss_le : ∀ l : List Nd, Nd.groupss l ≤ Nd.sizes l
  | [] => by simp [Nd.groupss]
  | t :: ts => by have := Nd.groups_le t; have := Nd.groupss_le ts; simp only [Nd.groupss, Nd.sizes]; omega
end

end Go.Proofs.YtlchaocpejfikaaGreatDoor

/-
  The document's nodes: Of, Kids; how much there is of a node, its kinds known; as the program's node.
-/
namespace Go.Proofs.YtlchaocpejfikaaGreatDoor
open Go.RowKit

def T.kind : T → Int | .mk k _ _ _ _ _ => k
def T.parts : T → List T | .mk _ _ ps _ _ _ => ps
def T.zero : T := .mk 0 S4.zero [] 0 0 0
def T.of (t : T) : T := match t.parts with
  | [] => T.zero
  | x :: _ => x
def T.kids (t : T) : List T := if t.kind = 2 ∨ t.kind = 3 then t.parts else if t.kind = 4 ∨ t.kind = 5 then [t.of] else []

mutual
/-- How much there is of a node. -/
def T.bulk : T → Nat
  | .mk _ _ ps _ _ _ => 1 + T.bulks ps
def T.bulks : List T → Nat
  | [] => 0
  | t :: ts => t.bulk + T.bulks ts
end
mutual
/-- Are all kinds known? -/
def T.known : T → Bool
  | .mk k _ ps _ _ _ => (!(decide (k < 0) || decide (8 < k))) && T.knowns ps
def T.knowns : List T → Bool
  | [] => true
  | t :: ts => t.known && T.knowns ts
end
mutual
/-- The program's node. -/
def T.nd : T → Nd
  | .mk k s ps mn mx nu => if k = 1 then .one s else if k = 2 then .cat (T.nds ps) else if k = 3 then .alt (T.nds ps) else if k = 4 then .rep (T.nd1 ps) mn mx
    else if k = 5 then .group nu (T.nd1 ps) else if k = 6 then .back nu else if k = 7 then .start else if k = 8 then .fin else .empty
def T.nds : List T → List Nd
  | [] => []
  | t :: ts => t.nd :: T.nds ts
def T.nd1 : List T → Nd
  | [] => .empty
  | t :: _ => t.nd
end

theorem T.bulk_pos (t : T) : 1 ≤ t.bulk := by cases t; simp only [T.bulk]; omega
theorem T.bulk_parts (t : T) : t.bulk = 1 + T.bulks t.parts := by cases t; rfl
theorem T.bulks_append (l m : List T) : T.bulks (l ++ m) = T.bulks l + T.bulks m := by
  induction l with
  | nil => simp [T.bulks]
  | cons t ts ih => simp only [List.cons_append, T.bulks, ih]; omega
theorem T.length_le (l : List T) : l.length ≤ T.bulks l := by
  induction l with
  | nil => simp
  | cons t ts ih => have := t.bulk_pos; simp only [List.length_cons, T.bulks]; omega
theorem T.bulks_mem {l : List T} {t : T} (h : t ∈ l) : t.bulk ≤ T.bulks l := by
  induction l with
  | nil => simp at h
  | cons a l ih =>
    simp only [T.bulks]
    rcases List.mem_cons.1 h with rfl | h
    · omega
    · have := ih h; omega
theorem T.bulks_take {l : List T} {k : Nat} (h : k < l.length) : T.bulks (l.take (k + 1)) = T.bulks (l.take k) + l[k].bulk := by
  rw [List.take_succ_eq_append_getElem h, T.bulks_append]; simp [T.bulks]
theorem T.bulks_take_le (l : List T) (k : Nat) : T.bulks (l.take k) ≤ T.bulks l := by
  have := T.bulks_append (l.take k) (l.drop k)
  rw [List.take_append_drop] at this; omega
theorem T.part_lt {t x : T} (h : x ∈ t.parts) : x.bulk < t.bulk := by
  have := T.bulks_mem h; rw [T.bulk_parts t]; omega
theorem T.of_lt (t : T) : t.of.bulk ≤ t.bulk := by
  cases t with
  | mk k s ps mn mx nu =>
    cases ps with
    | nil => simp [T.of, T.parts, T.zero, T.bulk, T.bulks]
    | cons x r => simp only [T.of, T.parts, T.bulk, T.bulks]; omega
theorem T.nds_eq (l : List T) : T.nds l = l.map T.nd := by
  induction l with
  | nil => rfl
  | cons t ts ih => simp only [T.nds, List.map_cons, ih]
theorem T.kids_nd (t : T) : t.nd.kids = t.kids.map T.nd := by
  cases t with
  | mk k s ps mn mx nu =>
    have h1 : T.nd1 ps = (T.of (.mk k s ps mn mx nu)).nd := by cases ps <;> rfl
    simp only [T.nd, T.kids, T.kind, T.parts, h1, T.nds_eq]
    by_cases a1 : k = 1
    · simp [a1, Nd.kids]
    by_cases a2 : k = 2
    · simp [a2, Nd.kids]
    by_cases a3 : k = 3
    · simp [a3, Nd.kids]
    by_cases a4 : k = 4
    · simp [a4, Nd.kids]
    by_cases a5 : k = 5
    · simp [a5, Nd.kids]
    by_cases a6 : k = 6
    · simp [a6, Nd.kids]
    by_cases a7 : k = 7
    · simp [a7, Nd.kids]
    by_cases a8 : k = 8
    · simp [a8, Nd.kids]
    simp [a1, a2, a3, a4, a5, a6, a7, a8, Nd.kids]

/-- The cells of a document's node, named. -/
theorem RT.open' {S : Nat → Prop} {w : World} {t : T} {cs : List Value} (h : RT S w t cs) : ∃ k s ps mn mx nu a c, t = .mk k s ps mn mx nu ∧
    cs = [.int .i64 k, .int .u64 s.a, .int .u64 s.b, .int .u64 s.c, .int .u64 s.d, .slice a ps.length c, .int .i64 mn, .int .i64 mx, .int .i64 nu] ∧ ST S w ps (.slice a ps.length c) := by
  cases t with
  | mk k s ps mn mx nu =>
    rw [RT_mk] at h
    obtain ⟨v, rfl, h⟩ := h
    rcases h with ⟨⟨a, c, rfl⟩, rfl⟩ | ⟨g, off, cap, rfl, hc, h⟩
    · exact ⟨k, s, [], mn, mx, nu, a, c, rfl, rfl, .inl ⟨⟨a, c, rfl⟩, rfl⟩⟩
    · exact ⟨k, s, ps, mn, mx, nu, _, cap, rfl, rfl, .inr ⟨g, off, cap, rfl, hc, h⟩⟩

/-- The k-th of the document's nodes that lie one behind the other. -/
theorem RTs.get {S : Nat → Prop} {w : World} {g : Nat} : ∀ {l : List T} {off : Nat}, RTs S w l g off → ∀ {k : Nat} (hk : k < l.length), ∃ cs, RT S w l[k] cs ∧ At w g (off + k * 9) cs ∧ g < w.heap.size
  | [], _, _, k, hk => by simp at hk
  | t :: ts, off, h, k, hk => by
    rw [RTs] at h; obtain ⟨_, hg, ⟨cs, h1, h2⟩, h⟩ := h
    cases k with
    | zero => exact ⟨cs, h1, by simpa using h2, hg⟩
    | succ k =>
      obtain ⟨cs', h3, h4, h5⟩ := RTs.get h (k := k) (by simpa using hk)
      exact ⟨cs', by simpa using h3, by rwa [show off + (k + 1) * 9 = off + 9 + k * 9 by omega], h5⟩
theorem ST.get {S : Nat → Prop} {w : World} {l : List T} {u : Value} (h : ST S w l u) {k : Nat} (hk : k < l.length) : ∃ g off cap cs, u = .slice (some ⟨g, off, none⟩) l.length cap ∧ RT S w l[k] cs ∧ At w g (off + k * 9) cs ∧ g < w.heap.size := by
  rcases h with ⟨_, rfl⟩ | ⟨g, off, cap, rfl, _, h⟩
  · simp at hk
  · obtain ⟨cs, h1, h2, h3⟩ := h.get hk
    exact ⟨g, off, cap, cs, rfl, h1, h2, h3⟩
theorem ST.shape {S : Nat → Prop} {w : World} {l : List T} {u : Value} (h : ST S w l u) : ∃ a c, u = .slice a l.length c := by
  rcases h with ⟨⟨a, c, rfl⟩, rfl⟩ | ⟨g, off, cap, rfl, _⟩
  · exact ⟨_, _, rfl⟩
  · exact ⟨_, _, rfl⟩

end Go.Proofs.YtlchaocpejfikaaGreatDoor

/-
  Walks over the document's nodes: size, Known, Few; Of, Kids.
-/
namespace Go.Proofs.YtlchaocpejfikaaGreatDoor
open Go.RowKit

/-- Nine cells of a node, as the walk reads them. -/
theorem At.nine {w : World} {g off : Nat} {a b c d e f h i j : Value} (H : At w g off [a, b, c, d, e, f, h, i, j]) :
    w.cell? ⟨g, off, none⟩ = some a ∧ w.cell? ⟨g, off + 1, none⟩ = some b ∧ w.cell? ⟨g, off + 2, none⟩ = some c ∧ w.cell? ⟨g, off + 3, none⟩ = some d ∧ w.cell? ⟨g, off + 4, none⟩ = some e ∧
    w.cell? ⟨g, off + 5, none⟩ = some f ∧ w.cell? ⟨g, off + 6, none⟩ = some h ∧ w.cell? ⟨g, off + 7, none⟩ = some i ∧ w.cell? ⟨g, off + 8, none⟩ = some j :=
  ⟨H 0 _ rfl, H 1 _ rfl, H 2 _ rfl, H 3 _ rfl, H 4 _ rfl, H 5 _ rfl, H 6 _ rfl, H 7 _ rfl, H 8 _ rfl⟩

set_option maxRecDepth 100000 in
set_option maxHeartbeats 1000000 in
theorem tsize_any (m : Nat) : ∀ (t : T) (cs : List Value) (w : World), t.bulk ≤ m → t.bulk ≤ 3000000 → RT nob w t cs →
    Calls Tryz.prog 34 #[.agg cs.toArray] w fun e w' => e = .returned (.int .i64 t.bulk) ∧ Fr nob w w' := by
  induction m with
  | zero => intro t cs w h; have := t.bulk_pos; omega
  | succ m ih =>
    intro t cs w hm hb h
    obtain ⟨k, s, ps, mn, mx, nu, a, c, rfl, rfl, hs⟩ := h.open'
    have IH := Lib.hid ih; clear ih
    have hsk : (T.mk k s ps mn mx nu).bulk = 1 + T.bulks ps := rfl
    rw [hsk] at hm hb ⊢
    have hlk := T.length_le ps
    have H := Lib.hid hs; clear h hs hsk
    go_enter Tryz.func34, Tryz.ntmps34
    go_wp2_with fail
    go_loopw [3, 9] (fun s i wr => ∃ k : Nat, i = .int .i64 k ∧ k ≤ ps.length ∧ s = .int .i64 ((1 + T.bulks (ps.take k) : Nat) : Int) ∧ Fr nob w wr) (fun _ i _ => ps.length - (intOf i).toNat)
    case atStart => exact ⟨0, rfl, Nat.zero_le _, rfl, (Fr.refl _ _).alloc _⟩
    case round =>
      obtain ⟨k, rfl, hk, rfl, fr⟩ := hrel
      have hst := T.bulks_take_le ps k
      have HR := Lib.hid (H.out.on fr); have FR := Lib.hid fr; clear fr
      by_cases hlt : k < ps.length
      · obtain ⟨g, off, cap, cs, he, hx, hc, hgs⟩ := HR.out.get hlt
        injection he with e1 e2 e3
        subst e1; subst e3
        have hst2 := Lib.hid (T.bulks_take hlt)
        have hst3 := T.bulks_take_le ps (k + 1)
        have hxs : ps[k].bulk ≤ m := by have := T.bulks_mem (List.getElem_mem hlt); omega
        have hbb : T.bulks (ps.take k) + ps[k].bulk ≤ T.bulks ps := by have := hst2.out; omega
        obtain ⟨t, ht⟩ : ∃ t, ps[k] = t := ⟨_, rfl⟩
        rw [ht] at hx hxs hst2 hbb
        obtain ⟨k', s', ps', mn', mx', nu', a', c', rfl, rfl, hx'⟩ := hx.open'
        obtain ⟨d0, d1, d2, d3, d4, d5, d6, d7, d8⟩ := hc.nine
        have HX := Lib.hid hx; clear hx hx' e2 hc
        go_wp2_with fail
        refine (IH.out _ _ _ hxs (by omega) (HX.out.on ((Fr.refl _ _).alloc _))).mono ?_
        rintro e w2 ⟨rfl, f2⟩
        have F2 := Lib.hid f2; clear f2
        go_wp2
        go_roundw
        case rel => exact ⟨k + 1, by go_num, by omega, by rw [hst2.out]; go_num, (FR.out.alloc _).trans' F2.out⟩
        case measure => simp [intOf]; omega
      · obtain rfl : k = ps.length := by omega
        have hT := Lib.hid (List.take_of_length_le (l := ps) (Nat.le_refl _))
        go_wp2
        go_ret
        exact ⟨ret_int (by rw [hT.out]), FR.out⟩

theorem T.knowns_take {l : List T} {k : Nat} (h : k < l.length) : T.knowns (l.take (k + 1)) = (T.knowns (l.take k) && l[k].known) := by
  have ha : ∀ a b : List T, T.knowns (a ++ b) = (T.knowns a && T.knowns b) := by
    intro a b
    induction a with
    | nil => simp [T.knowns]
    | cons t ts ih => simp only [List.cons_append, T.knowns, ih, Bool.and_assoc]
  rw [List.take_succ_eq_append_getElem h, ha]; simp [T.knowns]
theorem T.knowns_mem {l : List T} (h : T.knowns l = true) {t : T} (ht : t ∈ l) : t.known = true := by
  induction l with
  | nil => simp at ht
  | cons a r ih =>
    simp only [T.knowns, Bool.and_eq_true] at h
    rcases List.mem_cons.1 ht with rfl | ht
    · exact h.1
    · exact ih h.2 ht
theorem T.knowns_no {l : List T} {t : T} (ht : t ∈ l) (h : t.known = false) : T.knowns l = false := by
  cases hk : T.knowns l with
  | false => rfl
  | true => rw [T.knowns_mem hk ht] at h; cases h

set_option maxRecDepth 100000 in
set_option maxHeartbeats 1000000 in
theorem known_any (m : Nat) : ∀ (t : T) (cs : List Value) (w : World), t.bulk ≤ m → t.bulk ≤ 3000000 → RT nob w t cs →
    Calls Tryz.prog 35 #[.agg cs.toArray] w fun e w' => e = .returned (.bool t.known) ∧ Fr nob w w' := by
  induction m with
  | zero => intro t cs w h; have := t.bulk_pos; omega
  | succ m ih =>
    intro t cs w hm hb h
    obtain ⟨kd, s, ps, mn, mx, nu, a, c, rfl, rfl, hs⟩ := h.open'
    have IH := Lib.hid ih; clear ih
    have hsk : (T.mk kd s ps mn mx nu).bulk = 1 + T.bulks ps := rfl
    rw [hsk] at hm hb
    have hlk := T.length_le ps
    obtain ⟨r, hr⟩ : ∃ r, (T.mk kd s ps mn mx nu).known = r := ⟨_, rfl⟩
    rw [hr]
    have hr' : ((!(decide (kd < 0) || decide (8 < kd))) && T.knowns ps) = r := hr
    have H := Lib.hid hs; have HK := Lib.hid hr'; clear h hs hsk hr hr'
    by_cases h0 : kd < 0
    · obtain rfl : r = false := by rw [← HK.out]; simp [h0]
      go_enter Tryz.func35, Tryz.ntmps35
      go_wp2_with fail
      go_ret
      exact ⟨rfl, (Fr.refl _ _).alloc _⟩
    by_cases h8 : 8 < kd
    · obtain rfl : r = false := by rw [← HK.out]; simp [h8]
      go_enter Tryz.func35, Tryz.ntmps35
      go_wp2_with fail
      go_ret
      exact ⟨rfl, (Fr.refl _ _).alloc _⟩
    have HKK := Lib.hid (show T.knowns ps = r by rw [← HK.out]; simp [h0, h8])
    go_enter Tryz.func35, Tryz.ntmps35
    go_wp2_with fail
    go_loopw [16] (fun i wr => ∃ k : Nat, i = .int .i64 k ∧ k ≤ ps.length ∧ T.knowns (ps.take k) = true ∧ Fr nob w wr) (fun i _ => ps.length - (intOf i).toNat)
    case atStart => exact ⟨0, rfl, Nat.zero_le _, rfl, (Fr.refl _ _).alloc _⟩
    case round =>
      obtain ⟨k, rfl, hk, hkn, fr⟩ := hrel
      have HR := Lib.hid (H.out.on fr); have FR := Lib.hid fr; have HN := Lib.hid hkn; clear fr hkn
      by_cases hlt : k < ps.length
      · obtain ⟨g, off, cap, cs, he, hx, hc, hgs⟩ := HR.out.get hlt
        injection he with e1 e2 e3
        subst e1; subst e3
        have hmem := Lib.hid (List.getElem_mem hlt)
        have hxs : ps[k].bulk ≤ m := by have := T.bulks_mem (List.getElem_mem hlt); omega
        have hxb : ps[k].bulk ≤ 3000000 := by have := T.bulks_mem (List.getElem_mem hlt); omega
        have htk := Lib.hid (T.knowns_take hlt)
        obtain ⟨t, ht⟩ : ∃ t, ps[k] = t := ⟨_, rfl⟩
        rw [ht] at hx hxs hxb hmem htk
        obtain ⟨k', s', ps', mn', mx', nu', a', c', rfl, rfl, hx'⟩ := hx.open'
        obtain ⟨d0, d1, d2, d3, d4, d5, d6, d7, d8⟩ := hc.nine
        have HX := Lib.hid hx; clear hx hx' e2 hc
        go_wp2_with fail
        refine (IH.out _ _ _ hxs hxb (HX.out.on ((Fr.refl _ _).alloc _))).mono ?_
        obtain ⟨q, hq⟩ : ∃ q, (T.mk k' s' ps' mn' mx' nu').known = q := ⟨_, rfl⟩
        rw [hq]
        rintro e w2 ⟨rfl, f2⟩
        have F2 := Lib.hid f2; have HQ := Lib.hid hq; clear f2 hq
        cases q with
        | false =>
          obtain rfl : r = false := by rw [← HKK.out]; exact T.knowns_no hmem.out HQ.out
          go_wp2
          go_ret
          exact ⟨rfl, (FR.out.alloc _).trans' F2.out⟩
        | true =>
          go_wp2
          go_roundw
          case rel => exact ⟨k + 1, by go_num, by omega, by rw [htk.out, HN.out, HQ.out]; rfl, (FR.out.alloc _).trans' F2.out⟩
          case measure => simp [intOf]; omega
      · obtain rfl : k = ps.length := by omega
        have hT := List.take_of_length_le (l := ps) (Nat.le_refl _)
        obtain rfl : r = true := by have := HN.out; rw [hT] at this; rw [← HKK.out]; exact this
        clear hT
        go_wp2
        go_ret
        exact ⟨rfl, FR.out⟩

/-- A node of few parts, of known kinds. -/
def T.few (t : T) (most : Int) : Bool := decide ((t.bulk : Int) ≤ most) && t.known

set_option maxRecDepth 100000 in
set_option maxHeartbeats 1000000 in
theorem few_any (t : T) (most : Int) (cs : List Value) (w : World) (hb : t.bulk ≤ 3000000) (h : RT nob w t cs) :
    Calls Tryz.prog 11 #[.agg cs.toArray, .int .i64 most] w fun e w' => e = .returned (.bool (t.few most)) ∧ Fr nob w w' := by
  obtain ⟨kd, s, ps, mn, mx, nu, a, c, ht, rfl, hs⟩ := h.open'
  obtain ⟨r, hr⟩ : ∃ r, t.few most = r := ⟨_, rfl⟩
  rw [hr]
  have hr' : (decide ((t.bulk : Int) ≤ most) && t.known) = r := hr
  have H := Lib.hid h; have HR := Lib.hid hr'; clear h hs ht hr hr'
  go_enter Tryz.func11, Tryz.ntmps11
  go_wp2_with fail
  refine (tsize_any t.bulk t _ _ (Nat.le_refl _) hb (H.out.on ((Fr.refl _ _).alloc _))).mono ?_
  rintro e w1 ⟨rfl, f1⟩
  have hf := ((Fr.refl nob w).alloc (.cells #[.int .i64 kd, .int .u64 s.a, .int .u64 s.b, .int .u64 s.c, .int .u64 s.d, .slice a ps.length c, .int .i64 mn, .int .i64 mx, .int .i64 nu] 32)).trans' f1
  have hbx := f1.heap (heap_alloc_new _ _) (fun x => x)
  have HF := Lib.hid hf; clear hf f1
  by_cases hm : (t.bulk : Int) ≤ most
  · have d0 := cell_at (j := 0) hbx rfl
    have d1 := cell_at (j := 1) hbx rfl
    have d2 := cell_at (j := 2) hbx rfl
    have d3 := cell_at (j := 3) hbx rfl
    have d4 := cell_at (j := 4) hbx rfl
    have d5 := cell_at (j := 5) hbx rfl
    have d6 := cell_at (j := 6) hbx rfl
    have d7 := cell_at (j := 7) hbx rfl
    have d8 := cell_at (j := 8) hbx rfl
    have HRR := Lib.hid (show t.known = r by rw [← HR.out]; simp [hm])
    go_wp2_with fail
    refine (known_any t.bulk t _ _ (Nat.le_refl _) hb (H.out.on HF.out)).mono ?_
    rw [HRR.out]
    rintro e w2 ⟨rfl, f2⟩
    have F2 := Lib.hid f2; clear f2
    go_wp2
    go_ret
    exact ⟨rfl, HF.out.trans' F2.out⟩
  · obtain rfl : r = false := by rw [← HR.out]; simp [hm]
    go_wp2_with fail
    go_ret
    exact ⟨rfl, HF.out⟩

end Go.Proofs.YtlchaocpejfikaaGreatDoor

/-
  Walks over the document's nodes: Of, Kids.
-/
namespace Go.Proofs.YtlchaocpejfikaaGreatDoor
open Go.RowKit

/-- The nine cells of a node. -/
def nine (k : Int) (s : S4) (v : Value) (mn mx nu : Int) : List Value := [.int .i64 k, .int .u64 s.a, .int .u64 s.b, .int .u64 s.c, .int .u64 s.d, v, .int .i64 mn, .int .i64 mx, .int .i64 nu]

theorem cell9 {w : World} {b : Nat} {k : Int} {s : S4} {v : Value} {mn mx nu : Int} {T : TypeId} (h : w.heap[b]? = some (.cells (nine k s v mn mx nu).toArray T (0, 0))) : At w b 0 (nine k s v mn mx nu) := by
  intro j u hj
  exact cell_at h (by simpa using hj)

/-- A node that is handed back out of a variable. -/
theorem results_T {fn : Func} {p : Tmp} (h : fn.results = #[.cell p 32]) {tmps : Array Value} {r : Nat} (ht : tmps.getD p undef = .pointer (some ⟨r, 0, none⟩)) {W : World} {k : Int} {s : S4} {v : Value} {mn mx nu : Int}
    (hb : W.heap[r]? = some (.cells (nine k s v mn mx nu).toArray 32 (0, 0))) : (results fn tmps).run Tryz.prog W = .ok (.agg (nine k s v mn mx nu).toArray) W := by
  obtain ⟨c0, c1, c2, c3, c4, c5, c6, c7, c8⟩ := (cell9 hb).nine
  simp only [Nat.zero_add] at c1 c2 c3 c4 c5 c6 c7 c8
  have ht' : tmps[p]?.getD undef = .pointer (some ⟨r, 0, none⟩) := by rw [← ht]; simp
  simp only [results, h]
  simp [ht', go_sem, c0, c1, c2, c3, c4, c5, c6, c7, c8, nine]


set_option maxRecDepth 100000 in
set_option maxHeartbeats 1000000 in
theorem of_T (t : T) (cs : List Value) (w : World) (h : RT nob w t cs) :
    Calls Tryz.prog 62 #[.agg cs.toArray] w fun e w' => ∃ cs', e = .returned (.agg cs'.toArray) ∧ RT nob w' t.of cs' ∧ Fr nob w w' := by
  obtain ⟨kd, s, ps, mn, mx, nu, a, c, rfl, rfl, hs⟩ := h.open'
  have H := Lib.hid hs; clear h hs
  cases ps with
  | nil =>
    have H0 := H.out
    go_enter Tryz.func62, Tryz.ntmps62
    go_wp2
    (try simp only [Exit.inBlock, Exit.then])
    refine bodyPost_ret (results_T (k := 0) (s := S4.zero) (v := .slice none 0 0) (mn := 0) (mx := 0) (nu := 0) rfl rfl (heap_alloc_new' _ _ _ (by simp))) rfl ⟨_, rfl, ?_, ((Fr.refl _ _).alloc _).alloc _⟩
    show RT nob _ T.zero _
    unfold T.zero
    rw [RT_mk]
    exact ⟨_, rfl, .inl ⟨⟨none, 0, rfl⟩, rfl⟩⟩
  | cons x r =>
    obtain ⟨g, off, cap, cx, he, hx, hc, hgs⟩ := H.out.get (k := 0) (by simp)
    injection he with e1 e2 e3
    subst e1; subst e3
    have hx' : RT nob w x cx := hx
    obtain ⟨k', s', ps', mn', mx', nu', a', c', hxe, rfl, hxs⟩ := hx'.open'
    simp only [Nat.zero_mul, Nat.add_zero] at hc
    obtain ⟨d0, d1, d2, d3, d4, d5, d6, d7, d8⟩ := hc.nine
    have HX := Lib.hid hx'
    clear hx hx' hxs hc e2
    obtain ⟨len, hlen⟩ : ∃ len, (x :: r).length = len := ⟨_, rfl⟩
    have hl0 : 0 < len := by rw [← hlen]; simp
    rw [hlen]
    clear hlen
    go_enter Tryz.func62, Tryz.ntmps62
    go_wp2
    (try simp only [Exit.inBlock, Exit.then])
    refine bodyPost_ret (results_T (k := k') (s := s') (v := .slice a' ps'.length c') (mn := mn') (mx := mx') (nu := nu') rfl rfl (heap_alloc_new' _ _ _ (by simp))) rfl ⟨_, rfl, ?_, ((Fr.refl _ _).alloc _).alloc _⟩
    exact HX.out.on (((Fr.refl _ _).alloc _).alloc _)

/-- One node in a block of its own. -/
theorem ST.one {S : Nat → Prop} {w : World} {t : T} {cs : List Value} {b : Nat} (h : RT S w t cs) (hS : ∀ k, S k → k < w.heap.size) (e : TypeId) (hb : b = w.heap.size) : ST S (w.alloc (.cells cs.toArray e)) [t] (.slice (some ⟨b, 0, none⟩) 1 1) := by
  subst hb
  refine .inr ⟨_, _, _, rfl, by simp, ?_⟩
  rw [RTs]
  exact ⟨fun x => by have := hS _ x; omega, by simp, ⟨cs, h.on ((Fr.refl _ _).alloc _), by have := At.new w cs.toArray e rfl; simpa using this⟩, by rw [RTs]; trivial⟩

set_option maxRecDepth 100000 in
set_option maxHeartbeats 1000000 in
theorem kids_T (t : T) (cs : List Value) (w : World) (h : RT nob w t cs) :
    Calls Tryz.prog 38 #[.agg cs.toArray] w fun e w' => ∃ u, e = .returned u ∧ ST nob w' t.kids u ∧ Fr nob w w' := by
  obtain ⟨kd, s, ps, mn, mx, nu, a, c, ht, rfl, hs⟩ := h.open'
  have H := Lib.hid hs; have HT := Lib.hid h; clear h hs
  by_cases h2 : kd = 2
  · have hk : t.kids = ps := by rw [ht]; simp [T.kids, T.kind, T.parts, h2]
    rw [hk]; subst h2
    clear ht hk
    go_enter Tryz.func38, Tryz.ntmps38
    go_wp2
    go_ret
    exact ⟨_, rfl, H.out.on ((Fr.refl _ _).alloc _), (Fr.refl _ _).alloc _⟩
  by_cases h3 : kd = 3
  · have hk : t.kids = ps := by rw [ht]; simp [T.kids, T.kind, T.parts, h3]
    rw [hk]; subst h3
    clear ht hk
    go_enter Tryz.func38, Tryz.ntmps38
    go_wp2
    go_ret
    exact ⟨_, rfl, H.out.on ((Fr.refl _ _).alloc _), (Fr.refl _ _).alloc _⟩
  by_cases h45 : kd = 4 ∨ kd = 5
  · have hk : t.kids = [t.of] := by rw [ht]; simp [T.kids, T.kind, h2, h3, h45]
    rw [hk]
    clear ht hk
    rcases h45 with rfl | rfl
    all_goals
      go_enter Tryz.func38, Tryz.ntmps38
      go_wp2_with fail
      refine (of_T t _ _ (HT.out.on ((Fr.refl _ _).alloc _))).mono ?_
      rintro e w1 ⟨cs', rfl, hr, f1⟩
      obtain ⟨k', s', ps', mn', mx', nu', a', c', hxe, rfl, hxs⟩ := hr.open'
      have HR := Lib.hid hr; have F1 := Lib.hid f1; clear hr f1 hxs hxe
      go_wp2
      go_ret
      exact ⟨_, rfl, ST.one HR.out (fun _ x => x.elim) _ rfl, (((Fr.refl _ _).alloc _).trans' F1.out).alloc _⟩
  · have hk : t.kids = [] := by rw [ht]; simp [T.kids, T.kind, h2, h3, h45]
    rw [hk]
    have h4 : kd ≠ 4 := fun e => h45 (.inl e)
    have h5 : kd ≠ 5 := fun e => h45 (.inr e)
    clear ht hk h45
    go_enter Tryz.func38, Tryz.ntmps38
    go_wp2
    go_ret
    exact ⟨_, rfl, .inl ⟨⟨none, 0, rfl⟩, rfl⟩, (Fr.refl _ _).alloc _⟩

end Go.Proofs.YtlchaocpejfikaaGreatDoor
