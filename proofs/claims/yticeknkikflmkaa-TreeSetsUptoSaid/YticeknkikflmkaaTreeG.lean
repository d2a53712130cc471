/-
  Walks of package tree: Join, Choose.
-/
import Derived.Test.YticeknkikflmkaaTreeF
namespace Go.Proofs.Yticeknkikflmkaa
open Go.RowKit

/-- What a part brings to a Cat; to an Alt. -/
def Nd.part : Nd → List Nd
  | .nil | .empty => []
  | .cat l => l
  | n => [n]
def Nd.arm : Nd → List Nd
  | .alt l => l
  | n => [n.told]
def parts : List Nd → List Nd
  | [] => []
  | t :: ts => t.part ++ parts ts
def arms : List Nd → List Nd
  | [] => []
  | t :: ts => t.arm ++ arms ts
def joined (l : List Nd) : Nd := onlyOf (parts l) (.cat (parts l))
def chosen (l : List Nd) : Nd := onlyOf (arms l) (.alt (arms l))

theorem Nd.part_sizes (n : Nd) : Nd.sizes n.part ≤ n.size := by
  cases n <;> simp only [Nd.part, Nd.sizes, Nd.size] <;> omega
theorem Nd.arm_sizes (n : Nd) : Nd.sizes n.arm ≤ n.size := by
  cases n <;> simp only [Nd.arm, Nd.told, Nd.sizes, Nd.size] <;> omega
theorem parts_sizes (l : List Nd) : Nd.sizes (parts l) ≤ Nd.sizes l := by
  induction l with
  | nil => simp [parts]
  | cons t ts ih => have := t.part_sizes; simp only [parts, Nd.sizes, Nd.sizes_append]; omega
theorem arms_sizes (l : List Nd) : Nd.sizes (arms l) ≤ Nd.sizes l := by
  induction l with
  | nil => simp [arms]
  | cons t ts ih => have := t.arm_sizes; simp only [arms, Nd.sizes, Nd.sizes_append]; omega
theorem parts_append (l m : List Nd) : parts (l ++ m) = parts l ++ parts m := by
  induction l with
  | nil => rfl
  | cons t ts ih => simp only [List.cons_append, parts, ih, List.append_assoc]
theorem arms_append (l m : List Nd) : arms (l ++ m) = arms l ++ arms m := by
  induction l with
  | nil => rfl
  | cons t ts ih => simp only [List.cons_append, arms, ih, List.append_assoc]
theorem parts_take {l : List Nd} {k : Nat} (h : k < l.length) : parts (l.take (k + 1)) = parts (l.take k) ++ l[k].part := by
  rw [List.take_succ_eq_append_getElem h, parts_append]; simp [parts]
theorem arms_take {l : List Nd} {k : Nat} (h : k < l.length) : arms (l.take (k + 1)) = arms (l.take k) ++ l[k].arm := by
  rw [List.take_succ_eq_append_getElem h, arms_append]; simp [arms]

/-- The slice that Join, Choose build, behind some rounds: it lies behind the world w. -/
def Built (w : World) (l : List Nd) (v : Value) (wr : World) : Prop := ∃ g, OwnN wr l v g ∧ Fr nob w wr ∧ ∀ k, g = some k → w.heap.size ≤ k

theorem Built.nil (w : World) : Built w [] (.slice none 0 0) w := ⟨none, OwnN.nil w, Fr.refl _ _, fun _ h => by cases h⟩
theorem Built.on {w wr w' : World} {l : List Nd} {v : Value} (h : Built w l v wr) (f : Fr nob wr w') : Built w l v w' := by
  obtain ⟨g, h1, h2, h3⟩ := h; exact ⟨g, h1.on f, h2.trans' f, h3⟩
theorem Built.shape {w wr : World} {l : List Nd} {v : Value} (h : Built w l v wr) : ∃ a c, v = .slice a l.length c := by
  obtain ⟨g, h1, h2, h3⟩ := h; exact h1.shape
theorem Built.fr {w wr : World} {l : List Nd} {v : Value} (h : Built w l v wr) : Fr nob w wr := by
  obtain ⟨g, h1, h2, h3⟩ := h; exact h2
theorem Built.sn {w wr : World} {l : List Nd} {v : Value} (h : Built w l v wr) : SN nob wr l v := by
  obtain ⟨g, h1, h2, h3⟩ := h; exact h1.sn

theorem wpList_append_bt {W w : World} {ops : Array Oper} {rest : List Oper} {o : Oper} {a : Act} {Q : Exit → Act → World → Prop} (hgd : o.guard = none) (s x : Operand)
    (ho : o.op = .call { callee := .builtin .append, args := #[s, x], argTypes := #[38, 38] })
    (l m : List Nd) (v ux : Value) (hs : a.eval s = v) (hown : Built W l v w) (hx : a.eval x = ux)
    (hm : ∀ g, (∀ k, g = some k → W.heap.size ≤ k) → OwnN w l v g → SN (LG g) w m ux) (hb : l.length + m.length ≤ 3000000)
    (h : ∀ v' w', Built W (l ++ m) v' w' → wpList Try.prog ops Q rest (a.put o.dst v') w') : wpList Try.prog ops Q (o :: rest) a w := by
  obtain ⟨g, h1, h2, h3⟩ := hown
  refine wpList_append_sn hgd s x ho l m v ux g hs h1 hx (hm g h3 h1) hb fun v' w' g' q1 q2 q3 => h v' w' ⟨g', q1, ?_, ?_⟩
  · exact h2.trans q2 (fun i hi hg => by have := h3 i hg; omega)
  · intro k hk
    have := h2.size
    rcases q3 k hk with h | h
    · exact h3 k h
    · omega

/-- What lay in W, seen from a world behind, where a slice of the call's own lies. -/
theorem SN.behind {W w : World} {m : List Nd} {u : Value} {g : Option Nat} (h : SN nob W m u) (f : Fr nob W w) (hg : ∀ k, g = some k → W.heap.size ≤ k) : SN (LG g) w m u :=
  h.keep f (fun _ _ x => x) (fun k hk x => by have := hg k x; omega)
theorem RN.behind {W w : World} {m : Nd} {u : Value} {g : Option Nat} (h : RN nob W m u) (f : Fr nob W w) (hg : ∀ k, g = some k → W.heap.size ≤ k) : RN (LG g) w m u :=
  RN.keep f (fun _ _ x => x) (fun k hk x => by have := hg k x; omega) _ _ h
theorem OwnN.lt {w : World} {l : List Nd} {v : Value} {g : Option Nat} (h : OwnN w l v g) : ∀ k, LG g k → k < w.heap.size := by
  intro k hk
  obtain ⟨vs, hown, _, hg⟩ := h
  rcases hown.2 with ⟨rfl, _⟩ | ⟨r, cap, cur, rfl, _, hr, _⟩
  · rw [← hg] at hk; cases hk
  · rw [← hg] at hk; injection hk with hk; subst hk; exact lt_heap hr

theorem OwnN.blk {w : World} {l : List Nd} {v : Value} {g : Option Nat} (h : OwnN w l v g) : v.ownBlock = g := by
  obtain ⟨_, _, _, h⟩ := h; exact h
theorem Built.lt {w wr : World} {l : List Nd} {v : Value} (h : Built w l v wr) : ∀ k, v.ownBlock = some k → k < wr.heap.size := by
  obtain ⟨g, h1, h2, h3⟩ := h
  intro k hk
  rw [h1.blk] at hk
  exact h1.lt k hk

set_option maxRecDepth 100000 in
set_option maxHeartbeats 1000000 in
theorem join_any (l : List Nd) (u : Value) (w : World) (hl : Nd.sizes l ≤ 3000000) (h : SN nob w l u) :
    Calls Try.prog 14 #[u] w fun e w' => ∃ r, e = .returned r ∧ RN nob w' (joined l) r ∧ Fr nob w w' := by
  obtain ⟨a, c, rfl⟩ := h.shape
  have H := Lib.hid h; clear h
  have hll := Nd.length_le l
  have hpl := Lib.hid (Nat.le_trans (Nd.length_le (parts l)) (parts_sizes l))
  go_enter Try.func14, Try.ntmps14
  go_wp2_with fail
  go_loopw [3, 11] (fun s i wr => ∃ k : Nat, i = .int .i64 k ∧ k ≤ l.length ∧ Built w (parts (l.take k)) s wr) (fun _ i _ => l.length - (intOf i).toNat)
  case atStart => exact ⟨0, rfl, Nat.zero_le _, Built.nil w⟩
  case round =>
    obtain ⟨k, rfl, hk, hB⟩ := hrel
    obtain ⟨av, cv, rfl⟩ := hB.shape
    have HB := Lib.hid hB; clear hB
    by_cases hlt : k < l.length
    · obtain ⟨q, off, cap, x, he, hx, hc⟩ := (H.out.on HB.out.fr).get hlt
      obtain ⟨_, _, _, x', he', hx', hc'⟩ := H.out.get hlt
      obtain rfl : x = x' := by
        rw [he] at he'; injection he' with e1 _ _; injection e1 with e1; injection e1 with e1 e2; subst e1; subst e2
        have := HB.out.fr.cell hc' (fun x => x); rw [hc] at this; injection this
      clear he' hc'
      injection he with e1 e2 e3
      subst e1; subst e3
      have HX := Lib.hid hx; have HX0 := Lib.hid hx'; clear hx hx' e2
      have hpt := Lib.hid (parts_take hlt)
      have hsz := Lib.hid (Nat.le_trans (Nd.length_le (parts (l.take (k + 1)))) (Nat.le_trans (parts_sizes _) (Nd.sizes_take_le l (k + 1))))
      go_wp2_with fail
      refine (told_any2 nob l[k] x _ HX.out).mono ?_
      rintro e w2 ⟨y, rfl, hy, hxy, rfl⟩
      obtain ⟨n, hn⟩ : ∃ n, l[k] = n := ⟨_, rfl⟩
      rw [hn] at hy HX HX0 hpt
      clear hn
      have hcase : (n.part = [] ∧ y = .iface 49 (.agg #[])) ∨ (∃ m a c, n.part = m ∧ y = .iface 55 (.agg #[.slice a m.length c]) ∧ SN nob w m (.slice a m.length c)) ∨ (n.part = [n] ∧ ∃ i z, y = .iface i z ∧ i ≠ 49 ∧ i ≠ 55 ∧ x = y) := by
        have hyk := hy.kind
        have hxk := HX0.out.kind
        cases n with
        | nil => exact .inl ⟨rfl, hyk⟩
        | empty => exact .inl ⟨rfl, hyk⟩
        | cat m =>
          obtain ⟨a', c', h2, h3⟩ := hxk
          subst h2
          rcases hxy with h | rfl
          · cases h
          · exact .inr (.inl ⟨m, a', c', rfl, rfl, h3⟩)
        | one s => subst hxk; rcases hxy with h | rfl; cases h; exact .inr (.inr ⟨rfl, _, _, rfl, by decide, by decide, rfl⟩)
        | alt m => obtain ⟨a, c, h1, _⟩ := hxk; subst h1; rcases hxy with h | rfl; cases h; exact .inr (.inr ⟨rfl, _, _, rfl, by decide, by decide, rfl⟩)
        | rep z mn mx => obtain ⟨a, h1, _⟩ := hxk; subst h1; rcases hxy with h | rfl; cases h; exact .inr (.inr ⟨rfl, _, _, rfl, by decide, by decide, rfl⟩)
        | group q z => obtain ⟨a, h1, _⟩ := hxk; subst h1; rcases hxy with h | rfl; cases h; exact .inr (.inr ⟨rfl, _, _, rfl, by decide, by decide, rfl⟩)
        | back q => subst hxk; rcases hxy with h | rfl; cases h; exact .inr (.inr ⟨rfl, _, _, rfl, by decide, by decide, rfl⟩)
        | start => subst hxk; rcases hxy with h | rfl; cases h; exact .inr (.inr ⟨rfl, _, _, rfl, by decide, by decide, rfl⟩)
        | fin => subst hxk; rcases hxy with h | rfl; cases h; exact .inr (.inr ⟨rfl, _, _, rfl, by decide, by decide, rfl⟩)
      clear hy hxy
      rcases hcase with ⟨hp, rfl⟩ | ⟨m, am, cm, hp, rfl, hm⟩ | ⟨hp, iy, z, rfl, n1, n2, rfl⟩
      · rw [hp, List.append_nil] at hpt
        clear hp
        go_wp2
        go_roundw
        case rel => exact ⟨k + 1, by go_num, by omega, by rw [hpt.out]; exact HB.out.on ((Fr.refl _ _).alloc _)⟩
        case measure => simp [intOf]; omega
      · rw [hp] at hpt
        have HM := Lib.hid hm; clear hm hp
        have hlen : (parts (l.take k)).length + m.length ≤ 3000000 := by have h := hsz.out; rw [hpt.out, List.length_append] at h; omega
        go_wp2_with (at_builtin; refine wpList_append_bt rfl (.tmp 27) (.tmp 29) rfl (parts (l.take k)) m _ _ (by rfl) (HB.out.on ((Fr.refl _ _).alloc _)) (by rfl) (fun g hg ho => HM.out.behind (HB.out.fr.trans' ((Fr.refl _ _).alloc _)) hg) hlen ?_; intro v' w3 hb3; obtain ⟨av', cv', he3⟩ := hb3.shape; simp only [List.length_append] at he3; subst he3; have HB3 := Lib.hid hb3; clear hb3)
        go_roundw
        case rel => exact ⟨k + 1, by go_num, by omega, by rw [hpt.out]; exact HB3.out⟩
        case measure => simp [intOf]; omega
      · rw [hp] at hpt
        clear hp
        have hlen : (parts (l.take k)).length + [n].length ≤ 3000000 := by have h := hsz.out; rw [hpt.out, List.length_append] at h; omega
        go_wp2_with (at_builtin; refine wpList_append_bt rfl (.tmp 17) (.tmp 19) rfl (parts (l.take k)) [n] _ _ (by rfl) (HB.out.on ((Fr.refl _ _).alloc _)) (by rfl) (fun g hg ho => SN.one' (HX0.out.behind (HB.out.fr) hg) (fun k hk => HB.out.lt k (by rw [ho.blk]; exact hk)) _ rfl) hlen ?_; intro v' w3 hb3; obtain ⟨av', cv', he3⟩ := hb3.shape; simp only [List.length_append, List.length_singleton] at he3; subst he3; have HB3 := Lib.hid hb3; clear hb3)
        go_roundw
        case rel => exact ⟨k + 1, by go_num, by omega, by rw [hpt.out]; exact HB3.out⟩
        case measure => simp [intOf]; omega
    · obtain rfl : k = l.length := by omega
      have hT := Lib.hid (List.take_of_length_le (l := l) (Nat.le_refl _))
      have hB := HB.out
      rw [hT.out] at hB
      go_wp2_with fail
      refine (only_any (parts l) (.cat (parts l)) _ _ _ (by have := hpl.out; omega) hB.sn (RN_cat.2 ⟨_, rfl, hB.sn⟩)).mono ?_
      rintro e w2 ⟨r, rfl, hr, rfl⟩
      have HR := Lib.hid hr; clear hr
      go_wp2
      go_ret
      exact ⟨_, rfl, HR.out, HB.out.fr⟩

set_option maxRecDepth 100000 in
set_option maxHeartbeats 1000000 in
theorem choose_any (l : List Nd) (u : Value) (w : World) (hl : Nd.sizes l ≤ 3000000) (h : SN nob w l u) :
    Calls Try.prog 16 #[u] w fun e w' => ∃ r, e = .returned r ∧ RN nob w' (chosen l) r ∧ Fr nob w w' := by
  obtain ⟨a, c, rfl⟩ := h.shape
  have H := Lib.hid h; clear h
  have hll := Nd.length_le l
  have hpl := Lib.hid (Nat.le_trans (Nd.length_le (arms l)) (arms_sizes l))
  go_enter Try.func16, Try.ntmps16
  go_wp2_with fail
  go_loopw [3, 10] (fun s i wr => ∃ k : Nat, i = .int .i64 k ∧ k ≤ l.length ∧ Built w (arms (l.take k)) s wr) (fun _ i _ => l.length - (intOf i).toNat)
  case atStart => exact ⟨0, rfl, Nat.zero_le _, Built.nil w⟩
  case round =>
    obtain ⟨k, rfl, hk, hB⟩ := hrel
    obtain ⟨av, cv, rfl⟩ := hB.shape
    have HB := Lib.hid hB; clear hB
    by_cases hlt : k < l.length
    · obtain ⟨q, off, cap, x, he, hx, hc⟩ := (H.out.on HB.out.fr).get hlt
      obtain ⟨_, _, _, x', he', hx', hc'⟩ := H.out.get hlt
      obtain rfl : x = x' := by
        rw [he] at he'; injection he' with e1 _ _; injection e1 with e1; injection e1 with e1 e2; subst e1; subst e2
        have := HB.out.fr.cell hc' (fun x => x); rw [hc] at this; injection this
      clear he' hc'
      injection he with e1 e2 e3
      subst e1; subst e3
      have HX := Lib.hid hx; have HX0 := Lib.hid hx'; clear hx hx' e2
      have hpt := Lib.hid (arms_take hlt)
      have hsz := Lib.hid (Nat.le_trans (Nd.length_le (arms (l.take (k + 1)))) (Nat.le_trans (arms_sizes _) (Nd.sizes_take_le l (k + 1))))
      obtain ⟨n, hn⟩ : ∃ n, l[k] = n := ⟨_, rfl⟩
      rw [hn] at HX HX0 hpt
      clear hn
      have hcase : (∃ m a c, n.arm = m ∧ x = .iface 59 (.agg #[.slice a m.length c]) ∧ SN nob w m (.slice a m.length c)) ∨ (n.arm = [n.told] ∧ (x = .nilIface ∨ ∃ i z, x = .iface i z ∧ i ≠ 59)) := by
        have hxk := HX0.out.kind
        cases n with
        | alt m =>
          obtain ⟨a', c', h2, h3⟩ := hxk
          exact .inl ⟨m, a', c', rfl, h2, h3⟩
        | nil => exact .inr ⟨rfl, .inl hxk⟩
        | cat m => obtain ⟨a, c, h1, _⟩ := hxk; exact .inr ⟨rfl, .inr ⟨_, _, h1, by decide⟩⟩
        | rep z mn mx => obtain ⟨a, h1, _⟩ := hxk; exact .inr ⟨rfl, .inr ⟨_, _, h1, by decide⟩⟩
        | group q z => obtain ⟨a, h1, _⟩ := hxk; exact .inr ⟨rfl, .inr ⟨_, _, h1, by decide⟩⟩
        | _ => exact .inr ⟨rfl, .inr ⟨_, _, hxk, by decide⟩⟩
      rcases hcase with ⟨m, am, cm, hp, rfl, hm⟩ | ⟨hp, hx⟩
      · rw [hp] at hpt
        have HM := Lib.hid hm; clear hm hp
        have hlen : (arms (l.take k)).length + m.length ≤ 3000000 := by have h := hsz.out; rw [hpt.out, List.length_append] at h; omega
        go_wp2_with (at_builtin; refine wpList_append_bt rfl (.tmp 20) (.tmp 22) rfl (arms (l.take k)) m _ _ (by rfl) (HB.out.on ((Fr.refl _ _).alloc _)) (by rfl) (fun g hg ho => HM.out.behind (HB.out.fr.trans' ((Fr.refl _ _).alloc _)) hg) hlen ?_; intro v' w3 hb3; obtain ⟨av', cv', he3⟩ := hb3.shape; simp only [List.length_append] at he3; subst he3; have HB3 := Lib.hid hb3; clear hb3)
        go_roundw
        case rel => exact ⟨k + 1, by go_num, by omega, by rw [hpt.out]; exact HB3.out⟩
        case measure => simp [intOf]; omega
      · rw [hp] at hpt
        clear hp
        have hlen : (arms (l.take k)).length + [n.told].length ≤ 3000000 := by have h := hsz.out; rw [hpt.out, List.length_append] at h; omega
        obtain ⟨g0, o0, f0, l0⟩ := HB.out
        have HXG := Lib.hid (HX0.out.behind f0 l0)
        have hb0 := o0.blk
        have HL0 := Lib.hid l0; have F0 := Lib.hid f0; have O0 := Lib.hid o0; clear l0 f0 o0
        rcases hx with rfl | ⟨ix, zx, rfl, hne⟩
        all_goals
          go_wp2_with fail
          refine (told_any (LG g0) n _ _ (HXG.out.on ((Fr.refl _ _).alloc _))).mono ?_
          rintro e w2 ⟨y, rfl, hy, rfl⟩
          have HY := Lib.hid hy; have hysh := hy.shape; clear hy
          rcases hysh with rfl | ⟨iy, zy, rfl⟩
          all_goals
            go_wp2_with (at_builtin; refine wpList_append_bt rfl (.tmp 24) (.tmp 27) rfl (arms (l.take k)) [n.told] _ _ (by rfl) (HB.out.on (((Fr.refl _ _).alloc _).alloc _)) (by rfl) (fun g hg ho => by have e := hb0.symm.trans ho.blk; subst e; exact SN.one' HY.out (fun k hk => by have := O0.out.lt k hk; simp; omega) _ (by simp)) hlen ?_; intro v' w3 hb3; obtain ⟨av', cv', he3⟩ := hb3.shape; simp only [List.length_append, List.length_singleton] at he3; subst he3; have HB3 := Lib.hid hb3; clear hb3)
            go_roundw
            case rel => exact ⟨k + 1, by go_num, by omega, by rw [hpt.out]; exact HB3.out⟩
            case measure => simp [intOf]; omega
    · obtain rfl : k = l.length := by omega
      have hT := Lib.hid (List.take_of_length_le (l := l) (Nat.le_refl _))
      have hB := HB.out
      rw [hT.out] at hB
      go_wp2_with fail
      refine (only_any (arms l) (.alt (arms l)) _ _ _ (by have := hpl.out; omega) hB.sn (RN_alt.2 ⟨_, rfl, hB.sn⟩)).mono ?_
      rintro e w2 ⟨r, rfl, hr, rfl⟩
      have HR := Lib.hid hr; clear hr
      go_wp2
      go_ret
      exact ⟨_, rfl, HR.out, HB.out.fr⟩

end Go.Proofs.Yticeknkikflmkaa
