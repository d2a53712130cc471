/-
  Walk: Real: the document's node as the program's, all of it in new memory.
-/
import Derived.Test.YtcmjgaadffffaaaRefC
namespace Go.Proofs.Ytcmjgaadffffaaa
open Go.RowKit

/-- What lay there ahead of a world. -/
def Old (w : World) : Nat → Prop := fun k => k < w.heap.size
/-- Blocks of S, and the call's own slice's. -/
def LS2 (S : Nat → Prop) (g : Option Nat) : Nat → Prop := fun k => S k ∨ g = some k

/-- A call's own slice of nodes, all of them outside S. -/
def OwnS (S : Nat → Prop) (w : World) (l : List Nd) (v : Value) (g : Option Nat) : Prop := ∃ vs, w.ownsRow 0 37 1 v l.length vs ∧ VN (LS2 S g) w l vs ∧ v.ownBlock = g ∧ ∀ k, g = some k → ¬ S k

theorem OwnS.nil (S : Nat → Prop) (w : World) : OwnS S w [] (.slice none 0 0) none := ⟨[], World.ownsRow_nil _ _ _ _, rfl, rfl, fun _ h => by cases h⟩
theorem OwnS.shape {S : Nat → Prop} {w : World} {l : List Nd} {v : Value} {g : Option Nat} (h : OwnS S w l v g) : ∃ a c, v = .slice a l.length c := by
  obtain ⟨vs, h1, _⟩ := h; exact ownsRow_slice h1
theorem OwnS.on {S : Nat → Prop} {w w' : World} {l : List Nd} {v : Value} {g : Option Nat} (h : OwnS S w l v g) (f : Fr nob w w') : OwnS S w' l v g := by
  obtain ⟨vs, h1, h2, h3, h4⟩ := h
  exact ⟨vs, ownsRow_fr h1 f (fun _ _ x => x), h2.keep f (fun _ _ x => x.elim) (fun _ _ x => x), h3, h4⟩
theorem OwnS.lt {S : Nat → Prop} {w : World} {l : List Nd} {v : Value} {g : Option Nat} (h : OwnS S w l v g) : ∀ k, g = some k → k < w.heap.size := by
  intro k hk
  obtain ⟨vs, hown, _, hg, _⟩ := h
  rcases hown.2 with ⟨rfl, _⟩ | ⟨r, cap, cur, rfl, _, hr, _⟩
  · rw [← hg] at hk; cases hk
  · rw [← hg] at hk; injection hk with hk; subst hk; exact lt_heap hr
theorem OwnS.sn {S : Nat → Prop} {w : World} {l : List Nd} {v : Value} {g : Option Nat} (h : OwnS S w l v g) : SN S w l v := by
  obtain ⟨vs, h1, h2, h3, h4⟩ := h
  exact SN.of_own h1 (h2.keep (S' := S) (Fr.refl nob w) (fun _ _ x => x.elim) (fun _ _ x => .inl x)) (fun k hk => h4 k (by rw [← h3, hk]))

/-- One node more, in a call's own slice. -/
theorem wpList_append_own1 {S : Nat → Prop} {w : World} {ops : Array Oper} {rest : List Oper} {o : Oper} {a : Act} {Q : Exit → Act → World → Prop} (hgd : o.guard = none) (s x : Operand)
    (ho : o.op = .call { callee := .builtin .append, args := #[s, x], argTypes := #[61, 61] })
    (l : List Nd) (n : Nd) (v y : Value) (q : Nat) (g : Option Nat) (hs : a.eval s = v) (hown : OwnS S w l v g) (hx : a.eval x = .slice (some ⟨q, 0, none⟩) 1 1) (hy : RN (LS2 S g) w n y)
    (hc : w.cell? ⟨q, 0, none⟩ = some y) (hS : ∀ k, S k → k < w.heap.size) (hb : l.length ≤ 3000000)
    (h : ∀ v' w' g', OwnS S w' (l ++ [n]) v' g' → Fr (fun k => g = some k) w w' → (∀ k, g' = some k → g = some k ∨ w.heap.size ≤ k) → wpList Try.prog ops Q rest (a.put o.dst v') w') : wpList Try.prog ops Q (o :: rest) a w := by
  obtain ⟨i0, hi, hz0, hz1, hz2⟩ := info_parts info_node
  obtain ⟨vs, h1, h2, h3, h4⟩ := hown
  have hvy : VN (LS2 S g) w [n] [y] := ⟨y, [], rfl, hy, rfl⟩
  refine wpList_append_g hgd s x _ ho 37 i0 .nilIface 1 16 Try.underlying61 hi hz0 hz1 hz2 rfl (by decide) v l.length vs hs h1 ⟨q, 0, none⟩ 1 1 [y] hx rfl ?_ hvy.cell1 (by unfold maxLen; omega) (by omega) ?_
  · intro j u hj
    match j, hj with
    | 0, hj => simp at hj; subst hj; simpa [Addr.add] using hc
  intro v' w' hown' hap
  have hold : ∀ k, v'.ownBlock = some k → g = some k ∨ w.heap.size ≤ k := fun k hk => by
    rcases hap.old k hk with h | h
    · exact .inl (by rw [← h3, h])
    · exact .inr h
  have hfr : Fr (fun k => g = some k) w w' := hap.fr.mono fun k _ hk => by rw [← h3, hk]
  refine h v' w' v'.ownBlock ⟨vs ++ [y], by simpa using hown', (VN.append h2 hvy).keep hfr (fun _ _ x => .inr x) ?_, rfl, ?_⟩ hfr hold
  · intro k hk x
    rcases x with x | x
    · exact .inl x
    · rcases hold k x with e | e
      · exact .inr e
      · omega
  · intro k hk hsk
    rcases hold k hk with e | e
    · exact h4 k e hsk
    · have := hS k hsk; omega

theorem T.nds_take {l : List T} {k : Nat} (h : k < l.length) : T.nds (l.take (k + 1)) = T.nds (l.take k) ++ [l[k].nd] := by
  simp only [T.nds_eq]; rw [List.take_succ_eq_append_getElem h, List.map_append]; rfl
theorem T.nds_length (l : List T) : (T.nds l).length = l.length := by rw [T.nds_eq, List.length_map]

theorem new_of {w wr w1 w2 : World} {o : Obj} {g : Option Nat} (h2 : w1.heap.size ≤ wr.heap.size) (h3 : w.heap.size < w1.heap.size) (hg : ∀ k, g = some k → k < wr.heap.size) :
    ∀ k, k < w2.heap.size → LS2 (Old w) g k → Old (wr.alloc o) k := by
  intro k _ hk
  unfold Old
  rcases hk with hk | hk
  · unfold Old at hk; simp; omega
  · have := hg k hk; simp; omega

set_option maxRecDepth 100000 in
set_option maxHeartbeats 1000000 in
theorem real_any (m : Nat) : ∀ (t : T) (cs : List Value) (w : World), t.nd.size ≤ m → t.nd.size ≤ 3000000 → RT nob w t cs →
    Calls Try.prog 9 #[.agg cs.toArray] w fun e w' => ∃ v, e = .returned v ∧ RN (Old w) w' t.nd v ∧ Fr nob w w' := by
  induction m with
  | zero => intro t cs w h; have := t.nd.size_pos; omega
  | succ m ih =>
    intro t cs w hm hb h
    obtain ⟨kd, s, ps, mn, mx, nu, a, c, ht, rfl, hs⟩ := h.open'
    have IH := Lib.hid ih; have HT := Lib.hid h; have HE := Lib.hid ht; clear ih h hs ht
    have hkn := Lib.hid t.kids_nd
    have hln := Nd.length_le t.nd.kids
    have hsk := Lib.hid t.nd.size_kids
    have hkl : t.kids.length ≤ 3000000 := by have h1 := hkn.out; have h2 := hsk.out; rw [h1, List.length_map] at hln; rw [← h1] at hln; omega
    go_enter Try.func9, Try.ntmps9
    go_wp2_with fail
    refine (kids_T t _ _ (HT.out.on ((Fr.refl _ _).alloc _))).mono ?_
    rintro e w1 ⟨u, rfl, s1, f1⟩
    obtain ⟨a1, c1, rfl⟩ := s1.shape
    have hbx := f1.heap (heap_alloc_new _ _) (fun x => x)
    have hlt1 := lt_heap hbx
    have S1 := Lib.hid s1; have F1 := Lib.hid f1; have HBX := Lib.hid hbx; clear s1 f1 hbx hln
    go_wp2_with fail
    go_loopw [3, 9] (fun s i wr => ∃ (k : Nat) (g : Option Nat), i = .int .i64 k ∧ k ≤ t.kids.length ∧ OwnS (Old w) wr (T.nds (t.kids.take k)) s g ∧ Fr nob w1 wr ∧ ∀ j, g = some j → w1.heap.size ≤ j) (fun _ i _ => t.kids.length - (intOf i).toNat)
    case atStart => exact ⟨0, none, rfl, Nat.zero_le _, OwnS.nil _ _, Fr.refl _ _, fun _ h => by cases h⟩
    case round =>
      obtain ⟨k, g, rfl, hk, ho, fr, hg⟩ := hrel
      obtain ⟨av, cv, rfl⟩ := ho.shape
      have HO := Lib.hid ho; have FR := Lib.hid fr; have HG := Lib.hid hg
      have hlw := fr.size
      clear ho fr hg
      by_cases hlt : k < t.kids.length
      · obtain ⟨q, off, cap, cx, he, hx, hc, hgs⟩ := (S1.out.on FR.out).get hlt
        injection he with e1 e2 e3
        subst e1; subst e3
        have hmem := List.getElem_mem hlt
        have hxs : t.kids[k].nd.size < t.nd.size := Nd.kid_lt (by rw [hkn.out]; exact List.mem_map_of_mem hmem)
        have hnt := Lib.hid (T.nds_take hlt)
        have hnl : (T.nds (t.kids.take k)).length ≤ 3000000 := by rw [T.nds_length, List.length_take]; omega
        obtain ⟨x, hxe⟩ : ∃ x, t.kids[k] = x := ⟨_, rfl⟩
        rw [hxe] at hx hxs hnt
        obtain ⟨k', s', ps', mn', mx', nu', a', c', hx0, rfl, hxx⟩ := hx.open'
        obtain ⟨d0, d1, d2, d3, d4, d5, d6, d7, d8⟩ := hc.nine
        have HX := Lib.hid hx; clear hx hxx hx0 e2 hc hxe hmem
        go_wp2_with fail
        refine (IH.out x _ _ (by omega) (by omega) (HX.out.on ((Fr.refl _ _).alloc _))).mono ?_
        rintro e w2 ⟨y, rfl, hy, f2⟩
        have hysh := hy.shape
        have HY := Lib.hid hy; have hl2 := f2.size; have F2 := Lib.hid f2; clear hy f2
        simp only [World.size_alloc] at hl2
        have hS := Lib.hid (fun X => fun k (hk : Old w k) => (by unfold Old at hk; simp only [World.size_alloc]; omega : k < (w2.alloc X).heap.size))
        rcases hysh with rfl | ⟨iy, zy, rfl⟩
        all_goals
          go_wp2_with (at_builtin; refine wpList_append_own1 (S := Old w) rfl (.tmp 13) (.tmp 16) rfl (T.nds (t.kids.take k)) x.nd _ _ w2.heap.size g (by rfl) (HO.out.on (((Fr.refl _ _).alloc _).trans' (F2.out.alloc _))) (by rfl) (RN.keep ((Fr.refl nob w2).alloc _) (fun _ _ x => x.elim) (new_of hlw hlt1 HO.out.lt) _ _ HY.out) (by simp) (hS.out _) hnl ?_; intro v' w3 g' ho3 hf3 hg3; obtain ⟨av', cv', he3⟩ := ho3.shape; simp only [List.length_append, List.length_singleton] at he3; subst he3; have HO3 := Lib.hid ho3; have HF3 := Lib.hid hf3; have HG3 := Lib.hid hg3; clear ho3 hf3 hg3)
          go_roundw
          case rel => exact ⟨k + 1, g', by go_num, by omega, by rw [hnt.out]; exact HO3.out, (((FR.out.alloc _).trans' F2.out).alloc _).trans HF3.out (fun i hi x => by have := HG.out i x; omega), fun j hj => by
            rcases HG3.out j hj with h | h
            · exact HG.out j h
            · simp only [World.size_alloc] at h; omega⟩
          case measure => simp [intOf]; omega
      · obtain rfl : k = t.kids.length := by omega
        have hT := List.take_of_length_le (l := t.kids) (Nat.le_refl _)
        have hO := HO.out
        rw [hT] at hO ⊢
        have HSN := Lib.hid hO.sn
        clear hT hO
        have hwr := FR.out.heap HBX.out (fun x => x)
        have d0 := cell_at (j := 0) hwr rfl
        have d1 := cell_at (j := 1) hwr rfl
        have d2 := cell_at (j := 2) hwr rfl
        have d3 := cell_at (j := 3) hwr rfl
        have d4 := cell_at (j := 4) hwr rfl
        have d6 := cell_at (j := 6) hwr rfl
        have d7 := cell_at (j := 7) hwr rfl
        have d8 := cell_at (j := 8) hwr rfl
        have FW := Lib.hid ((((Fr.refl nob w).alloc _).trans' F1.out).trans' FR.out)
        clear hwr
        have hnd1 := Lib.hid (show T.nd1 ps = t.of.nd by rw [HE.out]; cases ps <;> rfl)
        by_cases a1 : kd = 1
        · subst a1
          have hn := Lib.hid (show t.nd = .one s by rw [HE.out]; simp [T.nd])
          go_wp2
          go_ret
          exact ⟨_, rfl, by rw [hn.out, RN]; rfl, FW.out⟩
        by_cases a2 : kd = 2
        · subst a2
          have hn := Lib.hid (show t.nd = .cat (T.nds t.kids) by rw [HE.out]; simp [T.nd, T.kids, T.kind, T.parts])
          go_wp2
          go_ret
          exact ⟨_, rfl, by rw [hn.out]; exact RN_cat.2 ⟨_, rfl, HSN.out⟩, FW.out⟩
        by_cases a3 : kd = 3
        · subst a3
          have hn := Lib.hid (show t.nd = .alt (T.nds t.kids) by rw [HE.out]; simp [T.nd, T.kids, T.kind, T.parts])
          go_wp2
          go_ret
          exact ⟨_, rfl, by rw [hn.out]; exact RN_alt.2 ⟨_, rfl, HSN.out⟩, FW.out⟩
        by_cases a4 : kd = 4
        · subst a4
          have hn := Lib.hid (show t.nd = .rep t.of.nd mn mx by rw [← hnd1.out, HE.out]; simp [T.nd])
          have hkd : T.nds t.kids = [t.of.nd] := by rw [HE.out]; simp [T.kids, T.kind, T.nds]
          have hS := HSN.out
          rw [hkd] at hS ⊢
          clear hkd
          obtain ⟨q, off, cap, y, he, hy, hc⟩ := hS.get (k := 0) (by simp)
          injection he with e1 e2 e3
          subst e1; subst e3
          simp only [Nat.add_zero] at hc
          have hysh := hy.shape
          have HY := Lib.hid hy; clear hy e2 hS
          simp only [List.length_cons, List.length_nil, Nat.zero_add]
          rcases hysh with rfl | ⟨iy, zy, rfl⟩
          all_goals
            go_wp2
            go_quiet (fail)
            go_wp2
            go_ret
            exact ⟨_, rfl, by rw [hn.out, RN]; exact ⟨_, rfl, RN.keep ((Fr.refl nob wr).drewN _) (fun _ _ x => x.elim) (fun _ _ x => x) _ _ HY.out⟩, FW.out.drewN _⟩
        by_cases a5 : kd = 5
        · subst a5
          have hn := Lib.hid (show t.nd = .group nu t.of.nd by rw [← hnd1.out, HE.out]; simp [T.nd])
          have hkd : T.nds t.kids = [t.of.nd] := by rw [HE.out]; simp [T.kids, T.kind, T.nds]
          have hS := HSN.out
          rw [hkd] at hS ⊢
          clear hkd
          obtain ⟨q, off, cap, y, he, hy, hc⟩ := hS.get (k := 0) (by simp)
          injection he with e1 e2 e3
          subst e1; subst e3
          simp only [Nat.add_zero] at hc
          have hysh := hy.shape
          have HY := Lib.hid hy; clear hy e2 hS
          simp only [List.length_cons, List.length_nil, Nat.zero_add]
          rcases hysh with rfl | ⟨iy, zy, rfl⟩
          all_goals
            go_wp2
            go_quiet (fail)
            go_wp2
            go_ret
            exact ⟨_, rfl, by rw [hn.out, RN]; exact ⟨_, rfl, RN.keep ((Fr.refl nob wr).drewN _) (fun _ _ x => x.elim) (fun _ _ x => x) _ _ HY.out⟩, FW.out.drewN _⟩
        by_cases a6 : kd = 6
        · subst a6
          have hn := Lib.hid (show t.nd = .back nu by rw [HE.out]; simp [T.nd])
          go_wp2
          go_ret
          exact ⟨_, rfl, by rw [hn.out, RN]; rfl, FW.out⟩
        by_cases a7 : kd = 7
        · subst a7
          have hn := Lib.hid (show t.nd = .start by rw [HE.out]; simp [T.nd])
          go_wp2
          go_ret
          exact ⟨_, rfl, by rw [hn.out, RN]; rfl, FW.out⟩
        by_cases a8 : kd = 8
        · subst a8
          have hn := Lib.hid (show t.nd = .fin by rw [HE.out]; simp [T.nd])
          go_wp2
          go_ret
          exact ⟨_, rfl, by rw [hn.out, RN]; rfl, FW.out⟩
        · have hn := Lib.hid (show t.nd = .empty by rw [HE.out]; simp [T.nd, a1, a2, a3, a4, a5, a6, a7, a8])
          go_wp2
          go_ret
          exact ⟨_, rfl, by rw [hn.out, RN]; rfl, FW.out⟩

end Go.Proofs.Ytcmjgaadffffaaa
