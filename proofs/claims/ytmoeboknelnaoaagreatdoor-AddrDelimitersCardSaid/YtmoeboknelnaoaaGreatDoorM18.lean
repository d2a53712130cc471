/-
  Merged texts of this claim: RefC, RefD, RefE.
-/
import Derived.Test.YtmoeboknelnaoaaGreatDoorM12

/-
  Walks over the document's nodes: Of, Kids.
-/
namespace Go.Proofs.YtmoeboknelnaoaaGreatDoor
open Go.RowKit

/-- The nine cells of a node. -/
def nine (k : Int) (s : S4) (v : Value) (mn mx nu : Int) : List Value := [.int .i64 k, .int .u64 s.a, .int .u64 s.b, .int .u64 s.c, .int .u64 s.d, v, .int .i64 mn, .int .i64 mx, .int .i64 nu]

theorem cell9 {w : World} {b : Nat} {k : Int} {s : S4} {v : Value} {mn mx nu : Int} {T : TypeId} (h : w.heap[b]? = some (.cells (nine k s v mn mx nu).toArray T (0, 0))) : At w b 0 (nine k s v mn mx nu) := by
  intro j u hj
  exact cell_at h (by simpa using hj)

/-- A node that is handed back out of a variable. -/
theorem results_T {fn : Func} {p : Tmp} (h : fn.results = #[.cell p 39]) {tmps : Array Value} {r : Nat} (ht : tmps.getD p undef = .pointer (some ⟨r, 0, none⟩)) {W : World} {k : Int} {s : S4} {v : Value} {mn mx nu : Int}
    (hb : W.heap[r]? = some (.cells (nine k s v mn mx nu).toArray 39 (0, 0))) : (results fn tmps).run Tryz.prog W = .ok (.agg (nine k s v mn mx nu).toArray) W := by
  obtain ⟨c0, c1, c2, c3, c4, c5, c6, c7, c8⟩ := (cell9 hb).nine
  simp only [Nat.zero_add] at c1 c2 c3 c4 c5 c6 c7 c8
  have ht' : tmps[p]?.getD undef = .pointer (some ⟨r, 0, none⟩) := by rw [← ht]; simp
  simp only [results, h]
  simp [ht', go_sem, c0, c1, c2, c3, c4, c5, c6, c7, c8, nine]


set_option maxRecDepth 100000 in
set_option maxHeartbeats 1000000 in
theorem of_T (t : T) (cs : List Value) (w : World) (h : RT nob w t cs) :
    Calls Tryz.prog 57 #[.agg cs.toArray] w fun e w' => ∃ cs', e = .returned (.agg cs'.toArray) ∧ RT nob w' t.of cs' ∧ Fr nob w w' := by
  obtain ⟨kd, s, ps, mn, mx, nu, a, c, rfl, rfl, hs⟩ := h.open'
  have H := Lib.hid hs; clear h hs
  cases ps with
  | nil =>
    have H0 := H.out
    go_enter Tryz.func57, Tryz.ntmps57
    go_wp2
    (try simp only [Exit.inBlock, Exit.then])
    refine bodyPost_ret (results_T (k := 0) (s := S4.zero) (v := .slice none 0 0) (mn := 0) (mx := 0) (nu := 0) rfl rfl (heap_alloc_new' _ _ _ (by simp))) rfl ⟨_, rfl, ?_, ((Fr.refl _ _).alloc _).alloc _⟩
    show RT nob _ T.zero _
    unfold T.zero
    rw [RT_mk]
    exact ⟨_, rfl, .inl ⟨⟨none, 0, rfl⟩, rfl⟩⟩
  | cons x r =>
    obtain ⟨g, off, cap, cx, he, hx, hc, hgs⟩ := H.out.get (k := 0) (by simp)
    injection he with e1 e2 e3
    subst e1; subst e3
    have hx' : RT nob w x cx := hx
    obtain ⟨k', s', ps', mn', mx', nu', a', c', hxe, rfl, hxs⟩ := hx'.open'
    simp only [Nat.zero_mul, Nat.add_zero] at hc
    obtain ⟨d0, d1, d2, d3, d4, d5, d6, d7, d8⟩ := hc.nine
    have HX := Lib.hid hx'
    clear hx hx' hxs hc e2
    obtain ⟨len, hlen⟩ : ∃ len, (x :: r).length = len := ⟨_, rfl⟩
    have hl0 : 0 < len := by rw [← hlen]; simp
    rw [hlen]
    clear hlen
    go_enter Tryz.func57, Tryz.ntmps57
    go_wp2
    (try simp only [Exit.inBlock, Exit.then])
    refine bodyPost_ret (results_T (k := k') (s := s') (v := .slice a' ps'.length c') (mn := mn') (mx := mx') (nu := nu') rfl rfl (heap_alloc_new' _ _ _ (by simp))) rfl ⟨_, rfl, ?_, ((Fr.refl _ _).alloc _).alloc _⟩
    exact HX.out.on (((Fr.refl _ _).alloc _).alloc _)

/-- One node in a block of its own. -/
theorem ST.one {S : Nat → Prop} {w : World} {t : T} {cs : List Value} {b : Nat} (h : RT S w t cs) (hS : ∀ k, S k → k < w.heap.size) (e : TypeId) (hb : b = w.heap.size) : ST S (w.alloc (.cells cs.toArray e)) [t] (.slice (some ⟨b, 0, none⟩) 1 1) := by
  subst hb
  refine .inr ⟨_, _, _, rfl, by simp, ?_⟩
  rw [RTs]
  exact ⟨fun x => by have := hS _ x; omega, by simp, ⟨cs, h.on ((Fr.refl _ _).alloc _), by have := At.new w cs.toArray e rfl; simpa using this⟩, by rw [RTs]; trivial⟩

set_option maxRecDepth 100000 in
set_option maxHeartbeats 1000000 in
theorem kids_T (t : T) (cs : List Value) (w : World) (h : RT nob w t cs) :
    Calls Tryz.prog 37 #[.agg cs.toArray] w fun e w' => ∃ u, e = .returned u ∧ ST nob w' t.kids u ∧ Fr nob w w' := by
  obtain ⟨kd, s, ps, mn, mx, nu, a, c, ht, rfl, hs⟩ := h.open'
  have H := Lib.hid hs; have HT := Lib.hid h; clear h hs
  by_cases h2 : kd = 2
  · have hk : t.kids = ps := by rw [ht]; simp [T.kids, T.kind, T.parts, h2]
    rw [hk]; subst h2
    clear ht hk
    go_enter Tryz.func37, Tryz.ntmps37
    go_wp2
    go_ret
    exact ⟨_, rfl, H.out.on ((Fr.refl _ _).alloc _), (Fr.refl _ _).alloc _⟩
  by_cases h3 : kd = 3
  · have hk : t.kids = ps := by rw [ht]; simp [T.kids, T.kind, T.parts, h3]
    rw [hk]; subst h3
    clear ht hk
    go_enter Tryz.func37, Tryz.ntmps37
    go_wp2
    go_ret
    exact ⟨_, rfl, H.out.on ((Fr.refl _ _).alloc _), (Fr.refl _ _).alloc _⟩
  by_cases h45 : kd = 4 ∨ kd = 5
  · have hk : t.kids = [t.of] := by rw [ht]; simp [T.kids, T.kind, h2, h3, h45]
    rw [hk]
    clear ht hk
    rcases h45 with rfl | rfl
    all_goals
      go_enter Tryz.func37, Tryz.ntmps37
      go_wp2_with fail
      refine (of_T t _ _ (HT.out.on ((Fr.refl _ _).alloc _))).mono ?_
      rintro e w1 ⟨cs', rfl, hr, f1⟩
      obtain ⟨k', s', ps', mn', mx', nu', a', c', hxe, rfl, hxs⟩ := hr.open'
      have HR := Lib.hid hr; have F1 := Lib.hid f1; clear hr f1 hxs hxe
      go_wp2
      go_ret
      exact ⟨_, rfl, ST.one HR.out (fun _ x => x.elim) _ rfl, (((Fr.refl _ _).alloc _).trans' F1.out).alloc _⟩
  · have hk : t.kids = [] := by rw [ht]; simp [T.kids, T.kind, h2, h3, h45]
    rw [hk]
    have h4 : kd ≠ 4 := fun e => h45 (.inl e)
    have h5 : kd ≠ 5 := fun e => h45 (.inr e)
    clear ht hk h45
    go_enter Tryz.func37, Tryz.ntmps37
    go_wp2
    go_ret
    exact ⟨_, rfl, .inl ⟨⟨none, 0, rfl⟩, rfl⟩, (Fr.refl _ _).alloc _⟩

end Go.Proofs.YtmoeboknelnaoaaGreatDoor

/-
  Walk: Real: the document's node as the program's, all of it in new memory.
-/
namespace Go.Proofs.YtmoeboknelnaoaaGreatDoor
open Go.RowKit

/-- What lay there ahead of a world. -/
def Old (w : World) : Nat → Prop := fun k => k < w.heap.size
/-- Blocks of S, and the call's own slice's. -/
def LS2 (S : Nat → Prop) (g : Option Nat) : Nat → Prop := fun k => S k ∨ g = some k

/-- A call's own slice of nodes, all of them outside S. -/
def OwnS (S : Nat → Prop) (w : World) (l : List Nd) (v : Value) (g : Option Nat) : Prop := ∃ vs, w.ownsRow 0 25 1 v l.length vs ∧ VN (LS2 S g) w l vs ∧ v.ownBlock = g ∧ ∀ k, g = some k → ¬ S k

theorem OwnS.nil (S : Nat → Prop) (w : World) : OwnS S w [] (.slice none 0 0) none := ⟨[], World.ownsRow_nil _ _ _ _, rfl, rfl, fun _ h => by cases h⟩
theorem OwnS.shape {S : Nat → Prop} {w : World} {l : List Nd} {v : Value} {g : Option Nat} (h : OwnS S w l v g) : ∃ a c, v = .slice a l.length c := by
  obtain ⟨vs, h1, _⟩ := h; exact ownsRow_slice h1
theorem OwnS.on {S : Nat → Prop} {w w' : World} {l : List Nd} {v : Value} {g : Option Nat} (h : OwnS S w l v g) (f : Fr nob w w') : OwnS S w' l v g := by
  obtain ⟨vs, h1, h2, h3, h4⟩ := h
  exact ⟨vs, ownsRow_fr h1 f (fun _ _ x => x), h2.keep f (fun _ _ x => x.elim) (fun _ _ x => x), h3, h4⟩
theorem OwnS.lt {S : Nat → Prop} {w : World} {l : List Nd} {v : Value} {g : Option Nat} (h : OwnS S w l v g) : ∀ k, g = some k → k < w.heap.size := by
  intro k hk
  obtain ⟨vs, hown, _, hg, _⟩ := h
  rcases hown.2 with ⟨rfl, _⟩ | ⟨r, cap, cur, rfl, _, hr, _⟩
  · rw [← hg] at hk; cases hk
  · rw [← hg] at hk; injection hk with hk; subst hk; exact lt_heap hr
theorem OwnS.sn {S : Nat → Prop} {w : World} {l : List Nd} {v : Value} {g : Option Nat} (h : OwnS S w l v g) : SN S w l v := by
  obtain ⟨vs, h1, h2, h3, h4⟩ := h
  exact SN.of_own h1 (h2.keep (S' := S) (Fr.refl nob w) (fun _ _ x => x.elim) (fun _ _ x => .inl x)) (fun k hk => h4 k (by rw [← h3, hk]))

/-- One node more, in a call's own slice. -/
theorem wpList_append_own1 {S : Nat → Prop} {w : World} {ops : Array Oper} {rest : List Oper} {o : Oper} {a : Act} {Q : Exit → Act → World → Prop} (hgd : o.guard = none) (s x : Operand)
    (ho : o.op = .call { callee := .builtin .append, args := #[s, x], argTypes := #[88, 88] })
    (l : List Nd) (n : Nd) (v y : Value) (q : Nat) (g : Option Nat) (hs : a.eval s = v) (hown : OwnS S w l v g) (hx : a.eval x = .slice (some ⟨q, 0, none⟩) 1 1) (hy : RN (LS2 S g) w n y)
    (hc : w.cell? ⟨q, 0, none⟩ = some y) (hS : ∀ k, S k → k < w.heap.size) (hb : l.length ≤ 3000000)
    (h : ∀ v' w' g', OwnS S w' (l ++ [n]) v' g' → Fr (fun k => g = some k) w w' → (∀ k, g' = some k → g = some k ∨ w.heap.size ≤ k) → wpList Tryz.prog ops Q rest (a.put o.dst v') w') : wpList Tryz.prog ops Q (o :: rest) a w := by
  obtain ⟨i0, hi, hz0, hz1, hz2⟩ := info_parts info_node
  obtain ⟨vs, h1, h2, h3, h4⟩ := hown
  have hvy : VN (LS2 S g) w [n] [y] := ⟨y, [], rfl, hy, rfl⟩
  refine wpList_append_g hgd s x _ ho 25 i0 .nilIface 1 16 Tryz.underlying88 hi hz0 hz1 hz2 rfl (by decide) v l.length vs hs h1 ⟨q, 0, none⟩ 1 1 [y] hx rfl ?_ hvy.cell1 (by unfold maxLen; omega) (by omega) ?_
  · intro j u hj
    match j, hj with
    | 0, hj => simp at hj; subst hj; simpa [Addr.add] using hc
  intro v' w' hown' hap
  have hold : ∀ k, v'.ownBlock = some k → g = some k ∨ w.heap.size ≤ k := fun k hk => by
    rcases hap.old k hk with h | h
    · exact .inl (by rw [← h3, h])
    · exact .inr h
  have hfr : Fr (fun k => g = some k) w w' := hap.fr.mono fun k _ hk => by rw [← h3, hk]
  refine h v' w' v'.ownBlock ⟨vs ++ [y], by simpa using hown', (VN.append h2 hvy).keep hfr (fun _ _ x => .inr x) ?_, rfl, ?_⟩ hfr hold
  · intro k hk x
    rcases x with x | x
    · exact .inl x
    · rcases hold k x with e | e
      · exact .inr e
      · omega
  · intro k hk hsk
    rcases hold k hk with e | e
    · exact h4 k e hsk
    · have := hS k hsk; omega

theorem T.nds_take {l : List T} {k : Nat} (h : k < l.length) : T.nds (l.take (k + 1)) = T.nds (l.take k) ++ [l[k].nd] := by
  simp only [T.nds_eq]; rw [List.take_succ_eq_append_getElem h, List.map_append]; rfl
theorem T.nds_length (l : List T) : (T.nds l).length = l.length := by rw [T.nds_eq, List.length_map]

theorem new_of {w wr w1 w2 : World} {o : Obj} {g : Option Nat} (h2 : w1.heap.size ≤ wr.heap.size) (h3 : w.heap.size < w1.heap.size) (hg : ∀ k, g = some k → k < wr.heap.size) :
    ∀ k, k < w2.heap.size → LS2 (Old w) g k → Old (wr.alloc o) k := by
  intro k _ hk
  unfold Old
  rcases hk with hk | hk
  · unfold Old at hk; simp; omega
  · have := hg k hk; simp; omega

set_option maxRecDepth 100000 in
set_option maxHeartbeats 1000000 in
theorem real_any (m : Nat) : ∀ (t : T) (cs : List Value) (w : World), t.nd.size ≤ m → t.nd.size ≤ 3000000 → RT nob w t cs →
    Calls Tryz.prog 18 #[.agg cs.toArray] w fun e w' => ∃ v, e = .returned v ∧ RN (Old w) w' t.nd v ∧ Fr nob w w' := by
  induction m with
  | zero => intro t cs w h; have := t.nd.size_pos; omega
  | succ m ih =>
    intro t cs w hm hb h
    obtain ⟨kd, s, ps, mn, mx, nu, a, c, ht, rfl, hs⟩ := h.open'
    have IH := Lib.hid ih; have HT := Lib.hid h; have HE := Lib.hid ht; clear ih h hs ht
    have hkn := Lib.hid t.kids_nd
    have hln := Nd.length_le t.nd.kids
    have hsk := Lib.hid t.nd.size_kids
    have hkl : t.kids.length ≤ 3000000 := by have h1 := hkn.out; have h2 := hsk.out; rw [h1, List.length_map] at hln; rw [← h1] at hln; omega
    go_enter Tryz.func18, Tryz.ntmps18
    go_wp2_with fail
    refine (kids_T t _ _ (HT.out.on ((Fr.refl _ _).alloc _))).mono ?_
    rintro e w1 ⟨u, rfl, s1, f1⟩
    obtain ⟨a1, c1, rfl⟩ := s1.shape
    have hbx := f1.heap (heap_alloc_new _ _) (fun x => x)
    have hlt1 := lt_heap hbx
    have S1 := Lib.hid s1; have F1 := Lib.hid f1; have HBX := Lib.hid hbx; clear s1 f1 hbx hln
    go_wp2_with fail
    go_loopw [3, 9] (fun s i wr => ∃ (k : Nat) (g : Option Nat), i = .int .i64 k ∧ k ≤ t.kids.length ∧ OwnS (Old w) wr (T.nds (t.kids.take k)) s g ∧ Fr nob w1 wr ∧ ∀ j, g = some j → w1.heap.size ≤ j) (fun _ i _ => t.kids.length - (intOf i).toNat)
    case atStart => exact ⟨0, none, rfl, Nat.zero_le _, OwnS.nil _ _, Fr.refl _ _, fun _ h => by cases h⟩
    case round =>
      obtain ⟨k, g, rfl, hk, ho, fr, hg⟩ := hrel
      obtain ⟨av, cv, rfl⟩ := ho.shape
      have HO := Lib.hid ho; have FR := Lib.hid fr; have HG := Lib.hid hg
      have hlw := fr.size
      clear ho fr hg
      by_cases hlt : k < t.kids.length
      · obtain ⟨q, off, cap, cx, he, hx, hc, hgs⟩ := (S1.out.on FR.out).get hlt
        injection he with e1 e2 e3
        subst e1; subst e3
        have hmem := List.getElem_mem hlt
        have hxs : t.kids[k].nd.size < t.nd.size := Nd.kid_lt (by rw [hkn.out]; exact List.mem_map_of_mem hmem)
        have hnt := Lib.hid (T.nds_take hlt)
        have hnl : (T.nds (t.kids.take k)).length ≤ 3000000 := by rw [T.nds_length, List.length_take]; omega
        obtain ⟨x, hxe⟩ : ∃ x, t.kids[k] = x := ⟨_, rfl⟩
        rw [hxe] at hx hxs hnt
        obtain ⟨k', s', ps', mn', mx', nu', a', c', hx0, rfl, hxx⟩ := hx.open'
        obtain ⟨d0, d1, d2, d3, d4, d5, d6, d7, d8⟩ := hc.nine
        have HX := Lib.hid hx; clear hx hxx hx0 e2 hc hxe hmem
        go_wp2_with fail
        refine (IH.out x _ _ (by omega) (by omega) (HX.out.on ((Fr.refl _ _).alloc _))).mono ?_
        rintro e w2 ⟨y, rfl, hy, f2⟩
        have hysh := hy.shape
        have HY := Lib.hid hy; have hl2 := f2.size; have F2 := Lib.hid f2; clear hy f2
        simp only [World.size_alloc] at hl2
        have hS := Lib.hid (fun X => fun k (hk : Old w k) => (by unfold Old at hk; simp only [World.size_alloc]; omega : k < (w2.alloc X).heap.size))
        rcases hysh with rfl | ⟨iy, zy, rfl⟩
        all_goals
          go_wp2_with (at_builtin; refine wpList_append_own1 (S := Old w) rfl (.tmp 13) (.tmp 16) rfl (T.nds (t.kids.take k)) x.nd _ _ w2.heap.size g (by rfl) (HO.out.on (((Fr.refl _ _).alloc _).trans' (F2.out.alloc _))) (by rfl) (RN.keep ((Fr.refl nob w2).alloc _) (fun _ _ x => x.elim) (new_of hlw hlt1 HO.out.lt) _ _ HY.out) (by simp) (hS.out _) hnl ?_; intro v' w3 g' ho3 hf3 hg3; obtain ⟨av', cv', he3⟩ := ho3.shape; simp only [List.length_append, List.length_singleton] at he3; subst he3; have HO3 := Lib.hid ho3; have HF3 := Lib.hid hf3; have HG3 := Lib.hid hg3; clear ho3 hf3 hg3)
          go_roundw
          case rel => exact ⟨k + 1, g', by go_num, by omega, by rw [hnt.out]; exact HO3.out, (((FR.out.alloc _).trans' F2.out).alloc _).trans HF3.out (fun i hi x => by have := HG.out i x; omega), fun j hj => by
            rcases HG3.out j hj with h | h
            · exact HG.out j h
            · simp only [World.size_alloc] at h; omega⟩
          case measure => simp [intOf]; omega
      · obtain rfl : k = t.kids.length := by omega
        have hT := List.take_of_length_le (l := t.kids) (Nat.le_refl _)
        have hO := HO.out
        rw [hT] at hO ⊢
        have HSN := Lib.hid hO.sn
        clear hT hO
        have hwr := FR.out.heap HBX.out (fun x => x)
        have d0 := cell_at (j := 0) hwr rfl
        have d1 := cell_at (j := 1) hwr rfl
        have d2 := cell_at (j := 2) hwr rfl
        have d3 := cell_at (j := 3) hwr rfl
        have d4 := cell_at (j := 4) hwr rfl
        have d6 := cell_at (j := 6) hwr rfl
        have d7 := cell_at (j := 7) hwr rfl
        have d8 := cell_at (j := 8) hwr rfl
        have FW := Lib.hid ((((Fr.refl nob w).alloc _).trans' F1.out).trans' FR.out)
        clear hwr
        have hnd1 := Lib.hid (show T.nd1 ps = t.of.nd by rw [HE.out]; cases ps <;> rfl)
        by_cases a1 : kd = 1
        · subst a1
          have hn := Lib.hid (show t.nd = .one s by rw [HE.out]; simp [T.nd])
          go_wp2
          go_ret
          exact ⟨_, rfl, by rw [hn.out, RN]; rfl, FW.out⟩
        by_cases a2 : kd = 2
        · subst a2
          have hn := Lib.hid (show t.nd = .cat (T.nds t.kids) by rw [HE.out]; simp [T.nd, T.kids, T.kind, T.parts])
          go_wp2
          go_ret
          exact ⟨_, rfl, by rw [hn.out]; exact RN_cat.2 ⟨_, rfl, HSN.out⟩, FW.out⟩
        by_cases a3 : kd = 3
        · subst a3
          have hn := Lib.hid (show t.nd = .alt (T.nds t.kids) by rw [HE.out]; simp [T.nd, T.kids, T.kind, T.parts])
          go_wp2
          go_ret
          exact ⟨_, rfl, by rw [hn.out]; exact RN_alt.2 ⟨_, rfl, HSN.out⟩, FW.out⟩
        by_cases a4 : kd = 4
        · subst a4
          have hn := Lib.hid (show t.nd = .rep t.of.nd mn mx by rw [← hnd1.out, HE.out]; simp [T.nd])
          have hkd : T.nds t.kids = [t.of.nd] := by rw [HE.out]; simp [T.kids, T.kind, T.nds]
          have hS := HSN.out
          rw [hkd] at hS ⊢
          clear hkd
          obtain ⟨q, off, cap, y, he, hy, hc⟩ := hS.get (k := 0) (by simp)
          injection he with e1 e2 e3
          subst e1; subst e3
          simp only [Nat.add_zero] at hc
          have hysh := hy.shape
          have HY := Lib.hid hy; clear hy e2 hS
          simp only [List.length_cons, List.length_nil, Nat.zero_add]
          rcases hysh with rfl | ⟨iy, zy, rfl⟩
          all_goals
            go_wp2
            go_quiet (fail)
            go_wp2
            go_ret
            exact ⟨_, rfl, by rw [hn.out, RN]; exact ⟨_, rfl, RN.keep ((Fr.refl nob wr).drewN _) (fun _ _ x => x.elim) (fun _ _ x => x) _ _ HY.out⟩, FW.out.drewN _⟩
        by_cases a5 : kd = 5
        · subst a5
          have hn := Lib.hid (show t.nd = .group nu t.of.nd by rw [← hnd1.out, HE.out]; simp [T.nd])
          have hkd : T.nds t.kids = [t.of.nd] := by rw [HE.out]; simp [T.kids, T.kind, T.nds]
          have hS := HSN.out
          rw [hkd] at hS ⊢
          clear hkd
          obtain ⟨q, off, cap, y, he, hy, hc⟩ := hS.get (k := 0) (by simp)
          injection he with e1 e2 e3
          subst e1; subst e3
          simp only [Nat.add_zero] at hc
          have hysh := hy.shape
          have HY := Lib.hid hy; clear hy e2 hS
          simp only [List.length_cons, List.length_nil, Nat.zero_add]
          rcases hysh with rfl | ⟨iy, zy, rfl⟩
          all_goals
            go_wp2
            go_quiet (fail)
            go_wp2
            go_ret
            exact ⟨_, rfl, by rw [hn.out, RN]; exact ⟨_, rfl, RN.keep ((Fr.refl nob wr).drewN _) (fun _ _ x => x.elim) (fun _ _ x => x) _ _ HY.out⟩, FW.out.drewN _⟩
        by_cases a6 : kd = 6
        · subst a6
          have hn := Lib.hid (show t.nd = .back nu by rw [HE.out]; simp [T.nd])
          go_wp2
          go_ret
          exact ⟨_, rfl, by rw [hn.out, RN]; rfl, FW.out⟩
        by_cases a7 : kd = 7
        · subst a7
          have hn := Lib.hid (show t.nd = .start by rw [HE.out]; simp [T.nd])
          go_wp2
          go_ret
          exact ⟨_, rfl, by rw [hn.out, RN]; rfl, FW.out⟩
        by_cases a8 : kd = 8
        · subst a8
          have hn := Lib.hid (show t.nd = .fin by rw [HE.out]; simp [T.nd])
          go_wp2
          go_ret
          exact ⟨_, rfl, by rw [hn.out, RN]; rfl, FW.out⟩
        · have hn := Lib.hid (show t.nd = .empty by rw [HE.out]; simp [T.nd, a1, a2, a3, a4, a5, a6, a7, a8])
          go_wp2
          go_ret
          exact ⟨_, rfl, by rw [hn.out, RN]; rfl, FW.out⟩

end Go.Proofs.YtmoeboknelnaoaaGreatDoor

/-
  Walks over the document's nodes: Size, Deep, Groups, Backs: as of the program's node.
-/
namespace Go.Proofs.YtmoeboknelnaoaaGreatDoor
open Go.RowKit

end Go.Proofs.YtmoeboknelnaoaaGreatDoor
