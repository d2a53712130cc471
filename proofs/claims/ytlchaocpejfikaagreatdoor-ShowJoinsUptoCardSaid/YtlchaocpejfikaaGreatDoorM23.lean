/-
  Merged texts of this claim: RefF, RefG, RefH.
-/
import Derived.Deep.RegionHeld3
import Derived.StillTailTactics
import Derived.Deep.DeepCutAuto
import Derived.Deep.CutBlock
import Derived.Test.YtlchaocpejfikaaGreatDoorM20
import Derived.Test.YtlchaocpejfikaaGreatDoorM22

/-
  Walks over the document's nodes: Same; right, Right.
-/
namespace Go.Proofs.YtlchaocpejfikaaGreatDoor
open Go.RowKit

/-- A kind's number. -/
def Nd.kd : Nd → Int
  | .nil => 0
  | .empty => 0
  | .one _ => 1
  | .cat _ => 2
  | .alt _ => 3
  | .rep _ _ _ => 4
  | .group _ _ => 5
  | .back _ => 6
  | .start => 7
  | .fin => 8

theorem T.known_kd {k : Int} {s : S4} {ps : List T} {mn mx nu : Int} (h : (T.mk k s ps mn mx nu).known = true) : (k = 0 ∨ k = 1 ∨ k = 2 ∨ k = 3 ∨ k = 4 ∨ k = 5 ∨ k = 6 ∨ k = 7 ∨ k = 8) ∧ T.knowns ps = true := by
  simp only [T.known, Bool.and_eq_true, Bool.not_eq_true', Bool.or_eq_false_iff, decide_eq_false_iff_not] at h
  exact ⟨by omega, h.2⟩
theorem T.kd_nd {k : Int} {s : S4} {ps : List T} {mn mx nu : Int} (h : (T.mk k s ps mn mx nu).known = true) : (T.mk k s ps mn mx nu).nd.kd = k := by
  rcases (T.known_kd h).1 with rfl | rfl | rfl | rfl | rfl | rfl | rfl | rfl | rfl <;> simp [T.nd, Nd.kd]
theorem T.known_kids {t : T} (h : t.known = true) : ∀ x ∈ t.kids, x.known = true := by
  obtain ⟨k, s, ps, mn, mx, nu⟩ := t
  have hp := (T.known_kd h).2
  intro x hx
  unfold T.kids at hx
  split at hx
  · exact T.knowns_mem hp hx
  · split at hx
    · simp only [List.mem_singleton] at hx
      subst hx
      cases ps with
      | nil => rfl
      | cons y r => exact T.knowns_mem hp (by simp [T.of, T.parts])
    · cases hx

/-- Two nodes of one kind: their own parts. -/
def headSame (k : Int) (s : S4) (mn mx nu : Int) (s' : S4) (mn' mx' nu' : Int) : Prop :=
  (k = 1 → s = s') ∧ (k = 4 → mn = mn' ∧ mx = mx') ∧ (k = 5 ∨ k = 6 → nu = nu')
theorem T.same_iff {k : Int} {s : S4} {ps : List T} {mn mx nu : Int} {s' : S4} {ps' : List T} {mn' mx' nu' : Int} (h : (T.mk k s ps mn mx nu).known = true) :
    (T.mk k s ps mn mx nu).nd = (T.mk k s' ps' mn' mx' nu').nd ↔ headSame k s mn mx nu s' mn' mx' nu' ∧ (T.mk k s ps mn mx nu).nd.kids = (T.mk k s' ps' mn' mx' nu').nd.kids := by
  rcases (T.known_kd h).1 with rfl | rfl | rfl | rfl | rfl | rfl | rfl | rfl | rfl <;> simp [T.nd, headSame, Nd.kids]
  · constructor
    · rintro ⟨a, b, c⟩; exact ⟨⟨b, c⟩, a⟩
    · rintro ⟨⟨b, c⟩, a⟩; exact ⟨a, b, c⟩
theorem T.same_kd {t t' : T} (h : t.known = true) (h' : t'.known = true) (e : t.nd = t'.nd) : t.kind = t'.kind := by
  obtain ⟨k, s, ps, mn, mx, nu⟩ := t
  obtain ⟨k', s', ps', mn', mx', nu'⟩ := t'
  have := congrArg Nd.kd e
  rwa [T.kd_nd h, T.kd_nd h'] at this

/-- Nine cells of a variable that holds a node. -/
abbrev C9 (w : World) (b : Nat) (v0 v1 v2 v3 v4 v5 v6 v7 v8 : Value) : Prop :=
  w.cell? ⟨b, 0, none⟩ = some v0 ∧ w.cell? ⟨b, 1, none⟩ = some v1 ∧ w.cell? ⟨b, 2, none⟩ = some v2 ∧ w.cell? ⟨b, 3, none⟩ = some v3 ∧ w.cell? ⟨b, 4, none⟩ = some v4 ∧ w.cell? ⟨b, 5, none⟩ = some v5 ∧ w.cell? ⟨b, 6, none⟩ = some v6 ∧ w.cell? ⟨b, 7, none⟩ = some v7 ∧ w.cell? ⟨b, 8, none⟩ = some v8
theorem C9.on {w w' : World} {b : Nat} {v0 v1 v2 v3 v4 v5 v6 v7 v8 : Value} (h : C9 w b v0 v1 v2 v3 v4 v5 v6 v7 v8) (f : Fr nob w w') : C9 w' b v0 v1 v2 v3 v4 v5 v6 v7 v8 := by
  obtain ⟨h0, h1, h2, h3, h4, h5, h6, h7, h8⟩ := h
  exact ⟨f.cell h0 (fun x => x), f.cell h1 (fun x => x), f.cell h2 (fun x => x), f.cell h3 (fun x => x), f.cell h4 (fun x => x), f.cell h5 (fun x => x), f.cell h6 (fun x => x), f.cell h7 (fun x => x), f.cell h8 (fun x => x)⟩
theorem C9.of {w : World} {b : Nat} {v0 v1 v2 v3 v4 v5 v6 v7 v8 : Value} {T : TypeId} {fr : Nat × Nat} (h : w.heap[b]? = some (.cells #[v0, v1, v2, v3, v4, v5, v6, v7, v8] T fr)) : C9 w b v0 v1 v2 v3 v4 v5 v6 v7 v8 :=
  ⟨cell_at h rfl, cell_at h rfl, cell_at h rfl, cell_at h rfl, cell_at h rfl, cell_at h rfl, cell_at h rfl, cell_at h rfl, cell_at h rfl⟩

theorem C9.two {w w' : World} {b : Nat} {v0 v1 v2 v3 v4 v5 v6 v7 v8 : Value} {c : Nat} {u0 u1 u2 u3 u4 u5 u6 u7 u8 : Value} (h : C9 w b v0 v1 v2 v3 v4 v5 v6 v7 v8 ∧ C9 w c u0 u1 u2 u3 u4 u5 u6 u7 u8) (f : Fr nob w w') :
    C9 w' b v0 v1 v2 v3 v4 v5 v6 v7 v8 ∧ C9 w' c u0 u1 u2 u3 u4 u5 u6 u7 u8 := ⟨C9.on h.1 f, C9.on h.2 f⟩

/-- Same's answer. -/
def SameT (a b : T) (w : World) (e : Ending) (w' : World) : Prop := ∃ r : Bool, e = .returned (.bool r) ∧ (r = true ↔ a.nd = b.nd) ∧ Fr nob w w'

/-- Two variables that hold nodes. -/
abbrev box2 (w : World) (X Y : List Value) : World := (w.alloc (.cells X.toArray 32)).alloc (.cells Y.toArray 32)

theorem box2_fr (w : World) (X Y : List Value) : Fr nob w (box2 w X Y) := ((Fr.refl _ _).alloc _).alloc _
theorem box2_a (w : World) (X Y : List Value) : (box2 w X Y).heap[w.heap.size]? = some (.cells X.toArray 32 (0, 0)) := heap_alloc_lt _ (heap_alloc_new _ _)
theorem box2_b (w : World) (X Y : List Value) : (box2 w X Y).heap[w.heap.size + 1]? = some (.cells Y.toArray 32 (0, 0)) := by
  have := heap_alloc_new (w.alloc (.cells X.toArray 32)) (.cells Y.toArray 32); simpa using this

end Go.Proofs.YtlchaocpejfikaaGreatDoor

/-
  Walks over the document's nodes: right, Right.
-/
namespace Go.Proofs.YtlchaocpejfikaaGreatDoor
open Go.RowKit

theorem SI.on {w w' : World} {l : List Int} {u : Value} (h : SI w l u) (f : Fr nob w w') : SI w' l u := by
  rcases h with h | ⟨g, off, cap, rfl, h⟩
  · exact .inl h
  · exact .inr ⟨g, off, cap, rfl, fun j x hj => f.cell (h j x hj) (fun x => x)⟩

/-- What right answers. -/
def RgtT (o : Int) (c : List Int) (t : T) (w : World) (e : Ending) (w' : World) : Prop := Fr nob w w' ∧
  ((t.nd.look o c = none ∧ e = .returned (.tuple #[.bool false, .int .i64 0, .slice none 0 0])) ∨ ∃ o' c' u, t.nd.look o c = some (o', c') ∧ e = .returned (.tuple #[.bool true, .int .i64 o', u]) ∧ SI w' c' u)

/-- May a node of this kind be a part of a Cat; of an Alt? -/
def badCat (k : Int) : Bool := decide (k = 3) || decide (k = 0) || decide (k = 2)
theorem T.plain_kd {t : T} (h : t.known = true) : (!t.nd.plain) = badCat t.kind := by
  obtain ⟨k, s, ps, mn, mx, nu⟩ := t
  rcases (T.known_kd h).1 with rfl | rfl | rfl | rfl | rfl | rfl | rfl | rfl | rfl <;> simp [T.nd, Nd.plain, badCat, T.kind]
theorem T.isAlt_kd {t : T} (h : t.known = true) : t.nd.isAlt = decide (t.kind = 3) := by
  obtain ⟨k, s, ps, mn, mx, nu⟩ := t
  rcases (T.known_kd h).1 with rfl | rfl | rfl | rfl | rfl | rfl | rfl | rfl | rfl <;> simp [T.nd, Nd.isAlt, T.kind]
theorem T.atom_kd {t : T} (h : t.known = true) : t.nd.atom = !(decide (t.kind = 0) || decide (t.kind = 7) || decide (t.kind = 8) || decide (t.kind = 2) || decide (t.kind = 3)) := by
  obtain ⟨k, s, ps, mn, mx, nu⟩ := t
  rcases (T.known_kd h).1 with rfl | rfl | rfl | rfl | rfl | rfl | rfl | rfl | rfl <;> simp [T.nd, Nd.atom, T.kind]

/-- Is a part wrong, in a Cat (2) or an Alt (3)? -/
def badIn (kd k : Int) : Bool := if kd = 2 then badCat k else decide (k = 3)
theorem T.shaped_list {kd : Int} {s : S4} {ps : List T} {mn mx nu o : Int} {c : List Int} (h : kd = 2 ∨ kd = 3) (hk : ∀ x ∈ ps, x.known = true) :
    ((T.mk kd s ps mn mx nu).nd.shaped o c) = (decide (1 < ps.length) && !ps.any (fun x => badIn kd x.kind), o) := by
  have h1 : (T.nds ps).any (fun n => !n.plain) = ps.any (fun x => badCat x.kind) := by
    rw [T.nds_eq, List.any_map]
    clear h
    induction ps with
    | nil => rfl
    | cons a r ih => simp only [List.any_cons, Function.comp, T.plain_kd (hk a (by simp)), ih (fun x hx => hk x (by simp [hx]))]
  have h2 : (T.nds ps).any Nd.isAlt = ps.any (fun x => decide (x.kind = 3)) := by
    rw [T.nds_eq, List.any_map]
    clear h h1
    induction ps with
    | nil => rfl
    | cons a r ih => simp only [List.any_cons, Function.comp, T.isAlt_kd (hk a (by simp)), ih (fun x hx => hk x (by simp [hx]))]
  rcases h with rfl | rfl
  · simp [T.nd, Nd.shaped, T.nds_length, h1, badIn]
  · simp [T.nd, Nd.shaped, T.nds_length, h2, badIn]

theorem T.shut_kd (kd : Int) (s : S4) (ps : List T) (mn mx nu : Int) (c : List Int) : (T.mk kd s ps mn mx nu).nd.shut c = if kd = 5 then c ++ [nu] else c := by
  simp only [T.nd]
  by_cases a1 : kd = 1
  · simp [a1, Nd.shut]
  by_cases a2 : kd = 2
  · simp [a2, Nd.shut]
  by_cases a3 : kd = 3
  · simp [a3, Nd.shut]
  by_cases a4 : kd = 4
  · simp [a4, Nd.shut]
  by_cases a5 : kd = 5
  · simp [a5, Nd.shut]
  by_cases a6 : kd = 6
  · simp [a6, Nd.shut]
  by_cases a7 : kd = 7
  · simp [a7, Nd.shut]
  by_cases a8 : kd = 8
  · simp [a8, Nd.shut]
  simp [a1, a2, a3, a4, a5, a6, a7, a8, Nd.shut]

set_option maxRecDepth 100000 in
/-- append onto a slice of the call's own, of integers, as a step of a region. -/
theorem step_append_si {ops : Array Oper} {o : Oper} {a : Act} {w : World} {K : Act → World → Prop} {Q : Exit → Act → World → Prop} {E : Prop}
    (hg : o.guard = none) (s x : Operand) (hop : o.op = Op.call { callee := Callee.builtin Builtin.append, args := #[s, x], argTypes := #[85, 85] })
    (l m : List Int) (v ux : Value) (hs : a.eval s = v) (hown : w.ownsRow 0 3 1 v l.length (l.map (Value.int .i64))) (hx : a.eval x = ux) (hm : SI w m ux) (hb : l.length + m.length ≤ 6000000)
    (hK : ∀ v' w', w'.ownsRow 0 3 1 v' (l ++ m).length ((l ++ m).map (Value.int .i64)) → Fr (fun k => v.ownBlock = some k) w w' → (∀ k, v'.ownBlock = some k → v.ownBlock = some k ∨ w.heap.size ≤ k) → K (a.put o.dst v') w') :
    if Region.wanted o (yielded ops a.tmps) = true then Oper.wp Tryz.prog o a w K Q else E := by
  obtain ⟨i0, hi, hz0, hz1, hz2⟩ := info_parts info_int
  rcases hm with ⟨rfl, rfl⟩ | ⟨q, off, cap, rfl, hc⟩
  · have hw : Region.wanted o (yielded ops a.tmps) = true := by simp [Region.wanted, hg]
    rw [if_pos hw]
    have hr := run_append_owned_none (P := Tryz.prog) (w := w) 0 85 o.type 3 i0 1 Tryz.underlying85 hi v l.length _ hown
    unfold Oper.wp execOp
    simp only [hop, resolve, invoke, builtin, Sem.run_bind, Sem.run_pure, Result.andThen_ok, List.map_toArray, List.map_cons, List.map_nil, hs, hx, hr]
    exact hK _ _ (by simpa using hown) (Fr.refl _ _) (fun k hk => .inl hk)
  · refine step_append_g hg s x _ hop 3 i0 (.int .i64 0) 1 8 Tryz.underlying85 hi hz0 hz1 hz2 rfl (by decide) v l.length _ hs hown ⟨q, off, none⟩ m.length cap (m.map (Value.int .i64)) hx (by simp) ?_ ?_ (by unfold maxLen; omega) (by omega) ?_
    · intro j u hj
      rw [List.getElem?_map] at hj
      cases hmj : m[j]? with
      | none => rw [hmj] at hj; cases hj
      | some y =>
        rw [hmj] at hj; injection hj with hj; subst hj
        have := hc j y hmj
        by_cases h0 : j = 0 <;> simpa [Addr.add, h0] using this
    · intro u hu
      obtain ⟨y, _, rfl⟩ := List.mem_map.1 hu
      rfl
    · intro v' w' hown' hap
      exact hK v' w' (by simpa using hown') hap.fr hap.old

theorem ownsRow_empty {w : World} {b : Nat} {e : TypeId} (h : w.heap[b]? = some (.cells #[] e (0, 0))) : w.ownsRow 0 e 1 (.slice (some ⟨b, 0, none⟩) 0 0) ([] : List Int).length (([] : List Int).map (Value.int .i64)) := by
  refine ⟨by simp, .inr ⟨b, 0, #[], rfl, Nat.zero_le _, h, by simp, by simp [maxLen], by simp, by simp⟩⟩

theorem SI.of_own {w : World} {l : List Int} {u : Value} (h : w.ownsRow 0 3 1 u l.length (l.map (Value.int .i64))) : SI w l u := by
  obtain ⟨_, h⟩ := h
  rcases h with ⟨rfl, h0⟩ | ⟨r, cap, cur, rfl, _, hr, hn, _, _, htake⟩
  · exact .inl ⟨rfl, List.length_eq_zero_iff.1 h0⟩
  · refine .inr ⟨r, 0, cap, rfl, fun j x hj => ?_⟩
    have : (l.map (Value.int .i64))[j]? = some (.int .i64 x) := by simp [hj]
    rw [← htake, List.getElem?_take] at this
    split at this
    · exact cell_at hr (by simpa using this)
    · cases this

theorem SI.one {w : World} {b : Nat} {x : Int} {e : TypeId} (h : w.heap[b]? = some (.cells #[.int .i64 x] e (0, 0))) : SI w [x] (.slice (some ⟨b, 0, none⟩) 1 1) := by
  refine .inr ⟨b, 0, 1, rfl, fun j y hj => ?_⟩
  match j, hj with
  | 0, hj => simp at hj; subst hj; exact cell_at h rfl

theorem own_new {v : Value} {b H B n c : Nat} (h : ∀ k, v.ownBlock = some k → (Value.slice (some ⟨b, 0, none⟩) n c).ownBlock = some k ∨ H ≤ k) (h1 : B ≤ b) (h2 : B ≤ H) : ∀ k, v.ownBlock = some k → B ≤ k := by
  intro k hk
  rcases h k hk with e | e
  · simp [Value.ownBlock] at e; omega
  · omega
theorem fr_new {wr W w3 : World} {b n c : Nat} (f : Fr nob wr W) (h : Fr (fun k => (Value.slice (some ⟨b, 0, none⟩) n c).ownBlock = some k) W w3) (hb : wr.heap.size ≤ b) : Fr nob wr w3 :=
  f.trans h (fun i hi e => by simp [Value.ownBlock] at e; omega)

/-- What is so at the switch's end. -/
def Swt (o : Int) (c : List Int) (t : T) (w1 : World) (s1 : Value) (wx : World) : Prop := ∃ o1, s1 = .int .i64 o1 ∧ t.nd.shaped o c = (true, o1) ∧ Fr nob w1 wx

set_option maxRecDepth 100000 in
set_option maxHeartbeats 4000000 in
theorem right_T (m : Nat) : ∀ (t : T) (cs : List Value) (w : World) (o : Int) (c : List Int) (u : Value), t.nd.size ≤ m → 0 ≤ o → o + t.nd.size ≤ 3000000 → c.length + t.nd.size ≤ 3000000 → t.known = true → RT nob w t cs → SI w c u →
    Calls Tryz.prog 40 #[.agg cs.toArray, .int .i64 o, u] w (RgtT o c t w) := by
  induction m with
  | zero => intro t cs w o c u h; have := t.nd.size_pos; omega
  | succ m ih =>
    intro t cs w o c u hm h0 ho hc hkn h hsi
    obtain ⟨kd, s, ps, mn, mx, nu, a, cp, ht, rfl, hs⟩ := h.open'
    obtain ⟨ua, uc, rfl⟩ := hsi.shape
    have IH := Lib.hid ih; have HT := Lib.hid h; have HE := Lib.hid ht; have HKN := Lib.hid hkn; have HSI := Lib.hid hsi; clear ih h hs ht hkn hsi
    have hpos := t.nd.size_pos
    have hkl : t.kids.length ≤ 3000000 := by have h1 := Nd.length_le t.nd.kids; have h2 := t.nd.size_kids; have h3 := t.kids_len; omega
    have hsk := Lib.hid t.nd.size_kids
    go_enter Tryz.func40, Tryz.ntmps40
    go_wp2_with fail
    refine (kids_T t _ _ (HT.out.on ((Fr.refl _ _).alloc _))).mono ?_
    rintro e w1 ⟨v, rfl, s1, f1⟩
    obtain ⟨a1, c1, rfl⟩ := s1.shape
    have hbx := f1.heap (heap_alloc_new _ _) (fun x => x)
    have S1 := Lib.hid s1; have HBX := Lib.hid hbx
    have F1 := Lib.hid (((Fr.refl nob w).alloc _).trans' f1)
    have d0 := cell_at (j := 0) hbx rfl
    have d6 := cell_at (j := 6) hbx rfl
    have d7 := cell_at (j := 7) hbx rfl
    have d8 := cell_at (j := 8) hbx rfl
    clear s1 f1 hbx
    go_upto_block 0 with (fail)
    go_cut [1] (Swt o c t w1)
    case first =>
      by_cases h23 : kd = 2 ∨ kd = 3
      · have hk23 : t.kids = ps := by rw [HE.out]; rcases h23 with rfl | rfl <;> simp [T.kids, T.kind, T.parts]
        have hshp : t.nd.shaped o c = (decide (1 < t.kids.length) && !t.kids.any (fun x => badIn kd x.kind), o) := by
          rw [hk23, HE.out]; exact T.shaped_list h23 (fun x hx => T.known_kids HKN.out x (by rw [hk23]; exact hx))
        have HSH := Lib.hid hshp
        clear hk23 hshp
        by_cases hl : t.kids.length < 2
        · have hno := Lib.hid (Nd.look_no (n := t.nd) (o := o) (c := c) (by rw [HSH.out]; simp; omega))
          clear HSH
          rcases h23 with rfl | rfl
          all_goals
            go_wp2
            go_ret3
            exact ⟨F1.out, .inl ⟨hno.out, rfl⟩⟩
        · have HKD := Lib.hid h23
          have hq : ((kd == 2) = true ∧ kd = 2) ∨ ((kd == 2) = false ∧ (kd == 3) = true ∧ kd = 3) := by rcases h23 with rfl | rfl <;> simp
          clear h23
          have hbad : ∀ (k : Nat) (hk : k < t.kids.length), badIn kd t.kids[k].kind = true → t.nd.look o c = none := fun k hk hb => by
            refine Nd.look_no ?_
            rw [HSH.out]
            have : t.kids.any (fun x => badIn kd x.kind) = true := List.any_eq_true.2 ⟨_, List.getElem_mem hk, hb⟩
            simp [this]
          have HBAD := Lib.hid hbad
          clear hbad
          rcases hq with ⟨hq2, he2⟩ | ⟨hq2, hq3, he3⟩
          · have HE2 := Lib.hid he2; clear he2
            go_wp2_with fail
            go_loop [30] (fun i => ∃ k : Nat, i = .int .i64 k ∧ k ≤ t.kids.length ∧ (t.kids.take k).any (fun x => badIn kd x.kind) = false) (fun i => t.kids.length - (intOf i).toNat)
            case atStart => exact ⟨0, rfl, Nat.zero_le _, rfl⟩
            case round =>
              obtain ⟨k, rfl, hk, hn⟩ := hrel
              have HN := Lib.hid hn; clear hn
              by_cases hlt : k < t.kids.length
              · obtain ⟨q, off, cap, cx, he, hx, hcx, hgs⟩ := S1.out.get hlt
                injection he with e1 e2 e3
                subst e1; subst e3
                have hts := Lib.hid (List.take_succ_eq_append_getElem hlt)
                have hb1 := Lib.hid (HBAD.out k hlt)
                obtain ⟨x, hxe⟩ : ∃ x, t.kids[k] = x := ⟨_, rfl⟩
                rw [hxe] at hx hts hb1
                obtain ⟨kx, sx, px, mnx, mxx, nux, ax, cxx, rfl, rfl, hxx⟩ := hx.open'
                obtain ⟨g0, _⟩ := hcx.nine
                clear hx hxx e2 hcx hxe
                by_cases k3 : kx = 3
                · subst k3
                  have HL := Lib.hid (hb1.out (by rw [HE2.out]; simp [badIn, badCat, T.kind]))
                  go_wp2
                  go_ret3
                  exact ⟨F1.out, .inl ⟨HL.out, rfl⟩⟩
                have k3' : (kx == 3) = false := by simpa using k3
                by_cases k0 : kx = 0
                · subst k0
                  have HL := Lib.hid (hb1.out (by rw [HE2.out]; simp [badIn, badCat, T.kind]))
                  go_wp2
                  go_ret3
                  exact ⟨F1.out, .inl ⟨HL.out, rfl⟩⟩
                have k0' : (kx == 0) = false := by simpa using k0
                by_cases k2 : kx = 2
                · subst k2
                  have HL := Lib.hid (hb1.out (by rw [HE2.out]; simp [badIn, badCat, T.kind]))
                  go_wp2
                  go_ret3
                  exact ⟨F1.out, .inl ⟨HL.out, rfl⟩⟩
                have k2' : (kx == 2) = false := by simpa using k2
                have HN2 := Lib.hid (show (t.kids.take (k + 1)).any (fun x => badIn kd x.kind) = false by rw [hts.out, List.any_append, HN.out, HE2.out]; simp [badIn, badCat, T.kind, k3, k0, k2])
                go_wp2
                go_round
                case rel => exact ⟨k + 1, by go_num, by omega, HN2.out⟩
                case measure => simp [intOf]; omega
              · obtain rfl : k = t.kids.length := by omega
                have hn := HN.out
                rw [List.take_of_length_le (Nat.le_refl _)] at hn
                have HSW := Lib.hid (show t.nd.shaped o c = (true, o) by rw [HSH.out, hn]; simp; omega)
                clear hn
                go_wp2
                go_meet
                exact ⟨o, rfl, HSW.out, Fr.refl _ _⟩
          · have HE3 := Lib.hid he3; clear he3
            go_wp2_with fail
            go_loop [30] (fun i => ∃ k : Nat, i = .int .i64 k ∧ k ≤ t.kids.length ∧ (t.kids.take k).any (fun x => badIn kd x.kind) = false) (fun i => t.kids.length - (intOf i).toNat)
            case atStart => exact ⟨0, rfl, Nat.zero_le _, rfl⟩
            case round =>
              obtain ⟨k, rfl, hk, hn⟩ := hrel
              have HN := Lib.hid hn; clear hn
              by_cases hlt : k < t.kids.length
              · obtain ⟨q, off, cap, cx, he, hx, hcx, hgs⟩ := S1.out.get hlt
                injection he with e1 e2 e3
                subst e1; subst e3
                have hts := Lib.hid (List.take_succ_eq_append_getElem hlt)
                have hb1 := Lib.hid (HBAD.out k hlt)
                obtain ⟨x, hxe⟩ : ∃ x, t.kids[k] = x := ⟨_, rfl⟩
                rw [hxe] at hx hts hb1
                obtain ⟨kx, sx, px, mnx, mxx, nux, ax, cxx, rfl, rfl, hxx⟩ := hx.open'
                obtain ⟨g0, _⟩ := hcx.nine
                clear hx hxx e2 hcx hxe
                by_cases k3 : kx = 3
                · subst k3
                  have HL := Lib.hid (hb1.out (by rw [HE3.out]; simp [badIn, badCat, T.kind]))
                  go_wp2
                  go_ret3
                  exact ⟨F1.out, .inl ⟨HL.out, rfl⟩⟩
                have k3' : (kx == 3) = false := by simpa using k3
                have HN2 := Lib.hid (show (t.kids.take (k + 1)).any (fun x => badIn kd x.kind) = false by rw [hts.out, List.any_append, HN.out, HE3.out]; simp [badIn, badCat, T.kind, k3])
                go_wp2
                go_round
                case rel => exact ⟨k + 1, by go_num, by omega, HN2.out⟩
                case measure => simp [intOf]; omega
              · obtain rfl : k = t.kids.length := by omega
                have hn := HN.out
                rw [List.take_of_length_le (Nat.le_refl _)] at hn
                have HSW := Lib.hid (show t.nd.shaped o c = (true, o) by rw [HSH.out, hn]; simp; omega)
                clear hn
                go_wp2
                go_meet
                exact ⟨o, rfl, HSW.out, Fr.refl _ _⟩
      have n2 : (kd == 2) = false := by simp; omega
      have n3 : (kd == 3) = false := by simp; omega
      clear h23
      by_cases h4 : kd = 4
      · have hk4 : t.kids = [t.of] := by rw [HE.out, h4]; simp [T.kids, T.kind]
        have hl1 : t.kids.length = 1 := by rw [hk4]; rfl
        have hof : T.nd1 ps = t.of.nd := by rw [HE.out]; cases ps <;> rfl
        have hkno := T.known_kids HKN.out t.of (by rw [hk4]; simp)
        have hshp : t.nd.shaped o c = (repOk (!(decide (t.of.kind = 0) || decide (t.of.kind = 7) || decide (t.of.kind = 8) || decide (t.of.kind = 2) || decide (t.of.kind = 3))) mn mx, o) := by
          rw [← T.atom_kd hkno, ← hof, HE.out, h4]; simp [T.nd, Nd.shaped]
        obtain ⟨q, off, cap, cx, he, hx, hcx, hgs⟩ := S1.out.get (k := 0) (by omega)
        injection he with e1 e2 e3
        subst e1; subst e3
        have hx0 : t.kids[0] = t.of := by simp [hk4]
        rw [hx0] at hx
        obtain ⟨x, hxe⟩ : ∃ x, t.of = x := ⟨_, rfl⟩
        rw [hxe] at hx hshp
        obtain ⟨kx, sx, px, mnx, mxx, nux, ax, cxx, rfl, rfl, hxx⟩ := hx.open'
        simp only [Nat.zero_mul, Nat.add_zero] at hcx
        obtain ⟨g0, _⟩ := hcx.nine
        have hshp' : t.nd.shaped o c = (repOk (!(decide (kx = 0) || decide (kx = 7) || decide (kx = 8) || decide (kx = 2) || decide (kx = 3))) mn mx, o) := hshp
        have HSH := Lib.hid hshp'
        have hno : repOk (!(decide (kx = 0) || decide (kx = 7) || decide (kx = 8) || decide (kx = 2) || decide (kx = 3))) mn mx = false → t.nd.look o c = none := fun h => Nd.look_no (by rw [HSH.out]; exact h)
        have HNO := Lib.hid hno
        have hl2 : 0 < t.kids.length := by omega
        have hl3 : (0 : Int) < t.kids.length := by omega
        have n4 : (kd == 4) = true := by simp [h4]
        clear hx hxx e2 hcx hxe hk4 hl1 hof hkno hshp hshp' hno hx0 h4
        by_cases m0 : mn < 0
        · have HL := Lib.hid (HNO.out (by simp [repOk, m0] <;> (intros; omega)))
          go_wp2
          go_ret3
          exact ⟨F1.out, .inl ⟨HL.out, rfl⟩⟩
        by_cases m1 : 255 < mn
        · have HL := Lib.hid (HNO.out (by simp [repOk, m1] <;> (intros; omega)))
          go_wp2
          go_ret3
          exact ⟨F1.out, .inl ⟨HL.out, rfl⟩⟩
        by_cases m2 : mx ≠ -1 ∧ mx < mn
        · obtain ⟨m2, m3⟩ := m2
          have HL := Lib.hid (HNO.out (by simp [repOk, m2, m3] <;> (intros; omega)))
          have m2' : (mx != -1) = true := by simpa using m2
          clear m2
          go_wp2
          go_ret3
          exact ⟨F1.out, .inl ⟨HL.out, rfl⟩⟩
        by_cases m4 : mx ≠ -1 ∧ 255 < mx
        · obtain ⟨m3, m4⟩ := m4
          have HL := Lib.hid (HNO.out (by simp [repOk, m3, m4] <;> (intros; omega)))
          have m2' : (mx != -1) = true := by simpa using m3
          have m5 : ¬ mx < mn := fun h => m2 ⟨m3, h⟩
          clear m2 m3
          go_wp2
          go_ret3
          exact ⟨F1.out, .inl ⟨HL.out, rfl⟩⟩
        have hmx : ((mx != -1) = false ∧ mx = -1) ∨ ((mx != -1) = true ∧ ¬ mx < mn ∧ ¬ 255 < mx) := by
          by_cases e : mx = -1
          · exact .inl (by simp [e])
          · exact .inr ⟨by simpa using e, fun h => m2 ⟨e, h⟩, fun h => m4 ⟨e, h⟩⟩
        clear m2 m4
        have hkx : kx = 0 ∨ ((kx == 0) = false ∧ kx = 7) ∨ ((kx == 0) = false ∧ (kx == 7) = false ∧ kx = 8) ∨ ((kx == 0) = false ∧ (kx == 7) = false ∧ (kx == 8) = false ∧ kx = 2) ∨ ((kx == 0) = false ∧ (kx == 7) = false ∧ (kx == 8) = false ∧ (kx == 2) = false ∧ kx = 3) ∨ ((kx == 0) = false ∧ (kx == 7) = false ∧ (kx == 8) = false ∧ (kx == 2) = false ∧ (kx == 3) = false) := by
          simp only [beq_eq_false_iff_ne]; omega
        rcases hkx with rfl | ⟨_, rfl⟩ | ⟨_, _, rfl⟩ | ⟨_, _, _, rfl⟩ | ⟨_, _, _, _, rfl⟩ | ⟨b1, b2, b3, b4, b5⟩
        rotate_left 5
        · have hgood : repOk (!(decide (kx = 0) || decide (kx = 7) || decide (kx = 8) || decide (kx = 2) || decide (kx = 3))) mn mx = true := by
            simp only [beq_eq_false_iff_ne] at b1 b2 b3 b4 b5
            have hb : (!(decide (kx = 0) || decide (kx = 7) || decide (kx = 8) || decide (kx = 2) || decide (kx = 3))) = true := by simp [b1, b2, b3, b4, b5]
            have g1 : 0 ≤ mn := by omega
            have g2 : mn ≤ 255 := by omega
            rw [hb]
            rcases hmx with ⟨_, e⟩ | ⟨_, e1, e2⟩
            · simp [repOk, g1, g2, e]
            · have g3 : mn ≤ mx := by omega
              have g4 : mx ≤ 255 := by omega
              simp [repOk, g1, g2, g3, g4]
          have HGD := Lib.hid (show t.nd.shaped o c = (true, o) by rw [HSH.out, hgood])
          clear hgood
          rcases hmx with ⟨e1, e2⟩ | ⟨e1, e2, e3⟩
          · clear e2
            go_wp2
            go_meet
            exact ⟨o, rfl, HGD.out, Fr.refl _ _⟩
          · go_wp2
            go_meet
            exact ⟨o, rfl, HGD.out, Fr.refl _ _⟩
        all_goals
          have HL := Lib.hid (HNO.out (by simp [repOk]))
          rcases hmx with ⟨e1, e2⟩ | ⟨e1, e2, e3⟩
          · clear e2
            go_wp2
            go_ret3
            exact ⟨F1.out, .inl ⟨HL.out, rfl⟩⟩
          · go_wp2
            go_ret3
            exact ⟨F1.out, .inl ⟨HL.out, rfl⟩⟩
      have n4 : (kd == 4) = false := by simpa using h4
      by_cases h5 : kd = 5
      · have hshp : t.nd.shaped o c = (nu == o + 1, o + 1) := by rw [HE.out, h5]; simp [T.nd, Nd.shaped]
        have n5 : (kd == 5) = true := by simpa using h5
        by_cases hnu : nu = o + 1
        · have HGD := Lib.hid (show t.nd.shaped o c = (true, o + 1) by rw [hshp, hnu]; simp)
          have hn5 : (nu != o + 1) = false := by simpa using hnu
          clear hshp hnu h5 h4
          go_wp2
          go_meet
          exact ⟨o + 1, rfl, HGD.out, Fr.refl _ _⟩
        · have HL := Lib.hid (Nd.look_no (n := t.nd) (o := o) (c := c) (by rw [hshp]; simpa using hnu))
          have hn5 : (nu != o + 1) = true := by simpa using hnu
          clear hshp h5 h4
          go_wp2
          go_ret3
          exact ⟨F1.out, .inl ⟨HL.out, rfl⟩⟩
      have n5 : (kd == 5) = false := by simpa using h5
      by_cases h6 : kd = 6
      · have hshp : t.nd.shaped o c = (c.contains nu, o) := by rw [HE.out, h6]; simp [T.nd, Nd.shaped]
        have HSH := Lib.hid hshp
        have n6 : (kd == 6) = true := by simpa using h6
        clear hshp h4 h5 h6
        go_wp2_with fail
        go_loopw [12, 124] (fun f i wr => ∃ k : Nat, i = .int .i64 k ∧ k ≤ c.length ∧ f = .bool ((c.take k).contains nu) ∧ Fr nob w1 wr) (fun _ i _ => c.length - (intOf i).toNat)
        case atStart => exact ⟨0, rfl, Nat.zero_le _, rfl, Fr.refl _ _⟩
        case round =>
          obtain ⟨k, rfl, hk, rfl, fr⟩ := hrel
          have FR := Lib.hid fr
          have d8' := fr.cell d8 (fun x => x)
          clear fr
          by_cases hlt : k < c.length
          · obtain ⟨q, off, cap, he, hcc⟩ := (HSI.out.on (F1.out.trans' FR.out)).get hlt
            injection he with e1 e2 e3
            subst e1; subst e3
            have hts := List.take_succ_eq_append_getElem hlt
            obtain ⟨y, hy⟩ : ∃ y, c[k] = y := ⟨_, rfl⟩
            rw [hy] at hcc hts
            have hcon : (c.take (k + 1)).contains nu = ((c.take k).contains nu || y == nu) := by
              rw [hts]; simp only [List.contains_eq_mem, List.mem_append, List.mem_singleton]
              rw [Bool.eq_iff_iff]; simp; constructor <;> (rintro (h | h) <;> simp [h])
            have HCON := Lib.hid hcon
            obtain ⟨p, hp⟩ : ∃ p, (c.take k).contains nu = p := ⟨_, rfl⟩
            rw [hp] at HCON ⊢
            have q1 : (0 : Int) ≤ k := by omega
            have q2 : (k : Int) < c.length := by omega
            clear hcon hts hy hp e2
            cases p with
            | true =>
              go_wp2
              go_quiet (fail)
              go_wp2
              go_roundw
              case rel => exact ⟨k + 1, by go_num, by omega, by rw [HCON.out]; rfl, FR.out.drewN _⟩
              case measure => simp [intOf]; omega
            | false =>
              by_cases hyn : y = nu
              · have hy1 : (y == nu) = true := by simpa using hyn
                have HY := Lib.hid hy1
                clear hyn
                go_wp2
                go_quiet (fail)
                go_wp2
                go_roundw
                case rel => exact ⟨k + 1, by go_num, by omega, by rw [HCON.out, HY.out]; rfl, FR.out.drewN _⟩
                case measure => simp [intOf]; omega
              · have hy1 : (y == nu) = false := by simpa using hyn
                have HY := Lib.hid hy1
                go_wp2
                go_quiet (fail)
                go_wp2
                go_roundw
                case rel => exact ⟨k + 1, by go_num, by omega, by rw [HCON.out, HY.out]; rfl, FR.out.drewN _⟩
                case measure => simp [intOf]; omega
          · obtain rfl : k = c.length := by omega
            have hT := List.take_of_length_le (l := c) (Nat.le_refl _)
            rw [hT]
            clear hT
            cases hcn : c.contains nu with
            | true =>
              have HGD := Lib.hid (show t.nd.shaped o c = (true, o) by rw [HSH.out, hcn])
              clear hcn
              go_wp2
              go_meet
              exact ⟨o, rfl, HGD.out, FR.out⟩
            | false =>
              have HL := Lib.hid (Nd.look_no (n := t.nd) (o := o) (c := c) (by rw [HSH.out]; exact hcn))
              clear hcn
              go_wp2
              go_ret3
              exact ⟨F1.out.trans' FR.out, .inl ⟨HL.out, rfl⟩⟩
      · have n6 : (kd == 6) = false := by simpa using h6
        have HGD := Lib.hid (show t.nd.shaped o c = (true, o) by
          have hk := HKN.out
          have e := HE.out
          rw [e] at hk ⊢
          simp only [beq_eq_false_iff_ne] at n2 n3 n4 n5 n6
          have h4 : kd = 0 ∨ kd = 1 ∨ kd = 7 ∨ kd = 8 := by have := (T.known_kd hk).1; omega
          clear e hk
          rcases h4 with rfl | rfl | rfl | rfl <;> simp [T.nd, Nd.shaped])
        clear h4 h5 h6
        go_wp2
        go_meet
        exact ⟨o, rfl, HGD.out, Fr.refl _ _⟩
    case rest =>
      obtain ⟨o1, rfl, hsh, fx⟩ := hcut
      have hE := Nd.look_yes (n := t.nd) (o := o) (c := c) (by rw [hsh])
      have hsl := Nd.shaped_le t.nd o c
      rw [hsh] at hE hsl
      obtain ⟨F, hF⟩ : ∃ F, Nd.looks t.nd.kids o1 c = F := ⟨_, rfl⟩
      simp only [hF] at hE
      have hsl' : o ≤ o1 ∧ o1 ≤ o + 1 := hsl
      have HE1 := Lib.hid hE; have HF := Lib.hid hF; have FX := Lib.hid fx; have HSH := Lib.hid hsh
      clear hE hF fx hsh hsl d0 d6 d7 d8
      go_wp2_with fail
      go_loopw [1, 2, 142] (fun s1 s2 i wr => ∃ (k : Nat) (ok : Int) (ck : List Int), i = .int .i64 k ∧ k ≤ t.kids.length ∧ s1 = .int .i64 ok ∧ Nd.looks (t.nd.kids.drop k) ok ck = F ∧ (o1 ≤ ok ∧ ok ≤ o1 + Nd.sizes (t.nd.kids.take k) ∧ ck.length ≤ c.length + Nd.sizes (t.nd.kids.take k)) ∧ SI wr ck s2 ∧ Fr nob wc wr) (fun _ _ i _ => t.kids.length - (intOf i).toNat)
      case atStart => exact ⟨0, o1, c, rfl, Nat.zero_le _, rfl, HF.out, ⟨Int.le_refl _, by simp [Nd.sizes], by simp [Nd.sizes]⟩, HSI.out.on (F1.out.trans' FX.out), Fr.refl _ _⟩
      case round =>
        obtain ⟨k, ok, ck, rfl, hk, rfl, hFk, hb, hsi, fr⟩ := hrel
        have hst := Nd.sizes_take_le t.nd.kids k
        have HRF := Lib.hid hFk; have HSK := Lib.hid hsi; have FR := Lib.hid fr; have HB := Lib.hid hb
        clear hFk hsi fr hb
        obtain ⟨uka, ukc, rfl⟩ := HSK.out.shape
        by_cases hlt : k < t.kids.length
        · obtain ⟨q, off, cap, cx, he, hx, hcx, hgs⟩ := (S1.out.on (FX.out.trans' FR.out)).get hlt
          injection he with e1 e2 e3
          subst e1; subst e3
          have hlt' : k < t.nd.kids.length := by have := t.kids_len; omega
          have hka := t.kid_at hlt hlt'
          have hst2 := Lib.hid (Nd.sizes_take hlt')
          have hst3 := Lib.hid (Nd.sizes_take_le t.nd.kids (k + 1))
          have hxs : t.kids[k].nd.size < t.nd.size := Nd.kid_lt (by rw [← hka]; exact List.getElem_mem hlt')
          have hxn := T.known_kids HKN.out _ (List.getElem_mem hlt)
          have hdr := List.drop_eq_getElem_cons hlt'
          rw [hka] at hst2 hdr
          have HDR := Lib.hid hdr
          obtain ⟨x, hxe⟩ : ∃ x, t.kids[k] = x := ⟨_, rfl⟩
          rw [hxe] at hx hxs hxn hst2 HDR
          obtain ⟨k', s', ps', mn', mx', nu', a', c', hx0, rfl, hxx⟩ := hx.open'
          obtain ⟨g0, g1, g2, g3, g4, g5, g6, g7, g8⟩ := hcx.nine
          have HX := Lib.hid hx; have HXN := Lib.hid hxn
          clear hx hxx hx0 e2 hcx hxe hka hlt' hdr hxn
          go_wp2_with fail
          refine (IH.out x _ _ ok ck _ (by omega) (by have := HB.out; omega) (by have := HB.out; have := hst2.out; have := hst3.out; have := hsk.out; omega) (by have := HB.out; have := hst2.out; have := hst3.out; have := hsk.out; omega) HXN.out HX.out HSK.out).mono ?_
          rintro e w3 ⟨f3, ⟨hl, rfl⟩ | ⟨o', c', u', hl, rfl, hsi'⟩⟩
          · have F3 := Lib.hid f3
            have HL := Lib.hid (show t.nd.look o c = none by rw [HE1.out, ← HRF.out, HDR.out, Nd.looks, hl])
            clear f3 hl
            go_wp2
            go_ret3
            exact ⟨(F1.out.trans' FX.out).trans' (FR.out.trans' F3.out), .inl ⟨HL.out, rfl⟩⟩
          · have hle := Nd.look_le _ _ _ _ _ hl
            have HNF := Lib.hid (show Nd.looks (t.nd.kids.drop (k + 1)) o' c' = F by rw [← HRF.out, HDR.out, Nd.looks, hl])
            have F3 := Lib.hid f3; have HSI3 := Lib.hid hsi'; have HLE := Lib.hid hle
            clear f3 hsi' hle hl
            go_wp2
            go_roundw
            case rel => exact ⟨k + 1, o', c', by go_num, by omega, rfl, HNF.out, by have := HB.out; have := hst2.out; have := HLE.out; omega, HSI3.out, FR.out.trans' F3.out⟩
            case measure => simp [intOf]; omega
        · obtain rfl : k = t.kids.length := by omega
          have hFF : F = some (ok, ck) := by rw [← HRF.out, ← t.kids_len, List.drop_length, Nd.looks]
          have hwr := (FX.out.trans' FR.out).heap HBX.out (fun x => x)
          have d0 := cell_at (j := 0) hwr rfl
          have d8 := cell_at (j := 8) hwr rfl
          have FW := Lib.hid ((F1.out.trans' FX.out).trans' FR.out)
          have HLK := Lib.hid (show t.nd.look o c = some (ok, t.nd.shut ck) by rw [HE1.out, hFF])
          clear hwr hFF
          by_cases h5 : kd = 5
          · have HSHUT := Lib.hid (show t.nd.shut ck = ck ++ [nu] by rw [HE.out, T.shut_kd, if_pos h5])
            have h5' : (kd == 5) = true := by simpa using h5
            clear h5
            have hcl : ck.length ≤ 3000000 := by have := HB.out; have := hsk.out; omega
            go_wp2_with fail
            go_region_held3 (fun w' => w'.cell? ⟨w.heap.size, 8, none⟩ = some (.int .i64 nu))
              ((refine Fr.cell (S := nob) (w := wr) ?_ d8 (fun x => x); (repeat (first | exact Fr.refl _ _ | exact FB.out | exact FA.out | apply Fr.alloc | apply Fr.drew))))
              (first
                | (refine step_append_si rfl (.tmp 164) (.tmp 165) rfl [] ck _ _ (by rfl) (ownsRow_empty (by first | exact heap_alloc_new' _ _ _ (by simp) | exact heap_alloc_lt _ (heap_alloc_new' _ _ _ (by simp)))) (by rfl) (HSK.out.on (by repeat (first | exact Fr.refl _ _ | apply Fr.alloc | apply Fr.drew))) (by first | (simp; done) | (simp; omega)) ?_; intro v3 w3 hown3 hf3 hold3; have HF3 := Lib.hid hf3; have FA := Lib.hid (fr_new (wr := wr) (by repeat (first | exact Fr.refl _ _ | apply Fr.alloc | apply Fr.drew)) hf3 (by simp)); have HOWN := Lib.hid hown3; have HOLD := Lib.hid (own_new (B := wr.heap.size) hold3 (by simp) (by first | (simp; done) | (simp; omega))); clear hown3 hf3 hold3)
                | (refine step_append_si rfl (.tmp 166) (.tmp 169) rfl ck [nu] _ _ (by rfl) (by first | exact HOWN.out | exact HOWN.out.alloc _) (by rfl) (SI.one (by first | exact heap_alloc_new' _ _ _ (by simp) | exact HF3.out.heap (heap_alloc_new' _ _ _ (by simp)) (by simp [Value.ownBlock]) | exact HF3.out.heap (heap_alloc_lt _ (heap_alloc_new' _ _ _ (by simp))) (by simp [Value.ownBlock]))) (by first | (simp; done) | (simp; omega)) ?_; intro v4 w4 hown4 hf4 hold4; have FB := Lib.hid (Fr.trans (S := nob) (a := wr) (by repeat (first | exact FA.out | apply Fr.alloc | apply Fr.drew)) hf4 (fun i hi e => by have := HOLD.out i e; omega)); have HOWN4 := Lib.hid hown4; clear hown4 hf4 hold4))
            all_goals
              go_wp2
              go_ret3
              exact ⟨FW.out.trans' FB.out, .inr ⟨ok, _, _, HLK.out, rfl, by rw [HSHUT.out]; exact SI.of_own HOWN4.out⟩⟩
          · have HSHUT := Lib.hid (show t.nd.shut ck = ck by rw [HE.out, T.shut_kd, if_neg h5])
            have h5' : (kd == 5) = false := by simpa using h5
            clear h5
            go_wp2
            go_ret3
            exact ⟨FW.out, .inr ⟨ok, _, _, HLK.out, rfl, by rw [HSHUT.out]; exact HSK.out⟩⟩

set_option maxRecDepth 100000 in
theorem right_ref (t : T) (cs : List Value) (w : World) (hn : t.nd.size ≤ 3000000) (hk : t.known = true) (h : RT nob w t cs) :
    Calls Tryz.prog 15 #[.agg cs.toArray] w fun e w' => e = .returned (.bool t.nd.right) ∧ Fr nob w w' := by
  obtain ⟨kd, s, ps, mn, mx, nu, a, cp, ht, rfl, hs⟩ := h.open'
  have HT := Lib.hid h; have HK := Lib.hid hk; clear h hs ht hk
  go_enter Tryz.func15, Tryz.ntmps15
  go_wp2_with fail
  refine (right_T t.nd.size t _ _ 0 [] _ (Nat.le_refl _) (by omega) (by omega) (by simpa using hn) HK.out (HT.out.on ((Fr.refl _ _).alloc _)) (.inl ⟨rfl, rfl⟩)).mono ?_
  rintro e w1 ⟨f1, ⟨hl, rfl⟩ | ⟨o', c', u', hl, rfl, hsi⟩⟩
  · have HL := Lib.hid (show t.nd.right = false by unfold Nd.right; rw [hl]; rfl)
    have F1 := Lib.hid f1; clear hl f1
    go_wp2
    go_ret
    exact ⟨ret_bool HL.out.symm, ((Fr.refl _ _).alloc _).trans' F1.out⟩
  · have HL := Lib.hid (show t.nd.right = true by unfold Nd.right; rw [hl]; rfl)
    obtain ⟨ua, uc, rfl⟩ := hsi.shape
    have F1 := Lib.hid f1; clear hl f1 hsi
    go_wp2
    go_ret
    exact ⟨ret_bool HL.out.symm, ((Fr.refl _ _).alloc _).trans' F1.out⟩

end Go.Proofs.YtlchaocpejfikaaGreatDoor

/-
  A call's own slice of the document's nodes, and append to it. Walks: list, Ref; Join, Choose of the document.
-/
namespace Go.Proofs.YtlchaocpejfikaaGreatDoor
open Go.RowKit

/-- Nodes' cells, one behind the other. -/
def VT (S : Nat → Prop) (w : World) : List T → List Value → Prop
  | [], vs => vs = []
  | t :: ts, vs => ∃ cs r, vs = cs ++ r ∧ cs.length = 9 ∧ RT S w t cs ∧ VT S w ts r

theorem RT.length {S : Nat → Prop} {w : World} {t : T} {cs : List Value} (h : RT S w t cs) : cs.length = 9 := by
  obtain ⟨k, s, ps, mn, mx, nu, a, c, _, rfl, _⟩ := h.open'; rfl
theorem VT.length {S : Nat → Prop} {w : World} : ∀ {l : List T} {vs : List Value}, VT S w l vs → vs.length = l.length * 9
  | [], _, h => by rw [VT] at h; subst h; rfl
  | t :: ts, _, h => by rw [VT] at h; obtain ⟨cs, r, rfl, hl, _, h⟩ := h; rw [List.length_append, hl, VT.length h, List.length_cons]; omega
theorem VT.append {S : Nat → Prop} {w : World} : ∀ {l m : List T} {vs us : List Value}, VT S w l vs → VT S w m us → VT S w (l ++ m) (vs ++ us)
  | [], _, _, _, h, k => by rw [VT] at h; subst h; exact k
  | t :: ts, _, _, _, h, k => by rw [VT] at h; obtain ⟨cs, r, rfl, hl, h1, h⟩ := h; exact ⟨cs, _, by rw [List.append_assoc], hl, h1, VT.append h k⟩
theorem VT.keep {S X S' : Nat → Prop} {w w' : World} (hf : Fr X w w') (hX : ∀ k, k < w.heap.size → X k → S k) (hS : ∀ k, k < w.heap.size → S' k → S k) : ∀ {l : List T} {vs : List Value}, VT S w l vs → VT S' w' l vs
  | [], _, h => by rw [VT] at h ⊢; exact h
  | t :: ts, _, h => by rw [VT] at h ⊢; obtain ⟨cs, r, rfl, hl, h1, h⟩ := h; exact ⟨cs, r, rfl, hl, RT.keep hf hX hS _ _ h1, VT.keep hf hX hS h⟩
theorem RT.cell1 {S : Nat → Prop} {w : World} {t : T} {cs : List Value} (h : RT S w t cs) : ∀ u ∈ cs, u.oneCell' = true := by
  obtain ⟨k, s, ps, mn, mx, nu, a, c, _, rfl, _⟩ := h.open'
  intro u hu
  simp only [List.mem_cons, List.not_mem_nil, or_false] at hu
  rcases hu with rfl | rfl | rfl | rfl | rfl | rfl | rfl | rfl | rfl <;> rfl
theorem VT.cell1 {S : Nat → Prop} {w : World} : ∀ {l : List T} {vs : List Value}, VT S w l vs → ∀ u ∈ vs, u.oneCell' = true
  | [], _, h, u, hu => by rw [VT] at h; subst h; cases hu
  | t :: ts, _, h, u, hu => by
    rw [VT] at h; obtain ⟨cs, r, rfl, hl, h1, h⟩ := h
    rcases List.mem_append.1 hu with hu | hu
    · exact h1.cell1 u hu
    · exact VT.cell1 h u hu

theorem At.left {w : World} {g off : Nat} {a b : List Value} (h : At w g off (a ++ b)) : At w g off a := fun j v hj => h j v (by
  rw [List.getElem?_append_left (List.getElem?_eq_some_iff.1 hj).1]; exact hj)
theorem At.right {w : World} {g off : Nat} {a b : List Value} (h : At w g off (a ++ b)) : At w g (off + a.length) b := fun j v hj => by
  have := h (a.length + j) v (by rw [List.getElem?_append_right (by omega)]; simpa using hj)
  rwa [show off + (a.length + j) = off + a.length + j by omega] at this
theorem At.join {w : World} {g off : Nat} {a b : List Value} (h : At w g off a) (k : At w g (off + a.length) b) : At w g off (a ++ b) := fun j v hj => by
  by_cases hl : j < a.length
  · rw [List.getElem?_append_left hl] at hj; exact h j v hj
  · rw [List.getElem?_append_right (by omega)] at hj
    have := k (j - a.length) v hj
    rwa [show off + a.length + (j - a.length) = off + j by omega] at this

theorem RTs.of {S : Nat → Prop} {w : World} {g : Nat} (hg : ¬ S g) (hs : g < w.heap.size) : ∀ {l : List T} {vs : List Value} {off : Nat}, VT S w l vs → At w g off vs → RTs S w l g off
  | [], _, _, _, _ => by rw [RTs]; trivial
  | t :: ts, _, off, h, ha => by
    rw [VT] at h; obtain ⟨cs, r, rfl, hl, h1, h⟩ := h
    have hr := ha.right
    rw [hl] at hr
    rw [RTs]; exact ⟨hg, hs, ⟨cs, h1, ha.left⟩, RTs.of hg hs h hr⟩
theorem RTs.vals {S : Nat → Prop} {w : World} {g : Nat} : ∀ {l : List T} {off : Nat}, RTs S w l g off → ∃ vs, VT S w l vs ∧ At w g off vs
  | [], _, _ => ⟨[], rfl, fun j v hj => by simp at hj⟩
  | t :: ts, off, h => by
    rw [RTs] at h; obtain ⟨_, _, ⟨cs, h1, h2⟩, h⟩ := h
    obtain ⟨vs, hv, ha⟩ := RTs.vals h
    have hl := h1.length
    exact ⟨cs ++ vs, ⟨cs, vs, rfl, hl, h1, hv⟩, At.join h2 (by rw [hl]; exact ha)⟩

/-- A slice of the call's own that holds the document's nodes. -/
theorem ST.of_own {S : Nat → Prop} {w : World} {l : List T} {u : Value} {vs : List Value} {e : TypeId} (h : w.ownsRow 0 e 9 u l.length vs) (hv : VT S w l vs) (hS : ∀ k, u.ownBlock = some k → ¬ S k) : ST S w l u := by
  obtain ⟨_, h⟩ := h
  rcases h with ⟨rfl, h0⟩ | ⟨g, cap, cur, rfl, _, hg, hn, _, _, htake⟩
  · exact .inl ⟨⟨none, 0, rfl⟩, List.length_eq_zero_iff.1 h0⟩
  · refine .inr ⟨g, 0, cap, rfl, hn, RTs.of (hS g rfl) (lt_heap hg) hv ?_⟩
    intro j v hj
    rw [← htake, List.getElem?_take] at hj
    split at hj
    · exact cell_at hg (by simpa using hj)
    · cases hj

/-- A call's own slice of the document's nodes, all of them outside S. -/
def OwnT (S : Nat → Prop) (w : World) (l : List T) (v : Value) (g : Option Nat) : Prop := ∃ vs, w.ownsRow 0 32 9 v l.length vs ∧ VT (LS2 S g) w l vs ∧ v.ownBlock = g ∧ ∀ k, g = some k → ¬ S k

theorem OwnT.nil (S : Nat → Prop) (w : World) : OwnT S w [] (.slice none 0 0) none := ⟨[], World.ownsRow_nil _ _ _ _, rfl, rfl, fun _ h => by cases h⟩
theorem OwnT.shape {S : Nat → Prop} {w : World} {l : List T} {v : Value} {g : Option Nat} (h : OwnT S w l v g) : ∃ a c, v = .slice a l.length c := by
  obtain ⟨vs, h1, _⟩ := h; exact ownsRow_slice h1
theorem OwnT.on {S : Nat → Prop} {w w' : World} {l : List T} {v : Value} {g : Option Nat} (h : OwnT S w l v g) (f : Fr nob w w') : OwnT S w' l v g := by
  obtain ⟨vs, h1, h2, h3, h4⟩ := h
  exact ⟨vs, ownsRow_fr h1 f (fun _ _ x => x), h2.keep f (fun _ _ x => x.elim) (fun _ _ x => x), h3, h4⟩
theorem OwnT.lt {S : Nat → Prop} {w : World} {l : List T} {v : Value} {g : Option Nat} (h : OwnT S w l v g) : ∀ k, g = some k → k < w.heap.size := by
  intro k hk
  obtain ⟨vs, hown, _, hg, _⟩ := h
  rcases hown.2 with ⟨rfl, _⟩ | ⟨r, cap, cur, rfl, _, hr, _⟩
  · rw [← hg] at hk; cases hk
  · rw [← hg] at hk; injection hk with hk; subst hk; exact lt_heap hr
theorem OwnT.st {S : Nat → Prop} {w : World} {l : List T} {v : Value} {g : Option Nat} (h : OwnT S w l v g) : ST S w l v := by
  obtain ⟨vs, h1, h2, h3, h4⟩ := h
  exact ST.of_own h1 (h2.keep (S' := S) (Fr.refl nob w) (fun _ _ x => x.elim) (fun _ _ x => .inl x)) (fun k hk => h4 k (by rw [← h3, hk]))

theorem info_T : (Tryz.prog.info? 32).map (fun i => (i.zero, i.size, i.bytes)) = some (some (.agg #[.int .i64 0, .int .u64 0, .int .u64 0, .int .u64 0, .int .u64 0, .slice none 0 0, .int .i64 0, .int .i64 0, .int .i64 0]), 9, 88) := by kernel_rfl

theorem run_append_zero {P : Program} {w : World} (base : Nat) (t ty e : TypeId) (i : TypeInfo) (size : Nat) (ht : P.underlying t = some (.slice e)) (hi : P.info? e = some i)
    (v : Value) (n : Nat) (xs : List Value) (hown : w.ownsRow base e size v n xs) (a : Option Addr) (c : Nat) :
    (Builtin.append_ #[t, t] ty #[v, .slice a 0 c]).run P w = .ok v w := by
  rcases hown.2 with ⟨rfl, rfl⟩ | ⟨g, cap, cur, rfl, _, _, hnc, _⟩
  · cases a <;> simp [Builtin.append_, run_underlying ht, sizeOf, typeInfo, hi, Builtin.lenOf, Builtin.firstCells, loadCells, loadCellsFrom]
  · cases a <;> simp [Builtin.append_, run_underlying ht, sizeOf, typeInfo, hi, Builtin.lenOf, Builtin.firstCells, hnc, storeCells, loadCells, loadCellsFrom]

theorem wpList_append_t {S : Nat → Prop} {w : World} {ops : Array Oper} {rest : List Oper} {o : Oper} {a : Act} {Q : Exit → Act → World → Prop} (hgd : o.guard = none) (s x : Operand)
    (ho : o.op = .call { callee := .builtin .append, args := #[s, x], argTypes := #[30, 30] })
    (l m : List T) (v ux : Value) (g : Option Nat) (hs : a.eval s = v) (hown : OwnT S w l v g) (hx : a.eval x = ux) (hm : ST (LS2 S g) w m ux) (hS : ∀ k, S k → k < w.heap.size) (hb : l.length + m.length ≤ 3000000)
    (h : ∀ v' w' g', OwnT S w' (l ++ m) v' g' → Fr (fun k => g = some k) w w' → (∀ k, g' = some k → g = some k ∨ w.heap.size ≤ k) → wpList Tryz.prog ops Q rest (a.put o.dst v') w') : wpList Tryz.prog ops Q (o :: rest) a w := by
  obtain ⟨i0, hi, hz0, hz1, hz2⟩ := info_parts info_T
  obtain ⟨vs, h1, h2, h3, h4⟩ := hown
  rcases hm with ⟨⟨ax, cx, rfl⟩, rfl⟩ | ⟨q, off, cap, rfl, _, hm⟩
  · refine wpList_plain hgd fun K hK => ?_
    have hr := run_append_zero (P := Tryz.prog) (w := w) 0 30 o.type 32 i0 9 Tryz.underlying30 hi v l.length vs h1 ax cx
    unfold Oper.wp execOp
    simp only [ho, resolve, invoke, builtin, Sem.run_bind, Sem.run_pure, Result.andThen_ok, List.map_toArray, List.map_cons, List.map_nil, hs, hx, hr]
    exact hK _ _ (h v w g (by rw [List.append_nil]; exact ⟨vs, h1, h2, h3, h4⟩) (Fr.refl _ _) (fun k hk => .inl hk))
  · obtain ⟨us, hu, ha⟩ := RTs.vals hm
    have hul := hu.length
    refine wpList_append_g hgd s x _ ho 32 i0 _ 9 88 Tryz.underlying30 hi hz0 hz1 hz2 rfl (by decide) v l.length vs hs h1 ⟨q, off, none⟩ m.length cap us hx (by omega) (fun j u hj => by have := ha j u hj; by_cases hj0 : j = 0 <;> simpa [Addr.add, hj0] using this) hu.cell1 (by unfold maxLen; omega) (by omega) ?_
    intro v' w' hown' hap
    have hold : ∀ k, v'.ownBlock = some k → g = some k ∨ w.heap.size ≤ k := fun k hk => by
      rcases hap.old k hk with h | h
      · exact .inl (by rw [← h3, h])
      · exact .inr h
    have hfr : Fr (fun k => g = some k) w w' := hap.fr.mono fun k _ hk => by rw [← h3, hk]
    refine h v' w' v'.ownBlock ⟨vs ++ us, by simpa using hown', (VT.append h2 hu).keep hfr (fun _ _ x => .inr x) ?_, rfl, ?_⟩ hfr hold
    · intro k hk x
      rcases x with x | x
      · exact .inl x
      · rcases hold k x with e | e
        · exact .inr e
        · omega
    · intro k hk hsk
      rcases hold k hk with e | e
      · exact h4 k e hsk
      · have := hS k hsk; omega

mutual
/-- The program's node as the document's. -/
def Nd.rf : Nd → T
  | .nil => T.zero
  | .empty => T.zero
  | .one s => .mk 1 s [] 0 0 0
  | .cat l => .mk 2 S4.zero (Nd.rfs l) 0 0 0
  | .alt l => .mk 3 S4.zero (Nd.rfs l) 0 0 0
  | .rep x mn mx => .mk 4 S4.zero [x.rf] mn mx 0
  | .group n x => .mk 5 S4.zero [x.rf] 0 0 n
  | .back n => .mk 6 S4.zero [] 0 0 n
  | .start => .mk 7 S4.zero [] 0 0 0
  | .fin => .mk 8 S4.zero [] 0 0 0
def Nd.rfs : List Nd → List T
  | [] => []
  | t :: ts => t.rf :: Nd.rfs ts
end
theorem Nd.rfs_eq (l : List Nd) : Nd.rfs l = l.map Nd.rf := by
  induction l with
  | nil => rfl
  | cons t ts ih => simp only [Nd.rfs, List.map_cons, ih]
mutual
theorem Nd.rf_nd : ∀ n : Nd, n.rf.nd = n.norm
  | .nil | .empty | .one _ | .back _ | .start | .fin => by simp [Nd.rf, T.zero, T.nd, Nd.norm]
  | .cat l => by simp [Nd.rf, T.nd, Nd.norm, Nd.rfs_nd l]
  | .alt l => by simp [Nd.rf, T.nd, Nd.norm, Nd.rfs_nd l]
  | .rep x _ _ => by simp [Nd.rf, T.nd, Nd.norm, T.nd1, Nd.rf_nd x]
  | .group _ x => by simp [Nd.rf, T.nd, Nd.norm, T.nd1, Nd.rf_nd x]
theorem Nd.rfs_nd : ∀ l : List Nd, T.nds (Nd.rfs l) = Nd.norms l
  | [] => rfl
  | t :: ts => by simp only [Nd.rfs, T.nds, Nd.norms, Nd.rf_nd t, Nd.rfs_nd ts]
end
mutual
theorem Nd.rf_known : ∀ n : Nd, n.rf.known = true
  | .nil | .empty | .one _ | .back _ | .start | .fin => by simp [Nd.rf, T.zero, T.known, T.knowns]
  | .cat l => by simp [Nd.rf, T.known, Nd.rfs_known l]
  | .alt l => by simp [Nd.rf, T.known, Nd.rfs_known l]
  | .rep x _ _ => by simp [Nd.rf, T.known, T.knowns, Nd.rf_known x]
  | .group _ x => by simp [Nd.rf, T.known, T.knowns, Nd.rf_known x]
theorem Nd.rfs_known : ∀ l : List Nd, T.knowns (Nd.rfs l) = true
  | [] => rfl
  | t :: ts => by simp only [Nd.rfs, T.knowns, Nd.rf_known t, Nd.rfs_known ts, Bool.and_self]
end
mutual
theorem Nd.norm_size : ∀ n : Nd, n.norm.size = n.size
  | .nil | .empty | .one _ | .back _ | .start | .fin => by simp [Nd.norm, Nd.size]
  | .cat l => by simp [Nd.norm, Nd.size, Nd.norms_size l]
  | .alt l => by simp [Nd.norm, Nd.size, Nd.norms_size l]
  | .rep x _ _ => by simp [Nd.norm, Nd.size, Nd.norm_size x]
  | .group _ x => by simp [Nd.norm, Nd.size, Nd.norm_size x]
theorem Nd.norms_size : ∀ l : List Nd, Nd.sizes (Nd.norms l) = Nd.sizes l
  | [] => rfl
  | t :: ts => by simp only [Nd.norms, Nd.sizes, Nd.norm_size t, Nd.norms_size ts]
end
theorem Nd.rfs_take {l : List Nd} {k : Nat} (h : k < l.length) : Nd.rfs (l.take (k + 1)) = Nd.rfs (l.take k) ++ [l[k].rf] := by
  simp only [Nd.rfs_eq]; rw [List.take_succ_eq_append_getElem h, List.map_append]; rfl
theorem Nd.rfs_length (l : List Nd) : (Nd.rfs l).length = l.length := by rw [Nd.rfs_eq, List.length_map]

end Go.Proofs.YtlchaocpejfikaaGreatDoor
