/-
  Merged texts of this claim: TreeE, TreeF, TreeG, TreeH, TreeI, RefA.
-/
import Derived.Laws.OwnMore
import Derived.Test.YtlchaocpejfikaaGreatDoorM03
import Derived.Test.YtlchaocpejfikaaGreatDoorM17

/-
  Walks of package tree: (*looker).right by recursion; Right.
-/
namespace Go.Proofs.YtlchaocpejfikaaGreatDoor
open Go.RowKit

/-- append, grown or not, as one step of a region that draws. -/
theorem step_append_g {P : Program} {ops : Array Oper} {o : Oper} {a : Act} {w : World} {K : Act → World → Prop} {Q : Exit → Act → World → Prop} {E : Prop}
    (hg : o.guard = none) (s x : Operand) (t : TypeId) (hop : o.op = Op.call { callee := Callee.builtin Builtin.append, args := #[s, x], argTypes := #[t, t] })
    (e : TypeId) (i : TypeInfo) (z : Value) (size bytes : Nat) (ht : P.underlying t = some (.slice e)) (hi : P.info? e = some i) (hz : i.zero = some z)
    (hsize : i.size = size) (hby : i.bytes = bytes) (hzs : z.cells.size = size) (hsz : 0 < size)
    (v : Value) (n : Nat) (xs : List Value) (hs : a.eval s = v) (hown : w.ownsRow 0 e size v n xs)
    (ad : Addr) (m c : Nat) (news : List Value) (hx : a.eval x = .slice (some ad) m c) (hl : news.length = m * size) (hnews : ∀ j u, news[j]? = some u → w.cell? (ad.add j) = some u) (h1 : ∀ u ∈ news, u.oneCell' = true)
    (h63 : n + m ≤ maxLen) (hbytes : (n + m) * bytes ≤ 140737488355328)
    (hK : ∀ v' w', w'.ownsRow 0 e size v' (n + m) (xs ++ news) → Appd m v v' w w' → K (a.put o.dst v') w') :
    if Region.wanted o (yielded ops a.tmps) = true then Oper.wp P o a w K Q else E := by
  have hw : Region.wanted o (yielded ops a.tmps) = true := by simp [Region.wanted, hg]
  rw [if_pos hw]
  obtain ⟨v', w', hr, h2, h3⟩ := run_append_g (P := P) w t o.type e i z size bytes ht hi hz hsize hby hzs hsz v n xs hown ad m c news hl hnews h1 h63 hbytes
  unfold Oper.wp execOp
  simp only [hop, resolve, invoke, builtin, Sem.run_bind, Sem.run_pure, Result.andThen_ok, List.map_toArray, List.map_cons, List.map_nil, hs, hx, hr]
  exact hK _ _ h2 h3

theorem info_int : (Tryz.prog.info? 3).map (fun i => (i.zero, i.size, i.bytes)) = some (some (.int .i64 0), 1, 8) := by kernel_rfl

/-- The blocks that a looker has for its own. -/
def LS (b : Nat) (g : Option Nat) : Nat → Prop := fun k => k = b ∨ g = some k

theorem Lk.ls {b : Nat} {o : Int} {c : List Int} {g : Option Nat} {w : World} (h : Lk b o c g w) : ∀ k, LS b g k → k < w.heap.size := by
  intro k hk
  rcases hk with rfl | hk
  · exact h.lt
  · obtain ⟨u, _, hown, hg, _⟩ := h
    rcases hown.2 with ⟨rfl, _⟩ | ⟨r, cap, cur, rfl, _, hr, _⟩
    · rw [hk] at hg; cases hg
    · rw [hk] at hg; injection hg with hg; subst hg; exact lt_heap hr

section
variable {b : Nat} {o : Int} {c : List Int} {g : Option Nat} {w W0 w3 : World} {v v' : Value} {gn : Int}
theorem push_cells (hbk : w.heap[b]? = some (.cells #[.int .i64 o, v] 121 (0, 0))) (hg : v.ownBlock = g) (hne : g ≠ some b) (f : Fr nob w W0) (hap : Appd 1 v v' W0 w3) :
    w3.heap[b]? = some (.cells #[.int .i64 o, v] 121 (0, 0)) ∧ w3.cell? ⟨b, 1, none⟩ = some v ∧ w3.frozen? ⟨b, 1, none⟩ = false := by
  have h := hap.fr.heap (f.heap hbk (fun x => x)) (fun e => hne (by rw [← hg, e]))
  exact ⟨h, cell_at h rfl, unfrozen_at h 1⟩
theorem Lk.push (hbk : w.heap[b]? = some (.cells #[.int .i64 o, v] 121 (0, 0))) (hg : v.ownBlock = g) (hne : g ≠ some b) (f : Fr nob w W0) (hap : Appd 1 v v' W0 w3)
    (hown : w3.ownsRow 0 3 1 v' (c.length + 1) (c.map (Value.int .i64) ++ [.int .i64 gn])) :
    Lk b o (c ++ [gn]) v'.ownBlock (w3.setCell ⟨b, 1, none⟩ v') ∧ (∀ j, v'.ownBlock = some j → g = some j ∨ w.heap.size ≤ j) ∧ Fr (LS b g) w (w3.setCell ⟨b, 1, none⟩ v') := by
  obtain ⟨h3, _⟩ := push_cells hbk hg hne f hap
  have hlt := lt_heap hbk
  have hsz := f.size
  have hold : ∀ j, v'.ownBlock = some j → g = some j ∨ w.heap.size ≤ j := by
    intro j hj
    rcases hap.old j hj with h | h
    · exact .inl (by rw [← hg, h])
    · exact .inr (by omega)
  have hne' : v'.ownBlock ≠ some b := by
    intro e
    rcases hold b e with h | h
    · exact hne h
    · omega
  refine ⟨⟨v', by have := heap_setCell_at h3 1 v'; simpa using this, ?_, rfl, hne'⟩, hold, ?_⟩
  · have := ownsRow_fr hown ((Fr.refl (fun k => k = b) w3).setCell (p := ⟨b, 1, none⟩) (fun _ => rfl) v') (fun k hk e => hne' (by rw [hk, e]))
    simpa using this
  · exact (f.any.trans (hap.fr.mono (T := LS b g) fun k _ hk => .inr (by rw [← hg, hk])) (fun _ _ x => x)).setCell (p := ⟨b, 1, none⟩) (fun _ => .inl rfl) v'
end

/-- What 'right' leaves. -/
def Rgt (b : Nat) (o : Int) (c : List Int) (g : Option Nat) (n : Nd) (w : World) (e : Ending) (w' : World) : Prop :=
  e = .returned (.bool (n.look o c).isSome) ∧ Fr (LS b g) w w' ∧ ∀ o' c', n.look o c = some (o', c') → ∃ g', Lk b o' c' g' w' ∧ ∀ k, g' = some k → g = some k ∨ w.heap.size ≤ k

theorem LS.late {b : Nat} {g g' : Option Nat} {w : World} (h : ∀ k, g' = some k → g = some k ∨ w.heap.size ≤ k) : ∀ k, k < w.heap.size → LS b g' k → LS b g k := by
  intro k hk hl
  rcases hl with rfl | hl
  · exact .inl rfl
  · rcases h k hl with h | h
    · exact .inr h
    · omega

set_option maxRecDepth 100000 in
set_option maxHeartbeats 1000000 in
theorem right_any (m : Nat) : ∀ (n : Nd) (v : Value) (w : World) (b : Nat) (o : Int) (c : List Int) (g : Option Nat), n.size ≤ m → 0 ≤ o → o + n.size ≤ 3000000 → c.length + n.size ≤ 3000000 → Lk b o c g w → RN (LS b g) w n v →
    Calls Tryz.prog 58 #[.pointer (some ⟨b, 0, none⟩), v] w (Rgt b o c g n w) := by
  induction m with
  | zero => intro n v w b o c g h; have := n.size_pos; omega
  | succ m ih =>
    intro n v w b o c g hm h0 ho hc hL h
    have IH := Lib.hid ih; clear ih
    have hsk := Lib.hid n.size_kids
    have hlk := Nd.length_le n.kids
    have hkl : n.kids.length ≤ 3000000 := by have := hsk.out; omega
    have hpos := n.size_pos
    go_enter Tryz.func58, Tryz.ntmps58
    go_wp2_with fail
    refine (shaped_any b o c g n v w hL (by omega) h0 (by omega) (by omega) h.weak).mono ?_
    rintro e w1 ⟨rfl, L1, f1⟩
    cases hq : (n.shaped o c).1 with
    | false =>
      have hE := Nd.look_no hq
      go_wp2
      go_ret
      unfold Rgt
      rw [hE]
      exact ⟨rfl, f1.mono (fun k _ hk => .inl hk), fun _ _ h => by cases h⟩
    | true =>
      have hE := Nd.look_yes hq
      have hsl := Nd.shaped_le n o c
      obtain ⟨o1, ho1⟩ : ∃ o1, (n.shaped o c).2 = o1 := ⟨_, rfl⟩
      rw [ho1] at hE hsl L1
      have hot : (n.shaped o c).2 = o1 := ho1
      have HN1 := RN.keep f1 (S := LS b g) (S' := LS b g) (fun k _ hk => .inl hk) (fun _ _ x => x) n v h
      have hls := L1.ls
      have HV := Lib.hid h.tyv
      have HK := Lib.hid h.kind
      clear h hL ho1 hot
      go_wp2_with fail
      refine (kids_any (LS b g) n v w1 HN1 hls).mono ?_
      rintro e w2 ⟨u, rfl, s2, f2⟩
      obtain ⟨a, cp, rfl⟩ := s2.shape
      obtain ⟨F, hF⟩ : ∃ F, Nd.looks n.kids o1 c = F := ⟨_, rfl⟩
      rw [hF] at hE
      have L2 := Lib.hid (L1.on f2); have S2 := Lib.hid s2; have F2 := Lib.hid f2; have F1 := Lib.hid f1; have HE := Lib.hid hE; have HF := Lib.hid hF
      clear L1 s2 f2 f1 hE hF HN1 hls hlk hq
      go_wp2_with fail
      go_loopw [16] (fun i wr => ∃ (k : Nat) (ok : Int) (ck : List Int) (gk : Option Nat), i = .int .i64 k ∧ k ≤ n.kids.length ∧ Nd.looks (n.kids.drop k) ok ck = F ∧ (o1 ≤ ok ∧ ok ≤ o1 + Nd.sizes (n.kids.take k) ∧ ck.length ≤ c.length + Nd.sizes (n.kids.take k)) ∧
        Lk b ok ck gk wr ∧ SN (LS b gk) wr n.kids (.slice a n.kids.length cp) ∧ Fr (LS b g) w2 wr ∧ (∀ j, gk = some j → g = some j ∨ w2.heap.size ≤ j)) (fun i _ => n.kids.length - (intOf i).toNat)
      case atStart => exact ⟨0, o1, c, g, rfl, Nat.zero_le _, HF.out, ⟨Int.le_refl _, by simp [Nd.sizes], by simp [Nd.sizes]⟩, L2.out, S2.out, Fr.refl _ _, fun j hj => .inl hj⟩
      case round =>
        obtain ⟨k, ok, ck, gk, rfl, hk, hF, hb, lk, sn, fr, hg⟩ := hrel
        have hst := Nd.sizes_take_le n.kids k
        have HRF := Lib.hid hF; have HLK := Lib.hid lk; have HSN := Lib.hid sn; have HFR := Lib.hid fr; have HG := Lib.hid hg; have HB := Lib.hid hb
        clear hF lk sn fr hg hb
        by_cases hlt : k < n.kids.length
        · obtain ⟨q, off, cap, x, he, hx, hc⟩ := HSN.out.get hlt
          injection he with e1 e2 e3
          subst e1; subst e3
          have hst2 := Lib.hid (Nd.sizes_take hlt)
          have hst3 := Lib.hid (Nd.sizes_take_le n.kids (k + 1))
          have hxs : n.kids[k].size < n.size := Nd.kid_lt (List.getElem_mem hlt)
          have HX := Lib.hid hx; clear hx e2
          have hdr := Lib.hid (List.drop_eq_getElem_cons hlt)
          go_wp2_with fail
          refine (IH.out n.kids[k] x _ b ok ck gk (by omega) (by have := HB.out; omega) (by have := HB.out; have := hst2.out; have := hst3.out; have := hsk.out; omega) (by have := HB.out; have := hst2.out; have := hst3.out; have := hsk.out; omega) HLK.out HX.out).mono ?_
          rintro e w3 ⟨rfl, f3, hlook⟩
          have F3 := Lib.hid f3; clear f3
          cases hq : n.kids[k].look ok ck with
          | none =>
            obtain rfl : F = none := by rw [← HRF.out, hdr.out, Nd.looks, hq]
            clear hq hlook
            go_wp2
            go_ret
            unfold Rgt
            rw [HE.out]
            exact ⟨rfl, ((F1.out.mono (T := LS b g) (fun k _ hk => .inl hk)).trans' F2.out.any).trans' (HFR.out.trans F3.out (LS.late HG.out)), fun _ _ h => by cases h⟩
          | some p =>
            obtain ⟨o', c'⟩ := p
            obtain ⟨g', l', hg'⟩ := hlook o' c' hq
            have hle := Nd.look_le _ _ _ _ _ hq
            have HNF := Lib.hid (show Nd.looks (n.kids.drop (k + 1)) o' c' = F by rw [← HRF.out, hdr.out, Nd.looks, hq])
            have HL' := Lib.hid l'; have HG' := Lib.hid hg'; have HLE := Lib.hid hle
            clear hlook l' hg' hle hq
            go_wp2
            go_roundw
            case rel => exact ⟨k + 1, o', c', g', by go_num, by omega, HNF.out, by have := HB.out; have := hst2.out; have := HLE.out; omega, HL'.out, HSN.out.keep F3.out (fun _ _ x => x) (LS.late HG'.out), HFR.out.trans F3.out (LS.late HG.out), fun j hj => by
              rcases HG'.out j hj with h | h
              · exact HG.out j h
              · have := HFR.out.size; exact .inr (by omega)⟩
            case measure => simp [intOf]; omega
        · obtain rfl : k = n.kids.length := by omega
          obtain rfl : F = some (ok, ck) := by rw [← HRF.out, List.drop_length, Nd.looks]
          by_cases hgr : ∃ gn x, n = .group gn x
          · obtain ⟨gn, y, rfl⟩ := hgr
            obtain ⟨uy, rfl, hy⟩ := HK.out
            have hysh := hy.shape
            obtain ⟨i0, hi, hz0, hz1, hz2⟩ := info_parts info_int
            obtain ⟨uc, hbk, hown, hug, hne⟩ := HLK.out
            obtain ⟨ac, cc, rfl⟩ := ownsRow_slice hown
            have hcl : ck.length ≤ 3000000 := by have := HB.out; have := hsk.out; omega
            have hbl := lt_heap hbk
            have c1 := fun X => cell_at (j := 1) ((((Fr.refl nob wr).alloc X).drew).heap hbk (fun x => x)) rfl
            clear hy
            rcases hysh with rfl | ⟨iu, xu, rfl⟩
            all_goals
              go_wp2_with fail

              have c0 : wr.cell? ⟨b, 1, none⟩ = some (.slice ac ck.length cc) := cell_at hbk rfl
              go_region_law (refine step_append_g rfl (.tmp 35) (.tmp 38) 85 rfl 3 i0 (.int .i64 0) 1 8 Tryz.underlying85 hi hz0 hz1 hz2 rfl (by decide) (.slice ac ck.length cc) ck.length (ck.map (Value.int .i64)) (by rfl) (by first | exact ownsRow_fr hown ((((Fr.refl nob wr).alloc _).alloc _).drew) (fun _ _ x => x) | exact ownsRow_fr hown ((((Fr.refl nob wr).alloc _).drew).alloc _) (fun _ _ x => x)) ⟨wr.heap.size + 1, 0, none⟩ 1 1 [.int .i64 gn] (by rfl) rfl (by intro j u hj; match j, hj with | 0, hj => simp at hj; subst hj; simp [Addr.add]) (by intro u hu; simp at hu; subst hu; rfl) (by unfold maxLen; omega) (by omega) ?_; intro v' w3 hown' hap; obtain ⟨av, cv, rfl⟩ := ownsRow_slice hown'; have hpush := (by first | exact Lib.hid (Lk.push hbk hug hne ((((Fr.refl nob wr).alloc _).alloc _).drew) hap hown') | exact Lib.hid (Lk.push hbk hug hne ((((Fr.refl nob wr).alloc _).drew).alloc _) hap hown')); obtain ⟨_, pc, pf⟩ := (by first | exact push_cells hbk hug hne ((((Fr.refl nob wr).alloc _).alloc _).drew) hap | exact push_cells hbk hug hne ((((Fr.refl nob wr).alloc _).drew).alloc _) hap); clear hown' hap)
              all_goals
                go_wp2
                go_ret
                unfold Rgt
                rw [HE.out]
                obtain ⟨p1, p2, p3⟩ := hpush.out
                refine ⟨rfl, ((F1.out.mono (T := LS b g) (fun k _ hk => .inl hk)).trans' F2.out.any).trans' (HFR.out.trans p3 (LS.late HG.out)), fun o' c' h => ?_⟩
                injection h with h; injection h with h1 h2; subst h1; subst h2
                refine ⟨_, p1, fun j hj => ?_⟩
                rcases p2 j hj with h | h
                · rcases HG.out j h with h | h
                  · exact .inl h
                  · have := F1.out.size; have := F2.out.size; exact .inr (by omega)
                · have := F1.out.size; have := F2.out.size; have := HFR.out.size; exact .inr (by omega)
          · have hsh : n.shut ck = ck := by cases n <;> first | rfl | exact (hgr ⟨_, _, rfl⟩).elim
            have HSH := Lib.hid hsh; clear hsh
            rcases HV.out with ⟨_, rfl⟩ | ⟨i, x, ht, rfl⟩
            · go_wp2
              go_ret
              unfold Rgt
              rw [HE.out]
              exact ⟨rfl, ((F1.out.mono (T := LS b g) (fun k _ hk => .inl hk)).trans' F2.out.any).trans' (HFR.out.trans' (((Fr.refl nob _).alloc _).any)), fun o' c' h => by
                injection h with h; injection h with h1 h2; subst h1; subst h2
                rw [HSH.out]
                exact ⟨gk, HLK.out.on ((Fr.refl _ _).alloc _), fun j hj => by
                  rcases HG.out j hj with h | h
                  · exact .inl h
                  · have := F1.out.size; have := F2.out.size; exact .inr (by omega)⟩⟩
            · have hi : i ≠ 78 := by
                cases n <;> simp only [Nd.ty, Option.some.injEq] at ht <;> first | (subst ht; decide) | (exact (hgr ⟨_, _, rfl⟩).elim) | cases ht
              clear ht hgr
              go_wp2
              go_ret
              unfold Rgt
              rw [HE.out]
              exact ⟨rfl, ((F1.out.mono (T := LS b g) (fun k _ hk => .inl hk)).trans' F2.out.any).trans' (HFR.out.trans' (((Fr.refl nob _).alloc _).any)), fun o' c' h => by
                injection h with h; injection h with h1 h2; subst h1; subst h2
                rw [HSH.out]
                exact ⟨gk, HLK.out.on ((Fr.refl _ _).alloc _), fun j hj => by
                  rcases HG.out j hj with h | h
                  · exact .inl h
                  · have := F1.out.size; have := F2.out.size; exact .inr (by omega)⟩⟩

end Go.Proofs.YtlchaocpejfikaaGreatDoor

/-
  Walks of package tree: Right; Join, Choose. A call's own slice of nodes, and append to it.
-/
namespace Go.Proofs.YtlchaocpejfikaaGreatDoor
open Go.RowKit

/-- Is a tree right? -/
def Nd.right (n : Nd) : Bool := (n.look 0 []).isSome

theorem right_of (n : Nd) (v : Value) (w : World) (hn : n.size ≤ 3000000) (h : RN nob w n v) :
    Calls Tryz.prog 36 #[v] w fun e w' => e = .returned (.bool n.right) ∧ Fr nob w w' := by
  have H := Lib.hid h; clear h
  go_enter Tryz.func36, Tryz.ntmps36
  go_wp2_with fail
  have f1 : Fr nob w (w.alloc (.cells #[.int .i64 0, .slice none 0 0] 121)) := (Fr.refl _ _).alloc _
  have L : Lk w.heap.size 0 [] none (w.alloc (.cells #[.int .i64 0, .slice none 0 0] 121)) :=
    ⟨.slice none 0 0, heap_alloc_new _ _, World.ownsRow_nil _ _ _ _, rfl, by simp⟩
  refine (right_any n.size n v _ w.heap.size 0 [] none (Nat.le_refl _) (by omega) (by omega) (by simpa using hn) L (RN.keep (S' := LS w.heap.size none) f1 (fun _ _ x => x) (fun k hk x => by
    rcases x with rfl | x
    · omega
    · cases x) _ _ H.out)).mono ?_
  rintro e w1 ⟨rfl, f2, _⟩
  have F1 := Lib.hid f1; have F2 := Lib.hid f2; clear f1 f2 L
  go_wp2
  go_ret
  refine ⟨rfl, F1.out.trans F2.out (fun i hi x => ?_)⟩
  rcases x with rfl | x
  · omega
  · cases x

/-- The block of a call's own slice. -/
def LG (g : Option Nat) : Nat → Prop := fun k => g = some k

theorem LG.late {g g' : Option Nat} {w : World} (h : ∀ k, g' = some k → g = some k ∨ w.heap.size ≤ k) : ∀ k, k < w.heap.size → LG g' k → LG g k := by
  intro k hk hl
  rcases h k hl with h | h
  · exact h
  · omega

/-- A call's own slice of nodes. -/
def OwnN (w : World) (l : List Nd) (v : Value) (g : Option Nat) : Prop := ∃ vs, w.ownsRow 0 36 1 v l.length vs ∧ VN (LG g) w l vs ∧ v.ownBlock = g

theorem OwnN.nil (w : World) : OwnN w [] (.slice none 0 0) none := ⟨[], World.ownsRow_nil _ _ _ _, rfl, rfl⟩
theorem OwnN.on {w w' : World} {l : List Nd} {v : Value} {g : Option Nat} (h : OwnN w l v g) (f : Fr nob w w') : OwnN w' l v g := by
  obtain ⟨vs, h1, h2, h3⟩ := h
  exact ⟨vs, ownsRow_fr h1 f (fun _ _ x => x), h2.keep f (fun _ _ x => x.elim) (fun _ _ x => x), h3⟩
theorem OwnN.shape {w : World} {l : List Nd} {v : Value} {g : Option Nat} (h : OwnN w l v g) : ∃ a c, v = .slice a l.length c := by
  obtain ⟨vs, h1, h2, h3⟩ := h; exact ownsRow_slice h1
theorem OwnN.sn {w : World} {l : List Nd} {v : Value} {g : Option Nat} (h : OwnN w l v g) : SN nob w l v := by
  obtain ⟨vs, h1, h2, h3⟩ := h
  exact SN.of_own h1 (h2.keep (S' := nob) (Fr.refl nob w) (fun _ _ x => x.elim) (fun _ _ x => x.elim)) (fun _ _ x => x)

theorem info_node : (Tryz.prog.info? 36).map (fun i => (i.zero, i.size, i.bytes)) = some (some .nilIface, 1, 16) := by kernel_rfl

/-- Values of nodes are one cell each. -/
theorem VN.cell1 {S : Nat → Prop} {w : World} : ∀ {l : List Nd} {vs : List Value}, VN S w l vs → ∀ u ∈ vs, u.oneCell' = true
  | [], _, h, u, hu => by rw [VN] at h; subst h; cases hu
  | t :: ts, _, h, u, hu => by
    rw [VN] at h; obtain ⟨v, r, rfl, h1, h⟩ := h
    rcases List.mem_cons.1 hu with rfl | hu
    · rcases h1.shape with rfl | ⟨i, x, rfl⟩ <;> rfl
    · exact VN.cell1 h u hu

theorem wpList_append_sn {w : World} {ops : Array Oper} {rest : List Oper} {o : Oper} {a : Act} {Q : Exit → Act → World → Prop} (hgd : o.guard = none) (s x : Operand)
    (ho : o.op = .call { callee := .builtin .append, args := #[s, x], argTypes := #[68, 68] })
    (l m : List Nd) (v ux : Value) (g : Option Nat) (hs : a.eval s = v) (hown : OwnN w l v g) (hx : a.eval x = ux) (hm : SN (LG g) w m ux) (hb : l.length + m.length ≤ 3000000)
    (h : ∀ v' w' g', OwnN w' (l ++ m) v' g' → Fr (LG g) w w' → (∀ k, g' = some k → g = some k ∨ w.heap.size ≤ k) → wpList Tryz.prog ops Q rest (a.put o.dst v') w') : wpList Tryz.prog ops Q (o :: rest) a w := by
  obtain ⟨i0, hi, hz0, hz1, hz2⟩ := info_parts info_node
  obtain ⟨vs, h1, h2, h3⟩ := hown
  rcases hm with ⟨rfl, rfl⟩ | ⟨q, off, cap, rfl, _, hm⟩
  · refine wpList_plain hgd fun K hK => ?_
    have hr := run_append_owned_none (P := Tryz.prog) (w := w) 0 68 o.type 36 i0 1 Tryz.underlying68 hi v l.length vs h1
    unfold Oper.wp execOp
    simp only [ho, resolve, invoke, builtin, Sem.run_bind, Sem.run_pure, Result.andThen_ok, List.map_toArray, List.map_cons, List.map_nil, hs, hx, hr]
    exact hK _ _ (h v w g (by rw [List.append_nil]; exact ⟨vs, h1, h2, h3⟩) (Fr.refl _ _) (fun k hk => .inl hk))
  · obtain ⟨us, hu, ha⟩ := RNs.vals hm
    have hul := hu.length
    refine wpList_append_g hgd s x _ ho 36 i0 .nilIface 1 16 Tryz.underlying68 hi hz0 hz1 hz2 rfl (by decide) v l.length vs hs h1 ⟨q, off, none⟩ m.length cap us hx (by omega) (fun j u hj => by have := ha j u hj; by_cases hj0 : j = 0 <;> simpa [Addr.add, hj0] using this) hu.cell1 (by unfold maxLen; omega) (by omega) ?_
    intro v' w' hown' hap
    have hold : ∀ k, v'.ownBlock = some k → g = some k ∨ w.heap.size ≤ k := fun k hk => by
      rcases hap.old k hk with h | h
      · exact .inl (by rw [← h3, h])
      · exact .inr h
    have hfr : Fr (LG g) w w' := hap.fr.mono fun k _ hk => by unfold LG; rw [← h3, hk]
    refine h v' w' v'.ownBlock ⟨vs ++ us, by simpa using hown', (VN.append h2 hu).keep hfr (fun _ _ x => x) (LG.late hold), rfl⟩ hfr hold

/-- What stands for the parts: none, one, or all. -/
def onlyOf (l : List Nd) (n : Nd) : Nd := match l with
  | [] => .empty
  | [x] => x
  | _ => n

set_option maxRecDepth 100000 in
set_option maxHeartbeats 1000000 in
theorem only_any (l : List Nd) (n : Nd) (u v : Value) (w : World) (hl : l.length ≤ 3000000) (hu : SN nob w l u) (hn : RN nob w n v) :
    Calls Tryz.prog 42 #[u, v] w fun e w' => ∃ r, e = .returned r ∧ RN nob w' (onlyOf l n) r ∧ w = w' := by
  have HN := Lib.hid hn; clear hn
  match l, hu with
  | [], hu =>
    obtain ⟨a, c, rfl⟩ := hu.shape
    clear hu
    go_enter Tryz.func42, Tryz.ntmps42
    go_wp2
    go_ret
    exact ⟨_, rfl, by unfold onlyOf; rw [RN]; rfl, rfl⟩
  | [x], hu =>
    obtain ⟨q, off, cap, y, he, hy, hc⟩ := hu.get (k := 0) (by simp)
    have he' : u = .slice (some ⟨q, off, none⟩) 1 cap := he
    have hc' : w.cell? ⟨q, off, none⟩ = some y := by simpa using hc
    have HY := Lib.hid hy; clear hu hy he hc
    subst he'
    go_enter Tryz.func42, Tryz.ntmps42
    go_wp2
    go_ret
    exact ⟨_, rfl, HY.out, rfl⟩
  | x :: y :: l, hu =>
    obtain ⟨a, c, rfl⟩ := hu.shape
    clear hu
    have h2 : ¬ (((x :: y :: l).length : Nat) : Int) = 0 := by simp; omega
    have h3 : ¬ (((x :: y :: l).length : Nat) : Int) = 1 := by simp; omega
    obtain ⟨k, hk⟩ : ∃ k, (x :: y :: l).length = k := ⟨_, rfl⟩
    rw [hk] at h2 h3 hl ⊢
    clear hk
    go_enter Tryz.func42, Tryz.ntmps42
    go_wp2
    go_ret
    exact ⟨_, rfl, HN.out, rfl⟩

end Go.Proofs.YtlchaocpejfikaaGreatDoor

/-
  Walks of package tree: Join, Choose.
-/
namespace Go.Proofs.YtlchaocpejfikaaGreatDoor
open Go.RowKit

/-- What a part brings to a Cat; to an Alt. -/
def Nd.part : Nd → List Nd
  | .nil | .empty => []
  | .cat l => l
  | n => [n]
def Nd.arm : Nd → List Nd
  | .alt l => l
  | n => [n.told]
def parts : List Nd → List Nd
  | [] => []
  | t :: ts => t.part ++ parts ts
def arms : List Nd → List Nd
  | [] => []
  | t :: ts => t.arm ++ arms ts
def joined (l : List Nd) : Nd := onlyOf (parts l) (.cat (parts l))
def chosen (l : List Nd) : Nd := onlyOf (arms l) (.alt (arms l))

theorem Nd.part_sizes (n : Nd) : Nd.sizes n.part ≤ n.size := by
  cases n <;> simp only [Nd.part, Nd.sizes, Nd.size] <;> omega
theorem Nd.arm_sizes (n : Nd) : Nd.sizes n.arm ≤ n.size := by
  cases n <;> simp only [Nd.arm, Nd.told, Nd.sizes, Nd.size] <;> omega
theorem parts_sizes (l : List Nd) : Nd.sizes (parts l) ≤ Nd.sizes l := by
  induction l with
  | nil => simp [parts]
  | cons t ts ih => have := t.part_sizes; simp only [parts, Nd.sizes, Nd.sizes_append]; omega
theorem arms_sizes (l : List Nd) : Nd.sizes (arms l) ≤ Nd.sizes l := by
  induction l with
  | nil => simp [arms]
  | cons t ts ih => have := t.arm_sizes; simp only [arms, Nd.sizes, Nd.sizes_append]; omega
theorem parts_append (l m : List Nd) : parts (l ++ m) = parts l ++ parts m := by
  induction l with
  | nil => rfl
  | cons t ts ih => simp only [List.cons_append, parts, ih, List.append_assoc]
theorem arms_append (l m : List Nd) : arms (l ++ m) = arms l ++ arms m := by
  induction l with
  | nil => rfl
  | cons t ts ih => simp only [List.cons_append, arms, ih, List.append_assoc]
theorem parts_take {l : List Nd} {k : Nat} (h : k < l.length) : parts (l.take (k + 1)) = parts (l.take k) ++ l[k].part := by
  rw [List.take_succ_eq_append_getElem h, parts_append]; simp [parts]
theorem arms_take {l : List Nd} {k : Nat} (h : k < l.length) : arms (l.take (k + 1)) = arms (l.take k) ++ l[k].arm := by
  rw [List.take_succ_eq_append_getElem h, arms_append]; simp [arms]

/-- The slice that Join, Choose build, behind some rounds: it lies behind the world w. -/
def Built (w : World) (l : List Nd) (v : Value) (wr : World) : Prop := ∃ g, OwnN wr l v g ∧ Fr nob w wr ∧ ∀ k, g = some k → w.heap.size ≤ k

theorem Built.nil (w : World) : Built w [] (.slice none 0 0) w := ⟨none, OwnN.nil w, Fr.refl _ _, fun _ h => by cases h⟩
theorem Built.on {w wr w' : World} {l : List Nd} {v : Value} (h : Built w l v wr) (f : Fr nob wr w') : Built w l v w' := by
  obtain ⟨g, h1, h2, h3⟩ := h; exact ⟨g, h1.on f, h2.trans' f, h3⟩
theorem Built.shape {w wr : World} {l : List Nd} {v : Value} (h : Built w l v wr) : ∃ a c, v = .slice a l.length c := by
  obtain ⟨g, h1, h2, h3⟩ := h; exact h1.shape
theorem Built.fr {w wr : World} {l : List Nd} {v : Value} (h : Built w l v wr) : Fr nob w wr := by
  obtain ⟨g, h1, h2, h3⟩ := h; exact h2
theorem Built.sn {w wr : World} {l : List Nd} {v : Value} (h : Built w l v wr) : SN nob wr l v := by
  obtain ⟨g, h1, h2, h3⟩ := h; exact h1.sn

theorem wpList_append_bt {W w : World} {ops : Array Oper} {rest : List Oper} {o : Oper} {a : Act} {Q : Exit → Act → World → Prop} (hgd : o.guard = none) (s x : Operand)
    (ho : o.op = .call { callee := .builtin .append, args := #[s, x], argTypes := #[68, 68] })
    (l m : List Nd) (v ux : Value) (hs : a.eval s = v) (hown : Built W l v w) (hx : a.eval x = ux)
    (hm : ∀ g, (∀ k, g = some k → W.heap.size ≤ k) → OwnN w l v g → SN (LG g) w m ux) (hb : l.length + m.length ≤ 3000000)
    (h : ∀ v' w', Built W (l ++ m) v' w' → wpList Tryz.prog ops Q rest (a.put o.dst v') w') : wpList Tryz.prog ops Q (o :: rest) a w := by
  obtain ⟨g, h1, h2, h3⟩ := hown
  refine wpList_append_sn hgd s x ho l m v ux g hs h1 hx (hm g h3 h1) hb fun v' w' g' q1 q2 q3 => h v' w' ⟨g', q1, ?_, ?_⟩
  · exact h2.trans q2 (fun i hi hg => by have := h3 i hg; omega)
  · intro k hk
    have := h2.size
    rcases q3 k hk with h | h
    · exact h3 k h
    · omega

/-- What lay in W, seen from a world behind, where a slice of the call's own lies. -/
theorem SN.behind {W w : World} {m : List Nd} {u : Value} {g : Option Nat} (h : SN nob W m u) (f : Fr nob W w) (hg : ∀ k, g = some k → W.heap.size ≤ k) : SN (LG g) w m u :=
  h.keep f (fun _ _ x => x) (fun k hk x => by have := hg k x; omega)
theorem RN.behind {W w : World} {m : Nd} {u : Value} {g : Option Nat} (h : RN nob W m u) (f : Fr nob W w) (hg : ∀ k, g = some k → W.heap.size ≤ k) : RN (LG g) w m u :=
  RN.keep f (fun _ _ x => x) (fun k hk x => by have := hg k x; omega) _ _ h
theorem OwnN.lt {w : World} {l : List Nd} {v : Value} {g : Option Nat} (h : OwnN w l v g) : ∀ k, LG g k → k < w.heap.size := by
  intro k hk
  obtain ⟨vs, hown, _, hg⟩ := h
  rcases hown.2 with ⟨rfl, _⟩ | ⟨r, cap, cur, rfl, _, hr, _⟩
  · rw [← hg] at hk; cases hk
  · rw [← hg] at hk; injection hk with hk; subst hk; exact lt_heap hr

theorem OwnN.blk {w : World} {l : List Nd} {v : Value} {g : Option Nat} (h : OwnN w l v g) : v.ownBlock = g := by
  obtain ⟨_, _, _, h⟩ := h; exact h
theorem Built.lt {w wr : World} {l : List Nd} {v : Value} (h : Built w l v wr) : ∀ k, v.ownBlock = some k → k < wr.heap.size := by
  obtain ⟨g, h1, h2, h3⟩ := h
  intro k hk
  rw [h1.blk] at hk
  exact h1.lt k hk

set_option maxRecDepth 100000 in
set_option maxHeartbeats 1000000 in
theorem join_any (l : List Nd) (u : Value) (w : World) (hl : Nd.sizes l ≤ 3000000) (h : SN nob w l u) :
    Calls Tryz.prog 18 #[u] w fun e w' => ∃ r, e = .returned r ∧ RN nob w' (joined l) r ∧ Fr nob w w' := by
  obtain ⟨a, c, rfl⟩ := h.shape
  have H := Lib.hid h; clear h
  have hll := Nd.length_le l
  have hpl := Lib.hid (Nat.le_trans (Nd.length_le (parts l)) (parts_sizes l))
  go_enter Tryz.func18, Tryz.ntmps18
  go_wp2_with fail
  go_loopw [3, 11] (fun s i wr => ∃ k : Nat, i = .int .i64 k ∧ k ≤ l.length ∧ Built w (parts (l.take k)) s wr) (fun _ i _ => l.length - (intOf i).toNat)
  case atStart => exact ⟨0, rfl, Nat.zero_le _, Built.nil w⟩
  case round =>
    obtain ⟨k, rfl, hk, hB⟩ := hrel
    obtain ⟨av, cv, rfl⟩ := hB.shape
    have HB := Lib.hid hB; clear hB
    by_cases hlt : k < l.length
    · obtain ⟨q, off, cap, x, he, hx, hc⟩ := (H.out.on HB.out.fr).get hlt
      obtain ⟨_, _, _, x', he', hx', hc'⟩ := H.out.get hlt
      obtain rfl : x = x' := by
        rw [he] at he'; injection he' with e1 _ _; injection e1 with e1; injection e1 with e1 e2; subst e1; subst e2
        have := HB.out.fr.cell hc' (fun x => x); rw [hc] at this; injection this
      clear he' hc'
      injection he with e1 e2 e3
      subst e1; subst e3
      have HX := Lib.hid hx; have HX0 := Lib.hid hx'; clear hx hx' e2
      have hpt := Lib.hid (parts_take hlt)
      have hsz := Lib.hid (Nat.le_trans (Nd.length_le (parts (l.take (k + 1)))) (Nat.le_trans (parts_sizes _) (Nd.sizes_take_le l (k + 1))))
      go_wp2_with fail
      refine (told_any2 nob l[k] x _ HX.out).mono ?_
      rintro e w2 ⟨y, rfl, hy, hxy, rfl⟩
      obtain ⟨n, hn⟩ : ∃ n, l[k] = n := ⟨_, rfl⟩
      rw [hn] at hy HX HX0 hpt
      clear hn
      have hcase : (n.part = [] ∧ y = .iface 84 (.agg #[])) ∨ (∃ m a c, n.part = m ∧ y = .iface 73 (.agg #[.slice a m.length c]) ∧ SN nob w m (.slice a m.length c)) ∨ (n.part = [n] ∧ ∃ i z, y = .iface i z ∧ i ≠ 84 ∧ i ≠ 73 ∧ x = y) := by
        have hyk := hy.kind
        have hxk := HX0.out.kind
        cases n with
        | nil => exact .inl ⟨rfl, hyk⟩
        | empty => exact .inl ⟨rfl, hyk⟩
        | cat m =>
          obtain ⟨a', c', h2, h3⟩ := hxk
          subst h2
          rcases hxy with h | rfl
          · cases h
          · exact .inr (.inl ⟨m, a', c', rfl, rfl, h3⟩)
        | one s => subst hxk; rcases hxy with h | rfl; cases h; exact .inr (.inr ⟨rfl, _, _, rfl, by decide, by decide, rfl⟩)
        | alt m => obtain ⟨a, c, h1, _⟩ := hxk; subst h1; rcases hxy with h | rfl; cases h; exact .inr (.inr ⟨rfl, _, _, rfl, by decide, by decide, rfl⟩)
        | rep z mn mx => obtain ⟨a, h1, _⟩ := hxk; subst h1; rcases hxy with h | rfl; cases h; exact .inr (.inr ⟨rfl, _, _, rfl, by decide, by decide, rfl⟩)
        | group q z => obtain ⟨a, h1, _⟩ := hxk; subst h1; rcases hxy with h | rfl; cases h; exact .inr (.inr ⟨rfl, _, _, rfl, by decide, by decide, rfl⟩)
        | back q => subst hxk; rcases hxy with h | rfl; cases h; exact .inr (.inr ⟨rfl, _, _, rfl, by decide, by decide, rfl⟩)
        | start => subst hxk; rcases hxy with h | rfl; cases h; exact .inr (.inr ⟨rfl, _, _, rfl, by decide, by decide, rfl⟩)
        | fin => subst hxk; rcases hxy with h | rfl; cases h; exact .inr (.inr ⟨rfl, _, _, rfl, by decide, by decide, rfl⟩)
      clear hy hxy
      rcases hcase with ⟨hp, rfl⟩ | ⟨m, am, cm, hp, rfl, hm⟩ | ⟨hp, iy, z, rfl, n1, n2, rfl⟩
      · rw [hp, List.append_nil] at hpt
        clear hp
        go_wp2
        go_roundw
        case rel => exact ⟨k + 1, by go_num, by omega, by rw [hpt.out]; exact HB.out.on ((Fr.refl _ _).alloc _)⟩
        case measure => simp [intOf]; omega
      · rw [hp] at hpt
        have HM := Lib.hid hm; clear hm hp
        have hlen : (parts (l.take k)).length + m.length ≤ 3000000 := by have h := hsz.out; rw [hpt.out, List.length_append] at h; omega
        go_wp2_with (at_builtin; refine wpList_append_bt rfl (.tmp 27) (.tmp 29) rfl (parts (l.take k)) m _ _ (by rfl) (HB.out.on ((Fr.refl _ _).alloc _)) (by rfl) (fun g hg ho => HM.out.behind (HB.out.fr.trans' ((Fr.refl _ _).alloc _)) hg) hlen ?_; intro v' w3 hb3; obtain ⟨av', cv', he3⟩ := hb3.shape; simp only [List.length_append] at he3; subst he3; have HB3 := Lib.hid hb3; clear hb3)
        go_roundw
        case rel => exact ⟨k + 1, by go_num, by omega, by rw [hpt.out]; exact HB3.out⟩
        case measure => simp [intOf]; omega
      · rw [hp] at hpt
        clear hp
        have hlen : (parts (l.take k)).length + [n].length ≤ 3000000 := by have h := hsz.out; rw [hpt.out, List.length_append] at h; omega
        go_wp2_with (at_builtin; refine wpList_append_bt rfl (.tmp 17) (.tmp 19) rfl (parts (l.take k)) [n] _ _ (by rfl) (HB.out.on ((Fr.refl _ _).alloc _)) (by rfl) (fun g hg ho => SN.one' (HX0.out.behind (HB.out.fr) hg) (fun k hk => HB.out.lt k (by rw [ho.blk]; exact hk)) _ rfl) hlen ?_; intro v' w3 hb3; obtain ⟨av', cv', he3⟩ := hb3.shape; simp only [List.length_append, List.length_singleton] at he3; subst he3; have HB3 := Lib.hid hb3; clear hb3)
        go_roundw
        case rel => exact ⟨k + 1, by go_num, by omega, by rw [hpt.out]; exact HB3.out⟩
        case measure => simp [intOf]; omega
    · obtain rfl : k = l.length := by omega
      have hT := Lib.hid (List.take_of_length_le (l := l) (Nat.le_refl _))
      have hB := HB.out
      rw [hT.out] at hB
      go_wp2_with fail
      refine (only_any (parts l) (.cat (parts l)) _ _ _ (by have := hpl.out; omega) hB.sn (RN_cat.2 ⟨_, rfl, hB.sn⟩)).mono ?_
      rintro e w2 ⟨r, rfl, hr, rfl⟩
      have HR := Lib.hid hr; clear hr
      go_wp2
      go_ret
      exact ⟨_, rfl, HR.out, HB.out.fr⟩

set_option maxRecDepth 100000 in
set_option maxHeartbeats 1000000 in
theorem choose_any (l : List Nd) (u : Value) (w : World) (hl : Nd.sizes l ≤ 3000000) (h : SN nob w l u) :
    Calls Tryz.prog 17 #[u] w fun e w' => ∃ r, e = .returned r ∧ RN nob w' (chosen l) r ∧ Fr nob w w' := by
  obtain ⟨a, c, rfl⟩ := h.shape
  have H := Lib.hid h; clear h
  have hll := Nd.length_le l
  have hpl := Lib.hid (Nat.le_trans (Nd.length_le (arms l)) (arms_sizes l))
  go_enter Tryz.func17, Tryz.ntmps17
  go_wp2_with fail
  go_loopw [3, 10] (fun s i wr => ∃ k : Nat, i = .int .i64 k ∧ k ≤ l.length ∧ Built w (arms (l.take k)) s wr) (fun _ i _ => l.length - (intOf i).toNat)
  case atStart => exact ⟨0, rfl, Nat.zero_le _, Built.nil w⟩
  case round =>
    obtain ⟨k, rfl, hk, hB⟩ := hrel
    obtain ⟨av, cv, rfl⟩ := hB.shape
    have HB := Lib.hid hB; clear hB
    by_cases hlt : k < l.length
    · obtain ⟨q, off, cap, x, he, hx, hc⟩ := (H.out.on HB.out.fr).get hlt
      obtain ⟨_, _, _, x', he', hx', hc'⟩ := H.out.get hlt
      obtain rfl : x = x' := by
        rw [he] at he'; injection he' with e1 _ _; injection e1 with e1; injection e1 with e1 e2; subst e1; subst e2
        have := HB.out.fr.cell hc' (fun x => x); rw [hc] at this; injection this
      clear he' hc'
      injection he with e1 e2 e3
      subst e1; subst e3
      have HX := Lib.hid hx; have HX0 := Lib.hid hx'; clear hx hx' e2
      have hpt := Lib.hid (arms_take hlt)
      have hsz := Lib.hid (Nat.le_trans (Nd.length_le (arms (l.take (k + 1)))) (Nat.le_trans (arms_sizes _) (Nd.sizes_take_le l (k + 1))))
      obtain ⟨n, hn⟩ : ∃ n, l[k] = n := ⟨_, rfl⟩
      rw [hn] at HX HX0 hpt
      clear hn
      have hcase : (∃ m a c, n.arm = m ∧ x = .iface 74 (.agg #[.slice a m.length c]) ∧ SN nob w m (.slice a m.length c)) ∨ (n.arm = [n.told] ∧ (x = .nilIface ∨ ∃ i z, x = .iface i z ∧ i ≠ 74)) := by
        have hxk := HX0.out.kind
        cases n with
        | alt m =>
          obtain ⟨a', c', h2, h3⟩ := hxk
          exact .inl ⟨m, a', c', rfl, h2, h3⟩
        | nil => exact .inr ⟨rfl, .inl hxk⟩
        | cat m => obtain ⟨a, c, h1, _⟩ := hxk; exact .inr ⟨rfl, .inr ⟨_, _, h1, by decide⟩⟩
        | rep z mn mx => obtain ⟨a, h1, _⟩ := hxk; exact .inr ⟨rfl, .inr ⟨_, _, h1, by decide⟩⟩
        | group q z => obtain ⟨a, h1, _⟩ := hxk; exact .inr ⟨rfl, .inr ⟨_, _, h1, by decide⟩⟩
        | _ => exact .inr ⟨rfl, .inr ⟨_, _, hxk, by decide⟩⟩
      rcases hcase with ⟨m, am, cm, hp, rfl, hm⟩ | ⟨hp, hx⟩
      · rw [hp] at hpt
        have HM := Lib.hid hm; clear hm hp
        have hlen : (arms (l.take k)).length + m.length ≤ 3000000 := by have h := hsz.out; rw [hpt.out, List.length_append] at h; omega
        go_wp2_with (at_builtin; refine wpList_append_bt rfl (.tmp 20) (.tmp 22) rfl (arms (l.take k)) m _ _ (by rfl) (HB.out.on ((Fr.refl _ _).alloc _)) (by rfl) (fun g hg ho => HM.out.behind (HB.out.fr.trans' ((Fr.refl _ _).alloc _)) hg) hlen ?_; intro v' w3 hb3; obtain ⟨av', cv', he3⟩ := hb3.shape; simp only [List.length_append] at he3; subst he3; have HB3 := Lib.hid hb3; clear hb3)
        go_roundw
        case rel => exact ⟨k + 1, by go_num, by omega, by rw [hpt.out]; exact HB3.out⟩
        case measure => simp [intOf]; omega
      · rw [hp] at hpt
        clear hp
        have hlen : (arms (l.take k)).length + [n.told].length ≤ 3000000 := by have h := hsz.out; rw [hpt.out, List.length_append] at h; omega
        obtain ⟨g0, o0, f0, l0⟩ := HB.out
        have HXG := Lib.hid (HX0.out.behind f0 l0)
        have hb0 := o0.blk
        have HL0 := Lib.hid l0; have F0 := Lib.hid f0; have O0 := Lib.hid o0; clear l0 f0 o0
        rcases hx with rfl | ⟨ix, zx, rfl, hne⟩
        all_goals
          go_wp2_with fail
          refine (told_any (LG g0) n _ _ (HXG.out.on ((Fr.refl _ _).alloc _))).mono ?_
          rintro e w2 ⟨y, rfl, hy, rfl⟩
          have HY := Lib.hid hy; have hysh := hy.shape; clear hy
          rcases hysh with rfl | ⟨iy, zy, rfl⟩
          all_goals
            go_wp2_with (at_builtin; refine wpList_append_bt rfl (.tmp 24) (.tmp 27) rfl (arms (l.take k)) [n.told] _ _ (by rfl) (HB.out.on (((Fr.refl _ _).alloc _).alloc _)) (by rfl) (fun g hg ho => by have e := hb0.symm.trans ho.blk; subst e; exact SN.one' HY.out (fun k hk => by have := O0.out.lt k hk; simp; omega) _ (by simp)) hlen ?_; intro v' w3 hb3; obtain ⟨av', cv', he3⟩ := hb3.shape; simp only [List.length_append, List.length_singleton] at he3; subst he3; have HB3 := Lib.hid hb3; clear hb3)
            go_roundw
            case rel => exact ⟨k + 1, by go_num, by omega, by rw [hpt.out]; exact HB3.out⟩
            case measure => simp [intOf]; omega
    · obtain rfl : k = l.length := by omega
      have hT := Lib.hid (List.take_of_length_le (l := l) (Nat.le_refl _))
      have hB := HB.out
      rw [hT.out] at hB
      go_wp2_with fail
      refine (only_any (arms l) (.alt (arms l)) _ _ _ (by have := hpl.out; omega) hB.sn (RN_alt.2 ⟨_, rfl, hB.sn⟩)).mono ?_
      rintro e w2 ⟨r, rfl, hr, rfl⟩
      have HR := Lib.hid hr; clear hr
      go_wp2
      go_ret
      exact ⟨_, rfl, HR.out, HB.out.fr⟩

end Go.Proofs.YtlchaocpejfikaaGreatDoor

/-
  Walk of the statements' fixed fact: awake is true.
-/
namespace Go.Proofs.YtlchaocpejfikaaGreatDoor
open Go.RowKit

theorem At.new {b : Nat} (w : World) (cs : Array Value) (T : TypeId) (hb : b = w.heap.size) : At (w.alloc (.cells cs T)) b 0 cs.toList := by
  subst hb
  intro j v hj
  exact cell_at (heap_alloc_new w _) (by simpa using hj)

end Go.Proofs.YtlchaocpejfikaaGreatDoor

/-
  Package tree: a node as it is told (norm); when two are the same; depth, groups, backs. No walk.
-/
namespace Go.Proofs.YtlchaocpejfikaaGreatDoor
open Go.RowKit

mutual
/-- A node, its parts that are not told as Empty. -/
def Nd.norm : Nd → Nd
  | .nil => .empty
  | .empty => .empty
  | .one s => .one s
  | .cat l => .cat (Nd.norms l)
  | .alt l => .alt (Nd.norms l)
  | .rep x a b => .rep x.norm a b
  | .group n x => .group n x.norm
  | .back n => .back n
  | .start => .start
  | .fin => .fin
def Nd.norms : List Nd → List Nd
  | [] => []
  | t :: ts => t.norm :: Nd.norms ts
end
theorem Nd.norms_eq (l : List Nd) : Nd.norms l = l.map Nd.norm := by
  induction l with
  | nil => rfl
  | cons t ts ih => simp only [Nd.norms, List.map_cons, ih]

/-- Are two nodes the same, their parts not looked at? -/
def Nd.head : Nd → Nd → Bool
  | .one s, .one t => decide (s = t)
  | .cat _, .cat _ => true
  | .alt _, .alt _ => true
  | .rep _ a b, .rep _ c d => decide (a = c) && decide (b = d)
  | .group n _, .group m _ => decide (n = m)
  | .back n, .back m => decide (n = m)
  | .start, .start => true
  | .fin, .fin => true
  | .nil, .nil => true
  | .nil, .empty => true
  | .empty, .nil => true
  | .empty, .empty => true
  | _, _ => false

theorem Nd.same_iff (a b : Nd) : a.norm = b.norm ↔ a.head b = true ∧ Nd.norms a.kids = Nd.norms b.kids := by
  cases a <;> cases b <;> simp [Nd.norm, Nd.head, Nd.kids, Nd.norms]
  · constructor
    · rintro ⟨a, b, c⟩; exact ⟨⟨b, c⟩, a⟩
    · rintro ⟨⟨b, c⟩, a⟩; exact ⟨a, b, c⟩

def Nd.isGroup : Nd → Bool
  | .group _ _ => true
  | _ => false
def Nd.isBack : Nd → Bool
  | .back _ => true
  | _ => false
mutual
/-- How many groups are in one another. -/
def Nd.deep : Nd → Nat
  | .cat l => Nd.deeps l
  | .alt l => Nd.deeps l
  | .rep x _ _ => x.deep
  | .group _ x => x.deep + 1
  | .nil | .empty | .one _ | .back _ | .start | .fin => 0
def Nd.deeps : List Nd → Nat
  | [] => 0
  | t :: ts => max t.deep (Nd.deeps ts)
end
mutual
/-- How many groups. -/
def Nd.groups : Nd → Nat
  | .cat l => Nd.groupss l
  | .alt l => Nd.groupss l
  | .rep x _ _ => x.groups
  | .group _ x => x.groups + 1
  | .nil | .empty | .one _ | .back _ | .start | .fin => 0
def Nd.groupss : List Nd → Nat
  | [] => 0
  | t :: ts => t.groups + Nd.groupss ts
end
mutual
/-- Has it a Back? -/
def Nd.backs : Nd → Bool
  | .cat l => Nd.backss l
  | .alt l => Nd.backss l
  | .rep x _ _ => x.backs
  | .group _ x => x.backs
  | .back _ => true
  | .nil | .empty | .one _ | .start | .fin => false
def Nd.backss : List Nd → Bool
  | [] => false
  | t :: ts => t.backs || Nd.backss ts
end
theorem Nd.backss_eq (l : List Nd) : Nd.backss l = l.any Nd.backs := by
  induction l with
  | nil => rfl
  | cons t ts ih => simp only [Nd.backss, List.any_cons, ih]
theorem Nd.deep_kids (n : Nd) : n.deep = Nd.deeps n.kids + (if n.isGroup = true then 1 else 0) := by
  cases n <;> simp [Nd.deep, Nd.kids, Nd.deeps, Nd.isGroup]
theorem Nd.groups_kids (n : Nd) : n.groups = Nd.groupss n.kids + (if n.isGroup = true then 1 else 0) := by
  cases n <;> simp [Nd.groups, Nd.kids, Nd.groupss, Nd.isGroup]
theorem Nd.backs_kids (n : Nd) : n.backs = (n.isBack || Nd.backss n.kids) := by
  cases n <;> simp [Nd.backs, Nd.kids, Nd.backss, Nd.isBack]
theorem Nd.deeps_append (l m : List Nd) : Nd.deeps (l ++ m) = max (Nd.deeps l) (Nd.deeps m) := by
  induction l with
  | nil => simp [Nd.deeps]
  | cons t ts ih => simp only [List.cons_append, Nd.deeps, ih]; omega
theorem Nd.groupss_append (l m : List Nd) : Nd.groupss (l ++ m) = Nd.groupss l + Nd.groupss m := by
  induction l with
  | nil => simp [Nd.groupss]
  | cons t ts ih => simp only [List.cons_append, Nd.groupss, ih]; omega
theorem Nd.deeps_take {l : List Nd} {k : Nat} (h : k < l.length) : Nd.deeps (l.take (k + 1)) = max (Nd.deeps (l.take k)) l[k].deep := by
  rw [List.take_succ_eq_append_getElem h, Nd.deeps_append]; simp [Nd.deeps]
theorem Nd.groupss_take {l : List Nd} {k : Nat} (h : k < l.length) : Nd.groupss (l.take (k + 1)) = Nd.groupss (l.take k) + l[k].groups := by
  rw [List.take_succ_eq_append_getElem h, Nd.groupss_append]; simp [Nd.groupss]
mutual
theorem Nd.deep_le : ∀ n : Nd, n.deep ≤ n.size
  | .cat l => by have := Nd.deeps_le l; simp only [Nd.deep, Nd.size]; omega
  | .alt l => by have := Nd.deeps_le l; simp only [Nd.deep, Nd.size]; omega
  | .rep x _ _ => by have := Nd.deep_le x; simp only [Nd.deep, Nd.size]; omega
  | .group _ x => by have := Nd.deep_le x; simp only [Nd.deep, Nd.size]; omega
  | .nil | .empty | .one _ | .back _ | .start | .fin => by simp [Nd.deep]
theorem Nd.deeps_le : ∀ l : List Nd, Nd.deeps l ≤ Nd.sizes l
  | [] => by simp [Nd.deeps]
  | t :: ts => by have := Nd.deep_le t; have := Nd.deeps_le ts; simp only [Nd.deeps, Nd.sizes]; omega
end
mutual
theorem Nd.groups_le : ∀ n : Nd, n.groups ≤ n.size
  | .cat l => by have := Nd.groupss_le l; simp only [Nd.groups, Nd.size]; omega
  | .alt l => by have := Nd.groupss_le l; simp only [Nd.groups, Nd.size]; omega
  | .rep x _ _ => by have := Nd.groups_le x; simp only [Nd.groups, Nd.size]; omega
  | .group _ x => by have := Nd.groups_le x; simp only [Nd.groups, Nd.size]; omega
  | .nil | .empty | .one _ | .back _ | .start | .fin => by simp [Nd.groups]
theorem Nd.groupss_le : ∀ l : List Nd, Nd.groupss l ≤ Nd.sizes l
  | [] => by simp [Nd.groupss]
  | t :: ts => by have := Nd.groups_le t; have := Nd.groupss_le ts; simp only [Nd.groupss, Nd.sizes]; omega
end

end Go.Proofs.YtlchaocpejfikaaGreatDoor

/-
  The document's nodes: Of, Kids; how much there is of a node, its kinds known; as the program's node.
-/
namespace Go.Proofs.YtlchaocpejfikaaGreatDoor
open Go.RowKit

def T.kind : T → Int | .mk k _ _ _ _ _ => k
def T.parts : T → List T | .mk _ _ ps _ _ _ => ps
def T.zero : T := .mk 0 S4.zero [] 0 0 0
def T.of (t : T) : T := match t.parts with
  | [] => T.zero
  | x :: _ => x
def T.kids (t : T) : List T := if t.kind = 2 ∨ t.kind = 3 then t.parts else if t.kind = 4 ∨ t.kind = 5 then [t.of] else []

mutual
/-- How much there is of a node. -/
def T.bulk : T → Nat
  | .mk _ _ ps _ _ _ => 1 + T.bulks ps
def T.bulks : List T → Nat
  | [] => 0
  | t :: ts => t.bulk + T.bulks ts
end
mutual
/-- Are all kinds known? -/
def T.known : T → Bool
  | .mk k _ ps _ _ _ => (!(decide (k < 0) || decide (8 < k))) && T.knowns ps
def T.knowns : List T → Bool
  | [] => true
  | t :: ts => t.known && T.knowns ts
end
mutual
/-- The program's node. -/
def T.nd : T → Nd
  | .mk k s ps mn mx nu => if k = 1 then .one s else if k = 2 then .cat (T.nds ps) else if k = 3 then .alt (T.nds ps) else if k = 4 then .rep (T.nd1 ps) mn mx
    else if k = 5 then .group nu (T.nd1 ps) else if k = 6 then .back nu else if k = 7 then .start else if k = 8 then .fin else .empty
def T.nds : List T → List Nd
  | [] => []
  | t :: ts => t.nd :: T.nds ts
def T.nd1 : List T → Nd
  | [] => .empty
  | t :: _ => t.nd
end

theorem T.bulk_pos (t : T) : 1 ≤ t.bulk := by cases t; simp only [T.bulk]; omega
theorem T.bulk_parts (t : T) : t.bulk = 1 + T.bulks t.parts := by cases t; rfl
theorem T.bulks_append (l m : List T) : T.bulks (l ++ m) = T.bulks l + T.bulks m := by
  induction l with
  | nil => simp [T.bulks]
  | cons t ts ih => simp only [List.cons_append, T.bulks, ih]; omega
theorem T.length_le (l : List T) : l.length ≤ T.bulks l := by
  induction l with
  | nil => simp
  | cons t ts ih => have := t.bulk_pos; simp only [List.length_cons, T.bulks]; omega
theorem T.bulks_mem {l : List T} {t : T} (h : t ∈ l) : t.bulk ≤ T.bulks l := by
  induction l with
  | nil => simp at h
  | cons a l ih =>
    simp only [T.bulks]
    rcases List.mem_cons.1 h with rfl | h
    · omega
    · have := ih h; omega
theorem T.bulks_take {l : List T} {k : Nat} (h : k < l.length) : T.bulks (l.take (k + 1)) = T.bulks (l.take k) + l[k].bulk := by
  rw [List.take_succ_eq_append_getElem h, T.bulks_append]; simp [T.bulks]
theorem T.bulks_take_le (l : List T) (k : Nat) : T.bulks (l.take k) ≤ T.bulks l := by
  have := T.bulks_append (l.take k) (l.drop k)
  rw [List.take_append_drop] at this; omega
theorem T.part_lt {t x : T} (h : x ∈ t.parts) : x.bulk < t.bulk := by
  have := T.bulks_mem h; rw [T.bulk_parts t]; omega
theorem T.of_lt (t : T) : t.of.bulk ≤ t.bulk := by
  cases t with
  | mk k s ps mn mx nu =>
    cases ps with
    | nil => simp [T.of, T.parts, T.zero, T.bulk, T.bulks]
    | cons x r => simp only [T.of, T.parts, T.bulk, T.bulks]; omega
theorem T.nds_eq (l : List T) : T.nds l = l.map T.nd := by
  induction l with
  | nil => rfl
  | cons t ts ih => simp only [T.nds, List.map_cons, ih]
theorem T.kids_nd (t : T) : t.nd.kids = t.kids.map T.nd := by
  cases t with
  | mk k s ps mn mx nu =>
    have h1 : T.nd1 ps = (T.of (.mk k s ps mn mx nu)).nd := by cases ps <;> rfl
    simp only [T.nd, T.kids, T.kind, T.parts, h1, T.nds_eq]
    by_cases a1 : k = 1
    · simp [a1, Nd.kids]
    by_cases a2 : k = 2
    · simp [a2, Nd.kids]
    by_cases a3 : k = 3
    · simp [a3, Nd.kids]
    by_cases a4 : k = 4
    · simp [a4, Nd.kids]
    by_cases a5 : k = 5
    · simp [a5, Nd.kids]
    by_cases a6 : k = 6
    · simp [a6, Nd.kids]
    by_cases a7 : k = 7
    · simp [a7, Nd.kids]
    by_cases a8 : k = 8
    · simp [a8, Nd.kids]
    simp [a1, a2, a3, a4, a5, a6, a7, a8, Nd.kids]

/-- The cells of a document's node, named. -/
theorem RT.open' {S : Nat → Prop} {w : World} {t : T} {cs : List Value} (h : RT S w t cs) : ∃ k s ps mn mx nu a c, t = .mk k s ps mn mx nu ∧
    cs = [.int .i64 k, .int .u64 s.a, .int .u64 s.b, .int .u64 s.c, .int .u64 s.d, .slice a ps.length c, .int .i64 mn, .int .i64 mx, .int .i64 nu] ∧ ST S w ps (.slice a ps.length c) := by
  cases t with
  | mk k s ps mn mx nu =>
    rw [RT_mk] at h
    obtain ⟨v, rfl, h⟩ := h
    rcases h with ⟨⟨a, c, rfl⟩, rfl⟩ | ⟨g, off, cap, rfl, hc, h⟩
    · exact ⟨k, s, [], mn, mx, nu, a, c, rfl, rfl, .inl ⟨⟨a, c, rfl⟩, rfl⟩⟩
    · exact ⟨k, s, ps, mn, mx, nu, _, cap, rfl, rfl, .inr ⟨g, off, cap, rfl, hc, h⟩⟩

/-- The k-th of the document's nodes that lie one behind the other. -/
theorem RTs.get {S : Nat → Prop} {w : World} {g : Nat} : ∀ {l : List T} {off : Nat}, RTs S w l g off → ∀ {k : Nat} (hk : k < l.length), ∃ cs, RT S w l[k] cs ∧ At w g (off + k * 9) cs ∧ g < w.heap.size
  | [], _, _, k, hk => by simp at hk
  | t :: ts, off, h, k, hk => by
    rw [RTs] at h; obtain ⟨_, hg, ⟨cs, h1, h2⟩, h⟩ := h
    cases k with
    | zero => exact ⟨cs, h1, by simpa using h2, hg⟩
    | succ k =>
      obtain ⟨cs', h3, h4, h5⟩ := RTs.get h (k := k) (by simpa using hk)
      exact ⟨cs', by simpa using h3, by rwa [show off + (k + 1) * 9 = off + 9 + k * 9 by omega], h5⟩
theorem ST.get {S : Nat → Prop} {w : World} {l : List T} {u : Value} (h : ST S w l u) {k : Nat} (hk : k < l.length) : ∃ g off cap cs, u = .slice (some ⟨g, off, none⟩) l.length cap ∧ RT S w l[k] cs ∧ At w g (off + k * 9) cs ∧ g < w.heap.size := by
  rcases h with ⟨_, rfl⟩ | ⟨g, off, cap, rfl, _, h⟩
  · simp at hk
  · obtain ⟨cs, h1, h2, h3⟩ := h.get hk
    exact ⟨g, off, cap, cs, rfl, h1, h2, h3⟩
theorem ST.shape {S : Nat → Prop} {w : World} {l : List T} {u : Value} (h : ST S w l u) : ∃ a c, u = .slice a l.length c := by
  rcases h with ⟨⟨a, c, rfl⟩, rfl⟩ | ⟨g, off, cap, rfl, _⟩
  · exact ⟨_, _, rfl⟩
  · exact ⟨_, _, rfl⟩

end Go.Proofs.YtlchaocpejfikaaGreatDoor
