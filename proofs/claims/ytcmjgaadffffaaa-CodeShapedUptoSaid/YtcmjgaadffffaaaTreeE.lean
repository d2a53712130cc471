/-
  Walks of package tree: (*looker).right by recursion; Right.
-/
import Derived.Test.YtcmjgaadffffaaaTreeD
namespace Go.Proofs.Ytcmjgaadffffaaa
open Go.RowKit

/-- append, grown or not, as one step of a region that draws. -/
theorem step_append_g {P : Program} {ops : Array Oper} {o : Oper} {a : Act} {w : World} {K : Act → World → Prop} {Q : Exit → Act → World → Prop} {E : Prop}
    (hg : o.guard = none) (s x : Operand) (t : TypeId) (hop : o.op = Op.call { callee := Callee.builtin Builtin.append, args := #[s, x], argTypes := #[t, t] })
    (e : TypeId) (i : TypeInfo) (z : Value) (size bytes : Nat) (ht : P.underlying t = some (.slice e)) (hi : P.info? e = some i) (hz : i.zero = some z)
    (hsize : i.size = size) (hby : i.bytes = bytes) (hzs : z.cells.size = size) (hsz : 0 < size)
    (v : Value) (n : Nat) (xs : List Value) (hs : a.eval s = v) (hown : w.ownsRow 0 e size v n xs)
    (ad : Addr) (m c : Nat) (news : List Value) (hx : a.eval x = .slice (some ad) m c) (hl : news.length = m * size) (hnews : ∀ j u, news[j]? = some u → w.cell? (ad.add j) = some u) (h1 : ∀ u ∈ news, u.oneCell' = true)
    (h63 : n + m ≤ maxLen) (hbytes : (n + m) * bytes ≤ 140737488355328)
    (hK : ∀ v' w', w'.ownsRow 0 e size v' (n + m) (xs ++ news) → Appd m v v' w w' → K (a.put o.dst v') w') :
    if Region.wanted o (yielded ops a.tmps) = true then Oper.wp P o a w K Q else E := by
  have hw : Region.wanted o (yielded ops a.tmps) = true := by simp [Region.wanted, hg]
  rw [if_pos hw]
  obtain ⟨v', w', hr, h2, h3⟩ := run_append_g (P := P) w t o.type e i z size bytes ht hi hz hsize hby hzs hsz v n xs hown ad m c news hl hnews h1 h63 hbytes
  unfold Oper.wp execOp
  simp only [hop, resolve, invoke, builtin, Sem.run_bind, Sem.run_pure, Result.andThen_ok, List.map_toArray, List.map_cons, List.map_nil, hs, hx, hr]
  exact hK _ _ h2 h3

theorem info_int : (Try.prog.info? 3).map (fun i => (i.zero, i.size, i.bytes)) = some (some (.int .i64 0), 1, 8) := by kernel_rfl

/-- The blocks that a looker has for its own. -/
def LS (b : Nat) (g : Option Nat) : Nat → Prop := fun k => k = b ∨ g = some k

theorem Lk.ls {b : Nat} {o : Int} {c : List Int} {g : Option Nat} {w : World} (h : Lk b o c g w) : ∀ k, LS b g k → k < w.heap.size := by
  intro k hk
  rcases hk with rfl | hk
  · exact h.lt
  · obtain ⟨u, _, hown, hg, _⟩ := h
    rcases hown.2 with ⟨rfl, _⟩ | ⟨r, cap, cur, rfl, _, hr, _⟩
    · rw [hk] at hg; cases hg
    · rw [hk] at hg; injection hg with hg; subst hg; exact lt_heap hr

section
variable {b : Nat} {o : Int} {c : List Int} {g : Option Nat} {w W0 w3 : World} {v v' : Value} {gn : Int}
theorem push_cells (hbk : w.heap[b]? = some (.cells #[.int .i64 o, v] 83 (0, 0))) (hg : v.ownBlock = g) (hne : g ≠ some b) (f : Fr nob w W0) (hap : Appd 1 v v' W0 w3) :
    w3.heap[b]? = some (.cells #[.int .i64 o, v] 83 (0, 0)) ∧ w3.cell? ⟨b, 1, none⟩ = some v ∧ w3.frozen? ⟨b, 1, none⟩ = false := by
  have h := hap.fr.heap (f.heap hbk (fun x => x)) (fun e => hne (by rw [← hg, e]))
  exact ⟨h, cell_at h rfl, unfrozen_at h 1⟩
theorem Lk.push (hbk : w.heap[b]? = some (.cells #[.int .i64 o, v] 83 (0, 0))) (hg : v.ownBlock = g) (hne : g ≠ some b) (f : Fr nob w W0) (hap : Appd 1 v v' W0 w3)
    (hown : w3.ownsRow 0 3 1 v' (c.length + 1) (c.map (Value.int .i64) ++ [.int .i64 gn])) :
    Lk b o (c ++ [gn]) v'.ownBlock (w3.setCell ⟨b, 1, none⟩ v') ∧ (∀ j, v'.ownBlock = some j → g = some j ∨ w.heap.size ≤ j) ∧ Fr (LS b g) w (w3.setCell ⟨b, 1, none⟩ v') := by
  obtain ⟨h3, _⟩ := push_cells hbk hg hne f hap
  have hlt := lt_heap hbk
  have hsz := f.size
  have hold : ∀ j, v'.ownBlock = some j → g = some j ∨ w.heap.size ≤ j := by
    intro j hj
    rcases hap.old j hj with h | h
    · exact .inl (by rw [← hg, h])
    · exact .inr (by omega)
  have hne' : v'.ownBlock ≠ some b := by
    intro e
    rcases hold b e with h | h
    · exact hne h
    · omega
  refine ⟨⟨v', by have := heap_setCell_at h3 1 v'; simpa using this, ?_, rfl, hne'⟩, hold, ?_⟩
  · have := ownsRow_fr hown ((Fr.refl (fun k => k = b) w3).setCell (p := ⟨b, 1, none⟩) (fun _ => rfl) v') (fun k hk e => hne' (by rw [hk, e]))
    simpa using this
  · exact (f.any.trans (hap.fr.mono (T := LS b g) fun k _ hk => .inr (by rw [← hg, hk])) (fun _ _ x => x)).setCell (p := ⟨b, 1, none⟩) (fun _ => .inl rfl) v'
end

/-- What 'right' leaves. -/
def Rgt (b : Nat) (o : Int) (c : List Int) (g : Option Nat) (n : Nd) (w : World) (e : Ending) (w' : World) : Prop :=
  e = .returned (.bool (n.look o c).isSome) ∧ Fr (LS b g) w w' ∧ ∀ o' c', n.look o c = some (o', c') → ∃ g', Lk b o' c' g' w' ∧ ∀ k, g' = some k → g = some k ∨ w.heap.size ≤ k

theorem LS.late {b : Nat} {g g' : Option Nat} {w : World} (h : ∀ k, g' = some k → g = some k ∨ w.heap.size ≤ k) : ∀ k, k < w.heap.size → LS b g' k → LS b g k := by
  intro k hk hl
  rcases hl with rfl | hl
  · exact .inl rfl
  · rcases h k hl with h | h
    · exact .inr h
    · omega

set_option maxRecDepth 100000 in
set_option maxHeartbeats 1000000 in
theorem right_any (m : Nat) : ∀ (n : Nd) (v : Value) (w : World) (b : Nat) (o : Int) (c : List Int) (g : Option Nat), n.size ≤ m → 0 ≤ o → o + n.size ≤ 3000000 → c.length + n.size ≤ 3000000 → Lk b o c g w → RN (LS b g) w n v →
    Calls Try.prog 23 #[.pointer (some ⟨b, 0, none⟩), v] w (Rgt b o c g n w) := by
  induction m with
  | zero => intro n v w b o c g h; have := n.size_pos; omega
  | succ m ih =>
    intro n v w b o c g hm h0 ho hc hL h
    have IH := Lib.hid ih; clear ih
    have hsk := Lib.hid n.size_kids
    have hlk := Nd.length_le n.kids
    have hkl : n.kids.length ≤ 3000000 := by have := hsk.out; omega
    have hpos := n.size_pos
    go_enter Try.func23, Try.ntmps23
    go_wp2_with fail
    refine (shaped_any b o c g n v w hL (by omega) h0 (by omega) (by omega) h.weak).mono ?_
    rintro e w1 ⟨rfl, L1, f1⟩
    cases hq : (n.shaped o c).1 with
    | false =>
      have hE := Nd.look_no hq
      go_wp2
      go_ret
      unfold Rgt
      rw [hE]
      exact ⟨rfl, f1.mono (fun k _ hk => .inl hk), fun _ _ h => by cases h⟩
    | true =>
      have hE := Nd.look_yes hq
      have hsl := Nd.shaped_le n o c
      obtain ⟨o1, ho1⟩ : ∃ o1, (n.shaped o c).2 = o1 := ⟨_, rfl⟩
      rw [ho1] at hE hsl L1
      have hot : (n.shaped o c).2 = o1 := ho1
      have HN1 := RN.keep f1 (S := LS b g) (S' := LS b g) (fun k _ hk => .inl hk) (fun _ _ x => x) n v h
      have hls := L1.ls
      have HV := Lib.hid h.tyv
      have HK := Lib.hid h.kind
      clear h hL ho1 hot
      go_wp2_with fail
      refine (kids_any (LS b g) n v w1 HN1 hls).mono ?_
      rintro e w2 ⟨u, rfl, s2, f2⟩
      obtain ⟨a, cp, rfl⟩ := s2.shape
      obtain ⟨F, hF⟩ : ∃ F, Nd.looks n.kids o1 c = F := ⟨_, rfl⟩
      rw [hF] at hE
      have L2 := Lib.hid (L1.on f2); have S2 := Lib.hid s2; have F2 := Lib.hid f2; have F1 := Lib.hid f1; have HE := Lib.hid hE; have HF := Lib.hid hF
      clear L1 s2 f2 f1 hE hF HN1 hls hlk hq
      go_wp2_with fail
      go_loopw [16] (fun i wr => ∃ (k : Nat) (ok : Int) (ck : List Int) (gk : Option Nat), i = .int .i64 k ∧ k ≤ n.kids.length ∧ Nd.looks (n.kids.drop k) ok ck = F ∧ (o1 ≤ ok ∧ ok ≤ o1 + Nd.sizes (n.kids.take k) ∧ ck.length ≤ c.length + Nd.sizes (n.kids.take k)) ∧
        Lk b ok ck gk wr ∧ SN (LS b gk) wr n.kids (.slice a n.kids.length cp) ∧ Fr (LS b g) w2 wr ∧ (∀ j, gk = some j → g = some j ∨ w2.heap.size ≤ j)) (fun i _ => n.kids.length - (intOf i).toNat)
      case atStart => exact ⟨0, o1, c, g, rfl, Nat.zero_le _, HF.out, ⟨Int.le_refl _, by simp [Nd.sizes], by simp [Nd.sizes]⟩, L2.out, S2.out, Fr.refl _ _, fun j hj => .inl hj⟩
      case round =>
        obtain ⟨k, ok, ck, gk, rfl, hk, hF, hb, lk, sn, fr, hg⟩ := hrel
        have hst := Nd.sizes_take_le n.kids k
        have HRF := Lib.hid hF; have HLK := Lib.hid lk; have HSN := Lib.hid sn; have HFR := Lib.hid fr; have HG := Lib.hid hg; have HB := Lib.hid hb
        clear hF lk sn fr hg hb
        by_cases hlt : k < n.kids.length
        · obtain ⟨q, off, cap, x, he, hx, hc⟩ := HSN.out.get hlt
          injection he with e1 e2 e3
          subst e1; subst e3
          have hst2 := Lib.hid (Nd.sizes_take hlt)
          have hst3 := Lib.hid (Nd.sizes_take_le n.kids (k + 1))
          have hxs : n.kids[k].size < n.size := Nd.kid_lt (List.getElem_mem hlt)
          have HX := Lib.hid hx; clear hx e2
          have hdr := Lib.hid (List.drop_eq_getElem_cons hlt)
          go_wp2_with fail
          refine (IH.out n.kids[k] x _ b ok ck gk (by omega) (by have := HB.out; omega) (by have := HB.out; have := hst2.out; have := hst3.out; have := hsk.out; omega) (by have := HB.out; have := hst2.out; have := hst3.out; have := hsk.out; omega) HLK.out HX.out).mono ?_
          rintro e w3 ⟨rfl, f3, hlook⟩
          have F3 := Lib.hid f3; clear f3
          cases hq : n.kids[k].look ok ck with
          | none =>
            obtain rfl : F = none := by rw [← HRF.out, hdr.out, Nd.looks, hq]
            clear hq hlook
            go_wp2
            go_ret
            unfold Rgt
            rw [HE.out]
            exact ⟨rfl, ((F1.out.mono (T := LS b g) (fun k _ hk => .inl hk)).trans' F2.out.any).trans' (HFR.out.trans F3.out (LS.late HG.out)), fun _ _ h => by cases h⟩
          | some p =>
            obtain ⟨o', c'⟩ := p
            obtain ⟨g', l', hg'⟩ := hlook o' c' hq
            have hle := Nd.look_le _ _ _ _ _ hq
            have HNF := Lib.hid (show Nd.looks (n.kids.drop (k + 1)) o' c' = F by rw [← HRF.out, hdr.out, Nd.looks, hq])
            have HL' := Lib.hid l'; have HG' := Lib.hid hg'; have HLE := Lib.hid hle
            clear hlook l' hg' hle hq
            go_wp2
            go_roundw
            case rel => exact ⟨k + 1, o', c', g', by go_num, by omega, HNF.out, by have := HB.out; have := hst2.out; have := HLE.out; omega, HL'.out, HSN.out.keep F3.out (fun _ _ x => x) (LS.late HG'.out), HFR.out.trans F3.out (LS.late HG.out), fun j hj => by
              rcases HG'.out j hj with h | h
              · exact HG.out j h
              · have := HFR.out.size; exact .inr (by omega)⟩
            case measure => simp [intOf]; omega
        · obtain rfl : k = n.kids.length := by omega
          obtain rfl : F = some (ok, ck) := by rw [← HRF.out, List.drop_length, Nd.looks]
          by_cases hgr : ∃ gn x, n = .group gn x
          · obtain ⟨gn, y, rfl⟩ := hgr
            obtain ⟨uy, rfl, hy⟩ := HK.out
            have hysh := hy.shape
            obtain ⟨i0, hi, hz0, hz1, hz2⟩ := info_parts info_int
            obtain ⟨uc, hbk, hown, hug, hne⟩ := HLK.out
            obtain ⟨ac, cc, rfl⟩ := ownsRow_slice hown
            have hcl : ck.length ≤ 3000000 := by have := HB.out; have := hsk.out; omega
            have hbl := lt_heap hbk
            have c1 := fun X => cell_at (j := 1) ((((Fr.refl nob wr).alloc X).drew).heap hbk (fun x => x)) rfl
            clear hy
            rcases hysh with rfl | ⟨iu, xu, rfl⟩
            all_goals
              go_wp2_with fail

              have c0 : wr.cell? ⟨b, 1, none⟩ = some (.slice ac ck.length cc) := cell_at hbk rfl
              go_region_law (refine step_append_g rfl (.tmp 35) (.tmp 38) 78 rfl 3 i0 (.int .i64 0) 1 8 Try.underlying78 hi hz0 hz1 hz2 rfl (by decide) (.slice ac ck.length cc) ck.length (ck.map (Value.int .i64)) (by rfl) (by first | exact ownsRow_fr hown ((((Fr.refl nob wr).alloc _).alloc _).drew) (fun _ _ x => x) | exact ownsRow_fr hown ((((Fr.refl nob wr).alloc _).drew).alloc _) (fun _ _ x => x)) ⟨wr.heap.size + 1, 0, none⟩ 1 1 [.int .i64 gn] (by rfl) rfl (by intro j u hj; match j, hj with | 0, hj => simp at hj; subst hj; simp [Addr.add]) (by intro u hu; simp at hu; subst hu; rfl) (by unfold maxLen; omega) (by omega) ?_; intro v' w3 hown' hap; obtain ⟨av, cv, rfl⟩ := ownsRow_slice hown'; have hpush := (by first | exact Lib.hid (Lk.push hbk hug hne ((((Fr.refl nob wr).alloc _).alloc _).drew) hap hown') | exact Lib.hid (Lk.push hbk hug hne ((((Fr.refl nob wr).alloc _).drew).alloc _) hap hown')); obtain ⟨_, pc, pf⟩ := (by first | exact push_cells hbk hug hne ((((Fr.refl nob wr).alloc _).alloc _).drew) hap | exact push_cells hbk hug hne ((((Fr.refl nob wr).alloc _).drew).alloc _) hap); clear hown' hap)
              all_goals
                go_wp2
                go_ret
                unfold Rgt
                rw [HE.out]
                obtain ⟨p1, p2, p3⟩ := hpush.out
                refine ⟨rfl, ((F1.out.mono (T := LS b g) (fun k _ hk => .inl hk)).trans' F2.out.any).trans' (HFR.out.trans p3 (LS.late HG.out)), fun o' c' h => ?_⟩
                injection h with h; injection h with h1 h2; subst h1; subst h2
                refine ⟨_, p1, fun j hj => ?_⟩
                rcases p2 j hj with h | h
                · rcases HG.out j h with h | h
                  · exact .inl h
                  · have := F1.out.size; have := F2.out.size; exact .inr (by omega)
                · have := F1.out.size; have := F2.out.size; have := HFR.out.size; exact .inr (by omega)
          · have hsh : n.shut ck = ck := by cases n <;> first | rfl | exact (hgr ⟨_, _, rfl⟩).elim
            have HSH := Lib.hid hsh; clear hsh
            rcases HV.out with ⟨_, rfl⟩ | ⟨i, x, ht, rfl⟩
            · go_wp2
              go_ret
              unfold Rgt
              rw [HE.out]
              exact ⟨rfl, ((F1.out.mono (T := LS b g) (fun k _ hk => .inl hk)).trans' F2.out.any).trans' (HFR.out.trans' (((Fr.refl nob _).alloc _).any)), fun o' c' h => by
                injection h with h; injection h with h1 h2; subst h1; subst h2
                rw [HSH.out]
                exact ⟨gk, HLK.out.on ((Fr.refl _ _).alloc _), fun j hj => by
                  rcases HG.out j hj with h | h
                  · exact .inl h
                  · have := F1.out.size; have := F2.out.size; exact .inr (by omega)⟩⟩
            · have hi : i ≠ 67 := by
                cases n <;> simp only [Nd.ty, Option.some.injEq] at ht <;> first | (subst ht; decide) | (exact (hgr ⟨_, _, rfl⟩).elim) | cases ht
              clear ht hgr
              go_wp2
              go_ret
              unfold Rgt
              rw [HE.out]
              exact ⟨rfl, ((F1.out.mono (T := LS b g) (fun k _ hk => .inl hk)).trans' F2.out.any).trans' (HFR.out.trans' (((Fr.refl nob _).alloc _).any)), fun o' c' h => by
                injection h with h; injection h with h1 h2; subst h1; subst h2
                rw [HSH.out]
                exact ⟨gk, HLK.out.on ((Fr.refl _ _).alloc _), fun j hj => by
                  rcases HG.out j hj with h | h
                  · exact .inl h
                  · have := F1.out.size; have := F2.out.size; exact .inr (by omega)⟩⟩

end Go.Proofs.Ytcmjgaadffffaaa
