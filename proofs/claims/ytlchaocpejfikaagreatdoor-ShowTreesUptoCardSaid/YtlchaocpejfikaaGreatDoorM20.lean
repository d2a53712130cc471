/-
  Merged texts of this claim: TreeD, TreeE, TreeF.
-/
import Derived.Deep.RegionLaw
import Derived.Laws.OwnMore
import Derived.Test.YtlchaocpejfikaaGreatDoorM02
import Derived.Test.YtlchaocpejfikaaGreatDoorM18

/-
  Walks of package tree: shaped of any node; right; Right. What they answer in plain words: Nd.look.
-/
namespace Go.Proofs.YtlchaocpejfikaaGreatDoor
open Go.RowKit

mutual
/-- Is a node, when o groups were opened, and those of c closed? How many, and which, then are. -/
def Nd.look : Nd → Int → List Int → Option (Int × List Int)
  | .cat l, o, c => if (decide (1 < l.length) && !l.any (fun n => !n.plain)) = true then Nd.looks l o c else none
  | .alt l, o, c => if (decide (1 < l.length) && !l.any Nd.isAlt) = true then Nd.looks l o c else none
  | .rep x mn mx, o, c => if repOk x.atom mn mx = true then x.look o c else none
  | .group n x, o, c => if (n == o + 1) = true then (match x.look (o + 1) c with
      | none => none
      | some (o', c') => some (o', c' ++ [n])) else none
  | .back n, o, c => if c.contains n = true then some (o, c) else none
  | .nil, o, c | .empty, o, c | .one _, o, c | .start, o, c | .fin, o, c => some (o, c)
def Nd.looks : List Nd → Int → List Int → Option (Int × List Int)
  | [], o, c => some (o, c)
  | t :: ts, o, c => match t.look o c with
    | none => none
    | some (o', c') => Nd.looks ts o' c'
end

/-- What is closed with a node. -/
def Nd.shut (c : List Int) : Nd → List Int
  | .group n _ => c ++ [n]
  | _ => c

theorem looks_one (x : Nd) (o : Int) (c : List Int) : Nd.looks [x] o c = x.look o c := by
  rw [Nd.looks]
  cases x.look o c with
  | none => rfl
  | some p => simp [Nd.looks]

theorem Nd.look_no {n : Nd} {o : Int} {c : List Int} (h : (n.shaped o c).1 = false) : n.look o c = none := by
  cases n <;> simp only [Nd.shaped] at h <;> first | (simp only [Nd.look]; rw [h]; rfl) | cases h
theorem Nd.look_yes {n : Nd} {o : Int} {c : List Int} (h : (n.shaped o c).1 = true) : n.look o c = (match Nd.looks n.kids (n.shaped o c).2 c with
      | none => none
      | some (o', c') => some (o', n.shut c')) := by
  cases n with
  | cat l => simp only [Nd.shaped] at h; simp only [Nd.look, Nd.kids, Nd.shaped, Nd.shut, h]; cases Nd.looks l o c <;> rfl
  | alt l => simp only [Nd.shaped] at h; simp only [Nd.look, Nd.kids, Nd.shaped, Nd.shut, h]; cases Nd.looks l o c <;> rfl
  | rep x mn mx => simp only [Nd.shaped] at h; simp only [Nd.look, Nd.kids, Nd.shaped, Nd.shut, h, looks_one]; cases x.look o c <;> rfl
  | group k x => simp only [Nd.shaped] at h; simp only [Nd.look, Nd.kids, Nd.shaped, Nd.shut, h, looks_one]; cases x.look (o + 1) c <;> rfl
  | back k => simp only [Nd.shaped] at h; simp only [Nd.look, Nd.kids, Nd.shaped, Nd.shut, h, Nd.looks]; rfl
  | _ => rfl

mutual
theorem Nd.look_le : ∀ (n : Nd) (o : Int) (c : List Int) (o' : Int) (c' : List Int), n.look o c = some (o', c') → o ≤ o' ∧ o' ≤ o + n.size ∧ c'.length ≤ c.length + n.size
  | .cat l, o, c, o', c', h => by
    simp only [Nd.look] at h; split at h
    · have := Nd.looks_le l o c o' c' h; simp only [Nd.size]; omega
    · cases h
  | .alt l, o, c, o', c', h => by
    simp only [Nd.look] at h; split at h
    · have := Nd.looks_le l o c o' c' h; simp only [Nd.size]; omega
    · cases h
  | .rep x _ _, o, c, o', c', h => by
    simp only [Nd.look] at h; split at h
    · have := Nd.look_le x o c o' c' h; simp only [Nd.size]; omega
    · cases h
  | .group n x, o, c, o', c', h => by
    simp only [Nd.look] at h; split at h
    · split at h
      · cases h
      · rename_i a b e
        have := Nd.look_le x (o + 1) c a b e
        injection h with h; injection h with h1 h2; subst h1; subst h2
        simp only [Nd.size, List.length_append, List.length_cons, List.length_nil]; omega
    · cases h
  | .back n, o, c, o', c', h => by
    simp only [Nd.look] at h; split at h
    · injection h with h; injection h with h1 h2; subst h1; subst h2; omega
    · cases h
  | .nil, o, c, o', c', h => by simp only [Nd.look] at h; injection h with h; injection h with h1 h2; subst h1; subst h2; omega
  | .empty, o, c, o', c', h => by simp only [Nd.look] at h; injection h with h; injection h with h1 h2; subst h1; subst h2; omega
  | .one _, o, c, o', c', h => by simp only [Nd.look] at h; injection h with h; injection h with h1 h2; subst h1; subst h2; omega
  | .start, o, c, o', c', h => by simp only [Nd.look] at h; injection h with h; injection h with h1 h2; subst h1; subst h2; omega
  | .fin, o, c, o', c', h => by simp only [Nd.look] at h; injection h with h; injection h with h1 h2; subst h1; subst h2; omega
theorem Nd.looks_le : ∀ (l : List Nd) (o : Int) (c : List Int) (o' : Int) (c' : List Int), Nd.looks l o c = some (o', c') → o ≤ o' ∧ o' ≤ o + Nd.sizes l ∧ c'.length ≤ c.length + Nd.sizes l
  | [], o, c, o', c', h => by simp only [Nd.looks] at h; injection h with h; injection h with h1 h2; subst h1; subst h2; omega
  | t :: ts, o, c, o', c', h => by
    simp only [Nd.looks] at h; split at h
    · cases h
    · rename_i a b e
      have h1 := Nd.look_le t o c a b e
      have h2 := Nd.looks_le ts a b o' c' h
      simp only [Nd.sizes]; omega
end

theorem Nd.shaped_le (n : Nd) (o : Int) (c : List Int) : o ≤ (n.shaped o c).2 ∧ (n.shaped o c).2 ≤ o + 1 := by
  cases n <;> simp only [Nd.shaped] <;> omega

set_option maxRecDepth 100000 in
set_option maxHeartbeats 1000000 in
theorem shaped_any (b : Nat) (o : Int) (c : List Int) (g : Option Nat) (n : Nd) (v : Value) (w : World) (hL : Lk b o c g w) (hz : n.size ≤ 3000000) (h0 : 0 ≤ o) (h1 : o ≤ 3000000) (hc : c.length ≤ 3000000) (h : RN nob w n v) :
    Calls Tryz.prog 84 #[.pointer (some ⟨b, 0, none⟩), v] w (Shp b o c g n w) := by
  have plainly : ∀ i x, v = .iface i x → i ≠ 73 → i ≠ 74 → i ≠ 76 → i ≠ 78 → i ≠ 80 → n.shaped o c = (true, o) →
      Calls Tryz.prog 84 #[.pointer (some ⟨b, 0, none⟩), v] w (Shp b o c g n w) := by
    intro i x hv n1 n2 n3 n4 n5 hE
    have HL := Lib.hid hL; have HE := Lib.hid hE; clear hL hE h hz h0 h1 hc
    subst hv
    go_enter Tryz.func84, Tryz.ntmps84
    go_wp2_with fail
    go_ret
    unfold Shp
    rw [HE.out]
    exact ⟨rfl, HL.out, Fr.refl _ _⟩
  cases n with
  | cat l => exact shaped_cat b o c g l v w hL (by simp only [Nd.size] at hz; omega) h
  | alt l => exact shaped_alt b o c g l v w hL (by simp only [Nd.size] at hz; omega) h
  | rep x mn mx => exact shaped_rep b o c g x mn mx v w hL h
  | group k x => exact shaped_group b o c g k x v w hL h0 h1 h
  | back k => exact shaped_back b o c g k v w hL hc h
  | nil =>
    obtain rfl := h.kind
    have HL := Lib.hid hL; clear hL h hz h0 h1 hc plainly
    go_enter Tryz.func84, Tryz.ntmps84
    go_wp2_with fail
    go_ret
    exact ⟨rfl, HL.out, Fr.refl _ _⟩
  | empty => exact plainly _ _ h.kind (by decide) (by decide) (by decide) (by decide) (by decide) rfl
  | one s => exact plainly _ _ h.kind (by decide) (by decide) (by decide) (by decide) (by decide) rfl
  | start => exact plainly _ _ h.kind (by decide) (by decide) (by decide) (by decide) (by decide) rfl
  | fin => exact plainly _ _ h.kind (by decide) (by decide) (by decide) (by decide) (by decide) rfl

end Go.Proofs.YtlchaocpejfikaaGreatDoor

/-
  Walks of package tree: (*looker).right by recursion; Right.
-/
namespace Go.Proofs.YtlchaocpejfikaaGreatDoor
open Go.RowKit

/-- append, grown or not, as one step of a region that draws. -/
theorem step_append_g {P : Program} {ops : Array Oper} {o : Oper} {a : Act} {w : World} {K : Act → World → Prop} {Q : Exit → Act → World → Prop} {E : Prop}
    (hg : o.guard = none) (s x : Operand) (t : TypeId) (hop : o.op = Op.call { callee := Callee.builtin Builtin.append, args := #[s, x], argTypes := #[t, t] })
    (e : TypeId) (i : TypeInfo) (z : Value) (size bytes : Nat) (ht : P.underlying t = some (.slice e)) (hi : P.info? e = some i) (hz : i.zero = some z)
    (hsize : i.size = size) (hby : i.bytes = bytes) (hzs : z.cells.size = size) (hsz : 0 < size)
    (v : Value) (n : Nat) (xs : List Value) (hs : a.eval s = v) (hown : w.ownsRow 0 e size v n xs)
    (ad : Addr) (m c : Nat) (news : List Value) (hx : a.eval x = .slice (some ad) m c) (hl : news.length = m * size) (hnews : ∀ j u, news[j]? = some u → w.cell? (ad.add j) = some u) (h1 : ∀ u ∈ news, u.oneCell' = true)
    (h63 : n + m ≤ maxLen) (hbytes : (n + m) * bytes ≤ 140737488355328)
    (hK : ∀ v' w', w'.ownsRow 0 e size v' (n + m) (xs ++ news) → Appd m v v' w w' → K (a.put o.dst v') w') :
    if Region.wanted o (yielded ops a.tmps) = true then Oper.wp P o a w K Q else E := by
  have hw : Region.wanted o (yielded ops a.tmps) = true := by simp [Region.wanted, hg]
  rw [if_pos hw]
  obtain ⟨v', w', hr, h2, h3⟩ := run_append_g (P := P) w t o.type e i z size bytes ht hi hz hsize hby hzs hsz v n xs hown ad m c news hl hnews h1 h63 hbytes
  unfold Oper.wp execOp
  simp only [hop, resolve, invoke, builtin, Sem.run_bind, Sem.run_pure, Result.andThen_ok, List.map_toArray, List.map_cons, List.map_nil, hs, hx, hr]
  exact hK _ _ h2 h3

theorem info_int : (Tryz.prog.info? 3).map (fun i => (i.zero, i.size, i.bytes)) = some (some (.int .i64 0), 1, 8) := by kernel_rfl

/-- The blocks that a looker has for its own. -/
def LS (b : Nat) (g : Option Nat) : Nat → Prop := fun k => k = b ∨ g = some k

theorem Lk.ls {b : Nat} {o : Int} {c : List Int} {g : Option Nat} {w : World} (h : Lk b o c g w) : ∀ k, LS b g k → k < w.heap.size := by
  intro k hk
  rcases hk with rfl | hk
  · exact h.lt
  · obtain ⟨u, _, hown, hg, _⟩ := h
    rcases hown.2 with ⟨rfl, _⟩ | ⟨r, cap, cur, rfl, _, hr, _⟩
    · rw [hk] at hg; cases hg
    · rw [hk] at hg; injection hg with hg; subst hg; exact lt_heap hr

section
variable {b : Nat} {o : Int} {c : List Int} {g : Option Nat} {w W0 w3 : World} {v v' : Value} {gn : Int}
theorem push_cells (hbk : w.heap[b]? = some (.cells #[.int .i64 o, v] 121 (0, 0))) (hg : v.ownBlock = g) (hne : g ≠ some b) (f : Fr nob w W0) (hap : Appd 1 v v' W0 w3) :
    w3.heap[b]? = some (.cells #[.int .i64 o, v] 121 (0, 0)) ∧ w3.cell? ⟨b, 1, none⟩ = some v ∧ w3.frozen? ⟨b, 1, none⟩ = false := by
  have h := hap.fr.heap (f.heap hbk (fun x => x)) (fun e => hne (by rw [← hg, e]))
  exact ⟨h, cell_at h rfl, unfrozen_at h 1⟩
theorem Lk.push (hbk : w.heap[b]? = some (.cells #[.int .i64 o, v] 121 (0, 0))) (hg : v.ownBlock = g) (hne : g ≠ some b) (f : Fr nob w W0) (hap : Appd 1 v v' W0 w3)
    (hown : w3.ownsRow 0 3 1 v' (c.length + 1) (c.map (Value.int .i64) ++ [.int .i64 gn])) :
    Lk b o (c ++ [gn]) v'.ownBlock (w3.setCell ⟨b, 1, none⟩ v') ∧ (∀ j, v'.ownBlock = some j → g = some j ∨ w.heap.size ≤ j) ∧ Fr (LS b g) w (w3.setCell ⟨b, 1, none⟩ v') := by
  obtain ⟨h3, _⟩ := push_cells hbk hg hne f hap
  have hlt := lt_heap hbk
  have hsz := f.size
  have hold : ∀ j, v'.ownBlock = some j → g = some j ∨ w.heap.size ≤ j := by
    intro j hj
    rcases hap.old j hj with h | h
    · exact .inl (by rw [← hg, h])
    · exact .inr (by omega)
  have hne' : v'.ownBlock ≠ some b := by
    intro e
    rcases hold b e with h | h
    · exact hne h
    · omega
  refine ⟨⟨v', by have := heap_setCell_at h3 1 v'; simpa using this, ?_, rfl, hne'⟩, hold, ?_⟩
  · have := ownsRow_fr hown ((Fr.refl (fun k => k = b) w3).setCell (p := ⟨b, 1, none⟩) (fun _ => rfl) v') (fun k hk e => hne' (by rw [hk, e]))
    simpa using this
  · exact (f.any.trans (hap.fr.mono (T := LS b g) fun k _ hk => .inr (by rw [← hg, hk])) (fun _ _ x => x)).setCell (p := ⟨b, 1, none⟩) (fun _ => .inl rfl) v'
end

/-- What 'right' leaves. -/
def Rgt (b : Nat) (o : Int) (c : List Int) (g : Option Nat) (n : Nd) (w : World) (e : Ending) (w' : World) : Prop :=
  e = .returned (.bool (n.look o c).isSome) ∧ Fr (LS b g) w w' ∧ ∀ o' c', n.look o c = some (o', c') → ∃ g', Lk b o' c' g' w' ∧ ∀ k, g' = some k → g = some k ∨ w.heap.size ≤ k

theorem LS.late {b : Nat} {g g' : Option Nat} {w : World} (h : ∀ k, g' = some k → g = some k ∨ w.heap.size ≤ k) : ∀ k, k < w.heap.size → LS b g' k → LS b g k := by
  intro k hk hl
  rcases hl with rfl | hl
  · exact .inl rfl
  · rcases h k hl with h | h
    · exact .inr h
    · omega

set_option maxRecDepth 100000 in
set_option maxHeartbeats 1000000 in
theorem right_any (m : Nat) : ∀ (n : Nd) (v : Value) (w : World) (b : Nat) (o : Int) (c : List Int) (g : Option Nat), n.size ≤ m → 0 ≤ o → o + n.size ≤ 3000000 → c.length + n.size ≤ 3000000 → Lk b o c g w → RN (LS b g) w n v →
    Calls Tryz.prog 58 #[.pointer (some ⟨b, 0, none⟩), v] w (Rgt b o c g n w) := by
  induction m with
  | zero => intro n v w b o c g h; have := n.size_pos; omega
  | succ m ih =>
    intro n v w b o c g hm h0 ho hc hL h
    have IH := Lib.hid ih; clear ih
    have hsk := Lib.hid n.size_kids
    have hlk := Nd.length_le n.kids
    have hkl : n.kids.length ≤ 3000000 := by have := hsk.out; omega
    have hpos := n.size_pos
    go_enter Tryz.func58, Tryz.ntmps58
    go_wp2_with fail
    refine (shaped_any b o c g n v w hL (by omega) h0 (by omega) (by omega) h.weak).mono ?_
    rintro e w1 ⟨rfl, L1, f1⟩
    cases hq : (n.shaped o c).1 with
    | false =>
      have hE := Nd.look_no hq
      go_wp2
      go_ret
      unfold Rgt
      rw [hE]
      exact ⟨rfl, f1.mono (fun k _ hk => .inl hk), fun _ _ h => by cases h⟩
    | true =>
      have hE := Nd.look_yes hq
      have hsl := Nd.shaped_le n o c
      obtain ⟨o1, ho1⟩ : ∃ o1, (n.shaped o c).2 = o1 := ⟨_, rfl⟩
      rw [ho1] at hE hsl L1
      have hot : (n.shaped o c).2 = o1 := ho1
      have HN1 := RN.keep f1 (S := LS b g) (S' := LS b g) (fun k _ hk => .inl hk) (fun _ _ x => x) n v h
      have hls := L1.ls
      have HV := Lib.hid h.tyv
      have HK := Lib.hid h.kind
      clear h hL ho1 hot
      go_wp2_with fail
      refine (kids_any (LS b g) n v w1 HN1 hls).mono ?_
      rintro e w2 ⟨u, rfl, s2, f2⟩
      obtain ⟨a, cp, rfl⟩ := s2.shape
      obtain ⟨F, hF⟩ : ∃ F, Nd.looks n.kids o1 c = F := ⟨_, rfl⟩
      rw [hF] at hE
      have L2 := Lib.hid (L1.on f2); have S2 := Lib.hid s2; have F2 := Lib.hid f2; have F1 := Lib.hid f1; have HE := Lib.hid hE; have HF := Lib.hid hF
      clear L1 s2 f2 f1 hE hF HN1 hls hlk hq
      go_wp2_with fail
      go_loopw [16] (fun i wr => ∃ (k : Nat) (ok : Int) (ck : List Int) (gk : Option Nat), i = .int .i64 k ∧ k ≤ n.kids.length ∧ Nd.looks (n.kids.drop k) ok ck = F ∧ (o1 ≤ ok ∧ ok ≤ o1 + Nd.sizes (n.kids.take k) ∧ ck.length ≤ c.length + Nd.sizes (n.kids.take k)) ∧
        Lk b ok ck gk wr ∧ SN (LS b gk) wr n.kids (.slice a n.kids.length cp) ∧ Fr (LS b g) w2 wr ∧ (∀ j, gk = some j → g = some j ∨ w2.heap.size ≤ j)) (fun i _ => n.kids.length - (intOf i).toNat)
      case atStart => exact ⟨0, o1, c, g, rfl, Nat.zero_le _, HF.out, ⟨Int.le_refl _, by simp [Nd.sizes], by simp [Nd.sizes]⟩, L2.out, S2.out, Fr.refl _ _, fun j hj => .inl hj⟩
      case round =>
        obtain ⟨k, ok, ck, gk, rfl, hk, hF, hb, lk, sn, fr, hg⟩ := hrel
        have hst := Nd.sizes_take_le n.kids k
        have HRF := Lib.hid hF; have HLK := Lib.hid lk; have HSN := Lib.hid sn; have HFR := Lib.hid fr; have HG := Lib.hid hg; have HB := Lib.hid hb
        clear hF lk sn fr hg hb
        by_cases hlt : k < n.kids.length
        · obtain ⟨q, off, cap, x, he, hx, hc⟩ := HSN.out.get hlt
          injection he with e1 e2 e3
          subst e1; subst e3
          have hst2 := Lib.hid (Nd.sizes_take hlt)
          have hst3 := Lib.hid (Nd.sizes_take_le n.kids (k + 1))
          have hxs : n.kids[k].size < n.size := Nd.kid_lt (List.getElem_mem hlt)
          have HX := Lib.hid hx; clear hx e2
          have hdr := Lib.hid (List.drop_eq_getElem_cons hlt)
          go_wp2_with fail
          refine (IH.out n.kids[k] x _ b ok ck gk (by omega) (by have := HB.out; omega) (by have := HB.out; have := hst2.out; have := hst3.out; have := hsk.out; omega) (by have := HB.out; have := hst2.out; have := hst3.out; have := hsk.out; omega) HLK.out HX.out).mono ?_
          rintro e w3 ⟨rfl, f3, hlook⟩
          have F3 := Lib.hid f3; clear f3
          cases hq : n.kids[k].look ok ck with
          | none =>
            obtain rfl : F = none := by rw [← HRF.out, hdr.out, Nd.looks, hq]
            clear hq hlook
            go_wp2
            go_ret
            unfold Rgt
            rw [HE.out]
            exact ⟨rfl, ((F1.out.mono (T := LS b g) (fun k _ hk => .inl hk)).trans' F2.out.any).trans' (HFR.out.trans F3.out (LS.late HG.out)), fun _ _ h => by cases h⟩
          | some p =>
            obtain ⟨o', c'⟩ := p
            obtain ⟨g', l', hg'⟩ := hlook o' c' hq
            have hle := Nd.look_le _ _ _ _ _ hq
            have HNF := Lib.hid (show Nd.looks (n.kids.drop (k + 1)) o' c' = F by rw [← HRF.out, hdr.out, Nd.looks, hq])
            have HL' := Lib.hid l'; have HG' := Lib.hid hg'; have HLE := Lib.hid hle
            clear hlook l' hg' hle hq
            go_wp2
            go_roundw
            case rel => exact ⟨k + 1, o', c', g', by go_num, by omega, HNF.out, by have := HB.out; have := hst2.out; have := HLE.out; omega, HL'.out, HSN.out.keep F3.out (fun _ _ x => x) (LS.late HG'.out), HFR.out.trans F3.out (LS.late HG.out), fun j hj => by
              rcases HG'.out j hj with h | h
              · exact HG.out j h
              · have := HFR.out.size; exact .inr (by omega)⟩
            case measure => simp [intOf]; omega
        · obtain rfl : k = n.kids.length := by omega
          obtain rfl : F = some (ok, ck) := by rw [← HRF.out, List.drop_length, Nd.looks]
          by_cases hgr : ∃ gn x, n = .group gn x
          · obtain ⟨gn, y, rfl⟩ := hgr
            obtain ⟨uy, rfl, hy⟩ := HK.out
            have hysh := hy.shape
            obtain ⟨i0, hi, hz0, hz1, hz2⟩ := info_parts info_int
            obtain ⟨uc, hbk, hown, hug, hne⟩ := HLK.out
            obtain ⟨ac, cc, rfl⟩ := ownsRow_slice hown
            have hcl : ck.length ≤ 3000000 := by have := HB.out; have := hsk.out; omega
            have hbl := lt_heap hbk
            have c1 := fun X => cell_at (j := 1) ((((Fr.refl nob wr).alloc X).drew).heap hbk (fun x => x)) rfl
            clear hy
            rcases hysh with rfl | ⟨iu, xu, rfl⟩
            all_goals
              go_wp2_with fail

              have c0 : wr.cell? ⟨b, 1, none⟩ = some (.slice ac ck.length cc) := cell_at hbk rfl
              go_region_law (refine step_append_g rfl (.tmp 35) (.tmp 38) 85 rfl 3 i0 (.int .i64 0) 1 8 Tryz.underlying85 hi hz0 hz1 hz2 rfl (by decide) (.slice ac ck.length cc) ck.length (ck.map (Value.int .i64)) (by rfl) (by first | exact ownsRow_fr hown ((((Fr.refl nob wr).alloc _).alloc _).drew) (fun _ _ x => x) | exact ownsRow_fr hown ((((Fr.refl nob wr).alloc _).drew).alloc _) (fun _ _ x => x)) ⟨wr.heap.size + 1, 0, none⟩ 1 1 [.int .i64 gn] (by rfl) rfl (by intro j u hj; match j, hj with | 0, hj => simp at hj; subst hj; simp [Addr.add]) (by intro u hu; simp at hu; subst hu; rfl) (by unfold maxLen; omega) (by omega) ?_; intro v' w3 hown' hap; obtain ⟨av, cv, rfl⟩ := ownsRow_slice hown'; have hpush := (by first | exact Lib.hid (Lk.push hbk hug hne ((((Fr.refl nob wr).alloc _).alloc _).drew) hap hown') | exact Lib.hid (Lk.push hbk hug hne ((((Fr.refl nob wr).alloc _).drew).alloc _) hap hown')); obtain ⟨_, pc, pf⟩ := (by first | exact push_cells hbk hug hne ((((Fr.refl nob wr).alloc _).alloc _).drew) hap | exact push_cells hbk hug hne ((((Fr.refl nob wr).alloc _).drew).alloc _) hap); clear hown' hap)
              all_goals
                go_wp2
                go_ret
                unfold Rgt
                rw [HE.out]
                obtain ⟨p1, p2, p3⟩ := hpush.out
                refine ⟨rfl, ((F1.out.mono (T := LS b g) (fun k _ hk => .inl hk)).trans' F2.out.any).trans' (HFR.out.trans p3 (LS.late HG.out)), fun o' c' h => ?_⟩
                injection h with h; injection h with h1 h2; subst h1; subst h2
                refine ⟨_, p1, fun j hj => ?_⟩
                rcases p2 j hj with h | h
                · rcases HG.out j h with h | h
                  · exact .inl h
                  · have := F1.out.size; have := F2.out.size; exact .inr (by omega)
                · have := F1.out.size; have := F2.out.size; have := HFR.out.size; exact .inr (by omega)
          · have hsh : n.shut ck = ck := by cases n <;> first | rfl | exact (hgr ⟨_, _, rfl⟩).elim
            have HSH := Lib.hid hsh; clear hsh
            rcases HV.out with ⟨_, rfl⟩ | ⟨i, x, ht, rfl⟩
            · go_wp2
              go_ret
              unfold Rgt
              rw [HE.out]
              exact ⟨rfl, ((F1.out.mono (T := LS b g) (fun k _ hk => .inl hk)).trans' F2.out.any).trans' (HFR.out.trans' (((Fr.refl nob _).alloc _).any)), fun o' c' h => by
                injection h with h; injection h with h1 h2; subst h1; subst h2
                rw [HSH.out]
                exact ⟨gk, HLK.out.on ((Fr.refl _ _).alloc _), fun j hj => by
                  rcases HG.out j hj with h | h
                  · exact .inl h
                  · have := F1.out.size; have := F2.out.size; exact .inr (by omega)⟩⟩
            · have hi : i ≠ 78 := by
                cases n <;> simp only [Nd.ty, Option.some.injEq] at ht <;> first | (subst ht; decide) | (exact (hgr ⟨_, _, rfl⟩).elim) | cases ht
              clear ht hgr
              go_wp2
              go_ret
              unfold Rgt
              rw [HE.out]
              exact ⟨rfl, ((F1.out.mono (T := LS b g) (fun k _ hk => .inl hk)).trans' F2.out.any).trans' (HFR.out.trans' (((Fr.refl nob _).alloc _).any)), fun o' c' h => by
                injection h with h; injection h with h1 h2; subst h1; subst h2
                rw [HSH.out]
                exact ⟨gk, HLK.out.on ((Fr.refl _ _).alloc _), fun j hj => by
                  rcases HG.out j hj with h | h
                  · exact .inl h
                  · have := F1.out.size; have := F2.out.size; exact .inr (by omega)⟩⟩

end Go.Proofs.YtlchaocpejfikaaGreatDoor

/-
  Walks of package tree: Right; Join, Choose. A call's own slice of nodes, and append to it.
-/
namespace Go.Proofs.YtlchaocpejfikaaGreatDoor
open Go.RowKit

/-- Is a tree right? -/
def Nd.right (n : Nd) : Bool := (n.look 0 []).isSome

theorem right_of (n : Nd) (v : Value) (w : World) (hn : n.size ≤ 3000000) (h : RN nob w n v) :
    Calls Tryz.prog 36 #[v] w fun e w' => e = .returned (.bool n.right) ∧ Fr nob w w' := by
  have H := Lib.hid h; clear h
  go_enter Tryz.func36, Tryz.ntmps36
  go_wp2_with fail
  have f1 : Fr nob w (w.alloc (.cells #[.int .i64 0, .slice none 0 0] 121)) := (Fr.refl _ _).alloc _
  have L : Lk w.heap.size 0 [] none (w.alloc (.cells #[.int .i64 0, .slice none 0 0] 121)) :=
    ⟨.slice none 0 0, heap_alloc_new _ _, World.ownsRow_nil _ _ _ _, rfl, by simp⟩
  refine (right_any n.size n v _ w.heap.size 0 [] none (Nat.le_refl _) (by omega) (by omega) (by simpa using hn) L (RN.keep (S' := LS w.heap.size none) f1 (fun _ _ x => x) (fun k hk x => by
    rcases x with rfl | x
    · omega
    · cases x) _ _ H.out)).mono ?_
  rintro e w1 ⟨rfl, f2, _⟩
  have F1 := Lib.hid f1; have F2 := Lib.hid f2; clear f1 f2 L
  go_wp2
  go_ret
  refine ⟨rfl, F1.out.trans F2.out (fun i hi x => ?_)⟩
  rcases x with rfl | x
  · omega
  · cases x

/-- The block of a call's own slice. -/
def LG (g : Option Nat) : Nat → Prop := fun k => g = some k

theorem LG.late {g g' : Option Nat} {w : World} (h : ∀ k, g' = some k → g = some k ∨ w.heap.size ≤ k) : ∀ k, k < w.heap.size → LG g' k → LG g k := by
  intro k hk hl
  rcases h k hl with h | h
  · exact h
  · omega

/-- A call's own slice of nodes. -/
def OwnN (w : World) (l : List Nd) (v : Value) (g : Option Nat) : Prop := ∃ vs, w.ownsRow 0 36 1 v l.length vs ∧ VN (LG g) w l vs ∧ v.ownBlock = g

theorem OwnN.nil (w : World) : OwnN w [] (.slice none 0 0) none := ⟨[], World.ownsRow_nil _ _ _ _, rfl, rfl⟩
theorem OwnN.on {w w' : World} {l : List Nd} {v : Value} {g : Option Nat} (h : OwnN w l v g) (f : Fr nob w w') : OwnN w' l v g := by
  obtain ⟨vs, h1, h2, h3⟩ := h
  exact ⟨vs, ownsRow_fr h1 f (fun _ _ x => x), h2.keep f (fun _ _ x => x.elim) (fun _ _ x => x), h3⟩
theorem OwnN.shape {w : World} {l : List Nd} {v : Value} {g : Option Nat} (h : OwnN w l v g) : ∃ a c, v = .slice a l.length c := by
  obtain ⟨vs, h1, h2, h3⟩ := h; exact ownsRow_slice h1
theorem OwnN.sn {w : World} {l : List Nd} {v : Value} {g : Option Nat} (h : OwnN w l v g) : SN nob w l v := by
  obtain ⟨vs, h1, h2, h3⟩ := h
  exact SN.of_own h1 (h2.keep (S' := nob) (Fr.refl nob w) (fun _ _ x => x.elim) (fun _ _ x => x.elim)) (fun _ _ x => x)

theorem info_node : (Tryz.prog.info? 36).map (fun i => (i.zero, i.size, i.bytes)) = some (some .nilIface, 1, 16) := by kernel_rfl

/-- Values of nodes are one cell each. -/
theorem VN.cell1 {S : Nat → Prop} {w : World} : ∀ {l : List Nd} {vs : List Value}, VN S w l vs → ∀ u ∈ vs, u.oneCell' = true
  | [], _, h, u, hu => by rw [VN] at h; subst h; cases hu
  | t :: ts, _, h, u, hu => by
    rw [VN] at h; obtain ⟨v, r, rfl, h1, h⟩ := h
    rcases List.mem_cons.1 hu with rfl | hu
    · rcases h1.shape with rfl | ⟨i, x, rfl⟩ <;> rfl
    · exact VN.cell1 h u hu

theorem wpList_append_sn {w : World} {ops : Array Oper} {rest : List Oper} {o : Oper} {a : Act} {Q : Exit → Act → World → Prop} (hgd : o.guard = none) (s x : Operand)
    (ho : o.op = .call { callee := .builtin .append, args := #[s, x], argTypes := #[68, 68] })
    (l m : List Nd) (v ux : Value) (g : Option Nat) (hs : a.eval s = v) (hown : OwnN w l v g) (hx : a.eval x = ux) (hm : SN (LG g) w m ux) (hb : l.length + m.length ≤ 3000000)
    (h : ∀ v' w' g', OwnN w' (l ++ m) v' g' → Fr (LG g) w w' → (∀ k, g' = some k → g = some k ∨ w.heap.size ≤ k) → wpList Tryz.prog ops Q rest (a.put o.dst v') w') : wpList Tryz.prog ops Q (o :: rest) a w := by
  obtain ⟨i0, hi, hz0, hz1, hz2⟩ := info_parts info_node
  obtain ⟨vs, h1, h2, h3⟩ := hown
  rcases hm with ⟨rfl, rfl⟩ | ⟨q, off, cap, rfl, _, hm⟩
  · refine wpList_plain hgd fun K hK => ?_
    have hr := run_append_owned_none (P := Tryz.prog) (w := w) 0 68 o.type 36 i0 1 Tryz.underlying68 hi v l.length vs h1
    unfold Oper.wp execOp
    simp only [ho, resolve, invoke, builtin, Sem.run_bind, Sem.run_pure, Result.andThen_ok, List.map_toArray, List.map_cons, List.map_nil, hs, hx, hr]
    exact hK _ _ (h v w g (by rw [List.append_nil]; exact ⟨vs, h1, h2, h3⟩) (Fr.refl _ _) (fun k hk => .inl hk))
  · obtain ⟨us, hu, ha⟩ := RNs.vals hm
    have hul := hu.length
    refine wpList_append_g hgd s x _ ho 36 i0 .nilIface 1 16 Tryz.underlying68 hi hz0 hz1 hz2 rfl (by decide) v l.length vs hs h1 ⟨q, off, none⟩ m.length cap us hx (by omega) (fun j u hj => by have := ha j u hj; by_cases hj0 : j = 0 <;> simpa [Addr.add, hj0] using this) hu.cell1 (by unfold maxLen; omega) (by omega) ?_
    intro v' w' hown' hap
    have hold : ∀ k, v'.ownBlock = some k → g = some k ∨ w.heap.size ≤ k := fun k hk => by
      rcases hap.old k hk with h | h
      · exact .inl (by rw [← h3, h])
      · exact .inr h
    have hfr : Fr (LG g) w w' := hap.fr.mono fun k _ hk => by unfold LG; rw [← h3, hk]
    refine h v' w' v'.ownBlock ⟨vs ++ us, by simpa using hown', (VN.append h2 hu).keep hfr (fun _ _ x => x) (LG.late hold), rfl⟩ hfr hold

/-- What stands for the parts: none, one, or all. -/
def onlyOf (l : List Nd) (n : Nd) : Nd := match l with
  | [] => .empty
  | [x] => x
  | _ => n

set_option maxRecDepth 100000 in
set_option maxHeartbeats 1000000 in
theorem only_any (l : List Nd) (n : Nd) (u v : Value) (w : World) (hl : l.length ≤ 3000000) (hu : SN nob w l u) (hn : RN nob w n v) :
    Calls Tryz.prog 42 #[u, v] w fun e w' => ∃ r, e = .returned r ∧ RN nob w' (onlyOf l n) r ∧ w = w' := by
  have HN := Lib.hid hn; clear hn
  match l, hu with
  | [], hu =>
    obtain ⟨a, c, rfl⟩ := hu.shape
    clear hu
    go_enter Tryz.func42, Tryz.ntmps42
    go_wp2
    go_ret
    exact ⟨_, rfl, by unfold onlyOf; rw [RN]; rfl, rfl⟩
  | [x], hu =>
    obtain ⟨q, off, cap, y, he, hy, hc⟩ := hu.get (k := 0) (by simp)
    have he' : u = .slice (some ⟨q, off, none⟩) 1 cap := he
    have hc' : w.cell? ⟨q, off, none⟩ = some y := by simpa using hc
    have HY := Lib.hid hy; clear hu hy he hc
    subst he'
    go_enter Tryz.func42, Tryz.ntmps42
    go_wp2
    go_ret
    exact ⟨_, rfl, HY.out, rfl⟩
  | x :: y :: l, hu =>
    obtain ⟨a, c, rfl⟩ := hu.shape
    clear hu
    have h2 : ¬ (((x :: y :: l).length : Nat) : Int) = 0 := by simp; omega
    have h3 : ¬ (((x :: y :: l).length : Nat) : Int) = 1 := by simp; omega
    obtain ⟨k, hk⟩ : ∃ k, (x :: y :: l).length = k := ⟨_, rfl⟩
    rw [hk] at h2 h3 hl ⊢
    clear hk
    go_enter Tryz.func42, Tryz.ntmps42
    go_wp2
    go_ret
    exact ⟨_, rfl, HN.out, rfl⟩

end Go.Proofs.YtlchaocpejfikaaGreatDoor
