/-
  Merged texts of this claim: EreM, Cell8, BldByte, BldStr, Builder, Claim, ClaimB.
-/
import Derived.MapKept
import Derived.ProofKit
import Derived.ChangeSame
import Derived.ChangeOld
import Derived.Below
import Derived.Carry
import Derived.OpenShut
import Derived.ShutString
import Derived.Test.YtmoeboknelnaoaaGreatDoorM01

/-
  A map from numbers to how often each was told: lookup, '++'. No walk.
-/
namespace Go.Proofs.YtmoeboknelnaoaaGreatDoor
open Go.RowKit Go.MapKept

/-- The map in block m tells of each number how often it stands in cl. -/
def IMap (w : World) (m : Nat) (cl : List Nat) : Prop := ∃ es clock, w.heap[m]? = some (.map es clock) ∧ Stamped es clock ∧
  (∀ x ∈ es.toList, ∃ k : Nat, x.key = .int .i64 k ∧ x.val = .int .i64 (cl.count k : Nat)) ∧ (∀ k ∈ cl, ∃ x ∈ es.toList, x.key = .int .i64 (k : Nat))
theorem IMap.fr {X : Nat → Prop} {w w' : World} {m : Nat} {cl : List Nat} (h : IMap w m cl) (f : Fr X w w') (hm : ¬ X m) : IMap w' m cl := by
  obtain ⟨es, clock, hb, h⟩ := h; exact ⟨es, clock, f.heap hb hm, h⟩
theorem IMap.lt {w : World} {m : Nat} {cl : List Nat} (h : IMap w m cl) : m < w.heap.size := by obtain ⟨es, clock, hb, _⟩ := h; exact lt_heap hb
theorem IMap.new {w : World} {m : Nat} (h : w.heap[m]? = some (.map #[] 0)) : IMap w m [] := ⟨#[], 0, h, stamped_empty 0, by simp, by simp⟩
theorem fr_setHeap {w : World} {m : Nat} (o : Obj) : Fr (fun k => k = m) w { w with heap := w.heap.setIfInBounds m o } :=
  ⟨rfl, rfl, rfl, by simp, fun k hk hn => by simp [Array.getElem?_setIfInBounds_ne (Ne.symm hn)]⟩

theorem nodup_inj {α : Type} {l : List α} (h : l.Nodup) {i j : Nat} (hi : i < l.length) (e : l[i]? = l[j]?) : i = j := by
  have hj : j < l.length := by
    rw [List.getElem?_eq_getElem hi] at e
    exact (List.getElem?_eq_some_iff.1 e.symm).1
  rw [List.getElem?_eq_getElem hi, List.getElem?_eq_getElem hj] at e
  injection e with e
  have hp := List.pairwise_iff_getElem.1 h
  rcases Nat.lt_trichotomy i j with hlt | rfl | hlt
  · exact absurd e (hp i j hi hj hlt)
  · rfl
  · exact absurd e.symm (hp j i hj hi hlt)
section
variable {P : Program} {mty kt et : TypeId}
theorem imap_look (hm : P.underlying mty = some (.map kt et)) (hd : P.underlying kt = some (.int .i64)) (hz : ∀ w, (zeroValue et).run P w = .ok (.int .i64 0) w) {w : World} {m : Nat} {cl : List Nat} (h : IMap w m cl) (n : Nat) :
    (Instr.lookup mty (.map (some m)) (.int .i64 n) false).run P w = .ok (.int .i64 (cl.count n : Nat)) w := by
  obtain ⟨es, clock, hb, hs, hv, hk⟩ := h
  have hks : ∀ x ∈ es.toList, IsKey (.int .i64) x.key := fun x hx => by obtain ⟨k, e, _⟩ := hv x hx; rw [e]; rfl
  have hkn : IsKey (.int .i64) (.int .i64 (n : Int)) := rfl
  rcases findNow_spec hkn es.toList 0 hks with ⟨h1, h2⟩ | ⟨j, e, h1, h2, h3⟩
  · have hc : cl.count n = 0 := List.count_eq_zero.2 fun hn => by obtain ⟨x, hx, e⟩ := hk n hn; exact h2 x hx e
    simp [Instr.lookup, run_underlying hm, MapKept.run_getObj_map hb, run_checkKey hd hkn, run_findKey hd h1, Result.andThen, hz, hc]
  · have he : e ∈ es.toList := List.mem_of_getElem? h2
    obtain ⟨k, e1, e2⟩ := hv e he
    rw [e1] at h3
    have : k = n := by injection h3 with _ h; omega
    subst this
    simp [Instr.lookup, run_underlying hm, MapKept.run_getObj_map hb, run_checkKey hd hkn, run_findKey hd h1, Result.andThen, e2]

theorem imap_update (hm : P.underlying mty = some (.map kt et)) (hd : P.underlying kt = some (.int .i64)) {w : World} {m : Nat} {cl : List Nat} (h : IMap w m cl) (n : Nat) :
    ∃ w', (Instr.mapUpdate mty (.map (some m)) (.int .i64 n) (.int .i64 ((cl.count n : Nat) + 1))).run P w = .ok () w' ∧ IMap w' m (cl ++ [n]) ∧ Fr (fun k => k = m) w w' := by
  obtain ⟨es, clock, hb, hs, hv, hk⟩ := h
  have hks : ∀ x ∈ es.toList, IsKey (.int .i64) x.key := fun x hx => by obtain ⟨k, e, _⟩ := hv x hx; rw [e]; rfl
  have hkn : IsKey (.int .i64) (.int .i64 (n : Int)) := rfl
  have hother : ∀ x ∈ es.toList, x.key ≠ .int .i64 (n : Nat) → ∃ k : Nat, x.key = .int .i64 k ∧ x.val = .int .i64 ((cl ++ [n]).count k : Nat) := fun x hx hne => by
    obtain ⟨k, k1, k2⟩ := hv x hx
    refine ⟨k, k1, ?_⟩
    have hkn : k ≠ n := by rintro rfl; exact hne k1
    rw [k2, List.count_append]
    simp [List.count_singleton, Ne.symm hkn]
  rcases findNow_spec hkn es.toList 0 hks with ⟨h1, h2⟩ | ⟨j, e, h1, h2, h3⟩
  · have hc : cl.count n = 0 := List.count_eq_zero.2 fun hn => by obtain ⟨x, hx, e⟩ := hk n hn; exact h2 x hx e
    refine ⟨{ w with heap := w.heap.setIfInBounds m (.map (es.push { key := .int .i64 n, val := .int .i64 ((cl.count n : Nat) + 1), born := clock }) (clock + 1)) }, ?_, ?_, fr_setHeap _⟩
    · simp [Instr.mapUpdate, run_underlying hm, MapKept.run_getObj_map hb, run_checkKey hd hkn, run_findKey hd h1, Result.andThen, MapKept.run_setObj_map _ hb]
    · refine ⟨_, _, (heap_set hb).1, stamped_push hs h2, ?_, ?_⟩
      · intro x hx
        simp only [Array.toList_push, List.mem_append, List.mem_singleton] at hx
        rcases hx with hx | rfl
        · exact hother x hx (h2 x hx)
        · exact ⟨n, rfl, by simp⟩
      · intro k hkc
        rcases List.mem_append.1 hkc with hkc | hkc
        · obtain ⟨x, hx, e⟩ := hk k hkc
          exact ⟨x, by simp [hx], e⟩
        · rw [List.mem_singleton] at hkc; subst hkc
          exact ⟨{ key := .int .i64 k, val := .int .i64 ((cl.count k : Nat) + 1), born := clock }, by simp, rfl⟩
  · have he : e ∈ es.toList := List.mem_of_getElem? h2
    have hj : es[j]? = some e := by simpa using h2
    have hjl : j < es.size := (Array.getElem?_eq_some_iff.1 hj).1
    have hkey : ∀ e', es[j]? = some e' → ({ e' with key := .int .i64 (n : Nat), val := .int .i64 ((cl.count n : Nat) + 1) } : MapEntry).key = e'.key := fun e' he' => by rw [hj] at he'; cases he'; exact h3.symm
    refine ⟨{ w with heap := w.heap.setIfInBounds m (.map (es.modify j fun x => { x with key := .int .i64 (n : Nat), val := .int .i64 ((cl.count n : Nat) + 1) }) clock) }, ?_, ?_, fr_setHeap _⟩
    · simp [Instr.mapUpdate, run_underlying hm, MapKept.run_getObj_map hb, run_checkKey hd hkn, run_findKey hd h1, Result.andThen, hj, h3, run_keyThatStays hkn, MapKept.run_setObj_map _ hb]
    · refine ⟨_, _, (heap_set hb).1, stamped_modify hs _ _ (fun _ _ => rfl) (fun e' _ he' => hkey e' he'), ?_, ?_⟩
      · intro y hy
        rw [Array.mem_toList_iff, Array.mem_iff_getElem?] at hy
        obtain ⟨i, hi⟩ := hy
        rw [Array.getElem?_modify] at hi
        split at hi
        · rw [show es[i]? = some e from by rw [← hj]; congr 1; omega] at hi
          simp only [Option.map_some, Option.some.injEq] at hi
          subst hi
          exact ⟨n, rfl, by simp⟩
        · next hij =>
          refine hother y (Array.mem_toList_iff.2 (Array.mem_of_getElem? hi)) fun hy => ?_
          have hil : i < es.size := (Array.getElem?_eq_some_iff.1 hi).1
          have e1 : (es.toList.map (·.key))[j]? = (es.toList.map (·.key))[i]? := by
            rw [List.getElem?_map, List.getElem?_map, Array.getElem?_toList, Array.getElem?_toList, hj, hi]
            simp only [Option.map_some, Option.some.injEq]
            rw [h3, hy]
          exact hij (nodup_inj hs.2.2 (by simpa using hjl) e1)
      · intro k hkc
        have hkeys := MapKept.modify_keys (es := es) j (fun x => { x with key := .int .i64 (n : Nat), val := .int .i64 ((cl.count n : Nat) + 1) }) hkey
        have : ∃ x ∈ es.toList, x.key = .int .i64 (k : Nat) := by
          rcases List.mem_append.1 hkc with h | h
          · exact hk k h
          · rw [List.mem_singleton] at h; subst h; exact ⟨e, he, h3⟩
        obtain ⟨y, hy, hyk⟩ := this
        have hm : (.int .i64 (k : Nat) : Value) ∈ (es.modify j (fun x => { x with key := .int .i64 (n : Nat), val := .int .i64 ((cl.count n : Nat) + 1) })).toList.map (·.key) := by
          rw [hkeys]; exact List.mem_map.2 ⟨y, hy, hyk⟩
        obtain ⟨z, hz, hzk⟩ := List.mem_map.1 hm
        exact ⟨z, hz, hzk⟩
end
end Go.Proofs.YtmoeboknelnaoaaGreatDoor

/-
  A block of eight cells, in every later world.
-/
namespace Go.Proofs.YtmoeboknelnaoaaGreatDoor
open Go.RowKit

theorem rule8 {w : World} {b : Nat} {v0 v1 v2 v3 v4 v5 v6 v7 : Value} {T : TypeId} (h : w.heap[b]? = some (.cells #[v0, v1, v2, v3, v4, v5, v6, v7] T (0, 0))) : ∀ w', Fr nob w w' →
    (w'.cell? ⟨b, 0, none⟩ = some v0 ∧ w'.cell? ⟨b, 1, none⟩ = some v1 ∧ w'.cell? ⟨b, 2, none⟩ = some v2 ∧ w'.cell? ⟨b, 3, none⟩ = some v3 ∧ w'.cell? ⟨b, 4, none⟩ = some v4 ∧ w'.cell? ⟨b, 5, none⟩ = some v5 ∧ w'.cell? ⟨b, 6, none⟩ = some v6 ∧ w'.cell? ⟨b, 7, none⟩ = some v7) ∧
    (w'.frozen? ⟨b, 0, none⟩ = false ∧ w'.frozen? ⟨b, 1, none⟩ = false ∧ w'.frozen? ⟨b, 2, none⟩ = false ∧ w'.frozen? ⟨b, 3, none⟩ = false ∧ w'.frozen? ⟨b, 4, none⟩ = false ∧ w'.frozen? ⟨b, 5, none⟩ = false ∧ w'.frozen? ⟨b, 6, none⟩ = false ∧ w'.frozen? ⟨b, 7, none⟩ = false) := fun _ f => by
  have h' := f.heap h (fun x => x)
  exact ⟨⟨cell_at h' rfl, cell_at h' rfl, cell_at h' rfl, cell_at h' rfl, cell_at h' rfl, cell_at h' rfl, cell_at h' rfl, cell_at h' rfl⟩, unfrozen_at h' _, unfrozen_at h' _, unfrozen_at h' _, unfrozen_at h' _, unfrozen_at h' _, unfrozen_at h' _, unfrozen_at h' _, unfrozen_at h' _⟩
theorem results_tmp4 {fn : Func} {t u v x : Tmp} (h : fn.results = #[.tmp t, .tmp u, .tmp v, .tmp x]) (tmps : Array Value) (P : Program) (w : World) :
    (results fn tmps).run P w = .ok (.tuple #[tmps.getD t undef, tmps.getD u undef, tmps.getD v undef, tmps.getD x undef]) w := by
  simp [results, h]
end Go.Proofs.YtmoeboknelnaoaaGreatDoor

/-
  strings.Builder: WriteByte.
-/
namespace Go.Proofs.YtmoeboknelnaoaaGreatDoor
open Go.RowKit

set_option maxRecDepth 100000 in
set_option maxHeartbeats 1000000 in
theorem writeByte_any (T : TypeId) (b o : Nat) (cs : Array Value) (bs : List UInt8) (g : Option Nat) (c : Int) (w : World) (hc : 0 ≤ c ∧ c ≤ 255) (h : BldAt 5 T b o cs bs g w) (hl : BldIn T cs.size o) (hlen : bs.length ≤ 140737488355327) :
    Calls Tryz.prog 82 #[.pointer (some ⟨b, o, none⟩), .int .u8 c] w fun e w' => e = .returned .nilIface ∧
      ∃ v', BldAt 5 T b o (bldCells cs b o v') (bs ++ [c.toNat.toUInt8]) v'.ownBlock w' ∧ Fr (fun k => k = b ∨ some k = g) w w' ∧ (∀ k, v'.ownBlock = some k → some k = g ∨ w.heap.size ≤ k) := by
  obtain ⟨i0, hi, hz0, hz1, hz2⟩ := info_parts info_u8
  have hcv : bcell c.toNat.toUInt8 = .int .u8 c := by
    unfold bcell; congr 1; simp; omega
  have HC := Lib.hid hcv; clear hcv
  have HL := Lib.hid hl; clear hl
  go_enter Tryz.func82, Tryz.ntmps82
  go_wp2_with (go_at_call 98; refine (copyCheck_any T b o cs bs g _ h HL.out).mono ?_)
  rintro e w1 ⟨rfl, h1, hf1⟩
  obtain ⟨hb, ho, hp, v, hv, hown, hg, hne, hni⟩ := h1
  have c1 : w1.cell? ⟨b, o + 1, none⟩ = some v := cell_at hb hv
  have HB := Lib.hid hb; have HO := Lib.hid ho; have HV := Lib.hid hv; have HG := Lib.hid hg; have HN := Lib.hid hne; have HP := Lib.hid hp; have HI := Lib.hid hni
  clear hb ho hv hg hne hp hni
  go_wp2_with (at_builtin; refine wpList_append_g rfl _ _ 59 rfl 5 i0 (.int .u8 0) 1 1 Tryz.underlying59 hi hz0 hz1 hz2 rfl (by decide) _ _ _ rfl (hown.alloc _) ⟨w1.heap.size, 0, none⟩ 1 1 [.int .u8 c] rfl rfl ?c1 ?c2 ?c3 ?c4 ?_)
  case c1 =>
    intro j u hj
    match j, hj with
    | 0, hj => simp at hj; subst hj; simp [Addr.add]
  case c2 => intro u hu; simp at hu; subst hu; rfl
  case c3 => unfold maxLen; omega
  case c4 => omega
  intro v' w2 hown' hap
  have hb := HB.out; have hlt : b < w1.heap.size := lt_heap hb
  have hgb := HG.out; have hnb := HN.out
  have hb2 : w2.heap[b]? = some (.cells (cs.setIfInBounds o (.pointer (some ⟨b, o, none⟩))) T (0, 0)) :=
    hap.fr.heap (heap_alloc_lt _ hb) (fun e => hnb (by rw [← hgb, e]))
  have d1 : w2.cell? ⟨b, o + 1, none⟩ = some v := cell_at hb2 HV.out
  have f1 : w2.frozen? ⟨b, o + 1, none⟩ = false := unfrozen_at hb2 _
  have hlen2 : w1.heap.size + 1 ≤ w2.heap.size := by simpa using hap.fr.size
  have hne' : v'.ownBlock ≠ some b := by
    intro e
    rcases hap.old b e with h | h
    · exact hnb (by rw [← hgb, h])
    · simp at h; omega
  have hnew : ∀ k, v'.ownBlock = some k → some k = g ∨ w.heap.size ≤ k := by
    intro k hk
    have := hf1.size
    rcases hap.old k hk with h | h
    · exact .inl (by rw [← hgb, h])
    · simp at h; exact .inr (by omega)
  have hrow : w2.ownsRow 0 5 1 v' (bs ++ [c.toNat.toUInt8]).length (bcells (bs ++ [c.toNat.toUInt8])) := by
    rw [bcells_append, List.length_append]
    have hc1 : bcells [c.toNat.toUInt8] = [.int .u8 c] := by rw [← HC.out]; rfl
    rw [hc1]; exact hown'
  have hni' : bs ++ [c.toNat.toUInt8] = [] → v' = .slice none 0 0 := fun h => by simp at h
  have hfr : Fr (fun k => k = b ∨ some k = g) w w2 := by
    refine (hf1.mono (fun _ _ h => Or.inl h)).trans (((Fr.refl (fun k => v.ownBlock = some k) w1).alloc _).trans' hap.fr) (fun k _ h => Or.inr ?_)
    rw [← hgb, h]
  obtain ⟨ga, gn, gc, hvs⟩ := ownsRow_slice' hrow
  have HNI := Lib.hid hni'; clear hni'
  have HB2 := Lib.hid hb2; have HNE := Lib.hid hne'; have HNEW := Lib.hid hnew; have HROW := Lib.hid hrow; have HFR := Lib.hid hfr
  clear hb hb2 hgb hnb hne' hnew hrow hown' hfr
  subst hvs
  go_wp2
  go_ret
  have ho := HO.out
  refine ⟨rfl, _, ⟨heap_setCell_at HB2.out _ _, ?_, .inr ?_, _, set_at ho, ?_, rfl, HNE.out, HNI.out⟩, ?_, HNEW.out⟩
  · rw [bldCells_size]; simpa using ho
  · unfold bldCells; rw [set_set_ne (by omega)]; exact set_at (by simp at ho; omega)
  · exact ownsRow_fr HROW.out ((Fr.refl (fun k => k = b) w2).setCell (p := ⟨b, o + 1, none⟩) (fun _ => rfl) _) (fun k hk e => HNE.out (by rw [hk, e]))
  · exact HFR.out.setCell (p := ⟨b, o + 1, none⟩) (fun _ => Or.inl rfl) _


end Go.Proofs.YtmoeboknelnaoaaGreatDoor

/-
  strings.Builder: WriteString.
-/
namespace Go.Proofs.YtmoeboknelnaoaaGreatDoor
open Go.RowKit

set_option maxRecDepth 100000 in
set_option maxHeartbeats 1000000 in
theorem writeString_any (T : TypeId) (b o : Nat) (cs : Array Value) (bs : List UInt8) (g : Option Nat) (l : List UInt8) (w : World) (h : BldAt 5 T b o cs bs g w) (hl : BldIn T cs.size o) (hlen : bs.length + l.length ≤ 140737488355328) :
    Calls Tryz.prog 85 #[.pointer (some ⟨b, o, none⟩), .string ⟨l.toArray⟩] w fun e w' => e = .returned (.tuple #[.int .i64 l.length, .nilIface]) ∧
      ∃ v', BldAt 5 T b o (bldCells cs b o v') (bs ++ l) v'.ownBlock w' ∧ Fr (fun k => k = b ∨ some k = g) w w' ∧ (∀ k, v'.ownBlock = some k → some k = g ∨ w.heap.size ≤ k) := by
  obtain ⟨i0, hi, hz0, hz1, hz2⟩ := info_parts info_u8
  have HL := Lib.hid hl; clear hl
  go_enter Tryz.func85, Tryz.ntmps85
  go_wp2_with (go_at_call 98; refine (copyCheck_any T b o cs bs g _ h HL.out).mono ?_)
  rintro e w1 ⟨rfl, h1, hf1⟩
  obtain ⟨hb, ho, hp, v, hv, hown, hg, hne, hni⟩ := h1
  have c1 : w1.cell? ⟨b, o + 1, none⟩ = some v := cell_at hb hv
  have HB := Lib.hid hb; have HO := Lib.hid ho; have HV := Lib.hid hv; have HG := Lib.hid hg; have HN := Lib.hid hne; have HP := Lib.hid hp; have HI := Lib.hid hni
  clear hb ho hv hg hne hp hni
  go_wp2_with (at_builtin; refine wpList_append_gs rfl _ _ 59 9 rfl 5 i0 Tryz.underlying59 Tryz.underlying9 hi hz0 hz1 hz2 _ _ _ rfl hown ⟨l.toArray⟩ rfl ?c3 ?c4 ?_)
  case c3 => unfold maxLen; show bs.length + l.toArray.size ≤ _; simp; omega
  case c4 => show bs.length + l.toArray.size ≤ _; simp; omega
  intro v' w2 hown' hap
  have hb := HB.out
  have hgb := HG.out; have hnb := HN.out
  have hb2 : w2.heap[b]? = some (.cells (cs.setIfInBounds o (.pointer (some ⟨b, o, none⟩))) T (0, 0)) :=
    hap.fr.heap hb (fun e => hnb (by rw [← hgb, e]))
  have d1 : w2.cell? ⟨b, o + 1, none⟩ = some v := cell_at hb2 HV.out
  have f1 : w2.frozen? ⟨b, o + 1, none⟩ = false := unfrozen_at hb2 _
  have hlt := lt_heap hb
  have hne' : v'.ownBlock ≠ some b := by
    intro e
    rcases hap.old b e with h | h
    · exact hnb (by rw [← hgb, h])
    · omega
  have hnew : ∀ k, v'.ownBlock = some k → some k = g ∨ w.heap.size ≤ k := by
    intro k hk
    have := hf1.size
    rcases hap.old k hk with h | h
    · exact .inl (by rw [← hgb, h])
    · exact .inr (by omega)
  have hrow : w2.ownsRow 0 5 1 v' (bs ++ l).length (bcells (bs ++ l)) := by
    rw [bcells_append, List.length_append]
    exact hown'
  have hni' : bs ++ l = [] → v' = .slice none 0 0 := fun h => by
    rw [List.append_eq_nil_iff] at h
    exact hap.nil.2 ⟨HI.out h.1, by show l.toArray.size = 0; simp [h.2]⟩
  have hfr : Fr (fun k => k = b ∨ some k = g) w w2 := by
    refine (hf1.mono (fun _ _ h => Or.inl h)).trans hap.fr (fun k _ h => Or.inr ?_)
    rw [← hgb, h]
  obtain ⟨ga, gn, gc, hvs⟩ := ownsRow_slice' hrow
  have HNI := Lib.hid hni'; clear hni'
  have HB2 := Lib.hid hb2; have HNE := Lib.hid hne'; have HNEW := Lib.hid hnew; have HROW := Lib.hid hrow; have HFR := Lib.hid hfr
  clear hb hb2 hgb hnb hne' hnew hrow hown' hfr
  subst hvs
  go_wp2
  go_ret2
  have ho := HO.out
  refine ⟨by simp, _, ⟨heap_setCell_at HB2.out _ _, ?_, .inr ?_, _, set_at ho, ?_, rfl, HNE.out, HNI.out⟩, ?_, HNEW.out⟩
  · rw [bldCells_size]; simpa using ho
  · unfold bldCells; rw [set_set_ne (by omega)]; exact set_at (by simp at ho; omega)
  · exact ownsRow_fr HROW.out ((Fr.refl (fun k => k = b) w2).setCell (p := ⟨b, o + 1, none⟩) (fun _ => rfl) _) (fun k hk e => HNE.out (by rw [hk, e]))
  · exact HFR.out.setCell (p := ⟨b, o + 1, none⟩) (fun _ => Or.inl rfl) _

end Go.Proofs.YtmoeboknelnaoaaGreatDoor

/-
  strings.Builder: all that the seat's program uses.
-/

/-
  A law's last step, for arguments of whatever types: the call returned true and below the old heap's size nothing has turned.
-/
namespace Go.Proofs.YtmoeboknelnaoaaGreatDoor
open Go.ChangeShapes Go.WideShapes Go.ChangeAt Go.RowKit

section
variable {H : Type} {enc : TypeId × Value → H} {P : Program}

theorem trodAll_stays (hl : laidOutB P = true) {W W' : World} {sp : Nat → Bool} (hb : Below W.heap.size W W') : ∀ (ts : List TypeId) (vs : List Value) (ds : List (DataW H)) (ps : List MemPlace),
    (∀ t ∈ ts, P.readableRec t = true ∧ t < P.types.size) → DataW.TrodAll enc P W 0 (fun _ => true) true ts vs ds ps → (∀ x ∈ ps, x.block < W.heap.size) → (∀ x ∈ ps, sp x.block = true) →
    DataW.TrodAll enc P W' 0 sp true ts vs ds ps
  | [], [], [], ps, _, h, _, _ => h
  | t :: ts, v :: vs, d :: ds, ps, hr, ⟨p, q, h1, h2, e⟩, hlt, hsp => by
    subst e
    refine ⟨p, q, ?_, ?_, rfl⟩
    · exact WideElems.Trod_stays hl (hr t (by simp)).1 (hr t (by simp)).2 h1 (fun x hx => hb.same (hlt x (by simp [hx]))) (fun x hx => hsp x (by simp [hx]))
    · exact trodAll_stays hl hb ts vs ds q (fun t ht => hr t (by simp [ht])) h2 (fun x hx => hlt x (by simp [hx])) (fun x hx => hsp x (by simp [hx]))
  | [], [], _ :: _, _, _, h, _, _ => h.elim
  | [], _ :: _, _, _, _, h, _, _ => h.elim
  | _ :: _, [], _, _, _, h, _, _ => h.elim
  | _ :: _, _ :: _, [], _, _, h, _, _ => h.elim

/-- The last step of a law. -/
theorem law_post {f : Func} {s : ChangeSpec} {apart fresh handsOn again : Bool} {W W' : World} {args : Array Value} {ds gs : List (DataW H)} {before : List MemPlace} {tb : TypeId}
    (hvars : s.vars = []) (hres : f.resultTypes = #[tb]) (htb : P.underlying tb = some .bool) (hl : laidOutB P = true) (hrd : ∀ t ∈ f.params.toList, P.readableRec t = true ∧ t < P.types.size)
    (hsp : s.fn H (ds ++ gs) = { results := [.lit (.bool true)], args := ds })
    (hW : DataW.Whole enc P f.params.toList s.vars apart W args.toList ds gs before) (hb : Below W.heap.size W W') :
    s.post enc P f apart fresh handsOn again W args (.bool true) W' := by
  have hlt : ∀ p ∈ before, p.block < W.heap.size := fun p hp => hW.lt p hp
  have hold : ∀ p ∈ before, (fun b => decide (b < W.heap.size)) p.block = true := fun p hp => by simpa using hlt p hp
  have hres0 : ∀ (b : Nat) (sp : Nat → Bool) (hd : Bool), DataW.TrodAll enc P W' b sp hd f.resultTypes.toList ((Value.bool true).resultList f.resultTypes.size) (s.fn H (ds ++ gs)).results [] := by
    intro b sp hd; rw [hsp, hres]; exact trodAll_cons_mk (shut_bool htb _) trodAll_mk0
  obtain ⟨p, q, hA, hV, hpq, hz, hn⟩ := hW
  have hW : DataW.Whole enc P f.params.toList s.vars apart W args.toList ds gs before := ⟨p, q, hA, hV, hpq, hz, hn⟩
  have hV' := hV
  rw [hvars] at hV'
  obtain ⟨rfl, rfl⟩ := trodVars_none hV'
  simp only [List.append_nil] at hpq hsp hres0
  subst hpq
  have hargs : ∀ sp : Nat → Bool, (∀ x ∈ before, sp x.block = true) → DataW.TrodAll enc P W' 0 sp true f.params.toList args.toList (s.fn H (ds ++ [])).args before := by
    intro sp h; simp only [List.append_nil]; rw [hsp]; exact trodAll_stays hl hb _ _ _ _ hrd hA hlt h
  have hvs : ∀ sp : Nat → Bool, DataW.TrodVars enc P W' sp s.vars (s.fn H (ds ++ [])).vars [] := by
    intro sp; simp only [List.append_nil]; rw [hvars, hsp]; rfl
  refine ⟨ds, [], before, [], before, [], hW, by simpa using hres0 _ _ _, hargs _ hold, hvs _, World.keptBut_mono (fun x hx => ⟨hx, .inr (.inl hx)⟩) (hb.frame (· ∈ before)), fun _ => ?_⟩
  refine ⟨ok_one hres rfl (okWide_bool_mk htb _), (s.fn H (ds ++ [])).results ++ (s.fn H (ds ++ [])).args, [], before, ⟨[] ++ before, [], ?_, ?_, by simp, ?_, ?_⟩, ?_⟩
  · exact trodAll_append (hargs _ (fun _ _ => rfl)) (by simpa using hres0 _ _ _)
  · rw [hvars]; rfl
  · intro b off hp
    rw [hb.frozen (hlt _ hp)]
    exact hz b off hp
  · intro ha; exact hn ha
  · intro x hx _; exact hx
end

end Go.Proofs.YtmoeboknelnaoaaGreatDoor

/-
  A slice of bytes among a law's arguments.
-/
namespace Go.Proofs.YtmoeboknelnaoaaGreatDoor
open Go.ChangeShapes Go.WideShapes Go.ChangeAt Go.RowKit

section
variable {H : Type} {enc : TypeId × Value → H} {P : Program}

theorem byte_of_wf {n : Int} (h : (Lit.int .u8 n).wf = true) : ((UInt8.ofNat n.toNat).toNat : Int) = n := by
  simp [Lit.wf, IntKind.min, IntKind.max, IntKind.signed, IntKind.bits] at h
  have h2 : n.toNat < 256 := by omega
  simp [UInt8.toNat_ofNat']; omega

end

end Go.Proofs.YtmoeboknelnaoaaGreatDoor
