/-
  Merged texts of this claim: ClaimB, EreM, Cell8.
-/
import Derived.MapKept
import Derived.Test.YtlchaocpejfikaaGreatDoorM01
import Derived.Test.YtlchaocpejfikaaGreatDoorM02

/-
  A slice of bytes among a law's arguments.
-/
namespace Go.Proofs.YtlchaocpejfikaaGreatDoor
open Go.ChangeShapes Go.WideShapes Go.ChangeAt Go.RowKit

section
variable {H : Type} {enc : TypeId × Value → H} {P : Program}

theorem byte_of_wf {n : Int} (h : (Lit.int .u8 n).wf = true) : ((UInt8.ofNat n.toNat).toNat : Int) = n := by
  simp [Lit.wf, IntKind.min, IntKind.max, IntKind.signed, IntKind.bits] at h
  have h2 : n.toNat < 256 := by omega
  simp [UInt8.toNat_ofNat']; omega

theorem open_bytes {t e : TypeId} {w : World} {r : Reach} {b base : Nat} {spare : Nat → Bool} {held : Bool} {v : Value} {d : DataW H} {p : List MemPlace}
    (ht : P.underlying t = some (.slice e)) (he : P.underlying e = some (.int .u8)) (hc : P.cellsOf e = 1) (hv : Value.okWide P w r b t v) (h : DataW.Trod enc P w base spare held t v d p) :
    ∃ l : List UInt8, l.length ≤ maxLen ∧ SB w l v := by
  obtain ⟨a0, len, cap, rfl⟩ := okWide_slice ht hv
  obtain ⟨fuel, hf⟩ := h
  rcases open_ints ht he hc hf with ⟨hcs, _⟩ | ⟨a, len', cap', zs, hcs, _, hl, hm, hz, _, hcell, hwz⟩
  · simp only [Value.cells, List.cons.injEq, and_true] at hcs
    injection hcs with e1 e2 e3
    subst e1; subst e2; subst e3
    exact ⟨[], Nat.zero_le _, .inl ⟨rfl, _, _, rfl⟩⟩
  · simp only [Value.cells, List.cons.injEq, and_true] at hcs
    injection hcs with e1 e2 e3
    subst e1; subst e2; subst e3
    have hlz : len ≤ zs.length := by rw [hz]; split <;> omega
    by_cases h0 : len = 0
    · subst h0; exact ⟨[], Nat.zero_le _, .inl ⟨rfl, _, _, rfl⟩⟩
    · obtain ⟨g, off, rfl, hcc⟩ := ints_at hcell (by omega)
      refine ⟨(zs.take len).map fun n => UInt8.ofNat n.toNat, by simp; omega, .inr ⟨g, off, cap, by simp [Nat.min_eq_left hlz], ?_, ?_⟩⟩
      · exact World.block_lt_of_cell? w _ (hcc 0 (by omega))
      · intro j x hj
        have hjl : j < len := by
          have := (List.getElem?_eq_some_iff.1 hj).1
          simp at this; omega
        rw [hcc j (by omega)]
        have hx : x = UInt8.ofNat (zs.getD j 0).toNat := by
          have hjz : j < zs.length := by omega
          simp [hjl, hjz] at hj ⊢
          exact hj.symm
        rw [hx, byte_of_wf]
        apply hwz
        have hjz : j < zs.length := by omega
        simp [hjz]
end

end Go.Proofs.YtlchaocpejfikaaGreatDoor

/-
  A map from numbers to how often each was told: lookup, '++'. No walk.
-/
namespace Go.Proofs.YtlchaocpejfikaaGreatDoor
open Go.RowKit Go.MapKept

/-- The map in block m tells of each number how often it stands in cl. -/
def IMap (w : World) (m : Nat) (cl : List Nat) : Prop := ∃ es clock, w.heap[m]? = some (.map es clock) ∧ Stamped es clock ∧
  (∀ x ∈ es.toList, ∃ k : Nat, x.key = .int .i64 k ∧ x.val = .int .i64 (cl.count k : Nat)) ∧ (∀ k ∈ cl, ∃ x ∈ es.toList, x.key = .int .i64 (k : Nat))
theorem IMap.fr {X : Nat → Prop} {w w' : World} {m : Nat} {cl : List Nat} (h : IMap w m cl) (f : Fr X w w') (hm : ¬ X m) : IMap w' m cl := by
  obtain ⟨es, clock, hb, h⟩ := h; exact ⟨es, clock, f.heap hb hm, h⟩
theorem IMap.lt {w : World} {m : Nat} {cl : List Nat} (h : IMap w m cl) : m < w.heap.size := by obtain ⟨es, clock, hb, _⟩ := h; exact lt_heap hb
theorem IMap.new {w : World} {m : Nat} (h : w.heap[m]? = some (.map #[] 0)) : IMap w m [] := ⟨#[], 0, h, stamped_empty 0, by simp, by simp⟩
theorem fr_setHeap {w : World} {m : Nat} (o : Obj) : Fr (fun k => k = m) w { w with heap := w.heap.setIfInBounds m o } :=
  ⟨rfl, rfl, rfl, by simp, fun k hk hn => by simp [Array.getElem?_setIfInBounds_ne (Ne.symm hn)]⟩

theorem nodup_inj {α : Type} {l : List α} (h : l.Nodup) {i j : Nat} (hi : i < l.length) (e : l[i]? = l[j]?) : i = j := by
  have hj : j < l.length := by
    rw [List.getElem?_eq_getElem hi] at e
    exact (List.getElem?_eq_some_iff.1 e.symm).1
  rw [List.getElem?_eq_getElem hi, List.getElem?_eq_getElem hj] at e
  injection e with e
  have hp := List.pairwise_iff_getElem.1 h
  rcases Nat.lt_trichotomy i j with hlt | rfl | hlt
  · exact absurd e (hp i j hi hj hlt)
  · rfl
  · exact absurd e.symm (hp j i hj hi hlt)
section
variable {P : Program} {mty kt et : TypeId}
theorem imap_look (hm : P.underlying mty = some (.map kt et)) (hd : P.underlying kt = some (.int .i64)) (hz : ∀ w, (zeroValue et).run P w = .ok (.int .i64 0) w) {w : World} {m : Nat} {cl : List Nat} (h : IMap w m cl) (n : Nat) :
    (Instr.lookup mty (.map (some m)) (.int .i64 n) false).run P w = .ok (.int .i64 (cl.count n : Nat)) w := by
  obtain ⟨es, clock, hb, hs, hv, hk⟩ := h
  have hks : ∀ x ∈ es.toList, IsKey (.int .i64) x.key := fun x hx => by obtain ⟨k, e, _⟩ := hv x hx; rw [e]; rfl
  have hkn : IsKey (.int .i64) (.int .i64 (n : Int)) := rfl
  rcases findNow_spec hkn es.toList 0 hks with ⟨h1, h2⟩ | ⟨j, e, h1, h2, h3⟩
  · have hc : cl.count n = 0 := List.count_eq_zero.2 fun hn => by obtain ⟨x, hx, e⟩ := hk n hn; exact h2 x hx e
    simp [Instr.lookup, run_underlying hm, MapKept.run_getObj_map hb, run_checkKey hd hkn, run_findKey hd h1, Result.andThen, hz, hc]
  · have he : e ∈ es.toList := List.mem_of_getElem? h2
    obtain ⟨k, e1, e2⟩ := hv e he
    rw [e1] at h3
    have : k = n := by injection h3 with _ h; omega
    subst this
    simp [Instr.lookup, run_underlying hm, MapKept.run_getObj_map hb, run_checkKey hd hkn, run_findKey hd h1, Result.andThen, e2]

theorem imap_update (hm : P.underlying mty = some (.map kt et)) (hd : P.underlying kt = some (.int .i64)) {w : World} {m : Nat} {cl : List Nat} (h : IMap w m cl) (n : Nat) :
    ∃ w', (Instr.mapUpdate mty (.map (some m)) (.int .i64 n) (.int .i64 ((cl.count n : Nat) + 1))).run P w = .ok () w' ∧ IMap w' m (cl ++ [n]) ∧ Fr (fun k => k = m) w w' := by
  obtain ⟨es, clock, hb, hs, hv, hk⟩ := h
  have hks : ∀ x ∈ es.toList, IsKey (.int .i64) x.key := fun x hx => by obtain ⟨k, e, _⟩ := hv x hx; rw [e]; rfl
  have hkn : IsKey (.int .i64) (.int .i64 (n : Int)) := rfl
  have hother : ∀ x ∈ es.toList, x.key ≠ .int .i64 (n : Nat) → ∃ k : Nat, x.key = .int .i64 k ∧ x.val = .int .i64 ((cl ++ [n]).count k : Nat) := fun x hx hne => by
    obtain ⟨k, k1, k2⟩ := hv x hx
    refine ⟨k, k1, ?_⟩
    have hkn : k ≠ n := by rintro rfl; exact hne k1
    rw [k2, List.count_append]
    simp [List.count_singleton, Ne.symm hkn]
  rcases findNow_spec hkn es.toList 0 hks with ⟨h1, h2⟩ | ⟨j, e, h1, h2, h3⟩
  · have hc : cl.count n = 0 := List.count_eq_zero.2 fun hn => by obtain ⟨x, hx, e⟩ := hk n hn; exact h2 x hx e
    refine ⟨{ w with heap := w.heap.setIfInBounds m (.map (es.push { key := .int .i64 n, val := .int .i64 ((cl.count n : Nat) + 1), born := clock }) (clock + 1)) }, ?_, ?_, fr_setHeap _⟩
    · simp [Instr.mapUpdate, run_underlying hm, MapKept.run_getObj_map hb, run_checkKey hd hkn, run_findKey hd h1, Result.andThen, MapKept.run_setObj_map _ hb]
    · refine ⟨_, _, (heap_set hb).1, stamped_push hs h2, ?_, ?_⟩
      · intro x hx
        simp only [Array.toList_push, List.mem_append, List.mem_singleton] at hx
        rcases hx with hx | rfl
        · exact hother x hx (h2 x hx)
        · exact ⟨n, rfl, by simp⟩
      · intro k hkc
        rcases List.mem_append.1 hkc with hkc | hkc
        · obtain ⟨x, hx, e⟩ := hk k hkc
          exact ⟨x, by simp [hx], e⟩
        · rw [List.mem_singleton] at hkc; subst hkc
          exact ⟨{ key := .int .i64 k, val := .int .i64 ((cl.count k : Nat) + 1), born := clock }, by simp, rfl⟩
  · have he : e ∈ es.toList := List.mem_of_getElem? h2
    have hj : es[j]? = some e := by simpa using h2
    have hjl : j < es.size := (Array.getElem?_eq_some_iff.1 hj).1
    have hkey : ∀ e', es[j]? = some e' → ({ e' with key := .int .i64 (n : Nat), val := .int .i64 ((cl.count n : Nat) + 1) } : MapEntry).key = e'.key := fun e' he' => by rw [hj] at he'; cases he'; exact h3.symm
    refine ⟨{ w with heap := w.heap.setIfInBounds m (.map (es.modify j fun x => { x with key := .int .i64 (n : Nat), val := .int .i64 ((cl.count n : Nat) + 1) }) clock) }, ?_, ?_, fr_setHeap _⟩
    · simp [Instr.mapUpdate, run_underlying hm, MapKept.run_getObj_map hb, run_checkKey hd hkn, run_findKey hd h1, Result.andThen, hj, h3, run_keyThatStays hkn, MapKept.run_setObj_map _ hb]
    · refine ⟨_, _, (heap_set hb).1, stamped_modify hs _ _ (fun _ _ => rfl) (fun e' _ he' => hkey e' he'), ?_, ?_⟩
      · intro y hy
        rw [Array.mem_toList_iff, Array.mem_iff_getElem?] at hy
        obtain ⟨i, hi⟩ := hy
        rw [Array.getElem?_modify] at hi
        split at hi
        · rw [show es[i]? = some e from by rw [← hj]; congr 1; omega] at hi
          simp only [Option.map_some, Option.some.injEq] at hi
          subst hi
          exact ⟨n, rfl, by simp⟩
        · next hij =>
          refine hother y (Array.mem_toList_iff.2 (Array.mem_of_getElem? hi)) fun hy => ?_
          have hil : i < es.size := (Array.getElem?_eq_some_iff.1 hi).1
          have e1 : (es.toList.map (·.key))[j]? = (es.toList.map (·.key))[i]? := by
            rw [List.getElem?_map, List.getElem?_map, Array.getElem?_toList, Array.getElem?_toList, hj, hi]
            simp only [Option.map_some, Option.some.injEq]
            rw [h3, hy]
          exact hij (nodup_inj hs.2.2 (by simpa using hjl) e1)
      · intro k hkc
        have hkeys := MapKept.modify_keys (es := es) j (fun x => { x with key := .int .i64 (n : Nat), val := .int .i64 ((cl.count n : Nat) + 1) }) hkey
        have : ∃ x ∈ es.toList, x.key = .int .i64 (k : Nat) := by
          rcases List.mem_append.1 hkc with h | h
          · exact hk k h
          · rw [List.mem_singleton] at h; subst h; exact ⟨e, he, h3⟩
        obtain ⟨y, hy, hyk⟩ := this
        have hm : (.int .i64 (k : Nat) : Value) ∈ (es.modify j (fun x => { x with key := .int .i64 (n : Nat), val := .int .i64 ((cl.count n : Nat) + 1) })).toList.map (·.key) := by
          rw [hkeys]; exact List.mem_map.2 ⟨y, hy, hyk⟩
        obtain ⟨z, hz, hzk⟩ := List.mem_map.1 hm
        exact ⟨z, hz, hzk⟩
end
end Go.Proofs.YtlchaocpejfikaaGreatDoor

/-
  A block of eight cells, in every later world.
-/
namespace Go.Proofs.YtlchaocpejfikaaGreatDoor
open Go.RowKit

theorem rule8 {w : World} {b : Nat} {v0 v1 v2 v3 v4 v5 v6 v7 : Value} {T : TypeId} (h : w.heap[b]? = some (.cells #[v0, v1, v2, v3, v4, v5, v6, v7] T (0, 0))) : ∀ w', Fr nob w w' →
    (w'.cell? ⟨b, 0, none⟩ = some v0 ∧ w'.cell? ⟨b, 1, none⟩ = some v1 ∧ w'.cell? ⟨b, 2, none⟩ = some v2 ∧ w'.cell? ⟨b, 3, none⟩ = some v3 ∧ w'.cell? ⟨b, 4, none⟩ = some v4 ∧ w'.cell? ⟨b, 5, none⟩ = some v5 ∧ w'.cell? ⟨b, 6, none⟩ = some v6 ∧ w'.cell? ⟨b, 7, none⟩ = some v7) ∧
    (w'.frozen? ⟨b, 0, none⟩ = false ∧ w'.frozen? ⟨b, 1, none⟩ = false ∧ w'.frozen? ⟨b, 2, none⟩ = false ∧ w'.frozen? ⟨b, 3, none⟩ = false ∧ w'.frozen? ⟨b, 4, none⟩ = false ∧ w'.frozen? ⟨b, 5, none⟩ = false ∧ w'.frozen? ⟨b, 6, none⟩ = false ∧ w'.frozen? ⟨b, 7, none⟩ = false) := fun _ f => by
  have h' := f.heap h (fun x => x)
  exact ⟨⟨cell_at h' rfl, cell_at h' rfl, cell_at h' rfl, cell_at h' rfl, cell_at h' rfl, cell_at h' rfl, cell_at h' rfl, cell_at h' rfl⟩, unfrozen_at h' _, unfrozen_at h' _, unfrozen_at h' _, unfrozen_at h' _, unfrozen_at h' _, unfrozen_at h' _, unfrozen_at h' _, unfrozen_at h' _⟩
theorem results_tmp4 {fn : Func} {t u v x : Tmp} (h : fn.results = #[.tmp t, .tmp u, .tmp v, .tmp x]) (tmps : Array Value) (P : Program) (w : World) :
    (results fn tmps).run P w = .ok (.tuple #[tmps.getD t undef, tmps.getD u undef, tmps.getD v undef, tmps.getD x undef]) w := by
  simp [results, h]
end Go.Proofs.YtlchaocpejfikaaGreatDoor
