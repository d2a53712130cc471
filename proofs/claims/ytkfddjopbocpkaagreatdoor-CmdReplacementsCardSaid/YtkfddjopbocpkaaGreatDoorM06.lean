/-
  Merged texts of this claim: BrkA, Awake1, BrkB, BrkC, BrkD, BrkE, BrkF.
-/
import Derived.Test.YtkfddjopbocpkaaGreatDoorShelf
import Derived.LoopN
import Derived.Test.YtkfddjopbocpkaaGreatDoorM03
import Derived.Test.YtkfddjopbocpkaaGreatDoorM04
import Derived.Test.YtkfddjopbocpkaaGreatDoorM05

set_option linter.unusedVariables false
set_option linter.unusedSimpArgs false
/-
  Walks of package bracket: fail, ahead, an item's least byte.
-/
namespace Go.Proofs.YtkfddjopbocpkaaGreatDoor
open Go.RowKit

def Rd (w : World) (b : Nat) (l : List UInt8) (at_ wr pl : Int) : Prop := w.heap[b]? = some (.cells #[.string ⟨l.toArray⟩, .int .i64 at_, .int .i64 wr, .int .i64 pl] 323 (0, 0))
theorem Rd.on {w w' : World} {b : Nat} {l : List UInt8} {a r p : Int} (h : Rd w b l a r p) (f : Fr nob w w') : Rd w' b l a r p := f.heap h (fun x => x)

theorem strings_HasPrefix (l p : List UInt8) (w : World) (hs : l.length ≤ 9223372036854775807) (hp : p.length ≤ 9223372036854775807) :
    Calls Tryz.prog 66 #[.string ⟨l.toArray⟩, .string ⟨p.toArray⟩] w fun e w' => e = .returned (.bool (p.isPrefixOf l)) ∧ w = w' := by
  have HS := Lib.hid hs; have HP := Lib.hid hp
  have hx := bext l 0 p.length
  simp only [List.drop_zero, Nat.sub_zero] at hx
  go_enter Tryz.func66, Tryz.ntmps66
  go_wp2
  all_goals go_ret
  · exact ⟨ret_bool (prefix_take (by assumption)), rfl⟩
  · exact ⟨ret_bool (prefix_long (by assumption)), rfl⟩

theorem fail_ok (b : Nat) (l : List UInt8) (a p e q : Int) (w : World) (h : Rd w b l a 0 p) :
    Calls Tryz.prog 271 #[.pointer (some ⟨b, 0, none⟩), .int .i64 e, .int .i64 q] w fun r w' => r = .returned (.tuple #[]) ∧ Rd w' b l a e q ∧ Fr (fun k => k = b) w w' := by
  obtain ⟨⟨c0, c1, c2, c3⟩, d0, d1, d2, d3⟩ := rule4 h _ (Fr.refl _ _)
  have H := Lib.hid h; clear h
  go_enter Tryz.func271, Tryz.ntmps271
  go_wp2
  go_end0
  have h1 := heap_setCell_at H.out 2 (.int .i64 e)
  exact ⟨rfl, heap_setCell_at h1 3 (.int .i64 q), ((Fr.refl (fun k => k = b) w).setCell (p := ⟨b, 2, none⟩) (fun _ => rfl) _).setCell (p := ⟨b, 3, none⟩) (fun _ => rfl) _⟩
theorem fail_set (b : Nat) (l : List UInt8) (a r p e q : Int) (w : World) (hr : r ≠ 0) (h : Rd w b l a r p) :
    Calls Tryz.prog 271 #[.pointer (some ⟨b, 0, none⟩), .int .i64 e, .int .i64 q] w fun x w' => x = .returned (.tuple #[]) ∧ w = w' := by
  obtain ⟨⟨c0, c1, c2, c3⟩, d0, d1, d2, d3⟩ := rule4 h _ (Fr.refl _ _)
  have hr' : (r == 0) = false := by simpa using hr
  clear h hr
  go_enter Tryz.func271, Tryz.ntmps271
  go_wp2
  go_end0
  exact ⟨rfl, rfl⟩

set_option maxRecDepth 100000 in
theorem ahead_any (b : Nat) (l t : List UInt8) (a : Nat) (r p : Int) (w : World) (hl : l.length ≤ 1000000) (ht : t.length ≤ 1000000) (ha : a ≤ l.length) (h : Rd w b l a r p) :
    Calls Tryz.prog 262 #[.pointer (some ⟨b, 0, none⟩), .string ⟨t.toArray⟩] w fun x w' => x = .returned (.bool (t.isPrefixOf (l.drop a))) ∧ Fr nob w w' := by
  have rr := rule4 h
  clear h
  have hal : (a : Int) ≤ l.length := by omega
  have hP := fun w : World => strings_HasPrefix (l.drop a) t w (by simp; omega) (by omega)
  have HPP := Lib.hid hP; clear hP
  go_enter Tryz.func262, Tryz.ntmps262
  go_wp2_with fail
  refine region_fr 10 (by kernel_rfl) (by kernel_rfl) ?_
  simp only [List.take_succ_cons, List.take_zero, List.drop_succ_cons, List.drop_zero]
  repeat (quiet_step (fail))
  refine wpQuiet_nil ?_
  intro wC fC
  go_wp2_with fail
  refine (HPP.out _).mono ?_
  rintro e w2 ⟨rfl, rfl⟩
  go_wp2
  go_ret
  exact ⟨rfl, fC⟩

abbrev itV (s : S4) (e : Bool) : Value := .agg #[.int .u64 s.a, .int .u64 s.b, .int .u64 s.c, .int .u64 s.d, .bool e]
def DigitIs (s : S4) (w : World) (e : Ending) (w' : World) : Prop := ∃ d b, e = .returned (.int .u8 (d : Nat)) ∧ LeastIs s d b ∧ d < 256 ∧ Fr nob w w'

set_option maxRecDepth 100000 in
theorem itLeast_any (s : S4) (e : Bool) (w : World) (hs : s.fit) (hT : Tab w) :
    Calls Tryz.prog 270 #[itV s e] w (DigitIs s w) := by
  have HT := Lib.hid (hT.on ((Fr.refl nob w).alloc (.cells #[.int .u64 s.a, .int .u64 s.b, .int .u64 s.c, .int .u64 s.d, .bool e] 332)))
  clear hT
  go_enter Tryz.func270, Tryz.ntmps270
  go_wp2_with fail
  refine (least_any s _ hs HT.out).mono ?_
  rintro x w2 ⟨d, b, rfl, hl, f⟩
  have HL := Lib.hid hl
  have hd : d < 256 := by rcases hl with ⟨_, rfl, _⟩ | ⟨_, h, _⟩ <;> omega
  clear hl
  go_wp2
  go_ret
  exact ⟨d, b, rfl, HL.out, hd, ((Fr.refl _ _).alloc _).trans' f⟩
end Go.Proofs.YtkfddjopbocpkaaGreatDoor

/-
  Walks: the fixed fact of chapter 1.
-/
namespace Go.Proofs.YtkfddjopbocpkaaGreatDoor
open Go.RowKit

theorem class_lit (s : ByteArray) (o : Option (Int → Bool)) (ho : clsOf s = o) (w : World) : Calls Tryz.prog 209 #[.string s] w fun e w' => e = .returned (.tuple #[setV (clsSet o), .bool o.isSome]) ∧ Fr nob w w' := by
  subst ho; exact octClass_any s w
theorem has_lit (s : S4) (d : Nat) (w : World) (hs : s.fit) (hd : d < 256) : Calls Tryz.prog 197 #[setV s, .int .u8 d] w fun e w' => e = .returned (.bool (s.has d)) ∧ Fr nob w w' := has_any s d w hs hd
theorem of_lit (l : List UInt8) (u : Value) (w : World) (hl : l.length ≤ 9000000000000000000) (h : SB w l u) : Calls Tryz.prog 256 #[u] w fun e w' => e = .returned (setV (S4.zero.puts l)) ∧ Fr nob w w' := of_any l u w hl h
theorem SB_new1 (w : World) (c : UInt8) (T : TypeId) : SB (w.alloc (.cells #[.int .u8 (c.toNat : Int)] T)) [c] (.slice (some ⟨w.heap.size, 0, none⟩) 1 1) := by
  refine Or.inr ⟨_, _, _, rfl, by simp, ?_⟩
  intro j x hj
  match j, hj with
  | 0, hj => simp at hj; subst hj; simp [World.cell?_alloc_new]
end Go.Proofs.YtkfddjopbocpkaaGreatDoor

/-
  Walks of package bracket: named, item.
-/
namespace Go.Proofs.YtkfddjopbocpkaaGreatDoor
open Go.RowKit

def Env (w : World) : Prop := Tab w ∧ ∃ m, w.cell? ⟨0, 0, none⟩ = some (.int .i64 m)
theorem Env.on {w w' : World} (h : Env w) (f : Fr nob w w') : Env w' := ⟨h.1.on f, let ⟨m, hm⟩ := h.2; ⟨m, f.cell hm (fun x => x)⟩⟩
def envB : Nat := max 0 3 + 1
theorem Env.on2 {w w' : World} {b : Nat} (h : Env w) (f : Fr (fun k => k = b) w w') (hb : envB ≤ b) : Env w' :=
  ⟨h.1.on2 f (fun e => by unfold envB at hb; omega), let ⟨m, hm⟩ := h.2; ⟨m, f.cell hm (fun e => by simp only at e; unfold envB at hb; omega)⟩⟩

theorem strIndex (s t : List UInt8) (w : World) (hs : s.length ≤ 1000000) (h : Env w) :
    Calls Tryz.prog 275 #[.string ⟨s.toArray⟩, .string ⟨t.toArray⟩] w fun e w' => e = .returned (.int .i64 (Lib.index s t)) ∧ w = w' := by
  obtain ⟨m, hm⟩ := h.2
  refine (Tryz.strings_Index ⟨s.toArray⟩ ⟨t.toArray⟩ m w (by rw [bsize]; omega) hm).mono ?_
  rintro e w' ⟨rfl, rfl⟩
  exact ⟨rfl, rfl⟩

theorem results_it {fn : Func} {p : Tmp} (h : fn.results = #[.cell p 332]) {tmps : Array Value} {r : Nat} (ht : tmps.getD p undef = .pointer (some ⟨r, 0, none⟩)) {W : World} {s : S4} {e : Bool}
    (hb : W.heap[r]? = some (.cells #[.int .u64 s.a, .int .u64 s.b, .int .u64 s.c, .int .u64 s.d, .bool e] 332 (0, 0))) : (results fn tmps).run Tryz.prog W = .ok (itV s e) W := by
  have c0 := cell_at (j := 0) (v := .int .u64 s.a) hb rfl
  have c1 := cell_at (j := 1) (v := .int .u64 s.b) hb rfl
  have c2 := cell_at (j := 2) (v := .int .u64 s.c) hb rfl
  have c3 := cell_at (j := 3) (v := .int .u64 s.d) hb rfl
  have c4 := cell_at (j := 4) (v := .bool e) hb rfl
  have ht' : tmps[p]?.getD undef = .pointer (some ⟨r, 0, none⟩) := by rw [← ht]; simp
  simp only [results, h]
  simp [ht', go_sem, c0, c1, c2, c3, c4]
theorem rule5 {w : World} {b : Nat} {v0 v1 v2 v3 v4 : Value} {T : TypeId} (h : w.heap[b]? = some (.cells #[v0, v1, v2, v3, v4] T (0, 0))) : ∀ w', Fr nob w w' →
    (w'.cell? ⟨b, 0, none⟩ = some v0 ∧ w'.cell? ⟨b, 1, none⟩ = some v1 ∧ w'.cell? ⟨b, 2, none⟩ = some v2 ∧ w'.cell? ⟨b, 3, none⟩ = some v3 ∧ w'.cell? ⟨b, 4, none⟩ = some v4) ∧
    (w'.frozen? ⟨b, 0, none⟩ = false ∧ w'.frozen? ⟨b, 1, none⟩ = false ∧ w'.frozen? ⟨b, 2, none⟩ = false ∧ w'.frozen? ⟨b, 3, none⟩ = false ∧ w'.frozen? ⟨b, 4, none⟩ = false) := fun _ f => by
  have h' := f.heap h (fun x => x)
  exact ⟨⟨cell_at h' rfl, cell_at h' rfl, cell_at h' rfl, cell_at h' rfl, cell_at h' rfl⟩, unfrozen_at h' _, unfrozen_at h' _, unfrozen_at h' _, unfrozen_at h' _, unfrozen_at h' _⟩
abbrev setFive (w : World) (b : Nat) (v0 v1 v2 v3 v4 : Value) : World := (setFour w b v0 v1 v2 v3).setCell ⟨b, 4, none⟩ v4
theorem setFive_heap {w : World} {b : Nat} {a0 a1 a2 a3 a4 : Value} {T : TypeId} {fr : Nat × Nat} (h : w.heap[b]? = some (.cells #[a0, a1, a2, a3, a4] T fr)) (v0 v1 v2 v3 v4 : Value) :
    (setFive w b v0 v1 v2 v3 v4).heap[b]? = some (.cells #[v0, v1, v2, v3, v4] T fr) := by
  have h0 : (w.setCell ⟨b, 0, none⟩ v0).heap[b]? = some (.cells #[v0, a1, a2, a3, a4] T fr) := heap_setCell_at h 0 v0
  have h1 : ((w.setCell ⟨b, 0, none⟩ v0).setCell ⟨b, 1, none⟩ v1).heap[b]? = some (.cells #[v0, v1, a2, a3, a4] T fr) := heap_setCell_at h0 1 v1
  have h2 : (((w.setCell ⟨b, 0, none⟩ v0).setCell ⟨b, 1, none⟩ v1).setCell ⟨b, 2, none⟩ v2).heap[b]? = some (.cells #[v0, v1, v2, a3, a4] T fr) := heap_setCell_at h1 2 v2
  have h3 : (setFour w b v0 v1 v2 v3).heap[b]? = some (.cells #[v0, v1, v2, v3, a4] T fr) := heap_setCell_at h2 3 v3
  exact heap_setCell_at h3 4 v4
theorem setFive_fr {S : Nat → Prop} {w a : World} {b : Nat} (f : Fr S a w) (hb : a.heap.size ≤ b) (v0 v1 v2 v3 v4 : Value) : Fr S a (setFive w b v0 v1 v2 v3 v4) := by
  have h : ∀ (x : World) (j : Nat) (v : Value), Fr S a x → Fr S a (x.setCell ⟨b, j, none⟩ v) := fun x j v hx => hx.setCell (p := ⟨b, j, none⟩) (fun h => absurd h (Nat.not_lt.2 hb)) v
  exact h _ _ _ (h _ _ _ (h _ _ _ (h _ _ _ (h _ _ _ f))))
theorem setFive_old {w : World} {b k : Nat} {o : Obj} (hk : w.heap[k]? = some o) (hne : k ≠ b) (v0 v1 v2 v3 v4 : Value) : (setFive w b v0 v1 v2 v3 v4).heap[k]? = some o :=
  heap_setCell_ne (heap_setCell_ne (heap_setCell_ne (heap_setCell_ne (heap_setCell_ne hk hne _) hne _) hne _) hne _) hne _

theorem puts_one (c : UInt8) : S4.zero.puts [c] = spn c.toNat c.toNat := S4.ext_has (fit_puts _ fit_zero) (fit_spn _ _) fun e he => by
  have := c.toNat_lt
  rw [has_puts _ _ he, has_zero, has_spn _ _ _ (by omega) (by omega) he]
  by_cases h : c.toNat = e
  · subst h; simp
  · simp only [List.any_cons, List.any_nil, Bool.or_false, h, decide_false]
    by_cases h2 : c.toNat ≤ e
    · simp [h2]; omega
    · simp [h2]
theorem of_one (c : UInt8) (w : World) (T : TypeId) : Calls Tryz.prog 256 #[.slice (some ⟨w.heap.size, 0, none⟩) 1 1] (w.alloc (.cells #[.int .u8 (c.toNat : Int)] T)) fun e w' => e = .returned (setV (spn c.toNat c.toNat)) ∧ Fr nob (w.alloc (.cells #[.int .u8 (c.toNat : Int)] T)) w' := by
  rw [← puts_one]; exact of_lit [c] _ _ (by simp) (SB_new1 w c T)
theorem dot_some (k c : UInt8) : ((k.toNat : Int) == 46) = (if k = 46 then some c else none).isSome := by
  by_cases h : k = 46
  · subst h; rfl
  · have := (fun e => h (UInt8.toNat_inj.1 e) : k.toNat ≠ (46 : UInt8).toNat)
    rw [if_neg h]; simp at this ⊢; omega

abbrev ItEnd (b : Nat) (l : List UInt8) (p : Int) (s : S4) (o : Bool) (R : (Int × Nat) ⊕ It) (w' : World) : Prop := match R with
    | .inr x => s = x.set ∧ o = x.one.isSome ∧ Rd w' b l x.next 0 p
    | .inl z => ∃ a' : Nat, a' ≤ l.length ∧ z.1 ≠ 0 ∧ Rd w' b l a' z.1 z.2
theorem ItEnd.to {b : Nat} {l : List UInt8} {p : Int} {s : S4} {o : Bool} {R : (Int × Nat) ⊕ It} {w w' : World} (h : ItEnd b l p s o R w) (f : ∀ x r q, Rd w b l x r q → Rd w' b l x r q) : ItEnd b l p s o R w' := by
  cases R with
  | inr x => exact ⟨h.1, h.2.1, f _ _ _ h.2.2⟩
  | inl z => obtain ⟨a', h1, h2, h3⟩ := h; exact ⟨a', h1, h2, f _ _ _ h3⟩
def ItAns (b : Nat) (l : List UInt8) (a : Nat) (p : Int) (R : (Int × Nat) ⊕ It) (w : World) (e : Ending) (w' : World) : Prop :=
  ∃ s o, e = .returned (itV s o) ∧ s.fit ∧ Fr (fun k => k = b) w w' ∧ ItEnd b l p s o R w'

end Go.Proofs.YtkfddjopbocpkaaGreatDoor

/-
  Walks of package bracket: named, behind [= and [..
-/
namespace Go.Proofs.YtkfddjopbocpkaaGreatDoor
open Go.RowKit

set_option maxRecDepth 100000 in
set_option maxHeartbeats 4000000 in
theorem named_oth (b : Nat) (l : List UInt8) (a : Nat) (k : UInt8) (p : Int) (w : World) (hl : l.length ≤ 100000) (ha : a + 2 ≤ l.length) (hb : envB ≤ b) (hE : Env w) (h : Rd w b l a 0 p) (h58 : k ≠ 58) :
    Calls Tryz.prog 274 #[.pointer (some ⟨b, 0, none⟩), .int .u8 (k.toNat : Int)] w (ItAns b l a p (itmN l a k) w) := by
  obtain ⟨R, hR⟩ : ∃ R, itmN l a k = R := ⟨_, rfl⟩
  rw [hR]
  have HR := Lib.hid hR; clear hR
  have rr := rule4 h
  have hbw := lt_heap h
  have H := Lib.hid h; have HE := Lib.hid hE; clear h hE
  have t1 : ((k.toNat : Int) == 58) = false := by simp; intro h; exact h58 (UInt8.toNat_inj.1 (by simp; omega))
  have hkb := toNat_bd k
  obtain ⟨w0, hw0⟩ : ∃ w0, w0 = (w.alloc (.cells #[.int .u64 0, .int .u64 0, .int .u64 0, .int .u64 0, .bool false] 332)).alloc (.cells #[.int .u8 (k.toNat : Int), .int .u8 93] 5) := ⟨_, rfl⟩
  have hz0 : w0.heap[w.heap.size]? = some (.cells #[.int .u64 0, .int .u64 0, .int .u64 0, .int .u64 0, .bool false] 332 (0, 0)) := by rw [hw0]; exact heap_alloc_lt _ (newAt _ _)
  have f0 : Fr nob w w0 := by rw [hw0]; exact ((Fr.refl _ _).alloc _).alloc _
  have hcv := run_conv_two (P := Tryz.prog) (src := 22) (dst := 9) (e := 5) Tryz.underlying22 Tryz.underlying5 Tryz.underlying9 k 93 (w.alloc (.cells #[.int .u64 0, .int .u64 0, .int .u64 0, .int .u64 0, .bool false] 332))
  rw [show ((93 : UInt8).toNat : Int) = 93 from rfl, show (w.alloc (.cells #[.int .u64 0, .int .u64 0, .int .u64 0, .int .u64 0, .bool false] 332)).heap.size = w.heap.size + 1 by simp] at hcv
  have HW0 := Lib.hid hw0; have HZ0 := Lib.hid hz0; have FW0 := Lib.hid f0; have HE0 := Lib.hid (HE.out.on f0)
  have rr0 := rule4 (f0.heap H.out (fun x => x))
  have hbw0 : b < w0.heap.size := Nat.lt_of_lt_of_le hbw f0.size
  clear hw0 hz0 f0
  by_cases hlong : l.length < a + 3
  · have HRV := Lib.hid (show itmN l a k = .inl (5, l.length) by
      have : fnd l k (l.length + 1) (a + 2 + skp k) = none := by
        rw [fnd, if_neg (by unfold skp; rw [if_neg h58]; omega)]
      unfold itmN; rw [this])
    go_enter Tryz.func274, Tryz.ntmps274
    go_wp2_with fail
    rw [← HW0.out]
    clear hcv
    refine (fail_ok b l a p 5 l.length _ (H.out.on FW0.out)).mono ?_
    rintro e w2 ⟨rfl, h2, f2⟩
    have hz2 := f2.heap HZ0.out (fun e => by omega)
    have r2 := rule5 hz2
    have hlz := lt_heap hz2
    have HH := Lib.hid h2; have FF := Lib.hid f2; have HZ2 := Lib.hid hz2
    clear h2 f2 hz2
    go_wp2
    (try simp only [Exit.inBlock, Exit.then])
    refine bodyPost_ret (results_it (s := S4.zero) (e := false) rfl rfl (setFive_heap HZ2.out _ _ _ _ _)) rfl ⟨S4.zero, false, rfl, fit_zero, setFive_fr (FW0.out.any.trans FF.out (fun i hi e => e)) (Nat.le_refl _) _ _ _ _ _, ?_⟩
    rw [← HR.out, HRV.out]
    exact ⟨a, by omega, (by simp), setFive_old HH.out (by omega) _ _ _ _ _⟩
  · have hal : (a : Int) + 2 + 1 ≤ l.length := by omega
    cases hf : fnd l k (l.length + 1) (a + 2 + 1) with
    | none =>
      have hix : Lib.index (l.drop (a + 2 + 1)) [k, 93] = -1 := by rw [idx_fnd _ _ _ (by omega), hf]
      have HRV := Lib.hid (show itmN l a k = .inl (5, l.length) by unfold itmN skp; rw [if_neg h58, hf])
      clear hf
      have hS := fun w h => strIndex (l.drop (a + 2 + 1)) [k, 93] w (by simp; omega) h
      rw [hix] at hS
      have HS := Lib.hid hS; clear hS hix
      go_enter Tryz.func274, Tryz.ntmps274
      go_wp2_with fail
      rw [← HW0.out]
      clear hcv
      refine (HS.out _ HE0.out).mono ?_
      rintro e w1 ⟨rfl, rfl⟩
      go_wp2_with fail
      refine (fail_ok b l a p 5 l.length _ (H.out.on FW0.out)).mono ?_
      rintro e w2 ⟨rfl, h2, f2⟩
      have hz2 := f2.heap HZ0.out (fun e => by omega)
      have r2 := rule5 hz2
      have hlz := lt_heap hz2
      have HH := Lib.hid h2; have FF := Lib.hid f2; have HZ2 := Lib.hid hz2
      clear h2 f2 hz2
      go_wp2
      (try simp only [Exit.inBlock, Exit.then])
      refine bodyPost_ret (results_it (s := S4.zero) (e := false) rfl rfl (setFive_heap HZ2.out _ _ _ _ _)) rfl ⟨S4.zero, false, rfl, fit_zero, setFive_fr (FW0.out.any.trans FF.out (fun i hi e => e)) (Nat.le_refl _) _ _ _ _ _, ?_⟩
      rw [← HR.out, HRV.out]
      exact ⟨a, by omega, (by simp), setFive_old HH.out (by omega) _ _ _ _ _⟩
    | some e =>
      obtain ⟨h1, h2, h3, h4, h5⟩ := fnd_some hf
      obtain ⟨d, rfl⟩ : ∃ d, e = a + 2 + 1 + d := ⟨e - (a + 2 + 1), by omega⟩
      have hix : Lib.index (l.drop (a + 2 + 1)) [k, 93] = (d : Int) := by rw [idx_fnd _ _ _ (by omega), hf]; simp only; omega
      have hS := fun w h => strIndex (l.drop (a + 2 + 1)) [k, 93] w (by simp; omega) h
      rw [hix] at hS
      have HS := Lib.hid hS; clear hS hix
      have hdb : (a : Int) + 2 + 1 + d + 1 < l.length := by omega
      have hsl := run_slice_bs (P := Tryz.prog) l (lo := (a : Int) + 2) (hi := (a : Int) + 2 + 1 + d) Tryz.underlying9 (by omega) (by omega) (by omega)
      rw [show ((a : Int) + 2).toNat = a + 2 by omega, show ((a : Int) + 2 + 1 + d).toNat = a + 2 + 1 + d by omega] at hsl
      obtain ⟨nm, hnm⟩ : ∃ nm, (l.drop (a + 2)).take (a + 2 + 1 + d - (a + 2)) = nm := ⟨_, rfl⟩
      have hnl : nm.length = 1 + d := by rw [← hnm]; simp; omega
      rw [hnm] at hsl
      have HNM := Lib.hid hnm
      have HRA := Lib.hid (show ∀ c, nm = [c] → itmN l a k = .inr ⟨spn c.toNat c.toNat, if k = 46 then some c else none, a + 2 + 1 + d + 2⟩ from fun c hc => itmN_one h58 hf (by unfold nam; rw [hnm, hc]))
      have HRB := Lib.hid (show nm.length ≠ 1 → itmN l a k = .inl (6, a) from fun hc => itmN_bad h58 hf (by unfold nam; rw [hnm]; exact hc))
      clear hf h3 h4 h5 hnm
      obtain ⟨w1, hw1⟩ : ∃ w1, w1 = w0.setCell ⟨b, 1, none⟩ (.int .i64 ((a : Int) + 2 + (1 + d) + 2)) := ⟨_, rfl⟩
      have hs1 : w1.heap.size = w0.heap.size := by rw [hw1]; simp
      have H1 := Lib.hid (show Rd w1 b l ((a + 2 + 1 + d + 2 : Nat) : Int) 0 p by
        rw [hw1, show ((a + 2 + 1 + d + 2 : Nat) : Int) = (a : Int) + 2 + (1 + d) + 2 by omega]; exact heap_setCell_at (FW0.out.heap H.out (fun x => x)) 1 _)
      have HZ1 := Lib.hid (show w1.heap[w.heap.size]? = some (.cells #[.int .u64 0, .int .u64 0, .int .u64 0, .int .u64 0, .bool false] 332 (0, 0)) by
        rw [hw1]; exact heap_setCell_ne HZ0.out (by simp only; omega) _)
      have FW1 := Lib.hid (show Fr (fun k => k = b) w w1 by rw [hw1]; exact Fr.setCell (S := fun k => k = b) (p := ⟨b, 1, none⟩) FW0.out.any (fun _ => rfl) _)
      have HW1 := Lib.hid hw1; clear hw1
      by_cases hd : d = 0
      · have td : ((1 : Int) + d == 1) = true := by simp; omega
        have td2 : ((1 : Int) + d != 1) = false := by simp; omega
        have HD := Lib.hid hd; clear hd
        go_enter Tryz.func274, Tryz.ntmps274
        go_wp2_with fail
        rw [← HW0.out]
        clear hcv
        refine (HS.out _ HE0.out).mono ?_
        rintro e w1 ⟨rfl, rfl⟩
        go_wp2_with fail
        obtain ⟨c, rfl⟩ := List.length_eq_one_iff.1 (show nm.length = 1 by have := HD.out; omega)
        rw [← HW1.out, ← hs1]
        have ho := dot_some k c
        refine (of_one c w1 _).mono ?_
        have hHRA := HRA.out c rfl
        obtain ⟨S, hS⟩ : ∃ S, spn c.toNat c.toNat = S := ⟨_, rfl⟩
        have hfit : S.fit := by rw [← hS]; exact fit_spn _ _
        rw [hS] at hHRA ⊢
        rintro e w2 ⟨rfl, f2⟩
        have f12 : Fr nob w1 w2 := ((Fr.refl _ _).alloc _).trans' f2
        have hz2 := f12.heap HZ1.out (fun x => x)
        have hr2 := H1.out.on f12
        have r2 := rule5 hz2
        have hlz := lt_heap hz2
        have FF := Lib.hid (FW1.out.trans f12 (fun i hi e => e.elim)); have HZ2 := Lib.hid hz2; have HR2 := Lib.hid hr2; have HRV := Lib.hid hHRA; have HO := Lib.hid ho
        clear hz2 hr2 hS hHRA f2 f12 ho
        go_wp2
        (try simp only [Exit.inBlock, Exit.then])
        refine bodyPost_ret (results_it (s := S) (e := (k.toNat : Int) == 46) rfl rfl (setFive_heap HZ2.out _ _ _ _ _)) rfl ⟨S, _, rfl, hfit, setFive_fr FF.out (Nat.le_refl _) _ _ _ _ _, ?_⟩
        rw [← HR.out, HRV.out]
        exact ⟨rfl, HO.out, setFive_old HR2.out (by omega) _ _ _ _ _⟩
      · have td : ((1 : Int) + d == 1) = false := by simp; omega
        have td2 : ((1 : Int) + d != 1) = true := by simp; omega
        go_enter Tryz.func274, Tryz.ntmps274
        go_wp2_with fail
        rw [← HW0.out]
        clear hcv
        refine (HS.out _ HE0.out).mono ?_
        rintro e w1 ⟨rfl, rfl⟩
        go_wp2_with fail
        rw [← HW1.out]
        refine (fail_ok b l _ p 6 a _ H1.out).mono ?_
        rintro e w2 ⟨rfl, h2, f2⟩
        have hz2 := f2.heap HZ1.out (fun e => by omega)
        have r2 := rule5 hz2
        have hlz := lt_heap hz2
        have HH := Lib.hid h2; have FF := Lib.hid f2; have HZ2 := Lib.hid hz2
        have HRV := Lib.hid (HRB.out (by omega))
        clear h2 f2 hz2
        go_wp2
        (try simp only [Exit.inBlock, Exit.then])
        refine bodyPost_ret (results_it (s := S4.zero) (e := false) rfl rfl (setFive_heap HZ2.out _ _ _ _ _)) rfl ⟨S4.zero, false, rfl, fit_zero, setFive_fr (FW1.out.trans FF.out (fun i hi e => e)) (Nat.le_refl _) _ _ _ _ _, ?_⟩
        rw [← HR.out, HRV.out]
        exact ⟨a + 2 + 1 + d + 2, by omega, (by simp), setFive_old HH.out (by omega) _ _ _ _ _⟩

end Go.Proofs.YtkfddjopbocpkaaGreatDoor

/-
  Walks of package bracket: named, behind [: .
-/
namespace Go.Proofs.YtkfddjopbocpkaaGreatDoor
open Go.RowKit

def colIt (a e : Nat) : Option (Int → Bool) → (Int × Nat) ⊕ It
  | none => .inl (6, a)
  | some p => .inr ⟨pk p 256, none, e + 2⟩

set_option maxRecDepth 100000 in
set_option maxHeartbeats 4000000 in
theorem named_col (b : Nat) (l : List UInt8) (a : Nat) (p : Int) (w : World) (hl : l.length ≤ 100000) (ha : a + 2 ≤ l.length) (hb : envB ≤ b) (hE : Env w) (h : Rd w b l a 0 p) :
    Calls Tryz.prog 274 #[.pointer (some ⟨b, 0, none⟩), .int .u8 58] w (ItAns b l a p (itmN l a 58) w) := by
  obtain ⟨R, hR⟩ : ∃ R, itmN l a 58 = R := ⟨_, rfl⟩
  rw [hR]
  have HR := Lib.hid hR; clear hR
  have rr := rule4 h
  have hbw := lt_heap h
  have H := Lib.hid h; have HE := Lib.hid hE; clear h hE
  obtain ⟨w0, hw0⟩ : ∃ w0, w0 = (w.alloc (.cells #[.int .u64 0, .int .u64 0, .int .u64 0, .int .u64 0, .bool false] 332)).alloc (.cells #[.int .u8 58, .int .u8 93] 5) := ⟨_, rfl⟩
  have hz0 : w0.heap[w.heap.size]? = some (.cells #[.int .u64 0, .int .u64 0, .int .u64 0, .int .u64 0, .bool false] 332 (0, 0)) := by rw [hw0]; exact heap_alloc_lt _ (newAt _ _)
  have f0 : Fr nob w w0 := by rw [hw0]; exact ((Fr.refl _ _).alloc _).alloc _
  have hcv := run_conv_two (P := Tryz.prog) (src := 22) (dst := 9) (e := 5) Tryz.underlying22 Tryz.underlying5 Tryz.underlying9 58 93 (w.alloc (.cells #[.int .u64 0, .int .u64 0, .int .u64 0, .int .u64 0, .bool false] 332))
  rw [show ((93 : UInt8).toNat : Int) = 93 from rfl, show (w.alloc (.cells #[.int .u64 0, .int .u64 0, .int .u64 0, .int .u64 0, .bool false] 332)).heap.size = w.heap.size + 1 by simp] at hcv
  rw [show ((58 : UInt8).toNat : Int) = 58 from rfl] at hcv
  have HW0 := Lib.hid hw0; have HZ0 := Lib.hid hz0; have FW0 := Lib.hid f0; have HE0 := Lib.hid (HE.out.on f0)
  have rr0 := rule4 (f0.heap H.out (fun x => x))
  have hbw0 : b < w0.heap.size := Nat.lt_of_lt_of_le hbw f0.size
  clear hw0 hz0 f0
  have hal : (a : Int) + 2 ≤ l.length := by omega
  cases hf : fnd l 58 (l.length + 1) (a + 2) with
  | none =>
    have hix : Lib.index (l.drop (a + 2)) [58, 93] = -1 := by rw [idx_fnd _ _ _ (by omega), hf]
    have HRV := Lib.hid (itmN_none (l := l) (a := a) (k := 58) hf)
    clear hf
    have hS := fun w h => strIndex (l.drop (a + 2)) [58, 93] w (by simp; omega) h
    rw [hix] at hS
    have HS := Lib.hid hS; clear hS hix
    go_enter Tryz.func274, Tryz.ntmps274
    go_wp2_with fail
    rw [← HW0.out]
    clear hcv
    refine (HS.out _ HE0.out).mono ?_
    rintro e w1 ⟨rfl, rfl⟩
    go_wp2_with fail
    refine (fail_ok b l a p 5 l.length _ (H.out.on FW0.out)).mono ?_
    rintro e w2 ⟨rfl, h2, f2⟩
    have hz2 := f2.heap HZ0.out (fun e => by omega)
    have r2 := rule5 hz2
    have hlz := lt_heap hz2
    have HH := Lib.hid h2; have FF := Lib.hid f2; have HZ2 := Lib.hid hz2
    clear h2 f2 hz2
    go_wp2
    (try simp only [Exit.inBlock, Exit.then])
    refine bodyPost_ret (results_it (s := S4.zero) (e := false) rfl rfl (setFive_heap HZ2.out _ _ _ _ _)) rfl ⟨S4.zero, false, rfl, fit_zero, setFive_fr (FW0.out.any.trans FF.out (fun i hi e => e)) (Nat.le_refl _) _ _ _ _ _, ?_⟩
    rw [← HR.out, HRV.out]
    exact ⟨a, by omega, (by simp), setFive_old HH.out (by omega) _ _ _ _ _⟩
  | some e =>
    obtain ⟨h1, h2, h3, h4, h5⟩ := fnd_some hf
    obtain ⟨d, rfl⟩ : ∃ d, e = a + 2 + d := ⟨e - (a + 2), by omega⟩
    have hix : Lib.index (l.drop (a + 2)) [58, 93] = (d : Int) := by rw [idx_fnd _ _ _ (by omega), hf]; simp only; omega
    have hS := fun w h => strIndex (l.drop (a + 2)) [58, 93] w (by simp; omega) h
    rw [hix] at hS
    have HS := Lib.hid hS; clear hS hix
    have hdb : (a : Int) + 2 + d + 1 < l.length := by omega
    have hsl := run_slice_bs (P := Tryz.prog) l (lo := (a : Int) + 2) (hi := (a : Int) + 2 + d) Tryz.underlying9 (by omega) (by omega) (by omega)
    rw [show ((a : Int) + 2).toNat = a + 2 by omega, show ((a : Int) + 2 + d).toNat = a + 2 + d by omega] at hsl
    obtain ⟨nm, hnm⟩ : ∃ nm, (l.drop (a + 2)).take (a + 2 + d - (a + 2)) = nm := ⟨_, rfl⟩
    have hnl : nm.length = d := by rw [← hnm]; simp; omega
    rw [hnm] at hsl
    obtain ⟨o, ho⟩ : ∃ o, clsOf ⟨nm.toArray⟩ = o := ⟨_, rfl⟩
    have HRV := Lib.hid (show itmN l a 58 = colIt a (a + 2 + d) o by
      cases o with
      | none => exact itmN_clsno hf (by unfold nam; rw [hnm, ho])
      | some p => exact itmN_cls hf (by unfold nam; rw [hnm, ho]))
    have HC := Lib.hid (fun w => class_lit ⟨nm.toArray⟩ o ho w)
    clear hf h3 h4 h5 hnm ho
    obtain ⟨w1, hw1⟩ : ∃ w1, w1 = w0.setCell ⟨b, 1, none⟩ (.int .i64 ((a : Int) + 2 + d + 2)) := ⟨_, rfl⟩
    have H1 := Lib.hid (show Rd w1 b l ((a + 2 + d + 2 : Nat) : Int) 0 p by
      rw [hw1, show ((a + 2 + d + 2 : Nat) : Int) = (a : Int) + 2 + d + 2 by omega]; exact heap_setCell_at (FW0.out.heap H.out (fun x => x)) 1 _)
    have HZ1 := Lib.hid (show w1.heap[w.heap.size]? = some (.cells #[.int .u64 0, .int .u64 0, .int .u64 0, .int .u64 0, .bool false] 332 (0, 0)) by
      rw [hw1]; exact heap_setCell_ne HZ0.out (by simp only; omega) _)
    have FW1 := Lib.hid (show Fr (fun k => k = b) w w1 by rw [hw1]; exact Fr.setCell (S := fun k => k = b) (p := ⟨b, 1, none⟩) FW0.out.any (fun _ => rfl) _)
    have HW1 := Lib.hid hw1; clear hw1
    go_enter Tryz.func274, Tryz.ntmps274
    go_wp2_with fail
    rw [← HW0.out]
    clear hcv
    refine (HS.out _ HE0.out).mono ?_
    rintro e w1' ⟨rfl, rfl⟩
    go_wp2_with fail
    rw [← HW1.out]
    refine (HC.out w1).mono ?_
    obtain ⟨S, hS⟩ : ∃ S, clsSet o = S := ⟨_, rfl⟩
    have hfit : S.fit := by rw [← hS]; exact fit_clsSet _
    rw [hS]
    rintro e w2 ⟨rfl, f2⟩
    have hz2 := f2.heap HZ1.out (fun x => x)
    have hr2 := H1.out.on f2
    have hlr2 := lt_heap hr2
    have hlz := lt_heap hz2
    have FF := Lib.hid (FW1.out.trans f2 (fun i hi e => e.elim)); have HZ2 := Lib.hid hz2; have HR2 := Lib.hid hr2; have HS2 := Lib.hid hS
    clear hz2 hr2 hS f2
    cases o with
    | none =>
      go_wp2_with fail
      refine (fail_ok b l _ p 6 a _ (HR2.out.on ((Fr.refl _ _).alloc _))).mono ?_
      rintro e w3 ⟨rfl, h3, f3⟩
      have hz3 := f3.heap (((Fr.refl nob w2).alloc _).heap HZ2.out (fun x => x)) (fun e => by omega)
      have r3 := rule5 hz3
      have hn3 := rule4 (f3.heap (newAt w2 (.cells #[.int .u64 S.a, .int .u64 S.b, .int .u64 S.c, .int .u64 S.d] 132)) (fun e => by omega))
      have HH := Lib.hid h3; have F3 := Lib.hid f3; have HZ3 := Lib.hid hz3
      clear h3 f3 hz3
      go_wp2
      (try simp only [Exit.inBlock, Exit.then])
      refine bodyPost_ret (results_it (s := S) (e := false) rfl rfl (setFive_heap HZ3.out _ _ _ _ _)) rfl ⟨S, false, rfl, hfit, setFive_fr ((FF.out.alloc _).trans F3.out (fun i hi e => e)) (Nat.le_refl _) _ _ _ _ _, ?_⟩
      rw [← HR.out, HRV.out]
      exact ⟨a + 2 + d + 2, by omega, (by simp), setFive_old HH.out (by omega) _ _ _ _ _⟩
    | some p0 =>
      have r3 := rule5 HZ2.out
      have hn3 := rule4 (newAt w2 (.cells #[.int .u64 S.a, .int .u64 S.b, .int .u64 S.c, .int .u64 S.d] 132))
      go_wp2
      (try simp only [Exit.inBlock, Exit.then])
      refine bodyPost_ret (results_it (s := S) (e := false) rfl rfl (((Fr.refl nob _).alloc _).heap (setFive_heap HZ2.out _ _ _ _ _) (fun x => x))) rfl ⟨S, false, rfl, hfit, (setFive_fr FF.out (Nat.le_refl _) _ _ _ _ _).alloc _, ?_⟩
      rw [← HR.out, HRV.out]
      exact ⟨HS2.out.symm, rfl, ((Fr.refl nob _).alloc _).heap (setFive_old HR2.out (by omega) _ _ _ _ _) (fun x => x)⟩

end Go.Proofs.YtkfddjopbocpkaaGreatDoor

/-
  Walks of package bracket: item.
-/
namespace Go.Proofs.YtkfddjopbocpkaaGreatDoor
open Go.RowKit

theorem named_any (b : Nat) (l : List UInt8) (a : Nat) (k : UInt8) (p : Int) (w : World) (hl : l.length ≤ 100000) (ha : a + 2 ≤ l.length) (hb : envB ≤ b) (hE : Env w) (h : Rd w b l a 0 p) :
    Calls Tryz.prog 274 #[.pointer (some ⟨b, 0, none⟩), .int .u8 (k.toNat : Int)] w (ItAns b l a p (itmN l a k) w) := by
  by_cases hk : k = 58
  · subst hk; exact named_col b l a p w hl ha hb hE h
  · exact named_oth b l a k p w hl ha hb hE h hk

theorem opn0 (w : World) : (Instr.index 334 (.agg #[.string ⟨#[91, 58]⟩, .string ⟨#[91, 61]⟩, .string ⟨#[91, 46]⟩]) (.int .i64 0)).run Tryz.prog w = .ok (.string ⟨#[91, 58]⟩) w := by kernel_rfl
theorem opn1 (w : World) : (Instr.index 334 (.agg #[.string ⟨#[91, 58]⟩, .string ⟨#[91, 61]⟩, .string ⟨#[91, 46]⟩]) (.int .i64 1)).run Tryz.prog w = .ok (.string ⟨#[91, 61]⟩) w := by kernel_rfl
theorem opn2 (w : World) : (Instr.index 334 (.agg #[.string ⟨#[91, 58]⟩, .string ⟨#[91, 61]⟩, .string ⟨#[91, 46]⟩]) (.int .i64 2)).run Tryz.prog w = .ok (.string ⟨#[91, 46]⟩) w := by kernel_rfl

theorem pre2 {l : List UInt8} {k : UInt8} {a : Nat} : ([91, k].isPrefixOf (l.drop a) = true) ↔ l[a]? = some 91 ∧ l[a + 1]? = some k := by
  have := occ2 l a 0 k
  unfold Lib.occAt at this
  have e1 : l[a]? = (l.drop a)[0]? := by simp
  have e2 : l[a + 1]? = (l.drop a)[1]? := by simp
  rw [e1, e2]
  cases h : l.drop a with
  | nil => simp
  | cons x r =>
    cases r with
    | nil => simp
    | cons y r =>
      simp [List.isPrefixOf]
      constructor <;> (rintro ⟨h1, h2⟩; exact ⟨h1.symm, h2.symm⟩)
theorem itm_named {l : List UInt8} {a : Nat} {k : UInt8} (hk : isKind k = true) (h : [91, k].isPrefixOf (l.drop a) = true) : itm l a = itmN l a k ∧ a + 2 ≤ l.length := by
  obtain ⟨h1, h2⟩ := pre2.1 h
  have := (List.getElem?_eq_some_iff.1 h2).1
  unfold itm
  rw [h1]; simp only; rw [h2]; simp only
  rw [if_pos ⟨trivial, hk⟩]
  exact ⟨rfl, by omega⟩
theorem itm_plain {l : List UInt8} {a : Nat} (ha : a < l.length) (h1 : [91, 58].isPrefixOf (l.drop a) = false) (h2 : [91, 61].isPrefixOf (l.drop a) = false) (h3 : [91, 46].isPrefixOf (l.drop a) = false) :
    itm l a = .inr ⟨spn (l[a]).toNat (l[a]).toNat, some l[a], a + 1⟩ := by
  unfold itm
  rw [List.getElem?_eq_getElem ha]; simp only
  split
  · rfl
  · next k hk =>
    split
    · next hc =>
      have h91 : l[a]? = some 91 := by rw [List.getElem?_eq_getElem ha, hc.1]
      have hkk := hc.2
      unfold isKind at hkk
      simp only [Bool.or_eq_true, beq_iff_eq] at hkk
      rcases hkk with (rfl | rfl) | rfl
      · rw [pre2.2 ⟨h91, hk⟩] at h1; cases h1
      · rw [pre2.2 ⟨h91, hk⟩] at h2; cases h2
      · rw [pre2.2 ⟨h91, hk⟩] at h3; cases h3
    · rfl
theorem itm_end {l : List UInt8} {a : Nat} (ha : l.length ≤ a) : itm l a = .inl (5, l.length) := by
  unfold itm; rw [List.getElem?_eq_none ha]

set_option maxRecDepth 100000 in
set_option maxHeartbeats 4000000 in
theorem item_any (b : Nat) (l : List UInt8) (a : Nat) (p : Int) (w : World) (hl : l.length ≤ 100000) (ha : a ≤ l.length) (hb : envB ≤ b) (hE : Env w) (h : Rd w b l a 0 p) :
    Calls Tryz.prog 269 #[.pointer (some ⟨b, 0, none⟩)] w (ItAns b l a p (itm l a) w) := by
  obtain ⟨R, hR⟩ : ∃ R, itm l a = R := ⟨_, rfl⟩
  rw [hR]
  have HR := Lib.hid hR; clear hR
  have rr := rule4 h
  have hbw := lt_heap h
  obtain ⟨w0, hw0⟩ : ∃ w0, w0 = w.alloc (.cells #[.int .u64 0, .int .u64 0, .int .u64 0, .int .u64 0, .bool false] 332) := ⟨_, rfl⟩
  have f0 : Fr nob w w0 := by rw [hw0]; exact (Fr.refl _ _).alloc _
  have HZ0 := Lib.hid (show w0.heap[w.heap.size]? = some (.cells #[.int .u64 0, .int .u64 0, .int .u64 0, .int .u64 0, .bool false] 332 (0, 0)) by rw [hw0]; exact newAt _ _)
  have FW0 := Lib.hid f0
  have H0 := Lib.hid (h.on f0); have HE0 := Lib.hid (hE.on f0)
  have hbw0 : b < w0.heap.size := Nat.lt_of_lt_of_le hbw f0.size
  have rr0 := rule4 H0.out
  have HW0 := Lib.hid hw0
  clear hw0
  clear h hE f0
  have hal : (a : Int) ≤ l.length := by omega
  by_cases hend : l.length ≤ a
  · have HRV := Lib.hid (itm_end hend)
    have t1 : ((l.length : Int) ≤ a) := by omega
    go_enter Tryz.func269, Tryz.ntmps269
    go_wp2_with fail
    rw [← HW0.out]
    refine region_fr_all (by kernel_rfl) (by kernel_rfl) ?_
    repeat (quiet_step (fail))
    refine wpQuiet_nil ?_
    intro wC fC
    go_wp2_with fail
    refine (fail_ok b l a p 5 l.length _ (H0.out.on fC)).mono ?_
    rintro e w2 ⟨rfl, h2, f2⟩
    have hz2 := f2.heap (fC.heap HZ0.out (fun x => x)) (fun e => by omega)
    have r2 := rule5 hz2
    have hlz := lt_heap hz2
    have HH := Lib.hid h2; have FF := Lib.hid ((FW0.out.trans' fC).any.trans f2 (fun i hi e => e)); have HZ2 := Lib.hid hz2
    clear h2 f2 hz2 fC
    go_wp2
    (try simp only [Exit.inBlock, Exit.then])
    refine bodyPost_ret (results_it (s := S4.zero) (e := false) rfl rfl (setFive_heap HZ2.out _ _ _ _ _)) rfl ⟨S4.zero, false, rfl, fit_zero, setFive_fr FF.out (Nat.le_refl _) _ _ _ _ _, ?_⟩
    rw [← HR.out, HRV.out]
    exact ⟨a, by omega, (by simp), setFive_old HH.out (by omega) _ _ _ _ _⟩
  · have t1 : ¬ ((l.length : Int) ≤ a) := by omega
    have HA := Lib.hid (fun (t : List UInt8) (ht : t.length ≤ 1000000) w h => ahead_any b l t a 0 p w (by omega) ht ha h)
    go_enter Tryz.func269, Tryz.ntmps269
    go_wp2_with fail
    rw [← HW0.out]
    refine region_fr_all (by kernel_rfl) (by kernel_rfl) ?_
    repeat (quiet_step (fail))
    refine wpQuiet_nil ?_
    intro wC fC
    have o0 := opn0; have o1 := opn1; have o2 := opn2
    go_wp2_with fail
    refine wp_loop_rounds 4 ?_
    rw [rounds_succ]
    go_wp2_with fail
    refine (HA.out [91, 58] (by simp) wC (H0.out.on fC)).mono ?_
    obtain ⟨q0, hq0⟩ : ∃ q, [91, 58].isPrefixOf (l.drop a) = q := ⟨_, rfl⟩
    rw [hq0]
    rintro e v0 ⟨rfl, g0⟩
    have g0 := Fr.trans' fC g0
    cases q0 with
    | true =>
      obtain ⟨hRV, h2l⟩ := itm_named (k := 58) rfl hq0
      have HRV := Lib.hid hRV; clear hRV
      go_wp2_with fail
      refine (named_any b l a 58 p v0 hl h2l hb (HE0.out.on g0) (H0.out.on g0)).mono ?_
      rintro e w2 ⟨s, o, rfl, hsf, f2, hRR⟩
      rw [← HRV.out, HR.out] at hRR
      have hz2 := f2.heap (Fr.heap g0 HZ0.out (fun x => x)) (fun e => by omega)
      have r2 := rule5 hz2
      have hlz := lt_heap hz2
      have FF := Lib.hid ((FW0.out.trans' g0).any.trans f2 (fun i hi e => e)); have HZ2 := Lib.hid hz2; have HRR := Lib.hid hRR; have HSF := Lib.hid hsf
      clear f2 hz2 hRR hsf
      go_wp2
      (try simp only [Exit.inBlock, Exit.then])
      refine bodyPost_ret (results_it (s := s) (e := o) rfl rfl (setFive_heap HZ2.out _ _ _ _ _)) rfl ⟨s, o, rfl, HSF.out, setFive_fr FF.out (Nat.le_refl _) _ _ _ _ _, ?_⟩
      exact HRR.out.to fun x r q h => setFive_old h (by omega) _ _ _ _ _
    | false =>
    have HQ0 := Lib.hid hq0; clear hq0
    go_wp2_with fail
    rw [rounds_succ]
    go_wp2_with fail
    refine (HA.out [91, 61] (by simp) v0 (H0.out.on g0)).mono ?_
    obtain ⟨q1, hq1⟩ : ∃ q, [91, 61].isPrefixOf (l.drop a) = q := ⟨_, rfl⟩
    rw [hq1]
    rintro e v1 ⟨rfl, g1⟩
    have g1 := Fr.trans' g0 g1
    cases q1 with
    | true =>
      obtain ⟨hRV, h2l⟩ := itm_named (k := 61) rfl hq1
      have HRV := Lib.hid hRV; clear hRV
      go_wp2_with fail
      refine (named_any b l a 61 p v1 hl h2l hb (HE0.out.on g1) (H0.out.on g1)).mono ?_
      rintro e w2 ⟨s, o, rfl, hsf, f2, hRR⟩
      rw [← HRV.out, HR.out] at hRR
      have hz2 := f2.heap (Fr.heap g1 HZ0.out (fun x => x)) (fun e => by omega)
      have r2 := rule5 hz2
      have hlz := lt_heap hz2
      have FF := Lib.hid ((FW0.out.trans' g1).any.trans f2 (fun i hi e => e)); have HZ2 := Lib.hid hz2; have HRR := Lib.hid hRR; have HSF := Lib.hid hsf
      clear f2 hz2 hRR hsf
      go_wp2
      (try simp only [Exit.inBlock, Exit.then])
      refine bodyPost_ret (results_it (s := s) (e := o) rfl rfl (setFive_heap HZ2.out _ _ _ _ _)) rfl ⟨s, o, rfl, HSF.out, setFive_fr FF.out (Nat.le_refl _) _ _ _ _ _, ?_⟩
      exact HRR.out.to fun x r q h => setFive_old h (by omega) _ _ _ _ _
    | false =>
    have HQ1 := Lib.hid hq1; clear hq1
    go_wp2_with fail
    rw [rounds_succ]
    go_wp2_with fail
    refine (HA.out [91, 46] (by simp) v1 (H0.out.on g1)).mono ?_
    obtain ⟨q2, hq2⟩ : ∃ q, [91, 46].isPrefixOf (l.drop a) = q := ⟨_, rfl⟩
    rw [hq2]
    rintro e v2 ⟨rfl, g2⟩
    have g2 := Fr.trans' g1 g2
    cases q2 with
    | true =>
      obtain ⟨hRV, h2l⟩ := itm_named (k := 46) rfl hq2
      have HRV := Lib.hid hRV; clear hRV
      go_wp2_with fail
      refine (named_any b l a 46 p v2 hl h2l hb (HE0.out.on g2) (H0.out.on g2)).mono ?_
      rintro e w2 ⟨s, o, rfl, hsf, f2, hRR⟩
      rw [← HRV.out, HR.out] at hRR
      have hz2 := f2.heap (Fr.heap g2 HZ0.out (fun x => x)) (fun e => by omega)
      have r2 := rule5 hz2
      have hlz := lt_heap hz2
      have FF := Lib.hid ((FW0.out.trans' g2).any.trans f2 (fun i hi e => e)); have HZ2 := Lib.hid hz2; have HRR := Lib.hid hRR; have HSF := Lib.hid hsf
      clear f2 hz2 hRR hsf
      go_wp2
      (try simp only [Exit.inBlock, Exit.then])
      refine bodyPost_ret (results_it (s := s) (e := o) rfl rfl (setFive_heap HZ2.out _ _ _ _ _)) rfl ⟨s, o, rfl, HSF.out, setFive_fr FF.out (Nat.le_refl _) _ _ _ _ _, ?_⟩
      exact HRR.out.to fun x r q h => setFive_old h (by omega) _ _ _ _ _
    | false =>
    have HQ2 := Lib.hid hq2; clear hq2
    go_wp2_with fail
    rw [rounds_succ]
    go_wp2_with fail
    have hlt : (a : Int) < l.length := by omega
    have HRV := Lib.hid (itm_plain (show a < l.length by omega) HQ0.out HQ1.out HQ2.out)
    obtain ⟨c, hc⟩ : ∃ c, l[a]'(by omega) = c := ⟨_, rfl⟩
    refine region_fr 8 (by kernel_rfl) (by kernel_rfl) ?_
    simp only [List.take_succ_cons, List.take_zero, List.drop_succ_cons, List.drop_zero]
    repeat (quiet_step (fail))
    refine wpQuiet_nil ?_
    intro wD fD
    have gD := Fr.trans' g2 fD
    obtain ⟨w5, hw5⟩ : ∃ w5, w5 = wD.setCell ⟨b, 1, none⟩ (.int .i64 ((a : Int) + 1)) := ⟨_, rfl⟩
    have hs5 : w5.heap.size = wD.heap.size := by rw [hw5]; simp
    have H5 := Lib.hid (show Rd w5 b l ((a + 1 : Nat) : Int) 0 p by
      rw [hw5, show ((a + 1 : Nat) : Int) = (a : Int) + 1 by omega]; exact heap_setCell_at (gD.heap H0.out (fun x => x)) 1 _)
    have HZ5 := Lib.hid (show w5.heap[w.heap.size]? = some (.cells #[.int .u64 0, .int .u64 0, .int .u64 0, .int .u64 0, .bool false] 332 (0, 0)) by
      rw [hw5]; exact heap_setCell_ne (gD.heap HZ0.out (fun x => x)) (by simp only; omega) _)
    have FW5 := Lib.hid (show Fr (fun k => k = b) w w5 by rw [hw5]; exact Fr.setCell (S := fun k => k = b) (p := ⟨b, 1, none⟩) (FW0.out.trans' gD).any (fun _ => rfl) _)
    have HW5 := Lib.hid hw5; clear hw5
    go_wp2_with fail
    rw [← HW5.out, ← hs5]
    refine (of_one c w5 _).mono ?_
    obtain ⟨S, hS⟩ : ∃ S, spn c.toNat c.toNat = S := ⟨_, rfl⟩
    have hfit : S.fit := by rw [← hS]; exact fit_spn _ _
    rw [hS]
    have HS := Lib.hid hS; clear hS
    rintro e w6 ⟨rfl, f6⟩
    have f56 : Fr nob w5 w6 := ((Fr.refl _ _).alloc _).trans' f6
    have hz6 := f56.heap HZ5.out (fun x => x)
    have r6 := rule5 hz6
    have hlz := lt_heap hz6
    have FF := Lib.hid (FW5.out.trans f56 (fun i hi e => e.elim)); have HZ6 := Lib.hid hz6; have HR6 := Lib.hid (H5.out.on f56); have HCC := Lib.hid hc
    clear hz6 f6 f56 hc
    go_wp2
    (try simp only [Exit.inBlock, Exit.then])
    refine bodyPost_ret (results_it (s := S) (e := true) rfl rfl (setFive_heap HZ6.out _ _ _ _ _)) rfl ⟨S, true, rfl, hfit, setFive_fr FF.out (Nat.le_refl _) _ _ _ _ _, ?_⟩
    rw [← HR.out, HRV.out, HCC.out]
    exact ⟨HS.out.symm, rfl, setFive_old HR6.out (by omega) _ _ _ _ _⟩

end Go.Proofs.YtkfddjopbocpkaaGreatDoor

/-
  Walks of package bracket: part.
-/
namespace Go.Proofs.YtkfddjopbocpkaaGreatDoor
open Go.RowKit

open Classical in
noncomputable def lst (s : S4) : Nat := if h : ∃ d b, LeastIs s d b then h.choose else 0
theorem lst_is {s : S4} {d : Nat} {b : Bool} (h : LeastIs s d b) : lst s = d := by
  have hx : ∃ d b, LeastIs s d b := ⟨d, b, h⟩
  unfold lst; rw [dif_pos hx]
  obtain ⟨b', hb⟩ := hx.choose_spec
  exact (hb.uniq h).1
theorem lst_lt (s : S4) : lst s < 256 := by
  unfold lst
  split
  · next h =>
    obtain ⟨b, hb⟩ := h.choose_spec
    rcases hb with ⟨_, h0, _⟩ | ⟨_, h0, _⟩ <;> omega
  · omega
theorem lst_one {c : Nat} (h : c < 256) : lst (spn c c) = c :=
  lst_is (b := true) (.inr ⟨rfl, h, by rw [has_spn _ _ _ h h h]; simp, fun e he => by rw [has_spn _ _ _ h h (by omega)]; simp; omega⟩)
theorem itLeast_fix (s : S4) (o : Bool) (w : World) (hs : s.fit) (hT : Tab w) :
    Calls Tryz.prog 270 #[itV s o] w fun e w' => e = .returned (.int .u8 (lst s)) ∧ Fr nob w w' := by
  refine (itLeast_any s o w hs hT).mono ?_
  rintro e w' ⟨d, b, rfl, h, _, f⟩
  rw [lst_is h]
  exact ⟨rfl, f⟩
theorem span_lit (a b : Nat) (w : World) (ha : a < 256) (hb : b < 256) : Calls Tryz.prog 255 #[.int .u8 a, .int .u8 b] w fun e w' => e = .returned (setV (spn a b)) ∧ Fr nob w w' := span_any a b w ha hb

abbrev PtEnd (b : Nat) (l : List UInt8) (p : Int) (s : S4) (R : (Int × Nat) ⊕ (S4 × Nat)) (w' : World) : Prop := match R with
    | .inr x => s = x.1 ∧ Rd w' b l x.2 0 p
    | .inl z => ∃ a' : Nat, a' ≤ l.length ∧ z.1 ≠ 0 ∧ Rd w' b l a' z.1 z.2
def PtAns (b : Nat) (l : List UInt8) (p : Int) (R : (Int × Nat) ⊕ (S4 × Nat)) (w : World) (e : Ending) (w' : World) : Prop :=
  ∃ s, e = .returned (setV s) ∧ s.fit ∧ Fr (fun k => k = b) w w' ∧ PtEnd b l p s R w'

theorem rng_iff (l : List UInt8) (k : Nat) : rng l k = (decide (k + 1 < l.length) && [45].isPrefixOf (l.drop k) && !([45, 93].isPrefixOf (l.drop k))) := by
  unfold rng
  have e1 : ([45].isPrefixOf (l.drop k)) = (l[k]? == some 45) := by
    rw [Bool.eq_iff_iff, pre1]; simp
  have e2 : ([45, 93].isPrefixOf (l.drop k)) = ((l[k]? == some 45) && (l[k + 1]? == some 93)) := by
    have := occ2 l k 0 45
    rw [Bool.eq_iff_iff]
    simp only [Bool.and_eq_true, beq_iff_eq]
    unfold Lib.occAt at this
    simpa using this
  rw [e1, e2]
  cases decide (k + 1 < l.length) <;> cases (l[k]? == some 45) <;> cases (l[k + 1]? == some 93) <;> rfl

theorem fail_any (b : Nat) (l : List UInt8) (a r p e q : Int) (w : World) (h : Rd w b l a r p) :
    Calls Tryz.prog 271 #[.pointer (some ⟨b, 0, none⟩), .int .i64 e, .int .i64 q] w fun x w' => x = .returned (.tuple #[]) ∧ Rd w' b l a (if r = 0 then e else r) (if r = 0 then q else p) ∧ Fr (fun k => k = b) w w' := by
  by_cases hr : r = 0
  · subst hr
    simp only [if_true]
    exact fail_ok b l a p e q w h
  · rw [if_neg hr, if_neg hr]
    refine (fail_set b l a r p e q w hr h).mono ?_
    rintro x w' ⟨rfl, rfl⟩
    exact ⟨rfl, h, Fr.refl _ _⟩
theorem prt_inl {l : List UInt8} {a : Nat} {z : Int × Nat} (h : itm l a = .inl z) : prt l a = .inl z := by unfold prt; rw [h]
theorem prt_set {l : List UInt8} {a : Nat} {x : It} (h : itm l a = .inr x) (hr : rng l x.next = false) : prt l a = .inr (x.set, x.next) := by
  unfold prt; rw [h]; simp only; rw [hr]; rfl
def rgo (a : Nat) (o1 o2 : Option UInt8) (n : Nat) : (Int × Nat) ⊕ (S4 × Nat) := match o1, o2 with
  | some c, some d => if c.toNat ≤ d.toNat then .inr (spn c.toNat d.toNat, n) else .inl (1, a)
  | _, _ => .inl (1, a)
theorem rgo_none {a n : Nat} {o : Option UInt8} : rgo a none o n = .inl (1, a) := rfl
theorem rgo_none2 {a n : Nat} {o : Option UInt8} : rgo a o none n = .inl (1, a) := by cases o <;> rfl
theorem rgo_ok {a n : Nat} {c d : UInt8} (h : c.toNat ≤ d.toNat) : rgo a (some c) (some d) n = .inr (spn c.toNat d.toNat, n) := if_pos h
theorem rgo_no {a n : Nat} {c d : UInt8} (h : ¬ c.toNat ≤ d.toNat) : rgo a (some c) (some d) n = .inl (1, a) := if_neg h
theorem prt_bad {l : List UInt8} {a : Nat} {x : It} {z : Int × Nat} (hx : itm l a = .inr x) (hr : rng l x.next = true) (hy : itm l (x.next + 1) = .inl z) : prt l a = .inl z := by
  unfold prt; rw [hx]; simp only; rw [hr, hy]; rfl
theorem prt_rgo {l : List UInt8} {a : Nat} {x y : It} (hx : itm l a = .inr x) (hr : rng l x.next = true) (hy : itm l (x.next + 1) = .inr y) : prt l a = rgo a x.one y.one y.next := by
  unfold prt rgo; rw [hx]; simp only; rw [hr, hy]; rfl
theorem part_fin {b : Nat} {l : List UInt8} {a : Nat} {p : Int} {x : It} {s' : S4} {o' : Bool} {w4 : World} (hx : itm l a = .inr x) (hr : rng l x.next = true) (h : ItEnd b l p s' o' (itm l (x.next + 1)) w4) :
    ∃ (a' : Nat) (r q : Int), a' ≤ l.length ∧ Rd w4 b l a' r q ∧
      (∀ w, (x.one.isSome = false ∨ o' = false ∨ lst s' < lst x.set) → Rd w b l a' (if r = 0 then 1 else r) (if r = 0 then (a : Int) else q) → PtEnd b l p (spn (lst x.set) (lst s')) (prt l a) w) ∧
      (∀ w, x.one.isSome = true → o' = true → ¬ lst s' < lst x.set → Rd w b l a' r q → PtEnd b l p (spn (lst x.set) (lst s')) (prt l a) w) := by
  cases hy : itm l (x.next + 1) with
  | inl z =>
    rw [hy] at h
    obtain ⟨a', h1, h2, h3⟩ := h
    rw [prt_bad hx hr hy]
    refine ⟨a', z.1, z.2, h1, h3, fun w _ hw => ?_, fun w _ _ _ hw => ⟨a', h1, h2, hw⟩⟩
    rw [if_neg h2, if_neg h2] at hw
    exact ⟨a', h1, h2, hw⟩
  | inr y =>
    rw [hy] at h
    obtain ⟨h1, h2, h3⟩ := h
    have hyn := itm_next hy
    rw [prt_rgo hx hr hy]
    refine ⟨y.next, 0, p, hyn.2.1, h3, fun w hb hw => ?_, fun w h4 h5 h6 hw => ?_⟩
    · simp only [if_true] at hw
      cases hxo : x.one with
      | none => rw [rgo_none]; exact ⟨y.next, hyn.2.1, (by simp), hw⟩
      | some c =>
        cases hyo : y.one with
        | none => rw [rgo_none2]; exact ⟨y.next, hyn.2.1, (by simp), hw⟩
        | some d =>
          have e1 := itm_one hx hxo
          have e2 := itm_one hy hyo
          rw [hxo, h2, hyo, h1, e1, e2, lst_one c.toNat_lt, lst_one d.toNat_lt] at hb
          simp only [Option.isSome_some, Bool.true_eq_false, false_or, reduceCtorEq] at hb
          rw [rgo_no (by omega)]
          exact ⟨y.next, hyn.2.1, (by simp), hw⟩
    · cases hxo : x.one with
      | none => rw [hxo] at h4; cases h4
      | some c =>
        cases hyo : y.one with
        | none => rw [h2, hyo] at h5; cases h5
        | some d =>
          have e1 := itm_one hx hxo
          have e2 := itm_one hy hyo
          rw [h1, e1, e2, lst_one c.toNat_lt, lst_one d.toNat_lt] at h6 ⊢
          rw [rgo_ok (by omega)]
          exact ⟨rfl, hw⟩

end Go.Proofs.YtkfddjopbocpkaaGreatDoor
