/-
  Merged texts of this claim: RefJ, TreeP.
-/
import Derived.Test.YtepeomphikhbkaaGreatDoorM33
import Derived.Test.YtepeomphikhbkaaGreatDoorM34

/-
  Walks: Join, Choose of the document.
-/
namespace Go.Proofs.YtepeomphikhbkaaGreatDoor
open Go.RowKit

/-- What a part brings to a Cat; to an Alt. -/
def T.partT (t : T) : List T := if t.kind = 0 then [] else if t.kind = 2 then t.parts else [t]
def T.armT (t : T) : List T := if t.kind = 3 then t.parts else [t]
def partsT : List T → List T
  | [] => []
  | t :: ts => t.partT ++ partsT ts
def armsT : List T → List T
  | [] => []
  | t :: ts => t.armT ++ armsT ts
def onlyT (k : Int) : List T → T
  | [] => T.zero
  | [x] => x
  | x :: y :: l => .mk k S4.zero (x :: y :: l) 0 0 0
def joinT (l : List T) : T := onlyT 2 (partsT l)
def chooseT (l : List T) : T := onlyT 3 (armsT l)

theorem partsT_append (l m : List T) : partsT (l ++ m) = partsT l ++ partsT m := by
  induction l with
  | nil => rfl
  | cons t ts ih => simp only [List.cons_append, partsT, ih, List.append_assoc]
theorem armsT_append (l m : List T) : armsT (l ++ m) = armsT l ++ armsT m := by
  induction l with
  | nil => rfl
  | cons t ts ih => simp only [List.cons_append, armsT, ih, List.append_assoc]
theorem partsT_take {l : List T} {k : Nat} (h : k < l.length) : partsT (l.take (k + 1)) = partsT (l.take k) ++ l[k].partT := by
  rw [List.take_succ_eq_append_getElem h, partsT_append]; simp [partsT]
theorem armsT_take {l : List T} {k : Nat} (h : k < l.length) : armsT (l.take (k + 1)) = armsT (l.take k) ++ l[k].armT := by
  rw [List.take_succ_eq_append_getElem h, armsT_append]; simp [armsT]
theorem T.partT_bulk (t : T) : T.bulks t.partT ≤ t.bulk := by
  have := t.bulk_parts
  unfold T.partT; split
  · simp [T.bulks]
  split
  · omega
  · simp [T.bulks]
theorem T.armT_bulk (t : T) : T.bulks t.armT ≤ t.bulk := by
  have := t.bulk_parts
  unfold T.armT; split
  · omega
  · simp [T.bulks]
theorem partsT_bulk (l : List T) : T.bulks (partsT l) ≤ T.bulks l := by
  induction l with
  | nil => simp [partsT]
  | cons t ts ih => have := t.partT_bulk; simp only [partsT, T.bulks, T.bulks_append]; omega
theorem armsT_bulk (l : List T) : T.bulks (armsT l) ≤ T.bulks l := by
  induction l with
  | nil => simp [armsT]
  | cons t ts ih => have := t.armT_bulk; simp only [armsT, T.bulks, T.bulks_append]; omega

/-- The block of a result. -/
abbrev SRb (w : World) : Nat → Prop := fun k => k = w.heap.size

theorem late_ST {w wr : World} {g : Option Nat} {l : List T} {u : Value} (h : ST nob w l u) (f : Fr nob w wr) (hg : ∀ j, g = some j → w.heap.size < j) : ST (LS2 (SRb w) g) wr l u :=
  h.keep f (fun _ _ x => x) (fun k hk x => by
    rcases x with x | x
    · unfold SRb at x; omega
    · have := hg k x; omega)
theorem late_RT {w wr : World} {g : Option Nat} {t : T} {cs : List Value} (h : RT nob w t cs) (f : Fr nob w wr) (hg : ∀ j, g = some j → w.heap.size < j) : RT (LS2 (SRb w) g) wr t cs :=
  RT.keep f (fun _ _ x => x) (fun k hk x => by
    rcases x with x | x
    · unfold SRb at x; omega
    · have := hg k x; omega) _ _ h

set_option maxRecDepth 100000 in
set_option maxHeartbeats 2000000 in
theorem joinT_any (l : List T) (u : Value) (w : World) (hl : T.bulks l ≤ 3000000) (h : ST nob w l u) :
    Calls Tryz.prog 77 #[u] w fun e w' => ∃ cs, e = .returned (.agg cs.toArray) ∧ RT nob w' (joinT l) cs ∧ Fr nob w w' := by
  obtain ⟨a, c, rfl⟩ := h.shape
  have H := Lib.hid h; clear h
  have hll := T.length_le l
  have hpl := Lib.hid (Nat.le_trans (T.length_le (partsT l)) (partsT_bulk l))
  go_enter Tryz.func77, Tryz.ntmps77
  go_wp2_with fail
  go_loopw [3, 7] (fun s i wr => ∃ (k : Nat) (g : Option Nat), i = .int .i64 k ∧ k ≤ l.length ∧ OwnT (SRb w) wr (partsT (l.take k)) s g ∧ Fr nob (w.alloc (.cells #[.int .i64 0, .int .u64 0, .int .u64 0, .int .u64 0, .int .u64 0, .slice none 0 0, .int .i64 0, .int .i64 0, .int .i64 0] 34)) wr ∧ ∀ j, g = some j → w.heap.size < j) (fun _ i _ => l.length - (intOf i).toNat)
  case atStart => exact ⟨0, none, rfl, Nat.zero_le _, OwnT.nil _ _, Fr.refl _ _, fun _ h => by cases h⟩
  case round =>
    obtain ⟨k, g, rfl, hk, ho, fr, hg⟩ := hrel
    obtain ⟨av, cv, rfl⟩ := ho.shape
    have HO := Lib.hid ho; have FR := Lib.hid fr; have HG := Lib.hid hg
    have hlw := fr.size
    simp only [World.size_alloc] at hlw
    clear ho fr hg
    by_cases hlt : k < l.length
    · obtain ⟨q, off, cap, cx, he, hx, hc, hgs⟩ := H.out.get hlt
      injection he with e1 e2 e3
      subst e1; subst e3
      have hpt := Lib.hid (partsT_take hlt)
      have hlen' := Nat.le_trans (T.length_le (partsT (l.take (k + 1)))) (Nat.le_trans (partsT_bulk _) (T.bulks_take_le l (k + 1)))
      obtain ⟨x, hxe⟩ : ∃ x, l[k] = x := ⟨_, rfl⟩
      rw [hxe] at hx hpt
      obtain ⟨k', s', ps', mn', mx', nu', a', c', hx0, rfl, hxx⟩ := hx.open'
      obtain ⟨d0, d1, d2, d3, d4, d5, d6, d7, d8⟩ := (hc.fr (((Fr.refl nob w).alloc _).trans' FR.out) (fun x => x)).nine
      rw [hpt.out, List.length_append] at hlen'
      have HX0 := Lib.hid hx; have HXS := Lib.hid hxx; clear hx hxx e2 hc hxe
      by_cases k0 : k' = 0
      · have hpe : x.partT = [] := by rw [hx0]; simp [T.partT, T.kind, k0]
        have HPT := Lib.hid (show partsT (l.take (k + 1)) = partsT (l.take k) by rw [hpt.out, hpe, List.append_nil])
        subst k0
        clear hpe hlen'
        go_wp2
        go_roundw
        case rel => exact ⟨k + 1, g, by go_num, by omega, by rw [HPT.out]; exact HO.out, FR.out, HG.out⟩
        case measure => simp [intOf]; omega
      have k0' : (k' == 0) = false := by simpa using k0
      by_cases k2 : k' = 2
      · have hpe : x.partT = ps' := by rw [hx0]; simp [T.partT, T.kind, T.parts, k2]
        rw [hpe] at hpt hlen'
        have hlen : (partsT (l.take k)).length + ps'.length ≤ 3000000 := by omega
        subst k2
        clear hpe hlen' k0 k0'
        go_wp2_with (at_builtin; refine wpList_append_t (S := SRb w) rfl (.tmp 26) (.tmp 31) rfl (partsT (l.take k)) ps' _ _ g (by rfl) (HO.out.on (Fr.refl _ _)) (by rfl) (late_ST HXS.out (((Fr.refl nob w).alloc _).trans' FR.out) HG.out) (fun k hk => by unfold SRb at hk; omega) hlen ?_; intro v' w3 g' ho3 hf3 hg3; obtain ⟨av', cv', he3⟩ := ho3.shape; simp only [List.length_append, List.length_singleton] at he3; subst he3; have HO3 := Lib.hid ho3; have HF3 := Lib.hid hf3; have HG3 := Lib.hid hg3; clear ho3 hf3 hg3)
        go_roundw
        case rel => exact ⟨k + 1, g', by go_num, by omega, by rw [hpt.out]; exact HO3.out, FR.out.trans HF3.out (fun i hi x => by have := HG.out i x; simp at hi; omega), fun j hj => by
            rcases HG3.out j hj with h | h
            · exact HG.out j h
            · first | omega | (simp only [World.size_alloc] at h; omega)⟩
        case measure => simp [intOf]; omega
      have k2' : (k' == 2) = false := by simpa using k2
      have hpe : x.partT = [x] := by rw [hx0]; simp [T.partT, T.kind, k0, k2]
      rw [hpe] at hpt hlen'
      have hlen : (partsT (l.take k)).length + [x].length ≤ 3000000 := by omega
      clear hpe hlen' hx0 k0 k2
      go_wp2_with (at_builtin; refine wpList_append_t (S := SRb w) rfl (.tmp 15) (.tmp 20) rfl (partsT (l.take k)) [x] _ _ g (by rfl) (HO.out.on ((Fr.refl _ _).alloc _)) (by rfl) (ST.one (late_RT HX0.out (((Fr.refl nob w).alloc _).trans' FR.out) HG.out) (fun k hk => by rcases hk with hk | hk; (unfold SRb at hk; omega); exact HO.out.lt k hk) _ rfl) (fun k hk => by unfold SRb at hk; simp; omega) hlen ?_; intro v' w3 g' ho3 hf3 hg3; obtain ⟨av', cv', he3⟩ := ho3.shape; simp only [List.length_append, List.length_singleton] at he3; subst he3; have HO3 := Lib.hid ho3; have HF3 := Lib.hid hf3; have HG3 := Lib.hid hg3; clear ho3 hf3 hg3)
      go_roundw
      case rel => exact ⟨k + 1, g', by go_num, by omega, by rw [hpt.out]; exact HO3.out, (FR.out.alloc _).trans HF3.out (fun i hi x => by have := HG.out i x; simp at hi; omega), fun j hj => by
          rcases HG3.out j hj with h | h
          · exact HG.out j h
          · first | omega | (simp only [World.size_alloc] at h; omega)⟩
      case measure => simp [intOf]; omega

    · obtain rfl : k = l.length := by omega
      have hT := List.take_of_length_le (l := l) (Nat.le_refl _)
      have hO := HO.out
      rw [hT] at hO ⊢
      have HST := Lib.hid hO.st
      have hr := FR.out.heap (heap_alloc_new _ _) (fun x => x)
      obtain ⟨z0, z1, z2, z3, z4, z5, z6, z7, z8⟩ := C9.of hr
      obtain ⟨q0, q1, q2, q3, q4, q5, q6, q7, q8⟩ := there9 hr
      have HR := Lib.hid hr
      have FW := Lib.hid (((Fr.refl nob w).alloc _).trans' FR.out)
      obtain ⟨ps, hps⟩ : ∃ ps, partsT l = ps := ⟨_, rfl⟩
      rw [hps] at HST hpl ⊢
      have HJ := Lib.hid (show joinT l = onlyT 2 ps by unfold joinT; rw [hps])
      clear hT hO hr HO hps
      match ps with
      | [] =>
        go_wp2
        (try simp only [Exit.inBlock, Exit.then])
        refine bodyPost_ret (results_T (k := 0) (s := S4.zero) (v := .slice none 0 0) (mn := 0) (mx := 0) (nu := 0) rfl rfl (setNine_heap HR.out _ _ _ _ _ _ _ _ _)) rfl ⟨_, rfl, ?_, setNine_fr FW.out (Nat.le_refl _) _ _ _ _ _ _ _ _ _⟩
        rw [HJ.out]
        exact RT_mk.2 ⟨_, rfl, .inl ⟨⟨none, 0, rfl⟩, rfl⟩⟩
      | [x] =>
        obtain ⟨q, off, cap, cx, he, hx, hc, hgs⟩ := HST.out.get (k := 0) (by simp)
        injection he with e1 e2 e3
        subst e1; subst e3
        have hx' : RT (SRb w) wr x cx := hx
        obtain ⟨k', s', ps', mn', mx', nu', a', c', hx0, rfl, hxx⟩ := hx'.open'
        simp only [Nat.zero_mul, Nat.add_zero] at hc
        obtain ⟨d0, d1, d2, d3, d4, d5, d6, d7, d8⟩ := hc.nine
        have HX := Lib.hid hx'; clear hx hx' hxx hc e2 hx0
        simp only [List.length_cons, List.length_nil, Nat.zero_add]
        go_wp2
        (try simp only [Exit.inBlock, Exit.then])
        refine bodyPost_ret (results_T (k := k') (s := s') (v := .slice a' ps'.length c') (mn := mn') (mx := mx') (nu := nu') rfl rfl (setNine_heap HR.out _ _ _ _ _ _ _ _ _)) rfl ⟨_, rfl, ?_, setNine_fr FW.out (Nat.le_refl _) _ _ _ _ _ _ _ _ _⟩
        rw [HJ.out]
        exact RT.keep (setNine_one _ _ _ _ _ _ _ _ _) (fun k hk x => x) (fun _ _ x => x.elim) _ _ HX.out
      | x :: y :: r =>
        have hpl2 := hpl.out
        obtain ⟨n, hn⟩ : ∃ n, (x :: y :: r).length = n := ⟨_, rfl⟩
        have hn0 : ¬ (n : Int) = 0 := by rw [← hn]; simp; omega
        have hn1 : ¬ (n : Int) = 1 := by rw [← hn]; simp; omega
        have HN := Lib.hid hn
        rw [hn] at hpl2 ⊢
        clear hn
        go_wp2
        (try simp only [Exit.inBlock, Exit.then])
        refine bodyPost_ret (results_T (k := 2) (s := S4.zero) (v := .slice av n cv) (mn := 0) (mx := 0) (nu := 0) rfl rfl (setNine_heap HR.out _ _ _ _ _ _ _ _ _)) rfl ⟨_, rfl, ?_, setNine_fr FW.out (Nat.le_refl _) _ _ _ _ _ _ _ _ _⟩
        rw [HJ.out]
        refine RT_mk.2 ⟨_, rfl, ?_⟩
        have hs := HST.out
        rw [HN.out] at hs
        exact hs.keep (setNine_one _ _ _ _ _ _ _ _ _) (fun k hk x => x) (fun _ _ x => x.elim)

set_option maxRecDepth 100000 in
set_option maxHeartbeats 2000000 in
theorem chooseT_any (l : List T) (u : Value) (w : World) (hl : T.bulks l ≤ 3000000) (h : ST nob w l u) :
    Calls Tryz.prog 50 #[u] w fun e w' => ∃ cs, e = .returned (.agg cs.toArray) ∧ RT nob w' (chooseT l) cs ∧ Fr nob w w' := by
  obtain ⟨a, c, rfl⟩ := h.shape
  have H := Lib.hid h; clear h
  have hll := T.length_le l
  have hpl := Lib.hid (Nat.le_trans (T.length_le (armsT l)) (armsT_bulk l))
  go_enter Tryz.func50, Tryz.ntmps50
  go_wp2_with fail
  go_loopw [3, 7] (fun s i wr => ∃ (k : Nat) (g : Option Nat), i = .int .i64 k ∧ k ≤ l.length ∧ OwnT (SRb w) wr (armsT (l.take k)) s g ∧ Fr nob (w.alloc (.cells #[.int .i64 0, .int .u64 0, .int .u64 0, .int .u64 0, .int .u64 0, .slice none 0 0, .int .i64 0, .int .i64 0, .int .i64 0] 34)) wr ∧ ∀ j, g = some j → w.heap.size < j) (fun _ i _ => l.length - (intOf i).toNat)
  case atStart => exact ⟨0, none, rfl, Nat.zero_le _, OwnT.nil _ _, Fr.refl _ _, fun _ h => by cases h⟩
  case round =>
    obtain ⟨k, g, rfl, hk, ho, fr, hg⟩ := hrel
    obtain ⟨av, cv, rfl⟩ := ho.shape
    have HO := Lib.hid ho; have FR := Lib.hid fr; have HG := Lib.hid hg
    have hlw := fr.size
    simp only [World.size_alloc] at hlw
    clear ho fr hg
    by_cases hlt : k < l.length
    · obtain ⟨q, off, cap, cx, he, hx, hc, hgs⟩ := H.out.get hlt
      injection he with e1 e2 e3
      subst e1; subst e3
      have hpt := Lib.hid (armsT_take hlt)
      have hlen' := Nat.le_trans (T.length_le (armsT (l.take (k + 1)))) (Nat.le_trans (armsT_bulk _) (T.bulks_take_le l (k + 1)))
      obtain ⟨x, hxe⟩ : ∃ x, l[k] = x := ⟨_, rfl⟩
      rw [hxe] at hx hpt
      obtain ⟨k', s', ps', mn', mx', nu', a', c', hx0, rfl, hxx⟩ := hx.open'
      obtain ⟨d0, d1, d2, d3, d4, d5, d6, d7, d8⟩ := (hc.fr (((Fr.refl nob w).alloc _).trans' FR.out) (fun x => x)).nine
      rw [hpt.out, List.length_append] at hlen'
      have HX0 := Lib.hid hx; have HXS := Lib.hid hxx; clear hx hxx e2 hc hxe
      by_cases k3 : k' = 3
      · have hpe : x.armT = ps' := by rw [hx0]; simp [T.armT, T.kind, T.parts, k3]
        rw [hpe] at hpt hlen'
        have hlen : (armsT (l.take k)).length + ps'.length ≤ 3000000 := by omega
        subst k3
        clear hpe hlen'
        go_wp2_with (at_builtin; refine wpList_append_t (S := SRb w) rfl (.tmp 16) (.tmp 21) rfl (armsT (l.take k)) ps' _ _ g (by rfl) (HO.out.on (Fr.refl _ _)) (by rfl) (late_ST HXS.out (((Fr.refl nob w).alloc _).trans' FR.out) HG.out) (fun k hk => by unfold SRb at hk; omega) hlen ?_; intro v' w3 g' ho3 hf3 hg3; obtain ⟨av', cv', he3⟩ := ho3.shape; simp only [List.length_append, List.length_singleton] at he3; subst he3; have HO3 := Lib.hid ho3; have HF3 := Lib.hid hf3; have HG3 := Lib.hid hg3; clear ho3 hf3 hg3)
        go_roundw
        case rel => exact ⟨k + 1, g', by go_num, by omega, by rw [hpt.out]; exact HO3.out, FR.out.trans HF3.out (fun i hi x => by have := HG.out i x; simp at hi; omega), fun j hj => by
            rcases HG3.out j hj with h | h
            · exact HG.out j h
            · first | omega | (simp only [World.size_alloc] at h; omega)⟩
        case measure => simp [intOf]; omega
      have k3' : (k' == 3) = false := by simpa using k3
      have hpe : x.armT = [x] := by rw [hx0]; simp [T.armT, T.kind, k3]
      rw [hpe] at hpt hlen'
      have hlen : (armsT (l.take k)).length + [x].length ≤ 3000000 := by omega
      clear hpe hlen' hx0 k3
      go_wp2_with (at_builtin; refine wpList_append_t (S := SRb w) rfl (.tmp 23) (.tmp 28) rfl (armsT (l.take k)) [x] _ _ g (by rfl) (HO.out.on ((Fr.refl _ _).alloc _)) (by rfl) (ST.one (late_RT HX0.out (((Fr.refl nob w).alloc _).trans' FR.out) HG.out) (fun k hk => by rcases hk with hk | hk; (unfold SRb at hk; omega); exact HO.out.lt k hk) _ rfl) (fun k hk => by unfold SRb at hk; simp; omega) hlen ?_; intro v' w3 g' ho3 hf3 hg3; obtain ⟨av', cv', he3⟩ := ho3.shape; simp only [List.length_append, List.length_singleton] at he3; subst he3; have HO3 := Lib.hid ho3; have HF3 := Lib.hid hf3; have HG3 := Lib.hid hg3; clear ho3 hf3 hg3)
      go_roundw
      case rel => exact ⟨k + 1, g', by go_num, by omega, by rw [hpt.out]; exact HO3.out, (FR.out.alloc _).trans HF3.out (fun i hi x => by have := HG.out i x; simp at hi; omega), fun j hj => by
          rcases HG3.out j hj with h | h
          · exact HG.out j h
          · first | omega | (simp only [World.size_alloc] at h; omega)⟩
      case measure => simp [intOf]; omega

    · obtain rfl : k = l.length := by omega
      have hT := List.take_of_length_le (l := l) (Nat.le_refl _)
      have hO := HO.out
      rw [hT] at hO ⊢
      have HST := Lib.hid hO.st
      have hr := FR.out.heap (heap_alloc_new _ _) (fun x => x)
      obtain ⟨z0, z1, z2, z3, z4, z5, z6, z7, z8⟩ := C9.of hr
      obtain ⟨q0, q1, q2, q3, q4, q5, q6, q7, q8⟩ := there9 hr
      have HR := Lib.hid hr
      have FW := Lib.hid (((Fr.refl nob w).alloc _).trans' FR.out)
      obtain ⟨ps, hps⟩ : ∃ ps, armsT l = ps := ⟨_, rfl⟩
      rw [hps] at HST hpl ⊢
      have HJ := Lib.hid (show chooseT l = onlyT 3 ps by unfold chooseT; rw [hps])
      clear hT hO hr HO hps
      match ps with
      | [] =>
        go_wp2
        (try simp only [Exit.inBlock, Exit.then])
        refine bodyPost_ret (results_T (k := 0) (s := S4.zero) (v := .slice none 0 0) (mn := 0) (mx := 0) (nu := 0) rfl rfl (setNine_heap HR.out _ _ _ _ _ _ _ _ _)) rfl ⟨_, rfl, ?_, setNine_fr FW.out (Nat.le_refl _) _ _ _ _ _ _ _ _ _⟩
        rw [HJ.out]
        exact RT_mk.2 ⟨_, rfl, .inl ⟨⟨none, 0, rfl⟩, rfl⟩⟩
      | [x] =>
        obtain ⟨q, off, cap, cx, he, hx, hc, hgs⟩ := HST.out.get (k := 0) (by simp)
        injection he with e1 e2 e3
        subst e1; subst e3
        have hx' : RT (SRb w) wr x cx := hx
        obtain ⟨k', s', ps', mn', mx', nu', a', c', hx0, rfl, hxx⟩ := hx'.open'
        simp only [Nat.zero_mul, Nat.add_zero] at hc
        obtain ⟨d0, d1, d2, d3, d4, d5, d6, d7, d8⟩ := hc.nine
        have HX := Lib.hid hx'; clear hx hx' hxx hc e2 hx0
        simp only [List.length_cons, List.length_nil, Nat.zero_add]
        go_wp2
        (try simp only [Exit.inBlock, Exit.then])
        refine bodyPost_ret (results_T (k := k') (s := s') (v := .slice a' ps'.length c') (mn := mn') (mx := mx') (nu := nu') rfl rfl (setNine_heap HR.out _ _ _ _ _ _ _ _ _)) rfl ⟨_, rfl, ?_, setNine_fr FW.out (Nat.le_refl _) _ _ _ _ _ _ _ _ _⟩
        rw [HJ.out]
        exact RT.keep (setNine_one _ _ _ _ _ _ _ _ _) (fun k hk x => x) (fun _ _ x => x.elim) _ _ HX.out
      | x :: y :: r =>
        have hpl2 := hpl.out
        obtain ⟨n, hn⟩ : ∃ n, (x :: y :: r).length = n := ⟨_, rfl⟩
        have hn0 : ¬ (n : Int) = 0 := by rw [← hn]; simp; omega
        have hn1 : ¬ (n : Int) = 1 := by rw [← hn]; simp; omega
        have HN := Lib.hid hn
        rw [hn] at hpl2 ⊢
        clear hn
        go_wp2
        (try simp only [Exit.inBlock, Exit.then])
        refine bodyPost_ret (results_T (k := 3) (s := S4.zero) (v := .slice av n cv) (mn := 0) (mx := 0) (nu := 0) rfl rfl (setNine_heap HR.out _ _ _ _ _ _ _ _ _)) rfl ⟨_, rfl, ?_, setNine_fr FW.out (Nat.le_refl _) _ _ _ _ _ _ _ _ _⟩
        rw [HJ.out]
        refine RT_mk.2 ⟨_, rfl, ?_⟩
        have hs := HST.out
        rw [HN.out] at hs
        exact hs.keep (setNine_one _ _ _ _ _ _ _ _ _) (fun k hk x => x) (fun _ _ x => x.elim)

end Go.Proofs.YtepeomphikhbkaaGreatDoor

/-
  Plain facts on what Join and Choose make, on both sides. No walk.
-/
namespace Go.Proofs.YtepeomphikhbkaaGreatDoor
open Go.RowKit

theorem T.part_nd {t : T} (h : t.known = true) : t.nd.part = T.nds t.partT := by
  obtain ⟨k, s, ps, mn, mx, nu⟩ := t
  rcases (T.known_kd h).1 with rfl | rfl | rfl | rfl | rfl | rfl | rfl | rfl | rfl <;> simp [T.nd, Nd.part, T.partT, T.kind, T.parts, T.nds]
theorem T.arm_nd {t : T} (h : t.known = true) : t.nd.arm = T.nds t.armT := by
  obtain ⟨k, s, ps, mn, mx, nu⟩ := t
  rcases (T.known_kd h).1 with rfl | rfl | rfl | rfl | rfl | rfl | rfl | rfl | rfl <;> simp [T.nd, Nd.arm, Nd.told, T.armT, T.kind, T.parts, T.nds]
theorem T.nds_append (l m : List T) : T.nds (l ++ m) = T.nds l ++ T.nds m := by simp only [T.nds_eq, List.map_append]
theorem parts_nds {l : List T} (h : T.knowns l = true) : parts (T.nds l) = T.nds (partsT l) := by
  induction l with
  | nil => rfl
  | cons t ts ih =>
    simp only [T.knowns, Bool.and_eq_true] at h
    simp only [T.nds, parts, partsT, T.nds_append, T.part_nd h.1, ih h.2]
theorem arms_nds {l : List T} (h : T.knowns l = true) : arms (T.nds l) = T.nds (armsT l) := by
  induction l with
  | nil => rfl
  | cons t ts ih =>
    simp only [T.knowns, Bool.and_eq_true] at h
    simp only [T.nds, arms, armsT, T.nds_append, T.arm_nd h.1, ih h.2]
theorem T.zero_nd : T.zero.nd = .empty := by simp [T.zero, T.nd]
theorem only_nd2 (l : List T) : (onlyT 2 l).nd = onlyOf (T.nds l) (.cat (T.nds l)) := by
  match l with
  | [] => exact T.zero_nd
  | [x] => rfl
  | x :: y :: r => simp [onlyT, T.nd, T.nds, onlyOf]
theorem only_nd3 (l : List T) : (onlyT 3 l).nd = onlyOf (T.nds l) (.alt (T.nds l)) := by
  match l with
  | [] => exact T.zero_nd
  | [x] => rfl
  | x :: y :: r => simp [onlyT, T.nd, T.nds, onlyOf]
theorem joined_nd {l : List T} (h : T.knowns l = true) : joined (T.nds l) = (joinT l).nd := by
  unfold joined joinT; rw [parts_nds h, only_nd2]
theorem chosen_nd {l : List T} (h : T.knowns l = true) : chosen (T.nds l) = (chooseT l).nd := by
  unfold chosen chooseT; rw [arms_nds h, only_nd3]
theorem parts_nil (l : List Nd) : parts (l ++ [.nil]) = parts l := by rw [parts_append]; simp [parts, Nd.part]
theorem joined_nil (l : List Nd) : joined (l ++ [.nil]) = joined l := by unfold joined; rw [parts_nil]
theorem onlyT_known {k : Int} (hk : 0 ≤ k ∧ k ≤ 8) {l : List T} (h : T.knowns l = true) : (onlyT k l).known = true := by
  match l, h with
  | [], _ => rfl
  | [x], h => simp only [T.knowns, Bool.and_true] at h; exact h
  | x :: y :: r, h =>
    simp only [onlyT, T.known, h, Bool.and_true, Bool.not_eq_true', Bool.or_eq_false_iff, decide_eq_false_iff_not]; omega
theorem partsT_known {l : List T} (h : T.knowns l = true) : T.knowns (partsT l) = true := by
  induction l with
  | nil => rfl
  | cons t ts ih =>
    simp only [T.knowns, Bool.and_eq_true] at h
    have ha : ∀ a b : List T, T.knowns (a ++ b) = (T.knowns a && T.knowns b) := by
      intro a b
      induction a with
      | nil => simp [T.knowns]
      | cons t ts ih => simp only [List.cons_append, T.knowns, ih, Bool.and_assoc]
    have hp : T.knowns t.partT = true := by
      unfold T.partT; split
      · rfl
      split
      · obtain ⟨k, s, ps, mn, mx, nu⟩ := t; exact (T.known_kd h.1).2
      · simp [T.knowns, h.1]
    simp only [partsT, ha, hp, ih h.2, Bool.and_self]
theorem armsT_known {l : List T} (h : T.knowns l = true) : T.knowns (armsT l) = true := by
  induction l with
  | nil => rfl
  | cons t ts ih =>
    simp only [T.knowns, Bool.and_eq_true] at h
    have ha : ∀ a b : List T, T.knowns (a ++ b) = (T.knowns a && T.knowns b) := by
      intro a b
      induction a with
      | nil => simp [T.knowns]
      | cons t ts ih => simp only [List.cons_append, T.knowns, ih, Bool.and_assoc]
    have hp : T.knowns t.armT = true := by
      unfold T.armT; split
      · obtain ⟨k, s, ps, mn, mx, nu⟩ := t; exact (T.known_kd h.1).2
      · simp [T.knowns, h.1]
    simp only [armsT, ha, hp, ih h.2, Bool.and_self]
theorem onlyOf_size {l : List Nd} {n : Nd} (hn : n.size ≤ 1 + Nd.sizes l) : (onlyOf l n).size ≤ 1 + Nd.sizes l := by
  match l with
  | [] => simp [onlyOf, Nd.size]
  | [x] => simp [onlyOf, Nd.sizes]
  | x :: y :: r => exact hn
theorem joined_size (l : List Nd) : (joined l).size ≤ 1 + Nd.sizes l := by
  have := parts_sizes l
  have h := onlyOf_size (l := parts l) (n := .cat (parts l)) (by simp [Nd.size])
  unfold joined; omega
theorem chosen_size (l : List Nd) : (chosen l).size ≤ 1 + Nd.sizes l := by
  have := arms_sizes l
  have h := onlyOf_size (l := arms l) (n := .alt (arms l)) (by simp [Nd.size])
  unfold chosen; omega

/-! ### Groups, backs and depth of what is joined -/
theorem onlyOf_groups {l : List Nd} {n : Nd} (hn : n.groups = Nd.groupss l) : (onlyOf l n).groups = Nd.groupss l := by
  match l with
  | [] => simp [onlyOf, Nd.groups, Nd.groupss]
  | [x] => simp [onlyOf, Nd.groupss]
  | x :: y :: r => exact hn
theorem onlyOf_deep {l : List Nd} {n : Nd} (hn : n.deep = Nd.deeps l) : (onlyOf l n).deep = Nd.deeps l := by
  match l with
  | [] => simp [onlyOf, Nd.deep, Nd.deeps]
  | [x] => simp [onlyOf, Nd.deeps]
  | x :: y :: r => exact hn
theorem onlyOf_backs {l : List Nd} {n : Nd} (hn : n.backs = Nd.backss l) : (onlyOf l n).backs = Nd.backss l := by
  match l with
  | [] => simp [onlyOf, Nd.backs, Nd.backss]
  | [x] => simp [onlyOf, Nd.backss]
  | x :: y :: r => exact hn
theorem backss_append (l m : List Nd) : Nd.backss (l ++ m) = (Nd.backss l || Nd.backss m) := by simp only [Nd.backss_eq, List.any_append]
theorem part_groups (n : Nd) : Nd.groupss n.part = n.groups := by cases n <;> simp [Nd.part, Nd.groups, Nd.groupss]
theorem part_deep (n : Nd) : Nd.deeps n.part = n.deep := by cases n <;> simp [Nd.part, Nd.deep, Nd.deeps]
theorem part_backs (n : Nd) : Nd.backss n.part = n.backs := by cases n <;> simp [Nd.part, Nd.backs, Nd.backss]
theorem arm_groups (n : Nd) : Nd.groupss n.arm = n.groups := by cases n <;> simp [Nd.arm, Nd.told, Nd.groups, Nd.groupss]
theorem arm_deep (n : Nd) : Nd.deeps n.arm = n.deep := by cases n <;> simp [Nd.arm, Nd.told, Nd.deep, Nd.deeps]
theorem arm_backs (n : Nd) : Nd.backss n.arm = n.backs := by cases n <;> simp [Nd.arm, Nd.told, Nd.backs, Nd.backss]
theorem two_parts (x y : Nd) : parts [x, y] = x.part ++ y.part := by simp [parts]
theorem two_arms (x y : Nd) : arms [x, y] = x.arm ++ y.arm := by simp [arms]
/-- What TreeAdds asks of a node made of two. -/
def Adds (x y n : Nd) : Prop := n.groups = x.groups + y.groups ∧ n.backs = (x.backs || y.backs) ∧ n.deep = max x.deep y.deep
theorem adds_joined (x y : Nd) : Adds x y (joined [x, y]) := by
  refine ⟨?_, ?_, ?_⟩
  · unfold joined; rw [onlyOf_groups (by simp [Nd.groups]), two_parts, Nd.groupss_append, part_groups, part_groups]
  · unfold joined; rw [onlyOf_backs (by simp [Nd.backs]), two_parts, backss_append, part_backs, part_backs]
  · unfold joined; rw [onlyOf_deep (by simp [Nd.deep]), two_parts, Nd.deeps_append, part_deep, part_deep]
theorem adds_chosen (x y : Nd) : Adds x y (chosen [x, y]) := by
  refine ⟨?_, ?_, ?_⟩
  · unfold chosen; rw [onlyOf_groups (by simp [Nd.groups]), two_arms, Nd.groupss_append, arm_groups, arm_groups]
  · unfold chosen; rw [onlyOf_backs (by simp [Nd.backs]), two_arms, backss_append, arm_backs, arm_backs]
  · unfold chosen; rw [onlyOf_deep (by simp [Nd.deep]), two_arms, Nd.deeps_append, arm_deep, arm_deep]

/-! ### Once more -/
theorem right_cat {l : List Nd} (h : (Nd.cat l).right = true) : 1 < l.length ∧ ∀ n ∈ l, n.plain = true := by
  unfold Nd.right at h
  simp only [Nd.look] at h
  split at h
  · rename_i hc
    simp only [Bool.and_eq_true, decide_eq_true_eq, Bool.not_eq_true', List.any_eq_false] at hc
    exact ⟨hc.1, fun n hn => by simpa using hc.2 n hn⟩
  · cases h
theorem right_alt {l : List Nd} (h : (Nd.alt l).right = true) : 1 < l.length ∧ ∀ n ∈ l, n.isAlt = false := by
  unfold Nd.right at h
  simp only [Nd.look] at h
  split at h
  · rename_i hc
    simp only [Bool.and_eq_true, decide_eq_true_eq, Bool.not_eq_true', List.any_eq_false] at hc
    exact ⟨hc.1, fun n hn => by simpa using hc.2 n hn⟩
  · cases h
/-- Parts of a right node hold no Cat, no Empty. -/
theorem part_flat {n : Nd} (h : n.right = true) : ∀ x ∈ n.part, x.part = [x] := by
  intro x hx
  cases n with
  | cat l =>
    have := (right_cat h).2 x hx
    cases x <;> first | rfl | (simp [Nd.plain] at this)
  | nil => simp [Nd.part] at hx
  | empty => simp [Nd.part] at hx
  | _ => simp only [Nd.part, List.mem_singleton] at hx; subst hx; rfl
theorem arm_flat {n : Nd} (h : n.right = true) : ∀ x ∈ n.arm, x.isAlt = false := by
  intro x hx
  cases n with
  | alt l => exact (right_alt h).2 x hx
  | nil => simp only [Nd.arm, Nd.told, List.mem_singleton] at hx; subst hx; rfl
  | _ => simp only [Nd.arm, Nd.told, List.mem_singleton] at hx; subst hx; rfl
theorem arm_pos {n : Nd} (h : n.right = true) : 1 ≤ n.arm.length := by
  cases n with
  | alt l => have := (right_alt h).1; simp only [Nd.arm]; omega
  | _ => simp [Nd.arm]
theorem once_joined {x y : Nd} (hx : x.right = true) (hy : y.right = true) : joined [joined [x, y]] = joined [x, y] := by
  have hf : ∀ n ∈ parts [x, y], n.part = [n] := by
    intro n hn
    rw [two_parts] at hn
    rcases List.mem_append.1 hn with h | h
    · exact part_flat hx n h
    · exact part_flat hy n h
  have h1 : parts [joined [x, y]] = parts [x, y] := by
    unfold joined
    match hp : parts [x, y], hf with
    | [], _ => rfl
    | [z], hf => have := hf z (by simp); simp [parts, onlyOf, this]
    | z :: u :: r, _ => simp [parts, onlyOf, Nd.part]
  show onlyOf (parts [joined [x, y]]) (.cat (parts [joined [x, y]])) = joined [x, y]
  rw [h1]; rfl
theorem once_chosen {x y : Nd} (hx : x.right = true) (hy : y.right = true) : chosen [chosen [x, y]] = chosen [x, y] := by
  have h2 : 2 ≤ (arms [x, y]).length := by have := arm_pos hx; have := arm_pos hy; rw [two_arms, List.length_append]; omega
  have h1 : arms [chosen [x, y]] = arms [x, y] := by
    unfold chosen
    match hp : arms [x, y], h2 with
    | z :: u :: r, _ => simp [arms, onlyOf, Nd.arm]
  show onlyOf (arms [chosen [x, y]]) (.alt (arms [chosen [x, y]])) = chosen [x, y]
  rw [h1]; rfl

end Go.Proofs.YtepeomphikhbkaaGreatDoor
