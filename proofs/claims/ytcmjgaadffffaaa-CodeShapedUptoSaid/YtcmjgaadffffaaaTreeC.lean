/-
  Walks of package tree: the looker; Right.
-/
import Derived.Test.YtcmjgaadffffaaaTreeB
namespace Go.Proofs.Ytcmjgaadffffaaa
open Go.RowKit

/-- The looker in block b: how many groups were opened, which are closed. -/
def Lk (b : Nat) (o : Int) (c : List Int) (g : Option Nat) (w : World) : Prop :=
  ∃ u, w.heap[b]? = some (.cells #[.int .i64 o, u] 83 (0, 0)) ∧ w.ownsRow 0 3 1 u c.length (c.map (Value.int .i64)) ∧ u.ownBlock = g ∧ g ≠ some b

def repOk (a : Bool) (mn mx : Int) : Bool := a && (decide (0 ≤ mn) && (decide (mn ≤ 255) && (mx == -1 || (decide (mn ≤ mx) && decide (mx ≤ 255)))))

/-- Is a node, its parts not looked at within; how many groups are opened then. -/
def Nd.shaped (o : Int) (c : List Int) : Nd → Bool × Int
  | .cat l => (decide (1 < l.length) && !l.any (fun n => !n.plain), o)
  | .alt l => (decide (1 < l.length) && !l.any Nd.isAlt, o)
  | .rep x mn mx => (repOk x.atom mn mx, o)
  | .group n _ => (n == o + 1, o + 1)
  | .back n => (c.contains n, o)
  | _ => (true, o)

theorem Lk.si {b : Nat} {o : Int} {c : List Int} {g : Option Nat} {w : World} (h : Lk b o c g w) : ∃ u, w.cell? ⟨b, 1, none⟩ = some u ∧ SI w c u ∧ u.ownBlock = g := by
  obtain ⟨u, hb, hown, hg, _⟩ := h
  refine ⟨u, cell_at hb rfl, ?_, hg⟩
  obtain ⟨_, h⟩ := hown
  rcases h with ⟨rfl, h0⟩ | ⟨r, cap, cur, rfl, _, hr, hn, _, _, htake⟩
  · exact .inl ⟨rfl, List.length_eq_zero_iff.1 h0⟩
  · refine .inr ⟨r, 0, cap, rfl, fun j x hj => ?_⟩
    have : (c.map (Value.int .i64))[j]? = some (.int .i64 x) := by simp [hj]
    rw [← htake, List.getElem?_take] at this
    split at this
    · exact cell_at hr (by simpa using this)
    · cases this
theorem Lk.sis {b : Nat} {o : Int} {c : List Int} {g : Option Nat} {w : World} (h : Lk b o c g w) : ∃ u, u.ownBlock = g ∧ ∀ w', Fr nob w w' → w'.cell? ⟨b, 1, none⟩ = some u ∧ SI w' c u := by
  obtain ⟨u, hb, hown, hg, hne⟩ := h
  refine ⟨u, hg, fun w' f => ?_⟩
  have h' : Lk b o c g w' := ⟨u, f.heap hb (fun x => x), ownsRow_fr hown f (fun _ _ x => x), hg, hne⟩
  obtain ⟨u', hc, hs, _⟩ := h'.si
  have hc2 : w'.cell? ⟨b, 1, none⟩ = some u := cell_at (f.heap hb (fun x => x)) rfl
  obtain rfl : u = u' := by rw [hc2] at hc; injection hc
  exact ⟨hc2, hs⟩
theorem Lk.cell0 {b : Nat} {o : Int} {c : List Int} {g : Option Nat} {w : World} (h : Lk b o c g w) : w.cell? ⟨b, 0, none⟩ = some (.int .i64 o) := by
  obtain ⟨u, hb, _⟩ := h; exact cell_at hb rfl
theorem Lk.thawed {b : Nat} {o : Int} {c : List Int} {g : Option Nat} {w : World} (h : Lk b o c g w) (j : Nat) : w.frozen? ⟨b, j, none⟩ = false := by
  obtain ⟨u, hb, _⟩ := h; exact unfrozen_at hb j
theorem Lk.lt {b : Nat} {o : Int} {c : List Int} {g : Option Nat} {w : World} (h : Lk b o c g w) : b < w.heap.size := by
  obtain ⟨u, hb, _⟩ := h; exact lt_heap hb
theorem Lk.on {b : Nat} {o : Int} {c : List Int} {g : Option Nat} {w w' : World} (h : Lk b o c g w) (hf : Fr nob w w') : Lk b o c g w' := by
  obtain ⟨u, hb, hown, hg, hne⟩ := h
  exact ⟨u, hf.heap hb (fun x => x), ownsRow_fr hown hf (fun _ _ x => x), hg, hne⟩
theorem Lk.open {b : Nat} {o : Int} {c : List Int} {g : Option Nat} {w : World} (h : Lk b o c g w) (k : Int) : Lk b k c g (w.setCell ⟨b, 0, none⟩ (.int .i64 k)) := by
  obtain ⟨u, hb, hown, hg, hne⟩ := h
  refine ⟨u, by have := heap_setCell_at hb 0 (.int .i64 k); simpa using this, ?_, hg, hne⟩
  exact ownsRow_fr hown ((Fr.refl (fun k => k = b) w).setCell (p := ⟨b, 0, none⟩) (fun _ => rfl) _) (fun k hk e => hne (by rw [← hg, hk, e]))

theorem SN.weak {S : Nat → Prop} {w : World} {l : List Nd} {u : Value} (h : SN S w l u) : SN nob w l u := h.keep (Fr.refl nob w) (fun _ _ x => x.elim) (fun _ _ x => x.elim)
theorem RN.weak {S : Nat → Prop} {w : World} {n : Nd} {u : Value} (h : RN S w n u) : RN nob w n u := RN.keep (Fr.refl nob w) (fun _ _ x => x.elim) (fun _ _ x => x.elim) _ _ h

theorem enters_f {P : Program} {f : FuncId} {fn : Func} {c : Code} (hf : P.funcs[f]? = some fn) (hname : (fn.name == "runtime.NumGoroutine") = false) (hb : fn.body = some c) : ∀ args w, (callFunc f args).run P w = .ok (.enter f args) w := by
  intro args w
  have h1 : fn.name ≠ "runtime.NumGoroutine" := by simpa using hname
  simp [callFunc, hf, h1, hb, mark]
theorem enters_alt : ∀ args w, (callFunc 34 args).run Try.prog w = .ok (.enter 34 args) w := enters_f Try.func34 (by kernel_rfl) rfl
theorem enters_notPlain : ∀ args w, (callFunc 32 args).run Try.prog w = .ok (.enter 32 args) w := enters_f Try.func32 (by kernel_rfl) rfl

/-- What 'shaped' leaves. -/
def Shp (b : Nat) (o : Int) (c : List Int) (g : Option Nat) (n : Nd) (w : World) (e : Ending) (w' : World) : Prop :=
  e = .returned (.bool (n.shaped o c).1) ∧ Lk b (n.shaped o c).2 c g w' ∧ Fr (fun k => k = b) w w'

set_option maxRecDepth 100000 in
set_option maxHeartbeats 1000000 in
theorem shaped_cat (b : Nat) (o : Int) (c : List Int) (g : Option Nat) (l : List Nd) (v : Value) (w : World) (hL : Lk b o c g w) (hz : Nd.sizes l ≤ 3000000) (h : RN nob w (.cat l) v) :
    Calls Try.prog 27 #[.pointer (some ⟨b, 0, none⟩), v] w (Shp b o c g (.cat l) w) := by
  obtain ⟨a, cp, rfl, hs⟩ := h.kind
  have hlen := Nd.length_le l
  have HM := Lib.hid (fun n (hn : n ∈ l) => Nd.sizes_mem hn)
  have H := Lib.hid hs; have HL := Lib.hid hL; clear h hs hL
  by_cases h1 : 1 < l.length
  · obtain ⟨r, hr⟩ : ∃ r, l.any (fun n => !n.plain) = r := ⟨_, rfl⟩
    have hE : Nd.shaped o c (.cat l) = (!r, o) := by simp [Nd.shaped, h1, hr]
    have HR := Lib.hid hr; have HE := Lib.hid hE; clear hr hE
    have h1' : (1 : Int) < l.length := by omega
    go_enter Try.func27, Try.ntmps27
    go_wp2_with fail
    refine (containsFunc_any 32 _ 3000000 (pred_notPlain _) enters_notPlain l _ _ (by omega) (fun n hn => by have := HM.out n hn; omega) (H.out.on ((Fr.refl _ _).alloc _))).mono ?_
    rw [HR.out]
    rintro e w1 ⟨rfl, f1⟩
    have F1 := Lib.hid f1; clear f1
    go_wp2
    go_ret
    unfold Shp
    rw [HE.out]
    exact ⟨rfl, HL.out.on (((Fr.refl _ _).alloc _).trans' F1.out), (((Fr.refl _ _).alloc _).trans' F1.out).any⟩
  · have hE : Nd.shaped o c (.cat l) = (false, o) := by simp [Nd.shaped, h1]
    have HE := Lib.hid hE; clear hE
    have h1' : ¬ (1 : Int) < l.length := by omega
    go_enter Try.func27, Try.ntmps27
    go_wp2_with fail
    go_ret
    unfold Shp
    rw [HE.out]
    exact ⟨rfl, HL.out.on ((Fr.refl _ _).alloc _), (Fr.refl _ _).alloc _⟩

set_option maxRecDepth 100000 in
set_option maxHeartbeats 1000000 in
theorem shaped_alt (b : Nat) (o : Int) (c : List Int) (g : Option Nat) (l : List Nd) (v : Value) (w : World) (hL : Lk b o c g w) (hz : Nd.sizes l ≤ 3000000) (h : RN nob w (.alt l) v) :
    Calls Try.prog 27 #[.pointer (some ⟨b, 0, none⟩), v] w (Shp b o c g (.alt l) w) := by
  obtain ⟨a, cp, rfl, hs⟩ := h.kind
  have hlen := Nd.length_le l
  have HM := Lib.hid (fun n (hn : n ∈ l) => Nd.sizes_mem hn)
  have H := Lib.hid hs; have HL := Lib.hid hL; clear h hs hL
  by_cases h1 : 1 < l.length
  · obtain ⟨r, hr⟩ : ∃ r, l.any Nd.isAlt = r := ⟨_, rfl⟩
    have hE : Nd.shaped o c (.alt l) = (!r, o) := by simp [Nd.shaped, h1, hr]
    have HR := Lib.hid hr; have HE := Lib.hid hE; clear hr hE
    have h1' : (1 : Int) < l.length := by omega
    go_enter Try.func27, Try.ntmps27
    go_wp2_with fail
    refine (containsFunc_any 34 _ 3000000 (pred_alt _) enters_alt l _ _ (by omega) (fun n hn => by have := HM.out n hn; omega) (H.out.on ((Fr.refl _ _).alloc _))).mono ?_
    rw [HR.out]
    rintro e w1 ⟨rfl, f1⟩
    have F1 := Lib.hid f1; clear f1
    go_wp2
    go_ret
    unfold Shp
    rw [HE.out]
    exact ⟨rfl, HL.out.on (((Fr.refl _ _).alloc _).trans' F1.out), (((Fr.refl _ _).alloc _).trans' F1.out).any⟩
  · have hE : Nd.shaped o c (.alt l) = (false, o) := by simp [Nd.shaped, h1]
    have HE := Lib.hid hE; clear hE
    have h1' : ¬ (1 : Int) < l.length := by omega
    go_enter Try.func27, Try.ntmps27
    go_wp2_with fail
    go_ret
    unfold Shp
    rw [HE.out]
    exact ⟨rfl, HL.out.on ((Fr.refl _ _).alloc _), (Fr.refl _ _).alloc _⟩

set_option maxRecDepth 100000 in
set_option maxHeartbeats 1000000 in
theorem shaped_rep (b : Nat) (o : Int) (c : List Int) (g : Option Nat) (x : Nd) (mn mx : Int) (v : Value) (w : World) (hL : Lk b o c g w) (h : RN nob w (.rep x mn mx) v) :
    Calls Try.prog 27 #[.pointer (some ⟨b, 0, none⟩), v] w (Shp b o c g (.rep x mn mx) w) := by
  obtain ⟨u, rfl, hs⟩ := h.kind
  have hsh := hs.shape
  have H := Lib.hid hs; have HL := Lib.hid hL; clear h hs hL
  have hE : Nd.shaped o c (.rep x mn mx) = (repOk x.atom mn mx, o) := rfl
  obtain ⟨r, hr⟩ : ∃ r, repOk x.atom mn mx = r := ⟨_, rfl⟩
  rw [hr] at hE
  have HE := Lib.hid hE; have HR := Lib.hid hr; clear hE hr
  rcases hsh with rfl | ⟨iu, xu, rfl⟩
  all_goals
    go_enter Try.func27, Try.ntmps27
    go_wp2_with fail
    refine (atom_any nob x _ _ (H.out.on ((Fr.refl _ _).alloc _))).mono ?_
    rintro e w1 ⟨rfl, rfl⟩
    obtain ⟨q, hq⟩ : ∃ q, x.atom = q := ⟨_, rfl⟩
    rw [hq]
    have HQ := Lib.hid hq; clear hq
    have hr := HR.out
    rw [HQ.out] at hr
    unfold repOk at hr
    cases q
    · obtain rfl : r = false := by rw [← hr]; rfl
      clear hr
      go_wp2
      go_ret
      unfold Shp
      rw [HE.out]
      exact ⟨rfl, HL.out.on ((Fr.refl _ _).alloc _), (Fr.refl _ _).alloc _⟩
    · simp only [Bool.true_and] at hr
      have HR2 := Lib.hid hr; clear hr
      by_cases h0 : 0 ≤ mn
      · by_cases h1 : mn ≤ 255
        · by_cases h2 : mx = -1
          · obtain rfl : r = true := by rw [← HR2.out]; simp [h0, h1, h2]
            subst h2
            go_wp2
            go_ret
            unfold Shp
            rw [HE.out]
            exact ⟨rfl, HL.out.on ((Fr.refl _ _).alloc _), (Fr.refl _ _).alloc _⟩
          · have h2' : (mx == -1) = false := by simpa using h2
            by_cases h3 : mn ≤ mx
            · by_cases h4 : mx ≤ 255
              · obtain rfl : r = true := by rw [← HR2.out]; simp [h0, h1, h3, h4]
                go_wp2
                go_ret
                unfold Shp
                rw [HE.out]
                exact ⟨rfl, HL.out.on ((Fr.refl _ _).alloc _), (Fr.refl _ _).alloc _⟩
              · obtain rfl : r = false := by rw [← HR2.out]; simp [h0, h1, h2, h3, h4]
                go_wp2
                go_ret
                unfold Shp
                rw [HE.out]
                exact ⟨ret_bool (decide_eq_false (by omega)), HL.out.on ((Fr.refl _ _).alloc _), (Fr.refl _ _).alloc _⟩
            · obtain rfl : r = false := by rw [← HR2.out]; simp [h0, h1, h2, h3]
              go_wp2
              go_ret
              unfold Shp
              rw [HE.out]
              exact ⟨rfl, HL.out.on ((Fr.refl _ _).alloc _), (Fr.refl _ _).alloc _⟩
        · obtain rfl : r = false := by rw [← HR2.out]; simp [h0, h1]
          go_wp2
          go_ret
          unfold Shp
          rw [HE.out]
          exact ⟨rfl, HL.out.on ((Fr.refl _ _).alloc _), (Fr.refl _ _).alloc _⟩
      · obtain rfl : r = false := by rw [← HR2.out]; simp [h0]
        go_wp2
        go_ret
        unfold Shp
        rw [HE.out]
        exact ⟨rfl, HL.out.on ((Fr.refl _ _).alloc _), (Fr.refl _ _).alloc _⟩

set_option maxRecDepth 100000 in
set_option maxHeartbeats 1000000 in
theorem shaped_group (b : Nat) (o : Int) (c : List Int) (g : Option Nat) (n : Int) (x : Nd) (v : Value) (w : World) (hL : Lk b o c g w) (h0 : 0 ≤ o) (h1 : o ≤ 3000000) (h : RN nob w (.group n x) v) :
    Calls Try.prog 27 #[.pointer (some ⟨b, 0, none⟩), v] w (Shp b o c g (.group n x) w) := by
  obtain ⟨u, rfl, hs⟩ := h.kind
  have hsh := hs.shape
  have H := Lib.hid hs; have HL := Lib.hid hL; clear h hs hL
  have hE : Nd.shaped o c (.group n x) = (n == o + 1, o + 1) := rfl
  have HE := Lib.hid hE; clear hE
  have hb := Lib.hid HL.out.lt
  have c0 := Lib.hid fun X => (HL.out.on ((Fr.refl nob w).alloc X)).cell0
  have th := Lib.hid fun X => (HL.out.on ((Fr.refl nob w).alloc X)).thawed 0
  rcases hsh with rfl | ⟨iu, xu, rfl⟩
  all_goals
    have c0' := c0.out; have th' := th.out
    have hb' := hb.out
    go_enter Try.func27, Try.ntmps27
    go_wp2_with fail
    have L1 := Lib.hid fun X => (HL.out.open (o + 1)).on ((Fr.refl nob _).alloc X)
    have c1 := fun X => (L1.out X).cell0
    have th1 := fun X => (L1.out X).thawed 0
    go_quiet (fail)
    go_wp2
    go_ret
    unfold Shp
    rw [HE.out]
    exact ⟨rfl, L1.out _, (((Fr.refl (fun k => k = b) w).setCell (p := ⟨b, 0, none⟩) (fun _ => rfl) _).alloc _).drewN _⟩

set_option maxRecDepth 100000 in
set_option maxHeartbeats 1000000 in
theorem shaped_back (b : Nat) (o : Int) (c : List Int) (g : Option Nat) (n : Int) (v : Value) (w : World) (hL : Lk b o c g w) (hc : c.length ≤ 3000000) (h : RN nob w (.back n) v) :
    Calls Try.prog 27 #[.pointer (some ⟨b, 0, none⟩), v] w (Shp b o c g (.back n) w) := by
  obtain rfl := h.kind
  have HL := Lib.hid hL; clear h hL
  have hE : Nd.shaped o c (.back n) = (c.contains n, o) := rfl
  obtain ⟨r, hr⟩ : ∃ r, c.contains n = r := ⟨_, rfl⟩
  rw [hr] at hE
  have HE := Lib.hid hE; have HR := Lib.hid hr; clear hE hr
  obtain ⟨u, _, hu⟩ := HL.out.sis
  have c1 := fun X => (hu _ ((Fr.refl nob w).alloc X)).1
  have s1 := Lib.hid fun X k => (hu _ (((Fr.refl nob w).alloc X).drewN k)).2
  have hb' := HL.out.lt
  clear hu
  go_enter Try.func27, Try.ntmps27
  go_wp2_with fail
  go_quiet ((go_at_call 36; exact Calls.quiet_of_same ((contains_any c n u _ hc (s1.out _ _)).mono fun _ _ h => ⟨h.1, h.2.symm⟩)))
  go_wp2
  go_ret
  unfold Shp
  rw [HE.out]
  exact ⟨ret_bool HR.out, HL.out.on (((Fr.refl _ _).alloc _).drewN _), ((Fr.refl _ _).alloc _).drewN _⟩

end Go.Proofs.Ytcmjgaadffffaaa
