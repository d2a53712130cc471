/-
  Merged texts of this claim: DoorS, DoorT, DoorU, RdP, ShowV.
-/
import Derived.Test.YtlchaocpejfikaaGreatDoorRows
import Derived.ProofKit
import Derived.LaidMore
import Derived.OpenShut
import Derived.Stop.Joined
import Derived.Lib.LaidTab
import Derived.Stop.LaidErr
import Derived.Shelf.Vars
import Derived.JoinedCond
import Derived.Test.YtlchaocpejfikaaGreatDoorM06
import Derived.Test.YtlchaocpejfikaaGreatDoorM10
import Derived.Test.YtlchaocpejfikaaGreatDoorM12
import Derived.Test.YtlchaocpejfikaaGreatDoorM13
import Derived.Test.YtlchaocpejfikaaGreatDoorM17

/-
  The three tables of chapter 6's rows out of a row's condition; a world in which they lie. (A seat of three tables: instead of Door.)
-/
namespace Go.Proofs.YtlchaocpejfikaaGreatDoor
open Go.ChangeShapes Go.WideShapes Go.ChangeAt Go.RowKit

namespace door
theorem own : ownKnob Tryz.prog.godebug = none := by kernel_rfl
theorem laidOut : laidOutB Tryz.prog = true := by kernel_rfl
theorem gTab : Tryz.prog.globalNamed "math/bits.deBruijn64tab" = some 0 := by kernel_rfl
theorem tTab : (Tryz.prog.globals[0]?).map (·.type) = some 155 := by kernel_rfl
abbrev list1 : List (String × DataW Unit) := [("math/bits.deBruijn32tab", Rows.laid_math_bits_deBruijn32tab), ("math/bits.deBruijn64tab", Rows.laid_math_bits_deBruijn64tab), ("internal/strconv.uint64pow10", Rows.laid_internal_strconv_uint64pow10)]
theorem d64_eq : (Rows.laid_math_bits_deBruijn64tab : DataW Unit) = Lib.tabData .u8 (Lib.deBruijn64tab.map Int.ofNat) := by kernel_rfl
theorem p10_eq : (Rows.laid_internal_strconv_uint64pow10 : DataW Unit) = Lib.tabData .u64 Lib.pow10Tab := by kernel_rfl
theorem tab_len : (Lib.deBruijn64tab.map Int.ofNat).length = 64 := by decide
theorem met (os : Os) (args : Array Value) : laidMetH Tryz.prog list1 ((World.doorLaid Tryz.prog 14 os).forCall (fun _ _ => 0) ⟨#[], args, []⟩).memory :=
  laidMetH_of_parts3 (fuel := 8) (laidMet_of_run' 8 (by kernel_rfl) (by kernel_rfl)) (by kernel_rfl) (by kernel_rfl)
theorem parts {W : World} (h : laidMetH Tryz.prog list1 W) : Lib.TabIs Tryz.prog W "math/bits.deBruijn64tab" .u8 (Lib.deBruijn64tab.map Int.ofNat) ∧ Lib.TabIs Tryz.prog W "internal/strconv.uint64pow10" .u64 Lib.pow10Tab := by
  rw [MakeChecks.laidMetH_plain _ _ _ (by kernel_rfl)] at h
  unfold list1 at h
  rw [d64_eq, p10_eq] at h
  have h1 := laidMet.tail h
  have h2 := laidMet.tail h1
  exact ⟨Lib.tabIs_of_head (P := Tryz.prog) (W := W) (t := 155) (e := 5) (n := 64) gTab tTab Tryz.underlying155 Tryz.underlying5 (by kernel_rfl) (by kernel_rfl) h1,
    Lib.tabIs_of_head (P := Tryz.prog) (W := W) (g := 1) (t := 197) (e := 22) (n := 20) (by kernel_rfl) (by kernel_rfl) Tryz.underlying197 Tryz.underlying22 (by kernel_rfl) (by kernel_rfl) h2⟩
theorem tab {W : World} (h : laidMetH Tryz.prog list1 W) : Tab W := by
  have ht := (parts h).1
  intro j hj
  have hc := ht.cell gTab j (by rw [tab_len]; exact hj)
  rw [hc]
  congr 2
  have hl : j < Lib.deBruijn64tab.length := by have := tab_len; simp at this; omega
  simp [hl]
theorem p10 {W : World} (h : laidMetH Tryz.prog list1 W) : P10 W := by
  have ht := (parts h).2
  unfold Lib.TabIs World.var? at ht
  rw [show Tryz.prog.globalNamed "internal/strconv.uint64pow10" = some 1 by kernel_rfl] at ht
  simp only [Option.bind_some] at ht
  split at ht
  · next cs T fr e => injection ht with ht; subst ht; exact ⟨T, fr, e⟩
  · cases ht
end door
end Go.Proofs.YtlchaocpejfikaaGreatDoor

/-
  A law's row that lists laid variables, with the world's shape for the walk; what the library's variables hold then.
-/
namespace Go.Proofs.YtlchaocpejfikaaGreatDoor
open Go.ChangeShapes Go.WideShapes Go.ChangeAt Go.RowKit
variable {H : Type} {enc : TypeId × Value → H}

theorem returns_door {a : Assume} {C : Checked} {os : Os} {f : FuncId} {fn : Func} {s : ChangeSpec} {conds : List PathCond} {apart fresh handsOn again : Bool} {X : World → Array Value → Prop}
    (hX : ∀ (w w' : World) (args : Array Value), w.heap = w'.heap → X w args → X w' args)
    (own : ownKnob C.prog.godebug = none) (started : os.Started) (noInit : C.prog.inits.idxOf? f = none) (hfn : C.prog.funcs[f]? = some fn)
    (witness : ∃ (w : World) (tape : Tape) (i : Input), w.os = os ∧ (w.forCall tape i).Shaped C.prog ∧ i.vars = [] ∧ Input.okWide C.prog (w.forCall tape i) .any w.heap.size f i ∧
      ((s.pre enc C.prog fn conds apart (w.forCall tape i).memory i.args ∧ X (w.forCall tape i).memory i.args) ∧ sizedMet enc C.prog fn (OpenSpec.ofChange s) apart (w.forCall tape i).memory i.args) ∧ a.holds C.prog (lone (Frame.enter C.prog f i.args .normal) [] (w.forCall tape i)))
    (contract : ∀ (W : World) (base : Nat) (args : Array Value) (ds gs : List (DataW H)) (before : List MemPlace),
      (∀ (j : Nat) t v, fn.params[j]? = some t → args[j]? = some v → Value.okWide C.prog W .any base t v) →
      DataW.Whole enc C.prog fn.params.toList s.vars apart W args.toList ds gs before →
      (DataW.weightsEach C.prog (fn.params.toList ++ s.plain.varTypes C.prog) (ds ++ gs)).all (· ≤ reachBytes) = true → X W args → W.ShapedOpen C.prog →
      Calls C.prog f args W fun e W' => ∃ v, e = .returned v ∧ s.post enc C.prog fn apart fresh handsOn again W args v W') :
    ReturnsInHanded a C os f .any (fun w args => (s.pre enc C.prog fn conds apart w args ∧ X w args) ∧ sizedMet enc C.prog fn (OpenSpec.ofChange s) apart w args) (s.post enc C.prog fn apart fresh handsOn again) := by
  refine returnsInHanded_of_calls own started noInit witness ?_
  intro w tape i _ hsh _ hok hpre _
  obtain ⟨_, _, _, fn', hfn', _, _, _, _, hval⟩ := hok
  obtain rfl : fn' = fn := Option.some.inj (hfn'.symm.trans hfn)
  obtain ⟨⟨⟨ds, gs, before, hw, _⟩, hx⟩, hz⟩ := hpre
  refine (contract (w.forCall tape i) w.heap.size i.args ds gs before hval (DataW.Whole.of_heap (w' := w.forCall tape i) (by rfl) hw) (hz.weights hw) (hX _ _ _ (by rfl) hx) hsh).mono fun e W' ⟨v, he, hp⟩ => ?_
  subst he
  exact ChangeSpec.post_blind hp

theorem door.env0 {W : World} (h : laidMetH Tryz.prog door.list1 W) (hs : W.ShapedOpen Tryz.prog) : Env W :=
  ⟨door.tab h, cell_of_shapedOpen_int (zero := #[.int .i64 0]) (t := 3) (k := .i64) hs (of_decide_eq_true (by kernel_rfl)) (by kernel_rfl) rfl (by kernel_rfl) (by kernel_rfl) Tryz.underlying3⟩

/-- What a law of chapter 6 is given. -/
def Env6 (w : World) : Prop := Env w ∧ P10 w
theorem door.env {W : World} (h : laidMetH Tryz.prog door.list1 W) (hs : W.ShapedOpen Tryz.prog) : Env6 W := ⟨door.env0 h hs, door.p10 h⟩
end Go.Proofs.YtlchaocpejfikaaGreatDoor

/-
  The second form's rows that list laid variables: the wrap, with the world's shape for the walk.
-/
namespace Go.Proofs.YtlchaocpejfikaaGreatDoor
open Go.ChangeShapes Go.WideShapes Go.ChangeAt Go.RowKit
variable {H : Type} {enc : TypeId × Value → H}

theorem returns_doorU {a : Assume} {C : Checked} {os : Os} {f : FuncId} {fn : Func} {s : OpenSpec} {k : (H : Type) → List (DataW H) → Bool} (hk : s.cond = some k) {F : Stop.Interp} {conds : List PathCond} {apart fresh handsOn again : Bool} {X : World → Array Value → Prop}
    (hX : ∀ (w w' : World) (args : Array Value), w.heap = w'.heap → X w args → X w' args)
    (own : ownKnob C.prog.godebug = none) (started : os.Started) (noInit : C.prog.inits.idxOf? f = none) (hfn : C.prog.funcs[f]? = some fn)
    (witness : ∃ (w : World) (tape : Tape) (i : Input), w.os = os ∧ (w.forCall tape i).Shaped C.prog ∧ i.vars = [] ∧ Input.okWide C.prog (w.forCall tape i) .any w.heap.size f i ∧
      ((s.pre enc C.prog fn conds apart (w.forCall tape i).memory i.args ∧ X (w.forCall tape i).memory i.args) ∧ sizedMet enc C.prog fn s apart (w.forCall tape i).memory i.args) ∧ a.holds C.prog (lone (Frame.enter C.prog f i.args .normal) [] (w.forCall tape i)))
    (contract : ∀ (W : World) (base : Nat) (args : Array Value) (ds gs : List (DataW H)) (before : List MemPlace),
      (∀ (j : Nat) t v, fn.params[j]? = some t → args[j]? = some v → Value.okWide C.prog W .any base t v) →
      DataW.Whole enc C.prog fn.params.toList s.vars apart W args.toList ds gs before →
      k H (ds ++ gs) = true → X W args → W.ShapedOpen C.prog →
      Calls C.prog f args W fun e W' => ∃ v, e = .returned v ∧ (s.at F).post enc C.prog fn apart fresh handsOn again W args v W') :
    ReturnsInHanded a C os f .any (fun w args => (s.pre enc C.prog fn conds apart w args ∧ X w args) ∧ sizedMet enc C.prog fn s apart w args) ((s.at F).post enc C.prog fn apart fresh handsOn again) := by
  refine returnsInHanded_of_calls own started noInit witness ?_
  intro w tape i _ hsh _ hok hpre _
  obtain ⟨_, _, _, fn', hfn', _, _, _, _, hval⟩ := hok
  obtain rfl : fn' = fn := Option.some.inj (hfn'.symm.trans hfn)
  obtain ⟨⟨hp0, hx⟩, _⟩ := hpre
  obtain ⟨ds, gs, before, hw, _, hkk⟩ := (OpenSpec.pre_some hk conds apart _ _).1 hp0
  refine (contract (w.forCall tape i) w.heap.size i.args ds gs before hval (DataW.Whole.of_heap (w' := w.forCall tape i) (by rfl) hw) hkk (hX _ _ _ (by rfl) hx) hsh).mono fun e W' ⟨v, he, hp⟩ => ?_
  subst he
  exact ChangeSpec.post_blind hp

theorem witnessU {C : Checked} {os : Os} {f : FuncId} {fn : Func} {s : OpenSpec} {k : (H : Type) → List (DataW H) → Bool} (hk : s.cond = some k) {conds : List PathCond} {apart : Bool} {X : World → Array Value → Prop} (modest : Bool) (w0 : World) (args : Array Value) (fuel : Nat) (hos : w0.os = os)
    (hsh : (w0.forCall (fun _ _ => 0) ⟨#[], args, []⟩).Shaped C.prog)
    (hok : Input.okWideB C.prog (w0.forCall (fun _ _ => 0) ⟨#[], args, []⟩) f ⟨#[], args, []⟩ = true)
    {x : List (DataW H) × List (DataW H) × List MemPlace} (hx : DataW.whole enc C.prog (w0.forCall (fun _ _ => 0) ⟨#[], args, []⟩).memory fn.params.toList s.vars apart args.toList fuel = some x)
    (hconds : conds.all (PathCond.test C.prog ⟨fn.params.toList, x.1, s.bare.plain.varTypes C.prog, x.2.1⟩) = true) (hkk : k H (x.1 ++ x.2.1) = true)
    (hsz : s.bare.sizedB enc C.prog fn apart (w0.forCall (fun _ _ => 0) ⟨#[], args, []⟩).memory args fuel = true)
    (hX : X (w0.forCall (fun _ _ => 0) ⟨#[], args, []⟩).memory args) :
    ∃ (w : World) (tape : Tape) (i : Input), w.os = os ∧ (w.forCall tape i).Shaped C.prog ∧ i.vars = [] ∧ Input.okWide C.prog (w.forCall tape i) .any w.heap.size f i ∧
      ((s.pre enc C.prog fn conds apart (w.forCall tape i).memory i.args ∧ X (w.forCall tape i).memory i.args) ∧ sizedMet enc C.prog fn s apart (w.forCall tape i).memory i.args) ∧ ({ modest := modest } : Assume).holds C.prog (lone (Frame.enter C.prog f i.args .normal) [] (w.forCall tape i)) :=
  ⟨w0, fun _ _ => 0, ⟨#[], args, []⟩, hos, hsh, (Input.okWide_of_okWideB (base := 0) hok).1, (Input.okWide_of_okWideB hok).2,
    ⟨⟨(OpenSpec.pre_some hk conds apart _ _).2 ⟨x.1, x.2.1, x.2.2, DataW.Whole_of_whole hx, hconds, hkk⟩, hX⟩, sizedMet_of_sizedB hsz⟩, by
    simp only [Assume.holds]
    exact ⟨by simp, by simp, fun _ => Modest.zero, by simp, by simp⟩⟩
end Go.Proofs.YtlchaocpejfikaaGreatDoor

/-
  A regex of either kind in plain words, by the signs that stand in it. No walk.
-/
namespace Go.Proofs.YtlchaocpejfikaaGreatDoor
open Go.RowKit

/-- The sign that stands at a place. -/
def sgn (l : List UInt8) (k : Nat) : List UInt8 := match l[k]? with
  | none => []
  | some b => if b = 92 then (match l[k + 1]? with | none => [92] | some c => [92, c]) else [b]
def opB (ere : Bool) (b : UInt8) : List UInt8 := if ere then [b] else [92, b]
def dnum (l : List UInt8) (k : Nat) : Nat × Nat := if 255 < (num3 (l.drop k) 0 0).1 then (0, 0) else num3 (l.drop k) 0 0
def ditv (l : List UInt8) (ere : Bool) (k : Nat) : Option (Int × Int × Nat) :=
  let m := dnum l k
  if m.2 = 0 then none
  else
    let k1 := k + m.2
    let x := dnum l (k1 + 1)
    let n : Int := if ahd l k1 [44] then (if 0 < x.2 then (x.1 : Int) else -1) else m.1
    let k2 := if ahd l k1 [44] then k1 + 1 + (if 0 < x.2 then x.2 else 0) else k1
    if ahd l k2 (opB ere 125) = false ∨ (0 ≤ n ∧ n < m.1) then none else some ((m.1 : Int), n, k2 + (opB ere 125).length)

theorem sgn_out {l : List UInt8} {k : Nat} (h : l.length ≤ k) : sgn l k = [] := by unfold sgn; rw [List.getElem?_eq_none h]
theorem sgn_two {l : List UInt8} {k : Nat} (h : k + 1 < l.length) (hb : l[k] = 92) : sgn l k = [92, l[k + 1]] := by
  unfold sgn; rw [List.getElem?_eq_getElem (by omega : k < l.length)]; simp only; rw [hb, if_pos rfl, List.getElem?_eq_getElem h]
theorem sgn_last {l : List UInt8} {k : Nat} (h : k < l.length) (h2 : l.length ≤ k + 1) : sgn l k = [l[k]] := by
  unfold sgn; rw [List.getElem?_eq_getElem h]; simp only; rw [List.getElem?_eq_none h2]; split
  · next hb => rw [hb]
  · rfl
theorem sgn_one {l : List UInt8} {k : Nat} (h : k < l.length) (hb : l[k] ≠ 92) : sgn l k = [l[k]] := by
  unfold sgn; rw [List.getElem?_eq_getElem h]; simp only; rw [if_neg hb]
theorem sgn_len (l : List UInt8) (k : Nat) : (sgn l k).length ≤ 2 ∧ k + (sgn l k).length ≤ max k l.length := by
  unfold sgn
  cases hk : l[k]? with
  | none => simp; omega
  | some b =>
    have := (List.getElem?_eq_some_iff.1 hk).1
    simp only
    split
    · cases hk2 : l[k + 1]? with
      | none => simp; omega
      | some c => have := (List.getElem?_eq_some_iff.1 hk2).1; simp; omega
    · simp; omega


section
variable {α : Type} (A : Alg α) (ere : Bool) (l : List UInt8)
/-- The repetitions of an atom. -/
def repD : Nat → RxS → α → Out α
  | 0, s, t => .inr (t, s)
  | n + 1, s, t =>
    if sgn l s.at_ == [42] then repD n (s.go 1) (A.rep t 0 (-1))
    else if sgn l s.at_ == opB ere 43 then repD n ((if ere then s else s.mark [92, 43]).go (opB ere 43).length) (A.rep t 1 (-1))
    else if sgn l s.at_ == opB ere 63 then repD n ((if ere then s else s.mark [92, 63]).go (opB ere 63).length) (A.rep t 0 1)
    else if sgn l s.at_ == opB ere 123 then
      match ditv l ere (s.at_ + (opB ere 123).length) with
      | none => .inl (7, s.at_)
      | some (m, x, k) => repD n (s.to k) (A.rep t m x)
    else .inr (t, s)
/-- A backslash, and the byte behind it, that make an atom. -/
def escD (s : RxS) (b : UInt8) : Out α :=
  if 49 ≤ b.toNat ∧ b.toNat ≤ 57 then
    (if s.closed.contains (b.toNat - 48) then .inr (A.back ((b.toNat - 48 : Nat) : Int), (if ere then s.mark [92, b] else s).go 2) else .inl (9, s.at_))
  else
    match escB b with
    | none => .inl (2, s.at_)
    | some (c, m) => .inr (A.one c, (if m then s.mark [92, b] else s).go 2)
/-- A group: 'C' reads what stands in it; none: too deep. -/
def groupD (C : Option (RxS → Out α)) (s : RxS) : Out α :=
  match C with
  | none => .inl (4, s.at_)
  | some f =>
    match f { s.go (opB ere 40).length with opened := s.opened + 1 } with
    | .inl e => .inl e
    | .inr (t, s') =>
      if sgn l s'.at_ == opB ere 41 then .inr (A.group ((s.opened + 1 : Nat) : Int) t, { s'.go (opB ere 40).length with closed := s'.closed ++ [s.opened + 1] })
      else .inl (8, s.at_)
/-- An atom. -/
def atomD (C : Option (RxS → Out α)) (s : RxS) : Out α :=
  if sgn l s.at_ == opB ere 40 then groupD A ere l C s
  else if sgn l s.at_ == opB ere 41 then .inl (8, s.at_)
  else if sgn l s.at_ == [91] then
    match prs l (s.at_ + 1) with
    | .inl (e, p) => .inl (e, p)
    | .inr (c, k) => .inr (A.one c, s.to k)
  else if sgn l s.at_ == [46] then .inr (A.one (spn 0 255), s.go 1)
  else if sgn l s.at_ == [92] then .inl (11, s.at_)
  else
    match sgn l s.at_ with
    | [] => .inl (2, s.at_)
    | [b] => .inr (A.one (spn b.toNat b.toNat), s.go 1)
    | _ :: b :: _ => escD A ere s b
/-- Does a branch end at a place? -/
def endsD (inner : Bool) (k : Nat) : Bool := sgn l k == [] || (sgn l k == opB ere 124 || (sgn l k == opB ere 41 && (inner || !ere)))
/-- A branch's parts, from a place on; 'first': it begins there. -/
def brD (C : Option (RxS → Out α)) (inner : Bool) : Nat → Bool → Bool → RxS → List α → Out α
  | 0, _, _, s, ps => .inr (A.join ps, s)
  | n + 1, first, front, s, ps =>
    if sgn l s.at_ == [] || (sgn l s.at_ == opB ere 124 || (sgn l s.at_ == opB ere 41 && inner)) then .inr (A.join ps, s)
    else if sgn l s.at_ == [94] && (ere || first) then brD C inner n false true (s.go 1) (ps ++ [A.start])
    else if sgn l s.at_ == [36] && (ere || endsD ere l inner (s.at_ + 1)) then brD C inner n false true (s.go 1) (ps ++ [A.fin])
    else if front && (sgn l s.at_ == opB ere 123 || (sgn l s.at_ == opB ere 43 || (sgn l s.at_ == opB ere 63 || (ere && sgn l s.at_ == [42])))) then .inl (10, s.at_)
    else
      match atomD A ere l C s with
      | .inl e => .inl e
      | .inr (t, s1) =>
        match repD A ere l (l.length + 1) s1 t with
        | .inl e => .inl e
        | .inr (t, s2) => brD C inner n false false s2 (ps ++ [t])
def branchD (C : Option (RxS → Out α)) (inner : Bool) (s : RxS) : Out α := brD A ere l C inner (if sgn l s.at_ == [94] then l.length + 2 else l.length + 1) true true s []
/-- Branches, from the second on. -/
def chLoopD (C : Option (RxS → Out α)) (inner : Bool) : Nat → RxS → List α → Out α
  | 0, s, ts => .inr (A.choose ts, s)
  | n + 1, s, ts =>
    if sgn l s.at_ == opB ere 124 then
      match branchD A ere l C inner ((if ere then s else s.mark [92, 124]).go (opB ere 124).length) with
      | .inl e => .inl e
      | .inr (t, s') => chLoopD C inner n s' (ts ++ [t])
    else .inr (A.choose ts, s)
def choiceD (C : Option (RxS → Out α)) (inner : Bool) (s : RxS) : Out α :=
  match branchD A ere l C inner s with
  | .inl e => .inl e
  | .inr (t, s') => chLoopD A ere l C inner (l.length + 1) s' [t]
def chD : Nat → RxS → Out α
  | 0 => choiceD A ere l none true
  | n + 1 => choiceD A ere l (some (chD n)) (decide (n + 1 < 12))
def parseD : Out α := if 250 < l.length then .inl (3, 250) else chD A ere l 12 ⟨0, 0, [], []⟩
end

/-! ### A basic one: the same as by what stands ahead -/
theorem sgn_hd {l : List UInt8} {k : Nat} {c : UInt8} (hc : c ≠ 92) : (sgn l k == [c]) = ahd l k [c] := by
  unfold sgn ahd
  cases h : l[k]? with
  | none => rw [List.drop_eq_nil_of_le (by simpa using h)]; rfl
  | some b =>
    obtain ⟨hk, hb⟩ := List.getElem?_eq_some_iff.1 h
    rw [List.drop_eq_getElem_cons hk, hb]
    by_cases h92 : b = 92
    · subst h92
      have e : ([c].isPrefixOf (92 :: l.drop (k + 1))) = false := by simp [List.isPrefixOf, hc]
      rw [e]
      simp only [if_true]
      cases l[k + 1]? with
      | none => simp [Ne.symm hc]
      | some d => simp
    · simp only [if_neg h92]
      simp [List.isPrefixOf, BEq.comm (a := c)]
theorem sgn_bs {l : List UInt8} {k : Nat} {c : UInt8} : (sgn l k == [92, c]) = ahd l k [92, c] := by
  unfold sgn ahd
  cases h : l[k]? with
  | none => rw [List.drop_eq_nil_of_le (by simpa using h)]; rfl
  | some b =>
    obtain ⟨hk, hb⟩ := List.getElem?_eq_some_iff.1 h
    rw [List.drop_eq_getElem_cons hk, hb]
    by_cases h92 : b = 92
    · subst h92
      simp only [if_true]
      cases h2 : l[k + 1]? with
      | none => rw [List.drop_eq_nil_of_le (by simpa using h2)]; simp [List.isPrefixOf]
      | some d =>
        obtain ⟨hk2, hd⟩ := List.getElem?_eq_some_iff.1 h2
        rw [List.drop_eq_getElem_cons hk2, hd]
        simp [List.isPrefixOf, BEq.comm (a := c)]
    · simp only [if_neg h92]
      simp [List.isPrefixOf, Ne.symm h92]
theorem sgn_nil {l : List UInt8} {k : Nat} : (sgn l k == []) = decide (l.length ≤ k) := by
  by_cases h : l.length ≤ k
  · rw [sgn_out h]; simp [h]
  · have hk : k < l.length := by omega
    unfold sgn
    rw [List.getElem?_eq_getElem hk]
    simp only [h, decide_false]
    split
    · cases l[k + 1]? <;> rfl
    · rfl
section
variable {α : Type} {A : Alg α} {l : List UInt8}
theorem opB_bre (b : UInt8) : opB false b = [92, b] := rfl
theorem opB_ere (b : UInt8) : opB true b = [b] := rfl
theorem num3_pos {r : List UInt8} {x d : Nat} (h : num3 r 0 0 = (x, d)) (hx : 0 < x) : ∃ b t, r = b :: t ∧ 48 ≤ b.toNat ∧ b.toNat ≤ 57 := by
  cases r with
  | nil => rw [num3] at h; injection h with h1 h2; omega
  | cons b t =>
    rw [num3] at h
    split at h
    · next hb => exact ⟨b, t, rfl, hb.1, hb.2.1⟩
    · injection h with h1 h2; omega
theorem num3_ge : ∀ (r : List UInt8) (c n : Nat), c ≤ (num3 r c n).2
  | [], c, n => Nat.le_refl _
  | b :: r, c, n => by
    rw [num3]
    split
    · exact Nat.le_trans (Nat.le_succ c) (num3_ge r (c + 1) _)
    · exact Nat.le_refl _
theorem itv_bre (k : Nat) : ditv l false k = itvB l k := by
  unfold ditv itvB dnum
  simp only [opB_bre]
  obtain ⟨m, c, hm⟩ : ∃ m c, num3 (l.drop k) 0 0 = (m, c) := ⟨_, _, rfl⟩
  rw [hm]
  by_cases h255 : 255 < m
  · simp only [if_pos h255, if_true]
    by_cases hc : c = 0
    · simp [hc]
    · simp [hc, h255]
  · simp only [if_neg h255]
    by_cases hc : c = 0
    · simp [hc]
    · simp only [hc, if_false]
      cases ha : ahd l (k + c) [44] with
      | false =>
        simp only [Bool.false_eq_true, if_false]
        have e1 : ¬ ((0 : Int) ≤ (m : Int) ∧ (m : Int) < (m : Int)) := by omega
        have e2 : ¬ (255 : Int) < (m : Int) := by omega
        simp [e1, e2, h255]
      | true =>
        simp only [if_true]
        obtain ⟨x, d, hx⟩ : ∃ x d, num3 (l.drop (k + c + 1)) 0 0 = (x, d) := ⟨_, _, rfl⟩
        rw [hx]
        have e0 : ¬ (255 : Int) < (m : Int) := by omega
        by_cases h2 : 255 < x
        · obtain ⟨b, t, ht, hb1, hb2⟩ := num3_pos hx (by omega)
          have hn : ahd l (k + c + 1) [92, 125] = false := by
            unfold ahd; rw [ht]; simp only [List.isPrefixOf, Bool.and_eq_false_iff]
            exact .inl (by simp only [beq_eq_false_iff_ne, ne_eq]; rintro rfl; simp at hb2)
          have hd : d ≠ 0 := by
            intro h0; subst h0
            rw [ht, num3, if_pos ⟨hb1, hb2, by decide⟩] at hx
            have := num3_ge t 1 (0 * 10 + (b.toNat - 48))
            rw [hx] at this; simp at this
          have e1 : (255 : Int) < (x : Int) := by omega
          simp [h2, hn, hd, e1]
        · simp only [if_neg h2]
          by_cases hd : d = 0
          · subst hd; simp [h255]
          · have hd' : 0 < d := by omega
            have e1 : ¬ (255 : Int) < (x : Int) := by omega
            simp [hd, hd', h255, h2, e0, e1]
theorem ahd_two {k : Nat} {c d : UInt8} (h : ahd l k [92, c] = true) (hd : d ≠ 92) : ahd l k [d] = false := by
  rw [← sgn_hd hd]
  rw [← sgn_bs] at h
  rw [eq_of_beq h]; simp
theorem ahd_not {k : Nat} {c d : UInt8} (h : ahd l k [92, c] = true) (hd : d ≠ c) : ahd l k [92, d] = false := by
  rw [← sgn_bs] at h ⊢
  rw [eq_of_beq h]; simpa using fun e => hd e.symm
theorem rep_bre : ∀ (n : Nat) (s : RxS) (t : α), repD A false l n s t = repS A l n s t
  | 0, s, t => rfl
  | n + 1, s, t => by
    rw [repD, repS]
    simp only [opB_bre, sgn_bs, sgn_hd (show (42 : UInt8) ≠ 92 by decide), Bool.false_eq_true, if_false, itv_bre, rep_bre n, List.length_cons, List.length_nil]
    cases h1 : ahd l s.at_ [92, 43] with
    | true => simp [ahd_two h1 (show (42 : UInt8) ≠ 92 by decide)]
    | false =>
      cases h2 : ahd l s.at_ [92, 63] with
      | true => simp [ahd_two h2 (show (42 : UInt8) ≠ 92 by decide)]
      | false =>
        cases h3 : ahd l s.at_ [92, 123] with
        | true => simp only [ahd_two h3 (show (42 : UInt8) ≠ 92 by decide), Bool.false_eq_true, if_false, if_true]; rfl
        | false => simp
variable {C : Option (RxS → Out α)}
theorem group_bre (s : RxS) : groupD A false l C s = groupS A l C s.at_ (s.go 2) := by
  unfold groupD groupS
  cases C with
  | none => rfl
  | some f =>
    simp only [opB_bre, sgn_bs, List.length_cons, List.length_nil]
    rfl
theorem atom_bre {s : RxS} {b : UInt8} (h : l[s.at_]? = some b) : atomD A false l C s = atomS A l C s b := by
  obtain ⟨hk, hb⟩ := List.getElem?_eq_some_iff.1 h
  unfold atomD atomS
  by_cases h92 : b = 92
  · subst h92
    simp only [if_true]
    unfold escS
    cases h2 : l[s.at_ + 1]? with
    | none =>
      have hs : sgn l s.at_ = [92] := by unfold sgn; rw [h]; simp only [if_true, h2]
      simp [hs, opB]
    | some d =>
      have hs : sgn l s.at_ = [92, d] := by unfold sgn; rw [h]; simp only [if_true, h2]
      rw [← sgn_bs, ← sgn_bs, hs, group_bre]
      simp only [opB_bre]
      unfold escD
      simp
      rfl
  · have hs : sgn l s.at_ = [b] := by unfold sgn; rw [h]; simp only [if_neg h92]
    rw [hs]
    simp [opB, h92]
    rfl
theorem last_bre {inner : Bool} {k : Nat} : endsD false l inner (k + 1) = lastS l k := by
  unfold endsD lastS
  rw [sgn_nil, opB_bre, opB_bre, sgn_bs, sgn_bs]
  simp only [Bool.not_false, Bool.or_true, Bool.and_true]
  have e : decide (l.length ≤ k + 1) = (l.drop (k + 1)).isEmpty := by
    by_cases h : l.length ≤ k + 1
    · rw [List.drop_eq_nil_of_le h]; simp [h]
    · rw [List.drop_eq_getElem_cons (by omega)]; simp [h]
  rw [e]
  cases (l.drop (k + 1)).isEmpty <;> cases ahd l (k + 1) [92, 124] <;> cases ahd l (k + 1) [92, 41] <;> rfl
/-- Where an end of line stands as an anchor, a branch ends. -/
theorem last_ends {k : Nat} (h : lastS l k = true) : l.length ≤ k + 1 ∨ ahd l (k + 1) [92, 124] = true ∨ ahd l (k + 1) [92, 41] = true := by
  unfold lastS at h
  cases h1 : ahd l (k + 1) [92, 124] with
  | true => exact .inr (.inl rfl)
  | false =>
    cases h2 : ahd l (k + 1) [92, 41] with
    | true => exact .inr (.inr rfl)
    | false =>
      rw [h1, h2] at h
      simp only [Bool.or_false, List.isEmpty_iff, List.drop_eq_nil_iff] at h
      exact .inl h
theorem br_bre {inner : Bool} : ∀ (n : Nat) (fD fS : Bool) (s : RxS) (ps : List α), (fD = fS ∨ l.length ≤ s.at_ ∨ ahd l s.at_ [92, 124] = true ∨ ahd l s.at_ [92, 41] = true) →
    brD A false l C inner n false fD s ps = brS A l C inner n fS s ps
  | 0, fD, fS, s, ps, _ => rfl
  | n + 1, fD, fS, s, ps, hf => by
    rw [brD, brS]
    simp only [opB_bre, sgn_bs, sgn_nil, sgn_hd (show (36 : UInt8) ≠ 92 by decide), Bool.false_or, Bool.and_false, Bool.false_and, Bool.or_false, Bool.false_eq_true, if_false]
    by_cases hk : l.length ≤ s.at_
    · rw [List.getElem?_eq_none hk]; simp [hk]
    · have hlt : s.at_ < l.length := by omega
      rw [List.getElem?_eq_getElem hlt]
      simp only [hk, decide_false, Bool.false_or]
      rw [Bool.and_comm (ahd l s.at_ [92, 41]) inner]
      cases h1 : (ahd l s.at_ [92, 124] || (inner && ahd l s.at_ [92, 41])) with
      | true => simp
      | false =>
        simp only [Bool.false_eq_true, if_false]
        rw [last_bre, atom_bre (b := l[s.at_]) (by rw [List.getElem?_eq_getElem hlt])]
        have e1 : (fD && (ahd l s.at_ [92, 123] || (ahd l s.at_ [92, 43] || ahd l s.at_ [92, 63]))) = (fS && (ahd l s.at_ [92, 123] || (ahd l s.at_ [92, 43] || ahd l s.at_ [92, 63]))) := by
          rcases hf with rfl | h | h | h
          · rfl
          · exact absurd h hk
          · rw [h] at h1; simp at h1
          · rw [ahd_not h (show (123 : UInt8) ≠ 41 by decide), ahd_not h (show (43 : UInt8) ≠ 41 by decide), ahd_not h (show (63 : UInt8) ≠ 41 by decide)]; simp
        cases h2 : (ahd l s.at_ [36] && lastS l s.at_) with
        | true =>
          have h3 : ahd l s.at_ [36] = true ∧ lastS l s.at_ = true := by simpa using h2
          have h4 : (fS && (ahd l s.at_ [92, 123] || (ahd l s.at_ [92, 43] || ahd l s.at_ [92, 63]))) = false := by
            have hx := h3.1
            have q : ∀ c : UInt8, ahd l s.at_ [92, c] = false := fun c => by
              rw [← sgn_hd (by decide)] at hx; rw [← sgn_bs, eq_of_beq hx]; simp
            rw [q, q, q]; simp
          rw [h4]
          simp only [if_true, Bool.false_eq_true, if_false]
          exact br_bre n true false (s.go 1) _ (.inr (last_ends h3.2))
        | false =>
          rw [e1]
          simp only [Bool.false_eq_true, if_false]
          cases h5 : (fS && (ahd l s.at_ [92, 123] || (ahd l s.at_ [92, 43] || ahd l s.at_ [92, 63]))) with
          | true => rfl
          | false =>
            simp only [Bool.false_eq_true, if_false]
            cases atomS A l C s l[s.at_] with
            | inl e => rfl
            | inr y =>
              obtain ⟨t, s1⟩ := y
              simp only [rep_bre]
              cases repS A l (l.length + 1) s1 t with
              | inl e => rfl
              | inr z => exact br_bre n false false _ _ (.inl rfl)
theorem branch_bre {inner : Bool} {s : RxS} : branchD A false l C inner s = branchS A l C inner s := by
  unfold branchD branchS
  rw [sgn_hd (by decide)]
  cases h : ahd l s.at_ [94] with
  | true =>
    simp only [if_true]
    have hlt : ¬ l.length ≤ s.at_ := fun e => by
      unfold ahd at h; rw [List.drop_eq_nil_of_le e] at h; cases h
    have q : ∀ c : UInt8, ahd l s.at_ [92, c] = false := fun c => by
      rw [← sgn_hd (by decide)] at h; rw [← sgn_bs, eq_of_beq h]; simp
    rw [brD]
    simp only [opB_bre, sgn_bs, sgn_nil, sgn_hd (show (94 : UInt8) ≠ 92 by decide), q, h, hlt, decide_false, Bool.false_or, Bool.false_and, Bool.false_eq_true, if_false, Bool.true_and, if_true]
    exact br_bre _ _ _ _ _ (.inl rfl)
  | false =>
    simp only [Bool.false_eq_true, if_false]
    rw [← br_bre (l.length + 1) true true s [] (.inl rfl), brD, brD]
    rw [sgn_hd (show (94 : UInt8) ≠ 92 by decide), h]
    simp
theorem loop_bre {inner : Bool} : ∀ (n : Nat) (s : RxS) (ts : List α), chLoopD A false l C inner n s ts = chLoop A l C inner n s ts
  | 0, s, ts => rfl
  | n + 1, s, ts => by
    rw [chLoopD, chLoop, opB_bre, sgn_bs]
    simp only [Bool.false_eq_true, if_false, List.length_cons, List.length_nil, branch_bre, loop_bre n]
    rfl
theorem choice_bre {inner : Bool} {s : RxS} : choiceD A false l C inner s = choiceS A l C inner s := by
  unfold choiceD choiceS
  simp only [branch_bre, loop_bre]
  rfl
end
theorem ch_bre {α : Type} {A : Alg α} {l : List UInt8} : ∀ (n : Nat), chD A false l n = chS A l n
  | 0 => by funext s; rw [chD, chS, choice_bre]
  | n + 1 => by funext s; rw [chD, chS, choice_bre, ch_bre n]
theorem parse_bre {α : Type} {A : Alg α} {l : List UInt8} : parseD A false l = parseS A l := by
  unfold parseD parseS; rw [ch_bre]
end Go.Proofs.YtlchaocpejfikaaGreatDoor

/-
  A set's text is read as the set. Plain.
-/
namespace Go.Proofs.YtlchaocpejfikaaGreatDoor
open Go.RowKit

theorem u8_nat {n : Nat} (h : n < 256) : (n.toUInt8).toNat = n := by
  show n % 256 = n; omega
theorem u8_ne {n : Nat} (h : n < 256) {c : UInt8} (hc : n ≠ c.toNat) : n.toUInt8 ≠ c := fun e => hc (by rw [← e, u8_nat h])

/-! ### How many, told by which -/
theorem cntTo_pos {p : Nat → Bool} : ∀ {n i : Nat}, i < n → p i = true → 1 ≤ cntTo p n
  | 0, i, h, _ => by omega
  | n + 1, i, h, hp => by
    rw [cntTo]
    by_cases hi : i = n
    · subst hi; rw [if_pos hp]; omega
    · have := cntTo_pos (n := n) (by omega) hp; omega
theorem cntTo_two {p : Nat → Bool} {n i j : Nat} (hij : i < j) (hj : j < n) (hi : p i = true) (hjp : p j = true) : 2 ≤ cntTo p n := by
  obtain ⟨m, rfl⟩ : ∃ m, n = (i + 1) + m := ⟨n - (i + 1), by omega⟩
  rw [cntTo_add]
  have h1 := cntTo_pos (p := p) (n := i + 1) (i := i) (by omega) hi
  have h2 := cntTo_pos (p := fun k => p (i + 1 + k)) (n := m) (i := j - (i + 1)) (by omega) (by show p (i + 1 + (j - (i + 1))) = true; rw [show i + 1 + (j - (i + 1)) = j by omega]; exact hjp)
  omega
theorem len_no {s : S4} (hs : s.fit) (h : s.len = 0) : ∀ e, e < 256 → s.has e = false := fun e he => by
  cases hp : s.has e with
  | false => rfl
  | true => have := cntTo_pos he hp; rw [cnt_set hs] at this; omega
theorem len_full {s : S4} (hs : s.fit) (h : s.len = 256) : s = spn 0 255 := by
  have hn := len_not hs
  refine S4.ext_has hs (fit_spn _ _) fun e he => ?_
  have := len_no (fit_not s) (by omega) e he
  rw [has_not] at this
  rw [has_spn _ _ _ (by omega) (by omega) he]
  have h1 : s.has e = true := by simpa using this
  rw [h1]; symm; simp; omega
theorem len_one {s : S4} (hs : s.fit) (h : s.len = 1) : s = spn (lowS s) (lowS s) := by
  have hc := cnt_set hs
  have g := spl_good s.has 256
  have hlow : s.has (lowS s) = true := by
    unfold lowS
    cases hp : spl s.has 256 with
    | nil =>
      exfalso
      have : s.len = 0 := by
        rw [← hc]
        have hall : ∀ e, e < 256 → s.has e = false := fun e he => by
          cases hq : s.has e with
          | false => rfl
          | true => obtain ⟨x, hx, _⟩ := (g.cov e he).1 hq; rw [hp] at hx; cases hx
        rw [cntTo_congr (g := fun _ => false) hall]
        decide +kernel
      omega
    | cons x r =>
      rw [hp] at g
      have hx := g.in_ x (by simp)
      exact (g.cov x.1 (by omega)).2 ⟨x, by simp, Nat.le_refl _, hx.1⟩
  have hl := lowS_lt s
  refine S4.ext_has hs (fit_spn _ _) fun e he => ?_
  rw [has_spn _ _ _ hl hl he]
  cases hp : s.has e with
  | false => symm; rw [Bool.and_eq_false_iff]; simp only [decide_eq_false_iff_not]
             by_cases h1 : lowS s ≤ e
             · right; intro h2; rw [show lowS s = e by omega, hp] at hlow; cases hlow
             · exact .inl h1
  | true =>
    symm; rw [Bool.and_eq_true]; simp only [decide_eq_true_eq]
    by_cases h1 : lowS s < e
    · have := cntTo_two h1 he hlow hp; omega
    · by_cases h2 : e < lowS s
      · have := cntTo_two h2 hl hp hlow; omega
      · omega

/-! ### What stands in a text of spans -/
theorem punct_93 : punctS.has 93 = true := by decide +kernel
theorem punct_94 : punctS.has 94 = true := by decide +kernel
theorem punct_45 : punctS.has 45 = true := by decide +kernel
theorem punct_91 : punctS.has 91 = true := by decide +kernel
theorem punct_all : (List.range 256).all (fun b => !punctS.has b || (!(decide (49 ≤ b) && decide (b ≤ 57)) && (b != 110 && (b != 116 && (b != 119 && (b != 87 && (b != 115 && b != 83))))))) = true := by decide +kernel
theorem ins_first {n : Nat} (h : n < 256) : ∃ c q, insT n = c :: q ∧ c ≠ 93 ∧ c ≠ 45 ∧ c ≠ 94 := by
  unfold insT
  split
  · exact ⟨91, _, rfl, by decide, by decide, by decide⟩
  · next hp =>
    refine ⟨n.toUInt8, [], rfl, ?_, ?_, ?_⟩
    all_goals
      refine u8_ne h fun e => hp ?_
      rw [e]
      decide +kernel
theorem itm_ins {n : Nat} (h : n < 256) (r : List UInt8) : itm (insT n ++ r) 0 = .inr ⟨spn n n, some n.toUInt8, (insT n).length⟩ := by
  unfold insT
  split
  · have := itm_brk n.toUInt8 r
    unfold brk at this
    rw [u8_nat h] at this
    exact this
  · next hp =>
    have h91 : n.toUInt8 ≠ 91 := u8_ne h fun e => hp (by rw [e]; exact punct_91)
    unfold itm
    simp only [List.cons_append, List.nil_append, List.getElem?_cons_zero, List.length_singleton]
    rw [u8_nat h]
    cases r with
    | nil => rfl
    | cons k q =>
      simp only [Nat.zero_add, List.getElem?_cons_succ, List.getElem?_cons_zero]
      rw [if_neg (fun e => h91 e.1)]
theorem spn_first {x : Nat × Nat} (h1 : x.1 ≤ x.2) (h2 : x.2 < 256) : ∃ c q, spnT x = c :: q ∧ c ≠ 93 ∧ c ≠ 45 ∧ c ≠ 94 := by
  obtain ⟨c, q, e, h⟩ := ins_first (show x.1 < 256 by omega)
  exact ⟨c, q ++ _, by unfold spnT; rw [e]; rfl, h⟩
theorem prt_spn {x : Nat × Nat} (h1 : x.1 ≤ x.2) (h2 : x.2 < 256) (r : List UInt8) (hr : ∀ c q, r = c :: q → c ≠ 45) : prt (spnT x ++ r) 0 = .inr (spn x.1 x.2, (spnT x).length) := by
  unfold prt
  by_cases he : x.1 = x.2
  · have e : spnT x = insT x.1 := by unfold spnT; rw [if_pos he, List.append_nil]
    rw [e, itm_ins (by omega)]
    simp only
    have : rng (insT x.1 ++ r) (insT x.1).length = false := by
      unfold rng
      cases r with
      | nil => simp
      | cons c q => have := hr c q rfl; simp [this]
    rw [this, if_neg (by decide), ← he]
  · have e : spnT x = insT x.1 ++ 45 :: insT x.2 := by unfold spnT; rw [if_neg he]
    rw [e, List.append_assoc, itm_ins (by omega)]
    simp only
    obtain ⟨c, q, ec, h93, _, _⟩ := ins_first h2
    have : rng (insT x.1 ++ (45 :: insT x.2 ++ r)) (insT x.1).length = true := by
      unfold rng
      rw [ec]
      simp [h93]
    rw [this, if_pos rfl]
    have hi : itm (insT x.1 ++ (45 :: insT x.2 ++ r)) ((insT x.1).length + 1) = .inr ⟨spn x.2 x.2, some x.2.toUInt8, (insT x.1).length + 1 + (insT x.2).length⟩ := by
      have := itm_sh (insT x.1 ++ [45]) (insT x.2 ++ r) 0
      rw [itm_ins h2] at this
      simpa [shI] using this
    rw [hi]
    simp only
    rw [u8_nat (show x.1 < 256 by omega), u8_nat h2, if_pos h1]
    congr 2
    simp; omega
def orsS : S4 → List (Nat × Nat) → S4
  | o, [] => o
  | o, x :: r => orsS (o.or (spn x.1 x.2)) r
theorem fit_orsS : ∀ (L : List (Nat × Nat)) {o : S4}, o.fit → (orsS o L).fit
  | [], _, h => h
  | _ :: r, _, _ => fit_orsS r (fit_or _ _)
theorem has_orsS : ∀ (L : List (Nat × Nat)) (o : S4), (∀ x ∈ L, x.1 ≤ x.2 ∧ x.2 < 256) → ∀ e, e < 256 → (orsS o L).has e = (o.has e || L.any fun x => decide (x.1 ≤ e) && decide (e ≤ x.2))
  | [], o, _, e, _ => by simp [orsS]
  | x :: r, o, h, e, he => by
    have hx := h x (by simp)
    rw [orsS, has_orsS r _ (fun y hy => h y (by simp [hy])) e he, has_or, has_spn _ _ _ (by omega) hx.2 he, List.any_cons, Bool.or_assoc]
theorem orsS_spl {s : S4} (hs : s.fit) : orsS S4.zero (spl s.has 256) = s := by
  have g := spl_good s.has 256
  refine S4.ext_has (fit_orsS _ fit_zero) hs fun e he => ?_
  rw [has_orsS _ _ g.in_ e he, has_zero, Bool.false_or, Bool.eq_iff_iff, List.any_eq_true, g.cov e he]
  simp
theorem sps_next (L : List (Nat × Nat)) (hL : ∀ x ∈ L, x.1 ≤ x.2 ∧ x.2 < 256) (t : List UInt8) : ∀ c q, spsT L ++ 93 :: t = c :: q → c ≠ 45 := by
  intro c q e
  cases L with
  | nil => simp [spsT] at e; rw [← e.1]; decide
  | cons x r =>
    obtain ⟨c', q', e', h⟩ := spn_first (hL x (by simp)).1 (hL x (by simp)).2
    rw [spsT, e'] at e
    simp at e
    rw [← e.1]; exact h.2.1
theorem lop_sps (t : List UInt8) : ∀ (L : List (Nat × Nat)) (p : List UInt8) (n : Nat) (o : S4), (∀ x ∈ L, x.1 ≤ x.2 ∧ x.2 < 256) → L.length < n → lop (p ++ (spsT L ++ 93 :: t)) n p.length o = .inr (orsS o L, p.length + (spsT L).length)
  | [], p, n, o, _, hn => by
    obtain ⟨n, rfl⟩ : ∃ m, n = m + 1 := ⟨n - 1, by simp at hn; omega⟩
    rw [lop, if_pos (by simp [spsT])]; rfl
  | x :: L, p, n, o, hL, hn => by
    obtain ⟨n, rfl⟩ : ∃ m, n = m + 1 := ⟨n - 1, by simp at hn; omega⟩
    have hx := hL x (by simp)
    have hL' : ∀ y ∈ L, y.1 ≤ y.2 ∧ y.2 < 256 := fun y hy => hL y (by simp [hy])
    have e1 : spsT (x :: L) ++ 93 :: t = spnT x ++ (spsT L ++ 93 :: t) := by simp [spsT]
    have hp := prt_sh p (spnT x ++ (spsT L ++ 93 :: t)) 0
    rw [Nat.add_zero, prt_spn hx.1 hx.2 _ (sps_next L hL' t)] at hp
    obtain ⟨c, q, ec, h93, _⟩ := spn_first hx.1 hx.2
    rw [e1, lop, if_neg (by rw [ec]; simp [h93]), hp]
    simp only [shP]
    have ih := lop_sps t L (p ++ spnT x) n (o.or (spn x.1 x.2)) hL' (by simp at hn; omega)
    rw [List.length_append, List.append_assoc] at ih
    rw [ih, orsS, spsT, List.length_append, Nat.add_assoc]
theorem bod_sps {p : List UInt8} {L : List (Nat × Nat)} {t : List UInt8} (hL : ∀ x ∈ L, x.1 ≤ x.2 ∧ x.2 < 256) (h0 : L ≠ []) : bod (p ++ (spsT L ++ 93 :: t)) p.length = .inr (orsS S4.zero L, p.length + (spsT L).length) := by
  cases L with
  | nil => exact absurd rfl h0
  | cons x L =>
    have hx := hL x (by simp)
    have hL' : ∀ y ∈ L, y.1 ≤ y.2 ∧ y.2 < 256 := fun y hy => hL y (by simp [hy])
    have e1 : spsT (x :: L) ++ 93 :: t = spnT x ++ (spsT L ++ 93 :: t) := by simp [spsT]
    have hp := prt_sh p (spnT x ++ (spsT L ++ 93 :: t)) 0
    rw [Nat.add_zero, prt_spn hx.1 hx.2 _ (sps_next L hL' t)] at hp
    unfold bod
    rw [e1, hp]
    simp only [shP]
    have ih := lop_sps t L (p ++ spnT x) ((p ++ (spnT x ++ (spsT L ++ 93 :: t))).length + 1) (spn x.1 x.2) hL' (by
      have hb : ∀ M : List (Nat × Nat), (∀ y ∈ M, y.1 ≤ y.2 ∧ y.2 < 256) → M.length ≤ (spsT M).length := by
        intro M
        induction M with
        | nil => intro _; simp
        | cons y M ihM =>
          intro hM
          obtain ⟨c, q, ec, _⟩ := spn_first (hM y (by simp)).1 (hM y (by simp)).2
          have := ihM (fun z hz => hM z (by simp [hz]))
          rw [spsT, List.length_append, ec]; simp; omega
      have := hb L hL'
      simp; omega)
    rw [show (p ++ spnT x).length = p.length + (spnT x).length by simp, List.append_assoc] at ih
    rw [ih, orsS, zero_or (fit_spn _ _), spsT, List.length_append, Nat.add_assoc]
theorem prs_brkT {o : Bool} {s : S4} (hs : s.fit) (h0 : spl s.has 256 ≠ []) (t : List UInt8) : prs (brkT o s ++ t) 1 = .inr (if o = true then s.not else s, (brkT o s).length) := by
  have g := spl_good s.has 256
  unfold brkT
  cases o with
  | false =>
    obtain ⟨x, L, eL⟩ := List.exists_cons_of_ne_nil h0
    have hx := g.in_ x (by rw [eL]; simp)
    obtain ⟨c, q, ec, _, _, h94⟩ := spn_first hx.1 hx.2
    have e : 91 :: ((if false = true then [94] else []) ++ (spsT (spl s.has 256) ++ [93])) ++ t = [91] ++ (spsT (spl s.has 256) ++ 93 :: t) := by simp
    have hb := bod_sps (p := [91]) (t := t) g.in_ h0
    rw [e, prs_f (by rw [eL, spsT, ec]; simp [h94])]
    rw [List.length_singleton] at hb
    rw [hb, orsS_spl hs]
    simp [ends]
    omega
  | true =>
    have e : 91 :: ((if true = true then [94] else []) ++ (spsT (spl s.has 256) ++ [93])) ++ t = [91, 94] ++ (spsT (spl s.has 256) ++ 93 :: t) := by simp
    have hb := bod_sps (p := [91, 94]) (t := t) g.in_ h0
    rw [e, prs_t (by simp)]
    rw [show ([91, 94] : List UInt8).length = 2 from rfl] at hb
    rw [hb, orsS_spl hs]
    simp [ends]
    omega
/-- A set that isn't every byte, nor one: in brackets, read as itself. -/
theorem setT_brk {s : S4} (hs : s.fit) (h256 : s.len ≠ 256) (h1 : s.len ≠ 1) : ∃ q, setT s = 91 :: q ∧ ∀ t, prs (setT s ++ t) 1 = .inr (s, (setT s).length) := by
  unfold setT
  rw [if_neg h256, if_neg h1]
  simp only
  obtain ⟨o, ho⟩ : ∃ o, decide (128 < s.len ∨ s.len = 0) = o := ⟨_, rfl⟩
  obtain ⟨s1, hs1⟩ : ∃ s1, (if o = true then s.not else s) = s1 := ⟨_, rfl⟩
  obtain ⟨e, he⟩ : ∃ e, endB (spl s1.has 256) = e := ⟨_, rfl⟩
  rw [ho, hs1, he]
  have f1 : s1.fit := by rw [← hs1]; split; exact fit_not _; exact hs
  have hne : ∀ c : S4, (∃ d, d < 256 ∧ c.has d = true) → spl c.has 256 ≠ [] := fun c ⟨d, hd, hc⟩ h => by
    have g := spl_good c.has 256
    obtain ⟨x, hx, _⟩ := (g.cov d hd).1 hc
    rw [h] at hx; cases hx
  have hln : ∀ c : S4, c.fit → c.len ≠ 0 → ∃ d, d < 256 ∧ c.has d = true := fun c hc h => by
    refine Classical.byContradiction fun hn => h ?_
    rw [← cnt_set hc, cntTo_congr (g := fun _ => false) (fun i hi => by
      cases hq : c.has i with
      | false => rfl
      | true => exact absurd ⟨i, hi, hq⟩ hn)]
    decide +kernel
  have h0 : spl (if e = true then s1.not else s1).has 256 ≠ [] := by
    cases e with
    | true =>
      rw [if_pos rfl]
      rw [endB_spl, Bool.and_eq_true, Bool.or_eq_true] at he
      refine hne _ ?_
      rcases he.2 with h | h
      · exact ⟨9, by decide, by rw [has_not]; exact h⟩
      · exact ⟨11, by decide, by rw [has_not]; exact h⟩
    | false =>
      rw [if_neg (by decide)]
      refine hne _ (hln _ f1 ?_)
      rw [← hs1]
      have := len_not hs
      split
      · next h => rw [h] at ho; omega
      · next h =>
        have : o = false := by simpa using h
        rw [this] at ho
        simp at ho; omega
  have f2 : (if e = true then s1.not else s1).fit := by split; exact fit_not _; exact f1
  refine ⟨_, rfl, fun t => ?_⟩
  rw [prs_brkT f2 h0]
  have : (if (o != e) = true then (if e = true then s1.not else s1).not else (if e = true then s1.not else s1)) = s := by
    rw [← hs1]
    cases o <;> cases e <;> simp [S4.not_not hs, S4.not_not (fit_not s)]
  rw [this]
end Go.Proofs.YtlchaocpejfikaaGreatDoor
