/-
  Merged texts of this claim: OctetK, Spans.
-/
import Derived.Deep.RegionHeld3
import Derived.Deep.DeepCutAuto
import Derived.Deep.CutBlock
import Derived.Laws.OwnMore
import Derived.Test.YtmoeboknelnaoaaGreatDoorM03
import Derived.Test.YtmoeboknelnaoaaGreatDoorM06

/-
  Walks: placketref01.Class.
-/
namespace Go.Proofs.YtmoeboknelnaoaaGreatDoor
open Go.RowKit

abbrev setV (s : S4) : Value := .agg #[.int .u64 s.a, .int .u64 s.b, .int .u64 s.c, .int .u64 s.d]
theorem spanR_lit (a b : Nat) (w : World) (ha : a < 256) (hb : b < 256) :
    Calls Tryz.prog 33 #[.int .u8 a, .int .u8 b] w fun e w' => e = .returned (setV (spn a b)) ∧ Fr nob w w' := spanR_any a b w ha hb
end Go.Proofs.YtmoeboknelnaoaaGreatDoor

/-
  The spans of a set: plain; walks of both sides.
-/
namespace Go.Proofs.YtmoeboknelnaoaaGreatDoor
open Go.RowKit

def ext (l : List (Nat × Nat)) (k : Nat) : List (Nat × Nat) := match l.getLast? with
  | some x => l.dropLast ++ [(x.1, k)]
  | none => l
/-- Spans as cells. -/
def spC (l : List (Nat × Nat)) : List Value := l.flatMap fun x => [.int .u8 (x.1 : Int), .int .u8 (x.2 : Int)]
def OwnP (w : World) (v : Value) (l : List (Nat × Nat)) : Prop := w.ownsRow 0 240 2 v l.length (spC l)
theorem OwnP.on {w w' : World} {v : Value} {l : List (Nat × Nat)} (h : OwnP w v l) {S : Nat → Prop} (f : Fr S w w') (hn : ∀ k, v.ownBlock = some k → ¬ S k) : OwnP w' v l := ownsRow_fr h f hn

end Go.Proofs.YtmoeboknelnaoaaGreatDoor
