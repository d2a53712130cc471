/-
  A set of bytes: four words. No walk.
-/
import Derived.Test.YtcmjgaadffffaaaBase
namespace Go.Proofs.Ytcmjgaadffffaaa
open Go.RowKit

/-- A set of bytes: four words. -/
structure S4 where
  a : Int
  b : Int
  c : Int
  d : Int
  deriving DecidableEq

def S4.cells (s : S4) : List Value := [.int .u64 s.a, .int .u64 s.b, .int .u64 s.c, .int .u64 s.d]

end Go.Proofs.Ytcmjgaadffffaaa
