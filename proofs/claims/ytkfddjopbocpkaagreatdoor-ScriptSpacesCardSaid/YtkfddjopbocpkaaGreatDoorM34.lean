/- Lemmas of this claim. -/
import Derived.Test.YtkfddjopbocpkaaGreatDoorM31
import Derived.Test.YtkfddjopbocpkaaGreatDoorM33
set_option linter.unusedVariables false
set_option linter.unusedSimpArgs false
set_option maxRecDepth 100000
set_option maxHeartbeats 4000000
namespace Go.Proofs.YtkfddjopbocpkaaGreatDoor
open Go.RowKit
attribute [-go_sem] storeVar
attribute [local go_sem] ZeS
theorem tk2(s:List UInt8):(((⟨s.toArray⟩:ByteArray).extract 0 2).toList==[35,110])=(s.take 2==[35,110]):=by rw[Zm8,ZqK];rfl
abbrev Zp4(s:List UInt8):Prop:=s.length≤300∧(1<s.length→s.take 2≠[35,110])
theorem Zp4.take{s:List UInt8}(h:Zp4 s):s.take 2≠[35,110]:=fun e=>by
 have:=congrArg List.length e;rw[List.length_take]at this;exact h.2 (by simp at this;omega) e
end Go.Proofs.YtkfddjopbocpkaaGreatDoor
