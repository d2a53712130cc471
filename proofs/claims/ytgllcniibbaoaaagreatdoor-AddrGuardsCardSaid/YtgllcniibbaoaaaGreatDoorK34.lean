/- Lemmas of this claim. -/
import Derived.Test.YtgllcniibbaoaaaGreatDoorK21
import Derived.Test.YtgllcniibbaoaaaGreatDoorK33
set_option linter.all false
set_option maxRecDepth 100000
set_option maxHeartbeats 24000000
namespace Go.Proofs.YtgllcniibbaoaaaGreatDoor
open Go.RowKit
attribute [-go_sem] storeVar loadVar
attribute [local go_sem] Zx3 Zx4 Zx1 Zx2 Zyb Zx9
theorem parseD_size{ere:Bool}{l:List UInt8}{t:Nd}{s:RxS}(h:Zac prg ere l=.inr (t,s)):t.size≤600∧s.marks.length≤250:=by
 have hl:l.length≤250:=by
  by_cases hl:l.length≤250
  ·exact hl
  ·unfold Zac at h;rw[if_pos (by omega)]at h;cases h
 unfold Zac at h;rw[if_neg (by omega)]at h;obtain⟨k1,k2,k3⟩:=chD_kept 12 _ ⟨Nat.zero_le _,Nat.le_refl _,Nat.le_refl _,Nat.le_refl _⟩ _ _ h;have h1:=k1.le;have h2:=k1.mr;have h3:t.size+0≤2*s.at_+2:=k3;exact⟨by omega,by omega⟩
end Go.Proofs.YtgllcniibbaoaaaGreatDoor
