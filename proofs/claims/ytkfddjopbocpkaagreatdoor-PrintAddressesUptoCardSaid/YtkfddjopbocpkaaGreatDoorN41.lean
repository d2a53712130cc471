/- Lemmas of this claim. -/
import Derived.Test.YtkfddjopbocpkaaGreatDoorN32
import Derived.Test.YtkfddjopbocpkaaGreatDoorN40
set_option linter.unusedVariables false
set_option linter.unusedSimpArgs false
set_option maxRecDepth 100000
set_option maxHeartbeats 4000000
namespace Go.Proofs.YtkfddjopbocpkaaGreatDoor
open Go.RowKit
attribute [-go_sem] storeVar
end Go.Proofs.YtkfddjopbocpkaaGreatDoor
namespace Go.Proofs.YtkfddjopbocpkaaGreatDoor
theorem ZlG{x:Bool}{l:List UInt8}(hl:l.length≤4000):∀(n k:Nat) (s:RdS) (ms:List (Nat×List UInt8)) (s':RdS) (ms':List (Nat×List UInt8)),(∀c∈s.cmds,c.few)→Zdm x l n k s ms=.inr (s',ms')→∀c∈s'.cmds,c.few
 |0,k,s,ms,s',ms',h,e=>by
  injection e with e;injection e with e _;subst e;exact h
 |n+1,k,s,ms,s',ms',h,e=>by
  by_cases h1:l.length≤k
  ·rw[scrL_end h1]at e;injection e with e;injection e with e _;subst e;exact h
  by_cases h2:s.cmds.length=100
  ·rw[Zel h1 h2]at e;cases e
  cases h3:Zeu x l k with
  |inl z=>rw[Zfv h1 h2 h3]at e;cases e
  |inr cq=>
   obtain⟨c,q⟩:=cq;cases h4:ZbZ c s with
   |inl z=>rw[ZhW h1 h2 h3 h4]at e;cases e
   |inr s1=>
    rw[ZhX h1 h2 h3 h4]at e;refine ZlG hl n _ s1 _ s' ms' (fun d hd=> ?_) e;rw[ZiK h4]at hd;rcases List.mem_append.1 hd with hd|hd
    ·exact h d hd
    ·rw[List.mem_singleton.1 hd];exact cmdD_few (by omega) h3
theorem scrS_few{x:Bool}{l:List UInt8}{a:ScV}{ms:List (Nat×List UInt8)}(h:ZdO x l=.inr (a,ms)):(∀c∈a.cmds,c.few)∧a.cmds.length≤100:=by
 obtain⟨hl,st,h1,_,rfl⟩:=ZiN h;exact⟨ZlG hl _ _ _ _ _ _ (fun _ h=>by cases h) h1,(ZiM x l _ _ _ _ _ _ h1).2.2.2 (by unfold RdS.zero;simp)⟩
end Go.Proofs.YtkfddjopbocpkaaGreatDoor
