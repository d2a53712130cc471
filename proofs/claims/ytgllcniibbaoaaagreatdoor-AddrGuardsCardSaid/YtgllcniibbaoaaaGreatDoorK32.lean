/- Lemmas of this claim. -/
import Derived.Test.YtgllcniibbaoaaaGreatDoorK28
import Derived.Test.YtgllcniibbaoaaaGreatDoorK30
import Derived.Test.YtgllcniibbaoaaaGreatDoorK31
set_option linter.all false
set_option maxRecDepth 100000
set_option maxHeartbeats 24000000
namespace Go.Proofs.YtgllcniibbaoaaaGreatDoor
open Go.RowKit
theorem Zz8{l:List UInt8}{ere:Bool}{deep:Nat}{C:Option (RxS→Out Nd)}(hl:l.length≤400)(hd:deep≤12)
 (hC:(C=none∧deep=12)∨∃f,C=some f∧deep<12∧ZyY l ere 30000 ((deep:Int)+1) f∧Zn4 l f):ZAQ l ere 10000 deep (Zb7 prg ere l C (decide (0<deep))):=
 fun s ca cc ma mc O w hO hs HC HM=>Zz1 l ere s ca cc ma mc 30000 O deep C w hO hs hl hd
  (fun s ca cc ma mc O w hO hs hlt HC HM=>ZAM l ere s ca cc ma mc 30000 (by decide) O deep C w hO hs hlt hl hd hC HC HM)
  (fun f hf=>by
   rcases hC with⟨rfl,_⟩|⟨f',rfl,_,_,hk⟩
   ·cases hf
   ·injection hf with hf;subst hf;exact hk) HC HM
theorem d_chAt{l:List UInt8}{ere:Bool}(hl:l.length≤400):∀n,n≤12→ZyY l ere 30000 ((12-n:Nat):Int) (chD prg ere l n)
 |0,_=>fun s ca cc ma mc O w hO hs HC HM=>by
  rw[chD];exact Zy9 l ere s ca cc ma mc O 12 none true w hO hs hl (Zz8 hl (Nat.le_refl _) (.inl ⟨rfl,rfl⟩)) (fun f hf=>by cases hf) HC HM
 |n+1,hn=>fun s ca cc ma mc O w hO hs HC HM=>by
  have ih:=d_chAt (l:=l) (ere:=ere) hl n (by omega);rw[show((12-n:Nat):Int)=((12-(n+1):Nat):Int)+1 by omega]at ih;have hk:=chD_kept (ere:=ere) (l:=l) n;have hb:=Zz8 (l:=l) (ere:=ere) (deep:=12-(n+1)) (C:=some (chD prg ere l n)) hl (by omega) (.inr ⟨_,rfl,by omega,ih,hk⟩);rw[show decide (0<12-(n+1))=decide (n+1<12) by congr 1;exact propext (by omega)]at hb;rw[chD];exact Zy9 l ere s ca cc ma mc O (12-(n+1)) (some (chD prg ere l n)) (decide (n+1<12)) w hO hs hl hb (fun f hf=>by injection hf with hf;subst hf;exact hk) HC HM
end Go.Proofs.YtgllcniibbaoaaaGreatDoor
