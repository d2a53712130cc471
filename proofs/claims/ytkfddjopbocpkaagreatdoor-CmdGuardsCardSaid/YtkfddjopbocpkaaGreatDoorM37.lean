/-
  Merged texts of this claim: Claim, ClaimB.
-/
import Derived.ProofKit
import Derived.ChangeSame
import Derived.ChangeOld
import Derived.Below
import Derived.Carry
import Derived.OpenShut
import Derived.ShutString
import Derived.Test.YtkfddjopbocpkaaGreatDoorM01
set_option linter.unusedVariables false
set_option linter.unusedSimpArgs false
set_option maxRecDepth 100000
set_option maxHeartbeats 4000000
namespace Go.Proofs.YtkfddjopbocpkaaGreatDoor
open Go.ChangeShapes Go.WideShapes Go.ChangeAt Go.RowKit
section
variable {H:Type} {enc:TypeId×Value→H} {P:Program}
theorem trodAll_stays(hl:laidOutB P=true){W W':World}{sp:Nat→Bool}(hb:Below W.heap.size W W'):∀(ts:List TypeId) (vs:List Value) (ds:List (DataW H)) (ps:List MemPlace),
 (∀t∈ts,P.readableRec t=true∧t<P.types.size)→DataW.TrodAll enc P W 0 (fun _=>true) true ts vs ds ps→(∀x∈ps,x.block<W.heap.size)→(∀x∈ps,sp x.block=true)→
 DataW.TrodAll enc P W' 0 sp true ts vs ds ps
 |[],[],[],ps,_,h,_,_=>h
 |t::ts,v::vs,d::ds,ps,hr,⟨p,q,h1,h2,e⟩,hlt,hsp=>by
  subst e;refine⟨p,q,?_,?_,rfl⟩
  ·exact WideElems.Trod_stays hl (hr t (by simp)).1 (hr t (by simp)).2 h1 (fun x hx=>hb.same (hlt x (by simp[hx]))) (fun x hx=>hsp x (by simp[hx]))
  ·exact trodAll_stays hl hb ts vs ds q (fun t ht=>hr t (by simp[ht])) h2 (fun x hx=>hlt x (by simp[hx])) (fun x hx=>hsp x (by simp[hx]))
 |[],[],_::_,_,_,h,_,_=>h.elim
 |[],_::_,_,_,_,h,_,_=>h.elim
 |_::_,[],_,_,_,h,_,_=>h.elim
 |_::_,_::_,[],_,_,h,_,_=>h.elim
theorem ZkA{f:Func}{s:ChangeSpec}{apart fresh handsOn again:Bool}{W W':World}{args:Array Value}{ds gs:List (DataW H)}{before:List MemPlace}{tb:TypeId}
 (hvars:s.vars=[]) (hres:f.resultTypes= #[tb]) (htb:P.underlying tb=some .bool) (hl:laidOutB P=true) (hrd:∀t∈f.params.toList,P.readableRec t=true∧t<P.types.size)
 (hsp:s.fn H (ds++gs)={results:=[.lit (.bool true)],args:=ds})
 (hW:DataW.Whole enc P f.params.toList s.vars apart W args.toList ds gs before) (hb:Below W.heap.size W W'):
 s.post enc P f apart fresh handsOn again W args (.bool true) W':=by
 have hlt:∀p∈before,p.block<W.heap.size:=fun p hp=>hW.lt p hp;have hold:∀p∈before,(fun b=>decide (b<W.heap.size)) p.block=true:=fun p hp=>by simpa using hlt p hp
 have hres0:∀(b:Nat) (sp:Nat→Bool) (hd:Bool),DataW.TrodAll enc P W' b sp hd f.resultTypes.toList ((Value.bool true).resultList f.resultTypes.size) (s.fn H (ds++gs)).results []:=by
  intro b sp hd;rw[hsp,hres];exact trodAll_cons_mk (shut_bool htb _) trodAll_mk0
 obtain⟨p,q,hA,hV,hpq,hz,hn⟩:=hW;have hW:DataW.Whole enc P f.params.toList s.vars apart W args.toList ds gs before:=⟨p,q,hA,hV,hpq,hz,hn⟩;have hV':=hV;rw[hvars]at hV';obtain⟨rfl,rfl⟩:=trodVars_none hV';simp only[List.append_nil]at hpq hsp hres0;subst hpq;have hargs:∀sp:Nat→Bool,(∀x∈before,sp x.block=true)→DataW.TrodAll enc P W' 0 sp true f.params.toList args.toList (s.fn H (ds++[])).args before:=by
  intro sp h;simp only[List.append_nil];rw[hsp];exact trodAll_stays hl hb _ _ _ _ hrd hA hlt h
 have hvs:∀sp:Nat→Bool,DataW.TrodVars enc P W' sp s.vars (s.fn H (ds++[])).vars []:=by
  intro sp;simp only[List.append_nil];rw[hvars,hsp];rfl
 refine⟨ds,[],before,[],before,[],hW,by simpa using hres0 _ _ _,hargs _ hold,hvs _,World.keptBut_mono (fun x hx=>⟨hx,.inr (.inl hx)⟩) (hb.frame (·∈before)),fun _=> ?_⟩;refine⟨ok_one hres rfl (okWide_bool_mk htb _),(s.fn H (ds++[])).results++(s.fn H (ds++[])).args,[],before,⟨[]++before,[],?_,?_,by simp,?_,?_⟩,?_⟩
 ·exact trodAll_append (hargs _ (fun _ _=>rfl)) (by simpa using hres0 _ _ _)
 ·rw[hvars];rfl
 ·intro b off hp;rw[hb.frozen (hlt _ hp)];exact hz b off hp
 ·intro ha;exact hn ha
 ·intro x hx _;exact hx
end
section
variable {H:Type} {enc:TypeId×Value→H} {P:Program}
end
end Go.Proofs.YtkfddjopbocpkaaGreatDoor
