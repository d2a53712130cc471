/-
  ScriptTwo: two scripts, one behind the other, are their commands, one behind the other, if no label is in both. For every input; the tables of the library lie as start-up lays them (tied).
-/
import Derived.Test.YtkfddjopbocpkaaGreatDoorCards
import Derived.Test.YtkfddjopbocpkaaGreatDoorTie
import Derived.Test.YtkfddjopbocpkaaGreatDoorN32
set_option linter.unusedVariables false
set_option linter.unusedSimpArgs false
namespace Go.Proofs.YtkfddjopbocpkaaGreatDoor
open Go.RowKit
theorem lawScriptTwo(s t:List UInt8)(w:World)(hl:s.length≤9223372036854775807)(hlt:t.length≤9223372036854775807)(hE:Env w):
 Calls Tryz.prog 8 #[.string ⟨s.toArray⟩,.string ⟨t.toArray⟩] w fun e w'=>e=.returned (.bool true)∧Fr nob w w':=by
 by_cases h1:200<s.length
 ·exact Zsh s t w hE hl hlt (.inl h1)
 by_cases h2:200<t.length
 ·exact Zsh s t w hE hl hlt (.inr (.inl ⟨by omega,h2⟩))
 by_cases h3:1<t.length∧t.take 2=[35,110]
 ·exact Zsh s t w hE hl hlt (.inr (.inr ⟨by omega,by omega,h3⟩))
 have hn:t.take 2≠[35,110]:=fun e=>by
  have:=congrArg List.length e;rw[List.length_take]at this;exact h3 ⟨by simp at this;omega,e⟩
 cases hS:ZdO false s with
 |inl z=>exact Zsn s t w hE (by omega) (by omega) hn (.inl (by rw[hS];exact Zm5 hS))
 |inr r=>
  cases hT:ZdO false t with
  |inl z=>exact Zsn s t w hE (by omega) (by omega) hn (.inr (by rw[hT];exact Zm5 hT))
  |inr q=>exact two_ok s t w hE (by omega) (by omega) hn r.1.quiet q.1.quiet r.1.cmds q.1.cmds r.2 q.2 hS hT
namespace scriptTwo
open Go.ChangeShapes Go.WideShapes Go.ChangeAt Go.RowKit
open Go.ChangeMaps (open_string shut_string)
theorem readable:∀t∈Tryz.f8.params.toList,Tryz.prog.readableRec t=true∧t<Tryz.prog.types.size:=by
 rw[Tryz.params8];intro t ht;simp only[List.mem_cons,List.not_mem_nil,or_false]at ht;rcases ht with rfl|rfl
 all_goals exact⟨by kernel_rfl,of_decide_eq_true (by kernel_rfl)⟩
set_option maxRecDepth 100000 in
theorem lifted(os:Os)(started:os.Started)(H:Type)(enc:TypeId×Value→H):
 ReturnsInHanded {} Tryz.checked os 8 .any (fun w args=>(Rows.scriptTwoSpec.pre enc Tryz.prog Tryz.f8 [] false w args∧laidMetH Tryz.prog door.list1 w)∧sizedMet enc Tryz.prog Tryz.f8 (OpenSpec.ofChange Rows.scriptTwoSpec) false w args)
  (Rows.scriptTwoSpec.post enc Tryz.prog Tryz.f8 false true false false):=by
 refine ZfN (C:=Tryz.checked) (X:=fun w _=>laidMetH Tryz.prog door.list1 w) (fun _ _ _ hh h=>h.of_heap hh) door.own started (by kernel_rfl) Tryz.func8
  (ChangeSpec.witness_shaped (enc:=enc) (C:=Tryz.checked) (os:=os) (X:=fun w _=>laidMetH Tryz.prog door.list1 w) false (World.laidAll Tryz.prog os door.list1) #[.string ByteArray.empty,.string ByteArray.empty] 8 (World.laidAll_os _ _ _) (World.shaped_of_ZipB (by kernel_rfl) (by kernel_rfl)) (by kernel_rfl) (by kernel_rfl) (by kernel_rfl) (by rw[MakeChecks.laidMetH_plain _ _ _ (by kernel_rfl)];exact laidMet_laidAll _ (by kernel_rfl) (by kernel_rfl))) ?_
 intro W base args ds gs before hval0 hW _ hL hsh;have hval:∀(j:Nat) t v,Tryz.f8.params[j]? =some t→args[j]? =some v→Value.okWide Tryz.prog W .any base t v:=hval0;have hW':DataW.Whole enc Tryz.prog Tryz.f8.params.toList Rows.scriptTwoSpec.vars false W args.toList ds gs before:=hW;obtain⟨p,q,hA0,hV,rfl,hfz,hnd⟩:=hW;have hA:DataW.TrodAll enc Tryz.prog W 0 (fun _=>true) true Tryz.f8.params.toList args.toList ds p:=hA0;rw[Tryz.params8]at hA hval;obtain⟨v0,vs0,d0,ds0,p0,q0,hargs,rfl,rfl,h0,r0⟩:=trodAll_cons hA;obtain⟨v1,vs1,d1,ds1,p1,q1,rfl,rfl,rfl,h1,r1⟩:=trodAll_cons r0;obtain⟨rfl,rfl,rfl⟩:=trodAll_nil r1;obtain rfl:args= #[v0,v1]:=by cases args;simp_all
 obtain⟨rfl,rfl⟩:=trodVars_none hV;obtain⟨s0,rfl,_,_,ws0⟩:=open_string Tryz.underlying9 (hval 0 9 v0 rfl rfl) h0;obtain⟨s1,rfl,_,_,ws1⟩:=open_string Tryz.underlying9 (hval 1 9 v1 rfl rfl) h1;have hs0:s0=⟨s0.data.toList.toArray⟩:=by simp
 have hs1:s1=⟨s1.data.toList.toArray⟩:=by simp
 refine(show Calls Tryz.prog 8 #[.string s0,.string s1] W _ from ?_).mono fun e W' h=>h;rw[hs0];rw[hs1];refine(lawScriptTwo s0.data.toList s1.data.toList W (by unfold maxLen at ws0;exact ws0) (by unfold maxLen at ws1;exact ws1) (door.env hL hsh)).mono fun e W' ⟨he,hg⟩=> ?_;subst he;exact⟨_,rfl,ZlP rfl (by kernel_rfl) Tryz.underlying4 door.laidOut readable rfl hW' hg.below⟩
theorem over:Rows.scriptTwoRow.holds Tryz.pinned (OpenSpec.ofChange Rows.scriptTwoSpec):=
 OpenClaim.holds_of_wide 8 Tryz.f8 rfl rfl rfl rfl rfl rfl rfl ⟨rfl,rfl,rfl,rfl,rfl⟩ rfl rfl rfl rfl rfl (by kernel_rfl) Tryz.func8 scriptTwo_joined
  (of_decide_eq_true (by kernel_rfl)) (by unfold Func.isWrapper;first|(rw[if_pos (by decide +kernel)];kernel_rfl)|(rw[if_neg (by decide +kernel)];exact⟨rfl,rfl⟩))
  (fun os started H enc _=>lifted os started H enc)
theorem proved:Rows.ScriptTwoCardSaid:=
 Claim7.holds_tied_plain_at .later [] [.data,.data,.pinned] true _ true over (fun _ h=>by cases h) (by kernel_rfl) (fun _ h=>by cases h) scriptTwo_row_tie rfl ⟨rfl,rfl⟩ (by kernel_rfl) rfl
  (fun f fn hf hfn=>by
   obtain rfl:f=8:=(Option.some.inj ((show Tryz.prog.funcNamed "placket/placketlaw14.ScriptTwo" =some 8 by kernel_rfl).symm.trans hf)).symm;obtain rfl:fn=Tryz.f8:=(Option.some.inj (Tryz.func8.symm.trans hfn)).symm;exact⟨by kernel_rfl,fun j t ht=>by
    rw[Tryz.params8]at ht;have hm:t∈[9,9]:=by
     have:=Array.mem_of_getElem? ht;simpa using this
    exact List.all_eq_true.1 (show([9,9]:List TypeId).all (fun t=> !Tryz.prog.wantsStandIn t)=true by kernel_rfl) t hm|>fun h=>by show Tryz.prog.wantsStandIn t=false;simpa using h⟩)
  (by kernel_rfl)
#print axioms proved
end scriptTwo
end Go.Proofs.YtkfddjopbocpkaaGreatDoor
