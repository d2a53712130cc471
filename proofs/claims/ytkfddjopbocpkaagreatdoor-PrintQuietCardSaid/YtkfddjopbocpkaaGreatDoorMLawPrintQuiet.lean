/-
  PrintQuiet: a quiet script's text is #n, and that of the same one that isn't; each command's Zp7 with a byte A. For every input; the tables of the library lie as start-up lays them (tied).
-/
import Derived.Test.YtkfddjopbocpkaaGreatDoorCards
import Derived.Test.YtkfddjopbocpkaaGreatDoorTie
import Derived.Test.YtkfddjopbocpkaaGreatDoorM37
set_option linter.unusedVariables false
set_option linter.unusedSimpArgs false
namespace Go.Proofs.YtkfddjopbocpkaaGreatDoor
open Go.RowKit
theorem lawPrintQuiet(s:List UInt8)(x:Bool)(w:World)(hl:s.length≤9223372036854775807)(hE:ZvU w):
 Calls Tryz.prog 11 #[.string ⟨s.toArray⟩,.bool x] w fun e w'=>e=.returned (.bool true)∧Fr nob w w':=by
 by_cases h1:400<s.length
 ·exact Zwq s x w hE.1 hE.2 hl h1
 cases hS:ZdO x s with
 |inl z=>exact Zwr s x w hE.1 hE.2 (by omega) z.1 z.2 hS
 |inr r=>exact Zws s x w hE.1 hE.2 (by omega) r.1 r.2 hS
namespace printQuiet
open Go.ChangeShapes Go.WideShapes Go.ChangeAt Go.RowKit
open Go.ChangeMaps (open_string shut_string)
theorem readable:∀t∈Tryz.f11.params.toList,Tryz.prog.readableRec t=true∧t<Tryz.prog.types.size:=by
 rw[Tryz.params11];intro t ht;simp only[List.mem_cons,List.not_mem_nil,or_false]at ht;rcases ht with rfl|rfl
 all_goals exact⟨by kernel_rfl,of_decide_eq_true (by kernel_rfl)⟩
set_option maxRecDepth 100000 in
theorem lifted(os:Os)(started:os.Started)(H:Type)(enc:TypeId×Value→H):
 ReturnsInHanded {} Tryz.checked os 11 .any (fun w args=>(Rows.printQuietSpec.pre enc Tryz.prog Tryz.f11 [] false w args∧laidMetH Tryz.prog door.list1 w)∧sizedMet enc Tryz.prog Tryz.f11 (OpenSpec.ofChange Rows.printQuietSpec) false w args)
  (Rows.printQuietSpec.post enc Tryz.prog Tryz.f11 false true false false):=by
 refine ZfN (C:=Tryz.checked) (X:=fun w _=>laidMetH Tryz.prog door.list1 w) (fun _ _ _ hh h=>h.of_heap hh) door.own started (by kernel_rfl) Tryz.func11
  (ChangeSpec.witness_shaped (enc:=enc) (C:=Tryz.checked) (os:=os) (X:=fun w _=>laidMetH Tryz.prog door.list1 w) false (World.laidAll Tryz.prog os door.list1) #[.string ByteArray.empty,.bool false] 8 (World.laidAll_os _ _ _) (World.shaped_of_ZipB (by kernel_rfl) (by kernel_rfl)) (by kernel_rfl) (by kernel_rfl) (by kernel_rfl) (by rw[MakeChecks.laidMetH_plain _ _ _ (by kernel_rfl)];exact laidMet_laidAll _ (by kernel_rfl) (by kernel_rfl))) ?_
 intro W base args ds gs before hval0 hW _ hL hsh;have hval:∀(j:Nat) t v,Tryz.f11.params[j]? =some t→args[j]? =some v→Value.okWide Tryz.prog W .any base t v:=hval0;have hW':DataW.Whole enc Tryz.prog Tryz.f11.params.toList Rows.printQuietSpec.vars false W args.toList ds gs before:=hW;obtain⟨p,q,hA0,hV,rfl,hfz,hnd⟩:=hW;have hA:DataW.TrodAll enc Tryz.prog W 0 (fun _=>true) true Tryz.f11.params.toList args.toList ds p:=hA0;rw[Tryz.params11]at hA hval;obtain⟨v0,vs0,d0,ds0,p0,q0,hargs,rfl,rfl,h0,r0⟩:=trodAll_cons hA;obtain⟨v1,vs1,d1,ds1,p1,q1,rfl,rfl,rfl,h1,r1⟩:=trodAll_cons r0;obtain⟨rfl,rfl,rfl⟩:=trodAll_nil r1;obtain rfl:args= #[v0,v1]:=by cases args;simp_all
 obtain⟨rfl,rfl⟩:=trodVars_none hV;obtain⟨s0,rfl,_,_,ws0⟩:=open_string Tryz.underlying9 (hval 0 9 v0 rfl rfl) h0;obtain⟨b1,rfl,_,_⟩:=open_bool Tryz.underlying4 (hval 1 4 v1 rfl rfl) h1;have hs0:s0=⟨s0.data.toList.toArray⟩:=by simp
 refine(show Calls Tryz.prog 11 #[.string s0,.bool b1] W _ from ?_).mono fun e W' h=>h;rw[hs0];refine(lawPrintQuiet s0.data.toList b1 W (by unfold maxLen at ws0;exact ws0) (door.env hL hsh)).mono fun e W' ⟨he,hg⟩=> ?_;subst he;exact⟨_,rfl,ZlP rfl (by kernel_rfl) Tryz.underlying4 door.laidOut readable rfl hW' hg.below⟩
theorem over:Rows.printQuietRow.holds Tryz.pinned (OpenSpec.ofChange Rows.printQuietSpec):=
 OpenClaim.holds_of_wide 11 Tryz.f11 rfl rfl rfl rfl rfl rfl rfl ⟨rfl,rfl,rfl,rfl,rfl⟩ rfl rfl rfl rfl rfl (by kernel_rfl) Tryz.func11 printQuiet_joined
  (of_decide_eq_true (by kernel_rfl)) (by unfold Func.isWrapper;first|(rw[if_pos (by decide +kernel)];kernel_rfl)|(rw[if_neg (by decide +kernel)];exact⟨rfl,rfl⟩))
  (fun os started H enc _=>lifted os started H enc)
theorem proved:Rows.PrintQuietCardSaid:=
 Claim7.holds_tied_plain_at .later [] [.data,.data,.data,.data,.pinned] true _ true over (fun _ h=>by cases h) (by kernel_rfl) (fun _ h=>by cases h) printQuiet_row_tie rfl ⟨rfl,rfl⟩ (by kernel_rfl) rfl
  (fun f fn hf hfn=>by
   obtain rfl:f=11:=(Option.some.inj ((show Tryz.prog.funcNamed "placket/placketlaw15.PrintQuiet" =some 11 by kernel_rfl).symm.trans hf)).symm;obtain rfl:fn=Tryz.f11:=(Option.some.inj (Tryz.func11.symm.trans hfn)).symm;exact⟨by kernel_rfl,fun j t ht=>by
    rw[Tryz.params11]at ht;have hm:t∈[9,4]:=by
     have:=Array.mem_of_getElem? ht;simpa using this
    exact List.all_eq_true.1 (show([9,4]:List TypeId).all (fun t=> !Tryz.prog.wantsStandIn t)=true by kernel_rfl) t hm|>fun h=>by show Tryz.prog.wantsStandIn t=false;simpa using h⟩)
  (by kernel_rfl)
#print axioms proved
end printQuiet
end Go.Proofs.YtkfddjopbocpkaaGreatDoor
