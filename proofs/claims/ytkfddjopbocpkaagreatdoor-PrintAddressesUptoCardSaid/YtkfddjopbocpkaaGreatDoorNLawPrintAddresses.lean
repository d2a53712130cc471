/-
  PrintAddresses: any address as a text is the document's. Where what the law reads is of bulk at most 1048576; the tables of the library lie as start-up lays them (tied).
-/
import Derived.Test.YtkfddjopbocpkaaGreatDoorCards
import Derived.Test.YtkfddjopbocpkaaGreatDoorTie
import Derived.Test.YtkfddjopbocpkaaGreatDoorN45
set_option linter.unusedVariables false
set_option linter.unusedSimpArgs false
namespace Go.Proofs.YtkfddjopbocpkaaGreatDoor
open Go.RowKit
theorem lawPrintAddresses(a:DA)(cs:List Value)(w:World)(hb:a.tree.bulk≤1048576)(h:DAr nob w a cs)(hwf:a.wf)(hE:ZvU w):
 Calls Tryz.prog 9 #[.agg cs.toArray] w fun e w'=>e=.returned (.bool true)∧Fr nob w w':=ZwZ a cs w hb h hwf hE.1 hE.2
namespace printAddresses
open Go.ChangeShapes Go.WideShapes Go.ChangeAt Go.RowKit
theorem readable:∀t∈Tryz.f9.params.toList,Tryz.prog.readableRec t=true∧t<Tryz.prog.types.size:=by
 rw[Tryz.params9];intro t ht;simp only[List.mem_cons,List.not_mem_nil,or_false]at ht;subst ht;exact⟨by kernel_rfl,of_decide_eq_true (by kernel_rfl)⟩
set_option maxRecDepth 100000 in
theorem contract(H:Type)(enc:TypeId×Value→H)(W:World)(base:Nat)(args:Array Value)(ds gs:List (DataW H))(before:List MemPlace)
 (hval:∀(j:Nat) t v,Tryz.f9.params[j]? =some t→args[j]? =some v→Value.okWide Tryz.prog W .any base t v)
 (hW:DataW.Whole enc Tryz.prog Tryz.f9.params.toList Rows.printAddressesSpec.vars false W args.toList ds gs before) (hk:Rows.uptoSmall H (ds++gs)=true) (hL:laidMetH Tryz.prog door.list1 W) (hsh:W.ShapedOpen Tryz.prog):
 Calls Tryz.prog 9 args W fun e W'=>∃v,e=.returned v∧Rows.printAddressesSpec.post enc Tryz.prog Tryz.f9 false true false false W args v W':=by
 have hW':=hW;obtain⟨p,q,hA0,hV,rfl,hfz,hnd⟩:=hW;have hA:DataW.TrodAll enc Tryz.prog W 0 (fun _=>true) true Tryz.f9.params.toList args.toList ds p:=hA0;rw[Tryz.params9]at hA hval;obtain⟨v0,vs0,d0,ds0,p0,q0,hargs,rfl,rfl,h0,r0⟩:=trodAll_cons hA;obtain⟨rfl,rfl,rfl⟩:=trodAll_nil r0;obtain rfl:args= #[v0]:=by cases args;simp_all
 obtain⟨rfl,rfl⟩:=trodVars_none hV;have hb:=of_decide_eq_true hk;simp only[List.append_nil,Rows.uptoBulkAll,Nat.add_zero]at hb;obtain⟨t0,c0,rfl,e0,w0,b0⟩:=ZxK (hval 0 67 v0 rfl rfl) h0;refine(lawPrintAddresses t0 c0 W (by omega) e0 w0 (door.env hL hsh)).mono fun e W' ⟨he,hg⟩=> ?_;subst he;exact⟨_,rfl,ZlP rfl (by kernel_rfl) Tryz.underlying4 door.laidOut readable rfl hW' hg.below⟩
set_option maxRecDepth 100000 in
theorem lifted(os:Os)(started:os.Started)(H:Type)(enc:TypeId×Value→H)(F:Stop.Interp):
 ReturnsInHanded {} Tryz.checked os 9 .any (fun w args=>((Rows.OpenSpec.upto Rows.printAddressesSpec).pre enc Tryz.prog Tryz.f9 [] false w args∧laidMetH Tryz.prog door.list1 w)∧sizedMet enc Tryz.prog Tryz.f9 (Rows.OpenSpec.upto Rows.printAddressesSpec) false w args)
  (((Rows.OpenSpec.upto Rows.printAddressesSpec).at F).post enc Tryz.prog Tryz.f9 false true false false):=by
 refine ZwJ (C:=Tryz.checked) (s:=Rows.OpenSpec.upto Rows.printAddressesSpec) (k:=Rows.uptoSmall) rfl (X:=fun w _=>laidMetH Tryz.prog door.list1 w) (fun _ _ _ hh h=>h.of_heap hh) door.own started (by kernel_rfl) Tryz.func9
  (witnessU (enc:=enc) (C:=Tryz.checked) (os:=os) (s:=Rows.OpenSpec.upto Rows.printAddressesSpec) (k:=Rows.uptoSmall) rfl (X:=fun w _=>laidMetH Tryz.prog door.list1 w) false (World.laidAll Tryz.prog os door.list1) #[.agg #[.int .i64 0,.int .i64 0,.string ByteArray.empty,.int .i64 0,.int .u64 0,.int .u64 0,.int .u64 0,.int .u64 0,.slice none 0 0,.int .i64 0,.int .i64 0,.int .i64 0]] 8 (World.laidAll_os _ _ _) (World.shaped_of_ZipB (by kernel_rfl) (by kernel_rfl)) (by kernel_rfl)
   (x:=([.agg [.lit (.int .i64 0),.lit (.int .i64 0),.lit (.string []),.agg [.lit (.int .i64 0),.agg [.lit (.int .u64 0),.lit (.int .u64 0),.lit (.int .u64 0),.lit (.int .u64 0)],.nil,.lit (.int .i64 0),.lit (.int .i64 0),.lit (.int .i64 0)]]],[],[])) (by kernel_rfl) rfl (by kernel_rfl) (by kernel_rfl) (by rw[MakeChecks.laidMetH_plain _ _ _ (by kernel_rfl)];exact laidMet_laidAll _ (by kernel_rfl) (by kernel_rfl))) ?_
 intro W base args ds gs before hval hW hk hL hsh;exact contract H enc W base args ds gs before hval hW hk hL hsh
theorem over:Rows.printAddressesUptoRow.holds Tryz.pinned (Rows.OpenSpec.upto Rows.printAddressesSpec):=
 OpenClaim.holds_of_cond 9 Tryz.f9 rfl rfl rfl rfl rfl rfl rfl ⟨rfl,rfl,rfl,rfl,rfl⟩ rfl rfl rfl rfl rfl (by kernel_rfl) Tryz.func9 printAddresses_joined
  (of_decide_eq_true (by kernel_rfl)) (by unfold Func.isWrapper;first|(rw[if_pos (by decide +kernel)];kernel_rfl)|(rw[if_neg (by decide +kernel)];exact⟨rfl,rfl⟩))
  (fun os started H enc _ F=>lifted os started H enc F)
theorem proved:Rows.PrintAddressesUptoCardSaid:=
 Claim7.holds_tied_plain_at .later [] [.data,.data,.data,.data,.pinned] true _ true over (fun _ h=>by cases h) (by kernel_rfl) (fun _ h=>by cases h) printAddressesUpto_row_tie rfl ⟨rfl,rfl⟩ (by kernel_rfl) rfl
  (fun f fn hf hfn=>by
   obtain rfl:f=9:=(Option.some.inj ((show Tryz.prog.funcNamed "placket/placketlaw15.PrintAddresses" =some 9 by kernel_rfl).symm.trans hf)).symm;obtain rfl:fn=Tryz.f9:=(Option.some.inj (Tryz.func9.symm.trans hfn)).symm;exact⟨by kernel_rfl,fun j t ht=>by
    rw[Tryz.params9]at ht;have hm:t∈[67]:=by
     have:=Array.mem_of_getElem? ht;simpa using this
    exact List.all_eq_true.1 (show([67]:List TypeId).all (fun t=> !Tryz.prog.wantsStandIn t)=true by kernel_rfl) t hm|>fun h=>by show Tryz.prog.wantsStandIn t=false;simpa using h⟩)
  (by kernel_rfl)
#print axioms proved
end printAddresses
end Go.Proofs.YtkfddjopbocpkaaGreatDoor
