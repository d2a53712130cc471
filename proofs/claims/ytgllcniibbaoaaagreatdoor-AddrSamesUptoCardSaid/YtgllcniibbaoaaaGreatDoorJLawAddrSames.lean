/-
  AddrSames: whether any two guards, and their addresses, are the same is the document's; texts of regexes don't count. Where what the law reads is of bulk at most 1048576; the tables of the library lie as start-up lays them (tied).
-/
import Derived.Test.YtgllcniibbaoaaaGreatDoorCards
import Derived.Test.YtgllcniibbaoaaaGreatDoorTie
import Derived.Test.YtgllcniibbaoaaaGreatDoorJ21
set_option linter.all false
namespace Go.Proofs.YtgllcniibbaoaaaGreatDoor
open Go.RowKit
theorem lawAddrSames(g h:DG)(cs ds:List Value)(w:World)(hb1:g.a.tree.bulk+g.b.tree.bulk≤1048576)(hb2:h.a.tree.bulk+h.b.tree.bulk≤1048576)(e0:DGr nob w g cs)(e1:DGr nob w h ds)(wf0:g.a.wf∧g.b.wf)(wf1:h.a.wf∧h.b.wf)(hE:Env w):
 Calls Tryz.prog 7 #[.agg cs.toArray,.agg ds.toArray] w fun e w'=>e=.returned (.bool true)∧Fr nob w w':=ZFH g h cs ds w hb1 hb2 e0 e1 wf0 wf1 hE
namespace addrSames
open Go.ChangeShapes Go.WideShapes Go.ChangeAt Go.RowKit
theorem readable:∀t∈Tryz.f7.params.toList,Tryz.prog.readableRec t=true∧t<Tryz.prog.types.size:=by
 rw[Tryz.params7];intro t ht;simp only[List.mem_cons,List.not_mem_nil,or_false]at ht;rcases ht with rfl|rfl
 all_goals exact⟨by kernel_rfl,of_decide_eq_true (by kernel_rfl)⟩
set_option maxRecDepth 100000 in
theorem contract(H:Type)(enc:TypeId×Value→H)(W:World)(base:Nat)(args:Array Value)(ds gs:List (DataW H))(before:List MemPlace)
 (hval:∀(j:Nat) t v,Tryz.f7.params[j]? =some t→args[j]? =some v→Value.okWide Tryz.prog W .any base t v)
 (hW:DataW.Whole enc Tryz.prog Tryz.f7.params.toList Rows.addrSamesSpec.vars false W args.toList ds gs before) (hk:Rows.uptoSmall H (ds++gs)=true) (hL:laidMetH Tryz.prog door.list1 W) (hsh:W.ShapedOpen Tryz.prog):
 Calls Tryz.prog 7 args W fun e W'=>∃v,e=.returned v∧Rows.addrSamesSpec.post enc Tryz.prog Tryz.f7 false true false false W args v W':=by
 have hW':=hW;obtain⟨p,q,hA0,hV,rfl,hfz,hnd⟩:=hW;have hA:DataW.TrodAll enc Tryz.prog W 0 (fun _=>true) true Tryz.f7.params.toList args.toList ds p:=hA0;rw[Tryz.params7]at hA hval;obtain⟨v0,vs0,d0,ds0,p0,q0,hargs,rfl,rfl,h0,r0⟩:=trodAll_cons hA;obtain⟨v1,vs1,d1,ds1,p1,q1,rfl,rfl,rfl,h1,r1⟩:=trodAll_cons r0;obtain⟨rfl,rfl,rfl⟩:=trodAll_nil r1;obtain rfl:args= #[v0,v1]:=by cases args;simp_all
 obtain⟨rfl,rfl⟩:=trodVars_none hV;have hb:=of_decide_eq_true hk;simp only[List.append_nil,Rows.uptoBulkAll,Nat.add_zero]at hb;obtain⟨t0,c0,rfl,e0,w0,y0,b0⟩:=ZFM (hval 0 53 v0 rfl rfl) h0;obtain⟨t1,c1,rfl,e1,w1,y1,b1⟩:=ZFM (hval 1 53 v1 rfl rfl) h1;refine(lawAddrSames t0 t1 c0 c1 W (by omega) (by omega) e0 e1 ⟨w0,y0⟩ ⟨w1,y1⟩ (door.env hL hsh)).mono fun e W' ⟨he,hg⟩=> ?_;subst he;exact⟨_,rfl,ZlP rfl (by kernel_rfl) Tryz.underlying4 door.laidOut readable rfl hW' hg.below⟩
set_option maxRecDepth 100000 in
theorem lifted(os:Os)(started:os.Started)(H:Type)(enc:TypeId×Value→H)(F:Stop.Interp):
 ReturnsInHanded {} Tryz.checked os 7 .any (fun w args=>((Rows.OpenSpec.upto Rows.addrSamesSpec).pre enc Tryz.prog Tryz.f7 [] false w args∧laidMetH Tryz.prog door.list1 w)∧sizedMet enc Tryz.prog Tryz.f7 (Rows.OpenSpec.upto Rows.addrSamesSpec) false w args)
  (((Rows.OpenSpec.upto Rows.addrSamesSpec).at F).post enc Tryz.prog Tryz.f7 false true false false):=by
 refine ZwJ (C:=Tryz.checked) (s:=Rows.OpenSpec.upto Rows.addrSamesSpec) (k:=Rows.uptoSmall) rfl (X:=fun w _=>laidMetH Tryz.prog door.list1 w) (fun _ _ _ hh h=>h.of_heap hh) door.own started (by kernel_rfl) Tryz.func7
  (witnessU (enc:=enc) (C:=Tryz.checked) (os:=os) (s:=Rows.OpenSpec.upto Rows.addrSamesSpec) (k:=Rows.uptoSmall) rfl (X:=fun w _=>laidMetH Tryz.prog door.list1 w) false (World.laidAll Tryz.prog os door.list1) #[.agg #[.int .i64 0,.int .i64 0,.string ByteArray.empty,.int .i64 0,.int .u64 0,.int .u64 0,.int .u64 0,.int .u64 0,.slice none 0 0,.int .i64 0,.int .i64 0,.int .i64 0,.int .i64 0,.int .i64 0,.string ByteArray.empty,.int .i64 0,.int .u64 0,.int .u64 0,.int .u64 0,.int .u64 0,.slice none 0 0,.int .i64 0,.int .i64 0,.int .i64 0,.bool false],.agg #[.int .i64 0,.int .i64 0,.string ByteArray.empty,.int .i64 0,.int .u64 0,.int .u64 0,.int .u64 0,.int .u64 0,.slice none 0 0,.int .i64 0,.int .i64 0,.int .i64 0,.int .i64 0,.int .i64 0,.string ByteArray.empty,.int .i64 0,.int .u64 0,.int .u64 0,.int .u64 0,.int .u64 0,.slice none 0 0,.int .i64 0,.int .i64 0,.int .i64 0,.bool false]] 8 (World.laidAll_os _ _ _) (World.shaped_of_ZipB (by kernel_rfl) (by kernel_rfl)) (by kernel_rfl)
   (x:=([.agg [.agg [.lit (.int .i64 0),.lit (.int .i64 0),.lit (.string []),.agg [.lit (.int .i64 0),.agg [.lit (.int .u64 0),.lit (.int .u64 0),.lit (.int .u64 0),.lit (.int .u64 0)],.nil,.lit (.int .i64 0),.lit (.int .i64 0),.lit (.int .i64 0)]],.agg [.lit (.int .i64 0),.lit (.int .i64 0),.lit (.string []),.agg [.lit (.int .i64 0),.agg [.lit (.int .u64 0),.lit (.int .u64 0),.lit (.int .u64 0),.lit (.int .u64 0)],.nil,.lit (.int .i64 0),.lit (.int .i64 0),.lit (.int .i64 0)]],.lit (.bool false)],.agg [.agg [.lit (.int .i64 0),.lit (.int .i64 0),.lit (.string []),.agg [.lit (.int .i64 0),.agg [.lit (.int .u64 0),.lit (.int .u64 0),.lit (.int .u64 0),.lit (.int .u64 0)],.nil,.lit (.int .i64 0),.lit (.int .i64 0),.lit (.int .i64 0)]],.agg [.lit (.int .i64 0),.lit (.int .i64 0),.lit (.string []),.agg [.lit (.int .i64 0),.agg [.lit (.int .u64 0),.lit (.int .u64 0),.lit (.int .u64 0),.lit (.int .u64 0)],.nil,.lit (.int .i64 0),.lit (.int .i64 0),.lit (.int .i64 0)]],.lit (.bool false)]],[],[])) (by kernel_rfl) rfl (by kernel_rfl) (by kernel_rfl) (by rw[MakeChecks.laidMetH_plain _ _ _ (by kernel_rfl)];exact laidMet_laidAll _ (by kernel_rfl) (by kernel_rfl))) ?_
 intro W base args ds gs before hval hW hk hL hsh;exact contract H enc W base args ds gs before hval hW hk hL hsh
theorem over:Rows.addrSamesUptoRow.holds Tryz.pinned (Rows.OpenSpec.upto Rows.addrSamesSpec):=
 OpenClaim.holds_of_cond 7 Tryz.f7 rfl rfl rfl rfl rfl rfl rfl ⟨rfl,rfl,rfl,rfl,rfl⟩ rfl rfl rfl rfl rfl (by kernel_rfl) Tryz.func7 addrSames_joined
  (of_decide_eq_true (by kernel_rfl)) (by unfold Func.isWrapper;first|(rw[if_pos (by decide +kernel)];kernel_rfl)|(rw[if_neg (by decide +kernel)];exact⟨rfl,rfl⟩))
  (fun os started H enc _ F=>lifted os started H enc F)
theorem proved:Rows.AddrSamesUptoCardSaid:=
 Claim7.holds_tied_plain_at .later [] [.data,.data,.pinned] true _ true over (fun _ h=>by cases h) (by kernel_rfl) (fun _ h=>by cases h) addrSamesUpto_row_tie rfl ⟨rfl,rfl⟩ (by kernel_rfl) rfl
  (fun f fn hf hfn=>by
   obtain rfl:f=7:=(Option.some.inj ((show Tryz.prog.funcNamed "placket/placketlaw12.AddrSames" =some 7 by kernel_rfl).symm.trans hf)).symm;obtain rfl:fn=Tryz.f7:=(Option.some.inj (Tryz.func7.symm.trans hfn)).symm;exact⟨by kernel_rfl,fun j t ht=>by
    rw[Tryz.params7]at ht;have hm:t∈[53,53]:=by
     have:=Array.mem_of_getElem? ht;simpa using this
    exact List.all_eq_true.1 (show([53,53]:List TypeId).all (fun t=> !Tryz.prog.wantsStandIn t)=true by kernel_rfl) t hm|>fun h=>by show Tryz.prog.wantsStandIn t=false;simpa using h⟩)
  (by kernel_rfl)
#print axioms proved
end addrSames
end Go.Proofs.YtgllcniibbaoaaaGreatDoor
