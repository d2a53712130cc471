/-
  BreParses: the tree and the marks of any text, or what is wrong first, and where, are the document's; the tree is right. For every string; the tables of the library lie as start-up lays them (tied).
-/
import Derived.Test.YtgllcniibbaoaaaGreatDoorCards
import Derived.Test.YtgllcniibbaoaaaGreatDoorTie
import Derived.Test.YtgllcniibbaoaaaGreatDoorM35
set_option linter.all false
namespace Go.Proofs.YtgllcniibbaoaaaGreatDoor
open Go.Lib (hid)
open Go.RowKit
set_option maxRecDepth 100000 in
set_option maxHeartbeats 4000000 in
theorem lawBreParses(l:List UInt8)(w:World)(hl:l.length≤maxLen)(hE:Env w):
 Calls Tryz.prog 3 #[.string ⟨l.toArray⟩] w fun e w'=>e=.returned (.bool true)∧Fr nob w w':=by
 unfold maxLen at hl;have HE:=hid hE;clear hE;have HA1:=hid (awake4_any w HE.out);by_cases h400:400<l.length
 ·have h1:(400:Int)<l.length:=by omega
  go_enter Tryz.func3,Tryz.ntmps3;go_wp2_with fail;refine HA1.out.mono ?_;rintro e w1 ⟨rfl,f1⟩;have F1:=hid f1;clear f1;go_wp2_with fail;refine(awake4_any w1 (HE.out.on F1.out)).mono ?_;rintro e w2 ⟨rfl,f2⟩;have F2:=hid (F1.out.trans' f2);clear f2;go_wp2;go_ret;exact⟨rfl,F2.out⟩
 have h1:¬(400:Int)<l.length:=by omega
 have HLA:=hid (show l.length≤400 by omega);clear h400 hl;have hP:=fun w' (f:Fr nob w w')=>Zyq l w' (by have:=HLA.out;omega) (HE.out.on f);obtain⟨R,hR⟩:∃R,Zac prg false l=R:=⟨_,rfl⟩;rw[←ZfM,hR]at hP;have HP:=hid hP;have HR:=hid hR;clear hP hR;go_enter Tryz.func3,Tryz.ntmps3;go_wp2_with fail;refine HA1.out.mono ?_;rintro e w1 ⟨rfl,f1⟩;have F1:=hid f1;clear f1;go_wp2_with fail;refine(HP.out w1 F1.out).mono ?_;cases R with
 |inl z=>
  obtain⟨z,p⟩:=z;rintro e w2 ⟨f2,h2⟩;obtain rfl:=h2;have F2:=hid (F1.out.trans' f2);clear f2;have HI:=hid (fun W=>ZAu l false z p W (by have:=HLA.out;omega) HR.out);go_wp2_with fail;refine(HI.out _).mono ?_;rintro e w3 ⟨rfl,f3⟩;have F3:=hid (F2.out.trans' f3);clear f3;go_wp2;go_ret;exact⟨rfl,F3.out⟩
 |inr y=>
  obtain⟨t,s⟩:=y;rintro e w2 ⟨f2,i1,y1,mv1,rfl,rn1,ma1⟩;obtain⟨am1,cm1,hm1⟩:=Zb ma1;subst hm1;have F2:=hid (F1.out.trans' f2);clear f2;have HI:=hid (ZAS l false t s _ _ w2 (by have:=HLA.out;omega) HR.out rn1 ma1);clear rn1 ma1;go_wp2_with fail;refine HI.out.mono ?_;rintro e w3 ⟨rfl,f3⟩;have F3:=hid (F2.out.trans' f3);clear f3;go_wp2;go_ret;exact⟨rfl,F3.out⟩
namespace breParses
open Go.Lib (hid)
open Go.ChangeShapes Go.WideShapes Go.ChangeAt Go.RowKit
open Go.ChangeMaps (open_string shut_string)
theorem readable:∀t∈Tryz.f3.params.toList,Tryz.prog.readableRec t=true∧t<Tryz.prog.types.size:=by
 rw[Tryz.params3];intro t ht;simp only[List.mem_cons,List.not_mem_nil,or_false]at ht;subst ht;exact⟨by kernel_rfl,of_decide_eq_true (by kernel_rfl)⟩
set_option maxRecDepth 100000 in
theorem lifted(os:Os)(started:os.Started)(H:Type)(enc:TypeId×Value→H):
 ReturnsInHanded {} Tryz.checked os 3 .any (fun w args=>(Rows.breParsesSpec.pre enc Tryz.prog Tryz.f3 [] false w args∧laidMetH Tryz.prog door.list1 w)∧sizedMet enc Tryz.prog Tryz.f3 (OpenSpec.ofChange Rows.breParsesSpec) false w args)
  (Rows.breParsesSpec.post enc Tryz.prog Tryz.f3 false true false false):=by
 refine ZfN (C:=Tryz.checked) (X:=fun w _=>laidMetH Tryz.prog door.list1 w) (fun _ _ _ hh h=>h.of_heap hh) door.own started (by kernel_rfl) Tryz.func3
  (ChangeSpec.witness_shaped (enc:=enc) (C:=Tryz.checked) (os:=os) (X:=fun w _=>laidMetH Tryz.prog door.list1 w) false (World.doorLaid Tryz.prog 14 os) #[.string ByteArray.empty] 8 rfl (World.shaped_of_RefB (by kernel_rfl) (by kernel_rfl)) (by kernel_rfl) (by kernel_rfl) (by kernel_rfl) (door.met os _)) ?_
 intro W base args ds gs before hval0 hW _ hL hsh;have hval:∀(j:Nat) t v,Tryz.f3.params[j]? =some t→args[j]? =some v→Value.okWide Tryz.prog W .any base t v:=hval0;have hW':DataW.Whole enc Tryz.prog Tryz.f3.params.toList Rows.breParsesSpec.vars false W args.toList ds gs before:=hW;obtain⟨p,q,hA0,hV,rfl,hfz,hnd⟩:=hW;have hA:DataW.TrodAll enc Tryz.prog W 0 (fun _=>true) true Tryz.f3.params.toList args.toList ds p:=hA0;rw[Tryz.params3]at hA hval;obtain⟨v0,vs0,d0,ds0,p0,q0,hargs,rfl,rfl,h0,r0⟩:=trodAll_cons hA;obtain⟨rfl,rfl,rfl⟩:=trodAll_nil r0;obtain rfl:args= #[v0]:=by cases args;simp_all
 obtain⟨rfl,rfl⟩:=trodVars_none hV;obtain⟨s0,rfl,_,_,ws0⟩:=open_string Tryz.underlying9 (hval 0 9 v0 rfl rfl) h0;have hs0:s0=⟨s0.data.toList.toArray⟩:=by simp
 refine(show Calls Tryz.prog 3 #[.string s0] W _ from ?_).mono fun e W' h=>h;rw[hs0];refine(lawBreParses s0.data.toList W (by unfold maxLen at ws0;exact ws0) (door.env hL hsh)).mono fun e W' ⟨he,hg⟩=> ?_;subst he;exact⟨_,rfl,ZlP rfl (by kernel_rfl) Tryz.underlying4 door.laidOut readable rfl hW' hg.below⟩
theorem over:Rows.breParsesRow.holds Tryz.pinned (OpenSpec.ofChange Rows.breParsesSpec):=
 OpenClaim.holds_of_wide 3 Tryz.f3 rfl rfl rfl rfl rfl rfl rfl ⟨rfl,rfl,rfl,rfl,rfl⟩ rfl rfl rfl rfl rfl (by kernel_rfl) Tryz.func3 (by kernel_rfl)
  (of_decide_eq_true (by kernel_rfl)) (by unfold Func.isWrapper;first|(rw[if_pos (by decide +kernel)];kernel_rfl)|(rw[if_neg (by decide +kernel)];exact⟨rfl,rfl⟩))
  (fun os started H enc _=>lifted os started H enc)
theorem proved:Rows.BreParsesCardSaid:=
 Claim7.holds_tied_plain_at .later [] [.data] true _ true over (fun _ h=>by cases h) (by kernel_rfl) (fun _ h=>by cases h) breParses_row_tie rfl ⟨rfl,rfl⟩ (by kernel_rfl) rfl
  (fun f fn hf hfn=>by
   obtain rfl:f=3:=(Option.some.inj ((show Tryz.prog.funcNamed "placket/placketlaw04.BreParses" =some 3 by kernel_rfl).symm.trans hf)).symm;obtain rfl:fn=Tryz.f3:=(Option.some.inj (Tryz.func3.symm.trans hfn)).symm;exact⟨by kernel_rfl,fun j t ht=>by
    rw[Tryz.params3]at ht;have hm:t∈[9]:=by
     have:=Array.mem_of_getElem? ht;simpa using this
    exact List.all_eq_true.1 (show([9]:List TypeId).all (fun t=> !Tryz.prog.wantsStandIn t)=true by kernel_rfl) t hm|>fun h=>by show Tryz.prog.wantsStandIn t=false;simpa using h⟩)
  (by kernel_rfl)
#print axioms proved
end breParses
end Go.Proofs.YtgllcniibbaoaaaGreatDoor
