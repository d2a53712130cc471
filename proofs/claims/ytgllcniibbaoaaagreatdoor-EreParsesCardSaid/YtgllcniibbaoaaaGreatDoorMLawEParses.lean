/-
  EreParses: the tree and the marks of any text, or what is wrong first, and where, are the document's; the tree is right. For every string; the tables of the library lie as start-up lays them (tied).
-/
import Derived.Test.YtgllcniibbaoaaaGreatDoorCards
import Derived.Test.YtgllcniibbaoaaaGreatDoorTie
import Derived.Test.YtgllcniibbaoaaaGreatDoorM35
set_option linter.all false
namespace Go.Proofs.YtgllcniibbaoaaaGreatDoor
open Go.Lib (hid)
open Go.RowKit
section
attribute [-go_sem] storeVar loadVar
attribute [local go_sem] Zx3 Zx4 Zx1 Zx2 Zyb Zx9
set_option maxRecDepth 100000 in
set_option maxHeartbeats 4000000 in
theorem lawEreParses(l:List UInt8)(w:World)(hl:l.length≤maxLen)(hE:Env w):
 Calls Tryz.prog 4 #[.string ⟨l.toArray⟩] w fun e w'=>e=.returned (.bool true)∧Fr nob w w':=by
 unfold maxLen at hl;have HE:=hid hE;clear hE;have HA1:=hid (awake5_any w HE.out);by_cases h400:400<l.length
 ·have h1:(400:Int)<l.length:=by omega
  go_enter Tryz.func4,Tryz.ntmps4;go_wp2_with fail;refine HA1.out.mono ?_;rintro e w1 ⟨rfl,f1⟩;have F1:=hid f1;clear f1;go_wp2_with fail;refine(awake5_any w1 (HE.out.on F1.out)).mono ?_;rintro e w2 ⟨rfl,f2⟩;have F2:=hid (F1.out.trans' f2);clear f2;go_wp2;go_ret;exact⟨rfl,F2.out⟩
 have h1:¬(400:Int)<l.length:=by omega
 have HLA:=hid (show l.length≤400 by omega);clear h400 hl;have hP:=fun w' (f:Fr nob w w')=>Zyt l w' (by have:=HLA.out;omega) (HE.out.on f);have hD:=fun w'=>Zz2 l nob w' (fun _ h=>h.elim) (by have:=HLA.out;omega);obtain⟨R,hR⟩:∃R,Zac prg true l=R:=⟨_,rfl⟩;rw[hR]at hP;simp only[hR]at hD;have HP:=hid hP;have HR:=hid hR;have HD:=hid hD;clear hP hR hD;go_enter Tryz.func4,Tryz.ntmps4;go_wp2_with fail;refine HA1.out.mono ?_;rintro e w1 ⟨rfl,f1⟩;have F1:=hid f1;clear f1;go_wp2_with fail;refine(HP.out w1 F1.out).mono ?_;cases R with
 |inl z=>
  obtain⟨z,p⟩:=z;rintro e w2 ⟨f2,h2⟩;obtain rfl:=h2;have F2:=hid (F1.out.trans' f2);clear f2;have hz:z≠0:=parseD_err HR.out;have hz1:(z !=0)=true:=by simpa using hz
  have HMK:=hid (fun W=>Zye [] (.slice none 0 0) (.slice none 0 0) W (Nat.zero_le _) (World.ownsRow_nil _ _ _ _) (MS.nil W));clear hz;go_wp2_with fail;refine(HD.out _).mono ?_;rintro e w3 ⟨f3,h3⟩;obtain rfl:=h3;have L1:=hid (((LB.nil w).on (F2.out.trans' f3)).push zT9 36 _ rfl);clear f3;go_wp2_with(refine L1.out.sto nob 0 rfl rfl _ _ rfl rfl rfl info_dT rfl (one_dT _ _ _ _ _ _ _ _ _ _ _) ?_;intro w4 l2 z1 z2;have L2:=hid l2;clear l2 z1 z2);refine(HMK.out _).mono ?_;rintro e w5 ⟨rfl,f5⟩;have F5:=hid (L2.out.fr.trans' f5);clear f5;go_wp2;go_ret;exact⟨rfl,F5.out⟩
 |inr y=>
  obtain⟨t,s⟩:=y;rintro e w2 ⟨f2,u,mv,rfl,rn1,ma1⟩;obtain⟨am1,cm1,hm1⟩:=Zb ma1;subst hm1;have F2:=hid (F1.out.trans' f2);clear f2;obtain⟨z1,z2⟩:=Zyu HR.out;have hr:=parseD_right HR.out;have HU:=hid rn1;have HM:=hid ma1;have HRR:=hid hr;have HZ:=hid z1;have HZ2:=hid z2;have HIS:=hid (fun W cs (h1:RN nob W t u) (h2:RT nob W t.rf cs)=>Zz5 t t.rf u cs W (by have:=HZ.out;omega) (by rw[Nd.rf_nd,Nd.norm_size];have:=HZ.out;omega) (Nd.rf_known t) h1 h2);have HRT:=hid (fun W (h1:RN nob W t u)=>ZuZ t u W (by have:=HZ.out;omega) h1);clear hr rn1 ma1 z1 z2;go_wp2_with fail;refine(HD.out _).mono ?_;rintro e w3 ⟨f3,cs,ma,mc,rfl,h5,h7⟩;have h9:=h5.length;have IT9:=hid (show(Tryz.prog.info? 36).map (·.size)=some cs.toArray.size by rw[info_dT];simp[h9]);have H1c:=hid (Zx0 h5.cell1);have HSZ:=hid (show zT9.size=cs.toArray.size by simp[h9]);have L1:=hid (((LB.nil w2).on f3).push zT9 36 _ rfl)
  have fa:Fr nob w3 (w3.alloc (.cells zT9 36)):=(Fr.refl nob w3).alloc _;have HT1:=hid ((h5.wide (fun k hk x=>(x.elim id (fun e=>by simp at e;omega)):∀k,k<w3.heap.size→lbB nob [w3.heap.size] k→nob k)).on fa);have HM1:=hid ((h7.wide (fun k hk x=>(x.elim id (fun e=>by simp at e;omega)):∀k,k<w3.heap.size→lbB nob [w3.heap.size] k→nob k)).on fa);clear f3 fa h5 h7 h9;go_wp2_with(refine L1.out.sto nob 0 rfl rfl _ _ rfl rfl rfl IT9.out HSZ.out H1c.out ?_;intro w4 l2 z1 z2;have L2:=hid l2;have HT2:=hid (HT1.out.step z2 (by simp));have HM2:=hid (HM1.out.step z1);clear l2 z1 z2);refine(Zye s.marks _ _ w4 (by have:=HZ2.out;omega) (ownsRow_fr HM.out L2.out.fr (fun _ _ x=>x)) HM2.out.at).mono ?_;rintro e w5 ⟨rfl,f5⟩;have L3:=hid (L2.out.on f5);have HT3:=hid (HT2.out.on f5);clear f5;go_wp2_with(refine L3.out.ld 0 rfl rfl _ rfl rfl Tryz.underlying36 rfl IT9.out ?_);refine(HIS.out w5 cs (HU.out.on L3.out.fr) (RT.keep (Fr.refl nob _) (fun _ _ x=>x.elim) (fun _ _ x=>x.elim) _ _ HT3.out)).mono ?_
  rintro e w6 ⟨r,rfl,hr,f6⟩;obtain rfl:r=true:=hr.2 (Nd.rf_nd t).symm;have L4:=hid (L3.out.on f6);clear hr f6;go_wp2_with fail;refine(HRT.out w6 (HU.out.on L4.out.fr)).mono ?_;rintro e w7 ⟨rfl,f7⟩;rw[HRR.out];have F7:=hid (F2.out.trans' (L4.out.fr.trans' f7));clear f7;go_wp2;go_ret;exact⟨rfl,F7.out⟩
end
namespace ereParses
open Go.Lib (hid)
open Go.ChangeShapes Go.WideShapes Go.ChangeAt Go.RowKit
open Go.ChangeMaps (open_string shut_string)
theorem readable:∀t∈Tryz.f4.params.toList,Tryz.prog.readableRec t=true∧t<Tryz.prog.types.size:=by
 rw[Tryz.params4];intro t ht;simp only[List.mem_cons,List.not_mem_nil,or_false]at ht;subst ht;exact⟨by kernel_rfl,of_decide_eq_true (by kernel_rfl)⟩
set_option maxRecDepth 100000 in
theorem lifted(os:Os)(started:os.Started)(H:Type)(enc:TypeId×Value→H):
 ReturnsInHanded {} Tryz.checked os 4 .any (fun w args=>(Rows.ereParsesSpec.pre enc Tryz.prog Tryz.f4 [] false w args∧laidMetH Tryz.prog door.list1 w)∧sizedMet enc Tryz.prog Tryz.f4 (OpenSpec.ofChange Rows.ereParsesSpec) false w args)
  (Rows.ereParsesSpec.post enc Tryz.prog Tryz.f4 false true false false):=by
 refine ZfN (C:=Tryz.checked) (X:=fun w _=>laidMetH Tryz.prog door.list1 w) (fun _ _ _ hh h=>h.of_heap hh) door.own started (by kernel_rfl) Tryz.func4
  (ChangeSpec.witness_shaped (enc:=enc) (C:=Tryz.checked) (os:=os) (X:=fun w _=>laidMetH Tryz.prog door.list1 w) false (World.doorLaid Tryz.prog 14 os) #[.string ByteArray.empty] 8 rfl (World.shaped_of_RefB (by kernel_rfl) (by kernel_rfl)) (by kernel_rfl) (by kernel_rfl) (by kernel_rfl) (door.met os _)) ?_
 intro W base args ds gs before hval0 hW _ hL hsh;have hval:∀(j:Nat) t v,Tryz.f4.params[j]? =some t→args[j]? =some v→Value.okWide Tryz.prog W .any base t v:=hval0;have hW':DataW.Whole enc Tryz.prog Tryz.f4.params.toList Rows.ereParsesSpec.vars false W args.toList ds gs before:=hW;obtain⟨p,q,hA0,hV,rfl,hfz,hnd⟩:=hW;have hA:DataW.TrodAll enc Tryz.prog W 0 (fun _=>true) true Tryz.f4.params.toList args.toList ds p:=hA0;rw[Tryz.params4]at hA hval;obtain⟨v0,vs0,d0,ds0,p0,q0,hargs,rfl,rfl,h0,r0⟩:=trodAll_cons hA;obtain⟨rfl,rfl,rfl⟩:=trodAll_nil r0;obtain rfl:args= #[v0]:=by cases args;simp_all
 obtain⟨rfl,rfl⟩:=trodVars_none hV;obtain⟨s0,rfl,_,_,ws0⟩:=open_string Tryz.underlying9 (hval 0 9 v0 rfl rfl) h0;have hs0:s0=⟨s0.data.toList.toArray⟩:=by simp
 refine(show Calls Tryz.prog 4 #[.string s0] W _ from ?_).mono fun e W' h=>h;rw[hs0];refine(lawEreParses s0.data.toList W (by unfold maxLen at ws0;exact ws0) (door.env hL hsh)).mono fun e W' ⟨he,hg⟩=> ?_;subst he;exact⟨_,rfl,ZlP rfl (by kernel_rfl) Tryz.underlying4 door.laidOut readable rfl hW' hg.below⟩
theorem over:Rows.ereParsesRow.holds Tryz.pinned (OpenSpec.ofChange Rows.ereParsesSpec):=
 OpenClaim.holds_of_wide 4 Tryz.f4 rfl rfl rfl rfl rfl rfl rfl ⟨rfl,rfl,rfl,rfl,rfl⟩ rfl rfl rfl rfl rfl (by kernel_rfl) Tryz.func4 (by kernel_rfl)
  (of_decide_eq_true (by kernel_rfl)) (by unfold Func.isWrapper;first|(rw[if_pos (by decide +kernel)];kernel_rfl)|(rw[if_neg (by decide +kernel)];exact⟨rfl,rfl⟩))
  (fun os started H enc _=>lifted os started H enc)
theorem proved:Rows.EreParsesCardSaid:=
 Claim7.holds_tied_plain_at .later [] [.data] true _ true over (fun _ h=>by cases h) (by kernel_rfl) (fun _ h=>by cases h) ereParses_row_tie rfl ⟨rfl,rfl⟩ (by kernel_rfl) rfl
  (fun f fn hf hfn=>by
   obtain rfl:f=4:=(Option.some.inj ((show Tryz.prog.funcNamed "placket/placketlaw05.EreParses" =some 4 by kernel_rfl).symm.trans hf)).symm;obtain rfl:fn=Tryz.f4:=(Option.some.inj (Tryz.func4.symm.trans hfn)).symm;exact⟨by kernel_rfl,fun j t ht=>by
    rw[Tryz.params4]at ht;have hm:t∈[9]:=by
     have:=Array.mem_of_getElem? ht;simpa using this
    exact List.all_eq_true.1 (show([9]:List TypeId).all (fun t=> !Tryz.prog.wantsStandIn t)=true by kernel_rfl) t hm|>fun h=>by show Tryz.prog.wantsStandIn t=false;simpa using h⟩)
  (by kernel_rfl)
#print axioms proved
end ereParses
end Go.Proofs.YtgllcniibbaoaaaGreatDoor
