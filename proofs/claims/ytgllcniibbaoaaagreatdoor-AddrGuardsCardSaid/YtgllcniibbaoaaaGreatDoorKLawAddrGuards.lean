/-
  AddrGuards: the guard at any place of any text, its marks, and the place behind it, or what is wrong, and where, are the document's. For every input; the tables of the library lie as start-up lays them (tied).
-/
import Derived.Test.YtgllcniibbaoaaaGreatDoorCards
import Derived.Test.YtgllcniibbaoaaaGreatDoorTie
import Derived.Test.YtgllcniibbaoaaaGreatDoorK43
set_option linter.all false
namespace Go.Proofs.YtgllcniibbaoaaaGreatDoor
open Go.Lib (hid)
open Go.RowKit
theorem info_pAddrGuards:(Tryz.prog.info? 47).map (·.size)=some 9:=by kernel_rfl
section
attribute [-go_sem] storeVar loadVar
attribute [local go_sem] Zx3 Zx4 Zx1 Zx2 Zyb Zx9
set_option maxRecDepth 100000 in
set_option maxHeartbeats 8000000 in
theorem lawAddrGuards(l:List UInt8)(k:Int)(x:Bool)(w:World)(hl:l.length≤maxLen)(hE:Env w):
 Calls Tryz.prog 5 #[.string ⟨l.toArray⟩,.int .i64 k,.bool x] w fun e w'=>e=.returned (.bool true)∧Fr nob w w':=by
 unfold maxLen at hl;have HE:=hid hE;clear hE;have L0:=hid (LB.nil w);have HA1:=hid (awake12_any _ (HE.out.on L0.out.fr));by_cases h300:300<l.length
 ·have h1:(300:Int)<l.length:=by omega
  go_enter Tryz.func5,Tryz.ntmps5;go_wp2_with fail;refine HA1.out.mono ?_;rintro e w1 ⟨rfl,f1⟩;have F1:=hid (L0.out.fr.trans' f1);clear f1;go_wp2_with fail;refine(awake12_any w1 (HE.out.on F1.out)).mono ?_;rintro e w2 ⟨rfl,f2⟩;have F2:=hid (F1.out.trans' f2);clear f2;go_wp2;go_ret;exact⟨rfl,F2.out⟩
 have h1:¬(300:Int)<l.length:=by omega
 obtain⟨g,z,p,ms,hz1,hz2,hms,hP,hX⟩:=ZBu l k x w (by omega) HE.out;have HP:=hid hP;have HX:=hid hX;have HMS:=hid hms;clear h300 hl hP hX hms;go_enter Tryz.func5,Tryz.ntmps5;go_wp2_with fail;refine HA1.out.mono ?_;rintro e w1 ⟨rfl,f1⟩;have L1:=hid (L0.out.on f1);clear f1 HA1 L0
 skip
 go_wp2_with fail;refine(HP.out w1 L1.out.fr).mono ?_;rintro e w2 ⟨f2,v,mv,rfl,hv,hm⟩;obtain⟨am,cm,rfl⟩:=Zb hm;obtain⟨u1,u2,rfl,hu1,hu2⟩:=hv;have HON:=hid (show(#[.int .i64 g.a.kind,.int .i64 g.a.line,.string ⟨g.a.text.toArray⟩,u1,.int .i64 g.b.kind,.int .i64 g.b.line,.string ⟨g.b.text.toArray⟩,u2,.bool g.no]:Array Value).all (·.oneCell')=true by(have y1:=hu1.one_cell;have y2:=hu2.one_cell;unfold Value.oneCell' at y1 y2;simp[Value.oneCell',y1,y2]));have L2:=hid ((L1.out.on f2).push zG 47 w2.heap.size rfl);have F2:=hid ((Fr.refl nob w2).alloc (.cells zG 47));have HMP:=hid hm;have HU:=hid (And.intro hu1 hu2);clear hm f2 L1 hu1 hu2;go_wp2_with(refine L2.out.sto nob 0 rfl rfl _ _ rfl rfl rfl info_pAddrGuards rfl HON.out ?_;intro w3 l9 z1 z2;have L3:=hid l9;have F3:=hid ((Fr.refl nob w2).trans' F2.out |>.trans z2 (fun i hi e=>by omega));clear l9 z1 z2);refine(HX.out w3).mono ?_;rintro e w4 ⟨f4,v,mx,rfl,hv,hm⟩
 obtain⟨xm,ym,rfl⟩:=hm.shape;obtain⟨c,d,rfl,ht1,ht2,hk1,hk2⟩:=hv;have F4:=hid (F3.out.trans' f4);have L4:=hid (((L3.out.on f4).push ZA4 53 w4.heap.size rfl).push zX3 55 (w4.heap.size+1) (by simp));have HMX:=hid hm;have HT:=hid (And.intro ht1 ht2);have HK:=hid (And.intro hk1 hk2);clear f4 hm L2 L3 F2 F3 ht1 ht2 hk1 hk2;go_wp2_with(first|(refine L4.out.sto nob 1 rfl rfl _ _ rfl rfl rfl info_dG rfl (one_dG g.a.kind g.a.line g.a.text c g.b.kind g.b.line g.b.text d g.no) ?_;intro w5 l9 z1 z2;have L5:=hid l9;have Z5:=hid z2;clear l9 z1 z2)|(refine L5.out.sto nob 2 rfl rfl _ _ rfl rfl rfl info_dX rfl (one_dX xm ms.length ym p z) ?_;intro w6 l9 z1 z2;have L6:=hid l9;have F6:=hid (Fr.trans (Fr.trans (((Fr.refl nob w4).alloc (.cells ZA4 53)).alloc (.cells zX3 55)) Z5.out (fun i hi e=>by omega)) z2 (fun i hi e=>by omega));have c0:=cell_at (j:=0) (l9.get 2 rfl) rfl;have c1:=cell_at (j:=1) (l9.get 2 rfl) rfl;have c2:=cell_at (j:=2) (l9.get 2 rfl) rfl;clear l9 z1 z2))
 have F26:=hid (F4.out.trans' F6.out);refine(Zye ms _ _ w6 HMS.out (ownsRow_fr HMP.out F26.out (fun _ _ x=>x)) (HMX.out.on F6.out)).mono ?_;rintro e w7 ⟨rfl,f7⟩;have L7:=hid (L6.out.on f7);have F67:=hid f7;clear f7 c0 c1 c2 L4 L5 L6;go_wp2_with(first|(refine L7.out.ldg 0 rfl rfl _ rfl rfl Tryz.underlying47 rfl info_pAddrGuards ?_)|(refine L7.out.ldg 1 rfl rfl _ rfl rfl Tryz.underlying53 rfl info_dG ?_));refine(is_guard g _ _ w7 hz1 hz2 ⟨u1,u2,rfl,HU.out.1.on (F26.out.trans' F67.out),HU.out.2.on (F26.out.trans' F67.out)⟩ ⟨c,d,rfl,HT.out.1.on (F6.out.trans' F67.out),HT.out.2.on (F6.out.trans' F67.out),HK.out.1,HK.out.2⟩).mono ?_;rintro e w8 ⟨rfl,f8⟩;have F8:=hid (L7.out.fr.trans' f8);clear f8;go_wp2;go_ret;exact⟨rfl,F8.out⟩
end
namespace addrGuards
open Go.Lib (hid)
open Go.ChangeShapes Go.WideShapes Go.ChangeAt Go.RowKit
open Go.ChangeMaps (open_string shut_string)
theorem readable:∀t∈Tryz.f5.params.toList,Tryz.prog.readableRec t=true∧t<Tryz.prog.types.size:=by
 rw[Tryz.params5];intro t ht;simp only[List.mem_cons,List.not_mem_nil,or_false]at ht;rcases ht with rfl|rfl|rfl
 all_goals exact⟨by kernel_rfl,of_decide_eq_true (by kernel_rfl)⟩
set_option maxRecDepth 100000 in
theorem lifted(os:Os)(started:os.Started)(H:Type)(enc:TypeId×Value→H):
 ReturnsInHanded {} Tryz.checked os 5 .any (fun w args=>(Rows.addrGuardsSpec.pre enc Tryz.prog Tryz.f5 [] false w args∧laidMetH Tryz.prog door.list1 w)∧sizedMet enc Tryz.prog Tryz.f5 (OpenSpec.ofChange Rows.addrGuardsSpec) false w args)
  (Rows.addrGuardsSpec.post enc Tryz.prog Tryz.f5 false true false false):=by
 refine ZfN (C:=Tryz.checked) (X:=fun w _=>laidMetH Tryz.prog door.list1 w) (fun _ _ _ hh h=>h.of_heap hh) door.own started (by kernel_rfl) Tryz.func5
  (ChangeSpec.witness_shaped (enc:=enc) (C:=Tryz.checked) (os:=os) (X:=fun w _=>laidMetH Tryz.prog door.list1 w) false (World.laidAll Tryz.prog os door.list1) #[.string ByteArray.empty,.int .i64 0,.bool false] 8 (World.laidAll_os _ _ _) (World.shaped_of_ZipB (by kernel_rfl) (by kernel_rfl)) (by kernel_rfl) (by kernel_rfl) (by kernel_rfl) (by rw[MakeChecks.laidMetH_plain _ _ _ (by kernel_rfl)];exact laidMet_laidAll _ (by kernel_rfl) (by kernel_rfl))) ?_
 intro W base args ds gs before hval0 hW _ hL hsh;have hval:∀(j:Nat) t v,Tryz.f5.params[j]? =some t→args[j]? =some v→Value.okWide Tryz.prog W .any base t v:=hval0;have hW':DataW.Whole enc Tryz.prog Tryz.f5.params.toList Rows.addrGuardsSpec.vars false W args.toList ds gs before:=hW;obtain⟨p,q,hA0,hV,rfl,hfz,hnd⟩:=hW;have hA:DataW.TrodAll enc Tryz.prog W 0 (fun _=>true) true Tryz.f5.params.toList args.toList ds p:=hA0;rw[Tryz.params5]at hA hval;obtain⟨v0,vs0,d0,ds0,p0,q0,hargs,rfl,rfl,h0,r0⟩:=trodAll_cons hA;obtain⟨v1,vs1,d1,ds1,p1,q1,rfl,rfl,rfl,h1,r1⟩:=trodAll_cons r0;obtain⟨v2,vs2,d2,ds2,p2,q2,rfl,rfl,rfl,h2,r2⟩:=trodAll_cons r1;obtain⟨rfl,rfl,rfl⟩:=trodAll_nil r2;obtain rfl:args= #[v0,v1,v2]:=by cases args;simp_all
 obtain⟨rfl,rfl⟩:=trodVars_none hV;obtain⟨s0,rfl,_,_,ws0⟩:=open_string Tryz.underlying9 (hval 0 9 v0 rfl rfl) h0;obtain⟨x1,rfl,_,_,wx1⟩:=open_int Tryz.underlying3 (hval 1 3 v1 rfl rfl) h1;obtain⟨b2,rfl,_,_⟩:=open_bool Tryz.underlying4 (hval 2 4 v2 rfl rfl) h2;have hs0:s0=⟨s0.data.toList.toArray⟩:=by simp
 refine(show Calls Tryz.prog 5 #[.string s0,.int .i64 x1,.bool b2] W _ from ?_).mono fun e W' h=>h;rw[hs0];refine(lawAddrGuards s0.data.toList x1 b2 W (by unfold maxLen at ws0;exact ws0) (door.env hL hsh)).mono fun e W' ⟨he,hg⟩=> ?_;subst he;exact⟨_,rfl,ZlP rfl (by kernel_rfl) Tryz.underlying4 door.laidOut readable rfl hW' hg.below⟩
theorem over:Rows.addrGuardsRow.holds Tryz.pinned (OpenSpec.ofChange Rows.addrGuardsSpec):=
 OpenClaim.holds_of_wide 5 Tryz.f5 rfl rfl rfl rfl rfl rfl rfl ⟨rfl,rfl,rfl,rfl,rfl⟩ rfl rfl rfl rfl rfl (by kernel_rfl) Tryz.func5 (by kernel_rfl)
  (of_decide_eq_true (by kernel_rfl)) (by unfold Func.isWrapper;first|(rw[if_pos (by decide +kernel)];kernel_rfl)|(rw[if_neg (by decide +kernel)];exact⟨rfl,rfl⟩))
  (fun os started H enc _=>lifted os started H enc)
theorem proved:Rows.AddrGuardsCardSaid:=
 Claim7.holds_tied_plain_at .later [] [.data,.data,.pinned] true _ true over (fun _ h=>by cases h) (by kernel_rfl) (fun _ h=>by cases h) addrGuards_row_tie rfl ⟨rfl,rfl⟩ (by kernel_rfl) rfl
  (fun f fn hf hfn=>by
   obtain rfl:f=5:=(Option.some.inj ((show Tryz.prog.funcNamed "placket/placketlaw12.AddrGuards" =some 5 by kernel_rfl).symm.trans hf)).symm;obtain rfl:fn=Tryz.f5:=(Option.some.inj (Tryz.func5.symm.trans hfn)).symm;exact⟨by kernel_rfl,fun j t ht=>by
    rw[Tryz.params5]at ht;have hm:t∈[9,3,4]:=by
     have:=Array.mem_of_getElem? ht;simpa using this
    exact List.all_eq_true.1 (show([9,3,4]:List TypeId).all (fun t=> !Tryz.prog.wantsStandIn t)=true by kernel_rfl) t hm|>fun h=>by show Tryz.prog.wantsStandIn t=false;simpa using h⟩)
  (by kernel_rfl)
#print axioms proved
end addrGuards
end Go.Proofs.YtgllcniibbaoaaaGreatDoor
