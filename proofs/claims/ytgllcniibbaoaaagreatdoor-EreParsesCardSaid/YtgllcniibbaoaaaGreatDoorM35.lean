/- Lemmas of this claim. -/
import Derived.Test.YtgllcniibbaoaaaGreatDoorM30
import Derived.Test.YtgllcniibbaoaaaGreatDoorM34
set_option linter.all false
set_option maxRecDepth 100000
set_option maxHeartbeats 24000000
namespace Go.Proofs.YtgllcniibbaoaaaGreatDoor
open Go.Lib (hid)
open Go.RowKit
attribute [-go_sem] storeVar loadVar
attribute [local go_sem] Zx3 Zx4 Zx1 Zx2 Zyb Zx9
theorem Zyu{ere:Bool}{l:List UInt8}{t:Nd}{s:RxS}(h:Zac prg ere l=.inr (t,s)):t.size≤600∧s.marks.length≤250:=by
 have hl:l.length≤250:=by
  by_cases hl:l.length≤250
  ·exact hl
  ·unfold Zac at h;rw[if_pos (by omega)]at h;cases h
 unfold Zac at h;rw[if_neg (by omega)]at h;obtain⟨k1,k2,k3⟩:=chD_kept 12 _ ⟨Nat.zero_le _,Nat.le_refl _,Nat.le_refl _,Nat.le_refl _⟩ _ _ h;have h1:=k1.le;have h2:=k1.mr;have h3:t.size+0≤2*s.at_+2:=k3;exact⟨by omega,by omega⟩
theorem ZAu(l:List UInt8)(ere:Bool)(z:Int)(p:Nat)(w:World)(hl:l.length≤100000)(hR:Zac prg ere l=.inl (z,p)):
 Calls Tryz.prog 10 #[.nilIface,.slice none 0 0,.int .i64 (p:Nat),.int .i64 z,.string ⟨l.toArray⟩,.bool ere] w fun e w'=>e=.returned (.bool true)∧Fr nob w w':=by
 have hP:=Zy1 l ere nob w (fun _ h=>h.elim) hl;rw[hR]at hP;have hz:z≠0:=parseD_err hR;have b:(z !=0)=true:=by simpa using hz
 have HP:=hid hP;have a:=hid (fun W=>Zye [] (.slice none 0 0) (.slice none 0 0) W (Nat.zero_le _) (World.ownsRow_nil _ _ _ _) (MS.nil W));clear hP hz hR;go_enter Tryz.func10,Tryz.ntmps10;go_wp2_with fail;refine HP.out.mono ?_;rintro e w1 ⟨f1,h1⟩;obtain rfl:=h1;have L1:=hid (((LB.nil w).on f1).push zT9 36 _ rfl);clear f1;go_wp2_with(refine L1.out.sto nob 0 rfl rfl _ _ rfl rfl rfl info_dT rfl (one_dT _ _ _ _ _ _ _ _ _ _ _) ?_;intro w2 l2 z1 z2;have L2:=hid l2;clear l2 z1 z2);refine(a.out _).mono ?_;rintro e w3 ⟨rfl,f3⟩;have F3:=hid (L2.out.fr.trans' f3);clear f3;go_wp2;go_ret;exact⟨rfl,F3.out⟩
theorem ZAS(l:List UInt8)(ere:Bool)(t:Nd)(s:RxS)(u mv:Value)(w:World)(hl:l.length≤100000)(hR:Zac prg ere l=.inr (t,s))(hu:RN nob w t u)(hm:OwM w s.marks mv):
 Calls Tryz.prog 10 #[u,mv,.int .i64 0,.int .i64 0,.string ⟨l.toArray⟩,.bool ere] w fun e w'=>e=.returned (.bool true)∧Fr nob w w':=by
 have hP:=Zy1 l ere nob w (fun _ h=>h.elim) hl;rw[hR]at hP;obtain⟨z1,z2⟩:=Zyu hR;have hr:=parseD_right hR;have HP:=hid hP;have HU:=hid hu;have HM:=hid hm;have HR:=hid hr;have HZ:=hid z1;have o:=hid z2;have c:=hid (fun W cs (h1:RN nob W t u) (h2:RT nob W t.rf cs)=>Zz5 t t.rf u cs W (by have:=HZ.out;omega) (by rw[Nd.rf_nd,Nd.norm_size];have:=HZ.out;omega) (Nd.rf_known t) h1 h2);have g:=hid (fun W (h1:RN nob W t u)=>ZuZ t u W (by have:=HZ.out;omega) h1);clear hP hR hu hm hr z1 z2;go_enter Tryz.func10,Tryz.ntmps10;go_wp2_with fail;refine HP.out.mono ?_;rintro e w1 ⟨f1,cs,ma,mc,rfl,h5,h7⟩;have h9:=h5.length;have a:=hid (show(Tryz.prog.info? 36).map (·.size)=some cs.toArray.size by rw[info_dT];simp[h9]);have b:=hid (Zx0 h5.cell1);have i:=hid (show zT9.size=cs.toArray.size by simp[h9]);have L1:=hid (((LB.nil w).on f1).push zT9 36 _ rfl);have fa:Fr nob w1 (w1.alloc (.cells zT9 36)):=(Fr.refl nob w1).alloc _
 have j:=hid ((h5.wide (fun k hk x=>(x.elim id (fun e=>by simp at e;omega)):∀k,k<w1.heap.size→lbB nob [w1.heap.size] k→nob k)).on fa);have d:=hid ((h7.wide (fun k hk x=>(x.elim id (fun e=>by simp at e;omega)):∀k,k<w1.heap.size→lbB nob [w1.heap.size] k→nob k)).on fa);clear f1 fa h5 h7 h9;go_wp2_with(refine L1.out.sto nob 0 rfl rfl _ _ rfl rfl rfl a.out i.out b.out ?_;intro w2 l2 z1 z2;have L2:=hid l2;have m:=hid (j.out.step z2 (by simp));have f:=hid (d.out.step z1);clear l2 z1 z2);refine(Zye s.marks mv _ w2 (by have:=o.out;omega) (ownsRow_fr HM.out L2.out.fr (fun _ _ x=>x)) f.out.at).mono ?_;rintro e w3 ⟨rfl,f3⟩;have L3:=hid (L2.out.on f3);have n:=hid (m.out.on f3);clear f3;go_wp2_with(refine L3.out.ld 0 rfl rfl _ rfl rfl Tryz.underlying36 rfl a.out ?_);refine(c.out w3 cs (HU.out.on L3.out.fr) (RT.keep (Fr.refl nob _) (fun _ _ x=>x.elim) (fun _ _ x=>x.elim) _ _ n.out)).mono ?_
 rintro e w4 ⟨r,rfl,hr,f4⟩;obtain rfl:r=true:=hr.2 (Nd.rf_nd t).symm;have L4:=hid (L3.out.on f4);clear hr f4;go_wp2_with fail;refine(g.out w4 (HU.out.on L4.out.fr)).mono ?_;rintro e w5 ⟨rfl,f5⟩;rw[HR.out];have F5:=hid (L4.out.fr.trans' f5);clear f5;go_wp2;go_ret;exact⟨rfl,F5.out⟩
end Go.Proofs.YtgllcniibbaoaaaGreatDoor
