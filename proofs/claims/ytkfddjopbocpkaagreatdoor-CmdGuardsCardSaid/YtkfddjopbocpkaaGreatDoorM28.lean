/-
  Merged texts of this claim: CmdG.
-/
import Derived.Test.YtkfddjopbocpkaaGreatDoorM27
set_option linter.unusedVariables false
set_option linter.unusedSimpArgs false
set_option maxRecDepth 100000
set_option maxHeartbeats 4000000
namespace Go.Proofs.YtkfddjopbocpkaaGreatDoor
open Go.Lib (hid)
open Go.RowKit
abbrev Zcx(s:SV)(u pv:Value):Array Value:= #[.string ⟨s.text.toArray⟩,u,pv,.int .i64 s.nth,.bool s.all,.bool s.print,.string ⟨s.file.toArray⟩]
theorem ZE{w:World}{b:Nat}{v0 v1 v2 v3 v4 v5 v6:Value}{T:TypeId}(h:w.heap[b]? =some (.cells #[v0,v1,v2,v3,v4,v5,v6] T (0,0))):∀w',Fr nob w w'→
 (w'.cell? ⟨b,0,none⟩=some v0∧w'.cell? ⟨b,1,none⟩=some v1∧w'.cell? ⟨b,2,none⟩=some v2∧w'.cell? ⟨b,3,none⟩=some v3∧w'.cell? ⟨b,4,none⟩=some v4∧w'.cell? ⟨b,5,none⟩=some v5∧w'.cell? ⟨b,6,none⟩=some v6)∧
 (w'.frozen? ⟨b,0,none⟩=false∧w'.frozen? ⟨b,1,none⟩=false∧w'.frozen? ⟨b,2,none⟩=false∧w'.frozen? ⟨b,3,none⟩=false∧w'.frozen? ⟨b,4,none⟩=false∧w'.frozen? ⟨b,5,none⟩=false∧w'.frozen? ⟨b,6,none⟩=false):=fun _ f=>by
 have h':=f.heap h (fun x=>x);exact⟨⟨cell_at h' rfl,cell_at h' rfl,cell_at h' rfl,cell_at h' rfl,cell_at h' rfl,cell_at h' rfl,cell_at h' rfl⟩,unfrozen_at h' _,unfrozen_at h' _,unfrozen_at h' _,unfrozen_at h' _,unfrozen_at h' _,unfrozen_at h' _,unfrozen_at h' _⟩
def Zeb(b g:Nat)(l:List UInt8)(x:Bool)(S:Nat→Prop)(u pv:Value)(w:World)(sub:SV)(s:AdS)(w':World):Prop:=
 w'.heap[g]? =some (.cells (Zcx sub u pv) 33 (0,0))∧CRd b l x s S w'∧Stp (GS S g) w (GS S g) w'
section
variable {b g:Nat} {l:List UInt8} {x:Bool} {S:Nat→Prop} {s:AdS} {w w':World}
theorem CRd.setg(h:CRd b l x s S w)(hg:¬S g)(j:Nat)(v:Value):CRd b l x s S (w.setCell ⟨g,j,none⟩ v):=by
 obtain⟨mv,h⟩:=h;exact⟨mv,h.keep (X:=fun k=>k=g) ((Fr.refl (fun k=>k=g) w).setCell (p:=⟨g,j,none⟩) (fun _=>rfl) v) (fun e=>hg (e▸h.me)) (fun k hk e=>hg (e▸(h.nm k hk).2))⟩
theorem Stp.setg(j:Nat)(v:Value):Stp (GS S g) w (GS S g) (w.setCell ⟨g,j,none⟩ v):=
 ⟨(Fr.refl (GS S g) w).setCell (p:=⟨g,j,none⟩) (fun _=>.inr rfl) v,fun _ _ x=>x,fun hl k hk=>by have:=hl k hk;simpa[World.setCell]using this⟩
end
section
variable (b g:Nat) (l:List UInt8) (x:Bool) (S:Nat→Prop) (u pv:Value)
theorem Zi9(sub:SV)(s:AdS)(w:World)(hl:l.length≤99000)(ha:s.at_≤l.length)(hS:∀k,S k→k<w.heap.size)(hgS:¬S g)(hg:w.heap[g]? =some (.cells (Zcx sub u pv) 33 (0,0)))(h:CRd b l x s S w)(c1:ZI l s [103]=true)(hf:sub.all=true):
 Calls Tryz.prog 123 #[.pointer (some ⟨b,0,none⟩),.pointer (some ⟨g,0,none⟩)] w fun r w'=>r=.returned (.bool (((failC (s.to (s.at_+1)) 15 s.at_)).e==0))∧Zeb b g l x S u pv w {sub with all:=true} (failC (s.to (s.at_+1)) 15 s.at_) w':=by
 have H:=hid h;have HG:=hid hg;have HX:=hid (fun t w' (f:Fr nob w w')=>Zax b l x s S t w' (by omega) (h.on f));obtain⟨mv,hm⟩:=h;have rr:=Zd hm.blk;have rg:=ZE hg;have hlt:=lt_heap hg;have hgb:g≠b:=fun e=>hgS (by rw[e];exact hm.me);obtain⟨p0,ms,e0⟩:=s;obtain⟨tx,tr,pt,nth,al,pr,fi⟩:=sub;simp only at ha rr rg;have HM:=hid hm;clear hm hg;simp only at hf;subst hf;simp only[AdS.to];go_enter Tryz.func123,Tryz.ntmps123
 go_wp2_with fail
 refine(HX.out [103] _ (Fr.refl _ _)).mono ?_;rintro z w1 ⟨rfl,f1'⟩;have f1:=f1';clear f1';rw[c1];have g1:=f1.heap HG.out (fun x=>x);have g2:(w1.setCell ⟨g,4,none⟩ (.bool true)).heap[g]? =some (.cells #[.string ⟨tx.toArray⟩,u,pv,.int .i64 nth,.bool true,.bool pr,.string ⟨fi.toArray⟩] 33 (0,0)):=Za g1 4 _;have m1:=(HM.out.on f1);have m2:=m1.keep (X:=fun k=>k=g) ((Fr.refl (fun k=>k=g) w1).setCell (p:=⟨g,4,none⟩) (fun _=>rfl) (.bool true)) (fun e=>hgb e.symm) (fun k hk e=>hgS (e▸(m1.nm k hk).2));have m3:=m2.turned 1 (.int .i64 ((p0:Int)+1)) ⟨p0+1,ms,e0⟩ (by simp) rfl;have g3:=Zc (p:=⟨b,1,none⟩) g2 hgb (.int .i64 ((p0:Int)+1));have st:Stp (GS S g) w (GS S g) _:=((Stp.of f1).trans (Stp.setg (S:=S) (g:=g) 4 (.bool true))).trans (Stp.gs (m2.stp 1 (.int .i64 ((p0:Int)+1))) (lt_heap g2));have a1:=Zd m1.blk _ (Fr.refl _ _);have a2:=Zd m2.blk _ (Fr.refl _ _);have b1:=ZE g1 _ (Fr.refl _ _)
 obtain⟨wZ,hwZ⟩:∃wZ,wZ=(w1.setCell ⟨g,4,none⟩ (.bool true)).setCell ⟨b,1,none⟩ (.int .i64 ((p0:Int)+1)):=⟨_,rfl⟩;rw[←hwZ]at m3 g3 st;have HWZ:=hid hwZ;have G3:=hid g3;have ST:=hid st;have M3:=hid (show CRd b l x ⟨p0+1,ms,e0⟩ S wZ from⟨mv,m3⟩);clear g1 g2 g3 m1 m2 m3 st hwZ f1
 go_wp2_with(rw[←HWZ.out])
 refine(cm_fail b l x _ S 15 p0 wZ M3.out).mono ?_;rintro z wY ⟨rfl,hY,stY⟩;have gY:=stY.fr.heap G3.out hgS;have HY:=hid hY;have GY:=hid gY;have STY:=hid (ST.out.trans (Stp.gs stY (lt_heap G3.out)));clear hY gY stY rr rg a1 a2 b1
 go_wp2_with fail
 refine(cm_ok b l x _ S wY HY.out).mono ?_;rintro z wX ⟨rfl,fX⟩;go_wp2;go_ret;exact⟨rfl,fX.heap GY.out (fun x=>x),HY.out.on fX,STY.out.trans (Stp.of fX)⟩
theorem ZhI(sub:SV)(s:AdS)(w:World)(hl:l.length≤99000)(ha:s.at_≤l.length)(hS:∀k,S k→k<w.heap.size)(hgS:¬S g)(hg:w.heap[g]? =some (.cells (Zcx sub u pv) 33 (0,0)))(h:CRd b l x s S w)(c1:ZI l s [103]=true)(hf:sub.all=false):
 Calls Tryz.prog 123 #[.pointer (some ⟨b,0,none⟩),.pointer (some ⟨g,0,none⟩)] w fun r w'=>r=.returned (.bool (((s.to (s.at_+1))).e==0))∧Zeb b g l x S u pv w {sub with all:=true} (s.to (s.at_+1)) w':=by
 have H:=hid h;have HG:=hid hg;have HX:=hid (fun t w' (f:Fr nob w w')=>Zax b l x s S t w' (by omega) (h.on f));obtain⟨mv,hm⟩:=h;have rr:=Zd hm.blk;have rg:=ZE hg;have hlt:=lt_heap hg;have hgb:g≠b:=fun e=>hgS (by rw[e];exact hm.me);obtain⟨p0,ms,e0⟩:=s;obtain⟨tx,tr,pt,nth,al,pr,fi⟩:=sub;simp only at ha rr rg;have HM:=hid hm;clear hm hg;simp only at hf;subst hf;simp only[AdS.to];go_enter Tryz.func123,Tryz.ntmps123
 go_wp2_with fail
 refine(HX.out [103] _ (Fr.refl _ _)).mono ?_;rintro z w1 ⟨rfl,f1'⟩;have f1:=f1';clear f1';rw[c1];have g1:=f1.heap HG.out (fun x=>x);have g2:(w1.setCell ⟨g,4,none⟩ (.bool true)).heap[g]? =some (.cells #[.string ⟨tx.toArray⟩,u,pv,.int .i64 nth,.bool true,.bool pr,.string ⟨fi.toArray⟩] 33 (0,0)):=Za g1 4 _;have m1:=(HM.out.on f1);have m2:=m1.keep (X:=fun k=>k=g) ((Fr.refl (fun k=>k=g) w1).setCell (p:=⟨g,4,none⟩) (fun _=>rfl) (.bool true)) (fun e=>hgb e.symm) (fun k hk e=>hgS (e▸(m1.nm k hk).2));have m3:=m2.turned 1 (.int .i64 ((p0:Int)+1)) ⟨p0+1,ms,e0⟩ (by simp) rfl;have g3:=Zc (p:=⟨b,1,none⟩) g2 hgb (.int .i64 ((p0:Int)+1));have st:Stp (GS S g) w (GS S g) _:=((Stp.of f1).trans (Stp.setg (S:=S) (g:=g) 4 (.bool true))).trans (Stp.gs (m2.stp 1 (.int .i64 ((p0:Int)+1))) (lt_heap g2));have a1:=Zd m1.blk _ (Fr.refl _ _);have a2:=Zd m2.blk _ (Fr.refl _ _);have b1:=ZE g1 _ (Fr.refl _ _)
 obtain⟨wZ,hwZ⟩:∃wZ,wZ=(w1.setCell ⟨g,4,none⟩ (.bool true)).setCell ⟨b,1,none⟩ (.int .i64 ((p0:Int)+1)):=⟨_,rfl⟩;rw[←hwZ]at m3 g3 st;have HWZ:=hid hwZ;have G3:=hid g3;have ST:=hid st;have M3:=hid (show CRd b l x ⟨p0+1,ms,e0⟩ S wZ from⟨mv,m3⟩);clear g1 g2 g3 m1 m2 m3 st hwZ f1
 go_wp2_with(rw[←HWZ.out])
 refine(cm_ok b l x _ S wZ M3.out).mono ?_;rintro z wX ⟨rfl,fX⟩;clear rr rg a1 a2 b1;go_wp2;go_ret;exact⟨rfl,fX.heap G3.out (fun x=>x),M3.out.on fX,ST.out.trans (Stp.of fX)⟩
theorem Zja(sub:SV)(s:AdS)(w:World)(hl:l.length≤99000)(ha:s.at_≤l.length)(hS:∀k,S k→k<w.heap.size)(hgS:¬S g)(hg:w.heap[g]? =some (.cells (Zcx sub u pv) 33 (0,0)))(h:CRd b l x s S w)(c1:ZI l s [103]=false)(c2:ZI l s [112]=true)(hf:sub.print=true):
 Calls Tryz.prog 123 #[.pointer (some ⟨b,0,none⟩),.pointer (some ⟨g,0,none⟩)] w fun r w'=>r=.returned (.bool (((failC (s.to (s.at_+1)) 15 s.at_)).e==0))∧Zeb b g l x S u pv w {sub with print:=true} (failC (s.to (s.at_+1)) 15 s.at_) w':=by
 have H:=hid h;have HG:=hid hg;have HX:=hid (fun t w' (f:Fr nob w w')=>Zax b l x s S t w' (by omega) (h.on f));obtain⟨mv,hm⟩:=h;have rr:=Zd hm.blk;have rg:=ZE hg;have hlt:=lt_heap hg;have hgb:g≠b:=fun e=>hgS (by rw[e];exact hm.me);obtain⟨p0,ms,e0⟩:=s;obtain⟨tx,tr,pt,nth,al,pr,fi⟩:=sub;simp only at ha rr rg;have HM:=hid hm;clear hm hg;simp only at hf;subst hf;simp only[AdS.to];go_enter Tryz.func123,Tryz.ntmps123
 go_wp2_with fail
 refine(HX.out [103] _ (Fr.refl _ _)).mono ?_;rintro z w1 ⟨rfl,f1'⟩;have f1:=f1';clear f1';rw[c1]
 go_wp2_with fail
 refine(HX.out [112] _ f1).mono ?_;rintro z w2 ⟨rfl,f2'⟩;have f2:=f1.trans' f2';clear f1 f2';rw[c2];have g1:=f2.heap HG.out (fun x=>x);have g2:(w2.setCell ⟨g,5,none⟩ (.bool true)).heap[g]? =some (.cells #[.string ⟨tx.toArray⟩,u,pv,.int .i64 nth,.bool al,.bool true,.string ⟨fi.toArray⟩] 33 (0,0)):=Za g1 5 _;have m1:=(HM.out.on f2);have m2:=m1.keep (X:=fun k=>k=g) ((Fr.refl (fun k=>k=g) w2).setCell (p:=⟨g,5,none⟩) (fun _=>rfl) (.bool true)) (fun e=>hgb e.symm) (fun k hk e=>hgS (e▸(m1.nm k hk).2));have m3:=m2.turned 1 (.int .i64 ((p0:Int)+1)) ⟨p0+1,ms,e0⟩ (by simp) rfl;have g3:=Zc (p:=⟨b,1,none⟩) g2 hgb (.int .i64 ((p0:Int)+1));have st:Stp (GS S g) w (GS S g) _:=((Stp.of f2).trans (Stp.setg (S:=S) (g:=g) 5 (.bool true))).trans (Stp.gs (m2.stp 1 (.int .i64 ((p0:Int)+1))) (lt_heap g2));have a1:=Zd m1.blk _ (Fr.refl _ _);have a2:=Zd m2.blk _ (Fr.refl _ _);have b1:=ZE g1 _ (Fr.refl _ _)
 obtain⟨wZ,hwZ⟩:∃wZ,wZ=(w2.setCell ⟨g,5,none⟩ (.bool true)).setCell ⟨b,1,none⟩ (.int .i64 ((p0:Int)+1)):=⟨_,rfl⟩;rw[←hwZ]at m3 g3 st;have HWZ:=hid hwZ;have G3:=hid g3;have ST:=hid st;have M3:=hid (show CRd b l x ⟨p0+1,ms,e0⟩ S wZ from⟨mv,m3⟩);clear g1 g2 g3 m1 m2 m3 st hwZ f2
 go_wp2_with(rw[←HWZ.out])
 refine(cm_fail b l x _ S 15 p0 wZ M3.out).mono ?_;rintro z wY ⟨rfl,hY,stY⟩;have gY:=stY.fr.heap G3.out hgS;have HY:=hid hY;have GY:=hid gY;have STY:=hid (ST.out.trans (Stp.gs stY (lt_heap G3.out)));clear hY gY stY rr rg a1 a2 b1
 go_wp2_with fail
 refine(cm_ok b l x _ S wY HY.out).mono ?_;rintro z wX ⟨rfl,fX⟩;go_wp2;go_ret;exact⟨rfl,fX.heap GY.out (fun x=>x),HY.out.on fX,STY.out.trans (Stp.of fX)⟩
theorem ZhJ(sub:SV)(s:AdS)(w:World)(hl:l.length≤99000)(ha:s.at_≤l.length)(hS:∀k,S k→k<w.heap.size)(hgS:¬S g)(hg:w.heap[g]? =some (.cells (Zcx sub u pv) 33 (0,0)))(h:CRd b l x s S w)(c1:ZI l s [103]=false)(c2:ZI l s [112]=true)(hf:sub.print=false):
 Calls Tryz.prog 123 #[.pointer (some ⟨b,0,none⟩),.pointer (some ⟨g,0,none⟩)] w fun r w'=>r=.returned (.bool (((s.to (s.at_+1))).e==0))∧Zeb b g l x S u pv w {sub with print:=true} (s.to (s.at_+1)) w':=by
 have H:=hid h;have HG:=hid hg;have HX:=hid (fun t w' (f:Fr nob w w')=>Zax b l x s S t w' (by omega) (h.on f));obtain⟨mv,hm⟩:=h;have rr:=Zd hm.blk;have rg:=ZE hg;have hlt:=lt_heap hg;have hgb:g≠b:=fun e=>hgS (by rw[e];exact hm.me);obtain⟨p0,ms,e0⟩:=s;obtain⟨tx,tr,pt,nth,al,pr,fi⟩:=sub;simp only at ha rr rg;have HM:=hid hm;clear hm hg;simp only at hf;subst hf;simp only[AdS.to];go_enter Tryz.func123,Tryz.ntmps123
 go_wp2_with fail
 refine(HX.out [103] _ (Fr.refl _ _)).mono ?_;rintro z w1 ⟨rfl,f1'⟩;have f1:=f1';clear f1';rw[c1]
 go_wp2_with fail
 refine(HX.out [112] _ f1).mono ?_;rintro z w2 ⟨rfl,f2'⟩;have f2:=f1.trans' f2';clear f1 f2';rw[c2];have g1:=f2.heap HG.out (fun x=>x);have g2:(w2.setCell ⟨g,5,none⟩ (.bool true)).heap[g]? =some (.cells #[.string ⟨tx.toArray⟩,u,pv,.int .i64 nth,.bool al,.bool true,.string ⟨fi.toArray⟩] 33 (0,0)):=Za g1 5 _;have m1:=(HM.out.on f2);have m2:=m1.keep (X:=fun k=>k=g) ((Fr.refl (fun k=>k=g) w2).setCell (p:=⟨g,5,none⟩) (fun _=>rfl) (.bool true)) (fun e=>hgb e.symm) (fun k hk e=>hgS (e▸(m1.nm k hk).2));have m3:=m2.turned 1 (.int .i64 ((p0:Int)+1)) ⟨p0+1,ms,e0⟩ (by simp) rfl;have g3:=Zc (p:=⟨b,1,none⟩) g2 hgb (.int .i64 ((p0:Int)+1));have st:Stp (GS S g) w (GS S g) _:=((Stp.of f2).trans (Stp.setg (S:=S) (g:=g) 5 (.bool true))).trans (Stp.gs (m2.stp 1 (.int .i64 ((p0:Int)+1))) (lt_heap g2));have a1:=Zd m1.blk _ (Fr.refl _ _);have a2:=Zd m2.blk _ (Fr.refl _ _);have b1:=ZE g1 _ (Fr.refl _ _)
 obtain⟨wZ,hwZ⟩:∃wZ,wZ=(w2.setCell ⟨g,5,none⟩ (.bool true)).setCell ⟨b,1,none⟩ (.int .i64 ((p0:Int)+1)):=⟨_,rfl⟩;rw[←hwZ]at m3 g3 st;have HWZ:=hid hwZ;have G3:=hid g3;have ST:=hid st;have M3:=hid (show CRd b l x ⟨p0+1,ms,e0⟩ S wZ from⟨mv,m3⟩);clear g1 g2 g3 m1 m2 m3 st hwZ f2
 go_wp2_with(rw[←HWZ.out])
 refine(cm_ok b l x _ S wZ M3.out).mono ?_;rintro z wX ⟨rfl,fX⟩;clear rr rg a1 a2 b1;go_wp2;go_ret;exact⟨rfl,fX.heap G3.out (fun x=>x),M3.out.on fX,ST.out.trans (Stp.of fX)⟩
theorem ZhK(sub:SV)(s:AdS)(w:World)(hl:l.length≤99000)(ha:s.at_≤l.length)(hS:∀k,S k→k<w.heap.size)(hgS:¬S g)(hg:w.heap[g]? =some (.cells (Zcx sub u pv) 33 (0,0)))(h:CRd b l x s S w)(c1:ZI l s [103]=false)(c2:ZI l s [112]=false)(c3:ZI l s [48,49,50,51,52,53,54,55,56,57]=true)(hn:0<sub.nth):
 Calls Tryz.prog 123 #[.pointer (some ⟨b,0,none⟩),.pointer (some ⟨g,0,none⟩)] w fun r w'=>r=.returned (.bool ((failC s 15 s.at_).e==0))∧Zeb b g l x S u pv w {sub with nth:=((nm s.at_ (l.drop s.at_) 0 0).1:Nat)} (failC s 15 s.at_) w':=by
 have H:=hid h;have HG:=hid hg;have HX:=hid (fun t w' (f:Fr nob w w')=>Zax b l x s S t w' (by omega) (h.on f));obtain⟨mv,hm⟩:=h;have rr:=Zd hm.blk;have rg:=ZE hg;have hlt:=lt_heap hg;have hgb:g≠b:=fun e=>hgS (by rw[e];exact hm.me);obtain⟨p0,ms,e0⟩:=s;obtain⟨tx,tr,pt,nth,al,pr,fi⟩:=sub;simp only at ha rr rg;have HM:=hid hm;clear hm hg;simp only at hn⊢;have HN:=hid (fun w'=>Zci l p0 w' (by omega) ha);obtain⟨NR,hNR⟩:∃NR,nm p0 (l.drop p0) 0 0=NR:=⟨_,rfl⟩;obtain⟨nn,nq,nz⟩:=NR;rw[hNR]at HN⊢;simp only at HN⊢;clear hNR;go_enter Tryz.func123,Tryz.ntmps123
 go_wp2_with fail
 refine(HX.out [103] _ (Fr.refl _ _)).mono ?_;rintro z w1 ⟨rfl,f1'⟩;have f1:=f1';clear f1';rw[c1]
 go_wp2_with fail
 refine(HX.out [112] _ f1).mono ?_;rintro z w2 ⟨rfl,f2'⟩;have f2:=f1.trans' f2';clear f1 f2';rw[c2]
 go_wp2_with fail
 refine(HX.out [48,49,50,51,52,53,54,55,56,57] _ f2).mono ?_;rintro z w3 ⟨rfl,f3'⟩;have f3:=f2.trans' f3';clear f2 f3';rw[c3]
 go_wp2_with fail
 refine(HN.out _).mono ?_;rintro z w4 ⟨rfl,f4'⟩;have f4:=f3.trans' f4';clear f3 f4';have g1:=f4.heap HG.out (fun x=>x);have b1:=ZE g1 _ (Fr.refl _ _);have g2:(w4.setCell ⟨g,3,none⟩ (.int .i64 (nn:Nat))).heap[g]? =some (.cells #[.string ⟨tx.toArray⟩,u,pv,.int .i64 (nn:Nat),.bool al,.bool pr,.string ⟨fi.toArray⟩] 33 (0,0)):=Za g1 3 _;have m1:=HM.out.on f4;have m2:=m1.keep (X:=fun k=>k=g) ((Fr.refl (fun k=>k=g) w4).setCell (p:=⟨g,3,none⟩) (fun _=>rfl) (.int .i64 (nn:Nat))) (fun e=>hgb e.symm) (fun k hk e=>hgS (e▸(m1.nm k hk).2));have st:Stp (GS S g) w (GS S g) _:=(Stp.of f4).trans (Stp.setg (S:=S) (g:=g) 3 (.int .i64 (nn:Nat)));obtain⟨wZ,hwZ⟩:∃wZ,wZ=w4.setCell ⟨g,3,none⟩ (.int .i64 (nn:Nat)):=⟨_,rfl⟩;rw[←hwZ]at m2 g2 st;have HWZ:=hid hwZ;have G3:=hid g2;have ST:=hid st;have M3:=hid (show CRd b l x ⟨p0,ms,e0⟩ S wZ from⟨mv,m2⟩);clear g1 g2 m1 m2 st hwZ f4
 go_wp2_with(rw[←HWZ.out])
 refine(cm_fail b l x _ S 15 p0 wZ M3.out).mono ?_;rintro z wY ⟨rfl,hY,stY⟩;have gY:=stY.fr.heap G3.out hgS;have HY:=hid hY;have GY:=hid gY;have STY:=hid (ST.out.trans (Stp.gs stY (lt_heap G3.out)));clear hY gY stY rr rg b1
 go_wp2_with fail
 refine(cm_ok b l x _ S wY HY.out).mono ?_;rintro z wX ⟨rfl,fX⟩;go_wp2;go_ret;exact⟨rfl,fX.heap GY.out (fun x=>x),HY.out.on fX,STY.out.trans (Stp.of fX)⟩
theorem Zjb(sub:SV)(s:AdS)(w:World)(hl:l.length≤99000)(ha:s.at_≤l.length)(hS:∀k,S k→k<w.heap.size)(hgS:¬S g)(hg:w.heap[g]? =some (.cells (Zcx sub u pv) 33 (0,0)))(h:CRd b l x s S w)(c1:ZI l s [103]=false)(c2:ZI l s [112]=false)(c3:ZI l s [48,49,50,51,52,53,54,55,56,57]=true)(hn:¬0<sub.nth):
 Calls Tryz.prog 123 #[.pointer (some ⟨b,0,none⟩),.pointer (some ⟨g,0,none⟩)] w fun r w'=>r=.returned (.bool ((if s.e=0∧(ZR s (nm s.at_ (l.drop s.at_) 0 0).2.1 (nm s.at_ (l.drop s.at_) 0 0).2.2).e=0∧(nm s.at_ (l.drop s.at_) 0 0).1=0 then failC (ZR s (nm s.at_ (l.drop s.at_) 0 0).2.1 (nm s.at_ (l.drop s.at_) 0 0).2.2) 1 s.at_ else(ZR s (nm s.at_ (l.drop s.at_) 0 0).2.1 (nm s.at_ (l.drop s.at_) 0 0).2.2)).e==0))∧Zeb b g l x S u pv w {sub with nth:=((nm s.at_ (l.drop s.at_) 0 0).1:Nat)} (if s.e=0∧(ZR s (nm s.at_ (l.drop s.at_) 0 0).2.1 (nm s.at_ (l.drop s.at_) 0 0).2.2).e=0∧(nm s.at_ (l.drop s.at_) 0 0).1=0 then failC (ZR s (nm s.at_ (l.drop s.at_) 0 0).2.1 (nm s.at_ (l.drop s.at_) 0 0).2.2) 1 s.at_ else(ZR s (nm s.at_ (l.drop s.at_) 0 0).2.1 (nm s.at_ (l.drop s.at_) 0 0).2.2)) w':=by
 have H:=hid h;have HG:=hid hg;have HX:=hid (fun t w' (f:Fr nob w w')=>Zax b l x s S t w' (by omega) (h.on f));obtain⟨mv,hm⟩:=h;have rr:=Zd hm.blk;have rg:=ZE hg;have hlt:=lt_heap hg;have hgb:g≠b:=fun e=>hgS (by rw[e];exact hm.me);obtain⟨p0,ms,e0⟩:=s;obtain⟨tx,tr,pt,nth,al,pr,fi⟩:=sub;simp only at ha rr rg;have HM:=hid hm;clear hm hg;simp only at hn⊢;have hnd:decide ((0:Int)<nth)=false:=decide_eq_false hn;have HN:=hid (fun w'=>Zci l p0 w' (by omega) ha);obtain⟨NR,hNR⟩:∃NR,nm p0 (l.drop p0) 0 0=NR:=⟨_,rfl⟩;obtain⟨nn,nq,nz⟩:=NR;rw[hNR]at HN⊢;simp only at HN⊢;clear hNR;obtain⟨q,hq⟩:∃q,(e0==0&&(ZR ⟨p0,ms,e0⟩ nq nz).e==0)=q:=⟨_,rfl⟩;have HMV:=hid (fun w' h=>by have:=cm_moved b l x ⟨p0,ms,e0⟩ S nz nq w' h;simp only at this;rw[hq]at this;exact this);obtain⟨s1,hs1⟩:∃s1,ZR ⟨p0,ms,e0⟩ nq nz=s1:=⟨_,rfl⟩;simp only[hs1]at HMV hq⊢;have hcase:(q=true∧nn=0∧(if e0=0∧s1.e=0∧nn=0 then failC s1 1 p0 else s1)=failC s1 1 p0)∨(¬(q=true∧nn=0)∧(if e0=0∧s1.e=0∧nn=0 then failC s1 1 p0 else s1)=s1):=by
  by_cases hc:e0=0∧s1.e=0∧nn=0
  ·refine .inl ⟨by rw[←hq,hc.1,hc.2.1];rfl,hc.2.2,if_pos hc⟩
  ·refine .inr ⟨fun h=>hc ?_,if_neg hc⟩;rw[←hq]at h;simp only[Bool.and_eq_true,beq_iff_eq]at h;exact⟨h.1.1,h.1.2,h.2⟩
 clear hq hs1;rcases hcase with⟨rfl,rfl,hs2⟩|⟨hqn,hs2⟩
 ·rw[hs2];rw[show((0:Nat):Int)=0 from rfl]at HN;go_enter Tryz.func123,Tryz.ntmps123
  go_wp2_with fail
  refine(HX.out [103] _ (Fr.refl _ _)).mono ?_;rintro z w1 ⟨rfl,f1'⟩;have f1:=f1';clear f1';rw[c1]
  go_wp2_with fail
  refine(HX.out [112] _ f1).mono ?_;rintro z w2 ⟨rfl,f2'⟩;have f2:=f1.trans' f2';clear f1 f2';rw[c2]
  go_wp2_with fail
  refine(HX.out [48,49,50,51,52,53,54,55,56,57] _ f2).mono ?_;rintro z w3 ⟨rfl,f3'⟩;have f3:=f2.trans' f3';clear f2 f3';rw[c3]
  go_wp2_with fail
  refine(HN.out _).mono ?_;rintro z w4 ⟨rfl,f4'⟩;have f4:=f3.trans' f4';clear f3 f4'
  go_wp2_with fail
  refine(HMV.out w4 ⟨mv,HM.out.on f4⟩).mono ?_;rintro z w5 ⟨rfl,h5,st5⟩;have g5:=st5.fr.heap (f4.heap HG.out (fun x=>x)) hgS;have H5:=hid h5;have G5:=hid g5;have ST5:=hid ((Stp.of f4:Stp (GS S g) w (GS S g) w4).trans (Stp.gs st5 (lt_heap (f4.heap HG.out (fun x=>x)))));clear h5 g5 st5 f4 rr
  go_wp2_with fail
  refine(cm_fail b l x _ S 1 p0 w5 H5.out).mono ?_;rintro z w6 ⟨rfl,h6,st6⟩;have g6:=st6.fr.heap G5.out hgS;have HX5:=hid h6;have GX:=hid g6;have STX:=hid (ST5.out.trans (Stp.gs st6 (lt_heap G5.out)));clear h6 g6 st6;have b1:=ZE GX.out _ (Fr.refl _ _);have g2:(w6.setCell ⟨g,3,none⟩ (.int .i64 0)).heap[g]? =some (.cells #[.string ⟨tx.toArray⟩,u,pv,.int .i64 0,.bool al,.bool pr,.string ⟨fi.toArray⟩] 33 (0,0)):=Za GX.out 3 _;have m2:=HX5.out.setg hgS 3 (.int .i64 0);have st:Stp (GS S g) w (GS S g) _:=STX.out.trans (Stp.setg (S:=S) (g:=g) 3 (.int .i64 0));obtain⟨wZ,hwZ⟩:∃wZ,wZ=w6.setCell ⟨g,3,none⟩ (.int .i64 0):=⟨_,rfl⟩;rw[←hwZ]at m2 g2 st;have HWZ:=hid hwZ;have G3:=hid g2;have ST:=hid st;have M3:=hid m2;clear g2 m2 st hwZ
  go_wp2_with(rw[←HWZ.out])
  refine(cm_ok b l x _ S wZ M3.out).mono ?_;rintro z wX ⟨rfl,fX⟩;clear rg b1;go_wp2;go_ret;exact⟨rfl,fX.heap G3.out (fun x=>x),M3.out.on fX,ST.out.trans (Stp.of fX)⟩
 ·rw[hs2];have hqc:q=false∨(q=true∧((nn:Int)==0)=false):=by
   cases q with
   |false=>exact .inl rfl
   |true=>exact .inr ⟨rfl,by have:¬nn=0:=fun h=>hqn ⟨rfl,h⟩;simp;omega⟩
  clear hqn;rcases hqc with rfl|⟨rfl,hz0⟩
  all_goals
   go_enter Tryz.func123,Tryz.ntmps123
   go_wp2_with fail
   refine(HX.out [103] _ (Fr.refl _ _)).mono ?_;rintro z w1 ⟨rfl,f1'⟩;have f1:=f1';clear f1';rw[c1]
   go_wp2_with fail
   refine(HX.out [112] _ f1).mono ?_;rintro z w2 ⟨rfl,f2'⟩;have f2:=f1.trans' f2';clear f1 f2';rw[c2]
   go_wp2_with fail
   refine(HX.out [48,49,50,51,52,53,54,55,56,57] _ f2).mono ?_;rintro z w3 ⟨rfl,f3'⟩;have f3:=f2.trans' f3';clear f2 f3';rw[c3]
   go_wp2_with fail
   refine(HN.out _).mono ?_;rintro z w4 ⟨rfl,f4'⟩;have f4:=f3.trans' f4';clear f3 f4'
   go_wp2_with fail
   refine(HMV.out w4 ⟨mv,HM.out.on f4⟩).mono ?_;rintro z w5 ⟨rfl,h5,st5⟩;have g5:=st5.fr.heap (f4.heap HG.out (fun x=>x)) hgS;have H5:=hid h5;have G5:=hid g5;have ST5:=hid ((Stp.of f4:Stp (GS S g) w (GS S g) w4).trans (Stp.gs st5 (lt_heap (f4.heap HG.out (fun x=>x)))));clear h5 g5 st5 f4 rr;have HX5:=hid H5.out;have GX:=hid G5.out;have STX:=hid ST5.out;have b1:=ZE GX.out _ (Fr.refl _ _);have g2:(w5.setCell ⟨g,3,none⟩ (.int .i64 (nn:Nat))).heap[g]? =some (.cells #[.string ⟨tx.toArray⟩,u,pv,.int .i64 (nn:Nat),.bool al,.bool pr,.string ⟨fi.toArray⟩] 33 (0,0)):=Za GX.out 3 _;have m2:=HX5.out.setg hgS 3 (.int .i64 (nn:Nat));have st:Stp (GS S g) w (GS S g) _:=STX.out.trans (Stp.setg (S:=S) (g:=g) 3 (.int .i64 (nn:Nat)));obtain⟨wZ,hwZ⟩:∃wZ,wZ=w5.setCell ⟨g,3,none⟩ (.int .i64 (nn:Nat)):=⟨_,rfl⟩;rw[←hwZ]at m2 g2 st;have HWZ:=hid hwZ;have G3:=hid g2;have ST:=hid st;have M3:=hid m2;clear g2 m2 st hwZ
   go_wp2_with(rw[←HWZ.out])
   refine(cm_ok b l x _ S wZ M3.out).mono ?_;rintro z wX ⟨rfl,fX⟩;clear rg b1;go_wp2;go_ret;exact⟨rfl,fX.heap G3.out (fun x=>x),M3.out.on fX,ST.out.trans (Stp.of fX)⟩
theorem ZnL(sub:SV)(s:AdS)(w:World)(hl:l.length≤99000)(ha:s.at_≤l.length)(hS:∀k,S k→k<w.heap.size)(hgS:¬S g)(hg:w.heap[g]? =some (.cells (Zcx sub u pv) 33 (0,0)))(h:CRd b l x s S w)(c1:ZI l s [103]=false)(c2:ZI l s [112]=false)(c3:ZI l s [48,49,50,51,52,53,54,55,56,57]=false)(c4:ZI l s [119]=true):
 Calls Tryz.prog 123 #[.pointer (some ⟨b,0,none⟩),.pointer (some ⟨g,0,none⟩)] w fun r w'=>r=.returned (.bool false)∧Zeb b g l x S u pv w {sub with file:=(ZaC l (s.to (s.at_+1))).1} (ZaC l (s.to (s.at_+1))).2 w':=by
 have H:=hid h;have HG:=hid hg;have HX:=hid (fun t w' (f:Fr nob w w')=>Zax b l x s S t w' (by omega) (h.on f));obtain⟨mv,hm⟩:=h;have rr:=Zd hm.blk;have rg:=ZE hg;have hlt:=lt_heap hg;have hgb:g≠b:=fun e=>hgS (by rw[e];exact hm.me);obtain⟨p0,ms,e0⟩:=s;obtain⟨tx,tr,pt,nth,al,pr,fi⟩:=sub;simp only at ha rr rg;have HM:=hid hm;clear hm hg;have hin:=ZaX c4;simp only[AdS.to]at hin⊢;obtain⟨FR,hFR⟩:∃FR,ZaC l ⟨p0+1,ms,e0⟩=FR:=⟨_,rfl⟩;have HF:=hid (fun w' h=>by have:=Zgi b l x ⟨p0+1,ms,e0⟩ S w' hl hin h;rw[hFR]at this;exact this);rw[hFR];obtain⟨ft,fs⟩:=FR;simp only at HF⊢;clear hFR;go_enter Tryz.func123,Tryz.ntmps123
 go_wp2_with fail
 refine(HX.out [103] _ (Fr.refl _ _)).mono ?_;rintro z w1 ⟨rfl,f1'⟩;have f1:=f1';clear f1';rw[c1]
 go_wp2_with fail
 refine(HX.out [112] _ f1).mono ?_;rintro z w2 ⟨rfl,f2'⟩;have f2:=f1.trans' f2';clear f1 f2';rw[c2]
 go_wp2_with fail
 refine(HX.out [48,49,50,51,52,53,54,55,56,57] _ f2).mono ?_;rintro z w3 ⟨rfl,f3'⟩;have f3:=f2.trans' f3';clear f2 f3';rw[c3]
 go_wp2_with fail
 refine(HX.out [119] _ f3).mono ?_;rintro z w4 ⟨rfl,f4'⟩;have f4:=f3.trans' f4';clear f3 f4';rw[c4];have m1:=HM.out.on f4;have m3:=m1.turned 1 (.int .i64 ((p0:Int)+1)) ⟨p0+1,ms,e0⟩ (by simp) rfl;have g1:=f4.heap HG.out (fun x=>x);have g3:=Zc (p:=⟨b,1,none⟩) g1 hgb (.int .i64 ((p0:Int)+1));have st:Stp (GS S g) w (GS S g) _:=(Stp.of f4).trans (Stp.gs (m1.stp 1 (.int .i64 ((p0:Int)+1))) (lt_heap g1));have a1:=Zd m1.blk _ (Fr.refl _ _);obtain⟨wZ,hwZ⟩:∃wZ,wZ=w4.setCell ⟨b,1,none⟩ (.int .i64 ((p0:Int)+1)):=⟨_,rfl⟩;rw[←hwZ]at m3 g3 st;have HWZ:=hid hwZ;have G3:=hid g3;have ST:=hid st;have M3:=hid (show CRd b l x ⟨p0+1,ms,e0⟩ S wZ from⟨mv,m3⟩);clear g1 g3 m1 m3 st hwZ f4
 go_wp2_with(rw[←HWZ.out])
 refine(HF.out wZ M3.out).mono ?_;rintro z w5 ⟨rfl,h5,st5⟩;have g5:=st5.fr.heap G3.out hgS;have b1:=ZE g5 _ (Fr.refl _ _);have g6:(w5.setCell ⟨g,6,none⟩ (.string ⟨ft.toArray⟩)).heap[g]? =some (.cells #[.string ⟨tx.toArray⟩,u,pv,.int .i64 nth,.bool al,.bool pr,.string ⟨ft.toArray⟩] 33 (0,0)):=Za g5 6 _;have G6:=hid g6;have H6:=hid (h5.setg hgS 6 (.string ⟨ft.toArray⟩));have ST6:=hid ((ST.out.trans (Stp.gs st5 (lt_heap G3.out))).trans (Stp.setg (S:=S) (g:=g) 6 (.string ⟨ft.toArray⟩)));clear g5 g6 h5 st5 rr rg a1;go_wp2;go_ret;exact⟨rfl,G6.out,H6.out,ST6.out⟩
theorem ZlM(sub:SV)(s:AdS)(w:World)(hl:l.length≤99000)(ha:s.at_≤l.length)(hS:∀k,S k→k<w.heap.size)(hgS:¬S g)(hg:w.heap[g]? =some (.cells (Zcx sub u pv) 33 (0,0)))(h:CRd b l x s S w)(c1:ZI l s [103]=false)(c2:ZI l s [112]=false)(c3:ZI l s [48,49,50,51,52,53,54,55,56,57]=false)(c4:ZI l s [119]=false):
 Calls Tryz.prog 123 #[.pointer (some ⟨b,0,none⟩),.pointer (some ⟨g,0,none⟩)] w fun r w'=>r=.returned (.bool false)∧Zeb b g l x S u pv w sub s w':=by
 have H:=hid h;have HG:=hid hg;have HX:=hid (fun t w' (f:Fr nob w w')=>Zax b l x s S t w' (by omega) (h.on f));obtain⟨mv,hm⟩:=h;have rr:=Zd hm.blk;have rg:=ZE hg;have hlt:=lt_heap hg;have hgb:g≠b:=fun e=>hgS (by rw[e];exact hm.me);obtain⟨p0,ms,e0⟩:=s;obtain⟨tx,tr,pt,nth,al,pr,fi⟩:=sub;simp only at ha rr rg;have HM:=hid hm;clear hm hg;go_enter Tryz.func123,Tryz.ntmps123
 go_wp2_with fail
 refine(HX.out [103] _ (Fr.refl _ _)).mono ?_;rintro z w1 ⟨rfl,f1'⟩;have f1:=f1';clear f1';rw[c1]
 go_wp2_with fail
 refine(HX.out [112] _ f1).mono ?_;rintro z w2 ⟨rfl,f2'⟩;have f2:=f1.trans' f2';clear f1 f2';rw[c2]
 go_wp2_with fail
 refine(HX.out [48,49,50,51,52,53,54,55,56,57] _ f2).mono ?_;rintro z w3 ⟨rfl,f3'⟩;have f3:=f2.trans' f3';clear f2 f3';rw[c3]
 go_wp2_with fail
 refine(HX.out [119] _ f3).mono ?_;rintro z w4 ⟨rfl,f4'⟩;have f4:=f3.trans' f4';clear f3 f4';rw[c4];clear rr rg;go_wp2;go_ret;exact⟨rfl,f4.heap HG.out (fun x=>x),H.out.on f4,Stp.of f4⟩
theorem Zjc(sub:SV)(s:AdS)(w:World)(hl:l.length≤99000)(ha:s.at_≤l.length)(hS:∀k,S k→k<w.heap.size)(hgS:¬S g)(hg:w.heap[g]? =some (.cells (Zcx sub u pv) 33 (0,0)))(h:CRd b l x s S w):
 Calls Tryz.prog 123 #[.pointer (some ⟨b,0,none⟩),.pointer (some ⟨g,0,none⟩)] w fun r w'=>r=.returned (.bool (Zai l sub s).1)∧Zeb b g l x S u pv w (Zai l sub s).2.1 (Zai l sub s).2.2 w':=by
 unfold Zai;simp only;cases c1:ZI l s [103]with
 |true=>
  simp only[if_true];cases hf:sub.all with
  |true=>exact Zi9 b g l x S u pv sub s w hl ha hS hgS hg h c1 hf
  |false=>exact ZhI b g l x S u pv sub s w hl ha hS hgS hg h c1 hf
 |false=>
  simp only[Bool.false_eq_true,if_false];cases c2:ZI l s [112]with
  |true=>
   simp only[if_true];cases hf:sub.print with
   |true=>exact Zja b g l x S u pv sub s w hl ha hS hgS hg h c1 c2 hf
   |false=>exact ZhJ b g l x S u pv sub s w hl ha hS hgS hg h c1 c2 hf
  |false=>
   simp only[Bool.false_eq_true,if_false];cases c3:ZI l s [48,49,50,51,52,53,54,55,56,57]with
   |true=>
    simp only[if_true];by_cases hn:0<sub.nth
    ·simp only[if_pos hn];exact ZhK b g l x S u pv sub s w hl ha hS hgS hg h c1 c2 c3 hn
    ·simp only[if_neg hn];exact Zjb b g l x S u pv sub s w hl ha hS hgS hg h c1 c2 c3 hn
   |false=>
    simp only[Bool.false_eq_true,if_false];cases c4:ZI l s [119]with
    |true=>
     simp only[if_true];exact ZnL b g l x S u pv sub s w hl ha hS hgS hg h c1 c2 c3 c4
    |false=>
     simp only[Bool.false_eq_true,if_false];exact ZlM b g l x S u pv sub s w hl ha hS hgS hg h c1 c2 c3 c4
end
end Go.Proofs.YtkfddjopbocpkaaGreatDoor
