/- Lemmas of this claim. -/
import Derived.Test.YtkfddjopbocpkaaGreatDoorN20
set_option linter.unusedVariables false
set_option linter.unusedSimpArgs false
set_option maxRecDepth 100000
set_option maxHeartbeats 4000000
namespace Go.Proofs.YtkfddjopbocpkaaGreatDoor
open Go.Lib (hid)
open Go.RowKit
abbrev Zdn(s:SV)(u pv:Value):Array Value:= #[.string ⟨s.text.toArray⟩,u,pv,.int .i64 s.nth,.bool s.all,.bool s.print,.string ⟨s.file.toArray⟩]
theorem ZG{w:World}{b:Nat}{v0 v1 v2 v3 v4 v5 v6:Value}{T:TypeId}(h:w.heap[b]? =some (.cells #[v0,v1,v2,v3,v4,v5,v6] T (0,0))):∀w',Fr nob w w'→
 (w'.cell? ⟨b,0,none⟩=some v0∧w'.cell? ⟨b,1,none⟩=some v1∧w'.cell? ⟨b,2,none⟩=some v2∧w'.cell? ⟨b,3,none⟩=some v3∧w'.cell? ⟨b,4,none⟩=some v4∧w'.cell? ⟨b,5,none⟩=some v5∧w'.cell? ⟨b,6,none⟩=some v6)∧
 (w'.frozen? ⟨b,0,none⟩=false∧w'.frozen? ⟨b,1,none⟩=false∧w'.frozen? ⟨b,2,none⟩=false∧w'.frozen? ⟨b,3,none⟩=false∧w'.frozen? ⟨b,4,none⟩=false∧w'.frozen? ⟨b,5,none⟩=false∧w'.frozen? ⟨b,6,none⟩=false):=fun _ f=>by
 have h':=f.heap h (fun x=>x);exact⟨⟨cell_at h' rfl,cell_at h' rfl,cell_at h' rfl,cell_at h' rfl,cell_at h' rfl,cell_at h' rfl,cell_at h' rfl⟩,unfrozen_at h' _,unfrozen_at h' _,unfrozen_at h' _,unfrozen_at h' _,unfrozen_at h' _,unfrozen_at h' _,unfrozen_at h' _⟩
def Zfs(b g:Nat)(l:List UInt8)(x:Bool)(S:Nat→Prop)(u pv:Value)(w:World)(sub:SV)(s:AdS)(w':World):Prop:=
 w'.heap[g]? =some (.cells (Zdn sub u pv) 33 (0,0))∧CRd b l x s S w'∧Stp (GS S g) w (GS S g) w'
section
variable {b g:Nat} {l:List UInt8} {x:Bool} {S:Nat→Prop} {s:AdS} {w w':World}
theorem CRd.setg(h:CRd b l x s S w)(hg:¬S g)(j:Nat)(v:Value):CRd b l x s S (w.setCell ⟨g,j,none⟩ v):=by
 obtain⟨mv,h⟩:=h;exact⟨mv,h.keep (X:=fun k=>k=g) ((Fr.refl (fun k=>k=g) w).setCell (p:=⟨g,j,none⟩) (fun _=>rfl) v) (fun e=>hg (e▸h.me)) (fun k hk e=>hg (e▸(h.nm k hk).2))⟩
theorem Stp.setg(j:Nat)(v:Value):Stp (GS S g) w (GS S g) (w.setCell ⟨g,j,none⟩ v):=
 ⟨(Fr.refl (GS S g) w).setCell (p:=⟨g,j,none⟩) (fun _=>.inr rfl) v,fun _ _ x=>x,fun hl k hk=>by have:=hl k hk;simpa[World.setCell]using this⟩
end
section
variable (b g:Nat) (l:List UInt8) (x:Bool) (S:Nat→Prop) (u pv:Value)
theorem Zk9(sub:SV)(s:AdS)(w:World)(hl:l.length≤99000)(ha:s.at_≤l.length)(hS:∀k,S k→k<w.heap.size)(hgS:¬S g)(hg:w.heap[g]? =some (.cells (Zdn sub u pv) 33 (0,0)))(h:CRd b l x s S w)(c1:ZI l s [103]=true)(hf:sub.all=true):
 Calls Tryz.prog 123 #[.pointer (some ⟨b,0,none⟩),.pointer (some ⟨g,0,none⟩)] w fun r w'=>r=.returned (.bool (((failC (s.to (s.at_+1)) 15 s.at_)).e==0))∧Zfs b g l x S u pv w {sub with all:=true} (failC (s.to (s.at_+1)) 15 s.at_) w':=by
 have H:=hid h;have HG:=hid hg;have HX:=hid (fun t w' (f:Fr nob w w')=>ZaI b l x s S t w' (by omega) (h.on f));obtain⟨mv,hm⟩:=h;have rr:=Zd hm.blk;have rg:=ZG hg;have hlt:=lt_heap hg;have hgb:g≠b:=fun e=>hgS (by rw[e];exact hm.me);obtain⟨p0,ms,e0⟩:=s;obtain⟨tx,tr,pt,nth,al,pr,fi⟩:=sub;simp only at ha rr rg;have HM:=hid hm;clear hm hg;simp only at hf;subst hf;simp only[AdS.to];go_enter Tryz.func123,Tryz.ntmps123;go_wp2_with fail;refine(HX.out [103] _ (Fr.refl _ _)).mono ?_;rintro z w1 ⟨rfl,f1'⟩;have f1:=f1';clear f1';rw[c1];have g1:=f1.heap HG.out (fun x=>x);have g2:(w1.setCell ⟨g,4,none⟩ (.bool true)).heap[g]? =some (.cells #[.string ⟨tx.toArray⟩,u,pv,.int .i64 nth,.bool true,.bool pr,.string ⟨fi.toArray⟩] 33 (0,0)):=Za g1 4 _;have m1:=(HM.out.on f1);have m2:=m1.keep (X:=fun k=>k=g) ((Fr.refl (fun k=>k=g) w1).setCell (p:=⟨g,4,none⟩) (fun _=>rfl) (.bool true)) (fun e=>hgb e.symm) (fun k hk e=>hgS (e▸(m1.nm k hk).2))
 have m3:=m2.turned 1 (.int .i64 ((p0:Int)+1)) ⟨p0+1,ms,e0⟩ (by simp) rfl;have g3:=Zc (p:=⟨b,1,none⟩) g2 hgb (.int .i64 ((p0:Int)+1));have st:Stp (GS S g) w (GS S g) _:=((Stp.of f1).trans (Stp.setg (S:=S) (g:=g) 4 (.bool true))).trans (Stp.gs (m2.stp 1 (.int .i64 ((p0:Int)+1))) (lt_heap g2));have a1:=Zd m1.blk _ (Fr.refl _ _);have a2:=Zd m2.blk _ (Fr.refl _ _);have b1:=ZG g1 _ (Fr.refl _ _);obtain⟨wZ,hwZ⟩:∃wZ,wZ=(w1.setCell ⟨g,4,none⟩ (.bool true)).setCell ⟨b,1,none⟩ (.int .i64 ((p0:Int)+1)):=⟨_,rfl⟩;rw[←hwZ]at m3 g3 st;have HWZ:=hid hwZ;have G3:=hid g3;have ST:=hid st;have M3:=hid (show CRd b l x ⟨p0+1,ms,e0⟩ S wZ from⟨mv,m3⟩);clear g1 g2 g3 m1 m2 m3 st hwZ f1;go_wp2_with(rw[←HWZ.out]);refine(cm_fail b l x _ S 15 p0 wZ M3.out).mono ?_;rintro z wY ⟨rfl,hY,stY⟩;have gY:=stY.fr.heap G3.out hgS;have HY:=hid hY;have GY:=hid gY;have STY:=hid (ST.out.trans (Stp.gs stY (lt_heap G3.out)))
 clear hY gY stY rr rg a1 a2 b1;go_wp2_with fail;refine(cm_ok b l x _ S wY HY.out).mono ?_;rintro z wX ⟨rfl,fX⟩;go_wp2;go_ret;exact⟨rfl,fX.heap GY.out (fun x=>x),HY.out.on fX,STY.out.trans (Stp.of fX)⟩
theorem Zju(sub:SV)(s:AdS)(w:World)(hl:l.length≤99000)(ha:s.at_≤l.length)(hS:∀k,S k→k<w.heap.size)(hgS:¬S g)(hg:w.heap[g]? =some (.cells (Zdn sub u pv) 33 (0,0)))(h:CRd b l x s S w)(c1:ZI l s [103]=true)(hf:sub.all=false):
 Calls Tryz.prog 123 #[.pointer (some ⟨b,0,none⟩),.pointer (some ⟨g,0,none⟩)] w fun r w'=>r=.returned (.bool (((s.to (s.at_+1))).e==0))∧Zfs b g l x S u pv w {sub with all:=true} (s.to (s.at_+1)) w':=by
 have H:=hid h;have HG:=hid hg;have HX:=hid (fun t w' (f:Fr nob w w')=>ZaI b l x s S t w' (by omega) (h.on f));obtain⟨mv,hm⟩:=h;have rr:=Zd hm.blk;have rg:=ZG hg;have hlt:=lt_heap hg;have hgb:g≠b:=fun e=>hgS (by rw[e];exact hm.me);obtain⟨p0,ms,e0⟩:=s;obtain⟨tx,tr,pt,nth,al,pr,fi⟩:=sub;simp only at ha rr rg;have HM:=hid hm;clear hm hg;simp only at hf;subst hf;simp only[AdS.to];go_enter Tryz.func123,Tryz.ntmps123;go_wp2_with fail;refine(HX.out [103] _ (Fr.refl _ _)).mono ?_;rintro z w1 ⟨rfl,f1'⟩;have f1:=f1';clear f1';rw[c1];have g1:=f1.heap HG.out (fun x=>x);have g2:(w1.setCell ⟨g,4,none⟩ (.bool true)).heap[g]? =some (.cells #[.string ⟨tx.toArray⟩,u,pv,.int .i64 nth,.bool true,.bool pr,.string ⟨fi.toArray⟩] 33 (0,0)):=Za g1 4 _;have m1:=(HM.out.on f1);have m2:=m1.keep (X:=fun k=>k=g) ((Fr.refl (fun k=>k=g) w1).setCell (p:=⟨g,4,none⟩) (fun _=>rfl) (.bool true)) (fun e=>hgb e.symm) (fun k hk e=>hgS (e▸(m1.nm k hk).2))
 have m3:=m2.turned 1 (.int .i64 ((p0:Int)+1)) ⟨p0+1,ms,e0⟩ (by simp) rfl;have g3:=Zc (p:=⟨b,1,none⟩) g2 hgb (.int .i64 ((p0:Int)+1));have st:Stp (GS S g) w (GS S g) _:=((Stp.of f1).trans (Stp.setg (S:=S) (g:=g) 4 (.bool true))).trans (Stp.gs (m2.stp 1 (.int .i64 ((p0:Int)+1))) (lt_heap g2));have a1:=Zd m1.blk _ (Fr.refl _ _);have a2:=Zd m2.blk _ (Fr.refl _ _);have b1:=ZG g1 _ (Fr.refl _ _);obtain⟨wZ,hwZ⟩:∃wZ,wZ=(w1.setCell ⟨g,4,none⟩ (.bool true)).setCell ⟨b,1,none⟩ (.int .i64 ((p0:Int)+1)):=⟨_,rfl⟩;rw[←hwZ]at m3 g3 st;have HWZ:=hid hwZ;have G3:=hid g3;have ST:=hid st;have M3:=hid (show CRd b l x ⟨p0+1,ms,e0⟩ S wZ from⟨mv,m3⟩);clear g1 g2 g3 m1 m2 m3 st hwZ f1;go_wp2_with(rw[←HWZ.out]);refine(cm_ok b l x _ S wZ M3.out).mono ?_;rintro z wX ⟨rfl,fX⟩;clear rr rg a1 a2 b1;go_wp2;go_ret;exact⟨rfl,fX.heap G3.out (fun x=>x),M3.out.on fX,ST.out.trans (Stp.of fX)⟩
theorem Zla(sub:SV)(s:AdS)(w:World)(hl:l.length≤99000)(ha:s.at_≤l.length)(hS:∀k,S k→k<w.heap.size)(hgS:¬S g)(hg:w.heap[g]? =some (.cells (Zdn sub u pv) 33 (0,0)))(h:CRd b l x s S w)(c1:ZI l s [103]=false)(c2:ZI l s [112]=true)(hf:sub.print=true):
 Calls Tryz.prog 123 #[.pointer (some ⟨b,0,none⟩),.pointer (some ⟨g,0,none⟩)] w fun r w'=>r=.returned (.bool (((failC (s.to (s.at_+1)) 15 s.at_)).e==0))∧Zfs b g l x S u pv w {sub with print:=true} (failC (s.to (s.at_+1)) 15 s.at_) w':=by
 have H:=hid h;have HG:=hid hg;have HX:=hid (fun t w' (f:Fr nob w w')=>ZaI b l x s S t w' (by omega) (h.on f));obtain⟨mv,hm⟩:=h;have rr:=Zd hm.blk;have rg:=ZG hg;have hlt:=lt_heap hg;have hgb:g≠b:=fun e=>hgS (by rw[e];exact hm.me);obtain⟨p0,ms,e0⟩:=s;obtain⟨tx,tr,pt,nth,al,pr,fi⟩:=sub;simp only at ha rr rg;have HM:=hid hm;clear hm hg;simp only at hf;subst hf;simp only[AdS.to];go_enter Tryz.func123,Tryz.ntmps123;go_wp2_with fail;refine(HX.out [103] _ (Fr.refl _ _)).mono ?_;rintro z w1 ⟨rfl,f1'⟩;have f1:=f1';clear f1';rw[c1];go_wp2_with fail;refine(HX.out [112] _ f1).mono ?_;rintro z w2 ⟨rfl,f2'⟩;have f2:=f1.trans' f2';clear f1 f2';rw[c2];have g1:=f2.heap HG.out (fun x=>x);have g2:(w2.setCell ⟨g,5,none⟩ (.bool true)).heap[g]? =some (.cells #[.string ⟨tx.toArray⟩,u,pv,.int .i64 nth,.bool al,.bool true,.string ⟨fi.toArray⟩] 33 (0,0)):=Za g1 5 _;have m1:=(HM.out.on f2);have m2:=m1.keep (X:=fun k=>k=g) ((Fr.refl (fun k=>k=g) w2).setCell (p:=⟨g,5,none⟩) (fun _=>rfl) (.bool true)) (fun e=>hgb e.symm) (fun k hk e=>hgS (e▸(m1.nm k hk).2))
 have m3:=m2.turned 1 (.int .i64 ((p0:Int)+1)) ⟨p0+1,ms,e0⟩ (by simp) rfl;have g3:=Zc (p:=⟨b,1,none⟩) g2 hgb (.int .i64 ((p0:Int)+1));have st:Stp (GS S g) w (GS S g) _:=((Stp.of f2).trans (Stp.setg (S:=S) (g:=g) 5 (.bool true))).trans (Stp.gs (m2.stp 1 (.int .i64 ((p0:Int)+1))) (lt_heap g2));have a1:=Zd m1.blk _ (Fr.refl _ _);have a2:=Zd m2.blk _ (Fr.refl _ _);have b1:=ZG g1 _ (Fr.refl _ _);obtain⟨wZ,hwZ⟩:∃wZ,wZ=(w2.setCell ⟨g,5,none⟩ (.bool true)).setCell ⟨b,1,none⟩ (.int .i64 ((p0:Int)+1)):=⟨_,rfl⟩;rw[←hwZ]at m3 g3 st;have HWZ:=hid hwZ;have G3:=hid g3;have ST:=hid st;have M3:=hid (show CRd b l x ⟨p0+1,ms,e0⟩ S wZ from⟨mv,m3⟩);clear g1 g2 g3 m1 m2 m3 st hwZ f2;go_wp2_with(rw[←HWZ.out]);refine(cm_fail b l x _ S 15 p0 wZ M3.out).mono ?_;rintro z wY ⟨rfl,hY,stY⟩;have gY:=stY.fr.heap G3.out hgS;have HY:=hid hY;have GY:=hid gY;have STY:=hid (ST.out.trans (Stp.gs stY (lt_heap G3.out)))
 clear hY gY stY rr rg a1 a2 b1;go_wp2_with fail;refine(cm_ok b l x _ S wY HY.out).mono ?_;rintro z wX ⟨rfl,fX⟩;go_wp2;go_ret;exact⟨rfl,fX.heap GY.out (fun x=>x),HY.out.on fX,STY.out.trans (Stp.of fX)⟩
theorem Zjv(sub:SV)(s:AdS)(w:World)(hl:l.length≤99000)(ha:s.at_≤l.length)(hS:∀k,S k→k<w.heap.size)(hgS:¬S g)(hg:w.heap[g]? =some (.cells (Zdn sub u pv) 33 (0,0)))(h:CRd b l x s S w)(c1:ZI l s [103]=false)(c2:ZI l s [112]=true)(hf:sub.print=false):
 Calls Tryz.prog 123 #[.pointer (some ⟨b,0,none⟩),.pointer (some ⟨g,0,none⟩)] w fun r w'=>r=.returned (.bool (((s.to (s.at_+1))).e==0))∧Zfs b g l x S u pv w {sub with print:=true} (s.to (s.at_+1)) w':=by
 have H:=hid h;have HG:=hid hg;have HX:=hid (fun t w' (f:Fr nob w w')=>ZaI b l x s S t w' (by omega) (h.on f));obtain⟨mv,hm⟩:=h;have rr:=Zd hm.blk;have rg:=ZG hg;have hlt:=lt_heap hg;have hgb:g≠b:=fun e=>hgS (by rw[e];exact hm.me);obtain⟨p0,ms,e0⟩:=s;obtain⟨tx,tr,pt,nth,al,pr,fi⟩:=sub;simp only at ha rr rg;have HM:=hid hm;clear hm hg;simp only at hf;subst hf;simp only[AdS.to];go_enter Tryz.func123,Tryz.ntmps123;go_wp2_with fail;refine(HX.out [103] _ (Fr.refl _ _)).mono ?_;rintro z w1 ⟨rfl,f1'⟩;have f1:=f1';clear f1';rw[c1];go_wp2_with fail;refine(HX.out [112] _ f1).mono ?_;rintro z w2 ⟨rfl,f2'⟩;have f2:=f1.trans' f2';clear f1 f2';rw[c2];have g1:=f2.heap HG.out (fun x=>x);have g2:(w2.setCell ⟨g,5,none⟩ (.bool true)).heap[g]? =some (.cells #[.string ⟨tx.toArray⟩,u,pv,.int .i64 nth,.bool al,.bool true,.string ⟨fi.toArray⟩] 33 (0,0)):=Za g1 5 _;have m1:=(HM.out.on f2);have m2:=m1.keep (X:=fun k=>k=g) ((Fr.refl (fun k=>k=g) w2).setCell (p:=⟨g,5,none⟩) (fun _=>rfl) (.bool true)) (fun e=>hgb e.symm) (fun k hk e=>hgS (e▸(m1.nm k hk).2))
 have m3:=m2.turned 1 (.int .i64 ((p0:Int)+1)) ⟨p0+1,ms,e0⟩ (by simp) rfl;have g3:=Zc (p:=⟨b,1,none⟩) g2 hgb (.int .i64 ((p0:Int)+1));have st:Stp (GS S g) w (GS S g) _:=((Stp.of f2).trans (Stp.setg (S:=S) (g:=g) 5 (.bool true))).trans (Stp.gs (m2.stp 1 (.int .i64 ((p0:Int)+1))) (lt_heap g2));have a1:=Zd m1.blk _ (Fr.refl _ _);have a2:=Zd m2.blk _ (Fr.refl _ _);have b1:=ZG g1 _ (Fr.refl _ _);obtain⟨wZ,hwZ⟩:∃wZ,wZ=(w2.setCell ⟨g,5,none⟩ (.bool true)).setCell ⟨b,1,none⟩ (.int .i64 ((p0:Int)+1)):=⟨_,rfl⟩;rw[←hwZ]at m3 g3 st;have HWZ:=hid hwZ;have G3:=hid g3;have ST:=hid st;have M3:=hid (show CRd b l x ⟨p0+1,ms,e0⟩ S wZ from⟨mv,m3⟩);clear g1 g2 g3 m1 m2 m3 st hwZ f2;go_wp2_with(rw[←HWZ.out]);refine(cm_ok b l x _ S wZ M3.out).mono ?_;rintro z wX ⟨rfl,fX⟩;clear rr rg a1 a2 b1;go_wp2;go_ret;exact⟨rfl,fX.heap G3.out (fun x=>x),M3.out.on fX,ST.out.trans (Stp.of fX)⟩
theorem Zjw(sub:SV)(s:AdS)(w:World)(hl:l.length≤99000)(ha:s.at_≤l.length)(hS:∀k,S k→k<w.heap.size)(hgS:¬S g)(hg:w.heap[g]? =some (.cells (Zdn sub u pv) 33 (0,0)))(h:CRd b l x s S w)(c1:ZI l s [103]=false)(c2:ZI l s [112]=false)(c3:ZI l s [48,49,50,51,52,53,54,55,56,57]=true)(hn:0<sub.nth):
 Calls Tryz.prog 123 #[.pointer (some ⟨b,0,none⟩),.pointer (some ⟨g,0,none⟩)] w fun r w'=>r=.returned (.bool ((failC s 15 s.at_).e==0))∧Zfs b g l x S u pv w {sub with nth:=((nm s.at_ (l.drop s.at_) 0 0).1:Nat)} (failC s 15 s.at_) w':=by
 have H:=hid h;have HG:=hid hg;have HX:=hid (fun t w' (f:Fr nob w w')=>ZaI b l x s S t w' (by omega) (h.on f));obtain⟨mv,hm⟩:=h;have rr:=Zd hm.blk;have rg:=ZG hg;have hlt:=lt_heap hg;have hgb:g≠b:=fun e=>hgS (by rw[e];exact hm.me);obtain⟨p0,ms,e0⟩:=s;obtain⟨tx,tr,pt,nth,al,pr,fi⟩:=sub;simp only at ha rr rg;have HM:=hid hm;clear hm hg;simp only at hn⊢;have HN:=hid (fun w'=>Zc4 l p0 w' (by omega) ha);obtain⟨NR,hNR⟩:∃NR,nm p0 (l.drop p0) 0 0=NR:=⟨_,rfl⟩;obtain⟨nn,nq,nz⟩:=NR;rw[hNR]at HN⊢;simp only at HN⊢;clear hNR;go_enter Tryz.func123,Tryz.ntmps123;go_wp2_with fail;refine(HX.out [103] _ (Fr.refl _ _)).mono ?_;rintro z w1 ⟨rfl,f1'⟩;have f1:=f1';clear f1';rw[c1];go_wp2_with fail;refine(HX.out [112] _ f1).mono ?_;rintro z w2 ⟨rfl,f2'⟩;have f2:=f1.trans' f2';clear f1 f2';rw[c2];go_wp2_with fail;refine(HX.out [48,49,50,51,52,53,54,55,56,57] _ f2).mono ?_;rintro z w3 ⟨rfl,f3'⟩;have f3:=f2.trans' f3'
 clear f2 f3';rw[c3];go_wp2_with fail;refine(HN.out _).mono ?_;rintro z w4 ⟨rfl,f4'⟩;have f4:=f3.trans' f4';clear f3 f4';have g1:=f4.heap HG.out (fun x=>x);have b1:=ZG g1 _ (Fr.refl _ _);have g2:(w4.setCell ⟨g,3,none⟩ (.int .i64 (nn:Nat))).heap[g]? =some (.cells #[.string ⟨tx.toArray⟩,u,pv,.int .i64 (nn:Nat),.bool al,.bool pr,.string ⟨fi.toArray⟩] 33 (0,0)):=Za g1 3 _;have m1:=HM.out.on f4;have m2:=m1.keep (X:=fun k=>k=g) ((Fr.refl (fun k=>k=g) w4).setCell (p:=⟨g,3,none⟩) (fun _=>rfl) (.int .i64 (nn:Nat))) (fun e=>hgb e.symm) (fun k hk e=>hgS (e▸(m1.nm k hk).2));have st:Stp (GS S g) w (GS S g) _:=(Stp.of f4).trans (Stp.setg (S:=S) (g:=g) 3 (.int .i64 (nn:Nat)));obtain⟨wZ,hwZ⟩:∃wZ,wZ=w4.setCell ⟨g,3,none⟩ (.int .i64 (nn:Nat)):=⟨_,rfl⟩;rw[←hwZ]at m2 g2 st;have HWZ:=hid hwZ;have G3:=hid g2;have ST:=hid st;have M3:=hid (show CRd b l x ⟨p0,ms,e0⟩ S wZ from⟨mv,m2⟩);clear g1 g2 m1 m2 st hwZ f4
 go_wp2_with(rw[←HWZ.out]);refine(cm_fail b l x _ S 15 p0 wZ M3.out).mono ?_;rintro z wY ⟨rfl,hY,stY⟩;have gY:=stY.fr.heap G3.out hgS;have HY:=hid hY;have GY:=hid gY;have STY:=hid (ST.out.trans (Stp.gs stY (lt_heap G3.out)));clear hY gY stY rr rg b1;go_wp2_with fail;refine(cm_ok b l x _ S wY HY.out).mono ?_;rintro z wX ⟨rfl,fX⟩;go_wp2;go_ret;exact⟨rfl,fX.heap GY.out (fun x=>x),HY.out.on fX,STY.out.trans (Stp.of fX)⟩
theorem Zlb(sub:SV)(s:AdS)(w:World)(hl:l.length≤99000)(ha:s.at_≤l.length)(hS:∀k,S k→k<w.heap.size)(hgS:¬S g)(hg:w.heap[g]? =some (.cells (Zdn sub u pv) 33 (0,0)))(h:CRd b l x s S w)(c1:ZI l s [103]=false)(c2:ZI l s [112]=false)(c3:ZI l s [48,49,50,51,52,53,54,55,56,57]=true)(hn:¬0<sub.nth):
 Calls Tryz.prog 123 #[.pointer (some ⟨b,0,none⟩),.pointer (some ⟨g,0,none⟩)] w fun r w'=>r=.returned (.bool ((if s.e=0∧(ZV s (nm s.at_ (l.drop s.at_) 0 0).2.1 (nm s.at_ (l.drop s.at_) 0 0).2.2).e=0∧(nm s.at_ (l.drop s.at_) 0 0).1=0 then failC (ZV s (nm s.at_ (l.drop s.at_) 0 0).2.1 (nm s.at_ (l.drop s.at_) 0 0).2.2) 1 s.at_ else(ZV s (nm s.at_ (l.drop s.at_) 0 0).2.1 (nm s.at_ (l.drop s.at_) 0 0).2.2)).e==0))∧Zfs b g l x S u pv w {sub with nth:=((nm s.at_ (l.drop s.at_) 0 0).1:Nat)} (if s.e=0∧(ZV s (nm s.at_ (l.drop s.at_) 0 0).2.1 (nm s.at_ (l.drop s.at_) 0 0).2.2).e=0∧(nm s.at_ (l.drop s.at_) 0 0).1=0 then failC (ZV s (nm s.at_ (l.drop s.at_) 0 0).2.1 (nm s.at_ (l.drop s.at_) 0 0).2.2) 1 s.at_ else(ZV s (nm s.at_ (l.drop s.at_) 0 0).2.1 (nm s.at_ (l.drop s.at_) 0 0).2.2)) w':=by
 have H:=hid h;have HG:=hid hg;have HX:=hid (fun t w' (f:Fr nob w w')=>ZaI b l x s S t w' (by omega) (h.on f));obtain⟨mv,hm⟩:=h;have rr:=Zd hm.blk;have rg:=ZG hg;have hlt:=lt_heap hg;have hgb:g≠b:=fun e=>hgS (by rw[e];exact hm.me);obtain⟨p0,ms,e0⟩:=s;obtain⟨tx,tr,pt,nth,al,pr,fi⟩:=sub;simp only at ha rr rg;have HM:=hid hm;clear hm hg;simp only at hn⊢;have hnd:decide ((0:Int)<nth)=false:=decide_eq_false hn;have HN:=hid (fun w'=>Zc4 l p0 w' (by omega) ha);obtain⟨NR,hNR⟩:∃NR,nm p0 (l.drop p0) 0 0=NR:=⟨_,rfl⟩;obtain⟨nn,nq,nz⟩:=NR;rw[hNR]at HN⊢;simp only at HN⊢;clear hNR;obtain⟨q,hq⟩:∃q,(e0==0&&(ZV ⟨p0,ms,e0⟩ nq nz).e==0)=q:=⟨_,rfl⟩;have HMV:=hid (fun w' h=>by have:=cm_moved b l x ⟨p0,ms,e0⟩ S nz nq w' h;simp only at this;rw[hq]at this;exact this);obtain⟨s1,hs1⟩:∃s1,ZV ⟨p0,ms,e0⟩ nq nz=s1:=⟨_,rfl⟩;simp only[hs1]at HMV hq⊢;have hcase:(q=true∧nn=0∧(if e0=0∧s1.e=0∧nn=0 then failC s1 1 p0 else s1)=failC s1 1 p0)∨(¬(q=true∧nn=0)∧(if e0=0∧s1.e=0∧nn=0 then failC s1 1 p0 else s1)=s1):=by
  by_cases hc:e0=0∧s1.e=0∧nn=0
  ·refine .inl ⟨by rw[←hq,hc.1,hc.2.1];rfl,hc.2.2,if_pos hc⟩
  ·refine .inr ⟨fun h=>hc ?_,if_neg hc⟩;rw[←hq]at h;simp only[Bool.and_eq_true,beq_iff_eq]at h;exact⟨h.1.1,h.1.2,h.2⟩
 clear hq hs1;rcases hcase with⟨rfl,rfl,hs2⟩|⟨hqn,hs2⟩
 ·rw[hs2];rw[show((0:Nat):Int)=0 from rfl]at HN;go_enter Tryz.func123,Tryz.ntmps123;go_wp2_with fail;refine(HX.out [103] _ (Fr.refl _ _)).mono ?_;rintro z w1 ⟨rfl,f1'⟩;have f1:=f1';clear f1';rw[c1];go_wp2_with fail;refine(HX.out [112] _ f1).mono ?_;rintro z w2 ⟨rfl,f2'⟩;have f2:=f1.trans' f2';clear f1 f2';rw[c2];go_wp2_with fail;refine(HX.out [48,49,50,51,52,53,54,55,56,57] _ f2).mono ?_;rintro z w3 ⟨rfl,f3'⟩;have f3:=f2.trans' f3';clear f2 f3';rw[c3];go_wp2_with fail;refine(HN.out _).mono ?_;rintro z w4 ⟨rfl,f4'⟩;have f4:=f3.trans' f4';clear f3 f4';go_wp2_with fail;refine(HMV.out w4 ⟨mv,HM.out.on f4⟩).mono ?_;rintro z w5 ⟨rfl,h5,st5⟩;have g5:=st5.fr.heap (f4.heap HG.out (fun x=>x)) hgS;have H5:=hid h5;have G5:=hid g5;have ST5:=hid ((Stp.of f4:Stp (GS S g) w (GS S g) w4).trans (Stp.gs st5 (lt_heap (f4.heap HG.out (fun x=>x)))));clear h5 g5 st5 f4 rr;go_wp2_with fail;refine(cm_fail b l x _ S 1 p0 w5 H5.out).mono ?_
  rintro z w6 ⟨rfl,h6,st6⟩;have g6:=st6.fr.heap G5.out hgS;have HX5:=hid h6;have GX:=hid g6;have STX:=hid (ST5.out.trans (Stp.gs st6 (lt_heap G5.out)));clear h6 g6 st6;have b1:=ZG GX.out _ (Fr.refl _ _);have g2:(w6.setCell ⟨g,3,none⟩ (.int .i64 0)).heap[g]? =some (.cells #[.string ⟨tx.toArray⟩,u,pv,.int .i64 0,.bool al,.bool pr,.string ⟨fi.toArray⟩] 33 (0,0)):=Za GX.out 3 _;have m2:=HX5.out.setg hgS 3 (.int .i64 0);have st:Stp (GS S g) w (GS S g) _:=STX.out.trans (Stp.setg (S:=S) (g:=g) 3 (.int .i64 0));obtain⟨wZ,hwZ⟩:∃wZ,wZ=w6.setCell ⟨g,3,none⟩ (.int .i64 0):=⟨_,rfl⟩;rw[←hwZ]at m2 g2 st;have HWZ:=hid hwZ;have G3:=hid g2;have ST:=hid st;have M3:=hid m2;clear g2 m2 st hwZ;go_wp2_with(rw[←HWZ.out]);refine(cm_ok b l x _ S wZ M3.out).mono ?_;rintro z wX ⟨rfl,fX⟩;clear rg b1;go_wp2;go_ret;exact⟨rfl,fX.heap G3.out (fun x=>x),M3.out.on fX,ST.out.trans (Stp.of fX)⟩
 ·rw[hs2];have hqc:q=false∨(q=true∧((nn:Int)==0)=false):=by
   cases q with
   |false=>exact .inl rfl
   |true=>exact .inr ⟨rfl,by have:¬nn=0:=fun h=>hqn ⟨rfl,h⟩;simp;omega⟩
  clear hqn;rcases hqc with rfl|⟨rfl,hz0⟩
  all_goals
   go_enter Tryz.func123,Tryz.ntmps123;go_wp2_with fail;refine(HX.out [103] _ (Fr.refl _ _)).mono ?_;rintro z w1 ⟨rfl,f1'⟩;have f1:=f1';clear f1';rw[c1];go_wp2_with fail;refine(HX.out [112] _ f1).mono ?_;rintro z w2 ⟨rfl,f2'⟩;have f2:=f1.trans' f2';clear f1 f2';rw[c2];go_wp2_with fail;refine(HX.out [48,49,50,51,52,53,54,55,56,57] _ f2).mono ?_;rintro z w3 ⟨rfl,f3'⟩;have f3:=f2.trans' f3';clear f2 f3';rw[c3];go_wp2_with fail;refine(HN.out _).mono ?_;rintro z w4 ⟨rfl,f4'⟩;have f4:=f3.trans' f4';clear f3 f4';go_wp2_with fail;refine(HMV.out w4 ⟨mv,HM.out.on f4⟩).mono ?_;rintro z w5 ⟨rfl,h5,st5⟩;have g5:=st5.fr.heap (f4.heap HG.out (fun x=>x)) hgS;have H5:=hid h5;have G5:=hid g5;have ST5:=hid ((Stp.of f4:Stp (GS S g) w (GS S g) w4).trans (Stp.gs st5 (lt_heap (f4.heap HG.out (fun x=>x)))));clear h5 g5 st5 f4 rr;have HX5:=hid H5.out;have GX:=hid G5.out;have STX:=hid ST5.out;have b1:=ZG GX.out _ (Fr.refl _ _)
   have g2:(w5.setCell ⟨g,3,none⟩ (.int .i64 (nn:Nat))).heap[g]? =some (.cells #[.string ⟨tx.toArray⟩,u,pv,.int .i64 (nn:Nat),.bool al,.bool pr,.string ⟨fi.toArray⟩] 33 (0,0)):=Za GX.out 3 _;have m2:=HX5.out.setg hgS 3 (.int .i64 (nn:Nat));have st:Stp (GS S g) w (GS S g) _:=STX.out.trans (Stp.setg (S:=S) (g:=g) 3 (.int .i64 (nn:Nat)));obtain⟨wZ,hwZ⟩:∃wZ,wZ=w5.setCell ⟨g,3,none⟩ (.int .i64 (nn:Nat)):=⟨_,rfl⟩;rw[←hwZ]at m2 g2 st;have HWZ:=hid hwZ;have G3:=hid g2;have ST:=hid st;have M3:=hid m2;clear g2 m2 st hwZ;go_wp2_with(rw[←HWZ.out]);refine(cm_ok b l x _ S wZ M3.out).mono ?_;rintro z wX ⟨rfl,fX⟩;clear rg b1;go_wp2;go_ret;exact⟨rfl,fX.heap G3.out (fun x=>x),M3.out.on fX,ST.out.trans (Stp.of fX)⟩
theorem ZqY(sub:SV)(s:AdS)(w:World)(hl:l.length≤99000)(ha:s.at_≤l.length)(hS:∀k,S k→k<w.heap.size)(hgS:¬S g)(hg:w.heap[g]? =some (.cells (Zdn sub u pv) 33 (0,0)))(h:CRd b l x s S w)(c1:ZI l s [103]=false)(c2:ZI l s [112]=false)(c3:ZI l s [48,49,50,51,52,53,54,55,56,57]=false)(c4:ZI l s [119]=true):
 Calls Tryz.prog 123 #[.pointer (some ⟨b,0,none⟩),.pointer (some ⟨g,0,none⟩)] w fun r w'=>r=.returned (.bool false)∧Zfs b g l x S u pv w {sub with file:=(ZaR l (s.to (s.at_+1))).1} (ZaR l (s.to (s.at_+1))).2 w':=by
 have H:=hid h;have HG:=hid hg;have HX:=hid (fun t w' (f:Fr nob w w')=>ZaI b l x s S t w' (by omega) (h.on f));obtain⟨mv,hm⟩:=h;have rr:=Zd hm.blk;have rg:=ZG hg;have hlt:=lt_heap hg;have hgb:g≠b:=fun e=>hgS (by rw[e];exact hm.me);obtain⟨p0,ms,e0⟩:=s;obtain⟨tx,tr,pt,nth,al,pr,fi⟩:=sub;simp only at ha rr rg;have HM:=hid hm;clear hm hg;have hin:=Zbh c4;simp only[AdS.to]at hin⊢;obtain⟨FR,hFR⟩:∃FR,ZaR l ⟨p0+1,ms,e0⟩=FR:=⟨_,rfl⟩;have HF:=hid (fun w' h=>by have:=ZhT b l x ⟨p0+1,ms,e0⟩ S w' hl hin h;rw[hFR]at this;exact this);rw[hFR];obtain⟨ft,fs⟩:=FR;simp only at HF⊢;clear hFR;go_enter Tryz.func123,Tryz.ntmps123;go_wp2_with fail;refine(HX.out [103] _ (Fr.refl _ _)).mono ?_;rintro z w1 ⟨rfl,f1'⟩;have f1:=f1';clear f1';rw[c1];go_wp2_with fail;refine(HX.out [112] _ f1).mono ?_;rintro z w2 ⟨rfl,f2'⟩;have f2:=f1.trans' f2';clear f1 f2';rw[c2];go_wp2_with fail;refine(HX.out [48,49,50,51,52,53,54,55,56,57] _ f2).mono ?_
 rintro z w3 ⟨rfl,f3'⟩;have f3:=f2.trans' f3';clear f2 f3';rw[c3];go_wp2_with fail;refine(HX.out [119] _ f3).mono ?_;rintro z w4 ⟨rfl,f4'⟩;have f4:=f3.trans' f4';clear f3 f4';rw[c4];have m1:=HM.out.on f4;have m3:=m1.turned 1 (.int .i64 ((p0:Int)+1)) ⟨p0+1,ms,e0⟩ (by simp) rfl;have g1:=f4.heap HG.out (fun x=>x);have g3:=Zc (p:=⟨b,1,none⟩) g1 hgb (.int .i64 ((p0:Int)+1));have st:Stp (GS S g) w (GS S g) _:=(Stp.of f4).trans (Stp.gs (m1.stp 1 (.int .i64 ((p0:Int)+1))) (lt_heap g1));have a1:=Zd m1.blk _ (Fr.refl _ _);obtain⟨wZ,hwZ⟩:∃wZ,wZ=w4.setCell ⟨b,1,none⟩ (.int .i64 ((p0:Int)+1)):=⟨_,rfl⟩;rw[←hwZ]at m3 g3 st;have HWZ:=hid hwZ;have G3:=hid g3;have ST:=hid st;have M3:=hid (show CRd b l x ⟨p0+1,ms,e0⟩ S wZ from⟨mv,m3⟩);clear g1 g3 m1 m3 st hwZ f4;go_wp2_with(rw[←HWZ.out]);refine(HF.out wZ M3.out).mono ?_;rintro z w5 ⟨rfl,h5,st5⟩;have g5:=st5.fr.heap G3.out hgS;have b1:=ZG g5 _ (Fr.refl _ _)
 have g6:(w5.setCell ⟨g,6,none⟩ (.string ⟨ft.toArray⟩)).heap[g]? =some (.cells #[.string ⟨tx.toArray⟩,u,pv,.int .i64 nth,.bool al,.bool pr,.string ⟨ft.toArray⟩] 33 (0,0)):=Za g5 6 _;have G6:=hid g6;have H6:=hid (h5.setg hgS 6 (.string ⟨ft.toArray⟩));have ST6:=hid ((ST.out.trans (Stp.gs st5 (lt_heap G3.out))).trans (Stp.setg (S:=S) (g:=g) 6 (.string ⟨ft.toArray⟩)));clear g5 g6 h5 st5 rr rg a1;go_wp2;go_ret;exact⟨rfl,G6.out,H6.out,ST6.out⟩
theorem Zor(sub:SV)(s:AdS)(w:World)(hl:l.length≤99000)(ha:s.at_≤l.length)(hS:∀k,S k→k<w.heap.size)(hgS:¬S g)(hg:w.heap[g]? =some (.cells (Zdn sub u pv) 33 (0,0)))(h:CRd b l x s S w)(c1:ZI l s [103]=false)(c2:ZI l s [112]=false)(c3:ZI l s [48,49,50,51,52,53,54,55,56,57]=false)(c4:ZI l s [119]=false):
 Calls Tryz.prog 123 #[.pointer (some ⟨b,0,none⟩),.pointer (some ⟨g,0,none⟩)] w fun r w'=>r=.returned (.bool false)∧Zfs b g l x S u pv w sub s w':=by
 have H:=hid h;have HG:=hid hg;have HX:=hid (fun t w' (f:Fr nob w w')=>ZaI b l x s S t w' (by omega) (h.on f));obtain⟨mv,hm⟩:=h;have rr:=Zd hm.blk;have rg:=ZG hg;have hlt:=lt_heap hg;have hgb:g≠b:=fun e=>hgS (by rw[e];exact hm.me);obtain⟨p0,ms,e0⟩:=s;obtain⟨tx,tr,pt,nth,al,pr,fi⟩:=sub;simp only at ha rr rg;have HM:=hid hm;clear hm hg;go_enter Tryz.func123,Tryz.ntmps123;go_wp2_with fail;refine(HX.out [103] _ (Fr.refl _ _)).mono ?_;rintro z w1 ⟨rfl,f1'⟩;have f1:=f1';clear f1';rw[c1];go_wp2_with fail;refine(HX.out [112] _ f1).mono ?_;rintro z w2 ⟨rfl,f2'⟩;have f2:=f1.trans' f2';clear f1 f2';rw[c2];go_wp2_with fail;refine(HX.out [48,49,50,51,52,53,54,55,56,57] _ f2).mono ?_;rintro z w3 ⟨rfl,f3'⟩;have f3:=f2.trans' f3';clear f2 f3';rw[c3];go_wp2_with fail;refine(HX.out [119] _ f3).mono ?_;rintro z w4 ⟨rfl,f4'⟩;have f4:=f3.trans' f4';clear f3 f4';rw[c4];clear rr rg;go_wp2;go_ret;exact⟨rfl,f4.heap HG.out (fun x=>x),H.out.on f4,Stp.of f4⟩
theorem Zlc(sub:SV)(s:AdS)(w:World)(hl:l.length≤99000)(ha:s.at_≤l.length)(hS:∀k,S k→k<w.heap.size)(hgS:¬S g)(hg:w.heap[g]? =some (.cells (Zdn sub u pv) 33 (0,0)))(h:CRd b l x s S w):
 Calls Tryz.prog 123 #[.pointer (some ⟨b,0,none⟩),.pointer (some ⟨g,0,none⟩)] w fun r w'=>r=.returned (.bool (Zap l sub s).1)∧Zfs b g l x S u pv w (Zap l sub s).2.1 (Zap l sub s).2.2 w':=by
 unfold Zap;simp only;cases c1:ZI l s [103]with
 |true=>
  simp only[if_true];cases hf:sub.all with
  |true=>exact Zk9 b g l x S u pv sub s w hl ha hS hgS hg h c1 hf
  |false=>exact Zju b g l x S u pv sub s w hl ha hS hgS hg h c1 hf
 |false=>
  simp only[Bool.false_eq_true,if_false];cases c2:ZI l s [112]with
  |true=>
   simp only[if_true];cases hf:sub.print with
   |true=>exact Zla b g l x S u pv sub s w hl ha hS hgS hg h c1 c2 hf
   |false=>exact Zjv b g l x S u pv sub s w hl ha hS hgS hg h c1 c2 hf
  |false=>
   simp only[Bool.false_eq_true,if_false];cases c3:ZI l s [48,49,50,51,52,53,54,55,56,57]with
   |true=>
    simp only[if_true];by_cases hn:0<sub.nth
    ·simp only[if_pos hn];exact Zjw b g l x S u pv sub s w hl ha hS hgS hg h c1 c2 c3 hn
    ·simp only[if_neg hn];exact Zlb b g l x S u pv sub s w hl ha hS hgS hg h c1 c2 c3 hn
   |false=>
    simp only[Bool.false_eq_true,if_false];cases c4:ZI l s [119]with
    |true=>
     simp only[if_true];exact ZqY b g l x S u pv sub s w hl ha hS hgS hg h c1 c2 c3 c4
    |false=>
     simp only[Bool.false_eq_true,if_false];exact Zor b g l x S u pv sub s w hl ha hS hgS hg h c1 c2 c3 c4
end
abbrev ZiH(w:World)(b:Nat)(v0 v1 v2 v3 v4 v5 v6:Value):World:=((((((w.setCell ⟨b,0,none⟩ v0).setCell ⟨b,1,none⟩ v1).setCell ⟨b,2,none⟩ v2).setCell ⟨b,3,none⟩ v3).setCell ⟨b,4,none⟩ v4).setCell ⟨b,5,none⟩ v5).setCell ⟨b,6,none⟩ v6
theorem ZZ{w:World}{b:Nat}{a0 a1 a2 a3 a4 a5 a6:Value}{T:TypeId}{fr:Nat×Nat}(h:w.heap[b]? =some (.cells #[a0,a1,a2,a3,a4,a5,a6] T fr))(v0 v1 v2 v3 v4 v5 v6:Value):
 (ZiH w b v0 v1 v2 v3 v4 v5 v6).heap[b]? =some (.cells #[v0,v1,v2,v3,v4,v5,v6] T fr):=by
 have h0:=Za h 0 v0;have h1:=Za h0 1 v1;have h2:=Za h1 2 v2;have h3:=Za h2 3 v3;have h4:=Za h3 4 v4;have h5:=Za h4 5 v5;have h6:=Za h5 6 v6;simpa using h6
theorem Zh(w:World)(b:Nat)(v0 v1 v2 v3 v4 v5 v6:Value):Fr (fun k=>k=b) w (ZiH w b v0 v1 v2 v3 v4 v5 v6):=by
 have h:∀(x:World) (j:Nat) (v:Value),Fr (fun k=>k=b) w x→Fr (fun k=>k=b) w (x.setCell ⟨b,j,none⟩ v):=fun x j v hx=>hx.setCell (p:=⟨b,j,none⟩) (fun _=>rfl) v;exact h _ _ _ (h _ _ _ (h _ _ _ (h _ _ _ (h _ _ _ (h _ _ _ (h _ _ _ (Fr.refl _ _)))))))
theorem ZaJ{fn:Func}{p:Tmp}(h:fn.results= #[.cell p 33]){tmps:Array Value}{r:Nat}(ht:tmps.getD p undef=.pointer (some ⟨r,0,none⟩)){W:World}{a0 a1 a2 a3 a4 a5 a6:Value}
 (hb:W.heap[r]? =some (.cells #[a0,a1,a2,a3,a4,a5,a6] 33 (0,0))):(results fn tmps).run Tryz.prog W=.ok (.agg #[a0,a1,a2,a3,a4,a5,a6]) W:=by
 have c0:=cell_at (j:=0) hb rfl;have c1:=cell_at (j:=1) hb rfl;have c2:=cell_at (j:=2) hb rfl;have c3:=cell_at (j:=3) hb rfl;have c4:=cell_at (j:=4) hb rfl;have c5:=cell_at (j:=5) hb rfl;have c6:=cell_at (j:=6) hb rfl;have ht':tmps[p]?.getD undef=.pointer (some ⟨r,0,none⟩):=by rw[←ht];simp
 simp only[results,h];simp[ht',go_sem,c0,c1,c2,c3,c4,c5,c6]
def PrO(S:Nat→Prop)(w:World)(l:List Prt)(v:Value):Prop:=OwP w l v∧∀k,v.ownBlock=some k→¬S k
theorem PrO.keep{S S' X:Nat→Prop}{w w':World}{l:List Prt}{v:Value}(h:PrO S w l v)(f:Fr X w w')(hX:∀k,X k→S k)(hS:∀k,k<w.heap.size→S' k→S k):PrO S' w' l v:=
 ⟨ownsRow_fr h.1 f (fun k hk x=>h.2 k hk (hX k x)),fun k hk x=>h.2 k hk (hS k (own_lt h.1 k hk) x)⟩
theorem PrO.nil(S:Nat→Prop)(w:World):PrO S w [] (.slice none 0 0):=⟨World.ownsRow_nil _ _ _ _,fun _ h=>by cases h⟩
def ZqE(b:Nat)(l:List UInt8)(x:Bool)(S O:Nat→Prop)(w:World)(R:SV×AdS)(r:Ending)(w':World):Prop:=
 ∃u pv S',r=.returned (.agg (Zdn R.1 u pv))∧RN (SO S' O) w' R.1.tree u∧PrO (SO S' O) w' R.1.parts pv∧CRd b l x R.2 S' w'∧Stp S w S' w'
def A2(S O:Nat→Prop)(r:Nat):Nat→Prop:=fun k=>S k∨(O k∨(k=r∨k=r+1))
theorem ZhV{x:Bool}{l:List UInt8}{d:UInt8}{s:AdS}(hl:l.length≤99000):(Zav x l d s).1.2.size≤3000000:=by
 have htl:(Zr l d true s).1.length≤99000:=by
  unfold Zr;split
  ·simp
  ·have:=ZdC l d true (l.length+1) s.at_ [];simp only[List.length_nil]at this;simp only;omega
 unfold Zav;simp only;generalize(if(Zr l d true s).2.e=0∧(Zr l d true s).1=[]then failC (Zr l d true s).2 2 s.at_ else(Zr l d true s).2)=s2;have hn:Nd.nil.size≤3000000:=by decide
 split
 ·exact hn
 ·cases hp:Zac prg x (Zr l d true s).1 with
  |inl z=>exact hn
  |inr z=>have:=(parseD_marks hp).2.2;show z.1.size≤_;omega
theorem Zek{l:List UInt8}{d:UInt8}{rx:Bool}{s:AdS}:(Zr l d rx s).1.length≤l.length:=by
 unfold Zr;split
 ·simp
 ·have:=ZdC l d rx (l.length+1) s.at_ [];simp only[List.length_nil]at this;simp only;omega
def Zqd(b:Nat)(w:World):Nat:=match w.cell? ⟨b,1,none⟩with
 |some (.int _ n)=>n.toNat
 |_=>0
theorem Zft{b:Nat}{l:List UInt8}{x:Bool}{s:AdS}{S:Nat→Prop}{w:World}(h:CRd b l x s S w):Zqd b w=s.at_:=by
 obtain⟨mv,h⟩:=h;have c:=cell_at (j:=1) h.blk rfl;unfold Zqd;rw[c];rfl
theorem ZcG{S S':Nat→Prop}{w w2 wK wF:World}(f2:Fr nob w w2)(hs2:w2.heap.size=w.heap.size+2)(hS:∀k,S k→k<w.heap.size)(st:Stp (GS S (w.heap.size+1)) w2 (GS S' (w.heap.size+1)) wK)(f:Fr (fun k=>k=w.heap.size) wK wF):Stp S w S' wF:=by
 refine⟨((f2.any).trans st.fr (fun i hi h=> ?_)).trans f (fun i hi h=> ?_),fun k hk h=> ?_,fun hl k h=> ?_⟩
 ·rcases h with h|h
  ·exact h
  ·omega
 ·have h:i=w.heap.size:=h;omega
 ·rcases st.old k (by omega) (.inl h)with h|h
  ·exact h
  ·omega
 ·have:=st.lt (fun j hj=>by rcases hj with hj|hj;have:=hS j hj;omega;omega) k (.inl h);have:=f.size;omega
theorem RN.none{S:Nat→Prop}{w:World}{n:Nd}{v:Value}(h:RN S w n v):RN nob w n v:=RN.keep (Fr.refl nob _) (fun _ _ x=>x.elim) (fun _ _ x=>x.elim) _ _ h
theorem A2.so{S O:Nat→Prop}{r k:Nat}(h:SO S O k):A2 S O r k:=by
 rcases h with h|h
 ·exact .inl h
 ·exact .inr (.inl h)
theorem flagC_keep(l:List UInt8)(sub:SV)(s:AdS):(Zap l sub s).2.1.text=sub.text∧(Zap l sub s).2.1.tree=sub.tree∧(Zap l sub s).2.1.parts=sub.parts:=by
 unfold Zap;split
 ·exact⟨rfl,rfl,rfl⟩
 split
 ·exact⟨rfl,rfl,rfl⟩
 split
 ·simp only;split<;>exact⟨rfl,rfl,rfl⟩
 split<;>exact⟨rfl,rfl,rfl⟩
theorem ZpQ{S O:Nat→Prop}{r k:Nat}(h:GS S (r+1) k):A2 S O r k:=by
 rcases h with h|h
 ·exact .inl h
 ·exact .inr (.inr (.inr h))
theorem cm_sub(b:Nat)(l:List UInt8)(x:BF)(s:AdS)(S O:Nat→Prop)(w:World)(hl:l.length≤99000)(ha:s.at_≤l.length)(hm:s.marks.length≤100000)(hS:∀k,S k→k<w.heap.size)(hO:∀k,O k→k<w.heap.size)
 (W0:World) (hE:Env W0) (hW:Fr nob W0 w) (hSW:∀k,S k→W0.heap.size≤k) (h:CRd b l x s S w):
 Calls Tryz.prog 92 #[.pointer (some ⟨b,0,none⟩)] w (ZqE b l x S O w (Zet x l s)):=by
 obtain⟨w1,hw1⟩:∃w1,w1=w.alloc (.cells #[.string ⟨#[]⟩,.nilIface,.slice none 0 0,.int .i64 0,.bool false,.bool false,.string ⟨#[]⟩] 33):=⟨_,rfl⟩;have f1:Fr nob w w1:=by rw[hw1];exact(Fr.refl _ _).alloc _
 have hs1:w1.heap.size=w.heap.size+1:=by rw[hw1];simp
 obtain⟨w2,hw2⟩:∃w2,w2=w1.alloc (.cells #[.string ⟨#[]⟩,.nilIface,.slice none 0 0,.int .i64 0,.bool false,.bool false,.string ⟨#[]⟩] 33):=⟨_,rfl⟩;have f2:Fr nob w w2:=by rw[hw2];exact f1.alloc _
 have hs2:w2.heap.size=w.heap.size+2:=by rw[hw2];simp;omega
 have hz1:w2.heap[w.heap.size]? =some (.cells #[.string ⟨#[]⟩,.nilIface,.slice none 0 0,.int .i64 0,.bool false,.bool false,.string ⟨#[]⟩] 33 (0,0)):=by rw[hw2];exact Ze _ (by rw[hw1];exact newAt _ _)
 have hz2:w2.heap[w.heap.size+1]? =some (.cells #[.string ⟨#[]⟩,.nilIface,.slice none 0 0,.int .i64 0,.bool false,.bool false,.string ⟨#[]⟩] 33 (0,0)):=by rw[hw2];exact Zg _ _ _ hs1.symm
 have hn1:¬S w.heap.size:=fun e=>absurd (hS _ e) (by omega);have hn2:¬S (w.heap.size+1):=fun e=>absurd (hS _ e) (by omega);have HDL:=hid (ZiF b l x s S w2 hl ha (h.on f2));have hdin:=Za7 (l:=l) ha;have hdm:(Zv l s).2.marks=s.marks:=by unfold Zv failC;split;split<;>rfl;split;split<;>rfl;rfl
 have hRi:=fun d=>Zeg (l:=l) x d hdin;have hRz:=fun d=>ZhV (x:=x) (l:=l) (d:=d) (s:=(Zv l s).2) hl;have HW1:=hid hw1;have HW2:=hid hw2;have F2:=hid f2;have HZ1:=hid hz1;have HZ2:=hid hz2;have HN1:=hid hn1;have HN2:=hid hn2;have HS1:=hid hs1;have HS2:=hid hs2;have HS:=hid hS;have HO:=hid hO;have HE:=hid hE;have HWW:=hid hW;have HSW:=hid hSW;clear h f1 f2 hw1 hw2 hs1 hs2 hz1 hz2 hn1 hn2 hS hO hE hW hSW;unfold Zet;simp only;obtain⟨DL,hDL⟩:∃DL,Zv l s=DL:=⟨_,rfl⟩;obtain⟨d,s1⟩:=DL;rw[hDL]at HDL hdin hdm hRi hRz⊢;simp only at HDL hdin hdm hRi hRz⊢;have hm1:s1.marks.length≤100000:=by rw[hdm];exact hm
 clear hDL hdm hm ha;by_cases h1:s1.e=0
 ·have hif1:¬s1.e≠0:=fun h=>h h1;simp only[if_neg hif1];have e1:(s1.e==0)=true:=by simpa using h1
  have hRi:=hRi d;have hRz:=hRz d;have HRG:=hid (fun w' (hS':∀k,S k→k<w'.heap.size) (hO':∀k,(O k∨(k=w.heap.size∨k=w.heap.size+1))→k<w'.heap.size) (hW':Fr nob W0 w') (hc:CRd b l x s1 S w')=>ZmL b l d x s1 S (fun k=>O k∨(k=w.heap.size∨k=w.heap.size+1)) w' hl hdin hm1 hS' hO' W0 HE.out hW' HSW.out hc);obtain⟨RG,hRG⟩:∃RG,Zav x l d s1=RG:=⟨_,rfl⟩;obtain⟨⟨tx,n⟩,s2⟩:=RG;rw[hRG]at HRG hRi hRz⊢;simp only at HRG hRi hRz⊢;clear hRG;have HB:=hid (fun S' w' h=>Zck b l d x false s2 S' w' hl hRi h);have hbl:=Zek (l:=l) (d:=d) (rx:=false) (s:=s2);have hbi:=ZaW (l:=l) (s:=s2) d false hRi;obtain⟨BT,hBT⟩:∃BT,Zr l d false s2=BT:=⟨_,rfl⟩;obtain⟨t,s3⟩:=BT;rw[hBT]at HB hbl hbi⊢;simp only at HB hbl hbi⊢;clear hBT;by_cases h3:s3.e=0
  ·have hif3:¬s3.e≠0:=fun h=>h h3;simp only[if_neg hif3];have e3:(s3.e==0)=true:=by simpa using h3
   have HPT:=hid (fun w'=>ZmK t n.groups w' (by omega));obtain⟨PP,hPP⟩:∃PP,Zao n.groups t false []=PP:=⟨_,rfl⟩;obtain⟨ps,pe⟩:=PP;rw[hPP]at HPT⊢;simp only at HPT⊢;clear hPP;by_cases hpe:pe=0
   ·subst hpe;simp only[ne_eq,not_true_eq_false,if_false];obtain⟨FF,hFF⟩:∃FF,Zai l (l.length+2) {SV.zero with text:=tx,tree:=n,parts:=ps} s3=FF:=⟨_,rfl⟩;rw[hFF];have HFF:=hid hFF;clear hFF;go_enter Tryz.func92,Tryz.ntmps92;go_wp2_with(first|rw[←HW1.out]|rw[HS1.out]|rw[←HW2.out]);refine HDL.out.mono ?_;rintro z w3 ⟨rfl,h3',st3⟩;have H3:=hid h3';have ST3:=hid st3;clear h3' st3;go_wp2_with fail;refine(cm_ok b l x s1 S w3 H3.out).mono ?_;rintro z w4 ⟨rfl,f4⟩;have hr4:∀k,S k→k<w4.heap.size:=fun k hk=>by have:=HS.out k hk;have:=ST3.out.fr.size;have:=HS2.out;have:=f4.size;omega
    have hO4:∀k,(O k∨(k=w.heap.size∨k=w.heap.size+1))→k<w4.heap.size:=fun k hk=>by
     have:=ST3.out.fr.size;have:=HS2.out;have:=f4.size;rcases hk with hk|hk|hk
     ·have:=HO.out k hk;omega
     ·omega
     ·omega
    have hW4:Fr nob W0 w4:=(((Stp.of F2.out).trans ST3.out).trans (Stp.of f4)).from HWW.out HSW.out;have z4:=f4.heap (ST3.out.fr.heap HZ1.out HN1.out) (fun x=>x);have y4:=f4.heap (ST3.out.fr.heap HZ2.out HN2.out) (fun x=>x);have HR4:=hid (HRG.out w4 hr4 hO4 hW4 (H3.out.on f4));have ST4:=hid (ST3.out.trans (Stp.of f4));have Z4:=hid z4;have Y4:=hid y4;have SL4:=hid hr4;clear hr4 hO4 hW4 z4 y4 f4;simp only[e1];go_wp2_with fail;refine HR4.out.mono ?_;rintro z w5 ⟨u,S',rfl,rn5,h5,st5⟩;have z5:=st5.fr.heap Z4.out HN1.out;have y5:=st5.fr.heap Y4.out HN2.out;have hn1:¬S' w.heap.size:=fun e=>HN1.out (st5.old _ (lt_heap Z4.out) e);have hn2:¬S' (w.heap.size+1):=fun e=>HN2.out (st5.old _ (lt_heap Y4.out) e);have sl5:=st5.lt SL4.out;have v5:=ZG y5 _ (Fr.refl _ _);have g6:((w5.setCell ⟨w.heap.size+1,0,none⟩ (.string ⟨tx.toArray⟩)).setCell ⟨w.heap.size+1,1,none⟩ u).heap[w.heap.size+1]? =some (.cells #[.string ⟨tx.toArray⟩,u,.slice none 0 0,.int .i64 0,.bool false,.bool false,.string ⟨#[]⟩] 33 (0,0)):=Za (Za y5 0 _) 1 _
    have z6:=Zc (p:=⟨w.heap.size+1,1,none⟩) (Zc (p:=⟨w.heap.size+1,0,none⟩) z5 (by show w.heap.size≠w.heap.size+1;omega) (.string ⟨tx.toArray⟩)) (by show w.heap.size≠w.heap.size+1;omega) u;have c6:=(h5.setg hn2 0 (.string ⟨tx.toArray⟩)).setg hn2 1 u;have fs:Fr (fun k=>k=w.heap.size+1) w5 ((w5.setCell ⟨w.heap.size+1,0,none⟩ (.string ⟨tx.toArray⟩)).setCell ⟨w.heap.size+1,1,none⟩ u):=((Fr.refl (fun k=>k=w.heap.size+1) w5).setCell (p:=⟨w.heap.size+1,0,none⟩) (fun _=>rfl) _).setCell (p:=⟨w.heap.size+1,1,none⟩) (fun _=>rfl) _;have v5':=ZG (Za y5 0 (.string ⟨tx.toArray⟩)) _ (Fr.refl _ _);obtain⟨w6,hw6⟩:∃w6,w6=(w5.setCell ⟨w.heap.size+1,0,none⟩ (.string ⟨tx.toArray⟩)).setCell ⟨w.heap.size+1,1,none⟩ u:=⟨_,rfl⟩;rw[←hw6]at g6 z6 c6 fs;have HW6:=hid hw6;have G6:=hid g6;have Z6:=hid z6;have C6:=hid c6;have RN6:=hid (RN.keep fs (fun k _ hk=>.inr (.inr (.inr hk))) (fun _ _ x=>x) _ _ rn5:RN (A2 S' O w.heap.size) w6 n u)
    have SL5:=hid sl5;have N1:=hid hn1;have N2:=hid hn2;have ST6:=hid (show Stp (GS S (w.heap.size+1)) w2 (GS S' (w.heap.size+1)) w6 from((Stp.gs ST4.out (by have:=HS2.out;omega)).trans (Stp.gs st5 (lt_heap Y4.out))).trans ⟨fs.mono (fun k _ hk=>.inr hk),fun _ _ x=>x,fun hl k hk=>by have:=hl k hk;have:=fs.size;omega⟩);have osh:=rn5.shape;obtain⟨mv6,hq6⟩:=c6;have r6:=Zd hq6.blk _ (Fr.refl _ _);clear rn5 h5 st5 z5 y5 hn1 hn2 sl5 g6 z6 hq6 fs hw6;rcases osh with rfl|⟨iu,yu,rfl⟩
    ·skip
     go_wp2_with(rw[←HW6.out]);refine(HB.out S' w6 C6.out).mono ?_;rintro z w7 ⟨rfl,h7,st7⟩;have HA7:=hid h7;have G7:=hid (st7.fr.heap G6.out N2.out);have ZR7:=hid (st7.fr.heap Z6.out N1.out);have RN7:=hid (RN.keep st7.fr (fun k _ hk=>.inl hk) (fun k _ hk=>hk) _ _ RN6.out:RN (A2 S' O w.heap.size) w7 n _);have ST7:=hid (ST6.out.trans (Stp.gs st7 (lt_heap G6.out)));clear h7 st7;go_wp2_with fail;refine(cm_ok b l x s3 S' w7 HA7.out).mono ?_;rintro z wq ⟨rfl,fq⟩;have vq:=ZG (fq.heap G7.out (fun x=>x)) _ (Fr.refl _ _);have RNq:=hid (RN7.out.on fq);have FQ:=hid fq;clear fq;simp only[e3];go_wp2_with fail;refine(groups_any _ n _ _ (Nat.le_refl _) hRz RNq.out.none).mono ?_;rintro z w8 ⟨rfl,f8'⟩;have f8:=FQ.out.trans' f8';have g8:=f8.heap G7.out (fun x=>x);have v8:=ZG g8 _ (Fr.refl _ _);have G8:=hid g8;have Z8:=hid (f8.heap ZR7.out (fun x=>x));have C8:=hid (HA7.out.on f8);have RN8:=hid (RN7.out.on f8);have ST8:=hid (ST7.out.trans (Stp.of f8))
     have SL8:=hid (show∀k,S' k→k<w8.heap.size from fun k hk=>ST8.out.lt (fun j hj=>by have:=HS2.out;rcases hj with hj|hj;have:=HS.out j hj;omega;omega) k (.inl hk));have SZ8:=hid (show w.heap.size+2≤w8.heap.size by have:=ST8.out.fr.size;have:=HS2.out;omega);clear g8 f8 f8' vq;go_wp2_with fail;refine(HPT.out w8).mono ?_;rintro z w9 ⟨pv,rfl,op9,hn9,f9⟩;obtain⟨pa,pc,rfl⟩:=Zb op9;have hpo:PrO (A2 S' O w.heap.size) w9 ps (.slice pa ps.length pc):=⟨op9,fun k hk hA=>by
      have:=hn9 k hk;rcases hA with hA|hA|hA
      ·have:=SL8.out k hA;omega
      ·have:=HO.out k hA;have:=SZ8.out;omega
      ·have:=SZ8.out;omega⟩
     have g9:=f9.heap G8.out (fun x=>x);have z9:=f9.heap Z8.out (fun x=>x);have v9:=ZG g9 _ (Fr.refl _ _);have g10:(w9.setCell ⟨w.heap.size+1,2,none⟩ (.slice pa ps.length pc)).heap[w.heap.size+1]? =some (.cells #[.string ⟨tx.toArray⟩,.nilIface,.slice pa ps.length pc,.int .i64 0,.bool false,.bool false,.string ⟨#[]⟩] 33 (0,0)):=Za g9 2 _;have z10:=Zc (p:=⟨w.heap.size+1,2,none⟩) z9 (by show w.heap.size≠w.heap.size+1;omega) (.slice pa ps.length pc);have fs:Fr (fun k=>k=w.heap.size+1) w9 (w9.setCell ⟨w.heap.size+1,2,none⟩ (.slice pa ps.length pc)):=(Fr.refl (fun k=>k=w.heap.size+1) w9).setCell (p:=⟨w.heap.size+1,2,none⟩) (fun _=>rfl) _;have c10:=(C8.out.on f9).setg N2.out 2 (.slice pa ps.length pc);obtain⟨w10,hw10⟩:∃w10,w10=w9.setCell ⟨w.heap.size+1,2,none⟩ (.slice pa ps.length pc):=⟨_,rfl⟩;rw[←hw10]at g10 z10 fs c10;have HW10:=hid hw10;have G10:=hid g10;have Z10:=hid z10;have C10:=hid c10
     have RN9:=RN8.out.on f9;have RN10:=hid (RN.keep fs (fun k _ hk=>.inr (.inr (.inr hk))) (fun _ _ x=>x) _ _ RN9:RN (A2 S' O w.heap.size) w10 n .nilIface);have PO10:=hid (hpo.keep fs (fun k hk=>.inr (.inr (.inr hk))) (fun _ _ x=>x):PrO (A2 S' O w.heap.size) w10 ps _);have ST10:=hid ((ST8.out.trans (Stp.of f9)).trans (⟨fs.mono (fun k _ hk=>.inr hk),fun _ _ x=>x,fun hl k hk=>by have:=hl k hk;have:=fs.size;omega⟩:Stp (GS S' (w.heap.size+1)) w9 (GS S' (w.heap.size+1)) w10));have SZ10:=hid (show w8.heap.size≤w10.heap.size by have:=f9.size;have:=fs.size;omega);clear op9 hn9 hpo g9 z9 g10 z10 fs c10 hw10 RN9 f9;go_wp2_with(rw[←HW10.out])
     go_loopw [51] (fun _ wr=>∃(m:Nat) (sub':SV) (s':AdS),Zai l m sub' s'=FF∧l.length<m+s'.at_∧s'.at_≤l.length∧sub'.text=tx∧sub'.tree=n∧sub'.parts=ps∧wr.heap[w.heap.size+1]? =some (.cells (Zdn sub' .nilIface (.slice pa ps.length pc)) 33 (0,0))∧CRd b l x s' S' wr∧Stp (GS S' (w.heap.size+1)) w10 (GS S' (w.heap.size+1)) wr) (fun _ wr=>l.length-Zqd b wr)
     case atStart=>exact⟨l.length+2,_,s3,HFF.out,by omega,hbi,rfl,rfl,rfl,G10.out,C10.out,Stp.refl _ _⟩
     case round=>
      obtain⟨m,sub',s',hF,hm,hat,ht1,ht2,ht3,hg,hc,hst⟩:=hrel;cases m with
      |zero=>omega
      |succ m=>
       rw[Zai]at hF;have hmore:=fun(sub2:SV) (s2:AdS) (h:Zap l sub' s'=(true,sub2,s2))=>Zdl h;have hkeep:=flagC_keep l sub' s';have hFL:=Zlc b (w.heap.size+1) l x S' .nilIface (.slice pa ps.length pc) sub' s' wr hl hat (fun k hk=>hst.lt (fun j hj=>by rcases hj with hj|hj;have:=SL8.out j hj;have:=SZ10.out;omega;have:=SZ10.out;have:=SZ8.out;omega) k (.inl hk)) N2.out hg hc;have hatw:=Zft hc;obtain⟨FL,hFLe⟩:∃FL,Zap l sub' s'=FL:=⟨_,rfl⟩;obtain⟨q,sub2,s2'⟩:=FL;rw[hFLe]at hF hmore hkeep hFL;simp only at hFL hkeep;have HST:=hid hst;have HFL:=hid hFL;have HATW:=hid hatw;have HKP:=hid (show sub2.text=tx∧sub2.tree=n∧sub2.parts=ps from⟨hkeep.1.trans ht1,hkeep.2.1.trans ht2,hkeep.2.2.trans ht3⟩);clear hst hFL hatw hkeep ht1 ht2 ht3 hg hc hFLe;go_wp2_with fail;refine HFL.out.mono ?_;rintro z wA ⟨rfl,gA,cA,stA⟩;have GA:=hid gA;have CA:=hid cA;have STA:=hid (HST.out.trans stA);clear gA cA stA
       cases q with
       |true=>
        obtain⟨k1,k2⟩:=hmore sub2 s2' rfl;simp only at hF;have HF2:=hid hF;clear hF hmore;go_wp2;go_roundw
        case rel=>exact⟨m,sub2,s2',HF2.out,by omega,k2,HKP.out.1,HKP.out.2.1,HKP.out.2.2,GA.out,CA.out,STA.out⟩
        case measure=>rw[HATW.out,Zft CA.out];omega
       |false=>
        simp only at hF;subst hF;clear hmore HFF;have hzF:=STA.out.fr.heap Z10.out (by rintro(h|h);exact N1.out h;exact absurd h (by omega));have vF:=ZG GA.out _ (Fr.refl _ _);have rF:=ZG hzF _ (Fr.refl _ _);have HZF:=hid (fun v0 v1 v2 v3 v4 v5 v6=>ZZ hzF v0 v1 v2 v3 v4 v5 v6);have FK:=hid (STA.out.fr.weak (fun k hk=>ZpQ (O:=O) (r:=w.heap.size) hk));clear hzF;go_wp2;(try simp only[Exit.inBlock,Exit.then]);refine bodyPost_ret (ZaJ rfl rfl (HZF.out _ _ _ _ _ _ _)) rfl ⟨.nilIface,_,S',rfl,?_,?_,CA.out.keep (Zh _ _ _ _ _ _ _ _ _) (fun k hk e=>N1.out (by have hk:k=_:=hk;rw[←hk];exact e)),ZcG F2.out HS2.out HS.out (ST10.out.trans STA.out) (Zh _ _ _ _ _ _ _ _ _)⟩
        ·show RN (SO S' O) _ sub2.tree .nilIface;rw[HKP.out.2.1];exact RN.keep (FK.out.trans (Zh _ _ _ _ _ _ _ _ _) (fun i hi h=>.inr (.inr (.inl h)))) (fun _ _ hk=>hk) (fun _ _ hk=>A2.so hk) _ _ RN10.out
        ·show PrO (SO S' O) _ sub2.parts _;rw[HKP.out.2.2];exact PO10.out.keep (FK.out.trans (Zh _ _ _ _ _ _ _ _ _) (fun i hi h=>.inr (.inr (.inl h)))) (fun _ hk=>hk) (fun _ _ hk=>A2.so hk)
    ·skip
     go_wp2_with(rw[←HW6.out]);refine(HB.out S' w6 C6.out).mono ?_;rintro z w7 ⟨rfl,h7,st7⟩;have HA7:=hid h7;have G7:=hid (st7.fr.heap G6.out N2.out);have ZR7:=hid (st7.fr.heap Z6.out N1.out);have RN7:=hid (RN.keep st7.fr (fun k _ hk=>.inl hk) (fun k _ hk=>hk) _ _ RN6.out:RN (A2 S' O w.heap.size) w7 n _);have ST7:=hid (ST6.out.trans (Stp.gs st7 (lt_heap G6.out)));clear h7 st7;go_wp2_with fail;refine(cm_ok b l x s3 S' w7 HA7.out).mono ?_;rintro z wq ⟨rfl,fq⟩;have vq:=ZG (fq.heap G7.out (fun x=>x)) _ (Fr.refl _ _);have RNq:=hid (RN7.out.on fq);have FQ:=hid fq;clear fq;simp only[e3];go_wp2_with fail;refine(groups_any _ n _ _ (Nat.le_refl _) hRz RNq.out.none).mono ?_;rintro z w8 ⟨rfl,f8'⟩;have f8:=FQ.out.trans' f8';have g8:=f8.heap G7.out (fun x=>x);have v8:=ZG g8 _ (Fr.refl _ _);have G8:=hid g8;have Z8:=hid (f8.heap ZR7.out (fun x=>x));have C8:=hid (HA7.out.on f8);have RN8:=hid (RN7.out.on f8);have ST8:=hid (ST7.out.trans (Stp.of f8))
     have SL8:=hid (show∀k,S' k→k<w8.heap.size from fun k hk=>ST8.out.lt (fun j hj=>by have:=HS2.out;rcases hj with hj|hj;have:=HS.out j hj;omega;omega) k (.inl hk));have SZ8:=hid (show w.heap.size+2≤w8.heap.size by have:=ST8.out.fr.size;have:=HS2.out;omega);clear g8 f8 f8' vq;go_wp2_with fail;refine(HPT.out w8).mono ?_;rintro z w9 ⟨pv,rfl,op9,hn9,f9⟩;obtain⟨pa,pc,rfl⟩:=Zb op9;have hpo:PrO (A2 S' O w.heap.size) w9 ps (.slice pa ps.length pc):=⟨op9,fun k hk hA=>by
      have:=hn9 k hk;rcases hA with hA|hA|hA
      ·have:=SL8.out k hA;omega
      ·have:=HO.out k hA;have:=SZ8.out;omega
      ·have:=SZ8.out;omega⟩
     have g9:=f9.heap G8.out (fun x=>x);have z9:=f9.heap Z8.out (fun x=>x);have v9:=ZG g9 _ (Fr.refl _ _);have g10:(w9.setCell ⟨w.heap.size+1,2,none⟩ (.slice pa ps.length pc)).heap[w.heap.size+1]? =some (.cells #[.string ⟨tx.toArray⟩,(.iface iu yu),.slice pa ps.length pc,.int .i64 0,.bool false,.bool false,.string ⟨#[]⟩] 33 (0,0)):=Za g9 2 _;have z10:=Zc (p:=⟨w.heap.size+1,2,none⟩) z9 (by show w.heap.size≠w.heap.size+1;omega) (.slice pa ps.length pc);have fs:Fr (fun k=>k=w.heap.size+1) w9 (w9.setCell ⟨w.heap.size+1,2,none⟩ (.slice pa ps.length pc)):=(Fr.refl (fun k=>k=w.heap.size+1) w9).setCell (p:=⟨w.heap.size+1,2,none⟩) (fun _=>rfl) _;have c10:=(C8.out.on f9).setg N2.out 2 (.slice pa ps.length pc);obtain⟨w10,hw10⟩:∃w10,w10=w9.setCell ⟨w.heap.size+1,2,none⟩ (.slice pa ps.length pc):=⟨_,rfl⟩;rw[←hw10]at g10 z10 fs c10;have HW10:=hid hw10;have G10:=hid g10;have Z10:=hid z10;have C10:=hid c10
     have RN9:=RN8.out.on f9;have RN10:=hid (RN.keep fs (fun k _ hk=>.inr (.inr (.inr hk))) (fun _ _ x=>x) _ _ RN9:RN (A2 S' O w.heap.size) w10 n (.iface iu yu));have PO10:=hid (hpo.keep fs (fun k hk=>.inr (.inr (.inr hk))) (fun _ _ x=>x):PrO (A2 S' O w.heap.size) w10 ps _);have ST10:=hid ((ST8.out.trans (Stp.of f9)).trans (⟨fs.mono (fun k _ hk=>.inr hk),fun _ _ x=>x,fun hl k hk=>by have:=hl k hk;have:=fs.size;omega⟩:Stp (GS S' (w.heap.size+1)) w9 (GS S' (w.heap.size+1)) w10));have SZ10:=hid (show w8.heap.size≤w10.heap.size by have:=f9.size;have:=fs.size;omega);clear op9 hn9 hpo g9 z9 g10 z10 fs c10 hw10 RN9 f9;go_wp2_with(rw[←HW10.out])
     go_loopw [51] (fun _ wr=>∃(m:Nat) (sub':SV) (s':AdS),Zai l m sub' s'=FF∧l.length<m+s'.at_∧s'.at_≤l.length∧sub'.text=tx∧sub'.tree=n∧sub'.parts=ps∧wr.heap[w.heap.size+1]? =some (.cells (Zdn sub' (.iface iu yu) (.slice pa ps.length pc)) 33 (0,0))∧CRd b l x s' S' wr∧Stp (GS S' (w.heap.size+1)) w10 (GS S' (w.heap.size+1)) wr) (fun _ wr=>l.length-Zqd b wr)
     case atStart=>exact⟨l.length+2,_,s3,HFF.out,by omega,hbi,rfl,rfl,rfl,G10.out,C10.out,Stp.refl _ _⟩
     case round=>
      obtain⟨m,sub',s',hF,hm,hat,ht1,ht2,ht3,hg,hc,hst⟩:=hrel;cases m with
      |zero=>omega
      |succ m=>
       rw[Zai]at hF;have hmore:=fun(sub2:SV) (s2:AdS) (h:Zap l sub' s'=(true,sub2,s2))=>Zdl h;have hkeep:=flagC_keep l sub' s';have hFL:=Zlc b (w.heap.size+1) l x S' (.iface iu yu) (.slice pa ps.length pc) sub' s' wr hl hat (fun k hk=>hst.lt (fun j hj=>by rcases hj with hj|hj;have:=SL8.out j hj;have:=SZ10.out;omega;have:=SZ10.out;have:=SZ8.out;omega) k (.inl hk)) N2.out hg hc;have hatw:=Zft hc;obtain⟨FL,hFLe⟩:∃FL,Zap l sub' s'=FL:=⟨_,rfl⟩;obtain⟨q,sub2,s2'⟩:=FL;rw[hFLe]at hF hmore hkeep hFL;simp only at hFL hkeep;have HST:=hid hst;have HFL:=hid hFL;have HATW:=hid hatw;have HKP:=hid (show sub2.text=tx∧sub2.tree=n∧sub2.parts=ps from⟨hkeep.1.trans ht1,hkeep.2.1.trans ht2,hkeep.2.2.trans ht3⟩);clear hst hFL hatw hkeep ht1 ht2 ht3 hg hc hFLe;go_wp2_with fail;refine HFL.out.mono ?_;rintro z wA ⟨rfl,gA,cA,stA⟩;have GA:=hid gA;have CA:=hid cA;have STA:=hid (HST.out.trans stA)
       clear gA cA stA;cases q with
       |true=>
        obtain⟨k1,k2⟩:=hmore sub2 s2' rfl;simp only at hF;have HF2:=hid hF;clear hF hmore;go_wp2;go_roundw
        case rel=>exact⟨m,sub2,s2',HF2.out,by omega,k2,HKP.out.1,HKP.out.2.1,HKP.out.2.2,GA.out,CA.out,STA.out⟩
        case measure=>rw[HATW.out,Zft CA.out];omega
       |false=>
        simp only at hF;subst hF;clear hmore HFF;have hzF:=STA.out.fr.heap Z10.out (by rintro(h|h);exact N1.out h;exact absurd h (by omega));have vF:=ZG GA.out _ (Fr.refl _ _);have rF:=ZG hzF _ (Fr.refl _ _);have HZF:=hid (fun v0 v1 v2 v3 v4 v5 v6=>ZZ hzF v0 v1 v2 v3 v4 v5 v6);have FK:=hid (STA.out.fr.weak (fun k hk=>ZpQ (O:=O) (r:=w.heap.size) hk));clear hzF;go_wp2;(try simp only[Exit.inBlock,Exit.then]);refine bodyPost_ret (ZaJ rfl rfl (HZF.out _ _ _ _ _ _ _)) rfl ⟨(.iface iu yu),_,S',rfl,?_,?_,CA.out.keep (Zh _ _ _ _ _ _ _ _ _) (fun k hk e=>N1.out (by have hk:k=_:=hk;rw[←hk];exact e)),ZcG F2.out HS2.out HS.out (ST10.out.trans STA.out) (Zh _ _ _ _ _ _ _ _ _)⟩
        ·show RN (SO S' O) _ sub2.tree (.iface iu yu);rw[HKP.out.2.1];exact RN.keep (FK.out.trans (Zh _ _ _ _ _ _ _ _ _) (fun i hi h=>.inr (.inr (.inl h)))) (fun _ _ hk=>hk) (fun _ _ hk=>A2.so hk) _ _ RN10.out
        ·show PrO (SO S' O) _ sub2.parts _;rw[HKP.out.2.2];exact PO10.out.keep (FK.out.trans (Zh _ _ _ _ _ _ _ _ _) (fun i hi h=>.inr (.inr (.inl h)))) (fun _ hk=>hk) (fun _ _ hk=>A2.so hk)
   ·have hif4:pe≠0:=hpe;simp only[ne_eq,hpe,not_false_eq_true,if_true];go_enter Tryz.func92,Tryz.ntmps92;go_wp2_with(first|rw[←HW1.out]|rw[HS1.out]|rw[←HW2.out]);refine HDL.out.mono ?_;rintro z w3 ⟨rfl,h3',st3⟩;have H3:=hid h3';have ST3:=hid st3;clear h3' st3;go_wp2_with fail;refine(cm_ok b l x s1 S w3 H3.out).mono ?_;rintro z w4 ⟨rfl,f4⟩;have hr4:∀k,S k→k<w4.heap.size:=fun k hk=>by have:=HS.out k hk;have:=ST3.out.fr.size;have:=HS2.out;have:=f4.size;omega
    have hO4:∀k,(O k∨(k=w.heap.size∨k=w.heap.size+1))→k<w4.heap.size:=fun k hk=>by
     have:=ST3.out.fr.size;have:=HS2.out;have:=f4.size;rcases hk with hk|hk|hk
     ·have:=HO.out k hk;omega
     ·omega
     ·omega
    have hW4:Fr nob W0 w4:=(((Stp.of F2.out).trans ST3.out).trans (Stp.of f4)).from HWW.out HSW.out;have z4:=f4.heap (ST3.out.fr.heap HZ1.out HN1.out) (fun x=>x);have y4:=f4.heap (ST3.out.fr.heap HZ2.out HN2.out) (fun x=>x);have HR4:=hid (HRG.out w4 hr4 hO4 hW4 (H3.out.on f4));have ST4:=hid (ST3.out.trans (Stp.of f4));have Z4:=hid z4;have Y4:=hid y4;have SL4:=hid hr4;clear hr4 hO4 hW4 z4 y4 f4;simp only[e1];go_wp2_with fail;refine HR4.out.mono ?_;rintro z w5 ⟨u,S',rfl,rn5,h5,st5⟩;have z5:=st5.fr.heap Z4.out HN1.out;have y5:=st5.fr.heap Y4.out HN2.out;have hn1:¬S' w.heap.size:=fun e=>HN1.out (st5.old _ (lt_heap Z4.out) e);have hn2:¬S' (w.heap.size+1):=fun e=>HN2.out (st5.old _ (lt_heap Y4.out) e);have sl5:=st5.lt SL4.out;have v5:=ZG y5 _ (Fr.refl _ _);have g6:((w5.setCell ⟨w.heap.size+1,0,none⟩ (.string ⟨tx.toArray⟩)).setCell ⟨w.heap.size+1,1,none⟩ u).heap[w.heap.size+1]? =some (.cells #[.string ⟨tx.toArray⟩,u,.slice none 0 0,.int .i64 0,.bool false,.bool false,.string ⟨#[]⟩] 33 (0,0)):=Za (Za y5 0 _) 1 _
    have z6:=Zc (p:=⟨w.heap.size+1,1,none⟩) (Zc (p:=⟨w.heap.size+1,0,none⟩) z5 (by show w.heap.size≠w.heap.size+1;omega) (.string ⟨tx.toArray⟩)) (by show w.heap.size≠w.heap.size+1;omega) u;have c6:=(h5.setg hn2 0 (.string ⟨tx.toArray⟩)).setg hn2 1 u;have fs:Fr (fun k=>k=w.heap.size+1) w5 ((w5.setCell ⟨w.heap.size+1,0,none⟩ (.string ⟨tx.toArray⟩)).setCell ⟨w.heap.size+1,1,none⟩ u):=((Fr.refl (fun k=>k=w.heap.size+1) w5).setCell (p:=⟨w.heap.size+1,0,none⟩) (fun _=>rfl) _).setCell (p:=⟨w.heap.size+1,1,none⟩) (fun _=>rfl) _;have v5':=ZG (Za y5 0 (.string ⟨tx.toArray⟩)) _ (Fr.refl _ _);obtain⟨w6,hw6⟩:∃w6,w6=(w5.setCell ⟨w.heap.size+1,0,none⟩ (.string ⟨tx.toArray⟩)).setCell ⟨w.heap.size+1,1,none⟩ u:=⟨_,rfl⟩;rw[←hw6]at g6 z6 c6 fs;have HW6:=hid hw6;have G6:=hid g6;have Z6:=hid z6;have C6:=hid c6;have RN6:=hid (RN.keep fs (fun k _ hk=>.inr (.inr (.inr hk))) (fun _ _ x=>x) _ _ rn5:RN (A2 S' O w.heap.size) w6 n u)
    have SL5:=hid sl5;have N1:=hid hn1;have N2:=hid hn2;have ST6:=hid (show Stp (GS S (w.heap.size+1)) w2 (GS S' (w.heap.size+1)) w6 from((Stp.gs ST4.out (by have:=HS2.out;omega)).trans (Stp.gs st5 (lt_heap Y4.out))).trans ⟨fs.mono (fun k _ hk=>.inr hk),fun _ _ x=>x,fun hl k hk=>by have:=hl k hk;have:=fs.size;omega⟩);have osh:=rn5.shape;obtain⟨mv6,hq6⟩:=c6;have r6:=Zd hq6.blk _ (Fr.refl _ _);clear rn5 h5 st5 z5 y5 hn1 hn2 sl5 g6 z6 hq6 fs hw6;rcases osh with rfl|⟨iu,yu,rfl⟩
    ·skip
     go_wp2_with(rw[←HW6.out]);refine(HB.out S' w6 C6.out).mono ?_;rintro z w7 ⟨rfl,h7,st7⟩;have HA7:=hid h7;have G7:=hid (st7.fr.heap G6.out N2.out);have ZR7:=hid (st7.fr.heap Z6.out N1.out);have RN7:=hid (RN.keep st7.fr (fun k _ hk=>.inl hk) (fun k _ hk=>hk) _ _ RN6.out:RN (A2 S' O w.heap.size) w7 n _);have ST7:=hid (ST6.out.trans (Stp.gs st7 (lt_heap G6.out)));clear h7 st7;go_wp2_with fail;refine(cm_ok b l x s3 S' w7 HA7.out).mono ?_;rintro z wq ⟨rfl,fq⟩;have vq:=ZG (fq.heap G7.out (fun x=>x)) _ (Fr.refl _ _);have RNq:=hid (RN7.out.on fq);have FQ:=hid fq;clear fq;simp only[e3];go_wp2_with fail;refine(groups_any _ n _ _ (Nat.le_refl _) hRz RNq.out.none).mono ?_;rintro z w8 ⟨rfl,f8'⟩;have f8:=FQ.out.trans' f8';have g8:=f8.heap G7.out (fun x=>x);have v8:=ZG g8 _ (Fr.refl _ _);have G8:=hid g8;have Z8:=hid (f8.heap ZR7.out (fun x=>x));have C8:=hid (HA7.out.on f8);have RN8:=hid (RN7.out.on f8);have ST8:=hid (ST7.out.trans (Stp.of f8))
     have SL8:=hid (show∀k,S' k→k<w8.heap.size from fun k hk=>ST8.out.lt (fun j hj=>by have:=HS2.out;rcases hj with hj|hj;have:=HS.out j hj;omega;omega) k (.inl hk));have SZ8:=hid (show w.heap.size+2≤w8.heap.size by have:=ST8.out.fr.size;have:=HS2.out;omega);clear g8 f8 f8' vq;go_wp2_with fail;refine(HPT.out w8).mono ?_;rintro z w9 ⟨pv,rfl,op9,hn9,f9⟩;obtain⟨pa,pc,rfl⟩:=Zb op9;have pe1:(pe !=0)=true:=by simpa using hpe
     have F9:=hid f9;clear op9 hn9 f9;go_wp2_with fail;refine(cm_fail b l x s3 S' pe s2.at_ w9 (C8.out.on F9.out)).mono ?_;rintro z wA ⟨rfl,cA,stA⟩;have CA:=hid cA;have STA:=hid (((Stp.of F9.out:Stp S' w8 S' w9).trans stA));have GA:=hid (stA.fr.heap (F9.out.heap G8.out (fun x=>x)) N2.out);have hzF:=stA.fr.heap (F9.out.heap Z8.out (fun x=>x)) N1.out;have vF:=ZG GA.out _ (Fr.refl _ _);have rF:=ZG hzF _ (Fr.refl _ _);have HZF:=hid (fun v0 v1 v2 v3 v4 v5 v6=>ZZ hzF v0 v1 v2 v3 v4 v5 v6);clear hzF cA stA;go_wp2;(try simp only[Exit.inBlock,Exit.then]);refine bodyPost_ret (ZaJ rfl rfl (HZF.out _ _ _ _ _ _ _)) rfl ⟨.nilIface,_,S',rfl,?_,PrO.nil _ _,CA.out.keep (Zh _ _ _ _ _ _ _ _ _) (fun k hk e=>N1.out (by have hk:k=_:=hk;rw[←hk];exact e)),ZcG F2.out HS2.out HS.out (ST8.out.trans (Stp.gs STA.out (lt_heap G8.out))) (Zh _ _ _ _ _ _ _ _ _)⟩;exact RN.keep ((STA.out.fr.weak (fun k hk=>.inl hk)).trans (Zh _ _ _ _ _ _ _ _ _) (fun i hi h=>.inr (.inr (.inl h)))) (fun _ _ hk=>hk) (fun _ _ hk=>A2.so hk) _ _ RN8.out
    ·skip
     go_wp2_with(rw[←HW6.out]);refine(HB.out S' w6 C6.out).mono ?_;rintro z w7 ⟨rfl,h7,st7⟩;have HA7:=hid h7;have G7:=hid (st7.fr.heap G6.out N2.out);have ZR7:=hid (st7.fr.heap Z6.out N1.out);have RN7:=hid (RN.keep st7.fr (fun k _ hk=>.inl hk) (fun k _ hk=>hk) _ _ RN6.out:RN (A2 S' O w.heap.size) w7 n _);have ST7:=hid (ST6.out.trans (Stp.gs st7 (lt_heap G6.out)));clear h7 st7;go_wp2_with fail;refine(cm_ok b l x s3 S' w7 HA7.out).mono ?_;rintro z wq ⟨rfl,fq⟩;have vq:=ZG (fq.heap G7.out (fun x=>x)) _ (Fr.refl _ _);have RNq:=hid (RN7.out.on fq);have FQ:=hid fq;clear fq;simp only[e3];go_wp2_with fail;refine(groups_any _ n _ _ (Nat.le_refl _) hRz RNq.out.none).mono ?_;rintro z w8 ⟨rfl,f8'⟩;have f8:=FQ.out.trans' f8';have g8:=f8.heap G7.out (fun x=>x);have v8:=ZG g8 _ (Fr.refl _ _);have G8:=hid g8;have Z8:=hid (f8.heap ZR7.out (fun x=>x));have C8:=hid (HA7.out.on f8);have RN8:=hid (RN7.out.on f8);have ST8:=hid (ST7.out.trans (Stp.of f8))
     have SL8:=hid (show∀k,S' k→k<w8.heap.size from fun k hk=>ST8.out.lt (fun j hj=>by have:=HS2.out;rcases hj with hj|hj;have:=HS.out j hj;omega;omega) k (.inl hk));have SZ8:=hid (show w.heap.size+2≤w8.heap.size by have:=ST8.out.fr.size;have:=HS2.out;omega);clear g8 f8 f8' vq;go_wp2_with fail;refine(HPT.out w8).mono ?_;rintro z w9 ⟨pv,rfl,op9,hn9,f9⟩;obtain⟨pa,pc,rfl⟩:=Zb op9;have pe1:(pe !=0)=true:=by simpa using hpe
     have F9:=hid f9;clear op9 hn9 f9;go_wp2_with fail;refine(cm_fail b l x s3 S' pe s2.at_ w9 (C8.out.on F9.out)).mono ?_;rintro z wA ⟨rfl,cA,stA⟩;have CA:=hid cA;have STA:=hid (((Stp.of F9.out:Stp S' w8 S' w9).trans stA));have GA:=hid (stA.fr.heap (F9.out.heap G8.out (fun x=>x)) N2.out);have hzF:=stA.fr.heap (F9.out.heap Z8.out (fun x=>x)) N1.out;have vF:=ZG GA.out _ (Fr.refl _ _);have rF:=ZG hzF _ (Fr.refl _ _);have HZF:=hid (fun v0 v1 v2 v3 v4 v5 v6=>ZZ hzF v0 v1 v2 v3 v4 v5 v6);clear hzF cA stA;go_wp2;(try simp only[Exit.inBlock,Exit.then]);refine bodyPost_ret (ZaJ rfl rfl (HZF.out _ _ _ _ _ _ _)) rfl ⟨(.iface iu yu),_,S',rfl,?_,PrO.nil _ _,CA.out.keep (Zh _ _ _ _ _ _ _ _ _) (fun k hk e=>N1.out (by have hk:k=_:=hk;rw[←hk];exact e)),ZcG F2.out HS2.out HS.out (ST8.out.trans (Stp.gs STA.out (lt_heap G8.out))) (Zh _ _ _ _ _ _ _ _ _)⟩;exact RN.keep ((STA.out.fr.weak (fun k hk=>.inl hk)).trans (Zh _ _ _ _ _ _ _ _ _) (fun i hi h=>.inr (.inr (.inl h)))) (fun _ _ hk=>hk) (fun _ _ hk=>A2.so hk) _ _ RN8.out
  ·have hif3:s3.e≠0:=h3;simp only[if_pos hif3];have e3:(s3.e==0)=false:=by simpa using h3
   go_enter Tryz.func92,Tryz.ntmps92;go_wp2_with(first|rw[←HW1.out]|rw[HS1.out]|rw[←HW2.out]);refine HDL.out.mono ?_;rintro z w3 ⟨rfl,h3',st3⟩;have H3:=hid h3';have ST3:=hid st3;clear h3' st3;go_wp2_with fail;refine(cm_ok b l x s1 S w3 H3.out).mono ?_;rintro z w4 ⟨rfl,f4⟩;have hr4:∀k,S k→k<w4.heap.size:=fun k hk=>by have:=HS.out k hk;have:=ST3.out.fr.size;have:=HS2.out;have:=f4.size;omega
   have hO4:∀k,(O k∨(k=w.heap.size∨k=w.heap.size+1))→k<w4.heap.size:=fun k hk=>by
    have:=ST3.out.fr.size;have:=HS2.out;have:=f4.size;rcases hk with hk|hk|hk
    ·have:=HO.out k hk;omega
    ·omega
    ·omega
   have hW4:Fr nob W0 w4:=(((Stp.of F2.out).trans ST3.out).trans (Stp.of f4)).from HWW.out HSW.out;have z4:=f4.heap (ST3.out.fr.heap HZ1.out HN1.out) (fun x=>x);have y4:=f4.heap (ST3.out.fr.heap HZ2.out HN2.out) (fun x=>x);have HR4:=hid (HRG.out w4 hr4 hO4 hW4 (H3.out.on f4));have ST4:=hid (ST3.out.trans (Stp.of f4));have Z4:=hid z4;have Y4:=hid y4;have SL4:=hid hr4;clear hr4 hO4 hW4 z4 y4 f4;simp only[e1];go_wp2_with fail;refine HR4.out.mono ?_;rintro z w5 ⟨u,S',rfl,rn5,h5,st5⟩;have z5:=st5.fr.heap Z4.out HN1.out;have y5:=st5.fr.heap Y4.out HN2.out;have hn1:¬S' w.heap.size:=fun e=>HN1.out (st5.old _ (lt_heap Z4.out) e);have hn2:¬S' (w.heap.size+1):=fun e=>HN2.out (st5.old _ (lt_heap Y4.out) e);have sl5:=st5.lt SL4.out;have v5:=ZG y5 _ (Fr.refl _ _);have g6:((w5.setCell ⟨w.heap.size+1,0,none⟩ (.string ⟨tx.toArray⟩)).setCell ⟨w.heap.size+1,1,none⟩ u).heap[w.heap.size+1]? =some (.cells #[.string ⟨tx.toArray⟩,u,.slice none 0 0,.int .i64 0,.bool false,.bool false,.string ⟨#[]⟩] 33 (0,0)):=Za (Za y5 0 _) 1 _
   have z6:=Zc (p:=⟨w.heap.size+1,1,none⟩) (Zc (p:=⟨w.heap.size+1,0,none⟩) z5 (by show w.heap.size≠w.heap.size+1;omega) (.string ⟨tx.toArray⟩)) (by show w.heap.size≠w.heap.size+1;omega) u;have c6:=(h5.setg hn2 0 (.string ⟨tx.toArray⟩)).setg hn2 1 u;have fs:Fr (fun k=>k=w.heap.size+1) w5 ((w5.setCell ⟨w.heap.size+1,0,none⟩ (.string ⟨tx.toArray⟩)).setCell ⟨w.heap.size+1,1,none⟩ u):=((Fr.refl (fun k=>k=w.heap.size+1) w5).setCell (p:=⟨w.heap.size+1,0,none⟩) (fun _=>rfl) _).setCell (p:=⟨w.heap.size+1,1,none⟩) (fun _=>rfl) _;have v5':=ZG (Za y5 0 (.string ⟨tx.toArray⟩)) _ (Fr.refl _ _);obtain⟨w6,hw6⟩:∃w6,w6=(w5.setCell ⟨w.heap.size+1,0,none⟩ (.string ⟨tx.toArray⟩)).setCell ⟨w.heap.size+1,1,none⟩ u:=⟨_,rfl⟩;rw[←hw6]at g6 z6 c6 fs;have HW6:=hid hw6;have G6:=hid g6;have Z6:=hid z6;have C6:=hid c6;have RN6:=hid (RN.keep fs (fun k _ hk=>.inr (.inr (.inr hk))) (fun _ _ x=>x) _ _ rn5:RN (A2 S' O w.heap.size) w6 n u)
   have SL5:=hid sl5;have N1:=hid hn1;have N2:=hid hn2;have ST6:=hid (show Stp (GS S (w.heap.size+1)) w2 (GS S' (w.heap.size+1)) w6 from((Stp.gs ST4.out (by have:=HS2.out;omega)).trans (Stp.gs st5 (lt_heap Y4.out))).trans ⟨fs.mono (fun k _ hk=>.inr hk),fun _ _ x=>x,fun hl k hk=>by have:=hl k hk;have:=fs.size;omega⟩);have osh:=rn5.shape;obtain⟨mv6,hq6⟩:=c6;have r6:=Zd hq6.blk _ (Fr.refl _ _);clear rn5 h5 st5 z5 y5 hn1 hn2 sl5 g6 z6 hq6 fs hw6;rcases osh with rfl|⟨iu,yu,rfl⟩
   ·skip
    go_wp2_with(rw[←HW6.out]);refine(HB.out S' w6 C6.out).mono ?_;rintro z w7 ⟨rfl,h7,st7⟩;have HA7:=hid h7;have G7:=hid (st7.fr.heap G6.out N2.out);have ZR7:=hid (st7.fr.heap Z6.out N1.out);have RN7:=hid (RN.keep st7.fr (fun k _ hk=>.inl hk) (fun k _ hk=>hk) _ _ RN6.out:RN (A2 S' O w.heap.size) w7 n _);have ST7:=hid (ST6.out.trans (Stp.gs st7 (lt_heap G6.out)));clear h7 st7;go_wp2_with fail;refine(cm_ok b l x s3 S' w7 HA7.out).mono ?_;rintro z wq ⟨rfl,fq⟩;have vq:=ZG (fq.heap G7.out (fun x=>x)) _ (Fr.refl _ _);have RNq:=hid (RN7.out.on fq);have FQ:=hid fq;clear fq;simp only[e3];have GA:=hid (FQ.out.heap G7.out (fun x=>x));have hzF:=FQ.out.heap ZR7.out (fun x=>x);have rF:=ZG hzF _ (Fr.refl _ _);have HZF:=hid (fun v0 v1 v2 v3 v4 v5 v6=>ZZ hzF v0 v1 v2 v3 v4 v5 v6);clear hzF;go_wp2;(try simp only[Exit.inBlock,Exit.then]);refine bodyPost_ret (ZaJ rfl rfl (HZF.out _ _ _ _ _ _ _)) rfl ⟨.nilIface,_,S',rfl,?_,PrO.nil _ _,(HA7.out.on FQ.out).keep (Zh _ _ _ _ _ _ _ _ _) (fun k hk e=>N1.out (by have hk:k=_:=hk;rw[←hk];exact e)),ZcG F2.out HS2.out HS.out (ST7.out.trans (Stp.of FQ.out)) (Zh _ _ _ _ _ _ _ _ _)⟩
    exact RN.keep (FQ.out.any.trans (S:=A2 S' O w.heap.size) (Zh _ _ _ _ _ _ _ _ _) (fun i hi h=>.inr (.inr (.inl h)))) (fun _ _ hk=>hk) (fun _ _ hk=>A2.so hk) _ _ RN7.out
   ·skip
    go_wp2_with(rw[←HW6.out]);refine(HB.out S' w6 C6.out).mono ?_;rintro z w7 ⟨rfl,h7,st7⟩;have HA7:=hid h7;have G7:=hid (st7.fr.heap G6.out N2.out);have ZR7:=hid (st7.fr.heap Z6.out N1.out);have RN7:=hid (RN.keep st7.fr (fun k _ hk=>.inl hk) (fun k _ hk=>hk) _ _ RN6.out:RN (A2 S' O w.heap.size) w7 n _);have ST7:=hid (ST6.out.trans (Stp.gs st7 (lt_heap G6.out)));clear h7 st7;go_wp2_with fail;refine(cm_ok b l x s3 S' w7 HA7.out).mono ?_;rintro z wq ⟨rfl,fq⟩;have vq:=ZG (fq.heap G7.out (fun x=>x)) _ (Fr.refl _ _);have RNq:=hid (RN7.out.on fq);have FQ:=hid fq;clear fq;simp only[e3];have GA:=hid (FQ.out.heap G7.out (fun x=>x));have hzF:=FQ.out.heap ZR7.out (fun x=>x);have rF:=ZG hzF _ (Fr.refl _ _);have HZF:=hid (fun v0 v1 v2 v3 v4 v5 v6=>ZZ hzF v0 v1 v2 v3 v4 v5 v6);clear hzF;go_wp2;(try simp only[Exit.inBlock,Exit.then]);refine bodyPost_ret (ZaJ rfl rfl (HZF.out _ _ _ _ _ _ _)) rfl ⟨(.iface iu yu),_,S',rfl,?_,PrO.nil _ _,(HA7.out.on FQ.out).keep (Zh _ _ _ _ _ _ _ _ _) (fun k hk e=>N1.out (by have hk:k=_:=hk;rw[←hk];exact e)),ZcG F2.out HS2.out HS.out (ST7.out.trans (Stp.of FQ.out)) (Zh _ _ _ _ _ _ _ _ _)⟩
    exact RN.keep (FQ.out.any.trans (S:=A2 S' O w.heap.size) (Zh _ _ _ _ _ _ _ _ _) (fun i hi h=>.inr (.inr (.inl h)))) (fun _ _ hk=>hk) (fun _ _ hk=>A2.so hk) _ _ RN7.out
 ·have hif1:s1.e≠0:=h1;simp only[if_pos hif1];have e1:(s1.e==0)=false:=by simpa using h1
  go_enter Tryz.func92,Tryz.ntmps92;go_wp2_with(first|rw[←HW1.out]|rw[HS1.out]|rw[←HW2.out]);refine HDL.out.mono ?_;rintro z w3 ⟨rfl,h3',st3⟩;have H3:=hid h3';have ST3:=hid st3;clear h3' st3;go_wp2_with fail;refine(cm_ok b l x s1 S w3 H3.out).mono ?_;rintro z w4 ⟨rfl,f4⟩;have z4:=f4.heap (ST3.out.fr.heap HZ1.out HN1.out) (fun x=>x);have y4:=f4.heap (ST3.out.fr.heap HZ2.out HN2.out) (fun x=>x);have vF:=ZG y4 _ (Fr.refl _ _);have rF:=ZG z4 _ (Fr.refl _ _);have HZF:=hid (fun v0 v1 v2 v3 v4 v5 v6=>ZZ z4 v0 v1 v2 v3 v4 v5 v6);have F4:=hid f4;clear z4 y4 f4;simp only[e1];go_wp2;(try simp only[Exit.inBlock,Exit.then]);refine bodyPost_ret (ZaJ rfl rfl (HZF.out _ _ _ _ _ _ _)) rfl ⟨.nilIface,_,S,rfl,(by show RN _ _ Nd.nil _;rw[RN]),PrO.nil _ _,(H3.out.on F4.out).keep (Zh _ _ _ _ _ _ _ _ _) (fun k hk e=>HN1.out (by have hk:k=_:=hk;rw[←hk];exact e)),ZcG F2.out HS2.out HS.out (Stp.gs (ST3.out.trans (Stp.of F4.out)) (by have:=HS2.out;omega)) (Zh _ _ _ _ _ _ _ _ _)⟩
section
variable {l:List UInt8} {s:AdS} {N:Nat}
theorem Z0(e:Int)(p:Nat)(h:s.marks.length≤N):(failC s e p).marks.length≤N:=by unfold failC;split<;>assumption
theorem Zba(e:Int)(p:Nat)(h:s.marks.length≤N):(ZV s p e).marks.length≤N:=by unfold ZV;split<;>assumption
theorem ZgN(must:Bool)(h:s.marks.length≤N):(labelC l must s).2.marks.length≤N:=by
 unfold labelC;split
 ·exact Zba _ _ h
 ·exact Zba _ _ h
theorem ZiI(h:s.marks.length≤N):(ZaR l s).2.marks.length≤N:=by
 unfold ZaR;split
 ·exact Z0 _ _ h
 ·exact Zba _ _ h
theorem Zld(b:Nat)(h:s.marks.length≤N):(Zah l b s).2.marks.length≤N+1:=by
 unfold Zah;simp only;have h1:(s.to (bhd l [32,9] s.at_)).marks.length≤N+1:=Nat.le_succ_of_le h;split
 ·exact Z0 _ _ h1
 ·split
  ·exact Z0 _ _ h1
  ·split
   ·exact Zba _ _ h1
   ·refine Zba _ _ ?_;show(s.marks++[_]).length≤N+1;rw[List.length_append];simpa using h
theorem ZgO(h:s.marks.length≤N):(Zv l s).2.marks.length≤N:=by
 unfold Zv;split
 ·exact Z0 _ _ h
 ·split
  ·exact Z0 _ _ h
  ·exact h
theorem ZdS(d:UInt8)(rx:Bool)(h:s.marks.length≤N):(Zr l d rx s).2.marks.length≤N:=by
 unfold Zr;split
 ·exact h
 ·exact Zba _ _ h
theorem ZmM(d:UInt8)(rx:Bool):(Zr l d rx s).1.length≤l.length:=by
 unfold Zr;split
 ·exact Nat.zero_le _
 ·have:=ZdC l d rx (l.length+1) s.at_ [];simp only[List.length_nil]at this;show(bt l d rx (l.length+1) s.at_ []).1.length≤_;omega
theorem Zle(x:Bool)(d:UInt8)(hs:s.at_≤l.length)(h:s.marks.length≤N):(Zav x l d s).2.marks.length≤N+l.length:=by
 unfold Zav;simp only;have hb:=ZdS (l:=l) d true h;have hb':=ZmM (l:=l) (s:=s) d true;have h2:(if(Zr l d true s).2.e=0∧(Zr l d true s).1=[]then failC (Zr l d true s).2 2 s.at_ else(Zr l d true s).2).marks.length≤N:=by
  split
  ·exact Z0 _ _ hb
  ·exact hb
 generalize(if(Zr l d true s).2.e=0∧(Zr l d true s).1=[]then failC (Zr l d true s).2 2 s.at_ else(Zr l d true s).2)=s2 at h2⊢;split
 ·exact Nat.le_trans h2 (Nat.le_add_right _ _)
 ·cases hp:Zac prg x (Zr l d true s).1 with
  |inl z=>exact Nat.le_trans (Z0 _ _ h2) (Nat.le_add_right _ _)
  |inr z=>
   obtain⟨n,r⟩:=z;have h3:=(parseD_marks hp).2.1;show(s2.marks++r.marks.map (shM s.at_)).length≤_;rw[List.length_append,List.length_map];omega
theorem ZmN(sub:SV)(h:s.marks.length≤N):(Zap l sub s).2.2.marks.length≤N:=by
 unfold Zap;split
 ·simp only;split;exact Z0 _ _ h;exact h
 ·split
  ·simp only;split;exact Z0 _ _ h;exact h
  ·split
   ·simp only;split
    ·exact Z0 _ _ h
    ·have hm:=Zba (nm s.at_ (l.drop s.at_) 0 0).2.2 (nm s.at_ (l.drop s.at_) 0 0).2.1 h;split
     ·exact Z0 _ _ hm
     ·exact hm
   ·split
    ·exact ZiI h
    ·exact h
theorem ZgP:∀(n:Nat) (sub:SV) (s:AdS),s.marks.length≤N→(Zai l n sub s).2.marks.length≤N
 |0,_,_,h=>h
 |n+1,sub,s,h=>by
  rw[Zai];have hf:=ZmN (l:=l) sub h;cases hr:Zap l sub s with
  |mk a b=>
   rw[hr]at hf;obtain⟨b,c⟩:=b;cases a with
   |true=>exact ZgP n b c hf
   |false=>exact hf
theorem Zos(x:Bool)(hs:s.at_≤l.length)(h:s.marks.length≤N):(Zet x l s).2.marks.length≤N+l.length:=by
 unfold Zet;simp only;have h1:=ZgO (l:=l) h;have hs1:=Za7 hs;split
 ·exact Nat.le_trans h1 (Nat.le_add_right _ _)
 ·have h2:=Zle x (Zv l s).1 hs1 h1;have h3:=ZdS (l:=l) (Zv l s).1 false h2;split
  ·exact h3
  ·split
   ·exact Z0 _ _ h3
   ·exact ZgP _ _ _ h3
theorem Zlf(h:s.marks.length≤N):(ZaP l s).2.marks.length≤N:=by
 unfold ZaP;simp only;have h1:=ZgO (l:=l) h;have h2:=ZdS (l:=l) (Zv l s).1 false h1;have h3:=ZdS (l:=l) (Zv l s).1 false h2;split
 ·exact h3
 ·split
  ·exact Z0 _ _ h3
  ·split
   ·exact h3
   ·exact Z0 _ _ h3
theorem Zfu(x:Bool)(c:CV)(hs:s.at_≤l.length)(h:s.marks.length≤N):(argsC x l c s).2.2.marks.length≤N+l.length+1:=by
 unfold argsC;split
 ·show s.marks.length≤_;omega
 split
 ·have:=ZgN (l:=l) true h;show(labelC l true s).2.marks.length≤_;omega
 split
 ·have:=ZgN (l:=l) false h;show(labelC l false s).2.marks.length≤_;omega
 split
 ·have:=Zld (l:=l) c.at_ h;show(Zah l c.at_ s).2.marks.length≤_;omega
 split
 ·have:=ZiI (l:=l) h;show(ZaR l s).2.marks.length≤_;omega
 split
 ·have:=Zos x hs h;show(Zet x l s).2.marks.length≤_;omega
 split
 ·have:=Zlf (l:=l) h;show(ZaP l s).2.marks.length≤_;omega
 ·show s.marks.length≤_;omega
end
theorem Zlg{l:List UInt8}{a b:AV}{s s':AdS}{g:GV}(h:ZgT l a b s=.inr (g,s')):s'.marks=s.marks:=by
 unfold ZgT at h;split at h
 ·split at h
  ·cases h
  ·injection h with h;injection h with _ h;subst h;rfl
 ·injection h with h;injection h with _ h;subst h;rfl
theorem guardD_mk{x:Bool}{l:List UInt8}{p:Nat}{g:GV}{s':AdS}(hp:p≤l.length)(h:ZX x l ⟨p,[],0⟩=.inr (g,s')):s'.marks.length≤2*l.length+2:=by
 unfold ZX at h;cases ha:addrD x l false ⟨p,[],0⟩with
 |inl e=>rw[ha]at h;cases h
 |inr z=>
  obtain⟨a,s1⟩:=z;rw[ha]at h;simp only at h;have h1:s1.marks.length≤([]:List (Nat×List UInt8)).length+l.length+1:=(Zam (s:=⟨p,[],0⟩) hp rfl ha).mks;simp only[List.length_nil]at h1;by_cases hk:a.kind=0
  ·rw[if_pos hk]at h;simp only at h;rw[Zlg h];omega
  ·rw[if_neg hk]at h;cases hb:Zbc x l s1 with
   |inl e=>rw[hb]at h;cases h
   |inr z=>
    obtain⟨b,s2⟩:=z;rw[hb]at h;simp only at h;have h2:=(pairD_in hb).mks;rw[Zlg h];omega
end Go.Proofs.YtkfddjopbocpkaaGreatDoor
