/- Lemmas of this claim. -/
import Derived.Test.YtkfddjopbocpkaaGreatDoorM19
set_option linter.unusedVariables false
set_option linter.unusedSimpArgs false
set_option maxRecDepth 100000
set_option maxHeartbeats 4000000
namespace Go.Proofs.YtkfddjopbocpkaaGreatDoor
open Go.Lib (hid)
open Go.RowKit
abbrev zG:Array Value:= #[.int .i64 0,.int .i64 0,.string ⟨#[]⟩,.nilIface,.int .i64 0,.int .i64 0,.string ⟨#[]⟩,.nilIface,.bool false]
abbrev Zqb(w:World)(g:Nat)(v0 v1 v2 v3:Value):World:=(((w.setCell ⟨g,4,none⟩ v0).setCell ⟨g,5,none⟩ v1).setCell ⟨g,6,none⟩ v2).setCell ⟨g,7,none⟩ v3
theorem Zgl{w:World}{g:Nat}{a0 a1 a2 a3 a4 a5 a6 a7 a8:Value}{T:TypeId}{fr:Nat×Nat}(h:w.heap[g]? =some (.cells #[a0,a1,a2,a3,a4,a5,a6,a7,a8] T fr))(v0 v1 v2 v3:Value):
 (Zqb w g v0 v1 v2 v3).heap[g]? =some (.cells #[a0,a1,a2,a3,v0,v1,v2,v3,a8] T fr):=by
 have h0:=Za h 4 v0;have h1:=Za h0 5 v1;have h2:=Za h1 6 v2;have h3:=Za h2 7 v3;simpa using h3
theorem ZdM(w:World)(g:Nat)(v0 v1 v2 v3:Value):Fr (fun k=>k=g) w (Zqb w g v0 v1 v2 v3):=by
 have h:∀(x:World) (j:Nat) (v:Value),Fr (fun k=>k=g) w x→Fr (fun k=>k=g) w (x.setCell ⟨g,j,none⟩ v):=fun x j v hx=>hx.setCell (p:=⟨g,j,none⟩) (fun _=>rfl) v;exact h _ _ _ (h _ _ _ (h _ _ _ (h _ _ _ (Fr.refl _ _))))
theorem Zk{w:World}{b:Nat}{v0 v1 v2 v3 v4 v5 v6 v7 v8:Value}{T:TypeId}(h:w.heap[b]? =some (.cells #[v0,v1,v2,v3,v4,v5,v6,v7,v8] T (0,0))):∀w',Fr nob w w'→
 (w'.cell? ⟨b,0,none⟩=some v0∧w'.cell? ⟨b,1,none⟩=some v1∧w'.cell? ⟨b,2,none⟩=some v2∧w'.cell? ⟨b,3,none⟩=some v3∧w'.cell? ⟨b,4,none⟩=some v4∧w'.cell? ⟨b,5,none⟩=some v5∧w'.cell? ⟨b,6,none⟩=some v6∧w'.cell? ⟨b,7,none⟩=some v7∧w'.cell? ⟨b,8,none⟩=some v8)∧
 (w'.frozen? ⟨b,0,none⟩=false∧w'.frozen? ⟨b,1,none⟩=false∧w'.frozen? ⟨b,2,none⟩=false∧w'.frozen? ⟨b,3,none⟩=false∧w'.frozen? ⟨b,4,none⟩=false∧w'.frozen? ⟨b,5,none⟩=false∧w'.frozen? ⟨b,6,none⟩=false∧w'.frozen? ⟨b,7,none⟩=false∧w'.frozen? ⟨b,8,none⟩=false):=fun _ f=>by
 have h':=f.heap h (fun x=>x);exact⟨⟨cell_at h' rfl,cell_at h' rfl,cell_at h' rfl,cell_at h' rfl,cell_at h' rfl,cell_at h' rfl,cell_at h' rfl,cell_at h' rfl,cell_at h' rfl⟩,unfrozen_at h' _,unfrozen_at h' _,unfrozen_at h' _,unfrozen_at h' _,unfrozen_at h' _,unfrozen_at h' _,unfrozen_at h' _,unfrozen_at h' _,unfrozen_at h' _⟩
def GS(S:Nat→Prop)(g:Nat):Nat→Prop:=fun k=>S k∨k=g
section
variable {S S':Nat→Prop} {g:Nat} {w w' wX:World}
theorem Stp.gs(h:Stp S w S' w')(hg:g<w.heap.size):Stp (GS S g) w (GS S' g) w':=
 ⟨h.fr.mono (fun _ _ x=>.inl x),fun k hk hx=>hx.elim (fun y=>.inl (h.old k hk y)) .inr,fun hl k hx=>by
  rcases hx with hx|hx
  ·exact h.lt (fun j hj=>hl j (.inl hj)) k hx
  ·subst hx;exact Nat.lt_of_lt_of_le hg h.fr.size⟩
theorem Stp.gset(h:Stp (GS S g) w (GS S' g) wX)(v0 v1 v2 v3:Value):Stp (GS S g) w (GS S' g) (Zqb wX g v0 v1 v2 v3):=
 ⟨h.fr.trans (ZdM wX g v0 v1 v2 v3) (fun k hk hx=>by have hx:k=g:=hx;exact .inr hx),h.old,fun hl k hk=>by have:=h.lt hl k hk;simpa[World.setCell]using this⟩
theorem ARd.gset{b:Nat}{l:List UInt8}{x:Bool}{s:AdS}(h:ARd b l x s S w)(hg:¬S g)(v0 v1 v2 v3:Value):ARd b l x s S (Zqb w g v0 v1 v2 v3):=by
 obtain⟨mv,h⟩:=h;exact⟨mv,h.keep (ZdM w g v0 v1 v2 v3) (fun e=>hg (e▸h.me)) (fun k hk e=>hg (e▸(h.nm k hk).2))⟩
end
def Zoc(b:Nat)(l:List UInt8)(x:Bool)(S O:Nat→Prop)(g:Nat)(k0 n0:Int)(t0:List UInt8)(u0:Value)(w:World)(R:ZlK)(r:Ending)(w':World):Prop:=r=.returned (.tuple #[])∧match R with
 | .inl (z,p)=>∃S' ms,ARd b l x ⟨p,ms,z⟩ S' w'∧¬S' g∧Stp (GS S g) w (GS S' g) w'
 | .inr (a,s')=>∃S' u,ARd b l x s' S' w'∧¬S' g∧Stp (GS S g) w (GS S' g) w'∧
   w'.heap[g]? =some (.cells #[.int .i64 k0,.int .i64 n0,.string ⟨t0.toArray⟩,u0,.int .i64 a.kind,.int .i64 a.line,.string ⟨a.text.toArray⟩,u,.bool false] 30 (0,0))∧RN (SO S' (GS O g)) w' a.tree u
theorem Zfo(b:Nat)(l:List UInt8)(x:Bool)(s:AdS)(S O:Nat→Prop)(g:Nat)(k0 n0:Int)(t0:List UInt8)(u0:Value)(w:World)(hl:l.length≤100000)(ha:s.at_≤l.length)(hm:s.marks.length≤100000)(hs0:s.e=0)(hS:∀k,S k→k<w.heap.size)(hO:∀k,O k→k<w.heap.size)(W0:World)(hE:Env W0)(hW:Fr nob W0 w)(hSW:∀k,S k→W0.heap.size≤k)(h:ARd b l x s S w)
 (hgS:¬S g) (hg:w.heap[g]? =some (.cells #[.int .i64 k0,.int .i64 n0,.string ⟨t0.toArray⟩,u0,.int .i64 0,.int .i64 0,.string ⟨#[]⟩,.nilIface,.bool false] 30 (0,0))):
 Calls Tryz.prog 84 #[.pointer (some ⟨b,0,none⟩),.pointer (some ⟨g,0,none⟩)] w (Zoc b l x S O g k0 n0 t0 u0 w (Zbc x l s)):=by
 obtain⟨at0,ms0,e0⟩:=s;obtain rfl:e0=0:=hs0;have ha:at0≤l.length:=ha;have hm:ms0.length≤100000:=hm;have hglt:=lt_heap hg;have HB:=hid (Zi b l x ⟨at0,ms0,0⟩ S w hl ha h);unfold Zbc;simp only at HB⊢;obtain⟨p1,hp1⟩:∃p1,bhd l [32,9] at0=p1:=⟨_,rfl⟩;have hp1l:p1≤l.length:=by rw[←hp1];exact bhd_le _ _ _
 rw[hp1]at HB⊢;have HG:=hid hg;have HGS:=hid hgS;have HGL:=hid hglt;have HS:=hid hS;have HO:=hid hO;have HE:=hid hE;have HW:=hid hW;have HSW:=hid hSW;have HGK:=hid (fun(S':Nat→Prop) w' (st:Stp S w S' w')=>show¬S' g from fun hx=>hgS (st.old g hglt hx));have HNX:=hid (fun w' (h:ARd b l x ⟨p1,ms0,0⟩ S w')=>Zt b l x ⟨p1,ms0,0⟩ S w' (by omega) h);clear h hp1 hg hgS hglt hS hO hE hW hSW;obtain⟨c,hc⟩:∃c,byt l p1=c:=⟨_,rfl⟩;simp only at HNX;rw[hc]at HNX⊢;by_cases h44:c=44
 ·subst h44;rw[if_pos rfl];rw[show(((44:UInt8).toNat:Nat):Int)=44 from rfl]at HNX;have hat:p1<l.length:=ZaO (by rw[hc];decide);have hwr:IntKind.i64.wrap ((p1:Int)+1)=p1+1:=IntWalk.i64_in _ (by omega);have HB2:=hid (fun w' (h:ARd b l x ⟨p1+1,ms0,0⟩ S w')=>Zi b l x ⟨p1+1,ms0,0⟩ S w' hl (by show p1+1≤_;omega) h);simp only at HB2;obtain⟨p2,hp2⟩:∃p2,bhd l [32,9] (p1+1)=p2:=⟨_,rfl⟩;have hp2l:p2≤l.length:=by rw[←hp2];exact bhd_le _ _ _
  rw[hp2]at HB2⊢;have HAD:=hid (fun w' (hS':∀k,S k→k<w'.heap.size) (hO':∀k,GS O g k→k<w'.heap.size) (hW':Fr nob W0 w') (h:ARd b l x ⟨p2,ms0,0⟩ S w')=>Zal b l x true ⟨p2,ms0,0⟩ S (GS O g) w' hl hp2l hm rfl hS' hO' W0 HE.out hW' HSW.out h);obtain⟨R,hR⟩:∃R,addrD x l true ⟨p2,ms0,0⟩=R:=⟨_,rfl⟩;rw[hR]at HAD⊢;have hin:∀a s',R=.inr (a,s')→s'.e=0∧s'.at_≤l.length:=fun a s' e=>by
   have:=Zam (s:=⟨p2,ms0,0⟩) hp2l rfl (hR.trans e);exact⟨this.ok,this.le⟩
  have her:∀z p,R=.inl (z,p)→z≠0:=fun z p e=>addrD_err (hR.trans e);clear hc hp2 hR;cases R with
  |inl q=>
   obtain⟨z,p⟩:=q;have hz:¬z=0:=her z p rfl;have hz':(z==0)=false:=by simpa using hz
   clear her hin;simp only;go_enter Tryz.func84,Tryz.ntmps84;go_wp2_with fail;refine HB.out.mono ?_;rintro e w1 ⟨rfl,h1,st1⟩;have HN1:=hid (HNX.out w1 h1);have H1:=hid h1;have ST1:=hid st1;clear h1 st1;go_wp2_with fail;refine HN1.out.mono ?_;rintro e w2 ⟨rfl,f2⟩;obtain⟨mv,h2⟩:=H1.out.on f2;have r2:=Zd h2.blk _ (Fr.refl _ _);have h3:=h2.turned 1 (.int .i64 ((p1:Int)+1)) ⟨p1+1,ms0,0⟩ (by simp) rfl;have st3:=(ST1.out.trans (Stp.of f2)).trans (h2.stp 1 (.int .i64 ((p1:Int)+1)));obtain⟨wA,hwA⟩:∃wA,wA=w2.setCell ⟨b,1,none⟩ (.int .i64 ((p1:Int)+1)):=⟨_,rfl⟩;rw[←hwA]at h3 st3;have HWA:=hid hwA;have HBB:=hid (HB2.out wA ⟨mv,h3⟩);have ST3:=hid st3;clear h2 h3 st3 hwA f2;go_wp2_with(rw[←HWA.out]);refine HBB.out.mono ?_;rintro e w4 ⟨rfl,h4,st4⟩;have st:=ST3.out.trans st4;have hsz:=st.fr.size;have HADD:=hid (HAD.out w4 (fun k hk=>by have:=HS.out k hk;omega) (fun k hk=>by rcases hk with hk|hk;have:=HO.out k hk;omega;have:=HGL.out;omega) (st.from HW.out HSW.out) h4)
   have ST:=hid st;clear h4 st4 st hsz r2;go_wp2_with fail;refine HADD.out.mono ?_;intro e w5 he;obtain⟨rfl,S',ms,h5,st5⟩:=he;have st:=ST.out.trans st5;have hgn:=HGK.out S' w5 st;have hg5:=st.fr.heap HG.out HGS.out;have rg:=Zk hg5 _ (Fr.refl _ _);have h6:=h5.gset hgn (.int .i64 0) (.int .i64 0) (.string ⟨#[]⟩) .nilIface;have st6:=(st.gs HGL.out).gset (.int .i64 0) (.int .i64 0) (.string ⟨#[]⟩) .nilIface;obtain⟨w6,hw6⟩:∃w6,w6=(((w5.setCell ⟨g,4,none⟩ (.int .i64 0)).setCell ⟨g,5,none⟩ (.int .i64 0)).setCell ⟨g,6,none⟩ (.string ⟨#[]⟩)).setCell ⟨g,7,none⟩ .nilIface:=⟨_,rfl⟩;have h6:ARd b l x ⟨p,ms,z⟩ S' w6:=by rw[hw6];exact h6
   have st6:Stp (GS S g) w (GS S' g) w6:=by rw[hw6];exact st6
   obtain⟨mv6,h6'⟩:=h6;have r6:=Zd h6'.blk _ (Fr.refl _ _);have HW6:=hid hw6;have H6:=hid h6';have ST6:=hid st6;have HGN:=hid hgn;clear st5 st h5 h6' st6 hw6 hg5 hgn;go_wp2_with(rw[←HW6.out])
   go_end0
   exact⟨rfl,S',ms,⟨mv6,H6.out⟩,HGN.out,ST6.out⟩
  |inr q=>
   obtain⟨A,s'⟩:=q;obtain⟨at1,ms1,e1⟩:=s';obtain⟨hin1,hin2⟩:=hin A _ rfl;obtain rfl:e1=0:=hin1;have hin2:at1≤l.length:=hin2;clear her hin;simp only;by_cases hk:A.kind=0
   ·rw[if_pos hk];have HK:=hid hk;clear hk;go_enter Tryz.func84,Tryz.ntmps84;go_wp2_with fail;refine HB.out.mono ?_;rintro e w1 ⟨rfl,h1,st1⟩;have HN1:=hid (HNX.out w1 h1);have H1:=hid h1;have ST1:=hid st1;clear h1 st1;go_wp2_with fail;refine HN1.out.mono ?_;rintro e w2 ⟨rfl,f2⟩;obtain⟨mv,h2⟩:=H1.out.on f2;have r2:=Zd h2.blk _ (Fr.refl _ _);have h3:=h2.turned 1 (.int .i64 ((p1:Int)+1)) ⟨p1+1,ms0,0⟩ (by simp) rfl;have st3:=(ST1.out.trans (Stp.of f2)).trans (h2.stp 1 (.int .i64 ((p1:Int)+1)));obtain⟨wA,hwA⟩:∃wA,wA=w2.setCell ⟨b,1,none⟩ (.int .i64 ((p1:Int)+1)):=⟨_,rfl⟩;rw[←hwA]at h3 st3;have HWA:=hid hwA;have HBB:=hid (HB2.out wA ⟨mv,h3⟩);have ST3:=hid st3;clear h2 h3 st3 hwA f2;go_wp2_with(rw[←HWA.out]);refine HBB.out.mono ?_;rintro e w4 ⟨rfl,h4,st4⟩;have st:=ST3.out.trans st4;have hsz:=st.fr.size;have HADD:=hid (HAD.out w4 (fun k hk=>by have:=HS.out k hk;omega) (fun k hk=>by rcases hk with hk|hk;have:=HO.out k hk;omega;have:=HGL.out;omega) (st.from HW.out HSW.out) h4)
    have ST:=hid st;clear h4 st4 st hsz r2;go_wp2_with fail;refine HADD.out.mono ?_;intro e w5 he;obtain⟨v5,S',rfl,⟨u5,rfl,hrn⟩,h5,st5⟩:=he;have st:=ST.out.trans st5;have hgn:=HGK.out S' w5 st;have hg5:=st.fr.heap HG.out HGS.out;have rg:=Zk hg5 _ (Fr.refl _ _);have h6:=h5.gset hgn (.int .i64 A.kind) (.int .i64 A.line) (.string ⟨A.text.toArray⟩) u5;have st6:=(st.gs HGL.out).gset (.int .i64 A.kind) (.int .i64 A.line) (.string ⟨A.text.toArray⟩) u5;obtain⟨w6,hw6⟩:∃w6,w6=(((w5.setCell ⟨g,4,none⟩ (.int .i64 A.kind)).setCell ⟨g,5,none⟩ (.int .i64 A.line)).setCell ⟨g,6,none⟩ (.string ⟨A.text.toArray⟩)).setCell ⟨g,7,none⟩ u5:=⟨_,rfl⟩;have h6:ARd b l x ⟨at1,ms1,0⟩ S' w6:=by rw[hw6];exact h6
    have st6:Stp (GS S g) w (GS S' g) w6:=by rw[hw6];exact st6
    have hg6:w6.heap[g]? =some (.cells #[.int .i64 k0,.int .i64 n0,.string ⟨t0.toArray⟩,u0,.int .i64 A.kind,.int .i64 A.line,.string ⟨A.text.toArray⟩,u5,.bool false] 30 (0,0)):=by rw[hw6];exact Zgl hg5 (.int .i64 A.kind) (.int .i64 A.line) (.string ⟨A.text.toArray⟩) u5
    have hrn6:RN (SO S' (GS O g)) w6 A.tree u5:=by rw[hw6];exact RN.keep (ZdM w5 g _ _ _ _) (fun k _ hk=>.inr (.inr hk)) (fun k _ hx=>hx) _ _ hrn
    obtain⟨mv6,h6'⟩:=h6;have r6:=Zd h6'.blk _ (Fr.refl _ _);have rg6:=Zk hg6 _ (Fr.refl _ _);have HW6:=hid hw6;have H6:=hid h6';have ST6:=hid st6;have HGN:=hid hgn;have HG6:=hid hg6;have HRN:=hid hrn6;rw[HK.out]at rg6;have HFl:=hid (ZaB b l x _ S' 12 at1 w6 ⟨mv6,h6'⟩);have hsh:=hrn.shape;clear st5 st h5 h6' st6 hw6 hg5 hgn hg6 hrn hrn6;rcases hsh with rfl|⟨iv,yv,rfl⟩
    all_goals
     go_wp2_with(rw[←HW6.out]);refine HFl.out.mono ?_;rintro e w7 ⟨rfl,h7,st7⟩;have st8:=ST6.out.trans (st7.gs (by have:=ST6.out.fr.size;have:=HGL.out;omega));have HST8:=hid st8;have H7:=hid h7;clear h7 st7 st8;go_wp2
     go_end0
     exact⟨rfl,S',ms1,H7.out,HGN.out,HST8.out⟩
   ·rw[if_neg hk];have HK:=hid hk;clear hk;go_enter Tryz.func84,Tryz.ntmps84;go_wp2_with fail;refine HB.out.mono ?_;rintro e w1 ⟨rfl,h1,st1⟩;have HN1:=hid (HNX.out w1 h1);have H1:=hid h1;have ST1:=hid st1;clear h1 st1;go_wp2_with fail;refine HN1.out.mono ?_;rintro e w2 ⟨rfl,f2⟩;obtain⟨mv,h2⟩:=H1.out.on f2;have r2:=Zd h2.blk _ (Fr.refl _ _);have h3:=h2.turned 1 (.int .i64 ((p1:Int)+1)) ⟨p1+1,ms0,0⟩ (by simp) rfl;have st3:=(ST1.out.trans (Stp.of f2)).trans (h2.stp 1 (.int .i64 ((p1:Int)+1)));obtain⟨wA,hwA⟩:∃wA,wA=w2.setCell ⟨b,1,none⟩ (.int .i64 ((p1:Int)+1)):=⟨_,rfl⟩;rw[←hwA]at h3 st3;have HWA:=hid hwA;have HBB:=hid (HB2.out wA ⟨mv,h3⟩);have ST3:=hid st3;clear h2 h3 st3 hwA f2;go_wp2_with(rw[←HWA.out]);refine HBB.out.mono ?_;rintro e w4 ⟨rfl,h4,st4⟩;have st:=ST3.out.trans st4;have hsz:=st.fr.size;have HADD:=hid (HAD.out w4 (fun k hk=>by have:=HS.out k hk;omega) (fun k hk=>by rcases hk with hk|hk;have:=HO.out k hk;omega;have:=HGL.out;omega) (st.from HW.out HSW.out) h4)
    have ST:=hid st;clear h4 st4 st hsz r2;go_wp2_with fail;refine HADD.out.mono ?_;intro e w5 he;obtain⟨v5,S',rfl,⟨u5,rfl,hrn⟩,h5,st5⟩:=he;have st:=ST.out.trans st5;have hgn:=HGK.out S' w5 st;have hg5:=st.fr.heap HG.out HGS.out;have rg:=Zk hg5 _ (Fr.refl _ _);have h6:=h5.gset hgn (.int .i64 A.kind) (.int .i64 A.line) (.string ⟨A.text.toArray⟩) u5;have st6:=(st.gs HGL.out).gset (.int .i64 A.kind) (.int .i64 A.line) (.string ⟨A.text.toArray⟩) u5;obtain⟨w6,hw6⟩:∃w6,w6=(((w5.setCell ⟨g,4,none⟩ (.int .i64 A.kind)).setCell ⟨g,5,none⟩ (.int .i64 A.line)).setCell ⟨g,6,none⟩ (.string ⟨A.text.toArray⟩)).setCell ⟨g,7,none⟩ u5:=⟨_,rfl⟩;have h6:ARd b l x ⟨at1,ms1,0⟩ S' w6:=by rw[hw6];exact h6
    have st6:Stp (GS S g) w (GS S' g) w6:=by rw[hw6];exact st6
    have hg6:w6.heap[g]? =some (.cells #[.int .i64 k0,.int .i64 n0,.string ⟨t0.toArray⟩,u0,.int .i64 A.kind,.int .i64 A.line,.string ⟨A.text.toArray⟩,u5,.bool false] 30 (0,0)):=by rw[hw6];exact Zgl hg5 (.int .i64 A.kind) (.int .i64 A.line) (.string ⟨A.text.toArray⟩) u5
    have hrn6:RN (SO S' (GS O g)) w6 A.tree u5:=by rw[hw6];exact RN.keep (ZdM w5 g _ _ _ _) (fun k _ hk=>.inr (.inr hk)) (fun k _ hx=>hx) _ _ hrn
    obtain⟨mv6,h6'⟩:=h6;have r6:=Zd h6'.blk _ (Fr.refl _ _);have rg6:=Zk hg6 _ (Fr.refl _ _);have HW6:=hid hw6;have H6:=hid h6';have ST6:=hid st6;have HGN:=hid hgn;have HG6:=hid hg6;have HRN:=hid hrn6;have hk0:(A.kind==0)=false:=by simpa using HK.out
    have hsh:=hrn.shape;clear st5 st h5 h6' st6 hw6 hg5 hgn hg6 hrn hrn6;rcases hsh with rfl|⟨iv,yv,rfl⟩
    all_goals
     go_wp2_with(rw[←HW6.out])
     go_end0
     exact⟨rfl,S',_,⟨mv6,H6.out⟩,HGN.out,ST6.out,HG6.out,HRN.out⟩
 ·rw[if_neg h44];have n44:((c.toNat:Int)==44)=false:=by
   have:c.toNat≠44:=fun h=>h44 (UInt8.toNat_inj.1 h);simp;omega
  clear hc h44;go_enter Tryz.func84,Tryz.ntmps84;go_wp2_with fail;refine HB.out.mono ?_;rintro e w1 ⟨rfl,h1,st1⟩;have HN1:=hid (HNX.out w1 h1);have H1:=hid h1;have ST1:=hid st1;clear h1 st1;go_wp2_with fail;refine HN1.out.mono ?_;rintro e w2 ⟨rfl,f2⟩;have HST:=hid (ST1.out.trans (Stp.of f2));have H2:=hid (H1.out.on f2);clear f2;go_wp2;exact bodyPost_ret (results_none rfl _ _ _) rfl ⟨rfl,S,.nilIface,H2.out,HGS.out,HST.out.gs HGL.out,HST.out.fr.heap HG.out HGS.out,by show RN _ w2 .nil .nilIface;rw[RN]⟩
def Zni(S:Nat→Prop)(w:World)(g:GV)(v:Value):Prop:=∃u1 u2,v=.agg #[.int .i64 g.a.kind,.int .i64 g.a.line,.string ⟨g.a.text.toArray⟩,u1,.int .i64 g.b.kind,.int .i64 g.b.line,.string ⟨g.b.text.toArray⟩,u2,.bool g.no]∧RN S w g.a.tree u1∧RN S w g.b.tree u2
def ZaV(b:Nat)(l:List UInt8)(x:Bool)(S O:Nat→Prop)(w:World)(R:ZpG)(r:Ending)(w':World):Prop:=match R with
 | .inl (z,p)=>∃g v S' ms,r=.returned v∧Zni nob w' g v∧ARd b l x ⟨p,ms,z⟩ S' w'∧Stp S w S' w'
 | .inr (g,s')=>∃v S',r=.returned v∧Zni (SO S' O) w' g v∧ARd b l x s' S' w'∧Stp S w S' w'
theorem Zu{fn:Func}{p:Tmp}(h:fn.results= #[.cell p 30]){tmps:Array Value}{r:Nat}(ht:tmps.getD p undef=.pointer (some ⟨r,0,none⟩)){W:World}{a0 a1 a2 a3 a4 a5 a6 a7 a8:Value}
 (hb:W.heap[r]? =some (.cells #[a0,a1,a2,a3,a4,a5,a6,a7,a8] 30 (0,0))) (h0:a0.oneCell'=true) (h1:a1.oneCell'=true) (h2:a2.oneCell'=true) (h3:a3.oneCell'=true) (h4:a4.oneCell'=true) (h5:a5.oneCell'=true) (h6:a6.oneCell'=true) (h7:a7.oneCell'=true) (h8:a8.oneCell'=true):
 (results fn tmps).run Tryz.prog W=.ok (.agg #[a0,a1,a2,a3,a4,a5,a6,a7,a8]) W:=by
 have c0:=cell_at (j:=0) hb rfl;have c1:=cell_at (j:=1) hb rfl;have c2:=cell_at (j:=2) hb rfl;have c3:=cell_at (j:=3) hb rfl;have c4:=cell_at (j:=4) hb rfl;have c5:=cell_at (j:=5) hb rfl;have c6:=cell_at (j:=6) hb rfl;have c7:=cell_at (j:=7) hb rfl;have c8:=cell_at (j:=8) hb rfl;have ht':tmps[p]?.getD undef=.pointer (some ⟨r,0,none⟩):=by rw[←ht];simp
 simp only[results,h];simp[ht',go_sem,c0,c1,c2,c3,c4,c5,c6,c7,c8]
section
variable {b:Nat} {l:List UInt8} {x:Bool} {s:AdS} {S S' S2 O:Nat→Prop} {w w1 wZ:World} {r g:Nat} {t:Nd} {u:Value}
theorem Stp.plus(h:Stp S w S' w1)(hg:w.heap.size≤g)(hg':g<w1.heap.size):Stp S w (GS S' g) w1:=
 ⟨h.fr,fun k hk hx=>hx.elim (h.old k hk) (fun e=>by have e:k=g:=e;omega),fun hl k hx=>by
  rcases hx with hx|hx
  ·exact h.lt hl k hx
  ·have hx:k=g:=hx;omega⟩
theorem ZE(hr1:r<w1.heap.size)(hS:∀k,S k→k<r)(st:Stp S w1 S' wZ):¬S' r:=fun hx=>by have:=hS r (st.old r hr1 hx);omega
theorem Zbl{a0 a1 a2 a3 a4 a5 a6 a7 a8:Value}{T:TypeId}(hr:r=w.heap.size)(hS:∀k,S k→k<w.heap.size)(hz:w1.heap[r]? =some (.cells #[a0,a1,a2,a3,a4,a5,a6,a7,a8] T (0,0)))(st:Stp S w1 S' wZ):wZ.heap[r]? =some (.cells #[a0,a1,a2,a3,a4,a5,a6,a7,a8] T (0,0)):=
 st.fr.heap hz (fun h=>by have:=hS r h;omega)
theorem ZT(h:ARd b l x s S2 wZ)(hr:¬GS S2 g r)(v0 v1 v2 v3 v4 v5 v6 v7 v8:Value):ARd b l x s (GS S2 g) (ZcB wZ r v0 v1 v2 v3 v4 v5 v6 v7 v8):=by
 obtain⟨mv,h⟩:=h;have k:=h.keep (Zas (w:=wZ) (b:=r) v0 v1 v2 v3 v4 v5 v6 v7 v8) (fun e=>hr (.inl (e▸h.me))) (fun k hk e=>hr (.inl (e▸(h.nm k hk).2)));exact⟨mv,k.blk,k.ma,fun j hj=>⟨(k.nm j hj).1,.inl (k.nm j hj).2⟩,.inl k.me⟩
theorem ZU(f1:Fr nob w w1)(hr:r=w.heap.size)(st:Stp S w1 S' wZ)(v0 v1 v2 v3 v4 v5 v6 v7 v8:Value):Stp S w S' (ZcB wZ r v0 v1 v2 v3 v4 v5 v6 v7 v8):=by
 have s1:Stp S w S' wZ:=(Stp.of f1).trans st;have hs:=ZfX (w:=wZ) (b:=r) v0 v1 v2 v3 v4 v5 v6 v7 v8;exact⟨s1.fr.trans (Zas v0 v1 v2 v3 v4 v5 v6 v7 v8) (fun i hi e=>by have e:i=r:=e;omega),s1.old,fun hl k hk=>by have:=s1.lt hl k hk;omega⟩
end
theorem Zjo(b:Nat)(l:List UInt8)(x:Bool)(at0:Nat)(ms0:List (Nat×List UInt8))(S O:Nat→Prop)(w:World)(hl:l.length≤99000)(ha:at0≤l.length)(hm:ms0.length=0)(hS:∀k,S k→k<w.heap.size)(hO:∀k,O k→k<w.heap.size)(W0:World)(hE:Env W0)(hW:Fr nob W0 w)(hSW:∀k,S k→W0.heap.size≤k)(h:ARd b l x ⟨at0,ms0,0⟩ S w)(z:Int)(p:Nat)(hR:addrD x l false ⟨at0,ms0,0⟩=.inl (z,p)):
 Calls Tryz.prog 51 #[.pointer (some ⟨b,0,none⟩)] w (ZaV b l x S O w (.inl (z,p))):=by
 have hl:l.length≤100000:=Nat.le_trans hl (by decide);obtain⟨w1,hw1⟩:∃w1,w1=w.alloc (.cells zG 30):=⟨_,rfl⟩;have f1:Fr nob w w1:=by rw[hw1];exact(Fr.refl _ _).alloc _
 have hz:w1.heap[w.heap.size]? =some (.cells zG 30 (0,0)):=by rw[hw1];exact newAt _ _
 have hsz:w1.heap.size=w.heap.size+1:=by rw[hw1];simp
 have h1:=h.on f1;have hSL:∀k,S k→k<w1.heap.size:=fun k hk=>by have:=hS k hk;omega
 have hOL:∀k,GS O w.heap.size k→k<w1.heap.size:=fun k hk=>by
  rcases hk with hk|hk
  ·have:=hO k hk;omega
  ·have hk:k=w.heap.size:=hk;omega
 have HAD:=hid (Zal b l x false ⟨at0,ms0,0⟩ S (GS O w.heap.size) w1 (by omega) ha (by show ms0.length≤_;omega) rfl hSL hOL W0 hE (hW.trans' f1) hSW h1);have HW1:=hid hw1;have HS:=hid hS;have F1:=hid f1;have HZ:=hid hz;have HLT:=hid (lt_heap hz);have HSL:=hid hSL;have HE:=hid hE;have HWF:=hid (hW.trans' f1);have HSW:=hid hSW;have HOL:=hid hOL;clear h h1 hw1 hS f1 hz hO hE hW hSW hsz hSL hOL;have hz0:¬z=0:=addrD_err hR;have hz1:(z==0)=false:=by simpa using hz0
 have hz2:(z !=0)=true:=by simpa using hz0
 rw[hR]at HAD;clear hR;go_enter Tryz.func51,Tryz.ntmps51;go_wp2_with(rw[←HW1.out]);refine HAD.out.mono ?_;intro e w2 he;obtain⟨he,S1,ms,h2,st2⟩:=he;have he:e=.returned (.agg #[.int .i64 0,.int .i64 0,.string ⟨#[]⟩,.nilIface]):=he;subst he;have hlt1:=st2.lt HSL.out;obtain⟨w3,hw3⟩:∃w3,w3=w2.alloc (.cells zG 30):=⟨_,rfl⟩;have f3:Fr nob w2 w3:=by rw[hw3];exact(Fr.refl _ _).alloc _
 have hg3:w3.heap[w2.heap.size]? =some (.cells zG 30 (0,0)):=by rw[hw3];exact newAt _ _
 obtain⟨mv3,h35⟩:=h2.on f3;have r3:=Zd h35.blk _ (Fr.refl _ _);have rg3:=Zk hg3 _ (Fr.refl _ _);have st:Stp S w1 (GS S1 w2.heap.size) w3:=(st2.trans (Stp.of f3)).plus st2.fr.size (lt_heap hg3);have hX:ARd b l x ⟨p,ms,z⟩ S1 w3:=⟨mv3,h35⟩;have HW3:=hid hw3;clear h2 st2 hw3 f3 h35 hg3 hlt1;have hzZ:=Zbl rfl HS.out HZ.out st;have rz:=Zk hzZ _ (Fr.refl _ _);have q1:=hid (ZT hX (fun h=>ZE HLT.out HS.out st h) (.int .i64 0) (.int .i64 0) (.string ⟨#[]⟩) .nilIface (.int .i64 0) (.int .i64 0) (.string ⟨#[]⟩) .nilIface (.bool false));have q2:=hid (ZU F1.out rfl st (.int .i64 0) (.int .i64 0) (.string ⟨#[]⟩) .nilIface (.int .i64 0) (.int .i64 0) (.string ⟨#[]⟩) .nilIface (.bool false));have HZF:=hid (Zf hzZ (.int .i64 0) (.int .i64 0) (.string ⟨#[]⟩) .nilIface (.int .i64 0) (.int .i64 0) (.string ⟨#[]⟩) .nilIface (.bool false));clear hX st hzZ;(try dsimp only)
 iterate 9 go_step
 rw[←HW3.out]
 repeat(first|rw[hz2]|go_step)
 (try simp only[Exit.inBlock,Exit.then]);exact bodyPost_ret (Zu rfl rfl HZF.out rfl rfl rfl rfl rfl rfl rfl rfl rfl) rfl ⟨⟨AV.zero,AV.zero,false⟩,_,_,_,rfl,⟨.nilIface,.nilIface,rfl,by show RN _ _ .nil _;rw[RN],by show RN _ _ .nil _;rw[RN]⟩,q1.out,q2.out⟩
theorem Zhx(b:Nat)(l:List UInt8)(x:Bool)(at0:Nat)(ms0:List (Nat×List UInt8))(S O:Nat→Prop)(w:World)(hl:l.length≤99000)(ha:at0≤l.length)(hm:ms0.length=0)(hS:∀k,S k→k<w.heap.size)(hO:∀k,O k→k<w.heap.size)(W0:World)(hE:Env W0)(hW:Fr nob W0 w)(hSW:∀k,S k→W0.heap.size≤k)(h:ARd b l x ⟨at0,ms0,0⟩ S w)(A:AV)(at1:Nat)(ms1:List (Nat×List UInt8))(hR:addrD x l false ⟨at0,ms0,0⟩=.inr (A,⟨at1,ms1,0⟩))(hk:A.kind≠0)(z:Int)(p:Nat)(hR2:Zbc x l ⟨at1,ms1,0⟩=.inl (z,p)):
 Calls Tryz.prog 51 #[.pointer (some ⟨b,0,none⟩)] w (ZaV b l x S O w (.inl (z,p))):=by
 have hl:l.length≤100000:=Nat.le_trans hl (by decide);obtain⟨w1,hw1⟩:∃w1,w1=w.alloc (.cells zG 30):=⟨_,rfl⟩;have f1:Fr nob w w1:=by rw[hw1];exact(Fr.refl _ _).alloc _
 have hz:w1.heap[w.heap.size]? =some (.cells zG 30 (0,0)):=by rw[hw1];exact newAt _ _
 have hsz:w1.heap.size=w.heap.size+1:=by rw[hw1];simp
 have h1:=h.on f1;have hSL:∀k,S k→k<w1.heap.size:=fun k hk=>by have:=hS k hk;omega
 have hOL:∀k,GS O w.heap.size k→k<w1.heap.size:=fun k hk=>by
  rcases hk with hk|hk
  ·have:=hO k hk;omega
  ·have hk:k=w.heap.size:=hk;omega
 have HAD:=hid (Zal b l x false ⟨at0,ms0,0⟩ S (GS O w.heap.size) w1 (by omega) ha (by show ms0.length≤_;omega) rfl hSL hOL W0 hE (hW.trans' f1) hSW h1);have HW1:=hid hw1;have HS:=hid hS;have F1:=hid f1;have HZ:=hid hz;have HLT:=hid (lt_heap hz);have HSL:=hid hSL;have HE:=hid hE;have HWF:=hid (hW.trans' f1);have HSW:=hid hSW;have HOL:=hid hOL;clear h h1 hw1 hS f1 hz hO hE hW hSW hsz hSL hOL;have hfw:=Zam (s:=⟨at0,ms0,0⟩) ha rfl hR;have h1l:at1≤l.length:=hfw.le;have h1m:ms1.length≤99001:=by have:=hfw.mks;simp only at this;omega
 rw[hR]at HAD;clear hR hfw;have hk0:(A.kind==0)=false:=by simpa using hk
 clear hk;have HPD:=hid (fun w2 w3 S1 u1 (hS':∀k,S1 k→k<w3.heap.size) (hO':∀k,GS O w.heap.size k→k<w3.heap.size) (hW':Fr nob W0 w3) (hSW':∀k,S1 k→W0.heap.size≤k) (h:ARd b l x ⟨at1,ms1,0⟩ S1 w3) (ng:¬S1 w2) hg=>Zfo b l x ⟨at1,ms1,0⟩ S1 (GS O w.heap.size) w2 A.kind A.line A.text u1 w3 hl h1l (by show ms1.length≤_;omega) rfl hS' hO' W0 HE.out hW' hSW' h ng hg);have hz0:¬z=0:=pairD_err hR2;have hz1:(z==0)=false:=by simpa using hz0
 have hz2:(z !=0)=true:=by simpa using hz0
 rw[hR2]at HPD;clear hR2;go_enter Tryz.func51,Tryz.ntmps51;go_wp2_with(rw[←HW1.out]);refine HAD.out.mono ?_;intro e w2 he;obtain⟨v,S1,rfl,⟨u1,rfl,hrn⟩,h2,st2⟩:=he;have hlt1:=st2.lt HSL.out;have hsh1:=hrn.shape;obtain⟨w3,hw3⟩:∃w3,w3=w2.alloc (.cells #[.int .i64 A.kind,.int .i64 A.line,.string ⟨A.text.toArray⟩,u1,.int .i64 0,.int .i64 0,.string ⟨#[]⟩,.nilIface,.bool false] 30):=⟨_,rfl⟩;have f3:Fr nob w2 w3:=by rw[hw3];exact(Fr.refl _ _).alloc _
 have hg3:w3.heap[w2.heap.size]? =some (.cells #[.int .i64 A.kind,.int .i64 A.line,.string ⟨A.text.toArray⟩,u1,.int .i64 0,.int .i64 0,.string ⟨#[]⟩,.nilIface,.bool false] 30 (0,0)):=by rw[hw3];exact newAt _ _
 have ng3:¬S1 w2.heap.size:=fun h=>Nat.lt_irrefl _ (hlt1 _ h);have h3:=h2.on f3;have hge:w1.heap.size≤w2.heap.size:=st2.fr.size;have st3:Stp S w1 (GS S1 w2.heap.size) w3:=(st2.trans (Stp.of f3)).plus hge (lt_heap hg3);have hr1:RN (SO (GS S1 w2.heap.size) (GS O w.heap.size)) w3 A.tree u1:=RN.keep f3 (fun _ _ x=>x.elim) (fun k hk hx=>by
  rcases hx with(hx|hx)|hx
  ·exact .inl hx
  ·have hx:k=w2.heap.size:=hx;omega
  ·exact .inr hx) _ _ hrn
 have HW3:=hid hw3;obtain⟨mv3,h35⟩:=h3;have r3:=Zd h35.blk _ (Fr.refl _ _);have rg3:=Zk hg3 _ (Fr.refl _ _);have HPR:=hid (HPD.out w2.heap.size w3 S1 u1 (fun k hk=>by have:=hlt1 k hk;have:=f3.size;omega) (fun k hk=>by have:=HOL.out k hk;have:=f3.size;omega) ((st2.trans (Stp.of f3)).from HWF.out HSW.out) (fun k hk=>by by_cases h:k<w1.heap.size;exact HSW.out k (st2.old k h hk);have:=HWF.out.size;omega) ⟨mv3,h35⟩ ng3 hg3);have ST3:=hid st3;have R1:=hid hr1;clear hrn h2 st2 hw3 f3 h35 hg3 ng3 st3 hge hlt1 hr1;rcases hsh1 with rfl|⟨i1,y1,rfl⟩
 ·skip
  go_wp2_with(rw[←HW3.out]);refine HPR.out.mono ?_;rintro e wP ⟨rfl,S2,ms,hX,hng,st4⟩;obtain⟨mvX,hX5⟩:=hX;have rX:=Zd hX5.blk _ (Fr.refl _ _);have hX:ARd b l x _ S2 wP:=⟨mvX,hX5⟩;have st:=ST3.out.trans st4;clear st4 r3 rg3 hX5;have hzZ:=Zbl rfl HS.out HZ.out st;have rz:=Zk hzZ _ (Fr.refl _ _);have q1:=hid (ZT hX (fun h=>ZE HLT.out HS.out st h) (.int .i64 0) (.int .i64 0) (.string ⟨#[]⟩) .nilIface (.int .i64 0) (.int .i64 0) (.string ⟨#[]⟩) .nilIface (.bool false));have q2:=hid (ZU F1.out rfl st (.int .i64 0) (.int .i64 0) (.string ⟨#[]⟩) .nilIface (.int .i64 0) (.int .i64 0) (.string ⟨#[]⟩) .nilIface (.bool false));have HZF:=hid (Zf hzZ (.int .i64 0) (.int .i64 0) (.string ⟨#[]⟩) .nilIface (.int .i64 0) (.int .i64 0) (.string ⟨#[]⟩) .nilIface (.bool false));clear hX st hzZ;(try dsimp only)
  repeat(first|rw[hz2]|go_step)
  (try simp only[Exit.inBlock,Exit.then]);exact bodyPost_ret (Zu rfl rfl HZF.out rfl rfl rfl rfl rfl rfl rfl rfl rfl) rfl ⟨⟨AV.zero,AV.zero,false⟩,_,_,_,rfl,⟨.nilIface,.nilIface,rfl,by show RN _ _ .nil _;rw[RN],by show RN _ _ .nil _;rw[RN]⟩,q1.out,q2.out⟩
 ·skip
  go_wp2_with(rw[←HW3.out]);refine HPR.out.mono ?_;rintro e wP ⟨rfl,S2,ms,hX,hng,st4⟩;obtain⟨mvX,hX5⟩:=hX;have rX:=Zd hX5.blk _ (Fr.refl _ _);have hX:ARd b l x _ S2 wP:=⟨mvX,hX5⟩;have st:=ST3.out.trans st4;clear st4 r3 rg3 hX5;have hzZ:=Zbl rfl HS.out HZ.out st;have rz:=Zk hzZ _ (Fr.refl _ _);have q1:=hid (ZT hX (fun h=>ZE HLT.out HS.out st h) (.int .i64 0) (.int .i64 0) (.string ⟨#[]⟩) .nilIface (.int .i64 0) (.int .i64 0) (.string ⟨#[]⟩) .nilIface (.bool false));have q2:=hid (ZU F1.out rfl st (.int .i64 0) (.int .i64 0) (.string ⟨#[]⟩) .nilIface (.int .i64 0) (.int .i64 0) (.string ⟨#[]⟩) .nilIface (.bool false));have HZF:=hid (Zf hzZ (.int .i64 0) (.int .i64 0) (.string ⟨#[]⟩) .nilIface (.int .i64 0) (.int .i64 0) (.string ⟨#[]⟩) .nilIface (.bool false));clear hX st hzZ;(try dsimp only)
  repeat(first|rw[hz2]|go_step)
  (try simp only[Exit.inBlock,Exit.then]);exact bodyPost_ret (Zu rfl rfl HZF.out rfl rfl rfl rfl rfl rfl rfl rfl rfl) rfl ⟨⟨AV.zero,AV.zero,false⟩,_,_,_,rfl,⟨.nilIface,.nilIface,rfl,by show RN _ _ .nil _;rw[RN],by show RN _ _ .nil _;rw[RN]⟩,q1.out,q2.out⟩
end Go.Proofs.YtkfddjopbocpkaaGreatDoor
