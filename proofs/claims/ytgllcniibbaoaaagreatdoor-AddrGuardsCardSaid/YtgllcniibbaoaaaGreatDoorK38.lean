/- Lemmas of this claim. -/
import Derived.Test.YtgllcniibbaoaaaGreatDoorK21
set_option linter.all false
set_option maxRecDepth 100000
set_option maxHeartbeats 24000000
namespace Go.Proofs.YtgllcniibbaoaaaGreatDoor
open Go.Lib (hid)
open Go.RowKit
abbrev zG:Array Value:= #[.int .i64 0,.int .i64 0,.string ⟨#[]⟩,.nilIface,.int .i64 0,.int .i64 0,.string ⟨#[]⟩,.nilIface,.bool false]
abbrev Zqb(w:World)(g:Nat)(v0 v1 v2 v3:Value):World:=(((w.setCell ⟨g,4,none⟩ v0).setCell ⟨g,5,none⟩ v1).setCell ⟨g,6,none⟩ v2).setCell ⟨g,7,none⟩ v3
theorem Zgl{w:World}{g:Nat}{a0 a1 a2 a3 a4 a5 a6 a7 a8:Value}{T:TypeId}{fr:Nat×Nat}(h:w.heap[g]? =some (.cells #[a0,a1,a2,a3,a4,a5,a6,a7,a8] T fr))(v0 v1 v2 v3:Value):
 (Zqb w g v0 v1 v2 v3).heap[g]? =some (.cells #[a0,a1,a2,a3,v0,v1,v2,v3,a8] T fr):=by
 have h0:=Za h 4 v0;have h1:=Za h0 5 v1;have h2:=Za h1 6 v2;have h3:=Za h2 7 v3;simpa using h3
theorem ZdM(w:World)(g:Nat)(v0 v1 v2 v3:Value):Fr (fun k=>k=g) w (Zqb w g v0 v1 v2 v3):=by
 have h:∀(x:World) (j:Nat) (v:Value),Fr (fun k=>k=g) w x→Fr (fun k=>k=g) w (x.setCell ⟨g,j,none⟩ v):=fun x j v hx=>hx.setCell (p:=⟨g,j,none⟩) (fun _=>rfl) v;exact h _ _ _ (h _ _ _ (h _ _ _ (h _ _ _ (Fr.refl _ _))))
theorem Zk{w:World}{b:Nat}{v0 v1 v2 v3 v4 v5 v6 v7 v8:Value}{T:TypeId}(h:w.heap[b]? =some (.cells #[v0,v1,v2,v3,v4,v5,v6,v7,v8] T (0,0))):∀w',Fr nob w w'→
 (w'.cell? ⟨b,0,none⟩=some v0∧w'.cell? ⟨b,1,none⟩=some v1∧w'.cell? ⟨b,2,none⟩=some v2∧w'.cell? ⟨b,3,none⟩=some v3∧w'.cell? ⟨b,4,none⟩=some v4∧w'.cell? ⟨b,5,none⟩=some v5∧w'.cell? ⟨b,6,none⟩=some v6∧w'.cell? ⟨b,7,none⟩=some v7∧w'.cell? ⟨b,8,none⟩=some v8)∧
 (w'.frozen? ⟨b,0,none⟩=false∧w'.frozen? ⟨b,1,none⟩=false∧w'.frozen? ⟨b,2,none⟩=false∧w'.frozen? ⟨b,3,none⟩=false∧w'.frozen? ⟨b,4,none⟩=false∧w'.frozen? ⟨b,5,none⟩=false∧w'.frozen? ⟨b,6,none⟩=false∧w'.frozen? ⟨b,7,none⟩=false∧w'.frozen? ⟨b,8,none⟩=false):=fun _ f=>by
 have h':=f.heap h (fun x=>x);exact⟨⟨cell_at h' rfl,cell_at h' rfl,cell_at h' rfl,cell_at h' rfl,cell_at h' rfl,cell_at h' rfl,cell_at h' rfl,cell_at h' rfl,cell_at h' rfl⟩,ZF h' _,ZF h' _,ZF h' _,ZF h' _,ZF h' _,ZF h' _,ZF h' _,ZF h' _,ZF h' _⟩
def GS(S:Nat→Prop)(g:Nat):Nat→Prop:=fun k=>S k∨k=g
section
variable {S S':Nat→Prop} {g:Nat} {w w' wX:World}
theorem Stp.gs(h:Stp S w S' w')(hg:g<w.heap.size):Stp (GS S g) w (GS S' g) w':=
 ⟨h.fr.mono (fun _ _ x=>.inl x),fun k hk hx=>hx.elim (fun y=>.inl (h.old k hk y)) .inr,fun hl k hx=>by
  rcases hx with hx|hx
  ·exact h.lt (fun j hj=>hl j (.inl hj)) k hx
  ·subst hx;exact Nat.lt_of_lt_of_le hg h.fr.size⟩
theorem Stp.gset(h:Stp (GS S g) w (GS S' g) wX)(v0 v1 v2 v3:Value):Stp (GS S g) w (GS S' g) (Zqb wX g v0 v1 v2 v3):=
 ⟨h.fr.trans (ZdM wX g v0 v1 v2 v3) (fun k hk hx=>by have hx:k=g:=hx;exact .inr hx),h.old,fun hl k hk=>by have:=h.lt hl k hk;simpa[World.setCell]using this⟩
theorem ARd.gset{b:Nat}{l:List UInt8}{x:Bool}{s:AdS}(h:ARd b l x s S w)(hg:¬S g)(v0 v1 v2 v3:Value):ARd b l x s S (Zqb w g v0 v1 v2 v3):=by
 obtain⟨mv,h⟩:=h;exact⟨mv,h.keep (ZdM w g v0 v1 v2 v3) (fun e=>hg (e▸h.me)) (fun k hk e=>hg (e▸(h.nm k hk).2))⟩
end
def Zoc(b:Nat)(l:List UInt8)(x:Bool)(S O:Nat→Prop)(g:Nat)(k0 n0:Int)(t0:List UInt8)(u0:Value)(w:World)(R:ZlK)(r:Ending)(w':World):Prop:=r=.returned (.tuple #[])∧match R with
 | .inl (z,p)=>∃S' ms,ARd b l x ⟨p,ms,z⟩ S' w'∧¬S' g∧Stp (GS S g) w (GS S' g) w'
 | .inr (a,s')=>∃S' u,ARd b l x s' S' w'∧¬S' g∧Stp (GS S g) w (GS S' g) w'∧
   w'.heap[g]? =some (.cells #[.int .i64 k0,.int .i64 n0,.string ⟨t0.toArray⟩,u0,.int .i64 a.kind,.int .i64 a.line,.string ⟨a.text.toArray⟩,u,.bool false] 47 (0,0))∧RN (SO S' (GS O g)) w' a.tree u
theorem Zfo(b:Nat)(l:List UInt8)(x:Bool)(s:AdS)(S O:Nat→Prop)(g:Nat)(k0 n0:Int)(t0:List UInt8)(u0:Value)(w:World)(hl:l.length≤100000)(ha:s.at_≤l.length)(hm:s.marks.length≤100000)(hs0:s.e=0)(hS:∀k,S k→k<w.heap.size)(hO:∀k,O k→k<w.heap.size)(W0:World)(hE:Env W0)(hW:Fr nob W0 w)(hSW:∀k,S k→W0.heap.size≤k)(h:ARd b l x s S w)
 (hgS:¬S g) (hg:w.heap[g]? =some (.cells #[.int .i64 k0,.int .i64 n0,.string ⟨t0.toArray⟩,u0,.int .i64 0,.int .i64 0,.string ⟨#[]⟩,.nilIface,.bool false] 47 (0,0))):
 Calls Tryz.prog 63 #[.pointer (some ⟨b,0,none⟩),.pointer (some ⟨g,0,none⟩)] w (Zoc b l x S O g k0 n0 t0 u0 w (Zbc x l s)):=by
 obtain⟨G,f,e0⟩:=s;obtain rfl:e0=0:=hs0;have ha:G≤l.length:=ha;have hm:f.length≤100000:=hm;have B:=lt_heap hg;have HB:=hid (Zi b l x ⟨G,f,0⟩ S w hl ha h);obtain⟨Q,hQ⟩:∃Q,Zbc x l ⟨G,f,0⟩=Q:=⟨_,rfl⟩;rw[hQ];unfold Zbc at hQ;simp only at HB hQ;obtain⟨p1,U⟩:∃p1,bhd l [32,9] G=p1:=⟨_,rfl⟩;have c4:p1≤l.length:=by rw[←U];exact bhd_le _ _ _
 rw[U]at HB hQ;have HG:=hid hg;have E:=hid hgS;have v:=hid B;have HS:=hid hS;have HO:=hid hO;have HE:=hid hE;have HW:=hid hW;have a6:=hid hSW;have a1:=hid (fun(S':Nat→Prop) w' (st:Stp S w S' w')=>show¬S' g from fun hx=>hgS (st.old g B hx));have N:=hid (fun w' (h:ARd b l x ⟨p1,f,0⟩ S w')=>Zt b l x ⟨p1,f,0⟩ S w' (by omega) h);clear h U hg hgS B hS hO hE hW hSW;obtain⟨c,hc⟩:∃c,byt l p1=c:=⟨_,rfl⟩;simp only at N;rw[hc]at N hQ;have HQ:=hid hQ;have HC:=hid hc;clear hQ hc;go_enter Tryz.func63,Tryz.ntmps63;go_wp2_with fail;refine HB.out.mono ?_;rintro e w1 ⟨rfl,h1,st1⟩;have b7:=hid (N.out w1 h1);have H1:=hid h1;have a7:=hid st1;clear h1 st1;go_wp2_with fail;refine b7.out.mono ?_;rintro e w2 ⟨rfl,f2⟩;by_cases n:c=44
 ·have hQ:=HQ.out;rw[if_pos n]at hQ;have c2:((c.toNat:Int)==44)=true:=by rw[n];rfl
  have c5:p1<l.length:=ZaO (by rw[HC.out,n];decide);have c7:IntKind.i64.wrap ((p1:Int)+1)=p1+1:=IntWalk.i64_in _ (by omega);have M:=hid (fun w' (h:ARd b l x ⟨p1+1,f,0⟩ S w')=>Zi b l x ⟨p1+1,f,0⟩ S w' hl (by show p1+1≤_;omega) h);simp only at M;obtain⟨p2,V⟩:∃p2,bhd l [32,9] (p1+1)=p2:=⟨_,rfl⟩;have L:p2≤l.length:=by rw[←V];exact bhd_le _ _ _
  rw[V]at M hQ;have Y:=hid (fun w' (hS':∀k,S k→k<w'.heap.size) (hO':∀k,GS O g k→k<w'.heap.size) (hW':Fr nob W0 w') (h:ARd b l x ⟨p2,f,0⟩ S w')=>Zal b l x true ⟨p2,f,0⟩ S (GS O g) w' hl L hm rfl hS' hO' W0 HE.out hW' a6.out h);obtain⟨R,hR⟩:∃R,addrD x l true ⟨p2,f,0⟩=R:=⟨_,rfl⟩;rw[hR]at Y hQ;have t:∀a s',R=.inr (a,s')→s'.e=0∧s'.at_≤l.length:=fun a s' e=>by
   have:=Zam (s:=⟨p2,f,0⟩) L rfl (hR.trans e);exact⟨this.ok,this.le⟩
  have r:∀z p,R=.inl (z,p)→z≠0:=fun z p e=>addrD_err (hR.trans e);have a3:=hid hQ;have a2:=hid t;have a0:=hid r;clear V hR n hQ t r;obtain⟨mv,h2⟩:=H1.out.on f2;have r2:=Zd h2.blk _ (Fr.refl _ _);have h3:=h2.turned 1 (.int .i64 ((p1:Int)+1)) ⟨p1+1,f,0⟩ (by simp) rfl;have X:=(a7.out.trans (Stp.of f2)).trans (h2.stp 1 (.int .i64 ((p1:Int)+1)));obtain⟨wA,W⟩:∃wA,wA=w2.setCell ⟨b,1,none⟩ (.int .i64 ((p1:Int)+1)):=⟨_,rfl⟩;rw[←W]at h3 X;have b9:=hid W;have b4:=hid (M.out wA ⟨mv,h3⟩);have c0:=hid X;clear h2 h3 X W f2;go_wp2_with(rw[←b9.out]);refine b4.out.mono ?_;rintro e w4 ⟨rfl,h4,b1⟩;have st:=c0.out.trans b1;have c1:=st.fr.size;have Z:=hid (Y.out w4 (fun k hk=>by have:=HS.out k hk;omega) (fun k hk=>by rcases hk with hk|hk;have:=HO.out k hk;omega;have:=v.out;omega) (st.from HW.out a6.out) h4);have ST:=hid st;clear h4 b1 st c1 r2;go_wp2_with fail
  refine Z.out.mono ?_;intro e w5 he;have hQ:=a3.out;have t:=a2.out;have r:=a0.out;clear HQ a3 a2 a0 HC;cases R with
  |inl q=>
   obtain⟨z,p⟩:=q;have hz:¬z=0:=r z p rfl;have c8:(z==0)=false:=by simpa using hz
   clear r t;simp only at hQ;subst hQ;obtain⟨rfl,S',ms,h5,u⟩:=he;have st:=ST.out.trans u;have m:=a1.out S' w5 st;have o:=st.fr.heap HG.out E.out;have rg:=Zk o _ (Fr.refl _ _);have h6:=h5.gset m (.int .i64 0) (.int .i64 0) (.string ⟨#[]⟩) .nilIface;have i:=(st.gs v.out).gset (.int .i64 0) (.int .i64 0) (.string ⟨#[]⟩) .nilIface;obtain⟨w6,d⟩:∃w6,w6=(((w5.setCell ⟨g,4,none⟩ (.int .i64 0)).setCell ⟨g,5,none⟩ (.int .i64 0)).setCell ⟨g,6,none⟩ (.string ⟨#[]⟩)).setCell ⟨g,7,none⟩ .nilIface:=⟨_,rfl⟩;have h6:ARd b l x ⟨p,ms,z⟩ S' w6:=by rw[d];exact h6
   have i:Stp (GS S g) w (GS S' g) w6:=by rw[d];exact i
   obtain⟨J,j⟩:=h6;have r6:=Zd j.blk _ (Fr.refl _ _);have F:=hid d;have H6:=hid j;have y:=hid i;have D:=hid m;clear u st h5 j i d o m;go_wp2_with(rw[←F.out])
   go_end0
   exact⟨rfl,S',ms,⟨J,H6.out⟩,D.out,y.out⟩
  |inr q=>
   obtain⟨A,s'⟩:=q;obtain⟨P,b0,e1⟩:=s';obtain⟨a8,K⟩:=t A _ rfl;obtain rfl:e1=0:=a8;have K:P≤l.length:=K;clear r t;simp only at hQ;obtain⟨v5,S',rfl,⟨u5,rfl,I⟩,h5,u⟩:=he;have st:=ST.out.trans u;have m:=a1.out S' w5 st;have o:=st.fr.heap HG.out E.out;have rg:=Zk o _ (Fr.refl _ _);have h6:=h5.gset m (.int .i64 A.kind) (.int .i64 A.line) (.string ⟨A.text.toArray⟩) u5;have i:=(st.gs v.out).gset (.int .i64 A.kind) (.int .i64 A.line) (.string ⟨A.text.toArray⟩) u5;obtain⟨w6,d⟩:∃w6,w6=(((w5.setCell ⟨g,4,none⟩ (.int .i64 A.kind)).setCell ⟨g,5,none⟩ (.int .i64 A.line)).setCell ⟨g,6,none⟩ (.string ⟨A.text.toArray⟩)).setCell ⟨g,7,none⟩ u5:=⟨_,rfl⟩;have h6:ARd b l x ⟨P,b0,0⟩ S' w6:=by rw[d];exact h6
   have i:Stp (GS S g) w (GS S' g) w6:=by rw[d];exact i
   have H:w6.heap[g]? =some (.cells #[.int .i64 k0,.int .i64 n0,.string ⟨t0.toArray⟩,u0,.int .i64 A.kind,.int .i64 A.line,.string ⟨A.text.toArray⟩,u5,.bool false] 47 (0,0)):=by rw[d];exact Zgl o (.int .i64 A.kind) (.int .i64 A.line) (.string ⟨A.text.toArray⟩) u5
   have C:RN (SO S' (GS O g)) w6 A.tree u5:=by rw[d];exact RN.keep (ZdM w5 g _ _ _ _) (fun k _ hk=>.inr (.inr hk)) (fun k _ hx=>hx) _ _ I
   obtain⟨J,j⟩:=h6;have r6:=Zd j.blk _ (Fr.refl _ _);have c3:=Zk H _ (Fr.refl _ _);have F:=hid d;have H6:=hid j;have y:=hid i;have D:=hid m;have b6:=hid H;have b8:=hid C;have a9:=I.shape;by_cases hk:A.kind=0
   ·rw[if_pos hk]at hQ;subst hQ;rw[hk]at c3;have b5:=hid (ZaB b l x _ S' 12 P w6 ⟨J,j⟩);clear u st h5 j i d o m H I C hk;rcases a9 with rfl|⟨iv,yv,rfl⟩
    all_goals
     go_wp2_with(rw[←F.out]);refine b5.out.mono ?_;rintro e w7 ⟨rfl,h7,b2⟩;have b3:=y.out.trans (b2.gs (by have:=y.out.fr.size;have:=v.out;omega));have a5:=hid b3;have H7:=hid h7;clear h7 b2 b3;go_wp2
     go_end0
     exact⟨rfl,S',b0,H7.out,D.out,a5.out⟩
   ·rw[if_neg hk]at hQ;subst hQ;have c6:(A.kind==0)=false:=by simpa using hk
    clear u st h5 j i d o m H I C hk;rcases a9 with rfl|⟨iv,yv,rfl⟩
    all_goals
     go_wp2_with(rw[←F.out])
     go_end0
     exact⟨rfl,S',_,⟨J,H6.out⟩,D.out,y.out,b6.out,b8.out⟩
 ·have hQ:=HQ.out;rw[if_neg n]at hQ;subst hQ;have c2:((c.toNat:Int)==44)=false:=Zn n;clear n;have a4:=hid (a7.out.trans (Stp.of f2));have H2:=hid (H1.out.on f2);clear f2;go_wp2;exact bodyPost_ret (results_none rfl _ _ _) rfl ⟨rfl,S,.nilIface,H2.out,E.out,a4.out.gs v.out,a4.out.fr.heap HG.out E.out,by show RN _ w2 .nil .nilIface;rw[RN]⟩
def Zni(S:Nat→Prop)(w:World)(g:GV)(v:Value):Prop:=∃u1 u2,v=.agg #[.int .i64 g.a.kind,.int .i64 g.a.line,.string ⟨g.a.text.toArray⟩,u1,.int .i64 g.b.kind,.int .i64 g.b.line,.string ⟨g.b.text.toArray⟩,u2,.bool g.no]∧RN S w g.a.tree u1∧RN S w g.b.tree u2
def ZaV(b:Nat)(l:List UInt8)(x:Bool)(S O:Nat→Prop)(w:World)(R:ZpG)(r:Ending)(w':World):Prop:=match R with
 | .inl (z,p)=>∃g v S' ms,r=.returned v∧Zni nob w' g v∧ARd b l x ⟨p,ms,z⟩ S' w'∧Stp S w S' w'
 | .inr (g,s')=>∃v S',r=.returned v∧Zni (SO S' O) w' g v∧ARd b l x s' S' w'∧Stp S w S' w'
theorem Zu{fn:Func}{p:Tmp}(h:fn.results= #[.cell p 47]){tmps:Array Value}{r:Nat}(ht:tmps.getD p undef=.pointer (some ⟨r,0,none⟩)){W:World}{a0 a1 a2 a3 a4 a5 a6 a7 a8:Value}
 (hb:W.heap[r]? =some (.cells #[a0,a1,a2,a3,a4,a5,a6,a7,a8] 47 (0,0))) (h0:a0.oneCell'=true) (h1:a1.oneCell'=true) (h2:a2.oneCell'=true) (h3:a3.oneCell'=true) (h4:a4.oneCell'=true) (h5:a5.oneCell'=true) (h6:a6.oneCell'=true) (h7:a7.oneCell'=true) (h8:a8.oneCell'=true):
 (results fn tmps).run Tryz.prog W=.ok (.agg #[a0,a1,a2,a3,a4,a5,a6,a7,a8]) W:=by
 have c0:=cell_at (j:=0) hb rfl;have c1:=cell_at (j:=1) hb rfl;have c2:=cell_at (j:=2) hb rfl;have c3:=cell_at (j:=3) hb rfl;have c4:=cell_at (j:=4) hb rfl;have c5:=cell_at (j:=5) hb rfl;have c6:=cell_at (j:=6) hb rfl;have c7:=cell_at (j:=7) hb rfl;have c8:=cell_at (j:=8) hb rfl;have a:tmps[p]?.getD undef=.pointer (some ⟨r,0,none⟩):=by rw[←ht];simp
 simp only[results,h];simp[a,go_sem,c0,c1,c2,c3,c4,c5,c6,c7,c8]
section
variable {b:Nat} {l:List UInt8} {x:Bool} {s:AdS} {S S' S2 O:Nat→Prop} {w w1 wZ:World} {r g:Nat} {t:Nd} {u:Value}
theorem Stp.plus(h:Stp S w S' w1)(hg:w.heap.size≤g)(hg':g<w1.heap.size):Stp S w (GS S' g) w1:=
 ⟨h.fr,fun k hk hx=>hx.elim (h.old k hk) (fun e=>by have e:k=g:=e;omega),fun hl k hx=>by
  rcases hx with hx|hx
  ·exact h.lt hl k hx
  ·have hx:k=g:=hx;omega⟩
theorem ZE(hr1:r<w1.heap.size)(hS:∀k,S k→k<r)(st:Stp S w1 S' wZ):¬S' r:=fun hx=>by have:=hS r (st.old r hr1 hx);omega
theorem Zbl{a0 a1 a2 a3 a4 a5 a6 a7 a8:Value}{T:TypeId}(hr:r=w.heap.size)(hS:∀k,S k→k<w.heap.size)(hz:w1.heap[r]? =some (.cells #[a0,a1,a2,a3,a4,a5,a6,a7,a8] T (0,0)))(st:Stp S w1 S' wZ):wZ.heap[r]? =some (.cells #[a0,a1,a2,a3,a4,a5,a6,a7,a8] T (0,0)):=
 st.fr.heap hz (fun h=>by have:=hS r h;omega)
theorem ZT(h:ARd b l x s S2 wZ)(hr:¬GS S2 g r)(v0 v1 v2 v3 v4 v5 v6 v7 v8:Value):ARd b l x s (GS S2 g) (ZcB wZ r v0 v1 v2 v3 v4 v5 v6 v7 v8):=by
 obtain⟨mv,h⟩:=h;have k:=h.keep (Zas (w:=wZ) (b:=r) v0 v1 v2 v3 v4 v5 v6 v7 v8) (fun e=>hr (.inl (e▸h.me))) (fun k hk e=>hr (.inl (e▸(h.nm k hk).2)));exact⟨mv,k.blk,k.ma,fun j hj=>⟨(k.nm j hj).1,.inl (k.nm j hj).2⟩,.inl k.me⟩
theorem ZU(f1:Fr nob w w1)(hr:r=w.heap.size)(st:Stp S w1 S' wZ)(v0 v1 v2 v3 v4 v5 v6 v7 v8:Value):Stp S w S' (ZcB wZ r v0 v1 v2 v3 v4 v5 v6 v7 v8):=by
 have s1:Stp S w S' wZ:=(Stp.of f1).trans st;have hs:=ZfX (w:=wZ) (b:=r) v0 v1 v2 v3 v4 v5 v6 v7 v8;exact⟨s1.fr.trans (Zas v0 v1 v2 v3 v4 v5 v6 v7 v8) (fun i hi e=>by have e:i=r:=e;omega),s1.old,fun hl k hk=>by have:=s1.lt hl k hk;omega⟩
end
theorem Zjo(b:Nat)(l:List UInt8)(x:Bool)(at0:Nat)(ms0:List (Nat×List UInt8))(S O:Nat→Prop)(w:World)(hl:l.length≤99000)(ha:at0≤l.length)(hm:ms0.length=0)(hS:∀k,S k→k<w.heap.size)(hO:∀k,O k→k<w.heap.size)(W0:World)(hE:Env W0)(hW:Fr nob W0 w)(hSW:∀k,S k→W0.heap.size≤k)(h:ARd b l x ⟨at0,ms0,0⟩ S w)(z:Int)(p:Nat)(hR:addrD x l false ⟨at0,ms0,0⟩=.inl (z,p)):
 Calls Tryz.prog 41 #[.pointer (some ⟨b,0,none⟩)] w (ZaV b l x S O w (.inl (z,p))):=by
 have hl:l.length≤100000:=Nat.le_trans hl (by decide);obtain⟨w1,a⟩:∃w1,w1=w.alloc (.cells zG 47):=⟨_,rfl⟩;have f1:Fr nob w w1:=by rw[a];exact(Fr.refl _ _).alloc _
 have hz:w1.heap[w.heap.size]? =some (.cells zG 47 (0,0)):=by rw[a];exact newAt _ _
 have y:w1.heap.size=w.heap.size+1:=by rw[a];simp
 have h1:=h.on f1;have i:∀k,S k→k<w1.heap.size:=fun k hk=>by have:=hS k hk;omega
 have g:∀k,GS O w.heap.size k→k<w1.heap.size:=fun k hk=>by
  rcases hk with hk|hk
  ·have:=hO k hk;omega
  ·have hk:k=w.heap.size:=hk;omega
 have n:=hid (Zal b l x false ⟨at0,ms0,0⟩ S (GS O w.heap.size) w1 (by omega) ha (by show ms0.length≤_;omega) rfl i g W0 hE (hW.trans' f1) hSW h1);have t:=hid a;have HS:=hid hS;have F1:=hid f1;have HZ:=hid hz;have r:=hid (lt_heap hz);have s:=hid i;have HE:=hid hE;have E:=hid (hW.trans' f1);have D:=hid hSW;have C:=hid g;clear h h1 a hS f1 hz hO hE hW hSW y i g;have q:¬z=0:=addrD_err hR;have F:(z==0)=false:=by simpa using q
 have A:(z !=0)=true:=by simpa using q
 rw[hR]at n;clear hR;go_enter Tryz.func41,Tryz.ntmps41;go_wp2_with(rw[←t.out]);refine n.out.mono ?_;intro e w2 he;obtain⟨he,S1,ms,h2,d⟩:=he;have he:e=.returned (.agg #[.int .i64 0,.int .i64 0,.string ⟨#[]⟩,.nilIface]):=he;subst he;have o:=d.lt s.out;obtain⟨w3,c⟩:∃w3,w3=w2.alloc (.cells zG 47):=⟨_,rfl⟩;have f3:Fr nob w2 w3:=by rw[c];exact(Fr.refl _ _).alloc _
 have j:w3.heap[w2.heap.size]? =some (.cells zG 47 (0,0)):=by rw[c];exact newAt _ _
 obtain⟨B,f⟩:=h2.on f3;have r3:=Zd f.blk _ (Fr.refl _ _);have G:=Zk j _ (Fr.refl _ _);have st:Stp S w1 (GS S1 w2.heap.size) w3:=(d.trans (Stp.of f3)).plus d.fr.size (lt_heap j);have hX:ARd b l x ⟨p,ms,z⟩ S1 w3:=⟨B,f⟩;have u:=hid c;clear h2 d c f3 f j o;have m:=Zbl rfl HS.out HZ.out st;have rz:=Zk m _ (Fr.refl _ _);have q1:=hid (ZT hX (fun h=>ZE r.out HS.out st h) (.int .i64 0) (.int .i64 0) (.string ⟨#[]⟩) .nilIface (.int .i64 0) (.int .i64 0) (.string ⟨#[]⟩) .nilIface (.bool false));have q2:=hid (ZU F1.out rfl st (.int .i64 0) (.int .i64 0) (.string ⟨#[]⟩) .nilIface (.int .i64 0) (.int .i64 0) (.string ⟨#[]⟩) .nilIface (.bool false));have v:=hid (Zf m (.int .i64 0) (.int .i64 0) (.string ⟨#[]⟩) .nilIface (.int .i64 0) (.int .i64 0) (.string ⟨#[]⟩) .nilIface (.bool false));clear hX st m;(try dsimp only)
 iterate 9 go_step
 rw[←u.out]
 repeat(first|rw[A]|go_step)
 (try simp only[Exit.inBlock,Exit.then]);exact bodyPost_ret (Zu rfl rfl v.out rfl rfl rfl rfl rfl rfl rfl rfl rfl) rfl ⟨⟨AV.zero,AV.zero,false⟩,_,_,_,rfl,⟨.nilIface,.nilIface,rfl,by show RN _ _ .nil _;rw[RN],by show RN _ _ .nil _;rw[RN]⟩,q1.out,q2.out⟩
theorem Zhx(b:Nat)(l:List UInt8)(x:Bool)(at0:Nat)(ms0:List (Nat×List UInt8))(S O:Nat→Prop)(w:World)(hl:l.length≤99000)(ha:at0≤l.length)(hm:ms0.length=0)(hS:∀k,S k→k<w.heap.size)(hO:∀k,O k→k<w.heap.size)(W0:World)(hE:Env W0)(hW:Fr nob W0 w)(hSW:∀k,S k→W0.heap.size≤k)(h:ARd b l x ⟨at0,ms0,0⟩ S w)(A:AV)(at1:Nat)(ms1:List (Nat×List UInt8))(hR:addrD x l false ⟨at0,ms0,0⟩=.inr (A,⟨at1,ms1,0⟩))(hk:A.kind≠0)(z:Int)(p:Nat)(hR2:Zbc x l ⟨at1,ms1,0⟩=.inl (z,p)):
 Calls Tryz.prog 41 #[.pointer (some ⟨b,0,none⟩)] w (ZaV b l x S O w (.inl (z,p))):=by
 have hl:l.length≤100000:=Nat.le_trans hl (by decide);obtain⟨w1,g⟩:∃w1,w1=w.alloc (.cells zG 47):=⟨_,rfl⟩;have f1:Fr nob w w1:=by rw[g];exact(Fr.refl _ _).alloc _
 have hz:w1.heap[w.heap.size]? =some (.cells zG 47 (0,0)):=by rw[g];exact newAt _ _
 have Z:w1.heap.size=w.heap.size+1:=by rw[g];simp
 have h1:=h.on f1;have r:∀k,S k→k<w1.heap.size:=fun k hk=>by have:=hS k hk;omega
 have q:∀k,GS O w.heap.size k→k<w1.heap.size:=fun k hk=>by
  rcases hk with hk|hk
  ·have:=hO k hk;omega
  ·have hk:k=w.heap.size:=hk;omega
 have B:=hid (Zal b l x false ⟨at0,ms0,0⟩ S (GS O w.heap.size) w1 (by omega) ha (by show ms0.length≤_;omega) rfl r q W0 hE (hW.trans' f1) hSW h1);have W:=hid g;have HS:=hid hS;have F1:=hid f1;have HZ:=hid hz;have C:=hid (lt_heap hz);have V:=hid r;have HE:=hid hE;have H:=hid (hW.trans' f1);have F:=hid hSW;have U:=hid q;clear h h1 g hS f1 hz hO hE hW hSW Z r q;have t:=Zam (s:=⟨at0,ms0,0⟩) ha rfl hR;have X:at1≤l.length:=t.le;have a1:ms1.length≤99001:=by have:=t.mks;simp only at this;omega
 rw[hR]at B;clear hR t;have a2:(A.kind==0)=false:=by simpa using hk
 clear hk;have D:=hid (fun w2 w3 S1 u1 (hS':∀k,S1 k→k<w3.heap.size) (hO':∀k,GS O w.heap.size k→k<w3.heap.size) (hW':Fr nob W0 w3) (hSW':∀k,S1 k→W0.heap.size≤k) (h:ARd b l x ⟨at1,ms1,0⟩ S1 w3) (ng:¬S1 w2) hg=>Zfo b l x ⟨at1,ms1,0⟩ S1 (GS O w.heap.size) w2 A.kind A.line A.text u1 w3 hl X (by show ms1.length≤_;omega) rfl hS' hO' W0 HE.out hW' hSW' h ng hg);have M:¬z=0:=pairD_err hR2;have a3:(z==0)=false:=by simpa using M
 have N:(z !=0)=true:=by simpa using M
 rw[hR2]at D;clear hR2;go_enter Tryz.func41,Tryz.ntmps41;go_wp2_with(rw[←W.out]);refine B.out.mono ?_;intro e w2 he;obtain⟨v,S1,rfl,⟨u1,rfl,u⟩,h2,d⟩:=he;have f:=d.lt V.out;have L:=u.shape;obtain⟨w3,m⟩:∃w3,w3=w2.alloc (.cells #[.int .i64 A.kind,.int .i64 A.line,.string ⟨A.text.toArray⟩,u1,.int .i64 0,.int .i64 0,.string ⟨#[]⟩,.nilIface,.bool false] 47):=⟨_,rfl⟩;have f3:Fr nob w2 w3:=by rw[m];exact(Fr.refl _ _).alloc _
 have j:w3.heap[w2.heap.size]? =some (.cells #[.int .i64 A.kind,.int .i64 A.line,.string ⟨A.text.toArray⟩,u1,.int .i64 0,.int .i64 0,.string ⟨#[]⟩,.nilIface,.bool false] 47 (0,0)):=by rw[m];exact newAt _ _
 have P:¬S1 w2.heap.size:=fun h=>Nat.lt_irrefl _ (f _ h);have h3:=h2.on f3;have J:w1.heap.size≤w2.heap.size:=d.fr.size;have R:Stp S w1 (GS S1 w2.heap.size) w3:=(d.trans (Stp.of f3)).plus J (lt_heap j);have K:RN (SO (GS S1 w2.heap.size) (GS O w.heap.size)) w3 A.tree u1:=RN.keep f3 (fun _ _ x=>x.elim) (fun k hk hx=>by
  rcases hx with(hx|hx)|hx
  ·exact .inl hx
  ·have hx:k=w2.heap.size:=hx;omega
  ·exact .inr hx) _ _ u
 have G:=hid m;obtain⟨a0,o⟩:=h3;have r3:=Zd o.blk _ (Fr.refl _ _);have Q:=Zk j _ (Fr.refl _ _);have E:=hid (D.out w2.heap.size w3 S1 u1 (fun k hk=>by have:=f k hk;have:=f3.size;omega) (fun k hk=>by have:=U.out k hk;have:=f3.size;omega) ((d.trans (Stp.of f3)).from H.out F.out) (fun k hk=>by by_cases h:k<w1.heap.size;exact F.out k (d.old k h hk);have:=H.out.size;omega) ⟨a0,o⟩ P j);have I:=hid R;have R1:=hid K;clear u h2 d m f3 o j P R J f K;rcases L with rfl|⟨i1,y1,rfl⟩
 ·skip
  go_wp2_with(rw[←G.out]);refine E.out.mono ?_;rintro e wP ⟨rfl,S2,ms,hX,Y,i⟩;obtain⟨y,a⟩:=hX;have rX:=Zd a.blk _ (Fr.refl _ _);have hX:ARd b l x _ S2 wP:=⟨y,a⟩;have st:=I.out.trans i;clear i r3 Q a;have c:=Zbl rfl HS.out HZ.out st;have rz:=Zk c _ (Fr.refl _ _);have q1:=hid (ZT hX (fun h=>ZE C.out HS.out st h) (.int .i64 0) (.int .i64 0) (.string ⟨#[]⟩) .nilIface (.int .i64 0) (.int .i64 0) (.string ⟨#[]⟩) .nilIface (.bool false));have q2:=hid (ZU F1.out rfl st (.int .i64 0) (.int .i64 0) (.string ⟨#[]⟩) .nilIface (.int .i64 0) (.int .i64 0) (.string ⟨#[]⟩) .nilIface (.bool false));have n:=hid (Zf c (.int .i64 0) (.int .i64 0) (.string ⟨#[]⟩) .nilIface (.int .i64 0) (.int .i64 0) (.string ⟨#[]⟩) .nilIface (.bool false));clear hX st c;(try dsimp only)
  repeat(first|rw[N]|go_step)
  (try simp only[Exit.inBlock,Exit.then]);exact bodyPost_ret (Zu rfl rfl n.out rfl rfl rfl rfl rfl rfl rfl rfl rfl) rfl ⟨⟨AV.zero,AV.zero,false⟩,_,_,_,rfl,⟨.nilIface,.nilIface,rfl,by show RN _ _ .nil _;rw[RN],by show RN _ _ .nil _;rw[RN]⟩,q1.out,q2.out⟩
 ·skip
  go_wp2_with(rw[←G.out]);refine E.out.mono ?_;rintro e wP ⟨rfl,S2,ms,hX,Y,i⟩;obtain⟨y,a⟩:=hX;have rX:=Zd a.blk _ (Fr.refl _ _);have hX:ARd b l x _ S2 wP:=⟨y,a⟩;have st:=I.out.trans i;clear i r3 Q a;have c:=Zbl rfl HS.out HZ.out st;have rz:=Zk c _ (Fr.refl _ _);have q1:=hid (ZT hX (fun h=>ZE C.out HS.out st h) (.int .i64 0) (.int .i64 0) (.string ⟨#[]⟩) .nilIface (.int .i64 0) (.int .i64 0) (.string ⟨#[]⟩) .nilIface (.bool false));have q2:=hid (ZU F1.out rfl st (.int .i64 0) (.int .i64 0) (.string ⟨#[]⟩) .nilIface (.int .i64 0) (.int .i64 0) (.string ⟨#[]⟩) .nilIface (.bool false));have n:=hid (Zf c (.int .i64 0) (.int .i64 0) (.string ⟨#[]⟩) .nilIface (.int .i64 0) (.int .i64 0) (.string ⟨#[]⟩) .nilIface (.bool false));clear hX st c;(try dsimp only)
  repeat(first|rw[N]|go_step)
  (try simp only[Exit.inBlock,Exit.then]);exact bodyPost_ret (Zu rfl rfl n.out rfl rfl rfl rfl rfl rfl rfl rfl rfl) rfl ⟨⟨AV.zero,AV.zero,false⟩,_,_,_,rfl,⟨.nilIface,.nilIface,rfl,by show RN _ _ .nil _;rw[RN],by show RN _ _ .nil _;rw[RN]⟩,q1.out,q2.out⟩
end Go.Proofs.YtgllcniibbaoaaaGreatDoor
