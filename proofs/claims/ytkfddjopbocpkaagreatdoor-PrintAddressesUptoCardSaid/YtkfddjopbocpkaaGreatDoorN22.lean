/- Lemmas of this claim. -/
import Derived.Test.YtkfddjopbocpkaaGreatDoorN20
import Derived.Test.YtkfddjopbocpkaaGreatDoorN21
set_option linter.unusedVariables false
set_option linter.unusedSimpArgs false
set_option maxRecDepth 100000
set_option maxHeartbeats 4000000
namespace Go.Proofs.YtkfddjopbocpkaaGreatDoor
open Go.Lib (hid)
open Go.RowKit
def Zni(S:Nat→Prop)(w:World)(g:GV)(v:Value):Prop:=∃u1 u2,v=.agg #[.int .i64 g.a.kind,.int .i64 g.a.line,.string ⟨g.a.text.toArray⟩,u1,.int .i64 g.b.kind,.int .i64 g.b.line,.string ⟨g.b.text.toArray⟩,u2,.bool g.no]∧RN S w g.a.tree u1∧RN S w g.b.tree u2
def ZaV(b:Nat)(l:List UInt8)(x:Bool)(S O:Nat→Prop)(w:World)(R:ZpG)(r:Ending)(w':World):Prop:=match R with
 | .inl (z,p)=>∃g v S' ms,r=.returned v∧Zni nob w' g v∧ARd b l x ⟨p,ms,z⟩ S' w'∧Stp S w S' w'
 | .inr (g,s')=>∃v S',r=.returned v∧Zni (SO S' O) w' g v∧ARd b l x s' S' w'∧Stp S w S' w'
theorem Zu{fn:Func}{p:Tmp}(h:fn.results= #[.cell p 30]){tmps:Array Value}{r:Nat}(ht:tmps.getD p undef=.pointer (some ⟨r,0,none⟩)){W:World}{a0 a1 a2 a3 a4 a5 a6 a7 a8:Value}
 (hb:W.heap[r]? =some (.cells #[a0,a1,a2,a3,a4,a5,a6,a7,a8] 30 (0,0))) (h0:a0.oneCell'=true) (h1:a1.oneCell'=true) (h2:a2.oneCell'=true) (h3:a3.oneCell'=true) (h4:a4.oneCell'=true) (h5:a5.oneCell'=true) (h6:a6.oneCell'=true) (h7:a7.oneCell'=true) (h8:a8.oneCell'=true):
 (results fn tmps).run Tryz.prog W=.ok (.agg #[a0,a1,a2,a3,a4,a5,a6,a7,a8]) W:=by
 have c0:=cell_at (j:=0) hb rfl;have c1:=cell_at (j:=1) hb rfl;have c2:=cell_at (j:=2) hb rfl;have c3:=cell_at (j:=3) hb rfl;have c4:=cell_at (j:=4) hb rfl;have c5:=cell_at (j:=5) hb rfl;have c6:=cell_at (j:=6) hb rfl;have c7:=cell_at (j:=7) hb rfl;have c8:=cell_at (j:=8) hb rfl;have a:tmps[p]?.getD undef=.pointer (some ⟨r,0,none⟩):=by rw[←ht];simp
 simp only[results,h];simp[a,go_sem,c0,c1,c2,c3,c4,c5,c6,c7,c8]
section
variable {b:Nat} {l:List UInt8} {x:Bool} {s:AdS} {S S' S2 O:Nat→Prop} {w w1 wZ:World} {r g:Nat} {t:Nd} {u:Value}
theorem Stp.plus(h:Stp S w S' w1)(hg:w.heap.size≤g)(hg':g<w1.heap.size):Stp S w (GS S' g) w1:=
 ⟨h.fr,fun k hk hx=>hx.elim (h.old k hk) (fun e=>by have e:k=g:=e;omega),fun hl k hx=>by
  rcases hx with hx|hx
  ·exact h.lt hl k hx
  ·have hx:k=g:=hx;omega⟩
theorem ZE(hr1:r<w1.heap.size)(hS:∀k,S k→k<r)(st:Stp S w1 S' wZ):¬S' r:=fun hx=>by have:=hS r (st.old r hr1 hx);omega
theorem Zbl{a0 a1 a2 a3 a4 a5 a6 a7 a8:Value}{T:TypeId}(hr:r=w.heap.size)(hS:∀k,S k→k<w.heap.size)(hz:w1.heap[r]? =some (.cells #[a0,a1,a2,a3,a4,a5,a6,a7,a8] T (0,0)))(st:Stp S w1 S' wZ):wZ.heap[r]? =some (.cells #[a0,a1,a2,a3,a4,a5,a6,a7,a8] T (0,0)):=
 st.fr.heap hz (fun h=>by have:=hS r h;omega)
theorem ZT(h:ARd b l x s S2 wZ)(hr:¬GS S2 g r)(v0 v1 v2 v3 v4 v5 v6 v7 v8:Value):ARd b l x s (GS S2 g) (ZcB wZ r v0 v1 v2 v3 v4 v5 v6 v7 v8):=by
 obtain⟨mv,h⟩:=h;have k:=h.keep (Zas (w:=wZ) (b:=r) v0 v1 v2 v3 v4 v5 v6 v7 v8) (fun e=>hr (.inl (e▸h.me))) (fun k hk e=>hr (.inl (e▸(h.nm k hk).2)));exact⟨mv,k.blk,k.ma,fun j hj=>⟨(k.nm j hj).1,.inl (k.nm j hj).2⟩,.inl k.me⟩
theorem ZU(f1:Fr nob w w1)(hr:r=w.heap.size)(st:Stp S w1 S' wZ)(v0 v1 v2 v3 v4 v5 v6 v7 v8:Value):Stp S w S' (ZcB wZ r v0 v1 v2 v3 v4 v5 v6 v7 v8):=by
 have s1:Stp S w S' wZ:=(Stp.of f1).trans st;have hs:=ZfX (w:=wZ) (b:=r) v0 v1 v2 v3 v4 v5 v6 v7 v8;exact⟨s1.fr.trans (Zas v0 v1 v2 v3 v4 v5 v6 v7 v8) (fun i hi e=>by have e:i=r:=e;omega),s1.old,fun hl k hk=>by have:=s1.lt hl k hk;omega⟩
end
theorem Zjo(b:Nat)(l:List UInt8)(x:BF)(at0:Nat)(ms0:List (Nat×List UInt8))(S O:Nat→Prop)(w:World)(hl:l.length≤99000)(ha:at0≤l.length)(hm:ms0.length=0)(hS:∀k,S k→k<w.heap.size)(hO:∀k,O k→k<w.heap.size)(W0:World)(hE:Env W0)(hW:Fr nob W0 w)(hSW:∀k,S k→W0.heap.size≤k)(h:ARd b l x ⟨at0,ms0,0⟩ S w)(z:Int)(p:Nat)(hR:ZaC x l false ⟨at0,ms0,0⟩=.inl (z,p)):
 Calls Tryz.prog 51 #[.pointer (some ⟨b,0,none⟩)] w (ZaV b l x S O w (.inl (z,p))):=by
 have hl:l.length≤100000:=Nat.le_trans hl (by decide);obtain⟨w1,a⟩:∃w1,w1=w.alloc (.cells zG 30):=⟨_,rfl⟩;have f1:Fr nob w w1:=by rw[a];exact(Fr.refl _ _).alloc _
 have hz:w1.heap[w.heap.size]? =some (.cells zG 30 (0,0)):=by rw[a];exact newAt _ _
 have y:w1.heap.size=w.heap.size+1:=by rw[a];simp
 have h1:=h.on f1;have i:∀k,S k→k<w1.heap.size:=fun k hk=>by have:=hS k hk;omega
 have g:∀k,GS O w.heap.size k→k<w1.heap.size:=fun k hk=>by
  rcases hk with hk|hk
  ·have:=hO k hk;omega
  ·have hk:k=w.heap.size:=hk;omega
 have n:=hid (Zal b l x false ⟨at0,ms0,0⟩ S (GS O w.heap.size) w1 (by omega) ha (by show ms0.length≤_;omega) rfl i g W0 hE (hW.trans' f1) hSW h1);have t:=hid a;have HS:=hid hS;have F1:=hid f1;have HZ:=hid hz;have r:=hid (lt_heap hz);have s:=hid i;have HE:=hid hE;have E:=hid (hW.trans' f1);have D:=hid hSW;have C:=hid g;clear h h1 a hS f1 hz hO hE hW hSW y i g;have q:¬z=0:=addrD_err hR;have F:(z==0)=false:=by simpa using q
 have A:(z !=0)=true:=by simpa using q
 rw[hR]at n;clear hR;go_enter Tryz.func51,Tryz.ntmps51;go_wp2_with(rw[←t.out]);refine n.out.mono ?_;intro e w2 he;obtain⟨he,S1,ms,h2,d⟩:=he;have he:e=.returned (.agg #[.int .i64 0,.int .i64 0,.string ⟨#[]⟩,.nilIface]):=he;subst he;have o:=d.lt s.out;obtain⟨w3,c⟩:∃w3,w3=w2.alloc (.cells zG 30):=⟨_,rfl⟩;have f3:Fr nob w2 w3:=by rw[c];exact(Fr.refl _ _).alloc _
 have j:w3.heap[w2.heap.size]? =some (.cells zG 30 (0,0)):=by rw[c];exact newAt _ _
 obtain⟨B,f⟩:=h2.on f3;have r3:=Zd f.blk _ (Fr.refl _ _);have G:=Zk j _ (Fr.refl _ _);have st:Stp S w1 (GS S1 w2.heap.size) w3:=(d.trans (Stp.of f3)).plus d.fr.size (lt_heap j);have hX:ARd b l x ⟨p,ms,z⟩ S1 w3:=⟨B,f⟩;have u:=hid c;clear h2 d c f3 f j o;have m:=Zbl rfl HS.out HZ.out st;have rz:=Zk m _ (Fr.refl _ _);have q1:=hid (ZT hX (fun h=>ZE r.out HS.out st h) (.int .i64 0) (.int .i64 0) (.string ⟨#[]⟩) .nilIface (.int .i64 0) (.int .i64 0) (.string ⟨#[]⟩) .nilIface (.bool false));have q2:=hid (ZU F1.out rfl st (.int .i64 0) (.int .i64 0) (.string ⟨#[]⟩) .nilIface (.int .i64 0) (.int .i64 0) (.string ⟨#[]⟩) .nilIface (.bool false));have v:=hid (Zf m (.int .i64 0) (.int .i64 0) (.string ⟨#[]⟩) .nilIface (.int .i64 0) (.int .i64 0) (.string ⟨#[]⟩) .nilIface (.bool false));clear hX st m;(try dsimp only)
 iterate 9 go_step
 rw[←u.out]
 repeat(first|rw[A]|go_step)
 (try simp only[Exit.inBlock,Exit.then]);exact bodyPost_ret (Zu rfl rfl v.out rfl rfl rfl rfl rfl rfl rfl rfl rfl) rfl ⟨⟨AV.zero,AV.zero,false⟩,_,_,_,rfl,⟨.nilIface,.nilIface,rfl,by show RN _ _ .nil _;rw[RN],by show RN _ _ .nil _;rw[RN]⟩,q1.out,q2.out⟩
theorem Zhx(b:Nat)(l:List UInt8)(x:BF)(at0:Nat)(ms0:List (Nat×List UInt8))(S O:Nat→Prop)(w:World)(hl:l.length≤99000)(ha:at0≤l.length)(hm:ms0.length=0)(hS:∀k,S k→k<w.heap.size)(hO:∀k,O k→k<w.heap.size)(W0:World)(hE:Env W0)(hW:Fr nob W0 w)(hSW:∀k,S k→W0.heap.size≤k)(h:ARd b l x ⟨at0,ms0,0⟩ S w)(A:AV)(at1:Nat)(ms1:List (Nat×List UInt8))(hR:ZaC x l false ⟨at0,ms0,0⟩=.inr (A,⟨at1,ms1,0⟩))(hk:A.kind≠0)(z:Int)(p:Nat)(hR2:Zbc x l ⟨at1,ms1,0⟩=.inl (z,p)):
 Calls Tryz.prog 51 #[.pointer (some ⟨b,0,none⟩)] w (ZaV b l x S O w (.inl (z,p))):=by
 have hl:l.length≤100000:=Nat.le_trans hl (by decide);obtain⟨w1,g⟩:∃w1,w1=w.alloc (.cells zG 30):=⟨_,rfl⟩;have f1:Fr nob w w1:=by rw[g];exact(Fr.refl _ _).alloc _
 have hz:w1.heap[w.heap.size]? =some (.cells zG 30 (0,0)):=by rw[g];exact newAt _ _
 have Z:w1.heap.size=w.heap.size+1:=by rw[g];simp
 have h1:=h.on f1;have r:∀k,S k→k<w1.heap.size:=fun k hk=>by have:=hS k hk;omega
 have q:∀k,GS O w.heap.size k→k<w1.heap.size:=fun k hk=>by
  rcases hk with hk|hk
  ·have:=hO k hk;omega
  ·have hk:k=w.heap.size:=hk;omega
 have B:=hid (Zal b l x false ⟨at0,ms0,0⟩ S (GS O w.heap.size) w1 (by omega) ha (by show ms0.length≤_;omega) rfl r q W0 hE (hW.trans' f1) hSW h1);have W:=hid g;have HS:=hid hS;have F1:=hid f1;have HZ:=hid hz;have C:=hid (lt_heap hz);have V:=hid r;have HE:=hid hE;have H:=hid (hW.trans' f1);have F:=hid hSW;have U:=hid q;clear h h1 g hS f1 hz hO hE hW hSW Z r q;have t:=Zam (s:=⟨at0,ms0,0⟩) ha rfl hR;have X:at1≤l.length:=t.le;have a1:ms1.length≤99001:=by have:=t.mks;simp only at this;omega
 rw[hR]at B;clear hR t;have a2:(A.kind==0)=false:=by simpa using hk
 clear hk;have D:=hid (fun w2 w3 S1 u1 (hS':∀k,S1 k→k<w3.heap.size) (hO':∀k,GS O w.heap.size k→k<w3.heap.size) (hW':Fr nob W0 w3) (hSW':∀k,S1 k→W0.heap.size≤k) (h:ARd b l x ⟨at1,ms1,0⟩ S1 w3) (ng:¬S1 w2) hg=>Zfo b l x ⟨at1,ms1,0⟩ S1 (GS O w.heap.size) w2 A.kind A.line A.text u1 w3 hl X (by show ms1.length≤_;omega) rfl hS' hO' W0 HE.out hW' hSW' h ng hg);have M:¬z=0:=pairD_err hR2;have a3:(z==0)=false:=by simpa using M
 have N:(z !=0)=true:=by simpa using M
 rw[hR2]at D;clear hR2;go_enter Tryz.func51,Tryz.ntmps51;go_wp2_with(rw[←W.out]);refine B.out.mono ?_;intro e w2 he;obtain⟨v,S1,rfl,⟨u1,rfl,u⟩,h2,d⟩:=he;have f:=d.lt V.out;have L:=u.shape;obtain⟨w3,m⟩:∃w3,w3=w2.alloc (.cells #[.int .i64 A.kind,.int .i64 A.line,.string ⟨A.text.toArray⟩,u1,.int .i64 0,.int .i64 0,.string ⟨#[]⟩,.nilIface,.bool false] 30):=⟨_,rfl⟩;have f3:Fr nob w2 w3:=by rw[m];exact(Fr.refl _ _).alloc _
 have j:w3.heap[w2.heap.size]? =some (.cells #[.int .i64 A.kind,.int .i64 A.line,.string ⟨A.text.toArray⟩,u1,.int .i64 0,.int .i64 0,.string ⟨#[]⟩,.nilIface,.bool false] 30 (0,0)):=by rw[m];exact newAt _ _
 have P:¬S1 w2.heap.size:=fun h=>Nat.lt_irrefl _ (f _ h);have h3:=h2.on f3;have J:w1.heap.size≤w2.heap.size:=d.fr.size;have R:Stp S w1 (GS S1 w2.heap.size) w3:=(d.trans (Stp.of f3)).plus J (lt_heap j);have K:RN (SO (GS S1 w2.heap.size) (GS O w.heap.size)) w3 A.tree u1:=RN.keep f3 (fun _ _ x=>x.elim) (fun k hk hx=>by
  rcases hx with(hx|hx)|hx
  ·exact .inl hx
  ·have hx:k=w2.heap.size:=hx;omega
  ·exact .inr hx) _ _ u
 have G:=hid m;obtain⟨a0,o⟩:=h3;have r3:=Zd o.blk _ (Fr.refl _ _);have Q:=Zk j _ (Fr.refl _ _);have E:=hid (D.out w2.heap.size w3 S1 u1 (fun k hk=>by have:=f k hk;have:=f3.size;omega) (fun k hk=>by have:=U.out k hk;have:=f3.size;omega) ((d.trans (Stp.of f3)).from H.out F.out) (fun k hk=>by by_cases h:k<w1.heap.size;exact F.out k (d.old k h hk);have:=H.out.size;omega) ⟨a0,o⟩ P j);have I:=hid R;have R1:=hid K;clear u h2 d m f3 o j P R J f K;rcases L with rfl|⟨i1,y1,rfl⟩
 ·skip
  go_wp2_with(rw[←G.out]);refine E.out.mono ?_;rintro e wP ⟨rfl,S2,ms,hX,Y,i⟩;obtain⟨y,a⟩:=hX;have rX:=Zd a.blk _ (Fr.refl _ _);have hX:ARd b l x _ S2 wP:=⟨y,a⟩;have st:=I.out.trans i;clear i r3 Q a;have c:=Zbl rfl HS.out HZ.out st;have rz:=Zk c _ (Fr.refl _ _);have q1:=hid (ZT hX (fun h=>ZE C.out HS.out st h) (.int .i64 0) (.int .i64 0) (.string ⟨#[]⟩) .nilIface (.int .i64 0) (.int .i64 0) (.string ⟨#[]⟩) .nilIface (.bool false));have q2:=hid (ZU F1.out rfl st (.int .i64 0) (.int .i64 0) (.string ⟨#[]⟩) .nilIface (.int .i64 0) (.int .i64 0) (.string ⟨#[]⟩) .nilIface (.bool false));have n:=hid (Zf c (.int .i64 0) (.int .i64 0) (.string ⟨#[]⟩) .nilIface (.int .i64 0) (.int .i64 0) (.string ⟨#[]⟩) .nilIface (.bool false));clear hX st c;(try dsimp only)
  repeat(first|rw[N]|go_step)
  (try simp only[Exit.inBlock,Exit.then]);exact bodyPost_ret (Zu rfl rfl n.out rfl rfl rfl rfl rfl rfl rfl rfl rfl) rfl ⟨⟨AV.zero,AV.zero,false⟩,_,_,_,rfl,⟨.nilIface,.nilIface,rfl,by show RN _ _ .nil _;rw[RN],by show RN _ _ .nil _;rw[RN]⟩,q1.out,q2.out⟩
 ·skip
  go_wp2_with(rw[←G.out]);refine E.out.mono ?_;rintro e wP ⟨rfl,S2,ms,hX,Y,i⟩;obtain⟨y,a⟩:=hX;have rX:=Zd a.blk _ (Fr.refl _ _);have hX:ARd b l x _ S2 wP:=⟨y,a⟩;have st:=I.out.trans i;clear i r3 Q a;have c:=Zbl rfl HS.out HZ.out st;have rz:=Zk c _ (Fr.refl _ _);have q1:=hid (ZT hX (fun h=>ZE C.out HS.out st h) (.int .i64 0) (.int .i64 0) (.string ⟨#[]⟩) .nilIface (.int .i64 0) (.int .i64 0) (.string ⟨#[]⟩) .nilIface (.bool false));have q2:=hid (ZU F1.out rfl st (.int .i64 0) (.int .i64 0) (.string ⟨#[]⟩) .nilIface (.int .i64 0) (.int .i64 0) (.string ⟨#[]⟩) .nilIface (.bool false));have n:=hid (Zf c (.int .i64 0) (.int .i64 0) (.string ⟨#[]⟩) .nilIface (.int .i64 0) (.int .i64 0) (.string ⟨#[]⟩) .nilIface (.bool false));clear hX st c;(try dsimp only)
  repeat(first|rw[N]|go_step)
  (try simp only[Exit.inBlock,Exit.then]);exact bodyPost_ret (Zu rfl rfl n.out rfl rfl rfl rfl rfl rfl rfl rfl rfl) rfl ⟨⟨AV.zero,AV.zero,false⟩,_,_,_,rfl,⟨.nilIface,.nilIface,rfl,by show RN _ _ .nil _;rw[RN],by show RN _ _ .nil _;rw[RN]⟩,q1.out,q2.out⟩
end Go.Proofs.YtkfddjopbocpkaaGreatDoor
