/- Lemmas of this claim. -/
import Derived.Test.YtgllcniibbaoaaaGreatDoorJ18
set_option linter.all false
set_option maxRecDepth 100000
set_option maxHeartbeats 24000000
namespace Go.Proofs.YtgllcniibbaoaaaGreatDoor
open Go.Proofs.Tryz
open Go.Lib (hid)
open Go.RowKit
def Zni(S:Nat→Prop)(w:World)(g:GV)(v:Value):Prop:=∃u1 u2,v=.agg #[.int .i64 g.a.kind,.int .i64 g.a.line,.string ⟨g.a.text.toArray⟩,u1,.int .i64 g.b.kind,.int .i64 g.b.line,.string ⟨g.b.text.toArray⟩,u2,.bool g.no]∧RN S w g.a.tree u1∧RN S w g.b.tree u2
def ZaV(b:Nat)(l:List UInt8)(x:Bool)(S O:Nat→Prop)(w:World)(R:ZpG)(r:Ending)(w':World):Prop:=match R with
 | .inl (z,p)=>∃g v S' ms,r=.returned v∧Zni nob w' g v∧ARd b l x ⟨p,ms,z⟩ S' w'∧Stp S w S' w'
 | .inr (g,s')=>∃v S',r=.returned v∧Zni (SO S' O) w' g v∧ARd b l x s' S' w'∧Stp S w S' w'
theorem Zu{fn:Func}{p:Tmp}(h:fn.results= #[.cell p 47]){tmps:Array Value}{r:Nat}(ht:tmps.getD p undef=.pointer (some ⟨r,0,none⟩)){W:World}{a0 a1 a2 a3 a4 a5 a6 a7 a8:Value}
 (hb:W.heap[r]? =some (.cells #[a0,a1,a2,a3,a4,a5,a6,a7,a8] 47 (0,0))) (h0:a0.oneCell'=true) (h1:a1.oneCell'=true) (h2:a2.oneCell'=true) (h3:a3.oneCell'=true) (h4:a4.oneCell'=true) (h5:a5.oneCell'=true) (h6:a6.oneCell'=true) (h7:a7.oneCell'=true) (h8:a8.oneCell'=true):
 (results fn tmps).run prog W=.ok (.agg #[a0,a1,a2,a3,a4,a5,a6,a7,a8]) W:=by
 have c0:=cell_at (j:=0) hb rfl;have c1:=cell_at (j:=1) hb rfl;have c2:=cell_at (j:=2) hb rfl;have c3:=cell_at (j:=3) hb rfl;have c4:=cell_at (j:=4) hb rfl;have c5:=cell_at (j:=5) hb rfl;have c6:=cell_at (j:=6) hb rfl;have c7:=cell_at (j:=7) hb rfl;have c8:=cell_at (j:=8) hb rfl;have a:tmps[p]?.getD undef=.pointer (some ⟨r,0,none⟩):=by rw[←ht];simp
 simp only[results,h];simp[a,go_sem,c0,c1,c2,c3,c4,c5,c6,c7,c8]
section
variable {b:Nat} {l:List UInt8} {x:Bool} {s:AdS} {S S' S2 O:Nat→Prop} {w w1 wZ:World} {r g:Nat} {t:Nd} {u:Value}
theorem Stp.plus(h:Stp S w S' w1)(hg:w.heap.size≤g)(hg':g<w1.heap.size):Stp S w (GS S' g) w1:=
 ⟨h.fr,fun k hk hx=>hx.elim (h.old k hk) (fun e=>by have e:k=g:=e;omega),fun hl k hx=>by
  rcases hx with hx|hx
  ·exact h.lt hl k hx
  ·have hx:k=g:=hx;omega⟩
theorem ZE(hr1:r<w1.heap.size)(hS:∀k,S k→k<r)(st:Stp S w1 S' wZ):¬S' r:=fun hx=>by have:=hS r (st.old r hr1 hx);omega
theorem Zbl{a0 a1 a2 a3 a4 a5 a6 a7 a8:Value}{T:TypeId}(hr:r=w.heap.size)(hS:∀k,S k→k<w.heap.size)(hz:w1.heap[r]? =some (.cells #[a0,a1,a2,a3,a4,a5,a6,a7,a8] T (0,0)))(st:Stp S w1 S' wZ):wZ.heap[r]? =some (.cells #[a0,a1,a2,a3,a4,a5,a6,a7,a8] T (0,0)):=
 st.fr.heap hz (fun h=>by have:=hS r h;omega)
theorem ZT(h:ARd b l x s S2 wZ)(hr:¬GS S2 g r)(v0 v1 v2 v3 v4 v5 v6 v7 v8:Value):ARd b l x s (GS S2 g) (ZcB wZ r v0 v1 v2 v3 v4 v5 v6 v7 v8):=by
 obtain⟨mv,h⟩:=h;have k:=h.keep (Zas (w:=wZ) (b:=r) v0 v1 v2 v3 v4 v5 v6 v7 v8) (fun e=>hr (.inl (e▸h.me))) (fun k hk e=>hr (.inl (e▸(h.nm k hk).2)));exact⟨mv,k.blk,k.ma,fun j hj=>⟨(k.nm j hj).1,.inl (k.nm j hj).2⟩,.inl k.me⟩
theorem ZU(f1:Fr nob w w1)(hr:r=w.heap.size)(st:Stp S w1 S' wZ)(v0 v1 v2 v3 v4 v5 v6 v7 v8:Value):Stp S w S' (ZcB wZ r v0 v1 v2 v3 v4 v5 v6 v7 v8):=by
 have s1:Stp S w S' wZ:=(Stp.of f1).trans st;have hs:=ZfX (w:=wZ) (b:=r) v0 v1 v2 v3 v4 v5 v6 v7 v8;exact⟨s1.fr.trans (Zas v0 v1 v2 v3 v4 v5 v6 v7 v8) (fun i hi e=>by have e:i=r:=e;omega),s1.old,fun hl k hk=>by have:=s1.lt hl k hk;omega⟩
end
theorem Zjo(b:Nat)(l:List UInt8)(x:Bool)(at0:Nat)(ms0:List (Nat×List UInt8))(S O:Nat→Prop)(w:World)(hl:l.length≤99000)(ha:at0≤l.length)(hm:ms0.length=0)(hS:∀k,S k→k<w.heap.size)(hO:∀k,O k→k<w.heap.size)(W0:World)(hE:Env W0)(hW:Fr nob W0 w)(hSW:∀k,S k→W0.heap.size≤k)(h:ARd b l x ⟨at0,ms0,0⟩ S w)(z:Int)(p:Nat)(hR:ZaC x l false ⟨at0,ms0,0⟩=.inl (z,p)):
 Calls prog 41 #[.pointer (some ⟨b,0,none⟩)] w (ZaV b l x S O w (.inl (z,p))):=by
 have hl:l.length≤100000:=Nat.le_trans hl (by decide);obtain⟨w1,a⟩:∃w1,w1=w.alloc (.cells zG 47):=⟨_,rfl⟩;have f1:Fr nob w w1:=by rw[a];exact(Fr.refl _ _).alloc _
 have hz:w1.heap[w.heap.size]? =some (.cells zG 47 (0,0)):=by rw[a];exact newAt _ _
 have y:w1.heap.size=w.heap.size+1:=by rw[a];simp
 have h1:=h.on f1;have i:∀k,S k→k<w1.heap.size:=fun k hk=>by have:=hS k hk;omega
 have g:∀k,GS O w.heap.size k→k<w1.heap.size:=fun k hk=>by
  rcases hk with hk|hk
  ·have:=hO k hk;omega
  ·have hk:k=w.heap.size:=hk;omega
 have n:=hid (Zal b l x false ⟨at0,ms0,0⟩ S (GS O w.heap.size) w1 (by omega) ha (by show ms0.length≤_;omega) rfl i g W0 hE (hW.trans' f1) hSW h1);have t:=hid a;have HS:=hid hS;have F1:=hid f1;have HZ:=hid hz;have r:=hid (lt_heap hz);have s:=hid i;have HE:=hid hE;have E:=hid (hW.trans' f1);have D:=hid hSW;have C:=hid g;clear h h1 a hS f1 hz hO hE hW hSW y i g;have q:¬z=0:=addrD_err hR;have F:(z==0)=false:=by simpa using q
 have A:(z !=0)=true:=by simpa using q
 rw[hR]at n;clear hR;go_enter func41,ntmps41;go_wp2_with(rw[←t.out]);refine n.out.mono ?_;intro e w2 he;obtain⟨he,S1,ms,h2,d⟩:=he;have he:e=.returned (.agg #[.int .i64 0,.int .i64 0,.string ⟨#[]⟩,.nilIface]):=he;subst he;have o:=d.lt s.out;obtain⟨w3,c⟩:∃w3,w3=w2.alloc (.cells zG 47):=⟨_,rfl⟩;have f3:Fr nob w2 w3:=by rw[c];exact(Fr.refl _ _).alloc _
 have j:w3.heap[w2.heap.size]? =some (.cells zG 47 (0,0)):=by rw[c];exact newAt _ _
 obtain⟨B,f⟩:=h2.on f3;have r3:=Zd f.blk _ (Fr.refl _ _);have G:=Zk j _ (Fr.refl _ _);have st:Stp S w1 (GS S1 w2.heap.size) w3:=(d.trans (Stp.of f3)).plus d.fr.size (lt_heap j);have hX:ARd b l x ⟨p,ms,z⟩ S1 w3:=⟨B,f⟩;have u:=hid c;clear h2 d c f3 f j o;have m:=Zbl rfl HS.out HZ.out st;have rz:=Zk m _ (Fr.refl _ _);have q1:=hid (ZT hX (fun h=>ZE r.out HS.out st h) (.int .i64 0) (.int .i64 0) (.string ⟨#[]⟩) .nilIface (.int .i64 0) (.int .i64 0) (.string ⟨#[]⟩) .nilIface (.bool false));have q2:=hid (ZU F1.out rfl st (.int .i64 0) (.int .i64 0) (.string ⟨#[]⟩) .nilIface (.int .i64 0) (.int .i64 0) (.string ⟨#[]⟩) .nilIface (.bool false));have v:=hid (Zf m (.int .i64 0) (.int .i64 0) (.string ⟨#[]⟩) .nilIface (.int .i64 0) (.int .i64 0) (.string ⟨#[]⟩) .nilIface (.bool false));clear hX st m;(try dsimp only)
 iterate 9 go_step
 rw[←u.out]
 repeat(first|rw[A]|go_step)
 (try simp only[Exit.inBlock,Exit.then]);exact bodyPost_ret (Zu rfl rfl v.out rfl rfl rfl rfl rfl rfl rfl rfl rfl) rfl ⟨⟨AV.zero,AV.zero,false⟩,_,_,_,rfl,⟨.nilIface,.nilIface,rfl,by show RN _ _ .nil _;rw[RN],by show RN _ _ .nil _;rw[RN]⟩,q1.out,q2.out⟩
theorem Zhx(b:Nat)(l:List UInt8)(x:Bool)(at0:Nat)(ms0:List (Nat×List UInt8))(S O:Nat→Prop)(w:World)(hl:l.length≤99000)(ha:at0≤l.length)(hm:ms0.length=0)(hS:∀k,S k→k<w.heap.size)(hO:∀k,O k→k<w.heap.size)(W0:World)(hE:Env W0)(hW:Fr nob W0 w)(hSW:∀k,S k→W0.heap.size≤k)(h:ARd b l x ⟨at0,ms0,0⟩ S w)(A:AV)(at1:Nat)(ms1:List (Nat×List UInt8))(hR:ZaC x l false ⟨at0,ms0,0⟩=.inr (A,⟨at1,ms1,0⟩))(hk:A.kind≠0)(z:Int)(p:Nat)(hR2:Zbc x l ⟨at1,ms1,0⟩=.inl (z,p)):
 Calls prog 41 #[.pointer (some ⟨b,0,none⟩)] w (ZaV b l x S O w (.inl (z,p))):=by
 have hl:l.length≤100000:=Nat.le_trans hl (by decide);obtain⟨w1,g⟩:∃w1,w1=w.alloc (.cells zG 47):=⟨_,rfl⟩;have f1:Fr nob w w1:=by rw[g];exact(Fr.refl _ _).alloc _
 have hz:w1.heap[w.heap.size]? =some (.cells zG 47 (0,0)):=by rw[g];exact newAt _ _
 have Z:w1.heap.size=w.heap.size+1:=by rw[g];simp
 have h1:=h.on f1;have r:∀k,S k→k<w1.heap.size:=fun k hk=>by have:=hS k hk;omega
 have q:∀k,GS O w.heap.size k→k<w1.heap.size:=fun k hk=>by
  rcases hk with hk|hk
  ·have:=hO k hk;omega
  ·have hk:k=w.heap.size:=hk;omega
 have B:=hid (Zal b l x false ⟨at0,ms0,0⟩ S (GS O w.heap.size) w1 (by omega) ha (by show ms0.length≤_;omega) rfl r q W0 hE (hW.trans' f1) hSW h1);have W:=hid g;have HS:=hid hS;have F1:=hid f1;have HZ:=hid hz;have C:=hid (lt_heap hz);have V:=hid r;have HE:=hid hE;have H:=hid (hW.trans' f1);have F:=hid hSW;have U:=hid q;clear h h1 g hS f1 hz hO hE hW hSW Z r q;have t:=Zam (s:=⟨at0,ms0,0⟩) ha rfl hR;have X:at1≤l.length:=t.le;have a1:ms1.length≤99001:=by have:=t.mks;simp only at this;omega
 rw[hR]at B;clear hR t;have a2:(A.kind==0)=false:=by simpa using hk
 clear hk;have D:=hid (fun w2 w3 S1 u1 (hS':∀k,S1 k→k<w3.heap.size) (hO':∀k,GS O w.heap.size k→k<w3.heap.size) (hW':Fr nob W0 w3) (hSW':∀k,S1 k→W0.heap.size≤k) (h:ARd b l x ⟨at1,ms1,0⟩ S1 w3) (ng:¬S1 w2) hg=>Zfo b l x ⟨at1,ms1,0⟩ S1 (GS O w.heap.size) w2 A.kind A.line A.text u1 w3 hl X (by show ms1.length≤_;omega) rfl hS' hO' W0 HE.out hW' hSW' h ng hg);have M:¬z=0:=pairD_err hR2;have a3:(z==0)=false:=by simpa using M
 have N:(z !=0)=true:=by simpa using M
 rw[hR2]at D;clear hR2;go_enter func41,ntmps41;go_wp2_with(rw[←W.out]);refine B.out.mono ?_;intro e w2 he;obtain⟨v,S1,rfl,⟨u1,rfl,u⟩,h2,d⟩:=he;have f:=d.lt V.out;have L:=u.shape;obtain⟨w3,m⟩:∃w3,w3=w2.alloc (.cells #[.int .i64 A.kind,.int .i64 A.line,.string ⟨A.text.toArray⟩,u1,.int .i64 0,.int .i64 0,.string ⟨#[]⟩,.nilIface,.bool false] 47):=⟨_,rfl⟩;have f3:Fr nob w2 w3:=by rw[m];exact(Fr.refl _ _).alloc _
 have j:w3.heap[w2.heap.size]? =some (.cells #[.int .i64 A.kind,.int .i64 A.line,.string ⟨A.text.toArray⟩,u1,.int .i64 0,.int .i64 0,.string ⟨#[]⟩,.nilIface,.bool false] 47 (0,0)):=by rw[m];exact newAt _ _
 have P:¬S1 w2.heap.size:=fun h=>Nat.lt_irrefl _ (f _ h);have h3:=h2.on f3;have J:w1.heap.size≤w2.heap.size:=d.fr.size;have R:Stp S w1 (GS S1 w2.heap.size) w3:=(d.trans (Stp.of f3)).plus J (lt_heap j);have K:RN (SO (GS S1 w2.heap.size) (GS O w.heap.size)) w3 A.tree u1:=RN.keep f3 (fun _ _ x=>x.elim) (fun k hk hx=>by
  rcases hx with(hx|hx)|hx
  ·exact .inl hx
  ·have hx:k=w2.heap.size:=hx;omega
  ·exact .inr hx) _ _ u
 have G:=hid m;obtain⟨a0,o⟩:=h3;have r3:=Zd o.blk _ (Fr.refl _ _);have Q:=Zk j _ (Fr.refl _ _);have E:=hid (D.out w2.heap.size w3 S1 u1 (fun k hk=>by have:=f k hk;have:=f3.size;omega) (fun k hk=>by have:=U.out k hk;have:=f3.size;omega) ((d.trans (Stp.of f3)).from H.out F.out) (fun k hk=>by by_cases h:k<w1.heap.size;exact F.out k (d.old k h hk);have:=H.out.size;omega) ⟨a0,o⟩ P j);have I:=hid R;have R1:=hid K;clear u h2 d m f3 o j P R J f K;rcases L with rfl|⟨i1,y1,rfl⟩
 ·skip
  go_wp2_with(rw[←G.out]);refine E.out.mono ?_;rintro e wP ⟨rfl,S2,ms,hX,Y,i⟩;obtain⟨y,a⟩:=hX;have rX:=Zd a.blk _ (Fr.refl _ _);have hX:ARd b l x _ S2 wP:=⟨y,a⟩;have st:=I.out.trans i;clear i r3 Q a;have c:=Zbl rfl HS.out HZ.out st;have rz:=Zk c _ (Fr.refl _ _);have q1:=hid (ZT hX (fun h=>ZE C.out HS.out st h) (.int .i64 0) (.int .i64 0) (.string ⟨#[]⟩) .nilIface (.int .i64 0) (.int .i64 0) (.string ⟨#[]⟩) .nilIface (.bool false));have q2:=hid (ZU F1.out rfl st (.int .i64 0) (.int .i64 0) (.string ⟨#[]⟩) .nilIface (.int .i64 0) (.int .i64 0) (.string ⟨#[]⟩) .nilIface (.bool false));have n:=hid (Zf c (.int .i64 0) (.int .i64 0) (.string ⟨#[]⟩) .nilIface (.int .i64 0) (.int .i64 0) (.string ⟨#[]⟩) .nilIface (.bool false));clear hX st c;(try dsimp only)
  repeat(first|rw[N]|go_step)
  (try simp only[Exit.inBlock,Exit.then]);exact bodyPost_ret (Zu rfl rfl n.out rfl rfl rfl rfl rfl rfl rfl rfl rfl) rfl ⟨⟨AV.zero,AV.zero,false⟩,_,_,_,rfl,⟨.nilIface,.nilIface,rfl,by show RN _ _ .nil _;rw[RN],by show RN _ _ .nil _;rw[RN]⟩,q1.out,q2.out⟩
 ·skip
  go_wp2_with(rw[←G.out]);refine E.out.mono ?_;rintro e wP ⟨rfl,S2,ms,hX,Y,i⟩;obtain⟨y,a⟩:=hX;have rX:=Zd a.blk _ (Fr.refl _ _);have hX:ARd b l x _ S2 wP:=⟨y,a⟩;have st:=I.out.trans i;clear i r3 Q a;have c:=Zbl rfl HS.out HZ.out st;have rz:=Zk c _ (Fr.refl _ _);have q1:=hid (ZT hX (fun h=>ZE C.out HS.out st h) (.int .i64 0) (.int .i64 0) (.string ⟨#[]⟩) .nilIface (.int .i64 0) (.int .i64 0) (.string ⟨#[]⟩) .nilIface (.bool false));have q2:=hid (ZU F1.out rfl st (.int .i64 0) (.int .i64 0) (.string ⟨#[]⟩) .nilIface (.int .i64 0) (.int .i64 0) (.string ⟨#[]⟩) .nilIface (.bool false));have n:=hid (Zf c (.int .i64 0) (.int .i64 0) (.string ⟨#[]⟩) .nilIface (.int .i64 0) (.int .i64 0) (.string ⟨#[]⟩) .nilIface (.bool false));clear hX st c;(try dsimp only)
  repeat(first|rw[N]|go_step)
  (try simp only[Exit.inBlock,Exit.then]);exact bodyPost_ret (Zu rfl rfl n.out rfl rfl rfl rfl rfl rfl rfl rfl rfl) rfl ⟨⟨AV.zero,AV.zero,false⟩,_,_,_,rfl,⟨.nilIface,.nilIface,rfl,by show RN _ _ .nil _;rw[RN],by show RN _ _ .nil _;rw[RN]⟩,q1.out,q2.out⟩
def rV(l:List UInt8)(ere:Bool)(s:RxS)(ca:Option Addr)(cc:Nat)(ma:Option Addr)(mc:Nat)(e p:Int):Value:=
 .agg #[.string ⟨l.toArray⟩,.bool ere,.int .i64 s.at_,.int .i64 s.opened,.slice ca s.closed.length cc,.slice ma s.marks.length mc,.int .i64 e,.int .i64 p]
open Go.RowKit Go.Sort
def CS(w:World)(l:List Nat)(ca:Option Addr)(cc:Nat):Prop:=SI w (l.map Int.ofNat) (.slice ca l.length cc)
def Zyn(O:Nat→Prop)(w W:World):Prop:=∀k o,¬O k→w.heap[k]? =some o→W.heap[k]? =some o
theorem Zyn.of_fr{O X:Nat→Prop}{w w':World}(f:Fr X w w')(h:∀k,k<w.heap.size→X k→O k):Zyn O w w':=fun k _ hk ho=>f.heap ho (fun x=>hk (h k (lt_heap ho) x))
structure LB(w0:World)(L:List (Nat×Array Value×TypeId))(w:World):Prop where
 fr:Fr nob w0 w
 lo:∀x∈L,w0.heap.size≤x.1
 ne:L.Pairwise (fun x y=>x.1≠y.1)
 at_:∀x∈L,w.heap[x.1]? =some (.cells x.2.1 x.2.2 (0,0))
abbrev lbB(O:Nat→Prop)(bs:List Nat)(k:Nat):Prop:=O k∨k∈bs
section
variable {w0 w w':World} {L:List (Nat×Array Value×TypeId)} {b:Nat} {cs cs':Array Value} {T:TypeId}
theorem LB.get(h:LB w0 L w)(j:Nat)(hj:L[j]? =some (b,cs,T)):w.heap[b]? =some (.cells cs T (0,0)):=h.at_ _ (List.mem_of_getElem? hj)
theorem LB.low(h:LB w0 L w)(j:Nat)(hj:L[j]? =some (b,cs,T)):w0.heap.size≤b:=h.lo _ (List.mem_of_getElem? hj)
theorem LB.on(h:LB w0 L w)(f:Fr nob w w'):LB w0 L w':=⟨h.fr.trans' f,h.lo,h.ne,fun x hx=>f.heap (h.at_ x hx) (fun x=>x)⟩
theorem LB.nil(w:World):LB w [] w:=⟨Fr.refl _ _,by simp,List.Pairwise.nil,by simp⟩
theorem LB.lt(h:LB w0 L w):∀x∈L,x.1<w.heap.size:=fun x hx=>lt_heap (h.at_ x hx)
theorem LB.push(h:LB w0 L w)(cs:Array Value)(T:TypeId)(n:Nat)(hn:n=w.heap.size):LB w0 (L++[(n,cs,T)]) (w.alloc (.cells cs T)):=by
 subst hn;refine⟨h.fr.alloc _,fun x hx=> ?_,?_,fun x hx=> ?_⟩
 ·rcases List.mem_append.1 hx with hx|hx
  ·exact h.lo x hx
  ·rw[List.mem_singleton]at hx;subst hx;exact h.fr.size
 ·rw[List.pairwise_append];refine⟨h.ne,List.pairwise_singleton _ _,fun x hx y hy=> ?_⟩;rw[List.mem_singleton]at hy;subst hy;have:=h.lt x hx;simp only;omega
 ·rcases List.mem_append.1 hx with hx|hx
  ·exact heap_alloc_lt _ (h.at_ x hx)
  ·rw[List.mem_singleton]at hx;subst hx;exact heap_alloc_new _ _
theorem LB.ne_at{x:Nat×Array Value×TypeId}(h:LB w0 L w)(j i:Nat)(hj:L[j]? =some (b,cs,T))(hi:L[i]? =some x)(hn:i≠j):x.1≠b:=by
 obtain⟨d,f⟩:=List.getElem?_eq_some_iff.1 hj;obtain⟨a,c⟩:=List.getElem?_eq_some_iff.1 hi;rcases Nat.lt_or_gt_of_ne hn with hl|hl
 ·have:=List.pairwise_iff_getElem.1 h.ne i j a d hl;rw[c,f]at this;exact this
 ·have:=List.pairwise_iff_getElem.1 h.ne j i d a hl;rw[c,f]at this;exact fun e=>this e.symm
theorem LB.row(h:LB w0 L w)(j:Nat)(hj:L[j]? =some (b,cs,T))(hw:w'.heap[b]? =some (.cells cs' T (0,0)))(f:Fr (fun k=>k=b) w w'):LB w0 (L.set j (b,cs',T)) w':=by
 have c:=(List.getElem?_eq_some_iff.1 hj).1;have a:∀(i:Nat) (x:Nat×Array Value×TypeId),(L.set j (b,cs',T))[i]? =some x→(i=j∧x=(b,cs',T))∨(i≠j∧L[i]? =some x):=fun i x hx=>by
  by_cases e:i=j
  ·subst e;rw[List.getElem?_set_self c]at hx;injection hx with hx;exact .inl ⟨rfl,hx.symm⟩
  ·rw[List.getElem?_set_ne (Ne.symm e)]at hx;exact .inr ⟨e,hx⟩
 refine⟨h.fr.trans f (fun i hi e=>by subst e;have:=h.low j hj;omega),fun x hx=> ?_,?_,fun x hx=> ?_⟩
 ·obtain⟨i,hi⟩:=List.getElem?_of_mem hx;rcases a i x hi with⟨_,rfl⟩|⟨_,e⟩
  ·exact h.low j hj
  ·exact h.lo x (List.mem_of_getElem? e)
 ·rw[List.pairwise_iff_getElem];intro p q hp hq d;have e1:(L.set j (b,cs',T))[p].1=(L[p]'(by simpa using hp)).1:=by
   rw[List.getElem_set];split
   ·next e=>subst e;have:=(List.getElem?_eq_some_iff.1 hj).2;rw[this]
   ·rfl
  have e2:(L.set j (b,cs',T))[q].1=(L[q]'(by simpa using hq)).1:=by
   rw[List.getElem_set];split
   ·next e=>subst e;have:=(List.getElem?_eq_some_iff.1 hj).2;rw[this]
   ·rfl
  rw[e1,e2];exact List.pairwise_iff_getElem.1 h.ne p q (by simpa using hp) (by simpa using hq) d
 ·obtain⟨i,hi⟩:=List.getElem?_of_mem hx;rcases a i x hi with⟨_,rfl⟩|⟨e,e'⟩
  ·exact hw
  ·exact f.heap (h.at_ x (List.mem_of_getElem? e')) (h.ne_at j i hj e' e)
theorem LB.out(j:Nat)(hj:L[j]? =some (b,cs,T))(f:Fr (fun k=>k=b) w w')(O:Nat→Prop):Zyn (lbB O (L.map (·.1))) w w':=.of_fr f (fun k _ e=>.inr (List.mem_map.2 ⟨_,List.mem_of_getElem? hj,e.symm⟩))
variable {P:Program} {ops:Array Oper} {rest:List Oper} {o:Oper} {a:Act} {Q:Exit→Act→World→Prop} {ty:TypeId} {d:TypeDesc}
theorem LB.ld(h:LB w0 L w)(j:Nat)(hj:L[j]? =some (b,cs,T))(hgd:o.guard=none)(x:Operand)(ho:o.op=.load ty x)(hx:a.eval x=.pointer (some ⟨b,0,none⟩))
 (hu:P.underlying ty=some d) (hd:(match d with| .struct _| .array _ _=>true|_=>false)=true) (hi:(P.info? ty).map (·.size)=some cs.size)
 (hk:wpList P ops Q rest (a.put o.dst (.agg cs)) w):wpList P ops Q (o::rest) a w:=wpList_load_row hgd ty x ho b hx T cs (0,0) d (h.get j hj) hu hd hi hk
theorem LB.qld(h:LB w0 L w)(j:Nat)(hj:L[j]? =some (b,cs,T)){K:Act→Prop}(hw:Region.wanted o (yielded ops a.tmps)=true)(x:Operand)(ho:o.op=.load ty x)(hx:a.eval x=.pointer (some ⟨b,0,none⟩))
 (hu:P.underlying ty=some d) (hd:(match d with| .struct _| .array _ _=>true|_=>false)=true) (hi:(P.info? ty).map (·.size)=some cs.size)
 (hk:wpQuiet P ops (fun w'=>∃p:Regrown,w'=grow (redrawn w p.d) p.os) K rest (a.put o.dst (.agg cs))):wpQuiet P ops (fun w'=>∃p:Regrown,w'=grow (redrawn w p.d) p.os) K (o::rest) a:=by
 unfold wpQuiet;rw[if_pos hw];refine⟨.agg cs,fun W hc=> ?_,hk⟩;unfold Oper.quietAt execOp;simp only[ho,hx,Instr.loadAt,Instr.sureAddr,Sem.run_bind,Sem.run_pure,Result.andThen_ok,run_loadVar_row W b T ty cs (0,0) d ((Zde hc).heap (h.get j hj) (fun x=>x)) hu hd hi];exact⟨rfl,rfl⟩
theorem LB.sto(h:LB w0 L w)(O:Nat→Prop)(j:Nat)(hj:L[j]? =some (b,cs,T))(hgd:o.guard=none)(x y:Operand)(ho:o.op=.store ty x y)(hx:a.eval x=.pointer (some ⟨b,0,none⟩))(hy:a.eval y=.agg cs')
 (hi:(P.info? ty).map (·.size)=some cs'.size) (hs:cs.size=cs'.size) (h1:cs'.all (·.oneCell')=true)
 (hk:∀W,LB w0 (L.set j (b,cs',T)) W→Zyn (lbB O (L.map (·.1))) w W→Fr (fun k=>k=b) w W→wpList P ops Q rest (a.put o.dst undef) W):wpList P ops Q (o::rest) a w:=
 wpList_store_row hgd ty x y ho b cs' hx hy T cs (h.get j hj) hi hs h1
  (hk _ (h.row j hj (setRow_heap w b cs cs' T (0,0) (h.get j hj)) (Zya w b cs')) (LB.out j hj (Zya w b cs') O) (Zya w b cs'))
theorem LB.cell'(h:LB w0 L w)(O:Nat→Prop)(j:Nat)(hj:L[j]? =some (b,cs,T))(i:Nat)(v:Value):LB w0 (L.set j (b,cs.setIfInBounds i v,T)) (w.setCell ⟨b,i,none⟩ v)∧Zyn (lbB O (L.map (·.1))) w (w.setCell ⟨b,i,none⟩ v)∧Fr (fun k=>k=b) w (w.setCell ⟨b,i,none⟩ v):=by
 have e:=setCell_eq_setRow w b i cs T (0,0) v (h.get j hj);rw[e];exact⟨h.row j hj (setRow_heap w b cs _ T (0,0) (h.get j hj)) (Zya w b _),LB.out j hj (Zya w b _) O,Zya w b _⟩
end
theorem Zyr{T:TypeId}{d:TypeDesc}(hu:prog.underlying T=some d)(hd:(match d with| .struct _| .array _ _=>true|_=>false)=false)(a:Addr)(w:World):
 Sem.run prog (loadVar T a) w=Sem.run prog (load a) w:=by
 have b:(isAgg T).run prog w=.ok false w:=by
  unfold isAgg;rw[Sem.run_bind,run_underlying hu w];cases d<;>simp_all
 simp[loadVar,Sem.run_bind,b]
theorem Zx4(a:Addr)(w:World):Sem.run prog (loadVar 9 a) w=Sem.run prog (load a) w:=Zyr underlying9 rfl a w
end Go.Proofs.YtgllcniibbaoaaaGreatDoor
