/-
  Merged texts of this claim: AdrH, AdrHPE, AdrHN0, AdrHN1, AdrHN2.
-/
import Derived.Test.YtkfddjopbocpkaaGreatDoorM11
import Derived.Test.YtkfddjopbocpkaaGreatDoorM21
set_option linter.unusedVariables false
set_option linter.unusedSimpArgs false
set_option maxRecDepth 100000
set_option maxHeartbeats 4000000
namespace Go.Proofs.YtkfddjopbocpkaaGreatDoor
open Go.Lib (hid)
open Go.RowKit
def ZkR(S:Nat→Prop)(w:World)(g:GV)(v:Value):Prop:=∃u1 u2,v=.agg #[.int .i64 g.a.kind,.int .i64 g.a.line,.string ⟨g.a.text.toArray⟩,u1,.int .i64 g.b.kind,.int .i64 g.b.line,.string ⟨g.b.text.toArray⟩,u2,.bool g.no]∧RN S w g.a.tree u1∧RN S w g.b.tree u2
def ZaG(b:Nat)(l:List UInt8)(x:Bool)(S O:Nat→Prop)(w:World)(R:Zno)(r:Ending)(w':World):Prop:=match R with
 | .inl (z,p)=>∃g v S' ms,r=.returned v∧ZkR nob w' g v∧ARd b l x ⟨p,ms,z⟩ S' w'∧Stp S w S' w'
 | .inr (g,s')=>∃v S',r=.returned v∧ZkR (SO S' O) w' g v∧ARd b l x s' S' w'∧Stp S w S' w'
theorem Zr{fn:Func}{p:Tmp}(h:fn.results= #[.cell p 30]){tmps:Array Value}{r:Nat}(ht:tmps.getD p undef=.pointer (some ⟨r,0,none⟩)){W:World}{a0 a1 a2 a3 a4 a5 a6 a7 a8:Value}
 (hb:W.heap[r]? =some (.cells #[a0,a1,a2,a3,a4,a5,a6,a7,a8] 30 (0,0))) (h0:a0.oneCell'=true) (h1:a1.oneCell'=true) (h2:a2.oneCell'=true) (h3:a3.oneCell'=true) (h4:a4.oneCell'=true) (h5:a5.oneCell'=true) (h6:a6.oneCell'=true) (h7:a7.oneCell'=true) (h8:a8.oneCell'=true):
 (results fn tmps).run Tryz.prog W=.ok (.agg #[a0,a1,a2,a3,a4,a5,a6,a7,a8]) W:=by
 have c0:=cell_at (j:=0) hb rfl;have c1:=cell_at (j:=1) hb rfl;have c2:=cell_at (j:=2) hb rfl;have c3:=cell_at (j:=3) hb rfl;have c4:=cell_at (j:=4) hb rfl;have c5:=cell_at (j:=5) hb rfl;have c6:=cell_at (j:=6) hb rfl;have c7:=cell_at (j:=7) hb rfl;have c8:=cell_at (j:=8) hb rfl;have ht':tmps[p]?.getD undef=.pointer (some ⟨r,0,none⟩):=by rw[←ht];simp
 simp only[results,h];simp[ht',go_sem,c0,c1,c2,c3,c4,c5,c6,c7,c8]
section
variable {b:Nat} {l:List UInt8} {x:Bool} {s:AdS} {S S' S2 O:Nat→Prop} {w w1 wZ:World} {r g:Nat} {t:Nd} {u:Value}
theorem Stp.plus(h:Stp S w S' w1)(hg:w.heap.size≤g)(hg':g<w1.heap.size):Stp S w (GS S' g) w1:=
 ⟨h.fr,fun k hk hx=>hx.elim (h.old k hk) (fun e=>by have e:k=g:=e;omega),fun hl k hx=>by
  rcases hx with hx|hx
  ·exact h.lt hl k hx
  ·have hx:k=g:=hx;omega⟩
theorem ZD(hr1:r<w1.heap.size)(hS:∀k,S k→k<r)(st:Stp S w1 S' wZ):¬S' r:=fun hx=>by have:=hS r (st.old r hr1 hx);omega
theorem Za0{a0 a1 a2 a3 a4 a5 a6 a7 a8:Value}{T:TypeId}(hr:r=w.heap.size)(hS:∀k,S k→k<w.heap.size)(hz:w1.heap[r]? =some (.cells #[a0,a1,a2,a3,a4,a5,a6,a7,a8] T (0,0)))(st:Stp S w1 S' wZ):wZ.heap[r]? =some (.cells #[a0,a1,a2,a3,a4,a5,a6,a7,a8] T (0,0)):=
 st.fr.heap hz (fun h=>by have:=hS r h;omega)
theorem ZP(h:ARd b l x s S2 wZ)(hr:¬GS S2 g r)(v0 v1 v2 v3 v4 v5 v6 v7 v8:Value):ARd b l x s (GS S2 g) (ZbR wZ r v0 v1 v2 v3 v4 v5 v6 v7 v8):=by
 obtain⟨mv,h⟩:=h;have k:=h.keep (Zaj (w:=wZ) (b:=r) v0 v1 v2 v3 v4 v5 v6 v7 v8) (fun e=>hr (.inl (e▸h.me))) (fun k hk e=>hr (.inl (e▸(h.nm k hk).2)));exact⟨mv,k.blk,k.ma,fun j hj=>⟨(k.nm j hj).1,.inl (k.nm j hj).2⟩,.inl k.me⟩
theorem ZQ(f1:Fr nob w w1)(hr:r=w.heap.size)(st:Stp S w1 S' wZ)(v0 v1 v2 v3 v4 v5 v6 v7 v8:Value):Stp S w S' (ZbR wZ r v0 v1 v2 v3 v4 v5 v6 v7 v8):=by
 have s1:Stp S w S' wZ:=(Stp.of f1).trans st;have hs:=Zew (w:=wZ) (b:=r) v0 v1 v2 v3 v4 v5 v6 v7 v8;exact⟨s1.fr.trans (Zaj v0 v1 v2 v3 v4 v5 v6 v7 v8) (fun i hi e=>by have e:i=r:=e;omega),s1.old,fun hl k hk=>by have:=s1.lt hl k hk;omega⟩
theorem ZA(h:RN (SO S' (GS O r)) wZ t u)(v0 v1 v2 v3 v4 v5 v6 v7 v8:Value):RN (SO S' O) (ZbR wZ r v0 v1 v2 v3 v4 v5 v6 v7 v8) t u:=
 RN.keep (Zaj v0 v1 v2 v3 v4 v5 v6 v7 v8) (fun _ _ e=>.inr (.inr e)) (fun _ _ hx=>hx.elim .inl (fun y=>.inr (.inl y))) _ _ h
end
theorem ZhC(b:Nat)(l:List UInt8)(x:BF)(at0:Nat)(ms0:List (Nat×List UInt8))(S O:Nat→Prop)(w:World)(hl:l.length≤99000)(ha:at0≤l.length)(hm:ms0.length=0)(hS:∀k,S k→k<w.heap.size)(hO:∀k,O k→k<w.heap.size)(W0:World)(hE:Env W0)(hW:Fr nob W0 w)(hSW:∀k,S k→W0.heap.size≤k)(h:ARd b l x ⟨at0,ms0,0⟩ S w)(z:Int)(p:Nat)(hR:Zar x l false ⟨at0,ms0,0⟩=.inl (z,p)):
 Calls Tryz.prog 51 #[.pointer (some ⟨b,0,none⟩)] w (ZaG b l x S O w (.inl (z,p))):=by
 have hl:l.length≤100000:=Nat.le_trans hl (by decide);obtain⟨w1,hw1⟩:∃w1,w1=w.alloc (.cells zG 30):=⟨_,rfl⟩;have f1:Fr nob w w1:=by rw[hw1];exact(Fr.refl _ _).alloc _
 have hz:w1.heap[w.heap.size]? =some (.cells zG 30 (0,0)):=by rw[hw1];exact newAt _ _
 have hsz:w1.heap.size=w.heap.size+1:=by rw[hw1];simp
 have h1:=h.on f1;have hSL:∀k,S k→k<w1.heap.size:=fun k hk=>by have:=hS k hk;omega
 have hOL:∀k,GS O w.heap.size k→k<w1.heap.size:=fun k hk=>by
  rcases hk with hk|hk
  ·have:=hO k hk;omega
  ·have hk:k=w.heap.size:=hk;omega
 have HAD:=hid (Zad b l x false ⟨at0,ms0,0⟩ S (GS O w.heap.size) w1 (by omega) ha (by show ms0.length≤_;omega) rfl hSL hOL W0 hE (hW.trans' f1) hSW h1);have HW1:=hid hw1;have HS:=hid hS;have F1:=hid f1;have HZ:=hid hz;have HLT:=hid (lt_heap hz);have HSL:=hid hSL;have HE:=hid hE;have HWF:=hid (hW.trans' f1);have HSW:=hid hSW;have HOL:=hid hOL;clear h h1 hw1 hS f1 hz hO hE hW hSW hsz hSL hOL;have hz0:¬z=0:=addrD_err hR;have hz1:(z==0)=false:=by simpa using hz0
 have hz2:(z !=0)=true:=by simpa using hz0
 rw[hR]at HAD;clear hR;go_enter Tryz.func51,Tryz.ntmps51
 go_wp2_with(rw[←HW1.out])
 refine HAD.out.mono ?_;intro e w2 he;obtain⟨he,S1,ms,h2,st2⟩:=he;have he:e=.returned (.agg #[.int .i64 0,.int .i64 0,.string ⟨#[]⟩,.nilIface]):=he;subst he;have hlt1:=st2.lt HSL.out;obtain⟨w3,hw3⟩:∃w3,w3=w2.alloc (.cells zG 30):=⟨_,rfl⟩;have f3:Fr nob w2 w3:=by rw[hw3];exact(Fr.refl _ _).alloc _
 have hg3:w3.heap[w2.heap.size]? =some (.cells zG 30 (0,0)):=by rw[hw3];exact newAt _ _
 obtain⟨mv3,h35⟩:=h2.on f3;have r3:=Zd h35.blk _ (Fr.refl _ _);have rg3:=Zj hg3 _ (Fr.refl _ _);have st:Stp S w1 (GS S1 w2.heap.size) w3:=(st2.trans (Stp.of f3)).plus st2.fr.size (lt_heap hg3);have hX:ARd b l x ⟨p,ms,z⟩ S1 w3:=⟨mv3,h35⟩;have HW3:=hid hw3;clear h2 st2 hw3 f3 h35 hg3 hlt1;have hzZ:=Za0 rfl HS.out HZ.out st;have rz:=Zj hzZ _ (Fr.refl _ _);have q1:=hid (ZP hX (fun h=>ZD HLT.out HS.out st h) (.int .i64 0) (.int .i64 0) (.string ⟨#[]⟩) .nilIface (.int .i64 0) (.int .i64 0) (.string ⟨#[]⟩) .nilIface (.bool false));have q2:=hid (ZQ F1.out rfl st (.int .i64 0) (.int .i64 0) (.string ⟨#[]⟩) .nilIface (.int .i64 0) (.int .i64 0) (.string ⟨#[]⟩) .nilIface (.bool false));have HZF:=hid (Zf hzZ (.int .i64 0) (.int .i64 0) (.string ⟨#[]⟩) .nilIface (.int .i64 0) (.int .i64 0) (.string ⟨#[]⟩) .nilIface (.bool false));clear hX st hzZ
 (try dsimp only)
 iterate 9 go_step
 rw[←HW3.out]
 repeat(first|rw[hz2]|go_step)
 (try simp only[Exit.inBlock,Exit.then])
 exact bodyPost_ret (Zr rfl rfl HZF.out rfl rfl rfl rfl rfl rfl rfl rfl rfl) rfl ⟨⟨AV.zero,AV.zero,false⟩,_,_,_,rfl,⟨.nilIface,.nilIface,rfl,by show RN _ _ .nil _;rw[RN],by show RN _ _ .nil _;rw[RN]⟩,q1.out,q2.out⟩
theorem ZfV(b:Nat)(l:List UInt8)(x:BF)(at0:Nat)(ms0:List (Nat×List UInt8))(S O:Nat→Prop)(w:World)(hl:l.length≤99000)(ha:at0≤l.length)(hm:ms0.length=0)(hS:∀k,S k→k<w.heap.size)(hO:∀k,O k→k<w.heap.size)(W0:World)(hE:Env W0)(hW:Fr nob W0 w)(hSW:∀k,S k→W0.heap.size≤k)(h:ARd b l x ⟨at0,ms0,0⟩ S w)(A:AV)(at1:Nat)(ms1:List (Nat×List UInt8))(hR:Zar x l false ⟨at0,ms0,0⟩=.inr (A,⟨at1,ms1,0⟩))(hk:A.kind≠0)(z:Int)(p:Nat)(hR2:Zbs x l ⟨at1,ms1,0⟩=.inl (z,p)):
 Calls Tryz.prog 51 #[.pointer (some ⟨b,0,none⟩)] w (ZaG b l x S O w (.inl (z,p))):=by
 have hl:l.length≤100000:=Nat.le_trans hl (by decide);obtain⟨w1,hw1⟩:∃w1,w1=w.alloc (.cells zG 30):=⟨_,rfl⟩;have f1:Fr nob w w1:=by rw[hw1];exact(Fr.refl _ _).alloc _
 have hz:w1.heap[w.heap.size]? =some (.cells zG 30 (0,0)):=by rw[hw1];exact newAt _ _
 have hsz:w1.heap.size=w.heap.size+1:=by rw[hw1];simp
 have h1:=h.on f1;have hSL:∀k,S k→k<w1.heap.size:=fun k hk=>by have:=hS k hk;omega
 have hOL:∀k,GS O w.heap.size k→k<w1.heap.size:=fun k hk=>by
  rcases hk with hk|hk
  ·have:=hO k hk;omega
  ·have hk:k=w.heap.size:=hk;omega
 have HAD:=hid (Zad b l x false ⟨at0,ms0,0⟩ S (GS O w.heap.size) w1 (by omega) ha (by show ms0.length≤_;omega) rfl hSL hOL W0 hE (hW.trans' f1) hSW h1);have HW1:=hid hw1;have HS:=hid hS;have F1:=hid f1;have HZ:=hid hz;have HLT:=hid (lt_heap hz);have HSL:=hid hSL;have HE:=hid hE;have HWF:=hid (hW.trans' f1);have HSW:=hid hSW;have HOL:=hid hOL;clear h h1 hw1 hS f1 hz hO hE hW hSW hsz hSL hOL;have hfw:=Zae (s:=⟨at0,ms0,0⟩) ha rfl hR;have h1l:at1≤l.length:=hfw.le;have h1m:ms1.length≤99001:=by have:=hfw.mks;simp only at this;omega
 rw[hR]at HAD;clear hR hfw;have hk0:(A.kind==0)=false:=by simpa using hk
 clear hk;have HPD:=hid (fun w2 w3 S1 u1 (hS':∀k,S1 k→k<w3.heap.size) (hO':∀k,GS O w.heap.size k→k<w3.heap.size) (hW':Fr nob W0 w3) (hSW':∀k,S1 k→W0.heap.size≤k) (h:ARd b l x ⟨at1,ms1,0⟩ S1 w3) (ng:¬S1 w2) hg=>Zd5 b l x ⟨at1,ms1,0⟩ S1 (GS O w.heap.size) w2 A.kind A.line A.text u1 w3 hl h1l (by show ms1.length≤_;omega) rfl hS' hO' W0 HE.out hW' hSW' h ng hg);have hz0:¬z=0:=pairD_err hR2;have hz1:(z==0)=false:=by simpa using hz0
 have hz2:(z !=0)=true:=by simpa using hz0
 rw[hR2]at HPD;clear hR2;go_enter Tryz.func51,Tryz.ntmps51
 go_wp2_with(rw[←HW1.out])
 refine HAD.out.mono ?_;intro e w2 he;obtain⟨v,S1,rfl,⟨u1,rfl,hrn⟩,h2,st2⟩:=he;have hlt1:=st2.lt HSL.out;have hsh1:=hrn.shape;obtain⟨w3,hw3⟩:∃w3,w3=w2.alloc (.cells #[.int .i64 A.kind,.int .i64 A.line,.string ⟨A.text.toArray⟩,u1,.int .i64 0,.int .i64 0,.string ⟨#[]⟩,.nilIface,.bool false] 30):=⟨_,rfl⟩;have f3:Fr nob w2 w3:=by rw[hw3];exact(Fr.refl _ _).alloc _
 have hg3:w3.heap[w2.heap.size]? =some (.cells #[.int .i64 A.kind,.int .i64 A.line,.string ⟨A.text.toArray⟩,u1,.int .i64 0,.int .i64 0,.string ⟨#[]⟩,.nilIface,.bool false] 30 (0,0)):=by rw[hw3];exact newAt _ _
 have ng3:¬S1 w2.heap.size:=fun h=>Nat.lt_irrefl _ (hlt1 _ h);have h3:=h2.on f3;have hge:w1.heap.size≤w2.heap.size:=st2.fr.size;have st3:Stp S w1 (GS S1 w2.heap.size) w3:=(st2.trans (Stp.of f3)).plus hge (lt_heap hg3);have hr1:RN (SO (GS S1 w2.heap.size) (GS O w.heap.size)) w3 A.tree u1:=RN.keep f3 (fun _ _ x=>x.elim) (fun k hk hx=>by
  rcases hx with(hx|hx)|hx
  ·exact .inl hx
  ·have hx:k=w2.heap.size:=hx;omega
  ·exact .inr hx) _ _ hrn
 have HW3:=hid hw3;obtain⟨mv3,h35⟩:=h3;have r3:=Zd h35.blk _ (Fr.refl _ _);have rg3:=Zj hg3 _ (Fr.refl _ _);have HPR:=hid (HPD.out w2.heap.size w3 S1 u1 (fun k hk=>by have:=hlt1 k hk;have:=f3.size;omega) (fun k hk=>by have:=HOL.out k hk;have:=f3.size;omega) ((st2.trans (Stp.of f3)).from HWF.out HSW.out) (fun k hk=>by by_cases h:k<w1.heap.size;exact HSW.out k (st2.old k h hk);have:=HWF.out.size;omega) ⟨mv3,h35⟩ ng3 hg3);have ST3:=hid st3;have R1:=hid hr1;clear hrn h2 st2 hw3 f3 h35 hg3 ng3 st3 hge hlt1 hr1;rcases hsh1 with rfl|⟨i1,y1,rfl⟩
 ·skip
  go_wp2_with(rw[←HW3.out])
  refine HPR.out.mono ?_;rintro e wP ⟨rfl,S2,ms,hX,hng,st4⟩;obtain⟨mvX,hX5⟩:=hX;have rX:=Zd hX5.blk _ (Fr.refl _ _);have hX:ARd b l x _ S2 wP:=⟨mvX,hX5⟩;have st:=ST3.out.trans st4;clear st4 r3 rg3 hX5;have hzZ:=Za0 rfl HS.out HZ.out st;have rz:=Zj hzZ _ (Fr.refl _ _);have q1:=hid (ZP hX (fun h=>ZD HLT.out HS.out st h) (.int .i64 0) (.int .i64 0) (.string ⟨#[]⟩) .nilIface (.int .i64 0) (.int .i64 0) (.string ⟨#[]⟩) .nilIface (.bool false));have q2:=hid (ZQ F1.out rfl st (.int .i64 0) (.int .i64 0) (.string ⟨#[]⟩) .nilIface (.int .i64 0) (.int .i64 0) (.string ⟨#[]⟩) .nilIface (.bool false));have HZF:=hid (Zf hzZ (.int .i64 0) (.int .i64 0) (.string ⟨#[]⟩) .nilIface (.int .i64 0) (.int .i64 0) (.string ⟨#[]⟩) .nilIface (.bool false));clear hX st hzZ
  (try dsimp only)
  repeat(first|rw[hz2]|go_step)
  (try simp only[Exit.inBlock,Exit.then])
  exact bodyPost_ret (Zr rfl rfl HZF.out rfl rfl rfl rfl rfl rfl rfl rfl rfl) rfl ⟨⟨AV.zero,AV.zero,false⟩,_,_,_,rfl,⟨.nilIface,.nilIface,rfl,by show RN _ _ .nil _;rw[RN],by show RN _ _ .nil _;rw[RN]⟩,q1.out,q2.out⟩
 ·skip
  go_wp2_with(rw[←HW3.out])
  refine HPR.out.mono ?_;rintro e wP ⟨rfl,S2,ms,hX,hng,st4⟩;obtain⟨mvX,hX5⟩:=hX;have rX:=Zd hX5.blk _ (Fr.refl _ _);have hX:ARd b l x _ S2 wP:=⟨mvX,hX5⟩;have st:=ST3.out.trans st4;clear st4 r3 rg3 hX5;have hzZ:=Za0 rfl HS.out HZ.out st;have rz:=Zj hzZ _ (Fr.refl _ _);have q1:=hid (ZP hX (fun h=>ZD HLT.out HS.out st h) (.int .i64 0) (.int .i64 0) (.string ⟨#[]⟩) .nilIface (.int .i64 0) (.int .i64 0) (.string ⟨#[]⟩) .nilIface (.bool false));have q2:=hid (ZQ F1.out rfl st (.int .i64 0) (.int .i64 0) (.string ⟨#[]⟩) .nilIface (.int .i64 0) (.int .i64 0) (.string ⟨#[]⟩) .nilIface (.bool false));have HZF:=hid (Zf hzZ (.int .i64 0) (.int .i64 0) (.string ⟨#[]⟩) .nilIface (.int .i64 0) (.int .i64 0) (.string ⟨#[]⟩) .nilIface (.bool false));clear hX st hzZ
  (try dsimp only)
  repeat(first|rw[hz2]|go_step)
  (try simp only[Exit.inBlock,Exit.then])
  exact bodyPost_ret (Zr rfl rfl HZF.out rfl rfl rfl rfl rfl rfl rfl rfl rfl) rfl ⟨⟨AV.zero,AV.zero,false⟩,_,_,_,rfl,⟨.nilIface,.nilIface,rfl,by show RN _ _ .nil _;rw[RN],by show RN _ _ .nil _;rw[RN]⟩,q1.out,q2.out⟩
theorem ZfW(b:Nat)(l:List UInt8)(x:BF)(at0:Nat)(ms0:List (Nat×List UInt8))(S O:Nat→Prop)(w:World)(hl:l.length≤99000)(ha:at0≤l.length)(hm:ms0.length=0)(hS:∀k,S k→k<w.heap.size)(hO:∀k,O k→k<w.heap.size)(W0:World)(hE:Env W0)(hW:Fr nob W0 w)(hSW:∀k,S k→W0.heap.size≤k)(h:ARd b l x ⟨at0,ms0,0⟩ S w)(A:AV)(at1:Nat)(ms1:List (Nat×List UInt8))(hR:Zar x l false ⟨at0,ms0,0⟩=.inr (A,⟨at1,ms1,0⟩))(hk:A.kind=0)(pQ:Nat)(hpQ:bhd l [32,9] at1=pQ)(h33:byt l pQ≠33):
 Calls Tryz.prog 51 #[.pointer (some ⟨b,0,none⟩)] w (ZaG b l x S O w (.inr (⟨A,AV.zero,false⟩,⟨pQ,ms1,0⟩))):=by
 have hl:l.length≤100000:=Nat.le_trans hl (by decide);obtain⟨w1,hw1⟩:∃w1,w1=w.alloc (.cells zG 30):=⟨_,rfl⟩;have f1:Fr nob w w1:=by rw[hw1];exact(Fr.refl _ _).alloc _
 have hz:w1.heap[w.heap.size]? =some (.cells zG 30 (0,0)):=by rw[hw1];exact newAt _ _
 have hsz:w1.heap.size=w.heap.size+1:=by rw[hw1];simp
 have h1:=h.on f1;have hSL:∀k,S k→k<w1.heap.size:=fun k hk=>by have:=hS k hk;omega
 have hOL:∀k,GS O w.heap.size k→k<w1.heap.size:=fun k hk=>by
  rcases hk with hk|hk
  ·have:=hO k hk;omega
  ·have hk:k=w.heap.size:=hk;omega
 have HAD:=hid (Zad b l x false ⟨at0,ms0,0⟩ S (GS O w.heap.size) w1 (by omega) ha (by show ms0.length≤_;omega) rfl hSL hOL W0 hE (hW.trans' f1) hSW h1);have HW1:=hid hw1;have HS:=hid hS;have F1:=hid f1;have HZ:=hid hz;have HLT:=hid (lt_heap hz);have HSL:=hid hSL;have HE:=hid hE;have HWF:=hid (hW.trans' f1);have HSW:=hid hSW;have HOL:=hid hOL;clear h h1 hw1 hS f1 hz hO hE hW hSW hsz hSL hOL;have hfw:=Zae (s:=⟨at0,ms0,0⟩) ha rfl hR;have h1l:at1≤l.length:=hfw.le;have h1m:ms1.length≤99001:=by have:=hfw.mks;simp only at this;omega
 rw[hR]at HAD;clear hR hfw;have hk0:(A.kind==0)=true:=by simp[hk]
 clear hk;have h2l:at1≤l.length:=h1l;have hpQl:pQ≤l.length:=by rw[←hpQ];exact bhd_le _ _ _
 have HPQ:=hid hpQ;obtain⟨c1,hc1⟩:∃c1,byt l pQ=c1:=⟨_,rfl⟩;have n33:((c1.toNat:Int)==33)=false:=by
  have:c1.toNat≠33:=fun h=>h33 (hc1.trans (UInt8.toNat_inj.1 h));simp;omega
 have HC1:=hid hc1;clear h33 hc1 hpQ;go_enter Tryz.func51,Tryz.ntmps51
 go_wp2_with(rw[←HW1.out])
 refine HAD.out.mono ?_;intro e w2 he;obtain⟨v,S1,rfl,⟨u1,rfl,hrn⟩,h2,st2⟩:=he;have hlt1:=st2.lt HSL.out;have hsh1:=hrn.shape;obtain⟨w3,hw3⟩:∃w3,w3=w2.alloc (.cells #[.int .i64 A.kind,.int .i64 A.line,.string ⟨A.text.toArray⟩,u1,.int .i64 0,.int .i64 0,.string ⟨#[]⟩,.nilIface,.bool false] 30):=⟨_,rfl⟩;have f3:Fr nob w2 w3:=by rw[hw3];exact(Fr.refl _ _).alloc _
 have hg3:w3.heap[w2.heap.size]? =some (.cells #[.int .i64 A.kind,.int .i64 A.line,.string ⟨A.text.toArray⟩,u1,.int .i64 0,.int .i64 0,.string ⟨#[]⟩,.nilIface,.bool false] 30 (0,0)):=by rw[hw3];exact newAt _ _
 have ng3:¬S1 w2.heap.size:=fun h=>Nat.lt_irrefl _ (hlt1 _ h);have h3:=h2.on f3;have hge:w1.heap.size≤w2.heap.size:=st2.fr.size;have st3:Stp S w1 (GS S1 w2.heap.size) w3:=(st2.trans (Stp.of f3)).plus hge (lt_heap hg3);have hr1:RN (SO (GS S1 w2.heap.size) (GS O w.heap.size)) w3 A.tree u1:=RN.keep f3 (fun _ _ x=>x.elim) (fun k hk hx=>by
  rcases hx with(hx|hx)|hx
  ·exact .inl hx
  ·have hx:k=w2.heap.size:=hx;omega
  ·exact .inr hx) _ _ hrn
 have HW3:=hid hw3;have wPd:∃wP,wP=w3:=⟨_,rfl⟩;obtain⟨wP,hwP⟩:=wPd;subst hwP;have hP:=h3;have hgb:=hg3;have hng:=ng3;have hst:=st3;obtain⟨S2,hS2⟩:∃S2,S2=S1:=⟨_,rfl⟩;subst hS2;have hr2:RN (SO (GS S2 w2.heap.size) (GS O w.heap.size)) wP .nil .nilIface:=by rw[RN]
 clear hrn h2 st2 hw3 f3 h3 hg3 ng3 st3 hge hlt1;rcases hsh1 with rfl|⟨i1,y1,rfl⟩
 ·skip
  obtain⟨mv2,hP5⟩:=hP;have rP:=Zd hP5.blk _ (Fr.refl _ _);have HBL:=hid (Zi b l x ⟨at1,ms1,0⟩ S2 wP hl h2l ⟨mv2,hP5⟩);have HGB:=hid hgb;have HNG:=hid hng;have HST:=hid hst;have HR1:=hid hr1;have HR2:=hid hr2;have HLG:=hid (lt_heap hgb);have rgP:=Zj hgb _ (Fr.refl _ _);clear hP5 hgb hng hst hr1 hr2
  go_wp2_with(rw[←HW3.out])
  refine HBL.out.mono ?_;rintro e wQ ⟨rfl,hQ,stQ⟩;rw[show bhd l [32,9] (AdS.mk at1 ms1 0).at_=pQ from HPQ.out]at hQ;have hQ:ARd b l x ⟨pQ,ms1,0⟩ S2 wQ:=hQ;have HQ:=hid hQ;have STQ:=hid (stQ.gs HLG.out);have HNX:=hid (by have:=Zq b l x ⟨pQ,ms1,0⟩ S2 wQ (by omega) hQ;simp only at this;rw[HC1.out]at this;exact this);have HGQ:=hid (stQ.fr.heap HGB.out HNG.out);clear hQ stQ rP rgP
  go_wp2_with fail
  refine HNX.out.mono ?_;rintro e wR ⟨rfl,fR⟩;have hX:=HQ.out.on fR;have hgZ:=fR.heap HGQ.out (fun x=>x);have stl:=STQ.out.trans (Stp.of fR);clear fR;have rgZ:=Zj hgZ _ (Fr.refl _ _);have st:=HST.out.trans stl;have hzZ:=Za0 rfl HS.out HZ.out st;have rz:=Zj hzZ _ (Fr.refl _ _);have q1:=hid (ZP hX (fun h=>ZD HLT.out HS.out st h) (.int .i64 A.kind) (.int .i64 A.line) (.string ⟨A.text.toArray⟩) .nilIface (.int .i64 0) (.int .i64 0) (.string ⟨#[]⟩) .nilIface (.bool false));have q2:=hid (ZQ F1.out rfl st (.int .i64 A.kind) (.int .i64 A.line) (.string ⟨A.text.toArray⟩) .nilIface (.int .i64 0) (.int .i64 0) (.string ⟨#[]⟩) .nilIface (.bool false));have HZF:=hid (Zf hzZ (.int .i64 A.kind) (.int .i64 A.line) (.string ⟨A.text.toArray⟩) .nilIface (.int .i64 0) (.int .i64 0) (.string ⟨#[]⟩) .nilIface (.bool false));have q3:=hid (ZA (stl.rn HR1.out) (.int .i64 A.kind) (.int .i64 A.line) (.string ⟨A.text.toArray⟩) .nilIface (.int .i64 0) (.int .i64 0) (.string ⟨#[]⟩) .nilIface (.bool false))
  have q4:=hid (ZA (stl.rn HR2.out) (.int .i64 A.kind) (.int .i64 A.line) (.string ⟨A.text.toArray⟩) .nilIface (.int .i64 0) (.int .i64 0) (.string ⟨#[]⟩) .nilIface (.bool false));clear hX st stl hzZ hgZ;go_wp2
  (try simp only[Exit.inBlock,Exit.then])
  exact bodyPost_ret (Zr rfl rfl HZF.out rfl rfl rfl rfl rfl rfl rfl rfl rfl) rfl ⟨_,_,rfl,⟨_,_,rfl,q3.out,q4.out⟩,q1.out,q2.out⟩
 ·skip
  obtain⟨mv2,hP5⟩:=hP;have rP:=Zd hP5.blk _ (Fr.refl _ _);have HBL:=hid (Zi b l x ⟨at1,ms1,0⟩ S2 wP hl h2l ⟨mv2,hP5⟩);have HGB:=hid hgb;have HNG:=hid hng;have HST:=hid hst;have HR1:=hid hr1;have HR2:=hid hr2;have HLG:=hid (lt_heap hgb);have rgP:=Zj hgb _ (Fr.refl _ _);clear hP5 hgb hng hst hr1 hr2
  go_wp2_with(rw[←HW3.out])
  refine HBL.out.mono ?_;rintro e wQ ⟨rfl,hQ,stQ⟩;rw[show bhd l [32,9] (AdS.mk at1 ms1 0).at_=pQ from HPQ.out]at hQ;have hQ:ARd b l x ⟨pQ,ms1,0⟩ S2 wQ:=hQ;have HQ:=hid hQ;have STQ:=hid (stQ.gs HLG.out);have HNX:=hid (by have:=Zq b l x ⟨pQ,ms1,0⟩ S2 wQ (by omega) hQ;simp only at this;rw[HC1.out]at this;exact this);have HGQ:=hid (stQ.fr.heap HGB.out HNG.out);clear hQ stQ rP rgP
  go_wp2_with fail
  refine HNX.out.mono ?_;rintro e wR ⟨rfl,fR⟩;have hX:=HQ.out.on fR;have hgZ:=fR.heap HGQ.out (fun x=>x);have stl:=STQ.out.trans (Stp.of fR);clear fR;have rgZ:=Zj hgZ _ (Fr.refl _ _);have st:=HST.out.trans stl;have hzZ:=Za0 rfl HS.out HZ.out st;have rz:=Zj hzZ _ (Fr.refl _ _);have q1:=hid (ZP hX (fun h=>ZD HLT.out HS.out st h) (.int .i64 A.kind) (.int .i64 A.line) (.string ⟨A.text.toArray⟩) (.iface i1 y1) (.int .i64 0) (.int .i64 0) (.string ⟨#[]⟩) .nilIface (.bool false));have q2:=hid (ZQ F1.out rfl st (.int .i64 A.kind) (.int .i64 A.line) (.string ⟨A.text.toArray⟩) (.iface i1 y1) (.int .i64 0) (.int .i64 0) (.string ⟨#[]⟩) .nilIface (.bool false));have HZF:=hid (Zf hzZ (.int .i64 A.kind) (.int .i64 A.line) (.string ⟨A.text.toArray⟩) (.iface i1 y1) (.int .i64 0) (.int .i64 0) (.string ⟨#[]⟩) .nilIface (.bool false));have q3:=hid (ZA (stl.rn HR1.out) (.int .i64 A.kind) (.int .i64 A.line) (.string ⟨A.text.toArray⟩) (.iface i1 y1) (.int .i64 0) (.int .i64 0) (.string ⟨#[]⟩) .nilIface (.bool false))
  have q4:=hid (ZA (stl.rn HR2.out) (.int .i64 A.kind) (.int .i64 A.line) (.string ⟨A.text.toArray⟩) (.iface i1 y1) (.int .i64 0) (.int .i64 0) (.string ⟨#[]⟩) .nilIface (.bool false));clear hX st stl hzZ hgZ;go_wp2
  (try simp only[Exit.inBlock,Exit.then])
  exact bodyPost_ret (Zr rfl rfl HZF.out rfl rfl rfl rfl rfl rfl rfl rfl rfl) rfl ⟨_,_,rfl,⟨_,_,rfl,q3.out,q4.out⟩,q1.out,q2.out⟩
theorem ZfX(b:Nat)(l:List UInt8)(x:BF)(at0:Nat)(ms0:List (Nat×List UInt8))(S O:Nat→Prop)(w:World)(hl:l.length≤99000)(ha:at0≤l.length)(hm:ms0.length=0)(hS:∀k,S k→k<w.heap.size)(hO:∀k,O k→k<w.heap.size)(W0:World)(hE:Env W0)(hW:Fr nob W0 w)(hSW:∀k,S k→W0.heap.size≤k)(h:ARd b l x ⟨at0,ms0,0⟩ S w)(A:AV)(at1:Nat)(ms1:List (Nat×List UInt8))(hR:Zar x l false ⟨at0,ms0,0⟩=.inr (A,⟨at1,ms1,0⟩))(hk:A.kind=0)(pQ:Nat)(hpQ:bhd l [32,9] at1=pQ)(pV:Nat)(h33:byt l pQ=33)(hpV:bhd l [32,9] (pQ+1)=pV)(h33':byt l pV≠33):
 Calls Tryz.prog 51 #[.pointer (some ⟨b,0,none⟩)] w (ZaG b l x S O w (.inr (⟨A,AV.zero,true⟩,⟨pV,ms1,0⟩))):=by
 have hl:l.length≤100000:=Nat.le_trans hl (by decide);obtain⟨w1,hw1⟩:∃w1,w1=w.alloc (.cells zG 30):=⟨_,rfl⟩;have f1:Fr nob w w1:=by rw[hw1];exact(Fr.refl _ _).alloc _
 have hz:w1.heap[w.heap.size]? =some (.cells zG 30 (0,0)):=by rw[hw1];exact newAt _ _
 have hsz:w1.heap.size=w.heap.size+1:=by rw[hw1];simp
 have h1:=h.on f1;have hSL:∀k,S k→k<w1.heap.size:=fun k hk=>by have:=hS k hk;omega
 have hOL:∀k,GS O w.heap.size k→k<w1.heap.size:=fun k hk=>by
  rcases hk with hk|hk
  ·have:=hO k hk;omega
  ·have hk:k=w.heap.size:=hk;omega
 have HAD:=hid (Zad b l x false ⟨at0,ms0,0⟩ S (GS O w.heap.size) w1 (by omega) ha (by show ms0.length≤_;omega) rfl hSL hOL W0 hE (hW.trans' f1) hSW h1);have HW1:=hid hw1;have HS:=hid hS;have F1:=hid f1;have HZ:=hid hz;have HLT:=hid (lt_heap hz);have HSL:=hid hSL;have HE:=hid hE;have HWF:=hid (hW.trans' f1);have HSW:=hid hSW;have HOL:=hid hOL;clear h h1 hw1 hS f1 hz hO hE hW hSW hsz hSL hOL;have hfw:=Zae (s:=⟨at0,ms0,0⟩) ha rfl hR;have h1l:at1≤l.length:=hfw.le;have h1m:ms1.length≤99001:=by have:=hfw.mks;simp only at this;omega
 rw[hR]at HAD;clear hR hfw;have hk0:(A.kind==0)=true:=by simp[hk]
 clear hk;have h2l:at1≤l.length:=h1l;have hpQl:pQ≤l.length:=by rw[←hpQ];exact bhd_le _ _ _
 have HPQ:=hid hpQ;have hat:pQ<l.length:=Zba (by rw[h33];decide);have hwr:IntKind.i64.wrap ((pQ:Int)+1)=pQ+1:=IntWalk.i64_in _ (by omega);have hpVl:pV≤l.length:=by rw[←hpV];exact bhd_le _ _ _
 have HPV:=hid hpV;have HC1:=hid h33;obtain⟨c2,hc2⟩:∃c2,byt l pV=c2:=⟨_,rfl⟩;have n33:((c2.toNat:Int)==33)=false:=by
  have:c2.toNat≠33:=fun h=>h33' (hc2.trans (UInt8.toNat_inj.1 h));simp;omega
 have HC2:=hid hc2;clear h33 h33' hpV hpQ hc2;go_enter Tryz.func51,Tryz.ntmps51
 go_wp2_with(rw[←HW1.out])
 refine HAD.out.mono ?_;intro e w2 he;obtain⟨v,S1,rfl,⟨u1,rfl,hrn⟩,h2,st2⟩:=he;have hlt1:=st2.lt HSL.out;have hsh1:=hrn.shape;obtain⟨w3,hw3⟩:∃w3,w3=w2.alloc (.cells #[.int .i64 A.kind,.int .i64 A.line,.string ⟨A.text.toArray⟩,u1,.int .i64 0,.int .i64 0,.string ⟨#[]⟩,.nilIface,.bool false] 30):=⟨_,rfl⟩;have f3:Fr nob w2 w3:=by rw[hw3];exact(Fr.refl _ _).alloc _
 have hg3:w3.heap[w2.heap.size]? =some (.cells #[.int .i64 A.kind,.int .i64 A.line,.string ⟨A.text.toArray⟩,u1,.int .i64 0,.int .i64 0,.string ⟨#[]⟩,.nilIface,.bool false] 30 (0,0)):=by rw[hw3];exact newAt _ _
 have ng3:¬S1 w2.heap.size:=fun h=>Nat.lt_irrefl _ (hlt1 _ h);have h3:=h2.on f3;have hge:w1.heap.size≤w2.heap.size:=st2.fr.size;have st3:Stp S w1 (GS S1 w2.heap.size) w3:=(st2.trans (Stp.of f3)).plus hge (lt_heap hg3);have hr1:RN (SO (GS S1 w2.heap.size) (GS O w.heap.size)) w3 A.tree u1:=RN.keep f3 (fun _ _ x=>x.elim) (fun k hk hx=>by
  rcases hx with(hx|hx)|hx
  ·exact .inl hx
  ·have hx:k=w2.heap.size:=hx;omega
  ·exact .inr hx) _ _ hrn
 have HW3:=hid hw3;have wPd:∃wP,wP=w3:=⟨_,rfl⟩;obtain⟨wP,hwP⟩:=wPd;subst hwP;have hP:=h3;have hgb:=hg3;have hng:=ng3;have hst:=st3;obtain⟨S2,hS2⟩:∃S2,S2=S1:=⟨_,rfl⟩;subst hS2;have hr2:RN (SO (GS S2 w2.heap.size) (GS O w.heap.size)) wP .nil .nilIface:=by rw[RN]
 clear hrn h2 st2 hw3 f3 h3 hg3 ng3 st3 hge hlt1;rcases hsh1 with rfl|⟨i1,y1,rfl⟩
 ·skip
  obtain⟨mv2,hP5⟩:=hP;have rP:=Zd hP5.blk _ (Fr.refl _ _);have HBL:=hid (Zi b l x ⟨at1,ms1,0⟩ S2 wP hl h2l ⟨mv2,hP5⟩);have HGB:=hid hgb;have HNG:=hid hng;have HST:=hid hst;have HR1:=hid hr1;have HR2:=hid hr2;have HLG:=hid (lt_heap hgb);have rgP:=Zj hgb _ (Fr.refl _ _);clear hP5 hgb hng hst hr1 hr2
  go_wp2_with(rw[←HW3.out])
  refine HBL.out.mono ?_;rintro e wQ ⟨rfl,hQ,stQ⟩;rw[show bhd l [32,9] (AdS.mk at1 ms1 0).at_=pQ from HPQ.out]at hQ;have hQ:ARd b l x ⟨pQ,ms1,0⟩ S2 wQ:=hQ;have HQ:=hid hQ;have STQ:=hid (stQ.gs HLG.out);have HNX:=hid (by have:=Zq b l x ⟨pQ,ms1,0⟩ S2 wQ (by omega) hQ;simp only at this;rw[HC1.out]at this;exact this);have HGQ:=hid (stQ.fr.heap HGB.out HNG.out);clear hQ stQ rP rgP
  go_wp2_with fail
  refine HNX.out.mono ?_;rintro e wR ⟨rfl,fR⟩;have hgR:=fR.heap HGQ.out (fun x=>x);have rgR:=Zj hgR _ (Fr.refl _ _);obtain⟨wS,hwS⟩:∃wS,wS=wR.setCell ⟨w2.heap.size,8,none⟩ (.bool true):=⟨_,rfl⟩;have fS:Fr (fun k=>k=w2.heap.size) wR wS:=by rw[hwS];exact(Fr.refl (fun k=>k=w2.heap.size) wR).setCell (p:=⟨w2.heap.size,8,none⟩) (fun _=>rfl) _
  have hsS:wS.heap.size=wR.heap.size:=by rw[hwS];simp[World.setCell]
  have hgS:wS.heap[w2.heap.size]? =some (.cells #[.int .i64 A.kind,.int .i64 A.line,.string ⟨A.text.toArray⟩,.nilIface,(.int .i64 0),(.int .i64 0),(.string ⟨#[]⟩),.nilIface,.bool true] 30 (0,0)):=by rw[hwS];simpa using Za hgR 8 (.bool true)
  obtain⟨mvR,hR5⟩:=HQ.out.on fR;have hS5:=hR5.keep fS (fun e=>HNG.out (e▸hR5.me)) (fun k hk e=>HNG.out (e▸(hR5.nm k hk).2));have rS:=Zd hS5.blk _ (Fr.refl _ _);have hT5:=hS5.turned 1 (.int .i64 ((pQ:Int)+1)) ⟨pQ+1,ms1,0⟩ (by simp) rfl;have stT:=hS5.stp 1 (.int .i64 ((pQ:Int)+1));obtain⟨wT,hwT⟩:∃wT,wT=wS.setCell ⟨b,1,none⟩ (.int .i64 ((pQ:Int)+1)):=⟨_,rfl⟩;rw[←hwT]at hT5 stT;have hgT:=stT.fr.heap hgS HNG.out;have sST:Stp (GS S2 w2.heap.size) wR (GS S2 w2.heap.size) wS:=⟨fS.mono (fun _ _ e=>.inr e),fun _ _ h=>h,fun hl k hk=>by have:=hl k hk;omega⟩;have st0:=(STQ.out.trans (Stp.of fR)).trans (sST.trans (stT.gs (by have:=HLG.out;have:=STQ.out.fr.size;have:=fR.size;omega)));have HWS:=hid hwS;have HWT:=hid hwT;have HGT:=hid hgT;have ST0:=hid st0;have HBT:=hid (Zi b l x ⟨pQ+1,ms1,0⟩ S2 wT hl (by show pQ+1≤_;omega) ⟨mvR,hT5⟩);have HLT2:=hid (lt_heap hgT);clear hR5 hS5 hT5 stT hwS hwT hgR hgS hgT fS hsS sST st0 fR
  go_wp2_with(first|rw[←HWS.out]|rw[←HWT.out])
  refine HBT.out.mono ?_;rintro e wU ⟨rfl,hU,stU⟩;rw[show bhd l [32,9] (AdS.mk (pQ+1) ms1 0).at_=pV from HPV.out]at hU;have hU:ARd b l x ⟨pV,ms1,0⟩ S2 wU:=hU;have HU:=hid hU;have STU:=hid (ST0.out.trans (stU.gs HLT2.out));have HNU:=hid (by have:=Zq b l x ⟨pV,ms1,0⟩ S2 wU (by omega) hU;simp only at this;rw[HC2.out]at this;exact this);have HGU:=hid (stU.fr.heap HGT.out HNG.out);clear hU stU rgR rS
  go_wp2_with fail
  refine HNU.out.mono ?_;rintro e wV ⟨rfl,fV⟩;have hX:=HU.out.on fV;have hgZ:=fV.heap HGU.out (fun x=>x);have stl:=STU.out.trans (Stp.of fV);clear fV;have rgZ:=Zj hgZ _ (Fr.refl _ _);have st:=HST.out.trans stl;have hzZ:=Za0 rfl HS.out HZ.out st;have rz:=Zj hzZ _ (Fr.refl _ _);have q1:=hid (ZP hX (fun h=>ZD HLT.out HS.out st h) (.int .i64 A.kind) (.int .i64 A.line) (.string ⟨A.text.toArray⟩) .nilIface (.int .i64 0) (.int .i64 0) (.string ⟨#[]⟩) .nilIface (.bool true));have q2:=hid (ZQ F1.out rfl st (.int .i64 A.kind) (.int .i64 A.line) (.string ⟨A.text.toArray⟩) .nilIface (.int .i64 0) (.int .i64 0) (.string ⟨#[]⟩) .nilIface (.bool true));have HZF:=hid (Zf hzZ (.int .i64 A.kind) (.int .i64 A.line) (.string ⟨A.text.toArray⟩) .nilIface (.int .i64 0) (.int .i64 0) (.string ⟨#[]⟩) .nilIface (.bool true));have q3:=hid (ZA (stl.rn HR1.out) (.int .i64 A.kind) (.int .i64 A.line) (.string ⟨A.text.toArray⟩) .nilIface (.int .i64 0) (.int .i64 0) (.string ⟨#[]⟩) .nilIface (.bool true))
  have q4:=hid (ZA (stl.rn HR2.out) (.int .i64 A.kind) (.int .i64 A.line) (.string ⟨A.text.toArray⟩) .nilIface (.int .i64 0) (.int .i64 0) (.string ⟨#[]⟩) .nilIface (.bool true));clear hX st stl hzZ hgZ;go_wp2
  (try simp only[Exit.inBlock,Exit.then])
  exact bodyPost_ret (Zr rfl rfl HZF.out rfl rfl rfl rfl rfl rfl rfl rfl rfl) rfl ⟨_,_,rfl,⟨_,_,rfl,q3.out,q4.out⟩,q1.out,q2.out⟩
 ·skip
  obtain⟨mv2,hP5⟩:=hP;have rP:=Zd hP5.blk _ (Fr.refl _ _);have HBL:=hid (Zi b l x ⟨at1,ms1,0⟩ S2 wP hl h2l ⟨mv2,hP5⟩);have HGB:=hid hgb;have HNG:=hid hng;have HST:=hid hst;have HR1:=hid hr1;have HR2:=hid hr2;have HLG:=hid (lt_heap hgb);have rgP:=Zj hgb _ (Fr.refl _ _);clear hP5 hgb hng hst hr1 hr2
  go_wp2_with(rw[←HW3.out])
  refine HBL.out.mono ?_;rintro e wQ ⟨rfl,hQ,stQ⟩;rw[show bhd l [32,9] (AdS.mk at1 ms1 0).at_=pQ from HPQ.out]at hQ;have hQ:ARd b l x ⟨pQ,ms1,0⟩ S2 wQ:=hQ;have HQ:=hid hQ;have STQ:=hid (stQ.gs HLG.out);have HNX:=hid (by have:=Zq b l x ⟨pQ,ms1,0⟩ S2 wQ (by omega) hQ;simp only at this;rw[HC1.out]at this;exact this);have HGQ:=hid (stQ.fr.heap HGB.out HNG.out);clear hQ stQ rP rgP
  go_wp2_with fail
  refine HNX.out.mono ?_;rintro e wR ⟨rfl,fR⟩;have hgR:=fR.heap HGQ.out (fun x=>x);have rgR:=Zj hgR _ (Fr.refl _ _);obtain⟨wS,hwS⟩:∃wS,wS=wR.setCell ⟨w2.heap.size,8,none⟩ (.bool true):=⟨_,rfl⟩;have fS:Fr (fun k=>k=w2.heap.size) wR wS:=by rw[hwS];exact(Fr.refl (fun k=>k=w2.heap.size) wR).setCell (p:=⟨w2.heap.size,8,none⟩) (fun _=>rfl) _
  have hsS:wS.heap.size=wR.heap.size:=by rw[hwS];simp[World.setCell]
  have hgS:wS.heap[w2.heap.size]? =some (.cells #[.int .i64 A.kind,.int .i64 A.line,.string ⟨A.text.toArray⟩,(.iface i1 y1),(.int .i64 0),(.int .i64 0),(.string ⟨#[]⟩),.nilIface,.bool true] 30 (0,0)):=by rw[hwS];simpa using Za hgR 8 (.bool true)
  obtain⟨mvR,hR5⟩:=HQ.out.on fR;have hS5:=hR5.keep fS (fun e=>HNG.out (e▸hR5.me)) (fun k hk e=>HNG.out (e▸(hR5.nm k hk).2));have rS:=Zd hS5.blk _ (Fr.refl _ _);have hT5:=hS5.turned 1 (.int .i64 ((pQ:Int)+1)) ⟨pQ+1,ms1,0⟩ (by simp) rfl;have stT:=hS5.stp 1 (.int .i64 ((pQ:Int)+1));obtain⟨wT,hwT⟩:∃wT,wT=wS.setCell ⟨b,1,none⟩ (.int .i64 ((pQ:Int)+1)):=⟨_,rfl⟩;rw[←hwT]at hT5 stT;have hgT:=stT.fr.heap hgS HNG.out;have sST:Stp (GS S2 w2.heap.size) wR (GS S2 w2.heap.size) wS:=⟨fS.mono (fun _ _ e=>.inr e),fun _ _ h=>h,fun hl k hk=>by have:=hl k hk;omega⟩;have st0:=(STQ.out.trans (Stp.of fR)).trans (sST.trans (stT.gs (by have:=HLG.out;have:=STQ.out.fr.size;have:=fR.size;omega)));have HWS:=hid hwS;have HWT:=hid hwT;have HGT:=hid hgT;have ST0:=hid st0;have HBT:=hid (Zi b l x ⟨pQ+1,ms1,0⟩ S2 wT hl (by show pQ+1≤_;omega) ⟨mvR,hT5⟩);have HLT2:=hid (lt_heap hgT);clear hR5 hS5 hT5 stT hwS hwT hgR hgS hgT fS hsS sST st0 fR
  go_wp2_with(first|rw[←HWS.out]|rw[←HWT.out])
  refine HBT.out.mono ?_;rintro e wU ⟨rfl,hU,stU⟩;rw[show bhd l [32,9] (AdS.mk (pQ+1) ms1 0).at_=pV from HPV.out]at hU;have hU:ARd b l x ⟨pV,ms1,0⟩ S2 wU:=hU;have HU:=hid hU;have STU:=hid (ST0.out.trans (stU.gs HLT2.out));have HNU:=hid (by have:=Zq b l x ⟨pV,ms1,0⟩ S2 wU (by omega) hU;simp only at this;rw[HC2.out]at this;exact this);have HGU:=hid (stU.fr.heap HGT.out HNG.out);clear hU stU rgR rS
  go_wp2_with fail
  refine HNU.out.mono ?_;rintro e wV ⟨rfl,fV⟩;have hX:=HU.out.on fV;have hgZ:=fV.heap HGU.out (fun x=>x);have stl:=STU.out.trans (Stp.of fV);clear fV;have rgZ:=Zj hgZ _ (Fr.refl _ _);have st:=HST.out.trans stl;have hzZ:=Za0 rfl HS.out HZ.out st;have rz:=Zj hzZ _ (Fr.refl _ _);have q1:=hid (ZP hX (fun h=>ZD HLT.out HS.out st h) (.int .i64 A.kind) (.int .i64 A.line) (.string ⟨A.text.toArray⟩) (.iface i1 y1) (.int .i64 0) (.int .i64 0) (.string ⟨#[]⟩) .nilIface (.bool true));have q2:=hid (ZQ F1.out rfl st (.int .i64 A.kind) (.int .i64 A.line) (.string ⟨A.text.toArray⟩) (.iface i1 y1) (.int .i64 0) (.int .i64 0) (.string ⟨#[]⟩) .nilIface (.bool true));have HZF:=hid (Zf hzZ (.int .i64 A.kind) (.int .i64 A.line) (.string ⟨A.text.toArray⟩) (.iface i1 y1) (.int .i64 0) (.int .i64 0) (.string ⟨#[]⟩) .nilIface (.bool true));have q3:=hid (ZA (stl.rn HR1.out) (.int .i64 A.kind) (.int .i64 A.line) (.string ⟨A.text.toArray⟩) (.iface i1 y1) (.int .i64 0) (.int .i64 0) (.string ⟨#[]⟩) .nilIface (.bool true))
  have q4:=hid (ZA (stl.rn HR2.out) (.int .i64 A.kind) (.int .i64 A.line) (.string ⟨A.text.toArray⟩) (.iface i1 y1) (.int .i64 0) (.int .i64 0) (.string ⟨#[]⟩) .nilIface (.bool true));clear hX st stl hzZ hgZ;go_wp2
  (try simp only[Exit.inBlock,Exit.then])
  exact bodyPost_ret (Zr rfl rfl HZF.out rfl rfl rfl rfl rfl rfl rfl rfl rfl) rfl ⟨_,_,rfl,⟨_,_,rfl,q3.out,q4.out⟩,q1.out,q2.out⟩
theorem ZfY(b:Nat)(l:List UInt8)(x:BF)(at0:Nat)(ms0:List (Nat×List UInt8))(S O:Nat→Prop)(w:World)(hl:l.length≤99000)(ha:at0≤l.length)(hm:ms0.length=0)(hS:∀k,S k→k<w.heap.size)(hO:∀k,O k→k<w.heap.size)(W0:World)(hE:Env W0)(hW:Fr nob W0 w)(hSW:∀k,S k→W0.heap.size≤k)(h:ARd b l x ⟨at0,ms0,0⟩ S w)(A:AV)(at1:Nat)(ms1:List (Nat×List UInt8))(hR:Zar x l false ⟨at0,ms0,0⟩=.inr (A,⟨at1,ms1,0⟩))(hk:A.kind=0)(pQ:Nat)(hpQ:bhd l [32,9] at1=pQ)(pV:Nat)(h33:byt l pQ=33)(hpV:bhd l [32,9] (pQ+1)=pV)(h33':byt l pV=33):
 Calls Tryz.prog 51 #[.pointer (some ⟨b,0,none⟩)] w (ZaG b l x S O w (.inl (15,pV))):=by
 have hl:l.length≤100000:=Nat.le_trans hl (by decide);obtain⟨w1,hw1⟩:∃w1,w1=w.alloc (.cells zG 30):=⟨_,rfl⟩;have f1:Fr nob w w1:=by rw[hw1];exact(Fr.refl _ _).alloc _
 have hz:w1.heap[w.heap.size]? =some (.cells zG 30 (0,0)):=by rw[hw1];exact newAt _ _
 have hsz:w1.heap.size=w.heap.size+1:=by rw[hw1];simp
 have h1:=h.on f1;have hSL:∀k,S k→k<w1.heap.size:=fun k hk=>by have:=hS k hk;omega
 have hOL:∀k,GS O w.heap.size k→k<w1.heap.size:=fun k hk=>by
  rcases hk with hk|hk
  ·have:=hO k hk;omega
  ·have hk:k=w.heap.size:=hk;omega
 have HAD:=hid (Zad b l x false ⟨at0,ms0,0⟩ S (GS O w.heap.size) w1 (by omega) ha (by show ms0.length≤_;omega) rfl hSL hOL W0 hE (hW.trans' f1) hSW h1);have HW1:=hid hw1;have HS:=hid hS;have F1:=hid f1;have HZ:=hid hz;have HLT:=hid (lt_heap hz);have HSL:=hid hSL;have HE:=hid hE;have HWF:=hid (hW.trans' f1);have HSW:=hid hSW;have HOL:=hid hOL;clear h h1 hw1 hS f1 hz hO hE hW hSW hsz hSL hOL;have hfw:=Zae (s:=⟨at0,ms0,0⟩) ha rfl hR;have h1l:at1≤l.length:=hfw.le;have h1m:ms1.length≤99001:=by have:=hfw.mks;simp only at this;omega
 rw[hR]at HAD;clear hR hfw;have hk0:(A.kind==0)=true:=by simp[hk]
 clear hk;have h2l:at1≤l.length:=h1l;have hpQl:pQ≤l.length:=by rw[←hpQ];exact bhd_le _ _ _
 have HPQ:=hid hpQ;have hat:pQ<l.length:=Zba (by rw[h33];decide);have hwr:IntKind.i64.wrap ((pQ:Int)+1)=pQ+1:=IntWalk.i64_in _ (by omega);have hpVl:pV≤l.length:=by rw[←hpV];exact bhd_le _ _ _
 have HPV:=hid hpV;have HC1:=hid h33;have HC2:=hid h33';clear h33 h33' hpV hpQ;go_enter Tryz.func51,Tryz.ntmps51
 go_wp2_with(rw[←HW1.out])
 refine HAD.out.mono ?_;intro e w2 he;obtain⟨v,S1,rfl,⟨u1,rfl,hrn⟩,h2,st2⟩:=he;have hlt1:=st2.lt HSL.out;have hsh1:=hrn.shape;obtain⟨w3,hw3⟩:∃w3,w3=w2.alloc (.cells #[.int .i64 A.kind,.int .i64 A.line,.string ⟨A.text.toArray⟩,u1,.int .i64 0,.int .i64 0,.string ⟨#[]⟩,.nilIface,.bool false] 30):=⟨_,rfl⟩;have f3:Fr nob w2 w3:=by rw[hw3];exact(Fr.refl _ _).alloc _
 have hg3:w3.heap[w2.heap.size]? =some (.cells #[.int .i64 A.kind,.int .i64 A.line,.string ⟨A.text.toArray⟩,u1,.int .i64 0,.int .i64 0,.string ⟨#[]⟩,.nilIface,.bool false] 30 (0,0)):=by rw[hw3];exact newAt _ _
 have ng3:¬S1 w2.heap.size:=fun h=>Nat.lt_irrefl _ (hlt1 _ h);have h3:=h2.on f3;have hge:w1.heap.size≤w2.heap.size:=st2.fr.size;have st3:Stp S w1 (GS S1 w2.heap.size) w3:=(st2.trans (Stp.of f3)).plus hge (lt_heap hg3);have hr1:RN (SO (GS S1 w2.heap.size) (GS O w.heap.size)) w3 A.tree u1:=RN.keep f3 (fun _ _ x=>x.elim) (fun k hk hx=>by
  rcases hx with(hx|hx)|hx
  ·exact .inl hx
  ·have hx:k=w2.heap.size:=hx;omega
  ·exact .inr hx) _ _ hrn
 have HW3:=hid hw3;have wPd:∃wP,wP=w3:=⟨_,rfl⟩;obtain⟨wP,hwP⟩:=wPd;subst hwP;have hP:=h3;have hgb:=hg3;have hng:=ng3;have hst:=st3;obtain⟨S2,hS2⟩:∃S2,S2=S1:=⟨_,rfl⟩;subst hS2;have hr2:RN (SO (GS S2 w2.heap.size) (GS O w.heap.size)) wP .nil .nilIface:=by rw[RN]
 clear hrn h2 st2 hw3 f3 h3 hg3 ng3 st3 hge hlt1;rcases hsh1 with rfl|⟨i1,y1,rfl⟩
 ·skip
  obtain⟨mv2,hP5⟩:=hP;have rP:=Zd hP5.blk _ (Fr.refl _ _);have HBL:=hid (Zi b l x ⟨at1,ms1,0⟩ S2 wP hl h2l ⟨mv2,hP5⟩);have HGB:=hid hgb;have HNG:=hid hng;have HST:=hid hst;have HR1:=hid hr1;have HR2:=hid hr2;have HLG:=hid (lt_heap hgb);have rgP:=Zj hgb _ (Fr.refl _ _);clear hP5 hgb hng hst hr1 hr2
  go_wp2_with(rw[←HW3.out])
  refine HBL.out.mono ?_;rintro e wQ ⟨rfl,hQ,stQ⟩;rw[show bhd l [32,9] (AdS.mk at1 ms1 0).at_=pQ from HPQ.out]at hQ;have hQ:ARd b l x ⟨pQ,ms1,0⟩ S2 wQ:=hQ;have HQ:=hid hQ;have STQ:=hid (stQ.gs HLG.out);have HNX:=hid (by have:=Zq b l x ⟨pQ,ms1,0⟩ S2 wQ (by omega) hQ;simp only at this;rw[HC1.out]at this;exact this);have HGQ:=hid (stQ.fr.heap HGB.out HNG.out);clear hQ stQ rP rgP
  go_wp2_with fail
  refine HNX.out.mono ?_;rintro e wR ⟨rfl,fR⟩;have hgR:=fR.heap HGQ.out (fun x=>x);have rgR:=Zj hgR _ (Fr.refl _ _);obtain⟨wS,hwS⟩:∃wS,wS=wR.setCell ⟨w2.heap.size,8,none⟩ (.bool true):=⟨_,rfl⟩;have fS:Fr (fun k=>k=w2.heap.size) wR wS:=by rw[hwS];exact(Fr.refl (fun k=>k=w2.heap.size) wR).setCell (p:=⟨w2.heap.size,8,none⟩) (fun _=>rfl) _
  have hsS:wS.heap.size=wR.heap.size:=by rw[hwS];simp[World.setCell]
  have hgS:wS.heap[w2.heap.size]? =some (.cells #[.int .i64 A.kind,.int .i64 A.line,.string ⟨A.text.toArray⟩,.nilIface,(.int .i64 0),(.int .i64 0),(.string ⟨#[]⟩),.nilIface,.bool true] 30 (0,0)):=by rw[hwS];simpa using Za hgR 8 (.bool true)
  obtain⟨mvR,hR5⟩:=HQ.out.on fR;have hS5:=hR5.keep fS (fun e=>HNG.out (e▸hR5.me)) (fun k hk e=>HNG.out (e▸(hR5.nm k hk).2));have rS:=Zd hS5.blk _ (Fr.refl _ _);have hT5:=hS5.turned 1 (.int .i64 ((pQ:Int)+1)) ⟨pQ+1,ms1,0⟩ (by simp) rfl;have stT:=hS5.stp 1 (.int .i64 ((pQ:Int)+1));obtain⟨wT,hwT⟩:∃wT,wT=wS.setCell ⟨b,1,none⟩ (.int .i64 ((pQ:Int)+1)):=⟨_,rfl⟩;rw[←hwT]at hT5 stT;have hgT:=stT.fr.heap hgS HNG.out;have sST:Stp (GS S2 w2.heap.size) wR (GS S2 w2.heap.size) wS:=⟨fS.mono (fun _ _ e=>.inr e),fun _ _ h=>h,fun hl k hk=>by have:=hl k hk;omega⟩;have st0:=(STQ.out.trans (Stp.of fR)).trans (sST.trans (stT.gs (by have:=HLG.out;have:=STQ.out.fr.size;have:=fR.size;omega)));have HWS:=hid hwS;have HWT:=hid hwT;have HGT:=hid hgT;have ST0:=hid st0;have HBT:=hid (Zi b l x ⟨pQ+1,ms1,0⟩ S2 wT hl (by show pQ+1≤_;omega) ⟨mvR,hT5⟩);have HLT2:=hid (lt_heap hgT);clear hR5 hS5 hT5 stT hwS hwT hgR hgS hgT fS hsS sST st0 fR
  go_wp2_with(first|rw[←HWS.out]|rw[←HWT.out])
  refine HBT.out.mono ?_;rintro e wU ⟨rfl,hU,stU⟩;rw[show bhd l [32,9] (AdS.mk (pQ+1) ms1 0).at_=pV from HPV.out]at hU;have hU:ARd b l x ⟨pV,ms1,0⟩ S2 wU:=hU;have HU:=hid hU;have STU:=hid (ST0.out.trans (stU.gs HLT2.out));have HNU:=hid (by have:=Zq b l x ⟨pV,ms1,0⟩ S2 wU (by omega) hU;simp only at this;rw[HC2.out]at this;exact this);have HGU:=hid (stU.fr.heap HGT.out HNG.out);clear hU stU rgR rS
  go_wp2_with fail
  refine HNU.out.mono ?_;rintro e wV ⟨rfl,fV⟩;obtain⟨mvV,hV5⟩:=HU.out.on fV;have rV:=Zd hV5.blk _ (Fr.refl _ _);have hgV:=fV.heap HGU.out (fun x=>x);have HFl:=hid (Zaq b l x ⟨pV,ms1,0⟩ S2 15 pV wV ⟨mvV,hV5⟩);have STV:=hid (STU.out.trans (Stp.of fV));have HGV:=hid hgV;clear hV5 hgV fV
  go_wp2_with fail
  refine HFl.out.mono ?_;rintro e wX ⟨rfl,hX,stX⟩;have hgZ:=stX.fr.heap HGV.out HNG.out;have stl:=STV.out.trans (stX.gs (lt_heap HGV.out));clear stX rV;have rgZ:=Zj hgZ _ (Fr.refl _ _);have st:=HST.out.trans stl;have hzZ:=Za0 rfl HS.out HZ.out st;have rz:=Zj hzZ _ (Fr.refl _ _);have q1:=hid (ZP hX (fun h=>ZD HLT.out HS.out st h) (.int .i64 A.kind) (.int .i64 A.line) (.string ⟨A.text.toArray⟩) .nilIface (.int .i64 0) (.int .i64 0) (.string ⟨#[]⟩) .nilIface (.bool true));have q2:=hid (ZQ F1.out rfl st (.int .i64 A.kind) (.int .i64 A.line) (.string ⟨A.text.toArray⟩) .nilIface (.int .i64 0) (.int .i64 0) (.string ⟨#[]⟩) .nilIface (.bool true));have HZF:=hid (Zf hzZ (.int .i64 A.kind) (.int .i64 A.line) (.string ⟨A.text.toArray⟩) .nilIface (.int .i64 0) (.int .i64 0) (.string ⟨#[]⟩) .nilIface (.bool true));have q3:=hid (ZA (stl.rn HR1.out) (.int .i64 A.kind) (.int .i64 A.line) (.string ⟨A.text.toArray⟩) .nilIface (.int .i64 0) (.int .i64 0) (.string ⟨#[]⟩) .nilIface (.bool true))
  have q4:=hid (ZA (stl.rn HR2.out) (.int .i64 A.kind) (.int .i64 A.line) (.string ⟨A.text.toArray⟩) .nilIface (.int .i64 0) (.int .i64 0) (.string ⟨#[]⟩) .nilIface (.bool true));clear hX st stl hzZ hgZ;go_wp2
  (try simp only[Exit.inBlock,Exit.then])
  exact bodyPost_ret (Zr rfl rfl HZF.out rfl rfl rfl rfl rfl rfl rfl rfl rfl) rfl ⟨⟨A,AV.zero,true⟩,_,_,_,rfl,⟨_,_,rfl,q3.out.weak,q4.out.weak⟩,q1.out,q2.out⟩
 ·skip
  obtain⟨mv2,hP5⟩:=hP;have rP:=Zd hP5.blk _ (Fr.refl _ _);have HBL:=hid (Zi b l x ⟨at1,ms1,0⟩ S2 wP hl h2l ⟨mv2,hP5⟩);have HGB:=hid hgb;have HNG:=hid hng;have HST:=hid hst;have HR1:=hid hr1;have HR2:=hid hr2;have HLG:=hid (lt_heap hgb);have rgP:=Zj hgb _ (Fr.refl _ _);clear hP5 hgb hng hst hr1 hr2
  go_wp2_with(rw[←HW3.out])
  refine HBL.out.mono ?_;rintro e wQ ⟨rfl,hQ,stQ⟩;rw[show bhd l [32,9] (AdS.mk at1 ms1 0).at_=pQ from HPQ.out]at hQ;have hQ:ARd b l x ⟨pQ,ms1,0⟩ S2 wQ:=hQ;have HQ:=hid hQ;have STQ:=hid (stQ.gs HLG.out);have HNX:=hid (by have:=Zq b l x ⟨pQ,ms1,0⟩ S2 wQ (by omega) hQ;simp only at this;rw[HC1.out]at this;exact this);have HGQ:=hid (stQ.fr.heap HGB.out HNG.out);clear hQ stQ rP rgP
  go_wp2_with fail
  refine HNX.out.mono ?_;rintro e wR ⟨rfl,fR⟩;have hgR:=fR.heap HGQ.out (fun x=>x);have rgR:=Zj hgR _ (Fr.refl _ _);obtain⟨wS,hwS⟩:∃wS,wS=wR.setCell ⟨w2.heap.size,8,none⟩ (.bool true):=⟨_,rfl⟩;have fS:Fr (fun k=>k=w2.heap.size) wR wS:=by rw[hwS];exact(Fr.refl (fun k=>k=w2.heap.size) wR).setCell (p:=⟨w2.heap.size,8,none⟩) (fun _=>rfl) _
  have hsS:wS.heap.size=wR.heap.size:=by rw[hwS];simp[World.setCell]
  have hgS:wS.heap[w2.heap.size]? =some (.cells #[.int .i64 A.kind,.int .i64 A.line,.string ⟨A.text.toArray⟩,(.iface i1 y1),(.int .i64 0),(.int .i64 0),(.string ⟨#[]⟩),.nilIface,.bool true] 30 (0,0)):=by rw[hwS];simpa using Za hgR 8 (.bool true)
  obtain⟨mvR,hR5⟩:=HQ.out.on fR;have hS5:=hR5.keep fS (fun e=>HNG.out (e▸hR5.me)) (fun k hk e=>HNG.out (e▸(hR5.nm k hk).2));have rS:=Zd hS5.blk _ (Fr.refl _ _);have hT5:=hS5.turned 1 (.int .i64 ((pQ:Int)+1)) ⟨pQ+1,ms1,0⟩ (by simp) rfl;have stT:=hS5.stp 1 (.int .i64 ((pQ:Int)+1));obtain⟨wT,hwT⟩:∃wT,wT=wS.setCell ⟨b,1,none⟩ (.int .i64 ((pQ:Int)+1)):=⟨_,rfl⟩;rw[←hwT]at hT5 stT;have hgT:=stT.fr.heap hgS HNG.out;have sST:Stp (GS S2 w2.heap.size) wR (GS S2 w2.heap.size) wS:=⟨fS.mono (fun _ _ e=>.inr e),fun _ _ h=>h,fun hl k hk=>by have:=hl k hk;omega⟩;have st0:=(STQ.out.trans (Stp.of fR)).trans (sST.trans (stT.gs (by have:=HLG.out;have:=STQ.out.fr.size;have:=fR.size;omega)));have HWS:=hid hwS;have HWT:=hid hwT;have HGT:=hid hgT;have ST0:=hid st0;have HBT:=hid (Zi b l x ⟨pQ+1,ms1,0⟩ S2 wT hl (by show pQ+1≤_;omega) ⟨mvR,hT5⟩);have HLT2:=hid (lt_heap hgT);clear hR5 hS5 hT5 stT hwS hwT hgR hgS hgT fS hsS sST st0 fR
  go_wp2_with(first|rw[←HWS.out]|rw[←HWT.out])
  refine HBT.out.mono ?_;rintro e wU ⟨rfl,hU,stU⟩;rw[show bhd l [32,9] (AdS.mk (pQ+1) ms1 0).at_=pV from HPV.out]at hU;have hU:ARd b l x ⟨pV,ms1,0⟩ S2 wU:=hU;have HU:=hid hU;have STU:=hid (ST0.out.trans (stU.gs HLT2.out));have HNU:=hid (by have:=Zq b l x ⟨pV,ms1,0⟩ S2 wU (by omega) hU;simp only at this;rw[HC2.out]at this;exact this);have HGU:=hid (stU.fr.heap HGT.out HNG.out);clear hU stU rgR rS
  go_wp2_with fail
  refine HNU.out.mono ?_;rintro e wV ⟨rfl,fV⟩;obtain⟨mvV,hV5⟩:=HU.out.on fV;have rV:=Zd hV5.blk _ (Fr.refl _ _);have hgV:=fV.heap HGU.out (fun x=>x);have HFl:=hid (Zaq b l x ⟨pV,ms1,0⟩ S2 15 pV wV ⟨mvV,hV5⟩);have STV:=hid (STU.out.trans (Stp.of fV));have HGV:=hid hgV;clear hV5 hgV fV
  go_wp2_with fail
  refine HFl.out.mono ?_;rintro e wX ⟨rfl,hX,stX⟩;have hgZ:=stX.fr.heap HGV.out HNG.out;have stl:=STV.out.trans (stX.gs (lt_heap HGV.out));clear stX rV;have rgZ:=Zj hgZ _ (Fr.refl _ _);have st:=HST.out.trans stl;have hzZ:=Za0 rfl HS.out HZ.out st;have rz:=Zj hzZ _ (Fr.refl _ _);have q1:=hid (ZP hX (fun h=>ZD HLT.out HS.out st h) (.int .i64 A.kind) (.int .i64 A.line) (.string ⟨A.text.toArray⟩) (.iface i1 y1) (.int .i64 0) (.int .i64 0) (.string ⟨#[]⟩) .nilIface (.bool true));have q2:=hid (ZQ F1.out rfl st (.int .i64 A.kind) (.int .i64 A.line) (.string ⟨A.text.toArray⟩) (.iface i1 y1) (.int .i64 0) (.int .i64 0) (.string ⟨#[]⟩) .nilIface (.bool true));have HZF:=hid (Zf hzZ (.int .i64 A.kind) (.int .i64 A.line) (.string ⟨A.text.toArray⟩) (.iface i1 y1) (.int .i64 0) (.int .i64 0) (.string ⟨#[]⟩) .nilIface (.bool true));have q3:=hid (ZA (stl.rn HR1.out) (.int .i64 A.kind) (.int .i64 A.line) (.string ⟨A.text.toArray⟩) (.iface i1 y1) (.int .i64 0) (.int .i64 0) (.string ⟨#[]⟩) .nilIface (.bool true))
  have q4:=hid (ZA (stl.rn HR2.out) (.int .i64 A.kind) (.int .i64 A.line) (.string ⟨A.text.toArray⟩) (.iface i1 y1) (.int .i64 0) (.int .i64 0) (.string ⟨#[]⟩) .nilIface (.bool true));clear hX st stl hzZ hgZ;go_wp2
  (try simp only[Exit.inBlock,Exit.then])
  exact bodyPost_ret (Zr rfl rfl HZF.out rfl rfl rfl rfl rfl rfl rfl rfl rfl) rfl ⟨⟨A,AV.zero,true⟩,_,_,_,rfl,⟨_,_,rfl,q3.out.weak,q4.out.weak⟩,q1.out,q2.out⟩
end Go.Proofs.YtkfddjopbocpkaaGreatDoor
