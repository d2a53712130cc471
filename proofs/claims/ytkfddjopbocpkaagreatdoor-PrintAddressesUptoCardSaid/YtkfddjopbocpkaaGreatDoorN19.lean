/- Lemmas of this claim. -/
import Derived.Test.YtkfddjopbocpkaaGreatDoorN14
import Derived.Test.YtkfddjopbocpkaaGreatDoorN16
import Derived.Test.YtkfddjopbocpkaaGreatDoorN18
set_option linter.unusedVariables false
set_option linter.unusedSimpArgs false
set_option maxRecDepth 100000
set_option maxHeartbeats 4000000
namespace Go.Proofs.YtkfddjopbocpkaaGreatDoor
open Go.Lib (hid)
open Go.RowKit
structure AdS where
 at_:Nat
 marks:List (Nat×List UInt8)
 e:Int
structure Adr(b:Nat)(l:List UInt8)(x:Bool)(s:AdS)(S:Nat→Prop)(mv:Value)(w:World):Prop where
 blk:w.heap[b]? =some (.cells #[.string ⟨l.toArray⟩,.int .i64 s.at_,.bool x,mv,.int .i64 s.e] 116 (0,0))
 ma:OwM w s.marks mv
 nm:∀k,mv.ownBlock=some k→k≠b∧S k
 me:S b
def ARd(b:Nat)(l:List UInt8)(x:Bool)(s:AdS)(S:Nat→Prop)(w:World):Prop:=∃mv,Adr b l x s S mv w
section
variable {b:Nat} {l:List UInt8} {x:Bool} {s:AdS} {S:Nat→Prop} {mv:Value} {w w':World}
theorem Adr.keep{X:Nat→Prop}(h:Adr b l x s S mv w)(f:Fr X w w')(hb:¬X b)(hm:∀k,mv.ownBlock=some k→¬X k):Adr b l x s S mv w':=
 ⟨f.heap h.blk hb,ownsRow_fr h.ma f hm,h.nm,h.me⟩
theorem Adr.on(h:Adr b l x s S mv w)(f:Fr nob w w'):Adr b l x s S mv w':=h.keep f (fun x=>x) (fun _ _ x=>x)
theorem ARd.on(h:ARd b l x s S w)(f:Fr nob w w'):ARd b l x s S w':=by obtain⟨mv,h⟩:=h;exact⟨mv,h.on f⟩
theorem Adr.lt(h:Adr b l x s S mv w):b<w.heap.size:=lt_heap h.blk
theorem Adr.turned(h:Adr b l x s S mv w)(j:Nat)(u:Value)(s':AdS)
 (hj:(#[.string ⟨l.toArray⟩,.int .i64 s.at_,.bool x,mv,.int .i64 s.e]:Array Value).setIfInBounds j u= #[.string ⟨l.toArray⟩,.int .i64 s'.at_,.bool x,mv,.int .i64 s'.e]) (hm:s'.marks=s.marks):
 Adr b l x s' S mv (w.setCell ⟨b,j,none⟩ u):=by
 have hf:=(Fr.refl (fun k=>k=b) w).setCell (p:=⟨b,j,none⟩) (fun _=>rfl) u;have hb:=Za h.blk j u;rw[hj]at hb;exact⟨hb,by rw[hm];exact ownsRow_fr h.ma hf (fun k hk e=>(h.nm k hk).1 e),h.nm,h.me⟩
theorem Adr.stp(h:Adr b l x s S mv w)(j:Nat)(u:Value):Stp S w S (w.setCell ⟨b,j,none⟩ u):=
 ⟨(Fr.refl S w).setCell (p:=⟨b,j,none⟩) (fun _=>h.me) u,fun _ _ x=>x,fun hl k hk=>by have:=hl k hk;simpa[World.setCell]using this⟩
end
abbrev zA:Array Value:= #[.int .i64 0,.int .i64 0,.string ⟨#[]⟩,.nilIface]
theorem Zo{fn:Func}{p:Tmp}(h:fn.results= #[.cell p 28]){tmps:Array Value}{r:Nat}(ht:tmps.getD p undef=.pointer (some ⟨r,0,none⟩)){W:World}{a0 a1 a2 a3:Value}
 (hb:W.heap[r]? =some (.cells #[a0,a1,a2,a3] 28 (0,0))) (h3:a3.oneCell'=true) (h0:a0.oneCell'=true) (h1:a1.oneCell'=true) (h2:a2.oneCell'=true):(results fn tmps).run Tryz.prog W=.ok (.agg #[a0,a1,a2,a3]) W:=by
 have c0:=cell_at (j:=0) hb rfl;have c1:=cell_at (j:=1) hb rfl;have c2:=cell_at (j:=2) hb rfl;have c3:=cell_at (j:=3) hb rfl;have a:tmps[p]?.getD undef=.pointer (some ⟨r,0,none⟩):=by rw[←ht];simp
 simp only[results,h];simp[a,go_sem,c0,c1,c2,c3]
theorem Zhv{S:Nat→Prop}{w w':World}{r:Nat}(h:Stp S w S w')(hr:w.heap.size≤r)(v0 v1 v2 v3:Value):Stp S w S (ZaG w' r v0 v1 v2 v3):=
 ⟨setFour_frS h.fr hr _ _ _ _,fun k hk hS=>hS,fun hl k hk=>by have:=h.lt hl k hk;simpa[World.setCell]using this⟩
theorem ZaB(b:Nat)(l:List UInt8)(x:Bool)(s:AdS)(S:Nat→Prop)(e:Int)(p:Nat)(w:World)(h:ARd b l x s S w):
 Calls Tryz.prog 87 #[.pointer (some ⟨b,0,none⟩),.int .i64 e,.int .i64 (p:Nat)] w fun r w'=>
  r=.returned (.agg zA)∧ARd b l x ⟨p,s.marks,e⟩ S w'∧Stp S w S w':=by
 obtain⟨mv,h⟩:=h;obtain⟨w1,a⟩:∃w1,w1=w.alloc (.cells zA 28):=⟨_,rfl⟩;have f1:Fr nob w w1:=by rw[a];exact(Fr.refl _ _).alloc _
 have hz:w1.heap[w.heap.size]? =some (.cells zA 28 (0,0)):=by rw[a];exact newAt _ _
 have n:=h.lt;have d:=own_lt h.ma;have h1:=h.on f1;have h2:=h1.turned 4 (.int .i64 e) ⟨s.at_,s.marks,e⟩ (by simp) rfl;have h3:=h2.turned 1 (.int .i64 (p:Nat)) ⟨p,s.marks,e⟩ (by simp) rfl;have st:=((Stp.of f1).trans ((h1.stp 4 (.int .i64 e)).trans (h2.stp 1 (.int .i64 (p:Nat)))));have r1:=Zd h1.blk _ (Fr.refl _ _);have r2:=Zd h2.blk _ (Fr.refl _ _);have c:=Zc (p:=⟨b,1,none⟩) (Zc (p:=⟨b,4,none⟩) hz (by show w.heap.size≠b;omega) (.int .i64 e)) (by show w.heap.size≠b;omega) (.int .i64 (p:Nat));have rz:=Zl c;have f:=setFour_heap c (.int .i64 0) (.int .i64 0) (.string ⟨#[]⟩) .nilIface;have h4:=h3.keep (ZS _ w.heap.size (.int .i64 0) (.int .i64 0) (.string ⟨#[]⟩) .nilIface) (by show¬b=_;omega) (fun k hk e=>by have:=d k hk;have e:k=_:=e;omega);have g:=Zhv st (Nat.le_refl _) (.int .i64 0) (.int .i64 0) (.string ⟨#[]⟩) .nilIface;have H4:=hid h4;have m:=hid g;have j:=hid f;have i:=hid a
 clear h h1 h2 h3 st h4 g hz c f f1 a d n;go_enter Tryz.func87,Tryz.ntmps87;go_wp2_with(rw[←i.out]);(try simp only[Exit.inBlock,Exit.then]);exact bodyPost_ret (Zo rfl rfl j.out rfl rfl rfl rfl) rfl ⟨rfl,⟨mv,H4.out⟩,m.out⟩
def byt(l:List UInt8)(k:Nat):UInt8:=(l[k]?).getD 0
theorem ZkQ{l:List UInt8}{k:Nat}(h:k<l.length):byt l k=l[k]:=by unfold byt;rw[List.getElem?_eq_getElem h];rfl
theorem ZkR{l:List UInt8}{k:Nat}(h:l.length≤k):byt l k=0:=by unfold byt;rw[List.getElem?_eq_none h];rfl
theorem Zt(b:Nat)(l:List UInt8)(x:Bool)(s:AdS)(S:Nat→Prop)(w:World)(hl:l.length≤1000000)(h:ARd b l x s S w):
 Calls Tryz.prog 86 #[.pointer (some ⟨b,0,none⟩)] w fun r w'=>r=.returned (.int .u8 ((byt l s.at_).toNat:Int))∧Fr nob w w':=by
 obtain⟨mv,h⟩:=h;have rr:=Zd h.blk;clear h;obtain⟨p,hp⟩:∃p,s.at_=p:=⟨_,rfl⟩;rw[hp]at rr⊢;clear hp;by_cases a:p<l.length
 ·have h1:¬(l.length:Int)≤(p:Int):=by omega
  rw[ZkQ a];go_enter Tryz.func86,Tryz.ntmps86;go_wp2_with fail;refine region_fr 9 (by kernel_rfl) (by kernel_rfl) ?_;simp only[List.take_succ_cons,List.take_zero,List.drop_succ_cons,List.drop_zero]
  repeat(quiet_step (fail))
  refine wpQuiet_nil ?_;intro wC fC;go_wp2_with fail;refine region_fr 8 (by kernel_rfl) (by kernel_rfl) ?_;simp only[List.take_succ_cons,List.take_zero,List.drop_succ_cons,List.drop_zero]
  repeat(quiet_step (fail))
  refine wpQuiet_nil ?_;intro wD fD;go_wp2;go_ret;exact⟨rfl,fC.trans' fD⟩
 ·have h1:(l.length:Int)≤(p:Int):=by omega
  rw[ZkR (by omega)];go_enter Tryz.func86,Tryz.ntmps86;go_wp2_with fail;refine region_fr 9 (by kernel_rfl) (by kernel_rfl) ?_;simp only[List.take_succ_cons,List.take_zero,List.drop_succ_cons,List.drop_zero]
  repeat(quiet_step (fail))
  refine wpQuiet_nil ?_;intro wC fC;go_wp2;go_ret;exact⟨rfl,fC⟩
theorem Zgj(b:Nat)(l:List UInt8)(x:Bool)(s:AdS)(S:Nat→Prop)(w:World)(hl:l.length≤100000)(ha:s.at_≤l.length)(h:ARd b l x s S w):
 Calls Tryz.prog 146 #[.pointer (some ⟨b,0,none⟩)] w fun r w'=>
  r=.returned (.int .i64 ((nm s.at_ (l.drop s.at_) 0 0).1:Nat))∧ARd b l x ⟨(nm s.at_ (l.drop s.at_) 0 0).2.1,s.marks,(nm s.at_ (l.drop s.at_) 0 0).2.2⟩ S w'∧Stp S w S w':=by
 obtain⟨mv,h⟩:=h;have rr:=Zd h.blk;have HN:=hid (fun w'=>Zc4 l s.at_ w' hl ha);obtain⟨F,hF⟩:∃F,nm s.at_ (l.drop s.at_) 0 0=F:=⟨_,rfl⟩;obtain⟨n,q,z⟩:=F;rw[hF]at HN⊢;have H:=hid h;clear h hF;go_enter Tryz.func146,Tryz.ntmps146;go_wp2_with fail;refine region_fr 15 (by kernel_rfl) (by kernel_rfl) ?_;simp only[List.take_succ_cons,List.take_zero,List.drop_succ_cons,List.drop_zero]
 repeat(quiet_step (with_reducible exact calls_fr (HN.out _)))
 refine wpQuiet_nil ?_;intro wC fC;have h1:=H.out.on fC;have h2:=h1.turned 1 (.int .i64 (q:Nat)) ⟨q,s.marks,s.e⟩ (by simp) rfl;have h3:=h2.turned 4 (.int .i64 z) ⟨q,s.marks,z⟩ (by simp) rfl;have st:=((Stp.of fC).trans ((h1.stp 1 (.int .i64 (q:Nat))).trans (h2.stp 4 (.int .i64 z))):Stp S w S _);have r1:=Zd h1.blk _ (Fr.refl _ _);have r2:=Zd h2.blk _ (Fr.refl _ _);have H3:=hid h3;have ST:=hid st;clear h1 h2 h3 st rr;go_wp2;go_ret;exact⟨rfl,⟨mv,H3.out⟩,ST.out⟩
theorem Zi(b:Nat)(l:List UInt8)(x:Bool)(s:AdS)(S:Nat→Prop)(w:World)(hl:l.length≤100000)(ha:s.at_≤l.length)(h:ARd b l x s S w):
 Calls Tryz.prog 85 #[.pointer (some ⟨b,0,none⟩)] w fun r w'=>
  r=.returned (.tuple #[])∧ARd b l x ⟨bhd l [32,9] s.at_,s.marks,s.e⟩ S w'∧Stp S w S w':=by
 obtain⟨mv,h⟩:=h;have rr:=Zd h.blk;have HN:=hid (fun w'=>by
  have:=ZeK l (s.at_:Int) w' (by omega);rw[if_neg (by omega),Int.toNat_natCast]at this;exact this)
 obtain⟨q,hq⟩:∃q,bhd l [32,9] s.at_=q:=⟨_,rfl⟩;rw[hq]at HN⊢;have H:=hid h;clear h hq;go_enter Tryz.func85,Tryz.ntmps85;go_wp2_with fail;refine region_fr 10 (by kernel_rfl) (by kernel_rfl) ?_;simp only[List.take_succ_cons,List.take_zero,List.drop_succ_cons,List.drop_zero]
 repeat(quiet_step (with_reducible exact calls_fr (HN.out _)))
 refine wpQuiet_nil ?_;intro wC fC;have h1:=H.out.on fC;have h2:=h1.turned 1 (.int .i64 (q:Nat)) ⟨q,s.marks,s.e⟩ (by simp) rfl;have st:=((Stp.of fC).trans (h1.stp 1 (.int .i64 (q:Nat))):Stp S w S _);have r1:=Zd h1.blk _ (Fr.refl _ _);have H2:=hid h2;have ST:=hid st;clear h1 h2 st rr;go_wp2
 go_end0
 exact⟨rfl,⟨mv,H2.out⟩,ST.out⟩
structure BF where
instance:Coe BF Bool:=⟨fun _=>false⟩
theorem Zir(b:Nat)(l t:List UInt8)(x:BF)(s:AdS)(S:Nat→Prop)(w:World)(ht:t.length≤100000)(hE:Env w)(h:ARd b l x s S w):
 Calls Tryz.prog 148 #[.pointer (some ⟨b,0,none⟩),.string ⟨t.toArray⟩] w (EreAnsO (Zac prg x t) w):=by
 obtain⟨mv,h⟩:=h;have rr:=Zd h.blk _ (Fr.refl nob w);clear h;obtain⟨R,hR⟩:∃R,Zac prg x t=R:=⟨_,rfl⟩;rw[hR];have HP:=hid (show(x=true→Calls Tryz.prog 178 #[.string ⟨t.toArray⟩] w (EreAnsO R w))∧(x=false→Calls Tryz.prog 179 #[.string ⟨t.toArray⟩] w (BreAnsO R w))from
  ⟨fun hx=>(by cases hx),fun hx=>by have:=ZeE t w ht hE;rw[←ZfM]at this;rw[hR]at this;exact this⟩)
 clear hE hR
 ·have HQ:=hid (HP.out.2 rfl);clear HP;go_enter Tryz.func148,Tryz.ntmps148;go_wp2_with fail;refine HQ.out.mono ?_;intro e w1 he;cases R with
  |inl z=>
   obtain⟨z,p⟩:=z;obtain⟨f1,rfl⟩:=he;clear rr;go_wp2;exact bodyPost_ret (Zsg rfl _ _ _) rfl ⟨f1,rfl⟩
  |inr z=>
   obtain⟨n,r⟩:=z;obtain⟨f1,i,y,mv,rfl,hr⟩:=he;have HR:=hid hr;clear rr hr;go_wp2;exact bodyPost_ret (Zsg rfl _ _ _) rfl ⟨f1,_,mv,rfl,HR.out⟩
structure AV where
 kind:Int
 line:Int
 text:List UInt8
 tree:Nd
def AV.zero:AV:=⟨0,0,[],.nil⟩
def ZkS(S:Nat→Prop)(w:World)(a:AV)(v:Value):Prop:=∃u,v=.agg #[.int .i64 a.kind,.int .i64 a.line,.string ⟨a.text.toArray⟩,u]∧RN S w a.tree u
abbrev ZlK:=(Int×Nat)⊕(AV×AdS)
def ZkT(b:Nat)(l:List UInt8)(x:Bool)(S O:Nat→Prop)(w:World)(R:ZlK)(r:Ending)(w':World):Prop:=match R with
 | .inl (z,p)=>r=.returned (.agg zA)∧∃S' ms,ARd b l x ⟨p,ms,z⟩ S' w'∧Stp S w S' w'
 | .inr (a,s')=>∃v S',r=.returned v∧ZkS (SO S' O) w' a v∧ARd b l x s' S' w'∧Stp S w S' w'
theorem ZkS.nil{S:Nat→Prop}{w:World}(k n:Int)(t:List UInt8):ZkS S w ⟨k,n,t,.nil⟩ (.agg #[.int .i64 k,.int .i64 n,.string ⟨t.toArray⟩,.nilIface]):=⟨.nilIface,rfl,by rw[RN]⟩
theorem RN.one_cell{S:Nat→Prop}{w:World}{t:Nd}{u:Value}(h:RN S w t u):u.oneCell'=true:=by
 rcases h.shape with rfl|⟨i,x,rfl⟩<;>rfl
section
variable {b:Nat} {l:List UInt8} {x:Bool} {s:AdS} {S S':Nat→Prop} {mv v':Value} {w w1 wX W0 w3:World} {r:Nat}
theorem Adr.push(h:Adr b l x s S mv w)(f:Fr nob w W0)(hap:Appd 1 mv v' W0 w3){k:Nat}{t:List UInt8}
 (hown:w3.ownsRow 0 55 2 v' (s.marks.length+1) (mkC s.marks++[.int .i64 k,.string ⟨t.toArray⟩])):
 (w3.cell? ⟨b,3,none⟩=some mv∧w3.frozen? ⟨b,3,none⟩=false)∧Adr b l x ⟨s.at_,s.marks++[(k,t)],s.e⟩ (Zf0 S v') v' (w3.setCell ⟨b,3,none⟩ v')∧Stp S w (Zf0 S v') (w3.setCell ⟨b,3,none⟩ v'):=by
 have h0:=h.on f;have a:=hap.fr.heap h0.blk (fun e=>(h.nm b e).1 rfl);have g:=f.size;have hb:=lt_heap h.blk;have d:=(Fr.refl (fun k=>k=b) w3).setCell (p:=⟨b,3,none⟩) (fun _=>rfl) v';have c:v'.ownBlock≠some b:=fun e=>by
  rcases hap.old b e with h1|h1
  ·exact(h.nm b h1).1 rfl
  ·omega
 refine⟨⟨cell_at a rfl,unfrozen_at a 3⟩,⟨by have:=Za a 3 v';simpa using this,?_,fun k hk=>⟨fun e=>c (by rw[←e];exact hk),.inr hk⟩,.inl h.me⟩,?_,?_,?_⟩
 ·have:=ownsRow_fr hown d (fun k hk e=>c (by rw[←e];exact hk));unfold OwM;simp only[List.length_append,List.length_singleton,Zch];exact this
 ·exact(f.any.trans (hap.fr.mono (T:=S) fun k _ hk=>(h.nm k hk).2) (fun _ _ x=>x)).setCell (p:=⟨b,3,none⟩) (fun _=>h.me) v'
 ·intro k hk hx;rcases hx with hx|hx
  ·exact hx
  ·rcases hap.old k hx with h1|h1
   ·exact(h.nm k h1).2
   ·omega
 ·intro hl k hk;have hz:(w3.setCell ⟨b,3,none⟩ v').heap.size=w3.heap.size:=by simp[World.setCell]
  rw[hz];rcases hk with hk|hk
  ·have:=hl k hk;have:=hap.fr.size;omega
  ·exact own_lt hown k hk
theorem Zad(f1:Fr nob w w1)(hr:r=w.heap.size)(hr1:r<w1.heap.size)(hS:∀k,S k→k<w.heap.size)(hA:ARd b l x s S' wX)(st:Stp S w1 S' wX)(v0 v1 v2 v3:Value):
 ARd b l x s S' (ZaG wX r v0 v1 v2 v3)∧Stp S w S' (ZaG wX r v0 v1 v2 v3):=by
 obtain⟨mv,hA⟩:=hA;have hn:¬S' r:=fun hx=>by have:=hS r (st.old r hr1 hx);omega
 refine⟨⟨mv,hA.keep (ZS wX r v0 v1 v2 v3) (fun e=>hn (e▸hA.me)) (fun k hk e=>hn (e▸(hA.nm k hk).2))⟩,?_⟩;have s1:Stp S w S' wX:=(Stp.of f1).trans st;exact⟨setFour_frS s1.fr (by omega) _ _ _ _,s1.old,fun hl k hk=>by have:=s1.lt hl k hk;simpa[World.setCell]using this⟩
theorem ZH(hr:r=w.heap.size)(hS:∀k,S k→k<w.heap.size)(hz:w1.heap[r]? =some (.cells zA 28 (0,0)))(st:Stp S w1 S' wX):wX.heap[r]? =some (.cells zA 28 (0,0)):=
 st.fr.heap hz (fun h=>by have:=hS r h;omega)
end
def Zdj(l:List UInt8)(s:AdS):ZlK:=
 if(nm s.at_ (l.drop s.at_) 0 0).2.2≠0 then .inl ((nm s.at_ (l.drop s.at_) 0 0).2.2,(nm s.at_ (l.drop s.at_) 0 0).2.1)
 else if(nm s.at_ (l.drop s.at_) 0 0).1=0 then .inl (12,s.at_)
 else .inr (⟨1,((nm s.at_ (l.drop s.at_) 0 0).1:Nat),[],.nil⟩,⟨(nm s.at_ (l.drop s.at_) 0 0).2.1,s.marks,0⟩)
def Zdk(l:List UInt8)(s:AdS):ZlK:=
 if(nm (s.at_+1) (l.drop (s.at_+1)) 0 0).2.2≠0 then .inl ((nm (s.at_+1) (l.drop (s.at_+1)) 0 0).2.2,(nm (s.at_+1) (l.drop (s.at_+1)) 0 0).2.1)
 else .inr (⟨4,((nm (s.at_+1) (l.drop (s.at_+1)) 0 0).1:Nat),[],.nil⟩,⟨(nm (s.at_+1) (l.drop (s.at_+1)) 0 0).2.1,s.marks++[(s.at_,[43])],0⟩)
theorem Zoa(b:Nat)(l:List UInt8)(x:Bool)(s:AdS)(S O:Nat→Prop)(w:World)(hl:l.length≤100000)(ha:s.at_≤l.length)(hS:∀k,S k→k<w.heap.size)(h:ARd b l x s S w):
 Calls Tryz.prog 110 #[.pointer (some ⟨b,0,none⟩)] w (ZkT b l x S O w (Zdj l s)):=by
 obtain⟨w1,g⟩:∃w1,w1=w.alloc (.cells zA 28):=⟨_,rfl⟩;have f1:Fr nob w w1:=by rw[g];exact(Fr.refl _ _).alloc _
 have hz:w1.heap[w.heap.size]? =some (.cells zA 28 (0,0)):=by rw[g];exact newAt _ _
 have h1:=h.on f1;have hN:=Zgj b l x s S w1 hl ha h1;unfold Zdj;obtain⟨F,hF⟩:∃F,nm s.at_ (l.drop s.at_) 0 0=F:=⟨_,rfl⟩;obtain⟨n,q,z⟩:=F;rw[hF]at hN⊢;simp only at hN⊢;obtain⟨mv,o⟩:=h1;have r1:=Zd o.blk _ (Fr.refl _ _);have HN:=hid hN;have j:=hid g;have HS:=hid hS;have F1:=hid f1;have HZ:=hid hz;have i:=hid (lt_heap hz);clear h o hN g hS f1 hz hF;by_cases r:z=0
 ·subst r;rw[if_neg (by simp)];by_cases hn:n=0
  ·subst hn;rw[if_pos rfl];go_enter Tryz.func110,Tryz.ntmps110;go_wp2_with(rw[←j.out]);refine HN.out.mono ?_;rintro e w2 ⟨rfl,⟨f,h2⟩,a⟩;have r2:=Zd h2.blk _ (Fr.refl _ _);have c:=ZH rfl HS.out HZ.out a;have rz:=Zl c _ (Fr.refl _ _);have p:=ZaB b l x _ S 12 s.at_ w2 ⟨f,h2⟩;have HF:=hid p;have u:=hid a;clear h2 a c rz p;go_wp2_with fail;refine HF.out.mono ?_;rintro e w3 ⟨rfl,h3,t⟩;have st:=u.out.trans t;have m:=ZH rfl HS.out HZ.out st;have rz:=Zl m _ (Fr.refl _ _);obtain⟨p1,p2⟩:=Zad F1.out rfl i.out HS.out h3 st (.int .i64 0) (.int .i64 0) (.string ⟨#[]⟩) .nilIface;have P1:=hid p1;have P2:=hid p2;have d:=hid (setFour_heap m (.int .i64 0) (.int .i64 0) (.string ⟨#[]⟩) .nilIface);clear h3 t st m p1 p2 r1 r2;go_wp2;(try simp only[Exit.inBlock,Exit.then]);exact bodyPost_ret (Zo rfl rfl d.out rfl rfl rfl rfl) rfl ⟨rfl,S,_,P1.out,P2.out⟩
  ·rw[if_neg hn];have v:¬(n:Int)=0:=by omega
   go_enter Tryz.func110,Tryz.ntmps110;go_wp2_with(rw[←j.out]);refine HN.out.mono ?_;rintro e w2 ⟨rfl,⟨f,h2⟩,a⟩;have r2:=Zd h2.blk _ (Fr.refl _ _);have c:=ZH rfl HS.out HZ.out a;have rz:=Zl c _ (Fr.refl _ _);obtain⟨p1,p2⟩:=Zad F1.out rfl i.out HS.out ⟨f,h2⟩ a (.int .i64 1) (.int .i64 (n:Nat)) (.string ⟨#[]⟩) .nilIface;have P1:=hid p1;have P2:=hid p2;have d:=hid (setFour_heap c (.int .i64 1) (.int .i64 (n:Nat)) (.string ⟨#[]⟩) .nilIface);clear h2 a c p1 p2 r1 hn;go_wp2;(try simp only[Exit.inBlock,Exit.then]);exact bodyPost_ret (Zo rfl rfl d.out rfl rfl rfl rfl) rfl ⟨_,S,rfl,ZkS.nil 1 (n:Nat) [],P1.out,P2.out⟩
 ·rw[if_pos r];go_enter Tryz.func110,Tryz.ntmps110;go_wp2_with(rw[←j.out]);refine HN.out.mono ?_;rintro e w2 ⟨rfl,⟨f,h2⟩,a⟩;have r2:=Zd h2.blk _ (Fr.refl _ _);have c:=ZH rfl HS.out HZ.out a;have rz:=Zl c _ (Fr.refl _ _);obtain⟨p1,p2⟩:=Zad F1.out rfl i.out HS.out ⟨f,h2⟩ a (.int .i64 0) (.int .i64 0) (.string ⟨#[]⟩) .nilIface;have P1:=hid p1;have P2:=hid p2;have d:=hid (setFour_heap c (.int .i64 0) (.int .i64 0) (.string ⟨#[]⟩) .nilIface);clear h2 a c p1 p2 r1;go_wp2;(try simp only[Exit.inBlock,Exit.then]);exact bodyPost_ret (Zo rfl rfl d.out rfl rfl rfl rfl) rfl ⟨rfl,S,_,P1.out,P2.out⟩
theorem Zob(b:Nat)(l:List UInt8)(x:Bool)(s:AdS)(S O:Nat→Prop)(w:World)(hl:l.length≤100000)(ha:s.at_<l.length)(hm:s.marks.length≤1000000)(hS:∀k,S k→k<w.heap.size)(h:ARd b l x s S w):
 Calls Tryz.prog 112 #[.pointer (some ⟨b,0,none⟩)] w (ZkT b l x S O w (Zdk l s)):=by
 obtain⟨w1,g⟩:∃w1,w1=w.alloc (.cells zA 28):=⟨_,rfl⟩;have f1:Fr nob w w1:=by rw[g];exact(Fr.refl _ _).alloc _
 have hz:w1.heap[w.heap.size]? =some (.cells zA 28 (0,0)):=by rw[g];exact newAt _ _
 obtain⟨mv,h⟩:=h;have h1:=h.on f1;have h2:=h1.turned 1 (.int .i64 ((s.at_:Int)+1)) ⟨s.at_+1,s.marks,s.e⟩ (by simp) rfl;have d:=h1.stp 1 (.int .i64 ((s.at_:Int)+1));obtain⟨w2,m⟩:∃w2,w2=w1.setCell ⟨b,1,none⟩ (.int .i64 ((s.at_:Int)+1)):=⟨_,rfl⟩;rw[←m]at h2 d;have hN:=Zgj b l x _ S w2 hl (show s.at_+1≤l.length by omega) ⟨mv,h2⟩;have H:IntKind.i64.wrap ((s.at_:Int)+1)=s.at_+1:=IntWalk.i64_in _ (by omega);unfold Zdk;simp only at hN;obtain⟨F,hF⟩:∃F,nm (s.at_+1) (l.drop (s.at_+1)) 0 0=F:=⟨_,rfl⟩;obtain⟨n,q,z⟩:=F;rw[hF]at hN⊢;simp only at hN⊢;have r1:=Zd h1.blk _ (Fr.refl _ _);have HN:=hid hN;have r:=hid g;have u:=hid m;have HS:=hid hS;have F1:=hid f1;have HZ:=hid hz;have j:=hid d;have p:=hid (lt_heap hz);clear h h1 h2 hN g m hS f1 hz hF d;by_cases i:z=0
 ·subst i;rw[if_neg (by simp)];go_enter Tryz.func112,Tryz.ntmps112;go_wp2_with(first|rw[←r.out]|rw[←u.out]);refine HN.out.mono ?_;rintro e w3 ⟨rfl,⟨y,h3⟩,f⟩;have st:=j.out.trans f;have r3:=Zd h3.blk _ (Fr.refl _ _);have c:=ZH rfl HS.out HZ.out st;have rz:=Zl c _ (Fr.refl _ _);obtain⟨a3,c3,rfl⟩:=Zb h3.ma;obtain⟨i0,hi,i,D,E⟩:=info_parts Zbv;have H3:=hid h3;have ST:=hid st;have rr:=Zd h3.blk;clear h3 f st r1 rz;go_wp2_with(at_builtin;refine wpList_append_g rfl _ _ 36 rfl 55 i0 (.agg #[.int .i64 0,.string ByteArray.empty]) 2 24 Tryz.underlying36 hi i D E rfl (by decide) _ _ _ rfl (ownsRow_fr H3.out.ma ((Fr.refl nob w3).alloc _) (fun _ _ x=>x)) ⟨w3.heap.size,0,none⟩ 1 1 [.int .i64 (s.at_:Nat),.string ⟨#[43]⟩] rfl rfl ?c1 ?c2 ?c3 ?c4 ?_)
  case c1=>exact Zdg (t:=[43]) (newAt0 w3 _)
  case c2=>exact Zf1 (t:=[43])
  case c3=>unfold maxLen;show s.marks.length+1≤_;omega
  case c4=>show(s.marks.length+1)*24≤_;omega
  intro v' w4 a v;obtain⟨av,G,rfl⟩:=Zb a;obtain⟨⟨pc,pf⟩,h5,A⟩:=H3.out.push ((Fr.refl nob w3).alloc _) v (k:=s.at_) (t:=[43]) a;have st:=ST.out.trans A;have o:=ZH rfl HS.out HZ.out st;have rz:=Zl o _ (Fr.refl _ _);obtain⟨p1,p2⟩:=Zad F1.out rfl p.out HS.out ⟨_,h5⟩ st (.int .i64 4) (.int .i64 (n:Nat)) (.string ⟨#[]⟩) .nilIface;have P1:=hid p1;have P2:=hid p2;have C:=hid (setFour_heap o (.int .i64 4) (.int .i64 (n:Nat)) (.string ⟨#[]⟩) .nilIface);clear a v h5 A st o p1 p2 rr r3;go_wp2;(try simp only[Exit.inBlock,Exit.then]);exact bodyPost_ret (Zo rfl rfl C.out rfl rfl rfl rfl) rfl ⟨_,_,rfl,ZkS.nil 4 (n:Nat) [],P1.out,P2.out⟩
 ·rw[if_pos i];go_enter Tryz.func112,Tryz.ntmps112;go_wp2_with(first|rw[←r.out]|rw[←u.out]);refine HN.out.mono ?_;rintro e w3 ⟨rfl,⟨y,h3⟩,f⟩;have st:=j.out.trans f;have r3:=Zd h3.blk _ (Fr.refl _ _);have c:=ZH rfl HS.out HZ.out st;have rz:=Zl c _ (Fr.refl _ _);obtain⟨p1,p2⟩:=Zad F1.out rfl p.out HS.out ⟨y,h3⟩ st (.int .i64 0) (.int .i64 0) (.string ⟨#[]⟩) .nilIface;have P1:=hid p1;have P2:=hid p2;have B:=hid (setFour_heap c (.int .i64 0) (.int .i64 0) (.string ⟨#[]⟩) .nilIface);clear h3 f st c p1 p2 r1;go_wp2;(try simp only[Exit.inBlock,Exit.then]);exact bodyPost_ret (Zo rfl rfl B.out rfl rfl rfl rfl) rfl ⟨rfl,S,_,P1.out,P2.out⟩
def MkIn(l:List UInt8)(s:RxS):Prop:=∀m∈s.marks,m.1≤l.length
theorem MkIn.mk{l:List UInt8}{s:RxS}(h:MkIn l s)(hs:s.at_≤l.length)(t:List UInt8):MkIn l (s.mark t):=fun m hm=>by
 rcases List.mem_append.1 hm with hm|hm
 ·exact h m hm
 ·rw[List.mem_singleton.1 hm];exact hs
theorem MkIn.mk2{l:List UInt8}{s:RxS}{ere:Bool}(h:MkIn l s)(hs:s.at_≤l.length)(t:List UInt8)(k:Nat):MkIn l ((if ere then s else s.mark t).go k):=by
 cases ere
 ·exact h.mk hs t
 ·exact h
theorem Zed{ere:Bool}{l:List UInt8}:∀(n:Nat) (s:RxS) (t:Nd) (t':Nd) (s':RxS),Sane l s→MkIn l s→Ze8 prg ere l n s t=.inr (t',s')→MkIn l s'
 |0,s,t,t',s',hs,hm,h=>by
  rw[Ze8]at h;injection h with h;injection h with h1 h2;subst h1;subst h2;exact hm
 |n+1,s,t,t',s',hs,hm,h=>by
  rw[Ze8]at h;split at h
  ·next e=>
   have hle:s.at_+1≤l.length:=Zbj (eq_of_beq e) (by decide);exact Zed n (s.go 1) _ _ _ (hs.go (n:=1) hle) hm h
  ·split at h
   ·next e=>exact Zed n _ _ _ _ (hs.mk2 _ (ZcU e)) (hm.mk2 hs.le _ _) h
   ·split at h
    ·next e=>exact Zed n _ _ _ _ (hs.mk2 _ (ZcU e)) (hm.mk2 hs.le _ _) h
    ·split at h
     ·cases hi:ZlJ l ere (s.at_+(opB ere 123).length)with
      |none=>rw[hi]at h;cases h
      |some y=>
       obtain⟨m,x,j⟩:=y;rw[hi]at h;obtain⟨j1,j2⟩:=ZkE hi;exact Zed n (s.to j) _ _ _ (hs.to (n:=j) (by omega) j2) hm h
     ·injection h with h;injection h with h1 h2;subst h1;subst h2;exact hm
def MarksE(l:List UInt8)(f:RxS→Out Nd):Prop:=∀s,Sane l s→MkIn l s→∀t s',f s=.inr (t,s')→MkIn l s'
section
variable {ere:Bool} {l:List UInt8} {C:Option (RxS→Out Nd)} (hC:∀f,C=some f→Zn4 l f) (hM:∀f,C=some f→MarksE l f)
include hM
theorem Zmy{s s':RxS}{t:Nd}(hs:Sane l s)(hm:MkIn l s)(h:ZcS prg ere l C s=.inr (t,s')):MkIn l s':=by
 unfold ZcS at h;split at h
 ·next e=>
  unfold Zct at h;cases C with
  |none=>cases h
  |some f=>
   simp only at h;cases hf:f {s.go (opB ere 40).length with opened:=s.opened+1}with
   |inl e=>rw[hf]at h;cases h
   |inr z=>
    obtain⟨t1,s1⟩:=z;rw[hf]at h;simp only at h;have:=hs.op;have hg:=hs.go (ZcU e);have ho:=ZbQ ere 40;have k1:=hM f rfl {s.go (opB ere 40).length with opened:=s.opened+1} ⟨hg.le,hg.mr,hg.cl,by show s.opened+1≤s.at_+_;omega⟩ hm t1 s1 hf;split at h
    ·injection h with h;injection h with h1 h2;subst h1;subst h2;exact k1
    ·cases h
 ·split at h
  ·cases h
  ·split at h
   ·cases hp:prs l (s.at_+1)with
    |inl z=>rw[hp]at h;cases h
    |inr y=>
     rw[hp]at h;injection h with h;injection h with h2 h3;subst h2;subst h3;exact hm
   ·split at h
    ·injection h with h;injection h with h2 h3;subst h2;subst h3;exact hm
    ·split at h
     ·cases h
     ·split at h
      ·cases h
      ·injection h with h;injection h with h2 h3;subst h2;subst h3;exact hm
      ·next b r e=>
       unfold escD at h;split at h
       ·split at h
        ·injection h with h;injection h with h2 h3;subst h2;subst h3;cases ere
         ·exact hm
         ·exact hm.mk hs.le _
        ·cases h
       ·split at h
        ·cases h
        ·next c m _=>
         injection h with h;injection h with h2 h3;subst h2;subst h3;cases m
         ·exact hm
         ·exact hm.mk hs.le _
include hC
theorem brD_mk{inner:Bool}:∀(n:Nat) (first front:Bool) (s:RxS) (ps:List Nd) (t:Nd) (s':RxS),Sane l s→MkIn l s→brD prg ere l C inner n first front s ps=.inr (t,s')→MkIn l s'
 |0,first,front,s,ps,t,s',hs,hm,h=>by
  rw[brD]at h;injection h with h;injection h with h1 h2;subst h1;subst h2;exact hm
 |n+1,first,front,s,ps,t,s',hs,hm,h=>by
  rw[brD]at h;split at h
  ·injection h with h;injection h with h1 h2;subst h1;subst h2;exact hm
  ·split at h
   ·next e=>
    have e1:(sgn l s.at_==[94])=true:=by simp only[Bool.and_eq_true]at e;exact e.1
    have a:s.at_+1≤l.length:=Zbj (eq_of_beq e1) (by decide);exact brD_mk n _ _ (s.go 1) _ _ _ (hs.go (n:=1) a) hm h
   ·split at h
    ·next e=>
     have e1:(sgn l s.at_==[36])=true:=by simp only[Bool.and_eq_true]at e;exact e.1
     have a:s.at_+1≤l.length:=Zbj (eq_of_beq e1) (by decide);exact brD_mk n _ _ (s.go 1) _ _ _ (hs.go (n:=1) a) hm h
    ·split at h
     ·cases h
     ·split at h
      ·cases h
      ·next t1 s1 e1=>
       split at h
       ·cases h
       ·next t2 s2 e2=>
        have a1:=(atomD_kept hC hs e1).1;have b1:=(Zbz _ _ _ _ _ a1 e2).1;exact brD_mk n _ _ _ _ _ _ b1 (Zed _ _ _ _ _ a1 (Zmy hM hs hm e1) e2) h
theorem Zis{inner:Bool}:∀(n:Nat) (s:RxS) (ts:List Nd) (t:Nd) (s':RxS),Sane l s→MkIn l s→Zar prg ere l C inner n s ts=.inr (t,s')→MkIn l s'
 |0,s,ts,t,s',hs,hm,h=>by
  rw[Zar]at h;injection h with h;injection h with h1 h2;subst h1;subst h2;exact hm
 |n+1,s,ts,t,s',hs,hm,h=>by
  rw[Zar]at h;split at h
  ·next e=>
   split at h
   ·cases h
   ·next t1 s1 e1=>
    have hs1:=hs.mk2 (ere:=ere) [92,124] (ZcU e);have a1:=(Zbf hC hs1 e1).1;exact Zis n _ _ _ _ a1 (brD_mk hC hM _ _ _ _ _ _ _ hs1 (hm.mk2 hs.le _ _) e1) h
  ·injection h with h;injection h with h1 h2;subst h1;subst h2;exact hm
theorem choiceD_mk{inner:Bool}:MarksE l (choiceD prg ere l C inner):=by
 intro s hs hm t s' h;unfold choiceD at h;split at h
 ·cases h
 ·next t1 s1 e1=>exact Zis hC hM _ _ _ _ _ (Zbf hC hs e1).1 (brD_mk hC hM _ _ _ _ _ _ _ hs hm e1) h
end
theorem chD_mk{ere:Bool}{l:List UInt8}:∀n,MarksE l (chD prg ere l n)
 |0=>by rw[chD];exact choiceD_mk (fun f hf=>by cases hf) (fun f hf=>by cases hf)
 |n+1=>by rw[chD];exact choiceD_mk (fun f hf=>by injection hf with hf;subst hf;exact chD_kept n) (fun f hf=>by injection hf with hf;subst hf;exact chD_mk n)
theorem parseD_marks{ere:Bool}{l:List UInt8}{t:Nd}{s:RxS}(h:Zac prg ere l=.inr (t,s)):(∀m∈s.marks,m.1≤l.length)∧s.marks.length≤l.length∧t.size≤2*l.length+2:=by
 unfold Zac at h;split at h
 ·cases h
 ·have hs:Sane l ⟨0,0,[],[]⟩:=⟨Nat.zero_le _,Nat.zero_le _,Nat.zero_le _,Nat.zero_le _⟩;obtain⟨k1,k2,k3⟩:=chD_kept 12 _ hs _ _ h;have:=k1.le;have:=k1.mr;simp only at k3;exact⟨chD_mk 12 _ hs (fun m hm=>by cases hm) _ _ h,by omega,by omega⟩
theorem ZkU:∀(ms:List (Nat×List UInt8)) (k:Nat) (h:k<ms.length),(mkC ms)[k*2]? =some (.int .i64 (ms[k].1:Nat))∧(mkC ms)[k*2+1]? =some (.string ⟨ms[k].2.toArray⟩)
 |m::r,0,_=>by constructor<;>rfl
 |m::r,k+1,h=>by
  have:=ZkU r k (by simpa using h);have e:mkC (m::r)=.int .i64 (m.1:Nat):: .string ⟨m.2.toArray⟩::mkC r:=rfl;rw[e,show(k+1)*2=k*2+1+1 by omega];exact this
theorem ZeL(ms:List (Nat×List UInt8)):(mkC ms).length=2*ms.length:=by
 induction ms with
 |nil=>rfl
 |cons m r ih=>have e:mkC (m::r)=.int .i64 (m.1:Nat):: .string ⟨m.2.toArray⟩::mkC r:=rfl
               rw[e,List.length_cons,List.length_cons,ih,List.length_cons];omega
theorem OwM.get{w:World}{ms:List (Nat×List UInt8)}{v:Value}(h:OwM w ms v){k:Nat}(hk:k<ms.length):
 ∃g cap,v=.slice (some ⟨g,0,none⟩) ms.length cap∧g<w.heap.size∧w.cell? ⟨g,k*2,none⟩=some (.int .i64 (ms[k].1:Nat))∧w.cell? ⟨g,k*2+1,none⟩=some (.string ⟨ms[k].2.toArray⟩):=by
 have hl:=ZeL ms;have h0:=h;unfold OwM at h;have d:=own_lt h;obtain⟨a,c,rfl⟩:=Zb h;rcases h.2 with⟨e,hn⟩|⟨r,cap,b,e,_,hr,_⟩
 ·omega
 ·injection e with e1 e2 e3;subst e1;exact⟨r,c,rfl,lt_heap hr,(h.cellAt (k*2) (by omega)).trans (ZkU ms k hk).1,(h.cellAt (k*2+1) (by omega)).trans (ZkU ms k hk).2⟩
theorem Zqy{w:World}{b:Nat}{v0 v1:Value}{T:TypeId}(h:w.heap[b]? =some (.cells #[v0,v1] T (0,0))):∀w',Fr nob w w'→
 (w'.cell? ⟨b,0,none⟩=some v0∧w'.cell? ⟨b,1,none⟩=some v1)∧(w'.frozen? ⟨b,0,none⟩=false∧w'.frozen? ⟨b,1,none⟩=false):=fun _ f=>by
 have h':=f.heap h (fun x=>x);exact⟨⟨cell_at h' rfl,cell_at h' rfl⟩,unfrozen_at h' _,unfrozen_at h' _⟩
theorem ZdC(l:List UInt8)(d:UInt8)(rx:Bool):∀(n k:Nat) (out:List UInt8),(bt l d rx n k out).1.length≤out.length+(l.length-k)
 |0,k,out=>by simp[bt]
 |n+1,k,out=>by
  rw[bt];cases hc:l[k]? with
  |none=>simp
  |some c=>
   have hk:=(List.getElem?_eq_some_iff.1 hc).1;simp only;split
   ·simp
   ·split
    ·split
     ·have ih:=ZdC l d rx n (esc l d rx k out).2.1 (esc l d rx k out).2.2;refine Nat.le_trans ih ?_;unfold esc;cases hx:l[k+1]? with
      |none=>simp
      |some y=>
       have:=(List.getElem?_eq_some_iff.1 hx).1;simp only;split
       ·simp;omega
       ·split
        ·simp;omega
        ·simp;omega
     ·simp
    ·generalize(if c=91∧rx=true then brE l k-k else 1)=m;split
     ·refine Nat.le_trans (ZdC l d rx n _ _) ?_;rw[List.length_append,List.length_take,List.length_drop];omega
     ·simp
def shM(k:Nat)(m:Nat×List UInt8):Nat×List UInt8:=(k+m.1,m.2)
def ZaE(x:Bool)(l:List UInt8)(d:UInt8)(s:AdS):ZlK:=
 if(bt l d true (l.length+1) s.at_ []).2.2≠0 then .inl ((bt l d true (l.length+1) s.at_ []).2.2,(bt l d true (l.length+1) s.at_ []).2.1)
 else if(bt l d true (l.length+1) s.at_ []).1=[]then .inl (2,s.at_)
 else match Zac prg x (bt l d true (l.length+1) s.at_ []).1 with
  | .inl z=>.inl (z.1,s.at_)
  | .inr (t,r)=>.inr (⟨3,0,(bt l d true (l.length+1) s.at_ []).1,t⟩,⟨(bt l d true (l.length+1) s.at_ []).2.1,s.marks++r.marks.map (shM s.at_),0⟩)
theorem Zit(k:Nat)(ms:List (Nat×List UInt8)){i:Nat}(h:i<ms.length):(ms.take (i+1)).map (shM k)=(ms.take i).map (shM k)++[(k+ms[i].1,ms[i].2)]:=by
 rw[List.take_succ_eq_append_getElem h,List.map_append];rfl
theorem Zhw(b:Nat)(l:List UInt8)(d:UInt8)(x:BF)(s:AdS)(S:Nat→Prop)(w:World)(hl:l.length≤100000)(ha:s.at_≤l.length)(hS:∀k,S k→k<w.heap.size)(hE:Env w)(h:ARd b l x s S w)
 (z:Int) (p:Nat) (hR:ZaE x l d s=.inl (z,p)):
 Calls Tryz.prog 111 #[.pointer (some ⟨b,0,none⟩),.int .u8 (d.toNat:Int)] w fun r w'=>r=.returned (.agg zA)∧∃S' ms,ARd b l x ⟨p,ms,z⟩ S' w'∧Stp S w S' w':=by
 obtain⟨w1,i⟩:∃w1,w1=w.alloc (.cells zA 28):=⟨_,rfl⟩;have f1:Fr nob w w1:=by rw[i];exact(Fr.refl _ _).alloc _
 have hz:w1.heap[w.heap.size]? =some (.cells zA 28 (0,0)):=by rw[i];exact newAt _ _
 have h1:=h.on f1;have HN:=hid (fun w'=>Zg0 l s.at_ d true w' hl ha);have v:=ZdC l d true (l.length+1) s.at_ [];unfold ZaE at hR;obtain⟨F,hF⟩:∃F,bt l d true (l.length+1) s.at_ []=F:=⟨_,rfl⟩;obtain⟨T,q,y⟩:=F;rw[hF]at HN hR v;simp only[List.length_nil,Nat.zero_add]at hR v HN;obtain⟨mv,u⟩:=h1;have r1:=Zd u.blk _ (Fr.refl _ _);have H1:=hid u;have m:=hid i;have HS:=hid hS;have F1:=hid f1;have HZ:=hid hz;have j:=hid (lt_heap hz);have HE:=hid hE;clear h u i hS f1 hz hF hE;by_cases hy:y=0
 ·subst hy;rw[if_neg (by simp)]at hR;by_cases hT:T=[]
  ·subst hT;rw[if_pos rfl]at hR;injection hR with hR;injection hR with e1 e2;subst e1;subst e2;go_enter Tryz.func111,Tryz.ntmps111;go_wp2_with(rw[←m.out]);refine(HN.out _).mono ?_;rintro e w2 ⟨rfl,f2⟩;have h2:=H1.out.on f2;have HF:=hid (ZaB b l x _ S 2 s.at_ w2 ⟨mv,h2⟩);have o:=hid (Stp.of f2:Stp S w1 S w2);clear h2 f2 r1;go_wp2_with fail;refine HF.out.mono ?_;rintro e w3 ⟨rfl,h3,c⟩;have st:=o.out.trans c;have a:=ZH rfl HS.out HZ.out st;have rz:=Zl a _ (Fr.refl _ _);obtain⟨p1,p2⟩:=Zad F1.out rfl j.out HS.out h3 st (.int .i64 0) (.int .i64 0) (.string ⟨#[]⟩) .nilIface;have P1:=hid p1;have P2:=hid p2;have n:=hid (setFour_heap a (.int .i64 0) (.int .i64 0) (.string ⟨#[]⟩) .nilIface);clear h3 c st a p1 p2;go_wp2;(try simp only[Exit.inBlock,Exit.then]);exact bodyPost_ret (Zo rfl rfl n.out rfl rfl rfl rfl) rfl ⟨rfl,S,_,P1.out,P2.out⟩
  ·rw[if_neg hT]at hR;have J:T.isEmpty=false:=by cases T with|nil=>exact absurd rfl hT|cons _ _=>rfl
   obtain⟨R,g⟩:∃R,Zac prg x T=R:=⟨_,rfl⟩;rw[g]at hR;cases R with
   |inr y=>cases hR
   |inl y=>
    obtain⟨y,q'⟩:=y;injection hR with hR;injection hR with e1 e2;subst e1;subst e2;have H:¬y=0:=parseD_err g;have I:(y==0)=false:=by simpa using H
    have D:=hid (fun w' (f:Fr nob w1 w')=>by have:=Zir b l T x s S w' (by omega) (HE.out.on (F1.out.trans' f)) ⟨mv,H1.out.on f⟩;rw[g]at this;exact this);clear g hT v;go_enter Tryz.func111,Tryz.ntmps111;go_wp2_with(rw[←m.out]);refine(HN.out _).mono ?_;rintro e w2 ⟨rfl,f2⟩;have B:=hid f2;clear f2 r1;go_wp2_with fail;refine(D.out _ B.out).mono ?_;rintro e w3 ⟨f3,rfl⟩;have t:=B.out.trans' f3;have h3:=H1.out.on t;have HF:=hid (ZaB b l x _ S y s.at_ w3 ⟨mv,h3⟩);have G:=hid (Stp.of t:Stp S w1 S w3);clear h3 f3 t;go_wp2_with fail;refine HF.out.mono ?_;rintro e w4 ⟨rfl,h4,C⟩;have st:=G.out.trans C;have A:=ZH rfl HS.out HZ.out st;have rz:=Zl A _ (Fr.refl _ _);obtain⟨p1,p2⟩:=Zad F1.out rfl j.out HS.out h4 st (.int .i64 0) (.int .i64 0) (.string ⟨#[]⟩) .nilIface;have P1:=hid p1;have P2:=hid p2;have E:=hid (setFour_heap A (.int .i64 0) (.int .i64 0) (.string ⟨#[]⟩) .nilIface)
    clear h4 C st A p1 p2;go_wp2;(try simp only[Exit.inBlock,Exit.then]);exact bodyPost_ret (Zo rfl rfl E.out rfl rfl rfl rfl) rfl ⟨rfl,S,_,P1.out,P2.out⟩
 ·rw[if_pos hy]at hR;injection hR with hR;injection hR with e1 e2;subst e1;subst e2;have I:(y==0)=false:=by simpa using hy
  go_enter Tryz.func111,Tryz.ntmps111;go_wp2_with(rw[←m.out]);refine(HN.out _).mono ?_;rintro e w2 ⟨rfl,f2⟩;have h2:=H1.out.on f2;have HF:=hid (ZaB b l x _ S y q w2 ⟨mv,h2⟩);have o:=hid (Stp.of f2:Stp S w1 S w2);clear h2 f2 r1;go_wp2_with fail;refine HF.out.mono ?_;rintro e w3 ⟨rfl,h3,c⟩;have st:=o.out.trans c;have a:=ZH rfl HS.out HZ.out st;have rz:=Zl a _ (Fr.refl _ _);obtain⟨p1,p2⟩:=Zad F1.out rfl j.out HS.out h3 st (.int .i64 0) (.int .i64 0) (.string ⟨#[]⟩) .nilIface;have P1:=hid p1;have P2:=hid p2;have n:=hid (setFour_heap a (.int .i64 0) (.int .i64 0) (.string ⟨#[]⟩) .nilIface);clear h3 c st a p1 p2;go_wp2;(try simp only[Exit.inBlock,Exit.then]);exact bodyPost_ret (Zo rfl rfl n.out rfl rfl rfl rfl) rfl ⟨rfl,S,_,P1.out,P2.out⟩
theorem ad_regex_ok(b:Nat)(l:List UInt8)(d:UInt8)(x:BF)(s:AdS)(S O:Nat→Prop)(w:World)(hl:l.length≤100000)(ha:s.at_≤l.length)(hm:s.marks.length≤100000)(hs0:s.e=0)(hS:∀k,S k→k<w.heap.size)(hO:∀k,O k→k<w.heap.size)(hE:Env w)(h:ARd b l x s S w)
 (T:List UInt8) (q:Nat) (hF:bt l d true (l.length+1) s.at_ []=(T,q,0)) (hT:T≠[]) (t:Nd) (r:RxS) (hR:Zac prg x T=.inr (t,r)):
 Calls Tryz.prog 111 #[.pointer (some ⟨b,0,none⟩),.int .u8 (d.toNat:Int)] w (ZkT b l x S O w (.inr (⟨3,0,T,t⟩,⟨q,s.marks++r.marks.map (shM s.at_),0⟩))):=by
 obtain⟨a,u,e0⟩:=s;obtain rfl:e0=0:=hs0;obtain⟨w1,A⟩:∃w1,w1=w.alloc (.cells zA 28):=⟨_,rfl⟩;have f1:Fr nob w w1:=by rw[A];exact(Fr.refl _ _).alloc _
 have hz:w1.heap[w.heap.size]? =some (.cells zA 28 (0,0)):=by rw[A];exact newAt _ _
 have h1:=h.on f1;have HN:=hid (fun w'=>Zg0 l a d true w' hl ha);have K:=ZdC l d true (l.length+1) a [];simp only at hF;rw[hF]at HN K;simp only[List.length_nil,Nat.zero_add]at K HN;obtain⟨mv,y⟩:=h1;have r1:=Zd y.blk _ (Fr.refl _ _);have H1:=hid y;have b5:=hid A;have HS:=hid hS;have HO:=hid hO;have F1:=hid f1;have HZ:=hid hz;have Q:=hid (lt_heap hz);have b0:=hid (fun w' (f:Fr nob w1 w')=>by have:=Zir b l T x ⟨a,u,0⟩ S w' (by omega) (hE.on (f1.trans' f)) ⟨mv,y.on f⟩;rw[hR]at this;exact this);obtain⟨Z,c2,_⟩:=parseD_marks hR;have E:∀i (h:i<r.marks.length),r.marks[i].1≤T.length:=fun i h=>Z _ (List.getElem_mem h);have R:=hid E;have c9:T.isEmpty=false:=by cases T with|nil=>exact absurd rfl hT|cons _ _=>rfl
 have c4:r.marks.length≤100000:=by omega
 have d6:T.length≤100000:=by omega
 obtain⟨RM,H⟩:∃RM,r.marks=RM:=⟨_,rfl⟩;rw[H]at R c4⊢;have b1:=hid H;simp only;have hm:u.length≤100000:=hm;have ha:a≤l.length:=ha;clear h y A hS hO f1 hz hF hE Z c2 E hR hT K H;go_enter Tryz.func111,Tryz.ntmps111;go_wp2_with(rw[←b5.out]);refine(HN.out _).mono ?_;rintro e w2 ⟨rfl,f2⟩;have n:=hid f2;clear f2 r1;go_wp2_with fail;refine(b0.out _ n.out).mono ?_;rintro e w3 ⟨f3,v,c8,rfl,a6,c,a1⟩;have c:OwM w3 RM c8:=by rw[←b1.out];exact c
 obtain⟨aP,cP,c3⟩:=Zb c;subst c3;have h3:=H1.out.on (n.out.trans' f3);have F3:=hid f3;have F:=hid a6;have a8:=hid c;have a9:=hid a1;have H3:=hid h3;have a7:=hid (n.out.trans' f3);clear f3 a6 c a1 h3;go_wp2_with fail
 go_loopw [58] (fun i wr=>∃(k:Nat) (N:Value) (S':Nat→Prop),i=.int .i64 k∧k≤RM.length∧Adr b l x ⟨a,u++(RM.take k).map (shM a),0⟩ S' N wr∧Stp S w3 S' wr) (fun i _=>RM.length-(intOf i).toNat)
 case atStart=>exact⟨0,mv,S,rfl,Nat.zero_le _,by simpa using H3.out,Stp.refl _ _⟩
 case round=>
  obtain⟨k,N,S',rfl,hk,hA,a4⟩:=hrel;have HA:=hid hA;have o:=hid a4;clear hA a4;by_cases J:k<RM.length
  ·have b9:=R.out k J;have z:=Zit a RM J;have c:OwM wr RM (.slice aP RM.length cP):=ownsRow_fr a8.out o.out.fr (fun j hj hx=>by have:=a9.out j hj;have:=HS.out j hx;have:=n.out.size;have:=F1.out.size;omega);obtain⟨g,d3,I,d0,c0,c1⟩:=c.get J;injection I with I hg2 hg3;subst I;subst hg3;obtain⟨m1,X⟩:∃m1,RM[k].1=m1:=⟨_,rfl⟩;obtain⟨m2,Y⟩:∃m2,RM[k].2=m2:=⟨_,rfl⟩;rw[X]at c0 b9 z;rw[Y]at c1 z;have d7:IntKind.i64.wrap ((a:Int)+(m1:Int))=((a+m1:Nat):Int):=by rw[IntWalk.i64_in _ (by omega)];omega
   have b3:=hid z;clear c z X Y hg2;obtain⟨L,hL⟩:∃L,u++(RM.take k).map (shM a)=L:=⟨_,rfl⟩;have d5:L.length≤200000:=by rw[←hL,List.length_append,List.length_map,List.length_take];omega
   have hA:=HA.out;rw[hL]at hA;obtain⟨am,cm,a0⟩:=Zb hA.ma;subst a0;obtain⟨w5,B⟩:∃w5,w5=wr.alloc (.cells #[.int .i64 (m1:Nat),.string ⟨m2.toArray⟩] 55):=⟨_,rfl⟩;have f5:Fr nob wr w5:=by rw[B];exact(Fr.refl _ _).alloc _
   have a2:w5.heap[wr.heap.size]? =some (.cells #[.int .i64 (m1:Nat),.string ⟨m2.toArray⟩] 55 (0,0)):=by rw[B];exact newAt _ _
   have G:=hA.on f5;have rb:=Zd G.blk;have rq:=Zqy a2;have P:=hid G;have b6:=hid B;have U:=hid (o.out.trans (Stp.of f5));have HL:=hid hL;obtain⟨i0,hi,c5,c6,c7⟩:=info_parts Zbv;clear hA G B f5 a2 hL;go_wp2_with(rw[←b6.out])
   go_region_law (refine step_append_g rfl (.tmp 66) (.tmp 74) 36 rfl 55 i0 (.agg #[.int .i64 0,.string ByteArray.empty]) 2 24 Tryz.underlying36 hi c5 c6 c7 rfl (by decide) (.slice am L.length cm) L.length (mkC L) (by rfl) (ownsRow_fr P.out.ma (by repeat(first|exact Fr.refl _ _|apply Fr.alloc|apply Fr.drew)) (fun _ _ x=>x)) ⟨w5.heap.size,0,none⟩ 1 1 [.int .i64 ((a+m1:Nat):Int),.string ⟨m2.toArray⟩] (by rfl) rfl (Zdg (t:=m2) (by first|exact newAt0 _ _|exact Zg _ _ _ (by simp))) (Zf1 (t:=m2)) (by unfold maxLen;omega) (by omega) ?_;intro v' w6 m V;obtain⟨av,d4,rfl⟩:=Zb m;obtain⟨⟨pc,pf⟩,q1,q2⟩:=P.out.push (k:=a+m1) (t:=m2) (by repeat(first|exact Fr.refl _ _|apply Fr.alloc|apply Fr.drew)) V m;have HQ:=hid q1;have HR:=hid q2;clear m V q1 q2)
   all_goals
    go_wp2;go_roundw
    case rel=>exact⟨k+1,_,_,by go_num,by omega,by rw[b3.out,←List.append_assoc,HL.out];exact HQ.out,U.out.trans HR.out⟩
    case measure=>simp[intOf];omega
  ·obtain rfl:k=RM.length:=by omega
   have hA:=HA.out;rw[List.take_of_length_le (Nat.le_refl _)]at hA;have h5:=hA.turned 1 (.int .i64 (q:Nat)) ⟨q,u++RM.map (shM a),0⟩ (by simp) rfl;have st:=((Stp.of a7.out).trans o.out:Stp S w1 S' wr);have D:=st.trans (hA.stp 1 (.int .i64 (q:Nat)));have rA:=Zd hA.blk _ (Fr.refl _ _);obtain⟨w6,C⟩:∃w6,w6=wr.setCell ⟨b,1,none⟩ (.int .i64 (q:Nat)):=⟨_,rfl⟩;rw[←C]at h5 D;have M:=ZH rfl HS.out HZ.out D;have rz:=Zl M _ (Fr.refl _ _);obtain⟨p1,p2⟩:=Zad F1.out rfl Q.out HS.out ⟨N,h5⟩ D (.int .i64 3) (.int .i64 0) (.string ⟨T.toArray⟩) v;have d1:=F1.out.size;have d2:=n.out.size;have W:b<w2.heap.size:=by have:=H1.out.lt;omega
   have fA:Fr (fun k=>k<w2.heap.size) w3 wr:=o.out.fr.mono (fun k _ hk=>by have:=HS.out k hk;show k<_;omega);have fB:Fr (fun k=>k<w2.heap.size) w3 w6:=by rw[C];exact fA.setCell (p:=⟨b,1,none⟩) (fun _=>W) _
   have fC:Fr (fun k=>k<w2.heap.size) w3 (ZaG w6 w.heap.size (.int .i64 3) (.int .i64 0) (.string ⟨T.toArray⟩) v):=fB.trans (ZS w6 w.heap.size _ _ _ _) (fun k _ hk=>by have hk:k=_:=hk;have:=Q.out;show k<_;omega);have a3:RN (SO S' O) (ZaG w6 w.heap.size (.int .i64 3) (.int .i64 0) (.string ⟨T.toArray⟩) v) t v:=RN.keep fC (fun k _ hk=>hk) (fun k hk hx=>by
    show k<w2.heap.size;rcases hx with hx|hx
    ·have:=HS.out k (o.out.old k hk hx);omega
    ·have:=HO.out k hx;omega) t v F.out
   have a5:=F.out.one_cell;have P1:=hid p1;have P2:=hid p2;have b8:=hid (setFour_heap M (.int .i64 3) (.int .i64 0) (.string ⟨T.toArray⟩) v);have b2:=hid a3;have b4:=hid a5;have b7:=hid C;clear hA h5 st D C M p1 p2 fA fB fC a3 a5;rcases F.out.shape with rfl|⟨iv,yv,rfl⟩
   all_goals
    go_wp2_with(rw[←b7.out]);(try simp only[Exit.inBlock,Exit.then]);exact bodyPost_ret (Zo rfl rfl b8.out b4.out rfl rfl rfl) rfl ⟨_,S',rfl,⟨_,rfl,b2.out⟩,P1.out,P2.out⟩
end Go.Proofs.YtkfddjopbocpkaaGreatDoor
