/- Lemmas of this claim. -/
import Derived.Test.YtgllcniibbaoaaaGreatDoorJ16
import Derived.Test.YtgllcniibbaoaaaGreatDoorJ17
set_option linter.all false
set_option maxRecDepth 100000
set_option maxHeartbeats 24000000
namespace Go.Proofs.YtgllcniibbaoaaaGreatDoor
open Go.Proofs.Tryz
open Go.Lib (hid)
open Go.RowKit
structure AdS where
 at_:Nat
 marks:List (Nat×List UInt8)
 e:Int
structure Adr(b:Nat)(l:List UInt8)(x:Bool)(s:AdS)(S:Nat→Prop)(mv:Value)(w:World):Prop where
 blk:w.heap[b]? =some (.cells #[.string ⟨l.toArray⟩,.int .i64 s.at_,.bool x,mv,.int .i64 s.e] 104 (0,0))
 ma:OwM w s.marks mv
 nm:∀k,mv.ownBlock=some k→k≠b∧S k
 me:S b
def ARd(b:Nat)(l:List UInt8)(x:Bool)(s:AdS)(S:Nat→Prop)(w:World):Prop:=∃mv,Adr b l x s S mv w
section
variable {b:Nat} {l:List UInt8} {x:Bool} {s:AdS} {S:Nat→Prop} {mv:Value} {w w':World}
theorem Adr.keep{X:Nat→Prop}(h:Adr b l x s S mv w)(f:Fr X w w')(hb:¬X b)(hm:∀k,mv.ownBlock=some k→¬X k):Adr b l x s S mv w':=
 ⟨f.heap h.blk hb,ownsRow_fr h.ma f hm,h.nm,h.me⟩
theorem Adr.on(h:Adr b l x s S mv w)(f:Fr nob w w'):Adr b l x s S mv w':=h.keep f (fun x=>x) (fun _ _ x=>x)
theorem ARd.on(h:ARd b l x s S w)(f:Fr nob w w'):ARd b l x s S w':=by obtain⟨mv,h⟩:=h;exact⟨mv,h.on f⟩
theorem Adr.lt(h:Adr b l x s S mv w):b<w.heap.size:=lt_heap h.blk
theorem Adr.turned(h:Adr b l x s S mv w)(j:Nat)(u:Value)(s':AdS)
 (hj:(#[.string ⟨l.toArray⟩,.int .i64 s.at_,.bool x,mv,.int .i64 s.e]:Array Value).setIfInBounds j u= #[.string ⟨l.toArray⟩,.int .i64 s'.at_,.bool x,mv,.int .i64 s'.e]) (hm:s'.marks=s.marks):
 Adr b l x s' S mv (w.setCell ⟨b,j,none⟩ u):=by
 have hf:=(Fr.refl (fun k=>k=b) w).setCell (p:=⟨b,j,none⟩) (fun _=>rfl) u;have hb:=Za h.blk j u;rw[hj]at hb;exact⟨hb,by rw[hm];exact ownsRow_fr h.ma hf (fun k hk e=>(h.nm k hk).1 e),h.nm,h.me⟩
theorem Adr.stp(h:Adr b l x s S mv w)(j:Nat)(u:Value):Stp S w S (w.setCell ⟨b,j,none⟩ u):=
 ⟨(Fr.refl S w).setCell (p:=⟨b,j,none⟩) (fun _=>h.me) u,fun _ _ x=>x,fun hl k hk=>by have:=hl k hk;simpa[World.setCell]using this⟩
end
abbrev zA:Array Value:= #[.int .i64 0,.int .i64 0,.string ⟨#[]⟩,.nilIface]
theorem Zo{fn:Func}{p:Tmp}(h:fn.results= #[.cell p 45]){tmps:Array Value}{r:Nat}(ht:tmps.getD p undef=.pointer (some ⟨r,0,none⟩)){W:World}{a0 a1 a2 a3:Value}
 (hb:W.heap[r]? =some (.cells #[a0,a1,a2,a3] 45 (0,0))) (h3:a3.oneCell'=true) (h0:a0.oneCell'=true) (h1:a1.oneCell'=true) (h2:a2.oneCell'=true):(results fn tmps).run prog W=.ok (.agg #[a0,a1,a2,a3]) W:=by
 have c0:=cell_at (j:=0) hb rfl;have c1:=cell_at (j:=1) hb rfl;have c2:=cell_at (j:=2) hb rfl;have c3:=cell_at (j:=3) hb rfl;have a:tmps[p]?.getD undef=.pointer (some ⟨r,0,none⟩):=by rw[←ht];simp
 simp only[results,h];simp[a,go_sem,c0,c1,c2,c3]
theorem Zhv{S:Nat→Prop}{w w':World}{r:Nat}(h:Stp S w S w')(hr:w.heap.size≤r)(v0 v1 v2 v3:Value):Stp S w S (ZaG w' r v0 v1 v2 v3):=
 ⟨setFour_frS h.fr hr _ _ _ _,fun k hk hS=>hS,fun hl k hk=>by have:=h.lt hl k hk;simpa[World.setCell]using this⟩
theorem ZaB(b:Nat)(l:List UInt8)(x:Bool)(s:AdS)(S:Nat→Prop)(e:Int)(p:Nat)(w:World)(h:ARd b l x s S w):
 Calls prog 66 #[.pointer (some ⟨b,0,none⟩),.int .i64 e,.int .i64 (p:Nat)] w fun r w'=>
  r=.returned (.agg zA)∧ARd b l x ⟨p,s.marks,e⟩ S w'∧Stp S w S w':=by
 obtain⟨mv,h⟩:=h;obtain⟨w1,a⟩:∃w1,w1=w.alloc (.cells zA 45):=⟨_,rfl⟩;have f1:Fr nob w w1:=by rw[a];exact(Fr.refl _ _).alloc _
 have hz:w1.heap[w.heap.size]? =some (.cells zA 45 (0,0)):=by rw[a];exact newAt _ _
 have n:=h.lt;have d:=Z3 h.ma;have h1:=h.on f1;have h2:=h1.turned 4 (.int .i64 e) ⟨s.at_,s.marks,e⟩ (by simp) rfl;have h3:=h2.turned 1 (.int .i64 (p:Nat)) ⟨p,s.marks,e⟩ (by simp) rfl;have st:=((Stp.of f1).trans ((h1.stp 4 (.int .i64 e)).trans (h2.stp 1 (.int .i64 (p:Nat)))));have r1:=Zd h1.blk _ (Fr.refl _ _);have r2:=Zd h2.blk _ (Fr.refl _ _);have c:=Zc (p:=⟨b,1,none⟩) (Zc (p:=⟨b,4,none⟩) hz (by show w.heap.size≠b;omega) (.int .i64 e)) (by show w.heap.size≠b;omega) (.int .i64 (p:Nat));have rz:=Zl c;have f:=setFour_heap c (.int .i64 0) (.int .i64 0) (.string ⟨#[]⟩) .nilIface;have h4:=h3.keep (ZS _ w.heap.size (.int .i64 0) (.int .i64 0) (.string ⟨#[]⟩) .nilIface) (by show¬b=_;omega) (fun k hk e=>by have:=d k hk;have e:k=_:=e;omega);have g:=Zhv st (Nat.le_refl _) (.int .i64 0) (.int .i64 0) (.string ⟨#[]⟩) .nilIface;have H4:=hid h4;have m:=hid g;have j:=hid f;have i:=hid a
 clear h h1 h2 h3 st h4 g hz c f f1 a d n;go_enter func66,ntmps66;go_wp2_with(rw[←i.out]);(try simp only[Exit.inBlock,Exit.then]);exact bodyPost_ret (Zo rfl rfl j.out rfl rfl rfl rfl) rfl ⟨rfl,⟨mv,H4.out⟩,m.out⟩
def byt(l:List UInt8)(k:Nat):UInt8:=(l[k]?).getD 0
theorem ZkQ{l:List UInt8}{k:Nat}(h:k<l.length):byt l k=l[k]:=by unfold byt;rw[List.getElem?_eq_getElem h];rfl
theorem ZkR{l:List UInt8}{k:Nat}(h:l.length≤k):byt l k=0:=by unfold byt;rw[List.getElem?_eq_none h];rfl
theorem Zt(b:Nat)(l:List UInt8)(x:Bool)(s:AdS)(S:Nat→Prop)(w:World)(hl:l.length≤1000000)(h:ARd b l x s S w):
 Calls prog 65 #[.pointer (some ⟨b,0,none⟩)] w fun r w'=>r=.returned (.int .u8 ((byt l s.at_).toNat:Int))∧Fr nob w w':=by
 obtain⟨mv,h⟩:=h;have rr:=Zd h.blk;clear h;obtain⟨p,hp⟩:∃p,s.at_=p:=⟨_,rfl⟩;rw[hp]at rr⊢;clear hp;by_cases a:p<l.length
 ·have h1:¬(l.length:Int)≤(p:Int):=by omega
  rw[ZkQ a];go_enter func65,ntmps65;go_wp2_with fail;refine region_fr 9 (by kernel_rfl) (by kernel_rfl) ?_;simp only[List.take_succ_cons,List.take_zero,List.drop_succ_cons,List.drop_zero]
  repeat(quiet_step (fail))
  refine wpQuiet_nil ?_;intro wC fC;go_wp2_with fail;refine region_fr 8 (by kernel_rfl) (by kernel_rfl) ?_;simp only[List.take_succ_cons,List.take_zero,List.drop_succ_cons,List.drop_zero]
  repeat(quiet_step (fail))
  refine wpQuiet_nil ?_;intro wD fD;go_wp2;go_ret;exact⟨rfl,fC.trans' fD⟩
 ·have h1:(l.length:Int)≤(p:Int):=by omega
  rw[ZkR (by omega)];go_enter func65,ntmps65;go_wp2_with fail;refine region_fr 9 (by kernel_rfl) (by kernel_rfl) ?_;simp only[List.take_succ_cons,List.take_zero,List.drop_succ_cons,List.drop_zero]
  repeat(quiet_step (fail))
  refine wpQuiet_nil ?_;intro wC fC;go_wp2;go_ret;exact⟨rfl,fC⟩
theorem Zgj(b:Nat)(l:List UInt8)(x:Bool)(s:AdS)(S:Nat→Prop)(w:World)(hl:l.length≤100000)(ha:s.at_≤l.length)(h:ARd b l x s S w):
 Calls prog 108 #[.pointer (some ⟨b,0,none⟩)] w fun r w'=>
  r=.returned (.int .i64 ((nm s.at_ (l.drop s.at_) 0 0).1:Nat))∧ARd b l x ⟨(nm s.at_ (l.drop s.at_) 0 0).2.1,s.marks,(nm s.at_ (l.drop s.at_) 0 0).2.2⟩ S w'∧Stp S w S w':=by
 obtain⟨mv,h⟩:=h;have rr:=Zd h.blk;have HN:=hid (fun w'=>Zc4 l s.at_ w' hl ha);obtain⟨F,hF⟩:∃F,nm s.at_ (l.drop s.at_) 0 0=F:=⟨_,rfl⟩;obtain⟨n,q,z⟩:=F;rw[hF]at HN⊢;have H:=hid h;clear h hF;go_enter func108,ntmps108;go_wp2_with fail;refine region_fr 15 (by kernel_rfl) (by kernel_rfl) ?_;simp only[List.take_succ_cons,List.take_zero,List.drop_succ_cons,List.drop_zero]
 repeat(quiet_step (with_reducible exact calls_fr (HN.out _)))
 refine wpQuiet_nil ?_;intro wC fC;have h1:=H.out.on fC;have h2:=h1.turned 1 (.int .i64 (q:Nat)) ⟨q,s.marks,s.e⟩ (by simp) rfl;have h3:=h2.turned 4 (.int .i64 z) ⟨q,s.marks,z⟩ (by simp) rfl;have st:=((Stp.of fC).trans ((h1.stp 1 (.int .i64 (q:Nat))).trans (h2.stp 4 (.int .i64 z))):Stp S w S _);have r1:=Zd h1.blk _ (Fr.refl _ _);have r2:=Zd h2.blk _ (Fr.refl _ _);have H3:=hid h3;have ST:=hid st;clear h1 h2 h3 st rr;go_wp2;go_ret;exact⟨rfl,⟨mv,H3.out⟩,ST.out⟩
theorem Zi(b:Nat)(l:List UInt8)(x:Bool)(s:AdS)(S:Nat→Prop)(w:World)(hl:l.length≤100000)(ha:s.at_≤l.length)(h:ARd b l x s S w):
 Calls prog 64 #[.pointer (some ⟨b,0,none⟩)] w fun r w'=>
  r=.returned (.tuple #[])∧ARd b l x ⟨bhd l [32,9] s.at_,s.marks,s.e⟩ S w'∧Stp S w S w':=by
 obtain⟨mv,h⟩:=h;have rr:=Zd h.blk;have HN:=hid (fun w'=>by
  have:=ZeK l (s.at_:Int) w' (by omega);rw[if_neg (by omega),Int.toNat_natCast]at this;exact this)
 obtain⟨q,hq⟩:∃q,bhd l [32,9] s.at_=q:=⟨_,rfl⟩;rw[hq]at HN⊢;have H:=hid h;clear h hq;go_enter func64,ntmps64;go_wp2_with fail;refine region_fr 10 (by kernel_rfl) (by kernel_rfl) ?_;simp only[List.take_succ_cons,List.take_zero,List.drop_succ_cons,List.drop_zero]
 repeat(quiet_step (with_reducible exact calls_fr (HN.out _)))
 refine wpQuiet_nil ?_;intro wC fC;have h1:=H.out.on fC;have h2:=h1.turned 1 (.int .i64 (q:Nat)) ⟨q,s.marks,s.e⟩ (by simp) rfl;have st:=((Stp.of fC).trans (h1.stp 1 (.int .i64 (q:Nat))):Stp S w S _);have r1:=Zd h1.blk _ (Fr.refl _ _);have H2:=hid h2;have ST:=hid st;clear h1 h2 st rr;go_wp2
 go_end0
 exact⟨rfl,⟨mv,H2.out⟩,ST.out⟩
theorem Zir(b:Nat)(l t:List UInt8)(x:Bool)(s:AdS)(S:Nat→Prop)(w:World)(ht:t.length≤100000)(hE:Env w)(h:ARd b l x s S w):
 Calls prog 110 #[.pointer (some ⟨b,0,none⟩),.string ⟨t.toArray⟩] w (Z2 (Zac prg x t) w):=by
 obtain⟨mv,h⟩:=h;have rr:=Zd h.blk _ (Fr.refl nob w);clear h;obtain⟨R,hR⟩:∃R,Zac prg x t=R:=⟨_,rfl⟩;rw[hR];have HP:=hid (show(x=true→Calls prog 12 #[.string ⟨t.toArray⟩] w (Z2 R w))∧(x=false→Calls prog 9 #[.string ⟨t.toArray⟩] w (ZW R w))from
  ⟨fun hx=>by have:=ZeI t w ht hE;rw[hx]at hR;rw[hR]at this;exact this,fun hx=>by have:=ZeE t w ht hE;rw[←ZfM]at this;rw[hx]at hR;rw[hR]at this;exact this⟩)
 clear hE hR;cases x with
 |true=>
  have HQ:=hid (HP.out.1 rfl);clear HP;go_enter func110,ntmps110;go_wp2_with fail;refine HQ.out.mono ?_;intro e w1 he;cases R with
  |inl z=>
   obtain⟨z,p⟩:=z;obtain⟨f1,rfl⟩:=he;clear rr;go_wp2;exact bodyPost_ret (results_tmp4 rfl _ _ _) rfl ⟨f1,rfl⟩
  |inr z=>
   obtain⟨n,r⟩:=z;obtain⟨f1,v,mv,rfl,hr⟩:=he;have HR:=hid hr;clear rr hr;go_wp2;exact bodyPost_ret (results_tmp4 rfl _ _ _) rfl ⟨f1,v,mv,rfl,HR.out⟩
 |false=>
  have HQ:=hid (HP.out.2 rfl);clear HP;go_enter func110,ntmps110;go_wp2_with fail;refine HQ.out.mono ?_;intro e w1 he;cases R with
  |inl z=>
   obtain⟨z,p⟩:=z;obtain⟨f1,rfl⟩:=he;clear rr;go_wp2;exact bodyPost_ret (results_tmp4 rfl _ _ _) rfl ⟨f1,rfl⟩
  |inr z=>
   obtain⟨n,r⟩:=z;obtain⟨f1,i,y,mv,rfl,hr⟩:=he;have HR:=hid hr;clear rr hr;go_wp2;exact bodyPost_ret (results_tmp4 rfl _ _ _) rfl ⟨f1,_,mv,rfl,HR.out⟩
structure AV where
 kind:Int
 line:Int
 text:List UInt8
 tree:Nd
def AV.zero:AV:=⟨0,0,[],.nil⟩
def ZkS(S:Nat→Prop)(w:World)(a:AV)(v:Value):Prop:=∃u,v=.agg #[.int .i64 a.kind,.int .i64 a.line,.string ⟨a.text.toArray⟩,u]∧RN S w a.tree u
abbrev ZlK:=(Int×Nat)⊕(AV×AdS)
def ZkT(b:Nat)(l:List UInt8)(x:Bool)(S O:Nat→Prop)(w:World)(R:ZlK)(r:Ending)(w':World):Prop:=match R with
 | .inl (z,p)=>r=.returned (.agg zA)∧∃S' ms,ARd b l x ⟨p,ms,z⟩ S' w'∧Stp S w S' w'
 | .inr (a,s')=>∃v S',r=.returned v∧ZkS (SO S' O) w' a v∧ARd b l x s' S' w'∧Stp S w S' w'
theorem ZkS.nil{S:Nat→Prop}{w:World}(k n:Int)(t:List UInt8):ZkS S w ⟨k,n,t,.nil⟩ (.agg #[.int .i64 k,.int .i64 n,.string ⟨t.toArray⟩,.nilIface]):=⟨.nilIface,rfl,by rw[RN]⟩
theorem RN.one_cell{S:Nat→Prop}{w:World}{t:Nd}{u:Value}(h:RN S w t u):u.oneCell'=true:=by
 rcases h.shape with rfl|⟨i,x,rfl⟩<;>rfl
section
variable {b:Nat} {l:List UInt8} {x:Bool} {s:AdS} {S S':Nat→Prop} {mv v':Value} {w w1 wX W0 w3:World} {r:Nat}
theorem Adr.push(h:Adr b l x s S mv w)(f:Fr nob w W0)(hap:Appd 1 mv v' W0 w3){k:Nat}{t:List UInt8}
 (hown:w3.ownsRow 0 95 2 v' (s.marks.length+1) (mkC s.marks++[.int .i64 k,.string ⟨t.toArray⟩])):
 (w3.cell? ⟨b,3,none⟩=some mv∧w3.frozen? ⟨b,3,none⟩=false)∧Adr b l x ⟨s.at_,s.marks++[(k,t)],s.e⟩ (Zf0 S v') v' (w3.setCell ⟨b,3,none⟩ v')∧Stp S w (Zf0 S v') (w3.setCell ⟨b,3,none⟩ v'):=by
 have h0:=h.on f;have a:=hap.fr.heap h0.blk (fun e=>(h.nm b e).1 rfl);have g:=f.size;have hb:=lt_heap h.blk;have d:=(Fr.refl (fun k=>k=b) w3).setCell (p:=⟨b,3,none⟩) (fun _=>rfl) v';have c:v'.ownBlock≠some b:=fun e=>by
  rcases hap.old b e with h1|h1
  ·exact(h.nm b h1).1 rfl
  ·omega
 refine⟨⟨cell_at a rfl,ZF a 3⟩,⟨by have:=Za a 3 v';simpa using this,?_,fun k hk=>⟨fun e=>c (by rw[←e];exact hk),.inr hk⟩,.inl h.me⟩,?_,?_,?_⟩
 ·have:=ownsRow_fr hown d (fun k hk e=>c (by rw[←e];exact hk));unfold OwM;simp only[List.length_append,List.length_singleton,Zch];exact this
 ·exact(f.any.trans (hap.fr.mono (T:=S) fun k _ hk=>(h.nm k hk).2) (fun _ _ x=>x)).setCell (p:=⟨b,3,none⟩) (fun _=>h.me) v'
 ·intro k hk hx;rcases hx with hx|hx
  ·exact hx
  ·rcases hap.old k hx with h1|h1
   ·exact(h.nm k h1).2
   ·omega
 ·intro hl k hk;have hz:(w3.setCell ⟨b,3,none⟩ v').heap.size=w3.heap.size:=by simp[World.setCell]
  rw[hz];rcases hk with hk|hk
  ·have:=hl k hk;have:=hap.fr.size;omega
  ·exact Z3 hown k hk
theorem Zad(f1:Fr nob w w1)(hr:r=w.heap.size)(hr1:r<w1.heap.size)(hS:∀k,S k→k<w.heap.size)(hA:ARd b l x s S' wX)(st:Stp S w1 S' wX)(v0 v1 v2 v3:Value):
 ARd b l x s S' (ZaG wX r v0 v1 v2 v3)∧Stp S w S' (ZaG wX r v0 v1 v2 v3):=by
 obtain⟨mv,hA⟩:=hA;have hn:¬S' r:=fun hx=>by have:=hS r (st.old r hr1 hx);omega
 refine⟨⟨mv,hA.keep (ZS wX r v0 v1 v2 v3) (fun e=>hn (e▸hA.me)) (fun k hk e=>hn (e▸(hA.nm k hk).2))⟩,?_⟩;have s1:Stp S w S' wX:=(Stp.of f1).trans st;exact⟨setFour_frS s1.fr (by omega) _ _ _ _,s1.old,fun hl k hk=>by have:=s1.lt hl k hk;simpa[World.setCell]using this⟩
theorem ZH(hr:r=w.heap.size)(hS:∀k,S k→k<w.heap.size)(hz:w1.heap[r]? =some (.cells zA 45 (0,0)))(st:Stp S w1 S' wX):wX.heap[r]? =some (.cells zA 45 (0,0)):=
 st.fr.heap hz (fun h=>by have:=hS r h;omega)
end
def Zdj(l:List UInt8)(s:AdS):ZlK:=
 if(nm s.at_ (l.drop s.at_) 0 0).2.2≠0 then .inl ((nm s.at_ (l.drop s.at_) 0 0).2.2,(nm s.at_ (l.drop s.at_) 0 0).2.1)
 else if(nm s.at_ (l.drop s.at_) 0 0).1=0 then .inl (12,s.at_)
 else .inr (⟨1,((nm s.at_ (l.drop s.at_) 0 0).1:Nat),[],.nil⟩,⟨(nm s.at_ (l.drop s.at_) 0 0).2.1,s.marks,0⟩)
def Zdk(l:List UInt8)(s:AdS):ZlK:=
 if(nm (s.at_+1) (l.drop (s.at_+1)) 0 0).2.2≠0 then .inl ((nm (s.at_+1) (l.drop (s.at_+1)) 0 0).2.2,(nm (s.at_+1) (l.drop (s.at_+1)) 0 0).2.1)
 else .inr (⟨4,((nm (s.at_+1) (l.drop (s.at_+1)) 0 0).1:Nat),[],.nil⟩,⟨(nm (s.at_+1) (l.drop (s.at_+1)) 0 0).2.1,s.marks++[(s.at_,[43])],0⟩)
theorem Zoa(b:Nat)(l:List UInt8)(x:Bool)(s:AdS)(S O:Nat→Prop)(w:World)(hl:l.length≤100000)(ha:s.at_≤l.length)(hS:∀k,S k→k<w.heap.size)(h:ARd b l x s S w):
 Calls prog 68 #[.pointer (some ⟨b,0,none⟩)] w (ZkT b l x S O w (Zdj l s)):=by
 obtain⟨w1,g⟩:∃w1,w1=w.alloc (.cells zA 45):=⟨_,rfl⟩;have f1:Fr nob w w1:=by rw[g];exact(Fr.refl _ _).alloc _
 have hz:w1.heap[w.heap.size]? =some (.cells zA 45 (0,0)):=by rw[g];exact newAt _ _
 have h1:=h.on f1;have hN:=Zgj b l x s S w1 hl ha h1;unfold Zdj;obtain⟨F,hF⟩:∃F,nm s.at_ (l.drop s.at_) 0 0=F:=⟨_,rfl⟩;obtain⟨n,q,z⟩:=F;rw[hF]at hN⊢;simp only at hN⊢;obtain⟨mv,o⟩:=h1;have r1:=Zd o.blk _ (Fr.refl _ _);have HN:=hid hN;have j:=hid g;have HS:=hid hS;have F1:=hid f1;have HZ:=hid hz;have i:=hid (lt_heap hz);clear h o hN g hS f1 hz hF;by_cases r:z=0
 ·subst r;rw[if_neg (by simp)];by_cases hn:n=0
  ·subst hn;rw[if_pos rfl];go_enter func68,ntmps68;go_wp2_with(rw[←j.out]);refine HN.out.mono ?_;rintro e w2 ⟨rfl,⟨f,h2⟩,a⟩;have r2:=Zd h2.blk _ (Fr.refl _ _);have c:=ZH rfl HS.out HZ.out a;have rz:=Zl c _ (Fr.refl _ _);have p:=ZaB b l x _ S 12 s.at_ w2 ⟨f,h2⟩;have HF:=hid p;have u:=hid a;clear h2 a c rz p;go_wp2_with fail;refine HF.out.mono ?_;rintro e w3 ⟨rfl,h3,t⟩;have st:=u.out.trans t;have m:=ZH rfl HS.out HZ.out st;have rz:=Zl m _ (Fr.refl _ _);obtain⟨p1,p2⟩:=Zad F1.out rfl i.out HS.out h3 st (.int .i64 0) (.int .i64 0) (.string ⟨#[]⟩) .nilIface;have P1:=hid p1;have P2:=hid p2;have d:=hid (setFour_heap m (.int .i64 0) (.int .i64 0) (.string ⟨#[]⟩) .nilIface);clear h3 t st m p1 p2 r1 r2;go_wp2;(try simp only[Exit.inBlock,Exit.then]);exact bodyPost_ret (Zo rfl rfl d.out rfl rfl rfl rfl) rfl ⟨rfl,S,_,P1.out,P2.out⟩
  ·rw[if_neg hn];have v:¬(n:Int)=0:=by omega
   go_enter func68,ntmps68;go_wp2_with(rw[←j.out]);refine HN.out.mono ?_;rintro e w2 ⟨rfl,⟨f,h2⟩,a⟩;have r2:=Zd h2.blk _ (Fr.refl _ _);have c:=ZH rfl HS.out HZ.out a;have rz:=Zl c _ (Fr.refl _ _);obtain⟨p1,p2⟩:=Zad F1.out rfl i.out HS.out ⟨f,h2⟩ a (.int .i64 1) (.int .i64 (n:Nat)) (.string ⟨#[]⟩) .nilIface;have P1:=hid p1;have P2:=hid p2;have d:=hid (setFour_heap c (.int .i64 1) (.int .i64 (n:Nat)) (.string ⟨#[]⟩) .nilIface);clear h2 a c p1 p2 r1 hn;go_wp2;(try simp only[Exit.inBlock,Exit.then]);exact bodyPost_ret (Zo rfl rfl d.out rfl rfl rfl rfl) rfl ⟨_,S,rfl,ZkS.nil 1 (n:Nat) [],P1.out,P2.out⟩
 ·rw[if_pos r];go_enter func68,ntmps68;go_wp2_with(rw[←j.out]);refine HN.out.mono ?_;rintro e w2 ⟨rfl,⟨f,h2⟩,a⟩;have r2:=Zd h2.blk _ (Fr.refl _ _);have c:=ZH rfl HS.out HZ.out a;have rz:=Zl c _ (Fr.refl _ _);obtain⟨p1,p2⟩:=Zad F1.out rfl i.out HS.out ⟨f,h2⟩ a (.int .i64 0) (.int .i64 0) (.string ⟨#[]⟩) .nilIface;have P1:=hid p1;have P2:=hid p2;have d:=hid (setFour_heap c (.int .i64 0) (.int .i64 0) (.string ⟨#[]⟩) .nilIface);clear h2 a c p1 p2 r1;go_wp2;(try simp only[Exit.inBlock,Exit.then]);exact bodyPost_ret (Zo rfl rfl d.out rfl rfl rfl rfl) rfl ⟨rfl,S,_,P1.out,P2.out⟩
theorem Zob(b:Nat)(l:List UInt8)(x:Bool)(s:AdS)(S O:Nat→Prop)(w:World)(hl:l.length≤100000)(ha:s.at_<l.length)(hm:s.marks.length≤1000000)(hS:∀k,S k→k<w.heap.size)(h:ARd b l x s S w):
 Calls prog 70 #[.pointer (some ⟨b,0,none⟩)] w (ZkT b l x S O w (Zdk l s)):=by
 obtain⟨w1,g⟩:∃w1,w1=w.alloc (.cells zA 45):=⟨_,rfl⟩;have f1:Fr nob w w1:=by rw[g];exact(Fr.refl _ _).alloc _
 have hz:w1.heap[w.heap.size]? =some (.cells zA 45 (0,0)):=by rw[g];exact newAt _ _
 obtain⟨mv,h⟩:=h;have h1:=h.on f1;have h2:=h1.turned 1 (.int .i64 ((s.at_:Int)+1)) ⟨s.at_+1,s.marks,s.e⟩ (by simp) rfl;have d:=h1.stp 1 (.int .i64 ((s.at_:Int)+1));obtain⟨w2,m⟩:∃w2,w2=w1.setCell ⟨b,1,none⟩ (.int .i64 ((s.at_:Int)+1)):=⟨_,rfl⟩;rw[←m]at h2 d;have hN:=Zgj b l x _ S w2 hl (show s.at_+1≤l.length by omega) ⟨mv,h2⟩;have H:IntKind.i64.wrap ((s.at_:Int)+1)=s.at_+1:=IntWalk.i64_in _ (by omega);unfold Zdk;simp only at hN;obtain⟨F,hF⟩:∃F,nm (s.at_+1) (l.drop (s.at_+1)) 0 0=F:=⟨_,rfl⟩;obtain⟨n,q,z⟩:=F;rw[hF]at hN⊢;simp only at hN⊢;have r1:=Zd h1.blk _ (Fr.refl _ _);have HN:=hid hN;have r:=hid g;have u:=hid m;have HS:=hid hS;have F1:=hid f1;have HZ:=hid hz;have j:=hid d;have p:=hid (lt_heap hz);clear h h1 h2 hN g m hS f1 hz hF d;by_cases i:z=0
 ·subst i;rw[if_neg (by simp)];go_enter func70,ntmps70;go_wp2_with(first|rw[←r.out]|rw[←u.out]);refine HN.out.mono ?_;rintro e w3 ⟨rfl,⟨y,h3⟩,f⟩;have st:=j.out.trans f;have r3:=Zd h3.blk _ (Fr.refl _ _);have c:=ZH rfl HS.out HZ.out st;have rz:=Zl c _ (Fr.refl _ _);obtain⟨a3,c3,rfl⟩:=Zb h3.ma;obtain⟨i0,hi,i,D,E⟩:=info_parts Zbv;have H3:=hid h3;have ST:=hid st;have rr:=Zd h3.blk;clear h3 f st r1 rz;go_wp2_with(at_builtin;refine wpList_append_g rfl _ _ 25 rfl 95 i0 (.agg #[.int .i64 0,.string ByteArray.empty]) 2 24 underlying25 hi i D E rfl (by decide) _ _ _ rfl (ownsRow_fr H3.out.ma ((Fr.refl nob w3).alloc _) (fun _ _ x=>x)) ⟨w3.heap.size,0,none⟩ 1 1 [.int .i64 (s.at_:Nat),.string ⟨#[43]⟩] rfl rfl ?c1 ?c2 ?c3 ?c4 ?_)
  case c1=>exact Zdg (t:=[43]) (newAt0 w3 _)
  case c2=>exact Zf1 (t:=[43])
  case c3=>unfold maxLen;show s.marks.length+1≤_;omega
  case c4=>show(s.marks.length+1)*24≤_;omega
  intro v' w4 a v;obtain⟨av,G,rfl⟩:=Zb a;obtain⟨⟨pc,pf⟩,h5,A⟩:=H3.out.push ((Fr.refl nob w3).alloc _) v (k:=s.at_) (t:=[43]) a;have st:=ST.out.trans A;have o:=ZH rfl HS.out HZ.out st;have rz:=Zl o _ (Fr.refl _ _);obtain⟨p1,p2⟩:=Zad F1.out rfl p.out HS.out ⟨_,h5⟩ st (.int .i64 4) (.int .i64 (n:Nat)) (.string ⟨#[]⟩) .nilIface;have P1:=hid p1;have P2:=hid p2;have C:=hid (setFour_heap o (.int .i64 4) (.int .i64 (n:Nat)) (.string ⟨#[]⟩) .nilIface);clear a v h5 A st o p1 p2 rr r3;go_wp2;(try simp only[Exit.inBlock,Exit.then]);exact bodyPost_ret (Zo rfl rfl C.out rfl rfl rfl rfl) rfl ⟨_,_,rfl,ZkS.nil 4 (n:Nat) [],P1.out,P2.out⟩
 ·rw[if_pos i];go_enter func70,ntmps70;go_wp2_with(first|rw[←r.out]|rw[←u.out]);refine HN.out.mono ?_;rintro e w3 ⟨rfl,⟨y,h3⟩,f⟩;have st:=j.out.trans f;have r3:=Zd h3.blk _ (Fr.refl _ _);have c:=ZH rfl HS.out HZ.out st;have rz:=Zl c _ (Fr.refl _ _);obtain⟨p1,p2⟩:=Zad F1.out rfl p.out HS.out ⟨y,h3⟩ st (.int .i64 0) (.int .i64 0) (.string ⟨#[]⟩) .nilIface;have P1:=hid p1;have P2:=hid p2;have B:=hid (setFour_heap c (.int .i64 0) (.int .i64 0) (.string ⟨#[]⟩) .nilIface);clear h3 f st c p1 p2 r1;go_wp2;(try simp only[Exit.inBlock,Exit.then]);exact bodyPost_ret (Zo rfl rfl B.out rfl rfl rfl rfl) rfl ⟨rfl,S,_,P1.out,P2.out⟩
def MkIn(l:List UInt8)(s:RxS):Prop:=∀m∈s.marks,m.1≤l.length
theorem MkIn.mk{l:List UInt8}{s:RxS}(h:MkIn l s)(hs:s.at_≤l.length)(t:List UInt8):MkIn l (s.mark t):=fun m hm=>by
 rcases List.mem_append.1 hm with hm|hm
 ·exact h m hm
 ·rw[List.mem_singleton.1 hm];exact hs
theorem MkIn.mk2{l:List UInt8}{s:RxS}{ere:Bool}(h:MkIn l s)(hs:s.at_≤l.length)(t:List UInt8)(k:Nat):MkIn l ((if ere then s else s.mark t).go k):=by
 cases ere
 ·exact h.mk hs t
 ·exact h
theorem Zed{ere:Bool}{l:List UInt8}:∀(n:Nat) (s:RxS) (t:Nd) (t':Nd) (s':RxS),Sane l s→MkIn l s→Ze8 prg ere l n s t=.inr (t',s')→MkIn l s'
 |0,s,t,t',s',hs,hm,h=>by
  rw[Ze8]at h;injection h with h;injection h with h1 h2;subst h1;subst h2;exact hm
 |n+1,s,t,t',s',hs,hm,h=>by
  rw[Ze8]at h;split at h
  ·next e=>
   have hle:s.at_+1≤l.length:=Zbj (eq_of_beq e) (by decide);exact Zed n (s.go 1) _ _ _ (hs.go (n:=1) hle) hm h
  ·split at h
   ·next e=>exact Zed n _ _ _ _ (hs.mk2 _ (ZcU e)) (hm.mk2 hs.le _ _) h
   ·split at h
    ·next e=>exact Zed n _ _ _ _ (hs.mk2 _ (ZcU e)) (hm.mk2 hs.le _ _) h
    ·split at h
     ·cases hi:ZlJ l ere (s.at_+(opB ere 123).length)with
      |none=>rw[hi]at h;cases h
      |some y=>
       obtain⟨m,x,j⟩:=y;rw[hi]at h;obtain⟨j1,j2⟩:=ZkE hi;exact Zed n (s.to j) _ _ _ (hs.to (n:=j) (by omega) j2) hm h
     ·injection h with h;injection h with h1 h2;subst h1;subst h2;exact hm
def MarksE(l:List UInt8)(f:RxS→Out Nd):Prop:=∀s,Sane l s→MkIn l s→∀t s',f s=.inr (t,s')→MkIn l s'
section
variable {ere:Bool} {l:List UInt8} {C:Option (RxS→Out Nd)} (hC:∀f,C=some f→Zn4 l f) (hM:∀f,C=some f→MarksE l f)
include hM
theorem Zmy{s s':RxS}{t:Nd}(hs:Sane l s)(hm:MkIn l s)(h:ZcS prg ere l C s=.inr (t,s')):MkIn l s':=by
 unfold ZcS at h;split at h
 ·next e=>
  unfold Zct at h;cases C with
  |none=>cases h
  |some f=>
   simp only at h;cases hf:f {s.go (opB ere 40).length with opened:=s.opened+1}with
   |inl e=>rw[hf]at h;cases h
   |inr z=>
    obtain⟨t1,s1⟩:=z;rw[hf]at h;simp only at h;have:=hs.op;have hg:=hs.go (ZcU e);have ho:=ZbQ ere 40;have k1:=hM f rfl {s.go (opB ere 40).length with opened:=s.opened+1} ⟨hg.le,hg.mr,hg.cl,by show s.opened+1≤s.at_+_;omega⟩ hm t1 s1 hf;split at h
    ·injection h with h;injection h with h1 h2;subst h1;subst h2;exact k1
    ·cases h
 ·split at h
  ·cases h
  ·split at h
   ·cases hp:prs l (s.at_+1)with
    |inl z=>rw[hp]at h;cases h
    |inr y=>
     rw[hp]at h;injection h with h;injection h with h2 h3;subst h2;subst h3;exact hm
   ·split at h
    ·injection h with h;injection h with h2 h3;subst h2;subst h3;exact hm
    ·split at h
     ·cases h
     ·split at h
      ·cases h
      ·injection h with h;injection h with h2 h3;subst h2;subst h3;exact hm
      ·next b r e=>
       unfold escD at h;split at h
       ·split at h
        ·injection h with h;injection h with h2 h3;subst h2;subst h3;cases ere
         ·exact hm
         ·exact hm.mk hs.le _
        ·cases h
       ·split at h
        ·cases h
        ·next c m _=>
         injection h with h;injection h with h2 h3;subst h2;subst h3;cases m
         ·exact hm
         ·exact hm.mk hs.le _
include hC
theorem brD_mk{inner:Bool}:∀(n:Nat) (first front:Bool) (s:RxS) (ps:List Nd) (t:Nd) (s':RxS),Sane l s→MkIn l s→brD prg ere l C inner n first front s ps=.inr (t,s')→MkIn l s'
 |0,first,front,s,ps,t,s',hs,hm,h=>by
  rw[brD]at h;injection h with h;injection h with h1 h2;subst h1;subst h2;exact hm
 |n+1,first,front,s,ps,t,s',hs,hm,h=>by
  rw[brD]at h;split at h
  ·injection h with h;injection h with h1 h2;subst h1;subst h2;exact hm
  ·split at h
   ·next e=>
    have e1:(sgn l s.at_==[94])=true:=by simp only[Bool.and_eq_true]at e;exact e.1
    have a:s.at_+1≤l.length:=Zbj (eq_of_beq e1) (by decide);exact brD_mk n _ _ (s.go 1) _ _ _ (hs.go (n:=1) a) hm h
   ·split at h
    ·next e=>
     have e1:(sgn l s.at_==[36])=true:=by simp only[Bool.and_eq_true]at e;exact e.1
     have a:s.at_+1≤l.length:=Zbj (eq_of_beq e1) (by decide);exact brD_mk n _ _ (s.go 1) _ _ _ (hs.go (n:=1) a) hm h
    ·split at h
     ·cases h
     ·split at h
      ·cases h
      ·next t1 s1 e1=>
       split at h
       ·cases h
       ·next t2 s2 e2=>
        have a1:=(atomD_kept hC hs e1).1;have b1:=(Zbz _ _ _ _ _ a1 e2).1;exact brD_mk n _ _ _ _ _ _ b1 (Zed _ _ _ _ _ a1 (Zmy hM hs hm e1) e2) h
theorem Zis{inner:Bool}:∀(n:Nat) (s:RxS) (ts:List Nd) (t:Nd) (s':RxS),Sane l s→MkIn l s→Zar prg ere l C inner n s ts=.inr (t,s')→MkIn l s'
 |0,s,ts,t,s',hs,hm,h=>by
  rw[Zar]at h;injection h with h;injection h with h1 h2;subst h1;subst h2;exact hm
 |n+1,s,ts,t,s',hs,hm,h=>by
  rw[Zar]at h;split at h
  ·next e=>
   split at h
   ·cases h
   ·next t1 s1 e1=>
    have hs1:=hs.mk2 (ere:=ere) [92,124] (ZcU e);have a1:=(Zbf hC hs1 e1).1;exact Zis n _ _ _ _ a1 (brD_mk hC hM _ _ _ _ _ _ _ hs1 (hm.mk2 hs.le _ _) e1) h
  ·injection h with h;injection h with h1 h2;subst h1;subst h2;exact hm
theorem choiceD_mk{inner:Bool}:MarksE l (choiceD prg ere l C inner):=by
 intro s hs hm t s' h;unfold choiceD at h;split at h
 ·cases h
 ·next t1 s1 e1=>exact Zis hC hM _ _ _ _ _ (Zbf hC hs e1).1 (brD_mk hC hM _ _ _ _ _ _ _ hs hm e1) h
end
theorem chD_mk{ere:Bool}{l:List UInt8}:∀n,MarksE l (chD prg ere l n)
 |0=>by rw[chD];exact choiceD_mk (fun f hf=>by cases hf) (fun f hf=>by cases hf)
 |n+1=>by rw[chD];exact choiceD_mk (fun f hf=>by injection hf with hf;subst hf;exact chD_kept n) (fun f hf=>by injection hf with hf;subst hf;exact chD_mk n)
theorem parseD_marks{ere:Bool}{l:List UInt8}{t:Nd}{s:RxS}(h:Zac prg ere l=.inr (t,s)):(∀m∈s.marks,m.1≤l.length)∧s.marks.length≤l.length∧t.size≤2*l.length+2:=by
 unfold Zac at h;split at h
 ·cases h
 ·have hs:Sane l ⟨0,0,[],[]⟩:=⟨Nat.zero_le _,Nat.zero_le _,Nat.zero_le _,Nat.zero_le _⟩;obtain⟨k1,k2,k3⟩:=chD_kept 12 _ hs _ _ h;have:=k1.le;have:=k1.mr;simp only at k3;exact⟨chD_mk 12 _ hs (fun m hm=>by cases hm) _ _ h,by omega,by omega⟩
theorem ZkU:∀(ms:List (Nat×List UInt8)) (k:Nat) (h:k<ms.length),(mkC ms)[k*2]? =some (.int .i64 (ms[k].1:Nat))∧(mkC ms)[k*2+1]? =some (.string ⟨ms[k].2.toArray⟩)
 |m::r,0,_=>by constructor<;>rfl
 |m::r,k+1,h=>by
  have:=ZkU r k (by simpa using h);have e:mkC (m::r)=.int .i64 (m.1:Nat):: .string ⟨m.2.toArray⟩::mkC r:=rfl;rw[e,show(k+1)*2=k*2+1+1 by omega];exact this
theorem ZeL(ms:List (Nat×List UInt8)):(mkC ms).length=2*ms.length:=by
 induction ms with
 |nil=>rfl
 |cons m r ih=>have e:mkC (m::r)=.int .i64 (m.1:Nat):: .string ⟨m.2.toArray⟩::mkC r:=rfl
               rw[e,List.length_cons,List.length_cons,ih,List.length_cons];omega
theorem OwM.get{w:World}{ms:List (Nat×List UInt8)}{v:Value}(h:OwM w ms v){k:Nat}(hk:k<ms.length):
 ∃g cap,v=.slice (some ⟨g,0,none⟩) ms.length cap∧g<w.heap.size∧w.cell? ⟨g,k*2,none⟩=some (.int .i64 (ms[k].1:Nat))∧w.cell? ⟨g,k*2+1,none⟩=some (.string ⟨ms[k].2.toArray⟩):=by
 have hl:=ZeL ms;have h0:=h;unfold OwM at h;have d:=Z3 h;obtain⟨a,c,rfl⟩:=Zb h;rcases h.2 with⟨e,hn⟩|⟨r,cap,b,e,_,hr,_⟩
 ·omega
 ·injection e with e1 e2 e3;subst e1;exact⟨r,c,rfl,lt_heap hr,(h.cellAt (k*2) (by omega)).trans (ZkU ms k hk).1,(h.cellAt (k*2+1) (by omega)).trans (ZkU ms k hk).2⟩
theorem Zqy{w:World}{b:Nat}{v0 v1:Value}{T:TypeId}(h:w.heap[b]? =some (.cells #[v0,v1] T (0,0))):∀w',Fr nob w w'→
 (w'.cell? ⟨b,0,none⟩=some v0∧w'.cell? ⟨b,1,none⟩=some v1)∧(w'.frozen? ⟨b,0,none⟩=false∧w'.frozen? ⟨b,1,none⟩=false):=fun _ f=>by
 have h':=f.heap h (fun x=>x);exact⟨⟨cell_at h' rfl,cell_at h' rfl⟩,ZF h' _,ZF h' _⟩
theorem ZdC(l:List UInt8)(d:UInt8)(rx:Bool):∀(n k:Nat) (out:List UInt8),(bt l d rx n k out).1.length≤out.length+(l.length-k)
 |0,k,out=>by simp[bt]
 |n+1,k,out=>by
  rw[bt];cases hc:l[k]? with
  |none=>simp
  |some c=>
   have hk:=(List.getElem?_eq_some_iff.1 hc).1;simp only;split
   ·simp
   ·split
    ·split
     ·have ih:=ZdC l d rx n (esc l d rx k out).2.1 (esc l d rx k out).2.2;refine Nat.le_trans ih ?_;unfold esc;cases hx:l[k+1]? with
      |none=>simp
      |some y=>
       have:=(List.getElem?_eq_some_iff.1 hx).1;simp only;split
       ·simp;omega
       ·split
        ·simp;omega
        ·simp;omega
     ·simp
    ·generalize(if c=91∧rx=true then brE l k-k else 1)=m;split
     ·refine Nat.le_trans (ZdC l d rx n _ _) ?_;rw[List.length_append,List.length_take,List.length_drop];omega
     ·simp
def shM(k:Nat)(m:Nat×List UInt8):Nat×List UInt8:=(k+m.1,m.2)
def ZaE(x:Bool)(l:List UInt8)(d:UInt8)(s:AdS):ZlK:=
 if(bt l d true (l.length+1) s.at_ []).2.2≠0 then .inl ((bt l d true (l.length+1) s.at_ []).2.2,(bt l d true (l.length+1) s.at_ []).2.1)
 else if(bt l d true (l.length+1) s.at_ []).1=[]then .inl (2,s.at_)
 else match Zac prg x (bt l d true (l.length+1) s.at_ []).1 with
  | .inl z=>.inl (z.1,s.at_)
  | .inr (t,r)=>.inr (⟨3,0,(bt l d true (l.length+1) s.at_ []).1,t⟩,⟨(bt l d true (l.length+1) s.at_ []).2.1,s.marks++r.marks.map (shM s.at_),0⟩)
theorem Zit(k:Nat)(ms:List (Nat×List UInt8)){i:Nat}(h:i<ms.length):(ms.take (i+1)).map (shM k)=(ms.take i).map (shM k)++[(k+ms[i].1,ms[i].2)]:=by
 rw[List.take_succ_eq_append_getElem h,List.map_append];rfl
theorem Zhw(b:Nat)(l:List UInt8)(d:UInt8)(x:Bool)(s:AdS)(S:Nat→Prop)(w:World)(hl:l.length≤100000)(ha:s.at_≤l.length)(hS:∀k,S k→k<w.heap.size)(hE:Env w)(h:ARd b l x s S w)
 (z:Int) (p:Nat) (hR:ZaE x l d s=.inl (z,p)):
 Calls prog 69 #[.pointer (some ⟨b,0,none⟩),.int .u8 (d.toNat:Int)] w fun r w'=>r=.returned (.agg zA)∧∃S' ms,ARd b l x ⟨p,ms,z⟩ S' w'∧Stp S w S' w':=by
 obtain⟨w1,i⟩:∃w1,w1=w.alloc (.cells zA 45):=⟨_,rfl⟩;have f1:Fr nob w w1:=by rw[i];exact(Fr.refl _ _).alloc _
 have hz:w1.heap[w.heap.size]? =some (.cells zA 45 (0,0)):=by rw[i];exact newAt _ _
 have h1:=h.on f1;have HN:=hid (fun w'=>Zg0 l s.at_ d true w' hl ha);have v:=ZdC l d true (l.length+1) s.at_ [];unfold ZaE at hR;obtain⟨F,hF⟩:∃F,bt l d true (l.length+1) s.at_ []=F:=⟨_,rfl⟩;obtain⟨T,q,y⟩:=F;rw[hF]at HN hR v;simp only[List.length_nil,Nat.zero_add]at hR v HN;obtain⟨mv,u⟩:=h1;have r1:=Zd u.blk _ (Fr.refl _ _);have H1:=hid u;have m:=hid i;have HS:=hid hS;have F1:=hid f1;have HZ:=hid hz;have j:=hid (lt_heap hz);have HE:=hid hE;clear h u i hS f1 hz hF hE;by_cases hy:y=0
 ·subst hy;rw[if_neg (by simp)]at hR;by_cases hT:T=[]
  ·subst hT;rw[if_pos rfl]at hR;injection hR with hR;injection hR with e1 e2;subst e1;subst e2;go_enter func69,ntmps69;go_wp2_with(rw[←m.out]);refine(HN.out _).mono ?_;rintro e w2 ⟨rfl,f2⟩;have h2:=H1.out.on f2;have HF:=hid (ZaB b l x _ S 2 s.at_ w2 ⟨mv,h2⟩);have o:=hid (Stp.of f2:Stp S w1 S w2);clear h2 f2 r1;go_wp2_with fail;refine HF.out.mono ?_;rintro e w3 ⟨rfl,h3,c⟩;have st:=o.out.trans c;have a:=ZH rfl HS.out HZ.out st;have rz:=Zl a _ (Fr.refl _ _);obtain⟨p1,p2⟩:=Zad F1.out rfl j.out HS.out h3 st (.int .i64 0) (.int .i64 0) (.string ⟨#[]⟩) .nilIface;have P1:=hid p1;have P2:=hid p2;have n:=hid (setFour_heap a (.int .i64 0) (.int .i64 0) (.string ⟨#[]⟩) .nilIface);clear h3 c st a p1 p2;go_wp2;(try simp only[Exit.inBlock,Exit.then]);exact bodyPost_ret (Zo rfl rfl n.out rfl rfl rfl rfl) rfl ⟨rfl,S,_,P1.out,P2.out⟩
  ·rw[if_neg hT]at hR;have J:T.isEmpty=false:=by cases T with|nil=>exact absurd rfl hT|cons _ _=>rfl
   obtain⟨R,g⟩:∃R,Zac prg x T=R:=⟨_,rfl⟩;rw[g]at hR;cases R with
   |inr y=>cases hR
   |inl y=>
    obtain⟨y,q'⟩:=y;injection hR with hR;injection hR with e1 e2;subst e1;subst e2;have H:¬y=0:=parseD_err g;have I:(y==0)=false:=by simpa using H
    have D:=hid (fun w' (f:Fr nob w1 w')=>by have:=Zir b l T x s S w' (by omega) (HE.out.on (F1.out.trans' f)) ⟨mv,H1.out.on f⟩;rw[g]at this;exact this);clear g hT v;go_enter func69,ntmps69;go_wp2_with(rw[←m.out]);refine(HN.out _).mono ?_;rintro e w2 ⟨rfl,f2⟩;have B:=hid f2;clear f2 r1;go_wp2_with fail;refine(D.out _ B.out).mono ?_;rintro e w3 ⟨f3,rfl⟩;have t:=B.out.trans' f3;have h3:=H1.out.on t;have HF:=hid (ZaB b l x _ S y s.at_ w3 ⟨mv,h3⟩);have G:=hid (Stp.of t:Stp S w1 S w3);clear h3 f3 t;go_wp2_with fail;refine HF.out.mono ?_;rintro e w4 ⟨rfl,h4,C⟩;have st:=G.out.trans C;have A:=ZH rfl HS.out HZ.out st;have rz:=Zl A _ (Fr.refl _ _);obtain⟨p1,p2⟩:=Zad F1.out rfl j.out HS.out h4 st (.int .i64 0) (.int .i64 0) (.string ⟨#[]⟩) .nilIface;have P1:=hid p1;have P2:=hid p2;have E:=hid (setFour_heap A (.int .i64 0) (.int .i64 0) (.string ⟨#[]⟩) .nilIface)
    clear h4 C st A p1 p2;go_wp2;(try simp only[Exit.inBlock,Exit.then]);exact bodyPost_ret (Zo rfl rfl E.out rfl rfl rfl rfl) rfl ⟨rfl,S,_,P1.out,P2.out⟩
 ·rw[if_pos hy]at hR;injection hR with hR;injection hR with e1 e2;subst e1;subst e2;have I:(y==0)=false:=by simpa using hy
  go_enter func69,ntmps69;go_wp2_with(rw[←m.out]);refine(HN.out _).mono ?_;rintro e w2 ⟨rfl,f2⟩;have h2:=H1.out.on f2;have HF:=hid (ZaB b l x _ S y q w2 ⟨mv,h2⟩);have o:=hid (Stp.of f2:Stp S w1 S w2);clear h2 f2 r1;go_wp2_with fail;refine HF.out.mono ?_;rintro e w3 ⟨rfl,h3,c⟩;have st:=o.out.trans c;have a:=ZH rfl HS.out HZ.out st;have rz:=Zl a _ (Fr.refl _ _);obtain⟨p1,p2⟩:=Zad F1.out rfl j.out HS.out h3 st (.int .i64 0) (.int .i64 0) (.string ⟨#[]⟩) .nilIface;have P1:=hid p1;have P2:=hid p2;have n:=hid (setFour_heap a (.int .i64 0) (.int .i64 0) (.string ⟨#[]⟩) .nilIface);clear h3 c st a p1 p2;go_wp2;(try simp only[Exit.inBlock,Exit.then]);exact bodyPost_ret (Zo rfl rfl n.out rfl rfl rfl rfl) rfl ⟨rfl,S,_,P1.out,P2.out⟩
theorem ad_regex_ok(b:Nat)(l:List UInt8)(d:UInt8)(x:Bool)(s:AdS)(S O:Nat→Prop)(w:World)(hl:l.length≤100000)(ha:s.at_≤l.length)(hm:s.marks.length≤100000)(hs0:s.e=0)(hS:∀k,S k→k<w.heap.size)(hO:∀k,O k→k<w.heap.size)(hE:Env w)(h:ARd b l x s S w)
 (T:List UInt8) (q:Nat) (hF:bt l d true (l.length+1) s.at_ []=(T,q,0)) (hT:T≠[]) (t:Nd) (r:RxS) (hR:Zac prg x T=.inr (t,r)):
 Calls prog 69 #[.pointer (some ⟨b,0,none⟩),.int .u8 (d.toNat:Int)] w (ZkT b l x S O w (.inr (⟨3,0,T,t⟩,⟨q,s.marks++r.marks.map (shM s.at_),0⟩))):=by
 obtain⟨a,u,e0⟩:=s;obtain rfl:e0=0:=hs0;obtain⟨w1,A⟩:∃w1,w1=w.alloc (.cells zA 45):=⟨_,rfl⟩;have f1:Fr nob w w1:=by rw[A];exact(Fr.refl _ _).alloc _
 have hz:w1.heap[w.heap.size]? =some (.cells zA 45 (0,0)):=by rw[A];exact newAt _ _
 have h1:=h.on f1;have HN:=hid (fun w'=>Zg0 l a d true w' hl ha);have K:=ZdC l d true (l.length+1) a [];simp only at hF;rw[hF]at HN K;simp only[List.length_nil,Nat.zero_add]at K HN;obtain⟨mv,y⟩:=h1;have r1:=Zd y.blk _ (Fr.refl _ _);have H1:=hid y;have b5:=hid A;have HS:=hid hS;have HO:=hid hO;have F1:=hid f1;have HZ:=hid hz;have Q:=hid (lt_heap hz);have b0:=hid (fun w' (f:Fr nob w1 w')=>by have:=Zir b l T x ⟨a,u,0⟩ S w' (by omega) (hE.on (f1.trans' f)) ⟨mv,y.on f⟩;rw[hR]at this;exact this);obtain⟨Z,c2,_⟩:=parseD_marks hR;have E:∀i (h:i<r.marks.length),r.marks[i].1≤T.length:=fun i h=>Z _ (List.getElem_mem h);have R:=hid E;have c9:T.isEmpty=false:=by cases T with|nil=>exact absurd rfl hT|cons _ _=>rfl
 have c4:r.marks.length≤100000:=by omega
 have d6:T.length≤100000:=by omega
 obtain⟨RM,H⟩:∃RM,r.marks=RM:=⟨_,rfl⟩;rw[H]at R c4⊢;have b1:=hid H;simp only;have hm:u.length≤100000:=hm;have ha:a≤l.length:=ha;clear h y A hS hO f1 hz hF hE Z c2 E hR hT K H;go_enter func69,ntmps69;go_wp2_with(rw[←b5.out]);refine(HN.out _).mono ?_;rintro e w2 ⟨rfl,f2⟩;have n:=hid f2;clear f2 r1;go_wp2_with fail;refine(b0.out _ n.out).mono ?_;rintro e w3 ⟨f3,v,c8,rfl,a6,c,a1⟩;have c:OwM w3 RM c8:=by rw[←b1.out];exact c
 obtain⟨aP,cP,c3⟩:=Zb c;subst c3;have h3:=H1.out.on (n.out.trans' f3);have F3:=hid f3;have F:=hid a6;have a8:=hid c;have a9:=hid a1;have H3:=hid h3;have a7:=hid (n.out.trans' f3);clear f3 a6 c a1 h3;go_wp2_with fail
 go_loopw [58] (fun i wr=>∃(k:Nat) (N:Value) (S':Nat→Prop),i=.int .i64 k∧k≤RM.length∧Adr b l x ⟨a,u++(RM.take k).map (shM a),0⟩ S' N wr∧Stp S w3 S' wr) (fun i _=>RM.length-(intOf i).toNat)
 case atStart=>exact⟨0,mv,S,rfl,Nat.zero_le _,by simpa using H3.out,Stp.refl _ _⟩
 case round=>
  obtain⟨k,N,S',rfl,hk,hA,a4⟩:=hrel;have HA:=hid hA;have o:=hid a4;clear hA a4;by_cases J:k<RM.length
  ·have b9:=R.out k J;have z:=Zit a RM J;have c:OwM wr RM (.slice aP RM.length cP):=ownsRow_fr a8.out o.out.fr (fun j hj hx=>by have:=a9.out j hj;have:=HS.out j hx;have:=n.out.size;have:=F1.out.size;omega);obtain⟨g,d3,I,d0,c0,c1⟩:=c.get J;injection I with I hg2 hg3;subst I;subst hg3;obtain⟨m1,X⟩:∃m1,RM[k].1=m1:=⟨_,rfl⟩;obtain⟨m2,Y⟩:∃m2,RM[k].2=m2:=⟨_,rfl⟩;rw[X]at c0 b9 z;rw[Y]at c1 z;have d7:IntKind.i64.wrap ((a:Int)+(m1:Int))=((a+m1:Nat):Int):=by rw[IntWalk.i64_in _ (by omega)];omega
   have b3:=hid z;clear c z X Y hg2;obtain⟨L,hL⟩:∃L,u++(RM.take k).map (shM a)=L:=⟨_,rfl⟩;have d5:L.length≤200000:=by rw[←hL,List.length_append,List.length_map,List.length_take];omega
   have hA:=HA.out;rw[hL]at hA;obtain⟨am,cm,a0⟩:=Zb hA.ma;subst a0;obtain⟨w5,B⟩:∃w5,w5=wr.alloc (.cells #[.int .i64 (m1:Nat),.string ⟨m2.toArray⟩] 95):=⟨_,rfl⟩;have f5:Fr nob wr w5:=by rw[B];exact(Fr.refl _ _).alloc _
   have a2:w5.heap[wr.heap.size]? =some (.cells #[.int .i64 (m1:Nat),.string ⟨m2.toArray⟩] 95 (0,0)):=by rw[B];exact newAt _ _
   have G:=hA.on f5;have rb:=Zd G.blk;have rq:=Zqy a2;have P:=hid G;have b6:=hid B;have U:=hid (o.out.trans (Stp.of f5));have HL:=hid hL;obtain⟨i0,hi,c5,c6,c7⟩:=info_parts Zbv;clear hA G B f5 a2 hL;go_wp2_with(rw[←b6.out])
   go_region_law (refine step_append_g rfl (.tmp 66) (.tmp 74) 25 rfl 95 i0 (.agg #[.int .i64 0,.string ByteArray.empty]) 2 24 underlying25 hi c5 c6 c7 rfl (by decide) (.slice am L.length cm) L.length (mkC L) (by rfl) (ownsRow_fr P.out.ma (by repeat(first|exact Fr.refl _ _|apply Fr.alloc|apply Fr.drew)) (fun _ _ x=>x)) ⟨w5.heap.size,0,none⟩ 1 1 [.int .i64 ((a+m1:Nat):Int),.string ⟨m2.toArray⟩] (by rfl) rfl (Zdg (t:=m2) (by first|exact newAt0 _ _|exact Zg _ _ _ (by simp))) (Zf1 (t:=m2)) (by unfold maxLen;omega) (by omega) ?_;intro v' w6 m V;obtain⟨av,d4,rfl⟩:=Zb m;obtain⟨⟨pc,pf⟩,q1,q2⟩:=P.out.push (k:=a+m1) (t:=m2) (by repeat(first|exact Fr.refl _ _|apply Fr.alloc|apply Fr.drew)) V m;have HQ:=hid q1;have HR:=hid q2;clear m V q1 q2)
   all_goals
    go_wp2;go_roundw
    case rel=>exact⟨k+1,_,_,by go_num,by omega,by rw[b3.out,←List.append_assoc,HL.out];exact HQ.out,U.out.trans HR.out⟩
    case measure=>simp[intOf];omega
  ·obtain rfl:k=RM.length:=by omega
   have hA:=HA.out;rw[List.take_of_length_le (Nat.le_refl _)]at hA;have h5:=hA.turned 1 (.int .i64 (q:Nat)) ⟨q,u++RM.map (shM a),0⟩ (by simp) rfl;have st:=((Stp.of a7.out).trans o.out:Stp S w1 S' wr);have D:=st.trans (hA.stp 1 (.int .i64 (q:Nat)));have rA:=Zd hA.blk _ (Fr.refl _ _);obtain⟨w6,C⟩:∃w6,w6=wr.setCell ⟨b,1,none⟩ (.int .i64 (q:Nat)):=⟨_,rfl⟩;rw[←C]at h5 D;have M:=ZH rfl HS.out HZ.out D;have rz:=Zl M _ (Fr.refl _ _);obtain⟨p1,p2⟩:=Zad F1.out rfl Q.out HS.out ⟨N,h5⟩ D (.int .i64 3) (.int .i64 0) (.string ⟨T.toArray⟩) v;have d1:=F1.out.size;have d2:=n.out.size;have W:b<w2.heap.size:=by have:=H1.out.lt;omega
   have fA:Fr (fun k=>k<w2.heap.size) w3 wr:=o.out.fr.mono (fun k _ hk=>by have:=HS.out k hk;show k<_;omega);have fB:Fr (fun k=>k<w2.heap.size) w3 w6:=by rw[C];exact fA.setCell (p:=⟨b,1,none⟩) (fun _=>W) _
   have fC:Fr (fun k=>k<w2.heap.size) w3 (ZaG w6 w.heap.size (.int .i64 3) (.int .i64 0) (.string ⟨T.toArray⟩) v):=fB.trans (ZS w6 w.heap.size _ _ _ _) (fun k _ hk=>by have hk:k=_:=hk;have:=Q.out;show k<_;omega);have a3:RN (SO S' O) (ZaG w6 w.heap.size (.int .i64 3) (.int .i64 0) (.string ⟨T.toArray⟩) v) t v:=RN.keep fC (fun k _ hk=>hk) (fun k hk hx=>by
    show k<w2.heap.size;rcases hx with hx|hx
    ·have:=HS.out k (o.out.old k hk hx);omega
    ·have:=HO.out k hx;omega) t v F.out
   have a5:=F.out.one_cell;have P1:=hid p1;have P2:=hid p2;have b8:=hid (setFour_heap M (.int .i64 3) (.int .i64 0) (.string ⟨T.toArray⟩) v);have b2:=hid a3;have b4:=hid a5;have b7:=hid C;clear hA h5 st D C M p1 p2 fA fB fC a3 a5;rcases F.out.shape with rfl|⟨iv,yv,rfl⟩
   all_goals
    go_wp2_with(rw[←b7.out]);(try simp only[Exit.inBlock,Exit.then]);exact bodyPost_ret (Zo rfl rfl b8.out b4.out rfl rfl rfl) rfl ⟨_,S',rfl,⟨_,rfl,b2.out⟩,P1.out,P2.out⟩
def ZaC(x:Bool)(l:List UInt8)(second:Bool)(s:AdS):ZlK:=
 if 48≤(byt l s.at_).toNat∧(byt l s.at_).toNat≤57 then Zdj l s
 else if byt l s.at_=36 then .inr (⟨2,0,[],.nil⟩,⟨s.at_+1,s.marks,0⟩)
 else if byt l s.at_=47 then ZaE x l 47 ⟨s.at_+1,s.marks,0⟩
 else if byt l s.at_=92 then(if l.length≤s.at_+1∨byt l (s.at_+1)=92∨byt l (s.at_+1)=10 then .inl (12,s.at_)else ZaE x l (byt l (s.at_+1)) ⟨s.at_+1+1,s.marks,0⟩)
 else if byt l s.at_=43∧second=true then Zdk l s
 else .inr (AV.zero,s)
theorem ZaO{l:List UInt8}{k:Nat}(h:byt l k≠0):k<l.length:=by
 refine Nat.lt_of_not_le fun hk=>h (ZkR hk)
theorem Ziu(b:Nat)(l:List UInt8)(d:UInt8)(x:Bool)(s:AdS)(S O:Nat→Prop)(w:World)(hl:l.length≤100000)(ha:s.at_≤l.length)(hm:s.marks.length≤100000)(hs0:s.e=0)(hS:∀k,S k→k<w.heap.size)(hO:∀k,O k→k<w.heap.size)(hE:Env w)(h:ARd b l x s S w):
 Calls prog 69 #[.pointer (some ⟨b,0,none⟩),.int .u8 (d.toNat:Int)] w (ZkT b l x S O w (ZaE x l d s)):=by
 cases hR:ZaE x l d s with
 |inl z=>
  obtain⟨z,p⟩:=z;exact Zhw b l d x s S w hl ha hS hE h z p hR
 |inr q=>
  unfold ZaE at hR;split at hR
  ·cases hR
  ·next h0=>
   split at hR
   ·cases hR
   ·next hT=>
    split at hR
    ·cases hR
    ·next t r hp=>
     injection hR with hR;subst hR;exact ad_regex_ok b l d x s S O w hl ha hm hs0 hS hO hE h _ _ (by
      have h0:(bt l d true (l.length+1) s.at_ []).2.2=0:=by simpa using h0
      rw[←h0]) hT t r hp
theorem ZxP{b:Nat}{l:List UInt8}{x:Bool}{S O:Nat→Prop}{w w1 wA w3:World}{R:ZlK}{e:Ending}(f1:Fr nob w w1)(hlt:w.heap.size<w1.heap.size)(hS:∀k,S k→k<w.heap.size)(hz:w1.heap[w.heap.size]? =some (.cells zA 45 (0,0)))(st0:Stp S w1 S wA)(he:ZkT b l x S (fun k=>O k∨k=w.heap.size) wA R e w3):
 ∃a0 a1 a2 u,e=.returned (.agg #[.int .i64 a0,.int .i64 a1,.string a2,u])∧(u=.nilIface∨∃i y,u=.iface i y)∧w3.heap[w.heap.size]? =some (.cells zA 45 (0,0))∧(ZaG w3 w.heap.size (.int .i64 a0) (.int .i64 a1) (.string a2) u).heap[w.heap.size]? =some (.cells #[.int .i64 a0,.int .i64 a1,.string a2,u] 45 (0,0))∧ZkT b l x S O w R (.returned (.agg #[.int .i64 a0,.int .i64 a1,.string a2,u])) (ZaG w3 w.heap.size (.int .i64 a0) (.int .i64 a1) (.string a2) u):=by
 cases R with
 |inl q=>
  obtain⟨z,p⟩:=q;obtain⟨rfl,S',ms,hX,d⟩:=he;have st:=st0.trans d;have c:=ZH rfl hS hz st;obtain⟨p1,p2⟩:=Zad f1 rfl hlt hS hX st (.int .i64 0) (.int .i64 0) (.string ⟨#[]⟩) .nilIface;exact⟨0,0,⟨#[]⟩,.nilIface,rfl,.inl rfl,c,setFour_heap c _ _ _ _,rfl,S',_,p1,p2⟩
 |inr q=>
  obtain⟨a,s'⟩:=q;obtain⟨v,S',rfl,⟨u,rfl,f⟩,hX,d⟩:=he;have st:=st0.trans d;have c:=ZH rfl hS hz st;obtain⟨p1,p2⟩:=Zad f1 rfl hlt hS hX st (.int .i64 a.kind) (.int .i64 a.line) (.string ⟨a.text.toArray⟩) u;exact⟨a.kind,a.line,⟨a.text.toArray⟩,u,rfl,f.shape,c,setFour_heap c _ _ _ _,_,S',rfl,⟨_,rfl,RN.keep (ZS w3 w.heap.size _ _ _ _) (fun k _ hk=>.inr (.inr hk)) (fun k _ hx=>hx.elim .inl (fun y=>.inr (.inl y))) _ _ f⟩,p1,p2⟩
theorem Zal(b:Nat)(l:List UInt8)(x second:Bool)(s:AdS)(S O:Nat→Prop)(w:World)(hl:l.length≤100000)(ha:s.at_≤l.length)(hm:s.marks.length≤100000)(hs0:s.e=0)(hS:∀k,S k→k<w.heap.size)(hO:∀k,O k→k<w.heap.size)(W0:World)(hE:Env W0)(hW:Fr nob W0 w)(hSW:∀k,S k→W0.heap.size≤k)(h:ARd b l x s S w):
 Calls prog 44 #[.pointer (some ⟨b,0,none⟩),.bool second] w (ZkT b l x S O w (ZaC x l second s)):=by
 obtain⟨a,n,e0⟩:=s;obtain rfl:e0=0:=hs0;have ha:a≤l.length:=ha;have hm:n.length≤100000:=hm;obtain⟨w1,A⟩:∃w1,w1=w.alloc (.cells zA 45):=⟨_,rfl⟩;have f1:Fr nob w w1:=by rw[A];exact(Fr.refl _ _).alloc _
 have hz:w1.heap[w.heap.size]? =some (.cells zA 45 (0,0)):=by rw[A];exact newAt _ _
 have h1:=h.on f1;have hN:=Zt b l x ⟨a,n,0⟩ S w1 (by omega) h1;simp only at hN;have c0:w1.heap.size=w.heap.size+1:=by rw[A];simp
 have a7:∀(w':World),Fr nob w1 w'→∀k,S k→k<w'.heap.size:=fun w' f k hk=>by have:=hS k hk;have:=f.size;omega
 have a6:∀(w':World),Fr nob w1 w'→∀k,(O k∨k=w.heap.size)→k<w'.heap.size:=fun w' f k hk=>by
  have:=f.size;rcases hk with hk|hk
  ·have:=hO k hk;omega
  ·omega
 have a5:∀(w':World) (S':Nat→Prop),Stp S w1 S' w'→Env w':=fun w' S' st=>hE.on (st.from (hW.trans' f1) hSW);obtain⟨mv,a4⟩:=h1;have H1:=hid a4;have HN:=hid hN;have b4:=hid A;have HS:=hid hS;have F1:=hid f1;have HZ:=hid hz;have t:=hid (lt_heap hz);have C:=hid a7;have Q:=hid a6;have P:=hid a5;obtain⟨R,hR⟩:∃R,ZaC x l second ⟨a,n,0⟩=R:=⟨_,rfl⟩;rw[hR];unfold ZaC at hR;simp only at hR;clear h a4 hN A hS f1 hz hO hE hW hSW c0 a7 a6 a5;obtain⟨c,hc⟩:∃c,byt l a=c:=⟨_,rfl⟩;rw[hc]at HN hR;have HR:=hid hR;have H:=hid hc;clear hR hc;have c5:IntKind.i64.wrap ((a:Int)+1)=a+1:=IntWalk.i64_in _ (by omega);go_enter func44,ntmps44;go_wp2_with(rw[←b4.out]);refine HN.out.mono ?_;rintro e w2 ⟨rfl,f2⟩;have h2:=H1.out.on f2;have r2:=Zd h2.blk _ (Fr.refl _ _);have h3:=h2.turned 1 (.int .i64 ((a:Int)+1)) ⟨a+1,n,0⟩ (by simp) rfl;have F:=((Stp.of f2).trans (h2.stp 1 (.int .i64 ((a:Int)+1))):Stp S w1 S _)
 obtain⟨wA,D⟩:∃wA,wA=w2.setCell ⟨b,1,none⟩ (.int .i64 ((a:Int)+1)):=⟨_,rfl⟩;rw[←D]at h3 F;have B:=hid (show w2.heap.size=wA.heap.size by rw[D];simp[World.setCell]);have I:=hid D;have H2:=hid h2;have H3:=hid h3;have K:=hid F;have J:=hid (Stp.of f2:Stp S w1 S w2);have y:=hid f2;have b1:=hid (P.out wA S F);clear h2 h3 F D f2;by_cases hd:48≤c.toNat∧c.toNat≤57
 ·have hR:=HR.out;rw[if_pos hd]at hR;subst hR;have q1:(48:Int)≤(c.toNat:Int):=by omega
  have q2:(c.toNat:Int)≤57:=by omega
  have HC:=hid (Zoa b l x ⟨a,n,0⟩ S (fun k=>O k∨k=w.heap.size) w2 hl ha (C.out w2 y.out) ⟨mv,H2.out⟩);clear hd;go_wp2_with fail;refine HC.out.mono ?_;intro e w3 he;obtain⟨a0,a1,a2,u,rfl,hu,g,p,hA⟩:=ZxP F1.out t.out HS.out HZ.out J.out he;have rz:=Zl g _ (Fr.refl _ _);have i:=hid p;have HA:=hid hA;clear g p hA he;rcases hu with rfl|⟨iv,yv,rfl⟩
  all_goals
   go_wp2;(try simp only[Exit.inBlock,Exit.then]);exact bodyPost_ret (Zo rfl rfl i.out rfl rfl rfl rfl) rfl HA.out
 by_cases m:c=36
 ·have hR:=HR.out;rw[if_neg hd,if_pos m]at hR;subst hR;have X:(c.toNat:Int)=36:=by rw[m];rfl
  have q1:¬(48:Int)≤(c.toNat:Int):=by omega
  have c1:((c.toNat:Int)==36)=true:=beq_iff_eq.2 X;clear hd m X;have st:=K.out;have g:=ZH rfl HS.out HZ.out st;have rz:=Zl g _ (Fr.refl _ _);obtain⟨p1,p2⟩:=Zad F1.out rfl t.out HS.out ⟨mv,H3.out⟩ st (.int .i64 2) (.int .i64 0) (.string ⟨#[]⟩) .nilIface;have P1:=hid p1;have P2:=hid p2;have i:=hid (setFour_heap g (.int .i64 2) (.int .i64 0) (.string ⟨#[]⟩) .nilIface);clear st g p1 p2;go_wp2_with(rw[←I.out]);(try simp only[Exit.inBlock,Exit.then]);exact bodyPost_ret (Zo rfl rfl i.out rfl rfl rfl rfl) rfl ⟨_,S,rfl,ZkS.nil 2 0 [],P1.out,P2.out⟩
 have c1:((c.toNat:Int)==36)=false:=Zn m;by_cases j:c=47
 ·have z:a<l.length:=ZaO (by rw[H.out,j];decide);have HC:=hid (Ziu b l 47 x ⟨a+1,n,0⟩ S (fun k=>O k∨k=w.heap.size) wA hl (by show a+1≤_;omega) hm rfl (fun k hk=>by have:=C.out w2 y.out k hk;have:=B.out;omega) (fun k hk=>by have:=Q.out w2 y.out k hk;have:=B.out;omega) b1.out ⟨mv,H3.out⟩);have hR:=HR.out;rw[if_neg hd,if_neg m,if_pos j,←j]at hR;subst hR;rw[←j]at HC;have Z:(c.toNat:Int)=47:=by rw[j];rfl
  have q1:¬(48:Int)≤(c.toNat:Int):=by omega
  have c2:((c.toNat:Int)==47)=true:=beq_iff_eq.2 Z;clear hd m j Z z;go_wp2_with(rw[←I.out]);refine HC.out.mono ?_;intro e w3 he;obtain⟨a0,a1,a2,u,rfl,hu,g,p,hA⟩:=ZxP F1.out t.out HS.out HZ.out K.out he;have rz:=Zl g _ (Fr.refl _ _);have i:=hid p;have HA:=hid hA;clear g p hA he;rcases hu with rfl|⟨iv,yv,rfl⟩
  all_goals
   go_wp2;(try simp only[Exit.inBlock,Exit.then]);exact bodyPost_ret (Zo rfl rfl i.out rfl rfl rfl rfl) rfl HA.out
 have c2:((c.toNat:Int)==47)=false:=Zn j;by_cases r:c=92
 ·have z:a<l.length:=ZaO (by rw[H.out,r];decide);have c4:IntKind.i64.wrap ((a:Int)+1+1)=a+1+1:=IntWalk.i64_in _ (by omega);obtain⟨d,L⟩:∃d,byt l (a+1)=d:=⟨_,rfl⟩;have M:=Zt b l x ⟨a+1,n,0⟩ S wA (by omega) ⟨mv,H3.out⟩;rw[show(AdS.mk (a+1) n 0).at_=a+1 from rfl,L]at M;have b3:=hid M;have hR:=HR.out;rw[if_neg hd,if_neg m,if_neg j,if_pos r,L]at hR;have U:=hid hR;have a3:(c.toNat:Int)=92:=by rw[r];rfl
  have q1:(48:Int)≤(c.toNat:Int):=by omega
  have q2:¬(c.toNat:Int)≤57:=by omega
  have c3:((c.toNat:Int)==92)=true:=beq_iff_eq.2 a3;clear hd m j r a3 M hR L;go_wp2_with(rw[←I.out]);refine b3.out.mono ?_;rintro e w3 ⟨rfl,f3⟩;have h4:=H3.out.on f3;have r4:=Zd h4.blk _ (Fr.refl _ _);have H4:=hid h4;have W:=hid (K.out.trans (Stp.of f3));have V:=hid f3.size;clear h4 f3 r2;by_cases o:l.length≤a+1∨d=92∨d=10
  ·have hR:=U.out;rw[if_pos o]at hR;subst hR;have b2:=hid (ZaB b l x _ S 12 a w3 ⟨mv,H4.out⟩);have N:=hid o;clear o
   go_upto_region 14 with(fail)
   go_cut [74] (fun v w'=>v=.bool true∧w'=w3)
   case first=>
    by_cases b7:l.length≤a+1
    ·have q1:(l.length:Int)≤(a:Int)+1:=by omega
     go_wp2;go_meet
     case rel=>exact⟨rfl,rfl⟩
    ·have q1:¬(l.length:Int)≤(a:Int)+1:=by omega
     have b8:d=92∨d=10:=N.out.resolve_left b7;rcases b8 with rfl|rfl
     all_goals
      go_wp2;go_meet
      case rel=>exact⟨rfl,rfl⟩
   case rest=>
   obtain⟨rfl,rfl⟩:=hcut;go_wp2_with fail;refine b2.out.mono ?_;rintro e w4 ⟨rfl,hX,a9⟩;have st:=W.out.trans a9;have g:=ZH rfl HS.out HZ.out st;have rz:=Zl g _ (Fr.refl _ _);obtain⟨p1,p2⟩:=Zad F1.out rfl t.out HS.out hX st (.int .i64 0) (.int .i64 0) (.string ⟨#[]⟩) .nilIface;have P1:=hid p1;have P2:=hid p2;have i:=hid (setFour_heap g (.int .i64 0) (.int .i64 0) (.string ⟨#[]⟩) .nilIface);clear hX a9 st g p1 p2;go_wp2;(try simp only[Exit.inBlock,Exit.then]);exact bodyPost_ret (Zo rfl rfl i.out rfl rfl rfl rfl) rfl ⟨rfl,S,_,P1.out,P2.out⟩
  ·have hR:=U.out;rw[if_neg o]at hR;subst hR;have q3:¬(l.length:Int)≤(a:Int)+1:=by omega
   have q4:((d.toNat:Int)==92)=false:=Zn fun h=>o (.inr (.inl h));have q5:((d.toNat:Int)==10)=false:=Zn fun h=>o (.inr (.inr h));have h5:=H4.out.turned 1 (.int .i64 ((a:Int)+1+1)) ⟨a+1+1,n,0⟩ (by simp) rfl;have G:=(W.out.trans (H4.out.stp 1 (.int .i64 ((a:Int)+1+1))):Stp S w1 S _);obtain⟨wB,E⟩:∃wB,wB=w3.setCell ⟨b,1,none⟩ (.int .i64 ((a:Int)+1+1)):=⟨_,rfl⟩;rw[←E]at h5 G;have b5:=hid E;have b6:=hid G;have b9:w3.heap.size=wB.heap.size:=by rw[E];simp[World.setCell]
   have b0:=hid (Ziu b l d x ⟨a+1+1,n,0⟩ S (fun k=>O k∨k=w.heap.size) wB hl (by show a+1+1≤_;omega) hm rfl (fun k hk=>by have:=C.out w2 y.out k hk;have:=B.out;have:=V.out;omega) (fun k hk=>by have:=Q.out w2 y.out k hk;have:=B.out;have:=V.out;omega) (P.out wB S G) ⟨mv,h5⟩);clear h5 G E b9 o;go_wp2_with(rw[←b5.out]);refine b0.out.mono ?_;intro e w4 he;obtain⟨a0,a1,a2,u,rfl,hu,g,p,hA⟩:=ZxP F1.out t.out HS.out HZ.out b6.out he;have rz:=Zl g _ (Fr.refl _ _);have i:=hid p;have HA:=hid hA;clear g p hA he;rcases hu with rfl|⟨iv,yv,rfl⟩
   all_goals
    go_wp2;(try simp only[Exit.inBlock,Exit.then]);exact bodyPost_ret (Zo rfl rfl i.out rfl rfl rfl rfl) rfl HA.out
 have c3:((c.toNat:Int)==92)=false:=Zn r;by_cases q:c=43∧second=true
 ·obtain⟨q,rfl⟩:=q;have z:a<l.length:=ZaO (by rw[H.out,q];decide);have HC:=hid (Zob b l x ⟨a,n,0⟩ S (fun k=>O k∨k=w.heap.size) w2 hl z (by show n.length≤_;omega) (C.out w2 y.out) ⟨mv,H2.out⟩);have hR:=HR.out;rw[if_neg hd,if_neg m,if_neg j,if_neg r,if_pos ⟨q,rfl⟩]at hR;subst hR;have Y:(c.toNat:Int)=43:=by rw[q];rfl
  have q1:¬(48:Int)≤(c.toNat:Int):=by omega
  have a8:((c.toNat:Int)==43)=true:=beq_iff_eq.2 Y;clear hd m j r q Y z;go_wp2_with fail;refine HC.out.mono ?_;intro e w3 he;obtain⟨a0,a1,a2,u,rfl,hu,g,p,hA⟩:=ZxP F1.out t.out HS.out HZ.out J.out he;have rz:=Zl g _ (Fr.refl _ _);have i:=hid p;have HA:=hid hA;clear g p hA he;rcases hu with rfl|⟨iv,yv,rfl⟩
  all_goals
   go_wp2;(try simp only[Exit.inBlock,Exit.then]);exact bodyPost_ret (Zo rfl rfl i.out rfl rfl rfl rfl) rfl HA.out
 have hR:=HR.out;rw[if_neg hd,if_neg m,if_neg j,if_neg r,if_neg q]at hR;subst hR;have q2:(48:Int)≤(c.toNat:Int)→¬(c.toNat:Int)≤57:=fun _ _=>hd (by omega);have hq:(((c.toNat:Int)==43)=true∧second=false)∨((c.toNat:Int)==43)=false:=by
  by_cases h:c=43
  ·exact .inl ⟨by rw[h];rfl,by simpa using fun e=>q ⟨h,e⟩⟩
  ·exact .inr (Zn h)
 have Q2:=hid q2;clear q2 hd m j r q;rcases hq with⟨a8,rfl⟩|a8
 all_goals
  by_cases q1:(48:Int)≤(c.toNat:Int)
  all_goals
   (try have q2:=Q2.out q1);have st:=J.out;have g:=ZH rfl HS.out HZ.out st;have rz:=Zl g _ (Fr.refl _ _);obtain⟨p1,p2⟩:=Zad F1.out rfl t.out HS.out ⟨mv,H2.out⟩ st (.int .i64 0) (.int .i64 0) (.string ⟨#[]⟩) .nilIface;have P1:=hid p1;have P2:=hid p2;have i:=hid (setFour_heap g (.int .i64 0) (.int .i64 0) (.string ⟨#[]⟩) .nilIface);clear st g p1 p2;go_wp2;(try simp only[Exit.inBlock,Exit.then]);exact bodyPost_ret (Zo rfl rfl i.out rfl rfl rfl rfl) rfl ⟨_,S,rfl,ZkS.nil 0 0 [],P1.out,P2.out⟩
structure GV where
 a:AV
 b:AV
 no:Bool
abbrev ZpG:=(Int×Nat)⊕(GV×AdS)
def Zbc(x:Bool)(l:List UInt8)(s:AdS):ZlK:=
 if byt l (bhd l [32,9] s.at_)=44 then
  (match ZaC x l true ⟨bhd l [32,9] (bhd l [32,9] s.at_+1),s.marks,0⟩with
  | .inl e=>.inl e
  | .inr (a,s')=>if a.kind=0 then .inl (12,s'.at_)else .inr (a,s'))
 else .inr (AV.zero,⟨bhd l [32,9] s.at_,s.marks,0⟩)
def ZgT(l:List UInt8)(a b:AV)(s:AdS):ZpG:=
 if byt l (bhd l [32,9] s.at_)=33 then
  (if byt l (bhd l [32,9] (bhd l [32,9] s.at_+1))=33 then .inl (15,bhd l [32,9] (bhd l [32,9] s.at_+1))
  else .inr (⟨a,b,true⟩,⟨bhd l [32,9] (bhd l [32,9] s.at_+1),s.marks,0⟩))
 else .inr (⟨a,b,false⟩,⟨bhd l [32,9] s.at_,s.marks,0⟩)
def ZX(x:Bool)(l:List UInt8)(s:AdS):ZpG:=
 match ZaC x l false s with
 | .inl e=>.inl e
 | .inr (a,s1)=>
   match(if a.kind=0 then .inr (AV.zero,s1)else Zbc x l s1:ZlK)with
   | .inl e=>.inl e
   | .inr (b,s2)=>ZgT l a b s2
theorem ZkV(at_:Nat):∀(r:List UInt8) (n c:Nat),(nm at_ r n c).2.1≤at_+c+r.length
 |[],n,c=>by rw[nm];split<;>simp
 |b::r,n,c=>by
  have ih:=ZkV at_ r (n*10+(b.toNat-48)) (c+1);rw[nm];split
  ·split
   ·simp;omega
   ·simp only[List.length_cons];omega
  ·split<;>simp<;>omega
theorem bt_in(l:List UInt8)(d:UInt8)(rx:Bool):∀(n k:Nat) (out:List UInt8),(bt l d rx n k out).2.2=0→(bt l d rx n k out).2.1≤l.length
 |0,k,out=>by simp[bt]
 |n+1,k,out=>by
  rw[bt];cases hc:l[k]? with
  |none=>simp
  |some c=>
   have hk:=(List.getElem?_eq_some_iff.1 hc).1;simp only;split
   ·intro _;exact hk
   ·split
    ·split
     ·exact bt_in l d rx n _ _
     ·next h=>intro h';exact absurd h' h
    ·generalize(if c=91∧rx=true then brE l k-k else 1)=m;split
     ·exact bt_in l d rx n _ _
     ·intro h;cases h
theorem bhd_le(l cs:List UInt8)(k:Nat):bhd l cs k≤l.length:=Nat.sub_le _ _
theorem ZkW{l:List UInt8}{s:AdS}{z:Int×Nat}(h:Zdj l s=.inl z):z.1≠0:=by
 unfold Zdj at h;split at h
 ·next h0=>injection h with h;subst h;exact h0
 ·split at h
  ·injection h with h;subst h;intro e;cases e
  ·cases h
theorem moreD_err{l:List UInt8}{s:AdS}{z:Int×Nat}(h:Zdk l s=.inl z):z.1≠0:=by
 unfold Zdk at h;split at h
 ·next h0=>injection h with h;subst h;exact h0
 ·cases h
theorem regexD_err{x:Bool}{l:List UInt8}{d:UInt8}{s:AdS}{z:Int×Nat}(h:ZaE x l d s=.inl z):z.1≠0:=by
 unfold ZaE at h;split at h
 ·next h0=>injection h with h;subst h;exact h0
 ·split at h
  ·injection h with h;subst h;intro e;cases e
  ·split at h
   ·next y hp=>injection h with h;subst h;show y.1≠0;exact parseD_err hp
   ·cases h
theorem addrD_err{x:Bool}{l:List UInt8}{sec:Bool}{s:AdS}{z:Int×Nat}(h:ZaC x l sec s=.inl z):z.1≠0:=by
 unfold ZaC at h;split at h
 ·exact ZkW h
 ·split at h
  ·cases h
  ·split at h
   ·exact regexD_err h
   ·split at h
    ·split at h
     ·injection h with h;subst h;intro e;cases e
     ·exact regexD_err h
    ·split at h
     ·exact moreD_err h
     ·cases h
structure Fwd(l:List UInt8)(s s':AdS):Prop where
 le:s'.at_≤l.length
 mks:s'.marks.length≤s.marks.length+l.length+1
 ok:s'.e=0
theorem Zmz{l:List UInt8}{s s':AdS}{a:AV}(hs:s.at_≤l.length)(h:Zdj l s=.inr (a,s')):Fwd l s s':=by
 unfold Zdj at h;split at h
 ·cases h
 ·split at h
  ·cases h
  ·injection h with h;injection h with h1 h2;subst h2;have:=ZkV s.at_ (l.drop s.at_) 0 0;rw[List.length_drop]at this;exact⟨by show(nm s.at_ (l.drop s.at_) 0 0).2.1≤_;omega,by show s.marks.length≤_;omega,rfl⟩
theorem ZmA{l:List UInt8}{s s':AdS}{a:AV}(hs:s.at_+1≤l.length)(h:Zdk l s=.inr (a,s')):Fwd l s s':=by
 unfold Zdk at h;split at h
 ·cases h
 ·injection h with h;injection h with h1 h2;subst h2;have:=ZkV (s.at_+1) (l.drop (s.at_+1)) 0 0;rw[List.length_drop]at this;exact⟨by show(nm (s.at_+1) (l.drop (s.at_+1)) 0 0).2.1≤_;omega,by show(s.marks++_).length≤_;rw[List.length_append];simp,rfl⟩
theorem Zgk{x:Bool}{l:List UInt8}{d:UInt8}{s s':AdS}{a:AV}(h:ZaE x l d s=.inr (a,s')):Fwd l s s':=by
 unfold ZaE at h;split at h
 ·cases h
 ·next h0=>
  split at h
  ·cases h
  ·split at h
   ·cases h
   ·next t r hp=>
    injection h with h;injection h with h1 h2;subst h2;have h0:(bt l d true (l.length+1) s.at_ []).2.2=0:=by simpa using h0
    have h1:=bt_in l d true (l.length+1) s.at_ [] h0;have h2:=ZdC l d true (l.length+1) s.at_ [];have h3:=(parseD_marks hp).2.1;simp only[List.length_nil,Nat.zero_add]at h2;exact⟨h1,by show(s.marks++_).length≤_;rw[List.length_append,List.length_map];omega,rfl⟩
theorem Zam{x:Bool}{l:List UInt8}{sec:Bool}{s s':AdS}{a:AV}(hs:s.at_≤l.length)(hs0:s.e=0)(h:ZaC x l sec s=.inr (a,s')):Fwd l s s':=by
 unfold ZaC at h;split at h
 ·exact Zmz hs h
 ·split at h
  ·next hc=>
   injection h with h;injection h with h1 h2;subst h2;have:=ZaO (l:=l) (k:=s.at_) (by rw[hc];decide);exact⟨this,by show s.marks.length≤_;omega,rfl⟩
  ·split at h
   ·have:=Zgk h;exact⟨this.le,this.mks,this.ok⟩
   ·split at h
    ·split at h
     ·cases h
     ·have:=Zgk h;exact⟨this.le,this.mks,this.ok⟩
    ·split at h
     ·next hc=>
      have:=ZaO (l:=l) (k:=s.at_) (by rw[hc.1];decide);exact ZmA this h
     ·injection h with h;injection h with h1 h2;subst h2;exact⟨hs,by omega,hs0⟩
theorem pairD_err{x:Bool}{l:List UInt8}{s:AdS}{z:Int×Nat}(h:Zbc x l s=.inl z):z.1≠0:=by
 unfold Zbc at h;split at h
 ·split at h
  ·next y hp=>injection h with h;subst h;exact addrD_err hp
  ·split at h
   ·injection h with h;subst h;intro e;cases e
   ·cases h
 ·cases h
theorem pairD_in{x:Bool}{l:List UInt8}{s s':AdS}{a:AV}(h:Zbc x l s=.inr (a,s')):Fwd l s s':=by
 unfold Zbc at h;split at h
 ·split at h
  ·cases h
  ·next b s1 hp=>
   split at h
   ·cases h
   ·injection h with h;injection h with h1 h2;subst h2;have:=Zam (bhd_le _ _ _) rfl hp;exact⟨this.le,this.mks,this.ok⟩
 ·injection h with h;injection h with h1 h2;subst h2;exact⟨bhd_le _ _ _,by show s.marks.length≤_;omega,rfl⟩
abbrev zG:Array Value:= #[.int .i64 0,.int .i64 0,.string ⟨#[]⟩,.nilIface,.int .i64 0,.int .i64 0,.string ⟨#[]⟩,.nilIface,.bool false]
abbrev Zqb(w:World)(g:Nat)(v0 v1 v2 v3:Value):World:=(((w.setCell ⟨g,4,none⟩ v0).setCell ⟨g,5,none⟩ v1).setCell ⟨g,6,none⟩ v2).setCell ⟨g,7,none⟩ v3
theorem Zgl{w:World}{g:Nat}{a0 a1 a2 a3 a4 a5 a6 a7 a8:Value}{T:TypeId}{fr:Nat×Nat}(h:w.heap[g]? =some (.cells #[a0,a1,a2,a3,a4,a5,a6,a7,a8] T fr))(v0 v1 v2 v3:Value):
 (Zqb w g v0 v1 v2 v3).heap[g]? =some (.cells #[a0,a1,a2,a3,v0,v1,v2,v3,a8] T fr):=by
 have h0:=Za h 4 v0;have h1:=Za h0 5 v1;have h2:=Za h1 6 v2;have h3:=Za h2 7 v3;simpa using h3
theorem ZdM(w:World)(g:Nat)(v0 v1 v2 v3:Value):Fr (fun k=>k=g) w (Zqb w g v0 v1 v2 v3):=by
 have h:∀(x:World) (j:Nat) (v:Value),Fr (fun k=>k=g) w x→Fr (fun k=>k=g) w (x.setCell ⟨g,j,none⟩ v):=fun x j v hx=>hx.setCell (p:=⟨g,j,none⟩) (fun _=>rfl) v;exact h _ _ _ (h _ _ _ (h _ _ _ (h _ _ _ (Fr.refl _ _))))
theorem Zk{w:World}{b:Nat}{v0 v1 v2 v3 v4 v5 v6 v7 v8:Value}{T:TypeId}(h:w.heap[b]? =some (.cells #[v0,v1,v2,v3,v4,v5,v6,v7,v8] T (0,0))):∀w',Fr nob w w'→
 (w'.cell? ⟨b,0,none⟩=some v0∧w'.cell? ⟨b,1,none⟩=some v1∧w'.cell? ⟨b,2,none⟩=some v2∧w'.cell? ⟨b,3,none⟩=some v3∧w'.cell? ⟨b,4,none⟩=some v4∧w'.cell? ⟨b,5,none⟩=some v5∧w'.cell? ⟨b,6,none⟩=some v6∧w'.cell? ⟨b,7,none⟩=some v7∧w'.cell? ⟨b,8,none⟩=some v8)∧
 (w'.frozen? ⟨b,0,none⟩=false∧w'.frozen? ⟨b,1,none⟩=false∧w'.frozen? ⟨b,2,none⟩=false∧w'.frozen? ⟨b,3,none⟩=false∧w'.frozen? ⟨b,4,none⟩=false∧w'.frozen? ⟨b,5,none⟩=false∧w'.frozen? ⟨b,6,none⟩=false∧w'.frozen? ⟨b,7,none⟩=false∧w'.frozen? ⟨b,8,none⟩=false):=fun _ f=>by
 have h':=f.heap h (fun x=>x);exact⟨⟨cell_at h' rfl,cell_at h' rfl,cell_at h' rfl,cell_at h' rfl,cell_at h' rfl,cell_at h' rfl,cell_at h' rfl,cell_at h' rfl,cell_at h' rfl⟩,ZF h' _,ZF h' _,ZF h' _,ZF h' _,ZF h' _,ZF h' _,ZF h' _,ZF h' _,ZF h' _⟩
def GS(S:Nat→Prop)(g:Nat):Nat→Prop:=fun k=>S k∨k=g
section
variable {S S':Nat→Prop} {g:Nat} {w w' wX:World}
theorem Stp.gs(h:Stp S w S' w')(hg:g<w.heap.size):Stp (GS S g) w (GS S' g) w':=
 ⟨h.fr.mono (fun _ _ x=>.inl x),fun k hk hx=>hx.elim (fun y=>.inl (h.old k hk y)) .inr,fun hl k hx=>by
  rcases hx with hx|hx
  ·exact h.lt (fun j hj=>hl j (.inl hj)) k hx
  ·subst hx;exact Nat.lt_of_lt_of_le hg h.fr.size⟩
theorem Stp.gset(h:Stp (GS S g) w (GS S' g) wX)(v0 v1 v2 v3:Value):Stp (GS S g) w (GS S' g) (Zqb wX g v0 v1 v2 v3):=
 ⟨h.fr.trans (ZdM wX g v0 v1 v2 v3) (fun k hk hx=>by have hx:k=g:=hx;exact .inr hx),h.old,fun hl k hk=>by have:=h.lt hl k hk;simpa[World.setCell]using this⟩
theorem ARd.gset{b:Nat}{l:List UInt8}{x:Bool}{s:AdS}(h:ARd b l x s S w)(hg:¬S g)(v0 v1 v2 v3:Value):ARd b l x s S (Zqb w g v0 v1 v2 v3):=by
 obtain⟨mv,h⟩:=h;exact⟨mv,h.keep (ZdM w g v0 v1 v2 v3) (fun e=>hg (e▸h.me)) (fun k hk e=>hg (e▸(h.nm k hk).2))⟩
end
def Zoc(b:Nat)(l:List UInt8)(x:Bool)(S O:Nat→Prop)(g:Nat)(k0 n0:Int)(t0:List UInt8)(u0:Value)(w:World)(R:ZlK)(r:Ending)(w':World):Prop:=r=.returned (.tuple #[])∧match R with
 | .inl (z,p)=>∃S' ms,ARd b l x ⟨p,ms,z⟩ S' w'∧¬S' g∧Stp (GS S g) w (GS S' g) w'
 | .inr (a,s')=>∃S' u,ARd b l x s' S' w'∧¬S' g∧Stp (GS S g) w (GS S' g) w'∧
   w'.heap[g]? =some (.cells #[.int .i64 k0,.int .i64 n0,.string ⟨t0.toArray⟩,u0,.int .i64 a.kind,.int .i64 a.line,.string ⟨a.text.toArray⟩,u,.bool false] 47 (0,0))∧RN (SO S' (GS O g)) w' a.tree u
theorem Zfo(b:Nat)(l:List UInt8)(x:Bool)(s:AdS)(S O:Nat→Prop)(g:Nat)(k0 n0:Int)(t0:List UInt8)(u0:Value)(w:World)(hl:l.length≤100000)(ha:s.at_≤l.length)(hm:s.marks.length≤100000)(hs0:s.e=0)(hS:∀k,S k→k<w.heap.size)(hO:∀k,O k→k<w.heap.size)(W0:World)(hE:Env W0)(hW:Fr nob W0 w)(hSW:∀k,S k→W0.heap.size≤k)(h:ARd b l x s S w)
 (hgS:¬S g) (hg:w.heap[g]? =some (.cells #[.int .i64 k0,.int .i64 n0,.string ⟨t0.toArray⟩,u0,.int .i64 0,.int .i64 0,.string ⟨#[]⟩,.nilIface,.bool false] 47 (0,0))):
 Calls prog 63 #[.pointer (some ⟨b,0,none⟩),.pointer (some ⟨g,0,none⟩)] w (Zoc b l x S O g k0 n0 t0 u0 w (Zbc x l s)):=by
 obtain⟨G,f,e0⟩:=s;obtain rfl:e0=0:=hs0;have ha:G≤l.length:=ha;have hm:f.length≤100000:=hm;have B:=lt_heap hg;have HB:=hid (Zi b l x ⟨G,f,0⟩ S w hl ha h);obtain⟨Q,hQ⟩:∃Q,Zbc x l ⟨G,f,0⟩=Q:=⟨_,rfl⟩;rw[hQ];unfold Zbc at hQ;simp only at HB hQ;obtain⟨p1,U⟩:∃p1,bhd l [32,9] G=p1:=⟨_,rfl⟩;have c5:p1≤l.length:=by rw[←U];exact bhd_le _ _ _
 rw[U]at HB hQ;have HG:=hid hg;have E:=hid hgS;have v:=hid B;have HS:=hid hS;have HO:=hid hO;have HE:=hid hE;have HW:=hid hW;have a6:=hid hSW;have a1:=hid (fun(S':Nat→Prop) w' (st:Stp S w S' w')=>show¬S' g from fun hx=>hgS (st.old g B hx));have N:=hid (fun w' (h:ARd b l x ⟨p1,f,0⟩ S w')=>Zt b l x ⟨p1,f,0⟩ S w' (by omega) h);clear h U hg hgS B hS hO hE hW hSW;obtain⟨c,hc⟩:∃c,byt l p1=c:=⟨_,rfl⟩;simp only at N;rw[hc]at N hQ;have HQ:=hid hQ;have HC:=hid hc;clear hQ hc;go_enter func63,ntmps63;go_wp2_with fail;refine HB.out.mono ?_;rintro e w1 ⟨rfl,h1,b1⟩;have b8:=hid (N.out w1 h1);have H1:=hid h1;have a7:=hid b1;clear h1 b1;go_wp2_with fail;refine b8.out.mono ?_;rintro e w2 ⟨rfl,f2⟩;by_cases n:c=44
 ·have hQ:=HQ.out;rw[if_pos n]at hQ;have c3:((c.toNat:Int)==44)=true:=by rw[n];rfl
  have c6:p1<l.length:=ZaO (by rw[HC.out,n];decide);have c8:IntKind.i64.wrap ((p1:Int)+1)=p1+1:=IntWalk.i64_in _ (by omega);have M:=hid (fun w' (h:ARd b l x ⟨p1+1,f,0⟩ S w')=>Zi b l x ⟨p1+1,f,0⟩ S w' hl (by show p1+1≤_;omega) h);simp only at M;obtain⟨p2,V⟩:∃p2,bhd l [32,9] (p1+1)=p2:=⟨_,rfl⟩;have L:p2≤l.length:=by rw[←V];exact bhd_le _ _ _
  rw[V]at M hQ;have Y:=hid (fun w' (hS':∀k,S k→k<w'.heap.size) (hO':∀k,GS O g k→k<w'.heap.size) (hW':Fr nob W0 w') (h:ARd b l x ⟨p2,f,0⟩ S w')=>Zal b l x true ⟨p2,f,0⟩ S (GS O g) w' hl L hm rfl hS' hO' W0 HE.out hW' a6.out h);obtain⟨R,hR⟩:∃R,ZaC x l true ⟨p2,f,0⟩=R:=⟨_,rfl⟩;rw[hR]at Y hQ;have t:∀a s',R=.inr (a,s')→s'.e=0∧s'.at_≤l.length:=fun a s' e=>by
   have:=Zam (s:=⟨p2,f,0⟩) L rfl (hR.trans e);exact⟨this.ok,this.le⟩
  have r:∀z p,R=.inl (z,p)→z≠0:=fun z p e=>addrD_err (hR.trans e);have a3:=hid hQ;have a2:=hid t;have a0:=hid r;clear V hR n hQ t r;obtain⟨mv,h2⟩:=H1.out.on f2;have r2:=Zd h2.blk _ (Fr.refl _ _);have h3:=h2.turned 1 (.int .i64 ((p1:Int)+1)) ⟨p1+1,f,0⟩ (by simp) rfl;have X:=(a7.out.trans (Stp.of f2)).trans (h2.stp 1 (.int .i64 ((p1:Int)+1)));obtain⟨wA,W⟩:∃wA,wA=w2.setCell ⟨b,1,none⟩ (.int .i64 ((p1:Int)+1)):=⟨_,rfl⟩;rw[←W]at h3 X;have c0:=hid W;have b5:=hid (M.out wA ⟨mv,h3⟩);have c1:=hid X;clear h2 h3 X W f2;go_wp2_with(rw[←c0.out]);refine b5.out.mono ?_;rintro e w4 ⟨rfl,h4,b2⟩;have st:=c1.out.trans b2;have c2:=st.fr.size;have Z:=hid (Y.out w4 (fun k hk=>by have:=HS.out k hk;omega) (fun k hk=>by rcases hk with hk|hk;have:=HO.out k hk;omega;have:=v.out;omega) (st.from HW.out a6.out) h4);have ST:=hid st;clear h4 b2 st c2 r2;go_wp2_with fail
  refine Z.out.mono ?_;intro e w5 he;have hQ:=a3.out;have t:=a2.out;have r:=a0.out;clear HQ a3 a2 a0 HC;cases R with
  |inl q=>
   obtain⟨z,p⟩:=q;have hz:¬z=0:=r z p rfl;have c9:(z==0)=false:=by simpa using hz
   clear r t;simp only at hQ;subst hQ;obtain⟨rfl,S',ms,h5,u⟩:=he;have st:=ST.out.trans u;have m:=a1.out S' w5 st;have o:=st.fr.heap HG.out E.out;have rg:=Zk o _ (Fr.refl _ _);have h6:=h5.gset m (.int .i64 0) (.int .i64 0) (.string ⟨#[]⟩) .nilIface;have i:=(st.gs v.out).gset (.int .i64 0) (.int .i64 0) (.string ⟨#[]⟩) .nilIface;obtain⟨w6,d⟩:∃w6,w6=(((w5.setCell ⟨g,4,none⟩ (.int .i64 0)).setCell ⟨g,5,none⟩ (.int .i64 0)).setCell ⟨g,6,none⟩ (.string ⟨#[]⟩)).setCell ⟨g,7,none⟩ .nilIface:=⟨_,rfl⟩;have h6:ARd b l x ⟨p,ms,z⟩ S' w6:=by rw[d];exact h6
   have i:Stp (GS S g) w (GS S' g) w6:=by rw[d];exact i
   obtain⟨J,j⟩:=h6;have r6:=Zd j.blk _ (Fr.refl _ _);have F:=hid d;have H6:=hid j;have y:=hid i;have D:=hid m;clear u st h5 j i d o m;go_wp2_with(rw[←F.out])
   go_end0
   exact⟨rfl,S',ms,⟨J,H6.out⟩,D.out,y.out⟩
  |inr q=>
   obtain⟨A,s'⟩:=q;obtain⟨P,b0,e1⟩:=s';obtain⟨a8,K⟩:=t A _ rfl;obtain rfl:e1=0:=a8;have K:P≤l.length:=K;clear r t;simp only at hQ;obtain⟨v5,S',rfl,⟨u5,rfl,I⟩,h5,u⟩:=he;have st:=ST.out.trans u;have m:=a1.out S' w5 st;have o:=st.fr.heap HG.out E.out;have rg:=Zk o _ (Fr.refl _ _);have h6:=h5.gset m (.int .i64 A.kind) (.int .i64 A.line) (.string ⟨A.text.toArray⟩) u5;have i:=(st.gs v.out).gset (.int .i64 A.kind) (.int .i64 A.line) (.string ⟨A.text.toArray⟩) u5;obtain⟨w6,d⟩:∃w6,w6=(((w5.setCell ⟨g,4,none⟩ (.int .i64 A.kind)).setCell ⟨g,5,none⟩ (.int .i64 A.line)).setCell ⟨g,6,none⟩ (.string ⟨A.text.toArray⟩)).setCell ⟨g,7,none⟩ u5:=⟨_,rfl⟩;have h6:ARd b l x ⟨P,b0,0⟩ S' w6:=by rw[d];exact h6
   have i:Stp (GS S g) w (GS S' g) w6:=by rw[d];exact i
   have H:w6.heap[g]? =some (.cells #[.int .i64 k0,.int .i64 n0,.string ⟨t0.toArray⟩,u0,.int .i64 A.kind,.int .i64 A.line,.string ⟨A.text.toArray⟩,u5,.bool false] 47 (0,0)):=by rw[d];exact Zgl o (.int .i64 A.kind) (.int .i64 A.line) (.string ⟨A.text.toArray⟩) u5
   have C:RN (SO S' (GS O g)) w6 A.tree u5:=by rw[d];exact RN.keep (ZdM w5 g _ _ _ _) (fun k _ hk=>.inr (.inr hk)) (fun k _ hx=>hx) _ _ I
   obtain⟨J,j⟩:=h6;have r6:=Zd j.blk _ (Fr.refl _ _);have c4:=Zk H _ (Fr.refl _ _);have F:=hid d;have H6:=hid j;have y:=hid i;have D:=hid m;have b7:=hid H;have b9:=hid C;have a9:=I.shape;by_cases hk:A.kind=0
   ·rw[if_pos hk]at hQ;subst hQ;rw[hk]at c4;have b6:=hid (ZaB b l x _ S' 12 P w6 ⟨J,j⟩);clear u st h5 j i d o m H I C hk;rcases a9 with rfl|⟨iv,yv,rfl⟩
    all_goals
     go_wp2_with(rw[←F.out]);refine b6.out.mono ?_;rintro e w7 ⟨rfl,h7,b3⟩;have b4:=y.out.trans (b3.gs (by have:=y.out.fr.size;have:=v.out;omega));have a5:=hid b4;have H7:=hid h7;clear h7 b3 b4;go_wp2
     go_end0
     exact⟨rfl,S',b0,H7.out,D.out,a5.out⟩
   ·rw[if_neg hk]at hQ;subst hQ;have c7:(A.kind==0)=false:=by simpa using hk
    clear u st h5 j i d o m H I C hk;rcases a9 with rfl|⟨iv,yv,rfl⟩
    all_goals
     go_wp2_with(rw[←F.out])
     go_end0
     exact⟨rfl,S',_,⟨J,H6.out⟩,D.out,y.out,b7.out,b9.out⟩
 ·have hQ:=HQ.out;rw[if_neg n]at hQ;subst hQ;have c3:((c.toNat:Int)==44)=false:=Zn n;clear n;have a4:=hid (a7.out.trans (Stp.of f2));have H2:=hid (H1.out.on f2);clear f2;go_wp2;exact bodyPost_ret (results_none rfl _ _ _) rfl ⟨rfl,S,.nilIface,H2.out,E.out,a4.out.gs v.out,a4.out.fr.heap HG.out E.out,by show RN _ w2 .nil .nilIface;rw[RN]⟩
end Go.Proofs.YtgllcniibbaoaaaGreatDoor
