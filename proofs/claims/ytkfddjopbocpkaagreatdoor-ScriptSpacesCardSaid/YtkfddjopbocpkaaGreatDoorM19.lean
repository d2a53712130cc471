/- Lemmas of this claim. -/
import Derived.Test.YtkfddjopbocpkaaGreatDoorM17
import Derived.Test.YtkfddjopbocpkaaGreatDoorM18
set_option linter.unusedVariables false
set_option linter.unusedSimpArgs false
set_option maxRecDepth 100000
set_option maxHeartbeats 4000000
namespace Go.Proofs.YtkfddjopbocpkaaGreatDoor
open Go.Lib (hid)
open Go.RowKit
structure AdS where
 at_:Nat
 marks:List (Nat×List UInt8)
 e:Int
structure Adr(b:Nat)(l:List UInt8)(x:Bool)(s:AdS)(S:Nat→Prop)(mv:Value)(w:World):Prop where
 blk:w.heap[b]? =some (.cells #[.string ⟨l.toArray⟩,.int .i64 s.at_,.bool x,mv,.int .i64 s.e] 116 (0,0))
 ma:OwM w s.marks mv
 nm:∀k,mv.ownBlock=some k→k≠b∧S k
 me:S b
def ARd(b:Nat)(l:List UInt8)(x:Bool)(s:AdS)(S:Nat→Prop)(w:World):Prop:=∃mv,Adr b l x s S mv w
section
variable {b:Nat} {l:List UInt8} {x:Bool} {s:AdS} {S:Nat→Prop} {mv:Value} {w w':World}
theorem Adr.keep{X:Nat→Prop}(h:Adr b l x s S mv w)(f:Fr X w w')(hb:¬X b)(hm:∀k,mv.ownBlock=some k→¬X k):Adr b l x s S mv w':=
 ⟨f.heap h.blk hb,ownsRow_fr h.ma f hm,h.nm,h.me⟩
theorem Adr.on(h:Adr b l x s S mv w)(f:Fr nob w w'):Adr b l x s S mv w':=h.keep f (fun x=>x) (fun _ _ x=>x)
theorem ARd.on(h:ARd b l x s S w)(f:Fr nob w w'):ARd b l x s S w':=by obtain⟨mv,h⟩:=h;exact⟨mv,h.on f⟩
theorem Adr.lt(h:Adr b l x s S mv w):b<w.heap.size:=lt_heap h.blk
theorem Adr.turned(h:Adr b l x s S mv w)(j:Nat)(u:Value)(s':AdS)
 (hj:(#[.string ⟨l.toArray⟩,.int .i64 s.at_,.bool x,mv,.int .i64 s.e]:Array Value).setIfInBounds j u= #[.string ⟨l.toArray⟩,.int .i64 s'.at_,.bool x,mv,.int .i64 s'.e]) (hm:s'.marks=s.marks):
 Adr b l x s' S mv (w.setCell ⟨b,j,none⟩ u):=by
 have hf:=(Fr.refl (fun k=>k=b) w).setCell (p:=⟨b,j,none⟩) (fun _=>rfl) u;have hb:=Za h.blk j u;rw[hj]at hb;exact⟨hb,by rw[hm];exact ownsRow_fr h.ma hf (fun k hk e=>(h.nm k hk).1 e),h.nm,h.me⟩
theorem Adr.stp(h:Adr b l x s S mv w)(j:Nat)(u:Value):Stp S w S (w.setCell ⟨b,j,none⟩ u):=
 ⟨(Fr.refl S w).setCell (p:=⟨b,j,none⟩) (fun _=>h.me) u,fun _ _ x=>x,fun hl k hk=>by have:=hl k hk;simpa[World.setCell]using this⟩
end
abbrev zA:Array Value:= #[.int .i64 0,.int .i64 0,.string ⟨#[]⟩,.nilIface]
theorem Zo{fn:Func}{p:Tmp}(h:fn.results= #[.cell p 28]){tmps:Array Value}{r:Nat}(ht:tmps.getD p undef=.pointer (some ⟨r,0,none⟩)){W:World}{a0 a1 a2 a3:Value}
 (hb:W.heap[r]? =some (.cells #[a0,a1,a2,a3] 28 (0,0))) (h3:a3.oneCell'=true) (h0:a0.oneCell'=true) (h1:a1.oneCell'=true) (h2:a2.oneCell'=true):(results fn tmps).run Tryz.prog W=.ok (.agg #[a0,a1,a2,a3]) W:=by
 have c0:=cell_at (j:=0) hb rfl;have c1:=cell_at (j:=1) hb rfl;have c2:=cell_at (j:=2) hb rfl;have c3:=cell_at (j:=3) hb rfl;have ht':tmps[p]?.getD undef=.pointer (some ⟨r,0,none⟩):=by rw[←ht];simp
 simp only[results,h];simp[ht',go_sem,c0,c1,c2,c3]
theorem Zhv{S:Nat→Prop}{w w':World}{r:Nat}(h:Stp S w S w')(hr:w.heap.size≤r)(v0 v1 v2 v3:Value):Stp S w S (ZaG w' r v0 v1 v2 v3):=
 ⟨setFour_frS h.fr hr _ _ _ _,fun k hk hS=>hS,fun hl k hk=>by have:=h.lt hl k hk;simpa[World.setCell]using this⟩
theorem ZaB(b:Nat)(l:List UInt8)(x:Bool)(s:AdS)(S:Nat→Prop)(e:Int)(p:Nat)(w:World)(h:ARd b l x s S w):
 Calls Tryz.prog 87 #[.pointer (some ⟨b,0,none⟩),.int .i64 e,.int .i64 (p:Nat)] w fun r w'=>
  r=.returned (.agg zA)∧ARd b l x ⟨p,s.marks,e⟩ S w'∧Stp S w S w':=by
 obtain⟨mv,h⟩:=h;obtain⟨w1,hw1⟩:∃w1,w1=w.alloc (.cells zA 28):=⟨_,rfl⟩;have f1:Fr nob w w1:=by rw[hw1];exact(Fr.refl _ _).alloc _
 have hz:w1.heap[w.heap.size]? =some (.cells zA 28 (0,0)):=by rw[hw1];exact newAt _ _
 have hlt:=h.lt;have hml:=own_lt h.ma;have h1:=h.on f1;have h2:=h1.turned 4 (.int .i64 e) ⟨s.at_,s.marks,e⟩ (by simp) rfl;have h3:=h2.turned 1 (.int .i64 (p:Nat)) ⟨p,s.marks,e⟩ (by simp) rfl;have st:=((Stp.of f1).trans ((h1.stp 4 (.int .i64 e)).trans (h2.stp 1 (.int .i64 (p:Nat)))));have r1:=Zd h1.blk _ (Fr.refl _ _);have r2:=Zd h2.blk _ (Fr.refl _ _);have hz3:=Zc (p:=⟨b,1,none⟩) (Zc (p:=⟨b,4,none⟩) hz (by show w.heap.size≠b;omega) (.int .i64 e)) (by show w.heap.size≠b;omega) (.int .i64 (p:Nat));have rz:=Zl hz3;have hz4:=setFour_heap hz3 (.int .i64 0) (.int .i64 0) (.string ⟨#[]⟩) .nilIface;have h4:=h3.keep (ZS _ w.heap.size (.int .i64 0) (.int .i64 0) (.string ⟨#[]⟩) .nilIface) (by show¬b=_;omega) (fun k hk e=>by have:=hml k hk;have e:k=_:=e;omega);have st4:=Zhv st (Nat.le_refl _) (.int .i64 0) (.int .i64 0) (.string ⟨#[]⟩) .nilIface;have H4:=hid h4;have ST4:=hid st4;have HZ4:=hid hz4;have HW1:=hid hw1
 clear h h1 h2 h3 st h4 st4 hz hz3 hz4 f1 hw1 hml hlt;go_enter Tryz.func87,Tryz.ntmps87;go_wp2_with(rw[←HW1.out]);(try simp only[Exit.inBlock,Exit.then]);exact bodyPost_ret (Zo rfl rfl HZ4.out rfl rfl rfl rfl) rfl ⟨rfl,⟨mv,H4.out⟩,ST4.out⟩
def byt(l:List UInt8)(k:Nat):UInt8:=(l[k]?).getD 0
theorem ZkQ{l:List UInt8}{k:Nat}(h:k<l.length):byt l k=l[k]:=by unfold byt;rw[List.getElem?_eq_getElem h];rfl
theorem ZkR{l:List UInt8}{k:Nat}(h:l.length≤k):byt l k=0:=by unfold byt;rw[List.getElem?_eq_none h];rfl
theorem Zt(b:Nat)(l:List UInt8)(x:Bool)(s:AdS)(S:Nat→Prop)(w:World)(hl:l.length≤1000000)(h:ARd b l x s S w):
 Calls Tryz.prog 86 #[.pointer (some ⟨b,0,none⟩)] w fun r w'=>r=.returned (.int .u8 ((byt l s.at_).toNat:Int))∧Fr nob w w':=by
 obtain⟨mv,h⟩:=h;have rr:=Zd h.blk;clear h;obtain⟨p,hp⟩:∃p,s.at_=p:=⟨_,rfl⟩;rw[hp]at rr⊢;clear hp;by_cases hin:p<l.length
 ·have h1:¬(l.length:Int)≤(p:Int):=by omega
  rw[ZkQ hin];go_enter Tryz.func86,Tryz.ntmps86;go_wp2_with fail;refine region_fr 9 (by kernel_rfl) (by kernel_rfl) ?_;simp only[List.take_succ_cons,List.take_zero,List.drop_succ_cons,List.drop_zero]
  repeat(quiet_step (fail))
  refine wpQuiet_nil ?_;intro wC fC;go_wp2_with fail;refine region_fr 8 (by kernel_rfl) (by kernel_rfl) ?_;simp only[List.take_succ_cons,List.take_zero,List.drop_succ_cons,List.drop_zero]
  repeat(quiet_step (fail))
  refine wpQuiet_nil ?_;intro wD fD;go_wp2;go_ret;exact⟨rfl,fC.trans' fD⟩
 ·have h1:(l.length:Int)≤(p:Int):=by omega
  rw[ZkR (by omega)];go_enter Tryz.func86,Tryz.ntmps86;go_wp2_with fail;refine region_fr 9 (by kernel_rfl) (by kernel_rfl) ?_;simp only[List.take_succ_cons,List.take_zero,List.drop_succ_cons,List.drop_zero]
  repeat(quiet_step (fail))
  refine wpQuiet_nil ?_;intro wC fC;go_wp2;go_ret;exact⟨rfl,fC⟩
theorem Zgj(b:Nat)(l:List UInt8)(x:Bool)(s:AdS)(S:Nat→Prop)(w:World)(hl:l.length≤100000)(ha:s.at_≤l.length)(h:ARd b l x s S w):
 Calls Tryz.prog 146 #[.pointer (some ⟨b,0,none⟩)] w fun r w'=>
  r=.returned (.int .i64 ((nm s.at_ (l.drop s.at_) 0 0).1:Nat))∧ARd b l x ⟨(nm s.at_ (l.drop s.at_) 0 0).2.1,s.marks,(nm s.at_ (l.drop s.at_) 0 0).2.2⟩ S w'∧Stp S w S w':=by
 obtain⟨mv,h⟩:=h;have rr:=Zd h.blk;have HN:=hid (fun w'=>Zc4 l s.at_ w' hl ha);obtain⟨F,hF⟩:∃F,nm s.at_ (l.drop s.at_) 0 0=F:=⟨_,rfl⟩;obtain⟨n,q,z⟩:=F;rw[hF]at HN⊢;have H:=hid h;clear h hF;go_enter Tryz.func146,Tryz.ntmps146;go_wp2_with fail;refine region_fr 15 (by kernel_rfl) (by kernel_rfl) ?_;simp only[List.take_succ_cons,List.take_zero,List.drop_succ_cons,List.drop_zero]
 repeat(quiet_step (with_reducible exact calls_fr (HN.out _)))
 refine wpQuiet_nil ?_;intro wC fC;have h1:=H.out.on fC;have h2:=h1.turned 1 (.int .i64 (q:Nat)) ⟨q,s.marks,s.e⟩ (by simp) rfl;have h3:=h2.turned 4 (.int .i64 z) ⟨q,s.marks,z⟩ (by simp) rfl;have st:=((Stp.of fC).trans ((h1.stp 1 (.int .i64 (q:Nat))).trans (h2.stp 4 (.int .i64 z))):Stp S w S _);have r1:=Zd h1.blk _ (Fr.refl _ _);have r2:=Zd h2.blk _ (Fr.refl _ _);have H3:=hid h3;have ST:=hid st;clear h1 h2 h3 st rr;go_wp2;go_ret;exact⟨rfl,⟨mv,H3.out⟩,ST.out⟩
theorem Zi(b:Nat)(l:List UInt8)(x:Bool)(s:AdS)(S:Nat→Prop)(w:World)(hl:l.length≤100000)(ha:s.at_≤l.length)(h:ARd b l x s S w):
 Calls Tryz.prog 85 #[.pointer (some ⟨b,0,none⟩)] w fun r w'=>
  r=.returned (.tuple #[])∧ARd b l x ⟨bhd l [32,9] s.at_,s.marks,s.e⟩ S w'∧Stp S w S w':=by
 obtain⟨mv,h⟩:=h;have rr:=Zd h.blk;have HN:=hid (fun w'=>by
  have:=ZeK l (s.at_:Int) w' (by omega);rw[if_neg (by omega),Int.toNat_natCast]at this;exact this)
 obtain⟨q,hq⟩:∃q,bhd l [32,9] s.at_=q:=⟨_,rfl⟩;rw[hq]at HN⊢;have H:=hid h;clear h hq;go_enter Tryz.func85,Tryz.ntmps85;go_wp2_with fail;refine region_fr 10 (by kernel_rfl) (by kernel_rfl) ?_;simp only[List.take_succ_cons,List.take_zero,List.drop_succ_cons,List.drop_zero]
 repeat(quiet_step (with_reducible exact calls_fr (HN.out _)))
 refine wpQuiet_nil ?_;intro wC fC;have h1:=H.out.on fC;have h2:=h1.turned 1 (.int .i64 (q:Nat)) ⟨q,s.marks,s.e⟩ (by simp) rfl;have st:=((Stp.of fC).trans (h1.stp 1 (.int .i64 (q:Nat))):Stp S w S _);have r1:=Zd h1.blk _ (Fr.refl _ _);have H2:=hid h2;have ST:=hid st;clear h1 h2 st rr;go_wp2
 go_end0
 exact⟨rfl,⟨mv,H2.out⟩,ST.out⟩
theorem Zir(b:Nat)(l t:List UInt8)(x:Bool)(s:AdS)(S:Nat→Prop)(w:World)(ht:t.length≤100000)(hE:Env w)(h:ARd b l x s S w):
 Calls Tryz.prog 148 #[.pointer (some ⟨b,0,none⟩),.string ⟨t.toArray⟩] w (EreAnsO (Zac prg x t) w):=by
 obtain⟨mv,h⟩:=h;have rr:=Zd h.blk _ (Fr.refl nob w);clear h;obtain⟨R,hR⟩:∃R,Zac prg x t=R:=⟨_,rfl⟩;rw[hR];have HP:=hid (show(x=true→Calls Tryz.prog 178 #[.string ⟨t.toArray⟩] w (EreAnsO R w))∧(x=false→Calls Tryz.prog 179 #[.string ⟨t.toArray⟩] w (BreAnsO R w))from
  ⟨fun hx=>by have:=ZeI t w ht hE;rw[hx]at hR;rw[hR]at this;exact this,fun hx=>by have:=ZeE t w ht hE;rw[←ZfM]at this;rw[hx]at hR;rw[hR]at this;exact this⟩)
 clear hE hR;cases x with
 |true=>
  have HQ:=hid (HP.out.1 rfl);clear HP;go_enter Tryz.func148,Tryz.ntmps148;go_wp2_with fail;refine HQ.out.mono ?_;intro e w1 he;cases R with
  |inl z=>
   obtain⟨z,p⟩:=z;obtain⟨f1,rfl⟩:=he;clear rr;go_wp2;exact bodyPost_ret (results_tmp4 rfl _ _ _) rfl ⟨f1,rfl⟩
  |inr z=>
   obtain⟨n,r⟩:=z;obtain⟨f1,v,mv,rfl,hr⟩:=he;have HR:=hid hr;clear rr hr;go_wp2;exact bodyPost_ret (results_tmp4 rfl _ _ _) rfl ⟨f1,v,mv,rfl,HR.out⟩
 |false=>
  have HQ:=hid (HP.out.2 rfl);clear HP;go_enter Tryz.func148,Tryz.ntmps148;go_wp2_with fail;refine HQ.out.mono ?_;intro e w1 he;cases R with
  |inl z=>
   obtain⟨z,p⟩:=z;obtain⟨f1,rfl⟩:=he;clear rr;go_wp2;exact bodyPost_ret (results_tmp4 rfl _ _ _) rfl ⟨f1,rfl⟩
  |inr z=>
   obtain⟨n,r⟩:=z;obtain⟨f1,i,y,mv,rfl,hr⟩:=he;have HR:=hid hr;clear rr hr;go_wp2;exact bodyPost_ret (results_tmp4 rfl _ _ _) rfl ⟨f1,_,mv,rfl,HR.out⟩
structure AV where
 kind:Int
 line:Int
 text:List UInt8
 tree:Nd
def AV.zero:AV:=⟨0,0,[],.nil⟩
def ZkS(S:Nat→Prop)(w:World)(a:AV)(v:Value):Prop:=∃u,v=.agg #[.int .i64 a.kind,.int .i64 a.line,.string ⟨a.text.toArray⟩,u]∧RN S w a.tree u
abbrev ZlK:=(Int×Nat)⊕(AV×AdS)
def ZkT(b:Nat)(l:List UInt8)(x:Bool)(S O:Nat→Prop)(w:World)(R:ZlK)(r:Ending)(w':World):Prop:=match R with
 | .inl (z,p)=>r=.returned (.agg zA)∧∃S' ms,ARd b l x ⟨p,ms,z⟩ S' w'∧Stp S w S' w'
 | .inr (a,s')=>∃v S',r=.returned v∧ZkS (SO S' O) w' a v∧ARd b l x s' S' w'∧Stp S w S' w'
theorem ZkS.nil{S:Nat→Prop}{w:World}(k n:Int)(t:List UInt8):ZkS S w ⟨k,n,t,.nil⟩ (.agg #[.int .i64 k,.int .i64 n,.string ⟨t.toArray⟩,.nilIface]):=⟨.nilIface,rfl,by rw[RN]⟩
theorem RN.one_cell{S:Nat→Prop}{w:World}{t:Nd}{u:Value}(h:RN S w t u):u.oneCell'=true:=by
 rcases h.shape with rfl|⟨i,x,rfl⟩<;>rfl
section
variable {b:Nat} {l:List UInt8} {x:Bool} {s:AdS} {S S':Nat→Prop} {mv v':Value} {w w1 wX W0 w3:World} {r:Nat}
theorem Adr.push(h:Adr b l x s S mv w)(f:Fr nob w W0)(hap:Appd 1 mv v' W0 w3){k:Nat}{t:List UInt8}
 (hown:w3.ownsRow 0 55 2 v' (s.marks.length+1) (mkC s.marks++[.int .i64 k,.string ⟨t.toArray⟩])):
 (w3.cell? ⟨b,3,none⟩=some mv∧w3.frozen? ⟨b,3,none⟩=false)∧Adr b l x ⟨s.at_,s.marks++[(k,t)],s.e⟩ (Zf0 S v') v' (w3.setCell ⟨b,3,none⟩ v')∧Stp S w (Zf0 S v') (w3.setCell ⟨b,3,none⟩ v'):=by
 have h0:=h.on f;have hblk:=hap.fr.heap h0.blk (fun e=>(h.nm b e).1 rfl);have hsz:=f.size;have hb:=lt_heap h.blk;have hst:=(Fr.refl (fun k=>k=b) w3).setCell (p:=⟨b,3,none⟩) (fun _=>rfl) v';have hnb:v'.ownBlock≠some b:=fun e=>by
  rcases hap.old b e with h1|h1
  ·exact(h.nm b h1).1 rfl
  ·omega
 refine⟨⟨cell_at hblk rfl,unfrozen_at hblk 3⟩,⟨by have:=Za hblk 3 v';simpa using this,?_,fun k hk=>⟨fun e=>hnb (by rw[←e];exact hk),.inr hk⟩,.inl h.me⟩,?_,?_,?_⟩
 ·have:=ownsRow_fr hown hst (fun k hk e=>hnb (by rw[←e];exact hk));unfold OwM;simp only[List.length_append,List.length_singleton,Zch];exact this
 ·exact(f.any.trans (hap.fr.mono (T:=S) fun k _ hk=>(h.nm k hk).2) (fun _ _ x=>x)).setCell (p:=⟨b,3,none⟩) (fun _=>h.me) v'
 ·intro k hk hx;rcases hx with hx|hx
  ·exact hx
  ·rcases hap.old k hx with h1|h1
   ·exact(h.nm k h1).2
   ·omega
 ·intro hl k hk;have hz:(w3.setCell ⟨b,3,none⟩ v').heap.size=w3.heap.size:=by simp[World.setCell]
  rw[hz];rcases hk with hk|hk
  ·have:=hl k hk;have:=hap.fr.size;omega
  ·exact own_lt hown k hk
theorem Zad(f1:Fr nob w w1)(hr:r=w.heap.size)(hr1:r<w1.heap.size)(hS:∀k,S k→k<w.heap.size)(hA:ARd b l x s S' wX)(st:Stp S w1 S' wX)(v0 v1 v2 v3:Value):
 ARd b l x s S' (ZaG wX r v0 v1 v2 v3)∧Stp S w S' (ZaG wX r v0 v1 v2 v3):=by
 obtain⟨mv,hA⟩:=hA;have hn:¬S' r:=fun hx=>by have:=hS r (st.old r hr1 hx);omega
 refine⟨⟨mv,hA.keep (ZS wX r v0 v1 v2 v3) (fun e=>hn (e▸hA.me)) (fun k hk e=>hn (e▸(hA.nm k hk).2))⟩,?_⟩;have s1:Stp S w S' wX:=(Stp.of f1).trans st;exact⟨setFour_frS s1.fr (by omega) _ _ _ _,s1.old,fun hl k hk=>by have:=s1.lt hl k hk;simpa[World.setCell]using this⟩
theorem ZH(hr:r=w.heap.size)(hS:∀k,S k→k<w.heap.size)(hz:w1.heap[r]? =some (.cells zA 28 (0,0)))(st:Stp S w1 S' wX):wX.heap[r]? =some (.cells zA 28 (0,0)):=
 st.fr.heap hz (fun h=>by have:=hS r h;omega)
end
def Zdj(l:List UInt8)(s:AdS):ZlK:=
 if(nm s.at_ (l.drop s.at_) 0 0).2.2≠0 then .inl ((nm s.at_ (l.drop s.at_) 0 0).2.2,(nm s.at_ (l.drop s.at_) 0 0).2.1)
 else if(nm s.at_ (l.drop s.at_) 0 0).1=0 then .inl (12,s.at_)
 else .inr (⟨1,((nm s.at_ (l.drop s.at_) 0 0).1:Nat),[],.nil⟩,⟨(nm s.at_ (l.drop s.at_) 0 0).2.1,s.marks,0⟩)
def moreD(l:List UInt8)(s:AdS):ZlK:=
 if(nm (s.at_+1) (l.drop (s.at_+1)) 0 0).2.2≠0 then .inl ((nm (s.at_+1) (l.drop (s.at_+1)) 0 0).2.2,(nm (s.at_+1) (l.drop (s.at_+1)) 0 0).2.1)
 else .inr (⟨4,((nm (s.at_+1) (l.drop (s.at_+1)) 0 0).1:Nat),[],.nil⟩,⟨(nm (s.at_+1) (l.drop (s.at_+1)) 0 0).2.1,s.marks++[(s.at_,[43])],0⟩)
theorem Zoa(b:Nat)(l:List UInt8)(x:Bool)(s:AdS)(S O:Nat→Prop)(w:World)(hl:l.length≤100000)(ha:s.at_≤l.length)(hS:∀k,S k→k<w.heap.size)(h:ARd b l x s S w):
 Calls Tryz.prog 110 #[.pointer (some ⟨b,0,none⟩)] w (ZkT b l x S O w (Zdj l s)):=by
 obtain⟨w1,hw1⟩:∃w1,w1=w.alloc (.cells zA 28):=⟨_,rfl⟩;have f1:Fr nob w w1:=by rw[hw1];exact(Fr.refl _ _).alloc _
 have hz:w1.heap[w.heap.size]? =some (.cells zA 28 (0,0)):=by rw[hw1];exact newAt _ _
 have h1:=h.on f1;have hN:=Zgj b l x s S w1 hl ha h1;unfold Zdj;obtain⟨F,hF⟩:∃F,nm s.at_ (l.drop s.at_) 0 0=F:=⟨_,rfl⟩;obtain⟨n,q,z⟩:=F;rw[hF]at hN⊢;simp only at hN⊢;obtain⟨mv,h1'⟩:=h1;have r1:=Zd h1'.blk _ (Fr.refl _ _);have HN:=hid hN;have HW1:=hid hw1;have HS:=hid hS;have F1:=hid f1;have HZ:=hid hz;have HLT:=hid (lt_heap hz);clear h h1' hN hw1 hS f1 hz hF;by_cases hz0:z=0
 ·subst hz0;rw[if_neg (by simp)];by_cases hn:n=0
  ·subst hn;rw[if_pos rfl];go_enter Tryz.func110,Tryz.ntmps110;go_wp2_with(rw[←HW1.out]);refine HN.out.mono ?_;rintro e w2 ⟨rfl,⟨mv2,h2⟩,st2⟩;have r2:=Zd h2.blk _ (Fr.refl _ _);have hz2:=ZH rfl HS.out HZ.out st2;have rz:=Zl hz2 _ (Fr.refl _ _);have hFl:=ZaB b l x _ S 12 s.at_ w2 ⟨mv2,h2⟩;have HF:=hid hFl;have ST2:=hid st2;clear h2 st2 hz2 rz hFl;go_wp2_with fail;refine HF.out.mono ?_;rintro e w3 ⟨rfl,h3,st3⟩;have st:=ST2.out.trans st3;have hz3:=ZH rfl HS.out HZ.out st;have rz:=Zl hz3 _ (Fr.refl _ _);obtain⟨p1,p2⟩:=Zad F1.out rfl HLT.out HS.out h3 st (.int .i64 0) (.int .i64 0) (.string ⟨#[]⟩) .nilIface;have P1:=hid p1;have P2:=hid p2;have HZ4:=hid (setFour_heap hz3 (.int .i64 0) (.int .i64 0) (.string ⟨#[]⟩) .nilIface);clear h3 st3 st hz3 p1 p2 r1 r2;go_wp2;(try simp only[Exit.inBlock,Exit.then]);exact bodyPost_ret (Zo rfl rfl HZ4.out rfl rfl rfl rfl) rfl ⟨rfl,S,_,P1.out,P2.out⟩
  ·rw[if_neg hn];have hn':¬(n:Int)=0:=by omega
   go_enter Tryz.func110,Tryz.ntmps110;go_wp2_with(rw[←HW1.out]);refine HN.out.mono ?_;rintro e w2 ⟨rfl,⟨mv2,h2⟩,st2⟩;have r2:=Zd h2.blk _ (Fr.refl _ _);have hz2:=ZH rfl HS.out HZ.out st2;have rz:=Zl hz2 _ (Fr.refl _ _);obtain⟨p1,p2⟩:=Zad F1.out rfl HLT.out HS.out ⟨mv2,h2⟩ st2 (.int .i64 1) (.int .i64 (n:Nat)) (.string ⟨#[]⟩) .nilIface;have P1:=hid p1;have P2:=hid p2;have HZ4:=hid (setFour_heap hz2 (.int .i64 1) (.int .i64 (n:Nat)) (.string ⟨#[]⟩) .nilIface);clear h2 st2 hz2 p1 p2 r1 hn;go_wp2;(try simp only[Exit.inBlock,Exit.then]);exact bodyPost_ret (Zo rfl rfl HZ4.out rfl rfl rfl rfl) rfl ⟨_,S,rfl,ZkS.nil 1 (n:Nat) [],P1.out,P2.out⟩
 ·rw[if_pos hz0];go_enter Tryz.func110,Tryz.ntmps110;go_wp2_with(rw[←HW1.out]);refine HN.out.mono ?_;rintro e w2 ⟨rfl,⟨mv2,h2⟩,st2⟩;have r2:=Zd h2.blk _ (Fr.refl _ _);have hz2:=ZH rfl HS.out HZ.out st2;have rz:=Zl hz2 _ (Fr.refl _ _);obtain⟨p1,p2⟩:=Zad F1.out rfl HLT.out HS.out ⟨mv2,h2⟩ st2 (.int .i64 0) (.int .i64 0) (.string ⟨#[]⟩) .nilIface;have P1:=hid p1;have P2:=hid p2;have HZ4:=hid (setFour_heap hz2 (.int .i64 0) (.int .i64 0) (.string ⟨#[]⟩) .nilIface);clear h2 st2 hz2 p1 p2 r1;go_wp2;(try simp only[Exit.inBlock,Exit.then]);exact bodyPost_ret (Zo rfl rfl HZ4.out rfl rfl rfl rfl) rfl ⟨rfl,S,_,P1.out,P2.out⟩
theorem Zob(b:Nat)(l:List UInt8)(x:Bool)(s:AdS)(S O:Nat→Prop)(w:World)(hl:l.length≤100000)(ha:s.at_<l.length)(hm:s.marks.length≤1000000)(hS:∀k,S k→k<w.heap.size)(h:ARd b l x s S w):
 Calls Tryz.prog 112 #[.pointer (some ⟨b,0,none⟩)] w (ZkT b l x S O w (moreD l s)):=by
 obtain⟨w1,hw1⟩:∃w1,w1=w.alloc (.cells zA 28):=⟨_,rfl⟩;have f1:Fr nob w w1:=by rw[hw1];exact(Fr.refl _ _).alloc _
 have hz:w1.heap[w.heap.size]? =some (.cells zA 28 (0,0)):=by rw[hw1];exact newAt _ _
 obtain⟨mv,h⟩:=h;have h1:=h.on f1;have h2:=h1.turned 1 (.int .i64 ((s.at_:Int)+1)) ⟨s.at_+1,s.marks,s.e⟩ (by simp) rfl;have st12:=h1.stp 1 (.int .i64 ((s.at_:Int)+1));obtain⟨w2,hw2⟩:∃w2,w2=w1.setCell ⟨b,1,none⟩ (.int .i64 ((s.at_:Int)+1)):=⟨_,rfl⟩;rw[←hw2]at h2 st12;have hN:=Zgj b l x _ S w2 hl (show s.at_+1≤l.length by omega) ⟨mv,h2⟩;have hwr:IntKind.i64.wrap ((s.at_:Int)+1)=s.at_+1:=IntWalk.i64_in _ (by omega);unfold moreD;simp only at hN;obtain⟨F,hF⟩:∃F,nm (s.at_+1) (l.drop (s.at_+1)) 0 0=F:=⟨_,rfl⟩;obtain⟨n,q,z⟩:=F;rw[hF]at hN⊢;simp only at hN⊢;have r1:=Zd h1.blk _ (Fr.refl _ _);have HN:=hid hN;have HW1:=hid hw1;have HW2:=hid hw2;have HS:=hid hS;have F1:=hid f1;have HZ:=hid hz;have ST12:=hid st12;have HLT:=hid (lt_heap hz);clear h h1 h2 hN hw1 hw2 hS f1 hz hF st12;by_cases hz0:z=0
 ·subst hz0;rw[if_neg (by simp)];go_enter Tryz.func112,Tryz.ntmps112;go_wp2_with(first|rw[←HW1.out]|rw[←HW2.out]);refine HN.out.mono ?_;rintro e w3 ⟨rfl,⟨mv3,h3⟩,st3⟩;have st:=ST12.out.trans st3;have r3:=Zd h3.blk _ (Fr.refl _ _);have hz3:=ZH rfl HS.out HZ.out st;have rz:=Zl hz3 _ (Fr.refl _ _);obtain⟨a3,c3,rfl⟩:=Zb h3.ma;obtain⟨i0,hi,hz0,hz1,hz2⟩:=info_parts Zbv;have H3:=hid h3;have ST:=hid st;have rr:=Zd h3.blk;clear h3 st3 st r1 rz;go_wp2_with(at_builtin;refine wpList_append_g rfl _ _ 36 rfl 55 i0 (.agg #[.int .i64 0,.string ByteArray.empty]) 2 24 Tryz.underlying36 hi hz0 hz1 hz2 rfl (by decide) _ _ _ rfl (ownsRow_fr H3.out.ma ((Fr.refl nob w3).alloc _) (fun _ _ x=>x)) ⟨w3.heap.size,0,none⟩ 1 1 [.int .i64 (s.at_:Nat),.string ⟨#[43]⟩] rfl rfl ?c1 ?c2 ?c3 ?c4 ?_)
  case c1=>exact Zdg (t:=[43]) (newAt0 w3 _)
  case c2=>exact Zf1 (t:=[43])
  case c3=>unfold maxLen;show s.marks.length+1≤_;omega
  case c4=>show(s.marks.length+1)*24≤_;omega
  intro v' w4 hown' hap;obtain⟨av,cv4,rfl⟩:=Zb hown';obtain⟨⟨pc,pf⟩,h5,st5⟩:=H3.out.push ((Fr.refl nob w3).alloc _) hap (k:=s.at_) (t:=[43]) hown';have st:=ST.out.trans st5;have hz5:=ZH rfl HS.out HZ.out st;have rz:=Zl hz5 _ (Fr.refl _ _);obtain⟨p1,p2⟩:=Zad F1.out rfl HLT.out HS.out ⟨_,h5⟩ st (.int .i64 4) (.int .i64 (n:Nat)) (.string ⟨#[]⟩) .nilIface;have P1:=hid p1;have P2:=hid p2;have HZ6:=hid (setFour_heap hz5 (.int .i64 4) (.int .i64 (n:Nat)) (.string ⟨#[]⟩) .nilIface);clear hown' hap h5 st5 st hz5 p1 p2 rr r3;go_wp2;(try simp only[Exit.inBlock,Exit.then]);exact bodyPost_ret (Zo rfl rfl HZ6.out rfl rfl rfl rfl) rfl ⟨_,_,rfl,ZkS.nil 4 (n:Nat) [],P1.out,P2.out⟩
 ·rw[if_pos hz0];go_enter Tryz.func112,Tryz.ntmps112;go_wp2_with(first|rw[←HW1.out]|rw[←HW2.out]);refine HN.out.mono ?_;rintro e w3 ⟨rfl,⟨mv3,h3⟩,st3⟩;have st:=ST12.out.trans st3;have r3:=Zd h3.blk _ (Fr.refl _ _);have hz3:=ZH rfl HS.out HZ.out st;have rz:=Zl hz3 _ (Fr.refl _ _);obtain⟨p1,p2⟩:=Zad F1.out rfl HLT.out HS.out ⟨mv3,h3⟩ st (.int .i64 0) (.int .i64 0) (.string ⟨#[]⟩) .nilIface;have P1:=hid p1;have P2:=hid p2;have HZ4:=hid (setFour_heap hz3 (.int .i64 0) (.int .i64 0) (.string ⟨#[]⟩) .nilIface);clear h3 st3 st hz3 p1 p2 r1;go_wp2;(try simp only[Exit.inBlock,Exit.then]);exact bodyPost_ret (Zo rfl rfl HZ4.out rfl rfl rfl rfl) rfl ⟨rfl,S,_,P1.out,P2.out⟩
def MkIn(l:List UInt8)(s:RxS):Prop:=∀m∈s.marks,m.1≤l.length
theorem MkIn.mk{l:List UInt8}{s:RxS}(h:MkIn l s)(hs:s.at_≤l.length)(t:List UInt8):MkIn l (s.mark t):=fun m hm=>by
 rcases List.mem_append.1 hm with hm|hm
 ·exact h m hm
 ·rw[List.mem_singleton.1 hm];exact hs
theorem MkIn.mk2{l:List UInt8}{s:RxS}{ere:Bool}(h:MkIn l s)(hs:s.at_≤l.length)(t:List UInt8)(k:Nat):MkIn l ((if ere then s else s.mark t).go k):=by
 cases ere
 ·exact h.mk hs t
 ·exact h
theorem Zed{ere:Bool}{l:List UInt8}:∀(n:Nat) (s:RxS) (t:Nd) (t':Nd) (s':RxS),Sane l s→MkIn l s→Ze8 prg ere l n s t=.inr (t',s')→MkIn l s'
 |0,s,t,t',s',hs,hm,h=>by
  rw[Ze8]at h;injection h with h;injection h with h1 h2;subst h1;subst h2;exact hm
 |n+1,s,t,t',s',hs,hm,h=>by
  rw[Ze8]at h;split at h
  ·next e=>
   have hle:s.at_+1≤l.length:=Zbj (eq_of_beq e) (by decide);exact Zed n (s.go 1) _ _ _ (hs.go (n:=1) hle) hm h
  ·split at h
   ·next e=>exact Zed n _ _ _ _ (hs.mk2 _ (ZcU e)) (hm.mk2 hs.le _ _) h
   ·split at h
    ·next e=>exact Zed n _ _ _ _ (hs.mk2 _ (ZcU e)) (hm.mk2 hs.le _ _) h
    ·split at h
     ·cases hi:ZlJ l ere (s.at_+(opB ere 123).length)with
      |none=>rw[hi]at h;cases h
      |some y=>
       obtain⟨m,x,j⟩:=y;rw[hi]at h;obtain⟨j1,j2⟩:=ZkE hi;exact Zed n (s.to j) _ _ _ (hs.to (n:=j) (by omega) j2) hm h
     ·injection h with h;injection h with h1 h2;subst h1;subst h2;exact hm
def MarksE(l:List UInt8)(f:RxS→Out Nd):Prop:=∀s,Sane l s→MkIn l s→∀t s',f s=.inr (t,s')→MkIn l s'
section
variable {ere:Bool} {l:List UInt8} {C:Option (RxS→Out Nd)} (hC:∀f,C=some f→Zn4 l f) (hM:∀f,C=some f→MarksE l f)
include hM
theorem Zmy{s s':RxS}{t:Nd}(hs:Sane l s)(hm:MkIn l s)(h:ZcS prg ere l C s=.inr (t,s')):MkIn l s':=by
 unfold ZcS at h;split at h
 ·next e=>
  unfold Zct at h;cases C with
  |none=>cases h
  |some f=>
   simp only at h;cases hf:f {s.go (opB ere 40).length with opened:=s.opened+1}with
   |inl e=>rw[hf]at h;cases h
   |inr z=>
    obtain⟨t1,s1⟩:=z;rw[hf]at h;simp only at h;have:=hs.op;have hg:=hs.go (ZcU e);have ho:=ZbQ ere 40;have k1:=hM f rfl {s.go (opB ere 40).length with opened:=s.opened+1} ⟨hg.le,hg.mr,hg.cl,by show s.opened+1≤s.at_+_;omega⟩ hm t1 s1 hf;split at h
    ·injection h with h;injection h with h1 h2;subst h1;subst h2;exact k1
    ·cases h
 ·split at h
  ·cases h
  ·split at h
   ·cases hp:prs l (s.at_+1)with
    |inl z=>rw[hp]at h;cases h
    |inr y=>
     rw[hp]at h;injection h with h;injection h with h2 h3;subst h2;subst h3;exact hm
   ·split at h
    ·injection h with h;injection h with h2 h3;subst h2;subst h3;exact hm
    ·split at h
     ·cases h
     ·split at h
      ·cases h
      ·injection h with h;injection h with h2 h3;subst h2;subst h3;exact hm
      ·next b r e=>
       unfold escD at h;split at h
       ·split at h
        ·injection h with h;injection h with h2 h3;subst h2;subst h3;cases ere
         ·exact hm
         ·exact hm.mk hs.le _
        ·cases h
       ·split at h
        ·cases h
        ·next c m _=>
         injection h with h;injection h with h2 h3;subst h2;subst h3;cases m
         ·exact hm
         ·exact hm.mk hs.le _
include hC
theorem brD_mk{inner:Bool}:∀(n:Nat) (first front:Bool) (s:RxS) (ps:List Nd) (t:Nd) (s':RxS),Sane l s→MkIn l s→brD prg ere l C inner n first front s ps=.inr (t,s')→MkIn l s'
 |0,first,front,s,ps,t,s',hs,hm,h=>by
  rw[brD]at h;injection h with h;injection h with h1 h2;subst h1;subst h2;exact hm
 |n+1,first,front,s,ps,t,s',hs,hm,h=>by
  rw[brD]at h;split at h
  ·injection h with h;injection h with h1 h2;subst h1;subst h2;exact hm
  ·split at h
   ·next e=>
    have e1:(sgn l s.at_==[94])=true:=by simp only[Bool.and_eq_true]at e;exact e.1
    have hle:s.at_+1≤l.length:=Zbj (eq_of_beq e1) (by decide);exact brD_mk n _ _ (s.go 1) _ _ _ (hs.go (n:=1) hle) hm h
   ·split at h
    ·next e=>
     have e1:(sgn l s.at_==[36])=true:=by simp only[Bool.and_eq_true]at e;exact e.1
     have hle:s.at_+1≤l.length:=Zbj (eq_of_beq e1) (by decide);exact brD_mk n _ _ (s.go 1) _ _ _ (hs.go (n:=1) hle) hm h
    ·split at h
     ·cases h
     ·split at h
      ·cases h
      ·next t1 s1 e1=>
       split at h
       ·cases h
       ·next t2 s2 e2=>
        have a1:=(atomD_kept hC hs e1).1;have b1:=(Zbz _ _ _ _ _ a1 e2).1;exact brD_mk n _ _ _ _ _ _ b1 (Zed _ _ _ _ _ a1 (Zmy hM hs hm e1) e2) h
theorem Zis{inner:Bool}:∀(n:Nat) (s:RxS) (ts:List Nd) (t:Nd) (s':RxS),Sane l s→MkIn l s→Zar prg ere l C inner n s ts=.inr (t,s')→MkIn l s'
 |0,s,ts,t,s',hs,hm,h=>by
  rw[Zar]at h;injection h with h;injection h with h1 h2;subst h1;subst h2;exact hm
 |n+1,s,ts,t,s',hs,hm,h=>by
  rw[Zar]at h;split at h
  ·next e=>
   split at h
   ·cases h
   ·next t1 s1 e1=>
    have hs1:=hs.mk2 (ere:=ere) [92,124] (ZcU e);have a1:=(Zbf hC hs1 e1).1;exact Zis n _ _ _ _ a1 (brD_mk hC hM _ _ _ _ _ _ _ hs1 (hm.mk2 hs.le _ _) e1) h
  ·injection h with h;injection h with h1 h2;subst h1;subst h2;exact hm
theorem choiceD_mk{inner:Bool}:MarksE l (choiceD prg ere l C inner):=by
 intro s hs hm t s' h;unfold choiceD at h;split at h
 ·cases h
 ·next t1 s1 e1=>exact Zis hC hM _ _ _ _ _ (Zbf hC hs e1).1 (brD_mk hC hM _ _ _ _ _ _ _ hs hm e1) h
end
theorem chD_mk{ere:Bool}{l:List UInt8}:∀n,MarksE l (chD prg ere l n)
 |0=>by rw[chD];exact choiceD_mk (fun f hf=>by cases hf) (fun f hf=>by cases hf)
 |n+1=>by rw[chD];exact choiceD_mk (fun f hf=>by injection hf with hf;subst hf;exact chD_kept n) (fun f hf=>by injection hf with hf;subst hf;exact chD_mk n)
theorem parseD_marks{ere:Bool}{l:List UInt8}{t:Nd}{s:RxS}(h:Zac prg ere l=.inr (t,s)):(∀m∈s.marks,m.1≤l.length)∧s.marks.length≤l.length∧t.size≤2*l.length+2:=by
 unfold Zac at h;split at h
 ·cases h
 ·have hs:Sane l ⟨0,0,[],[]⟩:=⟨Nat.zero_le _,Nat.zero_le _,Nat.zero_le _,Nat.zero_le _⟩;obtain⟨k1,k2,k3⟩:=chD_kept 12 _ hs _ _ h;have:=k1.le;have:=k1.mr;simp only at k3;exact⟨chD_mk 12 _ hs (fun m hm=>by cases hm) _ _ h,by omega,by omega⟩
theorem ZkU:∀(ms:List (Nat×List UInt8)) (k:Nat) (h:k<ms.length),(mkC ms)[k*2]? =some (.int .i64 (ms[k].1:Nat))∧(mkC ms)[k*2+1]? =some (.string ⟨ms[k].2.toArray⟩)
 |m::r,0,_=>by constructor<;>rfl
 |m::r,k+1,h=>by
  have:=ZkU r k (by simpa using h);have e:mkC (m::r)=.int .i64 (m.1:Nat):: .string ⟨m.2.toArray⟩::mkC r:=rfl;rw[e,show(k+1)*2=k*2+1+1 by omega];exact this
theorem ZeL(ms:List (Nat×List UInt8)):(mkC ms).length=2*ms.length:=by
 induction ms with
 |nil=>rfl
 |cons m r ih=>have e:mkC (m::r)=.int .i64 (m.1:Nat):: .string ⟨m.2.toArray⟩::mkC r:=rfl
               rw[e,List.length_cons,List.length_cons,ih,List.length_cons];omega
theorem OwM.get{w:World}{ms:List (Nat×List UInt8)}{v:Value}(h:OwM w ms v){k:Nat}(hk:k<ms.length):
 ∃g cap,v=.slice (some ⟨g,0,none⟩) ms.length cap∧g<w.heap.size∧w.cell? ⟨g,k*2,none⟩=some (.int .i64 (ms[k].1:Nat))∧w.cell? ⟨g,k*2+1,none⟩=some (.string ⟨ms[k].2.toArray⟩):=by
 have hl:=ZeL ms;have h0:=h;unfold OwM at h;have hlt:=own_lt h;obtain⟨a,c,rfl⟩:=Zb h;rcases h.2 with⟨e,hn⟩|⟨r,cap,cur,e,_,hr,_⟩
 ·omega
 ·injection e with e1 e2 e3;subst e1;exact⟨r,c,rfl,lt_heap hr,(h.cellAt (k*2) (by omega)).trans (ZkU ms k hk).1,(h.cellAt (k*2+1) (by omega)).trans (ZkU ms k hk).2⟩
theorem Zqy{w:World}{b:Nat}{v0 v1:Value}{T:TypeId}(h:w.heap[b]? =some (.cells #[v0,v1] T (0,0))):∀w',Fr nob w w'→
 (w'.cell? ⟨b,0,none⟩=some v0∧w'.cell? ⟨b,1,none⟩=some v1)∧(w'.frozen? ⟨b,0,none⟩=false∧w'.frozen? ⟨b,1,none⟩=false):=fun _ f=>by
 have h':=f.heap h (fun x=>x);exact⟨⟨cell_at h' rfl,cell_at h' rfl⟩,unfrozen_at h' _,unfrozen_at h' _⟩
theorem ZdC(l:List UInt8)(d:UInt8)(rx:Bool):∀(n k:Nat) (out:List UInt8),(bt l d rx n k out).1.length≤out.length+(l.length-k)
 |0,k,out=>by simp[bt]
 |n+1,k,out=>by
  rw[bt];cases hc:l[k]? with
  |none=>simp
  |some c=>
   have hk:=(List.getElem?_eq_some_iff.1 hc).1;simp only;split
   ·simp
   ·split
    ·split
     ·have ih:=ZdC l d rx n (esc l d rx k out).2.1 (esc l d rx k out).2.2;refine Nat.le_trans ih ?_;unfold esc;cases hx:l[k+1]? with
      |none=>simp
      |some y=>
       have:=(List.getElem?_eq_some_iff.1 hx).1;simp only;split
       ·simp;omega
       ·split
        ·simp;omega
        ·simp;omega
     ·simp
    ·generalize(if c=91∧rx=true then brE l k-k else 1)=m;split
     ·refine Nat.le_trans (ZdC l d rx n _ _) ?_;rw[List.length_append,List.length_take,List.length_drop];omega
     ·simp
def shM(k:Nat)(m:Nat×List UInt8):Nat×List UInt8:=(k+m.1,m.2)
def ZaE(x:Bool)(l:List UInt8)(d:UInt8)(s:AdS):ZlK:=
 if(bt l d true (l.length+1) s.at_ []).2.2≠0 then .inl ((bt l d true (l.length+1) s.at_ []).2.2,(bt l d true (l.length+1) s.at_ []).2.1)
 else if(bt l d true (l.length+1) s.at_ []).1=[]then .inl (2,s.at_)
 else match Zac prg x (bt l d true (l.length+1) s.at_ []).1 with
  | .inl z=>.inl (z.1,s.at_)
  | .inr (t,r)=>.inr (⟨3,0,(bt l d true (l.length+1) s.at_ []).1,t⟩,⟨(bt l d true (l.length+1) s.at_ []).2.1,s.marks++r.marks.map (shM s.at_),0⟩)
theorem Zit(k:Nat)(ms:List (Nat×List UInt8)){i:Nat}(h:i<ms.length):(ms.take (i+1)).map (shM k)=(ms.take i).map (shM k)++[(k+ms[i].1,ms[i].2)]:=by
 rw[List.take_succ_eq_append_getElem h,List.map_append];rfl
theorem Zhw(b:Nat)(l:List UInt8)(d:UInt8)(x:Bool)(s:AdS)(S:Nat→Prop)(w:World)(hl:l.length≤100000)(ha:s.at_≤l.length)(hS:∀k,S k→k<w.heap.size)(hE:Env w)(h:ARd b l x s S w)
 (z:Int) (p:Nat) (hR:ZaE x l d s=.inl (z,p)):
 Calls Tryz.prog 111 #[.pointer (some ⟨b,0,none⟩),.int .u8 (d.toNat:Int)] w fun r w'=>r=.returned (.agg zA)∧∃S' ms,ARd b l x ⟨p,ms,z⟩ S' w'∧Stp S w S' w':=by
 obtain⟨w1,hw1⟩:∃w1,w1=w.alloc (.cells zA 28):=⟨_,rfl⟩;have f1:Fr nob w w1:=by rw[hw1];exact(Fr.refl _ _).alloc _
 have hz:w1.heap[w.heap.size]? =some (.cells zA 28 (0,0)):=by rw[hw1];exact newAt _ _
 have h1:=h.on f1;have HN:=hid (fun w'=>Zg0 l s.at_ d true w' hl ha);have htl:=ZdC l d true (l.length+1) s.at_ [];unfold ZaE at hR;obtain⟨F,hF⟩:∃F,bt l d true (l.length+1) s.at_ []=F:=⟨_,rfl⟩;obtain⟨T,q,y⟩:=F;rw[hF]at HN hR htl;simp only[List.length_nil,Nat.zero_add]at hR htl HN;obtain⟨mv,h1'⟩:=h1;have r1:=Zd h1'.blk _ (Fr.refl _ _);have H1:=hid h1';have HW1:=hid hw1;have HS:=hid hS;have F1:=hid f1;have HZ:=hid hz;have HLT:=hid (lt_heap hz);have HE:=hid hE;clear h h1' hw1 hS f1 hz hF hE;by_cases hy:y=0
 ·subst hy;rw[if_neg (by simp)]at hR;by_cases hT:T=[]
  ·subst hT;rw[if_pos rfl]at hR;injection hR with hR;injection hR with e1 e2;subst e1;subst e2;go_enter Tryz.func111,Tryz.ntmps111;go_wp2_with(rw[←HW1.out]);refine(HN.out _).mono ?_;rintro e w2 ⟨rfl,f2⟩;have h2:=H1.out.on f2;have HF:=hid (ZaB b l x _ S 2 s.at_ w2 ⟨mv,h2⟩);have ST2:=hid (Stp.of f2:Stp S w1 S w2);clear h2 f2 r1;go_wp2_with fail;refine HF.out.mono ?_;rintro e w3 ⟨rfl,h3,st3⟩;have st:=ST2.out.trans st3;have hz3:=ZH rfl HS.out HZ.out st;have rz:=Zl hz3 _ (Fr.refl _ _);obtain⟨p1,p2⟩:=Zad F1.out rfl HLT.out HS.out h3 st (.int .i64 0) (.int .i64 0) (.string ⟨#[]⟩) .nilIface;have P1:=hid p1;have P2:=hid p2;have HZ4:=hid (setFour_heap hz3 (.int .i64 0) (.int .i64 0) (.string ⟨#[]⟩) .nilIface);clear h3 st3 st hz3 p1 p2;go_wp2;(try simp only[Exit.inBlock,Exit.then]);exact bodyPost_ret (Zo rfl rfl HZ4.out rfl rfl rfl rfl) rfl ⟨rfl,S,_,P1.out,P2.out⟩
  ·rw[if_neg hT]at hR;have hemp:T.isEmpty=false:=by cases T with|nil=>exact absurd rfl hT|cons _ _=>rfl
   obtain⟨R,hRR⟩:∃R,Zac prg x T=R:=⟨_,rfl⟩;rw[hRR]at hR;cases R with
   |inr y=>cases hR
   |inl y=>
    obtain⟨y,q'⟩:=y;injection hR with hR;injection hR with e1 e2;subst e1;subst e2;have hy0:¬y=0:=parseD_err hRR;have hy1:(y==0)=false:=by simpa using hy0
    have HPA:=hid (fun w' (f:Fr nob w1 w')=>by have:=Zir b l T x s S w' (by omega) (HE.out.on (F1.out.trans' f)) ⟨mv,H1.out.on f⟩;rw[hRR]at this;exact this);clear hRR hT htl;go_enter Tryz.func111,Tryz.ntmps111;go_wp2_with(rw[←HW1.out]);refine(HN.out _).mono ?_;rintro e w2 ⟨rfl,f2⟩;have FF2:=hid f2;clear f2 r1;go_wp2_with fail;refine(HPA.out _ FF2.out).mono ?_;rintro e w3 ⟨f3,rfl⟩;have f13:=FF2.out.trans' f3;have h3:=H1.out.on f13;have HF:=hid (ZaB b l x _ S y s.at_ w3 ⟨mv,h3⟩);have ST3:=hid (Stp.of f13:Stp S w1 S w3);clear h3 f3 f13;go_wp2_with fail;refine HF.out.mono ?_;rintro e w4 ⟨rfl,h4,st4⟩;have st:=ST3.out.trans st4;have hz4:=ZH rfl HS.out HZ.out st;have rz:=Zl hz4 _ (Fr.refl _ _);obtain⟨p1,p2⟩:=Zad F1.out rfl HLT.out HS.out h4 st (.int .i64 0) (.int .i64 0) (.string ⟨#[]⟩) .nilIface;have P1:=hid p1;have P2:=hid p2;have HZ5:=hid (setFour_heap hz4 (.int .i64 0) (.int .i64 0) (.string ⟨#[]⟩) .nilIface)
    clear h4 st4 st hz4 p1 p2;go_wp2;(try simp only[Exit.inBlock,Exit.then]);exact bodyPost_ret (Zo rfl rfl HZ5.out rfl rfl rfl rfl) rfl ⟨rfl,S,_,P1.out,P2.out⟩
 ·rw[if_pos hy]at hR;injection hR with hR;injection hR with e1 e2;subst e1;subst e2;have hy1:(y==0)=false:=by simpa using hy
  go_enter Tryz.func111,Tryz.ntmps111;go_wp2_with(rw[←HW1.out]);refine(HN.out _).mono ?_;rintro e w2 ⟨rfl,f2⟩;have h2:=H1.out.on f2;have HF:=hid (ZaB b l x _ S y q w2 ⟨mv,h2⟩);have ST2:=hid (Stp.of f2:Stp S w1 S w2);clear h2 f2 r1;go_wp2_with fail;refine HF.out.mono ?_;rintro e w3 ⟨rfl,h3,st3⟩;have st:=ST2.out.trans st3;have hz3:=ZH rfl HS.out HZ.out st;have rz:=Zl hz3 _ (Fr.refl _ _);obtain⟨p1,p2⟩:=Zad F1.out rfl HLT.out HS.out h3 st (.int .i64 0) (.int .i64 0) (.string ⟨#[]⟩) .nilIface;have P1:=hid p1;have P2:=hid p2;have HZ4:=hid (setFour_heap hz3 (.int .i64 0) (.int .i64 0) (.string ⟨#[]⟩) .nilIface);clear h3 st3 st hz3 p1 p2;go_wp2;(try simp only[Exit.inBlock,Exit.then]);exact bodyPost_ret (Zo rfl rfl HZ4.out rfl rfl rfl rfl) rfl ⟨rfl,S,_,P1.out,P2.out⟩
theorem ad_regex_ok(b:Nat)(l:List UInt8)(d:UInt8)(x:Bool)(s:AdS)(S O:Nat→Prop)(w:World)(hl:l.length≤100000)(ha:s.at_≤l.length)(hm:s.marks.length≤100000)(hs0:s.e=0)(hS:∀k,S k→k<w.heap.size)(hO:∀k,O k→k<w.heap.size)(hE:Env w)(h:ARd b l x s S w)
 (T:List UInt8) (q:Nat) (hF:bt l d true (l.length+1) s.at_ []=(T,q,0)) (hT:T≠[]) (t:Nd) (r:RxS) (hR:Zac prg x T=.inr (t,r)):
 Calls Tryz.prog 111 #[.pointer (some ⟨b,0,none⟩),.int .u8 (d.toNat:Int)] w (ZkT b l x S O w (.inr (⟨3,0,T,t⟩,⟨q,s.marks++r.marks.map (shM s.at_),0⟩))):=by
 obtain⟨at0,ms0,e0⟩:=s;obtain rfl:e0=0:=hs0;obtain⟨w1,hw1⟩:∃w1,w1=w.alloc (.cells zA 28):=⟨_,rfl⟩;have f1:Fr nob w w1:=by rw[hw1];exact(Fr.refl _ _).alloc _
 have hz:w1.heap[w.heap.size]? =some (.cells zA 28 (0,0)):=by rw[hw1];exact newAt _ _
 have h1:=h.on f1;have HN:=hid (fun w'=>Zg0 l at0 d true w' hl ha);have htl:=ZdC l d true (l.length+1) at0 [];simp only at hF;rw[hF]at HN htl;simp only[List.length_nil,Nat.zero_add]at htl HN;obtain⟨mv,h1'⟩:=h1;have r1:=Zd h1'.blk _ (Fr.refl _ _);have H1:=hid h1';have HW1:=hid hw1;have HS:=hid hS;have HO:=hid hO;have F1:=hid f1;have HZ:=hid hz;have HLT:=hid (lt_heap hz);have HPA:=hid (fun w' (f:Fr nob w1 w')=>by have:=Zir b l T x ⟨at0,ms0,0⟩ S w' (by omega) (hE.on (f1.trans' f)) ⟨mv,h1'.on f⟩;rw[hR]at this;exact this);obtain⟨hmk,hml,_⟩:=parseD_marks hR;have hmk':∀i (h:i<r.marks.length),r.marks[i].1≤T.length:=fun i h=>hmk _ (List.getElem_mem h);have HMK:=hid hmk';have hemp:T.isEmpty=false:=by cases T with|nil=>exact absurd rfl hT|cons _ _=>rfl
 have hrl:r.marks.length≤100000:=by omega
 have hTl:T.length≤100000:=by omega
 obtain⟨RM,hRM⟩:∃RM,r.marks=RM:=⟨_,rfl⟩;rw[hRM]at HMK hrl⊢;have HRM:=hid hRM;simp only;have hm:ms0.length≤100000:=hm;have ha:at0≤l.length:=ha;clear h h1' hw1 hS hO f1 hz hF hE hmk hml hmk' hR hT htl hRM;go_enter Tryz.func111,Tryz.ntmps111;go_wp2_with(rw[←HW1.out]);refine(HN.out _).mono ?_;rintro e w2 ⟨rfl,f2⟩;have FF2:=hid f2;clear f2 r1;go_wp2_with fail;refine(HPA.out _ FF2.out).mono ?_;rintro e w3 ⟨f3,v,mvP,rfl,rn3,hmP,hnw⟩;have hmP:OwM w3 RM mvP:=by rw[←HRM.out];exact hmP
 obtain⟨aP,cP,hmv⟩:=Zb hmP;subst hmv;have h3:=H1.out.on (FF2.out.trans' f3);have F3:=hid f3;have RN3:=hid rn3;have HMP:=hid hmP;have HNW:=hid hnw;have H3:=hid h3;have F13:=hid (FF2.out.trans' f3);clear f3 rn3 hmP hnw h3;go_wp2_with fail
 go_loopw [58] (fun i wr=>∃(k:Nat) (mv':Value) (S':Nat→Prop),i=.int .i64 k∧k≤RM.length∧Adr b l x ⟨at0,ms0++(RM.take k).map (shM at0),0⟩ S' mv' wr∧Stp S w3 S' wr) (fun i _=>RM.length-(intOf i).toNat)
 case atStart=>exact⟨0,mv,S,rfl,Nat.zero_le _,by simpa using H3.out,Stp.refl _ _⟩
 case round=>
  obtain⟨k,mv',S',rfl,hk,hA,hst⟩:=hrel;have HA:=hid hA;have HST:=hid hst;clear hA hst;by_cases hlt:k<RM.length
  ·have hMk:=HMK.out k hlt;have htk:=Zit at0 RM hlt;have hmP:OwM wr RM (.slice aP RM.length cP):=ownsRow_fr HMP.out HST.out.fr (fun j hj hx=>by have:=HNW.out j hj;have:=HS.out j hx;have:=FF2.out.size;have:=F1.out.size;omega);obtain⟨g,cap,hg1,hglt,hc0,hc1⟩:=hmP.get hlt;injection hg1 with hg1 hg2 hg3;subst hg1;subst hg3;obtain⟨m1,hm1⟩:∃m1,RM[k].1=m1:=⟨_,rfl⟩;obtain⟨m2,hm2⟩:∃m2,RM[k].2=m2:=⟨_,rfl⟩;rw[hm1]at hc0 hMk htk;rw[hm2]at hc1 htk;have hwr:IntKind.i64.wrap ((at0:Int)+(m1:Int))=((at0+m1:Nat):Int):=by rw[IntWalk.i64_in _ (by omega)];omega
   have HTK:=hid htk;clear hmP htk hm1 hm2 hg2;obtain⟨L,hL⟩:∃L,ms0++(RM.take k).map (shM at0)=L:=⟨_,rfl⟩;have hLl:L.length≤200000:=by rw[←hL,List.length_append,List.length_map,List.length_take];omega
   have hA:=HA.out;rw[hL]at hA;obtain⟨am,cm,hmv'⟩:=Zb hA.ma;subst hmv';obtain⟨w5,hw5⟩:∃w5,w5=wr.alloc (.cells #[.int .i64 (m1:Nat),.string ⟨m2.toArray⟩] 55):=⟨_,rfl⟩;have f5:Fr nob wr w5:=by rw[hw5];exact(Fr.refl _ _).alloc _
   have hq5:w5.heap[wr.heap.size]? =some (.cells #[.int .i64 (m1:Nat),.string ⟨m2.toArray⟩] 55 (0,0)):=by rw[hw5];exact newAt _ _
   have hA5:=hA.on f5;have rb:=Zd hA5.blk;have rq:=Zqy hq5;have HA5:=hid hA5;have HW5:=hid hw5;have HST5:=hid (HST.out.trans (Stp.of f5));have HL:=hid hL;obtain⟨i0,hi,hz0,hz1,hz2⟩:=info_parts Zbv;clear hA hA5 hw5 f5 hq5 hL;go_wp2_with(rw[←HW5.out])
   go_region_law (refine step_append_g rfl (.tmp 66) (.tmp 74) 36 rfl 55 i0 (.agg #[.int .i64 0,.string ByteArray.empty]) 2 24 Tryz.underlying36 hi hz0 hz1 hz2 rfl (by decide) (.slice am L.length cm) L.length (mkC L) (by rfl) (ownsRow_fr HA5.out.ma (by repeat(first|exact Fr.refl _ _|apply Fr.alloc|apply Fr.drew)) (fun _ _ x=>x)) ⟨w5.heap.size,0,none⟩ 1 1 [.int .i64 ((at0+m1:Nat):Int),.string ⟨m2.toArray⟩] (by rfl) rfl (Zdg (t:=m2) (by first|exact newAt0 _ _|exact Zg _ _ _ (by simp))) (Zf1 (t:=m2)) (by unfold maxLen;omega) (by omega) ?_;intro v' w6 hown' hap;obtain⟨av,cv',rfl⟩:=Zb hown';obtain⟨⟨pc,pf⟩,q1,q2⟩:=HA5.out.push (k:=at0+m1) (t:=m2) (by repeat(first|exact Fr.refl _ _|apply Fr.alloc|apply Fr.drew)) hap hown';have HQ:=hid q1;have HR:=hid q2;clear hown' hap q1 q2)
   all_goals
    go_wp2;go_roundw
    case rel=>exact⟨k+1,_,_,by go_num,by omega,by rw[HTK.out,←List.append_assoc,HL.out];exact HQ.out,HST5.out.trans HR.out⟩
    case measure=>simp[intOf];omega
  ·obtain rfl:k=RM.length:=by omega
   have hA:=HA.out;rw[List.take_of_length_le (Nat.le_refl _)]at hA;have h5:=hA.turned 1 (.int .i64 (q:Nat)) ⟨q,ms0++RM.map (shM at0),0⟩ (by simp) rfl;have st:=((Stp.of F13.out).trans HST.out:Stp S w1 S' wr);have st5:=st.trans (hA.stp 1 (.int .i64 (q:Nat)));have rA:=Zd hA.blk _ (Fr.refl _ _);obtain⟨w6,hw6⟩:∃w6,w6=wr.setCell ⟨b,1,none⟩ (.int .i64 (q:Nat)):=⟨_,rfl⟩;rw[←hw6]at h5 st5;have hz6:=ZH rfl HS.out HZ.out st5;have rz:=Zl hz6 _ (Fr.refl _ _);obtain⟨p1,p2⟩:=Zad F1.out rfl HLT.out HS.out ⟨mv',h5⟩ st5 (.int .i64 3) (.int .i64 0) (.string ⟨T.toArray⟩) v;have hsz1:=F1.out.size;have hsz2:=FF2.out.size;have hblt:b<w2.heap.size:=by have:=H1.out.lt;omega
   have fA:Fr (fun k=>k<w2.heap.size) w3 wr:=HST.out.fr.mono (fun k _ hk=>by have:=HS.out k hk;show k<_;omega);have fB:Fr (fun k=>k<w2.heap.size) w3 w6:=by rw[hw6];exact fA.setCell (p:=⟨b,1,none⟩) (fun _=>hblt) _
   have fC:Fr (fun k=>k<w2.heap.size) w3 (ZaG w6 w.heap.size (.int .i64 3) (.int .i64 0) (.string ⟨T.toArray⟩) v):=fB.trans (ZS w6 w.heap.size _ _ _ _) (fun k _ hk=>by have hk:k=_:=hk;have:=HLT.out;show k<_;omega);have hrn:RN (SO S' O) (ZaG w6 w.heap.size (.int .i64 3) (.int .i64 0) (.string ⟨T.toArray⟩) v) t v:=RN.keep fC (fun k _ hk=>hk) (fun k hk hx=>by
    show k<w2.heap.size;rcases hx with hx|hx
    ·have:=HS.out k (HST.out.old k hk hx);omega
    ·have:=HO.out k hx;omega) t v RN3.out
   have hv1:=RN3.out.one_cell;have P1:=hid p1;have P2:=hid p2;have HZ7:=hid (setFour_heap hz6 (.int .i64 3) (.int .i64 0) (.string ⟨T.toArray⟩) v);have HRN:=hid hrn;have HV1:=hid hv1;have HW6:=hid hw6;clear hA h5 st st5 hw6 hz6 p1 p2 fA fB fC hrn hv1;rcases RN3.out.shape with rfl|⟨iv,yv,rfl⟩
   all_goals
    go_wp2_with(rw[←HW6.out]);(try simp only[Exit.inBlock,Exit.then]);exact bodyPost_ret (Zo rfl rfl HZ7.out HV1.out rfl rfl rfl) rfl ⟨_,S',rfl,⟨_,rfl,HRN.out⟩,P1.out,P2.out⟩
def addrD(x:Bool)(l:List UInt8)(second:Bool)(s:AdS):ZlK:=
 if 48≤(byt l s.at_).toNat∧(byt l s.at_).toNat≤57 then Zdj l s
 else if byt l s.at_=36 then .inr (⟨2,0,[],.nil⟩,⟨s.at_+1,s.marks,0⟩)
 else if byt l s.at_=47 then ZaE x l 47 ⟨s.at_+1,s.marks,0⟩
 else if byt l s.at_=92 then(if l.length≤s.at_+1∨byt l (s.at_+1)=92∨byt l (s.at_+1)=10 then .inl (12,s.at_)else ZaE x l (byt l (s.at_+1)) ⟨s.at_+1+1,s.marks,0⟩)
 else if byt l s.at_=43∧second=true then moreD l s
 else .inr (AV.zero,s)
theorem ZaO{l:List UInt8}{k:Nat}(h:byt l k≠0):k<l.length:=by
 refine Nat.lt_of_not_le fun hk=>h (ZkR hk)
theorem Ziu(b:Nat)(l:List UInt8)(d:UInt8)(x:Bool)(s:AdS)(S O:Nat→Prop)(w:World)(hl:l.length≤100000)(ha:s.at_≤l.length)(hm:s.marks.length≤100000)(hs0:s.e=0)(hS:∀k,S k→k<w.heap.size)(hO:∀k,O k→k<w.heap.size)(hE:Env w)(h:ARd b l x s S w):
 Calls Tryz.prog 111 #[.pointer (some ⟨b,0,none⟩),.int .u8 (d.toNat:Int)] w (ZkT b l x S O w (ZaE x l d s)):=by
 cases hR:ZaE x l d s with
 |inl z=>
  obtain⟨z,p⟩:=z;exact Zhw b l d x s S w hl ha hS hE h z p hR
 |inr q=>
  unfold ZaE at hR;split at hR
  ·cases hR
  ·next h0=>
   split at hR
   ·cases hR
   ·next hT=>
    split at hR
    ·cases hR
    ·next t r hp=>
     injection hR with hR;subst hR;exact ad_regex_ok b l d x s S O w hl ha hm hs0 hS hO hE h _ _ (by
      have h0:(bt l d true (l.length+1) s.at_ []).2.2=0:=by simpa using h0
      rw[←h0]) hT t r hp
theorem Zal(b:Nat)(l:List UInt8)(x second:Bool)(s:AdS)(S O:Nat→Prop)(w:World)(hl:l.length≤100000)(ha:s.at_≤l.length)(hm:s.marks.length≤100000)(hs0:s.e=0)(hS:∀k,S k→k<w.heap.size)(hO:∀k,O k→k<w.heap.size)(W0:World)(hE:Env W0)(hW:Fr nob W0 w)(hSW:∀k,S k→W0.heap.size≤k)(h:ARd b l x s S w):
 Calls Tryz.prog 83 #[.pointer (some ⟨b,0,none⟩),.bool second] w (ZkT b l x S O w (addrD x l second s)):=by
 obtain⟨at0,ms0,e0⟩:=s;obtain rfl:e0=0:=hs0;have ha:at0≤l.length:=ha;have hm:ms0.length≤100000:=hm;obtain⟨w1,hw1⟩:∃w1,w1=w.alloc (.cells zA 28):=⟨_,rfl⟩;have f1:Fr nob w w1:=by rw[hw1];exact(Fr.refl _ _).alloc _
 have hz:w1.heap[w.heap.size]? =some (.cells zA 28 (0,0)):=by rw[hw1];exact newAt _ _
 have h1:=h.on f1;have hN:=Zt b l x ⟨at0,ms0,0⟩ S w1 (by omega) h1;simp only at hN;have hsz:w1.heap.size=w.heap.size+1:=by rw[hw1];simp
 have hSb:∀(w':World),Fr nob w1 w'→∀k,S k→k<w'.heap.size:=fun w' f k hk=>by have:=hS k hk;have:=f.size;omega
 have hOb:∀(w':World),Fr nob w1 w'→∀k,(O k∨k=w.heap.size)→k<w'.heap.size:=fun w' f k hk=>by
  have:=f.size;rcases hk with hk|hk
  ·have:=hO k hk;omega
  ·omega
 have hEb:∀(w':World) (S':Nat→Prop),Stp S w1 S' w'→Env w':=fun w' S' st=>hE.on (st.from (hW.trans' f1) hSW);obtain⟨mv,h1'⟩:=h1;have H1:=hid h1';have HN:=hid hN;have HW1:=hid hw1;have HS:=hid hS;have F1:=hid f1;have HZ:=hid hz;have HLT:=hid (lt_heap hz);have HSB:=hid hSb;have HOB:=hid hOb;have HEB:=hid hEb;unfold addrD;simp only;clear h h1' hN hw1 hS f1 hz hO hE hW hSW hsz hSb hOb hEb;obtain⟨c,hc⟩:∃c,byt l at0=c:=⟨_,rfl⟩;rw[hc]at HN⊢;by_cases hd:48≤c.toNat∧c.toNat≤57
 ·rw[if_pos hd];have q1:(48:Int)≤(c.toNat:Int):=by omega
  have q2:(c.toNat:Int)≤57:=by omega
  have HC:=hid (fun w' (f:Fr nob w1 w')=>Zoa b l x ⟨at0,ms0,0⟩ S (fun k=>O k∨k=w.heap.size) w' hl ha (HSB.out w' f) ⟨mv,H1.out.on f⟩);obtain⟨R,hR⟩:∃R,Zdj l ⟨at0,ms0,0⟩=R:=⟨_,rfl⟩;rw[hR]at HC⊢;clear hR hd hc;go_enter Tryz.func83,Tryz.ntmps83;go_wp2_with(rw[←HW1.out]);refine HN.out.mono ?_;rintro e w2 ⟨rfl,f2⟩;have ST0:=hid (Stp.of f2:Stp S w1 S w2);have FF2:=hid f2;clear f2;go_wp2_with fail;refine(HC.out _ FF2.out).mono ?_;intro e w3 he;cases R with
  |inl q=>
   obtain⟨z,p⟩:=q;obtain⟨rfl,S',ms,hX,st3⟩:=he;have st:=ST0.out.trans st3;clear st3;have hzX:=ZH rfl HS.out HZ.out st;have rz:=Zl hzX _ (Fr.refl _ _);obtain⟨p1,p2⟩:=Zad F1.out rfl HLT.out HS.out hX st (.int .i64 0) (.int .i64 0) (.string ⟨#[]⟩) .nilIface;have P1:=hid p1;have P2:=hid p2;have HZF:=hid (setFour_heap hzX (.int .i64 0) (.int .i64 0) (.string ⟨#[]⟩) .nilIface);clear hX st hzX p1 p2;go_wp2;(try simp only[Exit.inBlock,Exit.then]);exact bodyPost_ret (Zo rfl rfl HZF.out rfl rfl rfl rfl) rfl ⟨rfl,S',_,P1.out,P2.out⟩
  |inr q=>
   obtain⟨a,s'⟩:=q;obtain⟨v,S',rfl,⟨u,rfl,hrn⟩,hX,st3⟩:=he;have st:=ST0.out.trans st3;clear st3;have HRN:=hid (RN.keep (ZS w3 w.heap.size (.int .i64 a.kind) (.int .i64 a.line) (.string ⟨a.text.toArray⟩) u) (fun k _ hk=>.inr (.inr hk)) (fun k _ hx=>hx.elim .inl (fun y=>.inr (.inl y))) _ _ hrn:RN (SO S' O) _ a.tree u);have hzX:=ZH rfl HS.out HZ.out st;have rz:=Zl hzX _ (Fr.refl _ _);obtain⟨p1,p2⟩:=Zad F1.out rfl HLT.out HS.out hX st (.int .i64 a.kind) (.int .i64 a.line) (.string ⟨a.text.toArray⟩) u;have P1:=hid p1;have P2:=hid p2;have HZF:=hid (setFour_heap hzX (.int .i64 a.kind) (.int .i64 a.line) (.string ⟨a.text.toArray⟩) u);clear hX st hzX p1 p2;rcases hrn.shape with rfl|⟨iv,yv,rfl⟩
   all_goals
    clear hrn;go_wp2;(try simp only[Exit.inBlock,Exit.then]);exact bodyPost_ret (Zo rfl rfl HZF.out rfl rfl rfl rfl) rfl ⟨_,S',rfl,⟨_,rfl,HRN.out⟩,P1.out,P2.out⟩
 rw[if_neg hd];by_cases h36:c=36
 ·subst h36;rw[if_pos rfl];rw[show(((36:UInt8).toNat:Nat):Int)=36 from rfl]at HN;have hat:at0<l.length:=ZaO (by rw[hc];decide);have hwr:IntKind.i64.wrap ((at0:Int)+1)=at0+1:=IntWalk.i64_in _ (by omega);clear hd hc;go_enter Tryz.func83,Tryz.ntmps83;go_wp2_with(rw[←HW1.out]);refine HN.out.mono ?_;rintro e w2 ⟨rfl,f2⟩;have h2:=H1.out.on f2;have r2:=Zd h2.blk _ (Fr.refl _ _);have h3:=h2.turned 1 (.int .i64 ((at0:Int)+1)) ⟨at0+1,ms0,0⟩ (by simp) rfl;have st3:=((Stp.of f2).trans (h2.stp 1 (.int .i64 ((at0:Int)+1))):Stp S w1 S _);obtain⟨wA,hwA⟩:∃wA,wA=w2.setCell ⟨b,1,none⟩ (.int .i64 ((at0:Int)+1)):=⟨_,rfl⟩;rw[←hwA]at h3 st3;have HWA:=hid hwA;have hX:ARd b l x ⟨at0+1,ms0,0⟩ S wA:=⟨mv,h3⟩;have st:=st3;have S':=S;clear h2 h3 st3 hwA f2;have hzX:=ZH rfl HS.out HZ.out st;have rz:=Zl hzX _ (Fr.refl _ _);obtain⟨p1,p2⟩:=Zad F1.out rfl HLT.out HS.out hX st (.int .i64 2) (.int .i64 0) (.string ⟨#[]⟩) .nilIface
  have P1:=hid p1;have P2:=hid p2;have HZF:=hid (setFour_heap hzX (.int .i64 2) (.int .i64 0) (.string ⟨#[]⟩) .nilIface);clear hX st hzX p1 p2;go_wp2_with(rw[←HWA.out]);(try simp only[Exit.inBlock,Exit.then]);exact bodyPost_ret (Zo rfl rfl HZF.out rfl rfl rfl rfl) rfl ⟨_,S,rfl,ZkS.nil 2 0 [],P1.out,P2.out⟩
 rw[if_neg h36];by_cases h47:c=47
 ·subst h47;rw[if_pos rfl];rw[show(((47:UInt8).toNat:Nat):Int)=47 from rfl]at HN;have hat:at0<l.length:=ZaO (by rw[hc];decide);have hwr:IntKind.i64.wrap ((at0:Int)+1)=at0+1:=IntWalk.i64_in _ (by omega);have HC:=hid (fun w' (hS':∀k,S k→k<w'.heap.size) (hO':∀k,(O k∨k=w.heap.size)→k<w'.heap.size) (hE':Env w') (h:ARd b l x ⟨at0+1,ms0,0⟩ S w')=>Ziu b l 47 x ⟨at0+1,ms0,0⟩ S (fun k=>O k∨k=w.heap.size) w' hl (by show at0+1≤_;omega) hm rfl hS' hO' hE' h);obtain⟨R,hR⟩:∃R,ZaE x l 47 ⟨at0+1,ms0,0⟩=R:=⟨_,rfl⟩;rw[hR]at HC⊢;rw[show(((47:UInt8).toNat:Nat):Int)=47 from rfl]at HC;clear hd hc hR h36;go_enter Tryz.func83,Tryz.ntmps83;go_wp2_with(rw[←HW1.out]);refine HN.out.mono ?_;rintro e w2 ⟨rfl,f2⟩;have h2:=H1.out.on f2;have r2:=Zd h2.blk _ (Fr.refl _ _);have h3:=h2.turned 1 (.int .i64 ((at0:Int)+1)) ⟨at0+1,ms0,0⟩ (by simp) rfl;have st3:=((Stp.of f2).trans (h2.stp 1 (.int .i64 ((at0:Int)+1))):Stp S w1 S _)
  obtain⟨wA,hwA⟩:∃wA,wA=w2.setCell ⟨b,1,none⟩ (.int .i64 ((at0:Int)+1)):=⟨_,rfl⟩;rw[←hwA]at h3 st3;have HWA:=hid hwA;have ST0:=hid st3;have hsA:w2.heap.size=wA.heap.size:=by rw[hwA];simp[World.setCell]
  have HEA:=hid (HEB.out wA S st3);have HCA:=hid (HC.out wA (fun k hk=>by have:=HSB.out w2 f2 k hk;omega) (fun k hk=>by have:=HOB.out w2 f2 k hk;omega) HEA.out ⟨mv,h3⟩);clear h2 h3 st3 hwA f2 hsA;go_wp2_with(rw[←HWA.out]);refine(HCA.out).mono ?_;intro e w3 he;cases R with
  |inl q=>
   obtain⟨z,p⟩:=q;obtain⟨rfl,S',ms,hX,st3⟩:=he;have st:=ST0.out.trans st3;clear st3;have hzX:=ZH rfl HS.out HZ.out st;have rz:=Zl hzX _ (Fr.refl _ _);obtain⟨p1,p2⟩:=Zad F1.out rfl HLT.out HS.out hX st (.int .i64 0) (.int .i64 0) (.string ⟨#[]⟩) .nilIface;have P1:=hid p1;have P2:=hid p2;have HZF:=hid (setFour_heap hzX (.int .i64 0) (.int .i64 0) (.string ⟨#[]⟩) .nilIface);clear hX st hzX p1 p2;go_wp2;(try simp only[Exit.inBlock,Exit.then]);exact bodyPost_ret (Zo rfl rfl HZF.out rfl rfl rfl rfl) rfl ⟨rfl,S',_,P1.out,P2.out⟩
  |inr q=>
   obtain⟨a,s'⟩:=q;obtain⟨v,S',rfl,⟨u,rfl,hrn⟩,hX,st3⟩:=he;have st:=ST0.out.trans st3;clear st3;have HRN:=hid (RN.keep (ZS w3 w.heap.size (.int .i64 a.kind) (.int .i64 a.line) (.string ⟨a.text.toArray⟩) u) (fun k _ hk=>.inr (.inr hk)) (fun k _ hx=>hx.elim .inl (fun y=>.inr (.inl y))) _ _ hrn:RN (SO S' O) _ a.tree u);have hzX:=ZH rfl HS.out HZ.out st;have rz:=Zl hzX _ (Fr.refl _ _);obtain⟨p1,p2⟩:=Zad F1.out rfl HLT.out HS.out hX st (.int .i64 a.kind) (.int .i64 a.line) (.string ⟨a.text.toArray⟩) u;have P1:=hid p1;have P2:=hid p2;have HZF:=hid (setFour_heap hzX (.int .i64 a.kind) (.int .i64 a.line) (.string ⟨a.text.toArray⟩) u);clear hX st hzX p1 p2;rcases hrn.shape with rfl|⟨iv,yv,rfl⟩
   all_goals
    clear hrn;go_wp2;(try simp only[Exit.inBlock,Exit.then]);exact bodyPost_ret (Zo rfl rfl HZF.out rfl rfl rfl rfl) rfl ⟨_,S',rfl,⟨_,rfl,HRN.out⟩,P1.out,P2.out⟩
 rw[if_neg h47];by_cases h92:c=92
 ·subst h92;rw[if_pos rfl];rw[show(((92:UInt8).toNat:Nat):Int)=92 from rfl]at HN;have hat:at0<l.length:=ZaO (by rw[hc];decide);have hwr:IntKind.i64.wrap ((at0:Int)+1)=at0+1:=IntWalk.i64_in _ (by omega);have hwr2:IntKind.i64.wrap ((at0:Int)+1+1)=at0+1+1:=IntWalk.i64_in _ (by omega);obtain⟨d,hdd⟩:∃d,byt l (at0+1)=d:=⟨_,rfl⟩;have HNX:=hid (fun w' (h:ARd b l x ⟨at0+1,ms0,0⟩ S w')=>by
   have:=Zt b l x ⟨at0+1,ms0,0⟩ S w' (by omega) h;rw[show(AdS.mk (at0+1) ms0 0).at_=at0+1 from rfl,hdd]at this;exact this)
  rw[hdd];by_cases hbad:l.length≤at0+1∨d=92∨d=10
  ·rw[if_pos hbad];have HBAD:=hid hbad;clear hd hc h36 h47 hdd hbad;by_cases hb1:l.length≤at0+1
   ·have q1:(l.length:Int)≤(at0:Int)+1:=by omega
    go_enter Tryz.func83,Tryz.ntmps83;go_wp2_with(rw[←HW1.out]);refine HN.out.mono ?_;rintro e w2 ⟨rfl,f2⟩;have h2:=H1.out.on f2;have r2:=Zd h2.blk _ (Fr.refl _ _);have h3:=h2.turned 1 (.int .i64 ((at0:Int)+1)) ⟨at0+1,ms0,0⟩ (by simp) rfl;have st3:=((Stp.of f2).trans (h2.stp 1 (.int .i64 ((at0:Int)+1))):Stp S w1 S _);obtain⟨wA,hwA⟩:∃wA,wA=w2.setCell ⟨b,1,none⟩ (.int .i64 ((at0:Int)+1)):=⟨_,rfl⟩;rw[←hwA]at h3 st3;have HWA:=hid hwA;have HNA:=hid (HNX.out wA ⟨mv,h3⟩);have H3:=hid h3;have ST3:=hid st3;clear h2 h3 st3 hwA f2;go_wp2_with(rw[←HWA.out]);refine HNA.out.mono ?_;rintro e w3 ⟨rfl,f3⟩;have h4:=H3.out.on f3;have r4:=Zd h4.blk _ (Fr.refl _ _);have HFl:=hid (ZaB b l x _ S 12 at0 w3 ⟨mv,h4⟩);have ST4:=hid (ST3.out.trans (Stp.of f3));clear h4 f3 r2;go_wp2_with fail;refine HFl.out.mono ?_;rintro e w4 ⟨rfl,hX,st4⟩;have st:=ST4.out.trans st4;clear st4;have hzX:=ZH rfl HS.out HZ.out st
    have rz:=Zl hzX _ (Fr.refl _ _);obtain⟨p1,p2⟩:=Zad F1.out rfl HLT.out HS.out hX st (.int .i64 0) (.int .i64 0) (.string ⟨#[]⟩) .nilIface;have P1:=hid p1;have P2:=hid p2;have HZF:=hid (setFour_heap hzX (.int .i64 0) (.int .i64 0) (.string ⟨#[]⟩) .nilIface);clear hX st hzX p1 p2;go_wp2;(try simp only[Exit.inBlock,Exit.then]);exact bodyPost_ret (Zo rfl rfl HZF.out rfl rfl rfl rfl) rfl ⟨rfl,S,_,P1.out,P2.out⟩
   have q1:¬(l.length:Int)≤(at0:Int)+1:=by omega
   by_cases hb2:d=92
   ·subst hb2;rw[show(((92:UInt8).toNat:Nat):Int)=92 from rfl]at HNX;go_enter Tryz.func83,Tryz.ntmps83;go_wp2_with(rw[←HW1.out]);refine HN.out.mono ?_;rintro e w2 ⟨rfl,f2⟩;have h2:=H1.out.on f2;have r2:=Zd h2.blk _ (Fr.refl _ _);have h3:=h2.turned 1 (.int .i64 ((at0:Int)+1)) ⟨at0+1,ms0,0⟩ (by simp) rfl;have st3:=((Stp.of f2).trans (h2.stp 1 (.int .i64 ((at0:Int)+1))):Stp S w1 S _);obtain⟨wA,hwA⟩:∃wA,wA=w2.setCell ⟨b,1,none⟩ (.int .i64 ((at0:Int)+1)):=⟨_,rfl⟩;rw[←hwA]at h3 st3;have HWA:=hid hwA;have HNA:=hid (HNX.out wA ⟨mv,h3⟩);have H3:=hid h3;have ST3:=hid st3;clear h2 h3 st3 hwA f2;go_wp2_with(rw[←HWA.out]);refine HNA.out.mono ?_;rintro e w3 ⟨rfl,f3⟩;have h4:=H3.out.on f3;have r4:=Zd h4.blk _ (Fr.refl _ _);have HFl:=hid (ZaB b l x _ S 12 at0 w3 ⟨mv,h4⟩);have ST4:=hid (ST3.out.trans (Stp.of f3));clear h4 f3 r2;go_wp2_with fail;refine HFl.out.mono ?_;rintro e w4 ⟨rfl,hX,st4⟩;have st:=ST4.out.trans st4
    clear st4;have hzX:=ZH rfl HS.out HZ.out st;have rz:=Zl hzX _ (Fr.refl _ _);obtain⟨p1,p2⟩:=Zad F1.out rfl HLT.out HS.out hX st (.int .i64 0) (.int .i64 0) (.string ⟨#[]⟩) .nilIface;have P1:=hid p1;have P2:=hid p2;have HZF:=hid (setFour_heap hzX (.int .i64 0) (.int .i64 0) (.string ⟨#[]⟩) .nilIface);clear hX st hzX p1 p2;go_wp2;(try simp only[Exit.inBlock,Exit.then]);exact bodyPost_ret (Zo rfl rfl HZF.out rfl rfl rfl rfl) rfl ⟨rfl,S,_,P1.out,P2.out⟩
   obtain rfl:d=10:=by rcases HBAD.out with h|h|h;exact absurd h hb1;exact absurd h hb2;exact h
   rw[show(((10:UInt8).toNat:Nat):Int)=10 from rfl]at HNX;go_enter Tryz.func83,Tryz.ntmps83;go_wp2_with(rw[←HW1.out]);refine HN.out.mono ?_;rintro e w2 ⟨rfl,f2⟩;have h2:=H1.out.on f2;have r2:=Zd h2.blk _ (Fr.refl _ _);have h3:=h2.turned 1 (.int .i64 ((at0:Int)+1)) ⟨at0+1,ms0,0⟩ (by simp) rfl;have st3:=((Stp.of f2).trans (h2.stp 1 (.int .i64 ((at0:Int)+1))):Stp S w1 S _);obtain⟨wA,hwA⟩:∃wA,wA=w2.setCell ⟨b,1,none⟩ (.int .i64 ((at0:Int)+1)):=⟨_,rfl⟩;rw[←hwA]at h3 st3;have HWA:=hid hwA;have HNA:=hid (HNX.out wA ⟨mv,h3⟩);have H3:=hid h3;have ST3:=hid st3;clear h2 h3 st3 hwA f2;go_wp2_with(rw[←HWA.out]);refine HNA.out.mono ?_;rintro e w3 ⟨rfl,f3⟩;have h4:=H3.out.on f3;have r4:=Zd h4.blk _ (Fr.refl _ _);have HFl:=hid (ZaB b l x _ S 12 at0 w3 ⟨mv,h4⟩);have ST4:=hid (ST3.out.trans (Stp.of f3));clear h4 f3 r2;go_wp2_with fail;refine HFl.out.mono ?_;rintro e w4 ⟨rfl,hX,st4⟩;have st:=ST4.out.trans st4
   clear st4;have hzX:=ZH rfl HS.out HZ.out st;have rz:=Zl hzX _ (Fr.refl _ _);obtain⟨p1,p2⟩:=Zad F1.out rfl HLT.out HS.out hX st (.int .i64 0) (.int .i64 0) (.string ⟨#[]⟩) .nilIface;have P1:=hid p1;have P2:=hid p2;have HZF:=hid (setFour_heap hzX (.int .i64 0) (.int .i64 0) (.string ⟨#[]⟩) .nilIface);clear hX st hzX p1 p2;go_wp2;(try simp only[Exit.inBlock,Exit.then]);exact bodyPost_ret (Zo rfl rfl HZF.out rfl rfl rfl rfl) rfl ⟨rfl,S,_,P1.out,P2.out⟩
  ·rw[if_neg hbad];have q1:¬(l.length:Int)≤(at0:Int)+1:=by omega
   have q2:((d.toNat:Int)==92)=false:=by
    have:d≠92:=fun h=>hbad (.inr (.inl h));have:d.toNat≠92:=fun h=>this (UInt8.toNat_inj.1 h);simp;omega
   have q3:((d.toNat:Int)==10)=false:=by
    have:d≠10:=fun h=>hbad (.inr (.inr h));have:d.toNat≠10:=fun h=>this (UInt8.toNat_inj.1 h);simp;omega
   have HC:=hid (fun w' (hS':∀k,S k→k<w'.heap.size) (hO':∀k,(O k∨k=w.heap.size)→k<w'.heap.size) (hE':Env w') (h:ARd b l x ⟨at0+1+1,ms0,0⟩ S w')=>Ziu b l d x ⟨at0+1+1,ms0,0⟩ S (fun k=>O k∨k=w.heap.size) w' hl (by show at0+1+1≤_;omega) hm rfl hS' hO' hE' h);obtain⟨R,hR⟩:∃R,ZaE x l d ⟨at0+1+1,ms0,0⟩=R:=⟨_,rfl⟩;rw[hR]at HC⊢;clear hd hc h36 h47 hdd hbad hR;go_enter Tryz.func83,Tryz.ntmps83;go_wp2_with(rw[←HW1.out]);refine HN.out.mono ?_;rintro e w2 ⟨rfl,f2⟩;have h2:=H1.out.on f2;have r2:=Zd h2.blk _ (Fr.refl _ _);have h3:=h2.turned 1 (.int .i64 ((at0:Int)+1)) ⟨at0+1,ms0,0⟩ (by simp) rfl;have st3:=((Stp.of f2).trans (h2.stp 1 (.int .i64 ((at0:Int)+1))):Stp S w1 S _);obtain⟨wA,hwA⟩:∃wA,wA=w2.setCell ⟨b,1,none⟩ (.int .i64 ((at0:Int)+1)):=⟨_,rfl⟩;rw[←hwA]at h3 st3;have HWA:=hid hwA;have HNA:=hid (HNX.out wA ⟨mv,h3⟩);have H3:=hid h3;have ST3:=hid st3;have HSA:=hid (show w2.heap.size=wA.heap.size by rw[hwA];simp[World.setCell])
   have FF2:=hid f2;clear h2 h3 st3 hwA f2;go_wp2_with(rw[←HWA.out]);refine HNA.out.mono ?_;rintro e w3' ⟨rfl,f3⟩;have h4:=H3.out.on f3;have r4:=Zd h4.blk _ (Fr.refl _ _);have h5:=h4.turned 1 (.int .i64 ((at0:Int)+1+1)) ⟨at0+1+1,ms0,0⟩ (by simp) rfl;have st5:=(ST3.out.trans ((Stp.of f3).trans (h4.stp 1 (.int .i64 ((at0:Int)+1+1)))):Stp S w1 S _);obtain⟨wB,hwB⟩:∃wB,wB=w3'.setCell ⟨b,1,none⟩ (.int .i64 ((at0:Int)+1+1)):=⟨_,rfl⟩;rw[←hwB]at h5 st5;have HWB:=hid hwB;have ST0:=hid st5;have hsB:w3'.heap.size=wB.heap.size:=by rw[hwB];simp[World.setCell]
   have hs3:=f3.size;have HEA:=hid (HEB.out wB S st5);have HCA:=hid (HC.out wB (fun k hk=>by have:=HSB.out w2 FF2.out k hk;have:=HSA.out;omega) (fun k hk=>by have:=HOB.out w2 FF2.out k hk;have:=HSA.out;omega) HEA.out ⟨mv,h5⟩);clear h4 h5 st5 hwB f3 hsB hs3 r2;go_wp2_with(rw[←HWB.out]);refine(HCA.out).mono ?_;intro e w3 he;cases R with
   |inl q=>
    obtain⟨z,p⟩:=q;obtain⟨rfl,S',ms,hX,st3⟩:=he;have st:=ST0.out.trans st3;clear st3;have hzX:=ZH rfl HS.out HZ.out st;have rz:=Zl hzX _ (Fr.refl _ _);obtain⟨p1,p2⟩:=Zad F1.out rfl HLT.out HS.out hX st (.int .i64 0) (.int .i64 0) (.string ⟨#[]⟩) .nilIface;have P1:=hid p1;have P2:=hid p2;have HZF:=hid (setFour_heap hzX (.int .i64 0) (.int .i64 0) (.string ⟨#[]⟩) .nilIface);clear hX st hzX p1 p2;go_wp2;(try simp only[Exit.inBlock,Exit.then]);exact bodyPost_ret (Zo rfl rfl HZF.out rfl rfl rfl rfl) rfl ⟨rfl,S',_,P1.out,P2.out⟩
   |inr q=>
    obtain⟨a,s'⟩:=q;obtain⟨v,S',rfl,⟨u,rfl,hrn⟩,hX,st3⟩:=he;have st:=ST0.out.trans st3;clear st3;have HRN:=hid (RN.keep (ZS w3 w.heap.size (.int .i64 a.kind) (.int .i64 a.line) (.string ⟨a.text.toArray⟩) u) (fun k _ hk=>.inr (.inr hk)) (fun k _ hx=>hx.elim .inl (fun y=>.inr (.inl y))) _ _ hrn:RN (SO S' O) _ a.tree u);have hzX:=ZH rfl HS.out HZ.out st;have rz:=Zl hzX _ (Fr.refl _ _);obtain⟨p1,p2⟩:=Zad F1.out rfl HLT.out HS.out hX st (.int .i64 a.kind) (.int .i64 a.line) (.string ⟨a.text.toArray⟩) u;have P1:=hid p1;have P2:=hid p2;have HZF:=hid (setFour_heap hzX (.int .i64 a.kind) (.int .i64 a.line) (.string ⟨a.text.toArray⟩) u);clear hX st hzX p1 p2;rcases hrn.shape with rfl|⟨iv,yv,rfl⟩
    all_goals
     clear hrn;go_wp2;(try simp only[Exit.inBlock,Exit.then]);exact bodyPost_ret (Zo rfl rfl HZF.out rfl rfl rfl rfl) rfl ⟨_,S',rfl,⟨_,rfl,HRN.out⟩,P1.out,P2.out⟩
 rw[if_neg h92];have n36:((c.toNat:Int)==36)=false:=by
  have:c.toNat≠36:=fun h=>h36 (UInt8.toNat_inj.1 h);simp;omega
 have n47:((c.toNat:Int)==47)=false:=by
  have:c.toNat≠47:=fun h=>h47 (UInt8.toNat_inj.1 h);simp;omega
 have n92:((c.toNat:Int)==92)=false:=by
  have:c.toNat≠92:=fun h=>h92 (UInt8.toNat_inj.1 h);simp;omega
 by_cases h43:c=43∧second=true
 ·obtain⟨rfl,rfl⟩:=h43;rw[if_pos ⟨rfl,rfl⟩];rw[show(((43:UInt8).toNat:Nat):Int)=43 from rfl]at HN;have hat:at0<l.length:=ZaO (by rw[hc];decide);have HC:=hid (fun w' (f:Fr nob w1 w')=>Zob b l x ⟨at0,ms0,0⟩ S (fun k=>O k∨k=w.heap.size) w' hl hat (by show ms0.length≤_;omega) (HSB.out w' f) ⟨mv,H1.out.on f⟩);obtain⟨R,hR⟩:∃R,moreD l ⟨at0,ms0,0⟩=R:=⟨_,rfl⟩;rw[hR]at HC⊢;clear hd hc hR h36 h47 h92 n36 n47 n92;go_enter Tryz.func83,Tryz.ntmps83;go_wp2_with(rw[←HW1.out]);refine HN.out.mono ?_;rintro e w2 ⟨rfl,f2⟩;have ST0:=hid (Stp.of f2:Stp S w1 S w2);have FF2:=hid f2;clear f2;go_wp2_with fail;refine(HC.out _ FF2.out).mono ?_;intro e w3 he;cases R with
  |inl q=>
   obtain⟨z,p⟩:=q;obtain⟨rfl,S',ms,hX,st3⟩:=he;have st:=ST0.out.trans st3;clear st3;have hzX:=ZH rfl HS.out HZ.out st;have rz:=Zl hzX _ (Fr.refl _ _);obtain⟨p1,p2⟩:=Zad F1.out rfl HLT.out HS.out hX st (.int .i64 0) (.int .i64 0) (.string ⟨#[]⟩) .nilIface;have P1:=hid p1;have P2:=hid p2;have HZF:=hid (setFour_heap hzX (.int .i64 0) (.int .i64 0) (.string ⟨#[]⟩) .nilIface);clear hX st hzX p1 p2;go_wp2;(try simp only[Exit.inBlock,Exit.then]);exact bodyPost_ret (Zo rfl rfl HZF.out rfl rfl rfl rfl) rfl ⟨rfl,S',_,P1.out,P2.out⟩
  |inr q=>
   obtain⟨a,s'⟩:=q;obtain⟨v,S',rfl,⟨u,rfl,hrn⟩,hX,st3⟩:=he;have st:=ST0.out.trans st3;clear st3;have HRN:=hid (RN.keep (ZS w3 w.heap.size (.int .i64 a.kind) (.int .i64 a.line) (.string ⟨a.text.toArray⟩) u) (fun k _ hk=>.inr (.inr hk)) (fun k _ hx=>hx.elim .inl (fun y=>.inr (.inl y))) _ _ hrn:RN (SO S' O) _ a.tree u);have hzX:=ZH rfl HS.out HZ.out st;have rz:=Zl hzX _ (Fr.refl _ _);obtain⟨p1,p2⟩:=Zad F1.out rfl HLT.out HS.out hX st (.int .i64 a.kind) (.int .i64 a.line) (.string ⟨a.text.toArray⟩) u;have P1:=hid p1;have P2:=hid p2;have HZF:=hid (setFour_heap hzX (.int .i64 a.kind) (.int .i64 a.line) (.string ⟨a.text.toArray⟩) u);clear hX st hzX p1 p2;rcases hrn.shape with rfl|⟨iv,yv,rfl⟩
   all_goals
    clear hrn;go_wp2;(try simp only[Exit.inBlock,Exit.then]);exact bodyPost_ret (Zo rfl rfl HZF.out rfl rfl rfl rfl) rfl ⟨_,S',rfl,⟨_,rfl,HRN.out⟩,P1.out,P2.out⟩
 rw[if_neg h43];by_cases hp:c=43
 ·have hsec:second=false:=by cases second with|false=>rfl|true=>exact absurd ⟨hp,rfl⟩ h43
  subst hsec;subst hp;rw[show(((43:UInt8).toNat:Nat):Int)=43 from rfl]at HN;clear hd hc h36 h47 h92 h43 n36 n47 n92;go_enter Tryz.func83,Tryz.ntmps83;go_wp2_with(rw[←HW1.out]);refine HN.out.mono ?_;rintro e w2 ⟨rfl,f2⟩;have hX:ARd b l x ⟨at0,ms0,0⟩ S w2:=⟨mv,H1.out.on f2⟩;have st:=(Stp.of f2:Stp S w1 S w2);clear f2;have hzX:=ZH rfl HS.out HZ.out st;have rz:=Zl hzX _ (Fr.refl _ _);obtain⟨p1,p2⟩:=Zad F1.out rfl HLT.out HS.out hX st (.int .i64 0) (.int .i64 0) (.string ⟨#[]⟩) .nilIface;have P1:=hid p1;have P2:=hid p2;have HZF:=hid (setFour_heap hzX (.int .i64 0) (.int .i64 0) (.string ⟨#[]⟩) .nilIface);clear hX st hzX p1 p2;go_wp2;(try simp only[Exit.inBlock,Exit.then]);exact bodyPost_ret (Zo rfl rfl HZF.out rfl rfl rfl rfl) rfl ⟨_,S,rfl,ZkS.nil 0 0 [],P1.out,P2.out⟩
 have n43:((c.toNat:Int)==43)=false:=by
  have:c.toNat≠43:=fun h=>hp (UInt8.toNat_inj.1 h);simp;omega
 by_cases hd1:48≤c.toNat
 ·have q1:(48:Int)≤(c.toNat:Int):=by omega
  have q2:¬(c.toNat:Int)≤57:=by omega
  clear hd hc h36 h47 h92 h43 hp hd1;go_enter Tryz.func83,Tryz.ntmps83;go_wp2_with(rw[←HW1.out]);refine HN.out.mono ?_;rintro e w2 ⟨rfl,f2⟩;have hX:ARd b l x ⟨at0,ms0,0⟩ S w2:=⟨mv,H1.out.on f2⟩;have st:=(Stp.of f2:Stp S w1 S w2);clear f2;have hzX:=ZH rfl HS.out HZ.out st;have rz:=Zl hzX _ (Fr.refl _ _);obtain⟨p1,p2⟩:=Zad F1.out rfl HLT.out HS.out hX st (.int .i64 0) (.int .i64 0) (.string ⟨#[]⟩) .nilIface;have P1:=hid p1;have P2:=hid p2;have HZF:=hid (setFour_heap hzX (.int .i64 0) (.int .i64 0) (.string ⟨#[]⟩) .nilIface);clear hX st hzX p1 p2;go_wp2;(try simp only[Exit.inBlock,Exit.then]);exact bodyPost_ret (Zo rfl rfl HZF.out rfl rfl rfl rfl) rfl ⟨_,S,rfl,ZkS.nil 0 0 [],P1.out,P2.out⟩
 ·have q1:¬(48:Int)≤(c.toNat:Int):=by omega
  clear hd hc h36 h47 h92 h43 hp hd1;go_enter Tryz.func83,Tryz.ntmps83;go_wp2_with(rw[←HW1.out]);refine HN.out.mono ?_;rintro e w2 ⟨rfl,f2⟩;have hX:ARd b l x ⟨at0,ms0,0⟩ S w2:=⟨mv,H1.out.on f2⟩;have st:=(Stp.of f2:Stp S w1 S w2);clear f2;have hzX:=ZH rfl HS.out HZ.out st;have rz:=Zl hzX _ (Fr.refl _ _);obtain⟨p1,p2⟩:=Zad F1.out rfl HLT.out HS.out hX st (.int .i64 0) (.int .i64 0) (.string ⟨#[]⟩) .nilIface;have P1:=hid p1;have P2:=hid p2;have HZF:=hid (setFour_heap hzX (.int .i64 0) (.int .i64 0) (.string ⟨#[]⟩) .nilIface);clear hX st hzX p1 p2;go_wp2;(try simp only[Exit.inBlock,Exit.then]);exact bodyPost_ret (Zo rfl rfl HZF.out rfl rfl rfl rfl) rfl ⟨_,S,rfl,ZkS.nil 0 0 [],P1.out,P2.out⟩
structure GV where
 a:AV
 b:AV
 no:Bool
abbrev ZpG:=(Int×Nat)⊕(GV×AdS)
def Zbc(x:Bool)(l:List UInt8)(s:AdS):ZlK:=
 if byt l (bhd l [32,9] s.at_)=44 then
  (match addrD x l true ⟨bhd l [32,9] (bhd l [32,9] s.at_+1),s.marks,0⟩with
  | .inl e=>.inl e
  | .inr (a,s')=>if a.kind=0 then .inl (12,s'.at_)else .inr (a,s'))
 else .inr (AV.zero,⟨bhd l [32,9] s.at_,s.marks,0⟩)
def ZgT(l:List UInt8)(a b:AV)(s:AdS):ZpG:=
 if byt l (bhd l [32,9] s.at_)=33 then
  (if byt l (bhd l [32,9] (bhd l [32,9] s.at_+1))=33 then .inl (15,bhd l [32,9] (bhd l [32,9] s.at_+1))
  else .inr (⟨a,b,true⟩,⟨bhd l [32,9] (bhd l [32,9] s.at_+1),s.marks,0⟩))
 else .inr (⟨a,b,false⟩,⟨bhd l [32,9] s.at_,s.marks,0⟩)
def ZX(x:Bool)(l:List UInt8)(s:AdS):ZpG:=
 match addrD x l false s with
 | .inl e=>.inl e
 | .inr (a,s1)=>
   match(if a.kind=0 then .inr (AV.zero,s1)else Zbc x l s1:ZlK)with
   | .inl e=>.inl e
   | .inr (b,s2)=>ZgT l a b s2
theorem ZkV(at_:Nat):∀(r:List UInt8) (n c:Nat),(nm at_ r n c).2.1≤at_+c+r.length
 |[],n,c=>by rw[nm];split<;>simp
 |b::r,n,c=>by
  have ih:=ZkV at_ r (n*10+(b.toNat-48)) (c+1);rw[nm];split
  ·split
   ·simp;omega
   ·simp only[List.length_cons];omega
  ·split<;>simp<;>omega
theorem bt_in(l:List UInt8)(d:UInt8)(rx:Bool):∀(n k:Nat) (out:List UInt8),(bt l d rx n k out).2.2=0→(bt l d rx n k out).2.1≤l.length
 |0,k,out=>by simp[bt]
 |n+1,k,out=>by
  rw[bt];cases hc:l[k]? with
  |none=>simp
  |some c=>
   have hk:=(List.getElem?_eq_some_iff.1 hc).1;simp only;split
   ·intro _;exact hk
   ·split
    ·split
     ·exact bt_in l d rx n _ _
     ·next h=>intro h';exact absurd h' h
    ·generalize(if c=91∧rx=true then brE l k-k else 1)=m;split
     ·exact bt_in l d rx n _ _
     ·intro h;cases h
theorem bhd_le(l cs:List UInt8)(k:Nat):bhd l cs k≤l.length:=Nat.sub_le _ _
theorem ZkW{l:List UInt8}{s:AdS}{z:Int×Nat}(h:Zdj l s=.inl z):z.1≠0:=by
 unfold Zdj at h;split at h
 ·next h0=>injection h with h;subst h;exact h0
 ·split at h
  ·injection h with h;subst h;intro e;cases e
  ·cases h
theorem moreD_err{l:List UInt8}{s:AdS}{z:Int×Nat}(h:moreD l s=.inl z):z.1≠0:=by
 unfold moreD at h;split at h
 ·next h0=>injection h with h;subst h;exact h0
 ·cases h
theorem regexD_err{x:Bool}{l:List UInt8}{d:UInt8}{s:AdS}{z:Int×Nat}(h:ZaE x l d s=.inl z):z.1≠0:=by
 unfold ZaE at h;split at h
 ·next h0=>injection h with h;subst h;exact h0
 ·split at h
  ·injection h with h;subst h;intro e;cases e
  ·split at h
   ·next y hp=>injection h with h;subst h;show y.1≠0;exact parseD_err hp
   ·cases h
theorem addrD_err{x:Bool}{l:List UInt8}{sec:Bool}{s:AdS}{z:Int×Nat}(h:addrD x l sec s=.inl z):z.1≠0:=by
 unfold addrD at h;split at h
 ·exact ZkW h
 ·split at h
  ·cases h
  ·split at h
   ·exact regexD_err h
   ·split at h
    ·split at h
     ·injection h with h;subst h;intro e;cases e
     ·exact regexD_err h
    ·split at h
     ·exact moreD_err h
     ·cases h
structure Fwd(l:List UInt8)(s s':AdS):Prop where
 le:s'.at_≤l.length
 mks:s'.marks.length≤s.marks.length+l.length+1
 ok:s'.e=0
theorem Zmz{l:List UInt8}{s s':AdS}{a:AV}(hs:s.at_≤l.length)(h:Zdj l s=.inr (a,s')):Fwd l s s':=by
 unfold Zdj at h;split at h
 ·cases h
 ·split at h
  ·cases h
  ·injection h with h;injection h with h1 h2;subst h2;have:=ZkV s.at_ (l.drop s.at_) 0 0;rw[List.length_drop]at this;exact⟨by show(nm s.at_ (l.drop s.at_) 0 0).2.1≤_;omega,by show s.marks.length≤_;omega,rfl⟩
theorem ZmA{l:List UInt8}{s s':AdS}{a:AV}(hs:s.at_+1≤l.length)(h:moreD l s=.inr (a,s')):Fwd l s s':=by
 unfold moreD at h;split at h
 ·cases h
 ·injection h with h;injection h with h1 h2;subst h2;have:=ZkV (s.at_+1) (l.drop (s.at_+1)) 0 0;rw[List.length_drop]at this;exact⟨by show(nm (s.at_+1) (l.drop (s.at_+1)) 0 0).2.1≤_;omega,by show(s.marks++_).length≤_;rw[List.length_append];simp,rfl⟩
theorem Zgk{x:Bool}{l:List UInt8}{d:UInt8}{s s':AdS}{a:AV}(h:ZaE x l d s=.inr (a,s')):Fwd l s s':=by
 unfold ZaE at h;split at h
 ·cases h
 ·next h0=>
  split at h
  ·cases h
  ·split at h
   ·cases h
   ·next t r hp=>
    injection h with h;injection h with h1 h2;subst h2;have h0:(bt l d true (l.length+1) s.at_ []).2.2=0:=by simpa using h0
    have h1:=bt_in l d true (l.length+1) s.at_ [] h0;have h2:=ZdC l d true (l.length+1) s.at_ [];have h3:=(parseD_marks hp).2.1;simp only[List.length_nil,Nat.zero_add]at h2;exact⟨h1,by show(s.marks++_).length≤_;rw[List.length_append,List.length_map];omega,rfl⟩
theorem Zam{x:Bool}{l:List UInt8}{sec:Bool}{s s':AdS}{a:AV}(hs:s.at_≤l.length)(hs0:s.e=0)(h:addrD x l sec s=.inr (a,s')):Fwd l s s':=by
 unfold addrD at h;split at h
 ·exact Zmz hs h
 ·split at h
  ·next hc=>
   injection h with h;injection h with h1 h2;subst h2;have:=ZaO (l:=l) (k:=s.at_) (by rw[hc];decide);exact⟨this,by show s.marks.length≤_;omega,rfl⟩
  ·split at h
   ·have:=Zgk h;exact⟨this.le,this.mks,this.ok⟩
   ·split at h
    ·split at h
     ·cases h
     ·have:=Zgk h;exact⟨this.le,this.mks,this.ok⟩
    ·split at h
     ·next hc=>
      have:=ZaO (l:=l) (k:=s.at_) (by rw[hc.1];decide);exact ZmA this h
     ·injection h with h;injection h with h1 h2;subst h2;exact⟨hs,by omega,hs0⟩
theorem pairD_err{x:Bool}{l:List UInt8}{s:AdS}{z:Int×Nat}(h:Zbc x l s=.inl z):z.1≠0:=by
 unfold Zbc at h;split at h
 ·split at h
  ·next y hp=>injection h with h;subst h;exact addrD_err hp
  ·split at h
   ·injection h with h;subst h;intro e;cases e
   ·cases h
 ·cases h
theorem pairD_in{x:Bool}{l:List UInt8}{s s':AdS}{a:AV}(h:Zbc x l s=.inr (a,s')):Fwd l s s':=by
 unfold Zbc at h;split at h
 ·split at h
  ·cases h
  ·next b s1 hp=>
   split at h
   ·cases h
   ·injection h with h;injection h with h1 h2;subst h2;have:=Zam (bhd_le _ _ _) rfl hp;exact⟨this.le,this.mks,this.ok⟩
 ·injection h with h;injection h with h1 h2;subst h2;exact⟨bhd_le _ _ _,by show s.marks.length≤_;omega,rfl⟩
end Go.Proofs.YtkfddjopbocpkaaGreatDoor
