/- Lemmas of this claim. -/
import Derived.Test.YtgllcniibbaoaaaGreatDoorK17
set_option linter.all false
set_option maxRecDepth 100000
set_option maxHeartbeats 24000000
namespace Go.Proofs.YtgllcniibbaoaaaGreatDoor
open Go.Lib (hid)
open Go.RowKit
theorem Zag{fn:Func}{p q:Tmp}(h:fn.results= #[.cell p 132,.tmp q]){tmps:Array Value}{b:Nat}(ht:tmps.getD p undef=.pointer (some ⟨b,0,none⟩)){u:Value}(hq:tmps.getD q undef=u){W:World}{s:S4}
 (hb:W.heap[b]? =some (.cells #[.int .u64 s.a,.int .u64 s.b,.int .u64 s.c,.int .u64 s.d] 132 (0,0))):(results fn tmps).run Tryz.prog W=.ok (.tuple #[ZcR s,u]) W:=by
 have c0:=cell_at (j:=0) (v:=.int .u64 s.a) hb rfl;have c1:=cell_at (j:=1) (v:=.int .u64 s.b) hb rfl;have c2:=cell_at (j:=2) (v:=.int .u64 s.c) hb rfl;have c3:=cell_at (j:=3) (v:=.int .u64 s.d) hb rfl;have f:tmps[p]?.getD undef=.pointer (some ⟨b,0,none⟩):=by rw[←ht];simp
 have e:tmps[q]?.getD undef=u:=by rw[←hq];simp
 simp only[results,h];simp[f,e,go_sem,c0,c1,c2,c3]
theorem ZcV(x:ByteArray)(o:Option (Int→Bool))(ho:Zak x=o)(w:World):Calls Tryz.prog 172 #[.string x] w fun e w'=>e=.returned (ZcR (ZaD o))∧Fr nob w w':=by
 have hc:=fun w=>Zb5 x _ ho w;obtain⟨s,hs⟩:∃s,ZaD o=s:=⟨_,rfl⟩;rw[hs]at hc⊢;have HC:=hid hc;clear hc hs;go_enter Tryz.func172,Tryz.ntmps172;go_wp2_with fail;refine(HC.out _).mono ?_;rintro e w1 ⟨rfl,f1⟩;have f:=f1.heap (newAt0 w _) (fun x=>x);have rr:=Zl f;have HB:=hid f;have F1:=hid f1;clear f1 f;go_wp2;have g:=heap_alloc_lt (w:=w1) (.cells #[.int .u64 s.a,.int .u64 s.b,.int .u64 s.c,.int .u64 s.d] 132) HB.out;exact bodyPost_ret (Zs (s:=s) rfl rfl (setFour_heap g _ _ _ _)) rfl ⟨rfl,Zp ((((Fr.refl nob w).alloc _).trans' F1.out).alloc _) (Nat.le_refl _) _ _ _ _⟩
def ZkK(b:UInt8):S4×Bool:=
 match ZjI b with
 |some (c,_)=>(c,true)
 |none=>(spn b.toNat b.toNat,false)
theorem ZkL{b:UInt8}(h1:b≠110)(h2:b≠116)(h3:b≠119)(h4:b≠87)(h5:b≠115)(h6:b≠83):ZkK b=(spn b.toNat b.toNat,Za0.has b.toNat):=by
 unfold ZkK ZjI;rw[if_neg h1,if_neg h2,if_neg h3,if_neg h4,if_neg h5,if_neg h6];cases Za0.has b.toNat<;>rfl
abbrev Zn6(R:S4×Bool)(w:World)(e:Ending)(w':World):Prop:=e=.returned (.tuple #[ZcR R.1,.bool R.2])∧Fr nob w w'
theorem ZpE(b:UInt8)(w:World):Calls Tryz.prog 152 #[.int .i32 (b.toNat:Int)] w fun e w'=>Zn6 (ZkK b) w e w':=by
 obtain⟨w0,j⟩:∃w0,w0=w.alloc (.cells #[.int .u64 0,.int .u64 0,.int .u64 0,.int .u64 0] 132):=⟨_,rfl⟩;have hz:w0.heap[w.heap.size]? =some (.cells #[.int .u64 0,.int .u64 0,.int .u64 0,.int .u64 0] 132 (0,0)):=by rw[j];exact newAt0 w _
 have F0:=hid (show Fr nob w w0 by rw[j];exact(Fr.refl _ _).alloc _);have c:w0.heap.size=w.heap.size+1:=by rw[j];simp
 have rr:=Zl hz;have HZ:=hid hz;have HW:=hid j;clear hz j;by_cases d:b=110
 case' pos=>
  subst d;rw[show ZkK 110=(spn 10 10,true)from rfl];obtain⟨s,hs⟩:∃s,spn 10 10=s:=⟨_,rfl⟩;have ho:∀(W:World) (T:TypeId),Calls Tryz.prog 116 #[.slice (some ⟨W.heap.size,0,none⟩) 1 1] (W.alloc (.cells #[.int .u8 10] T)) fun e w'=>e=.returned (ZcR (spn 10 10))∧Fr nob (W.alloc (.cells #[.int .u8 10] T)) w':=fun W T=>Zb6 10 W T;rw[hs]at ho⊢;have a:=ho w0 5;rw[c]at a;have HA:=hid a;clear ho a hs c
 rotate_left
 have o:((b.toNat:Int)==110)=false:=Zn (b:=110) d;by_cases g:b=116
 case' pos=>
  subst g;rw[show ZkK 116=(spn 9 9,true)from rfl];obtain⟨s,hs⟩:∃s,spn 9 9=s:=⟨_,rfl⟩;have ho:∀(W:World) (T:TypeId),Calls Tryz.prog 116 #[.slice (some ⟨W.heap.size,0,none⟩) 1 1] (W.alloc (.cells #[.int .u8 9] T)) fun e w'=>e=.returned (ZcR (spn 9 9))∧Fr nob (W.alloc (.cells #[.int .u8 9] T)) w':=fun W T=>Zb6 9 W T;rw[hs]at ho⊢;have a:=ho w0 5;rw[c]at a;have HA:=hid a;clear ho a hs c
 rotate_left
 have r:((b.toNat:Int)==116)=false:=Zn (b:=116) g;by_cases h:b=119
 case' pos=>
  subst h;rw[show ZkK 119=(Zdz,true)from rfl];unfold Zdz;have hc:=ZcV ⟨#[97,108,110,117,109]⟩ _ rfl w0;obtain⟨s0,hs⟩:∃s,ZaD (Zak ⟨#[97,108,110,117,109]⟩)=s:=⟨_,rfl⟩;rw[hs]at hc⊢;have ho:=ZnW;obtain⟨u,hu⟩:∃u,spn 95 95=u:=⟨_,rfl⟩;rw[hu]at ho⊢;have hr:=fun w=>ZfK s0 u w;obtain⟨s,hq⟩:∃q,s0.or u=q:=⟨_,rfl⟩;rw[hq]at hr⊢;have HO:=hid ho;have HA:=hid hc;have HR:=hid hr;clear ho hc hr hs hu hq c
 rotate_left
 have t:((b.toNat:Int)==119)=false:=Zn (b:=119) h;by_cases l:b=87
 case' pos=>
  subst l;rw[show ZkK 87=(Zdz.not,true)from rfl];unfold Zdz;have hc:=ZcV ⟨#[97,108,110,117,109]⟩ _ rfl w0;obtain⟨s0,hs⟩:∃s,ZaD (Zak ⟨#[97,108,110,117,109]⟩)=s:=⟨_,rfl⟩;rw[hs]at hc⊢;have ho:=ZnW;obtain⟨u,hu⟩:∃u,spn 95 95=u:=⟨_,rfl⟩;rw[hu]at ho⊢;have hr:=fun w=>ZfK s0 u w;obtain⟨q,hq⟩:∃q,s0.or u=q:=⟨_,rfl⟩;rw[hq]at hr⊢;have hn:=fun w=>not_lit q w;obtain⟨s,i⟩:∃n,q.not=n:=⟨_,rfl⟩;rw[i]at hn⊢;have HN:=hid hn;have HO:=hid ho;have HA:=hid hc;have HR:=hid hr;clear hn i ho hc hr hs hu hq c
 rotate_left
 have A:((b.toNat:Int)==87)=false:=Zn (b:=87) l;by_cases f:b=115
 case' pos=>
  subst f;rw[show ZkK 115=(spaceS,true)from rfl];unfold spaceS;have hc:=ZcV ⟨#[115,112,97,99,101]⟩ _ rfl w0;obtain⟨s,hs⟩:∃s,ZaD (Zak ⟨#[115,112,97,99,101]⟩)=s:=⟨_,rfl⟩;rw[hs]at hc⊢;have HA:=hid hc;clear hc hs c
 rotate_left
 have p:((b.toNat:Int)==115)=false:=Zn (b:=115) f;by_cases k:b=83
 case' pos=>
  subst k;rw[show ZkK 83=(spaceS.not,true)from rfl];unfold spaceS;have hc:=ZcV ⟨#[115,112,97,99,101]⟩ _ rfl w0;obtain⟨s0,hs⟩:∃s,ZaD (Zak ⟨#[115,112,97,99,101]⟩)=s:=⟨_,rfl⟩;rw[hs]at hc⊢;have hn:=fun w=>not_lit s0 w;obtain⟨s,i⟩:∃n,s0.not=n:=⟨_,rfl⟩;rw[i]at hn⊢;have HN:=hid hn;have HA:=hid hc;clear hn i hc hs c
 rotate_left
 ·have y:((b.toNat:Int)==83)=false:=Zn (b:=83) k;rw[ZkL d g h l f k];clear d g h l f k;have hb:=b.toNat_lt;have m:Za0.fit:=Zdd _;have hc:=fun w=>ZcV ⟨#[112,117,110,99,116]⟩ _ rfl w;rw[show ZaD (Zak ⟨#[112,117,110,99,116]⟩)=Za0 from rfl]at hc;have hh:=fun w=>Zj2 Za0 b.toNat w m (by omega);obtain⟨u,hu⟩:∃u,spn b.toNat b.toNat=u:=⟨_,rfl⟩;have ho:=Zb6 b;rw[hu]at ho⊢;obtain⟨q,hq⟩:∃q,Za0.has b.toNat=q:=⟨_,rfl⟩;rw[hq]at hh⊢;obtain⟨s,hs⟩:∃s,Za0=s:=⟨_,rfl⟩;rw[hs]at hc hh;have v:IntKind.u8.wrap (b.toNat:Int)=b.toNat:=IntWalk.u8_in _ (by omega);have HO:=hid ho;have HC:=hid hc;have HH:=hid hh;have a:=ho w0 5;rw[c]at a;have HO:=hid a;clear ho a hc hh hu hq hs m c;go_enter Tryz.func152,Tryz.ntmps152;go_wp2_with fail;rw[←HW.out];with_reducible refine(HO.out).mono ?_
  rintro e w1 ⟨rfl,f1⟩;go_wp2_with fail;with_reducible refine(HC.out _).mono ?_
  rintro e w2 ⟨rfl,f2⟩;go_wp2_with fail;with_reducible refine(HH.out _).mono ?_
  rintro e w3 ⟨rfl,f3⟩;have f9:Fr nob w0 w3:=((((Fr.refl _ _).alloc _).trans' f1).trans' f2).trans' f3;clear f1 f2 f3;go_wp2;exact bodyPost_ret (Zag (s:=u) rfl rfl rfl (setFour_heap (f9.heap HZ.out (fun x=>x)) _ _ _ _)) rfl ⟨rfl,Zp (F0.out.trans' f9) (Nat.le_refl _) _ _ _ _⟩
 all_goals
  go_enter Tryz.func152,Tryz.ntmps152;go_wp2_with fail;rw[←HW.out];with_reducible refine HA.out.mono ?_
  rintro e w1 ⟨rfl,f1⟩;have f9:Fr nob w0 w1:=by first|exact f1|exact((Fr.refl _ _).alloc _).trans' f1
  clear f1
  (try(go_wp2_with fail;with_reducible refine(HO.out w1 _).mono ?_;rintro e w2 ⟨rfl,f2⟩;replace f9:=(f9.alloc _).trans' f2;clear f2;go_wp2_with fail;with_reducible refine(HR.out _).mono ?_;rintro e w3 ⟨rfl,f3⟩;replace f9:=f9.trans' f3;clear f3))
  (try(go_wp2_with fail;with_reducible refine(HN.out _).mono ?_;rintro e w4 ⟨rfl,f4⟩;replace f9:=f9.trans' f4;clear f4))
  go_wp2;exact bodyPost_ret (Zag (s:=s) rfl rfl rfl (setFour_heap (f9.heap HZ.out (fun x=>x)) _ _ _ _)) rfl ⟨rfl,Zp (F0.out.trans' f9) (Nat.le_refl _) _ _ _ _⟩
theorem Zge(b:UInt8)(hb:b.toNat<128):Utf8.encode (b.toNat:Int)=⟨#[b]⟩:=by
 have hv:Utf8.valid (b.toNat:Int)=true:=by unfold Utf8.valid;simp;omega
 unfold Utf8.encode;simp only[hv,if_true,Int.toNat_natCast];rw[if_pos hb];simp
theorem Zca{P:Program}{w:World}(f:Value→ByteArray→Sem (ForInStep ByteArray))(hf:∀(n:Int) (r:ByteArray),(f (.int .i32 n) r).run P w=.ok (.yield (r++Utf8.encode n)) w):
 ∀(bs:List UInt8) (s:ByteArray),(∀b∈bs,b.toNat<128)→(forIn (Zbk bs) s f).run P w=.ok ⟨s.data++bs.toArray⟩ w
 |[],s,_=>by
  have:(⟨s.data++ #[]⟩:ByteArray)=s:=by apply ByteArray.ext;simp
  simp[Zbk,Sem.run_pure,this]
 |b::bs,s,h=>by
  simp only[Zbk,List.map_cons,List.forIn_cons,Sem.run_bind,hf,Result.andThen];rw[Zge b (h b (by simp))];have:=Zca f hf bs (s++⟨#[b]⟩) (fun x hx=>h x (by simp[hx]));rw[show(forIn (List.map (fun c:UInt8=>Value.int .i32 (c.toNat:Int)) bs) (s++⟨#[b]⟩) f)=forIn (Zbk bs) (s++⟨#[b]⟩) f from rfl,this]
  congr 1
  apply ByteArray.ext;simp
theorem Zer{P:Program}{src dst e:TypeId}(hs:P.underlying src=some (.slice e))(he:P.underlying e=some (.int .i32))(hd:P.underlying dst=some .string)(a:Addr)(cap:Nat)(bs:List UInt8)(hb:∀b∈bs,b.toNat<128)(W:World)
 (hc:∀j v,(Zbk bs)[j]? =some v→W.cell? (a.add j)=some v):
 (convert src dst (.slice (some a) bs.length cap)).run P W=.ok (.string ⟨bs.toArray⟩) W:=by
 have hl:=run_loadCells_list (P:=P) W a (Zbk bs) hc;rw[show(Zbk bs).length=bs.length from by simp[Zbk]]at hl;rw[show(convert src dst (.slice (some a) bs.length cap)).run P W=(Conv.runesToString (.slice (some a) bs.length cap)).run P W from by simp[convert,run_underlying hs,run_underlying hd,run_underlying he]];unfold Conv.runesToString;simp only[Sem.run_bind,hl,Result.andThen,List.forIn_toArray];rw[Zca _ (by intro n r;simp[Sem.run_pure]) bs _ hb];simp[Sem.run_pure]
theorem run_conv_runes2(c:UInt8)(hc:c.toNat<128)(g:Nat)(W:World){T:TypeId}(hb:W.heap[g]? =some (.cells #[.int .i32 92,.int .i32 (c.toNat:Int)] T (0,0))):
 (convert 89 9 (.slice (some ⟨g,0,none⟩) 2 2)).run Tryz.prog W=.ok (.string ⟨#[92,c]⟩) W:=by
 refine Zer Tryz.underlying89 Tryz.underlying21 Tryz.underlying9 _ 2 [92,c] (by intro b h;simp at h;rcases h with rfl|rfl;decide;exact hc) W ?_;intro j v hj
 match j,hj with
 |0,hj=>simp[Zbk]at hj;subst hj;exact cell_at hb rfl
 |1,hj=>simp[Zbk]at hj;subst hj;exact cell_at hb rfl
section
variable {b:Nat} {l:List UInt8} {s:ES} {S:Nat→Prop} {sv:Value} {m:Nat} {mv v':Value} {w W0 w3:World}
theorem Er.pushM(h:Er b l s S sv m mv w)(f:Fr nob w W0)(hap:Appd 1 mv v' W0 w3){t:List UInt8}
 (hown:w3.ownsRow 0 95 2 v' (s.r.marks.length+1) (mkC s.r.marks++[.int .i64 s.r.at_,.string ⟨t.toArray⟩])):
 (w3.cell? ⟨b,5,none⟩=some mv∧w3.frozen? ⟨b,5,none⟩=false)∧Erd b l (s.mark t) (Zf0 S v') (w3.setCell ⟨b,5,none⟩ v')∧Stp S w (Zf0 S v') (w3.setCell ⟨b,5,none⟩ v'):=by
 have h0:=h.on f;have c:=hap.fr.heap h0.blk (fun e=>(h.nm b e).1 rfl);have n:=f.size;have hb:=lt_heap h.blk;have hm:=h.mp.lt;have d:=(Fr.refl (fun k=>k=b) w3).setCell (p:=⟨b,5,none⟩) (fun _=>rfl) v';have a:∀k,v'.ownBlock=some k→(k≠b∧k≠m)∧∀j,sv.ownBlock=some j→k≠j:=fun k e=>by
  rcases hap.old k e with h1|h1
  ·obtain⟨n1,n2,n3⟩:=h.nm k h1;exact⟨⟨n1,n2⟩,fun j hj e=>(h.ns j hj).2 (e▸n3)⟩
  ·exact⟨⟨by omega,by omega⟩,fun j hj e=>by have:=(h.ns j hj).1;omega⟩
 have i:=ownsRow_fr h0.sg hap.fr (fun k hk e=>(h.ns k hk).2 (h.nm k e).2.2);have g:=h0.mp.fr hap.fr (fun e=>(h.nm m e).2.1 rfl);refine⟨⟨cell_at c rfl,ZF c 5⟩,⟨sv,m,v',by have:=Za c 5 v';simpa[RxS.mark,ES.mark]using this,ownsRow_fr i d (fun k hk e=>(h.ns k hk).2 (e▸h.me)),g.fr d (fun e=>h.bm e.symm),?_,fun k hk=>⟨(a k hk).1.1,(a k hk).1.2,.inr hk⟩,h.bm,fun k hk=>⟨(h.ns k hk).1,fun x=>x.elim (h.ns k hk).2 (fun y=>(a k y).2 k hk rfl)⟩,.inl h.me,.inl h.mm,h.ok⟩,?_,?_,?_⟩
 ·have:=ownsRow_fr hown d (fun k hk e=>(a k hk).1.1 e);unfold OwM;simp only[ES.mark,RxS.mark,List.length_append,List.length_singleton,Zch];exact this
 ·exact(f.any.trans (hap.fr.mono (T:=S) fun k _ hk=>(h.nm k hk).2.2) (fun _ _ x=>x)).setCell (p:=⟨b,5,none⟩) (fun _=>h.me) v'
 ·intro k hk hx;rcases hx with hx|hx
  ·exact hx
  ·rcases hap.old k hx with h1|h1
   ·exact(h.nm k h1).2.2
   ·omega
 ·intro hl k hk;have hz:(w3.setCell ⟨b,5,none⟩ v').heap.size=w3.heap.size:=by simp[World.setCell]
  rw[hz];rcases hk with hk|hk
  ·have:=hl k hk;have:=hap.fr.size;omega
  ·exact Z3 hown k hk
end
def Zmo(b:Nat)(l:List UInt8)(S O:Nat→Prop)(w:World)(q:Nd×ES)(x:Ending)(w':World):Prop:=
 ∃v S',x=.returned v∧RN (SO S' O) w' q.1 v∧Erd b l q.2 S' w'∧Stp S w S' w'
theorem ZeH{c:UInt8}(h:ZdK c=true):c=116∨c=119∨c=87∨c=115∨c=83∨c=49∨c=50∨c=51∨c=52∨c=53∨c=54∨c=55∨c=56∨c=57:=by
 unfold ZdK at h;simp only[Bool.or_eq_true,beq_iff_eq,Bool.and_eq_true,decide_eq_true_eq]at h;rcases h with h|h|h|h|h|⟨h1,h2⟩
 ·simp[h]
 ·simp[h]
 ·simp[h]
 ·simp[h]
 ·simp[h]
 ·have:∀n:Nat,49≤n→n≤57→n=49∨n=50∨n=51∨n=52∨n=53∨n=54∨n=55∨n=56∨n=57:=fun n _ _=>by omega
  have a:∀d:UInt8,c.toNat=d.toNat→c=d:=fun d e=>UInt8.toNat_inj.1 e;rcases this c.toNat h1 h2 with e|e|e|e|e|e|e|e|e
  ·have:=a 49 e;simp[this]
  ·have:=a 50 e;simp[this]
  ·have:=a 51 e;simp[this]
  ·have:=a 52 e;simp[this]
  ·have:=a 53 e;simp[this]
  ·have:=a 54 e;simp[this]
  ·have:=a 55 e;simp[this]
  ·have:=a 56 e;simp[this]
  ·have:=a 57 e;simp[this]
theorem ZkM(b:Nat)(l:List UInt8)(s:ES)(S O:Nat→Prop)(w:World)(hl:l.length≤100000)(ha:s.r.at_<l.length)(hs:Sane l s.r)(hlt:∀k,S k→k<w.heap.size)(h:Erd b l s S w):
 Calls Tryz.prog 128 #[.pointer (some ⟨b,0,none⟩)] w (Zmo b l S O w (ZkG l s)):=by
 obtain⟨R,hR⟩:∃R,ZkG l s=R:=⟨_,rfl⟩;rw[hR];have j:=fun w' (f:Fr nob w w')=>Zgc b l s S 1 w' hl (by omega) (by omega) (h.on f);have HH:=hid h;obtain⟨sv,m,mv,hE⟩:=h;have rr:=rule8 hE.blk;have HE:=hid hE;have b1:=hid hlt;have HS:=hid hs;unfold ZkG at hR;cases hc:l[s.r.at_+1]? with
 |none=>
  rw[hc]at hR j;simp only at hR;subst hR;have HB:=hid j;clear hE hlt hs j hc;go_enter Tryz.func128,Tryz.ntmps128;go_wp2_with fail;refine region_fr 6 (by kernel_rfl) (by kernel_rfl) ?_;simp only[List.take_succ_cons,List.take_zero,List.drop_succ_cons,List.drop_zero]
  repeat(quiet_step ((with_reducible exact calls_fr (HB.out _ (grown_fr _ _ _)))))
  refine wpQuiet_nil ?_;intro w1 f1;have hf:=Za4 b l s S 11 s.r.at_ w1 hl (by decide) (HH.out.on f1);have HF:=hid hf;have F1:=hid f1;clear hf f1;go_wp2_with fail;refine HF.out.mono ?_;rintro e w2 ⟨rfl,e2,t2⟩;have E2:=hid e2;have T2:=hid t2;clear e2 t2;go_wp2;go_ret;exact⟨.nilIface,S,rfl,by rw[RN],E2.out,(Stp.of F1.out).trans T2.out⟩
 |some c=>
  rw[hc]at hR j;simp only at hR;have c6:=ZK hc;have HB:=hid j;clear hE hlt j hc;go_enter Tryz.func128,Tryz.ntmps128;go_wp2_with fail;refine region_fr 6 (by kernel_rfl) (by kernel_rfl) ?_;simp only[List.take_succ_cons,List.take_zero,List.drop_succ_cons,List.drop_zero]
  repeat(quiet_step ((with_reducible exact calls_fr (HB.out _ (grown_fr _ _ _)))))
  refine wpQuiet_nil ?_;intro w1 f1;have d1:=c.toNat_lt;have d3:¬(c.toNat:Int)= -1:=by omega
  have g:=HE.out.on f1;have F1:=hid f1;have o:=hid g;clear f1 g rr;simp only[rnX];go_upto_block 0 with(fail)
  go_cut [] (fun w'=>∃S',Erd b l (if ZdK c then s.mark [92,c]else s) S' w'∧Stp S w1 S' w')
  case first=>
   go_upto_if 20 with(fail)
   go_cut [20] (fun v w'=>v=.bool (ZdK c)∧w1=w')
   case first=>
    cases hm:ZdK c with
    |true=>
     have B:=ZeH hm;have HM:=hid hm;clear hm;rcases Bool.eq_false_or_eq_true ((c.toNat:Int)==116)with n0|n0;rotate_left
     rcases Bool.eq_false_or_eq_true ((c.toNat:Int)==119)with n1|n1;rotate_left
     rcases Bool.eq_false_or_eq_true ((c.toNat:Int)==87)with n2|n2;rotate_left
     rcases Bool.eq_false_or_eq_true ((c.toNat:Int)==115)with n3|n3;rotate_left
     rcases Bool.eq_false_or_eq_true ((c.toNat:Int)==83)with n4|n4;rotate_left
     rcases Bool.eq_false_or_eq_true ((c.toNat:Int)==49)with n5|n5;rotate_left
     rcases Bool.eq_false_or_eq_true ((c.toNat:Int)==50)with n6|n6;rotate_left
     rcases Bool.eq_false_or_eq_true ((c.toNat:Int)==51)with n7|n7;rotate_left
     rcases Bool.eq_false_or_eq_true ((c.toNat:Int)==52)with n8|n8;rotate_left
     rcases Bool.eq_false_or_eq_true ((c.toNat:Int)==53)with n9|n9;rotate_left
     rcases Bool.eq_false_or_eq_true ((c.toNat:Int)==54)with Z|Z;rotate_left
     rcases Bool.eq_false_or_eq_true ((c.toNat:Int)==55)with a0|a0;rotate_left
     rcases Bool.eq_false_or_eq_true ((c.toNat:Int)==56)with a1|a1;rotate_left
     rcases Bool.eq_false_or_eq_true ((c.toNat:Int)==57)with a2|a2;rotate_left
     ·exfalso
      revert n0 n1 n2 n3 n4 n5 n6 n7 n8 n9 Z a0 a1 a2
      rcases B with rfl|rfl|rfl|rfl|rfl|rfl|rfl|rfl|rfl|rfl|rfl|rfl|rfl|rfl<;>decide
     all_goals clear B
     all_goals
      go_wp2;go_meet
      case rel=>exact⟨by rw[HM.out];try rw[n0],rfl⟩
    |false=>
     have n:∀d:UInt8,ZdK d=true→((c.toNat:Int)==d.toNat)=false:=fun d hd=>Zn fun e=>by rw[e,hd]at hm;cases hm
     have n0:((c.toNat:Int)==116)=false:=n 116 rfl;have n1:((c.toNat:Int)==119)=false:=n 119 rfl;have n2:((c.toNat:Int)==87)=false:=n 87 rfl;have n3:((c.toNat:Int)==115)=false:=n 115 rfl;have n4:((c.toNat:Int)==83)=false:=n 83 rfl;have n5:((c.toNat:Int)==49)=false:=n 49 rfl;have n6:((c.toNat:Int)==50)=false:=n 50 rfl;have n7:((c.toNat:Int)==51)=false:=n 51 rfl;have n8:((c.toNat:Int)==52)=false:=n 52 rfl;have n9:((c.toNat:Int)==53)=false:=n 53 rfl;have Z:((c.toNat:Int)==54)=false:=n 54 rfl;have a0:((c.toNat:Int)==55)=false:=n 55 rfl;have a1:((c.toNat:Int)==56)=false:=n 56 rfl;have a2:((c.toNat:Int)==57)=false:=n 57 rfl;have HM:=hid hm;clear n hm;go_wp2;go_meet
     case rel=>exact⟨by rw[HM.out],rfl⟩
   case rest=>
    obtain⟨rfl,rfl⟩:=hcut;cases hm:ZdK c with
    |true=>
     have a3:=rule8 o.out.blk;obtain⟨am,cm,b6⟩:=Zb o.out.ma;subst b6;obtain⟨i0,hi,b8,b9,c0⟩:=info_parts Zbv;have B:=ZeH hm;have A:c.toNat<128:=by rcases B with rfl|rfl|rfl|rfl|rfl|rfl|rfl|rfl|rfl|rfl|rfl|rfl|rfl|rfl<;>decide
     have C:∀W:World,W.heap[w1.heap.size]? =some (.cells #[.int .i32 92,.int .i32 (c.toNat:Int)] 21 (0,0))→(convert 89 9 (.slice (some ⟨w1.heap.size,0,none⟩) 2 2)).run Tryz.prog W=.ok (.string ⟨#[92,c]⟩) W:=fun W hW=>run_conv_runes2 c A _ W hW;have c2:=C (w1.alloc (.cells #[.int .i32 92,.int .i32 (c.toNat:Int)] 21)).drew (newAt0 w1 _);have c3:=C (w1.drew.alloc (.cells #[.int .i32 92,.int .i32 (c.toNat:Int)] 21)) (newAt0 w1.drew _);have r5:∀W,Fr nob w1 W→W.cell? ⟨b,5,none⟩=some (.slice am s.r.marks.length cm):=fun W f=>(a3 W f).1.2.2.2.2.2.1;have d6:∀X,(w1.alloc X).cell? ⟨b,5,none⟩=some (.slice am s.r.marks.length cm):=fun X=>r5 _ ((Fr.refl nob w1).alloc X);have d7:∀X Y,((w1.alloc X).alloc Y).cell? ⟨b,5,none⟩=some (.slice am s.r.marks.length cm):=fun X Y=>r5 _ (((Fr.refl nob w1).alloc X).alloc Y);have d2:=hs.mr;have HM:=hid hm;clear C A hm B;go_wp2_with fail
     go_region_law (refine step_append_g rfl (.tmp 39) (.tmp 45) 25 rfl 95 i0 (.agg #[.int .i64 0,.string ByteArray.empty]) 2 24 Tryz.underlying25 hi b8 b9 c0 rfl (by decide) (.slice am s.r.marks.length cm) s.r.marks.length (mkC s.r.marks) (by rfl) (ownsRow_fr o.out.ma (by repeat(first|exact Fr.refl _ _|apply Fr.alloc|apply Fr.drew)) (fun _ _ x=>x)) ⟨w1.heap.size+1,0,none⟩ 1 1 [.int .i64 s.r.at_,.string ⟨#[92,c]⟩] (by rfl) rfl (Zdg (t:=[92,c]) (by first|exact newAt0 _ _|exact heap_alloc_new' _ _ _ (by simp))) (Zf1 (t:=[92,c])) (by unfold maxLen;omega) (by omega) ?_;intro v' w3 i a7;obtain⟨av,d0,rfl⟩:=Zb i;obtain⟨⟨pc,pf⟩,q1,q2⟩:=o.out.pushM (t:=[92,c]) (by repeat(first|exact Fr.refl _ _|apply Fr.alloc|apply Fr.drew)) a7 i;have HQ:=hid q1;have HR:=hid q2;clear i a7 q1 q2)
     all_goals
      go_wp2;go_meet
      case rel=>rw[if_pos HM.out];exact⟨_,HQ.out,HR.out⟩
    |false=>
     have HM:=hid hm;clear hm;go_wp2;go_meet
     case rel=>rw[if_neg (by rw[HM.out];decide)];exact⟨S,⟨sv,m,mv,o.out⟩,Stp.refl _ _⟩
  case rest=>
   obtain⟨S1,h1,st1⟩:=hcut;have y:(if ZdK c then s.mark [92,c]else s).r.at_=s.r.at_:=by cases ZdK c<;>rfl
   have N:(if ZdK c then s.mark [92,c]else s).r.closed=s.r.closed:=by cases ZdK c<;>rfl
   obtain⟨s1,a9⟩:∃s1,(if ZdK c then s.mark [92,c]else s)=s1:=⟨_,rfl⟩;rw[a9]at hR h1 y N;obtain⟨d8,m1,d5,g⟩:=h1;have E:=(Stp.of F1.out).trans st1;have Q:∀k,S1 k→k<wc.heap.size:=E.lt b1.out;have G:=g.turned 2 (.int .i64 ((s.r.at_:Int)+2)) (s1.go 2) (by simp[ES.go,RxS.go,y]) rfl rfl g.ok;have a4:=E.trans (g.stp 2 (.int .i64 ((s.r.at_:Int)+2)));have a3:=rule8 g.blk wc (Fr.refl nob wc);rw[y]at a3;obtain⟨wD,M⟩:∃wD,wD=wc.setCell ⟨b,2,none⟩ (.int .i64 ((s.r.at_:Int)+2)):=⟨_,rfl⟩;rw[←M]at G a4;have c7:wD.heap.size=wc.heap.size:=by rw[M];simp[World.setCell]
   have HD:=hid M;have p:=hid G;have F:=hid a4;have b0:=hid Q;have c1:=rule8 G.blk wD (Fr.refl nob wD);clear g st1 E M a9 G a4 Q;by_cases hd:49≤c.toNat∧c.toNat≤57
   ·rw[if_pos hd]at hR;obtain⟨J,K⟩:=hd;have c4:(49:Int)≤c.toNat:=by omega
    have c5:(c.toNat:Int)≤57:=by omega
    obtain⟨n,hn⟩:∃n,c.toNat-48=n:=⟨_,rfl⟩;rw[hn]at hR;have D:((n:Nat):Int)=(c.toNat:Int)-48:=by omega
    have c8:IntKind.i32.wrap ((c.toNat:Int)-48)=(c.toNat:Int)-48:=IntWalk.i32_in _ (by omega);have c9:IntKind.i64.wrap ((c.toNat:Int)-48)=(c.toNat:Int)-48:=IntWalk.i64_in _ (by omega);have V:=ZfA (P:=Tryz.prog) (mty:=91) (kt:=3) (et:=3) Tryz.underlying91 Tryz.underlying3 (fun w=>by kernel_rfl) p.out.mp n;rw[show(s1.go 2).r.closed=s.r.closed from N,D]at V;cases hq:s.r.closed.contains n with
    |true=>
     rw[if_pos hq]at hR;subst hR;have H:¬((s.r.closed.count n:Nat):Int)=0:=by
      have:0<s.r.closed.count n:=List.count_pos_iff.2 (by simpa using hq);omega
     obtain⟨k,hk⟩:∃k,s.r.closed.count n=k:=⟨_,rfl⟩;rw[hk]at V H;have HN:=hid D;clear hq hk hn D J K;go_wp2_with(with_reducible rw[←HD.out]);go_ret;refine⟨.iface 116 (.agg #[.int .i64 ((c.toNat:Int)-48)]),S1,rfl,?_,⟨_,_,_,p.out⟩,F.out⟩;rw[←HN.out,RN]
    |false=>
     rw[if_neg (by rw[hq];decide)]at hR;subst hR;have H:s.r.closed.count n=0:=List.count_eq_zero.2 (by simpa using hq);rw[H]at V;have hf:=Za4 b l (s1.go 2) S1 9 s.r.at_ wD hl (by decide) ⟨_,_,_,p.out⟩;have HF:=hid hf;clear hf;have HN:=hid D;clear hq H hn D J K;go_wp2_with(with_reducible rw[←HD.out]);with_reducible refine HF.out.mono ?_
     rintro e w5 ⟨rfl,e5,t5⟩;have E5:=hid e5;have T5:=hid (F.out.trans t5);clear e5 t5;go_wp2;go_ret;refine⟨.iface 116 (.agg #[.int .i64 ((c.toNat:Int)-48)]),S1,rfl,?_,E5.out,T5.out⟩;rw[←HN.out,RN]
   ·rw[if_neg hd]at hR;have I:(c.toNat:Int)<49∨((49:Int)≤c.toNat∧¬(c.toNat:Int)≤57):=by omega
    have U:=ZpE c wD;have b4:∃u ok,ZkK c=(u,ok)∧((ok=true∧(Nd.one u,s1.go 2)=R)∨(ok=false∧(Nd.one u,(s1.go 2).fail l 2 s.r.at_)=R)):=by
     unfold ZkK;cases hb:ZjI c with
     |none=>rw[hb]at hR;exact⟨_,false,rfl,.inr ⟨rfl,hR⟩⟩
     |some q=>obtain⟨u,x⟩:=q;rw[hb]at hR;exact⟨u,true,rfl,.inl ⟨rfl,hR⟩⟩
    obtain⟨u,ok,hu,b5⟩:=b4;rw[hu]at U;have a5:=hid U;clear U hR hu hd;have a6:∀(w3:World),Fr nob wD w3→¬S1 w3.heap.size:=fun w3 f hk=>by have:=b0.out _ hk;have:=f.size;omega
    have b3:=hid a6;clear a6;rcases b5 with⟨rfl,rfl⟩|⟨rfl,rfl⟩
    ·rcases I with I|⟨J,K⟩
     all_goals
      go_wp2_with(with_reducible rw[←HD.out]);with_reducible refine a5.out.mono ?_
      rintro e w3 ⟨rfl,f3⟩;go_wp2;go_ret;exact⟨.iface 134 (.agg #[.int .u64 u.a,.int .u64 u.b,.int .u64 u.c,.int .u64 u.d]),S1,rfl,by rw[RN];rfl,⟨_,_,_,p.out.on (f3.alloc _)⟩,F.out.trans (Stp.of (f3.alloc _))⟩
    ·rcases I with I|⟨J,K⟩
     all_goals
      go_wp2_with(with_reducible rw[←HD.out]);with_reducible refine a5.out.mono ?_
      rintro e w3 ⟨rfl,f3⟩;obtain⟨w4,L⟩:∃w4,w4=w3.alloc (.cells #[.int .u64 u.a,.int .u64 u.b,.int .u64 u.c,.int .u64 u.d] 132):=⟨_,rfl⟩;have f4:Fr nob wD w4:=by rw[L];exact f3.alloc _
      have a8:w4.heap[w3.heap.size]? =some (.cells #[.int .u64 u.a,.int .u64 u.b,.int .u64 u.c,.int .u64 u.d] 132 (0,0)):=by rw[L];exact newAt0 w3 _
      have hf:=Za4 b l (s1.go 2) S1 2 s.r.at_ w4 hl (by decide) ⟨_,_,_,p.out.on f4⟩;have b7:=b3.out w3 f3;have HF:=hid hf;have H4:=hid L;have F4:=hid f4;have b2:=hid a8;clear hf L f4 a8 f3 c1;go_wp2_with(with_reducible rw[←H4.out]);with_reducible refine HF.out.mono ?_
      rintro e w5 ⟨rfl,e5,t5⟩;have d4:=Zl (t5.fr.heap b2.out b7) w5 (Fr.refl nob w5);have E5:=hid e5;have T5:=hid ((F.out.trans (Stp.of F4.out)).trans t5);clear e5 t5;go_wp2;go_ret;exact⟨.iface 134 (.agg #[.int .u64 u.a,.int .u64 u.b,.int .u64 u.c,.int .u64 u.d]),S1,rfl,by rw[RN];rfl,E5.out,T5.out⟩
def ZqX(b:Nat)(l:List UInt8)(S O:Nat→Prop)(w:World)(F:Nd×ES)(n:Nat)(v:Value)(wr:World):Prop:=
 ∃s t S',RN (SO S' O) wr t v∧Erd b l s S' wr∧Stp S w S' wr∧l.length<n+s.r.at_∧Sane l s.r∧(t≠.nil∨l[s.r.at_]? =none)∧ZbR l n s t=F
section
variable {l:List UInt8} {n:Nat} {s:ES} {t:Nd}
theorem Zn7(h:l[s.r.at_]? =some 42):ZbR l (n+1) s t=ZbR l n (s.go 1) (.rep t 0 (-1)):=by rw[ZbR,if_pos h]
theorem Zn8(h:l[s.r.at_]? =some 43):ZbR l (n+1) s t=ZbR l n (s.go 1) (.rep t 1 (-1)):=by rw[ZbR,if_neg (by rw[h];decide),if_pos h]
theorem Zn9(h:l[s.r.at_]? =some 63):ZbR l (n+1) s t=ZbR l n (s.go 1) (.rep t 0 1):=by rw[ZbR,if_neg (by rw[h];decide),if_neg (by rw[h];decide),if_pos h]
theorem Zmp(h:l[s.r.at_]? =some 123):ZbR l (n+1) s t=if(Zd8 l (s.go 1)).2.2.1 then ZbR l n (Zd8 l (s.go 1)).2.2.2 (.rep t (Zd8 l (s.go 1)).1 (Zd8 l (s.go 1)).2.1)else(t,(Zd8 l (s.go 1)).2.2.2.fail l 7 s.r.at_):=by
 rw[ZbR,if_neg (by rw[h];decide),if_neg (by rw[h];decide),if_neg (by rw[h];decide),if_pos h]
theorem Zmq(h1:¬l[s.r.at_]? =some 42)(h2:¬l[s.r.at_]? =some 43)(h3:¬l[s.r.at_]? =some 63)(h4:¬l[s.r.at_]? =some 123):ZbR l (n+1) s t=(t,s):=by
 rw[ZbR,if_neg h1,if_neg h2,if_neg h3,if_neg h4]
end
theorem Zeb(b:Nat)(l:List UInt8)(s:ES)(t:Nd)(v:Value)(S O:Nat→Prop)(w:World)(hl:l.length≤100000)(hs:Sane l s.r)(hnil:t≠.nil∨l[s.r.at_]? =none)(hv:RN (SO S O) w t v)(h:Erd b l s S w):
 Calls Tryz.prog 99 #[.pointer (some ⟨b,0,none⟩),v] w (Zmo b l S O w (ZbR l (l.length+1) s t)):=by
 obtain⟨F,hF⟩:∃F,ZbR l (l.length+1) s t=F:=⟨_,rfl⟩;rw[hF];have HF:=hid hF;have HV:=hid hv;have HH:=hid h;have HS:=hid hs;clear hF hv h hs;go_enter Tryz.func99,Tryz.ntmps99;go_wp2_with fail
 go_loopg [1] (l.length+1) (fun n u wr=>ZqX b l S O w F n u wr)
 case atStart=>exact⟨s,t,S,HV.out,HH.out,Stp.refl _ _,by omega,HS.out,hnil,HF.out⟩
 case round=>
  clear HF HV HH HS hnil;clear s t;obtain⟨s,t,S1,hv,hr,y,hn,hs,hnil,hF⟩:=hrel;have C:=hs.le;obtain⟨m,rfl⟩:∃m,gk=m+1:=⟨gk-1,by omega⟩;have hN:=Zea b l s S1 wr hl C hr;obtain⟨sv,mm,mv,hE⟩:=hr;have o:=rule8 hE.blk;have HV:=hid hv;have HE:=hid hE;have k:=hid y;have HF:=hid hF;have HS:=hid hs;have HN:=hid hN;clear hv hE y hF hs hN;by_cases f:l[s.r.at_]? =some 42
  ·obtain⟨vi,vy,rfl⟩:=HV.out.some (hnil.resolve_right (by rw[f];simp));clear hnil;have i:=ZK f;have hF:=HF.out;rw[Zn7 f]at hF;have c:=hid hF;have n0:=(rnX_test l[s.r.at_]? 42 42 rfl).trans (decide_eq_true f);obtain⟨R,hR⟩:∃R,rnX l[s.r.at_]? =R:=⟨_,rfl⟩;rw[hR]at HN n0;clear hF HF hR;go_wp2_with fail;with_reducible refine HN.out.mono ?_
   rintro e w1 ⟨rfl,f1⟩;have h1:=HE.out.on f1;have rr:=rule8 h1.blk _ (Fr.refl _ _);have H1:=hid h1;have F1:=hid f1;clear h1 f1 o;go_wp2;go_roundg m
   case measure=>omega
   case rel=>
    have a:=H1.out.stp 2 (.int .i64 ((s.r.at_:Int)+1));refine⟨s.go 1,.rep t 0 (-1),S1,(((Stp.of F1.out).trans a).rn HV.out).rep _ _,⟨_,_,_,H1.out.turned 2 _ _ (by simp[RxS.go,ES.go]) rfl rfl H1.out.ok⟩,(k.out.trans (Stp.of F1.out)).trans a,?_,?_,?_,c.out⟩
    ·show l.length<m+(s.r.at_+1);omega
    ·exact HS.out.goE i
    ·exact .inl (by intro h;cases h)
  ·by_cases g:l[s.r.at_]? =some 43
   ·obtain⟨vi,vy,rfl⟩:=HV.out.some (hnil.resolve_right (by rw[g];simp));clear hnil;have i:=ZK g;have hF:=HF.out;rw[Zn8 g]at hF;have c:=hid hF;have n0:=(rnX_test l[s.r.at_]? 42 42 rfl).trans (decide_eq_false f);have n1:=(rnX_test l[s.r.at_]? 43 43 rfl).trans (decide_eq_true g);obtain⟨R,hR⟩:∃R,rnX l[s.r.at_]? =R:=⟨_,rfl⟩;rw[hR]at HN n0 n1;clear hF HF hR;go_wp2_with fail;with_reducible refine HN.out.mono ?_
    rintro e w1 ⟨rfl,f1⟩;have h1:=HE.out.on f1;have rr:=rule8 h1.blk _ (Fr.refl _ _);have H1:=hid h1;have F1:=hid f1;clear h1 f1 o;go_wp2;go_roundg m
    case measure=>omega
    case rel=>
     have a:=H1.out.stp 2 (.int .i64 ((s.r.at_:Int)+1));refine⟨s.go 1,.rep t 1 (-1),S1,(((Stp.of F1.out).trans a).rn HV.out).rep _ _,⟨_,_,_,H1.out.turned 2 _ _ (by simp[RxS.go,ES.go]) rfl rfl H1.out.ok⟩,(k.out.trans (Stp.of F1.out)).trans a,?_,?_,?_,c.out⟩
     ·show l.length<m+(s.r.at_+1);omega
     ·exact HS.out.goE i
     ·exact .inl (by intro h;cases h)
   ·by_cases j:l[s.r.at_]? =some 63
    ·obtain⟨vi,vy,rfl⟩:=HV.out.some (hnil.resolve_right (by rw[j];simp));clear hnil;have i:=ZK j;have hF:=HF.out;rw[Zn9 j]at hF;have c:=hid hF;have n0:=(rnX_test l[s.r.at_]? 42 42 rfl).trans (decide_eq_false f);have n1:=(rnX_test l[s.r.at_]? 43 43 rfl).trans (decide_eq_false g);have n2:=(rnX_test l[s.r.at_]? 63 63 rfl).trans (decide_eq_true j);obtain⟨R,hR⟩:∃R,rnX l[s.r.at_]? =R:=⟨_,rfl⟩;rw[hR]at HN n0 n1 n2;clear hF HF hR;go_wp2_with fail;with_reducible refine HN.out.mono ?_
     rintro e w1 ⟨rfl,f1⟩;have h1:=HE.out.on f1;have rr:=rule8 h1.blk _ (Fr.refl _ _);have H1:=hid h1;have F1:=hid f1;clear h1 f1 o;go_wp2;go_roundg m
     case measure=>omega
     case rel=>
      have a:=H1.out.stp 2 (.int .i64 ((s.r.at_:Int)+1));refine⟨s.go 1,.rep t 0 1,S1,(((Stp.of F1.out).trans a).rn HV.out).rep _ _,⟨_,_,_,H1.out.turned 2 _ _ (by simp[RxS.go,ES.go]) rfl rfl H1.out.ok⟩,(k.out.trans (Stp.of F1.out)).trans a,?_,?_,?_,c.out⟩
      ·show l.length<m+(s.r.at_+1);omega
      ·exact HS.out.goE i
      ·exact .inl (by intro h;cases h)
    ·by_cases d:l[s.r.at_]? =some 123
     ·obtain⟨vi,vy,rfl⟩:=HV.out.some (hnil.resolve_right (by rw[d];simp));clear hnil;have i:=ZK d;have hF:=HF.out;rw[Zmp d]at hF;have n0:=(rnX_test l[s.r.at_]? 42 42 rfl).trans (decide_eq_false f);have n1:=(rnX_test l[s.r.at_]? 43 43 rfl).trans (decide_eq_false g);have n2:=(rnX_test l[s.r.at_]? 63 63 rfl).trans (decide_eq_false j);have n3:=(rnX_test l[s.r.at_]? 123 123 rfl).trans (decide_eq_true d);obtain⟨R,hR⟩:∃R,rnX l[s.r.at_]? =R:=⟨_,rfl⟩;rw[hR]at HN n0 n1 n2 n3;have h2:=HE.out;clear HF hR;go_wp2_with fail;with_reducible refine HN.out.mono ?_
      rintro e w1 ⟨rfl,f1⟩;have h1:=HE.out.on f1;have rr:=rule8 h1.blk _ (Fr.refl _ _);have a:=h1.stp 2 (.int .i64 ((s.r.at_:Int)+1));have h5:=h1.turned 2 (.int .i64 ((s.r.at_:Int)+1)) (s.go 1) (by simp[RxS.go,ES.go]) rfl rfl h1.ok;obtain⟨w2,p⟩:∃w2,w2=w1.setCell ⟨b,2,none⟩ (.int .i64 ((s.r.at_:Int)+1)):=⟨_,rfl⟩;rw[←p]at a h5;have hI:=Zhs b l (s.go 1) S1 w2 hl i ⟨_,_,_,h5⟩;have hK:=Zf8 (l:=l) (s:=s.go 1) (HS.out.goE i);obtain⟨mn,mx,ok,s2,hq⟩:∃mn mx ok s2,Zd8 l (s.go 1)=(mn,mx,ok,s2):=⟨_,_,_,_,rfl⟩;rw[hq]at hI hF hK;simp only at hI hF hK;obtain⟨k1,k2,k3⟩:=hK;have k2:s.r.at_+1≤s2.r.at_:=k2;have HI:=hid hI;have c:=hid hF;have H2:=hid p;have T2:=hid ((Stp.of f1).trans a);have K1:=hid k1;clear hI hF p a h1 h5 f1 o h2 k1 k3 hq;go_wp2_with(with_reducible rw[←H2.out]);with_reducible refine HI.out.mono ?_
      rintro e w3 ⟨rfl,e3,t3⟩;have T3:=hid (T2.out.trans t3);have E3:=hid e3;have H:=K1.out.le;clear t3 e3;cases ok with
      |true=>
       have hF:=c.out;rw[if_pos rfl]at hF;have A:=hid hF;obtain⟨K,m3,I,e3⟩:=E3.out;have J:=rule8 e3.blk _ (Fr.refl _ _);have q:=e3.stp 2 (.int .i64 ((s2.r.at_:Int)-1));have h6:=e3.turned 2 (.int .i64 ((s2.r.at_:Int)-1)) (s2.to (s2.r.at_-1)) (by simp[RxS.to,ES.to];omega) rfl rfl e3.ok;have x:=h6.stp 2 (.int .i64 (s2.r.at_:Int));have h7:=h6.turned 2 (.int .i64 (s2.r.at_:Int)) s2 (by simp[RxS.to,ES.to]) rfl rfl e3.ok;have D:=rule8 h6.blk _ (Fr.refl _ _);rw[show(((s2.to (s2.r.at_-1)).r.at_:Nat):Int)=(s2.r.at_:Int)-1 from by show(((s2.r.at_-1:Nat)):Int)=_;omega]at D;have E:IntKind.i64.wrap ((s2.r.at_:Int)-1+1)=s2.r.at_:=by rw[IntWalk.i64_in _ (by omega)];omega
       have G:IntKind.i64.wrap ((s2.r.at_:Int)-1)=(s2.r.at_:Int)-1:=IntWalk.i64_in _ (by omega);have H7:=hid h7;have T7:=hid ((T3.out.trans q).trans x);clear hF c e3 q h6 x h7 rr;go_wp2;go_roundg m
       case measure=>omega
       case rel=>
        refine⟨s2,.rep t mn mx,S1,(T7.out.rn HV.out).rep _ _,⟨_,_,_,H7.out⟩,k.out.trans T7.out,?_,K1.out,.inl (by intro h;cases h),A.out⟩;omega
      |false=>
       have hF:=c.out;rw[if_neg (by decide)]at hF;subst hF;have hf:=Za4 b l s2 S1 7 s.r.at_ w3 hl (by decide) E3.out;have B:=hid hf;clear c hf rr;go_wp2_with fail;with_reducible refine B.out.mono ?_
       rintro e w4 ⟨rfl,e4,t4⟩;have E4:=hid e4;have T4:=hid (T3.out.trans t4);clear e4 t4;go_wp2;go_ret;exact⟨_,S1,rfl,T4.out.rn HV.out,E4.out,k.out.trans T4.out⟩
     ·have hF:=HF.out;rw[Zmq f g j d]at hF;subst hF;have n0:=(rnX_test l[s.r.at_]? 42 42 rfl).trans (decide_eq_false f);have n1:=(rnX_test l[s.r.at_]? 43 43 rfl).trans (decide_eq_false g);have n2:=(rnX_test l[s.r.at_]? 63 63 rfl).trans (decide_eq_false j);have n3:=(rnX_test l[s.r.at_]? 123 123 rfl).trans (decide_eq_false d);obtain⟨R,hR⟩:∃R,rnX l[s.r.at_]? =R:=⟨_,rfl⟩;rw[hR]at HN n0 n1 n2 n3;clear HF hR;go_wp2_with fail;with_reducible refine HN.out.mono ?_
      rintro e w1 ⟨rfl,f1⟩;have F1:=hid f1;clear f1 o;go_wp2;go_ret;exact⟨_,S1,rfl,(Stp.of F1.out).rn HV.out,⟨_,_,_,HE.out.on F1.out⟩,k.out.trans (Stp.of F1.out)⟩
def ChX(l:List UInt8)(W0:World)(deep:Nat)(f:ES→Nd×ES):Prop:=
 ∀b s S (O:Nat→Prop) w,(∀k,O k→k<w.heap.size)→Sane l s.r→Wd W0 S w→Erd b l s S w→Calls Tryz.prog 37 #[.pointer (some ⟨b,0,none⟩),.int .i64 deep] w (Zmo b l S O w (f s))
def GrX(l:List UInt8)(W0:World)(deep:Nat)(C:Option (ES→Nd×ES)):Prop:=
 ∀b s S (O:Nat→Prop) w,(∀k,O k→k<w.heap.size)→Sane l s.r→s.r.at_<l.length→Wd W0 S w→Erd b l s S w→Calls Tryz.prog 127 #[.pointer (some ⟨b,0,none⟩),.int .i64 deep] w (Zmo b l S O w (ZbA l C s))
theorem Er.close{b:Nat}{l:List UInt8}{s:ES}{S:Nat→Prop}{sv:Value}{m:Nat}{mv:Value}{w w':World}{n:Nat}(h:Er b l s S sv m mv w)(hm:Zuc w' m (s.r.closed++[n]))(f:Fr (fun k=>k=m) w w'):
 Er b l ⟨{s.r with closed:=s.r.closed++[n]},s.x⟩ S sv m mv w':=
 ⟨f.heap h.blk (fun e=>h.bm e),ownsRow_fr h.sg f (fun k hk e=>(h.ns k hk).2 (e▸h.mm)),hm,ownsRow_fr h.ma f (fun k hk e=>(h.nm k hk).2.1 e),h.nm,h.bm,h.ns,h.me,h.mm,h.ok⟩
theorem Er.closeStp{b:Nat}{l:List UInt8}{s:ES}{S:Nat→Prop}{sv:Value}{m:Nat}{mv:Value}{w w':World}(h:Er b l s S sv m mv w)(f:Fr (fun k=>k=m) w w'):Stp S w S w':=
 ⟨f.mono (fun k _ e=>e▸h.mm),fun _ _ x=>x,fun hl k hk=>Nat.lt_of_lt_of_le (hl k hk) f.size⟩
theorem Zfn(b:Nat)(l:List UInt8)(s:ES)(S O:Nat→Prop)(w:World)(hl:l.length≤100000)(h:Erd b l s S w):
 Calls Tryz.prog 127 #[.pointer (some ⟨b,0,none⟩),.int .i64 12] w (Zmo b l S O w (ZbA l none s)):=by
 have hf:=Za4 b l s S 4 s.r.at_ w hl (by decide) h;obtain⟨sv,m,mv,h⟩:=h;have rr:=rule8 h.blk w (Fr.refl nob w);have HF:=hid hf;clear hf h;go_enter Tryz.func127,Tryz.ntmps127;go_wp2_with fail;with_reducible refine HF.out.mono ?_
 rintro e w1 ⟨rfl,e1,t1⟩;have E1:=hid e1;have T1:=hid t1;clear e1 t1;go_wp2;go_ret;exact⟨.nilIface,S,rfl,by show RN _ _ .nil _;rw[RN],E1.out,T1.out⟩
theorem Zmr(b:Nat)(l:List UInt8)(W0:World)(deep:Nat)(f:ES→Nd×ES)(s:ES)(S O:Nat→Prop)(w:World)(hO:∀k,O k→k<w.heap.size)(hl:l.length≤100000)(hd:deep<12)(hC:ChX l W0 (deep+1) f)(hK:∀s,Sane l s.r→Kp l s (f s) 2)
 (hs:Sane l s.r) (hlt:s.r.at_<l.length) (hW:Wd W0 S w) (h:Erd b l s S w):
 Calls Tryz.prog 127 #[.pointer (some ⟨b,0,none⟩),.int .i64 deep] w (Zmo b l S O w (ZbA l (some f) s)):=by
 obtain⟨sv,m,mv,hE⟩:=h;have C:=ZeG hs hlt;have r0:=rule8 hE.blk _ (Fr.refl _ _);have h1:=hE.turned 2 (.int .i64 ((s.r.at_:Int)+1)) (s.go 1) (by simp[RxS.go,ES.go]) rfl rfl hE.ok;have t1:=hE.stp 2 (.int .i64 ((s.r.at_:Int)+1));have h2:=h1.turned 3 (.int .i64 ((s.r.opened:Int)+1)) (ZdB s) (by simp[RxS.go,ES.go,ZdB]) rfl rfl hE.ok;have t2:=h1.stp 3 (.int .i64 ((s.r.opened:Int)+1));have r1:=rule8 h1.blk _ (Fr.refl _ _);have r2:=rule8 h2.blk _ (Fr.refl _ _);have q:(((s.go 1).r.opened:Nat):Int)=s.r.opened:=rfl;have v:(((ZdB s).r.opened:Nat):Int)=(s.r.opened:Int)+1:=rfl;rw[q]at r1;rw[v]at r2;have b2:=hs.op;have b1:=hs.le;obtain⟨w1,p⟩:∃w1,w1=(w.setCell ⟨b,2,none⟩ (.int .i64 ((s.r.at_:Int)+1))).setCell ⟨b,3,none⟩ (.int .i64 ((s.r.opened:Int)+1)):=⟨_,rfl⟩;rw[←p]at h2 t2 r2;have V:w1.heap.size=w.heap.size:=by rw[p];simp[World.setCell]
 have T2:=hid (t1.trans t2);have hc:=hC b (ZdB s) S O w1 (by rw[V];exact hO) C (hW.stp T2.out) ⟨_,_,_,h2⟩;have hk:=hK (ZdB s) C;obtain⟨t,s2,hq⟩:∃t s2,f (ZdB s)=(t,s2):=⟨_,_,rfl⟩;have hR:ZbA l (some f) s=(.group ((s.r.opened+1:Nat):Int) t,Zcu l (s.r.opened+1) s.r.at_ s2):=by unfold ZbA;simp only[hq]
 obtain⟨R,a⟩:∃R,ZbA l (some f) s=R:=⟨_,rfl⟩;rw[a];rw[hR]at a;have G:=hid a;clear a;rw[hq]at hc hk;rw[show((deep+1:Nat):Int)=(deep:Int)+1 from by simp]at hc;have HC:=hid hc;have HK:=hid hk;have U:=hid p;have a9:((deep:Int)==12)=false:=by simp;omega
 have a8:(deep:Int)<12:=by omega
 clear hR hq hc hk p h2 h1 t1 t2 hE C hC hK hd hO q v hW;go_enter Tryz.func127,Tryz.ntmps127;go_wp2_with(rw[←U.out]);with_reducible refine(HC.out).mono ?_
 rintro e w2 ⟨v2,S2,rfl,g,e2,Q⟩;have L:Sane l s2.r:=HK.out.sn;have J:=L.le;have hT:Calls Tryz.prog 59 #[.pointer (some ⟨b,0,none⟩),.int .i32 41] w2 fun x w'=>x=.returned (.bool (decide (l[s2.r.at_]? =some 41)))∧Erd b l (if l[s2.r.at_]? =some 41 then s2.go 1 else s2) S2 w'∧Stp S2 w2 S2 w':=Zfm b l 41 s2 S2 w2 hl J e2;have j:=hid g;have o:=hid (T2.out.trans Q);obtain⟨n,hn⟩:∃n,s.r.opened+1=n:=⟨_,rfl⟩;have K:(s.r.opened:Int)+1=(n:Nat):=by omega
 have a:=G.out;rw[hn]at a;have Y:=L.cl;have E:∀(s3:ES) (w3:World),s3.r.closed=s2.r.closed→Erd b l s3 S2 w3→Stp S2 w2 S2 w3→
  ∃(m3:Nat) (w4:World),(∃v0 v1 F v3 v5 v6 v7,w3.cell? ⟨b,0,none⟩=some v0∧w3.cell? ⟨b,1,none⟩=some v1∧w3.cell? ⟨b,2,none⟩=some F∧w3.cell? ⟨b,3,none⟩=some v3∧w3.cell? ⟨b,4,none⟩=some (.map (some m3))∧w3.cell? ⟨b,5,none⟩=some v5∧w3.cell? ⟨b,6,none⟩=some v6∧w3.cell? ⟨b,7,none⟩=some v7)∧
  (Instr.lookup 91 (.map (some m3)) (.int .i64 (n:Nat)) false).run Tryz.prog w3=.ok (.int .i64 (s2.r.closed.count n:Nat)) w3∧
  (Instr.mapUpdate 91 (.map (some m3)) (.int .i64 (n:Nat)) (.int .i64 ((s2.r.closed.count n:Nat)+1))).run Tryz.prog w3=.ok () w4∧
  Erd b l ⟨{s3.r with closed:=s3.r.closed++[n]},s3.x⟩ S2 w4∧Stp S2 w2 S2 w4:=by
  rintro s3 w3 I ⟨b4,m3,b3,h3⟩ t3;have B:=h3.mp;rw[I]at B;obtain⟨w4,W,X,M⟩:=ZgX (P:=Tryz.prog) (mty:=91) (kt:=3) (et:=3) Tryz.underlying91 Tryz.underlying3 B n;obtain⟨⟨a0,a1,a2,a3,a4,a5,a6,a7⟩,_⟩:=rule8 h3.blk _ (Fr.refl _ _);refine⟨m3,w4,⟨_,_,_,_,_,_,_,a0,a1,a2,a3,a4,a5,a6,a7⟩,ZfA (P:=Tryz.prog) (mty:=91) (kt:=3) (et:=3) Tryz.underlying91 Tryz.underlying3 (fun w=>by kernel_rfl) B n,W,⟨_,_,_,h3.close (by rw[I];exact X) M⟩,t3.trans (h3.closeStp M)⟩
 have u:s2.r.closed.count n≤s2.r.closed.length:=List.count_le_length;obtain⟨k,hk⟩:∃k,s2.r.closed.count n=k:=⟨_,rfl⟩;rw[hk]at E u;have b0:(k:Int)≤100000:=by omega
 have c:=hid K;clear K hn;have H:=hid E;have Z:=hid e2;have N:v2=.nilIface∨∃i y,v2=.iface i y:=by
  rcases g.kind' with ht|h
  ·left;have ht:t=.nil:=ht;rw[ht,RN]at g;exact g
  ·exact .inr h
 clear G E g Q hk u r0 r1 r2 e2;by_cases hA:l[s2.r.at_]? =some 41
 ·rw[decide_eq_true hA,if_pos hA]at hT;have d:Zcu l n s.r.at_ s2=⟨{(s2.go 1).r with closed:=(s2.go 1).r.closed++[n]},(s2.go 1).x⟩:=by unfold Zcu;rw[if_pos hA]
  rw[d]at a;subst a;have HT:=hid hT;clear hT hA d;go_wp2_with fail;with_reducible refine HT.out.mono ?_
  rintro e w3 ⟨rfl,e3,t3⟩;obtain⟨m3,w4,⟨v0,v1,F,v3,v5,v6,v7,a0,a1,a2,a3,a4,a5,a6,a7⟩,A,D,e4,t4⟩:=H.out (s2.go 1) w3 rfl e3 t3;have E4:=hid e4;have T4:=hid t4;clear e4 t4 e3 t3;rw[←c.out]at A D;rcases N with rfl|⟨vi,vy,rfl⟩
  ·go_wp2;go_ret;refine⟨.iface 127 (.agg #[.int .i64 ((s.r.opened:Int)+1),.nilIface]),S2,rfl,?_,E4.out,o.out.trans T4.out⟩;rw[c.out];exact(T4.out.rn j.out).grp _
  ·go_wp2;go_ret;refine⟨.iface 127 (.agg #[.int .i64 ((s.r.opened:Int)+1),.iface vi vy]),S2,rfl,?_,E4.out,o.out.trans T4.out⟩;rw[c.out];exact(T4.out.rn j.out).grp _
 ·rw[decide_eq_false hA,if_neg hA]at hT;have d:Zcu l n s.r.at_ s2=⟨{(s2.fail l 8 s.r.at_).r with closed:=(s2.fail l 8 s.r.at_).r.closed++[n]},(s2.fail l 8 s.r.at_).x⟩:=by unfold Zcu;rw[if_neg hA]
  rw[d]at a;subst a;have HT:=hid hT;clear hT hA d;go_wp2_with fail;with_reducible refine HT.out.mono ?_
  rintro e w3 ⟨rfl,e3,t3⟩;have hf:=Za4 b l s2 S2 8 s.r.at_ w3 hl (by decide) e3;have HF:=hid hf;have T3:=hid t3;clear hf e3 t3;go_wp2_with fail;with_reducible refine HF.out.mono ?_
  rintro e w5 ⟨rfl,e5,t5⟩;obtain⟨m3,w4,⟨v0,v1,F,v3,v5,v6,v7,a0,a1,a2,a3,a4,a5,a6,a7⟩,A,D,e4,t4⟩:=H.out (s2.fail l 8 s.r.at_) w5 rfl e5 (T3.out.trans t5);have E4:=hid e4;have T4:=hid t4;clear e4 t4 e5 t5;rw[←c.out]at A D;rcases N with rfl|⟨vi,vy,rfl⟩
  ·go_wp2;go_ret;refine⟨.iface 127 (.agg #[.int .i64 ((s.r.opened:Int)+1),.nilIface]),S2,rfl,?_,E4.out,o.out.trans T4.out⟩;rw[c.out];exact(T4.out.rn j.out).grp _
  ·go_wp2;go_ret;refine⟨.iface 127 (.agg #[.int .i64 ((s.r.opened:Int)+1),.iface vi vy]),S2,rfl,?_,E4.out,o.out.trans T4.out⟩;rw[c.out];exact(T4.out.rn j.out).grp _
abbrev Zqa(w:World)(b:Nat)(v0 v1:Value):Prop:=w.cell? ⟨b,0,none⟩=some v0∧w.cell? ⟨b,2,none⟩=some v1
theorem cc02_on{w w':World}{b:Nat}{v0 v1:Value}(h:Zqa w b v0 v1)(f:Fr nob w w'):Zqa w' b v0 v1:=⟨f.cell h.1 (fun x=>x),f.cell h.2 (fun x=>x)⟩
theorem ZkN(b:Nat)(l:List UInt8)(W0:World)(deep:Nat)(C:Option (ES→Nd×ES))(s:ES)(S O:Nat→Prop)(w:World)(c:UInt8)(hO:∀k,O k→k<w.heap.size)(hl:l.length≤100000)(hE0:Env W0)(hG:GrX l W0 deep C)
 (hs:Sane l s.r) (hx:l[s.r.at_]? =some c) (hW:Wd W0 S w) (h:Erd b l s S w):
 Calls Tryz.prog 100 #[.pointer (some ⟨b,0,none⟩),.int .i64 deep] w (Zmo b l S O w (Zax l C s c)):=by
 obtain⟨R,hR⟩:∃R,Zax l C s c=R:=⟨_,rfl⟩;rw[hR];have b2:=ZK hx;have hN:=Zea b l s S w hl hs.le h;rw[hx]at hN;have hN:Calls Tryz.prog 97 #[.pointer (some ⟨b,0,none⟩)] w fun x w'=>x=.returned (.int .i32 (c.toNat:Int))∧Fr nob w w':=hN;have a8:=fun w' (f:Fr nob w w')=>hG b s S O w' (fun k hk=>Nat.lt_of_lt_of_le (hO k hk) f.size) hs b2 (hW.stp (Stp.of f)) (h.on f);have a7:=fun w' (f:Fr nob w w')=>ZkM b l s S O w' hl b2 hs (fun k hk=>Nat.lt_of_lt_of_le (hW.lt k hk) f.size) (h.on f);have b5:=hid a8;have b4:=hid a7;have HH:=hid h;obtain⟨sv,m,mv,hE⟩:=h;have HE:=hid hE;have HW:=hid hW;have HN:=hid hN;have c3:=c.toNat_lt;clear a8 a7 hG hE hW hO hN hx hs;go_enter Tryz.func100,Tryz.ntmps100;go_wp2_with fail;with_reducible refine HN.out.mono ?_
 rintro e wC ⟨rfl,fC⟩;have Y:=HE.out.on fC;obtain⟨⟨k0,_,k2,_⟩,j0,_,j2,_⟩:=rule8 Y.blk _ (Fr.refl _ _);have D:=hid Y;have FC:=hid fC;clear Y fC;unfold Zax at hR;by_cases n:c=40
 ·rw[if_pos n]at hR;have t1:((c.toNat:Int)==40)=true:=Zcy (b:=40) n;have HQ:=hid (b5.out wC FC.out);rw[hR]at HQ;clear n hR k0 k2 j0 j2;go_wp2_with fail;with_reducible refine(HQ.out).mono ?_
  rintro e w2 ⟨v2,S2,rfl,M,r2,N⟩;have W:=hid M;have R2:=hid r2;have X:=hid ((Stp.of FC.out).trans N);clear M r2 N;go_wp2;go_ret;exact⟨_,S2,rfl,W.out,R2.out,X.out⟩
 ·rw[if_neg n]at hR;have t1:((c.toNat:Int)==40)=false:=Zn (b:=40) n;by_cases y:c=41
  ·rw[if_pos y]at hR;have t2:((c.toNat:Int)==41)=true:=Zcy (b:=41) y;have hf:=Za4 b l s S 8 s.r.at_ wC hl (by decide) (HH.out.on FC.out);have HF:=hid hf;subst hR;clear n y hf;go_wp2_with fail;with_reducible refine(HF.out).mono ?_
   rintro e w2 ⟨rfl,e2,B⟩;have E2:=hid e2;have T2:=hid ((Stp.of FC.out).trans B);clear e2 B;go_wp2;go_ret;exact⟨.nilIface,S,rfl,by rw[RN],E2.out,T2.out⟩
  ·rw[if_neg y]at hR;have t2:((c.toNat:Int)==41)=false:=Zn (b:=41) y;by_cases E:c=92
   ·rw[if_pos E]at hR;have t3:((c.toNat:Int)==92)=true:=Zcy (b:=92) E;have HQ:=hid (b4.out wC FC.out);rw[hR]at HQ;clear n y E hR k0 k2 j0 j2;go_wp2_with fail;with_reducible refine(HQ.out).mono ?_
    rintro e w2 ⟨v2,S2,rfl,M,r2,N⟩;have W:=hid M;have R2:=hid r2;have X:=hid ((Stp.of FC.out).trans N);clear M r2 N;go_wp2;go_ret;exact⟨_,S2,rfl,W.out,R2.out,X.out⟩
   ·rw[if_neg E]at hR;have t3:((c.toNat:Int)==92)=false:=Zn (b:=92) E;by_cases H:c=91
    ·rw[if_pos H]at hR;have t4:((c.toNat:Int)==91)=true:=Zcy (b:=91) H;have U:∀w',Fr nob wC w'→Env w':=fun w' f=>hE0.on ((HW.out.fr.trans' FC.out).trans' f);have hP:=fun w' (f:Fr nob wC w')=>ZfL l ((s.r.at_:Int)+1) w' hl (U w' f);rw[show((s.r.at_:Int)+1)=((s.r.at_+1:Nat):Int)from by simp,Zkd (by omega)]at hP;rw[show((s.r.at_+1:Nat):Int)=(s.r.at_:Int)+1 from by simp]at hP;have hw:IntKind.i64.wrap ((s.r.at_:Int)+1)=s.r.at_+1:=IntWalk.i64_in _ (by omega);have b1:Zqa wC b (.string ⟨l.toArray⟩) (.int .i64 s.r.at_):=⟨k0,k2⟩;have HC:=hid b1;obtain⟨P,Z⟩:∃P,prs l (s.r.at_+1)=P:=⟨_,rfl⟩;rw[Z]at hP hR;obtain⟨u,k,e0,hv,J⟩:∃(u:S4) (k:Nat) (e0:Int),Zp8 P=.tuple #[ZcR u,.int .i64 k,.int .i64 e0]∧((e0≠0∧R=(.nil,s.fail l e0 k))∨(e0=0∧R=(.one u,s.to k))):=by
      cases P with
      |inl z=>obtain⟨z1,z2⟩:=z;exact⟨S4.zero,z2,z1,rfl,.inl ⟨prs_err Z,hR.symm⟩⟩
      |inr q=>obtain⟨u,k⟩:=q;exact⟨u,k,0,rfl,.inr ⟨rfl,hR.symm⟩⟩
     rw[hv]at hP;have HP:=hid hP;have a2:=hid J;have b3:=Zl (show(wC.alloc (.cells #[.int .u64 0,.int .u64 0,.int .u64 0,.int .u64 0] 132)).heap[wC.heap.size]? =some (.cells #[.int .u64 0,.int .u64 0,.int .u64 0,.int .u64 0] 132)from newAt0 wC _);have b7:=hid b3;have b0:∀k,wC.heap.size≤k→¬S k:=fun k hk h=>by have:=HW.out.lt k h;have:=FC.out.size;omega
     have a4:=hid b0;clear hP U k0 k2 j0 j2 H E y n b1 Z b3 hv J hR b0;go_wp2_with fail
     go_region_held3 (fun w'=>Zqa w' b (.string ⟨l.toArray⟩) (.int .i64 s.r.at_)) (first|(with_reducible exact HC.out)|(with_reducible exact cc02_on HC.out ((Fr.refl nob wC).drew))|(with_reducible exact cc02_on HC.out (((Fr.refl nob wC).alloc _).drew))|(with_reducible exact cc02_on HC.out (((Fr.refl nob wC).drew).alloc _))|(with_reducible exact cc02_on HC.out G1)|(with_reducible exact cc02_on HC.out (G1.drew))|(with_reducible exact cc02_on HC.out (G1.alloc _))|(with_reducible exact cc02_on HC.out (setFour_frS G1 (Nat.le_refl _) _ _ _ _))|(with_reducible exact cc02_on HC.out (setFour_frS (G1.alloc _) G1.size _ _ _ _))|(trace_state;fail)) (first|(go_at_call 114;(first|((with_reducible refine(HP.out _ ((Fr.refl nob wC).drew)).mono ?_);rintro e g1 ⟨rfl,f1⟩;have G1:Fr nob wC g1:=((Fr.refl nob wC).drew).trans' f1;have hz:=newAt0 g1 (.cells #[.int .u64 0,.int .u64 0,.int .u64 0,.int .u64 0] 132);have HZ:=hid hz;have rz:=Zl hz _ (Fr.refl nob _))|((with_reducible refine(HP.out _ (((Fr.refl nob wC).alloc _).drew)).mono ?_);rintro e g1 ⟨rfl,f1⟩;have G1:Fr nob wC g1:=(((Fr.refl nob wC).alloc _).drew).trans' f1;have hz:=(((Fr.refl nob _).drew).trans' f1).heap (newAt0 wC (.cells #[.int .u64 0,.int .u64 0,.int .u64 0,.int .u64 0] 132)) (fun x=>x);have HZ:=hid hz;have rz:=b7.out g1 (((Fr.refl nob _).drew).trans' f1)));clear f1 hz))
     ·obtain⟨wf,v⟩:∃wf,wf=g1.alloc (.cells #[.int .u64 u.a,.int .u64 u.b,.int .u64 u.c,.int .u64 u.d] 132):=⟨_,rfl⟩;have A:At4 wf g1.heap.size u:=by rw[v];exact newAt0 g1 _
      have K:Fr nob wC wf:=by rw[v];exact G1.alloc _
      rw[←v];have HF:=hid K;have I:=hid A;have a0:wC.heap.size≤g1.heap.size:=G1.size;clear v K A rz;have F:=D.out.on HF.out;have b8:=lt_heap D.out.blk;have o:g1.heap.size≠b:=by omega
      obtain⟨⟨_,_,n1,_⟩,_,_,n2,_⟩:=rule8 F.blk _ (Fr.refl _ _);have b9:=a4.out g1.heap.size a0;have j:=hid F;clear F;rcases a2.out with⟨t,hR⟩|⟨t,hR⟩
      ·subst hR;have c2:((e0:Int) !=0)=true:=by simpa using t
       have hf:=Za4 b l s S e0 k wf hl t ⟨_,_,_,j.out⟩;have V:=hid hf;clear hf n1 n2;go_wp2_with fail;with_reducible refine(V.out).mono ?_
       rintro e w2 ⟨rfl,e2,B⟩;have E2:=hid e2;have T2:=hid (((Stp.of FC.out).trans (Stp.of HF.out)).trans B);clear e2 B;go_wp2;go_ret;exact⟨.nilIface,S,rfl,by rw[RN],E2.out,T2.out⟩
      ·subst hR;subst t;have c0:Q4 (wf.setCell ⟨b,2,none⟩ (.int .i64 (k:Nat))) (g1.heap.size) u:=by
        have g:=(Fr.refl (fun i=>i=b) wf).setCell (p:=⟨b,2,none⟩) (fun _=>rfl) (.int .i64 (k:Nat));have q:=Q4.of I.out;exact⟨g.cell q.1 o,g.cell q.2.1 o,g.cell q.2.2.1 o,g.cell q.2.2.2 o⟩
       go_wp2;go_ret;exact⟨_,S,rfl,by rw[RN];rfl,⟨_,_,_,j.out.turned 2 _ (s.to k) (by simp[RxS.to,ES.to]) rfl rfl j.out.ok⟩,((Stp.of FC.out).trans (Stp.of HF.out)).trans (j.out.stp 2 _)⟩
     ·obtain⟨wf,v⟩:∃wf,wf=((((g1.setCell ⟨wC.heap.size,0,none⟩ (.int .u64 u.a)).setCell ⟨wC.heap.size,1,none⟩ (.int .u64 u.b)).setCell ⟨wC.heap.size,2,none⟩ (.int .u64 u.c)).setCell ⟨wC.heap.size,3,none⟩ (.int .u64 u.d)):=⟨_,rfl⟩;have A:At4 wf wC.heap.size u:=by rw[v];with_reducible exact setFour_heap HZ.out _ _ _ _
      have K:Fr nob wC wf:=by rw[v];exact setFour_frS (G1) (Nat.le_refl _) _ _ _ _
      rw[←v];have HF:=hid K;have I:=hid A;have a0:wC.heap.size≤wC.heap.size:=Nat.le_refl _;clear v K A rz;have F:=D.out.on HF.out;have b8:=lt_heap D.out.blk;have o:wC.heap.size≠b:=by omega
      obtain⟨⟨_,_,n1,_⟩,_,_,n2,_⟩:=rule8 F.blk _ (Fr.refl _ _);have b9:=a4.out wC.heap.size a0;have j:=hid F;clear F;rcases a2.out with⟨t,hR⟩|⟨t,hR⟩
      ·subst hR;have c2:((e0:Int) !=0)=true:=by simpa using t
       have hf:=Za4 b l s S e0 k wf hl t ⟨_,_,_,j.out⟩;have V:=hid hf;clear hf n1 n2;go_wp2_with fail;with_reducible refine(V.out).mono ?_
       rintro e w2 ⟨rfl,e2,B⟩;have E2:=hid e2;have T2:=hid (((Stp.of FC.out).trans (Stp.of HF.out)).trans B);clear e2 B;go_wp2;go_ret;exact⟨.nilIface,S,rfl,by rw[RN],E2.out,T2.out⟩
      ·subst hR;subst t;have c0:Q4 (wf.setCell ⟨b,2,none⟩ (.int .i64 (k:Nat))) (wC.heap.size) u:=by
        have g:=(Fr.refl (fun i=>i=b) wf).setCell (p:=⟨b,2,none⟩) (fun _=>rfl) (.int .i64 (k:Nat));have q:=Q4.of I.out;exact⟨g.cell q.1 o,g.cell q.2.1 o,g.cell q.2.2.1 o,g.cell q.2.2.2 o⟩
       go_wp2;go_ret;exact⟨_,S,rfl,by rw[RN];rfl,⟨_,_,_,j.out.turned 2 _ (s.to k) (by simp[RxS.to,ES.to]) rfl rfl j.out.ok⟩,((Stp.of FC.out).trans (Stp.of HF.out)).trans (j.out.stp 2 _)⟩
    ·rw[if_neg H]at hR;have t4:((c.toNat:Int)==91)=false:=Zn (b:=91) H;obtain⟨w1,L⟩:∃w1,w1=wC.setCell ⟨b,2,none⟩ (.int .i64 ((s.r.at_:Int)+1)):=⟨_,rfl⟩;have a6:Er b l (s.go 1) S sv m mv w1:=by rw[L];exact D.out.turned 2 _ (s.go 1) (by simp[RxS.go,ES.go]) rfl rfl D.out.ok
     have a9:Stp S w S w1:=by rw[L];exact(Stp.of FC.out).trans (D.out.stp 2 _)
     have c1:w1.heap.size=wC.heap.size:=by rw[L];simp[World.setCell]
     have a5:=hid L;have a1:=hid a6;have a3:=hid a9;clear L a6 a9 E H y n;by_cases G:c=46
     ·rw[if_pos G]at hR;have t5:((c.toNat:Int)==46)=true:=Zcy (b:=46) G;have Q:=Ze7 0 255 w1 (by decide) (by decide);rw[show((0:Nat):Int)=0 from rfl,show((255:Nat):Int)=255 from rfl]at Q;obtain⟨u,hu⟩:∃u,spn 0 255=u:=⟨_,rfl⟩;rw[hu]at Q hR;subst hR;have b6:=hid Q;clear G Q hu;go_wp2_with(rw[←a5.out]);with_reducible refine(b6.out).mono ?_
      rintro e w2 ⟨rfl,f2⟩;have F2:=hid f2;clear f2;go_wp2;go_ret;exact⟨_,S,rfl,by rw[RN];rfl,⟨_,_,_,a1.out.on F2.out⟩,a3.out.trans (Stp.of F2.out)⟩
     ·rw[if_neg G]at hR;have t5:((c.toNat:Int)==46)=false:=Zn (b:=46) G;have c4:IntKind.u8.wrap (c.toNat:Int)=c.toNat:=IntWalk.u8_in _ (by omega);have ho:=Zb6 c w1 5;obtain⟨u,hu⟩:∃u,spn c.toNat c.toNat=u:=⟨_,rfl⟩;rw[hu,c1]at ho;rw[hu]at hR;subst hR;have HO:=hid ho;clear G ho hu;go_wp2_with(rw[←a5.out]);with_reducible refine(HO.out).mono ?_
      rintro e w2 ⟨rfl,f2⟩;have F2:=hid (((Fr.refl nob w1).alloc _).trans' f2);clear f2;go_wp2;go_ret;exact⟨_,S,rfl,by rw[RN];rfl,⟨_,_,_,a1.out.on F2.out⟩,a3.out.trans (Stp.of F2.out)⟩
end Go.Proofs.YtgllcniibbaoaaaGreatDoor
