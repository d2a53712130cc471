/- Lemmas of this claim. -/
import Derived.Test.YtgllcniibbaoaaaGreatDoorK24
set_option linter.all false
set_option maxRecDepth 100000
set_option maxHeartbeats 24000000
namespace Go.Proofs.YtgllcniibbaoaaaGreatDoor
section
open Go.Lib (hid)
open Go.RowKit
attribute [-go_sem] storeVar loadVar
attribute [local go_sem] Zx3 Zx4 Zx1 Zx2 Zyb
theorem LB.ldg{w0 w:World}{L:List (Nat×Array Value×TypeId)}{b:Nat}{cs:Array Value}{T:TypeId}{P:Program}{ops:Array Oper}{rest:List Oper}{o:Oper}{a:Act}{Q:Exit→Act→World→Prop}{ty:TypeId}{d:TypeDesc}
 (h:LB w0 L w) (j:Nat) (hj:L[j]? =some (b,cs,T)) (hw:Region.wanted o (yielded ops a.tmps)=true) (x:Operand) (ho:o.op=.load ty x) (hx:a.eval x=.pointer (some ⟨b,0,none⟩))
 (hu:P.underlying ty=some d) (hd:(match d with| .struct _| .array _ _=>true|_=>false)=true) (hi:(P.info? ty).map (·.size)=some cs.size)
 (hk:wpList P ops Q rest (a.put o.dst (.agg cs)) w):wpList P ops Q (o::rest) a w:=by
 refine wpList_step fun K hK=> ?_;rw[if_pos hw];exact wp_load_row ty x ho b hx T cs (0,0) d (h.get j hj) hu hd hi (hK _ _ hk)
mutual
theorem Nd.rf_le:∀n:Nd,n.rf.bulk≤n.size
 | .nil| .empty| .one _| .back _| .start| .fin=>by simp[Nd.rf,T.zero,T.bulk,T.bulks,Nd.size]
 | .cat l=>by have:=Nd.rfs_le l;simp only[Nd.rf,T.bulk,Nd.size];omega
 | .alt l=>by have:=Nd.rfs_le l;simp only[Nd.rf,T.bulk,Nd.size];omega
 | .rep x _ _=>by have:=Nd.rf_le x;simp only[Nd.rf,T.bulk,T.bulks,Nd.size];omega
 | .group _ x=>by have:=Nd.rf_le x;simp only[Nd.rf,T.bulk,T.bulks,Nd.size];omega
theorem Nd.rfs_le:∀l:List Nd,T.bulks (Nd.rfs l)≤Nd.sizes l
 |[]=>by simp[Nd.rfs,T.bulks,Nd.sizes]
 |t::ts=>by have:=Nd.rf_le t;have:=Nd.rfs_le ts;simp only[Nd.rfs,T.bulks,Nd.sizes];omega
end
theorem ZAN(l:List UInt8)(ere:Bool)(s:RxS)(ca:Option Addr)(cc:Nat)(ma:Option Addr)(mc:Nat)(k deep:Nat)(w:World)(hl:l.length≤400)(hk:k≤1000):
 Calls Tryz.prog 118 #[rV l ere s ca cc ma mc 0 0,.int .i64 k,.int .i64 deep] w fun x w'=>x=.returned (.bool (ZnT ere l (decide (0<deep)) k))∧Fr nob w w':=by
 unfold ZnT;obtain⟨sg,d⟩:∃sg,sgn l k=sg:=⟨_,rfl⟩;have c:=hid (fun w'=>Zyf l ere s ca cc ma mc 0 0 k w' (by omega) (by omega));rw[d]at c⊢;have a:=hid (fun(b:UInt8) (w':World)=>Zzq l ere s ca cc ma mc 0 0 b w');have L0:=hid ((LB.nil w).push (rC l ere s ca cc ma mc 0 0) 123 _ rfl);obtain⟨R,hR⟩:∃R,(sg==[]||(sg==opB ere 124||(sg==opB ere 41&&(decide (0<deep)|| !ere))))=R:=⟨_,rfl⟩;rw[hR];have HR:=hid hR;clear d hR;unfold rV;go_enter Tryz.func118,Tryz.ntmps118;go_wp2_with(refine L0.out.ld 0 rfl rfl _ rfl rfl Tryz.underlying123 rfl info_dR ?_);refine(c.out _).mono ?_;rintro e w1 ⟨rfl,f1⟩;have L1:=hid (L0.out.on f1);clear f1 L0;rcases Bool.eq_false_or_eq_true (sg==[])with e0|e0
 ·go_wp2;go_ret;exact⟨by rw[←HR.out,e0];rfl,L1.out.fr⟩
 ·go_wp2_with(refine L1.out.ldg 0 rfl rfl _ rfl rfl Tryz.underlying123 rfl info_dR ?_);refine(a.out 124 _).mono ?_;rintro e w2 ⟨rfl,f2⟩;have L2:=hid (L1.out.on f2);clear f2 L1;rcases Bool.eq_false_or_eq_true (sg==opB ere 124)with e1|e1
  ·go_wp2;go_ret;exact⟨by rw[←HR.out,e0,e1];rfl,L2.out.fr⟩
  ·go_wp2_with(refine L2.out.ldg 0 rfl rfl _ rfl rfl Tryz.underlying123 rfl info_dR ?_);refine(a.out 41 _).mono ?_;rintro e w3 ⟨rfl,f3⟩;have L3:=hid (L2.out.on f3);have r3:=rule8 (L3.out.get 0 rfl) w3 (Fr.refl nob w3);clear f3 L2;rcases Bool.eq_false_or_eq_true (sg==opB ere 41)with e2|e2
   ·by_cases hd:0<deep
    ·have f:(0:Int)<deep:=by omega
     go_wp2;go_ret;exact⟨by rw[←HR.out,e0,e1,e2];simp[hd],L3.out.fr⟩
    ·have f:¬(0:Int)<deep:=by omega
     go_wp2;go_ret;exact⟨by rw[←HR.out,e0,e1,e2];simp[hd],L3.out.fr⟩
   ·go_wp2;go_ret;exact⟨by rw[←HR.out,e0,e1,e2];rfl,L3.out.fr⟩
end
section
open Go.RowKit
theorem OwnT.wide{S S':Nat→Prop}{w:World}{l:List T}{v:Value}{g:Option Nat}(h:OwnT S w l v g)(hs:∀k,k<w.heap.size→S' k→S k):OwnT S' w l v g:=by
 have a:=h.lt;obtain⟨vs,h1,h2,h3,h4⟩:=h;exact⟨vs,h1,h2.keep (Fr.refl nob w) (fun _ _ x=>x.elim) (fun k hk x=>x.elim (fun x=>.inl (hs k hk x)) .inr),h3,fun k hk x=>h4 k hk (hs k (a k hk) x)⟩
theorem OwnT.step{O:Nat→Prop}{bs:List Nat}{b:Nat}{w W:World}{l:List T}{v:Value}{g:Option Nat}(h:OwnT (lbB O bs) w l v g)(f:Fr (fun k=>k=b) w W)(hb:b∈bs):OwnT (lbB O bs) W l v g:=by
 obtain⟨vs,h1,h2,h3,h4⟩:=h;exact⟨vs,ownsRow_fr h1 f (fun k hk e=>h4 k (by rw[←h3,hk]) (.inr (e▸hb))),h2.keep f (fun k _ e=>.inl (.inr (e▸hb))) (fun _ _ x=>x),h3,h4⟩
theorem LB.own{w0 w w':World}{L:List (Nat×Array Value×TypeId)}{O:Nat→Prop}{g:Option Nat}(h:LB w0 L w)(f:Fr (fun k=>g=some k) w w')(hg:∀k,g=some k→w0.heap.size≤k∧¬lbB O (L.map (·.1)) k):LB w0 L w':=
 ⟨h.fr.trans f (fun k hk e=>absurd (hg k e).1 (by omega)),h.lo,h.ne,fun x hx=>f.heap (h.at_ x hx) (fun e=>(hg _ e).2 (.inr (List.mem_map.2 ⟨x,hx,rfl⟩)))⟩
section
variable {S:Nat→Prop} {g g':Option Nat} {w w3:World}
theorem CSO.app{l:List Nat}{ca:Option Addr}{cc:Nat}(h:CSO (LS2 S g) w l ca cc)(f:Fr (fun k=>g=some k) w w3)(hg:∀k,g'=some k→g=some k∨w.heap.size≤k):CSO (LS2 S g') w3 l ca cc:=
 (((h.wide (S:=fun k=>LS2 S g k∨g'=some k) (fun k hk x=>x.elim id (fun e=>(hg k e).elim .inr (fun h=>absurd h (by omega))))).step (.of_fr f (fun k _ e=>.inl (.inr e)))).wide (fun k _ x=>x.elim (fun x=>.inl (.inl x)) .inr))
theorem MSO.app{l:List (Nat×List UInt8)}{v:Value}(h:MSO (LS2 S g) w l v)(f:Fr (fun k=>g=some k) w w3)(hg:∀k,g'=some k→g=some k∨w.heap.size≤k):MSO (LS2 S g') w3 l v:=
 (((h.wide (S:=fun k=>LS2 S g k∨g'=some k) (fun k hk x=>x.elim id (fun e=>(hg k e).elim .inr (fun h=>absurd h (by omega))))).step (.of_fr f (fun k _ e=>.inl (.inr e)))).wide (fun k _ x=>x.elim (fun x=>.inl (.inl x)) .inr))
end
theorem CSO.none{S:Nat→Prop}{w:World}{l:List Nat}{ca:Option Addr}{cc:Nat}(h:CSO S w l ca cc):CSO (LS2 S none) w l ca cc:=h.wide (fun k _ x=>Or.elim x id (fun h=>by cases h))
theorem MSO.none{S:Nat→Prop}{w:World}{l:List (Nat×List UInt8)}{v:Value}(h:MSO S w l v):MSO (LS2 S none) w l v:=h.wide (fun k _ x=>Or.elim x id (fun h=>by cases h))
theorem LB.left{w0 w:World}{L M:List (Nat×Array Value×TypeId)}(h:LB w0 (L++M) w):LB w0 L w:=
 ⟨h.fr,fun x hx=>h.lo x (List.mem_append_left M hx),(List.pairwise_append.1 h.ne).1,fun x hx=>h.at_ x (List.mem_append_left M hx)⟩
theorem Zy7{w wA w3:World}{X:Obj}{LL:List (Nat×Array Value×TypeId)}{O:Nat→Prop}{L:List T}{v:Value}{g g':Option Nat}{cl:List Nat}{ca:Option Addr}{cc:Nat}{mk:List (Nat×List UInt8)}{mv:Value}(hl:LB w LL wA)(hp:OwnT (lbB O (LL.map (·.1))) wA L v g)(hgn:∀k,g=some k→w.heap.size≤k)
 (hc:CSO (LS2 (lbB O (LL.map (·.1))) g) wA cl ca cc) (hm:MSO (LS2 (lbB O (LL.map (·.1))) g) wA mk mv) (hf:Fr (fun k=>g=some k) (wA.alloc X) w3) (hg:∀k,g'=some k→g=some k∨(wA.alloc X).heap.size≤k):
 LB w LL w3∧(∀k,g'=some k→w.heap.size≤k)∧CSO (LS2 (lbB O (LL.map (·.1))) g') w3 cl ca cc∧MSO (LS2 (lbB O (LL.map (·.1))) g') w3 mk mv:=by
 have fa:=(Fr.refl nob wA).alloc X;obtain⟨_,_,_,_,h4⟩:=hp;refine⟨(hl.on fa).own hf (fun k hk=>⟨hgn k hk,h4 k hk⟩),fun k hk=> ?_,(hc.on fa).app hf hg,(hm.on fa).app hf hg⟩;rcases hg k hk with h|h
 ·exact hgn k h
 ·have:=hl.fr.size;simp only[World.size_alloc]at h;omega
theorem Zyn.ls{S:Nat→Prop}{g:Option Nat}{w W:World}(h:Zyn S w W):Zyn (LS2 S g) w W:=h.wide (fun k _ x=>.inl x)
abbrev ZAq(k:Int):Array Value:= #[.int .i64 k,.int .u64 0,.int .u64 0,.int .u64 0,.int .u64 0,.slice none 0 0,.int .i64 0,.int .i64 0,.int .i64 0]
theorem Zy8(S:Nat→Prop)(w:World)(k:Int):RT S w (.mk k S4.zero [] 0 0 0) (ZAq k).toList:=Zw0.2 ⟨_,rfl,.inl ⟨⟨none,0,rfl⟩,rfl⟩⟩
abbrev aB(w:World):List Nat:=[w.heap.size,w.heap.size+1,w.heap.size+2]
theorem RT.stepS{S:Nat→Prop}{b:Nat}{w W:World}{t:T}{cs:List Value}(h:RT S w t cs)(f:Fr (fun k=>k=b) w W)(hb:S b):RT S W t cs:=RT.keep f (fun k _ e=>e▸hb) (fun _ _ h=>h) _ _ h
abbrev NL(w:World)(r:Array Value)(n:Nat)(r3 t3:Array Value):List (Nat×Array Value×TypeId):=AL w r++[(n,r3,123),(n+1,t3,36)]
abbrev nB(w:World)(n:Nat):List Nat:=[w.heap.size,w.heap.size+1,w.heap.size+2,n,n+1]
theorem Zyj{O:Nat→Prop}{w wD:World}{n:Nat}(hn:wD.heap.size≤n):∀k,k<wD.heap.size→lbB O (nB w n) k→lbB O (aB w) k:=by
 rintro k hk (x|x)
 ·exact .inl x
 ·simp only[nB,List.mem_cons,List.not_mem_nil,or_false]at x;refine .inr ?_;simp only[aB,List.mem_cons,List.not_mem_nil,or_false];omega
theorem ZyJ{O:Nat→Prop}{w:World}{n k:Nat}(h:lbB O (aB w) k):lbB O (nB w n) k:=h.elim .inl (fun x=>.inr (by simp only[aB,List.mem_cons,List.not_mem_nil,or_false]at x;simp only[nB,List.mem_cons,List.not_mem_nil,or_false];omega))
theorem Zyx(k:Int)(l:List T):(Zyv k l).bulk≤1+T.bulks l:=by
 match l with
 |[]=>simp[Zyv,T.zero,T.bulk,T.bulks]
 |[x]=>simp only[Zyv,T.bulks];omega
 |x::y::r=>simp only[Zyv,T.bulk,T.bulks];omega
theorem Zzp(l:List T):(ZyA l).bulk≤1+T.bulks l:=by
 have:=Zyx 2 (ZxZ l);have:=Zyi l;unfold ZyA;omega
theorem ZyQ(l:List T):(Zyd l).bulk≤1+T.bulks l:=by
 have:=Zyx 3 (Zx8 l);have:=Zyl l;unfold Zyd;omega
def ZAX(l:List UInt8)(ere:Bool)(K:Nat)(deep:Nat)(C:Option (RxS→Out Nd)):Prop:=∀(s:RxS) (ca:Option Addr) (cc:Nat) (ma:Option Addr) (mc:Nat) (O:Nat→Prop) (w:World),(∀k,O k→k<w.heap.size)→Sane l s→s.at_<l.length→CSO O w s.closed ca cc→MSO O w s.marks (.slice ma s.marks.length mc)→
 Calls Tryz.prog 120 #[rV l ere s ca cc ma mc 0 0,.int .i64 deep] w (Zy4 K O l ere (ZcS prg ere l C s) w)
end
end Go.Proofs.YtgllcniibbaoaaaGreatDoor
