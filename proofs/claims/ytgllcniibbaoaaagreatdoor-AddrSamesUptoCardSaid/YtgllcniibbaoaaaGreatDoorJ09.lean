/- Lemmas of this claim. -/
import Derived.LoopN
import Derived.Test.YtgllcniibbaoaaaGreatDoorJ07
import Derived.Test.YtgllcniibbaoaaaGreatDoorJ08
set_option linter.all false
set_option maxRecDepth 100000
set_option maxHeartbeats 24000000
namespace Go.Proofs.YtgllcniibbaoaaaGreatDoor
open Go.Proofs.Tryz
open Go.RowKit
theorem Zb5(s:ByteArray)(o:Option (Int→Bool))(ho:Zak s=o)(w:World):Calls prog 159 #[.string s] w fun e w'=>e=.returned (.tuple #[ZcR (ZaD o),.bool o.isSome])∧Fr nob w w':=by
 subst ho;exact ZfI s w
theorem Zj2(s:S4)(d:Nat)(w:World)(hs:s.fit)(hd:d<256):Calls prog 160 #[ZcR s,.int .u8 d] w fun e w'=>e=.returned (.bool (s.has d))∧Fr nob w w':=ZnC s d w hs hd
theorem Zpp(l:List UInt8)(u:Value)(w:World)(hl:l.length≤9000000000000000000)(h:SB w l u):Calls prog 116 #[u] w fun e w'=>e=.returned (ZcR (S4.zero.puts l))∧Fr nob w w':=ZoU l u w hl h
theorem ZnK(w:World)(c:UInt8)(T:TypeId):SB (w.alloc (.cells #[.int .u8 (c.toNat:Int)] T)) [c] (.slice (some ⟨w.heap.size,0,none⟩) 1 1):=by
 refine Or.inr ⟨_,_,_,rfl,by simp,?_⟩;intro j x hj
 match j,hj with
 |0,hj=>simp at hj;subst hj;simp[World.cell?_alloc_new]
def Env(w:World):Prop:=Tab w∧∃m,w.cell? ⟨0,0,none⟩=some (.int .i64 m)
theorem Env.on{w w':World}(h:Env w)(f:Fr nob w w'):Env w':=⟨h.1.on f,let⟨m,hm⟩:=h.2;⟨m,f.cell hm (fun x=>x)⟩⟩
def Zj3:Nat:=max 0 1+1
theorem Env.on2{w w':World}{b:Nat}(h:Env w)(f:Fr (fun k=>k=b) w w')(hb:Zj3≤b):Env w':=
 ⟨h.1.on2 f (fun e=>by unfold Zj3 at hb;omega),let⟨m,hm⟩:=h.2;⟨m,f.cell hm (fun e=>by simp only at e;unfold Zj3 at hb;omega)⟩⟩
theorem ZdG(s t:List UInt8)(w:World)(hs:s.length≤1000000)(h:Env w):
 Calls prog 201 #[.string ⟨s.toArray⟩,.string ⟨t.toArray⟩] w fun e w'=>e=.returned (.int .i64 (Lib.index s t))∧w=w':=by
 obtain⟨m,hm⟩:=h.2;refine(Tryz.strings_Index ⟨s.toArray⟩ ⟨t.toArray⟩ m w (by rw[Zbp];omega) hm).mono ?_;rintro e w' ⟨rfl,rfl⟩;exact⟨rfl,rfl⟩
theorem ZQ{fn:Func}{p:Tmp}(h:fn.results= #[.cell p 241]){tmps:Array Value}{r:Nat}(ht:tmps.getD p undef=.pointer (some ⟨r,0,none⟩)){W:World}{s:S4}{e:Bool}
 (hb:W.heap[r]? =some (.cells #[.int .u64 s.a,.int .u64 s.b,.int .u64 s.c,.int .u64 s.d,.bool e] 241 (0,0))):(results fn tmps).run prog W=.ok (itV s e) W:=by
 have c0:=cell_at (j:=0) (v:=.int .u64 s.a) hb rfl;have c1:=cell_at (j:=1) (v:=.int .u64 s.b) hb rfl;have c2:=cell_at (j:=2) (v:=.int .u64 s.c) hb rfl;have c3:=cell_at (j:=3) (v:=.int .u64 s.d) hb rfl;have c4:=cell_at (j:=4) (v:=.bool e) hb rfl;have f:tmps[p]?.getD undef=.pointer (some ⟨r,0,none⟩):=by rw[←ht];simp
 simp only[results,h];simp[f,go_sem,c0,c1,c2,c3,c4]
theorem Zd{w:World}{b:Nat}{v0 v1 v2 v3 v4:Value}{T:TypeId}(h:w.heap[b]? =some (.cells #[v0,v1,v2,v3,v4] T (0,0))):∀w',Fr nob w w'→
 (w'.cell? ⟨b,0,none⟩=some v0∧w'.cell? ⟨b,1,none⟩=some v1∧w'.cell? ⟨b,2,none⟩=some v2∧w'.cell? ⟨b,3,none⟩=some v3∧w'.cell? ⟨b,4,none⟩=some v4)∧
 (w'.frozen? ⟨b,0,none⟩=false∧w'.frozen? ⟨b,1,none⟩=false∧w'.frozen? ⟨b,2,none⟩=false∧w'.frozen? ⟨b,3,none⟩=false∧w'.frozen? ⟨b,4,none⟩=false):=fun _ f=>by
 have h':=f.heap h (fun x=>x);exact⟨⟨cell_at h' rfl,cell_at h' rfl,cell_at h' rfl,cell_at h' rfl,cell_at h' rfl⟩,ZF h' _,ZF h' _,ZF h' _,ZF h' _,ZF h' _⟩
abbrev Zg7(w:World)(b:Nat)(v0 v1 v2 v3 v4:Value):World:=(ZaG w b v0 v1 v2 v3).setCell ⟨b,4,none⟩ v4
theorem ZA{w:World}{b:Nat}{a0 a1 a2 a3 a4:Value}{T:TypeId}{fr:Nat×Nat}(h:w.heap[b]? =some (.cells #[a0,a1,a2,a3,a4] T fr))(v0 v1 v2 v3 v4:Value):
 (Zg7 w b v0 v1 v2 v3 v4).heap[b]? =some (.cells #[v0,v1,v2,v3,v4] T fr):=by
 have h0:(w.setCell ⟨b,0,none⟩ v0).heap[b]? =some (.cells #[v0,a1,a2,a3,a4] T fr):=Za h 0 v0;have h1:((w.setCell ⟨b,0,none⟩ v0).setCell ⟨b,1,none⟩ v1).heap[b]? =some (.cells #[v0,v1,a2,a3,a4] T fr):=Za h0 1 v1;have h2:(((w.setCell ⟨b,0,none⟩ v0).setCell ⟨b,1,none⟩ v1).setCell ⟨b,2,none⟩ v2).heap[b]? =some (.cells #[v0,v1,v2,a3,a4] T fr):=Za h1 2 v2;have h3:(ZaG w b v0 v1 v2 v3).heap[b]? =some (.cells #[v0,v1,v2,v3,a4] T fr):=Za h2 3 v3;exact Za h3 4 v4
theorem ZR{S:Nat→Prop}{w a:World}{b:Nat}(f:Fr S a w)(hb:a.heap.size≤b)(v0 v1 v2 v3 v4:Value):Fr S a (Zg7 w b v0 v1 v2 v3 v4):=by
 have h:∀(x:World) (j:Nat) (v:Value),Fr S a x→Fr S a (x.setCell ⟨b,j,none⟩ v):=fun x j v hx=>hx.setCell (p:=⟨b,j,none⟩) (fun h=>absurd h (Nat.not_lt.2 hb)) v;exact h _ _ _ (h _ _ _ (h _ _ _ (h _ _ _ (h _ _ _ f))))
theorem ZJ{w:World}{b k:Nat}{o:Obj}(hk:w.heap[k]? =some o)(hne:k≠b)(v0 v1 v2 v3 v4:Value):(Zg7 w b v0 v1 v2 v3 v4).heap[k]? =some o:=
 Zc (Zc (Zc (Zc (Zc hk hne _) hne _) hne _) hne _) hne _
theorem Zl6(c:UInt8):S4.zero.puts [c]=spn c.toNat c.toNat:=S4.ext_has (ZlX _ ZaU) (Zb4 _ _) fun e he=>by
 have:=c.toNat_lt;rw[ZlZ _ _ he,ZcO,Zg3 _ _ _ (by omega) (by omega) he];by_cases h:c.toNat=e
 ·subst h;simp
 ·simp only[List.any_cons,List.any_nil,Bool.or_false,h,decide_false];by_cases h2:c.toNat≤e
  ·simp[h2];omega
  ·simp[h2]
theorem Zb6(c:UInt8)(w:World)(T:TypeId):Calls prog 116 #[.slice (some ⟨w.heap.size,0,none⟩) 1 1] (w.alloc (.cells #[.int .u8 (c.toNat:Int)] T)) fun e w'=>e=.returned (ZcR (spn c.toNat c.toNat))∧Fr nob (w.alloc (.cells #[.int .u8 (c.toNat:Int)] T)) w':=by
 rw[←Zl6];exact Zpp [c] _ _ (by simp) (ZnK w c T)
theorem Zl7(k c:UInt8):((k.toNat:Int)==46)=(if k=46 then some c else none).isSome:=by
 by_cases h:k=46
 ·subst h;rfl
 ·have:=(fun e=>h (UInt8.toNat_inj.1 e):k.toNat≠(46:UInt8).toNat);rw[if_neg h];simp at this⊢;omega
abbrev Zj4(b:Nat)(l:List UInt8)(p:Int)(s:S4)(o:Bool)(R:(Int×Nat)⊕It)(w':World):Prop:=match R with
 | .inr x=>s=x.set∧o=x.one.isSome∧Rd w' b l x.next 0 p
 | .inl z=>∃a':Nat,a'≤l.length∧z.1≠0∧Rd w' b l a' z.1 z.2
theorem Zj4.to{b:Nat}{l:List UInt8}{p:Int}{s:S4}{o:Bool}{R:(Int×Nat)⊕It}{w w':World}(h:Zj4 b l p s o R w)(f:∀x r q,Rd w b l x r q→Rd w' b l x r q):Zj4 b l p s o R w':=by
 cases R with
 |inr x=>exact⟨h.1,h.2.1,f _ _ _ h.2.2⟩
 |inl z=>obtain⟨a',h1,h2,h3⟩:=h;exact⟨a',h1,h2,f _ _ _ h3⟩
def Zl8(b:Nat)(l:List UInt8)(a:Nat)(p:Int)(R:(Int×Nat)⊕It)(w:World)(e:Ending)(w':World):Prop:=
 ∃s o,e=.returned (itV s o)∧s.fit∧Fr (fun k=>k=b) w w'∧Zj4 b l p s o R w'
open Go.Lib (hid)
theorem Zj5(b:Nat)(l:List UInt8)(a:Nat)(k:UInt8)(p:Int)(w:World)(hl:l.length≤100000)(ha:a+2≤l.length)(hb:Zj3≤b)(hE:Env w)(h:Rd w b l a 0 p)(h58:k≠58):
 Calls prog 180 #[.pointer (some ⟨b,0,none⟩),.int .u8 (k.toNat:Int)] w (Zl8 b l a p (itmN l a k) w):=by
 obtain⟨R,hR⟩:∃R,itmN l a k=R:=⟨_,rfl⟩;rw[hR];have HR:=hid hR;clear hR;have rr:=Zl h;have N:=lt_heap h;have H:=hid h;have HE:=hid hE;clear h hE;have t1:((k.toNat:Int)==58)=false:=by simp;intro h;exact h58 (UInt8.toNat_inj.1 (by simp;omega))
 have Z:=Zcf k;obtain⟨w0,y⟩:∃w0,w0=(w.alloc (.cells #[.int .u64 0,.int .u64 0,.int .u64 0,.int .u64 0,.bool false] 241)).alloc (.cells #[.int .u8 (k.toNat:Int),.int .u8 93] 5):=⟨_,rfl⟩;have J:w0.heap[w.heap.size]? =some (.cells #[.int .u64 0,.int .u64 0,.int .u64 0,.int .u64 0,.bool false] 241 (0,0)):=by rw[y];exact heap_alloc_lt _ (newAt _ _)
 have f0:Fr nob w w0:=by rw[y];exact((Fr.refl _ _).alloc _).alloc _
 have r:=Zdp (P:=prog) (src:=166) (dst:=9) (e:=5) underlying166 underlying5 underlying9 k 93 (w.alloc (.cells #[.int .u64 0,.int .u64 0,.int .u64 0,.int .u64 0,.bool false] 241));rw[show((93:UInt8).toNat:Int)=93 from rfl,show(w.alloc (.cells #[.int .u64 0,.int .u64 0,.int .u64 0,.int .u64 0,.bool false] 241)).heap.size=w.heap.size+1 by simp]at r;have u:=hid y;have A:=hid J;have m:=hid f0;have z:=hid (HE.out.on f0);have a1:=Zl (f0.heap H.out (fun x=>x));have V:b<w0.heap.size:=Nat.lt_of_lt_of_le N f0.size;clear y J f0;by_cases O:l.length<a+3
 ·have g:=hid (show itmN l a k=.inl (5,l.length) by
   have:fnd l k (l.length+1) (a+2+skp k)=none:=by
    rw[fnd,if_neg (by unfold skp;rw[if_neg h58];omega)]
   unfold itmN;rw[this])
  go_enter func180,ntmps180;go_wp2_with fail;rw[←u.out];clear r;refine(fail_ok b l a p 5 l.length _ (H.out.on m.out)).mono ?_;rintro e w2 ⟨rfl,h2,f2⟩;have f:=f2.heap A.out (fun e=>by omega);have r2:=Zd f;have B:=lt_heap f;have HH:=hid h2;have FF:=hid f2;have j:=hid f;clear h2 f2 f;go_wp2;(try simp only[Exit.inBlock,Exit.then]);refine bodyPost_ret (ZQ (s:=S4.zero) (e:=false) rfl rfl (ZA j.out _ _ _ _ _)) rfl ⟨S4.zero,false,rfl,ZaU,ZR (m.out.any.trans FF.out (fun i hi e=>e)) (Nat.le_refl _) _ _ _ _ _,?_⟩;rw[←HR.out,g.out];exact⟨a,by omega,(by simp),ZJ HH.out (by omega) _ _ _ _ _⟩
 ·have X:(a:Int)+2+1≤l.length:=by omega
  cases hf:fnd l k (l.length+1) (a+2+1)with
  |none=>
   have t:Lib.index (l.drop (a+2+1)) [k,93]= -1:=by rw[Ze4 _ _ _ (by omega),hf]
   have g:=hid (show itmN l a k=.inl (5,l.length) by unfold itmN skp;rw[if_neg h58,hf]);clear hf;have hS:=fun w h=>ZdG (l.drop (a+2+1)) [k,93] w (by simp;omega) h;rw[t]at hS;have HS:=hid hS;clear hS t;go_enter func180,ntmps180;go_wp2_with fail;rw[←u.out];clear r;refine(HS.out _ z.out).mono ?_;rintro e w1 ⟨rfl,rfl⟩;go_wp2_with fail;refine(fail_ok b l a p 5 l.length _ (H.out.on m.out)).mono ?_;rintro e w2 ⟨rfl,h2,f2⟩;have f:=f2.heap A.out (fun e=>by omega);have r2:=Zd f;have B:=lt_heap f;have HH:=hid h2;have FF:=hid f2;have j:=hid f;clear h2 f2 f;go_wp2;(try simp only[Exit.inBlock,Exit.then]);refine bodyPost_ret (ZQ (s:=S4.zero) (e:=false) rfl rfl (ZA j.out _ _ _ _ _)) rfl ⟨S4.zero,false,rfl,ZaU,ZR (m.out.any.trans FF.out (fun i hi e=>e)) (Nat.le_refl _) _ _ _ _ _,?_⟩;rw[←HR.out,g.out];exact⟨a,by omega,(by simp),ZJ HH.out (by omega) _ _ _ _ _⟩
  |some e=>
   obtain⟨h1,h2,h3,h4,h5⟩:=ZcQ hf;obtain⟨d,rfl⟩:∃d,e=a+2+1+d:=⟨e-(a+2+1),by omega⟩;have t:Lib.index (l.drop (a+2+1)) [k,93]=(d:Int):=by rw[Ze4 _ _ _ (by omega),hf];simp only;omega
   have hS:=fun w h=>ZdG (l.drop (a+2+1)) [k,93] w (by simp;omega) h;rw[t]at hS;have HS:=hid hS;clear hS t;have Y:(a:Int)+2+1+d+1<l.length:=by omega
   have I:=Zaf (P:=prog) l (lo:=(a:Int)+2) (hi:=(a:Int)+2+1+d) underlying9 (by omega) (by omega) (by omega);rw[show((a:Int)+2).toNat=a+2 by omega,show((a:Int)+2+1+d).toNat=a+2+1+d by omega]at I;obtain⟨nm,n⟩:∃nm,(l.drop (a+2)).take (a+2+1+d-(a+2))=nm:=⟨_,rfl⟩;have a0:nm.length=1+d:=by rw[←n];simp;omega
   rw[n]at I;have W:=hid n;have L:=hid (show∀c,nm=[c]→itmN l a k=.inr ⟨spn c.toNat c.toNat,if k=46 then some c else none,a+2+1+d+2⟩from fun c hc=>Zl2 h58 hf (by unfold nam;rw[n,hc]));have M:=hid (show nm.length≠1→itmN l a k=.inl (6,a)from fun hc=>Zl3 h58 hf (by unfold nam;rw[n];exact hc));clear hf h3 h4 h5 n;obtain⟨w1,o⟩:∃w1,w1=w0.setCell ⟨b,1,none⟩ (.int .i64 ((a:Int)+2+(1+d)+2)):=⟨_,rfl⟩;have Q:w1.heap.size=w0.heap.size:=by rw[o];simp
   have H1:=hid (show Rd w1 b l ((a+2+1+d+2:Nat):Int) 0 p by
    rw[o,show((a+2+1+d+2:Nat):Int)=(a:Int)+2+(1+d)+2 by omega];exact Za (m.out.heap H.out (fun x=>x)) 1 _)
   have E:=hid (show w1.heap[w.heap.size]? =some (.cells #[.int .u64 0,.int .u64 0,.int .u64 0,.int .u64 0,.bool false] 241 (0,0)) by
    rw[o];exact Zc A.out (by simp only;omega) _)
   have C:=hid (show Fr (fun k=>k=b) w w1 by rw[o];exact Fr.setCell (S:=fun k=>k=b) (p:=⟨b,1,none⟩) m.out.any (fun _=>rfl) _);have D:=hid o;clear o;by_cases hd:d=0
   ·have td:((1:Int)+d==1)=true:=by simp;omega
    have U:((1:Int)+d !=1)=false:=by simp;omega
    have HD:=hid hd;clear hd;go_enter func180,ntmps180;go_wp2_with fail;rw[←u.out];clear r;refine(HS.out _ z.out).mono ?_;rintro e w1 ⟨rfl,rfl⟩;go_wp2_with fail;obtain⟨c,rfl⟩:=List.length_eq_one_iff.1 (show nm.length=1 by have:=HD.out;omega);rw[←D.out,←Q];have ho:=Zl7 k c;refine(Zb6 c w1 _).mono ?_;have q:=L.out c rfl;obtain⟨S,hS⟩:∃S,spn c.toNat c.toNat=S:=⟨_,rfl⟩;have F:S.fit:=by rw[←hS];exact Zb4 _ _
    rw[hS]at q⊢;rintro e w2 ⟨rfl,f2⟩;have v:Fr nob w1 w2:=((Fr.refl _ _).alloc _).trans' f2;have f:=v.heap E.out (fun x=>x);have G:=H1.out.on v;have r2:=Zd f;have B:=lt_heap f;have FF:=hid (C.out.trans v (fun i hi e=>e.elim));have j:=hid f;have K:=hid G;have g:=hid q;have HO:=hid ho;clear f G hS q f2 v ho;go_wp2;(try simp only[Exit.inBlock,Exit.then]);refine bodyPost_ret (ZQ (s:=S) (e:=(k.toNat:Int)==46) rfl rfl (ZA j.out _ _ _ _ _)) rfl ⟨S,_,rfl,F,ZR FF.out (Nat.le_refl _) _ _ _ _ _,?_⟩;rw[←HR.out,g.out];exact⟨rfl,HO.out,ZJ K.out (by omega) _ _ _ _ _⟩
   ·have td:((1:Int)+d==1)=false:=by simp;omega
    have U:((1:Int)+d !=1)=true:=by simp;omega
    go_enter func180,ntmps180;go_wp2_with fail;rw[←u.out];clear r;refine(HS.out _ z.out).mono ?_;rintro e w1 ⟨rfl,rfl⟩;go_wp2_with fail;rw[←D.out];refine(fail_ok b l _ p 6 a _ H1.out).mono ?_;rintro e w2 ⟨rfl,h2,f2⟩;have f:=f2.heap E.out (fun e=>by omega);have r2:=Zd f;have B:=lt_heap f;have HH:=hid h2;have FF:=hid f2;have j:=hid f;have g:=hid (M.out (by omega));clear h2 f2 f;go_wp2;(try simp only[Exit.inBlock,Exit.then]);refine bodyPost_ret (ZQ (s:=S4.zero) (e:=false) rfl rfl (ZA j.out _ _ _ _ _)) rfl ⟨S4.zero,false,rfl,ZaU,ZR (C.out.trans FF.out (fun i hi e=>e)) (Nat.le_refl _) _ _ _ _ _,?_⟩;rw[←HR.out,g.out];exact⟨a+2+1+d+2,by omega,(by simp),ZJ HH.out (by omega) _ _ _ _ _⟩
def Zqq(a e:Nat):Option (Int→Bool)→(Int×Nat)⊕It
 |none=>.inl (6,a)
 |some p=>.inr ⟨pk p 256,none,e+2⟩
theorem Zj6(b:Nat)(l:List UInt8)(a:Nat)(p:Int)(w:World)(hl:l.length≤100000)(ha:a+2≤l.length)(hb:Zj3≤b)(hE:Env w)(h:Rd w b l a 0 p):
 Calls prog 180 #[.pointer (some ⟨b,0,none⟩),.int .u8 58] w (Zl8 b l a p (itmN l a 58) w):=by
 obtain⟨R,hR⟩:∃R,itmN l a 58=R:=⟨_,rfl⟩;rw[hR];have HR:=hid hR;clear hR;have rr:=Zl h;have M:=lt_heap h;have H:=hid h;have HE:=hid hE;clear h hE;obtain⟨w0,u⟩:∃w0,w0=(w.alloc (.cells #[.int .u64 0,.int .u64 0,.int .u64 0,.int .u64 0,.bool false] 241)).alloc (.cells #[.int .u8 58,.int .u8 93] 5):=⟨_,rfl⟩;have F:w0.heap[w.heap.size]? =some (.cells #[.int .u64 0,.int .u64 0,.int .u64 0,.int .u64 0,.bool false] 241 (0,0)):=by rw[u];exact heap_alloc_lt _ (newAt _ _)
 have f0:Fr nob w w0:=by rw[u];exact((Fr.refl _ _).alloc _).alloc _
 have t:=Zdp (P:=prog) (src:=166) (dst:=9) (e:=5) underlying166 underlying5 underlying9 58 93 (w.alloc (.cells #[.int .u64 0,.int .u64 0,.int .u64 0,.int .u64 0,.bool false] 241));rw[show((93:UInt8).toNat:Int)=93 from rfl,show(w.alloc (.cells #[.int .u64 0,.int .u64 0,.int .u64 0,.int .u64 0,.bool false] 241)).heap.size=w.heap.size+1 by simp]at t;rw[show((58:UInt8).toNat:Int)=58 from rfl]at t;have C:=hid u;have D:=hid F;have q:=hid f0;have A:=hid (HE.out.on f0);have Y:=Zl (f0.heap H.out (fun x=>x));have Q:b<w0.heap.size:=Nat.lt_of_lt_of_le M f0.size;clear u F f0;have V:(a:Int)+2≤l.length:=by omega
 cases hf:fnd l 58 (l.length+1) (a+2)with
 |none=>
  have j:Lib.index (l.drop (a+2)) [58,93]= -1:=by rw[Ze4 _ _ _ (by omega),hf]
  have r:=hid (ZjY (l:=l) (a:=a) (k:=58) hf);clear hf;have hS:=fun w h=>ZdG (l.drop (a+2)) [58,93] w (by simp;omega) h;rw[j]at hS;have HS:=hid hS;clear hS j;go_enter func180,ntmps180;go_wp2_with fail;rw[←C.out];clear t;refine(HS.out _ A.out).mono ?_;rintro e w1 ⟨rfl,rfl⟩;go_wp2_with fail;refine(fail_ok b l a p 5 l.length _ (H.out.on q.out)).mono ?_;rintro e w2 ⟨rfl,h2,f2⟩;have f:=f2.heap D.out (fun e=>by omega);have r2:=Zd f;have N:=lt_heap f;have HH:=hid h2;have FF:=hid f2;have g:=hid f;clear h2 f2 f;go_wp2;(try simp only[Exit.inBlock,Exit.then]);refine bodyPost_ret (ZQ (s:=S4.zero) (e:=false) rfl rfl (ZA g.out _ _ _ _ _)) rfl ⟨S4.zero,false,rfl,ZaU,ZR (q.out.any.trans FF.out (fun i hi e=>e)) (Nat.le_refl _) _ _ _ _ _,?_⟩;rw[←HR.out,r.out];exact⟨a,by omega,(by simp),ZJ HH.out (by omega) _ _ _ _ _⟩
 |some e=>
  obtain⟨h1,h2,h3,h4,h5⟩:=ZcQ hf;obtain⟨d,rfl⟩:∃d,e=a+2+d:=⟨e-(a+2),by omega⟩;have j:Lib.index (l.drop (a+2)) [58,93]=(d:Int):=by rw[Ze4 _ _ _ (by omega),hf];simp only;omega
  have hS:=fun w h=>ZdG (l.drop (a+2)) [58,93] w (by simp;omega) h;rw[j]at hS;have HS:=hid hS;clear hS j;have W:(a:Int)+2+d+1<l.length:=by omega
  have E:=Zaf (P:=prog) l (lo:=(a:Int)+2) (hi:=(a:Int)+2+d) underlying9 (by omega) (by omega) (by omega);rw[show((a:Int)+2).toNat=a+2 by omega,show((a:Int)+2+d).toNat=a+2+d by omega]at E;obtain⟨nm,m⟩:∃nm,(l.drop (a+2)).take (a+2+d-(a+2))=nm:=⟨_,rfl⟩;have X:nm.length=d:=by rw[←m];simp;omega
  rw[m]at E;obtain⟨o,ho⟩:∃o,Zak ⟨nm.toArray⟩=o:=⟨_,rfl⟩;have r:=hid (show itmN l a 58=Zqq a (a+2+d) o by
   cases o with
   |none=>exact Zi2 hf (by unfold nam;rw[m,ho])
   |some p=>exact Zl4 hf (by unfold nam;rw[m,ho]))
  have HC:=hid (fun w=>Zb5 ⟨nm.toArray⟩ o ho w);clear hf h3 h4 h5 m ho;obtain⟨w1,n⟩:∃w1,w1=w0.setCell ⟨b,1,none⟩ (.int .i64 ((a:Int)+2+d+2)):=⟨_,rfl⟩;have H1:=hid (show Rd w1 b l ((a+2+d+2:Nat):Int) 0 p by
   rw[n,show((a+2+d+2:Nat):Int)=(a:Int)+2+d+2 by omega];exact Za (q.out.heap H.out (fun x=>x)) 1 _)
  have K:=hid (show w1.heap[w.heap.size]? =some (.cells #[.int .u64 0,.int .u64 0,.int .u64 0,.int .u64 0,.bool false] 241 (0,0)) by
   rw[n];exact Zc D.out (by simp only;omega) _)
  have G:=hid (show Fr (fun k=>k=b) w w1 by rw[n];exact Fr.setCell (S:=fun k=>k=b) (p:=⟨b,1,none⟩) q.out.any (fun _=>rfl) _);have J:=hid n;clear n;go_enter func180,ntmps180;go_wp2_with fail;rw[←C.out];clear t;refine(HS.out _ A.out).mono ?_;rintro e Z ⟨rfl,rfl⟩;go_wp2_with fail;rw[←J.out];refine(HC.out w1).mono ?_;obtain⟨S,hS⟩:∃S,ZaD o=S:=⟨_,rfl⟩;have v:S.fit:=by rw[←hS];exact Zdd _
  rw[hS];rintro e w2 ⟨rfl,f2⟩;have f:=f2.heap K.out (fun x=>x);have y:=H1.out.on f2;have U:=lt_heap y;have N:=lt_heap f;have FF:=hid (G.out.trans f2 (fun i hi e=>e.elim));have g:=hid f;have B:=hid y;have I:=hid hS;clear f y hS f2;cases o with
  |none=>
   go_wp2_with fail;refine(fail_ok b l _ p 6 a _ (B.out.on ((Fr.refl _ _).alloc _))).mono ?_;rintro e w3 ⟨rfl,h3,f3⟩;have z:=f3.heap (((Fr.refl nob w2).alloc _).heap g.out (fun x=>x)) (fun e=>by omega);have r3:=Zd z;have O:=Zl (f3.heap (newAt w2 (.cells #[.int .u64 S.a,.int .u64 S.b,.int .u64 S.c,.int .u64 S.d] 132)) (fun e=>by omega));have HH:=hid h3;have F3:=hid f3;have L:=hid z;clear h3 f3 z;go_wp2;(try simp only[Exit.inBlock,Exit.then]);refine bodyPost_ret (ZQ (s:=S) (e:=false) rfl rfl (ZA L.out _ _ _ _ _)) rfl ⟨S,false,rfl,v,ZR ((FF.out.alloc _).trans F3.out (fun i hi e=>e)) (Nat.le_refl _) _ _ _ _ _,?_⟩;rw[←HR.out,r.out];exact⟨a+2+d+2,by omega,(by simp),ZJ HH.out (by omega) _ _ _ _ _⟩
  |some p0=>
   have r3:=Zd g.out;have O:=Zl (newAt w2 (.cells #[.int .u64 S.a,.int .u64 S.b,.int .u64 S.c,.int .u64 S.d] 132));go_wp2;(try simp only[Exit.inBlock,Exit.then]);refine bodyPost_ret (ZQ (s:=S) (e:=false) rfl rfl (((Fr.refl nob _).alloc _).heap (ZA g.out _ _ _ _ _) (fun x=>x))) rfl ⟨S,false,rfl,v,(ZR FF.out (Nat.le_refl _) _ _ _ _ _).alloc _,?_⟩;rw[←HR.out,r.out];exact⟨I.out.symm,rfl,((Fr.refl nob _).alloc _).heap (ZJ B.out (by omega) _ _ _ _ _) (fun x=>x)⟩
theorem named_any(b:Nat)(l:List UInt8)(a:Nat)(k:UInt8)(p:Int)(w:World)(hl:l.length≤100000)(ha:a+2≤l.length)(hb:Zj3≤b)(hE:Env w)(h:Rd w b l a 0 p):
 Calls prog 180 #[.pointer (some ⟨b,0,none⟩),.int .u8 (k.toNat:Int)] w (Zl8 b l a p (itmN l a k) w):=by
 by_cases hk:k=58
 ·subst hk;exact Zj6 b l a p w hl ha hb hE h
 ·exact Zj5 b l a k p w hl ha hb hE h hk
theorem ZqS(w:World):(Instr.index 264 (.agg #[.string ⟨#[91,58]⟩,.string ⟨#[91,61]⟩,.string ⟨#[91,46]⟩]) (.int .i64 0)).run prog w=.ok (.string ⟨#[91,58]⟩) w:=by kernel_rfl
theorem ZqT(w:World):(Instr.index 264 (.agg #[.string ⟨#[91,58]⟩,.string ⟨#[91,61]⟩,.string ⟨#[91,46]⟩]) (.int .i64 1)).run prog w=.ok (.string ⟨#[91,61]⟩) w:=by kernel_rfl
theorem ZqU(w:World):(Instr.index 264 (.agg #[.string ⟨#[91,58]⟩,.string ⟨#[91,61]⟩,.string ⟨#[91,46]⟩]) (.int .i64 2)).run prog w=.ok (.string ⟨#[91,46]⟩) w:=by kernel_rfl
theorem pre2{l:List UInt8}{k:UInt8}{a:Nat}:([91,k].isPrefixOf (l.drop a)=true)↔l[a]? =some 91∧l[a+1]? =some k:=by
 have:=Zpm l a 0 k;unfold Lib.occAt at this;have e1:l[a]? =(l.drop a)[0]? :=by simp
 have e2:l[a+1]? =(l.drop a)[1]? :=by simp
 rw[e1,e2];cases h:l.drop a with
 |nil=>simp
 |cons x r=>
  cases r with
  |nil=>simp
  |cons y r=>
   simp[List.isPrefixOf];constructor<;>(rintro⟨h1,h2⟩;exact⟨h1.symm,h2.symm⟩)
theorem Zd2{l:List UInt8}{a:Nat}{k:UInt8}(hk:ZjX k=true)(h:[91,k].isPrefixOf (l.drop a)=true):itm l a=itmN l a k∧a+2≤l.length:=by
 obtain⟨h1,h2⟩:=pre2.1 h;have:=(List.getElem?_eq_some_iff.1 h2).1;unfold itm;rw[h1];simp only;rw[h2];simp only;rw[if_pos ⟨trivial,hk⟩];exact⟨rfl,by omega⟩
theorem Zj7{l:List UInt8}{a:Nat}(ha:a<l.length)(h1:[91,58].isPrefixOf (l.drop a)=false)(h2:[91,61].isPrefixOf (l.drop a)=false)(h3:[91,46].isPrefixOf (l.drop a)=false):
 itm l a=.inr ⟨spn (l[a]).toNat (l[a]).toNat,some l[a],a+1⟩:=by
 unfold itm;rw[List.getElem?_eq_getElem ha];simp only;split
 ·rfl
 ·next k hk=>
  split
  ·next hc=>
   have b:l[a]? =some 91:=by rw[List.getElem?_eq_getElem ha,hc.1]
   have c:=hc.2;unfold ZjX at c;simp only[Bool.or_eq_true,beq_iff_eq]at c;rcases c with(rfl|rfl)|rfl
   ·rw[pre2.2 ⟨b,hk⟩]at h1;cases h1
   ·rw[pre2.2 ⟨b,hk⟩]at h2;cases h2
   ·rw[pre2.2 ⟨b,hk⟩]at h3;cases h3
  ·rfl
theorem ZnL{l:List UInt8}{a:Nat}(ha:l.length≤a):itm l a=.inl (5,l.length):=by
 unfold itm;rw[List.getElem?_eq_none ha]
theorem item_any(b:Nat)(l:List UInt8)(a:Nat)(p:Int)(w:World)(hl:l.length≤100000)(ha:a≤l.length)(hb:Zj3≤b)(hE:Env w)(h:Rd w b l a 0 p):
 Calls prog 161 #[.pointer (some ⟨b,0,none⟩)] w (Zl8 b l a p (itm l a) w):=by
 obtain⟨R,hR⟩:∃R,itm l a=R:=⟨_,rfl⟩;rw[hR];have HR:=hid hR;clear hR;have rr:=Zl h;have Z:=lt_heap h;obtain⟨w0,H⟩:∃w0,w0=w.alloc (.cells #[.int .u64 0,.int .u64 0,.int .u64 0,.int .u64 0,.bool false] 241):=⟨_,rfl⟩;have f0:Fr nob w w0:=by rw[H];exact(Fr.refl _ _).alloc _
 have A:=hid (show w0.heap[w.heap.size]? =some (.cells #[.int .u64 0,.int .u64 0,.int .u64 0,.int .u64 0,.bool false] 241 (0,0)) by rw[H];exact newAt _ _);have v:=hid f0;have H0:=hid (h.on f0);have J:=hid (hE.on f0);have a1:b<w0.heap.size:=Nat.lt_of_lt_of_le Z f0.size;have a4:=Zl H0.out;have K:=hid H;clear H;clear h hE f0;have a2:(a:Int)≤l.length:=by omega
 by_cases L:l.length≤a
 ·have g:=hid (ZnL L);have t1:((l.length:Int)≤a):=by omega
  go_enter func161,ntmps161;go_wp2_with fail;rw[←K.out];refine region_fr_all (by kernel_rfl) (by kernel_rfl) ?_
  repeat(quiet_step (fail))
  refine wpQuiet_nil ?_;intro wC fC;go_wp2_with fail;refine(fail_ok b l a p 5 l.length _ (H0.out.on fC)).mono ?_;rintro e w2 ⟨rfl,h2,f2⟩;have d:=f2.heap (fC.heap A.out (fun x=>x)) (fun e=>by omega);have r2:=Zd d;have D:=lt_heap d;have HH:=hid h2;have FF:=hid ((v.out.trans' fC).any.trans f2 (fun i hi e=>e));have n:=hid d;clear h2 f2 d fC;go_wp2;(try simp only[Exit.inBlock,Exit.then]);refine bodyPost_ret (ZQ (s:=S4.zero) (e:=false) rfl rfl (ZA n.out _ _ _ _ _)) rfl ⟨S4.zero,false,rfl,ZaU,ZR FF.out (Nat.le_refl _) _ _ _ _ _,?_⟩;rw[←HR.out,g.out];exact⟨a,by omega,(by simp),ZJ HH.out (by omega) _ _ _ _ _⟩
 ·have t1:¬((l.length:Int)≤a):=by omega
  have HA:=hid (fun(t:List UInt8) (ht:t.length≤1000000) w h=>Zbr b l t a 0 p w (by omega) ht ha h);go_enter func161,ntmps161;go_wp2_with fail;rw[←K.out];refine region_fr_all (by kernel_rfl) (by kernel_rfl) ?_
  repeat(quiet_step (fail))
  refine wpQuiet_nil ?_;intro wC fC;have o0:=ZqS;have o1:=ZqT;have o2:=ZqU;go_wp2_with fail;refine wp_loop_rounds 4 ?_;rw[rounds_succ];go_wp2_with fail;refine(HA.out [91,58] (by simp) wC (H0.out.on fC)).mono ?_;obtain⟨q0,E⟩:∃q,[91,58].isPrefixOf (l.drop a)=q:=⟨_,rfl⟩;rw[E];rintro e v0 ⟨rfl,g0⟩;have g0:=Fr.trans' fC g0;cases q0 with
  |true=>
   obtain⟨j,B⟩:=Zd2 (k:=58) rfl E;have g:=hid j;clear j;go_wp2_with fail;refine(named_any b l a 58 p v0 hl B hb (J.out.on g0) (H0.out.on g0)).mono ?_;rintro e w2 ⟨s,o,rfl,m,f2,f⟩;rw[←g.out,HR.out]at f;have d:=f2.heap (Fr.heap g0 A.out (fun x=>x)) (fun e=>by omega);have r2:=Zd d;have D:=lt_heap d;have FF:=hid ((v.out.trans' g0).any.trans f2 (fun i hi e=>e));have n:=hid d;have y:=hid f;have z:=hid m;clear f2 d f m;go_wp2;(try simp only[Exit.inBlock,Exit.then]);refine bodyPost_ret (ZQ (s:=s) (e:=o) rfl rfl (ZA n.out _ _ _ _ _)) rfl ⟨s,o,rfl,z.out,ZR FF.out (Nat.le_refl _) _ _ _ _ _,?_⟩;exact y.out.to fun x r q h=>ZJ h (by omega) _ _ _ _ _
  |false=>
  have P:=hid E;clear E;go_wp2_with fail;rw[rounds_succ];go_wp2_with fail;refine(HA.out [91,61] (by simp) v0 (H0.out.on g0)).mono ?_;obtain⟨q1,F⟩:∃q,[91,61].isPrefixOf (l.drop a)=q:=⟨_,rfl⟩;rw[F];rintro e v1 ⟨rfl,g1⟩;have g1:=Fr.trans' g0 g1;cases q1 with
  |true=>
   obtain⟨j,B⟩:=Zd2 (k:=61) rfl F;have g:=hid j;clear j;go_wp2_with fail;refine(named_any b l a 61 p v1 hl B hb (J.out.on g1) (H0.out.on g1)).mono ?_;rintro e w2 ⟨s,o,rfl,m,f2,f⟩;rw[←g.out,HR.out]at f;have d:=f2.heap (Fr.heap g1 A.out (fun x=>x)) (fun e=>by omega);have r2:=Zd d;have D:=lt_heap d;have FF:=hid ((v.out.trans' g1).any.trans f2 (fun i hi e=>e));have n:=hid d;have y:=hid f;have z:=hid m;clear f2 d f m;go_wp2;(try simp only[Exit.inBlock,Exit.then]);refine bodyPost_ret (ZQ (s:=s) (e:=o) rfl rfl (ZA n.out _ _ _ _ _)) rfl ⟨s,o,rfl,z.out,ZR FF.out (Nat.le_refl _) _ _ _ _ _,?_⟩;exact y.out.to fun x r q h=>ZJ h (by omega) _ _ _ _ _
  |false=>
  have Q:=hid F;clear F;go_wp2_with fail;rw[rounds_succ];go_wp2_with fail;refine(HA.out [91,46] (by simp) v1 (H0.out.on g1)).mono ?_;obtain⟨q2,G⟩:∃q,[91,46].isPrefixOf (l.drop a)=q:=⟨_,rfl⟩;rw[G];rintro e v2 ⟨rfl,g2⟩;have g2:=Fr.trans' g1 g2;cases q2 with
  |true=>
   obtain⟨j,B⟩:=Zd2 (k:=46) rfl G;have g:=hid j;clear j;go_wp2_with fail;refine(named_any b l a 46 p v2 hl B hb (J.out.on g2) (H0.out.on g2)).mono ?_;rintro e w2 ⟨s,o,rfl,m,f2,f⟩;rw[←g.out,HR.out]at f;have d:=f2.heap (Fr.heap g2 A.out (fun x=>x)) (fun e=>by omega);have r2:=Zd d;have D:=lt_heap d;have FF:=hid ((v.out.trans' g2).any.trans f2 (fun i hi e=>e));have n:=hid d;have y:=hid f;have z:=hid m;clear f2 d f m;go_wp2;(try simp only[Exit.inBlock,Exit.then]);refine bodyPost_ret (ZQ (s:=s) (e:=o) rfl rfl (ZA n.out _ _ _ _ _)) rfl ⟨s,o,rfl,z.out,ZR FF.out (Nat.le_refl _) _ _ _ _ _,?_⟩;exact y.out.to fun x r q h=>ZJ h (by omega) _ _ _ _ _
  |false=>
  have U:=hid G;clear G;go_wp2_with fail;rw[rounds_succ];go_wp2_with fail;have a3:(a:Int)<l.length:=by omega
  have g:=hid (Zj7 (show a<l.length by omega) P.out Q.out U.out);obtain⟨c,hc⟩:∃c,l[a]'(by omega)=c:=⟨_,rfl⟩;refine region_fr 8 (by kernel_rfl) (by kernel_rfl) ?_;simp only[List.take_succ_cons,List.take_zero,List.drop_succ_cons,List.drop_zero]
  repeat(quiet_step (fail))
  refine wpQuiet_nil ?_;intro wD fD;have gD:=Fr.trans' g2 fD;obtain⟨w5,u⟩:∃w5,w5=wD.setCell ⟨b,1,none⟩ (.int .i64 ((a:Int)+1)):=⟨_,rfl⟩;have a0:w5.heap.size=wD.heap.size:=by rw[u];simp
  have H5:=hid (show Rd w5 b l ((a+1:Nat):Int) 0 p by
   rw[u,show((a+1:Nat):Int)=(a:Int)+1 by omega];exact Za (gD.heap H0.out (fun x=>x)) 1 _)
  have X:=hid (show w5.heap[w.heap.size]? =some (.cells #[.int .u64 0,.int .u64 0,.int .u64 0,.int .u64 0,.bool false] 241 (0,0)) by
   rw[u];exact Zc (gD.heap A.out (fun x=>x)) (by simp only;omega) _)
  have N:=hid (show Fr (fun k=>k=b) w w5 by rw[u];exact Fr.setCell (S:=fun k=>k=b) (p:=⟨b,1,none⟩) (v.out.trans' gD).any (fun _=>rfl) _);have W:=hid u;clear u;go_wp2_with fail;rw[←W.out,←a0];refine(Zb6 c w5 _).mono ?_;obtain⟨S,hS⟩:∃S,spn c.toNat c.toNat=S:=⟨_,rfl⟩;have M:S.fit:=by rw[←hS];exact Zb4 _ _
  rw[hS];have HS:=hid hS;clear hS;rintro e w6 ⟨rfl,f6⟩;have C:Fr nob w5 w6:=((Fr.refl _ _).alloc _).trans' f6;have I:=C.heap X.out (fun x=>x);have r6:=Zd I;have D:=lt_heap I;have FF:=hid (N.out.trans C (fun i hi e=>e.elim));have Y:=hid I;have V:=hid (H5.out.on C);have O:=hid hc;clear I f6 C hc;go_wp2;(try simp only[Exit.inBlock,Exit.then]);refine bodyPost_ret (ZQ (s:=S) (e:=true) rfl rfl (ZA Y.out _ _ _ _ _)) rfl ⟨S,true,rfl,M,ZR FF.out (Nat.le_refl _) _ _ _ _ _,?_⟩;rw[←HR.out,g.out,O.out];exact⟨HS.out.symm,rfl,ZJ V.out (by omega) _ _ _ _ _⟩
open Classical in
noncomputable def lst(s:S4):Nat:=if h:∃d b,Zbi s d b then h.choose else 0
theorem Znd{s:S4}{d:Nat}{b:Bool}(h:Zbi s d b):lst s=d:=by
 have hx:∃d b,Zbi s d b:=⟨d,b,h⟩;unfold lst;rw[dif_pos hx];obtain⟨b',hb⟩:=hx.choose_spec;exact(hb.uniq h).1
theorem Zne(s:S4):lst s<256:=by
 unfold lst;split
 ·next h=>
  obtain⟨b,hb⟩:=h.choose_spec;rcases hb with⟨_,h0,_⟩|⟨_,h0,_⟩<;>omega
 ·omega
theorem Ze6{c:Nat}(h:c<256):lst (spn c c)=c:=
 Znd (b:=true) (.inr ⟨rfl,h,by rw[Zg3 _ _ _ h h h];simp,fun e he=>by rw[Zg3 _ _ _ h h (by omega)];simp;omega⟩)
theorem ZbK(s:S4)(o:Bool)(w:World)(hs:s.fit)(hT:Tab w):
 Calls prog 162 #[itV s o] w fun e w'=>e=.returned (.int .u8 (lst s))∧Fr nob w w':=by
 refine(Zg6 s o w hs hT).mono ?_;rintro e w' ⟨d,b,rfl,h,_,f⟩;rw[Znd h];exact⟨rfl,f⟩
theorem Ze7(a b:Nat)(w:World)(ha:a<256)(hb:b<256):Calls prog 115 #[.int .u8 a,.int .u8 b] w fun e w'=>e=.returned (ZcR (spn a b))∧Fr nob w w':=Zl1 a b w ha hb
abbrev Zdy(b:Nat)(l:List UInt8)(p:Int)(s:S4)(R:(Int×Nat)⊕(S4×Nat))(w':World):Prop:=match R with
 | .inr x=>s=x.1∧Rd w' b l x.2 0 p
 | .inl z=>∃a':Nat,a'≤l.length∧z.1≠0∧Rd w' b l a' z.1 z.2
def Zqr(b:Nat)(l:List UInt8)(p:Int)(R:(Int×Nat)⊕(S4×Nat))(w:World)(e:Ending)(w':World):Prop:=
 ∃s,e=.returned (ZcR s)∧s.fit∧Fr (fun k=>k=b) w w'∧Zdy b l p s R w'
theorem ZnM(l:List UInt8)(k:Nat):rng l k=(decide (k+1<l.length)&&[45].isPrefixOf (l.drop k)&& !([45,93].isPrefixOf (l.drop k))):=by
 unfold rng;have e1:([45].isPrefixOf (l.drop k))=(l[k]? ==some 45):=by
  rw[Bool.eq_iff_iff,ZlH];simp
 have e2:([45,93].isPrefixOf (l.drop k))=((l[k]? ==some 45)&&(l[k+1]? ==some 93)):=by
  have:=Zpm l k 0 45;rw[Bool.eq_iff_iff];simp only[Bool.and_eq_true,beq_iff_eq];unfold Lib.occAt at this;simpa using this
 rw[e1,e2];cases decide (k+1<l.length)<;>cases(l[k]? ==some 45)<;>cases(l[k+1]? ==some 93)<;>rfl
theorem fail_any(b:Nat)(l:List UInt8)(a r p e q:Int)(w:World)(h:Rd w b l a r p):
 Calls prog 163 #[.pointer (some ⟨b,0,none⟩),.int .i64 e,.int .i64 q] w fun x w'=>x=.returned (.tuple #[])∧Rd w' b l a (if r=0 then e else r) (if r=0 then q else p)∧Fr (fun k=>k=b) w w':=by
 by_cases hr:r=0
 ·subst hr;simp only[if_true];exact fail_ok b l a p e q w h
 ·rw[if_neg hr,if_neg hr];refine(Zl5 b l a r p e q w hr h).mono ?_;rintro x w' ⟨rfl,rfl⟩;exact⟨rfl,h,Fr.refl _ _⟩
theorem ZnN{l:List UInt8}{a:Nat}{z:Int×Nat}(h:itm l a=.inl z):prt l a=.inl z:=by unfold prt;rw[h]
theorem ZnO{l:List UInt8}{a:Nat}{x:It}(h:itm l a=.inr x)(hr:rng l x.next=false):prt l a=.inr (x.set,x.next):=by
 unfold prt;rw[h];simp only;rw[hr];rfl
def rgo(a:Nat)(o1 o2:Option UInt8)(n:Nat):(Int×Nat)⊕(S4×Nat):=match o1,o2 with
 |some c,some d=>if c.toNat≤d.toNat then .inr (spn c.toNat d.toNat,n)else .inl (1,a)
 |_,_=>.inl (1,a)
theorem Zl9{a n:Nat}{o:Option UInt8}:rgo a none o n=.inl (1,a):=rfl
theorem Zj8{a n:Nat}{o:Option UInt8}:rgo a o none n=.inl (1,a):=by cases o<;>rfl
theorem Zpq{a n:Nat}{c d:UInt8}(h:c.toNat≤d.toNat):rgo a (some c) (some d) n=.inr (spn c.toNat d.toNat,n):=if_pos h
theorem Zpr{a n:Nat}{c d:UInt8}(h:¬c.toNat≤d.toNat):rgo a (some c) (some d) n=.inl (1,a):=if_neg h
theorem ZnP{l:List UInt8}{a:Nat}{x:It}{z:Int×Nat}(hx:itm l a=.inr x)(hr:rng l x.next=true)(hy:itm l (x.next+1)=.inl z):prt l a=.inl z:=by
 unfold prt;rw[hx];simp only;rw[hr,hy];rfl
theorem ZnQ{l:List UInt8}{a:Nat}{x y:It}(hx:itm l a=.inr x)(hr:rng l x.next=true)(hy:itm l (x.next+1)=.inr y):prt l a=rgo a x.one y.one y.next:=by
 unfold prt rgo;rw[hx];simp only;rw[hr,hy];rfl
theorem Zma{b:Nat}{l:List UInt8}{a:Nat}{p:Int}{x:It}{s':S4}{o':Bool}{w4:World}(hx:itm l a=.inr x)(hr:rng l x.next=true)(h:Zj4 b l p s' o' (itm l (x.next+1)) w4):
 ∃(a':Nat) (r q:Int),a'≤l.length∧Rd w4 b l a' r q∧
  (∀w,(x.one.isSome=false∨o'=false∨lst s'<lst x.set)→Rd w b l a' (if r=0 then 1 else r) (if r=0 then(a:Int)else q)→Zdy b l p (spn (lst x.set) (lst s')) (prt l a) w)∧
  (∀w,x.one.isSome=true→o'=true→¬lst s'<lst x.set→Rd w b l a' r q→Zdy b l p (spn (lst x.set) (lst s')) (prt l a) w):=by
 cases hy:itm l (x.next+1)with
 |inl z=>
  rw[hy]at h;obtain⟨a',h1,h2,h3⟩:=h;rw[ZnP hx hr hy];refine⟨a',z.1,z.2,h1,h3,fun w _ hw=> ?_,fun w _ _ _ hw=>⟨a',h1,h2,hw⟩⟩;rw[if_neg h2,if_neg h2]at hw;exact⟨a',h1,h2,hw⟩
 |inr y=>
  rw[hy]at h;obtain⟨h1,h2,h3⟩:=h;have g:=ZdF hy;rw[ZnQ hx hr hy];refine⟨y.next,0,p,g.2.1,h3,fun w hb hw=> ?_,fun w h4 h5 h6 hw=> ?_⟩
  ·simp only[if_true]at hw;cases e:x.one with
   |none=>rw[Zl9];exact⟨y.next,g.2.1,(by simp),hw⟩
   |some c=>
    cases f:y.one with
    |none=>rw[Zj8];exact⟨y.next,g.2.1,(by simp),hw⟩
    |some d=>
     have e1:=Ze5 hx e;have e2:=Ze5 hy f;rw[e,h2,f,h1,e1,e2,Ze6 c.toNat_lt,Ze6 d.toNat_lt]at hb;simp only[Option.isSome_some,Bool.true_eq_false,false_or,reduceCtorEq]at hb;rw[Zpr (by omega)];exact⟨y.next,g.2.1,(by simp),hw⟩
  ·cases e:x.one with
   |none=>rw[e]at h4;cases h4
   |some c=>
    cases f:y.one with
    |none=>rw[h2,f]at h5;cases h5
    |some d=>
     have e1:=Ze5 hx e;have e2:=Ze5 hy f;rw[h1,e1,e2,Ze6 c.toNat_lt,Ze6 d.toNat_lt]at h6⊢;rw[Zpq (by omega)];exact⟨rfl,hw⟩
theorem Zy{w:World}{b k:Nat}{o:Obj}(hk:w.heap[k]? =some o)(hne:k≠b)(v0 v1 v2 v3:Value):(ZaG w b v0 v1 v2 v3).heap[k]? =some o:=
 Zc (Zc (Zc (Zc hk hne _) hne _) hne _) hne _
theorem setFour_frS{S:Nat→Prop}{w a:World}{b:Nat}(f:Fr S a w)(hb:a.heap.size≤b)(v0 v1 v2 v3:Value):Fr S a (ZaG w b v0 v1 v2 v3):=by
 have h:∀(x:World) (j:Nat) (v:Value),Fr S a x→Fr S a (x.setCell ⟨b,j,none⟩ v):=fun x j v hx=>hx.setCell (p:=⟨b,j,none⟩) (fun h=>absurd h (Nat.not_lt.2 hb)) v;exact h _ _ _ (h _ _ _ (h _ _ _ (h _ _ _ f)))
theorem Zdy.to{b:Nat}{l:List UInt8}{p:Int}{s:S4}{R:(Int×Nat)⊕(S4×Nat)}{w w':World}(h:Zdy b l p s R w)(f:∀x r q,Rd w b l x r q→Rd w' b l x r q):Zdy b l p s R w':=by
 cases R with
 |inr x=>exact⟨h.1,f _ _ _ h.2⟩
 |inl z=>obtain⟨a',h1,h2,h3⟩:=h;exact⟨a',h1,h2,f _ _ _ h3⟩
theorem part_any(b:Nat)(l:List UInt8)(a:Nat)(p:Int)(w:World)(hl:l.length≤100000)(ha:a≤l.length)(hb:Zj3≤b)(hE:Env w)(h:Rd w b l a 0 p):
 Calls prog 140 #[.pointer (some ⟨b,0,none⟩)] w (Zqr b l p (prt l a) w):=by
 obtain⟨R,hR⟩:∃R,prt l a=R:=⟨_,rfl⟩;rw[hR];have HR:=hid hR;clear hR;have rr:=Zl h;have h5:=lt_heap h;obtain⟨w0,K⟩:∃w0,w0=w.alloc (.cells #[.int .u64 0,.int .u64 0,.int .u64 0,.int .u64 0] 132):=⟨_,rfl⟩;have f0:Fr nob w w0:=by rw[K];exact(Fr.refl _ _).alloc _
 have f7:=hid (show w0.heap[w.heap.size]? =some (.cells #[.int .u64 0,.int .u64 0,.int .u64 0,.int .u64 0] 132 (0,0)) by rw[K];exact newAt _ _);have e2:=hid f0;have H0:=hid (h.on f0);have b7:=hid (hE.on f0);have e6:=hid K;have h4:(a:Int)≤l.length:=by omega
 clear K h hE f0;go_enter func140,ntmps140;go_wp2_with fail;rw[←e6.out];refine(item_any b l a p w0 hl ha hb b7.out H0.out).mono ?_;rintro e w1 ⟨s,o,rfl,hs,f1,O⟩;have c8:=lt_heap H0.out;have b2:=f1.heap f7.out (fun e=>by omega);have g6:=lt_heap b2;have g3:b<w1.heap.size:=Nat.lt_of_lt_of_le c8 f1.size;obtain⟨w2,L⟩:∃w2,w2=w1.alloc (.cells #[.int .u64 s.a,.int .u64 s.b,.int .u64 s.c,.int .u64 s.d,.bool o] 241):=⟨_,rfl⟩;have C:Fr nob w1 w2:=by rw[L];exact(Fr.refl _ _).alloc _
 have b3:=C.heap b2 (fun x=>x);have a8:w2.heap[w1.heap.size]? =some (.cells #[.int .u64 s.a,.int .u64 s.b,.int .u64 s.c,.int .u64 s.d,.bool o] 241 (0,0)):=by rw[L];exact newAt _ _
 have h8:=Zd a8;have i4:=Zl b3;have F2:=hid ((e2.out.any.trans f1 (fun i hi e=>e)).trans C (fun i hi e=>e.elim));have e3:=hid ((b7.out.on2 f1 hb).on C);have c3:=hid b3;have c2:=hid a8;have e7:=hid L;have g:=O.to (w':=w2) (fun x r q h=>h.on C);have HS:=hid hs;clear L b2 b3 a8 f1 C O hs rr;obtain⟨E,c4⟩:∃E,(match itm l a with| .inl _=>true| .inr x=> !rng l x.next)=E:=⟨_,rfl⟩;have I:=hid c4;have u:=hid g;clear c4 g
 go_upto_region 3 with(fail)
 rw[←e7.out]
 go_cut [38] (fun v w'=>v=.bool E∧Fr nob w2 w')
 case first=>
  have g:=u.out;cases hi:itm l a with
  |inl z=>
   rw[hi]at g;obtain⟨a',h1,h2,h3⟩:=g;have r4:=Zl h3;have g9:(z.1 !=0)=true:=by simpa using h2
   have HE:=hid (show E=true by rw[←I.out,hi]);clear h3 hi h1;go_wp2_with fail;refine region_fr_all (by kernel_rfl) (by kernel_rfl) ?_
   repeat(go_big_quiet_step (fail))
   refine wpQuiet_nil ?_;intro wC fC;go_wp2;go_meet
   case rel=>exact⟨by rw[HE.out],fC⟩
  |inr x=>
   rw[hi]at g;obtain⟨h1,h2,h3⟩:=g;have hn:=ZdF hi;have h7:(x.next:Int)≤l.length:=by omega
   have h6:(0:Int)≤x.next:=by omega
   have r4:=Zl h3;obtain⟨d1,a2⟩:∃d,[45].isPrefixOf (l.drop x.next)=d:=⟨_,rfl⟩;obtain⟨d2,a3⟩:∃d,[45,93].isPrefixOf (l.drop x.next)=d:=⟨_,rfl⟩;have Y:∀w',Fr nob w2 w'→_:=fun w' f=>Zbr b l [45] x.next 0 p w' (by omega) (by simp) (by omega) (h3.on f);have Z:∀w',Fr nob w2 w'→_:=fun w' f=>Zbr b l [45,93] x.next 0 p w' (by omega) (by simp) (by omega) (h3.on f);have W:=I.out;simp only[hi,ZnM,a2,a3]at W;rw[a2]at Y;rw[a3]at Z;have C1:=hid Y;have C2:=hid Z;have HE:=hid W;clear Y Z a2 a3 h3 hi h1 h2 W;by_cases tn:(l.length:Int)≤(x.next:Int)+1
   all_goals
    cases d1
    all_goals
     cases d2
     all_goals
      go_wp2_with fail;refine region_fr_all (by kernel_rfl) (by kernel_rfl) ?_
      repeat(go_big_quiet_step ((first|(with_reducible exact calls_fr (C1.out _ (grown_fr _ _ _)))|(with_reducible exact calls_fr (C2.out _ (grown_fr _ _ _))))))
      refine wpQuiet_nil ?_;intro wC fC;go_wp2;go_meet
      case rel=>
       have t2:decide (x.next+1<l.length)= !decide ((l.length:Int)≤(x.next:Int)+1):=by rw[←decide_not];exact decide_eq_decide.2 (by omega)
       exact⟨by rw[←HE.out,t2];simp[tn],fC⟩
 case rest=>
  obtain⟨rfl,fC⟩:=hcut;have FC:=hid fC;clear fC;cases E with
  |true=>
   have c5:Zdy b l p s R w2:=by
    have h1:=I.out;have h2:=u.out;rw[←HR.out];cases hi:itm l a with
    |inl z=>rw[hi]at h2;rw[ZnN hi];exact h2
    |inr x=>
     rw[hi]at h1 h2;rw[ZnO hi (by simpa using h1)];exact⟨h2.1,h2.2.2⟩
   have b9:=hid c5;clear c5;have H:=FC.out.heap c3.out (fun x=>x);have i7:=Zl H;have i1:=Zd (FC.out.heap c2.out (fun x=>x));go_wp2;(try simp only[Exit.inBlock,Exit.then]);refine bodyPost_ret (Zs (s:=s) rfl rfl (setFour_heap H _ _ _ _)) rfl ⟨s,rfl,HS.out,setFour_frS (F2.out.trans FC.out (fun i hi e=>e.elim)) (Nat.le_refl _) _ _ _ _,?_⟩;exact b9.out.to fun x r q h=>Zy (h.on FC.out) (by omega) _ _ _ _
  |false=>
   obtain⟨x,hi,t⟩:∃x,itm l a=.inr x∧rng l x.next=true:=by
    have h1:=I.out;cases hi:itm l a with
    |inl z=>rw[hi]at h1;cases h1
    |inr x=>rw[hi]at h1;exact⟨x,rfl,by simpa using h1⟩
   have h2:=u.out;rw[hi]at h2;obtain⟨h1,h2,h3⟩:=h2;have tn:x.next+1<l.length:=by rw[ZnM]at t;simp only[Bool.and_eq_true,decide_eq_true_eq]at t;exact t.1.1
   have hn:=ZdF hi;have r4:=Zl (h3.on FC.out);have H3:=hid h3;have HI:=hid hi;have H1:=hid h1;have H2:=hid h2;have Q:=hid t;clear h3 hi h1 h2 t;obtain⟨w3,M⟩:∃w3,w3=wc.setCell ⟨b,1,none⟩ (.int .i64 ((x.next:Int)+1)):=⟨_,rfl⟩;have c6:Rd w3 b l ((x.next+1:Nat):Int) 0 p:=by
    rw[M,show((x.next+1:Nat):Int)=(x.next:Int)+1 by omega];exact Za (FC.out.heap H3.out (fun x=>x)) 1 _
   have D:Fr (fun k=>k=b) w2 w3:=by rw[M];exact Fr.setCell (S:=fun k=>k=b) (p:=⟨b,1,none⟩) FC.out.any (fun _=>rfl) _
   have e1:=D.heap c3.out (fun e=>by omega);have d8:=D.heap c2.out (fun e=>by omega);have F3:=hid (F2.out.trans D (fun i hi e=>e));have b8:=hid (e3.out.on2 D hb);have e8:=hid M;have e5:=hid c6;have f8:=hid e1;have f2:=hid d8;clear M c6 D e1 d8;go_wp2_with fail;rw[←e8.out];refine(item_any b l (x.next+1) p w3 hl (by omega) hb b8.out e5.out).mono ?_;rintro e w4 ⟨s',o',rfl,a6,f4,F⟩;have b4:=f4.heap f8.out (fun e=>by omega);have a9:=f4.heap f2.out (fun e=>by omega);have g7:=lt_heap b4;have g5:=lt_heap a9;obtain⟨a',r,q,h0,X,n,j⟩:=Zma HI.out Q.out F;have g4:=lt_heap X;obtain⟨w5,N⟩:∃w5,w5=w4.alloc (.cells #[.int .u64 s'.a,.int .u64 s'.b,.int .u64 s'.c,.int .u64 s'.d,.bool o'] 241):=⟨_,rfl⟩;have A:Fr nob w4 w5:=by rw[N];exact(Fr.refl _ _).alloc _
   have b5:=A.heap b4 (fun x=>x);have b0:=A.heap a9 (fun x=>x);have b1:w5.heap[w4.heap.size]? =some (.cells #[.int .u64 s'.a,.int .u64 s'.b,.int .u64 s'.c,.int .u64 s'.d,.bool o'] 241 (0,0)):=by rw[N];exact newAt _ _
   have c7:=X.on A;have d7:s=x.set:=H1.out;have d5:o=x.one.isSome:=H2.out;rw[HR.out,←d7]at n j;rw[←d5]at n j;have d3:=Zne s;have d4:=Zne s';obtain⟨m1,a4⟩:∃m,lst s=m:=⟨_,rfl⟩;obtain⟨m2,a5⟩:∃m,lst s'=m:=⟨_,rfl⟩;have J:Env w5:=((b8.out.on2 f4 hb).on A);have a0:∀w',Fr nob w5 w'→_:=fun w' f=>ZbK s o w' HS.out (J.on f).1;have a1:∀w',Fr nob w5 w'→_:=fun w' f=>ZbK s' o' w' a6 (J.on f).1;have U:=fun w' (h:Env w')=>ZbK s o w' HS.out h.1;have V:=fun w' (h:Env w')=>ZbK s' o' w' a6 h.1;rw[a4]at U;rw[a5]at V;have LX:=hid U;have LY:=hid V;clear U V;rw[a4]at d3 a0 n j;rw[a5]at d4 a1 n j;have G:=Zb4 m1 m2;have a7:=fun w=>Ze7 m1 m2 w d3 d4;obtain⟨S,hS⟩:∃S,spn m1 m2=S:=⟨_,rfl⟩;rw[hS]at n j G a7;have i2:=Zd b1;have h9:=Zd b0;have i5:=Zl b5;have F5:=hid ((F3.out.trans f4 (fun i hi e=>e)).trans A (fun i hi e=>e.elim))
   have f9:=hid b5;have f3:=hid b0;have f5:=hid b1;have c0:=hid c7;have e9:=hid N;have C3:=hid a0;have C4:=hid a1;have CS:=hid a7;have HB:=hid n;have HG:=hid j;have HF:=hid G;have c1:=hid J;clear b4 a9 X n j N A b5 b0 b1 c7 a0 a1 a7 hS G f4 F a6 J d7 d5 a4 a5;obtain⟨B,hB⟩:∃B,(!o|| !o'||decide ((m2:Int)<m1))=B:=⟨_,rfl⟩;have P:=hid hB;clear hB
   go_upto_region 7 with(fail)
   rw[←e9.out]
   go_cut [64] (fun v w'=>v=.bool B∧Fr nob w5 w')
   case first=>
    by_cases g2:(m2:Int)<m1
    all_goals
     cases o
     all_goals
      cases o'
      all_goals
       go_wp2_with fail;refine region_fr_all (by kernel_rfl) (by kernel_rfl) ?_
       repeat(go_big_quiet_step ((first|(with_reducible exact calls_fr (C3.out _ (grown_fr _ _ _)))|(with_reducible exact calls_fr (C4.out _ (grown_fr _ _ _))))))
       refine wpQuiet_nil ?_;intro wE fE;go_wp2;go_meet
       case rel=>exact⟨by rw[←P.out];simp[g2],fE⟩
   case rest=>
    obtain⟨rfl,fE⟩:=hcut;have FE:=hid fE;clear fE;go_upto_if 64 with(fail)
    go_cut [] (fun w'=>Zdy b l p S R w'∧Fr (fun k=>k=b) w5 w')
    case first=>
     cases B
     ·go_wp2;go_meet
      case rel=>
       have h:=P.out;simp only[Bool.or_eq_false_iff,Bool.not_eq_false',decide_eq_false_iff_not]at h;exact⟨HG.out _ h.1.1 h.1.2 (by omega) (c0.out.on FE.out),FE.out.any⟩
     ·go_wp2_with fail;refine(fail_any b l a' r q 1 a _ (c0.out.on FE.out)).mono ?_;rintro e w6 ⟨rfl,g1,f6⟩;go_wp2;go_meet
      case rel=>
       have h:=P.out;simp only[Bool.or_eq_true,Bool.not_eq_true',decide_eq_true_eq,or_assoc]at h;exact⟨HB.out _ (by rcases h with h|h|h;exact .inl h;exact .inr (.inl h);exact .inr (.inr (by omega))) g1,FE.out.any.trans f6 (fun i hi e=>e)⟩
    case rest=>
     obtain⟨d6,y⟩:=hcut;have b6:=y.heap f9.out (fun e=>by omega);have d9:=y.heap f3.out (fun e=>by omega);have e0:=y.heap f5.out (fun e=>by omega);have i6:=Zl b6;have i0:=Zd d9;have i3:=Zd e0;have c9:∀w',Fr nob _ w'→_:=fun w' f=>LX.out w' ((c1.out.on2 y hb).on f);have d0:∀w',Fr nob _ w'→_:=fun w' f=>LY.out w' ((c1.out.on2 y hb).on f);have C5:=hid c9;have C6:=hid d0;have F6:=hid (F5.out.trans y (fun i hi e=>e));have e4:=hid d6;have g0:=hid b6;clear c9 d0 b6 d9 e0 y d6;go_wp2_with fail;refine region_fr 5 (by kernel_rfl) (by kernel_rfl) ?_;simp only[List.take_succ_cons,List.take_zero,List.drop_succ_cons,List.drop_zero]
     repeat(go_big_quiet_step ((first|(with_reducible exact calls_fr (C5.out _ (grown_fr _ _ _)))|(with_reducible exact calls_fr (C6.out _ (grown_fr _ _ _)))|(with_reducible exact calls_fr (CS.out _)))))
     refine wpQuiet_nil ?_;intro wC fC;go_wp2;(try simp only[Exit.inBlock,Exit.then]);have H:=fC.heap g0.out (fun x=>x);have g8:=lt_heap H;refine bodyPost_ret (Zs (s:=S) rfl rfl (setFour_heap H _ _ _ _)) rfl ⟨S,rfl,HF.out,setFour_frS (F6.out.trans fC (fun i hi e=>e.elim)) (Nat.le_refl _) _ _ _ _,?_⟩;exact e4.out.to fun x r q h=>Zy (h.on fC) (by omega) _ _ _ _
theorem Env.big{w:World}(h:Env w):Zj3≤w.heap.size+1:=by
 obtain⟨m,hm⟩:=h.2;have h1:=World.block_lt_of_cell? w _ hm;have h2:=h.1.lt;simp only at h1;unfold Zj3;omega
def Zp8:(Int×Nat)⊕(S4×Nat)→Value
 | .inl z=>.tuple #[ZcR S4.zero,.int .i64 z.2,.int .i64 z.1]
 | .inr x=>.tuple #[ZcR x.1,.int .i64 x.2,.int .i64 0]
theorem Zx{fn:Func}{p q r:Tmp}(h:fn.results= #[.cell p 132,.tmp q,.tmp r]){tmps:Array Value}{b:Nat}(ht:tmps.getD p undef=.pointer (some ⟨b,0,none⟩)){u v:Value}(hq:tmps.getD q undef=u)(hr:tmps.getD r undef=v){W:World}{s:S4}
 (hb:W.heap[b]? =some (.cells #[.int .u64 s.a,.int .u64 s.b,.int .u64 s.c,.int .u64 s.d] 132 (0,0))):(results fn tmps).run prog W=.ok (.tuple #[ZcR s,u,v]) W:=by
 have c0:=cell_at (j:=0) (v:=.int .u64 s.a) hb rfl;have c1:=cell_at (j:=1) (v:=.int .u64 s.b) hb rfl;have c2:=cell_at (j:=2) (v:=.int .u64 s.c) hb rfl;have c3:=cell_at (j:=3) (v:=.int .u64 s.d) hb rfl;have g:tmps[p]?.getD undef=.pointer (some ⟨b,0,none⟩):=by rw[←ht];simp
 have e:tmps[q]?.getD undef=u:=by rw[←hq];simp
 have f:tmps[r]?.getD undef=v:=by rw[←hr];simp
 simp only[results,h];simp[g,e,f,go_sem,c0,c1,c2,c3]
abbrev Q4(w:World)(b:Nat)(s:S4):Prop:=w.cell? ⟨b,0,none⟩=some (.int .u64 s.a)∧w.cell? ⟨b,1,none⟩=some (.int .u64 s.b)∧w.cell? ⟨b,2,none⟩=some (.int .u64 s.c)∧w.cell? ⟨b,3,none⟩=some (.int .u64 s.d)
abbrev At4(w:World)(b:Nat)(s:S4):Prop:=w.heap[b]? =some (.cells #[.int .u64 s.a,.int .u64 s.b,.int .u64 s.c,.int .u64 s.d] 132 (0,0))
theorem Q4.of{w:World}{b:Nat}{s:S4}(h:At4 w b s):Q4 w b s:=⟨cell_at h rfl,cell_at h rfl,cell_at h rfl,cell_at h rfl⟩
theorem ZfK(s t:S4)(w:World):Calls prog 141 #[ZcR s,ZcR t] w fun e w'=>e=.returned (ZcR (s.or t))∧Fr nob w w':=Zpf s t w
theorem not_lit(s:S4)(w:World):Calls prog 142 #[ZcR s] w fun e w'=>e=.returned (ZcR s.not)∧Fr nob w w':=ZnD s w
def ZjH(l:List UInt8)(n:Nat):(Int×Nat)⊕(S4×Nat)→(Int×Nat)⊕(S4×Nat)
 | .inl z=>.inl z
 | .inr x=>lop l n x.2 x.1
def ZoR(l:List UInt8)(n:Nat)(R:(Int×Nat)⊕(S4×Nat)):Prop:=∀x,R=.inr x→x.2≤l.length∧l.length<n+x.2
def orF(s:S4):(Int×Nat)⊕(S4×Nat)→(Int×Nat)⊕(S4×Nat)
 | .inl z=>.inl z
 | .inr x=>.inr (s.or x.1,x.2)
theorem Znf{l:List UInt8}{n a:Nat}{s:S4}(h:l[a]?≠some 93):lop l (n+1) a s=ZjH l n (orF s (prt l a)):=by
 rw[lop,if_neg h];cases prt l a<;>rfl
theorem Zj9{l:List UInt8}{n a:Nat}{s:S4}(h:l[a]? =some 93):lop l (n+1) a s=.inr (s,a):=by rw[lop,if_pos h]
theorem Zka{l:List UInt8}{n a:Nat}{s:S4}(hn:l.length<n+1+a):ZoR l n (orF s (prt l a)):=by
 intro x hx;cases hp:prt l a with
 |inl z=>rw[hp]at hx;cases hx
 |inr y=>
  rw[hp]at hx;injection hx with hx;subst hx;have:=prt_next hp;exact⟨this.2.1,by simp only;omega⟩
theorem Zdy.or{b:Nat}{l:List UInt8}{p:Int}{s t:S4}{R:(Int×Nat)⊕(S4×Nat)}{w:World}(h:Zdy b l p s R w):Zdy b l p (t.or s) (orF t R) w:=by
 cases R with
 |inr x=>exact⟨by rw[h.1],h.2⟩
 |inl z=>exact h
def Zex(d:Bool):(Int×Nat)⊕(S4×Nat)→(Int×Nat)⊕(S4×Nat)
 | .inl z=>.inl z
 | .inr y=>.inr (if d then y.1.not else y.1,y.2+1)
theorem ZnR{l:List UInt8}{a:Nat}(h:[94].isPrefixOf (l.drop a)=true):prs l a=Zex true (ZjH l (l.length+1) (prt l (a+1))):=by
 have h:=ZlH.1 h;unfold prs Zex ZjH;simp only[h,if_true];cases prt l (a+1)with
 |inl z=>rfl
 |inr x=>simp only;cases lop l (l.length+1) x.2 x.1<;>rfl
theorem Zps{l:List UInt8}{a:Nat}(h:[94].isPrefixOf (l.drop a)=false):prs l a=Zex false (ZjH l (l.length+1) (prt l a)):=by
 have h:¬l[a]? =some 94:=fun e=>by rw[ZlH.2 e]at h;cases h
 unfold prs Zex ZjH;simp only[if_neg h];cases prt l a with
 |inl z=>rfl
 |inr x=>simp only;cases lop l (l.length+1) x.2 x.1<;>rfl
theorem ZS(w:World)(b:Nat)(v0 v1 v2 v3:Value):Fr (fun k=>k=b) w (ZaG w b v0 v1 v2 v3):=
 have h:∀(x:World) (j:Nat) (v:Value),Fr (fun k=>k=b) w x→Fr (fun k=>k=b) w (x.setCell ⟨b,j,none⟩ v):=fun x j v hx=>hx.setCell (p:=⟨b,j,none⟩) (fun _=>rfl) v
 h _ _ _ (h _ _ _ (h _ _ _ (h _ _ _ (Fr.refl _ _))))
abbrev RQ(w:World)(b:Nat)(v2 v3:Value):Prop:=w.cell? ⟨b,2,none⟩=some v2∧w.cell? ⟨b,3,none⟩=some v3
theorem Zm{w:World}{b c i j:Nat}{v u:Value}(h:w.cell? ⟨b,i,none⟩=some v)(hn:c≠b):(w.setCell ⟨c,j,none⟩ u).cell? ⟨b,i,none⟩=some v:=by
 have hb:(w.setCell ⟨c,j,none⟩ u).heap[b]? =w.heap[b]? :=by
  cases hx:w.heap[b]? with
  |none=>
   have:w.heap.size≤b:=Array.getElem?_eq_none_iff.1 hx;exact Array.getElem?_eq_none_iff.2 (by simpa using this)
  |some x=>exact Zc hx (Ne.symm hn) _
 unfold World.cell? at h⊢;simp only[hb];exact h
theorem RQ.drew{w:World}{b:Nat}{v2 v3:Value}(h:RQ w b v2 v3):RQ w.drew b v2 v3:=h
theorem RQ.set{w:World}{b c j:Nat}{v2 v3:Value}(h:RQ w b v2 v3)(hn:c≠b)(u:Value):RQ (w.setCell ⟨c,j,none⟩ u) b v2 v3:=⟨Zm h.1 hn,Zm h.2 hn⟩
abbrev RA(w:World)(b:Nat)(v1:Value)(r9:Nat)(s:S4):Prop:=w.cell? ⟨b,1,none⟩=some v1∧Q4 w r9 s
theorem RA.drew{w:World}{b r9:Nat}{v1:Value}{s:S4}(h:RA w b v1 r9 s):RA w.drew b v1 r9 s:=h
theorem RA.set{w:World}{b c j r9:Nat}{v1:Value}{s:S4}(h:RA w b v1 r9 s)(hn:c≠b)(hn9:c≠r9)(u:Value):RA (w.setCell ⟨c,j,none⟩ u) b v1 r9 s:=
 ⟨Zm h.1 hn,Zm h.2.1 hn9,Zm h.2.2.1 hn9,Zm h.2.2.2.1 hn9,Zm h.2.2.2.2 hn9⟩
structure Alg(α:Type) where
 one:S4→α
 rep:α→Int→Int→α
 group:Int→α→α
 back:Int→α
 start:α
 fin:α
 join:List α→α
 choose:List α→α
structure RxS where
 at_:Nat
 opened:Nat
 closed:List Nat
 marks:List (Nat×List UInt8)
abbrev Out(α:Type):=(Int×Nat)⊕(α×RxS)
def ahd(l:List UInt8)(k:Nat)(t:List UInt8):Bool:=t.isPrefixOf (l.drop k)
def RxS.go(s:RxS)(n:Nat):RxS:={s with at_:=s.at_+n}
def RxS.to(s:RxS)(n:Nat):RxS:={s with at_:=n}
def RxS.mark(s:RxS)(t:List UInt8):RxS:={s with marks:=s.marks++[(s.at_,t)]}
def ZaQ:List UInt8→Nat→Nat→Nat×Nat
 |[],c,n=>(n,c)
 |x::r,c,n=>if 48≤x.toNat∧x.toNat≤57∧c≠3 then ZaQ r (c+1) (n*10+(x.toNat-48))else(n,c)
def Zfw(l:List UInt8)(k:Nat):Option (Int×Int×Nat):=
 let m:=ZaQ (l.drop k) 0 0
 if m.2=0 then none
 else
  let k1:=k+m.2
  let x:=ZaQ (l.drop (k1+1)) 0 0
  let mx:Int:=if ahd l k1 [44]then(if x.2=0 then -1 else x.1)else m.1
  let k2:=if ahd l k1 [44]then k1+1+x.2 else k1
  if ahd l k2 [92,125]=false∨255<m.1∨255<mx∨(0≤mx∧mx<m.1)then none else some (m.1,mx,k2+2)
section
variable {α:Type} (A:Alg α) (l:List UInt8)
def ZbW:Nat→RxS→α→Out α
 |0,s,t=>.inr (t,s)
 |n+1,s,t=>
  if ahd l s.at_ [92,43]then ZbW n ((s.mark [92,43]).go 2) (A.rep t 1 (-1))
  else if ahd l s.at_ [92,63]then ZbW n ((s.mark [92,63]).go 2) (A.rep t 0 1)
  else if ahd l s.at_ [92,123]then
   match Zfw l (s.at_+2)with
   |none=>.inl (7,s.at_)
   |some (m,x,k)=>ZbW n (s.to k) (A.rep t m x)
  else if ahd l s.at_ [42]then ZbW n (s.go 1) (A.rep t 0 (-1))
  else .inr (t,s)
def Zdz:S4:=(ZaD (Zak ⟨#[97,108,110,117,109]⟩)).or (spn 95 95)
def ZbX:S4:=ZaD (Zak ⟨#[115,112,97,99,101]⟩)
def Za0:S4:=ZaD (Zak ⟨#[112,117,110,99,116]⟩)
def ZjI(b:UInt8):Option (S4×Bool):=
 if b=110 then some (spn 10 10,false)
 else if b=116 then some (spn 9 9,true)
 else if b=119 then some (Zdz,true)
 else if b=87 then some (Zdz.not,true)
 else if b=115 then some (ZbX,true)
 else if b=83 then some (ZbX.not,true)
 else if Za0.has b.toNat then some (spn b.toNat b.toNat,false)
 else none
def Zbs(C:Option (RxS→Out α))(begin:Nat)(s:RxS):Out α:=
 match C with
 |none=>.inl (4,begin)
 |some f=>
  match f {s with opened:=s.opened+1}with
  | .inl e=>.inl e
  | .inr (t,s')=>
    if ahd l s'.at_ [92,41]then .inr (A.group ((s.opened+1:Nat):Int) t,{s'.go 2 with closed:=s'.closed++[s.opened+1]})
    else .inl (8,begin)
def ZlI(C:Option (RxS→Out α))(s:RxS):Out α:=
 match l[s.at_+1]? with
 |none=>.inl (11,s.at_)
 |some b=>
  if ahd l s.at_ [92,40]then Zbs A l C s.at_ (s.go 2)
  else if ahd l s.at_ [92,41]then .inl (8,s.at_)
  else if 49≤b.toNat∧b.toNat≤57 then
   (if s.closed.contains (b.toNat-48)then .inr (A.back ((b.toNat-48:Nat):Int),s.go 2)else .inl (9,s.at_))
  else
   match ZjI b with
   |none=>.inl (2,s.at_)
   |some (c,m)=>.inr (A.one c,(if m then s.mark [92,b]else s).go 2)
def Zb0(C:Option (RxS→Out α))(s:RxS)(b:UInt8):Out α:=
 if b=92 then ZlI A l C s
 else if b=91 then
  match prs l (s.at_+1)with
  | .inl (e,p)=>.inl (e,p)
  | .inr (c,k)=>.inr (A.one c,s.to k)
 else if b=46 then .inr (A.one (spn 0 255),s.go 1)
 else .inr (A.one (spn b.toNat b.toNat),s.go 1)
def ZbL(k:Nat):Bool:=(l.drop (k+1)).isEmpty||ahd l (k+1) [92,41]||ahd l (k+1) [92,124]
def brS(C:Option (RxS→Out α))(inner:Bool):Nat→Bool→RxS→List α→Out α
 |0,_,s,ps=>.inr (A.join ps,s)
 |n+1,front,s,ps=>
  match l[s.at_]? with
  |none=>.inr (A.join ps,s)
  |some b=>
   if ahd l s.at_ [92,124]||(inner&&ahd l s.at_ [92,41])then .inr (A.join ps,s)
   else if front&&(ahd l s.at_ [92,123]||(ahd l s.at_ [92,43]||ahd l s.at_ [92,63]))then .inl (10,s.at_)
   else if ahd l s.at_ [36]&&ZbL l s.at_ then brS C inner n false (s.go 1) (ps++[A.fin])
   else
    match Zb0 A l C s b with
    | .inl e=>.inl e
    | .inr (t,s1)=>
      match ZbW A l (l.length+1) s1 t with
      | .inl e=>.inl e
      | .inr (t,s2)=>brS C inner n false s2 (ps++[t])
def branchS(C:Option (RxS→Out α))(inner:Bool)(s:RxS):Out α:=
 if ahd l s.at_ [94]then brS A l C inner (l.length+1) true (s.go 1) [A.start]else brS A l C inner (l.length+1) true s []
def Za1(C:Option (RxS→Out α))(inner:Bool):Nat→RxS→List α→Out α
 |0,s,ts=>.inr (A.choose ts,s)
 |n+1,s,ts=>
  if ahd l s.at_ [92,124]then
   match branchS A l C inner ((s.mark [92,124]).go 2)with
   | .inl e=>.inl e
   | .inr (t,s')=>Za1 C inner n s' (ts++[t])
  else .inr (A.choose ts,s)
def choiceS(C:Option (RxS→Out α))(inner:Bool)(s:RxS):Out α:=
 match branchS A l C inner s with
 | .inl e=>.inl e
 | .inr (t,s')=>Za1 A l C inner (l.length+1) s' [t]
def chS:Nat→RxS→Out α
 |0=>choiceS A l none true
 |n+1=>choiceS A l (some (chS n)) (decide (n+1<12))
def Zey:Out α:=if 250<l.length then .inl (3,250)else chS A l 12 ⟨0,0,[],[]⟩
end
def Zpt(w:World)(e:Ending)(w':World):Prop:=e=.returned (.tuple #[ZcR S4.zero,.int .i64 0,.int .i64 1])∧Fr nob w w'
theorem Zkb(l:List UInt8)(a:Int)(w:World)(h:a<0∨(l.length:Int)<a):
 Calls prog 114 #[.string ⟨l.toArray⟩,.int .i64 a] w (Zpt w):=by
 obtain⟨w0,b⟩:∃w0,w0=w.alloc (.cells #[.int .u64 0,.int .u64 0,.int .u64 0,.int .u64 0] 132):=⟨_,rfl⟩;have hz:w0.heap[w.heap.size]? =some (.cells #[.int .u64 0,.int .u64 0,.int .u64 0,.int .u64 0] 132 (0,0)):=by rw[b];exact newAt _ _
 have F:=hid (show Fr nob w w0 by rw[b];exact(Fr.refl _ _).alloc _);have rz:=Zl hz;have HZ:=hid hz;have HW:=hid b;clear hz b;by_cases h0:a<0
 ·clear h;go_enter func114,ntmps114
  iterate 14 go_step
  rw[←HW.out];go_wp2;(try simp only[Exit.inBlock,Exit.then]);refine bodyPost_ret (Zx (s:=S4.zero) (by rfl) (by rfl) (by rfl) (by rfl) (setFour_heap HZ.out _ _ _ _)) rfl ⟨?_,setFour_frS F.out (Nat.le_refl _) _ _ _ _⟩;rfl
 ·have h1:(l.length:Int)<a:=h.resolve_left h0;clear h;go_enter func114,ntmps114
  iterate 14 go_step
  rw[←HW.out];go_wp2;(try simp only[Exit.inBlock,Exit.then]);refine bodyPost_ret (Zx (s:=S4.zero) (by rfl) (by rfl) (by rfl) (by rfl) (setFour_heap HZ.out _ _ _ _)) rfl ⟨?_,setFour_frS F.out (Nat.le_refl _) _ _ _ _⟩;rfl
theorem itmN_err{l:List UInt8}{a:Nat}{k:UInt8}{z:Int×Nat}(h:itmN l a k=.inl z):z.1≠0:=by
 unfold itmN at h;split at h
 ·injection h with h;subst h;simp
 ·split at h
  ·split at h
   ·injection h with h;subst h;simp
   ·cases h
  ·split at h
   ·cases h
   ·injection h with h;subst h;simp
theorem itm_err{l:List UInt8}{a:Nat}{z:Int×Nat}(h:itm l a=.inl z):z.1≠0:=by
 unfold itm at h;split at h
 ·injection h with h;subst h;simp
 ·split at h
  ·cases h
  ·split at h
   ·exact itmN_err h
   ·cases h
abbrev PInv(l:List UInt8)(w0:World)(b r4 r9:Nat)(F:(Int×Nat)⊕(S4×Nat))(n:Nat)(wr:World):Prop:=
 ∃R s,Zdy b l 0 s R wr∧At4 wr r9 s∧At4 wr r4 S4.zero∧Fr nob w0 wr∧ZjH l n R=F∧ZoR l n R
theorem Zkc(l:List UInt8)(a:Nat)(w:World)(hl:l.length≤100000)(ha:a≤l.length)(hE:Env w):
 Calls prog 114 #[.string ⟨l.toArray⟩,.int .i64 a] w fun e w'=>e=.returned (Zp8 (prs l a))∧Fr nob w w':=by
 obtain⟨w0,M⟩:∃w0,w0=(w.alloc (.cells #[.int .u64 0,.int .u64 0,.int .u64 0,.int .u64 0] 132)).alloc (.cells #[.string ⟨l.toArray⟩,.int .i64 a,.int .i64 0,.int .i64 0] 217):=⟨_,rfl⟩;have f0:Fr nob w w0:=by rw[M];exact((Fr.refl _ _).alloc _).alloc _
 have h7:=hE.1;have e1:w0.heap[w.heap.size]? =some (.cells #[.int .u64 0,.int .u64 0,.int .u64 0,.int .u64 0] 132 (0,0)):=by rw[M];exact heap_alloc_lt _ (newAt _ _)
 have L:Rd w0 (w.heap.size+1) l a 0 0:=by
  rw[M];unfold Rd;have:=newAt (w.alloc (.cells #[.int .u64 0,.int .u64 0,.int .u64 0,.int .u64 0] 132)) (.cells #[.string ⟨l.toArray⟩,.int .i64 a,.int .i64 0,.int .i64 0] 217);simpa using this
 have B:Zj3≤w.heap.size+1:=Env.big hE;have c9:=hE.on f0;obtain⟨b,hb⟩:∃b,w.heap.size+1=b:=⟨_,rfl⟩;rw[hb]at L B;have j6:=Zl L;have j0:(a:Int)≤l.length:=by omega
 have i9:(0:Int)≤a:=by omega
 obtain⟨d0,b0⟩:∃d,[94].isPrefixOf (l.drop a)=d:=⟨_,rfl⟩;have a8:∀w',Fr nob w0 w'→_:=fun w' f=>Zbr b l [94] a 0 0 w' (by omega) (by simp) ha (L.on f);rw[b0]at a8;have C0:=hid a8;have g5:=hid L;have g9:=hid e1;have e4:=hid f0;have e8:=hid c9;have g6:=hid M;have e7:=hid hb;have j2:w.heap.size<b:=by omega
 clear a8 L e1 f0 c9 M hE hb h7;have X:=hid b0;clear b0;go_enter func114,ntmps114;go_wp2_with fail;rw[←g6.out];simp only[e7.out];refine(C0.out w0 (Fr.refl _ _)).mono ?_;rintro e w1 ⟨rfl,f1⟩;have a3:=hid (g5.out.on f1);have c6:=hid (f1.heap g9.out (fun x=>x));have b6:=hid (e4.out.trans' f1);have b7:=hid (e8.out.on f1);clear f1;obtain⟨a2,j⟩:∃x,(if d0 then a+1 else a)=x:=⟨_,rfl⟩;have h5:a2≤l.length:=by
  rw[←j];split
  ·next h=>subst h;have:=(List.getElem?_eq_some_iff.1 (ZlH.1 X.out)).1;omega
  ·exact ha
 have d2:prs l a=Zex d0 (ZjH l (l.length+1) (prt l a2)):=by
  rw[←j];cases d0
  ·exact Zps X.out
  ·exact ZnR X.out
 have c0:=hid d2;have e6:=hid j;clear j d2;go_upto_if 25 with(fail)
 go_cut [] (fun w'=>Rd w' b l (a2:Nat) 0 0∧w'.heap[w.heap.size]? =some (.cells #[.int .u64 0,.int .u64 0,.int .u64 0,.int .u64 0] 132 (0,0))∧Fr nob w w'∧Env w')
 case first=>
  have j:=e6.out;cases d0
  ·rw[if_neg (by decide)]at j;subst j;go_wp2;go_meet
   case rel=>exact⟨a3.out,c6.out,b6.out,b7.out⟩
  ·rw[if_pos rfl]at j;subst j;have j7:=Zl a3.out;go_wp2;go_meet
   case rel=>exact⟨by rw[show((a+1:Nat):Int)=(a:Int)+1 by omega];exact Za a3.out 1 _,Zc c6.out (by simp only;omega) _,Fr.setCell (p:=⟨b,1,none⟩) b6.out (fun h=>absurd h (by simp only;omega)) _,b7.out.on2 (Fr.setCell (S:=fun k=>k=b) (p:=⟨b,1,none⟩) (Fr.refl _ _) (fun _=>rfl) _) B⟩
 case rest=>
 obtain⟨d9,e2,c7,d5⟩:=hcut;have c4:=hid d9;have h0:=hid e2;have e5:=hid c7;have b8:=hid d5;clear d9 e2 c7 d5;go_wp2_with fail;refine(part_any b l a2 0 wc hl h5 B b8.out c4.out).mono ?_;rintro e w3 ⟨s,rfl,hs,f3,u⟩;have b4:=f3.heap h0.out (fun e=>by omega);obtain⟨w4,U⟩:∃w4,w4=w3.alloc (.cells #[.int .u64 s.a,.int .u64 s.b,.int .u64 s.c,.int .u64 s.d] 132):=⟨_,rfl⟩;have I:Fr nob w3 w4:=by rw[U];exact(Fr.refl _ _).alloc _
 have d4:=lt_heap c4.out;have e3:=I.heap b4 (fun x=>x);have i5:=lt_heap b4;obtain⟨r9,Q⟩:∃r,w3.heap.size=r:=⟨_,rfl⟩;have c8:At4 w4 r9 s:=by rw[U,←Q];exact newAt _ _
 have j1:b<r9:=by rw[←Q];exact Nat.lt_of_lt_of_le d4 f3.size
 have F4:=hid ((e5.out.trans f3 (fun i hi e=>by omega)).trans' I);have e9:=hid ((b8.out.on2 f3 B).on I);have J:=u.to (w':=w4) (fun x r q h=>h.on I);have hF:=c0.out;have d3:ZoR l (l.length+1) (prt l a2):=fun x hx=>by
  have:=prt_next hx;exact⟨this.2.1,by omega⟩
 obtain⟨F,a7⟩:∃F,ZjH l (l.length+1) (prt l a2)=F:=⟨_,rfl⟩;rw[a7]at hF;have HF:=hid hF;have g7:=hid U;have HI:=hid (show PInv l w b w.heap.size r9 F (l.length+1) w4 from⟨_,s,J,c8,e3,F4.out,a7,d3⟩);have H9:=hid Q;clear b4 U I e3 c8 u J hF d3 a7 Q hs f3;go_wp2_with fail;rw[←g7.out];simp only[H9.out]
 go_loopg [] (l.length+1) (fun n wr=>PInv l w b w.heap.size r9 F n wr∧Env wr)
 case atStart=>exact⟨HI.out,e9.out⟩
 case round=>
  obtain⟨⟨R,o,u,h9,hz,d7,hF,hN⟩,d1⟩:=hrel;have rz:=Zl hz;have i2:=Zl h9;have E:=hid u;have HZ:=hid hz;have a1:=hid h9;have a0:=hid d7;have f8:=hid d1;clear u hz h9 d7 d1;have Z:=hid hF;clear hF;cases R with
  |inl z=>
   obtain⟨a',h1,h2,h3⟩:=E.out;have rr:=Zl h3;have t1:(z.1==0)=false:=by simpa using h2
   have t2:(z.1 !=0)=true:=by simpa using h2
   have g1:=hid (Z.out.symm:F=.inl z);have O:=hid h3;clear h1 h2 h3 hN;have C:w.heap.size≠b:=by omega
   have HQ:=hid (show RQ wr b (.int .i64 z.1) (.int .i64 z.2)from⟨cell_at O.out rfl,cell_at O.out rfl⟩);have g4:=hid (show RQ wr.drew b (.int .i64 z.1) (.int .i64 z.2)from⟨cell_at O.out rfl,cell_at O.out rfl⟩);have a5:=hid (show At4 wr.drew w.heap.size S4.zero from HZ.out);have W:=hid a0.out.drew;go_wp2_with fail
   go_region_held3 (fun w'=>RQ w' b (.int .i64 z.1) (.int .i64 z.2)) (repeat(first|(with_reducible exact HQ.out)|(with_reducible exact g4.out)|(with_reducible refine RQ.set ?_ C _)|(with_reducible refine RQ.drew ?_))) (fail)
   all_goals
    go_wp2;(try simp only[Exit.inBlock,Exit.then]);refine bodyPost_ret (Zx (s:=S4.zero) rfl rfl rfl rfl (setFour_heap a5.out _ _ _ _)) rfl ⟨?_,setFour_frS W.out (Nat.le_refl _) _ _ _ _⟩;rw[HF.out,g1.out];cases d0<;>rfl
  |inr x=>
   obtain⟨o1,n0⟩:=x;obtain⟨e0,h3⟩:=E.out;simp only at e0;subst e0;obtain⟨b1,h6⟩:=hN _ rfl;simp only at b1 h6 h3 i2;obtain⟨m,rfl⟩:∃m,gk=m+1:=⟨gk-1,by omega⟩;have rr:=Zl h3;have j3:(n0:Int)≤l.length:=by omega
   have i6:(0:Int)≤n0:=by omega
   have j5:IntKind.i64.wrap ((n0:Int)+1)=(n0:Int)+1:=IntWalk.i64_in _ (by omega);obtain⟨D,hD⟩:∃d,[93].isPrefixOf (l.drop n0)=d:=⟨_,rfl⟩;have a9:=Zbr b l [93] n0 0 0 wr (by omega) (by simp) b1 h3;rw[hD]at a9;have C1:=hid a9;have HR:=hid h3;have HD:=hid hD;clear a9 h3 hD hN E;cases D with
   |true=>
    have g0:=hid (show F=.inr (o,n0) by rw[←Z.out];exact Zj9 (ZlH.1 HD.out));go_wp2_with fail;refine C1.out.mono ?_;rintro e w5 ⟨rfl,f5⟩;have H:=hid (HR.out.on f5);have P:=hid (f5.heap HZ.out (fun x=>x));have v:=hid (f5.heap a1.out (fun x=>x));have F5:=hid (a0.out.trans' f5);obtain⟨N,g⟩:∃N,(if d0 then o.not else o)=N:=⟨_,rfl⟩;have c1:=hid g;clear g;have i3:=Zl H.out;have h8:=Zl v.out;go_upto_block 2 with(fail)
    go_cut [] (fun w'=>Rd w' b l n0 0 0∧At4 w' r9 N∧At4 w' w.heap.size S4.zero∧Fr nob w w')
    case first=>
     have g:=c1.out;cases d0
     ·rw[if_neg (by decide)]at g;subst g;go_wp2;go_meet
      case rel=>exact⟨H.out,v.out,P.out,F5.out⟩
     ·rw[if_pos rfl]at g;go_wp2_with fail;refine(not_lit o w5).mono ?_;rw[g];rintro e w6 ⟨rfl,f6⟩;have y:=hid (f6.heap v.out (fun x=>x));have i0:=Zl y.out;go_wp2;go_meet
      case rel=>exact⟨Zy (H.out.on f6) (by omega) _ _ _ _,setFour_heap y.out _ _ _ _,Zy (f6.heap P.out (fun x=>x)) (by omega) _ _ _ _,setFour_frS (F5.out.trans' f6) (by omega) _ _ _ _⟩
    case rest=>
    obtain⟨b2,a6,b5,f7⟩:=hcut;have F7:=hid f7;clear f7 i3 h8;have j8:=Zl b2;have i1:=Zl a6;have j9:=Zl b5;have a4:=hid b5;have c5:=hid b2;have A:=hid a6;clear b2 a6 b5;have C:w.heap.size≠b:=by omega
    have d8:w.heap.size≠r9:=by omega
    have c2:=hid (show RA wc b (.int .i64 n0) r9 N from⟨cell_at c5.out rfl,Q4.of A.out⟩);have c3:=hid (show RA (World.drew wc) b (.int .i64 n0) r9 N from⟨cell_at c5.out rfl,Q4.of A.out⟩);have a5:=hid (show At4 (World.drew wc) w.heap.size S4.zero from a4.out);have W:=hid (Fr.drew F7.out);go_wp2_with fail
    go_region_held3 (fun w'=>RA w' b (.int .i64 n0) r9 N) (repeat(first|(with_reducible exact c2.out)|(with_reducible exact c3.out)|(with_reducible refine RA.set ?_ C d8 _)|(with_reducible refine RA.drew ?_))) (fail)
    all_goals
     go_wp2;(try simp only[Exit.inBlock,Exit.then]);refine bodyPost_ret (Zx (s:=N) rfl rfl rfl rfl (setFour_heap a5.out _ _ _ _)) rfl ⟨?_,setFour_frS W.out (Nat.le_refl _) _ _ _ _⟩;rw[HF.out,g0.out,←c1.out];cases d0<;>rfl
   |false=>
    have C:l[n0]?≠some 93:=fun e=>by rw[ZlH.2 e]at HD;exact absurd HD.out (by simp)
    have f9:=hid (show ZjH l m (orF o (prt l n0))=F by rw[←Z.out];exact(Znf C).symm);have g3:=hid (show ZoR l m (orF o (prt l n0))from Zka (by omega));clear C;go_wp2_with fail;refine C1.out.mono ?_;rintro e w5 ⟨rfl,f5⟩;have H:=hid (HR.out.on f5.drew);have P:=hid (f5.drew.heap HZ.out (fun x=>x));have v:=hid (f5.drew.heap a1.out (fun x=>x));have F5:=hid (a0.out.trans' f5.drew);have b9:=hid (f8.out.on f5.drew);have i7:=hid (Q4.of (f5.heap a1.out (fun x=>x)));have i4:=hid (Q4.of v.out);go_wp2_with fail
    go_region_with (first|(go_at_call 140;(refine(part_any b l n0 0 w5.drew hl b1 B b9.out H.out).mono ?_);rintro e w6 ⟨s',rfl,j4,f6,K⟩;have y:=hid (f6.heap v.out (fun e=>by omega));have i8:=hid (Q4.of y.out);have h4:=hid (f6.heap P.out (fun e=>by omega));have f2:=hid (b9.out.on2 f6 B);have F6:=hid (F5.out.trans f6 (fun i hi e=>by omega));have G:=hid (K.or (t:=o));have i0:=Zl y.out;clear f6 K)|(go_at_call 141;(refine(ZfK o s' w6).mono ?_);obtain⟨N,g⟩:∃N,o.or s'=N:=⟨_,rfl⟩;rw[g]at G⊢;rintro e w7 ⟨rfl,f7⟩;have A:=hid (f7.heap y.out (fun x=>x));have c2:=hid (Q4.of A.out);have a4:=hid (f7.heap h4.out (fun x=>x));have f4:=hid (f2.out.on f7);have F7:=hid (F6.out.trans' f7);have Y:=hid (G.out.to (w':=w7) (fun x r q h=>h.on f7));have i1:=Zl A.out;clear f7))
    all_goals
     have V:=f9.out;have d6:=g3.out;obtain⟨w8,b3⟩:∃w8,w8=(((w7.setCell ⟨r9,0,none⟩ (.int .u64 N.a)).setCell ⟨r9,1,none⟩ (.int .u64 N.b)).setCell ⟨r9,2,none⟩ (.int .u64 N.c)).setCell ⟨r9,3,none⟩ (.int .u64 N.d):=⟨_,rfl⟩;have g2:=hid (show PInv l w b w.heap.size r9 F m w8∧Env w8 by
      rw[b3];refine⟨⟨_,N,Y.out.to (fun x r q h=>Zy h (by omega) _ _ _ _),setFour_heap A.out _ _ _ _,Zy a4.out (by omega) _ _ _ _,setFour_frS F7.out (by omega) _ _ _ _,V,d6⟩,f4.out.on2 (ZS _ _ _ _ _ _) (by omega)⟩)
     have g8:=hid b3;clear b3 V d6;go_wp2_with fail;rw[←g8.out];go_roundg m
     case measure=>omega
     case rel=>exact g2.out
def prz(l:List UInt8)(a:Int):(Int×Nat)⊕(S4×Nat):=if a<0∨(l.length:Int)<a then .inl (1,0)else prs l a.toNat
theorem ZnS{l:List UInt8}{a:Int}(h:a<0∨(l.length:Int)<a):prz l a=.inl (1,0):=if_pos h
theorem Zkd{l:List UInt8}{a:Nat}(h:a≤l.length):prz l a=prs l a:=by unfold prz;rw[if_neg (by omega)];rfl
theorem ZfL(l:List UInt8)(a:Int)(w:World)(hl:l.length≤100000)(hE:Env w):
 Calls prog 114 #[.string ⟨l.toArray⟩,.int .i64 a] w fun e w'=>e=.returned (Zp8 (prz l a))∧Fr nob w w':=by
 by_cases h:a<0∨(l.length:Int)<a
 ·rw[ZnS h];exact Zkb l a w h
 ·obtain⟨n,rfl⟩:∃n:Nat,a=n:=⟨a.toNat,by omega⟩;rw[Zkd (by omega)];exact Zkc l n w hl (by omega) hE
end Go.Proofs.YtgllcniibbaoaaaGreatDoor
