/- Lemmas of this claim. -/
import Derived.LoopN
import Derived.Test.YtgllcniibbaoaaaGreatDoorK06
import Derived.Test.YtgllcniibbaoaaaGreatDoorK07
set_option linter.all false
set_option maxRecDepth 100000
set_option maxHeartbeats 24000000
namespace Go.Proofs.YtgllcniibbaoaaaGreatDoor
open Go.RowKit
theorem Zb5(s:ByteArray)(o:Option (Int→Bool))(ho:Zak s=o)(w:World):Calls Tryz.prog 159 #[.string s] w fun e w'=>e=.returned (.tuple #[ZcR (ZaD o),.bool o.isSome])∧Fr nob w w':=by
 subst ho;exact ZfI s w
theorem Zj2(s:S4)(d:Nat)(w:World)(hs:s.fit)(hd:d<256):Calls Tryz.prog 160 #[ZcR s,.int .u8 d] w fun e w'=>e=.returned (.bool (s.has d))∧Fr nob w w':=ZnC s d w hs hd
theorem Zpp(l:List UInt8)(u:Value)(w:World)(hl:l.length≤9000000000000000000)(h:SB w l u):Calls Tryz.prog 116 #[u] w fun e w'=>e=.returned (ZcR (S4.zero.puts l))∧Fr nob w w':=ZoU l u w hl h
theorem ZnK(w:World)(c:UInt8)(T:TypeId):SB (w.alloc (.cells #[.int .u8 (c.toNat:Int)] T)) [c] (.slice (some ⟨w.heap.size,0,none⟩) 1 1):=by
 refine Or.inr ⟨_,_,_,rfl,by simp,?_⟩;intro j x hj
 match j,hj with
 |0,hj=>simp at hj;subst hj;simp[World.cell?_alloc_new]
def Env(w:World):Prop:=Tab w∧∃m,w.cell? ⟨0,0,none⟩=some (.int .i64 m)
theorem Env.on{w w':World}(h:Env w)(f:Fr nob w w'):Env w':=⟨h.1.on f,let⟨m,hm⟩:=h.2;⟨m,f.cell hm (fun x=>x)⟩⟩
def Zj3:Nat:=max 0 1+1
theorem Env.on2{w w':World}{b:Nat}(h:Env w)(f:Fr (fun k=>k=b) w w')(hb:Zj3≤b):Env w':=
 ⟨h.1.on2 f (fun e=>by unfold Zj3 at hb;omega),let⟨m,hm⟩:=h.2;⟨m,f.cell hm (fun e=>by simp only at e;unfold Zj3 at hb;omega)⟩⟩
theorem ZdG(s t:List UInt8)(w:World)(hs:s.length≤1000000)(h:Env w):
 Calls Tryz.prog 201 #[.string ⟨s.toArray⟩,.string ⟨t.toArray⟩] w fun e w'=>e=.returned (.int .i64 (Lib.index s t))∧w=w':=by
 obtain⟨m,hm⟩:=h.2;refine(Tryz.strings_Index ⟨s.toArray⟩ ⟨t.toArray⟩ m w (by rw[Zbp];omega) hm).mono ?_;rintro e w' ⟨rfl,rfl⟩;exact⟨rfl,rfl⟩
theorem ZQ{fn:Func}{p:Tmp}(h:fn.results= #[.cell p 241]){tmps:Array Value}{r:Nat}(ht:tmps.getD p undef=.pointer (some ⟨r,0,none⟩)){W:World}{s:S4}{e:Bool}
 (hb:W.heap[r]? =some (.cells #[.int .u64 s.a,.int .u64 s.b,.int .u64 s.c,.int .u64 s.d,.bool e] 241 (0,0))):(results fn tmps).run Tryz.prog W=.ok (itV s e) W:=by
 have c0:=cell_at (j:=0) (v:=.int .u64 s.a) hb rfl;have c1:=cell_at (j:=1) (v:=.int .u64 s.b) hb rfl;have c2:=cell_at (j:=2) (v:=.int .u64 s.c) hb rfl;have c3:=cell_at (j:=3) (v:=.int .u64 s.d) hb rfl;have c4:=cell_at (j:=4) (v:=.bool e) hb rfl;have f:tmps[p]?.getD undef=.pointer (some ⟨r,0,none⟩):=by rw[←ht];simp
 simp only[results,h];simp[f,go_sem,c0,c1,c2,c3,c4]
theorem Zd{w:World}{b:Nat}{v0 v1 v2 v3 v4:Value}{T:TypeId}(h:w.heap[b]? =some (.cells #[v0,v1,v2,v3,v4] T (0,0))):∀w',Fr nob w w'→
 (w'.cell? ⟨b,0,none⟩=some v0∧w'.cell? ⟨b,1,none⟩=some v1∧w'.cell? ⟨b,2,none⟩=some v2∧w'.cell? ⟨b,3,none⟩=some v3∧w'.cell? ⟨b,4,none⟩=some v4)∧
 (w'.frozen? ⟨b,0,none⟩=false∧w'.frozen? ⟨b,1,none⟩=false∧w'.frozen? ⟨b,2,none⟩=false∧w'.frozen? ⟨b,3,none⟩=false∧w'.frozen? ⟨b,4,none⟩=false):=fun _ f=>by
 have h':=f.heap h (fun x=>x);exact⟨⟨cell_at h' rfl,cell_at h' rfl,cell_at h' rfl,cell_at h' rfl,cell_at h' rfl⟩,ZF h' _,ZF h' _,ZF h' _,ZF h' _,ZF h' _⟩
abbrev Zg7(w:World)(b:Nat)(v0 v1 v2 v3 v4:Value):World:=(ZaG w b v0 v1 v2 v3).setCell ⟨b,4,none⟩ v4
theorem ZA{w:World}{b:Nat}{a0 a1 a2 a3 a4:Value}{T:TypeId}{fr:Nat×Nat}(h:w.heap[b]? =some (.cells #[a0,a1,a2,a3,a4] T fr))(v0 v1 v2 v3 v4:Value):
 (Zg7 w b v0 v1 v2 v3 v4).heap[b]? =some (.cells #[v0,v1,v2,v3,v4] T fr):=by
 have h0:(w.setCell ⟨b,0,none⟩ v0).heap[b]? =some (.cells #[v0,a1,a2,a3,a4] T fr):=Za h 0 v0;have h1:((w.setCell ⟨b,0,none⟩ v0).setCell ⟨b,1,none⟩ v1).heap[b]? =some (.cells #[v0,v1,a2,a3,a4] T fr):=Za h0 1 v1;have h2:(((w.setCell ⟨b,0,none⟩ v0).setCell ⟨b,1,none⟩ v1).setCell ⟨b,2,none⟩ v2).heap[b]? =some (.cells #[v0,v1,v2,a3,a4] T fr):=Za h1 2 v2;have h3:(ZaG w b v0 v1 v2 v3).heap[b]? =some (.cells #[v0,v1,v2,v3,a4] T fr):=Za h2 3 v3;exact Za h3 4 v4
theorem ZR{S:Nat→Prop}{w a:World}{b:Nat}(f:Fr S a w)(hb:a.heap.size≤b)(v0 v1 v2 v3 v4:Value):Fr S a (Zg7 w b v0 v1 v2 v3 v4):=by
 have h:∀(x:World) (j:Nat) (v:Value),Fr S a x→Fr S a (x.setCell ⟨b,j,none⟩ v):=fun x j v hx=>hx.setCell (p:=⟨b,j,none⟩) (fun h=>absurd h (Nat.not_lt.2 hb)) v;exact h _ _ _ (h _ _ _ (h _ _ _ (h _ _ _ (h _ _ _ f))))
theorem ZJ{w:World}{b k:Nat}{o:Obj}(hk:w.heap[k]? =some o)(hne:k≠b)(v0 v1 v2 v3 v4:Value):(Zg7 w b v0 v1 v2 v3 v4).heap[k]? =some o:=
 Zc (Zc (Zc (Zc (Zc hk hne _) hne _) hne _) hne _) hne _
theorem Zl6(c:UInt8):S4.zero.puts [c]=spn c.toNat c.toNat:=S4.ext_has (ZlX _ ZaU) (Zb4 _ _) fun e he=>by
 have:=c.toNat_lt;rw[ZlZ _ _ he,ZcO,Zg3 _ _ _ (by omega) (by omega) he];by_cases h:c.toNat=e
 ·subst h;simp
 ·simp only[List.any_cons,List.any_nil,Bool.or_false,h,decide_false];by_cases h2:c.toNat≤e
  ·simp[h2];omega
  ·simp[h2]
theorem Zb6(c:UInt8)(w:World)(T:TypeId):Calls Tryz.prog 116 #[.slice (some ⟨w.heap.size,0,none⟩) 1 1] (w.alloc (.cells #[.int .u8 (c.toNat:Int)] T)) fun e w'=>e=.returned (ZcR (spn c.toNat c.toNat))∧Fr nob (w.alloc (.cells #[.int .u8 (c.toNat:Int)] T)) w':=by
 rw[←Zl6];exact Zpp [c] _ _ (by simp) (ZnK w c T)
theorem Zl7(k c:UInt8):((k.toNat:Int)==46)=(if k=46 then some c else none).isSome:=by
 by_cases h:k=46
 ·subst h;rfl
 ·have:=(fun e=>h (UInt8.toNat_inj.1 e):k.toNat≠(46:UInt8).toNat);rw[if_neg h];simp at this⊢;omega
abbrev Zj4(b:Nat)(l:List UInt8)(p:Int)(s:S4)(o:Bool)(R:(Int×Nat)⊕It)(w':World):Prop:=match R with
 | .inr x=>s=x.set∧o=x.one.isSome∧Rd w' b l x.next 0 p
 | .inl z=>∃a':Nat,a'≤l.length∧z.1≠0∧Rd w' b l a' z.1 z.2
theorem Zj4.to{b:Nat}{l:List UInt8}{p:Int}{s:S4}{o:Bool}{R:(Int×Nat)⊕It}{w w':World}(h:Zj4 b l p s o R w)(f:∀x r q,Rd w b l x r q→Rd w' b l x r q):Zj4 b l p s o R w':=by
 cases R with
 |inr x=>exact⟨h.1,h.2.1,f _ _ _ h.2.2⟩
 |inl z=>obtain⟨a',h1,h2,h3⟩:=h;exact⟨a',h1,h2,f _ _ _ h3⟩
def Zl8(b:Nat)(l:List UInt8)(a:Nat)(p:Int)(R:(Int×Nat)⊕It)(w:World)(e:Ending)(w':World):Prop:=
 ∃s o,e=.returned (itV s o)∧s.fit∧Fr (fun k=>k=b) w w'∧Zj4 b l p s o R w'
open Go.Lib (hid)
theorem Zj5(b:Nat)(l:List UInt8)(a:Nat)(k:UInt8)(p:Int)(w:World)(hl:l.length≤100000)(ha:a+2≤l.length)(hb:Zj3≤b)(hE:Env w)(h:Rd w b l a 0 p)(h58:k≠58):
 Calls Tryz.prog 180 #[.pointer (some ⟨b,0,none⟩),.int .u8 (k.toNat:Int)] w (Zl8 b l a p (itmN l a k) w):=by
 obtain⟨R,hR⟩:∃R,itmN l a k=R:=⟨_,rfl⟩;rw[hR];have HR:=hid hR;clear hR;have rr:=Zl h;have O:=lt_heap h;have H:=hid h;have HE:=hid hE;clear h hE;have t1:((k.toNat:Int)==58)=false:=by simp;intro h;exact h58 (UInt8.toNat_inj.1 (by simp;omega))
 have a0:=Zcf k;obtain⟨w0,y⟩:∃w0,w0=(w.alloc (.cells #[.int .u64 0,.int .u64 0,.int .u64 0,.int .u64 0,.bool false] 241)).alloc (.cells #[.int .u8 (k.toNat:Int),.int .u8 93] 5):=⟨_,rfl⟩;have K:w0.heap[w.heap.size]? =some (.cells #[.int .u64 0,.int .u64 0,.int .u64 0,.int .u64 0,.bool false] 241 (0,0)):=by rw[y];exact heap_alloc_lt _ (newAt _ _)
 have f0:Fr nob w w0:=by rw[y];exact((Fr.refl _ _).alloc _).alloc _
 have r:=Zdp (P:=Tryz.prog) (src:=166) (dst:=9) (e:=5) Tryz.underlying166 Tryz.underlying5 Tryz.underlying9 k 93 (w.alloc (.cells #[.int .u64 0,.int .u64 0,.int .u64 0,.int .u64 0,.bool false] 241));rw[show((93:UInt8).toNat:Int)=93 from rfl,show(w.alloc (.cells #[.int .u64 0,.int .u64 0,.int .u64 0,.int .u64 0,.bool false] 241)).heap.size=w.heap.size+1 by simp]at r;have u:=hid y;have B:=hid K;have m:=hid f0;have A:=hid (HE.out.on f0);have a2:=Zl (f0.heap H.out (fun x=>x));have W:b<w0.heap.size:=Nat.lt_of_lt_of_le O f0.size;clear y K f0;by_cases Q:l.length<a+3
 ·have g:=hid (show itmN l a k=.inl (5,l.length) by
   have:fnd l k (l.length+1) (a+2+skp k)=none:=by
    rw[fnd,if_neg (by unfold skp;rw[if_neg h58];omega)]
   unfold itmN;rw[this])
  go_enter Tryz.func180,Tryz.ntmps180;go_wp2_with fail;rw[←u.out];clear r;refine(fail_ok b l a p 5 l.length _ (H.out.on m.out)).mono ?_;rintro e w2 ⟨rfl,h2,f2⟩;have f:=f2.heap B.out (fun e=>by omega);have r2:=Zd f;have C:=lt_heap f;have HH:=hid h2;have FF:=hid f2;have j:=hid f;clear h2 f2 f;go_wp2;(try simp only[Exit.inBlock,Exit.then]);refine bodyPost_ret (ZQ (s:=S4.zero) (e:=false) rfl rfl (ZA j.out _ _ _ _ _)) rfl ⟨S4.zero,false,rfl,ZaU,ZR (m.out.any.trans FF.out (fun i hi e=>e)) (Nat.le_refl _) _ _ _ _ _,?_⟩;rw[←HR.out,g.out];exact⟨a,by omega,(by simp),ZJ HH.out (by omega) _ _ _ _ _⟩
 ·have Y:(a:Int)+2+1≤l.length:=by omega
  cases hf:fnd l k (l.length+1) (a+2+1)with
  |none=>
   have t:Lib.index (l.drop (a+2+1)) [k,93]= -1:=by rw[Ze4 _ _ _ (by omega),hf]
   have g:=hid (show itmN l a k=.inl (5,l.length) by unfold itmN skp;rw[if_neg h58,hf]);clear hf;have hS:=fun w h=>ZdG (l.drop (a+2+1)) [k,93] w (by simp;omega) h;rw[t]at hS;have HS:=hid hS;clear hS t;go_enter Tryz.func180,Tryz.ntmps180;go_wp2_with fail;rw[←u.out];clear r;refine(HS.out _ A.out).mono ?_;rintro e w1 ⟨rfl,rfl⟩;go_wp2_with fail;refine(fail_ok b l a p 5 l.length _ (H.out.on m.out)).mono ?_;rintro e w2 ⟨rfl,h2,f2⟩;have f:=f2.heap B.out (fun e=>by omega);have r2:=Zd f;have C:=lt_heap f;have HH:=hid h2;have FF:=hid f2;have j:=hid f;clear h2 f2 f;go_wp2;(try simp only[Exit.inBlock,Exit.then]);refine bodyPost_ret (ZQ (s:=S4.zero) (e:=false) rfl rfl (ZA j.out _ _ _ _ _)) rfl ⟨S4.zero,false,rfl,ZaU,ZR (m.out.any.trans FF.out (fun i hi e=>e)) (Nat.le_refl _) _ _ _ _ _,?_⟩;rw[←HR.out,g.out];exact⟨a,by omega,(by simp),ZJ HH.out (by omega) _ _ _ _ _⟩
  |some e=>
   obtain⟨h1,h2,h3,h4,h5⟩:=ZcQ hf;obtain⟨d,rfl⟩:∃d,e=a+2+1+d:=⟨e-(a+2+1),by omega⟩;have t:Lib.index (l.drop (a+2+1)) [k,93]=(d:Int):=by rw[Ze4 _ _ _ (by omega),hf];simp only;omega
   have hS:=fun w h=>ZdG (l.drop (a+2+1)) [k,93] w (by simp;omega) h;rw[t]at hS;have HS:=hid hS;clear hS t;have Z:(a:Int)+2+1+d+1<l.length:=by omega
   have J:=Zaf (P:=Tryz.prog) l (lo:=(a:Int)+2) (hi:=(a:Int)+2+1+d) Tryz.underlying9 (by omega) (by omega) (by omega);rw[show((a:Int)+2).toNat=a+2 by omega,show((a:Int)+2+1+d).toNat=a+2+1+d by omega]at J;obtain⟨nm,n⟩:∃nm,(l.drop (a+2)).take (a+2+1+d-(a+2))=nm:=⟨_,rfl⟩;have a1:nm.length=1+d:=by rw[←n];simp;omega
   rw[n]at J;have X:=hid n;have M:=hid (show∀c,nm=[c]→itmN l a k=.inr ⟨spn c.toNat c.toNat,if k=46 then some c else none,a+2+1+d+2⟩from fun c hc=>Zl2 h58 hf (by unfold nam;rw[n,hc]));have N:=hid (show nm.length≠1→itmN l a k=.inl (6,a)from fun hc=>Zl3 h58 hf (by unfold nam;rw[n];exact hc));clear hf h3 h4 h5 n;obtain⟨w1,o⟩:∃w1,w1=w0.setCell ⟨b,1,none⟩ (.int .i64 ((a:Int)+2+(1+d)+2)):=⟨_,rfl⟩;have U:w1.heap.size=w0.heap.size:=by rw[o];simp
   have H1:=hid (show Rd w1 b l ((a+2+1+d+2:Nat):Int) 0 p by
    rw[o,show((a+2+1+d+2:Nat):Int)=(a:Int)+2+(1+d)+2 by omega];exact Za (m.out.heap H.out (fun x=>x)) 1 _)
   have F:=hid (show w1.heap[w.heap.size]? =some (.cells #[.int .u64 0,.int .u64 0,.int .u64 0,.int .u64 0,.bool false] 241 (0,0)) by
    rw[o];exact Zc B.out (by simp only;omega) _)
   have D:=hid (show Fr (fun k=>k=b) w w1 by rw[o];exact Fr.setCell (S:=fun k=>k=b) (p:=⟨b,1,none⟩) m.out.any (fun _=>rfl) _);have E:=hid o;clear o;by_cases hd:d=0
   ·have td:((1:Int)+d==1)=true:=by simp;omega
    have V:((1:Int)+d !=1)=false:=by simp;omega
    have HD:=hid hd;clear hd;go_enter Tryz.func180,Tryz.ntmps180;go_wp2_with fail;rw[←u.out];clear r;refine(HS.out _ A.out).mono ?_;rintro e w1 ⟨rfl,rfl⟩;go_wp2_with fail;obtain⟨c,rfl⟩:=List.length_eq_one_iff.1 (show nm.length=1 by have:=HD.out;omega);rw[←E.out,←U];have ho:=Zl7 k c;refine(Zb6 c w1 _).mono ?_;have q:=M.out c rfl;obtain⟨S,hS⟩:∃S,spn c.toNat c.toNat=S:=⟨_,rfl⟩;have G:S.fit:=by rw[←hS];exact Zb4 _ _
    rw[hS]at q⊢;rintro e w2 ⟨rfl,f2⟩;have v:Fr nob w1 w2:=((Fr.refl _ _).alloc _).trans' f2;have f:=v.heap F.out (fun x=>x);have I:=H1.out.on v;have r2:=Zd f;have C:=lt_heap f;have FF:=hid (D.out.trans v (fun i hi e=>e.elim));have j:=hid f;have L:=hid I;have g:=hid q;have HO:=hid ho;clear f I hS q f2 v ho;go_wp2;(try simp only[Exit.inBlock,Exit.then]);refine bodyPost_ret (ZQ (s:=S) (e:=(k.toNat:Int)==46) rfl rfl (ZA j.out _ _ _ _ _)) rfl ⟨S,_,rfl,G,ZR FF.out (Nat.le_refl _) _ _ _ _ _,?_⟩;rw[←HR.out,g.out];exact⟨rfl,HO.out,ZJ L.out (by omega) _ _ _ _ _⟩
   ·have td:((1:Int)+d==1)=false:=by simp;omega
    have V:((1:Int)+d !=1)=true:=by simp;omega
    go_enter Tryz.func180,Tryz.ntmps180;go_wp2_with fail;rw[←u.out];clear r;refine(HS.out _ A.out).mono ?_;rintro e w1 ⟨rfl,rfl⟩;go_wp2_with fail;rw[←E.out];refine(fail_ok b l _ p 6 a _ H1.out).mono ?_;rintro e w2 ⟨rfl,h2,f2⟩;have f:=f2.heap F.out (fun e=>by omega);have r2:=Zd f;have C:=lt_heap f;have HH:=hid h2;have FF:=hid f2;have j:=hid f;have g:=hid (N.out (by omega));clear h2 f2 f;go_wp2;(try simp only[Exit.inBlock,Exit.then]);refine bodyPost_ret (ZQ (s:=S4.zero) (e:=false) rfl rfl (ZA j.out _ _ _ _ _)) rfl ⟨S4.zero,false,rfl,ZaU,ZR (D.out.trans FF.out (fun i hi e=>e)) (Nat.le_refl _) _ _ _ _ _,?_⟩;rw[←HR.out,g.out];exact⟨a+2+1+d+2,by omega,(by simp),ZJ HH.out (by omega) _ _ _ _ _⟩
def Zqq(a e:Nat):Option (Int→Bool)→(Int×Nat)⊕It
 |none=>.inl (6,a)
 |some p=>.inr ⟨pk p 256,none,e+2⟩
theorem Zj6(b:Nat)(l:List UInt8)(a:Nat)(p:Int)(w:World)(hl:l.length≤100000)(ha:a+2≤l.length)(hb:Zj3≤b)(hE:Env w)(h:Rd w b l a 0 p):
 Calls Tryz.prog 180 #[.pointer (some ⟨b,0,none⟩),.int .u8 58] w (Zl8 b l a p (itmN l a 58) w):=by
 obtain⟨R,hR⟩:∃R,itmN l a 58=R:=⟨_,rfl⟩;rw[hR];have HR:=hid hR;clear hR;have rr:=Zl h;have N:=lt_heap h;have H:=hid h;have HE:=hid hE;clear h hE;obtain⟨w0,u⟩:∃w0,w0=(w.alloc (.cells #[.int .u64 0,.int .u64 0,.int .u64 0,.int .u64 0,.bool false] 241)).alloc (.cells #[.int .u8 58,.int .u8 93] 5):=⟨_,rfl⟩;have G:w0.heap[w.heap.size]? =some (.cells #[.int .u64 0,.int .u64 0,.int .u64 0,.int .u64 0,.bool false] 241 (0,0)):=by rw[u];exact heap_alloc_lt _ (newAt _ _)
 have f0:Fr nob w w0:=by rw[u];exact((Fr.refl _ _).alloc _).alloc _
 have t:=Zdp (P:=Tryz.prog) (src:=166) (dst:=9) (e:=5) Tryz.underlying166 Tryz.underlying5 Tryz.underlying9 58 93 (w.alloc (.cells #[.int .u64 0,.int .u64 0,.int .u64 0,.int .u64 0,.bool false] 241));rw[show((93:UInt8).toNat:Int)=93 from rfl,show(w.alloc (.cells #[.int .u64 0,.int .u64 0,.int .u64 0,.int .u64 0,.bool false] 241)).heap.size=w.heap.size+1 by simp]at t;rw[show((58:UInt8).toNat:Int)=58 from rfl]at t;have D:=hid u;have E:=hid G;have q:=hid f0;have B:=hid (HE.out.on f0);have Z:=Zl (f0.heap H.out (fun x=>x));have U:b<w0.heap.size:=Nat.lt_of_lt_of_le N f0.size;clear u G f0;have W:(a:Int)+2≤l.length:=by omega
 cases hf:fnd l 58 (l.length+1) (a+2)with
 |none=>
  have j:Lib.index (l.drop (a+2)) [58,93]= -1:=by rw[Ze4 _ _ _ (by omega),hf]
  have r:=hid (ZjY (l:=l) (a:=a) (k:=58) hf);clear hf;have hS:=fun w h=>ZdG (l.drop (a+2)) [58,93] w (by simp;omega) h;rw[j]at hS;have HS:=hid hS;clear hS j;go_enter Tryz.func180,Tryz.ntmps180;go_wp2_with fail;rw[←D.out];clear t;refine(HS.out _ B.out).mono ?_;rintro e w1 ⟨rfl,rfl⟩;go_wp2_with fail;refine(fail_ok b l a p 5 l.length _ (H.out.on q.out)).mono ?_;rintro e w2 ⟨rfl,h2,f2⟩;have f:=f2.heap E.out (fun e=>by omega);have r2:=Zd f;have O:=lt_heap f;have HH:=hid h2;have FF:=hid f2;have g:=hid f;clear h2 f2 f;go_wp2;(try simp only[Exit.inBlock,Exit.then]);refine bodyPost_ret (ZQ (s:=S4.zero) (e:=false) rfl rfl (ZA g.out _ _ _ _ _)) rfl ⟨S4.zero,false,rfl,ZaU,ZR (q.out.any.trans FF.out (fun i hi e=>e)) (Nat.le_refl _) _ _ _ _ _,?_⟩;rw[←HR.out,r.out];exact⟨a,by omega,(by simp),ZJ HH.out (by omega) _ _ _ _ _⟩
 |some e=>
  obtain⟨h1,h2,h3,h4,h5⟩:=ZcQ hf;obtain⟨d,rfl⟩:∃d,e=a+2+d:=⟨e-(a+2),by omega⟩;have j:Lib.index (l.drop (a+2)) [58,93]=(d:Int):=by rw[Ze4 _ _ _ (by omega),hf];simp only;omega
  have hS:=fun w h=>ZdG (l.drop (a+2)) [58,93] w (by simp;omega) h;rw[j]at hS;have HS:=hid hS;clear hS j;have X:(a:Int)+2+d+1<l.length:=by omega
  have F:=Zaf (P:=Tryz.prog) l (lo:=(a:Int)+2) (hi:=(a:Int)+2+d) Tryz.underlying9 (by omega) (by omega) (by omega);rw[show((a:Int)+2).toNat=a+2 by omega,show((a:Int)+2+d).toNat=a+2+d by omega]at F;obtain⟨nm,m⟩:∃nm,(l.drop (a+2)).take (a+2+d-(a+2))=nm:=⟨_,rfl⟩;have Y:nm.length=d:=by rw[←m];simp;omega
  rw[m]at F;obtain⟨o,ho⟩:∃o,Zak ⟨nm.toArray⟩=o:=⟨_,rfl⟩;have r:=hid (show itmN l a 58=Zqq a (a+2+d) o by
   cases o with
   |none=>exact Zi2 hf (by unfold nam;rw[m,ho])
   |some p=>exact Zl4 hf (by unfold nam;rw[m,ho]))
  have HC:=hid (fun w=>Zb5 ⟨nm.toArray⟩ o ho w);clear hf h3 h4 h5 m ho;obtain⟨w1,n⟩:∃w1,w1=w0.setCell ⟨b,1,none⟩ (.int .i64 ((a:Int)+2+d+2)):=⟨_,rfl⟩;have H1:=hid (show Rd w1 b l ((a+2+d+2:Nat):Int) 0 p by
   rw[n,show((a+2+d+2:Nat):Int)=(a:Int)+2+d+2 by omega];exact Za (q.out.heap H.out (fun x=>x)) 1 _)
  have L:=hid (show w1.heap[w.heap.size]? =some (.cells #[.int .u64 0,.int .u64 0,.int .u64 0,.int .u64 0,.bool false] 241 (0,0)) by
   rw[n];exact Zc E.out (by simp only;omega) _)
  have I:=hid (show Fr (fun k=>k=b) w w1 by rw[n];exact Fr.setCell (S:=fun k=>k=b) (p:=⟨b,1,none⟩) q.out.any (fun _=>rfl) _);have K:=hid n;clear n;go_enter Tryz.func180,Tryz.ntmps180;go_wp2_with fail;rw[←D.out];clear t;refine(HS.out _ B.out).mono ?_;rintro e a0 ⟨rfl,rfl⟩;go_wp2_with fail;rw[←K.out];refine(HC.out w1).mono ?_;obtain⟨S,hS⟩:∃S,ZaD o=S:=⟨_,rfl⟩;have v:S.fit:=by rw[←hS];exact Zdd _
  rw[hS];rintro e w2 ⟨rfl,f2⟩;have f:=f2.heap L.out (fun x=>x);have y:=H1.out.on f2;have V:=lt_heap y;have O:=lt_heap f;have FF:=hid (I.out.trans f2 (fun i hi e=>e.elim));have g:=hid f;have C:=hid y;have J:=hid hS;clear f y hS f2;cases o with
  |none=>
   go_wp2_with fail;refine(fail_ok b l _ p 6 a _ (C.out.on ((Fr.refl _ _).alloc _))).mono ?_;rintro e w3 ⟨rfl,h3,f3⟩;have A:=f3.heap (((Fr.refl nob w2).alloc _).heap g.out (fun x=>x)) (fun e=>by omega);have r3:=Zd A;have Q:=Zl (f3.heap (newAt w2 (.cells #[.int .u64 S.a,.int .u64 S.b,.int .u64 S.c,.int .u64 S.d] 132)) (fun e=>by omega));have HH:=hid h3;have F3:=hid f3;have M:=hid A;clear h3 f3 A;go_wp2;(try simp only[Exit.inBlock,Exit.then]);refine bodyPost_ret (ZQ (s:=S) (e:=false) rfl rfl (ZA M.out _ _ _ _ _)) rfl ⟨S,false,rfl,v,ZR ((FF.out.alloc _).trans F3.out (fun i hi e=>e)) (Nat.le_refl _) _ _ _ _ _,?_⟩;rw[←HR.out,r.out];exact⟨a+2+d+2,by omega,(by simp),ZJ HH.out (by omega) _ _ _ _ _⟩
  |some p0=>
   have r3:=Zd g.out;have Q:=Zl (newAt w2 (.cells #[.int .u64 S.a,.int .u64 S.b,.int .u64 S.c,.int .u64 S.d] 132));go_wp2;(try simp only[Exit.inBlock,Exit.then]);refine bodyPost_ret (ZQ (s:=S) (e:=false) rfl rfl (((Fr.refl nob _).alloc _).heap (ZA g.out _ _ _ _ _) (fun x=>x))) rfl ⟨S,false,rfl,v,(ZR FF.out (Nat.le_refl _) _ _ _ _ _).alloc _,?_⟩;rw[←HR.out,r.out];exact⟨J.out.symm,rfl,((Fr.refl nob _).alloc _).heap (ZJ C.out (by omega) _ _ _ _ _) (fun x=>x)⟩
theorem named_any(b:Nat)(l:List UInt8)(a:Nat)(k:UInt8)(p:Int)(w:World)(hl:l.length≤100000)(ha:a+2≤l.length)(hb:Zj3≤b)(hE:Env w)(h:Rd w b l a 0 p):
 Calls Tryz.prog 180 #[.pointer (some ⟨b,0,none⟩),.int .u8 (k.toNat:Int)] w (Zl8 b l a p (itmN l a k) w):=by
 by_cases hk:k=58
 ·subst hk;exact Zj6 b l a p w hl ha hb hE h
 ·exact Zj5 b l a k p w hl ha hb hE h hk
theorem ZqS(w:World):(Instr.index 264 (.agg #[.string ⟨#[91,58]⟩,.string ⟨#[91,61]⟩,.string ⟨#[91,46]⟩]) (.int .i64 0)).run Tryz.prog w=.ok (.string ⟨#[91,58]⟩) w:=by kernel_rfl
theorem ZqT(w:World):(Instr.index 264 (.agg #[.string ⟨#[91,58]⟩,.string ⟨#[91,61]⟩,.string ⟨#[91,46]⟩]) (.int .i64 1)).run Tryz.prog w=.ok (.string ⟨#[91,61]⟩) w:=by kernel_rfl
theorem ZqU(w:World):(Instr.index 264 (.agg #[.string ⟨#[91,58]⟩,.string ⟨#[91,61]⟩,.string ⟨#[91,46]⟩]) (.int .i64 2)).run Tryz.prog w=.ok (.string ⟨#[91,46]⟩) w:=by kernel_rfl
theorem pre2{l:List UInt8}{k:UInt8}{a:Nat}:([91,k].isPrefixOf (l.drop a)=true)↔l[a]? =some 91∧l[a+1]? =some k:=by
 have:=Zpm l a 0 k;unfold Lib.occAt at this;have e1:l[a]? =(l.drop a)[0]? :=by simp
 have e2:l[a+1]? =(l.drop a)[1]? :=by simp
 rw[e1,e2];cases h:l.drop a with
 |nil=>simp
 |cons x r=>
  cases r with
  |nil=>simp
  |cons y r=>
   simp[List.isPrefixOf];constructor<;>(rintro⟨h1,h2⟩;exact⟨h1.symm,h2.symm⟩)
theorem Zd2{l:List UInt8}{a:Nat}{k:UInt8}(hk:ZjX k=true)(h:[91,k].isPrefixOf (l.drop a)=true):itm l a=itmN l a k∧a+2≤l.length:=by
 obtain⟨h1,h2⟩:=pre2.1 h;have:=(List.getElem?_eq_some_iff.1 h2).1;unfold itm;rw[h1];simp only;rw[h2];simp only;rw[if_pos ⟨trivial,hk⟩];exact⟨rfl,by omega⟩
theorem Zj7{l:List UInt8}{a:Nat}(ha:a<l.length)(h1:[91,58].isPrefixOf (l.drop a)=false)(h2:[91,61].isPrefixOf (l.drop a)=false)(h3:[91,46].isPrefixOf (l.drop a)=false):
 itm l a=.inr ⟨spn (l[a]).toNat (l[a]).toNat,some l[a],a+1⟩:=by
 unfold itm;rw[List.getElem?_eq_getElem ha];simp only;split
 ·rfl
 ·next k hk=>
  split
  ·next hc=>
   have b:l[a]? =some 91:=by rw[List.getElem?_eq_getElem ha,hc.1]
   have c:=hc.2;unfold ZjX at c;simp only[Bool.or_eq_true,beq_iff_eq]at c;rcases c with(rfl|rfl)|rfl
   ·rw[pre2.2 ⟨b,hk⟩]at h1;cases h1
   ·rw[pre2.2 ⟨b,hk⟩]at h2;cases h2
   ·rw[pre2.2 ⟨b,hk⟩]at h3;cases h3
  ·rfl
theorem ZnL{l:List UInt8}{a:Nat}(ha:l.length≤a):itm l a=.inl (5,l.length):=by
 unfold itm;rw[List.getElem?_eq_none ha]
theorem item_any(b:Nat)(l:List UInt8)(a:Nat)(p:Int)(w:World)(hl:l.length≤100000)(ha:a≤l.length)(hb:Zj3≤b)(hE:Env w)(h:Rd w b l a 0 p):
 Calls Tryz.prog 161 #[.pointer (some ⟨b,0,none⟩)] w (Zl8 b l a p (itm l a) w):=by
 obtain⟨R,hR⟩:∃R,itm l a=R:=⟨_,rfl⟩;rw[hR];have HR:=hid hR;clear hR;have rr:=Zl h;have a0:=lt_heap h;obtain⟨w0,I⟩:∃w0,w0=w.alloc (.cells #[.int .u64 0,.int .u64 0,.int .u64 0,.int .u64 0,.bool false] 241):=⟨_,rfl⟩;have f0:Fr nob w w0:=by rw[I];exact(Fr.refl _ _).alloc _
 have B:=hid (show w0.heap[w.heap.size]? =some (.cells #[.int .u64 0,.int .u64 0,.int .u64 0,.int .u64 0,.bool false] 241 (0,0)) by rw[I];exact newAt _ _);have v:=hid f0;have H0:=hid (h.on f0);have K:=hid (hE.on f0);have a2:b<w0.heap.size:=Nat.lt_of_lt_of_le a0 f0.size;have a5:=Zl H0.out;have L:=hid I;clear I;clear h hE f0;have a3:(a:Int)≤l.length:=by omega
 by_cases M:l.length≤a
 ·have g:=hid (ZnL M);have t1:((l.length:Int)≤a):=by omega
  go_enter Tryz.func161,Tryz.ntmps161;go_wp2_with fail;rw[←L.out];refine region_fr_all (by kernel_rfl) (by kernel_rfl) ?_
  repeat(quiet_step (fail))
  refine wpQuiet_nil ?_;intro wC fC;go_wp2_with fail;refine(fail_ok b l a p 5 l.length _ (H0.out.on fC)).mono ?_;rintro e w2 ⟨rfl,h2,f2⟩;have d:=f2.heap (fC.heap B.out (fun x=>x)) (fun e=>by omega);have r2:=Zd d;have E:=lt_heap d;have HH:=hid h2;have FF:=hid ((v.out.trans' fC).any.trans f2 (fun i hi e=>e));have n:=hid d;clear h2 f2 d fC;go_wp2;(try simp only[Exit.inBlock,Exit.then]);refine bodyPost_ret (ZQ (s:=S4.zero) (e:=false) rfl rfl (ZA n.out _ _ _ _ _)) rfl ⟨S4.zero,false,rfl,ZaU,ZR FF.out (Nat.le_refl _) _ _ _ _ _,?_⟩;rw[←HR.out,g.out];exact⟨a,by omega,(by simp),ZJ HH.out (by omega) _ _ _ _ _⟩
 ·have t1:¬((l.length:Int)≤a):=by omega
  have HA:=hid (fun(t:List UInt8) (ht:t.length≤1000000) w h=>Zbr b l t a 0 p w (by omega) ht ha h);go_enter Tryz.func161,Tryz.ntmps161;go_wp2_with fail;rw[←L.out];refine region_fr_all (by kernel_rfl) (by kernel_rfl) ?_
  repeat(quiet_step (fail))
  refine wpQuiet_nil ?_;intro wC fC;have o0:=ZqS;have o1:=ZqT;have o2:=ZqU;go_wp2_with fail;refine wp_loop_rounds 4 ?_;rw[rounds_succ];go_wp2_with fail;refine(HA.out [91,58] (by simp) wC (H0.out.on fC)).mono ?_;obtain⟨q0,F⟩:∃q,[91,58].isPrefixOf (l.drop a)=q:=⟨_,rfl⟩;rw[F];rintro e v0 ⟨rfl,g0⟩;have g0:=Fr.trans' fC g0;cases q0 with
  |true=>
   obtain⟨j,C⟩:=Zd2 (k:=58) rfl F;have g:=hid j;clear j;go_wp2_with fail;refine(named_any b l a 58 p v0 hl C hb (K.out.on g0) (H0.out.on g0)).mono ?_;rintro e w2 ⟨s,o,rfl,m,f2,f⟩;rw[←g.out,HR.out]at f;have d:=f2.heap (Fr.heap g0 B.out (fun x=>x)) (fun e=>by omega);have r2:=Zd d;have E:=lt_heap d;have FF:=hid ((v.out.trans' g0).any.trans f2 (fun i hi e=>e));have n:=hid d;have y:=hid f;have A:=hid m;clear f2 d f m;go_wp2;(try simp only[Exit.inBlock,Exit.then]);refine bodyPost_ret (ZQ (s:=s) (e:=o) rfl rfl (ZA n.out _ _ _ _ _)) rfl ⟨s,o,rfl,A.out,ZR FF.out (Nat.le_refl _) _ _ _ _ _,?_⟩;exact y.out.to fun x r q h=>ZJ h (by omega) _ _ _ _ _
  |false=>
  have Q:=hid F;clear F;go_wp2_with fail;rw[rounds_succ];go_wp2_with fail;refine(HA.out [91,61] (by simp) v0 (H0.out.on g0)).mono ?_;obtain⟨q1,G⟩:∃q,[91,61].isPrefixOf (l.drop a)=q:=⟨_,rfl⟩;rw[G];rintro e v1 ⟨rfl,g1⟩;have g1:=Fr.trans' g0 g1;cases q1 with
  |true=>
   obtain⟨j,C⟩:=Zd2 (k:=61) rfl G;have g:=hid j;clear j;go_wp2_with fail;refine(named_any b l a 61 p v1 hl C hb (K.out.on g1) (H0.out.on g1)).mono ?_;rintro e w2 ⟨s,o,rfl,m,f2,f⟩;rw[←g.out,HR.out]at f;have d:=f2.heap (Fr.heap g1 B.out (fun x=>x)) (fun e=>by omega);have r2:=Zd d;have E:=lt_heap d;have FF:=hid ((v.out.trans' g1).any.trans f2 (fun i hi e=>e));have n:=hid d;have y:=hid f;have A:=hid m;clear f2 d f m;go_wp2;(try simp only[Exit.inBlock,Exit.then]);refine bodyPost_ret (ZQ (s:=s) (e:=o) rfl rfl (ZA n.out _ _ _ _ _)) rfl ⟨s,o,rfl,A.out,ZR FF.out (Nat.le_refl _) _ _ _ _ _,?_⟩;exact y.out.to fun x r q h=>ZJ h (by omega) _ _ _ _ _
  |false=>
  have U:=hid G;clear G;go_wp2_with fail;rw[rounds_succ];go_wp2_with fail;refine(HA.out [91,46] (by simp) v1 (H0.out.on g1)).mono ?_;obtain⟨q2,H⟩:∃q,[91,46].isPrefixOf (l.drop a)=q:=⟨_,rfl⟩;rw[H];rintro e v2 ⟨rfl,g2⟩;have g2:=Fr.trans' g1 g2;cases q2 with
  |true=>
   obtain⟨j,C⟩:=Zd2 (k:=46) rfl H;have g:=hid j;clear j;go_wp2_with fail;refine(named_any b l a 46 p v2 hl C hb (K.out.on g2) (H0.out.on g2)).mono ?_;rintro e w2 ⟨s,o,rfl,m,f2,f⟩;rw[←g.out,HR.out]at f;have d:=f2.heap (Fr.heap g2 B.out (fun x=>x)) (fun e=>by omega);have r2:=Zd d;have E:=lt_heap d;have FF:=hid ((v.out.trans' g2).any.trans f2 (fun i hi e=>e));have n:=hid d;have y:=hid f;have A:=hid m;clear f2 d f m;go_wp2;(try simp only[Exit.inBlock,Exit.then]);refine bodyPost_ret (ZQ (s:=s) (e:=o) rfl rfl (ZA n.out _ _ _ _ _)) rfl ⟨s,o,rfl,A.out,ZR FF.out (Nat.le_refl _) _ _ _ _ _,?_⟩;exact y.out.to fun x r q h=>ZJ h (by omega) _ _ _ _ _
  |false=>
  have V:=hid H;clear H;go_wp2_with fail;rw[rounds_succ];go_wp2_with fail;have a4:(a:Int)<l.length:=by omega
  have g:=hid (Zj7 (show a<l.length by omega) Q.out U.out V.out);obtain⟨c,hc⟩:∃c,l[a]'(by omega)=c:=⟨_,rfl⟩;refine region_fr 8 (by kernel_rfl) (by kernel_rfl) ?_;simp only[List.take_succ_cons,List.take_zero,List.drop_succ_cons,List.drop_zero]
  repeat(quiet_step (fail))
  refine wpQuiet_nil ?_;intro wD fD;have gD:=Fr.trans' g2 fD;obtain⟨w5,u⟩:∃w5,w5=wD.setCell ⟨b,1,none⟩ (.int .i64 ((a:Int)+1)):=⟨_,rfl⟩;have a1:w5.heap.size=wD.heap.size:=by rw[u];simp
  have H5:=hid (show Rd w5 b l ((a+1:Nat):Int) 0 p by
   rw[u,show((a+1:Nat):Int)=(a:Int)+1 by omega];exact Za (gD.heap H0.out (fun x=>x)) 1 _)
  have Y:=hid (show w5.heap[w.heap.size]? =some (.cells #[.int .u64 0,.int .u64 0,.int .u64 0,.int .u64 0,.bool false] 241 (0,0)) by
   rw[u];exact Zc (gD.heap B.out (fun x=>x)) (by simp only;omega) _)
  have O:=hid (show Fr (fun k=>k=b) w w5 by rw[u];exact Fr.setCell (S:=fun k=>k=b) (p:=⟨b,1,none⟩) (v.out.trans' gD).any (fun _=>rfl) _);have X:=hid u;clear u;go_wp2_with fail;rw[←X.out,←a1];refine(Zb6 c w5 _).mono ?_;obtain⟨S,hS⟩:∃S,spn c.toNat c.toNat=S:=⟨_,rfl⟩;have N:S.fit:=by rw[←hS];exact Zb4 _ _
  rw[hS];have HS:=hid hS;clear hS;rintro e w6 ⟨rfl,f6⟩;have D:Fr nob w5 w6:=((Fr.refl _ _).alloc _).trans' f6;have J:=D.heap Y.out (fun x=>x);have r6:=Zd J;have E:=lt_heap J;have FF:=hid (O.out.trans D (fun i hi e=>e.elim));have Z:=hid J;have W:=hid (H5.out.on D);have P:=hid hc;clear J f6 D hc;go_wp2;(try simp only[Exit.inBlock,Exit.then]);refine bodyPost_ret (ZQ (s:=S) (e:=true) rfl rfl (ZA Z.out _ _ _ _ _)) rfl ⟨S,true,rfl,N,ZR FF.out (Nat.le_refl _) _ _ _ _ _,?_⟩;rw[←HR.out,g.out,P.out];exact⟨HS.out.symm,rfl,ZJ W.out (by omega) _ _ _ _ _⟩
open Classical in
noncomputable def lst(s:S4):Nat:=if h:∃d b,Zbi s d b then h.choose else 0
theorem Znd{s:S4}{d:Nat}{b:Bool}(h:Zbi s d b):lst s=d:=by
 have hx:∃d b,Zbi s d b:=⟨d,b,h⟩;unfold lst;rw[dif_pos hx];obtain⟨b',hb⟩:=hx.choose_spec;exact(hb.uniq h).1
theorem Zne(s:S4):lst s<256:=by
 unfold lst;split
 ·next h=>
  obtain⟨b,hb⟩:=h.choose_spec;rcases hb with⟨_,h0,_⟩|⟨_,h0,_⟩<;>omega
 ·omega
theorem Ze6{c:Nat}(h:c<256):lst (spn c c)=c:=
 Znd (b:=true) (.inr ⟨rfl,h,by rw[Zg3 _ _ _ h h h];simp,fun e he=>by rw[Zg3 _ _ _ h h (by omega)];simp;omega⟩)
theorem ZbK(s:S4)(o:Bool)(w:World)(hs:s.fit)(hT:Tab w):
 Calls Tryz.prog 162 #[itV s o] w fun e w'=>e=.returned (.int .u8 (lst s))∧Fr nob w w':=by
 refine(Zg6 s o w hs hT).mono ?_;rintro e w' ⟨d,b,rfl,h,_,f⟩;rw[Znd h];exact⟨rfl,f⟩
theorem Ze7(a b:Nat)(w:World)(ha:a<256)(hb:b<256):Calls Tryz.prog 115 #[.int .u8 a,.int .u8 b] w fun e w'=>e=.returned (ZcR (spn a b))∧Fr nob w w':=Zl1 a b w ha hb
abbrev Zdy(b:Nat)(l:List UInt8)(p:Int)(s:S4)(R:(Int×Nat)⊕(S4×Nat))(w':World):Prop:=match R with
 | .inr x=>s=x.1∧Rd w' b l x.2 0 p
 | .inl z=>∃a':Nat,a'≤l.length∧z.1≠0∧Rd w' b l a' z.1 z.2
def Zqr(b:Nat)(l:List UInt8)(p:Int)(R:(Int×Nat)⊕(S4×Nat))(w:World)(e:Ending)(w':World):Prop:=
 ∃s,e=.returned (ZcR s)∧s.fit∧Fr (fun k=>k=b) w w'∧Zdy b l p s R w'
theorem ZnM(l:List UInt8)(k:Nat):rng l k=(decide (k+1<l.length)&&[45].isPrefixOf (l.drop k)&& !([45,93].isPrefixOf (l.drop k))):=by
 unfold rng;have e1:([45].isPrefixOf (l.drop k))=(l[k]? ==some 45):=by
  rw[Bool.eq_iff_iff,ZlH];simp
 have e2:([45,93].isPrefixOf (l.drop k))=((l[k]? ==some 45)&&(l[k+1]? ==some 93)):=by
  have:=Zpm l k 0 45;rw[Bool.eq_iff_iff];simp only[Bool.and_eq_true,beq_iff_eq];unfold Lib.occAt at this;simpa using this
 rw[e1,e2];cases decide (k+1<l.length)<;>cases(l[k]? ==some 45)<;>cases(l[k+1]? ==some 93)<;>rfl
theorem fail_any(b:Nat)(l:List UInt8)(a r p e q:Int)(w:World)(h:Rd w b l a r p):
 Calls Tryz.prog 163 #[.pointer (some ⟨b,0,none⟩),.int .i64 e,.int .i64 q] w fun x w'=>x=.returned (.tuple #[])∧Rd w' b l a (if r=0 then e else r) (if r=0 then q else p)∧Fr (fun k=>k=b) w w':=by
 by_cases hr:r=0
 ·subst hr;simp only[if_true];exact fail_ok b l a p e q w h
 ·rw[if_neg hr,if_neg hr];refine(Zl5 b l a r p e q w hr h).mono ?_;rintro x w' ⟨rfl,rfl⟩;exact⟨rfl,h,Fr.refl _ _⟩
theorem ZnN{l:List UInt8}{a:Nat}{z:Int×Nat}(h:itm l a=.inl z):prt l a=.inl z:=by unfold prt;rw[h]
theorem ZnO{l:List UInt8}{a:Nat}{x:It}(h:itm l a=.inr x)(hr:rng l x.next=false):prt l a=.inr (x.set,x.next):=by
 unfold prt;rw[h];simp only;rw[hr];rfl
def rgo(a:Nat)(o1 o2:Option UInt8)(n:Nat):(Int×Nat)⊕(S4×Nat):=match o1,o2 with
 |some c,some d=>if c.toNat≤d.toNat then .inr (spn c.toNat d.toNat,n)else .inl (1,a)
 |_,_=>.inl (1,a)
theorem Zl9{a n:Nat}{o:Option UInt8}:rgo a none o n=.inl (1,a):=rfl
theorem Zj8{a n:Nat}{o:Option UInt8}:rgo a o none n=.inl (1,a):=by cases o<;>rfl
theorem Zpq{a n:Nat}{c d:UInt8}(h:c.toNat≤d.toNat):rgo a (some c) (some d) n=.inr (spn c.toNat d.toNat,n):=if_pos h
theorem Zpr{a n:Nat}{c d:UInt8}(h:¬c.toNat≤d.toNat):rgo a (some c) (some d) n=.inl (1,a):=if_neg h
theorem ZnP{l:List UInt8}{a:Nat}{x:It}{z:Int×Nat}(hx:itm l a=.inr x)(hr:rng l x.next=true)(hy:itm l (x.next+1)=.inl z):prt l a=.inl z:=by
 unfold prt;rw[hx];simp only;rw[hr,hy];rfl
theorem ZnQ{l:List UInt8}{a:Nat}{x y:It}(hx:itm l a=.inr x)(hr:rng l x.next=true)(hy:itm l (x.next+1)=.inr y):prt l a=rgo a x.one y.one y.next:=by
 unfold prt rgo;rw[hx];simp only;rw[hr,hy];rfl
theorem Zma{b:Nat}{l:List UInt8}{a:Nat}{p:Int}{x:It}{s':S4}{o':Bool}{w4:World}(hx:itm l a=.inr x)(hr:rng l x.next=true)(h:Zj4 b l p s' o' (itm l (x.next+1)) w4):
 ∃(a':Nat) (r q:Int),a'≤l.length∧Rd w4 b l a' r q∧
  (∀w,(x.one.isSome=false∨o'=false∨lst s'<lst x.set)→Rd w b l a' (if r=0 then 1 else r) (if r=0 then(a:Int)else q)→Zdy b l p (spn (lst x.set) (lst s')) (prt l a) w)∧
  (∀w,x.one.isSome=true→o'=true→¬lst s'<lst x.set→Rd w b l a' r q→Zdy b l p (spn (lst x.set) (lst s')) (prt l a) w):=by
 cases hy:itm l (x.next+1)with
 |inl z=>
  rw[hy]at h;obtain⟨a',h1,h2,h3⟩:=h;rw[ZnP hx hr hy];refine⟨a',z.1,z.2,h1,h3,fun w _ hw=> ?_,fun w _ _ _ hw=>⟨a',h1,h2,hw⟩⟩;rw[if_neg h2,if_neg h2]at hw;exact⟨a',h1,h2,hw⟩
 |inr y=>
  rw[hy]at h;obtain⟨h1,h2,h3⟩:=h;have g:=ZdF hy;rw[ZnQ hx hr hy];refine⟨y.next,0,p,g.2.1,h3,fun w hb hw=> ?_,fun w h4 h5 h6 hw=> ?_⟩
  ·simp only[if_true]at hw;cases e:x.one with
   |none=>rw[Zl9];exact⟨y.next,g.2.1,(by simp),hw⟩
   |some c=>
    cases f:y.one with
    |none=>rw[Zj8];exact⟨y.next,g.2.1,(by simp),hw⟩
    |some d=>
     have e1:=Ze5 hx e;have e2:=Ze5 hy f;rw[e,h2,f,h1,e1,e2,Ze6 c.toNat_lt,Ze6 d.toNat_lt]at hb;simp only[Option.isSome_some,Bool.true_eq_false,false_or,reduceCtorEq]at hb;rw[Zpr (by omega)];exact⟨y.next,g.2.1,(by simp),hw⟩
  ·cases e:x.one with
   |none=>rw[e]at h4;cases h4
   |some c=>
    cases f:y.one with
    |none=>rw[h2,f]at h5;cases h5
    |some d=>
     have e1:=Ze5 hx e;have e2:=Ze5 hy f;rw[h1,e1,e2,Ze6 c.toNat_lt,Ze6 d.toNat_lt]at h6⊢;rw[Zpq (by omega)];exact⟨rfl,hw⟩
theorem Zy{w:World}{b k:Nat}{o:Obj}(hk:w.heap[k]? =some o)(hne:k≠b)(v0 v1 v2 v3:Value):(ZaG w b v0 v1 v2 v3).heap[k]? =some o:=
 Zc (Zc (Zc (Zc hk hne _) hne _) hne _) hne _
theorem setFour_frS{S:Nat→Prop}{w a:World}{b:Nat}(f:Fr S a w)(hb:a.heap.size≤b)(v0 v1 v2 v3:Value):Fr S a (ZaG w b v0 v1 v2 v3):=by
 have h:∀(x:World) (j:Nat) (v:Value),Fr S a x→Fr S a (x.setCell ⟨b,j,none⟩ v):=fun x j v hx=>hx.setCell (p:=⟨b,j,none⟩) (fun h=>absurd h (Nat.not_lt.2 hb)) v;exact h _ _ _ (h _ _ _ (h _ _ _ (h _ _ _ f)))
theorem Zdy.to{b:Nat}{l:List UInt8}{p:Int}{s:S4}{R:(Int×Nat)⊕(S4×Nat)}{w w':World}(h:Zdy b l p s R w)(f:∀x r q,Rd w b l x r q→Rd w' b l x r q):Zdy b l p s R w':=by
 cases R with
 |inr x=>exact⟨h.1,f _ _ _ h.2⟩
 |inl z=>obtain⟨a',h1,h2,h3⟩:=h;exact⟨a',h1,h2,f _ _ _ h3⟩
theorem part_any(b:Nat)(l:List UInt8)(a:Nat)(p:Int)(w:World)(hl:l.length≤100000)(ha:a≤l.length)(hb:Zj3≤b)(hE:Env w)(h:Rd w b l a 0 p):
 Calls Tryz.prog 140 #[.pointer (some ⟨b,0,none⟩)] w (Zqr b l p (prt l a) w):=by
 obtain⟨R,hR⟩:∃R,prt l a=R:=⟨_,rfl⟩;rw[hR];have HR:=hid hR;clear hR;have rr:=Zl h;have h5:=lt_heap h;obtain⟨w0,K⟩:∃w0,w0=w.alloc (.cells #[.int .u64 0,.int .u64 0,.int .u64 0,.int .u64 0] 132):=⟨_,rfl⟩;have f0:Fr nob w w0:=by rw[K];exact(Fr.refl _ _).alloc _
 have f7:=hid (show w0.heap[w.heap.size]? =some (.cells #[.int .u64 0,.int .u64 0,.int .u64 0,.int .u64 0] 132 (0,0)) by rw[K];exact newAt _ _);have e2:=hid f0;have H0:=hid (h.on f0);have b7:=hid (hE.on f0);have e6:=hid K;have h4:(a:Int)≤l.length:=by omega
 clear K h hE f0;go_enter Tryz.func140,Tryz.ntmps140;go_wp2_with fail;rw[←e6.out];refine(item_any b l a p w0 hl ha hb b7.out H0.out).mono ?_;rintro e w1 ⟨s,o,rfl,hs,f1,O⟩;have c8:=lt_heap H0.out;have b2:=f1.heap f7.out (fun e=>by omega);have g6:=lt_heap b2;have g3:b<w1.heap.size:=Nat.lt_of_lt_of_le c8 f1.size;obtain⟨w2,L⟩:∃w2,w2=w1.alloc (.cells #[.int .u64 s.a,.int .u64 s.b,.int .u64 s.c,.int .u64 s.d,.bool o] 241):=⟨_,rfl⟩;have C:Fr nob w1 w2:=by rw[L];exact(Fr.refl _ _).alloc _
 have b3:=C.heap b2 (fun x=>x);have a8:w2.heap[w1.heap.size]? =some (.cells #[.int .u64 s.a,.int .u64 s.b,.int .u64 s.c,.int .u64 s.d,.bool o] 241 (0,0)):=by rw[L];exact newAt _ _
 have h8:=Zd a8;have i4:=Zl b3;have F2:=hid ((e2.out.any.trans f1 (fun i hi e=>e)).trans C (fun i hi e=>e.elim));have e3:=hid ((b7.out.on2 f1 hb).on C);have c3:=hid b3;have c2:=hid a8;have e7:=hid L;have g:=O.to (w':=w2) (fun x r q h=>h.on C);have HS:=hid hs;clear L b2 b3 a8 f1 C O hs rr;obtain⟨E,c4⟩:∃E,(match itm l a with| .inl _=>true| .inr x=> !rng l x.next)=E:=⟨_,rfl⟩;have I:=hid c4;have u:=hid g;clear c4 g
 go_upto_region 3 with(fail)
 rw[←e7.out]
 go_cut [38] (fun v w'=>v=.bool E∧Fr nob w2 w')
 case first=>
  have g:=u.out;cases hi:itm l a with
  |inl z=>
   rw[hi]at g;obtain⟨a',h1,h2,h3⟩:=g;have r4:=Zl h3;have g9:(z.1 !=0)=true:=by simpa using h2
   have HE:=hid (show E=true by rw[←I.out,hi]);clear h3 hi h1;go_wp2_with fail;refine region_fr_all (by kernel_rfl) (by kernel_rfl) ?_
   repeat(go_big_quiet_step (fail))
   refine wpQuiet_nil ?_;intro wC fC;go_wp2;go_meet
   case rel=>exact⟨by rw[HE.out],fC⟩
  |inr x=>
   rw[hi]at g;obtain⟨h1,h2,h3⟩:=g;have hn:=ZdF hi;have h7:(x.next:Int)≤l.length:=by omega
   have h6:(0:Int)≤x.next:=by omega
   have r4:=Zl h3;obtain⟨d1,a2⟩:∃d,[45].isPrefixOf (l.drop x.next)=d:=⟨_,rfl⟩;obtain⟨d2,a3⟩:∃d,[45,93].isPrefixOf (l.drop x.next)=d:=⟨_,rfl⟩;have Y:∀w',Fr nob w2 w'→_:=fun w' f=>Zbr b l [45] x.next 0 p w' (by omega) (by simp) (by omega) (h3.on f);have Z:∀w',Fr nob w2 w'→_:=fun w' f=>Zbr b l [45,93] x.next 0 p w' (by omega) (by simp) (by omega) (h3.on f);have W:=I.out;simp only[hi,ZnM,a2,a3]at W;rw[a2]at Y;rw[a3]at Z;have C1:=hid Y;have C2:=hid Z;have HE:=hid W;clear Y Z a2 a3 h3 hi h1 h2 W;by_cases tn:(l.length:Int)≤(x.next:Int)+1
   all_goals
    cases d1
    all_goals
     cases d2
     all_goals
      go_wp2_with fail;refine region_fr_all (by kernel_rfl) (by kernel_rfl) ?_
      repeat(go_big_quiet_step ((first|(with_reducible exact calls_fr (C1.out _ (grown_fr _ _ _)))|(with_reducible exact calls_fr (C2.out _ (grown_fr _ _ _))))))
      refine wpQuiet_nil ?_;intro wC fC;go_wp2;go_meet
      case rel=>
       have t2:decide (x.next+1<l.length)= !decide ((l.length:Int)≤(x.next:Int)+1):=by rw[←decide_not];exact decide_eq_decide.2 (by omega)
       exact⟨by rw[←HE.out,t2];simp[tn],fC⟩
 case rest=>
  obtain⟨rfl,fC⟩:=hcut;have FC:=hid fC;clear fC;cases E with
  |true=>
   have c5:Zdy b l p s R w2:=by
    have h1:=I.out;have h2:=u.out;rw[←HR.out];cases hi:itm l a with
    |inl z=>rw[hi]at h2;rw[ZnN hi];exact h2
    |inr x=>
     rw[hi]at h1 h2;rw[ZnO hi (by simpa using h1)];exact⟨h2.1,h2.2.2⟩
   have b9:=hid c5;clear c5;have H:=FC.out.heap c3.out (fun x=>x);have i7:=Zl H;have i1:=Zd (FC.out.heap c2.out (fun x=>x));go_wp2;(try simp only[Exit.inBlock,Exit.then]);refine bodyPost_ret (Zs (s:=s) rfl rfl (setFour_heap H _ _ _ _)) rfl ⟨s,rfl,HS.out,setFour_frS (F2.out.trans FC.out (fun i hi e=>e.elim)) (Nat.le_refl _) _ _ _ _,?_⟩;exact b9.out.to fun x r q h=>Zy (h.on FC.out) (by omega) _ _ _ _
  |false=>
   obtain⟨x,hi,t⟩:∃x,itm l a=.inr x∧rng l x.next=true:=by
    have h1:=I.out;cases hi:itm l a with
    |inl z=>rw[hi]at h1;cases h1
    |inr x=>rw[hi]at h1;exact⟨x,rfl,by simpa using h1⟩
   have h2:=u.out;rw[hi]at h2;obtain⟨h1,h2,h3⟩:=h2;have tn:x.next+1<l.length:=by rw[ZnM]at t;simp only[Bool.and_eq_true,decide_eq_true_eq]at t;exact t.1.1
   have hn:=ZdF hi;have r4:=Zl (h3.on FC.out);have H3:=hid h3;have HI:=hid hi;have H1:=hid h1;have H2:=hid h2;have Q:=hid t;clear h3 hi h1 h2 t;obtain⟨w3,M⟩:∃w3,w3=wc.setCell ⟨b,1,none⟩ (.int .i64 ((x.next:Int)+1)):=⟨_,rfl⟩;have c6:Rd w3 b l ((x.next+1:Nat):Int) 0 p:=by
    rw[M,show((x.next+1:Nat):Int)=(x.next:Int)+1 by omega];exact Za (FC.out.heap H3.out (fun x=>x)) 1 _
   have D:Fr (fun k=>k=b) w2 w3:=by rw[M];exact Fr.setCell (S:=fun k=>k=b) (p:=⟨b,1,none⟩) FC.out.any (fun _=>rfl) _
   have e1:=D.heap c3.out (fun e=>by omega);have d8:=D.heap c2.out (fun e=>by omega);have F3:=hid (F2.out.trans D (fun i hi e=>e));have b8:=hid (e3.out.on2 D hb);have e8:=hid M;have e5:=hid c6;have f8:=hid e1;have f2:=hid d8;clear M c6 D e1 d8;go_wp2_with fail;rw[←e8.out];refine(item_any b l (x.next+1) p w3 hl (by omega) hb b8.out e5.out).mono ?_;rintro e w4 ⟨s',o',rfl,a6,f4,F⟩;have b4:=f4.heap f8.out (fun e=>by omega);have a9:=f4.heap f2.out (fun e=>by omega);have g7:=lt_heap b4;have g5:=lt_heap a9;obtain⟨a',r,q,h0,X,n,j⟩:=Zma HI.out Q.out F;have g4:=lt_heap X;obtain⟨w5,N⟩:∃w5,w5=w4.alloc (.cells #[.int .u64 s'.a,.int .u64 s'.b,.int .u64 s'.c,.int .u64 s'.d,.bool o'] 241):=⟨_,rfl⟩;have A:Fr nob w4 w5:=by rw[N];exact(Fr.refl _ _).alloc _
   have b5:=A.heap b4 (fun x=>x);have b0:=A.heap a9 (fun x=>x);have b1:w5.heap[w4.heap.size]? =some (.cells #[.int .u64 s'.a,.int .u64 s'.b,.int .u64 s'.c,.int .u64 s'.d,.bool o'] 241 (0,0)):=by rw[N];exact newAt _ _
   have c7:=X.on A;have d7:s=x.set:=H1.out;have d5:o=x.one.isSome:=H2.out;rw[HR.out,←d7]at n j;rw[←d5]at n j;have d3:=Zne s;have d4:=Zne s';obtain⟨m1,a4⟩:∃m,lst s=m:=⟨_,rfl⟩;obtain⟨m2,a5⟩:∃m,lst s'=m:=⟨_,rfl⟩;have J:Env w5:=((b8.out.on2 f4 hb).on A);have a0:∀w',Fr nob w5 w'→_:=fun w' f=>ZbK s o w' HS.out (J.on f).1;have a1:∀w',Fr nob w5 w'→_:=fun w' f=>ZbK s' o' w' a6 (J.on f).1;have U:=fun w' (h:Env w')=>ZbK s o w' HS.out h.1;have V:=fun w' (h:Env w')=>ZbK s' o' w' a6 h.1;rw[a4]at U;rw[a5]at V;have LX:=hid U;have LY:=hid V;clear U V;rw[a4]at d3 a0 n j;rw[a5]at d4 a1 n j;have G:=Zb4 m1 m2;have a7:=fun w=>Ze7 m1 m2 w d3 d4;obtain⟨S,hS⟩:∃S,spn m1 m2=S:=⟨_,rfl⟩;rw[hS]at n j G a7;have i2:=Zd b1;have h9:=Zd b0;have i5:=Zl b5;have F5:=hid ((F3.out.trans f4 (fun i hi e=>e)).trans A (fun i hi e=>e.elim))
   have f9:=hid b5;have f3:=hid b0;have f5:=hid b1;have c0:=hid c7;have e9:=hid N;have C3:=hid a0;have C4:=hid a1;have CS:=hid a7;have HB:=hid n;have HG:=hid j;have HF:=hid G;have c1:=hid J;clear b4 a9 X n j N A b5 b0 b1 c7 a0 a1 a7 hS G f4 F a6 J d7 d5 a4 a5;obtain⟨B,hB⟩:∃B,(!o|| !o'||decide ((m2:Int)<m1))=B:=⟨_,rfl⟩;have P:=hid hB;clear hB
   go_upto_region 7 with(fail)
   rw[←e9.out]
   go_cut [64] (fun v w'=>v=.bool B∧Fr nob w5 w')
   case first=>
    by_cases g2:(m2:Int)<m1
    all_goals
     cases o
     all_goals
      cases o'
      all_goals
       go_wp2_with fail;refine region_fr_all (by kernel_rfl) (by kernel_rfl) ?_
       repeat(go_big_quiet_step ((first|(with_reducible exact calls_fr (C3.out _ (grown_fr _ _ _)))|(with_reducible exact calls_fr (C4.out _ (grown_fr _ _ _))))))
       refine wpQuiet_nil ?_;intro wE fE;go_wp2;go_meet
       case rel=>exact⟨by rw[←P.out];simp[g2],fE⟩
   case rest=>
    obtain⟨rfl,fE⟩:=hcut;have FE:=hid fE;clear fE;go_upto_if 64 with(fail)
    go_cut [] (fun w'=>Zdy b l p S R w'∧Fr (fun k=>k=b) w5 w')
    case first=>
     cases B
     ·go_wp2;go_meet
      case rel=>
       have h:=P.out;simp only[Bool.or_eq_false_iff,Bool.not_eq_false',decide_eq_false_iff_not]at h;exact⟨HG.out _ h.1.1 h.1.2 (by omega) (c0.out.on FE.out),FE.out.any⟩
     ·go_wp2_with fail;refine(fail_any b l a' r q 1 a _ (c0.out.on FE.out)).mono ?_;rintro e w6 ⟨rfl,g1,f6⟩;go_wp2;go_meet
      case rel=>
       have h:=P.out;simp only[Bool.or_eq_true,Bool.not_eq_true',decide_eq_true_eq,or_assoc]at h;exact⟨HB.out _ (by rcases h with h|h|h;exact .inl h;exact .inr (.inl h);exact .inr (.inr (by omega))) g1,FE.out.any.trans f6 (fun i hi e=>e)⟩
    case rest=>
     obtain⟨d6,y⟩:=hcut;have b6:=y.heap f9.out (fun e=>by omega);have d9:=y.heap f3.out (fun e=>by omega);have e0:=y.heap f5.out (fun e=>by omega);have i6:=Zl b6;have i0:=Zd d9;have i3:=Zd e0;have c9:∀w',Fr nob _ w'→_:=fun w' f=>LX.out w' ((c1.out.on2 y hb).on f);have d0:∀w',Fr nob _ w'→_:=fun w' f=>LY.out w' ((c1.out.on2 y hb).on f);have C5:=hid c9;have C6:=hid d0;have F6:=hid (F5.out.trans y (fun i hi e=>e));have e4:=hid d6;have g0:=hid b6;clear c9 d0 b6 d9 e0 y d6;go_wp2_with fail;refine region_fr 5 (by kernel_rfl) (by kernel_rfl) ?_;simp only[List.take_succ_cons,List.take_zero,List.drop_succ_cons,List.drop_zero]
     repeat(go_big_quiet_step ((first|(with_reducible exact calls_fr (C5.out _ (grown_fr _ _ _)))|(with_reducible exact calls_fr (C6.out _ (grown_fr _ _ _)))|(with_reducible exact calls_fr (CS.out _)))))
     refine wpQuiet_nil ?_;intro wC fC;go_wp2;(try simp only[Exit.inBlock,Exit.then]);have H:=fC.heap g0.out (fun x=>x);have g8:=lt_heap H;refine bodyPost_ret (Zs (s:=S) rfl rfl (setFour_heap H _ _ _ _)) rfl ⟨S,rfl,HF.out,setFour_frS (F6.out.trans fC (fun i hi e=>e.elim)) (Nat.le_refl _) _ _ _ _,?_⟩;exact e4.out.to fun x r q h=>Zy (h.on fC) (by omega) _ _ _ _
theorem Env.big{w:World}(h:Env w):Zj3≤w.heap.size+1:=by
 obtain⟨m,hm⟩:=h.2;have h1:=World.block_lt_of_cell? w _ hm;have h2:=h.1.lt;simp only at h1;unfold Zj3;omega
def Zp8:(Int×Nat)⊕(S4×Nat)→Value
 | .inl z=>.tuple #[ZcR S4.zero,.int .i64 z.2,.int .i64 z.1]
 | .inr x=>.tuple #[ZcR x.1,.int .i64 x.2,.int .i64 0]
theorem Zx{fn:Func}{p q r:Tmp}(h:fn.results= #[.cell p 132,.tmp q,.tmp r]){tmps:Array Value}{b:Nat}(ht:tmps.getD p undef=.pointer (some ⟨b,0,none⟩)){u v:Value}(hq:tmps.getD q undef=u)(hr:tmps.getD r undef=v){W:World}{s:S4}
 (hb:W.heap[b]? =some (.cells #[.int .u64 s.a,.int .u64 s.b,.int .u64 s.c,.int .u64 s.d] 132 (0,0))):(results fn tmps).run Tryz.prog W=.ok (.tuple #[ZcR s,u,v]) W:=by
 have c0:=cell_at (j:=0) (v:=.int .u64 s.a) hb rfl;have c1:=cell_at (j:=1) (v:=.int .u64 s.b) hb rfl;have c2:=cell_at (j:=2) (v:=.int .u64 s.c) hb rfl;have c3:=cell_at (j:=3) (v:=.int .u64 s.d) hb rfl;have g:tmps[p]?.getD undef=.pointer (some ⟨b,0,none⟩):=by rw[←ht];simp
 have e:tmps[q]?.getD undef=u:=by rw[←hq];simp
 have f:tmps[r]?.getD undef=v:=by rw[←hr];simp
 simp only[results,h];simp[g,e,f,go_sem,c0,c1,c2,c3]
abbrev Q4(w:World)(b:Nat)(s:S4):Prop:=w.cell? ⟨b,0,none⟩=some (.int .u64 s.a)∧w.cell? ⟨b,1,none⟩=some (.int .u64 s.b)∧w.cell? ⟨b,2,none⟩=some (.int .u64 s.c)∧w.cell? ⟨b,3,none⟩=some (.int .u64 s.d)
abbrev At4(w:World)(b:Nat)(s:S4):Prop:=w.heap[b]? =some (.cells #[.int .u64 s.a,.int .u64 s.b,.int .u64 s.c,.int .u64 s.d] 132 (0,0))
theorem Q4.of{w:World}{b:Nat}{s:S4}(h:At4 w b s):Q4 w b s:=⟨cell_at h rfl,cell_at h rfl,cell_at h rfl,cell_at h rfl⟩
theorem ZfK(s t:S4)(w:World):Calls Tryz.prog 141 #[ZcR s,ZcR t] w fun e w'=>e=.returned (ZcR (s.or t))∧Fr nob w w':=Zpf s t w
theorem not_lit(s:S4)(w:World):Calls Tryz.prog 142 #[ZcR s] w fun e w'=>e=.returned (ZcR s.not)∧Fr nob w w':=ZnD s w
def ZjH(l:List UInt8)(n:Nat):(Int×Nat)⊕(S4×Nat)→(Int×Nat)⊕(S4×Nat)
 | .inl z=>.inl z
 | .inr x=>lop l n x.2 x.1
def ZoR(l:List UInt8)(n:Nat)(R:(Int×Nat)⊕(S4×Nat)):Prop:=∀x,R=.inr x→x.2≤l.length∧l.length<n+x.2
def orF(s:S4):(Int×Nat)⊕(S4×Nat)→(Int×Nat)⊕(S4×Nat)
 | .inl z=>.inl z
 | .inr x=>.inr (s.or x.1,x.2)
theorem Znf{l:List UInt8}{n a:Nat}{s:S4}(h:l[a]?≠some 93):lop l (n+1) a s=ZjH l n (orF s (prt l a)):=by
 rw[lop,if_neg h];cases prt l a<;>rfl
theorem Zj9{l:List UInt8}{n a:Nat}{s:S4}(h:l[a]? =some 93):lop l (n+1) a s=.inr (s,a):=by rw[lop,if_pos h]
theorem Zka{l:List UInt8}{n a:Nat}{s:S4}(hn:l.length<n+1+a):ZoR l n (orF s (prt l a)):=by
 intro x hx;cases hp:prt l a with
 |inl z=>rw[hp]at hx;cases hx
 |inr y=>
  rw[hp]at hx;injection hx with hx;subst hx;have:=prt_next hp;exact⟨this.2.1,by simp only;omega⟩
theorem Zdy.or{b:Nat}{l:List UInt8}{p:Int}{s t:S4}{R:(Int×Nat)⊕(S4×Nat)}{w:World}(h:Zdy b l p s R w):Zdy b l p (t.or s) (orF t R) w:=by
 cases R with
 |inr x=>exact⟨by rw[h.1],h.2⟩
 |inl z=>exact h
def Zex(d:Bool):(Int×Nat)⊕(S4×Nat)→(Int×Nat)⊕(S4×Nat)
 | .inl z=>.inl z
 | .inr y=>.inr (if d then y.1.not else y.1,y.2+1)
theorem ZnR{l:List UInt8}{a:Nat}(h:[94].isPrefixOf (l.drop a)=true):prs l a=Zex true (ZjH l (l.length+1) (prt l (a+1))):=by
 have h:=ZlH.1 h;unfold prs Zex ZjH;simp only[h,if_true];cases prt l (a+1)with
 |inl z=>rfl
 |inr x=>simp only;cases lop l (l.length+1) x.2 x.1<;>rfl
theorem Zps{l:List UInt8}{a:Nat}(h:[94].isPrefixOf (l.drop a)=false):prs l a=Zex false (ZjH l (l.length+1) (prt l a)):=by
 have h:¬l[a]? =some 94:=fun e=>by rw[ZlH.2 e]at h;cases h
 unfold prs Zex ZjH;simp only[if_neg h];cases prt l a with
 |inl z=>rfl
 |inr x=>simp only;cases lop l (l.length+1) x.2 x.1<;>rfl
theorem ZS(w:World)(b:Nat)(v0 v1 v2 v3:Value):Fr (fun k=>k=b) w (ZaG w b v0 v1 v2 v3):=
 have h:∀(x:World) (j:Nat) (v:Value),Fr (fun k=>k=b) w x→Fr (fun k=>k=b) w (x.setCell ⟨b,j,none⟩ v):=fun x j v hx=>hx.setCell (p:=⟨b,j,none⟩) (fun _=>rfl) v
 h _ _ _ (h _ _ _ (h _ _ _ (h _ _ _ (Fr.refl _ _))))
theorem Zzu{l:List UInt8}{a:Nat}(ha:a<l.length)(h:¬l[a]=91):itm l a=.inr ⟨spn (l[a]).toNat (l[a]).toNat,some l[a],a+1⟩:=by
 unfold itm;rw[List.getElem?_eq_getElem ha];simp only;split
 ·rfl
 ·rw[if_neg (fun e=>h e.1)]
theorem ZzN{l:List UInt8}{a:Nat}(ha:a<l.length)(h:l.length≤a+1):itm l a=.inr ⟨spn (l[a]).toNat (l[a]).toNat,some l[a],a+1⟩:=by
 unfold itm;rw[List.getElem?_eq_getElem ha];simp only;rw[List.getElem?_eq_none h]
theorem Zzc{l:List UInt8}{a:Nat}(ha:a+1<l.length)(h:ZjX l[a+1]=false):itm l a=.inr ⟨spn (l[a]).toNat (l[a]).toNat,some l[a],a+1⟩:=by
 unfold itm;rw[List.getElem?_eq_getElem (by omega:a<l.length)];simp only;rw[List.getElem?_eq_getElem ha];simp only;rw[if_neg (fun e=>by rw[h]at e;exact absurd e.2 (by simp))]
theorem Zyz{l:List UInt8}{a:Nat}{k:UInt8}(ha:a+1<l.length)(h:l[a]=91)(hk:l[a+1]=k)(h2:ZjX k=true):itm l a=itmN l a k:=by
 unfold itm;rw[List.getElem?_eq_getElem (by omega:a<l.length)];simp only;rw[List.getElem?_eq_getElem ha];simp only;rw[hk,if_pos ⟨h,h2⟩]
def ZAy(a e:Nat):Option (Int→Bool)→(Int×Nat)⊕It
 |none=>.inl (6,a)
 |some p=>.inr ⟨pk p 256,none,e+2⟩
abbrev RQ(w:World)(b:Nat)(v2 v3:Value):Prop:=w.cell? ⟨b,2,none⟩=some v2∧w.cell? ⟨b,3,none⟩=some v3
theorem Zm{w:World}{b c i j:Nat}{v u:Value}(h:w.cell? ⟨b,i,none⟩=some v)(hn:c≠b):(w.setCell ⟨c,j,none⟩ u).cell? ⟨b,i,none⟩=some v:=by
 have hb:(w.setCell ⟨c,j,none⟩ u).heap[b]? =w.heap[b]? :=by
  cases hx:w.heap[b]? with
  |none=>
   have:w.heap.size≤b:=Array.getElem?_eq_none_iff.1 hx;exact Array.getElem?_eq_none_iff.2 (by simpa using this)
  |some x=>exact Zc hx (Ne.symm hn) _
 unfold World.cell? at h⊢;simp only[hb];exact h
theorem RQ.drew{w:World}{b:Nat}{v2 v3:Value}(h:RQ w b v2 v3):RQ w.drew b v2 v3:=h
theorem RQ.set{w:World}{b c j:Nat}{v2 v3:Value}(h:RQ w b v2 v3)(hn:c≠b)(u:Value):RQ (w.setCell ⟨c,j,none⟩ u) b v2 v3:=⟨Zm h.1 hn,Zm h.2 hn⟩
abbrev RA(w:World)(b:Nat)(v1:Value)(r9:Nat)(s:S4):Prop:=w.cell? ⟨b,1,none⟩=some v1∧Q4 w r9 s
theorem RA.drew{w:World}{b r9:Nat}{v1:Value}{s:S4}(h:RA w b v1 r9 s):RA w.drew b v1 r9 s:=h
theorem RA.set{w:World}{b c j r9:Nat}{v1:Value}{s:S4}(h:RA w b v1 r9 s)(hn:c≠b)(hn9:c≠r9)(u:Value):RA (w.setCell ⟨c,j,none⟩ u) b v1 r9 s:=
 ⟨Zm h.1 hn,Zm h.2.1 hn9,Zm h.2.2.1 hn9,Zm h.2.2.2.1 hn9,Zm h.2.2.2.2 hn9⟩
structure Alg(α:Type) where
 one:S4→α
 rep:α→Int→Int→α
 group:Int→α→α
 back:Int→α
 start:α
 fin:α
 join:List α→α
 choose:List α→α
structure RxS where
 at_:Nat
 opened:Nat
 closed:List Nat
 marks:List (Nat×List UInt8)
abbrev Out(α:Type):=(Int×Nat)⊕(α×RxS)
def ahd(l:List UInt8)(k:Nat)(t:List UInt8):Bool:=t.isPrefixOf (l.drop k)
def RxS.go(s:RxS)(n:Nat):RxS:={s with at_:=s.at_+n}
def RxS.to(s:RxS)(n:Nat):RxS:={s with at_:=n}
def RxS.mark(s:RxS)(t:List UInt8):RxS:={s with marks:=s.marks++[(s.at_,t)]}
def ZaQ:List UInt8→Nat→Nat→Nat×Nat
 |[],c,n=>(n,c)
 |x::r,c,n=>if 48≤x.toNat∧x.toNat≤57∧c≠3 then ZaQ r (c+1) (n*10+(x.toNat-48))else(n,c)
def Zfw(l:List UInt8)(k:Nat):Option (Int×Int×Nat):=
 let m:=ZaQ (l.drop k) 0 0
 if m.2=0 then none
 else
  let k1:=k+m.2
  let x:=ZaQ (l.drop (k1+1)) 0 0
  let mx:Int:=if ahd l k1 [44]then(if x.2=0 then -1 else x.1)else m.1
  let k2:=if ahd l k1 [44]then k1+1+x.2 else k1
  if ahd l k2 [92,125]=false∨255<m.1∨255<mx∨(0≤mx∧mx<m.1)then none else some (m.1,mx,k2+2)
section
variable {α:Type} (A:Alg α) (l:List UInt8)
def ZbW:Nat→RxS→α→Out α
 |0,s,t=>.inr (t,s)
 |n+1,s,t=>
  if ahd l s.at_ [92,43]then ZbW n ((s.mark [92,43]).go 2) (A.rep t 1 (-1))
  else if ahd l s.at_ [92,63]then ZbW n ((s.mark [92,63]).go 2) (A.rep t 0 1)
  else if ahd l s.at_ [92,123]then
   match Zfw l (s.at_+2)with
   |none=>.inl (7,s.at_)
   |some (m,x,k)=>ZbW n (s.to k) (A.rep t m x)
  else if ahd l s.at_ [42]then ZbW n (s.go 1) (A.rep t 0 (-1))
  else .inr (t,s)
def Zdz:S4:=(ZaD (Zak ⟨#[97,108,110,117,109]⟩)).or (spn 95 95)
def spaceS:S4:=ZaD (Zak ⟨#[115,112,97,99,101]⟩)
def Za0:S4:=ZaD (Zak ⟨#[112,117,110,99,116]⟩)
def ZjI(b:UInt8):Option (S4×Bool):=
 if b=110 then some (spn 10 10,false)
 else if b=116 then some (spn 9 9,true)
 else if b=119 then some (Zdz,true)
 else if b=87 then some (Zdz.not,true)
 else if b=115 then some (spaceS,true)
 else if b=83 then some (spaceS.not,true)
 else if Za0.has b.toNat then some (spn b.toNat b.toNat,false)
 else none
def Zbs(C:Option (RxS→Out α))(begin:Nat)(s:RxS):Out α:=
 match C with
 |none=>.inl (4,begin)
 |some f=>
  match f {s with opened:=s.opened+1}with
  | .inl e=>.inl e
  | .inr (t,s')=>
    if ahd l s'.at_ [92,41]then .inr (A.group ((s.opened+1:Nat):Int) t,{s'.go 2 with closed:=s'.closed++[s.opened+1]})
    else .inl (8,begin)
def ZlI(C:Option (RxS→Out α))(s:RxS):Out α:=
 match l[s.at_+1]? with
 |none=>.inl (11,s.at_)
 |some b=>
  if ahd l s.at_ [92,40]then Zbs A l C s.at_ (s.go 2)
  else if ahd l s.at_ [92,41]then .inl (8,s.at_)
  else if 49≤b.toNat∧b.toNat≤57 then
   (if s.closed.contains (b.toNat-48)then .inr (A.back ((b.toNat-48:Nat):Int),s.go 2)else .inl (9,s.at_))
  else
   match ZjI b with
   |none=>.inl (2,s.at_)
   |some (c,m)=>.inr (A.one c,(if m then s.mark [92,b]else s).go 2)
def Zb0(C:Option (RxS→Out α))(s:RxS)(b:UInt8):Out α:=
 if b=92 then ZlI A l C s
 else if b=91 then
  match prs l (s.at_+1)with
  | .inl (e,p)=>.inl (e,p)
  | .inr (c,k)=>.inr (A.one c,s.to k)
 else if b=46 then .inr (A.one (spn 0 255),s.go 1)
 else .inr (A.one (spn b.toNat b.toNat),s.go 1)
def ZbL(k:Nat):Bool:=(l.drop (k+1)).isEmpty||ahd l (k+1) [92,41]||ahd l (k+1) [92,124]
def brS(C:Option (RxS→Out α))(inner:Bool):Nat→Bool→RxS→List α→Out α
 |0,_,s,ps=>.inr (A.join ps,s)
 |n+1,front,s,ps=>
  match l[s.at_]? with
  |none=>.inr (A.join ps,s)
  |some b=>
   if ahd l s.at_ [92,124]||(inner&&ahd l s.at_ [92,41])then .inr (A.join ps,s)
   else if front&&(ahd l s.at_ [92,123]||(ahd l s.at_ [92,43]||ahd l s.at_ [92,63]))then .inl (10,s.at_)
   else if ahd l s.at_ [36]&&ZbL l s.at_ then brS C inner n false (s.go 1) (ps++[A.fin])
   else
    match Zb0 A l C s b with
    | .inl e=>.inl e
    | .inr (t,s1)=>
      match ZbW A l (l.length+1) s1 t with
      | .inl e=>.inl e
      | .inr (t,s2)=>brS C inner n false s2 (ps++[t])
def branchS(C:Option (RxS→Out α))(inner:Bool)(s:RxS):Out α:=
 if ahd l s.at_ [94]then brS A l C inner (l.length+1) true (s.go 1) [A.start]else brS A l C inner (l.length+1) true s []
def Za1(C:Option (RxS→Out α))(inner:Bool):Nat→RxS→List α→Out α
 |0,s,ts=>.inr (A.choose ts,s)
 |n+1,s,ts=>
  if ahd l s.at_ [92,124]then
   match branchS A l C inner ((s.mark [92,124]).go 2)with
   | .inl e=>.inl e
   | .inr (t,s')=>Za1 C inner n s' (ts++[t])
  else .inr (A.choose ts,s)
def choiceS(C:Option (RxS→Out α))(inner:Bool)(s:RxS):Out α:=
 match branchS A l C inner s with
 | .inl e=>.inl e
 | .inr (t,s')=>Za1 A l C inner (l.length+1) s' [t]
def chS:Nat→RxS→Out α
 |0=>choiceS A l none true
 |n+1=>choiceS A l (some (chS n)) (decide (n+1<12))
def Zey:Out α:=if 250<l.length then .inl (3,250)else chS A l 12 ⟨0,0,[],[]⟩
end
def sgn(l:List UInt8)(k:Nat):List UInt8:=match l[k]? with
 |none=>[]
 |some b=>if b=92 then(match l[k+1]? with|none=>[92]|some c=>[92,c])else[b]
def opB(ere:Bool)(b:UInt8):List UInt8:=if ere then[b]else[92,b]
def Zp9(l:List UInt8)(k:Nat):Nat×Nat:=if 255<(ZaQ (l.drop k) 0 0).1 then(0,0)else ZaQ (l.drop k) 0 0
def ZlJ(l:List UInt8)(ere:Bool)(k:Nat):Option (Int×Int×Nat):=
 let m:=Zp9 l k
 if m.2=0 then none
 else
  let k1:=k+m.2
  let x:=Zp9 l (k1+1)
  let n:Int:=if ahd l k1 [44]then(if 0<x.2 then(x.1:Int)else -1)else m.1
  let k2:=if ahd l k1 [44]then k1+1+(if 0<x.2 then x.2 else 0)else k1
  if ahd l k2 (opB ere 125)=false∨(0≤n∧n<m.1)then none else some ((m.1:Int),n,k2+(opB ere 125).length)
theorem Zkf{l:List UInt8}{k:Nat}(h:l.length≤k):sgn l k=[]:=by unfold sgn;rw[List.getElem?_eq_none h]
theorem Zzy{l:List UInt8}{k:Nat}(h:k+1<l.length)(hb:l[k]=92):sgn l k=[92,l[k+1]]:=by
 unfold sgn;rw[List.getElem?_eq_getElem (by omega:k<l.length)];simp only;rw[hb,if_pos rfl,List.getElem?_eq_getElem h]
theorem Zy3{l:List UInt8}{k:Nat}(h:k<l.length)(h2:l.length≤k+1):sgn l k=[l[k]]:=by
 unfold sgn;rw[List.getElem?_eq_getElem h];simp only;rw[List.getElem?_eq_none h2];split
 ·next hb=>rw[hb]
 ·rfl
theorem Zzz{l:List UInt8}{k:Nat}(h:k<l.length)(hb:l[k]≠92):sgn l k=[l[k]]:=by
 unfold sgn;rw[List.getElem?_eq_getElem h];simp only;rw[if_neg hb]
theorem Zkg(l:List UInt8)(k:Nat):(sgn l k).length≤2∧k+(sgn l k).length≤max k l.length:=by
 unfold sgn;cases hk:l[k]? with
 |none=>simp;omega
 |some b=>
  have:=(List.getElem?_eq_some_iff.1 hk).1;simp only;split
  ·cases a:l[k+1]? with
   |none=>simp;omega
   |some c=>have:=(List.getElem?_eq_some_iff.1 a).1;simp;omega
  ·simp;omega
section
variable {α:Type} (A:Alg α) (ere:Bool) (l:List UInt8)
def Ze8:Nat→RxS→α→Out α
 |0,s,t=>.inr (t,s)
 |n+1,s,t=>
  if sgn l s.at_==[42]then Ze8 n (s.go 1) (A.rep t 0 (-1))
  else if sgn l s.at_==opB ere 43 then Ze8 n ((if ere then s else s.mark [92,43]).go (opB ere 43).length) (A.rep t 1 (-1))
  else if sgn l s.at_==opB ere 63 then Ze8 n ((if ere then s else s.mark [92,63]).go (opB ere 63).length) (A.rep t 0 1)
  else if sgn l s.at_==opB ere 123 then
   match ZlJ l ere (s.at_+(opB ere 123).length)with
   |none=>.inl (7,s.at_)
   |some (m,x,k)=>Ze8 n (s.to k) (A.rep t m x)
  else .inr (t,s)
def escD(s:RxS)(b:UInt8):Out α:=
 if 49≤b.toNat∧b.toNat≤57 then
  (if s.closed.contains (b.toNat-48)then .inr (A.back ((b.toNat-48:Nat):Int),(if ere then s.mark [92,b]else s).go 2)else .inl (9,s.at_))
 else
  match ZjI b with
  |none=>.inl (2,s.at_)
  |some (c,m)=>.inr (A.one c,(if m then s.mark [92,b]else s).go 2)
def Zct(C:Option (RxS→Out α))(s:RxS):Out α:=
 match C with
 |none=>.inl (4,s.at_)
 |some f=>
  match f {s.go (opB ere 40).length with opened:=s.opened+1}with
  | .inl e=>.inl e
  | .inr (t,s')=>
    if sgn l s'.at_==opB ere 41 then .inr (A.group ((s.opened+1:Nat):Int) t,{s'.go (opB ere 40).length with closed:=s'.closed++[s.opened+1]})
    else .inl (8,s.at_)
def ZcS(C:Option (RxS→Out α))(s:RxS):Out α:=
 if sgn l s.at_==opB ere 40 then Zct A ere l C s
 else if sgn l s.at_==opB ere 41 then .inl (8,s.at_)
 else if sgn l s.at_==[91]then
  match prs l (s.at_+1)with
  | .inl (e,p)=>.inl (e,p)
  | .inr (c,k)=>.inr (A.one c,s.to k)
 else if sgn l s.at_==[46]then .inr (A.one (spn 0 255),s.go 1)
 else if sgn l s.at_==[92]then .inl (11,s.at_)
 else
  match sgn l s.at_ with
  |[]=>.inl (2,s.at_)
  |[b]=>.inr (A.one (spn b.toNat b.toNat),s.go 1)
  |_::b::_=>escD A ere s b
def ZnT(inner:Bool)(k:Nat):Bool:=sgn l k==[]||(sgn l k==opB ere 124||(sgn l k==opB ere 41&&(inner|| !ere)))
def brD(C:Option (RxS→Out α))(inner:Bool):Nat→Bool→Bool→RxS→List α→Out α
 |0,_,_,s,ps=>.inr (A.join ps,s)
 |n+1,first,front,s,ps=>
  if sgn l s.at_==[]||(sgn l s.at_==opB ere 124||(sgn l s.at_==opB ere 41&&inner))then .inr (A.join ps,s)
  else if sgn l s.at_==[94]&&(ere||first)then brD C inner n false true (s.go 1) (ps++[A.start])
  else if sgn l s.at_==[36]&&(ere||ZnT ere l inner (s.at_+1))then brD C inner n false true (s.go 1) (ps++[A.fin])
  else if front&&(sgn l s.at_==opB ere 123||(sgn l s.at_==opB ere 43||(sgn l s.at_==opB ere 63||(ere&&sgn l s.at_==[42]))))then .inl (10,s.at_)
  else
   match ZcS A ere l C s with
   | .inl e=>.inl e
   | .inr (t,s1)=>
     match Ze8 A ere l (l.length+1) s1 t with
     | .inl e=>.inl e
     | .inr (t,s2)=>brD C inner n false false s2 (ps++[t])
def Zb7(C:Option (RxS→Out α))(inner:Bool)(s:RxS):Out α:=brD A ere l C inner (if sgn l s.at_==[94]then l.length+2 else l.length+1) true true s []
def Zar(C:Option (RxS→Out α))(inner:Bool):Nat→RxS→List α→Out α
 |0,s,ts=>.inr (A.choose ts,s)
 |n+1,s,ts=>
  if sgn l s.at_==opB ere 124 then
   match Zb7 A ere l C inner ((if ere then s else s.mark [92,124]).go (opB ere 124).length)with
   | .inl e=>.inl e
   | .inr (t,s')=>Zar C inner n s' (ts++[t])
  else .inr (A.choose ts,s)
def choiceD(C:Option (RxS→Out α))(inner:Bool)(s:RxS):Out α:=
 match Zb7 A ere l C inner s with
 | .inl e=>.inl e
 | .inr (t,s')=>Zar A ere l C inner (l.length+1) s' [t]
def chD:Nat→RxS→Out α
 |0=>choiceD A ere l none true
 |n+1=>choiceD A ere l (some (chD n)) (decide (n+1<12))
def Zac:Out α:=if 250<l.length then .inl (3,250)else chD A ere l 12 ⟨0,0,[],[]⟩
end
theorem ZcT{l:List UInt8}{k:Nat}{c:UInt8}(hc:c≠92):(sgn l k==[c])=ahd l k [c]:=by
 unfold sgn ahd;cases h:l[k]? with
 |none=>rw[List.drop_eq_nil_of_le (by simpa using h)];rfl
 |some b=>
  obtain⟨hk,hb⟩:=List.getElem?_eq_some_iff.1 h;rw[List.drop_eq_getElem_cons hk,hb];by_cases f:b=92
  ·subst f;have e:([c].isPrefixOf (92::l.drop (k+1)))=false:=by simp[List.isPrefixOf,hc]
   rw[e];simp only[if_true];cases l[k+1]? with
   |none=>simp[Ne.symm hc]
   |some d=>simp
  ·simp only[if_neg f];simp[List.isPrefixOf,BEq.comm (a:=c)]
theorem Zbt{l:List UInt8}{k:Nat}{c:UInt8}:(sgn l k==[92,c])=ahd l k [92,c]:=by
 unfold sgn ahd;cases h:l[k]? with
 |none=>rw[List.drop_eq_nil_of_le (by simpa using h)];rfl
 |some b=>
  obtain⟨hk,hb⟩:=List.getElem?_eq_some_iff.1 h;rw[List.drop_eq_getElem_cons hk,hb];by_cases e:b=92
  ·subst e;simp only[if_true];cases h2:l[k+1]? with
   |none=>rw[List.drop_eq_nil_of_le (by simpa using h2)];simp[List.isPrefixOf]
   |some d=>
    obtain⟨f,hd⟩:=List.getElem?_eq_some_iff.1 h2;rw[List.drop_eq_getElem_cons f,hd];simp[List.isPrefixOf,BEq.comm (a:=c)]
  ·simp only[if_neg e];simp[List.isPrefixOf,Ne.symm e]
theorem Ze9{l:List UInt8}{k:Nat}:(sgn l k==[])=decide (l.length≤k):=by
 by_cases h:l.length≤k
 ·rw[Zkf h];simp[h]
 ·have hk:k<l.length:=by omega
  unfold sgn;rw[List.getElem?_eq_getElem hk];simp only[h,decide_false];split
  ·cases l[k+1]? <;>rfl
  ·rfl
section
variable {α:Type} {A:Alg α} {l:List UInt8}
theorem ZbM(b:UInt8):opB false b=[92,b]:=rfl
theorem Zcz(b:UInt8):opB true b=[b]:=rfl
theorem Zfa{r:List UInt8}{x d:Nat}(h:ZaQ r 0 0=(x,d))(hx:0<x):∃b t,r=b::t∧48≤b.toNat∧b.toNat≤57:=by
 cases r with
 |nil=>rw[ZaQ]at h;injection h with h1 h2;omega
 |cons b t=>
  rw[ZaQ]at h;split at h
  ·next hb=>exact⟨b,t,rfl,hb.1,hb.2.1⟩
  ·injection h with h1 h2;omega
theorem num3_ge:∀(r:List UInt8) (c n:Nat),c≤(ZaQ r c n).2
 |[],c,n=>Nat.le_refl _
 |b::r,c,n=>by
  rw[ZaQ];split
  ·exact Nat.le_trans (Nat.le_succ c) (num3_ge r (c+1) _)
  ·exact Nat.le_refl _
theorem ZnU(k:Nat):ZlJ l false k=Zfw l k:=by
 unfold ZlJ Zfw Zp9;simp only[ZbM];obtain⟨m,c,hm⟩:∃m c,ZaQ (l.drop k) 0 0=(m,c):=⟨_,_,rfl⟩;rw[hm];by_cases a:255<m
 ·simp only[if_pos a,if_true];by_cases hc:c=0
  ·simp[hc]
  ·simp[hc,a]
 ·simp only[if_neg a];by_cases hc:c=0
  ·simp[hc]
  ·simp only[hc,if_false];cases ha:ahd l (k+c) [44]with
   |false=>
    simp only[Bool.false_eq_true,if_false];have e1:¬((0:Int)≤(m:Int)∧(m:Int)<(m:Int)):=by omega
    have e2:¬(255:Int)<(m:Int):=by omega
    simp[e1,e2,a]
   |true=>
    simp only[if_true];obtain⟨x,d,hx⟩:∃x d,ZaQ (l.drop (k+c+1)) 0 0=(x,d):=⟨_,_,rfl⟩;rw[hx];have e0:¬(255:Int)<(m:Int):=by omega
    by_cases h2:255<x
    ·obtain⟨b,t,ht,f,e⟩:=Zfa hx (by omega);have hn:ahd l (k+c+1) [92,125]=false:=by
      unfold ahd;rw[ht];simp only[List.isPrefixOf,Bool.and_eq_false_iff];exact .inl (by simp only[beq_eq_false_iff_ne,ne_eq];rintro rfl;simp at e)
     have hd:d≠0:=by
      intro h0;subst h0;rw[ht,ZaQ,if_pos ⟨f,e,by decide⟩]at hx;have:=num3_ge t 1 (0*10+(b.toNat-48));rw[hx]at this;simp at this
     have e1:(255:Int)<(x:Int):=by omega
     simp[h2,hn,hd,e1]
    ·simp only[if_neg h2];by_cases hd:d=0
     ·subst hd;simp[a]
     ·have g:0<d:=by omega
      have e1:¬(255:Int)<(x:Int):=by omega
      simp[hd,g,a,h2,e0,e1]
theorem Zg8{k:Nat}{c d:UInt8}(h:ahd l k [92,c]=true)(hd:d≠92):ahd l k [d]=false:=by
 rw[←ZcT hd];rw[←Zbt]at h;rw[eq_of_beq h];simp
theorem ahd_not{k:Nat}{c d:UInt8}(h:ahd l k [92,c]=true)(hd:d≠c):ahd l k [92,d]=false:=by
 rw[←Zbt]at h⊢;rw[eq_of_beq h];simpa using fun e=>hd e.symm
theorem Zkh:∀(n:Nat) (s:RxS) (t:α),Ze8 A false l n s t=ZbW A l n s t
 |0,s,t=>rfl
 |n+1,s,t=>by
  rw[Ze8,ZbW];simp only[ZbM,Zbt,ZcT (show(42:UInt8)≠92 by decide),Bool.false_eq_true,if_false,ZnU,Zkh n,List.length_cons,List.length_nil];cases h1:ahd l s.at_ [92,43]with
  |true=>simp[Zg8 h1 (show(42:UInt8)≠92 by decide)]
  |false=>
   cases h2:ahd l s.at_ [92,63]with
   |true=>simp[Zg8 h2 (show(42:UInt8)≠92 by decide)]
   |false=>
    cases h3:ahd l s.at_ [92,123]with
    |true=>simp only[Zg8 h3 (show(42:UInt8)≠92 by decide),Bool.false_eq_true,if_false,if_true] <;> rfl
    |false=>simp
variable {C:Option (RxS→Out α)}
theorem Zki(s:RxS):Zct A false l C s=Zbs A l C s.at_ (s.go 2):=by
 unfold Zct Zbs;cases C with
 |none=>rfl
 |some f=>
  simp only[ZbM,Zbt,List.length_cons,List.length_nil];rfl
theorem Zmb{s:RxS}{b:UInt8}(h:l[s.at_]? =some b):ZcS A false l C s=Zb0 A l C s b:=by
 obtain⟨hk,hb⟩:=List.getElem?_eq_some_iff.1 h;unfold ZcS Zb0;by_cases a:b=92
 ·subst a;simp only[if_true];unfold ZlI;cases h2:l[s.at_+1]? with
  |none=>
   have hs:sgn l s.at_=[92]:=by unfold sgn;rw[h];simp only[if_true,h2]
   simp[hs,opB]
  |some d=>
   have hs:sgn l s.at_=[92,d]:=by unfold sgn;rw[h];simp only[if_true,h2]
   rw[←Zbt,←Zbt,hs,Zki];simp only[ZbM];unfold escD;simp;(try rfl)
 ·have hs:sgn l s.at_=[b]:=by unfold sgn;rw[h];simp only[if_neg a]
  rw[hs];simp[opB,a];(try rfl)
theorem Zmc{inner:Bool}{k:Nat}:ZnT false l inner (k+1)=ZbL l k:=by
 unfold ZnT ZbL;rw[Ze9,ZbM,ZbM,Zbt,Zbt];simp only[Bool.not_false,Bool.or_true,Bool.and_true];have e:decide (l.length≤k+1)=(l.drop (k+1)).isEmpty:=by
  by_cases h:l.length≤k+1
  ·rw[List.drop_eq_nil_of_le h];simp[h]
  ·rw[List.drop_eq_getElem_cons (by omega)];simp[h]
 rw[e];cases(l.drop (k+1)).isEmpty<;>cases ahd l (k+1) [92,124]<;>cases ahd l (k+1) [92,41]<;>rfl
theorem Zkj{k:Nat}(h:ZbL l k=true):l.length≤k+1∨ahd l (k+1) [92,124]=true∨ahd l (k+1) [92,41]=true:=by
 unfold ZbL at h;cases h1:ahd l (k+1) [92,124]with
 |true=>exact .inr (.inl rfl)
 |false=>
  cases h2:ahd l (k+1) [92,41]with
  |true=>exact .inr (.inr rfl)
  |false=>
   rw[h1,h2]at h;simp only[Bool.or_false,List.isEmpty_iff,List.drop_eq_nil_iff]at h;exact .inl h
theorem Zid{inner:Bool}:∀(n:Nat) (fD fS:Bool) (s:RxS) (ps:List α),(fD=fS∨l.length≤s.at_∨ahd l s.at_ [92,124]=true∨ahd l s.at_ [92,41]=true)→
 brD A false l C inner n false fD s ps=brS A l C inner n fS s ps
 |0,fD,fS,s,ps,_=>rfl
 |n+1,fD,fS,s,ps,hf=>by
  rw[brD,brS];simp only[ZbM,Zbt,Ze9,ZcT (show(36:UInt8)≠92 by decide),Bool.false_or,Bool.and_false,Bool.false_and,Bool.or_false,Bool.false_eq_true,if_false];by_cases hk:l.length≤s.at_
  ·rw[List.getElem?_eq_none hk];simp[hk]
  ·have hlt:s.at_<l.length:=by omega
   rw[List.getElem?_eq_getElem hlt];simp only[hk,decide_false,Bool.false_or];rw[Bool.and_comm (ahd l s.at_ [92,41]) inner];cases h1:(ahd l s.at_ [92,124]||(inner&&ahd l s.at_ [92,41]))with
   |true=>simp
   |false=>
    simp only[Bool.false_eq_true,if_false];rw[Zmc,Zmb (b:=l[s.at_]) (by rw[List.getElem?_eq_getElem hlt])];have e1:(fD&&(ahd l s.at_ [92,123]||(ahd l s.at_ [92,43]||ahd l s.at_ [92,63])))=(fS&&(ahd l s.at_ [92,123]||(ahd l s.at_ [92,43]||ahd l s.at_ [92,63]))):=by
     rcases hf with rfl|h|h|h
     ·rfl
     ·exact absurd h hk
     ·rw[h]at h1;simp at h1
     ·rw[ahd_not h (show(123:UInt8)≠41 by decide),ahd_not h (show(43:UInt8)≠41 by decide),ahd_not h (show(63:UInt8)≠41 by decide)];simp
    cases h2:(ahd l s.at_ [36]&&ZbL l s.at_)with
    |true=>
     have h3:ahd l s.at_ [36]=true∧ZbL l s.at_=true:=by simpa using h2
     have h4:(fS&&(ahd l s.at_ [92,123]||(ahd l s.at_ [92,43]||ahd l s.at_ [92,63])))=false:=by
      have hx:=h3.1;have q:∀c:UInt8,ahd l s.at_ [92,c]=false:=fun c=>by
       rw[←ZcT (by decide)]at hx;rw[←Zbt,eq_of_beq hx];simp
      rw[q,q,q];simp
     rw[h4];simp only[if_true,Bool.false_eq_true,if_false];exact Zid n true false (s.go 1) _ (.inr (Zkj h3.2))
    |false=>
     rw[e1];simp only[Bool.false_eq_true,if_false];cases h5:(fS&&(ahd l s.at_ [92,123]||(ahd l s.at_ [92,43]||ahd l s.at_ [92,63])))with
     |true=>rfl
     |false=>
      simp only[Bool.false_eq_true,if_false];cases Zb0 A l C s l[s.at_]with
      |inl e=>rfl
      |inr y=>
       obtain⟨t,s1⟩:=y;simp only[Zkh];cases ZbW A l (l.length+1) s1 t with
       |inl e=>rfl
       |inr z=>exact Zid n false false _ _ (.inl rfl)
theorem Zez{inner:Bool}{s:RxS}:Zb7 A false l C inner s=branchS A l C inner s:=by
 unfold Zb7 branchS;rw[ZcT (by decide)];cases h:ahd l s.at_ [94]with
 |true=>
  simp only[if_true];have a:¬l.length≤s.at_:=fun e=>by
   unfold ahd at h;rw[List.drop_eq_nil_of_le e]at h;cases h
  have q:∀c:UInt8,ahd l s.at_ [92,c]=false:=fun c=>by
   rw[←ZcT (by decide)]at h;rw[←Zbt,eq_of_beq h];simp
  rw[brD];simp only[ZbM,Zbt,Ze9,ZcT (show(94:UInt8)≠92 by decide),q,h,a,decide_false,Bool.false_or,Bool.false_and,Bool.false_eq_true,if_false,Bool.true_and,if_true];exact Zid _ _ _ _ _ (.inl rfl)
 |false=>
  simp only[Bool.false_eq_true,if_false];rw[←Zid (l.length+1) true true s [] (.inl rfl),brD,brD];rw[ZcT (show(94:UInt8)≠92 by decide),h];simp
theorem Zie{inner:Bool}:∀(n:Nat) (s:RxS) (ts:List α),Zar A false l C inner n s ts=Za1 A l C inner n s ts
 |0,s,ts=>rfl
 |n+1,s,ts=>by
  rw[Zar,Za1,ZbM,Zbt];simp only[Bool.false_eq_true,if_false,List.length_cons,List.length_nil,Zez,Zie n];(try rfl)
theorem ZeA{inner:Bool}{s:RxS}:choiceD A false l C inner s=choiceS A l C inner s:=by
 unfold choiceD choiceS;simp only[Zez,Zie];(try rfl)
end
theorem Zng{α:Type}{A:Alg α}{l:List UInt8}:∀(n:Nat),chD A false l n=chS A l n
 |0=>by funext s;rw[chD,chS,ZeA]
 |n+1=>by funext s;rw[chD,chS,ZeA,Zng n]
theorem ZfM{α:Type}{A:Alg α}{l:List UInt8}:Zac A false l=Zey A l:=by
 unfold Zac Zey;rw[Zng]
end Go.Proofs.YtgllcniibbaoaaaGreatDoor
