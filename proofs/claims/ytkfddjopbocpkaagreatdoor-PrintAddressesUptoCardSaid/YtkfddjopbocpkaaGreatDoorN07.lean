/- Lemmas of this claim. -/
import Derived.Test.YtkfddjopbocpkaaGreatDoorN00
import Derived.LoopN
import Derived.Test.YtkfddjopbocpkaaGreatDoorN05
import Derived.Test.YtkfddjopbocpkaaGreatDoorN06
set_option linter.unusedVariables false
set_option linter.unusedSimpArgs false
set_option maxRecDepth 100000
set_option maxHeartbeats 4000000
namespace Go.Proofs.YtkfddjopbocpkaaGreatDoor
open Go.Lib (hid)
open Go.RowKit
def Rd(w:World)(b:Nat)(l:List UInt8)(at_ wr pl:Int):Prop:=w.heap[b]? =some (.cells #[.string ⟨l.toArray⟩,.int .i64 at_,.int .i64 wr,.int .i64 pl] 323 (0,0))
theorem Rd.on{w w':World}{b:Nat}{l:List UInt8}{a r p:Int}(h:Rd w b l a r p)(f:Fr nob w w'):Rd w' b l a r p:=f.heap h (fun x=>x)
theorem ZL(l p:List UInt8)(w:World)(hs:l.length≤9223372036854775807)(hp:p.length≤9223372036854775807):
 Calls Tryz.prog 66 #[.string ⟨l.toArray⟩,.string ⟨p.toArray⟩] w fun e w'=>e=.returned (.bool (p.isPrefixOf l))∧w=w':=by
 have HS:=hid hs;have HP:=hid hp;have hx:=Zm8 l 0 p.length;simp only[List.drop_zero,Nat.sub_zero]at hx;go_enter Tryz.func66,Tryz.ntmps66;go_wp2
 all_goals go_ret
 ·exact⟨ret_bool (ZdX (by assumption)),rfl⟩
 ·exact⟨ret_bool (ZdY (by assumption)),rfl⟩
theorem fail_ok(b:Nat)(l:List UInt8)(a p e q:Int)(w:World)(h:Rd w b l a 0 p):
 Calls Tryz.prog 271 #[.pointer (some ⟨b,0,none⟩),.int .i64 e,.int .i64 q] w fun r w'=>r=.returned (.tuple #[])∧Rd w' b l a e q∧Fr (fun k=>k=b) w w':=by
 obtain⟨⟨c0,c1,c2,c3⟩,d0,d1,d2,d3⟩:=Zl h _ (Fr.refl _ _);have H:=hid h;clear h;go_enter Tryz.func271,Tryz.ntmps271;go_wp2
 go_end0
 have h1:=Za H.out 2 (.int .i64 e);exact⟨rfl,Za h1 3 (.int .i64 q),((Fr.refl (fun k=>k=b) w).setCell (p:=⟨b,2,none⟩) (fun _=>rfl) _).setCell (p:=⟨b,3,none⟩) (fun _=>rfl) _⟩
theorem Zl5(b:Nat)(l:List UInt8)(a r p e q:Int)(w:World)(hr:r≠0)(h:Rd w b l a r p):
 Calls Tryz.prog 271 #[.pointer (some ⟨b,0,none⟩),.int .i64 e,.int .i64 q] w fun x w'=>x=.returned (.tuple #[])∧w=w':=by
 obtain⟨⟨c0,c1,c2,c3⟩,d0,d1,d2,d3⟩:=Zl h _ (Fr.refl _ _);have c:(r==0)=false:=by simpa using hr
 clear h hr;go_enter Tryz.func271,Tryz.ntmps271;go_wp2
 go_end0
 exact⟨rfl,rfl⟩
theorem Zbr(b:Nat)(l t:List UInt8)(a:Nat)(r p:Int)(w:World)(hl:l.length≤1000000)(ht:t.length≤1000000)(ha:a≤l.length)(h:Rd w b l a r p):
 Calls Tryz.prog 262 #[.pointer (some ⟨b,0,none⟩),.string ⟨t.toArray⟩] w fun x w'=>x=.returned (.bool (t.isPrefixOf (l.drop a)))∧Fr nob w w':=by
 have rr:=Zl h;clear h;have d:(a:Int)≤l.length:=by omega
 have hP:=fun w:World=>ZL (l.drop a) t w (by simp;omega) (by omega);have c:=hid hP;clear hP;go_enter Tryz.func262,Tryz.ntmps262;go_wp2_with fail;refine region_fr 10 (by kernel_rfl) (by kernel_rfl) ?_;simp only[List.take_succ_cons,List.take_zero,List.drop_succ_cons,List.drop_zero]
 repeat(quiet_step (fail))
 refine wpQuiet_nil ?_;intro wC fC;go_wp2_with fail;refine(c.out _).mono ?_;rintro e w2 ⟨rfl,rfl⟩;go_wp2;go_ret;exact⟨rfl,fC⟩
abbrev itV(s:S4)(e:Bool):Value:=.agg #[.int .u64 s.a,.int .u64 s.b,.int .u64 s.c,.int .u64 s.d,.bool e]
def ZnJ(s:S4)(w:World)(e:Ending)(w':World):Prop:=∃d b,e=.returned (.int .u8 (d:Nat))∧Zbi s d b∧d<256∧Fr nob w w'
theorem Zg6(s:S4)(e:Bool)(w:World)(hs:s.fit)(hT:Tab w):
 Calls Tryz.prog 270 #[itV s e] w (ZnJ s w):=by
 have HT:=hid (hT.on ((Fr.refl nob w).alloc (.cells #[.int .u64 s.a,.int .u64 s.b,.int .u64 s.c,.int .u64 s.d,.bool e] 332)));clear hT;go_enter Tryz.func270,Tryz.ntmps270;go_wp2_with fail;refine(least_any s _ hs HT.out).mono ?_;rintro x w2 ⟨d,b,rfl,hl,f⟩;have HL:=hid hl;have hd:d<256:=by rcases hl with⟨_,rfl,_⟩|⟨_,h,_⟩<;>omega
 clear hl;go_wp2;go_ret;exact⟨d,b,rfl,HL.out,hd,((Fr.refl _ _).alloc _).trans' f⟩
theorem Zb5(s:ByteArray)(o:Option (Int→Bool))(ho:Zak s=o)(w:World):Calls Tryz.prog 209 #[.string s] w fun e w'=>e=.returned (.tuple #[ZcR (ZaD o),.bool o.isSome])∧Fr nob w w':=by
 subst ho;exact ZfI s w
theorem Zuz(s:S4)(w:World)(hs:s.fit):Calls Tryz.prog 167 #[ZcR s] w fun e w'=>e=.returned (.int .i64 s.len)∧Fr nob w w':=Zvl s w hs
theorem Zj2(s:S4)(d:Nat)(w:World)(hs:s.fit)(hd:d<256):Calls Tryz.prog 197 #[ZcR s,.int .u8 d] w fun e w'=>e=.returned (.bool (s.has d))∧Fr nob w w':=has_any s d w hs hd
theorem Zpp(l:List UInt8)(u:Value)(w:World)(hl:l.length≤9000000000000000000)(h:SB w l u):Calls Tryz.prog 256 #[u] w fun e w'=>e=.returned (ZcR (S4.zero.puts l))∧Fr nob w w':=ZoU l u w hl h
theorem ZnK(w:World)(c:UInt8)(T:TypeId):SB (w.alloc (.cells #[.int .u8 (c.toNat:Int)] T)) [c] (.slice (some ⟨w.heap.size,0,none⟩) 1 1):=by
 refine Or.inr ⟨_,_,_,rfl,by simp,?_⟩;intro j x hj
 match j,hj with
 |0,hj=>simp at hj;subst hj;simp[World.cell?_alloc_new]
def Env(w:World):Prop:=Tab w∧∃m,w.cell? ⟨0,0,none⟩=some (.int .i64 m)
theorem Env.on{w w':World}(h:Env w)(f:Fr nob w w'):Env w':=⟨h.1.on f,let⟨m,hm⟩:=h.2;⟨m,f.cell hm (fun x=>x)⟩⟩
def Zj3:Nat:=max 0 3+1
theorem Env.on2{w w':World}{b:Nat}(h:Env w)(f:Fr (fun k=>k=b) w w')(hb:Zj3≤b):Env w':=
 ⟨h.1.on2 f (fun e=>by unfold Zj3 at hb;omega),let⟨m,hm⟩:=h.2;⟨m,f.cell hm (fun e=>by simp only at e;unfold Zj3 at hb;omega)⟩⟩
theorem ZdG(s t:List UInt8)(w:World)(hs:s.length≤1000000)(h:Env w):
 Calls Tryz.prog 275 #[.string ⟨s.toArray⟩,.string ⟨t.toArray⟩] w fun e w'=>e=.returned (.int .i64 (Lib.index s t))∧w=w':=by
 obtain⟨m,hm⟩:=h.2;refine(Tryz.strings_Index ⟨s.toArray⟩ ⟨t.toArray⟩ m w (by rw[Zbp];omega) hm).mono ?_;rintro e w' ⟨rfl,rfl⟩;exact⟨rfl,rfl⟩
theorem ZQ{fn:Func}{p:Tmp}(h:fn.results= #[.cell p 332]){tmps:Array Value}{r:Nat}(ht:tmps.getD p undef=.pointer (some ⟨r,0,none⟩)){W:World}{s:S4}{e:Bool}
 (hb:W.heap[r]? =some (.cells #[.int .u64 s.a,.int .u64 s.b,.int .u64 s.c,.int .u64 s.d,.bool e] 332 (0,0))):(results fn tmps).run Tryz.prog W=.ok (itV s e) W:=by
 have c0:=cell_at (j:=0) (v:=.int .u64 s.a) hb rfl;have c1:=cell_at (j:=1) (v:=.int .u64 s.b) hb rfl;have c2:=cell_at (j:=2) (v:=.int .u64 s.c) hb rfl;have c3:=cell_at (j:=3) (v:=.int .u64 s.d) hb rfl;have c4:=cell_at (j:=4) (v:=.bool e) hb rfl;have f:tmps[p]?.getD undef=.pointer (some ⟨r,0,none⟩):=by rw[←ht];simp
 simp only[results,h];simp[f,go_sem,c0,c1,c2,c3,c4]
theorem Zd{w:World}{b:Nat}{v0 v1 v2 v3 v4:Value}{T:TypeId}(h:w.heap[b]? =some (.cells #[v0,v1,v2,v3,v4] T (0,0))):∀w',Fr nob w w'→
 (w'.cell? ⟨b,0,none⟩=some v0∧w'.cell? ⟨b,1,none⟩=some v1∧w'.cell? ⟨b,2,none⟩=some v2∧w'.cell? ⟨b,3,none⟩=some v3∧w'.cell? ⟨b,4,none⟩=some v4)∧
 (w'.frozen? ⟨b,0,none⟩=false∧w'.frozen? ⟨b,1,none⟩=false∧w'.frozen? ⟨b,2,none⟩=false∧w'.frozen? ⟨b,3,none⟩=false∧w'.frozen? ⟨b,4,none⟩=false):=fun _ f=>by
 have h':=f.heap h (fun x=>x);exact⟨⟨cell_at h' rfl,cell_at h' rfl,cell_at h' rfl,cell_at h' rfl,cell_at h' rfl⟩,unfrozen_at h' _,unfrozen_at h' _,unfrozen_at h' _,unfrozen_at h' _,unfrozen_at h' _⟩
abbrev Zg7(w:World)(b:Nat)(v0 v1 v2 v3 v4:Value):World:=(ZaG w b v0 v1 v2 v3).setCell ⟨b,4,none⟩ v4
theorem ZA{w:World}{b:Nat}{a0 a1 a2 a3 a4:Value}{T:TypeId}{fr:Nat×Nat}(h:w.heap[b]? =some (.cells #[a0,a1,a2,a3,a4] T fr))(v0 v1 v2 v3 v4:Value):
 (Zg7 w b v0 v1 v2 v3 v4).heap[b]? =some (.cells #[v0,v1,v2,v3,v4] T fr):=by
 have h0:(w.setCell ⟨b,0,none⟩ v0).heap[b]? =some (.cells #[v0,a1,a2,a3,a4] T fr):=Za h 0 v0;have h1:((w.setCell ⟨b,0,none⟩ v0).setCell ⟨b,1,none⟩ v1).heap[b]? =some (.cells #[v0,v1,a2,a3,a4] T fr):=Za h0 1 v1;have h2:(((w.setCell ⟨b,0,none⟩ v0).setCell ⟨b,1,none⟩ v1).setCell ⟨b,2,none⟩ v2).heap[b]? =some (.cells #[v0,v1,v2,a3,a4] T fr):=Za h1 2 v2;have h3:(ZaG w b v0 v1 v2 v3).heap[b]? =some (.cells #[v0,v1,v2,v3,a4] T fr):=Za h2 3 v3;exact Za h3 4 v4
theorem ZR{S:Nat→Prop}{w a:World}{b:Nat}(f:Fr S a w)(hb:a.heap.size≤b)(v0 v1 v2 v3 v4:Value):Fr S a (Zg7 w b v0 v1 v2 v3 v4):=by
 have h:∀(x:World) (j:Nat) (v:Value),Fr S a x→Fr S a (x.setCell ⟨b,j,none⟩ v):=fun x j v hx=>hx.setCell (p:=⟨b,j,none⟩) (fun h=>absurd h (Nat.not_lt.2 hb)) v;exact h _ _ _ (h _ _ _ (h _ _ _ (h _ _ _ (h _ _ _ f))))
theorem ZJ{w:World}{b k:Nat}{o:Obj}(hk:w.heap[k]? =some o)(hne:k≠b)(v0 v1 v2 v3 v4:Value):(Zg7 w b v0 v1 v2 v3 v4).heap[k]? =some o:=
 Zc (Zc (Zc (Zc (Zc hk hne _) hne _) hne _) hne _) hne _
theorem Zl6(c:UInt8):S4.zero.puts [c]=spn c.toNat c.toNat:=S4.ext_has (ZlX _ ZaU) (fit_spn _ _) fun e he=>by
 have:=c.toNat_lt;rw[ZlZ _ _ he,ZcO,Zg3 _ _ _ (by omega) (by omega) he];by_cases h:c.toNat=e
 ·subst h;simp
 ·simp only[List.any_cons,List.any_nil,Bool.or_false,h,decide_false];by_cases h2:c.toNat≤e
  ·simp[h2];omega
  ·simp[h2]
theorem Zb6(c:UInt8)(w:World)(T:TypeId):Calls Tryz.prog 256 #[.slice (some ⟨w.heap.size,0,none⟩) 1 1] (w.alloc (.cells #[.int .u8 (c.toNat:Int)] T)) fun e w'=>e=.returned (ZcR (spn c.toNat c.toNat))∧Fr nob (w.alloc (.cells #[.int .u8 (c.toNat:Int)] T)) w':=by
 rw[←Zl6];exact Zpp [c] _ _ (by simp) (ZnK w c T)
theorem Zl7(k c:UInt8):((k.toNat:Int)==46)=(if k=46 then some c else none).isSome:=by
 by_cases h:k=46
 ·subst h;rfl
 ·have:=(fun e=>h (UInt8.toNat_inj.1 e):k.toNat≠(46:UInt8).toNat);rw[if_neg h];simp at this⊢;omega
abbrev Zj4(b:Nat)(l:List UInt8)(p:Int)(s:S4)(o:Bool)(R:(Int×Nat)⊕It)(w':World):Prop:=match R with
 | .inr x=>s=x.set∧o=x.one.isSome∧Rd w' b l x.next 0 p
 | .inl z=>∃a':Nat,a'≤l.length∧z.1≠0∧Rd w' b l a' z.1 z.2
theorem Zj4.to{b:Nat}{l:List UInt8}{p:Int}{s:S4}{o:Bool}{R:(Int×Nat)⊕It}{w w':World}(h:Zj4 b l p s o R w)(f:∀x r q,Rd w b l x r q→Rd w' b l x r q):Zj4 b l p s o R w':=by
 cases R with
 |inr x=>exact⟨h.1,h.2.1,f _ _ _ h.2.2⟩
 |inl z=>obtain⟨a',h1,h2,h3⟩:=h;exact⟨a',h1,h2,f _ _ _ h3⟩
def Zl8(b:Nat)(l:List UInt8)(a:Nat)(p:Int)(R:(Int×Nat)⊕It)(w:World)(e:Ending)(w':World):Prop:=
 ∃s o,e=.returned (itV s o)∧s.fit∧Fr (fun k=>k=b) w w'∧Zj4 b l p s o R w'
theorem Zj5(b:Nat)(l:List UInt8)(a:Nat)(k:UInt8)(p:Int)(w:World)(hl:l.length≤100000)(ha:a+2≤l.length)(hb:Zj3≤b)(hE:Env w)(h:Rd w b l a 0 p)(h58:k≠58):
 Calls Tryz.prog 274 #[.pointer (some ⟨b,0,none⟩),.int .u8 (k.toNat:Int)] w (Zl8 b l a p (itmN l a k) w):=by
 obtain⟨R,hR⟩:∃R,itmN l a k=R:=⟨_,rfl⟩;rw[hR];have HR:=hid hR;clear hR;have rr:=Zl h;have N:=lt_heap h;have H:=hid h;have HE:=hid hE;clear h hE;have t1:((k.toNat:Int)==58)=false:=by simp;intro h;exact h58 (UInt8.toNat_inj.1 (by simp;omega))
 have Z:=Zcf k;obtain⟨w0,y⟩:∃w0,w0=(w.alloc (.cells #[.int .u64 0,.int .u64 0,.int .u64 0,.int .u64 0,.bool false] 332)).alloc (.cells #[.int .u8 (k.toNat:Int),.int .u8 93] 5):=⟨_,rfl⟩;have J:w0.heap[w.heap.size]? =some (.cells #[.int .u64 0,.int .u64 0,.int .u64 0,.int .u64 0,.bool false] 332 (0,0)):=by rw[y];exact Ze _ (newAt _ _)
 have f0:Fr nob w w0:=by rw[y];exact((Fr.refl _ _).alloc _).alloc _
 have r:=Zdp (P:=Tryz.prog) (src:=22) (dst:=9) (e:=5) Tryz.underlying22 Tryz.underlying5 Tryz.underlying9 k 93 (w.alloc (.cells #[.int .u64 0,.int .u64 0,.int .u64 0,.int .u64 0,.bool false] 332));rw[show((93:UInt8).toNat:Int)=93 from rfl,show(w.alloc (.cells #[.int .u64 0,.int .u64 0,.int .u64 0,.int .u64 0,.bool false] 332)).heap.size=w.heap.size+1 by simp]at r;have u:=hid y;have A:=hid J;have m:=hid f0;have z:=hid (HE.out.on f0);have a1:=Zl (f0.heap H.out (fun x=>x));have V:b<w0.heap.size:=Nat.lt_of_lt_of_le N f0.size;clear y J f0;by_cases O:l.length<a+3
 ·have g:=hid (show itmN l a k=.inl (5,l.length) by
   have:fnd l k (l.length+1) (a+2+skp k)=none:=by
    rw[fnd,if_neg (by unfold skp;rw[if_neg h58];omega)]
   unfold itmN;rw[this])
  go_enter Tryz.func274,Tryz.ntmps274;go_wp2_with fail;rw[←u.out];clear r;refine(fail_ok b l a p 5 l.length _ (H.out.on m.out)).mono ?_;rintro e w2 ⟨rfl,h2,f2⟩;have f:=f2.heap A.out (fun e=>by omega);have r2:=Zd f;have B:=lt_heap f;have HH:=hid h2;have FF:=hid f2;have j:=hid f;clear h2 f2 f;go_wp2;(try simp only[Exit.inBlock,Exit.then]);refine bodyPost_ret (ZQ (s:=S4.zero) (e:=false) rfl rfl (ZA j.out _ _ _ _ _)) rfl ⟨S4.zero,false,rfl,ZaU,ZR (m.out.any.trans FF.out (fun i hi e=>e)) (Nat.le_refl _) _ _ _ _ _,?_⟩;rw[←HR.out,g.out];exact⟨a,by omega,(by simp),ZJ HH.out (by omega) _ _ _ _ _⟩
 ·have X:(a:Int)+2+1≤l.length:=by omega
  cases hf:fnd l k (l.length+1) (a+2+1)with
  |none=>
   have t:Lib.index (l.drop (a+2+1)) [k,93]= -1:=by rw[Ze4 _ _ _ (by omega),hf]
   have g:=hid (show itmN l a k=.inl (5,l.length) by unfold itmN skp;rw[if_neg h58,hf]);clear hf;have hS:=fun w h=>ZdG (l.drop (a+2+1)) [k,93] w (by simp;omega) h;rw[t]at hS;have HS:=hid hS;clear hS t;go_enter Tryz.func274,Tryz.ntmps274;go_wp2_with fail;rw[←u.out];clear r;refine(HS.out _ z.out).mono ?_;rintro e w1 ⟨rfl,rfl⟩;go_wp2_with fail;refine(fail_ok b l a p 5 l.length _ (H.out.on m.out)).mono ?_;rintro e w2 ⟨rfl,h2,f2⟩;have f:=f2.heap A.out (fun e=>by omega);have r2:=Zd f;have B:=lt_heap f;have HH:=hid h2;have FF:=hid f2;have j:=hid f;clear h2 f2 f;go_wp2;(try simp only[Exit.inBlock,Exit.then]);refine bodyPost_ret (ZQ (s:=S4.zero) (e:=false) rfl rfl (ZA j.out _ _ _ _ _)) rfl ⟨S4.zero,false,rfl,ZaU,ZR (m.out.any.trans FF.out (fun i hi e=>e)) (Nat.le_refl _) _ _ _ _ _,?_⟩;rw[←HR.out,g.out];exact⟨a,by omega,(by simp),ZJ HH.out (by omega) _ _ _ _ _⟩
  |some e=>
   obtain⟨h1,h2,h3,h4,h5⟩:=ZcQ hf;obtain⟨d,rfl⟩:∃d,e=a+2+1+d:=⟨e-(a+2+1),by omega⟩;have t:Lib.index (l.drop (a+2+1)) [k,93]=(d:Int):=by rw[Ze4 _ _ _ (by omega),hf];simp only;omega
   have hS:=fun w h=>ZdG (l.drop (a+2+1)) [k,93] w (by simp;omega) h;rw[t]at hS;have HS:=hid hS;clear hS t;have Y:(a:Int)+2+1+d+1<l.length:=by omega
   have I:=Zaf (P:=Tryz.prog) l (lo:=(a:Int)+2) (hi:=(a:Int)+2+1+d) Tryz.underlying9 (by omega) (by omega) (by omega);rw[show((a:Int)+2).toNat=a+2 by omega,show((a:Int)+2+1+d).toNat=a+2+1+d by omega]at I;obtain⟨nm,n⟩:∃nm,(l.drop (a+2)).take (a+2+1+d-(a+2))=nm:=⟨_,rfl⟩;have a0:nm.length=1+d:=by rw[←n];simp;omega
   rw[n]at I;have W:=hid n;have L:=hid (show∀c,nm=[c]→itmN l a k=.inr ⟨spn c.toNat c.toNat,if k=46 then some c else none,a+2+1+d+2⟩from fun c hc=>Zl2 h58 hf (by unfold nam;rw[n,hc]));have M:=hid (show nm.length≠1→itmN l a k=.inl (6,a)from fun hc=>Zl3 h58 hf (by unfold nam;rw[n];exact hc));clear hf h3 h4 h5 n;obtain⟨w1,o⟩:∃w1,w1=w0.setCell ⟨b,1,none⟩ (.int .i64 ((a:Int)+2+(1+d)+2)):=⟨_,rfl⟩;have Q:w1.heap.size=w0.heap.size:=by rw[o];simp
   have H1:=hid (show Rd w1 b l ((a+2+1+d+2:Nat):Int) 0 p by
    rw[o,show((a+2+1+d+2:Nat):Int)=(a:Int)+2+(1+d)+2 by omega];exact Za (m.out.heap H.out (fun x=>x)) 1 _)
   have E:=hid (show w1.heap[w.heap.size]? =some (.cells #[.int .u64 0,.int .u64 0,.int .u64 0,.int .u64 0,.bool false] 332 (0,0)) by
    rw[o];exact Zc A.out (by simp only;omega) _)
   have C:=hid (show Fr (fun k=>k=b) w w1 by rw[o];exact Fr.setCell (S:=fun k=>k=b) (p:=⟨b,1,none⟩) m.out.any (fun _=>rfl) _);have D:=hid o;clear o;by_cases hd:d=0
   ·have td:((1:Int)+d==1)=true:=by simp;omega
    have U:((1:Int)+d !=1)=false:=by simp;omega
    have HD:=hid hd;clear hd;go_enter Tryz.func274,Tryz.ntmps274;go_wp2_with fail;rw[←u.out];clear r;refine(HS.out _ z.out).mono ?_;rintro e w1 ⟨rfl,rfl⟩;go_wp2_with fail;obtain⟨c,rfl⟩:=List.length_eq_one_iff.1 (show nm.length=1 by have:=HD.out;omega);rw[←D.out,←Q];have ho:=Zl7 k c;refine(Zb6 c w1 _).mono ?_;have q:=L.out c rfl;obtain⟨S,hS⟩:∃S,spn c.toNat c.toNat=S:=⟨_,rfl⟩;have F:S.fit:=by rw[←hS];exact fit_spn _ _
    rw[hS]at q⊢;rintro e w2 ⟨rfl,f2⟩;have v:Fr nob w1 w2:=((Fr.refl _ _).alloc _).trans' f2;have f:=v.heap E.out (fun x=>x);have G:=H1.out.on v;have r2:=Zd f;have B:=lt_heap f;have FF:=hid (C.out.trans v (fun i hi e=>e.elim));have j:=hid f;have K:=hid G;have g:=hid q;have HO:=hid ho;clear f G hS q f2 v ho;go_wp2;(try simp only[Exit.inBlock,Exit.then]);refine bodyPost_ret (ZQ (s:=S) (e:=(k.toNat:Int)==46) rfl rfl (ZA j.out _ _ _ _ _)) rfl ⟨S,_,rfl,F,ZR FF.out (Nat.le_refl _) _ _ _ _ _,?_⟩;rw[←HR.out,g.out];exact⟨rfl,HO.out,ZJ K.out (by omega) _ _ _ _ _⟩
   ·have td:((1:Int)+d==1)=false:=by simp;omega
    have U:((1:Int)+d !=1)=true:=by simp;omega
    go_enter Tryz.func274,Tryz.ntmps274;go_wp2_with fail;rw[←u.out];clear r;refine(HS.out _ z.out).mono ?_;rintro e w1 ⟨rfl,rfl⟩;go_wp2_with fail;rw[←D.out];refine(fail_ok b l _ p 6 a _ H1.out).mono ?_;rintro e w2 ⟨rfl,h2,f2⟩;have f:=f2.heap E.out (fun e=>by omega);have r2:=Zd f;have B:=lt_heap f;have HH:=hid h2;have FF:=hid f2;have j:=hid f;have g:=hid (M.out (by omega));clear h2 f2 f;go_wp2;(try simp only[Exit.inBlock,Exit.then]);refine bodyPost_ret (ZQ (s:=S4.zero) (e:=false) rfl rfl (ZA j.out _ _ _ _ _)) rfl ⟨S4.zero,false,rfl,ZaU,ZR (C.out.trans FF.out (fun i hi e=>e)) (Nat.le_refl _) _ _ _ _ _,?_⟩;rw[←HR.out,g.out];exact⟨a+2+1+d+2,by omega,(by simp),ZJ HH.out (by omega) _ _ _ _ _⟩
def Zqq(a e:Nat):Option (Int→Bool)→(Int×Nat)⊕It
 |none=>.inl (6,a)
 |some p=>.inr ⟨pk p 256,none,e+2⟩
theorem Zj6(b:Nat)(l:List UInt8)(a:Nat)(p:Int)(w:World)(hl:l.length≤100000)(ha:a+2≤l.length)(hb:Zj3≤b)(hE:Env w)(h:Rd w b l a 0 p):
 Calls Tryz.prog 274 #[.pointer (some ⟨b,0,none⟩),.int .u8 58] w (Zl8 b l a p (itmN l a 58) w):=by
 obtain⟨R,hR⟩:∃R,itmN l a 58=R:=⟨_,rfl⟩;rw[hR];have HR:=hid hR;clear hR;have rr:=Zl h;have M:=lt_heap h;have H:=hid h;have HE:=hid hE;clear h hE;obtain⟨w0,u⟩:∃w0,w0=(w.alloc (.cells #[.int .u64 0,.int .u64 0,.int .u64 0,.int .u64 0,.bool false] 332)).alloc (.cells #[.int .u8 58,.int .u8 93] 5):=⟨_,rfl⟩;have F:w0.heap[w.heap.size]? =some (.cells #[.int .u64 0,.int .u64 0,.int .u64 0,.int .u64 0,.bool false] 332 (0,0)):=by rw[u];exact Ze _ (newAt _ _)
 have f0:Fr nob w w0:=by rw[u];exact((Fr.refl _ _).alloc _).alloc _
 have t:=Zdp (P:=Tryz.prog) (src:=22) (dst:=9) (e:=5) Tryz.underlying22 Tryz.underlying5 Tryz.underlying9 58 93 (w.alloc (.cells #[.int .u64 0,.int .u64 0,.int .u64 0,.int .u64 0,.bool false] 332));rw[show((93:UInt8).toNat:Int)=93 from rfl,show(w.alloc (.cells #[.int .u64 0,.int .u64 0,.int .u64 0,.int .u64 0,.bool false] 332)).heap.size=w.heap.size+1 by simp]at t;rw[show((58:UInt8).toNat:Int)=58 from rfl]at t;have C:=hid u;have D:=hid F;have q:=hid f0;have A:=hid (HE.out.on f0);have Y:=Zl (f0.heap H.out (fun x=>x));have Q:b<w0.heap.size:=Nat.lt_of_lt_of_le M f0.size;clear u F f0;have V:(a:Int)+2≤l.length:=by omega
 cases hf:fnd l 58 (l.length+1) (a+2)with
 |none=>
  have j:Lib.index (l.drop (a+2)) [58,93]= -1:=by rw[Ze4 _ _ _ (by omega),hf]
  have r:=hid (ZjY (l:=l) (a:=a) (k:=58) hf);clear hf;have hS:=fun w h=>ZdG (l.drop (a+2)) [58,93] w (by simp;omega) h;rw[j]at hS;have HS:=hid hS;clear hS j;go_enter Tryz.func274,Tryz.ntmps274;go_wp2_with fail;rw[←C.out];clear t;refine(HS.out _ A.out).mono ?_;rintro e w1 ⟨rfl,rfl⟩;go_wp2_with fail;refine(fail_ok b l a p 5 l.length _ (H.out.on q.out)).mono ?_;rintro e w2 ⟨rfl,h2,f2⟩;have f:=f2.heap D.out (fun e=>by omega);have r2:=Zd f;have N:=lt_heap f;have HH:=hid h2;have FF:=hid f2;have g:=hid f;clear h2 f2 f;go_wp2;(try simp only[Exit.inBlock,Exit.then]);refine bodyPost_ret (ZQ (s:=S4.zero) (e:=false) rfl rfl (ZA g.out _ _ _ _ _)) rfl ⟨S4.zero,false,rfl,ZaU,ZR (q.out.any.trans FF.out (fun i hi e=>e)) (Nat.le_refl _) _ _ _ _ _,?_⟩;rw[←HR.out,r.out];exact⟨a,by omega,(by simp),ZJ HH.out (by omega) _ _ _ _ _⟩
 |some e=>
  obtain⟨h1,h2,h3,h4,h5⟩:=ZcQ hf;obtain⟨d,rfl⟩:∃d,e=a+2+d:=⟨e-(a+2),by omega⟩;have j:Lib.index (l.drop (a+2)) [58,93]=(d:Int):=by rw[Ze4 _ _ _ (by omega),hf];simp only;omega
  have hS:=fun w h=>ZdG (l.drop (a+2)) [58,93] w (by simp;omega) h;rw[j]at hS;have HS:=hid hS;clear hS j;have W:(a:Int)+2+d+1<l.length:=by omega
  have E:=Zaf (P:=Tryz.prog) l (lo:=(a:Int)+2) (hi:=(a:Int)+2+d) Tryz.underlying9 (by omega) (by omega) (by omega);rw[show((a:Int)+2).toNat=a+2 by omega,show((a:Int)+2+d).toNat=a+2+d by omega]at E;obtain⟨nm,m⟩:∃nm,(l.drop (a+2)).take (a+2+d-(a+2))=nm:=⟨_,rfl⟩;have X:nm.length=d:=by rw[←m];simp;omega
  rw[m]at E;obtain⟨o,ho⟩:∃o,Zak ⟨nm.toArray⟩=o:=⟨_,rfl⟩;have r:=hid (show itmN l a 58=Zqq a (a+2+d) o by
   cases o with
   |none=>exact Zi2 hf (by unfold nam;rw[m,ho])
   |some p=>exact Zl4 hf (by unfold nam;rw[m,ho]))
  have HC:=hid (fun w=>Zb5 ⟨nm.toArray⟩ o ho w);clear hf h3 h4 h5 m ho;obtain⟨w1,n⟩:∃w1,w1=w0.setCell ⟨b,1,none⟩ (.int .i64 ((a:Int)+2+d+2)):=⟨_,rfl⟩;have H1:=hid (show Rd w1 b l ((a+2+d+2:Nat):Int) 0 p by
   rw[n,show((a+2+d+2:Nat):Int)=(a:Int)+2+d+2 by omega];exact Za (q.out.heap H.out (fun x=>x)) 1 _)
  have K:=hid (show w1.heap[w.heap.size]? =some (.cells #[.int .u64 0,.int .u64 0,.int .u64 0,.int .u64 0,.bool false] 332 (0,0)) by
   rw[n];exact Zc D.out (by simp only;omega) _)
  have G:=hid (show Fr (fun k=>k=b) w w1 by rw[n];exact Fr.setCell (S:=fun k=>k=b) (p:=⟨b,1,none⟩) q.out.any (fun _=>rfl) _);have J:=hid n;clear n;go_enter Tryz.func274,Tryz.ntmps274;go_wp2_with fail;rw[←C.out];clear t;refine(HS.out _ A.out).mono ?_;rintro e Z ⟨rfl,rfl⟩;go_wp2_with fail;rw[←J.out];refine(HC.out w1).mono ?_;obtain⟨S,hS⟩:∃S,ZaD o=S:=⟨_,rfl⟩;have v:S.fit:=by rw[←hS];exact Zdd _
  rw[hS];rintro e w2 ⟨rfl,f2⟩;have f:=f2.heap K.out (fun x=>x);have y:=H1.out.on f2;have U:=lt_heap y;have N:=lt_heap f;have FF:=hid (G.out.trans f2 (fun i hi e=>e.elim));have g:=hid f;have B:=hid y;have I:=hid hS;clear f y hS f2;cases o with
  |none=>
   go_wp2_with fail;refine(fail_ok b l _ p 6 a _ (B.out.on ((Fr.refl _ _).alloc _))).mono ?_;rintro e w3 ⟨rfl,h3,f3⟩;have z:=f3.heap (((Fr.refl nob w2).alloc _).heap g.out (fun x=>x)) (fun e=>by omega);have r3:=Zd z;have O:=Zl (f3.heap (newAt w2 (.cells #[.int .u64 S.a,.int .u64 S.b,.int .u64 S.c,.int .u64 S.d] 132)) (fun e=>by omega));have HH:=hid h3;have F3:=hid f3;have L:=hid z;clear h3 f3 z;go_wp2;(try simp only[Exit.inBlock,Exit.then]);refine bodyPost_ret (ZQ (s:=S) (e:=false) rfl rfl (ZA L.out _ _ _ _ _)) rfl ⟨S,false,rfl,v,ZR ((FF.out.alloc _).trans F3.out (fun i hi e=>e)) (Nat.le_refl _) _ _ _ _ _,?_⟩;rw[←HR.out,r.out];exact⟨a+2+d+2,by omega,(by simp),ZJ HH.out (by omega) _ _ _ _ _⟩
  |some p0=>
   have r3:=Zd g.out;have O:=Zl (newAt w2 (.cells #[.int .u64 S.a,.int .u64 S.b,.int .u64 S.c,.int .u64 S.d] 132));go_wp2;(try simp only[Exit.inBlock,Exit.then]);refine bodyPost_ret (ZQ (s:=S) (e:=false) rfl rfl (((Fr.refl nob _).alloc _).heap (ZA g.out _ _ _ _ _) (fun x=>x))) rfl ⟨S,false,rfl,v,(ZR FF.out (Nat.le_refl _) _ _ _ _ _).alloc _,?_⟩;rw[←HR.out,r.out];exact⟨I.out.symm,rfl,((Fr.refl nob _).alloc _).heap (ZJ B.out (by omega) _ _ _ _ _) (fun x=>x)⟩
theorem named_any(b:Nat)(l:List UInt8)(a:Nat)(k:UInt8)(p:Int)(w:World)(hl:l.length≤100000)(ha:a+2≤l.length)(hb:Zj3≤b)(hE:Env w)(h:Rd w b l a 0 p):
 Calls Tryz.prog 274 #[.pointer (some ⟨b,0,none⟩),.int .u8 (k.toNat:Int)] w (Zl8 b l a p (itmN l a k) w):=by
 by_cases hk:k=58
 ·subst hk;exact Zj6 b l a p w hl ha hb hE h
 ·exact Zj5 b l a k p w hl ha hb hE h hk
theorem ZqS(w:World):(Instr.index 334 (.agg #[.string ⟨#[91,58]⟩,.string ⟨#[91,61]⟩,.string ⟨#[91,46]⟩]) (.int .i64 0)).run Tryz.prog w=.ok (.string ⟨#[91,58]⟩) w:=by kernel_rfl
theorem ZqT(w:World):(Instr.index 334 (.agg #[.string ⟨#[91,58]⟩,.string ⟨#[91,61]⟩,.string ⟨#[91,46]⟩]) (.int .i64 1)).run Tryz.prog w=.ok (.string ⟨#[91,61]⟩) w:=by kernel_rfl
theorem ZqU(w:World):(Instr.index 334 (.agg #[.string ⟨#[91,58]⟩,.string ⟨#[91,61]⟩,.string ⟨#[91,46]⟩]) (.int .i64 2)).run Tryz.prog w=.ok (.string ⟨#[91,46]⟩) w:=by kernel_rfl
theorem pre2{l:List UInt8}{k:UInt8}{a:Nat}:([91,k].isPrefixOf (l.drop a)=true)↔l[a]? =some 91∧l[a+1]? =some k:=by
 have:=Zpm l a 0 k;unfold Lib.occAt at this;have e1:l[a]? =(l.drop a)[0]? :=by simp
 have e2:l[a+1]? =(l.drop a)[1]? :=by simp
 rw[e1,e2];cases h:l.drop a with
 |nil=>simp
 |cons x r=>
  cases r with
  |nil=>simp
  |cons y r=>
   simp[List.isPrefixOf];constructor<;>(rintro⟨h1,h2⟩;exact⟨h1.symm,h2.symm⟩)
theorem Zd2{l:List UInt8}{a:Nat}{k:UInt8}(hk:ZjX k=true)(h:[91,k].isPrefixOf (l.drop a)=true):itm l a=itmN l a k∧a+2≤l.length:=by
 obtain⟨h1,h2⟩:=pre2.1 h;have:=(List.getElem?_eq_some_iff.1 h2).1;unfold itm;rw[h1];simp only;rw[h2];simp only;rw[if_pos ⟨trivial,hk⟩];exact⟨rfl,by omega⟩
theorem Zj7{l:List UInt8}{a:Nat}(ha:a<l.length)(h1:[91,58].isPrefixOf (l.drop a)=false)(h2:[91,61].isPrefixOf (l.drop a)=false)(h3:[91,46].isPrefixOf (l.drop a)=false):
 itm l a=.inr ⟨spn (l[a]).toNat (l[a]).toNat,some l[a],a+1⟩:=by
 unfold itm;rw[List.getElem?_eq_getElem ha];simp only;split
 ·rfl
 ·next k hk=>
  split
  ·next hc=>
   have b:l[a]? =some 91:=by rw[List.getElem?_eq_getElem ha,hc.1]
   have c:=hc.2;unfold ZjX at c;simp only[Bool.or_eq_true,beq_iff_eq]at c;rcases c with(rfl|rfl)|rfl
   ·rw[pre2.2 ⟨b,hk⟩]at h1;cases h1
   ·rw[pre2.2 ⟨b,hk⟩]at h2;cases h2
   ·rw[pre2.2 ⟨b,hk⟩]at h3;cases h3
  ·rfl
theorem ZnL{l:List UInt8}{a:Nat}(ha:l.length≤a):itm l a=.inl (5,l.length):=by
 unfold itm;rw[List.getElem?_eq_none ha]
theorem item_any(b:Nat)(l:List UInt8)(a:Nat)(p:Int)(w:World)(hl:l.length≤100000)(ha:a≤l.length)(hb:Zj3≤b)(hE:Env w)(h:Rd w b l a 0 p):
 Calls Tryz.prog 269 #[.pointer (some ⟨b,0,none⟩)] w (Zl8 b l a p (itm l a) w):=by
 obtain⟨R,hR⟩:∃R,itm l a=R:=⟨_,rfl⟩;rw[hR];have HR:=hid hR;clear hR;have rr:=Zl h;have Z:=lt_heap h;obtain⟨w0,H⟩:∃w0,w0=w.alloc (.cells #[.int .u64 0,.int .u64 0,.int .u64 0,.int .u64 0,.bool false] 332):=⟨_,rfl⟩;have f0:Fr nob w w0:=by rw[H];exact(Fr.refl _ _).alloc _
 have A:=hid (show w0.heap[w.heap.size]? =some (.cells #[.int .u64 0,.int .u64 0,.int .u64 0,.int .u64 0,.bool false] 332 (0,0)) by rw[H];exact newAt _ _);have v:=hid f0;have H0:=hid (h.on f0);have J:=hid (hE.on f0);have a1:b<w0.heap.size:=Nat.lt_of_lt_of_le Z f0.size;have a4:=Zl H0.out;have K:=hid H;clear H;clear h hE f0;have a2:(a:Int)≤l.length:=by omega
 by_cases L:l.length≤a
 ·have g:=hid (ZnL L);have t1:((l.length:Int)≤a):=by omega
  go_enter Tryz.func269,Tryz.ntmps269;go_wp2_with fail;rw[←K.out];refine region_fr_all (by kernel_rfl) (by kernel_rfl) ?_
  repeat(quiet_step (fail))
  refine wpQuiet_nil ?_;intro wC fC;go_wp2_with fail;refine(fail_ok b l a p 5 l.length _ (H0.out.on fC)).mono ?_;rintro e w2 ⟨rfl,h2,f2⟩;have d:=f2.heap (fC.heap A.out (fun x=>x)) (fun e=>by omega);have r2:=Zd d;have D:=lt_heap d;have HH:=hid h2;have FF:=hid ((v.out.trans' fC).any.trans f2 (fun i hi e=>e));have n:=hid d;clear h2 f2 d fC;go_wp2;(try simp only[Exit.inBlock,Exit.then]);refine bodyPost_ret (ZQ (s:=S4.zero) (e:=false) rfl rfl (ZA n.out _ _ _ _ _)) rfl ⟨S4.zero,false,rfl,ZaU,ZR FF.out (Nat.le_refl _) _ _ _ _ _,?_⟩;rw[←HR.out,g.out];exact⟨a,by omega,(by simp),ZJ HH.out (by omega) _ _ _ _ _⟩
 ·have t1:¬((l.length:Int)≤a):=by omega
  have HA:=hid (fun(t:List UInt8) (ht:t.length≤1000000) w h=>Zbr b l t a 0 p w (by omega) ht ha h);go_enter Tryz.func269,Tryz.ntmps269;go_wp2_with fail;rw[←K.out];refine region_fr_all (by kernel_rfl) (by kernel_rfl) ?_
  repeat(quiet_step (fail))
  refine wpQuiet_nil ?_;intro wC fC;have o0:=ZqS;have o1:=ZqT;have o2:=ZqU;go_wp2_with fail;refine wp_loop_rounds 4 ?_;rw[rounds_succ];go_wp2_with fail;refine(HA.out [91,58] (by simp) wC (H0.out.on fC)).mono ?_;obtain⟨q0,E⟩:∃q,[91,58].isPrefixOf (l.drop a)=q:=⟨_,rfl⟩;rw[E];rintro e v0 ⟨rfl,g0⟩;have g0:=Fr.trans' fC g0;cases q0 with
  |true=>
   obtain⟨j,B⟩:=Zd2 (k:=58) rfl E;have g:=hid j;clear j;go_wp2_with fail;refine(named_any b l a 58 p v0 hl B hb (J.out.on g0) (H0.out.on g0)).mono ?_;rintro e w2 ⟨s,o,rfl,m,f2,f⟩;rw[←g.out,HR.out]at f;have d:=f2.heap (Fr.heap g0 A.out (fun x=>x)) (fun e=>by omega);have r2:=Zd d;have D:=lt_heap d;have FF:=hid ((v.out.trans' g0).any.trans f2 (fun i hi e=>e));have n:=hid d;have y:=hid f;have z:=hid m;clear f2 d f m;go_wp2;(try simp only[Exit.inBlock,Exit.then]);refine bodyPost_ret (ZQ (s:=s) (e:=o) rfl rfl (ZA n.out _ _ _ _ _)) rfl ⟨s,o,rfl,z.out,ZR FF.out (Nat.le_refl _) _ _ _ _ _,?_⟩;exact y.out.to fun x r q h=>ZJ h (by omega) _ _ _ _ _
  |false=>
  have P:=hid E;clear E;go_wp2_with fail;rw[rounds_succ];go_wp2_with fail;refine(HA.out [91,61] (by simp) v0 (H0.out.on g0)).mono ?_;obtain⟨q1,F⟩:∃q,[91,61].isPrefixOf (l.drop a)=q:=⟨_,rfl⟩;rw[F];rintro e v1 ⟨rfl,g1⟩;have g1:=Fr.trans' g0 g1;cases q1 with
  |true=>
   obtain⟨j,B⟩:=Zd2 (k:=61) rfl F;have g:=hid j;clear j;go_wp2_with fail;refine(named_any b l a 61 p v1 hl B hb (J.out.on g1) (H0.out.on g1)).mono ?_;rintro e w2 ⟨s,o,rfl,m,f2,f⟩;rw[←g.out,HR.out]at f;have d:=f2.heap (Fr.heap g1 A.out (fun x=>x)) (fun e=>by omega);have r2:=Zd d;have D:=lt_heap d;have FF:=hid ((v.out.trans' g1).any.trans f2 (fun i hi e=>e));have n:=hid d;have y:=hid f;have z:=hid m;clear f2 d f m;go_wp2;(try simp only[Exit.inBlock,Exit.then]);refine bodyPost_ret (ZQ (s:=s) (e:=o) rfl rfl (ZA n.out _ _ _ _ _)) rfl ⟨s,o,rfl,z.out,ZR FF.out (Nat.le_refl _) _ _ _ _ _,?_⟩;exact y.out.to fun x r q h=>ZJ h (by omega) _ _ _ _ _
  |false=>
  have Q:=hid F;clear F;go_wp2_with fail;rw[rounds_succ];go_wp2_with fail;refine(HA.out [91,46] (by simp) v1 (H0.out.on g1)).mono ?_;obtain⟨q2,G⟩:∃q,[91,46].isPrefixOf (l.drop a)=q:=⟨_,rfl⟩;rw[G];rintro e v2 ⟨rfl,g2⟩;have g2:=Fr.trans' g1 g2;cases q2 with
  |true=>
   obtain⟨j,B⟩:=Zd2 (k:=46) rfl G;have g:=hid j;clear j;go_wp2_with fail;refine(named_any b l a 46 p v2 hl B hb (J.out.on g2) (H0.out.on g2)).mono ?_;rintro e w2 ⟨s,o,rfl,m,f2,f⟩;rw[←g.out,HR.out]at f;have d:=f2.heap (Fr.heap g2 A.out (fun x=>x)) (fun e=>by omega);have r2:=Zd d;have D:=lt_heap d;have FF:=hid ((v.out.trans' g2).any.trans f2 (fun i hi e=>e));have n:=hid d;have y:=hid f;have z:=hid m;clear f2 d f m;go_wp2;(try simp only[Exit.inBlock,Exit.then]);refine bodyPost_ret (ZQ (s:=s) (e:=o) rfl rfl (ZA n.out _ _ _ _ _)) rfl ⟨s,o,rfl,z.out,ZR FF.out (Nat.le_refl _) _ _ _ _ _,?_⟩;exact y.out.to fun x r q h=>ZJ h (by omega) _ _ _ _ _
  |false=>
  have U:=hid G;clear G;go_wp2_with fail;rw[rounds_succ];go_wp2_with fail;have a3:(a:Int)<l.length:=by omega
  have g:=hid (Zj7 (show a<l.length by omega) P.out Q.out U.out);obtain⟨c,hc⟩:∃c,l[a]'(by omega)=c:=⟨_,rfl⟩;refine region_fr 8 (by kernel_rfl) (by kernel_rfl) ?_;simp only[List.take_succ_cons,List.take_zero,List.drop_succ_cons,List.drop_zero]
  repeat(quiet_step (fail))
  refine wpQuiet_nil ?_;intro wD fD;have gD:=Fr.trans' g2 fD;obtain⟨w5,u⟩:∃w5,w5=wD.setCell ⟨b,1,none⟩ (.int .i64 ((a:Int)+1)):=⟨_,rfl⟩;have a0:w5.heap.size=wD.heap.size:=by rw[u];simp
  have H5:=hid (show Rd w5 b l ((a+1:Nat):Int) 0 p by
   rw[u,show((a+1:Nat):Int)=(a:Int)+1 by omega];exact Za (gD.heap H0.out (fun x=>x)) 1 _)
  have X:=hid (show w5.heap[w.heap.size]? =some (.cells #[.int .u64 0,.int .u64 0,.int .u64 0,.int .u64 0,.bool false] 332 (0,0)) by
   rw[u];exact Zc (gD.heap A.out (fun x=>x)) (by simp only;omega) _)
  have N:=hid (show Fr (fun k=>k=b) w w5 by rw[u];exact Fr.setCell (S:=fun k=>k=b) (p:=⟨b,1,none⟩) (v.out.trans' gD).any (fun _=>rfl) _);have W:=hid u;clear u;go_wp2_with fail;rw[←W.out,←a0];refine(Zb6 c w5 _).mono ?_;obtain⟨S,hS⟩:∃S,spn c.toNat c.toNat=S:=⟨_,rfl⟩;have M:S.fit:=by rw[←hS];exact fit_spn _ _
  rw[hS];have HS:=hid hS;clear hS;rintro e w6 ⟨rfl,f6⟩;have C:Fr nob w5 w6:=((Fr.refl _ _).alloc _).trans' f6;have I:=C.heap X.out (fun x=>x);have r6:=Zd I;have D:=lt_heap I;have FF:=hid (N.out.trans C (fun i hi e=>e.elim));have Y:=hid I;have V:=hid (H5.out.on C);have O:=hid hc;clear I f6 C hc;go_wp2;(try simp only[Exit.inBlock,Exit.then]);refine bodyPost_ret (ZQ (s:=S) (e:=true) rfl rfl (ZA Y.out _ _ _ _ _)) rfl ⟨S,true,rfl,M,ZR FF.out (Nat.le_refl _) _ _ _ _ _,?_⟩;rw[←HR.out,g.out,O.out];exact⟨HS.out.symm,rfl,ZJ V.out (by omega) _ _ _ _ _⟩
open Classical in
noncomputable def lst(s:S4):Nat:=if h:∃d b,Zbi s d b then h.choose else 0
theorem Znd{s:S4}{d:Nat}{b:Bool}(h:Zbi s d b):lst s=d:=by
 have hx:∃d b,Zbi s d b:=⟨d,b,h⟩;unfold lst;rw[dif_pos hx];obtain⟨b',hb⟩:=hx.choose_spec;exact(hb.uniq h).1
theorem Zne(s:S4):lst s<256:=by
 unfold lst;split
 ·next h=>
  obtain⟨b,hb⟩:=h.choose_spec;rcases hb with⟨_,h0,_⟩|⟨_,h0,_⟩<;>omega
 ·omega
theorem Ze6{c:Nat}(h:c<256):lst (spn c c)=c:=
 Znd (b:=true) (.inr ⟨rfl,h,by rw[Zg3 _ _ _ h h h];simp,fun e he=>by rw[Zg3 _ _ _ h h (by omega)];simp;omega⟩)
theorem ZbK(s:S4)(o:Bool)(w:World)(hs:s.fit)(hT:Tab w):
 Calls Tryz.prog 270 #[itV s o] w fun e w'=>e=.returned (.int .u8 (lst s))∧Fr nob w w':=by
 refine(Zg6 s o w hs hT).mono ?_;rintro e w' ⟨d,b,rfl,h,_,f⟩;rw[Znd h];exact⟨rfl,f⟩
theorem Ze7(a b:Nat)(w:World)(ha:a<256)(hb:b<256):Calls Tryz.prog 255 #[.int .u8 a,.int .u8 b] w fun e w'=>e=.returned (ZcR (spn a b))∧Fr nob w w':=Zl1 a b w ha hb
abbrev Zdy(b:Nat)(l:List UInt8)(p:Int)(s:S4)(R:(Int×Nat)⊕(S4×Nat))(w':World):Prop:=match R with
 | .inr x=>s=x.1∧Rd w' b l x.2 0 p
 | .inl z=>∃a':Nat,a'≤l.length∧z.1≠0∧Rd w' b l a' z.1 z.2
def Zqr(b:Nat)(l:List UInt8)(p:Int)(R:(Int×Nat)⊕(S4×Nat))(w:World)(e:Ending)(w':World):Prop:=
 ∃s,e=.returned (ZcR s)∧s.fit∧Fr (fun k=>k=b) w w'∧Zdy b l p s R w'
theorem ZnM(l:List UInt8)(k:Nat):rng l k=(decide (k+1<l.length)&&[45].isPrefixOf (l.drop k)&& !([45,93].isPrefixOf (l.drop k))):=by
 unfold rng;have e1:([45].isPrefixOf (l.drop k))=(l[k]? ==some 45):=by
  rw[Bool.eq_iff_iff,ZlH];simp
 have e2:([45,93].isPrefixOf (l.drop k))=((l[k]? ==some 45)&&(l[k+1]? ==some 93)):=by
  have:=Zpm l k 0 45;rw[Bool.eq_iff_iff];simp only[Bool.and_eq_true,beq_iff_eq];unfold Lib.occAt at this;simpa using this
 rw[e1,e2];cases decide (k+1<l.length)<;>cases(l[k]? ==some 45)<;>cases(l[k+1]? ==some 93)<;>rfl
theorem fail_any(b:Nat)(l:List UInt8)(a r p e q:Int)(w:World)(h:Rd w b l a r p):
 Calls Tryz.prog 271 #[.pointer (some ⟨b,0,none⟩),.int .i64 e,.int .i64 q] w fun x w'=>x=.returned (.tuple #[])∧Rd w' b l a (if r=0 then e else r) (if r=0 then q else p)∧Fr (fun k=>k=b) w w':=by
 by_cases hr:r=0
 ·subst hr;simp only[if_true];exact fail_ok b l a p e q w h
 ·rw[if_neg hr,if_neg hr];refine(Zl5 b l a r p e q w hr h).mono ?_;rintro x w' ⟨rfl,rfl⟩;exact⟨rfl,h,Fr.refl _ _⟩
theorem ZnN{l:List UInt8}{a:Nat}{z:Int×Nat}(h:itm l a=.inl z):prt l a=.inl z:=by unfold prt;rw[h]
theorem ZnO{l:List UInt8}{a:Nat}{x:It}(h:itm l a=.inr x)(hr:rng l x.next=false):prt l a=.inr (x.set,x.next):=by
 unfold prt;rw[h];simp only;rw[hr];rfl
def rgo(a:Nat)(o1 o2:Option UInt8)(n:Nat):(Int×Nat)⊕(S4×Nat):=match o1,o2 with
 |some c,some d=>if c.toNat≤d.toNat then .inr (spn c.toNat d.toNat,n)else .inl (1,a)
 |_,_=>.inl (1,a)
theorem Zl9{a n:Nat}{o:Option UInt8}:rgo a none o n=.inl (1,a):=rfl
theorem Zj8{a n:Nat}{o:Option UInt8}:rgo a o none n=.inl (1,a):=by cases o<;>rfl
theorem Zpq{a n:Nat}{c d:UInt8}(h:c.toNat≤d.toNat):rgo a (some c) (some d) n=.inr (spn c.toNat d.toNat,n):=if_pos h
theorem Zpr{a n:Nat}{c d:UInt8}(h:¬c.toNat≤d.toNat):rgo a (some c) (some d) n=.inl (1,a):=if_neg h
theorem ZnP{l:List UInt8}{a:Nat}{x:It}{z:Int×Nat}(hx:itm l a=.inr x)(hr:rng l x.next=true)(hy:itm l (x.next+1)=.inl z):prt l a=.inl z:=by
 unfold prt;rw[hx];simp only;rw[hr,hy];rfl
theorem ZnQ{l:List UInt8}{a:Nat}{x y:It}(hx:itm l a=.inr x)(hr:rng l x.next=true)(hy:itm l (x.next+1)=.inr y):prt l a=rgo a x.one y.one y.next:=by
 unfold prt rgo;rw[hx];simp only;rw[hr,hy];rfl
theorem Zma{b:Nat}{l:List UInt8}{a:Nat}{p:Int}{x:It}{s':S4}{o':Bool}{w4:World}(hx:itm l a=.inr x)(hr:rng l x.next=true)(h:Zj4 b l p s' o' (itm l (x.next+1)) w4):
 ∃(a':Nat) (r q:Int),a'≤l.length∧Rd w4 b l a' r q∧
  (∀w,(x.one.isSome=false∨o'=false∨lst s'<lst x.set)→Rd w b l a' (if r=0 then 1 else r) (if r=0 then(a:Int)else q)→Zdy b l p (spn (lst x.set) (lst s')) (prt l a) w)∧
  (∀w,x.one.isSome=true→o'=true→¬lst s'<lst x.set→Rd w b l a' r q→Zdy b l p (spn (lst x.set) (lst s')) (prt l a) w):=by
 cases hy:itm l (x.next+1)with
 |inl z=>
  rw[hy]at h;obtain⟨a',h1,h2,h3⟩:=h;rw[ZnP hx hr hy];refine⟨a',z.1,z.2,h1,h3,fun w _ hw=> ?_,fun w _ _ _ hw=>⟨a',h1,h2,hw⟩⟩;rw[if_neg h2,if_neg h2]at hw;exact⟨a',h1,h2,hw⟩
 |inr y=>
  rw[hy]at h;obtain⟨h1,h2,h3⟩:=h;have g:=ZdF hy;rw[ZnQ hx hr hy];refine⟨y.next,0,p,g.2.1,h3,fun w hb hw=> ?_,fun w h4 h5 h6 hw=> ?_⟩
  ·simp only[if_true]at hw;cases e:x.one with
   |none=>rw[Zl9];exact⟨y.next,g.2.1,(by simp),hw⟩
   |some c=>
    cases f:y.one with
    |none=>rw[Zj8];exact⟨y.next,g.2.1,(by simp),hw⟩
    |some d=>
     have e1:=Ze5 hx e;have e2:=Ze5 hy f;rw[e,h2,f,h1,e1,e2,Ze6 c.toNat_lt,Ze6 d.toNat_lt]at hb;simp only[Option.isSome_some,Bool.true_eq_false,false_or,reduceCtorEq]at hb;rw[Zpr (by omega)];exact⟨y.next,g.2.1,(by simp),hw⟩
  ·cases e:x.one with
   |none=>rw[e]at h4;cases h4
   |some c=>
    cases f:y.one with
    |none=>rw[h2,f]at h5;cases h5
    |some d=>
     have e1:=Ze5 hx e;have e2:=Ze5 hy f;rw[h1,e1,e2,Ze6 c.toNat_lt,Ze6 d.toNat_lt]at h6⊢;rw[Zpq (by omega)];exact⟨rfl,hw⟩
end Go.Proofs.YtkfddjopbocpkaaGreatDoor
