/-
  Merged texts of this claim: Awake1, BrkB, BrkC, BrkD, BrkE, BrkF.
-/
import Derived.Test.YtkfddjopbocpkaaGreatDoorM00
import Derived.LoopN
import Derived.Test.YtkfddjopbocpkaaGreatDoorM02
import Derived.Test.YtkfddjopbocpkaaGreatDoorM03
import Derived.Test.YtkfddjopbocpkaaGreatDoorM06
import Derived.Test.YtkfddjopbocpkaaGreatDoorM07
set_option linter.unusedVariables false
set_option linter.unusedSimpArgs false
set_option maxRecDepth 100000
set_option maxHeartbeats 4000000
namespace Go.Proofs.YtkfddjopbocpkaaGreatDoor
open Go.RowKit
theorem Zb6(s:ByteArray)(o:Option (Int→Bool))(ho:Zas s=o)(w:World):Calls Tryz.prog 209 #[.string s] w fun e w'=>e=.returned (.tuple #[Zc5 (ZbB o),.bool o.isSome])∧Fr nob w w':=by
 subst ho;exact Zek s w
theorem Zle(s:S4)(d:Nat)(w:World)(hs:s.fit)(hd:d<256):Calls Tryz.prog 197 #[Zc5 s,.int .u8 d] w fun e w'=>e=.returned (.bool (s.has d))∧Fr nob w w':=Zk6 s d w hs hd
theorem Zml(l:List UInt8)(u:Value)(w:World)(hl:l.length≤9000000000000000000)(h:SB w l u):Calls Tryz.prog 256 #[u] w fun e w'=>e=.returned (Zc5 (S4.zero.puts l))∧Fr nob w w':=ZlW l u w hl h
theorem Zlf(w:World)(c:UInt8)(T:TypeId):SB (w.alloc (.cells #[.int .u8 (c.toNat:Int)] T)) [c] (.slice (some ⟨w.heap.size,0,none⟩) 1 1):=by
 refine Or.inr ⟨_,_,_,rfl,by simp,?_⟩;intro j x hj
 match j,hj with
 |0,hj=>simp at hj;subst hj;simp[World.cell?_alloc_new]
def Env(w:World):Prop:=Tab w∧∃m,w.cell? ⟨0,0,none⟩=some (.int .i64 m)
theorem Env.on{w w':World}(h:Env w)(f:Fr nob w w'):Env w':=⟨h.1.on f,let⟨m,hm⟩:=h.2;⟨m,f.cell hm (fun x=>x)⟩⟩
def Zid:Nat:=max 0 3+1
theorem Env.on2{w w':World}{b:Nat}(h:Env w)(f:Fr (fun k=>k=b) w w')(hb:Zid≤b):Env w':=
 ⟨h.1.on2 f (fun e=>by unfold Zid at hb;omega),let⟨m,hm⟩:=h.2;⟨m,f.cell hm (fun e=>by simp only at e;unfold Zid at hb;omega)⟩⟩
theorem ZcQ(s t:List UInt8)(w:World)(hs:s.length≤1000000)(h:Env w):
 Calls Tryz.prog 275 #[.string ⟨s.toArray⟩,.string ⟨t.toArray⟩] w fun e w'=>e=.returned (.int .i64 (Lib.index s t))∧w=w':=by
 obtain⟨m,hm⟩:=h.2;refine(Tryz.strings_Index ⟨s.toArray⟩ ⟨t.toArray⟩ m w (by rw[Zbx];omega) hm).mono ?_;rintro e w' ⟨rfl,rfl⟩;exact⟨rfl,rfl⟩
theorem ZL{fn:Func}{p:Tmp}(h:fn.results= #[.cell p 332]){tmps:Array Value}{r:Nat}(ht:tmps.getD p undef=.pointer (some ⟨r,0,none⟩)){W:World}{s:S4}{e:Bool}
 (hb:W.heap[r]? =some (.cells #[.int .u64 s.a,.int .u64 s.b,.int .u64 s.c,.int .u64 s.d,.bool e] 332 (0,0))):(results fn tmps).run Tryz.prog W=.ok (itV s e) W:=by
 have c0:=cell_at (j:=0) (v:=.int .u64 s.a) hb rfl;have c1:=cell_at (j:=1) (v:=.int .u64 s.b) hb rfl;have c2:=cell_at (j:=2) (v:=.int .u64 s.c) hb rfl;have c3:=cell_at (j:=3) (v:=.int .u64 s.d) hb rfl;have c4:=cell_at (j:=4) (v:=.bool e) hb rfl;have ht':tmps[p]?.getD undef=.pointer (some ⟨r,0,none⟩):=by rw[←ht];simp
 simp only[results,h];simp[ht',go_sem,c0,c1,c2,c3,c4]
theorem Zd{w:World}{b:Nat}{v0 v1 v2 v3 v4:Value}{T:TypeId}(h:w.heap[b]? =some (.cells #[v0,v1,v2,v3,v4] T (0,0))):∀w',Fr nob w w'→
 (w'.cell? ⟨b,0,none⟩=some v0∧w'.cell? ⟨b,1,none⟩=some v1∧w'.cell? ⟨b,2,none⟩=some v2∧w'.cell? ⟨b,3,none⟩=some v3∧w'.cell? ⟨b,4,none⟩=some v4)∧
 (w'.frozen? ⟨b,0,none⟩=false∧w'.frozen? ⟨b,1,none⟩=false∧w'.frozen? ⟨b,2,none⟩=false∧w'.frozen? ⟨b,3,none⟩=false∧w'.frozen? ⟨b,4,none⟩=false):=fun _ f=>by
 have h':=f.heap h (fun x=>x);exact⟨⟨cell_at h' rfl,cell_at h' rfl,cell_at h' rfl,cell_at h' rfl,cell_at h' rfl⟩,unfrozen_at h' _,unfrozen_at h' _,unfrozen_at h' _,unfrozen_at h' _,unfrozen_at h' _⟩
abbrev Zfv(w:World)(b:Nat)(v0 v1 v2 v3 v4:Value):World:=(Zau w b v0 v1 v2 v3).setCell ⟨b,4,none⟩ v4
theorem Zz{w:World}{b:Nat}{a0 a1 a2 a3 a4:Value}{T:TypeId}{fr:Nat×Nat}(h:w.heap[b]? =some (.cells #[a0,a1,a2,a3,a4] T fr))(v0 v1 v2 v3 v4:Value):
 (Zfv w b v0 v1 v2 v3 v4).heap[b]? =some (.cells #[v0,v1,v2,v3,v4] T fr):=by
 have h0:(w.setCell ⟨b,0,none⟩ v0).heap[b]? =some (.cells #[v0,a1,a2,a3,a4] T fr):=Za h 0 v0;have h1:((w.setCell ⟨b,0,none⟩ v0).setCell ⟨b,1,none⟩ v1).heap[b]? =some (.cells #[v0,v1,a2,a3,a4] T fr):=Za h0 1 v1;have h2:(((w.setCell ⟨b,0,none⟩ v0).setCell ⟨b,1,none⟩ v1).setCell ⟨b,2,none⟩ v2).heap[b]? =some (.cells #[v0,v1,v2,a3,a4] T fr):=Za h1 2 v2;have h3:(Zau w b v0 v1 v2 v3).heap[b]? =some (.cells #[v0,v1,v2,v3,a4] T fr):=Za h2 3 v3;exact Za h3 4 v4
theorem ZM{S:Nat→Prop}{w a:World}{b:Nat}(f:Fr S a w)(hb:a.heap.size≤b)(v0 v1 v2 v3 v4:Value):Fr S a (Zfv w b v0 v1 v2 v3 v4):=by
 have h:∀(x:World) (j:Nat) (v:Value),Fr S a x→Fr S a (x.setCell ⟨b,j,none⟩ v):=fun x j v hx=>hx.setCell (p:=⟨b,j,none⟩) (fun h=>absurd h (Nat.not_lt.2 hb)) v;exact h _ _ _ (h _ _ _ (h _ _ _ (h _ _ _ (h _ _ _ f))))
theorem ZJ{w:World}{b k:Nat}{o:Obj}(hk:w.heap[k]? =some o)(hne:k≠b)(v0 v1 v2 v3 v4:Value):(Zfv w b v0 v1 v2 v3 v4).heap[k]? =some o:=
 Zc (Zc (Zc (Zc (Zc hk hne _) hne _) hne _) hne _) hne _
theorem ZjQ(c:UInt8):S4.zero.puts [c]=spn c.toNat c.toNat:=S4.ext_has (ZjH _ ZaF) (ZbC _ _) fun e he=>by
 have:=c.toNat_lt;rw[ZjJ _ _ he,Zb3,Zfr _ _ _ (by omega) (by omega) he];by_cases h:c.toNat=e
 ·subst h;simp
 ·simp only[List.any_cons,List.any_nil,Bool.or_false,h,decide_false];by_cases h2:c.toNat≤e
  ·simp[h2];omega
  ·simp[h2]
theorem Zc6(c:UInt8)(w:World)(T:TypeId):Calls Tryz.prog 256 #[.slice (some ⟨w.heap.size,0,none⟩) 1 1] (w.alloc (.cells #[.int .u8 (c.toNat:Int)] T)) fun e w'=>e=.returned (Zc5 (spn c.toNat c.toNat))∧Fr nob (w.alloc (.cells #[.int .u8 (c.toNat:Int)] T)) w':=by
 rw[←ZjQ];exact Zml [c] _ _ (by simp) (Zlf w c T)
theorem ZjR(k c:UInt8):((k.toNat:Int)==46)=(if k=46 then some c else none).isSome:=by
 by_cases h:k=46
 ·subst h;rfl
 ·have:=(fun e=>h (UInt8.toNat_inj.1 e):k.toNat≠(46:UInt8).toNat);rw[if_neg h];simp at this⊢;omega
abbrev Zie(b:Nat)(l:List UInt8)(p:Int)(s:S4)(o:Bool)(R:(Int×Nat)⊕It)(w':World):Prop:=match R with
 | .inr x=>s=x.set∧o=x.one.isSome∧Rd w' b l x.next 0 p
 | .inl z=>∃a':Nat,a'≤l.length∧z.1≠0∧Rd w' b l a' z.1 z.2
theorem Zie.to{b:Nat}{l:List UInt8}{p:Int}{s:S4}{o:Bool}{R:(Int×Nat)⊕It}{w w':World}(h:Zie b l p s o R w)(f:∀x r q,Rd w b l x r q→Rd w' b l x r q):Zie b l p s o R w':=by
 cases R with
 |inr x=>exact⟨h.1,h.2.1,f _ _ _ h.2.2⟩
 |inl z=>obtain⟨a',h1,h2,h3⟩:=h;exact⟨a',h1,h2,f _ _ _ h3⟩
def ZjS(b:Nat)(l:List UInt8)(a:Nat)(p:Int)(R:(Int×Nat)⊕It)(w:World)(e:Ending)(w':World):Prop:=
 ∃s o,e=.returned (itV s o)∧s.fit∧Fr (fun k=>k=b) w w'∧Zie b l p s o R w'
open Go.Lib (hid)
theorem Zif(b:Nat)(l:List UInt8)(a:Nat)(k:UInt8)(p:Int)(w:World)(hl:l.length≤100000)(ha:a+2≤l.length)(hb:Zid≤b)(hE:Env w)(h:Rd w b l a 0 p)(h58:k≠58):
 Calls Tryz.prog 274 #[.pointer (some ⟨b,0,none⟩),.int .u8 (k.toNat:Int)] w (ZjS b l a p (itmN l a k) w):=by
 obtain⟨R,hR⟩:∃R,itmN l a k=R:=⟨_,rfl⟩;rw[hR];have HR:=hid hR;clear hR;have rr:=Zn h;have hbw:=lt_heap h;have H:=hid h;have HE:=hid hE;clear h hE;have t1:((k.toNat:Int)==58)=false:=by simp;intro h;exact h58 (UInt8.toNat_inj.1 (by simp;omega))
 have hkb:=Zb1 k;obtain⟨w0,hw0⟩:∃w0,w0=(w.alloc (.cells #[.int .u64 0,.int .u64 0,.int .u64 0,.int .u64 0,.bool false] 332)).alloc (.cells #[.int .u8 (k.toNat:Int),.int .u8 93] 5):=⟨_,rfl⟩;have hz0:w0.heap[w.heap.size]? =some (.cells #[.int .u64 0,.int .u64 0,.int .u64 0,.int .u64 0,.bool false] 332 (0,0)):=by rw[hw0];exact Ze _ (newAt _ _)
 have f0:Fr nob w w0:=by rw[hw0];exact((Fr.refl _ _).alloc _).alloc _
 have hcv:=ZcA (P:=Tryz.prog) (src:=22) (dst:=9) (e:=5) Tryz.underlying22 Tryz.underlying5 Tryz.underlying9 k 93 (w.alloc (.cells #[.int .u64 0,.int .u64 0,.int .u64 0,.int .u64 0,.bool false] 332));rw[show((93:UInt8).toNat:Int)=93 from rfl,show(w.alloc (.cells #[.int .u64 0,.int .u64 0,.int .u64 0,.int .u64 0,.bool false] 332)).heap.size=w.heap.size+1 by simp]at hcv;have HW0:=hid hw0;have HZ0:=hid hz0;have FW0:=hid f0;have HE0:=hid (HE.out.on f0);have rr0:=Zn (f0.heap H.out (fun x=>x));have hbw0:b<w0.heap.size:=Nat.lt_of_lt_of_le hbw f0.size;clear hw0 hz0 f0;by_cases hlong:l.length<a+3
 ·have HRV:=hid (show itmN l a k=.inl (5,l.length) by
   have:fnd l k (l.length+1) (a+2+skp k)=none:=by
    rw[fnd,if_neg (by unfold skp;rw[if_neg h58];omega)]
   unfold itmN;rw[this])
  go_enter Tryz.func274,Tryz.ntmps274
  go_wp2_with fail
  rw[←HW0.out];clear hcv;refine(fail_ok b l a p 5 l.length _ (H.out.on FW0.out)).mono ?_;rintro e w2 ⟨rfl,h2,f2⟩;have hz2:=f2.heap HZ0.out (fun e=>by omega);have r2:=Zd hz2;have hlz:=lt_heap hz2;have HH:=hid h2;have FF:=hid f2;have HZ2:=hid hz2;clear h2 f2 hz2;go_wp2
  (try simp only[Exit.inBlock,Exit.then])
  refine bodyPost_ret (ZL (s:=S4.zero) (e:=false) rfl rfl (Zz HZ2.out _ _ _ _ _)) rfl ⟨S4.zero,false,rfl,ZaF,ZM (FW0.out.any.trans FF.out (fun i hi e=>e)) (Nat.le_refl _) _ _ _ _ _,?_⟩;rw[←HR.out,HRV.out];exact⟨a,by omega,(by simp),ZJ HH.out (by omega) _ _ _ _ _⟩
 ·have hal:(a:Int)+2+1≤l.length:=by omega
  cases hf:fnd l k (l.length+1) (a+2+1)with
  |none=>
   have hix:Lib.index (l.drop (a+2+1)) [k,93]= -1:=by rw[ZdS _ _ _ (by omega),hf]
   have HRV:=hid (show itmN l a k=.inl (5,l.length) by unfold itmN skp;rw[if_neg h58,hf]);clear hf;have hS:=fun w h=>ZcQ (l.drop (a+2+1)) [k,93] w (by simp;omega) h;rw[hix]at hS;have HS:=hid hS;clear hS hix;go_enter Tryz.func274,Tryz.ntmps274
   go_wp2_with fail
   rw[←HW0.out];clear hcv;refine(HS.out _ HE0.out).mono ?_;rintro e w1 ⟨rfl,rfl⟩
   go_wp2_with fail
   refine(fail_ok b l a p 5 l.length _ (H.out.on FW0.out)).mono ?_;rintro e w2 ⟨rfl,h2,f2⟩;have hz2:=f2.heap HZ0.out (fun e=>by omega);have r2:=Zd hz2;have hlz:=lt_heap hz2;have HH:=hid h2;have FF:=hid f2;have HZ2:=hid hz2;clear h2 f2 hz2;go_wp2
   (try simp only[Exit.inBlock,Exit.then])
   refine bodyPost_ret (ZL (s:=S4.zero) (e:=false) rfl rfl (Zz HZ2.out _ _ _ _ _)) rfl ⟨S4.zero,false,rfl,ZaF,ZM (FW0.out.any.trans FF.out (fun i hi e=>e)) (Nat.le_refl _) _ _ _ _ _,?_⟩;rw[←HR.out,HRV.out];exact⟨a,by omega,(by simp),ZJ HH.out (by omega) _ _ _ _ _⟩
  |some e=>
   obtain⟨h1,h2,h3,h4,h5⟩:=Zb5 hf;obtain⟨d,rfl⟩:∃d,e=a+2+1+d:=⟨e-(a+2+1),by omega⟩;have hix:Lib.index (l.drop (a+2+1)) [k,93]=(d:Int):=by rw[ZdS _ _ _ (by omega),hf];simp only;omega
   have hS:=fun w h=>ZcQ (l.drop (a+2+1)) [k,93] w (by simp;omega) h;rw[hix]at hS;have HS:=hid hS;clear hS hix;have hdb:(a:Int)+2+1+d+1<l.length:=by omega
   have hsl:=Zaa (P:=Tryz.prog) l (lo:=(a:Int)+2) (hi:=(a:Int)+2+1+d) Tryz.underlying9 (by omega) (by omega) (by omega);rw[show((a:Int)+2).toNat=a+2 by omega,show((a:Int)+2+1+d).toNat=a+2+1+d by omega]at hsl;obtain⟨nm,hnm⟩:∃nm,(l.drop (a+2)).take (a+2+1+d-(a+2))=nm:=⟨_,rfl⟩;have hnl:nm.length=1+d:=by rw[←hnm];simp;omega
   rw[hnm]at hsl;have HNM:=hid hnm;have HRA:=hid (show∀c,nm=[c]→itmN l a k=.inr ⟨spn c.toNat c.toNat,if k=46 then some c else none,a+2+1+d+2⟩from fun c hc=>ZjM h58 hf (by unfold nam;rw[hnm,hc]));have HRB:=hid (show nm.length≠1→itmN l a k=.inl (6,a)from fun hc=>ZjN h58 hf (by unfold nam;rw[hnm];exact hc));clear hf h3 h4 h5 hnm;obtain⟨w1,hw1⟩:∃w1,w1=w0.setCell ⟨b,1,none⟩ (.int .i64 ((a:Int)+2+(1+d)+2)):=⟨_,rfl⟩;have hs1:w1.heap.size=w0.heap.size:=by rw[hw1];simp
   have H1:=hid (show Rd w1 b l ((a+2+1+d+2:Nat):Int) 0 p by
    rw[hw1,show((a+2+1+d+2:Nat):Int)=(a:Int)+2+(1+d)+2 by omega];exact Za (FW0.out.heap H.out (fun x=>x)) 1 _)
   have HZ1:=hid (show w1.heap[w.heap.size]? =some (.cells #[.int .u64 0,.int .u64 0,.int .u64 0,.int .u64 0,.bool false] 332 (0,0)) by
    rw[hw1];exact Zc HZ0.out (by simp only;omega) _)
   have FW1:=hid (show Fr (fun k=>k=b) w w1 by rw[hw1];exact Fr.setCell (S:=fun k=>k=b) (p:=⟨b,1,none⟩) FW0.out.any (fun _=>rfl) _);have HW1:=hid hw1;clear hw1;by_cases hd:d=0
   ·have td:((1:Int)+d==1)=true:=by simp;omega
    have td2:((1:Int)+d !=1)=false:=by simp;omega
    have HD:=hid hd;clear hd;go_enter Tryz.func274,Tryz.ntmps274
    go_wp2_with fail
    rw[←HW0.out];clear hcv;refine(HS.out _ HE0.out).mono ?_;rintro e w1 ⟨rfl,rfl⟩
    go_wp2_with fail
    obtain⟨c,rfl⟩:=List.length_eq_one_iff.1 (show nm.length=1 by have:=HD.out;omega);rw[←HW1.out,←hs1];have ho:=ZjR k c;refine(Zc6 c w1 _).mono ?_;have hHRA:=HRA.out c rfl;obtain⟨S,hS⟩:∃S,spn c.toNat c.toNat=S:=⟨_,rfl⟩;have hfit:S.fit:=by rw[←hS];exact ZbC _ _
    rw[hS]at hHRA⊢;rintro e w2 ⟨rfl,f2⟩;have f12:Fr nob w1 w2:=((Fr.refl _ _).alloc _).trans' f2;have hz2:=f12.heap HZ1.out (fun x=>x);have hr2:=H1.out.on f12;have r2:=Zd hz2;have hlz:=lt_heap hz2;have FF:=hid (FW1.out.trans f12 (fun i hi e=>e.elim));have HZ2:=hid hz2;have HR2:=hid hr2;have HRV:=hid hHRA;have HO:=hid ho;clear hz2 hr2 hS hHRA f2 f12 ho;go_wp2
    (try simp only[Exit.inBlock,Exit.then])
    refine bodyPost_ret (ZL (s:=S) (e:=(k.toNat:Int)==46) rfl rfl (Zz HZ2.out _ _ _ _ _)) rfl ⟨S,_,rfl,hfit,ZM FF.out (Nat.le_refl _) _ _ _ _ _,?_⟩;rw[←HR.out,HRV.out];exact⟨rfl,HO.out,ZJ HR2.out (by omega) _ _ _ _ _⟩
   ·have td:((1:Int)+d==1)=false:=by simp;omega
    have td2:((1:Int)+d !=1)=true:=by simp;omega
    go_enter Tryz.func274,Tryz.ntmps274
    go_wp2_with fail
    rw[←HW0.out];clear hcv;refine(HS.out _ HE0.out).mono ?_;rintro e w1 ⟨rfl,rfl⟩
    go_wp2_with fail
    rw[←HW1.out];refine(fail_ok b l _ p 6 a _ H1.out).mono ?_;rintro e w2 ⟨rfl,h2,f2⟩;have hz2:=f2.heap HZ1.out (fun e=>by omega);have r2:=Zd hz2;have hlz:=lt_heap hz2;have HH:=hid h2;have FF:=hid f2;have HZ2:=hid hz2;have HRV:=hid (HRB.out (by omega));clear h2 f2 hz2;go_wp2
    (try simp only[Exit.inBlock,Exit.then])
    refine bodyPost_ret (ZL (s:=S4.zero) (e:=false) rfl rfl (Zz HZ2.out _ _ _ _ _)) rfl ⟨S4.zero,false,rfl,ZaF,ZM (FW1.out.trans FF.out (fun i hi e=>e)) (Nat.le_refl _) _ _ _ _ _,?_⟩;rw[←HR.out,HRV.out];exact⟨a+2+1+d+2,by omega,(by simp),ZJ HH.out (by omega) _ _ _ _ _⟩
def Znc(a e:Nat):Option (Int→Bool)→(Int×Nat)⊕It
 |none=>.inl (6,a)
 |some p=>.inr ⟨pk p 256,none,e+2⟩
theorem Zig(b:Nat)(l:List UInt8)(a:Nat)(p:Int)(w:World)(hl:l.length≤100000)(ha:a+2≤l.length)(hb:Zid≤b)(hE:Env w)(h:Rd w b l a 0 p):
 Calls Tryz.prog 274 #[.pointer (some ⟨b,0,none⟩),.int .u8 58] w (ZjS b l a p (itmN l a 58) w):=by
 obtain⟨R,hR⟩:∃R,itmN l a 58=R:=⟨_,rfl⟩;rw[hR];have HR:=hid hR;clear hR;have rr:=Zn h;have hbw:=lt_heap h;have H:=hid h;have HE:=hid hE;clear h hE;obtain⟨w0,hw0⟩:∃w0,w0=(w.alloc (.cells #[.int .u64 0,.int .u64 0,.int .u64 0,.int .u64 0,.bool false] 332)).alloc (.cells #[.int .u8 58,.int .u8 93] 5):=⟨_,rfl⟩;have hz0:w0.heap[w.heap.size]? =some (.cells #[.int .u64 0,.int .u64 0,.int .u64 0,.int .u64 0,.bool false] 332 (0,0)):=by rw[hw0];exact Ze _ (newAt _ _)
 have f0:Fr nob w w0:=by rw[hw0];exact((Fr.refl _ _).alloc _).alloc _
 have hcv:=ZcA (P:=Tryz.prog) (src:=22) (dst:=9) (e:=5) Tryz.underlying22 Tryz.underlying5 Tryz.underlying9 58 93 (w.alloc (.cells #[.int .u64 0,.int .u64 0,.int .u64 0,.int .u64 0,.bool false] 332));rw[show((93:UInt8).toNat:Int)=93 from rfl,show(w.alloc (.cells #[.int .u64 0,.int .u64 0,.int .u64 0,.int .u64 0,.bool false] 332)).heap.size=w.heap.size+1 by simp]at hcv;rw[show((58:UInt8).toNat:Int)=58 from rfl]at hcv;have HW0:=hid hw0;have HZ0:=hid hz0;have FW0:=hid f0;have HE0:=hid (HE.out.on f0);have rr0:=Zn (f0.heap H.out (fun x=>x));have hbw0:b<w0.heap.size:=Nat.lt_of_lt_of_le hbw f0.size;clear hw0 hz0 f0;have hal:(a:Int)+2≤l.length:=by omega
 cases hf:fnd l 58 (l.length+1) (a+2)with
 |none=>
  have hix:Lib.index (l.drop (a+2)) [58,93]= -1:=by rw[ZdS _ _ _ (by omega),hf]
  have HRV:=hid (Zh8 (l:=l) (a:=a) (k:=58) hf);clear hf;have hS:=fun w h=>ZcQ (l.drop (a+2)) [58,93] w (by simp;omega) h;rw[hix]at hS;have HS:=hid hS;clear hS hix;go_enter Tryz.func274,Tryz.ntmps274
  go_wp2_with fail
  rw[←HW0.out];clear hcv;refine(HS.out _ HE0.out).mono ?_;rintro e w1 ⟨rfl,rfl⟩
  go_wp2_with fail
  refine(fail_ok b l a p 5 l.length _ (H.out.on FW0.out)).mono ?_;rintro e w2 ⟨rfl,h2,f2⟩;have hz2:=f2.heap HZ0.out (fun e=>by omega);have r2:=Zd hz2;have hlz:=lt_heap hz2;have HH:=hid h2;have FF:=hid f2;have HZ2:=hid hz2;clear h2 f2 hz2;go_wp2
  (try simp only[Exit.inBlock,Exit.then])
  refine bodyPost_ret (ZL (s:=S4.zero) (e:=false) rfl rfl (Zz HZ2.out _ _ _ _ _)) rfl ⟨S4.zero,false,rfl,ZaF,ZM (FW0.out.any.trans FF.out (fun i hi e=>e)) (Nat.le_refl _) _ _ _ _ _,?_⟩;rw[←HR.out,HRV.out];exact⟨a,by omega,(by simp),ZJ HH.out (by omega) _ _ _ _ _⟩
 |some e=>
  obtain⟨h1,h2,h3,h4,h5⟩:=Zb5 hf;obtain⟨d,rfl⟩:∃d,e=a+2+d:=⟨e-(a+2),by omega⟩;have hix:Lib.index (l.drop (a+2)) [58,93]=(d:Int):=by rw[ZdS _ _ _ (by omega),hf];simp only;omega
  have hS:=fun w h=>ZcQ (l.drop (a+2)) [58,93] w (by simp;omega) h;rw[hix]at hS;have HS:=hid hS;clear hS hix;have hdb:(a:Int)+2+d+1<l.length:=by omega
  have hsl:=Zaa (P:=Tryz.prog) l (lo:=(a:Int)+2) (hi:=(a:Int)+2+d) Tryz.underlying9 (by omega) (by omega) (by omega);rw[show((a:Int)+2).toNat=a+2 by omega,show((a:Int)+2+d).toNat=a+2+d by omega]at hsl;obtain⟨nm,hnm⟩:∃nm,(l.drop (a+2)).take (a+2+d-(a+2))=nm:=⟨_,rfl⟩;have hnl:nm.length=d:=by rw[←hnm];simp;omega
  rw[hnm]at hsl;obtain⟨o,ho⟩:∃o,Zas ⟨nm.toArray⟩=o:=⟨_,rfl⟩;have HRV:=hid (show itmN l a 58=Znc a (a+2+d) o by
   cases o with
   |none=>exact Zhg hf (by unfold nam;rw[hnm,ho])
   |some p=>exact ZjO hf (by unfold nam;rw[hnm,ho]))
  have HC:=hid (fun w=>Zb6 ⟨nm.toArray⟩ o ho w);clear hf h3 h4 h5 hnm ho;obtain⟨w1,hw1⟩:∃w1,w1=w0.setCell ⟨b,1,none⟩ (.int .i64 ((a:Int)+2+d+2)):=⟨_,rfl⟩;have H1:=hid (show Rd w1 b l ((a+2+d+2:Nat):Int) 0 p by
   rw[hw1,show((a+2+d+2:Nat):Int)=(a:Int)+2+d+2 by omega];exact Za (FW0.out.heap H.out (fun x=>x)) 1 _)
  have HZ1:=hid (show w1.heap[w.heap.size]? =some (.cells #[.int .u64 0,.int .u64 0,.int .u64 0,.int .u64 0,.bool false] 332 (0,0)) by
   rw[hw1];exact Zc HZ0.out (by simp only;omega) _)
  have FW1:=hid (show Fr (fun k=>k=b) w w1 by rw[hw1];exact Fr.setCell (S:=fun k=>k=b) (p:=⟨b,1,none⟩) FW0.out.any (fun _=>rfl) _);have HW1:=hid hw1;clear hw1;go_enter Tryz.func274,Tryz.ntmps274
  go_wp2_with fail
  rw[←HW0.out];clear hcv;refine(HS.out _ HE0.out).mono ?_;rintro e w1' ⟨rfl,rfl⟩
  go_wp2_with fail
  rw[←HW1.out];refine(HC.out w1).mono ?_;obtain⟨S,hS⟩:∃S,ZbB o=S:=⟨_,rfl⟩;have hfit:S.fit:=by rw[←hS];exact Zdq _
  rw[hS];rintro e w2 ⟨rfl,f2⟩;have hz2:=f2.heap HZ1.out (fun x=>x);have hr2:=H1.out.on f2;have hlr2:=lt_heap hr2;have hlz:=lt_heap hz2;have FF:=hid (FW1.out.trans f2 (fun i hi e=>e.elim));have HZ2:=hid hz2;have HR2:=hid hr2;have HS2:=hid hS;clear hz2 hr2 hS f2;cases o with
  |none=>
   go_wp2_with fail
   refine(fail_ok b l _ p 6 a _ (HR2.out.on ((Fr.refl _ _).alloc _))).mono ?_;rintro e w3 ⟨rfl,h3,f3⟩;have hz3:=f3.heap (((Fr.refl nob w2).alloc _).heap HZ2.out (fun x=>x)) (fun e=>by omega);have r3:=Zd hz3;have hn3:=Zn (f3.heap (newAt w2 (.cells #[.int .u64 S.a,.int .u64 S.b,.int .u64 S.c,.int .u64 S.d] 132)) (fun e=>by omega));have HH:=hid h3;have F3:=hid f3;have HZ3:=hid hz3;clear h3 f3 hz3;go_wp2
   (try simp only[Exit.inBlock,Exit.then])
   refine bodyPost_ret (ZL (s:=S) (e:=false) rfl rfl (Zz HZ3.out _ _ _ _ _)) rfl ⟨S,false,rfl,hfit,ZM ((FF.out.alloc _).trans F3.out (fun i hi e=>e)) (Nat.le_refl _) _ _ _ _ _,?_⟩;rw[←HR.out,HRV.out];exact⟨a+2+d+2,by omega,(by simp),ZJ HH.out (by omega) _ _ _ _ _⟩
  |some p0=>
   have r3:=Zd HZ2.out;have hn3:=Zn (newAt w2 (.cells #[.int .u64 S.a,.int .u64 S.b,.int .u64 S.c,.int .u64 S.d] 132));go_wp2
   (try simp only[Exit.inBlock,Exit.then])
   refine bodyPost_ret (ZL (s:=S) (e:=false) rfl rfl (((Fr.refl nob _).alloc _).heap (Zz HZ2.out _ _ _ _ _) (fun x=>x))) rfl ⟨S,false,rfl,hfit,(ZM FF.out (Nat.le_refl _) _ _ _ _ _).alloc _,?_⟩;rw[←HR.out,HRV.out];exact⟨HS2.out.symm,rfl,((Fr.refl nob _).alloc _).heap (ZJ HR2.out (by omega) _ _ _ _ _) (fun x=>x)⟩
theorem named_any(b:Nat)(l:List UInt8)(a:Nat)(k:UInt8)(p:Int)(w:World)(hl:l.length≤100000)(ha:a+2≤l.length)(hb:Zid≤b)(hE:Env w)(h:Rd w b l a 0 p):
 Calls Tryz.prog 274 #[.pointer (some ⟨b,0,none⟩),.int .u8 (k.toNat:Int)] w (ZjS b l a p (itmN l a k) w):=by
 by_cases hk:k=58
 ·subst hk;exact Zig b l a p w hl ha hb hE h
 ·exact Zif b l a k p w hl ha hb hE h hk
theorem ZnH(w:World):(Instr.index 334 (.agg #[.string ⟨#[91,58]⟩,.string ⟨#[91,61]⟩,.string ⟨#[91,46]⟩]) (.int .i64 0)).run Tryz.prog w=.ok (.string ⟨#[91,58]⟩) w:=by kernel_rfl
theorem ZnI(w:World):(Instr.index 334 (.agg #[.string ⟨#[91,58]⟩,.string ⟨#[91,61]⟩,.string ⟨#[91,46]⟩]) (.int .i64 1)).run Tryz.prog w=.ok (.string ⟨#[91,61]⟩) w:=by kernel_rfl
theorem ZnJ(w:World):(Instr.index 334 (.agg #[.string ⟨#[91,58]⟩,.string ⟨#[91,61]⟩,.string ⟨#[91,46]⟩]) (.int .i64 2)).run Tryz.prog w=.ok (.string ⟨#[91,46]⟩) w:=by kernel_rfl
theorem pre2{l:List UInt8}{k:UInt8}{a:Nat}:([91,k].isPrefixOf (l.drop a)=true)↔l[a]? =some 91∧l[a+1]? =some k:=by
 have:=Zmi l a 0 k;unfold Lib.occAt at this;have e1:l[a]? =(l.drop a)[0]? :=by simp
 have e2:l[a+1]? =(l.drop a)[1]? :=by simp
 rw[e1,e2];cases h:l.drop a with
 |nil=>simp
 |cons x r=>
  cases r with
  |nil=>simp
  |cons y r=>
   simp[List.isPrefixOf];constructor<;>(rintro⟨h1,h2⟩;exact⟨h1.symm,h2.symm⟩)
theorem Zc7{l:List UInt8}{a:Nat}{k:UInt8}(hk:Zh7 k=true)(h:[91,k].isPrefixOf (l.drop a)=true):itm l a=itmN l a k∧a+2≤l.length:=by
 obtain⟨h1,h2⟩:=pre2.1 h;have:=(List.getElem?_eq_some_iff.1 h2).1;unfold itm;rw[h1];simp only;rw[h2];simp only;rw[if_pos ⟨trivial,hk⟩];exact⟨rfl,by omega⟩
theorem Zih{l:List UInt8}{a:Nat}(ha:a<l.length)(h1:[91,58].isPrefixOf (l.drop a)=false)(h2:[91,61].isPrefixOf (l.drop a)=false)(h3:[91,46].isPrefixOf (l.drop a)=false):
 itm l a=.inr ⟨spn (l[a]).toNat (l[a]).toNat,some l[a],a+1⟩:=by
 unfold itm;rw[List.getElem?_eq_getElem ha];simp only;split
 ·rfl
 ·next k hk=>
  split
  ·next hc=>
   have h91:l[a]? =some 91:=by rw[List.getElem?_eq_getElem ha,hc.1]
   have hkk:=hc.2;unfold Zh7 at hkk;simp only[Bool.or_eq_true,beq_iff_eq]at hkk;rcases hkk with(rfl|rfl)|rfl
   ·rw[pre2.2 ⟨h91,hk⟩]at h1;cases h1
   ·rw[pre2.2 ⟨h91,hk⟩]at h2;cases h2
   ·rw[pre2.2 ⟨h91,hk⟩]at h3;cases h3
  ·rfl
theorem Zlg{l:List UInt8}{a:Nat}(ha:l.length≤a):itm l a=.inl (5,l.length):=by
 unfold itm;rw[List.getElem?_eq_none ha]
theorem item_any(b:Nat)(l:List UInt8)(a:Nat)(p:Int)(w:World)(hl:l.length≤100000)(ha:a≤l.length)(hb:Zid≤b)(hE:Env w)(h:Rd w b l a 0 p):
 Calls Tryz.prog 269 #[.pointer (some ⟨b,0,none⟩)] w (ZjS b l a p (itm l a) w):=by
 obtain⟨R,hR⟩:∃R,itm l a=R:=⟨_,rfl⟩;rw[hR];have HR:=hid hR;clear hR;have rr:=Zn h;have hbw:=lt_heap h;obtain⟨w0,hw0⟩:∃w0,w0=w.alloc (.cells #[.int .u64 0,.int .u64 0,.int .u64 0,.int .u64 0,.bool false] 332):=⟨_,rfl⟩;have f0:Fr nob w w0:=by rw[hw0];exact(Fr.refl _ _).alloc _
 have HZ0:=hid (show w0.heap[w.heap.size]? =some (.cells #[.int .u64 0,.int .u64 0,.int .u64 0,.int .u64 0,.bool false] 332 (0,0)) by rw[hw0];exact newAt _ _);have FW0:=hid f0;have H0:=hid (h.on f0);have HE0:=hid (hE.on f0);have hbw0:b<w0.heap.size:=Nat.lt_of_lt_of_le hbw f0.size;have rr0:=Zn H0.out;have HW0:=hid hw0;clear hw0;clear h hE f0;have hal:(a:Int)≤l.length:=by omega
 by_cases hend:l.length≤a
 ·have HRV:=hid (Zlg hend);have t1:((l.length:Int)≤a):=by omega
  go_enter Tryz.func269,Tryz.ntmps269
  go_wp2_with fail
  rw[←HW0.out];refine region_fr_all (by kernel_rfl) (by kernel_rfl) ?_
  repeat(quiet_step (fail))
  refine wpQuiet_nil ?_;intro wC fC
  go_wp2_with fail
  refine(fail_ok b l a p 5 l.length _ (H0.out.on fC)).mono ?_;rintro e w2 ⟨rfl,h2,f2⟩;have hz2:=f2.heap (fC.heap HZ0.out (fun x=>x)) (fun e=>by omega);have r2:=Zd hz2;have hlz:=lt_heap hz2;have HH:=hid h2;have FF:=hid ((FW0.out.trans' fC).any.trans f2 (fun i hi e=>e));have HZ2:=hid hz2;clear h2 f2 hz2 fC;go_wp2
  (try simp only[Exit.inBlock,Exit.then])
  refine bodyPost_ret (ZL (s:=S4.zero) (e:=false) rfl rfl (Zz HZ2.out _ _ _ _ _)) rfl ⟨S4.zero,false,rfl,ZaF,ZM FF.out (Nat.le_refl _) _ _ _ _ _,?_⟩;rw[←HR.out,HRV.out];exact⟨a,by omega,(by simp),ZJ HH.out (by omega) _ _ _ _ _⟩
 ·have t1:¬((l.length:Int)≤a):=by omega
  have HA:=hid (fun(t:List UInt8) (ht:t.length≤1000000) w h=>Za3 b l t a 0 p w (by omega) ht ha h);go_enter Tryz.func269,Tryz.ntmps269
  go_wp2_with fail
  rw[←HW0.out];refine region_fr_all (by kernel_rfl) (by kernel_rfl) ?_
  repeat(quiet_step (fail))
  refine wpQuiet_nil ?_;intro wC fC;have o0:=ZnH;have o1:=ZnI;have o2:=ZnJ
  go_wp2_with fail
  refine wp_loop_rounds 4 ?_;rw[rounds_succ]
  go_wp2_with fail
  refine(HA.out [91,58] (by simp) wC (H0.out.on fC)).mono ?_;obtain⟨q0,hq0⟩:∃q,[91,58].isPrefixOf (l.drop a)=q:=⟨_,rfl⟩;rw[hq0];rintro e v0 ⟨rfl,g0⟩;have g0:=Fr.trans' fC g0;cases q0 with
  |true=>
   obtain⟨hRV,h2l⟩:=Zc7 (k:=58) rfl hq0;have HRV:=hid hRV;clear hRV
   go_wp2_with fail
   refine(named_any b l a 58 p v0 hl h2l hb (HE0.out.on g0) (H0.out.on g0)).mono ?_;rintro e w2 ⟨s,o,rfl,hsf,f2,hRR⟩;rw[←HRV.out,HR.out]at hRR;have hz2:=f2.heap (Fr.heap g0 HZ0.out (fun x=>x)) (fun e=>by omega);have r2:=Zd hz2;have hlz:=lt_heap hz2;have FF:=hid ((FW0.out.trans' g0).any.trans f2 (fun i hi e=>e));have HZ2:=hid hz2;have HRR:=hid hRR;have HSF:=hid hsf;clear f2 hz2 hRR hsf;go_wp2
   (try simp only[Exit.inBlock,Exit.then])
   refine bodyPost_ret (ZL (s:=s) (e:=o) rfl rfl (Zz HZ2.out _ _ _ _ _)) rfl ⟨s,o,rfl,HSF.out,ZM FF.out (Nat.le_refl _) _ _ _ _ _,?_⟩;exact HRR.out.to fun x r q h=>ZJ h (by omega) _ _ _ _ _
  |false=>
  have HQ0:=hid hq0;clear hq0
  go_wp2_with fail
  rw[rounds_succ]
  go_wp2_with fail
  refine(HA.out [91,61] (by simp) v0 (H0.out.on g0)).mono ?_;obtain⟨q1,hq1⟩:∃q,[91,61].isPrefixOf (l.drop a)=q:=⟨_,rfl⟩;rw[hq1];rintro e v1 ⟨rfl,g1⟩;have g1:=Fr.trans' g0 g1;cases q1 with
  |true=>
   obtain⟨hRV,h2l⟩:=Zc7 (k:=61) rfl hq1;have HRV:=hid hRV;clear hRV
   go_wp2_with fail
   refine(named_any b l a 61 p v1 hl h2l hb (HE0.out.on g1) (H0.out.on g1)).mono ?_;rintro e w2 ⟨s,o,rfl,hsf,f2,hRR⟩;rw[←HRV.out,HR.out]at hRR;have hz2:=f2.heap (Fr.heap g1 HZ0.out (fun x=>x)) (fun e=>by omega);have r2:=Zd hz2;have hlz:=lt_heap hz2;have FF:=hid ((FW0.out.trans' g1).any.trans f2 (fun i hi e=>e));have HZ2:=hid hz2;have HRR:=hid hRR;have HSF:=hid hsf;clear f2 hz2 hRR hsf;go_wp2
   (try simp only[Exit.inBlock,Exit.then])
   refine bodyPost_ret (ZL (s:=s) (e:=o) rfl rfl (Zz HZ2.out _ _ _ _ _)) rfl ⟨s,o,rfl,HSF.out,ZM FF.out (Nat.le_refl _) _ _ _ _ _,?_⟩;exact HRR.out.to fun x r q h=>ZJ h (by omega) _ _ _ _ _
  |false=>
  have HQ1:=hid hq1;clear hq1
  go_wp2_with fail
  rw[rounds_succ]
  go_wp2_with fail
  refine(HA.out [91,46] (by simp) v1 (H0.out.on g1)).mono ?_;obtain⟨q2,hq2⟩:∃q,[91,46].isPrefixOf (l.drop a)=q:=⟨_,rfl⟩;rw[hq2];rintro e v2 ⟨rfl,g2⟩;have g2:=Fr.trans' g1 g2;cases q2 with
  |true=>
   obtain⟨hRV,h2l⟩:=Zc7 (k:=46) rfl hq2;have HRV:=hid hRV;clear hRV
   go_wp2_with fail
   refine(named_any b l a 46 p v2 hl h2l hb (HE0.out.on g2) (H0.out.on g2)).mono ?_;rintro e w2 ⟨s,o,rfl,hsf,f2,hRR⟩;rw[←HRV.out,HR.out]at hRR;have hz2:=f2.heap (Fr.heap g2 HZ0.out (fun x=>x)) (fun e=>by omega);have r2:=Zd hz2;have hlz:=lt_heap hz2;have FF:=hid ((FW0.out.trans' g2).any.trans f2 (fun i hi e=>e));have HZ2:=hid hz2;have HRR:=hid hRR;have HSF:=hid hsf;clear f2 hz2 hRR hsf;go_wp2
   (try simp only[Exit.inBlock,Exit.then])
   refine bodyPost_ret (ZL (s:=s) (e:=o) rfl rfl (Zz HZ2.out _ _ _ _ _)) rfl ⟨s,o,rfl,HSF.out,ZM FF.out (Nat.le_refl _) _ _ _ _ _,?_⟩;exact HRR.out.to fun x r q h=>ZJ h (by omega) _ _ _ _ _
  |false=>
  have HQ2:=hid hq2;clear hq2
  go_wp2_with fail
  rw[rounds_succ]
  go_wp2_with fail
  have hlt:(a:Int)<l.length:=by omega
  have HRV:=hid (Zih (show a<l.length by omega) HQ0.out HQ1.out HQ2.out);obtain⟨c,hc⟩:∃c,l[a]'(by omega)=c:=⟨_,rfl⟩;refine region_fr 8 (by kernel_rfl) (by kernel_rfl) ?_;simp only[List.take_succ_cons,List.take_zero,List.drop_succ_cons,List.drop_zero]
  repeat(quiet_step (fail))
  refine wpQuiet_nil ?_;intro wD fD;have gD:=Fr.trans' g2 fD;obtain⟨w5,hw5⟩:∃w5,w5=wD.setCell ⟨b,1,none⟩ (.int .i64 ((a:Int)+1)):=⟨_,rfl⟩;have hs5:w5.heap.size=wD.heap.size:=by rw[hw5];simp
  have H5:=hid (show Rd w5 b l ((a+1:Nat):Int) 0 p by
   rw[hw5,show((a+1:Nat):Int)=(a:Int)+1 by omega];exact Za (gD.heap H0.out (fun x=>x)) 1 _)
  have HZ5:=hid (show w5.heap[w.heap.size]? =some (.cells #[.int .u64 0,.int .u64 0,.int .u64 0,.int .u64 0,.bool false] 332 (0,0)) by
   rw[hw5];exact Zc (gD.heap HZ0.out (fun x=>x)) (by simp only;omega) _)
  have FW5:=hid (show Fr (fun k=>k=b) w w5 by rw[hw5];exact Fr.setCell (S:=fun k=>k=b) (p:=⟨b,1,none⟩) (FW0.out.trans' gD).any (fun _=>rfl) _);have HW5:=hid hw5;clear hw5
  go_wp2_with fail
  rw[←HW5.out,←hs5];refine(Zc6 c w5 _).mono ?_;obtain⟨S,hS⟩:∃S,spn c.toNat c.toNat=S:=⟨_,rfl⟩;have hfit:S.fit:=by rw[←hS];exact ZbC _ _
  rw[hS];have HS:=hid hS;clear hS;rintro e w6 ⟨rfl,f6⟩;have f56:Fr nob w5 w6:=((Fr.refl _ _).alloc _).trans' f6;have hz6:=f56.heap HZ5.out (fun x=>x);have r6:=Zd hz6;have hlz:=lt_heap hz6;have FF:=hid (FW5.out.trans f56 (fun i hi e=>e.elim));have HZ6:=hid hz6;have HR6:=hid (H5.out.on f56);have HCC:=hid hc;clear hz6 f6 f56 hc;go_wp2
  (try simp only[Exit.inBlock,Exit.then])
  refine bodyPost_ret (ZL (s:=S) (e:=true) rfl rfl (Zz HZ6.out _ _ _ _ _)) rfl ⟨S,true,rfl,hfit,ZM FF.out (Nat.le_refl _) _ _ _ _ _,?_⟩;rw[←HR.out,HRV.out,HCC.out];exact⟨HS.out.symm,rfl,ZJ HR6.out (by omega) _ _ _ _ _⟩
open Classical in
noncomputable def lst(s:S4):Nat:=if h:∃d b,ZaY s d b then h.choose else 0
theorem ZkH{s:S4}{d:Nat}{b:Bool}(h:ZaY s d b):lst s=d:=by
 have hx:∃d b,ZaY s d b:=⟨d,b,h⟩;unfold lst;rw[dif_pos hx];obtain⟨b',hb⟩:=hx.choose_spec;exact(hb.uniq h).1
theorem ZkI(s:S4):lst s<256:=by
 unfold lst;split
 ·next h=>
  obtain⟨b,hb⟩:=h.choose_spec;rcases hb with⟨_,h0,_⟩|⟨_,h0,_⟩<;>omega
 ·omega
theorem ZdU{c:Nat}(h:c<256):lst (spn c c)=c:=
 ZkH (b:=true) (.inr ⟨rfl,h,by rw[Zfr _ _ _ h h h];simp,fun e he=>by rw[Zfr _ _ _ h h (by omega)];simp;omega⟩)
theorem Zbj(s:S4)(o:Bool)(w:World)(hs:s.fit)(hT:Tab w):
 Calls Tryz.prog 270 #[itV s o] w fun e w'=>e=.returned (.int .u8 (lst s))∧Fr nob w w':=by
 refine(Zfu s o w hs hT).mono ?_;rintro e w' ⟨d,b,rfl,h,_,f⟩;rw[ZkH h];exact⟨rfl,f⟩
theorem Zgz(a b:Nat)(w:World)(ha:a<256)(hb:b<256):Calls Tryz.prog 255 #[.int .u8 a,.int .u8 b] w fun e w'=>e=.returned (Zc5 (spn a b))∧Fr nob w w':=ZjL a b w ha hb
abbrev ZcI(b:Nat)(l:List UInt8)(p:Int)(s:S4)(R:(Int×Nat)⊕(S4×Nat))(w':World):Prop:=match R with
 | .inr x=>s=x.1∧Rd w' b l x.2 0 p
 | .inl z=>∃a':Nat,a'≤l.length∧z.1≠0∧Rd w' b l a' z.1 z.2
def Znd(b:Nat)(l:List UInt8)(p:Int)(R:(Int×Nat)⊕(S4×Nat))(w:World)(e:Ending)(w':World):Prop:=
 ∃s,e=.returned (Zc5 s)∧s.fit∧Fr (fun k=>k=b) w w'∧ZcI b l p s R w'
theorem Zlh(l:List UInt8)(k:Nat):rng l k=(decide (k+1<l.length)&&[45].isPrefixOf (l.drop k)&& !([45,93].isPrefixOf (l.drop k))):=by
 unfold rng;have e1:([45].isPrefixOf (l.drop k))=(l[k]? ==some 45):=by
  rw[Bool.eq_iff_iff,Zjw];simp
 have e2:([45,93].isPrefixOf (l.drop k))=((l[k]? ==some 45)&&(l[k+1]? ==some 93)):=by
  have:=Zmi l k 0 45;rw[Bool.eq_iff_iff];simp only[Bool.and_eq_true,beq_iff_eq];unfold Lib.occAt at this;simpa using this
 rw[e1,e2];cases decide (k+1<l.length)<;>cases(l[k]? ==some 45)<;>cases(l[k+1]? ==some 93)<;>rfl
theorem fail_any(b:Nat)(l:List UInt8)(a r p e q:Int)(w:World)(h:Rd w b l a r p):
 Calls Tryz.prog 271 #[.pointer (some ⟨b,0,none⟩),.int .i64 e,.int .i64 q] w fun x w'=>x=.returned (.tuple #[])∧Rd w' b l a (if r=0 then e else r) (if r=0 then q else p)∧Fr (fun k=>k=b) w w':=by
 by_cases hr:r=0
 ·subst hr;simp only[if_true];exact fail_ok b l a p e q w h
 ·rw[if_neg hr,if_neg hr];refine(ZjP b l a r p e q w hr h).mono ?_;rintro x w' ⟨rfl,rfl⟩;exact⟨rfl,h,Fr.refl _ _⟩
theorem Zli{l:List UInt8}{a:Nat}{z:Int×Nat}(h:itm l a=.inl z):prt l a=.inl z:=by unfold prt;rw[h]
theorem Zlj{l:List UInt8}{a:Nat}{x:It}(h:itm l a=.inr x)(hr:rng l x.next=false):prt l a=.inr (x.set,x.next):=by
 unfold prt;rw[h];simp only;rw[hr];rfl
def rgo(a:Nat)(o1 o2:Option UInt8)(n:Nat):(Int×Nat)⊕(S4×Nat):=match o1,o2 with
 |some c,some d=>if c.toNat≤d.toNat then .inr (spn c.toNat d.toNat,n)else .inl (1,a)
 |_,_=>.inl (1,a)
theorem ZjT{a n:Nat}{o:Option UInt8}:rgo a none o n=.inl (1,a):=rfl
theorem Zii{a n:Nat}{o:Option UInt8}:rgo a o none n=.inl (1,a):=by cases o<;>rfl
theorem Zmm{a n:Nat}{c d:UInt8}(h:c.toNat≤d.toNat):rgo a (some c) (some d) n=.inr (spn c.toNat d.toNat,n):=if_pos h
theorem Zmn{a n:Nat}{c d:UInt8}(h:¬c.toNat≤d.toNat):rgo a (some c) (some d) n=.inl (1,a):=if_neg h
theorem Zlk{l:List UInt8}{a:Nat}{x:It}{z:Int×Nat}(hx:itm l a=.inr x)(hr:rng l x.next=true)(hy:itm l (x.next+1)=.inl z):prt l a=.inl z:=by
 unfold prt;rw[hx];simp only;rw[hr,hy];rfl
theorem Zll{l:List UInt8}{a:Nat}{x y:It}(hx:itm l a=.inr x)(hr:rng l x.next=true)(hy:itm l (x.next+1)=.inr y):prt l a=rgo a x.one y.one y.next:=by
 unfold prt rgo;rw[hx];simp only;rw[hr,hy];rfl
theorem ZjU{b:Nat}{l:List UInt8}{a:Nat}{p:Int}{x:It}{s':S4}{o':Bool}{w4:World}(hx:itm l a=.inr x)(hr:rng l x.next=true)(h:Zie b l p s' o' (itm l (x.next+1)) w4):
 ∃(a':Nat) (r q:Int),a'≤l.length∧Rd w4 b l a' r q∧
  (∀w,(x.one.isSome=false∨o'=false∨lst s'<lst x.set)→Rd w b l a' (if r=0 then 1 else r) (if r=0 then(a:Int)else q)→ZcI b l p (spn (lst x.set) (lst s')) (prt l a) w)∧
  (∀w,x.one.isSome=true→o'=true→¬lst s'<lst x.set→Rd w b l a' r q→ZcI b l p (spn (lst x.set) (lst s')) (prt l a) w):=by
 cases hy:itm l (x.next+1)with
 |inl z=>
  rw[hy]at h;obtain⟨a',h1,h2,h3⟩:=h;rw[Zlk hx hr hy];refine⟨a',z.1,z.2,h1,h3,fun w _ hw=> ?_,fun w _ _ _ hw=>⟨a',h1,h2,hw⟩⟩;rw[if_neg h2,if_neg h2]at hw;exact⟨a',h1,h2,hw⟩
 |inr y=>
  rw[hy]at h;obtain⟨h1,h2,h3⟩:=h;have hyn:=ZcO hy;rw[Zll hx hr hy];refine⟨y.next,0,p,hyn.2.1,h3,fun w hb hw=> ?_,fun w h4 h5 h6 hw=> ?_⟩
  ·simp only[if_true]at hw;cases hxo:x.one with
   |none=>rw[ZjT];exact⟨y.next,hyn.2.1,(by simp),hw⟩
   |some c=>
    cases hyo:y.one with
    |none=>rw[Zii];exact⟨y.next,hyn.2.1,(by simp),hw⟩
    |some d=>
     have e1:=ZdT hx hxo;have e2:=ZdT hy hyo;rw[hxo,h2,hyo,h1,e1,e2,ZdU c.toNat_lt,ZdU d.toNat_lt]at hb;simp only[Option.isSome_some,Bool.true_eq_false,false_or,reduceCtorEq]at hb;rw[Zmn (by omega)];exact⟨y.next,hyn.2.1,(by simp),hw⟩
  ·cases hxo:x.one with
   |none=>rw[hxo]at h4;cases h4
   |some c=>
    cases hyo:y.one with
    |none=>rw[h2,hyo]at h5;cases h5
    |some d=>
     have e1:=ZdT hx hxo;have e2:=ZdT hy hyo;rw[h1,e1,e2,ZdU c.toNat_lt,ZdU d.toNat_lt]at h6⊢;rw[Zmm (by omega)];exact⟨rfl,hw⟩
end Go.Proofs.YtkfddjopbocpkaaGreatDoor
