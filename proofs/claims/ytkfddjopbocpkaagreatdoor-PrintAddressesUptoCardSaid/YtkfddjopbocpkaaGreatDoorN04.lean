/- Lemmas of this claim. -/
import Derived.Laws.Bits64b
import Derived.Lib.TrailingZeros
import Derived.MapKept
import Derived.Defers
import Derived.ChangeSame
import Derived.ChangeOld
import Derived.Below
import Derived.Carry
import Derived.ShutString
import Derived.Test.YtkfddjopbocpkaaGreatDoorN03
set_option linter.unusedVariables false
set_option linter.unusedSimpArgs false
set_option maxRecDepth 100000
set_option maxHeartbeats 4000000
namespace Go.Proofs.YtkfddjopbocpkaaGreatDoor
open Go.Lib (hid)
open Go.RowKit
def pk(p:Int→Bool):Nat→S4
 |0=>S4.zero
 |k+1=>if p k then(pk p k).put k else pk p k
theorem pick_any(f:FuncId)(p:Int→Bool)(w:World)(hn:ZqL f)(hf:Zbd f p):
 Calls Tryz.prog 221 #[.func (.func f) #[] #[]] w fun e w'=>e=.returned (.agg (pk p 256).cells.toArray)∧Fr nob w w':=by
 go_enter Tryz.func221,Tryz.ntmps221;go_wp2_with fail;obtain⟨w0,g⟩:∃w0,w0=((w.alloc (.cells S4.zero.cells.toArray 132)).alloc (.cells S4.zero.cells.toArray 132)):=⟨_,rfl⟩;have f0:Fr nob w w0:=by rw[g];exact((Fr.refl _ _).alloc _).alloc _
 have m:w0.heap[w.heap.size]? =some (.cells S4.zero.cells.toArray 132 (0,0)):=by rw[g];exact Ze _ (heap_alloc_new _ _)
 have l:w0.heap[w.heap.size+1]? =some (.cells S4.zero.cells.toArray 132 (0,0)):=by
  rw[g];have:=heap_alloc_new (w.alloc (.cells S4.zero.cells.toArray 132)) (.cells S4.zero.cells.toArray 132);simpa using this
 change Code.wp _ _ _ _ ((w.alloc (.cells S4.zero.cells.toArray 132)).alloc (.cells S4.zero.cells.toArray 132));rw[←g];have F0:=hid f0;have o:=hid m;have n:=hid l;clear f0 m l g
 go_loopw [5] (fun i wr=>∃k:Nat,i=.int .i32 k∧k≤256∧wr.heap[w.heap.size+1]? =some (.cells (pk p k).cells.toArray 132 (0,0))∧Fr (fun k=>k=w.heap.size+1) w0 wr) (fun i _=>256-(intOf i).toNat)
 case atStart=>exact⟨0,rfl,Nat.zero_le _,n.out,Fr.refl _ _⟩
 case round=>
  obtain⟨k,rfl,hk,hb,fr⟩:=hrel;have HB:=hid hb;have FR:=hid fr;clear hb fr;have FW:=hid (F0.out.trans FR.out (fun i hi x=>by omega));by_cases r:k<256
  ·cases hp:p k with
   |true=>
    have j:=hid (show pk p (k+1)=(pk p k).put k by simp[pk,hp]);have HP:=hid hp;clear hp;go_wp2_with fail;rw[hn];refine(hf k _).mono ?_;rw[HP.out];rintro e w3 ⟨rfl,rfl⟩;go_wp2_with fail;refine(add_any (w.heap.size+1) _ k _ r HB.out).mono ?_;rintro e w3 ⟨rfl,h3,f3⟩;have H3:=hid h3;have F3:=hid f3;clear h3 f3;go_wp2;go_roundw
    case rel=>exact⟨k+1,by go_num,by omega,by rw[j.out];exact H3.out,FR.out.trans' F3.out⟩
    case measure=>simp[intOf];omega
   |false=>
    have j:=hid (show pk p (k+1)=pk p k by simp[pk,hp]);have HP:=hid hp;clear hp;go_wp2_with fail;rw[hn];refine(hf k _).mono ?_;rw[HP.out];rintro e w3 ⟨rfl,rfl⟩;go_wp2;go_roundw
    case rel=>exact⟨k+1,by go_num,by omega,by rw[j.out];exact HB.out,FR.out⟩
    case measure=>simp[intOf];omega
  ·obtain rfl:k=256:=by omega
   have hb:=HB.out;obtain⟨c0,c1,c2,c3,_⟩:=Zcn hb;have hr:=FR.out.heap o.out (fun e=>by omega);obtain⟨_,_,_,_,f0,f1,f2,f3⟩:=Zcn hr;have v:=lt_heap hr;have u:=lt_heap hb;have t:=hid hb;have q:=hid hr;clear hb hr;go_wp2;(try simp only[Exit.inBlock,Exit.then]);have hW:=Za (Za (Za (Za q.out 0 (.int .u64 (pk p 256).a)) 1 (.int .u64 (pk p 256).b)) 2 (.int .u64 (pk p 256).c)) 3 (.int .u64 (pk p 256).d);refine bodyPost_ret (Zs (s:=pk p 256) rfl rfl hW) rfl ⟨rfl,?_⟩;exact(((FW.out.setCell (p:=⟨w.heap.size,0,none⟩) (fun h=>absurd h (Nat.lt_irrefl _)) _).setCell (p:=⟨w.heap.size,1,none⟩) (fun h=>absurd h (Nat.lt_irrefl _)) _).setCell (p:=⟨w.heap.size,2,none⟩) (fun h=>absurd h (Nat.lt_irrefl _)) _).setCell (p:=⟨w.heap.size,3,none⟩) (fun h=>absurd h (Nat.lt_irrefl _)) _
def ZaD(o:Option (Int→Bool)):S4:=match o with
 |none=>S4.zero
 |some p=>pk p 256
theorem ZfH(w:World):(binOp .eql 264 .nilFunc .nilFunc).run Tryz.prog w=.ok (.bool true) w:=by kernel_rfl
theorem ZlV(f:FuncId)(w:World):(binOp .eql 264 (.func (.func f) #[] #[]) .nilFunc).run Tryz.prog w=.ok (.bool false) w:=by kernel_rfl
theorem Zdq{fn:Func}{p q:Tmp}(h:fn.results= #[.cell p 132,.tmp q]){tmps:Array Value}{r:Nat}(ht:tmps.getD p undef=.pointer (some ⟨r,0,none⟩)){v:Value}(hq:tmps.getD q undef=v){W:World}{s:S4}
 (hb:W.heap[r]? =some (.cells s.cells.toArray 132 (0,0))):(results fn tmps).run Tryz.prog W=.ok (.tuple #[.agg s.cells.toArray,v]) W:=by
 obtain⟨c0,c1,c2,c3,_⟩:=Zcn hb;have b:tmps[p]?.getD undef=.pointer (some ⟨r,0,none⟩):=by rw[←ht];simp
 have a:tmps[q]?.getD undef=v:=by rw[←hq];simp
 simp only[results,h];simp[b,a,go_sem,c0,c1,c2,c3,S4.cells]
theorem ZfI(s:ByteArray)(w:World):Calls Tryz.prog 209 #[.string s] w fun e w'=>e=.returned (.tuple #[.agg (ZaD (Zak s)).cells.toArray,.bool (Zak s).isSome])∧Fr nob w w':=by
 obtain⟨o,ho⟩:∃o,Zak s=o:=⟨_,rfl⟩;rw[ho];have HO:=hid ho;clear ho;have q0:=ZfH;have q1:=ZlV;go_enter Tryz.func209,Tryz.ntmps209;go_wp2_with fail;refine(class_any s _).mono ?_;rw[HO.out];rintro e w1 ⟨v,rfl,hc,rfl⟩;rcases hc with⟨rfl,rfl⟩|⟨f,p,rfl,rfl,hn,hf⟩
 ·go_wp2;(try simp only[Exit.inBlock,Exit.then]);exact bodyPost_ret (Zdq (s:=S4.zero) rfl rfl rfl (Zg _ _ _ (by simp))) rfl ⟨rfl,(Fr.refl _ _).alloc _⟩
 ·go_wp2_with fail;refine(pick_any f p _ hn hf).mono ?_;rintro e w1 ⟨he,h1⟩;rw[S4.cells_eq]at he;subst he;have hb:=h1.heap (heap_alloc_new w (.cells S4.zero.cells.toArray 132)) (fun x=>x);obtain⟨c0,c1,c2,c3,f0,f1,f2,f3⟩:=Zcn hb;have HB:=hid hb;have F1:=hid h1;clear h1 hb;go_wp2;(try simp only[Exit.inBlock,Exit.then]);exact bodyPost_ret (Zdq (s:=pk p 256) rfl rfl rfl (setFour_heap HB.out _ _ _ _)) rfl ⟨rfl,Zp (((Fr.refl _ _).alloc _).trans' F1.out) (Nat.le_refl _) _ _ _ _⟩
def spanTo(a:Nat):Nat→S4
 |0=>S4.zero
 |n+1=>(spanTo a n).put (a+n)
def spn(a b:Nat):S4:=spanTo a (b+1-a)
theorem ZwU(a b:Nat)(w:World)(ha:a<256)(hb:b<256):
 Calls Tryz.prog 198 #[.int .u8 a,.int .u8 b] w fun e w'=>e=.returned (.agg (spn a b).cells.toArray)∧Fr nob w w':=by
 go_enter Tryz.func198,Tryz.ntmps198;go_wp2_with fail;obtain⟨w0,f⟩:∃w0,w0=((w.alloc (.cells S4.zero.cells.toArray 62)).alloc (.cells S4.zero.cells.toArray 62)):=⟨_,rfl⟩;have f0:Fr nob w w0:=by rw[f];exact((Fr.refl _ _).alloc _).alloc _
 have m:w0.heap[w.heap.size]? =some (.cells S4.zero.cells.toArray 62 (0,0)):=by rw[f];exact Ze _ (heap_alloc_new _ _)
 have l:w0.heap[w.heap.size+1]? =some (.cells S4.zero.cells.toArray 62 (0,0)):=by
  rw[f];have:=heap_alloc_new (w.alloc (.cells S4.zero.cells.toArray 62)) (.cells S4.zero.cells.toArray 62);simpa using this
 change Code.wp _ _ _ _ ((w.alloc (.cells S4.zero.cells.toArray 62)).alloc (.cells S4.zero.cells.toArray 62));rw[←f];have F0:=hid f0;have q:=hid m;have o:=hid l;clear f0 m l f
 go_loopw [6] (fun i wr=>∃k:Nat,i=.int .i64 (a+k:Nat)∧(k=0∨a+k≤b+1)∧wr.heap[w.heap.size+1]? =some (.cells (spanTo a k).cells.toArray 62 (0,0))∧Fr (fun k=>k=w.heap.size+1) w0 wr) (fun i _=>256-(intOf i).toNat)
 case atStart=>exact⟨0,rfl,.inl rfl,o.out,Fr.refl _ _⟩
 case round=>
  obtain⟨k,rfl,hk,g,fr⟩:=hrel;have HB:=hid g;have FR:=hid fr;have FW:=hid (F0.out.trans FR.out (fun i hi x=>by omega));obtain⟨c0,c1,c2,c3,z0,z1,z2,z3⟩:=Zcn g;have z:=lt_heap g;clear g fr;obtain⟨n,hn⟩:∃n,a+k=n:=⟨_,rfl⟩;rw[hn];have HN:=hid hn;by_cases B:n≤b
  ·have wn:IntKind.u8.wrap (n:Int)=(n:Int):=IntWalk.u8_in _ (by omega);clear hn hk;go_wp2_with fail;refine(withR_any (spanTo a k) n _ (by omega)).mono ?_;rintro e w3 ⟨he,f3⟩;rw[S4.cells_eq]at he;subst he;have h3:=f3.heap HB.out (fun x=>x);obtain⟨_,_,_,_,y0,y1,y2,y3⟩:=Zcn h3;have y:=lt_heap h3;have H3:=hid h3;have F3:=hid f3;clear h3 f3;go_wp2;go_roundw
   case rel=>
    refine⟨k+1,by have:=HN.out;congr 1;omega,.inr (by have:=HN.out;omega),?_,?_⟩
    ·have:=setFour_heap (w:=w3) (b:=w.heap.size+1) H3.out (.int .u64 ((spanTo a k).put n).a) (.int .u64 ((spanTo a k).put n).b) (.int .u64 ((spanTo a k).put n).c) (.int .u64 ((spanTo a k).put n).d);rw[show spanTo a (k+1)=(spanTo a k).put n by rw[←HN.out];rfl];exact this
    ·refine FR.out.trans' ?_;have h:∀(x:World) (j:Nat) (v:Value),Fr (fun k=>k=w.heap.size+1) wr x→Fr (fun k=>k=w.heap.size+1) wr (x.setCell ⟨w.heap.size+1,j,none⟩ v):=fun x j v hx=>hx.setCell (p:=⟨w.heap.size+1,j,none⟩) (fun _=>rfl) v;exact h _ _ _ (h _ _ _ (h _ _ _ (h _ _ _ F3.out.any)))
   case measure=>simp[intOf];omega
  ·have t:=hid (show spanTo a k=spn a b by unfold spn;congr 1;omega);clear hn hk;have hb:=HB.out;rw[t.out]at hb c0 c1 c2 c3;have hr:=FR.out.heap q.out (fun e=>by omega);obtain⟨_,_,_,_,f0,f1,f2,f3⟩:=Zcn hr;have A:=lt_heap hr;have u:=hid hb;have r:=hid hr;clear hb hr;go_wp2;(try simp only[Exit.inBlock,Exit.then]);exact bodyPost_ret (Zww (s:=spn a b) rfl rfl (setFour_heap r.out _ _ _ _)) rfl ⟨rfl,Zp FW.out (Nat.le_refl _) _ _ _ _⟩
theorem S4.word_not(s:S4)(d:Nat):wd (s.not.word d)= ~~~ wd (s.word d):=by
 unfold S4.word S4.not;split<;>exact ZvN _
theorem Zvm(s:S4)(d:Nat):s.not.has d= !s.has d:=by
 unfold S4.has;rw[S4.word_not,BitVec.getLsbD_not];have:d%64<64:=Nat.mod_lt _ (by decide);simp[this]
theorem ZcO(d:Nat):S4.zero.has d=false:=by
 unfold S4.has S4.word S4.zero;have:wd 0=0#64:=by decide
 split<;>rw[this]<;>simp
theorem Zph(s t:S4):(s.or t).fit:=⟨ZaT .or s.a t.a,ZaT .or s.b t.b,ZaT .or s.c t.c,ZaT .or s.d t.d⟩
theorem ZnE(s:S4):s.not.fit:=⟨ZaT .xor _ s.a,ZaT .xor _ s.b,ZaT .xor _ s.c,ZaT .xor _ s.d⟩
theorem ZlW:Fit 0:=⟨by decide,by decide⟩
theorem ZaU:S4.zero.fit:=⟨ZlW,ZlW,ZlW,ZlW⟩
theorem Ze3(x:Int)(n:Nat):Fit (orw x n):=ZaT .or x _
theorem fit_put{s:S4}(h:s.fit)(d:Nat):(s.put d).fit:=by
 unfold S4.put;split
 ·exact⟨Ze3 _ _,h.2.1,h.2.2.1,h.2.2.2⟩
 ·exact⟨h.1,Ze3 _ _,h.2.2.1,h.2.2.2⟩
 ·exact⟨h.1,h.2.1,Ze3 _ _,h.2.2.2⟩
 ·exact⟨h.1,h.2.1,h.2.2.1,Ze3 _ _⟩
theorem ZlX(l:List UInt8):∀{s:S4},s.fit→(s.puts l).fit:=by
 induction l with
 |nil=>intro s h;exact h
 |cons c r ih=>intro s h;exact ih (fit_put h _)
theorem fit_spanTo(a:Nat):∀n,(spanTo a n).fit
 |0=>ZaU
 |n+1=>fit_put (fit_spanTo a n) _
theorem fit_spn(a b:Nat):(spn a b).fit:=fit_spanTo _ _
theorem Zic(p:Int→Bool):∀n,(pk p n).fit
 |0=>ZaU
 |n+1=>by unfold pk;split;exact fit_put (Zic p n) _;exact Zic p n
theorem Zdd(o:Option (Int→Bool)):(ZaD o).fit:=by
 unfold ZaD;split;exact ZaU;exact Zic _ _
theorem S4.ext_has{s t:S4}(hs:s.fit)(ht:t.fit)(h:∀d,d<256→s.has d=t.has d):s=t:=by
 have e:∀q,q<4→wd (s.word (64*q))=wd (t.word (64*q)):=by
  intro q hq;apply BitVec.eq_of_getLsbD_eq;intro i hi;have:=h (64*q+i) (by omega);unfold S4.has at this;have w1:∀u:S4,u.word (64*q+i)=u.word (64*q):=fun u=>by
   unfold S4.word;rw[show(64*q+i)/64=64*q/64 by omega]
  rw[w1,w1,show(64*q+i)%64=i by omega]at this;exact this
 obtain⟨a,b,c,d⟩:=s;obtain⟨a',b',c',d'⟩:=t;have h0:=Zh8 hs.1 ht.1 (e 0 (by decide));have h1:=Zh8 hs.2.1 ht.2.1 (e 1 (by decide));have h2:=Zh8 hs.2.2.1 ht.2.2.1 (e 2 (by decide));have h3:=Zh8 hs.2.2.2 ht.2.2.2 (e 3 (by decide));subst h0;subst h1;subst h2;subst h3;rfl
theorem Zpi:∀n:Fin 64,wd (IntKind.u64.wrap (2^n.val))=BitVec.twoPow 64 n.val:=by decide +kernel
theorem Zpj(x:Int){n:Nat}(h:n<64):wd (orw x n)=wd x|||BitVec.twoPow 64 n:=by
 unfold orw;rw[Zqf,Zpi ⟨n,h⟩]
theorem ZlY(s:S4)(d e:Nat)(hd:d<256)(he:e<256):wd ((s.put d).word e)=if d/64=e/64 then wd (s.word e)|||BitVec.twoPow 64 (d%64)else wd (s.word e):=by
 have hm:d%64<64:=Nat.mod_lt _ (by decide);have hq:d/64=0∨d/64=1∨d/64=2∨d/64=3:=by omega
 have hr:e/64=0∨e/64=1∨e/64=2∨e/64=3:=by omega
 unfold S4.put S4.word;rcases hq with hq|hq|hq|hq<;>rcases hr with hr|hr|hr|hr<;>simp[hq,hr,Zpj,hm]
theorem ZjW(s:S4)(d e:Nat)(hd:d<256)(he:e<256):(s.put d).has e=(decide (d=e)||s.has e):=by
 unfold S4.has;rw[ZlY s d e hd he];split
 ·next h=>
  rw[BitVec.getLsbD_or,BitVec.getLsbD_twoPow,Bool.or_comm]
  congr 1
  have:d%64<64:=Nat.mod_lt _ (by decide);simp only[this,decide_true,Bool.true_and];rw[decide_eq_decide];omega
 ·next h=>
  have:d≠e:=fun x=>h (by rw[x]);simp[this]
theorem ZlZ(l:List UInt8)(e:Nat)(he:e<256):∀s:S4,(s.puts l).has e=(l.any (fun c=>decide (c.toNat=e))||s.has e):=by
 induction l with
 |nil=>intro s;simp[S4.puts]
 |cons c r ih=>
  intro s;rw[S4.puts,ih,ZjW _ _ _ c.toNat_lt he,List.any_cons];cases decide (c.toNat=e)<;>cases r.any (fun c=>decide (c.toNat=e))<;>simp
theorem Zi0(a e:Nat)(he:e<256):∀n,a+n≤256→(spanTo a n).has e=(decide (a≤e)&&decide (e<a+n)):=by
 intro n;induction n with
 |zero=>intro _;rw[spanTo,ZcO];simp<;>omega
 |succ n ih=>
  intro h;rw[spanTo,ZjW _ _ _ (by omega) he,ih (by omega)];rw[Bool.eq_iff_iff];simp;omega
theorem Zg3(a b e:Nat)(ha:a<256)(hb:b<256)(he:e<256):(spn a b).has e=(decide (a≤e)&&decide (e≤b)):=by
 unfold spn;rcases Nat.lt_or_ge b a with h|h
 ·rw[show b+1-a=0 by omega];rw[spanTo,ZcO];simp<;>omega
 ·rw[Zi0 _ _ he _ (by omega)];rw[Bool.eq_iff_iff];simp;omega
theorem S4.not_not{s:S4}(h:s.fit):s.not.not=s:=S4.ext_has (ZnE _) h fun d _=>by rw[Zvm,Zvm];simp
theorem Zuv(p:Nat→Bool):∀n,ZsI (fun i=> !p i) n+ZsI p n=n
 |0=>rfl
 |n+1=>by
  have ih:=Zuv p n;have hb:∀a:Bool,(if(!a)=true then 1 else 0)+(if a=true then 1 else 0)=1:=by decide
  have:=hb (p n);simp only[ZsI];omega
theorem Zvn{s:S4}(hs:s.fit):s.not.len+s.len=256:=by
 have h1:ZsI s.not.has 256=ZsI (fun i=> !s.has i) 256:=ZsF fun i _=>Zvm _ _;rw[←Zuu (ZnE s),←Zuu hs,h1,Zuv]
theorem len_le{s:S4}(hs:s.fit):s.len≤256:=by have:=Zvn hs;omega
def Tab(w:World):Prop:=∀j,j<64→w.cell? ⟨3,j,none⟩=some (.int .u8 (Lib.deBruijn64tab.getD j 0:Nat))
theorem Tab.on{w w':World}(h:Tab w)(f:Fr nob w w'):Tab w':=fun j hj=>f.cell (h j hj) (fun x=>x)
theorem Tab.on2{w w':World}{S:Nat→Prop}(h:Tab w)(f:Fr S w w')(hn:¬S 3):Tab w':=fun j hj=>f.cell (h j hj) hn
theorem Tab.lt{w:World}(h:Tab w):3<w.heap.size:=World.block_lt_of_cell? w _ (h 0 (by decide))
theorem Zpk(x a:Nat)(hx:x<18446744073709551616)(hx0:x≠0)(hlow:x&&& (18446744073709551616-x)=a):
 IntKind.u64.wrap (bits .and .u64 (x:Int) (IntKind.u64.wrap (-(x:Int)))*285870213051353865)/288230376151711744=((a*285870213051353865%18446744073709551616/288230376151711744:Nat):Int):=by
 have e1:IntKind.u64.wrap (-(x:Int))=((18446744073709551616-x:Nat):Int):=by rw[IntKind.wrap_u64];omega
 rw[e1,bits_and_u64_nat x _ hx (by omega),hlow,IntKind.wrap_u64];omega
theorem tz_any(x:Nat)(hx:x<18446744073709551616)(hx0:x≠0)(w:World)(hT:Tab w):
 Calls Tryz.prog 187 #[.int .u64 x] w fun e w'=>e=.returned (.int .i64 (Lib.ctz 64 x))∧w=w':=by
 obtain⟨d,hk⟩:=Lib.lowest_bit 64 x hx0 hx;obtain⟨hi,f⟩:=Lib.deBruijn64_at _ hk;have b:=Zpk x _ hx hx0 d;have a:=hT _ hi;rw[f]at a;obtain⟨k,g⟩:∃k,Lib.ctz 64 x=k:=⟨_,rfl⟩;rw[g]at a hk b hi⊢;obtain⟨j,c⟩:∃i,2^k*285870213051353865%18446744073709551616/288230376151711744=i:=⟨_,rfl⟩;rw[c]at a b hi;have h0:((x:Int)==0)=false:=by simp;omega
 have h:=hid b;clear d f g c hx hx0 hT b;go_enter Tryz.func187,Tryz.ntmps187;go_wp2_with(simp only[h.out]);go_ret;exact⟨rfl,rfl⟩
theorem ZfJ{x:Nat}(hx0:x≠0)(hx:x<18446744073709551616):Lib.ctz 64 x<64:=(Lib.lowest_bit 64 x hx0 hx).2
theorem Zl0{x:Nat}(hx0:x≠0)(hx:x<18446744073709551616):x.testBit (Lib.ctz 64 x)=true∧∀i,i<Lib.ctz 64 x→x.testBit i=false:=by
 unfold Lib.ctz;rw[if_neg hx0];obtain⟨m,hm,_⟩:=Lib.ctzFrom_spec 64 x (by omega) hx;generalize Lib.ctzFrom 64 x=k at *;subst hm;constructor
 ·rw[Nat.testBit_eq_decide_div_mod_eq,Nat.mul_div_cancel_left _ (Nat.two_pow_pos k)];simp
 ·intro i hi;rw[Nat.testBit_eq_decide_div_mod_eq];obtain⟨d,rfl⟩:∃d,k=i+(d+1):=⟨k-i-1,by omega⟩;rw[Nat.pow_add,Nat.mul_assoc,Nat.mul_div_cancel_left _ (Nat.two_pow_pos i),Nat.pow_succ];simp;rw[Nat.mul_assoc,Nat.mul_comm,Nat.mul_assoc];omega
def Zbi(s:S4)(d:Nat)(b:Bool):Prop:=(b=false∧d=0∧s=S4.zero)∨(b=true∧d<256∧s.has d=true∧∀e,e<d→s.has e=false)
theorem Zbi.uniq{s:S4}{d d':Nat}{b b':Bool}(h:Zbi s d b)(h':Zbi s d' b'):d=d'∧b=b':=by
 rcases h with⟨rfl,rfl,rfl⟩|⟨rfl,h1,h2,h3⟩<;>rcases h' with⟨rfl,rfl,h'⟩|⟨rfl,e,a,c⟩
 ·exact⟨rfl,rfl⟩
 ·rw[ZcO]at a;cases a
 ·subst h';rw[ZcO]at h2;cases h2
 ·refine⟨?_,rfl⟩;rcases Nat.lt_trichotomy d d' with h|h|h
  ·rw[c d h]at h2;cases h2
  ·exact h
  ·rw[h3 d' h]at a;cases a
theorem word_bit{x:Int}(h:Fit x)(i:Nat):(wd x).getLsbD i=x.toNat.testBit i:=by
 have:=Zh7 h;have e:(wd x).toNat=x.toNat:=by omega
 rw[BitVec.getLsbD,e]
theorem S4.has_word{s:S4}(hs:s.fit)(q i:Nat)(hq:q<4)(hi:i<64):s.has (64*q+i)=(s.word (64*q)).toNat.testBit i:=by
 unfold S4.has;have hw:s.word (64*q+i)=s.word (64*q):=by unfold S4.word;rw[show(64*q+i)/64=64*q/64 by omega]
 have hf:Fit (s.word (64*q)):=by unfold S4.word;split;exact hs.1;exact hs.2.1;exact hs.2.2.1;exact hs.2.2.2
 rw[hw,word_bit hf,show(64*q+i)%64=i by omega]
def S4.noughts(s:S4)(q:Nat):Prop:=∀r,r<q→s.word (64*r)=0
theorem ZcP{s:S4}(hs:s.fit){q:Nat}(hq:q<4)(h0:s.noughts q)(x:Nat)(hx:s.word (64*q)=(x:Int))(hx0:x≠0):Zbi s (64*q+Lib.ctz 64 x) true:=by
 have hf:Fit (s.word (64*q)):=by unfold S4.word;split;exact hs.1;exact hs.2.1;exact hs.2.2.1;exact hs.2.2.2
 have a:x<18446744073709551616:=by have:=hf.2;omega
 have hc:=ZfJ hx0 a;obtain⟨b1,b2⟩:=Zl0 hx0 a;refine .inr ⟨rfl,by omega,?_,?_⟩
 ·rw[S4.has_word hs q _ hq hc,hx];exact b1
 ·intro e he;have hd:e=64*(e/64)+e%64:=by omega
  have hm:e%64<64:=Nat.mod_lt _ (by decide);rw[hd,S4.has_word hs _ _ (by omega) hm];rcases Nat.lt_or_ge (e/64) q with h|h
  ·rw[h0 _ h];simp
  ·have:e/64=q:=by omega
   rw[this,hx];exact b2 _ (by omega)
theorem Zi1{s:S4}(h0:s.noughts 4):Zbi s 0 false:=by
 refine .inl ⟨rfl,rfl,?_⟩;obtain⟨a,b,c,d⟩:=s;have e0:=h0 0 (by decide);have e1:=h0 1 (by decide);have e2:=h0 2 (by decide);have e3:=h0 3 (by decide);simp[S4.word]at e0 e1 e2 e3;subst e0;subst e1;subst e2;subst e3;rfl
theorem ZnF(a b c d:Value)(w:World):(Instr.index 132 (.agg #[a,b,c,d]) (.int .i64 0)).run Tryz.prog w=.ok a w:=by kernel_rfl
theorem ZnG(a b c d:Value)(w:World):(Instr.index 132 (.agg #[a,b,c,d]) (.int .i64 1)).run Tryz.prog w=.ok b w:=by kernel_rfl
theorem ZnH(a b c d:Value)(w:World):(Instr.index 132 (.agg #[a,b,c,d]) (.int .i64 2)).run Tryz.prog w=.ok c w:=by kernel_rfl
theorem ZnI(a b c d:Value)(w:World):(Instr.index 132 (.agg #[a,b,c,d]) (.int .i64 3)).run Tryz.prog w=.ok d w:=by kernel_rfl
def Zpl(s:S4)(w:World)(e:Ending)(w':World):Prop:=∃(d:Nat) (b:Bool),e=.returned (.tuple #[.int .u8 d,.bool b])∧Zbi s d b∧Fr nob w w'
theorem least_any(s:S4)(w:World)(hs:s.fit)(hT:Tab w):
 Calls Tryz.prog 168 #[.agg #[.int .u64 s.a,.int .u64 s.b,.int .u64 s.c,.int .u64 s.d]] w (Zpl s w):=by
 obtain⟨s0,s1,s2,s3⟩:=s;obtain⟨x0,rfl⟩:∃x:Nat,s0=(x:Int):=⟨s0.toNat,by have:=hs.1.1;simp only at this;omega⟩;obtain⟨x1,rfl⟩:∃x:Nat,s1=(x:Int):=⟨s1.toNat,by have:=hs.2.1.1;simp only at this;omega⟩;obtain⟨x2,rfl⟩:∃x:Nat,s2=(x:Int):=⟨s2.toNat,by have:=hs.2.2.1.1;simp only at this;omega⟩;obtain⟨x3,rfl⟩:∃x:Nat,s3=(x:Int):=⟨s3.toNat,by have:=hs.2.2.2.1;simp only at this;omega⟩;have b0:x0<18446744073709551616:=by have:=hs.1.2;simp only at this;omega
 have b1:x1<18446744073709551616:=by have:=hs.2.1.2;simp only at this;omega
 have b2:x2<18446744073709551616:=by have:=hs.2.2.1.2;simp only at this;omega
 have b3:x3<18446744073709551616:=by have:=hs.2.2.2.2;simp only at this;omega
 have B0:=hid b0;have B1:=hid b1;have B2:=hid b2;have B3:=hid b3;clear b0 b1 b2 b3;have HS:=hid hs;have i0:=ZnF;have i1:=ZnG;have i2:=ZnH;have i3:=ZnI;have HT:=hid (hT.on ((Fr.refl nob w).alloc (.cells #[.int .u64 x0,.int .u64 x1,.int .u64 x2,.int .u64 x3] 132)));clear hT hs;go_enter Tryz.func168,Tryz.ntmps168;go_wp2_with fail
 go_loop [7] (fun i=>∃k:Nat,i=.int .i64 k∧k≤4∧(S4.mk (x0:Int) x1 x2 x3).noughts k) (fun i=>4-(intOf i).toNat)
 case atStart=>exact⟨0,rfl,by omega,fun r hr=>by omega⟩
 case round=>
  obtain⟨k,rfl,hk,h0⟩:=hrel;have H0:=hid h0;clear h0;have g:k=0∨k=1∨k=2∨k=3∨k=4:=by omega
  rcases g with rfl|rfl|rfl|rfl|rfl
  ·by_cases f:x0=0
   ·have HN:=hid (show(S4.mk (x0:Int) x1 x2 x3).noughts 1 from fun r hr=>by
     rcases Nat.lt_or_ge r 0 with h|h
     ·exact H0.out r h
     ·obtain rfl:r=0:=by omega
      show(x0:Int)=0;omega)
    have t0:((x0:Int) !=0)=false:=by simp;omega
    clear f;go_wp2
    go_round
    case rel=>exact⟨1,by go_num,by omega,HN.out⟩
    case measure=>simp[intOf]
   ·have t0:((x0:Int) !=0)=true:=by simp;omega
    have HL:=hid (ZcP HS.out (q:=0) (by decide) H0.out x0 rfl f);have hc:=ZfJ f B0.out;have hT:=HT.out;go_wp2_with fail;refine(tz_any x0 B0.out f _ hT).mono ?_;rintro e w' ⟨rfl,rfl⟩;go_wp2;go_ret2;exact⟨_,true,by simp,HL.out,(Fr.refl _ _).alloc _⟩
  ·by_cases f:x1=0
   ·have HN:=hid (show(S4.mk (x0:Int) x1 x2 x3).noughts 2 from fun r hr=>by
     rcases Nat.lt_or_ge r 1 with h|h
     ·exact H0.out r h
     ·obtain rfl:r=1:=by omega
      show(x1:Int)=0;omega)
    have t0:((x1:Int) !=0)=false:=by simp;omega
    clear f;go_wp2
    go_round
    case rel=>exact⟨2,by go_num,by omega,HN.out⟩
    case measure=>simp[intOf]
   ·have t0:((x1:Int) !=0)=true:=by simp;omega
    have HL:=hid (ZcP HS.out (q:=1) (by decide) H0.out x1 rfl f);have hc:=ZfJ f B1.out;have hT:=HT.out;go_wp2_with fail;refine(tz_any x1 B1.out f _ hT).mono ?_;rintro e w' ⟨rfl,rfl⟩;go_wp2;go_ret2;exact⟨_,true,by simp,HL.out,(Fr.refl _ _).alloc _⟩
  ·by_cases f:x2=0
   ·have HN:=hid (show(S4.mk (x0:Int) x1 x2 x3).noughts 3 from fun r hr=>by
     rcases Nat.lt_or_ge r 2 with h|h
     ·exact H0.out r h
     ·obtain rfl:r=2:=by omega
      show(x2:Int)=0;omega)
    have t0:((x2:Int) !=0)=false:=by simp;omega
    clear f;go_wp2
    go_round
    case rel=>exact⟨3,by go_num,by omega,HN.out⟩
    case measure=>simp[intOf]
   ·have t0:((x2:Int) !=0)=true:=by simp;omega
    have HL:=hid (ZcP HS.out (q:=2) (by decide) H0.out x2 rfl f);have hc:=ZfJ f B2.out;have hT:=HT.out;go_wp2_with fail;refine(tz_any x2 B2.out f _ hT).mono ?_;rintro e w' ⟨rfl,rfl⟩;go_wp2;go_ret2;exact⟨_,true,by simp,HL.out,(Fr.refl _ _).alloc _⟩
  ·by_cases f:x3=0
   ·have HN:=hid (show(S4.mk (x0:Int) x1 x2 x3).noughts 4 from fun r hr=>by
     rcases Nat.lt_or_ge r 3 with h|h
     ·exact H0.out r h
     ·obtain rfl:r=3:=by omega
      show(x3:Int)=0;omega)
    have t0:((x3:Int) !=0)=false:=by simp;omega
    clear f;go_wp2
    go_round
    case rel=>exact⟨4,by go_num,by omega,HN.out⟩
    case measure=>simp[intOf]
   ·have t0:((x3:Int) !=0)=true:=by simp;omega
    have HL:=hid (ZcP HS.out (q:=3) (by decide) H0.out x3 rfl f);have hc:=ZfJ f B3.out;have hT:=HT.out;go_wp2_with fail;refine(tz_any x3 B3.out f _ hT).mono ?_;rintro e w' ⟨rfl,rfl⟩;go_wp2;go_ret2;exact⟨_,true,by simp,HL.out,(Fr.refl _ _).alloc _⟩
  ·go_wp2;go_ret2;exact⟨0,false,rfl,Zi1 H0.out,(Fr.refl _ _).alloc _⟩
theorem Zl1(a b:Nat)(w:World)(ha:a<256)(hb:b<256):
 Calls Tryz.prog 255 #[.int .u8 a,.int .u8 b] w fun e w'=>e=.returned (.agg (spn a b).cells.toArray)∧Fr nob w w':=by
 go_enter Tryz.func255,Tryz.ntmps255;go_wp2_with fail;obtain⟨w0,c⟩:∃w0,w0=((w.alloc (.cells S4.zero.cells.toArray 132)).alloc (.cells S4.zero.cells.toArray 132)):=⟨_,rfl⟩;have f0:Fr nob w w0:=by rw[c];exact((Fr.refl _ _).alloc _).alloc _
 have g:w0.heap[w.heap.size]? =some (.cells S4.zero.cells.toArray 132 (0,0)):=by rw[c];exact Ze _ (heap_alloc_new _ _)
 have f:w0.heap[w.heap.size+1]? =some (.cells S4.zero.cells.toArray 132 (0,0)):=by
  rw[c];have:=heap_alloc_new (w.alloc (.cells S4.zero.cells.toArray 132)) (.cells S4.zero.cells.toArray 132);simpa using this
 change Code.wp _ _ _ _ ((w.alloc (.cells S4.zero.cells.toArray 132)).alloc (.cells S4.zero.cells.toArray 132));rw[←c];have F0:=hid f0;have j:=hid g;have h:=hid f;clear f0 g f c
 go_loopw [6] (fun i wr=>∃k:Nat,i=.int .i64 (a+k:Nat)∧(k=0∨a+k≤b+1)∧wr.heap[w.heap.size+1]? =some (.cells (spanTo a k).cells.toArray 132 (0,0))∧Fr (fun k=>k=w.heap.size+1) w0 wr) (fun i _=>256-(intOf i).toNat)
 case atStart=>exact⟨0,rfl,.inl rfl,h.out,Fr.refl _ _⟩
 case round=>
  obtain⟨k,rfl,hk,d,fr⟩:=hrel;have HB:=hid d;have FR:=hid fr;clear d fr;have FW:=hid (F0.out.trans FR.out (fun i hi x=>by omega));obtain⟨n,hn⟩:∃n,a+k=n:=⟨_,rfl⟩;rw[hn];have HN:=hid hn;by_cases r:n≤b
  ·have wn:IntKind.u8.wrap (n:Int)=(n:Int):=IntWalk.u8_in _ (by omega);clear hn hk;go_wp2_with fail;refine(add_any (w.heap.size+1) _ n _ (by omega) HB.out).mono ?_;rintro e w3 ⟨rfl,h3,f3⟩;have H3:=hid h3;have F3:=hid f3;clear h3 f3;go_wp2;go_roundw
   case rel=>exact⟨k+1,by have:=HN.out;congr 1;omega,.inr (by have:=HN.out;omega),by have:=H3.out;rw[←HN.out]at this;exact this,FR.out.trans' F3.out⟩
   case measure=>simp[intOf];omega
  ·have m:=hid (show spanTo a k=spn a b by unfold spn;congr 1;omega);clear hn hk;have hb:=HB.out;rw[m.out]at hb;obtain⟨c0,c1,c2,c3,_⟩:=Zcn hb;have hr:=FR.out.heap j.out (fun e=>by omega);obtain⟨_,_,_,_,f0,f1,f2,f3⟩:=Zcn hr;have q:=lt_heap hr;have p:=lt_heap hb;have o:=hid hb;have l:=hid hr;clear hb hr;go_wp2;(try simp only[Exit.inBlock,Exit.then]);exact bodyPost_ret (Zs (s:=spn a b) rfl rfl (setFour_heap l.out _ _ _ _)) rfl ⟨rfl,Zp FW.out (Nat.le_refl _) _ _ _ _⟩
open Go.RowKit Go.MapKept
theorem Zce{w:World}{m:Nat}(o:Obj):Fr (fun k=>k=m) w {w with heap:=w.heap.setIfInBounds m o}:=
 ⟨rfl,rfl,rfl,by simp,fun k hk hn=>by simp[Array.getElem?_setIfInBounds_ne (Ne.symm hn)]⟩
theorem Zfz{α:Type}{l:List α}(h:l.Nodup){i j:Nat}(hi:i<l.length)(e:l[i]? =l[j]?):i=j:=by
 have hj:j<l.length:=by
  rw[List.getElem?_eq_getElem hi]at e;exact(List.getElem?_eq_some_iff.1 e.symm).1
 rw[List.getElem?_eq_getElem hi,List.getElem?_eq_getElem hj]at e;injection e with e;have hp:=List.pairwise_iff_getElem.1 h;rcases Nat.lt_trichotomy i j with a|rfl|a
 ·exact absurd e (hp i j hi hj a)
 ·rfl
 ·exact absurd e.symm (hp j i hj hi a)
section
variable {P:Program} {mty kt et:TypeId}
end
theorem Zsg{fn:Func}{t u v x:Tmp}(h:fn.results= #[.tmp t,.tmp u,.tmp v,.tmp x])(tmps:Array Value)(P:Program)(w:World):
 (results fn tmps).run P w=.ok (.tuple #[tmps.getD t undef,tmps.getD u undef,tmps.getD v undef,tmps.getD x undef]) w:=by
 simp[results,h]
theorem Ztx(T:TypeId)(b o:Nat)(cs:Array Value)(bs:List UInt8)(g:Option Nat)(l:List UInt8)(u:FrameMode)(w:World)(h:Zc3 5 T b o cs bs g w)(hl:Zfx T cs.size o)(hlen:bs.length+l.length≤140737488355328):
 CallsD Tryz.prog 50 #[.pointer (some ⟨b,o,none⟩),.string ⟨l.toArray⟩] u w fun e u' w'=>u'=u∧e=.returned (.tuple #[.int .i64 l.length,.nilIface])∧
  ∃v',Zc3 5 T b o (ZaK cs b o v') (bs++l) v'.ownBlock w'∧Fr (fun k=>k=b∨some k=g) w w'∧(∀k,v'.ownBlock=some k→some k=g∨w.heap.size≤k):=by
 obtain⟨i0,hi,G,H,I⟩:=info_parts ZeW;have HL:=hid hl;clear hl
 go_enter_d Tryz.func50,Tryz.ntmps50
 go_wp2_with(go_at_call 82;refine(copyCheck_any T b o cs bs g _ h HL.out).mono ?_);rintro e w1 ⟨rfl,h1,x⟩;obtain⟨hb,ho,hp,v,hv,B,hg,z,A⟩:=h1;have c1:w1.cell? ⟨b,o+1,none⟩=some v:=cell_at hb hv;have HB:=hid hb;have HO:=hid ho;have HV:=hid hv;have HG:=hid hg;have HN:=hid z;have HP:=hid hp;have HI:=hid A;clear hb ho hv hg z hp A;go_wp2_with(at_builtin;refine wpList_append_gs rfl _ _ 22 9 rfl 5 i0 Tryz.underlying22 Tryz.underlying9 hi G H I _ _ _ rfl B ⟨l.toArray⟩ rfl ?c3 ?c4 ?_)
 case c3=>unfold maxLen;show bs.length+l.toArray.size≤_;simp;omega
 case c4=>show bs.length+l.toArray.size≤_;simp;omega
 intro v' w2 d a;have hb:=HB.out;have c:=HG.out;have q:=HN.out;have i:w2.heap[b]? =some (.cells (cs.setIfInBounds o (.pointer (some ⟨b,o,none⟩))) T (0,0)):=
  a.fr.heap hb (fun e=>q (by rw[←c,e]))
 have d1:w2.cell? ⟨b,o+1,none⟩=some v:=cell_at i HV.out;have f1:w2.frozen? ⟨b,o+1,none⟩=false:=unfrozen_at i _;have J:=lt_heap hb;have j:v'.ownBlock≠some b:=by
  intro e;rcases a.old b e with h|h
  ·exact q (by rw[←c,h])
  ·omega
 have m:∀k,v'.ownBlock=some k→some k=g∨w.heap.size≤k:=by
  intro k hk;have:=x.size;rcases a.old k hk with h|h
  ·exact .inl (by rw[←c,h])
  ·exact .inr (by omega)
 have f:w2.ownsRow 0 5 1 v' (bs++l).length (bcells (bs++l)):=by
  rw[Zaj,List.length_append];exact d
 have n:bs++l=[]→v'=.slice none 0 0:=fun h=>by
  rw[List.append_eq_nil_iff]at h;exact a.nil.2 ⟨HI.out h.1,by show l.toArray.size=0;simp[h.2]⟩
 have y:Fr (fun k=>k=b∨some k=g) w w2:=by
  refine(x.mono (fun _ _ h=>Or.inl h)).trans a.fr (fun k _ h=>Or.inr ?_);rw[←c,h]
 obtain⟨ga,gn,gc,F⟩:=Zcs f;have E:=hid n;clear n;have C:=hid i;have r:=hid j;have s:=hid m;have t:=hid f;have D:=hid y;clear hb i c q j m f d y;subst F;go_wp2;go_ret2;have ho:=HO.out;refine⟨by simp,_,⟨Za C.out _ _,?_,.inr ?_,_,ZdU ho,?_,rfl,r.out,E.out⟩,?_,s.out⟩
 ·rw[ZY];simpa using ho
 ·unfold ZaK;rw[Zau (by omega)];exact ZdU (by simp at ho;omega)
 ·exact ownsRow_fr t.out ((Fr.refl (fun k=>k=b) w2).setCell (p:=⟨b,o+1,none⟩) (fun _=>rfl) _) (fun k hk e=>r.out (by rw[hk,e]))
 ·exact D.out.setCell (p:=⟨b,o+1,none⟩) (fun _=>Or.inl rfl) _
def ZiS(w:World)(m:Nat)(cl:List (List UInt8)):Prop:=∃es clock,w.heap[m]? =some (.map es clock)∧Stamped es clock∧
 (∀x∈es.toList,∃k:List UInt8,x.key=.string ⟨k.toArray⟩∧x.val=.int .i64 (cl.count k:Nat))∧(∀k∈cl,∃x∈es.toList,x.key=.string ⟨k.toArray⟩)
theorem ZiS.fr{X:Nat→Prop}{w w':World}{m:Nat}{cl:List (List UInt8)}(h:ZiS w m cl)(f:Fr X w w')(hm:¬X m):ZiS w' m cl:=by
 obtain⟨es,a,hb,h⟩:=h;exact⟨es,a,f.heap hb hm,h⟩
theorem ZiS.lt{w:World}{m:Nat}{cl:List (List UInt8)}(h:ZiS w m cl):m<w.heap.size:=by obtain⟨es,a,hb,_⟩:=h;exact lt_heap hb
theorem ZiS.new{w:World}{m:Nat}(h:w.heap[m]? =some (.map #[] 0)):ZiS w m []:=⟨#[],0,h,stamped_empty 0,by simp,by simp⟩
section
variable {P:Program} {mty kt et:TypeId}
theorem ZfB(hm:P.underlying mty=some (.map kt et))(hd:P.underlying kt=some .string)(hz:∀w,(zeroValue et).run P w=.ok (.int .i64 0) w){w:World}{m:Nat}{cl:List (List UInt8)}(h:ZiS w m cl)(n:List UInt8):
 (Instr.lookup mty (.map (some m)) (.string ⟨n.toArray⟩) false).run P w=.ok (.int .i64 (cl.count n:Nat)) w:=by
 obtain⟨es,b,hb,hs,hv,hk⟩:=h;have c:∀x∈es.toList,IsKey .string x.key:=fun x hx=>by obtain⟨k,e,_⟩:=hv x hx;rw[e];trivial
 have a:IsKey .string (.string ⟨n.toArray⟩):=trivial;rcases findNow_spec a es.toList 0 c with⟨h1,h2⟩|⟨j,e,h1,h2,h3⟩
 ·have hc:cl.count n=0:=List.count_eq_zero.2 fun hn=>by obtain⟨x,hx,e⟩:=hk n hn;exact h2 x hx e
  simp[Instr.lookup,run_underlying hm,MapKept.run_getObj_map hb,run_checkKey hd a,run_findKey hd h1,Result.andThen,hz,hc]
 ·have he:e∈es.toList:=List.mem_of_getElem? h2;obtain⟨k,e1,e2⟩:=hv e he;rw[e1]at h3;have:k=n:=by injection h3 with h;injection h with h;exact Array.toList_inj.2 h|>fun e=>by simpa using e
  subst this;simp[Instr.lookup,run_underlying hm,MapKept.run_getObj_map hb,run_checkKey hd a,run_findKey hd h1,Result.andThen,e2]
theorem ZgY(hm:P.underlying mty=some (.map kt et))(hd:P.underlying kt=some .string){w:World}{m:Nat}{cl:List (List UInt8)}(h:ZiS w m cl)(n:List UInt8):
 ∃w',(Instr.mapUpdate mty (.map (some m)) (.string ⟨n.toArray⟩) (.int .i64 ((cl.count n:Nat)+1))).run P w=.ok () w'∧ZiS w' m (cl++[n])∧Fr (fun k=>k=m) w w':=by
 obtain⟨es,a,hb,hs,hv,hk⟩:=h;have p:∀x∈es.toList,IsKey .string x.key:=fun x hx=>by obtain⟨k,e,_⟩:=hv x hx;rw[e];trivial
 have d:IsKey .string (.string ⟨n.toArray⟩):=trivial;have c:∀x∈es.toList,x.key≠.string ⟨n.toArray⟩→∃k:List UInt8,x.key=.string ⟨k.toArray⟩∧x.val=.int .i64 ((cl++[n]).count k:Nat):=fun x hx hne=>by
  obtain⟨k,k1,k2⟩:=hv x hx;refine⟨k,k1,?_⟩;have d:k≠n:=by rintro rfl;exact hne k1
  rw[k2,List.count_append];simp[List.count_singleton,Ne.symm d]
 rcases findNow_spec d es.toList 0 p with⟨h1,h2⟩|⟨j,e,h1,h2,h3⟩
 ·have hc:cl.count n=0:=List.count_eq_zero.2 fun hn=>by obtain⟨x,hx,e⟩:=hk n hn;exact h2 x hx e
  refine⟨{w with heap:=w.heap.setIfInBounds m (.map (es.push {key:=.string ⟨n.toArray⟩,val:=.int .i64 ((cl.count n:Nat)+1),born:=a}) (a+1))},?_,?_,Zce _⟩
  ·simp[Instr.mapUpdate,run_underlying hm,MapKept.run_getObj_map hb,run_checkKey hd d,run_findKey hd h1,Result.andThen,MapKept.run_setObj_map _ hb]
  ·refine⟨_,_,(heap_set hb).1,stamped_push hs h2,?_,?_⟩
   ·intro x hx;simp only[Array.toList_push,List.mem_append,List.mem_singleton]at hx;rcases hx with hx|rfl
    ·exact c x hx (h2 x hx)
    ·exact⟨n,rfl,by simp⟩
   ·intro k b;rcases List.mem_append.1 b with b|b
    ·obtain⟨x,hx,e⟩:=hk k b;exact⟨x,by simp[hx],e⟩
    ·rw[List.mem_singleton]at b;subst b;exact⟨{key:=.string ⟨k.toArray⟩,val:=.int .i64 ((cl.count k:Nat)+1),born:=a},by simp,rfl⟩
 ·have he:e∈es.toList:=List.mem_of_getElem? h2;have hj:es[j]? =some e:=by simpa using h2
  have o:j<es.size:=(Array.getElem?_eq_some_iff.1 hj).1;have f:∀e',es[j]? =some e'→({e' with key:=.string ⟨n.toArray⟩,val:=.int .i64 ((cl.count n:Nat)+1)}:MapEntry).key=e'.key:=fun e' he'=>by rw[hj]at he';cases he';exact h3.symm
  refine⟨{w with heap:=w.heap.setIfInBounds m (.map (es.modify j fun x=>{x with key:=.string ⟨n.toArray⟩,val:=.int .i64 ((cl.count n:Nat)+1)}) a)},?_,?_,Zce _⟩
  ·simp[Instr.mapUpdate,run_underlying hm,MapKept.run_getObj_map hb,run_checkKey hd d,run_findKey hd h1,Result.andThen,hj,h3,run_keyThatStays d,MapKept.run_setObj_map _ hb]
  ·refine⟨_,_,(heap_set hb).1,stamped_modify hs _ _ (fun _ _=>rfl) (fun e' _ he'=>f e' he'),?_,?_⟩
   ·intro y hy;rw[Array.mem_toList_iff,Array.mem_iff_getElem?]at hy;obtain⟨i,hi⟩:=hy;rw[Array.getElem?_modify]at hi;split at hi
    ·rw[show es[i]? =some e from by rw[←hj];congr 1;omega]at hi;simp only[Option.map_some,Option.some.injEq]at hi;subst hi;exact⟨n,rfl,by simp⟩
    ·next l=>
     refine c y (Array.mem_toList_iff.2 (Array.mem_of_getElem? hi)) fun hy=> ?_;have s:i<es.size:=(Array.getElem?_eq_some_iff.1 hi).1;have e1:(es.toList.map (·.key))[j]? =(es.toList.map (·.key))[i]? :=by
      rw[List.getElem?_map,List.getElem?_map,Array.getElem?_toList,Array.getElem?_toList,hj,hi];simp only[Option.map_some,Option.some.injEq];rw[h3,hy]
     exact l (Zfz hs.2.2 (by simpa using o) e1)
   ·intro k b;have g:=MapKept.modify_keys (es:=es) j (fun x=>{x with key:=.string ⟨n.toArray⟩,val:=.int .i64 ((cl.count n:Nat)+1)}) f;have:∃x∈es.toList,x.key=.string ⟨k.toArray⟩:=by
     rcases List.mem_append.1 b with h|h
     ·exact hk k h
     ·rw[List.mem_singleton]at h;subst h;exact⟨e,he,h3⟩
    obtain⟨y,hy,q⟩:=this;have hm:(.string ⟨k.toArray⟩:Value)∈(es.modify j (fun x=>{x with key:=.string ⟨n.toArray⟩,val:=.int .i64 ((cl.count n:Nat)+1)})).toList.map (·.key):=by
     rw[g];exact List.mem_map.2 ⟨y,hy,q⟩
    obtain⟨z,hz,r⟩:=List.mem_map.1 hm;exact⟨z,hz,r⟩
end
open Go.ChangeShapes Go.WideShapes Go.ChangeAt Go.RowKit
section
variable {H:Type} {enc:TypeId×Value→H} {P:Program}
theorem trodAll_stays(hl:laidOutB P=true){W W':World}{sp:Nat→Bool}(hb:Below W.heap.size W W'):∀(ts:List TypeId) (vs:List Value) (ds:List (DataW H)) (ps:List MemPlace),
 (∀t∈ts,P.readableRec t=true∧t<P.types.size)→DataW.TrodAll enc P W 0 (fun _=>true) true ts vs ds ps→(∀x∈ps,x.block<W.heap.size)→(∀x∈ps,sp x.block=true)→
 DataW.TrodAll enc P W' 0 sp true ts vs ds ps
 |[],[],[],ps,_,h,_,_=>h
 |t::ts,v::vs,d::ds,ps,hr,⟨p,q,h1,h2,e⟩,hlt,hsp=>by
  subst e;refine⟨p,q,?_,?_,rfl⟩
  ·exact WideElems.Trod_stays hl (hr t (by simp)).1 (hr t (by simp)).2 h1 (fun x hx=>hb.same (hlt x (by simp[hx]))) (fun x hx=>hsp x (by simp[hx]))
  ·exact trodAll_stays hl hb ts vs ds q (fun t ht=>hr t (by simp[ht])) h2 (fun x hx=>hlt x (by simp[hx])) (fun x hx=>hsp x (by simp[hx]))
 |[],[],_::_,_,_,h,_,_=>h.elim
 |[],_::_,_,_,_,h,_,_=>h.elim
 |_::_,[],_,_,_,h,_,_=>h.elim
 |_::_,_::_,[],_,_,h,_,_=>h.elim
theorem ZwE{w:World}{base:Nat}{spare:Nat→Bool}{held:Bool}{m:Nat}{k:IntKind}{e:TypeId}(he:P.underlying e=some (.int k)):∀(cs:List Value) (xs:List (DataW H×List MemPlace)),
 cs.length=xs.length→(∀i,i<xs.length→DataW.trod enc P w base spare held m e ((cs.drop i).take 1)=xs[i]?)→∃zs:List Int,cs=zs.map (Value.int k)∧∀z∈zs,(Lit.int k z).wf=true
 |[],_,_,_=>⟨[],rfl,by simp⟩
 |c::cs,[],h,_=>by simp at h
 |c::cs,x::xs,hl,h=>by
  obtain⟨zs,hz,hw⟩:=ZwE he cs xs (by simpa using hl) (fun i hi=>by simpa using h (i+1) (by simp;omega));have h0:=h 0 (by simp);simp only[List.drop_zero,List.take_succ_cons,List.take_zero,List.getElem?_cons_zero]at h0;obtain⟨z,hc,_,wz⟩:=DataW.trod_int he h0;simp only[List.cons.injEq,and_true]at hc;refine⟨z::zs,by simp[hc,hz],?_⟩;intro y hy;rcases List.mem_cons.1 hy with rfl|hy
  ·exact wz
  ·exact hw y hy
theorem list4_of{α:Type}{zs:List α}(h:zs.length=4):∃a b c d,zs=[a,b,c,d]:=by
 match zs,h with
 |[a,b,c,d],_=>exact⟨a,b,c,d,rfl⟩
theorem ZlP{f:Func}{s:ChangeSpec}{apart fresh handsOn again:Bool}{W W':World}{args:Array Value}{ds gs:List (DataW H)}{before:List MemPlace}{tb:TypeId}
 (hvars:s.vars=[]) (hres:f.resultTypes= #[tb]) (htb:P.underlying tb=some .bool) (hl:laidOutB P=true) (hrd:∀t∈f.params.toList,P.readableRec t=true∧t<P.types.size)
 (hsp:s.fn H (ds++gs)={results:=[.lit (.bool true)],args:=ds})
 (hW:DataW.Whole enc P f.params.toList s.vars apart W args.toList ds gs before) (hb:Below W.heap.size W W'):
 s.post enc P f apart fresh handsOn again W args (.bool true) W':=by
 have d:∀p∈before,p.block<W.heap.size:=fun p hp=>hW.lt p hp;have i:∀p∈before,(fun b=>decide (b<W.heap.size)) p.block=true:=fun p hp=>by simpa using d p hp
 have a:∀(b:Nat) (sp:Nat→Bool) (hd:Bool),DataW.TrodAll enc P W' b sp hd f.resultTypes.toList ((Value.bool true).resultList f.resultTypes.size) (s.fn H (ds++gs)).results []:=by
  intro b sp hd;rw[hsp,hres];exact trodAll_cons_mk (shut_bool htb _) trodAll_mk0
 obtain⟨p,q,hA,hV,e,hz,hn⟩:=hW;have hW:DataW.Whole enc P f.params.toList s.vars apart W args.toList ds gs before:=⟨p,q,hA,hV,e,hz,hn⟩;have g:=hV;rw[hvars]at g;obtain⟨rfl,rfl⟩:=trodVars_none g;simp only[List.append_nil]at e hsp a;subst e;have c:∀sp:Nat→Bool,(∀x∈before,sp x.block=true)→DataW.TrodAll enc P W' 0 sp true f.params.toList args.toList (s.fn H (ds++[])).args before:=by
  intro sp h;simp only[List.append_nil];rw[hsp];exact trodAll_stays hl hb _ _ _ _ hrd hA d h
 have j:∀sp:Nat→Bool,DataW.TrodVars enc P W' sp s.vars (s.fn H (ds++[])).vars []:=by
  intro sp;simp only[List.append_nil];rw[hvars,hsp];rfl
 refine⟨ds,[],before,[],before,[],hW,by simpa using a _ _ _,c _ i,j _,World.keptBut_mono (fun x hx=>⟨hx,.inr (.inl hx)⟩) (hb.frame (·∈before)),fun _=> ?_⟩;refine⟨ok_one hres rfl (okWide_bool_mk htb _),(s.fn H (ds++[])).results++(s.fn H (ds++[])).args,[],before,⟨[]++before,[],?_,?_,by simp,?_,?_⟩,?_⟩
 ·exact trodAll_append (c _ (fun _ _=>rfl)) (by simpa using a _ _ _)
 ·rw[hvars];rfl
 ·intro b off hp;rw[hb.frozen (d _ hp)];exact hz b off hp
 ·intro ha;exact hn ha
 ·intro x hx _;exact hx
end
abbrev K12(w:World)(b:Nat)(v0 v1 v2 v3 v4 v5 v6 v7 v8 v9 v10 v11:Value):Prop:=w.cell? ⟨b,0,none⟩=some v0∧w.cell? ⟨b,1,none⟩=some v1∧w.cell? ⟨b,2,none⟩=some v2∧w.cell? ⟨b,3,none⟩=some v3∧w.cell? ⟨b,4,none⟩=some v4∧w.cell? ⟨b,5,none⟩=some v5∧w.cell? ⟨b,6,none⟩=some v6∧w.cell? ⟨b,7,none⟩=some v7∧w.cell? ⟨b,8,none⟩=some v8∧w.cell? ⟨b,9,none⟩=some v9∧w.cell? ⟨b,10,none⟩=some v10∧w.cell? ⟨b,11,none⟩=some v11
theorem K12.of{w:World}{b:Nat}{v0 v1 v2 v3 v4 v5 v6 v7 v8 v9 v10 v11:Value}{T:TypeId}{fr:Nat×Nat}(h:w.heap[b]? =some (.cells #[v0,v1,v2,v3,v4,v5,v6,v7,v8,v9,v10,v11] T fr)):K12 w b v0 v1 v2 v3 v4 v5 v6 v7 v8 v9 v10 v11:=⟨cell_at h rfl,cell_at h rfl,cell_at h rfl,cell_at h rfl,cell_at h rfl,cell_at h rfl,cell_at h rfl,cell_at h rfl,cell_at h rfl,cell_at h rfl,cell_at h rfl,cell_at h rfl⟩
theorem K12.on{w w':World}{b:Nat}{v0 v1 v2 v3 v4 v5 v6 v7 v8 v9 v10 v11:Value}(h:K12 w b v0 v1 v2 v3 v4 v5 v6 v7 v8 v9 v10 v11)(f:Fr nob w w'):K12 w' b v0 v1 v2 v3 v4 v5 v6 v7 v8 v9 v10 v11:=by
 obtain⟨h0,h1,h2,h3,h4,h5,h6,h7,h8,h9,a,c⟩:=h;exact⟨f.cell h0 (fun x=>x),f.cell h1 (fun x=>x),f.cell h2 (fun x=>x),f.cell h3 (fun x=>x),f.cell h4 (fun x=>x),f.cell h5 (fun x=>x),f.cell h6 (fun x=>x),f.cell h7 (fun x=>x),f.cell h8 (fun x=>x),f.cell h9 (fun x=>x),f.cell a (fun x=>x),f.cell c (fun x=>x)⟩
section
variable {H:Type} {enc:TypeId×Value→H} {P:Program}
end
end Go.Proofs.YtkfddjopbocpkaaGreatDoor
