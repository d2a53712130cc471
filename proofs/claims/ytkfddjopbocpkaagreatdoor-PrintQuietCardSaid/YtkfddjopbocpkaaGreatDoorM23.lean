/- Lemmas of this claim. -/
import Derived.Test.YtkfddjopbocpkaaGreatDoorM22
set_option linter.unusedVariables false
set_option linter.unusedSimpArgs false
set_option maxRecDepth 100000
set_option maxHeartbeats 4000000
namespace Go.Proofs.YtkfddjopbocpkaaGreatDoor
open Go.Lib (hid)
open Go.RowKit
theorem info_C:(Tryz.prog.info? 35).map (·.size)=some 20:=by kernel_rfl
theorem Zaa{fn:Func}{p:Tmp}(h:fn.results= #[.cell p 35]){tmps:Array Value}{r:Nat}(ht:tmps.getD p undef=.pointer (some ⟨r,0,none⟩)){W:World}{a0 a1 a2 a3 a4 a5 a6 a7 a8 a9 a10 a11 a12 a13 a14 a15 a16 a17 a18 a19:Value}
 (hb:W.heap[r]? =some (.cells #[a0,a1,a2,a3,a4,a5,a6,a7,a8,a9,a10,a11,a12,a13,a14,a15,a16,a17,a18,a19] 35 (0,0))):(results fn tmps).run Tryz.prog W=.ok (.agg #[a0,a1,a2,a3,a4,a5,a6,a7,a8,a9,a10,a11,a12,a13,a14,a15,a16,a17,a18,a19]) W:=by
 exact results_cell_row h tmps W r _ _ _ _ ht hb Tryz.underlying35 rfl info_C
def A3(O:Nat→Prop)(r c:Nat):Nat→Prop:=fun k=>O k∨(k=r∨k=r+1∨k=c)
abbrev gcell(g:GV)(U1 U2:Value):Array Value:= #[.int .i64 g.a.kind,.int .i64 g.a.line,.string ⟨g.a.text.toArray⟩,U1,.int .i64 g.b.kind,.int .i64 g.b.line,.string ⟨g.b.text.toArray⟩,U2,.bool g.no]
def ZgR(b:Nat)(l:List UInt8)(x:Bool)(S O:Nat→Prop)(w:World)(R:CV×AdS)(r:Ending)(w':World):Prop:=
 ∃u1 u2 u pv S',r=.returned (.agg (cmd20 R.1.at_ (.int .i64 R.1.guard.a.kind) (.int .i64 R.1.guard.a.line) (.string ⟨R.1.guard.a.text.toArray⟩) u1 (.int .i64 R.1.guard.b.kind) (.int .i64 R.1.guard.b.line) (.string ⟨R.1.guard.b.text.toArray⟩) u2 (.bool R.1.guard.no) R.1.name R.1.arg R.1.sub u pv R.1.table))∧
  RN (SO S' O) w' R.1.guard.a.tree u1∧RN (SO S' O) w' R.1.guard.b.tree u2∧RN (SO S' O) w' R.1.sub.tree u∧PrO (SO S' O) w' R.1.sub.parts pv∧CRd b l x R.2 S' w'∧Stp S w S' w'
theorem Zjy{w:World}{b j:Nat}{i:Int}(hc:(w.cell? ⟨b,j,none⟩).isSome=true)(hf:w.frozen? ⟨b,j,none⟩=false):
 Sem.run Tryz.prog (storeVar 3 ⟨b,j,none⟩ (.int .i64 i)) w=.ok () (w.setCell ⟨b,j,none⟩ (.int .i64 i)):=by
 obtain⟨old,ho⟩:=Option.isSome_iff_exists.1 hc;have a:(Value.int IntKind.i64 i).cells= #[.int .i64 i]:=rfl;have hi:(Tryz.prog.info? 3).map (·.size)=some 1:=by kernel_rfl
 cases hq:Tryz.prog.info? 3 with
 |none=>rw[hq]at hi;cases hi
 |some q=>
  have hs:q.size=1:=by simpa[hq]using hi
  simp[storeVar,sizeOf,typeInfo,hq,a,hs,go_sem,ho,hf]
attribute [go_sem] Zjy
attribute [-go_sem] storeVar
@[go_sem high] theorem ZaL{w:World}(c0:Int)(k1 n1:Int)(t1:ByteArray)(u1:Value)(k2 n2:Int)(t2:ByteArray)(u2:Value)(no:Bool)(nm:Int)(ar st fi tb:ByteArray)(o1:u1.oneCell'=true)(o2:u2.oneCell'=true):
 Sem.run Tryz.prog (storeVar 35 ⟨w.heap.size,0,none⟩ (.agg #[.int .i64 c0,.int .i64 k1,.int .i64 n1,.string t1,u1,.int .i64 k2,.int .i64 n2,.string t2,u2,.bool no,.int .u8 nm,.string ar,.string st,.nilIface,.slice none 0 0,.int .i64 0,.bool false,.bool false,.string fi,.string tb])) (w.alloc (.cells #[.int .i64 0,.int .i64 0,.int .i64 0,.string ⟨#[]⟩,.nilIface,.int .i64 0,.int .i64 0,.string ⟨#[]⟩,.nilIface,.bool false,.int .u8 0,.string ⟨#[]⟩,.string ⟨#[]⟩,.nilIface,.slice none 0 0,.int .i64 0,.bool false,.bool false,.string ⟨#[]⟩,.string ⟨#[]⟩] 35))=
  .ok () ((w.alloc (.cells #[.int .i64 0,.int .i64 0,.int .i64 0,.string ⟨#[]⟩,.nilIface,.int .i64 0,.int .i64 0,.string ⟨#[]⟩,.nilIface,.bool false,.int .u8 0,.string ⟨#[]⟩,.string ⟨#[]⟩,.nilIface,.slice none 0 0,.int .i64 0,.bool false,.bool false,.string ⟨#[]⟩,.string ⟨#[]⟩] 35)).setRow w.heap.size #[.int .i64 c0,.int .i64 k1,.int .i64 n1,.string t1,u1,.int .i64 k2,.int .i64 n2,.string t2,u2,.bool no,.int .u8 nm,.string ar,.string st,.nilIface,.slice none 0 0,.int .i64 0,.bool false,.bool false,.string fi,.string tb]):=
  run_storeVar_row _ _ 35 _ _ _ (newAt _ _) info_C rfl (Array.all_eq_true_iff_forall_mem.2 (by intro v hv;simp only[List.mem_toArray,List.mem_cons,List.not_mem_nil,or_false]at hv;rcases hv with h|h|h|h|h|h|h|h|h|h|h|h|h|h|h|h|h|h|h|h<;>(subst h;first|rfl|assumption)))
@[go_sem high] theorem run_storeC_newD{w:World}(c0:Int)(k1 n1:Int)(t1:ByteArray)(u1:Value)(k2 n2:Int)(t2:ByteArray)(u2:Value)(no:Bool)(nm:Int)(ar st fi tb:ByteArray)(o1:u1.oneCell'=true)(o2:u2.oneCell'=true):
 Sem.run Tryz.prog (storeVar 35 ⟨w.heap.size,0,none⟩ (.agg #[.int .i64 c0,.int .i64 k1,.int .i64 n1,.string t1,u1,.int .i64 k2,.int .i64 n2,.string t2,u2,.bool no,.int .u8 nm,.string ar,.string st,.nilIface,.slice none 0 0,.int .i64 0,.bool false,.bool false,.string fi,.string tb])) (w.alloc (.cells #[.int .i64 0,.int .i64 0,.int .i64 0,.string ⟨#[]⟩,.nilIface,.int .i64 0,.int .i64 0,.string ⟨#[]⟩,.nilIface,.bool false,.int .u8 0,.string ⟨#[]⟩,.string ⟨#[]⟩,.nilIface,.slice none 0 0,.int .i64 0,.bool false,.bool false,.string ⟨#[]⟩,.string ⟨#[]⟩] 35)).drew=
  .ok () ((w.alloc (.cells #[.int .i64 0,.int .i64 0,.int .i64 0,.string ⟨#[]⟩,.nilIface,.int .i64 0,.int .i64 0,.string ⟨#[]⟩,.nilIface,.bool false,.int .u8 0,.string ⟨#[]⟩,.string ⟨#[]⟩,.nilIface,.slice none 0 0,.int .i64 0,.bool false,.bool false,.string ⟨#[]⟩,.string ⟨#[]⟩] 35)).drew.setRow w.heap.size #[.int .i64 c0,.int .i64 k1,.int .i64 n1,.string t1,u1,.int .i64 k2,.int .i64 n2,.string t2,u2,.bool no,.int .u8 nm,.string ar,.string st,.nilIface,.slice none 0 0,.int .i64 0,.bool false,.bool false,.string fi,.string tb]):=
  run_storeVar_row _ _ 35 _ _ _ (Zq (newAt _ _)) info_C rfl (Array.all_eq_true_iff_forall_mem.2 (by intro v hv;simp only[List.mem_toArray,List.mem_cons,List.not_mem_nil,or_false]at hv;rcases hv with h|h|h|h|h|h|h|h|h|h|h|h|h|h|h|h|h|h|h|h<;>(subst h;first|rfl|assumption)))
@[go_sem high] theorem run_storeC_newE{w:World}(c0:Int)(k1 n1:Int)(t1:ByteArray)(u1:Value)(k2 n2:Int)(t2:ByteArray)(u2:Value)(no:Bool)(nm:Int)(ar st fi tb:ByteArray)(o1:u1.oneCell'=true)(o2:u2.oneCell'=true):
 Sem.run Tryz.prog (storeVar 35 ⟨w.heap.size,0,none⟩ (.agg #[.int .i64 c0,.int .i64 k1,.int .i64 n1,.string t1,u1,.int .i64 k2,.int .i64 n2,.string t2,u2,.bool no,.int .u8 nm,.string ar,.string st,.nilIface,.slice none 0 0,.int .i64 0,.bool false,.bool false,.string fi,.string tb])) (w.drew.alloc (.cells #[.int .i64 0,.int .i64 0,.int .i64 0,.string ⟨#[]⟩,.nilIface,.int .i64 0,.int .i64 0,.string ⟨#[]⟩,.nilIface,.bool false,.int .u8 0,.string ⟨#[]⟩,.string ⟨#[]⟩,.nilIface,.slice none 0 0,.int .i64 0,.bool false,.bool false,.string ⟨#[]⟩,.string ⟨#[]⟩] 35))=
  .ok () ((w.drew.alloc (.cells #[.int .i64 0,.int .i64 0,.int .i64 0,.string ⟨#[]⟩,.nilIface,.int .i64 0,.int .i64 0,.string ⟨#[]⟩,.nilIface,.bool false,.int .u8 0,.string ⟨#[]⟩,.string ⟨#[]⟩,.nilIface,.slice none 0 0,.int .i64 0,.bool false,.bool false,.string ⟨#[]⟩,.string ⟨#[]⟩] 35)).setRow w.heap.size #[.int .i64 c0,.int .i64 k1,.int .i64 n1,.string t1,u1,.int .i64 k2,.int .i64 n2,.string t2,u2,.bool no,.int .u8 nm,.string ar,.string st,.nilIface,.slice none 0 0,.int .i64 0,.bool false,.bool false,.string fi,.string tb]):=
  run_storeVar_row _ _ 35 _ _ _ (newAt _ _) info_C rfl (Array.all_eq_true_iff_forall_mem.2 (by intro v hv;simp only[List.mem_toArray,List.mem_cons,List.not_mem_nil,or_false]at hv;rcases hv with h|h|h|h|h|h|h|h|h|h|h|h|h|h|h|h|h|h|h|h<;>(subst h;first|rfl|assumption)))
theorem cell_alloc{w:World}{p:Addr}{v:Value}(h:w.cell? p=some v)(o:Obj):(w.alloc o).cell? p=some v:=(Fr.refl nob w |>.alloc o).cell h (fun x=>x)
theorem BC.row{w:World}{b c k:Nat}{v0 v1 v2 v3 v4 u0 u1 u2 u3 u4 u5 u6 u7 u8:Value}(h:B5 w b v0 v1 v2 v3 v4∧C9 w c u0 u1 u2 u3 u4 u5 u6 u7 u8)(hb:k≠b)(hc:k≠c)(cs:Array Value):B5 (w.setRow k cs) b v0 v1 v2 v3 v4∧C9 (w.setRow k cs) c u0 u1 u2 u3 u4 u5 u6 u7 u8:=by
 obtain⟨⟨a0,a1,a2,a3,a4⟩,c0,c1,c2,c3,c4,c5,c6,c7,c8⟩:=h;have f:=ZN w k cs;have nb:∀{j:Nat} {v:Value},w.cell? ⟨b,j,none⟩=some v→(w.setRow k cs).cell? ⟨b,j,none⟩=some v:=fun q=>f.cell q (fun e=>hb e.symm);have nc:∀{j:Nat} {v:Value},w.cell? ⟨c,j,none⟩=some v→(w.setRow k cs).cell? ⟨c,j,none⟩=some v:=fun q=>f.cell q (fun e=>hc e.symm);exact⟨⟨nb a0,nb a1,nb a2,nb a3,nb a4⟩,nc c0,nc c1,nc c2,nc c3,nc c4,nc c5,nc c6,nc c7,nc c8⟩
theorem BC.alloc{w:World}{b c:Nat}{v0 v1 v2 v3 v4 u0 u1 u2 u3 u4 u5 u6 u7 u8:Value}(h:B5 w b v0 v1 v2 v3 v4∧C9 w c u0 u1 u2 u3 u4 u5 u6 u7 u8)(o:Obj):B5 (w.alloc o) b v0 v1 v2 v3 v4∧C9 (w.alloc o) c u0 u1 u2 u3 u4 u5 u6 u7 u8:=by
 obtain⟨⟨a0,a1,a2,a3,a4⟩,c0,c1,c2,c3,c4,c5,c6,c7,c8⟩:=h;exact⟨⟨cell_alloc a0 o,cell_alloc a1 o,cell_alloc a2 o,cell_alloc a3 o,cell_alloc a4 o⟩,cell_alloc c0 o,cell_alloc c1 o,cell_alloc c2 o,cell_alloc c3 o,cell_alloc c4 o,cell_alloc c5 o,cell_alloc c6 o,cell_alloc c7 o,cell_alloc c8 o⟩
theorem Stp.drop{S S1 S2:Nat→Prop}{w w7 w8:World}{c:Nat}(h:Stp S w S1 w7)(k:Stp (GS S1 c) w7 (GS S2 c) w8)(hc:w.heap.size≤c)(hc7:c<w7.heap.size):Stp S w S2 w8:=by
 have h1:=h.fr.size;refine⟨h.fr.trans k.fr (fun i hi e=> ?_),fun i hi e=> ?_,fun q i e=> ?_⟩
 ·rcases e with e|e
  ·exact h.old i hi e
  ·have e:i=c:=e;omega
 ·rcases k.old i (by omega) (.inl e)with e|e
  ·exact h.old i hi e
  ·have e:i=c:=e;omega
 ·refine k.lt (fun j e=> ?_) i (.inl e);rcases e with e|e
  ·exact h.lt q j e
  ·have e:j=c:=e;omega
theorem Stp.row{S S1:Nat→Prop}{w w9:World}{g:Nat}(h:Stp S w S1 w9)(hg:w.heap.size≤g)(cs:Array Value):Stp S w S1 (w9.setRow g cs):=
 ⟨h.fr.trans (ZN w9 g cs) (fun i hi e=>by have e:i=g:=e;omega),h.old,fun q k hk=>by have:=h.lt q k hk;have:=(ZN w9 g cs).size;omega⟩
def ZlM(l:List UInt8)(R:Bool×CV×AdS):CV×AdS:=if R.1=true∧R.2.2.e=0 then(R.2.1,Zjq l R.2.2)else(R.2.1,R.2.2)
theorem Zcm{b:Nat}{l:List UInt8}{x:Bool}{S S1 S2 S3 O:Nat→Prop}{w w7 w8 w9:World}{c:Nat}{s9:AdS}{t1 t2 t:Nd}{ps:List Prt}{u1 u2 u pv:Value}
 (ST7:Stp S w S1 w7) (st8:Stp (GS S1 c) w7 (GS S2 c) w8) (hc:w.heap.size+1<c) (hc7:c<w7.heap.size) (hn:¬S1 (w.heap.size+1)) (st9:Stp S2 w8 S3 w9)
 (rn1:RN (SO S O) w t1 u1) (rn2:RN (SO S O) w t2 u2) (rn8:RN (SO S2 (A3 O w.heap.size c)) w8 t u) (po8:PrO (SO S2 (A3 O w.heap.size c)) w8 ps pv) (h9:CRd b l x s9 S3 w9) (cs:Array Value):
 RN (SO S3 O) (w9.setRow (w.heap.size+1) cs) t1 u1∧RN (SO S3 O) (w9.setRow (w.heap.size+1) cs) t2 u2∧RN (SO S3 O) (w9.setRow (w.heap.size+1) cs) t u∧PrO (SO S3 O) (w9.setRow (w.heap.size+1) cs) ps pv∧
 CRd b l x s9 S3 (w9.setRow (w.heap.size+1) cs)∧Stp S w S3 (w9.setRow (w.heap.size+1) cs):=by
 have z7:=st8.fr.size;have d:¬S2 (w.heap.size+1):=fun e=>by
  rcases st8.old _ (by omega) (.inl e)with e|e
  ·exact hn e
  ·have e:w.heap.size+1=c:=e;omega
 have h:¬S3 (w.heap.size+1):=fun e=>d (st9.old _ (by omega) e);have a:=((ST7.drop st8 (by omega) hc7).trans st9).row (g:=w.heap.size+1) (by omega) cs;have f:=ZN w9 (w.heap.size+1) cs;have hX:∀k,(fun k=>k=w.heap.size+1) k→SO S3 (A3 O w.heap.size c) k:=fun k hk=>.inr (.inr (.inr (.inl hk)));have hS:∀k,SO S3 O k→SO S3 (A3 O w.heap.size c) k:=fun k hk=>hk.elim .inl (fun e=>.inr (.inl e));refine⟨a.rn rn1,a.rn rn2,RN.keep f (fun k _ hk=>hX k hk) (fun k _ hk=>hS k hk) _ _ (st9.rn rn8),?_,h9.keep f (fun k hk=>by have hk:k=w.heap.size+1:=hk;rw[hk];exact h),a⟩;exact(po8.keep (S':=SO S3 (A3 O w.heap.size c)) st9.fr (fun _ hk=>.inl hk) (fun k hk e=>e.elim (fun e=>.inl (st9.old k hk e)) .inr)).keep f hX (fun k _ hk=>hS k hk)
theorem Zll{u1 u2:Value}(o1:u1.oneCell'=true)(o2:u2.oneCell'=true)(b:Nat)(l:List UInt8)(x:Bool)(s:AdS)(S O:Nat→Prop)(g:GV)(w:World)(hl:l.length≤99000)(ha:s.at_≤l.length)(hm:s.marks.length≤90000)(hS:∀k,S k→k<w.heap.size)(hO:∀k,O k→k<w.heap.size)(W0:World)(hE:Env W0)(hW:Fr nob W0 w)(hSW:∀k,S k→W0.heap.size≤k)(h:CRd b l x s S w)(ho:l.length≤s.at_):
 Calls Tryz.prog 30 #[.pointer (some ⟨b,0,none⟩),.agg (gcell g u1 u2)] w (ZgR b l x S O w (CV.zero,failC s 5 l.length)):=by
 obtain⟨w1,d⟩:∃w1,w1=w.alloc (.cells #[.int .i64 g.a.kind,.int .i64 g.a.line,.string ⟨g.a.text.toArray⟩,u1,.int .i64 g.b.kind,.int .i64 g.b.line,.string ⟨g.b.text.toArray⟩,u2,.bool g.no] 30):=⟨_,rfl⟩;have f1:Fr nob w w1:=by rw[d];exact(Fr.refl _ _).alloc _
 have i:w1.heap.size=w.heap.size+1:=by rw[d];simp
 obtain⟨w2,c⟩:∃w2,w2=w1.alloc (.cells #[.int .i64 0,.int .i64 0,.int .i64 0,.string ⟨#[]⟩,.nilIface,.int .i64 0,.int .i64 0,.string ⟨#[]⟩,.nilIface,.bool false,.int .u8 0,.string ⟨#[]⟩,.string ⟨#[]⟩,.nilIface,.slice none 0 0,.int .i64 0,.bool false,.bool false,.string ⟨#[]⟩,.string ⟨#[]⟩] 35):=⟨_,rfl⟩;have f2:Fr nob w w2:=by rw[c];exact f1.alloc _
 have q:w2.heap.size=w.heap.size+2:=by rw[c];simp;omega
 have p:w2.heap[w.heap.size]? =some (.cells #[.int .i64 g.a.kind,.int .i64 g.a.line,.string ⟨g.a.text.toArray⟩,u1,.int .i64 g.b.kind,.int .i64 g.b.line,.string ⟨g.b.text.toArray⟩,u2,.bool g.no] 30 (0,0)):=by rw[c];exact Ze _ (by rw[d];exact newAt _ _)
 have n:w2.heap[w.heap.size+1]? =some (.cells #[.int .i64 0,.int .i64 0,.int .i64 0,.string ⟨#[]⟩,.nilIface,.int .i64 0,.int .i64 0,.string ⟨#[]⟩,.nilIface,.bool false,.int .u8 0,.string ⟨#[]⟩,.string ⟨#[]⟩,.nilIface,.slice none 0 0,.int .i64 0,.bool false,.bool false,.string ⟨#[]⟩,.string ⟨#[]⟩] 35 (0,0)):=by rw[c];exact Zg _ _ _ i.symm
 have o:¬S w.heap.size:=fun e=>absurd (hS _ e) (by omega);have m:¬S (w.heap.size+1):=fun e=>absurd (hS _ e) (by omega);have r:=hid d;have v:=hid c;have u:=hid i;have A:=hid q;have F2:=hid f2;have Z1:=hid p;have Z2:=hid n;have N1:=hid o;have N2:=hid m;have H2:=hid (h.on f2);clear d c i q f1 f2 p n o m;have HO:=hid (Zbn b l x s S w2 (by omega) H2.out);rw[show decide (l.length≤s.at_)=true from decide_eq_true ho]at HO;obtain⟨mv,j⟩:=H2.out;have rr:=Zd j.blk;have HM:=hid j;clear j;go_enter Tryz.func30,Tryz.ntmps30;go_wp2_with(first|rw[←r.out]|rw[u.out]|rw[←v.out]);refine HO.out.mono ?_;rintro z w3 ⟨rfl,f3⟩;have H3:=hid (H2.out.on f3);have F3:=hid (F2.out.trans' f3);have t:=hid (f3.heap Z2.out (fun x=>x));have r3:=rr _ f3;clear f3 rr;go_wp2_with fail;refine(cm_fail b l x s S 5 l.length w3 H3.out).mono ?_;rintro z w4 ⟨rfl,h4,f⟩
 have z4:=f.fr.heap t.out N2.out;have H4:=hid h4;have y:=hid ((Stp.of F3.out).trans f);have Z4:=hid z4;clear h4 f z4 r3;go_wp2_with(refine wpList_store_row rfl 35 _ _ rfl (w.heap.size+1) #[.int .i64 0,.int .i64 0,.int .i64 0,.string ⟨#[]⟩,.nilIface,.int .i64 0,.int .i64 0,.string ⟨#[]⟩,.nilIface,.bool false,.int .u8 0,.string ⟨#[]⟩,.string ⟨#[]⟩,.nilIface,.slice none 0 0,.int .i64 0,.bool false,.bool false,.string ⟨#[]⟩,.string ⟨#[]⟩] rfl rfl 35 _ Z4.out info_C rfl (by kernel_rfl) ?_);rw[setRow_self _ _ _ _ _ Z4.out];(try simp only[Exit.inBlock,Exit.then]);refine bodyPost_ret (Zaa rfl rfl Z4.out) rfl ⟨.nilIface,.nilIface,.nilIface,.slice none 0 0,S,rfl,?_,?_,?_,PrO.nil _ _,H4.out,y.out⟩
 all_goals rfl
abbrev gc20(p:Nat)(g:GV)(u1 u2:Value)(n:UInt8)(ar:List UInt8)(sub:SV)(u pv:Value)(tb:List UInt8):Array Value:=
 cmd20 p (.int .i64 g.a.kind) (.int .i64 g.a.line) (.string ⟨g.a.text.toArray⟩) u1 (.int .i64 g.b.kind) (.int .i64 g.b.line) (.string ⟨g.b.text.toArray⟩) u2 (.bool g.no) n ar sub u pv tb
theorem Zsv{p:Nat}{g:GV}{u1 u2:Value}{n:UInt8}{ar:List UInt8}{sub:SV}{u pv:Value}{tb:List UInt8}(o1:u1.oneCell'=true)(o2:u2.oneCell'=true)(o3:u.oneCell'=true)(o4:pv.oneCell'=true):(gc20 p g u1 u2 n ar sub u pv tb).all (·.oneCell')=true:=
 Array.all_eq_true_iff_forall_mem.2 (by intro v hv;simp only[List.mem_toArray,List.mem_cons,List.not_mem_nil,or_false]at hv;rcases hv with h|h|h|h|h|h|h|h|h|h|h|h|h|h|h|h|h|h|h|h<;>(subst h;first|rfl|assumption))
def midS(s:AdS)(g:GV)(n:UInt8):AdS:=if ZM n<0 then failC s 13 s.at_ else if ZM n<ZcD g then failC s 19 s.at_ else if n=81∨n=84∨n=122 then Zan s s.at_ [n]else s
theorem ZsA{s:AdS}{g:GV}{n:UInt8}(he:s.e=0)(h:¬(midS s g n).e=0):(midS s g n).marks=s.marks:=by
 unfold midS at h⊢;split
 ·unfold failC;split<;>rfl
 ·split
  ·unfold failC;split<;>rfl
  ·next h1 h2=>
   rw[if_neg h1,if_neg h2]at h;split at h
   ·exact(h he).elim
   ·exact(h he).elim
theorem Zsy{s:AdS}{g:GV}{n:UInt8}(he:s.e=0)(h:(midS s g n).e=0):(midS s g n).at_=s.at_∧(midS s g n).marks.length≤s.marks.length+1:=by
 unfold midS at h⊢;split at h
 ·rw[Za9 he]at h;exact absurd (show(13:Int)=0 from h) (by decide)
 ·next h1=>
  rw[if_neg h1];split at h
  ·rw[Za9 he]at h;exact absurd (show(19:Int)=0 from h) (by decide)
  ·next h2=>
   rw[if_neg h2];split
   ·exact⟨rfl,by show(s.marks++[_]).length≤_;simp⟩
   ·exact⟨rfl,by omega⟩
theorem Zsz{x:Bool}{l:List UInt8}{g:GV}{s:AdS}(ho:s.at_<l.length):ZbY x l g s=if(midS s g l[s.at_]).e≠0 then(CV.zero,midS s g l[s.at_])else ZlM l (ZsD x l (cv0 s.at_ g l[s.at_]) ((midS s g l[s.at_]).to ((midS s g l[s.at_]).at_+1))):=by
 unfold ZbY;rw[if_neg (by omega)];simp only[ZkQ ho];rfl
theorem ZsB{u1 u2:Value}(o1:u1.oneCell'=true)(o2:u2.oneCell'=true)(b:Nat)(l:List UInt8)(x:Bool)(s:AdS)(S O:Nat→Prop)(g:GV)(w:World)(hl:l.length≤99000)(ha:s.at_≤l.length)(hm:s.marks.length≤90000)(hS:∀k,S k→k<w.heap.size)(hO:∀k,O k→k<w.heap.size)(W0:World)(hE:Env W0)(hW:Fr nob W0 w)(hSW:∀k,S k→W0.heap.size≤k)(h:CRd b l x s S w)(ho:s.at_<l.length)(he:s.e=0)(rn1:RN (SO S O) w g.a.tree u1)(rn2:RN (SO S O) w g.b.tree u2):
 Calls Tryz.prog 30 #[.pointer (some ⟨b,0,none⟩),.agg (gcell g u1 u2)] w (ZgR b l x S O w (ZbY x l g s)):=by
 obtain⟨n,hn⟩:∃n,l[s.at_]=n:=⟨_,rfl⟩;obtain⟨R,hR⟩:∃R,ZbY x l g s=R:=⟨_,rfl⟩;rw[hR];rw[Zsz ho,hn]at hR;have HM:=hid hR;clear hR;obtain⟨w1,Q⟩:∃w1,w1=w.alloc (.cells #[.int .i64 g.a.kind,.int .i64 g.a.line,.string ⟨g.a.text.toArray⟩,u1,.int .i64 g.b.kind,.int .i64 g.b.line,.string ⟨g.b.text.toArray⟩,u2,.bool g.no] 30):=⟨_,rfl⟩;have f1:Fr nob w w1:=by rw[Q];exact(Fr.refl _ _).alloc _
 have F:w1.heap.size=w.heap.size+1:=by rw[Q];simp
 obtain⟨w2,H⟩:∃w2,w2=w1.alloc (.cells #[.int .i64 0,.int .i64 0,.int .i64 0,.string ⟨#[]⟩,.nilIface,.int .i64 0,.int .i64 0,.string ⟨#[]⟩,.nilIface,.bool false,.int .u8 0,.string ⟨#[]⟩,.string ⟨#[]⟩,.nilIface,.slice none 0 0,.int .i64 0,.bool false,.bool false,.string ⟨#[]⟩,.string ⟨#[]⟩] 35):=⟨_,rfl⟩;have f2:Fr nob w w2:=by rw[H];exact f1.alloc _
 have e0:w2.heap.size=w.heap.size+2:=by rw[H];simp;omega
 have a6:w2.heap[w.heap.size]? =some (.cells #[.int .i64 g.a.kind,.int .i64 g.a.line,.string ⟨g.a.text.toArray⟩,u1,.int .i64 g.b.kind,.int .i64 g.b.line,.string ⟨g.b.text.toArray⟩,u2,.bool g.no] 30 (0,0)):=by rw[H];exact Ze _ (by rw[Q];exact newAt _ _)
 have d7:w2.heap[w.heap.size+1]? =some (.cells #[.int .i64 0,.int .i64 0,.int .i64 0,.string ⟨#[]⟩,.nilIface,.int .i64 0,.int .i64 0,.string ⟨#[]⟩,.nilIface,.bool false,.int .u8 0,.string ⟨#[]⟩,.string ⟨#[]⟩,.nilIface,.slice none 0 0,.int .i64 0,.bool false,.bool false,.string ⟨#[]⟩,.string ⟨#[]⟩] 35 (0,0)):=by rw[H];exact Zg _ _ _ F.symm
 have e6:¬S w.heap.size:=fun e=>absurd (hS _ e) (by omega);have K:¬S (w.heap.size+1):=fun e=>absurd (hS _ e) (by omega);have g1:=hid Q;have g9:=hid H;have i8:=hid F;have j5:=hid e0;have F2:=hid f2;have Z1:=hid a6;have Z2:=hid d7;have N1:=hid e6;have N2:=hid K;have H2:=hid (h.on f2);clear Q H F e0 f1 f2 a6 d7 e6 K;have HO:=hid (Zbn b l x s S w2 (by omega) H2.out);rw[show decide (l.length≤s.at_)=false from decide_eq_false (by omega)]at HO;have k4:(s.at_:Int)<l.length:=by omega
 have j8:(l.length:Int)≤99000:=by omega
 go_enter Tryz.func30,Tryz.ntmps30;go_wp2_with(first|rw[←g1.out]|rw[i8.out]|rw[←g9.out]);refine HO.out.mono ?_;rintro z w3 ⟨rfl,f3⟩;have H3:=hid (H2.out.on f3);have F3:=hid (F2.out.trans' f3);have b3:=hid (f3.heap Z2.out (fun x=>x));have E:=hid (f3.heap Z1.out (fun x=>x));obtain⟨mv,a4⟩:=H3.out;have HQ:=hid (And.intro (B5.of a4.blk) (C9.of E.out));have e5:=hid (BC.drew (And.intro (B5.of a4.blk) (C9.of E.out)));have k0:=lt_heap a4.blk;have j9:=lt_heap E.out;clear f3 a4
 go_upto_region 4 with(fail)
 go_cut [5] (fun v5 w'=>v5=.pointer (some ⟨w3.heap.size,0,none⟩)∧Fr nob w3 w'∧w'.heap[w3.heap.size]? =some (.cells (gc20 s.at_ g u1 u2 n [] SV.zero .nilIface (.slice none 0 0) []) 35 (0,0)))
 case first=>
  have e1:=ZaL (w:=w3) (s.at_:Nat) g.a.kind g.a.line ⟨g.a.text.toArray⟩ u1 g.b.kind g.b.line ⟨g.b.text.toArray⟩ u2 g.no (n.toNat:Nat) ⟨#[]⟩ ⟨#[]⟩ ⟨#[]⟩ ⟨#[]⟩ o1 o2;have e2:=run_storeC_newD (w:=w3) (s.at_:Nat) g.a.kind g.a.line ⟨g.a.text.toArray⟩ u1 g.b.kind g.b.line ⟨g.b.text.toArray⟩ u2 g.no (n.toNat:Nat) ⟨#[]⟩ ⟨#[]⟩ ⟨#[]⟩ ⟨#[]⟩ o1 o2;have e3:=run_storeC_newE (w:=w3) (s.at_:Nat) g.a.kind g.a.line ⟨g.a.text.toArray⟩ u1 g.b.kind g.b.line ⟨g.b.text.toArray⟩ u2 g.no (n.toNat:Nat) ⟨#[]⟩ ⟨#[]⟩ ⟨#[]⟩ ⟨#[]⟩ o1 o2
  go_region_held3 (fun w'=>B5 w' b (.string ⟨l.toArray⟩) (.int .i64 (s.at_:Nat)) (.bool x) mv (.int .i64 s.e)∧C9 w' w.heap.size (.int .i64 g.a.kind) (.int .i64 g.a.line) (.string ⟨g.a.text.toArray⟩) u1 (.int .i64 g.b.kind) (.int .i64 g.b.line) (.string ⟨g.b.text.toArray⟩) u2 (.bool g.no)) (repeat(first|(with_reducible exact HQ.out)|(with_reducible exact e5.out)|(with_reducible refine BC.drew ?_)|(with_reducible refine BC.alloc ?_ _)|(with_reducible refine BC.row ?_ (by omega) (by omega) _))) (first|(rw[hn])|(rw[e1])|(rw[e2])|(rw[e3]))
  all_goals
   go_wp2_with fail;go_meet
   case rel=>exact⟨rfl,(by first|exact(((Fr.refl nob w3).alloc _).drew).trans (ZN _ _ _) (fun i hi e=>by have e:i=w3.heap.size:=e;omega)|exact((((Fr.refl nob w3).alloc _).trans (ZN _ _ _) (fun i hi e=>by have e:i=w3.heap.size:=e;omega)).drew)|exact(((Fr.refl nob w3).drew).alloc _).trans (ZN _ _ _) (fun i hi e=>by have e:i=w3.heap.size:=e;omega)),by first|exact setRow_heap _ _ _ _ _ _ (Zq (newAt _ _))|exact setRow_heap _ _ _ _ _ _ (newAt _ _)|exact Zq (setRow_heap _ _ _ _ _ _ (newAt _ _))⟩
 case rest=>
  obtain⟨rfl,f4,b8⟩:=hcut;have Z4:=hid b8;have F4:=hid (F3.out.trans' f4);have H4:=hid (H3.out.on f4);have e4:=hid (f4.heap E.out (fun x=>x));have f0:=hid (f4.heap b3.out (fun x=>x));have rg:=Zw b8 _ (Fr.refl _ _);have f8:=hid (ZdQ n wc);have y:=hid (show w.heap.size+1<w3.heap.size by have h1:=j5.out;have h2:=lt_heap b3.out;have h3:=lt_heap E.out;have h4:=F3.out.size;omega);clear f4 b8 HQ e5 H3 E b3 HO g1 g9 Z1 Z2 H2;go_wp2_with fail;refine f8.out.mono ?_;rintro z w5 ⟨rfl,f5⟩;have F5:=hid (F4.out.trans' f5);have Z5:=hid (f5.heap Z4.out (fun x=>x));have h0:=hid (f5.heap e4.out (fun x=>x));have c0:=hid (f5.heap f0.out (fun x=>x));have H5:=hid (H4.out.on f5);clear f5 rg H4 Z4 e4 f0 f8;go_upto_block 0 with(fail)
  go_cut [] (fun w'=>∃S1,CRd b l x (midS s g n) S1 w'∧Stp S w5 S1 w')
  case first=>
   obtain⟨k5,g5⟩:=H5.out;have r5:=Zd g5.blk _ (Fr.refl _ _);have j6:=Zw Z5.out _ (Fr.refl _ _);clear g5;by_cases c1:ZM n<0
   ·have HD:=hid (show midS s g n=failC s 13 s.at_ from if_pos c1);go_wp2_with fail;refine(cm_fail b l x s S 13 s.at_ w5 H5.out).mono ?_;rintro z w6 ⟨rfl,h6,m⟩;go_wp2;go_meet
    case rel=>exact⟨S,by rw[HD.out];exact h6,m⟩
   ·have r9:=Zk h0.out _ (Fr.refl _ _);have i1:=hid (ZhS g (.agg (gcell g u1 u2)) w5 ⟨u1,u2,rfl,RN.keep F5.out (fun _ _ x=>x.elim) (fun _ _ x=>x.elim) _ _ rn1,RN.keep F5.out (fun _ _ x=>x.elim) (fun _ _ x=>x.elim) _ _ rn2⟩);by_cases c2:ZM n<ZcD g
    ·have HD:=hid (show midS s g n=failC s 19 s.at_ by unfold midS;rw[if_neg c1,if_pos c2]);go_wp2_with fail;refine i1.out.mono ?_;rintro z C ⟨rfl,t⟩;have b2:=H5.out.on t;obtain⟨M,j⟩:=b2;have d6:=Zd j.blk _ (Fr.refl _ _);have U:=hid (show CRd b l x s S C from⟨M,j⟩);have a8:=hid t;clear j r5 r9 t;go_wp2_with fail;refine(cm_fail b l x s S 19 s.at_ C U.out).mono ?_;rintro z w6 ⟨rfl,h6,m⟩;go_wp2;go_meet
     case rel=>exact⟨S,by rw[HD.out];exact h6,(Stp.of a8.out).trans m⟩
    ·have HI:=hid (fun w'=>strings_IndexByte [81,84,122] (n.toNat:Int) w');rw[show((n.toNat:Int)).toNat.toUInt8=n from ZaY _]at HI;have B:=Zbo [81,84,122] n;obtain⟨zi,hz⟩:∃z,Lib.indexByte [81,84,122] n=z:=⟨_,rfl⟩;rw[hz]at HI B;clear hz;go_wp2_with fail;refine i1.out.mono ?_;rintro z C ⟨rfl,t⟩;have b2:=H5.out.on t;obtain⟨M,j⟩:=b2;have d6:=Zd j.blk _ (Fr.refl _ _);have X:=Zd j.blk;have f9:=Zw (t.heap Z5.out (fun x=>x)) _ (Fr.refl _ _);have U:=hid (show CRd b l x s S C from⟨M,j⟩);have a8:=hid t;clear j r5 r9 t j6;by_cases c3:n=81∨n=84∨n=122
     ·have HD:=hid (show midS s g n=Zan s s.at_ [n] by unfold midS;rw[if_neg (by omega),if_neg (by omega),if_pos c3]);rw[show([81,84,122]:List UInt8).contains n=true by rcases c3 with rfl|rfl|rfl<;>rfl]at B;have a6:0≤zi:=by simpa using B
      clear B X;go_wp2_with fail;refine(HI.out C).mono ?_;rintro z5 j0 ⟨rfl,rfl⟩;clear f9;obtain⟨j7,b1⟩:=U.out;have X:=Zd b1.blk;clear d6 b1;go_wp2_with fail;have i6:∀W:World,(Instr.slice 9 (.string ⟨l.toArray⟩) (some (.int .i64 (s.at_:Int))) (some (.int .i64 ((s.at_:Int)+1))) none).run Tryz.prog W=.ok (.string ⟨#[n]⟩) W:=fun W=>by
       rw[Zaf l Tryz.underlying9 (by omega) (by omega) (by omega) W,show((s.at_:Int)+1).toNat-(s.at_:Int).toNat=1 by omega,show((s.at_:Int)).toNat=s.at_ by omega,Zia ho,hn]
      refine region_fr 19 (by kernel_rfl) (by kernel_rfl) ?_;simp only[List.take_succ_cons,List.take_zero,List.drop_succ_cons,List.drop_zero]
      repeat(go_big_quiet_step (fail))
      refine wpQuiet_nil ?_;intro wC fC;have i3:=hid (U.out.on fC);have i4:=hid (a8.out.trans' fC);clear fC X i6;go_wp2_with fail;refine(cm_mark b l x s S s.at_ [n] wC (by omega) i3.out).mono ?_;rintro z w6 ⟨rfl,S1,h6,m⟩;go_wp2;go_meet
      case rel=>exact⟨S1,by rw[HD.out];exact h6,(Stp.of i4.out).trans m⟩
     ·have HD:=hid (show midS s g n=s by unfold midS;rw[if_neg (by omega),if_neg (by omega),if_neg c3]);rw[show([81,84,122]:List UInt8).contains n=false by simpa using c3]at B;have a6:¬0≤zi:=by simpa using B
      clear B X;go_wp2_with fail;refine(HI.out C).mono ?_;rintro z5 j0 ⟨rfl,rfl⟩;go_wp2;go_meet
      case rel=>exact⟨S,by rw[HD.out];exact U.out,Stp.of a8.out⟩
  case rest=>
   obtain⟨S1,h6,m⟩:=hcut;obtain⟨s1,F⟩:∃s1,midS s g n=s1:=⟨_,rfl⟩;have o:=HM.out;have b5:=ZsA (g:=g) (n:=n) he;have a2:=Zsy (g:=g) (n:=n) he;rw[F]at h6 o b5 a2;have c7:¬S w3.heap.size:=fun e=>by have:=hS _ e;have:=y.out;omega
   have b4:¬S1 (w.heap.size+1):=fun e=>N2.out (m.old _ (lt_heap c0.out) e);have b9:¬S1 w3.heap.size:=fun e=>c7 (m.old _ (lt_heap Z5.out) e);have d9:=hid (m.fr.heap c0.out N2.out);have Z6:=hid (m.fr.heap Z5.out c7);have H6:=hid h6;have g2:=hid ((Stp.of F5.out).trans m);have V:=hid b4;have i7:=hid b9;have d4:S1 b:=by obtain⟨_,q⟩:=h6;exact q.me
   have j4:=hid (show b≠w3.heap.size from fun e=>b9 (e▸d4));have j1:=hid (show b≠w.heap.size+1 from fun e=>b4 (e▸d4));have e7:=hid (cm_ok b l x _ S1 wc h6);clear h6 m c7 b4 b9 d4 HM H5 Z5 h0 c0 F;by_cases P:s1.e=0
   ·rw[if_neg (fun h=>h P)]at o;obtain⟨g3,G⟩:=a2 P;have e1:(s1.e==0)=true:=by simpa using P
    rw[g3]at o;have D:=hid o;have g0:=hid (show(s1.to (s.at_+1)).marks.length≤100000 by show s1.marks.length≤_;omega);clear o b5 a2 G;go_wp2_with fail;refine e7.out.mono ?_;rintro z d2 ⟨rfl,J⟩;rw[e1];have i5:=H6.out.on J;obtain⟨k6,a1⟩:=i5;have r7:=Zd a1.blk _ (Fr.refl _ _);rw[g3]at r7;have h7:=a1.turned 1 (.int .i64 ((s.at_:Int)+1)) (s1.to (s.at_+1)) (by simp[AdS.to]) rfl;have A:=(g2.out.trans (Stp.of J)).trans (a1.stp 1 (.int .i64 ((s.at_:Int)+1)));have g7:=((Fr.refl (fun k=>k=b) d2).setCell (p:=⟨b,1,none⟩) (fun _=>rfl) (.int .i64 ((s.at_:Int)+1))).heap (J.heap Z6.out (fun x=>x)) (fun e=>j4.out (show b=w3.heap.size from(show w3.heap.size=b from e).symm));have z7:=((Fr.refl (fun k=>k=b) d2).setCell (p:=⟨b,1,none⟩) (fun _=>rfl) (.int .i64 ((s.at_:Int)+1))).heap (J.heap d9.out (fun x=>x)) (fun e=>j1.out (show b=w.heap.size+1 from(show w.heap.size+1=b from e).symm))
    obtain⟨w7,c4⟩:∃w7,w7=d2.setCell ⟨b,1,none⟩ (.int .i64 ((s.at_:Int)+1)):=⟨_,rfl⟩;rw[←c4]at h7 A g7 z7;have h5:A3 O w.heap.size w3.heap.size w3.heap.size:=.inr (.inr (.inr rfl));have g6:∀k,A3 O w.heap.size w3.heap.size k→k<w7.heap.size:=fun k hk=>by
     have h1:=lt_heap g7;have h2:=y.out;have h3:=A.fr.size;rcases hk with hk|hk|hk|hk
     ·have:=hO k hk;omega
     all_goals omega
    have d8:=hid (Zlj b w3.heap.size l x S1 (A3 O w.heap.size w3.heap.size) s.at_ g _ _ _ _ _ _ _ _ _ n (s1.to (s.at_+1)) w7 hl (by show s.at_+1≤l.length;omega) g0.out (A.lt hS) g6 h5 i7.out W0 hE (Stp.from A hW hSW) (fun k hk=>by
     by_cases j2:k<w.heap.size
     ·exact hSW k (A.old k j2 hk)
     ·have:=hW.size;omega) g7 ⟨_,h7⟩)
    have i0:=hid c4;have L:=hid A;have Z7:=hid z7;have a3:=hid (lt_heap g7);clear c4 A z7 g7 h7 J a1 h5 g6;obtain⟨R',e8⟩:∃R',ZsD x l (cv0 s.at_ g n) (s1.to (s.at_+1))=R':=⟨_,rfl⟩;have hK:=Zcj x l (cv0 s.at_ g n) (s1.to (s.at_+1));have a7:=ZdN x (cv0 s.at_ g n) (s:=s1.to (s.at_+1)) (l:=l) (by show s.at_+1≤l.length;omega);have G:=Zfu x (cv0 s.at_ g n) (s:=s1.to (s.at_+1)) (l:=l) (N:=100000) (by show s.at_+1≤l.length;omega) g0.out;have o:=D.out;rw[e8]at d8 hK a7 G o;clear D;have D:=hid o;obtain⟨rb,⟨ca,cg,cn,c,d,f⟩,rs⟩:=R';obtain⟨k1,k2,k3⟩:=hK;simp only at k1 k2 k3 a7 G;have k1:=k1.symm;have k2:=k2.symm;have k3:=k3.symm;subst k1;subst k2;subst k3;clear e8 o;go_wp2_with(rw[←i0.out]);refine d8.out.mono ?_;rintro z w8 ⟨u,pv,S2,rfl,g8,a0,a5,h8,b0,n8⟩;simp only at g8 a0 a5 h8;have g4:=b0.fr.heap Z7.out (fun e=>e.elim V.out (fun e=>by have e:w.heap.size+1=w3.heap.size:=e;have:=y.out;omega))
    have K:¬S2 (w.heap.size+1):=fun e=>by
     rcases b0.old _ (by have:=a3.out;have:=y.out;omega) (.inl e)with e|e
     ·exact V.out e
     ·have e:w.heap.size+1=w3.heap.size:=e;have:=y.out;omega
    have b7:pv.oneCell'=true:=by obtain⟨a9,c9,rfl⟩:=Zb a5.1;rfl
    have c5:u.oneCell'=true:=by rcases a0.shape with rfl|⟨i9,y9,rfl⟩<;>rfl
    have G8:=hid g8;have c8:=hid a0;have d0:=hid a5;have H8:=hid h8;have c6:=hid b0;have N8:=hid n8;have Z8:=hid g4;have j3:=hid K;have i2:=hid a7;have f6:=hid G;clear g8 a0 a5 h8 b0 n8 g4 K r7 a7 G;cases rb with
    |false=>
     have I:ZlM l (false,⟨s.at_,g,n,c,d,f⟩,rs)=(⟨s.at_,g,n,c,d,f⟩,rs):=if_neg (fun h=>by cases h.1);have GF:=hid G8.out;have ZF:=hid Z8.out;go_wp2_with(first|refine wpList_load_row rfl 35 _ rfl w3.heap.size rfl 35 (gc20 s.at_ g u1 u2 n c d u pv f) (0,0) _ GF.out Tryz.underlying35 rfl info_C ?_|refine wpList_store_row rfl 35 _ _ rfl (w.heap.size+1) (gc20 s.at_ g u1 u2 n c d u pv f) rfl rfl 35 _ ZF.out info_C rfl (Zsv o1 o2 c5 b7) ?_);(try simp only[Exit.inBlock,Exit.then]);have v:=D.out;rw[I]at v;subst v;obtain⟨q1,q2,q3,q4,q5,q6⟩:=Zcm L.out c6.out y.out a3.out V.out (Stp.refl _ _) rn1 rn2 c8.out d0.out H8.out (gc20 s.at_ g u1 u2 n c d u pv f);exact bodyPost_ret (Zaa rfl rfl (setRow_heap _ _ _ _ _ _ ZF.out)) rfl ⟨u1,u2,u,pv,S2,rfl,q1,q2,q3,q4,q5,q6⟩
    |true=>
     by_cases Z:rs.e=0
     ·have e9:(rs.e==0)=true:=by simpa using Z
      have I:ZlM l (true,⟨s.at_,g,n,c,d,f⟩,rs)=(⟨s.at_,g,n,c,d,f⟩,Zjq l rs):=if_pos ⟨rfl,Z⟩;go_wp2_with fail;refine(cm_ok b l x _ S2 w8 H8.out).mono ?_;rintro z d5 ⟨rfl,r⟩;rw[e9];have d3:=hid (H8.out.on r);have d1:=hid r;clear r;go_wp2_with fail;refine(cm_end b l x rs S2 d5 hl i2.out (by have:=f6.out;omega) d3.out).mono ?_;rintro z w9 ⟨rfl,S3,h9,Y⟩;have H9:=hid h9;have b6:=hid ((Stp.of d1.out).trans Y);have GF:=hid (Y.fr.heap (d1.out.heap G8.out (fun x=>x)) N8.out);have ZF:=hid (Y.fr.heap (d1.out.heap Z8.out (fun x=>x)) j3.out);clear h9 Y;go_wp2_with(first|refine wpList_load_row rfl 35 _ rfl w3.heap.size rfl 35 (gc20 s.at_ g u1 u2 n c d u pv f) (0,0) _ GF.out Tryz.underlying35 rfl info_C ?_|refine wpList_store_row rfl 35 _ _ rfl (w.heap.size+1) (gc20 s.at_ g u1 u2 n c d u pv f) rfl rfl 35 _ ZF.out info_C rfl (Zsv o1 o2 c5 b7) ?_)
      (try simp only[Exit.inBlock,Exit.then]);have v:=D.out;rw[I]at v;subst v;obtain⟨q1,q2,q3,q4,q5,q6⟩:=Zcm L.out c6.out y.out a3.out V.out b6.out rn1 rn2 c8.out d0.out H9.out (gc20 s.at_ g u1 u2 n c d u pv f);exact bodyPost_ret (Zaa rfl rfl (setRow_heap _ _ _ _ _ _ ZF.out)) rfl ⟨u1,u2,u,pv,S3,rfl,q1,q2,q3,q4,q5,q6⟩
     ·have e9:(rs.e==0)=false:=by simpa using Z
      have I:ZlM l (true,⟨s.at_,g,n,c,d,f⟩,rs)=(⟨s.at_,g,n,c,d,f⟩,rs):=if_neg (fun h=>Z h.2);go_wp2_with fail;refine(cm_ok b l x _ S2 w8 H8.out).mono ?_;rintro z d5 ⟨rfl,r⟩;rw[e9];have d3:=hid (H8.out.on r);have b6:=hid (Stp.of r:Stp S2 w8 S2 d5);have GF:=hid (r.heap G8.out (fun x=>x));have ZF:=hid (r.heap Z8.out (fun x=>x));clear r;go_wp2_with(first|refine wpList_load_row rfl 35 _ rfl w3.heap.size rfl 35 (gc20 s.at_ g u1 u2 n c d u pv f) (0,0) _ GF.out Tryz.underlying35 rfl info_C ?_|refine wpList_store_row rfl 35 _ _ rfl (w.heap.size+1) (gc20 s.at_ g u1 u2 n c d u pv f) rfl rfl 35 _ ZF.out info_C rfl (Zsv o1 o2 c5 b7) ?_);(try simp only[Exit.inBlock,Exit.then]);have v:=D.out;rw[I]at v;subst v;obtain⟨q1,q2,q3,q4,q5,q6⟩:=Zcm L.out c6.out y.out a3.out V.out b6.out rn1 rn2 c8.out d0.out d3.out (gc20 s.at_ g u1 u2 n c d u pv f)
      exact bodyPost_ret (Zaa rfl rfl (setRow_heap _ _ _ _ _ _ ZF.out)) rfl ⟨u1,u2,u,pv,S2,rfl,q1,q2,q3,q4,q5,q6⟩
   ·rw[if_pos P]at o;have hq:(s1.e==0)=false:=by simpa using P
    subst o;clear b5 a2;go_wp2_with fail;refine e7.out.mono ?_;rintro z w7 ⟨rfl,f7⟩;rw[hq];have H7:=hid (H6.out.on f7);have L:=hid (g2.out.trans (Stp.of f7));have Z7:=hid (f7.heap d9.out (fun x=>x));clear f7;go_wp2_with(refine wpList_store_row rfl 35 _ _ rfl (w.heap.size+1) #[.int .i64 0,.int .i64 0,.int .i64 0,.string ⟨#[]⟩,.nilIface,.int .i64 0,.int .i64 0,.string ⟨#[]⟩,.nilIface,.bool false,.int .u8 0,.string ⟨#[]⟩,.string ⟨#[]⟩,.nilIface,.slice none 0 0,.int .i64 0,.bool false,.bool false,.string ⟨#[]⟩,.string ⟨#[]⟩] rfl rfl 35 _ Z7.out info_C rfl (by kernel_rfl) ?_);rw[setRow_self _ _ _ _ _ Z7.out];(try simp only[Exit.inBlock,Exit.then]);refine bodyPost_ret (Zaa rfl rfl Z7.out) rfl ⟨.nilIface,.nilIface,.nilIface,.slice none 0 0,S1,rfl,?_,?_,?_,PrO.nil _ _,H7.out,L.out⟩
    all_goals rfl
end Go.Proofs.YtkfddjopbocpkaaGreatDoor
namespace Go.Proofs.YtkfddjopbocpkaaGreatDoor
open Go.Lib (hid)
open Go.RowKit
def Zv7(g:GV):Prop:=ZvY g.a∧ZvY g.b
def Zs9(g:GV):List UInt8:=Zto g.a++((if g.b.kind=0 then[]else[44]++Zto g.b)++(if g.no then[33]else[]))
theorem ZuH{g:GV}(h:Zv7 g):(Zs9 g).length≤600000006:=by
 have h1:=Ztg h.1;have h2:=Ztg h.2;unfold Zs9;split<;>split<;>simp<;>omega
theorem Pxn.less{W0 w w':World}{K K':Nat→Prop}(f:Fr (Pxn W0 K') w w')(h:∀k,K k→K' k):Fr (Pxn W0 K) w w':=f.mono (fun _ _ x y=>x (y.imp id (h _)))
section
variable {W0 w w':World} {K:Nat→Prop} {b:Nat} {out:List UInt8}
theorem Zu7(g:GV)(u1 u2:Value)(hE:Env W0)(hP:P10 W0)(hg:Zv7 g)(hv1:RN nob W0 g.a.tree u1)(hv2:RN nob W0 g.b.tree u2)(h:PxW W0 K b out w)(hlen:out.length≤10000000000000):
 Calls Tryz.prog 76 #[.pointer (some ⟨b,0,none⟩),.agg (gcell g u1 u2)] w (PxA W0 K b (out++Zs9 g) w (.tuple #[])):=by
 obtain⟨ga,gb,l⟩:=g;simp only at hv1 hv2;have o1:u1.oneCell'=true:=by rcases hv1.shape with rfl|⟨i,y,rfl⟩<;>rfl
 have o2:u2.oneCell'=true:=by rcases hv2.shape with rfl|⟨i,y,rfl⟩<;>rfl
 have l1:=Ztg hg.1;have l2:=Ztg hg.2;have v:=hid (fun(w':World) (f:Fr nob W0 w')=>Zts ga (.agg #[.int .i64 ga.kind,.int .i64 ga.line,.string ⟨ga.text.toArray⟩,u1]) w' (hE.on f) (hP.on f) hg.1 ⟨u1,rfl,RN.keep f (fun _ _ x=>x.elim) (fun _ _ x=>x.elim) _ _ hv1⟩);have q:=hid (fun(w':World) (f:Fr nob W0 w')=>Zts gb (.agg #[.int .i64 gb.kind,.int .i64 gb.line,.string ⟨gb.text.toArray⟩,u2]) w' (hE.on f) (hP.on f) hg.2 ⟨u2,rfl,RN.keep f (fun _ _ x=>x.elim) (fun _ _ x=>x.elim) _ _ hv2⟩);obtain⟨T1,r⟩:∃T,Zto ga=T:=⟨_,rfl⟩;obtain⟨T2,u⟩:∃T,Zto gb=T:=⟨_,rfl⟩;unfold Zs9;simp only;rw[r]at v l1⊢;rw[u]at q l2⊢;obtain⟨w1,m⟩:∃w1,w1=w.alloc (.cells #[.int .i64 ga.kind,.int .i64 ga.line,.string ⟨ga.text.toArray⟩,u1,.int .i64 gb.kind,.int .i64 gb.line,.string ⟨gb.text.toArray⟩,u2,.bool l] 30):=⟨_,rfl⟩;have o:=hid m;have h1:=h.alloc (.cells #[.int .i64 ga.kind,.int .i64 ga.line,.string ⟨ga.text.toArray⟩,u1,.int .i64 gb.kind,.int .i64 gb.line,.string ⟨gb.text.toArray⟩,u2,.bool l] 30) h.lt
 rw[←m]at h1;have f1:Fr nob w w1:=by rw[m];exact(Fr.refl _ _).alloc _
 have hb:w1.heap[w.heap.size]? =some (.cells #[.int .i64 ga.kind,.int .i64 ga.line,.string ⟨ga.text.toArray⟩,u1,.int .i64 gb.kind,.int .i64 gb.line,.string ⟨gb.text.toArray⟩,u2,.bool l] 30 (0,0)):=by rw[m];exact newAt _ _
 obtain⟨K2,p⟩:∃K2:Nat→Prop,(fun k=>K k∨k=w.heap.size)=K2:=⟨_,rfl⟩;have s:∀k,K k→K2 k:=by rw[←p];exact fun k h=>.inl h
 have t:K2 w.heap.size:=by rw[←p];exact .inr rfl
 rw[p]at h1;have r1:=Zk hb;have H1:=hid h1;have F1:=hid f1;have HB:=hid hb;have d:=hid s;have c:=hid t;clear m hE hP hg hv1 hv2 h h1 f1 hb p s t r u;have lb:w.heap.size<w1.heap.size:=lt_heap HB.out;have ag:∀W:World,Fr nob w1 W→Calls Tryz.prog 23 #[.agg #[.int .i64 ga.kind,.int .i64 ga.line,.string ⟨ga.text.toArray⟩,u1]] W fun e w'=>e=.returned (.string ⟨T1.toArray⟩)∧Fr nob W w':=fun W f=>v.out W (H1.out.fr.trans' f);have AG:=hid ag;clear ag;by_cases k0:gb.kind=0
 ·have t1:(gb.kind !=0)=false:=by simpa using k0
  rw[if_pos k0];clear k0;cases l
  ·go_enter Tryz.func76,Tryz.ntmps76
   go_upto_region 1 with(rw[←o.out])
   refine region_fr 6 (by kernel_rfl) (by kernel_rfl) ?_;simp only[List.take_succ_cons,List.take_zero,List.drop_succ_cons,List.drop_zero]
   repeat(go_big_quiet_step ((with_reducible exact calls_fr (AG.out _ (grown_fr _ _ _)))))
   refine wpQuiet_nil ?_;intro wC fC;go_wp2_with fail;refine(px_str T1 (H1.out.quiet fC) (by omega)).mono ?_;rintro e w2 ⟨rfl,h2,f2⟩;have r2:=Zk (f2.heap (fC.heap HB.out (fun x=>x)) (fun x=>x (.inr c.out)));have H2:=hid h2;have F2:=hid ((Pxn.of F1.out).trans ((Pxn.of fC).trans f2 (fun _ _ x=>x)) (fun _ _ x=>x));have n:=hid (f2.heap (fC.heap HB.out (fun x=>x)) (fun x=>x (.inr c.out)));clear h2 f2 fC r1;have j:=r2 w2 (Fr.refl _ _);go_wp2;exact bodyPost_ret (results_none rfl _ _ _) rfl ⟨rfl,by simpa using H2.out.less d.out,Pxn.less F2.out d.out⟩
  ·go_enter Tryz.func76,Tryz.ntmps76
   go_upto_region 1 with(rw[←o.out])
   refine region_fr 6 (by kernel_rfl) (by kernel_rfl) ?_;simp only[List.take_succ_cons,List.take_zero,List.drop_succ_cons,List.drop_zero]
   repeat(go_big_quiet_step ((with_reducible exact calls_fr (AG.out _ (grown_fr _ _ _)))))
   refine wpQuiet_nil ?_;intro wC fC;go_wp2_with fail;refine(px_str T1 (H1.out.quiet fC) (by omega)).mono ?_;rintro e w2 ⟨rfl,h2,f2⟩;have r2:=Zk (f2.heap (fC.heap HB.out (fun x=>x)) (fun x=>x (.inr c.out)));have H2:=hid h2;have F2:=hid ((Pxn.of F1.out).trans ((Pxn.of fC).trans f2 (fun _ _ x=>x)) (fun _ _ x=>x));have n:=hid (f2.heap (fC.heap HB.out (fun x=>x)) (fun x=>x (.inr c.out)));clear h2 f2 fC r1;have j:=r2 w2 (Fr.refl _ _);go_wp2_with fail;refine(px_byte 33 33 (by decide) rfl H2.out (by simp only[List.length_append,List.length_cons,List.length_nil];omega)).mono ?_;rintro e w9 ⟨rfl,h9,f9⟩;go_wp2;exact bodyPost_ret (results_none rfl _ _ _) rfl ⟨rfl,by simpa using h9.less d.out,Pxn.less (F2.out.trans f9 (fun _ _ x=>x)) d.out⟩
 ·have t1:(gb.kind !=0)=true:=by simpa using k0
  rw[if_neg k0];clear k0;cases l
  ·go_enter Tryz.func76,Tryz.ntmps76
   go_upto_region 1 with(rw[←o.out])
   refine region_fr 6 (by kernel_rfl) (by kernel_rfl) ?_;simp only[List.take_succ_cons,List.take_zero,List.drop_succ_cons,List.drop_zero]
   repeat(go_big_quiet_step ((with_reducible exact calls_fr (AG.out _ (grown_fr _ _ _)))))
   refine wpQuiet_nil ?_;intro wC fC;go_wp2_with fail;refine(px_str T1 (H1.out.quiet fC) (by omega)).mono ?_;rintro e w2 ⟨rfl,h2,f2⟩;have r2:=Zk (f2.heap (fC.heap HB.out (fun x=>x)) (fun x=>x (.inr c.out)));have H2:=hid h2;have F2:=hid ((Pxn.of F1.out).trans ((Pxn.of fC).trans f2 (fun _ _ x=>x)) (fun _ _ x=>x));have n:=hid (f2.heap (fC.heap HB.out (fun x=>x)) (fun x=>x (.inr c.out)));clear h2 f2 fC r1;have j:=r2 w2 (Fr.refl _ _)
   go_upto_region 3 with(fail)
   clear j;have ab:=fun(W:World) (f:Fr nob w2 W)=>q.out W (H2.out.fr.trans' f);have AB:=hid ab;clear ab;refine region_fr 7 (by kernel_rfl) (by kernel_rfl) ?_;simp only[List.take_succ_cons,List.take_zero,List.drop_succ_cons,List.drop_zero]
   repeat(go_big_quiet_step ((with_reducible exact calls_fr (AB.out _ (grown_fr _ _ _)))))
   refine wpQuiet_nil ?_;intro wD fD;go_wp2_with fail;refine(px_str (44::T2) (H2.out.quiet fD) (by simp only[List.length_append,List.length_cons];omega)).mono ?_;rintro e w3 ⟨rfl,h3,f3⟩;have r3:=Zk (f3.heap (fD.heap n.out (fun x=>x)) (fun x=>x (.inr c.out))) w3 (Fr.refl _ _);have H3:=hid h3;have F3:=hid (F2.out.trans ((Pxn.of fD).trans f3 (fun _ _ x=>x)) (fun _ _ x=>x));clear h3 f3 fD r2;go_wp2;exact bodyPost_ret (results_none rfl _ _ _) rfl ⟨rfl,by simpa using H3.out.less d.out,Pxn.less F3.out d.out⟩
  ·go_enter Tryz.func76,Tryz.ntmps76
   go_upto_region 1 with(rw[←o.out])
   refine region_fr 6 (by kernel_rfl) (by kernel_rfl) ?_;simp only[List.take_succ_cons,List.take_zero,List.drop_succ_cons,List.drop_zero]
   repeat(go_big_quiet_step ((with_reducible exact calls_fr (AG.out _ (grown_fr _ _ _)))))
   refine wpQuiet_nil ?_;intro wC fC;go_wp2_with fail;refine(px_str T1 (H1.out.quiet fC) (by omega)).mono ?_;rintro e w2 ⟨rfl,h2,f2⟩;have r2:=Zk (f2.heap (fC.heap HB.out (fun x=>x)) (fun x=>x (.inr c.out)));have H2:=hid h2;have F2:=hid ((Pxn.of F1.out).trans ((Pxn.of fC).trans f2 (fun _ _ x=>x)) (fun _ _ x=>x));have n:=hid (f2.heap (fC.heap HB.out (fun x=>x)) (fun x=>x (.inr c.out)));clear h2 f2 fC r1;have j:=r2 w2 (Fr.refl _ _)
   go_upto_region 3 with(fail)
   clear j;have ab:=fun(W:World) (f:Fr nob w2 W)=>q.out W (H2.out.fr.trans' f);have AB:=hid ab;clear ab;refine region_fr 7 (by kernel_rfl) (by kernel_rfl) ?_;simp only[List.take_succ_cons,List.take_zero,List.drop_succ_cons,List.drop_zero]
   repeat(go_big_quiet_step ((with_reducible exact calls_fr (AB.out _ (grown_fr _ _ _)))))
   refine wpQuiet_nil ?_;intro wD fD;go_wp2_with fail;refine(px_str (44::T2) (H2.out.quiet fD) (by simp only[List.length_append,List.length_cons];omega)).mono ?_;rintro e w3 ⟨rfl,h3,f3⟩;have r3:=Zk (f3.heap (fD.heap n.out (fun x=>x)) (fun x=>x (.inr c.out))) w3 (Fr.refl _ _);have H3:=hid h3;have F3:=hid (F2.out.trans ((Pxn.of fD).trans f3 (fun _ _ x=>x)) (fun _ _ x=>x));clear h3 f3 fD r2;go_wp2_with fail;refine(px_byte 33 33 (by decide) rfl H3.out (by simp only[List.length_append,List.length_cons,List.length_nil];omega)).mono ?_;rintro e w9 ⟨rfl,h9,f9⟩;go_wp2;exact bodyPost_ret (results_none rfl _ _ _) rfl ⟨rfl,by simpa using h9.less d.out,Pxn.less (F3.out.trans f9 (fun _ _ x=>x)) d.out⟩
end
def Zc2(S:Nat→Prop)(w:World)(c:CV)(v:Value):Prop:=
 ∃u1 u2 u pv,v=.agg (cmd20 c.at_ (.int .i64 c.guard.a.kind) (.int .i64 c.guard.a.line) (.string ⟨c.guard.a.text.toArray⟩) u1 (.int .i64 c.guard.b.kind) (.int .i64 c.guard.b.line) (.string ⟨c.guard.b.text.toArray⟩) u2 (.bool c.guard.no) c.name c.arg c.sub u pv c.table)∧
  RN S w c.guard.a.tree u1∧RN S w c.guard.b.tree u2∧RN S w c.sub.tree u∧PrO S w c.sub.parts pv
theorem Zc2.keep{S S' X:Nat→Prop}{w w':World}{c:CV}{v:Value}(h:Zc2 S w c v)(f:Fr X w w')(hX:∀k,X k→S k)(hS:∀k,k<w.heap.size→S' k→S k):Zc2 S' w' c v:=by
 obtain⟨u1,u2,u,pv,rfl,r1,r2,r3,p⟩:=h;exact⟨u1,u2,u,pv,rfl,RN.keep f (fun k _ e=>hX k e) hS _ _ r1,RN.keep f (fun k _ e=>hX k e) hS _ _ r2,RN.keep f (fun k _ e=>hX k e) hS _ _ r3,p.keep f hX hS⟩
theorem Zc2.on{S:Nat→Prop}{w w':World}{c:CV}{v:Value}(h:Zc2 S w c v)(f:Fr nob w w'):Zc2 S w' c v:=h.keep f (fun _ x=>x.elim) (fun _ _ x=>x)
theorem Zc2.any{S:Nat→Prop}{w:World}{c:CV}{v:Value}(h:Zc2 S w c v):Zc2 nob w c v:=h.keep (Fr.refl nob w) (fun _ x=>x.elim) (fun _ _ x=>x.elim)
def CmV(b:Nat)(l:List UInt8)(x:Bool)(S O:Nat→Prop)(w:World)(R:CV×AdS)(r:Ending)(w':World):Prop:=
 ∃v S',r=.returned v∧Zc2 (SO S' O) w' R.1 v∧CRd b l x R.2 S' w'∧Stp S w S' w'
theorem ZgR.val{b:Nat}{l:List UInt8}{x:Bool}{S O:Nat→Prop}{w:World}{R:CV×AdS}{r:Ending}{w':World}(h:ZgR b l x S O w R r w'):CmV b l x S O w R r w':=by
 obtain⟨u1,u2,u,pv,S',rfl,r1,r2,r3,p,hr,st⟩:=h;exact⟨_,S',rfl,⟨u1,u2,u,pv,rfl,r1,r2,r3,p⟩,hr,st⟩
theorem ZeQ(b:Nat)(l:List UInt8)(x:Bool)(s:AdS)(S O:Nat→Prop)(g:GV)(v:Value)(w:World)(hl:l.length≤99000)(ha:s.at_≤l.length)(hm:s.marks.length≤90000)(hS:∀k,S k→k<w.heap.size)(hO:∀k,O k→k<w.heap.size)(W0:World)(hE:Env W0)(hW:Fr nob W0 w)(hSW:∀k,S k→W0.heap.size≤k)(h:CRd b l x s S w)(he:s.e=0)(hv:Zni (SO S O) w g v):
 Calls Tryz.prog 30 #[.pointer (some ⟨b,0,none⟩),v] w (CmV b l x S O w (ZbY x l g s)):=by
 obtain⟨u1,u2,rfl,a,c⟩:=hv;have o1:u1.oneCell'=true:=by rcases a.shape with rfl|⟨i,y,rfl⟩<;>rfl
 have o2:u2.oneCell'=true:=by rcases c.shape with rfl|⟨i,y,rfl⟩<;>rfl
 refine Calls.mono ?_ (fun _ _ h=>ZgR.val h);by_cases ho:l.length≤s.at_
 ·rw[show ZbY x l g s=(CV.zero,failC s 5 l.length)from if_pos ho];exact Zll o1 o2 b l x s S O g w hl ha hm hS hO W0 hE hW hSW h ho
 ·exact ZsB o1 o2 b l x s S O g w hl ha hm hS hO W0 hE hW hSW h (by omega) he a c
theorem Zp1(ms:List Prt)(k:Nat)(hk:k<ms.length):(pC ms)[k*2]? =some (.int .i64 ms[k].1)∧(pC ms)[k*2+1]? =some (.string ⟨ms[k].2.toArray⟩):=by
 induction ms generalizing k with
 |nil=>simp at hk
 |cons m r ih=>
  have e:pC (m::r)=.int .i64 m.1:: .string ⟨m.2.toArray⟩::pC r:=rfl;cases k with
  |zero=>rw[e];exact⟨rfl,rfl⟩
  |succ k=>
   rw[e,show(k+1)*2=k*2+2 by omega];simp only[List.length_cons]at hk;exact ih k (by omega)
theorem OwP.get{w:World}{ms:List Prt}{v:Value}(h:OwP w ms v){k:Nat}(hk:k<ms.length):
 ∃g cap,v=.slice (some ⟨g,0,none⟩) ms.length cap∧g<w.heap.size∧w.cell? ⟨g,k*2,none⟩=some (.int .i64 ms[k].1)∧w.cell? ⟨g,k*2+1,none⟩=some (.string ⟨ms[k].2.toArray⟩):=by
 have hl:=Zcd ms;unfold OwP at h;obtain⟨a,c,rfl⟩:=Zb h;rcases h.2 with⟨e,hn⟩|⟨r,cap,b,e,_,hr,_⟩
 ·omega
 ·injection e with e1 e2 e3;subst e1;exact⟨r,c,rfl,lt_heap hr,(h.cellAt (k*2) (by omega)).trans (Zp1 ms k hk).1,(h.cellAt (k*2+1) (by omega)).trans (Zp1 ms k hk).2⟩
def CV.few(a:CV):Prop:=a.guard.a.tree.size≤3000000∧a.guard.b.tree.size≤3000000∧a.sub.tree.size≤3000000∧a.sub.parts.length≤1000000
def ZtU(p:Prt):List UInt8:=if p.1<0 then Zs6 [92,47,38] [92,110] p.2 else if p.1=0 then[38]else[92]++Lib.itoa p.1
def ZsH(l:List Prt):List UInt8:=l.flatMap ZtU
def Zvy(x:SV):List UInt8:=ZuU x.tree++(ZsH x.parts++([47]++((if x.nth=0 then[]else Lib.itoa x.nth)++((if x.all then[103]else[])++((if x.print then[112]else[])++(if x.file=[]then[]else[119,32]++x.file))))))
structure SvOk(x:SV):Prop where
 tr:ZvK x.tree
 n0: -9223372036854775808≤x.nth
 n1:x.nth≤9223372036854775807
 pl:x.parts.length≤100000
 ps:∀p∈x.parts,p.2.length≤100000∧ -9223372036854775808≤p.1∧p.1≤9223372036854775807
 fl:x.file.length≤100000
theorem Zvz{p:Prt}(h:p.2.length≤100000∧ -9223372036854775808≤p.1∧p.1≤9223372036854775807):(ZtU p).length≤400000:=by
 unfold ZtU;split
 ·have:=ZsK [92,47,38] [92,110] p.2;simp only[List.length_cons,List.length_nil]at this;omega
 ·split
  ·simp
  ·have:=ZsT h.2.1 h.2.2;simp;omega
theorem Zth:∀{l:List Prt},(∀p∈l,p.2.length≤100000∧ -9223372036854775808≤p.1∧p.1≤9223372036854775807)→(ZsH l).length≤400000*l.length
 |[],_=>by simp[ZsH]
 |p::l,h=>by
  have h1:=Zth (l:=l) (fun q hq=>h q (List.mem_cons_of_mem _ hq));have h2:=Zvz (h p (List.mem_cons_self ..));unfold ZsH at h1⊢;rw[List.flatMap_cons,List.length_append,List.length_cons];omega
theorem Zuq{l:List Prt}{k:Nat}(h:k<l.length):ZsH (l.take (k+1))=ZsH (l.take k)++ZtU l[k]:=by
 unfold ZsH;rw[List.take_succ_eq_append_getElem h,List.flatMap_append];simp
theorem ZvA{x:SV}(h:SvOk x):(Zvy x).length≤50000000000:=by
 have h1:=ZtS h.tr;have h2:=Zth h.ps;have h3:=ZsT h.n0 h.n1;have h4:=h.pl;have h5:=h.fl;unfold Zvy;simp only[List.length_append,List.length_cons,List.length_nil];have a1:(if x.nth=0 then[]else Lib.itoa x.nth).length≤20:=by split<;>first|omega|simp
 have a2:(if x.all then[(103:UInt8)]else[]).length≤1:=by split<;>simp
 have a3:(if x.print then[(112:UInt8)]else[]).length≤1:=by split<;>simp
 have a4:(if x.file=[]then[]else[119,32]++x.file).length≤100002:=by split<;>simp only[List.length_append,List.length_cons,List.length_nil]<;>omega
 omega
section
variable {W0 w w':World} {K:Nat→Prop} {b:Nat} {out:List UInt8}
theorem ZvZ(x:SV)(u pv:Value)(hE:Env W0)(hP:P10 W0)(hg:SvOk x)(hv1:RN nob W0 x.tree u)(hv2:OwP W0 x.parts pv)(h:PxW W0 K b out w)(hlen:out.length≤10000000000):
 Calls Tryz.prog 80 #[.pointer (some ⟨b,0,none⟩),.agg #[.string ⟨x.text.toArray⟩,u,pv,.int .i64 x.nth,.bool x.all,.bool x.print,.string ⟨x.file.toArray⟩]] w (PxA W0 K b (out++Zvy x) w (.tuple #[])):=by
 have o1:u.oneCell'=true:=by rcases hv1.shape with rfl|⟨i,y,rfl⟩<;>rfl
 have n:=hid (fun(w':World) (f:Fr nob W0 w')=>Zt2 x.tree u w' (hE.on f) (hP.on f) hg.tr (RN.keep f (fun _ _ x=>x.elim) (fun _ _ x=>x.elim) _ _ hv1));have HP:=hid (fun(w':World) (f:Fr nob W0 w')=>hP.on f);have J:=hid hv2;obtain⟨pa,pc,rfl⟩:=Zb hv2;have l1:=ZtS hg.tr;have l2:=Zth hg.ps;have l3:=ZsT hg.n0 hg.n1;have l4:=hg.pl;have l5:=hg.fl;have G:=hid hg.ps;have HN:=hid (And.intro hg.n0 hg.n1);obtain⟨xt,tr,ps,nth,al,pr,fl⟩:=x;unfold Zvy;simp only at n J l1 l2 l3 l4 l5 G HN hv1⊢;obtain⟨T1,M⟩:∃T,ZuU tr=T:=⟨_,rfl⟩;rw[M]at n l1⊢;obtain⟨A1,t⟩:∃A,(if nth=0 then[]else Lib.itoa nth)=A:=⟨_,rfl⟩;obtain⟨A2,v⟩:∃A,(if al then[(103:UInt8)]else[])=A:=⟨_,rfl⟩;obtain⟨A3,I⟩:∃A,(if pr then[(112:UInt8)]else[])=A:=⟨_,rfl⟩;obtain⟨A4,B⟩:∃A,(if fl=[]then[]else[119,32]++fl)=A:=⟨_,rfl⟩;rw[t,v,I,B];have F:=hid t;have R:=hid v;have S:=hid I;have a1:=hid B
 clear t v I B;obtain⟨w1,g⟩:∃w1,w1=w.alloc (.cells #[.string ⟨xt.toArray⟩,u,.slice pa ps.length pc,.int .i64 nth,.bool al,.bool pr,.string ⟨fl.toArray⟩] 33):=⟨_,rfl⟩;have a3:=hid g;have h1:=h.alloc (.cells #[.string ⟨xt.toArray⟩,u,.slice pa ps.length pc,.int .i64 nth,.bool al,.bool pr,.string ⟨fl.toArray⟩] 33) h.lt;rw[←g]at h1;have f1:Fr nob w w1:=by rw[g];exact(Fr.refl _ _).alloc _
 have hb:w1.heap[w.heap.size]? =some (.cells #[.string ⟨xt.toArray⟩,u,.slice pa ps.length pc,.int .i64 nth,.bool al,.bool pr,.string ⟨fl.toArray⟩] 33 (0,0)):=by rw[g];exact newAt _ _
 obtain⟨K2,r⟩:∃K2:Nat→Prop,(fun k=>K k∨k=w.heap.size)=K2:=⟨_,rfl⟩;have U:∀k,K k→K2 k:=by rw[←r];exact fun k h=>.inl h
 have O:K2 w.heap.size:=by rw[←r];exact .inr rfl
 rw[r]at h1;have r1:=ZG hb;have H1:=hid h1;have F1:=hid f1;have HB:=hid hb;have o:=hid U;have d:=hid O;have a5:=hid (fun(W:World) (f:Fr nob w1 W)=>n.out W (H1.out.fr.trans' f));clear g hE hP hg hv1 hv2 h h1 f1 hb r U O M n;go_enter Tryz.func80,Tryz.ntmps80
 go_upto_region 1 with(rw[←a3.out])
 refine region_fr 6 (by kernel_rfl) (by kernel_rfl) ?_;simp only[List.take_succ_cons,List.take_zero,List.drop_succ_cons,List.drop_zero]
 repeat(go_big_quiet_step ((with_reducible exact calls_fr (a5.out _ (grown_fr _ _ _)))))
 refine wpQuiet_nil ?_;intro wC fC;go_wp2_with fail;refine(px_str T1 (H1.out.quiet fC) (by omega)).mono ?_;rintro e w2 ⟨rfl,h2,f2⟩;have E:=f2.heap (fC.heap HB.out (fun x=>x)) (fun x=>x (.inr d.out));have r2:=ZG E w2 (Fr.refl _ _);have H2:=hid h2;have F2:=hid ((Pxn.of F1.out).trans ((Pxn.of fC).trans f2 (fun _ _ x=>x)) (fun _ _ x=>x));have a0:=hid E;clear h2 f2 fC r1 E;go_wp2_with fail
 go_loopw [16] (fun i wr=>∃k:Nat,i=.int .i64 k∧k≤ps.length∧PxW W0 K2 b (out++T1++ZsH (ps.take k)) wr∧Fr (Pxn W0 K2) w2 wr) (fun i _=>ps.length-(intOf i).toNat)
 case atStart=>exact⟨0,rfl,Nat.zero_le _,by simpa[ZsH]using H2.out,Fr.refl _ _⟩
 case round=>
  obtain⟨k,rfl,hk,tx,fr⟩:=hrel;have HR:=hid tx;have FR:=hid fr;clear tx fr r2;by_cases H:k<ps.length
  ·obtain⟨g1,b2,e1,_,q1,q2⟩:=J.out.get H;injection e1 with e1 _ e1';subst e1;subst e1';have p1:=HR.out.fr.cell q1 (fun x=>x);have p2:=HR.out.fr.cell q2 (fun x=>x);have c:=G.out ps[k] (List.getElem_mem H);have z:=Zuq H;have a4:(ZsH (ps.take k)).length≤400000*ps.length:=by
    have h1:=Zth (l:=ps.take k) (fun p hp=>G.out p (List.mem_of_mem_take hp));have h2:(ps.take k).length≤ps.length:=by rw[List.length_take];omega
    have h3:=Nat.mul_le_mul_left 400000 h2;omega
   obtain⟨⟨m1,m2⟩,hm⟩:∃m,ps[k]=m:=⟨_,rfl⟩;rw[hm]at p1 p2 c z;simp only at p1 p2 c;obtain⟨D,hD⟩:∃D,out++T1++ZsH (ps.take k)=D:=⟨_,rfl⟩;have Z:D.length≤60000000000:=by rw[←hD,List.length_append,List.length_append];omega
   rw[hD]at HR;have V:out++T1++ZsH (ps.take (k+1))=D++ZtU (m1,m2):=by rw[z,←List.append_assoc,hD]
   have a:=hid V;obtain⟨w3,q⟩:∃w3,w3=wr.alloc (.cells #[.int .i64 m1,.string ⟨m2.toArray⟩] 43):=⟨_,rfl⟩;have N:w3.heap[wr.heap.size]? =some (.cells #[.int .i64 m1,.string ⟨m2.toArray⟩] 43 (0,0)):=by rw[q];exact newAt _ _
   have f3:Fr nob wr w3:=by rw[q];exact(Fr.refl _ _).alloc _
   have r3:=Zqy N;have s:=hid q;have H3:=hid (HR.out.quiet f3);have F3:=hid (FR.out.trans f3 (fun _ _ x=>x.elim));have j:=hid (fun(W:World) (f:Fr nob w3 W)=>ZtB m1 W c.2.1 c.2.2 (HP.out W (H3.out.fr.trans' f)));have a2:=ZsT c.2.1 c.2.2;have a9:=c.1;clear q1 q2 hm hD V z a4 q N f3 c;unfold ZtU at a;simp only at a;by_cases m0:m1<0
   ·rw[if_pos m0]at a;go_wp2_with(rw[←s.out]);refine(pr_quote m2 [92,47,38] [92,110] H3.out (by omega) (by decide)).mono ?_;rintro e w4 ⟨rfl,h4,f4⟩;rw[←a.out]at h4;have H4:=hid h4;have F4:=hid (F3.out.trans f4 (fun _ _ x=>x));clear h4 f4 r3;go_wp2;go_roundw
    case rel=>exact⟨k+1,by go_num,by omega,H4.out,F4.out⟩
    case measure=>simp[intOf];omega
   ·rw[if_neg m0]at a;by_cases m9:m1=0
    ·rw[if_pos m9]at a;have t9:(m1==0)=true:=by simpa using m9
     clear m9;go_wp2_with(rw[←s.out]);refine(px_byte 38 38 (by decide) rfl H3.out (by omega)).mono ?_;rintro e w4 ⟨rfl,h4,f4⟩;rw[←a.out]at h4;have H4:=hid h4;have F4:=hid (F3.out.trans f4 (fun _ _ x=>x));clear h4 f4 r3;go_wp2;go_roundw
     case rel=>exact⟨k+1,by go_num,by omega,H4.out,F4.out⟩
     case measure=>simp[intOf];omega
    ·rw[if_neg m9]at a;have t9:(m1==0)=false:=by simpa using m9
     clear m9;obtain⟨it,L⟩:∃it,Lib.itoa m1=it:=⟨_,rfl⟩;rw[L]at a j a2;clear L;go_wp2_with(rw[←s.out]);refine region_fr 7 (by kernel_rfl) (by kernel_rfl) ?_;simp only[List.take_succ_cons,List.take_zero,List.drop_succ_cons,List.drop_zero]
     repeat(go_big_quiet_step ((with_reducible exact calls_fr (j.out _ (grown_fr _ _ _)))))
     refine wpQuiet_nil ?_;intro wD fD;go_wp2_with fail;refine(px_str (92::it) (H3.out.quiet fD) (by simp only[List.length_cons];omega)).mono ?_;rintro e w4 ⟨rfl,h4,f4⟩;rw[show(92::it)=[92]++it from rfl,←a.out]at h4;have H4:=hid h4;have F4:=hid ((F3.out.trans fD (fun _ _ x=>x.elim)).trans f4 (fun _ _ x=>x));clear h4 f4 fD r3;go_wp2;go_roundw
     case rel=>exact⟨k+1,by go_num,by omega,H4.out,F4.out⟩
     case measure=>simp[intOf];omega
  ·obtain rfl:k=ps.length:=by omega
   have hT:=List.take_of_length_le (l:=ps) (Nat.le_refl _);rw[hT]at HR;obtain⟨D,hD⟩:∃D,out++T1++ZsH ps=D:=⟨_,rfl⟩;have Z:D.length≤60000000000:=by rw[←hD,List.length_append,List.length_append];omega
   rw[hD]at HR;have HD:=hid hD;have X:=hid (FR.out.heap a0.out (fun x=>x (.inr d.out)));clear hT hD;go_wp2_with fail;refine(px_byte 47 47 (by decide) rfl HR.out (by omega)).mono ?_;rintro e w5 ⟨rfl,h5,f5⟩;have C:=hid (f5.heap X.out (fun x=>x (.inr d.out)));have r5:=ZG C.out w5 (Fr.refl _ _);have H5:=hid h5;have F5:=hid (F2.out.trans (FR.out.trans f5 (fun _ _ x=>x)) (fun _ _ x=>x));clear h5 f5 X;go_upto_if 51 with(fail)
   go_cut [] (fun w'=>PxW W0 K2 b (D++[47]++A1) w'∧Fr (Pxn W0 K2) w5 w')
   case first=>
    by_cases m0:nth=0
    ·have t0:(nth !=0)=false:=by simpa using m0
     have hA:=F.out;rw[if_pos m0]at hA;clear m0;go_wp2;go_meet
     case rel=>exact⟨by rw[←hA,List.append_nil];exact H5.out,Fr.refl _ _⟩
    ·have t0:(nth !=0)=true:=by simpa using m0
     have hA:=F.out;rw[if_neg m0]at hA;clear m0;have j:=hid (fun(W:World) (f:Fr nob w5 W)=>ZtB nth W HN.out.1 HN.out.2 (HP.out W (H5.out.fr.trans' f)));rw[hA]at j l3;have r5:=ZG C.out;clear hA;go_wp2_with fail;refine region_fr 6 (by kernel_rfl) (by kernel_rfl) ?_;simp only[List.take_succ_cons,List.take_zero,List.drop_succ_cons,List.drop_zero]
     repeat(go_big_quiet_step ((with_reducible exact calls_fr (j.out _ (grown_fr _ _ _)))))
     refine wpQuiet_nil ?_;intro wD fD;go_wp2_with fail;refine(px_str A1 (H5.out.quiet fD) (by simp only[List.length_append,List.length_cons,List.length_nil];omega)).mono ?_;rintro e w6 ⟨rfl,h6,f6⟩;go_wp2;go_meet
     case rel=>exact⟨h6,(Pxn.of fD).trans f6 (fun _ _ x=>x)⟩
   case rest=>
    obtain⟨h6,f6⟩:=hcut;have Q:=hid (f6.heap C.out (fun x=>x (.inr d.out)));have r6:=ZG Q.out wc (Fr.refl _ _);have H6:=hid h6;have F6:=hid (F5.out.trans f6 (fun _ _ x=>x));clear h6 f6 r5;have b0:A1.length≤20:=by rw[←F.out];split<;>first|omega|simp
    go_upto_if 60 with(fail)
    go_cut [] (fun w'=>PxW W0 K2 b (D++[47]++A1++A2) w'∧Fr (Pxn W0 K2) wc w')
    case first=>
     have hA:=R.out;cases al
     ·rw[if_neg (by decide)]at hA;go_wp2;go_meet
      case rel=>exact⟨by rw[←hA,List.append_nil];exact H6.out,Fr.refl _ _⟩
     ·rw[if_pos rfl]at hA;go_wp2_with fail;refine(px_byte 103 103 (by decide) rfl H6.out (by simp only[List.length_append,List.length_cons,List.length_nil];omega)).mono ?_;rintro e w7 ⟨rfl,h7,f7⟩;go_wp2;go_meet
      case rel=>exact⟨by rw[←hA];exact h7,f7⟩
    case rest=>
     obtain⟨h7,f7⟩:=hcut;have Y:=hid (f7.heap Q.out (fun x=>x (.inr d.out)));have r7:=ZG Y.out wc (Fr.refl _ _);have H7:=hid h7;have F7:=hid (F6.out.trans f7 (fun _ _ x=>x));clear h7 f7 r6;have a8:A2.length≤1:=by rw[←R.out];split<;>simp
     go_upto_if 66 with(fail)
     go_cut [] (fun w'=>PxW W0 K2 b (D++[47]++A1++A2++A3) w'∧Fr (Pxn W0 K2) wc w')
     case first=>
      have hA:=S.out;cases pr
      ·rw[if_neg (by decide)]at hA;go_wp2;go_meet
       case rel=>exact⟨by rw[←hA,List.append_nil];exact H7.out,Fr.refl _ _⟩
      ·rw[if_pos rfl]at hA;go_wp2_with fail;refine(px_byte 112 112 (by decide) rfl H7.out (by simp only[List.length_append,List.length_cons,List.length_nil];omega)).mono ?_;rintro e w8 ⟨rfl,h8,f8⟩;go_wp2;go_meet
       case rel=>exact⟨by rw[←hA];exact h8,f8⟩
     case rest=>
      obtain⟨h8,f8⟩:=hcut;have P:=hid (f8.heap Y.out (fun x=>x (.inr d.out)));have r8:=ZG P.out wc (Fr.refl _ _);have H8:=hid h8;have F8:=hid (F7.out.trans f8 (fun _ _ x=>x));clear h8 f8 r7;have b1:A3.length≤1:=by rw[←S.out];split<;>simp
      have hA:=a1.out;by_cases m0:fl=[]
      ·subst m0;rw[if_pos rfl]at hA;go_wp2;exact bodyPost_ret (results_none rfl _ _ _) rfl ⟨rfl,by rw[←hA];have h:=H8.out.less o.out;rw[←HD.out]at h;simpa using h,Pxn.less F8.out o.out⟩
      ·rw[if_neg m0]at hA;have a7:A4.length≤100002:=by rw[←hA];simp only[List.length_append,List.length_cons,List.length_nil];omega
       have a6:fl.isEmpty=false:=by cases fl with|nil=>exact absurd rfl m0|cons _ _=>rfl
       clear m0;have r8:=ZG P.out;go_wp2_with fail;refine region_fr 6 (by kernel_rfl) (by kernel_rfl) ?_;simp only[List.take_succ_cons,List.take_zero,List.drop_succ_cons,List.drop_zero]
       repeat(go_big_quiet_step (fail))
       refine wpQuiet_nil ?_;intro wD fD;go_wp2_with fail;refine(px_str A4 (H8.out.quiet fD) (by simp only[List.length_append,List.length_cons,List.length_nil];omega)).mono ?_;rintro e w9 ⟨rfl,h9,f9⟩;go_wp2;exact bodyPost_ret (results_none rfl _ _ _) rfl ⟨rfl,by have h:=h9.less o.out;rw[←HD.out]at h;simpa using h,Pxn.less ((F8.out.trans fD (fun _ _ x=>x.elim)).trans f9 (fun _ _ x=>x)) o.out⟩
end
def tabF(s:List UInt8)(k:Nat):List UInt8:=((List.range k).filter (fun i=>s.length=256∧s[i]?.getD 0≠i.toUInt8)).map (·.toUInt8)
def Ztp(s:List UInt8)(k:Nat):List UInt8:=((List.range k).filter (fun i=>s.length=256∧s[i]?.getD 0≠i.toUInt8)).map (s[·]?.getD 0)
def ZuI(s:List UInt8):List UInt8:=[47]++Zs6 [92,47] [92,110] (tabF s s.length)++[47]++Zs6 [92,47] [92,110] (Ztp s s.length)++[47]
def Zv8(n:UInt8):Bool:=n=58∨n=98∨n=116∨n=84∨n=114∨n=119
def Zv9(n:UInt8):Bool:=n=97∨n=105∨n=99
def ZvB(c:CV):List UInt8:=
 if Zv8 c.name then(if c.arg=[]then[]else[32]++c.arg)
 else if Zv9 c.name then[92,10]++Zs6 [92] [92,10] (Lib.trimSuffix c.arg [10])
 else if c.name=115 then Zvy c.sub
 else if c.name=121 then ZuI c.table
 else[]
def ZuJ(c:CV):List UInt8:=Zs9 c.guard++([c.name]++(ZvB c++[10]))
structure CvOk(c:CV):Prop where
 gd:Zv7 c.guard
 sb:SvOk c.sub
 al:c.arg.length≤100000
 tl:c.table.length≤256
theorem Zt3(l:List UInt8):(Lib.trimSuffix l [10]).length≤l.length:=by
 unfold Lib.trimSuffix;split
 ·rw[List.length_take];omega
 ·exact Nat.le_refl _
theorem Zt4{s:List UInt8}(h:s.length≤256):(ZuI s).length≤100000:=by
 have h1:=ZsK [92,47] [92,110] (tabF s s.length);have h2:=ZsK [92,47] [92,110] (Ztp s s.length);have h3:(tabF s s.length).length≤256:=by unfold tabF;rw[List.length_map];have:=List.length_filter_le (fun i=>decide (s.length=256∧s[i]?.getD 0≠i.toUInt8)) (List.range s.length);rw[List.length_range]at this;omega
 have h4:(Ztp s s.length).length≤256:=by unfold Ztp;rw[List.length_map];have:=List.length_filter_le (fun i=>decide (s.length=256∧s[i]?.getD 0≠i.toUInt8)) (List.range s.length);rw[List.length_range]at this;omega
 unfold ZuI;simp only[List.length_append,List.length_cons,List.length_nil]at h1 h2⊢;omega
theorem ZvC{c:CV}(h:CvOk c):(ZvB c).length≤50000000000:=by
 have h1:=ZvA h.sb;have h2:=Zt4 h.tl;have h3:=h.al;have h4:=Zt3 c.arg;have h5:=ZsK [92] [92,10] (Lib.trimSuffix c.arg [10]);unfold ZvB;simp only[List.length_cons,List.length_nil]at h5
 repeat' split
 all_goals first|omega|(simp only[List.length_append,List.length_cons,List.length_nil];omega)
def Zwa(W0:World):Prop:=∀(K:Nat→Prop) (b:Nat) (out:List UInt8) (w:World) (s:List UInt8),s.length≤256→PxW W0 K b out w→out.length≤100000000000→
 Calls Tryz.prog 81 #[.pointer (some ⟨b,0,none⟩),.string ⟨s.toArray⟩] w (PxA W0 K b (out++ZuI s) w (.tuple #[]))
section
variable {W0 w w':World} {K:Nat→Prop} {b:Nat} {out:List UInt8}
theorem Ztt(c:CV)(v:Value)(hE:Env W0)(hP:P10 W0)(hT:Zwa W0)(hg:CvOk c)(hv:Zc2 nob W0 c v)(h:PxW W0 K b out w)(hlen:out.length≤1000000000):
 Calls Tryz.prog 48 #[.pointer (some ⟨b,0,none⟩),v] w (PxA W0 K b (out++ZuJ c) w (.tuple #[])):=by
 obtain⟨u1,u2,u,pv,rfl,n1,n2,n3,np⟩:=hv;have o1:u1.oneCell'=true:=by rcases n1.shape with rfl|⟨i,y,rfl⟩<;>rfl
 have o2:u2.oneCell'=true:=by rcases n2.shape with rfl|⟨i,y,rfl⟩<;>rfl
 have o3:u.oneCell'=true:=by rcases n3.shape with rfl|⟨i,y,rfl⟩<;>rfl
 obtain⟨pa,pc,rfl⟩:=Zb np.1;obtain⟨at_,g,n,ar,d,tb⟩:=c;show Calls Tryz.prog 48 #[.pointer (some ⟨b,0,none⟩),.agg (gc20 at_ g u1 u2 n ar d u (.slice pa d.parts.length pc) tb)] w _;obtain⟨w1,l⟩:∃w1,w1=w.alloc (.cells (gc20 at_ g u1 u2 n ar d u (.slice pa d.parts.length pc) tb) 35):=⟨_,rfl⟩;have J:=hid l;have h1:=h.alloc (.cells (gc20 at_ g u1 u2 n ar d u (.slice pa d.parts.length pc) tb) 35) h.lt;rw[←l]at h1;have f1:Fr nob w w1:=by rw[l];exact(Fr.refl _ _).alloc _
 have hb:w1.heap[w.heap.size]? =some (.cells (gc20 at_ g u1 u2 n ar d u (.slice pa d.parts.length pc) tb) 35 (0,0)):=by rw[l];exact newAt _ _
 obtain⟨K2,p⟩:∃K2:Nat→Prop,(fun k=>K k∨k=w.heap.size)=K2:=⟨_,rfl⟩;have E:∀k,K k→K2 k:=by rw[←p];exact fun k h=>.inl h
 have t:K2 w.heap.size:=by rw[←p];exact .inr rfl
 rw[p]at h1;have lg:=ZuH hg.gd;have HG:=hid (Zu7 g u1 u2 hE hP hg.gd n1 n2 h1 (by omega));have lA:=ZvC hg;obtain⟨A,hA⟩:∃A,ZvB ⟨at_,g,n,ar,d,tb⟩=A:=⟨_,rfl⟩;obtain⟨T,m⟩:∃T,Zs9 g=T:=⟨_,rfl⟩;unfold ZuJ;simp only[hA,m];rw[hA]at lA;rw[m]at HG;have r1:=Zw hb w1 (Fr.refl _ _);have q1:w1.cell? ⟨w.heap.size,1,none⟩=some (.int .i64 g.a.kind)∧w1.cell? ⟨w.heap.size,2,none⟩=some (.int .i64 g.a.line)∧w1.cell? ⟨w.heap.size,3,none⟩=some (.string ⟨g.a.text.toArray⟩)∧w1.cell? ⟨w.heap.size,4,none⟩=some u1∧w1.cell? ⟨w.heap.size,5,none⟩=some (.int .i64 g.b.kind)∧w1.cell? ⟨w.heap.size,6,none⟩=some (.int .i64 g.b.line)∧w1.cell? ⟨w.heap.size,7,none⟩=some (.string ⟨g.b.text.toArray⟩)∧w1.cell? ⟨w.heap.size,8,none⟩=some u2∧w1.cell? ⟨w.heap.size,9,none⟩=some (.bool g.no):=⟨cell_at hb rfl,cell_at hb rfl,cell_at hb rfl,cell_at hb rfl,cell_at hb rfl,cell_at hb rfl,cell_at hb rfl,cell_at hb rfl,cell_at hb rfl⟩
 have HA:=hid hA;simp only at lg;rw[m]at lg;clear l h p m hA;have H1:=hid h1;have F1:=hid f1;have HB:=hid hb;have C:=hid E;have r:=hid t;have f:=hid hg;have H:=hid hT;clear h1 f1 hb E t hg hT;go_enter Tryz.func48,Tryz.ntmps48;go_wp2_with(rw[←J.out]);refine HG.out.mono ?_;rintro e w2 ⟨rfl,h2,f2⟩;have z:=hid (f2.heap HB.out (fun x=>x (.inr r.out)));have H2:=hid h2;have F2:=hid ((Pxn.of F1.out).trans f2 (fun _ _ x=>x));clear h2 f2 r1 q1;have r2:=Zw z.out;go_wp2_with fail;refine region_fr 5 (by kernel_rfl) (by kernel_rfl) ?_;simp only[List.take_succ_cons,List.take_zero,List.drop_succ_cons,List.drop_zero]
 repeat(go_big_quiet_step (fail))
 refine wpQuiet_nil ?_;intro wC fC;go_wp2_with fail;refine(px_byte (n.toNat:Int) n ⟨by omega,by have:=n.toNat_lt;omega⟩ (ZaY _) (H2.out.quiet fC) (by rw[List.length_append];omega)).mono ?_;rintro e w3 ⟨rfl,h3,f3⟩;have o:=hid (f3.heap (fC.heap z.out (fun x=>x)) (fun x=>x (.inr r.out)));have H3:=hid h3;have F3:=hid ((F2.out.trans fC (fun _ _ x=>x.elim)).trans f3 (fun _ _ x=>x));clear h3 f3 fC r2;have r3:=Zw o.out w3 (Fr.refl _ _);go_upto_block 0 with(fail)
 go_cut [] (fun w'=>PxW W0 K2 b (out++T++[n]++A) w'∧Fr (Pxn W0 K2) w3 w')
 case first=>
  have hA:=HA.out;unfold ZvB at hA;simp only at hA;have j:=hid (show w3.heap[w.heap.size]? =some (.cells (gc20 at_ g u1 u2 n ar d u (.slice pa d.parts.length pc) tb) 35 (0,0))from o.out);by_cases cy:Zv8 n=true
  ·rw[if_pos cy]at hA;have G:n=58∨n=98∨n=116∨n=84∨n=114∨n=119:=by simpa[Zv8]using cy
   clear cy;by_cases ha:ar=[]
   ·subst ha;rw[if_pos rfl]at hA;clear j;rcases G with rfl|rfl|rfl|rfl|rfl|rfl
    all_goals
     go_wp2;go_meet
     case rel=>exact⟨by rw[←hA,List.append_nil];exact H3.out,Fr.refl _ _⟩
   ·rw[if_neg ha]at hA;have Q:ar.isEmpty=false:=by cases ar with|nil=>exact absurd rfl ha|cons _ _=>rfl
    have a1:ar.length≤100000:=f.out.al;have la:A.length≤100001:=by rw[←hA];simp only[List.length_append,List.length_cons,List.length_nil];have:=f.out.al;simp only at this;omega
    clear ha;rcases G with rfl|rfl|rfl|rfl|rfl|rfl
    all_goals
     have r3:=Zw o.out;clear j;go_wp2_with fail;refine region_fr 6 (by kernel_rfl) (by kernel_rfl) ?_;simp only[List.take_succ_cons,List.take_zero,List.drop_succ_cons,List.drop_zero]
     repeat(go_big_quiet_step (fail))
     refine wpQuiet_nil ?_;intro wD fD;go_wp2_with fail;refine(px_str A (H3.out.quiet fD) (by simp only[List.length_append,List.length_cons,List.length_nil];omega)).mono ?_;rintro e w4 ⟨rfl,h4,f4⟩;go_wp2;go_meet
     case rel=>exact⟨h4,(Pxn.of fD).trans f4 (fun _ _ x=>x)⟩
  rw[if_neg cy]at hA;by_cases ct:Zv9 n=true
  ·rw[if_pos ct]at hA;have M:n=97∨n=105∨n=99:=by simpa[Zv9]using ct
   clear ct cy;have lt:(Lib.trimSuffix ar [10]).length≤100000:=by
    have:=f.out.al;simp only at this;unfold Lib.trimSuffix;split
    ·rw[List.length_take];omega
    ·exact this
   have D:=hid (fun W:World=>Tryz.strings_TrimSuffix ⟨ar.toArray⟩ ⟨#[10]⟩ W (by show ar.toArray.size≤_;rw[List.size_toArray];have:=f.out.al;simp only at this;omega));obtain⟨ts,s⟩:∃ts,Lib.trimSuffix ar [10]=ts:=⟨_,rfl⟩;have q:Lib.trimSuffix (⟨ar.toArray⟩:ByteArray).data.toList (⟨#[10]⟩:ByteArray).data.toList=ts:=s;rw[q]at D;rw[s]at hA lt;have I:=hid hA;clear s q hA j;rcases M with rfl|rfl|rfl
   all_goals
    go_wp2_with fail;refine(px_str [92,10] H3.out (by simp only[List.length_append,List.length_cons,List.length_nil];omega)).mono ?_;rintro e w4 ⟨rfl,h4,f4⟩;have L:=hid (f4.heap o.out (fun x=>x (.inr r.out)));have H4:=hid h4;have F4:=hid f4;clear h4 f4 r3;have r4:=Zw L.out w4 (Fr.refl _ _);go_wp2_with fail;refine(D.out _).mono ?_;rintro e w5 ⟨rfl,rfl⟩;go_wp2_with fail;refine(pr_quote ts [92] [92,10] H4.out (by simp only[List.length_append,List.length_cons,List.length_nil];omega) (by decide)).mono ?_;rintro e w6 ⟨rfl,h6,f6⟩;go_wp2;go_meet
    case rel=>exact⟨by rw[←I.out,←List.append_assoc];exact h6,F4.out.trans f6 (fun _ _ x=>x)⟩
  rw[if_neg ct]at hA;by_cases cs:n=115
  ·rw[if_pos cs]at hA;have F:=hid (ZvZ (w:=w3) (K:=K2) (b:=b) (out:=out++T++[n]) d u (.slice pa d.parts.length pc) hE hP f.out.sb n3 np.1 H3.out (by simp only[List.length_append,List.length_cons,List.length_nil];omega));rw[hA]at F;subst cs;clear j cy ct hA;go_wp2_with fail;refine F.out.mono ?_;rintro e w4 ⟨rfl,h4,f4⟩;go_wp2;go_meet
   case rel=>exact⟨h4,f4⟩
  rw[if_neg cs]at hA;by_cases cb:n=121
  ·rw[if_pos cb]at hA;have B:=hid (H.out K2 b (out++T++[n]) w3 tb f.out.tl H3.out (by simp only[List.length_append,List.length_cons,List.length_nil];omega));rw[hA]at B;subst cb;clear j cy ct hA cs;go_wp2_with fail;refine B.out.mono ?_;rintro e w4 ⟨rfl,h4,f4⟩;go_wp2;go_meet
   case rel=>exact⟨h4,f4⟩
  rw[if_neg cb]at hA;have ny:n≠58∧n≠98∧n≠116∧n≠84∧n≠114∧n≠119:=by simpa[Zv8]using cy
  have nt:n≠97∧n≠105∧n≠99:=by simpa[Zv9]using ct
  have X:((n.toNat:Int)==58)=false:=Zn (b:=58) ny.1;have a0:((n.toNat:Int)==98)=false:=Zn (b:=98) ny.2.1;have N:((n.toNat:Int)==116)=false:=Zn (b:=116) ny.2.2.1;have Y:((n.toNat:Int)==84)=false:=Zn (b:=84) ny.2.2.2.1;have R:((n.toNat:Int)==114)=false:=Zn (b:=114) ny.2.2.2.2.1;have U:((n.toNat:Int)==119)=false:=Zn (b:=119) ny.2.2.2.2.2;have Z:((n.toNat:Int)==97)=false:=Zn (b:=97) nt.1;have S:((n.toNat:Int)==105)=false:=Zn (b:=105) nt.2.1;have V:((n.toNat:Int)==99)=false:=Zn (b:=99) nt.2.2;have P:((n.toNat:Int)==115)=false:=Zn (b:=115) cs;have O:((n.toNat:Int)==121)=false:=Zn (b:=121) cb;clear ny nt cs cb cy ct j;go_wp2;go_meet
  case rel=>exact⟨by rw[←hA,List.append_nil];exact H3.out,Fr.refl _ _⟩
 case rest=>
  obtain⟨h4,f4⟩:=hcut;have la:=lA;go_wp2_with fail;refine(px_byte 10 10 (by decide) rfl h4 (by simp only[List.length_append,List.length_cons,List.length_nil];omega)).mono ?_;rintro e w5 ⟨rfl,h5,f5⟩;go_wp2;exact bodyPost_ret (results_none rfl _ _ _) rfl ⟨rfl,by simpa using h5.less C.out,Pxn.less (F3.out.trans (f4.trans f5 (fun _ _ x=>x)) (fun _ _ x=>x)) C.out⟩
end
end Go.Proofs.YtkfddjopbocpkaaGreatDoor
