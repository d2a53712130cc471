/- Lemmas of this claim. -/
import Derived.Test.YtkfddjopbocpkaaGreatDoorM25
set_option linter.unusedVariables false
set_option linter.unusedSimpArgs false
set_option maxRecDepth 100000
set_option maxHeartbeats 4000000
namespace Go.Proofs.YtkfddjopbocpkaaGreatDoor
open Go.Lib (hid)
open Go.RowKit
theorem info_C:(Tryz.prog.info? 35).map (·.size)=some 20:=by kernel_rfl
theorem Zaa{fn:Func}{p:Tmp}(h:fn.results= #[.cell p 35]){tmps:Array Value}{r:Nat}(ht:tmps.getD p undef=.pointer (some ⟨r,0,none⟩)){W:World}{a0 a1 a2 a3 a4 a5 a6 a7 a8 a9 a10 a11 a12 a13 a14 a15 a16 a17 a18 a19:Value}
 (hb:W.heap[r]? =some (.cells #[a0,a1,a2,a3,a4,a5,a6,a7,a8,a9,a10,a11,a12,a13,a14,a15,a16,a17,a18,a19] 35 (0,0))):(results fn tmps).run Tryz.prog W=.ok (.agg #[a0,a1,a2,a3,a4,a5,a6,a7,a8,a9,a10,a11,a12,a13,a14,a15,a16,a17,a18,a19]) W:=by
 exact results_cell_row h tmps W r _ _ _ _ ht hb Tryz.underlying35 rfl info_C
def A3(O:Nat→Prop)(r c:Nat):Nat→Prop:=fun k=>O k∨(k=r∨k=r+1∨k=c)
abbrev gcell(g:GV)(U1 U2:Value):Array Value:= #[.int .i64 g.a.kind,.int .i64 g.a.line,.string ⟨g.a.text.toArray⟩,U1,.int .i64 g.b.kind,.int .i64 g.b.line,.string ⟨g.b.text.toArray⟩,U2,.bool g.no]
def ZgR(b:Nat)(l:List UInt8)(x:Bool)(S O:Nat→Prop)(w:World)(R:CV×AdS)(r:Ending)(w':World):Prop:=
 ∃u1 u2 u pv S',r=.returned (.agg (cmd20 R.1.at_ (.int .i64 R.1.guard.a.kind) (.int .i64 R.1.guard.a.line) (.string ⟨R.1.guard.a.text.toArray⟩) u1 (.int .i64 R.1.guard.b.kind) (.int .i64 R.1.guard.b.line) (.string ⟨R.1.guard.b.text.toArray⟩) u2 (.bool R.1.guard.no) R.1.name R.1.arg R.1.sub u pv R.1.table))∧
  RN (SO S' O) w' R.1.guard.a.tree u1∧RN (SO S' O) w' R.1.guard.b.tree u2∧RN (SO S' O) w' R.1.sub.tree u∧PrO (SO S' O) w' R.1.sub.parts pv∧CRd b l x R.2 S' w'∧Stp S w S' w'
theorem Zjy{w:World}{b j:Nat}{i:Int}(hc:(w.cell? ⟨b,j,none⟩).isSome=true)(hf:w.frozen? ⟨b,j,none⟩=false):
 Sem.run Tryz.prog (storeVar 3 ⟨b,j,none⟩ (.int .i64 i)) w=.ok () (w.setCell ⟨b,j,none⟩ (.int .i64 i)):=by
 obtain⟨old,ho⟩:=Option.isSome_iff_exists.1 hc;have hc1:(Value.int IntKind.i64 i).cells= #[.int .i64 i]:=rfl;have hi:(Tryz.prog.info? 3).map (·.size)=some 1:=by kernel_rfl
 cases hq:Tryz.prog.info? 3 with
 |none=>rw[hq]at hi;cases hi
 |some q=>
  have hs:q.size=1:=by simpa[hq]using hi
  simp[storeVar,sizeOf,typeInfo,hq,hc1,hs,go_sem,ho,hf]
attribute [go_sem] Zjy
attribute [-go_sem] storeVar
@[go_sem high] theorem ZaL{w:World}(c0:Int)(k1 n1:Int)(t1:ByteArray)(u1:Value)(k2 n2:Int)(t2:ByteArray)(u2:Value)(no:Bool)(nm:Int)(ar st fi tb:ByteArray)(o1:u1.oneCell'=true)(o2:u2.oneCell'=true):
 Sem.run Tryz.prog (storeVar 35 ⟨w.heap.size,0,none⟩ (.agg #[.int .i64 c0,.int .i64 k1,.int .i64 n1,.string t1,u1,.int .i64 k2,.int .i64 n2,.string t2,u2,.bool no,.int .u8 nm,.string ar,.string st,.nilIface,.slice none 0 0,.int .i64 0,.bool false,.bool false,.string fi,.string tb])) (w.alloc (.cells #[.int .i64 0,.int .i64 0,.int .i64 0,.string ⟨#[]⟩,.nilIface,.int .i64 0,.int .i64 0,.string ⟨#[]⟩,.nilIface,.bool false,.int .u8 0,.string ⟨#[]⟩,.string ⟨#[]⟩,.nilIface,.slice none 0 0,.int .i64 0,.bool false,.bool false,.string ⟨#[]⟩,.string ⟨#[]⟩] 35))=
  .ok () ((w.alloc (.cells #[.int .i64 0,.int .i64 0,.int .i64 0,.string ⟨#[]⟩,.nilIface,.int .i64 0,.int .i64 0,.string ⟨#[]⟩,.nilIface,.bool false,.int .u8 0,.string ⟨#[]⟩,.string ⟨#[]⟩,.nilIface,.slice none 0 0,.int .i64 0,.bool false,.bool false,.string ⟨#[]⟩,.string ⟨#[]⟩] 35)).setRow w.heap.size #[.int .i64 c0,.int .i64 k1,.int .i64 n1,.string t1,u1,.int .i64 k2,.int .i64 n2,.string t2,u2,.bool no,.int .u8 nm,.string ar,.string st,.nilIface,.slice none 0 0,.int .i64 0,.bool false,.bool false,.string fi,.string tb]):=
  run_storeVar_row _ _ 35 _ _ _ (newAt _ _) info_C rfl (Array.all_eq_true_iff_forall_mem.2 (by intro v hv;simp only[List.mem_toArray,List.mem_cons,List.not_mem_nil,or_false]at hv;rcases hv with h|h|h|h|h|h|h|h|h|h|h|h|h|h|h|h|h|h|h|h<;>(subst h;first|rfl|assumption)))
@[go_sem high] theorem run_storeC_newD{w:World}(c0:Int)(k1 n1:Int)(t1:ByteArray)(u1:Value)(k2 n2:Int)(t2:ByteArray)(u2:Value)(no:Bool)(nm:Int)(ar st fi tb:ByteArray)(o1:u1.oneCell'=true)(o2:u2.oneCell'=true):
 Sem.run Tryz.prog (storeVar 35 ⟨w.heap.size,0,none⟩ (.agg #[.int .i64 c0,.int .i64 k1,.int .i64 n1,.string t1,u1,.int .i64 k2,.int .i64 n2,.string t2,u2,.bool no,.int .u8 nm,.string ar,.string st,.nilIface,.slice none 0 0,.int .i64 0,.bool false,.bool false,.string fi,.string tb])) (w.alloc (.cells #[.int .i64 0,.int .i64 0,.int .i64 0,.string ⟨#[]⟩,.nilIface,.int .i64 0,.int .i64 0,.string ⟨#[]⟩,.nilIface,.bool false,.int .u8 0,.string ⟨#[]⟩,.string ⟨#[]⟩,.nilIface,.slice none 0 0,.int .i64 0,.bool false,.bool false,.string ⟨#[]⟩,.string ⟨#[]⟩] 35)).drew=
  .ok () ((w.alloc (.cells #[.int .i64 0,.int .i64 0,.int .i64 0,.string ⟨#[]⟩,.nilIface,.int .i64 0,.int .i64 0,.string ⟨#[]⟩,.nilIface,.bool false,.int .u8 0,.string ⟨#[]⟩,.string ⟨#[]⟩,.nilIface,.slice none 0 0,.int .i64 0,.bool false,.bool false,.string ⟨#[]⟩,.string ⟨#[]⟩] 35)).drew.setRow w.heap.size #[.int .i64 c0,.int .i64 k1,.int .i64 n1,.string t1,u1,.int .i64 k2,.int .i64 n2,.string t2,u2,.bool no,.int .u8 nm,.string ar,.string st,.nilIface,.slice none 0 0,.int .i64 0,.bool false,.bool false,.string fi,.string tb]):=
  run_storeVar_row _ _ 35 _ _ _ (Zq (newAt _ _)) info_C rfl (Array.all_eq_true_iff_forall_mem.2 (by intro v hv;simp only[List.mem_toArray,List.mem_cons,List.not_mem_nil,or_false]at hv;rcases hv with h|h|h|h|h|h|h|h|h|h|h|h|h|h|h|h|h|h|h|h<;>(subst h;first|rfl|assumption)))
@[go_sem high] theorem run_storeC_newE{w:World}(c0:Int)(k1 n1:Int)(t1:ByteArray)(u1:Value)(k2 n2:Int)(t2:ByteArray)(u2:Value)(no:Bool)(nm:Int)(ar st fi tb:ByteArray)(o1:u1.oneCell'=true)(o2:u2.oneCell'=true):
 Sem.run Tryz.prog (storeVar 35 ⟨w.heap.size,0,none⟩ (.agg #[.int .i64 c0,.int .i64 k1,.int .i64 n1,.string t1,u1,.int .i64 k2,.int .i64 n2,.string t2,u2,.bool no,.int .u8 nm,.string ar,.string st,.nilIface,.slice none 0 0,.int .i64 0,.bool false,.bool false,.string fi,.string tb])) (w.drew.alloc (.cells #[.int .i64 0,.int .i64 0,.int .i64 0,.string ⟨#[]⟩,.nilIface,.int .i64 0,.int .i64 0,.string ⟨#[]⟩,.nilIface,.bool false,.int .u8 0,.string ⟨#[]⟩,.string ⟨#[]⟩,.nilIface,.slice none 0 0,.int .i64 0,.bool false,.bool false,.string ⟨#[]⟩,.string ⟨#[]⟩] 35))=
  .ok () ((w.drew.alloc (.cells #[.int .i64 0,.int .i64 0,.int .i64 0,.string ⟨#[]⟩,.nilIface,.int .i64 0,.int .i64 0,.string ⟨#[]⟩,.nilIface,.bool false,.int .u8 0,.string ⟨#[]⟩,.string ⟨#[]⟩,.nilIface,.slice none 0 0,.int .i64 0,.bool false,.bool false,.string ⟨#[]⟩,.string ⟨#[]⟩] 35)).setRow w.heap.size #[.int .i64 c0,.int .i64 k1,.int .i64 n1,.string t1,u1,.int .i64 k2,.int .i64 n2,.string t2,u2,.bool no,.int .u8 nm,.string ar,.string st,.nilIface,.slice none 0 0,.int .i64 0,.bool false,.bool false,.string fi,.string tb]):=
  run_storeVar_row _ _ 35 _ _ _ (newAt _ _) info_C rfl (Array.all_eq_true_iff_forall_mem.2 (by intro v hv;simp only[List.mem_toArray,List.mem_cons,List.not_mem_nil,or_false]at hv;rcases hv with h|h|h|h|h|h|h|h|h|h|h|h|h|h|h|h|h|h|h|h<;>(subst h;first|rfl|assumption)))
theorem cell_alloc{w:World}{p:Addr}{v:Value}(h:w.cell? p=some v)(o:Obj):(w.alloc o).cell? p=some v:=(Fr.refl nob w |>.alloc o).cell h (fun x=>x)
theorem BC.row{w:World}{b c k:Nat}{v0 v1 v2 v3 v4 u0 u1 u2 u3 u4 u5 u6 u7 u8:Value}(h:B5 w b v0 v1 v2 v3 v4∧C9 w c u0 u1 u2 u3 u4 u5 u6 u7 u8)(hb:k≠b)(hc:k≠c)(cs:Array Value):B5 (w.setRow k cs) b v0 v1 v2 v3 v4∧C9 (w.setRow k cs) c u0 u1 u2 u3 u4 u5 u6 u7 u8:=by
 obtain⟨⟨a0,a1,a2,a3,a4⟩,c0,c1,c2,c3,c4,c5,c6,c7,c8⟩:=h;have f:=ZN w k cs;have nb:∀{j:Nat} {v:Value},w.cell? ⟨b,j,none⟩=some v→(w.setRow k cs).cell? ⟨b,j,none⟩=some v:=fun q=>f.cell q (fun e=>hb e.symm);have nc:∀{j:Nat} {v:Value},w.cell? ⟨c,j,none⟩=some v→(w.setRow k cs).cell? ⟨c,j,none⟩=some v:=fun q=>f.cell q (fun e=>hc e.symm);exact⟨⟨nb a0,nb a1,nb a2,nb a3,nb a4⟩,nc c0,nc c1,nc c2,nc c3,nc c4,nc c5,nc c6,nc c7,nc c8⟩
theorem BC.alloc{w:World}{b c:Nat}{v0 v1 v2 v3 v4 u0 u1 u2 u3 u4 u5 u6 u7 u8:Value}(h:B5 w b v0 v1 v2 v3 v4∧C9 w c u0 u1 u2 u3 u4 u5 u6 u7 u8)(o:Obj):B5 (w.alloc o) b v0 v1 v2 v3 v4∧C9 (w.alloc o) c u0 u1 u2 u3 u4 u5 u6 u7 u8:=by
 obtain⟨⟨a0,a1,a2,a3,a4⟩,c0,c1,c2,c3,c4,c5,c6,c7,c8⟩:=h;exact⟨⟨cell_alloc a0 o,cell_alloc a1 o,cell_alloc a2 o,cell_alloc a3 o,cell_alloc a4 o⟩,cell_alloc c0 o,cell_alloc c1 o,cell_alloc c2 o,cell_alloc c3 o,cell_alloc c4 o,cell_alloc c5 o,cell_alloc c6 o,cell_alloc c7 o,cell_alloc c8 o⟩
theorem Stp.drop{S S1 S2:Nat→Prop}{w w7 w8:World}{c:Nat}(h:Stp S w S1 w7)(k:Stp (GS S1 c) w7 (GS S2 c) w8)(hc:w.heap.size≤c)(hc7:c<w7.heap.size):Stp S w S2 w8:=by
 have h1:=h.fr.size;refine⟨h.fr.trans k.fr (fun i hi e=> ?_),fun i hi e=> ?_,fun q i e=> ?_⟩
 ·rcases e with e|e
  ·exact h.old i hi e
  ·have e:i=c:=e;omega
 ·rcases k.old i (by omega) (.inl e)with e|e
  ·exact h.old i hi e
  ·have e:i=c:=e;omega
 ·refine k.lt (fun j e=> ?_) i (.inl e);rcases e with e|e
  ·exact h.lt q j e
  ·have e:j=c:=e;omega
theorem Stp.row{S S1:Nat→Prop}{w w9:World}{g:Nat}(h:Stp S w S1 w9)(hg:w.heap.size≤g)(cs:Array Value):Stp S w S1 (w9.setRow g cs):=
 ⟨h.fr.trans (ZN w9 g cs) (fun i hi e=>by have e:i=g:=e;omega),h.old,fun q k hk=>by have:=h.lt q k hk;have:=(ZN w9 g cs).size;omega⟩
def ZlM(l:List UInt8)(R:Bool×CV×AdS):CV×AdS:=if R.1=true∧R.2.2.e=0 then(R.2.1,Zjq l R.2.2)else(R.2.1,R.2.2)
theorem Zcm{b:Nat}{l:List UInt8}{x:Bool}{S S1 S2 S3 O:Nat→Prop}{w w7 w8 w9:World}{c:Nat}{s9:AdS}{t1 t2 t:Nd}{ps:List Prt}{u1 u2 u pv:Value}
 (ST7:Stp S w S1 w7) (st8:Stp (GS S1 c) w7 (GS S2 c) w8) (hc:w.heap.size+1<c) (hc7:c<w7.heap.size) (hn:¬S1 (w.heap.size+1)) (st9:Stp S2 w8 S3 w9)
 (rn1:RN (SO S O) w t1 u1) (rn2:RN (SO S O) w t2 u2) (rn8:RN (SO S2 (A3 O w.heap.size c)) w8 t u) (po8:PrO (SO S2 (A3 O w.heap.size c)) w8 ps pv) (h9:CRd b l x s9 S3 w9) (cs:Array Value):
 RN (SO S3 O) (w9.setRow (w.heap.size+1) cs) t1 u1∧RN (SO S3 O) (w9.setRow (w.heap.size+1) cs) t2 u2∧RN (SO S3 O) (w9.setRow (w.heap.size+1) cs) t u∧PrO (SO S3 O) (w9.setRow (w.heap.size+1) cs) ps pv∧
 CRd b l x s9 S3 (w9.setRow (w.heap.size+1) cs)∧Stp S w S3 (w9.setRow (w.heap.size+1) cs):=by
 have z7:=st8.fr.size;have hn2:¬S2 (w.heap.size+1):=fun e=>by
  rcases st8.old _ (by omega) (.inl e)with e|e
  ·exact hn e
  ·have e:w.heap.size+1=c:=e;omega
 have hn3:¬S3 (w.heap.size+1):=fun e=>hn2 (st9.old _ (by omega) e);have STF:=((ST7.drop st8 (by omega) hc7).trans st9).row (g:=w.heap.size+1) (by omega) cs;have f:=ZN w9 (w.heap.size+1) cs;have hX:∀k,(fun k=>k=w.heap.size+1) k→SO S3 (A3 O w.heap.size c) k:=fun k hk=>.inr (.inr (.inr (.inl hk)));have hS:∀k,SO S3 O k→SO S3 (A3 O w.heap.size c) k:=fun k hk=>hk.elim .inl (fun e=>.inr (.inl e));refine⟨STF.rn rn1,STF.rn rn2,RN.keep f (fun k _ hk=>hX k hk) (fun k _ hk=>hS k hk) _ _ (st9.rn rn8),?_,h9.keep f (fun k hk=>by have hk:k=w.heap.size+1:=hk;rw[hk];exact hn3),STF⟩;exact(po8.keep (S':=SO S3 (A3 O w.heap.size c)) st9.fr (fun _ hk=>.inl hk) (fun k hk e=>e.elim (fun e=>.inl (st9.old k hk e)) .inr)).keep f hX (fun k _ hk=>hS k hk)
theorem Zll{u1 u2:Value}(o1:u1.oneCell'=true)(o2:u2.oneCell'=true)(b:Nat)(l:List UInt8)(x:Bool)(s:AdS)(S O:Nat→Prop)(g:GV)(w:World)(hl:l.length≤99000)(ha:s.at_≤l.length)(hm:s.marks.length≤90000)(hS:∀k,S k→k<w.heap.size)(hO:∀k,O k→k<w.heap.size)(W0:World)(hE:Env W0)(hW:Fr nob W0 w)(hSW:∀k,S k→W0.heap.size≤k)(h:CRd b l x s S w)(ho:l.length≤s.at_):
 Calls Tryz.prog 30 #[.pointer (some ⟨b,0,none⟩),.agg (gcell g u1 u2)] w (ZgR b l x S O w (CV.zero,failC s 5 l.length)):=by
 obtain⟨w1,hw1⟩:∃w1,w1=w.alloc (.cells #[.int .i64 g.a.kind,.int .i64 g.a.line,.string ⟨g.a.text.toArray⟩,u1,.int .i64 g.b.kind,.int .i64 g.b.line,.string ⟨g.b.text.toArray⟩,u2,.bool g.no] 30):=⟨_,rfl⟩;have f1:Fr nob w w1:=by rw[hw1];exact(Fr.refl _ _).alloc _
 have hs1:w1.heap.size=w.heap.size+1:=by rw[hw1];simp
 obtain⟨w2,hw2⟩:∃w2,w2=w1.alloc (.cells #[.int .i64 0,.int .i64 0,.int .i64 0,.string ⟨#[]⟩,.nilIface,.int .i64 0,.int .i64 0,.string ⟨#[]⟩,.nilIface,.bool false,.int .u8 0,.string ⟨#[]⟩,.string ⟨#[]⟩,.nilIface,.slice none 0 0,.int .i64 0,.bool false,.bool false,.string ⟨#[]⟩,.string ⟨#[]⟩] 35):=⟨_,rfl⟩;have f2:Fr nob w w2:=by rw[hw2];exact f1.alloc _
 have hs2:w2.heap.size=w.heap.size+2:=by rw[hw2];simp;omega
 have hz1:w2.heap[w.heap.size]? =some (.cells #[.int .i64 g.a.kind,.int .i64 g.a.line,.string ⟨g.a.text.toArray⟩,u1,.int .i64 g.b.kind,.int .i64 g.b.line,.string ⟨g.b.text.toArray⟩,u2,.bool g.no] 30 (0,0)):=by rw[hw2];exact Ze _ (by rw[hw1];exact newAt _ _)
 have hz2:w2.heap[w.heap.size+1]? =some (.cells #[.int .i64 0,.int .i64 0,.int .i64 0,.string ⟨#[]⟩,.nilIface,.int .i64 0,.int .i64 0,.string ⟨#[]⟩,.nilIface,.bool false,.int .u8 0,.string ⟨#[]⟩,.string ⟨#[]⟩,.nilIface,.slice none 0 0,.int .i64 0,.bool false,.bool false,.string ⟨#[]⟩,.string ⟨#[]⟩] 35 (0,0)):=by rw[hw2];exact Zg _ _ _ hs1.symm
 have hn1:¬S w.heap.size:=fun e=>absurd (hS _ e) (by omega);have hn2:¬S (w.heap.size+1):=fun e=>absurd (hS _ e) (by omega);have HW1:=hid hw1;have HW2:=hid hw2;have HS1:=hid hs1;have HS2:=hid hs2;have F2:=hid f2;have Z1:=hid hz1;have Z2:=hid hz2;have N1:=hid hn1;have N2:=hid hn2;have H2:=hid (h.on f2);clear hw1 hw2 hs1 hs2 f1 f2 hz1 hz2 hn1 hn2;have HO:=hid (Zbn b l x s S w2 (by omega) H2.out);rw[show decide (l.length≤s.at_)=true from decide_eq_true ho]at HO;obtain⟨mv,hm2⟩:=H2.out;have rr:=Zd hm2.blk;have HM:=hid hm2;clear hm2;go_enter Tryz.func30,Tryz.ntmps30;go_wp2_with(first|rw[←HW1.out]|rw[HS1.out]|rw[←HW2.out]);refine HO.out.mono ?_;rintro z w3 ⟨rfl,f3⟩;have H3:=hid (H2.out.on f3);have F3:=hid (F2.out.trans' f3);have Z23:=hid (f3.heap Z2.out (fun x=>x));have r3:=rr _ f3;clear f3 rr;go_wp2_with fail;refine(cm_fail b l x s S 5 l.length w3 H3.out).mono ?_;rintro z w4 ⟨rfl,h4,st4⟩
 have z4:=st4.fr.heap Z23.out N2.out;have H4:=hid h4;have ST4:=hid ((Stp.of F3.out).trans st4);have Z4:=hid z4;clear h4 st4 z4 r3;go_wp2_with(refine wpList_store_row rfl 35 _ _ rfl (w.heap.size+1) #[.int .i64 0,.int .i64 0,.int .i64 0,.string ⟨#[]⟩,.nilIface,.int .i64 0,.int .i64 0,.string ⟨#[]⟩,.nilIface,.bool false,.int .u8 0,.string ⟨#[]⟩,.string ⟨#[]⟩,.nilIface,.slice none 0 0,.int .i64 0,.bool false,.bool false,.string ⟨#[]⟩,.string ⟨#[]⟩] rfl rfl 35 _ Z4.out info_C rfl (by kernel_rfl) ?_);rw[setRow_self _ _ _ _ _ Z4.out];(try simp only[Exit.inBlock,Exit.then]);refine bodyPost_ret (Zaa rfl rfl Z4.out) rfl ⟨.nilIface,.nilIface,.nilIface,.slice none 0 0,S,rfl,?_,?_,?_,PrO.nil _ _,H4.out,ST4.out⟩
 all_goals rfl
abbrev gc20(p:Nat)(g:GV)(u1 u2:Value)(n:UInt8)(ar:List UInt8)(sub:SV)(u pv:Value)(tb:List UInt8):Array Value:=
 cmd20 p (.int .i64 g.a.kind) (.int .i64 g.a.line) (.string ⟨g.a.text.toArray⟩) u1 (.int .i64 g.b.kind) (.int .i64 g.b.line) (.string ⟨g.b.text.toArray⟩) u2 (.bool g.no) n ar sub u pv tb
theorem Zsv{p:Nat}{g:GV}{u1 u2:Value}{n:UInt8}{ar:List UInt8}{sub:SV}{u pv:Value}{tb:List UInt8}(o1:u1.oneCell'=true)(o2:u2.oneCell'=true)(o3:u.oneCell'=true)(o4:pv.oneCell'=true):(gc20 p g u1 u2 n ar sub u pv tb).all (·.oneCell')=true:=
 Array.all_eq_true_iff_forall_mem.2 (by intro v hv;simp only[List.mem_toArray,List.mem_cons,List.not_mem_nil,or_false]at hv;rcases hv with h|h|h|h|h|h|h|h|h|h|h|h|h|h|h|h|h|h|h|h<;>(subst h;first|rfl|assumption))
def midS(s:AdS)(g:GV)(n:UInt8):AdS:=if ZM n<0 then failC s 13 s.at_ else if ZM n<ZcD g then failC s 19 s.at_ else if n=81∨n=84∨n=122 then Zan s s.at_ [n]else s
theorem ZsA{s:AdS}{g:GV}{n:UInt8}(he:s.e=0)(h:¬(midS s g n).e=0):(midS s g n).marks=s.marks:=by
 unfold midS at h⊢;split
 ·unfold failC;split<;>rfl
 ·split
  ·unfold failC;split<;>rfl
  ·next h1 h2=>
   rw[if_neg h1,if_neg h2]at h;split at h
   ·exact(h he).elim
   ·exact(h he).elim
theorem Zsy{s:AdS}{g:GV}{n:UInt8}(he:s.e=0)(h:(midS s g n).e=0):(midS s g n).at_=s.at_∧(midS s g n).marks.length≤s.marks.length+1:=by
 unfold midS at h⊢;split at h
 ·rw[Za9 he]at h;exact absurd (show(13:Int)=0 from h) (by decide)
 ·next h1=>
  rw[if_neg h1];split at h
  ·rw[Za9 he]at h;exact absurd (show(19:Int)=0 from h) (by decide)
  ·next h2=>
   rw[if_neg h2];split
   ·exact⟨rfl,by show(s.marks++[_]).length≤_;simp⟩
   ·exact⟨rfl,by omega⟩
theorem Zsz{x:Bool}{l:List UInt8}{g:GV}{s:AdS}(ho:s.at_<l.length):ZbY x l g s=if(midS s g l[s.at_]).e≠0 then(CV.zero,midS s g l[s.at_])else ZlM l (argsC x l (cv0 s.at_ g l[s.at_]) ((midS s g l[s.at_]).to ((midS s g l[s.at_]).at_+1))):=by
 unfold ZbY;rw[if_neg (by omega)];simp only[ZkQ ho];rfl
theorem ZsB{u1 u2:Value}(o1:u1.oneCell'=true)(o2:u2.oneCell'=true)(b:Nat)(l:List UInt8)(x:Bool)(s:AdS)(S O:Nat→Prop)(g:GV)(w:World)(hl:l.length≤99000)(ha:s.at_≤l.length)(hm:s.marks.length≤90000)(hS:∀k,S k→k<w.heap.size)(hO:∀k,O k→k<w.heap.size)(W0:World)(hE:Env W0)(hW:Fr nob W0 w)(hSW:∀k,S k→W0.heap.size≤k)(h:CRd b l x s S w)(ho:s.at_<l.length)(he:s.e=0)(rn1:RN (SO S O) w g.a.tree u1)(rn2:RN (SO S O) w g.b.tree u2):
 Calls Tryz.prog 30 #[.pointer (some ⟨b,0,none⟩),.agg (gcell g u1 u2)] w (ZgR b l x S O w (ZbY x l g s)):=by
 obtain⟨n,hn⟩:∃n,l[s.at_]=n:=⟨_,rfl⟩;obtain⟨R,hR⟩:∃R,ZbY x l g s=R:=⟨_,rfl⟩;rw[hR];rw[Zsz ho,hn]at hR;have HM:=hid hR;clear hR;obtain⟨w1,hw1⟩:∃w1,w1=w.alloc (.cells #[.int .i64 g.a.kind,.int .i64 g.a.line,.string ⟨g.a.text.toArray⟩,u1,.int .i64 g.b.kind,.int .i64 g.b.line,.string ⟨g.b.text.toArray⟩,u2,.bool g.no] 30):=⟨_,rfl⟩;have f1:Fr nob w w1:=by rw[hw1];exact(Fr.refl _ _).alloc _
 have hs1:w1.heap.size=w.heap.size+1:=by rw[hw1];simp
 obtain⟨w2,hw2⟩:∃w2,w2=w1.alloc (.cells #[.int .i64 0,.int .i64 0,.int .i64 0,.string ⟨#[]⟩,.nilIface,.int .i64 0,.int .i64 0,.string ⟨#[]⟩,.nilIface,.bool false,.int .u8 0,.string ⟨#[]⟩,.string ⟨#[]⟩,.nilIface,.slice none 0 0,.int .i64 0,.bool false,.bool false,.string ⟨#[]⟩,.string ⟨#[]⟩] 35):=⟨_,rfl⟩;have f2:Fr nob w w2:=by rw[hw2];exact f1.alloc _
 have hs2:w2.heap.size=w.heap.size+2:=by rw[hw2];simp;omega
 have hz1:w2.heap[w.heap.size]? =some (.cells #[.int .i64 g.a.kind,.int .i64 g.a.line,.string ⟨g.a.text.toArray⟩,u1,.int .i64 g.b.kind,.int .i64 g.b.line,.string ⟨g.b.text.toArray⟩,u2,.bool g.no] 30 (0,0)):=by rw[hw2];exact Ze _ (by rw[hw1];exact newAt _ _)
 have hz2:w2.heap[w.heap.size+1]? =some (.cells #[.int .i64 0,.int .i64 0,.int .i64 0,.string ⟨#[]⟩,.nilIface,.int .i64 0,.int .i64 0,.string ⟨#[]⟩,.nilIface,.bool false,.int .u8 0,.string ⟨#[]⟩,.string ⟨#[]⟩,.nilIface,.slice none 0 0,.int .i64 0,.bool false,.bool false,.string ⟨#[]⟩,.string ⟨#[]⟩] 35 (0,0)):=by rw[hw2];exact Zg _ _ _ hs1.symm
 have hn1:¬S w.heap.size:=fun e=>absurd (hS _ e) (by omega);have hn2:¬S (w.heap.size+1):=fun e=>absurd (hS _ e) (by omega);have HW1:=hid hw1;have HW2:=hid hw2;have HS1:=hid hs1;have HS2:=hid hs2;have F2:=hid f2;have Z1:=hid hz1;have Z2:=hid hz2;have N1:=hid hn1;have N2:=hid hn2;have H2:=hid (h.on f2);clear hw1 hw2 hs1 hs2 f1 f2 hz1 hz2 hn1 hn2;have HO:=hid (Zbn b l x s S w2 (by omega) H2.out);rw[show decide (l.length≤s.at_)=false from decide_eq_false (by omega)]at HO;have hoi:(s.at_:Int)<l.length:=by omega
 have hlti:(l.length:Int)≤99000:=by omega
 go_enter Tryz.func30,Tryz.ntmps30;go_wp2_with(first|rw[←HW1.out]|rw[HS1.out]|rw[←HW2.out]);refine HO.out.mono ?_;rintro z w3 ⟨rfl,f3⟩;have H3:=hid (H2.out.on f3);have F3:=hid (F2.out.trans' f3);have Z23:=hid (f3.heap Z2.out (fun x=>x));have Z13:=hid (f3.heap Z1.out (fun x=>x));obtain⟨mv,hm3⟩:=H3.out;have HQ:=hid (And.intro (B5.of hm3.blk) (C9.of Z13.out));have HQd:=hid (BC.drew (And.intro (B5.of hm3.blk) (C9.of Z13.out)));have hb3:=lt_heap hm3.blk;have hc3:=lt_heap Z13.out;clear f3 hm3
 go_upto_region 4 with(fail)
 go_cut [5] (fun v5 w'=>v5=.pointer (some ⟨w3.heap.size,0,none⟩)∧Fr nob w3 w'∧w'.heap[w3.heap.size]? =some (.cells (gc20 s.at_ g u1 u2 n [] SV.zero .nilIface (.slice none 0 0) []) 35 (0,0)))
 case first=>
  have e1:=ZaL (w:=w3) (s.at_:Nat) g.a.kind g.a.line ⟨g.a.text.toArray⟩ u1 g.b.kind g.b.line ⟨g.b.text.toArray⟩ u2 g.no (n.toNat:Nat) ⟨#[]⟩ ⟨#[]⟩ ⟨#[]⟩ ⟨#[]⟩ o1 o2;have e2:=run_storeC_newD (w:=w3) (s.at_:Nat) g.a.kind g.a.line ⟨g.a.text.toArray⟩ u1 g.b.kind g.b.line ⟨g.b.text.toArray⟩ u2 g.no (n.toNat:Nat) ⟨#[]⟩ ⟨#[]⟩ ⟨#[]⟩ ⟨#[]⟩ o1 o2;have e3:=run_storeC_newE (w:=w3) (s.at_:Nat) g.a.kind g.a.line ⟨g.a.text.toArray⟩ u1 g.b.kind g.b.line ⟨g.b.text.toArray⟩ u2 g.no (n.toNat:Nat) ⟨#[]⟩ ⟨#[]⟩ ⟨#[]⟩ ⟨#[]⟩ o1 o2
  go_region_held3 (fun w'=>B5 w' b (.string ⟨l.toArray⟩) (.int .i64 (s.at_:Nat)) (.bool x) mv (.int .i64 s.e)∧C9 w' w.heap.size (.int .i64 g.a.kind) (.int .i64 g.a.line) (.string ⟨g.a.text.toArray⟩) u1 (.int .i64 g.b.kind) (.int .i64 g.b.line) (.string ⟨g.b.text.toArray⟩) u2 (.bool g.no)) (repeat(first|(with_reducible exact HQ.out)|(with_reducible exact HQd.out)|(with_reducible refine BC.drew ?_)|(with_reducible refine BC.alloc ?_ _)|(with_reducible refine BC.row ?_ (by omega) (by omega) _))) (first|(rw[hn])|(rw[e1])|(rw[e2])|(rw[e3]))
  all_goals
   go_wp2_with fail;go_meet
   case rel=>exact⟨rfl,(by first|exact(((Fr.refl nob w3).alloc _).drew).trans (ZN _ _ _) (fun i hi e=>by have e:i=w3.heap.size:=e;omega)|exact((((Fr.refl nob w3).alloc _).trans (ZN _ _ _) (fun i hi e=>by have e:i=w3.heap.size:=e;omega)).drew)|exact(((Fr.refl nob w3).drew).alloc _).trans (ZN _ _ _) (fun i hi e=>by have e:i=w3.heap.size:=e;omega)),by first|exact setRow_heap _ _ _ _ _ _ (Zq (newAt _ _))|exact setRow_heap _ _ _ _ _ _ (newAt _ _)|exact Zq (setRow_heap _ _ _ _ _ _ (newAt _ _))⟩
 case rest=>
  obtain⟨rfl,f4,hz4⟩:=hcut;have Z4:=hid hz4;have F4:=hid (F3.out.trans' f4);have H4:=hid (H3.out.on f4);have Z14:=hid (f4.heap Z13.out (fun x=>x));have Z24:=hid (f4.heap Z23.out (fun x=>x));have rg:=Zw hz4 _ (Fr.refl _ _);have HAD:=hid (ZdQ n wc);have HC1:=hid (show w.heap.size+1<w3.heap.size by have h1:=HS2.out;have h2:=lt_heap Z23.out;have h3:=lt_heap Z13.out;have h4:=F3.out.size;omega);clear f4 hz4 HQ HQd H3 Z13 Z23 HO HW1 HW2 Z1 Z2 H2;go_wp2_with fail;refine HAD.out.mono ?_;rintro z w5 ⟨rfl,f5⟩;have F5:=hid (F4.out.trans' f5);have Z5:=hid (f5.heap Z4.out (fun x=>x));have Z15:=hid (f5.heap Z14.out (fun x=>x));have Z25:=hid (f5.heap Z24.out (fun x=>x));have H5:=hid (H4.out.on f5);clear f5 rg H4 Z4 Z14 Z24 HAD;go_upto_block 0 with(fail)
  go_cut [] (fun w'=>∃S1,CRd b l x (midS s g n) S1 w'∧Stp S w5 S1 w')
  case first=>
   obtain⟨mv5,hm5⟩:=H5.out;have r5:=Zd hm5.blk _ (Fr.refl _ _);have rg5:=Zw Z5.out _ (Fr.refl _ _);clear hm5;by_cases c1:ZM n<0
   ·have HD:=hid (show midS s g n=failC s 13 s.at_ from if_pos c1);go_wp2_with fail;refine(cm_fail b l x s S 13 s.at_ w5 H5.out).mono ?_;rintro z w6 ⟨rfl,h6,st6⟩;go_wp2;go_meet
    case rel=>exact⟨S,by rw[HD.out];exact h6,st6⟩
   ·have r9:=Zk Z15.out _ (Fr.refl _ _);have HTD:=hid (ZhS g (.agg (gcell g u1 u2)) w5 ⟨u1,u2,rfl,RN.keep F5.out (fun _ _ x=>x.elim) (fun _ _ x=>x.elim) _ _ rn1,RN.keep F5.out (fun _ _ x=>x.elim) (fun _ _ x=>x.elim) _ _ rn2⟩);by_cases c2:ZM n<ZcD g
    ·have HD:=hid (show midS s g n=failC s 19 s.at_ by unfold midS;rw[if_neg c1,if_pos c2]);go_wp2_with fail;refine HTD.out.mono ?_;rintro z w5b ⟨rfl,f5b⟩;have h5b:=H5.out.on f5b;obtain⟨mv5b,hm5b⟩:=h5b;have r5b:=Zd hm5b.blk _ (Fr.refl _ _);have H5b:=hid (show CRd b l x s S w5b from⟨mv5b,hm5b⟩);have F5b:=hid f5b;clear hm5b r5 r9 f5b;go_wp2_with fail;refine(cm_fail b l x s S 19 s.at_ w5b H5b.out).mono ?_;rintro z w6 ⟨rfl,h6,st6⟩;go_wp2;go_meet
     case rel=>exact⟨S,by rw[HD.out];exact h6,(Stp.of F5b.out).trans st6⟩
    ·have HI:=hid (fun w'=>strings_IndexByte [81,84,122] (n.toNat:Int) w');rw[show((n.toNat:Int)).toNat.toUInt8=n from ZaY _]at HI;have hz0:=Zbo [81,84,122] n;obtain⟨zi,hz⟩:∃z,Lib.indexByte [81,84,122] n=z:=⟨_,rfl⟩;rw[hz]at HI hz0;clear hz;go_wp2_with fail;refine HTD.out.mono ?_;rintro z w5b ⟨rfl,f5b⟩;have h5b:=H5.out.on f5b;obtain⟨mv5b,hm5b⟩:=h5b;have r5b:=Zd hm5b.blk _ (Fr.refl _ _);have rr5:=Zd hm5b.blk;have rg5b:=Zw (f5b.heap Z5.out (fun x=>x)) _ (Fr.refl _ _);have H5b:=hid (show CRd b l x s S w5b from⟨mv5b,hm5b⟩);have F5b:=hid f5b;clear hm5b r5 r9 f5b rg5;by_cases c3:n=81∨n=84∨n=122
     ·have HD:=hid (show midS s g n=Zan s s.at_ [n] by unfold midS;rw[if_neg (by omega),if_neg (by omega),if_pos c3]);rw[show([81,84,122]:List UInt8).contains n=true by rcases c3 with rfl|rfl|rfl<;>rfl]at hz0;have hz1:0≤zi:=by simpa using hz0
      clear hz0 rr5;go_wp2_with fail;refine(HI.out w5b).mono ?_;rintro z5 w5c ⟨rfl,rfl⟩;clear rg5b;obtain⟨mv5c,hm5c⟩:=H5b.out;have rr5:=Zd hm5c.blk;clear r5b hm5c;go_wp2_with fail;have hsl:∀W:World,(Instr.slice 9 (.string ⟨l.toArray⟩) (some (.int .i64 (s.at_:Int))) (some (.int .i64 ((s.at_:Int)+1))) none).run Tryz.prog W=.ok (.string ⟨#[n]⟩) W:=fun W=>by
       rw[Zaf l Tryz.underlying9 (by omega) (by omega) (by omega) W,show((s.at_:Int)+1).toNat-(s.at_:Int).toNat=1 by omega,show((s.at_:Int)).toNat=s.at_ by omega,Zia ho,hn]
      refine region_fr 19 (by kernel_rfl) (by kernel_rfl) ?_;simp only[List.take_succ_cons,List.take_zero,List.drop_succ_cons,List.drop_zero]
      repeat(go_big_quiet_step (fail))
      refine wpQuiet_nil ?_;intro wC fC;have HCf:=hid (H5b.out.on fC);have HFC:=hid (F5b.out.trans' fC);clear fC rr5 hsl;go_wp2_with fail;refine(cm_mark b l x s S s.at_ [n] wC (by omega) HCf.out).mono ?_;rintro z w6 ⟨rfl,S1,h6,st6⟩;go_wp2;go_meet
      case rel=>exact⟨S1,by rw[HD.out];exact h6,(Stp.of HFC.out).trans st6⟩
     ·have HD:=hid (show midS s g n=s by unfold midS;rw[if_neg (by omega),if_neg (by omega),if_neg c3]);rw[show([81,84,122]:List UInt8).contains n=false by simpa using c3]at hz0;have hz1:¬0≤zi:=by simpa using hz0
      clear hz0 rr5;go_wp2_with fail;refine(HI.out w5b).mono ?_;rintro z5 w5c ⟨rfl,rfl⟩;go_wp2;go_meet
      case rel=>exact⟨S,by rw[HD.out];exact H5b.out,Stp.of F5b.out⟩
  case rest=>
   obtain⟨S1,h6,st6⟩:=hcut;obtain⟨s1,hs1⟩:∃s1,midS s g n=s1:=⟨_,rfl⟩;have hmr:=HM.out;have hno:=ZsA (g:=g) (n:=n) he;have hye:=Zsy (g:=g) (n:=n) he;rw[hs1]at h6 hmr hno hye;have hnC:¬S w3.heap.size:=fun e=>by have:=hS _ e;have:=HC1.out;omega
   have hN1:¬S1 (w.heap.size+1):=fun e=>N2.out (st6.old _ (lt_heap Z25.out) e);have hNC:¬S1 w3.heap.size:=fun e=>hnC (st6.old _ (lt_heap Z5.out) e);have Z26:=hid (st6.fr.heap Z25.out N2.out);have Z6:=hid (st6.fr.heap Z5.out hnC);have H6:=hid h6;have ST6:=hid ((Stp.of F5.out).trans st6);have HN1:=hid hN1;have HNC:=hid hNC;have hb6:S1 b:=by obtain⟨_,q⟩:=h6;exact q.me
   have HBC:=hid (show b≠w3.heap.size from fun e=>hNC (e▸hb6));have HBZ:=hid (show b≠w.heap.size+1 from fun e=>hN1 (e▸hb6));have HOK:=hid (cm_ok b l x _ S1 wc h6);clear h6 st6 hnC hN1 hNC hb6 HM H5 Z5 Z15 Z25 hs1;by_cases hse:s1.e=0
   ·rw[if_neg (fun h=>h hse)]at hmr;obtain⟨hat,hmk⟩:=hye hse;have e1:(s1.e==0)=true:=by simpa using hse
    rw[hat]at hmr;have HMR:=hid hmr;have HMK:=hid (show(s1.to (s.at_+1)).marks.length≤100000 by show s1.marks.length≤_;omega);clear hmr hno hye hmk;go_wp2_with fail;refine HOK.out.mono ?_;rintro z w7a ⟨rfl,f7a⟩;rw[e1];have h7a:=H6.out.on f7a;obtain⟨mv7,hm7⟩:=h7a;have r7:=Zd hm7.blk _ (Fr.refl _ _);rw[hat]at r7;have h7:=hm7.turned 1 (.int .i64 ((s.at_:Int)+1)) (s1.to (s.at_+1)) (by simp[AdS.to]) rfl;have st7:=(ST6.out.trans (Stp.of f7a)).trans (hm7.stp 1 (.int .i64 ((s.at_:Int)+1)));have g7:=((Fr.refl (fun k=>k=b) w7a).setCell (p:=⟨b,1,none⟩) (fun _=>rfl) (.int .i64 ((s.at_:Int)+1))).heap (f7a.heap Z6.out (fun x=>x)) (fun e=>HBC.out (show b=w3.heap.size from(show w3.heap.size=b from e).symm));have z7:=((Fr.refl (fun k=>k=b) w7a).setCell (p:=⟨b,1,none⟩) (fun _=>rfl) (.int .i64 ((s.at_:Int)+1))).heap (f7a.heap Z26.out (fun x=>x)) (fun e=>HBZ.out (show b=w.heap.size+1 from(show w.heap.size+1=b from e).symm))
    obtain⟨w7,hw7⟩:∃w7,w7=w7a.setCell ⟨b,1,none⟩ (.int .i64 ((s.at_:Int)+1)):=⟨_,rfl⟩;rw[←hw7]at h7 st7 g7 z7;have hgA:A3 O w.heap.size w3.heap.size w3.heap.size:=.inr (.inr (.inr rfl));have hOA:∀k,A3 O w.heap.size w3.heap.size k→k<w7.heap.size:=fun k hk=>by
     have h1:=lt_heap g7;have h2:=HC1.out;have h3:=st7.fr.size;rcases hk with hk|hk|hk|hk
     ·have:=hO k hk;omega
     all_goals omega
    have HAR:=hid (Zlj b w3.heap.size l x S1 (A3 O w.heap.size w3.heap.size) s.at_ g _ _ _ _ _ _ _ _ _ n (s1.to (s.at_+1)) w7 hl (by show s.at_+1≤l.length;omega) HMK.out (st7.lt hS) hOA hgA HNC.out W0 hE (Stp.from st7 hW hSW) (fun k hk=>by
     by_cases hko:k<w.heap.size
     ·exact hSW k (st7.old k hko hk)
     ·have:=hW.size;omega) g7 ⟨_,h7⟩)
    have HHW7:=hid hw7;have ST7:=hid st7;have Z7:=hid z7;have HC7:=hid (lt_heap g7);clear hw7 st7 z7 g7 h7 f7a hm7 hgA hOA;obtain⟨R',hR'⟩:∃R',argsC x l (cv0 s.at_ g n) (s1.to (s.at_+1))=R':=⟨_,rfl⟩;have hK:=Zcj x l (cv0 s.at_ g n) (s1.to (s.at_+1));have hin:=ZdN x (cv0 s.at_ g n) (s:=s1.to (s.at_+1)) (l:=l) (by show s.at_+1≤l.length;omega);have hmk:=Zfu x (cv0 s.at_ g n) (s:=s1.to (s.at_+1)) (l:=l) (N:=100000) (by show s.at_+1≤l.length;omega) HMK.out;have hmr:=HMR.out;rw[hR']at HAR hK hin hmk hmr;clear HMR;have HMR:=hid hmr;obtain⟨rb,⟨ca,cg,cn,arg_,sub_,tab_⟩,rs⟩:=R';obtain⟨k1,k2,k3⟩:=hK;simp only at k1 k2 k3 hin hmk;have k1:=k1.symm;have k2:=k2.symm;have k3:=k3.symm;subst k1;subst k2;subst k3;clear hR' hmr;go_wp2_with(rw[←HHW7.out]);refine HAR.out.mono ?_;rintro z w8 ⟨u,pv,S2,rfl,g8,rn8,po8,h8,st8,n8⟩;simp only at g8 rn8 po8 h8;have hz8:=st8.fr.heap Z7.out (fun e=>e.elim HN1.out (fun e=>by have e:w.heap.size+1=w3.heap.size:=e;have:=HC1.out;omega))
    have hn2:¬S2 (w.heap.size+1):=fun e=>by
     rcases st8.old _ (by have:=HC7.out;have:=HC1.out;omega) (.inl e)with e|e
     ·exact HN1.out e
     ·have e:w.heap.size+1=w3.heap.size:=e;have:=HC1.out;omega
    have hop:pv.oneCell'=true:=by obtain⟨a9,c9,rfl⟩:=Zb po8.1;rfl
    have hou:u.oneCell'=true:=by rcases rn8.shape with rfl|⟨i9,y9,rfl⟩<;>rfl
    have G8:=hid g8;have RN8:=hid rn8;have PO8:=hid po8;have H8:=hid h8;have ST8:=hid st8;have N8:=hid n8;have Z8:=hid hz8;have N28:=hid hn2;have HIN:=hid hin;have HMK2:=hid hmk;clear g8 rn8 po8 h8 st8 n8 hz8 hn2 r7 hin hmk;cases rb with
    |false=>
     have hRR:ZlM l (false,⟨s.at_,g,n,arg_,sub_,tab_⟩,rs)=(⟨s.at_,g,n,arg_,sub_,tab_⟩,rs):=if_neg (fun h=>by cases h.1);have GF:=hid G8.out;have ZF:=hid Z8.out;go_wp2_with(first|refine wpList_load_row rfl 35 _ rfl w3.heap.size rfl 35 (gc20 s.at_ g u1 u2 n arg_ sub_ u pv tab_) (0,0) _ GF.out Tryz.underlying35 rfl info_C ?_|refine wpList_store_row rfl 35 _ _ rfl (w.heap.size+1) (gc20 s.at_ g u1 u2 n arg_ sub_ u pv tab_) rfl rfl 35 _ ZF.out info_C rfl (Zsv o1 o2 hou hop) ?_);(try simp only[Exit.inBlock,Exit.then]);have hm':=HMR.out;rw[hRR]at hm';subst hm';obtain⟨q1,q2,q3,q4,q5,q6⟩:=Zcm ST7.out ST8.out HC1.out HC7.out HN1.out (Stp.refl _ _) rn1 rn2 RN8.out PO8.out H8.out (gc20 s.at_ g u1 u2 n arg_ sub_ u pv tab_);exact bodyPost_ret (Zaa rfl rfl (setRow_heap _ _ _ _ _ _ ZF.out)) rfl ⟨u1,u2,u,pv,S2,rfl,q1,q2,q3,q4,q5,q6⟩
    |true=>
     by_cases he9:rs.e=0
     ·have e9:(rs.e==0)=true:=by simpa using he9
      have hRR:ZlM l (true,⟨s.at_,g,n,arg_,sub_,tab_⟩,rs)=(⟨s.at_,g,n,arg_,sub_,tab_⟩,Zjq l rs):=if_pos ⟨rfl,he9⟩;go_wp2_with fail;refine(cm_ok b l x _ S2 w8 H8.out).mono ?_;rintro z w8a ⟨rfl,f8a⟩;rw[e9];have H8a:=hid (H8.out.on f8a);have F8a:=hid f8a;clear f8a;go_wp2_with fail;refine(cm_end b l x rs S2 w8a hl HIN.out (by have:=HMK2.out;omega) H8a.out).mono ?_;rintro z w9 ⟨rfl,S3,h9,st9⟩;have H9:=hid h9;have ST9:=hid ((Stp.of F8a.out).trans st9);have GF:=hid (st9.fr.heap (F8a.out.heap G8.out (fun x=>x)) N8.out);have ZF:=hid (st9.fr.heap (F8a.out.heap Z8.out (fun x=>x)) N28.out);clear h9 st9;go_wp2_with(first|refine wpList_load_row rfl 35 _ rfl w3.heap.size rfl 35 (gc20 s.at_ g u1 u2 n arg_ sub_ u pv tab_) (0,0) _ GF.out Tryz.underlying35 rfl info_C ?_|refine wpList_store_row rfl 35 _ _ rfl (w.heap.size+1) (gc20 s.at_ g u1 u2 n arg_ sub_ u pv tab_) rfl rfl 35 _ ZF.out info_C rfl (Zsv o1 o2 hou hop) ?_)
      (try simp only[Exit.inBlock,Exit.then]);have hm':=HMR.out;rw[hRR]at hm';subst hm';obtain⟨q1,q2,q3,q4,q5,q6⟩:=Zcm ST7.out ST8.out HC1.out HC7.out HN1.out ST9.out rn1 rn2 RN8.out PO8.out H9.out (gc20 s.at_ g u1 u2 n arg_ sub_ u pv tab_);exact bodyPost_ret (Zaa rfl rfl (setRow_heap _ _ _ _ _ _ ZF.out)) rfl ⟨u1,u2,u,pv,S3,rfl,q1,q2,q3,q4,q5,q6⟩
     ·have e9:(rs.e==0)=false:=by simpa using he9
      have hRR:ZlM l (true,⟨s.at_,g,n,arg_,sub_,tab_⟩,rs)=(⟨s.at_,g,n,arg_,sub_,tab_⟩,rs):=if_neg (fun h=>he9 h.2);go_wp2_with fail;refine(cm_ok b l x _ S2 w8 H8.out).mono ?_;rintro z w8a ⟨rfl,f8a⟩;rw[e9];have H8a:=hid (H8.out.on f8a);have ST9:=hid (Stp.of f8a:Stp S2 w8 S2 w8a);have GF:=hid (f8a.heap G8.out (fun x=>x));have ZF:=hid (f8a.heap Z8.out (fun x=>x));clear f8a;go_wp2_with(first|refine wpList_load_row rfl 35 _ rfl w3.heap.size rfl 35 (gc20 s.at_ g u1 u2 n arg_ sub_ u pv tab_) (0,0) _ GF.out Tryz.underlying35 rfl info_C ?_|refine wpList_store_row rfl 35 _ _ rfl (w.heap.size+1) (gc20 s.at_ g u1 u2 n arg_ sub_ u pv tab_) rfl rfl 35 _ ZF.out info_C rfl (Zsv o1 o2 hou hop) ?_);(try simp only[Exit.inBlock,Exit.then]);have hm':=HMR.out;rw[hRR]at hm';subst hm';obtain⟨q1,q2,q3,q4,q5,q6⟩:=Zcm ST7.out ST8.out HC1.out HC7.out HN1.out ST9.out rn1 rn2 RN8.out PO8.out H8a.out (gc20 s.at_ g u1 u2 n arg_ sub_ u pv tab_)
      exact bodyPost_ret (Zaa rfl rfl (setRow_heap _ _ _ _ _ _ ZF.out)) rfl ⟨u1,u2,u,pv,S2,rfl,q1,q2,q3,q4,q5,q6⟩
   ·rw[if_pos hse]at hmr;have hq:(s1.e==0)=false:=by simpa using hse
    subst hmr;clear hno hye;go_wp2_with fail;refine HOK.out.mono ?_;rintro z w7 ⟨rfl,f7⟩;rw[hq];have H7:=hid (H6.out.on f7);have ST7:=hid (ST6.out.trans (Stp.of f7));have Z7:=hid (f7.heap Z26.out (fun x=>x));clear f7;go_wp2_with(refine wpList_store_row rfl 35 _ _ rfl (w.heap.size+1) #[.int .i64 0,.int .i64 0,.int .i64 0,.string ⟨#[]⟩,.nilIface,.int .i64 0,.int .i64 0,.string ⟨#[]⟩,.nilIface,.bool false,.int .u8 0,.string ⟨#[]⟩,.string ⟨#[]⟩,.nilIface,.slice none 0 0,.int .i64 0,.bool false,.bool false,.string ⟨#[]⟩,.string ⟨#[]⟩] rfl rfl 35 _ Z7.out info_C rfl (by kernel_rfl) ?_);rw[setRow_self _ _ _ _ _ Z7.out];(try simp only[Exit.inBlock,Exit.then]);refine bodyPost_ret (Zaa rfl rfl Z7.out) rfl ⟨.nilIface,.nilIface,.nilIface,.slice none 0 0,S1,rfl,?_,?_,?_,PrO.nil _ _,H7.out,ST7.out⟩
    all_goals rfl
end Go.Proofs.YtkfddjopbocpkaaGreatDoor
namespace Go.Proofs.YtkfddjopbocpkaaGreatDoor
open Go.RowKit
def Zc2(S:Nat→Prop)(w:World)(c:CV)(v:Value):Prop:=
 ∃u1 u2 u pv,v=.agg (cmd20 c.at_ (.int .i64 c.guard.a.kind) (.int .i64 c.guard.a.line) (.string ⟨c.guard.a.text.toArray⟩) u1 (.int .i64 c.guard.b.kind) (.int .i64 c.guard.b.line) (.string ⟨c.guard.b.text.toArray⟩) u2 (.bool c.guard.no) c.name c.arg c.sub u pv c.table)∧
  RN S w c.guard.a.tree u1∧RN S w c.guard.b.tree u2∧RN S w c.sub.tree u∧PrO S w c.sub.parts pv
theorem Zc2.keep{S S' X:Nat→Prop}{w w':World}{c:CV}{v:Value}(h:Zc2 S w c v)(f:Fr X w w')(hX:∀k,X k→S k)(hS:∀k,k<w.heap.size→S' k→S k):Zc2 S' w' c v:=by
 obtain⟨u1,u2,u,pv,rfl,r1,r2,r3,p⟩:=h;exact⟨u1,u2,u,pv,rfl,RN.keep f (fun k _ e=>hX k e) hS _ _ r1,RN.keep f (fun k _ e=>hX k e) hS _ _ r2,RN.keep f (fun k _ e=>hX k e) hS _ _ r3,p.keep f hX hS⟩
theorem Zc2.on{S:Nat→Prop}{w w':World}{c:CV}{v:Value}(h:Zc2 S w c v)(f:Fr nob w w'):Zc2 S w' c v:=h.keep f (fun _ x=>x.elim) (fun _ _ x=>x)
theorem Zc2.any{S:Nat→Prop}{w:World}{c:CV}{v:Value}(h:Zc2 S w c v):Zc2 nob w c v:=h.keep (Fr.refl nob w) (fun _ x=>x.elim) (fun _ _ x=>x.elim)
def CmV(b:Nat)(l:List UInt8)(x:Bool)(S O:Nat→Prop)(w:World)(R:CV×AdS)(r:Ending)(w':World):Prop:=
 ∃v S',r=.returned v∧Zc2 (SO S' O) w' R.1 v∧CRd b l x R.2 S' w'∧Stp S w S' w'
theorem ZgR.val{b:Nat}{l:List UInt8}{x:Bool}{S O:Nat→Prop}{w:World}{R:CV×AdS}{r:Ending}{w':World}(h:ZgR b l x S O w R r w'):CmV b l x S O w R r w':=by
 obtain⟨u1,u2,u,pv,S',rfl,r1,r2,r3,p,hr,st⟩:=h;exact⟨_,S',rfl,⟨u1,u2,u,pv,rfl,r1,r2,r3,p⟩,hr,st⟩
theorem ZeQ(b:Nat)(l:List UInt8)(x:Bool)(s:AdS)(S O:Nat→Prop)(g:GV)(v:Value)(w:World)(hl:l.length≤99000)(ha:s.at_≤l.length)(hm:s.marks.length≤90000)(hS:∀k,S k→k<w.heap.size)(hO:∀k,O k→k<w.heap.size)(W0:World)(hE:Env W0)(hW:Fr nob W0 w)(hSW:∀k,S k→W0.heap.size≤k)(h:CRd b l x s S w)(he:s.e=0)(hv:Zni (SO S O) w g v):
 Calls Tryz.prog 30 #[.pointer (some ⟨b,0,none⟩),v] w (CmV b l x S O w (ZbY x l g s)):=by
 obtain⟨u1,u2,rfl,rn1,rn2⟩:=hv;have o1:u1.oneCell'=true:=by rcases rn1.shape with rfl|⟨i,y,rfl⟩<;>rfl
 have o2:u2.oneCell'=true:=by rcases rn2.shape with rfl|⟨i,y,rfl⟩<;>rfl
 refine Calls.mono ?_ (fun _ _ h=>ZgR.val h);by_cases ho:l.length≤s.at_
 ·rw[show ZbY x l g s=(CV.zero,failC s 5 l.length)from if_pos ho];exact Zll o1 o2 b l x s S O g w hl ha hm hS hO W0 hE hW hSW h ho
 ·exact ZsB o1 o2 b l x s S O g w hl ha hm hS hO W0 hE hW hSW h (by omega) he rn1 rn2
open Go.Lib (hid)
theorem ZaS{w:World}{b:Nat}{v0 v1 v2 v3 v4 v5 v6 v7 v8 v9 v10 v11 v12 v13 v14 v15 v16 v17 v18 v19:Value}{T:TypeId}(h:w.heap[b]? =some (.cells #[v0,v1,v2,v3,v4,v5,v6,v7,v8,v9,v10,v11,v12,v13,v14,v15,v16,v17,v18,v19] T (0,0))):∀w',Fr nob w w'→
 w'.cell? ⟨b,0,none⟩=some v0∧w'.cell? ⟨b,1,none⟩=some v1∧w'.cell? ⟨b,2,none⟩=some v2∧w'.cell? ⟨b,3,none⟩=some v3∧w'.cell? ⟨b,4,none⟩=some v4∧w'.cell? ⟨b,5,none⟩=some v5∧w'.cell? ⟨b,6,none⟩=some v6∧w'.cell? ⟨b,7,none⟩=some v7∧w'.cell? ⟨b,8,none⟩=some v8∧w'.cell? ⟨b,9,none⟩=some v9∧w'.cell? ⟨b,10,none⟩=some v10∧w'.cell? ⟨b,11,none⟩=some v11∧w'.cell? ⟨b,12,none⟩=some v12∧w'.cell? ⟨b,13,none⟩=some v13∧w'.cell? ⟨b,14,none⟩=some v14∧w'.cell? ⟨b,15,none⟩=some v15∧w'.cell? ⟨b,16,none⟩=some v16∧w'.cell? ⟨b,17,none⟩=some v17∧w'.cell? ⟨b,18,none⟩=some v18∧w'.cell? ⟨b,19,none⟩=some v19:=fun _ f=>by
 have h':=f.heap h (fun x=>x);exact⟨cell_at h' rfl,cell_at h' rfl,cell_at h' rfl,cell_at h' rfl,cell_at h' rfl,cell_at h' rfl,cell_at h' rfl,cell_at h' rfl,cell_at h' rfl,cell_at h' rfl,cell_at h' rfl,cell_at h' rfl,cell_at h' rfl,cell_at h' rfl,cell_at h' rfl,cell_at h' rfl,cell_at h' rfl,cell_at h' rfl,cell_at h' rfl,cell_at h' rfl⟩
theorem Zp1(ms:List Prt)(k:Nat)(hk:k<ms.length):(pC ms)[k*2]? =some (.int .i64 ms[k].1)∧(pC ms)[k*2+1]? =some (.string ⟨ms[k].2.toArray⟩):=by
 induction ms generalizing k with
 |nil=>simp at hk
 |cons m r ih=>
  have e:pC (m::r)=.int .i64 m.1:: .string ⟨m.2.toArray⟩::pC r:=rfl;cases k with
  |zero=>rw[e];exact⟨rfl,rfl⟩
  |succ k=>
   rw[e,show(k+1)*2=k*2+2 by omega];simp only[List.length_cons]at hk;exact ih k (by omega)
theorem OwP.get{w:World}{ms:List Prt}{v:Value}(h:OwP w ms v){k:Nat}(hk:k<ms.length):
 ∃g cap,v=.slice (some ⟨g,0,none⟩) ms.length cap∧g<w.heap.size∧w.cell? ⟨g,k*2,none⟩=some (.int .i64 ms[k].1)∧w.cell? ⟨g,k*2+1,none⟩=some (.string ⟨ms[k].2.toArray⟩):=by
 have hl:=Zcd ms;unfold OwP at h;obtain⟨a,c,rfl⟩:=Zb h;rcases h.2 with⟨e,hn⟩|⟨r,cap,cur,e,_,hr,_⟩
 ·omega
 ·injection e with e1 e2 e3;subst e1;exact⟨r,c,rfl,lt_heap hr,(h.cellAt (k*2) (by omega)).trans (Zp1 ms k hk).1,(h.cellAt (k*2+1) (by omega)).trans (Zp1 ms k hk).2⟩
theorem Zh0(l:List Prt)(u v:Value)(w:World)(hl:l.length≤1000000)(hu:OwP w l u)(hv:OwP w l v):
 Calls Tryz.prog 34 #[u,v] w fun e w'=>e=.returned (.bool true)∧Fr nob w w':=by
 have HU:=hid hu;have HV:=hid hv;obtain⟨a1,c1,rfl⟩:=Zb hu;obtain⟨a2,c2,rfl⟩:=Zb hv;clear hu hv;go_enter Tryz.func34,Tryz.ntmps34;go_wp2_with fail
 go_loopw [13] (fun j wr=>∃k:Nat,j=.int .i64 k∧k≤l.length∧Fr nob w wr) (fun j _=>l.length-(intOf j).toNat)
 case atStart=>exact⟨0,rfl,Nat.zero_le _,Fr.refl _ _⟩
 case round=>
  obtain⟨k,rfl,hk,fr⟩:=hrel;have FR:=hid fr;by_cases hlt:k<l.length
  ·obtain⟨g1,cp1,e1,_,q1,q2⟩:=HU.out.get hlt;obtain⟨g2,cp2,e2,_,q3,q4⟩:=HV.out.get hlt;injection e1 with e1 _ e1';injection e2 with e2 _ e2';subst e1;subst e2;subst e1';subst e2';have p1:=fr.cell q1 (fun x=>x);have p2:=fr.cell q2 (fun x=>x);have p3:=fr.cell q3 (fun x=>x);have p4:=fr.cell q4 (fun x=>x);obtain⟨⟨m1,m2⟩,hm⟩:∃m,l[k]=m:=⟨_,rfl⟩;rw[hm]at p1 p2 p3 p4;have rq:∀w',Fr nob wr w'→w'.cell? ⟨g1,k*2,none⟩=some (.int .i64 m1)∧w'.cell? ⟨g1,k*2+1,none⟩=some (.string ⟨m2.toArray⟩)∧w'.cell? ⟨g2,k*2,none⟩=some (.int .i64 m1)∧w'.cell? ⟨g2,k*2+1,none⟩=some (.string ⟨m2.toArray⟩):=
    fun _ f=>⟨f.cell p1 (fun x=>x),f.cell p2 (fun x=>x),f.cell p3 (fun x=>x),f.cell p4 (fun x=>x)⟩
   clear q1 q2 q3 q4 fr hm p1 p2 p3 p4;go_wp2_with fail;refine region_fr 8 (by kernel_rfl) (by kernel_rfl) ?_;simp only[List.take_succ_cons,List.take_zero,List.drop_succ_cons,List.drop_zero]
   repeat(go_big_quiet_step (fail))
   refine wpQuiet_nil ?_;intro wC fC;have FC:=hid (FR.out.trans' fC);clear fC;go_wp2;go_roundw
   case rel=>exact⟨k+1,by go_num,by omega,FC.out⟩
   case measure=>simp[intOf];omega
  ·obtain rfl:k=l.length:=by omega
   clear fr;go_wp2;go_ret;exact⟨rfl,FR.out⟩
def CV.same(a b:CV):Prop:=GV.same a.guard b.guard∧a.name=b.name∧a.arg=b.arg∧a.table=b.table∧a.sub.tree.norm=b.sub.tree.norm∧a.sub.nth=b.sub.nth∧a.sub.all=b.sub.all∧a.sub.print=b.sub.print∧a.sub.file=b.sub.file∧a.sub.parts=b.sub.parts
def CV.few(a:CV):Prop:=a.guard.a.tree.size≤3000000∧a.guard.b.tree.size≤3000000∧a.sub.tree.size≤3000000∧a.sub.parts.length≤1000000
theorem C14.of{w:World}{g h:Nat}{a0 a1 a2 a3 a4 a5 a6 b0 b1 b2 b3 b4 b5 b6 c0 c1 c2 c3 c4 c5 c6 c7 c8 c9 c10 c11 d0 d1 d2 d3 d4 d5 d6 d7 d8 d9 d10 d11 e f:Value}{T:TypeId}(hg:w.heap[g]? =some (.cells #[c0,c1,c2,c3,c4,c5,c6,c7,c8,c9,c10,c11,a0,a1,a2,a3,a4,a5,a6,e] T (0,0)))(hh:w.heap[h]? =some (.cells #[d0,d1,d2,d3,d4,d5,d6,d7,d8,d9,d10,d11,b0,b1,b2,b3,b4,b5,b6,f] T (0,0))):
 w.cell? ⟨g,12,none⟩=some a0∧w.cell? ⟨g,13,none⟩=some a1∧w.cell? ⟨g,14,none⟩=some a2∧w.cell? ⟨g,15,none⟩=some a3∧w.cell? ⟨g,16,none⟩=some a4∧w.cell? ⟨g,17,none⟩=some a5∧w.cell? ⟨g,18,none⟩=some a6∧w.cell? ⟨h,12,none⟩=some b0∧w.cell? ⟨h,13,none⟩=some b1∧w.cell? ⟨h,14,none⟩=some b2∧w.cell? ⟨h,15,none⟩=some b3∧w.cell? ⟨h,16,none⟩=some b4∧w.cell? ⟨h,17,none⟩=some b5∧w.cell? ⟨h,18,none⟩=some b6:=⟨cell_at hg rfl,cell_at hg rfl,cell_at hg rfl,cell_at hg rfl,cell_at hg rfl,cell_at hg rfl,cell_at hg rfl,cell_at hh rfl,cell_at hh rfl,cell_at hh rfl,cell_at hh rfl,cell_at hh rfl,cell_at hh rfl,cell_at hh rfl⟩
theorem C14.drew{w:World}{g h:Nat}{a0 a1 a2 a3 a4 a5 a6 b0 b1 b2 b3 b4 b5 b6:Value}(q:w.cell? ⟨g,12,none⟩=some a0∧w.cell? ⟨g,13,none⟩=some a1∧w.cell? ⟨g,14,none⟩=some a2∧w.cell? ⟨g,15,none⟩=some a3∧w.cell? ⟨g,16,none⟩=some a4∧w.cell? ⟨g,17,none⟩=some a5∧w.cell? ⟨g,18,none⟩=some a6∧w.cell? ⟨h,12,none⟩=some b0∧w.cell? ⟨h,13,none⟩=some b1∧w.cell? ⟨h,14,none⟩=some b2∧w.cell? ⟨h,15,none⟩=some b3∧w.cell? ⟨h,16,none⟩=some b4∧w.cell? ⟨h,17,none⟩=some b5∧w.cell? ⟨h,18,none⟩=some b6):
 w.drew.cell? ⟨g,12,none⟩=some a0∧w.drew.cell? ⟨g,13,none⟩=some a1∧w.drew.cell? ⟨g,14,none⟩=some a2∧w.drew.cell? ⟨g,15,none⟩=some a3∧w.drew.cell? ⟨g,16,none⟩=some a4∧w.drew.cell? ⟨g,17,none⟩=some a5∧w.drew.cell? ⟨g,18,none⟩=some a6∧w.drew.cell? ⟨h,12,none⟩=some b0∧w.drew.cell? ⟨h,13,none⟩=some b1∧w.drew.cell? ⟨h,14,none⟩=some b2∧w.drew.cell? ⟨h,15,none⟩=some b3∧w.drew.cell? ⟨h,16,none⟩=some b4∧w.drew.cell? ⟨h,17,none⟩=some b5∧w.drew.cell? ⟨h,18,none⟩=some b6:=by
 obtain⟨q0,q1,q2,q3,q4,q5,q6,q7,q8,q9,q10,q11,q12,q13⟩:=q;exact⟨q0,q1,q2,q3,q4,q5,q6,q7,q8,q9,q10,q11,q12,q13⟩
theorem C14.alloc{w:World}{g h:Nat}{a0 a1 a2 a3 a4 a5 a6 b0 b1 b2 b3 b4 b5 b6:Value}(q:w.cell? ⟨g,12,none⟩=some a0∧w.cell? ⟨g,13,none⟩=some a1∧w.cell? ⟨g,14,none⟩=some a2∧w.cell? ⟨g,15,none⟩=some a3∧w.cell? ⟨g,16,none⟩=some a4∧w.cell? ⟨g,17,none⟩=some a5∧w.cell? ⟨g,18,none⟩=some a6∧w.cell? ⟨h,12,none⟩=some b0∧w.cell? ⟨h,13,none⟩=some b1∧w.cell? ⟨h,14,none⟩=some b2∧w.cell? ⟨h,15,none⟩=some b3∧w.cell? ⟨h,16,none⟩=some b4∧w.cell? ⟨h,17,none⟩=some b5∧w.cell? ⟨h,18,none⟩=some b6)(o:Obj):
 (w.alloc o).cell? ⟨g,12,none⟩=some a0∧(w.alloc o).cell? ⟨g,13,none⟩=some a1∧(w.alloc o).cell? ⟨g,14,none⟩=some a2∧(w.alloc o).cell? ⟨g,15,none⟩=some a3∧(w.alloc o).cell? ⟨g,16,none⟩=some a4∧(w.alloc o).cell? ⟨g,17,none⟩=some a5∧(w.alloc o).cell? ⟨g,18,none⟩=some a6∧(w.alloc o).cell? ⟨h,12,none⟩=some b0∧(w.alloc o).cell? ⟨h,13,none⟩=some b1∧(w.alloc o).cell? ⟨h,14,none⟩=some b2∧(w.alloc o).cell? ⟨h,15,none⟩=some b3∧(w.alloc o).cell? ⟨h,16,none⟩=some b4∧(w.alloc o).cell? ⟨h,17,none⟩=some b5∧(w.alloc o).cell? ⟨h,18,none⟩=some b6:=by
 obtain⟨q0,q1,q2,q3,q4,q5,q6,q7,q8,q9,q10,q11,q12,q13⟩:=q;exact⟨cell_alloc q0 o,cell_alloc q1 o,cell_alloc q2 o,cell_alloc q3 o,cell_alloc q4 o,cell_alloc q5 o,cell_alloc q6 o,cell_alloc q7 o,cell_alloc q8 o,cell_alloc q9 o,cell_alloc q10 o,cell_alloc q11 o,cell_alloc q12 o,cell_alloc q13 o⟩
theorem C14.set{w:World}{g h:Nat}{a0 a1 a2 a3 a4 a5 a6 b0 b1 b2 b3 b4 b5 b6:Value}(q:w.cell? ⟨g,12,none⟩=some a0∧w.cell? ⟨g,13,none⟩=some a1∧w.cell? ⟨g,14,none⟩=some a2∧w.cell? ⟨g,15,none⟩=some a3∧w.cell? ⟨g,16,none⟩=some a4∧w.cell? ⟨g,17,none⟩=some a5∧w.cell? ⟨g,18,none⟩=some a6∧w.cell? ⟨h,12,none⟩=some b0∧w.cell? ⟨h,13,none⟩=some b1∧w.cell? ⟨h,14,none⟩=some b2∧w.cell? ⟨h,15,none⟩=some b3∧w.cell? ⟨h,16,none⟩=some b4∧w.cell? ⟨h,17,none⟩=some b5∧w.cell? ⟨h,18,none⟩=some b6){k j:Nat}(hg:k≠g)(hh:k≠h)(u:Value):
 (w.setCell ⟨k,j,none⟩ u).cell? ⟨g,12,none⟩=some a0∧(w.setCell ⟨k,j,none⟩ u).cell? ⟨g,13,none⟩=some a1∧(w.setCell ⟨k,j,none⟩ u).cell? ⟨g,14,none⟩=some a2∧(w.setCell ⟨k,j,none⟩ u).cell? ⟨g,15,none⟩=some a3∧(w.setCell ⟨k,j,none⟩ u).cell? ⟨g,16,none⟩=some a4∧(w.setCell ⟨k,j,none⟩ u).cell? ⟨g,17,none⟩=some a5∧(w.setCell ⟨k,j,none⟩ u).cell? ⟨g,18,none⟩=some a6∧(w.setCell ⟨k,j,none⟩ u).cell? ⟨h,12,none⟩=some b0∧(w.setCell ⟨k,j,none⟩ u).cell? ⟨h,13,none⟩=some b1∧(w.setCell ⟨k,j,none⟩ u).cell? ⟨h,14,none⟩=some b2∧(w.setCell ⟨k,j,none⟩ u).cell? ⟨h,15,none⟩=some b3∧(w.setCell ⟨k,j,none⟩ u).cell? ⟨h,16,none⟩=some b4∧(w.setCell ⟨k,j,none⟩ u).cell? ⟨h,17,none⟩=some b5∧(w.setCell ⟨k,j,none⟩ u).cell? ⟨h,18,none⟩=some b6:=by
 obtain⟨q0,q1,q2,q3,q4,q5,q6,q7,q8,q9,q10,q11,q12,q13⟩:=q;exact⟨Zm q0 hg,Zm q1 hg,Zm q2 hg,Zm q3 hg,Zm q4 hg,Zm q5 hg,Zm q6 hg,Zm q7 hh,Zm q8 hh,Zm q9 hh,Zm q10 hh,Zm q11 hh,Zm q12 hh,Zm q13 hh⟩
theorem Zh1{q1 q2:Nat}{ga gb:GV}{n1:UInt8}{r1 x1 x2 f1 b1:List UInt8}{t1 t2:Nd}{p1:List Prt}{m1:Int}{l1 i1:Bool}{u1 u2 u4 u5:Value}{pa1 pa2:Option Addr}{pc1 pc2:Nat}(w:World)(o1:u1.oneCell'=true)(o2:u2.oneCell'=true)(o4:u4.oneCell'=true)(o5:u5.oneCell'=true)
 (HG:Hid (∀w':World,Fr nob w w'→Calls Tryz.prog 32 #[.agg (gcell ga u1 u2),.agg (gcell gb u4 u5)] w' fun e w''=>∃r:Bool,e=.returned (.bool r)∧(r=true↔GV.same ga gb)∧Fr nob w' w''))
 (HT:Hid (∀w':World,Fr nob w w'→Calls Tryz.prog 33 #[.nilIface,.nilIface] w' (Zif t1 t2 w')))
 (HP:Hid (∀w':World,Fr nob w w'→Calls Tryz.prog 34 #[.slice pa1 p1.length pc1,.slice pa2 p1.length pc2] w' fun e w''=>e=.returned (.bool true)∧Fr nob w' w''))
 (H1:Hid (GV.same ga gb)) (H5:Hid (t1.norm=t2.norm)):
 Calls Tryz.prog 16 #[.agg #[.int .i64 (q1:Nat),.int .i64 ga.a.kind,.int .i64 ga.a.line,.string ⟨ga.a.text.toArray⟩,u1,.int .i64 ga.b.kind,.int .i64 ga.b.line,.string ⟨ga.b.text.toArray⟩,u2,.bool ga.no,.int .u8 (n1.toNat:Int),.string ⟨r1.toArray⟩,.string ⟨x1.toArray⟩,.nilIface,.slice pa1 p1.length pc1,.int .i64 m1,.bool l1,.bool i1,.string ⟨f1.toArray⟩,.string ⟨b1.toArray⟩],.agg #[.int .i64 (q2:Nat),.int .i64 gb.a.kind,.int .i64 gb.a.line,.string ⟨gb.a.text.toArray⟩,u4,.int .i64 gb.b.kind,.int .i64 gb.b.line,.string ⟨gb.b.text.toArray⟩,u5,.bool gb.no,.int .u8 (n1.toNat:Int),.string ⟨r1.toArray⟩,.string ⟨x2.toArray⟩,.nilIface,.slice pa2 p1.length pc2,.int .i64 m1,.bool l1,.bool i1,.string ⟨f1.toArray⟩,.string ⟨b1.toArray⟩]] w fun e w'=>e=.returned (.bool true)∧Fr nob w w':=by
 obtain⟨w1,hw1⟩:∃w1,w1=w.alloc (.cells #[.int .i64 (q1:Nat),.int .i64 ga.a.kind,.int .i64 ga.a.line,.string ⟨ga.a.text.toArray⟩,u1,.int .i64 ga.b.kind,.int .i64 ga.b.line,.string ⟨ga.b.text.toArray⟩,u2,.bool ga.no,.int .u8 (n1.toNat:Int),.string ⟨r1.toArray⟩,.string ⟨x1.toArray⟩,.nilIface,.slice pa1 p1.length pc1,.int .i64 m1,.bool l1,.bool i1,.string ⟨f1.toArray⟩,.string ⟨b1.toArray⟩] 35):=⟨_,rfl⟩;have hs1:w1.heap.size=w.heap.size+1:=by rw[hw1];simp
 obtain⟨w2,hw2⟩:∃w2,w2=w1.alloc (.cells #[.int .i64 (q2:Nat),.int .i64 gb.a.kind,.int .i64 gb.a.line,.string ⟨gb.a.text.toArray⟩,u4,.int .i64 gb.b.kind,.int .i64 gb.b.line,.string ⟨gb.b.text.toArray⟩,u5,.bool gb.no,.int .u8 (n1.toNat:Int),.string ⟨r1.toArray⟩,.string ⟨x2.toArray⟩,.nilIface,.slice pa2 p1.length pc2,.int .i64 m1,.bool l1,.bool i1,.string ⟨f1.toArray⟩,.string ⟨b1.toArray⟩] 35):=⟨_,rfl⟩;have hs2:w2.heap.size=w.heap.size+2:=by rw[hw2];simp;omega
 have f1':Fr nob w w1:=by rw[hw1];exact(Fr.refl _ _).alloc _
 have f2':Fr nob w1 w2:=by rw[hw2];exact(Fr.refl _ _).alloc _
 have hz1:=f2'.heap (show w1.heap[w.heap.size]? =some (.cells #[.int .i64 (q1:Nat),.int .i64 ga.a.kind,.int .i64 ga.a.line,.string ⟨ga.a.text.toArray⟩,u1,.int .i64 ga.b.kind,.int .i64 ga.b.line,.string ⟨ga.b.text.toArray⟩,u2,.bool ga.no,.int .u8 (n1.toNat:Int),.string ⟨r1.toArray⟩,.string ⟨x1.toArray⟩,.nilIface,.slice pa1 p1.length pc1,.int .i64 m1,.bool l1,.bool i1,.string ⟨f1.toArray⟩,.string ⟨b1.toArray⟩] 35 (0,0)) by rw[hw1];exact newAt _ _) (fun x=>x);have hz2:w2.heap[w.heap.size+1]? =some (.cells #[.int .i64 (q2:Nat),.int .i64 gb.a.kind,.int .i64 gb.a.line,.string ⟨gb.a.text.toArray⟩,u4,.int .i64 gb.b.kind,.int .i64 gb.b.line,.string ⟨gb.b.text.toArray⟩,u5,.bool gb.no,.int .u8 (n1.toNat:Int),.string ⟨r1.toArray⟩,.string ⟨x2.toArray⟩,.nilIface,.slice pa2 p1.length pc2,.int .i64 m1,.bool l1,.bool i1,.string ⟨f1.toArray⟩,.string ⟨b1.toArray⟩] 35 (0,0)):=by rw[hw2,←hs1];exact newAt _ _
 have HW1:=hid hw1;have HW2:=hid hw2;have HS1:=hid hs1;have HS2:=hid hs2;have F2:=hid (f1'.trans' f2');have Z1:=hid hz1;have Z2:=hid hz2;have ra:=ZaS hz1;have rb:=ZaS hz2;clear hw1 hw2 hs1 hs2 f1' f2' hz1 hz2;go_enter Tryz.func16,Tryz.ntmps16;go_wp2_with(first|rw[←HW1.out]|rw[HS1.out]|rw[←HW2.out]);have HQ:=hid (show w2.cell? ⟨w.heap.size,12,none⟩=some (.string ⟨x1.toArray⟩)∧w2.cell? ⟨w.heap.size,13,none⟩=some (.nilIface)∧w2.cell? ⟨w.heap.size,14,none⟩=some (.slice pa1 p1.length pc1)∧w2.cell? ⟨w.heap.size,15,none⟩=some (.int .i64 m1)∧w2.cell? ⟨w.heap.size,16,none⟩=some (.bool l1)∧w2.cell? ⟨w.heap.size,17,none⟩=some (.bool i1)∧w2.cell? ⟨w.heap.size,18,none⟩=some (.string ⟨f1.toArray⟩)∧w2.cell? ⟨w.heap.size+1,12,none⟩=some (.string ⟨x2.toArray⟩)∧w2.cell? ⟨w.heap.size+1,13,none⟩=some (.nilIface)∧w2.cell? ⟨w.heap.size+1,14,none⟩=some (.slice pa2 p1.length pc2)∧w2.cell? ⟨w.heap.size+1,15,none⟩=some (.int .i64 m1)∧w2.cell? ⟨w.heap.size+1,16,none⟩=some (.bool l1)∧w2.cell? ⟨w.heap.size+1,17,none⟩=some (.bool i1)∧w2.cell? ⟨w.heap.size+1,18,none⟩=some (.string ⟨f1.toArray⟩)from C14.of Z1.out Z2.out)
 go_region_held3 (fun w'=>w'.cell? ⟨w.heap.size,12,none⟩=some (.string ⟨x1.toArray⟩)∧w'.cell? ⟨w.heap.size,13,none⟩=some (.nilIface)∧w'.cell? ⟨w.heap.size,14,none⟩=some (.slice pa1 p1.length pc1)∧w'.cell? ⟨w.heap.size,15,none⟩=some (.int .i64 m1)∧w'.cell? ⟨w.heap.size,16,none⟩=some (.bool l1)∧w'.cell? ⟨w.heap.size,17,none⟩=some (.bool i1)∧w'.cell? ⟨w.heap.size,18,none⟩=some (.string ⟨f1.toArray⟩)∧w'.cell? ⟨w.heap.size+1,12,none⟩=some (.string ⟨x2.toArray⟩)∧w'.cell? ⟨w.heap.size+1,13,none⟩=some (.nilIface)∧w'.cell? ⟨w.heap.size+1,14,none⟩=some (.slice pa2 p1.length pc2)∧w'.cell? ⟨w.heap.size+1,15,none⟩=some (.int .i64 m1)∧w'.cell? ⟨w.heap.size+1,16,none⟩=some (.bool l1)∧w'.cell? ⟨w.heap.size+1,17,none⟩=some (.bool i1)∧w'.cell? ⟨w.heap.size+1,18,none⟩=some (.string ⟨f1.toArray⟩)) (repeat(first|(with_reducible exact HQ.out)|(with_reducible refine C14.drew ?_)|(with_reducible refine C14.alloc ?_ _)|(with_reducible refine C14.set ?_ (by rw[HS2.out];omega) (by rw[HS2.out];omega) _))) (fail)
 ·obtain⟨w3,hw3⟩:∃w3,w3=((w2.alloc (.cells #[.string ⟨x1.toArray⟩,.nilIface,.slice pa1 p1.length pc1,.int .i64 m1,.bool l1,.bool i1,.string ⟨f1.toArray⟩] 33)).alloc (.cells #[.string ⟨x2.toArray⟩,.nilIface,.slice pa2 p1.length pc2,.int .i64 m1,.bool l1,.bool i1,.string ⟨f1.toArray⟩] 33)).drew:=⟨_,rfl⟩;rw[←hw3];have f3:Fr nob w2 w3:=by rw[hw3];exact(((Fr.refl nob w2).alloc _).alloc _).drew
  have hx:w3.heap[w2.heap.size]? =some (.cells #[.string ⟨x1.toArray⟩,.nilIface,.slice pa1 p1.length pc1,.int .i64 m1,.bool l1,.bool i1,.string ⟨f1.toArray⟩] 33 (0,0)):=by rw[hw3];exact Zq (Ze _ (newAt _ _))
  have hy:w3.heap[w2.heap.size+1]? =some (.cells #[.string ⟨x2.toArray⟩,.nilIface,.slice pa2 p1.length pc2,.int .i64 m1,.bool l1,.bool i1,.string ⟨f1.toArray⟩] 33 (0,0)):=by rw[hw3];exact Zq (Zg _ _ _ (by simp))
  have rx:=ZG hx;have ry:=ZG hy;have rA:=ZaS (f3.heap Z1.out (fun x=>x));have rB:=ZaS (f3.heap Z2.out (fun x=>x));have F3:=hid (F2.out.trans' f3);clear hw3 f3 hx hy ra rb;go_wp2_with fail;refine(HG.out _ F3.out).mono ?_;rintro e w4 ⟨r,rfl,hr,f4⟩;obtain rfl:r=true:=hr.2 H1.out;have F4:=hid (F3.out.trans' f4);clear hr;go_wp2_with fail;refine(HT.out _ F4.out).mono ?_;rintro e w5 ⟨r,rfl,hr,f5⟩;obtain rfl:r=true:=hr.2 H5.out;have F5:=hid (F4.out.trans' f5);have g5:=f4.trans' f5;clear hr f4 f5;go_wp2_with fail;refine(HP.out _ F5.out).mono ?_;rintro e w6 ⟨rfl,f6⟩;have F6:=hid (F5.out.trans' f6);go_wp2;go_ret;exact⟨rfl,F6.out⟩
 ·obtain⟨w3,hw3⟩:∃w3,w3=((w2.alloc (.cells #[.string ⟨x2.toArray⟩,.nilIface,.slice pa2 p1.length pc2,.int .i64 m1,.bool l1,.bool i1,.string ⟨f1.toArray⟩] 33)).alloc (.cells #[.string ⟨x1.toArray⟩,.nilIface,.slice pa1 p1.length pc1,.int .i64 m1,.bool l1,.bool i1,.string ⟨f1.toArray⟩] 33)).drew:=⟨_,rfl⟩;rw[←hw3];have f3:Fr nob w2 w3:=by rw[hw3];exact(((Fr.refl nob w2).alloc _).alloc _).drew
  have hx:w3.heap[w2.heap.size]? =some (.cells #[.string ⟨x2.toArray⟩,.nilIface,.slice pa2 p1.length pc2,.int .i64 m1,.bool l1,.bool i1,.string ⟨f1.toArray⟩] 33 (0,0)):=by rw[hw3];exact Zq (Ze _ (newAt _ _))
  have hy:w3.heap[w2.heap.size+1]? =some (.cells #[.string ⟨x1.toArray⟩,.nilIface,.slice pa1 p1.length pc1,.int .i64 m1,.bool l1,.bool i1,.string ⟨f1.toArray⟩] 33 (0,0)):=by rw[hw3];exact Zq (Zg _ _ _ (by simp))
  have rx:=ZG hx;have ry:=ZG hy;have rA:=ZaS (f3.heap Z1.out (fun x=>x));have rB:=ZaS (f3.heap Z2.out (fun x=>x));have F3:=hid (F2.out.trans' f3);clear hw3 f3 hx hy ra rb;go_wp2_with fail;refine(HG.out _ F3.out).mono ?_;rintro e w4 ⟨r,rfl,hr,f4⟩;obtain rfl:r=true:=hr.2 H1.out;have F4:=hid (F3.out.trans' f4);clear hr;go_wp2_with fail;refine(HT.out _ F4.out).mono ?_;rintro e w5 ⟨r,rfl,hr,f5⟩;obtain rfl:r=true:=hr.2 H5.out;have F5:=hid (F4.out.trans' f5);have g5:=f4.trans' f5;clear hr f4 f5;go_wp2_with fail;refine(HP.out _ F5.out).mono ?_;rintro e w6 ⟨rfl,f6⟩;have F6:=hid (F5.out.trans' f6);go_wp2;go_ret;exact⟨rfl,F6.out⟩
theorem Zh2{i3:TypeId}{y3:Value}{i6:TypeId}{y6:Value}{q1 q2:Nat}{ga gb:GV}{n1:UInt8}{r1 x1 x2 f1 b1:List UInt8}{t1 t2:Nd}{p1:List Prt}{m1:Int}{l1 i1:Bool}{u1 u2 u4 u5:Value}{pa1 pa2:Option Addr}{pc1 pc2:Nat}(w:World)(o1:u1.oneCell'=true)(o2:u2.oneCell'=true)(o4:u4.oneCell'=true)(o5:u5.oneCell'=true)
 (HG:Hid (∀w':World,Fr nob w w'→Calls Tryz.prog 32 #[.agg (gcell ga u1 u2),.agg (gcell gb u4 u5)] w' fun e w''=>∃r:Bool,e=.returned (.bool r)∧(r=true↔GV.same ga gb)∧Fr nob w' w''))
 (HT:Hid (∀w':World,Fr nob w w'→Calls Tryz.prog 33 #[(.iface i3 y3),(.iface i6 y6)] w' (Zif t1 t2 w')))
 (HP:Hid (∀w':World,Fr nob w w'→Calls Tryz.prog 34 #[.slice pa1 p1.length pc1,.slice pa2 p1.length pc2] w' fun e w''=>e=.returned (.bool true)∧Fr nob w' w''))
 (H1:Hid (GV.same ga gb)) (H5:Hid (t1.norm=t2.norm)):
 Calls Tryz.prog 16 #[.agg #[.int .i64 (q1:Nat),.int .i64 ga.a.kind,.int .i64 ga.a.line,.string ⟨ga.a.text.toArray⟩,u1,.int .i64 ga.b.kind,.int .i64 ga.b.line,.string ⟨ga.b.text.toArray⟩,u2,.bool ga.no,.int .u8 (n1.toNat:Int),.string ⟨r1.toArray⟩,.string ⟨x1.toArray⟩,(.iface i3 y3),.slice pa1 p1.length pc1,.int .i64 m1,.bool l1,.bool i1,.string ⟨f1.toArray⟩,.string ⟨b1.toArray⟩],.agg #[.int .i64 (q2:Nat),.int .i64 gb.a.kind,.int .i64 gb.a.line,.string ⟨gb.a.text.toArray⟩,u4,.int .i64 gb.b.kind,.int .i64 gb.b.line,.string ⟨gb.b.text.toArray⟩,u5,.bool gb.no,.int .u8 (n1.toNat:Int),.string ⟨r1.toArray⟩,.string ⟨x2.toArray⟩,(.iface i6 y6),.slice pa2 p1.length pc2,.int .i64 m1,.bool l1,.bool i1,.string ⟨f1.toArray⟩,.string ⟨b1.toArray⟩]] w fun e w'=>e=.returned (.bool true)∧Fr nob w w':=by
 obtain⟨w1,hw1⟩:∃w1,w1=w.alloc (.cells #[.int .i64 (q1:Nat),.int .i64 ga.a.kind,.int .i64 ga.a.line,.string ⟨ga.a.text.toArray⟩,u1,.int .i64 ga.b.kind,.int .i64 ga.b.line,.string ⟨ga.b.text.toArray⟩,u2,.bool ga.no,.int .u8 (n1.toNat:Int),.string ⟨r1.toArray⟩,.string ⟨x1.toArray⟩,(.iface i3 y3),.slice pa1 p1.length pc1,.int .i64 m1,.bool l1,.bool i1,.string ⟨f1.toArray⟩,.string ⟨b1.toArray⟩] 35):=⟨_,rfl⟩;have hs1:w1.heap.size=w.heap.size+1:=by rw[hw1];simp
 obtain⟨w2,hw2⟩:∃w2,w2=w1.alloc (.cells #[.int .i64 (q2:Nat),.int .i64 gb.a.kind,.int .i64 gb.a.line,.string ⟨gb.a.text.toArray⟩,u4,.int .i64 gb.b.kind,.int .i64 gb.b.line,.string ⟨gb.b.text.toArray⟩,u5,.bool gb.no,.int .u8 (n1.toNat:Int),.string ⟨r1.toArray⟩,.string ⟨x2.toArray⟩,(.iface i6 y6),.slice pa2 p1.length pc2,.int .i64 m1,.bool l1,.bool i1,.string ⟨f1.toArray⟩,.string ⟨b1.toArray⟩] 35):=⟨_,rfl⟩;have hs2:w2.heap.size=w.heap.size+2:=by rw[hw2];simp;omega
 have f1':Fr nob w w1:=by rw[hw1];exact(Fr.refl _ _).alloc _
 have f2':Fr nob w1 w2:=by rw[hw2];exact(Fr.refl _ _).alloc _
 have hz1:=f2'.heap (show w1.heap[w.heap.size]? =some (.cells #[.int .i64 (q1:Nat),.int .i64 ga.a.kind,.int .i64 ga.a.line,.string ⟨ga.a.text.toArray⟩,u1,.int .i64 ga.b.kind,.int .i64 ga.b.line,.string ⟨ga.b.text.toArray⟩,u2,.bool ga.no,.int .u8 (n1.toNat:Int),.string ⟨r1.toArray⟩,.string ⟨x1.toArray⟩,(.iface i3 y3),.slice pa1 p1.length pc1,.int .i64 m1,.bool l1,.bool i1,.string ⟨f1.toArray⟩,.string ⟨b1.toArray⟩] 35 (0,0)) by rw[hw1];exact newAt _ _) (fun x=>x);have hz2:w2.heap[w.heap.size+1]? =some (.cells #[.int .i64 (q2:Nat),.int .i64 gb.a.kind,.int .i64 gb.a.line,.string ⟨gb.a.text.toArray⟩,u4,.int .i64 gb.b.kind,.int .i64 gb.b.line,.string ⟨gb.b.text.toArray⟩,u5,.bool gb.no,.int .u8 (n1.toNat:Int),.string ⟨r1.toArray⟩,.string ⟨x2.toArray⟩,(.iface i6 y6),.slice pa2 p1.length pc2,.int .i64 m1,.bool l1,.bool i1,.string ⟨f1.toArray⟩,.string ⟨b1.toArray⟩] 35 (0,0)):=by rw[hw2,←hs1];exact newAt _ _
 have HW1:=hid hw1;have HW2:=hid hw2;have HS1:=hid hs1;have HS2:=hid hs2;have F2:=hid (f1'.trans' f2');have Z1:=hid hz1;have Z2:=hid hz2;have ra:=ZaS hz1;have rb:=ZaS hz2;clear hw1 hw2 hs1 hs2 f1' f2' hz1 hz2;go_enter Tryz.func16,Tryz.ntmps16;go_wp2_with(first|rw[←HW1.out]|rw[HS1.out]|rw[←HW2.out]);have HQ:=hid (show w2.cell? ⟨w.heap.size,12,none⟩=some (.string ⟨x1.toArray⟩)∧w2.cell? ⟨w.heap.size,13,none⟩=some ((.iface i3 y3))∧w2.cell? ⟨w.heap.size,14,none⟩=some (.slice pa1 p1.length pc1)∧w2.cell? ⟨w.heap.size,15,none⟩=some (.int .i64 m1)∧w2.cell? ⟨w.heap.size,16,none⟩=some (.bool l1)∧w2.cell? ⟨w.heap.size,17,none⟩=some (.bool i1)∧w2.cell? ⟨w.heap.size,18,none⟩=some (.string ⟨f1.toArray⟩)∧w2.cell? ⟨w.heap.size+1,12,none⟩=some (.string ⟨x2.toArray⟩)∧w2.cell? ⟨w.heap.size+1,13,none⟩=some ((.iface i6 y6))∧w2.cell? ⟨w.heap.size+1,14,none⟩=some (.slice pa2 p1.length pc2)∧w2.cell? ⟨w.heap.size+1,15,none⟩=some (.int .i64 m1)∧w2.cell? ⟨w.heap.size+1,16,none⟩=some (.bool l1)∧w2.cell? ⟨w.heap.size+1,17,none⟩=some (.bool i1)∧w2.cell? ⟨w.heap.size+1,18,none⟩=some (.string ⟨f1.toArray⟩)from C14.of Z1.out Z2.out)
 go_region_held3 (fun w'=>w'.cell? ⟨w.heap.size,12,none⟩=some (.string ⟨x1.toArray⟩)∧w'.cell? ⟨w.heap.size,13,none⟩=some ((.iface i3 y3))∧w'.cell? ⟨w.heap.size,14,none⟩=some (.slice pa1 p1.length pc1)∧w'.cell? ⟨w.heap.size,15,none⟩=some (.int .i64 m1)∧w'.cell? ⟨w.heap.size,16,none⟩=some (.bool l1)∧w'.cell? ⟨w.heap.size,17,none⟩=some (.bool i1)∧w'.cell? ⟨w.heap.size,18,none⟩=some (.string ⟨f1.toArray⟩)∧w'.cell? ⟨w.heap.size+1,12,none⟩=some (.string ⟨x2.toArray⟩)∧w'.cell? ⟨w.heap.size+1,13,none⟩=some ((.iface i6 y6))∧w'.cell? ⟨w.heap.size+1,14,none⟩=some (.slice pa2 p1.length pc2)∧w'.cell? ⟨w.heap.size+1,15,none⟩=some (.int .i64 m1)∧w'.cell? ⟨w.heap.size+1,16,none⟩=some (.bool l1)∧w'.cell? ⟨w.heap.size+1,17,none⟩=some (.bool i1)∧w'.cell? ⟨w.heap.size+1,18,none⟩=some (.string ⟨f1.toArray⟩)) (repeat(first|(with_reducible exact HQ.out)|(with_reducible refine C14.drew ?_)|(with_reducible refine C14.alloc ?_ _)|(with_reducible refine C14.set ?_ (by rw[HS2.out];omega) (by rw[HS2.out];omega) _))) (fail)
 ·obtain⟨w3,hw3⟩:∃w3,w3=((w2.alloc (.cells #[.string ⟨x1.toArray⟩,(.iface i3 y3),.slice pa1 p1.length pc1,.int .i64 m1,.bool l1,.bool i1,.string ⟨f1.toArray⟩] 33)).alloc (.cells #[.string ⟨x2.toArray⟩,(.iface i6 y6),.slice pa2 p1.length pc2,.int .i64 m1,.bool l1,.bool i1,.string ⟨f1.toArray⟩] 33)).drew:=⟨_,rfl⟩;rw[←hw3];have f3:Fr nob w2 w3:=by rw[hw3];exact(((Fr.refl nob w2).alloc _).alloc _).drew
  have hx:w3.heap[w2.heap.size]? =some (.cells #[.string ⟨x1.toArray⟩,(.iface i3 y3),.slice pa1 p1.length pc1,.int .i64 m1,.bool l1,.bool i1,.string ⟨f1.toArray⟩] 33 (0,0)):=by rw[hw3];exact Zq (Ze _ (newAt _ _))
  have hy:w3.heap[w2.heap.size+1]? =some (.cells #[.string ⟨x2.toArray⟩,(.iface i6 y6),.slice pa2 p1.length pc2,.int .i64 m1,.bool l1,.bool i1,.string ⟨f1.toArray⟩] 33 (0,0)):=by rw[hw3];exact Zq (Zg _ _ _ (by simp))
  have rx:=ZG hx;have ry:=ZG hy;have rA:=ZaS (f3.heap Z1.out (fun x=>x));have rB:=ZaS (f3.heap Z2.out (fun x=>x));have F3:=hid (F2.out.trans' f3);clear hw3 f3 hx hy ra rb;go_wp2_with fail;refine(HG.out _ F3.out).mono ?_;rintro e w4 ⟨r,rfl,hr,f4⟩;obtain rfl:r=true:=hr.2 H1.out;have F4:=hid (F3.out.trans' f4);clear hr;go_wp2_with fail;refine(HT.out _ F4.out).mono ?_;rintro e w5 ⟨r,rfl,hr,f5⟩;obtain rfl:r=true:=hr.2 H5.out;have F5:=hid (F4.out.trans' f5);have g5:=f4.trans' f5;clear hr f4 f5;go_wp2_with fail;refine(HP.out _ F5.out).mono ?_;rintro e w6 ⟨rfl,f6⟩;have F6:=hid (F5.out.trans' f6);go_wp2;go_ret;exact⟨rfl,F6.out⟩
 ·obtain⟨w3,hw3⟩:∃w3,w3=((w2.alloc (.cells #[.string ⟨x2.toArray⟩,(.iface i6 y6),.slice pa2 p1.length pc2,.int .i64 m1,.bool l1,.bool i1,.string ⟨f1.toArray⟩] 33)).alloc (.cells #[.string ⟨x1.toArray⟩,(.iface i3 y3),.slice pa1 p1.length pc1,.int .i64 m1,.bool l1,.bool i1,.string ⟨f1.toArray⟩] 33)).drew:=⟨_,rfl⟩;rw[←hw3];have f3:Fr nob w2 w3:=by rw[hw3];exact(((Fr.refl nob w2).alloc _).alloc _).drew
  have hx:w3.heap[w2.heap.size]? =some (.cells #[.string ⟨x2.toArray⟩,(.iface i6 y6),.slice pa2 p1.length pc2,.int .i64 m1,.bool l1,.bool i1,.string ⟨f1.toArray⟩] 33 (0,0)):=by rw[hw3];exact Zq (Ze _ (newAt _ _))
  have hy:w3.heap[w2.heap.size+1]? =some (.cells #[.string ⟨x1.toArray⟩,(.iface i3 y3),.slice pa1 p1.length pc1,.int .i64 m1,.bool l1,.bool i1,.string ⟨f1.toArray⟩] 33 (0,0)):=by rw[hw3];exact Zq (Zg _ _ _ (by simp))
  have rx:=ZG hx;have ry:=ZG hy;have rA:=ZaS (f3.heap Z1.out (fun x=>x));have rB:=ZaS (f3.heap Z2.out (fun x=>x));have F3:=hid (F2.out.trans' f3);clear hw3 f3 hx hy ra rb;go_wp2_with fail;refine(HG.out _ F3.out).mono ?_;rintro e w4 ⟨r,rfl,hr,f4⟩;obtain rfl:r=true:=hr.2 H1.out;have F4:=hid (F3.out.trans' f4);clear hr;go_wp2_with fail;refine(HT.out _ F4.out).mono ?_;rintro e w5 ⟨r,rfl,hr,f5⟩;obtain rfl:r=true:=hr.2 H5.out;have F5:=hid (F4.out.trans' f5);have g5:=f4.trans' f5;clear hr f4 f5;go_wp2_with fail;refine(HP.out _ F5.out).mono ?_;rintro e w6 ⟨rfl,f6⟩;have F6:=hid (F5.out.trans' f6);go_wp2;go_ret;exact⟨rfl,F6.out⟩
theorem Zh3(a b:CV)(va vb:Value)(w:World)(sa:a.few)(sb:b.few)(ha:Zc2 nob w a va)(hb:Zc2 nob w b vb)(h:CV.same a b)(ht:a.sub.tree=b.sub.tree):
 Calls Tryz.prog 16 #[va,vb] w fun e w'=>e=.returned (.bool true)∧Fr nob w w':=by
 obtain⟨q1,ga,n1,r1,⟨x1,t1,p1,m1,l1,i1,f1⟩,b1⟩:=a;obtain⟨q2,gb,n2,r2,⟨x2,t2,p2,m2,l2,i2,f2⟩,b2⟩:=b;obtain⟨h1,h2,h3,h4,h5,h6,h7,h8,h9,h10⟩:=h;simp only at h1 h2 h3 h4 h5 h6 h7 h8 h9 h10 ht;subst h2;subst h3;subst h4;subst h6;subst h7;subst h8;subst h9;subst h10;subst ht;obtain⟨u1,u2,u3,pu,rfl,s1,s2,s3,po1⟩:=ha;obtain⟨u4,u5,u6,pv,rfl,s4,s5,s6,po2⟩:=hb;obtain⟨z1,z2,z3,z4⟩:=sa;obtain⟨z5,z6,z7,_⟩:=sb;simp only at s1 s2 s3 s4 s5 s6 po1 po2 z1 z2 z3 z4 z5 z6 z7;obtain⟨pa1,pc1,rfl⟩:=Zb po1.1;obtain⟨pa2,pc2,rfl⟩:=Zb po2.1;have HG:=hid (fun(w':World) (f:Fr nob w w')=>ZjC ga gb _ _ w' z1 z2 z5 z6 ⟨u1,u2,rfl,s1.on f,s2.on f⟩ ⟨u4,u5,rfl,s4.on f,s5.on f⟩);have HT:=hid (fun(w':World) (f:Fr nob w w')=>Zig 3000000 t1 t1 u3 u6 w' z3 z3 z7 (s3.on f) (s6.on f));have HP:=hid (fun(w':World) (f:Fr nob w w')=>Zh0 p1 _ _ w' z4 (ownsRow_fr po1.1 f (fun _ _ x=>x)) (ownsRow_fr po2.1 f (fun _ _ x=>x)))
 have o1:u1.oneCell'=true:=by rcases s1.shape with rfl|⟨i,y,rfl⟩<;>rfl
 have o2:u2.oneCell'=true:=by rcases s2.shape with rfl|⟨i,y,rfl⟩<;>rfl
 have o4:u4.oneCell'=true:=by rcases s4.shape with rfl|⟨i,y,rfl⟩<;>rfl
 have o5:u5.oneCell'=true:=by rcases s5.shape with rfl|⟨i,y,rfl⟩<;>rfl
 by_cases hn:t1=.nil
 ·subst hn;have e3:u3=.nilIface:=by have:=s3;rw[RN]at this;exact this
  have e6:u6=.nilIface:=by have:=s6;rw[RN]at this;exact this
  subst e3;subst e6;exact Zh1 w o1 o2 o4 o5 HG HT HP (hid h1) (hid h5)
 ·obtain⟨i3,y3,rfl⟩:=s3.some hn;obtain⟨i6,y6,rfl⟩:=s6.some hn;exact Zh2 w o1 o2 o4 o5 HG HT HP (hid h1) (hid h5)
theorem ZjD{l:List UInt8}{s s':AdS}{a:AV}(h:Zdj l s=.inr (a,s')):a.tree=.nil:=by
 unfold Zdj at h;split at h
 ·cases h
 ·split at h
  ·cases h
  ·injection h with h;injection h with h1 h2;subst h1;rfl
theorem moreD_tree{l:List UInt8}{s s':AdS}{a:AV}(h:moreD l s=.inr (a,s')):a.tree=.nil:=by
 unfold moreD at h;split at h
 ·cases h
 ·injection h with h;injection h with h1 h2;subst h1;rfl
theorem regexD_tree{x:Bool}{l:List UInt8}{d:UInt8}{s s':AdS}{a:AV}(h:ZaE x l d s=.inr (a,s')):a.tree.size≤2*l.length+2:=by
 unfold ZaE at h;split at h
 ·cases h
 ·split at h
  ·cases h
  ·split at h
   ·cases h
   ·next t r hp=>
    injection h with h;injection h with h1 h2;subst h1;have h2:=ZdC l d true (l.length+1) s.at_ [];have h3:=(parseD_marks hp).2.2;simp only[List.length_nil,Nat.zero_add]at h2;show t.size≤_;omega
theorem Nd.size_nil:Nd.nil.size≤2:=by decide
theorem addrD_tree{x:Bool}{l:List UInt8}{sec:Bool}{s s':AdS}{a:AV}(h:addrD x l sec s=.inr (a,s')):a.tree.size≤2*l.length+2:=by
 have hn:∀a:AV,a.tree=.nil→a.tree.size≤2*l.length+2:=fun a e=>by rw[e];have:=Nd.size_nil;omega
 unfold addrD at h;split at h
 ·exact hn _ (ZjD h)
 ·split at h
  ·injection h with h;injection h with h1 h2;exact hn _ (by rw[←h1])
  ·split at h
   ·exact regexD_tree h
   ·split at h
    ·split at h
     ·cases h
     ·exact regexD_tree h
    ·split at h
     ·exact hn _ (moreD_tree h)
     ·injection h with h;injection h with h1 h2;exact hn _ (by rw[←h1];rfl)
theorem pairD_tree{x:Bool}{l:List UInt8}{s s':AdS}{a:AV}(h:Zbc x l s=.inr (a,s')):a.tree.size≤2*l.length+2:=by
 unfold Zbc at h;split at h
 ·split at h
  ·cases h
  ·next b s1 hp=>
   split at h
   ·cases h
   ·injection h with h;injection h with h1 h2;subst h1;exact addrD_tree hp
 ·injection h with h;injection h with h1 h2;rw[←h1];have:=Nd.size_nil;show Nd.nil.size≤_;omega
theorem Zlt{l:List UInt8}{a b:AV}{s s':AdS}{g:GV}(h:ZgT l a b s=.inr (g,s')):g.a=a∧g.b=b:=by
 unfold ZgT at h;split at h
 ·split at h
  ·cases h
  ·injection h with h;injection h with h1 h2;subst h1;exact⟨rfl,rfl⟩
 ·injection h with h;injection h with h1 h2;subst h1;exact⟨rfl,rfl⟩
theorem Zh4{x:Bool}{l:List UInt8}{s s':AdS}{g:GV}(h:ZX x l s=.inr (g,s')):g.a.tree.size≤2*l.length+2∧g.b.tree.size≤2*l.length+2:=by
 unfold ZX at h;split at h
 ·cases h
 ·next a s1 ha=>
  split at h
  ·cases h
  ·next b s2 hb=>
   obtain⟨e1,e2⟩:=Zlt h;rw[e1,e2];refine⟨addrD_tree ha,?_⟩;split at hb
   ·injection hb with hb;injection hb with h1 h2;rw[←h1];have:=Nd.size_nil;show Nd.nil.size≤_;omega
   ·exact pairD_tree hb
theorem Zh5(x:Bool)(l:List UInt8)(d:UInt8)(s:AdS):(Zav x l d s).1.2.size≤2*l.length+2:=by
 have hz:=Nd.size_nil;unfold Zav;simp only;generalize(if(Zr l d true s).2.e=0∧(Zr l d true s).1=[]then failC (Zr l d true s).2 2 s.at_ else(Zr l d true s).2)=s2;split
 ·show Nd.nil.size≤_;omega
 ·cases hp:Zac prg x (Zr l d true s).1 with
  |inl z=>show Nd.nil.size≤_;omega
  |inr z=>
   obtain⟨n,r⟩:=z;have h3:=(parseD_marks hp).2.2;have h4:(Zr l d true s).1.length≤l.length:=by
    unfold Zr;split
    ·exact Nat.zero_le _
    ·have:=ZdC l d true (l.length+1) s.at_ [];simp only[List.length_nil]at this;show(bt l d true (l.length+1) s.at_ []).1.length≤_;omega
   show n.size≤_;omega
theorem Zlu(b:List Prt)(t:List UInt8):(pushT b t).length≤b.length+1:=by
 unfold pushT;cases h:b.getLast? with
 |none=>simp
 |some p=>
  simp only;split
  ·rw[List.length_append,List.length_dropLast];simp only[List.length_singleton];omega
  ·simp
theorem partsL_len(g:Int):∀(t:List UInt8) (esc:Bool) (b:List Prt),(Zao g t esc b).1.length≤b.length+t.length
 |[],esc,b=>by rw[Zao];split<;>simp
 |c::r,esc,b=>by
  have h1:=partsL_len g r;have h2:=Zlu b;rw[Zao,List.length_cons];split
  ·have:=h1 true b;omega
  ·split
   ·have:=h1 false (b++[(0,[])]);rw[List.length_append]at this;simp at this;omega
   ·split
    ·split
     ·exact Nat.zero_le _
     ·have:=h1 false (b++[((c.toNat:Int)-48,[])]);rw[List.length_append]at this;simp at this;omega
    ·split
     ·have:=h1 false (pushT b [10]);have:=h2 [10];omega
     ·have:=h1 false (pushT b [c]);have:=h2 [c];omega
theorem ZjE(l:List UInt8)(sub:SV)(s:AdS):(Zap l sub s).2.1.tree=sub.tree∧(Zap l sub s).2.1.parts=sub.parts:=by
 unfold Zap;split
 ·exact⟨rfl,rfl⟩
 ·split
  ·exact⟨rfl,rfl⟩
  ·split
   ·simp only;split<;>exact⟨rfl,rfl⟩
   ·split<;>exact⟨rfl,rfl⟩
theorem Zem(l:List UInt8):∀(n:Nat) (sub:SV) (s:AdS),(Zai l n sub s).1.tree=sub.tree∧(Zai l n sub s).1.parts=sub.parts
 |0,_,_=>⟨rfl,rfl⟩
 |n+1,sub,s=>by
  rw[Zai];have hf:=ZjE l sub s;cases hr:Zap l sub s with
  |mk a b=>
   rw[hr]at hf;obtain⟨b,c⟩:=b;cases a with
   |true=>have:=Zem l n b c;exact⟨this.1.trans hf.1,this.2.trans hf.2⟩
   |false=>exact hf
theorem ZmX(x:Bool)(l:List UInt8)(s:AdS):(Zet x l s).1.tree.size≤2*l.length+2∧(Zet x l s).1.parts.length≤l.length:=by
 unfold Zet;simp only;split
 ·exact⟨by show Nd.nil.size≤_;have:=Nd.size_nil;omega,Nat.zero_le _⟩
 ·have h1:=Zh5 x l (Zv l s).1 (Zv l s).2;split
  ·exact⟨h1,Nat.zero_le _⟩
  ·split
   ·exact⟨h1,Nat.zero_le _⟩
   ·have hk:=Zem l (l.length+2);rw[(hk _ _).1,(hk _ _).2];refine⟨h1,?_⟩;have h4:∀q:AdS,(Zr l (Zv l s).1 false q).1.length≤l.length:=fun q=>by
     unfold Zr;split
     ·exact Nat.zero_le _
     ·have:=ZdC l (Zv l s).1 false (l.length+1) q.at_ [];simp only[List.length_nil]at this;show(bt l _ false (l.length+1) q.at_ []).1.length≤_;omega
    have h5:=partsL_len (Zav x l (Zv l s).1 (Zv l s).2).1.2.groups (Zr l (Zv l s).1 false (Zav x l (Zv l s).1 (Zv l s).2).2).1 false [];have h6:=h4 (Zav x l (Zv l s).1 (Zv l s).2).2;simp only[List.length_nil]at h5;show(Zao _ _ false []).1.length≤_;omega
theorem Zlv(x:Bool)(l:List UInt8)(c:CV)(s:AdS)(h:c.sub=SV.zero):(argsC x l c s).2.1.sub.tree.size≤2*l.length+2∧(argsC x l c s).2.1.sub.parts.length≤l.length:=by
 have h0:c.sub.tree.size≤2*l.length+2∧c.sub.parts.length≤l.length:=by
  rw[h];exact⟨by show Nd.nil.size≤_;have:=Nd.size_nil;omega,Nat.zero_le _⟩
 unfold argsC;split
 ·exact h0
 split
 ·exact h0
 split
 ·exact h0
 split
 ·exact h0
 split
 ·exact h0
 split
 ·exact ZmX x l s
 split
 ·exact h0
 ·exact h0
theorem cmdD_few{x:Bool}{l:List UInt8}{p:Nat}{c:CV}{q:AdS}(hl:l.length≤100000)(h:Zeu x l p=.inr (c,q)):c.few:=by
 unfold Zeu at h;cases hg:ZX x l ⟨p,[],0⟩with
 |inl z=>rw[hg]at h;cases h
 |inr z=>
  obtain⟨g,s⟩:=z;rw[hg]at h;simp only at h;split at h
  ·cases h
  ·injection h with h;obtain⟨g1,g2⟩:=Zh4 hg;have hz:CV.zero.few:=by
    refine⟨?_,?_,?_,?_⟩
    ·show Nd.nil.size≤_;have:=Nd.size_nil;omega
    ·show Nd.nil.size≤_;have:=Nd.size_nil;omega
    ·show Nd.nil.size≤_;have:=Nd.size_nil;omega
    ·exact Nat.zero_le _
   have hall:(ZbY x l g s).1.few:=by
    unfold ZbY;split
    ·exact hz
    ·simp only;generalize(if ZM (byt l s.at_)<0 then failC s 13 s.at_ else if ZM (byt l s.at_)<ZcD g then failC s 19 s.at_ else if byt l s.at_=81∨byt l s.at_=84∨byt l s.at_=122 then Zan s s.at_ [byt l s.at_]else s)=s1;split
     ·exact hz
     ·have hk:=fun(cv:CV) (q:AdS)=>Zcj x l cv q;have hf:=fun(cv:CV) (q:AdS) (hc:cv.sub=SV.zero)=>Zlv x l cv q hc;split
      ·refine⟨?_,?_,?_,?_⟩
       ·rw[(hk _ _).2.2];show g.a.tree.size≤_;omega
       ·rw[(hk _ _).2.2];show g.b.tree.size≤_;omega
       ·have:=(hf {CV.zero with at_:=s.at_,guard:=g,name:=byt l s.at_} (s1.to (s1.at_+1)) rfl).1;exact Nat.le_trans this (by omega)
       ·have:=(hf {CV.zero with at_:=s.at_,guard:=g,name:=byt l s.at_} (s1.to (s1.at_+1)) rfl).2;exact Nat.le_trans this (by omega)
      ·refine⟨?_,?_,?_,?_⟩
       ·rw[(hk _ _).2.2];show g.a.tree.size≤_;omega
       ·rw[(hk _ _).2.2];show g.b.tree.size≤_;omega
       ·have:=(hf {CV.zero with at_:=s.at_,guard:=g,name:=byt l s.at_} (s1.to (s1.at_+1)) rfl).1;exact Nat.le_trans this (by omega)
       ·have:=(hf {CV.zero with at_:=s.at_,guard:=g,name:=byt l s.at_} (s1.to (s1.at_+1)) rfl).2;exact Nat.le_trans this (by omega)
   rw[h]at hall;exact hall
end Go.Proofs.YtkfddjopbocpkaaGreatDoor
