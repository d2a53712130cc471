/- Lemmas of this claim. -/
import Derived.Test.YtkfddjopbocpkaaGreatDoorN30
set_option linter.unusedVariables false
set_option linter.unusedSimpArgs false
set_option maxRecDepth 100000
set_option maxHeartbeats 4000000
namespace Go.Proofs.YtkfddjopbocpkaaGreatDoor
open Go.Lib (hid)
open Go.RowKit
theorem info_C:(Tryz.prog.info? 35).map (·.size)=some 20:=by kernel_rfl
theorem Zaa{fn:Func}{p:Tmp}(h:fn.results= #[.cell p 35]){tmps:Array Value}{r:Nat}(ht:tmps.getD p undef=.pointer (some ⟨r,0,none⟩)){W:World}{a0 a1 a2 a3 a4 a5 a6 a7 a8 a9 a10 a11 a12 a13 a14 a15 a16 a17 a18 a19:Value}
 (hb:W.heap[r]? =some (.cells #[a0,a1,a2,a3,a4,a5,a6,a7,a8,a9,a10,a11,a12,a13,a14,a15,a16,a17,a18,a19] 35 (0,0))):(results fn tmps).run Tryz.prog W=.ok (.agg #[a0,a1,a2,a3,a4,a5,a6,a7,a8,a9,a10,a11,a12,a13,a14,a15,a16,a17,a18,a19]) W:=by
 exact results_cell_row h tmps W r _ _ _ _ ht hb Tryz.underlying35 rfl info_C
def A3(O:Nat→Prop)(r c:Nat):Nat→Prop:=fun k=>O k∨(k=r∨k=r+1∨k=c)
abbrev gcell(g:GV)(U1 U2:Value):Array Value:= #[.int .i64 g.a.kind,.int .i64 g.a.line,.string ⟨g.a.text.toArray⟩,U1,.int .i64 g.b.kind,.int .i64 g.b.line,.string ⟨g.b.text.toArray⟩,U2,.bool g.no]
def ZgR(b:Nat)(l:List UInt8)(x:Bool)(S O:Nat→Prop)(w:World)(R:CV×AdS)(r:Ending)(w':World):Prop:=
 ∃u1 u2 u pv S',r=.returned (.agg (cmd20 R.1.at_ (.int .i64 R.1.guard.a.kind) (.int .i64 R.1.guard.a.line) (.string ⟨R.1.guard.a.text.toArray⟩) u1 (.int .i64 R.1.guard.b.kind) (.int .i64 R.1.guard.b.line) (.string ⟨R.1.guard.b.text.toArray⟩) u2 (.bool R.1.guard.no) R.1.name R.1.arg R.1.sub u pv R.1.table))∧
  RN (SO S' O) w' R.1.guard.a.tree u1∧RN (SO S' O) w' R.1.guard.b.tree u2∧RN (SO S' O) w' R.1.sub.tree u∧PrO (SO S' O) w' R.1.sub.parts pv∧CRd b l x R.2 S' w'∧Stp S w S' w'
theorem Zjy{w:World}{b j:Nat}{i:Int}(hc:(w.cell? ⟨b,j,none⟩).isSome=true)(hf:w.frozen? ⟨b,j,none⟩=false):
 Sem.run Tryz.prog (storeVar 3 ⟨b,j,none⟩ (.int .i64 i)) w=.ok () (w.setCell ⟨b,j,none⟩ (.int .i64 i)):=by
 obtain⟨old,ho⟩:=Option.isSome_iff_exists.1 hc;have a:(Value.int IntKind.i64 i).cells= #[.int .i64 i]:=rfl;have hi:(Tryz.prog.info? 3).map (·.size)=some 1:=by kernel_rfl
 cases hq:Tryz.prog.info? 3 with
 |none=>rw[hq]at hi;cases hi
 |some q=>
  have hs:q.size=1:=by simpa[hq]using hi
  simp[storeVar,sizeOf,typeInfo,hq,a,hs,go_sem,ho,hf]
attribute [go_sem] Zjy
attribute [-go_sem] storeVar
@[go_sem high] theorem ZaL{w:World}(c0:Int)(k1 n1:Int)(t1:ByteArray)(u1:Value)(k2 n2:Int)(t2:ByteArray)(u2:Value)(no:Bool)(nm:Int)(ar st fi tb:ByteArray)(o1:u1.oneCell'=true)(o2:u2.oneCell'=true):
 Sem.run Tryz.prog (storeVar 35 ⟨w.heap.size,0,none⟩ (.agg #[.int .i64 c0,.int .i64 k1,.int .i64 n1,.string t1,u1,.int .i64 k2,.int .i64 n2,.string t2,u2,.bool no,.int .u8 nm,.string ar,.string st,.nilIface,.slice none 0 0,.int .i64 0,.bool false,.bool false,.string fi,.string tb])) (w.alloc (.cells #[.int .i64 0,.int .i64 0,.int .i64 0,.string ⟨#[]⟩,.nilIface,.int .i64 0,.int .i64 0,.string ⟨#[]⟩,.nilIface,.bool false,.int .u8 0,.string ⟨#[]⟩,.string ⟨#[]⟩,.nilIface,.slice none 0 0,.int .i64 0,.bool false,.bool false,.string ⟨#[]⟩,.string ⟨#[]⟩] 35))=
  .ok () ((w.alloc (.cells #[.int .i64 0,.int .i64 0,.int .i64 0,.string ⟨#[]⟩,.nilIface,.int .i64 0,.int .i64 0,.string ⟨#[]⟩,.nilIface,.bool false,.int .u8 0,.string ⟨#[]⟩,.string ⟨#[]⟩,.nilIface,.slice none 0 0,.int .i64 0,.bool false,.bool false,.string ⟨#[]⟩,.string ⟨#[]⟩] 35)).setRow w.heap.size #[.int .i64 c0,.int .i64 k1,.int .i64 n1,.string t1,u1,.int .i64 k2,.int .i64 n2,.string t2,u2,.bool no,.int .u8 nm,.string ar,.string st,.nilIface,.slice none 0 0,.int .i64 0,.bool false,.bool false,.string fi,.string tb]):=
  run_storeVar_row _ _ 35 _ _ _ (newAt _ _) info_C rfl (Array.all_eq_true_iff_forall_mem.2 (by intro v hv;simp only[List.mem_toArray,List.mem_cons,List.not_mem_nil,or_false]at hv;rcases hv with h|h|h|h|h|h|h|h|h|h|h|h|h|h|h|h|h|h|h|h<;>(subst h;first|rfl|assumption)))
@[go_sem high] theorem run_storeC_newD{w:World}(c0:Int)(k1 n1:Int)(t1:ByteArray)(u1:Value)(k2 n2:Int)(t2:ByteArray)(u2:Value)(no:Bool)(nm:Int)(ar st fi tb:ByteArray)(o1:u1.oneCell'=true)(o2:u2.oneCell'=true):
 Sem.run Tryz.prog (storeVar 35 ⟨w.heap.size,0,none⟩ (.agg #[.int .i64 c0,.int .i64 k1,.int .i64 n1,.string t1,u1,.int .i64 k2,.int .i64 n2,.string t2,u2,.bool no,.int .u8 nm,.string ar,.string st,.nilIface,.slice none 0 0,.int .i64 0,.bool false,.bool false,.string fi,.string tb])) (w.alloc (.cells #[.int .i64 0,.int .i64 0,.int .i64 0,.string ⟨#[]⟩,.nilIface,.int .i64 0,.int .i64 0,.string ⟨#[]⟩,.nilIface,.bool false,.int .u8 0,.string ⟨#[]⟩,.string ⟨#[]⟩,.nilIface,.slice none 0 0,.int .i64 0,.bool false,.bool false,.string ⟨#[]⟩,.string ⟨#[]⟩] 35)).drew=
  .ok () ((w.alloc (.cells #[.int .i64 0,.int .i64 0,.int .i64 0,.string ⟨#[]⟩,.nilIface,.int .i64 0,.int .i64 0,.string ⟨#[]⟩,.nilIface,.bool false,.int .u8 0,.string ⟨#[]⟩,.string ⟨#[]⟩,.nilIface,.slice none 0 0,.int .i64 0,.bool false,.bool false,.string ⟨#[]⟩,.string ⟨#[]⟩] 35)).drew.setRow w.heap.size #[.int .i64 c0,.int .i64 k1,.int .i64 n1,.string t1,u1,.int .i64 k2,.int .i64 n2,.string t2,u2,.bool no,.int .u8 nm,.string ar,.string st,.nilIface,.slice none 0 0,.int .i64 0,.bool false,.bool false,.string fi,.string tb]):=
  run_storeVar_row _ _ 35 _ _ _ (Zq (newAt _ _)) info_C rfl (Array.all_eq_true_iff_forall_mem.2 (by intro v hv;simp only[List.mem_toArray,List.mem_cons,List.not_mem_nil,or_false]at hv;rcases hv with h|h|h|h|h|h|h|h|h|h|h|h|h|h|h|h|h|h|h|h<;>(subst h;first|rfl|assumption)))
@[go_sem high] theorem run_storeC_newE{w:World}(c0:Int)(k1 n1:Int)(t1:ByteArray)(u1:Value)(k2 n2:Int)(t2:ByteArray)(u2:Value)(no:Bool)(nm:Int)(ar st fi tb:ByteArray)(o1:u1.oneCell'=true)(o2:u2.oneCell'=true):
 Sem.run Tryz.prog (storeVar 35 ⟨w.heap.size,0,none⟩ (.agg #[.int .i64 c0,.int .i64 k1,.int .i64 n1,.string t1,u1,.int .i64 k2,.int .i64 n2,.string t2,u2,.bool no,.int .u8 nm,.string ar,.string st,.nilIface,.slice none 0 0,.int .i64 0,.bool false,.bool false,.string fi,.string tb])) (w.drew.alloc (.cells #[.int .i64 0,.int .i64 0,.int .i64 0,.string ⟨#[]⟩,.nilIface,.int .i64 0,.int .i64 0,.string ⟨#[]⟩,.nilIface,.bool false,.int .u8 0,.string ⟨#[]⟩,.string ⟨#[]⟩,.nilIface,.slice none 0 0,.int .i64 0,.bool false,.bool false,.string ⟨#[]⟩,.string ⟨#[]⟩] 35))=
  .ok () ((w.drew.alloc (.cells #[.int .i64 0,.int .i64 0,.int .i64 0,.string ⟨#[]⟩,.nilIface,.int .i64 0,.int .i64 0,.string ⟨#[]⟩,.nilIface,.bool false,.int .u8 0,.string ⟨#[]⟩,.string ⟨#[]⟩,.nilIface,.slice none 0 0,.int .i64 0,.bool false,.bool false,.string ⟨#[]⟩,.string ⟨#[]⟩] 35)).setRow w.heap.size #[.int .i64 c0,.int .i64 k1,.int .i64 n1,.string t1,u1,.int .i64 k2,.int .i64 n2,.string t2,u2,.bool no,.int .u8 nm,.string ar,.string st,.nilIface,.slice none 0 0,.int .i64 0,.bool false,.bool false,.string fi,.string tb]):=
  run_storeVar_row _ _ 35 _ _ _ (newAt _ _) info_C rfl (Array.all_eq_true_iff_forall_mem.2 (by intro v hv;simp only[List.mem_toArray,List.mem_cons,List.not_mem_nil,or_false]at hv;rcases hv with h|h|h|h|h|h|h|h|h|h|h|h|h|h|h|h|h|h|h|h<;>(subst h;first|rfl|assumption)))
theorem cell_alloc{w:World}{p:Addr}{v:Value}(h:w.cell? p=some v)(o:Obj):(w.alloc o).cell? p=some v:=(Fr.refl nob w |>.alloc o).cell h (fun x=>x)
theorem BC.row{w:World}{b c k:Nat}{v0 v1 v2 v3 v4 u0 u1 u2 u3 u4 u5 u6 u7 u8:Value}(h:B5 w b v0 v1 v2 v3 v4∧C9 w c u0 u1 u2 u3 u4 u5 u6 u7 u8)(hb:k≠b)(hc:k≠c)(cs:Array Value):B5 (w.setRow k cs) b v0 v1 v2 v3 v4∧C9 (w.setRow k cs) c u0 u1 u2 u3 u4 u5 u6 u7 u8:=by
 obtain⟨⟨a0,a1,a2,a3,a4⟩,c0,c1,c2,c3,c4,c5,c6,c7,c8⟩:=h;have f:=ZN w k cs;have nb:∀{j:Nat} {v:Value},w.cell? ⟨b,j,none⟩=some v→(w.setRow k cs).cell? ⟨b,j,none⟩=some v:=fun q=>f.cell q (fun e=>hb e.symm);have nc:∀{j:Nat} {v:Value},w.cell? ⟨c,j,none⟩=some v→(w.setRow k cs).cell? ⟨c,j,none⟩=some v:=fun q=>f.cell q (fun e=>hc e.symm);exact⟨⟨nb a0,nb a1,nb a2,nb a3,nb a4⟩,nc c0,nc c1,nc c2,nc c3,nc c4,nc c5,nc c6,nc c7,nc c8⟩
theorem BC.alloc{w:World}{b c:Nat}{v0 v1 v2 v3 v4 u0 u1 u2 u3 u4 u5 u6 u7 u8:Value}(h:B5 w b v0 v1 v2 v3 v4∧C9 w c u0 u1 u2 u3 u4 u5 u6 u7 u8)(o:Obj):B5 (w.alloc o) b v0 v1 v2 v3 v4∧C9 (w.alloc o) c u0 u1 u2 u3 u4 u5 u6 u7 u8:=by
 obtain⟨⟨a0,a1,a2,a3,a4⟩,c0,c1,c2,c3,c4,c5,c6,c7,c8⟩:=h;exact⟨⟨cell_alloc a0 o,cell_alloc a1 o,cell_alloc a2 o,cell_alloc a3 o,cell_alloc a4 o⟩,cell_alloc c0 o,cell_alloc c1 o,cell_alloc c2 o,cell_alloc c3 o,cell_alloc c4 o,cell_alloc c5 o,cell_alloc c6 o,cell_alloc c7 o,cell_alloc c8 o⟩
theorem Stp.drop{S S1 S2:Nat→Prop}{w w7 w8:World}{c:Nat}(h:Stp S w S1 w7)(k:Stp (GS S1 c) w7 (GS S2 c) w8)(hc:w.heap.size≤c)(hc7:c<w7.heap.size):Stp S w S2 w8:=by
 have h1:=h.fr.size;refine⟨h.fr.trans k.fr (fun i hi e=> ?_),fun i hi e=> ?_,fun q i e=> ?_⟩
 ·rcases e with e|e
  ·exact h.old i hi e
  ·have e:i=c:=e;omega
 ·rcases k.old i (by omega) (.inl e)with e|e
  ·exact h.old i hi e
  ·have e:i=c:=e;omega
 ·refine k.lt (fun j e=> ?_) i (.inl e);rcases e with e|e
  ·exact h.lt q j e
  ·have e:j=c:=e;omega
theorem Stp.row{S S1:Nat→Prop}{w w9:World}{g:Nat}(h:Stp S w S1 w9)(hg:w.heap.size≤g)(cs:Array Value):Stp S w S1 (w9.setRow g cs):=
 ⟨h.fr.trans (ZN w9 g cs) (fun i hi e=>by have e:i=g:=e;omega),h.old,fun q k hk=>by have:=h.lt q k hk;have:=(ZN w9 g cs).size;omega⟩
def ZlM(l:List UInt8)(R:Bool×CV×AdS):CV×AdS:=if R.1=true∧R.2.2.e=0 then(R.2.1,Zjq l R.2.2)else(R.2.1,R.2.2)
theorem Zcm{b:Nat}{l:List UInt8}{x:Bool}{S S1 S2 S3 O:Nat→Prop}{w w7 w8 w9:World}{c:Nat}{s9:AdS}{t1 t2 t:Nd}{ps:List Prt}{u1 u2 u pv:Value}
 (ST7:Stp S w S1 w7) (st8:Stp (GS S1 c) w7 (GS S2 c) w8) (hc:w.heap.size+1<c) (hc7:c<w7.heap.size) (hn:¬S1 (w.heap.size+1)) (st9:Stp S2 w8 S3 w9)
 (rn1:RN (SO S O) w t1 u1) (rn2:RN (SO S O) w t2 u2) (rn8:RN (SO S2 (A3 O w.heap.size c)) w8 t u) (po8:PrO (SO S2 (A3 O w.heap.size c)) w8 ps pv) (h9:CRd b l x s9 S3 w9) (cs:Array Value):
 RN (SO S3 O) (w9.setRow (w.heap.size+1) cs) t1 u1∧RN (SO S3 O) (w9.setRow (w.heap.size+1) cs) t2 u2∧RN (SO S3 O) (w9.setRow (w.heap.size+1) cs) t u∧PrO (SO S3 O) (w9.setRow (w.heap.size+1) cs) ps pv∧
 CRd b l x s9 S3 (w9.setRow (w.heap.size+1) cs)∧Stp S w S3 (w9.setRow (w.heap.size+1) cs):=by
 have z7:=st8.fr.size;have d:¬S2 (w.heap.size+1):=fun e=>by
  rcases st8.old _ (by omega) (.inl e)with e|e
  ·exact hn e
  ·have e:w.heap.size+1=c:=e;omega
 have h:¬S3 (w.heap.size+1):=fun e=>d (st9.old _ (by omega) e);have a:=((ST7.drop st8 (by omega) hc7).trans st9).row (g:=w.heap.size+1) (by omega) cs;have f:=ZN w9 (w.heap.size+1) cs;have hX:∀k,(fun k=>k=w.heap.size+1) k→SO S3 (A3 O w.heap.size c) k:=fun k hk=>.inr (.inr (.inr (.inl hk)));have hS:∀k,SO S3 O k→SO S3 (A3 O w.heap.size c) k:=fun k hk=>hk.elim .inl (fun e=>.inr (.inl e));refine⟨a.rn rn1,a.rn rn2,RN.keep f (fun k _ hk=>hX k hk) (fun k _ hk=>hS k hk) _ _ (st9.rn rn8),?_,h9.keep f (fun k hk=>by have hk:k=w.heap.size+1:=hk;rw[hk];exact h),a⟩;exact(po8.keep (S':=SO S3 (A3 O w.heap.size c)) st9.fr (fun _ hk=>.inl hk) (fun k hk e=>e.elim (fun e=>.inl (st9.old k hk e)) .inr)).keep f hX (fun k _ hk=>hS k hk)
theorem Zll{u1 u2:Value}(o1:u1.oneCell'=true)(o2:u2.oneCell'=true)(b:Nat)(l:List UInt8)(x:Bool)(s:AdS)(S O:Nat→Prop)(g:GV)(w:World)(hl:l.length≤99000)(ha:s.at_≤l.length)(hm:s.marks.length≤90000)(hS:∀k,S k→k<w.heap.size)(hO:∀k,O k→k<w.heap.size)(W0:World)(hE:Env W0)(hW:Fr nob W0 w)(hSW:∀k,S k→W0.heap.size≤k)(h:CRd b l x s S w)(ho:l.length≤s.at_):
 Calls Tryz.prog 30 #[.pointer (some ⟨b,0,none⟩),.agg (gcell g u1 u2)] w (ZgR b l x S O w (CV.zero,failC s 5 l.length)):=by
 obtain⟨w1,d⟩:∃w1,w1=w.alloc (.cells #[.int .i64 g.a.kind,.int .i64 g.a.line,.string ⟨g.a.text.toArray⟩,u1,.int .i64 g.b.kind,.int .i64 g.b.line,.string ⟨g.b.text.toArray⟩,u2,.bool g.no] 30):=⟨_,rfl⟩;have f1:Fr nob w w1:=by rw[d];exact(Fr.refl _ _).alloc _
 have i:w1.heap.size=w.heap.size+1:=by rw[d];simp
 obtain⟨w2,c⟩:∃w2,w2=w1.alloc (.cells #[.int .i64 0,.int .i64 0,.int .i64 0,.string ⟨#[]⟩,.nilIface,.int .i64 0,.int .i64 0,.string ⟨#[]⟩,.nilIface,.bool false,.int .u8 0,.string ⟨#[]⟩,.string ⟨#[]⟩,.nilIface,.slice none 0 0,.int .i64 0,.bool false,.bool false,.string ⟨#[]⟩,.string ⟨#[]⟩] 35):=⟨_,rfl⟩;have f2:Fr nob w w2:=by rw[c];exact f1.alloc _
 have o:w2.heap.size=w.heap.size+2:=by rw[c];simp;omega
 have p:w2.heap[w.heap.size]? =some (.cells #[.int .i64 g.a.kind,.int .i64 g.a.line,.string ⟨g.a.text.toArray⟩,u1,.int .i64 g.b.kind,.int .i64 g.b.line,.string ⟨g.b.text.toArray⟩,u2,.bool g.no] 30 (0,0)):=by rw[c];exact Ze _ (by rw[d];exact newAt _ _)
 have q:w2.heap[w.heap.size+1]? =some (.cells #[.int .i64 0,.int .i64 0,.int .i64 0,.string ⟨#[]⟩,.nilIface,.int .i64 0,.int .i64 0,.string ⟨#[]⟩,.nilIface,.bool false,.int .u8 0,.string ⟨#[]⟩,.string ⟨#[]⟩,.nilIface,.slice none 0 0,.int .i64 0,.bool false,.bool false,.string ⟨#[]⟩,.string ⟨#[]⟩] 35 (0,0)):=by rw[c];exact Zg _ _ _ i.symm
 have m:¬S w.heap.size:=fun e=>absurd (hS _ e) (by omega);have n:¬S (w.heap.size+1):=fun e=>absurd (hS _ e) (by omega);have t:=hid d;have u:=hid c;have r:=hid i;have A:=hid o;have F2:=hid f2;have Z1:=hid p;have Z2:=hid q;have N1:=hid m;have N2:=hid n;have H2:=hid (h.on f2);clear d c i o f1 f2 p q m n;have HO:=hid (Zbn b l x s S w2 (by omega) H2.out);rw[show decide (l.length≤s.at_)=true from decide_eq_true ho]at HO;obtain⟨mv,f⟩:=H2.out;have rr:=Zd f.blk;have HM:=hid f;clear f;go_enter Tryz.func30,Tryz.ntmps30;go_wp2_with(first|rw[←t.out]|rw[r.out]|rw[←u.out]);refine HO.out.mono ?_;rintro z w3 ⟨rfl,f3⟩;have H3:=hid (H2.out.on f3);have F3:=hid (F2.out.trans' f3);have y:=hid (f3.heap Z2.out (fun x=>x));have r3:=rr _ f3;clear f3 rr;go_wp2_with fail;refine(cm_fail b l x s S 5 l.length w3 H3.out).mono ?_;rintro z w4 ⟨rfl,h4,j⟩
 have z4:=j.fr.heap y.out N2.out;have H4:=hid h4;have v:=hid ((Stp.of F3.out).trans j);have Z4:=hid z4;clear h4 j z4 r3;go_wp2_with(refine wpList_store_row rfl 35 _ _ rfl (w.heap.size+1) #[.int .i64 0,.int .i64 0,.int .i64 0,.string ⟨#[]⟩,.nilIface,.int .i64 0,.int .i64 0,.string ⟨#[]⟩,.nilIface,.bool false,.int .u8 0,.string ⟨#[]⟩,.string ⟨#[]⟩,.nilIface,.slice none 0 0,.int .i64 0,.bool false,.bool false,.string ⟨#[]⟩,.string ⟨#[]⟩] rfl rfl 35 _ Z4.out info_C rfl (by kernel_rfl) ?_);rw[setRow_self _ _ _ _ _ Z4.out];(try simp only[Exit.inBlock,Exit.then]);refine bodyPost_ret (Zaa rfl rfl Z4.out) rfl ⟨.nilIface,.nilIface,.nilIface,.slice none 0 0,S,rfl,?_,?_,?_,PrO.nil _ _,H4.out,v.out⟩
 all_goals rfl
abbrev gc20(p:Nat)(g:GV)(u1 u2:Value)(n:UInt8)(ar:List UInt8)(sub:SV)(u pv:Value)(tb:List UInt8):Array Value:=
 cmd20 p (.int .i64 g.a.kind) (.int .i64 g.a.line) (.string ⟨g.a.text.toArray⟩) u1 (.int .i64 g.b.kind) (.int .i64 g.b.line) (.string ⟨g.b.text.toArray⟩) u2 (.bool g.no) n ar sub u pv tb
theorem Zsv{p:Nat}{g:GV}{u1 u2:Value}{n:UInt8}{ar:List UInt8}{sub:SV}{u pv:Value}{tb:List UInt8}(o1:u1.oneCell'=true)(o2:u2.oneCell'=true)(o3:u.oneCell'=true)(o4:pv.oneCell'=true):(gc20 p g u1 u2 n ar sub u pv tb).all (·.oneCell')=true:=
 Array.all_eq_true_iff_forall_mem.2 (by intro v hv;simp only[List.mem_toArray,List.mem_cons,List.not_mem_nil,or_false]at hv;rcases hv with h|h|h|h|h|h|h|h|h|h|h|h|h|h|h|h|h|h|h|h<;>(subst h;first|rfl|assumption))
def midS(s:AdS)(g:GV)(n:UInt8):AdS:=if ZM n<0 then failC s 13 s.at_ else if ZM n<ZcD g then failC s 19 s.at_ else if n=81∨n=84∨n=122 then Zan s s.at_ [n]else s
theorem ZsA{s:AdS}{g:GV}{n:UInt8}(he:s.e=0)(h:¬(midS s g n).e=0):(midS s g n).marks=s.marks:=by
 unfold midS at h⊢;split
 ·unfold failC;split<;>rfl
 ·split
  ·unfold failC;split<;>rfl
  ·next h1 h2=>
   rw[if_neg h1,if_neg h2]at h;split at h
   ·exact(h he).elim
   ·exact(h he).elim
theorem Zsy{s:AdS}{g:GV}{n:UInt8}(he:s.e=0)(h:(midS s g n).e=0):(midS s g n).at_=s.at_∧(midS s g n).marks.length≤s.marks.length+1:=by
 unfold midS at h⊢;split at h
 ·rw[Za9 he]at h;exact absurd (show(13:Int)=0 from h) (by decide)
 ·next h1=>
  rw[if_neg h1];split at h
  ·rw[Za9 he]at h;exact absurd (show(19:Int)=0 from h) (by decide)
  ·next h2=>
   rw[if_neg h2];split
   ·exact⟨rfl,by show(s.marks++[_]).length≤_;simp⟩
   ·exact⟨rfl,by omega⟩
theorem Zsz{x:Bool}{l:List UInt8}{g:GV}{s:AdS}(ho:s.at_<l.length):ZbY x l g s=if(midS s g l[s.at_]).e≠0 then(CV.zero,midS s g l[s.at_])else ZlM l (ZsD x l (cv0 s.at_ g l[s.at_]) ((midS s g l[s.at_]).to ((midS s g l[s.at_]).at_+1))):=by
 unfold ZbY;rw[if_neg (by omega)];simp only[ZkQ ho];rfl
theorem ZsB{u1 u2:Value}(o1:u1.oneCell'=true)(o2:u2.oneCell'=true)(b:Nat)(l:List UInt8)(x:BF)(s:AdS)(S O:Nat→Prop)(g:GV)(w:World)(hl:l.length≤99000)(ha:s.at_≤l.length)(hm:s.marks.length≤90000)(hS:∀k,S k→k<w.heap.size)(hO:∀k,O k→k<w.heap.size)(W0:World)(hE:Env W0)(hW:Fr nob W0 w)(hSW:∀k,S k→W0.heap.size≤k)(h:CRd b l x s S w)(ho:s.at_<l.length)(he:s.e=0)(rn1:RN (SO S O) w g.a.tree u1)(rn2:RN (SO S O) w g.b.tree u2):
 Calls Tryz.prog 30 #[.pointer (some ⟨b,0,none⟩),.agg (gcell g u1 u2)] w (ZgR b l x S O w (ZbY x l g s)):=by
 obtain⟨n,hn⟩:∃n,l[s.at_]=n:=⟨_,rfl⟩;obtain⟨R,hR⟩:∃R,ZbY x l g s=R:=⟨_,rfl⟩;rw[hR];rw[Zsz ho,hn]at hR;have HM:=hid hR;clear hR;obtain⟨w1,U⟩:∃w1,w1=w.alloc (.cells #[.int .i64 g.a.kind,.int .i64 g.a.line,.string ⟨g.a.text.toArray⟩,u1,.int .i64 g.b.kind,.int .i64 g.b.line,.string ⟨g.b.text.toArray⟩,u2,.bool g.no] 30):=⟨_,rfl⟩;have f1:Fr nob w w1:=by rw[U];exact(Fr.refl _ _).alloc _
 have F:w1.heap.size=w.heap.size+1:=by rw[U];simp
 obtain⟨w2,G⟩:∃w2,w2=w1.alloc (.cells #[.int .i64 0,.int .i64 0,.int .i64 0,.string ⟨#[]⟩,.nilIface,.int .i64 0,.int .i64 0,.string ⟨#[]⟩,.nilIface,.bool false,.int .u8 0,.string ⟨#[]⟩,.string ⟨#[]⟩,.nilIface,.slice none 0 0,.int .i64 0,.bool false,.bool false,.string ⟨#[]⟩,.string ⟨#[]⟩] 35):=⟨_,rfl⟩;have f2:Fr nob w w2:=by rw[G];exact f1.alloc _
 have g9:w2.heap.size=w.heap.size+2:=by rw[G];simp;omega
 have a4:w2.heap[w.heap.size]? =some (.cells #[.int .i64 g.a.kind,.int .i64 g.a.line,.string ⟨g.a.text.toArray⟩,u1,.int .i64 g.b.kind,.int .i64 g.b.line,.string ⟨g.b.text.toArray⟩,u2,.bool g.no] 30 (0,0)):=by rw[G];exact Ze _ (by rw[U];exact newAt _ _)
 have h0:w2.heap[w.heap.size+1]? =some (.cells #[.int .i64 0,.int .i64 0,.int .i64 0,.string ⟨#[]⟩,.nilIface,.int .i64 0,.int .i64 0,.string ⟨#[]⟩,.nilIface,.bool false,.int .u8 0,.string ⟨#[]⟩,.string ⟨#[]⟩,.nilIface,.slice none 0 0,.int .i64 0,.bool false,.bool false,.string ⟨#[]⟩,.string ⟨#[]⟩] 35 (0,0)):=by rw[G];exact Zg _ _ _ F.symm
 have g6:¬S w.heap.size:=fun e=>absurd (hS _ e) (by omega);have P:¬S (w.heap.size+1):=fun e=>absurd (hS _ e) (by omega);have e7:=hid U;have e8:=hid G;have i8:=hid F;have j0:=hid g9;have F2:=hid f2;have Z1:=hid a4;have Z2:=hid h0;have N1:=hid g6;have N2:=hid P;have H2:=hid (h.on f2);clear U G F g9 f1 f2 a4 h0 g6 P;have HO:=hid (Zbn b l x s S w2 (by omega) H2.out);rw[show decide (l.length≤s.at_)=false from decide_eq_false (by omega)]at HO;have k4:(s.at_:Int)<l.length:=by omega
 have j7:(l.length:Int)≤99000:=by omega
 go_enter Tryz.func30,Tryz.ntmps30;go_wp2_with(first|rw[←e7.out]|rw[i8.out]|rw[←e8.out]);refine HO.out.mono ?_;rintro z w3 ⟨rfl,f3⟩;have H3:=hid (H2.out.on f3);have F3:=hid (F2.out.trans' f3);have b8:=hid (f3.heap Z2.out (fun x=>x));have D:=hid (f3.heap Z1.out (fun x=>x));obtain⟨mv,a1⟩:=H3.out;have HQ:=hid (And.intro (B5.of a1.blk) (C9.of D.out));have e5:=hid (BC.drew (And.intro (B5.of a1.blk) (C9.of D.out)));have j9:=lt_heap a1.blk;have k0:=lt_heap D.out;clear f3 a1
 go_upto_region 4 with(fail)
 go_cut [5] (fun v5 w'=>v5=.pointer (some ⟨w3.heap.size,0,none⟩)∧Fr nob w3 w'∧w'.heap[w3.heap.size]? =some (.cells (gc20 s.at_ g u1 u2 n [] SV.zero .nilIface (.slice none 0 0) []) 35 (0,0)))
 case first=>
  have e1:=ZaL (w:=w3) (s.at_:Nat) g.a.kind g.a.line ⟨g.a.text.toArray⟩ u1 g.b.kind g.b.line ⟨g.b.text.toArray⟩ u2 g.no (n.toNat:Nat) ⟨#[]⟩ ⟨#[]⟩ ⟨#[]⟩ ⟨#[]⟩ o1 o2;have e2:=run_storeC_newD (w:=w3) (s.at_:Nat) g.a.kind g.a.line ⟨g.a.text.toArray⟩ u1 g.b.kind g.b.line ⟨g.b.text.toArray⟩ u2 g.no (n.toNat:Nat) ⟨#[]⟩ ⟨#[]⟩ ⟨#[]⟩ ⟨#[]⟩ o1 o2;have e3:=run_storeC_newE (w:=w3) (s.at_:Nat) g.a.kind g.a.line ⟨g.a.text.toArray⟩ u1 g.b.kind g.b.line ⟨g.b.text.toArray⟩ u2 g.no (n.toNat:Nat) ⟨#[]⟩ ⟨#[]⟩ ⟨#[]⟩ ⟨#[]⟩ o1 o2
  go_region_held3 (fun w'=>B5 w' b (.string ⟨l.toArray⟩) (.int .i64 (s.at_:Nat)) (.bool x) mv (.int .i64 s.e)∧C9 w' w.heap.size (.int .i64 g.a.kind) (.int .i64 g.a.line) (.string ⟨g.a.text.toArray⟩) u1 (.int .i64 g.b.kind) (.int .i64 g.b.line) (.string ⟨g.b.text.toArray⟩) u2 (.bool g.no)) (repeat(first|(with_reducible exact HQ.out)|(with_reducible exact e5.out)|(with_reducible refine BC.drew ?_)|(with_reducible refine BC.alloc ?_ _)|(with_reducible refine BC.row ?_ (by omega) (by omega) _))) (first|(rw[hn])|(rw[e1])|(rw[e2])|(rw[e3]))
  all_goals
   go_wp2_with fail;go_meet
   case rel=>exact⟨rfl,(by first|exact(((Fr.refl nob w3).alloc _).drew).trans (ZN _ _ _) (fun i hi e=>by have e:i=w3.heap.size:=e;omega)|exact((((Fr.refl nob w3).alloc _).trans (ZN _ _ _) (fun i hi e=>by have e:i=w3.heap.size:=e;omega)).drew)|exact(((Fr.refl nob w3).drew).alloc _).trans (ZN _ _ _) (fun i hi e=>by have e:i=w3.heap.size:=e;omega)),by first|exact setRow_heap _ _ _ _ _ _ (Zq (newAt _ _))|exact setRow_heap _ _ _ _ _ _ (newAt _ _)|exact Zq (setRow_heap _ _ _ _ _ _ (newAt _ _))⟩
 case rest=>
  obtain⟨rfl,f4,d3⟩:=hcut;have Z4:=hid d3;have F4:=hid (F3.out.trans' f4);have H4:=hid (H3.out.on f4);have f6:=hid (f4.heap D.out (fun x=>x));have f9:=hid (f4.heap b8.out (fun x=>x));have rg:=Zw d3 _ (Fr.refl _ _);have d6:=hid (ZdQ n wc);have t:=hid (show w.heap.size+1<w3.heap.size by have h1:=j0.out;have h2:=lt_heap b8.out;have h3:=lt_heap D.out;have h4:=F3.out.size;omega);clear f4 d3 HQ e5 H3 D b8 HO e7 e8 Z1 Z2 H2;go_wp2_with fail;refine d6.out.mono ?_;rintro z w5 ⟨rfl,f5⟩;have F5:=hid (F4.out.trans' f5);have Z5:=hid (f5.heap Z4.out (fun x=>x));have f8:=hid (f5.heap f6.out (fun x=>x));have b9:=hid (f5.heap f9.out (fun x=>x));have H5:=hid (H4.out.on f5);clear f5 rg H4 Z4 f6 f9 d6;go_upto_block 0 with(fail)
  go_cut [] (fun w'=>∃S1,CRd b l x (midS s g n) S1 w'∧Stp S w5 S1 w')
  case first=>
   obtain⟨k5,g5⟩:=H5.out;have r5:=Zd g5.blk _ (Fr.refl _ _);have j5:=Zw Z5.out _ (Fr.refl _ _);clear g5;by_cases c1:ZM n<0
   ·have HD:=hid (show midS s g n=failC s 13 s.at_ from if_pos c1);go_wp2_with fail;refine(cm_fail b l x s S 13 s.at_ w5 H5.out).mono ?_;rintro z w6 ⟨rfl,h6,m⟩;go_wp2;go_meet
    case rel=>exact⟨S,by rw[HD.out];exact h6,m⟩
   ·have r9:=Zk f8.out _ (Fr.refl _ _);have e6:=hid (ZhS g (.agg (gcell g u1 u2)) w5 ⟨u1,u2,rfl,RN.keep F5.out (fun _ _ x=>x.elim) (fun _ _ x=>x.elim) _ _ rn1,RN.keep F5.out (fun _ _ x=>x.elim) (fun _ _ x=>x.elim) _ _ rn2⟩);by_cases c2:ZM n<ZcD g
    ·have HD:=hid (show midS s g n=failC s 19 s.at_ by unfold midS;rw[if_neg c1,if_pos c2]);go_wp2_with fail;refine e6.out.mono ?_;rintro z H ⟨rfl,v⟩;have c0:=H5.out.on v;obtain⟨V,j⟩:=c0;have i0:=Zd j.blk _ (Fr.refl _ _);have I:=hid (show CRd b l x s S H from⟨V,j⟩);have X:=hid v;clear j r5 r9 v;go_wp2_with fail;refine(cm_fail b l x s S 19 s.at_ H I.out).mono ?_;rintro z w6 ⟨rfl,h6,m⟩;go_wp2;go_meet
     case rel=>exact⟨S,by rw[HD.out];exact h6,(Stp.of X.out).trans m⟩
    ·have HI:=hid (fun w'=>strings_IndexByte [81,84,122] (n.toNat:Int) w');rw[show((n.toNat:Int)).toNat.toUInt8=n from ZaY _]at HI;have A:=Zbo [81,84,122] n;obtain⟨zi,hz⟩:∃z,Lib.indexByte [81,84,122] n=z:=⟨_,rfl⟩;rw[hz]at HI A;clear hz;go_wp2_with fail;refine e6.out.mono ?_;rintro z H ⟨rfl,v⟩;have c0:=H5.out.on v;obtain⟨V,j⟩:=c0;have i0:=Zd j.blk _ (Fr.refl _ _);have a7:=Zd j.blk;have i1:=Zw (v.heap Z5.out (fun x=>x)) _ (Fr.refl _ _);have I:=hid (show CRd b l x s S H from⟨V,j⟩);have X:=hid v;clear j r5 r9 v j5;by_cases c3:n=81∨n=84∨n=122
     ·have HD:=hid (show midS s g n=Zan s s.at_ [n] by unfold midS;rw[if_neg (by omega),if_neg (by omega),if_pos c3]);rw[show([81,84,122]:List UInt8).contains n=true by rcases c3 with rfl|rfl|rfl<;>rfl]at A;have a4:0≤zi:=by simpa using A
      clear A a7;go_wp2_with fail;refine(HI.out H).mono ?_;rintro z5 j6 ⟨rfl,rfl⟩;clear i1;obtain⟨j8,b1⟩:=I.out;have a7:=Zd b1.blk;clear i0 b1;go_wp2_with fail;have j4:∀W:World,(Instr.slice 9 (.string ⟨l.toArray⟩) (some (.int .i64 (s.at_:Int))) (some (.int .i64 ((s.at_:Int)+1))) none).run Tryz.prog W=.ok (.string ⟨#[n]⟩) W:=fun W=>by
       rw[Zaf l Tryz.underlying9 (by omega) (by omega) (by omega) W,show((s.at_:Int)+1).toNat-(s.at_:Int).toNat=1 by omega,show((s.at_:Int)).toNat=s.at_ by omega,Zia ho,hn]
      refine region_fr 19 (by kernel_rfl) (by kernel_rfl) ?_;simp only[List.take_succ_cons,List.take_zero,List.drop_succ_cons,List.drop_zero]
      repeat(go_big_quiet_step (fail))
      refine wpQuiet_nil ?_;intro wC fC;have i4:=hid (I.out.on fC);have i5:=hid (X.out.trans' fC);clear fC a7 j4;go_wp2_with fail;refine(cm_mark b l x s S s.at_ [n] wC (by omega) i4.out).mono ?_;rintro z w6 ⟨rfl,S1,h6,m⟩;go_wp2;go_meet
      case rel=>exact⟨S1,by rw[HD.out];exact h6,(Stp.of i5.out).trans m⟩
     ·have HD:=hid (show midS s g n=s by unfold midS;rw[if_neg (by omega),if_neg (by omega),if_neg c3]);rw[show([81,84,122]:List UInt8).contains n=false by simpa using c3]at A;have a4:¬0≤zi:=by simpa using A
      clear A a7;go_wp2_with fail;refine(HI.out H).mono ?_;rintro z5 j6 ⟨rfl,rfl⟩;go_wp2;go_meet
      case rel=>exact⟨S,by rw[HD.out];exact I.out,Stp.of X.out⟩
  case rest=>
   obtain⟨S1,h6,m⟩:=hcut;obtain⟨s1,F⟩:∃s1,midS s g n=s1:=⟨_,rfl⟩;have o:=HM.out;have c8:=ZsA (g:=g) (n:=n) he;have a3:=Zsy (g:=g) (n:=n) he;rw[F]at h6 o c8 a3;have c7:¬S w3.heap.size:=fun e=>by have:=hS _ e;have:=t.out;omega
   have c4:¬S1 (w.heap.size+1):=fun e=>N2.out (m.old _ (lt_heap b9.out) e);have c5:¬S1 w3.heap.size:=fun e=>c7 (m.old _ (lt_heap Z5.out) e);have g0:=hid (m.fr.heap b9.out N2.out);have Z6:=hid (m.fr.heap Z5.out c7);have H6:=hid h6;have f0:=hid ((Stp.of F5.out).trans m);have J:=hid c4;have i7:=hid c5;have c6:S1 b:=by obtain⟨_,q⟩:=h6;exact q.me
   have i2:=hid (show b≠w3.heap.size from fun e=>c5 (e▸c6));have i3:=hid (show b≠w.heap.size+1 from fun e=>c4 (e▸c6));have e4:=hid (cm_ok b l x _ S1 wc h6);clear h6 m c7 c4 c5 c6 HM H5 Z5 f8 b9 F;by_cases Q:s1.e=0
   ·rw[if_neg (fun h=>h Q)]at o;obtain⟨g3,E⟩:=a3 Q;have e1:(s1.e==0)=true:=by simpa using Q
    rw[g3]at o;have C:=hid o;have d9:=hid (show(s1.to (s.at_+1)).marks.length≤100000 by show s1.marks.length≤_;omega);clear o c8 a3 E;go_wp2_with fail;refine e4.out.mono ?_;rintro z d4 ⟨rfl,L⟩;rw[e1];have j2:=H6.out.on L;obtain⟨k6,a2⟩:=j2;have r7:=Zd a2.blk _ (Fr.refl _ _);rw[g3]at r7;have h7:=a2.turned 1 (.int .i64 ((s.at_:Int)+1)) (s1.to (s.at_+1)) (by simp[AdS.to]) rfl;have B:=(f0.out.trans (Stp.of L)).trans (a2.stp 1 (.int .i64 ((s.at_:Int)+1)));have g7:=((Fr.refl (fun k=>k=b) d4).setCell (p:=⟨b,1,none⟩) (fun _=>rfl) (.int .i64 ((s.at_:Int)+1))).heap (L.heap Z6.out (fun x=>x)) (fun e=>i2.out (show b=w3.heap.size from(show w3.heap.size=b from e).symm));have z7:=((Fr.refl (fun k=>k=b) d4).setCell (p:=⟨b,1,none⟩) (fun _=>rfl) (.int .i64 ((s.at_:Int)+1))).heap (L.heap g0.out (fun x=>x)) (fun e=>i3.out (show b=w.heap.size+1 from(show w.heap.size+1=b from e).symm))
    obtain⟨w7,d2⟩:∃w7,w7=d4.setCell ⟨b,1,none⟩ (.int .i64 ((s.at_:Int)+1)):=⟨_,rfl⟩;rw[←d2]at h7 B g7 z7;have g4:A3 O w.heap.size w3.heap.size w3.heap.size:=.inr (.inr (.inr rfl));have g1:∀k,A3 O w.heap.size w3.heap.size k→k<w7.heap.size:=fun k hk=>by
     have h1:=lt_heap g7;have h2:=t.out;have h3:=B.fr.size;rcases hk with hk|hk|hk|hk
     ·have:=hO k hk;omega
     all_goals omega
    have d7:=hid (Zlj b w3.heap.size l x S1 (A3 O w.heap.size w3.heap.size) s.at_ g _ _ _ _ _ _ _ _ _ n (s1.to (s.at_+1)) w7 hl (by show s.at_+1≤l.length;omega) d9.out (B.lt hS) g1 g4 i7.out W0 hE (Stp.from B hW hSW) (fun k hk=>by
     by_cases j3:k<w.heap.size
     ·exact hSW k (B.old k j3 hk)
     ·have:=hW.size;omega) g7 ⟨_,h7⟩)
    have d8:=hid d2;have K:=hid B;have Z7:=hid z7;have Y:=hid (lt_heap g7);clear d2 B z7 g7 h7 L a2 g4 g1;obtain⟨R',g2⟩:∃R',ZsD x l (cv0 s.at_ g n) (s1.to (s.at_+1))=R':=⟨_,rfl⟩;have hK:=Zcj x l (cv0 s.at_ g n) (s1.to (s.at_+1));have a0:=ZdN x (cv0 s.at_ g n) (s:=s1.to (s.at_+1)) (l:=l) (by show s.at_+1≤l.length;omega);have E:=Zfu x (cv0 s.at_ g n) (s:=s1.to (s.at_+1)) (l:=l) (N:=100000) (by show s.at_+1≤l.length;omega) d9.out;have o:=C.out;rw[g2]at d7 hK a0 E o;clear C;have C:=hid o;obtain⟨rb,⟨ca,cg,cn,c,d,f⟩,rs⟩:=R';obtain⟨k1,k2,k3⟩:=hK;simp only at k1 k2 k3 a0 E;have k1:=k1.symm;have k2:=k2.symm;have k3:=k3.symm;subst k1;subst k2;subst k3;clear g2 o;go_wp2_with(rw[←d8.out]);refine d7.out.mono ?_;rintro z w8 ⟨u,pv,S2,rfl,g8,a6,a5,h8,a8,n8⟩;simp only at g8 a6 a5 h8;have h5:=a8.fr.heap Z7.out (fun e=>e.elim J.out (fun e=>by have e:w.heap.size+1=w3.heap.size:=e;have:=t.out;omega))
    have P:¬S2 (w.heap.size+1):=fun e=>by
     rcases a8.old _ (by have:=Y.out;have:=t.out;omega) (.inl e)with e|e
     ·exact J.out e
     ·have e:w.heap.size+1=w3.heap.size:=e;have:=t.out;omega
    have d0:pv.oneCell'=true:=by obtain⟨a9,c9,rfl⟩:=Zb a5.1;rfl
    have d1:u.oneCell'=true:=by rcases a6.shape with rfl|⟨i9,y9,rfl⟩<;>rfl
    have G8:=hid g8;have b5:=hid a6;have b4:=hid a5;have H8:=hid h8;have b6:=hid a8;have N8:=hid n8;have Z8:=hid h5;have j1:=hid P;have i6:=hid a0;have e0:=hid E;clear g8 a6 a5 h8 a8 n8 h5 P r7 a0 E;cases rb with
    |false=>
     have M:ZlM l (false,⟨s.at_,g,n,c,d,f⟩,rs)=(⟨s.at_,g,n,c,d,f⟩,rs):=if_neg (fun h=>by cases h.1);have GF:=hid G8.out;have ZF:=hid Z8.out;go_wp2_with(first|refine wpList_load_row rfl 35 _ rfl w3.heap.size rfl 35 (gc20 s.at_ g u1 u2 n c d u pv f) (0,0) _ GF.out Tryz.underlying35 rfl info_C ?_|refine wpList_store_row rfl 35 _ _ rfl (w.heap.size+1) (gc20 s.at_ g u1 u2 n c d u pv f) rfl rfl 35 _ ZF.out info_C rfl (Zsv o1 o2 d1 d0) ?_);(try simp only[Exit.inBlock,Exit.then]);have y:=C.out;rw[M]at y;subst y;obtain⟨q1,q2,q3,q4,q5,q6⟩:=Zcm K.out b6.out t.out Y.out J.out (Stp.refl _ _) rn1 rn2 b5.out b4.out H8.out (gc20 s.at_ g u1 u2 n c d u pv f);exact bodyPost_ret (Zaa rfl rfl (setRow_heap _ _ _ _ _ _ ZF.out)) rfl ⟨u1,u2,u,pv,S2,rfl,q1,q2,q3,q4,q5,q6⟩
    |true=>
     by_cases Z:rs.e=0
     ·have e9:(rs.e==0)=true:=by simpa using Z
      have M:ZlM l (true,⟨s.at_,g,n,c,d,f⟩,rs)=(⟨s.at_,g,n,c,d,f⟩,Zjq l rs):=if_pos ⟨rfl,Z⟩;go_wp2_with fail;refine(cm_ok b l x _ S2 w8 H8.out).mono ?_;rintro z d5 ⟨rfl,r⟩;rw[e9];have b3:=hid (H8.out.on r);have b2:=hid r;clear r;go_wp2_with fail;refine(cm_end b l x rs S2 d5 hl i6.out (by have:=e0.out;omega) b3.out).mono ?_;rintro z w9 ⟨rfl,S3,h9,b0⟩;have H9:=hid h9;have b7:=hid ((Stp.of b2.out).trans b0);have GF:=hid (b0.fr.heap (b2.out.heap G8.out (fun x=>x)) N8.out);have ZF:=hid (b0.fr.heap (b2.out.heap Z8.out (fun x=>x)) j1.out);clear h9 b0;go_wp2_with(first|refine wpList_load_row rfl 35 _ rfl w3.heap.size rfl 35 (gc20 s.at_ g u1 u2 n c d u pv f) (0,0) _ GF.out Tryz.underlying35 rfl info_C ?_|refine wpList_store_row rfl 35 _ _ rfl (w.heap.size+1) (gc20 s.at_ g u1 u2 n c d u pv f) rfl rfl 35 _ ZF.out info_C rfl (Zsv o1 o2 d1 d0) ?_)
      (try simp only[Exit.inBlock,Exit.then]);have y:=C.out;rw[M]at y;subst y;obtain⟨q1,q2,q3,q4,q5,q6⟩:=Zcm K.out b6.out t.out Y.out J.out b7.out rn1 rn2 b5.out b4.out H9.out (gc20 s.at_ g u1 u2 n c d u pv f);exact bodyPost_ret (Zaa rfl rfl (setRow_heap _ _ _ _ _ _ ZF.out)) rfl ⟨u1,u2,u,pv,S3,rfl,q1,q2,q3,q4,q5,q6⟩
     ·have e9:(rs.e==0)=false:=by simpa using Z
      have M:ZlM l (true,⟨s.at_,g,n,c,d,f⟩,rs)=(⟨s.at_,g,n,c,d,f⟩,rs):=if_neg (fun h=>Z h.2);go_wp2_with fail;refine(cm_ok b l x _ S2 w8 H8.out).mono ?_;rintro z d5 ⟨rfl,r⟩;rw[e9];have b3:=hid (H8.out.on r);have b7:=hid (Stp.of r:Stp S2 w8 S2 d5);have GF:=hid (r.heap G8.out (fun x=>x));have ZF:=hid (r.heap Z8.out (fun x=>x));clear r;go_wp2_with(first|refine wpList_load_row rfl 35 _ rfl w3.heap.size rfl 35 (gc20 s.at_ g u1 u2 n c d u pv f) (0,0) _ GF.out Tryz.underlying35 rfl info_C ?_|refine wpList_store_row rfl 35 _ _ rfl (w.heap.size+1) (gc20 s.at_ g u1 u2 n c d u pv f) rfl rfl 35 _ ZF.out info_C rfl (Zsv o1 o2 d1 d0) ?_);(try simp only[Exit.inBlock,Exit.then]);have y:=C.out;rw[M]at y;subst y;obtain⟨q1,q2,q3,q4,q5,q6⟩:=Zcm K.out b6.out t.out Y.out J.out b7.out rn1 rn2 b5.out b4.out b3.out (gc20 s.at_ g u1 u2 n c d u pv f)
      exact bodyPost_ret (Zaa rfl rfl (setRow_heap _ _ _ _ _ _ ZF.out)) rfl ⟨u1,u2,u,pv,S2,rfl,q1,q2,q3,q4,q5,q6⟩
   ·rw[if_pos Q]at o;have hq:(s1.e==0)=false:=by simpa using Q
    subst o;clear c8 a3;go_wp2_with fail;refine e4.out.mono ?_;rintro z w7 ⟨rfl,f7⟩;rw[hq];have H7:=hid (H6.out.on f7);have K:=hid (f0.out.trans (Stp.of f7));have Z7:=hid (f7.heap g0.out (fun x=>x));clear f7;go_wp2_with(refine wpList_store_row rfl 35 _ _ rfl (w.heap.size+1) #[.int .i64 0,.int .i64 0,.int .i64 0,.string ⟨#[]⟩,.nilIface,.int .i64 0,.int .i64 0,.string ⟨#[]⟩,.nilIface,.bool false,.int .u8 0,.string ⟨#[]⟩,.string ⟨#[]⟩,.nilIface,.slice none 0 0,.int .i64 0,.bool false,.bool false,.string ⟨#[]⟩,.string ⟨#[]⟩] rfl rfl 35 _ Z7.out info_C rfl (by kernel_rfl) ?_);rw[setRow_self _ _ _ _ _ Z7.out];(try simp only[Exit.inBlock,Exit.then]);refine bodyPost_ret (Zaa rfl rfl Z7.out) rfl ⟨.nilIface,.nilIface,.nilIface,.slice none 0 0,S1,rfl,?_,?_,?_,PrO.nil _ _,H7.out,K.out⟩
    all_goals rfl
end Go.Proofs.YtkfddjopbocpkaaGreatDoor
namespace Go.Proofs.YtkfddjopbocpkaaGreatDoor
open Go.Lib (hid)
open Go.RowKit
def Zv7(g:GV):Prop:=ZvY g.a∧ZvY g.b
def Zs9(g:GV):List UInt8:=Zto g.a++((if g.b.kind=0 then[]else[44]++Zto g.b)++(if g.no then[33]else[]))
theorem ZuH{g:GV}(h:Zv7 g):(Zs9 g).length≤600000006:=by
 have h1:=Ztg h.1;have h2:=Ztg h.2;unfold Zs9;split<;>split<;>simp<;>omega
theorem Pxn.less{W0 w w':World}{K K':Nat→Prop}(f:Fr (Pxn W0 K') w w')(h:∀k,K k→K' k):Fr (Pxn W0 K) w w':=f.mono (fun _ _ x y=>x (y.imp id (h _)))
section
variable {W0 w w':World} {K:Nat→Prop} {b:Nat} {out:List UInt8}
theorem Zu7(g:GV)(u1 u2:Value)(hE:Env W0)(hP:P10 W0)(hg:Zv7 g)(hv1:RN nob W0 g.a.tree u1)(hv2:RN nob W0 g.b.tree u2)(h:PxW W0 K b out w)(hlen:out.length≤10000000000000):
 Calls Tryz.prog 76 #[.pointer (some ⟨b,0,none⟩),.agg (gcell g u1 u2)] w (PxA W0 K b (out++Zs9 g) w (.tuple #[])):=by
 obtain⟨ga,gb,l⟩:=g;simp only at hv1 hv2;have o1:u1.oneCell'=true:=by rcases hv1.shape with rfl|⟨i,y,rfl⟩<;>rfl
 have o2:u2.oneCell'=true:=by rcases hv2.shape with rfl|⟨i,y,rfl⟩<;>rfl
 have l1:=Ztg hg.1;have l2:=Ztg hg.2;have r:=hid (fun(w':World) (f:Fr nob W0 w')=>Zts ga (.agg #[.int .i64 ga.kind,.int .i64 ga.line,.string ⟨ga.text.toArray⟩,u1]) w' (hE.on f) (hP.on f) hg.1 ⟨u1,rfl,RN.keep f (fun _ _ x=>x.elim) (fun _ _ x=>x.elim) _ _ hv1⟩);have q:=hid (fun(w':World) (f:Fr nob W0 w')=>Zts gb (.agg #[.int .i64 gb.kind,.int .i64 gb.line,.string ⟨gb.text.toArray⟩,u2]) w' (hE.on f) (hP.on f) hg.2 ⟨u2,rfl,RN.keep f (fun _ _ x=>x.elim) (fun _ _ x=>x.elim) _ _ hv2⟩);obtain⟨T1,s⟩:∃T,Zto ga=T:=⟨_,rfl⟩;obtain⟨T2,t⟩:∃T,Zto gb=T:=⟨_,rfl⟩;unfold Zs9;simp only;rw[s]at r l1⊢;rw[t]at q l2⊢;obtain⟨w1,m⟩:∃w1,w1=w.alloc (.cells #[.int .i64 ga.kind,.int .i64 ga.line,.string ⟨ga.text.toArray⟩,u1,.int .i64 gb.kind,.int .i64 gb.line,.string ⟨gb.text.toArray⟩,u2,.bool l] 30):=⟨_,rfl⟩;have o:=hid m;have h1:=h.alloc (.cells #[.int .i64 ga.kind,.int .i64 ga.line,.string ⟨ga.text.toArray⟩,u1,.int .i64 gb.kind,.int .i64 gb.line,.string ⟨gb.text.toArray⟩,u2,.bool l] 30) h.lt
 rw[←m]at h1;have f1:Fr nob w w1:=by rw[m];exact(Fr.refl _ _).alloc _
 have hb:w1.heap[w.heap.size]? =some (.cells #[.int .i64 ga.kind,.int .i64 ga.line,.string ⟨ga.text.toArray⟩,u1,.int .i64 gb.kind,.int .i64 gb.line,.string ⟨gb.text.toArray⟩,u2,.bool l] 30 (0,0)):=by rw[m];exact newAt _ _
 obtain⟨K2,p⟩:∃K2:Nat→Prop,(fun k=>K k∨k=w.heap.size)=K2:=⟨_,rfl⟩;have u:∀k,K k→K2 k:=by rw[←p];exact fun k h=>.inl h
 have v:K2 w.heap.size:=by rw[←p];exact .inr rfl
 rw[p]at h1;have r1:=Zk hb;have H1:=hid h1;have F1:=hid f1;have HB:=hid hb;have d:=hid u;have c:=hid v;clear m hE hP hg hv1 hv2 h h1 f1 hb p u v s t;have lb:w.heap.size<w1.heap.size:=lt_heap HB.out;have ag:∀W:World,Fr nob w1 W→Calls Tryz.prog 23 #[.agg #[.int .i64 ga.kind,.int .i64 ga.line,.string ⟨ga.text.toArray⟩,u1]] W fun e w'=>e=.returned (.string ⟨T1.toArray⟩)∧Fr nob W w':=fun W f=>r.out W (H1.out.fr.trans' f);have AG:=hid ag;clear ag;by_cases k0:gb.kind=0
 ·have t1:(gb.kind !=0)=false:=by simpa using k0
  rw[if_pos k0];clear k0;cases l
  ·go_enter Tryz.func76,Tryz.ntmps76
   go_upto_region 1 with(rw[←o.out])
   refine region_fr 6 (by kernel_rfl) (by kernel_rfl) ?_;simp only[List.take_succ_cons,List.take_zero,List.drop_succ_cons,List.drop_zero]
   repeat(go_big_quiet_step ((with_reducible exact calls_fr (AG.out _ (grown_fr _ _ _)))))
   refine wpQuiet_nil ?_;intro wC fC;go_wp2_with fail;refine(px_str T1 (H1.out.quiet fC) (by omega)).mono ?_;rintro e w2 ⟨rfl,h2,f2⟩;have r2:=Zk (f2.heap (fC.heap HB.out (fun x=>x)) (fun x=>x (.inr c.out)));have H2:=hid h2;have F2:=hid ((Pxn.of F1.out).trans ((Pxn.of fC).trans f2 (fun _ _ x=>x)) (fun _ _ x=>x));have j:=hid (f2.heap (fC.heap HB.out (fun x=>x)) (fun x=>x (.inr c.out)));clear h2 f2 fC r1;have n:=r2 w2 (Fr.refl _ _);go_wp2;exact bodyPost_ret (results_none rfl _ _ _) rfl ⟨rfl,by simpa using H2.out.less d.out,Pxn.less F2.out d.out⟩
  ·go_enter Tryz.func76,Tryz.ntmps76
   go_upto_region 1 with(rw[←o.out])
   refine region_fr 6 (by kernel_rfl) (by kernel_rfl) ?_;simp only[List.take_succ_cons,List.take_zero,List.drop_succ_cons,List.drop_zero]
   repeat(go_big_quiet_step ((with_reducible exact calls_fr (AG.out _ (grown_fr _ _ _)))))
   refine wpQuiet_nil ?_;intro wC fC;go_wp2_with fail;refine(px_str T1 (H1.out.quiet fC) (by omega)).mono ?_;rintro e w2 ⟨rfl,h2,f2⟩;have r2:=Zk (f2.heap (fC.heap HB.out (fun x=>x)) (fun x=>x (.inr c.out)));have H2:=hid h2;have F2:=hid ((Pxn.of F1.out).trans ((Pxn.of fC).trans f2 (fun _ _ x=>x)) (fun _ _ x=>x));have j:=hid (f2.heap (fC.heap HB.out (fun x=>x)) (fun x=>x (.inr c.out)));clear h2 f2 fC r1;have n:=r2 w2 (Fr.refl _ _);go_wp2_with fail;refine(px_byte 33 33 (by decide) rfl H2.out (by simp only[List.length_append,List.length_cons,List.length_nil];omega)).mono ?_;rintro e w9 ⟨rfl,h9,f9⟩;go_wp2;exact bodyPost_ret (results_none rfl _ _ _) rfl ⟨rfl,by simpa using h9.less d.out,Pxn.less (F2.out.trans f9 (fun _ _ x=>x)) d.out⟩
 ·have t1:(gb.kind !=0)=true:=by simpa using k0
  rw[if_neg k0];clear k0;cases l
  ·go_enter Tryz.func76,Tryz.ntmps76
   go_upto_region 1 with(rw[←o.out])
   refine region_fr 6 (by kernel_rfl) (by kernel_rfl) ?_;simp only[List.take_succ_cons,List.take_zero,List.drop_succ_cons,List.drop_zero]
   repeat(go_big_quiet_step ((with_reducible exact calls_fr (AG.out _ (grown_fr _ _ _)))))
   refine wpQuiet_nil ?_;intro wC fC;go_wp2_with fail;refine(px_str T1 (H1.out.quiet fC) (by omega)).mono ?_;rintro e w2 ⟨rfl,h2,f2⟩;have r2:=Zk (f2.heap (fC.heap HB.out (fun x=>x)) (fun x=>x (.inr c.out)));have H2:=hid h2;have F2:=hid ((Pxn.of F1.out).trans ((Pxn.of fC).trans f2 (fun _ _ x=>x)) (fun _ _ x=>x));have j:=hid (f2.heap (fC.heap HB.out (fun x=>x)) (fun x=>x (.inr c.out)));clear h2 f2 fC r1;have n:=r2 w2 (Fr.refl _ _)
   go_upto_region 3 with(fail)
   clear n;have ab:=fun(W:World) (f:Fr nob w2 W)=>q.out W (H2.out.fr.trans' f);have AB:=hid ab;clear ab;refine region_fr 7 (by kernel_rfl) (by kernel_rfl) ?_;simp only[List.take_succ_cons,List.take_zero,List.drop_succ_cons,List.drop_zero]
   repeat(go_big_quiet_step ((with_reducible exact calls_fr (AB.out _ (grown_fr _ _ _)))))
   refine wpQuiet_nil ?_;intro wD fD;go_wp2_with fail;refine(px_str (44::T2) (H2.out.quiet fD) (by simp only[List.length_append,List.length_cons];omega)).mono ?_;rintro e w3 ⟨rfl,h3,f3⟩;have r3:=Zk (f3.heap (fD.heap j.out (fun x=>x)) (fun x=>x (.inr c.out))) w3 (Fr.refl _ _);have H3:=hid h3;have F3:=hid (F2.out.trans ((Pxn.of fD).trans f3 (fun _ _ x=>x)) (fun _ _ x=>x));clear h3 f3 fD r2;go_wp2;exact bodyPost_ret (results_none rfl _ _ _) rfl ⟨rfl,by simpa using H3.out.less d.out,Pxn.less F3.out d.out⟩
  ·go_enter Tryz.func76,Tryz.ntmps76
   go_upto_region 1 with(rw[←o.out])
   refine region_fr 6 (by kernel_rfl) (by kernel_rfl) ?_;simp only[List.take_succ_cons,List.take_zero,List.drop_succ_cons,List.drop_zero]
   repeat(go_big_quiet_step ((with_reducible exact calls_fr (AG.out _ (grown_fr _ _ _)))))
   refine wpQuiet_nil ?_;intro wC fC;go_wp2_with fail;refine(px_str T1 (H1.out.quiet fC) (by omega)).mono ?_;rintro e w2 ⟨rfl,h2,f2⟩;have r2:=Zk (f2.heap (fC.heap HB.out (fun x=>x)) (fun x=>x (.inr c.out)));have H2:=hid h2;have F2:=hid ((Pxn.of F1.out).trans ((Pxn.of fC).trans f2 (fun _ _ x=>x)) (fun _ _ x=>x));have j:=hid (f2.heap (fC.heap HB.out (fun x=>x)) (fun x=>x (.inr c.out)));clear h2 f2 fC r1;have n:=r2 w2 (Fr.refl _ _)
   go_upto_region 3 with(fail)
   clear n;have ab:=fun(W:World) (f:Fr nob w2 W)=>q.out W (H2.out.fr.trans' f);have AB:=hid ab;clear ab;refine region_fr 7 (by kernel_rfl) (by kernel_rfl) ?_;simp only[List.take_succ_cons,List.take_zero,List.drop_succ_cons,List.drop_zero]
   repeat(go_big_quiet_step ((with_reducible exact calls_fr (AB.out _ (grown_fr _ _ _)))))
   refine wpQuiet_nil ?_;intro wD fD;go_wp2_with fail;refine(px_str (44::T2) (H2.out.quiet fD) (by simp only[List.length_append,List.length_cons];omega)).mono ?_;rintro e w3 ⟨rfl,h3,f3⟩;have r3:=Zk (f3.heap (fD.heap j.out (fun x=>x)) (fun x=>x (.inr c.out))) w3 (Fr.refl _ _);have H3:=hid h3;have F3:=hid (F2.out.trans ((Pxn.of fD).trans f3 (fun _ _ x=>x)) (fun _ _ x=>x));clear h3 f3 fD r2;go_wp2_with fail;refine(px_byte 33 33 (by decide) rfl H3.out (by simp only[List.length_append,List.length_cons,List.length_nil];omega)).mono ?_;rintro e w9 ⟨rfl,h9,f9⟩;go_wp2;exact bodyPost_ret (results_none rfl _ _ _) rfl ⟨rfl,by simpa using h9.less d.out,Pxn.less (F3.out.trans f9 (fun _ _ x=>x)) d.out⟩
end
def Zc2(S:Nat→Prop)(w:World)(c:CV)(v:Value):Prop:=
 ∃u1 u2 u pv,v=.agg (cmd20 c.at_ (.int .i64 c.guard.a.kind) (.int .i64 c.guard.a.line) (.string ⟨c.guard.a.text.toArray⟩) u1 (.int .i64 c.guard.b.kind) (.int .i64 c.guard.b.line) (.string ⟨c.guard.b.text.toArray⟩) u2 (.bool c.guard.no) c.name c.arg c.sub u pv c.table)∧
  RN S w c.guard.a.tree u1∧RN S w c.guard.b.tree u2∧RN S w c.sub.tree u∧PrO S w c.sub.parts pv
theorem Zc2.keep{S S' X:Nat→Prop}{w w':World}{c:CV}{v:Value}(h:Zc2 S w c v)(f:Fr X w w')(hX:∀k,X k→S k)(hS:∀k,k<w.heap.size→S' k→S k):Zc2 S' w' c v:=by
 obtain⟨u1,u2,u,pv,rfl,r1,r2,r3,p⟩:=h;exact⟨u1,u2,u,pv,rfl,RN.keep f (fun k _ e=>hX k e) hS _ _ r1,RN.keep f (fun k _ e=>hX k e) hS _ _ r2,RN.keep f (fun k _ e=>hX k e) hS _ _ r3,p.keep f hX hS⟩
theorem Zc2.on{S:Nat→Prop}{w w':World}{c:CV}{v:Value}(h:Zc2 S w c v)(f:Fr nob w w'):Zc2 S w' c v:=h.keep f (fun _ x=>x.elim) (fun _ _ x=>x)
theorem Zc2.any{S:Nat→Prop}{w:World}{c:CV}{v:Value}(h:Zc2 S w c v):Zc2 nob w c v:=h.keep (Fr.refl nob w) (fun _ x=>x.elim) (fun _ _ x=>x.elim)
def CmV(b:Nat)(l:List UInt8)(x:Bool)(S O:Nat→Prop)(w:World)(R:CV×AdS)(r:Ending)(w':World):Prop:=
 ∃v S',r=.returned v∧Zc2 (SO S' O) w' R.1 v∧CRd b l x R.2 S' w'∧Stp S w S' w'
theorem ZgR.val{b:Nat}{l:List UInt8}{x:Bool}{S O:Nat→Prop}{w:World}{R:CV×AdS}{r:Ending}{w':World}(h:ZgR b l x S O w R r w'):CmV b l x S O w R r w':=by
 obtain⟨u1,u2,u,pv,S',rfl,r1,r2,r3,p,hr,st⟩:=h;exact⟨_,S',rfl,⟨u1,u2,u,pv,rfl,r1,r2,r3,p⟩,hr,st⟩
theorem ZeQ(b:Nat)(l:List UInt8)(x:BF)(s:AdS)(S O:Nat→Prop)(g:GV)(v:Value)(w:World)(hl:l.length≤99000)(ha:s.at_≤l.length)(hm:s.marks.length≤90000)(hS:∀k,S k→k<w.heap.size)(hO:∀k,O k→k<w.heap.size)(W0:World)(hE:Env W0)(hW:Fr nob W0 w)(hSW:∀k,S k→W0.heap.size≤k)(h:CRd b l x s S w)(he:s.e=0)(hv:Zni (SO S O) w g v):
 Calls Tryz.prog 30 #[.pointer (some ⟨b,0,none⟩),v] w (CmV b l x S O w (ZbY x l g s)):=by
 obtain⟨u1,u2,rfl,a,c⟩:=hv;have o1:u1.oneCell'=true:=by rcases a.shape with rfl|⟨i,y,rfl⟩<;>rfl
 have o2:u2.oneCell'=true:=by rcases c.shape with rfl|⟨i,y,rfl⟩<;>rfl
 refine Calls.mono ?_ (fun _ _ h=>ZgR.val h);by_cases ho:l.length≤s.at_
 ·rw[show ZbY x l g s=(CV.zero,failC s 5 l.length)from if_pos ho];exact Zll o1 o2 b l x s S O g w hl ha hm hS hO W0 hE hW hSW h ho
 ·exact ZsB o1 o2 b l x s S O g w hl ha hm hS hO W0 hE hW hSW h (by omega) he a c
theorem Zp1(ms:List Prt)(k:Nat)(hk:k<ms.length):(pC ms)[k*2]? =some (.int .i64 ms[k].1)∧(pC ms)[k*2+1]? =some (.string ⟨ms[k].2.toArray⟩):=by
 induction ms generalizing k with
 |nil=>simp at hk
 |cons m r ih=>
  have e:pC (m::r)=.int .i64 m.1:: .string ⟨m.2.toArray⟩::pC r:=rfl;cases k with
  |zero=>rw[e];exact⟨rfl,rfl⟩
  |succ k=>
   rw[e,show(k+1)*2=k*2+2 by omega];simp only[List.length_cons]at hk;exact ih k (by omega)
theorem OwP.get{w:World}{ms:List Prt}{v:Value}(h:OwP w ms v){k:Nat}(hk:k<ms.length):
 ∃g cap,v=.slice (some ⟨g,0,none⟩) ms.length cap∧g<w.heap.size∧w.cell? ⟨g,k*2,none⟩=some (.int .i64 ms[k].1)∧w.cell? ⟨g,k*2+1,none⟩=some (.string ⟨ms[k].2.toArray⟩):=by
 have hl:=Zcd ms;unfold OwP at h;obtain⟨a,c,rfl⟩:=Zb h;rcases h.2 with⟨e,hn⟩|⟨r,cap,b,e,_,hr,_⟩
 ·omega
 ·injection e with e1 e2 e3;subst e1;exact⟨r,c,rfl,lt_heap hr,(h.cellAt (k*2) (by omega)).trans (Zp1 ms k hk).1,(h.cellAt (k*2+1) (by omega)).trans (Zp1 ms k hk).2⟩
def CV.few(a:CV):Prop:=a.guard.a.tree.size≤3000000∧a.guard.b.tree.size≤3000000∧a.sub.tree.size≤3000000∧a.sub.parts.length≤1000000
end Go.Proofs.YtkfddjopbocpkaaGreatDoor
