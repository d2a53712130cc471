/- Lemmas of this claim. -/
import Derived.Test.YtkfddjopbocpkaaGreatDoorN31
set_option linter.unusedVariables false
set_option linter.unusedSimpArgs false
set_option maxRecDepth 100000
set_option maxHeartbeats 4000000
namespace Go.Proofs.YtkfddjopbocpkaaGreatDoor
open Go.Lib (hid)
open Go.RowKit
abbrev zC:Array Value:= #[.int .i64 0,.int .i64 0,.int .i64 0,.string ⟨#[]⟩,.nilIface,.int .i64 0,.int .i64 0,.string ⟨#[]⟩,.nilIface,.bool false,.int .u8 0,.string ⟨#[]⟩,.string ⟨#[]⟩,.nilIface,.slice none 0 0,.int .i64 0,.bool false,.bool false,.string ⟨#[]⟩,.string ⟨#[]⟩]
theorem ZcH{fn:Func}{p t u v:Tmp}(h:fn.results= #[.cell p 35,.tmp t,.tmp u,.tmp v]){tmps:Array Value}{r:Nat}(ht:tmps.getD p undef=.pointer (some ⟨r,0,none⟩)){W:World}{cs:Array Value}(hc:cs.size=20)
 (hb:W.heap[r]? =some (.cells cs 35 (0,0))):
 (results fn tmps).run Tryz.prog W=.ok (.tuple #[.agg cs,tmps.getD t undef,tmps.getD u undef,tmps.getD v undef]) W:=by
 have a:tmps[p]?.getD undef=.pointer (some ⟨r,0,none⟩):=by simpa using ht
 have hi:(Tryz.prog.info? 35).map (·.size)=some cs.size:=by rw[hc];exact info_C
 simp[results,h,a,asAddr,run_loadVar_row W r 35 35 cs (0,0) _ hb Tryz.underlying35 rfl hi]
def ZpZ(O0:Nat→Prop)(R:Zqc)(w:World)(e:Ending)(w':World):Prop:=Fr nob w w'∧match R with
 | .inl (z,p)=>e=.returned (.tuple #[.agg zC,.slice none 0 0,.int .i64 (p:Nat),.int .i64 z])
 | .inr (c,s)=>∃v mv,e=.returned (.tuple #[v,mv,.int .i64 (s.at_:Nat),.int .i64 0])∧Zc2 O0 w' c v∧OwM w' s.marks mv∧∀k,mv.ownBlock=some k→w.heap.size≤k
def OW(O0:Nat→Prop)(n:Nat):Nat→Prop:=fun k=>k=n∨O0 k
attribute [-go_sem] storeVar
theorem ZjA(l:List UInt8)(p:Nat)(x:BF)(w:World)(hl:l.length≤20000)(hp:p≤l.length)(hE:Env w)(z:Int)(q:Nat)(hR:ZX x l ⟨p,[],0⟩=.inl (z,q)):
 Calls Tryz.prog 14 #[.string ⟨l.toArray⟩,.int .i64 (p:Nat),.bool x] w fun e w'=>e=.returned (.tuple #[.agg zC,.slice none 0 0,.int .i64 (q:Nat),.int .i64 z])∧Fr nob w w':=by
 have c:¬z=0:=guardD_err hR;have h:(z==0)=false:=by simpa using c
 have i:(z !=0)=true:=by simpa using c
 obtain⟨w1,a⟩:∃w1,w1=w.alloc (.cells zC 35):=⟨_,rfl⟩;have f1:Fr nob w w1:=by rw[a];exact(Fr.refl _ _).alloc _
 have hz:w1.heap[w.heap.size]? =some (.cells zC 35 (0,0)):=by rw[a];exact newAt _ _
 have g:w1.heap.size=w.heap.size+1:=by rw[a];simp
 have HG:=hid (Zlk l p x w1 (by omega) hp (hE.on f1) z q hR);have d:=hid a;have F1:=hid f1;have Z1:=hid hz;clear a f1 hz g hR hE;go_enter Tryz.func14,Tryz.ntmps14;go_wp2_with(rw[←d.out]);refine HG.out.mono ?_;rintro e w2 ⟨rfl,f2⟩;obtain⟨w3,b⟩:∃w3,w3=(w2.alloc (.cells zG 30)).setRow w2.heap.size zG:=⟨_,rfl⟩;obtain⟨_,f3,_⟩:=ZaM w2 zG zG 30;rw[←b]at f3;have f:=hid b;have F3:=hid (F1.out.trans' (f2.trans' f3));have Z3:=hid (f3.heap (f2.heap Z1.out (fun x=>x)) (fun x=>x));clear b f3 f2;go_wp2_with(first|rw[←f.out]|refine wpList_store_row rfl 30 _ _ rfl w2.heap.size zG rfl rfl 30 zG (newAt _ _) info_Gd rfl (by kernel_rfl) ?_|refine wpList_store_row rfl 35 _ _ rfl w.heap.size zC rfl rfl 35 _ Z3.out info_C rfl (by kernel_rfl) ?_);rw[setRow_self _ _ _ _ _ Z3.out];(try simp only[Exit.inBlock,Exit.then]);exact bodyPost_ret (ZcH rfl rfl rfl Z3.out) rfl ⟨rfl,F3.out⟩
theorem B5.row{w:World}{b k:Nat}{v0 v1 v2 v3 v4:Value}(h:B5 w b v0 v1 v2 v3 v4)(hb:k≠b)(cs:Array Value):B5 (w.setRow k cs) b v0 v1 v2 v3 v4:=by
 obtain⟨a0,a1,a2,a3,a4⟩:=h;have nb:∀{j:Nat} {v:Value},w.cell? ⟨b,j,none⟩=some v→(w.setRow k cs).cell? ⟨b,j,none⟩=some v:=fun q=>(ZN w k cs).cell q (fun e=>hb e.symm);exact⟨nb a0,nb a1,nb a2,nb a3,nb a4⟩
theorem ZjB(l:List UInt8)(p:Nat)(x:BF)(w:World)(hl:l.length≤20000)(hp:p≤l.length)(hE:Env w)(O0:Nat→Prop)(hO0:∀k,O0 k→k<w.heap.size)(gv:GV)(q:Nat)(ms:List (Nat×List UInt8))(hR:ZX x l ⟨p,[],0⟩=.inr (gv,⟨q,ms,0⟩))(c:CV)(s:AdS)(hC:ZbY x l gv ⟨q,ms,0⟩=(c,s))(he:¬s.e=0):
 Calls Tryz.prog 14 #[.string ⟨l.toArray⟩,.int .i64 (p:Nat),.bool x] w fun e w'=>e=.returned (.tuple #[.agg zC,.slice none 0 0,.int .i64 (s.at_:Nat),.int .i64 s.e])∧Fr nob w w':=by
 have b5:(s.e==0)=false:=by simpa using he
 obtain⟨w1,g⟩:∃w1,w1=w.alloc (.cells zC 35):=⟨_,rfl⟩;have f1:Fr nob w w1:=by rw[g];exact(Fr.refl _ _).alloc _
 have hz:w1.heap[w.heap.size]? =some (.cells zC 35 (0,0)):=by rw[g];exact newAt _ _
 have n:w1.heap.size=w.heap.size+1:=by rw[g];simp
 have hq:q≤l.length:=guardD_le (s:=⟨p,[],0⟩) hp rfl hR;have c3:ms.length≤2*l.length+2:=guardD_mk hp hR;have HG:=hid (ZgQ l p x w1 (by omega) hp (hE.on f1) gv q ms hR (OW O0 w.heap.size) (fun k hk=>by rcases hk with hk|hk;(·omega);(·have:=hO0 k hk;omega)));have a5:=hid g;have F1:=hid f1;have Z1:=hid hz;have M:=hid n;clear g f1 hz n hR;go_enter Tryz.func14,Tryz.ntmps14;go_wp2_with(rw[←a5.out]);refine HG.out.mono ?_;rintro e w2 ⟨v,mv,rfl,b4,E,f2,T,B,C,u1,u2,rfl,J,K⟩;clear b4;obtain⟨ma,mc,rfl⟩:=Zb E;obtain⟨w3,F⟩:∃w3,w3=(w2.alloc (.cells zG 30)).setRow w2.heap.size (gcell gv u1 u2):=⟨_,rfl⟩;obtain⟨G,f3,W⟩:=ZaM w2 zG (gcell gv u1 u2) 30;rw[←F]at G f3 W;obtain⟨w4,j⟩:∃w4,w4=w3.alloc (.cells #[.string ⟨l.toArray⟩,.int .i64 (q:Nat),.bool x,.slice ma ms.length mc,.int .i64 0] 79):=⟨_,rfl⟩;have f4:Fr nob w3 w4:=by rw[j];exact(Fr.refl _ _).alloc _
 have b6:w4.heap.size=w3.heap.size+1:=by rw[j];simp
 have Q:w4.heap[w3.heap.size]? =some (.cells #[.string ⟨l.toArray⟩,.int .i64 (q:Nat),.bool x,.slice ma ms.length mc,.int .i64 0] 79 (0,0)):=by rw[j];exact newAt _ _
 have H:=f4.heap G (fun x=>x);have z:Fr nob w w4:=F1.out.trans' (f2.trans' (f3.trans' f4));have b7:w1.heap.size≤w2.heap.size:=f2.size;have P:CRd w3.heap.size l x ⟨q,ms,0⟩ (fun k=>k=w3.heap.size∨T k) w4:=⟨_,⟨Q,ownsRow_fr E (f3.trans' f4) (fun _ _ x=>x),fun k hk=>⟨by have:=(C k (B k hk)).2;omega,.inr (B k hk)⟩,.inl rfl⟩⟩;have A:∀k,k<w2.heap.size→SO (fun k=>k=w3.heap.size∨T k) (OW O0 w.heap.size) k→SO T (OW O0 w.heap.size) k:=fun k hk e=>by
  rcases e with(e|e)|e
  ·omega
  ·exact .inl e
  ·exact .inr e
 have f:∀k,(k=w3.heap.size∨T k)→w1.heap.size≤k∧k<w4.heap.size:=fun k hk=>by
  rcases hk with hk|hk
  ·omega
  ·have:=C k hk;omega
 have n:=M.out;have HC:=hid (ZeQ w3.heap.size l x ⟨q,ms,0⟩ (fun k=>k=w3.heap.size∨T k) (OW O0 w.heap.size) gv _ w4 (by omega) hq (by show ms.length≤90000;omega) (fun k hk=>(f k hk).2) (fun k hk=>by rcases hk with hk|hk;(·omega);(·have:=hO0 k hk;omega)) w hE z (fun k hk=>by have:=(f k hk).1;omega) P rfl
  ⟨u1,u2,rfl,RN.keep (f3.trans' f4) (fun _ _ x=>x.elim) A _ _ J,RN.keep (f3.trans' f4) (fun _ _ x=>x.elim) A _ _ K⟩)
 have X:¬(w.heap.size=w3.heap.size∨T w.heap.size):=fun e=>by have:=(f _ e).1;omega
 have rz:=Zk H;have b1:=hid H;have a6:=hid F;have a7:=hid j;have a0:=hid z;have b2:=hid (f4.heap (f3.heap (f2.heap Z1.out (fun x=>x)) (fun x=>x)) (fun x=>x));have N:=hid f;have t:=hid X;have a2:=hid (show w.heap.size<w4.heap.size by omega);have o1:u1.oneCell'=true:=by rcases J.shape with rfl|⟨i,y,rfl⟩<;>rfl
 have o2:u2.oneCell'=true:=by rcases K.shape with rfl|⟨i,y,rfl⟩<;>rfl
 clear F j z f2 f3 f4 G H Q P A f B C E J K W b6 b7 n X;rw[hC]at HC;have oG:(gcell gv u1 u2).all (·.oneCell')=true:=Array.all_eq_true_iff_forall_mem.2 (by intro v hv;simp only[List.mem_toArray,List.mem_cons,List.not_mem_nil,or_false]at hv;rcases hv with h|h|h|h|h|h|h|h|h<;>(subst h;first|rfl|assumption));go_wp2_with(first|rw[←a6.out]|rw[←a7.out]|refine wpList_load_row rfl 30 _ rfl w2.heap.size rfl 30 (gcell gv u1 u2) (0,0) _ b1.out Tryz.underlying30 rfl info_Gd ?_|refine wpList_store_row rfl 30 _ _ rfl w2.heap.size (gcell gv u1 u2) rfl rfl 30 zG (newAt _ _) info_Gd rfl oG ?_);refine HC.out.mono ?_;rintro e w5 ⟨v,S',rfl,⟨u3,u4,u,pv,rfl,r1,r2,r3,po⟩,D,st⟩;simp only at r1 r2 r3 po D;have o3:u3.oneCell'=true:=by rcases r1.shape with rfl|⟨i,y,rfl⟩<;>rfl
 have o4:u4.oneCell'=true:=by rcases r2.shape with rfl|⟨i,y,rfl⟩<;>rfl
 have o5:u.oneCell'=true:=by rcases r3.shape with rfl|⟨i,y,rfl⟩<;>rfl
 have o6:pv.oneCell'=true:=by obtain⟨a9,c9,rfl⟩:=Zb po.1;rfl
 have Y:=st.fr.heap b2.out t.out;have R:∀k,S' k→k<w5.heap.size:=st.lt (fun k hk=>(N.out k hk).2);have U:¬S' w.heap.size:=fun e=>t.out (st.old _ a2.out e);obtain⟨w6,o⟩:∃w6,w6=w5.alloc (.cells zC 35):=⟨_,rfl⟩;have f6:Fr nob w5 w6:=by rw[o];exact(Fr.refl _ _).alloc _
 have I:w6.heap[w5.heap.size]? =some (.cells zC 35 (0,0)):=by rw[o];exact newAt _ _
 obtain⟨w7,r⟩:∃w7,w7=w6.setRow w5.heap.size (cmd20 c.at_ (.int .i64 c.guard.a.kind) (.int .i64 c.guard.a.line) (.string ⟨c.guard.a.text.toArray⟩) u3 (.int .i64 c.guard.b.kind) (.int .i64 c.guard.b.line) (.string ⟨c.guard.b.text.toArray⟩) u4 (.bool c.guard.no) c.name c.arg c.sub u pv c.table):=⟨_,rfl⟩;have O:Fr (fun k=>k=w5.heap.size) w6 w7:=by rw[r];exact ZN _ _ _
 have f7:Fr nob w5 w7:=f6.trans O (fun i hi e=>by have e:i=w5.heap.size:=e;omega);have Z:w7.heap[w5.heap.size]? =some (.cells (cmd20 c.at_ (.int .i64 c.guard.a.kind) (.int .i64 c.guard.a.line) (.string ⟨c.guard.a.text.toArray⟩) u3 (.int .i64 c.guard.b.kind) (.int .i64 c.guard.b.line) (.string ⟨c.guard.b.text.toArray⟩) u4 (.bool c.guard.no) c.name c.arg c.sub u pv c.table) 35 (0,0)):=by rw[r];exact setRow_heap _ _ _ _ _ _ I
 have V:=D.on f7;have a8:=hid o;have b0:=hid r;have Z6:=hid I;have F7:=hid f7;have Z7:=hid Z;have ST:=hid st;have ZW:=hid (f7.heap Y (fun x=>x));have L:=hid V;have c0:=hid R;have c2:=hid U;have a1:=hid (Zc2.on (S:=SO S' (OW O0 w.heap.size)) (c:=c) ⟨u3,u4,u,pv,rfl,r1,r2,r3,po⟩ f7);clear o r I Z f6 O f7 st Y V D R U r1 r2 r3 po rz;go_wp2_with(first|rw[←a8.out]|refine wpList_store_row rfl 35 _ _ rfl w5.heap.size (cmd20 c.at_ (.int .i64 c.guard.a.kind) (.int .i64 c.guard.a.line) (.string ⟨c.guard.a.text.toArray⟩) u3 (.int .i64 c.guard.b.kind) (.int .i64 c.guard.b.line) (.string ⟨c.guard.b.text.toArray⟩) u4 (.bool c.guard.no) c.name c.arg c.sub u pv c.table) rfl rfl 35 _ Z6.out info_C rfl (Array.all_eq_true_iff_forall_mem.2 (by intro v hv;simp only[List.mem_toArray,List.mem_cons,List.not_mem_nil,or_false]at hv;rcases hv with h|h|h|h|h|h|h|h|h|h|h|h|h|h|h|h|h|h|h|h<;>(subst h;first|rfl|assumption))) ?_|rw[←b0.out])
 refine(cm_ok w3.heap.size l x _ S' w7 L.out).mono ?_;rintro e w8 ⟨rfl,f8⟩;have a4:=hid (L.out.on f8);have Z8:=hid (f8.heap Z7.out (fun x=>x));have d:=hid (f8.heap ZW.out (fun x=>x));have F8:=hid (F7.out.trans' f8);have b9:=hid (a1.out.on f8);clear f8;obtain⟨b8,m⟩:=a4.out;have c1:=hid m;have c4:w.heap.size≠w3.heap.size:=fun e=>t.out (.inl e);have HQ:=hid (B5.of m.blk);have a3:=hid (B5.drew (B5.of m.blk));clear m;rw[b5];have e1:Sem.run Tryz.prog (storeVar 35 ⟨w.heap.size,0,none⟩ (.agg zC)) w8=.ok () w8:=by
  have h:=run_storeVar_row w8 w.heap.size 35 35 zC zC d.out info_C rfl (by kernel_rfl);rw[setRow_self _ _ _ _ _ d.out]at h;exact h
 have e2:Sem.run Tryz.prog (storeVar 35 ⟨w.heap.size,0,none⟩ (.agg zC)) w8.drew=.ok () w8.drew:=by
  have h:=run_storeVar_row w8.drew w.heap.size 35 35 zC zC (Zq d.out) info_C rfl (by kernel_rfl);rw[setRow_self _ _ _ _ _ (Zq d.out)]at h;exact h
 go_wp2_with fail
 go_region_held3 (fun w'=>B5 w' w3.heap.size (.string ⟨l.toArray⟩) (.int .i64 (s.at_:Nat)) (.bool x) b8 (.int .i64 s.e)) (repeat(first|(with_reducible exact HQ.out)|(with_reducible exact a3.out)|(with_reducible refine B5.drew ?_))) (first|(rw[e1])|(rw[e2]))
 all_goals
  have b3:=hid (Zq d.out);have FF:=hid (show Fr nob w w8.drew from(Stp.from (ST.out.trans (Stp.of F8.out)) a0.out (fun k hk=>by have:=(N.out k hk).1;have:=M.out;omega)).drew);clear e1 e2;go_wp2;(try simp only[Exit.inBlock,Exit.then]);exact bodyPost_ret (ZcH rfl rfl rfl b3.out) rfl ⟨rfl,FF.out⟩
theorem BL.mk{W:World}{b g:Nat}{v0 v1 v2 v3 v4:Value}{cs:Array Value}(h:B5 W b v0 v1 v2 v3 v4)(hg:W.heap[g]? =some (.cells cs 35 (0,0)))(hc:cs.size=20):
 B5 W b v0 v1 v2 v3 v4∧W.heap[g]? =some (.cells cs 35 (0,0))∧Sem.run Tryz.prog (loadVar 35 ⟨g,0,none⟩) W=.ok (.agg cs) W:=
 ⟨h,hg,run_loadVar_row W g 35 35 cs (0,0) _ hg Tryz.underlying35 rfl (by rw[hc];exact info_C)⟩
theorem BL.row{W:World}{b g k:Nat}{v0 v1 v2 v3 v4:Value}{cs:Array Value}(h:B5 W b v0 v1 v2 v3 v4∧W.heap[g]? =some (.cells cs 35 (0,0))∧Sem.run Tryz.prog (loadVar 35 ⟨g,0,none⟩) W=.ok (.agg cs) W)(hc:cs.size=20)(hb:k≠b)(hk:k≠g)(ds:Array Value):
 B5 (W.setRow k ds) b v0 v1 v2 v3 v4∧(W.setRow k ds).heap[g]? =some (.cells cs 35 (0,0))∧Sem.run Tryz.prog (loadVar 35 ⟨g,0,none⟩) (W.setRow k ds)=.ok (.agg cs) (W.setRow k ds):=
 BL.mk (h.1.row hb ds) (by rw[setRow_other W k g ds (Ne.symm hk)];exact h.2.1) hc
theorem BL.drew{W:World}{b g:Nat}{v0 v1 v2 v3 v4:Value}{cs:Array Value}(h:B5 W b v0 v1 v2 v3 v4∧W.heap[g]? =some (.cells cs 35 (0,0))∧Sem.run Tryz.prog (loadVar 35 ⟨g,0,none⟩) W=.ok (.agg cs) W)(hc:cs.size=20):
 B5 W.drew b v0 v1 v2 v3 v4∧W.drew.heap[g]? =some (.cells cs 35 (0,0))∧Sem.run Tryz.prog (loadVar 35 ⟨g,0,none⟩) W.drew=.ok (.agg cs) W.drew:=
 BL.mk (B5.drew h.1) (Zq h.2.1) hc
theorem Zlo{w:World}{b j:Nat}(hc:(w.cell? ⟨b,j,none⟩).isSome=true):Sem.run Tryz.prog (loadVar 3 ⟨b,j,none⟩) w=.ok ((w.cell? ⟨b,j,none⟩).getD undef) w:=by
 obtain⟨old,ho⟩:=Option.isSome_iff_exists.1 hc;simp[go_sem,ho]
theorem Zlp{w:World}{b j:Nat}(hc:(w.cell? ⟨b,j,none⟩).isSome=true):Sem.run Tryz.prog (loadVar 36 ⟨b,j,none⟩) w=.ok ((w.cell? ⟨b,j,none⟩).getD undef) w:=by
 obtain⟨old,ho⟩:=Option.isSome_iff_exists.1 hc;simp[go_sem,ho]
attribute [go_sem] Zlo Zlp
attribute [-go_sem] loadVar
theorem Zlq(l:List UInt8)(p:Nat)(x:BF)(w:World)(hl:l.length≤20000)(hp:p≤l.length)(hE:Env w)(O0:Nat→Prop)(hO0:∀k,O0 k→k<w.heap.size)(gv:GV)(q:Nat)(ms:List (Nat×List UInt8))(hR:ZX x l ⟨p,[],0⟩=.inr (gv,⟨q,ms,0⟩))(c:CV)(s:AdS)(hC:ZbY x l gv ⟨q,ms,0⟩=(c,s))(he:s.e=0):
 Calls Tryz.prog 14 #[.string ⟨l.toArray⟩,.int .i64 (p:Nat),.bool x] w fun e w'=>∃v mv,e=.returned (.tuple #[v,mv,.int .i64 (s.at_:Nat),.int .i64 0])∧Zc2 O0 w' c v∧OwM w' s.marks mv∧(∀k,mv.ownBlock=some k→w.heap.size≤k)∧Fr nob w w':=by
 have c3:(s.e==0)=true:=by simpa using he
 obtain⟨w1,g⟩:∃w1,w1=w.alloc (.cells zC 35):=⟨_,rfl⟩;have f1:Fr nob w w1:=by rw[g];exact(Fr.refl _ _).alloc _
 have hz:w1.heap[w.heap.size]? =some (.cells zC 35 (0,0)):=by rw[g];exact newAt _ _
 have n:w1.heap.size=w.heap.size+1:=by rw[g];simp
 have hq:q≤l.length:=guardD_le (s:=⟨p,[],0⟩) hp rfl hR;have d2:ms.length≤2*l.length+2:=guardD_mk hp hR;have HG:=hid (ZgQ l p x w1 (by omega) hp (hE.on f1) gv q ms hR (OW O0 w.heap.size) (fun k hk=>by rcases hk with hk|hk;(·omega);(·have:=hO0 k hk;omega)));have b4:=hid g;have F1:=hid f1;have Z1:=hid hz;have B:=hid n;clear g f1 hz n hR;go_enter Tryz.func14,Tryz.ntmps14;go_wp2_with(rw[←b4.out]);refine HG.out.mono ?_;rintro e w2 ⟨v,mv,rfl,c2,K,f2,T,H,I,u1,u2,rfl,R,U⟩;clear c2;obtain⟨ma,mc,rfl⟩:=Zb K;obtain⟨w3,L⟩:∃w3,w3=(w2.alloc (.cells zG 30)).setRow w2.heap.size (gcell gv u1 u2):=⟨_,rfl⟩;obtain⟨M,f3,a2⟩:=ZaM w2 zG (gcell gv u1 u2) 30;rw[←L]at M f3 a2;obtain⟨w4,j⟩:∃w4,w4=w3.alloc (.cells #[.string ⟨l.toArray⟩,.int .i64 (q:Nat),.bool x,.slice ma ms.length mc,.int .i64 0] 79):=⟨_,rfl⟩;have f4:Fr nob w3 w4:=by rw[j];exact(Fr.refl _ _).alloc _
 have c6:w4.heap.size=w3.heap.size+1:=by rw[j];simp
 have Y:w4.heap[w3.heap.size]? =some (.cells #[.string ⟨l.toArray⟩,.int .i64 (q:Nat),.bool x,.slice ma ms.length mc,.int .i64 0] 79 (0,0)):=by rw[j];exact newAt _ _
 have N:=f4.heap M (fun x=>x);have F:Fr nob w w4:=F1.out.trans' (f2.trans' (f3.trans' f4));have c7:w1.heap.size≤w2.heap.size:=f2.size;have X:CRd w3.heap.size l x ⟨q,ms,0⟩ (fun k=>k=w3.heap.size∨T k) w4:=⟨_,⟨Y,ownsRow_fr K (f3.trans' f4) (fun _ _ x=>x),fun k hk=>⟨by have:=(I k (H k hk)).2;omega,.inr (H k hk)⟩,.inl rfl⟩⟩;have G:∀k,k<w2.heap.size→SO (fun k=>k=w3.heap.size∨T k) (OW O0 w.heap.size) k→SO T (OW O0 w.heap.size) k:=fun k hk e=>by
  rcases e with(e|e)|e
  ·omega
  ·exact .inl e
  ·exact .inr e
 have d:∀k,(k=w3.heap.size∨T k)→w1.heap.size≤k∧k<w4.heap.size:=fun k hk=>by
  rcases hk with hk|hk
  ·omega
  ·have:=I k hk;omega
 have n:=B.out;have HC:=hid (ZeQ w3.heap.size l x ⟨q,ms,0⟩ (fun k=>k=w3.heap.size∨T k) (OW O0 w.heap.size) gv _ w4 (by omega) hq (by show ms.length≤90000;omega) (fun k hk=>(d k hk).2) (fun k hk=>by rcases hk with hk|hk;(·omega);(·have:=hO0 k hk;omega)) w hE F (fun k hk=>by have:=(d k hk).1;omega) X rfl
  ⟨u1,u2,rfl,RN.keep (f3.trans' f4) (fun _ _ x=>x.elim) G _ _ R,RN.keep (f3.trans' f4) (fun _ _ x=>x.elim) G _ _ U⟩)
 have a3:¬(w.heap.size=w3.heap.size∨T w.heap.size):=fun e=>by have:=(d _ e).1;omega
 have rz:=Zk N;have b9:=hid N;have b5:=hid L;have b6:=hid j;have b0:=hid F;have c1:=hid (f4.heap (f3.heap (f2.heap Z1.out (fun x=>x)) (fun x=>x)) (fun x=>x));have C:=hid d;have D:=hid a3;have A:=hid (show w.heap.size<w4.heap.size by omega);have o1:u1.oneCell'=true:=by rcases R.shape with rfl|⟨i,y,rfl⟩<;>rfl
 have o2:u2.oneCell'=true:=by rcases U.shape with rfl|⟨i,y,rfl⟩<;>rfl
 clear L j F f2 f3 f4 M N Y X G d H I K R U a2 c6 c7 n a3;rw[hC]at HC;have oG:(gcell gv u1 u2).all (·.oneCell')=true:=Array.all_eq_true_iff_forall_mem.2 (by intro v hv;simp only[List.mem_toArray,List.mem_cons,List.not_mem_nil,or_false]at hv;rcases hv with h|h|h|h|h|h|h|h|h<;>(subst h;first|rfl|assumption));go_wp2_with(first|rw[←b5.out]|rw[←b6.out]|refine wpList_load_row rfl 30 _ rfl w2.heap.size rfl 30 (gcell gv u1 u2) (0,0) _ b9.out Tryz.underlying30 rfl info_Gd ?_|refine wpList_store_row rfl 30 _ _ rfl w2.heap.size (gcell gv u1 u2) rfl rfl 30 zG (newAt _ _) info_Gd rfl oG ?_);refine HC.out.mono ?_;rintro e w5 ⟨v,S',rfl,⟨u3,u4,u,pv,rfl,r1,r2,r3,po⟩,J,st⟩;simp only at r1 r2 r3 po J;have o3:u3.oneCell'=true:=by rcases r1.shape with rfl|⟨i,y,rfl⟩<;>rfl
 have o4:u4.oneCell'=true:=by rcases r2.shape with rfl|⟨i,y,rfl⟩<;>rfl
 have o5:u.oneCell'=true:=by rcases r3.shape with rfl|⟨i,y,rfl⟩<;>rfl
 have o6:pv.oneCell'=true:=by obtain⟨a9,c9,rfl⟩:=Zb po.1;rfl
 have a4:=st.fr.heap c1.out D.out;have Z:∀k,S' k→k<w5.heap.size:=st.lt (fun k hk=>(C.out k hk).2);have a0:¬S' w.heap.size:=fun e=>D.out (st.old _ A.out e);obtain⟨w6,o⟩:∃w6,w6=w5.alloc (.cells zC 35):=⟨_,rfl⟩;have f6:Fr nob w5 w6:=by rw[o];exact(Fr.refl _ _).alloc _
 have O:w6.heap[w5.heap.size]? =some (.cells zC 35 (0,0)):=by rw[o];exact newAt _ _
 obtain⟨w7,r⟩:∃w7,w7=w6.setRow w5.heap.size (cmd20 c.at_ (.int .i64 c.guard.a.kind) (.int .i64 c.guard.a.line) (.string ⟨c.guard.a.text.toArray⟩) u3 (.int .i64 c.guard.b.kind) (.int .i64 c.guard.b.line) (.string ⟨c.guard.b.text.toArray⟩) u4 (.bool c.guard.no) c.name c.arg c.sub u pv c.table):=⟨_,rfl⟩;have W:Fr (fun k=>k=w5.heap.size) w6 w7:=by rw[r];exact ZN _ _ _
 have f7:Fr nob w5 w7:=f6.trans W (fun i hi e=>by have e:i=w5.heap.size:=e;omega);have a5:w7.heap[w5.heap.size]? =some (.cells (cmd20 c.at_ (.int .i64 c.guard.a.kind) (.int .i64 c.guard.a.line) (.string ⟨c.guard.a.text.toArray⟩) u3 (.int .i64 c.guard.b.kind) (.int .i64 c.guard.b.line) (.string ⟨c.guard.b.text.toArray⟩) u4 (.bool c.guard.no) c.name c.arg c.sub u pv c.table) 35 (0,0)):=by rw[r];exact setRow_heap _ _ _ _ _ _ O
 have a1:=J.on f7;have b7:=hid o;have b8:=hid r;have Z6:=hid O;have F7:=hid f7;have Z7:=hid a5;have ST:=hid st;have ZW:=hid (f7.heap a4 (fun x=>x));have V:=hid a1;have d0:=hid Z;have b2:=hid a0;have b1:=hid (Zc2.on (S:=SO S' (OW O0 w.heap.size)) (c:=c) ⟨u3,u4,u,pv,rfl,r1,r2,r3,po⟩ f7);clear o r O a5 f6 W f7 st a4 a1 J Z a0 r1 r2 r3 po rz;go_wp2_with(first|rw[←b7.out]|refine wpList_store_row rfl 35 _ _ rfl w5.heap.size (cmd20 c.at_ (.int .i64 c.guard.a.kind) (.int .i64 c.guard.a.line) (.string ⟨c.guard.a.text.toArray⟩) u3 (.int .i64 c.guard.b.kind) (.int .i64 c.guard.b.line) (.string ⟨c.guard.b.text.toArray⟩) u4 (.bool c.guard.no) c.name c.arg c.sub u pv c.table) rfl rfl 35 _ Z6.out info_C rfl (Array.all_eq_true_iff_forall_mem.2 (by intro v hv;simp only[List.mem_toArray,List.mem_cons,List.not_mem_nil,or_false]at hv;rcases hv with h|h|h|h|h|h|h|h|h|h|h|h|h|h|h|h|h|h|h|h<;>(subst h;first|rfl|assumption))) ?_|rw[←b8.out])
 refine(cm_ok w3.heap.size l x _ S' w7 V.out).mono ?_;rintro e w8 ⟨rfl,f8⟩;have b3:=hid (V.out.on f8);have Z8:=hid (f8.heap Z7.out (fun x=>x));have E:=hid (f8.heap ZW.out (fun x=>x));have F8:=hid (F7.out.trans' f8);have a7:=hid (b1.out.on f8);clear f8;obtain⟨d3,f⟩:=b3.out;have z:=hid f;have c8:w.heap.size≠w3.heap.size:=fun e=>D.out (.inl e);have HQ:=hid (B5.of f.blk);have d1:=hid (B5.drew (B5.of f.blk));rw[c3];obtain⟨P,Q,rfl⟩:=Zb f.ma;clear f;have e1:Sem.run Tryz.prog (storeVar 35 ⟨w.heap.size,0,none⟩ (.agg (cmd20 c.at_ (.int .i64 c.guard.a.kind) (.int .i64 c.guard.a.line) (.string ⟨c.guard.a.text.toArray⟩) u3 (.int .i64 c.guard.b.kind) (.int .i64 c.guard.b.line) (.string ⟨c.guard.b.text.toArray⟩) u4 (.bool c.guard.no) c.name c.arg c.sub u pv c.table))) w8=.ok () (w8.setRow w.heap.size (cmd20 c.at_ (.int .i64 c.guard.a.kind) (.int .i64 c.guard.a.line) (.string ⟨c.guard.a.text.toArray⟩) u3 (.int .i64 c.guard.b.kind) (.int .i64 c.guard.b.line) (.string ⟨c.guard.b.text.toArray⟩) u4 (.bool c.guard.no) c.name c.arg c.sub u pv c.table)):=
  run_storeVar_row w8 w.heap.size 35 35 _ _ E.out info_C rfl (Array.all_eq_true_iff_forall_mem.2 (by intro v hv;simp only[List.mem_toArray,List.mem_cons,List.not_mem_nil,or_false]at hv;rcases hv with h|h|h|h|h|h|h|h|h|h|h|h|h|h|h|h|h|h|h|h<;>(subst h;first|rfl|assumption)))
 have e2:Sem.run Tryz.prog (storeVar 35 ⟨w.heap.size,0,none⟩ (.agg (cmd20 c.at_ (.int .i64 c.guard.a.kind) (.int .i64 c.guard.a.line) (.string ⟨c.guard.a.text.toArray⟩) u3 (.int .i64 c.guard.b.kind) (.int .i64 c.guard.b.line) (.string ⟨c.guard.b.text.toArray⟩) u4 (.bool c.guard.no) c.name c.arg c.sub u pv c.table))) w8.drew=.ok () (w8.drew.setRow w.heap.size (cmd20 c.at_ (.int .i64 c.guard.a.kind) (.int .i64 c.guard.a.line) (.string ⟨c.guard.a.text.toArray⟩) u3 (.int .i64 c.guard.b.kind) (.int .i64 c.guard.b.line) (.string ⟨c.guard.b.text.toArray⟩) u4 (.bool c.guard.no) c.name c.arg c.sub u pv c.table)):=
  run_storeVar_row w8.drew w.heap.size 35 35 _ _ (Zq E.out) info_C rfl (Array.all_eq_true_iff_forall_mem.2 (by intro v hv;simp only[List.mem_toArray,List.mem_cons,List.not_mem_nil,or_false]at hv;rcases hv with h|h|h|h|h|h|h|h|h|h|h|h|h|h|h|h|h|h|h|h<;>(subst h;first|rfl|assumption)))
 have c4:w.heap.size≠w5.heap.size:=by have:=A.out;have:=ST.out.fr.size;omega
 have HL:=hid (BL.mk HQ.out Z8.out rfl);go_wp2_with fail
 go_region_held3 (fun w'=>B5 w' w3.heap.size (.string ⟨l.toArray⟩) (.int .i64 (s.at_:Nat)) (.bool x) (.slice P s.marks.length Q) (.int .i64 s.e)∧w'.heap[w5.heap.size]? =some (.cells (cmd20 c.at_ (.int .i64 c.guard.a.kind) (.int .i64 c.guard.a.line) (.string ⟨c.guard.a.text.toArray⟩) u3 (.int .i64 c.guard.b.kind) (.int .i64 c.guard.b.line) (.string ⟨c.guard.b.text.toArray⟩) u4 (.bool c.guard.no) c.name c.arg c.sub u pv c.table) 35 (0,0))∧Sem.run Tryz.prog (loadVar 35 ⟨w5.heap.size,0,none⟩) w'=.ok (.agg (cmd20 c.at_ (.int .i64 c.guard.a.kind) (.int .i64 c.guard.a.line) (.string ⟨c.guard.a.text.toArray⟩) u3 (.int .i64 c.guard.b.kind) (.int .i64 c.guard.b.line) (.string ⟨c.guard.b.text.toArray⟩) u4 (.bool c.guard.no) c.name c.arg c.sub u pv c.table)) w') (repeat(first|(with_reducible exact HL.out)|(with_reducible refine BL.row ?_ rfl c8 c4 _)|(with_reducible refine BL.drew ?_ rfl))) (first|(rw[e1])|(rw[e2]))
 all_goals
  obtain⟨w9,t⟩:∃w9,w9=w8.drew.setRow w.heap.size (cmd20 c.at_ (.int .i64 c.guard.a.kind) (.int .i64 c.guard.a.line) (.string ⟨c.guard.a.text.toArray⟩) u3 (.int .i64 c.guard.b.kind) (.int .i64 c.guard.b.line) (.string ⟨c.guard.b.text.toArray⟩) u4 (.bool c.guard.no) c.name c.arg c.sub u pv c.table):=⟨_,rfl⟩;rw[←t];have m:Fr (fun k=>k=w.heap.size) w8 w9:=by rw[t];exact((Fr.refl (fun k=>k=w.heap.size) w8).drew).trans (ZN _ _ _) (fun _ _ e=>e)
  have a6:w9.heap[w.heap.size]? =some (.cells (cmd20 c.at_ (.int .i64 c.guard.a.kind) (.int .i64 c.guard.a.line) (.string ⟨c.guard.a.text.toArray⟩) u3 (.int .i64 c.guard.b.kind) (.int .i64 c.guard.b.line) (.string ⟨c.guard.b.text.toArray⟩) u4 (.bool c.guard.no) c.name c.arg c.sub u pv c.table) 35 (0,0)):=by rw[t];exact setRow_heap _ _ _ _ _ _ (Zq E.out)
  have Z9:=hid a6;have FF:=hid (show Fr nob w w9 from(Stp.from (ST.out.trans (Stp.of F8.out)) b0.out (fun k hk=>by have:=(C.out k hk).1;have:=B.out;omega)).trans m (fun i hi e=>by have e:i=w.heap.size:=e;omega));have a8:=hid (a7.out.keep (S':=O0) m (fun k hk=>.inr (.inl hk)) (fun k _ hk=>.inr (.inr hk)));have c0:=hid (show OwM w9 s.marks (.slice P s.marks.length Q)from ownsRow_fr z.out.ma m (fun k hk e=>by have e:k=w.heap.size:=e;exact b2.out (e▸(z.out.nm k hk).2)));have NB:=hid (show∀k,(Value.slice P s.marks.length Q).ownBlock=some k→w.heap.size≤k from fun k hk=>by
   by_cases c5:k<w4.heap.size
   ·have:=(C.out k (ST.out.old k c5 (z.out.nm k hk).2)).1;have:=B.out;omega
   ·have:=A.out;omega)
  clear e1 e2 t m a6;go_wp2;(try simp only[Exit.inBlock,Exit.then]);exact bodyPost_ret (ZcH rfl rfl rfl Z9.out) rfl ⟨_,_,rfl,a8.out,c0.out,NB.out,FF.out⟩
theorem Zlr(O0:Nat→Prop)(l:List UInt8)(p:Nat)(x:BF)(w:World)(hl:l.length≤20000)(hp:p≤l.length)(hE:Env w)(hO0:∀k,O0 k→k<w.heap.size):
 Calls Tryz.prog 14 #[.string ⟨l.toArray⟩,.int .i64 (p:Nat),.bool x] w (ZpZ O0 (Zeu x l p) w):=by
 unfold Zeu;cases hR:ZX x l ⟨p,[],0⟩with
 |inl z=>
  obtain⟨z,q⟩:=z;exact(ZjA l p x w hl hp hE z q hR).mono fun e w' h=>⟨h.2,h.1⟩
 |inr z=>
  obtain⟨gv,q,ms,e⟩:=z;obtain rfl:e=0:=guardD_ok hR;simp only;obtain⟨C,hC⟩:∃C,ZbY x l gv ⟨q,ms,0⟩=C:=⟨_,rfl⟩;obtain⟨c,s⟩:=C;rw[hC];simp only;by_cases he:s.e=0
  ·rw[if_neg (fun h=>h he)];exact(Zlq l p x w hl hp hE O0 hO0 gv q ms hR c s hC he).mono fun e w' ⟨v,mv,h1,h2,h3,h4,h5⟩=>⟨h5,v,mv,h1,h2,h3,h4⟩
  ·rw[if_pos he];exact(ZjB l p x w hl hp hE O0 hO0 gv q ms hR c s hC he).mono fun e w' h=>⟨h.2,h.1⟩
end Go.Proofs.YtkfddjopbocpkaaGreatDoor
