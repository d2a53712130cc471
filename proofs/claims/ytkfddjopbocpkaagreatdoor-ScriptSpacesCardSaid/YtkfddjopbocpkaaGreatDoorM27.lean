/- Lemmas of this claim. -/
import Derived.Test.YtkfddjopbocpkaaGreatDoorM26
set_option linter.unusedVariables false
set_option linter.unusedSimpArgs false
set_option maxRecDepth 100000
set_option maxHeartbeats 4000000
namespace Go.Proofs.YtkfddjopbocpkaaGreatDoor
open Go.Lib (hid)
open Go.RowKit
abbrev zC:Array Value:= #[.int .i64 0,.int .i64 0,.int .i64 0,.string ⟨#[]⟩,.nilIface,.int .i64 0,.int .i64 0,.string ⟨#[]⟩,.nilIface,.bool false,.int .u8 0,.string ⟨#[]⟩,.string ⟨#[]⟩,.nilIface,.slice none 0 0,.int .i64 0,.bool false,.bool false,.string ⟨#[]⟩,.string ⟨#[]⟩]
theorem ZcH{fn:Func}{p t u v:Tmp}(h:fn.results= #[.cell p 35,.tmp t,.tmp u,.tmp v]){tmps:Array Value}{r:Nat}(ht:tmps.getD p undef=.pointer (some ⟨r,0,none⟩)){W:World}{cs:Array Value}(hc:cs.size=20)
 (hb:W.heap[r]? =some (.cells cs 35 (0,0))):
 (results fn tmps).run Tryz.prog W=.ok (.tuple #[.agg cs,tmps.getD t undef,tmps.getD u undef,tmps.getD v undef]) W:=by
 have hp':tmps[p]?.getD undef=.pointer (some ⟨r,0,none⟩):=by simpa using ht
 have hi:(Tryz.prog.info? 35).map (·.size)=some cs.size:=by rw[hc];exact info_C
 simp[results,h,hp',asAddr,run_loadVar_row W r 35 35 cs (0,0) _ hb Tryz.underlying35 rfl hi]
def ZpZ(O0:Nat→Prop)(R:Zqc)(w:World)(e:Ending)(w':World):Prop:=Fr nob w w'∧match R with
 | .inl (z,p)=>e=.returned (.tuple #[.agg zC,.slice none 0 0,.int .i64 (p:Nat),.int .i64 z])
 | .inr (c,s)=>∃v mv,e=.returned (.tuple #[v,mv,.int .i64 (s.at_:Nat),.int .i64 0])∧Zc2 O0 w' c v∧OwM w' s.marks mv∧∀k,mv.ownBlock=some k→w.heap.size≤k
def OW(O0:Nat→Prop)(n:Nat):Nat→Prop:=fun k=>k=n∨O0 k
attribute [-go_sem] storeVar
theorem ZjA(l:List UInt8)(p:Nat)(x:Bool)(w:World)(hl:l.length≤20000)(hp:p≤l.length)(hE:Env w)(z:Int)(q:Nat)(hR:ZX x l ⟨p,[],0⟩=.inl (z,q)):
 Calls Tryz.prog 14 #[.string ⟨l.toArray⟩,.int .i64 (p:Nat),.bool x] w fun e w'=>e=.returned (.tuple #[.agg zC,.slice none 0 0,.int .i64 (q:Nat),.int .i64 z])∧Fr nob w w':=by
 have hz0:¬z=0:=guardD_err hR;have hz1:(z==0)=false:=by simpa using hz0
 have hz2:(z !=0)=true:=by simpa using hz0
 obtain⟨w1,hw1⟩:∃w1,w1=w.alloc (.cells zC 35):=⟨_,rfl⟩;have f1:Fr nob w w1:=by rw[hw1];exact(Fr.refl _ _).alloc _
 have hz:w1.heap[w.heap.size]? =some (.cells zC 35 (0,0)):=by rw[hw1];exact newAt _ _
 have hs1:w1.heap.size=w.heap.size+1:=by rw[hw1];simp
 have HG:=hid (Zlk l p x w1 (by omega) hp (hE.on f1) z q hR);have HW1:=hid hw1;have F1:=hid f1;have Z1:=hid hz;clear hw1 f1 hz hs1 hR hE;go_enter Tryz.func14,Tryz.ntmps14;go_wp2_with(rw[←HW1.out]);refine HG.out.mono ?_;rintro e w2 ⟨rfl,f2⟩;obtain⟨w3,hw3⟩:∃w3,w3=(w2.alloc (.cells zG 30)).setRow w2.heap.size zG:=⟨_,rfl⟩;obtain⟨_,f3,_⟩:=ZaM w2 zG zG 30;rw[←hw3]at f3;have HW3:=hid hw3;have F3:=hid (F1.out.trans' (f2.trans' f3));have Z3:=hid (f3.heap (f2.heap Z1.out (fun x=>x)) (fun x=>x));clear hw3 f3 f2;go_wp2_with(first|rw[←HW3.out]|refine wpList_store_row rfl 30 _ _ rfl w2.heap.size zG rfl rfl 30 zG (newAt _ _) info_Gd rfl (by kernel_rfl) ?_|refine wpList_store_row rfl 35 _ _ rfl w.heap.size zC rfl rfl 35 _ Z3.out info_C rfl (by kernel_rfl) ?_);rw[setRow_self _ _ _ _ _ Z3.out];(try simp only[Exit.inBlock,Exit.then]);exact bodyPost_ret (ZcH rfl rfl rfl Z3.out) rfl ⟨rfl,F3.out⟩
theorem B5.row{w:World}{b k:Nat}{v0 v1 v2 v3 v4:Value}(h:B5 w b v0 v1 v2 v3 v4)(hb:k≠b)(cs:Array Value):B5 (w.setRow k cs) b v0 v1 v2 v3 v4:=by
 obtain⟨a0,a1,a2,a3,a4⟩:=h;have nb:∀{j:Nat} {v:Value},w.cell? ⟨b,j,none⟩=some v→(w.setRow k cs).cell? ⟨b,j,none⟩=some v:=fun q=>(ZN w k cs).cell q (fun e=>hb e.symm);exact⟨nb a0,nb a1,nb a2,nb a3,nb a4⟩
theorem ZjB(l:List UInt8)(p:Nat)(x:Bool)(w:World)(hl:l.length≤20000)(hp:p≤l.length)(hE:Env w)(O0:Nat→Prop)(hO0:∀k,O0 k→k<w.heap.size)(gv:GV)(q:Nat)(ms:List (Nat×List UInt8))(hR:ZX x l ⟨p,[],0⟩=.inr (gv,⟨q,ms,0⟩))(c:CV)(s:AdS)(hC:ZbY x l gv ⟨q,ms,0⟩=(c,s))(he:¬s.e=0):
 Calls Tryz.prog 14 #[.string ⟨l.toArray⟩,.int .i64 (p:Nat),.bool x] w fun e w'=>e=.returned (.tuple #[.agg zC,.slice none 0 0,.int .i64 (s.at_:Nat),.int .i64 s.e])∧Fr nob w w':=by
 have he1:(s.e==0)=false:=by simpa using he
 obtain⟨w1,hw1⟩:∃w1,w1=w.alloc (.cells zC 35):=⟨_,rfl⟩;have f1:Fr nob w w1:=by rw[hw1];exact(Fr.refl _ _).alloc _
 have hz:w1.heap[w.heap.size]? =some (.cells zC 35 (0,0)):=by rw[hw1];exact newAt _ _
 have hs1:w1.heap.size=w.heap.size+1:=by rw[hw1];simp
 have hq:q≤l.length:=guardD_le (s:=⟨p,[],0⟩) hp rfl hR;have hms:ms.length≤2*l.length+2:=guardD_mk hp hR;have HG:=hid (ZgQ l p x w1 (by omega) hp (hE.on f1) gv q ms hR (OW O0 w.heap.size) (fun k hk=>by rcases hk with hk|hk;(·omega);(·have:=hO0 k hk;omega)));have HW1:=hid hw1;have F1:=hid f1;have Z1:=hid hz;have HS1:=hid hs1;clear hw1 f1 hz hs1 hR;go_enter Tryz.func14,Tryz.ntmps14;go_wp2_with(rw[←HW1.out]);refine HG.out.mono ?_;rintro e w2 ⟨v,mv,rfl,gv0,hma,f2,T,hT1,hT2,u1,u2,rfl,rn1,rn2⟩;clear gv0;obtain⟨ma,mc,rfl⟩:=Zb hma;obtain⟨w3,hw3⟩:∃w3,w3=(w2.alloc (.cells zG 30)).setRow w2.heap.size (gcell gv u1 u2):=⟨_,rfl⟩;obtain⟨hz3,f3,hs3⟩:=ZaM w2 zG (gcell gv u1 u2) 30;rw[←hw3]at hz3 f3 hs3;obtain⟨w4,hw4⟩:∃w4,w4=w3.alloc (.cells #[.string ⟨l.toArray⟩,.int .i64 (q:Nat),.bool x,.slice ma ms.length mc,.int .i64 0] 79):=⟨_,rfl⟩;have f4:Fr nob w3 w4:=by rw[hw4];exact(Fr.refl _ _).alloc _
 have hs4:w4.heap.size=w3.heap.size+1:=by rw[hw4];simp
 have hb4:w4.heap[w3.heap.size]? =some (.cells #[.string ⟨l.toArray⟩,.int .i64 (q:Nat),.bool x,.slice ma ms.length mc,.int .i64 0] 79 (0,0)):=by rw[hw4];exact newAt _ _
 have hz4:=f4.heap hz3 (fun x=>x);have f14:Fr nob w w4:=F1.out.trans' (f2.trans' (f3.trans' f4));have hsz:w1.heap.size≤w2.heap.size:=f2.size;have hCR:CRd w3.heap.size l x ⟨q,ms,0⟩ (fun k=>k=w3.heap.size∨T k) w4:=⟨_,⟨hb4,ownsRow_fr hma (f3.trans' f4) (fun _ _ x=>x),fun k hk=>⟨by have:=(hT2 k (hT1 k hk)).2;omega,.inr (hT1 k hk)⟩,.inl rfl⟩⟩;have hSm:∀k,k<w2.heap.size→SO (fun k=>k=w3.heap.size∨T k) (OW O0 w.heap.size) k→SO T (OW O0 w.heap.size) k:=fun k hk e=>by
  rcases e with(e|e)|e
  ·omega
  ·exact .inl e
  ·exact .inr e
 have hSl:∀k,(k=w3.heap.size∨T k)→w1.heap.size≤k∧k<w4.heap.size:=fun k hk=>by
  rcases hk with hk|hk
  ·omega
  ·have:=hT2 k hk;omega
 have hs1:=HS1.out;have HC:=hid (ZeQ w3.heap.size l x ⟨q,ms,0⟩ (fun k=>k=w3.heap.size∨T k) (OW O0 w.heap.size) gv _ w4 (by omega) hq (by show ms.length≤90000;omega) (fun k hk=>(hSl k hk).2) (fun k hk=>by rcases hk with hk|hk;(·omega);(·have:=hO0 k hk;omega)) w hE f14 (fun k hk=>by have:=(hSl k hk).1;omega) hCR rfl
  ⟨u1,u2,rfl,RN.keep (f3.trans' f4) (fun _ _ x=>x.elim) hSm _ _ rn1,RN.keep (f3.trans' f4) (fun _ _ x=>x.elim) hSm _ _ rn2⟩)
 have hw0:¬(w.heap.size=w3.heap.size∨T w.heap.size):=fun e=>by have:=(hSl _ e).1;omega
 have rz:=Zk hz4;have HZG:=hid hz4;have HW3:=hid hw3;have HW4:=hid hw4;have F14:=hid f14;have Z14:=hid (f4.heap (f3.heap (f2.heap Z1.out (fun x=>x)) (fun x=>x)) (fun x=>x));have HSL:=hid hSl;have HW0:=hid hw0;have HNW:=hid (show w.heap.size<w4.heap.size by omega);have o1:u1.oneCell'=true:=by rcases rn1.shape with rfl|⟨i,y,rfl⟩<;>rfl
 have o2:u2.oneCell'=true:=by rcases rn2.shape with rfl|⟨i,y,rfl⟩<;>rfl
 clear hw3 hw4 f14 f2 f3 f4 hz3 hz4 hb4 hCR hSm hSl hT1 hT2 hma rn1 rn2 hs3 hs4 hsz hs1 hw0;rw[hC]at HC;have oG:(gcell gv u1 u2).all (·.oneCell')=true:=Array.all_eq_true_iff_forall_mem.2 (by intro v hv;simp only[List.mem_toArray,List.mem_cons,List.not_mem_nil,or_false]at hv;rcases hv with h|h|h|h|h|h|h|h|h<;>(subst h;first|rfl|assumption));go_wp2_with(first|rw[←HW3.out]|rw[←HW4.out]|refine wpList_load_row rfl 30 _ rfl w2.heap.size rfl 30 (gcell gv u1 u2) (0,0) _ HZG.out Tryz.underlying30 rfl info_Gd ?_|refine wpList_store_row rfl 30 _ _ rfl w2.heap.size (gcell gv u1 u2) rfl rfl 30 zG (newAt _ _) info_Gd rfl oG ?_);refine HC.out.mono ?_;rintro e w5 ⟨v,S',rfl,⟨u3,u4,u,pv,rfl,r1,r2,r3,po⟩,hcr,st⟩;simp only at r1 r2 r3 po hcr;have o3:u3.oneCell'=true:=by rcases r1.shape with rfl|⟨i,y,rfl⟩<;>rfl
 have o4:u4.oneCell'=true:=by rcases r2.shape with rfl|⟨i,y,rfl⟩<;>rfl
 have o5:u.oneCell'=true:=by rcases r3.shape with rfl|⟨i,y,rfl⟩<;>rfl
 have o6:pv.oneCell'=true:=by obtain⟨a9,c9,rfl⟩:=Zb po.1;rfl
 have hz5:=st.fr.heap Z14.out HW0.out;have hl5:∀k,S' k→k<w5.heap.size:=st.lt (fun k hk=>(HSL.out k hk).2);have hn5:¬S' w.heap.size:=fun e=>HW0.out (st.old _ HNW.out e);obtain⟨w6,hw6⟩:∃w6,w6=w5.alloc (.cells zC 35):=⟨_,rfl⟩;have f6:Fr nob w5 w6:=by rw[hw6];exact(Fr.refl _ _).alloc _
 have hz6:w6.heap[w5.heap.size]? =some (.cells zC 35 (0,0)):=by rw[hw6];exact newAt _ _
 obtain⟨w7,hw7⟩:∃w7,w7=w6.setRow w5.heap.size (cmd20 c.at_ (.int .i64 c.guard.a.kind) (.int .i64 c.guard.a.line) (.string ⟨c.guard.a.text.toArray⟩) u3 (.int .i64 c.guard.b.kind) (.int .i64 c.guard.b.line) (.string ⟨c.guard.b.text.toArray⟩) u4 (.bool c.guard.no) c.name c.arg c.sub u pv c.table):=⟨_,rfl⟩;have f67:Fr (fun k=>k=w5.heap.size) w6 w7:=by rw[hw7];exact ZN _ _ _
 have f7:Fr nob w5 w7:=f6.trans f67 (fun i hi e=>by have e:i=w5.heap.size:=e;omega);have hz7:w7.heap[w5.heap.size]? =some (.cells (cmd20 c.at_ (.int .i64 c.guard.a.kind) (.int .i64 c.guard.a.line) (.string ⟨c.guard.a.text.toArray⟩) u3 (.int .i64 c.guard.b.kind) (.int .i64 c.guard.b.line) (.string ⟨c.guard.b.text.toArray⟩) u4 (.bool c.guard.no) c.name c.arg c.sub u pv c.table) 35 (0,0)):=by rw[hw7];exact setRow_heap _ _ _ _ _ _ hz6
 have hr7:=hcr.on f7;have HW6:=hid hw6;have HW7:=hid hw7;have Z6:=hid hz6;have F7:=hid f7;have Z7:=hid hz7;have ST:=hid st;have ZW:=hid (f7.heap hz5 (fun x=>x));have HR7:=hid hr7;have HL5:=hid hl5;have HN5:=hid hn5;have HCV:=hid (Zc2.on (S:=SO S' (OW O0 w.heap.size)) (c:=c) ⟨u3,u4,u,pv,rfl,r1,r2,r3,po⟩ f7);clear hw6 hw7 hz6 hz7 f6 f67 f7 st hz5 hr7 hcr hl5 hn5 r1 r2 r3 po rz;go_wp2_with(first|rw[←HW6.out]|refine wpList_store_row rfl 35 _ _ rfl w5.heap.size (cmd20 c.at_ (.int .i64 c.guard.a.kind) (.int .i64 c.guard.a.line) (.string ⟨c.guard.a.text.toArray⟩) u3 (.int .i64 c.guard.b.kind) (.int .i64 c.guard.b.line) (.string ⟨c.guard.b.text.toArray⟩) u4 (.bool c.guard.no) c.name c.arg c.sub u pv c.table) rfl rfl 35 _ Z6.out info_C rfl (Array.all_eq_true_iff_forall_mem.2 (by intro v hv;simp only[List.mem_toArray,List.mem_cons,List.not_mem_nil,or_false]at hv;rcases hv with h|h|h|h|h|h|h|h|h|h|h|h|h|h|h|h|h|h|h|h<;>(subst h;first|rfl|assumption))) ?_|rw[←HW7.out])
 refine(cm_ok w3.heap.size l x _ S' w7 HR7.out).mono ?_;rintro e w8 ⟨rfl,f8⟩;have HR8:=hid (HR7.out.on f8);have Z8:=hid (f8.heap Z7.out (fun x=>x));have ZW8:=hid (f8.heap ZW.out (fun x=>x));have F8:=hid (F7.out.trans' f8);have CV8:=hid (HCV.out.on f8);clear f8;obtain⟨mv8,hm8⟩:=HR8.out;have HM8:=hid hm8;have hwb:w.heap.size≠w3.heap.size:=fun e=>HW0.out (.inl e);have HQ:=hid (B5.of hm8.blk);have HQd:=hid (B5.drew (B5.of hm8.blk));clear hm8;rw[he1];have e1:Sem.run Tryz.prog (storeVar 35 ⟨w.heap.size,0,none⟩ (.agg zC)) w8=.ok () w8:=by
  have h:=run_storeVar_row w8 w.heap.size 35 35 zC zC ZW8.out info_C rfl (by kernel_rfl);rw[setRow_self _ _ _ _ _ ZW8.out]at h;exact h
 have e2:Sem.run Tryz.prog (storeVar 35 ⟨w.heap.size,0,none⟩ (.agg zC)) w8.drew=.ok () w8.drew:=by
  have h:=run_storeVar_row w8.drew w.heap.size 35 35 zC zC (Zq ZW8.out) info_C rfl (by kernel_rfl);rw[setRow_self _ _ _ _ _ (Zq ZW8.out)]at h;exact h
 go_wp2_with fail
 go_region_held3 (fun w'=>B5 w' w3.heap.size (.string ⟨l.toArray⟩) (.int .i64 (s.at_:Nat)) (.bool x) mv8 (.int .i64 s.e)) (repeat(first|(with_reducible exact HQ.out)|(with_reducible exact HQd.out)|(with_reducible refine B5.drew ?_))) (first|(rw[e1])|(rw[e2]))
 all_goals
  have ZWD:=hid (Zq ZW8.out);have FF:=hid (show Fr nob w w8.drew from(Stp.from (ST.out.trans (Stp.of F8.out)) F14.out (fun k hk=>by have:=(HSL.out k hk).1;have:=HS1.out;omega)).drew);clear e1 e2;go_wp2;(try simp only[Exit.inBlock,Exit.then]);exact bodyPost_ret (ZcH rfl rfl rfl ZWD.out) rfl ⟨rfl,FF.out⟩
theorem BL.mk{W:World}{b g:Nat}{v0 v1 v2 v3 v4:Value}{cs:Array Value}(h:B5 W b v0 v1 v2 v3 v4)(hg:W.heap[g]? =some (.cells cs 35 (0,0)))(hc:cs.size=20):
 B5 W b v0 v1 v2 v3 v4∧W.heap[g]? =some (.cells cs 35 (0,0))∧Sem.run Tryz.prog (loadVar 35 ⟨g,0,none⟩) W=.ok (.agg cs) W:=
 ⟨h,hg,run_loadVar_row W g 35 35 cs (0,0) _ hg Tryz.underlying35 rfl (by rw[hc];exact info_C)⟩
theorem BL.row{W:World}{b g k:Nat}{v0 v1 v2 v3 v4:Value}{cs:Array Value}(h:B5 W b v0 v1 v2 v3 v4∧W.heap[g]? =some (.cells cs 35 (0,0))∧Sem.run Tryz.prog (loadVar 35 ⟨g,0,none⟩) W=.ok (.agg cs) W)(hc:cs.size=20)(hb:k≠b)(hk:k≠g)(ds:Array Value):
 B5 (W.setRow k ds) b v0 v1 v2 v3 v4∧(W.setRow k ds).heap[g]? =some (.cells cs 35 (0,0))∧Sem.run Tryz.prog (loadVar 35 ⟨g,0,none⟩) (W.setRow k ds)=.ok (.agg cs) (W.setRow k ds):=
 BL.mk (h.1.row hb ds) (by rw[setRow_other W k g ds (Ne.symm hk)];exact h.2.1) hc
theorem BL.drew{W:World}{b g:Nat}{v0 v1 v2 v3 v4:Value}{cs:Array Value}(h:B5 W b v0 v1 v2 v3 v4∧W.heap[g]? =some (.cells cs 35 (0,0))∧Sem.run Tryz.prog (loadVar 35 ⟨g,0,none⟩) W=.ok (.agg cs) W)(hc:cs.size=20):
 B5 W.drew b v0 v1 v2 v3 v4∧W.drew.heap[g]? =some (.cells cs 35 (0,0))∧Sem.run Tryz.prog (loadVar 35 ⟨g,0,none⟩) W.drew=.ok (.agg cs) W.drew:=
 BL.mk (B5.drew h.1) (Zq h.2.1) hc
theorem Zlo{w:World}{b j:Nat}(hc:(w.cell? ⟨b,j,none⟩).isSome=true):Sem.run Tryz.prog (loadVar 3 ⟨b,j,none⟩) w=.ok ((w.cell? ⟨b,j,none⟩).getD undef) w:=by
 obtain⟨old,ho⟩:=Option.isSome_iff_exists.1 hc;simp[go_sem,ho]
theorem Zlp{w:World}{b j:Nat}(hc:(w.cell? ⟨b,j,none⟩).isSome=true):Sem.run Tryz.prog (loadVar 36 ⟨b,j,none⟩) w=.ok ((w.cell? ⟨b,j,none⟩).getD undef) w:=by
 obtain⟨old,ho⟩:=Option.isSome_iff_exists.1 hc;simp[go_sem,ho]
attribute [go_sem] Zlo Zlp
attribute [-go_sem] loadVar
theorem Zlq(l:List UInt8)(p:Nat)(x:Bool)(w:World)(hl:l.length≤20000)(hp:p≤l.length)(hE:Env w)(O0:Nat→Prop)(hO0:∀k,O0 k→k<w.heap.size)(gv:GV)(q:Nat)(ms:List (Nat×List UInt8))(hR:ZX x l ⟨p,[],0⟩=.inr (gv,⟨q,ms,0⟩))(c:CV)(s:AdS)(hC:ZbY x l gv ⟨q,ms,0⟩=(c,s))(he:s.e=0):
 Calls Tryz.prog 14 #[.string ⟨l.toArray⟩,.int .i64 (p:Nat),.bool x] w fun e w'=>∃v mv,e=.returned (.tuple #[v,mv,.int .i64 (s.at_:Nat),.int .i64 0])∧Zc2 O0 w' c v∧OwM w' s.marks mv∧(∀k,mv.ownBlock=some k→w.heap.size≤k)∧Fr nob w w':=by
 have he1:(s.e==0)=true:=by simpa using he
 obtain⟨w1,hw1⟩:∃w1,w1=w.alloc (.cells zC 35):=⟨_,rfl⟩;have f1:Fr nob w w1:=by rw[hw1];exact(Fr.refl _ _).alloc _
 have hz:w1.heap[w.heap.size]? =some (.cells zC 35 (0,0)):=by rw[hw1];exact newAt _ _
 have hs1:w1.heap.size=w.heap.size+1:=by rw[hw1];simp
 have hq:q≤l.length:=guardD_le (s:=⟨p,[],0⟩) hp rfl hR;have hms:ms.length≤2*l.length+2:=guardD_mk hp hR;have HG:=hid (ZgQ l p x w1 (by omega) hp (hE.on f1) gv q ms hR (OW O0 w.heap.size) (fun k hk=>by rcases hk with hk|hk;(·omega);(·have:=hO0 k hk;omega)));have HW1:=hid hw1;have F1:=hid f1;have Z1:=hid hz;have HS1:=hid hs1;clear hw1 f1 hz hs1 hR;go_enter Tryz.func14,Tryz.ntmps14;go_wp2_with(rw[←HW1.out]);refine HG.out.mono ?_;rintro e w2 ⟨v,mv,rfl,gv0,hma,f2,T,hT1,hT2,u1,u2,rfl,rn1,rn2⟩;clear gv0;obtain⟨ma,mc,rfl⟩:=Zb hma;obtain⟨w3,hw3⟩:∃w3,w3=(w2.alloc (.cells zG 30)).setRow w2.heap.size (gcell gv u1 u2):=⟨_,rfl⟩;obtain⟨hz3,f3,hs3⟩:=ZaM w2 zG (gcell gv u1 u2) 30;rw[←hw3]at hz3 f3 hs3;obtain⟨w4,hw4⟩:∃w4,w4=w3.alloc (.cells #[.string ⟨l.toArray⟩,.int .i64 (q:Nat),.bool x,.slice ma ms.length mc,.int .i64 0] 79):=⟨_,rfl⟩;have f4:Fr nob w3 w4:=by rw[hw4];exact(Fr.refl _ _).alloc _
 have hs4:w4.heap.size=w3.heap.size+1:=by rw[hw4];simp
 have hb4:w4.heap[w3.heap.size]? =some (.cells #[.string ⟨l.toArray⟩,.int .i64 (q:Nat),.bool x,.slice ma ms.length mc,.int .i64 0] 79 (0,0)):=by rw[hw4];exact newAt _ _
 have hz4:=f4.heap hz3 (fun x=>x);have f14:Fr nob w w4:=F1.out.trans' (f2.trans' (f3.trans' f4));have hsz:w1.heap.size≤w2.heap.size:=f2.size;have hCR:CRd w3.heap.size l x ⟨q,ms,0⟩ (fun k=>k=w3.heap.size∨T k) w4:=⟨_,⟨hb4,ownsRow_fr hma (f3.trans' f4) (fun _ _ x=>x),fun k hk=>⟨by have:=(hT2 k (hT1 k hk)).2;omega,.inr (hT1 k hk)⟩,.inl rfl⟩⟩;have hSm:∀k,k<w2.heap.size→SO (fun k=>k=w3.heap.size∨T k) (OW O0 w.heap.size) k→SO T (OW O0 w.heap.size) k:=fun k hk e=>by
  rcases e with(e|e)|e
  ·omega
  ·exact .inl e
  ·exact .inr e
 have hSl:∀k,(k=w3.heap.size∨T k)→w1.heap.size≤k∧k<w4.heap.size:=fun k hk=>by
  rcases hk with hk|hk
  ·omega
  ·have:=hT2 k hk;omega
 have hs1:=HS1.out;have HC:=hid (ZeQ w3.heap.size l x ⟨q,ms,0⟩ (fun k=>k=w3.heap.size∨T k) (OW O0 w.heap.size) gv _ w4 (by omega) hq (by show ms.length≤90000;omega) (fun k hk=>(hSl k hk).2) (fun k hk=>by rcases hk with hk|hk;(·omega);(·have:=hO0 k hk;omega)) w hE f14 (fun k hk=>by have:=(hSl k hk).1;omega) hCR rfl
  ⟨u1,u2,rfl,RN.keep (f3.trans' f4) (fun _ _ x=>x.elim) hSm _ _ rn1,RN.keep (f3.trans' f4) (fun _ _ x=>x.elim) hSm _ _ rn2⟩)
 have hw0:¬(w.heap.size=w3.heap.size∨T w.heap.size):=fun e=>by have:=(hSl _ e).1;omega
 have rz:=Zk hz4;have HZG:=hid hz4;have HW3:=hid hw3;have HW4:=hid hw4;have F14:=hid f14;have Z14:=hid (f4.heap (f3.heap (f2.heap Z1.out (fun x=>x)) (fun x=>x)) (fun x=>x));have HSL:=hid hSl;have HW0:=hid hw0;have HNW:=hid (show w.heap.size<w4.heap.size by omega);have o1:u1.oneCell'=true:=by rcases rn1.shape with rfl|⟨i,y,rfl⟩<;>rfl
 have o2:u2.oneCell'=true:=by rcases rn2.shape with rfl|⟨i,y,rfl⟩<;>rfl
 clear hw3 hw4 f14 f2 f3 f4 hz3 hz4 hb4 hCR hSm hSl hT1 hT2 hma rn1 rn2 hs3 hs4 hsz hs1 hw0;rw[hC]at HC;have oG:(gcell gv u1 u2).all (·.oneCell')=true:=Array.all_eq_true_iff_forall_mem.2 (by intro v hv;simp only[List.mem_toArray,List.mem_cons,List.not_mem_nil,or_false]at hv;rcases hv with h|h|h|h|h|h|h|h|h<;>(subst h;first|rfl|assumption));go_wp2_with(first|rw[←HW3.out]|rw[←HW4.out]|refine wpList_load_row rfl 30 _ rfl w2.heap.size rfl 30 (gcell gv u1 u2) (0,0) _ HZG.out Tryz.underlying30 rfl info_Gd ?_|refine wpList_store_row rfl 30 _ _ rfl w2.heap.size (gcell gv u1 u2) rfl rfl 30 zG (newAt _ _) info_Gd rfl oG ?_);refine HC.out.mono ?_;rintro e w5 ⟨v,S',rfl,⟨u3,u4,u,pv,rfl,r1,r2,r3,po⟩,hcr,st⟩;simp only at r1 r2 r3 po hcr;have o3:u3.oneCell'=true:=by rcases r1.shape with rfl|⟨i,y,rfl⟩<;>rfl
 have o4:u4.oneCell'=true:=by rcases r2.shape with rfl|⟨i,y,rfl⟩<;>rfl
 have o5:u.oneCell'=true:=by rcases r3.shape with rfl|⟨i,y,rfl⟩<;>rfl
 have o6:pv.oneCell'=true:=by obtain⟨a9,c9,rfl⟩:=Zb po.1;rfl
 have hz5:=st.fr.heap Z14.out HW0.out;have hl5:∀k,S' k→k<w5.heap.size:=st.lt (fun k hk=>(HSL.out k hk).2);have hn5:¬S' w.heap.size:=fun e=>HW0.out (st.old _ HNW.out e);obtain⟨w6,hw6⟩:∃w6,w6=w5.alloc (.cells zC 35):=⟨_,rfl⟩;have f6:Fr nob w5 w6:=by rw[hw6];exact(Fr.refl _ _).alloc _
 have hz6:w6.heap[w5.heap.size]? =some (.cells zC 35 (0,0)):=by rw[hw6];exact newAt _ _
 obtain⟨w7,hw7⟩:∃w7,w7=w6.setRow w5.heap.size (cmd20 c.at_ (.int .i64 c.guard.a.kind) (.int .i64 c.guard.a.line) (.string ⟨c.guard.a.text.toArray⟩) u3 (.int .i64 c.guard.b.kind) (.int .i64 c.guard.b.line) (.string ⟨c.guard.b.text.toArray⟩) u4 (.bool c.guard.no) c.name c.arg c.sub u pv c.table):=⟨_,rfl⟩;have f67:Fr (fun k=>k=w5.heap.size) w6 w7:=by rw[hw7];exact ZN _ _ _
 have f7:Fr nob w5 w7:=f6.trans f67 (fun i hi e=>by have e:i=w5.heap.size:=e;omega);have hz7:w7.heap[w5.heap.size]? =some (.cells (cmd20 c.at_ (.int .i64 c.guard.a.kind) (.int .i64 c.guard.a.line) (.string ⟨c.guard.a.text.toArray⟩) u3 (.int .i64 c.guard.b.kind) (.int .i64 c.guard.b.line) (.string ⟨c.guard.b.text.toArray⟩) u4 (.bool c.guard.no) c.name c.arg c.sub u pv c.table) 35 (0,0)):=by rw[hw7];exact setRow_heap _ _ _ _ _ _ hz6
 have hr7:=hcr.on f7;have HW6:=hid hw6;have HW7:=hid hw7;have Z6:=hid hz6;have F7:=hid f7;have Z7:=hid hz7;have ST:=hid st;have ZW:=hid (f7.heap hz5 (fun x=>x));have HR7:=hid hr7;have HL5:=hid hl5;have HN5:=hid hn5;have HCV:=hid (Zc2.on (S:=SO S' (OW O0 w.heap.size)) (c:=c) ⟨u3,u4,u,pv,rfl,r1,r2,r3,po⟩ f7);clear hw6 hw7 hz6 hz7 f6 f67 f7 st hz5 hr7 hcr hl5 hn5 r1 r2 r3 po rz;go_wp2_with(first|rw[←HW6.out]|refine wpList_store_row rfl 35 _ _ rfl w5.heap.size (cmd20 c.at_ (.int .i64 c.guard.a.kind) (.int .i64 c.guard.a.line) (.string ⟨c.guard.a.text.toArray⟩) u3 (.int .i64 c.guard.b.kind) (.int .i64 c.guard.b.line) (.string ⟨c.guard.b.text.toArray⟩) u4 (.bool c.guard.no) c.name c.arg c.sub u pv c.table) rfl rfl 35 _ Z6.out info_C rfl (Array.all_eq_true_iff_forall_mem.2 (by intro v hv;simp only[List.mem_toArray,List.mem_cons,List.not_mem_nil,or_false]at hv;rcases hv with h|h|h|h|h|h|h|h|h|h|h|h|h|h|h|h|h|h|h|h<;>(subst h;first|rfl|assumption))) ?_|rw[←HW7.out])
 refine(cm_ok w3.heap.size l x _ S' w7 HR7.out).mono ?_;rintro e w8 ⟨rfl,f8⟩;have HR8:=hid (HR7.out.on f8);have Z8:=hid (f8.heap Z7.out (fun x=>x));have ZW8:=hid (f8.heap ZW.out (fun x=>x));have F8:=hid (F7.out.trans' f8);have CV8:=hid (HCV.out.on f8);clear f8;obtain⟨mv8,hm8⟩:=HR8.out;have HM8:=hid hm8;have hwb:w.heap.size≠w3.heap.size:=fun e=>HW0.out (.inl e);have HQ:=hid (B5.of hm8.blk);have HQd:=hid (B5.drew (B5.of hm8.blk));rw[he1];obtain⟨ma8,mc8,rfl⟩:=Zb hm8.ma;clear hm8;have e1:Sem.run Tryz.prog (storeVar 35 ⟨w.heap.size,0,none⟩ (.agg (cmd20 c.at_ (.int .i64 c.guard.a.kind) (.int .i64 c.guard.a.line) (.string ⟨c.guard.a.text.toArray⟩) u3 (.int .i64 c.guard.b.kind) (.int .i64 c.guard.b.line) (.string ⟨c.guard.b.text.toArray⟩) u4 (.bool c.guard.no) c.name c.arg c.sub u pv c.table))) w8=.ok () (w8.setRow w.heap.size (cmd20 c.at_ (.int .i64 c.guard.a.kind) (.int .i64 c.guard.a.line) (.string ⟨c.guard.a.text.toArray⟩) u3 (.int .i64 c.guard.b.kind) (.int .i64 c.guard.b.line) (.string ⟨c.guard.b.text.toArray⟩) u4 (.bool c.guard.no) c.name c.arg c.sub u pv c.table)):=
  run_storeVar_row w8 w.heap.size 35 35 _ _ ZW8.out info_C rfl (Array.all_eq_true_iff_forall_mem.2 (by intro v hv;simp only[List.mem_toArray,List.mem_cons,List.not_mem_nil,or_false]at hv;rcases hv with h|h|h|h|h|h|h|h|h|h|h|h|h|h|h|h|h|h|h|h<;>(subst h;first|rfl|assumption)))
 have e2:Sem.run Tryz.prog (storeVar 35 ⟨w.heap.size,0,none⟩ (.agg (cmd20 c.at_ (.int .i64 c.guard.a.kind) (.int .i64 c.guard.a.line) (.string ⟨c.guard.a.text.toArray⟩) u3 (.int .i64 c.guard.b.kind) (.int .i64 c.guard.b.line) (.string ⟨c.guard.b.text.toArray⟩) u4 (.bool c.guard.no) c.name c.arg c.sub u pv c.table))) w8.drew=.ok () (w8.drew.setRow w.heap.size (cmd20 c.at_ (.int .i64 c.guard.a.kind) (.int .i64 c.guard.a.line) (.string ⟨c.guard.a.text.toArray⟩) u3 (.int .i64 c.guard.b.kind) (.int .i64 c.guard.b.line) (.string ⟨c.guard.b.text.toArray⟩) u4 (.bool c.guard.no) c.name c.arg c.sub u pv c.table)):=
  run_storeVar_row w8.drew w.heap.size 35 35 _ _ (Zq ZW8.out) info_C rfl (Array.all_eq_true_iff_forall_mem.2 (by intro v hv;simp only[List.mem_toArray,List.mem_cons,List.not_mem_nil,or_false]at hv;rcases hv with h|h|h|h|h|h|h|h|h|h|h|h|h|h|h|h|h|h|h|h<;>(subst h;first|rfl|assumption)))
 have hgw:w.heap.size≠w5.heap.size:=by have:=HNW.out;have:=ST.out.fr.size;omega
 have HL:=hid (BL.mk HQ.out Z8.out rfl);go_wp2_with fail
 go_region_held3 (fun w'=>B5 w' w3.heap.size (.string ⟨l.toArray⟩) (.int .i64 (s.at_:Nat)) (.bool x) (.slice ma8 s.marks.length mc8) (.int .i64 s.e)∧w'.heap[w5.heap.size]? =some (.cells (cmd20 c.at_ (.int .i64 c.guard.a.kind) (.int .i64 c.guard.a.line) (.string ⟨c.guard.a.text.toArray⟩) u3 (.int .i64 c.guard.b.kind) (.int .i64 c.guard.b.line) (.string ⟨c.guard.b.text.toArray⟩) u4 (.bool c.guard.no) c.name c.arg c.sub u pv c.table) 35 (0,0))∧Sem.run Tryz.prog (loadVar 35 ⟨w5.heap.size,0,none⟩) w'=.ok (.agg (cmd20 c.at_ (.int .i64 c.guard.a.kind) (.int .i64 c.guard.a.line) (.string ⟨c.guard.a.text.toArray⟩) u3 (.int .i64 c.guard.b.kind) (.int .i64 c.guard.b.line) (.string ⟨c.guard.b.text.toArray⟩) u4 (.bool c.guard.no) c.name c.arg c.sub u pv c.table)) w') (repeat(first|(with_reducible exact HL.out)|(with_reducible refine BL.row ?_ rfl hwb hgw _)|(with_reducible refine BL.drew ?_ rfl))) (first|(rw[e1])|(rw[e2]))
 all_goals
  obtain⟨w9,hw9⟩:∃w9,w9=w8.drew.setRow w.heap.size (cmd20 c.at_ (.int .i64 c.guard.a.kind) (.int .i64 c.guard.a.line) (.string ⟨c.guard.a.text.toArray⟩) u3 (.int .i64 c.guard.b.kind) (.int .i64 c.guard.b.line) (.string ⟨c.guard.b.text.toArray⟩) u4 (.bool c.guard.no) c.name c.arg c.sub u pv c.table):=⟨_,rfl⟩;rw[←hw9];have f89:Fr (fun k=>k=w.heap.size) w8 w9:=by rw[hw9];exact((Fr.refl (fun k=>k=w.heap.size) w8).drew).trans (ZN _ _ _) (fun _ _ e=>e)
  have hz9:w9.heap[w.heap.size]? =some (.cells (cmd20 c.at_ (.int .i64 c.guard.a.kind) (.int .i64 c.guard.a.line) (.string ⟨c.guard.a.text.toArray⟩) u3 (.int .i64 c.guard.b.kind) (.int .i64 c.guard.b.line) (.string ⟨c.guard.b.text.toArray⟩) u4 (.bool c.guard.no) c.name c.arg c.sub u pv c.table) 35 (0,0)):=by rw[hw9];exact setRow_heap _ _ _ _ _ _ (Zq ZW8.out)
  have Z9:=hid hz9;have FF:=hid (show Fr nob w w9 from(Stp.from (ST.out.trans (Stp.of F8.out)) F14.out (fun k hk=>by have:=(HSL.out k hk).1;have:=HS1.out;omega)).trans f89 (fun i hi e=>by have e:i=w.heap.size:=e;omega));have CV9:=hid (CV8.out.keep (S':=O0) f89 (fun k hk=>.inr (.inl hk)) (fun k _ hk=>.inr (.inr hk)));have MA9:=hid (show OwM w9 s.marks (.slice ma8 s.marks.length mc8)from ownsRow_fr HM8.out.ma f89 (fun k hk e=>by have e:k=w.heap.size:=e;exact HN5.out (e▸(HM8.out.nm k hk).2)));have NB:=hid (show∀k,(Value.slice ma8 s.marks.length mc8).ownBlock=some k→w.heap.size≤k from fun k hk=>by
   by_cases hk4:k<w4.heap.size
   ·have:=(HSL.out k (ST.out.old k hk4 (HM8.out.nm k hk).2)).1;have:=HS1.out;omega
   ·have:=HNW.out;omega)
  clear e1 e2 hw9 f89 hz9;go_wp2;(try simp only[Exit.inBlock,Exit.then]);exact bodyPost_ret (ZcH rfl rfl rfl Z9.out) rfl ⟨_,_,rfl,CV9.out,MA9.out,NB.out,FF.out⟩
theorem Zlr(O0:Nat→Prop)(l:List UInt8)(p:Nat)(x:Bool)(w:World)(hl:l.length≤20000)(hp:p≤l.length)(hE:Env w)(hO0:∀k,O0 k→k<w.heap.size):
 Calls Tryz.prog 14 #[.string ⟨l.toArray⟩,.int .i64 (p:Nat),.bool x] w (ZpZ O0 (Zeu x l p) w):=by
 unfold Zeu;cases hR:ZX x l ⟨p,[],0⟩with
 |inl z=>
  obtain⟨z,q⟩:=z;exact(ZjA l p x w hl hp hE z q hR).mono fun e w' h=>⟨h.2,h.1⟩
 |inr z=>
  obtain⟨gv,q,ms,e⟩:=z;obtain rfl:e=0:=guardD_ok hR;simp only;obtain⟨C,hC⟩:∃C,ZbY x l gv ⟨q,ms,0⟩=C:=⟨_,rfl⟩;obtain⟨c,s⟩:=C;rw[hC];simp only;by_cases he:s.e=0
  ·rw[if_neg (fun h=>h he)];exact(Zlq l p x w hl hp hE O0 hO0 gv q ms hR c s hC he).mono fun e w' ⟨v,mv,h1,h2,h3,h4,h5⟩=>⟨h5,v,mv,h1,h2,h3,h4⟩
  ·rw[if_pos he];exact(ZjB l p x w hl hp hE O0 hO0 gv q ms hR c s hC he).mono fun e w' h=>⟨h.2,h.1⟩
end Go.Proofs.YtkfddjopbocpkaaGreatDoor
