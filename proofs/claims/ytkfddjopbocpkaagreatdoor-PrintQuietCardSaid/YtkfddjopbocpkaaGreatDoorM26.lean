/- Lemmas of this claim. -/
import Derived.Test.YtkfddjopbocpkaaGreatDoorM23
set_option linter.unusedVariables false
set_option linter.unusedSimpArgs false
set_option maxRecDepth 100000
set_option maxHeartbeats 4000000
namespace Go.Proofs.YtkfddjopbocpkaaGreatDoor
open Go.Lib (hid)
open Go.RowKit
abbrev zC:Array Value:= #[.int .i64 0,.int .i64 0,.int .i64 0,.string ⟨#[]⟩,.nilIface,.int .i64 0,.int .i64 0,.string ⟨#[]⟩,.nilIface,.bool false,.int .u8 0,.string ⟨#[]⟩,.string ⟨#[]⟩,.nilIface,.slice none 0 0,.int .i64 0,.bool false,.bool false,.string ⟨#[]⟩,.string ⟨#[]⟩]
theorem ZcH{fn:Func}{p t u v:Tmp}(h:fn.results= #[.cell p 35,.tmp t,.tmp u,.tmp v]){tmps:Array Value}{r:Nat}(ht:tmps.getD p undef=.pointer (some ⟨r,0,none⟩)){W:World}{cs:Array Value}(hc:cs.size=20)
 (hb:W.heap[r]? =some (.cells cs 35 (0,0))):
 (results fn tmps).run Tryz.prog W=.ok (.tuple #[.agg cs,tmps.getD t undef,tmps.getD u undef,tmps.getD v undef]) W:=by
 have a:tmps[p]?.getD undef=.pointer (some ⟨r,0,none⟩):=by simpa using ht
 have hi:(Tryz.prog.info? 35).map (·.size)=some cs.size:=by rw[hc];exact info_C
 simp[results,h,a,asAddr,run_loadVar_row W r 35 35 cs (0,0) _ hb Tryz.underlying35 rfl hi]
def ZpZ(O0:Nat→Prop)(R:Zqc)(w:World)(e:Ending)(w':World):Prop:=Fr nob w w'∧match R with
 | .inl (z,p)=>e=.returned (.tuple #[.agg zC,.slice none 0 0,.int .i64 (p:Nat),.int .i64 z])
 | .inr (c,s)=>∃v mv,e=.returned (.tuple #[v,mv,.int .i64 (s.at_:Nat),.int .i64 0])∧Zc2 O0 w' c v∧OwM w' s.marks mv∧∀k,mv.ownBlock=some k→w.heap.size≤k
def OW(O0:Nat→Prop)(n:Nat):Nat→Prop:=fun k=>k=n∨O0 k
attribute [-go_sem] storeVar
theorem ZjA(l:List UInt8)(p:Nat)(x:Bool)(w:World)(hl:l.length≤20000)(hp:p≤l.length)(hE:Env w)(z:Int)(q:Nat)(hR:ZX x l ⟨p,[],0⟩=.inl (z,q)):
 Calls Tryz.prog 14 #[.string ⟨l.toArray⟩,.int .i64 (p:Nat),.bool x] w fun e w'=>e=.returned (.tuple #[.agg zC,.slice none 0 0,.int .i64 (q:Nat),.int .i64 z])∧Fr nob w w':=by
 have c:¬z=0:=guardD_err hR;have i:(z==0)=false:=by simpa using c
 have h:(z !=0)=true:=by simpa using c
 obtain⟨w1,a⟩:∃w1,w1=w.alloc (.cells zC 35):=⟨_,rfl⟩;have f1:Fr nob w w1:=by rw[a];exact(Fr.refl _ _).alloc _
 have hz:w1.heap[w.heap.size]? =some (.cells zC 35 (0,0)):=by rw[a];exact newAt _ _
 have f:w1.heap.size=w.heap.size+1:=by rw[a];simp
 have HG:=hid (Zlk l p x w1 (by omega) hp (hE.on f1) z q hR);have d:=hid a;have F1:=hid f1;have Z1:=hid hz;clear a f1 hz f hR hE;go_enter Tryz.func14,Tryz.ntmps14;go_wp2_with(rw[←d.out]);refine HG.out.mono ?_;rintro e w2 ⟨rfl,f2⟩;obtain⟨w3,b⟩:∃w3,w3=(w2.alloc (.cells zG 30)).setRow w2.heap.size zG:=⟨_,rfl⟩;obtain⟨_,f3,_⟩:=ZaM w2 zG zG 30;rw[←b]at f3;have g:=hid b;have F3:=hid (F1.out.trans' (f2.trans' f3));have Z3:=hid (f3.heap (f2.heap Z1.out (fun x=>x)) (fun x=>x));clear b f3 f2;go_wp2_with(first|rw[←g.out]|refine wpList_store_row rfl 30 _ _ rfl w2.heap.size zG rfl rfl 30 zG (newAt _ _) info_Gd rfl (by kernel_rfl) ?_|refine wpList_store_row rfl 35 _ _ rfl w.heap.size zC rfl rfl 35 _ Z3.out info_C rfl (by kernel_rfl) ?_);rw[setRow_self _ _ _ _ _ Z3.out];(try simp only[Exit.inBlock,Exit.then]);exact bodyPost_ret (ZcH rfl rfl rfl Z3.out) rfl ⟨rfl,F3.out⟩
theorem B5.row{w:World}{b k:Nat}{v0 v1 v2 v3 v4:Value}(h:B5 w b v0 v1 v2 v3 v4)(hb:k≠b)(cs:Array Value):B5 (w.setRow k cs) b v0 v1 v2 v3 v4:=by
 obtain⟨a0,a1,a2,a3,a4⟩:=h;have nb:∀{j:Nat} {v:Value},w.cell? ⟨b,j,none⟩=some v→(w.setRow k cs).cell? ⟨b,j,none⟩=some v:=fun q=>(ZN w k cs).cell q (fun e=>hb e.symm);exact⟨nb a0,nb a1,nb a2,nb a3,nb a4⟩
theorem ZjB(l:List UInt8)(p:Nat)(x:Bool)(w:World)(hl:l.length≤20000)(hp:p≤l.length)(hE:Env w)(O0:Nat→Prop)(hO0:∀k,O0 k→k<w.heap.size)(gv:GV)(q:Nat)(ms:List (Nat×List UInt8))(hR:ZX x l ⟨p,[],0⟩=.inr (gv,⟨q,ms,0⟩))(c:CV)(s:AdS)(hC:ZbY x l gv ⟨q,ms,0⟩=(c,s))(he:¬s.e=0):
 Calls Tryz.prog 14 #[.string ⟨l.toArray⟩,.int .i64 (p:Nat),.bool x] w fun e w'=>e=.returned (.tuple #[.agg zC,.slice none 0 0,.int .i64 (s.at_:Nat),.int .i64 s.e])∧Fr nob w w':=by
 have a7:(s.e==0)=false:=by simpa using he
 obtain⟨w1,f⟩:∃w1,w1=w.alloc (.cells zC 35):=⟨_,rfl⟩;have f1:Fr nob w w1:=by rw[f];exact(Fr.refl _ _).alloc _
 have hz:w1.heap[w.heap.size]? =some (.cells zC 35 (0,0)):=by rw[f];exact newAt _ _
 have r:w1.heap.size=w.heap.size+1:=by rw[f];simp
 have hq:q≤l.length:=guardD_le (s:=⟨p,[],0⟩) hp rfl hR;have c4:ms.length≤2*l.length+2:=guardD_mk hp hR;have HG:=hid (ZgQ l p x w1 (by omega) hp (hE.on f1) gv q ms hR (OW O0 w.heap.size) (fun k hk=>by rcases hk with hk|hk;(·omega);(·have:=hO0 k hk;omega)));have b1:=hid f;have F1:=hid f1;have Z1:=hid hz;have Q:=hid r;clear f f1 hz r hR;go_enter Tryz.func14,Tryz.ntmps14;go_wp2_with(rw[←b1.out]);refine HG.out.mono ?_;rintro e w2 ⟨v,mv,rfl,a8,K,f2,T,z,A,u1,u2,rfl,t,I⟩;clear a8;obtain⟨ma,mc,rfl⟩:=Zb K;obtain⟨w3,F⟩:∃w3,w3=(w2.alloc (.cells zG 30)).setRow w2.heap.size (gcell gv u1 u2):=⟨_,rfl⟩;obtain⟨G,f3,W⟩:=ZaM w2 zG (gcell gv u1 u2) 30;rw[←F]at G f3 W;obtain⟨w4,d⟩:∃w4,w4=w3.alloc (.cells #[.string ⟨l.toArray⟩,.int .i64 (q:Nat),.bool x,.slice ma ms.length mc,.int .i64 0] 79):=⟨_,rfl⟩;have f4:Fr nob w3 w4:=by rw[d];exact(Fr.refl _ _).alloc _
 have a6:w4.heap.size=w3.heap.size+1:=by rw[d];simp
 have P:w4.heap[w3.heap.size]? =some (.cells #[.string ⟨l.toArray⟩,.int .i64 (q:Nat),.bool x,.slice ma ms.length mc,.int .i64 0] 79 (0,0)):=by rw[d];exact newAt _ _
 have C:=f4.heap G (fun x=>x);have J:Fr nob w w4:=F1.out.trans' (f2.trans' (f3.trans' f4));have a3:w1.heap.size≤w2.heap.size:=f2.size;have U:CRd w3.heap.size l x ⟨q,ms,0⟩ (fun k=>k=w3.heap.size∨T k) w4:=⟨_,⟨P,ownsRow_fr K (f3.trans' f4) (fun _ _ x=>x),fun k hk=>⟨by have:=(A k (z k hk)).2;omega,.inr (z k hk)⟩,.inl rfl⟩⟩;have H:∀k,k<w2.heap.size→SO (fun k=>k=w3.heap.size∨T k) (OW O0 w.heap.size) k→SO T (OW O0 w.heap.size) k:=fun k hk e=>by
  rcases e with(e|e)|e
  ·omega
  ·exact .inl e
  ·exact .inr e
 have j:∀k,(k=w3.heap.size∨T k)→w1.heap.size≤k∧k<w4.heap.size:=fun k hk=>by
  rcases hk with hk|hk
  ·omega
  ·have:=A k hk;omega
 have r:=Q.out;have HC:=hid (ZeQ w3.heap.size l x ⟨q,ms,0⟩ (fun k=>k=w3.heap.size∨T k) (OW O0 w.heap.size) gv _ w4 (by omega) hq (by show ms.length≤90000;omega) (fun k hk=>(j k hk).2) (fun k hk=>by rcases hk with hk|hk;(·omega);(·have:=hO0 k hk;omega)) w hE J (fun k hk=>by have:=(j k hk).1;omega) U rfl
  ⟨u1,u2,rfl,RN.keep (f3.trans' f4) (fun _ _ x=>x.elim) H _ _ t,RN.keep (f3.trans' f4) (fun _ _ x=>x.elim) H _ _ I⟩)
 have V:¬(w.heap.size=w3.heap.size∨T w.heap.size):=fun e=>by have:=(j _ e).1;omega
 have rz:=Zk C;have b4:=hid C;have a0:=hid F;have b2:=hid d;have b6:=hid J;have a1:=hid (f4.heap (f3.heap (f2.heap Z1.out (fun x=>x)) (fun x=>x)) (fun x=>x));have Y:=hid j;have E:=hid V;have a4:=hid (show w.heap.size<w4.heap.size by omega);have o1:u1.oneCell'=true:=by rcases t.shape with rfl|⟨i,y,rfl⟩<;>rfl
 have o2:u2.oneCell'=true:=by rcases I.shape with rfl|⟨i,y,rfl⟩<;>rfl
 clear F d J f2 f3 f4 G C P U H j z A K t I W a6 a3 r V;rw[hC]at HC;have oG:(gcell gv u1 u2).all (·.oneCell')=true:=Array.all_eq_true_iff_forall_mem.2 (by intro v hv;simp only[List.mem_toArray,List.mem_cons,List.not_mem_nil,or_false]at hv;rcases hv with h|h|h|h|h|h|h|h|h<;>(subst h;first|rfl|assumption));go_wp2_with(first|rw[←a0.out]|rw[←b2.out]|refine wpList_load_row rfl 30 _ rfl w2.heap.size rfl 30 (gcell gv u1 u2) (0,0) _ b4.out Tryz.underlying30 rfl info_Gd ?_|refine wpList_store_row rfl 30 _ _ rfl w2.heap.size (gcell gv u1 u2) rfl rfl 30 zG (newAt _ _) info_Gd rfl oG ?_);refine HC.out.mono ?_;rintro e w5 ⟨v,S',rfl,⟨u3,u4,u,pv,rfl,r1,r2,r3,po⟩,D,st⟩;simp only at r1 r2 r3 po D;have o3:u3.oneCell'=true:=by rcases r1.shape with rfl|⟨i,y,rfl⟩<;>rfl
 have o4:u4.oneCell'=true:=by rcases r2.shape with rfl|⟨i,y,rfl⟩<;>rfl
 have o5:u.oneCell'=true:=by rcases r3.shape with rfl|⟨i,y,rfl⟩<;>rfl
 have o6:pv.oneCell'=true:=by obtain⟨a9,c9,rfl⟩:=Zb po.1;rfl
 have L:=st.fr.heap a1.out E.out;have R:∀k,S' k→k<w5.heap.size:=st.lt (fun k hk=>(Y.out k hk).2);have M:¬S' w.heap.size:=fun e=>E.out (st.old _ a4.out e);obtain⟨w6,o⟩:∃w6,w6=w5.alloc (.cells zC 35):=⟨_,rfl⟩;have f6:Fr nob w5 w6:=by rw[o];exact(Fr.refl _ _).alloc _
 have B:w6.heap[w5.heap.size]? =some (.cells zC 35 (0,0)):=by rw[o];exact newAt _ _
 obtain⟨w7,m⟩:∃w7,w7=w6.setRow w5.heap.size (cmd20 c.at_ (.int .i64 c.guard.a.kind) (.int .i64 c.guard.a.line) (.string ⟨c.guard.a.text.toArray⟩) u3 (.int .i64 c.guard.b.kind) (.int .i64 c.guard.b.line) (.string ⟨c.guard.b.text.toArray⟩) u4 (.bool c.guard.no) c.name c.arg c.sub u pv c.table):=⟨_,rfl⟩;have X:Fr (fun k=>k=w5.heap.size) w6 w7:=by rw[m];exact ZN _ _ _
 have f7:Fr nob w5 w7:=f6.trans X (fun i hi e=>by have e:i=w5.heap.size:=e;omega);have N:w7.heap[w5.heap.size]? =some (.cells (cmd20 c.at_ (.int .i64 c.guard.a.kind) (.int .i64 c.guard.a.line) (.string ⟨c.guard.a.text.toArray⟩) u3 (.int .i64 c.guard.b.kind) (.int .i64 c.guard.b.line) (.string ⟨c.guard.b.text.toArray⟩) u4 (.bool c.guard.no) c.name c.arg c.sub u pv c.table) 35 (0,0)):=by rw[m];exact setRow_heap _ _ _ _ _ _ B
 have O:=D.on f7;have b7:=hid o;have a2:=hid m;have Z6:=hid B;have F7:=hid f7;have Z7:=hid N;have ST:=hid st;have ZW:=hid (f7.heap L (fun x=>x));have Z:=hid O;have c3:=hid R;have c2:=hid M;have b3:=hid (Zc2.on (S:=SO S' (OW O0 w.heap.size)) (c:=c) ⟨u3,u4,u,pv,rfl,r1,r2,r3,po⟩ f7);clear o m B N f6 X f7 st L O D R M r1 r2 r3 po rz;go_wp2_with(first|rw[←b7.out]|refine wpList_store_row rfl 35 _ _ rfl w5.heap.size (cmd20 c.at_ (.int .i64 c.guard.a.kind) (.int .i64 c.guard.a.line) (.string ⟨c.guard.a.text.toArray⟩) u3 (.int .i64 c.guard.b.kind) (.int .i64 c.guard.b.line) (.string ⟨c.guard.b.text.toArray⟩) u4 (.bool c.guard.no) c.name c.arg c.sub u pv c.table) rfl rfl 35 _ Z6.out info_C rfl (Array.all_eq_true_iff_forall_mem.2 (by intro v hv;simp only[List.mem_toArray,List.mem_cons,List.not_mem_nil,or_false]at hv;rcases hv with h|h|h|h|h|h|h|h|h|h|h|h|h|h|h|h|h|h|h|h<;>(subst h;first|rfl|assumption))) ?_|rw[←a2.out])
 refine(cm_ok w3.heap.size l x _ S' w7 Z.out).mono ?_;rintro e w8 ⟨rfl,f8⟩;have b8:=hid (Z.out.on f8);have Z8:=hid (f8.heap Z7.out (fun x=>x));have g:=hid (f8.heap ZW.out (fun x=>x));have F8:=hid (F7.out.trans' f8);have b9:=hid (b3.out.on f8);clear f8;obtain⟨b0,n⟩:=b8.out;have c0:=hid n;have c1:w.heap.size≠w3.heap.size:=fun e=>E.out (.inl e);have HQ:=hid (B5.of n.blk);have a5:=hid (B5.drew (B5.of n.blk));clear n;rw[a7];have e1:Sem.run Tryz.prog (storeVar 35 ⟨w.heap.size,0,none⟩ (.agg zC)) w8=.ok () w8:=by
  have h:=run_storeVar_row w8 w.heap.size 35 35 zC zC g.out info_C rfl (by kernel_rfl);rw[setRow_self _ _ _ _ _ g.out]at h;exact h
 have e2:Sem.run Tryz.prog (storeVar 35 ⟨w.heap.size,0,none⟩ (.agg zC)) w8.drew=.ok () w8.drew:=by
  have h:=run_storeVar_row w8.drew w.heap.size 35 35 zC zC (Zq g.out) info_C rfl (by kernel_rfl);rw[setRow_self _ _ _ _ _ (Zq g.out)]at h;exact h
 go_wp2_with fail
 go_region_held3 (fun w'=>B5 w' w3.heap.size (.string ⟨l.toArray⟩) (.int .i64 (s.at_:Nat)) (.bool x) b0 (.int .i64 s.e)) (repeat(first|(with_reducible exact HQ.out)|(with_reducible exact a5.out)|(with_reducible refine B5.drew ?_))) (first|(rw[e1])|(rw[e2]))
 all_goals
  have b5:=hid (Zq g.out);have FF:=hid (show Fr nob w w8.drew from(Stp.from (ST.out.trans (Stp.of F8.out)) b6.out (fun k hk=>by have:=(Y.out k hk).1;have:=Q.out;omega)).drew);clear e1 e2;go_wp2;(try simp only[Exit.inBlock,Exit.then]);exact bodyPost_ret (ZcH rfl rfl rfl b5.out) rfl ⟨rfl,FF.out⟩
theorem BL.mk{W:World}{b g:Nat}{v0 v1 v2 v3 v4:Value}{cs:Array Value}(h:B5 W b v0 v1 v2 v3 v4)(hg:W.heap[g]? =some (.cells cs 35 (0,0)))(hc:cs.size=20):
 B5 W b v0 v1 v2 v3 v4∧W.heap[g]? =some (.cells cs 35 (0,0))∧Sem.run Tryz.prog (loadVar 35 ⟨g,0,none⟩) W=.ok (.agg cs) W:=
 ⟨h,hg,run_loadVar_row W g 35 35 cs (0,0) _ hg Tryz.underlying35 rfl (by rw[hc];exact info_C)⟩
theorem BL.row{W:World}{b g k:Nat}{v0 v1 v2 v3 v4:Value}{cs:Array Value}(h:B5 W b v0 v1 v2 v3 v4∧W.heap[g]? =some (.cells cs 35 (0,0))∧Sem.run Tryz.prog (loadVar 35 ⟨g,0,none⟩) W=.ok (.agg cs) W)(hc:cs.size=20)(hb:k≠b)(hk:k≠g)(ds:Array Value):
 B5 (W.setRow k ds) b v0 v1 v2 v3 v4∧(W.setRow k ds).heap[g]? =some (.cells cs 35 (0,0))∧Sem.run Tryz.prog (loadVar 35 ⟨g,0,none⟩) (W.setRow k ds)=.ok (.agg cs) (W.setRow k ds):=
 BL.mk (h.1.row hb ds) (by rw[setRow_other W k g ds (Ne.symm hk)];exact h.2.1) hc
theorem BL.drew{W:World}{b g:Nat}{v0 v1 v2 v3 v4:Value}{cs:Array Value}(h:B5 W b v0 v1 v2 v3 v4∧W.heap[g]? =some (.cells cs 35 (0,0))∧Sem.run Tryz.prog (loadVar 35 ⟨g,0,none⟩) W=.ok (.agg cs) W)(hc:cs.size=20):
 B5 W.drew b v0 v1 v2 v3 v4∧W.drew.heap[g]? =some (.cells cs 35 (0,0))∧Sem.run Tryz.prog (loadVar 35 ⟨g,0,none⟩) W.drew=.ok (.agg cs) W.drew:=
 BL.mk (B5.drew h.1) (Zq h.2.1) hc
theorem Zlo{w:World}{b j:Nat}(hc:(w.cell? ⟨b,j,none⟩).isSome=true):Sem.run Tryz.prog (loadVar 3 ⟨b,j,none⟩) w=.ok ((w.cell? ⟨b,j,none⟩).getD undef) w:=by
 obtain⟨old,ho⟩:=Option.isSome_iff_exists.1 hc;simp[go_sem,ho]
theorem Zlp{w:World}{b j:Nat}(hc:(w.cell? ⟨b,j,none⟩).isSome=true):Sem.run Tryz.prog (loadVar 36 ⟨b,j,none⟩) w=.ok ((w.cell? ⟨b,j,none⟩).getD undef) w:=by
 obtain⟨old,ho⟩:=Option.isSome_iff_exists.1 hc;simp[go_sem,ho]
attribute [go_sem] Zlo Zlp
attribute [-go_sem] loadVar
theorem Zlq(l:List UInt8)(p:Nat)(x:Bool)(w:World)(hl:l.length≤20000)(hp:p≤l.length)(hE:Env w)(O0:Nat→Prop)(hO0:∀k,O0 k→k<w.heap.size)(gv:GV)(q:Nat)(ms:List (Nat×List UInt8))(hR:ZX x l ⟨p,[],0⟩=.inr (gv,⟨q,ms,0⟩))(c:CV)(s:AdS)(hC:ZbY x l gv ⟨q,ms,0⟩=(c,s))(he:s.e=0):
 Calls Tryz.prog 14 #[.string ⟨l.toArray⟩,.int .i64 (p:Nat),.bool x] w fun e w'=>∃v mv,e=.returned (.tuple #[v,mv,.int .i64 (s.at_:Nat),.int .i64 0])∧Zc2 O0 w' c v∧OwM w' s.marks mv∧(∀k,mv.ownBlock=some k→w.heap.size≤k)∧Fr nob w w':=by
 have b6:(s.e==0)=true:=by simpa using he
 obtain⟨w1,g⟩:∃w1,w1=w.alloc (.cells zC 35):=⟨_,rfl⟩;have f1:Fr nob w w1:=by rw[g];exact(Fr.refl _ _).alloc _
 have hz:w1.heap[w.heap.size]? =some (.cells zC 35 (0,0)):=by rw[g];exact newAt _ _
 have r:w1.heap.size=w.heap.size+1:=by rw[g];simp
 have hq:q≤l.length:=guardD_le (s:=⟨p,[],0⟩) hp rfl hR;have d3:ms.length≤2*l.length+2:=guardD_mk hp hR;have HG:=hid (ZgQ l p x w1 (by omega) hp (hE.on f1) gv q ms hR (OW O0 w.heap.size) (fun k hk=>by rcases hk with hk|hk;(·omega);(·have:=hO0 k hk;omega)));have b9:=hid g;have F1:=hid f1;have Z1:=hid hz;have J:=hid r;clear g f1 hz r hR;go_enter Tryz.func14,Tryz.ntmps14;go_wp2_with(rw[←b9.out]);refine HG.out.mono ?_;rintro e w2 ⟨v,mv,rfl,b7,U,f2,T,A,B,u1,u2,rfl,z,N⟩;clear b7;obtain⟨ma,mc,rfl⟩:=Zb U;obtain⟨w3,I⟩:∃w3,w3=(w2.alloc (.cells zG 30)).setRow w2.heap.size (gcell gv u1 u2):=⟨_,rfl⟩;obtain⟨K,f3,a4⟩:=ZaM w2 zG (gcell gv u1 u2) 30;rw[←I]at K f3 a4;obtain⟨w4,f⟩:∃w4,w4=w3.alloc (.cells #[.string ⟨l.toArray⟩,.int .i64 (q:Nat),.bool x,.slice ma ms.length mc,.int .i64 0] 79):=⟨_,rfl⟩;have f4:Fr nob w3 w4:=by rw[f];exact(Fr.refl _ _).alloc _
 have b3:w4.heap.size=w3.heap.size+1:=by rw[f];simp
 have a0:w4.heap[w3.heap.size]? =some (.cells #[.string ⟨l.toArray⟩,.int .i64 (q:Nat),.bool x,.slice ma ms.length mc,.int .i64 0] 79 (0,0)):=by rw[f];exact newAt _ _
 have E:=f4.heap K (fun x=>x);have R:Fr nob w w4:=F1.out.trans' (f2.trans' (f3.trans' f4));have b2:w1.heap.size≤w2.heap.size:=f2.size;have a2:CRd w3.heap.size l x ⟨q,ms,0⟩ (fun k=>k=w3.heap.size∨T k) w4:=⟨_,⟨a0,ownsRow_fr U (f3.trans' f4) (fun _ _ x=>x),fun k hk=>⟨by have:=(B k (A k hk)).2;omega,.inr (A k hk)⟩,.inl rfl⟩⟩;have L:∀k,k<w2.heap.size→SO (fun k=>k=w3.heap.size∨T k) (OW O0 w.heap.size) k→SO T (OW O0 w.heap.size) k:=fun k hk e=>by
  rcases e with(e|e)|e
  ·omega
  ·exact .inl e
  ·exact .inr e
 have j:∀k,(k=w3.heap.size∨T k)→w1.heap.size≤k∧k<w4.heap.size:=fun k hk=>by
  rcases hk with hk|hk
  ·omega
  ·have:=B k hk;omega
 have r:=J.out;have HC:=hid (ZeQ w3.heap.size l x ⟨q,ms,0⟩ (fun k=>k=w3.heap.size∨T k) (OW O0 w.heap.size) gv _ w4 (by omega) hq (by show ms.length≤90000;omega) (fun k hk=>(j k hk).2) (fun k hk=>by rcases hk with hk|hk;(·omega);(·have:=hO0 k hk;omega)) w hE R (fun k hk=>by have:=(j k hk).1;omega) a2 rfl
  ⟨u1,u2,rfl,RN.keep (f3.trans' f4) (fun _ _ x=>x.elim) L _ _ z,RN.keep (f3.trans' f4) (fun _ _ x=>x.elim) L _ _ N⟩)
 have a3:¬(w.heap.size=w3.heap.size∨T w.heap.size):=fun e=>by have:=(j _ e).1;omega
 have rz:=Zk E;have c4:=hid E;have a8:=hid I;have c0:=hid f;have c5:=hid R;have b0:=hid (f4.heap (f3.heap (f2.heap Z1.out (fun x=>x)) (fun x=>x)) (fun x=>x));have Q:=hid j;have H:=hid a3;have F:=hid (show w.heap.size<w4.heap.size by omega);have o1:u1.oneCell'=true:=by rcases z.shape with rfl|⟨i,y,rfl⟩<;>rfl
 have o2:u2.oneCell'=true:=by rcases N.shape with rfl|⟨i,y,rfl⟩<;>rfl
 clear I f R f2 f3 f4 K E a0 a2 L j A B U z N a4 b3 b2 r a3;rw[hC]at HC;have oG:(gcell gv u1 u2).all (·.oneCell')=true:=Array.all_eq_true_iff_forall_mem.2 (by intro v hv;simp only[List.mem_toArray,List.mem_cons,List.not_mem_nil,or_false]at hv;rcases hv with h|h|h|h|h|h|h|h|h<;>(subst h;first|rfl|assumption));go_wp2_with(first|rw[←a8.out]|rw[←c0.out]|refine wpList_load_row rfl 30 _ rfl w2.heap.size rfl 30 (gcell gv u1 u2) (0,0) _ c4.out Tryz.underlying30 rfl info_Gd ?_|refine wpList_store_row rfl 30 _ _ rfl w2.heap.size (gcell gv u1 u2) rfl rfl 30 zG (newAt _ _) info_Gd rfl oG ?_);refine HC.out.mono ?_;rintro e w5 ⟨v,S',rfl,⟨u3,u4,u,pv,rfl,r1,r2,r3,po⟩,G,st⟩;simp only at r1 r2 r3 po G;have o3:u3.oneCell'=true:=by rcases r1.shape with rfl|⟨i,y,rfl⟩<;>rfl
 have o4:u4.oneCell'=true:=by rcases r2.shape with rfl|⟨i,y,rfl⟩<;>rfl
 have o5:u.oneCell'=true:=by rcases r3.shape with rfl|⟨i,y,rfl⟩<;>rfl
 have o6:pv.oneCell'=true:=by obtain⟨a9,c9,rfl⟩:=Zb po.1;rfl
 have V:=st.fr.heap b0.out H.out;have a1:∀k,S' k→k<w5.heap.size:=st.lt (fun k hk=>(Q.out k hk).2);have W:¬S' w.heap.size:=fun e=>H.out (st.old _ F.out e);obtain⟨w6,o⟩:∃w6,w6=w5.alloc (.cells zC 35):=⟨_,rfl⟩;have f6:Fr nob w5 w6:=by rw[o];exact(Fr.refl _ _).alloc _
 have C:w6.heap[w5.heap.size]? =some (.cells zC 35 (0,0)):=by rw[o];exact newAt _ _
 obtain⟨w7,n⟩:∃w7,w7=w6.setRow w5.heap.size (cmd20 c.at_ (.int .i64 c.guard.a.kind) (.int .i64 c.guard.a.line) (.string ⟨c.guard.a.text.toArray⟩) u3 (.int .i64 c.guard.b.kind) (.int .i64 c.guard.b.line) (.string ⟨c.guard.b.text.toArray⟩) u4 (.bool c.guard.no) c.name c.arg c.sub u pv c.table):=⟨_,rfl⟩;have a5:Fr (fun k=>k=w5.heap.size) w6 w7:=by rw[n];exact ZN _ _ _
 have f7:Fr nob w5 w7:=f6.trans a5 (fun i hi e=>by have e:i=w5.heap.size:=e;omega);have X:w7.heap[w5.heap.size]? =some (.cells (cmd20 c.at_ (.int .i64 c.guard.a.kind) (.int .i64 c.guard.a.line) (.string ⟨c.guard.a.text.toArray⟩) u3 (.int .i64 c.guard.b.kind) (.int .i64 c.guard.b.line) (.string ⟨c.guard.b.text.toArray⟩) u4 (.bool c.guard.no) c.name c.arg c.sub u pv c.table) 35 (0,0)):=by rw[n];exact setRow_heap _ _ _ _ _ _ C
 have Z:=G.on f7;have c6:=hid o;have b1:=hid n;have Z6:=hid C;have F7:=hid f7;have Z7:=hid X;have ST:=hid st;have ZW:=hid (f7.heap V (fun x=>x));have a6:=hid Z;have d2:=hid a1;have b5:=hid W;have c3:=hid (Zc2.on (S:=SO S' (OW O0 w.heap.size)) (c:=c) ⟨u3,u4,u,pv,rfl,r1,r2,r3,po⟩ f7);clear o n C X f6 a5 f7 st V Z G a1 W r1 r2 r3 po rz;go_wp2_with(first|rw[←c6.out]|refine wpList_store_row rfl 35 _ _ rfl w5.heap.size (cmd20 c.at_ (.int .i64 c.guard.a.kind) (.int .i64 c.guard.a.line) (.string ⟨c.guard.a.text.toArray⟩) u3 (.int .i64 c.guard.b.kind) (.int .i64 c.guard.b.line) (.string ⟨c.guard.b.text.toArray⟩) u4 (.bool c.guard.no) c.name c.arg c.sub u pv c.table) rfl rfl 35 _ Z6.out info_C rfl (Array.all_eq_true_iff_forall_mem.2 (by intro v hv;simp only[List.mem_toArray,List.mem_cons,List.not_mem_nil,or_false]at hv;rcases hv with h|h|h|h|h|h|h|h|h|h|h|h|h|h|h|h|h|h|h|h<;>(subst h;first|rfl|assumption))) ?_|rw[←b1.out])
 refine(cm_ok w3.heap.size l x _ S' w7 a6.out).mono ?_;rintro e w8 ⟨rfl,f8⟩;have c8:=hid (a6.out.on f8);have Z8:=hid (f8.heap Z7.out (fun x=>x));have M:=hid (f8.heap ZW.out (fun x=>x));have F8:=hid (F7.out.trans' f8);have a7:=hid (c3.out.on f8);clear f8;obtain⟨d1,d⟩:=c8.out;have D:=hid d;have b4:w.heap.size≠w3.heap.size:=fun e=>H.out (.inl e);have HQ:=hid (B5.of d.blk);have d0:=hid (B5.drew (B5.of d.blk));rw[b6];obtain⟨P,O,rfl⟩:=Zb d.ma;clear d;have e1:Sem.run Tryz.prog (storeVar 35 ⟨w.heap.size,0,none⟩ (.agg (cmd20 c.at_ (.int .i64 c.guard.a.kind) (.int .i64 c.guard.a.line) (.string ⟨c.guard.a.text.toArray⟩) u3 (.int .i64 c.guard.b.kind) (.int .i64 c.guard.b.line) (.string ⟨c.guard.b.text.toArray⟩) u4 (.bool c.guard.no) c.name c.arg c.sub u pv c.table))) w8=.ok () (w8.setRow w.heap.size (cmd20 c.at_ (.int .i64 c.guard.a.kind) (.int .i64 c.guard.a.line) (.string ⟨c.guard.a.text.toArray⟩) u3 (.int .i64 c.guard.b.kind) (.int .i64 c.guard.b.line) (.string ⟨c.guard.b.text.toArray⟩) u4 (.bool c.guard.no) c.name c.arg c.sub u pv c.table)):=
  run_storeVar_row w8 w.heap.size 35 35 _ _ M.out info_C rfl (Array.all_eq_true_iff_forall_mem.2 (by intro v hv;simp only[List.mem_toArray,List.mem_cons,List.not_mem_nil,or_false]at hv;rcases hv with h|h|h|h|h|h|h|h|h|h|h|h|h|h|h|h|h|h|h|h<;>(subst h;first|rfl|assumption)))
 have e2:Sem.run Tryz.prog (storeVar 35 ⟨w.heap.size,0,none⟩ (.agg (cmd20 c.at_ (.int .i64 c.guard.a.kind) (.int .i64 c.guard.a.line) (.string ⟨c.guard.a.text.toArray⟩) u3 (.int .i64 c.guard.b.kind) (.int .i64 c.guard.b.line) (.string ⟨c.guard.b.text.toArray⟩) u4 (.bool c.guard.no) c.name c.arg c.sub u pv c.table))) w8.drew=.ok () (w8.drew.setRow w.heap.size (cmd20 c.at_ (.int .i64 c.guard.a.kind) (.int .i64 c.guard.a.line) (.string ⟨c.guard.a.text.toArray⟩) u3 (.int .i64 c.guard.b.kind) (.int .i64 c.guard.b.line) (.string ⟨c.guard.b.text.toArray⟩) u4 (.bool c.guard.no) c.name c.arg c.sub u pv c.table)):=
  run_storeVar_row w8.drew w.heap.size 35 35 _ _ (Zq M.out) info_C rfl (Array.all_eq_true_iff_forall_mem.2 (by intro v hv;simp only[List.mem_toArray,List.mem_cons,List.not_mem_nil,or_false]at hv;rcases hv with h|h|h|h|h|h|h|h|h|h|h|h|h|h|h|h|h|h|h|h<;>(subst h;first|rfl|assumption)))
 have c7:w.heap.size≠w5.heap.size:=by have:=F.out;have:=ST.out.fr.size;omega
 have HL:=hid (BL.mk HQ.out Z8.out rfl);go_wp2_with fail
 go_region_held3 (fun w'=>B5 w' w3.heap.size (.string ⟨l.toArray⟩) (.int .i64 (s.at_:Nat)) (.bool x) (.slice P s.marks.length O) (.int .i64 s.e)∧w'.heap[w5.heap.size]? =some (.cells (cmd20 c.at_ (.int .i64 c.guard.a.kind) (.int .i64 c.guard.a.line) (.string ⟨c.guard.a.text.toArray⟩) u3 (.int .i64 c.guard.b.kind) (.int .i64 c.guard.b.line) (.string ⟨c.guard.b.text.toArray⟩) u4 (.bool c.guard.no) c.name c.arg c.sub u pv c.table) 35 (0,0))∧Sem.run Tryz.prog (loadVar 35 ⟨w5.heap.size,0,none⟩) w'=.ok (.agg (cmd20 c.at_ (.int .i64 c.guard.a.kind) (.int .i64 c.guard.a.line) (.string ⟨c.guard.a.text.toArray⟩) u3 (.int .i64 c.guard.b.kind) (.int .i64 c.guard.b.line) (.string ⟨c.guard.b.text.toArray⟩) u4 (.bool c.guard.no) c.name c.arg c.sub u pv c.table)) w') (repeat(first|(with_reducible exact HL.out)|(with_reducible refine BL.row ?_ rfl b4 c7 _)|(with_reducible refine BL.drew ?_ rfl))) (first|(rw[e1])|(rw[e2]))
 all_goals
  obtain⟨w9,m⟩:∃w9,w9=w8.drew.setRow w.heap.size (cmd20 c.at_ (.int .i64 c.guard.a.kind) (.int .i64 c.guard.a.line) (.string ⟨c.guard.a.text.toArray⟩) u3 (.int .i64 c.guard.b.kind) (.int .i64 c.guard.b.line) (.string ⟨c.guard.b.text.toArray⟩) u4 (.bool c.guard.no) c.name c.arg c.sub u pv c.table):=⟨_,rfl⟩;rw[←m];have t:Fr (fun k=>k=w.heap.size) w8 w9:=by rw[m];exact((Fr.refl (fun k=>k=w.heap.size) w8).drew).trans (ZN _ _ _) (fun _ _ e=>e)
  have Y:w9.heap[w.heap.size]? =some (.cells (cmd20 c.at_ (.int .i64 c.guard.a.kind) (.int .i64 c.guard.a.line) (.string ⟨c.guard.a.text.toArray⟩) u3 (.int .i64 c.guard.b.kind) (.int .i64 c.guard.b.line) (.string ⟨c.guard.b.text.toArray⟩) u4 (.bool c.guard.no) c.name c.arg c.sub u pv c.table) 35 (0,0)):=by rw[m];exact setRow_heap _ _ _ _ _ _ (Zq M.out)
  have Z9:=hid Y;have FF:=hid (show Fr nob w w9 from(Stp.from (ST.out.trans (Stp.of F8.out)) c5.out (fun k hk=>by have:=(Q.out k hk).1;have:=J.out;omega)).trans t (fun i hi e=>by have e:i=w.heap.size:=e;omega));have c2:=hid (a7.out.keep (S':=O0) t (fun k hk=>.inr (.inl hk)) (fun k _ hk=>.inr (.inr hk)));have b8:=hid (show OwM w9 s.marks (.slice P s.marks.length O)from ownsRow_fr D.out.ma t (fun k hk e=>by have e:k=w.heap.size:=e;exact b5.out (e▸(D.out.nm k hk).2)));have NB:=hid (show∀k,(Value.slice P s.marks.length O).ownBlock=some k→w.heap.size≤k from fun k hk=>by
   by_cases c1:k<w4.heap.size
   ·have:=(Q.out k (ST.out.old k c1 (D.out.nm k hk).2)).1;have:=J.out;omega
   ·have:=F.out;omega)
  clear e1 e2 m t Y;go_wp2;(try simp only[Exit.inBlock,Exit.then]);exact bodyPost_ret (ZcH rfl rfl rfl Z9.out) rfl ⟨_,_,rfl,c2.out,b8.out,NB.out,FF.out⟩
theorem Zlr(O0:Nat→Prop)(l:List UInt8)(p:Nat)(x:Bool)(w:World)(hl:l.length≤20000)(hp:p≤l.length)(hE:Env w)(hO0:∀k,O0 k→k<w.heap.size):
 Calls Tryz.prog 14 #[.string ⟨l.toArray⟩,.int .i64 (p:Nat),.bool x] w (ZpZ O0 (Zeu x l p) w):=by
 unfold Zeu;cases hR:ZX x l ⟨p,[],0⟩with
 |inl z=>
  obtain⟨z,q⟩:=z;exact(ZjA l p x w hl hp hE z q hR).mono fun e w' h=>⟨h.2,h.1⟩
 |inr z=>
  obtain⟨gv,q,ms,e⟩:=z;obtain rfl:e=0:=guardD_ok hR;simp only;obtain⟨C,hC⟩:∃C,ZbY x l gv ⟨q,ms,0⟩=C:=⟨_,rfl⟩;obtain⟨c,s⟩:=C;rw[hC];simp only;by_cases he:s.e=0
  ·rw[if_neg (fun h=>h he)];exact(Zlq l p x w hl hp hE O0 hO0 gv q ms hR c s hC he).mono fun e w' ⟨v,mv,h1,h2,h3,h4,h5⟩=>⟨h5,v,mv,h1,h2,h3,h4⟩
  ·rw[if_pos he];exact(ZjB l p x w hl hp hE O0 hO0 gv q ms hR c s hC he).mono fun e w' h=>⟨h.2,h.1⟩
end Go.Proofs.YtkfddjopbocpkaaGreatDoor
