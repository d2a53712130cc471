/- Lemmas of this claim. -/
import Derived.Laws.OwnMore
import Derived.Test.YtgllcniibbaoaaaGreatDoorK03
import Derived.Test.YtgllcniibbaoaaaGreatDoorK05
set_option linter.all false
set_option maxRecDepth 100000
set_option maxHeartbeats 24000000
namespace Go.Proofs.YtgllcniibbaoaaaGreatDoor
open Go.Lib (hid)
open Go.RowKit
theorem Zxj:spn 97 122=pk ZeZ 256:=by decide +kernel
theorem Zxk:spn 65 90=pk Ze0 256:=by decide +kernel
theorem Zxl:spn 48 57=pk Zc7 256:=by decide +kernel
theorem Zxm:(spn 97 122).or (spn 65 90)=pk Zc8 256:=by decide +kernel
theorem Zxn:((spn 97 122).or (spn 65 90)).or (spn 48 57)=pk Zc9 256:=by decide +kernel
theorem Zw4:(spn 48 57).or ((spn 65 70).or (spn 97 102))=pk ZdE 256:=by decide +kernel
theorem Zxo:(spn 32 32).or (spn 9 9)=pk Zb3 256:=by decide +kernel
theorem Zxp:((spn 32 32).or (spn 9 9)).or (spn 10 13)=pk Ze1 256:=by decide +kernel
theorem Zxq:(spn 0 31).or (spn 127 127)=pk Zdb 256:=by decide +kernel
theorem Zxr:spn 32 126=pk Zdc 256:=by decide +kernel
theorem Zxs:spn 33 126=pk Zda 256:=by decide +kernel
theorem Zxt:(spn 33 126).and (((spn 97 122).or (spn 65 90)).or (spn 48 57)).not=pk Ze2 256:=by decide +kernel
abbrev ZcR(s:S4):Value:=.agg #[.int .u64 s.a,.int .u64 s.b,.int .u64 s.c,.int .u64 s.d]
theorem Zwt{fn:Func}{p q:Tmp}(h:fn.results= #[.cell p 33,.tmp q]){tmps:Array Value}{r:Nat}(ht:tmps.getD p undef=.pointer (some ⟨r,0,none⟩)){v:Value}(hq:tmps.getD q undef=v){W:World}{s:S4}
 (hb:W.heap[r]? =some (.cells #[.int .u64 s.a,.int .u64 s.b,.int .u64 s.c,.int .u64 s.d] 33 (0,0))):(results fn tmps).run Tryz.prog W=.ok (.tuple #[ZcR s,v]) W:=by
 obtain⟨c0,c1,c2,c3,_⟩:=Zcn (s:=s) hb;have f:tmps[p]?.getD undef=.pointer (some ⟨r,0,none⟩):=by rw[←ht];simp
 have e:tmps[q]?.getD undef=v:=by rw[←hq];simp
 simp only[results,h];simp[f,e,go_sem,c0,c1,c2,c3]
theorem spanR_lit(a b:Nat)(w:World)(ha:a<256)(hb:b<256):
 Calls Tryz.prog 146 #[.int .u8 a,.int .u8 b] w fun e w'=>e=.returned (ZcR (spn a b))∧Fr nob w w':=ZwU a b w ha hb
theorem orR_lit(s t:S4)(w:World):Calls Tryz.prog 166 #[ZcR s,ZcR t] w fun e w'=>e=.returned (ZcR (s.or t))∧Fr nob w w':=Zxi s t w
theorem andR_lit(s t:S4)(w:World):Calls Tryz.prog 203 #[ZcR s,ZcR t] w fun e w'=>e=.returned (ZcR (s.and t))∧Fr nob w w':=Zw1 s t w
theorem notR_lit(s:S4)(w:World):Calls Tryz.prog 167 #[ZcR s] w fun e w'=>e=.returned (ZcR s.not)∧Fr nob w w':=ZwP s w
theorem ZwL(s:ByteArray)(w:World):Calls Tryz.prog 182 #[.string s] w fun e w'=>e=.returned (.tuple #[.agg (ZaD (Zak s)).cells.toArray,.bool (Zak s).isSome])∧Fr nob w w':=by
 obtain⟨o,ho⟩:∃o,Zak s=o:=⟨_,rfl⟩;rw[ho];have HO:=hid ho;clear ho;obtain⟨lo,v⟩:∃x,spn 97 122=x:=⟨_,rfl⟩;obtain⟨up,y⟩:∃x,spn 65 90=x:=⟨_,rfl⟩;obtain⟨dg,u⟩:∃x,spn 48 57=x:=⟨_,rfl⟩;have m:=hid v;have n:=hid y;have l:=hid u;clear v y u;go_enter Tryz.func182,Tryz.ntmps182;go_wp2_with fail;refine(spanR_lit 97 122 _ (by decide) (by decide)).mono ?_;rw[m.out];rintro e w1 ⟨rfl,f1⟩;go_wp2_with fail;refine(spanR_lit 65 90 _ (by decide) (by decide)).mono ?_;rw[n.out];rintro e w2 ⟨rfl,f2⟩;go_wp2_with fail;refine(spanR_lit 48 57 _ (by decide) (by decide)).mono ?_;rw[l.out];rintro e w3 ⟨rfl,f3⟩;go_wp2_with fail;obtain⟨wA,hA⟩:∃wA,wA=((w3.alloc (.cells lo.cells.toArray 33)).alloc (.cells up.cells.toArray 33)).alloc (.cells dg.cells.toArray 33):=⟨_,rfl⟩;have fA:Fr nob w3 wA:=by rw[hA];exact(((Fr.refl _ _).alloc _).alloc _).alloc _
 have hr:wA.heap[w.heap.size]? =some (.cells S4.zero.cells.toArray 33 (0,0)):=fA.heap (f3.heap (f2.heap (f1.heap (heap_alloc_new _ _) (fun x=>x)) (fun x=>x)) (fun x=>x)) (fun x=>x);have h4:wA.heap[w3.heap.size]? =some (.cells lo.cells.toArray 33 (0,0)):=by rw[hA];exact heap_alloc_lt _ (heap_alloc_lt _ (heap_alloc_new _ _))
 have h5:wA.heap[w3.heap.size+1]? =some (.cells up.cells.toArray 33 (0,0)):=by rw[hA];exact heap_alloc_lt _ (heap_alloc_new' _ _ _ (by simp))
 have h6:wA.heap[w3.heap.size+1+1]? =some (.cells dg.cells.toArray 33 (0,0)):=by rw[hA];exact heap_alloc_new' _ _ _ (by simp)
 have FA:=hid (((Fr.refl nob w).alloc (.cells S4.zero.cells.toArray 33)).trans' (f1.trans' (f2.trans' (f3.trans' fA))));simp only[S4.cells_eq]at hA;rw[←hA];clear hA fA f1 f2 f3;obtain⟨b4,e4⟩:∃b,w3.heap.size=b:=⟨_,rfl⟩;rw[e4]at h4 h5 h6⊢;clear e4;have c4:=fun w' f=>C4s h4 w' f;have c5:=fun w' f=>C4s h5 w' f;have c6:=fun w' f=>C4s h6 w' f;have HR:=hid hr;have H4:=hid h4;have H5:=hid h5;have H6:=hid h6;clear hr h4 h5 h6
 go_cut [7] (fun v7 w'=>∃b,v7=.pointer (some ⟨b,0,none⟩)∧w'.heap[b]? =some (.cells ((lo.or up).or dg).cells.toArray 33 (0,0))∧Fr nob wA w')
 case first=>
  go_region_held3 (fun w'=>Fr nob wA w') (repeat(first|(with_reducible exact Fr.refl _ _)|(with_reducible assumption)|(with_reducible refine Fr.drew ?_)|(with_reducible refine Fr.alloc ?_ _)|(refine Fr.setCell ?_ (fun h=>absurd h (by first|exact Nat.lt_irrefl _|exact Nat.not_lt.2 f5.size|exact Nat.not_lt.2 (Nat.le_trans f5.size f6.size))) _)|(with_reducible refine Fr.trans' ?_ (by with_reducible assumption)))) (first|(go_at_call 166;(with_reducible refine(orR_lit lo up _).mono ?_);rintro e w5 ⟨rfl,f5⟩;first|(have z5:=f5.heap (heap_alloc_new _ (.cells #[.int .u64 0,.int .u64 0,.int .u64 0,.int .u64 0] 33)) (fun x=>x))|skip)|(go_at_call 166;(with_reducible refine(orR_lit (lo.or up) dg _).mono ?_);rintro e w6 ⟨rfl,f6⟩;first|(have z6:=f6.heap z5 (fun x=>x);obtain⟨⟨y4,y5,y6,y7⟩,y0,y1,y2,y3⟩:=Zl z6 _ (Fr.refl _ _);have hl:=lt_heap z6)|(have z6:=f6.heap (heap_alloc_new _ (.cells #[.int .u64 0,.int .u64 0,.int .u64 0,.int .u64 0] 33)) (fun x=>x);obtain⟨⟨y4,y5,y6,y7⟩,y0,y1,y2,y3⟩:=Zl z6 _ (Fr.refl _ _);have hl:=lt_heap z6)|skip))
  all_goals
   go_wp2;go_meet
   case rel=>
    refine⟨_,rfl,?_,?_⟩
    ·rw[S4.cells_eq];first|(with_reducible exact heap_alloc_new _ _)|(with_reducible exact setFour_heap z6 _ _ _ _)
    ·(repeat(first|(with_reducible exact Fr.refl _ _)|(with_reducible assumption)|(with_reducible refine Fr.drew ?_)|(with_reducible refine Fr.alloc ?_ _)|(refine Fr.setCell ?_ (fun h=>absurd h (by first|exact Nat.lt_irrefl _|exact Nat.not_lt.2 f5.size|exact Nat.not_lt.2 (Nat.le_trans f5.size f6.size))) _)|(with_reducible refine Fr.trans' ?_ (by with_reducible assumption))))
 case rest=>
  obtain⟨b7,rfl,h7,f4⟩:=hcut;have H7:=hid h7;clear h7;go_wp2_with fail;refine(spanR_lit 32 32 _ (by decide) (by decide)).mono ?_;rintro e w7 ⟨rfl,f7⟩;go_wp2_with fail;refine(spanR_lit 9 9 _ (by decide) (by decide)).mono ?_;rintro e w8 ⟨rfl,f8⟩;go_wp2_with fail;refine(orR_lit _ _ _).mono ?_;rintro e w9 ⟨rfl,f9⟩;have fB:Fr nob wA w9:=f4.trans' (f7.trans' (f8.trans' f9));have h8:=heap_alloc_new w9 (.cells ((spn 32 32).or (spn 9 9)).cells.toArray 33);obtain⟨bl,q⟩:∃x,(spn 32 32).or (spn 9 9)=x:=⟨_,rfl⟩;rw[q]at h8⊢;have r:=hid q;clear q;have hr:=heap_alloc_lt (.cells bl.cells.toArray 33) (fB.heap HR.out (fun x=>x));have h4:=heap_alloc_lt (.cells bl.cells.toArray 33) (fB.heap H4.out (fun x=>x));have h5:=heap_alloc_lt (.cells bl.cells.toArray 33) (fB.heap H5.out (fun x=>x));have h6:=heap_alloc_lt (.cells bl.cells.toArray 33) (fB.heap H6.out (fun x=>x));have h7:=heap_alloc_lt (.cells bl.cells.toArray 33) ((f7.trans' (f8.trans' f9)).heap H7.out (fun x=>x))
  have FB:=hid ((FA.out.trans' fB).alloc (.cells bl.cells.toArray 33));clear HR H4 H5 H6 H7 FA fB f4 f7 f8 f9 c4 c5 c6;simp only[S4.cells_eq]at hr h4 h5 h6 h7 h8;go_upto_block 0 with(fail);obtain⟨wB,hB⟩:∃x,x=w9.alloc (.cells #[.int .u64 bl.a,.int .u64 bl.b,.int .u64 bl.c,.int .u64 bl.d] 33):=⟨_,rfl⟩;have j:Hid (Fr nob w wB):=by rw[hB];exact FB
  rw[←hB]at hr h4 h5 h6 h7 h8⊢;clear hB FB;have lr:=lt_heap hr;have l4:=lt_heap h4;have l5:=lt_heap h5;have l6:=lt_heap h6;have l7:=lt_heap h7;have l8:=lt_heap h8;obtain⟨b8,e8⟩:∃b,w9.heap.size=b:=⟨_,rfl⟩;rw[e8]at h8 l8⊢;clear e8;have r0:=Zl hr;have r4:=Zl h4;have r5:=Zl h5;have r6:=Zl h6;have r7:=Zl h7;have r8:=Zl h8;have HR:=hid hr;clear hr h4 h5 h6 h7 h8;go_wp2_with fail
  ·go_wp2;(try simp only[Exit.inBlock,Exit.then]);have ho:o=some ZeZ:=by rw[←HO.out];simp only[Zak, *];rfl
   have hs:ZaD (some ZeZ)=lo:=by rw[←m.out];exact Zxj.symm
   refine bodyPost_ret (Zwt (s:=lo) rfl rfl rfl (setFour_heap ((Fr.refl nob wB).heap HR.out (fun x=>x)) _ _ _ _)) rfl ⟨by rw[ho,hs];rfl,Zp (j.out.trans' (Fr.refl nob wB)) (by omega) _ _ _ _⟩
  ·go_wp2;(try simp only[Exit.inBlock,Exit.then]);have ho:o=some Ze0:=by rw[←HO.out];simp only[Zak, *];rfl
   have hs:ZaD (some Ze0)=up:=by rw[←n.out];exact Zxk.symm
   refine bodyPost_ret (Zwt (s:=up) rfl rfl rfl (setFour_heap ((Fr.refl nob wB).heap HR.out (fun x=>x)) _ _ _ _)) rfl ⟨by rw[ho,hs];rfl,Zp (j.out.trans' (Fr.refl nob wB)) (by omega) _ _ _ _⟩
  ·go_wp2_with fail;refine(orR_lit lo up _).mono ?_;rintro e wC ⟨rfl,fC⟩;go_wp2;(try simp only[Exit.inBlock,Exit.then]);have ho:o=some Zc8:=by rw[←HO.out];simp only[Zak, *];rfl
   have hs:ZaD (some Zc8)=(lo.or up):=by rw[←m.out,←n.out];exact Zxm.symm
   refine bodyPost_ret (Zwt (s:=(lo.or up)) rfl rfl rfl (setFour_heap (fC.heap HR.out (fun x=>x)) _ _ _ _)) rfl ⟨by rw[ho,hs];rfl,Zp (j.out.trans' fC) (by omega) _ _ _ _⟩
  ·go_wp2;(try simp only[Exit.inBlock,Exit.then]);have ho:o=some Zc7:=by rw[←HO.out];simp only[Zak, *];rfl
   have hs:ZaD (some Zc7)=dg:=by rw[←l.out];exact Zxl.symm
   refine bodyPost_ret (Zwt (s:=dg) rfl rfl rfl (setFour_heap ((Fr.refl nob wB).heap HR.out (fun x=>x)) _ _ _ _)) rfl ⟨by rw[ho,hs];rfl,Zp (j.out.trans' (Fr.refl nob wB)) (by omega) _ _ _ _⟩
  ·go_wp2;(try simp only[Exit.inBlock,Exit.then]);have ho:o=some Zc9:=by rw[←HO.out];simp only[Zak, *];rfl
   have hs:ZaD (some Zc9)=((lo.or up).or dg):=by rw[←m.out,←n.out,←l.out];exact Zxn.symm
   refine bodyPost_ret (Zwt (s:=((lo.or up).or dg)) rfl rfl rfl (setFour_heap ((Fr.refl nob wB).heap HR.out (fun x=>x)) _ _ _ _)) rfl ⟨by rw[ho,hs];rfl,Zp (j.out.trans' (Fr.refl nob wB)) (by omega) _ _ _ _⟩
  ·obtain⟨x1,g⟩:∃x,spn 65 70=x:=⟨_,rfl⟩;obtain⟨x2,k⟩:∃x,spn 97 102=x:=⟨_,rfl⟩;have i:=hid g;have p:=hid k;clear g k;have s1:∀w:World,Calls Tryz.prog 146 #[.int .u8 65,.int .u8 70] w fun e w'=>e=.returned (ZcR x1)∧Fr nob w w':=fun w=>by rw[←i.out];exact spanR_lit 65 70 w (by decide) (by decide)
   have s2:∀w:World,Calls Tryz.prog 146 #[.int .u8 97,.int .u8 102] w fun e w'=>e=.returned (ZcR x2)∧Fr nob w w':=fun w=>by rw[←p.out];exact spanR_lit 97 102 w (by decide) (by decide)
   have S1:=hid s1;have S2:=hid s2;clear s1 s2;refine region_fr 5 (by kernel_rfl) (by kernel_rfl) ?_;simp only[List.take_succ_cons,List.take_zero,List.drop_succ_cons,List.drop_zero]
   repeat(quiet_step ((first|(with_reducible exact calls_fr (S1.out _))|(with_reducible exact calls_fr (S2.out _))|(with_reducible exact calls_fr (orR_lit x1 x2 _))|(with_reducible exact calls_fr (orR_lit dg (x1.or x2) _)))))
   refine wpQuiet_nil ?_;intro wC fC;go_wp2;(try simp only[Exit.inBlock,Exit.then]);have ho:o=some ZdE:=by rw[←HO.out];simp only[Zak, *];rfl
   have hs:ZaD (some ZdE)=(dg.or (x1.or x2)):=by rw[←l.out,←i.out,←p.out];exact Zw4.symm
   refine bodyPost_ret (Zwt (s:=(dg.or (x1.or x2))) rfl rfl rfl (setFour_heap (fC.heap HR.out (fun x=>x)) _ _ _ _)) rfl ⟨by rw[ho,hs];rfl,Zp (j.out.trans' fC) (by omega) _ _ _ _⟩
  ·go_wp2;(try simp only[Exit.inBlock,Exit.then]);have ho:o=some Zb3:=by rw[←HO.out];simp only[Zak, *];rfl
   have hs:ZaD (some Zb3)=bl:=by rw[←r.out];exact Zxo.symm
   refine bodyPost_ret (Zwt (s:=bl) rfl rfl rfl (setFour_heap ((Fr.refl nob wB).heap HR.out (fun x=>x)) _ _ _ _)) rfl ⟨by rw[ho,hs];rfl,Zp (j.out.trans' (Fr.refl nob wB)) (by omega) _ _ _ _⟩
  ·obtain⟨x1,g⟩:∃x,spn 10 13=x:=⟨_,rfl⟩;have i:=hid g;clear g;have s1:∀w:World,Calls Tryz.prog 146 #[.int .u8 10,.int .u8 13] w fun e w'=>e=.returned (ZcR x1)∧Fr nob w w':=fun w=>by rw[←i.out];exact spanR_lit 10 13 w (by decide) (by decide)
   have S1:=hid s1;clear s1;refine region_fr 3 (by kernel_rfl) (by kernel_rfl) ?_;simp only[List.take_succ_cons,List.take_zero,List.drop_succ_cons,List.drop_zero]
   repeat(quiet_step ((first|(with_reducible exact calls_fr (S1.out _))|(with_reducible exact calls_fr (orR_lit bl x1 _)))))
   refine wpQuiet_nil ?_;intro wC fC;go_wp2;(try simp only[Exit.inBlock,Exit.then]);have ho:o=some Ze1:=by rw[←HO.out];simp only[Zak, *];rfl
   have hs:ZaD (some Ze1)=(bl.or x1):=by rw[←r.out,←i.out];exact Zxp.symm
   refine bodyPost_ret (Zwt (s:=(bl.or x1)) rfl rfl rfl (setFour_heap (fC.heap HR.out (fun x=>x)) _ _ _ _)) rfl ⟨by rw[ho,hs];rfl,Zp (j.out.trans' fC) (by omega) _ _ _ _⟩
  ·go_wp2_with fail;refine(spanR_lit 0 31 _ (by decide) (by decide)).mono ?_;obtain⟨x1,g⟩:∃x,spn 0 31=x:=⟨_,rfl⟩;rw[g];have i:=hid g;clear g;rintro e wC ⟨rfl,fC⟩;go_wp2_with fail;refine(spanR_lit 127 127 _ (by decide) (by decide)).mono ?_;obtain⟨x2,k⟩:∃x,spn 127 127=x:=⟨_,rfl⟩;rw[k];have p:=hid k;clear k;rintro e wD ⟨rfl,fD⟩;go_wp2_with fail;refine(orR_lit x1 x2 _).mono ?_;rintro e wE ⟨rfl,fE⟩;have t:=fC.trans' (fD.trans' fE);go_wp2;(try simp only[Exit.inBlock,Exit.then]);have ho:o=some Zdb:=by rw[←HO.out];simp only[Zak, *];rfl
   have hs:ZaD (some Zdb)=(x1.or x2):=by rw[←i.out,←p.out];exact Zxq.symm
   refine bodyPost_ret (Zwt (s:=(x1.or x2)) rfl rfl rfl (setFour_heap (t.heap HR.out (fun x=>x)) _ _ _ _)) rfl ⟨by rw[ho,hs];rfl,Zp (j.out.trans' t) (by omega) _ _ _ _⟩
  ·go_wp2_with fail;refine(spanR_lit 32 126 _ (by decide) (by decide)).mono ?_;obtain⟨x1,g⟩:∃x,spn 32 126=x:=⟨_,rfl⟩;rw[g];have i:=hid g;clear g;rintro e wC ⟨rfl,fC⟩;go_wp2;(try simp only[Exit.inBlock,Exit.then]);have ho:o=some Zdc:=by rw[←HO.out];simp only[Zak, *];rfl
   have hs:ZaD (some Zdc)=x1:=by rw[←i.out];exact Zxr.symm
   refine bodyPost_ret (Zwt (s:=x1) rfl rfl rfl (setFour_heap (fC.heap HR.out (fun x=>x)) _ _ _ _)) rfl ⟨by rw[ho,hs];rfl,Zp (j.out.trans' fC) (by omega) _ _ _ _⟩
  ·go_wp2_with fail;refine(spanR_lit 33 126 _ (by decide) (by decide)).mono ?_;obtain⟨x1,g⟩:∃x,spn 33 126=x:=⟨_,rfl⟩;rw[g];have i:=hid g;clear g;rintro e wC ⟨rfl,fC⟩;go_wp2;(try simp only[Exit.inBlock,Exit.then]);have ho:o=some Zda:=by rw[←HO.out];simp only[Zak, *];rfl
   have hs:ZaD (some Zda)=x1:=by rw[←i.out];exact Zxs.symm
   refine bodyPost_ret (Zwt (s:=x1) rfl rfl rfl (setFour_heap (fC.heap HR.out (fun x=>x)) _ _ _ _)) rfl ⟨by rw[ho,hs];rfl,Zp (j.out.trans' fC) (by omega) _ _ _ _⟩
  ·obtain⟨x1,g⟩:∃x,spn 33 126=x:=⟨_,rfl⟩;have i:=hid g;clear g;have s1:∀w:World,Calls Tryz.prog 146 #[.int .u8 33,.int .u8 126] w fun e w'=>e=.returned (ZcR x1)∧Fr nob w w':=fun w=>by rw[←i.out];exact spanR_lit 33 126 w (by decide) (by decide)
   have S1:=hid s1;clear s1;refine region_fr 4 (by kernel_rfl) (by kernel_rfl) ?_;simp only[List.take_succ_cons,List.take_zero,List.drop_succ_cons,List.drop_zero]
   repeat(quiet_step ((first|(with_reducible exact calls_fr (S1.out _))|(with_reducible exact calls_fr (notR_lit ((lo.or up).or dg) _))|(with_reducible exact calls_fr (andR_lit x1 ((lo.or up).or dg).not _)))))
   refine wpQuiet_nil ?_;intro wC fC;go_wp2;(try simp only[Exit.inBlock,Exit.then]);have ho:o=some Ze2:=by rw[←HO.out];simp only[Zak, *];rfl
   have hs:ZaD (some Ze2)=(x1.and ((lo.or up).or dg).not):=by rw[←i.out,←m.out,←n.out,←l.out];exact Zxt.symm
   refine bodyPost_ret (Zwt (s:=(x1.and ((lo.or up).or dg).not)) rfl rfl rfl (setFour_heap (fC.heap HR.out (fun x=>x)) _ _ _ _)) rfl ⟨by rw[ho,hs];rfl,Zp (j.out.trans' fC) (by omega) _ _ _ _⟩
  ·go_wp2;(try simp only[Exit.inBlock,Exit.then]);have ho:o=none:=by rw[←HO.out];simp only[Zak, *];rfl
   refine bodyPost_ret (Zwt (s:=S4.zero) rfl rfl rfl (setFour_heap HR.out _ _ _ _)) rfl ⟨by rw[ho];rfl,Zp j.out (by omega) _ _ _ _⟩
def opn(p:Nat→Bool):Nat→Bool
 |0=>false
 |j+1=>p j
def ext(l:List (Nat×Nat))(k:Nat):List (Nat×Nat):=match l.getLast? with
 |some x=>l.dropLast++[(x.1,k)]
 |none=>l
def spl(p:Nat→Bool):Nat→List (Nat×Nat)
 |0=>[]
 |k+1=>if p k then(if opn p k then ext (spl p k) k else spl p k++[(k,k)])else spl p k
theorem ZtX(l:List (Nat×Nat))(a b k:Nat):ext (l++[(a,b)]) k=l++[(a,k)]:=by simp[ext]
theorem Zty{p:Nat→Bool}{k:Nat}(h:opn p k=true):∃l0 a,spl p k=l0++[(a,k-1)]:=by
 induction k with
 |zero=>cases h
 |succ j ih=>
  have hp:p j=true:=h;rw[spl,if_pos hp];split
  ·next ho=>
   obtain⟨l0,a,e⟩:=ih ho;exact⟨l0,a,by rw[e,ZtX];rfl⟩
  ·exact⟨_,j,rfl⟩
theorem Zuw{p:Nat→Bool}{k:Nat}(h:p k=false):spl p (k+1)=spl p k:=by rw[spl,h];rfl
theorem ZtO{p:Nat→Bool}{k:Nat}(h:p k=true)(ho:opn p k=false):spl p (k+1)=spl p k++[(k,k)]:=by rw[spl,h,ho];rfl
theorem ZtP{p:Nat→Bool}{k:Nat}(h:p k=true)(ho:opn p k=true){l0:List (Nat×Nat)}{a:Nat}(e:spl p k=l0++[(a,k-1)]):spl p (k+1)=l0++[(a,k)]:=by
 rw[spl,h,ho,e];exact ZtX _ _ _ _
theorem ZxQ(p:Nat→Bool):∀k,(spl p k).length≤k
 |0=>Nat.le_refl _
 |k+1=>by
  have ih:=ZxQ p k;cases hp:p k with
  |false=>rw[Zuw hp];omega
  |true=>
   cases ho:opn p k with
   |false=>rw[ZtO hp ho,List.length_append];simp;omega
   |true=>
    obtain⟨l0,a,e0⟩:=Zty ho;rw[ZtP hp ho e0];rw[e0]at ih;simp at ih⊢;omega
def spC(l:List (Nat×Nat)):List Value:=l.flatMap fun x=>[.int .u8 (x.1:Int),.int .u8 (x.2:Int)]
theorem Zs0(a b:List (Nat×Nat)):spC (a++b)=spC a++spC b:=by simp[spC]
theorem Zs1(l:List (Nat×Nat)):(spC l).length=2*l.length:=by
 induction l with
 |nil=>rfl
 |cons x l ih=>have:spC (x::l)=[.int .u8 (x.1:Int),.int .u8 (x.2:Int)]++spC l:=rfl
               rw[this,List.length_append,ih,List.length_cons];simp;omega
theorem Zvo(l:List (Nat×Nat))(a b c:Nat):(spC (l++[(a,b)])).set (l.length*2+1) (.int .u8 (c:Int))=spC (l++[(a,c)]):=by
 rw[Zs0,Zs0,List.set_append];rw[if_neg (by rw[Zs1];omega),Zs1,show l.length*2+1-2*l.length=1 by omega];rfl
theorem Zux(l:List (Nat×Nat)):∀(i:Nat) (h:i<l.length),(spC l)[i*2]? =some (.int .u8 (l[i].1:Int))∧(spC l)[i*2+1]? =some (.int .u8 (l[i].2:Int)):=by
 induction l with
 |nil=>intro i h;simp at h
 |cons x l ih=>
  intro i h;have e:spC (x::l)=.int .u8 (x.1:Int):: .int .u8 (x.2:Int)::spC l:=rfl;rw[e];cases i with
  |zero=>exact⟨rfl,rfl⟩
  |succ j=>
   have:=ih j (by simpa using h);rw[show(j+1)*2=j*2+1+1 by omega];simpa using this
theorem Zuy:(Tryz.prog.info? 270).map (fun i=>(i.zero,i.size,i.bytes))=some (some (.agg #[.int .u8 0,.int .u8 0]),2,2):=by kernel_rfl
def ZtD(w:World)(v:Value)(l:List (Nat×Nat)):Prop:=w.ownsRow 0 270 2 v l.length (spC l)
theorem ZtD.slc{w:World}{v:Value}{l:List (Nat×Nat)}(h:ZtD w v l)(h0:l≠[]):∃g cap,v=.slice (some ⟨g,0,none⟩) l.length cap∧g<w.heap.size:=by
 rcases h.2 with⟨_,hz⟩|⟨g,cap,a,hv,_,hh,_⟩
 ·exact absurd (List.length_eq_zero_iff.1 hz) h0
 ·exact⟨g,cap,hv,lt_heap hh⟩
theorem ZtD.on{w w':World}{v:Value}{l:List (Nat×Nat)}(h:ZtD w v l){S:Nat→Prop}(f:Fr S w w')(hn:∀k,v.ownBlock=some k→¬S k):ZtD w' v l:=ownsRow_fr h f hn
def SpV(s:S4)(w:World)(e:Ending)(w':World):Prop:=∃v,e=.returned v∧ZtD w' v (spl s.has 256)∧Fr nob w w'∧∀j,v.ownBlock=some j→w.heap.size≤j
theorem spansR_any(s:S4)(w:World)(hs:s.fit):
 Calls Tryz.prog 183 #[.agg #[.int .u64 s.a,.int .u64 s.b,.int .u64 s.c,.int .u64 s.d]] w (SpV s w):=by
 obtain⟨i0,hi,M,N,O⟩:=info_parts Zuy;obtain⟨w0,y⟩:∃w0,w0=w.alloc (.cells #[.int .u64 s.a,.int .u64 s.b,.int .u64 s.c,.int .u64 s.d] 33):=⟨_,rfl⟩;have G:w0.heap[w.heap.size]? =some (.cells #[.int .u64 s.a,.int .u64 s.b,.int .u64 s.c,.int .u64 s.d] 33 (0,0)):=by rw[y];exact newAt _ _
 have f0:Fr nob w w0:=by rw[y];exact(Fr.refl _ _).alloc _
 have HS:=hid hs;have HW:=hid y;have F:=hid (show w0.heap.size=w.heap.size+1 by rw[y];simp);clear hs y;go_enter Tryz.func183,Tryz.ntmps183;go_wp2_with fail;rw[←HW.out];have r0:=Zl G;have J:=hid G;have F0:=hid f0;clear G f0
 go_loopw [3,5] (fun v i wr=>∃k:Nat,i=.int .i64 k∧k≤256∧ZtD wr v (spl s.has k)∧(∀j,v.ownBlock=some j→w.heap.size<j)∧Fr nob w0 wr) (fun _ i _=>256-(intOf i).toNat)
 case atStart=>exact⟨0,rfl,by omega,World.ownsRow_nil _ _ _ _,fun j h=>(by cases h),Fr.refl _ _⟩
 case round=>
  obtain⟨k,rfl,hk,f,B,fr⟩:=hrel;have HO:=hid f;have n:=hid B;clear f B;by_cases A:k<256
  ·have wk:IntKind.u8.wrap (k:Int)=(k:Int):=IntWalk.u8_in _ (by omega);cases hp:s.has k with
   |false=>
    have HP:=hid hp;have HN:=hid (Zuw hp);have K:=hid (show opn s.has (k+1)=false from hp);clear hp;go_wp2_with fail;refine(hasR_any s k _ HS.out A).mono ?_;rw[HP.out];rintro e w2 ⟨rfl,f2⟩;have Q:=hid (HO.out.on f2 (fun _ _ x=>x));have F2:=hid (fr.trans' f2);clear fr f2;go_wp2;go_roundw
    case rel=>exact⟨k+1,by go_num,by omega,by rw[HN.out];exact Q.out,n.out,F2.out⟩
    case measure=>simp[intOf];omega
   |true=>
    have HP:=hid hp;cases ho:opn s.has k with
    |false=>
     have HN:=hid (ZtO hp ho);have K:=hid (show opn s.has (k+1)=true from hp);have hl:(spl s.has k).length≤256:=by have:=ZxQ s.has k;omega
     have P:=hid ho;clear hp ho;have q:∀w2:World,Fr nob wr w2→Fr nob w0 w2∧w2.ownsRow 0 270 2 u3 (spl s.has k).length (spC (spl s.has k)):=fun w2 f2=>⟨fr.trans' f2,HO.out.on f2 (fun _ _ x=>x)⟩;have SE:=hid q;clear q;cases k with
     |zero=>
      go_wp2_with fail;refine(hasR_any s 0 _ HS.out A).mono ?_;rw[HP.out];rintro e w2 ⟨rfl,f2⟩;have F2:=hid (SE.out _ f2).1;have f:=(SE.out _ f2).2;clear f2;go_wp2_with(at_builtin;refine wpList_append_g rfl _ _ 271 rfl 270 i0 (.agg #[.int .u8 0,.int .u8 0]) 2 2 Tryz.underlying271 hi M N O rfl (by decide) _ _ _ rfl (f.alloc _) ⟨w2.heap.size,0,none⟩ 1 1 [.int .u8 0,.int .u8 0] rfl rfl ?c1 ?c2 ?c3 ?c4 ?_)
      case c1=>
       intro j u hj
       match j,hj with
       |0,hj=>simp at hj;subst hj;simp[Addr.add]
       |1,hj=>simp at hj;subst hj;simp[Addr.add]
      case c2=>intro u hu;simp at hu;subst hu;rfl
      case c3=>unfold maxLen;omega
      case c4=>omega
      intro v' w3 l o;have r:Fr nob w0 w3:=(F2.out.alloc _).trans o.fr (fun i hi e=>by have:=n.out _ e;have:=F.out;omega);have t:∀j,v'.ownBlock=some j→w.heap.size<j:=fun j hj=>by
       rcases o.old j hj with h1|h1
       ·exact n.out j h1
       ·simp at h1;have:=F2.out.size;have:=lt_heap J.out;omega
      have C:=hid r;have D:=hid t;have E:=hid l;clear r t l f o;go_wp2;go_roundw
      case rel=>
       refine⟨0+1,by go_num,by omega,?_,D.out,C.out⟩;rw[HN.out];unfold ZtD;rw[List.length_append,Zs0];exact E.out
      case measure=>simp[intOf]
     |succ j=>
      have hj:s.has j=false:=P.out;have wj:IntKind.u8.wrap (j:Int)=(j:Int):=IntWalk.u8_in _ (by omega);have X:IntKind.u8.wrap ((j:Int)+1)=(j:Int)+1:=IntWalk.u8_in _ (by omega);have HJ:=hid hj;clear hj;go_wp2_with fail;refine(hasR_any s (j+1) _ HS.out A).mono ?_;rw[HP.out];rintro e w2 ⟨rfl,f2⟩;have V:=fr.trans' f2;go_wp2_with fail;refine(hasR_any s j _ HS.out (by omega)).mono ?_;rw[HJ.out];rintro e w3 ⟨rfl,f3⟩;have F2:=hid (SE.out _ (f2.trans' f3)).1;have f:=(SE.out _ (f2.trans' f3)).2;clear f2 f3;go_wp2_with(at_builtin;refine wpList_append_g rfl _ _ 271 rfl 270 i0 (.agg #[.int .u8 0,.int .u8 0]) 2 2 Tryz.underlying271 hi M N O rfl (by decide) _ _ _ rfl (f.alloc _) ⟨w3.heap.size,0,none⟩ 1 1 [.int .u8 ((j:Int)+1),.int .u8 ((j:Int)+1)] rfl rfl ?e1 ?e2 ?e3 ?e4 ?_)
      case e1=>
       intro j u hj
       match j,hj with
       |0,hj=>simp at hj;subst hj;simp[Addr.add]
       |1,hj=>simp at hj;subst hj;simp[Addr.add]
      case e2=>intro u hu;simp at hu;subst hu;rfl
      case e3=>unfold maxLen;omega
      case e4=>omega
      intro v' w4 l o;have r:Fr nob w0 w4:=(F2.out.alloc _).trans o.fr (fun i hi e=>by have:=n.out _ e;have:=F.out;omega);have t:∀j,v'.ownBlock=some j→w.heap.size<j:=fun j hj=>by
       rcases o.old j hj with h1|h1
       ·exact n.out j h1
       ·simp at h1;have:=F2.out.size;have:=lt_heap J.out;omega
      have C:=hid r;have D:=hid t;have E:=hid l;clear r t l f o;go_wp2;go_roundw
      case rel=>
       refine⟨j+1+1,by go_num,by omega,?_,D.out,C.out⟩;rw[HN.out];unfold ZtD;rw[List.length_append,Zs0];exact E.out
      case measure=>simp[intOf];omega
    |true=>
     obtain⟨l0,a,e0⟩:=Zty ho;have HN:=hid (ZtP hp ho e0);have K:=hid (show opn s.has (k+1)=true from hp);have hl:(spl s.has k).length≤256:=by have:=ZxQ s.has k;omega
     have m:=HO.out;rw[e0]at m hl;obtain⟨g,U,hv,hg⟩:=m.slc (by simp);have W:=n.out g (by rw[hv];rfl);subst hv;have H:(l0++[(a,k-1)]).length=l0.length+1:=by simp
     rw[H]at hl m⊢;obtain⟨j,rfl⟩:∃j,k=j+1:=by cases k with|zero=>cases ho|succ j=>exact⟨j,rfl⟩
     have hj:s.has j=true:=ho;have wj:IntKind.u8.wrap (j:Int)=(j:Int):=IntWalk.u8_in _ (by omega);have X:IntKind.u8.wrap ((j:Int)+1)=(j:Int)+1:=IntWalk.u8_in _ (by omega);have HJ:=hid hj;clear hp ho hj;go_wp2_with fail;refine(hasR_any s (j+1) _ HS.out A).mono ?_;rw[HP.out];rintro e w1 ⟨rfl,f1⟩;have V:=fr.trans' f1;go_wp2_with fail;refine(hasR_any s j _ HS.out (by omega)).mono ?_;rw[HJ.out];rintro e w2 ⟨rfl,L⟩;have f2:=f1.trans' L;clear f1 L;have f:w2.ownsRow 0 270 2 (.slice (some ⟨g,0,none⟩) (l0.length+1) U) (l0.length+1) (spC (l0++[(a,j+1-1)])):=by have:=m.on f2 (fun _ _ x=>x);unfold ZtD at this;rwa[H]at this
     have c1:=f.cellAt (l0.length*2+1) (by omega);have c2:=f.frozenAt (l0.length*2+1);have c3:=(Zux (l0++[(a,j+1-1)]) l0.length (by simp)).2;rw[c3]at c1;have F2:=hid (fr.trans' f2);have R:=hid f;clear fr f2 f m c3 H;go_wp2_with fail;have I:=R.out.stored (l0.length*2+1) (.int .u8 ((j+1:Nat):Int));rw[Zvo]at I;have S:=hid I.1;clear I c1 c2;go_roundw
     case rel=>
      refine⟨j+1+1,by go_num,by omega,?_,fun j hj=> ?_,F2.out.setCell (p:=⟨g,l0.length*2+1,none⟩) (fun h=>by have:=F.out;simp only at h;omega) _⟩
      ·rw[HN.out];unfold ZtD;rw[List.length_append];exact S.out
      ·obtain rfl:g=j:=by injection hj
       exact W
     case measure=>simp[intOf];omega
  ·obtain rfl:k=256:=by omega
   go_wp2;go_ret;exact⟨_,rfl,HO.out,F0.out.trans' fr,fun j hj=>by have:=n.out j hj;omega⟩
end Go.Proofs.YtgllcniibbaoaaaGreatDoor
