/-
  Merged texts of this claim: AdrK, CmdW, AdrO.
-/
import Derived.Test.YtkfddjopbocpkaaGreatDoorM11
import Derived.Test.YtkfddjopbocpkaaGreatDoorM20
import Derived.Test.YtkfddjopbocpkaaGreatDoorM25
import Derived.Test.YtkfddjopbocpkaaGreatDoorM31
set_option linter.unusedVariables false
set_option linter.unusedSimpArgs false
set_option maxRecDepth 100000
set_option maxHeartbeats 4000000
namespace Go.Proofs.YtkfddjopbocpkaaGreatDoor
open Go.Lib (hid)
open Go.RowKit
theorem BC.drew{w:World}{b c:Nat}{v0 v1 v2 v3 v4 u0 u1 u2 u3 u4 u5 u6 u7 u8:Value}(h:B5 w b v0 v1 v2 v3 v4∧C9 w c u0 u1 u2 u3 u4 u5 u6 u7 u8):B5 w.drew b v0 v1 v2 v3 v4∧C9 w.drew c u0 u1 u2 u3 u4 u5 u6 u7 u8:=h
theorem BC.set{w:World}{b c k j:Nat}{v0 v1 v2 v3 v4 u0 u1 u2 u3 u4 u5 u6 u7 u8:Value}(h:B5 w b v0 v1 v2 v3 v4∧C9 w c u0 u1 u2 u3 u4 u5 u6 u7 u8)(hb:k≠b)(hc:k≠c)(u:Value):B5 (w.setCell ⟨k,j,none⟩ u) b v0 v1 v2 v3 v4∧C9 (w.setCell ⟨k,j,none⟩ u) c u0 u1 u2 u3 u4 u5 u6 u7 u8:=by
 obtain⟨h1,c0,c1,c2,c3,c4,c5,c6,c7,c8⟩:=h;exact⟨h1.set hb u,Zl c0 hc,Zl c1 hc,Zl c2 hc,Zl c3 hc,Zl c4 hc,Zl c5 hc,Zl c6 hc,Zl c7 hc,Zl c8 hc⟩
theorem Ze9(l:List UInt8)(p:Nat)(x:BF)(w:World)(hl:l.length≤99000)(hp:p≤l.length)(hE:Env w)(gv:GV)(q:Nat)(ms:List (Nat×List UInt8))(hR:ZU x l ⟨p,[],0⟩=.inr (gv,⟨q,ms,0⟩))(O0:Nat→Prop)(hO0:∀k,O0 k→k<w.heap.size):
 Calls Tryz.prog 29 #[.string ⟨l.toArray⟩,.int .i64 (p:Nat),.bool x] w fun e w'=>∃v mv,e=.returned (.tuple #[v,mv,.int .i64 (q:Nat),.int .i64 0])∧ZkR nob w' gv v∧OwM w' ms mv∧Fr nob w w'∧∃T:Nat→Prop,(∀k,mv.ownBlock=some k→T k)∧(∀k,T k→w.heap.size≤k∧k<w'.heap.size)∧ZkR (SO T O0) w' gv v:=by
 obtain⟨w1,hw1⟩:∃w1,w1=w.alloc (.cells zG 30):=⟨_,rfl⟩;have f1:Fr nob w w1:=by rw[hw1];exact(Fr.refl _ _).alloc _
 have hz:w1.heap[w.heap.size]? =some (.cells zG 30 (0,0)):=by rw[hw1];exact newAt _ _
 have hs1:w1.heap.size=w.heap.size+1:=by rw[hw1];simp
 obtain⟨w2,hw2⟩:∃w2,w2=w1.alloc (.cells #[.string ⟨l.toArray⟩,.int .i64 (p:Nat),.bool x,.slice none 0 0,.int .i64 0] 116):=⟨_,rfl⟩;have f2:Fr nob w1 w2:=by rw[hw2];exact(Fr.refl _ _).alloc _
 have hb:w2.heap[w.heap.size+1]? =some (.cells #[.string ⟨l.toArray⟩,.int .i64 (p:Nat),.bool x,.slice none 0 0,.int .i64 0] 116 (0,0)):=by
  rw[hw2,←hs1];exact newAt _ _
 have hs2:w2.heap.size=w.heap.size+2:=by rw[hw2];simp[hs1]
 have hA:ARd (w.heap.size+1) l x ⟨p,[],0⟩ (fun k=>k=w.heap.size+1) w2:=⟨.slice none 0 0,⟨hb,World.ownsRow_nil _ _ _ _,fun _ h=>(by cases h),rfl⟩⟩;have hG:=ZgT (w.heap.size+1) l x p (fun k=>k=w.heap.size+1) (fun k=>k=w.heap.size∨O0 k) w2 hl hp (fun k hk=>by omega) (fun k hk=>by rcases hk with hk|hk;(·omega);(·have:=hO0 k hk;omega)) w hE (f1.trans' f2) (fun k hk=>by omega) hA;rw[hR]at hG;have hz':=f2.heap hz (fun x=>x);have q1:¬(l.length:Int)<(p:Int):=by omega
 have HG:=hid hG;have HW1:=hid hw1;have HW2:=hid hw2;have F12:=hid (f1.trans' f2);have HZ:=hid hz';have HS2:=hid hs2;have HS1:=hid hs1;clear hG hw1 hw2 f1 f2 hz hz' hb hA hs1 hs2 hE hR;go_enter Tryz.func29,Tryz.ntmps29
 go_wp2_with(first|rw[←HW1.out]|rw[HS1.out]|rw[←HW2.out])
 refine HG.out.mono ?_;intro e w3 he;obtain⟨v,S',rfl,⟨u1,u2,rfl,rn1,rn2⟩,hA3,st3⟩:=he;obtain⟨mv3,h3⟩:=hA3;have hz3:=st3.fr.heap HZ.out (fun h=>by omega);have hrb:w.heap.size≠w.heap.size+1:=by omega
 have hr3:w.heap.size≠w3.heap.size:=by have:=st3.fr.size;have:=HS2.out;omega
 have FF:=hid (F12.out.trans st3.fr (fun i hi h=>by omega));have hnr:∀k,mv3.ownBlock=some k→¬k=w.heap.size:=fun k hk e=>by
  have h1:=(h3.nm k hk).2;have h2:=st3.old k (by have:=HS2.out;omega) h1;have h2:k=w.heap.size+1:=h2;omega
 have hT1:∀k,mv3.ownBlock=some k→S' k:=fun k hk=>(h3.nm k hk).2;have hT2:∀k,S' k→w.heap.size≤k∧k<w3.heap.size:=fun k hk=>⟨by
  by_cases ho:k<w2.heap.size
  ·have h2:k=w.heap.size+1:=st3.old k ho hk;omega
  ·have:=HS2.out;omega,st3.lt (fun i (hi:i=w.heap.size+1)=>by have:=HS2.out;omega) k hk⟩
 have HT1:=hid hT1;have HT2:=hid hT2;clear hT1 hT2;obtain⟨w4,hw4⟩:∃w4,w4=w3.alloc (.cells #[.int .i64 gv.a.kind,.int .i64 gv.a.line,.string ⟨gv.a.text.toArray⟩,u1,.int .i64 gv.b.kind,.int .i64 gv.b.line,.string ⟨gv.b.text.toArray⟩,u2,.bool gv.no] 30):=⟨_,rfl⟩;have f4:Fr nob w3 w4:=by rw[hw4];exact(Fr.refl _ _).alloc _
 have hg4:w4.heap[w3.heap.size]? =some (.cells #[.int .i64 gv.a.kind,.int .i64 gv.a.line,.string ⟨gv.a.text.toArray⟩,u1,.int .i64 gv.b.kind,.int .i64 gv.b.line,.string ⟨gv.b.text.toArray⟩,u2,.bool gv.no] 30 (0,0)):=by rw[hw4];exact newAt _ _
 have hb4:=f4.heap h3.blk (fun x=>x);have hma:=h3.ma;obtain⟨am,cm,hmv⟩:=Zb hma;subst hmv;have hz4:=f4.heap hz3 (fun x=>x);have r4:=Zd hb4 _ (Fr.refl _ _);have HQ:=hid (And.intro (B5.of hb4) (C9.of hg4));have HQd:=hid (BC.drew (And.intro (B5.of hb4) (C9.of hg4)));have rz:=Zj hz4;have HT4:=hid (show∀k,S' k→w.heap.size≤k∧k<w4.heap.size from fun k hk=>⟨(HT2.out k hk).1,by have:=f4.size;have:=(HT2.out k hk).2;omega⟩);have HW4:=hid hw4;have HZ4:=hid hz4;have FF4:=hid (FF.out.trans' f4);have RN1:=hid (rn1.on f4);have RN2:=hid (rn2.on f4);have MA:=hid (ownsRow_fr hma f4 (fun _ _ x=>x));have NR:=hid hnr;have sh1:=rn1.shape;have sh2:=rn2.shape;clear rn1 rn2 hw4 f4 hb4 hz4 h3 hz3 st3 hg4 hma hnr;rcases sh1 with rfl|⟨i1,y1,rfl⟩
 all_goals rcases sh2 with rfl|⟨i2,y2,rfl⟩
 ·go_wp2_with(rw[←HW4.out])
  go_region_held3 (fun w'=>B5 w' (w.heap.size+1) (.string ⟨l.toArray⟩) (.int .i64 (q:Nat)) (.bool x) (.slice am ms.length cm) (.int .i64 0)∧C9 w' w3.heap.size (.int .i64 gv.a.kind) (.int .i64 gv.a.line) (.string ⟨gv.a.text.toArray⟩) .nilIface (.int .i64 gv.b.kind) (.int .i64 gv.b.line) (.string ⟨gv.b.text.toArray⟩) .nilIface (.bool gv.no)) (repeat(first|(with_reducible exact HQ.out)|(with_reducible exact HQd.out)|(with_reducible refine BC.set ?_ (by omega) (by omega) _)|(with_reducible refine BC.drew ?_))) (fail)
  all_goals
   obtain⟨w5,hw5⟩:∃w5,w5=(((((((((w4.setCell ⟨w.heap.size,0,none⟩ (.int .i64 gv.a.kind)).setCell ⟨w.heap.size,1,none⟩ (.int .i64 gv.a.line)).setCell ⟨w.heap.size,2,none⟩ (.string ⟨gv.a.text.toArray⟩)).setCell ⟨w.heap.size,3,none⟩ .nilIface).setCell ⟨w.heap.size,4,none⟩ (.int .i64 gv.b.kind)).setCell ⟨w.heap.size,5,none⟩ (.int .i64 gv.b.line)).setCell ⟨w.heap.size,6,none⟩ (.string ⟨gv.b.text.toArray⟩)).setCell ⟨w.heap.size,7,none⟩ .nilIface).setCell ⟨w.heap.size,8,none⟩ (.bool gv.no)).drew:=⟨_,rfl⟩;rw[←hw5];have hz5:w5.heap[w.heap.size]? =some (.cells #[.int .i64 gv.a.kind,.int .i64 gv.a.line,.string ⟨gv.a.text.toArray⟩,.nilIface,.int .i64 gv.b.kind,.int .i64 gv.b.line,.string ⟨gv.b.text.toArray⟩,.nilIface,.bool gv.no] 30 (0,0)):=by rw[hw5];exact Zo (Zf HZ4.out (.int .i64 gv.a.kind) (.int .i64 gv.a.line) (.string ⟨gv.a.text.toArray⟩) .nilIface (.int .i64 gv.b.kind) (.int .i64 gv.b.line) (.string ⟨gv.b.text.toArray⟩) .nilIface (.bool gv.no))
   have f45:Fr (fun k=>k=w.heap.size) w4 w5:=by rw[hw5];exact(Zaj (.int .i64 gv.a.kind) (.int .i64 gv.a.line) (.string ⟨gv.a.text.toArray⟩) .nilIface (.int .i64 gv.b.kind) (.int .i64 gv.b.line) (.string ⟨gv.b.text.toArray⟩) .nilIface (.bool gv.no)).drew
   have HFF:=hid (show Fr nob w w5 from FF4.out.trans f45 (fun i hi h=>by have h:i=w.heap.size:=h;omega));have HP1:=hid (RN.keep f45 (fun k _ h=>.inr (.inl h)) (fun _ _ x=>x.elim .inl (fun e=>.inr (.inr e))) _ _ RN1.out:RN (SO S' O0) w5 gv.a.tree .nilIface);have HR1:=hid (RN.keep f45 (fun k _ h=>.inr (.inl h)) (fun _ _ x=>x.elim) _ _ RN1.out:RN nob w5 gv.a.tree .nilIface);have HP2:=hid (RN.keep f45 (fun k _ h=>.inr (.inl h)) (fun _ _ x=>x.elim .inl (fun e=>.inr (.inr e))) _ _ RN2.out:RN (SO S' O0) w5 gv.b.tree .nilIface);have HT5:=hid (show∀k,S' k→w.heap.size≤k∧k<w5.heap.size from fun k hk=>⟨(HT4.out k hk).1,by have:=f45.size;have:=(HT4.out k hk).2;omega⟩);have HR2:=hid (RN.keep f45 (fun k _ h=>.inr (.inl h)) (fun _ _ x=>x.elim) _ _ RN2.out:RN nob w5 gv.b.tree .nilIface);have HMA:=hid (show OwM w5 ms (.slice am ms.length cm)from ownsRow_fr MA.out f45 (fun k hk h=>NR.out k hk h));have HZ5:=hid hz5
   clear hw5 hz5 f45 rz r4;go_wp2
   (try simp only[Exit.inBlock,Exit.then])
   exact bodyPost_ret (Zbb rfl rfl HZ5.out) rfl ⟨_,_,rfl,⟨_,_,rfl,HR1.out,HR2.out⟩,HMA.out,HFF.out,S',HT1.out,HT5.out,⟨_,_,rfl,HP1.out,HP2.out⟩⟩
 ·go_wp2_with(rw[←HW4.out])
  go_region_held3 (fun w'=>B5 w' (w.heap.size+1) (.string ⟨l.toArray⟩) (.int .i64 (q:Nat)) (.bool x) (.slice am ms.length cm) (.int .i64 0)∧C9 w' w3.heap.size (.int .i64 gv.a.kind) (.int .i64 gv.a.line) (.string ⟨gv.a.text.toArray⟩) .nilIface (.int .i64 gv.b.kind) (.int .i64 gv.b.line) (.string ⟨gv.b.text.toArray⟩) (.iface i2 y2) (.bool gv.no)) (repeat(first|(with_reducible exact HQ.out)|(with_reducible exact HQd.out)|(with_reducible refine BC.set ?_ (by omega) (by omega) _)|(with_reducible refine BC.drew ?_))) (fail)
  all_goals
   obtain⟨w5,hw5⟩:∃w5,w5=(((((((((w4.setCell ⟨w.heap.size,0,none⟩ (.int .i64 gv.a.kind)).setCell ⟨w.heap.size,1,none⟩ (.int .i64 gv.a.line)).setCell ⟨w.heap.size,2,none⟩ (.string ⟨gv.a.text.toArray⟩)).setCell ⟨w.heap.size,3,none⟩ .nilIface).setCell ⟨w.heap.size,4,none⟩ (.int .i64 gv.b.kind)).setCell ⟨w.heap.size,5,none⟩ (.int .i64 gv.b.line)).setCell ⟨w.heap.size,6,none⟩ (.string ⟨gv.b.text.toArray⟩)).setCell ⟨w.heap.size,7,none⟩ (.iface i2 y2)).setCell ⟨w.heap.size,8,none⟩ (.bool gv.no)).drew:=⟨_,rfl⟩;rw[←hw5];have hz5:w5.heap[w.heap.size]? =some (.cells #[.int .i64 gv.a.kind,.int .i64 gv.a.line,.string ⟨gv.a.text.toArray⟩,.nilIface,.int .i64 gv.b.kind,.int .i64 gv.b.line,.string ⟨gv.b.text.toArray⟩,.iface i2 y2,.bool gv.no] 30 (0,0)):=by rw[hw5];exact Zo (Zf HZ4.out (.int .i64 gv.a.kind) (.int .i64 gv.a.line) (.string ⟨gv.a.text.toArray⟩) .nilIface (.int .i64 gv.b.kind) (.int .i64 gv.b.line) (.string ⟨gv.b.text.toArray⟩) (.iface i2 y2) (.bool gv.no))
   have f45:Fr (fun k=>k=w.heap.size) w4 w5:=by rw[hw5];exact(Zaj (.int .i64 gv.a.kind) (.int .i64 gv.a.line) (.string ⟨gv.a.text.toArray⟩) .nilIface (.int .i64 gv.b.kind) (.int .i64 gv.b.line) (.string ⟨gv.b.text.toArray⟩) (.iface i2 y2) (.bool gv.no)).drew
   have HFF:=hid (show Fr nob w w5 from FF4.out.trans f45 (fun i hi h=>by have h:i=w.heap.size:=h;omega));have HP1:=hid (RN.keep f45 (fun k _ h=>.inr (.inl h)) (fun _ _ x=>x.elim .inl (fun e=>.inr (.inr e))) _ _ RN1.out:RN (SO S' O0) w5 gv.a.tree .nilIface);have HR1:=hid (RN.keep f45 (fun k _ h=>.inr (.inl h)) (fun _ _ x=>x.elim) _ _ RN1.out:RN nob w5 gv.a.tree .nilIface);have HP2:=hid (RN.keep f45 (fun k _ h=>.inr (.inl h)) (fun _ _ x=>x.elim .inl (fun e=>.inr (.inr e))) _ _ RN2.out:RN (SO S' O0) w5 gv.b.tree (.iface i2 y2));have HT5:=hid (show∀k,S' k→w.heap.size≤k∧k<w5.heap.size from fun k hk=>⟨(HT4.out k hk).1,by have:=f45.size;have:=(HT4.out k hk).2;omega⟩);have HR2:=hid (RN.keep f45 (fun k _ h=>.inr (.inl h)) (fun _ _ x=>x.elim) _ _ RN2.out:RN nob w5 gv.b.tree (.iface i2 y2));have HMA:=hid (show OwM w5 ms (.slice am ms.length cm)from ownsRow_fr MA.out f45 (fun k hk h=>NR.out k hk h))
   have HZ5:=hid hz5;clear hw5 hz5 f45 rz r4;go_wp2
   (try simp only[Exit.inBlock,Exit.then])
   exact bodyPost_ret (Zbb rfl rfl HZ5.out) rfl ⟨_,_,rfl,⟨_,_,rfl,HR1.out,HR2.out⟩,HMA.out,HFF.out,S',HT1.out,HT5.out,⟨_,_,rfl,HP1.out,HP2.out⟩⟩
 ·go_wp2_with(rw[←HW4.out])
  go_region_held3 (fun w'=>B5 w' (w.heap.size+1) (.string ⟨l.toArray⟩) (.int .i64 (q:Nat)) (.bool x) (.slice am ms.length cm) (.int .i64 0)∧C9 w' w3.heap.size (.int .i64 gv.a.kind) (.int .i64 gv.a.line) (.string ⟨gv.a.text.toArray⟩) (.iface i1 y1) (.int .i64 gv.b.kind) (.int .i64 gv.b.line) (.string ⟨gv.b.text.toArray⟩) .nilIface (.bool gv.no)) (repeat(first|(with_reducible exact HQ.out)|(with_reducible exact HQd.out)|(with_reducible refine BC.set ?_ (by omega) (by omega) _)|(with_reducible refine BC.drew ?_))) (fail)
  all_goals
   obtain⟨w5,hw5⟩:∃w5,w5=(((((((((w4.setCell ⟨w.heap.size,0,none⟩ (.int .i64 gv.a.kind)).setCell ⟨w.heap.size,1,none⟩ (.int .i64 gv.a.line)).setCell ⟨w.heap.size,2,none⟩ (.string ⟨gv.a.text.toArray⟩)).setCell ⟨w.heap.size,3,none⟩ (.iface i1 y1)).setCell ⟨w.heap.size,4,none⟩ (.int .i64 gv.b.kind)).setCell ⟨w.heap.size,5,none⟩ (.int .i64 gv.b.line)).setCell ⟨w.heap.size,6,none⟩ (.string ⟨gv.b.text.toArray⟩)).setCell ⟨w.heap.size,7,none⟩ .nilIface).setCell ⟨w.heap.size,8,none⟩ (.bool gv.no)).drew:=⟨_,rfl⟩;rw[←hw5];have hz5:w5.heap[w.heap.size]? =some (.cells #[.int .i64 gv.a.kind,.int .i64 gv.a.line,.string ⟨gv.a.text.toArray⟩,.iface i1 y1,.int .i64 gv.b.kind,.int .i64 gv.b.line,.string ⟨gv.b.text.toArray⟩,.nilIface,.bool gv.no] 30 (0,0)):=by rw[hw5];exact Zo (Zf HZ4.out (.int .i64 gv.a.kind) (.int .i64 gv.a.line) (.string ⟨gv.a.text.toArray⟩) (.iface i1 y1) (.int .i64 gv.b.kind) (.int .i64 gv.b.line) (.string ⟨gv.b.text.toArray⟩) .nilIface (.bool gv.no))
   have f45:Fr (fun k=>k=w.heap.size) w4 w5:=by rw[hw5];exact(Zaj (.int .i64 gv.a.kind) (.int .i64 gv.a.line) (.string ⟨gv.a.text.toArray⟩) (.iface i1 y1) (.int .i64 gv.b.kind) (.int .i64 gv.b.line) (.string ⟨gv.b.text.toArray⟩) .nilIface (.bool gv.no)).drew
   have HFF:=hid (show Fr nob w w5 from FF4.out.trans f45 (fun i hi h=>by have h:i=w.heap.size:=h;omega));have HP1:=hid (RN.keep f45 (fun k _ h=>.inr (.inl h)) (fun _ _ x=>x.elim .inl (fun e=>.inr (.inr e))) _ _ RN1.out:RN (SO S' O0) w5 gv.a.tree (.iface i1 y1));have HR1:=hid (RN.keep f45 (fun k _ h=>.inr (.inl h)) (fun _ _ x=>x.elim) _ _ RN1.out:RN nob w5 gv.a.tree (.iface i1 y1));have HP2:=hid (RN.keep f45 (fun k _ h=>.inr (.inl h)) (fun _ _ x=>x.elim .inl (fun e=>.inr (.inr e))) _ _ RN2.out:RN (SO S' O0) w5 gv.b.tree .nilIface);have HT5:=hid (show∀k,S' k→w.heap.size≤k∧k<w5.heap.size from fun k hk=>⟨(HT4.out k hk).1,by have:=f45.size;have:=(HT4.out k hk).2;omega⟩);have HR2:=hid (RN.keep f45 (fun k _ h=>.inr (.inl h)) (fun _ _ x=>x.elim) _ _ RN2.out:RN nob w5 gv.b.tree .nilIface);have HMA:=hid (show OwM w5 ms (.slice am ms.length cm)from ownsRow_fr MA.out f45 (fun k hk h=>NR.out k hk h))
   have HZ5:=hid hz5;clear hw5 hz5 f45 rz r4;go_wp2
   (try simp only[Exit.inBlock,Exit.then])
   exact bodyPost_ret (Zbb rfl rfl HZ5.out) rfl ⟨_,_,rfl,⟨_,_,rfl,HR1.out,HR2.out⟩,HMA.out,HFF.out,S',HT1.out,HT5.out,⟨_,_,rfl,HP1.out,HP2.out⟩⟩
 ·go_wp2_with(rw[←HW4.out])
  go_region_held3 (fun w'=>B5 w' (w.heap.size+1) (.string ⟨l.toArray⟩) (.int .i64 (q:Nat)) (.bool x) (.slice am ms.length cm) (.int .i64 0)∧C9 w' w3.heap.size (.int .i64 gv.a.kind) (.int .i64 gv.a.line) (.string ⟨gv.a.text.toArray⟩) (.iface i1 y1) (.int .i64 gv.b.kind) (.int .i64 gv.b.line) (.string ⟨gv.b.text.toArray⟩) (.iface i2 y2) (.bool gv.no)) (repeat(first|(with_reducible exact HQ.out)|(with_reducible exact HQd.out)|(with_reducible refine BC.set ?_ (by omega) (by omega) _)|(with_reducible refine BC.drew ?_))) (fail)
  all_goals
   obtain⟨w5,hw5⟩:∃w5,w5=(((((((((w4.setCell ⟨w.heap.size,0,none⟩ (.int .i64 gv.a.kind)).setCell ⟨w.heap.size,1,none⟩ (.int .i64 gv.a.line)).setCell ⟨w.heap.size,2,none⟩ (.string ⟨gv.a.text.toArray⟩)).setCell ⟨w.heap.size,3,none⟩ (.iface i1 y1)).setCell ⟨w.heap.size,4,none⟩ (.int .i64 gv.b.kind)).setCell ⟨w.heap.size,5,none⟩ (.int .i64 gv.b.line)).setCell ⟨w.heap.size,6,none⟩ (.string ⟨gv.b.text.toArray⟩)).setCell ⟨w.heap.size,7,none⟩ (.iface i2 y2)).setCell ⟨w.heap.size,8,none⟩ (.bool gv.no)).drew:=⟨_,rfl⟩;rw[←hw5];have hz5:w5.heap[w.heap.size]? =some (.cells #[.int .i64 gv.a.kind,.int .i64 gv.a.line,.string ⟨gv.a.text.toArray⟩,.iface i1 y1,.int .i64 gv.b.kind,.int .i64 gv.b.line,.string ⟨gv.b.text.toArray⟩,.iface i2 y2,.bool gv.no] 30 (0,0)):=by rw[hw5];exact Zo (Zf HZ4.out (.int .i64 gv.a.kind) (.int .i64 gv.a.line) (.string ⟨gv.a.text.toArray⟩) (.iface i1 y1) (.int .i64 gv.b.kind) (.int .i64 gv.b.line) (.string ⟨gv.b.text.toArray⟩) (.iface i2 y2) (.bool gv.no))
   have f45:Fr (fun k=>k=w.heap.size) w4 w5:=by rw[hw5];exact(Zaj (.int .i64 gv.a.kind) (.int .i64 gv.a.line) (.string ⟨gv.a.text.toArray⟩) (.iface i1 y1) (.int .i64 gv.b.kind) (.int .i64 gv.b.line) (.string ⟨gv.b.text.toArray⟩) (.iface i2 y2) (.bool gv.no)).drew
   have HFF:=hid (show Fr nob w w5 from FF4.out.trans f45 (fun i hi h=>by have h:i=w.heap.size:=h;omega));have HP1:=hid (RN.keep f45 (fun k _ h=>.inr (.inl h)) (fun _ _ x=>x.elim .inl (fun e=>.inr (.inr e))) _ _ RN1.out:RN (SO S' O0) w5 gv.a.tree (.iface i1 y1));have HR1:=hid (RN.keep f45 (fun k _ h=>.inr (.inl h)) (fun _ _ x=>x.elim) _ _ RN1.out:RN nob w5 gv.a.tree (.iface i1 y1));have HP2:=hid (RN.keep f45 (fun k _ h=>.inr (.inl h)) (fun _ _ x=>x.elim .inl (fun e=>.inr (.inr e))) _ _ RN2.out:RN (SO S' O0) w5 gv.b.tree (.iface i2 y2));have HT5:=hid (show∀k,S' k→w.heap.size≤k∧k<w5.heap.size from fun k hk=>⟨(HT4.out k hk).1,by have:=f45.size;have:=(HT4.out k hk).2;omega⟩);have HR2:=hid (RN.keep f45 (fun k _ h=>.inr (.inl h)) (fun _ _ x=>x.elim) _ _ RN2.out:RN nob w5 gv.b.tree (.iface i2 y2));have HMA:=hid (show OwM w5 ms (.slice am ms.length cm)from ownsRow_fr MA.out f45 (fun k hk h=>NR.out k hk h))
   have HZ5:=hid hz5;clear hw5 hz5 f45 rz r4;go_wp2
   (try simp only[Exit.inBlock,Exit.then])
   exact bodyPost_ret (Zbb rfl rfl HZ5.out) rfl ⟨_,_,rfl,⟨_,_,rfl,HR1.out,HR2.out⟩,HMA.out,HFF.out,S',HT1.out,HT5.out,⟨_,_,rfl,HP1.out,HP2.out⟩⟩
section
variable {l:List UInt8} {s:AdS} {N:Nat}
theorem Z0(e:Int)(p:Nat)(h:s.marks.length≤N):(failC s e p).marks.length≤N:=by unfold failC;split<;>assumption
theorem ZaQ(e:Int)(p:Nat)(h:s.marks.length≤N):(ZR s p e).marks.length≤N:=by unfold ZR;split<;>assumption
theorem Zfa(must:Bool)(h:s.marks.length≤N):(labelC l must s).2.marks.length≤N:=by
 unfold labelC;split
 ·exact ZaQ _ _ h
 ·exact ZaQ _ _ h
theorem Zg4(h:s.marks.length≤N):(ZaC l s).2.marks.length≤N:=by
 unfold ZaC;split
 ·exact Z0 _ _ h
 ·exact ZaQ _ _ h
theorem Zjh(b:Nat)(h:s.marks.length≤N):(Zab l b s).2.marks.length≤N+1:=by
 unfold Zab;simp only;have h1:(s.to (bhd l [32,9] s.at_)).marks.length≤N+1:=Nat.le_succ_of_le h;split
 ·exact Z0 _ _ h1
 ·split
  ·exact Z0 _ _ h1
  ·split
   ·exact ZaQ _ _ h1
   ·refine ZaQ _ _ ?_;show(s.marks++[_]).length≤N+1;rw[List.length_append];simpa using h
theorem Zfb(h:s.marks.length≤N):(Zs l s).2.marks.length≤N:=by
 unfold Zs;split
 ·exact Z0 _ _ h
 ·split
  ·exact Z0 _ _ h
  ·exact h
theorem ZcX(d:UInt8)(rx:Bool)(h:s.marks.length≤N):(Zp l d rx s).2.marks.length≤N:=by
 unfold Zp;split
 ·exact h
 ·exact ZaQ _ _ h
theorem Zkw(d:UInt8)(rx:Bool):(Zp l d rx s).1.length≤l.length:=by
 unfold Zp;split
 ·exact Nat.zero_le _
 ·have:=ZcK l d rx (l.length+1) s.at_ [];simp only[List.length_nil]at this;show(bt l d rx (l.length+1) s.at_ []).1.length≤_;omega
theorem Zji(x:Bool)(d:UInt8)(hs:s.at_≤l.length)(h:s.marks.length≤N):(Zak x l d s).2.marks.length≤N+l.length:=by
 unfold Zak;simp only;have hb:=ZcX (l:=l) d true h;have hb':=Zkw (l:=l) (s:=s) d true;have h2:(if(Zp l d true s).2.e=0∧(Zp l d true s).1=[]then failC (Zp l d true s).2 2 s.at_ else(Zp l d true s).2).marks.length≤N:=by
  split
  ·exact Z0 _ _ hb
  ·exact hb
 generalize(if(Zp l d true s).2.e=0∧(Zp l d true s).1=[]then failC (Zp l d true s).2 2 s.at_ else(Zp l d true s).2)=s2 at h2⊢;split
 ·exact Nat.le_trans h2 (Nat.le_add_right _ _)
 ·cases hp:Zah prg x (Zp l d true s).1 with
  |inl z=>exact Nat.le_trans (Z0 _ _ h2) (Nat.le_add_right _ _)
  |inr z=>
   obtain⟨n,r⟩:=z;have h3:=(parseD_marks hp).2.1;show(s2.marks++r.marks.map (shM s.at_)).length≤_;rw[List.length_append,List.length_map];omega
theorem Zkx(sub:SV)(h:s.marks.length≤N):(Zai l sub s).2.2.marks.length≤N:=by
 unfold Zai;split
 ·simp only;split;exact Z0 _ _ h;exact h
 ·split
  ·simp only;split;exact Z0 _ _ h;exact h
  ·split
   ·simp only;split
    ·exact Z0 _ _ h
    ·have hm:=ZaQ (nm s.at_ (l.drop s.at_) 0 0).2.2 (nm s.at_ (l.drop s.at_) 0 0).2.1 h;split
     ·exact Z0 _ _ hm
     ·exact hm
   ·split
    ·exact Zg4 h
    ·exact h
theorem Zfc:∀(n:Nat) (sub:SV) (s:AdS),s.marks.length≤N→(Zac l n sub s).2.marks.length≤N
 |0,_,_,h=>h
 |n+1,sub,s,h=>by
  rw[Zac];have hf:=Zkx (l:=l) sub h;cases hr:Zai l sub s with
  |mk a b=>
   rw[hr]at hf;obtain⟨b,c⟩:=b;cases a with
   |true=>exact Zfc n b c hf
   |false=>exact hf
theorem ZlQ(x:Bool)(hs:s.at_≤l.length)(h:s.marks.length≤N):(Zdo x l s).2.marks.length≤N+l.length:=by
 unfold Zdo;simp only;have h1:=Zfb (l:=l) h;have hs1:=ZaN hs;split
 ·exact Nat.le_trans h1 (Nat.le_add_right _ _)
 ·have h2:=Zji x (Zs l s).1 hs1 h1;have h3:=ZcX (l:=l) (Zs l s).1 false h2;split
  ·exact h3
  ·split
   ·exact Z0 _ _ h3
   ·exact Zfc _ _ _ h3
theorem Zjj(h:s.marks.length≤N):(ZaB l s).2.marks.length≤N:=by
 unfold ZaB;simp only;have h1:=Zfb (l:=l) h;have h2:=ZcX (l:=l) (Zs l s).1 false h1;have h3:=ZcX (l:=l) (Zs l s).1 false h2;split
 ·exact h3
 ·split
  ·exact Z0 _ _ h3
  ·split
   ·exact h3
   ·exact Z0 _ _ h3
theorem Zg5(x:Bool)(c:CV)(hs:s.at_≤l.length)(h:s.marks.length≤N):(argsC x l c s).2.2.marks.length≤N+l.length+1:=by
 unfold argsC;split
 ·show s.marks.length≤_;omega
 split
 ·have:=Zfa (l:=l) true h;show(labelC l true s).2.marks.length≤_;omega
 split
 ·have:=Zfa (l:=l) false h;show(labelC l false s).2.marks.length≤_;omega
 split
 ·have:=Zjh (l:=l) c.at_ h;show(Zab l c.at_ s).2.marks.length≤_;omega
 split
 ·have:=Zg4 (l:=l) h;show(ZaC l s).2.marks.length≤_;omega
 split
 ·have:=ZlQ x hs h;show(Zdo x l s).2.marks.length≤_;omega
 split
 ·have:=Zjj (l:=l) h;show(ZaB l s).2.marks.length≤_;omega
 ·show s.marks.length≤_;omega
end
theorem Zjk{l:List UInt8}{a b:AV}{s s':AdS}{g:GV}(h:ZfU l a b s=.inr (g,s')):s'.marks=s.marks:=by
 unfold ZfU at h;split at h
 ·split at h
  ·cases h
  ·injection h with h;injection h with _ h;subst h;rfl
 ·injection h with h;injection h with _ h;subst h;rfl
theorem guardD_mk{x:Bool}{l:List UInt8}{p:Nat}{g:GV}{s':AdS}(hp:p≤l.length)(h:ZU x l ⟨p,[],0⟩=.inr (g,s')):s'.marks.length≤2*l.length+2:=by
 unfold ZU at h;cases ha:Zar x l false ⟨p,[],0⟩with
 |inl e=>rw[ha]at h;cases h
 |inr z=>
  obtain⟨a,s1⟩:=z;rw[ha]at h;simp only at h;have h1:s1.marks.length≤([]:List (Nat×List UInt8)).length+l.length+1:=(Zae (s:=⟨p,[],0⟩) hp rfl ha).mks;simp only[List.length_nil]at h1;by_cases hk:a.kind=0
  ·rw[if_pos hk]at h;simp only at h;rw[Zjk h];omega
  ·rw[if_neg hk]at h;cases hb:Zbs x l s1 with
   |inl e=>rw[hb]at h;cases h
   |inr z=>
    obtain⟨b,s2⟩:=z;rw[hb]at h;simp only at h;have h2:=(pairD_in hb).mks;rw[Zjk h];omega
def AV.same(a b:AV):Prop:=a.kind=b.kind∧((a.kind=1∨a.kind=4)→a.line=b.line)∧(a.kind=3→a.tree.norm=b.tree.norm)
theorem Zg6(a b:AV)(va vb:Value)(w:World)(sa:a.tree.size≤3000000)(sb:b.tree.size≤3000000)(ha:ZiR nob w a va)(hb:ZiR nob w b vb):
 Calls Tryz.prog 60 #[va,vb] w fun e w'=>∃r:Bool,e=.returned (.bool r)∧(r=true↔AV.same a b)∧Fr nob w w':=by
 obtain⟨k1,n1,t1,d1⟩:=a;obtain⟨k2,n2,t2,d2⟩:=b;obtain⟨u1,rfl,r1⟩:=ha;obtain⟨u2,rfl,r2⟩:=hb;simp only at sa sb r1 r2⊢;have o1:=r1.shape;have o2:=r2.shape;have HS:=hid (fun(w':World) (f:Fr nob w w')=>ZgB 3000000 d1 d2 u1 u2 w' sa sa sb (r1.on f) (r2.on f));clear r1 r2;unfold AV.same;simp only;rcases o1 with rfl|⟨i1,y1,rfl⟩<;>rcases o2 with rfl|⟨i2,y2,rfl⟩
 all_goals
  by_cases hk:k1=k2
  ·subst hk;by_cases h1:k1=1
   ·subst h1;go_enter Tryz.func60,Tryz.ntmps60;go_wp2;go_ret;exact⟨_,rfl,by simp,((Fr.refl nob w).alloc _).alloc _⟩
   ·by_cases h4:k1=4
    ·subst h4;go_enter Tryz.func60,Tryz.ntmps60;go_wp2;go_ret;exact⟨_,rfl,by simp,((Fr.refl nob w).alloc _).alloc _⟩
    ·by_cases h3:k1=3
     ·subst h3;go_enter Tryz.func60,Tryz.ntmps60
      go_wp2_with fail
      refine(HS.out _ (((Fr.refl nob w).alloc _).alloc _)).mono ?_;rintro e w3 ⟨r,rfl,hr,f3⟩;have F3:=hid ((((Fr.refl nob w).alloc _).alloc _).trans' f3);clear f3;go_wp2;go_ret;exact⟨_,rfl,by rw[hr];simp,F3.out⟩
     ·have e1:(k1==1)=false:=by simpa using h1
      have e4:(k1==4)=false:=by simpa using h4
      have e3:(k1==3)=false:=by simpa using h3
      have H:=hid (And.intro h1 (And.intro h4 h3));clear h1 h4 h3;go_enter Tryz.func60,Tryz.ntmps60;go_wp2;go_ret;exact⟨_,rfl,by have:=H.out;simp[this.1,this.2.1,this.2.2],((Fr.refl nob w).alloc _).alloc _⟩
  ·have e1:(k1==k2)=false:=by simpa using hk
   have H:=hid hk;clear hk;go_enter Tryz.func60,Tryz.ntmps60;go_wp2;go_ret;exact⟨_,rfl,by simp[H.out],((Fr.refl nob w).alloc _).alloc _⟩
def GV.same(a b:GV):Prop:=AV.same a.a b.a∧AV.same a.b b.b∧a.no=b.no
theorem ZhM(g h:GV)(vg vh:Value)(w:World)(s1:g.a.tree.size≤3000000)(s2:g.b.tree.size≤3000000)(s3:h.a.tree.size≤3000000)(s4:h.b.tree.size≤3000000)(hg:ZkR nob w g vg)(hh:ZkR nob w h vh):
 Calls Tryz.prog 32 #[vg,vh] w fun e w'=>∃r:Bool,e=.returned (.bool r)∧(r=true↔GV.same g h)∧Fr nob w w':=by
 obtain⟨A,B,n⟩:=g;obtain⟨C,D,m⟩:=h;obtain⟨u1,u2,rfl,r1,r2⟩:=hg;obtain⟨u3,u4,rfl,r3,r4⟩:=hh;simp only at s1 s2 s3 s4 r1 r2 r3 r4⊢;have o1:=r1.shape;have o2:=r2.shape;have o3:=r3.shape;have o4:=r4.shape;have HA:=hid (fun(w':World) (f:Fr nob w w')=>Zg6 A C _ _ w' s1 s3 ⟨u1,rfl,r1.on f⟩ ⟨u3,rfl,r3.on f⟩);have HB:=hid (fun(w':World) (f:Fr nob w w')=>Zg6 B D _ _ w' s2 s4 ⟨u2,rfl,r2.on f⟩ ⟨u4,rfl,r4.on f⟩);clear r1 r2 r3 r4 s1 s2 s3 s4;unfold GV.same;simp only;rcases o1 with rfl|⟨i1,y1,rfl⟩<;>rcases o2 with rfl|⟨i2,y2,rfl⟩<;>rcases o3 with rfl|⟨i3,y3,rfl⟩<;>rcases o4 with rfl|⟨i4,y4,rfl⟩
 all_goals
  go_enter Tryz.func32,Tryz.ntmps32
  go_wp2_with fail
  refine(HA.out _ (((Fr.refl nob w).alloc _).alloc _)).mono ?_;rintro e w3 ⟨r,rfl,hr,f3⟩;have g1:=f3.heap (((Fr.refl nob _).alloc _).heap (newAt0 w _) (fun x=>x)) (fun x=>x);have g2:=f3.heap (newAt0 (w.alloc _) _) (fun x=>x);rw[show∀B,(w.alloc B).heap.size=w.heap.size+1 from fun B=>by simp]at g2;have ra:=Zj g1;have rb:=Zj g2;have F3:=hid ((((Fr.refl nob w).alloc _).alloc _).trans' f3);have HR:=hid hr;have G1:=hid g1;have G2:=hid g2;clear hr g1 g2 f3;cases r with
  |false=>
   go_wp2;go_ret;exact⟨_,rfl,by simp only[←HR.out];simp,F3.out⟩
  |true=>
   go_wp2_with fail
   refine(HB.out _ F3.out).mono ?_;rintro e w4 ⟨r,rfl,hr,f4⟩;have F4:=hid (F3.out.trans' f4);have HR2:=hid hr;have ra4:=Zj (f4.heap G1.out (fun x=>x));have rb4:=Zj (f4.heap G2.out (fun x=>x));clear hr f4 ra rb;cases r with
   |false=>
    go_wp2;go_ret;exact⟨_,rfl,by simp only[←HR2.out];simp,F4.out⟩
   |true=>
    rcases(by cases n<;>cases m<;>simp:(n=m∧(n==m)=true)∨(n≠m∧(n==m)=false))with⟨e,e2⟩|⟨e,e2⟩
    ·have E:=hid e;clear e;go_wp2;go_ret;exact⟨_,rfl,by simp only[←HR.out,←HR2.out,E.out];simp,F4.out⟩
    ·have E:=hid e;clear e;go_wp2;go_ret;exact⟨_,rfl,by simp only[←HR.out,←HR2.out];simp[E.out],F4.out⟩
end Go.Proofs.YtkfddjopbocpkaaGreatDoor
