/- Lemmas of this claim. -/
import Derived.LaidMore
import Derived.Lay
import Derived.Stop.Joined
import Derived.Lib.LaidTab
import Derived.Shelf.Vars
import Derived.Test.YtkfddjopbocpkaaGreatDoorM08
set_option linter.unusedVariables false
set_option linter.unusedSimpArgs false
set_option maxRecDepth 100000
set_option maxHeartbeats 4000000
namespace Go.Proofs.YtkfddjopbocpkaaGreatDoor
open Go.Lib (hid)
open Go.RowKit
abbrev ZoS(l:List UInt8)(w0:World)(b r4 r9:Nat)(F:(Int×Nat)⊕(S4×Nat))(n:Nat)(wr:World):Prop:=
 ∃R s,Zdy b l 0 s R wr∧At4 wr r9 s∧At4 wr r4 S4.zero∧Fr nob w0 wr∧ZjH l n R=F∧ZoR l n R
theorem Zkc(l:List UInt8)(a:Nat)(w:World)(hl:l.length≤100000)(ha:a≤l.length)(hE:Env w):
 Calls Tryz.prog 254 #[.string ⟨l.toArray⟩,.int .i64 a] w fun e w'=>e=.returned (Zp8 (prs l a))∧Fr nob w w':=by
 obtain⟨w0,hw0⟩:∃w0,w0=(w.alloc (.cells #[.int .u64 0,.int .u64 0,.int .u64 0,.int .u64 0] 132)).alloc (.cells #[.string ⟨l.toArray⟩,.int .i64 a,.int .i64 0,.int .i64 0] 323):=⟨_,rfl⟩;have f0:Fr nob w w0:=by rw[hw0];exact((Fr.refl _ _).alloc _).alloc _
 have hw2:=hE.1;have hz0:w0.heap[w.heap.size]? =some (.cells #[.int .u64 0,.int .u64 0,.int .u64 0,.int .u64 0] 132 (0,0)):=by rw[hw0];exact Ze _ (newAt _ _)
 have hr0:Rd w0 (w.heap.size+1) l a 0 0:=by
  rw[hw0];unfold Rd;have:=newAt (w.alloc (.cells #[.int .u64 0,.int .u64 0,.int .u64 0,.int .u64 0] 132)) (.cells #[.string ⟨l.toArray⟩,.int .i64 a,.int .i64 0,.int .i64 0] 323);simpa using this
 have hb2:Zj3≤w.heap.size+1:=Env.big hE;have hE0:=hE.on f0;obtain⟨b,hb⟩:∃b,w.heap.size+1=b:=⟨_,rfl⟩;rw[hb]at hr0 hb2;have rr0:=Zl hr0;have hal:(a:Int)≤l.length:=by omega
 have ha0:(0:Int)≤a:=by omega
 obtain⟨d0,hd0⟩:∃d,[94].isPrefixOf (l.drop a)=d:=⟨_,rfl⟩;have hc0:∀w',Fr nob w0 w'→_:=fun w' f=>Zbr b l [94] a 0 0 w' (by omega) (by simp) ha (hr0.on f);rw[hd0]at hc0;have C0:=hid hc0;have HR0:=hid hr0;have HZ0:=hid hz0;have FW0:=hid f0;have HE0:=hid hE0;have HW0:=hid hw0;have HBB:=hid hb;have hbs:w.heap.size<b:=by omega
 clear hc0 hr0 hz0 f0 hE0 hw0 hE hb hw2;cases d0 with
 |true=>
  have HD0:=hid hd0;clear hd0;go_enter Tryz.func254,Tryz.ntmps254;go_wp2_with fail;rw[←HW0.out];simp only[HBB.out];refine(C0.out w0 (Fr.refl _ _)).mono ?_;rintro e w1 ⟨rfl,f1⟩;have HR1:=hid (HR0.out.on f1);have HZ1:=hid (f1.heap HZ0.out (fun x=>x));have FW1:=hid (FW0.out.trans' f1);have HE1:=hid (HE0.out.on f1);clear f1;have hlt:a+1≤l.length:=by
   have:=(List.getElem?_eq_some_iff.1 (ZlH.1 HD0.out)).1;omega
  have rr1:=Zl HR1.out;obtain⟨w2,hw2⟩:∃w2,w2=w1.setCell ⟨b,1,none⟩ (.int .i64 ((a:Int)+1)):=⟨_,rfl⟩;have HR2:=hid (show Rd w2 b l ((a+1:Nat):Int) 0 0 by
   rw[hw2,show((a+1:Nat):Int)=(a:Int)+1 by omega];exact Za HR1.out 1 _)
  have HZ2:=hid (show w2.heap[w.heap.size]? =some (.cells #[.int .u64 0,.int .u64 0,.int .u64 0,.int .u64 0] 132 (0,0)) by rw[hw2];exact Zc HZ1.out (by simp only;omega) _);have FW2:=hid (show Fr nob w w2 by rw[hw2];exact Fr.setCell (p:=⟨b,1,none⟩) FW1.out (fun h=>absurd h (by simp only;omega)) _);have HE2:=hid (show Env w2 by rw[hw2];exact HE1.out.on2 (Fr.setCell (S:=fun k=>k=b) (p:=⟨b,1,none⟩) (Fr.refl _ _) (fun _=>rfl) _) hb2);have HW2:=hid hw2;clear hw2;go_wp2_with fail;rw[←HW2.out];refine(part_any b l (a+1) 0 w2 hl hlt hb2 HE2.out HR2.out).mono ?_;rintro e w3 ⟨s,rfl,hs,f3,hend⟩;have hz3:=f3.heap HZ2.out (fun e=>by omega);obtain⟨w4,hw4⟩:∃w4,w4=w3.alloc (.cells #[.int .u64 s.a,.int .u64 s.b,.int .u64 s.c,.int .u64 s.d] 132):=⟨_,rfl⟩;have f34:Fr nob w3 w4:=by rw[hw4];exact(Fr.refl _ _).alloc _
  have hbw2:=lt_heap HR2.out;have hz4:=f34.heap hz3 (fun x=>x);have hlz4:=lt_heap hz3;obtain⟨r9,hr9⟩:∃r,w3.heap.size=r:=⟨_,rfl⟩;have h94:At4 w4 r9 s:=by rw[hw4,←hr9];exact newAt _ _
  have hb9:b<r9:=by rw[←hr9];exact Nat.lt_of_lt_of_le hbw2 f3.size
  have F4:=hid ((FW2.out.trans f3 (fun i hi e=>by omega)).trans' f34);have HE4:=hid ((HE2.out.on2 f3 hb2).on f34);have hend4:=hend.to (w':=w4) (fun x r q h=>h.on f34);have hF:prs l a=Zex _ (ZjH l (l.length+1) (prt l (a+1))):=ZnR HD0.out;have hN0:ZoR l (l.length+1) (prt l (a+1)):=fun x hx=>by
   have:=prt_next hx;exact⟨this.2.1,by omega⟩
  obtain⟨F,hFF⟩:∃F,ZjH l (l.length+1) (prt l (a+1))=F:=⟨_,rfl⟩;rw[hFF]at hF;have HF:=hid hF;have HW4:=hid hw4;have HI:=hid (show ZoS l w b w.heap.size r9 F (l.length+1) w4 from⟨_,s,hend4,h94,hz4,F4.out,hFF,hN0⟩);have H9:=hid hr9;clear hz3 hw4 f34 hz4 h94 hend hend4 hF hN0 hFF hr9 hs f3;go_wp2_with fail;rw[←HW4.out];simp only[H9.out]
  go_loopg [] (l.length+1) (fun n wr=>ZoS l w b w.heap.size r9 F n wr∧Env wr)
  case atStart=>exact⟨HI.out,HE4.out⟩
  case round=>
   obtain⟨⟨R,o,hend,h9,hz,hfr,hF,hN⟩,hEr⟩:=hrel;have rz:=Zl hz;have rq9:=Zl h9;have HEND:=hid hend;have HZ:=hid hz;have HH9:=hid h9;have HFR:=hid hfr;have HER:=hid hEr;clear hend hz h9 hfr hEr;have HF0:=hid hF;clear hF;cases R with
   |inl z=>
    obtain⟨a',h1,h2,h3⟩:=HEND.out;have rr:=Zl h3;have t1:(z.1==0)=false:=by simpa using h2
    have t2:(z.1 !=0)=true:=by simpa using h2
    have HFz:=hid (HF0.out.symm:F=.inl z);have HRz:=hid h3;clear h1 h2 h3 hN;have hne:w.heap.size≠b:=by omega
    have HQ:=hid (show RQ wr b (.int .i64 z.1) (.int .i64 z.2)from⟨cell_at HRz.out rfl,cell_at HRz.out rfl⟩);have HQd:=hid (show RQ wr.drew b (.int .i64 z.1) (.int .i64 z.2)from⟨cell_at HRz.out rfl,cell_at HRz.out rfl⟩);have HZd:=hid (show At4 wr.drew w.heap.size S4.zero from HZ.out);have FRd:=hid HFR.out.drew;go_wp2_with fail
    go_region_held3 (fun w'=>RQ w' b (.int .i64 z.1) (.int .i64 z.2)) (repeat(first|(with_reducible exact HQ.out)|(with_reducible exact HQd.out)|(with_reducible refine RQ.set ?_ hne _)|(with_reducible refine RQ.drew ?_))) (fail)
    all_goals
     go_wp2;(try simp only[Exit.inBlock,Exit.then]);refine bodyPost_ret (Zx (s:=S4.zero) rfl rfl rfl rfl (setFour_heap HZd.out _ _ _ _)) rfl ⟨?_,setFour_frS FRd.out (Nat.le_refl _) _ _ _ _⟩;rw[HF.out,HFz.out];rfl
   |inr x=>
    obtain⟨o1,n0⟩:=x;obtain⟨hso,h3⟩:=HEND.out;simp only at hso;subst hso;obtain⟨hn0,hng⟩:=hN _ rfl;simp only at hn0 hng h3 rq9;obtain⟨m,rfl⟩:∃m,gk=m+1:=⟨gk-1,by omega⟩;have rr:=Zl h3;have hnl:(n0:Int)≤l.length:=by omega
    have hn00:(0:Int)≤n0:=by omega
    have hwr:IntKind.i64.wrap ((n0:Int)+1)=(n0:Int)+1:=IntWalk.i64_in _ (by omega);obtain⟨D,hD⟩:∃d,[93].isPrefixOf (l.drop n0)=d:=⟨_,rfl⟩;have hc1:=Zbr b l [93] n0 0 0 wr (by omega) (by simp) hn0 h3;rw[hD]at hc1;have C1:=hid hc1;have HR:=hid h3;have HD:=hid hD;clear hc1 h3 hD hN HEND;cases D with
    |true=>
     have HFy:=hid (show F=.inr (o,n0) by rw[←HF0.out];exact Zj9 (ZlH.1 HD.out));go_wp2_with fail;refine C1.out.mono ?_;rintro e w5 ⟨rfl,f5⟩;have HR5:=hid (HR.out.on f5);have HZ5:=hid (f5.heap HZ.out (fun x=>x));have H95:=hid (f5.heap HH9.out (fun x=>x));have F5:=hid (HFR.out.trans' f5);go_wp2_with fail;refine(not_lit o w5).mono ?_;obtain⟨N,hNo⟩:∃N,o.not=N:=⟨_,rfl⟩;rw[hNo];rintro e w6 ⟨rfl,f6⟩;obtain⟨w7,hw7⟩:∃w7,w7=(((w6.setCell ⟨r9,0,none⟩ (.int .u64 N.a)).setCell ⟨r9,1,none⟩ (.int .u64 N.b)).setCell ⟨r9,2,none⟩ (.int .u64 N.c)).setCell ⟨r9,3,none⟩ (.int .u64 N.d):=⟨_,rfl⟩;have h97:At4 w7 r9 N:=by rw[hw7];exact setFour_heap (f6.heap H95.out (fun x=>x)) _ _ _ _
     have hr7:Rd w7 b l n0 0 0:=by rw[hw7];exact Zy (HR5.out.on f6) (by omega) _ _ _ _
     have hz7:At4 w7 w.heap.size S4.zero:=by rw[hw7];exact Zy (f6.heap HZ5.out (fun x=>x)) (by omega) _ _ _ _
     have F7:=hid (show Fr nob w w7 by rw[hw7];exact setFour_frS (F5.out.trans' f6) (by omega) _ _ _ _);have HNo:=hid hNo;have HW7:=hid hw7;have rn6:=Zl (f6.heap H95.out (fun x=>x));clear hNo hw7;go_wp2_with fail;rw[←HW7.out];have rr7:=Zl hr7;have rn7:=Zl h97;have rz7:=Zl hz7;have HZ7:=hid hz7;have HR7:=hid hr7;have H97:=hid h97;clear hr7 h97 hz7;have hne:w.heap.size≠b:=by omega
     have hne9:w.heap.size≠r9:=by omega
     have HQ7:=hid (show RA w7 b (.int .i64 n0) r9 N from⟨cell_at HR7.out rfl,Q4.of H97.out⟩);have HQ7d:=hid (show RA (World.drew w7) b (.int .i64 n0) r9 N from⟨cell_at HR7.out rfl,Q4.of H97.out⟩);have HZd:=hid (show At4 (World.drew w7) w.heap.size S4.zero from HZ7.out);have FRd:=hid (Fr.drew F7.out)
     go_region_held3 (fun w'=>RA w' b (.int .i64 n0) r9 N) (repeat(first|(with_reducible exact HQ7.out)|(with_reducible exact HQ7d.out)|(with_reducible refine RA.set ?_ hne hne9 _)|(with_reducible refine RA.drew ?_))) (fail)
     all_goals
      go_wp2;(try simp only[Exit.inBlock,Exit.then]);refine bodyPost_ret (Zx (s:=N) rfl rfl rfl rfl (setFour_heap HZd.out _ _ _ _)) rfl ⟨?_,setFour_frS FRd.out (Nat.le_refl _) _ _ _ _⟩;rw[HF.out,HFy.out];rw[←HNo.out];rfl
    |false=>
     have hne:l[n0]?≠some 93:=fun e=>by rw[ZlH.2 e]at HD;exact absurd HD.out (by simp)
     have HFn:=hid (show ZjH l m (orF o (prt l n0))=F by rw[←HF0.out];exact(Znf hne).symm);have HNn:=hid (show ZoR l m (orF o (prt l n0))from Zka (by omega));clear hne;go_wp2_with fail;refine C1.out.mono ?_;rintro e w5 ⟨rfl,f5⟩;have HR5:=hid (HR.out.on f5.drew);have HZ5:=hid (f5.drew.heap HZ.out (fun x=>x));have H95:=hid (f5.drew.heap HH9.out (fun x=>x));have F5:=hid (HFR.out.trans' f5.drew);have HE5:=hid (HER.out.on f5.drew);have HQ5:=hid (Q4.of (f5.heap HH9.out (fun x=>x)));have HQ5d:=hid (Q4.of H95.out);go_wp2_with fail
     go_region_with (first|(go_at_call 263;(refine(part_any b l n0 0 w5.drew hl hn0 hb2 HE5.out HR5.out).mono ?_);rintro e w6 ⟨s',rfl,hs',f6,hend6⟩;have H96:=hid (f6.heap H95.out (fun e=>by omega));have HQ6:=hid (Q4.of H96.out);have HZ6:=hid (f6.heap HZ5.out (fun e=>by omega));have HE6:=hid (HE5.out.on2 f6 hb2);have F6:=hid (F5.out.trans f6 (fun i hi e=>by omega));have HEND6:=hid (hend6.or (t:=o));have rn6:=Zl H96.out;clear f6 hend6)|(go_at_call 264;(refine(ZfK o s' w6).mono ?_);obtain⟨N,hNo⟩:∃N,o.or s'=N:=⟨_,rfl⟩;rw[hNo]at HEND6⊢;rintro e w7 ⟨rfl,f7⟩;have H97:=hid (f7.heap H96.out (fun x=>x));have HQ7:=hid (Q4.of H97.out);have HZ7:=hid (f7.heap HZ6.out (fun x=>x));have HE7:=hid (HE6.out.on f7);have F7:=hid (F6.out.trans' f7);have HEND7:=hid (HEND6.out.to (w':=w7) (fun x r q h=>h.on f7));have rn7:=Zl H97.out;clear f7))
     all_goals
      have hfin:=HFn.out;have hfn:=HNn.out;obtain⟨w8,hw8⟩:∃w8,w8=(((w7.setCell ⟨r9,0,none⟩ (.int .u64 N.a)).setCell ⟨r9,1,none⟩ (.int .u64 N.b)).setCell ⟨r9,2,none⟩ (.int .u64 N.c)).setCell ⟨r9,3,none⟩ (.int .u64 N.d):=⟨_,rfl⟩;have HI8:=hid (show ZoS l w b w.heap.size r9 F m w8∧Env w8 by
       rw[hw8];refine⟨⟨_,N,HEND7.out.to (fun x r q h=>Zy h (by omega) _ _ _ _),setFour_heap H97.out _ _ _ _,Zy HZ7.out (by omega) _ _ _ _,setFour_frS F7.out (by omega) _ _ _ _,hfin,hfn⟩,HE7.out.on2 (ZS _ _ _ _ _ _) (by omega)⟩)
      have HW8:=hid hw8;clear hw8 hfin hfn;go_wp2_with fail;rw[←HW8.out];go_roundg m
      case measure=>omega
      case rel=>exact HI8.out
 |false=>
  have HD0:=hid hd0;clear hd0;go_enter Tryz.func254,Tryz.ntmps254;go_wp2_with fail;rw[←HW0.out];simp only[HBB.out];refine(C0.out w0 (Fr.refl _ _)).mono ?_;rintro e w1 ⟨rfl,f1⟩;have HR1:=hid (HR0.out.on f1);have HZ1:=hid (f1.heap HZ0.out (fun x=>x));have FW1:=hid (FW0.out.trans' f1);have HE1:=hid (HE0.out.on f1);clear f1;obtain⟨w2,hw2⟩:∃w2,w2=w1:=⟨_,rfl⟩;rw[←hw2]at HR1 HZ1 FW1 HE1;have HR2:=HR1;have HZ2:=HZ1;have FW2:=FW1;have HE2:=HE1;go_wp2_with fail;rw[←hw2];clear hw2;refine(part_any b l (a) 0 w2 hl ha hb2 HE2.out HR2.out).mono ?_;rintro e w3 ⟨s,rfl,hs,f3,hend⟩;have hz3:=f3.heap HZ2.out (fun e=>by omega);obtain⟨w4,hw4⟩:∃w4,w4=w3.alloc (.cells #[.int .u64 s.a,.int .u64 s.b,.int .u64 s.c,.int .u64 s.d] 132):=⟨_,rfl⟩;have f34:Fr nob w3 w4:=by rw[hw4];exact(Fr.refl _ _).alloc _
  have hbw2:=lt_heap HR2.out;have hz4:=f34.heap hz3 (fun x=>x);have hlz4:=lt_heap hz3;obtain⟨r9,hr9⟩:∃r,w3.heap.size=r:=⟨_,rfl⟩;have h94:At4 w4 r9 s:=by rw[hw4,←hr9];exact newAt _ _
  have hb9:b<r9:=by rw[←hr9];exact Nat.lt_of_lt_of_le hbw2 f3.size
  have F4:=hid ((FW2.out.trans f3 (fun i hi e=>by omega)).trans' f34);have HE4:=hid ((HE2.out.on2 f3 hb2).on f34);have hend4:=hend.to (w':=w4) (fun x r q h=>h.on f34);have hF:prs l a=Zex _ (ZjH l (l.length+1) (prt l (a))):=Zps HD0.out;have hN0:ZoR l (l.length+1) (prt l (a)):=fun x hx=>by
   have:=prt_next hx;exact⟨this.2.1,by omega⟩
  obtain⟨F,hFF⟩:∃F,ZjH l (l.length+1) (prt l (a))=F:=⟨_,rfl⟩;rw[hFF]at hF;have HF:=hid hF;have HW4:=hid hw4;have HI:=hid (show ZoS l w b w.heap.size r9 F (l.length+1) w4 from⟨_,s,hend4,h94,hz4,F4.out,hFF,hN0⟩);have H9:=hid hr9;clear hz3 hw4 f34 hz4 h94 hend hend4 hF hN0 hFF hr9 hs f3;go_wp2_with fail;rw[←HW4.out];simp only[H9.out]
  go_loopg [] (l.length+1) (fun n wr=>ZoS l w b w.heap.size r9 F n wr∧Env wr)
  case atStart=>exact⟨HI.out,HE4.out⟩
  case round=>
   obtain⟨⟨R,o,hend,h9,hz,hfr,hF,hN⟩,hEr⟩:=hrel;have rz:=Zl hz;have rq9:=Zl h9;have HEND:=hid hend;have HZ:=hid hz;have HH9:=hid h9;have HFR:=hid hfr;have HER:=hid hEr;clear hend hz h9 hfr hEr;have HF0:=hid hF;clear hF;cases R with
   |inl z=>
    obtain⟨a',h1,h2,h3⟩:=HEND.out;have rr:=Zl h3;have t1:(z.1==0)=false:=by simpa using h2
    have t2:(z.1 !=0)=true:=by simpa using h2
    have HFz:=hid (HF0.out.symm:F=.inl z);have HRz:=hid h3;clear h1 h2 h3 hN;have hne:w.heap.size≠b:=by omega
    have HQ:=hid (show RQ wr b (.int .i64 z.1) (.int .i64 z.2)from⟨cell_at HRz.out rfl,cell_at HRz.out rfl⟩);have HQd:=hid (show RQ wr.drew b (.int .i64 z.1) (.int .i64 z.2)from⟨cell_at HRz.out rfl,cell_at HRz.out rfl⟩);have HZd:=hid (show At4 wr.drew w.heap.size S4.zero from HZ.out);have FRd:=hid HFR.out.drew;go_wp2_with fail
    go_region_held3 (fun w'=>RQ w' b (.int .i64 z.1) (.int .i64 z.2)) (repeat(first|(with_reducible exact HQ.out)|(with_reducible exact HQd.out)|(with_reducible refine RQ.set ?_ hne _)|(with_reducible refine RQ.drew ?_))) (fail)
    all_goals
     go_wp2;(try simp only[Exit.inBlock,Exit.then]);refine bodyPost_ret (Zx (s:=S4.zero) rfl rfl rfl rfl (setFour_heap HZd.out _ _ _ _)) rfl ⟨?_,setFour_frS FRd.out (Nat.le_refl _) _ _ _ _⟩;rw[HF.out,HFz.out];rfl
   |inr x=>
    obtain⟨o1,n0⟩:=x;obtain⟨hso,h3⟩:=HEND.out;simp only at hso;subst hso;obtain⟨hn0,hng⟩:=hN _ rfl;simp only at hn0 hng h3 rq9;obtain⟨m,rfl⟩:∃m,gk=m+1:=⟨gk-1,by omega⟩;have rr:=Zl h3;have hnl:(n0:Int)≤l.length:=by omega
    have hn00:(0:Int)≤n0:=by omega
    have hwr:IntKind.i64.wrap ((n0:Int)+1)=(n0:Int)+1:=IntWalk.i64_in _ (by omega);obtain⟨D,hD⟩:∃d,[93].isPrefixOf (l.drop n0)=d:=⟨_,rfl⟩;have hc1:=Zbr b l [93] n0 0 0 wr (by omega) (by simp) hn0 h3;rw[hD]at hc1;have C1:=hid hc1;have HR:=hid h3;have HD:=hid hD;clear hc1 h3 hD hN HEND;cases D with
    |true=>
     have HFy:=hid (show F=.inr (o,n0) by rw[←HF0.out];exact Zj9 (ZlH.1 HD.out));go_wp2_with fail;refine C1.out.mono ?_;rintro e w5 ⟨rfl,f5⟩;have HR5:=hid (HR.out.on f5);have HZ5:=hid (f5.heap HZ.out (fun x=>x));have H95:=hid (f5.heap HH9.out (fun x=>x));have F5:=hid (HFR.out.trans' f5);go_wp2_with fail;have rr7:=Zl HR5.out;have rn7:=Zl H95.out;have rz7:=Zl HZ5.out;have HZ7:=HZ5;have F7:=F5;have HR7:=HR5;have H97:=H95;have hne:w.heap.size≠b:=by omega
     have hne9:w.heap.size≠r9:=by omega
     have HQ7:=hid (show RA w5 b (.int .i64 n0) r9 o from⟨cell_at HR7.out rfl,Q4.of H97.out⟩);have HQ7d:=hid (show RA (World.drew w5) b (.int .i64 n0) r9 o from⟨cell_at HR7.out rfl,Q4.of H97.out⟩);have HZd:=hid (show At4 (World.drew w5) w.heap.size S4.zero from HZ7.out);have FRd:=hid (Fr.drew F7.out)
     go_region_held3 (fun w'=>RA w' b (.int .i64 n0) r9 o) (repeat(first|(with_reducible exact HQ7.out)|(with_reducible exact HQ7d.out)|(with_reducible refine RA.set ?_ hne hne9 _)|(with_reducible refine RA.drew ?_))) (fail)
     all_goals
      go_wp2;(try simp only[Exit.inBlock,Exit.then]);refine bodyPost_ret (Zx (s:=o) rfl rfl rfl rfl (setFour_heap HZd.out _ _ _ _)) rfl ⟨?_,setFour_frS FRd.out (Nat.le_refl _) _ _ _ _⟩;rw[HF.out,HFy.out];rfl
    |false=>
     have hne:l[n0]?≠some 93:=fun e=>by rw[ZlH.2 e]at HD;exact absurd HD.out (by simp)
     have HFn:=hid (show ZjH l m (orF o (prt l n0))=F by rw[←HF0.out];exact(Znf hne).symm);have HNn:=hid (show ZoR l m (orF o (prt l n0))from Zka (by omega));clear hne;go_wp2_with fail;refine C1.out.mono ?_;rintro e w5 ⟨rfl,f5⟩;have HR5:=hid (HR.out.on f5.drew);have HZ5:=hid (f5.drew.heap HZ.out (fun x=>x));have H95:=hid (f5.drew.heap HH9.out (fun x=>x));have F5:=hid (HFR.out.trans' f5.drew);have HE5:=hid (HER.out.on f5.drew);have HQ5:=hid (Q4.of (f5.heap HH9.out (fun x=>x)));have HQ5d:=hid (Q4.of H95.out);go_wp2_with fail
     go_region_with (first|(go_at_call 263;(refine(part_any b l n0 0 w5.drew hl hn0 hb2 HE5.out HR5.out).mono ?_);rintro e w6 ⟨s',rfl,hs',f6,hend6⟩;have H96:=hid (f6.heap H95.out (fun e=>by omega));have HQ6:=hid (Q4.of H96.out);have HZ6:=hid (f6.heap HZ5.out (fun e=>by omega));have HE6:=hid (HE5.out.on2 f6 hb2);have F6:=hid (F5.out.trans f6 (fun i hi e=>by omega));have HEND6:=hid (hend6.or (t:=o));have rn6:=Zl H96.out;clear f6 hend6)|(go_at_call 264;(refine(ZfK o s' w6).mono ?_);obtain⟨N,hNo⟩:∃N,o.or s'=N:=⟨_,rfl⟩;rw[hNo]at HEND6⊢;rintro e w7 ⟨rfl,f7⟩;have H97:=hid (f7.heap H96.out (fun x=>x));have HQ7:=hid (Q4.of H97.out);have HZ7:=hid (f7.heap HZ6.out (fun x=>x));have HE7:=hid (HE6.out.on f7);have F7:=hid (F6.out.trans' f7);have HEND7:=hid (HEND6.out.to (w':=w7) (fun x r q h=>h.on f7));have rn7:=Zl H97.out;clear f7))
     all_goals
      have hfin:=HFn.out;have hfn:=HNn.out;obtain⟨w8,hw8⟩:∃w8,w8=(((w7.setCell ⟨r9,0,none⟩ (.int .u64 N.a)).setCell ⟨r9,1,none⟩ (.int .u64 N.b)).setCell ⟨r9,2,none⟩ (.int .u64 N.c)).setCell ⟨r9,3,none⟩ (.int .u64 N.d):=⟨_,rfl⟩;have HI8:=hid (show ZoS l w b w.heap.size r9 F m w8∧Env w8 by
       rw[hw8];refine⟨⟨_,N,HEND7.out.to (fun x r q h=>Zy h (by omega) _ _ _ _),setFour_heap H97.out _ _ _ _,Zy HZ7.out (by omega) _ _ _ _,setFour_frS F7.out (by omega) _ _ _ _,hfin,hfn⟩,HE7.out.on2 (ZS _ _ _ _ _ _) (by omega)⟩)
      have HW8:=hid hw8;clear hw8 hfin hfn;go_wp2_with fail;rw[←HW8.out];go_roundg m
      case measure=>omega
      case rel=>exact HI8.out
def prz(l:List UInt8)(a:Int):(Int×Nat)⊕(S4×Nat):=if a<0∨(l.length:Int)<a then .inl (1,0)else prs l a.toNat
theorem ZnS{l:List UInt8}{a:Int}(h:a<0∨(l.length:Int)<a):prz l a=.inl (1,0):=if_pos h
theorem Zkd{l:List UInt8}{a:Nat}(h:a≤l.length):prz l a=prs l a:=by unfold prz;rw[if_neg (by omega)];rfl
theorem ZfL(l:List UInt8)(a:Int)(w:World)(hl:l.length≤100000)(hE:Env w):
 Calls Tryz.prog 254 #[.string ⟨l.toArray⟩,.int .i64 a] w fun e w'=>e=.returned (Zp8 (prz l a))∧Fr nob w w':=by
 by_cases h:a<0∨(l.length:Int)<a
 ·rw[ZnS h];exact Zkb l a w h
 ·obtain⟨n,rfl⟩:∃n:Nat,a=n:=⟨a.toNat,by omega⟩;rw[Zkd (by omega)];exact Zkc l n w hl (by omega) hE
theorem prt_err{l:List UInt8}{a:Nat}{z:Int×Nat}(h:prt l a=.inl z):z.1≠0:=by
 unfold prt at h;split at h
 ·next e he=>injection h with h;subst h;exact itm_err he
 ·split at h
  ·split at h
   ·next e he=>injection h with h;subst h;exact itm_err he
   ·split at h
    ·split at h
     ·cases h
     ·injection h with h;subst h;simp
    ·injection h with h;subst h;simp
  ·cases h
theorem lop_err{l:List UInt8}:∀{n a:Nat} {o:S4} {z:Int×Nat},a≤l.length→l.length<n+a→lop l n a o=.inl z→z.1≠0
 |0,a,_,_,h,h',_=>by omega
 |n+1,a,o,z,h,h',hz=>by
  rw[lop]at hz;split at hz
  ·cases hz
  ·cases hp:prt l a with
   |inl y=>rw[hp]at hz;injection hz with hz;subst hz;exact prt_err hp
   |inr x=>rw[hp]at hz;have:=prt_next hp;exact lop_err this.2.1 (by omega) hz
theorem prs_err{l:List UInt8}{a:Nat}{z:Int×Nat}(h:prs l a=.inl z):z.1≠0:=by
 have key:∀b d,Zp7 d (bod l b)=.inl z→z.1≠0:=by
  intro b d hb;unfold bod at hb;cases hp:prt l b with
  |inl y=>rw[hp]at hb;injection hb with hb;subst hb;exact prt_err hp
  |inr x=>
   rw[hp]at hb;simp only at hb;cases hq:lop l (l.length+1) x.2 x.1 with
   |inl y=>rw[hq]at hb;injection hb with hb;subst hb;have:=prt_next hp;exact lop_err this.2.1 (by omega) hq
   |inr y=>rw[hq]at hb;cases hb
 by_cases hc:l[a]? =some 94
 ·rw[Zpn hc]at h;exact key _ _ h
 ·rw[Zpo hc]at h;exact key _ _ h
theorem Zke{l:List UInt8}{a:Nat}{y:S4×Nat}(h:prs l a=.inr y):y.1.fit∧a<y.2∧y.2≤l.length:=by
 have key:∀b d,Zp7 d (bod l b)=.inr y→y.1.fit∧b<y.2∧y.2≤l.length:=by
  intro b d hb;unfold bod at hb;cases hp:prt l b with
  |inl z=>rw[hp]at hb;cases hb
  |inr x=>
   rw[hp]at hb;simp only at hb;cases hq:lop l (l.length+1) x.2 x.1 with
   |inl z=>rw[hq]at hb;cases hb
   |inr z=>
    rw[hq]at hb;injection hb with hb;subst hb;have h1:=prt_next hp;have h2:=lop_next h1.2.2 hq;refine⟨?_,by simp only;omega,by simp only;omega⟩;cases d
    ·exact h2.2.2
    ·exact ZnE _
 by_cases hc:l[a]? =some 94
 ·rw[Zpn hc]at h;have:=key _ _ h;exact⟨this.1,by omega,this.2.2⟩
 ·rw[Zpo hc]at h;exact key _ _ h
def sgn(l:List UInt8)(k:Nat):List UInt8:=match l[k]? with
 |none=>[]
 |some b=>if b=92 then(match l[k+1]? with|none=>[92]|some c=>[92,c])else[b]
def opB(ere:Bool)(b:UInt8):List UInt8:=if ere then[b]else[92,b]
def Zp9(l:List UInt8)(k:Nat):Nat×Nat:=if 255<(ZaQ (l.drop k) 0 0).1 then(0,0)else ZaQ (l.drop k) 0 0
def ZlJ(l:List UInt8)(ere:Bool)(k:Nat):Option (Int×Int×Nat):=
 let m:=Zp9 l k
 if m.2=0 then none
 else
  let k1:=k+m.2
  let x:=Zp9 l (k1+1)
  let n:Int:=if ahd l k1 [44]then(if 0<x.2 then(x.1:Int)else -1)else m.1
  let k2:=if ahd l k1 [44]then k1+1+(if 0<x.2 then x.2 else 0)else k1
  if ahd l k2 (opB ere 125)=false∨(0≤n∧n<m.1)then none else some ((m.1:Int),n,k2+(opB ere 125).length)
theorem Zkf{l:List UInt8}{k:Nat}(h:l.length≤k):sgn l k=[]:=by unfold sgn;rw[List.getElem?_eq_none h]
theorem Zkg(l:List UInt8)(k:Nat):(sgn l k).length≤2∧k+(sgn l k).length≤max k l.length:=by
 unfold sgn;cases hk:l[k]? with
 |none=>simp;omega
 |some b=>
  have:=(List.getElem?_eq_some_iff.1 hk).1;simp only;split
  ·cases hk2:l[k+1]? with
   |none=>simp;omega
   |some c=>have:=(List.getElem?_eq_some_iff.1 hk2).1;simp;omega
  ·simp;omega
section
variable {α:Type} (A:Alg α) (ere:Bool) (l:List UInt8)
def Ze8:Nat→RxS→α→Out α
 |0,s,t=>.inr (t,s)
 |n+1,s,t=>
  if sgn l s.at_==[42]then Ze8 n (s.go 1) (A.rep t 0 (-1))
  else if sgn l s.at_==opB ere 43 then Ze8 n ((if ere then s else s.mark [92,43]).go (opB ere 43).length) (A.rep t 1 (-1))
  else if sgn l s.at_==opB ere 63 then Ze8 n ((if ere then s else s.mark [92,63]).go (opB ere 63).length) (A.rep t 0 1)
  else if sgn l s.at_==opB ere 123 then
   match ZlJ l ere (s.at_+(opB ere 123).length)with
   |none=>.inl (7,s.at_)
   |some (m,x,k)=>Ze8 n (s.to k) (A.rep t m x)
  else .inr (t,s)
def escD(s:RxS)(b:UInt8):Out α:=
 if 49≤b.toNat∧b.toNat≤57 then
  (if s.closed.contains (b.toNat-48)then .inr (A.back ((b.toNat-48:Nat):Int),(if ere then s.mark [92,b]else s).go 2)else .inl (9,s.at_))
 else
  match ZjI b with
  |none=>.inl (2,s.at_)
  |some (c,m)=>.inr (A.one c,(if m then s.mark [92,b]else s).go 2)
def Zct(C:Option (RxS→Out α))(s:RxS):Out α:=
 match C with
 |none=>.inl (4,s.at_)
 |some f=>
  match f {s.go (opB ere 40).length with opened:=s.opened+1}with
  | .inl e=>.inl e
  | .inr (t,s')=>
    if sgn l s'.at_==opB ere 41 then .inr (A.group ((s.opened+1:Nat):Int) t,{s'.go (opB ere 40).length with closed:=s'.closed++[s.opened+1]})
    else .inl (8,s.at_)
def ZcS(C:Option (RxS→Out α))(s:RxS):Out α:=
 if sgn l s.at_==opB ere 40 then Zct A ere l C s
 else if sgn l s.at_==opB ere 41 then .inl (8,s.at_)
 else if sgn l s.at_==[91]then
  match prs l (s.at_+1)with
  | .inl (e,p)=>.inl (e,p)
  | .inr (c,k)=>.inr (A.one c,s.to k)
 else if sgn l s.at_==[46]then .inr (A.one (spn 0 255),s.go 1)
 else if sgn l s.at_==[92]then .inl (11,s.at_)
 else
  match sgn l s.at_ with
  |[]=>.inl (2,s.at_)
  |[b]=>.inr (A.one (spn b.toNat b.toNat),s.go 1)
  |_::b::_=>escD A ere s b
def ZnT(inner:Bool)(k:Nat):Bool:=sgn l k==[]||(sgn l k==opB ere 124||(sgn l k==opB ere 41&&(inner|| !ere)))
def brD(C:Option (RxS→Out α))(inner:Bool):Nat→Bool→Bool→RxS→List α→Out α
 |0,_,_,s,ps=>.inr (A.join ps,s)
 |n+1,first,front,s,ps=>
  if sgn l s.at_==[]||(sgn l s.at_==opB ere 124||(sgn l s.at_==opB ere 41&&inner))then .inr (A.join ps,s)
  else if sgn l s.at_==[94]&&(ere||first)then brD C inner n false true (s.go 1) (ps++[A.start])
  else if sgn l s.at_==[36]&&(ere||ZnT ere l inner (s.at_+1))then brD C inner n false true (s.go 1) (ps++[A.fin])
  else if front&&(sgn l s.at_==opB ere 123||(sgn l s.at_==opB ere 43||(sgn l s.at_==opB ere 63||(ere&&sgn l s.at_==[42]))))then .inl (10,s.at_)
  else
   match ZcS A ere l C s with
   | .inl e=>.inl e
   | .inr (t,s1)=>
     match Ze8 A ere l (l.length+1) s1 t with
     | .inl e=>.inl e
     | .inr (t,s2)=>brD C inner n false false s2 (ps++[t])
def Zb7(C:Option (RxS→Out α))(inner:Bool)(s:RxS):Out α:=brD A ere l C inner (if sgn l s.at_==[94]then l.length+2 else l.length+1) true true s []
def Zar(C:Option (RxS→Out α))(inner:Bool):Nat→RxS→List α→Out α
 |0,s,ts=>.inr (A.choose ts,s)
 |n+1,s,ts=>
  if sgn l s.at_==opB ere 124 then
   match Zb7 A ere l C inner ((if ere then s else s.mark [92,124]).go (opB ere 124).length)with
   | .inl e=>.inl e
   | .inr (t,s')=>Zar C inner n s' (ts++[t])
  else .inr (A.choose ts,s)
def choiceD(C:Option (RxS→Out α))(inner:Bool)(s:RxS):Out α:=
 match Zb7 A ere l C inner s with
 | .inl e=>.inl e
 | .inr (t,s')=>Zar A ere l C inner (l.length+1) s' [t]
def chD:Nat→RxS→Out α
 |0=>choiceD A ere l none true
 |n+1=>choiceD A ere l (some (chD n)) (decide (n+1<12))
def Zac:Out α:=if 250<l.length then .inl (3,250)else chD A ere l 12 ⟨0,0,[],[]⟩
end
theorem ZcT{l:List UInt8}{k:Nat}{c:UInt8}(hc:c≠92):(sgn l k==[c])=ahd l k [c]:=by
 unfold sgn ahd;cases h:l[k]? with
 |none=>rw[List.drop_eq_nil_of_le (by simpa using h)];rfl
 |some b=>
  obtain⟨hk,hb⟩:=List.getElem?_eq_some_iff.1 h;rw[List.drop_eq_getElem_cons hk,hb];by_cases h92:b=92
  ·subst h92;have e:([c].isPrefixOf (92::l.drop (k+1)))=false:=by simp[List.isPrefixOf,hc]
   rw[e];simp only[if_true];cases l[k+1]? with
   |none=>simp[Ne.symm hc]
   |some d=>simp
  ·simp only[if_neg h92];simp[List.isPrefixOf,BEq.comm (a:=c)]
theorem Zbt{l:List UInt8}{k:Nat}{c:UInt8}:(sgn l k==[92,c])=ahd l k [92,c]:=by
 unfold sgn ahd;cases h:l[k]? with
 |none=>rw[List.drop_eq_nil_of_le (by simpa using h)];rfl
 |some b=>
  obtain⟨hk,hb⟩:=List.getElem?_eq_some_iff.1 h;rw[List.drop_eq_getElem_cons hk,hb];by_cases h92:b=92
  ·subst h92;simp only[if_true];cases h2:l[k+1]? with
   |none=>rw[List.drop_eq_nil_of_le (by simpa using h2)];simp[List.isPrefixOf]
   |some d=>
    obtain⟨hk2,hd⟩:=List.getElem?_eq_some_iff.1 h2;rw[List.drop_eq_getElem_cons hk2,hd];simp[List.isPrefixOf,BEq.comm (a:=c)]
  ·simp only[if_neg h92];simp[List.isPrefixOf,Ne.symm h92]
theorem Ze9{l:List UInt8}{k:Nat}:(sgn l k==[])=decide (l.length≤k):=by
 by_cases h:l.length≤k
 ·rw[Zkf h];simp[h]
 ·have hk:k<l.length:=by omega
  unfold sgn;rw[List.getElem?_eq_getElem hk];simp only[h,decide_false];split
  ·cases l[k+1]? <;>rfl
  ·rfl
section
variable {α:Type} {A:Alg α} {l:List UInt8}
theorem ZbM(b:UInt8):opB false b=[92,b]:=rfl
theorem Zcz(b:UInt8):opB true b=[b]:=rfl
theorem Zfa{r:List UInt8}{x d:Nat}(h:ZaQ r 0 0=(x,d))(hx:0<x):∃b t,r=b::t∧48≤b.toNat∧b.toNat≤57:=by
 cases r with
 |nil=>rw[ZaQ]at h;injection h with h1 h2;omega
 |cons b t=>
  rw[ZaQ]at h;split at h
  ·next hb=>exact⟨b,t,rfl,hb.1,hb.2.1⟩
  ·injection h with h1 h2;omega
theorem num3_ge:∀(r:List UInt8) (c n:Nat),c≤(ZaQ r c n).2
 |[],c,n=>Nat.le_refl _
 |b::r,c,n=>by
  rw[ZaQ];split
  ·exact Nat.le_trans (Nat.le_succ c) (num3_ge r (c+1) _)
  ·exact Nat.le_refl _
theorem ZnU(k:Nat):ZlJ l false k=Zfw l k:=by
 unfold ZlJ Zfw Zp9;simp only[ZbM];obtain⟨m,c,hm⟩:∃m c,ZaQ (l.drop k) 0 0=(m,c):=⟨_,_,rfl⟩;rw[hm];by_cases h255:255<m
 ·simp only[if_pos h255,if_true];by_cases hc:c=0
  ·simp[hc]
  ·simp[hc,h255]
 ·simp only[if_neg h255];by_cases hc:c=0
  ·simp[hc]
  ·simp only[hc,if_false];cases ha:ahd l (k+c) [44]with
   |false=>
    simp only[Bool.false_eq_true,if_false];have e1:¬((0:Int)≤(m:Int)∧(m:Int)<(m:Int)):=by omega
    have e2:¬(255:Int)<(m:Int):=by omega
    simp[e1,e2,h255]
   |true=>
    simp only[if_true];obtain⟨x,d,hx⟩:∃x d,ZaQ (l.drop (k+c+1)) 0 0=(x,d):=⟨_,_,rfl⟩;rw[hx];have e0:¬(255:Int)<(m:Int):=by omega
    by_cases h2:255<x
    ·obtain⟨b,t,ht,hb1,hb2⟩:=Zfa hx (by omega);have hn:ahd l (k+c+1) [92,125]=false:=by
      unfold ahd;rw[ht];simp only[List.isPrefixOf,Bool.and_eq_false_iff];exact .inl (by simp only[beq_eq_false_iff_ne,ne_eq];rintro rfl;simp at hb2)
     have hd:d≠0:=by
      intro h0;subst h0;rw[ht,ZaQ,if_pos ⟨hb1,hb2,by decide⟩]at hx;have:=num3_ge t 1 (0*10+(b.toNat-48));rw[hx]at this;simp at this
     have e1:(255:Int)<(x:Int):=by omega
     simp[h2,hn,hd,e1]
    ·simp only[if_neg h2];by_cases hd:d=0
     ·subst hd;simp[h255]
     ·have hd':0<d:=by omega
      have e1:¬(255:Int)<(x:Int):=by omega
      simp[hd,hd',h255,h2,e0,e1]
theorem Zg8{k:Nat}{c d:UInt8}(h:ahd l k [92,c]=true)(hd:d≠92):ahd l k [d]=false:=by
 rw[←ZcT hd];rw[←Zbt]at h;rw[eq_of_beq h];simp
theorem ahd_not{k:Nat}{c d:UInt8}(h:ahd l k [92,c]=true)(hd:d≠c):ahd l k [92,d]=false:=by
 rw[←Zbt]at h⊢;rw[eq_of_beq h];simpa using fun e=>hd e.symm
theorem Zkh:∀(n:Nat) (s:RxS) (t:α),Ze8 A false l n s t=ZbW A l n s t
 |0,s,t=>rfl
 |n+1,s,t=>by
  rw[Ze8,ZbW];simp only[ZbM,Zbt,ZcT (show(42:UInt8)≠92 by decide),Bool.false_eq_true,if_false,ZnU,Zkh n,List.length_cons,List.length_nil];cases h1:ahd l s.at_ [92,43]with
  |true=>simp[Zg8 h1 (show(42:UInt8)≠92 by decide)]
  |false=>
   cases h2:ahd l s.at_ [92,63]with
   |true=>simp[Zg8 h2 (show(42:UInt8)≠92 by decide)]
   |false=>
    cases h3:ahd l s.at_ [92,123]with
    |true=>simp only[Zg8 h3 (show(42:UInt8)≠92 by decide),Bool.false_eq_true,if_false,if_true];rfl
    |false=>simp
variable {C:Option (RxS→Out α)}
theorem Zki(s:RxS):Zct A false l C s=Zbs A l C s.at_ (s.go 2):=by
 unfold Zct Zbs;cases C with
 |none=>rfl
 |some f=>
  simp only[ZbM,Zbt,List.length_cons,List.length_nil];rfl
theorem Zmb{s:RxS}{b:UInt8}(h:l[s.at_]? =some b):ZcS A false l C s=Zb0 A l C s b:=by
 obtain⟨hk,hb⟩:=List.getElem?_eq_some_iff.1 h;unfold ZcS Zb0;by_cases h92:b=92
 ·subst h92;simp only[if_true];unfold ZlI;cases h2:l[s.at_+1]? with
  |none=>
   have hs:sgn l s.at_=[92]:=by unfold sgn;rw[h];simp only[if_true,h2]
   simp[hs,opB]
  |some d=>
   have hs:sgn l s.at_=[92,d]:=by unfold sgn;rw[h];simp only[if_true,h2]
   rw[←Zbt,←Zbt,hs,Zki];simp only[ZbM];unfold escD;simp;rfl
 ·have hs:sgn l s.at_=[b]:=by unfold sgn;rw[h];simp only[if_neg h92]
  rw[hs];simp[opB,h92];rfl
theorem Zmc{inner:Bool}{k:Nat}:ZnT false l inner (k+1)=ZbL l k:=by
 unfold ZnT ZbL;rw[Ze9,ZbM,ZbM,Zbt,Zbt];simp only[Bool.not_false,Bool.or_true,Bool.and_true];have e:decide (l.length≤k+1)=(l.drop (k+1)).isEmpty:=by
  by_cases h:l.length≤k+1
  ·rw[List.drop_eq_nil_of_le h];simp[h]
  ·rw[List.drop_eq_getElem_cons (by omega)];simp[h]
 rw[e];cases(l.drop (k+1)).isEmpty<;>cases ahd l (k+1) [92,124]<;>cases ahd l (k+1) [92,41]<;>rfl
theorem Zkj{k:Nat}(h:ZbL l k=true):l.length≤k+1∨ahd l (k+1) [92,124]=true∨ahd l (k+1) [92,41]=true:=by
 unfold ZbL at h;cases h1:ahd l (k+1) [92,124]with
 |true=>exact .inr (.inl rfl)
 |false=>
  cases h2:ahd l (k+1) [92,41]with
  |true=>exact .inr (.inr rfl)
  |false=>
   rw[h1,h2]at h;simp only[Bool.or_false,List.isEmpty_iff,List.drop_eq_nil_iff]at h;exact .inl h
theorem Zid{inner:Bool}:∀(n:Nat) (fD fS:Bool) (s:RxS) (ps:List α),(fD=fS∨l.length≤s.at_∨ahd l s.at_ [92,124]=true∨ahd l s.at_ [92,41]=true)→
 brD A false l C inner n false fD s ps=brS A l C inner n fS s ps
 |0,fD,fS,s,ps,_=>rfl
 |n+1,fD,fS,s,ps,hf=>by
  rw[brD,brS];simp only[ZbM,Zbt,Ze9,ZcT (show(36:UInt8)≠92 by decide),Bool.false_or,Bool.and_false,Bool.false_and,Bool.or_false,Bool.false_eq_true,if_false];by_cases hk:l.length≤s.at_
  ·rw[List.getElem?_eq_none hk];simp[hk]
  ·have hlt:s.at_<l.length:=by omega
   rw[List.getElem?_eq_getElem hlt];simp only[hk,decide_false,Bool.false_or];rw[Bool.and_comm (ahd l s.at_ [92,41]) inner];cases h1:(ahd l s.at_ [92,124]||(inner&&ahd l s.at_ [92,41]))with
   |true=>simp
   |false=>
    simp only[Bool.false_eq_true,if_false];rw[Zmc,Zmb (b:=l[s.at_]) (by rw[List.getElem?_eq_getElem hlt])];have e1:(fD&&(ahd l s.at_ [92,123]||(ahd l s.at_ [92,43]||ahd l s.at_ [92,63])))=(fS&&(ahd l s.at_ [92,123]||(ahd l s.at_ [92,43]||ahd l s.at_ [92,63]))):=by
     rcases hf with rfl|h|h|h
     ·rfl
     ·exact absurd h hk
     ·rw[h]at h1;simp at h1
     ·rw[ahd_not h (show(123:UInt8)≠41 by decide),ahd_not h (show(43:UInt8)≠41 by decide),ahd_not h (show(63:UInt8)≠41 by decide)];simp
    cases h2:(ahd l s.at_ [36]&&ZbL l s.at_)with
    |true=>
     have h3:ahd l s.at_ [36]=true∧ZbL l s.at_=true:=by simpa using h2
     have h4:(fS&&(ahd l s.at_ [92,123]||(ahd l s.at_ [92,43]||ahd l s.at_ [92,63])))=false:=by
      have hx:=h3.1;have q:∀c:UInt8,ahd l s.at_ [92,c]=false:=fun c=>by
       rw[←ZcT (by decide)]at hx;rw[←Zbt,eq_of_beq hx];simp
      rw[q,q,q];simp
     rw[h4];simp only[if_true,Bool.false_eq_true,if_false];exact Zid n true false (s.go 1) _ (.inr (Zkj h3.2))
    |false=>
     rw[e1];simp only[Bool.false_eq_true,if_false];cases h5:(fS&&(ahd l s.at_ [92,123]||(ahd l s.at_ [92,43]||ahd l s.at_ [92,63])))with
     |true=>rfl
     |false=>
      simp only[Bool.false_eq_true,if_false];cases Zb0 A l C s l[s.at_]with
      |inl e=>rfl
      |inr y=>
       obtain⟨t,s1⟩:=y;simp only[Zkh];cases ZbW A l (l.length+1) s1 t with
       |inl e=>rfl
       |inr z=>exact Zid n false false _ _ (.inl rfl)
theorem Zez{inner:Bool}{s:RxS}:Zb7 A false l C inner s=branchS A l C inner s:=by
 unfold Zb7 branchS;rw[ZcT (by decide)];cases h:ahd l s.at_ [94]with
 |true=>
  simp only[if_true];have hlt:¬l.length≤s.at_:=fun e=>by
   unfold ahd at h;rw[List.drop_eq_nil_of_le e]at h;cases h
  have q:∀c:UInt8,ahd l s.at_ [92,c]=false:=fun c=>by
   rw[←ZcT (by decide)]at h;rw[←Zbt,eq_of_beq h];simp
  rw[brD];simp only[ZbM,Zbt,Ze9,ZcT (show(94:UInt8)≠92 by decide),q,h,hlt,decide_false,Bool.false_or,Bool.false_and,Bool.false_eq_true,if_false,Bool.true_and,if_true];exact Zid _ _ _ _ _ (.inl rfl)
 |false=>
  simp only[Bool.false_eq_true,if_false];rw[←Zid (l.length+1) true true s [] (.inl rfl),brD,brD];rw[ZcT (show(94:UInt8)≠92 by decide),h];simp
theorem Zie{inner:Bool}:∀(n:Nat) (s:RxS) (ts:List α),Zar A false l C inner n s ts=Za1 A l C inner n s ts
 |0,s,ts=>rfl
 |n+1,s,ts=>by
  rw[Zar,Za1,ZbM,Zbt];simp only[Bool.false_eq_true,if_false,List.length_cons,List.length_nil,Zez,Zie n];rfl
theorem ZeA{inner:Bool}{s:RxS}:choiceD A false l C inner s=choiceS A l C inner s:=by
 unfold choiceD choiceS;simp only[Zez,Zie];rfl
end
theorem Zng{α:Type}{A:Alg α}{l:List UInt8}:∀(n:Nat),chD A false l n=chS A l n
 |0=>by funext s;rw[chD,chS,ZeA]
 |n+1=>by funext s;rw[chD,chS,ZeA,Zng n]
theorem ZfM{α:Type}{A:Alg α}{l:List UInt8}:Zac A false l=Zey A l:=by
 unfold Zac Zey;rw[Zng]
section
variable {α:Type} {A:Alg α} {ere:Bool} {l:List UInt8}
theorem repD_err:∀(n:Nat) (s:RxS) (t:α) (z:Int×Nat),Ze8 A ere l n s t=.inl z→z.1≠0
 |0,s,t,z,h=>by rw[Ze8]at h;cases h
 |n+1,s,t,z,h=>by
  rw[Ze8]at h;split at h
  ·exact repD_err n _ _ z h
  ·split at h
   ·exact repD_err n _ _ z h
   ·split at h
    ·exact repD_err n _ _ z h
    ·split at h
     ·split at h
      ·injection h with h;subst h;simp
      ·exact repD_err n _ _ z h
     ·cases h
variable {C:Option (RxS→Out α)} (hC:∀f,C=some f→∀s z,f s=.inl z→z.1≠0)
include hC
theorem Zi5{s:RxS}{z:Int×Nat}(h:Zct A ere l C s=.inl z):z.1≠0:=by
 unfold Zct at h;cases C with
 |none=>injection h with h;subst h;simp
 |some f=>
  simp only at h;cases hf:f {s.go (opB ere 40).length with opened:=s.opened+1}with
  |inl e=>rw[hf]at h;injection h with h;subst h;exact hC f rfl _ _ hf
  |inr y=>
   rw[hf]at h;simp only at h;split at h
   ·cases h
   ·injection h with h;subst h;simp
theorem atomD_err{s:RxS}{z:Int×Nat}(h:ZcS A ere l C s=.inl z):z.1≠0:=by
 unfold ZcS at h;split at h
 ·exact Zi5 hC h
 ·split at h
  ·injection h with h;subst h;simp
  ·split at h
   ·split at h
    ·next e p hp=>injection h with h;subst h;exact prs_err hp
    ·cases h
   ·split at h
    ·cases h
    ·split at h
     ·injection h with h;subst h;simp
     ·split at h
      ·injection h with h;subst h;simp
      ·cases h
      ·unfold escD at h;split at h
       ·split at h
        ·cases h
        ·injection h with h;subst h;simp
       ·split at h
        ·injection h with h;subst h;simp
        ·cases h
theorem brD_err{inner:Bool}:∀(n:Nat) (first front:Bool) (s:RxS) (ps:List α) (z:Int×Nat),brD A ere l C inner n first front s ps=.inl z→z.1≠0
 |0,first,front,s,ps,z,h=>by rw[brD]at h;cases h
 |n+1,first,front,s,ps,z,h=>by
  rw[brD]at h;split at h
  ·cases h
  ·split at h
   ·exact brD_err n _ _ _ _ z h
   ·split at h
    ·exact brD_err n _ _ _ _ z h
    ·split at h
     ·injection h with h;subst h;simp
     ·split at h
      ·next e he=>injection h with h;subst h;exact atomD_err hC he
      ·split at h
       ·next e he=>injection h with h;subst h;exact repD_err _ _ _ _ he
       ·exact brD_err n _ _ _ _ z h
theorem loopD_err{inner:Bool}:∀(n:Nat) (s:RxS) (ts:List α) (z:Int×Nat),Zar A ere l C inner n s ts=.inl z→z.1≠0
 |0,s,ts,z,h=>by rw[Zar]at h;cases h
 |n+1,s,ts,z,h=>by
  rw[Zar]at h;split at h
  ·split at h
   ·next e he=>injection h with h;subst h;exact brD_err hC _ _ _ _ _ _ he
   ·exact loopD_err n _ _ z h
  ·cases h
theorem choiceD_err{inner:Bool}{s:RxS}{z:Int×Nat}(h:choiceD A ere l C inner s=.inl z):z.1≠0:=by
 unfold choiceD at h;split at h
 ·next e he=>injection h with h;subst h;exact brD_err hC _ _ _ _ _ _ he
 ·exact loopD_err hC _ _ _ _ h
end
theorem chD_err{α:Type}{A:Alg α}{ere:Bool}{l:List UInt8}:∀(n:Nat) (s:RxS) (z:Int×Nat),chD A ere l n s=.inl z→z.1≠0
 |0,s,z,h=>by rw[chD]at h;exact choiceD_err (fun f hf=>by cases hf) h
 |n+1,s,z,h=>by rw[chD]at h;exact choiceD_err (fun f hf s z hz=>by injection hf with hf;subst hf;exact chD_err n s z hz) h
theorem parseD_err{α:Type}{A:Alg α}{ere:Bool}{l:List UInt8}{z:Int×Nat}(h:Zac A ere l=.inl z):z.1≠0:=by
 unfold Zac at h;split at h
 ·injection h with h;subst h;simp
 ·exact chD_err _ _ _ h
open Go.ChangeShapes Go.WideShapes Go.ChangeAt Go.RowKit
namespace door
theorem own:ownKnob Tryz.prog.godebug=none:=by kernel_rfl
theorem laidOut:laidOutB Tryz.prog=true:=by kernel_rfl
theorem ZqN:Tryz.prog.globalNamed "math/bits.deBruijn64tab" =some 3:=by kernel_rfl
theorem ZqV:(Tryz.prog.globals[3]?).map (·.type)=some 290:=by kernel_rfl
abbrev list1:List (String×DataW Unit):=[("math/bits.deBruijn64tab",Rows.laid_math_bits_deBruijn64tab),("unicode/utf8.acceptRanges",Rows.laid_unicode_utf8_acceptRanges),("unicode/utf8.first",Rows.laid_unicode_utf8_first)]
theorem Zpu:(Rows.laid_math_bits_deBruijn64tab:DataW Unit)=Lib.tabData .u8 (Lib.deBruijn64tab.map Int.ofNat):=by kernel_rfl
theorem Zkk:(Lib.deBruijn64tab.map Int.ofNat).length=64:=by decide
theorem tab{W:World}(h:laidMetH Tryz.prog list1 W):Tab W:=by
 rw[MakeChecks.laidMetH_plain _ _ _ (by kernel_rfl)]at h;unfold list1 at h;rw[Zpu]at h;have ht:=Lib.tabIs_of_head (P:=Tryz.prog) (W:=W) (t:=290) (e:=5) (n:=64) ZqN ZqV Tryz.underlying290 Tryz.underlying5 (by kernel_rfl) (by kernel_rfl) h;intro j hj;have hc:=ht.cell ZqN j (by rw[Zkk];exact hj);rw[hc]
 congr 2
 have hl:j<Lib.deBruijn64tab.length:=by have:=Zkk;simp at this;omega
 simp[hl]
end door
theorem Zrv{x:Int}(h:(Lit.int .u8 x).wf=true):∃n:Nat,(n:Int)=x∧n<256:=by
 simp[Lit.wf,IntKind.min,IntKind.max,IntKind.signed,IntKind.bits]at h;exact⟨x.toNat,by omega,by omega⟩
variable {H:Type} {enc:TypeId×Value→H}
theorem ZfN{a:Assume}{C:Checked}{os:Os}{f:FuncId}{fn:Func}{s:ChangeSpec}{conds:List PathCond}{apart fresh handsOn again:Bool}{X:World→Array Value→Prop}
 (hX:∀(w w':World) (args:Array Value),w.heap=w'.heap→X w args→X w' args)
 (own:ownKnob C.prog.godebug=none) (started:os.Started) (noInit:C.prog.inits.idxOf? f=none) (hfn:C.prog.funcs[f]? =some fn)
 (witness:∃(w:World) (tape:Tape) (i:Input),w.os=os∧(w.forCall tape i).Shaped C.prog∧i.vars=[]∧Input.okWide C.prog (w.forCall tape i) .any w.heap.size f i∧
  ((s.pre enc C.prog fn conds apart (w.forCall tape i).memory i.args∧X (w.forCall tape i).memory i.args)∧sizedMet enc C.prog fn (OpenSpec.ofChange s) apart (w.forCall tape i).memory i.args)∧a.holds C.prog (lone (Frame.enter C.prog f i.args .normal) [] (w.forCall tape i)))
 (contract:∀(W:World) (base:Nat) (args:Array Value) (ds gs:List (DataW H)) (before:List MemPlace),
  (∀(j:Nat) t v,fn.params[j]? =some t→args[j]? =some v→Value.okWide C.prog W .any base t v)→
  DataW.Whole enc C.prog fn.params.toList s.vars apart W args.toList ds gs before→
  (DataW.weightsEach C.prog (fn.params.toList++s.plain.varTypes C.prog) (ds++gs)).all (·≤reachBytes)=true→X W args→W.ShapedOpen C.prog→
  Calls C.prog f args W fun e W'=>∃v,e=.returned v∧s.post enc C.prog fn apart fresh handsOn again W args v W'):
 ReturnsInHanded a C os f .any (fun w args=>(s.pre enc C.prog fn conds apart w args∧X w args)∧sizedMet enc C.prog fn (OpenSpec.ofChange s) apart w args) (s.post enc C.prog fn apart fresh handsOn again):=by
 refine returnsInHanded_of_calls own started noInit witness ?_;intro w tape i _ hsh _ hok hpre _;obtain⟨_,_,_,fn',hfn',_,_,_,_,hval⟩:=hok;obtain rfl:fn'=fn:=Option.some.inj (hfn'.symm.trans hfn);obtain⟨⟨⟨ds,gs,before,hw,_⟩,hx⟩,hz⟩:=hpre;refine(contract (w.forCall tape i) w.heap.size i.args ds gs before hval (DataW.Whole.of_heap (w':=w.forCall tape i) (by rfl) hw) (hz.weights hw) (hX _ _ _ (by rfl) hx) hsh).mono fun e W' ⟨v,he,hp⟩=> ?_;subst he;exact ChangeSpec.post_blind hp
theorem door.env{W:World}(h:laidMetH Tryz.prog door.list1 W)(hs:W.ShapedOpen Tryz.prog):Env W:=
 ⟨door.tab h,cell_of_shapedOpen_int (zero:= #[.int .i64 0]) (t:=3) (k:=.i64) hs (of_decide_eq_true (by kernel_rfl)) (by kernel_rfl) rfl (by kernel_rfl) (by kernel_rfl) Tryz.underlying3⟩
end Go.Proofs.YtkfddjopbocpkaaGreatDoor
