/- Lemmas of this claim. -/
import Derived.Test.YtgllcniibbaoaaaGreatDoorK09
set_option linter.all false
set_option maxRecDepth 100000
set_option maxHeartbeats 24000000
namespace Go.Proofs.YtgllcniibbaoaaaGreatDoor
open Go.Lib (hid)
open Go.RowKit
theorem Zze(l:List UInt8)(a:Nat)(w:World)(hl:l.length≤100000)(ha:a≤l.length)(h94:l[a]? =some 94):
 Calls Tryz.prog 144 #[.string ⟨l.toArray⟩,.int .i64 a] w (ZAT (prs l a) w):=by
 obtain⟨w0,Z⟩:∃w0,w0=((w.alloc (.cells #[.int .u64 0,.int .u64 0,.int .u64 0,.int .u64 0] 33)).alloc (.cells #[.int .u64 0,.int .u64 0,.int .u64 0,.int .u64 0] 33)).alloc (.cells #[.int .u64 0,.int .u64 0,.int .u64 0,.int .u64 0] 33):=⟨_,rfl⟩;have h4:AtR w0 w.heap.size S4.zero:=by rw[Z];exact heap_alloc_lt _ (heap_alloc_lt _ (newAt _ _))
 have h7:AtR w0 (w.heap.size+1) S4.zero:=(show w0.heap[w.heap.size+1]? =some (.cells #[.int .u64 0,.int .u64 0,.int .u64 0,.int .u64 0] 33 (0,0)) by rw[Z];have:=newAt (w.alloc (.cells #[.int .u64 0,.int .u64 0,.int .u64 0,.int .u64 0] 33)) (.cells #[.int .u64 0,.int .u64 0,.int .u64 0,.int .u64 0] 33);exact heap_alloc_lt _ (by simpa using this));have h8:AtR w0 (w.heap.size+2) S4.zero:=(show w0.heap[w.heap.size+2]? =some (.cells #[.int .u64 0,.int .u64 0,.int .u64 0,.int .u64 0] 33 (0,0)) by rw[Z];have:=newAt ((w.alloc (.cells #[.int .u64 0,.int .u64 0,.int .u64 0,.int .u64 0] 33)).alloc (.cells #[.int .u64 0,.int .u64 0,.int .u64 0,.int .u64 0] 33)) (.cells #[.int .u64 0,.int .u64 0,.int .u64 0,.int .u64 0] 33);simpa using this);have F0:=hid (show Fr nob w w0 by rw[Z];exact(((Fr.refl _ _).alloc _).alloc _).alloc _);have H4:=hid h4;have H7:=hid h7;have H8:=hid h8;have HW:=hid Z;clear Z h4 h7 h8
 have t0:¬(a:Int)<0:=by omega
 have o5:¬(l.length:Int)<a:=by omega
 obtain⟨F,hF⟩:∃F,ZjH l (l.length+1) (prt l (a+1))=F:=⟨_,rfl⟩;have HP:=hid (show prs l a=Zex true F by rw[←hF];exact ZnR (ZlH.2 h94));obtain⟨R,hR⟩:∃R,prs l a=R:=⟨_,rfl⟩;rw[hR];have HR:=hid hR;have HF:=hid hF;clear hR hF;have d0:=(List.getElem?_eq_some_iff.1 h94).1;have t1:(a:Int)<l.length:=by omega
 have t2:(((l[a]).toNat:Int)==94)=true:=Zcy (List.getElem?_eq_some_iff.1 h94).2;clear h94;go_enter Tryz.func144,Tryz.ntmps144
 iterate 26 go_step
 rw[←HW.out];go_wp2_with fail
 go_loopg [1,10] (l.length+2) (fun n v1 v10 wr=>ZyS l w F n v1 v10 wr)
 case atStart=>exact⟨a+1,S4.zero,true,by go_num,rfl,H7.out,H4.out,H8.out,F0.out,ZaU,d0,by omega,by unfold RS;exact⟨rfl,rfl,HF.out⟩⟩
 case round=>
  obtain⟨k,r,Y,rfl,rfl,h7,h4,h8,j1,e0,hk,o0,j4⟩:=hrel;obtain⟨m,rfl⟩:∃m,gk=m+1:=⟨gk-1,by omega⟩;have l5:=Zl (show wr.heap[w.heap.size]? =some (.cells #[.int .u64 0,.int .u64 0,.int .u64 0,.int .u64 0] 33 (0,0))from h4);have l6:=Zl h7;have l8:=Zl (show wr.heap[w.heap.size+1+1]? =some (.cells #[.int .u64 0,.int .u64 0,.int .u64 0,.int .u64 0] 33 (0,0))from h8);have H4:=hid h4;have H7:=hid h7;have H8:=hid h8;have FR:=hid j1;have n0:=hid e0;have i2:=hid j4;clear h4 h7 h8 j1 e0 j4;have n7:(0:Int)≤k:=by omega
  have n8:(k:Int)≤l.length:=by omega
  have o3:IntKind.i64.wrap ((k:Int)+1)=(k:Int)+1:=IntWalk.i64_in _ (by omega);by_cases d1:Y=false∧l[k]? =some 93
  ·obtain⟨rfl,c9⟩:=d1;have k9:=hid (i2.out.halt c9);have l3:=(List.getElem?_eq_some_iff.1 c9).1;have u1:¬(l.length:Int)≤k:=by omega
   have m0:(k:Int)<l.length:=by omega
   have u2:(((l[k]).toNat:Int) !=93)=false:=tn_eq (List.getElem?_eq_some_iff.1 c9).2;clear c9;go_wp2_with fail;refine(notR_lit r wr).mono ?_;obtain⟨N,hN⟩:∃N,r.not=N:=⟨_,rfl⟩;rw[hN];have HN:=hid hN;clear hN;rintro e w5 ⟨rfl,f5⟩;obtain⟨w7,b8⟩:∃w7,w7=(((w5.setCell ⟨w.heap.size+1,0,none⟩ (.int .u64 N.a)).setCell ⟨w.heap.size+1,1,none⟩ (.int .u64 N.b)).setCell ⟨w.heap.size+1,2,none⟩ (.int .u64 N.c)).setCell ⟨w.heap.size+1,3,none⟩ (.int .u64 N.d):=⟨_,rfl⟩;have i7:AtR w7 (w.heap.size+1) N:=by rw[b8];exact setFour_heap (f5.heap H7.out (fun x=>x)) _ _ _ _
   have e9:AtR w7 w.heap.size S4.zero:=by rw[b8];exact Zy (f5.heap H4.out (fun x=>x)) (by omega) _ _ _ _
   have k4:=hid (show Fr nob w w7 by rw[b8];exact setFour_frS (FR.out.trans' f5) (by omega) _ _ _ _);have o4:=Zl (f5.heap H7.out (fun x=>x));have k8:=hid e9;have l1:=hid b8;have m4:=Zl (show w7.heap[w.heap.size]? =some (.cells #[.int .u64 0,.int .u64 0,.int .u64 0,.int .u64 0] 33 (0,0))from e9);have m6:=Zl i7;clear b8 i7 e9;go_wp2_with fail;rw[←l1.out];go_wp2;(try simp only[Exit.inBlock,Exit.then]);refine bodyPost_ret (Z9 (s:=N) (by rfl) (by rfl) (by rfl) (by rfl) (setFour_heap k8.out _ _ _ _)) rfl ⟨?_,setFour_frS k4.out (Nat.le_refl _) _ _ _ _⟩;rw[←HR.out,HP.out,k9.out,←HN.out];rfl
  ·have j2:=i2.out.go (by cases Y with|true=>exact .inl rfl|false=>exact .inr (fun e=>d1 ⟨rfl,e⟩));have K:=hid j2;clear j2;have h6:=hid (Zka (l:=l) (n:=m) (a:=k) (s:=r) (by omega));have b7:Y=true∨(Y=false∧l.length≤k)∨(Y=false∧∃h:k<l.length,l[k]≠93):=by
    cases Y with
    |true=>exact .inl rfl
    |false=>
     by_cases l2:l.length≤k
     ·exact .inr (.inl ⟨rfl,l2⟩)
     ·exact .inr (.inr ⟨rfl,by omega,fun e=>d1 ⟨rfl,by rw[List.getElem?_eq_getElem (by omega),e]⟩⟩)
   clear d1;go_step
   go_cut [] (fun w'=>wr=w')
   case first=>
    rcases b7 with rfl|⟨rfl,n6⟩|⟨rfl,l3,j3⟩
    ·go_wp2;go_meet
     case rel=>exact rfl
    ·have u1:(l.length:Int)≤k:=by omega
     go_wp2;go_meet
     case rel=>exact rfl
    ·have u1:¬(l.length:Int)≤k:=by omega
     have m0:(k:Int)<l.length:=by omega
     have u2:(((l[k]).toNat:Int) !=93)=true:=ZoW j3;clear j3;go_wp2;go_meet
     case rel=>exact rfl
   case rest=>
    obtain rfl:=hcut;clear b7;go_wp2_with fail;refine(ritem_any l k wr hl (by omega)).mono ?_;cases hI:itm l k with
    |inl z=>
     rintro e w5 ⟨rfl,f5⟩;have hz:=itm_err hI;have v1:(z.1 !=0)=true:=by simpa using hz
     have D:=hid (show F=.inl z by rw[←K.out,ZnN hI];rfl);have m7:=Zl (show w5.heap[w.heap.size+1+1]? =some (.cells #[.int .u64 0,.int .u64 0,.int .u64 0,.int .u64 0] 33 (0,0))from f5.heap H8.out (fun x=>x));have g4:=hid (f5.heap H4.out (fun x=>x));have k3:=hid (FR.out.trans' f5);have m3:=Zl (show w5.heap[w.heap.size]? =some (.cells #[.int .u64 0,.int .u64 0,.int .u64 0,.int .u64 0] 33 (0,0))from g4.out);clear hz f5 hI;rw[show Zy2 (.inl z)=.tuple #[.agg #[.int .u64 0,.int .u64 0,.int .u64 0,.int .u64 0],.bool false,.int .i64 0,.int .i64 z.1,.int .i64 z.2]from rfl];have f0:Fr nob w5 (w5.alloc (.cells #[.int .u64 0,.int .u64 0,.int .u64 0,.int .u64 0] 33)):=(Fr.refl _ _).alloc _;have g5:=hid (f0.heap g4.out (fun x=>x));have g1:=hid (k3.out.trans' f0);clear f0;go_wp2;(try simp only[Exit.inBlock,Exit.then]);refine bodyPost_ret (Z9 (s:=S4.zero) (by rfl) (by rfl) (by rfl) (by rfl) (setFour_heap g5.out _ _ _ _)) rfl ⟨?_,setFour_frS g1.out (Nat.le_refl _) _ _ _ _⟩
     rw[←HR.out,HP.out,D.out];rfl
    |inr x=>
     rintro e w5 ⟨rfl,f5⟩;rw[show Zy2 (.inr x)=.tuple #[ZcR x.set,.bool x.one.isSome,.int .i64 x.next,.int .i64 0,.int .i64 0]from rfl];have f2:=ZdF hI;obtain⟨sx,f4⟩:∃sx,x.set=sx:=⟨_,rfl⟩;rw[f4];obtain⟨w6,d2⟩:∃w6,w6=w5.alloc (.cells #[.int .u64 sx.a,.int .u64 sx.b,.int .u64 sx.c,.int .u64 sx.d] 33):=⟨_,rfl⟩;have e6:Fr nob w5 w6:=by rw[d2];exact(Fr.refl _ _).alloc _
     have e7:AtR w6 w5.heap.size sx:=by rw[d2];exact newAt _ _
     have k6:=hid e7;have m9:=hid (f5.trans' e6);have c8:=hid d2;have HI:=hid hI;have i0:=hid f4;have j5:=Zl e7;have c6:=hid f5;clear e7 d2 f4 hI;have F6:=hid (f5.trans' e6);have i5:=F6.out.heap H4.out (fun x=>x);have i6:=F6.out.heap H7.out (fun x=>x);have i8:=F6.out.heap H8.out (fun x=>x);have a3:=hid (FR.out.trans' F6.out);have j6:=Zl (c6.out.heap H4.out (fun x=>x));have j7:=Zl (c6.out.heap H7.out (fun x=>x));have j8:=Zl (show w5.heap[w.heap.size+1+1]? =some (.cells #[.int .u64 0,.int .u64 0,.int .u64 0,.int .u64 0] 33 (0,0))from c6.out.heap H8.out (fun x=>x));have a5:=hid i5;have I:=hid i6;have a6:=hid i8;clear i5 i6 i8 e6 l5 l6 l8 f5;have n9:(0:Int)≤x.next:=by omega
     have o1:(x.next:Int)≤l.length:=by have:=f2.2.1;omega
     have o2:IntKind.i64.wrap ((x.next:Int)+1)=(x.next:Int)+1:=IntWalk.i64_in _ (by omega);have n1:=hid f2;clear f2;cases hr:rng l x.next with
     |false=>
      have f3:=ZnO HI.out hr;rw[i0.out]at f3;have j:=hid (RS.next K.out h6.out f3);clear f3;have l4:=Zzw hr;clear hr;rcases l4 with h1|⟨h1,h2⟩|⟨h1,h2,h3⟩
      ·have u3:¬(x.next:Int)+1<l.length:=by omega
       clear h1;go_wp2_with fail;rw[←c8.out];refine(orR_lit r sx w6).mono ?_;obtain⟨N,hN⟩:∃N,r.or sx=N:=⟨_,rfl⟩;have J:=hid (show N.fit by rw[←hN];exact Zph _ _);rw[hN]at j⊢;clear hN;rintro e P ⟨rfl,i⟩;have c0:=Zl (i.heap I.out (fun x=>x));obtain⟨g,f⟩:∃g,g=(((P.setCell ⟨w.heap.size+1,0,none⟩ (.int .u64 N.a)).setCell ⟨w.heap.size+1,1,none⟩ (.int .u64 N.b)).setCell ⟨w.heap.size+1,2,none⟩ (.int .u64 N.c)).setCell ⟨w.heap.size+1,3,none⟩ (.int .u64 N.d):=⟨_,rfl⟩;have p:AtR g (w.heap.size+1) N:=by rw[f];exact setFour_heap (i.heap I.out (fun x=>x)) _ _ _ _
       have o:AtR g w.heap.size S4.zero:=by rw[f];exact Zy (i.heap a5.out (fun x=>x)) (by omega) _ _ _ _
       have q:AtR g (w.heap.size+2) S4.zero:=by rw[f];exact Zy (i.heap a6.out (fun x=>x)) (by omega) _ _ _ _
       have t:=hid (show Fr nob w g by rw[f];exact setFour_frS (a3.out.trans' i) (by omega) _ _ _ _);have u:=hid (show ZyS l w F m (.int .i64 x.next) (.bool false) g from⟨x.next,N,false,rfl,rfl,p,o,q,t.out,J.out,j.out.2.1,j.out.2.2,j.out.1⟩);have v:=hid f;clear p o q f i;go_wp2_with fail;rw[←v.out];go_roundg m
       case measure=>omega
       case rel=>exact u.out
      ·have u3:(x.next:Int)+1<l.length:=by omega
       have j9:(x.next:Int)<l.length:=by omega
       have u4:(((l[x.next]).toNat:Int)==45)=false:=Zn h2;clear h2;go_wp2_with fail;rw[←c8.out];refine(orR_lit r sx w6).mono ?_;obtain⟨N,hN⟩:∃N,r.or sx=N:=⟨_,rfl⟩;have J:=hid (show N.fit by rw[←hN];exact Zph _ _);rw[hN]at j⊢;clear hN;rintro e P ⟨rfl,i⟩;have c0:=Zl (i.heap I.out (fun x=>x));obtain⟨g,f⟩:∃g,g=(((P.setCell ⟨w.heap.size+1,0,none⟩ (.int .u64 N.a)).setCell ⟨w.heap.size+1,1,none⟩ (.int .u64 N.b)).setCell ⟨w.heap.size+1,2,none⟩ (.int .u64 N.c)).setCell ⟨w.heap.size+1,3,none⟩ (.int .u64 N.d):=⟨_,rfl⟩;have p:AtR g (w.heap.size+1) N:=by rw[f];exact setFour_heap (i.heap I.out (fun x=>x)) _ _ _ _
       have o:AtR g w.heap.size S4.zero:=by rw[f];exact Zy (i.heap a5.out (fun x=>x)) (by omega) _ _ _ _
       have q:AtR g (w.heap.size+2) S4.zero:=by rw[f];exact Zy (i.heap a6.out (fun x=>x)) (by omega) _ _ _ _
       have t:=hid (show Fr nob w g by rw[f];exact setFour_frS (a3.out.trans' i) (by omega) _ _ _ _);have u:=hid (show ZyS l w F m (.int .i64 x.next) (.bool false) g from⟨x.next,N,false,rfl,rfl,p,o,q,t.out,J.out,j.out.2.1,j.out.2.2,j.out.1⟩);have v:=hid f;clear p o q f i;go_wp2_with fail;rw[←v.out];go_roundg m
       case measure=>omega
       case rel=>exact u.out
      ·have u3:(x.next:Int)+1<l.length:=by omega
       have j9:(x.next:Int)<l.length:=by omega
       have u4:(((l[x.next]).toNat:Int)==45)=true:=Zcy h2;have u5:(((l[x.next+1]).toNat:Int) !=93)=false:=tn_eq h3;clear h2 h3;go_wp2_with fail;rw[←c8.out];refine(orR_lit r sx w6).mono ?_;obtain⟨N,hN⟩:∃N,r.or sx=N:=⟨_,rfl⟩;have J:=hid (show N.fit by rw[←hN];exact Zph _ _);rw[hN]at j⊢;clear hN;rintro e P ⟨rfl,i⟩;have c0:=Zl (i.heap I.out (fun x=>x));obtain⟨g,f⟩:∃g,g=(((P.setCell ⟨w.heap.size+1,0,none⟩ (.int .u64 N.a)).setCell ⟨w.heap.size+1,1,none⟩ (.int .u64 N.b)).setCell ⟨w.heap.size+1,2,none⟩ (.int .u64 N.c)).setCell ⟨w.heap.size+1,3,none⟩ (.int .u64 N.d):=⟨_,rfl⟩;have p:AtR g (w.heap.size+1) N:=by rw[f];exact setFour_heap (i.heap I.out (fun x=>x)) _ _ _ _
       have o:AtR g w.heap.size S4.zero:=by rw[f];exact Zy (i.heap a5.out (fun x=>x)) (by omega) _ _ _ _
       have q:AtR g (w.heap.size+2) S4.zero:=by rw[f];exact Zy (i.heap a6.out (fun x=>x)) (by omega) _ _ _ _
       have t:=hid (show Fr nob w g by rw[f];exact setFour_frS (a3.out.trans' i) (by omega) _ _ _ _);have u:=hid (show ZyS l w F m (.int .i64 x.next) (.bool false) g from⟨x.next,N,false,rfl,rfl,p,o,q,t.out,J.out,j.out.2.1,j.out.2.2,j.out.1⟩);have v:=hid f;clear p o q f i;go_wp2_with fail;rw[←v.out];go_roundg m
       case measure=>omega
       case rel=>exact u.out
     |true=>
      obtain⟨h1,h2,h3⟩:=ZyR hr;have h9:=hid hr;clear hr;have u3:(x.next:Int)+1<l.length:=by omega
      have j9:(x.next:Int)<l.length:=by omega
      have u4:(((l[x.next]).toNat:Int)==45)=true:=Zcy h2;have u5:(((l[x.next+1]).toNat:Int) !=93)=true:=ZoW h3;clear h2 h3;have e5:=hid (ritem_any l (x.next+1) w6 hl (by omega));rw[show((x.next+1:Nat):Int)=(x.next:Int)+1 from rfl]at e5;go_wp2_with fail;rw[←c8.out];refine e5.out.mono ?_;clear e5;cases hJ:itm l (x.next+1)with
      |inl z=>
       rintro e w9 ⟨rfl,f9⟩;have hz:=itm_err hJ;have v1:(z.1 !=0)=true:=by simpa using hz
       have D:=hid (RS.bad K.out (ZnP HI.out h9.out hJ));have m8:=Zl (show w9.heap[w.heap.size+1+1]? =some (.cells #[.int .u64 0,.int .u64 0,.int .u64 0,.int .u64 0] 33 (0,0))from f9.heap a6.out (fun x=>x));have g6:=hid (f9.heap a5.out (fun x=>x));have k5:=hid (a3.out.trans' f9);have m5:=Zl (show w9.heap[w.heap.size]? =some (.cells #[.int .u64 0,.int .u64 0,.int .u64 0,.int .u64 0] 33 (0,0))from g6.out);clear hz f9 hJ;rw[show Zy2 (.inl z)=.tuple #[.agg #[.int .u64 0,.int .u64 0,.int .u64 0,.int .u64 0],.bool false,.int .i64 0,.int .i64 z.1,.int .i64 z.2]from rfl];have f1:Fr nob w9 (w9.alloc (.cells #[.int .u64 0,.int .u64 0,.int .u64 0,.int .u64 0] 33)):=(Fr.refl _ _).alloc _;have g7:=hid (f1.heap g6.out (fun x=>x));have g2:=hid (k5.out.trans' f1);clear f1;go_wp2;(try simp only[Exit.inBlock,Exit.then]);refine bodyPost_ret (Z9 (s:=S4.zero) (by rfl) (by rfl) (by rfl) (by rfl) (setFour_heap g7.out _ _ _ _)) rfl ⟨?_,setFour_frS g2.out (Nat.le_refl _) _ _ _ _⟩
       rw[←HR.out,HP.out,D.out];rfl
      |inr y=>
       rintro e w9 ⟨rfl,f9⟩;rw[show Zy2 (.inr y)=.tuple #[ZcR y.set,.bool y.one.isSome,.int .i64 y.next,.int .i64 0,.int .i64 0]from rfl];obtain⟨sy,f6⟩:∃sy,y.set=sy:=⟨_,rfl⟩;rw[f6];obtain⟨c5,V⟩:∃c5,c5=w9.alloc (.cells #[.int .u64 sy.a,.int .u64 sy.b,.int .u64 sy.c,.int .u64 sy.d] 33):=⟨_,rfl⟩;have E:=hid (show Fr nob w6 c5 by rw[V];exact f9.alloc _);have e8:AtR c5 w9.heap.size sy:=by rw[V];exact newAt _ _
       have b0:=E.out.heap a5.out (fun x=>x);have b3:=E.out.heap I.out (fun x=>x);have b6:=E.out.heap a6.out (fun x=>x);have L:=E.out.heap k6.out (fun x=>x);have Q:=hid (a3.out.trans' E.out);have c1:=Zl b0;have c3:=Zl b3;have c4:=Zl (show c5.heap[w.heap.size+1+1]? =some (.cells #[.int .u64 0,.int .u64 0,.int .u64 0,.int .u64 0] 33 (0,0))from b6);have W:=Zl L;have X:=Zl e8;have S:=hid b0;have g8:=hid b3;have d7:=hid b6;have e2:=hid L;have k7:=hid e8;have U:=hid V;have l0:=hid f6;have n5:w.heap.size+2<w5.heap.size:=by have:=lt_heap H8.out;have:=c6.out.size;omega
       clear b0 b3 b6 L e8 V f6 j6 j7 j8 j5 f9;have c7:=hid (ZnQ HI.out h9.out hJ);have HY:=hid hJ;clear hJ;cases b9:x.one with
       |none=>
        have D:=hid (RS.bad K.out (show prt l k=.inl (1,k) by rw[c7.out,b9];rfl));have b1:(none:Option UInt8).isSome=false:=rfl;go_wp2_with fail;rw[←U.out];refine region_fr 10 (by kernel_rfl) (by kernel_rfl) ?_;simp only[List.take_succ_cons,List.take_zero,List.drop_succ_cons,List.drop_zero]
        repeat(go_big_quiet_step (fail))
        refine wpQuiet_nil ?_;intro wC fC;have e4:=hid (fC.heap S.out (fun x=>x));have e1:=hid (Q.out.trans' fC);go_wp2;(try simp only[Exit.inBlock,Exit.then]);refine bodyPost_ret (Z9 (s:=S4.zero) (by rfl) (by rfl) (by rfl) (by rfl) (setFour_heap e4.out _ _ _ _)) rfl ⟨?_,setFour_frS e1.out (Nat.le_refl _) _ _ _ _⟩;rw[←HR.out,HP.out,D.out];rfl
       |some a1=>
        cases d3:y.one with
        |none=>
         have D:=hid (RS.bad K.out (show prt l k=.inl (1,k) by rw[c7.out,b9,d3];rfl));have b1:(some a1:Option UInt8).isSome=true:=rfl;have b2:(none:Option UInt8).isSome=false:=rfl;go_wp2_with fail;rw[←U.out];refine region_fr 10 (by kernel_rfl) (by kernel_rfl) ?_;simp only[List.take_succ_cons,List.take_zero,List.drop_succ_cons,List.drop_zero]
         repeat(go_big_quiet_step (fail))
         refine wpQuiet_nil ?_;intro wC fC;have e4:=hid (fC.heap S.out (fun x=>x));have e1:=hid (Q.out.trans' fC);go_wp2;(try simp only[Exit.inBlock,Exit.then]);refine bodyPost_ret (Z9 (s:=S4.zero) (by rfl) (by rfl) (by rfl) (by rfl) (setFour_heap e4.out _ _ _ _)) rfl ⟨?_,setFour_frS e1.out (Nat.le_refl _) _ _ _ _⟩;rw[←HR.out,HP.out,D.out];rfl
        |some b1=>
         have n3:(some a1:Option UInt8).isSome=true:=rfl;have n4:(some b1:Option UInt8).isSome=true:=rfl;have i9:∀w':World,Calls Tryz.prog 165 #[ZcR sx] w' fun e w''=>e=.returned (.int .u8 (a1.toNat:Nat))∧Fr nob w' w'':=fun w'=>by
          rw[←i0.out,Ze5 HI.out b9];exact Zx6 _ w' a1.toNat_lt
         have j0:∀w':World,Calls Tryz.prog 165 #[ZcR sy] w' fun e w''=>e=.returned (.int .u8 (b1.toNat:Nat))∧Fr nob w' w'':=fun w'=>by
          rw[←l0.out,Ze5 HY.out d3];exact Zx6 _ w' b1.toNat_lt
         have CX:=hid i9;have CY:=hid j0;clear i9 j0;by_cases d0:a1.toNat≤b1.toNat
         ·have j:=hid (RS.next K.out h6.out (show prt l k=.inr (spn a1.toNat b1.toNat,y.next) by rw[c7.out,b9,d3];exact Zpq d0));have u6:¬(b1.toNat:Int)<(a1.toNat:Int):=by omega
          go_wp2_with fail;rw[←U.out];refine region_fr 10 (by kernel_rfl) (by kernel_rfl) ?_;simp only[List.take_succ_cons,List.take_zero,List.drop_succ_cons,List.drop_zero]
          repeat(go_big_quiet_step ((with_reducible exact calls_fr (CY.out _))))
          refine wpQuiet_nil ?_;intro wC fC;go_wp2_with fail;refine(CX.out _).mono ?_;rintro e k0 ⟨rfl,a7⟩;have C:=hid (fC.trans' a7);have A:=C.out.heap S.out (fun x=>x);have b4:=C.out.heap g8.out (fun x=>x);have G:=C.out.heap d7.out (fun x=>x);have M:=C.out.heap e2.out (fun x=>x);have a9:=C.out.heap k7.out (fun x=>x);have a2:=hid (Q.out.trans' C.out);have c2:=Zl A;have f8:=Zl b4;have d4:=Zl M;have d5:=Zl a9;have a4:=hid A;have g9:=hid b4;have h0:=hid G;have e3:=hid M;clear A b4 G M a9 a7 fC c1 c3 c4 W X;go_wp2_with fail;refine region_fr 3 (by kernel_rfl) (by kernel_rfl) ?_;simp only[List.take_succ_cons,List.take_zero,List.drop_succ_cons,List.drop_zero]
          repeat(go_big_quiet_step ((with_reducible exact calls_fr (CX.out _))))
          refine wpQuiet_nil ?_;intro wD fD;go_wp2_with fail;refine(CY.out _).mono ?_;rintro e m1 ⟨rfl,i3⟩;go_wp2_with fail;refine(spanR_lit a1.toNat b1.toNat m1 a1.toNat_lt b1.toNat_lt).mono ?_;obtain⟨sz,f7⟩:∃sz,spn a1.toNat b1.toNat=sz:=⟨_,rfl⟩;rw[f7]at j⊢;have n2:=hid f7;clear f7;rintro e m2 ⟨rfl,i4⟩;have a0:=hid ((fD.trans' i3).trans' i4);have O:=a0.out.heap e3.out (fun x=>x);have k1:=Zl O;obtain⟨H,B⟩:∃H,H=(((m2.setCell ⟨w5.heap.size,0,none⟩ (.int .u64 sz.a)).setCell ⟨w5.heap.size,1,none⟩ (.int .u64 sz.b)).setCell ⟨w5.heap.size,2,none⟩ (.int .u64 sz.c)).setCell ⟨w5.heap.size,3,none⟩ (.int .u64 sz.d):=⟨_,rfl⟩;have a8:AtR H w5.heap.size sz:=by rw[B];exact setFour_heap O _ _ _ _
          have d8:AtR H w.heap.size S4.zero:=by rw[B];exact Zy (a0.out.heap a4.out (fun x=>x)) (by omega) _ _ _ _
          have b5:AtR H (w.heap.size+1) r:=by rw[B];exact Zy (a0.out.heap g9.out (fun x=>x)) (by omega) _ _ _ _
          have d9:AtR H (w.heap.size+2) S4.zero:=by rw[B];exact Zy (a0.out.heap h0.out (fun x=>x)) (by omega) _ _ _ _
          have g0:=hid (show Fr nob w H by rw[B];exact setFour_frS (a2.out.trans' a0.out) (by omega) _ _ _ _);have g3:=hid d8;have d6:=hid b5;have h5:=hid d9;have i1:=hid B;have l7:=Zl b5;have k2:=Zl a8;clear O a8 d8 b5 d9 B i3 i4 fD c2 f8 d4 d5;go_wp2_with(rw[←i1.out]);refine(orR_lit r sz H).mono ?_;obtain⟨N,hN⟩:∃N,r.or sz=N:=⟨_,rfl⟩;have J:=hid (show N.fit by rw[←hN];exact Zph _ _);rw[hN]at j⊢;clear hN;rintro e P ⟨rfl,i⟩;have c0:=Zl (i.heap d6.out (fun x=>x));obtain⟨g,f⟩:∃g,g=(((P.setCell ⟨w.heap.size+1,0,none⟩ (.int .u64 N.a)).setCell ⟨w.heap.size+1,1,none⟩ (.int .u64 N.b)).setCell ⟨w.heap.size+1,2,none⟩ (.int .u64 N.c)).setCell ⟨w.heap.size+1,3,none⟩ (.int .u64 N.d):=⟨_,rfl⟩;have p:AtR g (w.heap.size+1) N:=by rw[f];exact setFour_heap (i.heap d6.out (fun x=>x)) _ _ _ _
          have o:AtR g w.heap.size S4.zero:=by rw[f];exact Zy (i.heap g3.out (fun x=>x)) (by omega) _ _ _ _
          have q:AtR g (w.heap.size+2) S4.zero:=by rw[f];exact Zy (i.heap h5.out (fun x=>x)) (by omega) _ _ _ _
          have t:=hid (show Fr nob w g by rw[f];exact setFour_frS (g0.out.trans' i) (by omega) _ _ _ _);have u:=hid (show ZyS l w F m (.int .i64 y.next) (.bool false) g from⟨y.next,N,false,rfl,rfl,p,o,q,t.out,J.out,j.out.2.1,j.out.2.2,j.out.1⟩);have v:=hid f;clear p o q f i;go_wp2_with fail;rw[←v.out];go_roundg m
          case measure=>omega
          case rel=>exact u.out
         ·have D:=hid (RS.bad K.out (show prt l k=.inl (1,k) by rw[c7.out,b9,d3];exact Zpr d0));have u6:(b1.toNat:Int)<(a1.toNat:Int):=by omega
          go_wp2_with fail;rw[←U.out];refine region_fr 10 (by kernel_rfl) (by kernel_rfl) ?_;simp only[List.take_succ_cons,List.take_zero,List.drop_succ_cons,List.drop_zero]
          repeat(go_big_quiet_step ((with_reducible exact calls_fr (CY.out _))))
          refine wpQuiet_nil ?_;intro wC fC;go_wp2_with fail;refine(CX.out _).mono ?_;rintro e k0 ⟨rfl,a7⟩;have C:=hid (fC.trans' a7);have A:=C.out.heap S.out (fun x=>x);have G:=C.out.heap d7.out (fun x=>x);have a2:=hid (Q.out.trans' C.out);have c2:=Zl A;have l9:=Zl (show k0.heap[w.heap.size+1+1]? =some (.cells #[.int .u64 0,.int .u64 0,.int .u64 0,.int .u64 0] 33 (0,0))from G);have a4:=hid A;clear A G a7 fC c1 c3 c4 W X;go_wp2;(try simp only[Exit.inBlock,Exit.then]);refine bodyPost_ret (Z9 (s:=S4.zero) (by rfl) (by rfl) (by rfl) (by rfl) (setFour_heap a4.out _ _ _ _)) rfl ⟨?_,setFour_frS a2.out (Nat.le_refl _) _ _ _ _⟩;rw[←HR.out,HP.out,D.out];rfl
theorem Zzx(l:List UInt8)(a:Nat)(w:World)(hl:l.length≤100000)(ha:a≤l.length)(hlt:a<l.length)(h94:¬l[a]=94):
 Calls Tryz.prog 144 #[.string ⟨l.toArray⟩,.int .i64 a] w (ZAT (prs l a) w):=by
 obtain⟨w0,Z⟩:∃w0,w0=((w.alloc (.cells #[.int .u64 0,.int .u64 0,.int .u64 0,.int .u64 0] 33)).alloc (.cells #[.int .u64 0,.int .u64 0,.int .u64 0,.int .u64 0] 33)).alloc (.cells #[.int .u64 0,.int .u64 0,.int .u64 0,.int .u64 0] 33):=⟨_,rfl⟩;have h4:AtR w0 w.heap.size S4.zero:=by rw[Z];exact heap_alloc_lt _ (heap_alloc_lt _ (newAt _ _))
 have h7:AtR w0 (w.heap.size+1) S4.zero:=(show w0.heap[w.heap.size+1]? =some (.cells #[.int .u64 0,.int .u64 0,.int .u64 0,.int .u64 0] 33 (0,0)) by rw[Z];have:=newAt (w.alloc (.cells #[.int .u64 0,.int .u64 0,.int .u64 0,.int .u64 0] 33)) (.cells #[.int .u64 0,.int .u64 0,.int .u64 0,.int .u64 0] 33);exact heap_alloc_lt _ (by simpa using this));have h8:AtR w0 (w.heap.size+2) S4.zero:=(show w0.heap[w.heap.size+2]? =some (.cells #[.int .u64 0,.int .u64 0,.int .u64 0,.int .u64 0] 33 (0,0)) by rw[Z];have:=newAt ((w.alloc (.cells #[.int .u64 0,.int .u64 0,.int .u64 0,.int .u64 0] 33)).alloc (.cells #[.int .u64 0,.int .u64 0,.int .u64 0,.int .u64 0] 33)) (.cells #[.int .u64 0,.int .u64 0,.int .u64 0,.int .u64 0] 33);simpa using this);have F0:=hid (show Fr nob w w0 by rw[Z];exact(((Fr.refl _ _).alloc _).alloc _).alloc _);have H4:=hid h4;have H7:=hid h7;have H8:=hid h8;have HW:=hid Z;clear Z h4 h7 h8
 have t0:¬(a:Int)<0:=by omega
 have n5:¬(l.length:Int)<a:=by omega
 obtain⟨F,hF⟩:∃F,ZjH l (l.length+1) (prt l (a))=F:=⟨_,rfl⟩;have HP:=hid (show prs l a=Zex false F by rw[←hF];exact Zps (by cases hb:[94].isPrefixOf (l.drop a)with|false=>rfl|true=>exact absurd ((List.getElem?_eq_some_iff.1 (ZlH.1 hb)).2) h94));obtain⟨R,hR⟩:∃R,prs l a=R:=⟨_,rfl⟩;rw[hR];have HR:=hid hR;have HF:=hid hF;clear hR hF;have t1:(a:Int)<l.length:=by omega
 have t2:(((l[a]).toNat:Int)==94)=false:=Zn h94;clear h94;go_enter Tryz.func144,Tryz.ntmps144
 iterate 26 go_step
 rw[←HW.out];go_wp2_with fail
 go_loopg [1,10] (l.length+2) (fun n v1 v10 wr=>ZyS l w F n v1 v10 wr)
 case atStart=>exact⟨a,S4.zero,true,by go_num,rfl,H7.out,H4.out,H8.out,F0.out,ZaU,ha,by omega,by unfold RS;exact⟨rfl,rfl,HF.out⟩⟩
 case round=>
  obtain⟨k,v,Y,rfl,rfl,h7,h4,h8,i7,d8,hk,n1,j0⟩:=hrel;obtain⟨m,rfl⟩:∃m,gk=m+1:=⟨gk-1,by omega⟩;have k8:=Zl (show wr.heap[w.heap.size]? =some (.cells #[.int .u64 0,.int .u64 0,.int .u64 0,.int .u64 0] 33 (0,0))from h4);have k9:=Zl h7;have l1:=Zl (show wr.heap[w.heap.size+1+1]? =some (.cells #[.int .u64 0,.int .u64 0,.int .u64 0,.int .u64 0] 33 (0,0))from h8);have H4:=hid h4;have H7:=hid h7;have H8:=hid h8;have FR:=hid i7;have m1:=hid d8;have h9:=hid j0;clear h4 h7 h8 i7 d8 j0;have m8:(0:Int)≤k:=by omega
  have m9:(k:Int)≤l.length:=by omega
  have n4:IntKind.i64.wrap ((k:Int)+1)=(k:Int)+1:=IntWalk.i64_in _ (by omega);by_cases c9:Y=false∧l[k]? =some 93
  ·obtain⟨rfl,c8⟩:=c9;have k3:=hid (h9.out.halt c8);have k6:=(List.getElem?_eq_some_iff.1 c8).1;have u1:¬(l.length:Int)≤k:=by omega
   have l3:(k:Int)<l.length:=by omega
   have u2:(((l[k]).toNat:Int) !=93)=false:=tn_eq (List.getElem?_eq_some_iff.1 c8).2;clear c8;go_wp2_with fail;(try simp only[Exit.inBlock,Exit.then]);refine bodyPost_ret (Z9 (s:=v) (by rfl) (by rfl) (by rfl) (by rfl) (setFour_heap H4.out _ _ _ _)) rfl ⟨?_,setFour_frS FR.out (Nat.le_refl _) _ _ _ _⟩;rw[←HR.out,HP.out,k3.out];rfl
  ·have i8:=h9.out.go (by cases Y with|true=>exact .inl rfl|false=>exact .inr (fun e=>c9 ⟨rfl,e⟩));have K:=hid i8;clear i8;have g9:=hid (Zka (l:=l) (n:=m) (a:=k) (s:=v) (by omega));have b7:Y=true∨(Y=false∧l.length≤k)∨(Y=false∧∃h:k<l.length,l[k]≠93):=by
    cases Y with
    |true=>exact .inl rfl
    |false=>
     by_cases k5:l.length≤k
     ·exact .inr (.inl ⟨rfl,k5⟩)
     ·exact .inr (.inr ⟨rfl,by omega,fun e=>c9 ⟨rfl,by rw[List.getElem?_eq_getElem (by omega),e]⟩⟩)
   clear c9;go_step
   go_cut [] (fun w'=>wr=w')
   case first=>
    rcases b7 with rfl|⟨rfl,m7⟩|⟨rfl,k6,i9⟩
    ·go_wp2;go_meet
     case rel=>exact rfl
    ·have u1:(l.length:Int)≤k:=by omega
     go_wp2;go_meet
     case rel=>exact rfl
    ·have u1:¬(l.length:Int)≤k:=by omega
     have l3:(k:Int)<l.length:=by omega
     have u2:(((l[k]).toNat:Int) !=93)=true:=ZoW i9;clear i9;go_wp2;go_meet
     case rel=>exact rfl
   case rest=>
    obtain rfl:=hcut;clear b7;go_wp2_with fail;refine(ritem_any l k wr hl (by omega)).mono ?_;cases hI:itm l k with
    |inl z=>
     rintro e w5 ⟨rfl,f5⟩;have hz:=itm_err hI;have v1:(z.1 !=0)=true:=by simpa using hz
     have D:=hid (show F=.inl z by rw[←K.out,ZnN hI];rfl);have l8:=Zl (show w5.heap[w.heap.size+1+1]? =some (.cells #[.int .u64 0,.int .u64 0,.int .u64 0,.int .u64 0] 33 (0,0))from f5.heap H8.out (fun x=>x));have g1:=hid (f5.heap H4.out (fun x=>x));have j9:=hid (FR.out.trans' f5);have l6:=Zl (show w5.heap[w.heap.size]? =some (.cells #[.int .u64 0,.int .u64 0,.int .u64 0,.int .u64 0] 33 (0,0))from g1.out);clear hz f5 hI;rw[show Zy2 (.inl z)=.tuple #[.agg #[.int .u64 0,.int .u64 0,.int .u64 0,.int .u64 0],.bool false,.int .i64 0,.int .i64 z.1,.int .i64 z.2]from rfl];have e7:Fr nob w5 (w5.alloc (.cells #[.int .u64 0,.int .u64 0,.int .u64 0,.int .u64 0] 33)):=(Fr.refl _ _).alloc _;have g2:=hid (e7.heap g1.out (fun x=>x));have f7:=hid (j9.out.trans' e7);clear e7;go_wp2;(try simp only[Exit.inBlock,Exit.then]);refine bodyPost_ret (Z9 (s:=S4.zero) (by rfl) (by rfl) (by rfl) (by rfl) (setFour_heap g2.out _ _ _ _)) rfl ⟨?_,setFour_frS f7.out (Nat.le_refl _) _ _ _ _⟩
     rw[←HR.out,HP.out,D.out];rfl
    |inr x=>
     rintro e w5 ⟨rfl,f5⟩;rw[show Zy2 (.inr x)=.tuple #[ZcR x.set,.bool x.one.isSome,.int .i64 x.next,.int .i64 0,.int .i64 0]from rfl];have e9:=ZdF hI;obtain⟨sx,f1⟩:∃sx,x.set=sx:=⟨_,rfl⟩;rw[f1];obtain⟨w6,d0⟩:∃w6,w6=w5.alloc (.cells #[.int .u64 sx.a,.int .u64 sx.b,.int .u64 sx.c,.int .u64 sx.d] 33):=⟨_,rfl⟩;have e4:Fr nob w5 w6:=by rw[d0];exact(Fr.refl _ _).alloc _
     have e5:AtR w6 w5.heap.size sx:=by rw[d0];exact newAt _ _
     have k1:=hid e5;have m0:=hid (f5.trans' e4);have c7:=hid d0;have HI:=hid hI;have h5:=hid f1;have j1:=Zl e5;have c5:=hid f5;clear e5 d0 f1 hI;have F6:=hid (f5.trans' e4);have i2:=F6.out.heap H4.out (fun x=>x);have i3:=F6.out.heap H7.out (fun x=>x);have i4:=F6.out.heap H8.out (fun x=>x);have a3:=hid (FR.out.trans' F6.out);have j2:=Zl (c5.out.heap H4.out (fun x=>x));have j3:=Zl (c5.out.heap H7.out (fun x=>x));have j4:=Zl (show w5.heap[w.heap.size+1+1]? =some (.cells #[.int .u64 0,.int .u64 0,.int .u64 0,.int .u64 0] 33 (0,0))from c5.out.heap H8.out (fun x=>x));have a5:=hid i2;have I:=hid i3;have a6:=hid i4;clear i2 i3 i4 e4 k8 k9 l1 f5;have n0:(0:Int)≤x.next:=by omega
     have n2:(x.next:Int)≤l.length:=by have:=e9.2.1;omega
     have n3:IntKind.i64.wrap ((x.next:Int)+1)=(x.next:Int)+1:=IntWalk.i64_in _ (by omega);have m2:=hid e9;clear e9;cases hr:rng l x.next with
     |false=>
      have f0:=ZnO HI.out hr;rw[h5.out]at f0;have j:=hid (RS.next K.out g9.out f0);clear f0;have k7:=Zzw hr;clear hr;rcases k7 with h1|⟨h1,h2⟩|⟨h1,h2,h3⟩
      ·have u3:¬(x.next:Int)+1<l.length:=by omega
       clear h1;go_wp2_with fail;rw[←c7.out];refine(orR_lit v sx w6).mono ?_;obtain⟨N,hN⟩:∃N,v.or sx=N:=⟨_,rfl⟩;have J:=hid (show N.fit by rw[←hN];exact Zph _ _);rw[hN]at j⊢;clear hN;rintro e P ⟨rfl,i⟩;have b9:=Zl (i.heap I.out (fun x=>x));obtain⟨g,f⟩:∃g,g=(((P.setCell ⟨w.heap.size+1,0,none⟩ (.int .u64 N.a)).setCell ⟨w.heap.size+1,1,none⟩ (.int .u64 N.b)).setCell ⟨w.heap.size+1,2,none⟩ (.int .u64 N.c)).setCell ⟨w.heap.size+1,3,none⟩ (.int .u64 N.d):=⟨_,rfl⟩;have p:AtR g (w.heap.size+1) N:=by rw[f];exact setFour_heap (i.heap I.out (fun x=>x)) _ _ _ _
       have o:AtR g w.heap.size S4.zero:=by rw[f];exact Zy (i.heap a5.out (fun x=>x)) (by omega) _ _ _ _
       have q:AtR g (w.heap.size+2) S4.zero:=by rw[f];exact Zy (i.heap a6.out (fun x=>x)) (by omega) _ _ _ _
       have r:=hid (show Fr nob w g by rw[f];exact setFour_frS (a3.out.trans' i) (by omega) _ _ _ _);have t:=hid (show ZyS l w F m (.int .i64 x.next) (.bool false) g from⟨x.next,N,false,rfl,rfl,p,o,q,r.out,J.out,j.out.2.1,j.out.2.2,j.out.1⟩);have u:=hid f;clear p o q f i;go_wp2_with fail;rw[←u.out];go_roundg m
       case measure=>omega
       case rel=>exact t.out
      ·have u3:(x.next:Int)+1<l.length:=by omega
       have j5:(x.next:Int)<l.length:=by omega
       have u4:(((l[x.next]).toNat:Int)==45)=false:=Zn h2;clear h2;go_wp2_with fail;rw[←c7.out];refine(orR_lit v sx w6).mono ?_;obtain⟨N,hN⟩:∃N,v.or sx=N:=⟨_,rfl⟩;have J:=hid (show N.fit by rw[←hN];exact Zph _ _);rw[hN]at j⊢;clear hN;rintro e P ⟨rfl,i⟩;have b9:=Zl (i.heap I.out (fun x=>x));obtain⟨g,f⟩:∃g,g=(((P.setCell ⟨w.heap.size+1,0,none⟩ (.int .u64 N.a)).setCell ⟨w.heap.size+1,1,none⟩ (.int .u64 N.b)).setCell ⟨w.heap.size+1,2,none⟩ (.int .u64 N.c)).setCell ⟨w.heap.size+1,3,none⟩ (.int .u64 N.d):=⟨_,rfl⟩;have p:AtR g (w.heap.size+1) N:=by rw[f];exact setFour_heap (i.heap I.out (fun x=>x)) _ _ _ _
       have o:AtR g w.heap.size S4.zero:=by rw[f];exact Zy (i.heap a5.out (fun x=>x)) (by omega) _ _ _ _
       have q:AtR g (w.heap.size+2) S4.zero:=by rw[f];exact Zy (i.heap a6.out (fun x=>x)) (by omega) _ _ _ _
       have r:=hid (show Fr nob w g by rw[f];exact setFour_frS (a3.out.trans' i) (by omega) _ _ _ _);have t:=hid (show ZyS l w F m (.int .i64 x.next) (.bool false) g from⟨x.next,N,false,rfl,rfl,p,o,q,r.out,J.out,j.out.2.1,j.out.2.2,j.out.1⟩);have u:=hid f;clear p o q f i;go_wp2_with fail;rw[←u.out];go_roundg m
       case measure=>omega
       case rel=>exact t.out
      ·have u3:(x.next:Int)+1<l.length:=by omega
       have j5:(x.next:Int)<l.length:=by omega
       have u4:(((l[x.next]).toNat:Int)==45)=true:=Zcy h2;have u5:(((l[x.next+1]).toNat:Int) !=93)=false:=tn_eq h3;clear h2 h3;go_wp2_with fail;rw[←c7.out];refine(orR_lit v sx w6).mono ?_;obtain⟨N,hN⟩:∃N,v.or sx=N:=⟨_,rfl⟩;have J:=hid (show N.fit by rw[←hN];exact Zph _ _);rw[hN]at j⊢;clear hN;rintro e P ⟨rfl,i⟩;have b9:=Zl (i.heap I.out (fun x=>x));obtain⟨g,f⟩:∃g,g=(((P.setCell ⟨w.heap.size+1,0,none⟩ (.int .u64 N.a)).setCell ⟨w.heap.size+1,1,none⟩ (.int .u64 N.b)).setCell ⟨w.heap.size+1,2,none⟩ (.int .u64 N.c)).setCell ⟨w.heap.size+1,3,none⟩ (.int .u64 N.d):=⟨_,rfl⟩;have p:AtR g (w.heap.size+1) N:=by rw[f];exact setFour_heap (i.heap I.out (fun x=>x)) _ _ _ _
       have o:AtR g w.heap.size S4.zero:=by rw[f];exact Zy (i.heap a5.out (fun x=>x)) (by omega) _ _ _ _
       have q:AtR g (w.heap.size+2) S4.zero:=by rw[f];exact Zy (i.heap a6.out (fun x=>x)) (by omega) _ _ _ _
       have r:=hid (show Fr nob w g by rw[f];exact setFour_frS (a3.out.trans' i) (by omega) _ _ _ _);have t:=hid (show ZyS l w F m (.int .i64 x.next) (.bool false) g from⟨x.next,N,false,rfl,rfl,p,o,q,r.out,J.out,j.out.2.1,j.out.2.2,j.out.1⟩);have u:=hid f;clear p o q f i;go_wp2_with fail;rw[←u.out];go_roundg m
       case measure=>omega
       case rel=>exact t.out
     |true=>
      obtain⟨h1,h2,h3⟩:=ZyR hr;have h0:=hid hr;clear hr;have u3:(x.next:Int)+1<l.length:=by omega
      have j5:(x.next:Int)<l.length:=by omega
      have u4:(((l[x.next]).toNat:Int)==45)=true:=Zcy h2;have u5:(((l[x.next+1]).toNat:Int) !=93)=true:=ZoW h3;clear h2 h3;have e3:=hid (ritem_any l (x.next+1) w6 hl (by omega));rw[show((x.next+1:Nat):Int)=(x.next:Int)+1 from rfl]at e3;go_wp2_with fail;rw[←c7.out];refine e3.out.mono ?_;clear e3;cases hJ:itm l (x.next+1)with
      |inl z=>
       rintro e w9 ⟨rfl,f9⟩;have hz:=itm_err hJ;have v1:(z.1 !=0)=true:=by simpa using hz
       have D:=hid (RS.bad K.out (ZnP HI.out h0.out hJ));have l9:=Zl (show w9.heap[w.heap.size+1+1]? =some (.cells #[.int .u64 0,.int .u64 0,.int .u64 0,.int .u64 0] 33 (0,0))from f9.heap a6.out (fun x=>x));have g3:=hid (f9.heap a5.out (fun x=>x));have k0:=hid (a3.out.trans' f9);have l7:=Zl (show w9.heap[w.heap.size]? =some (.cells #[.int .u64 0,.int .u64 0,.int .u64 0,.int .u64 0] 33 (0,0))from g3.out);clear hz f9 hJ;rw[show Zy2 (.inl z)=.tuple #[.agg #[.int .u64 0,.int .u64 0,.int .u64 0,.int .u64 0],.bool false,.int .i64 0,.int .i64 z.1,.int .i64 z.2]from rfl];have e8:Fr nob w9 (w9.alloc (.cells #[.int .u64 0,.int .u64 0,.int .u64 0,.int .u64 0] 33)):=(Fr.refl _ _).alloc _;have g4:=hid (e8.heap g3.out (fun x=>x));have f8:=hid (k0.out.trans' e8);clear e8;go_wp2;(try simp only[Exit.inBlock,Exit.then]);refine bodyPost_ret (Z9 (s:=S4.zero) (by rfl) (by rfl) (by rfl) (by rfl) (setFour_heap g4.out _ _ _ _)) rfl ⟨?_,setFour_frS f8.out (Nat.le_refl _) _ _ _ _⟩
       rw[←HR.out,HP.out,D.out];rfl
      |inr y=>
       rintro e w9 ⟨rfl,f9⟩;rw[show Zy2 (.inr y)=.tuple #[ZcR y.set,.bool y.one.isSome,.int .i64 y.next,.int .i64 0,.int .i64 0]from rfl];obtain⟨sy,f2⟩:∃sy,y.set=sy:=⟨_,rfl⟩;rw[f2];obtain⟨c4,V⟩:∃c4,c4=w9.alloc (.cells #[.int .u64 sy.a,.int .u64 sy.b,.int .u64 sy.c,.int .u64 sy.d] 33):=⟨_,rfl⟩;have E:=hid (show Fr nob w6 c4 by rw[V];exact f9.alloc _);have e6:AtR c4 w9.heap.size sy:=by rw[V];exact newAt _ _
       have b0:=E.out.heap a5.out (fun x=>x);have b3:=E.out.heap I.out (fun x=>x);have b6:=E.out.heap a6.out (fun x=>x);have L:=E.out.heap k1.out (fun x=>x);have Q:=hid (a3.out.trans' E.out);have c0:=Zl b0;have c2:=Zl b3;have c3:=Zl (show c4.heap[w.heap.size+1+1]? =some (.cells #[.int .u64 0,.int .u64 0,.int .u64 0,.int .u64 0] 33 (0,0))from b6);have W:=Zl L;have X:=Zl e6;have S:=hid b0;have g5:=hid b3;have d5:=hid b6;have e0:=hid L;have k2:=hid e6;have U:=hid V;have k4:=hid f2;have m6:w.heap.size+2<w5.heap.size:=by have:=lt_heap H8.out;have:=c5.out.size;omega
       clear b0 b3 b6 L e6 V f2 j2 j3 j4 j1 f9;have c6:=hid (ZnQ HI.out h0.out hJ);have HY:=hid hJ;clear hJ;cases b8:x.one with
       |none=>
        have D:=hid (RS.bad K.out (show prt l k=.inl (1,k) by rw[c6.out,b8];rfl));have b1:(none:Option UInt8).isSome=false:=rfl;go_wp2_with fail;rw[←U.out];refine region_fr 10 (by kernel_rfl) (by kernel_rfl) ?_;simp only[List.take_succ_cons,List.take_zero,List.drop_succ_cons,List.drop_zero]
        repeat(go_big_quiet_step (fail))
        refine wpQuiet_nil ?_;intro wC fC;have e2:=hid (fC.heap S.out (fun x=>x));have d9:=hid (Q.out.trans' fC);go_wp2;(try simp only[Exit.inBlock,Exit.then]);refine bodyPost_ret (Z9 (s:=S4.zero) (by rfl) (by rfl) (by rfl) (by rfl) (setFour_heap e2.out _ _ _ _)) rfl ⟨?_,setFour_frS d9.out (Nat.le_refl _) _ _ _ _⟩;rw[←HR.out,HP.out,D.out];rfl
       |some a1=>
        cases d1:y.one with
        |none=>
         have D:=hid (RS.bad K.out (show prt l k=.inl (1,k) by rw[c6.out,b8,d1];rfl));have b1:(some a1:Option UInt8).isSome=true:=rfl;have b2:(none:Option UInt8).isSome=false:=rfl;go_wp2_with fail;rw[←U.out];refine region_fr 10 (by kernel_rfl) (by kernel_rfl) ?_;simp only[List.take_succ_cons,List.take_zero,List.drop_succ_cons,List.drop_zero]
         repeat(go_big_quiet_step (fail))
         refine wpQuiet_nil ?_;intro wC fC;have e2:=hid (fC.heap S.out (fun x=>x));have d9:=hid (Q.out.trans' fC);go_wp2;(try simp only[Exit.inBlock,Exit.then]);refine bodyPost_ret (Z9 (s:=S4.zero) (by rfl) (by rfl) (by rfl) (by rfl) (setFour_heap e2.out _ _ _ _)) rfl ⟨?_,setFour_frS d9.out (Nat.le_refl _) _ _ _ _⟩;rw[←HR.out,HP.out,D.out];rfl
        |some b1=>
         have m4:(some a1:Option UInt8).isSome=true:=rfl;have m5:(some b1:Option UInt8).isSome=true:=rfl;have i5:∀w':World,Calls Tryz.prog 165 #[ZcR sx] w' fun e w''=>e=.returned (.int .u8 (a1.toNat:Nat))∧Fr nob w' w'':=fun w'=>by
          rw[←h5.out,Ze5 HI.out b8];exact Zx6 _ w' a1.toNat_lt
         have i6:∀w':World,Calls Tryz.prog 165 #[ZcR sy] w' fun e w''=>e=.returned (.int .u8 (b1.toNat:Nat))∧Fr nob w' w'':=fun w'=>by
          rw[←k4.out,Ze5 HY.out d1];exact Zx6 _ w' b1.toNat_lt
         have CX:=hid i5;have CY:=hid i6;clear i5 i6;by_cases hlt:a1.toNat≤b1.toNat
         ·have j:=hid (RS.next K.out g9.out (show prt l k=.inr (spn a1.toNat b1.toNat,y.next) by rw[c6.out,b8,d1];exact Zpq hlt));have u6:¬(b1.toNat:Int)<(a1.toNat:Int):=by omega
          go_wp2_with fail;rw[←U.out];refine region_fr 10 (by kernel_rfl) (by kernel_rfl) ?_;simp only[List.take_succ_cons,List.take_zero,List.drop_succ_cons,List.drop_zero]
          repeat(go_big_quiet_step ((with_reducible exact calls_fr (CY.out _))))
          refine wpQuiet_nil ?_;intro wC fC;go_wp2_with fail;refine(CX.out _).mono ?_;rintro e j6 ⟨rfl,a7⟩;have C:=hid (fC.trans' a7);have A:=C.out.heap S.out (fun x=>x);have b4:=C.out.heap g5.out (fun x=>x);have G:=C.out.heap d5.out (fun x=>x);have M:=C.out.heap e0.out (fun x=>x);have a9:=C.out.heap k2.out (fun x=>x);have a2:=hid (Q.out.trans' C.out);have c1:=Zl A;have f4:=Zl b4;have d2:=Zl M;have d3:=Zl a9;have a4:=hid A;have g6:=hid b4;have g7:=hid G;have e1:=hid M;clear A b4 G M a9 a7 fC c0 c2 c3 W X;go_wp2_with fail;refine region_fr 3 (by kernel_rfl) (by kernel_rfl) ?_;simp only[List.take_succ_cons,List.take_zero,List.drop_succ_cons,List.drop_zero]
          repeat(go_big_quiet_step ((with_reducible exact calls_fr (CX.out _))))
          refine wpQuiet_nil ?_;intro wD fD;go_wp2_with fail;refine(CY.out _).mono ?_;rintro e l4 ⟨rfl,i0⟩;go_wp2_with fail;refine(spanR_lit a1.toNat b1.toNat l4 a1.toNat_lt b1.toNat_lt).mono ?_;obtain⟨sz,f3⟩:∃sz,spn a1.toNat b1.toNat=sz:=⟨_,rfl⟩;rw[f3]at j⊢;have m3:=hid f3;clear f3;rintro e l5 ⟨rfl,i1⟩;have a0:=hid ((fD.trans' i0).trans' i1);have O:=a0.out.heap e1.out (fun x=>x);have j7:=Zl O;obtain⟨H,B⟩:∃H,H=(((l5.setCell ⟨w5.heap.size,0,none⟩ (.int .u64 sz.a)).setCell ⟨w5.heap.size,1,none⟩ (.int .u64 sz.b)).setCell ⟨w5.heap.size,2,none⟩ (.int .u64 sz.c)).setCell ⟨w5.heap.size,3,none⟩ (.int .u64 sz.d):=⟨_,rfl⟩;have a8:AtR H w5.heap.size sz:=by rw[B];exact setFour_heap O _ _ _ _
          have d6:AtR H w.heap.size S4.zero:=by rw[B];exact Zy (a0.out.heap a4.out (fun x=>x)) (by omega) _ _ _ _
          have b5:AtR H (w.heap.size+1) v:=by rw[B];exact Zy (a0.out.heap g6.out (fun x=>x)) (by omega) _ _ _ _
          have d7:AtR H (w.heap.size+2) S4.zero:=by rw[B];exact Zy (a0.out.heap g7.out (fun x=>x)) (by omega) _ _ _ _
          have f6:=hid (show Fr nob w H by rw[B];exact setFour_frS (a2.out.trans' a0.out) (by omega) _ _ _ _);have g0:=hid d6;have d4:=hid b5;have g8:=hid d7;have h6:=hid B;have l0:=Zl b5;have j8:=Zl a8;clear O a8 d6 b5 d7 B i0 i1 fD c1 f4 d2 d3;go_wp2_with(rw[←h6.out]);refine(orR_lit v sz H).mono ?_;obtain⟨N,hN⟩:∃N,v.or sz=N:=⟨_,rfl⟩;have J:=hid (show N.fit by rw[←hN];exact Zph _ _);rw[hN]at j⊢;clear hN;rintro e P ⟨rfl,i⟩;have b9:=Zl (i.heap d4.out (fun x=>x));obtain⟨g,f⟩:∃g,g=(((P.setCell ⟨w.heap.size+1,0,none⟩ (.int .u64 N.a)).setCell ⟨w.heap.size+1,1,none⟩ (.int .u64 N.b)).setCell ⟨w.heap.size+1,2,none⟩ (.int .u64 N.c)).setCell ⟨w.heap.size+1,3,none⟩ (.int .u64 N.d):=⟨_,rfl⟩;have p:AtR g (w.heap.size+1) N:=by rw[f];exact setFour_heap (i.heap d4.out (fun x=>x)) _ _ _ _
          have o:AtR g w.heap.size S4.zero:=by rw[f];exact Zy (i.heap g0.out (fun x=>x)) (by omega) _ _ _ _
          have q:AtR g (w.heap.size+2) S4.zero:=by rw[f];exact Zy (i.heap g8.out (fun x=>x)) (by omega) _ _ _ _
          have r:=hid (show Fr nob w g by rw[f];exact setFour_frS (f6.out.trans' i) (by omega) _ _ _ _);have t:=hid (show ZyS l w F m (.int .i64 y.next) (.bool false) g from⟨y.next,N,false,rfl,rfl,p,o,q,r.out,J.out,j.out.2.1,j.out.2.2,j.out.1⟩);have u:=hid f;clear p o q f i;go_wp2_with fail;rw[←u.out];go_roundg m
          case measure=>omega
          case rel=>exact t.out
         ·have D:=hid (RS.bad K.out (show prt l k=.inl (1,k) by rw[c6.out,b8,d1];exact Zpr hlt));have u6:(b1.toNat:Int)<(a1.toNat:Int):=by omega
          go_wp2_with fail;rw[←U.out];refine region_fr 10 (by kernel_rfl) (by kernel_rfl) ?_;simp only[List.take_succ_cons,List.take_zero,List.drop_succ_cons,List.drop_zero]
          repeat(go_big_quiet_step ((with_reducible exact calls_fr (CY.out _))))
          refine wpQuiet_nil ?_;intro wC fC;go_wp2_with fail;refine(CX.out _).mono ?_;rintro e j6 ⟨rfl,a7⟩;have C:=hid (fC.trans' a7);have A:=C.out.heap S.out (fun x=>x);have G:=C.out.heap d5.out (fun x=>x);have a2:=hid (Q.out.trans' C.out);have c1:=Zl A;have l2:=Zl (show j6.heap[w.heap.size+1+1]? =some (.cells #[.int .u64 0,.int .u64 0,.int .u64 0,.int .u64 0] 33 (0,0))from G);have a4:=hid A;clear A G a7 fC c0 c2 c3 W X;go_wp2;(try simp only[Exit.inBlock,Exit.then]);refine bodyPost_ret (Z9 (s:=S4.zero) (by rfl) (by rfl) (by rfl) (by rfl) (setFour_heap a4.out _ _ _ _)) rfl ⟨?_,setFour_frS a2.out (Nat.le_refl _) _ _ _ _⟩;rw[←HR.out,HP.out,D.out];rfl
theorem Zzf(l:List UInt8)(a:Nat)(w:World)(hl:l.length≤100000)(ha:a≤l.length)(hge:l.length≤a):
 Calls Tryz.prog 144 #[.string ⟨l.toArray⟩,.int .i64 a] w (ZAT (prs l a) w):=by
 obtain⟨w0,Z⟩:∃w0,w0=((w.alloc (.cells #[.int .u64 0,.int .u64 0,.int .u64 0,.int .u64 0] 33)).alloc (.cells #[.int .u64 0,.int .u64 0,.int .u64 0,.int .u64 0] 33)).alloc (.cells #[.int .u64 0,.int .u64 0,.int .u64 0,.int .u64 0] 33):=⟨_,rfl⟩;have h4:AtR w0 w.heap.size S4.zero:=by rw[Z];exact heap_alloc_lt _ (heap_alloc_lt _ (newAt _ _))
 have h7:AtR w0 (w.heap.size+1) S4.zero:=(show w0.heap[w.heap.size+1]? =some (.cells #[.int .u64 0,.int .u64 0,.int .u64 0,.int .u64 0] 33 (0,0)) by rw[Z];have:=newAt (w.alloc (.cells #[.int .u64 0,.int .u64 0,.int .u64 0,.int .u64 0] 33)) (.cells #[.int .u64 0,.int .u64 0,.int .u64 0,.int .u64 0] 33);exact heap_alloc_lt _ (by simpa using this));have h8:AtR w0 (w.heap.size+2) S4.zero:=(show w0.heap[w.heap.size+2]? =some (.cells #[.int .u64 0,.int .u64 0,.int .u64 0,.int .u64 0] 33 (0,0)) by rw[Z];have:=newAt ((w.alloc (.cells #[.int .u64 0,.int .u64 0,.int .u64 0,.int .u64 0] 33)).alloc (.cells #[.int .u64 0,.int .u64 0,.int .u64 0,.int .u64 0] 33)) (.cells #[.int .u64 0,.int .u64 0,.int .u64 0,.int .u64 0] 33);simpa using this);have F0:=hid (show Fr nob w w0 by rw[Z];exact(((Fr.refl _ _).alloc _).alloc _).alloc _);have H4:=hid h4;have H7:=hid h7;have H8:=hid h8;have HW:=hid Z;clear Z h4 h7 h8
 have t0:¬(a:Int)<0:=by omega
 have n5:¬(l.length:Int)<a:=by omega
 obtain⟨F,hF⟩:∃F,ZjH l (l.length+1) (prt l (a))=F:=⟨_,rfl⟩;have HP:=hid (show prs l a=Zex false F by rw[←hF];exact Zps (by cases hb:[94].isPrefixOf (l.drop a)with|false=>rfl|true=>exact absurd ((List.getElem?_eq_some_iff.1 (ZlH.1 hb)).1) (by omega)));obtain⟨R,hR⟩:∃R,prs l a=R:=⟨_,rfl⟩;rw[hR];have HR:=hid hR;have HF:=hid hF;clear hR hF;have t1:¬(a:Int)<l.length:=by omega
 go_enter Tryz.func144,Tryz.ntmps144
 iterate 26 go_step
 rw[←HW.out];go_wp2_with fail
 go_loopg [1,10] (l.length+2) (fun n v1 v10 wr=>ZyS l w F n v1 v10 wr)
 case atStart=>exact⟨a,S4.zero,true,by go_num,rfl,H7.out,H4.out,H8.out,F0.out,ZaU,ha,by omega,by unfold RS;exact⟨rfl,rfl,HF.out⟩⟩
 case round=>
  obtain⟨k,v,Y,rfl,rfl,h7,h4,h8,i7,d8,hk,n1,j1⟩:=hrel;obtain⟨m,rfl⟩:∃m,gk=m+1:=⟨gk-1,by omega⟩;have k9:=Zl (show wr.heap[w.heap.size]? =some (.cells #[.int .u64 0,.int .u64 0,.int .u64 0,.int .u64 0] 33 (0,0))from h4);have l0:=Zl h7;have l2:=Zl (show wr.heap[w.heap.size+1+1]? =some (.cells #[.int .u64 0,.int .u64 0,.int .u64 0,.int .u64 0] 33 (0,0))from h8);have H4:=hid h4;have H7:=hid h7;have H8:=hid h8;have FR:=hid i7;have m2:=hid d8;have h9:=hid j1;clear h4 h7 h8 i7 d8 j1;have m8:(0:Int)≤k:=by omega
  have m9:(k:Int)≤l.length:=by omega
  have n4:IntKind.i64.wrap ((k:Int)+1)=(k:Int)+1:=IntWalk.i64_in _ (by omega);by_cases c9:Y=false∧l[k]? =some 93
  ·obtain⟨rfl,c8⟩:=c9;have k4:=hid (h9.out.halt c8);have k7:=(List.getElem?_eq_some_iff.1 c8).1;have u1:¬(l.length:Int)≤k:=by omega
   have l4:(k:Int)<l.length:=by omega
   have u2:(((l[k]).toNat:Int) !=93)=false:=tn_eq (List.getElem?_eq_some_iff.1 c8).2;clear c8;go_wp2_with fail;(try simp only[Exit.inBlock,Exit.then]);refine bodyPost_ret (Z9 (s:=v) (by rfl) (by rfl) (by rfl) (by rfl) (setFour_heap H4.out _ _ _ _)) rfl ⟨?_,setFour_frS FR.out (Nat.le_refl _) _ _ _ _⟩;rw[←HR.out,HP.out,k4.out];rfl
  ·have i8:=h9.out.go (by cases Y with|true=>exact .inl rfl|false=>exact .inr (fun e=>c9 ⟨rfl,e⟩));have K:=hid i8;clear i8;have g9:=hid (Zka (l:=l) (n:=m) (a:=k) (s:=v) (by omega));have b7:Y=true∨(Y=false∧l.length≤k)∨(Y=false∧∃h:k<l.length,l[k]≠93):=by
    cases Y with
    |true=>exact .inl rfl
    |false=>
     by_cases k6:l.length≤k
     ·exact .inr (.inl ⟨rfl,k6⟩)
     ·exact .inr (.inr ⟨rfl,by omega,fun e=>c9 ⟨rfl,by rw[List.getElem?_eq_getElem (by omega),e]⟩⟩)
   clear c9;go_step
   go_cut [] (fun w'=>wr=w')
   case first=>
    rcases b7 with rfl|⟨rfl,hge⟩|⟨rfl,k7,j0⟩
    ·go_wp2;go_meet
     case rel=>exact rfl
    ·have u1:(l.length:Int)≤k:=by omega
     go_wp2;go_meet
     case rel=>exact rfl
    ·have u1:¬(l.length:Int)≤k:=by omega
     have l4:(k:Int)<l.length:=by omega
     have u2:(((l[k]).toNat:Int) !=93)=true:=ZoW j0;clear j0;go_wp2;go_meet
     case rel=>exact rfl
   case rest=>
    obtain rfl:=hcut;clear b7;go_wp2_with fail;refine(ritem_any l k wr hl (by omega)).mono ?_;cases hI:itm l k with
    |inl z=>
     rintro e w5 ⟨rfl,f5⟩;have hz:=itm_err hI;have v1:(z.1 !=0)=true:=by simpa using hz
     have D:=hid (show F=.inl z by rw[←K.out,ZnN hI];rfl);have l9:=Zl (show w5.heap[w.heap.size+1+1]? =some (.cells #[.int .u64 0,.int .u64 0,.int .u64 0,.int .u64 0] 33 (0,0))from f5.heap H8.out (fun x=>x));have g1:=hid (f5.heap H4.out (fun x=>x));have k0:=hid (FR.out.trans' f5);have l7:=Zl (show w5.heap[w.heap.size]? =some (.cells #[.int .u64 0,.int .u64 0,.int .u64 0,.int .u64 0] 33 (0,0))from g1.out);clear hz f5 hI;rw[show Zy2 (.inl z)=.tuple #[.agg #[.int .u64 0,.int .u64 0,.int .u64 0,.int .u64 0],.bool false,.int .i64 0,.int .i64 z.1,.int .i64 z.2]from rfl];have e7:Fr nob w5 (w5.alloc (.cells #[.int .u64 0,.int .u64 0,.int .u64 0,.int .u64 0] 33)):=(Fr.refl _ _).alloc _;have g2:=hid (e7.heap g1.out (fun x=>x));have f7:=hid (k0.out.trans' e7);clear e7;go_wp2;(try simp only[Exit.inBlock,Exit.then]);refine bodyPost_ret (Z9 (s:=S4.zero) (by rfl) (by rfl) (by rfl) (by rfl) (setFour_heap g2.out _ _ _ _)) rfl ⟨?_,setFour_frS f7.out (Nat.le_refl _) _ _ _ _⟩
     rw[←HR.out,HP.out,D.out];rfl
    |inr x=>
     rintro e w5 ⟨rfl,f5⟩;rw[show Zy2 (.inr x)=.tuple #[ZcR x.set,.bool x.one.isSome,.int .i64 x.next,.int .i64 0,.int .i64 0]from rfl];have e9:=ZdF hI;obtain⟨sx,f1⟩:∃sx,x.set=sx:=⟨_,rfl⟩;rw[f1];obtain⟨w6,d0⟩:∃w6,w6=w5.alloc (.cells #[.int .u64 sx.a,.int .u64 sx.b,.int .u64 sx.c,.int .u64 sx.d] 33):=⟨_,rfl⟩;have e4:Fr nob w5 w6:=by rw[d0];exact(Fr.refl _ _).alloc _
     have e5:AtR w6 w5.heap.size sx:=by rw[d0];exact newAt _ _
     have k2:=hid e5;have m1:=hid (f5.trans' e4);have c7:=hid d0;have HI:=hid hI;have h5:=hid f1;have j2:=Zl e5;have c5:=hid f5;clear e5 d0 f1 hI;have F6:=hid (f5.trans' e4);have i2:=F6.out.heap H4.out (fun x=>x);have i3:=F6.out.heap H7.out (fun x=>x);have i4:=F6.out.heap H8.out (fun x=>x);have a3:=hid (FR.out.trans' F6.out);have j3:=Zl (c5.out.heap H4.out (fun x=>x));have j4:=Zl (c5.out.heap H7.out (fun x=>x));have j5:=Zl (show w5.heap[w.heap.size+1+1]? =some (.cells #[.int .u64 0,.int .u64 0,.int .u64 0,.int .u64 0] 33 (0,0))from c5.out.heap H8.out (fun x=>x));have a5:=hid i2;have I:=hid i3;have a6:=hid i4;clear i2 i3 i4 e4 k9 l0 l2 f5;have n0:(0:Int)≤x.next:=by omega
     have n2:(x.next:Int)≤l.length:=by have:=e9.2.1;omega
     have n3:IntKind.i64.wrap ((x.next:Int)+1)=(x.next:Int)+1:=IntWalk.i64_in _ (by omega);have m3:=hid e9;clear e9;cases hr:rng l x.next with
     |false=>
      have f0:=ZnO HI.out hr;rw[h5.out]at f0;have j:=hid (RS.next K.out g9.out f0);clear f0;have k8:=Zzw hr;clear hr;rcases k8 with h1|⟨h1,h2⟩|⟨h1,h2,h3⟩
      ·have u3:¬(x.next:Int)+1<l.length:=by omega
       clear h1;go_wp2_with fail;rw[←c7.out];refine(orR_lit v sx w6).mono ?_;obtain⟨N,hN⟩:∃N,v.or sx=N:=⟨_,rfl⟩;have J:=hid (show N.fit by rw[←hN];exact Zph _ _);rw[hN]at j⊢;clear hN;rintro e P ⟨rfl,i⟩;have b9:=Zl (i.heap I.out (fun x=>x));obtain⟨g,f⟩:∃g,g=(((P.setCell ⟨w.heap.size+1,0,none⟩ (.int .u64 N.a)).setCell ⟨w.heap.size+1,1,none⟩ (.int .u64 N.b)).setCell ⟨w.heap.size+1,2,none⟩ (.int .u64 N.c)).setCell ⟨w.heap.size+1,3,none⟩ (.int .u64 N.d):=⟨_,rfl⟩;have p:AtR g (w.heap.size+1) N:=by rw[f];exact setFour_heap (i.heap I.out (fun x=>x)) _ _ _ _
       have o:AtR g w.heap.size S4.zero:=by rw[f];exact Zy (i.heap a5.out (fun x=>x)) (by omega) _ _ _ _
       have q:AtR g (w.heap.size+2) S4.zero:=by rw[f];exact Zy (i.heap a6.out (fun x=>x)) (by omega) _ _ _ _
       have r:=hid (show Fr nob w g by rw[f];exact setFour_frS (a3.out.trans' i) (by omega) _ _ _ _);have t:=hid (show ZyS l w F m (.int .i64 x.next) (.bool false) g from⟨x.next,N,false,rfl,rfl,p,o,q,r.out,J.out,j.out.2.1,j.out.2.2,j.out.1⟩);have u:=hid f;clear p o q f i;go_wp2_with fail;rw[←u.out];go_roundg m
       case measure=>omega
       case rel=>exact t.out
      ·have u3:(x.next:Int)+1<l.length:=by omega
       have j6:(x.next:Int)<l.length:=by omega
       have u4:(((l[x.next]).toNat:Int)==45)=false:=Zn h2;clear h2;go_wp2_with fail;rw[←c7.out];refine(orR_lit v sx w6).mono ?_;obtain⟨N,hN⟩:∃N,v.or sx=N:=⟨_,rfl⟩;have J:=hid (show N.fit by rw[←hN];exact Zph _ _);rw[hN]at j⊢;clear hN;rintro e P ⟨rfl,i⟩;have b9:=Zl (i.heap I.out (fun x=>x));obtain⟨g,f⟩:∃g,g=(((P.setCell ⟨w.heap.size+1,0,none⟩ (.int .u64 N.a)).setCell ⟨w.heap.size+1,1,none⟩ (.int .u64 N.b)).setCell ⟨w.heap.size+1,2,none⟩ (.int .u64 N.c)).setCell ⟨w.heap.size+1,3,none⟩ (.int .u64 N.d):=⟨_,rfl⟩;have p:AtR g (w.heap.size+1) N:=by rw[f];exact setFour_heap (i.heap I.out (fun x=>x)) _ _ _ _
       have o:AtR g w.heap.size S4.zero:=by rw[f];exact Zy (i.heap a5.out (fun x=>x)) (by omega) _ _ _ _
       have q:AtR g (w.heap.size+2) S4.zero:=by rw[f];exact Zy (i.heap a6.out (fun x=>x)) (by omega) _ _ _ _
       have r:=hid (show Fr nob w g by rw[f];exact setFour_frS (a3.out.trans' i) (by omega) _ _ _ _);have t:=hid (show ZyS l w F m (.int .i64 x.next) (.bool false) g from⟨x.next,N,false,rfl,rfl,p,o,q,r.out,J.out,j.out.2.1,j.out.2.2,j.out.1⟩);have u:=hid f;clear p o q f i;go_wp2_with fail;rw[←u.out];go_roundg m
       case measure=>omega
       case rel=>exact t.out
      ·have u3:(x.next:Int)+1<l.length:=by omega
       have j6:(x.next:Int)<l.length:=by omega
       have u4:(((l[x.next]).toNat:Int)==45)=true:=Zcy h2;have u5:(((l[x.next+1]).toNat:Int) !=93)=false:=tn_eq h3;clear h2 h3;go_wp2_with fail;rw[←c7.out];refine(orR_lit v sx w6).mono ?_;obtain⟨N,hN⟩:∃N,v.or sx=N:=⟨_,rfl⟩;have J:=hid (show N.fit by rw[←hN];exact Zph _ _);rw[hN]at j⊢;clear hN;rintro e P ⟨rfl,i⟩;have b9:=Zl (i.heap I.out (fun x=>x));obtain⟨g,f⟩:∃g,g=(((P.setCell ⟨w.heap.size+1,0,none⟩ (.int .u64 N.a)).setCell ⟨w.heap.size+1,1,none⟩ (.int .u64 N.b)).setCell ⟨w.heap.size+1,2,none⟩ (.int .u64 N.c)).setCell ⟨w.heap.size+1,3,none⟩ (.int .u64 N.d):=⟨_,rfl⟩;have p:AtR g (w.heap.size+1) N:=by rw[f];exact setFour_heap (i.heap I.out (fun x=>x)) _ _ _ _
       have o:AtR g w.heap.size S4.zero:=by rw[f];exact Zy (i.heap a5.out (fun x=>x)) (by omega) _ _ _ _
       have q:AtR g (w.heap.size+2) S4.zero:=by rw[f];exact Zy (i.heap a6.out (fun x=>x)) (by omega) _ _ _ _
       have r:=hid (show Fr nob w g by rw[f];exact setFour_frS (a3.out.trans' i) (by omega) _ _ _ _);have t:=hid (show ZyS l w F m (.int .i64 x.next) (.bool false) g from⟨x.next,N,false,rfl,rfl,p,o,q,r.out,J.out,j.out.2.1,j.out.2.2,j.out.1⟩);have u:=hid f;clear p o q f i;go_wp2_with fail;rw[←u.out];go_roundg m
       case measure=>omega
       case rel=>exact t.out
     |true=>
      obtain⟨h1,h2,h3⟩:=ZyR hr;have h0:=hid hr;clear hr;have u3:(x.next:Int)+1<l.length:=by omega
      have j6:(x.next:Int)<l.length:=by omega
      have u4:(((l[x.next]).toNat:Int)==45)=true:=Zcy h2;have u5:(((l[x.next+1]).toNat:Int) !=93)=true:=ZoW h3;clear h2 h3;have e3:=hid (ritem_any l (x.next+1) w6 hl (by omega));rw[show((x.next+1:Nat):Int)=(x.next:Int)+1 from rfl]at e3;go_wp2_with fail;rw[←c7.out];refine e3.out.mono ?_;clear e3;cases hJ:itm l (x.next+1)with
      |inl z=>
       rintro e w9 ⟨rfl,f9⟩;have hz:=itm_err hJ;have v1:(z.1 !=0)=true:=by simpa using hz
       have D:=hid (RS.bad K.out (ZnP HI.out h0.out hJ));have m0:=Zl (show w9.heap[w.heap.size+1+1]? =some (.cells #[.int .u64 0,.int .u64 0,.int .u64 0,.int .u64 0] 33 (0,0))from f9.heap a6.out (fun x=>x));have g3:=hid (f9.heap a5.out (fun x=>x));have k1:=hid (a3.out.trans' f9);have l8:=Zl (show w9.heap[w.heap.size]? =some (.cells #[.int .u64 0,.int .u64 0,.int .u64 0,.int .u64 0] 33 (0,0))from g3.out);clear hz f9 hJ;rw[show Zy2 (.inl z)=.tuple #[.agg #[.int .u64 0,.int .u64 0,.int .u64 0,.int .u64 0],.bool false,.int .i64 0,.int .i64 z.1,.int .i64 z.2]from rfl];have e8:Fr nob w9 (w9.alloc (.cells #[.int .u64 0,.int .u64 0,.int .u64 0,.int .u64 0] 33)):=(Fr.refl _ _).alloc _;have g4:=hid (e8.heap g3.out (fun x=>x));have f8:=hid (k1.out.trans' e8);clear e8;go_wp2;(try simp only[Exit.inBlock,Exit.then]);refine bodyPost_ret (Z9 (s:=S4.zero) (by rfl) (by rfl) (by rfl) (by rfl) (setFour_heap g4.out _ _ _ _)) rfl ⟨?_,setFour_frS f8.out (Nat.le_refl _) _ _ _ _⟩
       rw[←HR.out,HP.out,D.out];rfl
      |inr y=>
       rintro e w9 ⟨rfl,f9⟩;rw[show Zy2 (.inr y)=.tuple #[ZcR y.set,.bool y.one.isSome,.int .i64 y.next,.int .i64 0,.int .i64 0]from rfl];obtain⟨sy,f2⟩:∃sy,y.set=sy:=⟨_,rfl⟩;rw[f2];obtain⟨c4,V⟩:∃c4,c4=w9.alloc (.cells #[.int .u64 sy.a,.int .u64 sy.b,.int .u64 sy.c,.int .u64 sy.d] 33):=⟨_,rfl⟩;have E:=hid (show Fr nob w6 c4 by rw[V];exact f9.alloc _);have e6:AtR c4 w9.heap.size sy:=by rw[V];exact newAt _ _
       have b0:=E.out.heap a5.out (fun x=>x);have b3:=E.out.heap I.out (fun x=>x);have b6:=E.out.heap a6.out (fun x=>x);have L:=E.out.heap k2.out (fun x=>x);have Q:=hid (a3.out.trans' E.out);have c0:=Zl b0;have c2:=Zl b3;have c3:=Zl (show c4.heap[w.heap.size+1+1]? =some (.cells #[.int .u64 0,.int .u64 0,.int .u64 0,.int .u64 0] 33 (0,0))from b6);have W:=Zl L;have X:=Zl e6;have S:=hid b0;have g5:=hid b3;have d5:=hid b6;have e0:=hid L;have k3:=hid e6;have U:=hid V;have k5:=hid f2;have m7:w.heap.size+2<w5.heap.size:=by have:=lt_heap H8.out;have:=c5.out.size;omega
       clear b0 b3 b6 L e6 V f2 j3 j4 j5 j2 f9;have c6:=hid (ZnQ HI.out h0.out hJ);have HY:=hid hJ;clear hJ;cases b8:x.one with
       |none=>
        have D:=hid (RS.bad K.out (show prt l k=.inl (1,k) by rw[c6.out,b8];rfl));have b1:(none:Option UInt8).isSome=false:=rfl;go_wp2_with fail;rw[←U.out];refine region_fr 10 (by kernel_rfl) (by kernel_rfl) ?_;simp only[List.take_succ_cons,List.take_zero,List.drop_succ_cons,List.drop_zero]
        repeat(go_big_quiet_step (fail))
        refine wpQuiet_nil ?_;intro wC fC;have e2:=hid (fC.heap S.out (fun x=>x));have d9:=hid (Q.out.trans' fC);go_wp2;(try simp only[Exit.inBlock,Exit.then]);refine bodyPost_ret (Z9 (s:=S4.zero) (by rfl) (by rfl) (by rfl) (by rfl) (setFour_heap e2.out _ _ _ _)) rfl ⟨?_,setFour_frS d9.out (Nat.le_refl _) _ _ _ _⟩;rw[←HR.out,HP.out,D.out];rfl
       |some a1=>
        cases d1:y.one with
        |none=>
         have D:=hid (RS.bad K.out (show prt l k=.inl (1,k) by rw[c6.out,b8,d1];rfl));have b1:(some a1:Option UInt8).isSome=true:=rfl;have b2:(none:Option UInt8).isSome=false:=rfl;go_wp2_with fail;rw[←U.out];refine region_fr 10 (by kernel_rfl) (by kernel_rfl) ?_;simp only[List.take_succ_cons,List.take_zero,List.drop_succ_cons,List.drop_zero]
         repeat(go_big_quiet_step (fail))
         refine wpQuiet_nil ?_;intro wC fC;have e2:=hid (fC.heap S.out (fun x=>x));have d9:=hid (Q.out.trans' fC);go_wp2;(try simp only[Exit.inBlock,Exit.then]);refine bodyPost_ret (Z9 (s:=S4.zero) (by rfl) (by rfl) (by rfl) (by rfl) (setFour_heap e2.out _ _ _ _)) rfl ⟨?_,setFour_frS d9.out (Nat.le_refl _) _ _ _ _⟩;rw[←HR.out,HP.out,D.out];rfl
        |some b1=>
         have m5:(some a1:Option UInt8).isSome=true:=rfl;have m6:(some b1:Option UInt8).isSome=true:=rfl;have i5:∀w':World,Calls Tryz.prog 165 #[ZcR sx] w' fun e w''=>e=.returned (.int .u8 (a1.toNat:Nat))∧Fr nob w' w'':=fun w'=>by
          rw[←h5.out,Ze5 HI.out b8];exact Zx6 _ w' a1.toNat_lt
         have i6:∀w':World,Calls Tryz.prog 165 #[ZcR sy] w' fun e w''=>e=.returned (.int .u8 (b1.toNat:Nat))∧Fr nob w' w'':=fun w'=>by
          rw[←k5.out,Ze5 HY.out d1];exact Zx6 _ w' b1.toNat_lt
         have CX:=hid i5;have CY:=hid i6;clear i5 i6;by_cases i9:a1.toNat≤b1.toNat
         ·have j:=hid (RS.next K.out g9.out (show prt l k=.inr (spn a1.toNat b1.toNat,y.next) by rw[c6.out,b8,d1];exact Zpq i9));have u6:¬(b1.toNat:Int)<(a1.toNat:Int):=by omega
          go_wp2_with fail;rw[←U.out];refine region_fr 10 (by kernel_rfl) (by kernel_rfl) ?_;simp only[List.take_succ_cons,List.take_zero,List.drop_succ_cons,List.drop_zero]
          repeat(go_big_quiet_step ((with_reducible exact calls_fr (CY.out _))))
          refine wpQuiet_nil ?_;intro wC fC;go_wp2_with fail;refine(CX.out _).mono ?_;rintro e j7 ⟨rfl,a7⟩;have C:=hid (fC.trans' a7);have A:=C.out.heap S.out (fun x=>x);have b4:=C.out.heap g5.out (fun x=>x);have G:=C.out.heap d5.out (fun x=>x);have M:=C.out.heap e0.out (fun x=>x);have a9:=C.out.heap k3.out (fun x=>x);have a2:=hid (Q.out.trans' C.out);have c1:=Zl A;have f4:=Zl b4;have d2:=Zl M;have d3:=Zl a9;have a4:=hid A;have g6:=hid b4;have g7:=hid G;have e1:=hid M;clear A b4 G M a9 a7 fC c0 c2 c3 W X;go_wp2_with fail;refine region_fr 3 (by kernel_rfl) (by kernel_rfl) ?_;simp only[List.take_succ_cons,List.take_zero,List.drop_succ_cons,List.drop_zero]
          repeat(go_big_quiet_step ((with_reducible exact calls_fr (CX.out _))))
          refine wpQuiet_nil ?_;intro wD fD;go_wp2_with fail;refine(CY.out _).mono ?_;rintro e l5 ⟨rfl,i0⟩;go_wp2_with fail;refine(spanR_lit a1.toNat b1.toNat l5 a1.toNat_lt b1.toNat_lt).mono ?_;obtain⟨sz,f3⟩:∃sz,spn a1.toNat b1.toNat=sz:=⟨_,rfl⟩;rw[f3]at j⊢;have m4:=hid f3;clear f3;rintro e l6 ⟨rfl,i1⟩;have a0:=hid ((fD.trans' i0).trans' i1);have O:=a0.out.heap e1.out (fun x=>x);have j8:=Zl O;obtain⟨H,B⟩:∃H,H=(((l6.setCell ⟨w5.heap.size,0,none⟩ (.int .u64 sz.a)).setCell ⟨w5.heap.size,1,none⟩ (.int .u64 sz.b)).setCell ⟨w5.heap.size,2,none⟩ (.int .u64 sz.c)).setCell ⟨w5.heap.size,3,none⟩ (.int .u64 sz.d):=⟨_,rfl⟩;have a8:AtR H w5.heap.size sz:=by rw[B];exact setFour_heap O _ _ _ _
          have d6:AtR H w.heap.size S4.zero:=by rw[B];exact Zy (a0.out.heap a4.out (fun x=>x)) (by omega) _ _ _ _
          have b5:AtR H (w.heap.size+1) v:=by rw[B];exact Zy (a0.out.heap g6.out (fun x=>x)) (by omega) _ _ _ _
          have d7:AtR H (w.heap.size+2) S4.zero:=by rw[B];exact Zy (a0.out.heap g7.out (fun x=>x)) (by omega) _ _ _ _
          have f6:=hid (show Fr nob w H by rw[B];exact setFour_frS (a2.out.trans' a0.out) (by omega) _ _ _ _);have g0:=hid d6;have d4:=hid b5;have g8:=hid d7;have h6:=hid B;have l1:=Zl b5;have j9:=Zl a8;clear O a8 d6 b5 d7 B i0 i1 fD c1 f4 d2 d3;go_wp2_with(rw[←h6.out]);refine(orR_lit v sz H).mono ?_;obtain⟨N,hN⟩:∃N,v.or sz=N:=⟨_,rfl⟩;have J:=hid (show N.fit by rw[←hN];exact Zph _ _);rw[hN]at j⊢;clear hN;rintro e P ⟨rfl,i⟩;have b9:=Zl (i.heap d4.out (fun x=>x));obtain⟨g,f⟩:∃g,g=(((P.setCell ⟨w.heap.size+1,0,none⟩ (.int .u64 N.a)).setCell ⟨w.heap.size+1,1,none⟩ (.int .u64 N.b)).setCell ⟨w.heap.size+1,2,none⟩ (.int .u64 N.c)).setCell ⟨w.heap.size+1,3,none⟩ (.int .u64 N.d):=⟨_,rfl⟩;have p:AtR g (w.heap.size+1) N:=by rw[f];exact setFour_heap (i.heap d4.out (fun x=>x)) _ _ _ _
          have o:AtR g w.heap.size S4.zero:=by rw[f];exact Zy (i.heap g0.out (fun x=>x)) (by omega) _ _ _ _
          have q:AtR g (w.heap.size+2) S4.zero:=by rw[f];exact Zy (i.heap g8.out (fun x=>x)) (by omega) _ _ _ _
          have r:=hid (show Fr nob w g by rw[f];exact setFour_frS (f6.out.trans' i) (by omega) _ _ _ _);have t:=hid (show ZyS l w F m (.int .i64 y.next) (.bool false) g from⟨y.next,N,false,rfl,rfl,p,o,q,r.out,J.out,j.out.2.1,j.out.2.2,j.out.1⟩);have u:=hid f;clear p o q f i;go_wp2_with fail;rw[←u.out];go_roundg m
          case measure=>omega
          case rel=>exact t.out
         ·have D:=hid (RS.bad K.out (show prt l k=.inl (1,k) by rw[c6.out,b8,d1];exact Zpr i9));have u6:(b1.toNat:Int)<(a1.toNat:Int):=by omega
          go_wp2_with fail;rw[←U.out];refine region_fr 10 (by kernel_rfl) (by kernel_rfl) ?_;simp only[List.take_succ_cons,List.take_zero,List.drop_succ_cons,List.drop_zero]
          repeat(go_big_quiet_step ((with_reducible exact calls_fr (CY.out _))))
          refine wpQuiet_nil ?_;intro wC fC;go_wp2_with fail;refine(CX.out _).mono ?_;rintro e j7 ⟨rfl,a7⟩;have C:=hid (fC.trans' a7);have A:=C.out.heap S.out (fun x=>x);have G:=C.out.heap d5.out (fun x=>x);have a2:=hid (Q.out.trans' C.out);have c1:=Zl A;have l3:=Zl (show j7.heap[w.heap.size+1+1]? =some (.cells #[.int .u64 0,.int .u64 0,.int .u64 0,.int .u64 0] 33 (0,0))from G);have a4:=hid A;clear A G a7 fC c0 c2 c3 W X;go_wp2;(try simp only[Exit.inBlock,Exit.then]);refine bodyPost_ret (Z9 (s:=S4.zero) (by rfl) (by rfl) (by rfl) (by rfl) (setFour_heap a4.out _ _ _ _)) rfl ⟨?_,setFour_frS a2.out (Nat.le_refl _) _ _ _ _⟩;rw[←HR.out,HP.out,D.out];rfl
end Go.Proofs.YtgllcniibbaoaaaGreatDoor
