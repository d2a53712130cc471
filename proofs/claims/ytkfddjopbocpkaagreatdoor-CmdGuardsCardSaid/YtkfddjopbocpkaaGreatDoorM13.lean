/-
  Merged texts of this claim: BreG, BreH, BreI, BreJ.
-/
import Derived.Test.YtkfddjopbocpkaaGreatDoorM12
set_option linter.unusedVariables false
set_option linter.unusedSimpArgs false
set_option maxRecDepth 100000
set_option maxHeartbeats 4000000
namespace Go.Proofs.YtkfddjopbocpkaaGreatDoor
open Go.Lib (hid)
open Go.RowKit
def ZgH(b:UInt8):S4×Bool×Bool:=
 match Zmp b with
 |some (c,m)=>(c,m,true)
 |none=>(spn b.toNat b.toNat,false,false)
theorem ZjX:ZgH 110=(spn 10 10,false,true):=rfl
theorem ZjY:ZgH 116=(spn 9 9,true,true):=rfl
theorem ZjZ:ZgH 119=(Zem,true,true):=rfl
theorem Zlp:ZgH 87=(Zem.not,true,true):=rfl
theorem Zj0:ZgH 115=(ZcC,true,true):=rfl
theorem Zlq:ZgH 83=(ZcC.not,true,true):=rfl
theorem Ziz{b:UInt8}(h1:b≠110)(h2:b≠116)(h3:b≠119)(h4:b≠87)(h5:b≠115)(h6:b≠83):ZgH b=(spn b.toNat b.toNat,false,ZcD.has b.toNat):=by
 unfold ZgH Zmp;rw[if_neg h1,if_neg h2,if_neg h3,if_neg h4,if_neg h5,if_neg h6];cases ZcD.has b.toNat<;>rfl
theorem Zng(w:World)(T:TypeId):Calls Tryz.prog 256 #[.slice (some ⟨w.heap.size,0,none⟩) 1 1] (w.alloc (.cells #[.int .u8 10] T)) fun e w'=>e=.returned (Zc5 (spn 10 10))∧Fr nob (w.alloc (.cells #[.int .u8 10] T)) w':=Zc6 10 w T
theorem ZnK(w:World)(T:TypeId):Calls Tryz.prog 256 #[.slice (some ⟨w.heap.size,0,none⟩) 1 1] (w.alloc (.cells #[.int .u8 9] T)) fun e w'=>e=.returned (Zc5 (spn 9 9))∧Fr nob (w.alloc (.cells #[.int .u8 9] T)) w':=Zc6 9 w T
abbrev Zlr(R:S4×Bool×Bool)(w:World)(e:Ending)(w':World):Prop:=e=.returned (.tuple #[Zc5 R.1,.bool R.2.1,.bool R.2.2])∧Fr nob w w'
theorem Zhv(b:UInt8)(w:World):Calls Tryz.prog 267 #[.int .u8 b.toNat] w fun e w'=>Zlr (ZgH b) w e w':=by
 obtain⟨w0,hw0⟩:∃w0,w0=w.alloc (.cells #[.int .u64 0,.int .u64 0,.int .u64 0,.int .u64 0] 132):=⟨_,rfl⟩;have hz:w0.heap[w.heap.size]? =some (.cells #[.int .u64 0,.int .u64 0,.int .u64 0,.int .u64 0] 132 (0,0)):=by rw[hw0];exact newAt0 w _
 have F0:=hid (show Fr nob w w0 by rw[hw0];exact(Fr.refl _ _).alloc _);have hsz:w0.heap.size=w.heap.size+1:=by rw[hw0];simp
 have rr:=Zn hz;have HZ:=hid hz;have HW:=hid hw0;clear hz hw0;by_cases h1:b=110
 ·subst h1;rw[ZjX];obtain⟨s,hs⟩:∃s,spn 10 10=s:=⟨_,rfl⟩;have ho:=Zng;rw[hs]at ho⊢;have ho1:=ho w0 5;rw[hsz]at ho1;have HO:=hid ho1;clear ho ho1 hs hsz;go_enter Tryz.func267,Tryz.ntmps267
  go_wp2_with fail
  rw[←HW.out]
  with_reducible refine(HO.out).mono ?_
  rintro e w1 ⟨rfl,f1⟩;have f2:Fr nob w0 w1:=((Fr.refl _ _).alloc _).trans' f1;clear f1;go_wp2;exact bodyPost_ret (Zv (s:=s) rfl rfl rfl rfl (setFour_heap (f2.heap HZ.out (fun x=>x)) _ _ _ _)) rfl ⟨rfl,ZK (F0.out.trans' f2) (Nat.le_refl _) _ _ _ _⟩
 ·have t1:((b.toNat:Int)==110)=false:=ZG (b:=110) h1;by_cases h2:b=116
  ·subst h2;rw[ZjY];obtain⟨s,hs⟩:∃s,spn 9 9=s:=⟨_,rfl⟩;have ho:=ZnK;rw[hs]at ho⊢;have ho1:=ho w0 5;rw[hsz]at ho1;have HO:=hid ho1;clear ho ho1 hs hsz;go_enter Tryz.func267,Tryz.ntmps267
   go_wp2_with fail
   rw[←HW.out]
   with_reducible refine(HO.out).mono ?_
   rintro e w1 ⟨rfl,f1⟩;have f2:Fr nob w0 w1:=((Fr.refl _ _).alloc _).trans' f1;clear f1;go_wp2;exact bodyPost_ret (Zv (s:=s) rfl rfl rfl rfl (setFour_heap (f2.heap HZ.out (fun x=>x)) _ _ _ _)) rfl ⟨rfl,ZK (F0.out.trans' f2) (Nat.le_refl _) _ _ _ _⟩
  ·have t2:((b.toNat:Int)==116)=false:=ZG (b:=116) h2;by_cases h3:b=119
   ·subst h3;rw[ZjZ];have ho:=Ziy w0;obtain⟨s,hs⟩:∃s,Zem=s:=⟨_,rfl⟩;rw[hs]at ho⊢;have HO:=hid ho;clear ho hs hsz;go_enter Tryz.func267,Tryz.ntmps267
    go_wp2_with fail
    rw[←HW.out]
    with_reducible refine(HO.out).mono ?_
    rintro e w1 ⟨rfl,f2⟩;go_wp2;exact bodyPost_ret (Zv (s:=s) rfl rfl rfl rfl (setFour_heap (f2.heap HZ.out (fun x=>x)) _ _ _ _)) rfl ⟨rfl,ZK (F0.out.trans' f2) (Nat.le_refl _) _ _ _ _⟩
   ·have t3:((b.toNat:Int)==119)=false:=ZG (b:=119) h3;by_cases h4:b=87
    ·subst h4;rw[Zlp];have ho:=Ziy w0;obtain⟨s,hs⟩:∃s,Zem=s:=⟨_,rfl⟩;rw[hs]at ho⊢;have HO:=hid ho;clear ho hs hsz;have hno:=fun w=>not_lit s w;obtain⟨u,hu⟩:∃u,s.not=u:=⟨_,rfl⟩;rw[hu]at hno⊢;have HNO:=hid hno;clear hno hu;go_enter Tryz.func267,Tryz.ntmps267
     go_wp2_with fail
     rw[←HW.out]
     with_reducible refine(HO.out).mono ?_
     rintro e w1 ⟨rfl,f2⟩
     go_wp2_with fail
     with_reducible refine(HNO.out _).mono ?_
     rintro e w2 ⟨rfl,f3⟩;have f4:Fr nob w0 w2:=f2.trans' f3;clear f2 f3;go_wp2;exact bodyPost_ret (Zv (s:=u) rfl rfl rfl rfl (setFour_heap (f4.heap HZ.out (fun x=>x)) _ _ _ _)) rfl ⟨rfl,ZK (F0.out.trans' f4) (Nat.le_refl _) _ _ _ _⟩
    ·have t4:((b.toNat:Int)==87)=false:=ZG (b:=87) h4;by_cases h5:b=115
     ·subst h5;rw[Zj0];have ho:=ZgG w0;obtain⟨s,hs⟩:∃s,ZcC=s:=⟨_,rfl⟩;rw[hs]at ho⊢;have HO:=hid ho;clear ho hs hsz;go_enter Tryz.func267,Tryz.ntmps267
      go_wp2_with fail
      rw[←HW.out]
      with_reducible refine(HO.out).mono ?_
      rintro e w1 ⟨rfl,f2⟩;go_wp2;exact bodyPost_ret (Zv (s:=s) rfl rfl rfl rfl (setFour_heap (f2.heap HZ.out (fun x=>x)) _ _ _ _)) rfl ⟨rfl,ZK (F0.out.trans' f2) (Nat.le_refl _) _ _ _ _⟩
     ·have t5:((b.toNat:Int)==115)=false:=ZG (b:=115) h5;by_cases h6:b=83
      ·subst h6;rw[Zlq];have ho:=ZgG w0;obtain⟨s,hs⟩:∃s,ZcC=s:=⟨_,rfl⟩;rw[hs]at ho⊢;have HO:=hid ho;clear ho hs hsz;have hno:=fun w=>not_lit s w;obtain⟨u,hu⟩:∃u,s.not=u:=⟨_,rfl⟩;rw[hu]at hno⊢;have HNO:=hid hno;clear hno hu;go_enter Tryz.func267,Tryz.ntmps267
       go_wp2_with fail
       rw[←HW.out]
       with_reducible refine(HO.out).mono ?_
       rintro e w1 ⟨rfl,f2⟩
       go_wp2_with fail
       with_reducible refine(HNO.out _).mono ?_
       rintro e w2 ⟨rfl,f3⟩;have f4:Fr nob w0 w2:=f2.trans' f3;clear f2 f3;go_wp2;exact bodyPost_ret (Zv (s:=u) rfl rfl rfl rfl (setFour_heap (f4.heap HZ.out (fun x=>x)) _ _ _ _)) rfl ⟨rfl,ZK (F0.out.trans' f4) (Nat.le_refl _) _ _ _ _⟩
      ·have t6:((b.toNat:Int)==83)=false:=ZG (b:=83) h6;rw[Ziz h1 h2 h3 h4 h5 h6];clear h1 h2 h3 h4 h5 h6;have hb:=b.toNat_lt;have hfit:ZcD.fit:=Zdq _;have hc:=fun w=>Zb6 ⟨#[112,117,110,99,116]⟩ _ rfl w;rw[show ZbB (Zas ⟨#[112,117,110,99,116]⟩)=ZcD from rfl]at hc;have hh:=fun w=>Zle ZcD b.toNat w hfit (by omega);obtain⟨u,hu⟩:∃u,spn b.toNat b.toNat=u:=⟨_,rfl⟩;have ho:=Zc6 b;rw[hu]at ho⊢;obtain⟨q,hq⟩:∃q,ZcD.has b.toNat=q:=⟨_,rfl⟩;rw[hq]at hh⊢;obtain⟨s,hs⟩:∃s,ZcD=s:=⟨_,rfl⟩;rw[hs]at hc hh;have HO:=hid ho;have HC:=hid hc;have HH:=hid hh;clear ho hc hh hu hq hs hfit hsz;go_enter Tryz.func267,Tryz.ntmps267
       go_wp2_with fail
       rw[←HW.out]
       with_reducible refine(HC.out _).mono ?_
       rintro e w1 ⟨rfl,f1⟩;have F1:=hid f1;clear f1
       go_wp2_with fail
       have hq4:Q4 (w1.alloc (.cells #[.int .u64 s.a,.int .u64 s.b,.int .u64 s.c,.int .u64 s.d] 132)) w1.heap.size s:=Q4.of (newAt0 w1 _);obtain⟨w2,hw2⟩:∃w2,w2=w1.alloc (.cells #[.int .u64 s.a,.int .u64 s.b,.int .u64 s.c,.int .u64 s.d] 132):=⟨_,rfl⟩;rw[←hw2]at hq4⊢;have F2:=hid (show Fr nob w1 w2 by rw[hw2];exact(Fr.refl _ _).alloc _);have HQ:=hid hq4;clear hq4 hw2;have hz2:=F2.out.heap (F1.out.heap HZ.out (fun x=>x)) (fun x=>x);clear rr;have rr:=Zn hz2;have HZ2:=hid hz2;clear hz2;have hne:w1.heap.size≠w.heap.size:=by have:=F1.out.size;have:=lt_heap HZ.out;omega
       have hoa:Calls Tryz.prog 256 #[.slice (some ⟨w2.heap.size,0,none⟩) 1 1] (World.drew (w2.alloc (.cells #[.int .u8 b.toNat] 5))) fun e w'=>e=.returned (Zc5 u)∧Fr nob w2 w':=(HO.out (World.drew w2) _).mono fun e w' h=>⟨h.1,(((Fr.refl nob w2).drew).alloc _).trans' h.2⟩;have HOA:=hid hoa;clear hoa HO
       go_region_held3 (fun w'=>Q4 w' w1.heap.size s) (first|(with_reducible exact HQ.out)|(with_reducible exact q4_on HQ.out ((Fr.refl nob w2).drew))|(with_reducible exact q4_on HQ.out (((Fr.refl nob w2).drew).alloc _))|(with_reducible exact q4_on HQ.out ((Fr.refl nob w2).alloc _))|(with_reducible exact q4_on HQ.out (((Fr.refl nob w2).alloc _).drew))|(with_reducible exact q4_on HQ.out G2)|(with_reducible exact q4_on HQ.out G1)|(with_reducible exact q4_four HQ.out G1 hne _ _ _ _)|(with_reducible exact q4_four HQ.out G2 hne _ _ _ _)|(trace_state;fail)) (first|(go_at_call 256;(with_reducible refine(HOA.out).mono ?_);rintro e g1 ⟨rfl,G1⟩)|(go_at_call 197;(with_reducible refine(HH.out _).mono ?_);rintro e g2 ⟨rfl,f2⟩;have G2:Fr nob w2 g2:=G1.trans' f2;clear f2))
       all_goals
        go_wp2;exact bodyPost_ret (Zv (s:=u) rfl rfl rfl rfl (setFour_heap (G2.heap HZ2.out (fun x=>x)) _ _ _ _)) rfl ⟨rfl,ZK (((F0.out.trans' F1.out).trans' F2.out).trans' G2) (Nat.le_refl _) _ _ _ _⟩
def ixC(l:List Nat)(n k:Nat):Int:=if(l.drop k).contains n then(k+(l.drop k).idxOf n:Nat)else -1
theorem Zls{l:List Nat}{n k:Nat}(h:l.length≤k):ixC l n k= -1:=by
 unfold ixC;rw[List.drop_eq_nil_of_le h];rfl
theorem Zlt{l:List Nat}{n k:Nat}(h:k<l.length)(e:l[k]=n):ixC l n k=k:=by
 unfold ixC;rw[List.drop_eq_getElem_cons h,e];simp
theorem Zj1{l:List Nat}{n k:Nat}(h:k<l.length)(e:l[k]≠n):ixC l n k=ixC l n (k+1):=by
 unfold ixC;rw[List.drop_eq_getElem_cons h];have e':(l[k]==n)=false:=by simpa using e
 have e2:(n==l[k])=false:=by simpa using fun h=>e h.symm
 rw[List.contains_cons,e2,Bool.false_or,List.idxOf_cons,e'];split
 ·simp;omega
 ·rfl
theorem Zj2{l:List Nat}{n:Nat}:decide (0≤ixC l n 0)=l.contains n:=by
 unfold ixC;rw[List.drop_zero];cases h:l.contains n<;>simp
theorem OwC.get{w:World}{l:List Nat}{v:Value}(h:OwC w l v):∃a c,v=.slice a l.length c∧∀k (hk:k<l.length),∃g,a=some ⟨g,0,none⟩∧w.cell? ⟨g,k,none⟩=some (.int .i64 (l[k]:Nat)):=by
 have h0:=h;unfold OwC at h;rcases h.2 with⟨rfl,hn⟩|⟨gb,c,_,rfl,_⟩
 ·exact⟨none,0,by rw[hn],fun k hk=>by omega⟩
 ·refine⟨_,c,rfl,fun k hk=>⟨gb,rfl,?_⟩⟩;rw[h.cellAt k (by omega)];simp[List.getElem?_eq_getElem hk]
theorem Zj3(l:List Nat)(n:Nat)(v:Value)(w:World)(hl:l.length≤1000000)(h:OwC w l v):
 Calls Tryz.prog 208 #[v,.int .i64 n] w fun e w'=>e=.returned (.int .i64 (ixC l n 0))∧w=w':=by
 obtain⟨a,c,rfl,hg⟩:=h.get;obtain⟨F,hF⟩:∃F,ixC l n 0=F:=⟨_,rfl⟩;rw[hF];have HF:=hid hF;have HG:=hid hg;clear hF hg h;go_enter Tryz.func208,Tryz.ntmps208
 go_wp2_with fail
 go_loop [8] (fun i=>∃k:Nat,i=.int .i64 k∧k≤l.length∧ixC l n k=F) (fun i=>l.length-(intOf i).toNat)
 case atStart=>exact⟨0,rfl,Nat.zero_le _,HF.out⟩
 case round=>
  obtain⟨k,rfl,hk,hF⟩:=hrel;by_cases hlt:k<l.length
  ·obtain⟨g,rfl,hc⟩:=HG.out k hlt;obtain⟨x,hx⟩:∃x,l[k]=x:=⟨_,rfl⟩;rw[hx]at hc;by_cases he:l[k]=n
   ·rw[Zlt hlt he]at hF;subst hF;have t1:((n:Int)==x)=true:=by rw[←hx,he];simp
    clear he hx;go_wp2;go_ret;exact⟨rfl,rfl⟩
   ·rw[Zj1 hlt he]at hF;have HX:=hid hF;have t1:((n:Int)==x)=false:=by rw[hx]at he;simp;omega
    clear he hx hF;go_wp2
    go_round
    case rel=>exact⟨k+1,by go_num,by omega,HX.out⟩
    case measure=>simp[intOf];omega
  ·rw[Zls (by omega)]at hF;subst hF;go_wp2;go_ret;exact⟨rfl,rfl⟩
theorem ZfG(l:List Nat)(n:Nat)(v:Value)(w:World)(hl:l.length≤1000000)(h:OwC w l v):
 Calls Tryz.prog 192 #[v,.int .i64 n] w fun e w'=>e=.returned (.bool (l.contains n))∧w=w':=by
 have hi:=Zj3 l n v w hl h;obtain⟨a,c,rfl,_⟩:=h.get;clear h;go_enter Tryz.func192,Tryz.ntmps192
 go_wp2_with((with_reducible refine hi.mono ?_);rintro e w' ⟨rfl,rfl⟩)
 go_ret;exact⟨ret_bool Zj2,rfl⟩
structure Sane(l:List UInt8)(s:RxS):Prop where
 le:s.at_≤l.length
 mr:s.marks.length≤s.at_
 cl:s.closed.length≤s.at_
 op:s.opened≤s.at_
structure Wd(W0:World)(S:Nat→Prop)(w:World):Prop where
 fr:Fr nob W0 w
 ge:∀k,S k→W0.heap.size≤k
 lt:∀k,S k→k<w.heap.size
theorem Wd.stp{W0:World}{S S':Nat→Prop}{w w':World}(h:Wd W0 S w)(k:Stp S w S' w'):Wd W0 S' w':=
 ⟨k.from h.fr h.ge,fun i hi=>by
  by_cases hlt:i<w.heap.size
  ·exact h.ge i (k.old i hlt hi)
  ·have:=h.fr.size;omega,k.lt h.lt⟩
def ZnA(l:List UInt8)(W0:World)(deep:Nat)(f:RxS→Out Nd):Prop:=
 ∀b s S (O:Nat→Prop) w,(∀k,O k→k<w.heap.size)→Sane l s→Wd W0 S w→Rdg b l s S w→Calls Tryz.prog 204 #[.pointer (some ⟨b,0,none⟩),.int .i64 deep] w fun x w'=>Zbm b l S O w (f s) x w'
def Zmt(l:List UInt8)(f:RxS→Out Nd):Prop:=∀s,Sane l s→∀t s',f s=.inr (t,s')→Sane l s'∧s.at_≤s'.at_
theorem ZiA:(Tryz.prog.info? 3).map (fun i=>(i.zero,i.size,i.bytes))=some (some (.int .i64 0),1,8):=by kernel_rfl
theorem RN.grp{S:Nat→Prop}{w:World}{t:Nd}{v:Value}(h:RN S w t v)(n:Int):RN S w (.group n t) (.iface 141 (.agg #[.int .i64 n,v])):=by
 rw[RN.eq_def];exact⟨v,rfl,h⟩
theorem Zd1(b:Nat)(l:List UInt8)(s:RxS)(S O:Nat→Prop)(w:World)(p:Nat):
 Calls Tryz.prog 266 #[.pointer (some ⟨b,0,none⟩),.int .i64 (p:Nat),.int .i64 12] w fun x w'=>Zbm b l S O w (Za4 prg l none p s) x w':=by
 go_enter Tryz.func266,Tryz.ntmps266
 go_wp2_with(go_at_call 231;(with_reducible refine(br_fail 4 p _).mono ?_);rintro e w' ⟨rfl,rfl⟩)
 exact⟨rfl,rfl,S,Stp.refl _ _⟩
theorem Zj4(b:Nat)(l:List UInt8)(W0:World)(deep:Nat)(f:RxS→Out Nd)(s:RxS)(S O:Nat→Prop)(w:World)(p:Nat)(hO:∀k,O k→k<w.heap.size)(hl:l.length≤100000)(hd:deep<12)(hC:ZnA l W0 (deep+1) f)(hK:Zmt l f)
 (hs:Sane l s) (h1:s.opened<s.at_) (hW:Wd W0 S w) (h:Rdg b l s S w):
 Calls Tryz.prog 266 #[.pointer (some ⟨b,0,none⟩),.int .i64 (p:Nat),.int .i64 deep] w fun x w'=>Zbm b l S O w (Za4 prg l (some f) p s) x w':=by
 obtain⟨cv,mv,hB⟩:=h;obtain⟨⟨c0,c1,c2,c3,c4⟩,d0,d1,d2,d3,d4⟩:=Zd hB.blk _ (Fr.refl _ _);have hs1:Sane l {s with opened:=s.opened+1}:=⟨hs.le,hs.mr,hs.cl,h1⟩;have hsle:=hs.le;have hop:=hs.op;obtain⟨w1,hw1⟩:∃w1,w1=w.setCell ⟨b,2,none⟩ (.int .i64 ((s.opened:Int)+1)):=⟨_,rfl⟩;have hB1:Br b l {s with opened:=s.opened+1} S cv mv w1:=by rw[hw1];exact hB.turned 2 _ _ (by simp) rfl rfl
 have hS1:Stp S w S w1:=by rw[hw1];exact hB.stp 2 _
 have hc:=hC b {s with opened:=s.opened+1} S O w1 (by rw[hw1];simpa[World.setCell]using hO) hs1 (hW.stp hS1) ⟨cv,mv,hB1⟩;obtain⟨Z,hZ⟩:∃Z,f {s with opened:=s.opened+1}=Z:=⟨_,rfl⟩;rw[hZ,show((deep+1:Nat):Int)=(deep:Int)+1 from by simp]at hc;obtain⟨R,hR⟩:∃R,Za4 prg l (some f) p s=R:=⟨_,rfl⟩;rw[hR];unfold Za4 at hR;simp only[hZ]at hR;have HW:=hid hw1;have HC:=hid hc;have HS1:=hid hS1;have HK:=hid (hK _ hs1);have HZ:=hid hZ;have hdd:((deep:Int)==12)=false:=by simp;omega
 have hdI:(deep:Int)<12:=by omega
 have e2:w1.cell? ⟨b,2,none⟩=some (.int .i64 ((s.opened:Int)+1)):=by
  obtain⟨⟨_,_,k2,_⟩,_⟩:=Zd hB1.blk _ (Fr.refl _ _);simpa using k2
 clear hw1 hc hS1 hB1 hK hC hZ hB hs1 hd hO;go_enter Tryz.func266,Tryz.ntmps266
 go_wp2_with(rw[←HW.out])
 with_reducible refine(HC.out).mono ?_
 cases Z with
 |inl z=>
  obtain⟨z1,z2⟩:=z;rintro e w2 ⟨rfl,S2,st2⟩;subst hR;exact⟨rfl,rfl,S2,HS1.out.trans st2⟩
 |inr z=>
  obtain⟨t,s2⟩:=z;rintro e w2 ⟨i,y,S2,rfl,rn2,r2,st2⟩;simp only at hR;obtain⟨sn2,sle⟩:=HK.out t s2 HZ.out;have hsn:=sn2.le;have hT:=Zbl b l [92,41] s2 S2 w2 hl (by decide) sn2.le r2;have RN2:=hid rn2;have ST2:=hid (HS1.out.trans st2);have SN2:=hid sn2;clear rn2 r2 st2 sn2;cases hA:ahd l s2.at_ [92,41]with
  |false=>
   rw[hA]at hT;rw[if_neg (by rw[hA];decide)]at hR;subst hR;have HT:=hid hT;clear hT hA
   go_wp2_with(first|((with_reducible refine(HT.out).mono ?_);rintro e w3 ⟨rfl,r3,t3⟩;have T3:=hid t3;clear r3 t3)|(go_at_call 231;(with_reducible refine(br_fail 8 p _).mono ?_);rintro e w' ⟨rfl,rfl⟩))
   exact⟨rfl,rfl,S2,ST2.out.trans T3.out⟩
  |true=>
   have hle:=ahd_le hA (by decide);simp only[List.length_cons,List.length_nil]at hle;rw[hA]at hT;rw[if_pos hA]at hR;subst hR;simp only[if_true]at hT;have HT:=hid hT;clear hT hA
   go_wp2_with fail
   refine(HT.out).mono ?_;rintro e w3 ⟨rfl,⟨cv3,mv3,hB3⟩,t3⟩;have HB3:=hid hB3;have T3:=hid t3;clear t3;obtain⟨a3,c3',rfl⟩:=Zb hB3.cl;obtain⟨i0,hi,hz0,hz1,hz2⟩:=info_parts ZiA;have rr:=Zd hB3.blk;have hcl3:(s2.go 2).closed.length≤100000:=by have:=SN2.out.cl;show s2.closed.length≤_;omega
   clear hB3
   go_wp2_with(at_builtin;refine wpList_append_g rfl _ _ 86 rfl 3 i0 (.int .i64 0) 1 8 Tryz.underlying86 hi hz0 hz1 hz2 rfl (by decide) _ _ _ rfl (ownsRow_fr HB3.out.cl ((Fr.refl nob w3).alloc _) (fun _ _ x=>x)) ⟨w3.heap.size,0,none⟩ 1 1 [.int .i64 ((s.opened:Int)+1)] rfl rfl ?c1 ?c2 ?c3 ?c4 ?_)
   case c1=>intro j u hj;match j,hj with|0,hj=>simp at hj;subst hj;simp[Addr.add]
   case c2=>intro u hu;simp at hu;subst hu;rfl
   case c3=>unfold maxLen;exact Nat.le_trans (Nat.succ_le_succ hcl3) (by decide)
   case c4=>exact Nat.le_trans (Nat.mul_le_mul_right 8 (Nat.succ_le_succ hcl3)) (by decide)
   intro v' w4 hown' hap;obtain⟨av,cv4,rfl⟩:=Zb hown';have hown2:=hown';rw[show((s.opened:Int)+1)=((s.opened+1:Nat):Int)from by simp]at hown2;obtain⟨⟨pc,pf⟩,r4,st4⟩:=HB3.out.pushC ((Fr.refl nob w3).alloc _) hap hown2;have R4:=hid r4;have ST4:=hid (T3.out.trans st4);clear hown' hown2 hap r4 st4 rr;go_wp2;go_ret;refine⟨_,_,_,rfl,?_,R4.out,ST2.out.trans ST4.out⟩;have:=(ST4.out.rn RN2.out).grp ((s.opened+1:Nat):Int);rw[show(((s.opened+1:Nat):Int))=(s.opened:Int)+1 from by simp]at this;exact this
def ZlV(l:List UInt8)(W0:World)(deep:Nat)(C:Option (RxS→Out Nd)):Prop:=
 ∀b s S (O:Nat→Prop) w (p:Nat),(∀k,O k→k<w.heap.size)→Sane l s→s.opened<s.at_→Wd W0 S w→Rdg b l s S w→Calls Tryz.prog 266 #[.pointer (some ⟨b,0,none⟩),.int .i64 p,.int .i64 deep] w fun x w'=>Zbm b l S O w (Za4 prg l C p s) x w'
theorem ZeA{l:List UInt8}{C:Option (RxS→Out Nd)}{s:RxS}(h:l.length≤s.at_+1):Zjx prg l C s=.inl (11,s.at_):=by
 unfold Zjx;rw[List.getElem?_eq_none h]
theorem ZiB{l:List UInt8}{C:Option (RxS→Out Nd)}{s:RxS}(h:s.at_+1<l.length):Zjx prg l C s=
 if ahd l s.at_ [92,40]then Za4 prg l C s.at_ (s.go 2)
 else if ahd l s.at_ [92,41]then .inl (8,s.at_)
 else if 49≤l[s.at_+1].toNat∧l[s.at_+1].toNat≤57 then
  (if s.closed.contains (l[s.at_+1].toNat-48)then .inr (.back ((l[s.at_+1].toNat-48:Nat):Int),s.go 2)else .inl (9,s.at_))
 else if(ZgH l[s.at_+1]).2.2 then .inr (.one (ZgH l[s.at_+1]).1,(if(ZgH l[s.at_+1]).2.1 then s.mark [92,l[s.at_+1]]else s).go 2)else .inl (2,s.at_):=by
 unfold Zjx;rw[List.getElem?_eq_getElem h];simp only[prg];split
 ·rfl
 ·split
  ·rfl
  ·split
   ·rfl
   ·unfold ZgH;cases Zmp l[s.at_+1]with
    |none=>rfl
    |some q=>obtain⟨c,m⟩:=q;rfl
theorem ZiC(b:Nat)(l:List UInt8)(W0:World)(deep:Nat)(C:Option (RxS→Out Nd))(s:RxS)(S O:Nat→Prop)(w:World)(hO:∀k,O k→k<w.heap.size)(hl:l.length≤100000)(hd:deep≤12)(hG:ZlV l W0 deep C)
 (hs:Sane l s) (ha:s.at_<l.length) (h92:l[s.at_]=92) (hW:Wd W0 S w) (h:Rdg b l s S w):
 Calls Tryz.prog 258 #[.pointer (some ⟨b,0,none⟩),.int .i64 deep] w fun x w'=>Zbm b l S O w (Zjx prg l C s) x w':=by
 obtain⟨R,hR⟩:∃R,Zjx prg l C s=R:=⟨_,rfl⟩;rw[hR];have hr:=h;obtain⟨cv,mv,hB⟩:=h;have rr:=Zd hB.blk;have HR:=hid hr;have HG:=hid hG;have HS:=hid hs;have HW:=hid hW;have HB:=hid hB;have hdI:(deep:Int)≤12:=by omega
 have hop:=hs.op;have hmr:=hs.mr;have hcl:=hs.cl;clear hr hG hs hW hB hd;by_cases hend:s.at_+1<l.length
 ·rw[ZiB hend]at hR;obtain⟨x,hx⟩:∃x,l[s.at_+1]=x:=⟨_,rfl⟩;rw[hx]at hR;have hge:¬(l.length:Int)≤(s.at_:Int)+1:=by omega
  have HT:=hid (Zbl b l [92,40] s S w hl (by decide) (by omega) HR.out);cases e1:ahd l s.at_ [92,40]with
  |true=>
   rw[if_pos e1]at hR;rw[e1]at HT;simp only[if_true]at HT;go_enter Tryz.func258,Tryz.ntmps258
   go_wp2_with fail
   with_reducible refine(HT.out).mono ?_
   rintro e w1 ⟨rfl,r1,t1⟩;have hg:=HG.out b (s.go 2) S O w1 s.at_ (fun k hk=>Nat.lt_of_lt_of_le (hO k hk) t1.fr.size) ⟨by show s.at_+2≤_;omega,by show s.marks.length≤s.at_+2;omega,by show s.closed.length≤s.at_+2;omega,by show s.opened≤s.at_+2;omega⟩ (by show s.opened<s.at_+2;omega) (HW.out.stp t1) r1;rw[hR]at hg;have HGG:=hid hg;have T1:=hid t1;clear hg r1 t1 rr e1 hR
   go_wp2_with fail
   with_reducible refine(HGG.out).mono ?_
   cases R with
   |inl z=>
    obtain⟨z1,z2⟩:=z;rintro e w2 ⟨rfl,S2,st2⟩;exact⟨rfl,rfl,S2,T1.out.trans st2⟩
   |inr z=>
    obtain⟨t,s2⟩:=z;rintro e w2 ⟨i,y,S2,rfl,rn2,r2,st2⟩;have RN2:=hid rn2;have R2:=hid r2;have ST2:=hid (T1.out.trans st2);clear rn2 r2 st2;go_wp2;go_ret;exact⟨_,_,S2,rfl,RN2.out,R2.out,ST2.out⟩
  |false=>
   rw[if_neg (by rw[e1];decide)]at hR;rw[e1]at HT;simp only[Bool.false_eq_true,if_false]at HT;go_enter Tryz.func258,Tryz.ntmps258
   go_wp2_with fail
   with_reducible refine(HT.out).mono ?_
   rintro e w1 ⟨rfl,r1,t1⟩;have hA:=ZbF b l [92,41] s S w1 (by omega) (by decide) (by omega) r1;obtain⟨cv1,mv1,hB1⟩:=r1;have HB1:=hid hB1;have T1:=hid t1;clear t1 rr e1 hB1;cases e2:ahd l s.at_ [92,41]with
   |true=>
    rw[if_pos e2]at hR;subst hR;rw[e2]at hA;have HA:=hid hA;clear hA e2
    go_wp2_with(first|((with_reducible refine(HA.out).mono ?_);rintro e w2 ⟨rfl,f2⟩;have F2:=hid f2;clear f2)|(go_at_call 231;(with_reducible refine(br_fail 8 _ _).mono ?_);rintro e w' ⟨rfl,rfl⟩))
    exact⟨rfl,rfl,S,T1.out.trans (Stp.of F2.out)⟩
   |false=>
    rw[if_neg (by rw[e2];decide)]at hR;rw[e2]at hA;have HA:=hid hA;clear hA e2
    go_wp2_with fail
    with_reducible refine(HA.out).mono ?_
    rintro e w2 ⟨rfl,f2⟩;have hB2:=HB1.out.on f2;have rr2:=Zd hB2.blk;obtain⟨a2,c2',hcv⟩:=Zb hB2.cl;subst hcv;have HB2:=hid hB2;have T2:=hid (T1.out.trans (Stp.of f2));clear hB2 f2;have hal:(s.at_:Int)+1<l.length:=by omega
    by_cases hd:49≤x.toNat∧x.toNat≤57
    ·rw[if_pos hd]at hR;obtain⟨hd1,hd2⟩:=hd;obtain⟨n,hn⟩:∃n,x.toNat=n+48:=⟨x.toNat-48,by omega⟩;rw[hn]at hR hd1 hd2;rw[show n+48-48=n from by omega]at hR;have hw8:IntKind.u8.wrap (n:Int)=n:=IntWalk.u8_in _ (by omega);have hN:=ZfG s.closed n _ w2 (by omega) HB2.out.cl;cases hq:s.closed.contains n with
     |true=>
      rw[if_pos hq]at hR;subst hR;rw[hq]at hN;have HN:=hid hN;clear hN hq
      go_wp2_with((with_reducible refine(HN.out).mono ?_);rintro e w3 ⟨rfl,rfl⟩)
      go_ret;exact⟨_,_,S,rfl,by rw[RN],⟨_,_,HB2.out.turned 1 _ (s.go 2) (by simp[RxS.go]) rfl rfl⟩,T2.out.trans (HB2.out.stp 1 _)⟩
     |false=>
      rw[if_neg (by rw[hq];decide)]at hR;subst hR;rw[hq]at hN;have HN:=hid hN;clear hN hq
      go_wp2_with(first|((with_reducible refine(HN.out).mono ?_);rintro e w3 ⟨rfl,rfl⟩)|(go_at_call 231;(with_reducible refine(br_fail 9 _ _).mono ?_);rintro e w' ⟨rfl,rfl⟩))
      exact⟨rfl,rfl,S,T2.out⟩
    ·rw[if_neg hd]at hR;have hd':x.toNat<49∨(49≤x.toNat∧57<x.toNat):=by omega
     have hE:=Zhv x w2;have hxb:=x.toNat_lt;have hsl:=Zaa (P:=Tryz.prog) l (lo:=(s.at_:Int)) (hi:=(s.at_:Int)+2) Tryz.underlying9 (by omega) (by omega) (by omega);have hsn:List.take (((s.at_:Int)+2).toNat-((s.at_:Int)).toNat) (List.drop ((s.at_:Int)).toNat l)=[92,x]:=by
      rw[show((s.at_:Int)).toNat=s.at_ from by omega,show((s.at_:Int)+2).toNat-s.at_=2 from by omega,List.drop_eq_getElem_cons ha,List.drop_eq_getElem_cons hend,h92,hx];rfl
     rw[hsn]at hsl;obtain⟨⟨c,m,k⟩,hq⟩:∃q,ZgH x=q:=⟨_,rfl⟩;rw[hq]at hE hR;simp only at hR;have HE:=hid hE;have HX:=hid hq;clear hd hE hsn hq;cases k with
     |false=>
      rw[if_neg (by decide)]at hR;subst hR;rcases hd' with hd'|⟨hd1,hd2⟩
      all_goals
       go_wp2_with(first|((with_reducible refine(HE.out).mono ?_);rintro e w3 ⟨rfl,f3⟩;have F3:=hid f3;clear f3)|(go_at_call 231;(with_reducible refine(br_fail 2 _ _).mono ?_);rintro e w' ⟨rfl,rfl⟩))
       exact⟨rfl,rfl,S,T2.out.trans (Stp.of ((F3.out).alloc _))⟩
     |true=>
      rw[if_pos rfl]at hR;subst hR;cases m with
      |false=>
       rcases hd' with hd'|⟨hd1,hd2⟩
       all_goals
        go_wp2_with fail
        with_reducible refine(HE.out).mono ?_
        rintro e w3 ⟨rfl,f3⟩;obtain⟨w4,hw4⟩:∃w4,w4=w3.alloc (.cells #[.int .u64 c.a,.int .u64 c.b,.int .u64 c.c,.int .u64 c.d] 132):=⟨_,rfl⟩;have f4:Fr nob w2 w4:=by rw[hw4];exact f3.alloc _
        have hB4:=HB2.out.on f4;have hq4:Q4 w4 w3.heap.size c:=by rw[hw4];exact Q4.of (newAt0 w3 _)
        have hbn:b<w3.heap.size:=Nat.lt_of_lt_of_le (lt_heap HB2.out.blk) f3.size;have hnS:¬S w3.heap.size:=fun hk=>by have:=(HW.out.stp T2.out).lt _ hk;have:=f3.size;omega
        obtain⟨⟨k0,k1,_⟩,_,j1,_⟩:=Zd hB4.blk _ (Fr.refl _ _);have HW4:=hid hw4;have HB4:=hid hB4;have HQ4:=hid hq4;have T4:=hid (T2.out.trans (Stp.of f4));clear hw4 f4 f3 hB4 hq4 rr2;simp only;have hq5:Q4 (w4.setCell ⟨b,1,none⟩ (.int .i64 ((s.at_:Int)+2))) w3.heap.size c:=by
         have g:=(Fr.refl (fun k=>k=b) w4).setCell (p:=⟨b,1,none⟩) (fun _=>rfl) (.int .i64 ((s.at_:Int)+2));have hne:w3.heap.size≠b:=by omega
         exact⟨g.cell HQ4.out.1 hne,g.cell HQ4.out.2.1 hne,g.cell HQ4.out.2.2.1 hne,g.cell HQ4.out.2.2.2 hne⟩
        go_wp2_with(rw[←HW4.out])
        go_ret;exact⟨_,_,S,rfl,by rw[RN];rfl,⟨_,_,HB4.out.turned 1 _ (s.go 2) (by simp[RxS.go]) rfl rfl⟩,T4.out.trans (HB4.out.stp 1 _)⟩
      |true=>
       rcases hd' with hd'|⟨hd1,hd2⟩
       all_goals
        go_wp2_with fail
        with_reducible refine(HE.out).mono ?_
        rintro e w3 ⟨rfl,f3⟩;obtain⟨w4,hw4⟩:∃w4,w4=w3.alloc (.cells #[.int .u64 c.a,.int .u64 c.b,.int .u64 c.c,.int .u64 c.d] 132):=⟨_,rfl⟩;have f4:Fr nob w2 w4:=by rw[hw4];exact f3.alloc _
        have hB4:=HB2.out.on f4;have hq4:Q4 w4 w3.heap.size c:=by rw[hw4];exact Q4.of (newAt0 w3 _)
        have hbn:b<w3.heap.size:=Nat.lt_of_lt_of_le (lt_heap HB2.out.blk) f3.size;have hnS:¬S w3.heap.size:=fun hk=>by have:=(HW.out.stp T2.out).lt _ hk;have:=f3.size;omega
        obtain⟨⟨k0,k1,_⟩,_,j1,_⟩:=Zd hB4.blk _ (Fr.refl _ _);have HW4:=hid hw4;have HB4:=hid hB4;have HQ4:=hid hq4;have T4:=hid (T2.out.trans (Stp.of f4));clear hw4 f4 f3 hB4 hq4 rr2;simp only
        go_wp2_with(rw[←HW4.out])
        refine(br_mark b l [92,x] s S w4 (by omega) ⟨_,_,HB4.out⟩).mono ?_;rintro e w5 ⟨rfl,S5,⟨cv5,mv5,hB5⟩,st5⟩;have hne:w3.heap.size≠b:=by omega
        have hq5:Q4 w5 w3.heap.size c:=⟨st5.fr.cell HQ4.out.1 hnS,st5.fr.cell HQ4.out.2.1 hnS,st5.fr.cell HQ4.out.2.2.1 hnS,st5.fr.cell HQ4.out.2.2.2 hnS⟩;have hq6:Q4 (w5.setCell ⟨b,1,none⟩ (.int .i64 ((s.at_:Int)+2))) w3.heap.size c:=by
         have g:=(Fr.refl (fun k=>k=b) w5).setCell (p:=⟨b,1,none⟩) (fun _=>rfl) (.int .i64 ((s.at_:Int)+2));exact⟨g.cell hq5.1 hne,g.cell hq5.2.1 hne,g.cell hq5.2.2.1 hne,g.cell hq5.2.2.2 hne⟩
        obtain⟨⟨_,n1,_⟩,_,n2,_⟩:=Zd hB5.blk _ (Fr.refl _ _);rw[show(s.mark [92,x]).at_=s.at_ from rfl]at n1;have HB5:=hid hB5;have ST5:=hid (T4.out.trans st5);clear hB5 st5 hq5 k0 k1 j1;go_wp2;go_ret;exact⟨_,_,S5,rfl,by rw[RN];rfl,⟨_,_,HB5.out.turned 1 _ ((s.mark [92,x]).go 2) (by simp[RxS.go,RxS.mark]) rfl rfl⟩,ST5.out.trans (HB5.out.stp 1 _)⟩
 ·rw[ZeA (by omega)]at hR;subst hR;have hge:(l.length:Int)≤(s.at_:Int)+1:=by omega
  go_enter Tryz.func258,Tryz.ntmps258
  go_wp2_with(go_at_call 231;(with_reducible refine(br_fail 11 _ _).mono ?_);rintro e w' ⟨rfl,rfl⟩)
  exact⟨rfl,rfl,S,Stp.refl _ _⟩
end Go.Proofs.YtkfddjopbocpkaaGreatDoor
