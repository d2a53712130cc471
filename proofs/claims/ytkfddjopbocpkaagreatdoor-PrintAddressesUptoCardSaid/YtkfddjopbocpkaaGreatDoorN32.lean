/- Lemmas of this claim. -/
import Derived.Test.YtkfddjopbocpkaaGreatDoorN31
set_option linter.unusedVariables false
set_option linter.unusedSimpArgs false
set_option maxRecDepth 100000
set_option maxHeartbeats 4000000
namespace Go.Proofs.YtkfddjopbocpkaaGreatDoor
open Go.Lib (hid)
open Go.RowKit
def ZtU(p:Prt):List UInt8:=if p.1<0 then Zs6 [92,47,38] [92,110] p.2 else if p.1=0 then[38]else[92]++Lib.itoa p.1
def ZsH(l:List Prt):List UInt8:=l.flatMap ZtU
def Zvy(x:SV):List UInt8:=ZuU x.tree++(ZsH x.parts++([47]++((if x.nth=0 then[]else Lib.itoa x.nth)++((if x.all then[103]else[])++((if x.print then[112]else[])++(if x.file=[]then[]else[119,32]++x.file))))))
structure SvOk(x:SV):Prop where
 tr:ZvK x.tree
 n0: -9223372036854775808≤x.nth
 n1:x.nth≤9223372036854775807
 pl:x.parts.length≤100000
 ps:∀p∈x.parts,p.2.length≤100000∧ -9223372036854775808≤p.1∧p.1≤9223372036854775807
 fl:x.file.length≤100000
theorem Zvz{p:Prt}(h:p.2.length≤100000∧ -9223372036854775808≤p.1∧p.1≤9223372036854775807):(ZtU p).length≤400000:=by
 unfold ZtU;split
 ·have:=ZsK [92,47,38] [92,110] p.2;simp only[List.length_cons,List.length_nil]at this;omega
 ·split
  ·simp
  ·have:=ZsT h.2.1 h.2.2;simp;omega
theorem Zth:∀{l:List Prt},(∀p∈l,p.2.length≤100000∧ -9223372036854775808≤p.1∧p.1≤9223372036854775807)→(ZsH l).length≤400000*l.length
 |[],_=>by simp[ZsH]
 |p::l,h=>by
  have h1:=Zth (l:=l) (fun q hq=>h q (List.mem_cons_of_mem _ hq));have h2:=Zvz (h p (List.mem_cons_self ..));unfold ZsH at h1⊢;rw[List.flatMap_cons,List.length_append,List.length_cons];omega
theorem Zuq{l:List Prt}{k:Nat}(h:k<l.length):ZsH (l.take (k+1))=ZsH (l.take k)++ZtU l[k]:=by
 unfold ZsH;rw[List.take_succ_eq_append_getElem h,List.flatMap_append];simp
theorem ZvA{x:SV}(h:SvOk x):(Zvy x).length≤50000000000:=by
 have h1:=ZtS h.tr;have h2:=Zth h.ps;have h3:=ZsT h.n0 h.n1;have h4:=h.pl;have h5:=h.fl;unfold Zvy;simp only[List.length_append,List.length_cons,List.length_nil];have a1:(if x.nth=0 then[]else Lib.itoa x.nth).length≤20:=by split<;>first|omega|simp
 have a2:(if x.all then[(103:UInt8)]else[]).length≤1:=by split<;>simp
 have a3:(if x.print then[(112:UInt8)]else[]).length≤1:=by split<;>simp
 have a4:(if x.file=[]then[]else[119,32]++x.file).length≤100002:=by split<;>simp only[List.length_append,List.length_cons,List.length_nil]<;>omega
 omega
section
variable {W0 w w':World} {K:Nat→Prop} {b:Nat} {out:List UInt8}
theorem ZvZ(x:SV)(u pv:Value)(hE:Env W0)(hP:P10 W0)(hg:SvOk x)(hv1:RN nob W0 x.tree u)(hv2:OwP W0 x.parts pv)(h:PxW W0 K b out w)(hlen:out.length≤10000000000):
 Calls Tryz.prog 80 #[.pointer (some ⟨b,0,none⟩),.agg #[.string ⟨x.text.toArray⟩,u,pv,.int .i64 x.nth,.bool x.all,.bool x.print,.string ⟨x.file.toArray⟩]] w (PxA W0 K b (out++Zvy x) w (.tuple #[])):=by
 have o1:u.oneCell'=true:=by rcases hv1.shape with rfl|⟨i,y,rfl⟩<;>rfl
 have o:=hid (fun(w':World) (f:Fr nob W0 w')=>Zt2 x.tree u w' (hE.on f) (hP.on f) hg.tr (RN.keep f (fun _ _ x=>x.elim) (fun _ _ x=>x.elim) _ _ hv1));have HP:=hid (fun(w':World) (f:Fr nob W0 w')=>hP.on f);have Q:=hid hv2;obtain⟨pa,pc,rfl⟩:=Zb hv2;have l1:=ZtS hg.tr;have l2:=Zth hg.ps;have l3:=ZsT hg.n0 hg.n1;have l4:=hg.pl;have l5:=hg.fl;have v:=hid hg.ps;have HN:=hid (And.intro hg.n0 hg.n1);obtain⟨xt,tr,ps,nth,al,pr,fl⟩:=x;unfold Zvy;simp only at o Q l1 l2 l3 l4 l5 v HN hv1⊢;obtain⟨T1,S⟩:∃T,ZuU tr=T:=⟨_,rfl⟩;rw[S]at o l1⊢;obtain⟨A1,B⟩:∃A,(if nth=0 then[]else Lib.itoa nth)=A:=⟨_,rfl⟩;obtain⟨A2,C⟩:∃A,(if al then[(103:UInt8)]else[])=A:=⟨_,rfl⟩;obtain⟨A3,E⟩:∃A,(if pr then[(112:UInt8)]else[])=A:=⟨_,rfl⟩;obtain⟨A4,F⟩:∃A,(if fl=[]then[]else[119,32]++fl)=A:=⟨_,rfl⟩;rw[B,C,E,F];have s:=hid B;have J:=hid C;have L:=hid E;have Z:=hid F
 clear B C E F;obtain⟨w1,j⟩:∃w1,w1=w.alloc (.cells #[.string ⟨xt.toArray⟩,u,.slice pa ps.length pc,.int .i64 nth,.bool al,.bool pr,.string ⟨fl.toArray⟩] 33):=⟨_,rfl⟩;have a2:=hid j;have h1:=h.alloc (.cells #[.string ⟨xt.toArray⟩,u,.slice pa ps.length pc,.int .i64 nth,.bool al,.bool pr,.string ⟨fl.toArray⟩] 33) h.lt;rw[←j]at h1;have f1:Fr nob w w1:=by rw[j];exact(Fr.refl _ _).alloc _
 have hb:w1.heap[w.heap.size]? =some (.cells #[.string ⟨xt.toArray⟩,u,.slice pa ps.length pc,.int .i64 nth,.bool al,.bool pr,.string ⟨fl.toArray⟩] 33 (0,0)):=by rw[j];exact newAt _ _
 obtain⟨K2,q⟩:∃K2:Nat→Prop,(fun k=>K k∨k=w.heap.size)=K2:=⟨_,rfl⟩;have X:∀k,K k→K2 k:=by rw[←q];exact fun k h=>.inl h
 have Y:K2 w.heap.size:=by rw[←q];exact .inr rfl
 rw[q]at h1;have r1:=ZG hb;have H1:=hid h1;have F1:=hid f1;have HB:=hid hb;have n:=hid X;have d:=hid Y;have a1:=hid (fun(W:World) (f:Fr nob w1 W)=>o.out W (H1.out.fr.trans' f));clear j hE hP hg hv1 hv2 h h1 f1 hb q X Y S o;go_enter Tryz.func80,Tryz.ntmps80
 go_upto_region 1 with(rw[←a2.out])
 refine region_fr 6 (by kernel_rfl) (by kernel_rfl) ?_;simp only[List.take_succ_cons,List.take_zero,List.drop_succ_cons,List.drop_zero]
 repeat(go_big_quiet_step ((with_reducible exact calls_fr (a1.out _ (grown_fr _ _ _)))))
 refine wpQuiet_nil ?_;intro wC fC;go_wp2_with fail;refine(px_str T1 (H1.out.quiet fC) (by omega)).mono ?_;rintro e w2 ⟨rfl,h2,f2⟩;have G:=f2.heap (fC.heap HB.out (fun x=>x)) (fun x=>x (.inr d.out));have r2:=ZG G w2 (Fr.refl _ _);have H2:=hid h2;have F2:=hid ((Pxn.of F1.out).trans ((Pxn.of fC).trans f2 (fun _ _ x=>x)) (fun _ _ x=>x));have a0:=hid G;clear h2 f2 fC r1 G;go_wp2_with fail
 go_loopw [16] (fun i wr=>∃k:Nat,i=.int .i64 k∧k≤ps.length∧PxW W0 K2 b (out++T1++ZsH (ps.take k)) wr∧Fr (Pxn W0 K2) w2 wr) (fun i _=>ps.length-(intOf i).toNat)
 case atStart=>exact⟨0,rfl,Nat.zero_le _,by simpa[ZsH]using H2.out,Fr.refl _ _⟩
 case round=>
  obtain⟨k,rfl,hk,tx,fr⟩:=hrel;have HR:=hid tx;have FR:=hid fr;clear tx fr r2;by_cases H:k<ps.length
  ·obtain⟨g1,a7,e1,_,q1,q2⟩:=Q.out.get H;injection e1 with e1 _ e1';subst e1;subst e1';have p1:=HR.out.fr.cell q1 (fun x=>x);have p2:=HR.out.fr.cell q2 (fun x=>x);have c:=v.out ps[k] (List.getElem_mem H);have I:=Zuq H;have a5:(ZsH (ps.take k)).length≤400000*ps.length:=by
    have h1:=Zth (l:=ps.take k) (fun p hp=>v.out p (List.mem_of_mem_take hp));have h2:(ps.take k).length≤ps.length:=by rw[List.length_take];omega
    have h3:=Nat.mul_le_mul_left 400000 h2;omega
   obtain⟨⟨m1,m2⟩,hm⟩:∃m,ps[k]=m:=⟨_,rfl⟩;rw[hm]at p1 p2 c I;simp only at p1 p2 c;obtain⟨D,hD⟩:∃D,out++T1++ZsH (ps.take k)=D:=⟨_,rfl⟩;have a3:D.length≤60000000000:=by rw[←hD,List.length_append,List.length_append];omega
   rw[hD]at HR;have R:out++T1++ZsH (ps.take (k+1))=D++ZtU (m1,m2):=by rw[I,←List.append_assoc,hD]
   have a:=hid R;obtain⟨w3,r⟩:∃w3,w3=wr.alloc (.cells #[.int .i64 m1,.string ⟨m2.toArray⟩] 43):=⟨_,rfl⟩;have U:w3.heap[wr.heap.size]? =some (.cells #[.int .i64 m1,.string ⟨m2.toArray⟩] 43 (0,0)):=by rw[r];exact newAt _ _
   have f3:Fr nob wr w3:=by rw[r];exact(Fr.refl _ _).alloc _
   have r3:=Zqy U;have z:=hid r;have H3:=hid (HR.out.quiet f3);have F3:=hid (FR.out.trans f3 (fun _ _ x=>x.elim));have g:=hid (fun(W:World) (f:Fr nob w3 W)=>ZtB m1 W c.2.1 c.2.2 (HP.out W (H3.out.fr.trans' f)));have a4:=ZsT c.2.1 c.2.2;have a8:=c.1;clear q1 q2 hm hD R I a5 r U f3 c;unfold ZtU at a;simp only at a;by_cases m0:m1<0
   ·rw[if_pos m0]at a;go_wp2_with(rw[←z.out]);refine(pr_quote m2 [92,47,38] [92,110] H3.out (by omega) (by decide)).mono ?_;rintro e w4 ⟨rfl,h4,f4⟩;rw[←a.out]at h4;have H4:=hid h4;have F4:=hid (F3.out.trans f4 (fun _ _ x=>x));clear h4 f4 r3;go_wp2;go_roundw
    case rel=>exact⟨k+1,by go_num,by omega,H4.out,F4.out⟩
    case measure=>simp[intOf];omega
   ·rw[if_neg m0]at a;by_cases m9:m1=0
    ·rw[if_pos m9]at a;have t9:(m1==0)=true:=by simpa using m9
     clear m9;go_wp2_with(rw[←z.out]);refine(px_byte 38 38 (by decide) rfl H3.out (by omega)).mono ?_;rintro e w4 ⟨rfl,h4,f4⟩;rw[←a.out]at h4;have H4:=hid h4;have F4:=hid (F3.out.trans f4 (fun _ _ x=>x));clear h4 f4 r3;go_wp2;go_roundw
     case rel=>exact⟨k+1,by go_num,by omega,H4.out,F4.out⟩
     case measure=>simp[intOf];omega
    ·rw[if_neg m9]at a;have t9:(m1==0)=false:=by simpa using m9
     clear m9;obtain⟨it,V⟩:∃it,Lib.itoa m1=it:=⟨_,rfl⟩;rw[V]at a g a4;clear V;go_wp2_with(rw[←z.out]);refine region_fr 7 (by kernel_rfl) (by kernel_rfl) ?_;simp only[List.take_succ_cons,List.take_zero,List.drop_succ_cons,List.drop_zero]
     repeat(go_big_quiet_step ((with_reducible exact calls_fr (g.out _ (grown_fr _ _ _)))))
     refine wpQuiet_nil ?_;intro wD fD;go_wp2_with fail;refine(px_str (92::it) (H3.out.quiet fD) (by simp only[List.length_cons];omega)).mono ?_;rintro e w4 ⟨rfl,h4,f4⟩;rw[show(92::it)=[92]++it from rfl,←a.out]at h4;have H4:=hid h4;have F4:=hid ((F3.out.trans fD (fun _ _ x=>x.elim)).trans f4 (fun _ _ x=>x));clear h4 f4 fD r3;go_wp2;go_roundw
     case rel=>exact⟨k+1,by go_num,by omega,H4.out,F4.out⟩
     case measure=>simp[intOf];omega
  ·obtain rfl:k=ps.length:=by omega
   have hT:=List.take_of_length_le (l:=ps) (Nat.le_refl _);rw[hT]at HR;obtain⟨D,hD⟩:∃D,out++T1++ZsH ps=D:=⟨_,rfl⟩;have a3:D.length≤60000000000:=by rw[←hD,List.length_append,List.length_append];omega
   rw[hD]at HR;have HD:=hid hD;have P:=hid (FR.out.heap a0.out (fun x=>x (.inr d.out)));clear hT hD;go_wp2_with fail;refine(px_byte 47 47 (by decide) rfl HR.out (by omega)).mono ?_;rintro e w5 ⟨rfl,h5,f5⟩;have t:=hid (f5.heap P.out (fun x=>x (.inr d.out)));have r5:=ZG t.out w5 (Fr.refl _ _);have H5:=hid h5;have F5:=hid (F2.out.trans (FR.out.trans f5 (fun _ _ x=>x)) (fun _ _ x=>x));clear h5 f5 P;go_upto_if 51 with(fail)
   go_cut [] (fun w'=>PxW W0 K2 b (D++[47]++A1) w'∧Fr (Pxn W0 K2) w5 w')
   case first=>
    by_cases m0:nth=0
    ·have t0:(nth !=0)=false:=by simpa using m0
     have hA:=s.out;rw[if_pos m0]at hA;clear m0;go_wp2;go_meet
     case rel=>exact⟨by rw[←hA,List.append_nil];exact H5.out,Fr.refl _ _⟩
    ·have t0:(nth !=0)=true:=by simpa using m0
     have hA:=s.out;rw[if_neg m0]at hA;clear m0;have g:=hid (fun(W:World) (f:Fr nob w5 W)=>ZtB nth W HN.out.1 HN.out.2 (HP.out W (H5.out.fr.trans' f)));rw[hA]at g l3;have r5:=ZG t.out;clear hA;go_wp2_with fail;refine region_fr 6 (by kernel_rfl) (by kernel_rfl) ?_;simp only[List.take_succ_cons,List.take_zero,List.drop_succ_cons,List.drop_zero]
     repeat(go_big_quiet_step ((with_reducible exact calls_fr (g.out _ (grown_fr _ _ _)))))
     refine wpQuiet_nil ?_;intro wD fD;go_wp2_with fail;refine(px_str A1 (H5.out.quiet fD) (by simp only[List.length_append,List.length_cons,List.length_nil];omega)).mono ?_;rintro e w6 ⟨rfl,h6,f6⟩;go_wp2;go_meet
     case rel=>exact⟨h6,(Pxn.of fD).trans f6 (fun _ _ x=>x)⟩
   case rest=>
    obtain⟨h6,f6⟩:=hcut;have M:=hid (f6.heap t.out (fun x=>x (.inr d.out)));have r6:=ZG M.out wc (Fr.refl _ _);have H6:=hid h6;have F6:=hid (F5.out.trans f6 (fun _ _ x=>x));clear h6 f6 r5;have a9:A1.length≤20:=by rw[←s.out];split<;>first|omega|simp
    go_upto_if 60 with(fail)
    go_cut [] (fun w'=>PxW W0 K2 b (D++[47]++A1++A2) w'∧Fr (Pxn W0 K2) wc w')
    case first=>
     have hA:=J.out;cases al
     ·rw[if_neg (by decide)]at hA;go_wp2;go_meet
      case rel=>exact⟨by rw[←hA,List.append_nil];exact H6.out,Fr.refl _ _⟩
     ·rw[if_pos rfl]at hA;go_wp2_with fail;refine(px_byte 103 103 (by decide) rfl H6.out (by simp only[List.length_append,List.length_cons,List.length_nil];omega)).mono ?_;rintro e w7 ⟨rfl,h7,f7⟩;go_wp2;go_meet
      case rel=>exact⟨by rw[←hA];exact h7,f7⟩
    case rest=>
     obtain⟨h7,f7⟩:=hcut;have N:=hid (f7.heap M.out (fun x=>x (.inr d.out)));have r7:=ZG N.out wc (Fr.refl _ _);have H7:=hid h7;have F7:=hid (F6.out.trans f7 (fun _ _ x=>x));clear h7 f7 r6;have b0:A2.length≤1:=by rw[←J.out];split<;>simp
     go_upto_if 66 with(fail)
     go_cut [] (fun w'=>PxW W0 K2 b (D++[47]++A1++A2++A3) w'∧Fr (Pxn W0 K2) wc w')
     case first=>
      have hA:=L.out;cases pr
      ·rw[if_neg (by decide)]at hA;go_wp2;go_meet
       case rel=>exact⟨by rw[←hA,List.append_nil];exact H7.out,Fr.refl _ _⟩
      ·rw[if_pos rfl]at hA;go_wp2_with fail;refine(px_byte 112 112 (by decide) rfl H7.out (by simp only[List.length_append,List.length_cons,List.length_nil];omega)).mono ?_;rintro e w8 ⟨rfl,h8,f8⟩;go_wp2;go_meet
       case rel=>exact⟨by rw[←hA];exact h8,f8⟩
     case rest=>
      obtain⟨h8,f8⟩:=hcut;have O:=hid (f8.heap N.out (fun x=>x (.inr d.out)));have r8:=ZG O.out wc (Fr.refl _ _);have H8:=hid h8;have F8:=hid (F7.out.trans f8 (fun _ _ x=>x));clear h8 f8 r7;have b1:A3.length≤1:=by rw[←L.out];split<;>simp
      have hA:=Z.out;by_cases m0:fl=[]
      ·subst m0;rw[if_pos rfl]at hA;go_wp2;exact bodyPost_ret (results_none rfl _ _ _) rfl ⟨rfl,by rw[←hA];have h:=H8.out.less n.out;rw[←HD.out]at h;simpa using h,Pxn.less F8.out n.out⟩
      ·rw[if_neg m0]at hA;have b2:A4.length≤100002:=by rw[←hA];simp only[List.length_append,List.length_cons,List.length_nil];omega
       have a6:fl.isEmpty=false:=by cases fl with|nil=>exact absurd rfl m0|cons _ _=>rfl
       clear m0;have r8:=ZG O.out;go_wp2_with fail;refine region_fr 6 (by kernel_rfl) (by kernel_rfl) ?_;simp only[List.take_succ_cons,List.take_zero,List.drop_succ_cons,List.drop_zero]
       repeat(go_big_quiet_step (fail))
       refine wpQuiet_nil ?_;intro wD fD;go_wp2_with fail;refine(px_str A4 (H8.out.quiet fD) (by simp only[List.length_append,List.length_cons,List.length_nil];omega)).mono ?_;rintro e w9 ⟨rfl,h9,f9⟩;go_wp2;exact bodyPost_ret (results_none rfl _ _ _) rfl ⟨rfl,by have h:=h9.less n.out;rw[←HD.out]at h;simpa using h,Pxn.less ((F8.out.trans fD (fun _ _ x=>x.elim)).trans f9 (fun _ _ x=>x)) n.out⟩
end
def tabF(s:List UInt8)(k:Nat):List UInt8:=((List.range k).filter (fun i=>s.length=256∧s[i]?.getD 0≠i.toUInt8)).map (·.toUInt8)
def Ztp(s:List UInt8)(k:Nat):List UInt8:=((List.range k).filter (fun i=>s.length=256∧s[i]?.getD 0≠i.toUInt8)).map (s[·]?.getD 0)
def ZuI(s:List UInt8):List UInt8:=[47]++Zs6 [92,47] [92,110] (tabF s s.length)++[47]++Zs6 [92,47] [92,110] (Ztp s s.length)++[47]
def Zv8(n:UInt8):Bool:=n=58∨n=98∨n=116∨n=84∨n=114∨n=119
def Zv9(n:UInt8):Bool:=n=97∨n=105∨n=99
def ZvB(c:CV):List UInt8:=
 if Zv8 c.name then(if c.arg=[]then[]else[32]++c.arg)
 else if Zv9 c.name then[92,10]++Zs6 [92] [92,10] (Lib.trimSuffix c.arg [10])
 else if c.name=115 then Zvy c.sub
 else if c.name=121 then ZuI c.table
 else[]
def ZuJ(c:CV):List UInt8:=Zs9 c.guard++([c.name]++(ZvB c++[10]))
structure CvOk(c:CV):Prop where
 gd:Zv7 c.guard
 sb:SvOk c.sub
 al:c.arg.length≤100000
 tl:c.table.length≤256
theorem Zt3(l:List UInt8):(Lib.trimSuffix l [10]).length≤l.length:=by
 unfold Lib.trimSuffix;split
 ·rw[List.length_take];omega
 ·exact Nat.le_refl _
theorem Zt4{s:List UInt8}(h:s.length≤256):(ZuI s).length≤100000:=by
 have h1:=ZsK [92,47] [92,110] (tabF s s.length);have h2:=ZsK [92,47] [92,110] (Ztp s s.length);have h3:(tabF s s.length).length≤256:=by unfold tabF;rw[List.length_map];have:=List.length_filter_le (fun i=>decide (s.length=256∧s[i]?.getD 0≠i.toUInt8)) (List.range s.length);rw[List.length_range]at this;omega
 have h4:(Ztp s s.length).length≤256:=by unfold Ztp;rw[List.length_map];have:=List.length_filter_le (fun i=>decide (s.length=256∧s[i]?.getD 0≠i.toUInt8)) (List.range s.length);rw[List.length_range]at this;omega
 unfold ZuI;simp only[List.length_append,List.length_cons,List.length_nil]at h1 h2⊢;omega
theorem ZvC{c:CV}(h:CvOk c):(ZvB c).length≤50000000000:=by
 have h1:=ZvA h.sb;have h2:=Zt4 h.tl;have h3:=h.al;have h4:=Zt3 c.arg;have h5:=ZsK [92] [92,10] (Lib.trimSuffix c.arg [10]);unfold ZvB;simp only[List.length_cons,List.length_nil]at h5
 repeat' split
 all_goals first|omega|(simp only[List.length_append,List.length_cons,List.length_nil];omega)
def Zwa(W0:World):Prop:=∀(K:Nat→Prop) (b:Nat) (out:List UInt8) (w:World) (s:List UInt8),s.length≤256→PxW W0 K b out w→out.length≤100000000000→
 Calls Tryz.prog 81 #[.pointer (some ⟨b,0,none⟩),.string ⟨s.toArray⟩] w (PxA W0 K b (out++ZuI s) w (.tuple #[]))
section
variable {W0 w w':World} {K:Nat→Prop} {b:Nat} {out:List UInt8}
theorem Ztt(c:CV)(v:Value)(hE:Env W0)(hP:P10 W0)(hT:Zwa W0)(hg:CvOk c)(hv:Zc2 nob W0 c v)(h:PxW W0 K b out w)(hlen:out.length≤1000000000):
 Calls Tryz.prog 48 #[.pointer (some ⟨b,0,none⟩),v] w (PxA W0 K b (out++ZuJ c) w (.tuple #[])):=by
 obtain⟨u1,u2,u,pv,rfl,n1,n2,n3,np⟩:=hv;have o1:u1.oneCell'=true:=by rcases n1.shape with rfl|⟨i,y,rfl⟩<;>rfl
 have o2:u2.oneCell'=true:=by rcases n2.shape with rfl|⟨i,y,rfl⟩<;>rfl
 have o3:u.oneCell'=true:=by rcases n3.shape with rfl|⟨i,y,rfl⟩<;>rfl
 obtain⟨pa,pc,rfl⟩:=Zb np.1;obtain⟨at_,g,n,ar,d,tb⟩:=c;show Calls Tryz.prog 48 #[.pointer (some ⟨b,0,none⟩),.agg (gc20 at_ g u1 u2 n ar d u (.slice pa d.parts.length pc) tb)] w _;obtain⟨w1,l⟩:∃w1,w1=w.alloc (.cells (gc20 at_ g u1 u2 n ar d u (.slice pa d.parts.length pc) tb) 35):=⟨_,rfl⟩;have L:=hid l;have h1:=h.alloc (.cells (gc20 at_ g u1 u2 n ar d u (.slice pa d.parts.length pc) tb) 35) h.lt;rw[←l]at h1;have f1:Fr nob w w1:=by rw[l];exact(Fr.refl _ _).alloc _
 have hb:w1.heap[w.heap.size]? =some (.cells (gc20 at_ g u1 u2 n ar d u (.slice pa d.parts.length pc) tb) 35 (0,0)):=by rw[l];exact newAt _ _
 obtain⟨K2,o⟩:∃K2:Nat→Prop,(fun k=>K k∨k=w.heap.size)=K2:=⟨_,rfl⟩;have F:∀k,K k→K2 k:=by rw[←o];exact fun k h=>.inl h
 have G:K2 w.heap.size:=by rw[←o];exact .inr rfl
 rw[o]at h1;have lg:=ZuH hg.gd;have HG:=hid (Zu7 g u1 u2 hE hP hg.gd n1 n2 h1 (by omega));have lA:=ZvC hg;obtain⟨A,hA⟩:∃A,ZvB ⟨at_,g,n,ar,d,tb⟩=A:=⟨_,rfl⟩;obtain⟨T,p⟩:∃T,Zs9 g=T:=⟨_,rfl⟩;unfold ZuJ;simp only[hA,p];rw[hA]at lA;rw[p]at HG;have r1:=Zw hb w1 (Fr.refl _ _);have q1:w1.cell? ⟨w.heap.size,1,none⟩=some (.int .i64 g.a.kind)∧w1.cell? ⟨w.heap.size,2,none⟩=some (.int .i64 g.a.line)∧w1.cell? ⟨w.heap.size,3,none⟩=some (.string ⟨g.a.text.toArray⟩)∧w1.cell? ⟨w.heap.size,4,none⟩=some u1∧w1.cell? ⟨w.heap.size,5,none⟩=some (.int .i64 g.b.kind)∧w1.cell? ⟨w.heap.size,6,none⟩=some (.int .i64 g.b.line)∧w1.cell? ⟨w.heap.size,7,none⟩=some (.string ⟨g.b.text.toArray⟩)∧w1.cell? ⟨w.heap.size,8,none⟩=some u2∧w1.cell? ⟨w.heap.size,9,none⟩=some (.bool g.no):=⟨cell_at hb rfl,cell_at hb rfl,cell_at hb rfl,cell_at hb rfl,cell_at hb rfl,cell_at hb rfl,cell_at hb rfl,cell_at hb rfl,cell_at hb rfl⟩
 have HA:=hid hA;simp only at lg;rw[p]at lg;clear l h o p hA;have H1:=hid h1;have F1:=hid f1;have HB:=hid hb;have B:=hid F;have r:=hid G;have f:=hid hg;have J:=hid hT;clear h1 f1 hb F G hg hT;go_enter Tryz.func48,Tryz.ntmps48;go_wp2_with(rw[←L.out]);refine HG.out.mono ?_;rintro e w2 ⟨rfl,h2,f2⟩;have t:=hid (f2.heap HB.out (fun x=>x (.inr r.out)));have H2:=hid h2;have F2:=hid ((Pxn.of F1.out).trans f2 (fun _ _ x=>x));clear h2 f2 r1 q1;have r2:=Zw t.out;go_wp2_with fail;refine region_fr 5 (by kernel_rfl) (by kernel_rfl) ?_;simp only[List.take_succ_cons,List.take_zero,List.drop_succ_cons,List.drop_zero]
 repeat(go_big_quiet_step (fail))
 refine wpQuiet_nil ?_;intro wC fC;go_wp2_with fail;refine(px_byte (n.toNat:Int) n ⟨by omega,by have:=n.toNat_lt;omega⟩ (ZaY _) (H2.out.quiet fC) (by rw[List.length_append];omega)).mono ?_;rintro e w3 ⟨rfl,h3,f3⟩;have m:=hid (f3.heap (fC.heap t.out (fun x=>x)) (fun x=>x (.inr r.out)));have H3:=hid h3;have F3:=hid ((F2.out.trans fC (fun _ _ x=>x.elim)).trans f3 (fun _ _ x=>x));clear h3 f3 fC r2;have r3:=Zw m.out w3 (Fr.refl _ _);go_upto_block 0 with(fail)
 go_cut [] (fun w'=>PxW W0 K2 b (out++T++[n]++A) w'∧Fr (Pxn W0 K2) w3 w')
 case first=>
  have hA:=HA.out;unfold ZvB at hA;simp only at hA;have j:=hid (show w3.heap[w.heap.size]? =some (.cells (gc20 at_ g u1 u2 n ar d u (.slice pa d.parts.length pc) tb) 35 (0,0))from m.out);by_cases cy:Zv8 n=true
  ·rw[if_pos cy]at hA;have E:n=58∨n=98∨n=116∨n=84∨n=114∨n=119:=by simpa[Zv8]using cy
   clear cy;by_cases ha:ar=[]
   ·subst ha;rw[if_pos rfl]at hA;clear j;rcases E with rfl|rfl|rfl|rfl|rfl|rfl
    all_goals
     go_wp2;go_meet
     case rel=>exact⟨by rw[←hA,List.append_nil];exact H3.out,Fr.refl _ _⟩
   ·rw[if_neg ha]at hA;have N:ar.isEmpty=false:=by cases ar with|nil=>exact absurd rfl ha|cons _ _=>rfl
    have V:ar.length≤100000:=f.out.al;have la:A.length≤100001:=by rw[←hA];simp only[List.length_append,List.length_cons,List.length_nil];have:=f.out.al;simp only at this;omega
    clear ha;rcases E with rfl|rfl|rfl|rfl|rfl|rfl
    all_goals
     have r3:=Zw m.out;clear j;go_wp2_with fail;refine region_fr 6 (by kernel_rfl) (by kernel_rfl) ?_;simp only[List.take_succ_cons,List.take_zero,List.drop_succ_cons,List.drop_zero]
     repeat(go_big_quiet_step (fail))
     refine wpQuiet_nil ?_;intro wD fD;go_wp2_with fail;refine(px_str A (H3.out.quiet fD) (by simp only[List.length_append,List.length_cons,List.length_nil];omega)).mono ?_;rintro e w4 ⟨rfl,h4,f4⟩;go_wp2;go_meet
     case rel=>exact⟨h4,(Pxn.of fD).trans f4 (fun _ _ x=>x)⟩
  rw[if_neg cy]at hA;by_cases ct:Zv9 n=true
  ·rw[if_pos ct]at hA;have M:n=97∨n=105∨n=99:=by simpa[Zv9]using ct
   clear ct cy;have lt:(Lib.trimSuffix ar [10]).length≤100000:=by
    have:=f.out.al;simp only at this;unfold Lib.trimSuffix;split
    ·rw[List.length_take];omega
    ·exact this
   have D:=hid (fun W:World=>Tryz.strings_TrimSuffix ⟨ar.toArray⟩ ⟨#[10]⟩ W (by show ar.toArray.size≤_;rw[List.size_toArray];have:=f.out.al;simp only at this;omega));obtain⟨ts,s⟩:∃ts,Lib.trimSuffix ar [10]=ts:=⟨_,rfl⟩;have q:Lib.trimSuffix (⟨ar.toArray⟩:ByteArray).data.toList (⟨#[10]⟩:ByteArray).data.toList=ts:=s;rw[q]at D;rw[s]at hA lt;have H:=hid hA;clear s q hA j;rcases M with rfl|rfl|rfl
   all_goals
    go_wp2_with fail;refine(px_str [92,10] H3.out (by simp only[List.length_append,List.length_cons,List.length_nil];omega)).mono ?_;rintro e w4 ⟨rfl,h4,f4⟩;have I:=hid (f4.heap m.out (fun x=>x (.inr r.out)));have H4:=hid h4;have F4:=hid f4;clear h4 f4 r3;have r4:=Zw I.out w4 (Fr.refl _ _);go_wp2_with fail;refine(D.out _).mono ?_;rintro e w5 ⟨rfl,rfl⟩;go_wp2_with fail;refine(pr_quote ts [92] [92,10] H4.out (by simp only[List.length_append,List.length_cons,List.length_nil];omega) (by decide)).mono ?_;rintro e w6 ⟨rfl,h6,f6⟩;go_wp2;go_meet
    case rel=>exact⟨by rw[←H.out,←List.append_assoc];exact h6,F4.out.trans f6 (fun _ _ x=>x)⟩
  rw[if_neg ct]at hA;by_cases cs:n=115
  ·rw[if_pos cs]at hA;have C:=hid (ZvZ (w:=w3) (K:=K2) (b:=b) (out:=out++T++[n]) d u (.slice pa d.parts.length pc) hE hP f.out.sb n3 np.1 H3.out (by simp only[List.length_append,List.length_cons,List.length_nil];omega));rw[hA]at C;subst cs;clear j cy ct hA;go_wp2_with fail;refine C.out.mono ?_;rintro e w4 ⟨rfl,h4,f4⟩;go_wp2;go_meet
   case rel=>exact⟨h4,f4⟩
  rw[if_neg cs]at hA;by_cases cb:n=121
  ·rw[if_pos cb]at hA;have z:=hid (J.out K2 b (out++T++[n]) w3 tb f.out.tl H3.out (by simp only[List.length_append,List.length_cons,List.length_nil];omega));rw[hA]at z;subst cb;clear j cy ct hA cs;go_wp2_with fail;refine z.out.mono ?_;rintro e w4 ⟨rfl,h4,f4⟩;go_wp2;go_meet
   case rel=>exact⟨h4,f4⟩
  rw[if_neg cb]at hA;have ny:n≠58∧n≠98∧n≠116∧n≠84∧n≠114∧n≠119:=by simpa[Zv8]using cy
  have nt:n≠97∧n≠105∧n≠99:=by simpa[Zv9]using ct
  have X:((n.toNat:Int)==58)=false:=Zn (b:=58) ny.1;have a0:((n.toNat:Int)==98)=false:=Zn (b:=98) ny.2.1;have R:((n.toNat:Int)==116)=false:=Zn (b:=116) ny.2.2.1;have Y:((n.toNat:Int)==84)=false:=Zn (b:=84) ny.2.2.2.1;have P:((n.toNat:Int)==114)=false:=Zn (b:=114) ny.2.2.2.2.1;have S:((n.toNat:Int)==119)=false:=Zn (b:=119) ny.2.2.2.2.2;have Z:((n.toNat:Int)==97)=false:=Zn (b:=97) nt.1;have O:((n.toNat:Int)==105)=false:=Zn (b:=105) nt.2.1;have a1:((n.toNat:Int)==99)=false:=Zn (b:=99) nt.2.2;have Q:((n.toNat:Int)==115)=false:=Zn (b:=115) cs;have U:((n.toNat:Int)==121)=false:=Zn (b:=121) cb;clear ny nt cs cb cy ct j;go_wp2;go_meet
  case rel=>exact⟨by rw[←hA,List.append_nil];exact H3.out,Fr.refl _ _⟩
 case rest=>
  obtain⟨h4,f4⟩:=hcut;have la:=lA;go_wp2_with fail;refine(px_byte 10 10 (by decide) rfl h4 (by simp only[List.length_append,List.length_cons,List.length_nil];omega)).mono ?_;rintro e w5 ⟨rfl,h5,f5⟩;go_wp2;exact bodyPost_ret (results_none rfl _ _ _) rfl ⟨rfl,by simpa using h5.less B.out,Pxn.less (F3.out.trans (f4.trans f5 (fun _ _ x=>x)) (fun _ _ x=>x)) B.out⟩
end
theorem ZuK(s:List UInt8)(k:Nat):tabF s (k+1)=tabF s k++(if s.length=256∧s[k]?.getD 0≠k.toUInt8 then[k.toUInt8]else[]):=by
 unfold tabF;rw[List.range_succ,List.filter_append,List.map_append]
 congr 1
 by_cases h:s.length=256∧s[k]?.getD 0≠k.toUInt8
 ·rw[if_pos h];simp[List.filter,h]
 ·rw[if_neg h];simp only[List.filter,decide_eq_false h,List.map_nil]
theorem ZuL(s:List UInt8)(k:Nat):Ztp s (k+1)=Ztp s k++(if s.length=256∧s[k]?.getD 0≠k.toUInt8 then[s[k]?.getD 0]else[]):=by
 unfold Ztp;rw[List.range_succ,List.filter_append,List.map_append]
 congr 1
 by_cases h:s.length=256∧s[k]?.getD 0≠k.toUInt8
 ·rw[if_pos h];simp[List.filter,h]
 ·rw[if_neg h];simp only[List.filter,decide_eq_false h,List.map_nil]
theorem Zt5(s:List UInt8)(k:Nat):(tabF s k).length≤k∧(Ztp s k).length≤k:=by
 unfold tabF Ztp;rw[List.length_map,List.length_map];have:=List.length_filter_le (fun i=>decide (s.length=256∧s[i]?.getD 0≠i.toUInt8)) (List.range k);rw[List.length_range]at this;exact⟨this,this⟩
structure TwoB(w:World)(fv gv:Value)(a b:List UInt8)(W:World):Prop where
 fr:Fr nob w W
 fo:W.ownsRow 0 5 1 fv a.length (bcells a)
 go:W.ownsRow 0 5 1 gv b.length (bcells b)
 fn:∀g,fv.ownBlock=some g→w.heap.size≤g∧gv.ownBlock≠some g
 gn:∀g,gv.ownBlock=some g→w.heap.size≤g∧g<W.heap.size
 fl:∀g,fv.ownBlock=some g→g<W.heap.size
theorem TwoB.on{w:World}{fv gv:Value}{a b:List UInt8}{W W':World}(h:TwoB w fv gv a b W)(f:Fr nob W W'):TwoB w fv gv a b W':=
 ⟨h.fr.trans' f,ownsRow_fr h.fo f (fun _ _ x=>x),ownsRow_fr h.go f (fun _ _ x=>x),h.fn,fun g hg=>⟨(h.gn g hg).1,Nat.lt_of_lt_of_le (h.gn g hg).2 f.size⟩,fun g hg=>Nat.lt_of_lt_of_le (h.fl g hg) f.size⟩
theorem TwoB.pushF{w:World}{fv gv v':Value}{a b:List UInt8}{W W1:World}{x:UInt8}(h:TwoB w fv gv a b W)(hap:Appd 1 fv v' W W1)(ho:W1.ownsRow 0 5 1 v' (a.length+1) (bcells a++[.int .u8 (x.toNat:Int)])):TwoB w v' gv (a++[x]) b W1:=by
 have hs:=h.fr.size;refine⟨h.fr.trans hap.fr (fun i hi e=>by have:=(h.fn i e).1;omega),by rw[List.length_append,Zaj];exact ho,ownsRow_fr h.go hap.fr (fun k hk e=>(h.fn k e).2 hk),fun g hg=> ?_,fun g hg=>⟨(h.gn g hg).1,Nat.lt_of_lt_of_le (h.gn g hg).2 hap.fr.size⟩,own_lt ho⟩;rcases hap.old g hg with e|e
 ·exact h.fn g e
 ·exact⟨by omega,fun e'=>by have:=(h.gn g e').2;omega⟩
theorem TwoB.pushG{w:World}{fv gv v':Value}{a b:List UInt8}{W W1:World}{x:UInt8}(h:TwoB w fv gv a b W)(hap:Appd 1 gv v' W W1)(ho:W1.ownsRow 0 5 1 v' (b.length+1) (bcells b++[.int .u8 (x.toNat:Int)])):TwoB w fv v' a (b++[x]) W1:=by
 have hs:=h.fr.size;refine⟨h.fr.trans hap.fr (fun i hi e=>by have:=(h.gn i e).1;omega),ownsRow_fr h.fo hap.fr (fun k hk e=>(h.fn k hk).2 e),by rw[List.length_append,Zaj];exact ho,fun g hg=>⟨(h.fn g hg).1,fun e'=> ?_⟩,fun g hg=>⟨?_,own_lt ho g hg⟩,fun g hg=>Nat.lt_of_lt_of_le (h.fl g hg) hap.fr.size⟩
 ·rcases hap.old g e' with e|e
  ·exact(h.fn g hg).2 e
  ·have:=h.fl g hg;omega
 ·rcases hap.old g hg with e|e
  ·exact(h.gn g e).1
  ·omega
theorem byte_news{W:World}{q:Nat}{c:Int}{T:TypeId}{fr:Nat×Nat}(h:W.heap[q]? =some (.cells #[.int .u8 c] T fr)):∀j u,([.int .u8 c]:List Value)[j]? =some u→W.cell? ((⟨q,0,none⟩:Addr).add j)=some u:=by
 intro j u hj
 match j,hj with
 |0,hj=>simp at hj;subst hj;have:=cell_at (j:=0) (v:=.int .u8 c) h rfl;simpa[Addr.add]using this
theorem PxW.more{W0 w w':World}{K P:Nat→Prop}{b:Nat}{out:List UInt8}(h:PxW W0 K b out w)(f:Fr nob w w')(hP:∀k,P k→w.heap.size≤k∧k<w'.heap.size):PxW W0 (fun k=>K k∨P k) b out w':=by
 have hb:=h.lt;obtain⟨fr,g,ht,hk⟩:=h;have hg:∀k,g=some k→k<w.heap.size:=by
  intro k e;obtain⟨cs,⟨_,_,_,v,_,a,c,_⟩,_⟩:=ht;subst e;exact own_lt a k c
 refine⟨fr.trans' f,g,ht.on f (fun x=>x) (fun _ _ x=>x),fun k hk'=> ?_⟩;have hs:=f.size;rcases hk' with h|h|h
 ·obtain⟨h1,h2,h3⟩:=hk k (.inl h);exact⟨h1,h2,by omega⟩
 ·obtain⟨h1,h2,h3⟩:=hk k (.inr h);exact⟨h1,h2,by omega⟩
 ·have:=hP k h;exact⟨by omega,fun e=>by have:=hg k e.symm;omega,by omega⟩
attribute [local go_sem ↓] Go.wp_at_zero Go.wp_at_succ
theorem Zwg(W0:World):Zwa W0:=by
 intro K b a6 w s hs h Y;have HT:=hid h;have u:=ZsK [92,47] [92,110] (tabF s s.length);have v:=ZsK [92,47] [92,110] (Ztp s s.length);have B:=Zt5 s s.length;simp only[List.length_cons,List.length_nil]at u v;unfold ZuI;obtain⟨F,hF⟩:∃F,tabF s s.length=F:=⟨_,rfl⟩;obtain⟨G,hG⟩:∃G,Ztp s s.length=G:=⟨_,rfl⟩;rw[hF]at u B⊢;rw[hG]at v B⊢;obtain⟨QF,r⟩:∃Q,Zs6 [92,47] [92,110] F=Q:=⟨_,rfl⟩;obtain⟨QG,t⟩:∃Q,Zs6 [92,47] [92,110] G=Q:=⟨_,rfl⟩;have a3:QF.length≤1024:=by rw[←r];simp at u;omega
 have a4:QG.length≤1024:=by rw[←t];simp at v;omega
 rw[r,t];have S:=hid r;have U:=hid t;have HF:=hid hF;have HG:=hid hG;clear u v r t hF hG;obtain⟨i0,hi,n,o,p⟩:=info_parts ZeW;clear h;go_enter Tryz.func81,Tryz.ntmps81;go_wp2_with fail
 go_loopw [4,5,9] (fun fv gv i wr=>∃k:Nat,i=.int .i64 k∧k≤s.length∧TwoB w fv gv (tabF s k) (Ztp s k) wr) (fun _ _ i _=>s.length-(intOf i).toNat)
 case atStart=>exact⟨0,rfl,Nat.zero_le _,Fr.refl _ _,World.ownsRow_nil _ _ _ _,World.ownsRow_nil _ _ _ _,fun _ h=>(by cases h),fun _ h=>(by cases h),fun _ h=>(by cases h)⟩
 case round=>
  obtain⟨k,rfl,hk,tb⟩:=hrel;have HB:=hid tb;obtain⟨fa,fc,rfl⟩:=Zb tb.fo;obtain⟨ga,gc,rfl⟩:=Zb tb.go;clear tb;by_cases X:k<s.length
  ·have a1:(k:Int)<s.length:=by omega
   have a2:=Zt5 s k;have z:=hid (ZuK s k);have A:=hid (ZuL s k);have a5:IntKind.u8.wrap (k:Int)=k:=IntWalk.u8_in _ (by omega);obtain⟨y,hy⟩:∃y,s[k]=y:=⟨_,rfl⟩;have j:s[k]?.getD 0=y:=by rw[List.getElem?_eq_getElem X];exact hy
   by_cases f:s.length=256
   ·have hI:((s.length:Int)==256)=true:=by simp;omega
    by_cases m:y.toNat=k
    ·have hn:((y.toNat:Int) !=(k:Int))=false:=by simp;omega
     have e1:¬(s.length=256∧s[k]?.getD 0≠k.toUInt8):=fun x=>x.2 (by rw[j,←m];simp);have c:=hid (z.out.trans (by rw[if_neg e1,List.append_nil]));have d:=hid (A.out.trans (by rw[if_neg e1,List.append_nil]));clear m e1 f j;go_wp2_with fail;go_roundw
     case rel=>exact⟨k+1,by go_num,by omega,by rw[c.out,d.out];exact HB.out⟩
     case measure=>simp[intOf];omega
    ·have hn:((y.toNat:Int) !=(k:Int))=true:=by simp;omega
     have I:(k.toUInt8).toNat=k:=by simp;omega
     have e1:s.length=256∧s[k]?.getD 0≠k.toUInt8:=⟨f,by rw[j];intro e;rw[e]at m;exact m I⟩;have c:=hid (z.out.trans (by rw[if_pos e1]));have d:=hid (A.out.trans (by rw[if_pos e1,j]));have J:((k.toUInt8).toNat:Int)=(k:Int):=by omega
     have R:=hid J;clear m e1 f j I J;go_wp2_with fail
     go_region_law (first|((first|(refine step_append_g rfl (.tmp 23) (.tmp 26) 22 rfl 5 i0 (.int .u8 0) 1 1 Tryz.underlying22 hi n o p rfl (by decide) (.slice fa (tabF s k).length fc) (tabF s k).length (bcells (tabF s k)) (by rfl) (HB.out.on (by repeat(first|exact Fr.refl _ _|apply Fr.alloc|apply Fr.drew))).fo ⟨wr.heap.size,0,none⟩ 1 1 [.int .u8 (k:Int)] (by rfl) rfl (byte_news (by repeat(first|exact newAt0 _ _|exact Zg _ _ _ (by simp)|refine Ze _ ?_))) ZcF (by unfold maxLen;omega) (by omega) ?_)|(refine step_append_g rfl (.tmp 23) (.tmp 26) 22 rfl 5 i0 (.int .u8 0) 1 1 Tryz.underlying22 hi n o p rfl (by decide) (.slice fa (tabF s k).length fc) (tabF s k).length (bcells (tabF s k)) (by rfl) (HB.out.on (by repeat(first|exact Fr.refl _ _|apply Fr.alloc|apply Fr.drew))).fo ⟨wr.heap.size+1,0,none⟩ 1 1 [.int .u8 (k:Int)] (by rfl) rfl (byte_news (by repeat(first|exact newAt0 _ _|exact Zg _ _ _ (by simp)|refine Ze _ ?_))) ZcF (by unfold maxLen;omega) (by omega) ?_));intro v' w6 a g;obtain⟨av,Z,rfl⟩:=Zb a;rw[←R.out]at a;have q:=hid ((HB.out.on (by repeat(first|exact Fr.refl _ _|apply Fr.alloc|apply Fr.drew))).pushF g a);have F6:=hid g.fr;clear a g)|((first|(refine step_append_g rfl (.tmp 28) (.tmp 32) 22 rfl 5 i0 (.int .u8 0) 1 1 Tryz.underlying22 hi n o p rfl (by decide) (.slice ga (Ztp s k).length gc) (Ztp s k).length (bcells (Ztp s k)) (by rfl) (q.out.on (by repeat(first|exact Fr.refl _ _|apply Fr.alloc|apply Fr.drew))).go ⟨w6.heap.size,0,none⟩ 1 1 [.int .u8 (y.toNat:Int)] (by rfl) rfl (byte_news (by repeat(first|exact newAt0 _ _|exact Zg _ _ _ (by simp)|refine Ze _ ?_))) ZcF (by unfold maxLen;omega) (by omega) ?_)|(refine step_append_g rfl (.tmp 28) (.tmp 32) 22 rfl 5 i0 (.int .u8 0) 1 1 Tryz.underlying22 hi n o p rfl (by decide) (.slice ga (Ztp s k).length gc) (Ztp s k).length (bcells (Ztp s k)) (by rfl) (q.out.on (by repeat(first|exact Fr.refl _ _|apply Fr.alloc|apply Fr.drew))).go ⟨wr.heap.size,0,none⟩ 1 1 [.int .u8 (y.toNat:Int)] (by rfl) rfl (byte_news (F6.out.heap (by repeat(first|exact newAt0 _ _|exact Zg _ _ _ (by simp)|refine Ze _ ?_)) (fun e=>by have:=HB.out.fl _ e;omega))) ZcF (by unfold maxLen;omega) (by omega) ?_)|(refine step_append_g rfl (.tmp 28) (.tmp 32) 22 rfl 5 i0 (.int .u8 0) 1 1 Tryz.underlying22 hi n o p rfl (by decide) (.slice ga (Ztp s k).length gc) (Ztp s k).length (bcells (Ztp s k)) (by rfl) (q.out.on (by repeat(first|exact Fr.refl _ _|apply Fr.alloc|apply Fr.drew))).go ⟨wr.heap.size+1,0,none⟩ 1 1 [.int .u8 (y.toNat:Int)] (by rfl) rfl (byte_news (F6.out.heap (by repeat(first|exact newAt0 _ _|exact Zg _ _ _ (by simp)|refine Ze _ ?_)) (fun e=>by have:=HB.out.fl _ e;omega))) ZcF (by unfold maxLen;omega) (by omega) ?_));intro v' w7 a g;obtain⟨aw,a0,rfl⟩:=Zb a;have M:=hid ((q.out.on (by repeat(first|exact Fr.refl _ _|apply Fr.alloc|apply Fr.drew))).pushG g a);clear a g))
     all_goals
      go_wp2;go_roundw
      case rel=>exact⟨k+1,by go_num,by omega,by rw[c.out,d.out];exact M.out⟩
      case measure=>simp[intOf];omega
   ·have hI:((s.length:Int)==256)=false:=by simp;omega
    have e1:¬(s.length=256∧s[k]?.getD 0≠k.toUInt8):=fun x=>f x.1;have c:=hid (z.out.trans (by rw[if_neg e1,List.append_nil]));have d:=hid (A.out.trans (by rw[if_neg e1,List.append_nil]));clear e1 f j;go_wp2_with fail;go_roundw
    case rel=>exact⟨k+1,by go_num,by omega,by rw[c.out,d.out];exact HB.out⟩
    case measure=>simp[intOf];omega
  ·obtain rfl:k=s.length:=by omega
   rw[HF.out,HG.out]at HB⊢;have E:=HB.out.fn;have D:=HB.out.fl;have H:=HB.out.gn;obtain⟨K2,l⟩:∃K2:Nat→Prop,(fun k=>K k∨((Value.slice fa F.length fc).ownBlock=some k∨(Value.slice ga G.length gc).ownBlock=some k))=K2:=⟨_,rfl⟩;have h1:=HT.out.more HB.out.fr (P:=fun k=>(Value.slice fa F.length fc).ownBlock=some k∨(Value.slice ga G.length gc).ownBlock=some k) (fun k hk=>by
    rcases hk with hk|hk
    ·exact⟨(E k hk).1,D k hk⟩
    ·exact H k hk)
   have L:∀k,K k→K2 k:=by rw[←l];exact fun k h=>.inl h
   have kf:∀k,(Value.slice fa F.length fc).ownBlock=some k→K2 k:=by rw[←l];exact fun k h=>.inr (.inl h)
   have kg:∀k,(Value.slice ga G.length gc).ownBlock=some k→K2 k:=by rw[←l];exact fun k h=>.inr (.inr h)
   rw[l]at h1;have FW:=hid HB.out.fr;have H1:=hid h1;have C:=hid L;have KF:=hid kf;have KG:=hid kg;have N:=hid HB.out.fo;have O:=hid HB.out.go;have V:F.length≤256:=by omega
   have W:G.length≤256:=by omega
   clear HT E D H h1 L kf kg l HB B;go_wp2_with fail;refine(px_byte 47 47 (by decide) rfl H1.out (by omega)).mono ?_;rintro e w2 ⟨rfl,h2,f2⟩;have H2:=hid h2;have F2:=hid f2;have c2:=ZgL (ownsRow_fr N.out f2 (fun k hk x=>x (.inr (KF.out k hk))));clear h2 f2;go_wp2_with fail;refine(pr_quote F [92,47] [92,110] H2.out (by simp only[List.length_append,List.length_cons,List.length_nil];omega) (by decide)).mono ?_;rintro e w3 ⟨rfl,h3,f3⟩;rw[S.out]at h3;have H3:=hid h3;have F3:=hid (F2.out.trans f3 (fun _ _ x=>x));clear h3 f3 c2;go_wp2_with fail;refine(px_byte 47 47 (by decide) rfl H3.out (by simp only[List.length_append,List.length_cons,List.length_nil];omega)).mono ?_;rintro e w4 ⟨rfl,h4,f4⟩;have H4:=hid h4;have F4:=hid (F3.out.trans f4 (fun _ _ x=>x));clear h4 f4;have c4:=ZgL (ownsRow_fr O.out F4.out (fun k hk x=>x (.inr (KG.out k hk))));go_wp2_with fail;refine(pr_quote G [92,47] [92,110] H4.out (by simp only[List.length_append,List.length_cons,List.length_nil];omega) (by decide)).mono ?_
   rintro e w5 ⟨rfl,h5,f5⟩;rw[U.out]at h5;have H5:=hid h5;have F5:=hid (F4.out.trans f5 (fun _ _ x=>x));clear h5 f5 c4;go_wp2_with fail;refine(px_byte 47 47 (by decide) rfl H5.out (by simp only[List.length_append,List.length_cons,List.length_nil];omega)).mono ?_;rintro e w6 ⟨rfl,h6,f6⟩;go_wp2;exact bodyPost_ret (results_none rfl _ _ _) rfl ⟨rfl,by simpa using h6.less C.out,(Pxn.of FW.out).trans (Pxn.less (F5.out.trans f6 (fun _ _ x=>x)) C.out) (fun _ _ x=>x)⟩
end Go.Proofs.YtkfddjopbocpkaaGreatDoor
namespace Go.Proofs.YtkfddjopbocpkaaGreatDoor
open Go.RowKit
theorem ZjD{l:List UInt8}{s s':AdS}{a:AV}(h:Zdj l s=.inr (a,s')):a.tree=.nil:=by
 unfold Zdj at h;split at h
 ·cases h
 ·split at h
  ·cases h
  ·injection h with h;injection h with h1 h2;subst h1;rfl
theorem moreD_tree{l:List UInt8}{s s':AdS}{a:AV}(h:Zdk l s=.inr (a,s')):a.tree=.nil:=by
 unfold Zdk at h;split at h
 ·cases h
 ·injection h with h;injection h with h1 h2;subst h1;rfl
theorem regexD_tree{x:Bool}{l:List UInt8}{d:UInt8}{s s':AdS}{a:AV}(h:ZaE x l d s=.inr (a,s')):a.tree.size≤2*l.length+2:=by
 unfold ZaE at h;split at h
 ·cases h
 ·split at h
  ·cases h
  ·split at h
   ·cases h
   ·next t r hp=>
    injection h with h;injection h with h1 h2;subst h1;have h2:=ZdC l d true (l.length+1) s.at_ [];have h3:=(parseD_marks hp).2.2;simp only[List.length_nil,Nat.zero_add]at h2;show t.size≤_;omega
theorem Nd.size_nil:Nd.nil.size≤2:=by decide
theorem addrD_tree{x:Bool}{l:List UInt8}{sec:Bool}{s s':AdS}{a:AV}(h:ZaC x l sec s=.inr (a,s')):a.tree.size≤2*l.length+2:=by
 have hn:∀a:AV,a.tree=.nil→a.tree.size≤2*l.length+2:=fun a e=>by rw[e];have:=Nd.size_nil;omega
 unfold ZaC at h;split at h
 ·exact hn _ (ZjD h)
 ·split at h
  ·injection h with h;injection h with h1 h2;exact hn _ (by rw[←h1])
  ·split at h
   ·exact regexD_tree h
   ·split at h
    ·split at h
     ·cases h
     ·exact regexD_tree h
    ·split at h
     ·exact hn _ (moreD_tree h)
     ·injection h with h;injection h with h1 h2;exact hn _ (by rw[←h1];rfl)
theorem pairD_tree{x:Bool}{l:List UInt8}{s s':AdS}{a:AV}(h:Zbc x l s=.inr (a,s')):a.tree.size≤2*l.length+2:=by
 unfold Zbc at h;split at h
 ·split at h
  ·cases h
  ·next b s1 hp=>
   split at h
   ·cases h
   ·injection h with h;injection h with h1 h2;subst h1;exact addrD_tree hp
 ·injection h with h;injection h with h1 h2;rw[←h1];have:=Nd.size_nil;show Nd.nil.size≤_;omega
theorem Zlt{l:List UInt8}{a b:AV}{s s':AdS}{g:GV}(h:ZgT l a b s=.inr (g,s')):g.a=a∧g.b=b:=by
 unfold ZgT at h;split at h
 ·split at h
  ·cases h
  ·injection h with h;injection h with h1 h2;subst h1;exact⟨rfl,rfl⟩
 ·injection h with h;injection h with h1 h2;subst h1;exact⟨rfl,rfl⟩
theorem Zh4{x:Bool}{l:List UInt8}{s s':AdS}{g:GV}(h:ZX x l s=.inr (g,s')):g.a.tree.size≤2*l.length+2∧g.b.tree.size≤2*l.length+2:=by
 unfold ZX at h;split at h
 ·cases h
 ·next a s1 ha=>
  split at h
  ·cases h
  ·next b s2 hb=>
   obtain⟨e1,e2⟩:=Zlt h;rw[e1,e2];refine⟨addrD_tree ha,?_⟩;split at hb
   ·injection hb with hb;injection hb with h1 h2;rw[←h1];have:=Nd.size_nil;show Nd.nil.size≤_;omega
   ·exact pairD_tree hb
theorem Zh5(x:Bool)(l:List UInt8)(d:UInt8)(s:AdS):(Zav x l d s).1.2.size≤2*l.length+2:=by
 have hz:=Nd.size_nil;unfold Zav;simp only;generalize(if(Zr l d true s).2.e=0∧(Zr l d true s).1=[]then failC (Zr l d true s).2 2 s.at_ else(Zr l d true s).2)=s2;split
 ·show Nd.nil.size≤_;omega
 ·cases hp:Zac prg x (Zr l d true s).1 with
  |inl z=>show Nd.nil.size≤_;omega
  |inr z=>
   obtain⟨n,r⟩:=z;have h3:=(parseD_marks hp).2.2;have h4:(Zr l d true s).1.length≤l.length:=by
    unfold Zr;split
    ·exact Nat.zero_le _
    ·have:=ZdC l d true (l.length+1) s.at_ [];simp only[List.length_nil]at this;show(bt l d true (l.length+1) s.at_ []).1.length≤_;omega
   show n.size≤_;omega
theorem Zlu(b:List Prt)(t:List UInt8):(pushT b t).length≤b.length+1:=by
 unfold pushT;cases h:b.getLast? with
 |none=>simp
 |some p=>
  simp only;split
  ·rw[List.length_append,List.length_dropLast];simp only[List.length_singleton];omega
  ·simp
theorem partsL_len(g:Int):∀(t:List UInt8) (esc:Bool) (b:List Prt),(Zao g t esc b).1.length≤b.length+t.length
 |[],esc,b=>by rw[Zao];split<;>simp
 |c::r,esc,b=>by
  have h1:=partsL_len g r;have h2:=Zlu b;rw[Zao,List.length_cons];split
  ·have:=h1 true b;omega
  ·split
   ·have:=h1 false (b++[(0,[])]);rw[List.length_append]at this;simp at this;omega
   ·split
    ·split
     ·exact Nat.zero_le _
     ·have:=h1 false (b++[((c.toNat:Int)-48,[])]);rw[List.length_append]at this;simp at this;omega
    ·split
     ·have:=h1 false (pushT b [10]);have:=h2 [10];omega
     ·have:=h1 false (pushT b [c]);have:=h2 [c];omega
theorem ZjE(l:List UInt8)(sub:SV)(s:AdS):(Zap l sub s).2.1.tree=sub.tree∧(Zap l sub s).2.1.parts=sub.parts:=by
 unfold Zap;split
 ·exact⟨rfl,rfl⟩
 ·split
  ·exact⟨rfl,rfl⟩
  ·split
   ·simp only;split<;>exact⟨rfl,rfl⟩
   ·split<;>exact⟨rfl,rfl⟩
theorem Zem(l:List UInt8):∀(n:Nat) (sub:SV) (s:AdS),(Zai l n sub s).1.tree=sub.tree∧(Zai l n sub s).1.parts=sub.parts
 |0,_,_=>⟨rfl,rfl⟩
 |n+1,sub,s=>by
  rw[Zai];have hf:=ZjE l sub s;cases hr:Zap l sub s with
  |mk a b=>
   rw[hr]at hf;obtain⟨b,c⟩:=b;cases a with
   |true=>have:=Zem l n b c;exact⟨this.1.trans hf.1,this.2.trans hf.2⟩
   |false=>exact hf
theorem ZmX(x:Bool)(l:List UInt8)(s:AdS):(Zet x l s).1.tree.size≤2*l.length+2∧(Zet x l s).1.parts.length≤l.length:=by
 unfold Zet;simp only;split
 ·exact⟨by show Nd.nil.size≤_;have:=Nd.size_nil;omega,Nat.zero_le _⟩
 ·have h1:=Zh5 x l (Zv l s).1 (Zv l s).2;split
  ·exact⟨h1,Nat.zero_le _⟩
  ·split
   ·exact⟨h1,Nat.zero_le _⟩
   ·have hk:=Zem l (l.length+2);rw[(hk _ _).1,(hk _ _).2];refine⟨h1,?_⟩;have h4:∀q:AdS,(Zr l (Zv l s).1 false q).1.length≤l.length:=fun q=>by
     unfold Zr;split
     ·exact Nat.zero_le _
     ·have:=ZdC l (Zv l s).1 false (l.length+1) q.at_ [];simp only[List.length_nil]at this;show(bt l _ false (l.length+1) q.at_ []).1.length≤_;omega
    have h5:=partsL_len (Zav x l (Zv l s).1 (Zv l s).2).1.2.groups (Zr l (Zv l s).1 false (Zav x l (Zv l s).1 (Zv l s).2).2).1 false [];have h6:=h4 (Zav x l (Zv l s).1 (Zv l s).2).2;simp only[List.length_nil]at h5;show(Zao _ _ false []).1.length≤_;omega
theorem Zlv(x:Bool)(l:List UInt8)(c:CV)(s:AdS)(h:c.sub=SV.zero):(ZsD x l c s).2.1.sub.tree.size≤2*l.length+2∧(ZsD x l c s).2.1.sub.parts.length≤l.length:=by
 have h0:c.sub.tree.size≤2*l.length+2∧c.sub.parts.length≤l.length:=by
  rw[h];exact⟨by show Nd.nil.size≤_;have:=Nd.size_nil;omega,Nat.zero_le _⟩
 unfold ZsD;split
 ·exact h0
 split
 ·exact h0
 split
 ·exact h0
 split
 ·exact h0
 split
 ·exact h0
 split
 ·exact ZmX x l s
 split
 ·exact h0
 ·exact h0
theorem cmdD_few{x:Bool}{l:List UInt8}{p:Nat}{c:CV}{q:AdS}(hl:l.length≤100000)(h:Zeu x l p=.inr (c,q)):c.few:=by
 unfold Zeu at h;cases hg:ZX x l ⟨p,[],0⟩with
 |inl z=>rw[hg]at h;cases h
 |inr z=>
  obtain⟨g,s⟩:=z;rw[hg]at h;simp only at h;split at h
  ·cases h
  ·injection h with h;obtain⟨g1,g2⟩:=Zh4 hg;have hz:CV.zero.few:=by
    refine⟨?_,?_,?_,?_⟩
    ·show Nd.nil.size≤_;have:=Nd.size_nil;omega
    ·show Nd.nil.size≤_;have:=Nd.size_nil;omega
    ·show Nd.nil.size≤_;have:=Nd.size_nil;omega
    ·exact Nat.zero_le _
   have d:(ZbY x l g s).1.few:=by
    unfold ZbY;split
    ·exact hz
    ·simp only;generalize(if ZM (byt l s.at_)<0 then failC s 13 s.at_ else if ZM (byt l s.at_)<ZcD g then failC s 19 s.at_ else if byt l s.at_=81∨byt l s.at_=84∨byt l s.at_=122 then Zan s s.at_ [byt l s.at_]else s)=s1;split
     ·exact hz
     ·have hk:=fun(cv:CV) (q:AdS)=>Zcj x l cv q;have hf:=fun(cv:CV) (q:AdS) (hc:cv.sub=SV.zero)=>Zlv x l cv q hc;split
      ·refine⟨?_,?_,?_,?_⟩
       ·rw[(hk _ _).2.2];show g.a.tree.size≤_;omega
       ·rw[(hk _ _).2.2];show g.b.tree.size≤_;omega
       ·have:=(hf {CV.zero with at_:=s.at_,guard:=g,name:=byt l s.at_} (s1.to (s1.at_+1)) rfl).1;exact Nat.le_trans this (by omega)
       ·have:=(hf {CV.zero with at_:=s.at_,guard:=g,name:=byt l s.at_} (s1.to (s1.at_+1)) rfl).2;exact Nat.le_trans this (by omega)
      ·refine⟨?_,?_,?_,?_⟩
       ·rw[(hk _ _).2.2];show g.a.tree.size≤_;omega
       ·rw[(hk _ _).2.2];show g.b.tree.size≤_;omega
       ·have:=(hf {CV.zero with at_:=s.at_,guard:=g,name:=byt l s.at_} (s1.to (s1.at_+1)) rfl).1;exact Nat.le_trans this (by omega)
       ·have:=(hf {CV.zero with at_:=s.at_,guard:=g,name:=byt l s.at_} (s1.to (s1.at_+1)) rfl).2;exact Nat.le_trans this (by omega)
   rw[h]at d;exact d
end Go.Proofs.YtkfddjopbocpkaaGreatDoor
