/- Lemmas of this claim. -/
import Derived.Test.YtkfddjopbocpkaaGreatDoorM30
import Derived.Test.YtkfddjopbocpkaaGreatDoorM32
set_option linter.unusedVariables false
set_option linter.unusedSimpArgs false
set_option maxRecDepth 100000
set_option maxHeartbeats 4000000
namespace Go.Proofs.YtkfddjopbocpkaaGreatDoor
open Go.Lib (hid)
open Go.RowKit
structure SmC(la lb:List CV):Prop where
 len:lb.length=la.length
 same:∀k (ha:k<la.length) (hb:k<lb.length),CV.same la[k] lb[k]∧la[k].sub.tree=lb[k].sub.tree
 fa:∀c∈la,c.few
 fb:∀c∈lb,c.few
attribute [-go_sem] storeVar
theorem ZlF(la lb:List CV)(u v:Value)(w:World)(hl:la.length≤1000000)(hu:Zdw nob w la u)(hv:Zdw nob w lb v)(h:SmC la lb):
 Calls Tryz.prog 39 #[u,v,.func (.func 16) #[] #[]] w fun e w'=>e=.returned (.bool true)∧Fr nob w w':=by
 obtain⟨va,vc,rfl⟩:=hu.shape;obtain⟨vb,vd,hvs⟩:=hv.shape;rw[h.len]at hvs;subst hvs;have HU:=hid hu;have HV:=hid hv;have HS:=hid h;have HLEN:=hid h.len;clear hu hv h;go_enter Tryz.func39,Tryz.ntmps39;go_wp2_with fail
 go_loopw [17] (fun i wr=>∃k:Nat,i=.int .i64 k∧k≤la.length∧Fr nob w wr) (fun i _=>la.length-(intOf i).toNat)
 case atStart=>exact⟨0,rfl,Nat.zero_le _,Fr.refl _ _⟩
 case round=>
  obtain⟨k,rfl,hk,fr⟩:=hrel;have FR:=hid fr;by_cases hlt:k<la.length
  ·have hltb:k<lb.length:=by rw[HLEN.out];exact hlt
   obtain⟨q,cap,r,e,hq,hr,hva,hra⟩:=HU.out.get hlt;obtain⟨q',cap',r',e',hq',hr',hvb,hrb⟩:=HV.out.get hltb;injection e with e1 _ e2;subst e1;subst e2;injection e' with e1 eL e2;subst e1;subst e2;clear eL;obtain⟨hsm,htr⟩:=HS.out.same k hlt hltb;have hfa:=HS.out.fa _ (List.getElem_mem hlt);have hfb:=HS.out.fb _ (List.getElem_mem hltb);obtain⟨c,hc⟩:∃c,la[k]=c:=⟨_,rfl⟩;obtain⟨d,hd⟩:∃d,lb[k]=d:=⟨_,rfl⟩;rw[hc]at hva hsm htr hfa;rw[hd]at hvb hsm htr hfb;obtain⟨_,_,_,e3,_,hone,_⟩:=hva.opened;injection e3 with e3;subst e3;obtain⟨_,_,_,e3,_,hone',_⟩:=hvb.opened;injection e3 with e3;subst e3;obtain⟨hb1,f1⟩:=Zen wr r;obtain⟨w1,hw1⟩:∃w1,w1=(wr.alloc (.cells zC 35)).setRow wr.heap.size r:=⟨_,rfl⟩;rw[←hw1]at hb1 f1;obtain⟨hb2,f2⟩:=Zen w1 r';obtain⟨w2,hw2⟩:∃w2,w2=(w1.alloc (.cells zC 35)).setRow w1.heap.size r':=⟨_,rfl⟩;rw[←hw2]at hb2 f2;have HRA:=hid (show wr.rangeAt q (k*20) r.toList from fun j v hj=>fr.cell (hra j v hj) (fun x=>x))
   have HRB:=hid (show w1.rangeAt q' (k*20) r'.toList from fun j v hj=>(fr.trans' f1).cell (hrb j v hj) (fun x=>x));have HI:=hid (show(Tryz.prog.info? 35).map (·.size)=some r.size by rw[hr];exact info_C);have HI':=hid (show(Tryz.prog.info? 35).map (·.size)=some r'.size by rw[hr'];exact info_C);have HI2:=hid (show(Tryz.prog.info? 35).map (·.size)=some r.toList.length by rw[Array.length_toList,hr];exact info_C);have HI3:=hid (show(Tryz.prog.info? 35).map (·.size)=some r'.toList.length by rw[Array.length_toList,hr'];exact info_C);have HZ:=hid (show zC.size=r.size by rw[hr];rfl);have HO:=hid hone;have HZ':=hid (show zC.size=r'.size by rw[hr'];rfl);have HO':=hid hone';have F2:=hid (fr.trans' (f1.trans' f2));have HSM:=hid (Zh3 c d (.agg r) (.agg r') w2 hfa hfb (hva.on F2.out) (hvb.on F2.out) hsm htr);have HW1:=hid hw1;have HW2:=hid hw2;have B1:=hid (f2.heap hb1 (fun x=>x));have B2:=hid hb2
   have hltI:(k:Int)<la.length:=by omega
   clear hra hrb hva hvb hsm htr hfa hfb hone hone' hw1 hw2 hb1 hb2 f1 f2 fr hr hr' hc hd hq hq';go_wp2_with(first|(refine wpList_load_mid rfl 35 _ rfl q (k*20) ?_ r.toList _ HRA.out Tryz.underlying35 rfl HI2.out ?_)|(refine wpList_load_mid rfl 35 _ rfl q' (k*20) ?_ r'.toList _ HRB.out Tryz.underlying35 rfl HI3.out ?_)|refine wpList_store_row rfl 35 _ _ rfl wr.heap.size r rfl rfl 35 _ (newAt _ _) HI.out HZ.out HO.out ?_|refine wpList_store_row rfl 35 _ _ rfl w1.heap.size r' rfl rfl 35 _ (newAt _ _) HI'.out HZ'.out HO'.out ?_|rw[←HW1.out]|rw[←HW2.out]|refine wpList_load_row rfl 35 _ rfl wr.heap.size rfl 35 r (0,0) _ B1.out Tryz.underlying35 rfl HI.out ?_|refine wpList_load_row rfl 35 _ rfl w1.heap.size rfl 35 r' (0,0) _ B2.out Tryz.underlying35 rfl HI'.out ?_);refine HSM.out.mono ?_;rintro e w3 ⟨rfl,f3⟩;have F3:=hid (F2.out.trans' f3);clear f3;go_wp2;go_roundw
   case rel=>exact⟨k+1,by go_num,by omega,F3.out⟩
   case measure=>simp[intOf];omega
  ·have hke:k=la.length:=by omega
   subst hke;clear fr;go_wp2;go_ret;exact⟨rfl,FR.out⟩
theorem Zm4(q:Bool)(la lb:List CV)(u v:Value)(w:World)(hl:la.length≤1000000)(hu:Zdw nob w la u)(hv:Zdw nob w lb v)(h:SmC la lb):
 Calls Tryz.prog 19 #[.agg #[.bool q,u],.agg #[.bool q,v]] w fun e w'=>e=.returned (.bool true)∧Fr nob w w':=by
 obtain⟨va,vc,rfl⟩:=hu.shape;obtain⟨vb,vd,rfl⟩:=hv.shape;obtain⟨w1,hw1⟩:∃w1,w1=w.alloc (.cells #[.bool q,.slice va la.length vc] 50):=⟨_,rfl⟩;have hb1:w1.heap[w.heap.size]? =some (.cells #[.bool q,.slice va la.length vc] 50 (0,0)):=by rw[hw1];exact newAt _ _
 have f1:Fr nob w w1:=by rw[hw1];exact(Fr.refl _ _).alloc _
 obtain⟨w2,hw2⟩:∃w2,w2=w1.alloc (.cells #[.bool q,.slice vb lb.length vd] 50):=⟨_,rfl⟩;have hb2:w2.heap[w1.heap.size]? =some (.cells #[.bool q,.slice vb lb.length vd] 50 (0,0)):=by rw[hw2];exact newAt _ _
 have f2:Fr nob w1 w2:=by rw[hw2];exact(Fr.refl _ _).alloc _
 have hc0:=cell_at (j:=0) (f2.heap hb1 (fun x=>x)) rfl;have hc1:=cell_at (j:=1) (f2.heap hb1 (fun x=>x)) rfl;have hd0:=cell_at (j:=0) hb2 rfl;have hd1:=cell_at (j:=1) hb2 rfl;have HI:=hid (ZlF la lb _ _ w2 hl (hu.on (f1.trans' f2)) (hv.on (f1.trans' f2)) h);have HW1:=hid hw1;have HW2:=hid hw2;have F2:=hid (f1.trans' f2);clear hw1 hw2 f1 f2 hb1 hb2 hu hv h;go_enter Tryz.func19,Tryz.ntmps19;go_wp2_with(first|rw[←HW1.out]|rw[←HW2.out]);refine HI.out.mono ?_;rintro e w3 ⟨rfl,f3⟩;go_wp2;go_ret;exact⟨rfl,F2.out.trans' f3⟩
end Go.Proofs.YtkfddjopbocpkaaGreatDoor
namespace Go.Proofs.YtkfddjopbocpkaaGreatDoor
theorem CV.same_sh(k:Nat)(c:CV):CV.same c (shC k c):=⟨⟨⟨rfl,fun _=>rfl,fun _=>rfl⟩,⟨rfl,fun _=>rfl,fun _=>rfl⟩,rfl⟩,rfl,rfl,rfl,rfl,rfl,rfl,rfl,rfl,rfl⟩
theorem Zp3(k:Nat){cs:List CV}(h:∀c∈cs,c.few):SmC cs (cs.map (shC k)):=
 ⟨by simp,fun j ha hb=>by rw[List.getElem_map];exact⟨CV.same_sh k _,rfl⟩,h,fun c hc=>by
  obtain⟨d,hd,rfl⟩:=List.mem_map.1 hc;exact h d hd⟩
theorem ZlG{x:Bool}{l:List UInt8}(hl:l.length≤4000):∀(n k:Nat) (s:RdS) (ms:List (Nat×List UInt8)) (s':RdS) (ms':List (Nat×List UInt8)),(∀c∈s.cmds,c.few)→Zdm x l n k s ms=.inr (s',ms')→∀c∈s'.cmds,c.few
 |0,k,s,ms,s',ms',h,e=>by
  injection e with e;injection e with e _;subst e;exact h
 |n+1,k,s,ms,s',ms',h,e=>by
  by_cases h1:l.length≤k
  ·rw[scrL_end h1]at e;injection e with e;injection e with e _;subst e;exact h
  by_cases h2:s.cmds.length=100
  ·rw[Zel h1 h2]at e;cases e
  cases h3:Zeu x l k with
  |inl z=>rw[Zfv h1 h2 h3]at e;cases e
  |inr cq=>
   obtain⟨c,q⟩:=cq;cases h4:ZbZ c s with
   |inl z=>rw[ZhW h1 h2 h3 h4]at e;cases e
   |inr s1=>
    rw[ZhX h1 h2 h3 h4]at e;refine ZlG hl n _ s1 _ s' ms' (fun d hd=> ?_) e;rw[ZiK h4]at hd;rcases List.mem_append.1 hd with hd|hd
    ·exact h d hd
    ·rw[List.mem_singleton.1 hd];exact cmdD_few (by omega) h3
theorem scrS_few{x:Bool}{l:List UInt8}{a:ScV}{ms:List (Nat×List UInt8)}(h:ZdO x l=.inr (a,ms)):(∀c∈a.cmds,c.few)∧a.cmds.length≤100:=by
 obtain⟨hl,st,h1,_,rfl⟩:=ZiN h;exact⟨ZlG hl _ _ _ _ _ _ (fun _ h=>by cases h) h1,(ZiM x l _ _ _ _ _ _ h1).2.2.2 (by unfold RdS.zero;simp)⟩
theorem scrL_err{x:Bool}{l:List UInt8}:∀(n k:Nat) (s:RdS) (ms:List (Nat×List UInt8)) (z:Int×Nat),Zdm x l n k s ms=.inl z→z.1≠0
 |0,k,s,ms,z,e=>by cases e
 |n+1,k,s,ms,z,e=>by
  by_cases h1:l.length≤k
  ·rw[scrL_end h1]at e;cases e
  by_cases h2:s.cmds.length=100
  ·rw[Zel h1 h2]at e;injection e with e;subst e;show(3:Int)≠0;decide
  cases h3:Zeu x l k with
  |inl y=>rw[Zfv h1 h2 h3]at e;injection e with e;subst e;exact cmdD_bad h3
  |inr cq=>
   obtain⟨c,q⟩:=cq;cases h4:ZbZ c s with
   |inl y=>rw[ZhW h1 h2 h3 h4]at e;injection e with e;subst e;exact put_err h4
   |inr s1=>rw[ZhX h1 h2 h3 h4]at e;exact scrL_err n _ s1 _ z e
theorem Zm5{x:Bool}{l:List UInt8}{z:Int}{p:Nat}(h:ZdO x l=.inl (z,p)):¬z=0:=by
 unfold ZdO at h;split at h
 ·injection h with h;injection h with h _;subst h;decide
 ·split at h
  ·next h1=>injection h with h;subst h;exact scrL_err _ _ _ _ _ h1
  ·split at h
   ·next h1=>injection h with h;subst h;exact whole_err h1
   ·cases h
theorem scr_tail{x:Bool}{s r:List UInt8}{a:ScV}{ms:List (Nat×List UInt8)}(hs:ZdO x s=.inr (a,ms))(hr:Zaq r (r.length+1) 0=r.length)(hlen:(s++10::r).length≤4000):ZdO x (s++10::r)=.inr (a,ms):=by
 obtain⟨l1,sa,a1,a2,rfl⟩:=ZiN hs;have hsk:=Zrr (s:=s) (r:=r) (F:=(s++10::r).length+1) (Nat.zero_le _) (.inl rfl) (by omega);have hin:=(Zeh (l:=s) (s.length+1) 0 (Nat.zero_le _)).2;have ka:=ZiM x s _ _ _ _ _ _ a1;have ca:sa.cmds.length≤100:=ka.2.2.2 (by unfold RdS.zero;simp);have h1:=(ZrW x 101 (101-sa.cmds.length) _ _ RdS.zero sa [] ms hsk hin (by unfold RdS.zero;simp) (by unfold RdS.zero;simp) a1).2;rw[show 101-sa.cmds.length+(sa.cmds.length-RdS.zero.cmds.length)=101 by unfold RdS.zero;simp only[List.length_nil];omega,hr]at h1;rw[Zr2 hlen (h1.trans (scrL_end (by simp;omega))) a2,ZoB]
theorem ZrG{x:Bool}{s:List UInt8}{a:ScV}{ms:List (Nat×List UInt8)}(h:ZdO x s=.inr (a,ms))(hn:s.take 2≠[35,110]):a.quiet=false:=by
 obtain⟨_,st,_,_,rfl⟩:=ZiN h;show(lineL s==[35,110])=false;rw[beq_eq_false_iff_ne];intro e;have hp:lineL s <+:s:=List.takeWhile_prefix _;rw[e]at hp;exact hn (List.prefix_iff_eq_take.1 hp).symm
def Zq3(n:Nat):List UInt8:=if n%4=0 then[32,59,32]else if n%4=1 then[35,32,120,10]else if n%4=2 then[10,9]else[]
theorem Zrt(n:Nat)(l:List UInt8):Zaq (Zq3 n++l) ((Zq3 n++l).length+1) 0=(Zq3 n).length+Zaq l (l.length+1) 0:=by
 unfold Zq3;split
 ·exact Zq9 (by decide)
 ·split
  ·exact ZhZ (R:=[32,120]) (by decide)
  ·split
   ·exact Zq9 (by decide)
   ·exact Zq9 (by decide)
theorem Zrl(n:Nat)(s:List UInt8)(hn:s.take 2≠[35,110]):(lineL (Zq3 n++s)==[35,110])=false:=by
 rw[beq_eq_false_iff_ne];intro e;have hp:lineL (Zq3 n++s) <+:Zq3 n++s:=List.takeWhile_prefix _;rw[e]at hp;have:=(List.prefix_iff_eq_take.1 hp).symm;unfold Zq3 at this;split at this
 ·simp at this
 ·split at this
  ·simp at this
  ·split at this
   ·simp at this
   ·exact hn (by simpa using this)
theorem Zrf(n:Nat):(Zq3 n).length≤4:=by
 unfold Zq3;split
 ·decide
 ·split
  ·decide
  ·split<;>decide
theorem Zru{x:Bool}{s:List UInt8}{a:ScV}{ms:List (Nat×List UInt8)}(n:Nat)(hl:s.length≤300)(h:ZdO x s=.inr (a,ms))(hn:s.take 2≠[35,110]):
 ZdO x (Zq3 n++s++[10,59,32,35,32,120,10])=.inr (⟨false,a.cmds.map (shC (Zq3 n).length)⟩,ms.map (shM (Zq3 n).length)):=by
 have hal:=Zrf n;have h1:=scr_tail (r:=[59,32,35,32,120,10]) h rfl (by simp;omega);have e:Zq3 n++s++[10,59,32,35,32,120,10]=Zq3 n++(s++10::[59,32,35,32,120,10]):=by simp
 rw[e,Zls (by simp;omega) (Zrt n _),h1];simp only;have e2:Zq3 n++(s++10::[59,32,35,32,120,10])=(Zq3 n++s)++10::[59,32,35,32,120,10]:=by simp
 rw[e2,ZoB,Zrl n s hn]
abbrev MB(B:Nat)(ms:List (Nat×List UInt8)):Prop:=∀m∈ms,m.1≤B
theorem MB.snoc{B k:Nat}{t:List UInt8}{ms:List (Nat×List UInt8)}(h:MB B ms)(hk:k≤B):MB B (ms++[(k,t)]):=fun m hm=>by
 rcases List.mem_append.1 hm with hm|hm
 ·exact h m hm
 ·rw[List.mem_singleton.1 hm];exact hk
theorem MB.parsed{B k:Nat}{x:Bool}{t:List UInt8}{ms:List (Nat×List UInt8)}{n:Nd}{r:RxS}(h:MB B ms)(hp:Zac prg x t=.inr (n,r))(hk:k+t.length≤B):MB B (ms++r.marks.map (shM k)):=fun m hm=>by
 rcases List.mem_append.1 hm with hm|hm
 ·exact h m hm
 ·obtain⟨q,hq,rfl⟩:=List.mem_map.1 hm;have:=(parseD_marks hp).1 q hq;show k+q.1≤B;omega
section
variable {l:List UInt8} {s:AdS} {B:Nat}
theorem Zq4(e:Int)(p:Nat)(h:MB B s.marks):MB B (failC s e p).marks:=by unfold failC;split<;>assumption
theorem Zq6(e:Int)(p:Nat)(h:MB B s.marks):MB B (ZV s p e).marks:=by unfold ZV;split<;>assumption
theorem Zrg(must:Bool)(h:MB B s.marks):MB B (labelC l must s).2.marks:=by
 unfold labelC;split
 ·exact Zq6 _ _ h
 ·exact Zq6 _ _ h
theorem Zrs(h:MB B s.marks):MB B (ZaR l s).2.marks:=by
 unfold ZaR;split
 ·exact Zq4 _ _ h
 ·exact Zq6 _ _ h
theorem ZrH(b:Nat)(hb:b≤B)(h:MB B s.marks):MB B (Zah l b s).2.marks:=by
 unfold Zah;simp only;have h1:MB B (s.to (bhd l [32,9] s.at_)).marks:=h;split
 ·exact Zq4 _ _ h1
 ·split
  ·exact Zq4 _ _ h1
  ·split
   ·exact Zq6 _ _ h1
   ·refine Zq6 _ _ ?_;exact h.snoc hb
theorem Zrh(h:MB B s.marks):MB B (Zv l s).2.marks:=by
 unfold Zv;split
 ·exact Zq4 _ _ h
 ·split
  ·exact Zq4 _ _ h
  ·exact h
theorem Zra(d:UInt8)(rx:Bool)(h:MB B s.marks):MB B (Zr l d rx s).2.marks:=by
 unfold Zr;split
 ·exact h
 ·exact Zq6 _ _ h
theorem ZrI(x:Bool)(d:UInt8)(hB:2*l.length≤B)(hs:s.at_≤l.length)(h:MB B s.marks):MB B (Zav x l d s).2.marks:=by
 unfold Zav;simp only;have hb:=Zra (l:=l) d true h;have hb':=ZmM (l:=l) (s:=s) d true;have h2:MB B (if(Zr l d true s).2.e=0∧(Zr l d true s).1=[]then failC (Zr l d true s).2 2 s.at_ else(Zr l d true s).2).marks:=by
  split
  ·exact Zq4 _ _ hb
  ·exact hb
 generalize(if(Zr l d true s).2.e=0∧(Zr l d true s).1=[]then failC (Zr l d true s).2 2 s.at_ else(Zr l d true s).2)=s2 at h2⊢;split
 ·exact h2
 ·cases hp:Zac prg x (Zr l d true s).1 with
  |inl z=>exact Zq4 _ _ h2
  |inr z=>
   obtain⟨n,r⟩:=z;exact h2.parsed hp (by omega)
theorem ZrR(sub:SV)(h:MB B s.marks):MB B (Zap l sub s).2.2.marks:=by
 unfold Zap;split
 ·simp only;split;exact Zq4 _ _ h;exact h
 ·split
  ·simp only;split;exact Zq4 _ _ h;exact h
  ·split
   ·simp only;split
    ·exact Zq4 _ _ h
    ·have hm:=Zq6 (nm s.at_ (l.drop s.at_) 0 0).2.2 (nm s.at_ (l.drop s.at_) 0 0).2.1 h;split
     ·exact Zq4 _ _ hm
     ·exact hm
   ·split
    ·exact Zrs h
    ·exact h
theorem Zri:∀(n:Nat) (sub:SV) (s:AdS),MB B s.marks→MB B (Zai l n sub s).2.marks
 |0,_,_,h=>h
 |n+1,sub,s,h=>by
  rw[Zai];have hf:=ZrR (l:=l) sub h;cases hr:Zap l sub s with
  |mk a b=>
   rw[hr]at hf;obtain⟨b,c⟩:=b;cases a with
   |true=>exact Zri n b c hf
   |false=>exact hf
theorem Zr3(x:Bool)(hB:2*l.length≤B)(hs:s.at_≤l.length)(h:MB B s.marks):MB B (Zet x l s).2.marks:=by
 unfold Zet;simp only;have h1:=Zrh (l:=l) h;have hs1:=Za7 hs;split
 ·exact h1
 ·have h2:=ZrI x (Zv l s).1 hB hs1 h1;have h3:=Zra (l:=l) (Zv l s).1 false h2;split
  ·exact h3
  ·split
   ·exact Zq4 _ _ h3
   ·exact Zri _ _ _ h3
theorem ZrJ(h:MB B s.marks):MB B (ZaP l s).2.marks:=by
 unfold ZaP;simp only;have h1:=Zrh (l:=l) h;have h2:=Zra (l:=l) (Zv l s).1 false h1;have h3:=Zra (l:=l) (Zv l s).1 false h2;split
 ·exact h3
 ·split
  ·exact Zq4 _ _ h3
  ·split
   ·exact h3
   ·exact Zq4 _ _ h3
theorem ZrS(x:Bool)(c:CV)(hB:2*l.length≤B)(hc:c.at_≤B)(hs:s.at_≤l.length)(h:MB B s.marks):MB B (argsC x l c s).2.2.marks:=by
 unfold argsC;split
 ·exact h
 split
 ·exact Zrg (l:=l) true h
 split
 ·exact Zrg (l:=l) false h
 split
 ·exact ZrH (l:=l) c.at_ hc h
 split
 ·exact Zrs (l:=l) h
 split
 ·exact Zr3 x hB hs h
 split
 ·exact ZrJ (l:=l) h
 ·exact h
end
theorem regexD_mb{x:Bool}{l:List UInt8}{d:UInt8}{s s':AdS}{a:AV}{B:Nat}(hB:2*l.length+2≤B)(hs:s.at_≤l.length+2)(hm:MB B s.marks)(h:ZaE x l d s=.inr (a,s')):MB B s'.marks:=by
 unfold ZaE at h;split at h
 ·cases h
 ·split at h
  ·cases h
  ·split at h
   ·cases h
   ·next t r hp=>
    injection h with h;injection h with h1 h2;subst h2;have h2:=ZdC l d true (l.length+1) s.at_ [];simp only[List.length_nil,Nat.zero_add]at h2;exact hm.parsed hp (by omega)
theorem addrD_mb{x:Bool}{l:List UInt8}{sec:Bool}{s s':AdS}{a:AV}{B:Nat}(hB:2*l.length+2≤B)(hs:s.at_≤l.length)(hm:MB B s.marks)(h:addrD x l sec s=.inr (a,s')):MB B s'.marks:=by
 unfold addrD at h;split at h
 ·unfold Zdj at h;split at h
  ·cases h
  ·split at h
   ·cases h
   ·injection h with h;injection h with h1 h2;subst h2;exact hm
 ·split at h
  ·injection h with h;injection h with h1 h2;subst h2;exact hm
  ·split at h
   ·exact regexD_mb hB (by show s.at_+1≤_;omega) (by exact hm) h
   ·split at h
    ·split at h
     ·cases h
     ·exact regexD_mb hB (by show s.at_+2≤_;omega) (by exact hm) h
    ·split at h
     ·unfold moreD at h;split at h
      ·cases h
      ·injection h with h;injection h with h1 h2;subst h2;exact MB.snoc hm (by omega)
     ·injection h with h;injection h with h1 h2;subst h2;exact hm
theorem guardD_mb{x:Bool}{l:List UInt8}{p:Nat}{g:GV}{s':AdS}{B:Nat}(hB:2*l.length+2≤B)(hp:p≤l.length)(h:ZX x l ⟨p,[],0⟩=.inr (g,s')):MB B s'.marks:=by
 unfold ZX at h;cases ha:addrD x l false ⟨p,[],0⟩with
 |inl e=>rw[ha]at h;cases h
 |inr z=>
  obtain⟨a,s1⟩:=z;rw[ha]at h;simp only at h;have h1:=addrD_mb hB (s:=⟨p,[],0⟩) hp (fun _ h=>by cases h) ha;by_cases hk:a.kind=0
  ·rw[if_pos hk]at h;simp only at h;rw[Zlg h];exact h1
  ·rw[if_neg hk]at h;cases hb:Zbc x l s1 with
   |inl e=>rw[hb]at h;cases h
   |inr z=>
    obtain⟨b,s2⟩:=z;rw[hb]at h;simp only at h;rw[Zlg h];unfold Zbc at hb;split at hb
    ·split at hb
     ·cases hb
     ·next b' s3 hq=>
      split at hb
      ·cases hb
      ·injection hb with hb;injection hb with _ hb;subst hb;exact addrD_mb hB (bhd_le _ _ _) (by exact h1) hq
    ·injection hb with hb;injection hb with _ hb;subst hb;exact h1
theorem cmdD_mb{x:Bool}{l:List UInt8}{p:Nat}{c:CV}{q:AdS}(hp:p≤l.length)(h:Zeu x l p=.inr (c,q)):MB (2*l.length+2) q.marks:=by
 unfold Zeu at h;cases hg:ZX x l ⟨p,[],0⟩with
 |inl z=>rw[hg]at h;cases h
 |inr z=>
  obtain⟨g,s⟩:=z;rw[hg]at h;simp only at h;split at h
  ·cases h
  ·next h0=>
   injection h with h;have hs:=guardD_le (s:=⟨p,[],0⟩) hp rfl hg;have he:(ZbY x l g s).2.e=0:=by simpa using h0
   have hok:=Zk4 he;have hm:=guardD_mb (Nat.le_refl _) hp hg;have e2:(ZbY x l g s).2=q:=by rw[h]
   rw[←e2];clear h e2 h0;unfold ZbY at he⊢;rw[if_neg (by omega)]at he⊢;simp only at he⊢;rw[if_neg (show¬ZM (byt l s.at_)<0 by omega),if_neg hok.2.2.1]at he⊢;obtain⟨s1,hs1⟩:∃s1,(if byt l s.at_=81∨byt l s.at_=84∨byt l s.at_=122 then Zan s s.at_ [byt l s.at_]else s)=s1:=⟨_,rfl⟩;rw[hs1]at he⊢;have hm1:MB (2*l.length+2) s1.marks∧s1.at_=s.at_:=by
    rw[←hs1];split
    ·exact⟨MB.snoc hm (by omega),rfl⟩
    ·exact⟨hm,rfl⟩
   split
   ·exact hm1.1
   ·have key:MB (2*l.length+2) (argsC x l {CV.zero with at_:=s.at_,guard:=g,name:=byt l s.at_} (s1.to (s1.at_+1))).2.2.marks:=ZrS x _ (by omega) (by show s.at_≤_;omega) (by show s1.at_+1≤_;rw[hm1.2];exact hok.1) (by exact hm1.1);split
    ·show MB _ (Zjq l _).marks;unfold Zjq;simp only;split
     ·exact key
     ·split
      ·exact MB.snoc key (by have:=bhd_le l [32,9] (argsC x l {CV.zero with at_:=s.at_,guard:=g,name:=byt l s.at_} (s1.to (s1.at_+1))).2.2.at_;exact Nat.le_trans this (by omega))
      ·exact Zq4 _ _ key
    ·exact key
theorem ZrK{x:Bool}{l:List UInt8}:∀(n k:Nat) (s:RdS) (ms:List (Nat×List UInt8)) (s':RdS) (ms':List (Nat×List UInt8)),k≤l.length→MB (2*l.length+2) ms→Zdm x l n k s ms=.inr (s',ms')→MB (2*l.length+2) ms'
 |0,k,s,ms,s',ms',hk,h,e=>by
  injection e with e;injection e with _ e;subst e;exact h
 |n+1,k,s,ms,s',ms',hk,h,e=>by
  by_cases h1:l.length≤k
  ·rw[scrL_end h1]at e;injection e with e;injection e with _ e;subst e;exact h
  by_cases h2:s.cmds.length=100
  ·rw[Zel h1 h2]at e;cases e
  cases h3:Zeu x l k with
  |inl z=>rw[Zfv h1 h2 h3]at e;cases e
  |inr cq=>
   obtain⟨c,q⟩:=cq;cases h4:ZbZ c s with
   |inl z=>rw[ZhW h1 h2 h3 h4]at e;cases e
   |inr s1=>
    rw[ZhX h1 h2 h3 h4]at e;refine ZrK n _ s1 _ s' ms' (Zeh (l:=l) _ _ (Zgq hk h3).1).2 (fun m hm=> ?_) e;rcases List.mem_append.1 hm with hm|hm
    ·exact h m hm
    ·exact cmdD_mb hk h3 m hm
theorem scrS_mb{x:Bool}{l:List UInt8}{a:ScV}{ms:List (Nat×List UInt8)}(h:ZdO x l=.inr (a,ms)):MB (2*l.length+2) ms:=by
 obtain⟨hl,st,h1,_,rfl⟩:=ZiN h;exact ZrK _ _ _ _ _ _ (Zeh (l:=l) _ _ (Nat.zero_le _)).2 (fun _ h=>by cases h) h1
end Go.Proofs.YtkfddjopbocpkaaGreatDoor
