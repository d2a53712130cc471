/- Lemmas of this claim. -/
import Derived.Test.YtkfddjopbocpkaaGreatDoorN29
set_option linter.unusedVariables false
set_option linter.unusedSimpArgs false
set_option maxRecDepth 100000
set_option maxHeartbeats 4000000
namespace Go.Proofs.YtkfddjopbocpkaaGreatDoor
open Go.Lib (hid)
open Go.RowKit
structure SmC(la lb:List CV):Prop where
 len:lb.length=la.length
 same:∀k (ha:k<la.length) (hb:k<lb.length),CV.same la[k] lb[k]∧la[k].sub.tree=lb[k].sub.tree
 fa:∀c∈la,c.few
 fb:∀c∈lb,c.few
attribute [-go_sem] storeVar
theorem ZlF(la lb:List CV)(u v:Value)(w:World)(hl:la.length≤1000000)(hu:Zdw nob w la u)(hv:Zdw nob w lb v)(h:SmC la lb):
 Calls Tryz.prog 39 #[u,v,.func (.func 16) #[] #[]] w fun e w'=>e=.returned (.bool true)∧Fr nob w w':=by
 obtain⟨va,vc,rfl⟩:=hu.shape;obtain⟨vb,vd,hvs⟩:=hv.shape;rw[h.len]at hvs;subst hvs;have HU:=hid hu;have HV:=hid hv;have HS:=hid h;have HLEN:=hid h.len;clear hu hv h;go_enter Tryz.func39,Tryz.ntmps39;go_wp2_with fail
 go_loopw [17] (fun i wr=>∃k:Nat,i=.int .i64 k∧k≤la.length∧Fr nob w wr) (fun i _=>la.length-(intOf i).toNat)
 case atStart=>exact⟨0,rfl,Nat.zero_le _,Fr.refl _ _⟩
 case round=>
  obtain⟨k,rfl,hk,fr⟩:=hrel;have FR:=hid fr;by_cases hlt:k<la.length
  ·have hltb:k<lb.length:=by rw[HLEN.out];exact hlt
   obtain⟨q,cap,r,e,hq,hr,hva,hra⟩:=HU.out.get hlt;obtain⟨q',cap',r',e',hq',hr',hvb,hrb⟩:=HV.out.get hltb;injection e with e1 _ e2;subst e1;subst e2;injection e' with e1 eL e2;subst e1;subst e2;clear eL;obtain⟨hsm,htr⟩:=HS.out.same k hlt hltb;have hfa:=HS.out.fa _ (List.getElem_mem hlt);have hfb:=HS.out.fb _ (List.getElem_mem hltb);obtain⟨c,hc⟩:∃c,la[k]=c:=⟨_,rfl⟩;obtain⟨d,hd⟩:∃d,lb[k]=d:=⟨_,rfl⟩;rw[hc]at hva hsm htr hfa;rw[hd]at hvb hsm htr hfb;obtain⟨_,_,_,e3,_,hone,_⟩:=hva.opened;injection e3 with e3;subst e3;obtain⟨_,_,_,e3,_,hone',_⟩:=hvb.opened;injection e3 with e3;subst e3;obtain⟨hb1,f1⟩:=Zen wr r;obtain⟨w1,hw1⟩:∃w1,w1=(wr.alloc (.cells zC 35)).setRow wr.heap.size r:=⟨_,rfl⟩;rw[←hw1]at hb1 f1;obtain⟨hb2,f2⟩:=Zen w1 r';obtain⟨w2,hw2⟩:∃w2,w2=(w1.alloc (.cells zC 35)).setRow w1.heap.size r':=⟨_,rfl⟩;rw[←hw2]at hb2 f2;have HRA:=hid (show wr.rangeAt q (k*20) r.toList from fun j v hj=>fr.cell (hra j v hj) (fun x=>x))
   have HRB:=hid (show w1.rangeAt q' (k*20) r'.toList from fun j v hj=>(fr.trans' f1).cell (hrb j v hj) (fun x=>x));have HI:=hid (show(Tryz.prog.info? 35).map (·.size)=some r.size by rw[hr];exact info_C);have HI':=hid (show(Tryz.prog.info? 35).map (·.size)=some r'.size by rw[hr'];exact info_C);have HI2:=hid (show(Tryz.prog.info? 35).map (·.size)=some r.toList.length by rw[Array.length_toList,hr];exact info_C);have HI3:=hid (show(Tryz.prog.info? 35).map (·.size)=some r'.toList.length by rw[Array.length_toList,hr'];exact info_C);have HZ:=hid (show zC.size=r.size by rw[hr];rfl);have HO:=hid hone;have HZ':=hid (show zC.size=r'.size by rw[hr'];rfl);have HO':=hid hone';have F2:=hid (fr.trans' (f1.trans' f2));have HSM:=hid (Zh3 c d (.agg r) (.agg r') w2 hfa hfb (hva.on F2.out) (hvb.on F2.out) hsm htr);have HW1:=hid hw1;have HW2:=hid hw2;have B1:=hid (f2.heap hb1 (fun x=>x));have B2:=hid hb2
   have hltI:(k:Int)<la.length:=by omega
   clear hra hrb hva hvb hsm htr hfa hfb hone hone' hw1 hw2 hb1 hb2 f1 f2 fr hr hr' hc hd hq hq';go_wp2_with(first|(refine wpList_load_mid rfl 35 _ rfl q (k*20) ?_ r.toList _ HRA.out Tryz.underlying35 rfl HI2.out ?_)|(refine wpList_load_mid rfl 35 _ rfl q' (k*20) ?_ r'.toList _ HRB.out Tryz.underlying35 rfl HI3.out ?_)|refine wpList_store_row rfl 35 _ _ rfl wr.heap.size r rfl rfl 35 _ (newAt _ _) HI.out HZ.out HO.out ?_|refine wpList_store_row rfl 35 _ _ rfl w1.heap.size r' rfl rfl 35 _ (newAt _ _) HI'.out HZ'.out HO'.out ?_|rw[←HW1.out]|rw[←HW2.out]|refine wpList_load_row rfl 35 _ rfl wr.heap.size rfl 35 r (0,0) _ B1.out Tryz.underlying35 rfl HI.out ?_|refine wpList_load_row rfl 35 _ rfl w1.heap.size rfl 35 r' (0,0) _ B2.out Tryz.underlying35 rfl HI'.out ?_);refine HSM.out.mono ?_;rintro e w3 ⟨rfl,f3⟩;have F3:=hid (F2.out.trans' f3);clear f3;go_wp2;go_roundw
   case rel=>exact⟨k+1,by go_num,by omega,F3.out⟩
   case measure=>simp[intOf];omega
  ·have hke:k=la.length:=by omega
   subst hke;clear fr;go_wp2;go_ret;exact⟨rfl,FR.out⟩
theorem Zm4(q:Bool)(la lb:List CV)(u v:Value)(w:World)(hl:la.length≤1000000)(hu:Zdw nob w la u)(hv:Zdw nob w lb v)(h:SmC la lb):
 Calls Tryz.prog 19 #[.agg #[.bool q,u],.agg #[.bool q,v]] w fun e w'=>e=.returned (.bool true)∧Fr nob w w':=by
 obtain⟨va,vc,rfl⟩:=hu.shape;obtain⟨vb,vd,rfl⟩:=hv.shape;obtain⟨w1,hw1⟩:∃w1,w1=w.alloc (.cells #[.bool q,.slice va la.length vc] 50):=⟨_,rfl⟩;have hb1:w1.heap[w.heap.size]? =some (.cells #[.bool q,.slice va la.length vc] 50 (0,0)):=by rw[hw1];exact newAt _ _
 have f1:Fr nob w w1:=by rw[hw1];exact(Fr.refl _ _).alloc _
 obtain⟨w2,hw2⟩:∃w2,w2=w1.alloc (.cells #[.bool q,.slice vb lb.length vd] 50):=⟨_,rfl⟩;have hb2:w2.heap[w1.heap.size]? =some (.cells #[.bool q,.slice vb lb.length vd] 50 (0,0)):=by rw[hw2];exact newAt _ _
 have f2:Fr nob w1 w2:=by rw[hw2];exact(Fr.refl _ _).alloc _
 have hc0:=cell_at (j:=0) (f2.heap hb1 (fun x=>x)) rfl;have hc1:=cell_at (j:=1) (f2.heap hb1 (fun x=>x)) rfl;have hd0:=cell_at (j:=0) hb2 rfl;have hd1:=cell_at (j:=1) hb2 rfl;have HI:=hid (ZlF la lb _ _ w2 hl (hu.on (f1.trans' f2)) (hv.on (f1.trans' f2)) h);have HW1:=hid hw1;have HW2:=hid hw2;have F2:=hid (f1.trans' f2);clear hw1 hw2 f1 f2 hb1 hb2 hu hv h;go_enter Tryz.func19,Tryz.ntmps19;go_wp2_with(first|rw[←HW1.out]|rw[←HW2.out]);refine HI.out.mono ?_;rintro e w3 ⟨rfl,f3⟩;go_wp2;go_ret;exact⟨rfl,F2.out.trans' f3⟩
end Go.Proofs.YtkfddjopbocpkaaGreatDoor
namespace Go.Proofs.YtkfddjopbocpkaaGreatDoor
theorem Zdw.past{w W W':World}{cs:List CV}{v:Value}(h:Zdw nob w cs v){n:Nat}(hn:w.heap.size≤n)(f:Fr nob w W)(f2:Fr (fun k=>k=n) W W'):Zdw nob W' cs v:=by
 have h1:Zdw (fun k=>k=n) W cs v:=h.keep f (fun _ x=>x.elim) (fun _ _ x=>x) (fun k hk e=>by have e:k=n:=e;omega);exact h1.keep f2 (fun _ x=>x) (fun k hk e=>by
  have e:k=n:=e;obtain⟨_,_,g⟩:=h;have:=own_lt g k hk;omega) (fun _ _ x=>x.elim)
theorem CV.same_sh0(c:CV):CV.same c c:=⟨⟨⟨rfl,fun _=>rfl,fun _=>rfl⟩,⟨rfl,fun _=>rfl,fun _=>rfl⟩,rfl⟩,rfl,rfl,rfl,rfl,rfl,rfl,rfl,rfl,rfl⟩
theorem CV.same_hs(k:Nat)(c:CV):CV.same (shC k c) c:=CV.same_sh0 c
theorem ZlG{x:Bool}{l:List UInt8}(hl:l.length≤4000):∀(n k:Nat) (s:RdS) (ms:List (Nat×List UInt8)) (s':RdS) (ms':List (Nat×List UInt8)),(∀c∈s.cmds,c.few)→Zdm x l n k s ms=.inr (s',ms')→∀c∈s'.cmds,c.few
 |0,k,s,ms,s',ms',h,e=>by
  injection e with e;injection e with e _;subst e;exact h
 |n+1,k,s,ms,s',ms',h,e=>by
  by_cases h1:l.length≤k
  ·rw[scrL_end h1]at e;injection e with e;injection e with e _;subst e;exact h
  by_cases h2:s.cmds.length=100
  ·rw[Zel h1 h2]at e;cases e
  cases h3:Zeu x l k with
  |inl z=>rw[Zfv h1 h2 h3]at e;cases e
  |inr cq=>
   obtain⟨c,q⟩:=cq;cases h4:ZbZ c s with
   |inl z=>rw[ZhW h1 h2 h3 h4]at e;cases e
   |inr s1=>
    rw[ZhX h1 h2 h3 h4]at e;refine ZlG hl n _ s1 _ s' ms' (fun d hd=> ?_) e;rw[ZiK h4]at hd;rcases List.mem_append.1 hd with hd|hd
    ·exact h d hd
    ·rw[List.mem_singleton.1 hd];exact cmdD_few (by omega) h3
theorem scrS_few{x:Bool}{l:List UInt8}{a:ScV}{ms:List (Nat×List UInt8)}(h:ZdO x l=.inr (a,ms)):(∀c∈a.cmds,c.few)∧a.cmds.length≤100:=by
 obtain⟨hl,st,h1,_,rfl⟩:=ZiN h;exact⟨ZlG hl _ _ _ _ _ _ (fun _ h=>by cases h) h1,(ZiM x l _ _ _ _ _ _ h1).2.2.2 (by unfold RdS.zero;simp)⟩
theorem scrL_err{x:Bool}{l:List UInt8}:∀(n k:Nat) (s:RdS) (ms:List (Nat×List UInt8)) (z:Int×Nat),Zdm x l n k s ms=.inl z→z.1≠0
 |0,k,s,ms,z,e=>by cases e
 |n+1,k,s,ms,z,e=>by
  by_cases h1:l.length≤k
  ·rw[scrL_end h1]at e;cases e
  by_cases h2:s.cmds.length=100
  ·rw[Zel h1 h2]at e;injection e with e;subst e;show(3:Int)≠0;decide
  cases h3:Zeu x l k with
  |inl y=>rw[Zfv h1 h2 h3]at e;injection e with e;subst e;exact cmdD_bad h3
  |inr cq=>
   obtain⟨c,q⟩:=cq;cases h4:ZbZ c s with
   |inl y=>rw[ZhW h1 h2 h3 h4]at e;injection e with e;subst e;exact put_err h4
   |inr s1=>rw[ZhX h1 h2 h3 h4]at e;exact scrL_err n _ s1 _ z e
theorem Zm5{x:Bool}{l:List UInt8}{z:Int}{p:Nat}(h:ZdO x l=.inl (z,p)):¬z=0:=by
 unfold ZdO at h;split at h
 ·injection h with h;injection h with h _;subst h;decide
 ·split at h
  ·next h1=>injection h with h;subst h;exact scrL_err _ _ _ _ _ h1
  ·split at h
   ·next h1=>injection h with h;subst h;exact whole_err h1
   ·cases h
end Go.Proofs.YtkfddjopbocpkaaGreatDoor
