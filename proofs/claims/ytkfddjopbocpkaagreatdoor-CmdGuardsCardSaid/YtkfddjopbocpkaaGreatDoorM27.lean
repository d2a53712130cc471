/-
  Merged texts of this claim: CmdE, CmdF, CmdD.
-/
import Derived.Test.YtkfddjopbocpkaaGreatDoorM01
import Derived.Test.YtkfddjopbocpkaaGreatDoorM25
import Derived.Test.YtkfddjopbocpkaaGreatDoorM26
set_option linter.unusedVariables false
set_option linter.unusedSimpArgs false
set_option maxRecDepth 100000
set_option maxHeartbeats 4000000
namespace Go.Proofs.YtkfddjopbocpkaaGreatDoor
open Go.Lib (hid)
open Go.RowKit
theorem Ze7{w:World}{bs:List UInt8}{v:Value}(h:w.ownsRow 0 5 1 v bs.length (ZS bs)):(convert 22 9 v).run Tryz.prog w=.ok (.string ⟨bs.toArray⟩) w:=by
 have h0:=h;obtain⟨a,c,rfl⟩:=Zb h;rcases h.2 with⟨e,hn⟩|⟨g,cap,cur,e,_,hr,_⟩
 ·have hb:bs=[]:=List.length_eq_zero_iff.1 hn;subst hb;injection e with e1 e2 e3;subst e1;subst e3;rfl
 ·injection e with e1 e2 e3;subst e1;subst e3;refine run_conv_bytes Tryz.underlying22 Tryz.underlying5 Tryz.underlying9 ⟨g,0,none⟩ c bs w ?_;intro j v hj;exact h0.cells (g:=g) rfl j v hj
theorem Zko{l:List UInt8}{k:Nat}(hk:k<l.length)(e:Bool)(out:List UInt8):Zbd (l.drop k) e out=
 if e=false∧l[k]=92 then Zbd (l.drop (k+1)) true out else if e=true∧l[k]=110 then Zbd (l.drop (k+1)) false (out++[10])else if e=true∧l[k]≠92 then([],false)else Zbd (l.drop (k+1)) false (out++[l[k]]):=by
 rw[List.drop_eq_getElem_cons hk,Zbd]
theorem ZbU{w:World}{c:Int}{T:TypeId}:∀j u,([.int .u8 c]:List Value)[j]? =some u→(w.alloc (.cells #[.int .u8 c] T)).cell? ((⟨w.heap.size,0,none⟩:Addr).add j)=some u:=by
 intro j u hj
 match j,hj with
 |0,hj=>simp at hj;subst hj;simp[Addr.add]
theorem ZbV{c:Int}:∀u∈([.int .u8 c]:List Value),u.oneCell'=true:=by intro u hu;simp at hu;subst hu;rfl
theorem cm_list(l:List UInt8)(w:World)(hl:l.length≤99000):
 Calls Tryz.prog 124 #[.string ⟨l.toArray⟩] w fun r w'=>r=.returned (.tuple #[.string ⟨(Zbd l false []).1.toArray⟩,.bool (Zbd l false []).2])∧Fr nob w w':=by
 obtain⟨F,hF⟩:∃F,Zbd l false []=F:=⟨_,rfl⟩;rw[hF];obtain⟨Ft,Fb⟩:=F;obtain⟨i0,hi,hz0,hz1,hz2⟩:=info_parts Zfi;go_enter Tryz.func124,Tryz.ntmps124
 go_wp2_with fail
 go_loopw [4,5,10] (fun ov ev i wr=>∃(k:Nat) (e:Bool) (bs:List UInt8),i=.int .i64 k∧k≤l.length∧ev=.bool e∧wr.ownsRow 0 5 1 ov bs.length (ZS bs)∧Zbd (l.drop k) e bs=(Ft,Fb)∧Fr nob w wr∧(∀g,ov.ownBlock=some g→w.heap.size≤g)∧bs.length≤k) (fun _ _ i _=>l.length-(intOf i).toNat)
 case atStart=>exact⟨0,false,[],rfl,Nat.zero_le _,rfl,World.ownsRow_nil _ _ _ _,hF,Fr.refl _ _,fun _ h=>(by cases h),Nat.zero_le _⟩
 case round=>
  obtain⟨k,e,bs,rfl,hk,rfl,ho,hL,fr,hn,hbs⟩:=hrel;clear hF;have HO:=hid ho;have HL:=hid hL;have FR:=hid fr;have HN:=hid hn;clear ho hL fr hn;by_cases hlt:k<l.length
  ·have hL:=HL.out;rw[Zko hlt]at hL;obtain⟨c,hc⟩:∃c,l[k]=c:=⟨_,rfl⟩;have hkl:(k:Int)<l.length:=by omega
   have HK:=hid hc;obtain⟨ao,co,hov⟩:=Zb HO.out;subst hov;rw[hc]at hL;cases e with
   |false=>
    by_cases h92:c=92
    ·subst h92;simp only[and_self,if_true]at hL;have HL2:=hid hL;clear hL HL
     go_wp2_with(first|rw[HK.out])
     go_roundw
     case rel=>exact⟨k+1,true,bs,by go_num,by omega,rfl,HO.out,HL2.out,FR.out,HN.out,by omega⟩
     case measure=>simp[intOf];omega
    ·have t92:((c.toNat:Int)==92)=false:=ZG (b:=92) h92;simp only[h92,and_false,if_false,Bool.false_eq_true,false_and]at hL;have HL2:=hid hL;clear hL HL h92 hc
     go_wp2_with(first|rw[HK.out]|(at_builtin;refine wpList_append_g rfl _ _ 22 rfl 5 i0 (.int .u8 0) 1 1 Tryz.underlying22 hi hz0 hz1 hz2 rfl (by decide) _ _ _ rfl (ownsRow_fr HO.out ((Fr.refl nob wr).alloc _) (fun _ _ x=>x)) ⟨wr.heap.size,0,none⟩ 1 1 [(.int .u8 (c.toNat:Int))] rfl rfl ZbU ZbV (by unfold maxLen;omega) (by omega) ?_))
     intro v' w4 hown' hap;obtain⟨av',cv',rfl⟩:=Zb hown';have hfr:Fr nob w w4:=(FR.out.alloc _).trans hap.fr (fun i hi e=>by have:=HN.out i e;omega);have hnew:∀g,(Value.slice av' (bs.length+1) cv').ownBlock=some g→w.heap.size≤g:=fun g hg=>by
      rcases hap.old g hg with h1|h1
      ·exact HN.out g h1
      ·have:=FR.out.size;simp only[World.size_alloc]at h1;omega
     have HOWN:=hid hown';have HFR:=hid hfr;have HNEW:=hid hnew;clear hown' hap hfr hnew;go_wp2
     go_roundw
     case rel=>exact⟨k+1,false,bs++[c],by go_num,by omega,rfl,by rw[List.length_append,Zam];exact HOWN.out,HL2.out,HFR.out,HNEW.out,by rw[List.length_append];simp;omega⟩
     case measure=>simp[intOf];omega
   |true=>
    by_cases h110:c=110
    ·subst h110;simp only[Bool.true_eq_false,false_and,if_false,and_self,if_true]at hL;have HL2:=hid hL;clear hL HL hc
     go_wp2_with(first|rw[HK.out]|(at_builtin;refine wpList_append_g rfl _ _ 22 rfl 5 i0 (.int .u8 0) 1 1 Tryz.underlying22 hi hz0 hz1 hz2 rfl (by decide) _ _ _ rfl (ownsRow_fr HO.out ((Fr.refl nob wr).alloc _) (fun _ _ x=>x)) ⟨wr.heap.size,0,none⟩ 1 1 [(.int .u8 10)] rfl rfl ZbU ZbV (by unfold maxLen;omega) (by omega) ?_))
     intro v' w4 hown' hap;obtain⟨av',cv',rfl⟩:=Zb hown';have hfr:Fr nob w w4:=(FR.out.alloc _).trans hap.fr (fun i hi e=>by have:=HN.out i e;omega);have hnew:∀g,(Value.slice av' (bs.length+1) cv').ownBlock=some g→w.heap.size≤g:=fun g hg=>by
      rcases hap.old g hg with h1|h1
      ·exact HN.out g h1
      ·have:=FR.out.size;simp only[World.size_alloc]at h1;omega
     have HOWN:=hid hown';have HFR:=hid hfr;have HNEW:=hid hnew;clear hown' hap hfr hnew;go_wp2
     go_roundw
     case rel=>exact⟨k+1,false,bs++[10],by go_num,by omega,rfl,by rw[List.length_append,Zam];exact HOWN.out,HL2.out,HFR.out,HNEW.out,by rw[List.length_append];simp;omega⟩
     case measure=>simp[intOf];omega
    ·have t110:((c.toNat:Int)==110)=false:=ZG (b:=110) h110;by_cases h92:c=92
     ·subst h92;simp only[Bool.true_eq_false,false_and,if_false,true_and,ne_eq,not_true_eq_false,(by decide:¬(92:UInt8)=110)]at hL;have HL2:=hid hL;clear hL HL hc h110 t110
      go_wp2_with(first|rw[HK.out]|(at_builtin;refine wpList_append_g rfl _ _ 22 rfl 5 i0 (.int .u8 0) 1 1 Tryz.underlying22 hi hz0 hz1 hz2 rfl (by decide) _ _ _ rfl (ownsRow_fr HO.out ((Fr.refl nob wr).alloc _) (fun _ _ x=>x)) ⟨wr.heap.size,0,none⟩ 1 1 [(.int .u8 92)] rfl rfl ZbU ZbV (by unfold maxLen;omega) (by omega) ?_))
      intro v' w4 hown' hap;obtain⟨av',cv',rfl⟩:=Zb hown';have hfr:Fr nob w w4:=(FR.out.alloc _).trans hap.fr (fun i hi e=>by have:=HN.out i e;omega);have hnew:∀g,(Value.slice av' (bs.length+1) cv').ownBlock=some g→w.heap.size≤g:=fun g hg=>by
       rcases hap.old g hg with h1|h1
       ·exact HN.out g h1
       ·have:=FR.out.size;simp only[World.size_alloc]at h1;omega
      have HOWN:=hid hown';have HFR:=hid hfr;have HNEW:=hid hnew;clear hown' hap hfr hnew;go_wp2
      go_roundw
      case rel=>exact⟨k+1,false,bs++[92],by go_num,by omega,rfl,by rw[List.length_append,Zam];exact HOWN.out,HL2.out,HFR.out,HNEW.out,by rw[List.length_append];simp;omega⟩
      case measure=>simp[intOf];omega
     ·have t92:((c.toNat:Int)==92)=false:=ZG (b:=92) h92;have n92:((c.toNat:Int) !=92)=true:=ZlY (b:=92) h92;simp only[Bool.true_eq_false,false_and,if_false,true_and,ne_eq,h92,h110,not_false_eq_true,if_true]at hL;injection hL with e1 e2;subst e1;subst e2;clear HL hc h92 h110
      go_wp2_with(first|rw[HK.out])
      go_ret2
      exact⟨rfl,FR.out⟩
  ·obtain rfl:k=l.length:=by omega
   have hL:=HL.out;rw[List.drop_length,Zbd]at hL;injection hL with e1 e2;subst e1;subst e2;have hcv:=Ze7 HO.out;go_wp2
   go_ret2
   exact⟨rfl,FR.out⟩
theorem Zi7{l:List UInt8}{k:Nat}(g:Int)(hk:k<l.length)(e:Bool)(b:List Prt):Zaf g (l.drop k) e b=
 if e=false∧l[k]=92 then Zaf g (l.drop (k+1)) true b
 else if e=false∧l[k]=38 then Zaf g (l.drop (k+1)) false (b++[(0,[])])
 else if e=true∧48≤l[k].toNat∧l[k].toNat≤57 then(if g<(l[k].toNat:Int)-48 then([],9)else Zaf g (l.drop (k+1)) false (b++[((l[k].toNat:Int)-48,[])]))
 else if e=true∧l[k]=110 then Zaf g (l.drop (k+1)) false (pushT b [10])
 else Zaf g (l.drop (k+1)) false (pushT b [l[k]]):=by
 rw[List.drop_eq_getElem_cons hk,Zaf]
theorem Zal{b:List Prt}{t:List UInt8}{k:Nat}(ht:t.length≤1)(hl:b.length≤k)(h:∀p∈b,p.2.length≤k):(pushT b t).length≤k+1∧∀p∈pushT b t,p.2.length≤k+1:=by
 rcases(by rcases List.eq_nil_or_concat b with h|⟨q,p,h⟩;exact .inl h;exact .inr ⟨q,p.1,p.2,by rw[h,List.concat_eq_append]⟩:b=[]∨∃(q:List Prt) (k:Int) (a:List UInt8),b=q++[(k,a)])with rfl|⟨q,g,a,rfl⟩
 ·rw[Ze6];refine⟨by simp,fun p hp=> ?_⟩;simp only[List.mem_singleton]at hp;subst hp;simp only;omega
 ·have ha:=h (g,a) (by simp);simp only at ha;simp only[List.length_append,List.length_singleton]at hl;by_cases hg:g= -1
  ·subst hg;rw[ZdE];refine⟨by simp;omega,fun p hp=> ?_⟩;simp only[List.mem_append,List.mem_singleton]at hp;rcases hp with hp|rfl
   ·have:=h p (by simp[hp]);omega
   ·simp only[List.length_append];omega
  ·rw[Zdh q g a t hg];refine⟨by simp;omega,fun p hp=> ?_⟩;simp only[List.mem_append,List.mem_singleton]at hp;rcases hp with(hp|rfl)|rfl
   ·have:=h p (by simp[hp]);omega
   ·simp only;omega
   ·simp only;omega
theorem Zcg{b:List Prt}{g:Int}{k:Nat}(hl:b.length≤k)(h:∀p∈b,p.2.length≤k):(b++[(g,[])]).length≤k+1∧∀p∈b++[(g,[])],p.2.length≤k+1:=by
 refine⟨by simp;omega,fun p hp=> ?_⟩;simp only[List.mem_append,List.mem_singleton]at hp;rcases hp with hp|rfl
 ·have:=h p hp;omega
 ·simp
def ZmL(w:World)(F:List Prt×Int)(r:Ending)(w':World):Prop:=∃v,r=.returned (.tuple #[v,.int .i64 F.2])∧OwP w' F.1 v∧(∀k,v.ownBlock=some k→w.heap.size≤k)∧Fr nob w w'
theorem Fr.abv{w a b:World}(f:Fr nob w a)(h:Fr (Abv w.heap.size) a b):Fr nob w b:=f.trans h (fun i hi hS=>by have hS:w.heap.size≤i:=hS;omega)
theorem Zkp(l:List UInt8)(gr:Int)(w:World)(hl:l.length≤99000):
 Calls Tryz.prog 121 #[.string ⟨l.toArray⟩,.int .i64 gr] w (ZmL w (Zaf gr l false [])):=by
 obtain⟨F,hF⟩:∃F,Zaf gr l false []=F:=⟨_,rfl⟩;rw[hF];obtain⟨Ft,Fe⟩:=F;obtain⟨i0,hi,hz0,hz1,hz2⟩:=info_parts Ze5;obtain⟨w1,hw1⟩:∃w1,w1=w.alloc (.cells #[.slice none 0 0] 238):=⟨_,rfl⟩;have f1:Fr nob w w1:=by rw[hw1];exact(Fr.refl nob w).alloc _
 have hb1:Bdr w.heap.size w.heap.size [] w1:=by
  refine⟨.slice none 0 0,by rw[hw1];exact newAt _ _,World.ownsRow_nil _ _ _ _,Nat.le_refl _,fun k h=>by cases h⟩
 have HW1:=hid hw1;have F1:=hid f1;have HB1:=hid hb1;clear hw1 f1 hb1;go_enter Tryz.func121,Tryz.ntmps121
 go_wp2_with(rw[←HW1.out])
 go_loopw [7,13] (fun ev i wr=>∃(k:Nat) (e:Bool) (ps:List Prt),i=.int .i64 k∧k≤l.length∧ev=.bool e∧Bdr w.heap.size w.heap.size ps wr∧Zaf gr (l.drop k) e ps=(Ft,Fe)∧Fr nob w wr∧ps.length≤k∧(∀p∈ps,p.2.length≤k)) (fun _ i _=>l.length-(intOf i).toNat)
 case atStart=>exact⟨0,false,[],rfl,Nat.zero_le _,rfl,HB1.out,hF,F1.out,Nat.zero_le _,by simp⟩
 case round=>
  obtain⟨k,e,ps,rfl,hk,rfl,hB,hL,fr,hps,hpt⟩:=hrel;clear hF;have HB:=hid hB;have HL:=hid hL;have FR:=hid fr;have HPT:=hid hpt;have hsz:=fr.size;have HSZ:=hid hsz;clear hB hL fr hpt hsz;by_cases hlt:k<l.length
  ·have hL:=HL.out;rw[Zi7 gr hlt]at hL;obtain⟨c,hc⟩:∃c,l[k]=c:=⟨_,rfl⟩;have hkl:(k:Int)<l.length:=by omega
   have HK:=hid hc;rw[hc]at hL;cases e with
   |false=>
    by_cases h92:c=92
    ·subst h92;simp only[and_self,if_true]at hL;have HL2:=hid hL;clear hL HL hc
     go_wp2_with(first|rw[HK.out])
     go_roundw
     case rel=>exact⟨k+1,true,ps,by go_num,by omega,rfl,HB.out,HL2.out,FR.out,by omega,fun p hp=>by have:=HPT.out p hp;omega⟩
     case measure=>simp[intOf];omega
    ·have t92:((c.toNat:Int)==92)=false:=ZG (b:=92) h92;by_cases h38:c=38
     ·subst h38;simp only[h92,and_false,if_false,and_self,if_true]at hL;have HL2:=hid hL;clear hL HL hc h92 t92;obtain⟨v,b1,b2,b3,b4⟩:=HB.out;obtain⟨av,cv,rfl⟩:=Zb b2;have rb:=ZcP (cell_at (j:=0) b1 rfl);have B1:=hid b1;have B2:=hid b2;have B4:=hid b4;clear b1 b2 b4
      go_wp2_with(first|rw[HK.out]|(at_builtin;refine wpList_append_g rfl _ _ 238 rfl 43 i0 (.agg #[.int .i64 0,.string ByteArray.empty]) 2 24 Tryz.underlying238 hi hz0 hz1 hz2 rfl (by decide) _ _ _ rfl (ownsRow_fr B2.out ((Fr.refl nob wr).alloc _) (fun _ _ x=>x)) ⟨wr.heap.size,0,none⟩ 1 1 [.int .i64 (0),.string ⟨#[]⟩] rfl rfl (pC_news (t:=[]) (newAt0 wr _)) (Zg1 (k:=0) (t:=[])) (by unfold maxLen;omega) (by omega) ?_))
      intro v' w4 hown' hap;obtain⟨av',cv',rfl⟩:=Zb hown';obtain⟨⟨pc,pf⟩,h5,f5⟩:=Zea (l:=ps) B1.out b3 HSZ.out B4.out ((Fr.refl nob wr).alloc _) hap (k:=0) (t:=[]) hown';have H5:=hid h5;have F5:=hid (FR.out.abv f5);clear hown' hap h5 f5 rb;go_wp2
      go_roundw
      case rel=>exact⟨k+1,false,ps++[(0,[])],by go_num,by omega,rfl,H5.out,HL2.out,F5.out,(Zcg hps HPT.out).1,(Zcg hps HPT.out).2⟩
      case measure=>simp[intOf];omega
     ·have t38:((c.toNat:Int)==38)=false:=ZG (b:=38) h38;simp only[h92,h38,and_false,if_false,Bool.false_eq_true,false_and]at hL;have HL2:=hid hL;clear hL HL h92 h38 hc;have hsl:∀W,(Instr.slice 9 (.string ⟨l.toArray⟩) (some (.int .i64 (k:Int))) (some (.int .i64 ((k:Int)+1))) none).run Tryz.prog W=.ok (.string ⟨[c].toArray⟩) W:=fun W=>by
       have:=Zbh (P:=Tryz.prog) (t:=9) l Tryz.underlying9 hlt rfl rfl W;rw[HK.out]at this;exact this
      go_wp2_with(first|rw[HK.out])
      (try rw[HK.out])
      refine(bd_text w.heap.size w.heap.size ps [c] wr (by omega) (by simp) (fun p hp=>by have:=HPT.out p hp;omega) HSZ.out HB.out).mono ?_;rintro z w5 ⟨rfl,h5,f5⟩;have H5:=hid h5;have F5:=hid (FR.out.abv f5);clear h5 f5;go_wp2
      go_roundw
      case rel=>exact⟨k+1,false,pushT ps [c],by go_num,by omega,rfl,H5.out,HL2.out,F5.out,(Zal (by simp) hps HPT.out).1,(Zal (by simp) hps HPT.out).2⟩
      case measure=>simp[intOf];omega
   |true=>
    by_cases hd:48≤c.toNat∧c.toNat≤57
    ·have d1:(48:Int)≤(c.toNat:Int):=by omega
     have d2:(c.toNat:Int)≤57:=by omega
     have hwr:IntKind.u8.wrap ((c.toNat:Int)-48)=(c.toNat:Int)-48:=IntWalk.u8_in _ (by omega);simp only[Bool.true_eq_false,false_and,if_false,true_and,hd,and_self,if_true]at hL;by_cases hg:gr<(c.toNat:Int)-48
     ·rw[if_pos hg]at hL;injection hL with e1 e2;subst e1;subst e2;clear HL hc hd
      go_wp2_with(first|rw[HK.out])
      go_ret2
      exact⟨.slice none 0 0,rfl,World.ownsRow_nil _ _ _ _,fun k h=>(by cases h),FR.out⟩
     ·rw[if_neg hg]at hL;have HL2:=hid hL;clear hL HL hc hd;obtain⟨v,b1,b2,b3,b4⟩:=HB.out;obtain⟨av,cv,rfl⟩:=Zb b2;have rb:=ZcP (cell_at (j:=0) b1 rfl);have B1:=hid b1;have B2:=hid b2;have B4:=hid b4;clear b1 b2 b4
      go_wp2_with(first|rw[HK.out]|(at_builtin;refine wpList_append_g rfl _ _ 238 rfl 43 i0 (.agg #[.int .i64 0,.string ByteArray.empty]) 2 24 Tryz.underlying238 hi hz0 hz1 hz2 rfl (by decide) _ _ _ rfl (ownsRow_fr B2.out ((Fr.refl nob wr).alloc _) (fun _ _ x=>x)) ⟨wr.heap.size,0,none⟩ 1 1 [.int .i64 ((c.toNat:Int)-48),.string ⟨#[]⟩] rfl rfl (pC_news (t:=[]) (newAt0 wr _)) (Zg1 (k:=(c.toNat:Int)-48) (t:=[])) (by unfold maxLen;omega) (by omega) ?_))
      intro v' w4 hown' hap;obtain⟨av',cv',rfl⟩:=Zb hown';obtain⟨⟨pc,pf⟩,h5,f5⟩:=Zea (l:=ps) B1.out b3 HSZ.out B4.out ((Fr.refl nob wr).alloc _) hap (k:=(c.toNat:Int)-48) (t:=[]) hown';have H5:=hid h5;have F5:=hid (FR.out.abv f5);clear hown' hap h5 f5 rb;go_wp2
      go_roundw
      case rel=>exact⟨k+1,false,ps++[((c.toNat:Int)-48,[])],by go_num,by omega,rfl,H5.out,HL2.out,F5.out,(Zcg hps HPT.out).1,(Zcg hps HPT.out).2⟩
      case measure=>simp[intOf];omega
    ·have nd:¬(48:Int)≤(c.toNat:Int)∨((48:Int)≤(c.toNat:Int)∧¬(c.toNat:Int)≤57):=by omega
     by_cases h110:c=110
     ·subst h110;simp only[Bool.true_eq_false,false_and,if_false,true_and,hd,and_self,if_true]at hL;have HL2:=hid hL;clear hL HL hc nd hd
      go_wp2_with(first|rw[HK.out])
      (try rw[HK.out])
      refine(bd_text w.heap.size w.heap.size ps [10] wr (by omega) (by simp) (fun p hp=>by have:=HPT.out p hp;omega) HSZ.out HB.out).mono ?_;rintro z w5 ⟨rfl,h5,f5⟩;have H5:=hid h5;have F5:=hid (FR.out.abv f5);clear h5 f5;go_wp2
      go_roundw
      case rel=>exact⟨k+1,false,pushT ps [10],by go_num,by omega,rfl,H5.out,HL2.out,F5.out,(Zal (by simp) hps HPT.out).1,(Zal (by simp) hps HPT.out).2⟩
      case measure=>simp[intOf];omega
     ·have t110:((c.toNat:Int)==110)=false:=ZG (b:=110) h110;simp only[Bool.true_eq_false,false_and,if_false,true_and,hd,h110]at hL;have HL2:=hid hL;clear hL HL h110 hc hd;rcases nd with n1|⟨n1,n2⟩
      ·skip
       have hsl:∀W,(Instr.slice 9 (.string ⟨l.toArray⟩) (some (.int .i64 (k:Int))) (some (.int .i64 ((k:Int)+1))) none).run Tryz.prog W=.ok (.string ⟨[c].toArray⟩) W:=fun W=>by
        have:=Zbh (P:=Tryz.prog) (t:=9) l Tryz.underlying9 hlt rfl rfl W;rw[HK.out]at this;exact this
       go_wp2_with(first|rw[HK.out])
       (try rw[HK.out])
       refine(bd_text w.heap.size w.heap.size ps [c] wr (by omega) (by simp) (fun p hp=>by have:=HPT.out p hp;omega) HSZ.out HB.out).mono ?_;rintro z w5 ⟨rfl,h5,f5⟩;have H5:=hid h5;have F5:=hid (FR.out.abv f5);clear h5 f5;go_wp2
       go_roundw
       case rel=>exact⟨k+1,false,pushT ps [c],by go_num,by omega,rfl,H5.out,HL2.out,F5.out,(Zal (by simp) hps HPT.out).1,(Zal (by simp) hps HPT.out).2⟩
       case measure=>simp[intOf];omega
      ·skip
       have hsl:∀W,(Instr.slice 9 (.string ⟨l.toArray⟩) (some (.int .i64 (k:Int))) (some (.int .i64 ((k:Int)+1))) none).run Tryz.prog W=.ok (.string ⟨[c].toArray⟩) W:=fun W=>by
        have:=Zbh (P:=Tryz.prog) (t:=9) l Tryz.underlying9 hlt rfl rfl W;rw[HK.out]at this;exact this
       go_wp2_with(first|rw[HK.out])
       (try rw[HK.out])
       refine(bd_text w.heap.size w.heap.size ps [c] wr (by omega) (by simp) (fun p hp=>by have:=HPT.out p hp;omega) HSZ.out HB.out).mono ?_;rintro z w5 ⟨rfl,h5,f5⟩;have H5:=hid h5;have F5:=hid (FR.out.abv f5);clear h5 f5;go_wp2
       go_roundw
       case rel=>exact⟨k+1,false,pushT ps [c],by go_num,by omega,rfl,H5.out,HL2.out,F5.out,(Zal (by simp) hps HPT.out).1,(Zal (by simp) hps HPT.out).2⟩
       case measure=>simp[intOf];omega
  ·obtain rfl:k=l.length:=by omega
   have hL:=HL.out;rw[List.drop_length,Zaf]at hL;cases e with
   |true=>
    simp only[if_true]at hL;injection hL with e1 e2;subst e1;subst e2;go_wp2
    go_ret2
    exact⟨.slice none 0 0,rfl,World.ownsRow_nil _ _ _ _,fun k h=>(by cases h),FR.out⟩
   |false=>
    simp only[Bool.false_eq_true,if_false]at hL;injection hL with e1 e2;subst e1;subst e2;obtain⟨v,b1,b2,b3,b4⟩:=HB.out;obtain⟨av,cv,rfl⟩:=Zb b2;have rb:=ZcP (cell_at (j:=0) b1 rfl);have B2:=hid b2;have B4:=hid b4;clear b1 b2 b4;go_wp2
    go_ret2
    exact⟨_,rfl,B2.out,fun k h=>(B4.out k h).2,FR.out⟩
theorem Zi8(b:Nat)(l:List UInt8)(x:Bool)(s:AdS)(S:Nat→Prop)(w:World)(h:CRd b l x s S w):
 Calls Tryz.prog 154 #[.pointer (some ⟨b,0,none⟩)] w fun r w'=>r=.returned (.func (.func (if x then 178 else 179)) #[] #[])∧Fr nob w w':=by
 obtain⟨mv,h⟩:=h;have rr:=Zd h.blk;clear h;cases x with
 |true=>
  go_enter Tryz.func154,Tryz.ntmps154;go_wp2;go_ret;exact⟨rfl,Fr.refl _ _⟩
 |false=>
  go_enter Tryz.func154,Tryz.ntmps154;go_wp2;go_ret;exact⟨rfl,Fr.refl _ _⟩
theorem Ze8(t:List UInt8)(x:BF)(w:World)(ht:t.length≤100000)(hE:Env w):Calls Tryz.prog (if x then 178 else 179) #[.string ⟨t.toArray⟩] w (EreAnsO (Zah prg x t) w):=by
 rw[if_neg Bool.false_ne_true]
 ·rw[ZeB];refine(Zdy t w ht hE).mono ?_;intro e w' h;unfold BreAnsO at h;unfold EreAnsO;refine⟨h.1,?_⟩;have h2:=h.2;cases hp:Zds prg t with
  |inl z=>rw[hp]at h2;exact h2
  |inr z=>rw[hp]at h2;obtain⟨i,y,mv,rfl,h3⟩:=h2;exact⟨_,mv,rfl,h3⟩
def Znq(b:Nat)(l:List UInt8)(x:Bool)(S O:Nat→Prop)(w:World)(R:(List UInt8×Nd)×AdS)(r:Ending)(w':World):Prop:=
 ∃u S',r=.returned (.tuple #[.string ⟨R.1.1.toArray⟩,u])∧RN (SO S' O) w' R.1.2 u∧CRd b l x R.2 S' w'∧Stp S w S' w'
theorem Zkq(b:Nat)(l:List UInt8)(d:UInt8)(x:BF)(s:AdS)(S O:Nat→Prop)(w:World)(hl:l.length≤99000)(ha:s.at_≤l.length)(hm:s.marks.length≤100000)(hS:∀k,S k→k<w.heap.size)(hO:∀k,O k→k<w.heap.size)
 (W0:World) (hE:Env W0) (hW:Fr nob W0 w) (hSW:∀k,S k→W0.heap.size≤k) (h:CRd b l x s S w):
 Calls Tryz.prog 119 #[.pointer (some ⟨b,0,none⟩),.int .u8 (d.toNat:Int)] w (Znq b l x S O w (Zak x l d s)):=by
 have HBT:=hid (ZbI b l d x true s S w hl ha h);have hin:=ZaH (l:=l) d true ha;have hmk:(Zp l d true s).2.marks=s.marks:=by unfold Zp;split;rfl;unfold ZR;split<;>rfl
 have htl:(Zp l d true s).1.length≤99000:=by
  unfold Zp;split
  ·simp
  ·have:=ZcK l d true (l.length+1) s.at_ [];simp only[List.length_nil]at this;simp only;omega
 unfold Zak;simp only;obtain⟨p0,ms,e0⟩:=s;obtain⟨mv,h⟩:=h;have rr:=Zd h.blk;have H:=hid h;simp only at ha hm rr hmk⊢;obtain⟨B,hB⟩:∃B,Zp l d true ⟨p0,ms,e0⟩=B:=⟨_,rfl⟩;obtain⟨T,s1⟩:=B;rw[hB]at HBT hin hmk htl⊢;obtain⟨p1,ms1,e1⟩:=s1;simp only at HBT hin hmk htl⊢;subst hmk;have HS:=hid hS;have HO:=hid hO;have HE:=hid hE;have HW:=hid hW;have HSW:=hid hSW;clear h hB hS hO hE hW hSW;have hsz:w.heap.size=w.heap.size:=rfl;by_cases h1:e1=0
 ·subst h1;by_cases hT:T=[]
  ·subst hT;simp only[and_self,if_true];rw[ZaO rfl];simp only[ne_eq,(by decide:¬(2:Int)=0),not_false_eq_true,if_true];go_enter Tryz.func119,Tryz.ntmps119
   go_wp2_with fail
   refine HBT.out.mono ?_;rintro z w1 ⟨rfl,h1,st1⟩;clear rr;have H1:=hid h1;have ST1:=hid st1;clear h1 st1
   go_wp2_with fail
   refine(cm_ok b l x _ S w1 H1.out).mono ?_;rintro z w2 ⟨rfl,f2⟩
   go_wp2_with fail
   refine(cm_fail b l x _ S 2 p0 w2 (H1.out.on f2)).mono ?_;rintro z w3 ⟨rfl,h3,st3⟩;rw[ZaO rfl]at h3
   go_wp2_with fail
   refine(cm_ok b l x _ S w3 h3).mono ?_;rintro z w4 ⟨rfl,f4⟩;go_wp2
   go_ret2
   exact⟨.nilIface,S,rfl,by rw[RN],h3.on f4,(ST1.out.trans (Stp.of f2)).trans (st3.trans (Stp.of f4))⟩
  ·simp only[hT,and_false,if_false,ne_eq,not_true_eq_false];have hemp:T.isEmpty=false:=by cases T with|nil=>exact absurd rfl hT|cons _ _=>rfl
   have HPE:=hid (fun w' hE=>Ze8 T x w' (by omega) hE);have HMK:=hid (fun(n:Nd) (r:RxS) (h:Zah prg x T=.inr (n,r))=>parseD_marks h);have HER:=hid (fun(z:Int×Nat) (h:Zah prg x T=.inl z)=>parseD_err h);obtain⟨R,hR⟩:∃R,Zah prg x T=R:=⟨_,rfl⟩;rw[hR]at HPE HMK HER⊢;obtain⟨fn,hfn⟩:∃fn,(if x then 178 else 179)=fn:=⟨_,rfl⟩;have hfn':fn=178∨fn=179:=by rw[←hfn];exact .inr rfl
   rw[hfn]at HPE;have HPA:=hid (fun p m e w' h=>by have:=Zi8 b l x (⟨p,m,e⟩:AdS) S w' h;rw[hfn]at this;exact this);clear hR hfn hT;rcases hfn' with rfl|rfl
   all_goals
    go_enter Tryz.func119,Tryz.ntmps119
    go_wp2_with fail
    refine HBT.out.mono ?_;rintro z w1 ⟨rfl,h1,st1⟩;clear rr;have H1:=hid h1;have ST1:=hid st1;clear h1 st1
    go_wp2_with fail
    refine(cm_ok b l x _ S w1 H1.out).mono ?_;rintro z w2 ⟨rfl,f2⟩
    go_wp2_with fail
    refine(cm_ok b l x _ S w2 (H1.out.on f2)).mono ?_;rintro z w3 ⟨rfl,f3'⟩;have f3:=f2.trans' f3';clear f2 f3'
    go_wp2_with fail
    refine(HPA.out _ _ _ w3 (H1.out.on f3)).mono ?_;rintro z w4 ⟨rfl,f4'⟩;have F4:=hid (f3.trans' f4');clear f3 f4';have HE4:=hid (HE.out.on ((ST1.out.trans (Stp.of F4.out)).from HW.out HSW.out))
    go_wp2_with fail
    refine(HPE.out w4 HE4.out).mono ?_;intro z w5 hz;cases R with
    |inl y=>
     obtain⟨y,py⟩:=y;obtain⟨f5,rfl⟩:=hz;have hy0:¬y=0:=HER.out (y,py) rfl;have hy1:(y !=0)=true:=by simpa using hy0
     have f45:=F4.out.trans' f5
     go_wp2_with fail
     refine(cm_fail b l x _ S y p0 w5 (H1.out.on f45)).mono ?_;rintro z w6 ⟨rfl,h6,st6⟩;have H6:=hid h6;have ST6:=hid (ST1.out.trans ((Stp.of f45).trans st6));clear h6 st6 f45 f5
     go_wp2_with fail
     go_loopw [50] (fun i wr=>i=.int .i64 0∧wr=w6) (fun _ _=>0)
     case atStart=>exact⟨rfl,rfl⟩
     case round=>
      obtain⟨rfl,rfl⟩:=hrel;go_wp2
      go_ret2
      exact⟨.nilIface,S,rfl,by rw[RN],H6.out,ST6.out⟩
    |inr y=>
     obtain⟨n,r⟩:=y;obtain⟨f5,v,mvP,rfl,rn5,hmP,hnw⟩:=hz;obtain⟨hmk,hml,_⟩:=HMK.out n r rfl;obtain⟨aP,cP,hmv⟩:=Zb hmP;subst hmv;have hmk':∀i (h:i<r.marks.length),r.marks[i].1≤T.length:=fun i h=>hmk _ (List.getElem_mem h);have hrl:r.marks.length≤99000:=Nat.le_trans hml htl;have h5:=H1.out.on (F4.out.trans' f5);have sz4:=F4.out.size;have sz1:=ST1.out.fr.size;obtain⟨RM,hRM⟩:∃RM,r.marks=RM:=⟨_,rfl⟩;have hmP0:=hmP;have HMP:=hid (show OwM w5 RM (.slice aP RM.length cP) by rw[←hRM];exact hmP0);have HMK':=hid (show∀i (h:i<RM.length),RM[i].1≤T.length by rw[←hRM];exact hmk');have RN5:=hid rn5;have H5:=hid h5;have hrl':RM.length≤99000:=by rw[←hRM];exact hrl
     have ST5:=hid (ST1.out.trans ((Stp.of F4.out).trans (Stp.of f5)));have F5:=hid f5;have SZ:=hid (show w.heap.size≤w4.heap.size by omega);have sh:=rn5.shape;have hgoal:(⟨p1,ms1++r.marks.map (shM p0),0⟩:AdS)=⟨p1,ms1++RM.map (shM p0),0⟩:=by rw[hRM]
     have HG:=hid hgoal;have hlen:r.marks.length=RM.length:=by rw[hRM]
     rw[hlen];rw[hlen]at hnw;have HNW:=hid hnw;clear hmk hml hmk' hmP hmP0 hnw rn5 h5 f5 hRM sz4 sz1 hgoal hrl hlen;rcases sh with rfl|⟨iv,yv,rfl⟩
     all_goals
      go_wp2_with fail
      go_loopw [50] (fun i wr=>∃(k:Nat) (S':Nat→Prop),i=.int .i64 k∧k≤RM.length∧CRd b l x ⟨p1,ms1++(RM.take k).map (shM p0),0⟩ S' wr∧Stp S w5 S' wr) (fun i _=>RM.length-(intOf i).toNat)
      case atStart=>exact⟨0,S,rfl,Nat.zero_le _,by simpa using H5.out,Stp.refl _ _⟩
      case round=>
       obtain⟨k,S',rfl,hk,hA,hst⟩:=hrel;have HA:=hid hA;have HST:=hid hst;clear hA hst;by_cases hlt:k<RM.length
       ·have hMk:=HMK'.out k hlt;have htk:=ZgR p0 RM hlt;have hmP:OwM wr RM (.slice aP RM.length cP):=ownsRow_fr HMP.out HST.out.fr (fun j hj hx=>by have:=HNW.out j hj;have:=HS.out j hx;have:=SZ.out;omega);obtain⟨g,cap,hg1,hglt,hc0,hc1⟩:=hmP.get hlt;injection hg1 with hg1 hg2 hg3;subst hg1;subst hg3;obtain⟨m1,hm1⟩:∃m1,RM[k].1=m1:=⟨_,rfl⟩;obtain⟨m2,hm2⟩:∃m2,RM[k].2=m2:=⟨_,rfl⟩;rw[hm1]at hc0 hMk htk;rw[hm2]at hc1 htk;have hwr:IntKind.i64.wrap ((p0:Int)+(m1:Int))=((p0+m1:Nat):Int):=by rw[IntWalk.i64_in _ (by omega)];omega
        have HTK:=hid htk;have HLL:=hid (show(ms1++(RM.take k).map (shM p0)).length≤1000000 by rw[List.length_append,List.length_map,List.length_take];omega);have hkl:(k:Int)<RM.length:=by omega
        clear hmP htk hm1 hm2 hg2
        go_wp2_with fail
        refine(cm_mark b l x _ S' (p0+m1) m2 _ HLL.out (HA.out.on ((Fr.refl _ _).alloc _))).mono ?_;rintro z w7 ⟨rfl,S'',h7,st7⟩;have H7:=hid h7;have ST7:=hid (HST.out.trans ((Stp.of ((Fr.refl nob wr).alloc _)).trans st7));clear h7 st7;go_wp2
        go_roundw
        case rel=>exact⟨k+1,S'',by go_num,by omega,by rw[HTK.out,←List.append_assoc];exact H7.out,ST7.out⟩
        case measure=>simp[intOf];omega
       ·obtain rfl:k=RM.length:=by omega
        go_wp2
        go_ret2
        have hrd:=HA.out;rw[List.take_of_length_le (Nat.le_refl _)]at hrd;refine⟨_,S',rfl,?_,?_,ST5.out.trans HST.out⟩
        ·exact RN.keep HST.out.fr (fun j _ hj=>by have:=HS.out j hj;have:=SZ.out;show j<_;omega) (fun j hj hx=>by have:=SZ.out;rcases hx with hx|hx;have h1:=HST.out.old j hj hx;have:=HS.out j h1;(show j<_;omega);have:=HO.out j hx;(show j<_;omega)) _ _ RN5.out
        ·show CRd b l x ⟨p1,ms1++r.marks.map (shM p0),0⟩ S' wr;rw[HG.out];exact hrd
 ·have h1':¬(e1=0∧T=[]):=fun h=>h1 h.1;have e1b:(e1==0)=false:=by simpa using h1
  simp only[if_neg h1',ne_eq,h1,not_false_eq_true,if_true];go_enter Tryz.func119,Tryz.ntmps119
  go_wp2_with fail
  refine HBT.out.mono ?_;rintro z w1 ⟨rfl,h1,st1⟩;clear rr;have H1:=hid h1;have ST1:=hid st1;clear h1 st1
  go_wp2_with fail
  refine(cm_ok b l x _ S w1 H1.out).mono ?_;rintro z w2 ⟨rfl,f2⟩;simp only[e1b]
  go_wp2_with fail
  refine(cm_ok b l x _ S w2 (H1.out.on f2)).mono ?_;rintro z w3 ⟨rfl,f3⟩;simp only[e1b];go_wp2
  go_ret2
  exact⟨.nilIface,S,rfl,by rw[RN],(H1.out.on f2).on f3,ST1.out.trans ((Stp.of f2).trans (Stp.of f3))⟩
end Go.Proofs.YtkfddjopbocpkaaGreatDoor
