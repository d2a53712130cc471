/-
  Merged texts of this claim: CmdI.
-/
import Derived.Test.YtkfddjopbocpkaaGreatDoorM29
set_option linter.unusedVariables false
set_option linter.unusedSimpArgs false
set_option maxRecDepth 100000
set_option maxHeartbeats 4000000
namespace Go.Proofs.YtkfddjopbocpkaaGreatDoor
open Go.Lib (hid)
open Go.RowKit
def Tb(g:Nat)(bs:List UInt8)(w:World):Prop:=w.heap[g]? =some (.cells (ZS bs).toArray 202 (0,0))
theorem ZhL(bs:List UInt8)(k:Nat)(c:UInt8):(ZS bs).toArray.setIfInBounds k (ZdI c)=(ZS (bs.set k c)).toArray:=by
 unfold ZS;rw[List.setIfInBounds_toArray,List.map_set]
theorem Tb.cell{g k:Nat}{bs:List UInt8}{w:World}(h:Tb g bs w)(hk:k<bs.length):w.cell? ⟨g,k,none⟩=some (.int .u8 (bs[k].toNat:Int))∧w.frozen? ⟨g,k,none⟩=false:=by
 refine⟨cell_at h ?_,unfrozen_at h k⟩;simp[ZS,ZdI,hk]
theorem Tb.set{g:Nat}{bs:List UInt8}{w:World}(h:Tb g bs w)(k:Nat)(c:UInt8):Tb g (bs.set k c) (w.setCell ⟨g,k,none⟩ (.int .u8 (c.toNat:Int))):=by
 have:=Za h k (.int .u8 (c.toNat:Int));unfold Tb;rw[←ZhL];exact this
theorem Tb.ne{g g' k:Nat}{bs:List UInt8}{w:World}(h:Tb g bs w)(hg:g≠g')(v:Value):Tb g bs (w.setCell ⟨g',k,none⟩ v):=Zc (p:=⟨g',k,none⟩) h hg v
theorem Tb.on{g:Nat}{bs:List UInt8}{w w':World}(h:Tb g bs w)(f:Fr nob w w'):Tb g bs w':=f.heap h (fun x=>x)
def idk(k:Nat):List UInt8:=(List.range k).map UInt8.ofNat++List.replicate (256-k) 0
theorem Zjd{k:Nat}(h:k≤256):(idk k).length=256:=by unfold idk;simp;omega
theorem ZlN{k:Nat}(h:k<256):(idk k).set k (UInt8.ofNat k)=idk (k+1):=by
 unfold idk;rw[ZdF _ k 0 (by simp),List.range_succ,List.map_append,show 256-k=(256-(k+1))+1 by omega,List.replicate_succ,List.append_assoc];rfl
theorem Zje:idk 256=ZhD:=by unfold idk ZhD;simp
def cntY(seen:List UInt8):List UInt8:=(List.range 256).map fun j=>if seen.contains (UInt8.ofNat j)then 1 else 0
theorem cntY_len(seen:List UInt8):(cntY seen).length=256:=by simp[cntY]
theorem ZlO(seen:List UInt8)(a:UInt8):(cntY seen)[a.toNat]'(by rw[cntY_len];exact a.toNat_lt)=if seen.contains a then 1 else 0:=by
 unfold cntY;rw[List.getElem_map,List.getElem_range];simp
theorem Zkr:cntY []=List.replicate 256 0:=by kernel_rfl
theorem Zks(seen:List UInt8)(a:UInt8):(cntY seen).set a.toNat 1=cntY (seen++[a]):=by
 apply List.ext_getElem
 ·rw[List.length_set,cntY_len,cntY_len]
 ·intro j h1 h2;rw[cntY_len]at h2;simp only[cntY,List.getElem_map,List.getElem_range,List.getElem_set];by_cases h:a.toNat=j
  ·subst h;simp
  ·rw[if_neg h];have hne:UInt8.ofNat j≠a:=fun e=>h (by rw[←e];simp;omega);have:(seen++[a]).contains (UInt8.ofNat j)=seen.contains (UInt8.ofNat j):=by
    rw[List.contains_append];simp[hne]
   rw[this]
theorem ZlP{la lb:List UInt8}{k:Nat}(h1:k<la.length)(h2:k<lb.length)(seen out:List UInt8):ZlD ((la.zip lb).drop k) seen out=if seen.contains la[k]then([],false)else ZlD ((la.zip lb).drop (k+1)) (seen++[la[k]]) (out.set la[k].toNat lb[k]):=by
 have hz:k<(la.zip lb).length:=by rw[List.length_zip];omega
 rw[List.drop_eq_getElem_cons hz,List.getElem_zip,ZlD]
theorem zc256:Tryz.zeroCells202=(ZS (List.replicate 256 0)).toArray:=by kernel_rfl
theorem Zch:∀(l:List UInt8) (e:Bool) (out:List UInt8),(Zbd l e out).1.length≤out.length+l.length
 |[],e,out=>by unfold Zbd;cases e<;>simp
 |c::r,e,out=>by
  unfold Zbd;have h1:=Zch r true out;have h2:=Zch r false (out++[10]);have h3:=Zch r false (out++[c]);simp only[List.length_append,List.length_cons,List.length_nil]at h1 h2 h3⊢
  repeat' split
  all_goals first|omega|(simp;done)|(simp;omega)
theorem Zkt:idk 0=List.replicate 256 0:=rfl
theorem Zku(b:Nat)(l:List UInt8)(x:Bool)(s:AdS)(S:Nat→Prop)(w:World)(hl:l.length≤99000)(ha:s.at_≤l.length)(hS:∀k,S k→k<w.heap.size)(h:CRd b l x s S w):
 Calls Tryz.prog 93 #[.pointer (some ⟨b,0,none⟩)] w fun r w'=>r=.returned (.string ⟨(ZaB l s).1.toArray⟩)∧CRd b l x (ZaB l s).2 S w'∧Stp S w S w':=by
 have HDL:=hid (Zg0 b l x s S w hl ha h);have hdin:=ZaN (l:=l) ha;unfold ZaB;simp only;obtain⟨DL,hDL⟩:∃DL,Zs l s=DL:=⟨_,rfl⟩;obtain⟨d,s1⟩:=DL;rw[hDL]at HDL hdin⊢;simp only at HDL hdin⊢;have HB1:=hid (fun w' h=>ZbI b l d x false s1 S w' hl hdin h);have hbl:=Zdi (l:=l) (d:=d) (rx:=false) (s:=s1);have hbi:=ZaH (l:=l) (s:=s1) d false hdin;obtain⟨BT,hBT⟩:∃BT,Zp l d false s1=BT:=⟨_,rfl⟩;obtain⟨tf,s2⟩:=BT;rw[hBT]at HB1 hbl hbi⊢;simp only at HB1 hbl hbi⊢;have HB2:=hid (fun w' h=>ZbI b l d x false s2 S w' hl hbi h);have hbl2:=Zdi (l:=l) (d:=d) (rx:=false) (s:=s2);obtain⟨BT2,hBT2⟩:∃BT2,Zp l d false s2=BT2:=⟨_,rfl⟩;obtain⟨tt,s3⟩:=BT2;rw[hBT2]at HB2 hbl2⊢;simp only at HB2 hbl2⊢;clear hDL hBT hBT2 h ha;have HL1:=hid (fun w'=>cm_list tf w' (by omega));have HL2:=hid (fun w'=>cm_list tt w' (by omega));have hla:=Zch tf false [];obtain⟨LA,hLA⟩:∃LA,Zbd tf false []=LA:=⟨_,rfl⟩
 obtain⟨LB,hLB⟩:∃LB,Zbd tt false []=LB:=⟨_,rfl⟩;obtain⟨la,oa⟩:=LA;obtain⟨lb,ob⟩:=LB;rw[hLA]at HL1 hla⊢;rw[hLB]at HL2⊢;simp only at HL1 HL2 hla⊢;have hla':la.length≤99000:=by simp at hla;omega
 by_cases h3:s3.e=0
 ·have hif3:¬s3.e≠0:=fun h=>h h3;simp only[if_neg hif3];have e3:(s3.e==0)=true:=by simpa using h3
  by_cases hc:oa=false∨ob=false∨la.length≠lb.length
  ·simp only[if_pos hc];cases oa with
   |false=>
    go_enter Tryz.func93,Tryz.ntmps93
    go_wp2_with fail
    refine HDL.out.mono ?_;rintro z w1 ⟨rfl,h1,st1⟩;have H1:=hid h1;have ST1:=hid st1;clear h1 st1
    go_wp2_with fail
    refine(HB1.out w1 H1.out).mono ?_;rintro z w2 ⟨rfl,h2,st2⟩;obtain⟨mv2,hm2⟩:=h2;have r2:=Zd hm2.blk _ (Fr.refl _ _);have H2:=hid (show CRd b l x s2 S w2 from⟨mv2,hm2⟩);have ST2:=hid (ST1.out.trans st2);clear hm2 st2
    go_wp2_with fail
    refine(HB2.out w2 H2.out).mono ?_;rintro z w3 ⟨rfl,h3',st3⟩;have H3:=hid h3';have ST3:=hid (ST2.out.trans st3);clear h3' st3 r2
    go_wp2_with fail
    refine(cm_ok b l x s3 S w3 H3.out).mono ?_;rintro z w4 ⟨rfl,f4⟩;have F4:=hid f4;clear f4;simp only[e3]
    go_wp2_with fail
    refine(HL1.out w4).mono ?_;rintro z w5 ⟨rfl,f5⟩;have F5:=hid (F4.out.trans' f5);clear f5
    go_wp2_with fail
    refine(HL2.out w5).mono ?_;rintro z w6 ⟨rfl,f6⟩;have F6:=hid (F5.out.trans' f6);have H6:=hid (H3.out.on F6.out);have ST6:=hid (ST3.out.trans (Stp.of F6.out));clear f6;have HF:=hid (cm_fail b l x s3 S 18 s2.at_ w6 H6.out)
    go_wp2_with fail
    refine HF.out.mono ?_;rintro z w8 ⟨rfl,h8,st8⟩;have H8:=hid h8;have ST8:=hid (ST6.out.trans st8);clear h8 st8;go_wp2;go_ret;exact⟨rfl,H8.out,ST8.out⟩
   |true=>
    cases ob with
    |false=>
     go_enter Tryz.func93,Tryz.ntmps93
     go_wp2_with fail
     refine HDL.out.mono ?_;rintro z w1 ⟨rfl,h1,st1⟩;have H1:=hid h1;have ST1:=hid st1;clear h1 st1
     go_wp2_with fail
     refine(HB1.out w1 H1.out).mono ?_;rintro z w2 ⟨rfl,h2,st2⟩;obtain⟨mv2,hm2⟩:=h2;have r2:=Zd hm2.blk _ (Fr.refl _ _);have H2:=hid (show CRd b l x s2 S w2 from⟨mv2,hm2⟩);have ST2:=hid (ST1.out.trans st2);clear hm2 st2
     go_wp2_with fail
     refine(HB2.out w2 H2.out).mono ?_;rintro z w3 ⟨rfl,h3',st3⟩;have H3:=hid h3';have ST3:=hid (ST2.out.trans st3);clear h3' st3 r2
     go_wp2_with fail
     refine(cm_ok b l x s3 S w3 H3.out).mono ?_;rintro z w4 ⟨rfl,f4⟩;have F4:=hid f4;clear f4;simp only[e3]
     go_wp2_with fail
     refine(HL1.out w4).mono ?_;rintro z w5 ⟨rfl,f5⟩;have F5:=hid (F4.out.trans' f5);clear f5
     go_wp2_with fail
     refine(HL2.out w5).mono ?_;rintro z w6 ⟨rfl,f6⟩;have F6:=hid (F5.out.trans' f6);have H6:=hid (H3.out.on F6.out);have ST6:=hid (ST3.out.trans (Stp.of F6.out));clear f6;have HF:=hid (cm_fail b l x s3 S 18 s2.at_ w6 H6.out)
     go_wp2_with fail
     refine HF.out.mono ?_;rintro z w8 ⟨rfl,h8,st8⟩;have H8:=hid h8;have ST8:=hid (ST6.out.trans st8);clear h8 st8;go_wp2;go_ret;exact⟨rfl,H8.out,ST8.out⟩
    |true=>
     have hlc:((la.length:Int) !=(lb.length:Int))=true:=by
      rcases hc with h|h|h
      ·cases h
      ·cases h
      ·simp;omega
     clear hc;go_enter Tryz.func93,Tryz.ntmps93
     go_wp2_with fail
     refine HDL.out.mono ?_;rintro z w1 ⟨rfl,h1,st1⟩;have H1:=hid h1;have ST1:=hid st1;clear h1 st1
     go_wp2_with fail
     refine(HB1.out w1 H1.out).mono ?_;rintro z w2 ⟨rfl,h2,st2⟩;obtain⟨mv2,hm2⟩:=h2;have r2:=Zd hm2.blk _ (Fr.refl _ _);have H2:=hid (show CRd b l x s2 S w2 from⟨mv2,hm2⟩);have ST2:=hid (ST1.out.trans st2);clear hm2 st2
     go_wp2_with fail
     refine(HB2.out w2 H2.out).mono ?_;rintro z w3 ⟨rfl,h3',st3⟩;have H3:=hid h3';have ST3:=hid (ST2.out.trans st3);clear h3' st3 r2
     go_wp2_with fail
     refine(cm_ok b l x s3 S w3 H3.out).mono ?_;rintro z w4 ⟨rfl,f4⟩;have F4:=hid f4;clear f4;simp only[e3]
     go_wp2_with fail
     refine(HL1.out w4).mono ?_;rintro z w5 ⟨rfl,f5⟩;have F5:=hid (F4.out.trans' f5);clear f5
     go_wp2_with fail
     refine(HL2.out w5).mono ?_;rintro z w6 ⟨rfl,f6⟩;have F6:=hid (F5.out.trans' f6);have H6:=hid (H3.out.on F6.out);have ST6:=hid (ST3.out.trans (Stp.of F6.out));clear f6;have HF:=hid (cm_fail b l x s3 S 18 s2.at_ w6 H6.out)
     go_wp2_with fail
     refine HF.out.mono ?_;rintro z w8 ⟨rfl,h8,st8⟩;have H8:=hid h8;have ST8:=hid (ST6.out.trans st8);clear h8 st8;go_wp2;go_ret;exact⟨rfl,H8.out,ST8.out⟩
  ·simp only[if_neg hc];have hoa:oa=true:=by cases oa with|true=>rfl|false=>exact absurd (.inl rfl) hc
   have hob:ob=true:=by cases ob with|true=>rfl|false=>exact absurd (.inr (.inl rfl)) hc
   have hll:la.length=lb.length:=Classical.byContradiction fun h=>hc (.inr (.inr h));subst hoa;subst hob;have hlc:((la.length:Int) !=(lb.length:Int))=false:=by rw[hll];simp
   clear hc;obtain⟨TT,hTT⟩:∃TT,ZlD (la.zip lb) [] ZhD=TT:=⟨_,rfl⟩;rw[hTT];obtain⟨tt1,tt2⟩:=TT;have HTT:=hid hTT;clear hTT;go_enter Tryz.func93,Tryz.ntmps93
   go_wp2_with fail
   refine HDL.out.mono ?_;rintro z w1 ⟨rfl,h1,st1⟩;have H1:=hid h1;have ST1:=hid st1;clear h1 st1
   go_wp2_with fail
   refine(HB1.out w1 H1.out).mono ?_;rintro z w2 ⟨rfl,h2,st2⟩;obtain⟨mv2,hm2⟩:=h2;have r2:=Zd hm2.blk _ (Fr.refl _ _);have H2:=hid (show CRd b l x s2 S w2 from⟨mv2,hm2⟩);have ST2:=hid (ST1.out.trans st2);clear hm2 st2
   go_wp2_with fail
   refine(HB2.out w2 H2.out).mono ?_;rintro z w3 ⟨rfl,h3',st3⟩;have H3:=hid h3';have ST3:=hid (ST2.out.trans st3);clear h3' st3 r2
   go_wp2_with fail
   refine(cm_ok b l x s3 S w3 H3.out).mono ?_;rintro z w4 ⟨rfl,f4⟩;have F4:=hid f4;clear f4;simp only[e3]
   go_wp2_with fail
   refine(HL1.out w4).mono ?_;rintro z w5 ⟨rfl,f5⟩;have F5:=hid (F4.out.trans' f5);clear f5
   go_wp2_with fail
   refine(HL2.out w5).mono ?_;rintro z w6 ⟨rfl,f6⟩;have F6:=hid (F5.out.trans' f6);clear f6
   go_wp2_with fail
   rw[zc256];obtain⟨w7,hw7⟩:∃w7,w7=(w6.alloc (.cells (ZS (List.replicate 256 0)).toArray 202)).alloc (.cells (ZS (List.replicate 256 0)).toArray 202):=⟨_,rfl⟩;have t1:Tb w6.heap.size (idk 0) w7:=by unfold Tb;rw[Zkt,hw7];exact Ze _ (newAt _ _)
   have t2:Tb (w6.heap.size+1) (cntY []) w7:=by unfold Tb;rw[Zkr,hw7];exact Zh _ _ _ (by simp)
   have f7:Fr nob w6 w7:=by rw[hw7];exact((Fr.refl _ _).alloc _).alloc _
   rw[←hw7];have T1:=hid t1;have T2:=hid t2;have F7:=hid f7;clear t1 t2 f7 hw7
   go_loopw [56] (fun i wr=>∃k:Nat,i=.int .i64 k∧k≤256∧Tb w6.heap.size (idk k) wr∧Tb (w6.heap.size+1) (cntY []) wr∧Fr (fun j=>j=w6.heap.size) w7 wr) (fun i _=>256-(intOf i).toNat)
   case atStart=>exact⟨0,rfl,by omega,T1.out,T2.out,Fr.refl _ _⟩
   case round=>
    obtain⟨k,rfl,hk,a1,a2,fr⟩:=hrel;have A1:=hid a1;have A2':=hid a2;have FR:=hid fr;clear a1 a2 fr;by_cases hlt:k<256
    ·have hw8:IntKind.u8.wrap (k:Int)=k:=IntWalk.u8_in _ (by omega);obtain⟨c1,c2⟩:=A1.out.cell (k:=k) (by rw[Zjd hk];exact hlt);have hkn:((UInt8.ofNat k).toNat:Int)=k:=by simp;omega
     have hs1:=A1.out.set k (UInt8.ofNat k);rw[hkn,ZlN hlt]at hs1;have hs2:=A2'.out.ne (k:=k) (g':=w6.heap.size) (by omega) (.int .u8 (k:Int));have HS1:=hid hs1;have HS2:=hid hs2;have FR2:=hid (FR.out.setCell (p:=⟨w6.heap.size,k,none⟩) (fun _=>rfl) (.int .u8 (k:Int)));clear hs1 hs2 hkn;go_wp2
     go_roundw
     case rel=>exact⟨k+1,by go_num,by omega,HS1.out,HS2.out,FR2.out⟩
     case measure=>simp[intOf];omega
    ·obtain rfl:k=256:=by omega
     have A1b:=A1.out;rw[Zje]at A1b;have A1c:=hid A1b;have FW:=hid (FR.out.weak (T:=fun j=>j=w6.heap.size∨j=w6.heap.size+1) (fun j hj=>.inl hj));have hidl:ZhD.length=256:=by rw[←Zje];exact Zjd (by omega)
     clear A1b A1 FR
     go_wp2_with fail
     go_loopw [66] (fun i wq=>∃(k:Nat) (out:List UInt8),i=.int .i64 k∧k≤la.length∧out.length=256∧ZlD ((la.zip lb).drop k) (la.take k) out=(tt1,tt2)∧Tb w6.heap.size out wq∧Tb (w6.heap.size+1) (cntY (la.take k)) wq∧Fr (fun j=>j=w6.heap.size∨j=w6.heap.size+1) w7 wq) (fun i _=>la.length-(intOf i).toNat)
     case atStart=>exact⟨0,ZhD,rfl,Nat.zero_le _,hidl,HTT.out,A1c.out,A2'.out,FW.out⟩
     case round=>
      obtain⟨k,out,rfl,hk,hol,hL,b1,b2,fr⟩:=hrel;have B1:=hid b1;have B2:=hid b2;have FR:=hid fr;have HL:=hid hL;clear b1 b2 fr hL A1c A2' FW HTT;by_cases hlt:k<la.length
      ·have hltb:k<lb.length:=by omega
       have hkl:(k:Int)<la.length:=by omega
       have hklb:(k:Int)<lb.length:=by omega
       have hL:=HL.out;rw[ZlP hlt hltb]at hL;obtain⟨a,haa⟩:∃a,la[k]=a:=⟨_,rfl⟩;obtain⟨c,hcc⟩:∃c,lb[k]=c:=⟨_,rfl⟩;have HA:=hid haa;have HC:=hid hcc;rw[haa,hcc]at hL;have htk:la.take (k+1)=la.take k++[a]:=by rw[List.take_succ_eq_append_getElem hlt,haa]
       have HTK:=hid htk;obtain⟨ab0,ab1⟩:=Zb1 a;have habn:a.toNat<256:=a.toNat_lt;obtain⟨c1,c2⟩:=B2.out.cell (k:=a.toNat) (by rw[cntY_len];exact habn);rw[ZlO]at c1;have ha256:(a.toNat:Int)<256:=by omega
       clear haa hcc htk ab1;by_cases hsn:(la.take k).contains a=true
       ·rw[if_pos hsn]at hL c1;injection hL with q1 q2;subst q1;subst q2;have hS2:=B2.out.set a.toNat 2;obtain⟨d1,d2⟩:=hS2.cell (k:=a.toNat) (by rw[List.length_set,cntY_len];exact habn);rw[List.getElem_set_self]at d1;obtain⟨wS,hwS⟩:∃wS,wS=wr.setCell ⟨w6.heap.size+1,a.toNat,none⟩ (.int .u8 2):=⟨_,rfl⟩;have fS:Fr (fun j=>j=w6.heap.size∨j=w6.heap.size+1) w7 wS:=by rw[hwS];exact FR.out.setCell (p:=⟨w6.heap.size+1,a.toNat,none⟩) (fun _=>.inr rfl) _
        have d1:wS.cell? ⟨w6.heap.size+1,a.toNat,none⟩=some (.int .u8 2):=by rw[hwS];exact d1
        have d2:wS.frozen? ⟨w6.heap.size+1,a.toNat,none⟩=false:=by rw[hwS];exact d2
        have c1:wr.cell? ⟨w6.heap.size+1,a.toNat,none⟩=some (.int .u8 1):=c1;have HWS:=hid hwS;have FS:=hid fS;have hSS:∀j,(j=w6.heap.size∨j=w6.heap.size+1)→¬S j:=fun j hj hx=>by
         have:=hS j hx;have:=ST3.out.fr.size;have:=F6.out.size;rcases hj with hj|hj<;>omega
        have fsz:∀i,i<w6.heap.size→¬(i=w6.heap.size∨i=w6.heap.size+1):=fun i hi hx=>by rcases hx with hx|hx<;>omega
        have f6S:Fr nob w6 wS:=F7.out.trans FS.out (fun i hi x=>(fsz i hi x).elim);have f3S:=F6.out.trans' f6S;have stS:=ST3.out.trans (Stp.of f3S);have hS:=H3.out.on f3S;have HF:=hid (cm_fail b l x s3 S 15 s2.at_ wS hS);have STS:=hid stS;clear hwS fS hS2 HL hsn f6S f3S stS hS fsz
        go_wp2_with(first|rw[HA.out]|rw[←HWS.out])
        refine HF.out.mono ?_;rintro z w8 ⟨rfl,h8,st8⟩;have H8:=hid h8;have ST8:=hid (STS.out.trans st8);clear h8 st8;go_wp2;go_ret;exact⟨rfl,H8.out,ST8.out⟩
       ·rw[if_neg hsn]at hL c1;have hS2:=B2.out.set a.toNat 1;obtain⟨d1,d2⟩:=hS2.cell (k:=a.toNat) (by rw[List.length_set,cntY_len];exact habn);rw[List.getElem_set_self]at d1;rw[Zks,←HTK.out]at hS2;obtain⟨wS,hwS⟩:∃wS,wS=wr.setCell ⟨w6.heap.size+1,a.toNat,none⟩ (.int .u8 1):=⟨_,rfl⟩;have fS:Fr (fun j=>j=w6.heap.size∨j=w6.heap.size+1) w7 wS:=by rw[hwS];exact FR.out.setCell (p:=⟨w6.heap.size+1,a.toNat,none⟩) (fun _=>.inr rfl) _
        have d1:wS.cell? ⟨w6.heap.size+1,a.toNat,none⟩=some (.int .u8 1):=by rw[hwS];exact d1
        have d2:wS.frozen? ⟨w6.heap.size+1,a.toNat,none⟩=false:=by rw[hwS];exact d2
        have c1:wr.cell? ⟨w6.heap.size+1,a.toNat,none⟩=some (.int .u8 0):=c1;have tS2:Tb (w6.heap.size+1) (cntY (la.take (k+1))) wS:=by rw[hwS];exact hS2
        have tS1:Tb w6.heap.size out wS:=by rw[hwS];exact B1.out.ne (by omega) _
        have HWS:=hid hwS;have FS:=hid fS;have TS2:=hid tS2;have TS1:=hid tS1;have HL':=hid hL;clear hwS fS hS2 tS1 tS2 hL
        go_wp2_with(first|rw[HA.out]|rw[←HWS.out])
        refine region_fr 6 (by kernel_rfl) (by kernel_rfl) ?_;simp only[List.take_succ_cons,List.take_zero,List.drop_succ_cons,List.drop_zero]
        repeat(quiet_step (fail))
        refine wpQuiet_nil ?_;intro w8 f8;have ts1:=TS1.out.on f8;obtain⟨e1,e2⟩:=ts1.cell (k:=a.toNat) (by rw[hol];exact habn);have TN1:=hid (ts1.set a.toNat c);have TN2:=hid ((TS2.out.on f8).ne (g':=w6.heap.size) (k:=a.toNat) (by omega) (.int .u8 (c.toNat:Int)));have FN:=hid ((FS.out.trans f8 (fun _ _ x=>x.elim)).setCell (p:=⟨w6.heap.size,a.toNat,none⟩) (fun _=>.inl rfl) (.int .u8 (c.toNat:Int)));clear f8 ts1
        go_wp2_with(first|rw[HA.out]|rw[HC.out])
        refine⟨?_,?_⟩
        ·(repeat apply Exists.intro)
         refine⟨⟨k+1,out.set a.toNat c,by go_num,by omega,by rw[List.length_set];exact hol,by rw[HTK.out];exact HL'.out,TN1.out,TN2.out,FN.out⟩,rfl⟩
        ·simp[intOf];omega
      ·obtain rfl:k=la.length:=by omega
       have hL:=HL.out;rw[List.drop_eq_nil_of_le (by rw[List.length_zip];omega)]at hL;injection hL with q1 q2;subst q1;subst q2;have hbl0:(ZS out).length=256:=by rw[Zbf,hol]
       have hcv:=run_conv_bytes Tryz.underlying22 Tryz.underlying5 Tryz.underlying9 ⟨w6.heap.size,0,none⟩ 256 out wr (fun j v hj=>by
        have hj1:j<out.length:=by
         have:=(List.getElem?_eq_some_iff.1 hj).1;rw[Zbf]at this;exact this
        have h0:=(B1.out.cell hj1).1;have h1:v=.int .u8 (out[j].toNat:Int):=by
         rw[ZS,List.getElem?_map,List.getElem?_eq_getElem hj1]at hj;injection hj with hj;exact hj.symm
        have h2:(⟨w6.heap.size,0,none⟩:Addr).add j=⟨w6.heap.size,j,none⟩:=by simp[Addr.add];intro h;exact h.symm
        rw[h1,h2];exact h0)
       rw[hol]at hcv;have HCV:=hid hcv;have fr6:Fr nob w6 wr:=F7.out.trans FR.out (fun i hi x=>by rcases x with x|x<;>omega);have f3r:=F6.out.trans' fr6;have HR:=hid (H3.out.on f3r);have STR:=hid (ST3.out.trans (Stp.of f3r));clear hcv fr6 f3r
       go_wp2_with(rw[HCV.out])
       go_ret;exact⟨rfl,HR.out,STR.out⟩
 ·have hif3:s3.e≠0:=h3;simp only[if_pos hif3];have e3:(s3.e==0)=false:=by simpa using h3
  go_enter Tryz.func93,Tryz.ntmps93
  go_wp2_with fail
  refine HDL.out.mono ?_;rintro z w1 ⟨rfl,h1,st1⟩;have H1:=hid h1;have ST1:=hid st1;clear h1 st1
  go_wp2_with fail
  refine(HB1.out w1 H1.out).mono ?_;rintro z w2 ⟨rfl,h2,st2⟩;obtain⟨mv2,hm2⟩:=h2;have r2:=Zd hm2.blk _ (Fr.refl _ _);have H2:=hid (show CRd b l x s2 S w2 from⟨mv2,hm2⟩);have ST2:=hid (ST1.out.trans st2);clear hm2 st2
  go_wp2_with fail
  refine(HB2.out w2 H2.out).mono ?_;rintro z w3 ⟨rfl,h3',st3⟩;have H3:=hid h3';have ST3:=hid (ST2.out.trans st3);clear h3' st3 r2
  go_wp2_with fail
  refine(cm_ok b l x s3 S w3 H3.out).mono ?_;rintro z w4 ⟨rfl,f4⟩;have H4:=hid (H3.out.on f4);have ST4:=hid (ST3.out.trans (Stp.of f4));clear f4;simp only[e3];go_wp2;go_ret;exact⟨rfl,H4.out,ST4.out⟩
end Go.Proofs.YtkfddjopbocpkaaGreatDoor
