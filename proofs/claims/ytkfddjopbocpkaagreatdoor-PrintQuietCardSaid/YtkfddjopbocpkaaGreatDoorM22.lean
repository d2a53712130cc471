/- Lemmas of this claim. -/
import Derived.Test.YtkfddjopbocpkaaGreatDoorM21
set_option linter.unusedVariables false
set_option linter.unusedSimpArgs false
set_option maxRecDepth 100000
set_option maxHeartbeats 4000000
namespace Go.Proofs.YtkfddjopbocpkaaGreatDoor
open Go.Lib (hid)
open Go.RowKit
def Tb(g:Nat)(bs:List UInt8)(w:World):Prop:=w.heap[g]? =some (.cells (bcells bs).toArray 202 (0,0))
theorem Zjx(bs:List UInt8)(k:Nat)(c:UInt8):(bcells bs).toArray.setIfInBounds k (ZeT c)=(bcells (bs.set k c)).toArray:=by
 unfold bcells;rw[List.setIfInBounds_toArray,List.map_set]
theorem Tb.cell{g k:Nat}{bs:List UInt8}{w:World}(h:Tb g bs w)(hk:k<bs.length):w.cell? ⟨g,k,none⟩=some (.int .u8 (bs[k].toNat:Int))∧w.frozen? ⟨g,k,none⟩=false:=by
 refine⟨cell_at h ?_,unfrozen_at h k⟩;simp[bcells,ZeT,hk]
theorem Tb.set{g:Nat}{bs:List UInt8}{w:World}(h:Tb g bs w)(k:Nat)(c:UInt8):Tb g (bs.set k c) (w.setCell ⟨g,k,none⟩ (.int .u8 (c.toNat:Int))):=by
 have:=Za h k (.int .u8 (c.toNat:Int));unfold Tb;rw[←Zjx];exact this
theorem Tb.ne{g g' k:Nat}{bs:List UInt8}{w:World}(h:Tb g bs w)(hg:g≠g')(v:Value):Tb g bs (w.setCell ⟨g',k,none⟩ v):=Zc (p:=⟨g',k,none⟩) h hg v
theorem Tb.on{g:Nat}{bs:List UInt8}{w w':World}(h:Tb g bs w)(f:Fr nob w w'):Tb g bs w':=f.heap h (fun x=>x)
def idk(k:Nat):List UInt8:=(List.range k).map UInt8.ofNat++List.replicate (256-k) 0
theorem Zlh{k:Nat}(h:k≤256):(idk k).length=256:=by unfold idk;simp;omega
theorem Zot{k:Nat}(h:k<256):(idk k).set k (UInt8.ofNat k)=idk (k+1):=by
 unfold idk;rw[ZeP _ k 0 (by simp),List.range_succ,List.map_append,show 256-k=(256-(k+1))+1 by omega,List.replicate_succ,List.append_assoc];rfl
theorem Zli:idk 256=Zjp:=by unfold idk Zjp;simp
def cntY(seen:List UInt8):List UInt8:=(List.range 256).map fun j=>if seen.contains (UInt8.ofNat j)then 1 else 0
theorem cntY_len(seen:List UInt8):(cntY seen).length=256:=by simp[cntY]
theorem Zou(seen:List UInt8)(a:UInt8):(cntY seen)[a.toNat]'(by rw[cntY_len];exact a.toNat_lt)=if seen.contains a then 1 else 0:=by
 unfold cntY;rw[List.getElem_map,List.getElem_range];simp
theorem ZmO:cntY []=List.replicate 256 0:=by kernel_rfl
theorem ZmP(seen:List UInt8)(a:UInt8):(cntY seen).set a.toNat 1=cntY (seen++[a]):=by
 apply List.ext_getElem
 ·rw[List.length_set,cntY_len,cntY_len]
 ·intro j h1 h2;rw[cntY_len]at h2;simp only[cntY,List.getElem_map,List.getElem_range,List.getElem_set];by_cases h:a.toNat=j
  ·subst h;simp
  ·rw[if_neg h];have b:UInt8.ofNat j≠a:=fun e=>h (by rw[←e];simp;omega);have:(seen++[a]).contains (UInt8.ofNat j)=seen.contains (UInt8.ofNat j):=by
    rw[List.contains_append];simp[b]
   rw[this]
theorem Zov{la lb:List UInt8}{k:Nat}(h1:k<la.length)(h2:k<lb.length)(seen out:List UInt8):Zod ((la.zip lb).drop k) seen out=if seen.contains la[k]then([],false)else Zod ((la.zip lb).drop (k+1)) (seen++[la[k]]) (out.set la[k].toNat lb[k]):=by
 have hz:k<(la.zip lb).length:=by rw[List.length_zip];omega
 rw[List.drop_eq_getElem_cons hz,List.getElem_zip,Zod]
theorem zc256:Tryz.zeroCells202=(bcells (List.replicate 256 0)).toArray:=by kernel_rfl
theorem Zc0:∀(l:List UInt8) (e:Bool) (out:List UInt8),(ZbC l e out).1.length≤out.length+l.length
 |[],e,out=>by unfold ZbC;cases e<;>simp
 |c::r,e,out=>by
  unfold ZbC;have h1:=Zc0 r true out;have h2:=Zc0 r false (out++[10]);have h3:=Zc0 r false (out++[c]);simp only[List.length_append,List.length_cons,List.length_nil]at h1 h2 h3⊢
  repeat' split
  all_goals first|omega|(simp;done)|(simp;omega)
theorem ZmQ:idk 0=List.replicate 256 0:=rfl
theorem ZmR(b:Nat)(l:List UInt8)(x:Bool)(s:AdS)(S:Nat→Prop)(w:World)(hl:l.length≤99000)(ha:s.at_≤l.length)(hS:∀k,S k→k<w.heap.size)(h:CRd b l x s S w):
 Calls Tryz.prog 93 #[.pointer (some ⟨b,0,none⟩)] w fun r w'=>r=.returned (.string ⟨(ZaP l s).1.toArray⟩)∧CRd b l x (ZaP l s).2 S w'∧Stp S w S w':=by
 have F:=hid (ZiF b l x s S w hl ha h);have H:=Za7 (l:=l) ha;unfold ZaP;simp only;obtain⟨DL,b5⟩:∃DL,Zv l s=DL:=⟨_,rfl⟩;obtain⟨d,s1⟩:=DL;rw[b5]at F H⊢;simp only at F H⊢;have D:=hid (fun w' h=>Zck b l d x false s1 S w' hl H h);have d4:=Zek (l:=l) (d:=d) (rx:=false) (s:=s1);have X:=ZaW (l:=l) (s:=s1) d false H;obtain⟨BT,b8⟩:∃BT,Zr l d false s1=BT:=⟨_,rfl⟩;obtain⟨tf,s2⟩:=BT;rw[b8]at D d4 X⊢;simp only at D d4 X⊢;have E:=hid (fun w' h=>Zck b l d x false s2 S w' hl X h);have U:=Zek (l:=l) (d:=d) (rx:=false) (s:=s2);obtain⟨Z,R⟩:∃Z,Zr l d false s2=Z:=⟨_,rfl⟩;obtain⟨tt,s3⟩:=Z;rw[R]at E U⊢;simp only at E U⊢;clear b5 b8 R h ha;have J:=hid (fun w'=>cm_list tf w' (by omega));have K:=hid (fun w'=>cm_list tt w' (by omega));have a5:=Zc0 tf false [];obtain⟨LA,f9⟩:∃LA,ZbC tf false []=LA:=⟨_,rfl⟩
 obtain⟨LB,d5⟩:∃LB,ZbC tt false []=LB:=⟨_,rfl⟩;obtain⟨la,oa⟩:=LA;obtain⟨lb,ob⟩:=LB;rw[f9]at J a5⊢;rw[d5]at K⊢;simp only at J K a5⊢;have g7:la.length≤99000:=by simp at a5;omega
 by_cases h3:s3.e=0
 ·have L:¬s3.e≠0:=fun h=>h h3;simp only[if_neg L];have e3:(s3.e==0)=true:=by simpa using h3
  by_cases hc:oa=false∨ob=false∨la.length≠lb.length
  ·simp only[if_pos hc];cases oa with
   |false=>
    go_enter Tryz.func93,Tryz.ntmps93;go_wp2_with fail;refine F.out.mono ?_;rintro z w1 ⟨rfl,h1,n⟩;have H1:=hid h1;have A:=hid n;clear h1 n;go_wp2_with fail;refine(D.out w1 H1.out).mono ?_;rintro z w2 ⟨rfl,h2,m⟩;obtain⟨y,f⟩:=h2;have r2:=Zd f.blk _ (Fr.refl _ _);have H2:=hid (show CRd b l x s2 S w2 from⟨y,f⟩);have B:=hid (A.out.trans m);clear f m;go_wp2_with fail;refine(E.out w2 H2.out).mono ?_;rintro z w3 ⟨rfl,g,o⟩;have H3:=hid g;have t:=hid (B.out.trans o);clear g o r2;go_wp2_with fail;refine(cm_ok b l x s3 S w3 H3.out).mono ?_;rintro z w4 ⟨rfl,f4⟩;have F4:=hid f4;clear f4;simp only[e3];go_wp2_with fail;refine(J.out w4).mono ?_;rintro z w5 ⟨rfl,f5⟩;have F5:=hid (F4.out.trans' f5);clear f5;go_wp2_with fail;refine(K.out w5).mono ?_;rintro z w6 ⟨rfl,f6⟩;have F6:=hid (F5.out.trans' f6);have H6:=hid (H3.out.on F6.out);have N:=hid (t.out.trans (Stp.of F6.out))
    clear f6;have HF:=hid (cm_fail b l x s3 S 18 s2.at_ w6 H6.out);go_wp2_with fail;refine HF.out.mono ?_;rintro z w8 ⟨rfl,h8,u⟩;have H8:=hid h8;have G:=hid (N.out.trans u);clear h8 u;go_wp2;go_ret;exact⟨rfl,H8.out,G.out⟩
   |true=>
    cases ob with
    |false=>
     go_enter Tryz.func93,Tryz.ntmps93;go_wp2_with fail;refine F.out.mono ?_;rintro z w1 ⟨rfl,h1,n⟩;have H1:=hid h1;have A:=hid n;clear h1 n;go_wp2_with fail;refine(D.out w1 H1.out).mono ?_;rintro z w2 ⟨rfl,h2,m⟩;obtain⟨y,f⟩:=h2;have r2:=Zd f.blk _ (Fr.refl _ _);have H2:=hid (show CRd b l x s2 S w2 from⟨y,f⟩);have B:=hid (A.out.trans m);clear f m;go_wp2_with fail;refine(E.out w2 H2.out).mono ?_;rintro z w3 ⟨rfl,g,o⟩;have H3:=hid g;have t:=hid (B.out.trans o);clear g o r2;go_wp2_with fail;refine(cm_ok b l x s3 S w3 H3.out).mono ?_;rintro z w4 ⟨rfl,f4⟩;have F4:=hid f4;clear f4;simp only[e3];go_wp2_with fail;refine(J.out w4).mono ?_;rintro z w5 ⟨rfl,f5⟩;have F5:=hid (F4.out.trans' f5);clear f5;go_wp2_with fail;refine(K.out w5).mono ?_;rintro z w6 ⟨rfl,f6⟩;have F6:=hid (F5.out.trans' f6);have H6:=hid (H3.out.on F6.out);have N:=hid (t.out.trans (Stp.of F6.out))
     clear f6;have HF:=hid (cm_fail b l x s3 S 18 s2.at_ w6 H6.out);go_wp2_with fail;refine HF.out.mono ?_;rintro z w8 ⟨rfl,h8,u⟩;have H8:=hid h8;have G:=hid (N.out.trans u);clear h8 u;go_wp2;go_ret;exact⟨rfl,H8.out,G.out⟩
    |true=>
     have e4:((la.length:Int) !=(lb.length:Int))=true:=by
      rcases hc with h|h|h
      ·cases h
      ·cases h
      ·simp;omega
     clear hc;go_enter Tryz.func93,Tryz.ntmps93;go_wp2_with fail;refine F.out.mono ?_;rintro z w1 ⟨rfl,h1,n⟩;have H1:=hid h1;have A:=hid n;clear h1 n;go_wp2_with fail;refine(D.out w1 H1.out).mono ?_;rintro z w2 ⟨rfl,h2,m⟩;obtain⟨y,f⟩:=h2;have r2:=Zd f.blk _ (Fr.refl _ _);have H2:=hid (show CRd b l x s2 S w2 from⟨y,f⟩);have B:=hid (A.out.trans m);clear f m;go_wp2_with fail;refine(E.out w2 H2.out).mono ?_;rintro z w3 ⟨rfl,g,o⟩;have H3:=hid g;have t:=hid (B.out.trans o);clear g o r2;go_wp2_with fail;refine(cm_ok b l x s3 S w3 H3.out).mono ?_;rintro z w4 ⟨rfl,f4⟩;have F4:=hid f4;clear f4;simp only[e3];go_wp2_with fail;refine(J.out w4).mono ?_;rintro z w5 ⟨rfl,f5⟩;have F5:=hid (F4.out.trans' f5);clear f5;go_wp2_with fail;refine(K.out w5).mono ?_;rintro z w6 ⟨rfl,f6⟩;have F6:=hid (F5.out.trans' f6);have H6:=hid (H3.out.on F6.out);have N:=hid (t.out.trans (Stp.of F6.out))
     clear f6;have HF:=hid (cm_fail b l x s3 S 18 s2.at_ w6 H6.out);go_wp2_with fail;refine HF.out.mono ?_;rintro z w8 ⟨rfl,h8,u⟩;have H8:=hid h8;have G:=hid (N.out.trans u);clear h8 u;go_wp2;go_ret;exact⟨rfl,H8.out,G.out⟩
  ·simp only[if_neg hc];have g1:oa=true:=by cases oa with|true=>rfl|false=>exact absurd (.inl rfl) hc
   have e7:ob=true:=by cases ob with|true=>rfl|false=>exact absurd (.inr (.inl rfl)) hc
   have f3:la.length=lb.length:=Classical.byContradiction fun h=>hc (.inr (.inr h));subst g1;subst e7;have e4:((la.length:Int) !=(lb.length:Int))=false:=by rw[f3];simp
   clear hc;obtain⟨TT,a0⟩:∃TT,Zod (la.zip lb) [] Zjp=TT:=⟨_,rfl⟩;rw[a0];obtain⟨g2,e8⟩:=TT;have b4:=hid a0;clear a0;go_enter Tryz.func93,Tryz.ntmps93;go_wp2_with fail;refine F.out.mono ?_;rintro z w1 ⟨rfl,h1,n⟩;have H1:=hid h1;have A:=hid n;clear h1 n;go_wp2_with fail;refine(D.out w1 H1.out).mono ?_;rintro z w2 ⟨rfl,h2,m⟩;obtain⟨y,f⟩:=h2;have r2:=Zd f.blk _ (Fr.refl _ _);have H2:=hid (show CRd b l x s2 S w2 from⟨y,f⟩);have B:=hid (A.out.trans m);clear f m;go_wp2_with fail;refine(E.out w2 H2.out).mono ?_;rintro z w3 ⟨rfl,g,o⟩;have H3:=hid g;have t:=hid (B.out.trans o);clear g o r2;go_wp2_with fail;refine(cm_ok b l x s3 S w3 H3.out).mono ?_;rintro z w4 ⟨rfl,f4⟩;have F4:=hid f4;clear f4;simp only[e3];go_wp2_with fail;refine(J.out w4).mono ?_;rintro z w5 ⟨rfl,f5⟩;have F5:=hid (F4.out.trans' f5);clear f5;go_wp2_with fail;refine(K.out w5).mono ?_
   rintro z w6 ⟨rfl,f6⟩;have F6:=hid (F5.out.trans' f6);clear f6;go_wp2_with fail;rw[zc256];obtain⟨w7,M⟩:∃w7,w7=(w6.alloc (.cells (bcells (List.replicate 256 0)).toArray 202)).alloc (.cells (bcells (List.replicate 256 0)).toArray 202):=⟨_,rfl⟩;have t1:Tb w6.heap.size (idk 0) w7:=by unfold Tb;rw[ZmQ,M];exact Ze _ (newAt _ _)
   have t2:Tb (w6.heap.size+1) (cntY []) w7:=by unfold Tb;rw[ZmO,M];exact Zg _ _ _ (by simp)
   have f7:Fr nob w6 w7:=by rw[M];exact((Fr.refl _ _).alloc _).alloc _
   rw[←M];have T1:=hid t1;have T2:=hid t2;have F7:=hid f7;clear t1 t2 f7 M
   go_loopw [56] (fun i wr=>∃k:Nat,i=.int .i64 k∧k≤256∧Tb w6.heap.size (idk k) wr∧Tb (w6.heap.size+1) (cntY []) wr∧Fr (fun j=>j=w6.heap.size) w7 wr) (fun i _=>256-(intOf i).toNat)
   case atStart=>exact⟨0,rfl,by omega,T1.out,T2.out,Fr.refl _ _⟩
   case round=>
    obtain⟨k,rfl,hk,a1,a2,fr⟩:=hrel;have A1:=hid a1;have V:=hid a2;have FR:=hid fr;clear a1 a2 fr;by_cases O:k<256
    ·have h4:IntKind.u8.wrap (k:Int)=k:=IntWalk.u8_in _ (by omega);obtain⟨c1,c2⟩:=A1.out.cell (k:=k) (by rw[Zlh hk];exact O);have b6:((UInt8.ofNat k).toNat:Int)=k:=by simp;omega
     have a6:=A1.out.set k (UInt8.ofNat k);rw[b6,Zot O]at a6;have c0:=V.out.ne (k:=k) (g':=w6.heap.size) (by omega) (.int .u8 (k:Int));have f1:=hid a6;have g3:=hid c0;have f2:=hid (FR.out.setCell (p:=⟨w6.heap.size,k,none⟩) (fun _=>rfl) (.int .u8 (k:Int)));clear a6 c0 b6;go_wp2;go_roundw
     case rel=>exact⟨k+1,by go_num,by omega,f1.out,g3.out,f2.out⟩
     case measure=>simp[intOf];omega
    ·obtain rfl:k=256:=by omega
     have a8:=A1.out;rw[Zli]at a8;have b3:=hid a8;have FW:=hid (FR.out.weak (T:=fun j=>j=w6.heap.size∨j=w6.heap.size+1) (fun j hj=>.inl hj));have c7:Zjp.length=256:=by rw[←Zli];exact Zlh (by omega)
     clear a8 A1 FR;go_wp2_with fail
     go_loopw [66] (fun i wq=>∃(k:Nat) (out:List UInt8),i=.int .i64 k∧k≤la.length∧out.length=256∧Zod ((la.zip lb).drop k) (la.take k) out=(g2,e8)∧Tb w6.heap.size out wq∧Tb (w6.heap.size+1) (cntY (la.take k)) wq∧Fr (fun j=>j=w6.heap.size∨j=w6.heap.size+1) w7 wq) (fun i _=>la.length-(intOf i).toNat)
     case atStart=>exact⟨0,Zjp,rfl,Nat.zero_le _,c7,b4.out,b3.out,V.out,FW.out⟩
     case round=>
      obtain⟨k,out,rfl,hk,Q,hL,b1,b2,fr⟩:=hrel;have B1:=hid b1;have B2:=hid b2;have FR:=hid fr;have HL:=hid hL;clear b1 b2 fr hL b3 V FW b4;by_cases O:k<la.length
      ·have d3:k<lb.length:=by omega
       have h5:(k:Int)<la.length:=by omega
       have g6:(k:Int)<lb.length:=by omega
       have hL:=HL.out;rw[Zov O d3]at hL;obtain⟨a,P⟩:∃a,la[k]=a:=⟨_,rfl⟩;obtain⟨c,a4⟩:∃c,lb[k]=c:=⟨_,rfl⟩;have HA:=hid P;have HC:=hid a4;rw[P,a4]at hL;have c4:la.take (k+1)=la.take k++[a]:=by rw[List.take_succ_eq_append_getElem O,P]
       have c6:=hid c4;obtain⟨g8,d9⟩:=Zcf a;have I:a.toNat<256:=a.toNat_lt;obtain⟨c1,c2⟩:=B2.out.cell (k:=a.toNat) (by rw[cntY_len];exact I);rw[Zou]at c1;have f0:(a.toNat:Int)<256:=by omega
       clear P a4 c4 d9;by_cases a7:(la.take k).contains a=true
       ·rw[if_pos a7]at hL c1;injection hL with q1 q2;subst q1;subst q2;have C:=B2.out.set a.toNat 2;obtain⟨d1,d2⟩:=C.cell (k:=a.toNat) (by rw[List.length_set,cntY_len];exact I);rw[List.getElem_set_self]at d1;obtain⟨wS,q⟩:∃wS,wS=wr.setCell ⟨w6.heap.size+1,a.toNat,none⟩ (.int .u8 2):=⟨_,rfl⟩;have fS:Fr (fun j=>j=w6.heap.size∨j=w6.heap.size+1) w7 wS:=by rw[q];exact FR.out.setCell (p:=⟨w6.heap.size+1,a.toNat,none⟩) (fun _=>.inr rfl) _
        have d1:wS.cell? ⟨w6.heap.size+1,a.toNat,none⟩=some (.int .u8 2):=by rw[q];exact d1
        have d2:wS.frozen? ⟨w6.heap.size+1,a.toNat,none⟩=false:=by rw[q];exact d2
        have c1:wr.cell? ⟨w6.heap.size+1,a.toNat,none⟩=some (.int .u8 1):=c1;have W:=hid q;have FS:=hid fS;have g9:∀j,(j=w6.heap.size∨j=w6.heap.size+1)→¬S j:=fun j hj hx=>by
         have:=hS j hx;have:=t.out.fr.size;have:=F6.out.size;rcases hj with hj|hj<;>omega
        have b7:∀i,i<w6.heap.size→¬(i=w6.heap.size∨i=w6.heap.size+1):=fun i hi hx=>by rcases hx with hx|hx<;>omega
        have b9:Fr nob w6 wS:=F7.out.trans FS.out (fun i hi x=>(b7 i hi x).elim);have a9:=F6.out.trans' b9;have c5:=t.out.trans (Stp.of a9);have hS:=H3.out.on a9;have HF:=hid (cm_fail b l x s3 S 15 s2.at_ wS hS);have d6:=hid c5;clear q fS C HL a7 b9 a9 c5 hS b7;go_wp2_with(first|rw[HA.out]|rw[←W.out]);refine HF.out.mono ?_;rintro z w8 ⟨rfl,h8,u⟩;have H8:=hid h8;have G:=hid (d6.out.trans u);clear h8 u;go_wp2;go_ret;exact⟨rfl,H8.out,G.out⟩
       ·rw[if_neg a7]at hL c1;have C:=B2.out.set a.toNat 1;obtain⟨d1,d2⟩:=C.cell (k:=a.toNat) (by rw[List.length_set,cntY_len];exact I);rw[List.getElem_set_self]at d1;rw[ZmP,←c6.out]at C;obtain⟨wS,q⟩:∃wS,wS=wr.setCell ⟨w6.heap.size+1,a.toNat,none⟩ (.int .u8 1):=⟨_,rfl⟩;have fS:Fr (fun j=>j=w6.heap.size∨j=w6.heap.size+1) w7 wS:=by rw[q];exact FR.out.setCell (p:=⟨w6.heap.size+1,a.toNat,none⟩) (fun _=>.inr rfl) _
        have d1:wS.cell? ⟨w6.heap.size+1,a.toNat,none⟩=some (.int .u8 1):=by rw[q];exact d1
        have d2:wS.frozen? ⟨w6.heap.size+1,a.toNat,none⟩=false:=by rw[q];exact d2
        have c1:wr.cell? ⟨w6.heap.size+1,a.toNat,none⟩=some (.int .u8 0):=c1;have d0:Tb (w6.heap.size+1) (cntY (la.take (k+1))) wS:=by rw[q];exact C
        have c3:Tb w6.heap.size out wS:=by rw[q];exact B1.out.ne (by omega) _
        have W:=hid q;have FS:=hid fS;have d8:=hid d0;have e5:=hid c3;have e0:=hid hL;clear q fS C c3 d0 hL;go_wp2_with(first|rw[HA.out]|rw[←W.out]);refine region_fr 6 (by kernel_rfl) (by kernel_rfl) ?_;simp only[List.take_succ_cons,List.take_zero,List.drop_succ_cons,List.drop_zero]
        repeat(quiet_step (fail))
        refine wpQuiet_nil ?_;intro w8 f8;have b0:=e5.out.on f8;obtain⟨e1,e2⟩:=b0.cell (k:=a.toNat) (by rw[Q];exact I);have e6:=hid (b0.set a.toNat c);have e9:=hid ((d8.out.on f8).ne (g':=w6.heap.size) (k:=a.toNat) (by omega) (.int .u8 (c.toNat:Int)));have FN:=hid ((FS.out.trans f8 (fun _ _ x=>x.elim)).setCell (p:=⟨w6.heap.size,a.toNat,none⟩) (fun _=>.inl rfl) (.int .u8 (c.toNat:Int)));clear f8 b0;go_wp2_with(first|rw[HA.out]|rw[HC.out]);refine⟨?_,?_⟩
        ·(repeat apply Exists.intro)
         refine⟨⟨k+1,out.set a.toNat c,by go_num,by omega,by rw[List.length_set];exact Q,by rw[c6.out];exact e0.out,e6.out,e9.out,FN.out⟩,rfl⟩
        ·simp[intOf];omega
      ·obtain rfl:k=la.length:=by omega
       have hL:=HL.out;rw[List.drop_eq_nil_of_le (by rw[List.length_zip];omega)]at hL;injection hL with q1 q2;subst q1;subst q2;have g5:(bcells out).length=256:=by rw[ZbF,Q]
       have a3:=run_conv_bytes Tryz.underlying22 Tryz.underlying5 Tryz.underlying9 ⟨w6.heap.size,0,none⟩ 256 out wr (fun j v hj=>by
        have c8:j<out.length:=by
         have:=(List.getElem?_eq_some_iff.1 hj).1;rw[ZbF]at this;exact this
        have h0:=(B1.out.cell c8).1;have h1:v=.int .u8 (out[j].toNat:Int):=by
         rw[bcells,List.getElem?_map,List.getElem?_eq_getElem c8]at hj;injection hj with hj;exact hj.symm
        have h2:(⟨w6.heap.size,0,none⟩:Addr).add j=⟨w6.heap.size,j,none⟩:=by simp[Addr.add];intro h;exact h.symm
        rw[h1,h2];exact h0)
       rw[Q]at a3;have g0:=hid a3;have c9:Fr nob w6 wr:=F7.out.trans FR.out (fun i hi x=>by rcases x with x|x<;>omega);have Y:=F6.out.trans' c9;have HR:=hid (H3.out.on Y);have g4:=hid (t.out.trans (Stp.of Y));clear a3 c9 Y;go_wp2_with(rw[g0.out]);go_ret;exact⟨rfl,HR.out,g4.out⟩
 ·have L:s3.e≠0:=h3;simp only[if_pos L];have e3:(s3.e==0)=false:=by simpa using h3
  go_enter Tryz.func93,Tryz.ntmps93;go_wp2_with fail;refine F.out.mono ?_;rintro z w1 ⟨rfl,h1,n⟩;have H1:=hid h1;have A:=hid n;clear h1 n;go_wp2_with fail;refine(D.out w1 H1.out).mono ?_;rintro z w2 ⟨rfl,h2,m⟩;obtain⟨y,f⟩:=h2;have r2:=Zd f.blk _ (Fr.refl _ _);have H2:=hid (show CRd b l x s2 S w2 from⟨y,f⟩);have B:=hid (A.out.trans m);clear f m;go_wp2_with fail;refine(E.out w2 H2.out).mono ?_;rintro z w3 ⟨rfl,g,o⟩;have H3:=hid g;have t:=hid (B.out.trans o);clear g o r2;go_wp2_with fail;refine(cm_ok b l x s3 S w3 H3.out).mono ?_;rintro z w4 ⟨rfl,f4⟩;have H4:=hid (H3.out.on f4);have d7:=hid (t.out.trans (Stp.of f4));clear f4;simp only[e3];go_wp2;go_ret;exact⟨rfl,H4.out,d7.out⟩
abbrev cmd20(p:Nat)(g0 g1 g2 g3 g4 g5 g6 g7 g8:Value)(n:UInt8)(arg:List UInt8)(s:SV)(u pv:Value)(tb:List UInt8):Array Value:=
 #[.int .i64 (p:Nat),g0,g1,g2,g3,g4,g5,g6,g7,g8,.int .u8 (n.toNat:Int),.string ⟨arg.toArray⟩,.string ⟨s.text.toArray⟩,u,pv,.int .i64 s.nth,.bool s.all,.bool s.print,.string ⟨s.file.toArray⟩,.string ⟨tb.toArray⟩]
theorem Zw{w:World}{b:Nat}{v0 v1 v2 v3 v4 v5 v6 v7 v8 v9 v10 v11 v12 v13 v14 v15 v16 v17 v18 v19:Value}{T:TypeId}(h:w.heap[b]? =some (.cells #[v0,v1,v2,v3,v4,v5,v6,v7,v8,v9,v10,v11,v12,v13,v14,v15,v16,v17,v18,v19] T (0,0))):∀w',Fr nob w w'→
 (w'.cell? ⟨b,0,none⟩=some v0∧w'.cell? ⟨b,10,none⟩=some v10∧w'.cell? ⟨b,11,none⟩=some v11∧w'.cell? ⟨b,12,none⟩=some v12∧w'.cell? ⟨b,13,none⟩=some v13∧w'.cell? ⟨b,14,none⟩=some v14∧w'.cell? ⟨b,15,none⟩=some v15∧w'.cell? ⟨b,16,none⟩=some v16∧w'.cell? ⟨b,17,none⟩=some v17∧w'.cell? ⟨b,18,none⟩=some v18∧w'.cell? ⟨b,19,none⟩=some v19)∧(w'.frozen? ⟨b,11,none⟩=false∧w'.frozen? ⟨b,12,none⟩=false∧w'.frozen? ⟨b,13,none⟩=false∧w'.frozen? ⟨b,14,none⟩=false∧w'.frozen? ⟨b,15,none⟩=false∧w'.frozen? ⟨b,16,none⟩=false∧w'.frozen? ⟨b,17,none⟩=false∧w'.frozen? ⟨b,18,none⟩=false∧w'.frozen? ⟨b,19,none⟩=false):=fun _ f=>by
 have h':=f.heap h (fun x=>x);exact⟨⟨cell_at h' rfl,cell_at h' rfl,cell_at h' rfl,cell_at h' rfl,cell_at h' rfl,cell_at h' rfl,cell_at h' rfl,cell_at h' rfl,cell_at h' rfl,cell_at h' rfl,cell_at h' rfl⟩,unfrozen_at h' _,unfrozen_at h' _,unfrozen_at h' _,unfrozen_at h' _,unfrozen_at h' _,unfrozen_at h' _,unfrozen_at h' _,unfrozen_at h' _,unfrozen_at h' _⟩
theorem ZbD{n:UInt8}{k:Nat}{hk:UInt8}(h:n≠hk)(he:hk.toNat=k:=by rfl):((n.toNat:Int)==(k:Int))=false:=by
 have:n.toNat≠k:=fun e=>h (UInt8.toNat_inj.1 (by omega));simp;omega
abbrev Zcw(w:World)(g:Nat)(x0 x1 x2 x3 x4 x5 x6:Value):World:=(((((((w.setCell ⟨g,12,none⟩ x0).setCell ⟨g,13,none⟩ x1).setCell ⟨g,14,none⟩ x2).setCell ⟨g,15,none⟩ x3).setCell ⟨g,16,none⟩ x4).setCell ⟨g,17,none⟩ x5).setCell ⟨g,18,none⟩ x6)
theorem Zcl(w:World)(g:Nat)(x0 x1 x2 x3 x4 x5 x6:Value):Fr (fun k=>k=g) w (Zcw w g x0 x1 x2 x3 x4 x5 x6):=by
 have h:∀(x:World) (j:Nat) (v:Value),Fr (fun k=>k=g) w x→Fr (fun k=>k=g) w (x.setCell ⟨g,j,none⟩ v):=fun x j v hx=>hx.setCell (p:=⟨g,j,none⟩) (fun _=>rfl) v;exact h _ _ _ (h _ _ _ (h _ _ _ (h _ _ _ (h _ _ _ (h _ _ _ (h _ _ _ (Fr.refl _ _)))))))
theorem ZbU{w:World}{g:Nat}{a0 a1 a2 a3 a4 a5 a6 a7 a8 a9 a10 a11 a12 a13 a14 a15 a16 a17 a18 a19:Value}{T:TypeId}(h:w.heap[g]? =some (.cells #[a0,a1,a2,a3,a4,a5,a6,a7,a8,a9,a10,a11,a12,a13,a14,a15,a16,a17,a18,a19] T (0,0)))(x0 x1 x2 x3 x4 x5 x6:Value):
 (Zcw w g x0 x1 x2 x3 x4 x5 x6).heap[g]? =some (.cells #[a0,a1,a2,a3,a4,a5,a6,a7,a8,a9,a10,a11,x0,x1,x2,x3,x4,x5,x6,a19] T (0,0)):=by
 have h0:=Za h 12 x0;have h1:=Za h0 13 x1;have h2:=Za h1 14 x2;have h3:=Za h2 15 x3;have h4:=Za h3 16 x4;have h5:=Za h4 17 x5;have h6:=Za h5 18 x6;simpa using h6
def Zbb(b g:Nat)(l:List UInt8)(x:Bool)(S O:Nat→Prop)(w:World)(p:Nat)(g0 g1 g2 g3 g4 g5 g6 g7 g8:Value)(n:UInt8)(R:Bool×CV×AdS)(r:Ending)(w':World):Prop:=
 ∃u pv S',r=.returned (.bool R.1)∧w'.heap[g]? =some (.cells (cmd20 p g0 g1 g2 g3 g4 g5 g6 g7 g8 n R.2.1.arg R.2.1.sub u pv R.2.1.table) 35 (0,0))∧RN (SO S' O) w' R.2.1.sub.tree u∧PrO (SO S' O) w' R.2.1.sub.parts pv∧CRd b l x R.2.2 S' w'∧Stp (GS S g) w (GS S' g) w'∧¬S' g
abbrev cv0(p:Nat)(gv:GV)(n:UInt8):CV:=⟨p,gv,n,[],SV.zero,[]⟩
section
variable (b g:Nat) (l:List UInt8) (x:Bool) (S O:Nat→Prop) (p:Nat) (gv:GV) (g0 g1 g2 g3 g4 g5 g6 g7 g8:Value)
theorem ZpR(s:AdS)(w:World)(hl:l.length≤99000)(ha:s.at_≤l.length)(hm:s.marks.length≤100000)(hS:∀k,S k→k<w.heap.size)(hO:∀k,O k→k<w.heap.size)(hgO:O g)(hgS:¬S g)(W0:World)(hE:Env W0)(hW:Fr nob W0 w)(hSW:∀k,S k→W0.heap.size≤k)(hg:w.heap[g]? =some (.cells (cmd20 p g0 g1 g2 g3 g4 g5 g6 g7 g8 123 [] SV.zero .nilIface (.slice none 0 0) []) 35 (0,0)))(h:CRd b l x s S w):
 Calls Tryz.prog 58 #[.pointer (some ⟨b,0,none⟩),.pointer (some ⟨g,0,none⟩)] w (Zbb b g l x S O w p g0 g1 g2 g3 g4 g5 g6 g7 g8 123 (ZsD x l (cv0 p gv 123) s)):=by
 rw[show ZsD x l (cv0 p gv 123) s=(false,cv0 p gv 123,s)from rfl];have rg:=Zw hg _ (Fr.refl _ _);have a:=lt_heap hg;have H:=hid h;have HG:=hid hg;go_enter Tryz.func58,Tryz.ntmps58;go_wp2;go_ret;exact⟨.nilIface,.slice none 0 0,S,rfl,HG.out,rfl,PrO.nil _ _,H.out,Stp.refl _ _,hgS⟩
theorem ZpS(s:AdS)(w:World)(hl:l.length≤99000)(ha:s.at_≤l.length)(hm:s.marks.length≤100000)(hS:∀k,S k→k<w.heap.size)(hO:∀k,O k→k<w.heap.size)(hgO:O g)(hgS:¬S g)(W0:World)(hE:Env W0)(hW:Fr nob W0 w)(hSW:∀k,S k→W0.heap.size≤k)(hg:w.heap[g]? =some (.cells (cmd20 p g0 g1 g2 g3 g4 g5 g6 g7 g8 125 [] SV.zero .nilIface (.slice none 0 0) []) 35 (0,0)))(h:CRd b l x s S w):
 Calls Tryz.prog 58 #[.pointer (some ⟨b,0,none⟩),.pointer (some ⟨g,0,none⟩)] w (Zbb b g l x S O w p g0 g1 g2 g3 g4 g5 g6 g7 g8 125 (ZsD x l (cv0 p gv 125) s)):=by
 rw[show ZsD x l (cv0 p gv 125) s=(false,cv0 p gv 125,s)from rfl];have rg:=Zw hg _ (Fr.refl _ _);have a:=lt_heap hg;have H:=hid h;have HG:=hid hg;go_enter Tryz.func58,Tryz.ntmps58;go_wp2;go_ret;exact⟨.nilIface,.slice none 0 0,S,rfl,HG.out,rfl,PrO.nil _ _,H.out,Stp.refl _ _,hgS⟩
theorem ZqF(s:AdS)(w:World)(hl:l.length≤99000)(ha:s.at_≤l.length)(hm:s.marks.length≤100000)(hS:∀k,S k→k<w.heap.size)(hO:∀k,O k→k<w.heap.size)(hgO:O g)(hgS:¬S g)(W0:World)(hE:Env W0)(hW:Fr nob W0 w)(hSW:∀k,S k→W0.heap.size≤k)(hg:w.heap[g]? =some (.cells (cmd20 p g0 g1 g2 g3 g4 g5 g6 g7 g8 58 [] SV.zero .nilIface (.slice none 0 0) []) 35 (0,0)))(h:CRd b l x s S w):
 Calls Tryz.prog 58 #[.pointer (some ⟨b,0,none⟩),.pointer (some ⟨g,0,none⟩)] w (Zbb b g l x S O w p g0 g1 g2 g3 g4 g5 g6 g7 g8 58 (ZsD x l (cv0 p gv 58) s)):=by
 rw[show ZsD x l (cv0 p gv 58) s=(false,{cv0 p gv 58 with arg:=(labelC l true s).1},(labelC l true s).2)from rfl];have rg:=Zw hg _ (Fr.refl _ _);have d:=lt_heap hg;have H:=hid h;have HG:=hid hg;have HC:=hid (ZdR b l x true s S w hl ha h);obtain⟨R,hR⟩:∃R,labelC l true s=R:=⟨_,rfl⟩;rw[hR]at HC⊢;obtain⟨ra,rs⟩:=R;clear hg h;go_enter Tryz.func58,Tryz.ntmps58;go_wp2_with fail;refine HC.out.mono ?_;rintro z w1 ⟨rfl,h1,a⟩;obtain⟨S',i⟩:∃S':Nat→Prop,S'=S:=⟨_,rfl⟩;rw[show CRd b l x rs S w1↔CRd b l x rs S' w1 by rw[i]]at h1;rw[show Stp S w S w1↔Stp S w S' w1 by rw[i]]at a;have c:¬S' g:=fun e=>hgS (a.old g d e);have g1:=a.fr.heap HG.out hgS;have m:=Zw g1 _ (Fr.refl _ _);have g2:=Za g1 11 (.string ⟨ra.toArray⟩);have h2:=h1.setg c 11 (.string ⟨ra.toArray⟩);have f:=(Stp.gs a d).trans (Stp.setg (S:=S') (g:=g) 11 (.string ⟨ra.toArray⟩));have G2:=hid g2;have H2:=hid h2;have j:=hid f
 clear g1 g2 h1 h2 a f rg;go_wp2;go_ret;exact⟨.nilIface,.slice none 0 0,S',rfl,G2.out,rfl,PrO.nil _ _,H2.out,j.out,c⟩
theorem ZqG(s:AdS)(w:World)(hl:l.length≤99000)(ha:s.at_≤l.length)(hm:s.marks.length≤100000)(hS:∀k,S k→k<w.heap.size)(hO:∀k,O k→k<w.heap.size)(hgO:O g)(hgS:¬S g)(W0:World)(hE:Env W0)(hW:Fr nob W0 w)(hSW:∀k,S k→W0.heap.size≤k)(hg:w.heap[g]? =some (.cells (cmd20 p g0 g1 g2 g3 g4 g5 g6 g7 g8 98 [] SV.zero .nilIface (.slice none 0 0) []) 35 (0,0)))(h:CRd b l x s S w):
 Calls Tryz.prog 58 #[.pointer (some ⟨b,0,none⟩),.pointer (some ⟨g,0,none⟩)] w (Zbb b g l x S O w p g0 g1 g2 g3 g4 g5 g6 g7 g8 98 (ZsD x l (cv0 p gv 98) s)):=by
 rw[show ZsD x l (cv0 p gv 98) s=(false,{cv0 p gv 98 with arg:=(labelC l false s).1},(labelC l false s).2)from rfl];have rg:=Zw hg _ (Fr.refl _ _);have d:=lt_heap hg;have H:=hid h;have HG:=hid hg;have HC:=hid (ZdR b l x false s S w hl ha h);obtain⟨R,hR⟩:∃R,labelC l false s=R:=⟨_,rfl⟩;rw[hR]at HC⊢;obtain⟨ra,rs⟩:=R;clear hg h;go_enter Tryz.func58,Tryz.ntmps58;go_wp2_with fail;refine HC.out.mono ?_;rintro z w1 ⟨rfl,h1,a⟩;obtain⟨S',i⟩:∃S':Nat→Prop,S'=S:=⟨_,rfl⟩;rw[show CRd b l x rs S w1↔CRd b l x rs S' w1 by rw[i]]at h1;rw[show Stp S w S w1↔Stp S w S' w1 by rw[i]]at a;have c:¬S' g:=fun e=>hgS (a.old g d e);have g1:=a.fr.heap HG.out hgS;have m:=Zw g1 _ (Fr.refl _ _);have g2:=Za g1 11 (.string ⟨ra.toArray⟩);have h2:=h1.setg c 11 (.string ⟨ra.toArray⟩);have f:=(Stp.gs a d).trans (Stp.setg (S:=S') (g:=g) 11 (.string ⟨ra.toArray⟩));have G2:=hid g2;have H2:=hid h2;have j:=hid f
 clear g1 g2 h1 h2 a f rg;go_wp2;go_ret;exact⟨.nilIface,.slice none 0 0,S',rfl,G2.out,rfl,PrO.nil _ _,H2.out,j.out,c⟩
theorem ZpT(s:AdS)(w:World)(hl:l.length≤99000)(ha:s.at_≤l.length)(hm:s.marks.length≤100000)(hS:∀k,S k→k<w.heap.size)(hO:∀k,O k→k<w.heap.size)(hgO:O g)(hgS:¬S g)(W0:World)(hE:Env W0)(hW:Fr nob W0 w)(hSW:∀k,S k→W0.heap.size≤k)(hg:w.heap[g]? =some (.cells (cmd20 p g0 g1 g2 g3 g4 g5 g6 g7 g8 116 [] SV.zero .nilIface (.slice none 0 0) []) 35 (0,0)))(h:CRd b l x s S w):
 Calls Tryz.prog 58 #[.pointer (some ⟨b,0,none⟩),.pointer (some ⟨g,0,none⟩)] w (Zbb b g l x S O w p g0 g1 g2 g3 g4 g5 g6 g7 g8 116 (ZsD x l (cv0 p gv 116) s)):=by
 rw[show ZsD x l (cv0 p gv 116) s=(false,{cv0 p gv 116 with arg:=(labelC l false s).1},(labelC l false s).2)from rfl];have rg:=Zw hg _ (Fr.refl _ _);have d:=lt_heap hg;have H:=hid h;have HG:=hid hg;have HC:=hid (ZdR b l x false s S w hl ha h);obtain⟨R,hR⟩:∃R,labelC l false s=R:=⟨_,rfl⟩;rw[hR]at HC⊢;obtain⟨ra,rs⟩:=R;clear hg h;go_enter Tryz.func58,Tryz.ntmps58;go_wp2_with fail;refine HC.out.mono ?_;rintro z w1 ⟨rfl,h1,a⟩;obtain⟨S',i⟩:∃S':Nat→Prop,S'=S:=⟨_,rfl⟩;rw[show CRd b l x rs S w1↔CRd b l x rs S' w1 by rw[i]]at h1;rw[show Stp S w S w1↔Stp S w S' w1 by rw[i]]at a;have c:¬S' g:=fun e=>hgS (a.old g d e);have g1:=a.fr.heap HG.out hgS;have m:=Zw g1 _ (Fr.refl _ _);have g2:=Za g1 11 (.string ⟨ra.toArray⟩);have h2:=h1.setg c 11 (.string ⟨ra.toArray⟩);have f:=(Stp.gs a d).trans (Stp.setg (S:=S') (g:=g) 11 (.string ⟨ra.toArray⟩));have G2:=hid g2;have H2:=hid h2;have j:=hid f
 clear g1 g2 h1 h2 a f rg;go_wp2;go_ret;exact⟨.nilIface,.slice none 0 0,S',rfl,G2.out,rfl,PrO.nil _ _,H2.out,j.out,c⟩
theorem ZqH(s:AdS)(w:World)(hl:l.length≤99000)(ha:s.at_≤l.length)(hm:s.marks.length≤100000)(hS:∀k,S k→k<w.heap.size)(hO:∀k,O k→k<w.heap.size)(hgO:O g)(hgS:¬S g)(W0:World)(hE:Env W0)(hW:Fr nob W0 w)(hSW:∀k,S k→W0.heap.size≤k)(hg:w.heap[g]? =some (.cells (cmd20 p g0 g1 g2 g3 g4 g5 g6 g7 g8 84 [] SV.zero .nilIface (.slice none 0 0) []) 35 (0,0)))(h:CRd b l x s S w):
 Calls Tryz.prog 58 #[.pointer (some ⟨b,0,none⟩),.pointer (some ⟨g,0,none⟩)] w (Zbb b g l x S O w p g0 g1 g2 g3 g4 g5 g6 g7 g8 84 (ZsD x l (cv0 p gv 84) s)):=by
 rw[show ZsD x l (cv0 p gv 84) s=(false,{cv0 p gv 84 with arg:=(labelC l false s).1},(labelC l false s).2)from rfl];have rg:=Zw hg _ (Fr.refl _ _);have d:=lt_heap hg;have H:=hid h;have HG:=hid hg;have HC:=hid (ZdR b l x false s S w hl ha h);obtain⟨R,hR⟩:∃R,labelC l false s=R:=⟨_,rfl⟩;rw[hR]at HC⊢;obtain⟨ra,rs⟩:=R;clear hg h;go_enter Tryz.func58,Tryz.ntmps58;go_wp2_with fail;refine HC.out.mono ?_;rintro z w1 ⟨rfl,h1,a⟩;obtain⟨S',i⟩:∃S':Nat→Prop,S'=S:=⟨_,rfl⟩;rw[show CRd b l x rs S w1↔CRd b l x rs S' w1 by rw[i]]at h1;rw[show Stp S w S w1↔Stp S w S' w1 by rw[i]]at a;have c:¬S' g:=fun e=>hgS (a.old g d e);have g1:=a.fr.heap HG.out hgS;have m:=Zw g1 _ (Fr.refl _ _);have g2:=Za g1 11 (.string ⟨ra.toArray⟩);have h2:=h1.setg c 11 (.string ⟨ra.toArray⟩);have f:=(Stp.gs a d).trans (Stp.setg (S:=S') (g:=g) 11 (.string ⟨ra.toArray⟩));have G2:=hid g2;have H2:=hid h2;have j:=hid f
 clear g1 g2 h1 h2 a f rg;go_wp2;go_ret;exact⟨.nilIface,.slice none 0 0,S',rfl,G2.out,rfl,PrO.nil _ _,H2.out,j.out,c⟩
theorem ZqI(s:AdS)(w:World)(hl:l.length≤99000)(ha:s.at_≤l.length)(hm:s.marks.length≤100000)(hS:∀k,S k→k<w.heap.size)(hO:∀k,O k→k<w.heap.size)(hgO:O g)(hgS:¬S g)(W0:World)(hE:Env W0)(hW:Fr nob W0 w)(hSW:∀k,S k→W0.heap.size≤k)(hg:w.heap[g]? =some (.cells (cmd20 p g0 g1 g2 g3 g4 g5 g6 g7 g8 97 [] SV.zero .nilIface (.slice none 0 0) []) 35 (0,0)))(h:CRd b l x s S w):
 Calls Tryz.prog 58 #[.pointer (some ⟨b,0,none⟩),.pointer (some ⟨g,0,none⟩)] w (Zbb b g l x S O w p g0 g1 g2 g3 g4 g5 g6 g7 g8 97 (ZsD x l (cv0 p gv 97) s)):=by
 rw[show ZsD x l (cv0 p gv 97) s=(false,{cv0 p gv 97 with arg:=(Zah l p s).1},(Zah l p s).2)from rfl];have rg:=Zw hg _ (Fr.refl _ _);have d:=lt_heap hg;have H:=hid h;have HG:=hid hg;have HC:=hid (Zfq b l x p s S w hl ha (by omega) h);obtain⟨R,hR⟩:∃R,Zah l p s=R:=⟨_,rfl⟩;rw[hR]at HC⊢;obtain⟨ra,rs⟩:=R;clear hg h;go_enter Tryz.func58,Tryz.ntmps58;go_wp2_with fail;refine HC.out.mono ?_;rintro z w1 ⟨rfl,S',h1,a⟩;have c:¬S' g:=fun e=>hgS (a.old g d e);have g1:=a.fr.heap HG.out hgS;have j:=Zw g1 _ (Fr.refl _ _);have g2:=Za g1 11 (.string ⟨ra.toArray⟩);have h2:=h1.setg c 11 (.string ⟨ra.toArray⟩);have f:=(Stp.gs a d).trans (Stp.setg (S:=S') (g:=g) 11 (.string ⟨ra.toArray⟩));have G2:=hid g2;have H2:=hid h2;have i:=hid f;clear g1 g2 h1 h2 a f rg;go_wp2;go_ret;exact⟨.nilIface,.slice none 0 0,S',rfl,G2.out,rfl,PrO.nil _ _,H2.out,i.out,c⟩
theorem ZpU(s:AdS)(w:World)(hl:l.length≤99000)(ha:s.at_≤l.length)(hm:s.marks.length≤100000)(hS:∀k,S k→k<w.heap.size)(hO:∀k,O k→k<w.heap.size)(hgO:O g)(hgS:¬S g)(W0:World)(hE:Env W0)(hW:Fr nob W0 w)(hSW:∀k,S k→W0.heap.size≤k)(hg:w.heap[g]? =some (.cells (cmd20 p g0 g1 g2 g3 g4 g5 g6 g7 g8 105 [] SV.zero .nilIface (.slice none 0 0) []) 35 (0,0)))(h:CRd b l x s S w):
 Calls Tryz.prog 58 #[.pointer (some ⟨b,0,none⟩),.pointer (some ⟨g,0,none⟩)] w (Zbb b g l x S O w p g0 g1 g2 g3 g4 g5 g6 g7 g8 105 (ZsD x l (cv0 p gv 105) s)):=by
 rw[show ZsD x l (cv0 p gv 105) s=(false,{cv0 p gv 105 with arg:=(Zah l p s).1},(Zah l p s).2)from rfl];have rg:=Zw hg _ (Fr.refl _ _);have d:=lt_heap hg;have H:=hid h;have HG:=hid hg;have HC:=hid (Zfq b l x p s S w hl ha (by omega) h);obtain⟨R,hR⟩:∃R,Zah l p s=R:=⟨_,rfl⟩;rw[hR]at HC⊢;obtain⟨ra,rs⟩:=R;clear hg h;go_enter Tryz.func58,Tryz.ntmps58;go_wp2_with fail;refine HC.out.mono ?_;rintro z w1 ⟨rfl,S',h1,a⟩;have c:¬S' g:=fun e=>hgS (a.old g d e);have g1:=a.fr.heap HG.out hgS;have j:=Zw g1 _ (Fr.refl _ _);have g2:=Za g1 11 (.string ⟨ra.toArray⟩);have h2:=h1.setg c 11 (.string ⟨ra.toArray⟩);have f:=(Stp.gs a d).trans (Stp.setg (S:=S') (g:=g) 11 (.string ⟨ra.toArray⟩));have G2:=hid g2;have H2:=hid h2;have i:=hid f;clear g1 g2 h1 h2 a f rg;go_wp2;go_ret;exact⟨.nilIface,.slice none 0 0,S',rfl,G2.out,rfl,PrO.nil _ _,H2.out,i.out,c⟩
theorem ZqJ(s:AdS)(w:World)(hl:l.length≤99000)(ha:s.at_≤l.length)(hm:s.marks.length≤100000)(hS:∀k,S k→k<w.heap.size)(hO:∀k,O k→k<w.heap.size)(hgO:O g)(hgS:¬S g)(W0:World)(hE:Env W0)(hW:Fr nob W0 w)(hSW:∀k,S k→W0.heap.size≤k)(hg:w.heap[g]? =some (.cells (cmd20 p g0 g1 g2 g3 g4 g5 g6 g7 g8 99 [] SV.zero .nilIface (.slice none 0 0) []) 35 (0,0)))(h:CRd b l x s S w):
 Calls Tryz.prog 58 #[.pointer (some ⟨b,0,none⟩),.pointer (some ⟨g,0,none⟩)] w (Zbb b g l x S O w p g0 g1 g2 g3 g4 g5 g6 g7 g8 99 (ZsD x l (cv0 p gv 99) s)):=by
 rw[show ZsD x l (cv0 p gv 99) s=(false,{cv0 p gv 99 with arg:=(Zah l p s).1},(Zah l p s).2)from rfl];have rg:=Zw hg _ (Fr.refl _ _);have d:=lt_heap hg;have H:=hid h;have HG:=hid hg;have HC:=hid (Zfq b l x p s S w hl ha (by omega) h);obtain⟨R,hR⟩:∃R,Zah l p s=R:=⟨_,rfl⟩;rw[hR]at HC⊢;obtain⟨ra,rs⟩:=R;clear hg h;go_enter Tryz.func58,Tryz.ntmps58;go_wp2_with fail;refine HC.out.mono ?_;rintro z w1 ⟨rfl,S',h1,a⟩;have c:¬S' g:=fun e=>hgS (a.old g d e);have g1:=a.fr.heap HG.out hgS;have j:=Zw g1 _ (Fr.refl _ _);have g2:=Za g1 11 (.string ⟨ra.toArray⟩);have h2:=h1.setg c 11 (.string ⟨ra.toArray⟩);have f:=(Stp.gs a d).trans (Stp.setg (S:=S') (g:=g) 11 (.string ⟨ra.toArray⟩));have G2:=hid g2;have H2:=hid h2;have i:=hid f;clear g1 g2 h1 h2 a f rg;go_wp2;go_ret;exact⟨.nilIface,.slice none 0 0,S',rfl,G2.out,rfl,PrO.nil _ _,H2.out,i.out,c⟩
theorem ZpV(s:AdS)(w:World)(hl:l.length≤99000)(ha:s.at_≤l.length)(hm:s.marks.length≤100000)(hS:∀k,S k→k<w.heap.size)(hO:∀k,O k→k<w.heap.size)(hgO:O g)(hgS:¬S g)(W0:World)(hE:Env W0)(hW:Fr nob W0 w)(hSW:∀k,S k→W0.heap.size≤k)(hg:w.heap[g]? =some (.cells (cmd20 p g0 g1 g2 g3 g4 g5 g6 g7 g8 114 [] SV.zero .nilIface (.slice none 0 0) []) 35 (0,0)))(h:CRd b l x s S w):
 Calls Tryz.prog 58 #[.pointer (some ⟨b,0,none⟩),.pointer (some ⟨g,0,none⟩)] w (Zbb b g l x S O w p g0 g1 g2 g3 g4 g5 g6 g7 g8 114 (ZsD x l (cv0 p gv 114) s)):=by
 rw[show ZsD x l (cv0 p gv 114) s=(false,{cv0 p gv 114 with arg:=(ZaR l s).1},(ZaR l s).2)from rfl];have rg:=Zw hg _ (Fr.refl _ _);have d:=lt_heap hg;have H:=hid h;have HG:=hid hg;have HC:=hid (ZhT b l x s S w hl ha h);obtain⟨R,hR⟩:∃R,ZaR l s=R:=⟨_,rfl⟩;rw[hR]at HC⊢;obtain⟨ra,rs⟩:=R;clear hg h;go_enter Tryz.func58,Tryz.ntmps58;go_wp2_with fail;refine HC.out.mono ?_;rintro z w1 ⟨rfl,h1,a⟩;obtain⟨S',i⟩:∃S':Nat→Prop,S'=S:=⟨_,rfl⟩;rw[show CRd b l x rs S w1↔CRd b l x rs S' w1 by rw[i]]at h1;rw[show Stp S w S w1↔Stp S w S' w1 by rw[i]]at a;have c:¬S' g:=fun e=>hgS (a.old g d e);have g1:=a.fr.heap HG.out hgS;have m:=Zw g1 _ (Fr.refl _ _);have g2:=Za g1 11 (.string ⟨ra.toArray⟩);have h2:=h1.setg c 11 (.string ⟨ra.toArray⟩);have f:=(Stp.gs a d).trans (Stp.setg (S:=S') (g:=g) 11 (.string ⟨ra.toArray⟩));have G2:=hid g2;have H2:=hid h2;have j:=hid f
 clear g1 g2 h1 h2 a f rg;go_wp2;go_ret;exact⟨.nilIface,.slice none 0 0,S',rfl,G2.out,rfl,PrO.nil _ _,H2.out,j.out,c⟩
theorem ZpW(s:AdS)(w:World)(hl:l.length≤99000)(ha:s.at_≤l.length)(hm:s.marks.length≤100000)(hS:∀k,S k→k<w.heap.size)(hO:∀k,O k→k<w.heap.size)(hgO:O g)(hgS:¬S g)(W0:World)(hE:Env W0)(hW:Fr nob W0 w)(hSW:∀k,S k→W0.heap.size≤k)(hg:w.heap[g]? =some (.cells (cmd20 p g0 g1 g2 g3 g4 g5 g6 g7 g8 119 [] SV.zero .nilIface (.slice none 0 0) []) 35 (0,0)))(h:CRd b l x s S w):
 Calls Tryz.prog 58 #[.pointer (some ⟨b,0,none⟩),.pointer (some ⟨g,0,none⟩)] w (Zbb b g l x S O w p g0 g1 g2 g3 g4 g5 g6 g7 g8 119 (ZsD x l (cv0 p gv 119) s)):=by
 rw[show ZsD x l (cv0 p gv 119) s=(false,{cv0 p gv 119 with arg:=(ZaR l s).1},(ZaR l s).2)from rfl];have rg:=Zw hg _ (Fr.refl _ _);have d:=lt_heap hg;have H:=hid h;have HG:=hid hg;have HC:=hid (ZhT b l x s S w hl ha h);obtain⟨R,hR⟩:∃R,ZaR l s=R:=⟨_,rfl⟩;rw[hR]at HC⊢;obtain⟨ra,rs⟩:=R;clear hg h;go_enter Tryz.func58,Tryz.ntmps58;go_wp2_with fail;refine HC.out.mono ?_;rintro z w1 ⟨rfl,h1,a⟩;obtain⟨S',i⟩:∃S':Nat→Prop,S'=S:=⟨_,rfl⟩;rw[show CRd b l x rs S w1↔CRd b l x rs S' w1 by rw[i]]at h1;rw[show Stp S w S w1↔Stp S w S' w1 by rw[i]]at a;have c:¬S' g:=fun e=>hgS (a.old g d e);have g1:=a.fr.heap HG.out hgS;have m:=Zw g1 _ (Fr.refl _ _);have g2:=Za g1 11 (.string ⟨ra.toArray⟩);have h2:=h1.setg c 11 (.string ⟨ra.toArray⟩);have f:=(Stp.gs a d).trans (Stp.setg (S:=S') (g:=g) 11 (.string ⟨ra.toArray⟩));have G2:=hid g2;have H2:=hid h2;have j:=hid f
 clear g1 g2 h1 h2 a f rg;go_wp2;go_ret;exact⟨.nilIface,.slice none 0 0,S',rfl,G2.out,rfl,PrO.nil _ _,H2.out,j.out,c⟩
theorem ZpX(s:AdS)(w:World)(hl:l.length≤99000)(ha:s.at_≤l.length)(hm:s.marks.length≤100000)(hS:∀k,S k→k<w.heap.size)(hO:∀k,O k→k<w.heap.size)(hgO:O g)(hgS:¬S g)(W0:World)(hE:Env W0)(hW:Fr nob W0 w)(hSW:∀k,S k→W0.heap.size≤k)(hg:w.heap[g]? =some (.cells (cmd20 p g0 g1 g2 g3 g4 g5 g6 g7 g8 121 [] SV.zero .nilIface (.slice none 0 0) []) 35 (0,0)))(h:CRd b l x s S w):
 Calls Tryz.prog 58 #[.pointer (some ⟨b,0,none⟩),.pointer (some ⟨g,0,none⟩)] w (Zbb b g l x S O w p g0 g1 g2 g3 g4 g5 g6 g7 g8 121 (ZsD x l (cv0 p gv 121) s)):=by
 rw[show ZsD x l (cv0 p gv 121) s=(true,{cv0 p gv 121 with table:=(ZaP l s).1},(ZaP l s).2)from rfl];have rg:=Zw hg _ (Fr.refl _ _);have d:=lt_heap hg;have H:=hid h;have HG:=hid hg;have HC:=hid (ZmR b l x s S w hl ha hS h);obtain⟨R,hR⟩:∃R,ZaP l s=R:=⟨_,rfl⟩;rw[hR]at HC⊢;obtain⟨ra,rs⟩:=R;clear hg h;go_enter Tryz.func58,Tryz.ntmps58;go_wp2_with fail;refine HC.out.mono ?_;rintro z w1 ⟨rfl,h1,a⟩;obtain⟨S',i⟩:∃S':Nat→Prop,S'=S:=⟨_,rfl⟩;rw[show CRd b l x rs S w1↔CRd b l x rs S' w1 by rw[i]]at h1;rw[show Stp S w S w1↔Stp S w S' w1 by rw[i]]at a;have c:¬S' g:=fun e=>hgS (a.old g d e);have g1:=a.fr.heap HG.out hgS;have m:=Zw g1 _ (Fr.refl _ _);have g2:=Za g1 19 (.string ⟨ra.toArray⟩);have h2:=h1.setg c 19 (.string ⟨ra.toArray⟩);have f:=(Stp.gs a d).trans (Stp.setg (S:=S') (g:=g) 19 (.string ⟨ra.toArray⟩));have G2:=hid g2;have H2:=hid h2;have j:=hid f
 clear g1 g2 h1 h2 a f rg;go_wp2;go_ret;exact⟨.nilIface,.slice none 0 0,S',rfl,G2.out,rfl,PrO.nil _ _,H2.out,j.out,c⟩
theorem ZpY(s:AdS)(w:World)(hl:l.length≤99000)(ha:s.at_≤l.length)(hm:s.marks.length≤100000)(hS:∀k,S k→k<w.heap.size)(hO:∀k,O k→k<w.heap.size)(hgO:O g)(hgS:¬S g)(W0:World)(hE:Env W0)(hW:Fr nob W0 w)(hSW:∀k,S k→W0.heap.size≤k)(hg:w.heap[g]? =some (.cells (cmd20 p g0 g1 g2 g3 g4 g5 g6 g7 g8 115 [] SV.zero .nilIface (.slice none 0 0) []) 35 (0,0)))(h:CRd b l x s S w):
 Calls Tryz.prog 58 #[.pointer (some ⟨b,0,none⟩),.pointer (some ⟨g,0,none⟩)] w (Zbb b g l x S O w p g0 g1 g2 g3 g4 g5 g6 g7 g8 115 (ZsD x l (cv0 p gv 115) s)):=by
 rw[show ZsD x l (cv0 p gv 115) s=((Zet x l s).1.file==[],{cv0 p gv 115 with sub:=(Zet x l s).1},(Zet x l s).2)from rfl];have rg:=Zw hg _ (Fr.refl _ _);have f:=lt_heap hg;have H:=hid h;have HG:=hid hg;have HC:=hid (Zwo b l x s S O w hl ha hm hS hO W0 hE hW hSW h);obtain⟨R,hR⟩:∃R,Zet x l s=R:=⟨_,rfl⟩;rw[hR]at HC⊢;obtain⟨⟨tx,tr,pt,o,al,pr,fi⟩,rs⟩:=R;simp only;have r:=hid hgO;clear hg h hgO;cases fi with
 |nil=>
  go_enter Tryz.func58,Tryz.ntmps58;go_wp2_with fail;refine HC.out.mono ?_;rintro z w1 ⟨u,pv,S',rfl,rn,po,h1,a⟩;obtain⟨pa,pc,rfl⟩:=Zb po.1;rcases rn.shape with rfl|⟨iu,yu,rfl⟩
  ·have d:¬S' g:=fun e=>hgS (a.old g f e);have g1:=a.fr.heap HG.out hgS;have B:=Zw g1 _ (Fr.refl _ _);obtain⟨w2,c⟩:∃w2,w2=Zcw w1 g (.string ⟨tx.toArray⟩) .nilIface (.slice pa pt.length pc) (.int .i64 o) (.bool al) (.bool pr) (.string ⟨#[]⟩):=⟨_,rfl⟩;have f2:Fr (fun k=>k=g) w1 w2:=by rw[c];exact Zcl _ _ _ _ _ _ _ _ _
   have g2:=ZbU g1 (.string ⟨tx.toArray⟩) .nilIface (.slice pa pt.length pc) (.int .i64 o) (.bool al) (.bool pr) (.string ⟨#[]⟩);rw[←c]at g2;have A:=Zw g2 _ (Fr.refl _ _);have h2:=h1.keep f2 (fun k hk e=>d (by have hk:k=g:=hk;rw[←hk];exact e));have m:Stp (GS S g) w (GS S' g) w2:=⟨(Stp.gs a f).fr.trans f2 (fun k hk e=>.inr e),(Stp.gs a f).old,fun q k hk=>Nat.lt_of_lt_of_le ((Stp.gs a f).lt q k hk) f2.size⟩;have j:=RN.keep f2 (fun k _ hk=>by have hk:k=g:=hk;rw[hk];exact .inr r.out) (fun _ _ hk=>hk) _ _ rn;have i:=po.keep f2 (fun k hk=>by have hk:k=g:=hk;rw[hk];exact .inr r.out) (fun _ _ hk=>hk);dsimp only[Zcw]at c;have n:=hid c;have G2:=hid g2;have H2:=hid h2;have t:=hid m;have v:=hid j;have y:=hid i;clear g1 g2 h1 h2 a m rg rn j po i c f2;go_wp2_with(rw[←n.out]);go_ret;(try rw[←n.out]);exact⟨.nilIface,.slice pa pt.length pc,S',rfl,G2.out,v.out,y.out,H2.out,t.out,d⟩
  ·have d:¬S' g:=fun e=>hgS (a.old g f e);have g1:=a.fr.heap HG.out hgS;have B:=Zw g1 _ (Fr.refl _ _);obtain⟨w2,c⟩:∃w2,w2=Zcw w1 g (.string ⟨tx.toArray⟩) (.iface iu yu) (.slice pa pt.length pc) (.int .i64 o) (.bool al) (.bool pr) (.string ⟨#[]⟩):=⟨_,rfl⟩;have f2:Fr (fun k=>k=g) w1 w2:=by rw[c];exact Zcl _ _ _ _ _ _ _ _ _
   have g2:=ZbU g1 (.string ⟨tx.toArray⟩) (.iface iu yu) (.slice pa pt.length pc) (.int .i64 o) (.bool al) (.bool pr) (.string ⟨#[]⟩);rw[←c]at g2;have A:=Zw g2 _ (Fr.refl _ _);have h2:=h1.keep f2 (fun k hk e=>d (by have hk:k=g:=hk;rw[←hk];exact e));have m:Stp (GS S g) w (GS S' g) w2:=⟨(Stp.gs a f).fr.trans f2 (fun k hk e=>.inr e),(Stp.gs a f).old,fun q k hk=>Nat.lt_of_lt_of_le ((Stp.gs a f).lt q k hk) f2.size⟩;have j:=RN.keep f2 (fun k _ hk=>by have hk:k=g:=hk;rw[hk];exact .inr r.out) (fun _ _ hk=>hk) _ _ rn;have i:=po.keep f2 (fun k hk=>by have hk:k=g:=hk;rw[hk];exact .inr r.out) (fun _ _ hk=>hk);dsimp only[Zcw]at c;have n:=hid c;have G2:=hid g2;have H2:=hid h2;have t:=hid m;have v:=hid j;have y:=hid i;clear g1 g2 h1 h2 a m rg rn j po i c f2;go_wp2_with(rw[←n.out]);go_ret;(try rw[←n.out]);exact⟨.iface iu yu,.slice pa pt.length pc,S',rfl,G2.out,v.out,y.out,H2.out,t.out,d⟩
 |cons fc fr=>
  go_enter Tryz.func58,Tryz.ntmps58;go_wp2_with fail;refine HC.out.mono ?_;rintro z w1 ⟨u,pv,S',rfl,rn,po,h1,a⟩;obtain⟨pa,pc,rfl⟩:=Zb po.1;rcases rn.shape with rfl|⟨iu,yu,rfl⟩
  ·have d:¬S' g:=fun e=>hgS (a.old g f e);have g1:=a.fr.heap HG.out hgS;have B:=Zw g1 _ (Fr.refl _ _);obtain⟨w2,c⟩:∃w2,w2=Zcw w1 g (.string ⟨tx.toArray⟩) .nilIface (.slice pa pt.length pc) (.int .i64 o) (.bool al) (.bool pr) (.string ⟨(fc::fr).toArray⟩):=⟨_,rfl⟩;have f2:Fr (fun k=>k=g) w1 w2:=by rw[c];exact Zcl _ _ _ _ _ _ _ _ _
   have g2:=ZbU g1 (.string ⟨tx.toArray⟩) .nilIface (.slice pa pt.length pc) (.int .i64 o) (.bool al) (.bool pr) (.string ⟨(fc::fr).toArray⟩);rw[←c]at g2;have A:=Zw g2 _ (Fr.refl _ _);have h2:=h1.keep f2 (fun k hk e=>d (by have hk:k=g:=hk;rw[←hk];exact e));have m:Stp (GS S g) w (GS S' g) w2:=⟨(Stp.gs a f).fr.trans f2 (fun k hk e=>.inr e),(Stp.gs a f).old,fun q k hk=>Nat.lt_of_lt_of_le ((Stp.gs a f).lt q k hk) f2.size⟩;have j:=RN.keep f2 (fun k _ hk=>by have hk:k=g:=hk;rw[hk];exact .inr r.out) (fun _ _ hk=>hk) _ _ rn;have i:=po.keep f2 (fun k hk=>by have hk:k=g:=hk;rw[hk];exact .inr r.out) (fun _ _ hk=>hk);dsimp only[Zcw]at c;have n:=hid c;have G2:=hid g2;have H2:=hid h2;have t:=hid m;have v:=hid j;have y:=hid i;clear g1 g2 h1 h2 a m rg rn j po i c f2;go_wp2_with(rw[←n.out]);go_ret;(try rw[←n.out]);exact⟨.nilIface,.slice pa pt.length pc,S',rfl,G2.out,v.out,y.out,H2.out,t.out,d⟩
  ·have d:¬S' g:=fun e=>hgS (a.old g f e);have g1:=a.fr.heap HG.out hgS;have B:=Zw g1 _ (Fr.refl _ _);obtain⟨w2,c⟩:∃w2,w2=Zcw w1 g (.string ⟨tx.toArray⟩) (.iface iu yu) (.slice pa pt.length pc) (.int .i64 o) (.bool al) (.bool pr) (.string ⟨(fc::fr).toArray⟩):=⟨_,rfl⟩;have f2:Fr (fun k=>k=g) w1 w2:=by rw[c];exact Zcl _ _ _ _ _ _ _ _ _
   have g2:=ZbU g1 (.string ⟨tx.toArray⟩) (.iface iu yu) (.slice pa pt.length pc) (.int .i64 o) (.bool al) (.bool pr) (.string ⟨(fc::fr).toArray⟩);rw[←c]at g2;have A:=Zw g2 _ (Fr.refl _ _);have h2:=h1.keep f2 (fun k hk e=>d (by have hk:k=g:=hk;rw[←hk];exact e));have m:Stp (GS S g) w (GS S' g) w2:=⟨(Stp.gs a f).fr.trans f2 (fun k hk e=>.inr e),(Stp.gs a f).old,fun q k hk=>Nat.lt_of_lt_of_le ((Stp.gs a f).lt q k hk) f2.size⟩;have j:=RN.keep f2 (fun k _ hk=>by have hk:k=g:=hk;rw[hk];exact .inr r.out) (fun _ _ hk=>hk) _ _ rn;have i:=po.keep f2 (fun k hk=>by have hk:k=g:=hk;rw[hk];exact .inr r.out) (fun _ _ hk=>hk);dsimp only[Zcw]at c;have n:=hid c;have G2:=hid g2;have H2:=hid h2;have t:=hid m;have v:=hid j;have y:=hid i;clear g1 g2 h1 h2 a m rg rn j po i c f2;go_wp2_with(rw[←n.out]);go_ret;(try rw[←n.out]);exact⟨.iface iu yu,.slice pa pt.length pc,S',rfl,G2.out,v.out,y.out,H2.out,t.out,d⟩
theorem ZmS(n:UInt8)(s:AdS)(w:World)(hl:l.length≤99000)(ha:s.at_≤l.length)(hm:s.marks.length≤100000)(hS:∀k,S k→k<w.heap.size)(hO:∀k,O k→k<w.heap.size)(hgO:O g)(hgS:¬S g)(W0:World)(hE:Env W0)(hW:Fr nob W0 w)(hSW:∀k,S k→W0.heap.size≤k)(hg:w.heap[g]? =some (.cells (cmd20 p g0 g1 g2 g3 g4 g5 g6 g7 g8 n [] SV.zero .nilIface (.slice none 0 0) []) 35 (0,0)))(h:CRd b l x s S w)(n123:n≠123)(n125:n≠125)(n58:n≠58)(n98:n≠98)(n116:n≠116)(n84:n≠84)(n97:n≠97)(n105:n≠105)(n99:n≠99)(n114:n≠114)(n119:n≠119)(n115:n≠115)(n121:n≠121):
 Calls Tryz.prog 58 #[.pointer (some ⟨b,0,none⟩),.pointer (some ⟨g,0,none⟩)] w (Zbb b g l x S O w p g0 g1 g2 g3 g4 g5 g6 g7 g8 n (ZsD x l (cv0 p gv n) s)):=by
 rw[show ZsD x l (cv0 p gv n) s=(true,cv0 p gv n,s) by
  unfold ZsD;simp only[n123,n125,n58,n98,n116,n84,n97,n105,n99,n114,n119,n115,n121,or_self,if_false]]
 have rg:=Zw hg _ (Fr.refl _ _);have H:=hid h;have HG:=hid hg;have c:((n.toNat:Int)==123)=false:=ZbD n123;have j:((n.toNat:Int)==125)=false:=ZbD n125;have r:((n.toNat:Int)==58)=false:=ZbD n58;have q:((n.toNat:Int)==98)=false:=ZbD n98;have e:((n.toNat:Int)==116)=false:=ZbD n116;have t:((n.toNat:Int)==84)=false:=ZbD n84;have u:((n.toNat:Int)==97)=false:=ZbD n97;have d:((n.toNat:Int)==105)=false:=ZbD n105;have o:((n.toNat:Int)==99)=false:=ZbD n99;have f:((n.toNat:Int)==114)=false:=ZbD n114;have m:((n.toNat:Int)==119)=false:=ZbD n119;have a:((n.toNat:Int)==115)=false:=ZbD n115;have i:((n.toNat:Int)==121)=false:=ZbD n121;clear n123 n125 n58 n98 n116 n84 n97 n105 n99 n114 n119 n115 n121 hg h;go_enter Tryz.func58,Tryz.ntmps58;go_wp2;go_ret;exact⟨.nilIface,.slice none 0 0,S,rfl,HG.out,rfl,PrO.nil _ _,H.out,Stp.refl _ _,hgS⟩
theorem Zlj(n:UInt8)(s:AdS)(w:World)(hl:l.length≤99000)(ha:s.at_≤l.length)(hm:s.marks.length≤100000)(hS:∀k,S k→k<w.heap.size)(hO:∀k,O k→k<w.heap.size)(hgO:O g)(hgS:¬S g)(W0:World)(hE:Env W0)(hW:Fr nob W0 w)(hSW:∀k,S k→W0.heap.size≤k)(hg:w.heap[g]? =some (.cells (cmd20 p g0 g1 g2 g3 g4 g5 g6 g7 g8 n [] SV.zero .nilIface (.slice none 0 0) []) 35 (0,0)))(h:CRd b l x s S w):
 Calls Tryz.prog 58 #[.pointer (some ⟨b,0,none⟩),.pointer (some ⟨g,0,none⟩)] w (Zbb b g l x S O w p g0 g1 g2 g3 g4 g5 g6 g7 g8 n (ZsD x l (cv0 p gv n) s)):=by
 by_cases f:n=123
 ·subst f;exact ZpR b g l x S O p gv g0 g1 g2 g3 g4 g5 g6 g7 g8 s w hl ha hm hS hO hgO hgS W0 hE hW hSW hg h
 by_cases m:n=125
 ·subst m;exact ZpS b g l x S O p gv g0 g1 g2 g3 g4 g5 g6 g7 g8 s w hl ha hm hS hO hgO hgS W0 hE hW hSW hg h
 by_cases u:n=58
 ·subst u;exact ZqF b g l x S O p gv g0 g1 g2 g3 g4 g5 g6 g7 g8 s w hl ha hm hS hO hgO hgS W0 hE hW hSW hg h
 by_cases o:n=98
 ·subst o;exact ZqG b g l x S O p gv g0 g1 g2 g3 g4 g5 g6 g7 g8 s w hl ha hm hS hO hgO hgS W0 hE hW hSW hg h
 by_cases c:n=116
 ·subst c;exact ZpT b g l x S O p gv g0 g1 g2 g3 g4 g5 g6 g7 g8 s w hl ha hm hS hO hgO hgS W0 hE hW hSW hg h
 by_cases q:n=84
 ·subst q;exact ZqH b g l x S O p gv g0 g1 g2 g3 g4 g5 g6 g7 g8 s w hl ha hm hS hO hgO hgS W0 hE hW hSW hg h
 by_cases t:n=97
 ·subst t;exact ZqI b g l x S O p gv g0 g1 g2 g3 g4 g5 g6 g7 g8 s w hl ha hm hS hO hgO hgS W0 hE hW hSW hg h
 by_cases a:n=105
 ·subst a;exact ZpU b g l x S O p gv g0 g1 g2 g3 g4 g5 g6 g7 g8 s w hl ha hm hS hO hgO hgS W0 hE hW hSW hg h
 by_cases r:n=99
 ·subst r;exact ZqJ b g l x S O p gv g0 g1 g2 g3 g4 g5 g6 g7 g8 s w hl ha hm hS hO hgO hgS W0 hE hW hSW hg h
 by_cases e:n=114
 ·subst e;exact ZpV b g l x S O p gv g0 g1 g2 g3 g4 g5 g6 g7 g8 s w hl ha hm hS hO hgO hgS W0 hE hW hSW hg h
 by_cases i:n=119
 ·subst i;exact ZpW b g l x S O p gv g0 g1 g2 g3 g4 g5 g6 g7 g8 s w hl ha hm hS hO hgO hgS W0 hE hW hSW hg h
 by_cases j:n=115
 ·subst j;exact ZpY b g l x S O p gv g0 g1 g2 g3 g4 g5 g6 g7 g8 s w hl ha hm hS hO hgO hgS W0 hE hW hSW hg h
 by_cases d:n=121
 ·subst d;exact ZpX b g l x S O p gv g0 g1 g2 g3 g4 g5 g6 g7 g8 s w hl ha hm hS hO hgO hgS W0 hE hW hSW hg h
 exact ZmS b g l x S O p gv g0 g1 g2 g3 g4 g5 g6 g7 g8 n s w hl ha hm hS hO hgO hgS W0 hE hW hSW hg h f m u o c q t a r e i j d
end
theorem Zq{w:World}{k:Nat}{o:Obj}(h:w.heap[k]? =some o):w.drew.heap[k]? =some o:=h
abbrev B5(w:World)(b:Nat)(v0 v1 v2 v3 v4:Value):Prop:=w.cell? ⟨b,0,none⟩=some v0∧w.cell? ⟨b,1,none⟩=some v1∧w.cell? ⟨b,2,none⟩=some v2∧w.cell? ⟨b,3,none⟩=some v3∧w.cell? ⟨b,4,none⟩=some v4
section
variable {w:World} {b k j:Nat} {v0 v1 v2 v3 v4:Value}
theorem B5.of{T:TypeId}{fr:Nat×Nat}(h:w.heap[b]? =some (.cells #[v0,v1,v2,v3,v4] T fr)):B5 w b v0 v1 v2 v3 v4:=⟨cell_at h rfl,cell_at h rfl,cell_at h rfl,cell_at h rfl,cell_at h rfl⟩
theorem B5.drew(h:B5 w b v0 v1 v2 v3 v4):B5 w.drew b v0 v1 v2 v3 v4:=h
theorem B5.set(h:B5 w b v0 v1 v2 v3 v4)(hb:k≠b)(u:Value):B5 (w.setCell ⟨k,j,none⟩ u) b v0 v1 v2 v3 v4:=⟨Zm h.1 hb,Zm h.2.1 hb,Zm h.2.2.1 hb,Zm h.2.2.2.1 hb,Zm h.2.2.2.2 hb⟩
end
theorem Zlk(l:List UInt8)(p:Nat)(x:Bool)(w:World)(hl:l.length≤99000)(hp:p≤l.length)(hE:Env w)(z:Int)(q:Nat)(hR:ZX x l ⟨p,[],0⟩=.inl (z,q)):
 Calls Tryz.prog 29 #[.string ⟨l.toArray⟩,.int .i64 (p:Nat),.bool x] w fun e w'=>e=.returned (.tuple #[.agg zG,.slice none 0 0,.int .i64 (q:Nat),.int .i64 z])∧Fr nob w w':=by
 have u:¬z=0:=guardD_err hR;have V:(z==0)=false:=by simpa using u
 have S:(z !=0)=true:=by simpa using u
 obtain⟨w1,c⟩:∃w1,w1=w.alloc (.cells zG 30):=⟨_,rfl⟩;have f1:Fr nob w w1:=by rw[c];exact(Fr.refl _ _).alloc _
 have hz:w1.heap[w.heap.size]? =some (.cells zG 30 (0,0)):=by rw[c];exact newAt _ _
 have g:w1.heap.size=w.heap.size+1:=by rw[c];simp
 obtain⟨w2,d⟩:∃w2,w2=w1.alloc (.cells #[.string ⟨l.toArray⟩,.int .i64 (p:Nat),.bool x,.slice none 0 0,.int .i64 0] 116):=⟨_,rfl⟩;have f2:Fr nob w1 w2:=by rw[d];exact(Fr.refl _ _).alloc _
 have hb:w2.heap[w.heap.size+1]? =some (.cells #[.string ⟨l.toArray⟩,.int .i64 (p:Nat),.bool x,.slice none 0 0,.int .i64 0] 116 (0,0)):=by
  rw[d,←g];exact newAt _ _
 have C:w2.heap.size=w.heap.size+2:=by rw[d];simp[g]
 have hA:ARd (w.heap.size+1) l x ⟨p,[],0⟩ (fun k=>k=w.heap.size+1) w2:=⟨.slice none 0 0,⟨hb,World.ownsRow_nil _ _ _ _,fun _ h=>(by cases h),rfl⟩⟩;have hG:=Ziv (w.heap.size+1) l x p (fun k=>k=w.heap.size+1) (fun k=>k=w.heap.size) w2 hl hp (fun k hk=>by omega) (fun k hk=>by omega) w hE (f1.trans' f2) (fun k hk=>by omega) hA;rw[hR]at hG;have t:=f2.heap hz (fun x=>x);have q1:¬(l.length:Int)<(p:Int):=by omega
 have HG:=hid hG;have F:=hid c;have P:=hid d;have E:=hid (f1.trans' f2);have HZ:=hid t;have U:=hid C;have K:=hid g;clear hG c d f1 f2 hz t hb hA g C hE hR;go_enter Tryz.func29,Tryz.ntmps29;go_wp2_with(first|rw[←F.out]|rw[K.out]|rw[←P.out]);refine HG.out.mono ?_;intro e w3 he;obtain⟨gv,v,S',ms,rfl,⟨u1,u2,rfl,r,s⟩,N,o⟩:=he;obtain⟨Q,h3⟩:=N;have y:=o.fr.heap HZ.out (fun h=>by omega);have R:w.heap.size≠w.heap.size+1:=by omega
 have FF:=hid (E.out.trans o.fr (fun i hi h=>by omega));obtain⟨w4,n⟩:∃w4,w4=w3.alloc (.cells #[.int .i64 gv.a.kind,.int .i64 gv.a.line,.string ⟨gv.a.text.toArray⟩,u1,.int .i64 gv.b.kind,.int .i64 gv.b.line,.string ⟨gv.b.text.toArray⟩,u2,.bool gv.no] 30):=⟨_,rfl⟩;have f4:Fr nob w3 w4:=by rw[n];exact(Fr.refl _ _).alloc _
 have j:=f4.heap h3.blk (fun x=>x);have m:=f4.heap y (fun x=>x);have r4:=Zd j _ (Fr.refl _ _);have HQ:=hid (B5.of j);have J:=hid (B5.drew (B5.of j));have rz:=Zk m;have H:=hid n;have I:=hid m;have D:=hid (FF.out.trans' f4);have M:=r.shape;have O:=s.shape;clear r s n f4 j m h3 y o;rcases M with rfl|⟨i1,y1,rfl⟩
 all_goals rcases O with rfl|⟨i2,y2,rfl⟩
 all_goals
  go_wp2_with(rw[←H.out])
  go_region_held3 (fun w'=>B5 w' (w.heap.size+1) (.string ⟨l.toArray⟩) (.int .i64 (q:Nat)) (.bool x) Q (.int .i64 z)) (repeat(first|(with_reducible exact HQ.out)|(with_reducible exact J.out)|(with_reducible refine B5.set ?_ (by omega) _)|(with_reducible refine B5.drew ?_))) (fail)
 all_goals
  obtain⟨w5,f⟩:∃w5,w5=(((((((((w4.setCell ⟨w.heap.size,0,none⟩ (.int .i64 0)).setCell ⟨w.heap.size,1,none⟩ (.int .i64 0)).setCell ⟨w.heap.size,2,none⟩ (.string ⟨#[]⟩)).setCell ⟨w.heap.size,3,none⟩ .nilIface).setCell ⟨w.heap.size,4,none⟩ (.int .i64 0)).setCell ⟨w.heap.size,5,none⟩ (.int .i64 0)).setCell ⟨w.heap.size,6,none⟩ (.string ⟨#[]⟩)).setCell ⟨w.heap.size,7,none⟩ .nilIface).setCell ⟨w.heap.size,8,none⟩ (.bool false)).drew:=⟨_,rfl⟩;rw[←f];have B:w5.heap[w.heap.size]? =some (.cells zG 30 (0,0)):=by rw[f];exact Zq (Zf I.out (.int .i64 0) (.int .i64 0) (.string ⟨#[]⟩) .nilIface (.int .i64 0) (.int .i64 0) (.string ⟨#[]⟩) .nilIface (.bool false))
  have A:Fr nob w w5:=by rw[f];exact(Zjh D.out (Nat.le_refl _) (.int .i64 0) (.int .i64 0) (.string ⟨#[]⟩) .nilIface (.int .i64 0) (.int .i64 0) (.string ⟨#[]⟩) .nilIface (.bool false)).drew
  have G:=hid B;have L:=hid A;clear f B A rz r4;go_wp2;(try simp only[Exit.inBlock,Exit.then]);exact bodyPost_ret (ZbB rfl rfl G.out) rfl ⟨rfl,L.out⟩
theorem BC.drew{w:World}{b c:Nat}{v0 v1 v2 v3 v4 u0 u1 u2 u3 u4 u5 u6 u7 u8:Value}(h:B5 w b v0 v1 v2 v3 v4∧C9 w c u0 u1 u2 u3 u4 u5 u6 u7 u8):B5 w.drew b v0 v1 v2 v3 v4∧C9 w.drew c u0 u1 u2 u3 u4 u5 u6 u7 u8:=h
theorem BC.set{w:World}{b c k j:Nat}{v0 v1 v2 v3 v4 u0 u1 u2 u3 u4 u5 u6 u7 u8:Value}(h:B5 w b v0 v1 v2 v3 v4∧C9 w c u0 u1 u2 u3 u4 u5 u6 u7 u8)(hb:k≠b)(hc:k≠c)(u:Value):B5 (w.setCell ⟨k,j,none⟩ u) b v0 v1 v2 v3 v4∧C9 (w.setCell ⟨k,j,none⟩ u) c u0 u1 u2 u3 u4 u5 u6 u7 u8:=by
 obtain⟨h1,c0,c1,c2,c3,c4,c5,c6,c7,c8⟩:=h;exact⟨h1.set hb u,Zm c0 hc,Zm c1 hc,Zm c2 hc,Zm c3 hc,Zm c4 hc,Zm c5 hc,Zm c6 hc,Zm c7 hc,Zm c8 hc⟩
abbrev PgK(w':World)(b c:Nat)(l:List UInt8)(q:Nat)(x:Bool)(am:Option Addr)(ms:List (Nat×List UInt8))(cm:Nat)(gv:GV)(U1 U2:Value):Prop:=
 B5 w' b (.string ⟨l.toArray⟩) (.int .i64 (q:Nat)) (.bool x) (.slice am ms.length cm) (.int .i64 0)∧C9 w' c (.int .i64 gv.a.kind) (.int .i64 gv.a.line) (.string ⟨gv.a.text.toArray⟩) U1 (.int .i64 gv.b.kind) (.int .i64 gv.b.line) (.string ⟨gv.b.text.toArray⟩) U2 (.bool gv.no)
abbrev PgW(w4:World)(b:Nat)(gv:GV)(U1 U2:Value):World:=(ZcB w4 b (.int .i64 gv.a.kind) (.int .i64 gv.a.line) (.string ⟨gv.a.text.toArray⟩) U1 (.int .i64 gv.b.kind) (.int .i64 gv.b.line) (.string ⟨gv.b.text.toArray⟩) U2 (.bool gv.no)).drew
abbrev PgC(gv:GV)(U1 U2:Value):Array Value:= #[.int .i64 gv.a.kind,.int .i64 gv.a.line,.string ⟨gv.a.text.toArray⟩,U1,.int .i64 gv.b.kind,.int .i64 gv.b.line,.string ⟨gv.b.text.toArray⟩,U2,.bool gv.no]
theorem ZxO{w w4:World}{gv:GV}{ms:List (Nat×List UInt8)}{am:Option Addr}{cm:Nat}{S' O0:Nat→Prop}{U1 U2:Value}(hz4:w4.heap[w.heap.size]? =some (.cells zG 30 (0,0)))(ff4:Fr nob w w4)
 (rn1:RN (SO S' fun k=>k=w.heap.size∨O0 k) w4 gv.a.tree U1) (rn2:RN (SO S' fun k=>k=w.heap.size∨O0 k) w4 gv.b.tree U2) (ma:OwM w4 ms (.slice am ms.length cm)) (nr:∀k,(Value.slice am ms.length cm).ownBlock=some k→¬k=w.heap.size)
 (ht1:∀k,(Value.slice am ms.length cm).ownBlock=some k→S' k) (ht4:∀k,S' k→w.heap.size≤k∧k<w4.heap.size):
 (PgW w4 w.heap.size gv U1 U2).heap[w.heap.size]? =some (.cells (PgC gv U1 U2) 30 (0,0))∧
 Zni nob (PgW w4 w.heap.size gv U1 U2) gv (.agg (PgC gv U1 U2))∧OwM (PgW w4 w.heap.size gv U1 U2) ms (.slice am ms.length cm)∧Fr nob w (PgW w4 w.heap.size gv U1 U2)∧
 ∃T:Nat→Prop,(∀k,(Value.slice am ms.length cm).ownBlock=some k→T k)∧(∀k,T k→w.heap.size≤k∧k<(PgW w4 w.heap.size gv U1 U2).heap.size)∧Zni (SO T O0) (PgW w4 w.heap.size gv U1 U2) gv (.agg (PgC gv U1 U2)):=by
 have c:Fr (fun k=>k=w.heap.size) w4 (PgW w4 w.heap.size gv U1 U2):=(Zas (.int .i64 gv.a.kind) (.int .i64 gv.a.line) (.string ⟨gv.a.text.toArray⟩) U1 (.int .i64 gv.b.kind) (.int .i64 gv.b.line) (.string ⟨gv.b.text.toArray⟩) U2 (.bool gv.no)).drew;refine⟨Zq (Zf hz4 (.int .i64 gv.a.kind) (.int .i64 gv.a.line) (.string ⟨gv.a.text.toArray⟩) U1 (.int .i64 gv.b.kind) (.int .i64 gv.b.line) (.string ⟨gv.b.text.toArray⟩) U2 (.bool gv.no)),⟨_,_,rfl,?_,?_⟩,ownsRow_fr ma c (fun k hk h=>nr k hk h),ff4.trans c (fun i hi h=>by have h:i=w.heap.size:=h;omega),S',ht1,fun k hk=>⟨(ht4 k hk).1,by have:=c.size;have:=(ht4 k hk).2;omega⟩,⟨_,_,rfl,?_,?_⟩⟩
 ·exact RN.keep c (fun k _ h=>.inr (.inl h)) (fun _ _ x=>x.elim) _ _ rn1
 ·exact RN.keep c (fun k _ h=>.inr (.inl h)) (fun _ _ x=>x.elim) _ _ rn2
 ·exact RN.keep c (fun k _ h=>.inr (.inl h)) (fun _ _ x=>x.elim .inl (fun e=>.inr (.inr e))) _ _ rn1
 ·exact RN.keep c (fun k _ h=>.inr (.inl h)) (fun _ _ x=>x.elim .inl (fun e=>.inr (.inr e))) _ _ rn2
theorem ZgQ(l:List UInt8)(p:Nat)(x:Bool)(w:World)(hl:l.length≤99000)(hp:p≤l.length)(hE:Env w)(gv:GV)(q:Nat)(ms:List (Nat×List UInt8))(hR:ZX x l ⟨p,[],0⟩=.inr (gv,⟨q,ms,0⟩))(O0:Nat→Prop)(hO0:∀k,O0 k→k<w.heap.size):
 Calls Tryz.prog 29 #[.string ⟨l.toArray⟩,.int .i64 (p:Nat),.bool x] w fun e w'=>∃v mv,e=.returned (.tuple #[v,mv,.int .i64 (q:Nat),.int .i64 0])∧Zni nob w' gv v∧OwM w' ms mv∧Fr nob w w'∧∃T:Nat→Prop,(∀k,mv.ownBlock=some k→T k)∧(∀k,T k→w.heap.size≤k∧k<w'.heap.size)∧Zni (SO T O0) w' gv v:=by
 obtain⟨w1,d⟩:∃w1,w1=w.alloc (.cells zG 30):=⟨_,rfl⟩;have f1:Fr nob w w1:=by rw[d];exact(Fr.refl _ _).alloc _
 have hz:w1.heap[w.heap.size]? =some (.cells zG 30 (0,0)):=by rw[d];exact newAt _ _
 have s:w1.heap.size=w.heap.size+1:=by rw[d];simp
 obtain⟨w2,f⟩:∃w2,w2=w1.alloc (.cells #[.string ⟨l.toArray⟩,.int .i64 (p:Nat),.bool x,.slice none 0 0,.int .i64 0] 116):=⟨_,rfl⟩;have f2:Fr nob w1 w2:=by rw[f];exact(Fr.refl _ _).alloc _
 have hb:w2.heap[w.heap.size+1]? =some (.cells #[.string ⟨l.toArray⟩,.int .i64 (p:Nat),.bool x,.slice none 0 0,.int .i64 0] 116 (0,0)):=by
  rw[f,←s];exact newAt _ _
 have J:w2.heap.size=w.heap.size+2:=by rw[f];simp[s]
 have hA:ARd (w.heap.size+1) l x ⟨p,[],0⟩ (fun k=>k=w.heap.size+1) w2:=⟨.slice none 0 0,⟨hb,World.ownsRow_nil _ _ _ _,fun _ h=>(by cases h),rfl⟩⟩;have hG:=Ziv (w.heap.size+1) l x p (fun k=>k=w.heap.size+1) (fun k=>k=w.heap.size∨O0 k) w2 hl hp (fun k hk=>by omega) (fun k hk=>by rcases hk with hk|hk;(·omega);(·have:=hO0 k hk;omega)) w hE (f1.trans' f2) (fun k hk=>by omega) hA;rw[hR]at hG;have K:=f2.heap hz (fun x=>x);have q1:¬(l.length:Int)<(p:Int):=by omega
 have HG:=hid hG;have R:=hid d;have W:=hid f;have P:=hid (f1.trans' f2);have HZ:=hid K;have A:=hid J;have S:=hid s;clear hG d f f1 f2 hz K hb hA s J hE hR;go_enter Tryz.func29,Tryz.ntmps29;go_wp2_with(first|rw[←R.out]|rw[S.out]|rw[←W.out]);refine HG.out.mono ?_;intro e w3 he;obtain⟨v,S',rfl,⟨u1,u2,rfl,B,E⟩,V,c⟩:=he;obtain⟨N,h3⟩:=V;have M:=c.fr.heap HZ.out (fun h=>by omega);have Z:w.heap.size≠w.heap.size+1:=by omega
 have Y:w.heap.size≠w3.heap.size:=by have:=c.fr.size;have:=A.out;omega
 have FF:=hid (P.out.trans c.fr (fun i hi h=>by omega));have G:∀k,N.ownBlock=some k→¬k=w.heap.size:=fun k hk e=>by
  have h1:=(h3.nm k hk).2;have h2:=c.old k (by have:=A.out;omega) h1;have h2:k=w.heap.size+1:=h2;omega
 have H:∀k,N.ownBlock=some k→S' k:=fun k hk=>(h3.nm k hk).2;have I:∀k,S' k→w.heap.size≤k∧k<w3.heap.size:=fun k hk=>⟨by
  by_cases ho:k<w2.heap.size
  ·have h2:k=w.heap.size+1:=c.old k ho hk;omega
  ·have:=A.out;omega,c.lt (fun i (hi:i=w.heap.size+1)=>by have:=A.out;omega) k hk⟩
 have z:=hid H;have L:=hid I;clear H I;obtain⟨w4,t⟩:∃w4,w4=w3.alloc (.cells #[.int .i64 gv.a.kind,.int .i64 gv.a.line,.string ⟨gv.a.text.toArray⟩,u1,.int .i64 gv.b.kind,.int .i64 gv.b.line,.string ⟨gv.b.text.toArray⟩,u2,.bool gv.no] 30):=⟨_,rfl⟩;have f4:Fr nob w3 w4:=by rw[t];exact(Fr.refl _ _).alloc _
 have D:w4.heap[w3.heap.size]? =some (.cells #[.int .i64 gv.a.kind,.int .i64 gv.a.line,.string ⟨gv.a.text.toArray⟩,u1,.int .i64 gv.b.kind,.int .i64 gv.b.line,.string ⟨gv.b.text.toArray⟩,u2,.bool gv.no] 30 (0,0)):=by rw[t];exact newAt _ _
 have j:=f4.heap h3.blk (fun x=>x);have F:=h3.ma;obtain⟨am,cm,U⟩:=Zb F;subst U;have C:=f4.heap M (fun x=>x);have r4:=Zd j _ (Fr.refl _ _);have HQ:=hid (And.intro (B5.of j) (C9.of D));have g:=hid (BC.drew (And.intro (B5.of j) (C9.of D)));have rz:=Zk C;have n:=hid (show∀k,S' k→w.heap.size≤k∧k<w4.heap.size from fun k hk=>⟨(L.out k hk).1,by have:=f4.size;have:=(L.out k hk).2;omega⟩);have o:=hid t;have r:=hid C;have m:=hid (FF.out.trans' f4);have y:=hid (B.on f4);have u:=hid (E.on f4);have MA:=hid (ownsRow_fr F f4 (fun _ _ x=>x));have NR:=hid G;have Q:=B.shape;have O:=E.shape;clear B E t f4 j C h3 M c D F G;rcases Q with rfl|⟨i1,y1,rfl⟩
 all_goals rcases O with rfl|⟨i2,y2,rfl⟩
 ·go_wp2_with(rw[←o.out])
  go_region_held3 (fun w'=>PgK w' (w.heap.size+1) w3.heap.size l q x am ms cm gv .nilIface .nilIface) (repeat(first|(with_reducible exact HQ.out)|(with_reducible exact g.out)|(with_reducible refine BC.set ?_ (by omega) (by omega) _)|(with_reducible refine BC.drew ?_))) (fail)
  all_goals
   go_wp2;(try simp only[Exit.inBlock,Exit.then]);have X:=ZxO r.out m.out y.out u.out MA.out NR.out z.out n.out;exact bodyPost_ret (ZbB rfl rfl X.1) rfl ⟨_,_,rfl,X.2⟩
 ·go_wp2_with(rw[←o.out])
  go_region_held3 (fun w'=>PgK w' (w.heap.size+1) w3.heap.size l q x am ms cm gv .nilIface (.iface i2 y2)) (repeat(first|(with_reducible exact HQ.out)|(with_reducible exact g.out)|(with_reducible refine BC.set ?_ (by omega) (by omega) _)|(with_reducible refine BC.drew ?_))) (fail)
  all_goals
   go_wp2;(try simp only[Exit.inBlock,Exit.then]);have X:=ZxO r.out m.out y.out u.out MA.out NR.out z.out n.out;exact bodyPost_ret (ZbB rfl rfl X.1) rfl ⟨_,_,rfl,X.2⟩
 ·go_wp2_with(rw[←o.out])
  go_region_held3 (fun w'=>PgK w' (w.heap.size+1) w3.heap.size l q x am ms cm gv (.iface i1 y1) .nilIface) (repeat(first|(with_reducible exact HQ.out)|(with_reducible exact g.out)|(with_reducible refine BC.set ?_ (by omega) (by omega) _)|(with_reducible refine BC.drew ?_))) (fail)
  all_goals
   go_wp2;(try simp only[Exit.inBlock,Exit.then]);have X:=ZxO r.out m.out y.out u.out MA.out NR.out z.out n.out;exact bodyPost_ret (ZbB rfl rfl X.1) rfl ⟨_,_,rfl,X.2⟩
 ·go_wp2_with(rw[←o.out])
  go_region_held3 (fun w'=>PgK w' (w.heap.size+1) w3.heap.size l q x am ms cm gv (.iface i1 y1) (.iface i2 y2)) (repeat(first|(with_reducible exact HQ.out)|(with_reducible exact g.out)|(with_reducible refine BC.set ?_ (by omega) (by omega) _)|(with_reducible refine BC.drew ?_))) (fail)
  all_goals
   go_wp2;(try simp only[Exit.inBlock,Exit.then]);have X:=ZxO r.out m.out y.out u.out MA.out NR.out z.out n.out;exact bodyPost_ret (ZbB rfl rfl X.1) rfl ⟨_,_,rfl,X.2⟩
section
variable {l:List UInt8} {s:AdS} {N:Nat}
theorem Z0(e:Int)(p:Nat)(h:s.marks.length≤N):(failC s e p).marks.length≤N:=by unfold failC;split<;>assumption
theorem Zba(e:Int)(p:Nat)(h:s.marks.length≤N):(ZV s p e).marks.length≤N:=by unfold ZV;split<;>assumption
theorem ZgN(must:Bool)(h:s.marks.length≤N):(labelC l must s).2.marks.length≤N:=by
 unfold labelC;split
 ·exact Zba _ _ h
 ·exact Zba _ _ h
theorem ZiI(h:s.marks.length≤N):(ZaR l s).2.marks.length≤N:=by
 unfold ZaR;split
 ·exact Z0 _ _ h
 ·exact Zba _ _ h
theorem Zld(b:Nat)(h:s.marks.length≤N):(Zah l b s).2.marks.length≤N+1:=by
 unfold Zah;simp only;have h1:(s.to (bhd l [32,9] s.at_)).marks.length≤N+1:=Nat.le_succ_of_le h;split
 ·exact Z0 _ _ h1
 ·split
  ·exact Z0 _ _ h1
  ·split
   ·exact Zba _ _ h1
   ·refine Zba _ _ ?_;show(s.marks++[_]).length≤N+1;rw[List.length_append];simpa using h
theorem ZgO(h:s.marks.length≤N):(Zv l s).2.marks.length≤N:=by
 unfold Zv;split
 ·exact Z0 _ _ h
 ·split
  ·exact Z0 _ _ h
  ·exact h
theorem ZdS(d:UInt8)(rx:Bool)(h:s.marks.length≤N):(Zr l d rx s).2.marks.length≤N:=by
 unfold Zr;split
 ·exact h
 ·exact Zba _ _ h
theorem ZmM(d:UInt8)(rx:Bool):(Zr l d rx s).1.length≤l.length:=by
 unfold Zr;split
 ·exact Nat.zero_le _
 ·have:=ZdC l d rx (l.length+1) s.at_ [];simp only[List.length_nil]at this;show(bt l d rx (l.length+1) s.at_ []).1.length≤_;omega
theorem Zle(x:Bool)(d:UInt8)(hs:s.at_≤l.length)(h:s.marks.length≤N):(Zav x l d s).2.marks.length≤N+l.length:=by
 unfold Zav;simp only;have hb:=ZdS (l:=l) d true h;have a:=ZmM (l:=l) (s:=s) d true;have h2:(if(Zr l d true s).2.e=0∧(Zr l d true s).1=[]then failC (Zr l d true s).2 2 s.at_ else(Zr l d true s).2).marks.length≤N:=by
  split
  ·exact Z0 _ _ hb
  ·exact hb
 generalize(if(Zr l d true s).2.e=0∧(Zr l d true s).1=[]then failC (Zr l d true s).2 2 s.at_ else(Zr l d true s).2)=s2 at h2⊢;split
 ·exact Nat.le_trans h2 (Nat.le_add_right _ _)
 ·cases hp:Zac prg x (Zr l d true s).1 with
  |inl z=>exact Nat.le_trans (Z0 _ _ h2) (Nat.le_add_right _ _)
  |inr z=>
   obtain⟨n,r⟩:=z;have h3:=(parseD_marks hp).2.1;show(s2.marks++r.marks.map (shM s.at_)).length≤_;rw[List.length_append,List.length_map];omega
theorem ZmN(sub:SV)(h:s.marks.length≤N):(Zap l sub s).2.2.marks.length≤N:=by
 unfold Zap;split
 ·simp only;split;exact Z0 _ _ h;exact h
 ·split
  ·simp only;split;exact Z0 _ _ h;exact h
  ·split
   ·simp only;split
    ·exact Z0 _ _ h
    ·have hm:=Zba (nm s.at_ (l.drop s.at_) 0 0).2.2 (nm s.at_ (l.drop s.at_) 0 0).2.1 h;split
     ·exact Z0 _ _ hm
     ·exact hm
   ·split
    ·exact ZiI h
    ·exact h
theorem ZgP:∀(n:Nat) (sub:SV) (s:AdS),s.marks.length≤N→(Zai l n sub s).2.marks.length≤N
 |0,_,_,h=>h
 |n+1,sub,s,h=>by
  rw[Zai];have hf:=ZmN (l:=l) sub h;cases hr:Zap l sub s with
  |mk a b=>
   rw[hr]at hf;obtain⟨b,c⟩:=b;cases a with
   |true=>exact ZgP n b c hf
   |false=>exact hf
theorem Zos(x:Bool)(hs:s.at_≤l.length)(h:s.marks.length≤N):(Zet x l s).2.marks.length≤N+l.length:=by
 unfold Zet;simp only;have h1:=ZgO (l:=l) h;have a:=Za7 hs;split
 ·exact Nat.le_trans h1 (Nat.le_add_right _ _)
 ·have h2:=Zle x (Zv l s).1 a h1;have h3:=ZdS (l:=l) (Zv l s).1 false h2;split
  ·exact h3
  ·split
   ·exact Z0 _ _ h3
   ·exact ZgP _ _ _ h3
theorem Zlf(h:s.marks.length≤N):(ZaP l s).2.marks.length≤N:=by
 unfold ZaP;simp only;have h1:=ZgO (l:=l) h;have h2:=ZdS (l:=l) (Zv l s).1 false h1;have h3:=ZdS (l:=l) (Zv l s).1 false h2;split
 ·exact h3
 ·split
  ·exact Z0 _ _ h3
  ·split
   ·exact h3
   ·exact Z0 _ _ h3
theorem Zfu(x:Bool)(c:CV)(hs:s.at_≤l.length)(h:s.marks.length≤N):(ZsD x l c s).2.2.marks.length≤N+l.length+1:=by
 unfold ZsD;split
 ·show s.marks.length≤_;omega
 split
 ·have:=ZgN (l:=l) true h;show(labelC l true s).2.marks.length≤_;omega
 split
 ·have:=ZgN (l:=l) false h;show(labelC l false s).2.marks.length≤_;omega
 split
 ·have:=Zld (l:=l) c.at_ h;show(Zah l c.at_ s).2.marks.length≤_;omega
 split
 ·have:=ZiI (l:=l) h;show(ZaR l s).2.marks.length≤_;omega
 split
 ·have:=Zos x hs h;show(Zet x l s).2.marks.length≤_;omega
 split
 ·have:=Zlf (l:=l) h;show(ZaP l s).2.marks.length≤_;omega
 ·show s.marks.length≤_;omega
end
theorem Zlg{l:List UInt8}{a b:AV}{s s':AdS}{g:GV}(h:ZgT l a b s=.inr (g,s')):s'.marks=s.marks:=by
 unfold ZgT at h;split at h
 ·split at h
  ·cases h
  ·injection h with h;injection h with _ h;subst h;rfl
 ·injection h with h;injection h with _ h;subst h;rfl
theorem guardD_mk{x:Bool}{l:List UInt8}{p:Nat}{g:GV}{s':AdS}(hp:p≤l.length)(h:ZX x l ⟨p,[],0⟩=.inr (g,s')):s'.marks.length≤2*l.length+2:=by
 unfold ZX at h;cases ha:ZaC x l false ⟨p,[],0⟩with
 |inl e=>rw[ha]at h;cases h
 |inr z=>
  obtain⟨a,s1⟩:=z;rw[ha]at h;simp only at h;have h1:s1.marks.length≤([]:List (Nat×List UInt8)).length+l.length+1:=(Zam (s:=⟨p,[],0⟩) hp rfl ha).mks;simp only[List.length_nil]at h1;by_cases hk:a.kind=0
  ·rw[if_pos hk]at h;simp only at h;rw[Zlg h];omega
  ·rw[if_neg hk]at h;cases hb:Zbc x l s1 with
   |inl e=>rw[hb]at h;cases h
   |inr z=>
    obtain⟨b,s2⟩:=z;rw[hb]at h;simp only at h;have h2:=(pairD_in hb).mks;rw[Zlg h];omega
section
variable {s t:List UInt8}
variable {r:List UInt8} {q:AdS}
end
end Go.Proofs.YtkfddjopbocpkaaGreatDoor
