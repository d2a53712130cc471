/- Lemmas of this claim. -/
import Derived.Test.YtkfddjopbocpkaaGreatDoorN28
set_option linter.unusedVariables false
set_option linter.unusedSimpArgs false
set_option maxRecDepth 100000
set_option maxHeartbeats 4000000
namespace Go.Proofs.YtkfddjopbocpkaaGreatDoor
open Go.Lib (hid)
open Go.RowKit
def Tb(g:Nat)(bs:List UInt8)(w:World):Prop:=w.heap[g]? =some (.cells (bcells bs).toArray 202 (0,0))
theorem Zjx(bs:List UInt8)(k:Nat)(c:UInt8):(bcells bs).toArray.setIfInBounds k (ZeT c)=(bcells (bs.set k c)).toArray:=by
 unfold bcells;rw[List.setIfInBounds_toArray,List.map_set]
theorem Tb.cell{g k:Nat}{bs:List UInt8}{w:World}(h:Tb g bs w)(hk:k<bs.length):w.cell? ⟨g,k,none⟩=some (.int .u8 (bs[k].toNat:Int))∧w.frozen? ⟨g,k,none⟩=false:=by
 refine⟨cell_at h ?_,unfrozen_at h k⟩;simp[bcells,ZeT,hk]
theorem Tb.set{g:Nat}{bs:List UInt8}{w:World}(h:Tb g bs w)(k:Nat)(c:UInt8):Tb g (bs.set k c) (w.setCell ⟨g,k,none⟩ (.int .u8 (c.toNat:Int))):=by
 have:=Za h k (.int .u8 (c.toNat:Int));unfold Tb;rw[←Zjx];exact this
theorem Tb.ne{g g' k:Nat}{bs:List UInt8}{w:World}(h:Tb g bs w)(hg:g≠g')(v:Value):Tb g bs (w.setCell ⟨g',k,none⟩ v):=Zc (p:=⟨g',k,none⟩) h hg v
theorem Tb.on{g:Nat}{bs:List UInt8}{w w':World}(h:Tb g bs w)(f:Fr nob w w'):Tb g bs w':=f.heap h (fun x=>x)
def idk(k:Nat):List UInt8:=(List.range k).map UInt8.ofNat++List.replicate (256-k) 0
theorem Zlh{k:Nat}(h:k≤256):(idk k).length=256:=by unfold idk;simp;omega
theorem Zot{k:Nat}(h:k<256):(idk k).set k (UInt8.ofNat k)=idk (k+1):=by
 unfold idk;rw[ZeP _ k 0 (by simp),List.range_succ,List.map_append,show 256-k=(256-(k+1))+1 by omega,List.replicate_succ,List.append_assoc];rfl
theorem Zli:idk 256=Zjp:=by unfold idk Zjp;simp
def cntY(seen:List UInt8):List UInt8:=(List.range 256).map fun j=>if seen.contains (UInt8.ofNat j)then 1 else 0
theorem cntY_len(seen:List UInt8):(cntY seen).length=256:=by simp[cntY]
theorem Zou(seen:List UInt8)(a:UInt8):(cntY seen)[a.toNat]'(by rw[cntY_len];exact a.toNat_lt)=if seen.contains a then 1 else 0:=by
 unfold cntY;rw[List.getElem_map,List.getElem_range];simp
theorem ZmO:cntY []=List.replicate 256 0:=by kernel_rfl
theorem ZmP(seen:List UInt8)(a:UInt8):(cntY seen).set a.toNat 1=cntY (seen++[a]):=by
 apply List.ext_getElem
 ·rw[List.length_set,cntY_len,cntY_len]
 ·intro j h1 h2;rw[cntY_len]at h2;simp only[cntY,List.getElem_map,List.getElem_range,List.getElem_set];by_cases h:a.toNat=j
  ·subst h;simp
  ·rw[if_neg h];have b:UInt8.ofNat j≠a:=fun e=>h (by rw[←e];simp;omega);have:(seen++[a]).contains (UInt8.ofNat j)=seen.contains (UInt8.ofNat j):=by
    rw[List.contains_append];simp[b]
   rw[this]
theorem Zov{la lb:List UInt8}{k:Nat}(h1:k<la.length)(h2:k<lb.length)(seen out:List UInt8):Zod ((la.zip lb).drop k) seen out=if seen.contains la[k]then([],false)else Zod ((la.zip lb).drop (k+1)) (seen++[la[k]]) (out.set la[k].toNat lb[k]):=by
 have hz:k<(la.zip lb).length:=by rw[List.length_zip];omega
 rw[List.drop_eq_getElem_cons hz,List.getElem_zip,Zod]
theorem zc256:Tryz.zeroCells202=(bcells (List.replicate 256 0)).toArray:=by kernel_rfl
theorem Zc0:∀(l:List UInt8) (e:Bool) (out:List UInt8),(ZbC l e out).1.length≤out.length+l.length
 |[],e,out=>by unfold ZbC;cases e<;>simp
 |c::r,e,out=>by
  unfold ZbC;have h1:=Zc0 r true out;have h2:=Zc0 r false (out++[10]);have h3:=Zc0 r false (out++[c]);simp only[List.length_append,List.length_cons,List.length_nil]at h1 h2 h3⊢
  repeat' split
  all_goals first|omega|(simp;done)|(simp;omega)
theorem ZmQ:idk 0=List.replicate 256 0:=rfl
theorem ZmR(b:Nat)(l:List UInt8)(x:Bool)(s:AdS)(S:Nat→Prop)(w:World)(hl:l.length≤99000)(ha:s.at_≤l.length)(hS:∀k,S k→k<w.heap.size)(h:CRd b l x s S w):
 Calls Tryz.prog 93 #[.pointer (some ⟨b,0,none⟩)] w fun r w'=>r=.returned (.string ⟨(ZaP l s).1.toArray⟩)∧CRd b l x (ZaP l s).2 S w'∧Stp S w S w':=by
 have F:=hid (ZiF b l x s S w hl ha h);have J:=Za7 (l:=l) ha;unfold ZaP;simp only;obtain⟨DL,c3⟩:∃DL,Zv l s=DL:=⟨_,rfl⟩;obtain⟨d,s1⟩:=DL;rw[c3]at F J⊢;simp only at F J⊢;have D:=hid (fun w' h=>Zck b l d x false s1 S w' hl J h);have c4:=Zek (l:=l) (d:=d) (rx:=false) (s:=s1);have a5:=ZaW (l:=l) (s:=s1) d false J;obtain⟨BT,c0⟩:∃BT,Zr l d false s1=BT:=⟨_,rfl⟩;obtain⟨tf,s2⟩:=BT;rw[c0]at D c4 a5⊢;simp only at D c4 a5⊢;have E:=hid (fun w' h=>Zck b l d x false s2 S w' hl a5 h);have V:=Zek (l:=l) (d:=d) (rx:=false) (s:=s2);obtain⟨Y,U⟩:∃Y,Zr l d false s2=Y:=⟨_,rfl⟩;obtain⟨tt,s3⟩:=Y;rw[U]at E V⊢;simp only at E V⊢;clear c3 c0 U h ha;have K:=hid (fun w'=>cm_list tf w' (by omega));have L:=hid (fun w'=>cm_list tt w' (by omega));have a8:=Zc0 tf false [];obtain⟨LA,f2⟩:∃LA,ZbC tf false []=LA:=⟨_,rfl⟩
 obtain⟨LB,f3⟩:∃LB,ZbC tt false []=LB:=⟨_,rfl⟩;obtain⟨la,oa⟩:=LA;obtain⟨lb,ob⟩:=LB;rw[f2]at K a8⊢;rw[f3]at L⊢;simp only at K L a8⊢;have g8:la.length≤99000:=by simp at a8;omega
 by_cases h3:s3.e=0
 ·have N:¬s3.e≠0:=fun h=>h h3;simp only[if_neg N];have e3:(s3.e==0)=true:=by simpa using h3
  by_cases hc:oa=false∨ob=false∨la.length≠lb.length
  ·simp only[if_pos hc];cases oa with
   |false=>
    go_enter Tryz.func93,Tryz.ntmps93;go_wp2_with fail;refine F.out.mono ?_;rintro z w1 ⟨rfl,h1,m⟩;have H1:=hid h1;have A:=hid m;clear h1 m;go_wp2_with fail;refine(D.out w1 H1.out).mono ?_;rintro z w2 ⟨rfl,h2,n⟩;obtain⟨C,f⟩:=h2;have r2:=Zd f.blk _ (Fr.refl _ _);have H2:=hid (show CRd b l x s2 S w2 from⟨C,f⟩);have B:=hid (A.out.trans n);clear f n;go_wp2_with fail;refine(E.out w2 H2.out).mono ?_;rintro z w3 ⟨rfl,g,o⟩;have H3:=hid g;have t:=hid (B.out.trans o);clear g o r2;go_wp2_with fail;refine(cm_ok b l x s3 S w3 H3.out).mono ?_;rintro z w4 ⟨rfl,f4⟩;have F4:=hid f4;clear f4;simp only[e3];go_wp2_with fail;refine(K.out w4).mono ?_;rintro z w5 ⟨rfl,f5⟩;have F5:=hid (F4.out.trans' f5);clear f5;go_wp2_with fail;refine(L.out w5).mono ?_;rintro z w6 ⟨rfl,f6⟩;have F6:=hid (F5.out.trans' f6);have H6:=hid (H3.out.on F6.out);have M:=hid (t.out.trans (Stp.of F6.out))
    clear f6;have HF:=hid (cm_fail b l x s3 S 18 s2.at_ w6 H6.out);go_wp2_with fail;refine HF.out.mono ?_;rintro z w8 ⟨rfl,h8,u⟩;have H8:=hid h8;have G:=hid (M.out.trans u);clear h8 u;go_wp2;go_ret;exact⟨rfl,H8.out,G.out⟩
   |true=>
    cases ob with
    |false=>
     go_enter Tryz.func93,Tryz.ntmps93;go_wp2_with fail;refine F.out.mono ?_;rintro z w1 ⟨rfl,h1,m⟩;have H1:=hid h1;have A:=hid m;clear h1 m;go_wp2_with fail;refine(D.out w1 H1.out).mono ?_;rintro z w2 ⟨rfl,h2,n⟩;obtain⟨C,f⟩:=h2;have r2:=Zd f.blk _ (Fr.refl _ _);have H2:=hid (show CRd b l x s2 S w2 from⟨C,f⟩);have B:=hid (A.out.trans n);clear f n;go_wp2_with fail;refine(E.out w2 H2.out).mono ?_;rintro z w3 ⟨rfl,g,o⟩;have H3:=hid g;have t:=hid (B.out.trans o);clear g o r2;go_wp2_with fail;refine(cm_ok b l x s3 S w3 H3.out).mono ?_;rintro z w4 ⟨rfl,f4⟩;have F4:=hid f4;clear f4;simp only[e3];go_wp2_with fail;refine(K.out w4).mono ?_;rintro z w5 ⟨rfl,f5⟩;have F5:=hid (F4.out.trans' f5);clear f5;go_wp2_with fail;refine(L.out w5).mono ?_;rintro z w6 ⟨rfl,f6⟩;have F6:=hid (F5.out.trans' f6);have H6:=hid (H3.out.on F6.out);have M:=hid (t.out.trans (Stp.of F6.out))
     clear f6;have HF:=hid (cm_fail b l x s3 S 18 s2.at_ w6 H6.out);go_wp2_with fail;refine HF.out.mono ?_;rintro z w8 ⟨rfl,h8,u⟩;have H8:=hid h8;have G:=hid (M.out.trans u);clear h8 u;go_wp2;go_ret;exact⟨rfl,H8.out,G.out⟩
    |true=>
     have g0:((la.length:Int) !=(lb.length:Int))=true:=by
      rcases hc with h|h|h
      ·cases h
      ·cases h
      ·simp;omega
     clear hc;go_enter Tryz.func93,Tryz.ntmps93;go_wp2_with fail;refine F.out.mono ?_;rintro z w1 ⟨rfl,h1,m⟩;have H1:=hid h1;have A:=hid m;clear h1 m;go_wp2_with fail;refine(D.out w1 H1.out).mono ?_;rintro z w2 ⟨rfl,h2,n⟩;obtain⟨C,f⟩:=h2;have r2:=Zd f.blk _ (Fr.refl _ _);have H2:=hid (show CRd b l x s2 S w2 from⟨C,f⟩);have B:=hid (A.out.trans n);clear f n;go_wp2_with fail;refine(E.out w2 H2.out).mono ?_;rintro z w3 ⟨rfl,g,o⟩;have H3:=hid g;have t:=hid (B.out.trans o);clear g o r2;go_wp2_with fail;refine(cm_ok b l x s3 S w3 H3.out).mono ?_;rintro z w4 ⟨rfl,f4⟩;have F4:=hid f4;clear f4;simp only[e3];go_wp2_with fail;refine(K.out w4).mono ?_;rintro z w5 ⟨rfl,f5⟩;have F5:=hid (F4.out.trans' f5);clear f5;go_wp2_with fail;refine(L.out w5).mono ?_;rintro z w6 ⟨rfl,f6⟩;have F6:=hid (F5.out.trans' f6);have H6:=hid (H3.out.on F6.out);have M:=hid (t.out.trans (Stp.of F6.out))
     clear f6;have HF:=hid (cm_fail b l x s3 S 18 s2.at_ w6 H6.out);go_wp2_with fail;refine HF.out.mono ?_;rintro z w8 ⟨rfl,h8,u⟩;have H8:=hid h8;have G:=hid (M.out.trans u);clear h8 u;go_wp2;go_ret;exact⟨rfl,H8.out,G.out⟩
  ·simp only[if_neg hc];have g2:oa=true:=by cases oa with|true=>rfl|false=>exact absurd (.inl rfl) hc
   have g3:ob=true:=by cases ob with|true=>rfl|false=>exact absurd (.inr (.inl rfl)) hc
   have g1:la.length=lb.length:=Classical.byContradiction fun h=>hc (.inr (.inr h));subst g2;subst g3;have g0:((la.length:Int) !=(lb.length:Int))=false:=by rw[g1];simp
   clear hc;obtain⟨TT,a4⟩:∃TT,Zod (la.zip lb) [] Zjp=TT:=⟨_,rfl⟩;rw[a4];obtain⟨g4,g5⟩:=TT;have b6:=hid a4;clear a4;go_enter Tryz.func93,Tryz.ntmps93;go_wp2_with fail;refine F.out.mono ?_;rintro z w1 ⟨rfl,h1,m⟩;have H1:=hid h1;have A:=hid m;clear h1 m;go_wp2_with fail;refine(D.out w1 H1.out).mono ?_;rintro z w2 ⟨rfl,h2,n⟩;obtain⟨C,f⟩:=h2;have r2:=Zd f.blk _ (Fr.refl _ _);have H2:=hid (show CRd b l x s2 S w2 from⟨C,f⟩);have B:=hid (A.out.trans n);clear f n;go_wp2_with fail;refine(E.out w2 H2.out).mono ?_;rintro z w3 ⟨rfl,g,o⟩;have H3:=hid g;have t:=hid (B.out.trans o);clear g o r2;go_wp2_with fail;refine(cm_ok b l x s3 S w3 H3.out).mono ?_;rintro z w4 ⟨rfl,f4⟩;have F4:=hid f4;clear f4;simp only[e3];go_wp2_with fail;refine(K.out w4).mono ?_;rintro z w5 ⟨rfl,f5⟩;have F5:=hid (F4.out.trans' f5);clear f5;go_wp2_with fail;refine(L.out w5).mono ?_
   rintro z w6 ⟨rfl,f6⟩;have F6:=hid (F5.out.trans' f6);clear f6;go_wp2_with fail;rw[zc256];obtain⟨w7,P⟩:∃w7,w7=(w6.alloc (.cells (bcells (List.replicate 256 0)).toArray 202)).alloc (.cells (bcells (List.replicate 256 0)).toArray 202):=⟨_,rfl⟩;have t1:Tb w6.heap.size (idk 0) w7:=by unfold Tb;rw[ZmQ,P];exact Ze _ (newAt _ _)
   have t2:Tb (w6.heap.size+1) (cntY []) w7:=by unfold Tb;rw[ZmO,P];exact Zg _ _ _ (by simp)
   have f7:Fr nob w6 w7:=by rw[P];exact((Fr.refl _ _).alloc _).alloc _
   rw[←P];have T1:=hid t1;have T2:=hid t2;have F7:=hid f7;clear t1 t2 f7 P
   go_loopw [56] (fun i wr=>∃k:Nat,i=.int .i64 k∧k≤256∧Tb w6.heap.size (idk k) wr∧Tb (w6.heap.size+1) (cntY []) wr∧Fr (fun j=>j=w6.heap.size) w7 wr) (fun i _=>256-(intOf i).toNat)
   case atStart=>exact⟨0,rfl,by omega,T1.out,T2.out,Fr.refl _ _⟩
   case round=>
    obtain⟨k,rfl,hk,a1,a2,fr⟩:=hrel;have A1:=hid a1;have X:=hid a2;have FR:=hid fr;clear a1 a2 fr;by_cases O:k<256
    ·have h6:IntKind.u8.wrap (k:Int)=k:=IntWalk.u8_in _ (by omega);obtain⟨c1,c2⟩:=A1.out.cell (k:=k) (by rw[Zlh hk];exact O);have c7:((UInt8.ofNat k).toNat:Int)=k:=by simp;omega
     have a9:=A1.out.set k (UInt8.ofNat k);rw[c7,Zot O]at a9;have c9:=X.out.ne (k:=k) (g':=w6.heap.size) (by omega) (.int .u8 (k:Int));have d9:=hid a9;have e0:=hid c9;have d6:=hid (FR.out.setCell (p:=⟨w6.heap.size,k,none⟩) (fun _=>rfl) (.int .u8 (k:Int)));clear a9 c9 c7;go_wp2;go_roundw
     case rel=>exact⟨k+1,by go_num,by omega,d9.out,e0.out,d6.out⟩
     case measure=>simp[intOf];omega
    ·obtain rfl:k=256:=by omega
     have W:=A1.out;rw[Zli]at W;have b4:=hid W;have FW:=hid (FR.out.weak (T:=fun j=>j=w6.heap.size∨j=w6.heap.size+1) (fun j hj=>.inl hj));have c5:Zjp.length=256:=by rw[←Zli];exact Zlh (by omega)
     clear W A1 FR;go_wp2_with fail
     go_loopw [66] (fun i wq=>∃(k:Nat) (y:List UInt8),i=.int .i64 k∧k≤la.length∧y.length=256∧Zod ((la.zip lb).drop k) (la.take k) y=(g4,g5)∧Tb w6.heap.size y wq∧Tb (w6.heap.size+1) (cntY (la.take k)) wq∧Fr (fun j=>j=w6.heap.size∨j=w6.heap.size+1) w7 wq) (fun i _=>la.length-(intOf i).toNat)
     case atStart=>exact⟨0,Zjp,rfl,Nat.zero_le _,c5,b6.out,b4.out,X.out,FW.out⟩
     case round=>
      obtain⟨k,y,rfl,hk,R,hL,b1,b2,fr⟩:=hrel;have B1:=hid b1;have B2:=hid b2;have FR:=hid fr;have HL:=hid hL;clear b1 b2 fr hL b4 X FW b6;by_cases O:k<la.length
      ·have c8:k<lb.length:=by omega
       have h5:(k:Int)<la.length:=by omega
       have g7:(k:Int)<lb.length:=by omega
       have hL:=HL.out;rw[Zov O c8]at hL;obtain⟨a,Q⟩:∃a,la[k]=a:=⟨_,rfl⟩;obtain⟨c,a6⟩:∃c,lb[k]=c:=⟨_,rfl⟩;have HA:=hid Q;have HC:=hid a6;rw[Q,a6]at hL;have d0:la.take (k+1)=la.take k++[a]:=by rw[List.take_succ_eq_append_getElem O,Q]
       have b5:=hid d0;obtain⟨g9,f1⟩:=Zcf a;have I:a.toNat<256:=a.toNat_lt;obtain⟨c1,c2⟩:=B2.out.cell (k:=a.toNat) (by rw[cntY_len];exact I);rw[Zou]at c1;have f9:(a.toNat:Int)<256:=by omega
       clear Q a6 d0 f1;by_cases b0:(la.take k).contains a=true
       ·rw[if_pos b0]at hL c1;injection hL with q1 q2;subst q1;subst q2;have H:=B2.out.set a.toNat 2;obtain⟨d1,d2⟩:=H.cell (k:=a.toNat) (by rw[List.length_set,cntY_len];exact I);rw[List.getElem_set_self]at d1;obtain⟨wS,q⟩:∃wS,wS=wr.setCell ⟨w6.heap.size+1,a.toNat,none⟩ (.int .u8 2):=⟨_,rfl⟩;have fS:Fr (fun j=>j=w6.heap.size∨j=w6.heap.size+1) w7 wS:=by rw[q];exact FR.out.setCell (p:=⟨w6.heap.size+1,a.toNat,none⟩) (fun _=>.inr rfl) _
        have d1:wS.cell? ⟨w6.heap.size+1,a.toNat,none⟩=some (.int .u8 2):=by rw[q];exact d1
        have d2:wS.frozen? ⟨w6.heap.size+1,a.toNat,none⟩=false:=by rw[q];exact d2
        have c1:wr.cell? ⟨w6.heap.size+1,a.toNat,none⟩=some (.int .u8 1):=c1;have Z:=hid q;have FS:=hid fS;have h4:∀j,(j=w6.heap.size∨j=w6.heap.size+1)→¬S j:=fun j hj hx=>by
         have:=hS j hx;have:=t.out.fr.size;have:=F6.out.size;rcases hj with hj|hj<;>omega
        have b9:∀i,i<w6.heap.size→¬(i=w6.heap.size∨i=w6.heap.size+1):=fun i hi hx=>by rcases hx with hx|hx<;>omega
        have b7:Fr nob w6 wS:=F7.out.trans FS.out (fun i hi x=>(b9 i hi x).elim);have a0:=F6.out.trans' b7;have d3:=t.out.trans (Stp.of a0);have hS:=H3.out.on a0;have HF:=hid (cm_fail b l x s3 S 15 s2.at_ wS hS);have e6:=hid d3;clear q fS H HL b0 b7 a0 d3 hS b9;go_wp2_with(first|rw[HA.out]|rw[←Z.out]);refine HF.out.mono ?_;rintro z w8 ⟨rfl,h8,u⟩;have H8:=hid h8;have G:=hid (e6.out.trans u);clear h8 u;go_wp2;go_ret;exact⟨rfl,H8.out,G.out⟩
       ·rw[if_neg b0]at hL c1;have H:=B2.out.set a.toNat 1;obtain⟨d1,d2⟩:=H.cell (k:=a.toNat) (by rw[List.length_set,cntY_len];exact I);rw[List.getElem_set_self]at d1;rw[ZmP,←b5.out]at H;obtain⟨wS,q⟩:∃wS,wS=wr.setCell ⟨w6.heap.size+1,a.toNat,none⟩ (.int .u8 1):=⟨_,rfl⟩;have fS:Fr (fun j=>j=w6.heap.size∨j=w6.heap.size+1) w7 wS:=by rw[q];exact FR.out.setCell (p:=⟨w6.heap.size+1,a.toNat,none⟩) (fun _=>.inr rfl) _
        have d1:wS.cell? ⟨w6.heap.size+1,a.toNat,none⟩=some (.int .u8 1):=by rw[q];exact d1
        have d2:wS.frozen? ⟨w6.heap.size+1,a.toNat,none⟩=false:=by rw[q];exact d2
        have c1:wr.cell? ⟨w6.heap.size+1,a.toNat,none⟩=some (.int .u8 0):=c1;have d5:Tb (w6.heap.size+1) (cntY (la.take (k+1))) wS:=by rw[q];exact H
        have d4:Tb w6.heap.size y wS:=by rw[q];exact B1.out.ne (by omega) _
        have Z:=hid q;have FS:=hid fS;have f0:=hid d5;have e9:=hid d4;have d8:=hid hL;clear q fS H d4 d5 hL;go_wp2_with(first|rw[HA.out]|rw[←Z.out]);refine region_fr 6 (by kernel_rfl) (by kernel_rfl) ?_;simp only[List.take_succ_cons,List.take_zero,List.drop_succ_cons,List.drop_zero]
        repeat(quiet_step (fail))
        refine wpQuiet_nil ?_;intro w8 f8;have b3:=e9.out.on f8;obtain⟨e1,e2⟩:=b3.cell (k:=a.toNat) (by rw[R];exact I);have e7:=hid (b3.set a.toNat c);have e8:=hid ((f0.out.on f8).ne (g':=w6.heap.size) (k:=a.toNat) (by omega) (.int .u8 (c.toNat:Int)));have FN:=hid ((FS.out.trans f8 (fun _ _ x=>x.elim)).setCell (p:=⟨w6.heap.size,a.toNat,none⟩) (fun _=>.inl rfl) (.int .u8 (c.toNat:Int)));clear f8 b3;go_wp2_with(first|rw[HA.out]|rw[HC.out]);refine⟨?_,?_⟩
        ·(repeat apply Exists.intro)
         refine⟨⟨k+1,y.set a.toNat c,by go_num,by omega,by rw[List.length_set];exact R,by rw[b5.out];exact d8.out,e7.out,e8.out,FN.out⟩,rfl⟩
        ·simp[intOf];omega
      ·obtain rfl:k=la.length:=by omega
       have hL:=HL.out;rw[List.drop_eq_nil_of_le (by rw[List.length_zip];omega)]at hL;injection hL with q1 q2;subst q1;subst q2;have g6:(bcells y).length=256:=by rw[ZbF,R]
       have a7:=run_conv_bytes Tryz.underlying22 Tryz.underlying5 Tryz.underlying9 ⟨w6.heap.size,0,none⟩ 256 y wr (fun j v hj=>by
        have c6:j<y.length:=by
         have:=(List.getElem?_eq_some_iff.1 hj).1;rw[ZbF]at this;exact this
        have h0:=(B1.out.cell c6).1;have h1:v=.int .u8 (y[j].toNat:Int):=by
         rw[bcells,List.getElem?_map,List.getElem?_eq_getElem c6]at hj;injection hj with hj;exact hj.symm
        have h2:(⟨w6.heap.size,0,none⟩:Addr).add j=⟨w6.heap.size,j,none⟩:=by simp[Addr.add];intro h;exact h.symm
        rw[h1,h2];exact h0)
       rw[R]at a7;have d7:=hid a7;have b8:Fr nob w6 wr:=F7.out.trans FR.out (fun i hi x=>by rcases x with x|x<;>omega);have a3:=F6.out.trans' b8;have HR:=hid (H3.out.on a3);have e5:=hid (t.out.trans (Stp.of a3));clear a7 b8 a3;go_wp2_with(rw[d7.out]);go_ret;exact⟨rfl,HR.out,e5.out⟩
 ·have N:s3.e≠0:=h3;simp only[if_pos N];have e3:(s3.e==0)=false:=by simpa using h3
  go_enter Tryz.func93,Tryz.ntmps93;go_wp2_with fail;refine F.out.mono ?_;rintro z w1 ⟨rfl,h1,m⟩;have H1:=hid h1;have A:=hid m;clear h1 m;go_wp2_with fail;refine(D.out w1 H1.out).mono ?_;rintro z w2 ⟨rfl,h2,n⟩;obtain⟨C,f⟩:=h2;have r2:=Zd f.blk _ (Fr.refl _ _);have H2:=hid (show CRd b l x s2 S w2 from⟨C,f⟩);have B:=hid (A.out.trans n);clear f n;go_wp2_with fail;refine(E.out w2 H2.out).mono ?_;rintro z w3 ⟨rfl,g,o⟩;have H3:=hid g;have t:=hid (B.out.trans o);clear g o r2;go_wp2_with fail;refine(cm_ok b l x s3 S w3 H3.out).mono ?_;rintro z w4 ⟨rfl,f4⟩;have H4:=hid (H3.out.on f4);have e4:=hid (t.out.trans (Stp.of f4));clear f4;simp only[e3];go_wp2;go_ret;exact⟨rfl,H4.out,e4.out⟩
section
variable {l:List UInt8} {s:AdS} {N:Nat}
theorem Z0(e:Int)(p:Nat)(h:s.marks.length≤N):(failC s e p).marks.length≤N:=by unfold failC;split<;>assumption
theorem Zba(e:Int)(p:Nat)(h:s.marks.length≤N):(ZV s p e).marks.length≤N:=by unfold ZV;split<;>assumption
theorem ZgN(must:Bool)(h:s.marks.length≤N):(labelC l must s).2.marks.length≤N:=by
 unfold labelC;split
 ·exact Zba _ _ h
 ·exact Zba _ _ h
theorem ZiI(h:s.marks.length≤N):(ZaR l s).2.marks.length≤N:=by
 unfold ZaR;split
 ·exact Z0 _ _ h
 ·exact Zba _ _ h
theorem Zld(b:Nat)(h:s.marks.length≤N):(Zah l b s).2.marks.length≤N+1:=by
 unfold Zah;simp only;have h1:(s.to (bhd l [32,9] s.at_)).marks.length≤N+1:=Nat.le_succ_of_le h;split
 ·exact Z0 _ _ h1
 ·split
  ·exact Z0 _ _ h1
  ·split
   ·exact Zba _ _ h1
   ·refine Zba _ _ ?_;show(s.marks++[_]).length≤N+1;rw[List.length_append];simpa using h
theorem ZgO(h:s.marks.length≤N):(Zv l s).2.marks.length≤N:=by
 unfold Zv;split
 ·exact Z0 _ _ h
 ·split
  ·exact Z0 _ _ h
  ·exact h
theorem ZdS(d:UInt8)(rx:Bool)(h:s.marks.length≤N):(Zr l d rx s).2.marks.length≤N:=by
 unfold Zr;split
 ·exact h
 ·exact Zba _ _ h
theorem ZmM(d:UInt8)(rx:Bool):(Zr l d rx s).1.length≤l.length:=by
 unfold Zr;split
 ·exact Nat.zero_le _
 ·have:=ZdC l d rx (l.length+1) s.at_ [];simp only[List.length_nil]at this;show(bt l d rx (l.length+1) s.at_ []).1.length≤_;omega
theorem Zle(x:Bool)(d:UInt8)(hs:s.at_≤l.length)(h:s.marks.length≤N):(Zav x l d s).2.marks.length≤N+l.length:=by
 unfold Zav;simp only;have hb:=ZdS (l:=l) d true h;have a:=ZmM (l:=l) (s:=s) d true;have h2:(if(Zr l d true s).2.e=0∧(Zr l d true s).1=[]then failC (Zr l d true s).2 2 s.at_ else(Zr l d true s).2).marks.length≤N:=by
  split
  ·exact Z0 _ _ hb
  ·exact hb
 generalize(if(Zr l d true s).2.e=0∧(Zr l d true s).1=[]then failC (Zr l d true s).2 2 s.at_ else(Zr l d true s).2)=s2 at h2⊢;split
 ·exact Nat.le_trans h2 (Nat.le_add_right _ _)
 ·cases hp:Zac prg x (Zr l d true s).1 with
  |inl z=>exact Nat.le_trans (Z0 _ _ h2) (Nat.le_add_right _ _)
  |inr z=>
   obtain⟨n,r⟩:=z;have h3:=(parseD_marks hp).2.1;show(s2.marks++r.marks.map (shM s.at_)).length≤_;rw[List.length_append,List.length_map];omega
theorem ZmN(sub:SV)(h:s.marks.length≤N):(Zap l sub s).2.2.marks.length≤N:=by
 unfold Zap;split
 ·simp only;split;exact Z0 _ _ h;exact h
 ·split
  ·simp only;split;exact Z0 _ _ h;exact h
  ·split
   ·simp only;split
    ·exact Z0 _ _ h
    ·have hm:=Zba (nm s.at_ (l.drop s.at_) 0 0).2.2 (nm s.at_ (l.drop s.at_) 0 0).2.1 h;split
     ·exact Z0 _ _ hm
     ·exact hm
   ·split
    ·exact ZiI h
    ·exact h
theorem ZgP:∀(n:Nat) (sub:SV) (s:AdS),s.marks.length≤N→(Zai l n sub s).2.marks.length≤N
 |0,_,_,h=>h
 |n+1,sub,s,h=>by
  rw[Zai];have hf:=ZmN (l:=l) sub h;cases hr:Zap l sub s with
  |mk a b=>
   rw[hr]at hf;obtain⟨b,c⟩:=b;cases a with
   |true=>exact ZgP n b c hf
   |false=>exact hf
theorem Zos(x:Bool)(hs:s.at_≤l.length)(h:s.marks.length≤N):(Zet x l s).2.marks.length≤N+l.length:=by
 unfold Zet;simp only;have h1:=ZgO (l:=l) h;have a:=Za7 hs;split
 ·exact Nat.le_trans h1 (Nat.le_add_right _ _)
 ·have h2:=Zle x (Zv l s).1 a h1;have h3:=ZdS (l:=l) (Zv l s).1 false h2;split
  ·exact h3
  ·split
   ·exact Z0 _ _ h3
   ·exact ZgP _ _ _ h3
theorem Zlf(h:s.marks.length≤N):(ZaP l s).2.marks.length≤N:=by
 unfold ZaP;simp only;have h1:=ZgO (l:=l) h;have h2:=ZdS (l:=l) (Zv l s).1 false h1;have h3:=ZdS (l:=l) (Zv l s).1 false h2;split
 ·exact h3
 ·split
  ·exact Z0 _ _ h3
  ·split
   ·exact h3
   ·exact Z0 _ _ h3
theorem Zfu(x:Bool)(c:CV)(hs:s.at_≤l.length)(h:s.marks.length≤N):(ZsD x l c s).2.2.marks.length≤N+l.length+1:=by
 unfold ZsD;split
 ·show s.marks.length≤_;omega
 split
 ·have:=ZgN (l:=l) true h;show(labelC l true s).2.marks.length≤_;omega
 split
 ·have:=ZgN (l:=l) false h;show(labelC l false s).2.marks.length≤_;omega
 split
 ·have:=Zld (l:=l) c.at_ h;show(Zah l c.at_ s).2.marks.length≤_;omega
 split
 ·have:=ZiI (l:=l) h;show(ZaR l s).2.marks.length≤_;omega
 split
 ·have:=Zos x hs h;show(Zet x l s).2.marks.length≤_;omega
 split
 ·have:=Zlf (l:=l) h;show(ZaP l s).2.marks.length≤_;omega
 ·show s.marks.length≤_;omega
end
theorem Zlg{l:List UInt8}{a b:AV}{s s':AdS}{g:GV}(h:ZgT l a b s=.inr (g,s')):s'.marks=s.marks:=by
 unfold ZgT at h;split at h
 ·split at h
  ·cases h
  ·injection h with h;injection h with _ h;subst h;rfl
 ·injection h with h;injection h with _ h;subst h;rfl
theorem guardD_mk{x:Bool}{l:List UInt8}{p:Nat}{g:GV}{s':AdS}(hp:p≤l.length)(h:ZX x l ⟨p,[],0⟩=.inr (g,s')):s'.marks.length≤2*l.length+2:=by
 unfold ZX at h;cases ha:ZaC x l false ⟨p,[],0⟩with
 |inl e=>rw[ha]at h;cases h
 |inr z=>
  obtain⟨a,s1⟩:=z;rw[ha]at h;simp only at h;have h1:s1.marks.length≤([]:List (Nat×List UInt8)).length+l.length+1:=(Zam (s:=⟨p,[],0⟩) hp rfl ha).mks;simp only[List.length_nil]at h1;by_cases hk:a.kind=0
  ·rw[if_pos hk]at h;simp only at h;rw[Zlg h];omega
  ·rw[if_neg hk]at h;cases hb:Zbc x l s1 with
   |inl e=>rw[hb]at h;cases h
   |inr z=>
    obtain⟨b,s2⟩:=z;rw[hb]at h;simp only at h;have h2:=(pairD_in hb).mks;rw[Zlg h];omega
end Go.Proofs.YtkfddjopbocpkaaGreatDoor
