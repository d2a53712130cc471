/- Lemmas of this claim. -/
import Derived.Test.YtkfddjopbocpkaaGreatDoorM23
set_option linter.unusedVariables false
set_option linter.unusedSimpArgs false
set_option maxRecDepth 100000
set_option maxHeartbeats 4000000
namespace Go.Proofs.YtkfddjopbocpkaaGreatDoor
open Go.Lib (hid)
open Go.RowKit
abbrev ZiH(w:World)(b:Nat)(v0 v1 v2 v3 v4 v5 v6:Value):World:=((((((w.setCell ⟨b,0,none⟩ v0).setCell ⟨b,1,none⟩ v1).setCell ⟨b,2,none⟩ v2).setCell ⟨b,3,none⟩ v3).setCell ⟨b,4,none⟩ v4).setCell ⟨b,5,none⟩ v5).setCell ⟨b,6,none⟩ v6
theorem ZZ{w:World}{b:Nat}{a0 a1 a2 a3 a4 a5 a6:Value}{T:TypeId}{fr:Nat×Nat}(h:w.heap[b]? =some (.cells #[a0,a1,a2,a3,a4,a5,a6] T fr))(v0 v1 v2 v3 v4 v5 v6:Value):
 (ZiH w b v0 v1 v2 v3 v4 v5 v6).heap[b]? =some (.cells #[v0,v1,v2,v3,v4,v5,v6] T fr):=by
 have h0:=Za h 0 v0;have h1:=Za h0 1 v1;have h2:=Za h1 2 v2;have h3:=Za h2 3 v3;have h4:=Za h3 4 v4;have h5:=Za h4 5 v5;have h6:=Za h5 6 v6;simpa using h6
theorem Zh(w:World)(b:Nat)(v0 v1 v2 v3 v4 v5 v6:Value):Fr (fun k=>k=b) w (ZiH w b v0 v1 v2 v3 v4 v5 v6):=by
 have h:∀(x:World) (j:Nat) (v:Value),Fr (fun k=>k=b) w x→Fr (fun k=>k=b) w (x.setCell ⟨b,j,none⟩ v):=fun x j v hx=>hx.setCell (p:=⟨b,j,none⟩) (fun _=>rfl) v;exact h _ _ _ (h _ _ _ (h _ _ _ (h _ _ _ (h _ _ _ (h _ _ _ (h _ _ _ (Fr.refl _ _)))))))
theorem ZaJ{fn:Func}{p:Tmp}(h:fn.results= #[.cell p 33]){tmps:Array Value}{r:Nat}(ht:tmps.getD p undef=.pointer (some ⟨r,0,none⟩)){W:World}{a0 a1 a2 a3 a4 a5 a6:Value}
 (hb:W.heap[r]? =some (.cells #[a0,a1,a2,a3,a4,a5,a6] 33 (0,0))):(results fn tmps).run Tryz.prog W=.ok (.agg #[a0,a1,a2,a3,a4,a5,a6]) W:=by
 have c0:=cell_at (j:=0) hb rfl;have c1:=cell_at (j:=1) hb rfl;have c2:=cell_at (j:=2) hb rfl;have c3:=cell_at (j:=3) hb rfl;have c4:=cell_at (j:=4) hb rfl;have c5:=cell_at (j:=5) hb rfl;have c6:=cell_at (j:=6) hb rfl;have ht':tmps[p]?.getD undef=.pointer (some ⟨r,0,none⟩):=by rw[←ht];simp
 simp only[results,h];simp[ht',go_sem,c0,c1,c2,c3,c4,c5,c6]
def PrO(S:Nat→Prop)(w:World)(l:List Prt)(v:Value):Prop:=OwP w l v∧∀k,v.ownBlock=some k→¬S k
theorem PrO.keep{S S' X:Nat→Prop}{w w':World}{l:List Prt}{v:Value}(h:PrO S w l v)(f:Fr X w w')(hX:∀k,X k→S k)(hS:∀k,k<w.heap.size→S' k→S k):PrO S' w' l v:=
 ⟨ownsRow_fr h.1 f (fun k hk x=>h.2 k hk (hX k x)),fun k hk x=>h.2 k hk (hS k (own_lt h.1 k hk) x)⟩
theorem PrO.nil(S:Nat→Prop)(w:World):PrO S w [] (.slice none 0 0):=⟨World.ownsRow_nil _ _ _ _,fun _ h=>by cases h⟩
def ZqE(b:Nat)(l:List UInt8)(x:Bool)(S O:Nat→Prop)(w:World)(R:SV×AdS)(r:Ending)(w':World):Prop:=
 ∃u pv S',r=.returned (.agg (Zdn R.1 u pv))∧RN (SO S' O) w' R.1.tree u∧PrO (SO S' O) w' R.1.parts pv∧CRd b l x R.2 S' w'∧Stp S w S' w'
def A2(S O:Nat→Prop)(r:Nat):Nat→Prop:=fun k=>S k∨(O k∨(k=r∨k=r+1))
theorem ZhV{x:Bool}{l:List UInt8}{d:UInt8}{s:AdS}(hl:l.length≤99000):(Zav x l d s).1.2.size≤3000000:=by
 have htl:(Zr l d true s).1.length≤99000:=by
  unfold Zr;split
  ·simp
  ·have:=ZdC l d true (l.length+1) s.at_ [];simp only[List.length_nil]at this;simp only;omega
 unfold Zav;simp only;generalize(if(Zr l d true s).2.e=0∧(Zr l d true s).1=[]then failC (Zr l d true s).2 2 s.at_ else(Zr l d true s).2)=s2;have hn:Nd.nil.size≤3000000:=by decide
 split
 ·exact hn
 ·cases hp:Zac prg x (Zr l d true s).1 with
  |inl z=>exact hn
  |inr z=>have:=(parseD_marks hp).2.2;show z.1.size≤_;omega
theorem Zek{l:List UInt8}{d:UInt8}{rx:Bool}{s:AdS}:(Zr l d rx s).1.length≤l.length:=by
 unfold Zr;split
 ·simp
 ·have:=ZdC l d rx (l.length+1) s.at_ [];simp only[List.length_nil]at this;simp only;omega
def Zqd(b:Nat)(w:World):Nat:=match w.cell? ⟨b,1,none⟩with
 |some (.int _ n)=>n.toNat
 |_=>0
theorem Zft{b:Nat}{l:List UInt8}{x:Bool}{s:AdS}{S:Nat→Prop}{w:World}(h:CRd b l x s S w):Zqd b w=s.at_:=by
 obtain⟨mv,h⟩:=h;have c:=cell_at (j:=1) h.blk rfl;unfold Zqd;rw[c];rfl
theorem ZcG{S S':Nat→Prop}{w w2 wK wF:World}(f2:Fr nob w w2)(hs2:w2.heap.size=w.heap.size+2)(hS:∀k,S k→k<w.heap.size)(st:Stp (GS S (w.heap.size+1)) w2 (GS S' (w.heap.size+1)) wK)(f:Fr (fun k=>k=w.heap.size) wK wF):Stp S w S' wF:=by
 refine⟨((f2.any).trans st.fr (fun i hi h=> ?_)).trans f (fun i hi h=> ?_),fun k hk h=> ?_,fun hl k h=> ?_⟩
 ·rcases h with h|h
  ·exact h
  ·omega
 ·have h:i=w.heap.size:=h;omega
 ·rcases st.old k (by omega) (.inl h)with h|h
  ·exact h
  ·omega
 ·have:=st.lt (fun j hj=>by rcases hj with hj|hj;have:=hS j hj;omega;omega) k (.inl h);have:=f.size;omega
theorem RN.none{S:Nat→Prop}{w:World}{n:Nd}{v:Value}(h:RN S w n v):RN nob w n v:=RN.keep (Fr.refl nob _) (fun _ _ x=>x.elim) (fun _ _ x=>x.elim) _ _ h
theorem A2.so{S O:Nat→Prop}{r k:Nat}(h:SO S O k):A2 S O r k:=by
 rcases h with h|h
 ·exact .inl h
 ·exact .inr (.inl h)
theorem flagC_keep(l:List UInt8)(sub:SV)(s:AdS):(Zap l sub s).2.1.text=sub.text∧(Zap l sub s).2.1.tree=sub.tree∧(Zap l sub s).2.1.parts=sub.parts:=by
 unfold Zap;split
 ·exact⟨rfl,rfl,rfl⟩
 split
 ·exact⟨rfl,rfl,rfl⟩
 split
 ·simp only;split<;>exact⟨rfl,rfl,rfl⟩
 split<;>exact⟨rfl,rfl,rfl⟩
theorem ZpQ{S O:Nat→Prop}{r k:Nat}(h:GS S (r+1) k):A2 S O r k:=by
 rcases h with h|h
 ·exact .inl h
 ·exact .inr (.inr (.inr h))
theorem cm_sub(b:Nat)(l:List UInt8)(x:Bool)(s:AdS)(S O:Nat→Prop)(w:World)(hl:l.length≤99000)(ha:s.at_≤l.length)(hm:s.marks.length≤100000)(hS:∀k,S k→k<w.heap.size)(hO:∀k,O k→k<w.heap.size)
 (W0:World) (hE:Env W0) (hW:Fr nob W0 w) (hSW:∀k,S k→W0.heap.size≤k) (h:CRd b l x s S w):
 Calls Tryz.prog 92 #[.pointer (some ⟨b,0,none⟩)] w (ZqE b l x S O w (Zet x l s)):=by
 obtain⟨w1,hw1⟩:∃w1,w1=w.alloc (.cells #[.string ⟨#[]⟩,.nilIface,.slice none 0 0,.int .i64 0,.bool false,.bool false,.string ⟨#[]⟩] 33):=⟨_,rfl⟩;have f1:Fr nob w w1:=by rw[hw1];exact(Fr.refl _ _).alloc _
 have hs1:w1.heap.size=w.heap.size+1:=by rw[hw1];simp
 obtain⟨w2,hw2⟩:∃w2,w2=w1.alloc (.cells #[.string ⟨#[]⟩,.nilIface,.slice none 0 0,.int .i64 0,.bool false,.bool false,.string ⟨#[]⟩] 33):=⟨_,rfl⟩;have f2:Fr nob w w2:=by rw[hw2];exact f1.alloc _
 have hs2:w2.heap.size=w.heap.size+2:=by rw[hw2];simp;omega
 have hz1:w2.heap[w.heap.size]? =some (.cells #[.string ⟨#[]⟩,.nilIface,.slice none 0 0,.int .i64 0,.bool false,.bool false,.string ⟨#[]⟩] 33 (0,0)):=by rw[hw2];exact Ze _ (by rw[hw1];exact newAt _ _)
 have hz2:w2.heap[w.heap.size+1]? =some (.cells #[.string ⟨#[]⟩,.nilIface,.slice none 0 0,.int .i64 0,.bool false,.bool false,.string ⟨#[]⟩] 33 (0,0)):=by rw[hw2];exact Zg _ _ _ hs1.symm
 have hn1:¬S w.heap.size:=fun e=>absurd (hS _ e) (by omega);have hn2:¬S (w.heap.size+1):=fun e=>absurd (hS _ e) (by omega);have HDL:=hid (ZiF b l x s S w2 hl ha (h.on f2));have hdin:=Za7 (l:=l) ha;have hdm:(Zv l s).2.marks=s.marks:=by unfold Zv failC;split;split<;>rfl;split;split<;>rfl;rfl
 have hRi:=fun d=>Zeg (l:=l) x d hdin;have hRz:=fun d=>ZhV (x:=x) (l:=l) (d:=d) (s:=(Zv l s).2) hl;have HW1:=hid hw1;have HW2:=hid hw2;have F2:=hid f2;have HZ1:=hid hz1;have HZ2:=hid hz2;have HN1:=hid hn1;have HN2:=hid hn2;have HS1:=hid hs1;have HS2:=hid hs2;have HS:=hid hS;have HO:=hid hO;have HE:=hid hE;have HWW:=hid hW;have HSW:=hid hSW;clear h f1 f2 hw1 hw2 hs1 hs2 hz1 hz2 hn1 hn2 hS hO hE hW hSW;unfold Zet;simp only;obtain⟨DL,hDL⟩:∃DL,Zv l s=DL:=⟨_,rfl⟩;obtain⟨d,s1⟩:=DL;rw[hDL]at HDL hdin hdm hRi hRz⊢;simp only at HDL hdin hdm hRi hRz⊢;have hm1:s1.marks.length≤100000:=by rw[hdm];exact hm
 clear hDL hdm hm ha;by_cases h1:s1.e=0
 ·have hif1:¬s1.e≠0:=fun h=>h h1;simp only[if_neg hif1];have e1:(s1.e==0)=true:=by simpa using h1
  have hRi:=hRi d;have hRz:=hRz d;have HRG:=hid (fun w' (hS':∀k,S k→k<w'.heap.size) (hO':∀k,(O k∨(k=w.heap.size∨k=w.heap.size+1))→k<w'.heap.size) (hW':Fr nob W0 w') (hc:CRd b l x s1 S w')=>ZmL b l d x s1 S (fun k=>O k∨(k=w.heap.size∨k=w.heap.size+1)) w' hl hdin hm1 hS' hO' W0 HE.out hW' HSW.out hc);obtain⟨RG,hRG⟩:∃RG,Zav x l d s1=RG:=⟨_,rfl⟩;obtain⟨⟨tx,n⟩,s2⟩:=RG;rw[hRG]at HRG hRi hRz⊢;simp only at HRG hRi hRz⊢;clear hRG;have HB:=hid (fun S' w' h=>Zck b l d x false s2 S' w' hl hRi h);have hbl:=Zek (l:=l) (d:=d) (rx:=false) (s:=s2);have hbi:=ZaW (l:=l) (s:=s2) d false hRi;obtain⟨BT,hBT⟩:∃BT,Zr l d false s2=BT:=⟨_,rfl⟩;obtain⟨t,s3⟩:=BT;rw[hBT]at HB hbl hbi⊢;simp only at HB hbl hbi⊢;clear hBT;by_cases h3:s3.e=0
  ·have hif3:¬s3.e≠0:=fun h=>h h3;simp only[if_neg hif3];have e3:(s3.e==0)=true:=by simpa using h3
   have HPT:=hid (fun w'=>ZmK t n.groups w' (by omega));obtain⟨PP,hPP⟩:∃PP,Zao n.groups t false []=PP:=⟨_,rfl⟩;obtain⟨ps,pe⟩:=PP;rw[hPP]at HPT⊢;simp only at HPT⊢;clear hPP;by_cases hpe:pe=0
   ·subst hpe;simp only[ne_eq,not_true_eq_false,if_false];obtain⟨FF,hFF⟩:∃FF,Zai l (l.length+2) {SV.zero with text:=tx,tree:=n,parts:=ps} s3=FF:=⟨_,rfl⟩;rw[hFF];have HFF:=hid hFF;clear hFF;go_enter Tryz.func92,Tryz.ntmps92;go_wp2_with(first|rw[←HW1.out]|rw[HS1.out]|rw[←HW2.out]);refine HDL.out.mono ?_;rintro z w3 ⟨rfl,h3',st3⟩;have H3:=hid h3';have ST3:=hid st3;clear h3' st3;go_wp2_with fail;refine(cm_ok b l x s1 S w3 H3.out).mono ?_;rintro z w4 ⟨rfl,f4⟩;have hr4:∀k,S k→k<w4.heap.size:=fun k hk=>by have:=HS.out k hk;have:=ST3.out.fr.size;have:=HS2.out;have:=f4.size;omega
    have hO4:∀k,(O k∨(k=w.heap.size∨k=w.heap.size+1))→k<w4.heap.size:=fun k hk=>by
     have:=ST3.out.fr.size;have:=HS2.out;have:=f4.size;rcases hk with hk|hk|hk
     ·have:=HO.out k hk;omega
     ·omega
     ·omega
    have hW4:Fr nob W0 w4:=(((Stp.of F2.out).trans ST3.out).trans (Stp.of f4)).from HWW.out HSW.out;have z4:=f4.heap (ST3.out.fr.heap HZ1.out HN1.out) (fun x=>x);have y4:=f4.heap (ST3.out.fr.heap HZ2.out HN2.out) (fun x=>x);have HR4:=hid (HRG.out w4 hr4 hO4 hW4 (H3.out.on f4));have ST4:=hid (ST3.out.trans (Stp.of f4));have Z4:=hid z4;have Y4:=hid y4;have SL4:=hid hr4;clear hr4 hO4 hW4 z4 y4 f4;simp only[e1];go_wp2_with fail;refine HR4.out.mono ?_;rintro z w5 ⟨u,S',rfl,rn5,h5,st5⟩;have z5:=st5.fr.heap Z4.out HN1.out;have y5:=st5.fr.heap Y4.out HN2.out;have hn1:¬S' w.heap.size:=fun e=>HN1.out (st5.old _ (lt_heap Z4.out) e);have hn2:¬S' (w.heap.size+1):=fun e=>HN2.out (st5.old _ (lt_heap Y4.out) e);have sl5:=st5.lt SL4.out;have v5:=ZG y5 _ (Fr.refl _ _);have g6:((w5.setCell ⟨w.heap.size+1,0,none⟩ (.string ⟨tx.toArray⟩)).setCell ⟨w.heap.size+1,1,none⟩ u).heap[w.heap.size+1]? =some (.cells #[.string ⟨tx.toArray⟩,u,.slice none 0 0,.int .i64 0,.bool false,.bool false,.string ⟨#[]⟩] 33 (0,0)):=Za (Za y5 0 _) 1 _
    have z6:=Zc (p:=⟨w.heap.size+1,1,none⟩) (Zc (p:=⟨w.heap.size+1,0,none⟩) z5 (by show w.heap.size≠w.heap.size+1;omega) (.string ⟨tx.toArray⟩)) (by show w.heap.size≠w.heap.size+1;omega) u;have c6:=(h5.setg hn2 0 (.string ⟨tx.toArray⟩)).setg hn2 1 u;have fs:Fr (fun k=>k=w.heap.size+1) w5 ((w5.setCell ⟨w.heap.size+1,0,none⟩ (.string ⟨tx.toArray⟩)).setCell ⟨w.heap.size+1,1,none⟩ u):=((Fr.refl (fun k=>k=w.heap.size+1) w5).setCell (p:=⟨w.heap.size+1,0,none⟩) (fun _=>rfl) _).setCell (p:=⟨w.heap.size+1,1,none⟩) (fun _=>rfl) _;have v5':=ZG (Za y5 0 (.string ⟨tx.toArray⟩)) _ (Fr.refl _ _);obtain⟨w6,hw6⟩:∃w6,w6=(w5.setCell ⟨w.heap.size+1,0,none⟩ (.string ⟨tx.toArray⟩)).setCell ⟨w.heap.size+1,1,none⟩ u:=⟨_,rfl⟩;rw[←hw6]at g6 z6 c6 fs;have HW6:=hid hw6;have G6:=hid g6;have Z6:=hid z6;have C6:=hid c6;have RN6:=hid (RN.keep fs (fun k _ hk=>.inr (.inr (.inr hk))) (fun _ _ x=>x) _ _ rn5:RN (A2 S' O w.heap.size) w6 n u)
    have SL5:=hid sl5;have N1:=hid hn1;have N2:=hid hn2;have ST6:=hid (show Stp (GS S (w.heap.size+1)) w2 (GS S' (w.heap.size+1)) w6 from((Stp.gs ST4.out (by have:=HS2.out;omega)).trans (Stp.gs st5 (lt_heap Y4.out))).trans ⟨fs.mono (fun k _ hk=>.inr hk),fun _ _ x=>x,fun hl k hk=>by have:=hl k hk;have:=fs.size;omega⟩);have osh:=rn5.shape;obtain⟨mv6,hq6⟩:=c6;have r6:=Zd hq6.blk _ (Fr.refl _ _);clear rn5 h5 st5 z5 y5 hn1 hn2 sl5 g6 z6 hq6 fs hw6;rcases osh with rfl|⟨iu,yu,rfl⟩
    ·skip
     go_wp2_with(rw[←HW6.out]);refine(HB.out S' w6 C6.out).mono ?_;rintro z w7 ⟨rfl,h7,st7⟩;have HA7:=hid h7;have G7:=hid (st7.fr.heap G6.out N2.out);have ZR7:=hid (st7.fr.heap Z6.out N1.out);have RN7:=hid (RN.keep st7.fr (fun k _ hk=>.inl hk) (fun k _ hk=>hk) _ _ RN6.out:RN (A2 S' O w.heap.size) w7 n _);have ST7:=hid (ST6.out.trans (Stp.gs st7 (lt_heap G6.out)));clear h7 st7;go_wp2_with fail;refine(cm_ok b l x s3 S' w7 HA7.out).mono ?_;rintro z wq ⟨rfl,fq⟩;have vq:=ZG (fq.heap G7.out (fun x=>x)) _ (Fr.refl _ _);have RNq:=hid (RN7.out.on fq);have FQ:=hid fq;clear fq;simp only[e3];go_wp2_with fail;refine(groups_any _ n _ _ (Nat.le_refl _) hRz RNq.out.none).mono ?_;rintro z w8 ⟨rfl,f8'⟩;have f8:=FQ.out.trans' f8';have g8:=f8.heap G7.out (fun x=>x);have v8:=ZG g8 _ (Fr.refl _ _);have G8:=hid g8;have Z8:=hid (f8.heap ZR7.out (fun x=>x));have C8:=hid (HA7.out.on f8);have RN8:=hid (RN7.out.on f8);have ST8:=hid (ST7.out.trans (Stp.of f8))
     have SL8:=hid (show∀k,S' k→k<w8.heap.size from fun k hk=>ST8.out.lt (fun j hj=>by have:=HS2.out;rcases hj with hj|hj;have:=HS.out j hj;omega;omega) k (.inl hk));have SZ8:=hid (show w.heap.size+2≤w8.heap.size by have:=ST8.out.fr.size;have:=HS2.out;omega);clear g8 f8 f8' vq;go_wp2_with fail;refine(HPT.out w8).mono ?_;rintro z w9 ⟨pv,rfl,op9,hn9,f9⟩;obtain⟨pa,pc,rfl⟩:=Zb op9;have hpo:PrO (A2 S' O w.heap.size) w9 ps (.slice pa ps.length pc):=⟨op9,fun k hk hA=>by
      have:=hn9 k hk;rcases hA with hA|hA|hA
      ·have:=SL8.out k hA;omega
      ·have:=HO.out k hA;have:=SZ8.out;omega
      ·have:=SZ8.out;omega⟩
     have g9:=f9.heap G8.out (fun x=>x);have z9:=f9.heap Z8.out (fun x=>x);have v9:=ZG g9 _ (Fr.refl _ _);have g10:(w9.setCell ⟨w.heap.size+1,2,none⟩ (.slice pa ps.length pc)).heap[w.heap.size+1]? =some (.cells #[.string ⟨tx.toArray⟩,.nilIface,.slice pa ps.length pc,.int .i64 0,.bool false,.bool false,.string ⟨#[]⟩] 33 (0,0)):=Za g9 2 _;have z10:=Zc (p:=⟨w.heap.size+1,2,none⟩) z9 (by show w.heap.size≠w.heap.size+1;omega) (.slice pa ps.length pc);have fs:Fr (fun k=>k=w.heap.size+1) w9 (w9.setCell ⟨w.heap.size+1,2,none⟩ (.slice pa ps.length pc)):=(Fr.refl (fun k=>k=w.heap.size+1) w9).setCell (p:=⟨w.heap.size+1,2,none⟩) (fun _=>rfl) _;have c10:=(C8.out.on f9).setg N2.out 2 (.slice pa ps.length pc);obtain⟨w10,hw10⟩:∃w10,w10=w9.setCell ⟨w.heap.size+1,2,none⟩ (.slice pa ps.length pc):=⟨_,rfl⟩;rw[←hw10]at g10 z10 fs c10;have HW10:=hid hw10;have G10:=hid g10;have Z10:=hid z10;have C10:=hid c10
     have RN9:=RN8.out.on f9;have RN10:=hid (RN.keep fs (fun k _ hk=>.inr (.inr (.inr hk))) (fun _ _ x=>x) _ _ RN9:RN (A2 S' O w.heap.size) w10 n .nilIface);have PO10:=hid (hpo.keep fs (fun k hk=>.inr (.inr (.inr hk))) (fun _ _ x=>x):PrO (A2 S' O w.heap.size) w10 ps _);have ST10:=hid ((ST8.out.trans (Stp.of f9)).trans (⟨fs.mono (fun k _ hk=>.inr hk),fun _ _ x=>x,fun hl k hk=>by have:=hl k hk;have:=fs.size;omega⟩:Stp (GS S' (w.heap.size+1)) w9 (GS S' (w.heap.size+1)) w10));have SZ10:=hid (show w8.heap.size≤w10.heap.size by have:=f9.size;have:=fs.size;omega);clear op9 hn9 hpo g9 z9 g10 z10 fs c10 hw10 RN9 f9;go_wp2_with(rw[←HW10.out])
     go_loopw [51] (fun _ wr=>∃(m:Nat) (sub':SV) (s':AdS),Zai l m sub' s'=FF∧l.length<m+s'.at_∧s'.at_≤l.length∧sub'.text=tx∧sub'.tree=n∧sub'.parts=ps∧wr.heap[w.heap.size+1]? =some (.cells (Zdn sub' .nilIface (.slice pa ps.length pc)) 33 (0,0))∧CRd b l x s' S' wr∧Stp (GS S' (w.heap.size+1)) w10 (GS S' (w.heap.size+1)) wr) (fun _ wr=>l.length-Zqd b wr)
     case atStart=>exact⟨l.length+2,_,s3,HFF.out,by omega,hbi,rfl,rfl,rfl,G10.out,C10.out,Stp.refl _ _⟩
     case round=>
      obtain⟨m,sub',s',hF,hm,hat,ht1,ht2,ht3,hg,hc,hst⟩:=hrel;cases m with
      |zero=>omega
      |succ m=>
       rw[Zai]at hF;have hmore:=fun(sub2:SV) (s2:AdS) (h:Zap l sub' s'=(true,sub2,s2))=>Zdl h;have hkeep:=flagC_keep l sub' s';have hFL:=Zlc b (w.heap.size+1) l x S' .nilIface (.slice pa ps.length pc) sub' s' wr hl hat (fun k hk=>hst.lt (fun j hj=>by rcases hj with hj|hj;have:=SL8.out j hj;have:=SZ10.out;omega;have:=SZ10.out;have:=SZ8.out;omega) k (.inl hk)) N2.out hg hc;have hatw:=Zft hc;obtain⟨FL,hFLe⟩:∃FL,Zap l sub' s'=FL:=⟨_,rfl⟩;obtain⟨q,sub2,s2'⟩:=FL;rw[hFLe]at hF hmore hkeep hFL;simp only at hFL hkeep;have HST:=hid hst;have HFL:=hid hFL;have HATW:=hid hatw;have HKP:=hid (show sub2.text=tx∧sub2.tree=n∧sub2.parts=ps from⟨hkeep.1.trans ht1,hkeep.2.1.trans ht2,hkeep.2.2.trans ht3⟩);clear hst hFL hatw hkeep ht1 ht2 ht3 hg hc hFLe;go_wp2_with fail;refine HFL.out.mono ?_;rintro z wA ⟨rfl,gA,cA,stA⟩;have GA:=hid gA;have CA:=hid cA;have STA:=hid (HST.out.trans stA);clear gA cA stA
       cases q with
       |true=>
        obtain⟨k1,k2⟩:=hmore sub2 s2' rfl;simp only at hF;have HF2:=hid hF;clear hF hmore;go_wp2;go_roundw
        case rel=>exact⟨m,sub2,s2',HF2.out,by omega,k2,HKP.out.1,HKP.out.2.1,HKP.out.2.2,GA.out,CA.out,STA.out⟩
        case measure=>rw[HATW.out,Zft CA.out];omega
       |false=>
        simp only at hF;subst hF;clear hmore HFF;have hzF:=STA.out.fr.heap Z10.out (by rintro(h|h);exact N1.out h;exact absurd h (by omega));have vF:=ZG GA.out _ (Fr.refl _ _);have rF:=ZG hzF _ (Fr.refl _ _);have HZF:=hid (fun v0 v1 v2 v3 v4 v5 v6=>ZZ hzF v0 v1 v2 v3 v4 v5 v6);have FK:=hid (STA.out.fr.weak (fun k hk=>ZpQ (O:=O) (r:=w.heap.size) hk));clear hzF;go_wp2;(try simp only[Exit.inBlock,Exit.then]);refine bodyPost_ret (ZaJ rfl rfl (HZF.out _ _ _ _ _ _ _)) rfl ⟨.nilIface,_,S',rfl,?_,?_,CA.out.keep (Zh _ _ _ _ _ _ _ _ _) (fun k hk e=>N1.out (by have hk:k=_:=hk;rw[←hk];exact e)),ZcG F2.out HS2.out HS.out (ST10.out.trans STA.out) (Zh _ _ _ _ _ _ _ _ _)⟩
        ·show RN (SO S' O) _ sub2.tree .nilIface;rw[HKP.out.2.1];exact RN.keep (FK.out.trans (Zh _ _ _ _ _ _ _ _ _) (fun i hi h=>.inr (.inr (.inl h)))) (fun _ _ hk=>hk) (fun _ _ hk=>A2.so hk) _ _ RN10.out
        ·show PrO (SO S' O) _ sub2.parts _;rw[HKP.out.2.2];exact PO10.out.keep (FK.out.trans (Zh _ _ _ _ _ _ _ _ _) (fun i hi h=>.inr (.inr (.inl h)))) (fun _ hk=>hk) (fun _ _ hk=>A2.so hk)
    ·skip
     go_wp2_with(rw[←HW6.out]);refine(HB.out S' w6 C6.out).mono ?_;rintro z w7 ⟨rfl,h7,st7⟩;have HA7:=hid h7;have G7:=hid (st7.fr.heap G6.out N2.out);have ZR7:=hid (st7.fr.heap Z6.out N1.out);have RN7:=hid (RN.keep st7.fr (fun k _ hk=>.inl hk) (fun k _ hk=>hk) _ _ RN6.out:RN (A2 S' O w.heap.size) w7 n _);have ST7:=hid (ST6.out.trans (Stp.gs st7 (lt_heap G6.out)));clear h7 st7;go_wp2_with fail;refine(cm_ok b l x s3 S' w7 HA7.out).mono ?_;rintro z wq ⟨rfl,fq⟩;have vq:=ZG (fq.heap G7.out (fun x=>x)) _ (Fr.refl _ _);have RNq:=hid (RN7.out.on fq);have FQ:=hid fq;clear fq;simp only[e3];go_wp2_with fail;refine(groups_any _ n _ _ (Nat.le_refl _) hRz RNq.out.none).mono ?_;rintro z w8 ⟨rfl,f8'⟩;have f8:=FQ.out.trans' f8';have g8:=f8.heap G7.out (fun x=>x);have v8:=ZG g8 _ (Fr.refl _ _);have G8:=hid g8;have Z8:=hid (f8.heap ZR7.out (fun x=>x));have C8:=hid (HA7.out.on f8);have RN8:=hid (RN7.out.on f8);have ST8:=hid (ST7.out.trans (Stp.of f8))
     have SL8:=hid (show∀k,S' k→k<w8.heap.size from fun k hk=>ST8.out.lt (fun j hj=>by have:=HS2.out;rcases hj with hj|hj;have:=HS.out j hj;omega;omega) k (.inl hk));have SZ8:=hid (show w.heap.size+2≤w8.heap.size by have:=ST8.out.fr.size;have:=HS2.out;omega);clear g8 f8 f8' vq;go_wp2_with fail;refine(HPT.out w8).mono ?_;rintro z w9 ⟨pv,rfl,op9,hn9,f9⟩;obtain⟨pa,pc,rfl⟩:=Zb op9;have hpo:PrO (A2 S' O w.heap.size) w9 ps (.slice pa ps.length pc):=⟨op9,fun k hk hA=>by
      have:=hn9 k hk;rcases hA with hA|hA|hA
      ·have:=SL8.out k hA;omega
      ·have:=HO.out k hA;have:=SZ8.out;omega
      ·have:=SZ8.out;omega⟩
     have g9:=f9.heap G8.out (fun x=>x);have z9:=f9.heap Z8.out (fun x=>x);have v9:=ZG g9 _ (Fr.refl _ _);have g10:(w9.setCell ⟨w.heap.size+1,2,none⟩ (.slice pa ps.length pc)).heap[w.heap.size+1]? =some (.cells #[.string ⟨tx.toArray⟩,(.iface iu yu),.slice pa ps.length pc,.int .i64 0,.bool false,.bool false,.string ⟨#[]⟩] 33 (0,0)):=Za g9 2 _;have z10:=Zc (p:=⟨w.heap.size+1,2,none⟩) z9 (by show w.heap.size≠w.heap.size+1;omega) (.slice pa ps.length pc);have fs:Fr (fun k=>k=w.heap.size+1) w9 (w9.setCell ⟨w.heap.size+1,2,none⟩ (.slice pa ps.length pc)):=(Fr.refl (fun k=>k=w.heap.size+1) w9).setCell (p:=⟨w.heap.size+1,2,none⟩) (fun _=>rfl) _;have c10:=(C8.out.on f9).setg N2.out 2 (.slice pa ps.length pc);obtain⟨w10,hw10⟩:∃w10,w10=w9.setCell ⟨w.heap.size+1,2,none⟩ (.slice pa ps.length pc):=⟨_,rfl⟩;rw[←hw10]at g10 z10 fs c10;have HW10:=hid hw10;have G10:=hid g10;have Z10:=hid z10;have C10:=hid c10
     have RN9:=RN8.out.on f9;have RN10:=hid (RN.keep fs (fun k _ hk=>.inr (.inr (.inr hk))) (fun _ _ x=>x) _ _ RN9:RN (A2 S' O w.heap.size) w10 n (.iface iu yu));have PO10:=hid (hpo.keep fs (fun k hk=>.inr (.inr (.inr hk))) (fun _ _ x=>x):PrO (A2 S' O w.heap.size) w10 ps _);have ST10:=hid ((ST8.out.trans (Stp.of f9)).trans (⟨fs.mono (fun k _ hk=>.inr hk),fun _ _ x=>x,fun hl k hk=>by have:=hl k hk;have:=fs.size;omega⟩:Stp (GS S' (w.heap.size+1)) w9 (GS S' (w.heap.size+1)) w10));have SZ10:=hid (show w8.heap.size≤w10.heap.size by have:=f9.size;have:=fs.size;omega);clear op9 hn9 hpo g9 z9 g10 z10 fs c10 hw10 RN9 f9;go_wp2_with(rw[←HW10.out])
     go_loopw [51] (fun _ wr=>∃(m:Nat) (sub':SV) (s':AdS),Zai l m sub' s'=FF∧l.length<m+s'.at_∧s'.at_≤l.length∧sub'.text=tx∧sub'.tree=n∧sub'.parts=ps∧wr.heap[w.heap.size+1]? =some (.cells (Zdn sub' (.iface iu yu) (.slice pa ps.length pc)) 33 (0,0))∧CRd b l x s' S' wr∧Stp (GS S' (w.heap.size+1)) w10 (GS S' (w.heap.size+1)) wr) (fun _ wr=>l.length-Zqd b wr)
     case atStart=>exact⟨l.length+2,_,s3,HFF.out,by omega,hbi,rfl,rfl,rfl,G10.out,C10.out,Stp.refl _ _⟩
     case round=>
      obtain⟨m,sub',s',hF,hm,hat,ht1,ht2,ht3,hg,hc,hst⟩:=hrel;cases m with
      |zero=>omega
      |succ m=>
       rw[Zai]at hF;have hmore:=fun(sub2:SV) (s2:AdS) (h:Zap l sub' s'=(true,sub2,s2))=>Zdl h;have hkeep:=flagC_keep l sub' s';have hFL:=Zlc b (w.heap.size+1) l x S' (.iface iu yu) (.slice pa ps.length pc) sub' s' wr hl hat (fun k hk=>hst.lt (fun j hj=>by rcases hj with hj|hj;have:=SL8.out j hj;have:=SZ10.out;omega;have:=SZ10.out;have:=SZ8.out;omega) k (.inl hk)) N2.out hg hc;have hatw:=Zft hc;obtain⟨FL,hFLe⟩:∃FL,Zap l sub' s'=FL:=⟨_,rfl⟩;obtain⟨q,sub2,s2'⟩:=FL;rw[hFLe]at hF hmore hkeep hFL;simp only at hFL hkeep;have HST:=hid hst;have HFL:=hid hFL;have HATW:=hid hatw;have HKP:=hid (show sub2.text=tx∧sub2.tree=n∧sub2.parts=ps from⟨hkeep.1.trans ht1,hkeep.2.1.trans ht2,hkeep.2.2.trans ht3⟩);clear hst hFL hatw hkeep ht1 ht2 ht3 hg hc hFLe;go_wp2_with fail;refine HFL.out.mono ?_;rintro z wA ⟨rfl,gA,cA,stA⟩;have GA:=hid gA;have CA:=hid cA;have STA:=hid (HST.out.trans stA)
       clear gA cA stA;cases q with
       |true=>
        obtain⟨k1,k2⟩:=hmore sub2 s2' rfl;simp only at hF;have HF2:=hid hF;clear hF hmore;go_wp2;go_roundw
        case rel=>exact⟨m,sub2,s2',HF2.out,by omega,k2,HKP.out.1,HKP.out.2.1,HKP.out.2.2,GA.out,CA.out,STA.out⟩
        case measure=>rw[HATW.out,Zft CA.out];omega
       |false=>
        simp only at hF;subst hF;clear hmore HFF;have hzF:=STA.out.fr.heap Z10.out (by rintro(h|h);exact N1.out h;exact absurd h (by omega));have vF:=ZG GA.out _ (Fr.refl _ _);have rF:=ZG hzF _ (Fr.refl _ _);have HZF:=hid (fun v0 v1 v2 v3 v4 v5 v6=>ZZ hzF v0 v1 v2 v3 v4 v5 v6);have FK:=hid (STA.out.fr.weak (fun k hk=>ZpQ (O:=O) (r:=w.heap.size) hk));clear hzF;go_wp2;(try simp only[Exit.inBlock,Exit.then]);refine bodyPost_ret (ZaJ rfl rfl (HZF.out _ _ _ _ _ _ _)) rfl ⟨(.iface iu yu),_,S',rfl,?_,?_,CA.out.keep (Zh _ _ _ _ _ _ _ _ _) (fun k hk e=>N1.out (by have hk:k=_:=hk;rw[←hk];exact e)),ZcG F2.out HS2.out HS.out (ST10.out.trans STA.out) (Zh _ _ _ _ _ _ _ _ _)⟩
        ·show RN (SO S' O) _ sub2.tree (.iface iu yu);rw[HKP.out.2.1];exact RN.keep (FK.out.trans (Zh _ _ _ _ _ _ _ _ _) (fun i hi h=>.inr (.inr (.inl h)))) (fun _ _ hk=>hk) (fun _ _ hk=>A2.so hk) _ _ RN10.out
        ·show PrO (SO S' O) _ sub2.parts _;rw[HKP.out.2.2];exact PO10.out.keep (FK.out.trans (Zh _ _ _ _ _ _ _ _ _) (fun i hi h=>.inr (.inr (.inl h)))) (fun _ hk=>hk) (fun _ _ hk=>A2.so hk)
   ·have hif4:pe≠0:=hpe;simp only[ne_eq,hpe,not_false_eq_true,if_true];go_enter Tryz.func92,Tryz.ntmps92;go_wp2_with(first|rw[←HW1.out]|rw[HS1.out]|rw[←HW2.out]);refine HDL.out.mono ?_;rintro z w3 ⟨rfl,h3',st3⟩;have H3:=hid h3';have ST3:=hid st3;clear h3' st3;go_wp2_with fail;refine(cm_ok b l x s1 S w3 H3.out).mono ?_;rintro z w4 ⟨rfl,f4⟩;have hr4:∀k,S k→k<w4.heap.size:=fun k hk=>by have:=HS.out k hk;have:=ST3.out.fr.size;have:=HS2.out;have:=f4.size;omega
    have hO4:∀k,(O k∨(k=w.heap.size∨k=w.heap.size+1))→k<w4.heap.size:=fun k hk=>by
     have:=ST3.out.fr.size;have:=HS2.out;have:=f4.size;rcases hk with hk|hk|hk
     ·have:=HO.out k hk;omega
     ·omega
     ·omega
    have hW4:Fr nob W0 w4:=(((Stp.of F2.out).trans ST3.out).trans (Stp.of f4)).from HWW.out HSW.out;have z4:=f4.heap (ST3.out.fr.heap HZ1.out HN1.out) (fun x=>x);have y4:=f4.heap (ST3.out.fr.heap HZ2.out HN2.out) (fun x=>x);have HR4:=hid (HRG.out w4 hr4 hO4 hW4 (H3.out.on f4));have ST4:=hid (ST3.out.trans (Stp.of f4));have Z4:=hid z4;have Y4:=hid y4;have SL4:=hid hr4;clear hr4 hO4 hW4 z4 y4 f4;simp only[e1];go_wp2_with fail;refine HR4.out.mono ?_;rintro z w5 ⟨u,S',rfl,rn5,h5,st5⟩;have z5:=st5.fr.heap Z4.out HN1.out;have y5:=st5.fr.heap Y4.out HN2.out;have hn1:¬S' w.heap.size:=fun e=>HN1.out (st5.old _ (lt_heap Z4.out) e);have hn2:¬S' (w.heap.size+1):=fun e=>HN2.out (st5.old _ (lt_heap Y4.out) e);have sl5:=st5.lt SL4.out;have v5:=ZG y5 _ (Fr.refl _ _);have g6:((w5.setCell ⟨w.heap.size+1,0,none⟩ (.string ⟨tx.toArray⟩)).setCell ⟨w.heap.size+1,1,none⟩ u).heap[w.heap.size+1]? =some (.cells #[.string ⟨tx.toArray⟩,u,.slice none 0 0,.int .i64 0,.bool false,.bool false,.string ⟨#[]⟩] 33 (0,0)):=Za (Za y5 0 _) 1 _
    have z6:=Zc (p:=⟨w.heap.size+1,1,none⟩) (Zc (p:=⟨w.heap.size+1,0,none⟩) z5 (by show w.heap.size≠w.heap.size+1;omega) (.string ⟨tx.toArray⟩)) (by show w.heap.size≠w.heap.size+1;omega) u;have c6:=(h5.setg hn2 0 (.string ⟨tx.toArray⟩)).setg hn2 1 u;have fs:Fr (fun k=>k=w.heap.size+1) w5 ((w5.setCell ⟨w.heap.size+1,0,none⟩ (.string ⟨tx.toArray⟩)).setCell ⟨w.heap.size+1,1,none⟩ u):=((Fr.refl (fun k=>k=w.heap.size+1) w5).setCell (p:=⟨w.heap.size+1,0,none⟩) (fun _=>rfl) _).setCell (p:=⟨w.heap.size+1,1,none⟩) (fun _=>rfl) _;have v5':=ZG (Za y5 0 (.string ⟨tx.toArray⟩)) _ (Fr.refl _ _);obtain⟨w6,hw6⟩:∃w6,w6=(w5.setCell ⟨w.heap.size+1,0,none⟩ (.string ⟨tx.toArray⟩)).setCell ⟨w.heap.size+1,1,none⟩ u:=⟨_,rfl⟩;rw[←hw6]at g6 z6 c6 fs;have HW6:=hid hw6;have G6:=hid g6;have Z6:=hid z6;have C6:=hid c6;have RN6:=hid (RN.keep fs (fun k _ hk=>.inr (.inr (.inr hk))) (fun _ _ x=>x) _ _ rn5:RN (A2 S' O w.heap.size) w6 n u)
    have SL5:=hid sl5;have N1:=hid hn1;have N2:=hid hn2;have ST6:=hid (show Stp (GS S (w.heap.size+1)) w2 (GS S' (w.heap.size+1)) w6 from((Stp.gs ST4.out (by have:=HS2.out;omega)).trans (Stp.gs st5 (lt_heap Y4.out))).trans ⟨fs.mono (fun k _ hk=>.inr hk),fun _ _ x=>x,fun hl k hk=>by have:=hl k hk;have:=fs.size;omega⟩);have osh:=rn5.shape;obtain⟨mv6,hq6⟩:=c6;have r6:=Zd hq6.blk _ (Fr.refl _ _);clear rn5 h5 st5 z5 y5 hn1 hn2 sl5 g6 z6 hq6 fs hw6;rcases osh with rfl|⟨iu,yu,rfl⟩
    ·skip
     go_wp2_with(rw[←HW6.out]);refine(HB.out S' w6 C6.out).mono ?_;rintro z w7 ⟨rfl,h7,st7⟩;have HA7:=hid h7;have G7:=hid (st7.fr.heap G6.out N2.out);have ZR7:=hid (st7.fr.heap Z6.out N1.out);have RN7:=hid (RN.keep st7.fr (fun k _ hk=>.inl hk) (fun k _ hk=>hk) _ _ RN6.out:RN (A2 S' O w.heap.size) w7 n _);have ST7:=hid (ST6.out.trans (Stp.gs st7 (lt_heap G6.out)));clear h7 st7;go_wp2_with fail;refine(cm_ok b l x s3 S' w7 HA7.out).mono ?_;rintro z wq ⟨rfl,fq⟩;have vq:=ZG (fq.heap G7.out (fun x=>x)) _ (Fr.refl _ _);have RNq:=hid (RN7.out.on fq);have FQ:=hid fq;clear fq;simp only[e3];go_wp2_with fail;refine(groups_any _ n _ _ (Nat.le_refl _) hRz RNq.out.none).mono ?_;rintro z w8 ⟨rfl,f8'⟩;have f8:=FQ.out.trans' f8';have g8:=f8.heap G7.out (fun x=>x);have v8:=ZG g8 _ (Fr.refl _ _);have G8:=hid g8;have Z8:=hid (f8.heap ZR7.out (fun x=>x));have C8:=hid (HA7.out.on f8);have RN8:=hid (RN7.out.on f8);have ST8:=hid (ST7.out.trans (Stp.of f8))
     have SL8:=hid (show∀k,S' k→k<w8.heap.size from fun k hk=>ST8.out.lt (fun j hj=>by have:=HS2.out;rcases hj with hj|hj;have:=HS.out j hj;omega;omega) k (.inl hk));have SZ8:=hid (show w.heap.size+2≤w8.heap.size by have:=ST8.out.fr.size;have:=HS2.out;omega);clear g8 f8 f8' vq;go_wp2_with fail;refine(HPT.out w8).mono ?_;rintro z w9 ⟨pv,rfl,op9,hn9,f9⟩;obtain⟨pa,pc,rfl⟩:=Zb op9;have pe1:(pe !=0)=true:=by simpa using hpe
     have F9:=hid f9;clear op9 hn9 f9;go_wp2_with fail;refine(cm_fail b l x s3 S' pe s2.at_ w9 (C8.out.on F9.out)).mono ?_;rintro z wA ⟨rfl,cA,stA⟩;have CA:=hid cA;have STA:=hid (((Stp.of F9.out:Stp S' w8 S' w9).trans stA));have GA:=hid (stA.fr.heap (F9.out.heap G8.out (fun x=>x)) N2.out);have hzF:=stA.fr.heap (F9.out.heap Z8.out (fun x=>x)) N1.out;have vF:=ZG GA.out _ (Fr.refl _ _);have rF:=ZG hzF _ (Fr.refl _ _);have HZF:=hid (fun v0 v1 v2 v3 v4 v5 v6=>ZZ hzF v0 v1 v2 v3 v4 v5 v6);clear hzF cA stA;go_wp2;(try simp only[Exit.inBlock,Exit.then]);refine bodyPost_ret (ZaJ rfl rfl (HZF.out _ _ _ _ _ _ _)) rfl ⟨.nilIface,_,S',rfl,?_,PrO.nil _ _,CA.out.keep (Zh _ _ _ _ _ _ _ _ _) (fun k hk e=>N1.out (by have hk:k=_:=hk;rw[←hk];exact e)),ZcG F2.out HS2.out HS.out (ST8.out.trans (Stp.gs STA.out (lt_heap G8.out))) (Zh _ _ _ _ _ _ _ _ _)⟩;exact RN.keep ((STA.out.fr.weak (fun k hk=>.inl hk)).trans (Zh _ _ _ _ _ _ _ _ _) (fun i hi h=>.inr (.inr (.inl h)))) (fun _ _ hk=>hk) (fun _ _ hk=>A2.so hk) _ _ RN8.out
    ·skip
     go_wp2_with(rw[←HW6.out]);refine(HB.out S' w6 C6.out).mono ?_;rintro z w7 ⟨rfl,h7,st7⟩;have HA7:=hid h7;have G7:=hid (st7.fr.heap G6.out N2.out);have ZR7:=hid (st7.fr.heap Z6.out N1.out);have RN7:=hid (RN.keep st7.fr (fun k _ hk=>.inl hk) (fun k _ hk=>hk) _ _ RN6.out:RN (A2 S' O w.heap.size) w7 n _);have ST7:=hid (ST6.out.trans (Stp.gs st7 (lt_heap G6.out)));clear h7 st7;go_wp2_with fail;refine(cm_ok b l x s3 S' w7 HA7.out).mono ?_;rintro z wq ⟨rfl,fq⟩;have vq:=ZG (fq.heap G7.out (fun x=>x)) _ (Fr.refl _ _);have RNq:=hid (RN7.out.on fq);have FQ:=hid fq;clear fq;simp only[e3];go_wp2_with fail;refine(groups_any _ n _ _ (Nat.le_refl _) hRz RNq.out.none).mono ?_;rintro z w8 ⟨rfl,f8'⟩;have f8:=FQ.out.trans' f8';have g8:=f8.heap G7.out (fun x=>x);have v8:=ZG g8 _ (Fr.refl _ _);have G8:=hid g8;have Z8:=hid (f8.heap ZR7.out (fun x=>x));have C8:=hid (HA7.out.on f8);have RN8:=hid (RN7.out.on f8);have ST8:=hid (ST7.out.trans (Stp.of f8))
     have SL8:=hid (show∀k,S' k→k<w8.heap.size from fun k hk=>ST8.out.lt (fun j hj=>by have:=HS2.out;rcases hj with hj|hj;have:=HS.out j hj;omega;omega) k (.inl hk));have SZ8:=hid (show w.heap.size+2≤w8.heap.size by have:=ST8.out.fr.size;have:=HS2.out;omega);clear g8 f8 f8' vq;go_wp2_with fail;refine(HPT.out w8).mono ?_;rintro z w9 ⟨pv,rfl,op9,hn9,f9⟩;obtain⟨pa,pc,rfl⟩:=Zb op9;have pe1:(pe !=0)=true:=by simpa using hpe
     have F9:=hid f9;clear op9 hn9 f9;go_wp2_with fail;refine(cm_fail b l x s3 S' pe s2.at_ w9 (C8.out.on F9.out)).mono ?_;rintro z wA ⟨rfl,cA,stA⟩;have CA:=hid cA;have STA:=hid (((Stp.of F9.out:Stp S' w8 S' w9).trans stA));have GA:=hid (stA.fr.heap (F9.out.heap G8.out (fun x=>x)) N2.out);have hzF:=stA.fr.heap (F9.out.heap Z8.out (fun x=>x)) N1.out;have vF:=ZG GA.out _ (Fr.refl _ _);have rF:=ZG hzF _ (Fr.refl _ _);have HZF:=hid (fun v0 v1 v2 v3 v4 v5 v6=>ZZ hzF v0 v1 v2 v3 v4 v5 v6);clear hzF cA stA;go_wp2;(try simp only[Exit.inBlock,Exit.then]);refine bodyPost_ret (ZaJ rfl rfl (HZF.out _ _ _ _ _ _ _)) rfl ⟨(.iface iu yu),_,S',rfl,?_,PrO.nil _ _,CA.out.keep (Zh _ _ _ _ _ _ _ _ _) (fun k hk e=>N1.out (by have hk:k=_:=hk;rw[←hk];exact e)),ZcG F2.out HS2.out HS.out (ST8.out.trans (Stp.gs STA.out (lt_heap G8.out))) (Zh _ _ _ _ _ _ _ _ _)⟩;exact RN.keep ((STA.out.fr.weak (fun k hk=>.inl hk)).trans (Zh _ _ _ _ _ _ _ _ _) (fun i hi h=>.inr (.inr (.inl h)))) (fun _ _ hk=>hk) (fun _ _ hk=>A2.so hk) _ _ RN8.out
  ·have hif3:s3.e≠0:=h3;simp only[if_pos hif3];have e3:(s3.e==0)=false:=by simpa using h3
   go_enter Tryz.func92,Tryz.ntmps92;go_wp2_with(first|rw[←HW1.out]|rw[HS1.out]|rw[←HW2.out]);refine HDL.out.mono ?_;rintro z w3 ⟨rfl,h3',st3⟩;have H3:=hid h3';have ST3:=hid st3;clear h3' st3;go_wp2_with fail;refine(cm_ok b l x s1 S w3 H3.out).mono ?_;rintro z w4 ⟨rfl,f4⟩;have hr4:∀k,S k→k<w4.heap.size:=fun k hk=>by have:=HS.out k hk;have:=ST3.out.fr.size;have:=HS2.out;have:=f4.size;omega
   have hO4:∀k,(O k∨(k=w.heap.size∨k=w.heap.size+1))→k<w4.heap.size:=fun k hk=>by
    have:=ST3.out.fr.size;have:=HS2.out;have:=f4.size;rcases hk with hk|hk|hk
    ·have:=HO.out k hk;omega
    ·omega
    ·omega
   have hW4:Fr nob W0 w4:=(((Stp.of F2.out).trans ST3.out).trans (Stp.of f4)).from HWW.out HSW.out;have z4:=f4.heap (ST3.out.fr.heap HZ1.out HN1.out) (fun x=>x);have y4:=f4.heap (ST3.out.fr.heap HZ2.out HN2.out) (fun x=>x);have HR4:=hid (HRG.out w4 hr4 hO4 hW4 (H3.out.on f4));have ST4:=hid (ST3.out.trans (Stp.of f4));have Z4:=hid z4;have Y4:=hid y4;have SL4:=hid hr4;clear hr4 hO4 hW4 z4 y4 f4;simp only[e1];go_wp2_with fail;refine HR4.out.mono ?_;rintro z w5 ⟨u,S',rfl,rn5,h5,st5⟩;have z5:=st5.fr.heap Z4.out HN1.out;have y5:=st5.fr.heap Y4.out HN2.out;have hn1:¬S' w.heap.size:=fun e=>HN1.out (st5.old _ (lt_heap Z4.out) e);have hn2:¬S' (w.heap.size+1):=fun e=>HN2.out (st5.old _ (lt_heap Y4.out) e);have sl5:=st5.lt SL4.out;have v5:=ZG y5 _ (Fr.refl _ _);have g6:((w5.setCell ⟨w.heap.size+1,0,none⟩ (.string ⟨tx.toArray⟩)).setCell ⟨w.heap.size+1,1,none⟩ u).heap[w.heap.size+1]? =some (.cells #[.string ⟨tx.toArray⟩,u,.slice none 0 0,.int .i64 0,.bool false,.bool false,.string ⟨#[]⟩] 33 (0,0)):=Za (Za y5 0 _) 1 _
   have z6:=Zc (p:=⟨w.heap.size+1,1,none⟩) (Zc (p:=⟨w.heap.size+1,0,none⟩) z5 (by show w.heap.size≠w.heap.size+1;omega) (.string ⟨tx.toArray⟩)) (by show w.heap.size≠w.heap.size+1;omega) u;have c6:=(h5.setg hn2 0 (.string ⟨tx.toArray⟩)).setg hn2 1 u;have fs:Fr (fun k=>k=w.heap.size+1) w5 ((w5.setCell ⟨w.heap.size+1,0,none⟩ (.string ⟨tx.toArray⟩)).setCell ⟨w.heap.size+1,1,none⟩ u):=((Fr.refl (fun k=>k=w.heap.size+1) w5).setCell (p:=⟨w.heap.size+1,0,none⟩) (fun _=>rfl) _).setCell (p:=⟨w.heap.size+1,1,none⟩) (fun _=>rfl) _;have v5':=ZG (Za y5 0 (.string ⟨tx.toArray⟩)) _ (Fr.refl _ _);obtain⟨w6,hw6⟩:∃w6,w6=(w5.setCell ⟨w.heap.size+1,0,none⟩ (.string ⟨tx.toArray⟩)).setCell ⟨w.heap.size+1,1,none⟩ u:=⟨_,rfl⟩;rw[←hw6]at g6 z6 c6 fs;have HW6:=hid hw6;have G6:=hid g6;have Z6:=hid z6;have C6:=hid c6;have RN6:=hid (RN.keep fs (fun k _ hk=>.inr (.inr (.inr hk))) (fun _ _ x=>x) _ _ rn5:RN (A2 S' O w.heap.size) w6 n u)
   have SL5:=hid sl5;have N1:=hid hn1;have N2:=hid hn2;have ST6:=hid (show Stp (GS S (w.heap.size+1)) w2 (GS S' (w.heap.size+1)) w6 from((Stp.gs ST4.out (by have:=HS2.out;omega)).trans (Stp.gs st5 (lt_heap Y4.out))).trans ⟨fs.mono (fun k _ hk=>.inr hk),fun _ _ x=>x,fun hl k hk=>by have:=hl k hk;have:=fs.size;omega⟩);have osh:=rn5.shape;obtain⟨mv6,hq6⟩:=c6;have r6:=Zd hq6.blk _ (Fr.refl _ _);clear rn5 h5 st5 z5 y5 hn1 hn2 sl5 g6 z6 hq6 fs hw6;rcases osh with rfl|⟨iu,yu,rfl⟩
   ·skip
    go_wp2_with(rw[←HW6.out]);refine(HB.out S' w6 C6.out).mono ?_;rintro z w7 ⟨rfl,h7,st7⟩;have HA7:=hid h7;have G7:=hid (st7.fr.heap G6.out N2.out);have ZR7:=hid (st7.fr.heap Z6.out N1.out);have RN7:=hid (RN.keep st7.fr (fun k _ hk=>.inl hk) (fun k _ hk=>hk) _ _ RN6.out:RN (A2 S' O w.heap.size) w7 n _);have ST7:=hid (ST6.out.trans (Stp.gs st7 (lt_heap G6.out)));clear h7 st7;go_wp2_with fail;refine(cm_ok b l x s3 S' w7 HA7.out).mono ?_;rintro z wq ⟨rfl,fq⟩;have vq:=ZG (fq.heap G7.out (fun x=>x)) _ (Fr.refl _ _);have RNq:=hid (RN7.out.on fq);have FQ:=hid fq;clear fq;simp only[e3];have GA:=hid (FQ.out.heap G7.out (fun x=>x));have hzF:=FQ.out.heap ZR7.out (fun x=>x);have rF:=ZG hzF _ (Fr.refl _ _);have HZF:=hid (fun v0 v1 v2 v3 v4 v5 v6=>ZZ hzF v0 v1 v2 v3 v4 v5 v6);clear hzF;go_wp2;(try simp only[Exit.inBlock,Exit.then]);refine bodyPost_ret (ZaJ rfl rfl (HZF.out _ _ _ _ _ _ _)) rfl ⟨.nilIface,_,S',rfl,?_,PrO.nil _ _,(HA7.out.on FQ.out).keep (Zh _ _ _ _ _ _ _ _ _) (fun k hk e=>N1.out (by have hk:k=_:=hk;rw[←hk];exact e)),ZcG F2.out HS2.out HS.out (ST7.out.trans (Stp.of FQ.out)) (Zh _ _ _ _ _ _ _ _ _)⟩
    exact RN.keep (FQ.out.any.trans (S:=A2 S' O w.heap.size) (Zh _ _ _ _ _ _ _ _ _) (fun i hi h=>.inr (.inr (.inl h)))) (fun _ _ hk=>hk) (fun _ _ hk=>A2.so hk) _ _ RN7.out
   ·skip
    go_wp2_with(rw[←HW6.out]);refine(HB.out S' w6 C6.out).mono ?_;rintro z w7 ⟨rfl,h7,st7⟩;have HA7:=hid h7;have G7:=hid (st7.fr.heap G6.out N2.out);have ZR7:=hid (st7.fr.heap Z6.out N1.out);have RN7:=hid (RN.keep st7.fr (fun k _ hk=>.inl hk) (fun k _ hk=>hk) _ _ RN6.out:RN (A2 S' O w.heap.size) w7 n _);have ST7:=hid (ST6.out.trans (Stp.gs st7 (lt_heap G6.out)));clear h7 st7;go_wp2_with fail;refine(cm_ok b l x s3 S' w7 HA7.out).mono ?_;rintro z wq ⟨rfl,fq⟩;have vq:=ZG (fq.heap G7.out (fun x=>x)) _ (Fr.refl _ _);have RNq:=hid (RN7.out.on fq);have FQ:=hid fq;clear fq;simp only[e3];have GA:=hid (FQ.out.heap G7.out (fun x=>x));have hzF:=FQ.out.heap ZR7.out (fun x=>x);have rF:=ZG hzF _ (Fr.refl _ _);have HZF:=hid (fun v0 v1 v2 v3 v4 v5 v6=>ZZ hzF v0 v1 v2 v3 v4 v5 v6);clear hzF;go_wp2;(try simp only[Exit.inBlock,Exit.then]);refine bodyPost_ret (ZaJ rfl rfl (HZF.out _ _ _ _ _ _ _)) rfl ⟨(.iface iu yu),_,S',rfl,?_,PrO.nil _ _,(HA7.out.on FQ.out).keep (Zh _ _ _ _ _ _ _ _ _) (fun k hk e=>N1.out (by have hk:k=_:=hk;rw[←hk];exact e)),ZcG F2.out HS2.out HS.out (ST7.out.trans (Stp.of FQ.out)) (Zh _ _ _ _ _ _ _ _ _)⟩
    exact RN.keep (FQ.out.any.trans (S:=A2 S' O w.heap.size) (Zh _ _ _ _ _ _ _ _ _) (fun i hi h=>.inr (.inr (.inl h)))) (fun _ _ hk=>hk) (fun _ _ hk=>A2.so hk) _ _ RN7.out
 ·have hif1:s1.e≠0:=h1;simp only[if_pos hif1];have e1:(s1.e==0)=false:=by simpa using h1
  go_enter Tryz.func92,Tryz.ntmps92;go_wp2_with(first|rw[←HW1.out]|rw[HS1.out]|rw[←HW2.out]);refine HDL.out.mono ?_;rintro z w3 ⟨rfl,h3',st3⟩;have H3:=hid h3';have ST3:=hid st3;clear h3' st3;go_wp2_with fail;refine(cm_ok b l x s1 S w3 H3.out).mono ?_;rintro z w4 ⟨rfl,f4⟩;have z4:=f4.heap (ST3.out.fr.heap HZ1.out HN1.out) (fun x=>x);have y4:=f4.heap (ST3.out.fr.heap HZ2.out HN2.out) (fun x=>x);have vF:=ZG y4 _ (Fr.refl _ _);have rF:=ZG z4 _ (Fr.refl _ _);have HZF:=hid (fun v0 v1 v2 v3 v4 v5 v6=>ZZ z4 v0 v1 v2 v3 v4 v5 v6);have F4:=hid f4;clear z4 y4 f4;simp only[e1];go_wp2;(try simp only[Exit.inBlock,Exit.then]);refine bodyPost_ret (ZaJ rfl rfl (HZF.out _ _ _ _ _ _ _)) rfl ⟨.nilIface,_,S,rfl,(by show RN _ _ Nd.nil _;rw[RN]),PrO.nil _ _,(H3.out.on F4.out).keep (Zh _ _ _ _ _ _ _ _ _) (fun k hk e=>HN1.out (by have hk:k=_:=hk;rw[←hk];exact e)),ZcG F2.out HS2.out HS.out (Stp.gs (ST3.out.trans (Stp.of F4.out)) (by have:=HS2.out;omega)) (Zh _ _ _ _ _ _ _ _ _)⟩
def Tb(g:Nat)(bs:List UInt8)(w:World):Prop:=w.heap[g]? =some (.cells (ZP bs).toArray 202 (0,0))
theorem Zjx(bs:List UInt8)(k:Nat)(c:UInt8):(ZP bs).toArray.setIfInBounds k (ZeT c)=(ZP (bs.set k c)).toArray:=by
 unfold ZP;rw[List.setIfInBounds_toArray,List.map_set]
theorem Tb.cell{g k:Nat}{bs:List UInt8}{w:World}(h:Tb g bs w)(hk:k<bs.length):w.cell? ⟨g,k,none⟩=some (.int .u8 (bs[k].toNat:Int))∧w.frozen? ⟨g,k,none⟩=false:=by
 refine⟨cell_at h ?_,unfrozen_at h k⟩;simp[ZP,ZeT,hk]
theorem Tb.set{g:Nat}{bs:List UInt8}{w:World}(h:Tb g bs w)(k:Nat)(c:UInt8):Tb g (bs.set k c) (w.setCell ⟨g,k,none⟩ (.int .u8 (c.toNat:Int))):=by
 have:=Za h k (.int .u8 (c.toNat:Int));unfold Tb;rw[←Zjx];exact this
theorem Tb.ne{g g' k:Nat}{bs:List UInt8}{w:World}(h:Tb g bs w)(hg:g≠g')(v:Value):Tb g bs (w.setCell ⟨g',k,none⟩ v):=Zc (p:=⟨g',k,none⟩) h hg v
theorem Tb.on{g:Nat}{bs:List UInt8}{w w':World}(h:Tb g bs w)(f:Fr nob w w'):Tb g bs w':=f.heap h (fun x=>x)
def idk(k:Nat):List UInt8:=(List.range k).map UInt8.ofNat++List.replicate (256-k) 0
theorem Zlh{k:Nat}(h:k≤256):(idk k).length=256:=by unfold idk;simp;omega
theorem Zot{k:Nat}(h:k<256):(idk k).set k (UInt8.ofNat k)=idk (k+1):=by
 unfold idk;rw[ZeP _ k 0 (by simp),List.range_succ,List.map_append,show 256-k=(256-(k+1))+1 by omega,List.replicate_succ,List.append_assoc];rfl
theorem Zli:idk 256=Zjp:=by unfold idk Zjp;simp
def cntY(seen:List UInt8):List UInt8:=(List.range 256).map fun j=>if seen.contains (UInt8.ofNat j)then 1 else 0
theorem cntY_len(seen:List UInt8):(cntY seen).length=256:=by simp[cntY]
theorem Zou(seen:List UInt8)(a:UInt8):(cntY seen)[a.toNat]'(by rw[cntY_len];exact a.toNat_lt)=if seen.contains a then 1 else 0:=by
 unfold cntY;rw[List.getElem_map,List.getElem_range];simp
theorem ZmO:cntY []=List.replicate 256 0:=by kernel_rfl
theorem ZmP(seen:List UInt8)(a:UInt8):(cntY seen).set a.toNat 1=cntY (seen++[a]):=by
 apply List.ext_getElem
 ·rw[List.length_set,cntY_len,cntY_len]
 ·intro j h1 h2;rw[cntY_len]at h2;simp only[cntY,List.getElem_map,List.getElem_range,List.getElem_set];by_cases h:a.toNat=j
  ·subst h;simp
  ·rw[if_neg h];have hne:UInt8.ofNat j≠a:=fun e=>h (by rw[←e];simp;omega);have:(seen++[a]).contains (UInt8.ofNat j)=seen.contains (UInt8.ofNat j):=by
    rw[List.contains_append];simp[hne]
   rw[this]
theorem Zov{la lb:List UInt8}{k:Nat}(h1:k<la.length)(h2:k<lb.length)(seen out:List UInt8):Zod ((la.zip lb).drop k) seen out=if seen.contains la[k]then([],false)else Zod ((la.zip lb).drop (k+1)) (seen++[la[k]]) (out.set la[k].toNat lb[k]):=by
 have hz:k<(la.zip lb).length:=by rw[List.length_zip];omega
 rw[List.drop_eq_getElem_cons hz,List.getElem_zip,Zod]
theorem zc256:Tryz.zeroCells202=(ZP (List.replicate 256 0)).toArray:=by kernel_rfl
theorem Zc0:∀(l:List UInt8) (e:Bool) (out:List UInt8),(ZbC l e out).1.length≤out.length+l.length
 |[],e,out=>by unfold ZbC;cases e<;>simp
 |c::r,e,out=>by
  unfold ZbC;have h1:=Zc0 r true out;have h2:=Zc0 r false (out++[10]);have h3:=Zc0 r false (out++[c]);simp only[List.length_append,List.length_cons,List.length_nil]at h1 h2 h3⊢
  repeat' split
  all_goals first|omega|(simp;done)|(simp;omega)
theorem ZmQ:idk 0=List.replicate 256 0:=rfl
theorem ZmR(b:Nat)(l:List UInt8)(x:Bool)(s:AdS)(S:Nat→Prop)(w:World)(hl:l.length≤99000)(ha:s.at_≤l.length)(hS:∀k,S k→k<w.heap.size)(h:CRd b l x s S w):
 Calls Tryz.prog 93 #[.pointer (some ⟨b,0,none⟩)] w fun r w'=>r=.returned (.string ⟨(ZaP l s).1.toArray⟩)∧CRd b l x (ZaP l s).2 S w'∧Stp S w S w':=by
 have HDL:=hid (ZiF b l x s S w hl ha h);have hdin:=Za7 (l:=l) ha;unfold ZaP;simp only;obtain⟨DL,hDL⟩:∃DL,Zv l s=DL:=⟨_,rfl⟩;obtain⟨d,s1⟩:=DL;rw[hDL]at HDL hdin⊢;simp only at HDL hdin⊢;have HB1:=hid (fun w' h=>Zck b l d x false s1 S w' hl hdin h);have hbl:=Zek (l:=l) (d:=d) (rx:=false) (s:=s1);have hbi:=ZaW (l:=l) (s:=s1) d false hdin;obtain⟨BT,hBT⟩:∃BT,Zr l d false s1=BT:=⟨_,rfl⟩;obtain⟨tf,s2⟩:=BT;rw[hBT]at HB1 hbl hbi⊢;simp only at HB1 hbl hbi⊢;have HB2:=hid (fun w' h=>Zck b l d x false s2 S w' hl hbi h);have hbl2:=Zek (l:=l) (d:=d) (rx:=false) (s:=s2);obtain⟨BT2,hBT2⟩:∃BT2,Zr l d false s2=BT2:=⟨_,rfl⟩;obtain⟨tt,s3⟩:=BT2;rw[hBT2]at HB2 hbl2⊢;simp only at HB2 hbl2⊢;clear hDL hBT hBT2 h ha;have HL1:=hid (fun w'=>cm_list tf w' (by omega));have HL2:=hid (fun w'=>cm_list tt w' (by omega));have hla:=Zc0 tf false [];obtain⟨LA,hLA⟩:∃LA,ZbC tf false []=LA:=⟨_,rfl⟩
 obtain⟨LB,hLB⟩:∃LB,ZbC tt false []=LB:=⟨_,rfl⟩;obtain⟨la,oa⟩:=LA;obtain⟨lb,ob⟩:=LB;rw[hLA]at HL1 hla⊢;rw[hLB]at HL2⊢;simp only at HL1 HL2 hla⊢;have hla':la.length≤99000:=by simp at hla;omega
 by_cases h3:s3.e=0
 ·have hif3:¬s3.e≠0:=fun h=>h h3;simp only[if_neg hif3];have e3:(s3.e==0)=true:=by simpa using h3
  by_cases hc:oa=false∨ob=false∨la.length≠lb.length
  ·simp only[if_pos hc];cases oa with
   |false=>
    go_enter Tryz.func93,Tryz.ntmps93;go_wp2_with fail;refine HDL.out.mono ?_;rintro z w1 ⟨rfl,h1,st1⟩;have H1:=hid h1;have ST1:=hid st1;clear h1 st1;go_wp2_with fail;refine(HB1.out w1 H1.out).mono ?_;rintro z w2 ⟨rfl,h2,st2⟩;obtain⟨mv2,hm2⟩:=h2;have r2:=Zd hm2.blk _ (Fr.refl _ _);have H2:=hid (show CRd b l x s2 S w2 from⟨mv2,hm2⟩);have ST2:=hid (ST1.out.trans st2);clear hm2 st2;go_wp2_with fail;refine(HB2.out w2 H2.out).mono ?_;rintro z w3 ⟨rfl,h3',st3⟩;have H3:=hid h3';have ST3:=hid (ST2.out.trans st3);clear h3' st3 r2;go_wp2_with fail;refine(cm_ok b l x s3 S w3 H3.out).mono ?_;rintro z w4 ⟨rfl,f4⟩;have F4:=hid f4;clear f4;simp only[e3];go_wp2_with fail;refine(HL1.out w4).mono ?_;rintro z w5 ⟨rfl,f5⟩;have F5:=hid (F4.out.trans' f5);clear f5;go_wp2_with fail;refine(HL2.out w5).mono ?_;rintro z w6 ⟨rfl,f6⟩;have F6:=hid (F5.out.trans' f6);have H6:=hid (H3.out.on F6.out);have ST6:=hid (ST3.out.trans (Stp.of F6.out))
    clear f6;have HF:=hid (cm_fail b l x s3 S 18 s2.at_ w6 H6.out);go_wp2_with fail;refine HF.out.mono ?_;rintro z w8 ⟨rfl,h8,st8⟩;have H8:=hid h8;have ST8:=hid (ST6.out.trans st8);clear h8 st8;go_wp2;go_ret;exact⟨rfl,H8.out,ST8.out⟩
   |true=>
    cases ob with
    |false=>
     go_enter Tryz.func93,Tryz.ntmps93;go_wp2_with fail;refine HDL.out.mono ?_;rintro z w1 ⟨rfl,h1,st1⟩;have H1:=hid h1;have ST1:=hid st1;clear h1 st1;go_wp2_with fail;refine(HB1.out w1 H1.out).mono ?_;rintro z w2 ⟨rfl,h2,st2⟩;obtain⟨mv2,hm2⟩:=h2;have r2:=Zd hm2.blk _ (Fr.refl _ _);have H2:=hid (show CRd b l x s2 S w2 from⟨mv2,hm2⟩);have ST2:=hid (ST1.out.trans st2);clear hm2 st2;go_wp2_with fail;refine(HB2.out w2 H2.out).mono ?_;rintro z w3 ⟨rfl,h3',st3⟩;have H3:=hid h3';have ST3:=hid (ST2.out.trans st3);clear h3' st3 r2;go_wp2_with fail;refine(cm_ok b l x s3 S w3 H3.out).mono ?_;rintro z w4 ⟨rfl,f4⟩;have F4:=hid f4;clear f4;simp only[e3];go_wp2_with fail;refine(HL1.out w4).mono ?_;rintro z w5 ⟨rfl,f5⟩;have F5:=hid (F4.out.trans' f5);clear f5;go_wp2_with fail;refine(HL2.out w5).mono ?_;rintro z w6 ⟨rfl,f6⟩;have F6:=hid (F5.out.trans' f6);have H6:=hid (H3.out.on F6.out);have ST6:=hid (ST3.out.trans (Stp.of F6.out))
     clear f6;have HF:=hid (cm_fail b l x s3 S 18 s2.at_ w6 H6.out);go_wp2_with fail;refine HF.out.mono ?_;rintro z w8 ⟨rfl,h8,st8⟩;have H8:=hid h8;have ST8:=hid (ST6.out.trans st8);clear h8 st8;go_wp2;go_ret;exact⟨rfl,H8.out,ST8.out⟩
    |true=>
     have hlc:((la.length:Int) !=(lb.length:Int))=true:=by
      rcases hc with h|h|h
      ·cases h
      ·cases h
      ·simp;omega
     clear hc;go_enter Tryz.func93,Tryz.ntmps93;go_wp2_with fail;refine HDL.out.mono ?_;rintro z w1 ⟨rfl,h1,st1⟩;have H1:=hid h1;have ST1:=hid st1;clear h1 st1;go_wp2_with fail;refine(HB1.out w1 H1.out).mono ?_;rintro z w2 ⟨rfl,h2,st2⟩;obtain⟨mv2,hm2⟩:=h2;have r2:=Zd hm2.blk _ (Fr.refl _ _);have H2:=hid (show CRd b l x s2 S w2 from⟨mv2,hm2⟩);have ST2:=hid (ST1.out.trans st2);clear hm2 st2;go_wp2_with fail;refine(HB2.out w2 H2.out).mono ?_;rintro z w3 ⟨rfl,h3',st3⟩;have H3:=hid h3';have ST3:=hid (ST2.out.trans st3);clear h3' st3 r2;go_wp2_with fail;refine(cm_ok b l x s3 S w3 H3.out).mono ?_;rintro z w4 ⟨rfl,f4⟩;have F4:=hid f4;clear f4;simp only[e3];go_wp2_with fail;refine(HL1.out w4).mono ?_;rintro z w5 ⟨rfl,f5⟩;have F5:=hid (F4.out.trans' f5);clear f5;go_wp2_with fail;refine(HL2.out w5).mono ?_;rintro z w6 ⟨rfl,f6⟩;have F6:=hid (F5.out.trans' f6);have H6:=hid (H3.out.on F6.out);have ST6:=hid (ST3.out.trans (Stp.of F6.out))
     clear f6;have HF:=hid (cm_fail b l x s3 S 18 s2.at_ w6 H6.out);go_wp2_with fail;refine HF.out.mono ?_;rintro z w8 ⟨rfl,h8,st8⟩;have H8:=hid h8;have ST8:=hid (ST6.out.trans st8);clear h8 st8;go_wp2;go_ret;exact⟨rfl,H8.out,ST8.out⟩
  ·simp only[if_neg hc];have hoa:oa=true:=by cases oa with|true=>rfl|false=>exact absurd (.inl rfl) hc
   have hob:ob=true:=by cases ob with|true=>rfl|false=>exact absurd (.inr (.inl rfl)) hc
   have hll:la.length=lb.length:=Classical.byContradiction fun h=>hc (.inr (.inr h));subst hoa;subst hob;have hlc:((la.length:Int) !=(lb.length:Int))=false:=by rw[hll];simp
   clear hc;obtain⟨TT,hTT⟩:∃TT,Zod (la.zip lb) [] Zjp=TT:=⟨_,rfl⟩;rw[hTT];obtain⟨tt1,tt2⟩:=TT;have HTT:=hid hTT;clear hTT;go_enter Tryz.func93,Tryz.ntmps93;go_wp2_with fail;refine HDL.out.mono ?_;rintro z w1 ⟨rfl,h1,st1⟩;have H1:=hid h1;have ST1:=hid st1;clear h1 st1;go_wp2_with fail;refine(HB1.out w1 H1.out).mono ?_;rintro z w2 ⟨rfl,h2,st2⟩;obtain⟨mv2,hm2⟩:=h2;have r2:=Zd hm2.blk _ (Fr.refl _ _);have H2:=hid (show CRd b l x s2 S w2 from⟨mv2,hm2⟩);have ST2:=hid (ST1.out.trans st2);clear hm2 st2;go_wp2_with fail;refine(HB2.out w2 H2.out).mono ?_;rintro z w3 ⟨rfl,h3',st3⟩;have H3:=hid h3';have ST3:=hid (ST2.out.trans st3);clear h3' st3 r2;go_wp2_with fail;refine(cm_ok b l x s3 S w3 H3.out).mono ?_;rintro z w4 ⟨rfl,f4⟩;have F4:=hid f4;clear f4;simp only[e3];go_wp2_with fail;refine(HL1.out w4).mono ?_;rintro z w5 ⟨rfl,f5⟩;have F5:=hid (F4.out.trans' f5);clear f5;go_wp2_with fail;refine(HL2.out w5).mono ?_
   rintro z w6 ⟨rfl,f6⟩;have F6:=hid (F5.out.trans' f6);clear f6;go_wp2_with fail;rw[zc256];obtain⟨w7,hw7⟩:∃w7,w7=(w6.alloc (.cells (ZP (List.replicate 256 0)).toArray 202)).alloc (.cells (ZP (List.replicate 256 0)).toArray 202):=⟨_,rfl⟩;have t1:Tb w6.heap.size (idk 0) w7:=by unfold Tb;rw[ZmQ,hw7];exact Ze _ (newAt _ _)
   have t2:Tb (w6.heap.size+1) (cntY []) w7:=by unfold Tb;rw[ZmO,hw7];exact Zg _ _ _ (by simp)
   have f7:Fr nob w6 w7:=by rw[hw7];exact((Fr.refl _ _).alloc _).alloc _
   rw[←hw7];have T1:=hid t1;have T2:=hid t2;have F7:=hid f7;clear t1 t2 f7 hw7
   go_loopw [56] (fun i wr=>∃k:Nat,i=.int .i64 k∧k≤256∧Tb w6.heap.size (idk k) wr∧Tb (w6.heap.size+1) (cntY []) wr∧Fr (fun j=>j=w6.heap.size) w7 wr) (fun i _=>256-(intOf i).toNat)
   case atStart=>exact⟨0,rfl,by omega,T1.out,T2.out,Fr.refl _ _⟩
   case round=>
    obtain⟨k,rfl,hk,a1,a2,fr⟩:=hrel;have A1:=hid a1;have A2':=hid a2;have FR:=hid fr;clear a1 a2 fr;by_cases hlt:k<256
    ·have hw8:IntKind.u8.wrap (k:Int)=k:=IntWalk.u8_in _ (by omega);obtain⟨c1,c2⟩:=A1.out.cell (k:=k) (by rw[Zlh hk];exact hlt);have hkn:((UInt8.ofNat k).toNat:Int)=k:=by simp;omega
     have hs1:=A1.out.set k (UInt8.ofNat k);rw[hkn,Zot hlt]at hs1;have hs2:=A2'.out.ne (k:=k) (g':=w6.heap.size) (by omega) (.int .u8 (k:Int));have HS1:=hid hs1;have HS2:=hid hs2;have FR2:=hid (FR.out.setCell (p:=⟨w6.heap.size,k,none⟩) (fun _=>rfl) (.int .u8 (k:Int)));clear hs1 hs2 hkn;go_wp2;go_roundw
     case rel=>exact⟨k+1,by go_num,by omega,HS1.out,HS2.out,FR2.out⟩
     case measure=>simp[intOf];omega
    ·obtain rfl:k=256:=by omega
     have A1b:=A1.out;rw[Zli]at A1b;have A1c:=hid A1b;have FW:=hid (FR.out.weak (T:=fun j=>j=w6.heap.size∨j=w6.heap.size+1) (fun j hj=>.inl hj));have hidl:Zjp.length=256:=by rw[←Zli];exact Zlh (by omega)
     clear A1b A1 FR;go_wp2_with fail
     go_loopw [66] (fun i wq=>∃(k:Nat) (out:List UInt8),i=.int .i64 k∧k≤la.length∧out.length=256∧Zod ((la.zip lb).drop k) (la.take k) out=(tt1,tt2)∧Tb w6.heap.size out wq∧Tb (w6.heap.size+1) (cntY (la.take k)) wq∧Fr (fun j=>j=w6.heap.size∨j=w6.heap.size+1) w7 wq) (fun i _=>la.length-(intOf i).toNat)
     case atStart=>exact⟨0,Zjp,rfl,Nat.zero_le _,hidl,HTT.out,A1c.out,A2'.out,FW.out⟩
     case round=>
      obtain⟨k,out,rfl,hk,hol,hL,b1,b2,fr⟩:=hrel;have B1:=hid b1;have B2:=hid b2;have FR:=hid fr;have HL:=hid hL;clear b1 b2 fr hL A1c A2' FW HTT;by_cases hlt:k<la.length
      ·have hltb:k<lb.length:=by omega
       have hkl:(k:Int)<la.length:=by omega
       have hklb:(k:Int)<lb.length:=by omega
       have hL:=HL.out;rw[Zov hlt hltb]at hL;obtain⟨a,haa⟩:∃a,la[k]=a:=⟨_,rfl⟩;obtain⟨c,hcc⟩:∃c,lb[k]=c:=⟨_,rfl⟩;have HA:=hid haa;have HC:=hid hcc;rw[haa,hcc]at hL;have htk:la.take (k+1)=la.take k++[a]:=by rw[List.take_succ_eq_append_getElem hlt,haa]
       have HTK:=hid htk;obtain⟨ab0,ab1⟩:=Zcf a;have habn:a.toNat<256:=a.toNat_lt;obtain⟨c1,c2⟩:=B2.out.cell (k:=a.toNat) (by rw[cntY_len];exact habn);rw[Zou]at c1;have ha256:(a.toNat:Int)<256:=by omega
       clear haa hcc htk ab1;by_cases hsn:(la.take k).contains a=true
       ·rw[if_pos hsn]at hL c1;injection hL with q1 q2;subst q1;subst q2;have hS2:=B2.out.set a.toNat 2;obtain⟨d1,d2⟩:=hS2.cell (k:=a.toNat) (by rw[List.length_set,cntY_len];exact habn);rw[List.getElem_set_self]at d1;obtain⟨wS,hwS⟩:∃wS,wS=wr.setCell ⟨w6.heap.size+1,a.toNat,none⟩ (.int .u8 2):=⟨_,rfl⟩;have fS:Fr (fun j=>j=w6.heap.size∨j=w6.heap.size+1) w7 wS:=by rw[hwS];exact FR.out.setCell (p:=⟨w6.heap.size+1,a.toNat,none⟩) (fun _=>.inr rfl) _
        have d1:wS.cell? ⟨w6.heap.size+1,a.toNat,none⟩=some (.int .u8 2):=by rw[hwS];exact d1
        have d2:wS.frozen? ⟨w6.heap.size+1,a.toNat,none⟩=false:=by rw[hwS];exact d2
        have c1:wr.cell? ⟨w6.heap.size+1,a.toNat,none⟩=some (.int .u8 1):=c1;have HWS:=hid hwS;have FS:=hid fS;have hSS:∀j,(j=w6.heap.size∨j=w6.heap.size+1)→¬S j:=fun j hj hx=>by
         have:=hS j hx;have:=ST3.out.fr.size;have:=F6.out.size;rcases hj with hj|hj<;>omega
        have fsz:∀i,i<w6.heap.size→¬(i=w6.heap.size∨i=w6.heap.size+1):=fun i hi hx=>by rcases hx with hx|hx<;>omega
        have f6S:Fr nob w6 wS:=F7.out.trans FS.out (fun i hi x=>(fsz i hi x).elim);have f3S:=F6.out.trans' f6S;have stS:=ST3.out.trans (Stp.of f3S);have hS:=H3.out.on f3S;have HF:=hid (cm_fail b l x s3 S 15 s2.at_ wS hS);have STS:=hid stS;clear hwS fS hS2 HL hsn f6S f3S stS hS fsz;go_wp2_with(first|rw[HA.out]|rw[←HWS.out]);refine HF.out.mono ?_;rintro z w8 ⟨rfl,h8,st8⟩;have H8:=hid h8;have ST8:=hid (STS.out.trans st8);clear h8 st8;go_wp2;go_ret;exact⟨rfl,H8.out,ST8.out⟩
       ·rw[if_neg hsn]at hL c1;have hS2:=B2.out.set a.toNat 1;obtain⟨d1,d2⟩:=hS2.cell (k:=a.toNat) (by rw[List.length_set,cntY_len];exact habn);rw[List.getElem_set_self]at d1;rw[ZmP,←HTK.out]at hS2;obtain⟨wS,hwS⟩:∃wS,wS=wr.setCell ⟨w6.heap.size+1,a.toNat,none⟩ (.int .u8 1):=⟨_,rfl⟩;have fS:Fr (fun j=>j=w6.heap.size∨j=w6.heap.size+1) w7 wS:=by rw[hwS];exact FR.out.setCell (p:=⟨w6.heap.size+1,a.toNat,none⟩) (fun _=>.inr rfl) _
        have d1:wS.cell? ⟨w6.heap.size+1,a.toNat,none⟩=some (.int .u8 1):=by rw[hwS];exact d1
        have d2:wS.frozen? ⟨w6.heap.size+1,a.toNat,none⟩=false:=by rw[hwS];exact d2
        have c1:wr.cell? ⟨w6.heap.size+1,a.toNat,none⟩=some (.int .u8 0):=c1;have tS2:Tb (w6.heap.size+1) (cntY (la.take (k+1))) wS:=by rw[hwS];exact hS2
        have tS1:Tb w6.heap.size out wS:=by rw[hwS];exact B1.out.ne (by omega) _
        have HWS:=hid hwS;have FS:=hid fS;have TS2:=hid tS2;have TS1:=hid tS1;have HL':=hid hL;clear hwS fS hS2 tS1 tS2 hL;go_wp2_with(first|rw[HA.out]|rw[←HWS.out]);refine region_fr 6 (by kernel_rfl) (by kernel_rfl) ?_;simp only[List.take_succ_cons,List.take_zero,List.drop_succ_cons,List.drop_zero]
        repeat(quiet_step (fail))
        refine wpQuiet_nil ?_;intro w8 f8;have ts1:=TS1.out.on f8;obtain⟨e1,e2⟩:=ts1.cell (k:=a.toNat) (by rw[hol];exact habn);have TN1:=hid (ts1.set a.toNat c);have TN2:=hid ((TS2.out.on f8).ne (g':=w6.heap.size) (k:=a.toNat) (by omega) (.int .u8 (c.toNat:Int)));have FN:=hid ((FS.out.trans f8 (fun _ _ x=>x.elim)).setCell (p:=⟨w6.heap.size,a.toNat,none⟩) (fun _=>.inl rfl) (.int .u8 (c.toNat:Int)));clear f8 ts1;go_wp2_with(first|rw[HA.out]|rw[HC.out]);refine⟨?_,?_⟩
        ·(repeat apply Exists.intro)
         refine⟨⟨k+1,out.set a.toNat c,by go_num,by omega,by rw[List.length_set];exact hol,by rw[HTK.out];exact HL'.out,TN1.out,TN2.out,FN.out⟩,rfl⟩
        ·simp[intOf];omega
      ·obtain rfl:k=la.length:=by omega
       have hL:=HL.out;rw[List.drop_eq_nil_of_le (by rw[List.length_zip];omega)]at hL;injection hL with q1 q2;subst q1;subst q2;have hbl0:(ZP out).length=256:=by rw[ZbF,hol]
       have hcv:=run_conv_bytes Tryz.underlying22 Tryz.underlying5 Tryz.underlying9 ⟨w6.heap.size,0,none⟩ 256 out wr (fun j v hj=>by
        have hj1:j<out.length:=by
         have:=(List.getElem?_eq_some_iff.1 hj).1;rw[ZbF]at this;exact this
        have h0:=(B1.out.cell hj1).1;have h1:v=.int .u8 (out[j].toNat:Int):=by
         rw[ZP,List.getElem?_map,List.getElem?_eq_getElem hj1]at hj;injection hj with hj;exact hj.symm
        have h2:(⟨w6.heap.size,0,none⟩:Addr).add j=⟨w6.heap.size,j,none⟩:=by simp[Addr.add];intro h;exact h.symm
        rw[h1,h2];exact h0)
       rw[hol]at hcv;have HCV:=hid hcv;have fr6:Fr nob w6 wr:=F7.out.trans FR.out (fun i hi x=>by rcases x with x|x<;>omega);have f3r:=F6.out.trans' fr6;have HR:=hid (H3.out.on f3r);have STR:=hid (ST3.out.trans (Stp.of f3r));clear hcv fr6 f3r;go_wp2_with(rw[HCV.out]);go_ret;exact⟨rfl,HR.out,STR.out⟩
 ·have hif3:s3.e≠0:=h3;simp only[if_pos hif3];have e3:(s3.e==0)=false:=by simpa using h3
  go_enter Tryz.func93,Tryz.ntmps93;go_wp2_with fail;refine HDL.out.mono ?_;rintro z w1 ⟨rfl,h1,st1⟩;have H1:=hid h1;have ST1:=hid st1;clear h1 st1;go_wp2_with fail;refine(HB1.out w1 H1.out).mono ?_;rintro z w2 ⟨rfl,h2,st2⟩;obtain⟨mv2,hm2⟩:=h2;have r2:=Zd hm2.blk _ (Fr.refl _ _);have H2:=hid (show CRd b l x s2 S w2 from⟨mv2,hm2⟩);have ST2:=hid (ST1.out.trans st2);clear hm2 st2;go_wp2_with fail;refine(HB2.out w2 H2.out).mono ?_;rintro z w3 ⟨rfl,h3',st3⟩;have H3:=hid h3';have ST3:=hid (ST2.out.trans st3);clear h3' st3 r2;go_wp2_with fail;refine(cm_ok b l x s3 S w3 H3.out).mono ?_;rintro z w4 ⟨rfl,f4⟩;have H4:=hid (H3.out.on f4);have ST4:=hid (ST3.out.trans (Stp.of f4));clear f4;simp only[e3];go_wp2;go_ret;exact⟨rfl,H4.out,ST4.out⟩
end Go.Proofs.YtkfddjopbocpkaaGreatDoor
