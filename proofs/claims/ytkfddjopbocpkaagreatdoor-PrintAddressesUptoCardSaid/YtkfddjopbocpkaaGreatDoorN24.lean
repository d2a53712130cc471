/- Lemmas of this claim. -/
import Derived.LaidMore
import Derived.Lay
import Derived.Stop.Joined
import Derived.Lib.LaidTab
import Derived.Stop.LaidErr
import Derived.Shelf.Vars
import Derived.Test.YtkfddjopbocpkaaGreatDoorN15
import Derived.Test.YtkfddjopbocpkaaGreatDoorN18
set_option linter.unusedVariables false
set_option linter.unusedSimpArgs false
set_option maxRecDepth 100000
set_option maxHeartbeats 4000000
namespace Go.Proofs.YtkfddjopbocpkaaGreatDoor
open Go.Lib (hid)
open Go.RowKit
section
variable {W0 w w':World} {K:Nat→Prop} {b:Nat} {out:List UInt8}
theorem TxW.add{P:Nat→Prop}(h:TxW W0 K b out w)(f:Fr nob w w')(hP:∀k,P k→w.heap.size≤k∧k<w'.heap.size):TxW W0 (fun k=>K k∨P k) b out w':=by
 obtain⟨fr,g,ht,hk⟩:=h;have hb:b<w.heap.size:=by obtain⟨cs,⟨hb,_⟩,_⟩:=ht;exact lt_heap hb
 have hg:∀k,g=some k→k<w.heap.size:=by
  intro k e;obtain⟨cs,⟨_,_,_,v,_,c,a,_⟩,_⟩:=ht;subst e;rcases c.2 with⟨rfl,_⟩|⟨q,d,i,rfl,_,hh,_⟩
  ·cases a
  ·injection a with e;subst e;exact lt_heap hh
 refine⟨fr.trans' f,g,ht.on f (fun x=>x) (fun _ _ x=>x),fun k hk'=> ?_⟩;have hs:=f.size;rcases hk' with h|h|h
 ·obtain⟨h1,h2,h3⟩:=hk k (.inl h);exact⟨h1,h2,by omega⟩
 ·obtain⟨h1,h2,h3⟩:=hk k (.inr h);exact⟨h1,h2,by omega⟩
 ·obtain⟨h1,h2⟩:=hP k h;exact⟨by omega,fun e=>by have:=hg _ e.symm;omega,h2⟩
theorem Txn.less{K':Nat→Prop}{k:Nat}(hK:∀k,K k→K' k)(h:Txn W0 K' k):Txn W0 K k:=fun x=>h (x.imp id (hK k))
theorem ZtD.lt{v:Value}{L:List (Nat×Nat)}(h:ZtD w v L):∀k,v.ownBlock=some k→k<w.heap.size:=by
 intro k e;rcases h.2 with⟨rfl,_⟩|⟨q,a,b,rfl,_,hh,_⟩
 ·cases e
 ·injection e with e;subst e;exact lt_heap hh
def StB(W0:World)(K:Nat→Prop)(w:World)(b:Nat)(out:List UInt8)(s:S4)(w':World):Prop:=
 TxW W0 (fun k=>K k∨k=w.heap.size) b out w'∧Fr (Txn W0 K) w w'∧w'.heap[w.heap.size]? =some (.cells #[.int .u64 s.a,.int .u64 s.b,.int .u64 s.c,.int .u64 s.d] 132 (0,0))
theorem StB.quiet{s:S4}{w2:World}(h:StB W0 K w b out s w')(f:Fr nob w' w2):StB W0 K w b out s w2:=⟨h.1.quiet f,h.2.1.trans f (fun _ _ x=>x.elim),f.heap h.2.2 (fun x=>x)⟩
theorem StB.put{s:S4}(h:StB W0 K w b out s w')(hw:W0.heap.size≤w.heap.size)(t:S4):StB W0 K w b out t (ZaG w' w.heap.size (.int .u64 t.a) (.int .u64 t.b) (.int .u64 t.c) (.int .u64 t.d)):=
 ⟨h.1.on (ZS w' w.heap.size _ _ _ _) (fun k x=>⟨.inr x,by rw[x];exact hw⟩),setFour_frS h.2.1 (Nat.le_refl _) _ _ _ _,setFour_heap h.2.2 _ _ _ _⟩
theorem Zwm(s:S4)(hs:s.fit)(hE:Env W0)(h:TxW W0 K b out w)(hlen:out.length≤10000000000000)(h256:s.len≠256)(h1:s.len≠1):
 Calls Tryz.prog 135 #[.pointer (some ⟨b,0,none⟩),ZcR s] w (TxA W0 K b (out++setT s) w (.tuple #[])):=by
 have b1:W0.heap.size≤w.heap.size:=h.fr.size;obtain⟨w1,z⟩:∃w1,w1=w.alloc (.cells #[.int .u64 s.a,.int .u64 s.b,.int .u64 s.c,.int .u64 s.d] 132):=⟨_,rfl⟩;have C:Fr nob w w1:=by rw[z];exact(Fr.refl _ _).alloc _
 have N:w1.heap[w.heap.size]? =some (.cells #[.int .u64 s.a,.int .u64 s.b,.int .u64 s.c,.int .u64 s.d] 132 (0,0)):=by rw[z];exact newAt _ _
 have t1:TxW W0 (fun k=>K k∨k=w.heap.size) b out w1:=h.add C (fun k e=>by subst e;rw[z];simp);have r1:=Zl N;have a2:Env w1:=hE.on (h.fr.trans' C);have HL:=hid (Zuz s w1 hs);have V:=hid (fun w' (f:Fr nob w1 w')=>least_any s w' hs (a2.on f).1);have HS:=hid hs;have H1:=hid t1;have S:=hid C;have a1:=hid z;have I:=hid N;have a0:=hid b1;obtain⟨n,hn⟩:∃n,s.len=n:=⟨_,rfl⟩;have c7:n≤256:=hn▸s.len_le;have a5:∀o,decide (128<n∨n=0)=o→∀s1,(if o then s.not else s)=s1→∀e,Zus (spl s1.has 256)=e→setT s=ZtK (o !=e) (if e then s1.not else s1):=by
  intro o ho s1 E e he;unfold setT;rw[if_neg h256,if_neg h1,hn,ho];simp only;rw[E,he]
 have Z:=hid a5;rw[hn]at h256 h1 HL;have c1:((n:Int)==256)=false:=by simp;omega
 have c2:((n:Int)==1)=false:=by simp;omega
 clear h hs C z t1 N a2 hE b1 hn a5 h256 h1;go_enter Tryz.func135,Tryz.ntmps135;go_wp2_with(rw[←a1.out]);refine HL.out.mono ?_;rintro e w2 ⟨rfl,f2⟩;have F2:=hid f2;clear f2;have r2:=Zl (F2.out.heap I.out (fun x=>x));go_wp2_with fail;refine(V.out _ F2.out).mono ?_;rintro e w3 ⟨d,bb,rfl,c6,f3⟩;have F3:=hid (F2.out.trans' f3);clear f3 c6 V;have H3:=hid (H1.out.quiet F3.out);go_wp2_with fail;refine(tx_byte 91 91 (by decide) rfl H3.out (by omega)).mono ?_;rintro e w4 ⟨rfl,h4,f4⟩;have B:=hid (show StB W0 K w b (out++[91]) s w4 from⟨h4,(S.out.trans' F3.out).toTx.trans f4 (fun i _ x=>Txn.less (fun _=>.inl) x),f4.heap (F3.out.heap I.out (fun x=>x)) (fun x=>x (.inr (.inr rfl)))⟩);clear h4 f4 r1 r2 a1 H1 S I F2 F3 H3 HL;obtain⟨o,ho⟩:∃o,decide (128<n∨n=0)=o:=⟨_,rfl⟩;obtain⟨s1,m⟩:∃x,(if o then s.not else s)=x:=⟨_,rfl⟩;have E:=hid (show s1.fit by rw[←m];split;exact ZnE _;exact HS.out)
 obtain⟨e,he⟩:∃e,Zus (spl s1.has 256)=e:=⟨_,rfl⟩;obtain⟨s2,r⟩:∃x,(if e then s1.not else s1)=x:=⟨_,rfl⟩;have b8:=hid (show s2.fit by rw[←r];split;exact ZnE _;exact E.out);obtain⟨x,hx⟩:∃x,(o !=e)=x:=⟨_,rfl⟩;obtain⟨P,hP⟩:∃P,(if x then[(94:UInt8)]else[])=P:=⟨_,rfl⟩;have c9:P.length≤1:=by rw[←hP];split<;>simp
 have HQ:=hid (show setT s=ZtK x s2 by rw[Z.out o ho s1 m e he,r,hx]);have HO:=hid ho;have b6:=hid m;have b3:=hid he;have b7:=hid r;have HP:=hid hP;have HX:=hid hx;clear ho m he r hP Z hx
 go_upto_region 9 with(fail)
 go_cut [7] (fun v w'=>v=.bool o∧StB W0 K w b (out++[91]) s w')
 case first=>
  rcases(show(128<n∨(¬128<n∧n=0))∨(¬128<n∧n≠0) by omega)with(hg|⟨hg,h0⟩)|⟨hg,h0⟩
  ·have a9:(128:Int)<(n:Int):=by omega
   have ho:o=true:=by rw[←HO.out];simp[hg]
   clear hg;go_wp2;go_meet
   case rel=>exact⟨by rw[ho],B.out⟩
  ·have a9:¬(128:Int)<(n:Int):=by omega
   have c5:((n:Int)==0)=true:=by subst h0;rfl
   have ho:o=true:=by rw[←HO.out];simp[h0]
   clear hg h0;go_wp2;go_meet
   case rel=>exact⟨by rw[ho],B.out⟩
  ·have a9:¬(128:Int)<(n:Int):=by omega
   have d1:decide ((128:Int)<(n:Int))=false:=by simp;omega
   have c5:((n:Int)==0)=false:=by simp;omega
   have ho:o=false:=by rw[←HO.out];simp;omega
   clear hg h0;go_wp2;go_meet
   case rel=>exact⟨by rw[ho],B.out⟩
 case rest=>
  obtain⟨rfl,st⟩:=hcut;have r4:=Zl st.2.2;have ST:=hid st;clear st B;go_upto_if 39 with(fail)
  go_cut [] (fun w'=>StB W0 K w b (out++[91]) s1 w')
  case first=>
   have m:=b6.out;cases o with
   |false=>
    rw[if_neg (by decide)]at m;subst m;go_wp2;go_meet
    case rel=>exact ST.out
   |true=>
    rw[if_pos rfl]at m;go_wp2_with fail;refine(not_lit s wc).mono ?_;rw[m];rintro e w5 ⟨rfl,f5⟩;have S5:=hid (ST.out.quiet f5);have r5:=Zl S5.out.2.2;clear f5;go_wp2;go_meet
    case rel=>exact S5.out.put a0.out s1
  case rest=>
   have r6:=Zl hcut.2.2;have S6:=hid hcut;clear hcut ST r4;go_wp2_with fail;refine(spans_any s1 wc E.out).mono ?_;rintro e w7 ⟨v7,rfl,o7,f7,n7⟩;go_wp2_with fail;refine(ended_any (spl s1.has 256) v7 w7 (spl_len _ _) (fun x hx=>by have:=(ZsE s1.has 256).in_ x hx;omega) o7).mono ?_;rintro e w8 ⟨rfl,f8⟩;rw[b3.out];have S8:=hid (S6.out.quiet (f7.trans' f8));have r8:=Zl S8.out.2.2;clear f7 f8 n7 o7 S6 r6;go_upto_if 44 with(fail)
   go_cut [7] (fun v w'=>v=.bool x∧StB W0 K w b (out++[91]) s2 w')
   case first=>
    have r:=b7.out;cases e with
    |false=>
     rw[if_neg (by decide)]at r;subst r;go_wp2;go_meet
     case rel=>exact⟨by rw[←HX.out];simp,S8.out⟩
    |true=>
     rw[if_pos rfl]at r;go_wp2_with fail;refine(not_lit s1 w8).mono ?_;rw[r];rintro e w9 ⟨rfl,f9⟩;have S9:=hid (S8.out.quiet f9);have r9:=Zl S9.out.2.2;clear f9;go_wp2;go_meet
     case rel=>exact⟨by rw[←HX.out];simp,S9.out.put a0.out s2⟩
   case rest=>
    obtain⟨rfl,st⟩:=hcut;have rA:=Zl st.2.2;have SA:=hid st;clear st S8 r8;go_upto_if 49 with(fail)
    go_cut [] (fun w'=>StB W0 K w b (out++[91]++P) s2 w')
    case first=>
     have hP:=HP.out;cases x with
     |false=>
      rw[if_neg (by decide)]at hP;subst hP;go_wp2;go_meet
      case rel=>simpa using SA.out
     |true=>
      rw[if_pos rfl]at hP;subst hP;go_wp2_with fail;refine(tx_byte 94 94 (by decide) rfl SA.out.1 (by simp;omega)).mono ?_;rintro e wB ⟨rfl,hB,fB⟩;go_wp2;go_meet
      case rel=>exact⟨hB,SA.out.2.1.trans fB (fun _ _ x=>Txn.less (fun _=>.inl) x),fB.heap SA.out.2.2 (fun x=>x (.inr (.inr rfl)))⟩
    case rest=>
     have rB:=Zl hcut.2.2;have HB:=hid hcut.1;have FB:=hid hcut.2.1;clear hcut SA rA;go_wp2_with fail;refine(spans_any s2 wc b8.out).mono ?_;rintro e w5 ⟨v,rfl,oL,f5,n5⟩;obtain⟨L,hL⟩:∃L,spl s2.has 256=L:=⟨_,rfl⟩;have c4:=spl_len s2.has 256;have M:=(ZsE s2.has 256).in_;rw[hL]at oL c4 M;have H:out++setT s=out++[91]++P++ZsL L++[93]:=by rw[HQ.out,←hL];simp[ZtK,List.append_assoc,←HP.out]
     obtain⟨av,cv,rfl⟩:=Zb (show w5.ownsRow 0 221 2 v L.length (spC L)from oL);obtain⟨K2,D⟩:∃K2:Nat→Prop,K2=fun k=>(K k∨k=w.heap.size)∨(Value.slice av L.length cv).ownBlock=some k:=⟨_,rfl⟩;have a3:∀k,K k→K2 k:=fun k x=>by rw[D];exact .inl (.inl x)
     have a4:∀k,(Value.slice av L.length cv).ownBlock=some k→K2 k:=fun k x=>by rw[D];exact .inr x
     have HC:=hid (show TxW W0 K2 b (out++[91]++P) w5 by rw[D];have:=HB.out.add f5 (P:=fun k=>(Value.slice av L.length cv).ownBlock=some k) (fun k e=>⟨n5 k e,oL.lt k e⟩);simpa using this);have FC:=hid (show Fr (Txn W0 K) w w5 from FB.out.trans f5 (fun _ _ x=>x.elim));have OL:=hid oL;have Y:=hid H;have U:=hid a3;have b4:=hid a4;have b5:=hid M;clear oL H D a3 a4 hL M n5 f5;go_wp2_with fail
     go_loopw [57] (fun i wr=>∃k:Nat,i=.int .i64 k∧k≤L.length∧TxW W0 K2 b (out++[91]++P++ZsL (L.take k)) wr∧Fr (Txn W0 K2) w5 wr) (fun i _=>L.length-(intOf i).toNat)
     case atStart=>exact⟨0,rfl,Nat.zero_le _,by simpa[ZsL]using HC.out,Fr.refl _ _⟩
     case round=>
      obtain⟨k,rfl,hk,tx,fr⟩:=hrel;have HR:=hid tx;have FR:=hid fr;clear tx fr;by_cases O:k<L.length
      ·have OK:=OL.out.on FR.out (fun j e x=>x (.inr (b4.out j e)));obtain⟨g,c8,hv,a7,a8⟩:=OK.get O;injection hv with e1 e2 e3;subst e1;subst e3;have Q:=ZsM O;have a6:=b5.out L[k] (List.getElem_mem O);have b0:=ZsG (L.take k);obtain⟨⟨p,q⟩,t⟩:∃x,L[k]=x:=⟨_,rfl⟩;rw[t]at a7 a8 Q a6;simp only at a7 a8 a6;rw[List.length_take]at b0;obtain⟨X,hX⟩:∃X,out++[91]++P++ZsL (L.take k)=X:=⟨_,rfl⟩;have d0:X.length≤10000000010000:=by rw[←hX];simp;omega
       have u:X++ZsV (p,q)=out++[91]++P++ZsL (L.take (k+1)):=by rw[Q,←hX];simp[List.append_assoc]
       rw[hX]at HR;obtain⟨wa,A⟩:∃wa,wa=wr.alloc (.cells #[.int .u8 (p:Int),.int .u8 (q:Int)] 221):=⟨_,rfl⟩;have F:wa.heap[wr.heap.size]? =some (.cells #[.int .u8 (p:Int),.int .u8 (q:Int)] 221 (0,0)):=by rw[A];exact newAt _ _
       have k0:=cell_at (j:=0) (v:=.int .u8 (p:Int)) F rfl;have k1:=cell_at (j:=1) (v:=.int .u8 (q:Int)) F rfl;have TA:=hid (show TxW W0 (fun k=>K2 k∨k=wr.heap.size) b X wa by rw[A];exact HR.out.alloc _ HR.out.lt);have b2:=hid (show Fr (Txn W0 K2) w5 wa by rw[A];exact FR.out.alloc _);have b9:=hid A;have W:=hid u;have c0:=hid F;clear e2 t Q hX OK A u F;go_wp2_with(rw[←b9.out]);refine(show_inside p (by omega) TA.out (by omega)).mono ?_;rintro e wx ⟨rfl,tx,fx⟩;have G:=fx.heap c0.out (fun x=>x (.inr (.inr rfl)));have d3:=cell_at (j:=0) (v:=.int .u8 (p:Int)) G rfl;have d5:=cell_at (j:=1) (v:=.int .u8 (q:Int)) G rfl;have TX:=hid tx;have FX:=hid (b2.out.trans fx (fun _ _ x=>Txn.less (fun _=>.inl) x));have c3:=hid G;have d2:=ZsQ p;clear tx fx G;by_cases t:p=q
       ·have q1:((p:Int) !=(q:Int))=false:=by subst t;simp
        have y:ZsV (p,q)=Ztd p:=by unfold ZsV;simp[t]
        have J:=hid y;clear y t;go_wp2;go_roundw
        case rel=>exact⟨k+1,by go_num,by omega,by have:=TX.out.less (K':=K2) (fun _=>.inl);rw[←W.out,J.out];exact this,FX.out⟩
        case measure=>simp[intOf];omega
       ·have q1:((p:Int) !=(q:Int))=true:=by simp;omega
        have y:ZsV (p,q)=Ztd p++([45]++Ztd q):=by unfold ZsV;simp[t]
        have J:=hid y;clear y t;go_wp2_with fail;refine(tx_byte 45 45 (by decide) rfl TX.out (by simp;omega)).mono ?_;rintro e wy ⟨rfl,ty,fy⟩;have R:=fy.heap c3.out (fun x=>x (.inr (.inr rfl)));have d4:=cell_at (j:=0) (v:=.int .u8 (p:Int)) R rfl;have d6:=cell_at (j:=1) (v:=.int .u8 (q:Int)) R rfl;have TY:=hid ty;have FY:=hid (FX.out.trans fy (fun _ _ x=>Txn.less (fun _=>.inl) x));clear ty fy R;go_wp2_with fail;refine(show_inside q (by omega) TY.out (by simp;omega)).mono ?_;rintro e wz ⟨rfl,tz,fz⟩;have TZ:=hid tz;have FZ:=hid (FY.out.trans fz (fun _ _ x=>Txn.less (fun _=>.inl) x));clear tz fz;go_wp2;go_roundw
        case rel=>exact⟨k+1,by go_num,by omega,by have:=TZ.out.less (K':=K2) (fun _=>.inl);rw[←W.out,J.out];simpa[List.append_assoc]using this,FZ.out⟩
        case measure=>simp[intOf];omega
      ·obtain rfl:k=L.length:=by omega
       have b0:=ZsG L;have hT:=List.take_of_length_le (l:=L) (Nat.le_refl _);rw[hT]at HR;clear hT;go_wp2_with fail;refine(tx_byte 93 93 (by decide) rfl HR.out (by simp;omega)).mono ?_;rintro e wy ⟨rfl,ty,fy⟩;have TY:=hid ty;have FY:=hid (FR.out.trans fy (fun _ _ x=>x));clear ty fy;go_wp2
       go_end0
       refine⟨rfl,by rw[Y.out];exact TY.out.less U.out,FC.out.trans FY.out (fun _ _ x=>Txn.less U.out x)⟩
end
section
variable {W0 w w':World} {K:Nat→Prop} {b:Nat} {out:List UInt8}
theorem show_set(s:S4)(hs:s.fit)(hE:Env W0)(h:TxW W0 K b out w)(hlen:out.length≤10000000000000):
 Calls Tryz.prog 135 #[.pointer (some ⟨b,0,none⟩),ZcR s] w (TxA W0 K b (out++setT s) w (.tuple #[])):=by
 have HT:=hid h;have HE:=hid hE;obtain⟨q,hq⟩:∃q,q=w.heap.size:=⟨_,rfl⟩;have z:b<w.heap.size:=h.lt;obtain⟨w1,j⟩:∃w1,w1=w.alloc (.cells #[.int .u64 s.a,.int .u64 s.b,.int .u64 s.c,.int .u64 s.d] 132):=⟨_,rfl⟩;have l:Fr nob w w1:=by rw[j];exact(Fr.refl _ _).alloc _
 have p:w1.heap[q]? =some (.cells #[.int .u64 s.a,.int .u64 s.b,.int .u64 s.c,.int .u64 s.d] 132 (0,0)):=by rw[j,hq];exact newAt _ _
 have t1:TxW W0 (fun k=>K k∨k=q) b out w1:=h.add l (fun k e=>by subst e;rw[j,hq];simp);have r1:=Zl p;have y:Env w1:=hE.on (h.fr.trans' l);have HL:=hid (Zuz s w1 hs);have u:=hid (fun w' (f:Fr nob w1 w')=>least_any s w' hs (y.on f).1);have o:=hid hs;have H1:=hid t1;have r:=hid l;have v:=hid j;have t:=hid p;have HQ:=hid hq;have D:=hid z;have A:=Zvs s;have B:q=w.heap.size:=hq;clear h hs l j t1 p y hE hq z;obtain⟨n,hn⟩:∃n,s.len=n:=⟨_,rfl⟩;have C:n≤256:=hn▸s.len_le;rw[hn]at HL;unfold setT;rw[hn];by_cases g:n=256
 ·have c1:((n:Int)==256)=true:=by subst g;rfl
  rw[if_pos g];subst B;clear hn;go_enter Tryz.func135,Tryz.ntmps135;go_wp2_with(rw[←v.out]);refine HL.out.mono ?_;rintro e w2 ⟨rfl,f2⟩;have F2:=hid f2;clear f2;have r2:=Zl (F2.out.heap t.out (fun x=>x));go_wp2_with fail;refine(u.out _ F2.out).mono ?_;rintro e w3 ⟨d,bb,rfl,m,f3⟩;have F3:=hid (F2.out.trans' f3);clear f3 m;have H3:=hid (H1.out.quiet F3.out);go_wp2_with fail;refine(tx_byte 46 46 (by decide) rfl H3.out (by omega)).mono ?_;rintro e w4 ⟨rfl,h4,f4⟩;have H4:=hid h4;have F4:=hid f4;clear h4 f4;go_wp2;exact bodyPost_ret (results_none rfl _ _ _) rfl ⟨rfl,H4.out.less (fun k=>.inl),(r.out.trans' F3.out).toTx.trans F4.out (fun i _ x=>Txn.less (fun k=>.inl) x)⟩
 ·have c1:((n:Int)==256)=false:=by simp;omega
  rw[if_neg g];by_cases h1:n=1
  ·have c2:((n:Int)==1)=true:=by subst h1;rfl
   rw[if_pos h1];subst B;clear hn;go_enter Tryz.func135,Tryz.ntmps135;go_wp2_with(rw[←v.out]);refine HL.out.mono ?_;rintro e w2 ⟨rfl,f2⟩;have F2:=hid f2;clear f2;have r2:=Zl (F2.out.heap t.out (fun x=>x));go_wp2_with fail;refine(u.out _ F2.out).mono ?_;rintro e w3 ⟨d,bb,rfl,m,f3⟩;obtain rfl:=m.lowS o.out;have F3:=hid (F2.out.trans' f3);clear f3 m;have H3:=hid (H1.out.quiet F3.out);go_wp2_with fail;refine(show_single (lowS s) A H3.out (by omega)).mono ?_;rintro e w4 ⟨rfl,h4,f4⟩;have H4:=hid h4;have F4:=hid f4;clear h4 f4;go_wp2;exact bodyPost_ret (results_none rfl _ _ _) rfl ⟨rfl,H4.out.less (fun k=>.inl),(r.out.trans' F3.out).toTx.trans F4.out (fun i _ x=>Txn.less (fun k=>.inl) x)⟩
  ·rw[if_neg h1];have:=Zwm s o.out HE.out HT.out hlen (by omega) (by omega);unfold setT at this;rw[hn,if_neg g,if_neg h1]at this;exact this
end
def P10(w:World):Prop:=∃T fr,w.heap[1]? =some (.cells (Lib.pow10Tab.map fun z=>Value.int .u64 z).toArray T fr)
theorem P10.on{w w':World}(h:P10 w)(f:Fr nob w w'):P10 w':=let⟨T,fr,h⟩:=h;⟨T,fr,f.heap h (fun x=>x)⟩
theorem P10.tab{w:World}(h:P10 w):Lib.TabIs Tryz.prog w "internal/strconv.uint64pow10" .u64 Lib.pow10Tab:=by
 obtain⟨T,fr,h⟩:=h;unfold Lib.TabIs World.var?;rw[show Tryz.prog.globalNamed "internal/strconv.uint64pow10" =some 1 by kernel_rfl];simp only[Option.bind_some];rw[h]
theorem Zt0{w:World}(k:Nat):Fr nob w (w.drewN k):=⟨rfl,rfl,rfl,Nat.le_refl _,fun _ _ _=>rfl⟩
theorem ZuB{w:World}(os:Array Obj):Fr nob w (Sort.grow w os):=
 ⟨rfl,rfl,rfl,by simp[Sort.grow],fun k hk _=>by unfold Sort.grow;simp only;rw[Array.getElem?_append_left hk]⟩
theorem Ztz(n:Nat)(w:World)(hn:n≤100000)(h:P10 w):
 Calls Tryz.prog 43 #[.int .i64 (n:Int)] w fun e w'=>e=.returned (.string ⟨(Lib.decDigits n).toArray⟩)∧Fr nob w w':=by
 refine(Tryz.strconv_Itoa (n:Int) (by omega) (by omega) w h.tab).mono ?_;rintro e w' ⟨rfl,k,os,rfl⟩;refine⟨?_,(Zt0 k).trans' (ZuB os)⟩;unfold Lib.itoa;rw[if_neg (by omega)];rfl
theorem ZwG(s:S4)(d:Nat)(w:World)(hs:s.fit)(hd:d<256):Calls Tryz.prog 141 #[ZcR s,.int .u8 d] w fun e w'=>e=.returned (.bool (s.has d))∧Fr nob w w':=hasR_any s d w hs hd
theorem ZwM(n:Nat)(w:World)(hn:n<256):
 Calls Tryz.prog 139 #[.int .u8 (n:Int)] w fun e w'=>e=.returned (.bool (Za0.has n))∧Fr nob w w':=by
 have hc:=ZwS ⟨#[112,117,110,99,116]⟩ _ rfl w;rw[show ZaD (Zak ⟨#[112,117,110,99,116]⟩)=Za0 from rfl]at hc;have f:Za0.fit:=Zdd _;have hh:=fun w=>ZwG Za0 n w f hn;obtain⟨S,hS⟩:∃S,Za0=S:=⟨_,rfl⟩;rw[hS]at hc;simp only[hS]at hh⊢;have HC:=hid hc;have HH:=hid hh;clear hc hh f hS;go_enter Tryz.func139,Tryz.ntmps139;go_wp2_with fail;refine HC.out.mono ?_;rintro e w2 ⟨rfl,f2⟩;have g:=Zl (heap_alloc_new w2 (.cells #[.int .u64 S.a,.int .u64 S.b,.int .u64 S.c,.int .u64 S.d] 62));have F2:=hid (f2.alloc (.cells #[.int .u64 S.a,.int .u64 S.b,.int .u64 S.c,.int .u64 S.d] 62));clear f2;go_wp2_with fail;refine(HH.out _).mono ?_;rintro e w3 ⟨rfl,f3⟩;have F3:=hid (F2.out.trans' f3);clear f3;go_wp2;go_ret;exact⟨rfl,F3.out⟩
theorem ZwQ(n:Nat)(w:World)(hn:n<256):
 Calls Tryz.prog 140 #[.int .u8 (n:Int)] w fun e w'=>e=.returned (.string ⟨[n.toUInt8].toArray⟩)∧Fr nob w w':=by
 have a:=ZwK (P:=Tryz.prog) Tryz.underlying22 Tryz.underlying5 Tryz.underlying9 n.toUInt8;have b:((n.toUInt8.toNat:Nat):Int)=(n:Int):=by rw[show n.toUInt8.toNat=n from by simp;omega]
 rw[b]at a;go_enter Tryz.func140,Tryz.ntmps140;go_wp2;go_ret;exact⟨rfl,(Fr.refl nob w).alloc _⟩
theorem Zwu(n:Nat)(w:World)(hn:n<256):
 Calls Tryz.prog 144 #[.int .u8 (n:Int)] w fun e w'=>e=.returned (.string ⟨(Ztd n).toArray⟩)∧Fr nob w w':=by
 have HP:=hid (ZwM n w hn);have HT:=hid (fun w'=>ZwQ n w' hn);unfold Ztd;cases hc:Za0.has n with
 |true=>
  rw[hc]at HP;rw[if_pos rfl];clear hc;go_enter Tryz.func144,Tryz.ntmps144;go_wp2_with fail;refine HP.out.mono ?_;rintro e w2 ⟨rfl,f2⟩;have F2:=hid f2;clear f2;go_wp2_with fail;refine(HT.out _).mono ?_;rintro e w3 ⟨rfl,f3⟩;have F3:=hid (F2.out.trans' f3);clear f3;go_wp2;go_ret;exact⟨rfl,F3.out⟩
 |false=>
  rw[hc]at HP;rw[if_neg (by decide)];clear hc;go_enter Tryz.func144,Tryz.ntmps144;go_wp2_with fail;refine HP.out.mono ?_;rintro e w2 ⟨rfl,f2⟩;have F2:=hid f2;clear f2;go_wp2_with fail;refine(HT.out _).mono ?_;rintro e w3 ⟨rfl,f3⟩;have F3:=hid (F2.out.trans' f3);clear f3;go_wp2;go_ret;exact⟨rfl,F3.out⟩
def ZwN(s:S4):Bool:=(s.has 9 !=s.has 10)||(s.has 11 !=s.has 10)
theorem Zw6(s:S4)(w:World)(hs:s.fit):
 Calls Tryz.prog 142 #[ZcR s] w fun e w'=>e=.returned (.bool (ZwN s))∧Fr nob w w':=by
 obtain⟨w1,f⟩:∃w1,w1=w.alloc (.cells #[.int .u64 s.a,.int .u64 s.b,.int .u64 s.c,.int .u64 s.d] 62):=⟨_,rfl⟩;have g:w1.heap[w.heap.size]? =some (.cells #[.int .u64 s.a,.int .u64 s.b,.int .u64 s.c,.int .u64 s.d] 62 (0,0)):=by rw[f];exact newAt _ _
 have f1:Fr nob w w1:=by rw[f];exact(Fr.refl _ _).alloc _
 have hh:=fun d (hd:d<256) w'=>ZwG s d w' hs hd;have h9:=hid (hh 9 (by decide));have l:=hid (hh 10 (by decide));have m:=hid (hh 11 (by decide));have r1:=Zl g;have rk:=fun d os=>Zl g _ (grown_fr w1 d os);have o:=hid f;have F1:=hid f1;have HZ:=hid g;unfold ZwN;obtain⟨x9,r⟩:∃x,s.has 9=x:=⟨_,rfl⟩;obtain⟨h,i⟩:∃x,s.has 10=x:=⟨_,rfl⟩;obtain⟨t,j⟩:∃x,s.has 11=x:=⟨_,rfl⟩;rw[r]at h9⊢;rw[i]at l⊢;rw[j]at m⊢;clear hh r i j f f1 g hs;have g9:∀w',Calls Tryz.prog 141 #[.agg #[.int .u64 s.a,.int .u64 s.b,.int .u64 s.c,.int .u64 s.d],.int .u8 9] w' fun e w''=>e=.returned (.bool x9)∧Fr nob w' w'':=h9.out;have p:∀w',Calls Tryz.prog 141 #[.agg #[.int .u64 s.a,.int .u64 s.b,.int .u64 s.c,.int .u64 s.d],.int .u8 10] w' fun e w''=>e=.returned (.bool h)∧Fr nob w' w'':=l.out;have q:∀w',Calls Tryz.prog 141 #[.agg #[.int .u64 s.a,.int .u64 s.b,.int .u64 s.c,.int .u64 s.d],.int .u8 11] w' fun e w''=>e=.returned (.bool t)∧Fr nob w' w'':=m.out
 have G9:=hid g9;have k:=hid p;have n:=hid q;clear g9 p q h9 l m;rw[show(x9 !=h)=(!(x9==h))from rfl];cases u:(!(x9==h))with
 |true=>
  rw[Bool.true_or];go_enter Tryz.func142,Tryz.ntmps142;go_wp2_with(rw[←o.out]);refine region_fr 9 (by kernel_rfl) (by kernel_rfl) ?_;simp only[List.take_succ_cons,List.take_zero,List.drop_succ_cons,List.drop_zero]
  repeat(quiet_step (first|(with_reducible exact calls_fr (G9.out _))|(with_reducible exact calls_fr (k.out _))|(with_reducible exact calls_fr (n.out _))))
  refine wpQuiet_nil ?_;intro w2 f2;have F2:=hid (F1.out.trans' f2);clear f2;go_wp2;go_ret;exact⟨rfl,F2.out⟩
 |false=>
  rw[Bool.false_or];go_enter Tryz.func142,Tryz.ntmps142;go_wp2_with(rw[←o.out]);refine region_fr 9 (by kernel_rfl) (by kernel_rfl) ?_;simp only[List.take_succ_cons,List.take_zero,List.drop_succ_cons,List.drop_zero]
  repeat(quiet_step (first|(with_reducible exact calls_fr (G9.out _))|(with_reducible exact calls_fr (k.out _))|(with_reducible exact calls_fr (n.out _))))
  refine wpQuiet_nil ?_;intro w2 f2;have F2:=hid (F1.out.trans' f2);clear f2;go_wp2_with fail;refine(k.out _).mono ?_;rintro e w3 ⟨rfl,f3⟩;have F3:=hid (F2.out.trans' f3);clear f3;go_wp2;go_ret;exact⟨rfl,F3.out⟩
theorem Zw7(p:Nat→Bool):Zus (spl p 256)=(p 10&&(!p 9|| !p 11)):=by
 have g:=ZsE p 256;rw[Bool.eq_iff_iff];unfold Zus;rw[List.any_eq_true];constructor
 ·rintro⟨x,hx,h⟩;have hi:=g.in_ x hx;have hc:∀e,x.1≤e→e≤x.2→p e=true:=fun e h1 h2=>(g.cov e (by omega)).2 ⟨x,hx,h1,h2⟩;have c:∀e,(e+1=x.1∨e=x.2+1)→e<256→p e=false:=fun e he h256=>by
   cases hp:p e with
   |false=>rfl
   |true=>
    obtain⟨y,hy,h1,h2⟩:=(g.cov e h256).1 hp;obtain⟨i,b,rfl⟩:=List.getElem_of_mem hx;obtain⟨j,hj,rfl⟩:=List.getElem_of_mem hy;have hp:=List.pairwise_iff_getElem.1 g.gap;rcases Nat.lt_trichotomy i j with a|rfl|a
    ·have:=hp i j b hj a;omega
    ·omega
    ·have:=hp j i hj b a;have:=g.in_ _ hy;omega
  simp only[Bool.or_eq_true,beq_iff_eq]at h;rw[Bool.and_eq_true,Bool.or_eq_true];rcases h with h|h
  ·refine⟨hc 10 (by omega) (by omega),.inl ?_⟩;rw[c 9 (by omega) (by omega)];rfl
  ·refine⟨hc 10 (by omega) (by omega),.inr ?_⟩;rw[c 11 (by omega) (by omega)];rfl
 ·intro h;rw[Bool.and_eq_true,Bool.or_eq_true]at h;obtain⟨d,h⟩:=h;obtain⟨x,hx,h1,h2⟩:=(g.cov 10 (by omega)).1 d;have hi:=g.in_ x hx;have hc:∀e,x.1≤e→e≤x.2→p e=true:=fun e h1 h2=>(g.cov e (by omega)).2 ⟨x,hx,h1,h2⟩;refine⟨x,hx,?_⟩;simp only[Bool.or_eq_true,beq_iff_eq];rcases h with h|h
  ·left;by_cases f:x.1=10
   ·exact f
   ·rw[hc 9 (by omega) (by omega)]at h;cases h
  ·right;by_cases k:x.2=10
   ·exact k
   ·rw[hc 11 (by omega) (by omega)]at h;cases h
theorem Zw8{s:S4}(hs:s.fit)(h256:s.len≠256)(h1:s.len≠1)(o:Bool)(ho:decide (128<s.len∨s.len=0)=o):
 setT s=ZtK (if((o !=s.has 10)&&ZwN s)=true then !o else o) (if(if((o !=s.has 10)&&ZwN s)=true then !o else o)=true then s.not else s):=by
 unfold setT;rw[if_neg h256,if_neg h1];simp only;rw[ho,Zw7];unfold ZwN;cases o with
 |true=>
  simp only[if_true,Zvm];cases h9:s.has 9<;>cases a:s.has 10<;>cases b:s.has 11<;>simp[S4.not_not hs]
 |false=>
  simp only[Bool.false_eq_true,if_false];cases h9:s.has 9<;>cases a:s.has 10<;>cases b:s.has 11<;>simp
theorem ZwH(s:S4)(w:World)(hs:s.fit):Calls Tryz.prog 137 #[ZcR s] w fun e w'=>e=.returned (.int .i64 s.len)∧Fr nob w w':=Zw3 s w hs
theorem notR_lit6(s:S4)(w:World):Calls Tryz.prog 143 #[ZcR s] w fun e w'=>e=.returned (ZcR s.not)∧Fr nob w w':=ZwP s w
theorem spansR_lit6(s:S4)(w:World)(hs:s.fit):Calls Tryz.prog 138 #[ZcR s] w (SpV s w):=ZwR s w hs
theorem Zxa(s:S4)(w:World)(hs:s.fit)(h256:s.len≠256)(h1:s.len≠1):
 Calls Tryz.prog 106 #[ZcR s] w fun e w'=>e=.returned (.string ⟨(setT s).toArray⟩)∧Fr nob w w':=by
 obtain⟨w1,B⟩:∃w1,w1=w.alloc (.cells #[.int .u64 s.a,.int .u64 s.b,.int .u64 s.c,.int .u64 s.d] 62):=⟨_,rfl⟩;have a1:Fr nob w w1:=by rw[B];exact(Fr.refl _ _).alloc _
 have H:w1.heap[w.heap.size]? =some (.cells #[.int .u64 s.a,.int .u64 s.b,.int .u64 s.c,.int .u64 s.d] 62 (0,0)):=by rw[B];exact newAt _ _
 have r1:=Zl H;have HL:=hid (ZwH s w1 hs);have b2:=hid (fun w'=>spansR_lit6 s w' hs);have C:=hid (show∀w',Calls Tryz.prog 141 #[ZcR s,.int .u8 10] w' fun e w''=>e=.returned (.bool (s.has 10))∧Fr nob w' w'' from fun w'=>ZwG s 10 w' hs (by decide));have R:=hid (fun w'=>Zw6 s w' hs);obtain⟨n,hn⟩:∃n,s.len=n:=⟨_,rfl⟩;have c0:n≤256:=hn▸s.len_le;have D:=hid (fun o ho=>Zw8 hs h256 h1 o ho);rw[hn]at h256 h1 HL D;have c1:((n:Int)==256)=false:=by simp;omega
 have c2:((n:Int)==1)=false:=by simp;omega
 have HS:=hid hs;have a6:=hid a1;have b3:=hid B;have t:=hid H;clear hs a1 B H hn h256 h1;go_enter Tryz.func106,Tryz.ntmps106;go_wp2_with(rw[←b3.out]);refine HL.out.mono ?_;rintro e w2 ⟨rfl,f2⟩;have F2:=hid f2;clear f2;have r2:=Zl (F2.out.heap t.out (fun x=>x));go_wp2_with fail;refine(b2.out w2).mono ?_;rintro e w3 ⟨v0,rfl,o0,f3,n0⟩;obtain⟨a0,l0,rfl⟩:=Zb (show w3.ownsRow 0 221 2 v0 (spl s.has 256).length (spC (spl s.has 256))from o0);have O0:=hid o0;have F3:=hid (F2.out.trans' f3);clear f3 n0 o0;have r3:=Zl (F3.out.heap t.out (fun x=>x));clear HL r1 r2;obtain⟨o,ho⟩:∃o,decide (128<n∨n=0)=o:=⟨_,rfl⟩;obtain⟨a2,hh⟩:∃x,s.has 10=x:=⟨_,rfl⟩;obtain⟨en,I⟩:∃x,ZwN s=x:=⟨_,rfl⟩;obtain⟨y,hy⟩:∃x,((o !=a2)&&en)=x:=⟨_,rfl⟩;obtain⟨o2,h⟩:∃x,(if y=true then !o else o)=x:=⟨_,rfl⟩;obtain⟨s2,f⟩:∃x,(if o2=true then s.not else s)=x:=⟨_,rfl⟩;have b1:=hid (show s2.fit by rw[←f];split;exact ZnE _;exact HS.out)
 have HQ:=hid (show setT s=ZtK o2 s2 by rw[D.out o ho,hh,I,hy,h,f]);obtain⟨P,hP⟩:∃P,(if o2=true then[(91:UInt8),94]else[91])=P:=⟨_,rfl⟩;have c7:P.length≤2:=by rw[←hP];split<;>simp
 have b5:=spl_len s2.has 256;have G:=(ZsE s2.has 256).in_;obtain⟨L,hL⟩:∃L,spl s2.has 256=L:=⟨_,rfl⟩;rw[hL]at b5 G;have W:=hid (show setT s=P++ZsL L++[93] by rw[HQ.out,←hL,←hP];unfold ZtK;cases o2<;>rfl);have HO:=hid ho;have HY:=hid hy;have b0:=hid h;have V:=hid f;have HP:=hid hP;have a9:=hid G;have S:=hid hL;rw[hh]at C;rw[I]at R;clear ho hh I hy h f hP G hL D HQ
 go_upto_region 12 with(fail)
 go_cut [6] (fun v w'=>v=.bool o∧w'=w3)
 case first=>
  rcases(show(128<n∨(¬128<n∧n=0))∨(¬128<n∧n≠0) by omega)with(hg|⟨hg,h0⟩)|⟨hg,h0⟩
  ·have a4:(128:Int)<(n:Int):=by omega
   have ho:o=true:=by rw[←HO.out];simp[hg]
   clear hg;go_wp2;go_meet
   case rel=>exact⟨by rw[ho],rfl⟩
  ·have a4:¬(128:Int)<(n:Int):=by omega
   have b7:decide ((128:Int)<(n:Int))=false:=by simp;omega
   have b6:((n:Int)==0)=true:=by subst h0;rfl
   have ho:o=true:=by rw[←HO.out];simp[h0]
   clear hg h0;go_wp2;go_meet
   case rel=>exact⟨by rw[ho],rfl⟩
  ·have a4:¬(128:Int)<(n:Int):=by omega
   have b7:decide ((128:Int)<(n:Int))=false:=by simp;omega
   have b6:((n:Int)==0)=false:=by simp;omega
   have ho:o=false:=by rw[←HO.out];simp;omega
   clear hg h0;go_wp2;go_meet
   case rel=>exact⟨by rw[ho],rfl⟩
 case rest=>
  obtain⟨rfl,rfl⟩:=hcut
  go_upto_region 13 with(fail)
  go_cut [45] (fun v w'=>v=.bool y∧Fr nob wc w')
  case first=>
   go_wp2_with fail;refine(C.out _).mono ?_;rintro e w4 ⟨rfl,f4⟩;have F4:=hid f4;clear f4;have r4:=Zl ((F3.out.trans' F4.out).heap t.out (fun x=>x));have hy:=HY.out;cases o<;>cases a2
   case' false.false=>
    go_wp2;go_meet
    case rel=>exact⟨by rw[←hy];rfl,F4.out⟩
   case' true.true=>
    go_wp2;go_meet
    case rel=>exact⟨by rw[←hy];rfl,F4.out⟩
   all_goals
    go_wp2_with fail;refine(R.out _).mono ?_;rintro e w5 ⟨rfl,f5⟩;go_wp2;go_meet
    case rel=>exact⟨by rw[←hy];rfl,F4.out.trans' f5⟩
  case rest=>
   obtain⟨rfl,f4⟩:=hcut;have F4:=hid f4;clear f4;go_upto_if 45 with(fail)
   go_cut [6] (fun v w'=>v=.bool o2∧w'=wc)
   case first=>
    have h:=b0.out;cases y
    ·rw[if_neg (by decide)]at h;subst h;go_wp2;go_meet
     case rel=>exact⟨rfl,rfl⟩
    ·rw[if_pos rfl]at h;subst h;go_wp2;go_meet
     case rel=>exact⟨rfl,rfl⟩
   case rest=>
    obtain⟨rfl,hw⟩:=hcut;subst hw;have r5:=Zl ((F3.out.trans' F4.out).heap t.out (fun x=>x));go_upto_if 48 with(fail)
    go_cut [4,7] (fun v4 v7 w'=>∃av cv,v4=.slice av L.length cv∧ZtD w' (.slice av L.length cv) L∧v7=.string ⟨P.toArray⟩∧Fr nob w1 w')
    case first=>
     have f:=V.out;have hP:=HP.out;cases o2
     ·rw[if_neg (by decide)]at f hP;subst f;subst hP;have O1:=hid (O0.out.on F4.out (fun _ _ x=>x));rw[S.out]at O1⊢;go_wp2;go_meet
      case rel=>exact⟨_,_,rfl,O1.out,rfl,F3.out.trans' F4.out⟩
     ·rw[if_pos rfl]at f hP;subst hP;go_wp2_with fail;refine(notR_lit6 s _).mono ?_;rw[f];rintro e wB ⟨rfl,fB⟩;have FB:=hid ((F3.out.trans' F4.out).trans' fB);clear fB;go_wp2_with fail;refine(spansR_lit6 s2 wB b1.out).mono ?_;rintro e w5 ⟨v,rfl,oL,f5,n5⟩;rw[S.out]at oL;obtain⟨av,cv,rfl⟩:=Zb (show w5.ownsRow 0 221 2 v L.length (spC L)from oL);have OL:=hid oL;have F5:=hid (FB.out.trans' f5);clear oL f5 n5;go_wp2;go_meet
      case rel=>exact⟨_,_,rfl,OL.out,rfl,F5.out⟩
    case rest=>
     obtain⟨av,cv,rfl,oL,rfl,f5⟩:=hcut;have OL:=hid oL;have F5:=hid f5;clear oL f5 O0 F4 r5;go_wp2_with fail
     go_loopw [7,54] (fun v7 i wr=>∃k:Nat,i=.int .i64 k∧k≤L.length∧v7=.string ⟨(P++ZsL (L.take k)).toArray⟩∧Fr nob wc wr) (fun _ i _=>L.length-(intOf i).toNat)
     case atStart=>exact⟨0,rfl,Nat.zero_le _,by simp[ZsL],Fr.refl _ _⟩
     case round=>
      obtain⟨k,rfl,hk,rfl,fr⟩:=hrel;have FR:=hid fr;clear fr;by_cases M:k<L.length
      ·have OK:=OL.out.on FR.out (fun _ _ x=>x);obtain⟨g,c6,hv,z,A⟩:=OK.get M;injection hv with e1 e2 e3;subst e1;subst e3;have N:=ZsM M;have a3:=a9.out L[k] (List.getElem_mem M);have a5:=ZsG (L.take k);obtain⟨⟨p,q⟩,j⟩:∃x,L[k]=x:=⟨_,rfl⟩;rw[j]at z A N a3;simp only at z A a3;rw[List.length_take]at a5;have b8:=ZsQ p;have b9:=ZsQ q;have J:=fun w'=>Zwu p w' (by omega);have K:=fun w'=>Zwu q w' (by omega);have r:ZsV (p,q)=Ztd p++(if p=q then[]else 45::Ztd q):=rfl;obtain⟨IP,E⟩:∃x,Ztd p=x:=⟨_,rfl⟩;obtain⟨IQ,F⟩:∃x,Ztd q=x:=⟨_,rfl⟩;rw[E]at b8 J;rw[F]at b9 K;rw[E,F]at r;obtain⟨X,hX⟩:∃X,P++ZsL (L.take k)=X:=⟨_,rfl⟩;have c8:X.length≤3000:=by rw[←hX];simp;omega
       obtain⟨Y,hY⟩:∃Y,X++IP=Y:=⟨_,rfl⟩;have c9:Y.length≤3005:=by rw[←hY];simp;omega
       obtain⟨Z,hZ⟩:∃Z,Y++[45]=Z:=⟨_,rfl⟩;have d2:Z.length≤3006:=by rw[←hZ];simp;omega
       obtain⟨U,hU⟩:∃U,Z++IQ=U:=⟨_,rfl⟩;have m:P++ZsL (L.take (k+1))=(if p=q then Y else U):=by
        rw[N,←List.append_assoc,hX,r,←hU,←hZ,←hY];split<;>simp[List.append_assoc]
       have c3:∀w',(Op.stringOp .add ⟨X.toArray⟩ ⟨IP.toArray⟩).run Tryz.prog w'=.ok (.string ⟨Y.toArray⟩) w':=fun w'=>by rw[←hY];exact run_string_add_lists w' X IP (by omega) (by omega)
       have c4:∀w',(Op.stringOp .add ⟨Y.toArray⟩ ⟨#[45]⟩).run Tryz.prog w'=.ok (.string ⟨Z.toArray⟩) w':=fun w'=>by rw[←hZ];exact run_string_add_lists w' Y [45] (by omega) (by decide)
       have c5:∀w',(Op.stringOp .add ⟨Z.toArray⟩ ⟨IQ.toArray⟩).run Tryz.prog w'=.ok (.string ⟨U.toArray⟩) w':=fun w'=>by rw[←hU];exact run_string_add_lists w' Z IQ (by omega) (by omega)
       have a7:=hid J;have a8:=hid K;have u:=hid m;have O:=hid z;have Q:=hid A;rw[hX];clear e2 j N hX hY hZ hU E F r OK J K m;go_wp2_with fail;refine(a7.out _).mono ?_;rintro e w6 ⟨rfl,f6⟩;have k0:=Zud (f6.cell O.out (fun x=>x));have k1:=Zud (f6.cell Q.out (fun x=>x));have C0:=hid (f6.cell O.out (fun x=>x));have C1:=hid (f6.cell Q.out (fun x=>x));have F6:=hid (FR.out.trans' f6);clear f6 z A;go_wp2_with fail;refine region_fr 10 (by kernel_rfl) (by kernel_rfl) ?_;simp only[List.take_succ_cons,List.take_zero,List.drop_succ_cons,List.drop_zero]
       repeat(quiet_step (fail))
       refine wpQuiet_nil ?_;intro w7 f7;have d0:=f7.cell C0.out (fun x=>x);have d1:=f7.cell C1.out (fun x=>x);have F7:=hid (F6.out.trans' f7);clear f7 k0 k1;by_cases j:p=q
       ·have q1:¬(p:Int)<(q:Int):=by omega
        rw[if_pos j]at u;clear j;go_wp2;go_roundw
        case rel=>exact⟨k+1,by go_num,by omega,by rw[u.out],F7.out⟩
        case measure=>simp[intOf];omega
       ·have q1:(p:Int)<(q:Int):=by omega
        rw[if_neg j]at u;clear j;go_wp2_with fail;refine(a8.out _).mono ?_;rintro e w8 ⟨rfl,f8⟩;have F8:=hid (F7.out.trans' f8);clear f8;go_wp2;go_roundw
        case rel=>exact⟨k+1,by go_num,by omega,by rw[u.out],F8.out⟩
        case measure=>simp[intOf];omega
      ·obtain rfl:k=L.length:=by omega
       have a5:=ZsG L;have hT:=List.take_of_length_le (l:=L) (Nat.le_refl _);rw[hT];have b4:∀w',(Op.stringOp .add ⟨(P++ZsL L).toArray⟩ ⟨#[93]⟩).run Tryz.prog w'=.ok (.string ⟨(setT s).toArray⟩) w':=fun w'=>by rw[W.out];exact run_string_add_lists w' _ [93] (by simp;omega) (by decide)
       obtain⟨X,hX⟩:∃X,P++ZsL L=X:=⟨_,rfl⟩;rw[hX]at b4⊢;clear hX hT;go_wp2;go_ret;exact⟨rfl,a6.out.trans' (F5.out.trans' FR.out)⟩
theorem Zxb{s:S4}(hs:s.fit)(h:s.len=1):∃x r,spl s.has 256=x::r:=by
 cases hp:spl s.has 256 with
 |cons x r=>exact⟨x,r,rfl⟩
 |nil=>
  rcases least_nil' hs hp with⟨_,_,rfl⟩|⟨h',_⟩
  ·exact absurd h (by decide +kernel)
  ·cases h'
theorem Zxc(s:S4)(w:World)(hs:s.fit)(h1:s.len=1):
 Calls Tryz.prog 106 #[ZcR s] w fun e w'=>e=.returned (.string ⟨(sngT (lowS s)).toArray⟩)∧Fr nob w w':=by
 obtain⟨w1,n⟩:∃w1,w1=w.alloc (.cells #[.int .u64 s.a,.int .u64 s.b,.int .u64 s.c,.int .u64 s.d] 62):=⟨_,rfl⟩;have B:Fr nob w w1:=by rw[n];exact(Fr.refl _ _).alloc _
 have v:w1.heap[w.heap.size]? =some (.cells #[.int .u64 s.a,.int .u64 s.b,.int .u64 s.c,.int .u64 s.d] 62 (0,0)):=by rw[n];exact newAt _ _
 have r1:=Zl v;have hl:=ZwH s w1 hs;rw[h1]at hl;have C:Calls Tryz.prog 137 #[ZcR s] w1 fun e w'=>e=.returned (.int .i64 1)∧Fr nob w1 w':=hl;have HL:=hid C;have q:=hid (fun w'=>spansR_lit6 s w' hs);obtain⟨x,r,hp⟩:=Zxb hs h1;have l:lowS s=x.1:=by unfold lowS;rw[hp]
 have y:x.1<256:=l▸Zvs s;rw[l];have j:=hid (ZwM x.1);have m:=hid (fun w'=>ZwQ x.1 w' y);have HP:=hid hp;have HF:=hid B;have t:=hid n;have o:=hid v;obtain⟨p,z⟩:∃p,x.1=p:=⟨_,rfl⟩;have u:=hid z;rw[z]at y j m⊢;clear hl C hs h1 hp l B n v z;have E:[p.toUInt8].length≤5:=by simp
 unfold sngT;by_cases h:p=10
 ·have q1:((p:Int)==10)=true:=by subst h;rfl
  rw[if_pos h];clear h j m;go_enter Tryz.func106,Tryz.ntmps106;go_wp2_with(rw[←t.out]);refine HL.out.mono ?_;rintro e w2 ⟨rfl,f2⟩;have F2:=hid f2;clear f2;have r2:=Zl (F2.out.heap o.out (fun x=>x));go_wp2_with fail;refine(q.out w2).mono ?_;rintro e w3 ⟨v0,rfl,o0,f3,n0⟩;have F3:=hid (F2.out.trans' f3);rw[HP.out]at o0;obtain⟨g,A,rfl,f,_⟩:=o0.get (k:=0) (by simp);have hc:w3.cell? ⟨g,0,none⟩=some (.int .u8 (p:Int)):=by rw[←u.out];exact f
  have D:1≤(x::r).length:=by simp
  clear o0 f f3 n0;go_wp2;go_ret;exact⟨rfl,HF.out.trans' F3.out⟩
 ·have q1:((p:Int)==10)=false:=by simp;omega
  rw[if_neg h];have i:=fun w'=>j.out w' y;cases hc:Za0.has p with
  |true=>
   rw[hc]at i;rw[if_pos rfl];have HQ:=hid i;have ar:∀w',(Op.stringOp .add ⟨#[92]⟩ ⟨[p.toUInt8].toArray⟩).run Tryz.prog w'=.ok (.string ⟨[92,p.toUInt8].toArray⟩) w':=fun w'=>run_string_add_lists w' [92] [p.toUInt8] (by decide) (by simp);clear i hc h j;go_enter Tryz.func106,Tryz.ntmps106;go_wp2_with(rw[←t.out]);refine HL.out.mono ?_;rintro e w2 ⟨rfl,f2⟩;have F2:=hid f2;clear f2;have r2:=Zl (F2.out.heap o.out (fun x=>x));go_wp2_with fail;refine(q.out w2).mono ?_;rintro e w3 ⟨v0,rfl,o0,f3,n0⟩;have F3:=hid (F2.out.trans' f3);rw[HP.out]at o0;obtain⟨g,A,rfl,f,_⟩:=o0.get (k:=0) (by simp);have hc:w3.cell? ⟨g,0,none⟩=some (.int .u8 (p:Int)):=by rw[←u.out];exact f
   have D:1≤(x::r).length:=by simp
   clear o0 f f3 n0;go_wp2_with fail;refine(HQ.out _).mono ?_;rintro e w4 ⟨rfl,f4⟩;have F4:=hid (F3.out.trans' f4);clear f4;go_wp2_with fail;refine(m.out _).mono ?_;rintro e w5 ⟨rfl,f5⟩;have F5:=hid (F4.out.trans' f5);clear f5;go_wp2;go_ret;exact⟨rfl,HF.out.trans' F5.out⟩
  |false=>
   rw[hc]at i;rw[if_neg (by decide)];have HQ:=hid i;clear i hc h j;go_enter Tryz.func106,Tryz.ntmps106;go_wp2_with(rw[←t.out]);refine HL.out.mono ?_;rintro e w2 ⟨rfl,f2⟩;have F2:=hid f2;clear f2;have r2:=Zl (F2.out.heap o.out (fun x=>x));go_wp2_with fail;refine(q.out w2).mono ?_;rintro e w3 ⟨v0,rfl,o0,f3,n0⟩;have F3:=hid (F2.out.trans' f3);rw[HP.out]at o0;obtain⟨g,A,rfl,f,_⟩:=o0.get (k:=0) (by simp);have hc:w3.cell? ⟨g,0,none⟩=some (.int .u8 (p:Int)):=by rw[←u.out];exact f
   have D:1≤(x::r).length:=by simp
   clear o0 f f3 n0;go_wp2_with fail;refine(HQ.out _).mono ?_;rintro e w4 ⟨rfl,f4⟩;have F4:=hid (F3.out.trans' f4);clear f4;go_wp2_with fail;refine(m.out _).mono ?_;rintro e w5 ⟨rfl,f5⟩;have F5:=hid (F4.out.trans' f5);clear f5;go_wp2;go_ret;exact⟨rfl,HF.out.trans' F5.out⟩
theorem ZwT(s:S4)(w:World)(hs:s.fit)(h:s.len=256):
 Calls Tryz.prog 106 #[ZcR s] w fun e w'=>e=.returned (.string ⟨[46].toArray⟩)∧Fr nob w w':=by
 obtain⟨w1,f⟩:∃w1,w1=w.alloc (.cells #[.int .u64 s.a,.int .u64 s.b,.int .u64 s.c,.int .u64 s.d] 62):=⟨_,rfl⟩;have g:Fr nob w w1:=by rw[f];exact(Fr.refl _ _).alloc _
 have i:w1.heap[w.heap.size]? =some (.cells #[.int .u64 s.a,.int .u64 s.b,.int .u64 s.c,.int .u64 s.d] 62 (0,0)):=by rw[f];exact newAt _ _
 have r1:=Zl i;have hl:=ZwH s w1 hs;rw[h]at hl;have j:Calls Tryz.prog 137 #[ZcR s] w1 fun e w'=>e=.returned (.int .i64 256)∧Fr nob w1 w':=hl;have HL:=hid j;have HF:=hid g;have k:=hid f;clear hl j hs h g f i;go_enter Tryz.func106,Tryz.ntmps106;go_wp2_with(rw[←k.out]);refine HL.out.mono ?_;rintro e w2 ⟨rfl,f2⟩;have F2:=hid f2;clear f2;go_wp2;go_ret;exact⟨rfl,HF.out.trans' F2.out⟩
theorem Zxv(s:S4)(w:World)(hs:s.fit):
 Calls Tryz.prog 106 #[ZcR s] w fun e w'=>e=.returned (.string ⟨(setT s).toArray⟩)∧Fr nob w w':=by
 by_cases a:s.len=256
 ·unfold setT;rw[if_pos a];exact ZwT s w hs a
 ·by_cases h1:s.len=1
  ·unfold setT;rw[if_neg a,if_pos h1];exact Zxc s w hs h1
  ·exact Zxa s w hs a h1
open Go.ChangeShapes Go.WideShapes Go.ChangeAt Go.RowKit
namespace door
theorem own:ownKnob Tryz.prog.godebug=none:=by kernel_rfl
theorem laidOut:laidOutB Tryz.prog=true:=by kernel_rfl
theorem ZqN:Tryz.prog.globalNamed "math/bits.deBruijn64tab" =some 3:=by kernel_rfl
theorem ZqV:(Tryz.prog.globals[3]?).map (·.type)=some 290:=by kernel_rfl
abbrev list1:List (String×DataW Unit):=[("math/bits.deBruijn32tab",Rows.laid_math_bits_deBruijn32tab),("math/bits.deBruijn64tab",Rows.laid_math_bits_deBruijn64tab),("internal/strconv.uint64pow10",Rows.laid_internal_strconv_uint64pow10),("unicode/utf8.acceptRanges",Rows.laid_unicode_utf8_acceptRanges),("unicode/utf8.first",Rows.laid_unicode_utf8_first)]
theorem Zpu:(Rows.laid_math_bits_deBruijn64tab:DataW Unit)=Lib.tabData .u8 (Lib.deBruijn64tab.map Int.ofNat):=by kernel_rfl
theorem ZvT:(Rows.laid_internal_strconv_uint64pow10:DataW Unit)=Lib.tabData .u64 Lib.pow10Tab:=by kernel_rfl
theorem Zkk:(Lib.deBruijn64tab.map Int.ofNat).length=64:=by decide
theorem parts{W:World}(h:laidMetH Tryz.prog list1 W):Lib.TabIs Tryz.prog W "math/bits.deBruijn64tab" .u8 (Lib.deBruijn64tab.map Int.ofNat)∧Lib.TabIs Tryz.prog W "internal/strconv.uint64pow10" .u64 Lib.pow10Tab:=by
 rw[MakeChecks.laidMetH_plain _ _ _ (by kernel_rfl)]at h;unfold list1 at h;rw[Zpu,ZvT]at h;have h1:=laidMet.tail h;have h2:=laidMet.tail h1;exact⟨Lib.tabIs_of_head (P:=Tryz.prog) (W:=W) (t:=290) (e:=5) (n:=64) ZqN ZqV Tryz.underlying290 Tryz.underlying5 (by kernel_rfl) (by kernel_rfl) h1,
  Lib.tabIs_of_head (P:=Tryz.prog) (W:=W) (g:=1) (t:=248) (e:=60) (n:=20) (by kernel_rfl) (by kernel_rfl) Tryz.underlying248 Tryz.underlying60 (by kernel_rfl) (by kernel_rfl) h2⟩
theorem tab{W:World}(h:laidMetH Tryz.prog list1 W):Tab W:=by
 have ht:=(parts h).1;intro j hj;have hc:=ht.cell ZqN j (by rw[Zkk];exact hj);rw[hc]
 congr 2
 have hl:j<Lib.deBruijn64tab.length:=by have:=Zkk;simp at this;omega
 simp[hl]
theorem p10{W:World}(h:laidMetH Tryz.prog list1 W):P10 W:=by
 have ht:=(parts h).2;unfold Lib.TabIs World.var? at ht;rw[show Tryz.prog.globalNamed "internal/strconv.uint64pow10" =some 1 by kernel_rfl]at ht;simp only[Option.bind_some]at ht;split at ht
 ·next cs T fr e=>injection ht with ht;subst ht;exact⟨T,fr,e⟩
 ·cases ht
end door
variable {H:Type} {enc:TypeId×Value→H}
theorem door.env0{W:World}(h:laidMetH Tryz.prog door.list1 W)(hs:W.ShapedOpen Tryz.prog):Env W:=
 ⟨door.tab h,cell_of_shapedOpen_int (zero:= #[.int .i64 0]) (t:=3) (k:=.i64) hs (of_decide_eq_true (by kernel_rfl)) (by kernel_rfl) rfl (by kernel_rfl) (by kernel_rfl) Tryz.underlying3⟩
def ZvU(w:World):Prop:=Env w∧P10 w
theorem door.env{W:World}(h:laidMetH Tryz.prog door.list1 W)(hs:W.ShapedOpen Tryz.prog):ZvU W:=⟨door.env0 h hs,door.p10 h⟩
end Go.Proofs.YtkfddjopbocpkaaGreatDoor
namespace Go.Proofs.YtkfddjopbocpkaaGreatDoor
open Go.ChangeShapes Go.WideShapes Go.ChangeAt Go.RowKit
variable {H:Type} {enc:TypeId×Value→H}
theorem ZwJ{a:Assume}{C:Checked}{os:Os}{f:FuncId}{fn:Func}{s:OpenSpec}{k:(H:Type)→List (DataW H)→Bool}(hk:s.cond=some k){F:Stop.Interp}{conds:List PathCond}{apart fresh handsOn again:Bool}{X:World→Array Value→Prop}
 (hX:∀(w w':World) (args:Array Value),w.heap=w'.heap→X w args→X w' args)
 (own:ownKnob C.prog.godebug=none) (started:os.Started) (noInit:C.prog.inits.idxOf? f=none) (hfn:C.prog.funcs[f]? =some fn)
 (witness:∃(w:World) (tape:Tape) (i:Input),w.os=os∧(w.forCall tape i).Shaped C.prog∧i.vars=[]∧Input.okWide C.prog (w.forCall tape i) .any w.heap.size f i∧
  ((s.pre enc C.prog fn conds apart (w.forCall tape i).memory i.args∧X (w.forCall tape i).memory i.args)∧sizedMet enc C.prog fn s apart (w.forCall tape i).memory i.args)∧a.holds C.prog (lone (Frame.enter C.prog f i.args .normal) [] (w.forCall tape i)))
 (contract:∀(W:World) (base:Nat) (args:Array Value) (ds gs:List (DataW H)) (before:List MemPlace),
  (∀(j:Nat) t v,fn.params[j]? =some t→args[j]? =some v→Value.okWide C.prog W .any base t v)→
  DataW.Whole enc C.prog fn.params.toList s.vars apart W args.toList ds gs before→
  k H (ds++gs)=true→X W args→W.ShapedOpen C.prog→
  Calls C.prog f args W fun e W'=>∃v,e=.returned v∧(s.at F).post enc C.prog fn apart fresh handsOn again W args v W'):
 ReturnsInHanded a C os f .any (fun w args=>(s.pre enc C.prog fn conds apart w args∧X w args)∧sizedMet enc C.prog fn s apart w args) ((s.at F).post enc C.prog fn apart fresh handsOn again):=by
 refine returnsInHanded_of_calls own started noInit witness ?_;intro w tape i _ n _ l c _;obtain⟨_,_,_,g,b,_,_,_,_,d⟩:=l;obtain rfl:g=fn:=Option.some.inj (b.symm.trans hfn);obtain⟨⟨m,hx⟩,_⟩:=c;obtain⟨ds,gs,before,hw,_,h⟩:=(OpenSpec.pre_some hk conds apart _ _).1 m;refine(contract (w.forCall tape i) w.heap.size i.args ds gs before d (DataW.Whole.of_heap (w':=w.forCall tape i) (by rfl) hw) h (hX _ _ _ (by rfl) hx) n).mono fun e W' ⟨v,he,hp⟩=> ?_;subst he;exact ChangeSpec.post_blind hp
theorem witnessU{C:Checked}{os:Os}{f:FuncId}{fn:Func}{s:OpenSpec}{k:(H:Type)→List (DataW H)→Bool}(hk:s.cond=some k){conds:List PathCond}{apart:Bool}{X:World→Array Value→Prop}(modest:Bool)(w0:World)(args:Array Value)(fuel:Nat)(hos:w0.os=os)
 (hsh:(w0.forCall (fun _ _=>0) ⟨#[],args,[]⟩).Shaped C.prog)
 (hok:Input.okWideB C.prog (w0.forCall (fun _ _=>0) ⟨#[],args,[]⟩) f ⟨#[],args,[]⟩=true)
 {x:List (DataW H)×List (DataW H)×List MemPlace} (hx:DataW.whole enc C.prog (w0.forCall (fun _ _=>0) ⟨#[],args,[]⟩).memory fn.params.toList s.vars apart args.toList fuel=some x)
 (hconds:conds.all (PathCond.test C.prog ⟨fn.params.toList,x.1,s.bare.plain.varTypes C.prog,x.2.1⟩)=true) (hkk:k H (x.1++x.2.1)=true)
 (hsz:s.bare.sizedB enc C.prog fn apart (w0.forCall (fun _ _=>0) ⟨#[],args,[]⟩).memory args fuel=true)
 (hX:X (w0.forCall (fun _ _=>0) ⟨#[],args,[]⟩).memory args):
 ∃(w:World) (tape:Tape) (i:Input),w.os=os∧(w.forCall tape i).Shaped C.prog∧i.vars=[]∧Input.okWide C.prog (w.forCall tape i) .any w.heap.size f i∧
  ((s.pre enc C.prog fn conds apart (w.forCall tape i).memory i.args∧X (w.forCall tape i).memory i.args)∧sizedMet enc C.prog fn s apart (w.forCall tape i).memory i.args)∧({modest:=modest}:Assume).holds C.prog (lone (Frame.enter C.prog f i.args .normal) [] (w.forCall tape i)):=
 ⟨w0,fun _ _=>0,⟨#[],args,[]⟩,hos,hsh,(Input.okWide_of_okWideB (base:=0) hok).1,(Input.okWide_of_okWideB hok).2,
  ⟨⟨(OpenSpec.pre_some hk conds apart _ _).2 ⟨x.1,x.2.1,x.2.2,DataW.Whole_of_whole hx,hconds,hkk⟩,hX⟩,sizedMet_of_sizedB hsz⟩,by
  simp only[Assume.holds];exact⟨by simp,by simp,fun _=>Modest.zero,by simp,by simp⟩⟩
end Go.Proofs.YtkfddjopbocpkaaGreatDoor
