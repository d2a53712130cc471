/- Lemmas of this claim. -/
import Derived.LaidMore
import Derived.Lay
import Derived.Stop.Joined
import Derived.Lib.LaidTab
import Derived.Stop.LaidErr
import Derived.Shelf.Vars
import Derived.Test.YtkfddjopbocpkaaGreatDoorM07
set_option linter.unusedVariables false
set_option linter.unusedSimpArgs false
set_option maxRecDepth 100000
set_option maxHeartbeats 4000000
namespace Go.Proofs.YtkfddjopbocpkaaGreatDoor
open Go.Lib (hid)
open Go.RowKit
section
variable {W0 w w':World} {K:Nat→Prop} {b:Nat} {out:List UInt8}
theorem TxW.add{P:Nat→Prop}(h:TxW W0 K b out w)(f:Fr nob w w')(hP:∀k,P k→w.heap.size≤k∧k<w'.heap.size):TxW W0 (fun k=>K k∨P k) b out w':=by
 obtain⟨fr,g,ht,hk⟩:=h;have hb:b<w.heap.size:=by obtain⟨cs,⟨hb,_⟩,_⟩:=ht;exact lt_heap hb
 have hg:∀k,g=some k→k<w.heap.size:=by
  intro k e;obtain⟨cs,⟨_,_,_,v,_,a,c,_⟩,_⟩:=ht;subst e;rcases a.2 with⟨rfl,_⟩|⟨q,i,d,rfl,_,hh,_⟩
  ·cases c
  ·injection c with e;subst e;exact lt_heap hh
 refine⟨fr.trans' f,g,ht.on f (fun x=>x) (fun _ _ x=>x),fun k hk'=> ?_⟩;have hs:=f.size;rcases hk' with h|h|h
 ·obtain⟨h1,h2,h3⟩:=hk k (.inl h);exact⟨h1,h2,by omega⟩
 ·obtain⟨h1,h2,h3⟩:=hk k (.inr h);exact⟨h1,h2,by omega⟩
 ·obtain⟨h1,h2⟩:=hP k h;exact⟨by omega,fun e=>by have:=hg _ e.symm;omega,h2⟩
theorem Txn.less{K':Nat→Prop}{k:Nat}(hK:∀k,K k→K' k)(h:Txn W0 K' k):Txn W0 K k:=fun x=>h (x.imp id (hK k))
theorem ZtD.lt{v:Value}{L:List (Nat×Nat)}(h:ZtD w v L):∀k,v.ownBlock=some k→k<w.heap.size:=by
 intro k e;rcases h.2 with⟨rfl,_⟩|⟨q,a,b,rfl,_,hh,_⟩
 ·cases e
 ·injection e with e;subst e;exact lt_heap hh
def StB(W0:World)(K:Nat→Prop)(w:World)(b:Nat)(out:List UInt8)(s:S4)(w':World):Prop:=
 TxW W0 (fun k=>K k∨k=w.heap.size) b out w'∧Fr (Txn W0 K) w w'∧w'.heap[w.heap.size]? =some (.cells #[.int .u64 s.a,.int .u64 s.b,.int .u64 s.c,.int .u64 s.d] 132 (0,0))
theorem StB.quiet{s:S4}{w2:World}(h:StB W0 K w b out s w')(f:Fr nob w' w2):StB W0 K w b out s w2:=⟨h.1.quiet f,h.2.1.trans f (fun _ _ x=>x.elim),f.heap h.2.2 (fun x=>x)⟩
theorem StB.put{s:S4}(h:StB W0 K w b out s w')(hw:W0.heap.size≤w.heap.size)(t:S4):StB W0 K w b out t (ZaG w' w.heap.size (.int .u64 t.a) (.int .u64 t.b) (.int .u64 t.c) (.int .u64 t.d)):=
 ⟨h.1.on (ZS w' w.heap.size _ _ _ _) (fun k x=>⟨.inr x,by rw[x];exact hw⟩),setFour_frS h.2.1 (Nat.le_refl _) _ _ _ _,setFour_heap h.2.2 _ _ _ _⟩
theorem Zwm(s:S4)(hs:s.fit)(hE:Env W0)(h:TxW W0 K b out w)(hlen:out.length≤10000000000000)(h256:s.len≠256)(h1:s.len≠1):
 Calls Tryz.prog 135 #[.pointer (some ⟨b,0,none⟩),ZcR s] w (TxA W0 K b (out++setT s) w (.tuple #[])):=by
 have a7:W0.heap.size≤w.heap.size:=h.fr.size;obtain⟨w1,z⟩:∃w1,w1=w.alloc (.cells #[.int .u64 s.a,.int .u64 s.b,.int .u64 s.c,.int .u64 s.d] 132):=⟨_,rfl⟩;have C:Fr nob w w1:=by rw[z];exact(Fr.refl _ _).alloc _
 have J:w1.heap[w.heap.size]? =some (.cells #[.int .u64 s.a,.int .u64 s.b,.int .u64 s.c,.int .u64 s.d] 132 (0,0)):=by rw[z];exact newAt _ _
 have t1:TxW W0 (fun k=>K k∨k=w.heap.size) b out w1:=h.add C (fun k e=>by subst e;rw[z];simp);have r1:=Zl J;have a9:Env w1:=hE.on (h.fr.trans' C);have HL:=hid (Zuz s w1 hs);have a1:=hid (fun w' (f:Fr nob w1 w')=>least_any s w' hs (a9.on f).1);have HS:=hid hs;have H1:=hid t1;have a6:=hid C;have a4:=hid z;have M:=hid J;have a5:=hid a7;obtain⟨n,hn⟩:∃n,s.len=n:=⟨_,rfl⟩;have b8:n≤256:=hn▸s.len_le;have W:∀o,decide (128<n∨n=0)=o→∀s1,(if o then s.not else s)=s1→∀e,Zus (spl s1.has 256)=e→setT s=ZtK (o !=e) (if e then s1.not else s1):=by
  intro o ho s1 D e he;unfold setT;rw[if_neg h256,if_neg h1,hn,ho];simp only;rw[D,he]
 have a3:=hid W;rw[hn]at h256 h1 HL;have c1:((n:Int)==256)=false:=by simp;omega
 have c2:((n:Int)==1)=false:=by simp;omega
 clear h hs C z t1 J a9 hE a7 hn W h256 h1;go_enter Tryz.func135,Tryz.ntmps135;go_wp2_with(rw[←a4.out]);refine HL.out.mono ?_;rintro e w2 ⟨rfl,f2⟩;have F2:=hid f2;clear f2;have r2:=Zl (F2.out.heap M.out (fun x=>x));go_wp2_with fail;refine(a1.out _ F2.out).mono ?_;rintro e w3 ⟨d,bb,rfl,c0,f3⟩;have F3:=hid (F2.out.trans' f3);clear f3 c0 a1;have H3:=hid (H1.out.quiet F3.out);go_wp2_with fail;refine(tx_byte 91 91 (by decide) rfl H3.out (by omega)).mono ?_;rintro e w4 ⟨rfl,h4,f4⟩;have B:=hid (show StB W0 K w b (out++[91]) s w4 from⟨h4,(a6.out.trans' F3.out).toTx.trans f4 (fun i _ x=>Txn.less (fun _=>.inl) x),f4.heap (F3.out.heap M.out (fun x=>x)) (fun x=>x (.inr (.inr rfl)))⟩);clear h4 f4 r1 r2 a4 H1 a6 M F2 F3 H3 HL;obtain⟨o,ho⟩:∃o,decide (128<n∨n=0)=o:=⟨_,rfl⟩;obtain⟨s1,r⟩:∃x,(if o then s.not else s)=x:=⟨_,rfl⟩;have D:=hid (show s1.fit by rw[←r];split;exact ZnE _;exact HS.out)
 obtain⟨e,he⟩:∃e,Zus (spl s1.has 256)=e:=⟨_,rfl⟩;obtain⟨s2,m⟩:∃x,(if e then s1.not else s1)=x:=⟨_,rfl⟩;have c6:=hid (show s2.fit by rw[←m];split;exact ZnE _;exact D.out);obtain⟨x,hx⟩:∃x,(o !=e)=x:=⟨_,rfl⟩;obtain⟨P,hP⟩:∃P,(if x then[(94:UInt8)]else[])=P:=⟨_,rfl⟩;have d5:P.length≤1:=by rw[←hP];split<;>simp
 have HQ:=hid (show setT s=ZtK x s2 by rw[a3.out o ho s1 r e he,m,hx]);have HO:=hid ho;have c5:=hid r;have b7:=hid he;have b5:=hid m;have HP:=hid hP;have HX:=hid hx;clear ho r he m hP a3 hx
 go_upto_region 9 with(fail)
 go_cut [7] (fun v w'=>v=.bool o∧StB W0 K w b (out++[91]) s w')
 case first=>
  rcases(show(128<n∨(¬128<n∧n=0))∨(¬128<n∧n≠0) by omega)with(hg|⟨hg,h0⟩)|⟨hg,h0⟩
  ·have U:(128:Int)<(n:Int):=by omega
   have ho:o=true:=by rw[←HO.out];simp[hg]
   clear hg;go_wp2;go_meet
   case rel=>exact⟨by rw[ho],B.out⟩
  ·have U:¬(128:Int)<(n:Int):=by omega
   have b4:((n:Int)==0)=true:=by subst h0;rfl
   have ho:o=true:=by rw[←HO.out];simp[h0]
   clear hg h0;go_wp2;go_meet
   case rel=>exact⟨by rw[ho],B.out⟩
  ·have U:¬(128:Int)<(n:Int):=by omega
   have d4:decide ((128:Int)<(n:Int))=false:=by simp;omega
   have b4:((n:Int)==0)=false:=by simp;omega
   have ho:o=false:=by rw[←HO.out];simp;omega
   clear hg h0;go_wp2;go_meet
   case rel=>exact⟨by rw[ho],B.out⟩
 case rest=>
  obtain⟨rfl,st⟩:=hcut;have r4:=Zl st.2.2;have ST:=hid st;clear st B;go_upto_if 39 with(fail)
  go_cut [] (fun w'=>StB W0 K w b (out++[91]) s1 w')
  case first=>
   have r:=c5.out;cases o with
   |false=>
    rw[if_neg (by decide)]at r;subst r;go_wp2;go_meet
    case rel=>exact ST.out
   |true=>
    rw[if_pos rfl]at r;go_wp2_with fail;refine(not_lit s wc).mono ?_;rw[r];rintro e w5 ⟨rfl,f5⟩;have S5:=hid (ST.out.quiet f5);have r5:=Zl S5.out.2.2;clear f5;go_wp2;go_meet
    case rel=>exact S5.out.put a5.out s1
  case rest=>
   have r6:=Zl hcut.2.2;have S6:=hid hcut;clear hcut ST r4;go_wp2_with fail;refine(spans_any s1 wc D.out).mono ?_;rintro e w7 ⟨v7,rfl,o7,f7,n7⟩;go_wp2_with fail;refine(ended_any (spl s1.has 256) v7 w7 (spl_len _ _) (fun x hx=>by have:=(ZsE s1.has 256).in_ x hx;omega) o7).mono ?_;rintro e w8 ⟨rfl,f8⟩;rw[b7.out];have S8:=hid (S6.out.quiet (f7.trans' f8));have r8:=Zl S8.out.2.2;clear f7 f8 n7 o7 S6 r6;go_upto_if 44 with(fail)
   go_cut [7] (fun v w'=>v=.bool x∧StB W0 K w b (out++[91]) s2 w')
   case first=>
    have m:=b5.out;cases e with
    |false=>
     rw[if_neg (by decide)]at m;subst m;go_wp2;go_meet
     case rel=>exact⟨by rw[←HX.out];simp,S8.out⟩
    |true=>
     rw[if_pos rfl]at m;go_wp2_with fail;refine(not_lit s1 w8).mono ?_;rw[m];rintro e w9 ⟨rfl,f9⟩;have S9:=hid (S8.out.quiet f9);have r9:=Zl S9.out.2.2;clear f9;go_wp2;go_meet
     case rel=>exact⟨by rw[←HX.out];simp,S9.out.put a5.out s2⟩
   case rest=>
    obtain⟨rfl,st⟩:=hcut;have rA:=Zl st.2.2;have SA:=hid st;clear st S8 r8;go_upto_if 49 with(fail)
    go_cut [] (fun w'=>StB W0 K w b (out++[91]++P) s2 w')
    case first=>
     have hP:=HP.out;cases x with
     |false=>
      rw[if_neg (by decide)]at hP;subst hP;go_wp2;go_meet
      case rel=>simpa using SA.out
     |true=>
      rw[if_pos rfl]at hP;subst hP;go_wp2_with fail;refine(tx_byte 94 94 (by decide) rfl SA.out.1 (by simp;omega)).mono ?_;rintro e wB ⟨rfl,hB,fB⟩;go_wp2;go_meet
      case rel=>exact⟨hB,SA.out.2.1.trans fB (fun _ _ x=>Txn.less (fun _=>.inl) x),fB.heap SA.out.2.2 (fun x=>x (.inr (.inr rfl)))⟩
    case rest=>
     have rB:=Zl hcut.2.2;have HB:=hid hcut.1;have FB:=hid hcut.2.1;clear hcut SA rA;go_wp2_with fail;refine(spans_any s2 wc c6.out).mono ?_;rintro e w5 ⟨v,rfl,oL,f5,n5⟩;obtain⟨L,hL⟩:∃L,spl s2.has 256=L:=⟨_,rfl⟩;have b2:=spl_len s2.has 256;have I:=(ZsE s2.has 256).in_;rw[hL]at oL b2 I;have H:out++setT s=out++[91]++P++ZsL L++[93]:=by rw[HQ.out,←hL];simp[ZtK,List.append_assoc,←HP.out]
     obtain⟨av,cv,rfl⟩:=Zb (show w5.ownsRow 0 221 2 v L.length (spC L)from oL);obtain⟨K2,F⟩:∃K2:Nat→Prop,K2=fun k=>(K k∨k=w.heap.size)∨(Value.slice av L.length cv).ownBlock=some k:=⟨_,rfl⟩;have a0:∀k,K k→K2 k:=fun k x=>by rw[F];exact .inl (.inl x)
     have a8:∀k,(Value.slice av L.length cv).ownBlock=some k→K2 k:=fun k x=>by rw[F];exact .inr x
     have HC:=hid (show TxW W0 K2 b (out++[91]++P) w5 by rw[F];have:=HB.out.add f5 (P:=fun k=>(Value.slice av L.length cv).ownBlock=some k) (fun k e=>⟨n5 k e,oL.lt k e⟩);simpa using this);have FC:=hid (show Fr (Txn W0 K) w w5 from FB.out.trans f5 (fun _ _ x=>x.elim));have OL:=hid oL;have S:=hid H;have a2:=hid a0;have c7:=hid a8;have c3:=hid I;clear oL H F a0 a8 hL I n5 f5;go_wp2_with fail
     go_loopw [57] (fun i wr=>∃k:Nat,i=.int .i64 k∧k≤L.length∧TxW W0 K2 b (out++[91]++P++ZsL (L.take k)) wr∧Fr (Txn W0 K2) w5 wr) (fun i _=>L.length-(intOf i).toNat)
     case atStart=>exact⟨0,rfl,Nat.zero_le _,by simpa[ZsL]using HC.out,Fr.refl _ _⟩
     case round=>
      obtain⟨k,rfl,hk,tx,fr⟩:=hrel;have HR:=hid tx;have FR:=hid fr;clear tx fr;by_cases R:k<L.length
      ·have OK:=OL.out.on FR.out (fun j e x=>x (.inr (c7.out j e)));obtain⟨g,c8,hv,Z,V⟩:=OK.get R;injection hv with e1 e2 e3;subst e1;subst e3;have N:=ZsM R;have b0:=c3.out L[k] (List.getElem_mem R);have Y:=ZsG (L.take k);obtain⟨⟨p,q⟩,t⟩:∃x,L[k]=x:=⟨_,rfl⟩;rw[t]at Z V N b0;simp only at Z V b0;rw[List.length_take]at Y;obtain⟨X,hX⟩:∃X,out++[91]++P++ZsL (L.take k)=X:=⟨_,rfl⟩;have d0:X.length≤10000000010000:=by rw[←hX];simp;omega
       have A:X++ZsV (p,q)=out++[91]++P++ZsL (L.take (k+1)):=by rw[N,←hX];simp[List.append_assoc]
       rw[hX]at HR;obtain⟨wa,u⟩:∃wa,wa=wr.alloc (.cells #[.int .u8 (p:Int),.int .u8 (q:Int)] 221):=⟨_,rfl⟩;have E:wa.heap[wr.heap.size]? =some (.cells #[.int .u8 (p:Int),.int .u8 (q:Int)] 221 (0,0)):=by rw[u];exact newAt _ _
       have k0:=cell_at (j:=0) (v:=.int .u8 (p:Int)) E rfl;have k1:=cell_at (j:=1) (v:=.int .u8 (q:Int)) E rfl;have TA:=hid (show TxW W0 (fun k=>K2 k∨k=wr.heap.size) b X wa by rw[u];exact HR.out.alloc _ HR.out.lt);have c4:=hid (show Fr (Txn W0 K2) w5 wa by rw[u];exact FR.out.alloc _);have b6:=hid u;have b1:=hid A;have b3:=hid E;clear e2 t N hX OK u A E;go_wp2_with(rw[←b6.out]);refine(show_inside p (by omega) TA.out (by omega)).mono ?_;rintro e wx ⟨rfl,tx,fx⟩;have G:=fx.heap b3.out (fun x=>x (.inr (.inr rfl)));have d2:=cell_at (j:=0) (v:=.int .u8 (p:Int)) G rfl;have d1:=cell_at (j:=1) (v:=.int .u8 (q:Int)) G rfl;have TX:=hid tx;have FX:=hid (c4.out.trans fx (fun _ _ x=>Txn.less (fun _=>.inl) x));have b9:=hid G;have d3:=ZsQ p;clear tx fx G;by_cases t:p=q
       ·have q1:((p:Int) !=(q:Int))=false:=by subst t;simp
        have y:ZsV (p,q)=Ztd p:=by unfold ZsV;simp[t]
        have Q:=hid y;clear y t;go_wp2;go_roundw
        case rel=>exact⟨k+1,by go_num,by omega,by have:=TX.out.less (K':=K2) (fun _=>.inl);rw[←b1.out,Q.out];exact this,FX.out⟩
        case measure=>simp[intOf];omega
       ·have q1:((p:Int) !=(q:Int))=true:=by simp;omega
        have y:ZsV (p,q)=Ztd p++([45]++Ztd q):=by unfold ZsV;simp[t]
        have Q:=hid y;clear y t;go_wp2_with fail;refine(tx_byte 45 45 (by decide) rfl TX.out (by simp;omega)).mono ?_;rintro e wy ⟨rfl,ty,fy⟩;have O:=fy.heap b9.out (fun x=>x (.inr (.inr rfl)));have d6:=cell_at (j:=0) (v:=.int .u8 (p:Int)) O rfl;have c9:=cell_at (j:=1) (v:=.int .u8 (q:Int)) O rfl;have TY:=hid ty;have FY:=hid (FX.out.trans fy (fun _ _ x=>Txn.less (fun _=>.inl) x));clear ty fy O;go_wp2_with fail;refine(show_inside q (by omega) TY.out (by simp;omega)).mono ?_;rintro e wz ⟨rfl,tz,fz⟩;have TZ:=hid tz;have FZ:=hid (FY.out.trans fz (fun _ _ x=>Txn.less (fun _=>.inl) x));clear tz fz;go_wp2;go_roundw
        case rel=>exact⟨k+1,by go_num,by omega,by have:=TZ.out.less (K':=K2) (fun _=>.inl);rw[←b1.out,Q.out];simpa[List.append_assoc]using this,FZ.out⟩
        case measure=>simp[intOf];omega
      ·obtain rfl:k=L.length:=by omega
       have Y:=ZsG L;have hT:=List.take_of_length_le (l:=L) (Nat.le_refl _);rw[hT]at HR;clear hT;go_wp2_with fail;refine(tx_byte 93 93 (by decide) rfl HR.out (by simp;omega)).mono ?_;rintro e wy ⟨rfl,ty,fy⟩;have TY:=hid ty;have FY:=hid (FR.out.trans fy (fun _ _ x=>x));clear ty fy;go_wp2
       go_end0
       refine⟨rfl,by rw[S.out];exact TY.out.less a2.out,FC.out.trans FY.out (fun _ _ x=>Txn.less a2.out x)⟩
end
section
variable {W0 w w':World} {K:Nat→Prop} {b:Nat} {out:List UInt8}
theorem show_set(s:S4)(hs:s.fit)(hE:Env W0)(h:TxW W0 K b out w)(hlen:out.length≤10000000000000):
 Calls Tryz.prog 135 #[.pointer (some ⟨b,0,none⟩),ZcR s] w (TxA W0 K b (out++setT s) w (.tuple #[])):=by
 have HT:=hid h;have HE:=hid hE;obtain⟨q,hq⟩:∃q,q=w.heap.size:=⟨_,rfl⟩;have u:b<w.heap.size:=h.lt;obtain⟨w1,j⟩:∃w1,w1=w.alloc (.cells #[.int .u64 s.a,.int .u64 s.b,.int .u64 s.c,.int .u64 s.d] 132):=⟨_,rfl⟩;have m:Fr nob w w1:=by rw[j];exact(Fr.refl _ _).alloc _
 have p:w1.heap[q]? =some (.cells #[.int .u64 s.a,.int .u64 s.b,.int .u64 s.c,.int .u64 s.d] 132 (0,0)):=by rw[j,hq];exact newAt _ _
 have t1:TxW W0 (fun k=>K k∨k=q) b out w1:=h.add m (fun k e=>by subst e;rw[j,hq];simp);have r1:=Zl p;have B:Env w1:=hE.on (h.fr.trans' m);have HL:=hid (Zuz s w1 hs);have r:=hid (fun w' (f:Fr nob w1 w')=>least_any s w' hs (B.on f).1);have o:=hid hs;have H1:=hid t1;have y:=hid m;have t:=hid j;have z:=hid p;have HQ:=hid hq;have D:=hid u;have v:=Zvs s;have A:q=w.heap.size:=hq;clear h hs m j t1 p B hE hq u;obtain⟨n,hn⟩:∃n,s.len=n:=⟨_,rfl⟩;have C:n≤256:=hn▸s.len_le;rw[hn]at HL;unfold setT;rw[hn];by_cases g:n=256
 ·have c1:((n:Int)==256)=true:=by subst g;rfl
  rw[if_pos g];subst A;clear hn;go_enter Tryz.func135,Tryz.ntmps135;go_wp2_with(rw[←t.out]);refine HL.out.mono ?_;rintro e w2 ⟨rfl,f2⟩;have F2:=hid f2;clear f2;have r2:=Zl (F2.out.heap z.out (fun x=>x));go_wp2_with fail;refine(r.out _ F2.out).mono ?_;rintro e w3 ⟨d,bb,rfl,l,f3⟩;have F3:=hid (F2.out.trans' f3);clear f3 l;have H3:=hid (H1.out.quiet F3.out);go_wp2_with fail;refine(tx_byte 46 46 (by decide) rfl H3.out (by omega)).mono ?_;rintro e w4 ⟨rfl,h4,f4⟩;have H4:=hid h4;have F4:=hid f4;clear h4 f4;go_wp2;exact bodyPost_ret (results_none rfl _ _ _) rfl ⟨rfl,H4.out.less (fun k=>.inl),(y.out.trans' F3.out).toTx.trans F4.out (fun i _ x=>Txn.less (fun k=>.inl) x)⟩
 ·have c1:((n:Int)==256)=false:=by simp;omega
  rw[if_neg g];by_cases h1:n=1
  ·have c2:((n:Int)==1)=true:=by subst h1;rfl
   rw[if_pos h1];subst A;clear hn;go_enter Tryz.func135,Tryz.ntmps135;go_wp2_with(rw[←t.out]);refine HL.out.mono ?_;rintro e w2 ⟨rfl,f2⟩;have F2:=hid f2;clear f2;have r2:=Zl (F2.out.heap z.out (fun x=>x));go_wp2_with fail;refine(r.out _ F2.out).mono ?_;rintro e w3 ⟨d,bb,rfl,l,f3⟩;obtain rfl:=l.lowS o.out;have F3:=hid (F2.out.trans' f3);clear f3 l;have H3:=hid (H1.out.quiet F3.out);go_wp2_with fail;refine(show_single (lowS s) v H3.out (by omega)).mono ?_;rintro e w4 ⟨rfl,h4,f4⟩;have H4:=hid h4;have F4:=hid f4;clear h4 f4;go_wp2;exact bodyPost_ret (results_none rfl _ _ _) rfl ⟨rfl,H4.out.less (fun k=>.inl),(y.out.trans' F3.out).toTx.trans F4.out (fun i _ x=>Txn.less (fun k=>.inl) x)⟩
  ·rw[if_neg h1];have:=Zwm s o.out HE.out HT.out hlen (by omega) (by omega);unfold setT at this;rw[hn,if_neg g,if_neg h1]at this;exact this
end
def P10(w:World):Prop:=∃T fr,w.heap[1]? =some (.cells (Lib.pow10Tab.map fun z=>Value.int .u64 z).toArray T fr)
theorem P10.on{w w':World}(h:P10 w)(f:Fr nob w w'):P10 w':=let⟨T,fr,h⟩:=h;⟨T,fr,f.heap h (fun x=>x)⟩
theorem P10.tab{w:World}(h:P10 w):Lib.TabIs Tryz.prog w "internal/strconv.uint64pow10" .u64 Lib.pow10Tab:=by
 obtain⟨T,fr,h⟩:=h;unfold Lib.TabIs World.var?;rw[show Tryz.prog.globalNamed "internal/strconv.uint64pow10" =some 1 by kernel_rfl];simp only[Option.bind_some];rw[h]
theorem Zt0{w:World}(k:Nat):Fr nob w (w.drewN k):=⟨rfl,rfl,rfl,Nat.le_refl _,fun _ _ _=>rfl⟩
theorem ZuB{w:World}(os:Array Obj):Fr nob w (Sort.grow w os):=
 ⟨rfl,rfl,rfl,by simp[Sort.grow],fun k hk _=>by unfold Sort.grow;simp only;rw[Array.getElem?_append_left hk]⟩
theorem Ztz(n:Nat)(w:World)(hn:n≤100000)(h:P10 w):
 Calls Tryz.prog 43 #[.int .i64 (n:Int)] w fun e w'=>e=.returned (.string ⟨(Lib.decDigits n).toArray⟩)∧Fr nob w w':=by
 refine(Tryz.strconv_Itoa (n:Int) (by omega) (by omega) w h.tab).mono ?_;rintro e w' ⟨rfl,k,os,rfl⟩;refine⟨?_,(Zt0 k).trans' (ZuB os)⟩;unfold Lib.itoa;rw[if_neg (by omega)];rfl
open Go.ChangeShapes Go.WideShapes Go.ChangeAt Go.RowKit
namespace door
theorem own:ownKnob Tryz.prog.godebug=none:=by kernel_rfl
theorem laidOut:laidOutB Tryz.prog=true:=by kernel_rfl
theorem ZqN:Tryz.prog.globalNamed "math/bits.deBruijn64tab" =some 3:=by kernel_rfl
theorem ZqV:(Tryz.prog.globals[3]?).map (·.type)=some 290:=by kernel_rfl
abbrev list1:List (String×DataW Unit):=[("math/bits.deBruijn32tab",Rows.laid_math_bits_deBruijn32tab),("math/bits.deBruijn64tab",Rows.laid_math_bits_deBruijn64tab),("internal/strconv.uint64pow10",Rows.laid_internal_strconv_uint64pow10),("unicode/utf8.acceptRanges",Rows.laid_unicode_utf8_acceptRanges),("unicode/utf8.first",Rows.laid_unicode_utf8_first)]
theorem Zpu:(Rows.laid_math_bits_deBruijn64tab:DataW Unit)=Lib.tabData .u8 (Lib.deBruijn64tab.map Int.ofNat):=by kernel_rfl
theorem ZvT:(Rows.laid_internal_strconv_uint64pow10:DataW Unit)=Lib.tabData .u64 Lib.pow10Tab:=by kernel_rfl
theorem Zkk:(Lib.deBruijn64tab.map Int.ofNat).length=64:=by decide
theorem parts{W:World}(h:laidMetH Tryz.prog list1 W):Lib.TabIs Tryz.prog W "math/bits.deBruijn64tab" .u8 (Lib.deBruijn64tab.map Int.ofNat)∧Lib.TabIs Tryz.prog W "internal/strconv.uint64pow10" .u64 Lib.pow10Tab:=by
 rw[MakeChecks.laidMetH_plain _ _ _ (by kernel_rfl)]at h;unfold list1 at h;rw[Zpu,ZvT]at h;have h1:=laidMet.tail h;have h2:=laidMet.tail h1;exact⟨Lib.tabIs_of_head (P:=Tryz.prog) (W:=W) (t:=290) (e:=5) (n:=64) ZqN ZqV Tryz.underlying290 Tryz.underlying5 (by kernel_rfl) (by kernel_rfl) h1,
  Lib.tabIs_of_head (P:=Tryz.prog) (W:=W) (g:=1) (t:=248) (e:=60) (n:=20) (by kernel_rfl) (by kernel_rfl) Tryz.underlying248 Tryz.underlying60 (by kernel_rfl) (by kernel_rfl) h2⟩
theorem tab{W:World}(h:laidMetH Tryz.prog list1 W):Tab W:=by
 have ht:=(parts h).1;intro j hj;have hc:=ht.cell ZqN j (by rw[Zkk];exact hj);rw[hc]
 congr 2
 have hl:j<Lib.deBruijn64tab.length:=by have:=Zkk;simp at this;omega
 simp[hl]
theorem p10{W:World}(h:laidMetH Tryz.prog list1 W):P10 W:=by
 have ht:=(parts h).2;unfold Lib.TabIs World.var? at ht;rw[show Tryz.prog.globalNamed "internal/strconv.uint64pow10" =some 1 by kernel_rfl]at ht;simp only[Option.bind_some]at ht;split at ht
 ·next cs T fr e=>injection ht with ht;subst ht;exact⟨T,fr,e⟩
 ·cases ht
end door
variable {H:Type} {enc:TypeId×Value→H}
theorem ZfN{a:Assume}{C:Checked}{os:Os}{f:FuncId}{fn:Func}{s:ChangeSpec}{conds:List PathCond}{apart fresh handsOn again:Bool}{X:World→Array Value→Prop}
 (hX:∀(w w':World) (args:Array Value),w.heap=w'.heap→X w args→X w' args)
 (own:ownKnob C.prog.godebug=none) (started:os.Started) (noInit:C.prog.inits.idxOf? f=none) (hfn:C.prog.funcs[f]? =some fn)
 (witness:∃(w:World) (tape:Tape) (i:Input),w.os=os∧(w.forCall tape i).Shaped C.prog∧i.vars=[]∧Input.okWide C.prog (w.forCall tape i) .any w.heap.size f i∧
  ((s.pre enc C.prog fn conds apart (w.forCall tape i).memory i.args∧X (w.forCall tape i).memory i.args)∧sizedMet enc C.prog fn (OpenSpec.ofChange s) apart (w.forCall tape i).memory i.args)∧a.holds C.prog (lone (Frame.enter C.prog f i.args .normal) [] (w.forCall tape i)))
 (contract:∀(W:World) (base:Nat) (args:Array Value) (ds gs:List (DataW H)) (before:List MemPlace),
  (∀(j:Nat) t v,fn.params[j]? =some t→args[j]? =some v→Value.okWide C.prog W .any base t v)→
  DataW.Whole enc C.prog fn.params.toList s.vars apart W args.toList ds gs before→
  (DataW.weightsEach C.prog (fn.params.toList++s.plain.varTypes C.prog) (ds++gs)).all (·≤reachBytes)=true→X W args→W.ShapedOpen C.prog→
  Calls C.prog f args W fun e W'=>∃v,e=.returned v∧s.post enc C.prog fn apart fresh handsOn again W args v W'):
 ReturnsInHanded a C os f .any (fun w args=>(s.pre enc C.prog fn conds apart w args∧X w args)∧sizedMet enc C.prog fn (OpenSpec.ofChange s) apart w args) (s.post enc C.prog fn apart fresh handsOn again):=by
 refine returnsInHanded_of_calls own started noInit witness ?_;intro w tape i _ k _ g b _;obtain⟨_,_,_,h,c,_,_,_,_,d⟩:=g;obtain rfl:h=fn:=Option.some.inj (c.symm.trans hfn);obtain⟨⟨⟨ds,gs,before,hw,_⟩,hx⟩,hz⟩:=b;refine(contract (w.forCall tape i) w.heap.size i.args ds gs before d (DataW.Whole.of_heap (w':=w.forCall tape i) (by rfl) hw) (hz.weights hw) (hX _ _ _ (by rfl) hx) k).mono fun e W' ⟨v,he,hp⟩=> ?_;subst he;exact ChangeSpec.post_blind hp
theorem door.env0{W:World}(h:laidMetH Tryz.prog door.list1 W)(hs:W.ShapedOpen Tryz.prog):Env W:=
 ⟨door.tab h,cell_of_shapedOpen_int (zero:= #[.int .i64 0]) (t:=3) (k:=.i64) hs (of_decide_eq_true (by kernel_rfl)) (by kernel_rfl) rfl (by kernel_rfl) (by kernel_rfl) Tryz.underlying3⟩
def ZvU(w:World):Prop:=Env w∧P10 w
theorem door.env{W:World}(h:laidMetH Tryz.prog door.list1 W)(hs:W.ShapedOpen Tryz.prog):ZvU W:=⟨door.env0 h hs,door.p10 h⟩
end Go.Proofs.YtkfddjopbocpkaaGreatDoor
