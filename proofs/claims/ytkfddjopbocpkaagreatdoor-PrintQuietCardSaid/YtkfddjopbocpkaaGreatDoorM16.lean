/- Lemmas of this claim. -/
import Derived.Test.YtkfddjopbocpkaaGreatDoorM15
set_option linter.unusedVariables false
set_option linter.unusedSimpArgs false
set_option maxRecDepth 100000
set_option maxHeartbeats 4000000
namespace Go.Proofs.YtkfddjopbocpkaaGreatDoor
open Go.Lib (hid)
open Go.RowKit
def ZaC(x:Bool)(l:List UInt8)(second:Bool)(s:AdS):ZlK:=
 if 48≤(byt l s.at_).toNat∧(byt l s.at_).toNat≤57 then Zdj l s
 else if byt l s.at_=36 then .inr (⟨2,0,[],.nil⟩,⟨s.at_+1,s.marks,0⟩)
 else if byt l s.at_=47 then ZaE x l 47 ⟨s.at_+1,s.marks,0⟩
 else if byt l s.at_=92 then(if l.length≤s.at_+1∨byt l (s.at_+1)=92∨byt l (s.at_+1)=10 then .inl (12,s.at_)else ZaE x l (byt l (s.at_+1)) ⟨s.at_+1+1,s.marks,0⟩)
 else if byt l s.at_=43∧second=true then Zdk l s
 else .inr (AV.zero,s)
theorem ZaO{l:List UInt8}{k:Nat}(h:byt l k≠0):k<l.length:=by
 refine Nat.lt_of_not_le fun hk=>h (ZkR hk)
theorem Ziu(b:Nat)(l:List UInt8)(d:UInt8)(x:Bool)(s:AdS)(S O:Nat→Prop)(w:World)(hl:l.length≤100000)(ha:s.at_≤l.length)(hm:s.marks.length≤100000)(hs0:s.e=0)(hS:∀k,S k→k<w.heap.size)(hO:∀k,O k→k<w.heap.size)(hE:Env w)(h:ARd b l x s S w):
 Calls Tryz.prog 111 #[.pointer (some ⟨b,0,none⟩),.int .u8 (d.toNat:Int)] w (ZkT b l x S O w (ZaE x l d s)):=by
 cases hR:ZaE x l d s with
 |inl z=>
  obtain⟨z,p⟩:=z;exact Zhw b l d x s S w hl ha hS hE h z p hR
 |inr q=>
  unfold ZaE at hR;split at hR
  ·cases hR
  ·next h0=>
   split at hR
   ·cases hR
   ·next hT=>
    split at hR
    ·cases hR
    ·next t r hp=>
     injection hR with hR;subst hR;exact ad_regex_ok b l d x s S O w hl ha hm hs0 hS hO hE h _ _ (by
      have h0:(bt l d true (l.length+1) s.at_ []).2.2=0:=by simpa using h0
      rw[←h0]) hT t r hp
theorem Zal(b:Nat)(l:List UInt8)(x second:Bool)(s:AdS)(S O:Nat→Prop)(w:World)(hl:l.length≤100000)(ha:s.at_≤l.length)(hm:s.marks.length≤100000)(hs0:s.e=0)(hS:∀k,S k→k<w.heap.size)(hO:∀k,O k→k<w.heap.size)(W0:World)(hE:Env W0)(hW:Fr nob W0 w)(hSW:∀k,S k→W0.heap.size≤k)(h:ARd b l x s S w):
 Calls Tryz.prog 83 #[.pointer (some ⟨b,0,none⟩),.bool second] w (ZkT b l x S O w (ZaC x l second s)):=by
 obtain⟨g,m,e0⟩:=s;obtain rfl:e0=0:=hs0;have ha:g≤l.length:=ha;have hm:m.length≤100000:=hm;obtain⟨w1,K⟩:∃w1,w1=w.alloc (.cells zA 28):=⟨_,rfl⟩;have f1:Fr nob w w1:=by rw[K];exact(Fr.refl _ _).alloc _
 have hz:w1.heap[w.heap.size]? =some (.cells zA 28 (0,0)):=by rw[K];exact newAt _ _
 have h1:=h.on f1;have hN:=Zt b l x ⟨g,m,0⟩ S w1 (by omega) h1;simp only at hN;have b7:w1.heap.size=w.heap.size+1:=by rw[K];simp
 have a7:∀(w':World),Fr nob w1 w'→∀k,S k→k<w'.heap.size:=fun w' f k hk=>by have:=hS k hk;have:=f.size;omega
 have a5:∀(w':World),Fr nob w1 w'→∀k,(O k∨k=w.heap.size)→k<w'.heap.size:=fun w' f k hk=>by
  have:=f.size;rcases hk with hk|hk
  ·have:=hO k hk;omega
  ·omega
 have a2:∀(w':World) (S':Nat→Prop),Stp S w1 S' w'→Env w':=fun w' S' st=>hE.on (st.from (hW.trans' f1) hSW);obtain⟨mv,b1⟩:=h1;have H1:=hid b1;have HN:=hid hN;have D:=hid K;have HS:=hid hS;have F1:=hid f1;have HZ:=hid hz;have t:=hid (lt_heap hz);have P:=hid a7;have a6:=hid a5;have b0:=hid a2;unfold ZaC;simp only;clear h b1 hN K hS f1 hz hO hE hW hSW b7 a7 a5 a2;obtain⟨c,hc⟩:∃c,byt l g=c:=⟨_,rfl⟩;rw[hc]at HN⊢;by_cases hd:48≤c.toNat∧c.toNat≤57
 ·rw[if_pos hd];have q1:(48:Int)≤(c.toNat:Int):=by omega
  have q2:(c.toNat:Int)≤57:=by omega
  have HC:=hid (fun w' (f:Fr nob w1 w')=>Zoa b l x ⟨g,m,0⟩ S (fun k=>O k∨k=w.heap.size) w' hl ha (P.out w' f) ⟨mv,H1.out.on f⟩);obtain⟨R,hR⟩:∃R,Zdj l ⟨g,m,0⟩=R:=⟨_,rfl⟩;rw[hR]at HC⊢;clear hR hd hc;go_enter Tryz.func83,Tryz.ntmps83;go_wp2_with(rw[←D.out]);refine HN.out.mono ?_;rintro e w2 ⟨rfl,f2⟩;have B:=hid (Stp.of f2:Stp S w1 S w2);have J:=hid f2;clear f2;go_wp2_with fail;refine(HC.out _ J.out).mono ?_;intro e w3 he;cases R with
  |inl q=>
   obtain⟨z,p⟩:=q;obtain⟨rfl,S',ms,hX,j⟩:=he;have st:=B.out.trans j;clear j;have i:=ZH rfl HS.out HZ.out st;have rz:=Zl i _ (Fr.refl _ _);obtain⟨p1,p2⟩:=Zad F1.out rfl t.out HS.out hX st (.int .i64 0) (.int .i64 0) (.string ⟨#[]⟩) .nilIface;have P1:=hid p1;have P2:=hid p2;have n:=hid (setFour_heap i (.int .i64 0) (.int .i64 0) (.string ⟨#[]⟩) .nilIface);clear hX st i p1 p2;go_wp2;(try simp only[Exit.inBlock,Exit.then]);exact bodyPost_ret (Zo rfl rfl n.out rfl rfl rfl rfl) rfl ⟨rfl,S',_,P1.out,P2.out⟩
  |inr q=>
   obtain⟨a,s'⟩:=q;obtain⟨v,S',rfl,⟨u,rfl,r⟩,hX,j⟩:=he;have st:=B.out.trans j;clear j;have H:=hid (RN.keep (ZS w3 w.heap.size (.int .i64 a.kind) (.int .i64 a.line) (.string ⟨a.text.toArray⟩) u) (fun k _ hk=>.inr (.inr hk)) (fun k _ hx=>hx.elim .inl (fun y=>.inr (.inl y))) _ _ r:RN (SO S' O) _ a.tree u);have i:=ZH rfl HS.out HZ.out st;have rz:=Zl i _ (Fr.refl _ _);obtain⟨p1,p2⟩:=Zad F1.out rfl t.out HS.out hX st (.int .i64 a.kind) (.int .i64 a.line) (.string ⟨a.text.toArray⟩) u;have P1:=hid p1;have P2:=hid p2;have n:=hid (setFour_heap i (.int .i64 a.kind) (.int .i64 a.line) (.string ⟨a.text.toArray⟩) u);clear hX st i p1 p2;rcases r.shape with rfl|⟨iv,yv,rfl⟩
   all_goals
    clear r;go_wp2;(try simp only[Exit.inBlock,Exit.then]);exact bodyPost_ret (Zo rfl rfl n.out rfl rfl rfl rfl) rfl ⟨_,S',rfl,⟨_,rfl,H.out⟩,P1.out,P2.out⟩
 rw[if_neg hd];by_cases C:c=36
 ·subst C;rw[if_pos rfl];rw[show(((36:UInt8).toNat:Nat):Int)=36 from rfl]at HN;have N:g<l.length:=ZaO (by rw[hc];decide);have b3:IntKind.i64.wrap ((g:Int)+1)=g+1:=IntWalk.i64_in _ (by omega);clear hd hc;go_enter Tryz.func83,Tryz.ntmps83;go_wp2_with(rw[←D.out]);refine HN.out.mono ?_;rintro e w2 ⟨rfl,f2⟩;have h2:=H1.out.on f2;have r2:=Zd h2.blk _ (Fr.refl _ _);have h3:=h2.turned 1 (.int .i64 ((g:Int)+1)) ⟨g+1,m,0⟩ (by simp) rfl;have j:=((Stp.of f2).trans (h2.stp 1 (.int .i64 ((g:Int)+1))):Stp S w1 S _);obtain⟨wA,o⟩:∃wA,wA=w2.setCell ⟨b,1,none⟩ (.int .i64 ((g:Int)+1)):=⟨_,rfl⟩;rw[←o]at h3 j;have G:=hid o;have hX:ARd b l x ⟨g+1,m,0⟩ S wA:=⟨mv,h3⟩;have st:=j;have S':=S;clear h2 h3 j o f2;have i:=ZH rfl HS.out HZ.out st;have rz:=Zl i _ (Fr.refl _ _);obtain⟨p1,p2⟩:=Zad F1.out rfl t.out HS.out hX st (.int .i64 2) (.int .i64 0) (.string ⟨#[]⟩) .nilIface
  have P1:=hid p1;have P2:=hid p2;have n:=hid (setFour_heap i (.int .i64 2) (.int .i64 0) (.string ⟨#[]⟩) .nilIface);clear hX st i p1 p2;go_wp2_with(rw[←G.out]);(try simp only[Exit.inBlock,Exit.then]);exact bodyPost_ret (Zo rfl rfl n.out rfl rfl rfl rfl) rfl ⟨_,S,rfl,ZkS.nil 2 0 [],P1.out,P2.out⟩
 rw[if_neg C];by_cases E:c=47
 ·subst E;rw[if_pos rfl];rw[show(((47:UInt8).toNat:Nat):Int)=47 from rfl]at HN;have N:g<l.length:=ZaO (by rw[hc];decide);have b3:IntKind.i64.wrap ((g:Int)+1)=g+1:=IntWalk.i64_in _ (by omega);have HC:=hid (fun w' (hS':∀k,S k→k<w'.heap.size) (hO':∀k,(O k∨k=w.heap.size)→k<w'.heap.size) (hE':Env w') (h:ARd b l x ⟨g+1,m,0⟩ S w')=>Ziu b l 47 x ⟨g+1,m,0⟩ S (fun k=>O k∨k=w.heap.size) w' hl (by show g+1≤_;omega) hm rfl hS' hO' hE' h);obtain⟨R,hR⟩:∃R,ZaE x l 47 ⟨g+1,m,0⟩=R:=⟨_,rfl⟩;rw[hR]at HC⊢;rw[show(((47:UInt8).toNat:Nat):Int)=47 from rfl]at HC;clear hd hc hR C;go_enter Tryz.func83,Tryz.ntmps83;go_wp2_with(rw[←D.out]);refine HN.out.mono ?_;rintro e w2 ⟨rfl,f2⟩;have h2:=H1.out.on f2;have r2:=Zd h2.blk _ (Fr.refl _ _);have h3:=h2.turned 1 (.int .i64 ((g:Int)+1)) ⟨g+1,m,0⟩ (by simp) rfl;have j:=((Stp.of f2).trans (h2.stp 1 (.int .i64 ((g:Int)+1))):Stp S w1 S _)
  obtain⟨wA,o⟩:∃wA,wA=w2.setCell ⟨b,1,none⟩ (.int .i64 ((g:Int)+1)):=⟨_,rfl⟩;rw[←o]at h3 j;have G:=hid o;have B:=hid j;have b9:w2.heap.size=wA.heap.size:=by rw[o];simp[World.setCell]
  have X:=hid (b0.out wA S j);have V:=hid (HC.out wA (fun k hk=>by have:=P.out w2 f2 k hk;omega) (fun k hk=>by have:=a6.out w2 f2 k hk;omega) X.out ⟨mv,h3⟩);clear h2 h3 j o f2 b9;go_wp2_with(rw[←G.out]);refine(V.out).mono ?_;intro e w3 he;cases R with
  |inl q=>
   obtain⟨z,p⟩:=q;obtain⟨rfl,S',ms,hX,j⟩:=he;have st:=B.out.trans j;clear j;have i:=ZH rfl HS.out HZ.out st;have rz:=Zl i _ (Fr.refl _ _);obtain⟨p1,p2⟩:=Zad F1.out rfl t.out HS.out hX st (.int .i64 0) (.int .i64 0) (.string ⟨#[]⟩) .nilIface;have P1:=hid p1;have P2:=hid p2;have n:=hid (setFour_heap i (.int .i64 0) (.int .i64 0) (.string ⟨#[]⟩) .nilIface);clear hX st i p1 p2;go_wp2;(try simp only[Exit.inBlock,Exit.then]);exact bodyPost_ret (Zo rfl rfl n.out rfl rfl rfl rfl) rfl ⟨rfl,S',_,P1.out,P2.out⟩
  |inr q=>
   obtain⟨a,s'⟩:=q;obtain⟨v,S',rfl,⟨u,rfl,r⟩,hX,j⟩:=he;have st:=B.out.trans j;clear j;have H:=hid (RN.keep (ZS w3 w.heap.size (.int .i64 a.kind) (.int .i64 a.line) (.string ⟨a.text.toArray⟩) u) (fun k _ hk=>.inr (.inr hk)) (fun k _ hx=>hx.elim .inl (fun y=>.inr (.inl y))) _ _ r:RN (SO S' O) _ a.tree u);have i:=ZH rfl HS.out HZ.out st;have rz:=Zl i _ (Fr.refl _ _);obtain⟨p1,p2⟩:=Zad F1.out rfl t.out HS.out hX st (.int .i64 a.kind) (.int .i64 a.line) (.string ⟨a.text.toArray⟩) u;have P1:=hid p1;have P2:=hid p2;have n:=hid (setFour_heap i (.int .i64 a.kind) (.int .i64 a.line) (.string ⟨a.text.toArray⟩) u);clear hX st i p1 p2;rcases r.shape with rfl|⟨iv,yv,rfl⟩
   all_goals
    clear r;go_wp2;(try simp only[Exit.inBlock,Exit.then]);exact bodyPost_ret (Zo rfl rfl n.out rfl rfl rfl rfl) rfl ⟨_,S',rfl,⟨_,rfl,H.out⟩,P1.out,P2.out⟩
 rw[if_neg E];by_cases F:c=92
 ·subst F;rw[if_pos rfl];rw[show(((92:UInt8).toNat:Nat):Int)=92 from rfl]at HN;have N:g<l.length:=ZaO (by rw[hc];decide);have b3:IntKind.i64.wrap ((g:Int)+1)=g+1:=IntWalk.i64_in _ (by omega);have c4:IntKind.i64.wrap ((g:Int)+1+1)=g+1+1:=IntWalk.i64_in _ (by omega);obtain⟨d,L⟩:∃d,byt l (g+1)=d:=⟨_,rfl⟩;have a9:=hid (fun w' (h:ARd b l x ⟨g+1,m,0⟩ S w')=>by
   have:=Zt b l x ⟨g+1,m,0⟩ S w' (by omega) h;rw[show(AdS.mk (g+1) m 0).at_=g+1 from rfl,L]at this;exact this)
  rw[L];by_cases A:l.length≤g+1∨d=92∨d=10
  ·rw[if_pos A];have a4:=hid A;clear hd hc C E L A;go_enter Tryz.func83,Tryz.ntmps83;go_wp2_with(rw[←D.out]);refine HN.out.mono ?_;rintro e w2 ⟨rfl,f2⟩;have h2:=H1.out.on f2;have r2:=Zd h2.blk _ (Fr.refl _ _);have h3:=h2.turned 1 (.int .i64 ((g:Int)+1)) ⟨g+1,m,0⟩ (by simp) rfl;have j:=((Stp.of f2).trans (h2.stp 1 (.int .i64 ((g:Int)+1))):Stp S w1 S _);obtain⟨wA,o⟩:∃wA,wA=w2.setCell ⟨b,1,none⟩ (.int .i64 ((g:Int)+1)):=⟨_,rfl⟩;rw[←o]at h3 j;have G:=hid o;have U:=hid (a9.out wA ⟨mv,h3⟩);have H3:=hid h3;have W:=hid j;clear h2 h3 j o f2;go_wp2_with(rw[←G.out]);refine U.out.mono ?_;rintro e w3 ⟨rfl,f3⟩;have h4:=H3.out.on f3;have r4:=Zd h4.blk _ (Fr.refl _ _);have c2:=hid (ZaB b l x _ S 12 g w3 ⟨mv,h4⟩);have b5:=hid (W.out.trans (Stp.of f3));clear h4 f3 r2
   go_upto_region 14 with(fail)
   go_cut [74] (fun v w'=>v=.bool true∧w'=w3)
   case first=>
    by_cases b6:l.length≤g+1
    ·have q1:(l.length:Int)≤(g:Int)+1:=by omega
     go_wp2;go_meet
     case rel=>exact⟨rfl,rfl⟩
    ·have q1:¬(l.length:Int)≤(g:Int)+1:=by omega
     have c3:d=92∨d=10:=a4.out.resolve_left b6;rcases c3 with rfl|rfl
     all_goals
      go_wp2;go_meet
      case rel=>exact⟨rfl,rfl⟩
   case rest=>
   obtain⟨rfl,rfl⟩:=hcut;go_wp2_with fail;refine c2.out.mono ?_;rintro e w4 ⟨rfl,hX,Z⟩;have st:=b5.out.trans Z;clear Z;have i:=ZH rfl HS.out HZ.out st;have rz:=Zl i _ (Fr.refl _ _);obtain⟨p1,p2⟩:=Zad F1.out rfl t.out HS.out hX st (.int .i64 0) (.int .i64 0) (.string ⟨#[]⟩) .nilIface;have P1:=hid p1;have P2:=hid p2;have n:=hid (setFour_heap i (.int .i64 0) (.int .i64 0) (.string ⟨#[]⟩) .nilIface);clear hX st i p1 p2;go_wp2;(try simp only[Exit.inBlock,Exit.then]);exact bodyPost_ret (Zo rfl rfl n.out rfl rfl rfl rfl) rfl ⟨rfl,S,_,P1.out,P2.out⟩
  ·rw[if_neg A];have q1:¬(l.length:Int)≤(g:Int)+1:=by omega
   have q2:((d.toNat:Int)==92)=false:=by
    have:d≠92:=fun h=>A (.inr (.inl h));have:d.toNat≠92:=fun h=>this (UInt8.toNat_inj.1 h);simp;omega
   have q3:((d.toNat:Int)==10)=false:=by
    have:d≠10:=fun h=>A (.inr (.inr h));have:d.toNat≠10:=fun h=>this (UInt8.toNat_inj.1 h);simp;omega
   have HC:=hid (fun w' (hS':∀k,S k→k<w'.heap.size) (hO':∀k,(O k∨k=w.heap.size)→k<w'.heap.size) (hE':Env w') (h:ARd b l x ⟨g+1+1,m,0⟩ S w')=>Ziu b l d x ⟨g+1+1,m,0⟩ S (fun k=>O k∨k=w.heap.size) w' hl (by show g+1+1≤_;omega) hm rfl hS' hO' hE' h);obtain⟨R,hR⟩:∃R,ZaE x l d ⟨g+1+1,m,0⟩=R:=⟨_,rfl⟩;rw[hR]at HC⊢;clear hd hc C E L A hR;go_enter Tryz.func83,Tryz.ntmps83;go_wp2_with(rw[←D.out]);refine HN.out.mono ?_;rintro e w2 ⟨rfl,f2⟩;have h2:=H1.out.on f2;have r2:=Zd h2.blk _ (Fr.refl _ _);have h3:=h2.turned 1 (.int .i64 ((g:Int)+1)) ⟨g+1,m,0⟩ (by simp) rfl;have j:=((Stp.of f2).trans (h2.stp 1 (.int .i64 ((g:Int)+1))):Stp S w1 S _);obtain⟨wA,o⟩:∃wA,wA=w2.setCell ⟨b,1,none⟩ (.int .i64 ((g:Int)+1)):=⟨_,rfl⟩;rw[←o]at h3 j;have G:=hid o;have U:=hid (a9.out wA ⟨mv,h3⟩);have H3:=hid h3;have W:=hid j;have b4:=hid (show w2.heap.size=wA.heap.size by rw[o];simp[World.setCell])
   have J:=hid f2;clear h2 h3 j o f2;go_wp2_with(rw[←G.out]);refine U.out.mono ?_;rintro e a0 ⟨rfl,f3⟩;have h4:=H3.out.on f3;have r4:=Zd h4.blk _ (Fr.refl _ _);have h5:=h4.turned 1 (.int .i64 ((g:Int)+1+1)) ⟨g+1+1,m,0⟩ (by simp) rfl;have M:=(W.out.trans ((Stp.of f3).trans (h4.stp 1 (.int .i64 ((g:Int)+1+1)))):Stp S w1 S _);obtain⟨wB,Q⟩:∃wB,wB=a0.setCell ⟨b,1,none⟩ (.int .i64 ((g:Int)+1+1)):=⟨_,rfl⟩;rw[←Q]at h5 M;have c0:=hid Q;have B:=hid M;have b8:a0.heap.size=wB.heap.size:=by rw[Q];simp[World.setCell]
   have c1:=f3.size;have X:=hid (b0.out wB S M);have V:=hid (HC.out wB (fun k hk=>by have:=P.out w2 J.out k hk;have:=b4.out;omega) (fun k hk=>by have:=a6.out w2 J.out k hk;have:=b4.out;omega) X.out ⟨mv,h5⟩);clear h4 h5 M Q f3 b8 c1 r2;go_wp2_with(rw[←c0.out]);refine(V.out).mono ?_;intro e w3 he;cases R with
   |inl q=>
    obtain⟨z,p⟩:=q;obtain⟨rfl,S',ms,hX,j⟩:=he;have st:=B.out.trans j;clear j;have i:=ZH rfl HS.out HZ.out st;have rz:=Zl i _ (Fr.refl _ _);obtain⟨p1,p2⟩:=Zad F1.out rfl t.out HS.out hX st (.int .i64 0) (.int .i64 0) (.string ⟨#[]⟩) .nilIface;have P1:=hid p1;have P2:=hid p2;have n:=hid (setFour_heap i (.int .i64 0) (.int .i64 0) (.string ⟨#[]⟩) .nilIface);clear hX st i p1 p2;go_wp2;(try simp only[Exit.inBlock,Exit.then]);exact bodyPost_ret (Zo rfl rfl n.out rfl rfl rfl rfl) rfl ⟨rfl,S',_,P1.out,P2.out⟩
   |inr q=>
    obtain⟨a,s'⟩:=q;obtain⟨v,S',rfl,⟨u,rfl,r⟩,hX,j⟩:=he;have st:=B.out.trans j;clear j;have H:=hid (RN.keep (ZS w3 w.heap.size (.int .i64 a.kind) (.int .i64 a.line) (.string ⟨a.text.toArray⟩) u) (fun k _ hk=>.inr (.inr hk)) (fun k _ hx=>hx.elim .inl (fun y=>.inr (.inl y))) _ _ r:RN (SO S' O) _ a.tree u);have i:=ZH rfl HS.out HZ.out st;have rz:=Zl i _ (Fr.refl _ _);obtain⟨p1,p2⟩:=Zad F1.out rfl t.out HS.out hX st (.int .i64 a.kind) (.int .i64 a.line) (.string ⟨a.text.toArray⟩) u;have P1:=hid p1;have P2:=hid p2;have n:=hid (setFour_heap i (.int .i64 a.kind) (.int .i64 a.line) (.string ⟨a.text.toArray⟩) u);clear hX st i p1 p2;rcases r.shape with rfl|⟨iv,yv,rfl⟩
    all_goals
     clear r;go_wp2;(try simp only[Exit.inBlock,Exit.then]);exact bodyPost_ret (Zo rfl rfl n.out rfl rfl rfl rfl) rfl ⟨_,S',rfl,⟨_,rfl,H.out⟩,P1.out,P2.out⟩
 rw[if_neg F];have Y:((c.toNat:Int)==36)=false:=by
  have:c.toNat≠36:=fun h=>C (UInt8.toNat_inj.1 h);simp;omega
 have b2:((c.toNat:Int)==47)=false:=by
  have:c.toNat≠47:=fun h=>E (UInt8.toNat_inj.1 h);simp;omega
 have a3:((c.toNat:Int)==92)=false:=by
  have:c.toNat≠92:=fun h=>F (UInt8.toNat_inj.1 h);simp;omega
 by_cases I:c=43∧second=true
 ·obtain⟨rfl,rfl⟩:=I;rw[if_pos ⟨rfl,rfl⟩];rw[show(((43:UInt8).toNat:Nat):Int)=43 from rfl]at HN;have N:g<l.length:=ZaO (by rw[hc];decide);have HC:=hid (fun w' (f:Fr nob w1 w')=>Zob b l x ⟨g,m,0⟩ S (fun k=>O k∨k=w.heap.size) w' hl N (by show m.length≤_;omega) (P.out w' f) ⟨mv,H1.out.on f⟩);obtain⟨R,hR⟩:∃R,Zdk l ⟨g,m,0⟩=R:=⟨_,rfl⟩;rw[hR]at HC⊢;clear hd hc hR C E F Y b2 a3;go_enter Tryz.func83,Tryz.ntmps83;go_wp2_with(rw[←D.out]);refine HN.out.mono ?_;rintro e w2 ⟨rfl,f2⟩;have B:=hid (Stp.of f2:Stp S w1 S w2);have J:=hid f2;clear f2;go_wp2_with fail;refine(HC.out _ J.out).mono ?_;intro e w3 he;cases R with
  |inl q=>
   obtain⟨z,p⟩:=q;obtain⟨rfl,S',ms,hX,j⟩:=he;have st:=B.out.trans j;clear j;have i:=ZH rfl HS.out HZ.out st;have rz:=Zl i _ (Fr.refl _ _);obtain⟨p1,p2⟩:=Zad F1.out rfl t.out HS.out hX st (.int .i64 0) (.int .i64 0) (.string ⟨#[]⟩) .nilIface;have P1:=hid p1;have P2:=hid p2;have n:=hid (setFour_heap i (.int .i64 0) (.int .i64 0) (.string ⟨#[]⟩) .nilIface);clear hX st i p1 p2;go_wp2;(try simp only[Exit.inBlock,Exit.then]);exact bodyPost_ret (Zo rfl rfl n.out rfl rfl rfl rfl) rfl ⟨rfl,S',_,P1.out,P2.out⟩
  |inr q=>
   obtain⟨a,s'⟩:=q;obtain⟨v,S',rfl,⟨u,rfl,r⟩,hX,j⟩:=he;have st:=B.out.trans j;clear j;have H:=hid (RN.keep (ZS w3 w.heap.size (.int .i64 a.kind) (.int .i64 a.line) (.string ⟨a.text.toArray⟩) u) (fun k _ hk=>.inr (.inr hk)) (fun k _ hx=>hx.elim .inl (fun y=>.inr (.inl y))) _ _ r:RN (SO S' O) _ a.tree u);have i:=ZH rfl HS.out HZ.out st;have rz:=Zl i _ (Fr.refl _ _);obtain⟨p1,p2⟩:=Zad F1.out rfl t.out HS.out hX st (.int .i64 a.kind) (.int .i64 a.line) (.string ⟨a.text.toArray⟩) u;have P1:=hid p1;have P2:=hid p2;have n:=hid (setFour_heap i (.int .i64 a.kind) (.int .i64 a.line) (.string ⟨a.text.toArray⟩) u);clear hX st i p1 p2;rcases r.shape with rfl|⟨iv,yv,rfl⟩
   all_goals
    clear r;go_wp2;(try simp only[Exit.inBlock,Exit.then]);exact bodyPost_ret (Zo rfl rfl n.out rfl rfl rfl rfl) rfl ⟨_,S',rfl,⟨_,rfl,H.out⟩,P1.out,P2.out⟩
 rw[if_neg I];by_cases hp:c=43
 ·have a1:second=false:=by cases second with|false=>rfl|true=>exact absurd ⟨hp,rfl⟩ I
  subst a1;subst hp;rw[show(((43:UInt8).toNat:Nat):Int)=43 from rfl]at HN;clear hd hc C E F I Y b2 a3;go_enter Tryz.func83,Tryz.ntmps83;go_wp2_with(rw[←D.out]);refine HN.out.mono ?_;rintro e w2 ⟨rfl,f2⟩;have hX:ARd b l x ⟨g,m,0⟩ S w2:=⟨mv,H1.out.on f2⟩;have st:=(Stp.of f2:Stp S w1 S w2);clear f2;have i:=ZH rfl HS.out HZ.out st;have rz:=Zl i _ (Fr.refl _ _);obtain⟨p1,p2⟩:=Zad F1.out rfl t.out HS.out hX st (.int .i64 0) (.int .i64 0) (.string ⟨#[]⟩) .nilIface;have P1:=hid p1;have P2:=hid p2;have n:=hid (setFour_heap i (.int .i64 0) (.int .i64 0) (.string ⟨#[]⟩) .nilIface);clear hX st i p1 p2;go_wp2;(try simp only[Exit.inBlock,Exit.then]);exact bodyPost_ret (Zo rfl rfl n.out rfl rfl rfl rfl) rfl ⟨_,S,rfl,ZkS.nil 0 0 [],P1.out,P2.out⟩
 have c5:((c.toNat:Int)==43)=false:=by
  have:c.toNat≠43:=fun h=>hp (UInt8.toNat_inj.1 h);simp;omega
 by_cases a8:48≤c.toNat
 ·have q1:(48:Int)≤(c.toNat:Int):=by omega
  have q2:¬(c.toNat:Int)≤57:=by omega
  clear hd hc C E F I hp a8;go_enter Tryz.func83,Tryz.ntmps83;go_wp2_with(rw[←D.out]);refine HN.out.mono ?_;rintro e w2 ⟨rfl,f2⟩;have hX:ARd b l x ⟨g,m,0⟩ S w2:=⟨mv,H1.out.on f2⟩;have st:=(Stp.of f2:Stp S w1 S w2);clear f2;have i:=ZH rfl HS.out HZ.out st;have rz:=Zl i _ (Fr.refl _ _);obtain⟨p1,p2⟩:=Zad F1.out rfl t.out HS.out hX st (.int .i64 0) (.int .i64 0) (.string ⟨#[]⟩) .nilIface;have P1:=hid p1;have P2:=hid p2;have n:=hid (setFour_heap i (.int .i64 0) (.int .i64 0) (.string ⟨#[]⟩) .nilIface);clear hX st i p1 p2;go_wp2;(try simp only[Exit.inBlock,Exit.then]);exact bodyPost_ret (Zo rfl rfl n.out rfl rfl rfl rfl) rfl ⟨_,S,rfl,ZkS.nil 0 0 [],P1.out,P2.out⟩
 ·have q1:¬(48:Int)≤(c.toNat:Int):=by omega
  clear hd hc C E F I hp a8;go_enter Tryz.func83,Tryz.ntmps83;go_wp2_with(rw[←D.out]);refine HN.out.mono ?_;rintro e w2 ⟨rfl,f2⟩;have hX:ARd b l x ⟨g,m,0⟩ S w2:=⟨mv,H1.out.on f2⟩;have st:=(Stp.of f2:Stp S w1 S w2);clear f2;have i:=ZH rfl HS.out HZ.out st;have rz:=Zl i _ (Fr.refl _ _);obtain⟨p1,p2⟩:=Zad F1.out rfl t.out HS.out hX st (.int .i64 0) (.int .i64 0) (.string ⟨#[]⟩) .nilIface;have P1:=hid p1;have P2:=hid p2;have n:=hid (setFour_heap i (.int .i64 0) (.int .i64 0) (.string ⟨#[]⟩) .nilIface);clear hX st i p1 p2;go_wp2;(try simp only[Exit.inBlock,Exit.then]);exact bodyPost_ret (Zo rfl rfl n.out rfl rfl rfl rfl) rfl ⟨_,S,rfl,ZkS.nil 0 0 [],P1.out,P2.out⟩
structure GV where
 a:AV
 b:AV
 no:Bool
abbrev ZpG:=(Int×Nat)⊕(GV×AdS)
def Zbc(x:Bool)(l:List UInt8)(s:AdS):ZlK:=
 if byt l (bhd l [32,9] s.at_)=44 then
  (match ZaC x l true ⟨bhd l [32,9] (bhd l [32,9] s.at_+1),s.marks,0⟩with
  | .inl e=>.inl e
  | .inr (a,s')=>if a.kind=0 then .inl (12,s'.at_)else .inr (a,s'))
 else .inr (AV.zero,⟨bhd l [32,9] s.at_,s.marks,0⟩)
def ZgT(l:List UInt8)(a b:AV)(s:AdS):ZpG:=
 if byt l (bhd l [32,9] s.at_)=33 then
  (if byt l (bhd l [32,9] (bhd l [32,9] s.at_+1))=33 then .inl (15,bhd l [32,9] (bhd l [32,9] s.at_+1))
  else .inr (⟨a,b,true⟩,⟨bhd l [32,9] (bhd l [32,9] s.at_+1),s.marks,0⟩))
 else .inr (⟨a,b,false⟩,⟨bhd l [32,9] s.at_,s.marks,0⟩)
def ZX(x:Bool)(l:List UInt8)(s:AdS):ZpG:=
 match ZaC x l false s with
 | .inl e=>.inl e
 | .inr (a,s1)=>
   match(if a.kind=0 then .inr (AV.zero,s1)else Zbc x l s1:ZlK)with
   | .inl e=>.inl e
   | .inr (b,s2)=>ZgT l a b s2
theorem ZkV(at_:Nat):∀(r:List UInt8) (n c:Nat),(nm at_ r n c).2.1≤at_+c+r.length
 |[],n,c=>by rw[nm];split<;>simp
 |b::r,n,c=>by
  have ih:=ZkV at_ r (n*10+(b.toNat-48)) (c+1);rw[nm];split
  ·split
   ·simp;omega
   ·simp only[List.length_cons];omega
  ·split<;>simp<;>omega
theorem bt_in(l:List UInt8)(d:UInt8)(rx:Bool):∀(n k:Nat) (out:List UInt8),(bt l d rx n k out).2.2=0→(bt l d rx n k out).2.1≤l.length
 |0,k,out=>by simp[bt]
 |n+1,k,out=>by
  rw[bt];cases hc:l[k]? with
  |none=>simp
  |some c=>
   have hk:=(List.getElem?_eq_some_iff.1 hc).1;simp only;split
   ·intro _;exact hk
   ·split
    ·split
     ·exact bt_in l d rx n _ _
     ·next h=>intro h';exact absurd h' h
    ·generalize(if c=91∧rx=true then brE l k-k else 1)=m;split
     ·exact bt_in l d rx n _ _
     ·intro h;cases h
theorem bhd_le(l cs:List UInt8)(k:Nat):bhd l cs k≤l.length:=Nat.sub_le _ _
theorem ZkW{l:List UInt8}{s:AdS}{z:Int×Nat}(h:Zdj l s=.inl z):z.1≠0:=by
 unfold Zdj at h;split at h
 ·next h0=>injection h with h;subst h;exact h0
 ·split at h
  ·injection h with h;subst h;intro e;cases e
  ·cases h
theorem moreD_err{l:List UInt8}{s:AdS}{z:Int×Nat}(h:Zdk l s=.inl z):z.1≠0:=by
 unfold Zdk at h;split at h
 ·next h0=>injection h with h;subst h;exact h0
 ·cases h
theorem regexD_err{x:Bool}{l:List UInt8}{d:UInt8}{s:AdS}{z:Int×Nat}(h:ZaE x l d s=.inl z):z.1≠0:=by
 unfold ZaE at h;split at h
 ·next h0=>injection h with h;subst h;exact h0
 ·split at h
  ·injection h with h;subst h;intro e;cases e
  ·split at h
   ·next y hp=>injection h with h;subst h;show y.1≠0;exact parseD_err hp
   ·cases h
theorem addrD_err{x:Bool}{l:List UInt8}{sec:Bool}{s:AdS}{z:Int×Nat}(h:ZaC x l sec s=.inl z):z.1≠0:=by
 unfold ZaC at h;split at h
 ·exact ZkW h
 ·split at h
  ·cases h
  ·split at h
   ·exact regexD_err h
   ·split at h
    ·split at h
     ·injection h with h;subst h;intro e;cases e
     ·exact regexD_err h
    ·split at h
     ·exact moreD_err h
     ·cases h
structure Fwd(l:List UInt8)(s s':AdS):Prop where
 le:s'.at_≤l.length
 mks:s'.marks.length≤s.marks.length+l.length+1
 ok:s'.e=0
theorem Zmz{l:List UInt8}{s s':AdS}{a:AV}(hs:s.at_≤l.length)(h:Zdj l s=.inr (a,s')):Fwd l s s':=by
 unfold Zdj at h;split at h
 ·cases h
 ·split at h
  ·cases h
  ·injection h with h;injection h with h1 h2;subst h2;have:=ZkV s.at_ (l.drop s.at_) 0 0;rw[List.length_drop]at this;exact⟨by show(nm s.at_ (l.drop s.at_) 0 0).2.1≤_;omega,by show s.marks.length≤_;omega,rfl⟩
theorem ZmA{l:List UInt8}{s s':AdS}{a:AV}(hs:s.at_+1≤l.length)(h:Zdk l s=.inr (a,s')):Fwd l s s':=by
 unfold Zdk at h;split at h
 ·cases h
 ·injection h with h;injection h with h1 h2;subst h2;have:=ZkV (s.at_+1) (l.drop (s.at_+1)) 0 0;rw[List.length_drop]at this;exact⟨by show(nm (s.at_+1) (l.drop (s.at_+1)) 0 0).2.1≤_;omega,by show(s.marks++_).length≤_;rw[List.length_append];simp,rfl⟩
theorem Zgk{x:Bool}{l:List UInt8}{d:UInt8}{s s':AdS}{a:AV}(h:ZaE x l d s=.inr (a,s')):Fwd l s s':=by
 unfold ZaE at h;split at h
 ·cases h
 ·next h0=>
  split at h
  ·cases h
  ·split at h
   ·cases h
   ·next t r hp=>
    injection h with h;injection h with h1 h2;subst h2;have h0:(bt l d true (l.length+1) s.at_ []).2.2=0:=by simpa using h0
    have h1:=bt_in l d true (l.length+1) s.at_ [] h0;have h2:=ZdC l d true (l.length+1) s.at_ [];have h3:=(parseD_marks hp).2.1;simp only[List.length_nil,Nat.zero_add]at h2;exact⟨h1,by show(s.marks++_).length≤_;rw[List.length_append,List.length_map];omega,rfl⟩
theorem Zam{x:Bool}{l:List UInt8}{sec:Bool}{s s':AdS}{a:AV}(hs:s.at_≤l.length)(hs0:s.e=0)(h:ZaC x l sec s=.inr (a,s')):Fwd l s s':=by
 unfold ZaC at h;split at h
 ·exact Zmz hs h
 ·split at h
  ·next hc=>
   injection h with h;injection h with h1 h2;subst h2;have:=ZaO (l:=l) (k:=s.at_) (by rw[hc];decide);exact⟨this,by show s.marks.length≤_;omega,rfl⟩
  ·split at h
   ·have:=Zgk h;exact⟨this.le,this.mks,this.ok⟩
   ·split at h
    ·split at h
     ·cases h
     ·have:=Zgk h;exact⟨this.le,this.mks,this.ok⟩
    ·split at h
     ·next hc=>
      have:=ZaO (l:=l) (k:=s.at_) (by rw[hc.1];decide);exact ZmA this h
     ·injection h with h;injection h with h1 h2;subst h2;exact⟨hs,by omega,hs0⟩
theorem pairD_err{x:Bool}{l:List UInt8}{s:AdS}{z:Int×Nat}(h:Zbc x l s=.inl z):z.1≠0:=by
 unfold Zbc at h;split at h
 ·split at h
  ·next y hp=>injection h with h;subst h;exact addrD_err hp
  ·split at h
   ·injection h with h;subst h;intro e;cases e
   ·cases h
 ·cases h
theorem pairD_in{x:Bool}{l:List UInt8}{s s':AdS}{a:AV}(h:Zbc x l s=.inr (a,s')):Fwd l s s':=by
 unfold Zbc at h;split at h
 ·split at h
  ·cases h
  ·next b s1 hp=>
   split at h
   ·cases h
   ·injection h with h;injection h with h1 h2;subst h2;have:=Zam (bhd_le _ _ _) rfl hp;exact⟨this.le,this.mks,this.ok⟩
 ·injection h with h;injection h with h1 h2;subst h2;exact⟨bhd_le _ _ _,by show s.marks.length≤_;omega,rfl⟩
abbrev zG:Array Value:= #[.int .i64 0,.int .i64 0,.string ⟨#[]⟩,.nilIface,.int .i64 0,.int .i64 0,.string ⟨#[]⟩,.nilIface,.bool false]
abbrev Zqb(w:World)(g:Nat)(v0 v1 v2 v3:Value):World:=(((w.setCell ⟨g,4,none⟩ v0).setCell ⟨g,5,none⟩ v1).setCell ⟨g,6,none⟩ v2).setCell ⟨g,7,none⟩ v3
theorem Zgl{w:World}{g:Nat}{a0 a1 a2 a3 a4 a5 a6 a7 a8:Value}{T:TypeId}{fr:Nat×Nat}(h:w.heap[g]? =some (.cells #[a0,a1,a2,a3,a4,a5,a6,a7,a8] T fr))(v0 v1 v2 v3:Value):
 (Zqb w g v0 v1 v2 v3).heap[g]? =some (.cells #[a0,a1,a2,a3,v0,v1,v2,v3,a8] T fr):=by
 have h0:=Za h 4 v0;have h1:=Za h0 5 v1;have h2:=Za h1 6 v2;have h3:=Za h2 7 v3;simpa using h3
theorem ZdM(w:World)(g:Nat)(v0 v1 v2 v3:Value):Fr (fun k=>k=g) w (Zqb w g v0 v1 v2 v3):=by
 have h:∀(x:World) (j:Nat) (v:Value),Fr (fun k=>k=g) w x→Fr (fun k=>k=g) w (x.setCell ⟨g,j,none⟩ v):=fun x j v hx=>hx.setCell (p:=⟨g,j,none⟩) (fun _=>rfl) v;exact h _ _ _ (h _ _ _ (h _ _ _ (h _ _ _ (Fr.refl _ _))))
theorem Zk{w:World}{b:Nat}{v0 v1 v2 v3 v4 v5 v6 v7 v8:Value}{T:TypeId}(h:w.heap[b]? =some (.cells #[v0,v1,v2,v3,v4,v5,v6,v7,v8] T (0,0))):∀w',Fr nob w w'→
 (w'.cell? ⟨b,0,none⟩=some v0∧w'.cell? ⟨b,1,none⟩=some v1∧w'.cell? ⟨b,2,none⟩=some v2∧w'.cell? ⟨b,3,none⟩=some v3∧w'.cell? ⟨b,4,none⟩=some v4∧w'.cell? ⟨b,5,none⟩=some v5∧w'.cell? ⟨b,6,none⟩=some v6∧w'.cell? ⟨b,7,none⟩=some v7∧w'.cell? ⟨b,8,none⟩=some v8)∧
 (w'.frozen? ⟨b,0,none⟩=false∧w'.frozen? ⟨b,1,none⟩=false∧w'.frozen? ⟨b,2,none⟩=false∧w'.frozen? ⟨b,3,none⟩=false∧w'.frozen? ⟨b,4,none⟩=false∧w'.frozen? ⟨b,5,none⟩=false∧w'.frozen? ⟨b,6,none⟩=false∧w'.frozen? ⟨b,7,none⟩=false∧w'.frozen? ⟨b,8,none⟩=false):=fun _ f=>by
 have h':=f.heap h (fun x=>x);exact⟨⟨cell_at h' rfl,cell_at h' rfl,cell_at h' rfl,cell_at h' rfl,cell_at h' rfl,cell_at h' rfl,cell_at h' rfl,cell_at h' rfl,cell_at h' rfl⟩,unfrozen_at h' _,unfrozen_at h' _,unfrozen_at h' _,unfrozen_at h' _,unfrozen_at h' _,unfrozen_at h' _,unfrozen_at h' _,unfrozen_at h' _,unfrozen_at h' _⟩
def GS(S:Nat→Prop)(g:Nat):Nat→Prop:=fun k=>S k∨k=g
section
variable {S S':Nat→Prop} {g:Nat} {w w' wX:World}
theorem Stp.gs(h:Stp S w S' w')(hg:g<w.heap.size):Stp (GS S g) w (GS S' g) w':=
 ⟨h.fr.mono (fun _ _ x=>.inl x),fun k hk hx=>hx.elim (fun y=>.inl (h.old k hk y)) .inr,fun hl k hx=>by
  rcases hx with hx|hx
  ·exact h.lt (fun j hj=>hl j (.inl hj)) k hx
  ·subst hx;exact Nat.lt_of_lt_of_le hg h.fr.size⟩
theorem Stp.gset(h:Stp (GS S g) w (GS S' g) wX)(v0 v1 v2 v3:Value):Stp (GS S g) w (GS S' g) (Zqb wX g v0 v1 v2 v3):=
 ⟨h.fr.trans (ZdM wX g v0 v1 v2 v3) (fun k hk hx=>by have hx:k=g:=hx;exact .inr hx),h.old,fun hl k hk=>by have:=h.lt hl k hk;simpa[World.setCell]using this⟩
theorem ARd.gset{b:Nat}{l:List UInt8}{x:Bool}{s:AdS}(h:ARd b l x s S w)(hg:¬S g)(v0 v1 v2 v3:Value):ARd b l x s S (Zqb w g v0 v1 v2 v3):=by
 obtain⟨mv,h⟩:=h;exact⟨mv,h.keep (ZdM w g v0 v1 v2 v3) (fun e=>hg (e▸h.me)) (fun k hk e=>hg (e▸(h.nm k hk).2))⟩
end
def Zoc(b:Nat)(l:List UInt8)(x:Bool)(S O:Nat→Prop)(g:Nat)(k0 n0:Int)(t0:List UInt8)(u0:Value)(w:World)(R:ZlK)(r:Ending)(w':World):Prop:=r=.returned (.tuple #[])∧match R with
 | .inl (z,p)=>∃S' ms,ARd b l x ⟨p,ms,z⟩ S' w'∧¬S' g∧Stp (GS S g) w (GS S' g) w'
 | .inr (a,s')=>∃S' u,ARd b l x s' S' w'∧¬S' g∧Stp (GS S g) w (GS S' g) w'∧
   w'.heap[g]? =some (.cells #[.int .i64 k0,.int .i64 n0,.string ⟨t0.toArray⟩,u0,.int .i64 a.kind,.int .i64 a.line,.string ⟨a.text.toArray⟩,u,.bool false] 30 (0,0))∧RN (SO S' (GS O g)) w' a.tree u
theorem Zfo(b:Nat)(l:List UInt8)(x:Bool)(s:AdS)(S O:Nat→Prop)(g:Nat)(k0 n0:Int)(t0:List UInt8)(u0:Value)(w:World)(hl:l.length≤100000)(ha:s.at_≤l.length)(hm:s.marks.length≤100000)(hs0:s.e=0)(hS:∀k,S k→k<w.heap.size)(hO:∀k,O k→k<w.heap.size)(W0:World)(hE:Env W0)(hW:Fr nob W0 w)(hSW:∀k,S k→W0.heap.size≤k)(h:ARd b l x s S w)
 (hgS:¬S g) (hg:w.heap[g]? =some (.cells #[.int .i64 k0,.int .i64 n0,.string ⟨t0.toArray⟩,u0,.int .i64 0,.int .i64 0,.string ⟨#[]⟩,.nilIface,.bool false] 30 (0,0))):
 Calls Tryz.prog 84 #[.pointer (some ⟨b,0,none⟩),.pointer (some ⟨g,0,none⟩)] w (Zoc b l x S O g k0 n0 t0 u0 w (Zbc x l s)):=by
 obtain⟨a7,i,e0⟩:=s;obtain rfl:e0=0:=hs0;have ha:a7≤l.length:=ha;have hm:i.length≤100000:=hm;have K:=lt_heap hg;have HB:=hid (Zi b l x ⟨a7,i,0⟩ S w hl ha h);unfold Zbc;simp only at HB⊢;obtain⟨p1,b0⟩:∃p1,bhd l [32,9] a7=p1:=⟨_,rfl⟩;have c0:p1≤l.length:=by rw[←b0];exact bhd_le _ _ _
 rw[b0]at HB⊢;have HG:=hid hg;have W:=hid hgS;have v:=hid K;have HS:=hid hS;have HO:=hid hO;have HE:=hid hE;have HW:=hid hW;have a0:=hid hSW;have a6:=hid (fun(S':Nat→Prop) w' (st:Stp S w S' w')=>show¬S' g from fun hx=>hgS (st.old g K hx));have E:=hid (fun w' (h:ARd b l x ⟨p1,i,0⟩ S w')=>Zt b l x ⟨p1,i,0⟩ S w' (by omega) h);clear h b0 hg hgS K hS hO hE hW hSW;obtain⟨c,hc⟩:∃c,byt l p1=c:=⟨_,rfl⟩;simp only at E;rw[hc]at E⊢;by_cases X:c=44
 ·subst X;rw[if_pos rfl];rw[show(((44:UInt8).toNat:Nat):Int)=44 from rfl]at E;have c4:p1<l.length:=ZaO (by rw[hc];decide);have c5:IntKind.i64.wrap ((p1:Int)+1)=p1+1:=IntWalk.i64_in _ (by omega);have L:=hid (fun w' (h:ARd b l x ⟨p1+1,i,0⟩ S w')=>Zi b l x ⟨p1+1,i,0⟩ S w' hl (by show p1+1≤_;omega) h);simp only at L;obtain⟨p2,a5⟩:∃p2,bhd l [32,9] (p1+1)=p2:=⟨_,rfl⟩;have a2:p2≤l.length:=by rw[←a5];exact bhd_le _ _ _
  rw[a5]at L⊢;have Y:=hid (fun w' (hS':∀k,S k→k<w'.heap.size) (hO':∀k,GS O g k→k<w'.heap.size) (hW':Fr nob W0 w') (h:ARd b l x ⟨p2,i,0⟩ S w')=>Zal b l x true ⟨p2,i,0⟩ S (GS O g) w' hl a2 hm rfl hS' hO' W0 HE.out hW' a0.out h);obtain⟨R,hR⟩:∃R,ZaC x l true ⟨p2,i,0⟩=R:=⟨_,rfl⟩;rw[hR]at Y⊢;have a9:∀a s',R=.inr (a,s')→s'.e=0∧s'.at_≤l.length:=fun a s' e=>by
   have:=Zam (s:=⟨p2,i,0⟩) a2 rfl (hR.trans e);exact⟨this.ok,this.le⟩
  have a3:∀z p,R=.inl (z,p)→z≠0:=fun z p e=>addrD_err (hR.trans e);clear hc a5 hR;cases R with
  |inl q=>
   obtain⟨z,p⟩:=q;have hz:¬z=0:=a3 z p rfl;have c1:(z==0)=false:=by simpa using hz
   clear a3 a9;simp only;go_enter Tryz.func84,Tryz.ntmps84;go_wp2_with fail;refine HB.out.mono ?_;rintro e w1 ⟨rfl,h1,n⟩;have F:=hid (E.out w1 h1);have H1:=hid h1;have D:=hid n;clear h1 n;go_wp2_with fail;refine F.out.mono ?_;rintro e w2 ⟨rfl,f2⟩;obtain⟨mv,h2⟩:=H1.out.on f2;have r2:=Zd h2.blk _ (Fr.refl _ _);have h3:=h2.turned 1 (.int .i64 ((p1:Int)+1)) ⟨p1+1,i,0⟩ (by simp) rfl;have o:=(D.out.trans (Stp.of f2)).trans (h2.stp 1 (.int .i64 ((p1:Int)+1)));obtain⟨wA,r⟩:∃wA,wA=w2.setCell ⟨b,1,none⟩ (.int .i64 ((p1:Int)+1)):=⟨_,rfl⟩;rw[←r]at h3 o;have J:=hid r;have P:=hid (L.out wA ⟨mv,h3⟩);have Q:=hid o;clear h2 h3 o r f2;go_wp2_with(rw[←J.out]);refine P.out.mono ?_;rintro e w4 ⟨rfl,h4,u⟩;have st:=Q.out.trans u;have N:=st.fr.size;have C:=hid (Y.out w4 (fun k hk=>by have:=HS.out k hk;omega) (fun k hk=>by rcases hk with hk|hk;have:=HO.out k hk;omega;have:=v.out;omega) (st.from HW.out a0.out) h4)
   have ST:=hid st;clear h4 u st N r2;go_wp2_with fail;refine C.out.mono ?_;intro e w5 he;obtain⟨rfl,S',ms,h5,y⟩:=he;have st:=ST.out.trans y;have m:=a6.out S' w5 st;have t:=st.fr.heap HG.out W.out;have rg:=Zk t _ (Fr.refl _ _);have h6:=h5.gset m (.int .i64 0) (.int .i64 0) (.string ⟨#[]⟩) .nilIface;have f:=(st.gs v.out).gset (.int .i64 0) (.int .i64 0) (.string ⟨#[]⟩) .nilIface;obtain⟨w6,d⟩:∃w6,w6=(((w5.setCell ⟨g,4,none⟩ (.int .i64 0)).setCell ⟨g,5,none⟩ (.int .i64 0)).setCell ⟨g,6,none⟩ (.string ⟨#[]⟩)).setCell ⟨g,7,none⟩ .nilIface:=⟨_,rfl⟩;have h6:ARd b l x ⟨p,ms,z⟩ S' w6:=by rw[d];exact h6
   have f:Stp (GS S g) w (GS S' g) w6:=by rw[d];exact f
   obtain⟨U,j⟩:=h6;have r6:=Zd j.blk _ (Fr.refl _ _);have V:=hid d;have H6:=hid j;have I:=hid f;have M:=hid m;clear y st h5 j f d t m;go_wp2_with(rw[←V.out])
   go_end0
   exact⟨rfl,S',ms,⟨U,H6.out⟩,M.out,I.out⟩
  |inr q=>
   obtain⟨A,s'⟩:=q;obtain⟨Z,a8,e1⟩:=s';obtain⟨b6,a1⟩:=a9 A _ rfl;obtain rfl:e1=0:=b6;have a1:Z≤l.length:=a1;clear a3 a9;simp only;by_cases hk:A.kind=0
   ·rw[if_pos hk];have HK:=hid hk;clear hk;go_enter Tryz.func84,Tryz.ntmps84;go_wp2_with fail;refine HB.out.mono ?_;rintro e w1 ⟨rfl,h1,n⟩;have F:=hid (E.out w1 h1);have H1:=hid h1;have D:=hid n;clear h1 n;go_wp2_with fail;refine F.out.mono ?_;rintro e w2 ⟨rfl,f2⟩;obtain⟨mv,h2⟩:=H1.out.on f2;have r2:=Zd h2.blk _ (Fr.refl _ _);have h3:=h2.turned 1 (.int .i64 ((p1:Int)+1)) ⟨p1+1,i,0⟩ (by simp) rfl;have o:=(D.out.trans (Stp.of f2)).trans (h2.stp 1 (.int .i64 ((p1:Int)+1)));obtain⟨wA,r⟩:∃wA,wA=w2.setCell ⟨b,1,none⟩ (.int .i64 ((p1:Int)+1)):=⟨_,rfl⟩;rw[←r]at h3 o;have J:=hid r;have P:=hid (L.out wA ⟨mv,h3⟩);have Q:=hid o;clear h2 h3 o r f2;go_wp2_with(rw[←J.out]);refine P.out.mono ?_;rintro e w4 ⟨rfl,h4,u⟩;have st:=Q.out.trans u;have N:=st.fr.size;have C:=hid (Y.out w4 (fun k hk=>by have:=HS.out k hk;omega) (fun k hk=>by rcases hk with hk|hk;have:=HO.out k hk;omega;have:=v.out;omega) (st.from HW.out a0.out) h4)
    have ST:=hid st;clear h4 u st N r2;go_wp2_with fail;refine C.out.mono ?_;intro e w5 he;obtain⟨v5,S',rfl,⟨u5,rfl,G⟩,h5,y⟩:=he;have st:=ST.out.trans y;have m:=a6.out S' w5 st;have t:=st.fr.heap HG.out W.out;have rg:=Zk t _ (Fr.refl _ _);have h6:=h5.gset m (.int .i64 A.kind) (.int .i64 A.line) (.string ⟨A.text.toArray⟩) u5;have f:=(st.gs v.out).gset (.int .i64 A.kind) (.int .i64 A.line) (.string ⟨A.text.toArray⟩) u5;obtain⟨w6,d⟩:∃w6,w6=(((w5.setCell ⟨g,4,none⟩ (.int .i64 A.kind)).setCell ⟨g,5,none⟩ (.int .i64 A.line)).setCell ⟨g,6,none⟩ (.string ⟨A.text.toArray⟩)).setCell ⟨g,7,none⟩ u5:=⟨_,rfl⟩;have h6:ARd b l x ⟨Z,a8,0⟩ S' w6:=by rw[d];exact h6
    have f:Stp (GS S g) w (GS S' g) w6:=by rw[d];exact f
    have H:w6.heap[g]? =some (.cells #[.int .i64 k0,.int .i64 n0,.string ⟨t0.toArray⟩,u0,.int .i64 A.kind,.int .i64 A.line,.string ⟨A.text.toArray⟩,u5,.bool false] 30 (0,0)):=by rw[d];exact Zgl t (.int .i64 A.kind) (.int .i64 A.line) (.string ⟨A.text.toArray⟩) u5
    have B:RN (SO S' (GS O g)) w6 A.tree u5:=by rw[d];exact RN.keep (ZdM w5 g _ _ _ _) (fun k _ hk=>.inr (.inr hk)) (fun k _ hx=>hx) _ _ G
    obtain⟨U,j⟩:=h6;have r6:=Zd j.blk _ (Fr.refl _ _);have b2:=Zk H _ (Fr.refl _ _);have V:=hid d;have H6:=hid j;have I:=hid f;have M:=hid m;have b8:=hid H;have b1:=hid B;rw[HK.out]at b2;have b9:=hid (ZaB b l x _ S' 12 Z w6 ⟨U,j⟩);have a4:=G.shape;clear y st h5 j f d t m H G B;rcases a4 with rfl|⟨iv,yv,rfl⟩
    all_goals
     go_wp2_with(rw[←V.out]);refine b9.out.mono ?_;rintro e w7 ⟨rfl,h7,b5⟩;have b7:=I.out.trans (b5.gs (by have:=I.out.fr.size;have:=v.out;omega));have b3:=hid b7;have H7:=hid h7;clear h7 b5 b7;go_wp2
     go_end0
     exact⟨rfl,S',a8,H7.out,M.out,b3.out⟩
   ·rw[if_neg hk];have HK:=hid hk;clear hk;go_enter Tryz.func84,Tryz.ntmps84;go_wp2_with fail;refine HB.out.mono ?_;rintro e w1 ⟨rfl,h1,n⟩;have F:=hid (E.out w1 h1);have H1:=hid h1;have D:=hid n;clear h1 n;go_wp2_with fail;refine F.out.mono ?_;rintro e w2 ⟨rfl,f2⟩;obtain⟨mv,h2⟩:=H1.out.on f2;have r2:=Zd h2.blk _ (Fr.refl _ _);have h3:=h2.turned 1 (.int .i64 ((p1:Int)+1)) ⟨p1+1,i,0⟩ (by simp) rfl;have o:=(D.out.trans (Stp.of f2)).trans (h2.stp 1 (.int .i64 ((p1:Int)+1)));obtain⟨wA,r⟩:∃wA,wA=w2.setCell ⟨b,1,none⟩ (.int .i64 ((p1:Int)+1)):=⟨_,rfl⟩;rw[←r]at h3 o;have J:=hid r;have P:=hid (L.out wA ⟨mv,h3⟩);have Q:=hid o;clear h2 h3 o r f2;go_wp2_with(rw[←J.out]);refine P.out.mono ?_;rintro e w4 ⟨rfl,h4,u⟩;have st:=Q.out.trans u;have N:=st.fr.size;have C:=hid (Y.out w4 (fun k hk=>by have:=HS.out k hk;omega) (fun k hk=>by rcases hk with hk|hk;have:=HO.out k hk;omega;have:=v.out;omega) (st.from HW.out a0.out) h4)
    have ST:=hid st;clear h4 u st N r2;go_wp2_with fail;refine C.out.mono ?_;intro e w5 he;obtain⟨v5,S',rfl,⟨u5,rfl,G⟩,h5,y⟩:=he;have st:=ST.out.trans y;have m:=a6.out S' w5 st;have t:=st.fr.heap HG.out W.out;have rg:=Zk t _ (Fr.refl _ _);have h6:=h5.gset m (.int .i64 A.kind) (.int .i64 A.line) (.string ⟨A.text.toArray⟩) u5;have f:=(st.gs v.out).gset (.int .i64 A.kind) (.int .i64 A.line) (.string ⟨A.text.toArray⟩) u5;obtain⟨w6,d⟩:∃w6,w6=(((w5.setCell ⟨g,4,none⟩ (.int .i64 A.kind)).setCell ⟨g,5,none⟩ (.int .i64 A.line)).setCell ⟨g,6,none⟩ (.string ⟨A.text.toArray⟩)).setCell ⟨g,7,none⟩ u5:=⟨_,rfl⟩;have h6:ARd b l x ⟨Z,a8,0⟩ S' w6:=by rw[d];exact h6
    have f:Stp (GS S g) w (GS S' g) w6:=by rw[d];exact f
    have H:w6.heap[g]? =some (.cells #[.int .i64 k0,.int .i64 n0,.string ⟨t0.toArray⟩,u0,.int .i64 A.kind,.int .i64 A.line,.string ⟨A.text.toArray⟩,u5,.bool false] 30 (0,0)):=by rw[d];exact Zgl t (.int .i64 A.kind) (.int .i64 A.line) (.string ⟨A.text.toArray⟩) u5
    have B:RN (SO S' (GS O g)) w6 A.tree u5:=by rw[d];exact RN.keep (ZdM w5 g _ _ _ _) (fun k _ hk=>.inr (.inr hk)) (fun k _ hx=>hx) _ _ G
    obtain⟨U,j⟩:=h6;have r6:=Zd j.blk _ (Fr.refl _ _);have b2:=Zk H _ (Fr.refl _ _);have V:=hid d;have H6:=hid j;have I:=hid f;have M:=hid m;have b8:=hid H;have b1:=hid B;have c2:(A.kind==0)=false:=by simpa using HK.out
    have a4:=G.shape;clear y st h5 j f d t m H G B;rcases a4 with rfl|⟨iv,yv,rfl⟩
    all_goals
     go_wp2_with(rw[←V.out])
     go_end0
     exact⟨rfl,S',_,⟨U,H6.out⟩,M.out,I.out,b8.out,b1.out⟩
 ·rw[if_neg X];have c3:((c.toNat:Int)==44)=false:=by
   have:c.toNat≠44:=fun h=>X (UInt8.toNat_inj.1 h);simp;omega
  clear hc X;go_enter Tryz.func84,Tryz.ntmps84;go_wp2_with fail;refine HB.out.mono ?_;rintro e w1 ⟨rfl,h1,n⟩;have F:=hid (E.out w1 h1);have H1:=hid h1;have D:=hid n;clear h1 n;go_wp2_with fail;refine F.out.mono ?_;rintro e w2 ⟨rfl,f2⟩;have b4:=hid (D.out.trans (Stp.of f2));have H2:=hid (H1.out.on f2);clear f2;go_wp2;exact bodyPost_ret (results_none rfl _ _ _) rfl ⟨rfl,S,.nilIface,H2.out,W.out,b4.out.gs v.out,b4.out.fr.heap HG.out W.out,by show RN _ w2 .nil .nilIface;rw[RN]⟩
def Zni(S:Nat→Prop)(w:World)(g:GV)(v:Value):Prop:=∃u1 u2,v=.agg #[.int .i64 g.a.kind,.int .i64 g.a.line,.string ⟨g.a.text.toArray⟩,u1,.int .i64 g.b.kind,.int .i64 g.b.line,.string ⟨g.b.text.toArray⟩,u2,.bool g.no]∧RN S w g.a.tree u1∧RN S w g.b.tree u2
def ZaV(b:Nat)(l:List UInt8)(x:Bool)(S O:Nat→Prop)(w:World)(R:ZpG)(r:Ending)(w':World):Prop:=match R with
 | .inl (z,p)=>∃g v S' ms,r=.returned v∧Zni nob w' g v∧ARd b l x ⟨p,ms,z⟩ S' w'∧Stp S w S' w'
 | .inr (g,s')=>∃v S',r=.returned v∧Zni (SO S' O) w' g v∧ARd b l x s' S' w'∧Stp S w S' w'
theorem Zu{fn:Func}{p:Tmp}(h:fn.results= #[.cell p 30]){tmps:Array Value}{r:Nat}(ht:tmps.getD p undef=.pointer (some ⟨r,0,none⟩)){W:World}{a0 a1 a2 a3 a4 a5 a6 a7 a8:Value}
 (hb:W.heap[r]? =some (.cells #[a0,a1,a2,a3,a4,a5,a6,a7,a8] 30 (0,0))) (h0:a0.oneCell'=true) (h1:a1.oneCell'=true) (h2:a2.oneCell'=true) (h3:a3.oneCell'=true) (h4:a4.oneCell'=true) (h5:a5.oneCell'=true) (h6:a6.oneCell'=true) (h7:a7.oneCell'=true) (h8:a8.oneCell'=true):
 (results fn tmps).run Tryz.prog W=.ok (.agg #[a0,a1,a2,a3,a4,a5,a6,a7,a8]) W:=by
 have c0:=cell_at (j:=0) hb rfl;have c1:=cell_at (j:=1) hb rfl;have c2:=cell_at (j:=2) hb rfl;have c3:=cell_at (j:=3) hb rfl;have c4:=cell_at (j:=4) hb rfl;have c5:=cell_at (j:=5) hb rfl;have c6:=cell_at (j:=6) hb rfl;have c7:=cell_at (j:=7) hb rfl;have c8:=cell_at (j:=8) hb rfl;have a:tmps[p]?.getD undef=.pointer (some ⟨r,0,none⟩):=by rw[←ht];simp
 simp only[results,h];simp[a,go_sem,c0,c1,c2,c3,c4,c5,c6,c7,c8]
section
variable {b:Nat} {l:List UInt8} {x:Bool} {s:AdS} {S S' S2 O:Nat→Prop} {w w1 wZ:World} {r g:Nat} {t:Nd} {u:Value}
theorem Stp.plus(h:Stp S w S' w1)(hg:w.heap.size≤g)(hg':g<w1.heap.size):Stp S w (GS S' g) w1:=
 ⟨h.fr,fun k hk hx=>hx.elim (h.old k hk) (fun e=>by have e:k=g:=e;omega),fun hl k hx=>by
  rcases hx with hx|hx
  ·exact h.lt hl k hx
  ·have hx:k=g:=hx;omega⟩
theorem ZE(hr1:r<w1.heap.size)(hS:∀k,S k→k<r)(st:Stp S w1 S' wZ):¬S' r:=fun hx=>by have:=hS r (st.old r hr1 hx);omega
theorem Zbl{a0 a1 a2 a3 a4 a5 a6 a7 a8:Value}{T:TypeId}(hr:r=w.heap.size)(hS:∀k,S k→k<w.heap.size)(hz:w1.heap[r]? =some (.cells #[a0,a1,a2,a3,a4,a5,a6,a7,a8] T (0,0)))(st:Stp S w1 S' wZ):wZ.heap[r]? =some (.cells #[a0,a1,a2,a3,a4,a5,a6,a7,a8] T (0,0)):=
 st.fr.heap hz (fun h=>by have:=hS r h;omega)
theorem ZT(h:ARd b l x s S2 wZ)(hr:¬GS S2 g r)(v0 v1 v2 v3 v4 v5 v6 v7 v8:Value):ARd b l x s (GS S2 g) (ZcB wZ r v0 v1 v2 v3 v4 v5 v6 v7 v8):=by
 obtain⟨mv,h⟩:=h;have k:=h.keep (Zas (w:=wZ) (b:=r) v0 v1 v2 v3 v4 v5 v6 v7 v8) (fun e=>hr (.inl (e▸h.me))) (fun k hk e=>hr (.inl (e▸(h.nm k hk).2)));exact⟨mv,k.blk,k.ma,fun j hj=>⟨(k.nm j hj).1,.inl (k.nm j hj).2⟩,.inl k.me⟩
theorem ZU(f1:Fr nob w w1)(hr:r=w.heap.size)(st:Stp S w1 S' wZ)(v0 v1 v2 v3 v4 v5 v6 v7 v8:Value):Stp S w S' (ZcB wZ r v0 v1 v2 v3 v4 v5 v6 v7 v8):=by
 have s1:Stp S w S' wZ:=(Stp.of f1).trans st;have hs:=ZfX (w:=wZ) (b:=r) v0 v1 v2 v3 v4 v5 v6 v7 v8;exact⟨s1.fr.trans (Zas v0 v1 v2 v3 v4 v5 v6 v7 v8) (fun i hi e=>by have e:i=r:=e;omega),s1.old,fun hl k hk=>by have:=s1.lt hl k hk;omega⟩
end
theorem Zjo(b:Nat)(l:List UInt8)(x:Bool)(at0:Nat)(ms0:List (Nat×List UInt8))(S O:Nat→Prop)(w:World)(hl:l.length≤99000)(ha:at0≤l.length)(hm:ms0.length=0)(hS:∀k,S k→k<w.heap.size)(hO:∀k,O k→k<w.heap.size)(W0:World)(hE:Env W0)(hW:Fr nob W0 w)(hSW:∀k,S k→W0.heap.size≤k)(h:ARd b l x ⟨at0,ms0,0⟩ S w)(z:Int)(p:Nat)(hR:ZaC x l false ⟨at0,ms0,0⟩=.inl (z,p)):
 Calls Tryz.prog 51 #[.pointer (some ⟨b,0,none⟩)] w (ZaV b l x S O w (.inl (z,p))):=by
 have hl:l.length≤100000:=Nat.le_trans hl (by decide);obtain⟨w1,a⟩:∃w1,w1=w.alloc (.cells zG 30):=⟨_,rfl⟩;have f1:Fr nob w w1:=by rw[a];exact(Fr.refl _ _).alloc _
 have hz:w1.heap[w.heap.size]? =some (.cells zG 30 (0,0)):=by rw[a];exact newAt _ _
 have r:w1.heap.size=w.heap.size+1:=by rw[a];simp
 have h1:=h.on f1;have j:∀k,S k→k<w1.heap.size:=fun k hk=>by have:=hS k hk;omega
 have g:∀k,GS O w.heap.size k→k<w1.heap.size:=fun k hk=>by
  rcases hk with hk|hk
  ·have:=hO k hk;omega
  ·have hk:k=w.heap.size:=hk;omega
 have n:=hid (Zal b l x false ⟨at0,ms0,0⟩ S (GS O w.heap.size) w1 (by omega) ha (by show ms0.length≤_;omega) rfl j g W0 hE (hW.trans' f1) hSW h1);have s:=hid a;have HS:=hid hS;have F1:=hid f1;have HZ:=hid hz;have B:=hid (lt_heap hz);have A:=hid j;have HE:=hid hE;have C:=hid (hW.trans' f1);have G:=hid hSW;have E:=hid g;clear h h1 a hS f1 hz hO hE hW hSW r j g;have o:¬z=0:=addrD_err hR;have F:(z==0)=false:=by simpa using o
 have u:(z !=0)=true:=by simpa using o
 rw[hR]at n;clear hR;go_enter Tryz.func51,Tryz.ntmps51;go_wp2_with(rw[←s.out]);refine n.out.mono ?_;intro e w2 he;obtain⟨he,S1,ms,h2,c⟩:=he;have he:e=.returned (.agg #[.int .i64 0,.int .i64 0,.string ⟨#[]⟩,.nilIface]):=he;subst he;have q:=c.lt A.out;obtain⟨w3,d⟩:∃w3,w3=w2.alloc (.cells zG 30):=⟨_,rfl⟩;have f3:Fr nob w2 w3:=by rw[d];exact(Fr.refl _ _).alloc _
 have m:w3.heap[w2.heap.size]? =some (.cells zG 30 (0,0)):=by rw[d];exact newAt _ _
 obtain⟨y,i⟩:=h2.on f3;have r3:=Zd i.blk _ (Fr.refl _ _);have D:=Zk m _ (Fr.refl _ _);have st:Stp S w1 (GS S1 w2.heap.size) w3:=(c.trans (Stp.of f3)).plus c.fr.size (lt_heap m);have hX:ARd b l x ⟨p,ms,z⟩ S1 w3:=⟨y,i⟩;have v:=hid d;clear h2 c d f3 i m q;have f:=Zbl rfl HS.out HZ.out st;have rz:=Zk f _ (Fr.refl _ _);have q1:=hid (ZT hX (fun h=>ZE B.out HS.out st h) (.int .i64 0) (.int .i64 0) (.string ⟨#[]⟩) .nilIface (.int .i64 0) (.int .i64 0) (.string ⟨#[]⟩) .nilIface (.bool false));have q2:=hid (ZU F1.out rfl st (.int .i64 0) (.int .i64 0) (.string ⟨#[]⟩) .nilIface (.int .i64 0) (.int .i64 0) (.string ⟨#[]⟩) .nilIface (.bool false));have t:=hid (Zf f (.int .i64 0) (.int .i64 0) (.string ⟨#[]⟩) .nilIface (.int .i64 0) (.int .i64 0) (.string ⟨#[]⟩) .nilIface (.bool false));clear hX st f;(try dsimp only)
 iterate 9 go_step
 rw[←v.out]
 repeat(first|rw[u]|go_step)
 (try simp only[Exit.inBlock,Exit.then]);exact bodyPost_ret (Zu rfl rfl t.out rfl rfl rfl rfl rfl rfl rfl rfl rfl) rfl ⟨⟨AV.zero,AV.zero,false⟩,_,_,_,rfl,⟨.nilIface,.nilIface,rfl,by show RN _ _ .nil _;rw[RN],by show RN _ _ .nil _;rw[RN]⟩,q1.out,q2.out⟩
theorem Zhx(b:Nat)(l:List UInt8)(x:Bool)(at0:Nat)(ms0:List (Nat×List UInt8))(S O:Nat→Prop)(w:World)(hl:l.length≤99000)(ha:at0≤l.length)(hm:ms0.length=0)(hS:∀k,S k→k<w.heap.size)(hO:∀k,O k→k<w.heap.size)(W0:World)(hE:Env W0)(hW:Fr nob W0 w)(hSW:∀k,S k→W0.heap.size≤k)(h:ARd b l x ⟨at0,ms0,0⟩ S w)(A:AV)(at1:Nat)(ms1:List (Nat×List UInt8))(hR:ZaC x l false ⟨at0,ms0,0⟩=.inr (A,⟨at1,ms1,0⟩))(hk:A.kind≠0)(z:Int)(p:Nat)(hR2:Zbc x l ⟨at1,ms1,0⟩=.inl (z,p)):
 Calls Tryz.prog 51 #[.pointer (some ⟨b,0,none⟩)] w (ZaV b l x S O w (.inl (z,p))):=by
 have hl:l.length≤100000:=Nat.le_trans hl (by decide);obtain⟨w1,i⟩:∃w1,w1=w.alloc (.cells zG 30):=⟨_,rfl⟩;have f1:Fr nob w w1:=by rw[i];exact(Fr.refl _ _).alloc _
 have hz:w1.heap[w.heap.size]? =some (.cells zG 30 (0,0)):=by rw[i];exact newAt _ _
 have V:w1.heap.size=w.heap.size+1:=by rw[i];simp
 have h1:=h.on f1;have t:∀k,S k→k<w1.heap.size:=fun k hk=>by have:=hS k hk;omega
 have o:∀k,GS O w.heap.size k→k<w1.heap.size:=fun k hk=>by
  rcases hk with hk|hk
  ·have:=hO k hk;omega
  ·have hk:k=w.heap.size:=hk;omega
 have H:=hid (Zal b l x false ⟨at0,ms0,0⟩ S (GS O w.heap.size) w1 (by omega) ha (by show ms0.length≤_;omega) rfl t o W0 hE (hW.trans' f1) hSW h1);have Y:=hid i;have HS:=hid hS;have F1:=hid f1;have HZ:=hid hz;have L:=hid (lt_heap hz);have a0:=hid t;have HE:=hid hE;have Q:=hid (hW.trans' f1);have N:=hid hSW;have U:=hid o;clear h h1 i hS f1 hz hO hE hW hSW V t o;have n:=Zam (s:=⟨at0,ms0,0⟩) ha rfl hR;have X:at1≤l.length:=n.le;have a3:ms1.length≤99001:=by have:=n.mks;simp only at this;omega
 rw[hR]at H;clear hR n;have a1:(A.kind==0)=false:=by simpa using hk
 clear hk;have P:=hid (fun w2 w3 S1 u1 (hS':∀k,S1 k→k<w3.heap.size) (hO':∀k,GS O w.heap.size k→k<w3.heap.size) (hW':Fr nob W0 w3) (hSW':∀k,S1 k→W0.heap.size≤k) (h:ARd b l x ⟨at1,ms1,0⟩ S1 w3) (ng:¬S1 w2) hg=>Zfo b l x ⟨at1,ms1,0⟩ S1 (GS O w.heap.size) w2 A.kind A.line A.text u1 w3 hl X (by show ms1.length≤_;omega) rfl hS' hO' W0 HE.out hW' hSW' h ng hg);have R:¬z=0:=pairD_err hR2;have a2:(z==0)=false:=by simpa using R
 have C:(z !=0)=true:=by simpa using R
 rw[hR2]at P;clear hR2;go_enter Tryz.func51,Tryz.ntmps51;go_wp2_with(rw[←Y.out]);refine H.out.mono ?_;intro e w2 he;obtain⟨v,S1,rfl,⟨u1,rfl,y⟩,h2,d⟩:=he;have g:=d.lt a0.out;have F:=y.shape;obtain⟨w3,m⟩:∃w3,w3=w2.alloc (.cells #[.int .i64 A.kind,.int .i64 A.line,.string ⟨A.text.toArray⟩,u1,.int .i64 0,.int .i64 0,.string ⟨#[]⟩,.nilIface,.bool false] 30):=⟨_,rfl⟩;have f3:Fr nob w2 w3:=by rw[m];exact(Fr.refl _ _).alloc _
 have j:w3.heap[w2.heap.size]? =some (.cells #[.int .i64 A.kind,.int .i64 A.line,.string ⟨A.text.toArray⟩,u1,.int .i64 0,.int .i64 0,.string ⟨#[]⟩,.nilIface,.bool false] 30 (0,0)):=by rw[m];exact newAt _ _
 have G:¬S1 w2.heap.size:=fun h=>Nat.lt_irrefl _ (g _ h);have h3:=h2.on f3;have I:w1.heap.size≤w2.heap.size:=d.fr.size;have K:Stp S w1 (GS S1 w2.heap.size) w3:=(d.trans (Stp.of f3)).plus I (lt_heap j);have E:RN (SO (GS S1 w2.heap.size) (GS O w.heap.size)) w3 A.tree u1:=RN.keep f3 (fun _ _ x=>x.elim) (fun k hk hx=>by
  rcases hx with(hx|hx)|hx
  ·exact .inl hx
  ·have hx:k=w2.heap.size:=hx;omega
  ·exact .inr hx) _ _ y
 have D:=hid m;obtain⟨Z,r⟩:=h3;have r3:=Zd r.blk _ (Fr.refl _ _);have B:=Zk j _ (Fr.refl _ _);have M:=hid (P.out w2.heap.size w3 S1 u1 (fun k hk=>by have:=g k hk;have:=f3.size;omega) (fun k hk=>by have:=U.out k hk;have:=f3.size;omega) ((d.trans (Stp.of f3)).from Q.out N.out) (fun k hk=>by by_cases h:k<w1.heap.size;exact N.out k (d.old k h hk);have:=Q.out.size;omega) ⟨Z,r⟩ G j);have J:=hid K;have R1:=hid E;clear y h2 d m f3 r j G K I g E;rcases F with rfl|⟨i1,y1,rfl⟩
 ·skip
  go_wp2_with(rw[←D.out]);refine M.out.mono ?_;rintro e wP ⟨rfl,S2,ms,hX,W,f⟩;obtain⟨u,a⟩:=hX;have rX:=Zd a.blk _ (Fr.refl _ _);have hX:ARd b l x _ S2 wP:=⟨u,a⟩;have st:=J.out.trans f;clear f r3 B a;have c:=Zbl rfl HS.out HZ.out st;have rz:=Zk c _ (Fr.refl _ _);have q1:=hid (ZT hX (fun h=>ZE L.out HS.out st h) (.int .i64 0) (.int .i64 0) (.string ⟨#[]⟩) .nilIface (.int .i64 0) (.int .i64 0) (.string ⟨#[]⟩) .nilIface (.bool false));have q2:=hid (ZU F1.out rfl st (.int .i64 0) (.int .i64 0) (.string ⟨#[]⟩) .nilIface (.int .i64 0) (.int .i64 0) (.string ⟨#[]⟩) .nilIface (.bool false));have q:=hid (Zf c (.int .i64 0) (.int .i64 0) (.string ⟨#[]⟩) .nilIface (.int .i64 0) (.int .i64 0) (.string ⟨#[]⟩) .nilIface (.bool false));clear hX st c;(try dsimp only)
  repeat(first|rw[C]|go_step)
  (try simp only[Exit.inBlock,Exit.then]);exact bodyPost_ret (Zu rfl rfl q.out rfl rfl rfl rfl rfl rfl rfl rfl rfl) rfl ⟨⟨AV.zero,AV.zero,false⟩,_,_,_,rfl,⟨.nilIface,.nilIface,rfl,by show RN _ _ .nil _;rw[RN],by show RN _ _ .nil _;rw[RN]⟩,q1.out,q2.out⟩
 ·skip
  go_wp2_with(rw[←D.out]);refine M.out.mono ?_;rintro e wP ⟨rfl,S2,ms,hX,W,f⟩;obtain⟨u,a⟩:=hX;have rX:=Zd a.blk _ (Fr.refl _ _);have hX:ARd b l x _ S2 wP:=⟨u,a⟩;have st:=J.out.trans f;clear f r3 B a;have c:=Zbl rfl HS.out HZ.out st;have rz:=Zk c _ (Fr.refl _ _);have q1:=hid (ZT hX (fun h=>ZE L.out HS.out st h) (.int .i64 0) (.int .i64 0) (.string ⟨#[]⟩) .nilIface (.int .i64 0) (.int .i64 0) (.string ⟨#[]⟩) .nilIface (.bool false));have q2:=hid (ZU F1.out rfl st (.int .i64 0) (.int .i64 0) (.string ⟨#[]⟩) .nilIface (.int .i64 0) (.int .i64 0) (.string ⟨#[]⟩) .nilIface (.bool false));have q:=hid (Zf c (.int .i64 0) (.int .i64 0) (.string ⟨#[]⟩) .nilIface (.int .i64 0) (.int .i64 0) (.string ⟨#[]⟩) .nilIface (.bool false));clear hX st c;(try dsimp only)
  repeat(first|rw[C]|go_step)
  (try simp only[Exit.inBlock,Exit.then]);exact bodyPost_ret (Zu rfl rfl q.out rfl rfl rfl rfl rfl rfl rfl rfl rfl) rfl ⟨⟨AV.zero,AV.zero,false⟩,_,_,_,rfl,⟨.nilIface,.nilIface,rfl,by show RN _ _ .nil _;rw[RN],by show RN _ _ .nil _;rw[RN]⟩,q1.out,q2.out⟩
end Go.Proofs.YtkfddjopbocpkaaGreatDoor
