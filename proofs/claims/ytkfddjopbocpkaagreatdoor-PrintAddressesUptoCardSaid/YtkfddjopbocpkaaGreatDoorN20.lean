/- Lemmas of this claim. -/
import Derived.Test.YtkfddjopbocpkaaGreatDoorN19
set_option linter.unusedVariables false
set_option linter.unusedSimpArgs false
set_option maxRecDepth 100000
set_option maxHeartbeats 4000000
namespace Go.Proofs.YtkfddjopbocpkaaGreatDoor
open Go.Lib (hid)
open Go.RowKit
def ZaC(x:Bool)(l:List UInt8)(second:Bool)(s:AdS):ZlK:=
 if 48≤(byt l s.at_).toNat∧(byt l s.at_).toNat≤57 then Zdj l s
 else if byt l s.at_=36 then .inr (⟨2,0,[],.nil⟩,⟨s.at_+1,s.marks,0⟩)
 else if byt l s.at_=47 then ZaE x l 47 ⟨s.at_+1,s.marks,0⟩
 else if byt l s.at_=92 then(if l.length≤s.at_+1∨byt l (s.at_+1)=92∨byt l (s.at_+1)=10 then .inl (12,s.at_)else ZaE x l (byt l (s.at_+1)) ⟨s.at_+1+1,s.marks,0⟩)
 else if byt l s.at_=43∧second=true then Zdk l s
 else .inr (AV.zero,s)
theorem ZaO{l:List UInt8}{k:Nat}(h:byt l k≠0):k<l.length:=by
 refine Nat.lt_of_not_le fun hk=>h (ZkR hk)
theorem Ziu(b:Nat)(l:List UInt8)(d:UInt8)(x:BF)(s:AdS)(S O:Nat→Prop)(w:World)(hl:l.length≤100000)(ha:s.at_≤l.length)(hm:s.marks.length≤100000)(hs0:s.e=0)(hS:∀k,S k→k<w.heap.size)(hO:∀k,O k→k<w.heap.size)(hE:Env w)(h:ARd b l x s S w):
 Calls Tryz.prog 111 #[.pointer (some ⟨b,0,none⟩),.int .u8 (d.toNat:Int)] w (ZkT b l x S O w (ZaE x l d s)):=by
 cases hR:ZaE x l d s with
 |inl z=>
  obtain⟨z,p⟩:=z;exact Zhw b l d x s S w hl ha hS hE h z p hR
 |inr q=>
  unfold ZaE at hR;split at hR
  ·cases hR
  ·next h0=>
   split at hR
   ·cases hR
   ·next hT=>
    split at hR
    ·cases hR
    ·next t r hp=>
     injection hR with hR;subst hR;exact ad_regex_ok b l d x s S O w hl ha hm hs0 hS hO hE h _ _ (by
      have h0:(bt l d true (l.length+1) s.at_ []).2.2=0:=by simpa using h0
      rw[←h0]) hT t r hp
theorem Zal(b:Nat)(l:List UInt8)(x:BF)(second:Bool)(s:AdS)(S O:Nat→Prop)(w:World)(hl:l.length≤100000)(ha:s.at_≤l.length)(hm:s.marks.length≤100000)(hs0:s.e=0)(hS:∀k,S k→k<w.heap.size)(hO:∀k,O k→k<w.heap.size)(W0:World)(hE:Env W0)(hW:Fr nob W0 w)(hSW:∀k,S k→W0.heap.size≤k)(h:ARd b l x s S w):
 Calls Tryz.prog 83 #[.pointer (some ⟨b,0,none⟩),.bool second] w (ZkT b l x S O w (ZaC x l second s)):=by
 obtain⟨g,n,e0⟩:=s;obtain rfl:e0=0:=hs0;have ha:g≤l.length:=ha;have hm:n.length≤100000:=hm;obtain⟨w1,K⟩:∃w1,w1=w.alloc (.cells zA 28):=⟨_,rfl⟩;have f1:Fr nob w w1:=by rw[K];exact(Fr.refl _ _).alloc _
 have hz:w1.heap[w.heap.size]? =some (.cells zA 28 (0,0)):=by rw[K];exact newAt _ _
 have h1:=h.on f1;have hN:=Zt b l x ⟨g,n,0⟩ S w1 (by omega) h1;simp only at hN;have c3:w1.heap.size=w.heap.size+1:=by rw[K];simp
 have a6:∀(w':World),Fr nob w1 w'→∀k,S k→k<w'.heap.size:=fun w' f k hk=>by have:=hS k hk;have:=f.size;omega
 have a5:∀(w':World),Fr nob w1 w'→∀k,(O k∨k=w.heap.size)→k<w'.heap.size:=fun w' f k hk=>by
  have:=f.size;rcases hk with hk|hk
  ·have:=hO k hk;omega
  ·omega
 have a4:∀(w':World) (S':Nat→Prop),Stp S w1 S' w'→Env w':=fun w' S' st=>hE.on (st.from (hW.trans' f1) hSW);obtain⟨mv,a3⟩:=h1;have H1:=hid a3;have HN:=hid hN;have D:=hid K;have HS:=hid hS;have F1:=hid f1;have HZ:=hid hz;have t:=hid (lt_heap hz);have L:=hid a6;have a1:=hid a5;have Z:=hid a4;unfold ZaC;simp only;clear h a3 hN K hS f1 hz hO hE hW hSW c3 a6 a5 a4;obtain⟨c,hc⟩:∃c,byt l g=c:=⟨_,rfl⟩;rw[hc]at HN⊢;by_cases hd:48≤c.toNat∧c.toNat≤57
 ·rw[if_pos hd];have q1:(48:Int)≤(c.toNat:Int):=by omega
  have q2:(c.toNat:Int)≤57:=by omega
  have HC:=hid (fun w' (f:Fr nob w1 w')=>Zoa b l x ⟨g,n,0⟩ S (fun k=>O k∨k=w.heap.size) w' hl ha (L.out w' f) ⟨mv,H1.out.on f⟩);obtain⟨R,hR⟩:∃R,Zdj l ⟨g,n,0⟩=R:=⟨_,rfl⟩;rw[hR]at HC⊢;clear hR hd hc;go_enter Tryz.func83,Tryz.ntmps83;go_wp2_with(rw[←D.out]);refine HN.out.mono ?_;rintro e w2 ⟨rfl,f2⟩;have A:=hid (Stp.of f2:Stp S w1 S w2);have I:=hid f2;clear f2;go_wp2_with fail;refine(HC.out _ I.out).mono ?_;intro e w3 he;cases R with
  |inl q=>
   obtain⟨z,p⟩:=q;obtain⟨rfl,S',ms,hX,j⟩:=he;have st:=A.out.trans j;clear j;have i:=ZH rfl HS.out HZ.out st;have rz:=Zl i _ (Fr.refl _ _);obtain⟨p1,p2⟩:=Zad F1.out rfl t.out HS.out hX st (.int .i64 0) (.int .i64 0) (.string ⟨#[]⟩) .nilIface;have P1:=hid p1;have P2:=hid p2;have m:=hid (setFour_heap i (.int .i64 0) (.int .i64 0) (.string ⟨#[]⟩) .nilIface);clear hX st i p1 p2;go_wp2;(try simp only[Exit.inBlock,Exit.then]);exact bodyPost_ret (Zo rfl rfl m.out rfl rfl rfl rfl) rfl ⟨rfl,S',_,P1.out,P2.out⟩
  |inr q=>
   obtain⟨a,s'⟩:=q;obtain⟨v,S',rfl,⟨u,rfl,r⟩,hX,j⟩:=he;have st:=A.out.trans j;clear j;have F:=hid (RN.keep (ZS w3 w.heap.size (.int .i64 a.kind) (.int .i64 a.line) (.string ⟨a.text.toArray⟩) u) (fun k _ hk=>.inr (.inr hk)) (fun k _ hx=>hx.elim .inl (fun y=>.inr (.inl y))) _ _ r:RN (SO S' O) _ a.tree u);have i:=ZH rfl HS.out HZ.out st;have rz:=Zl i _ (Fr.refl _ _);obtain⟨p1,p2⟩:=Zad F1.out rfl t.out HS.out hX st (.int .i64 a.kind) (.int .i64 a.line) (.string ⟨a.text.toArray⟩) u;have P1:=hid p1;have P2:=hid p2;have m:=hid (setFour_heap i (.int .i64 a.kind) (.int .i64 a.line) (.string ⟨a.text.toArray⟩) u);clear hX st i p1 p2;rcases r.shape with rfl|⟨iv,yv,rfl⟩
   all_goals
    clear r;go_wp2;(try simp only[Exit.inBlock,Exit.then]);exact bodyPost_ret (Zo rfl rfl m.out rfl rfl rfl rfl) rfl ⟨_,S',rfl,⟨_,rfl,F.out⟩,P1.out,P2.out⟩
 rw[if_neg hd];by_cases C:c=36
 ·subst C;rw[if_pos rfl];rw[show(((36:UInt8).toNat:Nat):Int)=36 from rfl]at HN;have M:g<l.length:=ZaO (by rw[hc];decide);have a9:IntKind.i64.wrap ((g:Int)+1)=g+1:=IntWalk.i64_in _ (by omega);clear hd hc;go_enter Tryz.func83,Tryz.ntmps83;go_wp2_with(rw[←D.out]);refine HN.out.mono ?_;rintro e w2 ⟨rfl,f2⟩;have h2:=H1.out.on f2;have r2:=Zd h2.blk _ (Fr.refl _ _);have h3:=h2.turned 1 (.int .i64 ((g:Int)+1)) ⟨g+1,n,0⟩ (by simp) rfl;have j:=((Stp.of f2).trans (h2.stp 1 (.int .i64 ((g:Int)+1))):Stp S w1 S _);obtain⟨wA,o⟩:∃wA,wA=w2.setCell ⟨b,1,none⟩ (.int .i64 ((g:Int)+1)):=⟨_,rfl⟩;rw[←o]at h3 j;have G:=hid o;have hX:ARd b l x ⟨g+1,n,0⟩ S wA:=⟨mv,h3⟩;have st:=j;have S':=S;clear h2 h3 j o f2;have i:=ZH rfl HS.out HZ.out st;have rz:=Zl i _ (Fr.refl _ _);obtain⟨p1,p2⟩:=Zad F1.out rfl t.out HS.out hX st (.int .i64 2) (.int .i64 0) (.string ⟨#[]⟩) .nilIface
  have P1:=hid p1;have P2:=hid p2;have m:=hid (setFour_heap i (.int .i64 2) (.int .i64 0) (.string ⟨#[]⟩) .nilIface);clear hX st i p1 p2;go_wp2_with(rw[←G.out]);(try simp only[Exit.inBlock,Exit.then]);exact bodyPost_ret (Zo rfl rfl m.out rfl rfl rfl rfl) rfl ⟨_,S,rfl,ZkS.nil 2 0 [],P1.out,P2.out⟩
 rw[if_neg C];by_cases E:c=47
 ·subst E;rw[if_pos rfl];rw[show(((47:UInt8).toNat:Nat):Int)=47 from rfl]at HN;have M:g<l.length:=ZaO (by rw[hc];decide);have a9:IntKind.i64.wrap ((g:Int)+1)=g+1:=IntWalk.i64_in _ (by omega);have HC:=hid (fun w' (hS':∀k,S k→k<w'.heap.size) (hO':∀k,(O k∨k=w.heap.size)→k<w'.heap.size) (hE':Env w') (h:ARd b l x ⟨g+1,n,0⟩ S w')=>Ziu b l 47 x ⟨g+1,n,0⟩ S (fun k=>O k∨k=w.heap.size) w' hl (by show g+1≤_;omega) hm rfl hS' hO' hE' h);obtain⟨R,hR⟩:∃R,ZaE x l 47 ⟨g+1,n,0⟩=R:=⟨_,rfl⟩;rw[hR]at HC⊢;rw[show(((47:UInt8).toNat:Nat):Int)=47 from rfl]at HC;clear hd hc hR C;go_enter Tryz.func83,Tryz.ntmps83;go_wp2_with(rw[←D.out]);refine HN.out.mono ?_;rintro e w2 ⟨rfl,f2⟩;have h2:=H1.out.on f2;have r2:=Zd h2.blk _ (Fr.refl _ _);have h3:=h2.turned 1 (.int .i64 ((g:Int)+1)) ⟨g+1,n,0⟩ (by simp) rfl;have j:=((Stp.of f2).trans (h2.stp 1 (.int .i64 ((g:Int)+1))):Stp S w1 S _)
  obtain⟨wA,o⟩:∃wA,wA=w2.setCell ⟨b,1,none⟩ (.int .i64 ((g:Int)+1)):=⟨_,rfl⟩;rw[←o]at h3 j;have G:=hid o;have A:=hid j;have c1:w2.heap.size=wA.heap.size:=by rw[o];simp[World.setCell]
  have V:=hid (Z.out wA S j);have U:=hid (HC.out wA (fun k hk=>by have:=L.out w2 f2 k hk;omega) (fun k hk=>by have:=a1.out w2 f2 k hk;omega) V.out ⟨mv,h3⟩);clear h2 h3 j o f2 c1;go_wp2_with(rw[←G.out]);refine(U.out).mono ?_;intro e w3 he;cases R with
  |inl q=>
   obtain⟨z,p⟩:=q;obtain⟨rfl,S',ms,hX,j⟩:=he;have st:=A.out.trans j;clear j;have i:=ZH rfl HS.out HZ.out st;have rz:=Zl i _ (Fr.refl _ _);obtain⟨p1,p2⟩:=Zad F1.out rfl t.out HS.out hX st (.int .i64 0) (.int .i64 0) (.string ⟨#[]⟩) .nilIface;have P1:=hid p1;have P2:=hid p2;have m:=hid (setFour_heap i (.int .i64 0) (.int .i64 0) (.string ⟨#[]⟩) .nilIface);clear hX st i p1 p2;go_wp2;(try simp only[Exit.inBlock,Exit.then]);exact bodyPost_ret (Zo rfl rfl m.out rfl rfl rfl rfl) rfl ⟨rfl,S',_,P1.out,P2.out⟩
  |inr q=>
   obtain⟨a,s'⟩:=q;obtain⟨v,S',rfl,⟨u,rfl,r⟩,hX,j⟩:=he;have st:=A.out.trans j;clear j;have F:=hid (RN.keep (ZS w3 w.heap.size (.int .i64 a.kind) (.int .i64 a.line) (.string ⟨a.text.toArray⟩) u) (fun k _ hk=>.inr (.inr hk)) (fun k _ hx=>hx.elim .inl (fun y=>.inr (.inl y))) _ _ r:RN (SO S' O) _ a.tree u);have i:=ZH rfl HS.out HZ.out st;have rz:=Zl i _ (Fr.refl _ _);obtain⟨p1,p2⟩:=Zad F1.out rfl t.out HS.out hX st (.int .i64 a.kind) (.int .i64 a.line) (.string ⟨a.text.toArray⟩) u;have P1:=hid p1;have P2:=hid p2;have m:=hid (setFour_heap i (.int .i64 a.kind) (.int .i64 a.line) (.string ⟨a.text.toArray⟩) u);clear hX st i p1 p2;rcases r.shape with rfl|⟨iv,yv,rfl⟩
   all_goals
    clear r;go_wp2;(try simp only[Exit.inBlock,Exit.then]);exact bodyPost_ret (Zo rfl rfl m.out rfl rfl rfl rfl) rfl ⟨_,S',rfl,⟨_,rfl,F.out⟩,P1.out,P2.out⟩
 rw[if_neg E];by_cases H:c=92
 ·subst H;rw[if_pos rfl];rw[show(((92:UInt8).toNat:Nat):Int)=92 from rfl]at HN;have M:g<l.length:=ZaO (by rw[hc];decide);have a9:IntKind.i64.wrap ((g:Int)+1)=g+1:=IntWalk.i64_in _ (by omega);have c4:IntKind.i64.wrap ((g:Int)+1+1)=g+1+1:=IntWalk.i64_in _ (by omega);obtain⟨d,N⟩:∃d,byt l (g+1)=d:=⟨_,rfl⟩;have a0:=hid (fun w' (h:ARd b l x ⟨g+1,n,0⟩ S w')=>by
   have:=Zt b l x ⟨g+1,n,0⟩ S w' (by omega) h;rw[show(AdS.mk (g+1) n 0).at_=g+1 from rfl,N]at this;exact this)
  rw[N];by_cases B:l.length≤g+1∨d=92∨d=10
  ·rw[if_pos B];have Y:=hid B;clear hd hc C E N B;go_enter Tryz.func83,Tryz.ntmps83;go_wp2_with(rw[←D.out]);refine HN.out.mono ?_;rintro e w2 ⟨rfl,f2⟩;have h2:=H1.out.on f2;have r2:=Zd h2.blk _ (Fr.refl _ _);have h3:=h2.turned 1 (.int .i64 ((g:Int)+1)) ⟨g+1,n,0⟩ (by simp) rfl;have j:=((Stp.of f2).trans (h2.stp 1 (.int .i64 ((g:Int)+1))):Stp S w1 S _);obtain⟨wA,o⟩:∃wA,wA=w2.setCell ⟨b,1,none⟩ (.int .i64 ((g:Int)+1)):=⟨_,rfl⟩;rw[←o]at h3 j;have G:=hid o;have W:=hid (a0.out wA ⟨mv,h3⟩);have H3:=hid h3;have X:=hid j;clear h2 h3 j o f2;go_wp2_with(rw[←G.out]);refine W.out.mono ?_;rintro e w3 ⟨rfl,f3⟩;have h4:=H3.out.on f3;have r4:=Zd h4.blk _ (Fr.refl _ _);have b5:=hid (ZaB b l x _ S 12 g w3 ⟨mv,h4⟩);have b7:=hid (X.out.trans (Stp.of f3));clear h4 f3 r2
   go_upto_region 14 with(fail)
   go_cut [74] (fun v w'=>v=.bool true∧w'=w3)
   case first=>
    by_cases b8:l.length≤g+1
    ·have q1:(l.length:Int)≤(g:Int)+1:=by omega
     go_wp2;go_meet
     case rel=>exact⟨rfl,rfl⟩
    ·have q1:¬(l.length:Int)≤(g:Int)+1:=by omega
     have b9:d=92∨d=10:=Y.out.resolve_left b8;rcases b9 with rfl|rfl
     all_goals
      go_wp2;go_meet
      case rel=>exact⟨rfl,rfl⟩
   case rest=>
   obtain⟨rfl,rfl⟩:=hcut;go_wp2_with fail;refine b5.out.mono ?_;rintro e w4 ⟨rfl,hX,b3⟩;have st:=b7.out.trans b3;clear b3;have i:=ZH rfl HS.out HZ.out st;have rz:=Zl i _ (Fr.refl _ _);obtain⟨p1,p2⟩:=Zad F1.out rfl t.out HS.out hX st (.int .i64 0) (.int .i64 0) (.string ⟨#[]⟩) .nilIface;have P1:=hid p1;have P2:=hid p2;have m:=hid (setFour_heap i (.int .i64 0) (.int .i64 0) (.string ⟨#[]⟩) .nilIface);clear hX st i p1 p2;go_wp2;(try simp only[Exit.inBlock,Exit.then]);exact bodyPost_ret (Zo rfl rfl m.out rfl rfl rfl rfl) rfl ⟨rfl,S,_,P1.out,P2.out⟩
  ·rw[if_neg B];have q1:¬(l.length:Int)≤(g:Int)+1:=by omega
   have q2:((d.toNat:Int)==92)=false:=by
    have:d≠92:=fun h=>B (.inr (.inl h));have:d.toNat≠92:=fun h=>this (UInt8.toNat_inj.1 h);simp;omega
   have q3:((d.toNat:Int)==10)=false:=by
    have:d≠10:=fun h=>B (.inr (.inr h));have:d.toNat≠10:=fun h=>this (UInt8.toNat_inj.1 h);simp;omega
   have HC:=hid (fun w' (hS':∀k,S k→k<w'.heap.size) (hO':∀k,(O k∨k=w.heap.size)→k<w'.heap.size) (hE':Env w') (h:ARd b l x ⟨g+1+1,n,0⟩ S w')=>Ziu b l d x ⟨g+1+1,n,0⟩ S (fun k=>O k∨k=w.heap.size) w' hl (by show g+1+1≤_;omega) hm rfl hS' hO' hE' h);obtain⟨R,hR⟩:∃R,ZaE x l d ⟨g+1+1,n,0⟩=R:=⟨_,rfl⟩;rw[hR]at HC⊢;clear hd hc C E N B hR;go_enter Tryz.func83,Tryz.ntmps83;go_wp2_with(rw[←D.out]);refine HN.out.mono ?_;rintro e w2 ⟨rfl,f2⟩;have h2:=H1.out.on f2;have r2:=Zd h2.blk _ (Fr.refl _ _);have h3:=h2.turned 1 (.int .i64 ((g:Int)+1)) ⟨g+1,n,0⟩ (by simp) rfl;have j:=((Stp.of f2).trans (h2.stp 1 (.int .i64 ((g:Int)+1))):Stp S w1 S _);obtain⟨wA,o⟩:∃wA,wA=w2.setCell ⟨b,1,none⟩ (.int .i64 ((g:Int)+1)):=⟨_,rfl⟩;rw[←o]at h3 j;have G:=hid o;have W:=hid (a0.out wA ⟨mv,h3⟩);have H3:=hid h3;have X:=hid j;have a2:=hid (show w2.heap.size=wA.heap.size by rw[o];simp[World.setCell])
   have I:=hid f2;clear h2 h3 j o f2;go_wp2_with(rw[←G.out]);refine W.out.mono ?_;rintro e b4 ⟨rfl,f3⟩;have h4:=H3.out.on f3;have r4:=Zd h4.blk _ (Fr.refl _ _);have h5:=h4.turned 1 (.int .i64 ((g:Int)+1+1)) ⟨g+1+1,n,0⟩ (by simp) rfl;have Q:=(X.out.trans ((Stp.of f3).trans (h4.stp 1 (.int .i64 ((g:Int)+1+1)))):Stp S w1 S _);obtain⟨wB,P⟩:∃wB,wB=b4.setCell ⟨b,1,none⟩ (.int .i64 ((g:Int)+1+1)):=⟨_,rfl⟩;rw[←P]at h5 Q;have b6:=hid P;have A:=hid Q;have c2:b4.heap.size=wB.heap.size:=by rw[P];simp[World.setCell]
   have c0:=f3.size;have V:=hid (Z.out wB S Q);have U:=hid (HC.out wB (fun k hk=>by have:=L.out w2 I.out k hk;have:=a2.out;omega) (fun k hk=>by have:=a1.out w2 I.out k hk;have:=a2.out;omega) V.out ⟨mv,h5⟩);clear h4 h5 Q P f3 c2 c0 r2;go_wp2_with(rw[←b6.out]);refine(U.out).mono ?_;intro e w3 he;cases R with
   |inl q=>
    obtain⟨z,p⟩:=q;obtain⟨rfl,S',ms,hX,j⟩:=he;have st:=A.out.trans j;clear j;have i:=ZH rfl HS.out HZ.out st;have rz:=Zl i _ (Fr.refl _ _);obtain⟨p1,p2⟩:=Zad F1.out rfl t.out HS.out hX st (.int .i64 0) (.int .i64 0) (.string ⟨#[]⟩) .nilIface;have P1:=hid p1;have P2:=hid p2;have m:=hid (setFour_heap i (.int .i64 0) (.int .i64 0) (.string ⟨#[]⟩) .nilIface);clear hX st i p1 p2;go_wp2;(try simp only[Exit.inBlock,Exit.then]);exact bodyPost_ret (Zo rfl rfl m.out rfl rfl rfl rfl) rfl ⟨rfl,S',_,P1.out,P2.out⟩
   |inr q=>
    obtain⟨a,s'⟩:=q;obtain⟨v,S',rfl,⟨u,rfl,r⟩,hX,j⟩:=he;have st:=A.out.trans j;clear j;have F:=hid (RN.keep (ZS w3 w.heap.size (.int .i64 a.kind) (.int .i64 a.line) (.string ⟨a.text.toArray⟩) u) (fun k _ hk=>.inr (.inr hk)) (fun k _ hx=>hx.elim .inl (fun y=>.inr (.inl y))) _ _ r:RN (SO S' O) _ a.tree u);have i:=ZH rfl HS.out HZ.out st;have rz:=Zl i _ (Fr.refl _ _);obtain⟨p1,p2⟩:=Zad F1.out rfl t.out HS.out hX st (.int .i64 a.kind) (.int .i64 a.line) (.string ⟨a.text.toArray⟩) u;have P1:=hid p1;have P2:=hid p2;have m:=hid (setFour_heap i (.int .i64 a.kind) (.int .i64 a.line) (.string ⟨a.text.toArray⟩) u);clear hX st i p1 p2;rcases r.shape with rfl|⟨iv,yv,rfl⟩
    all_goals
     clear r;go_wp2;(try simp only[Exit.inBlock,Exit.then]);exact bodyPost_ret (Zo rfl rfl m.out rfl rfl rfl rfl) rfl ⟨_,S',rfl,⟨_,rfl,F.out⟩,P1.out,P2.out⟩
 rw[if_neg H];have b0:((c.toNat:Int)==36)=false:=by
  have:c.toNat≠36:=fun h=>C (UInt8.toNat_inj.1 h);simp;omega
 have b1:((c.toNat:Int)==47)=false:=by
  have:c.toNat≠47:=fun h=>E (UInt8.toNat_inj.1 h);simp;omega
 have b2:((c.toNat:Int)==92)=false:=by
  have:c.toNat≠92:=fun h=>H (UInt8.toNat_inj.1 h);simp;omega
 by_cases J:c=43∧second=true
 ·obtain⟨rfl,rfl⟩:=J;rw[if_pos ⟨rfl,rfl⟩];rw[show(((43:UInt8).toNat:Nat):Int)=43 from rfl]at HN;have M:g<l.length:=ZaO (by rw[hc];decide);have HC:=hid (fun w' (f:Fr nob w1 w')=>Zob b l x ⟨g,n,0⟩ S (fun k=>O k∨k=w.heap.size) w' hl M (by show n.length≤_;omega) (L.out w' f) ⟨mv,H1.out.on f⟩);obtain⟨R,hR⟩:∃R,Zdk l ⟨g,n,0⟩=R:=⟨_,rfl⟩;rw[hR]at HC⊢;clear hd hc hR C E H b0 b1 b2;go_enter Tryz.func83,Tryz.ntmps83;go_wp2_with(rw[←D.out]);refine HN.out.mono ?_;rintro e w2 ⟨rfl,f2⟩;have A:=hid (Stp.of f2:Stp S w1 S w2);have I:=hid f2;clear f2;go_wp2_with fail;refine(HC.out _ I.out).mono ?_;intro e w3 he;cases R with
  |inl q=>
   obtain⟨z,p⟩:=q;obtain⟨rfl,S',ms,hX,j⟩:=he;have st:=A.out.trans j;clear j;have i:=ZH rfl HS.out HZ.out st;have rz:=Zl i _ (Fr.refl _ _);obtain⟨p1,p2⟩:=Zad F1.out rfl t.out HS.out hX st (.int .i64 0) (.int .i64 0) (.string ⟨#[]⟩) .nilIface;have P1:=hid p1;have P2:=hid p2;have m:=hid (setFour_heap i (.int .i64 0) (.int .i64 0) (.string ⟨#[]⟩) .nilIface);clear hX st i p1 p2;go_wp2;(try simp only[Exit.inBlock,Exit.then]);exact bodyPost_ret (Zo rfl rfl m.out rfl rfl rfl rfl) rfl ⟨rfl,S',_,P1.out,P2.out⟩
  |inr q=>
   obtain⟨a,s'⟩:=q;obtain⟨v,S',rfl,⟨u,rfl,r⟩,hX,j⟩:=he;have st:=A.out.trans j;clear j;have F:=hid (RN.keep (ZS w3 w.heap.size (.int .i64 a.kind) (.int .i64 a.line) (.string ⟨a.text.toArray⟩) u) (fun k _ hk=>.inr (.inr hk)) (fun k _ hx=>hx.elim .inl (fun y=>.inr (.inl y))) _ _ r:RN (SO S' O) _ a.tree u);have i:=ZH rfl HS.out HZ.out st;have rz:=Zl i _ (Fr.refl _ _);obtain⟨p1,p2⟩:=Zad F1.out rfl t.out HS.out hX st (.int .i64 a.kind) (.int .i64 a.line) (.string ⟨a.text.toArray⟩) u;have P1:=hid p1;have P2:=hid p2;have m:=hid (setFour_heap i (.int .i64 a.kind) (.int .i64 a.line) (.string ⟨a.text.toArray⟩) u);clear hX st i p1 p2;rcases r.shape with rfl|⟨iv,yv,rfl⟩
   all_goals
    clear r;go_wp2;(try simp only[Exit.inBlock,Exit.then]);exact bodyPost_ret (Zo rfl rfl m.out rfl rfl rfl rfl) rfl ⟨_,S',rfl,⟨_,rfl,F.out⟩,P1.out,P2.out⟩
 rw[if_neg J];by_cases hp:c=43
 ·have a8:second=false:=by cases second with|false=>rfl|true=>exact absurd ⟨hp,rfl⟩ J
  subst a8;subst hp;rw[show(((43:UInt8).toNat:Nat):Int)=43 from rfl]at HN;clear hd hc C E H J b0 b1 b2;go_enter Tryz.func83,Tryz.ntmps83;go_wp2_with(rw[←D.out]);refine HN.out.mono ?_;rintro e w2 ⟨rfl,f2⟩;have hX:ARd b l x ⟨g,n,0⟩ S w2:=⟨mv,H1.out.on f2⟩;have st:=(Stp.of f2:Stp S w1 S w2);clear f2;have i:=ZH rfl HS.out HZ.out st;have rz:=Zl i _ (Fr.refl _ _);obtain⟨p1,p2⟩:=Zad F1.out rfl t.out HS.out hX st (.int .i64 0) (.int .i64 0) (.string ⟨#[]⟩) .nilIface;have P1:=hid p1;have P2:=hid p2;have m:=hid (setFour_heap i (.int .i64 0) (.int .i64 0) (.string ⟨#[]⟩) .nilIface);clear hX st i p1 p2;go_wp2;(try simp only[Exit.inBlock,Exit.then]);exact bodyPost_ret (Zo rfl rfl m.out rfl rfl rfl rfl) rfl ⟨_,S,rfl,ZkS.nil 0 0 [],P1.out,P2.out⟩
 have c5:((c.toNat:Int)==43)=false:=by
  have:c.toNat≠43:=fun h=>hp (UInt8.toNat_inj.1 h);simp;omega
 by_cases a7:48≤c.toNat
 ·have q1:(48:Int)≤(c.toNat:Int):=by omega
  have q2:¬(c.toNat:Int)≤57:=by omega
  clear hd hc C E H J hp a7;go_enter Tryz.func83,Tryz.ntmps83;go_wp2_with(rw[←D.out]);refine HN.out.mono ?_;rintro e w2 ⟨rfl,f2⟩;have hX:ARd b l x ⟨g,n,0⟩ S w2:=⟨mv,H1.out.on f2⟩;have st:=(Stp.of f2:Stp S w1 S w2);clear f2;have i:=ZH rfl HS.out HZ.out st;have rz:=Zl i _ (Fr.refl _ _);obtain⟨p1,p2⟩:=Zad F1.out rfl t.out HS.out hX st (.int .i64 0) (.int .i64 0) (.string ⟨#[]⟩) .nilIface;have P1:=hid p1;have P2:=hid p2;have m:=hid (setFour_heap i (.int .i64 0) (.int .i64 0) (.string ⟨#[]⟩) .nilIface);clear hX st i p1 p2;go_wp2;(try simp only[Exit.inBlock,Exit.then]);exact bodyPost_ret (Zo rfl rfl m.out rfl rfl rfl rfl) rfl ⟨_,S,rfl,ZkS.nil 0 0 [],P1.out,P2.out⟩
 ·have q1:¬(48:Int)≤(c.toNat:Int):=by omega
  clear hd hc C E H J hp a7;go_enter Tryz.func83,Tryz.ntmps83;go_wp2_with(rw[←D.out]);refine HN.out.mono ?_;rintro e w2 ⟨rfl,f2⟩;have hX:ARd b l x ⟨g,n,0⟩ S w2:=⟨mv,H1.out.on f2⟩;have st:=(Stp.of f2:Stp S w1 S w2);clear f2;have i:=ZH rfl HS.out HZ.out st;have rz:=Zl i _ (Fr.refl _ _);obtain⟨p1,p2⟩:=Zad F1.out rfl t.out HS.out hX st (.int .i64 0) (.int .i64 0) (.string ⟨#[]⟩) .nilIface;have P1:=hid p1;have P2:=hid p2;have m:=hid (setFour_heap i (.int .i64 0) (.int .i64 0) (.string ⟨#[]⟩) .nilIface);clear hX st i p1 p2;go_wp2;(try simp only[Exit.inBlock,Exit.then]);exact bodyPost_ret (Zo rfl rfl m.out rfl rfl rfl rfl) rfl ⟨_,S,rfl,ZkS.nil 0 0 [],P1.out,P2.out⟩
structure GV where
 a:AV
 b:AV
 no:Bool
abbrev ZpG:=(Int×Nat)⊕(GV×AdS)
def Zbc(x:Bool)(l:List UInt8)(s:AdS):ZlK:=
 if byt l (bhd l [32,9] s.at_)=44 then
  (match ZaC x l true ⟨bhd l [32,9] (bhd l [32,9] s.at_+1),s.marks,0⟩with
  | .inl e=>.inl e
  | .inr (a,s')=>if a.kind=0 then .inl (12,s'.at_)else .inr (a,s'))
 else .inr (AV.zero,⟨bhd l [32,9] s.at_,s.marks,0⟩)
def ZgT(l:List UInt8)(a b:AV)(s:AdS):ZpG:=
 if byt l (bhd l [32,9] s.at_)=33 then
  (if byt l (bhd l [32,9] (bhd l [32,9] s.at_+1))=33 then .inl (15,bhd l [32,9] (bhd l [32,9] s.at_+1))
  else .inr (⟨a,b,true⟩,⟨bhd l [32,9] (bhd l [32,9] s.at_+1),s.marks,0⟩))
 else .inr (⟨a,b,false⟩,⟨bhd l [32,9] s.at_,s.marks,0⟩)
def ZX(x:Bool)(l:List UInt8)(s:AdS):ZpG:=
 match ZaC x l false s with
 | .inl e=>.inl e
 | .inr (a,s1)=>
   match(if a.kind=0 then .inr (AV.zero,s1)else Zbc x l s1:ZlK)with
   | .inl e=>.inl e
   | .inr (b,s2)=>ZgT l a b s2
theorem ZkV(at_:Nat):∀(r:List UInt8) (n c:Nat),(nm at_ r n c).2.1≤at_+c+r.length
 |[],n,c=>by rw[nm];split<;>simp
 |b::r,n,c=>by
  have ih:=ZkV at_ r (n*10+(b.toNat-48)) (c+1);rw[nm];split
  ·split
   ·simp;omega
   ·simp only[List.length_cons];omega
  ·split<;>simp<;>omega
theorem bt_in(l:List UInt8)(d:UInt8)(rx:Bool):∀(n k:Nat) (out:List UInt8),(bt l d rx n k out).2.2=0→(bt l d rx n k out).2.1≤l.length
 |0,k,out=>by simp[bt]
 |n+1,k,out=>by
  rw[bt];cases hc:l[k]? with
  |none=>simp
  |some c=>
   have hk:=(List.getElem?_eq_some_iff.1 hc).1;simp only;split
   ·intro _;exact hk
   ·split
    ·split
     ·exact bt_in l d rx n _ _
     ·next h=>intro h';exact absurd h' h
    ·generalize(if c=91∧rx=true then brE l k-k else 1)=m;split
     ·exact bt_in l d rx n _ _
     ·intro h;cases h
theorem bhd_le(l cs:List UInt8)(k:Nat):bhd l cs k≤l.length:=Nat.sub_le _ _
theorem ZkW{l:List UInt8}{s:AdS}{z:Int×Nat}(h:Zdj l s=.inl z):z.1≠0:=by
 unfold Zdj at h;split at h
 ·next h0=>injection h with h;subst h;exact h0
 ·split at h
  ·injection h with h;subst h;intro e;cases e
  ·cases h
theorem moreD_err{l:List UInt8}{s:AdS}{z:Int×Nat}(h:Zdk l s=.inl z):z.1≠0:=by
 unfold Zdk at h;split at h
 ·next h0=>injection h with h;subst h;exact h0
 ·cases h
theorem regexD_err{x:Bool}{l:List UInt8}{d:UInt8}{s:AdS}{z:Int×Nat}(h:ZaE x l d s=.inl z):z.1≠0:=by
 unfold ZaE at h;split at h
 ·next h0=>injection h with h;subst h;exact h0
 ·split at h
  ·injection h with h;subst h;intro e;cases e
  ·split at h
   ·next y hp=>injection h with h;subst h;show y.1≠0;exact parseD_err hp
   ·cases h
theorem addrD_err{x:Bool}{l:List UInt8}{sec:Bool}{s:AdS}{z:Int×Nat}(h:ZaC x l sec s=.inl z):z.1≠0:=by
 unfold ZaC at h;split at h
 ·exact ZkW h
 ·split at h
  ·cases h
  ·split at h
   ·exact regexD_err h
   ·split at h
    ·split at h
     ·injection h with h;subst h;intro e;cases e
     ·exact regexD_err h
    ·split at h
     ·exact moreD_err h
     ·cases h
structure Fwd(l:List UInt8)(s s':AdS):Prop where
 le:s'.at_≤l.length
 mks:s'.marks.length≤s.marks.length+l.length+1
 ok:s'.e=0
theorem Zmz{l:List UInt8}{s s':AdS}{a:AV}(hs:s.at_≤l.length)(h:Zdj l s=.inr (a,s')):Fwd l s s':=by
 unfold Zdj at h;split at h
 ·cases h
 ·split at h
  ·cases h
  ·injection h with h;injection h with h1 h2;subst h2;have:=ZkV s.at_ (l.drop s.at_) 0 0;rw[List.length_drop]at this;exact⟨by show(nm s.at_ (l.drop s.at_) 0 0).2.1≤_;omega,by show s.marks.length≤_;omega,rfl⟩
theorem ZmA{l:List UInt8}{s s':AdS}{a:AV}(hs:s.at_+1≤l.length)(h:Zdk l s=.inr (a,s')):Fwd l s s':=by
 unfold Zdk at h;split at h
 ·cases h
 ·injection h with h;injection h with h1 h2;subst h2;have:=ZkV (s.at_+1) (l.drop (s.at_+1)) 0 0;rw[List.length_drop]at this;exact⟨by show(nm (s.at_+1) (l.drop (s.at_+1)) 0 0).2.1≤_;omega,by show(s.marks++_).length≤_;rw[List.length_append];simp,rfl⟩
theorem Zgk{x:Bool}{l:List UInt8}{d:UInt8}{s s':AdS}{a:AV}(h:ZaE x l d s=.inr (a,s')):Fwd l s s':=by
 unfold ZaE at h;split at h
 ·cases h
 ·next h0=>
  split at h
  ·cases h
  ·split at h
   ·cases h
   ·next t r hp=>
    injection h with h;injection h with h1 h2;subst h2;have h0:(bt l d true (l.length+1) s.at_ []).2.2=0:=by simpa using h0
    have h1:=bt_in l d true (l.length+1) s.at_ [] h0;have h2:=ZdC l d true (l.length+1) s.at_ [];have h3:=(parseD_marks hp).2.1;simp only[List.length_nil,Nat.zero_add]at h2;exact⟨h1,by show(s.marks++_).length≤_;rw[List.length_append,List.length_map];omega,rfl⟩
theorem Zam{x:Bool}{l:List UInt8}{sec:Bool}{s s':AdS}{a:AV}(hs:s.at_≤l.length)(hs0:s.e=0)(h:ZaC x l sec s=.inr (a,s')):Fwd l s s':=by
 unfold ZaC at h;split at h
 ·exact Zmz hs h
 ·split at h
  ·next hc=>
   injection h with h;injection h with h1 h2;subst h2;have:=ZaO (l:=l) (k:=s.at_) (by rw[hc];decide);exact⟨this,by show s.marks.length≤_;omega,rfl⟩
  ·split at h
   ·have:=Zgk h;exact⟨this.le,this.mks,this.ok⟩
   ·split at h
    ·split at h
     ·cases h
     ·have:=Zgk h;exact⟨this.le,this.mks,this.ok⟩
    ·split at h
     ·next hc=>
      have:=ZaO (l:=l) (k:=s.at_) (by rw[hc.1];decide);exact ZmA this h
     ·injection h with h;injection h with h1 h2;subst h2;exact⟨hs,by omega,hs0⟩
theorem pairD_err{x:Bool}{l:List UInt8}{s:AdS}{z:Int×Nat}(h:Zbc x l s=.inl z):z.1≠0:=by
 unfold Zbc at h;split at h
 ·split at h
  ·next y hp=>injection h with h;subst h;exact addrD_err hp
  ·split at h
   ·injection h with h;subst h;intro e;cases e
   ·cases h
 ·cases h
theorem pairD_in{x:Bool}{l:List UInt8}{s s':AdS}{a:AV}(h:Zbc x l s=.inr (a,s')):Fwd l s s':=by
 unfold Zbc at h;split at h
 ·split at h
  ·cases h
  ·next b s1 hp=>
   split at h
   ·cases h
   ·injection h with h;injection h with h1 h2;subst h2;have:=Zam (bhd_le _ _ _) rfl hp;exact⟨this.le,this.mks,this.ok⟩
 ·injection h with h;injection h with h1 h2;subst h2;exact⟨bhd_le _ _ _,by show s.marks.length≤_;omega,rfl⟩
abbrev zG:Array Value:= #[.int .i64 0,.int .i64 0,.string ⟨#[]⟩,.nilIface,.int .i64 0,.int .i64 0,.string ⟨#[]⟩,.nilIface,.bool false]
abbrev Zqb(w:World)(g:Nat)(v0 v1 v2 v3:Value):World:=(((w.setCell ⟨g,4,none⟩ v0).setCell ⟨g,5,none⟩ v1).setCell ⟨g,6,none⟩ v2).setCell ⟨g,7,none⟩ v3
theorem Zgl{w:World}{g:Nat}{a0 a1 a2 a3 a4 a5 a6 a7 a8:Value}{T:TypeId}{fr:Nat×Nat}(h:w.heap[g]? =some (.cells #[a0,a1,a2,a3,a4,a5,a6,a7,a8] T fr))(v0 v1 v2 v3:Value):
 (Zqb w g v0 v1 v2 v3).heap[g]? =some (.cells #[a0,a1,a2,a3,v0,v1,v2,v3,a8] T fr):=by
 have h0:=Za h 4 v0;have h1:=Za h0 5 v1;have h2:=Za h1 6 v2;have h3:=Za h2 7 v3;simpa using h3
theorem ZdM(w:World)(g:Nat)(v0 v1 v2 v3:Value):Fr (fun k=>k=g) w (Zqb w g v0 v1 v2 v3):=by
 have h:∀(x:World) (j:Nat) (v:Value),Fr (fun k=>k=g) w x→Fr (fun k=>k=g) w (x.setCell ⟨g,j,none⟩ v):=fun x j v hx=>hx.setCell (p:=⟨g,j,none⟩) (fun _=>rfl) v;exact h _ _ _ (h _ _ _ (h _ _ _ (h _ _ _ (Fr.refl _ _))))
theorem Zk{w:World}{b:Nat}{v0 v1 v2 v3 v4 v5 v6 v7 v8:Value}{T:TypeId}(h:w.heap[b]? =some (.cells #[v0,v1,v2,v3,v4,v5,v6,v7,v8] T (0,0))):∀w',Fr nob w w'→
 (w'.cell? ⟨b,0,none⟩=some v0∧w'.cell? ⟨b,1,none⟩=some v1∧w'.cell? ⟨b,2,none⟩=some v2∧w'.cell? ⟨b,3,none⟩=some v3∧w'.cell? ⟨b,4,none⟩=some v4∧w'.cell? ⟨b,5,none⟩=some v5∧w'.cell? ⟨b,6,none⟩=some v6∧w'.cell? ⟨b,7,none⟩=some v7∧w'.cell? ⟨b,8,none⟩=some v8)∧
 (w'.frozen? ⟨b,0,none⟩=false∧w'.frozen? ⟨b,1,none⟩=false∧w'.frozen? ⟨b,2,none⟩=false∧w'.frozen? ⟨b,3,none⟩=false∧w'.frozen? ⟨b,4,none⟩=false∧w'.frozen? ⟨b,5,none⟩=false∧w'.frozen? ⟨b,6,none⟩=false∧w'.frozen? ⟨b,7,none⟩=false∧w'.frozen? ⟨b,8,none⟩=false):=fun _ f=>by
 have h':=f.heap h (fun x=>x);exact⟨⟨cell_at h' rfl,cell_at h' rfl,cell_at h' rfl,cell_at h' rfl,cell_at h' rfl,cell_at h' rfl,cell_at h' rfl,cell_at h' rfl,cell_at h' rfl⟩,unfrozen_at h' _,unfrozen_at h' _,unfrozen_at h' _,unfrozen_at h' _,unfrozen_at h' _,unfrozen_at h' _,unfrozen_at h' _,unfrozen_at h' _,unfrozen_at h' _⟩
def GS(S:Nat→Prop)(g:Nat):Nat→Prop:=fun k=>S k∨k=g
section
variable {S S':Nat→Prop} {g:Nat} {w w' wX:World}
theorem Stp.gs(h:Stp S w S' w')(hg:g<w.heap.size):Stp (GS S g) w (GS S' g) w':=
 ⟨h.fr.mono (fun _ _ x=>.inl x),fun k hk hx=>hx.elim (fun y=>.inl (h.old k hk y)) .inr,fun hl k hx=>by
  rcases hx with hx|hx
  ·exact h.lt (fun j hj=>hl j (.inl hj)) k hx
  ·subst hx;exact Nat.lt_of_lt_of_le hg h.fr.size⟩
theorem Stp.gset(h:Stp (GS S g) w (GS S' g) wX)(v0 v1 v2 v3:Value):Stp (GS S g) w (GS S' g) (Zqb wX g v0 v1 v2 v3):=
 ⟨h.fr.trans (ZdM wX g v0 v1 v2 v3) (fun k hk hx=>by have hx:k=g:=hx;exact .inr hx),h.old,fun hl k hk=>by have:=h.lt hl k hk;simpa[World.setCell]using this⟩
theorem ARd.gset{b:Nat}{l:List UInt8}{x:Bool}{s:AdS}(h:ARd b l x s S w)(hg:¬S g)(v0 v1 v2 v3:Value):ARd b l x s S (Zqb w g v0 v1 v2 v3):=by
 obtain⟨mv,h⟩:=h;exact⟨mv,h.keep (ZdM w g v0 v1 v2 v3) (fun e=>hg (e▸h.me)) (fun k hk e=>hg (e▸(h.nm k hk).2))⟩
end
def Zoc(b:Nat)(l:List UInt8)(x:Bool)(S O:Nat→Prop)(g:Nat)(k0 n0:Int)(t0:List UInt8)(u0:Value)(w:World)(R:ZlK)(r:Ending)(w':World):Prop:=r=.returned (.tuple #[])∧match R with
 | .inl (z,p)=>∃S' ms,ARd b l x ⟨p,ms,z⟩ S' w'∧¬S' g∧Stp (GS S g) w (GS S' g) w'
 | .inr (a,s')=>∃S' u,ARd b l x s' S' w'∧¬S' g∧Stp (GS S g) w (GS S' g) w'∧
   w'.heap[g]? =some (.cells #[.int .i64 k0,.int .i64 n0,.string ⟨t0.toArray⟩,u0,.int .i64 a.kind,.int .i64 a.line,.string ⟨a.text.toArray⟩,u,.bool false] 30 (0,0))∧RN (SO S' (GS O g)) w' a.tree u
theorem Zfo(b:Nat)(l:List UInt8)(x:BF)(s:AdS)(S O:Nat→Prop)(g:Nat)(k0 n0:Int)(t0:List UInt8)(u0:Value)(w:World)(hl:l.length≤100000)(ha:s.at_≤l.length)(hm:s.marks.length≤100000)(hs0:s.e=0)(hS:∀k,S k→k<w.heap.size)(hO:∀k,O k→k<w.heap.size)(W0:World)(hE:Env W0)(hW:Fr nob W0 w)(hSW:∀k,S k→W0.heap.size≤k)(h:ARd b l x s S w)
 (hgS:¬S g) (hg:w.heap[g]? =some (.cells #[.int .i64 k0,.int .i64 n0,.string ⟨t0.toArray⟩,u0,.int .i64 0,.int .i64 0,.string ⟨#[]⟩,.nilIface,.bool false] 30 (0,0))):
 Calls Tryz.prog 84 #[.pointer (some ⟨b,0,none⟩),.pointer (some ⟨g,0,none⟩)] w (Zoc b l x S O g k0 n0 t0 u0 w (Zbc x l s)):=by
 obtain⟨a4,i,e0⟩:=s;obtain rfl:e0=0:=hs0;have ha:a4≤l.length:=ha;have hm:i.length≤100000:=hm;have U:=lt_heap hg;have HB:=hid (Zi b l x ⟨a4,i,0⟩ S w hl ha h);unfold Zbc;simp only at HB⊢;obtain⟨p1,a7⟩:∃p1,bhd l [32,9] a4=p1:=⟨_,rfl⟩;have c0:p1≤l.length:=by rw[←a7];exact bhd_le _ _ _
 rw[a7]at HB⊢;have HG:=hid hg;have M:=hid hgS;have v:=hid U;have HS:=hid hS;have HO:=hid hO;have HE:=hid hE;have HW:=hid hW;have Y:=hid hSW;have a3:=hid (fun(S':Nat→Prop) w' (st:Stp S w S' w')=>show¬S' g from fun hx=>hgS (st.old g U hx));have E:=hid (fun w' (h:ARd b l x ⟨p1,i,0⟩ S w')=>Zt b l x ⟨p1,i,0⟩ S w' (by omega) h);clear h a7 hg hgS U hS hO hE hW hSW;obtain⟨c,hc⟩:∃c,byt l p1=c:=⟨_,rfl⟩;simp only at E;rw[hc]at E⊢;by_cases a0:c=44
 ·subst a0;rw[if_pos rfl];rw[show(((44:UInt8).toNat:Nat):Int)=44 from rfl]at E;have c1:p1<l.length:=ZaO (by rw[hc];decide);have c3:IntKind.i64.wrap ((p1:Int)+1)=p1+1:=IntWalk.i64_in _ (by omega);have J:=hid (fun w' (h:ARd b l x ⟨p1+1,i,0⟩ S w')=>Zi b l x ⟨p1+1,i,0⟩ S w' hl (by show p1+1≤_;omega) h);simp only at J;obtain⟨p2,a8⟩:∃p2,bhd l [32,9] (p1+1)=p2:=⟨_,rfl⟩;have a2:p2≤l.length:=by rw[←a8];exact bhd_le _ _ _
  rw[a8]at J⊢;have X:=hid (fun w' (hS':∀k,S k→k<w'.heap.size) (hO':∀k,GS O g k→k<w'.heap.size) (hW':Fr nob W0 w') (h:ARd b l x ⟨p2,i,0⟩ S w')=>Zal b l x true ⟨p2,i,0⟩ S (GS O g) w' hl a2 hm rfl hS' hO' W0 HE.out hW' Y.out h);obtain⟨R,hR⟩:∃R,ZaC x l true ⟨p2,i,0⟩=R:=⟨_,rfl⟩;rw[hR]at X⊢;have a6:∀a s',R=.inr (a,s')→s'.e=0∧s'.at_≤l.length:=fun a s' e=>by
   have:=Zam (s:=⟨p2,i,0⟩) a2 rfl (hR.trans e);exact⟨this.ok,this.le⟩
  have a5:∀z p,R=.inl (z,p)→z≠0:=fun z p e=>addrD_err (hR.trans e);clear hc a8 hR;cases R with
  |inl q=>
   obtain⟨z,p⟩:=q;have hz:¬z=0:=a5 z p rfl;have c4:(z==0)=false:=by simpa using hz
   clear a5 a6;simp only;go_enter Tryz.func84,Tryz.ntmps84;go_wp2_with fail;refine HB.out.mono ?_;rintro e w1 ⟨rfl,h1,o⟩;have D:=hid (E.out w1 h1);have H1:=hid h1;have F:=hid o;clear h1 o;go_wp2_with fail;refine D.out.mono ?_;rintro e w2 ⟨rfl,f2⟩;obtain⟨mv,h2⟩:=H1.out.on f2;have r2:=Zd h2.blk _ (Fr.refl _ _);have h3:=h2.turned 1 (.int .i64 ((p1:Int)+1)) ⟨p1+1,i,0⟩ (by simp) rfl;have r:=(F.out.trans (Stp.of f2)).trans (h2.stp 1 (.int .i64 ((p1:Int)+1)));obtain⟨wA,n⟩:∃wA,wA=w2.setCell ⟨b,1,none⟩ (.int .i64 ((p1:Int)+1)):=⟨_,rfl⟩;rw[←n]at h3 r;have P:=hid n;have K:=hid (J.out wA ⟨mv,h3⟩);have Q:=hid r;clear h2 h3 r n f2;go_wp2_with(rw[←P.out]);refine K.out.mono ?_;rintro e w4 ⟨rfl,h4,B⟩;have st:=Q.out.trans B;have V:=st.fr.size;have u:=hid (X.out w4 (fun k hk=>by have:=HS.out k hk;omega) (fun k hk=>by rcases hk with hk|hk;have:=HO.out k hk;omega;have:=v.out;omega) (st.from HW.out Y.out) h4)
   have ST:=hid st;clear h4 B st V r2;go_wp2_with fail;refine u.out.mono ?_;intro e w5 he;obtain⟨rfl,S',ms,h5,C⟩:=he;have st:=ST.out.trans C;have m:=a3.out S' w5 st;have t:=st.fr.heap HG.out M.out;have rg:=Zk t _ (Fr.refl _ _);have h6:=h5.gset m (.int .i64 0) (.int .i64 0) (.string ⟨#[]⟩) .nilIface;have f:=(st.gs v.out).gset (.int .i64 0) (.int .i64 0) (.string ⟨#[]⟩) .nilIface;obtain⟨w6,d⟩:∃w6,w6=(((w5.setCell ⟨g,4,none⟩ (.int .i64 0)).setCell ⟨g,5,none⟩ (.int .i64 0)).setCell ⟨g,6,none⟩ (.string ⟨#[]⟩)).setCell ⟨g,7,none⟩ .nilIface:=⟨_,rfl⟩;have h6:ARd b l x ⟨p,ms,z⟩ S' w6:=by rw[d];exact h6
   have f:Stp (GS S g) w (GS S' g) w6:=by rw[d];exact f
   obtain⟨W,j⟩:=h6;have r6:=Zd j.blk _ (Fr.refl _ _);have N:=hid d;have H6:=hid j;have I:=hid f;have L:=hid m;clear C st h5 j f d t m;go_wp2_with(rw[←N.out])
   go_end0
   exact⟨rfl,S',ms,⟨W,H6.out⟩,L.out,I.out⟩
  |inr q=>
   obtain⟨A,s'⟩:=q;obtain⟨Z,b0,e1⟩:=s';obtain⟨b5,a1⟩:=a6 A _ rfl;obtain rfl:e1=0:=b5;have a1:Z≤l.length:=a1;clear a5 a6;simp only;by_cases hk:A.kind=0
   ·rw[if_pos hk];have HK:=hid hk;clear hk;go_enter Tryz.func84,Tryz.ntmps84;go_wp2_with fail;refine HB.out.mono ?_;rintro e w1 ⟨rfl,h1,o⟩;have D:=hid (E.out w1 h1);have H1:=hid h1;have F:=hid o;clear h1 o;go_wp2_with fail;refine D.out.mono ?_;rintro e w2 ⟨rfl,f2⟩;obtain⟨mv,h2⟩:=H1.out.on f2;have r2:=Zd h2.blk _ (Fr.refl _ _);have h3:=h2.turned 1 (.int .i64 ((p1:Int)+1)) ⟨p1+1,i,0⟩ (by simp) rfl;have r:=(F.out.trans (Stp.of f2)).trans (h2.stp 1 (.int .i64 ((p1:Int)+1)));obtain⟨wA,n⟩:∃wA,wA=w2.setCell ⟨b,1,none⟩ (.int .i64 ((p1:Int)+1)):=⟨_,rfl⟩;rw[←n]at h3 r;have P:=hid n;have K:=hid (J.out wA ⟨mv,h3⟩);have Q:=hid r;clear h2 h3 r n f2;go_wp2_with(rw[←P.out]);refine K.out.mono ?_;rintro e w4 ⟨rfl,h4,B⟩;have st:=Q.out.trans B;have V:=st.fr.size;have u:=hid (X.out w4 (fun k hk=>by have:=HS.out k hk;omega) (fun k hk=>by rcases hk with hk|hk;have:=HO.out k hk;omega;have:=v.out;omega) (st.from HW.out Y.out) h4)
    have ST:=hid st;clear h4 B st V r2;go_wp2_with fail;refine u.out.mono ?_;intro e w5 he;obtain⟨v5,S',rfl,⟨u5,rfl,H⟩,h5,C⟩:=he;have st:=ST.out.trans C;have m:=a3.out S' w5 st;have t:=st.fr.heap HG.out M.out;have rg:=Zk t _ (Fr.refl _ _);have h6:=h5.gset m (.int .i64 A.kind) (.int .i64 A.line) (.string ⟨A.text.toArray⟩) u5;have f:=(st.gs v.out).gset (.int .i64 A.kind) (.int .i64 A.line) (.string ⟨A.text.toArray⟩) u5;obtain⟨w6,d⟩:∃w6,w6=(((w5.setCell ⟨g,4,none⟩ (.int .i64 A.kind)).setCell ⟨g,5,none⟩ (.int .i64 A.line)).setCell ⟨g,6,none⟩ (.string ⟨A.text.toArray⟩)).setCell ⟨g,7,none⟩ u5:=⟨_,rfl⟩;have h6:ARd b l x ⟨Z,b0,0⟩ S' w6:=by rw[d];exact h6
    have f:Stp (GS S g) w (GS S' g) w6:=by rw[d];exact f
    have G:w6.heap[g]? =some (.cells #[.int .i64 k0,.int .i64 n0,.string ⟨t0.toArray⟩,u0,.int .i64 A.kind,.int .i64 A.line,.string ⟨A.text.toArray⟩,u5,.bool false] 30 (0,0)):=by rw[d];exact Zgl t (.int .i64 A.kind) (.int .i64 A.line) (.string ⟨A.text.toArray⟩) u5
    have y:RN (SO S' (GS O g)) w6 A.tree u5:=by rw[d];exact RN.keep (ZdM w5 g _ _ _ _) (fun k _ hk=>.inr (.inr hk)) (fun k _ hx=>hx) _ _ H
    obtain⟨W,j⟩:=h6;have r6:=Zd j.blk _ (Fr.refl _ _);have b6:=Zk G _ (Fr.refl _ _);have N:=hid d;have H6:=hid j;have I:=hid f;have L:=hid m;have b1:=hid G;have b2:=hid y;rw[HK.out]at b6;have b9:=hid (ZaB b l x _ S' 12 Z w6 ⟨W,j⟩);have a9:=H.shape;clear C st h5 j f d t m G H y;rcases a9 with rfl|⟨iv,yv,rfl⟩
    all_goals
     go_wp2_with(rw[←N.out]);refine b9.out.mono ?_;rintro e w7 ⟨rfl,h7,b7⟩;have b8:=I.out.trans (b7.gs (by have:=I.out.fr.size;have:=v.out;omega));have b4:=hid b8;have H7:=hid h7;clear h7 b7 b8;go_wp2
     go_end0
     exact⟨rfl,S',b0,H7.out,L.out,b4.out⟩
   ·rw[if_neg hk];have HK:=hid hk;clear hk;go_enter Tryz.func84,Tryz.ntmps84;go_wp2_with fail;refine HB.out.mono ?_;rintro e w1 ⟨rfl,h1,o⟩;have D:=hid (E.out w1 h1);have H1:=hid h1;have F:=hid o;clear h1 o;go_wp2_with fail;refine D.out.mono ?_;rintro e w2 ⟨rfl,f2⟩;obtain⟨mv,h2⟩:=H1.out.on f2;have r2:=Zd h2.blk _ (Fr.refl _ _);have h3:=h2.turned 1 (.int .i64 ((p1:Int)+1)) ⟨p1+1,i,0⟩ (by simp) rfl;have r:=(F.out.trans (Stp.of f2)).trans (h2.stp 1 (.int .i64 ((p1:Int)+1)));obtain⟨wA,n⟩:∃wA,wA=w2.setCell ⟨b,1,none⟩ (.int .i64 ((p1:Int)+1)):=⟨_,rfl⟩;rw[←n]at h3 r;have P:=hid n;have K:=hid (J.out wA ⟨mv,h3⟩);have Q:=hid r;clear h2 h3 r n f2;go_wp2_with(rw[←P.out]);refine K.out.mono ?_;rintro e w4 ⟨rfl,h4,B⟩;have st:=Q.out.trans B;have V:=st.fr.size;have u:=hid (X.out w4 (fun k hk=>by have:=HS.out k hk;omega) (fun k hk=>by rcases hk with hk|hk;have:=HO.out k hk;omega;have:=v.out;omega) (st.from HW.out Y.out) h4)
    have ST:=hid st;clear h4 B st V r2;go_wp2_with fail;refine u.out.mono ?_;intro e w5 he;obtain⟨v5,S',rfl,⟨u5,rfl,H⟩,h5,C⟩:=he;have st:=ST.out.trans C;have m:=a3.out S' w5 st;have t:=st.fr.heap HG.out M.out;have rg:=Zk t _ (Fr.refl _ _);have h6:=h5.gset m (.int .i64 A.kind) (.int .i64 A.line) (.string ⟨A.text.toArray⟩) u5;have f:=(st.gs v.out).gset (.int .i64 A.kind) (.int .i64 A.line) (.string ⟨A.text.toArray⟩) u5;obtain⟨w6,d⟩:∃w6,w6=(((w5.setCell ⟨g,4,none⟩ (.int .i64 A.kind)).setCell ⟨g,5,none⟩ (.int .i64 A.line)).setCell ⟨g,6,none⟩ (.string ⟨A.text.toArray⟩)).setCell ⟨g,7,none⟩ u5:=⟨_,rfl⟩;have h6:ARd b l x ⟨Z,b0,0⟩ S' w6:=by rw[d];exact h6
    have f:Stp (GS S g) w (GS S' g) w6:=by rw[d];exact f
    have G:w6.heap[g]? =some (.cells #[.int .i64 k0,.int .i64 n0,.string ⟨t0.toArray⟩,u0,.int .i64 A.kind,.int .i64 A.line,.string ⟨A.text.toArray⟩,u5,.bool false] 30 (0,0)):=by rw[d];exact Zgl t (.int .i64 A.kind) (.int .i64 A.line) (.string ⟨A.text.toArray⟩) u5
    have y:RN (SO S' (GS O g)) w6 A.tree u5:=by rw[d];exact RN.keep (ZdM w5 g _ _ _ _) (fun k _ hk=>.inr (.inr hk)) (fun k _ hx=>hx) _ _ H
    obtain⟨W,j⟩:=h6;have r6:=Zd j.blk _ (Fr.refl _ _);have b6:=Zk G _ (Fr.refl _ _);have N:=hid d;have H6:=hid j;have I:=hid f;have L:=hid m;have b1:=hid G;have b2:=hid y;have c2:(A.kind==0)=false:=by simpa using HK.out
    have a9:=H.shape;clear C st h5 j f d t m G H y;rcases a9 with rfl|⟨iv,yv,rfl⟩
    all_goals
     go_wp2_with(rw[←N.out])
     go_end0
     exact⟨rfl,S',_,⟨W,H6.out⟩,L.out,I.out,b1.out,b2.out⟩
 ·rw[if_neg a0];have c5:((c.toNat:Int)==44)=false:=by
   have:c.toNat≠44:=fun h=>a0 (UInt8.toNat_inj.1 h);simp;omega
  clear hc a0;go_enter Tryz.func84,Tryz.ntmps84;go_wp2_with fail;refine HB.out.mono ?_;rintro e w1 ⟨rfl,h1,o⟩;have D:=hid (E.out w1 h1);have H1:=hid h1;have F:=hid o;clear h1 o;go_wp2_with fail;refine D.out.mono ?_;rintro e w2 ⟨rfl,f2⟩;have b3:=hid (F.out.trans (Stp.of f2));have H2:=hid (H1.out.on f2);clear f2;go_wp2;exact bodyPost_ret (results_none rfl _ _ _) rfl ⟨rfl,S,.nilIface,H2.out,M.out,b3.out.gs v.out,b3.out.fr.heap HG.out M.out,by show RN _ w2 .nil .nilIface;rw[RN]⟩
end Go.Proofs.YtkfddjopbocpkaaGreatDoor
