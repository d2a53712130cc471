/-
  Merged texts of this claim: AdrE, AdrF, AdrG.
-/
import Derived.Test.YtkfddjopbocpkaaGreatDoorM20
set_option linter.unusedVariables false
set_option linter.unusedSimpArgs false
set_option maxRecDepth 100000
set_option maxHeartbeats 4000000
namespace Go.Proofs.YtkfddjopbocpkaaGreatDoor
open Go.Lib (hid)
open Go.RowKit
def Zar(x:Bool)(l:List UInt8)(second:Bool)(s:AdS):ZkQ:=
 if 48≤(byt l s.at_).toNat∧(byt l s.at_).toNat≤57 then Zcu l s
 else if byt l s.at_=36 then .inr (⟨2,0,[],.nil⟩,⟨s.at_+1,s.marks,0⟩)
 else if byt l s.at_=47 then ZaL x l 47 ⟨s.at_+1,s.marks,0⟩
 else if byt l s.at_=92 then(if l.length≤s.at_+1∨byt l (s.at_+1)=92∨byt l (s.at_+1)=10 then .inl (12,s.at_)else ZaL x l (byt l (s.at_+1)) ⟨s.at_+1+1,s.marks,0⟩)
 else if byt l s.at_=43∧second=true then Zdn l s
 else .inr (AV.zero,s)
theorem Zba{l:List UInt8}{k:Nat}(h:byt l k≠0):k<l.length:=by
 refine Nat.lt_of_not_le fun hk=>h (ZiQ hk)
theorem ZgS(b:Nat)(l:List UInt8)(d:UInt8)(x:BF)(s:AdS)(S O:Nat→Prop)(w:World)(hl:l.length≤100000)(ha:s.at_≤l.length)(hm:s.marks.length≤100000)(hs0:s.e=0)(hS:∀k,S k→k<w.heap.size)(hO:∀k,O k→k<w.heap.size)(hE:Env w)(h:ARd b l x s S w):
 Calls Tryz.prog 111 #[.pointer (some ⟨b,0,none⟩),.int .u8 (d.toNat:Int)] w (ZiS b l x S O w (ZaL x l d s)):=by
 cases hR:ZaL x l d s with
 |inl z=>
  obtain⟨z,p⟩:=z;exact ZfT b l d x s S w hl ha hS hE h z p hR
 |inr q=>
  unfold ZaL at hR;split at hR
  ·cases hR
  ·next h0=>
   split at hR
   ·cases hR
   ·next hT=>
    split at hR
    ·cases hR
    ·next t r hp=>
     injection hR with hR;subst hR;exact ad_regex_ok b l d x s S O w hl ha hm hs0 hS hO hE h _ _ (by
      have h0:(bt l d true (l.length+1) s.at_ []).2.2=0:=by simpa using h0
      rw[←h0]) hT t r hp
theorem Zad(b:Nat)(l:List UInt8)(x:BF)(second:Bool)(s:AdS)(S O:Nat→Prop)(w:World)(hl:l.length≤100000)(ha:s.at_≤l.length)(hm:s.marks.length≤100000)(hs0:s.e=0)(hS:∀k,S k→k<w.heap.size)(hO:∀k,O k→k<w.heap.size)(W0:World)(hE:Env W0)(hW:Fr nob W0 w)(hSW:∀k,S k→W0.heap.size≤k)(h:ARd b l x s S w):
 Calls Tryz.prog 83 #[.pointer (some ⟨b,0,none⟩),.bool second] w (ZiS b l x S O w (Zar x l second s)):=by
 obtain⟨at0,ms0,e0⟩:=s;obtain rfl:e0=0:=hs0;have ha:at0≤l.length:=ha;have hm:ms0.length≤100000:=hm;obtain⟨w1,hw1⟩:∃w1,w1=w.alloc (.cells zA 28):=⟨_,rfl⟩;have f1:Fr nob w w1:=by rw[hw1];exact(Fr.refl _ _).alloc _
 have hz:w1.heap[w.heap.size]? =some (.cells zA 28 (0,0)):=by rw[hw1];exact newAt _ _
 have h1:=h.on f1;have hN:=Zq b l x ⟨at0,ms0,0⟩ S w1 (by omega) h1;simp only at hN;have hsz:w1.heap.size=w.heap.size+1:=by rw[hw1];simp
 have hSb:∀(w':World),Fr nob w1 w'→∀k,S k→k<w'.heap.size:=fun w' f k hk=>by have:=hS k hk;have:=f.size;omega
 have hOb:∀(w':World),Fr nob w1 w'→∀k,(O k∨k=w.heap.size)→k<w'.heap.size:=fun w' f k hk=>by
  have:=f.size;rcases hk with hk|hk
  ·have:=hO k hk;omega
  ·omega
 have hEb:∀(w':World) (S':Nat→Prop),Stp S w1 S' w'→Env w':=fun w' S' st=>hE.on (st.from (hW.trans' f1) hSW);obtain⟨mv,h1'⟩:=h1;have H1:=hid h1';have HN:=hid hN;have HW1:=hid hw1;have HS:=hid hS;have F1:=hid f1;have HZ:=hid hz;have HLT:=hid (lt_heap hz);have HSB:=hid hSb;have HOB:=hid hOb;have HEB:=hid hEb;unfold Zar;simp only;clear h h1' hN hw1 hS f1 hz hO hE hW hSW hsz hSb hOb hEb;obtain⟨c,hc⟩:∃c,byt l at0=c:=⟨_,rfl⟩;rw[hc]at HN⊢;by_cases hd:48≤c.toNat∧c.toNat≤57
 ·rw[if_pos hd];have q1:(48:Int)≤(c.toNat:Int):=by omega
  have q2:(c.toNat:Int)≤57:=by omega
  have HC:=hid (fun w' (f:Fr nob w1 w')=>ZlA b l x ⟨at0,ms0,0⟩ S (fun k=>O k∨k=w.heap.size) w' hl ha (HSB.out w' f) ⟨mv,H1.out.on f⟩);obtain⟨R,hR⟩:∃R,Zcu l ⟨at0,ms0,0⟩=R:=⟨_,rfl⟩;rw[hR]at HC⊢;clear hR hd hc;go_enter Tryz.func83,Tryz.ntmps83
  go_wp2_with(rw[←HW1.out])
  refine HN.out.mono ?_;rintro e w2 ⟨rfl,f2⟩;have ST0:=hid (Stp.of f2:Stp S w1 S w2);have FF2:=hid f2;clear f2
  go_wp2_with fail
  refine(HC.out _ FF2.out).mono ?_;intro e w3 he;cases R with
  |inl q=>
   obtain⟨z,p⟩:=q;obtain⟨rfl,S',ms,hX,st3⟩:=he;have st:=ST0.out.trans st3;clear st3;have hzX:=ZH rfl HS.out HZ.out st;have rz:=Zn hzX _ (Fr.refl _ _);obtain⟨p1,p2⟩:=ZY F1.out rfl HLT.out HS.out hX st (.int .i64 0) (.int .i64 0) (.string ⟨#[]⟩) .nilIface;have P1:=hid p1;have P2:=hid p2;have HZF:=hid (setFour_heap hzX (.int .i64 0) (.int .i64 0) (.string ⟨#[]⟩) .nilIface);clear hX st hzX p1 p2;go_wp2
   (try simp only[Exit.inBlock,Exit.then])
   exact bodyPost_ret (Zm rfl rfl HZF.out rfl rfl rfl rfl) rfl ⟨rfl,S',_,P1.out,P2.out⟩
  |inr q=>
   obtain⟨a,s'⟩:=q;obtain⟨v,S',rfl,⟨u,rfl,hrn⟩,hX,st3⟩:=he;have st:=ST0.out.trans st3;clear st3;have HRN:=hid (RN.keep (ZO w3 w.heap.size (.int .i64 a.kind) (.int .i64 a.line) (.string ⟨a.text.toArray⟩) u) (fun k _ hk=>.inr (.inr hk)) (fun k _ hx=>hx.elim .inl (fun y=>.inr (.inl y))) _ _ hrn:RN (SO S' O) _ a.tree u);have hzX:=ZH rfl HS.out HZ.out st;have rz:=Zn hzX _ (Fr.refl _ _);obtain⟨p1,p2⟩:=ZY F1.out rfl HLT.out HS.out hX st (.int .i64 a.kind) (.int .i64 a.line) (.string ⟨a.text.toArray⟩) u;have P1:=hid p1;have P2:=hid p2;have HZF:=hid (setFour_heap hzX (.int .i64 a.kind) (.int .i64 a.line) (.string ⟨a.text.toArray⟩) u);clear hX st hzX p1 p2;rcases hrn.shape with rfl|⟨iv,yv,rfl⟩
   all_goals
    clear hrn;go_wp2
    (try simp only[Exit.inBlock,Exit.then])
    exact bodyPost_ret (Zm rfl rfl HZF.out rfl rfl rfl rfl) rfl ⟨_,S',rfl,⟨_,rfl,HRN.out⟩,P1.out,P2.out⟩
 rw[if_neg hd];by_cases h36:c=36
 ·subst h36;rw[if_pos rfl];rw[show(((36:UInt8).toNat:Nat):Int)=36 from rfl]at HN;have hat:at0<l.length:=Zba (by rw[hc];decide);have hwr:IntKind.i64.wrap ((at0:Int)+1)=at0+1:=IntWalk.i64_in _ (by omega);clear hd hc;go_enter Tryz.func83,Tryz.ntmps83
  go_wp2_with(rw[←HW1.out])
  refine HN.out.mono ?_;rintro e w2 ⟨rfl,f2⟩;have h2:=H1.out.on f2;have r2:=Zd h2.blk _ (Fr.refl _ _);have h3:=h2.turned 1 (.int .i64 ((at0:Int)+1)) ⟨at0+1,ms0,0⟩ (by simp) rfl;have st3:=((Stp.of f2).trans (h2.stp 1 (.int .i64 ((at0:Int)+1))):Stp S w1 S _);obtain⟨wA,hwA⟩:∃wA,wA=w2.setCell ⟨b,1,none⟩ (.int .i64 ((at0:Int)+1)):=⟨_,rfl⟩;rw[←hwA]at h3 st3;have HWA:=hid hwA;have hX:ARd b l x ⟨at0+1,ms0,0⟩ S wA:=⟨mv,h3⟩;have st:=st3;have S':=S;clear h2 h3 st3 hwA f2;have hzX:=ZH rfl HS.out HZ.out st;have rz:=Zn hzX _ (Fr.refl _ _);obtain⟨p1,p2⟩:=ZY F1.out rfl HLT.out HS.out hX st (.int .i64 2) (.int .i64 0) (.string ⟨#[]⟩) .nilIface;have P1:=hid p1;have P2:=hid p2;have HZF:=hid (setFour_heap hzX (.int .i64 2) (.int .i64 0) (.string ⟨#[]⟩) .nilIface);clear hX st hzX p1 p2
  go_wp2_with(rw[←HWA.out])
  (try simp only[Exit.inBlock,Exit.then])
  exact bodyPost_ret (Zm rfl rfl HZF.out rfl rfl rfl rfl) rfl ⟨_,S,rfl,ZiR.nil 2 0 [],P1.out,P2.out⟩
 rw[if_neg h36];by_cases h47:c=47
 ·subst h47;rw[if_pos rfl];rw[show(((47:UInt8).toNat:Nat):Int)=47 from rfl]at HN;have hat:at0<l.length:=Zba (by rw[hc];decide);have hwr:IntKind.i64.wrap ((at0:Int)+1)=at0+1:=IntWalk.i64_in _ (by omega);have HC:=hid (fun w' (hS':∀k,S k→k<w'.heap.size) (hO':∀k,(O k∨k=w.heap.size)→k<w'.heap.size) (hE':Env w') (h:ARd b l x ⟨at0+1,ms0,0⟩ S w')=>ZgS b l 47 x ⟨at0+1,ms0,0⟩ S (fun k=>O k∨k=w.heap.size) w' hl (by show at0+1≤_;omega) hm rfl hS' hO' hE' h);obtain⟨R,hR⟩:∃R,ZaL x l 47 ⟨at0+1,ms0,0⟩=R:=⟨_,rfl⟩;rw[hR]at HC⊢;rw[show(((47:UInt8).toNat:Nat):Int)=47 from rfl]at HC;clear hd hc hR h36;go_enter Tryz.func83,Tryz.ntmps83
  go_wp2_with(rw[←HW1.out])
  refine HN.out.mono ?_;rintro e w2 ⟨rfl,f2⟩;have h2:=H1.out.on f2;have r2:=Zd h2.blk _ (Fr.refl _ _);have h3:=h2.turned 1 (.int .i64 ((at0:Int)+1)) ⟨at0+1,ms0,0⟩ (by simp) rfl;have st3:=((Stp.of f2).trans (h2.stp 1 (.int .i64 ((at0:Int)+1))):Stp S w1 S _);obtain⟨wA,hwA⟩:∃wA,wA=w2.setCell ⟨b,1,none⟩ (.int .i64 ((at0:Int)+1)):=⟨_,rfl⟩;rw[←hwA]at h3 st3;have HWA:=hid hwA;have ST0:=hid st3;have hsA:w2.heap.size=wA.heap.size:=by rw[hwA];simp[World.setCell]
  have HEA:=hid (HEB.out wA S st3);have HCA:=hid (HC.out wA (fun k hk=>by have:=HSB.out w2 f2 k hk;omega) (fun k hk=>by have:=HOB.out w2 f2 k hk;omega) HEA.out ⟨mv,h3⟩);clear h2 h3 st3 hwA f2 hsA
  go_wp2_with(rw[←HWA.out])
  refine(HCA.out).mono ?_;intro e w3 he;cases R with
  |inl q=>
   obtain⟨z,p⟩:=q;obtain⟨rfl,S',ms,hX,st3⟩:=he;have st:=ST0.out.trans st3;clear st3;have hzX:=ZH rfl HS.out HZ.out st;have rz:=Zn hzX _ (Fr.refl _ _);obtain⟨p1,p2⟩:=ZY F1.out rfl HLT.out HS.out hX st (.int .i64 0) (.int .i64 0) (.string ⟨#[]⟩) .nilIface;have P1:=hid p1;have P2:=hid p2;have HZF:=hid (setFour_heap hzX (.int .i64 0) (.int .i64 0) (.string ⟨#[]⟩) .nilIface);clear hX st hzX p1 p2;go_wp2
   (try simp only[Exit.inBlock,Exit.then])
   exact bodyPost_ret (Zm rfl rfl HZF.out rfl rfl rfl rfl) rfl ⟨rfl,S',_,P1.out,P2.out⟩
  |inr q=>
   obtain⟨a,s'⟩:=q;obtain⟨v,S',rfl,⟨u,rfl,hrn⟩,hX,st3⟩:=he;have st:=ST0.out.trans st3;clear st3;have HRN:=hid (RN.keep (ZO w3 w.heap.size (.int .i64 a.kind) (.int .i64 a.line) (.string ⟨a.text.toArray⟩) u) (fun k _ hk=>.inr (.inr hk)) (fun k _ hx=>hx.elim .inl (fun y=>.inr (.inl y))) _ _ hrn:RN (SO S' O) _ a.tree u);have hzX:=ZH rfl HS.out HZ.out st;have rz:=Zn hzX _ (Fr.refl _ _);obtain⟨p1,p2⟩:=ZY F1.out rfl HLT.out HS.out hX st (.int .i64 a.kind) (.int .i64 a.line) (.string ⟨a.text.toArray⟩) u;have P1:=hid p1;have P2:=hid p2;have HZF:=hid (setFour_heap hzX (.int .i64 a.kind) (.int .i64 a.line) (.string ⟨a.text.toArray⟩) u);clear hX st hzX p1 p2;rcases hrn.shape with rfl|⟨iv,yv,rfl⟩
   all_goals
    clear hrn;go_wp2
    (try simp only[Exit.inBlock,Exit.then])
    exact bodyPost_ret (Zm rfl rfl HZF.out rfl rfl rfl rfl) rfl ⟨_,S',rfl,⟨_,rfl,HRN.out⟩,P1.out,P2.out⟩
 rw[if_neg h47];by_cases h92:c=92
 ·subst h92;rw[if_pos rfl];rw[show(((92:UInt8).toNat:Nat):Int)=92 from rfl]at HN;have hat:at0<l.length:=Zba (by rw[hc];decide);have hwr:IntKind.i64.wrap ((at0:Int)+1)=at0+1:=IntWalk.i64_in _ (by omega);have hwr2:IntKind.i64.wrap ((at0:Int)+1+1)=at0+1+1:=IntWalk.i64_in _ (by omega);obtain⟨d,hdd⟩:∃d,byt l (at0+1)=d:=⟨_,rfl⟩;have HNX:=hid (fun w' (h:ARd b l x ⟨at0+1,ms0,0⟩ S w')=>by
   have:=Zq b l x ⟨at0+1,ms0,0⟩ S w' (by omega) h;rw[show(AdS.mk (at0+1) ms0 0).at_=at0+1 from rfl,hdd]at this;exact this)
  rw[hdd];by_cases hbad:l.length≤at0+1∨d=92∨d=10
  ·rw[if_pos hbad];have HBAD:=hid hbad;clear hd hc h36 h47 hdd hbad;by_cases hb1:l.length≤at0+1
   ·have q1:(l.length:Int)≤(at0:Int)+1:=by omega
    go_enter Tryz.func83,Tryz.ntmps83
    go_wp2_with(rw[←HW1.out])
    refine HN.out.mono ?_;rintro e w2 ⟨rfl,f2⟩;have h2:=H1.out.on f2;have r2:=Zd h2.blk _ (Fr.refl _ _);have h3:=h2.turned 1 (.int .i64 ((at0:Int)+1)) ⟨at0+1,ms0,0⟩ (by simp) rfl;have st3:=((Stp.of f2).trans (h2.stp 1 (.int .i64 ((at0:Int)+1))):Stp S w1 S _);obtain⟨wA,hwA⟩:∃wA,wA=w2.setCell ⟨b,1,none⟩ (.int .i64 ((at0:Int)+1)):=⟨_,rfl⟩;rw[←hwA]at h3 st3;have HWA:=hid hwA;have HNA:=hid (HNX.out wA ⟨mv,h3⟩);have H3:=hid h3;have ST3:=hid st3;clear h2 h3 st3 hwA f2
    go_wp2_with(rw[←HWA.out])
    refine HNA.out.mono ?_;rintro e w3 ⟨rfl,f3⟩;have h4:=H3.out.on f3;have r4:=Zd h4.blk _ (Fr.refl _ _);have HFl:=hid (Zaq b l x _ S 12 at0 w3 ⟨mv,h4⟩);have ST4:=hid (ST3.out.trans (Stp.of f3));clear h4 f3 r2
    go_wp2_with fail
    refine HFl.out.mono ?_;rintro e w4 ⟨rfl,hX,st4⟩;have st:=ST4.out.trans st4;clear st4;have hzX:=ZH rfl HS.out HZ.out st;have rz:=Zn hzX _ (Fr.refl _ _);obtain⟨p1,p2⟩:=ZY F1.out rfl HLT.out HS.out hX st (.int .i64 0) (.int .i64 0) (.string ⟨#[]⟩) .nilIface;have P1:=hid p1;have P2:=hid p2;have HZF:=hid (setFour_heap hzX (.int .i64 0) (.int .i64 0) (.string ⟨#[]⟩) .nilIface);clear hX st hzX p1 p2;go_wp2
    (try simp only[Exit.inBlock,Exit.then])
    exact bodyPost_ret (Zm rfl rfl HZF.out rfl rfl rfl rfl) rfl ⟨rfl,S,_,P1.out,P2.out⟩
   have q1:¬(l.length:Int)≤(at0:Int)+1:=by omega
   by_cases hb2:d=92
   ·subst hb2;rw[show(((92:UInt8).toNat:Nat):Int)=92 from rfl]at HNX;go_enter Tryz.func83,Tryz.ntmps83
    go_wp2_with(rw[←HW1.out])
    refine HN.out.mono ?_;rintro e w2 ⟨rfl,f2⟩;have h2:=H1.out.on f2;have r2:=Zd h2.blk _ (Fr.refl _ _);have h3:=h2.turned 1 (.int .i64 ((at0:Int)+1)) ⟨at0+1,ms0,0⟩ (by simp) rfl;have st3:=((Stp.of f2).trans (h2.stp 1 (.int .i64 ((at0:Int)+1))):Stp S w1 S _);obtain⟨wA,hwA⟩:∃wA,wA=w2.setCell ⟨b,1,none⟩ (.int .i64 ((at0:Int)+1)):=⟨_,rfl⟩;rw[←hwA]at h3 st3;have HWA:=hid hwA;have HNA:=hid (HNX.out wA ⟨mv,h3⟩);have H3:=hid h3;have ST3:=hid st3;clear h2 h3 st3 hwA f2
    go_wp2_with(rw[←HWA.out])
    refine HNA.out.mono ?_;rintro e w3 ⟨rfl,f3⟩;have h4:=H3.out.on f3;have r4:=Zd h4.blk _ (Fr.refl _ _);have HFl:=hid (Zaq b l x _ S 12 at0 w3 ⟨mv,h4⟩);have ST4:=hid (ST3.out.trans (Stp.of f3));clear h4 f3 r2
    go_wp2_with fail
    refine HFl.out.mono ?_;rintro e w4 ⟨rfl,hX,st4⟩;have st:=ST4.out.trans st4;clear st4;have hzX:=ZH rfl HS.out HZ.out st;have rz:=Zn hzX _ (Fr.refl _ _);obtain⟨p1,p2⟩:=ZY F1.out rfl HLT.out HS.out hX st (.int .i64 0) (.int .i64 0) (.string ⟨#[]⟩) .nilIface;have P1:=hid p1;have P2:=hid p2;have HZF:=hid (setFour_heap hzX (.int .i64 0) (.int .i64 0) (.string ⟨#[]⟩) .nilIface);clear hX st hzX p1 p2;go_wp2
    (try simp only[Exit.inBlock,Exit.then])
    exact bodyPost_ret (Zm rfl rfl HZF.out rfl rfl rfl rfl) rfl ⟨rfl,S,_,P1.out,P2.out⟩
   obtain rfl:d=10:=by rcases HBAD.out with h|h|h;exact absurd h hb1;exact absurd h hb2;exact h
   rw[show(((10:UInt8).toNat:Nat):Int)=10 from rfl]at HNX;go_enter Tryz.func83,Tryz.ntmps83
   go_wp2_with(rw[←HW1.out])
   refine HN.out.mono ?_;rintro e w2 ⟨rfl,f2⟩;have h2:=H1.out.on f2;have r2:=Zd h2.blk _ (Fr.refl _ _);have h3:=h2.turned 1 (.int .i64 ((at0:Int)+1)) ⟨at0+1,ms0,0⟩ (by simp) rfl;have st3:=((Stp.of f2).trans (h2.stp 1 (.int .i64 ((at0:Int)+1))):Stp S w1 S _);obtain⟨wA,hwA⟩:∃wA,wA=w2.setCell ⟨b,1,none⟩ (.int .i64 ((at0:Int)+1)):=⟨_,rfl⟩;rw[←hwA]at h3 st3;have HWA:=hid hwA;have HNA:=hid (HNX.out wA ⟨mv,h3⟩);have H3:=hid h3;have ST3:=hid st3;clear h2 h3 st3 hwA f2
   go_wp2_with(rw[←HWA.out])
   refine HNA.out.mono ?_;rintro e w3 ⟨rfl,f3⟩;have h4:=H3.out.on f3;have r4:=Zd h4.blk _ (Fr.refl _ _);have HFl:=hid (Zaq b l x _ S 12 at0 w3 ⟨mv,h4⟩);have ST4:=hid (ST3.out.trans (Stp.of f3));clear h4 f3 r2
   go_wp2_with fail
   refine HFl.out.mono ?_;rintro e w4 ⟨rfl,hX,st4⟩;have st:=ST4.out.trans st4;clear st4;have hzX:=ZH rfl HS.out HZ.out st;have rz:=Zn hzX _ (Fr.refl _ _);obtain⟨p1,p2⟩:=ZY F1.out rfl HLT.out HS.out hX st (.int .i64 0) (.int .i64 0) (.string ⟨#[]⟩) .nilIface;have P1:=hid p1;have P2:=hid p2;have HZF:=hid (setFour_heap hzX (.int .i64 0) (.int .i64 0) (.string ⟨#[]⟩) .nilIface);clear hX st hzX p1 p2;go_wp2
   (try simp only[Exit.inBlock,Exit.then])
   exact bodyPost_ret (Zm rfl rfl HZF.out rfl rfl rfl rfl) rfl ⟨rfl,S,_,P1.out,P2.out⟩
  ·rw[if_neg hbad];have q1:¬(l.length:Int)≤(at0:Int)+1:=by omega
   have q2:((d.toNat:Int)==92)=false:=by
    have:d≠92:=fun h=>hbad (.inr (.inl h));have:d.toNat≠92:=fun h=>this (UInt8.toNat_inj.1 h);simp;omega
   have q3:((d.toNat:Int)==10)=false:=by
    have:d≠10:=fun h=>hbad (.inr (.inr h));have:d.toNat≠10:=fun h=>this (UInt8.toNat_inj.1 h);simp;omega
   have HC:=hid (fun w' (hS':∀k,S k→k<w'.heap.size) (hO':∀k,(O k∨k=w.heap.size)→k<w'.heap.size) (hE':Env w') (h:ARd b l x ⟨at0+1+1,ms0,0⟩ S w')=>ZgS b l d x ⟨at0+1+1,ms0,0⟩ S (fun k=>O k∨k=w.heap.size) w' hl (by show at0+1+1≤_;omega) hm rfl hS' hO' hE' h);obtain⟨R,hR⟩:∃R,ZaL x l d ⟨at0+1+1,ms0,0⟩=R:=⟨_,rfl⟩;rw[hR]at HC⊢;clear hd hc h36 h47 hdd hbad hR;go_enter Tryz.func83,Tryz.ntmps83
   go_wp2_with(rw[←HW1.out])
   refine HN.out.mono ?_;rintro e w2 ⟨rfl,f2⟩;have h2:=H1.out.on f2;have r2:=Zd h2.blk _ (Fr.refl _ _);have h3:=h2.turned 1 (.int .i64 ((at0:Int)+1)) ⟨at0+1,ms0,0⟩ (by simp) rfl;have st3:=((Stp.of f2).trans (h2.stp 1 (.int .i64 ((at0:Int)+1))):Stp S w1 S _);obtain⟨wA,hwA⟩:∃wA,wA=w2.setCell ⟨b,1,none⟩ (.int .i64 ((at0:Int)+1)):=⟨_,rfl⟩;rw[←hwA]at h3 st3;have HWA:=hid hwA;have HNA:=hid (HNX.out wA ⟨mv,h3⟩);have H3:=hid h3;have ST3:=hid st3;have HSA:=hid (show w2.heap.size=wA.heap.size by rw[hwA];simp[World.setCell]);have FF2:=hid f2;clear h2 h3 st3 hwA f2
   go_wp2_with(rw[←HWA.out])
   refine HNA.out.mono ?_;rintro e w3' ⟨rfl,f3⟩;have h4:=H3.out.on f3;have r4:=Zd h4.blk _ (Fr.refl _ _);have h5:=h4.turned 1 (.int .i64 ((at0:Int)+1+1)) ⟨at0+1+1,ms0,0⟩ (by simp) rfl;have st5:=(ST3.out.trans ((Stp.of f3).trans (h4.stp 1 (.int .i64 ((at0:Int)+1+1)))):Stp S w1 S _);obtain⟨wB,hwB⟩:∃wB,wB=w3'.setCell ⟨b,1,none⟩ (.int .i64 ((at0:Int)+1+1)):=⟨_,rfl⟩;rw[←hwB]at h5 st5;have HWB:=hid hwB;have ST0:=hid st5;have hsB:w3'.heap.size=wB.heap.size:=by rw[hwB];simp[World.setCell]
   have hs3:=f3.size;have HEA:=hid (HEB.out wB S st5);have HCA:=hid (HC.out wB (fun k hk=>by have:=HSB.out w2 FF2.out k hk;have:=HSA.out;omega) (fun k hk=>by have:=HOB.out w2 FF2.out k hk;have:=HSA.out;omega) HEA.out ⟨mv,h5⟩);clear h4 h5 st5 hwB f3 hsB hs3 r2
   go_wp2_with(rw[←HWB.out])
   refine(HCA.out).mono ?_;intro e w3 he;cases R with
   |inl q=>
    obtain⟨z,p⟩:=q;obtain⟨rfl,S',ms,hX,st3⟩:=he;have st:=ST0.out.trans st3;clear st3;have hzX:=ZH rfl HS.out HZ.out st;have rz:=Zn hzX _ (Fr.refl _ _);obtain⟨p1,p2⟩:=ZY F1.out rfl HLT.out HS.out hX st (.int .i64 0) (.int .i64 0) (.string ⟨#[]⟩) .nilIface;have P1:=hid p1;have P2:=hid p2;have HZF:=hid (setFour_heap hzX (.int .i64 0) (.int .i64 0) (.string ⟨#[]⟩) .nilIface);clear hX st hzX p1 p2;go_wp2
    (try simp only[Exit.inBlock,Exit.then])
    exact bodyPost_ret (Zm rfl rfl HZF.out rfl rfl rfl rfl) rfl ⟨rfl,S',_,P1.out,P2.out⟩
   |inr q=>
    obtain⟨a,s'⟩:=q;obtain⟨v,S',rfl,⟨u,rfl,hrn⟩,hX,st3⟩:=he;have st:=ST0.out.trans st3;clear st3;have HRN:=hid (RN.keep (ZO w3 w.heap.size (.int .i64 a.kind) (.int .i64 a.line) (.string ⟨a.text.toArray⟩) u) (fun k _ hk=>.inr (.inr hk)) (fun k _ hx=>hx.elim .inl (fun y=>.inr (.inl y))) _ _ hrn:RN (SO S' O) _ a.tree u);have hzX:=ZH rfl HS.out HZ.out st;have rz:=Zn hzX _ (Fr.refl _ _);obtain⟨p1,p2⟩:=ZY F1.out rfl HLT.out HS.out hX st (.int .i64 a.kind) (.int .i64 a.line) (.string ⟨a.text.toArray⟩) u;have P1:=hid p1;have P2:=hid p2;have HZF:=hid (setFour_heap hzX (.int .i64 a.kind) (.int .i64 a.line) (.string ⟨a.text.toArray⟩) u);clear hX st hzX p1 p2;rcases hrn.shape with rfl|⟨iv,yv,rfl⟩
    all_goals
     clear hrn;go_wp2
     (try simp only[Exit.inBlock,Exit.then])
     exact bodyPost_ret (Zm rfl rfl HZF.out rfl rfl rfl rfl) rfl ⟨_,S',rfl,⟨_,rfl,HRN.out⟩,P1.out,P2.out⟩
 rw[if_neg h92];have n36:((c.toNat:Int)==36)=false:=by
  have:c.toNat≠36:=fun h=>h36 (UInt8.toNat_inj.1 h);simp;omega
 have n47:((c.toNat:Int)==47)=false:=by
  have:c.toNat≠47:=fun h=>h47 (UInt8.toNat_inj.1 h);simp;omega
 have n92:((c.toNat:Int)==92)=false:=by
  have:c.toNat≠92:=fun h=>h92 (UInt8.toNat_inj.1 h);simp;omega
 by_cases h43:c=43∧second=true
 ·obtain⟨rfl,rfl⟩:=h43;rw[if_pos ⟨rfl,rfl⟩];rw[show(((43:UInt8).toNat:Nat):Int)=43 from rfl]at HN;have hat:at0<l.length:=Zba (by rw[hc];decide);have HC:=hid (fun w' (f:Fr nob w1 w')=>ZlB b l x ⟨at0,ms0,0⟩ S (fun k=>O k∨k=w.heap.size) w' hl hat (by show ms0.length≤_;omega) (HSB.out w' f) ⟨mv,H1.out.on f⟩);obtain⟨R,hR⟩:∃R,Zdn l ⟨at0,ms0,0⟩=R:=⟨_,rfl⟩;rw[hR]at HC⊢;clear hd hc hR h36 h47 h92 n36 n47 n92;go_enter Tryz.func83,Tryz.ntmps83
  go_wp2_with(rw[←HW1.out])
  refine HN.out.mono ?_;rintro e w2 ⟨rfl,f2⟩;have ST0:=hid (Stp.of f2:Stp S w1 S w2);have FF2:=hid f2;clear f2
  go_wp2_with fail
  refine(HC.out _ FF2.out).mono ?_;intro e w3 he;cases R with
  |inl q=>
   obtain⟨z,p⟩:=q;obtain⟨rfl,S',ms,hX,st3⟩:=he;have st:=ST0.out.trans st3;clear st3;have hzX:=ZH rfl HS.out HZ.out st;have rz:=Zn hzX _ (Fr.refl _ _);obtain⟨p1,p2⟩:=ZY F1.out rfl HLT.out HS.out hX st (.int .i64 0) (.int .i64 0) (.string ⟨#[]⟩) .nilIface;have P1:=hid p1;have P2:=hid p2;have HZF:=hid (setFour_heap hzX (.int .i64 0) (.int .i64 0) (.string ⟨#[]⟩) .nilIface);clear hX st hzX p1 p2;go_wp2
   (try simp only[Exit.inBlock,Exit.then])
   exact bodyPost_ret (Zm rfl rfl HZF.out rfl rfl rfl rfl) rfl ⟨rfl,S',_,P1.out,P2.out⟩
  |inr q=>
   obtain⟨a,s'⟩:=q;obtain⟨v,S',rfl,⟨u,rfl,hrn⟩,hX,st3⟩:=he;have st:=ST0.out.trans st3;clear st3;have HRN:=hid (RN.keep (ZO w3 w.heap.size (.int .i64 a.kind) (.int .i64 a.line) (.string ⟨a.text.toArray⟩) u) (fun k _ hk=>.inr (.inr hk)) (fun k _ hx=>hx.elim .inl (fun y=>.inr (.inl y))) _ _ hrn:RN (SO S' O) _ a.tree u);have hzX:=ZH rfl HS.out HZ.out st;have rz:=Zn hzX _ (Fr.refl _ _);obtain⟨p1,p2⟩:=ZY F1.out rfl HLT.out HS.out hX st (.int .i64 a.kind) (.int .i64 a.line) (.string ⟨a.text.toArray⟩) u;have P1:=hid p1;have P2:=hid p2;have HZF:=hid (setFour_heap hzX (.int .i64 a.kind) (.int .i64 a.line) (.string ⟨a.text.toArray⟩) u);clear hX st hzX p1 p2;rcases hrn.shape with rfl|⟨iv,yv,rfl⟩
   all_goals
    clear hrn;go_wp2
    (try simp only[Exit.inBlock,Exit.then])
    exact bodyPost_ret (Zm rfl rfl HZF.out rfl rfl rfl rfl) rfl ⟨_,S',rfl,⟨_,rfl,HRN.out⟩,P1.out,P2.out⟩
 rw[if_neg h43];by_cases hp:c=43
 ·have hsec:second=false:=by cases second with|false=>rfl|true=>exact absurd ⟨hp,rfl⟩ h43
  subst hsec;subst hp;rw[show(((43:UInt8).toNat:Nat):Int)=43 from rfl]at HN;clear hd hc h36 h47 h92 h43 n36 n47 n92;go_enter Tryz.func83,Tryz.ntmps83
  go_wp2_with(rw[←HW1.out])
  refine HN.out.mono ?_;rintro e w2 ⟨rfl,f2⟩;have hX:ARd b l x ⟨at0,ms0,0⟩ S w2:=⟨mv,H1.out.on f2⟩;have st:=(Stp.of f2:Stp S w1 S w2);clear f2;have hzX:=ZH rfl HS.out HZ.out st;have rz:=Zn hzX _ (Fr.refl _ _);obtain⟨p1,p2⟩:=ZY F1.out rfl HLT.out HS.out hX st (.int .i64 0) (.int .i64 0) (.string ⟨#[]⟩) .nilIface;have P1:=hid p1;have P2:=hid p2;have HZF:=hid (setFour_heap hzX (.int .i64 0) (.int .i64 0) (.string ⟨#[]⟩) .nilIface);clear hX st hzX p1 p2;go_wp2
  (try simp only[Exit.inBlock,Exit.then])
  exact bodyPost_ret (Zm rfl rfl HZF.out rfl rfl rfl rfl) rfl ⟨_,S,rfl,ZiR.nil 0 0 [],P1.out,P2.out⟩
 have n43:((c.toNat:Int)==43)=false:=by
  have:c.toNat≠43:=fun h=>hp (UInt8.toNat_inj.1 h);simp;omega
 by_cases hd1:48≤c.toNat
 ·have q1:(48:Int)≤(c.toNat:Int):=by omega
  have q2:¬(c.toNat:Int)≤57:=by omega
  clear hd hc h36 h47 h92 h43 hp hd1;go_enter Tryz.func83,Tryz.ntmps83
  go_wp2_with(rw[←HW1.out])
  refine HN.out.mono ?_;rintro e w2 ⟨rfl,f2⟩;have hX:ARd b l x ⟨at0,ms0,0⟩ S w2:=⟨mv,H1.out.on f2⟩;have st:=(Stp.of f2:Stp S w1 S w2);clear f2;have hzX:=ZH rfl HS.out HZ.out st;have rz:=Zn hzX _ (Fr.refl _ _);obtain⟨p1,p2⟩:=ZY F1.out rfl HLT.out HS.out hX st (.int .i64 0) (.int .i64 0) (.string ⟨#[]⟩) .nilIface;have P1:=hid p1;have P2:=hid p2;have HZF:=hid (setFour_heap hzX (.int .i64 0) (.int .i64 0) (.string ⟨#[]⟩) .nilIface);clear hX st hzX p1 p2;go_wp2
  (try simp only[Exit.inBlock,Exit.then])
  exact bodyPost_ret (Zm rfl rfl HZF.out rfl rfl rfl rfl) rfl ⟨_,S,rfl,ZiR.nil 0 0 [],P1.out,P2.out⟩
 ·have q1:¬(48:Int)≤(c.toNat:Int):=by omega
  clear hd hc h36 h47 h92 h43 hp hd1;go_enter Tryz.func83,Tryz.ntmps83
  go_wp2_with(rw[←HW1.out])
  refine HN.out.mono ?_;rintro e w2 ⟨rfl,f2⟩;have hX:ARd b l x ⟨at0,ms0,0⟩ S w2:=⟨mv,H1.out.on f2⟩;have st:=(Stp.of f2:Stp S w1 S w2);clear f2;have hzX:=ZH rfl HS.out HZ.out st;have rz:=Zn hzX _ (Fr.refl _ _);obtain⟨p1,p2⟩:=ZY F1.out rfl HLT.out HS.out hX st (.int .i64 0) (.int .i64 0) (.string ⟨#[]⟩) .nilIface;have P1:=hid p1;have P2:=hid p2;have HZF:=hid (setFour_heap hzX (.int .i64 0) (.int .i64 0) (.string ⟨#[]⟩) .nilIface);clear hX st hzX p1 p2;go_wp2
  (try simp only[Exit.inBlock,Exit.then])
  exact bodyPost_ret (Zm rfl rfl HZF.out rfl rfl rfl rfl) rfl ⟨_,S,rfl,ZiR.nil 0 0 [],P1.out,P2.out⟩
structure GV where
 a:AV
 b:AV
 no:Bool
abbrev Zno:=(Int×Nat)⊕(GV×AdS)
def Zbs(x:Bool)(l:List UInt8)(s:AdS):ZkQ:=
 if byt l (bhd l [32,9] s.at_)=44 then
  (match Zar x l true ⟨bhd l [32,9] (bhd l [32,9] s.at_+1),s.marks,0⟩with
  | .inl e=>.inl e
  | .inr (a,s')=>if a.kind=0 then .inl (12,s'.at_)else .inr (a,s'))
 else .inr (AV.zero,⟨bhd l [32,9] s.at_,s.marks,0⟩)
def ZfU(l:List UInt8)(a b:AV)(s:AdS):Zno:=
 if byt l (bhd l [32,9] s.at_)=33 then
  (if byt l (bhd l [32,9] (bhd l [32,9] s.at_+1))=33 then .inl (15,bhd l [32,9] (bhd l [32,9] s.at_+1))
  else .inr (⟨a,b,true⟩,⟨bhd l [32,9] (bhd l [32,9] s.at_+1),s.marks,0⟩))
 else .inr (⟨a,b,false⟩,⟨bhd l [32,9] s.at_,s.marks,0⟩)
def ZU(x:Bool)(l:List UInt8)(s:AdS):Zno:=
 match Zar x l false s with
 | .inl e=>.inl e
 | .inr (a,s1)=>
   match(if a.kind=0 then .inr (AV.zero,s1)else Zbs x l s1:ZkQ)with
   | .inl e=>.inl e
   | .inr (b,s2)=>ZfU l a b s2
theorem ZiU(at_:Nat):∀(r:List UInt8) (n c:Nat),(nm at_ r n c).2.1≤at_+c+r.length
 |[],n,c=>by rw[nm];split<;>simp
 |b::r,n,c=>by
  have ih:=ZiU at_ r (n*10+(b.toNat-48)) (c+1);rw[nm];split
  ·split
   ·simp;omega
   ·simp only[List.length_cons];omega
  ·split<;>simp<;>omega
theorem bt_in(l:List UInt8)(d:UInt8)(rx:Bool):∀(n k:Nat) (out:List UInt8),(bt l d rx n k out).2.2=0→(bt l d rx n k out).2.1≤l.length
 |0,k,out=>by simp[bt]
 |n+1,k,out=>by
  rw[bt];cases hc:l[k]? with
  |none=>simp
  |some c=>
   have hk:=(List.getElem?_eq_some_iff.1 hc).1;simp only;split
   ·intro _;exact hk
   ·split
    ·split
     ·exact bt_in l d rx n _ _
     ·next h=>intro h';exact absurd h' h
    ·generalize(if c=91∧rx=true then brE l k-k else 1)=m;split
     ·exact bt_in l d rx n _ _
     ·intro h;cases h
theorem bhd_le(l cs:List UInt8)(k:Nat):bhd l cs k≤l.length:=Nat.sub_le _ _
theorem ZiV{l:List UInt8}{s:AdS}{z:Int×Nat}(h:Zcu l s=.inl z):z.1≠0:=by
 unfold Zcu at h;split at h
 ·next h0=>injection h with h;subst h;exact h0
 ·split at h
  ·injection h with h;subst h;intro e;cases e
  ·cases h
theorem moreD_err{l:List UInt8}{s:AdS}{z:Int×Nat}(h:Zdn l s=.inl z):z.1≠0:=by
 unfold Zdn at h;split at h
 ·next h0=>injection h with h;subst h;exact h0
 ·cases h
theorem regexD_err{x:Bool}{l:List UInt8}{d:UInt8}{s:AdS}{z:Int×Nat}(h:ZaL x l d s=.inl z):z.1≠0:=by
 unfold ZaL at h;split at h
 ·next h0=>injection h with h;subst h;exact h0
 ·split at h
  ·injection h with h;subst h;intro e;cases e
  ·split at h
   ·next y hp=>injection h with h;subst h;show y.1≠0;exact parseD_err hp
   ·cases h
theorem addrD_err{x:Bool}{l:List UInt8}{sec:Bool}{s:AdS}{z:Int×Nat}(h:Zar x l sec s=.inl z):z.1≠0:=by
 unfold Zar at h;split at h
 ·exact ZiV h
 ·split at h
  ·cases h
  ·split at h
   ·exact regexD_err h
   ·split at h
    ·split at h
     ·injection h with h;subst h;intro e;cases e
     ·exact regexD_err h
    ·split at h
     ·exact moreD_err h
     ·cases h
structure Fwd(l:List UInt8)(s s':AdS):Prop where
 le:s'.at_≤l.length
 mks:s'.marks.length≤s.marks.length+l.length+1
 ok:s'.e=0
theorem Zkf{l:List UInt8}{s s':AdS}{a:AV}(hs:s.at_≤l.length)(h:Zcu l s=.inr (a,s')):Fwd l s s':=by
 unfold Zcu at h;split at h
 ·cases h
 ·split at h
  ·cases h
  ·injection h with h;injection h with h1 h2;subst h2;have:=ZiU s.at_ (l.drop s.at_) 0 0;rw[List.length_drop]at this;exact⟨by show(nm s.at_ (l.drop s.at_) 0 0).2.1≤_;omega,by show s.marks.length≤_;omega,rfl⟩
theorem Zkg{l:List UInt8}{s s':AdS}{a:AV}(hs:s.at_+1≤l.length)(h:Zdn l s=.inr (a,s')):Fwd l s s':=by
 unfold Zdn at h;split at h
 ·cases h
 ·injection h with h;injection h with h1 h2;subst h2;have:=ZiU (s.at_+1) (l.drop (s.at_+1)) 0 0;rw[List.length_drop]at this;exact⟨by show(nm (s.at_+1) (l.drop (s.at_+1)) 0 0).2.1≤_;omega,by show(s.marks++_).length≤_;rw[List.length_append];simp,rfl⟩
theorem ZeI{x:Bool}{l:List UInt8}{d:UInt8}{s s':AdS}{a:AV}(h:ZaL x l d s=.inr (a,s')):Fwd l s s':=by
 unfold ZaL at h;split at h
 ·cases h
 ·next h0=>
  split at h
  ·cases h
  ·split at h
   ·cases h
   ·next t r hp=>
    injection h with h;injection h with h1 h2;subst h2;have h0:(bt l d true (l.length+1) s.at_ []).2.2=0:=by simpa using h0
    have h1:=bt_in l d true (l.length+1) s.at_ [] h0;have h2:=ZcK l d true (l.length+1) s.at_ [];have h3:=(parseD_marks hp).2.1;simp only[List.length_nil,Nat.zero_add]at h2;exact⟨h1,by show(s.marks++_).length≤_;rw[List.length_append,List.length_map];omega,rfl⟩
theorem Zae{x:Bool}{l:List UInt8}{sec:Bool}{s s':AdS}{a:AV}(hs:s.at_≤l.length)(hs0:s.e=0)(h:Zar x l sec s=.inr (a,s')):Fwd l s s':=by
 unfold Zar at h;split at h
 ·exact Zkf hs h
 ·split at h
  ·next hc=>
   injection h with h;injection h with h1 h2;subst h2;have:=Zba (l:=l) (k:=s.at_) (by rw[hc];decide);exact⟨this,by show s.marks.length≤_;omega,rfl⟩
  ·split at h
   ·have:=ZeI h;exact⟨this.le,this.mks,this.ok⟩
   ·split at h
    ·split at h
     ·cases h
     ·have:=ZeI h;exact⟨this.le,this.mks,this.ok⟩
    ·split at h
     ·next hc=>
      have:=Zba (l:=l) (k:=s.at_) (by rw[hc.1];decide);exact Zkg this h
     ·injection h with h;injection h with h1 h2;subst h2;exact⟨hs,by omega,hs0⟩
theorem pairD_err{x:Bool}{l:List UInt8}{s:AdS}{z:Int×Nat}(h:Zbs x l s=.inl z):z.1≠0:=by
 unfold Zbs at h;split at h
 ·split at h
  ·next y hp=>injection h with h;subst h;exact addrD_err hp
  ·split at h
   ·injection h with h;subst h;intro e;cases e
   ·cases h
 ·cases h
theorem pairD_in{x:Bool}{l:List UInt8}{s s':AdS}{a:AV}(h:Zbs x l s=.inr (a,s')):Fwd l s s':=by
 unfold Zbs at h;split at h
 ·split at h
  ·cases h
  ·next b s1 hp=>
   split at h
   ·cases h
   ·injection h with h;injection h with h1 h2;subst h2;have:=Zae (bhd_le _ _ _) rfl hp;exact⟨this.le,this.mks,this.ok⟩
 ·injection h with h;injection h with h1 h2;subst h2;exact⟨bhd_le _ _ _,by show s.marks.length≤_;omega,rfl⟩
abbrev zG:Array Value:= #[.int .i64 0,.int .i64 0,.string ⟨#[]⟩,.nilIface,.int .i64 0,.int .i64 0,.string ⟨#[]⟩,.nilIface,.bool false]
abbrev Zm0(w:World)(g:Nat)(v0 v1 v2 v3:Value):World:=(((w.setCell ⟨g,4,none⟩ v0).setCell ⟨g,5,none⟩ v1).setCell ⟨g,6,none⟩ v2).setCell ⟨g,7,none⟩ v3
theorem ZeJ{w:World}{g:Nat}{a0 a1 a2 a3 a4 a5 a6 a7 a8:Value}{T:TypeId}{fr:Nat×Nat}(h:w.heap[g]? =some (.cells #[a0,a1,a2,a3,a4,a5,a6,a7,a8] T fr))(v0 v1 v2 v3:Value):
 (Zm0 w g v0 v1 v2 v3).heap[g]? =some (.cells #[a0,a1,a2,a3,v0,v1,v2,v3,a8] T fr):=by
 have h0:=Za h 4 v0;have h1:=Za h0 5 v1;have h2:=Za h1 6 v2;have h3:=Za h2 7 v3;simpa using h3
theorem ZcU(w:World)(g:Nat)(v0 v1 v2 v3:Value):Fr (fun k=>k=g) w (Zm0 w g v0 v1 v2 v3):=by
 have h:∀(x:World) (j:Nat) (v:Value),Fr (fun k=>k=g) w x→Fr (fun k=>k=g) w (x.setCell ⟨g,j,none⟩ v):=fun x j v hx=>hx.setCell (p:=⟨g,j,none⟩) (fun _=>rfl) v;exact h _ _ _ (h _ _ _ (h _ _ _ (h _ _ _ (Fr.refl _ _))))
theorem Zj{w:World}{b:Nat}{v0 v1 v2 v3 v4 v5 v6 v7 v8:Value}{T:TypeId}(h:w.heap[b]? =some (.cells #[v0,v1,v2,v3,v4,v5,v6,v7,v8] T (0,0))):∀w',Fr nob w w'→
 (w'.cell? ⟨b,0,none⟩=some v0∧w'.cell? ⟨b,1,none⟩=some v1∧w'.cell? ⟨b,2,none⟩=some v2∧w'.cell? ⟨b,3,none⟩=some v3∧w'.cell? ⟨b,4,none⟩=some v4∧w'.cell? ⟨b,5,none⟩=some v5∧w'.cell? ⟨b,6,none⟩=some v6∧w'.cell? ⟨b,7,none⟩=some v7∧w'.cell? ⟨b,8,none⟩=some v8)∧
 (w'.frozen? ⟨b,0,none⟩=false∧w'.frozen? ⟨b,1,none⟩=false∧w'.frozen? ⟨b,2,none⟩=false∧w'.frozen? ⟨b,3,none⟩=false∧w'.frozen? ⟨b,4,none⟩=false∧w'.frozen? ⟨b,5,none⟩=false∧w'.frozen? ⟨b,6,none⟩=false∧w'.frozen? ⟨b,7,none⟩=false∧w'.frozen? ⟨b,8,none⟩=false):=fun _ f=>by
 have h':=f.heap h (fun x=>x);exact⟨⟨cell_at h' rfl,cell_at h' rfl,cell_at h' rfl,cell_at h' rfl,cell_at h' rfl,cell_at h' rfl,cell_at h' rfl,cell_at h' rfl,cell_at h' rfl⟩,unfrozen_at h' _,unfrozen_at h' _,unfrozen_at h' _,unfrozen_at h' _,unfrozen_at h' _,unfrozen_at h' _,unfrozen_at h' _,unfrozen_at h' _,unfrozen_at h' _⟩
def GS(S:Nat→Prop)(g:Nat):Nat→Prop:=fun k=>S k∨k=g
section
variable {S S':Nat→Prop} {g:Nat} {w w' wX:World}
theorem Stp.gs(h:Stp S w S' w')(hg:g<w.heap.size):Stp (GS S g) w (GS S' g) w':=
 ⟨h.fr.mono (fun _ _ x=>.inl x),fun k hk hx=>hx.elim (fun y=>.inl (h.old k hk y)) .inr,fun hl k hx=>by
  rcases hx with hx|hx
  ·exact h.lt (fun j hj=>hl j (.inl hj)) k hx
  ·subst hx;exact Nat.lt_of_lt_of_le hg h.fr.size⟩
theorem Stp.gset(h:Stp (GS S g) w (GS S' g) wX)(v0 v1 v2 v3:Value):Stp (GS S g) w (GS S' g) (Zm0 wX g v0 v1 v2 v3):=
 ⟨h.fr.trans (ZcU wX g v0 v1 v2 v3) (fun k hk hx=>by have hx:k=g:=hx;exact .inr hx),h.old,fun hl k hk=>by have:=h.lt hl k hk;simpa[World.setCell]using this⟩
theorem ARd.gset{b:Nat}{l:List UInt8}{x:Bool}{s:AdS}(h:ARd b l x s S w)(hg:¬S g)(v0 v1 v2 v3:Value):ARd b l x s S (Zm0 w g v0 v1 v2 v3):=by
 obtain⟨mv,h⟩:=h;exact⟨mv,h.keep (ZcU w g v0 v1 v2 v3) (fun e=>hg (e▸h.me)) (fun k hk e=>hg (e▸(h.nm k hk).2))⟩
end
def ZlC(b:Nat)(l:List UInt8)(x:Bool)(S O:Nat→Prop)(g:Nat)(k0 n0:Int)(t0:List UInt8)(u0:Value)(w:World)(R:ZkQ)(r:Ending)(w':World):Prop:=r=.returned (.tuple #[])∧match R with
 | .inl (z,p)=>∃S' ms,ARd b l x ⟨p,ms,z⟩ S' w'∧¬S' g∧Stp (GS S g) w (GS S' g) w'
 | .inr (a,s')=>∃S' u,ARd b l x s' S' w'∧¬S' g∧Stp (GS S g) w (GS S' g) w'∧
   w'.heap[g]? =some (.cells #[.int .i64 k0,.int .i64 n0,.string ⟨t0.toArray⟩,u0,.int .i64 a.kind,.int .i64 a.line,.string ⟨a.text.toArray⟩,u,.bool false] 30 (0,0))∧RN (SO S' (GS O g)) w' a.tree u
theorem Zd5(b:Nat)(l:List UInt8)(x:BF)(s:AdS)(S O:Nat→Prop)(g:Nat)(k0 n0:Int)(t0:List UInt8)(u0:Value)(w:World)(hl:l.length≤100000)(ha:s.at_≤l.length)(hm:s.marks.length≤100000)(hs0:s.e=0)(hS:∀k,S k→k<w.heap.size)(hO:∀k,O k→k<w.heap.size)(W0:World)(hE:Env W0)(hW:Fr nob W0 w)(hSW:∀k,S k→W0.heap.size≤k)(h:ARd b l x s S w)
 (hgS:¬S g) (hg:w.heap[g]? =some (.cells #[.int .i64 k0,.int .i64 n0,.string ⟨t0.toArray⟩,u0,.int .i64 0,.int .i64 0,.string ⟨#[]⟩,.nilIface,.bool false] 30 (0,0))):
 Calls Tryz.prog 84 #[.pointer (some ⟨b,0,none⟩),.pointer (some ⟨g,0,none⟩)] w (ZlC b l x S O g k0 n0 t0 u0 w (Zbs x l s)):=by
 obtain⟨at0,ms0,e0⟩:=s;obtain rfl:e0=0:=hs0;have ha:at0≤l.length:=ha;have hm:ms0.length≤100000:=hm;have hglt:=lt_heap hg;have HB:=hid (Zi b l x ⟨at0,ms0,0⟩ S w hl ha h);unfold Zbs;simp only at HB⊢;obtain⟨p1,hp1⟩:∃p1,bhd l [32,9] at0=p1:=⟨_,rfl⟩;have hp1l:p1≤l.length:=by rw[←hp1];exact bhd_le _ _ _
 rw[hp1]at HB⊢;have HG:=hid hg;have HGS:=hid hgS;have HGL:=hid hglt;have HS:=hid hS;have HO:=hid hO;have HE:=hid hE;have HW:=hid hW;have HSW:=hid hSW;have HGK:=hid (fun(S':Nat→Prop) w' (st:Stp S w S' w')=>show¬S' g from fun hx=>hgS (st.old g hglt hx));have HNX:=hid (fun w' (h:ARd b l x ⟨p1,ms0,0⟩ S w')=>Zq b l x ⟨p1,ms0,0⟩ S w' (by omega) h);clear h hp1 hg hgS hglt hS hO hE hW hSW;obtain⟨c,hc⟩:∃c,byt l p1=c:=⟨_,rfl⟩;simp only at HNX;rw[hc]at HNX⊢;by_cases h44:c=44
 ·subst h44;rw[if_pos rfl];rw[show(((44:UInt8).toNat:Nat):Int)=44 from rfl]at HNX;have hat:p1<l.length:=Zba (by rw[hc];decide);have hwr:IntKind.i64.wrap ((p1:Int)+1)=p1+1:=IntWalk.i64_in _ (by omega);have HB2:=hid (fun w' (h:ARd b l x ⟨p1+1,ms0,0⟩ S w')=>Zi b l x ⟨p1+1,ms0,0⟩ S w' hl (by show p1+1≤_;omega) h);simp only at HB2;obtain⟨p2,hp2⟩:∃p2,bhd l [32,9] (p1+1)=p2:=⟨_,rfl⟩;have hp2l:p2≤l.length:=by rw[←hp2];exact bhd_le _ _ _
  rw[hp2]at HB2⊢;have HAD:=hid (fun w' (hS':∀k,S k→k<w'.heap.size) (hO':∀k,GS O g k→k<w'.heap.size) (hW':Fr nob W0 w') (h:ARd b l x ⟨p2,ms0,0⟩ S w')=>Zad b l x true ⟨p2,ms0,0⟩ S (GS O g) w' hl hp2l hm rfl hS' hO' W0 HE.out hW' HSW.out h);obtain⟨R,hR⟩:∃R,Zar x l true ⟨p2,ms0,0⟩=R:=⟨_,rfl⟩;rw[hR]at HAD⊢;have hin:∀a s',R=.inr (a,s')→s'.e=0∧s'.at_≤l.length:=fun a s' e=>by
   have:=Zae (s:=⟨p2,ms0,0⟩) hp2l rfl (hR.trans e);exact⟨this.ok,this.le⟩
  have her:∀z p,R=.inl (z,p)→z≠0:=fun z p e=>addrD_err (hR.trans e);clear hc hp2 hR;cases R with
  |inl q=>
   obtain⟨z,p⟩:=q;have hz:¬z=0:=her z p rfl;have hz':(z==0)=false:=by simpa using hz
   clear her hin;simp only;go_enter Tryz.func84,Tryz.ntmps84
   go_wp2_with fail
   refine HB.out.mono ?_;rintro e w1 ⟨rfl,h1,st1⟩;have HN1:=hid (HNX.out w1 h1);have H1:=hid h1;have ST1:=hid st1;clear h1 st1
   go_wp2_with fail
   refine HN1.out.mono ?_;rintro e w2 ⟨rfl,f2⟩;obtain⟨mv,h2⟩:=H1.out.on f2;have r2:=Zd h2.blk _ (Fr.refl _ _);have h3:=h2.turned 1 (.int .i64 ((p1:Int)+1)) ⟨p1+1,ms0,0⟩ (by simp) rfl;have st3:=(ST1.out.trans (Stp.of f2)).trans (h2.stp 1 (.int .i64 ((p1:Int)+1)));obtain⟨wA,hwA⟩:∃wA,wA=w2.setCell ⟨b,1,none⟩ (.int .i64 ((p1:Int)+1)):=⟨_,rfl⟩;rw[←hwA]at h3 st3;have HWA:=hid hwA;have HBB:=hid (HB2.out wA ⟨mv,h3⟩);have ST3:=hid st3;clear h2 h3 st3 hwA f2
   go_wp2_with(rw[←HWA.out])
   refine HBB.out.mono ?_;rintro e w4 ⟨rfl,h4,st4⟩;have st:=ST3.out.trans st4;have hsz:=st.fr.size;have HADD:=hid (HAD.out w4 (fun k hk=>by have:=HS.out k hk;omega) (fun k hk=>by rcases hk with hk|hk;have:=HO.out k hk;omega;have:=HGL.out;omega) (st.from HW.out HSW.out) h4);have ST:=hid st;clear h4 st4 st hsz r2
   go_wp2_with fail
   refine HADD.out.mono ?_;intro e w5 he;obtain⟨rfl,S',ms,h5,st5⟩:=he;have st:=ST.out.trans st5;have hgn:=HGK.out S' w5 st;have hg5:=st.fr.heap HG.out HGS.out;have rg:=Zj hg5 _ (Fr.refl _ _);have h6:=h5.gset hgn (.int .i64 0) (.int .i64 0) (.string ⟨#[]⟩) .nilIface;have st6:=(st.gs HGL.out).gset (.int .i64 0) (.int .i64 0) (.string ⟨#[]⟩) .nilIface;obtain⟨w6,hw6⟩:∃w6,w6=(((w5.setCell ⟨g,4,none⟩ (.int .i64 0)).setCell ⟨g,5,none⟩ (.int .i64 0)).setCell ⟨g,6,none⟩ (.string ⟨#[]⟩)).setCell ⟨g,7,none⟩ .nilIface:=⟨_,rfl⟩;have h6:ARd b l x ⟨p,ms,z⟩ S' w6:=by rw[hw6];exact h6
   have st6:Stp (GS S g) w (GS S' g) w6:=by rw[hw6];exact st6
   obtain⟨mv6,h6'⟩:=h6;have r6:=Zd h6'.blk _ (Fr.refl _ _);have HW6:=hid hw6;have H6:=hid h6';have ST6:=hid st6;have HGN:=hid hgn;clear st5 st h5 h6' st6 hw6 hg5 hgn
   go_wp2_with(rw[←HW6.out])
   go_end0
   exact⟨rfl,S',ms,⟨mv6,H6.out⟩,HGN.out,ST6.out⟩
  |inr q=>
   obtain⟨A,s'⟩:=q;obtain⟨at1,ms1,e1⟩:=s';obtain⟨hin1,hin2⟩:=hin A _ rfl;obtain rfl:e1=0:=hin1;have hin2:at1≤l.length:=hin2;clear her hin;simp only;by_cases hk:A.kind=0
   ·rw[if_pos hk];have HK:=hid hk;clear hk;go_enter Tryz.func84,Tryz.ntmps84
    go_wp2_with fail
    refine HB.out.mono ?_;rintro e w1 ⟨rfl,h1,st1⟩;have HN1:=hid (HNX.out w1 h1);have H1:=hid h1;have ST1:=hid st1;clear h1 st1
    go_wp2_with fail
    refine HN1.out.mono ?_;rintro e w2 ⟨rfl,f2⟩;obtain⟨mv,h2⟩:=H1.out.on f2;have r2:=Zd h2.blk _ (Fr.refl _ _);have h3:=h2.turned 1 (.int .i64 ((p1:Int)+1)) ⟨p1+1,ms0,0⟩ (by simp) rfl;have st3:=(ST1.out.trans (Stp.of f2)).trans (h2.stp 1 (.int .i64 ((p1:Int)+1)));obtain⟨wA,hwA⟩:∃wA,wA=w2.setCell ⟨b,1,none⟩ (.int .i64 ((p1:Int)+1)):=⟨_,rfl⟩;rw[←hwA]at h3 st3;have HWA:=hid hwA;have HBB:=hid (HB2.out wA ⟨mv,h3⟩);have ST3:=hid st3;clear h2 h3 st3 hwA f2
    go_wp2_with(rw[←HWA.out])
    refine HBB.out.mono ?_;rintro e w4 ⟨rfl,h4,st4⟩;have st:=ST3.out.trans st4;have hsz:=st.fr.size;have HADD:=hid (HAD.out w4 (fun k hk=>by have:=HS.out k hk;omega) (fun k hk=>by rcases hk with hk|hk;have:=HO.out k hk;omega;have:=HGL.out;omega) (st.from HW.out HSW.out) h4);have ST:=hid st;clear h4 st4 st hsz r2
    go_wp2_with fail
    refine HADD.out.mono ?_;intro e w5 he;obtain⟨v5,S',rfl,⟨u5,rfl,hrn⟩,h5,st5⟩:=he;have st:=ST.out.trans st5;have hgn:=HGK.out S' w5 st;have hg5:=st.fr.heap HG.out HGS.out;have rg:=Zj hg5 _ (Fr.refl _ _);have h6:=h5.gset hgn (.int .i64 A.kind) (.int .i64 A.line) (.string ⟨A.text.toArray⟩) u5;have st6:=(st.gs HGL.out).gset (.int .i64 A.kind) (.int .i64 A.line) (.string ⟨A.text.toArray⟩) u5;obtain⟨w6,hw6⟩:∃w6,w6=(((w5.setCell ⟨g,4,none⟩ (.int .i64 A.kind)).setCell ⟨g,5,none⟩ (.int .i64 A.line)).setCell ⟨g,6,none⟩ (.string ⟨A.text.toArray⟩)).setCell ⟨g,7,none⟩ u5:=⟨_,rfl⟩;have h6:ARd b l x ⟨at1,ms1,0⟩ S' w6:=by rw[hw6];exact h6
    have st6:Stp (GS S g) w (GS S' g) w6:=by rw[hw6];exact st6
    have hg6:w6.heap[g]? =some (.cells #[.int .i64 k0,.int .i64 n0,.string ⟨t0.toArray⟩,u0,.int .i64 A.kind,.int .i64 A.line,.string ⟨A.text.toArray⟩,u5,.bool false] 30 (0,0)):=by rw[hw6];exact ZeJ hg5 (.int .i64 A.kind) (.int .i64 A.line) (.string ⟨A.text.toArray⟩) u5
    have hrn6:RN (SO S' (GS O g)) w6 A.tree u5:=by rw[hw6];exact RN.keep (ZcU w5 g _ _ _ _) (fun k _ hk=>.inr (.inr hk)) (fun k _ hx=>hx) _ _ hrn
    obtain⟨mv6,h6'⟩:=h6;have r6:=Zd h6'.blk _ (Fr.refl _ _);have rg6:=Zj hg6 _ (Fr.refl _ _);have HW6:=hid hw6;have H6:=hid h6';have ST6:=hid st6;have HGN:=hid hgn;have HG6:=hid hg6;have HRN:=hid hrn6;rw[HK.out]at rg6;have HFl:=hid (Zaq b l x _ S' 12 at1 w6 ⟨mv6,h6'⟩);have hsh:=hrn.shape;clear st5 st h5 h6' st6 hw6 hg5 hgn hg6 hrn hrn6;rcases hsh with rfl|⟨iv,yv,rfl⟩
    all_goals
     go_wp2_with(rw[←HW6.out])
     refine HFl.out.mono ?_;rintro e w7 ⟨rfl,h7,st7⟩;have st8:=ST6.out.trans (st7.gs (by have:=ST6.out.fr.size;have:=HGL.out;omega));have HST8:=hid st8;have H7:=hid h7;clear h7 st7 st8;go_wp2
     go_end0
     exact⟨rfl,S',ms1,H7.out,HGN.out,HST8.out⟩
   ·rw[if_neg hk];have HK:=hid hk;clear hk;go_enter Tryz.func84,Tryz.ntmps84
    go_wp2_with fail
    refine HB.out.mono ?_;rintro e w1 ⟨rfl,h1,st1⟩;have HN1:=hid (HNX.out w1 h1);have H1:=hid h1;have ST1:=hid st1;clear h1 st1
    go_wp2_with fail
    refine HN1.out.mono ?_;rintro e w2 ⟨rfl,f2⟩;obtain⟨mv,h2⟩:=H1.out.on f2;have r2:=Zd h2.blk _ (Fr.refl _ _);have h3:=h2.turned 1 (.int .i64 ((p1:Int)+1)) ⟨p1+1,ms0,0⟩ (by simp) rfl;have st3:=(ST1.out.trans (Stp.of f2)).trans (h2.stp 1 (.int .i64 ((p1:Int)+1)));obtain⟨wA,hwA⟩:∃wA,wA=w2.setCell ⟨b,1,none⟩ (.int .i64 ((p1:Int)+1)):=⟨_,rfl⟩;rw[←hwA]at h3 st3;have HWA:=hid hwA;have HBB:=hid (HB2.out wA ⟨mv,h3⟩);have ST3:=hid st3;clear h2 h3 st3 hwA f2
    go_wp2_with(rw[←HWA.out])
    refine HBB.out.mono ?_;rintro e w4 ⟨rfl,h4,st4⟩;have st:=ST3.out.trans st4;have hsz:=st.fr.size;have HADD:=hid (HAD.out w4 (fun k hk=>by have:=HS.out k hk;omega) (fun k hk=>by rcases hk with hk|hk;have:=HO.out k hk;omega;have:=HGL.out;omega) (st.from HW.out HSW.out) h4);have ST:=hid st;clear h4 st4 st hsz r2
    go_wp2_with fail
    refine HADD.out.mono ?_;intro e w5 he;obtain⟨v5,S',rfl,⟨u5,rfl,hrn⟩,h5,st5⟩:=he;have st:=ST.out.trans st5;have hgn:=HGK.out S' w5 st;have hg5:=st.fr.heap HG.out HGS.out;have rg:=Zj hg5 _ (Fr.refl _ _);have h6:=h5.gset hgn (.int .i64 A.kind) (.int .i64 A.line) (.string ⟨A.text.toArray⟩) u5;have st6:=(st.gs HGL.out).gset (.int .i64 A.kind) (.int .i64 A.line) (.string ⟨A.text.toArray⟩) u5;obtain⟨w6,hw6⟩:∃w6,w6=(((w5.setCell ⟨g,4,none⟩ (.int .i64 A.kind)).setCell ⟨g,5,none⟩ (.int .i64 A.line)).setCell ⟨g,6,none⟩ (.string ⟨A.text.toArray⟩)).setCell ⟨g,7,none⟩ u5:=⟨_,rfl⟩;have h6:ARd b l x ⟨at1,ms1,0⟩ S' w6:=by rw[hw6];exact h6
    have st6:Stp (GS S g) w (GS S' g) w6:=by rw[hw6];exact st6
    have hg6:w6.heap[g]? =some (.cells #[.int .i64 k0,.int .i64 n0,.string ⟨t0.toArray⟩,u0,.int .i64 A.kind,.int .i64 A.line,.string ⟨A.text.toArray⟩,u5,.bool false] 30 (0,0)):=by rw[hw6];exact ZeJ hg5 (.int .i64 A.kind) (.int .i64 A.line) (.string ⟨A.text.toArray⟩) u5
    have hrn6:RN (SO S' (GS O g)) w6 A.tree u5:=by rw[hw6];exact RN.keep (ZcU w5 g _ _ _ _) (fun k _ hk=>.inr (.inr hk)) (fun k _ hx=>hx) _ _ hrn
    obtain⟨mv6,h6'⟩:=h6;have r6:=Zd h6'.blk _ (Fr.refl _ _);have rg6:=Zj hg6 _ (Fr.refl _ _);have HW6:=hid hw6;have H6:=hid h6';have ST6:=hid st6;have HGN:=hid hgn;have HG6:=hid hg6;have HRN:=hid hrn6;have hk0:(A.kind==0)=false:=by simpa using HK.out
    have hsh:=hrn.shape;clear st5 st h5 h6' st6 hw6 hg5 hgn hg6 hrn hrn6;rcases hsh with rfl|⟨iv,yv,rfl⟩
    all_goals
     go_wp2_with(rw[←HW6.out])
     go_end0
     exact⟨rfl,S',_,⟨mv6,H6.out⟩,HGN.out,ST6.out,HG6.out,HRN.out⟩
 ·rw[if_neg h44];have n44:((c.toNat:Int)==44)=false:=by
   have:c.toNat≠44:=fun h=>h44 (UInt8.toNat_inj.1 h);simp;omega
  clear hc h44;go_enter Tryz.func84,Tryz.ntmps84
  go_wp2_with fail
  refine HB.out.mono ?_;rintro e w1 ⟨rfl,h1,st1⟩;have HN1:=hid (HNX.out w1 h1);have H1:=hid h1;have ST1:=hid st1;clear h1 st1
  go_wp2_with fail
  refine HN1.out.mono ?_;rintro e w2 ⟨rfl,f2⟩;have HST:=hid (ST1.out.trans (Stp.of f2));have H2:=hid (H1.out.on f2);clear f2;go_wp2;exact bodyPost_ret (results_none rfl _ _ _) rfl ⟨rfl,S,.nilIface,H2.out,HGS.out,HST.out.gs HGL.out,HST.out.fr.heap HG.out HGS.out,by show RN _ w2 .nil .nilIface;rw[RN]⟩
end Go.Proofs.YtkfddjopbocpkaaGreatDoor
