/- Lemmas of this claim. -/
import Derived.Test.YtkfddjopbocpkaaGreatDoorM23
set_option linter.unusedVariables false
set_option linter.unusedSimpArgs false
set_option maxRecDepth 100000
set_option maxHeartbeats 4000000
namespace Go.Proofs.YtkfddjopbocpkaaGreatDoor
open Go.Lib (hid)
open Go.RowKit
theorem ZuK(s:List UInt8)(k:Nat):tabF s (k+1)=tabF s k++(if s.length=256∧s[k]?.getD 0≠k.toUInt8 then[k.toUInt8]else[]):=by
 unfold tabF;rw[List.range_succ,List.filter_append,List.map_append]
 congr 1
 by_cases h:s.length=256∧s[k]?.getD 0≠k.toUInt8
 ·rw[if_pos h];simp[List.filter,h]
 ·rw[if_neg h];simp only[List.filter,decide_eq_false h,List.map_nil]
theorem ZuL(s:List UInt8)(k:Nat):Ztp s (k+1)=Ztp s k++(if s.length=256∧s[k]?.getD 0≠k.toUInt8 then[s[k]?.getD 0]else[]):=by
 unfold Ztp;rw[List.range_succ,List.filter_append,List.map_append]
 congr 1
 by_cases h:s.length=256∧s[k]?.getD 0≠k.toUInt8
 ·rw[if_pos h];simp[List.filter,h]
 ·rw[if_neg h];simp only[List.filter,decide_eq_false h,List.map_nil]
theorem Zt5(s:List UInt8)(k:Nat):(tabF s k).length≤k∧(Ztp s k).length≤k:=by
 unfold tabF Ztp;rw[List.length_map,List.length_map];have:=List.length_filter_le (fun i=>decide (s.length=256∧s[i]?.getD 0≠i.toUInt8)) (List.range k);rw[List.length_range]at this;exact⟨this,this⟩
structure TwoB(w:World)(fv gv:Value)(a b:List UInt8)(W:World):Prop where
 fr:Fr nob w W
 fo:W.ownsRow 0 5 1 fv a.length (bcells a)
 go:W.ownsRow 0 5 1 gv b.length (bcells b)
 fn:∀g,fv.ownBlock=some g→w.heap.size≤g∧gv.ownBlock≠some g
 gn:∀g,gv.ownBlock=some g→w.heap.size≤g∧g<W.heap.size
 fl:∀g,fv.ownBlock=some g→g<W.heap.size
theorem TwoB.on{w:World}{fv gv:Value}{a b:List UInt8}{W W':World}(h:TwoB w fv gv a b W)(f:Fr nob W W'):TwoB w fv gv a b W':=
 ⟨h.fr.trans' f,ownsRow_fr h.fo f (fun _ _ x=>x),ownsRow_fr h.go f (fun _ _ x=>x),h.fn,fun g hg=>⟨(h.gn g hg).1,Nat.lt_of_lt_of_le (h.gn g hg).2 f.size⟩,fun g hg=>Nat.lt_of_lt_of_le (h.fl g hg) f.size⟩
theorem TwoB.pushF{w:World}{fv gv v':Value}{a b:List UInt8}{W W1:World}{x:UInt8}(h:TwoB w fv gv a b W)(hap:Appd 1 fv v' W W1)(ho:W1.ownsRow 0 5 1 v' (a.length+1) (bcells a++[.int .u8 (x.toNat:Int)])):TwoB w v' gv (a++[x]) b W1:=by
 have hs:=h.fr.size;refine⟨h.fr.trans hap.fr (fun i hi e=>by have:=(h.fn i e).1;omega),by rw[List.length_append,Zaj];exact ho,ownsRow_fr h.go hap.fr (fun k hk e=>(h.fn k e).2 hk),fun g hg=> ?_,fun g hg=>⟨(h.gn g hg).1,Nat.lt_of_lt_of_le (h.gn g hg).2 hap.fr.size⟩,own_lt ho⟩;rcases hap.old g hg with e|e
 ·exact h.fn g e
 ·exact⟨by omega,fun e'=>by have:=(h.gn g e').2;omega⟩
theorem TwoB.pushG{w:World}{fv gv v':Value}{a b:List UInt8}{W W1:World}{x:UInt8}(h:TwoB w fv gv a b W)(hap:Appd 1 gv v' W W1)(ho:W1.ownsRow 0 5 1 v' (b.length+1) (bcells b++[.int .u8 (x.toNat:Int)])):TwoB w fv v' a (b++[x]) W1:=by
 have hs:=h.fr.size;refine⟨h.fr.trans hap.fr (fun i hi e=>by have:=(h.gn i e).1;omega),ownsRow_fr h.fo hap.fr (fun k hk e=>(h.fn k hk).2 e),by rw[List.length_append,Zaj];exact ho,fun g hg=>⟨(h.fn g hg).1,fun e'=> ?_⟩,fun g hg=>⟨?_,own_lt ho g hg⟩,fun g hg=>Nat.lt_of_lt_of_le (h.fl g hg) hap.fr.size⟩
 ·rcases hap.old g e' with e|e
  ·exact(h.fn g hg).2 e
  ·have:=h.fl g hg;omega
 ·rcases hap.old g hg with e|e
  ·exact(h.gn g e).1
  ·omega
theorem byte_news{W:World}{q:Nat}{c:Int}{T:TypeId}{fr:Nat×Nat}(h:W.heap[q]? =some (.cells #[.int .u8 c] T fr)):∀j u,([.int .u8 c]:List Value)[j]? =some u→W.cell? ((⟨q,0,none⟩:Addr).add j)=some u:=by
 intro j u hj
 match j,hj with
 |0,hj=>simp at hj;subst hj;have:=cell_at (j:=0) (v:=.int .u8 c) h rfl;simpa[Addr.add]using this
theorem PxW.more{W0 w w':World}{K P:Nat→Prop}{b:Nat}{out:List UInt8}(h:PxW W0 K b out w)(f:Fr nob w w')(hP:∀k,P k→w.heap.size≤k∧k<w'.heap.size):PxW W0 (fun k=>K k∨P k) b out w':=by
 have hb:=h.lt;obtain⟨fr,g,ht,hk⟩:=h;have hg:∀k,g=some k→k<w.heap.size:=by
  intro k e;obtain⟨cs,⟨_,_,_,v,_,a,c,_⟩,_⟩:=ht;subst e;exact own_lt a k c
 refine⟨fr.trans' f,g,ht.on f (fun x=>x) (fun _ _ x=>x),fun k hk'=> ?_⟩;have hs:=f.size;rcases hk' with h|h|h
 ·obtain⟨h1,h2,h3⟩:=hk k (.inl h);exact⟨h1,h2,by omega⟩
 ·obtain⟨h1,h2,h3⟩:=hk k (.inr h);exact⟨h1,h2,by omega⟩
 ·have:=hP k h;exact⟨by omega,fun e=>by have:=hg k e.symm;omega,by omega⟩
attribute [local go_sem ↓] Go.wp_at_zero Go.wp_at_succ
theorem Zwg(W0:World):Zwa W0:=by
 intro K b out w s hs h Y;have HT:=hid h;have t:=ZsK [92,47] [92,110] (tabF s s.length);have v:=ZsK [92,47] [92,110] (Ztp s s.length);have A:=Zt5 s s.length;simp only[List.length_cons,List.length_nil]at t v;unfold ZuI;obtain⟨F,hF⟩:∃F,tabF s s.length=F:=⟨_,rfl⟩;obtain⟨G,hG⟩:∃G,Ztp s s.length=G:=⟨_,rfl⟩;rw[hF]at t A⊢;rw[hG]at v A⊢;obtain⟨QF,q⟩:∃Q,Zs6 [92,47] [92,110] F=Q:=⟨_,rfl⟩;obtain⟨QG,r⟩:∃Q,Zs6 [92,47] [92,110] G=Q:=⟨_,rfl⟩;have a0:QF.length≤1024:=by rw[←q];simp at t;omega
 have a1:QG.length≤1024:=by rw[←r];simp at v;omega
 rw[q,r];have O:=hid q;have U:=hid r;have HF:=hid hF;have HG:=hid hG;clear t v q r hF hG;obtain⟨i0,hi,p,n,l⟩:=info_parts ZeW;clear h;go_enter Tryz.func81,Tryz.ntmps81;go_wp2_with fail
 go_loopw [4,5,9] (fun fv gv i wr=>∃k:Nat,i=.int .i64 k∧k≤s.length∧TwoB w fv gv (tabF s k) (Ztp s k) wr) (fun _ _ i _=>s.length-(intOf i).toNat)
 case atStart=>exact⟨0,rfl,Nat.zero_le _,Fr.refl _ _,World.ownsRow_nil _ _ _ _,World.ownsRow_nil _ _ _ _,fun _ h=>(by cases h),fun _ h=>(by cases h),fun _ h=>(by cases h)⟩
 case round=>
  obtain⟨k,rfl,hk,tb⟩:=hrel;have HB:=hid tb;obtain⟨fa,fc,rfl⟩:=Zb tb.fo;obtain⟨ga,gc,rfl⟩:=Zb tb.go;clear tb;by_cases X:k<s.length
  ·have a4:(k:Int)<s.length:=by omega
   have a2:=Zt5 s k;have z:=hid (ZuK s k);have B:=hid (ZuL s k);have a5:IntKind.u8.wrap (k:Int)=k:=IntWalk.u8_in _ (by omega);obtain⟨y,hy⟩:∃y,s[k]=y:=⟨_,rfl⟩;have g:s[k]?.getD 0=y:=by rw[List.getElem?_eq_getElem X];exact hy
   by_cases c:s.length=256
   ·have hI:((s.length:Int)==256)=true:=by simp;omega
    by_cases m:y.toNat=k
    ·have hn:((y.toNat:Int) !=(k:Int))=false:=by simp;omega
     have e1:¬(s.length=256∧s[k]?.getD 0≠k.toUInt8):=fun x=>x.2 (by rw[g,←m];simp);have d:=hid (z.out.trans (by rw[if_neg e1,List.append_nil]));have f:=hid (B.out.trans (by rw[if_neg e1,List.append_nil]));clear m e1 c g;go_wp2_with fail;go_roundw
     case rel=>exact⟨k+1,by go_num,by omega,by rw[d.out,f.out];exact HB.out⟩
     case measure=>simp[intOf];omega
    ·have hn:((y.toNat:Int) !=(k:Int))=true:=by simp;omega
     have I:(k.toUInt8).toNat=k:=by simp;omega
     have e1:s.length=256∧s[k]?.getD 0≠k.toUInt8:=⟨c,by rw[g];intro e;rw[e]at m;exact m I⟩;have d:=hid (z.out.trans (by rw[if_pos e1]));have f:=hid (B.out.trans (by rw[if_pos e1,g]));have C:((k.toUInt8).toNat:Int)=(k:Int):=by omega
     have V:=hid C;clear m e1 c g I C;go_wp2_with fail
     go_region_law (first|((first|(refine step_append_g rfl (.tmp 23) (.tmp 26) 22 rfl 5 i0 (.int .u8 0) 1 1 Tryz.underlying22 hi p n l rfl (by decide) (.slice fa (tabF s k).length fc) (tabF s k).length (bcells (tabF s k)) (by rfl) (HB.out.on (by repeat(first|exact Fr.refl _ _|apply Fr.alloc|apply Fr.drew))).fo ⟨wr.heap.size,0,none⟩ 1 1 [.int .u8 (k:Int)] (by rfl) rfl (byte_news (by repeat(first|exact newAt0 _ _|exact Zg _ _ _ (by simp)|refine Ze _ ?_))) ZcF (by unfold maxLen;omega) (by omega) ?_)|(refine step_append_g rfl (.tmp 23) (.tmp 26) 22 rfl 5 i0 (.int .u8 0) 1 1 Tryz.underlying22 hi p n l rfl (by decide) (.slice fa (tabF s k).length fc) (tabF s k).length (bcells (tabF s k)) (by rfl) (HB.out.on (by repeat(first|exact Fr.refl _ _|apply Fr.alloc|apply Fr.drew))).fo ⟨wr.heap.size+1,0,none⟩ 1 1 [.int .u8 (k:Int)] (by rfl) rfl (byte_news (by repeat(first|exact newAt0 _ _|exact Zg _ _ _ (by simp)|refine Ze _ ?_))) ZcF (by unfold maxLen;omega) (by omega) ?_));intro v' w6 a j;obtain⟨av,Z,rfl⟩:=Zb a;rw[←V.out]at a;have u:=hid ((HB.out.on (by repeat(first|exact Fr.refl _ _|apply Fr.alloc|apply Fr.drew))).pushF j a);have F6:=hid j.fr;clear a j)|((first|(refine step_append_g rfl (.tmp 28) (.tmp 32) 22 rfl 5 i0 (.int .u8 0) 1 1 Tryz.underlying22 hi p n l rfl (by decide) (.slice ga (Ztp s k).length gc) (Ztp s k).length (bcells (Ztp s k)) (by rfl) (u.out.on (by repeat(first|exact Fr.refl _ _|apply Fr.alloc|apply Fr.drew))).go ⟨w6.heap.size,0,none⟩ 1 1 [.int .u8 (y.toNat:Int)] (by rfl) rfl (byte_news (by repeat(first|exact newAt0 _ _|exact Zg _ _ _ (by simp)|refine Ze _ ?_))) ZcF (by unfold maxLen;omega) (by omega) ?_)|(refine step_append_g rfl (.tmp 28) (.tmp 32) 22 rfl 5 i0 (.int .u8 0) 1 1 Tryz.underlying22 hi p n l rfl (by decide) (.slice ga (Ztp s k).length gc) (Ztp s k).length (bcells (Ztp s k)) (by rfl) (u.out.on (by repeat(first|exact Fr.refl _ _|apply Fr.alloc|apply Fr.drew))).go ⟨wr.heap.size,0,none⟩ 1 1 [.int .u8 (y.toNat:Int)] (by rfl) rfl (byte_news (F6.out.heap (by repeat(first|exact newAt0 _ _|exact Zg _ _ _ (by simp)|refine Ze _ ?_)) (fun e=>by have:=HB.out.fl _ e;omega))) ZcF (by unfold maxLen;omega) (by omega) ?_)|(refine step_append_g rfl (.tmp 28) (.tmp 32) 22 rfl 5 i0 (.int .u8 0) 1 1 Tryz.underlying22 hi p n l rfl (by decide) (.slice ga (Ztp s k).length gc) (Ztp s k).length (bcells (Ztp s k)) (by rfl) (u.out.on (by repeat(first|exact Fr.refl _ _|apply Fr.alloc|apply Fr.drew))).go ⟨wr.heap.size+1,0,none⟩ 1 1 [.int .u8 (y.toNat:Int)] (by rfl) rfl (byte_news (F6.out.heap (by repeat(first|exact newAt0 _ _|exact Zg _ _ _ (by simp)|refine Ze _ ?_)) (fun e=>by have:=HB.out.fl _ e;omega))) ZcF (by unfold maxLen;omega) (by omega) ?_));intro v' w7 a j;obtain⟨aw,a3,rfl⟩:=Zb a;have W:=hid ((u.out.on (by repeat(first|exact Fr.refl _ _|apply Fr.alloc|apply Fr.drew))).pushG j a);clear a j))
     all_goals
      go_wp2;go_roundw
      case rel=>exact⟨k+1,by go_num,by omega,by rw[d.out,f.out];exact W.out⟩
      case measure=>simp[intOf];omega
   ·have hI:((s.length:Int)==256)=false:=by simp;omega
    have e1:¬(s.length=256∧s[k]?.getD 0≠k.toUInt8):=fun x=>c x.1;have d:=hid (z.out.trans (by rw[if_neg e1,List.append_nil]));have f:=hid (B.out.trans (by rw[if_neg e1,List.append_nil]));clear e1 c g;go_wp2_with fail;go_roundw
    case rel=>exact⟨k+1,by go_num,by omega,by rw[d.out,f.out];exact HB.out⟩
    case measure=>simp[intOf];omega
  ·obtain rfl:k=s.length:=by omega
   rw[HF.out,HG.out]at HB⊢;have D:=HB.out.fn;have H:=HB.out.fl;have E:=HB.out.gn;obtain⟨K2,o⟩:∃K2:Nat→Prop,(fun k=>K k∨((Value.slice fa F.length fc).ownBlock=some k∨(Value.slice ga G.length gc).ownBlock=some k))=K2:=⟨_,rfl⟩;have h1:=HT.out.more HB.out.fr (P:=fun k=>(Value.slice fa F.length fc).ownBlock=some k∨(Value.slice ga G.length gc).ownBlock=some k) (fun k hk=>by
    rcases hk with hk|hk
    ·exact⟨(D k hk).1,H k hk⟩
    ·exact E k hk)
   have L:∀k,K k→K2 k:=by rw[←o];exact fun k h=>.inl h
   have kf:∀k,(Value.slice fa F.length fc).ownBlock=some k→K2 k:=by rw[←o];exact fun k h=>.inr (.inl h)
   have kg:∀k,(Value.slice ga G.length gc).ownBlock=some k→K2 k:=by rw[←o];exact fun k h=>.inr (.inr h)
   rw[o]at h1;have FW:=hid HB.out.fr;have H1:=hid h1;have J:=hid L;have KF:=hid kf;have KG:=hid kg;have R:=hid HB.out.fo;have M:=hid HB.out.go;have S:F.length≤256:=by omega
   have N:G.length≤256:=by omega
   clear HT D H E h1 L kf kg o HB A;go_wp2_with fail;refine(px_byte 47 47 (by decide) rfl H1.out (by omega)).mono ?_;rintro e w2 ⟨rfl,h2,f2⟩;have H2:=hid h2;have F2:=hid f2;have c2:=ZgL (ownsRow_fr R.out f2 (fun k hk x=>x (.inr (KF.out k hk))));clear h2 f2;go_wp2_with fail;refine(pr_quote F [92,47] [92,110] H2.out (by simp only[List.length_append,List.length_cons,List.length_nil];omega) (by decide)).mono ?_;rintro e w3 ⟨rfl,h3,f3⟩;rw[O.out]at h3;have H3:=hid h3;have F3:=hid (F2.out.trans f3 (fun _ _ x=>x));clear h3 f3 c2;go_wp2_with fail;refine(px_byte 47 47 (by decide) rfl H3.out (by simp only[List.length_append,List.length_cons,List.length_nil];omega)).mono ?_;rintro e w4 ⟨rfl,h4,f4⟩;have H4:=hid h4;have F4:=hid (F3.out.trans f4 (fun _ _ x=>x));clear h4 f4;have c4:=ZgL (ownsRow_fr M.out F4.out (fun k hk x=>x (.inr (KG.out k hk))));go_wp2_with fail;refine(pr_quote G [92,47] [92,110] H4.out (by simp only[List.length_append,List.length_cons,List.length_nil];omega) (by decide)).mono ?_
   rintro e w5 ⟨rfl,h5,f5⟩;rw[U.out]at h5;have H5:=hid h5;have F5:=hid (F4.out.trans f5 (fun _ _ x=>x));clear h5 f5 c4;go_wp2_with fail;refine(px_byte 47 47 (by decide) rfl H5.out (by simp only[List.length_append,List.length_cons,List.length_nil];omega)).mono ?_;rintro e w6 ⟨rfl,h6,f6⟩;go_wp2;exact bodyPost_ret (results_none rfl _ _ _) rfl ⟨rfl,by simpa using h6.less J.out,(Pxn.of FW.out).trans (Pxn.less (F5.out.trans f6 (fun _ _ x=>x)) J.out) (fun _ _ x=>x)⟩
end Go.Proofs.YtkfddjopbocpkaaGreatDoor
namespace Go.Proofs.YtkfddjopbocpkaaGreatDoor
open Go.RowKit
theorem ZjD{l:List UInt8}{s s':AdS}{a:AV}(h:Zdj l s=.inr (a,s')):a.tree=.nil:=by
 unfold Zdj at h;split at h
 ·cases h
 ·split at h
  ·cases h
  ·injection h with h;injection h with h1 h2;subst h1;rfl
theorem moreD_tree{l:List UInt8}{s s':AdS}{a:AV}(h:Zdk l s=.inr (a,s')):a.tree=.nil:=by
 unfold Zdk at h;split at h
 ·cases h
 ·injection h with h;injection h with h1 h2;subst h1;rfl
theorem regexD_tree{x:Bool}{l:List UInt8}{d:UInt8}{s s':AdS}{a:AV}(h:ZaE x l d s=.inr (a,s')):a.tree.size≤2*l.length+2:=by
 unfold ZaE at h;split at h
 ·cases h
 ·split at h
  ·cases h
  ·split at h
   ·cases h
   ·next t r hp=>
    injection h with h;injection h with h1 h2;subst h1;have h2:=ZdC l d true (l.length+1) s.at_ [];have h3:=(parseD_marks hp).2.2;simp only[List.length_nil,Nat.zero_add]at h2;show t.size≤_;omega
theorem Nd.size_nil:Nd.nil.size≤2:=by decide
theorem addrD_tree{x:Bool}{l:List UInt8}{sec:Bool}{s s':AdS}{a:AV}(h:ZaC x l sec s=.inr (a,s')):a.tree.size≤2*l.length+2:=by
 have hn:∀a:AV,a.tree=.nil→a.tree.size≤2*l.length+2:=fun a e=>by rw[e];have:=Nd.size_nil;omega
 unfold ZaC at h;split at h
 ·exact hn _ (ZjD h)
 ·split at h
  ·injection h with h;injection h with h1 h2;exact hn _ (by rw[←h1])
  ·split at h
   ·exact regexD_tree h
   ·split at h
    ·split at h
     ·cases h
     ·exact regexD_tree h
    ·split at h
     ·exact hn _ (moreD_tree h)
     ·injection h with h;injection h with h1 h2;exact hn _ (by rw[←h1];rfl)
theorem pairD_tree{x:Bool}{l:List UInt8}{s s':AdS}{a:AV}(h:Zbc x l s=.inr (a,s')):a.tree.size≤2*l.length+2:=by
 unfold Zbc at h;split at h
 ·split at h
  ·cases h
  ·next b s1 hp=>
   split at h
   ·cases h
   ·injection h with h;injection h with h1 h2;subst h1;exact addrD_tree hp
 ·injection h with h;injection h with h1 h2;rw[←h1];have:=Nd.size_nil;show Nd.nil.size≤_;omega
theorem Zlt{l:List UInt8}{a b:AV}{s s':AdS}{g:GV}(h:ZgT l a b s=.inr (g,s')):g.a=a∧g.b=b:=by
 unfold ZgT at h;split at h
 ·split at h
  ·cases h
  ·injection h with h;injection h with h1 h2;subst h1;exact⟨rfl,rfl⟩
 ·injection h with h;injection h with h1 h2;subst h1;exact⟨rfl,rfl⟩
theorem Zh4{x:Bool}{l:List UInt8}{s s':AdS}{g:GV}(h:ZX x l s=.inr (g,s')):g.a.tree.size≤2*l.length+2∧g.b.tree.size≤2*l.length+2:=by
 unfold ZX at h;split at h
 ·cases h
 ·next a s1 ha=>
  split at h
  ·cases h
  ·next b s2 hb=>
   obtain⟨e1,e2⟩:=Zlt h;rw[e1,e2];refine⟨addrD_tree ha,?_⟩;split at hb
   ·injection hb with hb;injection hb with h1 h2;rw[←h1];have:=Nd.size_nil;show Nd.nil.size≤_;omega
   ·exact pairD_tree hb
theorem Zh5(x:Bool)(l:List UInt8)(d:UInt8)(s:AdS):(Zav x l d s).1.2.size≤2*l.length+2:=by
 have hz:=Nd.size_nil;unfold Zav;simp only;generalize(if(Zr l d true s).2.e=0∧(Zr l d true s).1=[]then failC (Zr l d true s).2 2 s.at_ else(Zr l d true s).2)=s2;split
 ·show Nd.nil.size≤_;omega
 ·cases hp:Zac prg x (Zr l d true s).1 with
  |inl z=>show Nd.nil.size≤_;omega
  |inr z=>
   obtain⟨n,r⟩:=z;have h3:=(parseD_marks hp).2.2;have h4:(Zr l d true s).1.length≤l.length:=by
    unfold Zr;split
    ·exact Nat.zero_le _
    ·have:=ZdC l d true (l.length+1) s.at_ [];simp only[List.length_nil]at this;show(bt l d true (l.length+1) s.at_ []).1.length≤_;omega
   show n.size≤_;omega
theorem Zlu(b:List Prt)(t:List UInt8):(pushT b t).length≤b.length+1:=by
 unfold pushT;cases h:b.getLast? with
 |none=>simp
 |some p=>
  simp only;split
  ·rw[List.length_append,List.length_dropLast];simp only[List.length_singleton];omega
  ·simp
theorem partsL_len(g:Int):∀(t:List UInt8) (esc:Bool) (b:List Prt),(Zao g t esc b).1.length≤b.length+t.length
 |[],esc,b=>by rw[Zao];split<;>simp
 |c::r,esc,b=>by
  have h1:=partsL_len g r;have h2:=Zlu b;rw[Zao,List.length_cons];split
  ·have:=h1 true b;omega
  ·split
   ·have:=h1 false (b++[(0,[])]);rw[List.length_append]at this;simp at this;omega
   ·split
    ·split
     ·exact Nat.zero_le _
     ·have:=h1 false (b++[((c.toNat:Int)-48,[])]);rw[List.length_append]at this;simp at this;omega
    ·split
     ·have:=h1 false (pushT b [10]);have:=h2 [10];omega
     ·have:=h1 false (pushT b [c]);have:=h2 [c];omega
theorem ZjE(l:List UInt8)(sub:SV)(s:AdS):(Zap l sub s).2.1.tree=sub.tree∧(Zap l sub s).2.1.parts=sub.parts:=by
 unfold Zap;split
 ·exact⟨rfl,rfl⟩
 ·split
  ·exact⟨rfl,rfl⟩
  ·split
   ·simp only;split<;>exact⟨rfl,rfl⟩
   ·split<;>exact⟨rfl,rfl⟩
theorem Zem(l:List UInt8):∀(n:Nat) (sub:SV) (s:AdS),(Zai l n sub s).1.tree=sub.tree∧(Zai l n sub s).1.parts=sub.parts
 |0,_,_=>⟨rfl,rfl⟩
 |n+1,sub,s=>by
  rw[Zai];have hf:=ZjE l sub s;cases hr:Zap l sub s with
  |mk a b=>
   rw[hr]at hf;obtain⟨b,c⟩:=b;cases a with
   |true=>have:=Zem l n b c;exact⟨this.1.trans hf.1,this.2.trans hf.2⟩
   |false=>exact hf
theorem ZmX(x:Bool)(l:List UInt8)(s:AdS):(Zet x l s).1.tree.size≤2*l.length+2∧(Zet x l s).1.parts.length≤l.length:=by
 unfold Zet;simp only;split
 ·exact⟨by show Nd.nil.size≤_;have:=Nd.size_nil;omega,Nat.zero_le _⟩
 ·have h1:=Zh5 x l (Zv l s).1 (Zv l s).2;split
  ·exact⟨h1,Nat.zero_le _⟩
  ·split
   ·exact⟨h1,Nat.zero_le _⟩
   ·have hk:=Zem l (l.length+2);rw[(hk _ _).1,(hk _ _).2];refine⟨h1,?_⟩;have h4:∀q:AdS,(Zr l (Zv l s).1 false q).1.length≤l.length:=fun q=>by
     unfold Zr;split
     ·exact Nat.zero_le _
     ·have:=ZdC l (Zv l s).1 false (l.length+1) q.at_ [];simp only[List.length_nil]at this;show(bt l _ false (l.length+1) q.at_ []).1.length≤_;omega
    have h5:=partsL_len (Zav x l (Zv l s).1 (Zv l s).2).1.2.groups (Zr l (Zv l s).1 false (Zav x l (Zv l s).1 (Zv l s).2).2).1 false [];have h6:=h4 (Zav x l (Zv l s).1 (Zv l s).2).2;simp only[List.length_nil]at h5;show(Zao _ _ false []).1.length≤_;omega
theorem Zlv(x:Bool)(l:List UInt8)(c:CV)(s:AdS)(h:c.sub=SV.zero):(ZsD x l c s).2.1.sub.tree.size≤2*l.length+2∧(ZsD x l c s).2.1.sub.parts.length≤l.length:=by
 have h0:c.sub.tree.size≤2*l.length+2∧c.sub.parts.length≤l.length:=by
  rw[h];exact⟨by show Nd.nil.size≤_;have:=Nd.size_nil;omega,Nat.zero_le _⟩
 unfold ZsD;split
 ·exact h0
 split
 ·exact h0
 split
 ·exact h0
 split
 ·exact h0
 split
 ·exact h0
 split
 ·exact ZmX x l s
 split
 ·exact h0
 ·exact h0
theorem cmdD_few{x:Bool}{l:List UInt8}{p:Nat}{c:CV}{q:AdS}(hl:l.length≤100000)(h:Zeu x l p=.inr (c,q)):c.few:=by
 unfold Zeu at h;cases hg:ZX x l ⟨p,[],0⟩with
 |inl z=>rw[hg]at h;cases h
 |inr z=>
  obtain⟨g,s⟩:=z;rw[hg]at h;simp only at h;split at h
  ·cases h
  ·injection h with h;obtain⟨g1,g2⟩:=Zh4 hg;have hz:CV.zero.few:=by
    refine⟨?_,?_,?_,?_⟩
    ·show Nd.nil.size≤_;have:=Nd.size_nil;omega
    ·show Nd.nil.size≤_;have:=Nd.size_nil;omega
    ·show Nd.nil.size≤_;have:=Nd.size_nil;omega
    ·exact Nat.zero_le _
   have d:(ZbY x l g s).1.few:=by
    unfold ZbY;split
    ·exact hz
    ·simp only;generalize(if ZM (byt l s.at_)<0 then failC s 13 s.at_ else if ZM (byt l s.at_)<ZcD g then failC s 19 s.at_ else if byt l s.at_=81∨byt l s.at_=84∨byt l s.at_=122 then Zan s s.at_ [byt l s.at_]else s)=s1;split
     ·exact hz
     ·have hk:=fun(cv:CV) (q:AdS)=>Zcj x l cv q;have hf:=fun(cv:CV) (q:AdS) (hc:cv.sub=SV.zero)=>Zlv x l cv q hc;split
      ·refine⟨?_,?_,?_,?_⟩
       ·rw[(hk _ _).2.2];show g.a.tree.size≤_;omega
       ·rw[(hk _ _).2.2];show g.b.tree.size≤_;omega
       ·have:=(hf {CV.zero with at_:=s.at_,guard:=g,name:=byt l s.at_} (s1.to (s1.at_+1)) rfl).1;exact Nat.le_trans this (by omega)
       ·have:=(hf {CV.zero with at_:=s.at_,guard:=g,name:=byt l s.at_} (s1.to (s1.at_+1)) rfl).2;exact Nat.le_trans this (by omega)
      ·refine⟨?_,?_,?_,?_⟩
       ·rw[(hk _ _).2.2];show g.a.tree.size≤_;omega
       ·rw[(hk _ _).2.2];show g.b.tree.size≤_;omega
       ·have:=(hf {CV.zero with at_:=s.at_,guard:=g,name:=byt l s.at_} (s1.to (s1.at_+1)) rfl).1;exact Nat.le_trans this (by omega)
       ·have:=(hf {CV.zero with at_:=s.at_,guard:=g,name:=byt l s.at_} (s1.to (s1.at_+1)) rfl).2;exact Nat.le_trans this (by omega)
   rw[h]at d;exact d
end Go.Proofs.YtkfddjopbocpkaaGreatDoor
