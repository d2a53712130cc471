/- Lemmas of this claim. -/
import Derived.Test.YtgllcniibbaoaaaGreatDoorK16
set_option linter.all false
set_option maxRecDepth 100000
set_option maxHeartbeats 24000000
namespace Go.Proofs.YtgllcniibbaoaaaGreatDoor
open Go.Lib (hid)
open Go.RowKit
attribute [-go_sem] storeVar loadVar
attribute [local go_sem] Zx3 Zx4 Zx1 Zx2 Zyb Zx9
abbrev ZzM(x:S4):Array Value:= #[.int .u64 x.a,.int .u64 x.b,.int .u64 x.c,.int .u64 x.d]
abbrev zS4:Array Value:= #[.int .u64 0,.int .u64 0,.int .u64 0,.int .u64 0]
theorem ZAl{w:World}(x:S4):Sem.run Tryz.prog (storeVar 33 ⟨w.heap.size,0,none⟩ (ZcR x)) (w.alloc (.cells #[.int .u64 0,.int .u64 0,.int .u64 0,.int .u64 0] 33))=
 .ok () ((w.alloc (.cells #[.int .u64 0,.int .u64 0,.int .u64 0,.int .u64 0] 33)).setRow w.heap.size (ZzM x)):=
 run_storeVar_row _ _ _ _ _ _ (heap_alloc_new w _) info_dS rfl (one_dS _ _ _ _)
theorem ZAm{w:World}{b:Nat}(h:w.heap[b]? =some (.cells #[.int .u64 0,.int .u64 0,.int .u64 0,.int .u64 0] 33 (0,0)))(x:S4):Sem.run Tryz.prog (storeVar 33 ⟨b,0,none⟩ (ZcR x)) w=.ok () (w.setRow b (ZzM x)):=
 run_storeVar_row _ _ _ _ _ _ h info_dS rfl (one_dS _ _ _ _)
attribute [local go_sem] ZAl
theorem LB.add{w0 w w':World}{L:List (Nat×Array Value×TypeId)}(h:LB w0 L w)(f:Fr nob w w'){q:Nat}{cs:Array Value}{T:TypeId}(hq:w'.heap[q]? =some (.cells cs T (0,0)))(hle:w.heap.size≤q):LB w0 (L++[(q,cs,T)]) w':=by
 refine⟨h.fr.trans' f,fun x hx=> ?_,?_,fun x hx=> ?_⟩
 ·rcases List.mem_append.1 hx with hx|hx
  ·exact h.lo x hx
  ·rw[List.mem_singleton]at hx;subst hx;exact Nat.le_trans h.fr.size hle
 ·rw[List.pairwise_append];refine⟨h.ne,List.pairwise_singleton _ _,fun x hx y hy=> ?_⟩;rw[List.mem_singleton]at hy;subst hy;have:=h.lt x hx;simp only;omega
 ·rcases List.mem_append.1 hx with hx|hx
  ·exact f.heap (h.at_ x hx) (fun x=>x)
  ·rw[List.mem_singleton]at hx;subst hx;exact hq
theorem ret_RT{fn:Func}(h:fn.results= #[.cell 4 123,.cell 5 36]){tmps:Array Value}{r r2:Nat}(ht:tmps.getD 4 undef=.pointer (some ⟨r,0,none⟩))(ht2:tmps.getD 5 undef=.pointer (some ⟨r2,0,none⟩)){W:World}{cs cs2:Array Value}{X X2:TypeId}
 (hb:W.heap[r]? =some (.cells cs X (0,0))) (hb2:W.heap[r2]? =some (.cells cs2 X2 (0,0))) (h8:cs.size=8) (h9:cs2.size=9):(results fn tmps).run Tryz.prog W=.ok (.tuple #[.agg cs,.agg cs2]) W:=
 ZyO h ht ht2 hb hb2 Tryz.underlying123 rfl (by rw[h8];exact info_dR) Tryz.underlying36 rfl (by rw[h9];exact info_dT)
abbrev EL(w:World)(r:Array Value)(b3:Nat)(wd:S4)(q:Nat)(x:S4):List (Nat×Array Value×TypeId):=[(w.heap.size,r,123),(w.heap.size+1,zR,123),(w.heap.size+2,zT9,36),(b3,ZzM wd,33),(q,ZzM x,33)]
abbrev eB(w:World)(b3 q:Nat):List Nat:=[w.heap.size,w.heap.size+1,w.heap.size+2,b3,q]
theorem RxS.mk_at{m:Bool}{s:RxS}{t:List UInt8}:(if m then s.mark t else s).at_=s.at_∧(if m then s.mark t else s).closed=s.closed∧(if m then s.mark t else s).opened=s.opened:=by cases m<;>exact⟨rfl,rfl,rfl⟩
theorem ZyP(S:Nat→Prop)(w:World):RT S w (.mk 0 S4.zero [] 0 0 0) [.int .i64 0,.int .u64 0,.int .u64 0,.int .u64 0,.int .u64 0,.slice none 0 0,.int .i64 0,.int .i64 0,.int .i64 0]:=Zw0.2 ⟨_,rfl,.inl ⟨⟨none,0,rfl⟩,rfl⟩⟩
section
variable (l:List UInt8) (ere:Bool) (s:RxS) (ca:Option Addr) (cc:Nat) (ma:Option Addr) (mc:Nat)
theorem d_escape(K:Nat)(hK:1≤K)(O:Nat→Prop)(b:UInt8)(w:World)(hO:∀k,O k→k<w.heap.size)(hs:s.at_+2≤l.length)(hl:l.length≤1000)(hc:s.closed.length≤1000)(hm:s.marks.length≤1000)(HC:CSO O w s.closed ca cc)(HM:MSO O w s.marks (.slice ma s.marks.length mc)):
 Calls Tryz.prog 147 #[rV l ere s ca cc ma mc 0 0,.string ⟨[92,b].toArray⟩] w (Zy4 K O l ere (escD prg ere s b) w):=by
 have o:=hid (fun w'=>d_class ⟨#[97,108,110,117,109]⟩ _ rfl w');obtain⟨al,a6⟩:∃al,ZaD (Zak ⟨#[97,108,110,117,109]⟩)=al:=⟨_,rfl⟩;rw[a6]at o;have a4:=hid (fun w'=>spanR_lit 95 95 w' (by decide) (by decide));obtain⟨us,b1⟩:∃us,spn 95 95=us:=⟨_,rfl⟩;rw[b1]at a4;have a2:=hid (fun w'=>orR_lit al us w');obtain⟨wd,b2⟩:∃wd,al.or us=wd:=⟨_,rfl⟩;rw[b2]at a2;have b9:=hid (show Zdz=wd by unfold Zdz;rw[a6,b1,b2]);have a3:=hid (fun w'=>spanR_lit b.toNat b.toNat w' b.toNat_lt b.toNat_lt);obtain⟨sb,a9⟩:∃sb,spn b.toNat b.toNat=sb:=⟨_,rfl⟩;rw[a9]at a3;have b7:=hid a9;clear a6 b1 b2 a9;have U:=hid HC;have L:=hid HM;clear HC HM;unfold rV;go_enter Tryz.func147,Tryz.ntmps147;go_wp2_with fail;refine(o.out _).mono ?_;rintro e w4 ⟨rfl,f4⟩;have L4:=hid ((LB.three w (rC l ere s ca cc ma mc 0 0)).on f4);clear f4;go_wp2_with fail;refine(a4.out _).mono ?_;rintro e w5 ⟨rfl,f5⟩
 have L5:=hid (L4.out.on f5);clear f5;go_wp2_with fail;refine(a2.out _).mono ?_;rintro e w6 ⟨rfl,f6⟩;have L6:=hid ((L5.out.on f6).push zS4 33 _ rfl);clear f6;go_wp2_with(refine L6.out.sto nob 3 rfl rfl _ _ rfl rfl rfl info_dS rfl (one_dS _ _ _ _) ?_;intro w7 l7 z1 z2;have c7:=rule8 (l7.get 0 rfl) w7 (Fr.refl nob w7);have L7:=hid l7;clear l7 z1 z2);clear c7
 refine' ZAj _ (fun q w'=>w7.heap.size≤q∧Fr nob w7 w'∧w'.heap[q]? =some (.cells (ZzM sb) 33 (0,0))) ?reg ?mono
 case reg=>
  go_region_held3 (fun w'=>True) (trivial) (first|(go_at_call 146;(refine(a3.out _).mono ?_);rintro e w8 ⟨rfl,f8⟩;(first|(have b4:=f8.heap (show(World.alloc (World.drew w7) (.cells #[.int .u64 0,.int .u64 0,.int .u64 0,.int .u64 0] 33)).heap[w7.heap.size]? =some (.cells #[.int .u64 0,.int .u64 0,.int .u64 0,.int .u64 0] 33)from newAt0 (World.drew w7) _) (fun x=>x);have e8:=ZAm b4 sb;have d6:=hid b4;have F8:=hid ((((Fr.refl nob w7).drew).alloc _).trans' f8);clear b4 f8)|(have F8:=hid (((Fr.refl nob w7).drew).trans' f8);clear f8))))
  all_goals
   refine⟨rfl,?_⟩
   first
    |have h1:=setRow_heap w8 w7.heap.size _ (ZzM sb) _ _ d6.out
     have h2:=F8.out.trans (Zya w8 w7.heap.size (ZzM sb)) (fun i hi e=>by omega);have h4:=Nat.le_refl w7.heap.size;refine⟨w7.heap.size,?_,h4,h2,h1⟩;clear h1 h2 h4;generalize w7.heap.size=q;exact rfl
    |have h1:=setRow_heap (w8.alloc (.cells zS4 33)) w8.heap.size _ (ZzM sb) _ _ (heap_alloc_new w8 _)
     have h4:=F8.out.size;have h2:=(F8.out.alloc (.cells zS4 33)).trans (Zya (w8.alloc (.cells zS4 33)) w8.heap.size (ZzM sb)) (fun i hi e=>by omega);refine⟨w8.heap.size,?_,h4,h2,h1⟩;clear h1 h2 h4;generalize w8.heap.size=q;exact rfl
 case mono=>
  rintro q wA ⟨g1,g3,g4⟩;obtain⟨b3,c3⟩:∃b3,w6.heap.size=b3:=⟨_,rfl⟩;have la:LB w (EL w (rC l ere s ca cc ma mc 0 0) w6.heap.size wd q sb) wA:=L7.out.add g3 g4 g1;rw[c3]at la⊢;have LA:=hid la;clear g1 g3 g4 L4 L5 L6 L7 la c3 a3 a2 a4 o;by_cases hd:49≤b.toNat∧b.toNat≤57
  ·obtain⟨c5,c6⟩:=hd;have d8:(49:Int)≤b.toNat:=by omega
   have d9:(b.toNat:Int)≤57:=by omega
   obtain⟨n,hn⟩:∃n,b.toNat-48=n:=⟨_,rfl⟩;have e7:IntKind.u8.wrap ((b.toNat:Int)-48)=n:=by rw[IntWalk.u8_in _ (by omega)];omega
   have e6:n≤9:=by omega
   have V:=hid (show escD prg ere s b=(if s.closed.contains n then .inr (.back (n:Int),(if ere then s.mark [92,b]else s).go 2)else .inl (9,s.at_)) by unfold escD;rw[if_pos ⟨c5,c6⟩,hn];rfl);have d4:=hid ((U.out.on LA.out.fr).at);have cA:=rule8 (LA.out.get 0 rfl) wA (Fr.refl nob wA);clear hn;go_wp2_with fail
   go_loopw [11,39] (fun f i wr=>∃k:Nat,i=.int .i64 k∧k≤s.closed.length∧f=.bool ((s.closed.take k).contains n)∧wA=wr) (fun _ i _=>s.closed.length-(intOf i).toNat)
   case atStart=>exact⟨0,rfl,Nat.zero_le _,rfl,rfl⟩
   case round=>
    obtain⟨k,rfl,hk,rfl,rfl⟩:=hrel;by_cases d1:k<s.closed.length
    ·have a7:=ZzZ (n:=n) d1;obtain⟨y,hy⟩:∃y,s.closed[k]=y:=⟨_,rfl⟩;obtain⟨g,off,e5,d7,B⟩:=SI.get d4.out (k:=k) (by simpa using d1);injection d7 with h1 h2 h3;subst h1;rw[List.getElem_map,hy]at B;have d3:wA.cell? ⟨g,off+k,none⟩=some (.int .i64 (y:Int)):=B;rw[hy]at a7;have E:=hid a7;clear a7 B h2 hy;cases hc:(s.closed.take k).contains n with
     |true=>
      rw[hc,Bool.true_or]at E;go_wp2;go_roundw
      case rel=>exact⟨k+1,by go_num,by omega,by rw[E.out],by first|rfl|trivial⟩
      case measure=>simp[intOf];omega
     |false=>
      rw[hc,Bool.false_or]at E;rcases Bool.eq_false_or_eq_true (y==n)with hq|hq
      all_goals
       rw[hq]at E
       first
        |have t1:((y:Int)==(n:Int))=true:=by simp[eq_of_beq hq]
        |have t1:((y:Int)==(n:Int))=false:=by simp only[beq_eq_false_iff_ne,ne_eq];have:=ne_of_beq_false hq;omega
       clear hq;go_wp2;go_roundw
       case rel=>exact⟨k+1,by go_num,by omega,by rw[E.out],by first|rfl|trivial⟩
       case measure=>simp[intOf];omega
    ·obtain rfl:k=s.closed.length:=by omega
     rw[List.take_length];cases M:s.closed.contains n with
     |false=>
      have HE:=hid (show escD prg ere s b=.inl (9,s.at_) by rw[V.out,M];rfl);clear M cA;go_wp2_with(refine LA.out.ld 0 rfl rfl _ rfl rfl Tryz.underlying123 rfl info_dR ?_);refine(d_fail_lit l ere s ca cc ma mc 9 s.at_ _).mono ?_;rintro e wF ⟨rfl,fF⟩;have LF:=hid (LA.out.on fF);clear fF;go_wp2_with(first|(refine LF.out.sto O 1 rfl rfl _ _ rfl rfl rfl info_dR rfl (one_dR l ere s ca cc ma mc 9 s.at_) ?_;intro wG l9 z1 z2;have LG:=hid l9;clear l9 z1 z2)|(refine LG.out.sto O 2 rfl rfl _ _ rfl rfl rfl info_dT rfl (one_dT _ _ _ _ _ _ _ _ _ _ _) ?_;intro wH l9 z1 z2;have LH:=hid l9;clear l9 z1 z2));rw[HE.out];refine bodyPost_ret (ret_RT rfl rfl rfl (LH.out.get 1 rfl) (LH.out.get 2 rfl) rfl rfl) rfl ?_;exact⟨LH.out.fr,s,ca,cc,ma,mc,_,_,rfl,ZyP O _,by show 1≤K;exact hK,by decide⟩
     |true=>
      have HE:=hid (show escD prg ere s b=.inr (.back (n:Int),(if ere then s.mark [92,b]else s).go 2) by rw[V.out,M];rfl);clear M V;go_upto_if 60 with(fail)
      go_cut [] (fun w'=>∃a d,LB w (EL w (rC l ere (if ere then s.mark [92,b]else s) ca cc a d 0 0) b3 wd q sb) w'∧MSO (lbB O (eB w b3 q)) w' (if ere then s.mark [92,b]else s).marks (.slice a (if ere then s.mark [92,b]else s).marks.length d))
      case first=>
       cases ere with
       |false=>
        go_wp2;go_meet
        case rel=>exact⟨ma,mc,LA.out,LA.out.mso L.out⟩
       |true=>
        go_wp2_with(refine LA.out.ld 0 rfl rfl _ rfl rfl Tryz.underlying123 rfl info_dR ?_);refine(d_mark_lit l true s ca cc ma mc [92,b] _ (by omega) (L.out.on LA.out.fr).at).mono ?_;rintro e wM ⟨a,d,rfl,H,fM⟩;have LM:=hid (LA.out.on fM);have a0:=hid (MSO.of_lo H (LA.out.below hO));clear H fM;go_wp2_with(refine LM.out.sto O 0 rfl rfl _ _ rfl rfl rfl info_dR rfl (one_dR l true (s.mark [92,b]) ca cc a d 0 0) ?_;intro wN l9 z1 z2;have LN:=hid l9;have a1:=hid (a0.out.step z1);clear l9 z1 z2);go_meet
        case rel=>exact⟨a,d,LN.out,a1.out⟩
      case rest=>
       obtain⟨a,d,l2,C⟩:=hcut;obtain⟨r,u,J⟩:=RxS.mk_at (m:=ere) (s:=s) (t:=[92,b]);obtain⟨s1,I⟩:∃s1,(if ere then s.mark [92,b]else s)=s1:=⟨_,rfl⟩;rw[I]at l2 C r u J HE;have rr:=rule8 (l2.get 0 rfl) wc (Fr.refl nob wc);have e2:(s.at_:Int)+2=((s1.go 2).at_:Int):=by show _=((s1.at_+2:Nat):Int);rw[r];omega
       have hD:=l2.cell' O 0 rfl 2 (.int .i64 ((s.at_:Int)+2));have E2:=hid e2;have G:=hid C;have F:=hid hD;have o:=hid u;clear I r u J e2 C hD l2 LA cA;obtain⟨wD,D⟩:∃wD,wc.setCell ⟨w.heap.size,2,none⟩ (.int .i64 ((s.at_:Int)+2))=wD:=⟨_,rfl⟩;obtain⟨p,A,_⟩:=F.out;rw[D]at p A;rw[E2.out]at p;have LD:Hid (LB w (EL w (rC l ere (s1.go 2) ca cc a d 0 0) b3 wd q sb) wD):=hid p;have X:=hid (G.out.step A);have c0:=hid D;clear D p A F G;go_wp2_with(first|(with_reducible rw[c0.out])|(refine LD.out.ld 0 rfl rfl _ rfl rfl Tryz.underlying123 rfl info_dR ?_)|(refine LD.out.sto O 1 rfl rfl _ _ rfl rfl rfl info_dR rfl (one_dR l ere (s1.go 2) ca cc a d 0 0) ?_;intro wF l9 z1 z2;have LF:=hid l9;have Y:=hid (X.out.step z1);clear l9 z1 z2)|(refine LF.out.sto O 2 rfl rfl _ _ rfl rfl rfl info_dT rfl (one_dT _ _ _ _ _ _ _ _ _ _ _) ?_;intro wG l9 z1 z2;have LG:=hid l9;have Z:=hid (Y.out.step z1);clear l9 z1 z2))
       rw[HE.out];refine bodyPost_ret (ret_RT rfl rfl rfl (LG.out.get 1 rfl) (LG.out.get 2 rfl) rfl rfl) rfl ?_;refine⟨LG.out.fr,ca,cc,a,d,nine 6 S4.zero (.slice none 0 0) 0 0 n,by unfold rV rC;rw[show(s1.go 2).closed=s.closed from o.out];rfl,Zw0.2 ⟨_,rfl,.inl ⟨⟨none,0,rfl⟩,rfl⟩⟩,?_,Z.out.wide (fun k _ x=>.inl x)⟩;rw[show(s1.go 2).closed=s.closed from o.out];exact U.out.on LG.out.fr
  ·have a8:(b.toNat:Int)<49∨((49:Int)≤b.toNat∧¬(b.toNat:Int)≤57):=by omega
   have HE:Hid (escD prg ere s b=match ZjI b with|none=>.inl (2,s.at_)|some (c,m)=>.inr (.one c,(if m then s.mark [92,b]else s).go 2)):=hid (by unfold escD;rw[if_neg hd];rfl);clear hd;go_upto_block 0 with(fail)
   go_cut [9] (fun v w'=>∃sn m,ZjI b=some (sn,m)∧v=.bool m∧LB w (EL w (rC l ere s ca cc ma mc 0 0) b3 wd q sn) w')
   case first=>
    by_cases h:b=110
    ·subst h;go_wp2_with fail;refine(spanR_lit 10 10 wA (by decide) (by decide)).mono ?_;rintro e wB ⟨rfl,f1⟩;have j:=hid (LA.out.on f1);clear f1;go_wp2_with(refine j.out.sto O 4 rfl rfl _ _ rfl rfl rfl info_dS rfl (one_dS _ _ _ _) ?_;intro w9 l9 z1 z2;have L9:=hid l9;clear l9 z1 z2);go_meet
     case rel=>exact⟨_,_,rfl,rfl,L9.out⟩
    have e0:((b.toNat:Int)==110)=false:=Zn (b:=110) h;have N:=hid h;clear h;by_cases h:b=116
    ·subst h;go_wp2_with fail;refine(spanR_lit 9 9 wA (by decide) (by decide)).mono ?_;rintro e wB ⟨rfl,f1⟩;have j:=hid (LA.out.on f1);clear f1;go_wp2_with(refine j.out.sto O 4 rfl rfl _ _ rfl rfl rfl info_dS rfl (one_dS _ _ _ _) ?_;intro w9 l9 z1 z2;have L9:=hid l9;clear l9 z1 z2);go_meet
     case rel=>exact⟨_,_,rfl,rfl,L9.out⟩
    have e3:((b.toNat:Int)==116)=false:=Zn (b:=116) h;have Q:=hid h;clear h;by_cases h:b=119
    ·subst h;have j:=LA;go_wp2_with(first|(refine LA.out.ld 3 rfl rfl _ rfl rfl Tryz.underlying33 rfl info_dS ?_)|(refine LA.out.sto O 4 rfl rfl _ _ rfl rfl rfl info_dS rfl (one_dS _ _ _ _) ?_;intro w9 l9 z1 z2;have L9:=hid l9;clear l9 z1 z2));go_meet
     case rel=>exact⟨_,_,(by rw[←b9.out];rfl),rfl,L9.out⟩
    have e4:((b.toNat:Int)==119)=false:=Zn (b:=119) h;have R:=hid h;clear h;by_cases h:b=87
    ·subst h;go_wp2_with(refine LA.out.ld 3 rfl rfl _ rfl rfl Tryz.underlying33 rfl info_dS ?_);refine(notR_lit wd wA).mono ?_;rintro e wB ⟨rfl,f1⟩;have j:=hid (LA.out.on f1);clear f1;go_wp2_with(refine j.out.sto O 4 rfl rfl _ _ rfl rfl rfl info_dS rfl (one_dS _ _ _ _) ?_;intro w9 l9 z1 z2;have L9:=hid l9;clear l9 z1 z2);go_meet
     case rel=>exact⟨_,_,(by rw[←b9.out];rfl),rfl,L9.out⟩
    have f0:((b.toNat:Int)==87)=false:=Zn (b:=87) h;have c2:=hid h;clear h;by_cases h:b=115
    ·subst h;go_wp2_with fail;refine(d_class ⟨#[115,112,97,99,101]⟩ spaceS rfl wA).mono ?_;rintro e wB ⟨rfl,f1⟩;have j:=hid (LA.out.on f1);clear f1;go_wp2_with(refine j.out.sto O 4 rfl rfl _ _ rfl rfl rfl info_dS rfl (one_dS _ _ _ _) ?_;intro w9 l9 z1 z2;have L9:=hid l9;clear l9 z1 z2);go_meet
     case rel=>exact⟨_,_,rfl,rfl,L9.out⟩
    have e1:((b.toNat:Int)==115)=false:=Zn (b:=115) h;have P:=hid h;clear h;by_cases h:b=83
    ·subst h;go_wp2_with fail;refine(d_class ⟨#[115,112,97,99,101]⟩ spaceS rfl wA).mono ?_;rintro e wB ⟨rfl,f1⟩;have a5:=hid (LA.out.on f1);clear f1;go_wp2_with fail;refine(notR_lit spaceS _).mono ?_;rintro e f2 ⟨rfl,f1⟩;have j:=hid (a5.out.on f1);clear f1;go_wp2_with(refine j.out.sto O 4 rfl rfl _ _ rfl rfl rfl info_dS rfl (one_dS _ _ _ _) ?_;intro w9 l9 z1 z2;have L9:=hid l9;clear l9 z1 z2);go_meet
     case rel=>exact⟨_,_,rfl,rfl,L9.out⟩
    have e9:((b.toNat:Int)==83)=false:=Zn (b:=83) h;have c1:=hid h;clear h;have b0:ZjI b=if Za0.has b.toNat then some (sb,false)else none:=by
     unfold ZjI;rw[if_neg N.out,if_neg Q.out,if_neg R.out,if_neg c2.out,if_neg P.out,if_neg c1.out,b7.out]
    have b6:=hid (fun w'=>d_class ⟨#[112,117,110,99,116]⟩ Za0 rfl w');have S:Za0.fit:=Zdd (Zak ⟨#[112,117,110,99,116]⟩);have W:=hid (fun w'=>ZzY Za0 b.toNat w' S b.toNat_lt);obtain⟨hb,c9⟩:∃hb,Za0.has b.toNat=hb:=⟨_,rfl⟩;rw[c9]at b0 W;obtain⟨pu,d2⟩:∃pu,Za0=pu:=⟨_,rfl⟩;rw[d2]at b6 W;have b8:=hid b0;clear c9 b0 d2 S N Q R c2 P c1;rcases a8 with a8|⟨c5,c6⟩
    all_goals
     go_wp2_with fail;refine region_fr 3 (by kernel_rfl) (by kernel_rfl) ?_;simp only[List.take_succ_cons,List.take_zero,List.drop_succ_cons,List.drop_zero]
     repeat(quiet_step ((with_reducible exact calls_fr (b6.out _))))
     refine wpQuiet_nil ?_;intro wB fB;have a5:=hid (LA.out.on fB);clear fB;go_wp2_with fail;refine(W.out _).mono ?_;rintro e wC ⟨rfl,fC⟩;have j:=hid (a5.out.on fC);clear fC;cases hb with
     |true=>
      go_wp2;go_meet
      case rel=>exact⟨_,_,b8.out,rfl,j.out⟩
     |false=>
      have HE:=hid (show escD prg ere s b=.inl (2,s.at_) by rw[HE.out,b8.out];rfl);go_wp2_with(refine j.out.ld 0 rfl rfl _ rfl rfl Tryz.underlying123 rfl info_dR ?_);refine(d_fail_lit l ere s ca cc ma mc 2 s.at_ _).mono ?_;rintro e wF ⟨rfl,fF⟩;have LF:=hid (j.out.on fF);clear fF;go_wp2_with(first|(refine LF.out.sto O 1 rfl rfl _ _ rfl rfl rfl info_dR rfl (one_dR l ere s ca cc ma mc 2 s.at_) ?_;intro wG l9 z1 z2;have LG:=hid l9;clear l9 z1 z2)|(refine LG.out.sto O 2 rfl rfl _ _ rfl rfl rfl info_dT rfl (one_dT _ _ _ _ _ _ _ _ _ _ _) ?_;intro wH l9 z1 z2;have LH:=hid l9;clear l9 z1 z2));rw[HE.out];refine bodyPost_ret (ret_RT rfl rfl rfl (LH.out.get 1 rfl) (LH.out.get 2 rfl) rfl rfl) rfl ?_;exact⟨LH.out.fr,s,ca,cc,ma,mc,_,_,rfl,ZyP O _,by show 1≤K;exact hK,by decide⟩
   case rest=>
    obtain⟨sn,m,he,rfl,d0⟩:=hcut;have c8:escD prg ere s b=.inr (.one sn,(if m then s.mark [92,b]else s).go 2):=by rw[HE.out,he]
    have b5:=hid c8;have L0:=hid d0;clear he c8 HE d0 LA a8;go_upto_if 112 with(fail)
    go_cut [] (fun w'=>∃a d,LB w (EL w (rC l ere (if m then s.mark [92,b]else s) ca cc a d 0 0) b3 wd q sn) w'∧MSO (lbB O (eB w b3 q)) w' (if m then s.mark [92,b]else s).marks (.slice a (if m then s.mark [92,b]else s).marks.length d))
    case first=>
     cases m with
     |false=>
      go_wp2;go_meet
      case rel=>exact⟨ma,mc,L0.out,L0.out.mso L.out⟩
     |true=>
      go_wp2_with(refine L0.out.ld 0 rfl rfl _ rfl rfl Tryz.underlying123 rfl info_dR ?_);refine(d_mark_lit l ere s ca cc ma mc [92,b] _ (by omega) (L.out.on L0.out.fr).at).mono ?_;rintro e wM ⟨a,d,rfl,H,fM⟩;have LM:=hid (L0.out.on fM);have a0:=hid (MSO.of_lo H (L0.out.below hO));clear H fM;go_wp2_with(refine LM.out.sto O 0 rfl rfl _ _ rfl rfl rfl info_dR rfl (one_dR l ere (s.mark [92,b]) ca cc a d 0 0) ?_;intro wN lN z1 z2;have LN:=hid lN;have a1:=hid (a0.out.step z1);clear lN z1 z2);go_meet
      case rel=>exact⟨a,d,LN.out,a1.out⟩
    case rest=>
     obtain⟨a,d,l2,C⟩:=hcut;obtain⟨r,u,J⟩:=RxS.mk_at (m:=m) (s:=s) (t:=[92,b]);obtain⟨s1,I⟩:∃s1,(if m then s.mark [92,b]else s)=s1:=⟨_,rfl⟩;rw[I]at l2 C r u J b5;have rr:=rule8 (l2.get 0 rfl) wc (Fr.refl nob wc);have e2:(s.at_:Int)+2=((s1.go 2).at_:Int):=by show _=((s1.at_+2:Nat):Int);rw[r];omega
     have hD:=l2.cell' O 0 rfl 2 (.int .i64 ((s.at_:Int)+2));have E2:=hid e2;have G:=hid C;have F:=hid hD;have c4:s1.closed=s.closed:=u;have o:=hid c4;clear I r u J e2 C hD l2 L0 c4;go_wp2_with fail;obtain⟨wD,D⟩:∃wD,wc.setCell ⟨w.heap.size,2,none⟩ (.int .i64 ((s.at_:Int)+2))=wD:=⟨_,rfl⟩;obtain⟨p,A,_⟩:=F.out;rw[D]at p A⊢;rw[E2.out]at p;have LD:Hid (LB w (EL w (rC l ere (s1.go 2) ca cc a d 0 0) b3 wd q sn) wD):=hid p;have X:=hid (G.out.step A);clear D p A F rr G;refine region_fr 3 (by kernel_rfl) (by kernel_rfl) ?_;simp only[List.take_succ_cons,List.take_zero,List.drop_succ_cons,List.drop_zero];refine LD.out.qld 0 rfl rfl _ rfl rfl Tryz.underlying123 rfl info_dR ?_;refine LD.out.qld 4 rfl rfl _ rfl rfl Tryz.underlying33 rfl info_dS ?_
     quiet_step (with_reducible exact calls_fr (d_one_lit sn _))
     refine wpQuiet_nil ?_;intro wE fE;have LE:=hid (LD.out.on fE);have d5:=hid (X.out.on fE);clear fE;go_wp2_with(first|(refine LE.out.sto O 1 rfl rfl _ _ rfl rfl rfl info_dR rfl (one_dR l ere (s1.go 2) ca cc a d 0 0) ?_;intro wF lF z1 z2;have LF:=hid lF;have Y:=hid (d5.out.step z1);clear lF z1 z2)|(refine LF.out.sto O 2 rfl rfl _ _ rfl rfl rfl info_dT rfl (one_dT _ _ _ _ _ _ _ _ _ _ _) ?_;intro wG lG z1 z2;have LG:=hid lG;have Z:=hid (Y.out.step z1);clear lG z1 z2));rw[b5.out];refine bodyPost_ret (ret_RT rfl rfl rfl (LG.out.get 1 rfl) (LG.out.get 2 rfl) rfl rfl) rfl ?_;refine⟨LG.out.fr,ca,cc,a,d,nine 1 sn (.slice none 0 0) 0 0 0,by unfold rV rC;rw[show(s1.go 2).closed=s.closed from o.out];rfl,Zw0.2 ⟨_,rfl,.inl ⟨⟨none,0,rfl⟩,rfl⟩⟩,?_,Z.out.wide (fun k _ x=>.inl x)⟩;rw[show(s1.go 2).closed=s.closed from o.out];exact U.out.on LG.out.fr
end
end Go.Proofs.YtgllcniibbaoaaaGreatDoor
