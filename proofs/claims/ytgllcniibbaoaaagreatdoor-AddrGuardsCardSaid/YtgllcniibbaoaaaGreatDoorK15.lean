/- Lemmas of this claim. -/
import Derived.Test.YtgllcniibbaoaaaGreatDoorK14
set_option linter.all false
set_option maxRecDepth 100000
set_option maxHeartbeats 24000000
namespace Go.Proofs.YtgllcniibbaoaaaGreatDoor
open Go.Lib (hid)
open Go.RowKit
def prg:Alg Nd:=⟨.one,.rep,.group,.back,.start,.fin,Za2,Za3⟩
def ZbO(b:Nat)(l:List UInt8)(S O:Nat→Prop)(w:World):Out Nd→Ending→World→Prop
 | .inl (e,p),x,w'=>x=.panicked (Zkp e p)∧∃S',Stp S w S' w'
 | .inr (t,s'),x,w'=>∃i y S',x=.returned (.iface i y)∧RN (SO S' O) w' t (.iface i y)∧Rdg b l s' S' w'∧Stp S w S' w'
section
variable {α:Type} {A:Alg α} {l:List UInt8} {n:Nat} {s:RxS} {t:α}
theorem Zf3(h:ahd l s.at_ [92,43]=true):ZbW A l (n+1) s t=ZbW A l n ((s.mark [92,43]).go 2) (A.rep t 1 (-1)):=by rw[ZbW,if_pos h]
theorem ZeB(h:ahd l s.at_ [92,43]=false)(h2:ahd l s.at_ [92,63]=true):ZbW A l (n+1) s t=ZbW A l n ((s.mark [92,63]).go 2) (A.rep t 0 1):=by
 rw[ZbW,if_neg (by rw[h];decide),if_pos h2]
theorem Zij(h:ahd l s.at_ [92,43]=false)(h2:ahd l s.at_ [92,63]=false)(h3:ahd l s.at_ [92,123]=true)(h4:Zfw l (s.at_+2)=none):ZbW A l (n+1) s t=.inl (7,s.at_):=by
 rw[ZbW,if_neg (by rw[h];decide),if_neg (by rw[h2];decide),if_pos h3,h4]
theorem ZeC(h:ahd l s.at_ [92,43]=false)(h2:ahd l s.at_ [92,63]=false)(h3:ahd l s.at_ [92,123]=true){m x:Int}{k:Nat}(h4:Zfw l (s.at_+2)=some (m,x,k)):
 ZbW A l (n+1) s t=ZbW A l n (s.to k) (A.rep t m x):=by
 rw[ZbW,if_neg (by rw[h];decide),if_neg (by rw[h2];decide),if_pos h3,h4]
theorem repS_star(h:ahd l s.at_ [92,43]=false)(h2:ahd l s.at_ [92,63]=false)(h3:ahd l s.at_ [92,123]=false)(h4:ahd l s.at_ [42]=true):ZbW A l (n+1) s t=ZbW A l n (s.go 1) (A.rep t 0 (-1)):=by
 rw[ZbW,if_neg (by rw[h];decide),if_neg (by rw[h2];decide),if_neg (by rw[h3];decide),if_pos h4]
theorem Zik(h:ahd l s.at_ [92,43]=false)(h2:ahd l s.at_ [92,63]=false)(h3:ahd l s.at_ [92,123]=false)(h4:ahd l s.at_ [42]=false):ZbW A l (n+1) s t=.inr (t,s):=by
 rw[ZbW,if_neg (by rw[h];decide),if_neg (by rw[h2];decide),if_neg (by rw[h3];decide),if_neg (by rw[h4];decide)]
end
theorem Zks{l:List UInt8}{k:Nat}{m x:Int}{j:Nat}(hk:k≤l.length)(h:Zfw l k=some (m,x,j)):k+3≤j∧j≤l.length∧0≤m∧m≤255∧ -1≤x∧x≤255:=by
 obtain⟨b1,b2,b3⟩:=Zdh l k hk;obtain⟨p,c,hM⟩:∃p c,ZaQ (l.drop k) 0 0=(p,c):=⟨_,_,rfl⟩;rw[hM]at b1 b2 b3;simp only at b1 b2 b3;by_cases hc:c=0
 ·subst hc;rw[Zf2 hM]at h;cases h
 ·cases ha:ahd l (k+c) [44]with
  |false=>
   rw[Zii hM hc ha]at h;split at h
   ·cases h
   ·next hn=>
    have he:ahd l (k+c) [92,125]=true:=by cases hq:ahd l (k+c) [92,125];exact absurd (.inl hq) hn;rfl
    have:=ahd_le he (by decide);simp only[List.length_cons,List.length_nil]at this;simp only[Option.some.injEq,Prod.mk.injEq]at h;obtain⟨rfl,rfl,rfl⟩:=h;have:¬255<p:=fun x=>hn (.inr x);omega
  |true=>
   have a:=ahd_le ha (by decide);simp only[List.length_singleton]at a;obtain⟨e1,e2,e3⟩:=Zdh l (k+c+1) a;obtain⟨y,d,hX⟩:∃y d,ZaQ (l.drop (k+c+1)) 0 0=(y,d):=⟨_,_,rfl⟩;rw[hX]at e1 e2 e3;simp only at e1 e2 e3;by_cases hd:d=0
   ·subst hd;rw[itvB_open hM hc ha hX]at h;split at h
    ·cases h
    ·next hn=>
     have he:ahd l (k+c+1) [92,125]=true:=by cases hq:ahd l (k+c+1) [92,125];exact absurd (.inl hq) hn;rfl
     have:=ahd_le he (by decide);simp only[List.length_cons,List.length_nil]at this;simp only[Option.some.injEq,Prod.mk.injEq]at h;obtain⟨rfl,rfl,rfl⟩:=h;have:¬255<p:=fun x=>hn (.inr x);omega
   ·rw[itvB_two hM hc ha hX hd]at h;split at h
    ·cases h
    ·next hn=>
     have he:ahd l (k+c+1+d) [92,125]=true:=by cases hq:ahd l (k+c+1+d) [92,125];exact absurd (.inl hq) hn;rfl
     have:=ahd_le he (by decide);simp only[List.length_cons,List.length_nil]at this;simp only[Option.some.injEq,Prod.mk.injEq]at h;obtain⟨rfl,rfl,rfl⟩:=h;have:¬255<p:=fun x=>hn (.inr (.inl x));have:¬255<y:=fun x=>hn (.inr (.inr (.inl x)));omega
theorem RN.rep{S:Nat→Prop}{w:World}{t:Nd}{v:Value}(h:RN S w t v)(m x:Int):RN S w (.rep t m x) (.iface 137 (.agg #[v,.int .i64 m,.int .i64 x])):=by
 rw[RN.eq_def];exact⟨v,rfl,h⟩
def Zpw(b:Nat)(l:List UInt8)(S O:Nat→Prop)(w:World)(F:Out Nd)(n:Nat)(v:Value)(wr:World):Prop:=
 ∃i y s t S',v=.iface i y∧RN (SO S' O) wr t v∧Rdg b l s S' wr∧Stp S w S' wr∧l.length<n+s.at_∧s.at_≤l.length∧s.marks.length≤s.at_∧ZbW prg l n s t=F
theorem ZbP(b:Nat)(l:List UInt8)(s:RxS)(t:Nd)(i:TypeId)(y:Value)(S O:Nat→Prop)(w:World)(hl:l.length≤100000)(ha:s.at_≤l.length)(hm:s.marks.length≤s.at_)(hv:RN (SO S O) w t (.iface i y))(h:Rdg b l s S w):
 Calls Tryz.prog 84 #[.pointer (some ⟨b,0,none⟩),.iface i y] w fun x w'=>ZbO b l S O w (ZbW prg l (l.length+1) s t) x w':=by
 obtain⟨F,hF⟩:∃F,ZbW prg l (l.length+1) s t=F:=⟨_,rfl⟩;rw[hF];have HF:=hid hF;have HV:=hid hv;have HH:=hid h;clear hF hv h;go_enter Tryz.func84,Tryz.ntmps84;go_wp2_with fail
 go_loopg [1] (l.length+1) (fun n u wr=>Zpw b l S O w F n u wr)
 case atStart=>exact⟨i,y,s,t,S,rfl,HV.out,HH.out,Stp.refl _ _,by omega,ha,hm,HF.out⟩
 case round=>
  clear HF HV HH ha hm;clear s t;obtain⟨i,y,s,t,S1,rfl,hv,hr,B,hn,ha,hm,hF⟩:=hrel;obtain⟨m,rfl⟩:∃m,gk=m+1:=⟨gk-1,by omega⟩;have h1:=Zcg b l [92,43] s S1 wr (by omega) (by decide) ha hr;obtain⟨cv,mv,hB⟩:=hr;obtain⟨⟨c0,c1,c2,c3,c4⟩,d0,d1,d2,d3,d4⟩:=Zd hB.blk _ (Fr.refl _ _);have HV:=hid hv;have HB:=hid hB;have g:=hid B;have HF:=hid hF;have HA:=hid (fun(tt:List UInt8) (w':World) (f:Fr nob wr w') (ht:tt.length≤1000)=>Zcg b l tt s S1 w' (by omega) (by omega) ha ⟨cv,mv,hB.on f⟩);have HT:=hid (fun(tt:List UInt8) (w':World) (f:Fr nob wr w') (ht:tt.length≤1000)=>ZbN b l tt s S1 w' hl ht ha ⟨cv,mv,hB.on f⟩);clear hv hB B hF h1;cases e1:ahd l s.at_ [92,43]with
  |true=>
   have d:=ahd_le e1 (by decide);simp only[List.length_cons,List.length_nil]at d;have hF:=HF.out;rw[Zf3 e1]at hF;have H1:=hid (HA.out [92,43] wr (Fr.refl _ _) (by decide));rw[e1]at H1;have a:=hid hF;clear hF e1 HF;go_wp2_with fail;refine(H1.out).mono ?_;rintro e w1 ⟨rfl,f1⟩;have F1:=hid f1;clear f1;go_wp2_with fail;refine(br_mark b l [92,43] s S1 w1 (by omega) ⟨cv,mv,HB.out.on F1.out⟩).mono ?_;rintro e w5 ⟨rfl,S5,⟨v,A,c⟩,r⟩;obtain⟨⟨_,k1,_⟩,_,k2,_⟩:=Zd c.blk _ (Fr.refl _ _);rw[show(s.mark [92,43]).at_=s.at_ from rfl]at k1;have j:=hid c;have o:=hid ((Stp.of F1.out).trans r);clear c r;go_wp2;go_roundg m
   case measure=>omega
   case rel=>
    have p:=j.out.stp 1 (.int .i64 ((s.at_:Int)+2));refine⟨_,_,(s.mark [92,43]).go 2,.rep t 1 (-1),S5,rfl,((o.out.trans p).rn HV.out).rep _ _,⟨v,A,j.out.turned 1 _ _ (by simp[RxS.go,RxS.mark]) rfl rfl⟩,(g.out.trans o.out).trans p,?_,?_,?_,a.out⟩
    ·show l.length<m+(s.at_+2);omega
    ·show s.at_+2≤_;omega
    ·show(s.marks++[_]).length≤s.at_+2;simp;omega
  |false=>
   have H1:=hid (HA.out [92,43] wr (Fr.refl _ _) (by decide));rw[e1]at H1;go_wp2_with fail;refine(H1.out).mono ?_;rintro e w1 ⟨rfl,f1⟩;have F1:=hid f1;clear f1;cases e2:ahd l s.at_ [92,63]with
   |true=>
    have d:=ahd_le e2 (by decide);simp only[List.length_cons,List.length_nil]at d;have hF:=HF.out;rw[ZeB e1 e2]at hF;have H2:=hid (HA.out [92,63] w1 F1.out (by decide));rw[e2]at H2;have a:=hid hF;clear hF e1 e2 HF;go_wp2_with fail;refine(H2.out).mono ?_;rintro e w2 ⟨rfl,f2⟩;have F2:=hid (F1.out.trans' f2);clear f2;go_wp2_with fail;refine(br_mark b l [92,63] s S1 w2 (by omega) ⟨cv,mv,HB.out.on F2.out⟩).mono ?_;rintro e w5 ⟨rfl,S5,⟨v,A,c⟩,r⟩;obtain⟨⟨_,k1,_⟩,_,k2,_⟩:=Zd c.blk _ (Fr.refl _ _);rw[show(s.mark [92,63]).at_=s.at_ from rfl]at k1;have j:=hid c;have o:=hid ((Stp.of F2.out).trans r);clear c r;go_wp2;go_roundg m
    case measure=>omega
    case rel=>
     have p:=j.out.stp 1 (.int .i64 ((s.at_:Int)+2));refine⟨_,_,(s.mark [92,63]).go 2,.rep t 0 1,S5,rfl,((o.out.trans p).rn HV.out).rep _ _,⟨v,A,j.out.turned 1 _ _ (by simp[RxS.go,RxS.mark]) rfl rfl⟩,(g.out.trans o.out).trans p,?_,?_,?_,a.out⟩
     ·show l.length<m+(s.at_+2);omega
     ·show s.at_+2≤_;omega
     ·show(s.marks++[_]).length≤s.at_+2;simp;omega
   |false=>
    have H2:=hid (HA.out [92,63] w1 F1.out (by decide));rw[e2]at H2;go_wp2_with fail;refine(H2.out).mono ?_;rintro e w2 ⟨rfl,f2⟩;have F2:=hid (F1.out.trans' f2);clear f2;cases e3:ahd l s.at_ [92,123]with
    |true=>
     have d:=ahd_le e3 (by decide);simp only[List.length_cons,List.length_nil]at d;have H3:=hid (HT.out [92,123] w2 F2.out (by decide));rw[e3]at H3;go_wp2_with fail;refine(H3.out).mono ?_;rintro e w3 ⟨rfl,r3,t3⟩;have hI:=Zhh b l (s.go 2) S1 w3 s.at_ hl (by show s.at_+2≤_;omega) r3;rw[show(s.go 2).at_=s.at_+2 from rfl]at hI;have T3:=hid ((Stp.of F2.out).trans t3);clear r3 t3;cases e4:Zfw l (s.at_+2)with
     |none=>
      have hF:=HF.out;rw[Zij e1 e2 e3 e4]at hF;rw[e4]at hI;have HI:=hid hI;subst hF;clear e1 e2 e3 e4 HF hI;go_wp2_with fail;refine(HI.out).mono ?_;rintro e w4 ⟨rfl,t4⟩;exact⟨rfl,rfl,S1,(g.out.trans T3.out).trans t4⟩
     |some q=>
      obtain⟨mn,mx,k⟩:=q;have hF:=HF.out;rw[ZeC e1 e2 e3 e4]at hF;rw[e4]at hI;obtain⟨g1,g2,g3,g4,g5,g6⟩:=Zks (by omega) e4;have HI:=hid hI;have a:=hid hF;clear e1 e2 e3 e4 HF hI hF;go_wp2_with fail;refine(HI.out).mono ?_;rintro e w4 ⟨rfl,r4,t4⟩;have R4:=hid r4;have T4:=hid (T3.out.trans t4);clear r4 t4;go_wp2;go_roundg m
      case measure=>omega
      case rel=>
       refine⟨_,_,s.to k,.rep t mn mx,S1,rfl,(T4.out.rn HV.out).rep _ _,R4.out,g.out.trans T4.out,?_,?_,?_,a.out⟩
       ·show l.length<m+k;omega
       ·show k≤_;omega
       ·show s.marks.length≤k;omega
    |false=>
     have H3:=hid (HT.out [92,123] w2 F2.out (by decide));rw[e3]at H3;go_wp2_with fail;refine(H3.out).mono ?_;rintro e w3 ⟨rfl,r3,t3⟩;simp only[Bool.false_eq_true,if_false]at r3;have h4:=ZbN b l [42] s S1 w3 hl (by decide) ha r3;have T3:=hid ((Stp.of F2.out).trans t3);clear r3 t3;cases e4:ahd l s.at_ [42]with
     |true=>
      have d:=ahd_le e4 (by decide);simp only[List.length_singleton]at d;have hF:=HF.out;rw[repS_star e1 e2 e3 e4]at hF;rw[e4]at h4;have H4:=hid h4;have a:=hid hF;clear e1 e2 e3 e4 HF h4 hF;go_wp2_with fail;refine(H4.out).mono ?_;rintro e w4 ⟨rfl,r4,t4⟩;have R4:=hid r4;have T4:=hid (T3.out.trans t4);clear r4 t4;go_wp2;go_roundg m
      case measure=>omega
      case rel=>
       refine⟨_,_,s.go 1,.rep t 0 (-1),S1,rfl,(T4.out.rn HV.out).rep _ _,R4.out,g.out.trans T4.out,?_,?_,?_,a.out⟩
       ·show l.length<m+(s.at_+1);omega
       ·show s.at_+1≤_;omega
       ·show s.marks.length≤s.at_+1;omega
     |false=>
      have hF:=HF.out;rw[Zik e1 e2 e3 e4]at hF;rw[e4]at h4;have H4:=hid h4;subst hF;clear e1 e2 e3 e4 HF h4;go_wp2_with fail;refine(H4.out).mono ?_;rintro e w4 ⟨rfl,r4,t4⟩;simp only[Bool.false_eq_true,if_false]at r4;have R4:=hid r4;have T4:=hid (T3.out.trans t4);clear r4 t4;go_wp2;go_ret;exact⟨_,_,S1,rfl,T4.out.rn HV.out,R4.out,g.out.trans T4.out⟩
theorem Zil(w:World):Calls Tryz.prog 158 #[] w fun e w'=>e=.returned (ZcR spaceS)∧Fr nob w w':=by
 have hc:=fun w=>Zb5 ⟨#[115,112,97,99,101]⟩ _ rfl w;obtain⟨s,hs⟩:∃s,ZaD (Zak ⟨#[115,112,97,99,101]⟩)=s:=⟨_,rfl⟩;unfold spaceS;rw[hs]at hc⊢;have HC:=hid hc;clear hc hs;go_enter Tryz.func158,Tryz.ntmps158;go_wp2_with fail;refine(HC.out _).mono ?_;rintro e w1 ⟨rfl,f1⟩;have f:=f1.heap (newAt0 w _) (fun x=>x);have rr:=Zl f;have HB:=hid f;have F1:=hid f1;clear f1 f;go_wp2;have g:=heap_alloc_lt (w:=w1) (.cells #[.int .u64 s.a,.int .u64 s.b,.int .u64 s.c,.int .u64 s.d] 132) HB.out;exact bodyPost_ret (Zs (s:=s) rfl rfl (setFour_heap g _ _ _ _)) rfl ⟨rfl,Zp ((((Fr.refl nob w).alloc _).trans' F1.out).alloc _) (Nat.le_refl _) _ _ _ _⟩
theorem q4_on{w w':World}{b:Nat}{s:S4}(h:Q4 w b s)(f:Fr nob w w'):Q4 w' b s:=⟨f.cell h.1 (fun x=>x),f.cell h.2.1 (fun x=>x),f.cell h.2.2.1 (fun x=>x),f.cell h.2.2.2 (fun x=>x)⟩
theorem q4_four{w w':World}{b c:Nat}{s:S4}(h:Q4 w b s)(f:Fr nob w w')(hne:b≠c)(v0 v1 v2 v3:Value):Q4 (ZaG w' c v0 v1 v2 v3) b s:=by
 have h':=q4_on h f;have g:=ZS w' c v0 v1 v2 v3;exact⟨g.cell h'.1 hne,g.cell h'.2.1 hne,g.cell h'.2.2.1 hne,g.cell h'.2.2.2 hne⟩
theorem ZnW(w:World)(T:TypeId):Calls Tryz.prog 116 #[.slice (some ⟨w.heap.size,0,none⟩) 1 1] (w.alloc (.cells #[.int .u8 95] T)) fun e w'=>e=.returned (ZcR (spn 95 95))∧Fr nob (w.alloc (.cells #[.int .u8 95] T)) w':=Zb6 95 w T
theorem Zkt(w:World):Calls Tryz.prog 157 #[] w fun e w'=>e=.returned (ZcR Zdz)∧Fr nob w w':=by
 have hc:=fun w=>Zb5 ⟨#[97,108,110,117,109]⟩ _ rfl w;obtain⟨s,hs⟩:∃s,ZaD (Zak ⟨#[97,108,110,117,109]⟩)=s:=⟨_,rfl⟩;unfold Zdz;rw[hs]at hc⊢;obtain⟨u,hu⟩:∃u,spn 95 95=u:=⟨_,rfl⟩;have ho:=ZnW;rw[hu]at ho⊢;have HO:=hid ho;have HC:=hid hc;clear hc hs hu ho;obtain⟨x,hx⟩:∃x,s.or u=x:=⟨_,rfl⟩;have f:=fun w=>ZfK s u w;rw[hx]at f⊢;have j:=hid f;clear f hx;go_enter Tryz.func157,Tryz.ntmps157;go_wp2_with fail;refine(HC.out _).mono ?_;rintro e w1 ⟨rfl,f1⟩;have h:=f1.heap (newAt0 w _) (fun x=>x);have HB:=hid h;have F1:=hid f1;clear f1 h;go_wp2_with fail;have i:=newAt0 w1 (.cells #[.int .u64 s.a,.int .u64 s.b,.int .u64 s.c,.int .u64 s.d] 132);have hq:Q4 (w1.alloc (.cells #[.int .u64 s.a,.int .u64 s.b,.int .u64 s.c,.int .u64 s.d] 132)) w1.heap.size s:=Q4.of i;obtain⟨w2,g⟩:∃w2,w2=w1.alloc (.cells #[.int .u64 s.a,.int .u64 s.b,.int .u64 s.c,.int .u64 s.d] 132):=⟨_,rfl⟩
 rw[←g]at hq⊢;have F2:=hid (show Fr nob w1 w2 by rw[g];exact(Fr.refl _ _).alloc _);have HQ:=hid hq;clear i hq g;have hz:=F2.out.heap HB.out (fun x=>x);have rr:=Zl hz;have HZ:=hid hz;clear hz;have k:w1.heap.size≠w.heap.size:=by have:=F1.out.size;simp at this;omega
 go_region_held3 (fun w'=>Q4 w' w1.heap.size s) (first|(with_reducible exact HQ.out)|(with_reducible exact q4_on HQ.out ((Fr.refl nob w2).drew))|(with_reducible exact q4_on HQ.out (((Fr.refl nob w2).drew).alloc _))|(with_reducible exact q4_on HQ.out ((Fr.refl nob w2).alloc _))|(with_reducible exact q4_on HQ.out (((Fr.refl nob w2).alloc _).drew))|(with_reducible exact q4_on HQ.out G2)|(with_reducible exact q4_on HQ.out G1)|(exact q4_four HQ.out G2 k _ _ _ _)) (first|(go_at_call 116;refine(HO.out (World.drew w2) _).mono ?_;rintro e g1 ⟨rfl,f1⟩;have G1:Fr nob w2 g1:=(by first|exact((((Fr.refl nob w2).drew).alloc _).trans' f1)|exact(((Fr.refl nob w2).alloc _).trans' f1));clear f1)|(go_at_call 141;(with_reducible refine(j.out _).mono ?_);rintro e g2 ⟨rfl,f2⟩;have G2:Fr nob w2 g2:=G1.trans' f2;clear f2))
 all_goals
  go_wp2;exact bodyPost_ret (Zs (s:=x) rfl rfl (setFour_heap (G2.heap HZ.out (fun x=>x)) _ _ _ _)) rfl ⟨rfl,Zp (((((Fr.refl nob w).alloc _).trans' F1.out).trans' F2.out).trans' G2) (Nat.le_refl _) _ _ _ _⟩
def Zim(b:UInt8):S4×Bool×Bool:=
 match ZjI b with
 |some (c,m)=>(c,m,true)
 |none=>(spn b.toNat b.toNat,false,false)
theorem Zmd:Zim 110=(spn 10 10,false,true):=rfl
theorem Zme:Zim 116=(spn 9 9,true,true):=rfl
theorem Zmf:Zim 119=(Zdz,true,true):=rfl
theorem ZnX:Zim 87=(Zdz.not,true,true):=rfl
theorem Zmg:Zim 115=(spaceS,true,true):=rfl
theorem ZnY:Zim 83=(spaceS.not,true,true):=rfl
theorem Zku{b:UInt8}(h1:b≠110)(h2:b≠116)(h3:b≠119)(h4:b≠87)(h5:b≠115)(h6:b≠83):Zim b=(spn b.toNat b.toNat,false,Za0.has b.toNat):=by
 unfold Zim ZjI;rw[if_neg h1,if_neg h2,if_neg h3,if_neg h4,if_neg h5,if_neg h6];cases Za0.has b.toNat<;>rfl
theorem Zqs(w:World)(T:TypeId):Calls Tryz.prog 116 #[.slice (some ⟨w.heap.size,0,none⟩) 1 1] (w.alloc (.cells #[.int .u8 10] T)) fun e w'=>e=.returned (ZcR (spn 10 10))∧Fr nob (w.alloc (.cells #[.int .u8 10] T)) w':=Zb6 10 w T
theorem ZqW(w:World)(T:TypeId):Calls Tryz.prog 116 #[.slice (some ⟨w.heap.size,0,none⟩) 1 1] (w.alloc (.cells #[.int .u8 9] T)) fun e w'=>e=.returned (ZcR (spn 9 9))∧Fr nob (w.alloc (.cells #[.int .u8 9] T)) w':=Zb6 9 w T
abbrev ZnZ(R:S4×Bool×Bool)(w:World)(e:Ending)(w':World):Prop:=e=.returned (.tuple #[ZcR R.1,.bool R.2.1,.bool R.2.2])∧Fr nob w w'
theorem Zji(b:UInt8)(w:World):Calls Tryz.prog 138 #[.int .u8 b.toNat] w fun e w'=>ZnZ (Zim b) w e w':=by
 obtain⟨w0,i⟩:∃w0,w0=w.alloc (.cells #[.int .u64 0,.int .u64 0,.int .u64 0,.int .u64 0] 132):=⟨_,rfl⟩;have hz:w0.heap[w.heap.size]? =some (.cells #[.int .u64 0,.int .u64 0,.int .u64 0,.int .u64 0] 132 (0,0)):=by rw[i];exact newAt0 w _
 have F0:=hid (show Fr nob w w0 by rw[i];exact(Fr.refl _ _).alloc _);have f:w0.heap.size=w.heap.size+1:=by rw[i];simp
 have rr:=Zl hz;have HZ:=hid hz;have HW:=hid i;clear hz i;by_cases h1:b=110
 case' pos=>
  subst h1;rw[Zmd];obtain⟨s,hs⟩:∃s,spn 10 10=s:=⟨_,rfl⟩;have ho:=Zqs w0 5;rw[hs,f]at ho;rw[hs];have HO:=hid ho;clear ho hs f
 rotate_left
 have t1:((b.toNat:Int)==110)=false:=Zn (b:=110) h1;by_cases h2:b=116
 case' pos=>
  subst h2;rw[Zme];obtain⟨s,hs⟩:∃s,spn 9 9=s:=⟨_,rfl⟩;have ho:=ZqW w0 5;rw[hs,f]at ho;rw[hs];have HO:=hid ho;clear ho hs f
 rotate_left
 have t2:((b.toNat:Int)==116)=false:=Zn (b:=116) h2;by_cases h3:b=119
 case' pos=>
  subst h3;rw[Zmf];have ho:=Zkt w0;obtain⟨s,hs⟩:∃s,Zdz=s:=⟨_,rfl⟩;rw[hs]at ho⊢;have HO:=hid ho;clear ho hs f
 rotate_left
 have t3:((b.toNat:Int)==119)=false:=Zn (b:=119) h3;by_cases h4:b=87
 case' pos=>
  subst h4;rw[ZnX];have ho:=Zkt w0;obtain⟨s0,hs⟩:∃s,Zdz=s:=⟨_,rfl⟩;rw[hs]at ho⊢;have g:=fun w=>not_lit s0 w;obtain⟨s,hu⟩:∃s,s0.not=s:=⟨_,rfl⟩;rw[hu]at g⊢;have HO:=hid ho;have n:=hid g;clear ho hs f g hu
 rotate_left
 have t4:((b.toNat:Int)==87)=false:=Zn (b:=87) h4;by_cases h5:b=115
 case' pos=>
  subst h5;rw[Zmg];have ho:=Zil w0;obtain⟨s,hs⟩:∃s,spaceS=s:=⟨_,rfl⟩;rw[hs]at ho⊢;have HO:=hid ho;clear ho hs f
 rotate_left
 have t5:((b.toNat:Int)==115)=false:=Zn (b:=115) h5;by_cases h6:b=83
 case' pos=>
  subst h6;rw[ZnY];have ho:=Zil w0;obtain⟨s0,hs⟩:∃s,spaceS=s:=⟨_,rfl⟩;rw[hs]at ho⊢;have g:=fun w=>not_lit s0 w;obtain⟨s,hu⟩:∃s,s0.not=s:=⟨_,rfl⟩;rw[hu]at g⊢;have HO:=hid ho;have n:=hid g;clear ho hs f g hu
 rotate_left
 ·have t6:((b.toNat:Int)==83)=false:=Zn (b:=83) h6;rw[Zku h1 h2 h3 h4 h5 h6];clear h1 h2 h3 h4 h5 h6;have hb:=b.toNat_lt;have j:Za0.fit:=Zdd _;have hc:=fun w=>Zb5 ⟨#[112,117,110,99,116]⟩ _ rfl w;rw[show ZaD (Zak ⟨#[112,117,110,99,116]⟩)=Za0 from rfl]at hc;have hh:=fun w=>Zj2 Za0 b.toNat w j (by omega);obtain⟨u,hu⟩:∃u,spn b.toNat b.toNat=u:=⟨_,rfl⟩;have ho:=Zb6 b;rw[hu]at ho⊢;obtain⟨q,hq⟩:∃q,Za0.has b.toNat=q:=⟨_,rfl⟩;rw[hq]at hh⊢;obtain⟨s,hs⟩:∃s,Za0=s:=⟨_,rfl⟩;rw[hs]at hc hh;have HO:=hid ho;have HC:=hid hc;have HH:=hid hh;clear ho hc hh hu hq hs j f;go_enter Tryz.func138,Tryz.ntmps138;go_wp2_with fail;rw[←HW.out];with_reducible refine(HC.out _).mono ?_
  rintro e w1 ⟨rfl,f1⟩;have F1:=hid f1;clear f1;go_wp2_with fail;have k:Q4 (w1.alloc (.cells #[.int .u64 s.a,.int .u64 s.b,.int .u64 s.c,.int .u64 s.d] 132)) w1.heap.size s:=Q4.of (newAt0 w1 _);obtain⟨w2,l⟩:∃w2,w2=w1.alloc (.cells #[.int .u64 s.a,.int .u64 s.b,.int .u64 s.c,.int .u64 s.d] 132):=⟨_,rfl⟩;rw[←l]at k⊢;have F2:=hid (show Fr nob w1 w2 by rw[l];exact(Fr.refl _ _).alloc _);have HQ:=hid k;clear k l;have m:=F2.out.heap (F1.out.heap HZ.out (fun x=>x)) (fun x=>x);clear rr;have rr:=Zl m;have t:=hid m;clear m;have o:w1.heap.size≠w.heap.size:=by have:=F1.out.size;have:=lt_heap HZ.out;omega
  have p:Calls Tryz.prog 116 #[.slice (some ⟨w2.heap.size,0,none⟩) 1 1] (World.drew (w2.alloc (.cells #[.int .u8 b.toNat] 5))) fun e w'=>e=.returned (ZcR u)∧Fr nob w2 w':=(HO.out (World.drew w2) _).mono fun e w' h=>⟨h.1,(((Fr.refl nob w2).drew).alloc _).trans' h.2⟩;have r:=hid p;clear p HO
  go_region_held3 (fun w'=>Q4 w' w1.heap.size s) (first|(with_reducible exact HQ.out)|(with_reducible exact q4_on HQ.out ((Fr.refl nob w2).drew))|(with_reducible exact q4_on HQ.out (((Fr.refl nob w2).drew).alloc _))|(with_reducible exact q4_on HQ.out ((Fr.refl nob w2).alloc _))|(with_reducible exact q4_on HQ.out (((Fr.refl nob w2).alloc _).drew))|(with_reducible exact q4_on HQ.out G2)|(with_reducible exact q4_on HQ.out G1)|(with_reducible exact q4_four HQ.out G1 o _ _ _ _)|(with_reducible exact q4_four HQ.out G2 o _ _ _ _)|(trace_state;fail)) (first|(go_at_call 116;(with_reducible refine(r.out).mono ?_);rintro e g1 ⟨rfl,G1⟩)|(go_at_call 160;(with_reducible refine(HH.out _).mono ?_);rintro e g2 ⟨rfl,f2⟩;have G2:Fr nob w2 g2:=G1.trans' f2;clear f2))
  all_goals
   go_wp2;exact bodyPost_ret (Zx (s:=u) rfl rfl rfl rfl (setFour_heap (G2.heap t.out (fun x=>x)) _ _ _ _)) rfl ⟨rfl,Zp (((F0.out.trans' F1.out).trans' F2.out).trans' G2) (Nat.le_refl _) _ _ _ _⟩
 all_goals
  go_enter Tryz.func138,Tryz.ntmps138;go_wp2_with fail;rw[←HW.out];with_reducible refine HO.out.mono ?_
  rintro e w1 ⟨rfl,f1⟩;have f2:Fr nob w0 w1:=by first|exact f1|exact((Fr.refl _ _).alloc _).trans' f1
  clear f1
  (try(go_wp2_with fail;with_reducible refine(n.out _).mono ?_;rintro e w2 ⟨rfl,f3⟩;replace f2:=f2.trans' f3;clear f3))
  go_wp2;exact bodyPost_ret (Zx (s:=s) rfl rfl rfl rfl (setFour_heap (f2.heap HZ.out (fun x=>x)) _ _ _ _)) rfl ⟨rfl,Zp (F0.out.trans' f2) (Nat.le_refl _) _ _ _ _⟩
def ixC(l:List Nat)(n k:Nat):Int:=if(l.drop k).contains n then(k+(l.drop k).idxOf n:Nat)else -1
theorem Zn0{l:List Nat}{n k:Nat}(h:l.length≤k):ixC l n k= -1:=by
 unfold ixC;rw[List.drop_eq_nil_of_le h];rfl
theorem Zn1{l:List Nat}{n k:Nat}(h:k<l.length)(e:l[k]=n):ixC l n k=k:=by
 unfold ixC;rw[List.drop_eq_getElem_cons h,e];simp
theorem Zmh{l:List Nat}{n k:Nat}(h:k<l.length)(e:l[k]≠n):ixC l n k=ixC l n (k+1):=by
 unfold ixC;rw[List.drop_eq_getElem_cons h];have e':(l[k]==n)=false:=by simpa using e
 have e2:(n==l[k])=false:=by simpa using fun h=>e h.symm
 rw[List.contains_cons,e2,Bool.false_or,List.idxOf_cons,e'];split
 ·simp;omega
 ·rfl
theorem Zmi{l:List Nat}{n:Nat}:decide (0≤ixC l n 0)=l.contains n:=by
 unfold ixC;rw[List.drop_zero];cases h:l.contains n<;>simp
theorem OwC.get{w:World}{l:List Nat}{v:Value}(h:OwC w l v):∃a c,v=.slice a l.length c∧∀k (hk:k<l.length),∃g,a=some ⟨g,0,none⟩∧w.cell? ⟨g,k,none⟩=some (.int .i64 (l[k]:Nat)):=by
 have h0:=h;unfold OwC at h;rcases h.2 with⟨rfl,hn⟩|⟨gb,c,_,rfl,_⟩
 ·exact⟨none,0,by rw[hn],fun k hk=>by omega⟩
 ·refine⟨_,c,rfl,fun k hk=>⟨gb,rfl,?_⟩⟩;rw[h.cellAt k (by omega)];simp[List.getElem?_eq_getElem hk]
theorem Zmj(l:List Nat)(n:Nat)(v:Value)(w:World)(hl:l.length≤1000000)(h:OwC w l v):
 Calls Tryz.prog 129 #[v,.int .i64 n] w fun e w'=>e=.returned (.int .i64 (ixC l n 0))∧w=w':=by
 obtain⟨a,c,rfl,hg⟩:=h.get;obtain⟨F,hF⟩:∃F,ixC l n 0=F:=⟨_,rfl⟩;rw[hF];have HF:=hid hF;have HG:=hid hg;clear hF hg h;go_enter Tryz.func129,Tryz.ntmps129;go_wp2_with fail
 go_loop [8] (fun i=>∃k:Nat,i=.int .i64 k∧k≤l.length∧ixC l n k=F) (fun i=>l.length-(intOf i).toNat)
 case atStart=>exact⟨0,rfl,Nat.zero_le _,HF.out⟩
 case round=>
  obtain⟨k,rfl,hk,hF⟩:=hrel;by_cases b:k<l.length
  ·obtain⟨g,rfl,hc⟩:=HG.out k b;obtain⟨x,hx⟩:∃x,l[k]=x:=⟨_,rfl⟩;rw[hx]at hc;by_cases he:l[k]=n
   ·rw[Zn1 b he]at hF;subst hF;have t1:((n:Int)==x)=true:=by rw[←hx,he];simp
    clear he hx;go_wp2;go_ret;exact⟨rfl,rfl⟩
   ·rw[Zmh b he]at hF;have HX:=hid hF;have t1:((n:Int)==x)=false:=by rw[hx]at he;simp;omega
    clear he hx hF;go_wp2
    go_round
    case rel=>exact⟨k+1,by go_num,by omega,HX.out⟩
    case measure=>simp[intOf];omega
  ·rw[Zn0 (by omega)]at hF;subst hF;go_wp2;go_ret;exact⟨rfl,rfl⟩
theorem Zhi(l:List Nat)(n:Nat)(v:Value)(w:World)(hl:l.length≤1000000)(h:OwC w l v):
 Calls Tryz.prog 106 #[v,.int .i64 n] w fun e w'=>e=.returned (.bool (l.contains n))∧w=w':=by
 have hi:=Zmj l n v w hl h;obtain⟨a,c,rfl,_⟩:=h.get;clear h;go_enter Tryz.func106,Tryz.ntmps106;go_wp2_with((with_reducible refine hi.mono ?_);rintro e w' ⟨rfl,rfl⟩);go_ret;exact⟨ret_bool Zmi,rfl⟩
structure Sane(l:List UInt8)(s:RxS):Prop where
 le:s.at_≤l.length
 mr:s.marks.length≤s.at_
 cl:s.closed.length≤s.at_
 op:s.opened≤s.at_
structure Wd(W0:World)(S:Nat→Prop)(w:World):Prop where
 fr:Fr nob W0 w
 ge:∀k,S k→W0.heap.size≤k
 lt:∀k,S k→k<w.heap.size
theorem Wd.stp{W0:World}{S S':Nat→Prop}{w w':World}(h:Wd W0 S w)(k:Stp S w S' w'):Wd W0 S' w':=
 ⟨k.from h.fr h.ge,fun i hi=>by
  by_cases hlt:i<w.heap.size
  ·exact h.ge i (k.old i hlt hi)
  ·have:=h.fr.size;omega,k.lt h.lt⟩
def ZqO(l:List UInt8)(W0:World)(deep:Nat)(f:RxS→Out Nd):Prop:=
 ∀b s S (O:Nat→Prop) w,(∀k,O k→k<w.heap.size)→Sane l s→Wd W0 S w→Rdg b l s S w→Calls Tryz.prog 33 #[.pointer (some ⟨b,0,none⟩),.int .i64 deep] w fun x w'=>ZbO b l S O w (f s) x w'
def Zpx(l:List UInt8)(f:RxS→Out Nd):Prop:=∀s,Sane l s→∀t s',f s=.inr (t,s')→Sane l s'∧s.at_≤s'.at_
theorem Zkv:(Tryz.prog.info? 3).map (fun i=>(i.zero,i.size,i.bytes))=some (some (.int .i64 0),1,8):=by kernel_rfl
theorem RN.grp{S:Nat→Prop}{w:World}{t:Nd}{v:Value}(h:RN S w t v)(n:Int):RN S w (.group n t) (.iface 127 (.agg #[.int .i64 n,v])):=by
 rw[RN.eq_def];exact⟨v,rfl,h⟩
theorem Zfh(b:Nat)(l:List UInt8)(s:RxS)(S O:Nat→Prop)(w:World)(p:Nat):
 Calls Tryz.prog 137 #[.pointer (some ⟨b,0,none⟩),.int .i64 (p:Nat),.int .i64 12] w fun x w'=>ZbO b l S O w (Zbs prg l none p s) x w':=by
 go_enter Tryz.func137,Tryz.ntmps137;go_wp2_with(go_at_call 82;(with_reducible refine(br_fail 4 p _).mono ?_);rintro e w' ⟨rfl,rfl⟩);exact⟨rfl,rfl,S,Stp.refl _ _⟩
theorem Zmk(b:Nat)(l:List UInt8)(W0:World)(deep:Nat)(f:RxS→Out Nd)(s:RxS)(S O:Nat→Prop)(w:World)(p:Nat)(hO:∀k,O k→k<w.heap.size)(hl:l.length≤100000)(hd:deep<12)(hC:ZqO l W0 (deep+1) f)(hK:Zpx l f)
 (hs:Sane l s) (h1:s.opened<s.at_) (hW:Wd W0 S w) (h:Rdg b l s S w):
 Calls Tryz.prog 137 #[.pointer (some ⟨b,0,none⟩),.int .i64 (p:Nat),.int .i64 deep] w fun x w'=>ZbO b l S O w (Zbs prg l (some f) p s) x w':=by
 obtain⟨cv,mv,hB⟩:=h;obtain⟨⟨c0,c1,c2,c3,c4⟩,d0,d1,d2,d3,d4⟩:=Zd hB.blk _ (Fr.refl _ _);have v:Sane l {s with opened:=s.opened+1}:=⟨hs.le,hs.mr,hs.cl,h1⟩;have N:=hs.le;have X:=hs.op;obtain⟨w1,d⟩:∃w1,w1=w.setCell ⟨b,2,none⟩ (.int .i64 ((s.opened:Int)+1)):=⟨_,rfl⟩;have q:Br b l {s with opened:=s.opened+1} S cv mv w1:=by rw[d];exact hB.turned 2 _ _ (by simp) rfl rfl
 have r:Stp S w S w1:=by rw[d];exact hB.stp 2 _
 have hc:=hC b {s with opened:=s.opened+1} S O w1 (by rw[d];simpa[World.setCell]using hO) v (hW.stp r) ⟨cv,mv,q⟩;obtain⟨Z,hZ⟩:∃Z,f {s with opened:=s.opened+1}=Z:=⟨_,rfl⟩;rw[hZ,show((deep+1:Nat):Int)=(deep:Int)+1 from by simp]at hc;obtain⟨R,hR⟩:∃R,Zbs prg l (some f) p s=R:=⟨_,rfl⟩;rw[hR];unfold Zbs at hR;simp only[hZ]at hR;have HW:=hid d;have HC:=hid hc;have B:=hid r;have HK:=hid (hK _ v);have HZ:=hid hZ;have W:((deep:Int)==12)=false:=by simp;omega
 have V:(deep:Int)<12:=by omega
 have e2:w1.cell? ⟨b,2,none⟩=some (.int .i64 ((s.opened:Int)+1)):=by
  obtain⟨⟨_,_,k2,_⟩,_⟩:=Zd q.blk _ (Fr.refl _ _);simpa using k2
 clear d hc r q hK hC hZ hB v hd hO;go_enter Tryz.func137,Tryz.ntmps137;go_wp2_with(rw[←HW.out]);with_reducible refine(HC.out).mono ?_
 cases Z with
 |inl z=>
  obtain⟨z1,z2⟩:=z;rintro e w2 ⟨rfl,S2,n⟩;subst hR;exact⟨rfl,rfl,S2,B.out.trans n⟩
 |inr z=>
  obtain⟨t,s2⟩:=z;rintro e w2 ⟨i,y,S2,rfl,F,r2,n⟩;simp only at hR;obtain⟨m,a1⟩:=HK.out t s2 HZ.out;have Y:=m.le;have hT:=ZbN b l [92,41] s2 S2 w2 hl (by decide) m.le r2;have H:=hid F;have C:=hid (B.out.trans n);have I:=hid m;clear F r2 n m;cases hA:ahd l s2.at_ [92,41]with
  |false=>
   rw[hA]at hT;rw[if_neg (by rw[hA];decide)]at hR;subst hR;have HT:=hid hT;clear hT hA;go_wp2_with(first|((with_reducible refine(HT.out).mono ?_);rintro e w3 ⟨rfl,r3,t3⟩;have T3:=hid t3;clear r3 t3)|(go_at_call 82;(with_reducible refine(br_fail 8 p _).mono ?_);rintro e w' ⟨rfl,rfl⟩));exact⟨rfl,rfl,S2,C.out.trans T3.out⟩
  |true=>
   have J:=ahd_le hA (by decide);simp only[List.length_cons,List.length_nil]at J;rw[hA]at hT;rw[if_pos hA]at hR;subst hR;simp only[if_true]at hT;have HT:=hid hT;clear hT hA;go_wp2_with fail;refine(HT.out).mono ?_;rintro e w3 ⟨rfl,⟨Q,a0,g⟩,t3⟩;have A:=hid g;have T3:=hid t3;clear t3;obtain⟨a3,P,rfl⟩:=Zb g.cl;obtain⟨i0,hi,K,L,M⟩:=info_parts Zkv;have rr:=Zd g.blk;have o:(s2.go 2).closed.length≤100000:=by have:=I.out.cl;show s2.closed.length≤_;omega
   clear g;go_wp2_with(at_builtin;refine wpList_append_g rfl _ _ 81 rfl 3 i0 (.int .i64 0) 1 8 Tryz.underlying81 hi K L M rfl (by decide) _ _ _ rfl (ownsRow_fr A.out.cl ((Fr.refl nob w3).alloc _) (fun _ _ x=>x)) ⟨w3.heap.size,0,none⟩ 1 1 [.int .i64 ((s.opened:Int)+1)] rfl rfl ?c1 ?c2 ?c3 ?c4 ?_)
   case c1=>intro j u hj;match j,hj with|0,hj=>simp at hj;subst hj;simp[Addr.add]
   case c2=>intro u hu;simp at hu;subst hu;rfl
   case c3=>unfold maxLen;exact Nat.le_trans (Nat.succ_le_succ o) (by decide)
   case c4=>exact Nat.le_trans (Nat.mul_le_mul_right 8 (Nat.succ_le_succ o)) (by decide)
   intro v' w4 a E;obtain⟨av,U,rfl⟩:=Zb a;have c:=a;rw[show((s.opened:Int)+1)=((s.opened+1:Nat):Int)from by simp]at c;obtain⟨⟨pc,pf⟩,r4,G⟩:=A.out.pushC ((Fr.refl nob w3).alloc _) E c;have R4:=hid r4;have D:=hid (T3.out.trans G);clear a c E r4 G rr;go_wp2;go_ret;refine⟨_,_,_,rfl,?_,R4.out,C.out.trans D.out⟩;have:=(D.out.rn H.out).grp ((s.opened+1:Nat):Int);rw[show(((s.opened+1:Nat):Int))=(s.opened:Int)+1 from by simp]at this;exact this
def ZoT(l:List UInt8)(W0:World)(deep:Nat)(C:Option (RxS→Out Nd)):Prop:=
 ∀b s S (O:Nat→Prop) w (p:Nat),(∀k,O k→k<w.heap.size)→Sane l s→s.opened<s.at_→Wd W0 S w→Rdg b l s S w→Calls Tryz.prog 137 #[.pointer (some ⟨b,0,none⟩),.int .i64 p,.int .i64 deep] w fun x w'=>ZbO b l S O w (Zbs prg l C p s) x w'
theorem Zf4{l:List UInt8}{C:Option (RxS→Out Nd)}{s:RxS}(h:l.length≤s.at_+1):ZlI prg l C s=.inl (11,s.at_):=by
 unfold ZlI;rw[List.getElem?_eq_none h]
theorem Zkw{l:List UInt8}{C:Option (RxS→Out Nd)}{s:RxS}(h:s.at_+1<l.length):ZlI prg l C s=
 if ahd l s.at_ [92,40]then Zbs prg l C s.at_ (s.go 2)
 else if ahd l s.at_ [92,41]then .inl (8,s.at_)
 else if 49≤l[s.at_+1].toNat∧l[s.at_+1].toNat≤57 then
  (if s.closed.contains (l[s.at_+1].toNat-48)then .inr (.back ((l[s.at_+1].toNat-48:Nat):Int),s.go 2)else .inl (9,s.at_))
 else if(Zim l[s.at_+1]).2.2 then .inr (.one (Zim l[s.at_+1]).1,(if(Zim l[s.at_+1]).2.1 then s.mark [92,l[s.at_+1]]else s).go 2)else .inl (2,s.at_):=by
 unfold ZlI;rw[List.getElem?_eq_getElem h];simp only[prg];split
 ·rfl
 ·split
  ·rfl
  ·split
   ·rfl
   ·unfold Zim;cases ZjI l[s.at_+1]with
    |none=>rfl
    |some q=>obtain⟨c,m⟩:=q;rfl
theorem Zkx(b:Nat)(l:List UInt8)(W0:World)(deep:Nat)(C:Option (RxS→Out Nd))(s:RxS)(S O:Nat→Prop)(w:World)(hO:∀k,O k→k<w.heap.size)(hl:l.length≤100000)(hd:deep≤12)(hG:ZoT l W0 deep C)
 (hs:Sane l s) (ha:s.at_<l.length) (h92:l[s.at_]=92) (hW:Wd W0 S w) (h:Rdg b l s S w):
 Calls Tryz.prog 113 #[.pointer (some ⟨b,0,none⟩),.int .i64 deep] w fun x w'=>ZbO b l S O w (ZlI prg l C s) x w':=by
 obtain⟨R,hR⟩:∃R,ZlI prg l C s=R:=⟨_,rfl⟩;rw[hR];have hr:=h;obtain⟨cv,mv,hB⟩:=h;have rr:=Zd hB.blk;have HR:=hid hr;have HG:=hid hG;have HS:=hid hs;have HW:=hid hW;have HB:=hid hB;have b2:(deep:Int)≤12:=by omega
 have b4:=hs.op;have b3:=hs.mr;have b1:=hs.cl;clear hr hG hs hW hB hd;by_cases K:s.at_+1<l.length
 ·rw[Zkw K]at hR;obtain⟨x,hx⟩:∃x,l[s.at_+1]=x:=⟨_,rfl⟩;rw[hx]at hR;have a5:¬(l.length:Int)≤(s.at_:Int)+1:=by omega
  have HT:=hid (ZbN b l [92,40] s S w hl (by decide) (by omega) HR.out);cases e1:ahd l s.at_ [92,40]with
  |true=>
   rw[if_pos e1]at hR;rw[e1]at HT;simp only[if_true]at HT;go_enter Tryz.func113,Tryz.ntmps113;go_wp2_with fail;with_reducible refine(HT.out).mono ?_
   rintro e w1 ⟨rfl,r1,t1⟩;have hg:=HG.out b (s.go 2) S O w1 s.at_ (fun k hk=>Nat.lt_of_lt_of_le (hO k hk) t1.fr.size) ⟨by show s.at_+2≤_;omega,by show s.marks.length≤s.at_+2;omega,by show s.closed.length≤s.at_+2;omega,by show s.opened≤s.at_+2;omega⟩ (by show s.opened<s.at_+2;omega) (HW.out.stp t1) r1;rw[hR]at hg;have Y:=hid hg;have T1:=hid t1;clear hg r1 t1 rr e1 hR;go_wp2_with fail;with_reducible refine(Y.out).mono ?_
   cases R with
   |inl z=>
    obtain⟨z1,z2⟩:=z;rintro e w2 ⟨rfl,S2,J⟩;exact⟨rfl,rfl,S2,T1.out.trans J⟩
   |inr z=>
    obtain⟨t,s2⟩:=z;rintro e w2 ⟨i,y,S2,rfl,V,r2,J⟩;have Z:=hid V;have R2:=hid r2;have a0:=hid (T1.out.trans J);clear V r2 J;go_wp2;go_ret;exact⟨_,_,S2,rfl,Z.out,R2.out,a0.out⟩
  |false=>
   rw[if_neg (by rw[e1];decide)]at hR;rw[e1]at HT;simp only[Bool.false_eq_true,if_false]at HT;go_enter Tryz.func113,Tryz.ntmps113;go_wp2_with fail;with_reducible refine(HT.out).mono ?_
   rintro e w1 ⟨rfl,r1,t1⟩;have hA:=Zcg b l [92,41] s S w1 (by omega) (by decide) (by omega) r1;obtain⟨a8,b8,Q⟩:=r1;have X:=hid Q;have T1:=hid t1;clear t1 rr e1 Q;cases e2:ahd l s.at_ [92,41]with
   |true=>
    rw[if_pos e2]at hR;subst hR;rw[e2]at hA;have HA:=hid hA;clear hA e2;go_wp2_with(first|((with_reducible refine(HA.out).mono ?_);rintro e w2 ⟨rfl,f2⟩;have F2:=hid f2;clear f2)|(go_at_call 82;(with_reducible refine(br_fail 8 _ _).mono ?_);rintro e w' ⟨rfl,rfl⟩));exact⟨rfl,rfl,S,T1.out.trans (Stp.of F2.out)⟩
   |false=>
    rw[if_neg (by rw[e2];decide)]at hR;rw[e2]at hA;have HA:=hid hA;clear hA e2;go_wp2_with fail;with_reducible refine(HA.out).mono ?_
    rintro e w2 ⟨rfl,f2⟩;have G:=X.out.on f2;have W:=Zd G.blk;obtain⟨a2,a7,a4⟩:=Zb G.cl;subst a4;have r:=hid G;have T2:=hid (T1.out.trans (Stp.of f2));clear G f2;have b0:(s.at_:Int)+1<l.length:=by omega
    by_cases hd:49≤x.toNat∧x.toNat≤57
    ·rw[if_pos hd]at hR;obtain⟨H,I⟩:=hd;obtain⟨n,hn⟩:∃n,x.toNat=n+48:=⟨x.toNat-48,by omega⟩;rw[hn]at hR H I;rw[show n+48-48=n from by omega]at hR;have b6:IntKind.u8.wrap (n:Int)=n:=IntWalk.u8_in _ (by omega);have hN:=Zhi s.closed n _ w2 (by omega) r.out.cl;cases hq:s.closed.contains n with
     |true=>
      rw[if_pos hq]at hR;subst hR;rw[hq]at hN;have HN:=hid hN;clear hN hq;go_wp2_with((with_reducible refine(HN.out).mono ?_);rintro e w3 ⟨rfl,rfl⟩);go_ret;exact⟨_,_,S,rfl,by rw[RN],⟨_,_,r.out.turned 1 _ (s.go 2) (by simp[RxS.go]) rfl rfl⟩,T2.out.trans (r.out.stp 1 _)⟩
     |false=>
      rw[if_neg (by rw[hq];decide)]at hR;subst hR;rw[hq]at hN;have HN:=hid hN;clear hN hq;go_wp2_with(first|((with_reducible refine(HN.out).mono ?_);rintro e w3 ⟨rfl,rfl⟩)|(go_at_call 82;(with_reducible refine(br_fail 9 _ _).mono ?_);rintro e w' ⟨rfl,rfl⟩));exact⟨rfl,rfl,S,T2.out⟩
    ·rw[if_neg hd]at hR;have v:x.toNat<49∨(49≤x.toNat∧57<x.toNat):=by omega
     have hE:=Zji x w2;have b7:=x.toNat_lt;have a6:=Zaf (P:=Tryz.prog) l (lo:=(s.at_:Int)) (hi:=(s.at_:Int)+2) Tryz.underlying9 (by omega) (by omega) (by omega);have U:List.take (((s.at_:Int)+2).toNat-((s.at_:Int)).toNat) (List.drop ((s.at_:Int)).toNat l)=[92,x]:=by
      rw[show((s.at_:Int)).toNat=s.at_ from by omega,show((s.at_:Int)+2).toNat-s.at_=2 from by omega,List.drop_eq_getElem_cons ha,List.drop_eq_getElem_cons K,h92,hx];rfl
     rw[U]at a6;obtain⟨⟨c,m,k⟩,hq⟩:∃q,Zim x=q:=⟨_,rfl⟩;rw[hq]at hE hR;simp only at hR;have HE:=hid hE;have HX:=hid hq;clear hd hE U hq;cases k with
     |false=>
      rw[if_neg (by decide)]at hR;subst hR;rcases v with v|⟨H,I⟩
      all_goals
       go_wp2_with(first|((with_reducible refine(HE.out).mono ?_);rintro e w3 ⟨rfl,f3⟩;have F3:=hid f3;clear f3)|(go_at_call 82;(with_reducible refine(br_fail 2 _ _).mono ?_);rintro e w' ⟨rfl,rfl⟩));exact⟨rfl,rfl,S,T2.out.trans (Stp.of ((F3.out).alloc _))⟩
     |true=>
      rw[if_pos rfl]at hR;subst hR;cases m with
      |false=>
       rcases v with v|⟨H,I⟩
       all_goals
        go_wp2_with fail;with_reducible refine(HE.out).mono ?_
        rintro e w3 ⟨rfl,f3⟩;obtain⟨w4,o⟩:∃w4,w4=w3.alloc (.cells #[.int .u64 c.a,.int .u64 c.b,.int .u64 c.c,.int .u64 c.d] 132):=⟨_,rfl⟩;have f4:Fr nob w2 w4:=by rw[o];exact f3.alloc _
        have u:=r.out.on f4;have E:Q4 w4 w3.heap.size c:=by rw[o];exact Q4.of (newAt0 w3 _)
        have a3:b<w3.heap.size:=Nat.lt_of_lt_of_le (lt_heap r.out.blk) f3.size;have D:¬S w3.heap.size:=fun hk=>by have:=(HW.out.stp T2.out).lt _ hk;have:=f3.size;omega
        obtain⟨⟨k0,k1,_⟩,_,j1,_⟩:=Zd u.blk _ (Fr.refl _ _);have L:=hid o;have F:=hid u;have f:=hid E;have T4:=hid (T2.out.trans (Stp.of f4));clear o f4 f3 u E W;simp only;have A:Q4 (w4.setCell ⟨b,1,none⟩ (.int .i64 ((s.at_:Int)+2))) w3.heap.size c:=by
         have g:=(Fr.refl (fun k=>k=b) w4).setCell (p:=⟨b,1,none⟩) (fun _=>rfl) (.int .i64 ((s.at_:Int)+2));have j:w3.heap.size≠b:=by omega
         exact⟨g.cell f.out.1 j,g.cell f.out.2.1 j,g.cell f.out.2.2.1 j,g.cell f.out.2.2.2 j⟩
        go_wp2_with(rw[←L.out]);go_ret;exact⟨_,_,S,rfl,by rw[RN];rfl,⟨_,_,F.out.turned 1 _ (s.go 2) (by simp[RxS.go]) rfl rfl⟩,T4.out.trans (F.out.stp 1 _)⟩
      |true=>
       rcases v with v|⟨H,I⟩
       all_goals
        go_wp2_with fail;with_reducible refine(HE.out).mono ?_
        rintro e w3 ⟨rfl,f3⟩;obtain⟨w4,o⟩:∃w4,w4=w3.alloc (.cells #[.int .u64 c.a,.int .u64 c.b,.int .u64 c.c,.int .u64 c.d] 132):=⟨_,rfl⟩;have f4:Fr nob w2 w4:=by rw[o];exact f3.alloc _
        have u:=r.out.on f4;have E:Q4 w4 w3.heap.size c:=by rw[o];exact Q4.of (newAt0 w3 _)
        have a3:b<w3.heap.size:=Nat.lt_of_lt_of_le (lt_heap r.out.blk) f3.size;have D:¬S w3.heap.size:=fun hk=>by have:=(HW.out.stp T2.out).lt _ hk;have:=f3.size;omega
        obtain⟨⟨k0,k1,_⟩,_,j1,_⟩:=Zd u.blk _ (Fr.refl _ _);have L:=hid o;have F:=hid u;have f:=hid E;have T4:=hid (T2.out.trans (Stp.of f4));clear o f4 f3 u E W;simp only;go_wp2_with(rw[←L.out]);refine(br_mark b l [92,x] s S w4 (by omega) ⟨_,_,F.out⟩).mono ?_;rintro e w5 ⟨rfl,S5,⟨a9,b9,M⟩,B⟩;have j:w3.heap.size≠b:=by omega
        have A:Q4 w5 w3.heap.size c:=⟨B.fr.cell f.out.1 D,B.fr.cell f.out.2.1 D,B.fr.cell f.out.2.2.1 D,B.fr.cell f.out.2.2.2 D⟩;have b5:Q4 (w5.setCell ⟨b,1,none⟩ (.int .i64 ((s.at_:Int)+2))) w3.heap.size c:=by
         have g:=(Fr.refl (fun k=>k=b) w5).setCell (p:=⟨b,1,none⟩) (fun _=>rfl) (.int .i64 ((s.at_:Int)+2));exact⟨g.cell A.1 j,g.cell A.2.1 j,g.cell A.2.2.1 j,g.cell A.2.2.2 j⟩
        obtain⟨⟨_,n1,_⟩,_,n2,_⟩:=Zd M.blk _ (Fr.refl _ _);rw[show(s.mark [92,x]).at_=s.at_ from rfl]at n1;have N:=hid M;have a1:=hid (T4.out.trans B);clear M B A k0 k1 j1;go_wp2;go_ret;exact⟨_,_,S5,rfl,by rw[RN];rfl,⟨_,_,N.out.turned 1 _ ((s.mark [92,x]).go 2) (by simp[RxS.go,RxS.mark]) rfl rfl⟩,a1.out.trans (N.out.stp 1 _)⟩
 ·rw[Zf4 (by omega)]at hR;subst hR;have a5:(l.length:Int)≤(s.at_:Int)+1:=by omega
  go_enter Tryz.func113,Tryz.ntmps113;go_wp2_with(go_at_call 82;(with_reducible refine(br_fail 11 _ _).mono ?_);rintro e w' ⟨rfl,rfl⟩);exact⟨rfl,rfl,S,Stp.refl _ _⟩
def ZcC(l:List UInt8)(c:Nat)(f:RxS→Out Nd):Prop:=∀s,Sane l s→∀t s',f s=.inr (t,s')→Sane l s'∧s.at_≤s'.at_∧t.size+s.at_≤s'.at_+c
theorem ZcC.kept{l:List UInt8}{c:Nat}{f:RxS→Out Nd}(h:ZcC l c f):Zpx l f:=fun s hs t s' e=>⟨(h s hs t s' e).1,(h s hs t s' e).2.1⟩
section
variable {l:List UInt8} {s:RxS} (hs:Sane l s)
include hs
theorem Sane.go{n:Nat}(h:s.at_+n≤l.length):Sane l (s.go n):=
 ⟨h,Nat.le_trans hs.mr (Nat.le_add_right _ _),Nat.le_trans hs.cl (Nat.le_add_right _ _),Nat.le_trans hs.op (Nat.le_add_right _ _)⟩
theorem Sane.to{n:Nat}(h:s.at_≤n)(h':n≤l.length):Sane l (s.to n):=
 ⟨h',Nat.le_trans hs.mr h,Nat.le_trans hs.cl h,Nat.le_trans hs.op h⟩
theorem Sane.markgo{n:Nat}(t:List UInt8)(hn:1≤n)(h:s.at_+n≤l.length):Sane l ((s.mark t).go n):=
 ⟨h,by have:=hs.mr;show(s.marks++[_]).length≤s.at_+n;simp;omega,Nat.le_trans hs.cl (Nat.le_add_right _ _),Nat.le_trans hs.op (Nat.le_add_right _ _)⟩
end
theorem ZaA{l:List UInt8}:∀(n:Nat) (s:RxS) (t:Nd) (t':Nd) (s':RxS),Sane l s→ZbW prg l n s t=.inr (t',s')→Sane l s'∧s.at_≤s'.at_∧t'.size+s.at_≤s'.at_+t.size
 |0,s,t,t',s',hs,h=>by
  rw[ZbW]at h;injection h with h;injection h with h1 h2;subst h1;subst h2;exact⟨hs,Nat.le_refl _,by omega⟩
 |n+1,s,t,t',s',hs,h=>by
  have hz:∀a b,(prg.rep t a b).size=1+t.size:=fun _ _=>rfl;cases e1:ahd l s.at_ [92,43]with
  |true=>
   rw[Zf3 e1]at h;have hle:=ahd_le e1 (by decide);simp only[List.length_cons,List.length_nil]at hle;obtain⟨k1,k2,k3⟩:=ZaA n _ _ _ _ (hs.markgo _ (by omega) hle) h;rw[hz]at k3;refine⟨k1,?_,?_⟩
   ·have:s.at_+2≤s'.at_:=k2;omega
   ·have:1+0+t'.size+(s.at_+2)≤1+0+s'.at_+(1+t.size):=by have:t'.size+(s.at_+2)≤s'.at_+(1+t.size):=k3;omega
    omega
  |false=>
   cases e2:ahd l s.at_ [92,63]with
   |true=>
    rw[ZeB e1 e2]at h;have hle:=ahd_le e2 (by decide);simp only[List.length_cons,List.length_nil]at hle;obtain⟨k1,k2,k3⟩:=ZaA n _ _ _ _ (hs.markgo _ (by omega) hle) h;rw[hz]at k3;refine⟨k1,?_,?_⟩
    ·have:s.at_+2≤s'.at_:=k2;omega
    ·have:t'.size+(s.at_+2)≤s'.at_+(1+t.size):=k3;omega
   |false=>
    cases e3:ahd l s.at_ [92,123]with
    |true=>
     have hle:=ahd_le e3 (by decide);simp only[List.length_cons,List.length_nil]at hle;cases e4:Zfw l (s.at_+2)with
     |none=>rw[Zij e1 e2 e3 e4]at h;cases h
     |some q=>
      obtain⟨m,x,k⟩:=q;rw[ZeC e1 e2 e3 e4]at h;obtain⟨g1,g2,_⟩:=Zks (by omega) e4;obtain⟨k1,k2,k3⟩:=ZaA n _ _ _ _ (hs.to (by omega) g2) h;rw[hz]at k3;refine⟨k1,?_,?_⟩
      ·have:k≤s'.at_:=k2;omega
      ·have:t'.size+k≤s'.at_+(1+t.size):=k3;omega
    |false=>
     cases e4:ahd l s.at_ [42]with
     |true=>
      have hle:=ahd_le e4 (by decide);simp only[List.length_singleton]at hle;rw[repS_star e1 e2 e3 e4]at h;obtain⟨k1,k2,k3⟩:=ZaA n _ _ _ _ (hs.go hle) h;rw[hz]at k3;refine⟨k1,?_,?_⟩
      ·have:s.at_+1≤s'.at_:=k2;omega
      ·have:t'.size+(s.at_+1)≤s'.at_+(1+t.size):=k3;omega
     |false=>
      rw[Zik e1 e2 e3 e4]at h;injection h with h;injection h with h1 h2;subst h1;subst h2;exact⟨hs,Nat.le_refl _,by omega⟩
theorem Zhj{l:List UInt8}{C:Option (RxS→Out Nd)}(hC:∀f,C=some f→ZcC l 2 f){p:Nat}{s s':RxS}{t:Nd}(hs:Sane l s)(h1:s.opened<s.at_)(h:Zbs prg l C p s=.inr (t,s')):
 Sane l s'∧s.at_+2≤s'.at_∧t.size+s.at_≤s'.at_+1:=by
 cases C with
 |none=>cases h
 |some f=>
  unfold Zbs at h;simp only at h;cases hf:f {s with opened:=s.opened+1}with
  |inl e=>rw[hf]at h;cases h
  |inr z=>
   obtain⟨t1,s1⟩:=z;rw[hf]at h;simp only at h;obtain⟨k1,k2,k3⟩:=hC f rfl {s with opened:=s.opened+1} ⟨hs.le,hs.mr,hs.cl,h1⟩ t1 s1 hf;have k2:s.at_≤s1.at_:=k2;have k3:t1.size+s.at_≤s1.at_+2:=k3;split at h
   ·next ha=>
    have a:=ahd_le ha (by decide);simp only[List.length_cons,List.length_nil]at a;injection h with h;injection h with h2 h3;subst h2;subst h3;refine⟨⟨a,Nat.le_trans k1.mr (Nat.le_add_right _ _),?_,?_⟩,?_,?_⟩
    ·show(s1.closed++[_]).length≤s1.at_+2;have:=k1.cl;simp;omega
    ·exact Nat.le_trans k1.op (Nat.le_add_right _ _)
    ·show s.at_+2≤s1.at_+2;omega
    ·show(1+t1.size)+s.at_≤s1.at_+2+1;omega
   ·cases h
theorem Zky{l:List UInt8}{C:Option (RxS→Out Nd)}(hC:∀f,C=some f→ZcC l 2 f){s s':RxS}{t:Nd}(hs:Sane l s)(h:ZlI prg l C s=.inr (t,s')):
 Sane l s'∧s.at_<s'.at_∧t.size+s.at_≤s'.at_:=by
 by_cases hl:s.at_+1<l.length
 ·rw[Zkw hl]at h;split at h
  ·next ha=>
   have:=hs.op;obtain⟨k1,k2,k3⟩:=Zhj hC (hs.go (n:=2) (by omega)) (by show s.opened<s.at_+2;omega) h;have k2:s.at_+2+2≤s'.at_:=k2;have k3:t.size+(s.at_+2)≤s'.at_+1:=k3;exact⟨k1,by omega,by omega⟩
  ·split at h
   ·cases h
   ·split at h
    ·split at h
     ·injection h with h;injection h with h2 h3;subst h2;subst h3;exact⟨hs.go (by omega),by show s.at_<s.at_+2;omega,by show 1+s.at_≤s.at_+2;omega⟩
     ·cases h
    ·split at h
     ·injection h with h;injection h with h2 h3;subst h2;subst h3;split
      ·exact⟨hs.markgo _ (by omega) (by omega),by show s.at_<s.at_+2;omega,by show 1+s.at_≤s.at_+2;omega⟩
      ·exact⟨hs.go (by omega),by show s.at_<s.at_+2;omega,by show 1+s.at_≤s.at_+2;omega⟩
     ·cases h
 ·rw[Zf4 (by omega)]at h;cases h
theorem Zbw{l:List UInt8}{C:Option (RxS→Out Nd)}(hC:∀f,C=some f→ZcC l 2 f){s s':RxS}{t:Nd}{b:UInt8}(hs:Sane l s)(ha:s.at_<l.length)(h:Zb0 prg l C s b=.inr (t,s')):
 Sane l s'∧s.at_<s'.at_∧t.size+s.at_≤s'.at_:=by
 unfold Zb0 at h;split at h
 ·exact Zky hC hs h
 ·split at h
  ·cases hp:prs l (s.at_+1)with
   |inl z=>rw[hp]at h;cases h
   |inr y=>
    obtain⟨c,k⟩:=y;rw[hp]at h;injection h with h;injection h with h2 h3;subst h2;subst h3;obtain⟨p1,p2,p3⟩:=Zke hp;have p2:s.at_+1<k:=p2;have p3:k≤l.length:=p3;exact⟨hs.to (by omega) p3,by show s.at_<k;omega,by show 1+s.at_≤k;omega⟩
  ·split at h
   ·injection h with h;injection h with h2 h3;subst h2;subst h3;exact⟨hs.go (by omega),by show s.at_<s.at_+1;omega,by show 1+s.at_≤s.at_+1;omega⟩
   ·injection h with h;injection h with h2 h3;subst h2;subst h3;exact⟨hs.go (by omega),by show s.at_<s.at_+1;omega,by show 1+s.at_≤s.at_+1;omega⟩
theorem Zf5{l:List Nd}{n:Nd}{k:Nat}(h1:1≤k)(h2:Nd.sizes l≤k)(h3:n.size≤k):(Zd3 l n).size≤k:=by
 match l,h2 with
 |[],_=>exact h1
 |[x],h2=>simpa[Zd3,Nd.sizes]using h2
 |_::_::_,_=>exact h3
theorem Zbx(l:List Nd):(Za2 l).size≤Nd.sizes l+1:=
 have h:=ZcA l
 Zf5 (by omega) (by omega) (by show 1+Nd.sizes (parts l)≤_;omega)
theorem Zby(l:List Nd):(Za3 l).size≤Nd.sizes l+1:=
 have h:=Zdf l
 Zf5 (by omega) (by omega) (by show 1+Nd.sizes (arms l)≤_;omega)
def ZjJ(l:List UInt8)(C:Option (RxS→Out Nd))(s:RxS)(b:UInt8):Out Nd:=
 match Zb0 prg l C s b with
 | .inl e=>.inl e
 | .inr (t,s1)=>ZbW prg l (l.length+1) s1 t
theorem Zkz{l:List UInt8}{C:Option (RxS→Out Nd)}(hC:∀f,C=some f→ZcC l 2 f){s s':RxS}{t:Nd}{b:UInt8}(hs:Sane l s)(ha:s.at_<l.length)(h:ZjJ l C s b=.inr (t,s')):
 Sane l s'∧s.at_<s'.at_∧t.size+s.at_≤s'.at_:=by
 unfold ZjJ at h;cases hp:Zb0 prg l C s b with
 |inl z=>rw[hp]at h;cases h
 |inr y=>
  obtain⟨t1,s1⟩:=y;rw[hp]at h;simp only at h;obtain⟨k1,k2,k3⟩:=Zbw hC hs ha hp;obtain⟨j1,j2,j3⟩:=ZaA _ _ _ _ _ k1 h;exact⟨j1,by omega,by omega⟩
section
variable {l:List UInt8} {C:Option (RxS→Out Nd)} {inner front:Bool} {n:Nat} {s:RxS} {ps:List Nd}
theorem Zfi(h:l.length≤s.at_):brS prg l C inner (n+1) front s ps=.inr (Za2 ps,s):=by
 rw[brS,List.getElem?_eq_none h];rfl
theorem ZdH(h:s.at_<l.length)(h1:(ahd l s.at_ [92,124]||(inner&&ahd l s.at_ [92,41]))=true):brS prg l C inner (n+1) front s ps=.inr (Za2 ps,s):=by
 rw[brS,List.getElem?_eq_getElem h];simp only;rw[if_pos h1];rfl
theorem Zd6(h:s.at_<l.length)(h1:(ahd l s.at_ [92,124]||(inner&&ahd l s.at_ [92,41]))=false)(h2:(front&&(ahd l s.at_ [92,123]||(ahd l s.at_ [92,43]||ahd l s.at_ [92,63])))=true):
 brS prg l C inner (n+1) front s ps=.inl (10,s.at_):=by
 rw[brS,List.getElem?_eq_getElem h];simp only;rw[if_neg (by rw[h1];decide),if_pos h2]
theorem Zfj(h:s.at_<l.length)(h1:(ahd l s.at_ [92,124]||(inner&&ahd l s.at_ [92,41]))=false)(h2:(front&&(ahd l s.at_ [92,123]||(ahd l s.at_ [92,43]||ahd l s.at_ [92,63])))=false)(h3:(ahd l s.at_ [36]&&ZbL l s.at_)=true):
 brS prg l C inner (n+1) front s ps=brS prg l C inner n false (s.go 1) (ps++[.fin]):=by
 rw[brS,List.getElem?_eq_getElem h];simp only;rw[if_neg (by rw[h1];decide),if_neg (by rw[h2];decide),if_pos h3];rfl
theorem ZeD(h:s.at_<l.length)(h1:(ahd l s.at_ [92,124]||(inner&&ahd l s.at_ [92,41]))=false)(h2:(front&&(ahd l s.at_ [92,123]||(ahd l s.at_ [92,43]||ahd l s.at_ [92,63])))=false)(h3:(ahd l s.at_ [36]&&ZbL l s.at_)=false):
 brS prg l C inner (n+1) front s ps=match ZjJ l C s l[s.at_]with| .inl e=>.inl e| .inr (t,s2)=>brS prg l C inner n false s2 (ps++[t]):=by
 rw[brS,List.getElem?_eq_getElem h];simp only;rw[if_neg (by rw[h1];decide),if_neg (by rw[h2];decide),if_neg (by rw[h3];decide)];unfold ZjJ;cases Zb0 prg l C s l[s.at_]with
 |inl e=>rfl
 |inr z=>obtain⟨t,s1⟩:=z;simp only;cases ZbW prg l (l.length+1) s1 t<;>rfl
end
theorem ZdI{l:List UInt8}{C:Option (RxS→Out Nd)}(hC:∀f,C=some f→ZcC l 2 f){inner:Bool}:∀(n:Nat) (front:Bool) (s:RxS) (ps:List Nd) (t:Nd) (s':RxS),Sane l s→brS prg l C inner n front s ps=.inr (t,s')→
 Sane l s'∧s.at_≤s'.at_∧t.size+s.at_≤s'.at_+Nd.sizes ps+1
 |0,front,s,ps,t,s',hs,h=>by
  rw[brS]at h;injection h with h;injection h with h1 h2;subst h1;subst h2;have:=Zbx ps;exact⟨hs,Nat.le_refl _,by show(Za2 ps).size+s.at_≤_;omega⟩
 |n+1,front,s,ps,t,s',hs,h=>by
  have hj:=Zbx ps;by_cases hl:s.at_<l.length
  ·cases h1:(ahd l s.at_ [92,124]||(inner&&ahd l s.at_ [92,41]))with
   |true=>
    rw[ZdH hl h1]at h;injection h with h;injection h with h1 h2;subst h1;subst h2;exact⟨hs,Nat.le_refl _,by omega⟩
   |false=>
    cases h2:(front&&(ahd l s.at_ [92,123]||(ahd l s.at_ [92,43]||ahd l s.at_ [92,63])))with
    |true=>rw[Zd6 hl h1 h2]at h;cases h
    |false=>
     cases h3:(ahd l s.at_ [36]&&ZbL l s.at_)with
     |true=>
      rw[Zfj hl h1 h2 h3]at h;obtain⟨k1,k2,k3⟩:=ZdI hC n _ _ _ _ _ (hs.go (n:=1) (by omega)) h;rw[Nd.sizes_append]at k3;have k2:s.at_+1≤s'.at_:=k2;have k3:t.size+(s.at_+1)≤s'.at_+(Nd.sizes ps+(1+0))+1:=k3;exact⟨k1,by omega,by omega⟩
     |false=>
      rw[ZeD hl h1 h2 h3]at h;cases hr:ZjJ l C s l[s.at_]with
      |inl e=>rw[hr]at h;cases h
      |inr z=>
       obtain⟨t1,s1⟩:=z;rw[hr]at h;simp only at h;obtain⟨r1,r2,r3⟩:=Zkz hC hs hl hr;obtain⟨k1,k2,k3⟩:=ZdI hC n _ _ _ _ _ r1 h;rw[Nd.sizes_append]at k3;have k3:t.size+s1.at_≤s'.at_+(Nd.sizes ps+(t1.size+0))+1:=k3;exact⟨k1,by omega,by omega⟩
  ·rw[Zfi (by omega)]at h;injection h with h;injection h with h1 h2;subst h1;subst h2;exact⟨hs,Nat.le_refl _,by omega⟩
theorem Zbe{l:List UInt8}{C:Option (RxS→Out Nd)}(hC:∀f,C=some f→ZcC l 2 f){inner:Bool}:ZcC l 1 (branchS prg l C inner):=by
 intro s hs t s' h;unfold branchS at h;split at h
 ·next ha=>
  have a:=ahd_le ha (by decide);simp only[List.length_singleton]at a;obtain⟨k1,k2,k3⟩:=ZdI hC _ _ _ _ _ _ (hs.go a) h;have k2:s.at_+1≤s'.at_:=k2;have k3:t.size+(s.at_+1)≤s'.at_+(1+0)+1:=k3;exact⟨k1,by omega,by omega⟩
 ·obtain⟨k1,k2,k3⟩:=ZdI hC _ _ _ _ _ _ hs h;have k3:t.size+s.at_≤s'.at_+0+1:=k3;exact⟨k1,by omega,by omega⟩
theorem Zd7{l:List UInt8}{C:Option (RxS→Out Nd)}(hC:∀f,C=some f→ZcC l 2 f){inner:Bool}:∀(n:Nat) (s:RxS) (ts:List Nd) (t:Nd) (s':RxS),Sane l s→Za1 prg l C inner n s ts=.inr (t,s')→
 Sane l s'∧s.at_≤s'.at_∧t.size+s.at_≤s'.at_+Nd.sizes ts+1
 |0,s,ts,t,s',hs,h=>by
  rw[Za1]at h;injection h with h;injection h with h1 h2;subst h1;subst h2;have:=Zby ts;exact⟨hs,Nat.le_refl _,by show(Za3 ts).size+s.at_≤_;omega⟩
 |n+1,s,ts,t,s',hs,h=>by
  rw[Za1]at h;split at h
  ·next ha=>
   have hle:=ahd_le ha (by decide);simp only[List.length_cons,List.length_nil]at hle;cases hb:branchS prg l C inner ((s.mark [92,124]).go 2)with
   |inl e=>rw[hb]at h;cases h
   |inr z=>
    obtain⟨t1,s1⟩:=z;rw[hb]at h;simp only at h;obtain⟨r1,r2,r3⟩:=Zbe hC _ (hs.markgo [92,124] (n:=2) (by omega) hle) _ _ hb;obtain⟨k1,k2,k3⟩:=Zd7 hC n _ _ _ _ r1 h;rw[Nd.sizes_append]at k3;have r2:s.at_+2≤s1.at_:=r2;have r3:t1.size+(s.at_+2)≤s1.at_+1:=r3;have k3:t.size+s1.at_≤s'.at_+(Nd.sizes ts+(t1.size+0))+1:=k3;exact⟨k1,by omega,by omega⟩
  ·injection h with h;injection h with h1 h2;subst h1;subst h2;have:=Zby ts;exact⟨hs,Nat.le_refl _,by show(Za3 ts).size+s.at_≤_;omega⟩
theorem choiceS_kept{l:List UInt8}{C:Option (RxS→Out Nd)}(hC:∀f,C=some f→ZcC l 2 f){inner:Bool}:ZcC l 2 (choiceS prg l C inner):=by
 intro s hs t s' h;unfold choiceS at h;cases hb:branchS prg l C inner s with
 |inl e=>rw[hb]at h;cases h
 |inr z=>
  obtain⟨t1,s1⟩:=z;rw[hb]at h;simp only at h;obtain⟨r1,r2,r3⟩:=Zbe hC _ hs _ _ hb;obtain⟨k1,k2,k3⟩:=Zd7 hC _ _ _ _ _ r1 h;have k3:t.size+s1.at_≤s'.at_+(t1.size+0)+1:=k3;exact⟨k1,by omega,by omega⟩
theorem chS_kept{l:List UInt8}:∀n,ZcC l 2 (chS prg l n)
 |0=>by
  have:chS prg l 0=choiceS prg l none true:=by funext s;rw[chS]
  rw[this];exact choiceS_kept (fun f hf=>by cases hf)
 |n+1=>by
  have:chS prg l (n+1)=choiceS prg l (some (chS prg l n)) (decide (n+1<12)):=by funext s;rw[chS]
  rw[this];exact choiceS_kept (fun f hf=>by injection hf with hf;subst hf;exact chS_kept n)
theorem sgn_fit{l X:List UInt8}{k:Nat}(h:sgn l k=X)(hX:X≠[]):k+X.length≤l.length:=by
 have hk:k<l.length:=by
  by_cases hk:k<l.length
  ·exact hk
  ·exact absurd (h.symm.trans (Zkf (by omega))) hX
 have:=(Zkg l k).2;rw[h]at this;omega
theorem ZbQ(ere:Bool)(b:UInt8):1≤(opB ere b).length∧(opB ere b).length≤2∧opB ere b≠[]∧(ere=false→(opB ere b).length=2):=by cases ere<;>simp[opB]
theorem ZcU{l:List UInt8}{k:Nat}{ere:Bool}{b:UInt8}(h:(sgn l k==opB ere b)=true):k+(opB ere b).length≤l.length:=sgn_fit (eq_of_beq h) (ZbQ ere b).2.2.1
theorem ZkE{l:List UInt8}{ere:Bool}{k:Nat}{m x:Int}{j:Nat}(h:ZlJ l ere k=some (m,x,j)):k<j∧j≤l.length:=by
 unfold ZlJ at h;simp only at h;split at h
 ·cases h
 ·next hc=>
  have h4:=(ZbQ ere 125).1;have a:∀(q:Nat),ahd l q (opB ere 125)≠false→q+(opB ere 125).length≤l.length:=fun q hq=>ahd_le (by simpa using hq) h4;split at h
  ·split at h
   all_goals
    split at h
    ·cases h
    ·next ha=>
     injection h with h;injection h with h1 h;injection h with h2 h3;have:=a _ (fun e=>ha (.inl e));omega
  ·split at h
   ·cases h
   ·next ha=>
    injection h with h;injection h with h1 h;injection h with h2 h3;have:=a _ (fun e=>ha (.inl e));omega
def Zn4(l:List UInt8)(f:RxS→Out Nd):Prop:=∀s,Sane l s→∀t s',f s=.inr (t,s')→Sane l s'∧s.at_≤s'.at_∧t.size+2*s.at_≤2*s'.at_+2
theorem Sane.mk2{l:List UInt8}{s:RxS}{ere:Bool}{b:UInt8}(t:List UInt8)(hs:Sane l s)(h:s.at_+(opB ere b).length≤l.length):Sane l ((if ere then s else s.mark t).go (opB ere b).length):=by
 cases ere
 ·exact hs.markgo t (ZbQ false b).1 h
 ·exact hs.go h
theorem Zbz{ere:Bool}{l:List UInt8}:∀(n:Nat) (s:RxS) (t:Nd) (t':Nd) (s':RxS),Sane l s→Ze8 prg ere l n s t=.inr (t',s')→Sane l s'∧s.at_≤s'.at_∧t'.size+2*s.at_≤2*s'.at_+t.size
 |0,s,t,t',s',hs,h=>by
  rw[Ze8]at h;injection h with h;injection h with h1 h2;subst h1;subst h2;exact⟨hs,Nat.le_refl _,by omega⟩
 |n+1,s,t,t',s',hs,h=>by
  have hz:∀a b,(prg.rep t a b).size=1+t.size:=fun _ _=>rfl;have hat:∀u b,((if ere then s else s.mark u).go (opB ere b).length).at_=s.at_+(opB ere b).length:=fun u b=>by cases ere<;>rfl
  have ho:=ZbQ ere;rw[Ze8]at h;split at h
  ·next e=>
   have hle:s.at_+1≤l.length:=sgn_fit (eq_of_beq e) (by decide);obtain⟨k1,k2,k3⟩:=Zbz n _ _ _ _ (hs.go (n:=1) hle) h;have k2:s.at_+1≤s'.at_:=k2;have k3:t'.size+2*(s.at_+1)≤2*s'.at_+(1+t.size):=k3;exact⟨k1,by omega,by omega⟩
  ·split at h
   ·next e=>
    obtain⟨k1,k2,k3⟩:=Zbz n _ _ _ _ (hs.mk2 _ (ZcU e)) h;rw[hat]at k2 k3;rw[hz]at k3;have:=(ho 43).1;exact⟨k1,by omega,by omega⟩
   ·split at h
    ·next e=>
     obtain⟨k1,k2,k3⟩:=Zbz n _ _ _ _ (hs.mk2 _ (ZcU e)) h;rw[hat]at k2 k3;rw[hz]at k3;have:=(ho 63).1;exact⟨k1,by omega,by omega⟩
    ·split at h
     ·cases hi:ZlJ l ere (s.at_+(opB ere 123).length)with
      |none=>rw[hi]at h;cases h
      |some y=>
       obtain⟨m,x,j⟩:=y;rw[hi]at h;obtain⟨j1,j2⟩:=ZkE hi;obtain⟨k1,k2,k3⟩:=Zbz n _ _ _ _ (hs.to (n:=j) (by omega) j2) h;have k2:j≤s'.at_:=k2;have k3:t'.size+2*j≤2*s'.at_+(1+t.size):=k3;exact⟨k1,by omega,by omega⟩
     ·injection h with h;injection h with h1 h2;subst h1;subst h2;exact⟨hs,Nat.le_refl _,by omega⟩
section
variable {ere:Bool} {l:List UInt8} {C:Option (RxS→Out Nd)} (hC:∀f,C=some f→Zn4 l f)
theorem ZkF{s s':RxS}{t:Nd}{b:UInt8}(hs:Sane l s)(hl:s.at_+2≤l.length)(h:escD prg ere s b=.inr (t,s')):Sane l s'∧s.at_<s'.at_∧t.size+2*s.at_≤2*s'.at_:=by
 unfold escD at h;split at h
 ·split at h
  ·injection h with h;injection h with h1 h2;subst h1;subst h2;cases ere
   ·exact⟨hs.go hl,by show s.at_<s.at_+2;omega,by show 1+2*s.at_≤2*(s.at_+2);omega⟩
   ·exact⟨hs.markgo _ (by omega) hl,by show s.at_<s.at_+2;omega,by show 1+2*s.at_≤2*(s.at_+2);omega⟩
  ·cases h
 ·split at h
  ·cases h
  ·next c m _=>
   injection h with h;injection h with h1 h2;subst h1;subst h2;cases m
   ·exact⟨hs.go hl,by show s.at_<s.at_+2;omega,by show 1+2*s.at_≤2*(s.at_+2);omega⟩
   ·exact⟨hs.markgo _ (by omega) hl,by show s.at_<s.at_+2;omega,by show 1+2*s.at_≤2*(s.at_+2);omega⟩
include hC
theorem Zhq{s s':RxS}{t:Nd}(hs:Sane l s)(hl:s.at_+(opB ere 40).length≤l.length)(h:Zct prg ere l C s=.inr (t,s')):Sane l s'∧s.at_<s'.at_∧t.size+2*s.at_≤2*s'.at_:=by
 have ho:=ZbQ ere 40;unfold Zct at h;cases C with
 |none=>cases h
 |some f=>
  simp only at h;cases hf:f {s.go (opB ere 40).length with opened:=s.opened+1}with
  |inl e=>rw[hf]at h;cases h
  |inr z=>
   obtain⟨t1,s1⟩:=z;rw[hf]at h;simp only at h;have:=hs.op;have hg:=hs.go hl;obtain⟨k1,k2,k3⟩:=hC f rfl {s.go (opB ere 40).length with opened:=s.opened+1} ⟨hg.le,hg.mr,hg.cl,by show s.opened+1≤s.at_+_;omega⟩ t1 s1 hf;have k2:s.at_+(opB ere 40).length≤s1.at_:=k2;have k3:t1.size+2*(s.at_+(opB ere 40).length)≤2*s1.at_+2:=k3;split at h
   ·next e=>
    have e1:=ZcU e;have e2:(opB ere 40).length=(opB ere 41).length:=by cases ere<;>rfl
    injection h with h;injection h with h1 h2;subst h1;subst h2;refine⟨⟨by show s1.at_+_≤_;omega,Nat.le_trans k1.mr (Nat.le_add_right _ _),?_,Nat.le_trans k1.op (Nat.le_add_right _ _)⟩,by show s.at_<s1.at_+_;omega,?_⟩
    ·show(s1.closed++[_]).length≤s1.at_+_;have:=k1.cl;rw[List.length_append];simp only[List.length_singleton];omega
    ·show 1+t1.size+2*s.at_≤2*(s1.at_+_);omega
   ·cases h
theorem atomD_kept{s s':RxS}{t:Nd}(hs:Sane l s)(h:ZcS prg ere l C s=.inr (t,s')):Sane l s'∧s.at_<s'.at_∧t.size+2*s.at_≤2*s'.at_:=by
 unfold ZcS at h;split at h
 ·next e=>exact Zhq hC hs (ZcU e) h
 ·split at h
  ·cases h
  ·split at h
   ·cases hp:prs l (s.at_+1)with
    |inl z=>rw[hp]at h;cases h
    |inr y=>
     obtain⟨c,k⟩:=y;rw[hp]at h;injection h with h;injection h with h2 h3;subst h2;subst h3;obtain⟨_,p2,p3⟩:=Zke hp;have p2:s.at_+1<k:=p2;have p3:k≤l.length:=p3;exact⟨hs.to (by omega) p3,by show s.at_<k;omega,by show 1+2*s.at_≤2*k;omega⟩
   ·split at h
    ·next e=>
     have a:s.at_+1≤l.length:=sgn_fit (eq_of_beq e) (by decide);injection h with h;injection h with h2 h3;subst h2;subst h3;exact⟨hs.go a,by show s.at_<s.at_+1;omega,by show 1+2*s.at_≤2*(s.at_+1);omega⟩
    ·split at h
     ·cases h
     ·split at h
      ·cases h
      ·next b e=>
       have a:s.at_+1≤l.length:=sgn_fit e (by simp);injection h with h;injection h with h2 h3;subst h2;subst h3;exact⟨hs.go a,by show s.at_<s.at_+1;omega,by show 1+2*s.at_≤2*(s.at_+1);omega⟩
      ·next b r e=>
       have h2:=(Zkg l s.at_).1;have a:=sgn_fit e (by simp);simp only[List.length_cons]at a;obtain⟨k1,k2,k3⟩:=ZkF hs (by omega) h;exact⟨k1,k2,k3⟩
theorem ZdJ{inner:Bool}:∀(n:Nat) (first front:Bool) (s:RxS) (ps:List Nd) (t:Nd) (s':RxS),Sane l s→brD prg ere l C inner n first front s ps=.inr (t,s')→
 Sane l s'∧s.at_≤s'.at_∧t.size+2*s.at_≤2*s'.at_+Nd.sizes ps+1
 |0,first,front,s,ps,t,s',hs,h=>by
  rw[brD]at h;injection h with h;injection h with h1 h2;subst h1;subst h2;have:=Zbx ps;exact⟨hs,Nat.le_refl _,by show(Za2 ps).size+_≤_;omega⟩
 |n+1,first,front,s,ps,t,s',hs,h=>by
  have hj:=Zbx ps;rw[brD]at h;split at h
  ·injection h with h;injection h with h1 h2;subst h1;subst h2;exact⟨hs,Nat.le_refl _,by show(Za2 ps).size+_≤_;omega⟩
  ·split at h
   ·next e=>
    have e1:(sgn l s.at_==[94])=true:=by simp only[Bool.and_eq_true]at e;exact e.1
    have a:s.at_+1≤l.length:=sgn_fit (eq_of_beq e1) (by decide);obtain⟨k1,k2,k3⟩:=ZdJ n _ _ _ _ _ _ (hs.go (n:=1) a) h;have k2:s.at_+1≤s'.at_:=k2;have k3:t.size+2*(s.at_+1)≤2*s'.at_+Nd.sizes (ps++[.start])+1:=k3;rw[Nd.sizes_append]at k3;have:Nd.sizes [Nd.start]=1:=rfl;exact⟨k1,by omega,by omega⟩
   ·split at h
    ·next e=>
     have e1:(sgn l s.at_==[36])=true:=by simp only[Bool.and_eq_true]at e;exact e.1
     have a:s.at_+1≤l.length:=sgn_fit (eq_of_beq e1) (by decide);obtain⟨k1,k2,k3⟩:=ZdJ n _ _ _ _ _ _ (hs.go (n:=1) a) h;have k2:s.at_+1≤s'.at_:=k2;have k3:t.size+2*(s.at_+1)≤2*s'.at_+Nd.sizes (ps++[.fin])+1:=k3;rw[Nd.sizes_append]at k3;have:Nd.sizes [Nd.fin]=1:=rfl;exact⟨k1,by omega,by omega⟩
    ·split at h
     ·cases h
     ·split at h
      ·cases h
      ·next t1 s1 e1=>
       split at h
       ·cases h
       ·next t2 s2 e2=>
        obtain⟨a1,a2,a3⟩:=atomD_kept hC hs e1;obtain⟨b1,b2,b3⟩:=Zbz _ _ _ _ _ a1 e2;obtain⟨k1,k2,k3⟩:=ZdJ n _ _ _ _ _ _ b1 h;rw[Nd.sizes_append]at k3;have:Nd.sizes [t2]=t2.size:=by simp[Nd.sizes]
        exact⟨k1,by omega,by omega⟩
theorem Zbf{inner:Bool}{s s':RxS}{t:Nd}(hs:Sane l s)(h:Zb7 prg ere l C inner s=.inr (t,s')):Sane l s'∧s.at_≤s'.at_∧t.size+2*s.at_≤2*s'.at_+1:=by
 have:=ZdJ hC _ _ _ _ _ _ _ hs h;simpa[Nd.sizes]using this
theorem ZeF{inner:Bool}:∀(n:Nat) (s:RxS) (ts:List Nd) (t:Nd) (s':RxS),Sane l s→Zar prg ere l C inner n s ts=.inr (t,s')→
 Sane l s'∧s.at_≤s'.at_∧t.size+2*s.at_≤2*s'.at_+Nd.sizes ts+1
 |0,s,ts,t,s',hs,h=>by
  rw[Zar]at h;injection h with h;injection h with h1 h2;subst h1;subst h2;have:=Zby ts;exact⟨hs,Nat.le_refl _,by show(Za3 ts).size+_≤_;omega⟩
 |n+1,s,ts,t,s',hs,h=>by
  have hj:=Zby ts;have hat:∀u b,((if ere then s else s.mark u).go (opB ere b).length).at_=s.at_+(opB ere b).length:=fun u b=>by cases ere<;>rfl
  have ho:=ZbQ ere 124;rw[Zar]at h;split at h
  ·next e=>
   split at h
   ·cases h
   ·next t1 s1 e1=>
    obtain⟨a1,a2,a3⟩:=Zbf hC (hs.mk2 _ (ZcU e)) e1;rw[hat]at a2 a3;obtain⟨k1,k2,k3⟩:=ZeF n _ _ _ _ a1 h;rw[Nd.sizes_append]at k3;have:Nd.sizes [t1]=t1.size:=by simp[Nd.sizes]
    exact⟨k1,by omega,by omega⟩
  ·injection h with h;injection h with h1 h2;subst h1;subst h2;exact⟨hs,Nat.le_refl _,by show(Za3 ts).size+_≤_;omega⟩
theorem Zdr{inner:Bool}{s s':RxS}{t:Nd}(hs:Sane l s)(h:choiceD prg ere l C inner s=.inr (t,s')):Sane l s'∧s.at_≤s'.at_∧t.size+2*s.at_≤2*s'.at_+2:=by
 unfold choiceD at h;split at h
 ·cases h
 ·next t1 s1 e1=>
  obtain⟨a1,a2,a3⟩:=Zbf hC hs e1;obtain⟨k1,k2,k3⟩:=ZeF hC _ _ _ _ _ a1 h;have:Nd.sizes [t1]=t1.size:=by simp[Nd.sizes]
  exact⟨k1,by omega,by omega⟩
end
theorem chD_kept{ere:Bool}{l:List UInt8}:∀n,Zn4 l (chD prg ere l n)
 |0=>fun s hs t s' h=>by rw[chD]at h;exact Zdr (fun f hf=>by cases hf) hs h
 |n+1=>fun s hs t s' h=>by rw[chD]at h;exact Zdr (fun f hf=>by injection hf with hf;subst hf;exact chD_kept n) hs h
end Go.Proofs.YtgllcniibbaoaaaGreatDoor
