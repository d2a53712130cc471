/- Lemmas of this claim. -/
import Derived.Test.YtkfddjopbocpkaaGreatDoorM20
set_option linter.unusedVariables false
set_option linter.unusedSimpArgs false
set_option maxRecDepth 100000
set_option maxHeartbeats 4000000
namespace Go.Proofs.YtkfddjopbocpkaaGreatDoor
open Go.Lib (hid)
open Go.RowKit
theorem Zk7{l:List UInt8}{k:Nat}(g:Int)(hk:k<l.length)(e:Bool)(b:List Prt):Zao g (l.drop k) e b=
 if e=false∧l[k]=92 then Zao g (l.drop (k+1)) true b
 else if e=false∧l[k]=38 then Zao g (l.drop (k+1)) false (b++[(0,[])])
 else if e=true∧48≤l[k].toNat∧l[k].toNat≤57 then(if g<(l[k].toNat:Int)-48 then([],9)else Zao g (l.drop (k+1)) false (b++[((l[k].toNat:Int)-48,[])]))
 else if e=true∧l[k]=110 then Zao g (l.drop (k+1)) false (pushT b [10])
 else Zao g (l.drop (k+1)) false (pushT b [l[k]]):=by
 rw[List.drop_eq_getElem_cons hk,Zao]
theorem Zaw{b:List Prt}{t:List UInt8}{k:Nat}(ht:t.length≤1)(hl:b.length≤k)(h:∀p∈b,p.2.length≤k):(pushT b t).length≤k+1∧∀p∈pushT b t,p.2.length≤k+1:=by
 rcases(by rcases List.eq_nil_or_concat b with h|⟨q,p,h⟩;exact .inl h;exact .inr ⟨q,p.1,p.2,by rw[h,List.concat_eq_append]⟩:b=[]∨∃(q:List Prt) (k:Int) (a:List UInt8),b=q++[(k,a)])with rfl|⟨q,g,a,rfl⟩
 ·rw[ZgK];refine⟨by simp,fun p hp=> ?_⟩;simp only[List.mem_singleton]at hp;subst hp;simp only;omega
 ·have ha:=h (g,a) (by simp);simp only at ha;simp only[List.length_append,List.length_singleton]at hl;by_cases hg:g= -1
  ·subst hg;rw[ZeO];refine⟨by simp;omega,fun p hp=> ?_⟩;simp only[List.mem_append,List.mem_singleton]at hp;rcases hp with hp|rfl
   ·have:=h p (by simp[hp]);omega
   ·simp only[List.length_append];omega
  ·rw[Zej q g a t hg];refine⟨by simp;omega,fun p hp=> ?_⟩;simp only[List.mem_append,List.mem_singleton]at hp;rcases hp with(hp|rfl)|rfl
   ·have:=h p (by simp[hp]);omega
   ·simp only;omega
   ·simp only;omega
theorem ZcZ{b:List Prt}{g:Int}{k:Nat}(hl:b.length≤k)(h:∀p∈b,p.2.length≤k):(b++[(g,[])]).length≤k+1∧∀p∈b++[(g,[])],p.2.length≤k+1:=by
 refine⟨by simp;omega,fun p hp=> ?_⟩;simp only[List.mem_append,List.mem_singleton]at hp;rcases hp with hp|rfl
 ·have:=h p hp;omega
 ·simp
def ZpP(w:World)(F:List Prt×Int)(r:Ending)(w':World):Prop:=∃v,r=.returned (.tuple #[v,.int .i64 F.2])∧OwP w' F.1 v∧(∀k,v.ownBlock=some k→w.heap.size≤k)∧Fr nob w w'
theorem Fr.abv{w a b:World}(f:Fr nob w a)(h:Fr (Abv w.heap.size) a b):Fr nob w b:=f.trans h (fun i hi hS=>by have hS:w.heap.size≤i:=hS;omega)
theorem ZmK(l:List UInt8)(gr:Int)(w:World)(hl:l.length≤99000):
 Calls Tryz.prog 121 #[.string ⟨l.toArray⟩,.int .i64 gr] w (ZpP w (Zao gr l false [])):=by
 obtain⟨F,hF⟩:∃F,Zao gr l false []=F:=⟨_,rfl⟩;rw[hF];obtain⟨Ft,Fe⟩:=F;obtain⟨i0,hi,G,E,y⟩:=info_parts ZgJ;obtain⟨w1,r⟩:∃w1,w1=w.alloc (.cells #[.slice none 0 0] 238):=⟨_,rfl⟩;have f1:Fr nob w w1:=by rw[r];exact(Fr.refl nob w).alloc _
 have A:Bdr w.heap.size w.heap.size [] w1:=by
  refine⟨.slice none 0 0,by rw[r];exact newAt _ _,World.ownsRow_nil _ _ _ _,Nat.le_refl _,fun k h=>by cases h⟩
 have K:=hid r;have F1:=hid f1;have I:=hid A;clear r f1 A;go_enter Tryz.func121,Tryz.ntmps121;go_wp2_with(rw[←K.out])
 go_loopw [7,13] (fun ev i wr=>∃(k:Nat) (e:Bool) (ps:List Prt),i=.int .i64 k∧k≤l.length∧ev=.bool e∧Bdr w.heap.size w.heap.size ps wr∧Zao gr (l.drop k) e ps=(Ft,Fe)∧Fr nob w wr∧ps.length≤k∧(∀p∈ps,p.2.length≤k)) (fun _ i _=>l.length-(intOf i).toNat)
 case atStart=>exact⟨0,false,[],rfl,Nat.zero_le _,rfl,I.out,hF,F1.out,Nat.zero_le _,by simp⟩
 case round=>
  obtain⟨k,e,ps,rfl,hk,rfl,hB,hL,fr,f,B⟩:=hrel;clear hF;have HB:=hid hB;have HL:=hid hL;have FR:=hid fr;have a:=hid B;have C:=fr.size;have o:=hid C;clear hB hL fr B C;by_cases u:k<l.length
  ·have hL:=HL.out;rw[Zk7 gr u]at hL;obtain⟨c,hc⟩:∃c,l[k]=c:=⟨_,rfl⟩;have O:(k:Int)<l.length:=by omega
   have HK:=hid hc;rw[hc]at hL;cases e with
   |false=>
    by_cases n:c=92
    ·subst n;simp only[and_self,if_true]at hL;have g:=hid hL;clear hL HL hc;go_wp2_with(first|rw[HK.out]);go_roundw
     case rel=>exact⟨k+1,true,ps,by go_num,by omega,rfl,HB.out,g.out,FR.out,by omega,fun p hp=>by have:=a.out p hp;omega⟩
     case measure=>simp[intOf];omega
    ·have L:((c.toNat:Int)==92)=false:=Zn (b:=92) n;by_cases s:c=38
     ·subst s;simp only[n,and_false,if_false,and_self,if_true]at hL;have g:=hid hL;clear hL HL hc n L;obtain⟨v,b1,b2,b3,b4⟩:=HB.out;obtain⟨av,cv,rfl⟩:=Zb b2;have rb:=Zay (cell_at (j:=0) b1 rfl);have B1:=hid b1;have B2:=hid b2;have B4:=hid b4;clear b1 b2 b4;go_wp2_with(first|rw[HK.out]|(at_builtin;refine wpList_append_g rfl _ _ 238 rfl 43 i0 (.agg #[.int .i64 0,.string ByteArray.empty]) 2 24 Tryz.underlying238 hi G E y rfl (by decide) _ _ _ rfl (ownsRow_fr B2.out ((Fr.refl nob wr).alloc _) (fun _ _ x=>x)) ⟨wr.heap.size,0,none⟩ 1 1 [.int .i64 (0),.string ⟨#[]⟩] rfl rfl (pC_news (t:=[]) (newAt0 wr _)) (ZiG (k:=0) (t:=[])) (by unfold maxLen;omega) (by omega) ?_));intro v' w4 d q;obtain⟨J,H,rfl⟩:=Zb d;obtain⟨⟨pc,pf⟩,h5,f5⟩:=Zfr (l:=ps) B1.out b3 o.out B4.out ((Fr.refl nob wr).alloc _) q (k:=0) (t:=[]) d;have H5:=hid h5;have F5:=hid (FR.out.abv f5)
      clear d q h5 f5 rb;go_wp2;go_roundw
      case rel=>exact⟨k+1,false,ps++[(0,[])],by go_num,by omega,rfl,H5.out,g.out,F5.out,(ZcZ f a.out).1,(ZcZ f a.out).2⟩
      case measure=>simp[intOf];omega
     ·have N:((c.toNat:Int)==38)=false:=Zn (b:=38) s;simp only[n,s,and_false,if_false,Bool.false_eq_true,false_and]at hL;have g:=hid hL;clear hL HL n s hc;have D:∀W,(Instr.slice 9 (.string ⟨l.toArray⟩) (some (.int .i64 (k:Int))) (some (.int .i64 ((k:Int)+1))) none).run Tryz.prog W=.ok (.string ⟨[c].toArray⟩) W:=fun W=>by
       have:=ZbH (P:=Tryz.prog) (t:=9) l Tryz.underlying9 u rfl rfl W;rw[HK.out]at this;exact this
      go_wp2_with(first|rw[HK.out]);(try rw[HK.out]);refine(bd_text w.heap.size w.heap.size ps [c] wr (by omega) (by simp) (fun p hp=>by have:=a.out p hp;omega) o.out HB.out).mono ?_;rintro z w5 ⟨rfl,h5,f5⟩;have H5:=hid h5;have F5:=hid (FR.out.abv f5);clear h5 f5;go_wp2;go_roundw
      case rel=>exact⟨k+1,false,pushT ps [c],by go_num,by omega,rfl,H5.out,g.out,F5.out,(Zaw (by simp) f a.out).1,(Zaw (by simp) f a.out).2⟩
      case measure=>simp[intOf];omega
   |true=>
    by_cases hd:48≤c.toNat∧c.toNat≤57
    ·have d1:(48:Int)≤(c.toNat:Int):=by omega
     have d2:(c.toNat:Int)≤57:=by omega
     have Q:IntKind.u8.wrap ((c.toNat:Int)-48)=(c.toNat:Int)-48:=IntWalk.u8_in _ (by omega);simp only[Bool.true_eq_false,false_and,if_false,true_and,hd,and_self,if_true]at hL;by_cases hg:gr<(c.toNat:Int)-48
     ·rw[if_pos hg]at hL;injection hL with e1 e2;subst e1;subst e2;clear HL hc hd;go_wp2_with(first|rw[HK.out]);go_ret2;exact⟨.slice none 0 0,rfl,World.ownsRow_nil _ _ _ _,fun k h=>(by cases h),FR.out⟩
     ·rw[if_neg hg]at hL;have g:=hid hL;clear hL HL hc hd;obtain⟨v,b1,b2,b3,b4⟩:=HB.out;obtain⟨av,cv,rfl⟩:=Zb b2;have rb:=Zay (cell_at (j:=0) b1 rfl);have B1:=hid b1;have B2:=hid b2;have B4:=hid b4;clear b1 b2 b4;go_wp2_with(first|rw[HK.out]|(at_builtin;refine wpList_append_g rfl _ _ 238 rfl 43 i0 (.agg #[.int .i64 0,.string ByteArray.empty]) 2 24 Tryz.underlying238 hi G E y rfl (by decide) _ _ _ rfl (ownsRow_fr B2.out ((Fr.refl nob wr).alloc _) (fun _ _ x=>x)) ⟨wr.heap.size,0,none⟩ 1 1 [.int .i64 ((c.toNat:Int)-48),.string ⟨#[]⟩] rfl rfl (pC_news (t:=[]) (newAt0 wr _)) (ZiG (k:=(c.toNat:Int)-48) (t:=[])) (by unfold maxLen;omega) (by omega) ?_));intro v' w4 d q;obtain⟨J,H,rfl⟩:=Zb d;obtain⟨⟨pc,pf⟩,h5,f5⟩:=Zfr (l:=ps) B1.out b3 o.out B4.out ((Fr.refl nob wr).alloc _) q (k:=(c.toNat:Int)-48) (t:=[]) d;have H5:=hid h5;have F5:=hid (FR.out.abv f5)
      clear d q h5 f5 rb;go_wp2;go_roundw
      case rel=>exact⟨k+1,false,ps++[((c.toNat:Int)-48,[])],by go_num,by omega,rfl,H5.out,g.out,F5.out,(ZcZ f a.out).1,(ZcZ f a.out).2⟩
      case measure=>simp[intOf];omega
    ·have nd:¬(48:Int)≤(c.toNat:Int)∨((48:Int)≤(c.toNat:Int)∧¬(c.toNat:Int)≤57):=by omega
     by_cases m:c=110
     ·subst m;simp only[Bool.true_eq_false,false_and,if_false,true_and,hd,and_self,if_true]at hL;have g:=hid hL;clear hL HL hc nd hd;go_wp2_with(first|rw[HK.out]);(try rw[HK.out]);refine(bd_text w.heap.size w.heap.size ps [10] wr (by omega) (by simp) (fun p hp=>by have:=a.out p hp;omega) o.out HB.out).mono ?_;rintro z w5 ⟨rfl,h5,f5⟩;have H5:=hid h5;have F5:=hid (FR.out.abv f5);clear h5 f5;go_wp2;go_roundw
      case rel=>exact⟨k+1,false,pushT ps [10],by go_num,by omega,rfl,H5.out,g.out,F5.out,(Zaw (by simp) f a.out).1,(Zaw (by simp) f a.out).2⟩
      case measure=>simp[intOf];omega
     ·have M:((c.toNat:Int)==110)=false:=Zn (b:=110) m;simp only[Bool.true_eq_false,false_and,if_false,true_and,hd,m]at hL;have g:=hid hL;clear hL HL m hc hd;rcases nd with n1|⟨n1,n2⟩
      ·skip
       have D:∀W,(Instr.slice 9 (.string ⟨l.toArray⟩) (some (.int .i64 (k:Int))) (some (.int .i64 ((k:Int)+1))) none).run Tryz.prog W=.ok (.string ⟨[c].toArray⟩) W:=fun W=>by
        have:=ZbH (P:=Tryz.prog) (t:=9) l Tryz.underlying9 u rfl rfl W;rw[HK.out]at this;exact this
       go_wp2_with(first|rw[HK.out]);(try rw[HK.out]);refine(bd_text w.heap.size w.heap.size ps [c] wr (by omega) (by simp) (fun p hp=>by have:=a.out p hp;omega) o.out HB.out).mono ?_;rintro z w5 ⟨rfl,h5,f5⟩;have H5:=hid h5;have F5:=hid (FR.out.abv f5);clear h5 f5;go_wp2;go_roundw
       case rel=>exact⟨k+1,false,pushT ps [c],by go_num,by omega,rfl,H5.out,g.out,F5.out,(Zaw (by simp) f a.out).1,(Zaw (by simp) f a.out).2⟩
       case measure=>simp[intOf];omega
      ·skip
       have D:∀W,(Instr.slice 9 (.string ⟨l.toArray⟩) (some (.int .i64 (k:Int))) (some (.int .i64 ((k:Int)+1))) none).run Tryz.prog W=.ok (.string ⟨[c].toArray⟩) W:=fun W=>by
        have:=ZbH (P:=Tryz.prog) (t:=9) l Tryz.underlying9 u rfl rfl W;rw[HK.out]at this;exact this
       go_wp2_with(first|rw[HK.out]);(try rw[HK.out]);refine(bd_text w.heap.size w.heap.size ps [c] wr (by omega) (by simp) (fun p hp=>by have:=a.out p hp;omega) o.out HB.out).mono ?_;rintro z w5 ⟨rfl,h5,f5⟩;have H5:=hid h5;have F5:=hid (FR.out.abv f5);clear h5 f5;go_wp2;go_roundw
       case rel=>exact⟨k+1,false,pushT ps [c],by go_num,by omega,rfl,H5.out,g.out,F5.out,(Zaw (by simp) f a.out).1,(Zaw (by simp) f a.out).2⟩
       case measure=>simp[intOf];omega
  ·obtain rfl:k=l.length:=by omega
   have hL:=HL.out;rw[List.drop_length,Zao]at hL;cases e with
   |true=>
    simp only[if_true]at hL;injection hL with e1 e2;subst e1;subst e2;go_wp2;go_ret2;exact⟨.slice none 0 0,rfl,World.ownsRow_nil _ _ _ _,fun k h=>(by cases h),FR.out⟩
   |false=>
    simp only[Bool.false_eq_true,if_false]at hL;injection hL with e1 e2;subst e1;subst e2;obtain⟨v,b1,b2,b3,b4⟩:=HB.out;obtain⟨av,cv,rfl⟩:=Zb b2;have rb:=Zay (cell_at (j:=0) b1 rfl);have B2:=hid b2;have B4:=hid b4;clear b1 b2 b4;go_wp2;go_ret2;exact⟨_,rfl,B2.out,fun k h=>(B4.out k h).2,FR.out⟩
theorem Zk8(b:Nat)(l:List UInt8)(x:Bool)(s:AdS)(S:Nat→Prop)(w:World)(h:CRd b l x s S w):
 Calls Tryz.prog 154 #[.pointer (some ⟨b,0,none⟩)] w fun r w'=>r=.returned (.func (.func (if x then 178 else 179)) #[] #[])∧Fr nob w w':=by
 obtain⟨mv,h⟩:=h;have rr:=Zd h.blk;clear h;cases x with
 |true=>
  go_enter Tryz.func154,Tryz.ntmps154;go_wp2;go_ret;exact⟨rfl,Fr.refl _ _⟩
 |false=>
  go_enter Tryz.func154,Tryz.ntmps154;go_wp2;go_ret;exact⟨rfl,Fr.refl _ _⟩
theorem ZgM(t:List UInt8)(x:Bool)(w:World)(ht:t.length≤100000)(hE:Env w):Calls Tryz.prog (if x then 178 else 179) #[.string ⟨t.toArray⟩] w (EreAnsO (Zac prg x t) w):=by
 cases x with
 |true=>exact ZeI t w ht hE
 |false=>
  rw[ZfM];refine(ZeE t w ht hE).mono ?_;intro e w' h;unfold BreAnsO at h;unfold EreAnsO;refine⟨h.1,?_⟩;have h2:=h.2;cases hp:Zey prg t with
  |inl z=>rw[hp]at h2;exact h2
  |inr z=>rw[hp]at h2;obtain⟨i,y,mv,rfl,h3⟩:=h2;exact⟨_,mv,rfl,h3⟩
def ZqD(b:Nat)(l:List UInt8)(x:Bool)(S O:Nat→Prop)(w:World)(R:(List UInt8×Nd)×AdS)(r:Ending)(w':World):Prop:=
 ∃u S',r=.returned (.tuple #[.string ⟨R.1.1.toArray⟩,u])∧RN (SO S' O) w' R.1.2 u∧CRd b l x R.2 S' w'∧Stp S w S' w'
theorem ZmL(b:Nat)(l:List UInt8)(d:UInt8)(x:Bool)(s:AdS)(S O:Nat→Prop)(w:World)(hl:l.length≤99000)(ha:s.at_≤l.length)(hm:s.marks.length≤100000)(hS:∀k,S k→k<w.heap.size)(hO:∀k,O k→k<w.heap.size)
 (W0:World) (hE:Env W0) (hW:Fr nob W0 w) (hSW:∀k,S k→W0.heap.size≤k) (h:CRd b l x s S w):
 Calls Tryz.prog 119 #[.pointer (some ⟨b,0,none⟩),.int .u8 (d.toNat:Int)] w (ZqD b l x S O w (Zav x l d s)):=by
 have t:=hid (Zck b l d x true s S w hl ha h);have a4:=ZaW (l:=l) d true ha;have f:(Zr l d true s).2.marks=s.marks:=by unfold Zr;split;rfl;unfold ZV;split<;>rfl
 have N:(Zr l d true s).1.length≤99000:=by
  unfold Zr;split
  ·simp
  ·have:=ZdC l d true (l.length+1) s.at_ [];simp only[List.length_nil]at this;simp only;omega
 unfold Zav;simp only;obtain⟨p0,ms,e0⟩:=s;obtain⟨mv,h⟩:=h;have rr:=Zd h.blk;have H:=hid h;simp only at ha hm rr f⊢;obtain⟨B,hB⟩:∃B,Zr l d true ⟨p0,ms,e0⟩=B:=⟨_,rfl⟩;obtain⟨T,s1⟩:=B;rw[hB]at t a4 f N⊢;obtain⟨p1,C,e1⟩:=s1;simp only at t a4 f N⊢;subst f;have HS:=hid hS;have HO:=hid hO;have HE:=hid hE;have HW:=hid hW;have c3:=hid hSW;clear h hB hS hO hE hW hSW;have d6:w.heap.size=w.heap.size:=rfl;by_cases h1:e1=0
 ·subst h1;by_cases hT:T=[]
  ·subst hT;simp only[and_self,if_true];rw[Za9 rfl];simp only[ne_eq,(by decide:¬(2:Int)=0),not_false_eq_true,if_true];go_enter Tryz.func119,Tryz.ntmps119;go_wp2_with fail;refine t.out.mono ?_;rintro z w1 ⟨rfl,h1,c⟩;clear rr;have H1:=hid h1;have a:=hid c;clear h1 c;go_wp2_with fail;refine(cm_ok b l x _ S w1 H1.out).mono ?_;rintro z w2 ⟨rfl,f2⟩;go_wp2_with fail;refine(cm_fail b l x _ S 2 p0 w2 (H1.out.on f2)).mono ?_;rintro z w3 ⟨rfl,h3,c2⟩;rw[Za9 rfl]at h3;go_wp2_with fail;refine(cm_ok b l x _ S w3 h3).mono ?_;rintro z w4 ⟨rfl,f4⟩;go_wp2;go_ret2;exact⟨.nilIface,S,rfl,by rw[RN],h3.on f4,(a.out.trans (Stp.of f2)).trans (c2.trans (Stp.of f4))⟩
  ·simp only[hT,and_false,if_false,ne_eq,not_true_eq_false];have d2:T.isEmpty=false:=by cases T with|nil=>exact absurd rfl hT|cons _ _=>rfl
   have J:=hid (fun w' hE=>ZgM T x w' (by omega) hE);have Z:=hid (fun(n:Nd) (r:RxS) (h:Zac prg x T=.inr (n,r))=>parseD_marks h);have a6:=hid (fun(z:Int×Nat) (h:Zac prg x T=.inl z)=>parseD_err h);obtain⟨R,hR⟩:∃R,Zac prg x T=R:=⟨_,rfl⟩;rw[hR]at J Z a6⊢;obtain⟨fn,E⟩:∃fn,(if x then 178 else 179)=fn:=⟨_,rfl⟩;have a5:fn=178∨fn=179:=by rw[←E];cases x;exact .inr rfl;exact .inl rfl
   rw[E]at J;have c6:=hid (fun p m e w' h=>by have:=Zk8 b l x (⟨p,m,e⟩:AdS) S w' h;rw[E]at this;exact this);clear hR E hT;rcases a5 with rfl|rfl
   all_goals
    go_enter Tryz.func119,Tryz.ntmps119;go_wp2_with fail;refine t.out.mono ?_;rintro z w1 ⟨rfl,h1,c⟩;clear rr;have H1:=hid h1;have a:=hid c;clear h1 c;go_wp2_with fail;refine(cm_ok b l x _ S w1 H1.out).mono ?_;rintro z w2 ⟨rfl,f2⟩;go_wp2_with fail;refine(cm_ok b l x _ S w2 (H1.out.on f2)).mono ?_;rintro z w3 ⟨rfl,a2⟩;have f3:=f2.trans' a2;clear f2 a2;go_wp2_with fail;refine(c6.out _ _ _ w3 (H1.out.on f3)).mono ?_;rintro z w4 ⟨rfl,X⟩;have F4:=hid (f3.trans' X);clear f3 X;have b8:=hid (HE.out.on ((a.out.trans (Stp.of F4.out)).from HW.out c3.out));go_wp2_with fail;refine(J.out w4 b8.out).mono ?_;intro z w5 hz;cases R with
    |inl y=>
     obtain⟨y,py⟩:=y;obtain⟨f5,rfl⟩:=hz;have c5:¬y=0:=a6.out (y,py) rfl;have d4:(y !=0)=true:=by simpa using c5
     have K:=F4.out.trans' f5;go_wp2_with fail;refine(cm_fail b l x _ S y p0 w5 (H1.out.on K)).mono ?_;rintro z w6 ⟨rfl,h6,Y⟩;have H6:=hid h6;have c1:=hid (a.out.trans ((Stp.of K).trans Y));clear h6 Y K f5;go_wp2_with fail
     go_loopw [50] (fun i wr=>i=.int .i64 0∧wr=w6) (fun _ _=>0)
     case atStart=>exact⟨rfl,rfl⟩
     case round=>
      obtain⟨rfl,rfl⟩:=hrel;go_wp2;go_ret2;exact⟨.nilIface,S,rfl,by rw[RN],H6.out,c1.out⟩
    |inr y=>
     obtain⟨n,r⟩:=y;obtain⟨f5,v,d7,rfl,Q,q,M⟩:=hz;obtain⟨f,W,_⟩:=Z.out n r rfl;obtain⟨aP,cP,c4⟩:=Zb q;subst c4;have G:∀i (h:i<r.marks.length),r.marks[i].1≤T.length:=fun i h=>f _ (List.getElem_mem h);have U:r.marks.length≤99000:=Nat.le_trans W N;have h5:=H1.out.on (F4.out.trans' f5);have b9:=F4.out.size;have b2:=a.out.fr.size;obtain⟨RM,o⟩:∃RM,r.marks=RM:=⟨_,rfl⟩;have I:=q;have b1:=hid (show OwM w5 RM (.slice aP RM.length cP) by rw[←o];exact I);have a8:=hid (show∀i (h:i<RM.length),RM[i].1≤T.length by rw[←o];exact G);have c8:=hid Q;have H5:=hid h5;have d3:RM.length≤99000:=by rw[←o];exact U
     have d0:=hid (a.out.trans ((Stp.of F4.out).trans (Stp.of f5)));have F5:=hid f5;have SZ:=hid (show w.heap.size≤w4.heap.size by omega);have sh:=Q.shape;have D:(⟨p1,C++r.marks.map (shM p0),0⟩:AdS)=⟨p1,C++RM.map (shM p0),0⟩:=by rw[o]
     have HG:=hid D;have u:r.marks.length=RM.length:=by rw[o]
     rw[u];rw[u]at M;have b5:=hid M;clear f W G q I M Q h5 f5 o b9 b2 D U u;rcases sh with rfl|⟨iv,yv,rfl⟩
     all_goals
      go_wp2_with fail
      go_loopw [50] (fun i wr=>∃(k:Nat) (S':Nat→Prop),i=.int .i64 k∧k≤RM.length∧CRd b l x ⟨p1,C++(RM.take k).map (shM p0),0⟩ S' wr∧Stp S w5 S' wr) (fun i _=>RM.length-(intOf i).toNat)
      case atStart=>exact⟨0,S,rfl,Nat.zero_le _,by simpa using H5.out,Stp.refl _ _⟩
      case round=>
       obtain⟨k,S',rfl,hk,hA,a7⟩:=hrel;have HA:=hid hA;have A:=hid a7;clear hA a7;by_cases P:k<RM.length
       ·have b4:=a8.out k P;have F:=Zit p0 RM P;have q:OwM wr RM (.slice aP RM.length cP):=ownsRow_fr b1.out A.out.fr (fun j hj hx=>by have:=b5.out j hj;have:=HS.out j hx;have:=SZ.out;omega);obtain⟨g,d5,L,d1,b6,b0⟩:=q.get P;injection L with L hg2 hg3;subst L;subst hg3;obtain⟨m1,a9⟩:∃m1,RM[k].1=m1:=⟨_,rfl⟩;obtain⟨m2,a1⟩:∃m2,RM[k].2=m2:=⟨_,rfl⟩;rw[a9]at b6 b4 F;rw[a1]at b0 F;have d9:IntKind.i64.wrap ((p0:Int)+(m1:Int))=((p0+m1:Nat):Int):=by rw[IntWalk.i64_in _ (by omega)];omega
        have c0:=hid F;have c9:=hid (show(C++(RM.take k).map (shM p0)).length≤1000000 by rw[List.length_append,List.length_map,List.length_take];omega);have d8:(k:Int)<RM.length:=by omega
        clear q F a9 a1 hg2;go_wp2_with fail;refine(cm_mark b l x _ S' (p0+m1) m2 _ c9.out (HA.out.on ((Fr.refl _ _).alloc _))).mono ?_;rintro z w7 ⟨rfl,b3,h7,a0⟩;have H7:=hid h7;have b7:=hid (A.out.trans ((Stp.of ((Fr.refl nob wr).alloc _)).trans a0));clear h7 a0;go_wp2;go_roundw
        case rel=>exact⟨k+1,b3,by go_num,by omega,by rw[c0.out,←List.append_assoc];exact H7.out,b7.out⟩
        case measure=>simp[intOf];omega
       ·obtain rfl:k=RM.length:=by omega
        go_wp2;go_ret2;have a3:=HA.out;rw[List.take_of_length_le (Nat.le_refl _)]at a3;refine⟨_,S',rfl,?_,?_,d0.out.trans A.out⟩
        ·exact RN.keep A.out.fr (fun j _ hj=>by have:=HS.out j hj;have:=SZ.out;show j<_;omega) (fun j hj hx=>by have:=SZ.out;rcases hx with hx|hx;have h1:=A.out.old j hj hx;have:=HS.out j h1;(show j<_;omega);have:=HO.out j hx;(show j<_;omega)) _ _ c8.out
        ·show CRd b l x ⟨p1,C++r.marks.map (shM p0),0⟩ S' wr;rw[HG.out];exact a3
 ·have c7:¬(e1=0∧T=[]):=fun h=>h1 h.1;have V:(e1==0)=false:=by simpa using h1
  simp only[if_neg c7,ne_eq,h1,not_false_eq_true,if_true];go_enter Tryz.func119,Tryz.ntmps119;go_wp2_with fail;refine t.out.mono ?_;rintro z w1 ⟨rfl,h1,c⟩;clear rr;have H1:=hid h1;have a:=hid c;clear h1 c;go_wp2_with fail;refine(cm_ok b l x _ S w1 H1.out).mono ?_;rintro z w2 ⟨rfl,f2⟩;simp only[V];go_wp2_with fail;refine(cm_ok b l x _ S w2 (H1.out.on f2)).mono ?_;rintro z w3 ⟨rfl,f3⟩;simp only[V];go_wp2;go_ret2;exact⟨.nilIface,S,rfl,by rw[RN],(H1.out.on f2).on f3,a.out.trans ((Stp.of f2).trans (Stp.of f3))⟩
abbrev Zdn(s:SV)(u pv:Value):Array Value:= #[.string ⟨s.text.toArray⟩,u,pv,.int .i64 s.nth,.bool s.all,.bool s.print,.string ⟨s.file.toArray⟩]
theorem ZG{w:World}{b:Nat}{v0 v1 v2 v3 v4 v5 v6:Value}{T:TypeId}(h:w.heap[b]? =some (.cells #[v0,v1,v2,v3,v4,v5,v6] T (0,0))):∀w',Fr nob w w'→
 (w'.cell? ⟨b,0,none⟩=some v0∧w'.cell? ⟨b,1,none⟩=some v1∧w'.cell? ⟨b,2,none⟩=some v2∧w'.cell? ⟨b,3,none⟩=some v3∧w'.cell? ⟨b,4,none⟩=some v4∧w'.cell? ⟨b,5,none⟩=some v5∧w'.cell? ⟨b,6,none⟩=some v6)∧
 (w'.frozen? ⟨b,0,none⟩=false∧w'.frozen? ⟨b,1,none⟩=false∧w'.frozen? ⟨b,2,none⟩=false∧w'.frozen? ⟨b,3,none⟩=false∧w'.frozen? ⟨b,4,none⟩=false∧w'.frozen? ⟨b,5,none⟩=false∧w'.frozen? ⟨b,6,none⟩=false):=fun _ f=>by
 have h':=f.heap h (fun x=>x);exact⟨⟨cell_at h' rfl,cell_at h' rfl,cell_at h' rfl,cell_at h' rfl,cell_at h' rfl,cell_at h' rfl,cell_at h' rfl⟩,unfrozen_at h' _,unfrozen_at h' _,unfrozen_at h' _,unfrozen_at h' _,unfrozen_at h' _,unfrozen_at h' _,unfrozen_at h' _⟩
def Zfs(b g:Nat)(l:List UInt8)(x:Bool)(S:Nat→Prop)(u pv:Value)(w:World)(sub:SV)(s:AdS)(w':World):Prop:=
 w'.heap[g]? =some (.cells (Zdn sub u pv) 33 (0,0))∧CRd b l x s S w'∧Stp (GS S g) w (GS S g) w'
section
variable {b g:Nat} {l:List UInt8} {x:Bool} {S:Nat→Prop} {s:AdS} {w w':World}
theorem CRd.setg(h:CRd b l x s S w)(hg:¬S g)(j:Nat)(v:Value):CRd b l x s S (w.setCell ⟨g,j,none⟩ v):=by
 obtain⟨mv,h⟩:=h;exact⟨mv,h.keep (X:=fun k=>k=g) ((Fr.refl (fun k=>k=g) w).setCell (p:=⟨g,j,none⟩) (fun _=>rfl) v) (fun e=>hg (e▸h.me)) (fun k hk e=>hg (e▸(h.nm k hk).2))⟩
theorem Stp.setg(j:Nat)(v:Value):Stp (GS S g) w (GS S g) (w.setCell ⟨g,j,none⟩ v):=
 ⟨(Fr.refl (GS S g) w).setCell (p:=⟨g,j,none⟩) (fun _=>.inr rfl) v,fun _ _ x=>x,fun hl k hk=>by have:=hl k hk;simpa[World.setCell]using this⟩
end
section
variable (b g:Nat) (l:List UInt8) (x:Bool) (S:Nat→Prop) (u pv:Value)
theorem Zk9(sub:SV)(s:AdS)(w:World)(hl:l.length≤99000)(ha:s.at_≤l.length)(hS:∀k,S k→k<w.heap.size)(hgS:¬S g)(hg:w.heap[g]? =some (.cells (Zdn sub u pv) 33 (0,0)))(h:CRd b l x s S w)(c1:ZI l s [103]=true)(hf:sub.all=true):
 Calls Tryz.prog 123 #[.pointer (some ⟨b,0,none⟩),.pointer (some ⟨g,0,none⟩)] w fun r w'=>r=.returned (.bool (((failC (s.to (s.at_+1)) 15 s.at_)).e==0))∧Zfs b g l x S u pv w {sub with all:=true} (failC (s.to (s.at_+1)) 15 s.at_) w':=by
 have H:=hid h;have HG:=hid hg;have HX:=hid (fun t w' (f:Fr nob w w')=>ZaI b l x s S t w' (by omega) (h.on f));obtain⟨mv,hm⟩:=h;have rr:=Zd hm.blk;have rg:=ZG hg;have o:=lt_heap hg;have i:g≠b:=fun e=>hgS (by rw[e];exact hm.me);obtain⟨p0,ms,e0⟩:=s;obtain⟨tx,tr,pt,n,al,pr,fi⟩:=sub;simp only at ha rr rg;have HM:=hid hm;clear hm hg;simp only at hf;subst hf;simp only[AdS.to];go_enter Tryz.func123,Tryz.ntmps123;go_wp2_with fail;refine(HX.out [103] _ (Fr.refl _ _)).mono ?_;rintro z w1 ⟨rfl,d⟩;have f1:=d;clear d;rw[c1];have g1:=f1.heap HG.out (fun x=>x);have g2:(w1.setCell ⟨g,4,none⟩ (.bool true)).heap[g]? =some (.cells #[.string ⟨tx.toArray⟩,u,pv,.int .i64 n,.bool true,.bool pr,.string ⟨fi.toArray⟩] 33 (0,0)):=Za g1 4 _;have m1:=(HM.out.on f1);have m2:=m1.keep (X:=fun k=>k=g) ((Fr.refl (fun k=>k=g) w1).setCell (p:=⟨g,4,none⟩) (fun _=>rfl) (.bool true)) (fun e=>i e.symm) (fun k hk e=>hgS (e▸(m1.nm k hk).2))
 have m3:=m2.turned 1 (.int .i64 ((p0:Int)+1)) ⟨p0+1,ms,e0⟩ (by simp) rfl;have g3:=Zc (p:=⟨b,1,none⟩) g2 i (.int .i64 ((p0:Int)+1));have st:Stp (GS S g) w (GS S g) _:=((Stp.of f1).trans (Stp.setg (S:=S) (g:=g) 4 (.bool true))).trans (Stp.gs (m2.stp 1 (.int .i64 ((p0:Int)+1))) (lt_heap g2));have a1:=Zd m1.blk _ (Fr.refl _ _);have a2:=Zd m2.blk _ (Fr.refl _ _);have b1:=ZG g1 _ (Fr.refl _ _);obtain⟨wZ,a⟩:∃wZ,wZ=(w1.setCell ⟨g,4,none⟩ (.bool true)).setCell ⟨b,1,none⟩ (.int .i64 ((p0:Int)+1)):=⟨_,rfl⟩;rw[←a]at m3 g3 st;have j:=hid a;have G3:=hid g3;have ST:=hid st;have M3:=hid (show CRd b l x ⟨p0+1,ms,e0⟩ S wZ from⟨mv,m3⟩);clear g1 g2 g3 m1 m2 m3 st a f1;go_wp2_with(rw[←j.out]);refine(cm_fail b l x _ S 15 p0 wZ M3.out).mono ?_;rintro z wY ⟨rfl,hY,c⟩;have gY:=c.fr.heap G3.out hgS;have HY:=hid hY;have GY:=hid gY;have m:=hid (ST.out.trans (Stp.gs c (lt_heap G3.out)))
 clear hY gY c rr rg a1 a2 b1;go_wp2_with fail;refine(cm_ok b l x _ S wY HY.out).mono ?_;rintro z wX ⟨rfl,fX⟩;go_wp2;go_ret;exact⟨rfl,fX.heap GY.out (fun x=>x),HY.out.on fX,m.out.trans (Stp.of fX)⟩
theorem Zju(sub:SV)(s:AdS)(w:World)(hl:l.length≤99000)(ha:s.at_≤l.length)(hS:∀k,S k→k<w.heap.size)(hgS:¬S g)(hg:w.heap[g]? =some (.cells (Zdn sub u pv) 33 (0,0)))(h:CRd b l x s S w)(c1:ZI l s [103]=true)(hf:sub.all=false):
 Calls Tryz.prog 123 #[.pointer (some ⟨b,0,none⟩),.pointer (some ⟨g,0,none⟩)] w fun r w'=>r=.returned (.bool (((s.to (s.at_+1))).e==0))∧Zfs b g l x S u pv w {sub with all:=true} (s.to (s.at_+1)) w':=by
 have H:=hid h;have HG:=hid hg;have HX:=hid (fun t w' (f:Fr nob w w')=>ZaI b l x s S t w' (by omega) (h.on f));obtain⟨mv,hm⟩:=h;have rr:=Zd hm.blk;have rg:=ZG hg;have m:=lt_heap hg;have d:g≠b:=fun e=>hgS (by rw[e];exact hm.me);obtain⟨p0,ms,e0⟩:=s;obtain⟨tx,tr,pt,j,al,pr,fi⟩:=sub;simp only at ha rr rg;have HM:=hid hm;clear hm hg;simp only at hf;subst hf;simp only[AdS.to];go_enter Tryz.func123,Tryz.ntmps123;go_wp2_with fail;refine(HX.out [103] _ (Fr.refl _ _)).mono ?_;rintro z w1 ⟨rfl,c⟩;have f1:=c;clear c;rw[c1];have g1:=f1.heap HG.out (fun x=>x);have g2:(w1.setCell ⟨g,4,none⟩ (.bool true)).heap[g]? =some (.cells #[.string ⟨tx.toArray⟩,u,pv,.int .i64 j,.bool true,.bool pr,.string ⟨fi.toArray⟩] 33 (0,0)):=Za g1 4 _;have m1:=(HM.out.on f1);have m2:=m1.keep (X:=fun k=>k=g) ((Fr.refl (fun k=>k=g) w1).setCell (p:=⟨g,4,none⟩) (fun _=>rfl) (.bool true)) (fun e=>d e.symm) (fun k hk e=>hgS (e▸(m1.nm k hk).2))
 have m3:=m2.turned 1 (.int .i64 ((p0:Int)+1)) ⟨p0+1,ms,e0⟩ (by simp) rfl;have g3:=Zc (p:=⟨b,1,none⟩) g2 d (.int .i64 ((p0:Int)+1));have st:Stp (GS S g) w (GS S g) _:=((Stp.of f1).trans (Stp.setg (S:=S) (g:=g) 4 (.bool true))).trans (Stp.gs (m2.stp 1 (.int .i64 ((p0:Int)+1))) (lt_heap g2));have a1:=Zd m1.blk _ (Fr.refl _ _);have a2:=Zd m2.blk _ (Fr.refl _ _);have b1:=ZG g1 _ (Fr.refl _ _);obtain⟨wZ,a⟩:∃wZ,wZ=(w1.setCell ⟨g,4,none⟩ (.bool true)).setCell ⟨b,1,none⟩ (.int .i64 ((p0:Int)+1)):=⟨_,rfl⟩;rw[←a]at m3 g3 st;have i:=hid a;have G3:=hid g3;have ST:=hid st;have M3:=hid (show CRd b l x ⟨p0+1,ms,e0⟩ S wZ from⟨mv,m3⟩);clear g1 g2 g3 m1 m2 m3 st a f1;go_wp2_with(rw[←i.out]);refine(cm_ok b l x _ S wZ M3.out).mono ?_;rintro z wX ⟨rfl,fX⟩;clear rr rg a1 a2 b1;go_wp2;go_ret;exact⟨rfl,fX.heap G3.out (fun x=>x),M3.out.on fX,ST.out.trans (Stp.of fX)⟩
theorem Zla(sub:SV)(s:AdS)(w:World)(hl:l.length≤99000)(ha:s.at_≤l.length)(hS:∀k,S k→k<w.heap.size)(hgS:¬S g)(hg:w.heap[g]? =some (.cells (Zdn sub u pv) 33 (0,0)))(h:CRd b l x s S w)(c1:ZI l s [103]=false)(c2:ZI l s [112]=true)(hf:sub.print=true):
 Calls Tryz.prog 123 #[.pointer (some ⟨b,0,none⟩),.pointer (some ⟨g,0,none⟩)] w fun r w'=>r=.returned (.bool (((failC (s.to (s.at_+1)) 15 s.at_)).e==0))∧Zfs b g l x S u pv w {sub with print:=true} (failC (s.to (s.at_+1)) 15 s.at_) w':=by
 have H:=hid h;have HG:=hid hg;have HX:=hid (fun t w' (f:Fr nob w w')=>ZaI b l x s S t w' (by omega) (h.on f));obtain⟨mv,hm⟩:=h;have rr:=Zd hm.blk;have rg:=ZG hg;have q:=lt_heap hg;have j:g≠b:=fun e=>hgS (by rw[e];exact hm.me);obtain⟨p0,ms,e0⟩:=s;obtain⟨tx,tr,pt,o,al,pr,fi⟩:=sub;simp only at ha rr rg;have HM:=hid hm;clear hm hg;simp only at hf;subst hf;simp only[AdS.to];go_enter Tryz.func123,Tryz.ntmps123;go_wp2_with fail;refine(HX.out [103] _ (Fr.refl _ _)).mono ?_;rintro z w1 ⟨rfl,i⟩;have f1:=i;clear i;rw[c1];go_wp2_with fail;refine(HX.out [112] _ f1).mono ?_;rintro z w2 ⟨rfl,d⟩;have f2:=f1.trans' d;clear f1 d;rw[c2];have g1:=f2.heap HG.out (fun x=>x);have g2:(w2.setCell ⟨g,5,none⟩ (.bool true)).heap[g]? =some (.cells #[.string ⟨tx.toArray⟩,u,pv,.int .i64 o,.bool al,.bool true,.string ⟨fi.toArray⟩] 33 (0,0)):=Za g1 5 _;have m1:=(HM.out.on f2);have m2:=m1.keep (X:=fun k=>k=g) ((Fr.refl (fun k=>k=g) w2).setCell (p:=⟨g,5,none⟩) (fun _=>rfl) (.bool true)) (fun e=>j e.symm) (fun k hk e=>hgS (e▸(m1.nm k hk).2))
 have m3:=m2.turned 1 (.int .i64 ((p0:Int)+1)) ⟨p0+1,ms,e0⟩ (by simp) rfl;have g3:=Zc (p:=⟨b,1,none⟩) g2 j (.int .i64 ((p0:Int)+1));have st:Stp (GS S g) w (GS S g) _:=((Stp.of f2).trans (Stp.setg (S:=S) (g:=g) 5 (.bool true))).trans (Stp.gs (m2.stp 1 (.int .i64 ((p0:Int)+1))) (lt_heap g2));have a1:=Zd m1.blk _ (Fr.refl _ _);have a2:=Zd m2.blk _ (Fr.refl _ _);have b1:=ZG g1 _ (Fr.refl _ _);obtain⟨wZ,a⟩:∃wZ,wZ=(w2.setCell ⟨g,5,none⟩ (.bool true)).setCell ⟨b,1,none⟩ (.int .i64 ((p0:Int)+1)):=⟨_,rfl⟩;rw[←a]at m3 g3 st;have m:=hid a;have G3:=hid g3;have ST:=hid st;have M3:=hid (show CRd b l x ⟨p0+1,ms,e0⟩ S wZ from⟨mv,m3⟩);clear g1 g2 g3 m1 m2 m3 st a f2;go_wp2_with(rw[←m.out]);refine(cm_fail b l x _ S 15 p0 wZ M3.out).mono ?_;rintro z wY ⟨rfl,hY,c⟩;have gY:=c.fr.heap G3.out hgS;have HY:=hid hY;have GY:=hid gY;have n:=hid (ST.out.trans (Stp.gs c (lt_heap G3.out)))
 clear hY gY c rr rg a1 a2 b1;go_wp2_with fail;refine(cm_ok b l x _ S wY HY.out).mono ?_;rintro z wX ⟨rfl,fX⟩;go_wp2;go_ret;exact⟨rfl,fX.heap GY.out (fun x=>x),HY.out.on fX,n.out.trans (Stp.of fX)⟩
theorem Zjv(sub:SV)(s:AdS)(w:World)(hl:l.length≤99000)(ha:s.at_≤l.length)(hS:∀k,S k→k<w.heap.size)(hgS:¬S g)(hg:w.heap[g]? =some (.cells (Zdn sub u pv) 33 (0,0)))(h:CRd b l x s S w)(c1:ZI l s [103]=false)(c2:ZI l s [112]=true)(hf:sub.print=false):
 Calls Tryz.prog 123 #[.pointer (some ⟨b,0,none⟩),.pointer (some ⟨g,0,none⟩)] w fun r w'=>r=.returned (.bool (((s.to (s.at_+1))).e==0))∧Zfs b g l x S u pv w {sub with print:=true} (s.to (s.at_+1)) w':=by
 have H:=hid h;have HG:=hid hg;have HX:=hid (fun t w' (f:Fr nob w w')=>ZaI b l x s S t w' (by omega) (h.on f));obtain⟨mv,hm⟩:=h;have rr:=Zd hm.blk;have rg:=ZG hg;have n:=lt_heap hg;have i:g≠b:=fun e=>hgS (by rw[e];exact hm.me);obtain⟨p0,ms,e0⟩:=s;obtain⟨tx,tr,pt,m,al,pr,fi⟩:=sub;simp only at ha rr rg;have HM:=hid hm;clear hm hg;simp only at hf;subst hf;simp only[AdS.to];go_enter Tryz.func123,Tryz.ntmps123;go_wp2_with fail;refine(HX.out [103] _ (Fr.refl _ _)).mono ?_;rintro z w1 ⟨rfl,d⟩;have f1:=d;clear d;rw[c1];go_wp2_with fail;refine(HX.out [112] _ f1).mono ?_;rintro z w2 ⟨rfl,c⟩;have f2:=f1.trans' c;clear f1 c;rw[c2];have g1:=f2.heap HG.out (fun x=>x);have g2:(w2.setCell ⟨g,5,none⟩ (.bool true)).heap[g]? =some (.cells #[.string ⟨tx.toArray⟩,u,pv,.int .i64 m,.bool al,.bool true,.string ⟨fi.toArray⟩] 33 (0,0)):=Za g1 5 _;have m1:=(HM.out.on f2);have m2:=m1.keep (X:=fun k=>k=g) ((Fr.refl (fun k=>k=g) w2).setCell (p:=⟨g,5,none⟩) (fun _=>rfl) (.bool true)) (fun e=>i e.symm) (fun k hk e=>hgS (e▸(m1.nm k hk).2))
 have m3:=m2.turned 1 (.int .i64 ((p0:Int)+1)) ⟨p0+1,ms,e0⟩ (by simp) rfl;have g3:=Zc (p:=⟨b,1,none⟩) g2 i (.int .i64 ((p0:Int)+1));have st:Stp (GS S g) w (GS S g) _:=((Stp.of f2).trans (Stp.setg (S:=S) (g:=g) 5 (.bool true))).trans (Stp.gs (m2.stp 1 (.int .i64 ((p0:Int)+1))) (lt_heap g2));have a1:=Zd m1.blk _ (Fr.refl _ _);have a2:=Zd m2.blk _ (Fr.refl _ _);have b1:=ZG g1 _ (Fr.refl _ _);obtain⟨wZ,a⟩:∃wZ,wZ=(w2.setCell ⟨g,5,none⟩ (.bool true)).setCell ⟨b,1,none⟩ (.int .i64 ((p0:Int)+1)):=⟨_,rfl⟩;rw[←a]at m3 g3 st;have j:=hid a;have G3:=hid g3;have ST:=hid st;have M3:=hid (show CRd b l x ⟨p0+1,ms,e0⟩ S wZ from⟨mv,m3⟩);clear g1 g2 g3 m1 m2 m3 st a f2;go_wp2_with(rw[←j.out]);refine(cm_ok b l x _ S wZ M3.out).mono ?_;rintro z wX ⟨rfl,fX⟩;clear rr rg a1 a2 b1;go_wp2;go_ret;exact⟨rfl,fX.heap G3.out (fun x=>x),M3.out.on fX,ST.out.trans (Stp.of fX)⟩
theorem Zjw(sub:SV)(s:AdS)(w:World)(hl:l.length≤99000)(ha:s.at_≤l.length)(hS:∀k,S k→k<w.heap.size)(hgS:¬S g)(hg:w.heap[g]? =some (.cells (Zdn sub u pv) 33 (0,0)))(h:CRd b l x s S w)(c1:ZI l s [103]=false)(c2:ZI l s [112]=false)(c3:ZI l s [48,49,50,51,52,53,54,55,56,57]=true)(hn:0<sub.nth):
 Calls Tryz.prog 123 #[.pointer (some ⟨b,0,none⟩),.pointer (some ⟨g,0,none⟩)] w fun r w'=>r=.returned (.bool ((failC s 15 s.at_).e==0))∧Zfs b g l x S u pv w {sub with nth:=((nm s.at_ (l.drop s.at_) 0 0).1:Nat)} (failC s 15 s.at_) w':=by
 have H:=hid h;have HG:=hid hg;have HX:=hid (fun t w' (f:Fr nob w w')=>ZaI b l x s S t w' (by omega) (h.on f));obtain⟨mv,hm⟩:=h;have rr:=Zd hm.blk;have rg:=ZG hg;have y:=lt_heap hg;have v:g≠b:=fun e=>hgS (by rw[e];exact hm.me);obtain⟨p0,ms,e0⟩:=s;obtain⟨tx,tr,pt,nth,al,pr,fi⟩:=sub;simp only at ha rr rg;have HM:=hid hm;clear hm hg;simp only at hn⊢;have HN:=hid (fun w'=>Zc4 l p0 w' (by omega) ha);obtain⟨NR,d⟩:∃NR,nm p0 (l.drop p0) 0 0=NR:=⟨_,rfl⟩;obtain⟨nn,nq,nz⟩:=NR;rw[d]at HN⊢;simp only at HN⊢;clear d;go_enter Tryz.func123,Tryz.ntmps123;go_wp2_with fail;refine(HX.out [103] _ (Fr.refl _ _)).mono ?_;rintro z w1 ⟨rfl,m⟩;have f1:=m;clear m;rw[c1];go_wp2_with fail;refine(HX.out [112] _ f1).mono ?_;rintro z w2 ⟨rfl,i⟩;have f2:=f1.trans' i;clear f1 i;rw[c2];go_wp2_with fail;refine(HX.out [48,49,50,51,52,53,54,55,56,57] _ f2).mono ?_;rintro z w3 ⟨rfl,n⟩;have f3:=f2.trans' n
 clear f2 n;rw[c3];go_wp2_with fail;refine(HN.out _).mono ?_;rintro z w4 ⟨rfl,j⟩;have f4:=f3.trans' j;clear f3 j;have g1:=f4.heap HG.out (fun x=>x);have b1:=ZG g1 _ (Fr.refl _ _);have g2:(w4.setCell ⟨g,3,none⟩ (.int .i64 (nn:Nat))).heap[g]? =some (.cells #[.string ⟨tx.toArray⟩,u,pv,.int .i64 (nn:Nat),.bool al,.bool pr,.string ⟨fi.toArray⟩] 33 (0,0)):=Za g1 3 _;have m1:=HM.out.on f4;have m2:=m1.keep (X:=fun k=>k=g) ((Fr.refl (fun k=>k=g) w4).setCell (p:=⟨g,3,none⟩) (fun _=>rfl) (.int .i64 (nn:Nat))) (fun e=>v e.symm) (fun k hk e=>hgS (e▸(m1.nm k hk).2));have st:Stp (GS S g) w (GS S g) _:=(Stp.of f4).trans (Stp.setg (S:=S) (g:=g) 3 (.int .i64 (nn:Nat)));obtain⟨wZ,a⟩:∃wZ,wZ=w4.setCell ⟨g,3,none⟩ (.int .i64 (nn:Nat)):=⟨_,rfl⟩;rw[←a]at m2 g2 st;have o:=hid a;have G3:=hid g2;have ST:=hid st;have M3:=hid (show CRd b l x ⟨p0,ms,e0⟩ S wZ from⟨mv,m2⟩);clear g1 g2 m1 m2 st a f4
 go_wp2_with(rw[←o.out]);refine(cm_fail b l x _ S 15 p0 wZ M3.out).mono ?_;rintro z wY ⟨rfl,hY,c⟩;have gY:=c.fr.heap G3.out hgS;have HY:=hid hY;have GY:=hid gY;have q:=hid (ST.out.trans (Stp.gs c (lt_heap G3.out)));clear hY gY c rr rg b1;go_wp2_with fail;refine(cm_ok b l x _ S wY HY.out).mono ?_;rintro z wX ⟨rfl,fX⟩;go_wp2;go_ret;exact⟨rfl,fX.heap GY.out (fun x=>x),HY.out.on fX,q.out.trans (Stp.of fX)⟩
theorem Zlb(sub:SV)(s:AdS)(w:World)(hl:l.length≤99000)(ha:s.at_≤l.length)(hS:∀k,S k→k<w.heap.size)(hgS:¬S g)(hg:w.heap[g]? =some (.cells (Zdn sub u pv) 33 (0,0)))(h:CRd b l x s S w)(c1:ZI l s [103]=false)(c2:ZI l s [112]=false)(c3:ZI l s [48,49,50,51,52,53,54,55,56,57]=true)(hn:¬0<sub.nth):
 Calls Tryz.prog 123 #[.pointer (some ⟨b,0,none⟩),.pointer (some ⟨g,0,none⟩)] w fun r w'=>r=.returned (.bool ((if s.e=0∧(ZV s (nm s.at_ (l.drop s.at_) 0 0).2.1 (nm s.at_ (l.drop s.at_) 0 0).2.2).e=0∧(nm s.at_ (l.drop s.at_) 0 0).1=0 then failC (ZV s (nm s.at_ (l.drop s.at_) 0 0).2.1 (nm s.at_ (l.drop s.at_) 0 0).2.2) 1 s.at_ else(ZV s (nm s.at_ (l.drop s.at_) 0 0).2.1 (nm s.at_ (l.drop s.at_) 0 0).2.2)).e==0))∧Zfs b g l x S u pv w {sub with nth:=((nm s.at_ (l.drop s.at_) 0 0).1:Nat)} (if s.e=0∧(ZV s (nm s.at_ (l.drop s.at_) 0 0).2.1 (nm s.at_ (l.drop s.at_) 0 0).2.2).e=0∧(nm s.at_ (l.drop s.at_) 0 0).1=0 then failC (ZV s (nm s.at_ (l.drop s.at_) 0 0).2.1 (nm s.at_ (l.drop s.at_) 0 0).2.2) 1 s.at_ else(ZV s (nm s.at_ (l.drop s.at_) 0 0).2.1 (nm s.at_ (l.drop s.at_) 0 0).2.2)) w':=by
 have H:=hid h;have HG:=hid hg;have HX:=hid (fun t w' (f:Fr nob w w')=>ZaI b l x s S t w' (by omega) (h.on f));obtain⟨mv,hm⟩:=h;have rr:=Zd hm.blk;have rg:=ZG hg;have I:=lt_heap hg;have K:g≠b:=fun e=>hgS (by rw[e];exact hm.me);obtain⟨p0,ms,e0⟩:=s;obtain⟨tx,tr,pt,nth,al,pr,fi⟩:=sub;simp only at ha rr rg;have HM:=hid hm;clear hm hg;simp only at hn⊢;have L:decide ((0:Int)<nth)=false:=decide_eq_false hn;have HN:=hid (fun w'=>Zc4 l p0 w' (by omega) ha);obtain⟨NR,D⟩:∃NR,nm p0 (l.drop p0) 0 0=NR:=⟨_,rfl⟩;obtain⟨nn,nq,nz⟩:=NR;rw[D]at HN⊢;simp only at HN⊢;clear D;obtain⟨q,hq⟩:∃q,(e0==0&&(ZV ⟨p0,ms,e0⟩ nq nz).e==0)=q:=⟨_,rfl⟩;have v:=hid (fun w' h=>by have:=cm_moved b l x ⟨p0,ms,e0⟩ S nz nq w' h;simp only at this;rw[hq]at this;exact this);obtain⟨s1,E⟩:∃s1,ZV ⟨p0,ms,e0⟩ nq nz=s1:=⟨_,rfl⟩;simp only[E]at v hq⊢;have o:(q=true∧nn=0∧(if e0=0∧s1.e=0∧nn=0 then failC s1 1 p0 else s1)=failC s1 1 p0)∨(¬(q=true∧nn=0)∧(if e0=0∧s1.e=0∧nn=0 then failC s1 1 p0 else s1)=s1):=by
  by_cases hc:e0=0∧s1.e=0∧nn=0
  ·refine .inl ⟨by rw[←hq,hc.1,hc.2.1];rfl,hc.2.2,if_pos hc⟩
  ·refine .inr ⟨fun h=>hc ?_,if_neg hc⟩;rw[←hq]at h;simp only[Bool.and_eq_true,beq_iff_eq]at h;exact⟨h.1.1,h.1.2,h.2⟩
 clear hq E;rcases o with⟨rfl,rfl,n⟩|⟨F,n⟩
 ·rw[n];rw[show((0:Nat):Int)=0 from rfl]at HN;go_enter Tryz.func123,Tryz.ntmps123;go_wp2_with fail;refine(HX.out [103] _ (Fr.refl _ _)).mono ?_;rintro z w1 ⟨rfl,d⟩;have f1:=d;clear d;rw[c1];go_wp2_with fail;refine(HX.out [112] _ f1).mono ?_;rintro z w2 ⟨rfl,j⟩;have f2:=f1.trans' j;clear f1 j;rw[c2];go_wp2_with fail;refine(HX.out [48,49,50,51,52,53,54,55,56,57] _ f2).mono ?_;rintro z w3 ⟨rfl,m⟩;have f3:=f2.trans' m;clear f2 m;rw[c3];go_wp2_with fail;refine(HN.out _).mono ?_;rintro z w4 ⟨rfl,i⟩;have f4:=f3.trans' i;clear f3 i;go_wp2_with fail;refine(v.out w4 ⟨mv,HM.out.on f4⟩).mono ?_;rintro z w5 ⟨rfl,h5,c⟩;have g5:=c.fr.heap (f4.heap HG.out (fun x=>x)) hgS;have H5:=hid h5;have G5:=hid g5;have C:=hid ((Stp.of f4:Stp (GS S g) w (GS S g) w4).trans (Stp.gs c (lt_heap (f4.heap HG.out (fun x=>x)))));clear h5 g5 c f4 rr;go_wp2_with fail;refine(cm_fail b l x _ S 1 p0 w5 H5.out).mono ?_
  rintro z w6 ⟨rfl,h6,p⟩;have g6:=p.fr.heap G5.out hgS;have A:=hid h6;have GX:=hid g6;have B:=hid (C.out.trans (Stp.gs p (lt_heap G5.out)));clear h6 g6 p;have b1:=ZG GX.out _ (Fr.refl _ _);have g2:(w6.setCell ⟨g,3,none⟩ (.int .i64 0)).heap[g]? =some (.cells #[.string ⟨tx.toArray⟩,u,pv,.int .i64 0,.bool al,.bool pr,.string ⟨fi.toArray⟩] 33 (0,0)):=Za GX.out 3 _;have m2:=A.out.setg hgS 3 (.int .i64 0);have st:Stp (GS S g) w (GS S g) _:=B.out.trans (Stp.setg (S:=S) (g:=g) 3 (.int .i64 0));obtain⟨wZ,a⟩:∃wZ,wZ=w6.setCell ⟨g,3,none⟩ (.int .i64 0):=⟨_,rfl⟩;rw[←a]at m2 g2 st;have y:=hid a;have G3:=hid g2;have ST:=hid st;have M3:=hid m2;clear g2 m2 st a;go_wp2_with(rw[←y.out]);refine(cm_ok b l x _ S wZ M3.out).mono ?_;rintro z wX ⟨rfl,fX⟩;clear rg b1;go_wp2;go_ret;exact⟨rfl,fX.heap G3.out (fun x=>x),M3.out.on fX,ST.out.trans (Stp.of fX)⟩
 ·rw[n];have G:q=false∨(q=true∧((nn:Int)==0)=false):=by
   cases q with
   |false=>exact .inl rfl
   |true=>exact .inr ⟨rfl,by have:¬nn=0:=fun h=>F ⟨rfl,h⟩;simp;omega⟩
  clear F;rcases G with rfl|⟨rfl,J⟩
  all_goals
   go_enter Tryz.func123,Tryz.ntmps123;go_wp2_with fail;refine(HX.out [103] _ (Fr.refl _ _)).mono ?_;rintro z w1 ⟨rfl,d⟩;have f1:=d;clear d;rw[c1];go_wp2_with fail;refine(HX.out [112] _ f1).mono ?_;rintro z w2 ⟨rfl,j⟩;have f2:=f1.trans' j;clear f1 j;rw[c2];go_wp2_with fail;refine(HX.out [48,49,50,51,52,53,54,55,56,57] _ f2).mono ?_;rintro z w3 ⟨rfl,m⟩;have f3:=f2.trans' m;clear f2 m;rw[c3];go_wp2_with fail;refine(HN.out _).mono ?_;rintro z w4 ⟨rfl,i⟩;have f4:=f3.trans' i;clear f3 i;go_wp2_with fail;refine(v.out w4 ⟨mv,HM.out.on f4⟩).mono ?_;rintro z w5 ⟨rfl,h5,c⟩;have g5:=c.fr.heap (f4.heap HG.out (fun x=>x)) hgS;have H5:=hid h5;have G5:=hid g5;have C:=hid ((Stp.of f4:Stp (GS S g) w (GS S g) w4).trans (Stp.gs c (lt_heap (f4.heap HG.out (fun x=>x)))));clear h5 g5 c f4 rr;have A:=hid H5.out;have GX:=hid G5.out;have B:=hid C.out;have b1:=ZG GX.out _ (Fr.refl _ _)
   have g2:(w5.setCell ⟨g,3,none⟩ (.int .i64 (nn:Nat))).heap[g]? =some (.cells #[.string ⟨tx.toArray⟩,u,pv,.int .i64 (nn:Nat),.bool al,.bool pr,.string ⟨fi.toArray⟩] 33 (0,0)):=Za GX.out 3 _;have m2:=A.out.setg hgS 3 (.int .i64 (nn:Nat));have st:Stp (GS S g) w (GS S g) _:=B.out.trans (Stp.setg (S:=S) (g:=g) 3 (.int .i64 (nn:Nat)));obtain⟨wZ,a⟩:∃wZ,wZ=w5.setCell ⟨g,3,none⟩ (.int .i64 (nn:Nat)):=⟨_,rfl⟩;rw[←a]at m2 g2 st;have y:=hid a;have G3:=hid g2;have ST:=hid st;have M3:=hid m2;clear g2 m2 st a;go_wp2_with(rw[←y.out]);refine(cm_ok b l x _ S wZ M3.out).mono ?_;rintro z wX ⟨rfl,fX⟩;clear rg b1;go_wp2;go_ret;exact⟨rfl,fX.heap G3.out (fun x=>x),M3.out.on fX,ST.out.trans (Stp.of fX)⟩
theorem ZqY(sub:SV)(s:AdS)(w:World)(hl:l.length≤99000)(ha:s.at_≤l.length)(hS:∀k,S k→k<w.heap.size)(hgS:¬S g)(hg:w.heap[g]? =some (.cells (Zdn sub u pv) 33 (0,0)))(h:CRd b l x s S w)(c1:ZI l s [103]=false)(c2:ZI l s [112]=false)(c3:ZI l s [48,49,50,51,52,53,54,55,56,57]=false)(c4:ZI l s [119]=true):
 Calls Tryz.prog 123 #[.pointer (some ⟨b,0,none⟩),.pointer (some ⟨g,0,none⟩)] w fun r w'=>r=.returned (.bool false)∧Zfs b g l x S u pv w {sub with file:=(ZaR l (s.to (s.at_+1))).1} (ZaR l (s.to (s.at_+1))).2 w':=by
 have H:=hid h;have HG:=hid hg;have HX:=hid (fun t w' (f:Fr nob w w')=>ZaI b l x s S t w' (by omega) (h.on f));obtain⟨mv,hm⟩:=h;have rr:=Zd hm.blk;have rg:=ZG hg;have B:=lt_heap hg;have A:g≠b:=fun e=>hgS (by rw[e];exact hm.me);obtain⟨p0,ms,e0⟩:=s;obtain⟨tx,tr,pt,v,al,pr,fi⟩:=sub;simp only at ha rr rg;have HM:=hid hm;clear hm hg;have i:=Zbh c4;simp only[AdS.to]at i⊢;obtain⟨FR,d⟩:∃FR,ZaR l ⟨p0+1,ms,e0⟩=FR:=⟨_,rfl⟩;have HF:=hid (fun w' h=>by have:=ZhT b l x ⟨p0+1,ms,e0⟩ S w' hl i h;rw[d]at this;exact this);rw[d];obtain⟨ft,fs⟩:=FR;simp only at HF⊢;clear d;go_enter Tryz.func123,Tryz.ntmps123;go_wp2_with fail;refine(HX.out [103] _ (Fr.refl _ _)).mono ?_;rintro z w1 ⟨rfl,n⟩;have f1:=n;clear n;rw[c1];go_wp2_with fail;refine(HX.out [112] _ f1).mono ?_;rintro z w2 ⟨rfl,j⟩;have f2:=f1.trans' j;clear f1 j;rw[c2];go_wp2_with fail;refine(HX.out [48,49,50,51,52,53,54,55,56,57] _ f2).mono ?_
 rintro z w3 ⟨rfl,o⟩;have f3:=f2.trans' o;clear f2 o;rw[c3];go_wp2_with fail;refine(HX.out [119] _ f3).mono ?_;rintro z w4 ⟨rfl,m⟩;have f4:=f3.trans' m;clear f3 m;rw[c4];have m1:=HM.out.on f4;have m3:=m1.turned 1 (.int .i64 ((p0:Int)+1)) ⟨p0+1,ms,e0⟩ (by simp) rfl;have g1:=f4.heap HG.out (fun x=>x);have g3:=Zc (p:=⟨b,1,none⟩) g1 A (.int .i64 ((p0:Int)+1));have st:Stp (GS S g) w (GS S g) _:=(Stp.of f4).trans (Stp.gs (m1.stp 1 (.int .i64 ((p0:Int)+1))) (lt_heap g1));have a1:=Zd m1.blk _ (Fr.refl _ _);obtain⟨wZ,c⟩:∃wZ,wZ=w4.setCell ⟨b,1,none⟩ (.int .i64 ((p0:Int)+1)):=⟨_,rfl⟩;rw[←c]at m3 g3 st;have q:=hid c;have G3:=hid g3;have ST:=hid st;have M3:=hid (show CRd b l x ⟨p0+1,ms,e0⟩ S wZ from⟨mv,m3⟩);clear g1 g3 m1 m3 st c f4;go_wp2_with(rw[←q.out]);refine(HF.out wZ M3.out).mono ?_;rintro z w5 ⟨rfl,h5,a⟩;have g5:=a.fr.heap G3.out hgS;have b1:=ZG g5 _ (Fr.refl _ _)
 have g6:(w5.setCell ⟨g,6,none⟩ (.string ⟨ft.toArray⟩)).heap[g]? =some (.cells #[.string ⟨tx.toArray⟩,u,pv,.int .i64 v,.bool al,.bool pr,.string ⟨ft.toArray⟩] 33 (0,0)):=Za g5 6 _;have G6:=hid g6;have H6:=hid (h5.setg hgS 6 (.string ⟨ft.toArray⟩));have y:=hid ((ST.out.trans (Stp.gs a (lt_heap G3.out))).trans (Stp.setg (S:=S) (g:=g) 6 (.string ⟨ft.toArray⟩)));clear g5 g6 h5 a rr rg a1;go_wp2;go_ret;exact⟨rfl,G6.out,H6.out,y.out⟩
theorem Zor(sub:SV)(s:AdS)(w:World)(hl:l.length≤99000)(ha:s.at_≤l.length)(hS:∀k,S k→k<w.heap.size)(hgS:¬S g)(hg:w.heap[g]? =some (.cells (Zdn sub u pv) 33 (0,0)))(h:CRd b l x s S w)(c1:ZI l s [103]=false)(c2:ZI l s [112]=false)(c3:ZI l s [48,49,50,51,52,53,54,55,56,57]=false)(c4:ZI l s [119]=false):
 Calls Tryz.prog 123 #[.pointer (some ⟨b,0,none⟩),.pointer (some ⟨g,0,none⟩)] w fun r w'=>r=.returned (.bool false)∧Zfs b g l x S u pv w sub s w':=by
 have H:=hid h;have HG:=hid hg;have HX:=hid (fun t w' (f:Fr nob w w')=>ZaI b l x s S t w' (by omega) (h.on f));obtain⟨mv,hm⟩:=h;have rr:=Zd hm.blk;have rg:=ZG hg;have j:=lt_heap hg;have n:g≠b:=fun e=>hgS (by rw[e];exact hm.me);obtain⟨p0,ms,e0⟩:=s;obtain⟨tx,tr,pt,m,al,pr,fi⟩:=sub;simp only at ha rr rg;have HM:=hid hm;clear hm hg;go_enter Tryz.func123,Tryz.ntmps123;go_wp2_with fail;refine(HX.out [103] _ (Fr.refl _ _)).mono ?_;rintro z w1 ⟨rfl,d⟩;have f1:=d;clear d;rw[c1];go_wp2_with fail;refine(HX.out [112] _ f1).mono ?_;rintro z w2 ⟨rfl,a⟩;have f2:=f1.trans' a;clear f1 a;rw[c2];go_wp2_with fail;refine(HX.out [48,49,50,51,52,53,54,55,56,57] _ f2).mono ?_;rintro z w3 ⟨rfl,i⟩;have f3:=f2.trans' i;clear f2 i;rw[c3];go_wp2_with fail;refine(HX.out [119] _ f3).mono ?_;rintro z w4 ⟨rfl,c⟩;have f4:=f3.trans' c;clear f3 c;rw[c4];clear rr rg;go_wp2;go_ret;exact⟨rfl,f4.heap HG.out (fun x=>x),H.out.on f4,Stp.of f4⟩
theorem Zlc(sub:SV)(s:AdS)(w:World)(hl:l.length≤99000)(ha:s.at_≤l.length)(hS:∀k,S k→k<w.heap.size)(hgS:¬S g)(hg:w.heap[g]? =some (.cells (Zdn sub u pv) 33 (0,0)))(h:CRd b l x s S w):
 Calls Tryz.prog 123 #[.pointer (some ⟨b,0,none⟩),.pointer (some ⟨g,0,none⟩)] w fun r w'=>r=.returned (.bool (Zap l sub s).1)∧Zfs b g l x S u pv w (Zap l sub s).2.1 (Zap l sub s).2.2 w':=by
 unfold Zap;simp only;cases c1:ZI l s [103]with
 |true=>
  simp only[if_true];cases hf:sub.all with
  |true=>exact Zk9 b g l x S u pv sub s w hl ha hS hgS hg h c1 hf
  |false=>exact Zju b g l x S u pv sub s w hl ha hS hgS hg h c1 hf
 |false=>
  simp only[Bool.false_eq_true,if_false];cases c2:ZI l s [112]with
  |true=>
   simp only[if_true];cases hf:sub.print with
   |true=>exact Zla b g l x S u pv sub s w hl ha hS hgS hg h c1 c2 hf
   |false=>exact Zjv b g l x S u pv sub s w hl ha hS hgS hg h c1 c2 hf
  |false=>
   simp only[Bool.false_eq_true,if_false];cases c3:ZI l s [48,49,50,51,52,53,54,55,56,57]with
   |true=>
    simp only[if_true];by_cases hn:0<sub.nth
    ·simp only[if_pos hn];exact Zjw b g l x S u pv sub s w hl ha hS hgS hg h c1 c2 c3 hn
    ·simp only[if_neg hn];exact Zlb b g l x S u pv sub s w hl ha hS hgS hg h c1 c2 c3 hn
   |false=>
    simp only[Bool.false_eq_true,if_false];cases c4:ZI l s [119]with
    |true=>
     simp only[if_true];exact ZqY b g l x S u pv sub s w hl ha hS hgS hg h c1 c2 c3 c4
    |false=>
     simp only[Bool.false_eq_true,if_false];exact Zor b g l x S u pv sub s w hl ha hS hgS hg h c1 c2 c3 c4
end
def PrO(S:Nat→Prop)(w:World)(l:List Prt)(v:Value):Prop:=OwP w l v∧∀k,v.ownBlock=some k→¬S k
theorem PrO.keep{S S' X:Nat→Prop}{w w':World}{l:List Prt}{v:Value}(h:PrO S w l v)(f:Fr X w w')(hX:∀k,X k→S k)(hS:∀k,k<w.heap.size→S' k→S k):PrO S' w' l v:=
 ⟨ownsRow_fr h.1 f (fun k hk x=>h.2 k hk (hX k x)),fun k hk x=>h.2 k hk (hS k (own_lt h.1 k hk) x)⟩
theorem PrO.nil(S:Nat→Prop)(w:World):PrO S w [] (.slice none 0 0):=⟨World.ownsRow_nil _ _ _ _,fun _ h=>by cases h⟩
def ZqE(b:Nat)(l:List UInt8)(x:Bool)(S O:Nat→Prop)(w:World)(R:SV×AdS)(r:Ending)(w':World):Prop:=
 ∃u pv S',r=.returned (.agg (Zdn R.1 u pv))∧RN (SO S' O) w' R.1.tree u∧PrO (SO S' O) w' R.1.parts pv∧CRd b l x R.2 S' w'∧Stp S w S' w'
def A2(S O:Nat→Prop)(r:Nat):Nat→Prop:=fun k=>S k∨(O k∨(k=r∨k=r+1))
theorem ZhV{x:Bool}{l:List UInt8}{d:UInt8}{s:AdS}(hl:l.length≤99000):(Zav x l d s).1.2.size≤3000000:=by
 have a:(Zr l d true s).1.length≤99000:=by
  unfold Zr;split
  ·simp
  ·have:=ZdC l d true (l.length+1) s.at_ [];simp only[List.length_nil]at this;simp only;omega
 unfold Zav;simp only;generalize(if(Zr l d true s).2.e=0∧(Zr l d true s).1=[]then failC (Zr l d true s).2 2 s.at_ else(Zr l d true s).2)=s2;have hn:Nd.nil.size≤3000000:=by decide
 split
 ·exact hn
 ·cases hp:Zac prg x (Zr l d true s).1 with
  |inl z=>exact hn
  |inr z=>have:=(parseD_marks hp).2.2;show z.1.size≤_;omega
theorem Zek{l:List UInt8}{d:UInt8}{rx:Bool}{s:AdS}:(Zr l d rx s).1.length≤l.length:=by
 unfold Zr;split
 ·simp
 ·have:=ZdC l d rx (l.length+1) s.at_ [];simp only[List.length_nil]at this;simp only;omega
def Zqd(b:Nat)(w:World):Nat:=match w.cell? ⟨b,1,none⟩with
 |some (.int _ n)=>n.toNat
 |_=>0
theorem Zft{b:Nat}{l:List UInt8}{x:Bool}{s:AdS}{S:Nat→Prop}{w:World}(h:CRd b l x s S w):Zqd b w=s.at_:=by
 obtain⟨mv,h⟩:=h;have c:=cell_at (j:=1) h.blk rfl;unfold Zqd;rw[c];rfl
theorem ZcG{S S':Nat→Prop}{w w2 wK wF:World}(f2:Fr nob w w2)(hs2:w2.heap.size=w.heap.size+2)(hS:∀k,S k→k<w.heap.size)(st:Stp (GS S (w.heap.size+1)) w2 (GS S' (w.heap.size+1)) wK)(f:Fr (fun k=>k=w.heap.size) wK wF):Stp S w S' wF:=by
 refine⟨((f2.any).trans st.fr (fun i hi h=> ?_)).trans f (fun i hi h=> ?_),fun k hk h=> ?_,fun hl k h=> ?_⟩
 ·rcases h with h|h
  ·exact h
  ·omega
 ·have h:i=w.heap.size:=h;omega
 ·rcases st.old k (by omega) (.inl h)with h|h
  ·exact h
  ·omega
 ·have:=st.lt (fun j hj=>by rcases hj with hj|hj;have:=hS j hj;omega;omega) k (.inl h);have:=f.size;omega
theorem RN.none{S:Nat→Prop}{w:World}{n:Nd}{v:Value}(h:RN S w n v):RN nob w n v:=RN.keep (Fr.refl nob _) (fun _ _ x=>x.elim) (fun _ _ x=>x.elim) _ _ h
theorem A2.so{S O:Nat→Prop}{r k:Nat}(h:SO S O k):A2 S O r k:=by
 rcases h with h|h
 ·exact .inl h
 ·exact .inr (.inl h)
theorem flagC_keep(l:List UInt8)(sub:SV)(s:AdS):(Zap l sub s).2.1.text=sub.text∧(Zap l sub s).2.1.tree=sub.tree∧(Zap l sub s).2.1.parts=sub.parts:=by
 unfold Zap;split
 ·exact⟨rfl,rfl,rfl⟩
 split
 ·exact⟨rfl,rfl,rfl⟩
 split
 ·simp only;split<;>exact⟨rfl,rfl,rfl⟩
 split<;>exact⟨rfl,rfl,rfl⟩
theorem ZpQ{S O:Nat→Prop}{r k:Nat}(h:GS S (r+1) k):A2 S O r k:=by
 rcases h with h|h
 ·exact .inl h
 ·exact .inr (.inr (.inr h))
def isIf:Value→Bool
 | .nilIface=>true
 | .iface _ _=>true
 |_=>false
theorem Zwn{P:Program}{w:World}{b j:Nat}{u:Value}(o1:isIf u=true)(hc:(w.cell? ⟨b,j,none⟩).isSome=true)(hf:w.frozen? ⟨b,j,none⟩=false):
 Sem.run P (storeCells ⟨b,j,none⟩ [u]) w=.ok () (w.setCell ⟨b,j,none⟩ u):=by
 obtain⟨old,ho⟩:=Option.isSome_iff_exists.1 hc;cases u<;>first|(cases o1;done)|simp[go_sem,ho,hf]
theorem Zwv(w:World)(b:Nat)(cs:Array Value):Fr (fun k=>k=b) w (w.setRow b cs):=⟨rfl,rfl,rfl,by simp,fun k _ hk=>setRow_other w b k cs hk⟩
theorem info_S7(a b c d e f g:Value):(Tryz.prog.info? 33).map (·.size)=some (#[a,b,c,d,e,f,g]:Array Value).size:=by show _=some 7;kernel_rfl
theorem one_S7{u:Value}(o:isIf u=true)(t:ByteArray)(pa:Option Addr)(pn pc:Nat)(n:Int)(a p:Bool)(f:ByteArray):(#[.string t,u,.slice pa pn pc,.int .i64 n,.bool a,.bool p,.string f]:Array Value).all (·.oneCell')=true:=by
 cases u<;>first|(cases o;done)|simp[Value.oneCell']
theorem Zwo(b:Nat)(l:List UInt8)(x:Bool)(s:AdS)(S O:Nat→Prop)(w:World)(hl:l.length≤99000)(ha:s.at_≤l.length)(hm:s.marks.length≤100000)(hS:∀k,S k→k<w.heap.size)(hO:∀k,O k→k<w.heap.size)
 (W0:World) (hE:Env W0) (hW:Fr nob W0 w) (hSW:∀k,S k→W0.heap.size≤k) (h:CRd b l x s S w):
 Calls Tryz.prog 92 #[.pointer (some ⟨b,0,none⟩)] w (ZqE b l x S O w (Zet x l s)):=by
 obtain⟨w1,Q⟩:∃w1,w1=w.alloc (.cells #[.string ⟨#[]⟩,.nilIface,.slice none 0 0,.int .i64 0,.bool false,.bool false,.string ⟨#[]⟩] 33):=⟨_,rfl⟩;have f1:Fr nob w w1:=by rw[Q];exact(Fr.refl _ _).alloc _
 have b2:w1.heap.size=w.heap.size+1:=by rw[Q];simp
 obtain⟨w2,K⟩:∃w2,w2=w1.alloc (.cells #[.string ⟨#[]⟩,.nilIface,.slice none 0 0,.int .i64 0,.bool false,.bool false,.string ⟨#[]⟩] 33):=⟨_,rfl⟩;have f2:Fr nob w w2:=by rw[K];exact f1.alloc _
 have d3:w2.heap.size=w.heap.size+2:=by rw[K];simp;omega
 have e6:w2.heap[w.heap.size]? =some (.cells #[.string ⟨#[]⟩,.nilIface,.slice none 0 0,.int .i64 0,.bool false,.bool false,.string ⟨#[]⟩] 33 (0,0)):=by rw[K];exact Ze _ (by rw[Q];exact newAt _ _)
 have c5:w2.heap[w.heap.size+1]? =some (.cells #[.string ⟨#[]⟩,.nilIface,.slice none 0 0,.int .i64 0,.bool false,.bool false,.string ⟨#[]⟩] 33 (0,0)):=by rw[K];exact Zg _ _ _ b2.symm
 have M:¬S w.heap.size:=fun e=>absurd (hS _ e) (by omega);have D:¬S (w.heap.size+1):=fun e=>absurd (hS _ e) (by omega);have a7:=hid (ZiF b l x s S w2 hl ha (h.on f2));have J:=Za7 (l:=l) ha;have X:(Zv l s).2.marks=s.marks:=by unfold Zv failC;split;split<;>rfl;split;split<;>rfl;rfl
 have C:=fun d=>Zeg (l:=l) x d J;have G:=fun d=>ZhV (x:=x) (l:=l) (d:=d) (s:=(Zv l s).2) hl;have i0:=hid Q;have i8:=hid K;have F2:=hid f2;have f6:=hid e6;have c7:=hid c5;have V:=hid M;have Y:=hid D;have i2:=hid b2;have y:=hid d3;have HS:=hid hS;have HO:=hid hO;have HE:=hid hE;have i4:=hid hW;have e8:=hid hSW;clear h f1 f2 Q K b2 d3 e6 c5 M D hS hO hE hW hSW;unfold Zet;simp only;obtain⟨DL,c9⟩:∃DL,Zv l s=DL:=⟨_,rfl⟩;obtain⟨d,s1⟩:=DL;rw[c9]at a7 J X C G⊢;simp only at a7 J X C G⊢;have j0:s1.marks.length≤100000:=by rw[X];exact hm
 clear c9 X hm ha;have C:=C d;have G:=G d;have c0:=hid (fun w' (hS':∀k,S k→k<w'.heap.size) (hO':∀k,(O k∨(k=w.heap.size∨k=w.heap.size+1))→k<w'.heap.size) (hW':Fr nob W0 w') (hc:CRd b l x s1 S w')=>ZmL b l d x s1 S (fun k=>O k∨(k=w.heap.size∨k=w.heap.size+1)) w' hl J j0 hS' hO' W0 HE.out hW' e8.out hc);obtain⟨RG,d1⟩:∃RG,Zav x l d s1=RG:=⟨_,rfl⟩;obtain⟨⟨tx,n⟩,s2⟩:=RG;rw[d1]at c0 C G⊢;simp only at c0 C G⊢;clear d1;have HB:=hid (fun S' w' h=>Zck b l d x false s2 S' w' hl C h);have g2:=Zek (l:=l) (d:=d) (rx:=false) (s:=s2);have a4:=ZaW (l:=l) (s:=s2) d false C;obtain⟨BT,d2⟩:∃BT,Zr l d false s2=BT:=⟨_,rfl⟩;obtain⟨t,s3⟩:=BT;rw[d2]at HB g2 a4⊢;simp only at HB g2 a4⊢;clear d2;have a6:=hid (fun w'=>ZmK t n.groups w' (by omega));obtain⟨PP,f0⟩:∃PP,Zao n.groups t false []=PP:=⟨_,rfl⟩;obtain⟨ps,pe⟩:=PP;rw[f0]at a6⊢;simp only at a6⊢
 clear f0;obtain⟨FF,a8⟩:∃FF,Zai l (l.length+2) {SV.zero with text:=tx,tree:=n,parts:=ps} s3=FF:=⟨_,rfl⟩;rw[a8];have d0:=hid a8;clear a8;obtain⟨R,hR⟩:∃R,(if s1.e≠0 then(SV.zero,s1)else if s3.e≠0 then({SV.zero with text:=tx,tree:=n},s3)else if pe≠0 then({SV.zero with text:=tx,tree:=n},failC s3 pe s2.at_)else FF)=R:=⟨_,rfl⟩;have HR:=hid hR;rw[hR];clear hR;go_enter Tryz.func92,Tryz.ntmps92;go_wp2_with(first|rw[←i0.out]|rw[i2.out]|rw[←i8.out]);refine a7.out.mono ?_;rintro z w3 ⟨rfl,e0,e7⟩;have H3:=hid e0;have B:=hid e7;clear e0 e7;go_wp2_with fail;refine(cm_ok b l x s1 S w3 H3.out).mono ?_;rintro z w4 ⟨rfl,f4⟩;by_cases h1:s1.e=0
 ·have c1:∀k,S k→k<w4.heap.size:=fun k hk=>by have:=HS.out k hk;have:=B.out.fr.size;have:=y.out;have:=f4.size;omega
  have e3:∀k,(O k∨(k=w.heap.size∨k=w.heap.size+1))→k<w4.heap.size:=fun k hk=>by
   have:=B.out.fr.size;have:=y.out;have:=f4.size;rcases hk with hk|hk|hk
   ·have:=HO.out k hk;omega
   ·omega
   ·omega
  have c8:Fr nob W0 w4:=(((Stp.of F2.out).trans B.out).trans (Stp.of f4)).from i4.out e8.out;have z4:=f4.heap (B.out.fr.heap f6.out V.out) (fun x=>x);have y4:=f4.heap (B.out.fr.heap c7.out Y.out) (fun x=>x);have h6:=hid (c0.out w4 c1 e3 c8 (H3.out.on f4));have g5:=hid (B.out.trans (Stp.of f4));have Z4:=hid z4;have Y4:=hid y4;have g4:=hid c1;clear c1 e3 c8 z4 y4 f4;rw[show(s1.e==0)=true by simpa using h1];have f7:=hid ((if_neg (fun h=>h h1)).symm.trans HR.out);go_wp2_with fail;refine h6.out.mono ?_;rintro z w5 ⟨u,S',rfl,b9,h5,E⟩;have z5:=E.fr.heap Z4.out V.out;have y5:=E.fr.heap Y4.out Y.out;have M:¬S' w.heap.size:=fun e=>V.out (E.old _ (lt_heap Z4.out) e);have D:¬S' (w.heap.size+1):=fun e=>Y.out (E.old _ (lt_heap Y4.out) e);have c4:=E.lt g4.out;have v5:=ZG y5 _ (Fr.refl _ _);have g6:((w5.setCell ⟨w.heap.size+1,0,none⟩ (.string ⟨tx.toArray⟩)).setCell ⟨w.heap.size+1,1,none⟩ u).heap[w.heap.size+1]? =some (.cells #[.string ⟨tx.toArray⟩,u,.slice none 0 0,.int .i64 0,.bool false,.bool false,.string ⟨#[]⟩] 33 (0,0)):=Za (Za y5 0 _) 1 _
  have z6:=Zc (p:=⟨w.heap.size+1,1,none⟩) (Zc (p:=⟨w.heap.size+1,0,none⟩) z5 (by show w.heap.size≠w.heap.size+1;omega) (.string ⟨tx.toArray⟩)) (by show w.heap.size≠w.heap.size+1;omega) u;have c6:=(h5.setg D 0 (.string ⟨tx.toArray⟩)).setg D 1 u;have fs:Fr (fun k=>k=w.heap.size+1) w5 ((w5.setCell ⟨w.heap.size+1,0,none⟩ (.string ⟨tx.toArray⟩)).setCell ⟨w.heap.size+1,1,none⟩ u):=((Fr.refl (fun k=>k=w.heap.size+1) w5).setCell (p:=⟨w.heap.size+1,0,none⟩) (fun _=>rfl) _).setCell (p:=⟨w.heap.size+1,1,none⟩) (fun _=>rfl) _;have h2:=ZG (Za y5 0 (.string ⟨tx.toArray⟩)) _ (Fr.refl _ _);have p1:((w5.setCell ⟨w.heap.size+1,0,none⟩ (.string ⟨tx.toArray⟩)).cell? ⟨w.heap.size+1,1,none⟩).isSome=true:=by rw[cell_at (j:=1) (v:=.nilIface) (Za y5 0 (.string ⟨tx.toArray⟩)) rfl];rfl
  obtain⟨w6,b1⟩:∃w6,w6=(w5.setCell ⟨w.heap.size+1,0,none⟩ (.string ⟨tx.toArray⟩)).setCell ⟨w.heap.size+1,1,none⟩ u:=⟨_,rfl⟩;rw[←b1]at g6 z6 c6 fs;have i7:=hid b1;have G6:=hid g6;have Z6:=hid z6;have C6:=hid c6;have g7:=hid (RN.keep fs (fun k _ hk=>.inr (.inr (.inr hk))) (fun _ _ x=>x) _ _ b9:RN (A2 S' O w.heap.size) w6 n u);have j1:=hid c4;have N1:=hid M;have N2:=hid D;have i3:=hid (show Stp (GS S (w.heap.size+1)) w2 (GS S' (w.heap.size+1)) w6 from((Stp.gs g5.out (by have:=y.out;omega)).trans (Stp.gs E (lt_heap Y4.out))).trans ⟨fs.mono (fun k _ hk=>.inr hk),fun _ _ x=>x,fun hl k hk=>by have:=hl k hk;have:=fs.size;omega⟩);have o1:isIf u=true:=by rcases b9.shape with rfl|⟨iu,yu,rfl⟩<;>rfl
  obtain⟨j2,e2⟩:=c6;have r6:=Zd e2.blk _ (Fr.refl _ _);clear b9 h5 E z5 y5 M D c4 g6 z6 e2 fs b1;have sc:=Zwn (P:=Tryz.prog) o1 p1 h2.2.2.1;go_wp2_with(first|rw[sc]|rw[←i7.out]);refine(HB.out S' w6 C6.out).mono ?_;rintro z w7 ⟨rfl,h7,N⟩;have a5:=hid h7;have G7:=hid (N.fr.heap G6.out N2.out);have f3:=hid (N.fr.heap Z6.out N1.out);have b6:=hid (RN.keep N.fr (fun k _ hk=>.inl hk) (fun k _ hk=>hk) _ _ g7.out:RN (A2 S' O w.heap.size) w7 n _);have d7:=hid (i3.out.trans (Stp.gs N (lt_heap G6.out)));clear h7 N;go_wp2_with fail;refine(cm_ok b l x s3 S' w7 a5.out).mono ?_;rintro z wq ⟨rfl,fq⟩;have vq:=ZG (fq.heap G7.out (fun x=>x)) _ (Fr.refl _ _);have h8:=hid (b6.out.on fq);have FQ:=hid fq;clear fq;by_cases h3:s3.e=0
  ·rw[show(s3.e==0)=true by simpa using h3];have d5:=hid ((if_neg (fun h=>h h3)).symm.trans f7.out);go_wp2_with fail;refine(groups_any _ n _ _ (Nat.le_refl _) G h8.out.none).mono ?_;rintro z w8 ⟨rfl,g1⟩;have f8:=FQ.out.trans' g1;have g8:=f8.heap G7.out (fun x=>x);have v8:=ZG g8 _ (Fr.refl _ _);have G8:=hid g8;have Z8:=hid (f8.heap f3.out (fun x=>x));have C8:=hid (a5.out.on f8);have e4:=hid (b6.out.on f8);have Z:=hid (d7.out.trans (Stp.of f8));have d9:=hid (show∀k,S' k→k<w8.heap.size from fun k hk=>Z.out.lt (fun j hj=>by have:=y.out;rcases hj with hj|hj;have:=HS.out j hj;omega;omega) k (.inl hk));have a9:=hid (show w.heap.size+2≤w8.heap.size by have:=Z.out.fr.size;have:=y.out;omega);clear g8 f8 g1 vq;go_wp2_with fail;refine(a6.out w8).mono ?_;rintro z w9 ⟨pv,rfl,W,b0,f9⟩;obtain⟨pa,pc,rfl⟩:=Zb W;by_cases b3:pe=0
   ·subst b3;obtain rfl:=(if_neg (fun h=>h rfl)).symm.trans d5.out;have d8:PrO (A2 S' O w.heap.size) w9 ps (.slice pa ps.length pc):=⟨W,fun k hk hA=>by
     have:=b0 k hk;rcases hA with hA|hA|hA
     ·have:=d9.out k hA;omega
     ·have:=HO.out k hA;have:=a9.out;omega
     ·have:=a9.out;omega⟩
    have g9:=f9.heap G8.out (fun x=>x);have z9:=f9.heap Z8.out (fun x=>x);have v9:=ZG g9 _ (Fr.refl _ _);have b5:(w9.setCell ⟨w.heap.size+1,2,none⟩ (.slice pa ps.length pc)).heap[w.heap.size+1]? =some (.cells #[.string ⟨tx.toArray⟩,u,.slice pa ps.length pc,.int .i64 0,.bool false,.bool false,.string ⟨#[]⟩] 33 (0,0)):=Za g9 2 _;have b4:=Zc (p:=⟨w.heap.size+1,2,none⟩) z9 (by show w.heap.size≠w.heap.size+1;omega) (.slice pa ps.length pc);have fs:Fr (fun k=>k=w.heap.size+1) w9 (w9.setCell ⟨w.heap.size+1,2,none⟩ (.slice pa ps.length pc)):=(Fr.refl (fun k=>k=w.heap.size+1) w9).setCell (p:=⟨w.heap.size+1,2,none⟩) (fun _=>rfl) _;have b7:=(C8.out.on f9).setg N2.out 2 (.slice pa ps.length pc);obtain⟨F,U⟩:∃F,F=w9.setCell ⟨w.heap.size+1,2,none⟩ (.slice pa ps.length pc):=⟨_,rfl⟩;rw[←U]at b5 b4 fs b7;have f5:=hid U;have h4:=hid b5;have i6:=hid b4;have h0:=hid b7
    have c3:=e4.out.on f9;have c2:=hid (RN.keep fs (fun k _ hk=>.inr (.inr (.inr hk))) (fun _ _ x=>x) _ _ c3:RN (A2 S' O w.heap.size) F n u);have g3:=hid (d8.keep fs (fun k hk=>.inr (.inr (.inr hk))) (fun _ _ x=>x):PrO (A2 S' O w.heap.size) F ps _);have e9:=hid ((Z.out.trans (Stp.of f9)).trans (⟨fs.mono (fun k _ hk=>.inr hk),fun _ _ x=>x,fun hl k hk=>by have:=hl k hk;have:=fs.size;omega⟩:Stp (GS S' (w.heap.size+1)) w9 (GS S' (w.heap.size+1)) F));have a1:=hid (show w8.heap.size≤F.heap.size by have:=f9.size;have:=fs.size;omega);clear W b0 d8 g9 z9 b5 b4 fs b7 U c3 f9;go_wp2_with(rw[←f5.out])
    go_loopw [51] (fun _ wr=>∃(m:Nat) (a:SV) (s':AdS),Zai l m a s'=FF∧l.length<m+s'.at_∧s'.at_≤l.length∧a.text=tx∧a.tree=n∧a.parts=ps∧wr.heap[w.heap.size+1]? =some (.cells (Zdn a u (.slice pa ps.length pc)) 33 (0,0))∧CRd b l x s' S' wr∧Stp (GS S' (w.heap.size+1)) F (GS S' (w.heap.size+1)) wr) (fun _ wr=>l.length-Zqd b wr)
    case atStart=>exact⟨l.length+2,_,s3,d0.out,by omega,a4,rfl,rfl,rfl,h4.out,h0.out,Stp.refl _ _⟩
    case round=>
     obtain⟨m,a,s',hF,hm,i5,d6,d4,e5,hg,hc,b8⟩:=hrel;cases m with
     |zero=>omega
     |succ m=>
      rw[Zai]at hF;have A:=fun(c:SV) (s2:AdS) (h:Zap l a s'=(true,c,s2))=>Zdl h;have f:=flagC_keep l a s';have a0:=Zlc b (w.heap.size+1) l x S' u (.slice pa ps.length pc) a s' wr hl i5 (fun k hk=>b8.lt (fun j hj=>by rcases hj with hj|hj;have:=d9.out j hj;have:=a1.out;omega;have:=a1.out;have:=a9.out;omega) k (.inl hk)) N2.out hg hc;have a3:=Zft hc;obtain⟨FL,a2⟩:∃FL,Zap l a s'=FL:=⟨_,rfl⟩;obtain⟨q,c,g0⟩:=FL;rw[a2]at hF A f a0;simp only at a0 f;have i1:=hid b8;have i9:=hid a0;have e1:=hid a3;have L:=hid (show c.text=tx∧c.tree=n∧c.parts=ps from⟨f.1.trans d6,f.2.1.trans d4,f.2.2.trans e5⟩);clear b8 a0 a3 f d6 d4 e5 hg hc a2;go_wp2_with fail;refine i9.out.mono ?_;rintro z wA ⟨rfl,gA,cA,I⟩;have GA:=hid gA;have CA:=hid cA;have H:=hid (i1.out.trans I);clear gA cA I
      cases q with
      |true=>
       obtain⟨k1,k2⟩:=A c g0 rfl;simp only at hF;have h9:=hid hF;clear hF A;go_wp2;go_roundw
       case rel=>exact⟨m,c,g0,h9.out,by omega,k2,L.out.1,L.out.2.1,L.out.2.2,GA.out,CA.out,H.out⟩
       case measure=>rw[e1.out,Zft CA.out];omega
      |false=>
       simp only at hF;subst hF;clear A d0;have o:=H.out.fr.heap i6.out (by rintro(h|h);exact N1.out h;exact absurd h (by omega));have vF:=ZG GA.out _ (Fr.refl _ _);have rF:=ZG o _ (Fr.refl _ _);have g:=hid o;have FK:=hid (H.out.fr.weak (fun k hk=>ZpQ (O:=O) (r:=w.heap.size) hk));clear o;go_wp2_with(refine wpList_store_row rfl 33 _ _ rfl w.heap.size _ rfl rfl 33 _ g.out (info_S7 _ _ _ _ _ _ _) rfl (one_S7 (by first|rfl|exact o1) _ _ _ _ _ _ _ _) ?_);(try simp only[Exit.inBlock,Exit.then]);refine bodyPost_ret (results_cell_row rfl _ _ w.heap.size 33 _ (0,0) _ rfl (setRow_heap _ _ _ _ _ _ g.out) Tryz.underlying33 rfl (info_S7 _ _ _ _ _ _ _)) rfl ⟨u,_,S',rfl,?_,?_,CA.out.keep (Zwv _ _ _) (fun k hk e=>N1.out (by have hk:k=_:=hk;rw[←hk];exact e)),ZcG F2.out y.out HS.out (e9.out.trans H.out) (Zwv _ _ _)⟩
       ·show RN (SO S' O) _ c.tree u;rw[L.out.2.1];exact RN.keep (FK.out.trans (Zwv _ _ _) (fun i hi h=>.inr (.inr (.inl h)))) (fun _ _ hk=>hk) (fun _ _ hk=>A2.so hk) _ _ c2.out
       ·show PrO (SO S' O) _ c.parts _;rw[L.out.2.2];exact g3.out.keep (FK.out.trans (Zwv _ _ _) (fun i hi h=>.inr (.inr (.inl h)))) (fun _ hk=>hk) (fun _ _ hk=>A2.so hk)
   ·have j3:(pe !=0)=true:=by simpa using b3
    obtain rfl:=(if_pos b3).symm.trans d5.out;have F9:=hid f9;clear W b0 f9;go_wp2_with fail;refine(cm_fail b l x s3 S' pe s2.at_ w9 (C8.out.on F9.out)).mono ?_;rintro z wA ⟨rfl,cA,I⟩;have CA:=hid cA;have H:=hid (((Stp.of F9.out:Stp S' w8 S' w9).trans I));have GA:=hid (I.fr.heap (F9.out.heap G8.out (fun x=>x)) N2.out);have o:=I.fr.heap (F9.out.heap Z8.out (fun x=>x)) N1.out;have vF:=ZG GA.out _ (Fr.refl _ _);have rF:=ZG o _ (Fr.refl _ _);have g:=hid o;clear o cA I;go_wp2_with(refine wpList_store_row rfl 33 _ _ rfl w.heap.size _ rfl rfl 33 _ g.out (info_S7 _ _ _ _ _ _ _) rfl (one_S7 (by first|rfl|exact o1) _ _ _ _ _ _ _ _) ?_);(try simp only[Exit.inBlock,Exit.then]);refine bodyPost_ret (results_cell_row rfl _ _ w.heap.size 33 _ (0,0) _ rfl (setRow_heap _ _ _ _ _ _ g.out) Tryz.underlying33 rfl (info_S7 _ _ _ _ _ _ _)) rfl ⟨u,_,S',rfl,?_,PrO.nil _ _,CA.out.keep (Zwv _ _ _) (fun k hk e=>N1.out (by have hk:k=_:=hk;rw[←hk];exact e)),ZcG F2.out y.out HS.out (Z.out.trans (Stp.gs H.out (lt_heap G8.out))) (Zwv _ _ _)⟩
    exact RN.keep ((H.out.fr.weak (fun k hk=>.inl hk)).trans (Zwv _ _ _) (fun i hi h=>.inr (.inr (.inl h)))) (fun _ _ hk=>hk) (fun _ _ hk=>A2.so hk) _ _ e4.out
  ·rw[show(s3.e==0)=false by simpa using h3];obtain rfl:=(if_pos h3).symm.trans f7.out;have GA:=hid (FQ.out.heap G7.out (fun x=>x));have o:=FQ.out.heap f3.out (fun x=>x);have rF:=ZG o _ (Fr.refl _ _);have g:=hid o;clear o;go_wp2_with(refine wpList_store_row rfl 33 _ _ rfl w.heap.size _ rfl rfl 33 _ g.out (info_S7 _ _ _ _ _ _ _) rfl (one_S7 (by first|rfl|exact o1) _ _ _ _ _ _ _ _) ?_);(try simp only[Exit.inBlock,Exit.then]);refine bodyPost_ret (results_cell_row rfl _ _ w.heap.size 33 _ (0,0) _ rfl (setRow_heap _ _ _ _ _ _ g.out) Tryz.underlying33 rfl (info_S7 _ _ _ _ _ _ _)) rfl ⟨u,_,S',rfl,?_,PrO.nil _ _,(a5.out.on FQ.out).keep (Zwv _ _ _) (fun k hk e=>N1.out (by have hk:k=_:=hk;rw[←hk];exact e)),ZcG F2.out y.out HS.out (d7.out.trans (Stp.of FQ.out)) (Zwv _ _ _)⟩;exact RN.keep (FQ.out.any.trans (S:=A2 S' O w.heap.size) (Zwv _ _ _) (fun i hi h=>.inr (.inr (.inl h)))) (fun _ _ hk=>hk) (fun _ _ hk=>A2.so hk) _ _ b6.out
 ·rw[show(s1.e==0)=false by simpa using h1];obtain rfl:=(if_pos h1).symm.trans HR.out;have z4:=f4.heap (B.out.fr.heap f6.out V.out) (fun x=>x);have y4:=f4.heap (B.out.fr.heap c7.out Y.out) (fun x=>x);have vF:=ZG y4 _ (Fr.refl _ _);have rF:=ZG z4 _ (Fr.refl _ _);have g:=hid z4;have F4:=hid f4;clear z4 y4 f4;go_wp2_with(refine wpList_store_row rfl 33 _ _ rfl w.heap.size _ rfl rfl 33 _ g.out (info_S7 _ _ _ _ _ _ _) rfl (one_S7 (by first|rfl|exact o1) _ _ _ _ _ _ _ _) ?_);(try simp only[Exit.inBlock,Exit.then]);refine bodyPost_ret (results_cell_row rfl _ _ w.heap.size 33 _ (0,0) _ rfl (setRow_heap _ _ _ _ _ _ g.out) Tryz.underlying33 rfl (info_S7 _ _ _ _ _ _ _)) rfl ⟨.nilIface,_,S,rfl,(by show RN _ _ Nd.nil _;rw[RN]),PrO.nil _ _,(H3.out.on F4.out).keep (Zwv _ _ _) (fun k hk e=>V.out (by have hk:k=_:=hk;rw[←hk];exact e)),ZcG F2.out y.out HS.out (Stp.gs (B.out.trans (Stp.of F4.out)) (by have:=y.out;omega)) (Zwv _ _ _)⟩
end Go.Proofs.YtkfddjopbocpkaaGreatDoor
